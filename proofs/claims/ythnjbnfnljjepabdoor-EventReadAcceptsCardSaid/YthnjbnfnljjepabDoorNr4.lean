/- The plain readings of functions of the program, printed by a program of this claim. No conditions. -/
import Derived.Test.YthnjbnfnljjepabDoorNr3
import Derived.Lib.ItoaMem
import Derived.Lib.AtoiAllCases
import Derived.Lib.SplitLaws
section
namespace Go.Proofs.YthnjbnfnljjepabDoor
open Go Go.RowKit
set_option linter.unusedSimpArgs false
set_option linter.unusedVariables false
set_option maxRecDepth 100000

/-! interleave/event.Read -/
def pcj15c0 : PC :=
 .seq (.reg false [⟨(some 85), .mv (.t 6), none, []⟩,
              ⟨(some 86), .ixs 1 (.t 85) (.v (.int .i64 1)), none, [0]⟩,
              ⟨(some 87), .load none (.t 86), none, [1]⟩,
              ⟨(some 88), .call 34 [(.t 87), (.v (.string ⟨#[35]⟩))], none, [2]⟩,
              ⟨(some 89), .fld 8 (.t 5), none, [0, 1, 2, 3]⟩,
              ⟨none, .store 1 (.t 89) (.t 88), none, [4, 3, 3, 0, 1, 2, 3]⟩])
         (.seq (.seq (.reg false [⟨(some 90), .load (some 9) (.t 5), none, []⟩,
                ⟨(some 91), .call 11 [(.t 90)], none, [0]⟩,
                ⟨(some 92), .un .not (.t 91), none, [1]⟩,
                ⟨(some 93), .mv (.t 92), none, [2, 1]⟩,
                ⟨(some 94), .load (some 9) (.t 5), (some (93, false)), [3]⟩,
                ⟨(some 95), .call 13 [(.t 94)], (some (93, false)), [4, 3, 3]⟩,
                ⟨(some 96), .mv (.t 0), (some (93, false)), [3]⟩,
                ⟨(some 97), .bin .neq (.t 95) (.t 96), (some (93, false)), [5, 6, 3]⟩,
                ⟨(some 98), .pick (.t 93) (.v (.bool true)) (.t 97), none, [3, 7]⟩])
           (.cond (.t 98)
             (.seq (.reg false [⟨(some 99), .build [(.int .i64 0), (.int .i64 0), (.int .i64 0), (.int .i64 0), (.int .i64 0), (.int .i64 0), (.int .i64 0), (.int .i64 0), (.int .i64 0)] [], none, []⟩,
                   ⟨none, .store 9 (.t 2) (.t 99), none, [0, 0]⟩,
                   ⟨(some 3), .mv (.v (.int .i64 8)), none, [1, 0, 1]⟩])
              (.ret))
             (.skip)))
          (.seq (.reg false [⟨(some 100), .load (some 9) (.t 5), none, []⟩,
                ⟨none, .store 9 (.t 2) (.t 100), none, [0, 0]⟩,
                ⟨(some 3), .mv (.v (.int .i64 0)), none, [1, 0, 1]⟩])
           (.ret)))
def pcj15c1 : PC :=
 .reg false [⟨(some 79), .mv (.t 7), none, []⟩,
                 ⟨(some 80), .call 36 [(.t 79), (.v (.string ⟨#[58]⟩))], none, [0]⟩,
                 ⟨(some 78), .mv (.t 80), none, [1]⟩,
                 ⟨(some 81), .ext (.t 78) 0, none, [2]⟩,
                 ⟨(some 82), .ext (.t 78) 1, none, [2]⟩,
                 ⟨(some 83), .fld 6 (.t 5), none, [0, 1, 2, 3]⟩,
                 ⟨none, .store 1 (.t 83) (.t 81), none, [5, 3, 1, 0, 1, 2, 3]⟩,
                 ⟨(some 84), .fld 7 (.t 5), none, [0, 1, 2, 3, 4, 5, 6]⟩,
                 ⟨none, .store 1 (.t 84) (.t 82), none, [7, 4, 6, 0, 1, 2, 3, 4, 5, 6]⟩]
def pcj15c2 : PC :=
 .seq (.reg false [⟨(some 65), .mv (.t 4), none, []⟩,
            ⟨(some 66), .mv (.t 4), none, []⟩,
            ⟨(some 67), .len (.t 66), none, [1]⟩,
            ⟨(some 68), .bin .sub (.t 67) (.v (.int .i64 2)), none, [2]⟩,
            ⟨(some 69), .slc 1 (.t 65) (some (.t 68)) none, none, [0, 3]⟩,
            ⟨(some 6), .mv (.t 69), none, [4, 0, 1, 2, 3, 4]⟩])
       (.seq (.seq (.reg false [⟨(some 71), .mv (.t 6), none, []⟩,
              ⟨(some 72), .ixs 1 (.t 71) (.v (.int .i64 0)), none, [0]⟩,
              ⟨(some 73), .load none (.t 72), none, [1]⟩,
              ⟨(some 74), .call 37 [(.t 73), (.v (.string ⟨#[64]⟩))], none, [2]⟩,
              ⟨(some 70), .mv (.t 74), none, [3]⟩,
              ⟨(some 75), .ext (.t 70) 0, none, [4]⟩,
              ⟨(some 76), .ext (.t 70) 1, none, [4]⟩,
              ⟨(some 7), .mv (.t 75), none, [5, 3, 0, 1, 2, 3, 4, 5]⟩,
              ⟨(some 8), .mv (.t 76), none, [6, 7, 0, 1, 2, 3, 4, 5, 6, 7]⟩])
         (.seq (.reg false [⟨(some 77), .mv (.t 8), none, []⟩])
          (.cond (.t 77)
            (pcj15c1)
            (.skip))))
        (pcj15c0))
def pcj15c3 : PC :=
 .seq (.reg false [⟨(some 51), .mv (.t 4), none, []⟩,
                   ⟨(some 52), .ixs 1 (.t 51) (.v (.int .i64 2)), none, [0]⟩,
                   ⟨(some 53), .load none (.t 52), none, [1]⟩,
                   ⟨(some 54), .call 34 [(.t 53), (.v (.string ⟨#[]⟩))], none, [2]⟩,
                   ⟨(some 55), .fld 2 (.t 5), none, [0, 1, 2, 3]⟩,
                   ⟨none, .store 1 (.t 55) (.t 54), none, [4, 3, 3, 0, 1, 2, 3]⟩])
              (.reg false [⟨(some 57), .mv (.t 4), none, []⟩,
                   ⟨(some 58), .ixs 1 (.t 57) (.v (.int .i64 3)), none, [0]⟩,
                   ⟨(some 59), .load none (.t 58), none, [1]⟩,
                   ⟨(some 60), .call 36 [(.t 59), (.v (.string ⟨#[47]⟩))], none, [2]⟩,
                   ⟨(some 56), .mv (.t 60), none, [3]⟩,
                   ⟨(some 61), .ext (.t 56) 0, none, [4]⟩,
                   ⟨(some 62), .ext (.t 56) 1, none, [4]⟩,
                   ⟨(some 63), .fld 4 (.t 5), none, [0, 1, 2, 3, 4, 5]⟩,
                   ⟨none, .store 1 (.t 63) (.t 61), none, [7, 5, 3, 0, 1, 2, 3, 4, 5]⟩,
                   ⟨(some 64), .fld 5 (.t 5), none, [0, 1, 2, 3, 4, 5, 6, 7, 8]⟩,
                   ⟨none, .store 1 (.t 64) (.t 62), none, [9, 6, 8, 0, 1, 2, 3, 4, 5, 6, 7, 8]⟩])
def pcj15c4 : PC :=
 .reg false [⟨(some 30), .mv (.t 4), none, []⟩,
                  ⟨(some 31), .ixs 1 (.t 30) (.v (.int .i64 2)), none, [0]⟩,
                  ⟨(some 32), .load none (.t 31), none, [1]⟩,
                  ⟨(some 33), .call 36 [(.t 32), (.v (.string ⟨#[46]⟩))], none, [2]⟩,
                  ⟨(some 29), .mv (.t 33), none, [3]⟩,
                  ⟨(some 34), .ext (.t 29) 0, none, [4]⟩,
                  ⟨(some 35), .ext (.t 29) 1, none, [4]⟩,
                  ⟨(some 36), .fld 2 (.t 5), none, [0, 1, 2, 3, 4, 5]⟩,
                  ⟨none, .store 1 (.t 36) (.t 34), none, [7, 5, 3, 0, 1, 2, 3, 4, 5]⟩,
                  ⟨(some 37), .fld 3 (.t 5), none, [0, 1, 2, 3, 4, 5, 6, 7, 8]⟩,
                  ⟨none, .store 1 (.t 37) (.t 35), none, [9, 6, 8, 0, 1, 2, 3, 4, 5, 6, 7, 8]⟩]
def pcj15c5 : PC :=
 .seq (.reg false [⟨(some 48), .fld 1 (.t 5), none, []⟩,
                ⟨(some 49), .load none (.t 48), none, [0]⟩,
                ⟨(some 50), .call 21 [(.t 49)], none, [1]⟩,
                ⟨(some 47), .mv (.t 50), none, [2, 2]⟩])
           (.cond (.t 47)
             (pcj15c3)
             (pcj15c4))
def pcj15c6 : PC :=
 .block 0 (.seq (.reg false [⟨(some 39), .fld 1 (.t 5), none, []⟩,
             ⟨(some 40), .load none (.t 39), none, [0]⟩,
             ⟨(some 41), .bin .eql (.t 40) (.v (.int .i64 14)), none, [1]⟩,
             ⟨(some 38), .mv (.t 41), none, [2]⟩])
        (.cond (.t 38)
          (.reg false [⟨(some 42), .mv (.t 4), none, []⟩,
               ⟨(some 43), .ixs 1 (.t 42) (.v (.int .i64 2)), none, [0]⟩,
               ⟨(some 44), .load none (.t 43), none, [1]⟩,
               ⟨(some 45), .call 34 [(.t 44), (.v (.string ⟨#[103]⟩))], none, [2]⟩,
               ⟨(some 46), .fld 4 (.t 5), none, [0, 1, 2, 3]⟩,
               ⟨none, .store 1 (.t 46) (.t 45), none, [4, 3, 3, 0, 1, 2, 3]⟩])
          (pcj15c5)))
def pcj15 : PC :=
 .seq (.reg false [⟨(some 2), .new [(.int .i64 0), (.int .i64 0), (.int .i64 0), (.int .i64 0), (.int .i64 0), (.int .i64 0), (.int .i64 0), (.int .i64 0), (.int .i64 0)], none, []⟩,
       ⟨(some 3), .mv (.v (.int .i64 0)), none, []⟩])
  (.seq (.reg false [⟨(some 9), .mv (.t 0), none, []⟩,
        ⟨(some 10), .call 33 [(.t 9), (.v (.string ⟨#[32]⟩))], none, [0]⟩,
        ⟨(some 4), .mv (.t 10), none, [1, 1, 0, 1]⟩])
   (.seq (.seq (.reg false [⟨(some 11), .mv (.t 4), none, []⟩,
          ⟨(some 12), .len (.t 11), none, [0]⟩,
          ⟨(some 13), .bin .lss (.t 12) (.v (.int .i64 5)), none, [1]⟩,
          ⟨(some 14), .mv (.t 13), none, [2]⟩,
          ⟨(some 15), .mv (.t 4), (some (14, false)), [3]⟩,
          ⟨(some 16), .len (.t 15), (some (14, false)), [4, 3]⟩,
          ⟨(some 17), .bin .gtr (.t 16) (.v (.int .i64 6)), (some (14, false)), [5, 3]⟩,
          ⟨(some 18), .pick (.t 14) (.v (.bool true)) (.t 17), none, [3, 6]⟩])
     (.cond (.t 18)
       (.seq (.reg false [⟨(some 19), .build [(.int .i64 0), (.int .i64 0), (.int .i64 0), (.int .i64 0), (.int .i64 0), (.int .i64 0), (.int .i64 0), (.int .i64 0), (.int .i64 0)] [], none, []⟩,
             ⟨none, .store 9 (.t 2) (.t 19), none, [0, 0]⟩,
             ⟨(some 3), .mv (.v (.int .i64 8)), none, [1, 0, 1]⟩])
        (.ret))
       (.skip)))
    (.seq (.reg true [⟨(some 20), .mv (.t 4), none, []⟩,
          ⟨(some 21), .ixs 1 (.t 20) (.v (.int .i64 0)), none, [0]⟩,
          ⟨(some 22), .load none (.t 21), none, [1]⟩,
          ⟨(some 23), .call 34 [(.t 22), (.v (.string ⟨#[103]⟩))], none, [2]⟩,
          ⟨(some 24), .mv (.t 4), none, []⟩,
          ⟨(some 25), .ixs 1 (.t 24) (.v (.int .i64 1)), none, [4]⟩,
          ⟨(some 26), .load none (.t 25), none, [5]⟩,
          ⟨(some 27), .call 35 [(.t 26)], none, [6, 3]⟩,
          ⟨(some 28), .build [(.int .i64 0), (.int .i64 0), (.int .i64 0), (.int .i64 0), (.int .i64 0), (.int .i64 0), (.int .i64 0), (.int .i64 0), (.int .i64 0)] [(0, 1, (.t 23)), (1, 1, (.t 27))], none, [3, 7]⟩,
          ⟨(some 5), .new [(.int .i64 0), (.int .i64 0), (.int .i64 0), (.int .i64 0), (.int .i64 0), (.int .i64 0), (.int .i64 0), (.int .i64 0), (.int .i64 0)], none, []⟩,
          ⟨none, .store 9 (.t 5) (.t 28), none, [9, 8, 7, 0, 1, 2, 3, 4, 5, 6, 7, 8, 9]⟩])
     (.seq (pcj15c6)
      (pcj15c2)))))
def prj15 : List PR := [.c 2 (some 9), .t 3]
theorem bdj15 : Tryd.f15.body = some (Tryd.f15.body.getD .skip) := by kernel_rfl
theorem cpj15 : compC Tryd.prog Tryd.f15.ntmps eqsL (Tryd.f15.body.getD .skip) = some pcj15 := by kernel_rfl
theorem spj15 [WInv] {env : Env} (hE : EnvOK Tryd.prog env) {R : List Pa → List Pa → Prop} (hR : ∀ ps rs, R ps rs → ps.length ≤ 101 ∧ pwp env pcj15 (fun e s => (e = .normal ∨ e = .ret) ∧ s.res prj15 = some rs) (St.init ps)) : Spec Tryd.prog 15 R :=
  fn_sound hE eqsOK mixedOK Tryd.func15 bdj15 cpj15 (by kernel_rfl) (by kernel_rfl) hR


end Go.Proofs.YthnjbnfnljjepabDoor
end
section
set_option linter.unusedSimpArgs false
set_option linter.unusedVariables false
namespace Go.Proofs.YthnjbnfnljjepabDoor
open Go Go.RowKit
set_option maxRecDepth 1000000
set_option maxHeartbeats 8000000

def Ev.zero : Ev := ⟨0, 0, 0, 0, 0, 0, 0, 0, 0⟩
theorem splitB_word (sep : ByteArray) : ∀ (k : Nat) (s x : ByteArray), x ∈ Lib.splitB sep 0 k s → x.size ≤ s.size
  | 0, s, x, h => by rw [Lib.splitB_zero] at h; simp at h; subst h; exact Nat.le_refl _
  | k + 1, s, x, h => by
    unfold Lib.splitB at h
    split at h
    · simp at h; subst h; exact Nat.le_refl _
    · rcases List.mem_cons.1 h with rfl | h
      · rw [ByteArray.size_extract]; omega
      · have := splitB_word sep k _ x h
        rw [ByteArray.size_extract] at this
        omega
/-- what the words of a text say of an event, but for its end -/
def evMid (w0 w1 w2 w3 : List UInt8) : Ev :=
  let e : Ev := { Ev.zero with g := numE w0 [103], kind := kindIx w1 }
  if e.kind = 14 then { e with k := numE w2 [103] }
  else if chanB e.kind = true then { e with obj := numE w2 [], k := (pairE w3 [47]).1, n := (pairE w3 [47]).2 }
  else { e with obj := (pairE w2 [46]).1, off := (pairE w2 [46]).2 }
def evEnd (e : Ev) (a b : List UInt8) : Ev :=
  let e1 : Ev := if Lib.hasPrefix a [64] = true then { e with fn := (pairE (Lib.trimPrefix a [64]) [58]).1, pc := (pairE (Lib.trimPrefix a [64]) [58]).2 } else e
  { e1 with stack := numE b [35] }
def evOf (ws : List (List UInt8)) : Ev := evEnd (evMid (ws.getD 0 []) (ws.getD 1 []) (ws.getD 2 []) (ws.getD 3 [])) (ws.getD (ws.length - 2) []) (ws.getD (ws.length - 1) [])
def wordsE (s : ByteArray) : List (List UInt8) := (splitL s ⟨#[32]⟩).map (·.data.toList)
def readE (s : ByteArray) : Option Ev :=
  if (wordsE s).length < 5 ∨ 6 < (wordsE s).length then none
  else if (evOf (wordsE s)).valid = true ∧ etext (evOf (wordsE s)) = s.data.toList then some (evOf (wordsE s)) else none
def readPa (r : Option Ev) : List Pa := match r with
  | some e => [e.pa, pI 0]
  | none => [Ev.zero.pa, pI 8]
def endE (s : ByteArray) (e : Ev) : List Pa := if e.valid = true ∧ etext e = s.data.toList then [e.pa, pI 0] else [Ev.zero.pa, pI 8]

def env_eread : Env := e1 33 R_split (e1 34 R_number (e1 35 R_kindOf (e1 21 (R_kB chanB) (e1 36 R_pair (e1 37 R_cutp (e1 11 R_valid20 (e1 13 R_etext e0)))))))
theorem env_eread_ok : EnvOK Tryd.prog env_eread := EnvOK.e1 s_split (EnvOK.e1 s_number (EnvOK.e1 s_kindOf (EnvOK.e1 s_channel (EnvOK.e1 s_pair (EnvOK.e1 s_cutp (EnvOK.e1 s_valid (EnvOK.e1 s_etext EnvOK.e0)))))))
structure RdAt (s : ByteArray) (e : Ev) (st : St) : Prop where
  h0 : st.sl 0 = .b (.one (.d (.sc (.string s))))
  h2 : st.sl 2 = .b (.one (.ptr 2 1 0))
  h5 : st.sl 5 = .b (.one (.ptr 5 1 0))
  g2 : st.gen 2 = 1
  g5 : st.gen 5 = 1
  o2 : st.ob 2 = .cells (Ev.zero.row.map .d)
  o5 : st.ob 5 = .cells (e.row.map .d)
theorem read_end {s a b : ByteArray} {e : Ev} (hb : b.size ≤ 1000000) (Q : Exit → St → Prop)
    (hQ : ∀ st, st.res prj15 = some (endE s { e with stack := numE b.data.toList [35] }) → Q .ret st) (st : St) (ha : RdAt s e st)
    (h6 : st.sl 6 = .b (.one (.d (.im [[.sc (.string a)], [.sc (.string b)]])))) : pwp env_eread pcj15c0 (exS env_eread [] Q) st := by
  obtain ⟨h0, h2, h5, g2, g5, o2, o5⟩ := ha
  simp only [Ev.row, List.map_cons, List.map_nil] at o2 o5
  unfold pcj15c0
  simp only [↓evP, evB, stB, reduceIte, reduceCtorEq, Nat.reduceEqDiff, Nat.reduceAdd, Nat.reduceMul, Nat.reduceLeDiff, Nat.reduceLT, Nat.reduceSub, Nat.reduceBEq, h0, h2, h5, h6, g2, g5, o2, o5]
  refine callOps_intro [pI (numE b.data.toList [35])] ⟨b, ⟨#[35]⟩, rfl, hb, rfl⟩ ?_
  simp only [↓evP, evB, stB, reduceIte, reduceCtorEq, Nat.reduceEqDiff, Nat.reduceAdd, Nat.reduceMul, Nat.reduceLeDiff, Nat.reduceLT, Nat.reduceSub, Nat.reduceBEq, h0, h2, h5, h6, g2, g5, o2, o5]
  generalize hE : ({ e with stack := numE b.data.toList [35] } : Ev) = E at hQ
  refine callOps_intro [pB E.valid] (by exact ⟨E, by rw [← hE]; rfl, rfl⟩) ?_
  cases hv : E.valid with
  | false =>
    simp only [↓evP, evB, stB, reduceIte, reduceCtorEq, Nat.reduceEqDiff, Nat.reduceAdd, Nat.reduceMul, Nat.reduceLeDiff, Nat.reduceLT, Nat.reduceSub, Nat.reduceBEq, h0, h2, h5, h6, g2, g5, o2, o5]
    refine hQ _ ?_
    simp only [stB, reduceIte, reduceCtorEq, Nat.reduceEqDiff, Nat.reduceAdd, Nat.reduceMul, Nat.reduceLeDiff, Nat.reduceLT, Nat.reduceSub, Nat.reduceBEq, g2, o2, h2, prj15]
    unfold endE
    rw [hv, if_neg (by simp)]
    rfl
  | true =>
    simp only [↓evP, evB, stB, reduceIte, reduceCtorEq, Nat.reduceEqDiff, Nat.reduceAdd, Nat.reduceMul, Nat.reduceLeDiff, Nat.reduceLT, Nat.reduceSub, Nat.reduceBEq, h0, h2, h5, h6, g2, g5, o2, o5]
    refine callOps_intro [pS (strB (etext E))] (by exact ⟨E, by rw [← hE]; rfl, rfl⟩) ?_
    have hse := strings_eq (strB (etext E)) s
    rw [show (strB (etext E)).data.toList = etext E from rfl] at hse
    by_cases hq : etext E = s.data.toList
    · rw [decide_eq_true hq] at hse
      simp only [↓evP, evB, stB, reduceIte, reduceCtorEq, Nat.reduceEqDiff, Nat.reduceAdd, Nat.reduceMul, Nat.reduceLeDiff, Nat.reduceLT, Nat.reduceSub, Nat.reduceBEq, h0, h2, h5, h6, g2, g5, o2, o5, hse]
      refine hQ _ ?_
      simp only [stB, reduceIte, reduceCtorEq, Nat.reduceEqDiff, Nat.reduceAdd, Nat.reduceMul, Nat.reduceLeDiff, Nat.reduceLT, Nat.reduceSub, Nat.reduceBEq, g2, o2, h2, prj15]
      unfold endE
      rw [hv, if_pos ⟨rfl, hq⟩, ← hE]
      rfl
    · rw [decide_eq_false hq] at hse
      simp only [↓evP, evB, stB, reduceIte, reduceCtorEq, Nat.reduceEqDiff, Nat.reduceAdd, Nat.reduceMul, Nat.reduceLeDiff, Nat.reduceLT, Nat.reduceSub, Nat.reduceBEq, h0, h2, h5, h6, g2, g5, o2, o5, hse]
      refine hQ _ ?_
      simp only [stB, reduceIte, reduceCtorEq, Nat.reduceEqDiff, Nat.reduceAdd, Nat.reduceMul, Nat.reduceLeDiff, Nat.reduceLT, Nat.reduceSub, Nat.reduceBEq, g2, o2, h2, prj15]
      unfold endE
      rw [hv, if_neg (fun h => hq h.2)]
      rfl
end Go.Proofs.YthnjbnfnljjepabDoor
end
section
set_option linter.unusedSimpArgs false
set_option linter.unusedVariables false
namespace Go.Proofs.YthnjbnfnljjepabDoor
open Go
set_option maxRecDepth 100000
set_option maxHeartbeats 1000000

theorem dg_toNat {u : Nat} (h : u < 10) : (UInt8.ofNat (48 + u)).toNat = 48 + u := by
  rw [UInt8.toNat_ofNat']; omega
theorem decDigits_small {u : Nat} (h : u < 10) : Lib.decDigits u = [UInt8.ofNat (48 + u)] := by rw [Lib.decDigits, dif_pos h]
theorem decDigits_big {u : Nat} (h : ¬ u < 10) : Lib.decDigits u = Lib.decDigits (u / 10) ++ [UInt8.ofNat (48 + u % 10)] := by rw [Lib.decDigits, dif_neg h]
theorem decDigits_ne (u : Nat) : Lib.decDigits u ≠ [] := by
  by_cases h : u < 10
  · rw [decDigits_small h]; simp
  · rw [decDigits_big h]; simp
theorem decDigits_digit (u : Nat) : ∀ b ∈ Lib.decDigits u, 48 ≤ b.toNat ∧ b.toNat ≤ 57 := by
  induction u using Nat.strongRecOn with
  | _ u ih =>
    by_cases h : u < 10
    · rw [decDigits_small h]
      intro b hb
      simp only [List.mem_singleton] at hb
      rw [hb, dg_toNat h]; omega
    · rw [decDigits_big h]
      intro b hb
      rcases List.mem_append.1 hb with hb | hb
      · exact ih (u / 10) (by omega) b hb
      · simp only [List.mem_singleton] at hb
        rw [hb, dg_toNat (by omega)]; omega
/-- the first digit is 0 for 0 alone -/
theorem decDigits_head (u : Nat) : ∃ b r, Lib.decDigits u = b :: r ∧ (b.toNat = 48 → u = 0 ∧ r = []) := by
  induction u using Nat.strongRecOn with
  | _ u ih =>
    by_cases h : u < 10
    · exact ⟨_, [], decDigits_small h, fun hb => ⟨by rw [dg_toNat h] at hb; omega, rfl⟩⟩
    · obtain ⟨b, r, hd, hz⟩ := ih (u / 10) (by omega)
      exact ⟨b, r ++ [UInt8.ofNat (48 + u % 10)], by rw [decDigits_big h, hd]; rfl, fun hb => by have := (hz hb).1; omega⟩
theorem parse_dec (u : Nat) : ∀ r, u < 18446744073709551616 → Lib.parseUint10 0 (Lib.decDigits u ++ r) = Lib.parseUint10 u r := by
  induction u using Nat.strongRecOn with
  | _ u ih =>
    intro r hu
    by_cases h : u < 10
    · rw [decDigits_small h]
      simp only [List.cons_append, List.nil_append, Lib.parseUint10, dg_toNat h]
      rw [if_pos (by omega), if_neg (by omega), if_neg (by omega)]
      congr 1
      omega
    · rw [decDigits_big h, List.append_assoc, ih (u / 10) (by omega) _ (by omega)]
      simp only [List.cons_append, List.nil_append, Lib.parseUint10, dg_toNat (show u % 10 < 10 by omega)]
      rw [if_pos (by omega), if_neg (by omega), if_neg (by omega)]
      congr 1
      omega
theorem parseMag_dec {u : Nat} (hu : u < 18446744073709551616) : Lib.parseMag (Lib.decDigits u) = .ok u := by
  unfold Lib.parseMag
  rw [if_neg (decDigits_ne u)]
  have := parse_dec u [] hu
  rw [List.append_nil] at this
  rw [this]; rfl
theorem atoi_itoa {v : Int} (h0 : -9223372036854775808 ≤ v) (h1 : v ≤ 9223372036854775807) : Lib.atoiAll (Lib.itoa v) = .ok v := by
  by_cases hneg : v < 0
  · obtain ⟨u, rfl⟩ : ∃ u : Nat, v = -(u : Int) := ⟨v.natAbs, by omega⟩
    rw [Lib.itoa_neg u (by omega), Lib.atoiAll_minus, parseMag_dec (by omega)]
    show (if 9223372036854775808 < u then Lib.NumEnd.range else Lib.NumEnd.ok (-(u : Int))) = _
    rw [if_neg (by omega)]
  · obtain ⟨u, rfl⟩ : ∃ u : Nat, v = u := ⟨v.toNat, by omega⟩
    obtain ⟨b, r, hd, _⟩ := decDigits_head u
    have hb := decDigits_digit u b (by rw [hd]; simp)
    rw [Lib.itoa_nonneg, hd, Lib.atoiAll_plain b r (by omega) (by omega), ← hd, parseMag_dec (by omega)]
    show (if 9223372036854775808 ≤ u then Lib.NumEnd.range else Lib.NumEnd.ok (u : Int)) = _
    rw [if_neg (by omega)]
/-- the bytes of a numeral: digits and a sign -/
theorem itoa_byte (v : Int) : ∀ b ∈ Lib.itoa v, 45 = b.toNat ∨ (48 ≤ b.toNat ∧ b.toNat ≤ 57) := by
  unfold Lib.itoa
  split
  · intro b hb
    rcases List.mem_cons.1 hb with rfl | hb
    · exact .inl rfl
    · exact .inr (decDigits_digit _ b hb)
  · intro b hb
    exact .inr (decDigits_digit _ b hb)
theorem itoa_ne (v : Int) : Lib.itoa v ≠ [] := by
  unfold Lib.itoa
  split
  · simp
  · exact decDigits_ne _
end Go.Proofs.YthnjbnfnljjepabDoor
end
section
set_option linter.unusedSimpArgs false
set_option linter.unusedVariables false
namespace Go.Proofs.YthnjbnfnljjepabDoor
open Go Go.RowKit
set_option maxRecDepth 100000
set_option maxHeartbeats 4000000

theorem index_word : ∀ (w : List UInt8) (c : UInt8) (r : List UInt8), c ∉ w → Lib.index (w ++ c :: r) [c] = w.length
  | [], c, r, _ => by
    show Lib.index (c :: r) [c] = _
    rw [Lib.index, if_pos (by simp [List.isPrefixOf])]; rfl
  | b :: w, c, r, h => by
    simp only [List.mem_cons, not_or] at h
    have ih := index_word w c r h.2
    show Lib.index (b :: (w ++ c :: r)) [c] = _
    have hp : ([c] : List UInt8).isPrefixOf (b :: (w ++ c :: r)) = false := by simp [List.isPrefixOf, h.1]
    have hm : ¬ (((w.length : Nat) : Int) == -1) = true := by simp only [beq_iff_eq]; omega
    rw [Lib.index, ih, hp, if_neg (by simp), if_neg hm]
    simp
theorem cut_word (w : List UInt8) (c : UInt8) (r : List UInt8) (h : c ∉ w) : Lib.cut (w ++ c :: r) [c] = (w, r, true) := by
  unfold Lib.cut
  rw [index_word w c r h, if_pos (by omega)]
  simp
theorem splitK_word (w : List UInt8) (c : UInt8) (r : List UInt8) (k : Nat) (h : c ∉ w) : Lib.splitK [c] 0 (k + 1) (w ++ c :: r) = w :: Lib.splitK [c] 0 k r := by
  have hm : ¬ (((w.length : Nat) : Int) == -1) = true := by simp only [beq_iff_eq]; omega
  rw [Lib.splitK, index_word w c r h, if_neg hm]
  simp
theorem join_two (x y : List UInt8) (r : List (List UInt8)) (sep : List UInt8) : Lib.join (x :: y :: r) sep = x ++ (sep ++ Lib.join (y :: r) sep) := by
  rw [Lib.join_cons, Lib.join_cons]
  simp [Lib.joinTail]
theorem splitK_join (c : UInt8) : ∀ (ws : List (List UInt8)), ws ≠ [] → (∀ w ∈ ws, c ∉ w) → Lib.splitK [c] 0 ((Lib.join ws [c]).count c) (Lib.join ws [c]) = ws
  | [], h, _ => absurd rfl h
  | [x], _, h => by
    rw [Lib.join_one, List.count_eq_zero_of_not_mem (h x (by simp))]; rfl
  | x :: y :: r, _, h => by
    have hx := h x (by simp)
    have hc : (Lib.join (x :: y :: r) [c]).count c = (Lib.join (y :: r) [c]).count c + 1 := by
      rw [join_two, List.count_append, List.count_eq_zero_of_not_mem hx]
      simp
    rw [hc, join_two]
    show Lib.splitK [c] 0 _ (x ++ c :: Lib.join (y :: r) [c]) = _
    rw [splitK_word _ _ _ _ hx, splitK_join c (y :: r) (by simp) (fun w hw => h w (List.mem_cons_of_mem _ hw))]
theorem wordsE_join {ws : List (List UInt8)} (hne : ws ≠ []) (h : ∀ w ∈ ws, (32 : UInt8) ∉ w) : wordsE (strB (Lib.join ws [32])) = ws := by
  unfold wordsE splitL
  rw [Lib.splitB_data]
  show Lib.splitK [32] 0 (Lib.count (Lib.join ws [32]) [32]) (Lib.join ws [32]) = ws
  rw [Lib.count_one, splitK_join 32 ws hne h]

def objWords (e : Ev) : List (List UInt8) :=
  if e.kind = 14 then [[103] ++ Lib.itoa e.k]
  else if chanB e.kind = true then [Lib.itoa e.obj, Lib.itoa e.k ++ 47 :: Lib.itoa e.n]
  else [Lib.itoa e.obj ++ 46 :: Lib.itoa e.off]
def words (e : Ev) : List (List UInt8) := ([103] ++ Lib.itoa e.g) :: kn e.kind :: (objWords e ++ [[64] ++ (Lib.itoa e.fn ++ 58 :: Lib.itoa e.pc), [35] ++ Lib.itoa e.stack])
theorem join_words (e : Ev) : Lib.join (words5 e) [32] = Lib.join (words e) [32] := by
  unfold words5 words objText objWords
  split
  · simp [join_two, Lib.join_one]
  · split
    · simp [join_two, Lib.join_one]
    · simp [join_two, Lib.join_one]
theorem itoa_not (v : Int) (c : UInt8) (h : c.toNat < 45 ∨ c.toNat = 46 ∨ c.toNat = 47 ∨ 57 < c.toNat) : c ∉ Lib.itoa v := fun hm => by
  have := itoa_byte v c hm
  omega
theorem kn_fin : ∀ m : Fin 21, 1 ≤ m.val → (32 : UInt8) ∉ kn (m.val : Int) ∧ kindIx (kn (m.val : Int)) = m.val := by decide +kernel
theorem kn_law {k : Int} (h : 1 ≤ k ∧ k ≤ 20) : (32 : UInt8) ∉ kn k ∧ ((kindIx (kn k) : Nat) : Int) = k := by
  obtain ⟨m, rfl⟩ := Int.eq_ofNat_of_zero_le (show 0 ≤ k by omega)
  have := kn_fin ⟨m, by omega⟩ (by show 1 ≤ m; omega)
  exact ⟨this.1, by rw [this.2]⟩
theorem words_ok {e : Ev} (h : e.valid = true) : ∀ w ∈ words e, (32 : UInt8) ∉ w := by
  have hi := Ev.In.of h
  have hk := (kn_law hi.kind).1
  have i32 : ∀ v : Int, (32 : UInt8) ∉ Lib.itoa v := fun v => itoa_not v 32 (by decide)
  intro w hw
  unfold words objWords at hw
  simp only [List.mem_cons, List.mem_append, List.not_mem_nil, or_false] at hw
  rcases hw with rfl | rfl | hw | rfl | rfl
  · simp [i32]
  · exact hk
  · split at hw
    · simp only [List.mem_singleton] at hw; subst hw; simp [i32]
    · split at hw
      · simp only [List.mem_cons, List.not_mem_nil, or_false] at hw
        rcases hw with rfl | rfl <;> simp [i32]
      · simp only [List.mem_singleton] at hw; subst hw; simp [i32]
  · simp [i32]
  · simp [i32]
theorem wordsE_text {e : Ev} (h : e.valid = true) : wordsE (strB (etext e)) = words e := by
  have he : etext e = Lib.join (words e) [32] := by unfold etext; rw [h, join_words]; rfl
  rw [he]
  exact wordsE_join (by unfold words; simp) (words_ok h)
theorem numE_at (p : List UInt8) {v : Int} (h : 0 ≤ v ∧ v ≤ 2147483647) : numE (p ++ Lib.itoa v) p = v := by
  have hp : Lib.hasPrefix (p ++ Lib.itoa v) p = true := by unfold Lib.hasPrefix; simp
  unfold numE Lib.trimPrefix
  rw [if_pos hp, if_pos hp, List.drop_left, atoi_itoa (by omega) (by omega)]
theorem numE_one (c : UInt8) {v : Int} (h : 0 ≤ v ∧ v ≤ 2147483647) : numE (c :: Lib.itoa v) [c] = v := numE_at [c] h
theorem pairE_at (c : UInt8) {a b : Int} (ha : 0 ≤ a ∧ a ≤ 2147483647) (hb : 0 ≤ b ∧ b ≤ 2147483647) (hc : c.toNat < 45 ∨ c.toNat = 46 ∨ c.toNat = 47 ∨ 57 < c.toNat) : pairE (Lib.itoa a ++ c :: Lib.itoa b) [c] = (a, b) := by
  unfold pairE
  rw [cut_word _ _ _ (itoa_not a c hc)]
  have h1 := numE_at [] ha
  have h2 := numE_at [] hb
  rw [List.nil_append] at h1 h2
  simp only [if_true, h1, h2]
theorem evEnd_at (e : Ev) {fn pc st : Int} (hf : 0 ≤ fn ∧ fn ≤ 2147483647) (hp : 0 ≤ pc ∧ pc ≤ 2147483647) (hs : 0 ≤ st ∧ st ≤ 2147483647) : evEnd e ([64] ++ (Lib.itoa fn ++ 58 :: Lib.itoa pc)) ([35] ++ Lib.itoa st) = { e with fn := fn, pc := pc, stack := st } := by
  have h1 : Lib.hasPrefix ([64] ++ (Lib.itoa fn ++ 58 :: Lib.itoa pc)) [64] = true := by unfold Lib.hasPrefix; simp
  have h2 : Lib.trimPrefix ([64] ++ (Lib.itoa fn ++ 58 :: Lib.itoa pc)) [64] = Lib.itoa fn ++ 58 :: Lib.itoa pc := by unfold Lib.trimPrefix; rw [if_pos h1]; rfl
  unfold evEnd
  rw [if_pos h1, h2, pairE_at 58 hf hp (by decide), numE_at [35] hs]
theorem evOf_5 (a b c d f : List UInt8) : evOf [a, b, c, d, f] = evEnd (evMid a b c d) d f := rfl
theorem evOf_6 (a b c d f g : List UInt8) : evOf [a, b, c, d, f, g] = evEnd (evMid a b c d) f g := rfl
theorem evOf_words {e : Ev} (h : e.valid = true) : evOf (words e) = e := by
  have hi := Ev.In.of h
  have hg : numE ([103] ++ Lib.itoa e.g) [103] = e.g := numE_at [103] (by have := hi.g; omega)
  have hk := (kn_law hi.kind).2
  have hr : e.rest = true := by rw [Ev.valid_eq] at h; simp only [Bool.and_eq_true] at h; exact h.2
  unfold Ev.rest at hr
  by_cases h14 : e.kind = 14
  · rw [if_pos h14] at hr
    have hr := of_decide_eq_true hr
    have hw : words e = [[103] ++ Lib.itoa e.g, kn e.kind, [103] ++ Lib.itoa e.k, [64] ++ (Lib.itoa e.fn ++ 58 :: Lib.itoa e.pc), [35] ++ Lib.itoa e.stack] := by unfold words objWords; rw [if_pos h14]; rfl
    rw [hw, evOf_5, evEnd_at _ hi.fn hi.pc hi.stack]
    unfold evMid
    simp only [hg, hk]
    rw [if_pos h14, numE_at [103] hi.k]
    obtain ⟨r1, r2, r3, -, -⟩ := hr
    cases e
    simp only at *
    subst r1 r2 r3
    rfl
  · rw [if_neg h14] at hr
    cases hc : chanB e.kind with
    | true =>
      have hw : words e = [[103] ++ Lib.itoa e.g, kn e.kind, Lib.itoa e.obj, Lib.itoa e.k ++ 47 :: Lib.itoa e.n, [64] ++ (Lib.itoa e.fn ++ 58 :: Lib.itoa e.pc), [35] ++ Lib.itoa e.stack] := by unfold words objWords; rw [if_neg h14, if_pos hc]; rfl
      have hoff : e.off = 0 := by
        have hc' := of_decide_eq_true hc
        split at hr
        · exact (of_decide_eq_true hr).1
        · split at hr
          · exact (of_decide_eq_true hr).1
          · omega
      have h1 := numE_at [] hi.obj
      rw [List.nil_append] at h1
      rw [hw, evOf_6, evEnd_at _ hi.fn hi.pc hi.stack]
      unfold evMid
      simp only [hg, hk]
      rw [if_neg h14, if_pos hc, h1, pairE_at 47 hi.k hi.n (by decide)]
      cases e
      simp only at *
      subst hoff
      rfl
    | false =>
      have hw : words e = [[103] ++ Lib.itoa e.g, kn e.kind, Lib.itoa e.obj ++ 46 :: Lib.itoa e.off, [64] ++ (Lib.itoa e.fn ++ 58 :: Lib.itoa e.pc), [35] ++ Lib.itoa e.stack] := by unfold words objWords; rw [if_neg h14, if_neg (by rw [hc]; simp)]; rfl
      have hc' := of_decide_eq_false hc
      have hk20 := hi.kind
      rw [if_neg (by omega), if_neg (by omega)] at hr
      obtain ⟨r1, r2⟩ := of_decide_eq_true hr
      rw [hw, evOf_5, evEnd_at _ hi.fn hi.pc hi.stack]
      unfold evMid
      simp only [hg, hk]
      rw [if_neg h14, if_neg (by rw [hc]; simp), pairE_at 46 hi.obj hi.off (by decide)]
      cases e
      simp only at *
      subst r1 r2
      rfl
theorem words_len (e : Ev) : ¬ ((words e).length < 5 ∨ 6 < (words e).length) := by
  unfold words objWords
  split
  · simp
  · split <;> simp
theorem readE_text {e : Ev} (h : e.valid = true) : readE (strB (etext e)) = some e := by
  unfold readE
  rw [wordsE_text h, evOf_words h, if_neg (words_len e), if_pos ⟨h, rfl⟩]
theorem readE_some {s : ByteArray} {e : Ev} (h : readE s = some e) : e.valid = true ∧ etext e = s.data.toList := by
  unfold readE at h
  split at h
  · cases h
  · split at h
    · rename_i hq; cases h; exact hq
    · cases h
end Go.Proofs.YthnjbnfnljjepabDoor
end
section
set_option linter.unusedSimpArgs false
set_option linter.unusedVariables false
namespace Go.Proofs.YthnjbnfnljjepabDoor
open Go Go.RowKit
set_option maxRecDepth 1000000
set_option maxHeartbeats 8000000

theorem rowsS_len (ws : List ByteArray) : (rowsS ws).length = ws.length := by simp [rowsS]
theorem rowsS_one (ws : List ByteArray) : (∀ r, r ∈ rowsS ws → r.length = 1) = True := by
  apply propext
  refine ⟨fun _ => trivial, fun _ r hr => ?_⟩
  simp only [rowsS, List.mem_map] at hr
  obtain ⟨_, _, rfl⟩ := hr
  rfl
theorem rowsS_get {ws : List ByteArray} {i : Nat} {w : ByteArray} (h : ws[i]? = some w) : (rowsS ws)[i]? = some [Dt.sc (.string w)] := by
  unfold rowsS; rw [List.getElem?_map, h]; rfl
theorem le_self_int (a : Int) : (a ≤ a) = True := by simp
theorem read_tail {s a b : ByteArray} {e : Ev} {pre : List ByteArray} (hn : pre.length ≤ 100) (ha1 : a.size ≤ 1000000) (hb1 : b.size ≤ 1000000) (Q : Exit → St → Prop)
    (hQ : ∀ st, st.res prj15 = some (endE s (evEnd e a.data.toList b.data.toList)) → Q .ret st) (st : St) (ha : RdAt s e st)
    (h4 : st.sl 4 = .b (.one (.d (.im (rowsS (pre ++ [a, b])))))) : pwp env_eread pcj15c2 (exS env_eread [] Q) st := by
  have hr := ha
  obtain ⟨h0, h2, h5, g2, g5, o2, o5⟩ := ha
  simp only [Ev.row, List.map_cons, List.map_nil] at o2 o5
  have hlen : (rowsS (pre ++ [a, b])).length = pre.length + 2 := by rw [rowsS_len]; simp
  have hw : IntKind.i64.wrap (((pre.length + 2 : Nat) : Int) - 2) = (pre.length : Int) := by rw [wr64 (by omega) (by omega)]; omega
  have l0 : (0 : Int) ≤ (pre.length : Int) := by omega
  have l1 : (pre.length : Int) ≤ ((pre.length + 2 : Nat) : Int) := by omega
  have hsl : List.drop pre.length (List.take (pre.length + 2) (rowsS (pre ++ [a, b]))) = [[Dt.sc (.string a)], [Dt.sc (.string b)]] := by
    rw [List.take_of_length_le (by omega)]
    unfold rowsS
    rw [List.map_append, List.drop_left' (by simp)]
    rfl
  have hone := rowsS_one (pre ++ [a, b])
  have n0 : ((0 : Int) ≤ 0) = True := by simp
  unfold pcj15c2
  simp only [↓evP, evB, stB, reduceIte, reduceCtorEq, Nat.reduceEqDiff, Nat.reduceAdd, Nat.reduceMul, Nat.reduceLeDiff, Nat.reduceLT, Nat.reduceSub, Nat.reduceBEq, h4, hlen, hw, l0, l1, le_self_int, hsl, hone, n0, Int.toNat_natCast, Int.toNat_zero]
  refine callOps_intro [pS (strB (Lib.trimPrefix a.data.toList [64])), pB (Lib.hasPrefix a.data.toList [64])] (by exact ⟨a, ⟨#[64]⟩, rfl, rfl⟩) ?_
  cases hp : Lib.hasPrefix a.data.toList [64] with
  | false =>
    have hE : evEnd e a.data.toList b.data.toList = { e with stack := numE b.data.toList [35] } := by unfold evEnd; rw [hp]; rfl
    rw [hE] at hQ
    simp only [↓evP, evB, stB, reduceIte, reduceCtorEq, Nat.reduceEqDiff, Nat.reduceAdd, Nat.reduceMul, Nat.reduceLeDiff, Nat.reduceLT, Nat.reduceSub, Nat.reduceBEq, h4, hlen, hw, l0, l1, le_self_int, hsl, hone, n0, Int.toNat_natCast, Int.toNat_zero]
    refine read_end (a := a) hb1 Q hQ _ ⟨by simp only [stB, reduceIte, reduceCtorEq, Nat.reduceEqDiff, Nat.reduceAdd, Nat.reduceMul, Nat.reduceLeDiff, Nat.reduceLT, Nat.reduceSub, Nat.reduceBEq, h0], by simp only [stB, reduceIte, reduceCtorEq, Nat.reduceEqDiff, Nat.reduceAdd, Nat.reduceMul, Nat.reduceLeDiff, Nat.reduceLT, Nat.reduceSub, Nat.reduceBEq, h2], by simp only [stB, reduceIte, reduceCtorEq, Nat.reduceEqDiff, Nat.reduceAdd, Nat.reduceMul, Nat.reduceLeDiff, Nat.reduceLT, Nat.reduceSub, Nat.reduceBEq, h5], by simp only [stB, reduceIte, reduceCtorEq, Nat.reduceEqDiff, Nat.reduceAdd, Nat.reduceMul, Nat.reduceLeDiff, Nat.reduceLT, Nat.reduceSub, Nat.reduceBEq, g2], by simp only [stB, reduceIte, reduceCtorEq, Nat.reduceEqDiff, Nat.reduceAdd, Nat.reduceMul, Nat.reduceLeDiff, Nat.reduceLT, Nat.reduceSub, Nat.reduceBEq, g5], by simp only [stB, reduceIte, reduceCtorEq, Nat.reduceEqDiff, Nat.reduceAdd, Nat.reduceMul, Nat.reduceLeDiff, Nat.reduceLT, Nat.reduceSub, Nat.reduceBEq, o2]; rfl, by simp only [stB, reduceIte, reduceCtorEq, Nat.reduceEqDiff, Nat.reduceAdd, Nat.reduceMul, Nat.reduceLeDiff, Nat.reduceLT, Nat.reduceSub, Nat.reduceBEq, o5]; rfl⟩ (by simp only [stB, reduceIte, reduceCtorEq, Nat.reduceEqDiff, Nat.reduceAdd, Nat.reduceMul, Nat.reduceLeDiff, Nat.reduceLT, Nat.reduceSub, Nat.reduceBEq])
  | true =>
    have hE : evEnd e a.data.toList b.data.toList = { { e with fn := (pairE (Lib.trimPrefix a.data.toList [64]) [58]).1, pc := (pairE (Lib.trimPrefix a.data.toList [64]) [58]).2 } with stack := numE b.data.toList [35] } := by unfold evEnd; rw [hp]; rfl
    rw [hE] at hQ
    have hts : (strB (Lib.trimPrefix a.data.toList [64])).size ≤ 1000000 := by
      have := trimPrefix_le a.data.toList [64]
      rw [data_len] at this
      rw [strB_size]; omega
    simp only [↓evP, evB, stB, reduceIte, reduceCtorEq, Nat.reduceEqDiff, Nat.reduceAdd, Nat.reduceMul, Nat.reduceLeDiff, Nat.reduceLT, Nat.reduceSub, Nat.reduceBEq, h4, hlen, hw, l0, l1, le_self_int, hsl, hone, n0, Int.toNat_natCast, Int.toNat_zero, pcj15c1]
    refine callOps_intro [pI (pairE (Lib.trimPrefix a.data.toList [64]) [58]).1, pI (pairE (Lib.trimPrefix a.data.toList [64]) [58]).2] (by exact R_pair.mk (strB (Lib.trimPrefix a.data.toList [64])) ⟨#[58]⟩ hts) ?_
    simp only [↓evP, evB, stB, reduceIte, reduceCtorEq, Nat.reduceEqDiff, Nat.reduceAdd, Nat.reduceMul, Nat.reduceLeDiff, Nat.reduceLT, Nat.reduceSub, Nat.reduceBEq, h0, h2, h4, h5, g2, g5, o2, o5]
    refine read_end (a := a) hb1 Q hQ _ ⟨by simp only [stB, reduceIte, reduceCtorEq, Nat.reduceEqDiff, Nat.reduceAdd, Nat.reduceMul, Nat.reduceLeDiff, Nat.reduceLT, Nat.reduceSub, Nat.reduceBEq, h0], by simp only [stB, reduceIte, reduceCtorEq, Nat.reduceEqDiff, Nat.reduceAdd, Nat.reduceMul, Nat.reduceLeDiff, Nat.reduceLT, Nat.reduceSub, Nat.reduceBEq, h2], by simp only [stB, reduceIte, reduceCtorEq, Nat.reduceEqDiff, Nat.reduceAdd, Nat.reduceMul, Nat.reduceLeDiff, Nat.reduceLT, Nat.reduceSub, Nat.reduceBEq, h5], by simp only [stB, reduceIte, reduceCtorEq, Nat.reduceEqDiff, Nat.reduceAdd, Nat.reduceMul, Nat.reduceLeDiff, Nat.reduceLT, Nat.reduceSub, Nat.reduceBEq, g2], by simp only [stB, reduceIte, reduceCtorEq, Nat.reduceEqDiff, Nat.reduceAdd, Nat.reduceMul, Nat.reduceLeDiff, Nat.reduceLT, Nat.reduceSub, Nat.reduceBEq, g5], by simp only [stB, reduceIte, reduceCtorEq, Nat.reduceEqDiff, Nat.reduceAdd, Nat.reduceMul, Nat.reduceLeDiff, Nat.reduceLT, Nat.reduceSub, Nat.reduceBEq, o2]; rfl, by simp only [stB, reduceIte, reduceCtorEq, Nat.reduceEqDiff, Nat.reduceAdd, Nat.reduceMul, Nat.reduceLeDiff, Nat.reduceLT, Nat.reduceSub, Nat.reduceBEq, o5]; rfl⟩ (by simp only [stB, reduceIte, reduceCtorEq, Nat.reduceEqDiff, Nat.reduceAdd, Nat.reduceMul, Nat.reduceLeDiff, Nat.reduceLT, Nat.reduceSub, Nat.reduceBEq])

def midE (e : Ev) (w2 w3 : List UInt8) : Ev :=
  if e.kind = 14 then { e with k := numE w2 [103] }
  else if chanB e.kind = true then { e with obj := numE w2 [], k := (pairE w3 [47]).1, n := (pairE w3 [47]).2 }
  else { e with obj := (pairE w2 [46]).1, off := (pairE w2 [46]).2 }
theorem read_mid {s w2 w3 : ByteArray} {e : Ev} {ws : List ByteArray} (hw2 : ws[2]? = some w2) (hw3 : ws[3]? = some w3) (hz2 : w2.size ≤ 1000000) (hz3 : w3.size ≤ 1000000) (Q : Exit → St → Prop)
    (hQ : ∀ st, RdAt s (midE e w2.data.toList w3.data.toList) st → st.sl 4 = .b (.one (.d (.im (rowsS ws)))) → pwp env_eread pcj15c2 (exS env_eread [] Q) st) (st : St) (ha : RdAt s e st)
    (h4 : st.sl 4 = .b (.one (.d (.im (rowsS ws))))) : pwp env_eread pcj15c6 (exS env_eread [.c pcj15c2] Q) st := by
  obtain ⟨h0, h2, h5, g2, g5, o2, o5⟩ := ha
  simp only [Ev.row, List.map_cons, List.map_nil] at o2 o5
  have r2 := rowsS_get hw2
  have r3 := rowsS_get hw3
  have n2 : ((0 : Int) ≤ 2) = True := by simp
  have n3 : ((0 : Int) ≤ 3) = True := by simp
  have t2 : (2 : Int).toNat = 2 := rfl
  have t3 : (3 : Int).toNat = 3 := rfl
  unfold pcj15c6
  cases k14 : (e.kind == 14) with
  | true =>
    have hm : midE e w2.data.toList w3.data.toList = { e with k := numE w2.data.toList [103] } := by unfold midE; rw [if_pos (beq_iff_eq.1 k14)]
    rw [hm] at hQ
    simp only [↓evP, evB, stB, reduceIte, reduceCtorEq, Nat.reduceEqDiff, Nat.reduceAdd, Nat.reduceMul, Nat.reduceLeDiff, Nat.reduceLT, Nat.reduceSub, Nat.reduceBEq, h0, h2, h4, h5, g2, g5, o2, o5, k14, r2, n2, t2]
    refine callOps_intro [pI (numE w2.data.toList [103])] (by exact R_number.mk w2 ⟨#[103]⟩ hz2) ?_
    simp only [↓evP, evB, stB, reduceIte, reduceCtorEq, Nat.reduceEqDiff, Nat.reduceAdd, Nat.reduceMul, Nat.reduceLeDiff, Nat.reduceLT, Nat.reduceSub, Nat.reduceBEq, h0, h2, h4, h5, g2, g5, o2, o5]
    exact hQ _ ⟨by simp only [stB, reduceIte, reduceCtorEq, Nat.reduceEqDiff, Nat.reduceAdd, Nat.reduceMul, Nat.reduceLeDiff, Nat.reduceLT, Nat.reduceSub, Nat.reduceBEq, h0], by simp only [stB, reduceIte, reduceCtorEq, Nat.reduceEqDiff, Nat.reduceAdd, Nat.reduceMul, Nat.reduceLeDiff, Nat.reduceLT, Nat.reduceSub, Nat.reduceBEq, h2], by simp only [stB, reduceIte, reduceCtorEq, Nat.reduceEqDiff, Nat.reduceAdd, Nat.reduceMul, Nat.reduceLeDiff, Nat.reduceLT, Nat.reduceSub, Nat.reduceBEq, h5], by simp only [stB, reduceIte, reduceCtorEq, Nat.reduceEqDiff, Nat.reduceAdd, Nat.reduceMul, Nat.reduceLeDiff, Nat.reduceLT, Nat.reduceSub, Nat.reduceBEq, g2], by simp only [stB, reduceIte, reduceCtorEq, Nat.reduceEqDiff, Nat.reduceAdd, Nat.reduceMul, Nat.reduceLeDiff, Nat.reduceLT, Nat.reduceSub, Nat.reduceBEq, g5], by simp only [stB, reduceIte, reduceCtorEq, Nat.reduceEqDiff, Nat.reduceAdd, Nat.reduceMul, Nat.reduceLeDiff, Nat.reduceLT, Nat.reduceSub, Nat.reduceBEq, o2]; rfl, by simp only [stB, reduceIte, reduceCtorEq, Nat.reduceEqDiff, Nat.reduceAdd, Nat.reduceMul, Nat.reduceLeDiff, Nat.reduceLT, Nat.reduceSub, Nat.reduceBEq, o5]; rfl⟩ (by simp only [stB, reduceIte, reduceCtorEq, Nat.reduceEqDiff, Nat.reduceAdd, Nat.reduceMul, Nat.reduceLeDiff, Nat.reduceLT, Nat.reduceSub, Nat.reduceBEq, h4])
  | false =>
    have n14 := beq_eq_false_iff_ne.1 k14
    simp only [↓evP, evB, stB, reduceIte, reduceCtorEq, Nat.reduceEqDiff, Nat.reduceAdd, Nat.reduceMul, Nat.reduceLeDiff, Nat.reduceLT, Nat.reduceSub, Nat.reduceBEq, h0, h2, h4, h5, g2, g5, o2, o5, k14, pcj15c5]
    refine callOps_intro [pB (chanB e.kind)] (by exact R_kB.mk e.kind) ?_
    cases hc : chanB e.kind with
    | true =>
      have hm : midE e w2.data.toList w3.data.toList = { e with obj := numE w2.data.toList [], k := (pairE w3.data.toList [47]).1, n := (pairE w3.data.toList [47]).2 } := by unfold midE; rw [if_neg n14, if_pos hc]
      rw [hm] at hQ
      simp only [↓evP, evB, stB, reduceIte, reduceCtorEq, Nat.reduceEqDiff, Nat.reduceAdd, Nat.reduceMul, Nat.reduceLeDiff, Nat.reduceLT, Nat.reduceSub, Nat.reduceBEq, h0, h2, h4, h5, g2, g5, o2, o5, r2, n2, t2, pcj15c3]
      refine callOps_intro [pI (numE w2.data.toList [])] (by exact R_number.mk w2 ⟨#[]⟩ hz2) ?_
      simp only [↓evP, evB, stB, reduceIte, reduceCtorEq, Nat.reduceEqDiff, Nat.reduceAdd, Nat.reduceMul, Nat.reduceLeDiff, Nat.reduceLT, Nat.reduceSub, Nat.reduceBEq, h0, h2, h4, h5, g2, g5, o2, o5, r3, n3, t3]
      refine callOps_intro [pI (pairE w3.data.toList [47]).1, pI (pairE w3.data.toList [47]).2] (by exact R_pair.mk w3 ⟨#[47]⟩ hz3) ?_
      simp only [↓evP, evB, stB, reduceIte, reduceCtorEq, Nat.reduceEqDiff, Nat.reduceAdd, Nat.reduceMul, Nat.reduceLeDiff, Nat.reduceLT, Nat.reduceSub, Nat.reduceBEq, h0, h2, h4, h5, g2, g5, o2, o5]
      exact hQ _ ⟨by simp only [stB, reduceIte, reduceCtorEq, Nat.reduceEqDiff, Nat.reduceAdd, Nat.reduceMul, Nat.reduceLeDiff, Nat.reduceLT, Nat.reduceSub, Nat.reduceBEq, h0], by simp only [stB, reduceIte, reduceCtorEq, Nat.reduceEqDiff, Nat.reduceAdd, Nat.reduceMul, Nat.reduceLeDiff, Nat.reduceLT, Nat.reduceSub, Nat.reduceBEq, h2], by simp only [stB, reduceIte, reduceCtorEq, Nat.reduceEqDiff, Nat.reduceAdd, Nat.reduceMul, Nat.reduceLeDiff, Nat.reduceLT, Nat.reduceSub, Nat.reduceBEq, h5], by simp only [stB, reduceIte, reduceCtorEq, Nat.reduceEqDiff, Nat.reduceAdd, Nat.reduceMul, Nat.reduceLeDiff, Nat.reduceLT, Nat.reduceSub, Nat.reduceBEq, g2], by simp only [stB, reduceIte, reduceCtorEq, Nat.reduceEqDiff, Nat.reduceAdd, Nat.reduceMul, Nat.reduceLeDiff, Nat.reduceLT, Nat.reduceSub, Nat.reduceBEq, g5], by simp only [stB, reduceIte, reduceCtorEq, Nat.reduceEqDiff, Nat.reduceAdd, Nat.reduceMul, Nat.reduceLeDiff, Nat.reduceLT, Nat.reduceSub, Nat.reduceBEq, o2]; rfl, by simp only [stB, reduceIte, reduceCtorEq, Nat.reduceEqDiff, Nat.reduceAdd, Nat.reduceMul, Nat.reduceLeDiff, Nat.reduceLT, Nat.reduceSub, Nat.reduceBEq, o5]; rfl⟩ (by simp only [stB, reduceIte, reduceCtorEq, Nat.reduceEqDiff, Nat.reduceAdd, Nat.reduceMul, Nat.reduceLeDiff, Nat.reduceLT, Nat.reduceSub, Nat.reduceBEq, h4])
    | false =>
      have hm : midE e w2.data.toList w3.data.toList = { e with obj := (pairE w2.data.toList [46]).1, off := (pairE w2.data.toList [46]).2 } := by unfold midE; rw [if_neg n14, if_neg (by rw [hc]; simp)]
      rw [hm] at hQ
      simp only [↓evP, evB, stB, reduceIte, reduceCtorEq, Nat.reduceEqDiff, Nat.reduceAdd, Nat.reduceMul, Nat.reduceLeDiff, Nat.reduceLT, Nat.reduceSub, Nat.reduceBEq, h0, h2, h4, h5, g2, g5, o2, o5, r2, n2, t2, pcj15c4]
      refine callOps_intro [pI (pairE w2.data.toList [46]).1, pI (pairE w2.data.toList [46]).2] (by exact R_pair.mk w2 ⟨#[46]⟩ hz2) ?_
      simp only [↓evP, evB, stB, reduceIte, reduceCtorEq, Nat.reduceEqDiff, Nat.reduceAdd, Nat.reduceMul, Nat.reduceLeDiff, Nat.reduceLT, Nat.reduceSub, Nat.reduceBEq, h0, h2, h4, h5, g2, g5, o2, o5]
      exact hQ _ ⟨by simp only [stB, reduceIte, reduceCtorEq, Nat.reduceEqDiff, Nat.reduceAdd, Nat.reduceMul, Nat.reduceLeDiff, Nat.reduceLT, Nat.reduceSub, Nat.reduceBEq, h0], by simp only [stB, reduceIte, reduceCtorEq, Nat.reduceEqDiff, Nat.reduceAdd, Nat.reduceMul, Nat.reduceLeDiff, Nat.reduceLT, Nat.reduceSub, Nat.reduceBEq, h2], by simp only [stB, reduceIte, reduceCtorEq, Nat.reduceEqDiff, Nat.reduceAdd, Nat.reduceMul, Nat.reduceLeDiff, Nat.reduceLT, Nat.reduceSub, Nat.reduceBEq, h5], by simp only [stB, reduceIte, reduceCtorEq, Nat.reduceEqDiff, Nat.reduceAdd, Nat.reduceMul, Nat.reduceLeDiff, Nat.reduceLT, Nat.reduceSub, Nat.reduceBEq, g2], by simp only [stB, reduceIte, reduceCtorEq, Nat.reduceEqDiff, Nat.reduceAdd, Nat.reduceMul, Nat.reduceLeDiff, Nat.reduceLT, Nat.reduceSub, Nat.reduceBEq, g5], by simp only [stB, reduceIte, reduceCtorEq, Nat.reduceEqDiff, Nat.reduceAdd, Nat.reduceMul, Nat.reduceLeDiff, Nat.reduceLT, Nat.reduceSub, Nat.reduceBEq, o2]; rfl, by simp only [stB, reduceIte, reduceCtorEq, Nat.reduceEqDiff, Nat.reduceAdd, Nat.reduceMul, Nat.reduceLeDiff, Nat.reduceLT, Nat.reduceSub, Nat.reduceBEq, o5]; rfl⟩ (by simp only [stB, reduceIte, reduceCtorEq, Nat.reduceEqDiff, Nat.reduceAdd, Nat.reduceMul, Nat.reduceLeDiff, Nat.reduceLT, Nat.reduceSub, Nat.reduceBEq, h4])

theorem ws_split {ws : List ByteArray} (h1 : ¬ ws.length < 5) (h2 : ¬ 6 < ws.length) : ∃ w0 w1 w2 w3 a b pre, ws = pre ++ [a, b] ∧ pre.length ≤ 4 ∧ ws[0]? = some w0 ∧ ws[1]? = some w1 ∧ ws[2]? = some w2 ∧ ws[3]? = some w3 ∧ ws[ws.length - 2]? = some a ∧ ws[ws.length - 1]? = some b := by
  match ws, h1, h2 with
  | [x0, x1, x2, x3, x4], _, _ => exact ⟨x0, x1, x2, x3, x3, x4, [x0, x1, x2], rfl, by simp, rfl, rfl, rfl, rfl, rfl, rfl⟩
  | [x0, x1, x2, x3, x4, x5], _, _ => exact ⟨x0, x1, x2, x3, x4, x5, [x0, x1, x2, x3], rfl, by simp, rfl, rfl, rfl, rfl, rfl, rfl⟩
  | [], h, _ => simp at h
  | [_], h, _ => simp at h
  | [_, _], h, _ => simp at h
  | [_, _, _], h, _ => simp at h
  | [_, _, _, _], h, _ => simp at h
  | _ :: _ :: _ :: _ :: _ :: _ :: _ :: r, _, h => simp at h
theorem getD_map {ws : List ByteArray} {i : Nat} {w : ByteArray} (h : ws[i]? = some w) : (ws.map (·.data.toList)).getD i [] = w.data.toList := by
  rw [List.getD_eq_getElem?_getD, List.getElem?_map, h]; rfl
def R_eread (ps rs : List Pa) : Prop := ∃ s : ByteArray, ps = [pS s] ∧ s.size ≤ 100000 ∧ rs = readPa (readE s)
theorem R_eread.mk {s : ByteArray} (h : s.size ≤ 100000) : R_eread [pS s] (readPa (readE s)) := ⟨s, rfl, h, rfl⟩
theorem s_eread : Spec Tryd.prog 15 R_eread := by
  refine spj15 env_eread_ok ?_
  rintro ps rs ⟨s, rfl, hs, rfl⟩
  refine ⟨by simp, ?_⟩
  have hwl : (wordsE s).length = (splitL s ⟨#[32]⟩).length := by unfold wordsE; rw [List.length_map]
  have hcap : (splitL s ⟨#[32]⟩).length ≤ 1000000000 ∨ True := .inr trivial
  unfold pcj15
  refine pwp_start ?_
  simp only [↓evP, evB, stB, reduceIte, reduceCtorEq, Nat.reduceEqDiff, Nat.reduceAdd, Nat.reduceMul, Nat.reduceLeDiff, Nat.reduceLT, Nat.reduceSub, Nat.reduceBEq]
  refine callOps_intro [pL (splitL s ⟨#[32]⟩)] (by exact ⟨s, ⟨#[32]⟩, by omega, by decide, rfl, rfl⟩) ?_
  have hword := splitB_word ⟨#[32]⟩ (Lib.countB s ⟨#[32]⟩) s
  generalize hW : splitL s ⟨#[32]⟩ = ws at *
  have hlen := rowsS_len ws
  by_cases z5 : (ws.length : Int) < 5
  · have hr : readE s = none := by unfold readE; rw [if_pos (.inl (by omega))]
    simp only [↓evP, evB, stB, reduceIte, reduceCtorEq, Nat.reduceEqDiff, Nat.reduceAdd, Nat.reduceMul, Nat.reduceLeDiff, Nat.reduceLT, Nat.reduceSub, Nat.reduceBEq, hlen, z5, decide_true, hr, readPa, prj15]
    rfl
  by_cases z6 : (ws.length : Int) > 6
  · have hr : readE s = none := by unfold readE; rw [if_pos (.inr (by omega))]
    simp only [↓evP, evB, stB, reduceIte, reduceCtorEq, Nat.reduceEqDiff, Nat.reduceAdd, Nat.reduceMul, Nat.reduceLeDiff, Nat.reduceLT, Nat.reduceSub, Nat.reduceBEq, hlen, z5, z6, decide_true, decide_false, hr, readPa, prj15]
    rfl
  obtain ⟨w0, w1, w2, w3, a, b, pre, hpre, hpl, i0, i1, i2, i3, ia, ib⟩ := ws_split (ws := ws) (by omega) (by omega)
  have hsz : ∀ (i : Nat) (w : ByteArray), ws[i]? = some w → w.size ≤ 1000000 := fun i w h => by
    have := hword w (by have h1 := List.mem_of_getElem? h; rw [← hW] at h1; exact h1)
    omega
  have r0 := rowsS_get i0
  have r1 := rowsS_get i1
  have n0 : ((0 : Int) ≤ 0) = True := by simp
  have n1 : ((0 : Int) ≤ 1) = True := by simp
  have t1 : (1 : Int).toNat = 1 := rfl
  simp only [↓evP, evB, stB, reduceIte, reduceCtorEq, Nat.reduceEqDiff, Nat.reduceAdd, Nat.reduceMul, Nat.reduceLeDiff, Nat.reduceLT, Nat.reduceSub, Nat.reduceBEq, hlen, z5, z6, decide_false, r0, n0, Int.toNat_zero]
  refine callD_intro [pI (numE w0.data.toList [103])] (by exact R_number.mk w0 ⟨#[103]⟩ (hsz _ _ i0)) ?_
  simp only [↓evP, evB, stB, reduceIte, reduceCtorEq, Nat.reduceEqDiff, Nat.reduceAdd, Nat.reduceMul, Nat.reduceLeDiff, Nat.reduceLT, Nat.reduceSub, Nat.reduceBEq, r1, n1, t1]
  refine callD_intro [pI (kindIx w1.data.toList)] (by exact R_kindOf.mk w1) ?_
  simp only [↓evP, evB, stB, reduceIte, reduceCtorEq, Nat.reduceEqDiff, Nat.reduceAdd, Nat.reduceMul, Nat.reduceLeDiff, Nat.reduceLT, Nat.reduceSub, Nat.reduceBEq]
  refine ⟨(by unfold Drw; refine Eq.trans (b := true) ?_ rfl; kernel_rfl), ?_⟩
  try simp only [↓evP, evB, stB, reduceIte, reduceCtorEq, Nat.reduceEqDiff, Nat.reduceAdd, Nat.reduceMul, Nat.reduceLeDiff, Nat.reduceLT, Nat.reduceSub, Nat.reduceBEq]
  generalize hE0 : ({ Ev.zero with g := numE w0.data.toList [103], kind := kindIx w1.data.toList } : Ev) = E0
  have hev : evOf (wordsE s) = evEnd (midE E0 w2.data.toList w3.data.toList) a.data.toList b.data.toList := by
    unfold evOf wordsE
    rw [hW, getD_map i0, getD_map i1, getD_map i2, getD_map i3, List.length_map, getD_map ia, getD_map ib, ← hE0]
    rfl
  have hres : readPa (readE s) = endE s (evEnd (midE E0 w2.data.toList w3.data.toList) a.data.toList b.data.toList) := by
    unfold readE endE
    rw [if_neg (by omega), hev]
    split <;> rfl
  rw [hres]
  refine read_mid (s := s) (e := E0) i2 i3 (hsz _ _ i2) (hsz _ _ i3) _ (fun st hst h4 => ?_) _ ⟨by simp only [stB, reduceIte, reduceCtorEq, Nat.reduceEqDiff, Nat.reduceAdd, Nat.reduceMul, Nat.reduceLeDiff, Nat.reduceLT, Nat.reduceSub, Nat.reduceBEq], by simp only [stB, reduceIte, reduceCtorEq, Nat.reduceEqDiff, Nat.reduceAdd, Nat.reduceMul, Nat.reduceLeDiff, Nat.reduceLT, Nat.reduceSub, Nat.reduceBEq], by simp only [stB, reduceIte, reduceCtorEq, Nat.reduceEqDiff, Nat.reduceAdd, Nat.reduceMul, Nat.reduceLeDiff, Nat.reduceLT, Nat.reduceSub, Nat.reduceBEq], by simp only [stB, reduceIte, reduceCtorEq, Nat.reduceEqDiff, Nat.reduceAdd, Nat.reduceMul, Nat.reduceLeDiff, Nat.reduceLT, Nat.reduceSub, Nat.reduceBEq], by simp only [stB, reduceIte, reduceCtorEq, Nat.reduceEqDiff, Nat.reduceAdd, Nat.reduceMul, Nat.reduceLeDiff, Nat.reduceLT, Nat.reduceSub, Nat.reduceBEq], by simp only [stB, reduceIte, reduceCtorEq, Nat.reduceEqDiff, Nat.reduceAdd, Nat.reduceMul, Nat.reduceLeDiff, Nat.reduceLT, Nat.reduceSub, Nat.reduceBEq]; rfl, by rw [← hE0]; simp only [stB, reduceIte, reduceCtorEq, Nat.reduceEqDiff, Nat.reduceAdd, Nat.reduceMul, Nat.reduceLeDiff, Nat.reduceLT, Nat.reduceSub, Nat.reduceBEq]; rfl⟩ (by simp only [stB, reduceIte, reduceCtorEq, Nat.reduceEqDiff, Nat.reduceAdd, Nat.reduceMul, Nat.reduceLeDiff, Nat.reduceLT, Nat.reduceSub, Nat.reduceBEq])
  rw [hpre] at h4
  exact read_tail (by omega) (hsz _ _ ia) (hsz _ _ ib) _ (fun st h => ⟨.inr rfl, h⟩) st hst h4
end Go.Proofs.YthnjbnfnljjepabDoor
end
section
set_option linter.unusedSimpArgs false
set_option linter.unusedVariables false
namespace Go.Proofs.YthnjbnfnljjepabDoor
open Go Go.RowKit
set_option maxRecDepth 1000000
set_option maxHeartbeats 8000000

theorem eq9 (a b c d e f g h i : Int) : eqCls [false, false, false, false, false, false, false, false, false] [.d (dI a), .d (dI b), .d (dI c), .d (dI d), .d (dI e), .d (dI f), .d (dI g), .d (dI h), .d (dI i)] [.d (dI a), .d (dI b), .d (dI c), .d (dI d), .d (dI e), .d (dI f), .d (dI g), .d (dI h), .d (dI i)] = some true := by
  simp [eqCls, eqCl]
/-! the examples of the document -/
def xvA : Ev := ⟨2, 2, 17, 3, 0, 0, 4, 12, 5⟩
def xvB : Ev := ⟨1, 15, 9, 0, 3, 2, 4, 12, 5⟩
def txA : List UInt8 := [103, 50, 32, 119, 114, 105, 116, 101, 32, 49, 55, 46, 51, 32, 64, 52, 58, 49, 50, 32, 35, 53]
def txB : List UInt8 := [103, 49, 32, 115, 101, 110, 100, 45, 115, 116, 97, 114, 116, 32, 57, 32, 51, 47, 50, 32, 64, 52, 58, 49, 50, 32, 35, 53]
def txF : List UInt8 := [103, 48, 49, 32, 114, 101, 97, 100, 32, 49, 46, 48, 32, 64, 48, 58, 48, 32, 35, 48]
theorem text_A : etext xvA = txA := by kernel_rfl
theorem text_B : etext xvB = txB := by kernel_rfl
theorem read_B : readE (strB txB) = some xvB := by rw [← text_B]; exact readE_text (by kernel_rfl)
theorem words_F : wordsE (strB txF) = [[103, 48, 49], [114, 101, 97, 100], [49, 46, 48], [64, 48, 58, 48], [35, 48]] := by
  rw [show txF = Lib.join [[103, 48, 49], [114, 101, 97, 100], [49, 46, 48], [64, 48, 58, 48], [35, 48]] [32] by kernel_rfl]
  exact wordsE_join (by simp) (by decide)
theorem read_F : readE (strB txF) = none := by
  have h1 : evOf [[103, 48, 49], [114, 101, 97, 100], [49, 46, 48], [64, 48, 58, 48], [35, 48]] = ⟨1, 1, 1, 0, 0, 0, 0, 0, 0⟩ := by kernel_rfl
  have h2 : etext ⟨1, 1, 1, 0, 0, 0, 0, 0, 0⟩ ≠ txF := by
    rw [show etext ⟨1, 1, 1, 0, 0, 0, 0, 0, 0⟩ = [103, 49, 32, 114, 101, 97, 100, 32, 49, 46, 48, 32, 64, 48, 58, 48, 32, 35, 48] by kernel_rfl]
    decide
  unfold readE
  rw [words_F, h1, if_neg (by decide), if_neg (fun h => h2 h.2)]
def R_awake20 (ps rs : List Pa) : Prop := ps = [] ∧ rs = [pB true]
def env_awake20 : Env := e1 15 R_eread (e1 13 R_etext (e1 19 (R_kB memB) (e1 25 (R_kB relB) e0)))
theorem env_awake20_ok : EnvOK Tryd.prog env_awake20 := EnvOK.e1 s_eread (EnvOK.e1 s_etext (EnvOK.e1 s_memory (EnvOK.e1 s_rel EnvOK.e0)))
theorem s_awake20 : Spec Tryd.prog 10 R_awake20 := by
  refine sp10 env_awake20_ok ?_
  rintro ps rs ⟨rfl, rfl⟩
  refine ⟨by simp, ?_⟩
  have rB : R_eread [pS (strB txB)] [xvB.pa, pI 0] := by
    have h := R_eread.mk (s := strB txB) (by decide)
    rw [read_B] at h; exact h
  have rF : R_eread [pS (strB txF)] [Ev.zero.pa, pI 8] := by
    have h := R_eread.mk (s := strB txF) (by decide)
    rw [read_F] at h; exact h
  have tA := R_etext.mk xvA
  rw [text_A] at tA
  have hse : ((strB txA).toList == (strB txA).toList) = true := by rw [strings_eq]; simp
  have q0 : ((0 : Int) == 0) = true := rfl
  have q8 : ((8 : Int) == 8) = true := rfl
  unfold pc10
  refine pwp_start ?_
  simp only [↓evP, evB, stB, reduceIte, reduceCtorEq, Nat.reduceEqDiff, Nat.reduceAdd, Nat.reduceMul, Nat.reduceLeDiff, Nat.reduceLT, Nat.reduceSub, Nat.reduceBEq]
  refine callOps_intro [xvB.pa, pI 0] (by exact rB) ?_
  simp only [↓evP, evB, stB, reduceIte, reduceCtorEq, Nat.reduceEqDiff, Nat.reduceAdd, Nat.reduceMul, Nat.reduceLeDiff, Nat.reduceLT, Nat.reduceSub, Nat.reduceBEq, Ev.pa, Ev.row, xvB, List.map_cons, List.map_nil]
  refine callOps_intro [Ev.zero.pa, pI 8] (by exact rF) ?_
  simp only [↓evP, evB, stB, reduceIte, reduceCtorEq, Nat.reduceEqDiff, Nat.reduceAdd, Nat.reduceMul, Nat.reduceLeDiff, Nat.reduceLT, Nat.reduceSub, Nat.reduceBEq, Ev.pa, Ev.row, xvB, Ev.zero, List.map_cons, List.map_nil]
  refine callOps_intro [pS (strB txA)] (by exact tA) ?_
  have hse' : ((strB txA).toList == (⟨#[103, 50, 32, 119, 114, 105, 116, 101, 32, 49, 55, 46, 51, 32, 64, 52, 58, 49, 50, 32, 35, 53]⟩ : ByteArray).toList) = true := hse
  have e9 := eq9 1 15 9 0 3 2 4 12 5
  simp only [↓evP, evB, stB, reduceIte, reduceCtorEq, Nat.reduceEqDiff, Nat.reduceAdd, Nat.reduceMul, Nat.reduceLeDiff, Nat.reduceLT, Nat.reduceSub, Nat.reduceBEq, hse', q0, q8, e9]
  refine callOps_intro [pB true] (by exact (R_kB.mk (b := memB) 1)) ?_
  simp only [↓evP, evB, stB, reduceIte, reduceCtorEq, Nat.reduceEqDiff, Nat.reduceAdd, Nat.reduceMul, Nat.reduceLeDiff, Nat.reduceLT, Nat.reduceSub, Nat.reduceBEq]
  refine callOps_intro [pB true] (by exact (R_kB.mk (b := relB) 14)) ?_
  simp only [↓evP, evB, stB, reduceIte, reduceCtorEq, Nat.reduceEqDiff, Nat.reduceAdd, Nat.reduceMul, Nat.reduceLeDiff, Nat.reduceLT, Nat.reduceSub, Nat.reduceBEq, pr10]

/-! conflicts -/
def confB (a b : Ev) : Bool := memB a.kind && (memB b.kind && ((a.g != b.g) && ((a.obj == b.obj) && ((a.off == b.off) && ((a.kind == 2) || (b.kind == 2))))))
def R_conf (ps rs : List Pa) : Prop := ∃ a b : Ev, ps = [a.pa, b.pa] ∧ rs = [pB (confB a b)]
theorem R_conf.mk (a b : Ev) : R_conf [a.pa, b.pa] [pB (confB a b)] := ⟨a, b, rfl, rfl⟩
theorem max_kind {a b : Int} (ha : memB a = true) (hb : memB b = true) : ((if b > a then b else a) == 2) = ((a == 2) || (b == 2)) := by
  unfold memB at ha hb
  rw [decide_eq_true_eq] at ha hb
  rcases ha with rfl | rfl <;> rcases hb with rfl | rfl <;> rfl
theorem confB_symm (a b : Ev) : confB b a = confB a b := by
  unfold confB
  rw [Bool.eq_iff_iff]
  simp only [Bool.and_eq_true, Bool.or_eq_true, bne_iff_ne, beq_iff_eq, ne_eq]
  constructor
  · rintro ⟨h1, h2, h3, h4, h5, h6⟩
    exact ⟨h2, h1, fun h => h3 h.symm, h4.symm, h5.symm, h6.symm⟩
  · rintro ⟨h1, h2, h3, h4, h5, h6⟩
    exact ⟨h2, h1, fun h => h3 h.symm, h4.symm, h5.symm, h6.symm⟩
theorem confB_self (a : Ev) : confB a a = false := by unfold confB; simp
theorem s_conf : Spec Tryd.prog 18 R_conf := by
  refine sp18 (EnvOK.e1 s_memory EnvOK.e0) ?_
  rintro ps rs ⟨a, b, rfl, rfl⟩
  refine ⟨by simp, ?_⟩
  have hc : confB a b = (memB a.kind && (memB b.kind && ((a.g != b.g) && ((a.obj == b.obj) && ((a.off == b.off) && ((a.kind == 2) || (b.kind == 2))))))) := rfl
  generalize confB a b = C at *
  unfold pc18
  refine pwp_start ?_
  simp only [↓evP, evB, stB, reduceIte, reduceCtorEq, Nat.reduceEqDiff, Nat.reduceAdd, Nat.reduceMul, Nat.reduceLeDiff, Nat.reduceLT, Nat.reduceSub, Nat.reduceBEq, Ev.pa, Ev.row, List.map_cons, List.map_nil]
  refine callOps_intro [pB (memB a.kind)] (by exact R_kB.mk a.kind) ?_
  cases h1 : memB a.kind with
  | false =>
    rw [h1] at hc
    simp only [Bool.false_and] at hc
    subst hc
    simp only [↓evP, evB, stB, reduceIte, reduceCtorEq, Nat.reduceEqDiff, Nat.reduceAdd, Nat.reduceMul, Nat.reduceLeDiff, Nat.reduceLT, Nat.reduceSub, Nat.reduceBEq, Ev.pa, Ev.row, List.map_cons, List.map_nil, pr18]
  | true =>
  simp only [↓evP, evB, stB, reduceIte, reduceCtorEq, Nat.reduceEqDiff, Nat.reduceAdd, Nat.reduceMul, Nat.reduceLeDiff, Nat.reduceLT, Nat.reduceSub, Nat.reduceBEq, Ev.pa, Ev.row, List.map_cons, List.map_nil]
  refine callOps_intro [pB (memB b.kind)] (by exact R_kB.mk b.kind) ?_
  cases h2 : memB b.kind with
  | false =>
    rw [h1, h2] at hc
    simp only [Bool.false_and, Bool.true_and] at hc
    subst hc
    simp only [↓evP, evB, stB, reduceIte, reduceCtorEq, Nat.reduceEqDiff, Nat.reduceAdd, Nat.reduceMul, Nat.reduceLeDiff, Nat.reduceLT, Nat.reduceSub, Nat.reduceBEq, Ev.pa, Ev.row, List.map_cons, List.map_nil, pr18]
  | true =>
  rw [h1, h2] at hc
  simp only [Bool.true_and] at hc
  cases h3 : a.g != b.g with
  | false =>
    rw [h3] at hc
    simp only [Bool.false_and] at hc
    subst hc
    simp only [↓evP, evB, stB, reduceIte, reduceCtorEq, Nat.reduceEqDiff, Nat.reduceAdd, Nat.reduceMul, Nat.reduceLeDiff, Nat.reduceLT, Nat.reduceSub, Nat.reduceBEq, Ev.pa, Ev.row, List.map_cons, List.map_nil, h3, pr18]
  | true =>
  cases h4 : a.obj == b.obj with
  | false =>
    rw [h3, h4] at hc
    simp only [Bool.false_and, Bool.true_and] at hc
    subst hc
    simp only [↓evP, evB, stB, reduceIte, reduceCtorEq, Nat.reduceEqDiff, Nat.reduceAdd, Nat.reduceMul, Nat.reduceLeDiff, Nat.reduceLT, Nat.reduceSub, Nat.reduceBEq, Ev.pa, Ev.row, List.map_cons, List.map_nil, h3, h4, pr18]
  | true =>
  cases h5 : a.off == b.off with
  | false =>
    rw [h3, h4, h5] at hc
    simp only [Bool.false_and, Bool.true_and] at hc
    subst hc
    simp only [↓evP, evB, stB, reduceIte, reduceCtorEq, Nat.reduceEqDiff, Nat.reduceAdd, Nat.reduceMul, Nat.reduceLeDiff, Nat.reduceLT, Nat.reduceSub, Nat.reduceBEq, Ev.pa, Ev.row, List.map_cons, List.map_nil, h3, h4, h5, pr18]
  | true =>
  rw [h3, h4, h5] at hc
  simp only [Bool.true_and] at hc
  have hm := max_kind h1 h2
  rw [← hc] at hm
  simp only [↓evP, evB, stB, reduceIte, reduceCtorEq, Nat.reduceEqDiff, Nat.reduceAdd, Nat.reduceMul, Nat.reduceLeDiff, Nat.reduceLT, Nat.reduceSub, Nat.reduceBEq, Ev.pa, Ev.row, List.map_cons, List.map_nil, h3, h4, h5, hm, scMM, List.foldl_cons, List.foldl_nil, pr18]
theorem s_rconf : Spec Tryd.prog 17 R_conf := by
  refine sp17 (EnvOK.e1 s_rmemory EnvOK.e0) ?_
  rintro ps rs ⟨a, b, rfl, rfl⟩
  refine ⟨by simp, ?_⟩
  have hc : confB a b = (memB a.kind && (memB b.kind && ((a.g != b.g) && ((a.obj == b.obj) && ((a.off == b.off) && ((a.kind == 2) || (b.kind == 2))))))) := rfl
  generalize confB a b = C at *
  unfold pc17
  refine pwp_start ?_
  simp only [↓evP, evB, stB, reduceIte, reduceCtorEq, Nat.reduceEqDiff, Nat.reduceAdd, Nat.reduceMul, Nat.reduceLeDiff, Nat.reduceLT, Nat.reduceSub, Nat.reduceBEq, Ev.pa, Ev.row, List.map_cons, List.map_nil]
  refine callOps_intro [pB (memB a.kind)] (by exact R_kB.mk a.kind) ?_
  cases h1 : memB a.kind with
  | false =>
    rw [h1] at hc
    simp only [Bool.false_and] at hc
    subst hc
    simp only [↓evP, evB, stB, reduceIte, reduceCtorEq, Nat.reduceEqDiff, Nat.reduceAdd, Nat.reduceMul, Nat.reduceLeDiff, Nat.reduceLT, Nat.reduceSub, Nat.reduceBEq, Ev.pa, Ev.row, List.map_cons, List.map_nil, pr17]
  | true =>
  simp only [↓evP, evB, stB, reduceIte, reduceCtorEq, Nat.reduceEqDiff, Nat.reduceAdd, Nat.reduceMul, Nat.reduceLeDiff, Nat.reduceLT, Nat.reduceSub, Nat.reduceBEq, Ev.pa, Ev.row, List.map_cons, List.map_nil]
  refine callOps_intro [pB (memB b.kind)] (by exact R_kB.mk b.kind) ?_
  cases h2 : memB b.kind with
  | false =>
    rw [h1, h2] at hc
    simp only [Bool.false_and, Bool.true_and] at hc
    subst hc
    simp only [↓evP, evB, stB, reduceIte, reduceCtorEq, Nat.reduceEqDiff, Nat.reduceAdd, Nat.reduceMul, Nat.reduceLeDiff, Nat.reduceLT, Nat.reduceSub, Nat.reduceBEq, Ev.pa, Ev.row, List.map_cons, List.map_nil, pr17]
  | true =>
  rw [h1, h2] at hc
  simp only [Bool.true_and] at hc
  cases h3 : a.g != b.g with
  | false =>
    rw [h3] at hc
    simp only [Bool.false_and] at hc
    subst hc
    simp only [↓evP, evB, stB, reduceIte, reduceCtorEq, Nat.reduceEqDiff, Nat.reduceAdd, Nat.reduceMul, Nat.reduceLeDiff, Nat.reduceLT, Nat.reduceSub, Nat.reduceBEq, Ev.pa, Ev.row, List.map_cons, List.map_nil, h3, pr17]
  | true =>
  cases h4 : a.obj == b.obj with
  | false =>
    rw [h3, h4] at hc
    simp only [Bool.false_and, Bool.true_and] at hc
    subst hc
    simp only [↓evP, evB, stB, reduceIte, reduceCtorEq, Nat.reduceEqDiff, Nat.reduceAdd, Nat.reduceMul, Nat.reduceLeDiff, Nat.reduceLT, Nat.reduceSub, Nat.reduceBEq, Ev.pa, Ev.row, List.map_cons, List.map_nil, h3, h4, pr17]
  | true =>
  cases h5 : a.off == b.off with
  | false =>
    rw [h3, h4, h5] at hc
    simp only [Bool.false_and, Bool.true_and] at hc
    subst hc
    simp only [↓evP, evB, stB, reduceIte, reduceCtorEq, Nat.reduceEqDiff, Nat.reduceAdd, Nat.reduceMul, Nat.reduceLeDiff, Nat.reduceLT, Nat.reduceSub, Nat.reduceBEq, Ev.pa, Ev.row, List.map_cons, List.map_nil, h3, h4, h5, pr17]
  | true =>
  rw [h3, h4, h5] at hc
  simp only [Bool.true_and] at hc
  cases h6 : a.kind == 2 with
  | true =>
    rw [h6] at hc
    simp only [Bool.true_or] at hc
    subst hc
    simp only [↓evP, evB, stB, reduceIte, reduceCtorEq, Nat.reduceEqDiff, Nat.reduceAdd, Nat.reduceMul, Nat.reduceLeDiff, Nat.reduceLT, Nat.reduceSub, Nat.reduceBEq, Ev.pa, Ev.row, List.map_cons, List.map_nil, h3, h4, h5, h6, pr17]
  | false =>
    rw [h6] at hc
    simp only [Bool.false_or] at hc
    subst hc
    simp only [↓evP, evB, stB, reduceIte, reduceCtorEq, Nat.reduceEqDiff, Nat.reduceAdd, Nat.reduceMul, Nat.reduceLeDiff, Nat.reduceLT, Nat.reduceSub, Nat.reduceBEq, Ev.pa, Ev.row, List.map_cons, List.map_nil, h3, h4, h5, h6, pr17]
def env20 : Env := e1 10 R_awake20 (e1 11 R_valid20 (e1 12 R_valid20 (e1 19 (R_kB memB) (e1 20 (R_kB memB) (e1 21 (R_kB chanB) (e1 22 R_channel20 (e1 23 (R_kB acqB) (e1 24 (R_kB acqB) (e1 25 (R_kB relB) (e1 26 (R_kB relB) (e1 18 R_conf (e1 17 R_conf e0))))))))))))
theorem env20_ok : EnvOK Tryd.prog env20 := EnvOK.e1 s_awake20 (EnvOK.e1 s_valid (EnvOK.e1 s_valid20 (EnvOK.e1 s_memory (EnvOK.e1 s_rmemory (EnvOK.e1 s_channel (EnvOK.e1 s_channel20 (EnvOK.e1 s_acq (EnvOK.e1 s_racq (EnvOK.e1 s_rel (EnvOK.e1 s_rrel (EnvOK.e1 s_conf (EnvOK.e1 s_rconf EnvOK.e0))))))))))))
def R_lvalid (ps rs : List Pa) : Prop := ∃ e : Ev, ps = [e.pa] ∧ rs = [pB true]
theorem s_lvalid : Spec Tryd.prog 3 R_lvalid := by
  refine sp3 env20_ok ?_
  rintro ps rs ⟨e, rfl, rfl⟩
  refine ⟨by simp, ?_⟩
  have q : (e.valid == e.valid) = true := by simp
  unfold pc3
  refine pwp_start ?_
  simp only [↓evP, evB, stB, reduceIte, reduceCtorEq, Nat.reduceEqDiff, Nat.reduceAdd, Nat.reduceMul, Nat.reduceLeDiff, Nat.reduceLT, Nat.reduceSub, Nat.reduceBEq, Ev.pa, Ev.row, List.map_cons, List.map_nil]
  refine callOps_intro [pB true] ⟨rfl, rfl⟩ ?_
  simp only [↓evP, evB, stB, reduceIte, reduceCtorEq, Nat.reduceEqDiff, Nat.reduceAdd, Nat.reduceMul, Nat.reduceLeDiff, Nat.reduceLT, Nat.reduceSub, Nat.reduceBEq, Ev.pa, Ev.row, List.map_cons, List.map_nil]
  refine callD_intro [pB e.valid] (by exact ⟨e, rfl, rfl⟩) ?_
  simp only [↓evP, evB, stB, reduceIte, reduceCtorEq, Nat.reduceEqDiff, Nat.reduceAdd, Nat.reduceMul, Nat.reduceLeDiff, Nat.reduceLT, Nat.reduceSub, Nat.reduceBEq, Ev.pa, Ev.row, List.map_cons, List.map_nil]
  refine callD_intro [pB e.valid] (by exact ⟨e, rfl, rfl⟩) ?_
  simp only [↓evP, evB, stB, reduceIte, reduceCtorEq, Nat.reduceEqDiff, Nat.reduceAdd, Nat.reduceMul, Nat.reduceLeDiff, Nat.reduceLT, Nat.reduceSub, Nat.reduceBEq, Ev.pa, Ev.row, List.map_cons, List.map_nil, q, pr3]
  exact (by unfold Drw; refine Eq.trans (b := true) ?_ rfl; kernel_rfl)
def R_lconf (ps rs : List Pa) : Prop := ∃ a b : Ev, ps = [a.pa, b.pa] ∧ rs = [pB true]
theorem s_lconf : Spec Tryd.prog 7 R_lconf := by
  refine sp7 env20_ok ?_
  rintro ps rs ⟨a, b, rfl, rfl⟩
  refine ⟨by simp, ?_⟩
  have q : (confB a b == confB a b) = true := by simp
  unfold pc7
  refine pwp_start ?_
  simp only [↓evP, evB, stB, reduceIte, reduceCtorEq, Nat.reduceEqDiff, Nat.reduceAdd, Nat.reduceMul, Nat.reduceLeDiff, Nat.reduceLT, Nat.reduceSub, Nat.reduceBEq, Ev.pa, Ev.row, List.map_cons, List.map_nil]
  refine callOps_intro [pB true] ⟨rfl, rfl⟩ ?_
  simp only [↓evP, evB, stB, reduceIte, reduceCtorEq, Nat.reduceEqDiff, Nat.reduceAdd, Nat.reduceMul, Nat.reduceLeDiff, Nat.reduceLT, Nat.reduceSub, Nat.reduceBEq, Ev.pa, Ev.row, List.map_cons, List.map_nil]
  refine callOps_intro [pB (confB a b)] (by exact R_conf.mk a b) ?_
  simp only [↓evP, evB, stB, reduceIte, reduceCtorEq, Nat.reduceEqDiff, Nat.reduceAdd, Nat.reduceMul, Nat.reduceLeDiff, Nat.reduceLT, Nat.reduceSub, Nat.reduceBEq, Ev.pa, Ev.row, List.map_cons, List.map_nil]
  refine callOps_intro [pB (confB a b)] (by exact R_conf.mk a b) ?_
  simp only [↓evP, evB, stB, reduceIte, reduceCtorEq, Nat.reduceEqDiff, Nat.reduceAdd, Nat.reduceMul, Nat.reduceLeDiff, Nat.reduceLT, Nat.reduceSub, Nat.reduceBEq, Ev.pa, Ev.row, List.map_cons, List.map_nil, q]
  refine callOps_intro [pB (confB a b)] (by rw [← confB_symm]; exact R_conf.mk b a) ?_
  simp only [↓evP, evB, stB, reduceIte, reduceCtorEq, Nat.reduceEqDiff, Nat.reduceAdd, Nat.reduceMul, Nat.reduceLeDiff, Nat.reduceLT, Nat.reduceSub, Nat.reduceBEq, Ev.pa, Ev.row, List.map_cons, List.map_nil, q]
  refine callOps_intro [pB false] (by rw [← confB_self a]; exact R_conf.mk a a) ?_
  simp only [↓evP, evB, stB, reduceIte, reduceCtorEq, Nat.reduceEqDiff, Nat.reduceAdd, Nat.reduceMul, Nat.reduceLeDiff, Nat.reduceLT, Nat.reduceSub, Nat.reduceBEq, Ev.pa, Ev.row, List.map_cons, List.map_nil, q, pr7]
def R_lkinds (ps rs : List Pa) : Prop := ∃ k : Int, ps = [pI k] ∧ rs = [pB true]
theorem s_lkinds : Spec Tryd.prog 8 R_lkinds := by
  refine sp8 env20_ok ?_
  rintro ps rs ⟨k, rfl, rfl⟩
  refine ⟨by simp, ?_⟩
  have q1 : (memB k == memB k) = true := by simp
  have q2 : (chanB k == chanB k) = true := by simp
  have q3 : (acqB k == acqB k) = true := by simp
  have q4 : (relB k == relB k) = true := by simp
  unfold pc8
  refine pwp_start ?_
  simp only [↓evP, evB, stB, reduceIte, reduceCtorEq, Nat.reduceEqDiff, Nat.reduceAdd, Nat.reduceMul, Nat.reduceLeDiff, Nat.reduceLT, Nat.reduceSub, Nat.reduceBEq]
  refine callOps_intro [pB true] ⟨rfl, rfl⟩ ?_
  simp only [↓evP, evB, stB, reduceIte, reduceCtorEq, Nat.reduceEqDiff, Nat.reduceAdd, Nat.reduceMul, Nat.reduceLeDiff, Nat.reduceLT, Nat.reduceSub, Nat.reduceBEq]
  refine callOps_intro [pB (memB k)] (by exact R_kB.mk k) ?_
  simp only [↓evP, evB, stB, reduceIte, reduceCtorEq, Nat.reduceEqDiff, Nat.reduceAdd, Nat.reduceMul, Nat.reduceLeDiff, Nat.reduceLT, Nat.reduceSub, Nat.reduceBEq]
  refine callOps_intro [pB (memB k)] (by exact R_kB.mk k) ?_
  simp only [↓evP, evB, stB, reduceIte, reduceCtorEq, Nat.reduceEqDiff, Nat.reduceAdd, Nat.reduceMul, Nat.reduceLeDiff, Nat.reduceLT, Nat.reduceSub, Nat.reduceBEq, q1]
  refine callOps_intro [pB (chanB k)] (by exact R_kB.mk k) ?_
  simp only [↓evP, evB, stB, reduceIte, reduceCtorEq, Nat.reduceEqDiff, Nat.reduceAdd, Nat.reduceMul, Nat.reduceLeDiff, Nat.reduceLT, Nat.reduceSub, Nat.reduceBEq, q1]
  refine callOps_intro [pB (chanB k)] (by exact ⟨k, rfl, rfl⟩) ?_
  simp only [↓evP, evB, stB, reduceIte, reduceCtorEq, Nat.reduceEqDiff, Nat.reduceAdd, Nat.reduceMul, Nat.reduceLeDiff, Nat.reduceLT, Nat.reduceSub, Nat.reduceBEq, q1, q2]
  refine callOps_intro [pB (acqB k)] (by exact R_kB.mk k) ?_
  simp only [↓evP, evB, stB, reduceIte, reduceCtorEq, Nat.reduceEqDiff, Nat.reduceAdd, Nat.reduceMul, Nat.reduceLeDiff, Nat.reduceLT, Nat.reduceSub, Nat.reduceBEq]
  refine callOps_intro [pB (acqB k)] (by exact R_kB.mk k) ?_
  simp only [↓evP, evB, stB, reduceIte, reduceCtorEq, Nat.reduceEqDiff, Nat.reduceAdd, Nat.reduceMul, Nat.reduceLeDiff, Nat.reduceLT, Nat.reduceSub, Nat.reduceBEq, q3]
  refine callOps_intro [pB (relB k)] (by exact R_kB.mk k) ?_
  simp only [↓evP, evB, stB, reduceIte, reduceCtorEq, Nat.reduceEqDiff, Nat.reduceAdd, Nat.reduceMul, Nat.reduceLeDiff, Nat.reduceLT, Nat.reduceSub, Nat.reduceBEq, q3]
  refine callOps_intro [pB (relB k)] (by exact R_kB.mk k) ?_
  simp only [↓evP, evB, stB, reduceIte, reduceCtorEq, Nat.reduceEqDiff, Nat.reduceAdd, Nat.reduceMul, Nat.reduceLeDiff, Nat.reduceLT, Nat.reduceSub, Nat.reduceBEq, q3, q4, pr8]
theorem sync_mem {k : Int} (h : (acqB k || relB k) = true) : memB k = false ∧ 1 ≤ k ∧ k ≤ 20 := by
  unfold acqB relB at h
  unfold memB
  simp only [Bool.or_eq_true, decide_eq_true_eq, decide_eq_false_iff_not] at *
  omega
theorem mem_chan {k : Int} (h : memB k = true) : chanB k = false ∧ 1 ≤ k ∧ k ≤ 20 := by
  unfold memB at h
  unfold chanB
  simp only [decide_eq_true_eq, decide_eq_false_iff_not] at *
  omega
theorem no_class {k : Int} (ha : acqB k = false) (hr : relB k = false) (hm : memB k = false) : ¬ (1 ≤ k ∧ k ≤ 20) := by
  unfold acqB at ha; unfold relB at hr; unfold memB at hm
  simp only [decide_eq_false_iff_not] at *
  omega
def R_lapart (ps rs : List Pa) : Prop := ∃ k : Int, ps = [pI k] ∧ rs = [pB true]
theorem s_lapart : Spec Tryd.prog 9 R_lapart := by
  refine sp9 env20_ok ?_
  rintro ps rs ⟨k, rfl, rfl⟩
  refine ⟨by simp, ?_⟩
  unfold pc9
  refine pwp_start ?_
  simp only [↓evP, evB, stB, reduceIte, reduceCtorEq, Nat.reduceEqDiff, Nat.reduceAdd, Nat.reduceMul, Nat.reduceLeDiff, Nat.reduceLT, Nat.reduceSub, Nat.reduceBEq]
  refine callOps_intro [pB true] ⟨rfl, rfl⟩ ?_
  simp only [↓evP, evB, stB, reduceIte, reduceCtorEq, Nat.reduceEqDiff, Nat.reduceAdd, Nat.reduceMul, Nat.reduceLeDiff, Nat.reduceLT, Nat.reduceSub, Nat.reduceBEq]
  refine callOps_intro [pB (acqB k)] (by exact R_kB.mk k) ?_
  have tt : (true == true) = true := rfl
  have ff : (false == false) = true := rfl
  cases ha : acqB k with
  | true =>
    obtain ⟨hm, k1, k2⟩ := sync_mem (k := k) (by rw [ha]; rfl)
    have g1 : k ≥ 1 := k1
    simp only [↓evP, evB, stB, reduceIte, reduceCtorEq, Nat.reduceEqDiff, Nat.reduceAdd, Nat.reduceMul, Nat.reduceLeDiff, Nat.reduceLT, Nat.reduceSub, Nat.reduceBEq]
    refine callOps_intro [pB false] (by rw [← hm]; exact R_kB.mk k) ?_
    simp only [↓evP, evB, stB, reduceIte, reduceCtorEq, Nat.reduceEqDiff, Nat.reduceAdd, Nat.reduceMul, Nat.reduceLeDiff, Nat.reduceLT, Nat.reduceSub, Nat.reduceBEq, g1, k2, decide_true, tt, pr9]
  | false =>
    simp only [↓evP, evB, stB, reduceIte, reduceCtorEq, Nat.reduceEqDiff, Nat.reduceAdd, Nat.reduceMul, Nat.reduceLeDiff, Nat.reduceLT, Nat.reduceSub, Nat.reduceBEq]
    refine callOps_intro [pB (relB k)] (by exact R_kB.mk k) ?_
    cases hr : relB k with
    | true =>
      obtain ⟨hm, k1, k2⟩ := sync_mem (k := k) (by rw [hr]; simp)
      have g1 : k ≥ 1 := k1
      simp only [↓evP, evB, stB, reduceIte, reduceCtorEq, Nat.reduceEqDiff, Nat.reduceAdd, Nat.reduceMul, Nat.reduceLeDiff, Nat.reduceLT, Nat.reduceSub, Nat.reduceBEq]
      refine callOps_intro [pB false] (by rw [← hm]; exact R_kB.mk k) ?_
      simp only [↓evP, evB, stB, reduceIte, reduceCtorEq, Nat.reduceEqDiff, Nat.reduceAdd, Nat.reduceMul, Nat.reduceLeDiff, Nat.reduceLT, Nat.reduceSub, Nat.reduceBEq, g1, k2, decide_true, tt, pr9]
    | false =>
      simp only [↓evP, evB, stB, reduceIte, reduceCtorEq, Nat.reduceEqDiff, Nat.reduceAdd, Nat.reduceMul, Nat.reduceLeDiff, Nat.reduceLT, Nat.reduceSub, Nat.reduceBEq]
      refine callOps_intro [pB (memB k)] (by exact R_kB.mk k) ?_
      cases hm : memB k with
      | true =>
        obtain ⟨hc, k1, k2⟩ := mem_chan hm
        have g1 : k ≥ 1 := k1
        simp only [↓evP, evB, stB, reduceIte, reduceCtorEq, Nat.reduceEqDiff, Nat.reduceAdd, Nat.reduceMul, Nat.reduceLeDiff, Nat.reduceLT, Nat.reduceSub, Nat.reduceBEq]
        refine callOps_intro [pB false] (by rw [← hc]; exact R_kB.mk k) ?_
        simp only [↓evP, evB, stB, reduceIte, reduceCtorEq, Nat.reduceEqDiff, Nat.reduceAdd, Nat.reduceMul, Nat.reduceLeDiff, Nat.reduceLT, Nat.reduceSub, Nat.reduceBEq]
        refine callOps_intro [pB true] (by rw [← hm]; exact R_kB.mk k) ?_
        simp only [↓evP, evB, stB, reduceIte, reduceCtorEq, Nat.reduceEqDiff, Nat.reduceAdd, Nat.reduceMul, Nat.reduceLeDiff, Nat.reduceLT, Nat.reduceSub, Nat.reduceBEq, g1, k2, decide_true, tt, pr9]
      | false =>
        have hn := no_class ha hr hm
        simp only [↓evP, evB, stB, reduceIte, reduceCtorEq, Nat.reduceEqDiff, Nat.reduceAdd, Nat.reduceMul, Nat.reduceLeDiff, Nat.reduceLT, Nat.reduceSub, Nat.reduceBEq]
        refine callOps_intro [pB false] (by rw [← hm]; exact R_kB.mk k) ?_
        by_cases g1 : k ≥ 1
        · have k2 : ¬ k ≤ 20 := fun h => hn ⟨g1, h⟩
          simp only [↓evP, evB, stB, reduceIte, reduceCtorEq, Nat.reduceEqDiff, Nat.reduceAdd, Nat.reduceMul, Nat.reduceLeDiff, Nat.reduceLT, Nat.reduceSub, Nat.reduceBEq, g1, k2, decide_true, decide_false, ff, pr9]
        · simp only [↓evP, evB, stB, reduceIte, reduceCtorEq, Nat.reduceEqDiff, Nat.reduceAdd, Nat.reduceMul, Nat.reduceLeDiff, Nat.reduceLT, Nat.reduceSub, Nat.reduceBEq, g1, decide_false, ff, pr9]
end Go.Proofs.YthnjbnfnljjepabDoor
end
section
set_option linter.unusedSimpArgs false
set_option linter.unusedVariables false
namespace Go.Proofs.YthnjbnfnljjepabDoor
open Go Go.RowKit
set_option maxRecDepth 1000000
set_option maxHeartbeats 8000000

abbrev aS (b : ByteArray) : Av := .b (.one (.d (.sc (.string b))))
theorem wru8 {x : Int} (h : 0 ≤ x) (k : x ≤ 255) : IntKind.u8.wrap x = x := IntWalk.u8_in x ⟨h, k⟩
theorem bytes1 {n : Nat} : bytesStr [(n : Int)] = strB [UInt8.ofNat n] := rfl
theorem tm10 (u : Nat) : (u : Int).tmod 10 = ((u % 10 : Nat) : Int) := by rw [Int.tmod_eq_emod_of_nonneg (by omega)]; omega
theorem td10 (u : Nat) : (u : Int).tdiv 10 = ((u / 10 : Nat) : Int) := by rw [Int.tdiv_eq_ediv_of_nonneg (by omega)]; omega
theorem ten_ne : ((10 : Int) = 0) = False := by simp
theorem cat_le {a b : List UInt8} (h : a.length + b.length ≤ 1000000) : ((((strB a).size + (strB b).size : Nat)) : Int) ≤ 9223372036854775807 := by rw [strB_size, strB_size]; omega
def R_dec (ps rs : List Pa) : Prop := ∃ n : Int, (0 ≤ n ∧ n ≤ 2147483647) ∧ ps = [pI n] ∧ rs = [pS (strB (Lib.itoa n))]
theorem R_dec.mk {n : Int} (h : 0 ≤ n ∧ n ≤ 2147483647) : R_dec [pI n] [pS (strB (Lib.itoa n))] := ⟨n, h, rfl, rfl⟩
theorem s_dec : Spec Tryd.prog 32 R_dec := by
  refine sp32 EnvOK.e0 ?_
  rintro ps rs ⟨n, ⟨h0, h1⟩, rfl, rfl⟩
  refine ⟨by simp, ?_⟩
  have hU := il ⟨h0, h1⟩
  obtain ⟨N, rfl⟩ := Int.eq_ofNat_of_zero_le h0
  rw [Lib.itoa_nonneg] at hU ⊢
  unfold pc32
  refine pwp_start ?_
  simp only [↓evP, evB, stB, reduceIte, reduceCtorEq, Nat.reduceEqDiff, Nat.reduceAdd, Nat.reduceMul, Nat.reduceLeDiff, Nat.reduceLT, Nat.reduceSub, Nat.reduceBEq]
  refine pwp_loopW ms32_0 os32_0 (fun m st => ∃ (u : Nat) (S : List UInt8), u = m ∧ u ≤ N ∧ Lib.decDigits N = Lib.decDigits u ++ S ∧ st.sl 0 = aI u ∧ st.sl 3 = aS (strB S)) N ?_ ?_
  · exact ⟨N, [], rfl, Nat.le_refl _, by simp, by simp only [stB, reduceIte, reduceCtorEq, Nat.reduceEqDiff, Nat.reduceAdd, Nat.reduceMul, Nat.reduceLeDiff, Nat.reduceLT, Nat.reduceSub, Nat.reduceBEq], by simp only [stB, reduceIte, reduceCtorEq, Nat.reduceEqDiff, Nat.reduceAdd, Nat.reduceMul, Nat.reduceLeDiff, Nat.reduceLT, Nat.reduceSub, Nat.reduceBEq]⟩
  · rintro m j ⟨u, S, rfl, hum, hd, h3, h4⟩
    simp only [stB, reduceIte, reduceCtorEq, Nat.reduceEqDiff, Nat.reduceAdd, Nat.reduceMul, Nat.reduceLeDiff, Nat.reduceLT, Nat.reduceSub, Nat.reduceBEq] at h3 h4
    have hS : S.length ≤ 21 := by rw [hd, List.length_append] at hU; omega
    have hm : IntKind.i64.wrap (48 + ((u % 10 : Nat) : Int)) = ((48 + u % 10 : Nat) : Int) := by rw [wr64 (by omega) (by omega)]; omega
    have hm8 : IntKind.u8.wrap ((48 + u % 10 : Nat) : Int) = ((48 + u % 10 : Nat) : Int) := wru8 (by omega) (by omega)
    have hq : IntKind.i64.wrap ((u / 10 : Nat) : Int) = ((u / 10 : Nat) : Int) := wr64 (by omega) (by omega)
    by_cases hb : (u : Int) ≥ 10
    · have hc := cat_le (a := [UInt8.ofNat (48 + u % 10)]) (b := S) (by simp; omega)
      simp only [↓evP, evB, stB, reduceIte, reduceCtorEq, Nat.reduceEqDiff, Nat.reduceAdd, Nat.reduceMul, Nat.reduceLeDiff, Nat.reduceLT, Nat.reduceSub, Nat.reduceBEq, h3, h4, hb, decide_true, ten_ne, tm10, td10, hm, hm8, hq, bytes1, hc]
      refine ⟨_, ?_, (by repeat' (first | assumption | exact within_over.mpr trivial | exact Within.refl _ _ _ | (refine within_ap ?_ rfl rfl) | (refine within_ap0 ?_ rfl))), u / 10, UInt8.ofNat (48 + u % 10) :: S, rfl, by omega, ?_, by simp only [stB, reduceIte, reduceCtorEq, Nat.reduceEqDiff, Nat.reduceAdd, Nat.reduceMul, Nat.reduceLeDiff, Nat.reduceLT, Nat.reduceSub, Nat.reduceBEq], by simp only [stB, reduceIte, reduceCtorEq, Nat.reduceEqDiff, Nat.reduceAdd, Nat.reduceMul, Nat.reduceLeDiff, Nat.reduceLT, Nat.reduceSub, Nat.reduceBEq]; rw [strB_append]; rfl⟩
      · omega
      · rw [hd, decDigits_big (by omega)]; simp
    · have hb' : u < 10 := by omega
      have hm2 : IntKind.i64.wrap (48 + (u : Int)) = ((48 + u : Nat) : Int) := by rw [wr64 (by omega) (by omega)]; omega
      have hm9 : IntKind.u8.wrap ((48 + u : Nat) : Int) = ((48 + u : Nat) : Int) := wru8 (by omega) (by omega)
      have hc := cat_le (a := [UInt8.ofNat (48 + u)]) (b := S) (by simp; omega)
      have hS2 : strB [UInt8.ofNat (48 + u)] ++ strB S = strB (Lib.decDigits N) := by rw [strB_append, hd, decDigits_small hb']
      simp only [↓evP, evB, stB, reduceIte, reduceCtorEq, Nat.reduceEqDiff, Nat.reduceAdd, Nat.reduceMul, Nat.reduceLeDiff, Nat.reduceLT, Nat.reduceSub, Nat.reduceBEq, h3, h4, hb, decide_false, hm2, hm9, bytes1, hc, hS2, pr32]
theorem cat2 (a b : List UInt8) (h : a.length + b.length ≤ 1000) : ∃ c, c = a ++ b ∧ c.length = a.length + b.length ∧ ((((strB a).size + (strB b).size : Nat)) : Int) ≤ 9223372036854775807 ∧ strB a ++ strB b = strB c :=
  ⟨a ++ b, rfl, by simp, cat_le (by omega), strB_append a b⟩
def env_rtext20 : Env := e1 12 R_valid20 (e1 32 R_dec (e1 29 R_name (e1 22 R_channel20 e0)))
theorem env_rtext20_ok : EnvOK Tryd.prog env_rtext20 := EnvOK.e1 s_valid20 (EnvOK.e1 s_dec (EnvOK.e1 s_name (EnvOK.e1 s_channel20 EnvOK.e0)))
theorem s_rtext : Spec Tryd.prog 14 R_etext := by
  refine sp14 env_rtext20_ok ?_
  rintro ps rs ⟨e, rfl, rfl⟩
  refine ⟨by simp, ?_⟩
  unfold pc14
  refine pwp_start ?_
  simp only [↓evP, evB, stB, reduceIte, reduceCtorEq, Nat.reduceEqDiff, Nat.reduceAdd, Nat.reduceMul, Nat.reduceLeDiff, Nat.reduceLT, Nat.reduceSub, Nat.reduceBEq, Ev.pa, Ev.row, List.map_cons, List.map_nil]
  refine callOps_intro [pB e.valid] (by exact ⟨e, rfl, rfl⟩) ?_
  cases hv : e.valid with
  | false =>
    have ht : etext e = [] := by unfold etext; rw [hv]; rfl
    simp only [↓evP, evB, stB, reduceIte, reduceCtorEq, Nat.reduceEqDiff, Nat.reduceAdd, Nat.reduceMul, Nat.reduceLeDiff, Nat.reduceLT, Nat.reduceSub, Nat.reduceBEq, Ev.pa, Ev.row, List.map_cons, List.map_nil, ht, pr14]
  | true =>
  have hi := Ev.In.of hv
  have ht : etext e = Lib.join (words5 e) [32] := by unfold etext; rw [hv]; rfl
  have hkn : strB (kn e.kind) = kname e.kind := strB_inj rfl
  have l1 := il hi.obj; have l2 := il hi.off; have l3 := il hi.k; have l4 := il hi.n; have l5 := il (n := e.g) (by have := hi.g; omega); have l6 := il hi.fn; have l7 := il hi.pc; have l8 := il hi.stack; have l9 := kn_le e.kind
  obtain ⟨x1, hx1, lx1, c1, n1⟩ := cat2 ([103]) (Lib.itoa e.g) (by first | omega | (simp only [List.length_cons, List.length_nil]; omega))
  try simp only [List.length_cons, List.length_nil] at lx1
  have c1 : (((((⟨#[103]⟩ : ByteArray)).size + (strB (Lib.itoa e.g)).size : Nat)) : Int) ≤ 9223372036854775807 := c1
  have n1 : (⟨#[103]⟩ : ByteArray) ++ strB (Lib.itoa e.g) = strB x1 := n1
  obtain ⟨x2, hx2, lx2, c2, n2⟩ := cat2 (x1) ([32]) (by first | omega | (simp only [List.length_cons, List.length_nil]; omega))
  try simp only [List.length_cons, List.length_nil] at lx2
  have c2 : ((((strB (x1)).size + ((⟨#[32]⟩ : ByteArray)).size : Nat)) : Int) ≤ 9223372036854775807 := c2
  have n2 : strB (x1) ++ (⟨#[32]⟩ : ByteArray) = strB x2 := n2
  obtain ⟨x3, hx3, lx3, c3, n3⟩ := cat2 (x2) (kn e.kind) (by first | omega | (simp only [List.length_cons, List.length_nil]; omega))
  try simp only [List.length_cons, List.length_nil] at lx3
  have c3 : ((((strB (x2)).size + (strB (kn e.kind)).size : Nat)) : Int) ≤ 9223372036854775807 := c3
  have n3 : strB (x2) ++ strB (kn e.kind) = strB x3 := n3
  obtain ⟨x4, hx4, lx4, c4, n4⟩ := cat2 (x3) ([32]) (by first | omega | (simp only [List.length_cons, List.length_nil]; omega))
  try simp only [List.length_cons, List.length_nil] at lx4
  have c4 : ((((strB (x3)).size + ((⟨#[32]⟩ : ByteArray)).size : Nat)) : Int) ≤ 9223372036854775807 := c4
  have n4 : strB (x3) ++ (⟨#[32]⟩ : ByteArray) = strB x4 := n4
  obtain ⟨x5, hx5, lx5, c5, n5⟩ := cat2 (x4) ([103]) (by first | omega | (simp only [List.length_cons, List.length_nil]; omega))
  try simp only [List.length_cons, List.length_nil] at lx5
  have c5 : ((((strB (x4)).size + ((⟨#[103]⟩ : ByteArray)).size : Nat)) : Int) ≤ 9223372036854775807 := c5
  have n5 : strB (x4) ++ (⟨#[103]⟩ : ByteArray) = strB x5 := n5
  obtain ⟨x6, hx6, lx6, c6, n6⟩ := cat2 (x5) (Lib.itoa e.k) (by first | omega | (simp only [List.length_cons, List.length_nil]; omega))
  try simp only [List.length_cons, List.length_nil] at lx6
  have c6 : ((((strB (x5)).size + (strB (Lib.itoa e.k)).size : Nat)) : Int) ≤ 9223372036854775807 := c6
  have n6 : strB (x5) ++ strB (Lib.itoa e.k) = strB x6 := n6
  obtain ⟨x7, hx7, lx7, c7, n7⟩ := cat2 (x6) ([32, 64]) (by first | omega | (simp only [List.length_cons, List.length_nil]; omega))
  try simp only [List.length_cons, List.length_nil] at lx7
  have c7 : ((((strB (x6)).size + ((⟨#[32, 64]⟩ : ByteArray)).size : Nat)) : Int) ≤ 9223372036854775807 := c7
  have n7 : strB (x6) ++ (⟨#[32, 64]⟩ : ByteArray) = strB x7 := n7
  obtain ⟨x8, hx8, lx8, c8, n8⟩ := cat2 (x7) (Lib.itoa e.fn) (by first | omega | (simp only [List.length_cons, List.length_nil]; omega))
  try simp only [List.length_cons, List.length_nil] at lx8
  have c8 : ((((strB (x7)).size + (strB (Lib.itoa e.fn)).size : Nat)) : Int) ≤ 9223372036854775807 := c8
  have n8 : strB (x7) ++ strB (Lib.itoa e.fn) = strB x8 := n8
  obtain ⟨x9, hx9, lx9, c9, n9⟩ := cat2 (x8) ([58]) (by first | omega | (simp only [List.length_cons, List.length_nil]; omega))
  try simp only [List.length_cons, List.length_nil] at lx9
  have c9 : ((((strB (x8)).size + ((⟨#[58]⟩ : ByteArray)).size : Nat)) : Int) ≤ 9223372036854775807 := c9
  have n9 : strB (x8) ++ (⟨#[58]⟩ : ByteArray) = strB x9 := n9
  obtain ⟨x10, hx10, lx10, c10, n10⟩ := cat2 (x9) (Lib.itoa e.pc) (by first | omega | (simp only [List.length_cons, List.length_nil]; omega))
  try simp only [List.length_cons, List.length_nil] at lx10
  have c10 : ((((strB (x9)).size + (strB (Lib.itoa e.pc)).size : Nat)) : Int) ≤ 9223372036854775807 := c10
  have n10 : strB (x9) ++ strB (Lib.itoa e.pc) = strB x10 := n10
  obtain ⟨x11, hx11, lx11, c11, n11⟩ := cat2 (x10) ([32, 35]) (by first | omega | (simp only [List.length_cons, List.length_nil]; omega))
  try simp only [List.length_cons, List.length_nil] at lx11
  have c11 : ((((strB (x10)).size + ((⟨#[32, 35]⟩ : ByteArray)).size : Nat)) : Int) ≤ 9223372036854775807 := c11
  have n11 : strB (x10) ++ (⟨#[32, 35]⟩ : ByteArray) = strB x11 := n11
  obtain ⟨x12, hx12, lx12, c12, n12⟩ := cat2 (x11) (Lib.itoa e.stack) (by first | omega | (simp only [List.length_cons, List.length_nil]; omega))
  try simp only [List.length_cons, List.length_nil] at lx12
  have c12 : ((((strB (x11)).size + (strB (Lib.itoa e.stack)).size : Nat)) : Int) ≤ 9223372036854775807 := c12
  have n12 : strB (x11) ++ strB (Lib.itoa e.stack) = strB x12 := n12
  obtain ⟨x13, hx13, lx13, c13, n13⟩ := cat2 (x4) (Lib.itoa e.obj) (by first | omega | (simp only [List.length_cons, List.length_nil]; omega))
  try simp only [List.length_cons, List.length_nil] at lx13
  have c13 : ((((strB (x4)).size + (strB (Lib.itoa e.obj)).size : Nat)) : Int) ≤ 9223372036854775807 := c13
  have n13 : strB (x4) ++ strB (Lib.itoa e.obj) = strB x13 := n13
  obtain ⟨x14, hx14, lx14, c14, n14⟩ := cat2 (x13) ([32]) (by first | omega | (simp only [List.length_cons, List.length_nil]; omega))
  try simp only [List.length_cons, List.length_nil] at lx14
  have c14 : ((((strB (x13)).size + ((⟨#[32]⟩ : ByteArray)).size : Nat)) : Int) ≤ 9223372036854775807 := c14
  have n14 : strB (x13) ++ (⟨#[32]⟩ : ByteArray) = strB x14 := n14
  obtain ⟨x15, hx15, lx15, c15, n15⟩ := cat2 (x14) (Lib.itoa e.k) (by first | omega | (simp only [List.length_cons, List.length_nil]; omega))
  try simp only [List.length_cons, List.length_nil] at lx15
  have c15 : ((((strB (x14)).size + (strB (Lib.itoa e.k)).size : Nat)) : Int) ≤ 9223372036854775807 := c15
  have n15 : strB (x14) ++ strB (Lib.itoa e.k) = strB x15 := n15
  obtain ⟨x16, hx16, lx16, c16, n16⟩ := cat2 (x15) ([47]) (by first | omega | (simp only [List.length_cons, List.length_nil]; omega))
  try simp only [List.length_cons, List.length_nil] at lx16
  have c16 : ((((strB (x15)).size + ((⟨#[47]⟩ : ByteArray)).size : Nat)) : Int) ≤ 9223372036854775807 := c16
  have n16 : strB (x15) ++ (⟨#[47]⟩ : ByteArray) = strB x16 := n16
  obtain ⟨x17, hx17, lx17, c17, n17⟩ := cat2 (x16) (Lib.itoa e.n) (by first | omega | (simp only [List.length_cons, List.length_nil]; omega))
  try simp only [List.length_cons, List.length_nil] at lx17
  have c17 : ((((strB (x16)).size + (strB (Lib.itoa e.n)).size : Nat)) : Int) ≤ 9223372036854775807 := c17
  have n17 : strB (x16) ++ strB (Lib.itoa e.n) = strB x17 := n17
  obtain ⟨x18, hx18, lx18, c18, n18⟩ := cat2 (x17) ([32, 64]) (by first | omega | (simp only [List.length_cons, List.length_nil]; omega))
  try simp only [List.length_cons, List.length_nil] at lx18
  have c18 : ((((strB (x17)).size + ((⟨#[32, 64]⟩ : ByteArray)).size : Nat)) : Int) ≤ 9223372036854775807 := c18
  have n18 : strB (x17) ++ (⟨#[32, 64]⟩ : ByteArray) = strB x18 := n18
  obtain ⟨x19, hx19, lx19, c19, n19⟩ := cat2 (x18) (Lib.itoa e.fn) (by first | omega | (simp only [List.length_cons, List.length_nil]; omega))
  try simp only [List.length_cons, List.length_nil] at lx19
  have c19 : ((((strB (x18)).size + (strB (Lib.itoa e.fn)).size : Nat)) : Int) ≤ 9223372036854775807 := c19
  have n19 : strB (x18) ++ strB (Lib.itoa e.fn) = strB x19 := n19
  obtain ⟨x20, hx20, lx20, c20, n20⟩ := cat2 (x19) ([58]) (by first | omega | (simp only [List.length_cons, List.length_nil]; omega))
  try simp only [List.length_cons, List.length_nil] at lx20
  have c20 : ((((strB (x19)).size + ((⟨#[58]⟩ : ByteArray)).size : Nat)) : Int) ≤ 9223372036854775807 := c20
  have n20 : strB (x19) ++ (⟨#[58]⟩ : ByteArray) = strB x20 := n20
  obtain ⟨x21, hx21, lx21, c21, n21⟩ := cat2 (x20) (Lib.itoa e.pc) (by first | omega | (simp only [List.length_cons, List.length_nil]; omega))
  try simp only [List.length_cons, List.length_nil] at lx21
  have c21 : ((((strB (x20)).size + (strB (Lib.itoa e.pc)).size : Nat)) : Int) ≤ 9223372036854775807 := c21
  have n21 : strB (x20) ++ strB (Lib.itoa e.pc) = strB x21 := n21
  obtain ⟨x22, hx22, lx22, c22, n22⟩ := cat2 (x21) ([32, 35]) (by first | omega | (simp only [List.length_cons, List.length_nil]; omega))
  try simp only [List.length_cons, List.length_nil] at lx22
  have c22 : ((((strB (x21)).size + ((⟨#[32, 35]⟩ : ByteArray)).size : Nat)) : Int) ≤ 9223372036854775807 := c22
  have n22 : strB (x21) ++ (⟨#[32, 35]⟩ : ByteArray) = strB x22 := n22
  obtain ⟨x23, hx23, lx23, c23, n23⟩ := cat2 (x22) (Lib.itoa e.stack) (by first | omega | (simp only [List.length_cons, List.length_nil]; omega))
  try simp only [List.length_cons, List.length_nil] at lx23
  have c23 : ((((strB (x22)).size + (strB (Lib.itoa e.stack)).size : Nat)) : Int) ≤ 9223372036854775807 := c23
  have n23 : strB (x22) ++ strB (Lib.itoa e.stack) = strB x23 := n23
  obtain ⟨x24, hx24, lx24, c24, n24⟩ := cat2 (x4) (Lib.itoa e.obj) (by first | omega | (simp only [List.length_cons, List.length_nil]; omega))
  try simp only [List.length_cons, List.length_nil] at lx24
  have c24 : ((((strB (x4)).size + (strB (Lib.itoa e.obj)).size : Nat)) : Int) ≤ 9223372036854775807 := c24
  have n24 : strB (x4) ++ strB (Lib.itoa e.obj) = strB x24 := n24
  obtain ⟨x25, hx25, lx25, c25, n25⟩ := cat2 (x24) ([46]) (by first | omega | (simp only [List.length_cons, List.length_nil]; omega))
  try simp only [List.length_cons, List.length_nil] at lx25
  have c25 : ((((strB (x24)).size + ((⟨#[46]⟩ : ByteArray)).size : Nat)) : Int) ≤ 9223372036854775807 := c25
  have n25 : strB (x24) ++ (⟨#[46]⟩ : ByteArray) = strB x25 := n25
  obtain ⟨x26, hx26, lx26, c26, n26⟩ := cat2 (x25) (Lib.itoa e.off) (by first | omega | (simp only [List.length_cons, List.length_nil]; omega))
  try simp only [List.length_cons, List.length_nil] at lx26
  have c26 : ((((strB (x25)).size + (strB (Lib.itoa e.off)).size : Nat)) : Int) ≤ 9223372036854775807 := c26
  have n26 : strB (x25) ++ strB (Lib.itoa e.off) = strB x26 := n26
  obtain ⟨x27, hx27, lx27, c27, n27⟩ := cat2 (x26) ([32, 64]) (by first | omega | (simp only [List.length_cons, List.length_nil]; omega))
  try simp only [List.length_cons, List.length_nil] at lx27
  have c27 : ((((strB (x26)).size + ((⟨#[32, 64]⟩ : ByteArray)).size : Nat)) : Int) ≤ 9223372036854775807 := c27
  have n27 : strB (x26) ++ (⟨#[32, 64]⟩ : ByteArray) = strB x27 := n27
  obtain ⟨x28, hx28, lx28, c28, n28⟩ := cat2 (x27) (Lib.itoa e.fn) (by first | omega | (simp only [List.length_cons, List.length_nil]; omega))
  try simp only [List.length_cons, List.length_nil] at lx28
  have c28 : ((((strB (x27)).size + (strB (Lib.itoa e.fn)).size : Nat)) : Int) ≤ 9223372036854775807 := c28
  have n28 : strB (x27) ++ strB (Lib.itoa e.fn) = strB x28 := n28
  obtain ⟨x29, hx29, lx29, c29, n29⟩ := cat2 (x28) ([58]) (by first | omega | (simp only [List.length_cons, List.length_nil]; omega))
  try simp only [List.length_cons, List.length_nil] at lx29
  have c29 : ((((strB (x28)).size + ((⟨#[58]⟩ : ByteArray)).size : Nat)) : Int) ≤ 9223372036854775807 := c29
  have n29 : strB (x28) ++ (⟨#[58]⟩ : ByteArray) = strB x29 := n29
  obtain ⟨x30, hx30, lx30, c30, n30⟩ := cat2 (x29) (Lib.itoa e.pc) (by first | omega | (simp only [List.length_cons, List.length_nil]; omega))
  try simp only [List.length_cons, List.length_nil] at lx30
  have c30 : ((((strB (x29)).size + (strB (Lib.itoa e.pc)).size : Nat)) : Int) ≤ 9223372036854775807 := c30
  have n30 : strB (x29) ++ strB (Lib.itoa e.pc) = strB x30 := n30
  obtain ⟨x31, hx31, lx31, c31, n31⟩ := cat2 (x30) ([32, 35]) (by first | omega | (simp only [List.length_cons, List.length_nil]; omega))
  try simp only [List.length_cons, List.length_nil] at lx31
  have c31 : ((((strB (x30)).size + ((⟨#[32, 35]⟩ : ByteArray)).size : Nat)) : Int) ≤ 9223372036854775807 := c31
  have n31 : strB (x30) ++ (⟨#[32, 35]⟩ : ByteArray) = strB x31 := n31
  obtain ⟨x32, hx32, lx32, c32, n32⟩ := cat2 (x31) (Lib.itoa e.stack) (by first | omega | (simp only [List.length_cons, List.length_nil]; omega))
  try simp only [List.length_cons, List.length_nil] at lx32
  have c32 : ((((strB (x31)).size + (strB (Lib.itoa e.stack)).size : Nat)) : Int) ≤ 9223372036854775807 := c32
  have n32 : strB (x31) ++ strB (Lib.itoa e.stack) = strB x32 := n32
  simp only [↓evP, evB, stB, reduceIte, reduceCtorEq, Nat.reduceEqDiff, Nat.reduceAdd, Nat.reduceMul, Nat.reduceLeDiff, Nat.reduceLT, Nat.reduceSub, Nat.reduceBEq, Ev.pa, Ev.row, List.map_cons, List.map_nil]
  refine callD_intro [pS (strB (Lib.itoa e.g))] (by exact R_dec.mk (by have := hi.g; omega)) ?_
  simp only [↓evP, evB, stB, reduceIte, reduceCtorEq, Nat.reduceEqDiff, Nat.reduceAdd, Nat.reduceMul, Nat.reduceLeDiff, Nat.reduceLT, Nat.reduceSub, Nat.reduceBEq, Ev.pa, Ev.row, List.map_cons, List.map_nil, c1, n1, c2, n2]
  refine callD_intro [pS (strB (kn e.kind))] (by exact ⟨e.kind, rfl, strB (kn e.kind), rfl, hkn⟩) ?_
  simp only [↓evP, evB, stB, reduceIte, reduceCtorEq, Nat.reduceEqDiff, Nat.reduceAdd, Nat.reduceMul, Nat.reduceLeDiff, Nat.reduceLT, Nat.reduceSub, Nat.reduceBEq, Ev.pa, Ev.row, List.map_cons, List.map_nil, c3, n3, c4, n4]
  refine ⟨(by unfold Drw; refine Eq.trans (b := true) ?_ rfl; kernel_rfl), ?_⟩
  try simp only [↓evP, evB, stB, reduceIte, reduceCtorEq, Nat.reduceEqDiff, Nat.reduceAdd, Nat.reduceMul, Nat.reduceLeDiff, Nat.reduceLT, Nat.reduceSub, Nat.reduceBEq, Ev.pa, Ev.row, List.map_cons, List.map_nil]
  cases k14 : (e.kind == 14) with
  | true =>
    have hob : objText e = [103] ++ Lib.itoa e.k := by unfold objText; rw [if_pos (beq_iff_eq.1 k14)]
    simp only [↓evP, evB, stB, reduceIte, reduceCtorEq, Nat.reduceEqDiff, Nat.reduceAdd, Nat.reduceMul, Nat.reduceLeDiff, Nat.reduceLT, Nat.reduceSub, Nat.reduceBEq, Ev.pa, Ev.row, List.map_cons, List.map_nil, k14, c5, n5]
    refine callOps_intro [pS (strB (Lib.itoa e.k))] (by exact R_dec.mk hi.k) ?_
    simp only [↓evP, evB, stB, reduceIte, reduceCtorEq, Nat.reduceEqDiff, Nat.reduceAdd, Nat.reduceMul, Nat.reduceLeDiff, Nat.reduceLT, Nat.reduceSub, Nat.reduceBEq, Ev.pa, Ev.row, List.map_cons, List.map_nil, c6, n6]
    simp only [↓evP, evB, stB, reduceIte, reduceCtorEq, Nat.reduceEqDiff, Nat.reduceAdd, Nat.reduceMul, Nat.reduceLeDiff, Nat.reduceLT, Nat.reduceSub, Nat.reduceBEq, Ev.pa, Ev.row, List.map_cons, List.map_nil, c7, n7]
    refine callD_intro [pS (strB (Lib.itoa e.fn))] (by exact R_dec.mk hi.fn) ?_
    simp only [↓evP, evB, stB, reduceIte, reduceCtorEq, Nat.reduceEqDiff, Nat.reduceAdd, Nat.reduceMul, Nat.reduceLeDiff, Nat.reduceLT, Nat.reduceSub, Nat.reduceBEq, Ev.pa, Ev.row, List.map_cons, List.map_nil, c8, n8, c9, n9]
    refine callD_intro [pS (strB (Lib.itoa e.pc))] (by exact R_dec.mk hi.pc) ?_
    simp only [↓evP, evB, stB, reduceIte, reduceCtorEq, Nat.reduceEqDiff, Nat.reduceAdd, Nat.reduceMul, Nat.reduceLeDiff, Nat.reduceLT, Nat.reduceSub, Nat.reduceBEq, Ev.pa, Ev.row, List.map_cons, List.map_nil, c8, n8, c9, n9, c10, n10, c11, n11]
    refine callD_intro [pS (strB (Lib.itoa e.stack))] (by exact R_dec.mk hi.stack) ?_
    have hfin : etext e = x12 := by
      rw [ht]; unfold words5; rw [hob]
      simp only [join_two, Lib.join_one, hx12, hx12, hx11, hx10, hx9, hx8, hx7, hx6, hx5, hx4, hx3, hx2, hx1]
      simp
    simp only [↓evP, evB, stB, reduceIte, reduceCtorEq, Nat.reduceEqDiff, Nat.reduceAdd, Nat.reduceMul, Nat.reduceLeDiff, Nat.reduceLT, Nat.reduceSub, Nat.reduceBEq, Ev.pa, Ev.row, List.map_cons, List.map_nil, c8, n8, c9, n9, c10, n10, c11, n11, c12, n12, hfin, pr14]
    exact (by unfold Drw; refine Eq.trans (b := true) ?_ rfl; kernel_rfl)
  | false =>
    have ne14 := beq_eq_false_iff_ne.1 k14
    simp only [↓evP, evB, stB, reduceIte, reduceCtorEq, Nat.reduceEqDiff, Nat.reduceAdd, Nat.reduceMul, Nat.reduceLeDiff, Nat.reduceLT, Nat.reduceSub, Nat.reduceBEq, Ev.pa, Ev.row, List.map_cons, List.map_nil, k14]
    refine callOps_intro [pB (chanB e.kind)] (by exact ⟨e.kind, rfl, rfl⟩) ?_
    cases hc : chanB e.kind with
    | true =>
      have hob : objText e = Lib.itoa e.obj ++ [32] ++ Lib.itoa e.k ++ [47] ++ Lib.itoa e.n := by unfold objText; rw [if_neg ne14, if_pos hc]
      simp only [↓evP, evB, stB, reduceIte, reduceCtorEq, Nat.reduceEqDiff, Nat.reduceAdd, Nat.reduceMul, Nat.reduceLeDiff, Nat.reduceLT, Nat.reduceSub, Nat.reduceBEq, Ev.pa, Ev.row, List.map_cons, List.map_nil]
      refine callD_intro [pS (strB (Lib.itoa e.obj))] (by exact R_dec.mk hi.obj) ?_
      simp only [↓evP, evB, stB, reduceIte, reduceCtorEq, Nat.reduceEqDiff, Nat.reduceAdd, Nat.reduceMul, Nat.reduceLeDiff, Nat.reduceLT, Nat.reduceSub, Nat.reduceBEq, Ev.pa, Ev.row, List.map_cons, List.map_nil, c13, n13, c14, n14]
      refine callD_intro [pS (strB (Lib.itoa e.k))] (by exact R_dec.mk hi.k) ?_
      simp only [↓evP, evB, stB, reduceIte, reduceCtorEq, Nat.reduceEqDiff, Nat.reduceAdd, Nat.reduceMul, Nat.reduceLeDiff, Nat.reduceLT, Nat.reduceSub, Nat.reduceBEq, Ev.pa, Ev.row, List.map_cons, List.map_nil, c13, n13, c14, n14, c15, n15, c16, n16]
      refine callD_intro [pS (strB (Lib.itoa e.n))] (by exact R_dec.mk hi.n) ?_
      simp only [↓evP, evB, stB, reduceIte, reduceCtorEq, Nat.reduceEqDiff, Nat.reduceAdd, Nat.reduceMul, Nat.reduceLeDiff, Nat.reduceLT, Nat.reduceSub, Nat.reduceBEq, Ev.pa, Ev.row, List.map_cons, List.map_nil, c13, n13, c14, n14, c15, n15, c16, n16, c17, n17]
      refine ⟨(by unfold Drw; refine Eq.trans (b := true) ?_ rfl; kernel_rfl), ?_⟩
      try simp only [↓evP, evB, stB, reduceIte, reduceCtorEq, Nat.reduceEqDiff, Nat.reduceAdd, Nat.reduceMul, Nat.reduceLeDiff, Nat.reduceLT, Nat.reduceSub, Nat.reduceBEq, Ev.pa, Ev.row, List.map_cons, List.map_nil]
      simp only [↓evP, evB, stB, reduceIte, reduceCtorEq, Nat.reduceEqDiff, Nat.reduceAdd, Nat.reduceMul, Nat.reduceLeDiff, Nat.reduceLT, Nat.reduceSub, Nat.reduceBEq, Ev.pa, Ev.row, List.map_cons, List.map_nil, c18, n18]
      refine callD_intro [pS (strB (Lib.itoa e.fn))] (by exact R_dec.mk hi.fn) ?_
      simp only [↓evP, evB, stB, reduceIte, reduceCtorEq, Nat.reduceEqDiff, Nat.reduceAdd, Nat.reduceMul, Nat.reduceLeDiff, Nat.reduceLT, Nat.reduceSub, Nat.reduceBEq, Ev.pa, Ev.row, List.map_cons, List.map_nil, c19, n19, c20, n20]
      refine callD_intro [pS (strB (Lib.itoa e.pc))] (by exact R_dec.mk hi.pc) ?_
      simp only [↓evP, evB, stB, reduceIte, reduceCtorEq, Nat.reduceEqDiff, Nat.reduceAdd, Nat.reduceMul, Nat.reduceLeDiff, Nat.reduceLT, Nat.reduceSub, Nat.reduceBEq, Ev.pa, Ev.row, List.map_cons, List.map_nil, c19, n19, c20, n20, c21, n21, c22, n22]
      refine callD_intro [pS (strB (Lib.itoa e.stack))] (by exact R_dec.mk hi.stack) ?_
      have hfin : etext e = x23 := by
        rw [ht]; unfold words5; rw [hob]
        simp only [join_two, Lib.join_one, hx23, hx23, hx22, hx21, hx20, hx19, hx18, hx17, hx16, hx15, hx14, hx13, hx4, hx3, hx2, hx1]
        simp
      simp only [↓evP, evB, stB, reduceIte, reduceCtorEq, Nat.reduceEqDiff, Nat.reduceAdd, Nat.reduceMul, Nat.reduceLeDiff, Nat.reduceLT, Nat.reduceSub, Nat.reduceBEq, Ev.pa, Ev.row, List.map_cons, List.map_nil, c19, n19, c20, n20, c21, n21, c22, n22, c23, n23, hfin, pr14]
      exact (by unfold Drw; refine Eq.trans (b := true) ?_ rfl; kernel_rfl)
    | false =>
      have hob : objText e = Lib.itoa e.obj ++ [46] ++ Lib.itoa e.off := by unfold objText; rw [if_neg ne14, if_neg (by rw [hc]; simp)]
      simp only [↓evP, evB, stB, reduceIte, reduceCtorEq, Nat.reduceEqDiff, Nat.reduceAdd, Nat.reduceMul, Nat.reduceLeDiff, Nat.reduceLT, Nat.reduceSub, Nat.reduceBEq, Ev.pa, Ev.row, List.map_cons, List.map_nil]
      refine callD_intro [pS (strB (Lib.itoa e.obj))] (by exact R_dec.mk hi.obj) ?_
      simp only [↓evP, evB, stB, reduceIte, reduceCtorEq, Nat.reduceEqDiff, Nat.reduceAdd, Nat.reduceMul, Nat.reduceLeDiff, Nat.reduceLT, Nat.reduceSub, Nat.reduceBEq, Ev.pa, Ev.row, List.map_cons, List.map_nil, c24, n24, c25, n25]
      refine callD_intro [pS (strB (Lib.itoa e.off))] (by exact R_dec.mk hi.off) ?_
      simp only [↓evP, evB, stB, reduceIte, reduceCtorEq, Nat.reduceEqDiff, Nat.reduceAdd, Nat.reduceMul, Nat.reduceLeDiff, Nat.reduceLT, Nat.reduceSub, Nat.reduceBEq, Ev.pa, Ev.row, List.map_cons, List.map_nil, c24, n24, c25, n25, c26, n26]
      refine ⟨(by unfold Drw; refine Eq.trans (b := true) ?_ rfl; kernel_rfl), ?_⟩
      try simp only [↓evP, evB, stB, reduceIte, reduceCtorEq, Nat.reduceEqDiff, Nat.reduceAdd, Nat.reduceMul, Nat.reduceLeDiff, Nat.reduceLT, Nat.reduceSub, Nat.reduceBEq, Ev.pa, Ev.row, List.map_cons, List.map_nil]
      simp only [↓evP, evB, stB, reduceIte, reduceCtorEq, Nat.reduceEqDiff, Nat.reduceAdd, Nat.reduceMul, Nat.reduceLeDiff, Nat.reduceLT, Nat.reduceSub, Nat.reduceBEq, Ev.pa, Ev.row, List.map_cons, List.map_nil, c27, n27]
      refine callD_intro [pS (strB (Lib.itoa e.fn))] (by exact R_dec.mk hi.fn) ?_
      simp only [↓evP, evB, stB, reduceIte, reduceCtorEq, Nat.reduceEqDiff, Nat.reduceAdd, Nat.reduceMul, Nat.reduceLeDiff, Nat.reduceLT, Nat.reduceSub, Nat.reduceBEq, Ev.pa, Ev.row, List.map_cons, List.map_nil, c28, n28, c29, n29]
      refine callD_intro [pS (strB (Lib.itoa e.pc))] (by exact R_dec.mk hi.pc) ?_
      simp only [↓evP, evB, stB, reduceIte, reduceCtorEq, Nat.reduceEqDiff, Nat.reduceAdd, Nat.reduceMul, Nat.reduceLeDiff, Nat.reduceLT, Nat.reduceSub, Nat.reduceBEq, Ev.pa, Ev.row, List.map_cons, List.map_nil, c28, n28, c29, n29, c30, n30, c31, n31]
      refine callD_intro [pS (strB (Lib.itoa e.stack))] (by exact R_dec.mk hi.stack) ?_
      have hfin : etext e = x32 := by
        rw [ht]; unfold words5; rw [hob]
        simp only [join_two, Lib.join_one, hx32, hx32, hx31, hx30, hx29, hx28, hx27, hx26, hx25, hx24, hx4, hx3, hx2, hx1]
        simp
      simp only [↓evP, evB, stB, reduceIte, reduceCtorEq, Nat.reduceEqDiff, Nat.reduceAdd, Nat.reduceMul, Nat.reduceLeDiff, Nat.reduceLT, Nat.reduceSub, Nat.reduceBEq, Ev.pa, Ev.row, List.map_cons, List.map_nil, c28, n28, c29, n29, c30, n30, c31, n31, c32, n32, hfin, pr14]
      exact (by unfold Drw; refine Eq.trans (b := true) ?_ rfl; kernel_rfl)
def env20t : Env := e1 10 R_awake20 (e1 13 R_etext (e1 14 R_etext (e1 12 R_valid20 (e1 15 R_eread e0))))
theorem env20t_ok : EnvOK Tryd.prog env20t := EnvOK.e1 s_awake20 (EnvOK.e1 s_etext (EnvOK.e1 s_rtext (EnvOK.e1 s_valid20 (EnvOK.e1 s_eread EnvOK.e0))))
def R_ltext (ps rs : List Pa) : Prop := ∃ e : Ev, ps = [e.pa] ∧ rs = [pB true]
theorem s_ltext : Spec Tryd.prog 4 R_ltext := by
  refine sp4 env20t_ok ?_
  rintro ps rs ⟨e, rfl, rfl⟩
  refine ⟨by simp, ?_⟩
  have q : ((strB (etext e)).toList == (strB (etext e)).toList) = true := by rw [strings_eq]; simp
  unfold pc4
  refine pwp_start ?_
  simp only [↓evP, evB, stB, reduceIte, reduceCtorEq, Nat.reduceEqDiff, Nat.reduceAdd, Nat.reduceMul, Nat.reduceLeDiff, Nat.reduceLT, Nat.reduceSub, Nat.reduceBEq, Ev.pa, Ev.row, List.map_cons, List.map_nil]
  refine callOps_intro [pB true] ⟨rfl, rfl⟩ ?_
  simp only [↓evP, evB, stB, reduceIte, reduceCtorEq, Nat.reduceEqDiff, Nat.reduceAdd, Nat.reduceMul, Nat.reduceLeDiff, Nat.reduceLT, Nat.reduceSub, Nat.reduceBEq, Ev.pa, Ev.row, List.map_cons, List.map_nil]
  refine callD_intro [pS (strB (etext e))] (by exact R_etext.mk e) ?_
  simp only [↓evP, evB, stB, reduceIte, reduceCtorEq, Nat.reduceEqDiff, Nat.reduceAdd, Nat.reduceMul, Nat.reduceLeDiff, Nat.reduceLT, Nat.reduceSub, Nat.reduceBEq, Ev.pa, Ev.row, List.map_cons, List.map_nil]
  refine callD_intro [pS (strB (etext e))] (by exact R_etext.mk e) ?_
  simp only [↓evP, evB, stB, reduceIte, reduceCtorEq, Nat.reduceEqDiff, Nat.reduceAdd, Nat.reduceMul, Nat.reduceLeDiff, Nat.reduceLT, Nat.reduceSub, Nat.reduceBEq, Ev.pa, Ev.row, List.map_cons, List.map_nil, q, pr4]
  exact (by unfold Drw; refine Eq.trans (b := true) ?_ rfl; kernel_rfl)
def R_linv (ps rs : List Pa) : Prop := ∃ e : Ev, ps = [e.pa] ∧ rs = [pB true]
theorem s_linv : Spec Tryd.prog 5 R_linv := by
  refine sp5 env20t_ok ?_
  rintro ps rs ⟨e, rfl, rfl⟩
  refine ⟨by simp, ?_⟩
  have q0 : ((0 : Int) == 0) = true := rfl
  have q9 := eq9 e.g e.kind e.obj e.off e.k e.n e.fn e.pc e.stack
  unfold pc5
  refine pwp_start ?_
  simp only [↓evP, evB, stB, reduceIte, reduceCtorEq, Nat.reduceEqDiff, Nat.reduceAdd, Nat.reduceMul, Nat.reduceLeDiff, Nat.reduceLT, Nat.reduceSub, Nat.reduceBEq, Ev.pa, Ev.row, List.map_cons, List.map_nil]
  refine callOps_intro [pB true] ⟨rfl, rfl⟩ ?_
  simp only [↓evP, evB, stB, reduceIte, reduceCtorEq, Nat.reduceEqDiff, Nat.reduceAdd, Nat.reduceMul, Nat.reduceLeDiff, Nat.reduceLT, Nat.reduceSub, Nat.reduceBEq, Ev.pa, Ev.row, List.map_cons, List.map_nil]
  refine callOps_intro [pB e.valid] (by exact ⟨e, rfl, rfl⟩) ?_
  cases hv : e.valid with
  | false => simp only [↓evP, evB, stB, reduceIte, reduceCtorEq, Nat.reduceEqDiff, Nat.reduceAdd, Nat.reduceMul, Nat.reduceLeDiff, Nat.reduceLT, Nat.reduceSub, Nat.reduceBEq, Ev.pa, Ev.row, List.map_cons, List.map_nil, pr5]
  | true =>
  have hsz : (strB (etext e)).size ≤ 100000 := by
    rw [strB_size]; unfold etext; rw [if_pos hv]
    exact Nat.le_trans (words5_le (Ev.In.of hv)) (by omega)
  have hrd : R_eread [pS (strB (etext e))] [e.pa, pI 0] := by
    have h := R_eread.mk hsz
    rw [readE_text hv] at h; exact h
  simp only [↓evP, evB, stB, reduceIte, reduceCtorEq, Nat.reduceEqDiff, Nat.reduceAdd, Nat.reduceMul, Nat.reduceLeDiff, Nat.reduceLT, Nat.reduceSub, Nat.reduceBEq, Ev.pa, Ev.row, List.map_cons, List.map_nil]
  refine callOps_intro [pS (strB (etext e))] (by exact R_etext.mk e) ?_
  simp only [↓evP, evB, stB, reduceIte, reduceCtorEq, Nat.reduceEqDiff, Nat.reduceAdd, Nat.reduceMul, Nat.reduceLeDiff, Nat.reduceLT, Nat.reduceSub, Nat.reduceBEq, Ev.pa, Ev.row, List.map_cons, List.map_nil]
  refine callOps_intro [e.pa, pI 0] (by exact hrd) ?_
  simp only [↓evP, evB, stB, reduceIte, reduceCtorEq, Nat.reduceEqDiff, Nat.reduceAdd, Nat.reduceMul, Nat.reduceLeDiff, Nat.reduceLT, Nat.reduceSub, Nat.reduceBEq, Ev.pa, Ev.row, List.map_cons, List.map_nil, q0, q9, pr5]
end Go.Proofs.YthnjbnfnljjepabDoor
end
section
namespace Go.Proofs.YthnjbnfnljjepabDoor
open Go Go.RowKit
set_option linter.unusedSimpArgs false
set_option linter.unusedVariables false
set_option maxRecDepth 100000

/-! (*interleave/interleaveref20.scanner).must -/
def pcm38 : PC :=
 .seq (.reg false [⟨(some 4), .mv (.t 0), none, []⟩,
       ⟨(some 5), .mv (.t 1), none, []⟩,
       ⟨(some 6), .call 40 [(.t 4), (.t 5)], none, [0, 1]⟩,
       ⟨(some 7), .un .not (.t 6), none, [2]⟩])
  (.cond (.t 7)
    (.reg false [⟨(some 8), .mv (.t 0), none, []⟩,
         ⟨(some 9), .nilck (.t 8), none, [0, 0]⟩,
         ⟨(some 10), .fld 2 (.t 9), none, [1, 0]⟩,
         ⟨none, .store 1 (.t 10) (.v (.bool true)), none, [2, 0]⟩])
    (.skip))
def prm38 : List PR := []
theorem bdm38 : Tryd.f38.body = some (Tryd.f38.body.getD .skip) := by kernel_rfl
theorem cpm38 : compC Tryd.prog Tryd.f38.ntmps eqsL (Tryd.f38.body.getD .skip) = some pcm38 := by kernel_rfl
theorem spm38 [WInv] {env : Env} (hE : EnvOK Tryd.prog env) {R : List Dt → List Pa → List Dt → List Pa → Prop} (hR : ∀ ds ps ds2 rs, R ds ps ds2 rs → ps.length + 1 ≤ 11 ∧ pwp env pcm38 (fun e s => (e = .normal ∨ e = .ret) ∧ s.res prm38 = some rs ∧ prm38.all (noSv s) = true ∧ s.gen 0 = 0 ∧ s.cellsAt 0 0 = some ds2) (St.initM ds ps)) : SpecM Tryd.prog 38 R :=
  fn_sound_m hE eqsOK mixedOK Tryd.func38 bdm38 cpm38 (by kernel_rfl) (by kernel_rfl) hR

/-! (*interleave/interleaveref20.scanner).number -/
def pcm39c0 : PC :=
 .seq (.reg false [⟨(some 68), .mv (.t 0), none, []⟩,
            ⟨(some 69), .nilck (.t 68), none, [0]⟩,
            ⟨(some 70), .fld 1 (.t 69), none, [1]⟩,
            ⟨(some 71), .load none (.t 70), none, [2]⟩,
            ⟨(some 72), .mv (.t 3), none, []⟩,
            ⟨(some 73), .bin .eql (.t 71) (.t 72), none, [3, 4]⟩,
            ⟨(some 74), .mv (.t 73), none, [5]⟩,
            ⟨(some 75), .mv (.t 0), (some (74, false)), [6]⟩,
            ⟨(some 76), .nilck (.t 75), (some (74, false)), [7, 6]⟩,
            ⟨(some 77), .fld 0 (.t 76), (some (74, false)), [8, 6]⟩,
            ⟨(some 78), .load none (.t 77), (some (74, false)), [9, 6]⟩,
            ⟨(some 79), .mv (.t 3), (some (74, false)), [6]⟩,
            ⟨(some 80), .ixstr (.t 78) (.t 79), (some (74, false)), [10, 11, 6]⟩,
            ⟨(some 81), .bin .eql (.t 80) (.v (.int .u8 48)), (some (74, false)), [12, 6]⟩,
            ⟨(some 82), .mv (.t 81), (some (74, false)), [13, 6, 6]⟩,
            ⟨(some 83), .mv (.t 0), (some (82, true)), [14]⟩,
            ⟨(some 84), .nilck (.t 83), (some (82, true)), [15, 14]⟩,
            ⟨(some 85), .fld 1 (.t 84), (some (82, true)), [16, 14]⟩,
            ⟨(some 86), .load none (.t 85), (some (82, true)), [17, 14]⟩,
            ⟨(some 87), .mv (.t 3), (some (82, true)), [14]⟩,
            ⟨(some 88), .bin .add (.t 87) (.v (.int .i64 1)), (some (82, true)), [19, 14]⟩,
            ⟨(some 89), .bin .gtr (.t 86) (.t 88), (some (82, true)), [18, 20, 14]⟩,
            ⟨(some 90), .pick (.t 82) (.t 89) (.v (.bool false)), (some (74, false)), [14, 21, 6]⟩,
            ⟨(some 91), .pick (.t 74) (.v (.bool true)) (.t 90), none, [6, 22]⟩,
            ⟨(some 92), .mv (.t 91), none, [23, 14]⟩,
            ⟨(some 93), .mv (.t 4), (some (92, false)), [24]⟩,
            ⟨(some 94), .bin .gtr (.t 93) (.v (.int .i64 2147483647)), (some (92, false)), [25, 24]⟩,
            ⟨(some 95), .pick (.t 92) (.v (.bool true)) (.t 94), none, [24, 26]⟩])
       (.cond (.t 95)
         (.seq (.reg false [⟨(some 96), .mv (.t 0), none, []⟩,
               ⟨(some 97), .nilck (.t 96), none, [0, 0]⟩,
               ⟨(some 98), .fld 2 (.t 97), none, [1, 0]⟩,
               ⟨none, .store 1 (.t 98) (.v (.bool true)), none, [2, 0]⟩])
          (.seq (.reg false [⟨(some 2), .mv (.v (.int .i64 0)), none, []⟩])
           (.ret)))
         (.skip))
def pcm39c1 : PC :=
 .seq (pcm39c0)
      (.seq (.reg false [⟨(some 99), .mv (.t 4), none, []⟩,
            ⟨(some 2), .mv (.t 99), none, [0, 0]⟩])
       (.ret))
def pcm39c2 : PC :=
 .reg false [⟨(some 61), .mv (.t 0), none, []⟩,
               ⟨(some 62), .nilck (.t 61), none, [0]⟩,
               ⟨(some 63), .fld 1 (.t 62), none, [1]⟩,
               ⟨(some 64), .load none (.t 63), none, [2]⟩,
               ⟨(some 65), .bin .add (.t 64) (.v (.int .i64 1)), none, [3]⟩,
               ⟨(some 66), .nilck (.t 61), none, [0, 0, 1, 2, 3, 4]⟩,
               ⟨(some 67), .fld 1 (.t 66), none, [5, 0, 1, 2, 3, 4]⟩,
               ⟨none, .store 1 (.t 67) (.t 65), none, [6, 4, 0, 1, 2, 3, 4]⟩]
def pcm39c3 : PC :=
 .block 1 (.seq (.reg true [⟨(some 47), .mv (.t 4), none, []⟩,
               ⟨(some 48), .bin .mul (.v (.int .i64 10)) (.t 47), none, [0]⟩,
               ⟨(some 49), .mv (.t 0), none, []⟩,
               ⟨(some 50), .nilck (.t 49), none, [2]⟩,
               ⟨(some 51), .fld 0 (.t 50), none, [3]⟩,
               ⟨(some 52), .load none (.t 51), none, [4]⟩,
               ⟨(some 53), .mv (.t 0), none, []⟩,
               ⟨(some 54), .nilck (.t 53), none, [6]⟩,
               ⟨(some 55), .fld 1 (.t 54), none, [7]⟩,
               ⟨(some 56), .load none (.t 55), none, [8]⟩,
               ⟨(some 57), .ixstr (.t 52) (.t 56), none, [5, 9]⟩,
               ⟨(some 58), .bin .sub (.t 57) (.v (.int .u8 48)), none, [10]⟩,
               ⟨(some 59), .conv .i64 (.t 58), none, [11]⟩,
               ⟨(some 60), .bin .add (.t 48) (.t 59), none, [1, 12]⟩,
               ⟨(some 4), .mv (.t 60), none, [13, 0, 1, 2, 3, 4, 5, 6, 7, 8, 9, 10, 11, 12, 13]⟩])
          (pcm39c2))
def pcm39c4 : PC :=
 .reg true [⟨(some 9), .mv (.t 0), none, []⟩,
              ⟨(some 10), .nilck (.t 9), none, [0]⟩,
              ⟨(some 11), .fld 1 (.t 10), none, [1]⟩,
              ⟨(some 12), .load none (.t 11), none, [2]⟩,
              ⟨(some 13), .mv (.t 0), none, []⟩,
              ⟨(some 14), .nilck (.t 13), none, [4]⟩,
              ⟨(some 15), .fld 0 (.t 14), none, [5]⟩,
              ⟨(some 16), .load none (.t 15), none, [6]⟩,
              ⟨(some 17), .strlen (.t 16), none, [7]⟩,
              ⟨(some 18), .bin .lss (.t 12) (.t 17), none, [3, 8]⟩,
              ⟨(some 19), .mv (.t 18), none, [9]⟩,
              ⟨(some 20), .mv (.t 0), (some (19, true)), [10]⟩,
              ⟨(some 21), .nilck (.t 20), (some (19, true)), [11, 10]⟩,
              ⟨(some 22), .fld 0 (.t 21), (some (19, true)), [12, 10]⟩,
              ⟨(some 23), .load none (.t 22), (some (19, true)), [13, 10]⟩,
              ⟨(some 24), .mv (.t 0), (some (19, true)), [10]⟩,
              ⟨(some 25), .nilck (.t 24), (some (19, true)), [15, 10]⟩,
              ⟨(some 26), .fld 1 (.t 25), (some (19, true)), [16, 10]⟩,
              ⟨(some 27), .load none (.t 26), (some (19, true)), [17, 10]⟩,
              ⟨(some 28), .ixstr (.t 23) (.t 27), (some (19, true)), [14, 18, 10]⟩,
              ⟨(some 29), .bin .geq (.t 28) (.v (.int .u8 48)), (some (19, true)), [19, 10]⟩,
              ⟨(some 30), .pick (.t 19) (.t 29) (.v (.bool false)), none, [10, 20]⟩,
              ⟨(some 31), .mv (.t 30), none, [21, 10]⟩,
              ⟨(some 32), .mv (.t 0), (some (31, true)), [22]⟩,
              ⟨(some 33), .nilck (.t 32), (some (31, true)), [23, 22]⟩,
              ⟨(some 34), .fld 0 (.t 33), (some (31, true)), [24, 22]⟩,
              ⟨(some 35), .load none (.t 34), (some (31, true)), [25, 22]⟩,
              ⟨(some 36), .mv (.t 0), (some (31, true)), [22]⟩,
              ⟨(some 37), .nilck (.t 36), (some (31, true)), [27, 22]⟩,
              ⟨(some 38), .fld 1 (.t 37), (some (31, true)), [28, 22]⟩,
              ⟨(some 39), .load none (.t 38), (some (31, true)), [29, 22]⟩,
              ⟨(some 40), .ixstr (.t 35) (.t 39), (some (31, true)), [26, 30, 22]⟩,
              ⟨(some 41), .bin .leq (.t 40) (.v (.int .u8 57)), (some (31, true)), [31, 22]⟩,
              ⟨(some 42), .pick (.t 31) (.t 41) (.v (.bool false)), none, [22, 32]⟩,
              ⟨(some 43), .mv (.t 42), none, [33, 22]⟩,
              ⟨(some 44), .mv (.t 4), (some (43, true)), [34]⟩,
              ⟨(some 45), .bin .leq (.t 44) (.v (.int .i64 2147483647)), (some (43, true)), [35, 34]⟩,
              ⟨(some 46), .pick (.t 43) (.t 45) (.v (.bool false)), none, [34, 36]⟩]
def pcm39c5 : PC :=
 .seq (pcm39c4)
         (.cond (.t 46)
           (.skip)
           (.exit 0))
def pcm39c6 : PC :=
 .block 0 (.loop (.seq (pcm39c5)
        (pcm39c3)))
def pcm39 : PC :=
 .seq (.reg false [⟨(some 2), .mv (.v (.int .i64 0)), none, []⟩])
  (.seq (.reg false [⟨(some 5), .mv (.t 0), none, []⟩,
        ⟨(some 6), .nilck (.t 5), none, [0]⟩,
        ⟨(some 7), .fld 1 (.t 6), none, [1]⟩,
        ⟨(some 8), .load none (.t 7), none, [2]⟩,
        ⟨(some 3), .mv (.t 8), none, [3, 0, 1, 2, 3]⟩])
   (.seq (.reg false [⟨(some 4), .mv (.v (.int .i64 0)), none, []⟩])
    (.seq (pcm39c6)
     (pcm39c1))))
def prm39 : List PR := [.t 2]
abbrev msm39_0 : List Nat := [9, 10, 11, 12, 13, 14, 15, 16, 17, 18, 19, 20, 21, 22, 23, 24, 25, 26, 27, 28, 29, 30, 31, 32, 33, 34, 35, 36, 37, 38, 39, 40, 41, 42, 43, 44, 45, 46, 47, 48, 49, 50, 51, 52, 53, 54, 55, 56, 57, 58, 59, 60, 4, 61, 62, 63, 64, 65, 66, 67]
abbrev osm39_0 : List Nat := [0]
theorem bdm39 : Tryd.f39.body = some (Tryd.f39.body.getD .skip) := by kernel_rfl
theorem cpm39 : compC Tryd.prog Tryd.f39.ntmps eqsL (Tryd.f39.body.getD .skip) = some pcm39 := by kernel_rfl
theorem spm39 [WInv] {env : Env} (hE : EnvOK Tryd.prog env) {R : List Dt → List Pa → List Dt → List Pa → Prop} (hR : ∀ ds ps ds2 rs, R ds ps ds2 rs → ps.length + 1 ≤ 100 ∧ pwp env pcm39 (fun e s => (e = .normal ∨ e = .ret) ∧ s.res prm39 = some rs ∧ prm39.all (noSv s) = true ∧ s.gen 0 = 0 ∧ s.cellsAt 0 0 = some ds2) (St.initM ds ps)) : SpecM Tryd.prog 39 R :=
  fn_sound_m hE eqsOK mixedOK Tryd.func39 bdm39 cpm39 (by kernel_rfl) (by kernel_rfl) hR

/-! (*interleave/interleaveref20.scanner).word -/
def pcm40 : PC :=
 .seq (.reg false [⟨(some 4), .mv (.v (.bool false)), none, []⟩])
  (.seq (.seq (.reg true [⟨(some 5), .mv (.t 0), none, []⟩,
         ⟨(some 6), .nilck (.t 5), none, [0]⟩,
         ⟨(some 7), .fld 2 (.t 6), none, [1]⟩,
         ⟨(some 8), .load none (.t 7), none, [2]⟩,
         ⟨(some 9), .mv (.t 8), none, [3]⟩,
         ⟨(some 10), .mv (.t 0), (some (9, false)), [4]⟩,
         ⟨(some 11), .nilck (.t 10), (some (9, false)), [5, 4]⟩,
         ⟨(some 12), .fld 0 (.t 11), (some (9, false)), [6, 4]⟩,
         ⟨(some 13), .load none (.t 12), (some (9, false)), [7, 4]⟩,
         ⟨(some 14), .strlen (.t 13), (some (9, false)), [8, 4]⟩,
         ⟨(some 15), .mv (.t 0), (some (9, false)), [4]⟩,
         ⟨(some 16), .nilck (.t 15), (some (9, false)), [10, 4]⟩,
         ⟨(some 17), .fld 1 (.t 16), (some (9, false)), [11, 4]⟩,
         ⟨(some 18), .load none (.t 17), (some (9, false)), [12, 4]⟩,
         ⟨(some 19), .bin .sub (.t 14) (.t 18), (some (9, false)), [9, 13, 4]⟩,
         ⟨(some 20), .mv (.t 1), (some (9, false)), [4]⟩,
         ⟨(some 21), .strlen (.t 20), (some (9, false)), [15, 4]⟩,
         ⟨(some 22), .bin .lss (.t 19) (.t 21), (some (9, false)), [14, 16, 4]⟩,
         ⟨(some 23), .pick (.t 9) (.v (.bool true)) (.t 22), none, [4, 17]⟩,
         ⟨(some 24), .mv (.t 23), none, [18, 4]⟩,
         ⟨(some 25), .mv (.t 0), (some (24, false)), [19]⟩,
         ⟨(some 26), .nilck (.t 25), (some (24, false)), [20, 19]⟩,
         ⟨(some 27), .fld 0 (.t 26), (some (24, false)), [21, 19]⟩,
         ⟨(some 28), .load none (.t 27), (some (24, false)), [22, 19]⟩,
         ⟨(some 29), .mv (.t 0), (some (24, false)), [19]⟩,
         ⟨(some 30), .nilck (.t 29), (some (24, false)), [24, 19]⟩,
         ⟨(some 31), .fld 1 (.t 30), (some (24, false)), [25, 19]⟩,
         ⟨(some 32), .load none (.t 31), (some (24, false)), [26, 19]⟩,
         ⟨(some 33), .mv (.t 0), (some (24, false)), [19]⟩,
         ⟨(some 34), .nilck (.t 33), (some (24, false)), [28, 19]⟩,
         ⟨(some 35), .fld 1 (.t 34), (some (24, false)), [29, 19]⟩,
         ⟨(some 36), .load none (.t 35), (some (24, false)), [30, 19]⟩,
         ⟨(some 37), .mv (.t 1), (some (24, false)), [19]⟩,
         ⟨(some 38), .strlen (.t 37), (some (24, false)), [32, 19]⟩,
         ⟨(some 39), .bin .add (.t 36) (.t 38), (some (24, false)), [31, 33, 19]⟩,
         ⟨(some 40), .substr (.t 28) (some (.t 32)) (some (.t 39)), (some (24, false)), [23, 27, 34, 19]⟩,
         ⟨(some 41), .mv (.t 1), (some (24, false)), [19]⟩,
         ⟨(some 42), .bin .neq (.t 40) (.t 41), (some (24, false)), [35, 36, 19]⟩,
         ⟨(some 43), .pick (.t 24) (.v (.bool true)) (.t 42), none, [19, 37]⟩])
    (.cond (.t 43)
      (.seq (.reg false [⟨(some 4), .mv (.v (.bool false)), none, []⟩])
       (.ret))
      (.skip)))
   (.seq (.reg false [⟨(some 44), .mv (.t 0), none, []⟩,
         ⟨(some 45), .mv (.t 0), none, []⟩,
         ⟨(some 46), .nilck (.t 45), none, [1]⟩,
         ⟨(some 47), .fld 1 (.t 46), none, [2]⟩,
         ⟨(some 48), .load none (.t 47), none, [3]⟩,
         ⟨(some 49), .mv (.t 1), none, []⟩,
         ⟨(some 50), .strlen (.t 49), none, [5]⟩,
         ⟨(some 51), .bin .add (.t 48) (.t 50), none, [4, 6]⟩,
         ⟨(some 52), .nilck (.t 44), none, [0, 0, 1, 2, 3, 4, 5, 6, 7]⟩,
         ⟨(some 53), .fld 1 (.t 52), none, [8, 0, 1, 2, 3, 4, 5, 6, 7]⟩,
         ⟨none, .store 1 (.t 53) (.t 51), none, [9, 7, 0, 1, 2, 3, 4, 5, 6, 7]⟩])
    (.seq (.reg false [⟨(some 4), .mv (.v (.bool true)), none, []⟩])
     (.ret))))
def prm40 : List PR := [.t 4]
theorem bdm40 : Tryd.f40.body = some (Tryd.f40.body.getD .skip) := by kernel_rfl
theorem cpm40 : compC Tryd.prog Tryd.f40.ntmps eqsL (Tryd.f40.body.getD .skip) = some pcm40 := by kernel_rfl
theorem spm40 [WInv] {env : Env} (hE : EnvOK Tryd.prog env) {R : List Dt → List Pa → List Dt → List Pa → Prop} (hR : ∀ ds ps ds2 rs, R ds ps ds2 rs → ps.length + 1 ≤ 54 ∧ pwp env pcm40 (fun e s => (e = .normal ∨ e = .ret) ∧ s.res prm40 = some rs ∧ prm40.all (noSv s) = true ∧ s.gen 0 = 0 ∧ s.cellsAt 0 0 = some ds2) (St.initM ds ps)) : SpecM Tryd.prog 40 R :=
  fn_sound_m hE eqsOK mixedOK Tryd.func40 bdm40 cpm40 (by kernel_rfl) (by kernel_rfl) hR


end Go.Proofs.YthnjbnfnljjepabDoor
end
section
set_option linter.unusedSimpArgs false
set_option linter.unusedVariables false
namespace Go.Proofs.YthnjbnfnljjepabDoor
open Go Go.RowKit
set_option maxRecDepth 1000000
set_option maxHeartbeats 8000000

theorem bget (b : ByteArray) (i : Nat) : b[i]? = b.data.toList[i]? := by
  by_cases h : i < b.size
  · rw [getElem?_pos b i h, List.getElem?_eq_getElem (by simpa using h)]
    show some b.data[i] = some b.data.toList[i]
    rw [Array.getElem_toList]
  · rw [getElem?_neg b i h, List.getElem?_eq_none (by simpa using h)]
theorem ext_list (b : ByteArray) (i j : Nat) : (b.extract i j).data.toList = (b.data.toList.take j).drop i := by
  rw [ByteArray.data_extract, Array.toList_extract, List.extract_eq_take_drop, List.drop_take]
theorem size_list (b : ByteArray) : b.size = b.data.toList.length := by simp
/-- the scanner: place, and whether anything was wrong -/
structure Sc where
  pl : Nat
  bad : Bool
def Sc.ds (s : ByteArray) (c : Sc) : List Dt := [.sc (.string s), .sc (.int .i64 c.pl), .sc (.bool c.bad)]
def okW (L : List UInt8) (c : Sc) (w : List UInt8) : Bool := !c.bad && decide ((L.drop c.pl).take w.length = w)
def wordS (L : List UInt8) (c : Sc) (w : List UInt8) : Sc := if okW L c w = true then ⟨c.pl + w.length, c.bad⟩ else c
def mustS (L : List UInt8) (c : Sc) (w : List UInt8) : Sc := if okW L c w = true then ⟨c.pl + w.length, c.bad⟩ else ⟨c.pl, true⟩
theorem okW_le {L : List UInt8} {c : Sc} {w : List UInt8} (h : okW L c w = true) (hc : c.pl ≤ L.length) : c.pl + w.length ≤ L.length := by
  unfold okW at h
  simp only [Bool.and_eq_true, decide_eq_true_eq] at h
  have := congrArg List.length h.2
  rw [List.length_take, List.length_drop] at this
  omega
def R_word (ds : List Dt) (ps : List Pa) (ds' : List Dt) (rs : List Pa) : Prop := ∃ (s w : ByteArray) (c : Sc), (s.size ≤ 100000 ∧ w.size ≤ 1000 ∧ c.pl ≤ s.size) ∧ ds = c.ds s ∧ ps = [pS w] ∧ ds' = (wordS s.data.toList c w.data.toList).ds s ∧ rs = [pB (okW s.data.toList c w.data.toList)]
theorem s_word : SpecM Tryd.prog 40 R_word := by
  refine spm40 EnvOK.e0 ?_
  rintro ds ps ds' rs ⟨s, w, ⟨a, bad⟩, ⟨hs, hw, ha⟩, rfl, rfl, rfl, rfl⟩
  refine ⟨by simp, ?_⟩
  simp only at ha
  have hsl := size_list s
  have hwl := size_list w
  unfold pcm40
  refine pwp_start ?_
  cases bad with
  | true =>
    have hk : okW s.data.toList ⟨a, true⟩ w.data.toList = false := rfl
    have hq : wordS s.data.toList ⟨a, true⟩ w.data.toList = ⟨a, true⟩ := by unfold wordS; rw [hk]; rfl
    rw [hk, hq]
    simp only [↓evP, evB, stB, reduceIte, reduceCtorEq, Nat.reduceEqDiff, Nat.reduceAdd, Nat.reduceMul, Nat.reduceLeDiff, Nat.reduceLT, Nat.reduceSub, Nat.reduceBEq, Sc.ds, List.map_cons, List.map_nil]
    refine ⟨(by unfold Drw; refine Eq.trans (b := true) ?_ rfl; kernel_rfl), ?_⟩
    simp only [↓evP, evB, stB, reduceIte, reduceCtorEq, Nat.reduceEqDiff, Nat.reduceAdd, Nat.reduceMul, Nat.reduceLeDiff, Nat.reduceLT, Nat.reduceSub, Nat.reduceBEq, Sc.ds, List.map_cons, List.map_nil, prm40]
  | false =>
    have hw1 : IntKind.i64.wrap ((s.size : Int) - (a : Int)) = ((s.size - a : Nat) : Int) := by rw [wr64 (by omega) (by omega)]; omega
    have hw2 : IntKind.i64.wrap ((a : Int) + (w.size : Int)) = ((a + w.size : Nat) : Int) := by rw [wr64 (by omega) (by omega)]; omega
    by_cases hl : ((s.size - a : Nat) : Int) < (w.size : Int)
    · have hk : okW s.data.toList ⟨a, false⟩ w.data.toList = false := by
        unfold okW
        rw [decide_eq_false]; · rfl
        intro h
        have := congrArg List.length h
        rw [List.length_take, List.length_drop] at this
        simp only at this
        omega
      have hq : wordS s.data.toList ⟨a, false⟩ w.data.toList = ⟨a, false⟩ := by unfold wordS; rw [hk]; rfl
      rw [hk, hq]
      simp only [↓evP, evB, stB, reduceIte, reduceCtorEq, Nat.reduceEqDiff, Nat.reduceAdd, Nat.reduceMul, Nat.reduceLeDiff, Nat.reduceLT, Nat.reduceSub, Nat.reduceBEq, Sc.ds, List.map_cons, List.map_nil, hw1, hl, decide_true]
      refine ⟨(by unfold Drw; refine Eq.trans (b := true) ?_ rfl; kernel_rfl), ?_⟩
      simp only [↓evP, evB, stB, reduceIte, reduceCtorEq, Nat.reduceEqDiff, Nat.reduceAdd, Nat.reduceMul, Nat.reduceLeDiff, Nat.reduceLT, Nat.reduceSub, Nat.reduceBEq, Sc.ds, List.map_cons, List.map_nil, prm40]
    · have i1 : (0 : Int) ≤ (a : Int) := by omega
      have i2 : (a : Int) ≤ ((a + w.size : Nat) : Int) := by omega
      have i3 : ((a + w.size : Nat) : Int) ≤ (s.size : Int) := by omega
      have hse := strings_eq (s.extract a (a + w.size)) w
      have hex : (s.extract a (a + w.size)).data.toList = (s.data.toList.drop a).take w.data.toList.length := by rw [ext_list, List.drop_take, ← hwl, Nat.add_sub_cancel_left]
      rw [hex] at hse
      by_cases he : (s.data.toList.drop a).take w.data.toList.length = w.data.toList
      · have hk : okW s.data.toList ⟨a, false⟩ w.data.toList = true := by unfold okW; rw [decide_eq_true he]; rfl
        have hq : wordS s.data.toList ⟨a, false⟩ w.data.toList = ⟨a + w.size, false⟩ := by unfold wordS; rw [hk, if_pos rfl, ← hwl]
        rw [hk, hq]
        rw [decide_eq_true he] at hse
        simp only [↓evP, evB, stB, reduceIte, reduceCtorEq, Nat.reduceEqDiff, Nat.reduceAdd, Nat.reduceMul, Nat.reduceLeDiff, Nat.reduceLT, Nat.reduceSub, Nat.reduceBEq, Sc.ds, List.map_cons, List.map_nil, hw1, hw2, hl, i1, i2, i3, hse, decide_false, Int.toNat_natCast]
        refine ⟨(by unfold Drw; refine Eq.trans (b := true) ?_ rfl; kernel_rfl), ?_⟩
        simp only [↓evP, evB, stB, reduceIte, reduceCtorEq, Nat.reduceEqDiff, Nat.reduceAdd, Nat.reduceMul, Nat.reduceLeDiff, Nat.reduceLT, Nat.reduceSub, Nat.reduceBEq, Sc.ds, List.map_cons, List.map_nil, hw2, prm40]
      · have hk : okW s.data.toList ⟨a, false⟩ w.data.toList = false := by unfold okW; rw [decide_eq_false he]; rfl
        have hq : wordS s.data.toList ⟨a, false⟩ w.data.toList = ⟨a, false⟩ := by unfold wordS; rw [hk]; rfl
        rw [hk, hq]
        rw [decide_eq_false he] at hse
        simp only [↓evP, evB, stB, reduceIte, reduceCtorEq, Nat.reduceEqDiff, Nat.reduceAdd, Nat.reduceMul, Nat.reduceLeDiff, Nat.reduceLT, Nat.reduceSub, Nat.reduceBEq, Sc.ds, List.map_cons, List.map_nil, hw1, hw2, hl, i1, i2, i3, hse, decide_false, Int.toNat_natCast]
        refine ⟨(by unfold Drw; refine Eq.trans (b := true) ?_ rfl; kernel_rfl), ?_⟩
        simp only [↓evP, evB, stB, reduceIte, reduceCtorEq, Nat.reduceEqDiff, Nat.reduceAdd, Nat.reduceMul, Nat.reduceLeDiff, Nat.reduceLT, Nat.reduceSub, Nat.reduceBEq, Sc.ds, List.map_cons, List.map_nil, prm40]
def R_must (ds : List Dt) (ps : List Pa) (ds' : List Dt) (rs : List Pa) : Prop := ∃ (s w : ByteArray) (c : Sc), (s.size ≤ 100000 ∧ w.size ≤ 1000 ∧ c.pl ≤ s.size) ∧ ds = c.ds s ∧ ps = [pS w] ∧ ds' = (mustS s.data.toList c w.data.toList).ds s ∧ rs = []
theorem s_must : SpecM Tryd.prog 38 R_must := by
  refine spm38 (EnvOK.m1 s_word EnvOK.e0) ?_
  rintro ds ps ds' rs ⟨s, w, c, hb, rfl, rfl, rfl, rfl⟩
  refine ⟨by simp, ?_⟩
  unfold pcm38
  refine pwp_start ?_
  simp only [↓evP, evB, stB, reduceIte, reduceCtorEq, Nat.reduceEqDiff, Nat.reduceAdd, Nat.reduceMul, Nat.reduceLeDiff, Nat.reduceLT, Nat.reduceSub, Nat.reduceBEq, Sc.ds, List.map_cons, List.map_nil]
  refine mutOps_intro ((wordS s.data.toList c w.data.toList).ds s) [pB (okW s.data.toList c w.data.toList)] (by exact ⟨s, w, c, hb, rfl, rfl, rfl, rfl⟩) (by rfl) ?_
  cases hk : okW s.data.toList c w.data.toList with
  | true =>
    have h1 : wordS s.data.toList c w.data.toList = ⟨c.pl + w.data.toList.length, c.bad⟩ := by unfold wordS; rw [if_pos hk]
    have h2 : mustS s.data.toList c w.data.toList = ⟨c.pl + w.data.toList.length, c.bad⟩ := by unfold mustS; rw [if_pos hk]
    rw [h1, h2]
    simp only [↓evP, evB, stB, reduceIte, reduceCtorEq, Nat.reduceEqDiff, Nat.reduceAdd, Nat.reduceMul, Nat.reduceLeDiff, Nat.reduceLT, Nat.reduceSub, Nat.reduceBEq, Sc.ds, List.map_cons, List.map_nil, prm38]
  | false =>
    have h1 : wordS s.data.toList c w.data.toList = c := by unfold wordS; rw [if_neg (by rw [hk]; simp)]
    have h2 : mustS s.data.toList c w.data.toList = ⟨c.pl, true⟩ := by unfold mustS; rw [if_neg (by rw [hk]; simp)]
    rw [h1, h2]
    simp only [↓evP, evB, stB, reduceIte, reduceCtorEq, Nat.reduceEqDiff, Nat.reduceAdd, Nat.reduceMul, Nat.reduceLeDiff, Nat.reduceLT, Nat.reduceSub, Nat.reduceBEq, Sc.ds, List.map_cons, List.map_nil, prm38]
/-! numbers -/
def scanN : List UInt8 → Nat → Nat × Nat
  | [], n => (0, n)
  | b :: r, n => if 48 ≤ b.toNat ∧ b.toNat ≤ 57 ∧ n ≤ 2147483647 then ((scanN r (10 * n + (b.toNat - 48))).1 + 1, (scanN r (10 * n + (b.toNat - 48))).2) else (0, n)
theorem scanN_le : ∀ (l : List UInt8) (n : Nat), (scanN l n).1 ≤ l.length
  | [], n => Nat.le_refl _
  | b :: r, n => by
    unfold scanN
    split
    · have := scanN_le r (10 * n + (b.toNat - 48)); simp only [List.length_cons]; omega
    · simp
def numBad (L : List UInt8) (c : Sc) : Bool := decide ((scanN (L.drop c.pl) 0).1 = 0) || ((decide ((L.drop c.pl).head? = some 48) && decide (1 < (scanN (L.drop c.pl) 0).1)) || decide (2147483647 < (scanN (L.drop c.pl) 0).2))
def numS (L : List UInt8) (c : Sc) : Sc := ⟨c.pl + (scanN (L.drop c.pl) 0).1, c.bad || numBad L c⟩
def numV (L : List UInt8) (c : Sc) : Int := if numBad L c = true then 0 else ((scanN (L.drop c.pl) 0).2 : Nat)
theorem numS_le {L : List UInt8} {c : Sc} (h : c.pl ≤ L.length) : (numS L c).pl ≤ L.length := by
  have := scanN_le (L.drop c.pl) 0
  rw [List.length_drop] at this
  show c.pl + _ ≤ _
  omega
def R_numr (ds : List Dt) (ps : List Pa) (ds' : List Dt) (rs : List Pa) : Prop := ∃ (s : ByteArray) (c : Sc), (s.size ≤ 100000 ∧ c.pl ≤ s.size) ∧ ds = c.ds s ∧ ps = [] ∧ ds' = (numS s.data.toList c).ds s ∧ rs = [pI (numV s.data.toList c)]
theorem num_post {s : ByteArray} {c : Sc} {k n : Nat} (hs : s.size ≤ 100000) (hc : c.pl ≤ s.size) (hp : scanN (s.data.toList.drop c.pl) 0 = (k, n)) (Q : Exit → St → Prop)
    (hQ : ∀ st, st.res prm39 = some [pI (numV s.data.toList c)] → prm39.all (noSv st) = true → st.gen 0 = 0 → st.cellsAt 0 0 = some ((numS s.data.toList c).ds s) → Q .ret st) (st : St)
    (h0 : st.sl 0 = .b (.one (.ptr 0 0 0))) (h3 : st.sl 3 = aI c.pl) (h4 : st.sl 4 = aI n) (g0 : st.gen 0 = 0) (o0 : st.ob 0 = .cells [.d (.sc (.string s)), .d (.sc (.int .i64 (c.pl + k : Nat))), .d (.sc (.bool c.bad))]) :
    pwp e0 pcm39c1 (exS e0 [] Q) st := by
  have hsl := size_list s
  have hk := scanN_le (s.data.toList.drop c.pl) 0
  rw [hp, List.length_drop] at hk
  simp only at hk
  have hnb : numBad s.data.toList c = (decide (k = 0) || ((decide ((s.data.toList.drop c.pl).head? = some 48) && decide (1 < k)) || decide (2147483647 < n))) := by unfold numBad; rw [hp]
  have hnS : numS s.data.toList c = ⟨c.pl + k, c.bad || numBad s.data.toList c⟩ := by unfold numS; rw [hp]
  have hnV : numV s.data.toList c = if numBad s.data.toList c = true then 0 else (n : Int) := by unfold numV; rw [hp]
  have fin1 : numBad s.data.toList c = true → ∀ st, st.res prm39 = some [pI 0] → prm39.all (noSv st) = true → st.gen 0 = 0 → st.cellsAt 0 0 = some [.sc (.string s), .sc (.int .i64 (c.pl + k : Nat)), .sc (.bool true)] → Q .ret st := fun hb st a1 a2 a3 a4 => hQ st (by rw [hnV, if_pos hb]; exact a1) a2 a3 (by rw [hnS, hb, Bool.or_true]; exact a4)
  have fin0 : numBad s.data.toList c = false → ∀ st, st.res prm39 = some [pI n] → prm39.all (noSv st) = true → st.gen 0 = 0 → st.cellsAt 0 0 = some [.sc (.string s), .sc (.int .i64 (c.pl + k : Nat)), .sc (.bool c.bad)] → Q .ret st := fun hb st a1 a2 a3 a4 => hQ st (by rw [hnV, if_neg (by rw [hb]; simp)]; exact a1) a2 a3 (by rw [hnS, hb, Bool.or_false]; exact a4)
  clear hQ hnS hnV
  have hw1 : IntKind.i64.wrap ((c.pl : Int) + 1) = ((c.pl + 1 : Nat) : Int) := wrN (by omega)
  have i0 : (0 : Int) ≤ (c.pl : Int) := by omega
  unfold pcm39c1 pcm39c0
  by_cases k0 : k = 0
  · have e0' : (((c.pl + k : Nat) : Int) == (c.pl : Int)) = true := beq_iff_eq.2 (by omega)
    have hb : numBad s.data.toList c = true := by rw [hnb, decide_eq_true k0]; rfl
    simp only [↓evP, evB, stB, reduceIte, reduceCtorEq, Nat.reduceEqDiff, Nat.reduceAdd, Nat.reduceMul, Nat.reduceLeDiff, Nat.reduceLT, Nat.reduceSub, Nat.reduceBEq, h0, h3, h4, g0, o0, e0']
    refine fin1 hb _ ?_ ?_ ?_ ?_
    all_goals simp only [↓evP, evB, stB, reduceIte, reduceCtorEq, Nat.reduceEqDiff, Nat.reduceAdd, Nat.reduceMul, Nat.reduceLeDiff, Nat.reduceLT, Nat.reduceSub, Nat.reduceBEq, h0, h3, h4, g0, o0, prm39]
  have e0' : (((c.pl + k : Nat) : Int) == (c.pl : Int)) = false := beq_eq_false_iff_ne.2 (by omega)
  obtain ⟨b0, hb0⟩ : ∃ b0, s.data.toList[c.pl]? = some b0 := ⟨_, List.getElem?_eq_getElem (by omega)⟩
  have gb0 : s[c.pl]? = some b0 := by rw [bget, hb0]
  have hhd : (s.data.toList.drop c.pl).head? = some b0 := by rw [List.head?_drop, hb0]
  rw [hhd, decide_eq_false k0] at hnb
  have last : ∀ (q48 : ((b0.toNat : Int) == 48) = true → ¬ ((c.pl + k : Nat) : Int) > ((c.pl + 1 : Nat) : Int)), numBad s.data.toList c = decide (2147483647 < n) := fun q => by
    rw [hnb]
    by_cases y : b0 = 48
    · have := q (by rw [y]; rfl)
      rw [decide_eq_false (show ¬ 1 < k by omega)]; simp
    · rw [decide_eq_false (fun e => y (Option.some.inj e))]; simp
  cases q48 : ((b0.toNat : Int) == 48) with
  | true =>
    have y : b0 = 48 := UInt8.toNat_inj.1 (by show b0.toNat = 48; have := beq_iff_eq.1 q48; omega)
    by_cases k1 : ((c.pl + k : Nat) : Int) > ((c.pl + 1 : Nat) : Int)
    · have hb : numBad s.data.toList c = true := by rw [hnb, y, decide_eq_true (show 1 < k by omega)]; simp
      simp only [↓evP, evB, stB, reduceIte, reduceCtorEq, Nat.reduceEqDiff, Nat.reduceAdd, Nat.reduceMul, Nat.reduceLeDiff, Nat.reduceLT, Nat.reduceSub, Nat.reduceBEq, h0, h3, h4, g0, o0, e0', i0, gb0, q48, hw1, k1, decide_true, Int.toNat_natCast]
      refine fin1 hb _ ?_ ?_ ?_ ?_
      all_goals simp only [↓evP, evB, stB, reduceIte, reduceCtorEq, Nat.reduceEqDiff, Nat.reduceAdd, Nat.reduceMul, Nat.reduceLeDiff, Nat.reduceLT, Nat.reduceSub, Nat.reduceBEq, h0, h3, h4, g0, o0, prm39]
    have hl := last (fun _ => k1)
    by_cases nm : (n : Int) > 2147483647
    · have hb : numBad s.data.toList c = true := by rw [hl]; exact decide_eq_true (by omega)
      simp only [↓evP, evB, stB, reduceIte, reduceCtorEq, Nat.reduceEqDiff, Nat.reduceAdd, Nat.reduceMul, Nat.reduceLeDiff, Nat.reduceLT, Nat.reduceSub, Nat.reduceBEq, h0, h3, h4, g0, o0, e0', i0, gb0, q48, hw1, k1, nm, decide_true, decide_false, Int.toNat_natCast]
      refine fin1 hb _ ?_ ?_ ?_ ?_
      all_goals simp only [↓evP, evB, stB, reduceIte, reduceCtorEq, Nat.reduceEqDiff, Nat.reduceAdd, Nat.reduceMul, Nat.reduceLeDiff, Nat.reduceLT, Nat.reduceSub, Nat.reduceBEq, h0, h3, h4, g0, o0, prm39]
    · have hb : numBad s.data.toList c = false := by rw [hl]; exact decide_eq_false (by omega)
      simp only [↓evP, evB, stB, reduceIte, reduceCtorEq, Nat.reduceEqDiff, Nat.reduceAdd, Nat.reduceMul, Nat.reduceLeDiff, Nat.reduceLT, Nat.reduceSub, Nat.reduceBEq, h0, h3, h4, g0, o0, e0', i0, gb0, q48, hw1, k1, nm, decide_true, decide_false, Int.toNat_natCast]
      refine fin0 hb _ ?_ ?_ ?_ ?_
      all_goals simp only [↓evP, evB, stB, reduceIte, reduceCtorEq, Nat.reduceEqDiff, Nat.reduceAdd, Nat.reduceMul, Nat.reduceLeDiff, Nat.reduceLT, Nat.reduceSub, Nat.reduceBEq, h0, h3, h4, g0, o0, prm39]
  | false =>
    have hl := last (fun h => by rw [q48] at h; cases h)
    by_cases nm : (n : Int) > 2147483647
    · have hb : numBad s.data.toList c = true := by rw [hl]; exact decide_eq_true (by omega)
      simp only [↓evP, evB, stB, reduceIte, reduceCtorEq, Nat.reduceEqDiff, Nat.reduceAdd, Nat.reduceMul, Nat.reduceLeDiff, Nat.reduceLT, Nat.reduceSub, Nat.reduceBEq, h0, h3, h4, g0, o0, e0', i0, gb0, q48, nm, decide_true, decide_false, Int.toNat_natCast]
      refine fin1 hb _ ?_ ?_ ?_ ?_
      all_goals simp only [↓evP, evB, stB, reduceIte, reduceCtorEq, Nat.reduceEqDiff, Nat.reduceAdd, Nat.reduceMul, Nat.reduceLeDiff, Nat.reduceLT, Nat.reduceSub, Nat.reduceBEq, h0, h3, h4, g0, o0, prm39]
    · have hb : numBad s.data.toList c = false := by rw [hl]; exact decide_eq_false (by omega)
      simp only [↓evP, evB, stB, reduceIte, reduceCtorEq, Nat.reduceEqDiff, Nat.reduceAdd, Nat.reduceMul, Nat.reduceLeDiff, Nat.reduceLT, Nat.reduceSub, Nat.reduceBEq, h0, h3, h4, g0, o0, e0', i0, gb0, q48, nm, decide_true, decide_false, Int.toNat_natCast]
      refine fin0 hb _ ?_ ?_ ?_ ?_
      all_goals simp only [↓evP, evB, stB, reduceIte, reduceCtorEq, Nat.reduceEqDiff, Nat.reduceAdd, Nat.reduceMul, Nat.reduceLeDiff, Nat.reduceLT, Nat.reduceSub, Nat.reduceBEq, h0, h3, h4, g0, o0, prm39]
theorem s_numr : SpecM Tryd.prog 39 R_numr := by
  refine spm39 EnvOK.e0 ?_
  rintro ds ps ds' rs ⟨s, c, ⟨hs, hc⟩, rfl, rfl, rfl, rfl⟩
  refine ⟨by simp, ?_⟩
  have hsl := size_list s
  unfold pcm39
  refine pwp_start ?_
  simp only [↓evP, evB, stB, reduceIte, reduceCtorEq, Nat.reduceEqDiff, Nat.reduceAdd, Nat.reduceMul, Nat.reduceLeDiff, Nat.reduceLT, Nat.reduceSub, Nat.reduceBEq, Sc.ds, List.map_cons, List.map_nil, pcm39c6]
  refine pwp_loopW msm39_0 osm39_0 (fun m st => ∃ k n : Nat, m = s.size - (c.pl + k) ∧ c.pl + k ≤ s.size ∧ n ≤ 21474836479 ∧ scanN (s.data.toList.drop c.pl) 0 = ((scanN (s.data.toList.drop (c.pl + k)) n).1 + k, (scanN (s.data.toList.drop (c.pl + k)) n).2) ∧ st.sl 4 = aI n ∧ st.gen 0 = 0 ∧ st.ob 0 = .cells [.d (.sc (.string s)), .d (.sc (.int .i64 (c.pl + k : Nat))), .d (.sc (.bool c.bad))]) (s.size - c.pl) ?_ ?_
  · exact ⟨0, 0, rfl, by omega, by omega, rfl, by simp only [stB, reduceIte, reduceCtorEq, Nat.reduceEqDiff, Nat.reduceAdd, Nat.reduceMul, Nat.reduceLeDiff, Nat.reduceLT, Nat.reduceSub, Nat.reduceBEq]; rfl, by simp only [stB, reduceIte, reduceCtorEq, Nat.reduceEqDiff, Nat.reduceAdd, Nat.reduceMul, Nat.reduceLeDiff, Nat.reduceLT, Nat.reduceSub, Nat.reduceBEq], by simp only [stB, reduceIte, reduceCtorEq, Nat.reduceEqDiff, Nat.reduceAdd, Nat.reduceMul, Nat.reduceLeDiff, Nat.reduceLT, Nat.reduceSub, Nat.reduceBEq]⟩
  · rintro m j ⟨k, n, rfl, hk, hn, hp, h4, g0, o0⟩
    simp only [stB, reduceIte, reduceCtorEq, Nat.reduceEqDiff, Nat.reduceAdd, Nat.reduceMul, Nat.reduceLeDiff, Nat.reduceLT, Nat.reduceSub, Nat.reduceBEq] at h4 g0 o0
    have post : ∀ (hq : scanN (s.data.toList.drop (c.pl + k)) n = (0, n)), scanN (s.data.toList.drop c.pl) 0 = (k, n) := fun hq => by rw [hp, hq]; simp
    have i0 : (0 : Int) ≤ ((c.pl + k : Nat) : Int) := by omega
    rcases Nat.lt_or_ge (c.pl + k) s.size with hlt | hge
    · obtain ⟨d, hd⟩ : ∃ d, s.data.toList[c.pl + k]? = some d := ⟨_, List.getElem?_eq_getElem (by omega)⟩
      have gd : s[c.pl + k]? = some d := by rw [bget, hd]
      have hdr : s.data.toList.drop (c.pl + k) = d :: s.data.toList.drop (c.pl + k + 1) := by
        obtain ⟨hl, rfl⟩ := List.getElem?_eq_some_iff.1 hd
        exact List.drop_eq_getElem_cons hl
      have hlt' : ((c.pl + k : Nat) : Int) < (s.size : Int) := by omega
      have hd8 := d.toNat_lt
      by_cases d1 : (d.toNat : Int) ≥ 48
      case neg =>
        have hq : scanN (s.data.toList.drop (c.pl + k)) n = (0, n) := by rw [hdr]; unfold scanN; rw [if_neg (by omega)]
        simp only [↓evP, evB, stB, reduceIte, reduceCtorEq, Nat.reduceEqDiff, Nat.reduceAdd, Nat.reduceMul, Nat.reduceLeDiff, Nat.reduceLT, Nat.reduceSub, Nat.reduceBEq, pcm39c5, pcm39c4, h4, g0, o0, hlt', i0, gd, d1, decide_true, decide_false, Int.toNat_natCast]
        refine ⟨(by unfold Drw; refine Eq.trans (b := true) ?_ rfl; kernel_rfl), ?_⟩
        refine num_post hs hc (post hq) _ (fun st a1 a2 a3 a4 => ⟨.inr rfl, a1, a2, a3, a4⟩) _ ?_ ?_ ?_ ?_ ?_
        all_goals simp only [stB, reduceIte, reduceCtorEq, Nat.reduceEqDiff, Nat.reduceAdd, Nat.reduceMul, Nat.reduceLeDiff, Nat.reduceLT, Nat.reduceSub, Nat.reduceBEq, h4, g0, o0]
      by_cases d2 : (d.toNat : Int) ≤ 57
      case neg =>
        have hq : scanN (s.data.toList.drop (c.pl + k)) n = (0, n) := by rw [hdr]; unfold scanN; rw [if_neg (by omega)]
        simp only [↓evP, evB, stB, reduceIte, reduceCtorEq, Nat.reduceEqDiff, Nat.reduceAdd, Nat.reduceMul, Nat.reduceLeDiff, Nat.reduceLT, Nat.reduceSub, Nat.reduceBEq, pcm39c5, pcm39c4, h4, g0, o0, hlt', i0, gd, d1, d2, decide_true, decide_false, Int.toNat_natCast]
        refine ⟨(by unfold Drw; refine Eq.trans (b := true) ?_ rfl; kernel_rfl), ?_⟩
        refine num_post hs hc (post hq) _ (fun st a1 a2 a3 a4 => ⟨.inr rfl, a1, a2, a3, a4⟩) _ ?_ ?_ ?_ ?_ ?_
        all_goals simp only [stB, reduceIte, reduceCtorEq, Nat.reduceEqDiff, Nat.reduceAdd, Nat.reduceMul, Nat.reduceLeDiff, Nat.reduceLT, Nat.reduceSub, Nat.reduceBEq, h4, g0, o0]
      by_cases d3 : (n : Int) ≤ 2147483647
      case neg =>
        have hq : scanN (s.data.toList.drop (c.pl + k)) n = (0, n) := by rw [hdr]; unfold scanN; rw [if_neg (by omega)]
        simp only [↓evP, evB, stB, reduceIte, reduceCtorEq, Nat.reduceEqDiff, Nat.reduceAdd, Nat.reduceMul, Nat.reduceLeDiff, Nat.reduceLT, Nat.reduceSub, Nat.reduceBEq, pcm39c5, pcm39c4, h4, g0, o0, hlt', i0, gd, d1, d2, d3, decide_true, decide_false, Int.toNat_natCast]
        refine ⟨(by unfold Drw; refine Eq.trans (b := true) ?_ rfl; kernel_rfl), ?_⟩
        refine num_post hs hc (post hq) _ (fun st a1 a2 a3 a4 => ⟨.inr rfl, a1, a2, a3, a4⟩) _ ?_ ?_ ?_ ?_ ?_
        all_goals simp only [stB, reduceIte, reduceCtorEq, Nat.reduceEqDiff, Nat.reduceAdd, Nat.reduceMul, Nat.reduceLeDiff, Nat.reduceLT, Nat.reduceSub, Nat.reduceBEq, h4, g0, o0]
      have m1 : IntKind.i64.wrap (10 * (n : Int)) = ((10 * n : Nat) : Int) := by rw [wr64 (by omega) (by omega)]; omega
      have m2 : IntKind.u8.wrap ((d.toNat : Int) - 48) = ((d.toNat - 48 : Nat) : Int) := by rw [wru8 (by omega) (by omega)]; omega
      have m3 : IntKind.i64.wrap ((d.toNat - 48 : Nat) : Int) = ((d.toNat - 48 : Nat) : Int) := wr64 (by omega) (by omega)
      have m4 : IntKind.i64.wrap (((10 * n : Nat) : Int) + ((d.toNat - 48 : Nat) : Int)) = ((10 * n + (d.toNat - 48) : Nat) : Int) := by rw [wr64 (by omega) (by omega)]; omega
      have m5 : IntKind.i64.wrap (((c.pl + k : Nat) : Int) + 1) = ((c.pl + k + 1 : Nat) : Int) := wrN (by omega)
      simp only [↓evP, evB, stB, reduceIte, reduceCtorEq, Nat.reduceEqDiff, Nat.reduceAdd, Nat.reduceMul, Nat.reduceLeDiff, Nat.reduceLT, Nat.reduceSub, Nat.reduceBEq, pcm39c5, pcm39c4, pcm39c3, pcm39c2, h4, g0, o0, hlt', i0, gd, d1, d2, d3, decide_true, Int.toNat_natCast]
      refine ⟨(by unfold Drw; refine Eq.trans (b := true) ?_ rfl; kernel_rfl), ?_⟩
      simp only [↓evP, evB, stB, reduceIte, reduceCtorEq, Nat.reduceEqDiff, Nat.reduceAdd, Nat.reduceMul, Nat.reduceLeDiff, Nat.reduceLT, Nat.reduceSub, Nat.reduceBEq, pcm39c3, pcm39c2, h4, g0, o0, i0, gd, m1, m2, m3, m4, Int.toNat_natCast]
      refine ⟨(by unfold Drw; refine Eq.trans (b := true) ?_ rfl; kernel_rfl), ?_⟩
      simp only [↓evP, evB, stB, reduceIte, reduceCtorEq, Nat.reduceEqDiff, Nat.reduceAdd, Nat.reduceMul, Nat.reduceLeDiff, Nat.reduceLT, Nat.reduceSub, Nat.reduceBEq, h4, g0, o0, m5]
      refine ⟨_, ?_, (by repeat' (first | assumption | exact within_over.mpr trivial | exact Within.refl _ _ _ | (refine within_ap ?_ rfl rfl) | (refine within_ap0 ?_ rfl))), k + 1, 10 * n + (d.toNat - 48), rfl, by omega, by omega, ?_, by simp only [stB, reduceIte, reduceCtorEq, Nat.reduceEqDiff, Nat.reduceAdd, Nat.reduceMul, Nat.reduceLeDiff, Nat.reduceLT, Nat.reduceSub, Nat.reduceBEq, h4, m1, m2, m3, m4], by simp only [stB, reduceIte, reduceCtorEq, Nat.reduceEqDiff, Nat.reduceAdd, Nat.reduceMul, Nat.reduceLeDiff, Nat.reduceLT, Nat.reduceSub, Nat.reduceBEq, g0], by simp only [stB, reduceIte, reduceCtorEq, Nat.reduceEqDiff, Nat.reduceAdd, Nat.reduceMul, Nat.reduceLeDiff, Nat.reduceLT, Nat.reduceSub, Nat.reduceBEq, o0, m5, wrF_cells]; rfl⟩
      · omega
      · rw [hp, hdr]
        have : scanN (d :: s.data.toList.drop (c.pl + k + 1)) n = ((scanN (s.data.toList.drop (c.pl + k + 1)) (10 * n + (d.toNat - 48))).1 + 1, (scanN (s.data.toList.drop (c.pl + k + 1)) (10 * n + (d.toNat - 48))).2) := by
          rw [scanN, if_pos ⟨by omega, by omega, by omega⟩]
        rw [this, show c.pl + (k + 1) = c.pl + k + 1 by omega]
        simp only [Prod.mk.injEq, and_true]
        omega
    · have hlt' : ¬ ((c.pl + k : Nat) : Int) < (s.size : Int) := by omega
      have hq : scanN (s.data.toList.drop (c.pl + k)) n = (0, n) := by rw [List.drop_eq_nil_of_le (by omega)]; rfl
      simp only [↓evP, evB, stB, reduceIte, reduceCtorEq, Nat.reduceEqDiff, Nat.reduceAdd, Nat.reduceMul, Nat.reduceLeDiff, Nat.reduceLT, Nat.reduceSub, Nat.reduceBEq, pcm39c5, pcm39c4, h4, g0, o0, hlt', decide_false]
      refine ⟨(by unfold Drw; refine Eq.trans (b := true) ?_ rfl; kernel_rfl), ?_⟩
      refine num_post hs hc (post hq) _ (fun st a1 a2 a3 a4 => ⟨.inr rfl, a1, a2, a3, a4⟩) _ ?_ ?_ ?_ ?_ ?_
      all_goals simp only [stB, reduceIte, reduceCtorEq, Nat.reduceEqDiff, Nat.reduceAdd, Nat.reduceMul, Nat.reduceLeDiff, Nat.reduceLT, Nat.reduceSub, Nat.reduceBEq, h4, g0, o0]
end Go.Proofs.YthnjbnfnljjepabDoor
end
section
namespace Go.Proofs.YthnjbnfnljjepabDoor
open Go Go.RowKit
set_option linter.unusedSimpArgs false
set_option linter.unusedVariables false
set_option maxRecDepth 100000

/-! interleave/interleaveref20.Read -/
def pck16c0 : PC :=
 .seq (.reg false [⟨(some 74), .mv (.t 4), none, []⟩,
               ⟨(some 75), .call 38 [(.t 74), (.v (.string ⟨#[32, 64]⟩))], none, [0]⟩])
          (.seq (.reg false [⟨(some 76), .mv (.t 4), none, []⟩,
                ⟨(some 77), .call 39 [(.t 76)], none, [0]⟩,
                ⟨(some 78), .fld 6 (.t 5), none, [0, 1]⟩,
                ⟨none, .store 1 (.t 78) (.t 77), none, [2, 1, 1, 0, 1]⟩])
           (.seq (.reg false [⟨(some 79), .mv (.t 4), none, []⟩,
                 ⟨(some 80), .call 38 [(.t 79), (.v (.string ⟨#[58]⟩))], none, [0]⟩])
            (.seq (.reg false [⟨(some 81), .mv (.t 4), none, []⟩,
                  ⟨(some 82), .call 39 [(.t 81)], none, [0]⟩,
                  ⟨(some 83), .fld 7 (.t 5), none, [0, 1]⟩,
                  ⟨none, .store 1 (.t 83) (.t 82), none, [2, 1, 1, 0, 1]⟩])
             (.seq (.reg false [⟨(some 84), .mv (.t 4), none, []⟩,
                   ⟨(some 85), .call 38 [(.t 84), (.v (.string ⟨#[32, 35]⟩))], none, [0]⟩])
              (.seq (.reg false [⟨(some 86), .mv (.t 4), none, []⟩,
                    ⟨(some 87), .call 39 [(.t 86)], none, [0]⟩,
                    ⟨(some 88), .fld 8 (.t 5), none, [0, 1]⟩,
                    ⟨none, .store 1 (.t 88) (.t 87), none, [2, 1, 1, 0, 1]⟩])
               (.seq (.seq (.reg false [⟨(some 89), .mv (.t 4), none, []⟩,
                      ⟨(some 90), .nilck (.t 89), none, [0]⟩,
                      ⟨(some 91), .fld 2 (.t 90), none, [1]⟩,
                      ⟨(some 92), .load none (.t 91), none, [2]⟩,
                      ⟨(some 93), .mv (.t 92), none, [3]⟩,
                      ⟨(some 94), .mv (.t 4), (some (93, false)), [4]⟩,
                      ⟨(some 95), .nilck (.t 94), (some (93, false)), [5, 4]⟩,
                      ⟨(some 96), .fld 1 (.t 95), (some (93, false)), [6, 4]⟩,
                      ⟨(some 97), .load none (.t 96), (some (93, false)), [7, 4]⟩,
                      ⟨(some 98), .mv (.t 0), (some (93, false)), [4]⟩,
                      ⟨(some 99), .strlen (.t 98), (some (93, false)), [9, 4]⟩,
                      ⟨(some 100), .bin .lss (.t 97) (.t 99), (some (93, false)), [8, 10, 4]⟩,
                      ⟨(some 101), .pick (.t 93) (.v (.bool true)) (.t 100), none, [4, 11]⟩,
                      ⟨(some 102), .mv (.t 101), none, [12, 4]⟩,
                      ⟨(some 103), .load (some 9) (.t 5), (some (102, false)), [13]⟩,
                      ⟨(some 104), .call 12 [(.t 103)], (some (102, false)), [14, 13, 13]⟩,
                      ⟨(some 105), .un .not (.t 104), (some (102, false)), [15, 13]⟩,
                      ⟨(some 106), .pick (.t 102) (.v (.bool true)) (.t 105), none, [13, 16]⟩])
                 (.cond (.t 106)
                   (.seq (.reg false [⟨(some 107), .build [(.int .i64 0), (.int .i64 0), (.int .i64 0), (.int .i64 0), (.int .i64 0), (.int .i64 0), (.int .i64 0), (.int .i64 0), (.int .i64 0)] [], none, []⟩,
                         ⟨none, .store 9 (.t 2) (.t 107), none, [0, 0]⟩,
                         ⟨(some 3), .mv (.v (.int .i64 8)), none, [1, 0, 1]⟩])
                    (.ret))
                   (.skip)))
                (.seq (.reg false [⟨(some 108), .load (some 9) (.t 5), none, []⟩,
                      ⟨none, .store 9 (.t 2) (.t 108), none, [0, 0]⟩,
                      ⟨(some 3), .mv (.v (.int .i64 0)), none, [1, 0, 1]⟩])
                 (.ret))))))))
def pck16c1 : PC :=
 .seq (.reg false [⟨(some 61), .mv (.t 4), none, []⟩,
                         ⟨(some 62), .call 39 [(.t 61)], none, [0]⟩,
                         ⟨(some 63), .fld 2 (.t 5), none, [0, 1]⟩,
                         ⟨none, .store 1 (.t 63) (.t 62), none, [2, 1, 1, 0, 1]⟩])
                    (.seq (.reg false [⟨(some 64), .mv (.t 4), none, []⟩,
                          ⟨(some 65), .call 38 [(.t 64), (.v (.string ⟨#[32]⟩))], none, [0]⟩])
                     (.seq (.reg false [⟨(some 66), .mv (.t 4), none, []⟩,
                           ⟨(some 67), .call 39 [(.t 66)], none, [0]⟩,
                           ⟨(some 68), .fld 4 (.t 5), none, [0, 1]⟩,
                           ⟨none, .store 1 (.t 68) (.t 67), none, [2, 1, 1, 0, 1]⟩])
                      (.seq (.reg false [⟨(some 69), .mv (.t 4), none, []⟩,
                            ⟨(some 70), .call 38 [(.t 69), (.v (.string ⟨#[47]⟩))], none, [0]⟩])
                       (.reg false [⟨(some 71), .mv (.t 4), none, []⟩,
                            ⟨(some 72), .call 39 [(.t 71)], none, [0]⟩,
                            ⟨(some 73), .fld 5 (.t 5), none, [0, 1]⟩,
                            ⟨none, .store 1 (.t 73) (.t 72), none, [2, 1, 1, 0, 1]⟩]))))
def pck16c2 : PC :=
 .seq (.reg false [⟨(some 33), .mv (.t 4), none, []⟩,
                         ⟨(some 34), .call 39 [(.t 33)], none, [0]⟩,
                         ⟨(some 35), .fld 2 (.t 5), none, [0, 1]⟩,
                         ⟨none, .store 1 (.t 35) (.t 34), none, [2, 1, 1, 0, 1]⟩])
                    (.seq (.reg false [⟨(some 36), .mv (.t 4), none, []⟩,
                          ⟨(some 37), .call 38 [(.t 36), (.v (.string ⟨#[46]⟩))], none, [0]⟩])
                     (.reg false [⟨(some 38), .mv (.t 4), none, []⟩,
                          ⟨(some 39), .call 39 [(.t 38)], none, [0]⟩,
                          ⟨(some 40), .fld 3 (.t 5), none, [0, 1]⟩,
                          ⟨none, .store 1 (.t 40) (.t 39), none, [2, 1, 1, 0, 1]⟩]))
def pck16c3 : PC :=
 .seq (.reg false [⟨(some 58), .fld 1 (.t 5), none, []⟩,
                      ⟨(some 59), .load none (.t 58), none, [0]⟩,
                      ⟨(some 60), .call 22 [(.t 59)], none, [1]⟩,
                      ⟨(some 57), .mv (.t 60), none, [2, 2]⟩])
                 (.cond (.t 57)
                   (pck16c1)
                   (pck16c2))
def pck16c4 : PC :=
 .seq (.reg false [⟨(some 49), .fld 1 (.t 5), none, []⟩,
                   ⟨(some 50), .load none (.t 49), none, [0]⟩,
                   ⟨(some 51), .bin .eql (.t 50) (.v (.int .i64 14)), none, [1]⟩,
                   ⟨(some 48), .mv (.t 51), none, [2]⟩])
              (.cond (.t 48)
                (.seq (.reg false [⟨(some 52), .mv (.t 4), none, []⟩,
                      ⟨(some 53), .call 38 [(.t 52), (.v (.string ⟨#[103]⟩))], none, [0]⟩])
                 (.reg false [⟨(some 54), .mv (.t 4), none, []⟩,
                      ⟨(some 55), .call 39 [(.t 54)], none, [0]⟩,
                      ⟨(some 56), .fld 4 (.t 5), none, [0, 1]⟩,
                      ⟨none, .store 1 (.t 56) (.t 55), none, [2, 1, 1, 0, 1]⟩]))
                (pck16c3))
def pck16c5 : PC :=
 .block 2 (.seq (.reg false [⟨(some 42), .fld 1 (.t 5), none, []⟩,
                ⟨(some 43), .load none (.t 42), none, [0]⟩,
                ⟨(some 44), .bin .eql (.t 43) (.v (.int .i64 0)), none, [1]⟩,
                ⟨(some 41), .mv (.t 44), none, [2]⟩])
           (.cond (.t 41)
             (.reg false [⟨(some 45), .mv (.t 4), none, []⟩,
                  ⟨(some 46), .nilck (.t 45), none, [0, 0]⟩,
                  ⟨(some 47), .fld 2 (.t 46), none, [1, 0]⟩,
                  ⟨none, .store 1 (.t 47) (.v (.bool true)), none, [2, 0]⟩])
             (pck16c4)))
def pck16c6 : PC :=
 .seq (pck16c5)
         (pck16c0)
def pck16 : PC :=
 .seq (.reg false [⟨(some 2), .new [(.int .i64 0), (.int .i64 0), (.int .i64 0), (.int .i64 0), (.int .i64 0), (.int .i64 0), (.int .i64 0), (.int .i64 0), (.int .i64 0)], none, []⟩,
       ⟨(some 3), .mv (.v (.int .i64 0)), none, []⟩])
  (.seq (.reg false [⟨(some 7), .mv (.t 0), none, []⟩,
        ⟨(some 8), .build [(.string ⟨#[]⟩), (.int .i64 0), (.bool false)] [(0, 1, (.t 7))], none, [0]⟩,
        ⟨(some 9), .box (.t 8), none, [1]⟩,
        ⟨(some 4), .mv (.t 9), none, [2, 0, 1, 2]⟩])
   (.seq (.reg false [⟨(some 5), .new [(.int .i64 0), (.int .i64 0), (.int .i64 0), (.int .i64 0), (.int .i64 0), (.int .i64 0), (.int .i64 0), (.int .i64 0), (.int .i64 0)], none, []⟩])
    (.seq (.reg false [⟨(some 10), .mv (.t 4), none, []⟩,
          ⟨(some 11), .call 38 [(.t 10), (.v (.string ⟨#[103]⟩))], none, [0]⟩])
     (.seq (.reg false [⟨(some 12), .mv (.t 4), none, []⟩,
           ⟨(some 13), .call 39 [(.t 12)], none, [0]⟩,
           ⟨(some 14), .fld 0 (.t 5), none, [0, 1]⟩,
           ⟨none, .store 1 (.t 14) (.t 13), none, [2, 1, 1, 0, 1]⟩])
      (.seq (.reg false [⟨(some 15), .mv (.t 4), none, []⟩,
            ⟨(some 16), .call 38 [(.t 15), (.v (.string ⟨#[32]⟩))], none, [0]⟩])
       (.seq (.seq (.reg false [⟨(some 6), .mv (.v (.int .i64 1)), none, []⟩])
         (.block 0 (.loop (.seq (.seq (.reg false [⟨(some 17), .mv (.t 6), none, []⟩,
                  ⟨(some 18), .bin .leq (.t 17) (.v (.int .i64 20)), none, [0]⟩,
                  ⟨(some 19), .mv (.t 18), none, [1]⟩,
                  ⟨(some 20), .fld 1 (.t 5), (some (19, true)), [2]⟩,
                  ⟨(some 21), .load none (.t 20), (some (19, true)), [3, 2]⟩,
                  ⟨(some 22), .bin .eql (.t 21) (.v (.int .i64 0)), (some (19, true)), [4, 2]⟩,
                  ⟨(some 23), .pick (.t 19) (.t 22) (.v (.bool false)), none, [2, 5]⟩])
             (.cond (.t 23)
               (.skip)
               (.exit 0)))
            (.seq (.block 1 (.seq (.reg false [⟨(some 26), .mv (.t 4), none, []⟩,
                    ⟨(some 27), .mv (.t 6), none, []⟩,
                    ⟨(some 28), .call 29 [(.t 27)], none, [1]⟩,
                    ⟨(some 29), .bin .add (.t 28) (.v (.string ⟨#[32]⟩)), none, [2]⟩,
                    ⟨(some 30), .call 40 [(.t 26), (.t 29)], none, [0, 3, 2]⟩])
               (.cond (.t 30)
                 (.reg false [⟨(some 31), .mv (.t 6), none, []⟩,
                      ⟨(some 32), .fld 1 (.t 5), none, [0]⟩,
                      ⟨none, .store 1 (.t 32) (.t 31), none, [1, 0, 0]⟩])
                 (.skip))))
             (.reg false [⟨(some 24), .mv (.t 6), none, []⟩,
                  ⟨(some 25), .bin .add (.t 24) (.v (.int .i64 1)), none, [0]⟩,
                  ⟨(some 6), .mv (.t 25), none, [1, 0, 1]⟩]))))))
        (pck16c6)))))))
def prk16 : List PR := [.c 2 (some 9), .t 3]
abbrev msk16_0 : List Nat := [17, 18, 19, 20, 21, 22, 23, 26, 27, 28, 29, 30, 31, 32, 24, 25, 6]
abbrev osk16_0 : List Nat := [5]
theorem bdk16 : Tryd.f16.body = some (Tryd.f16.body.getD .skip) := by kernel_rfl
theorem cpk16 : compC Tryd.prog Tryd.f16.ntmps eqsL (Tryd.f16.body.getD .skip) = some pck16 := by kernel_rfl
theorem spk16 [WInv] {env : Env} (hE : EnvOK Tryd.prog env) {R : List Pa → List Pa → Prop} (hR : ∀ ps rs, R ps rs → ps.length ≤ 109 ∧ pwp env pck16 (fun e s => (e = .normal ∨ e = .ret) ∧ s.res prk16 = some rs) (St.init ps)) : Spec Tryd.prog 16 R :=
  fn_sound hE eqsOK mixedOK Tryd.func16 bdk16 cpk16 (by kernel_rfl) (by kernel_rfl) hR


end Go.Proofs.YthnjbnfnljjepabDoor
end
section
set_option linter.unusedSimpArgs false
set_option linter.unusedVariables false
namespace Go.Proofs.YthnjbnfnljjepabDoor
open Go Go.RowKit
set_option maxRecDepth 1000000
set_option maxHeartbeats 8000000

theorem mustS_le {L : List UInt8} {c : Sc} {w : List UInt8} (h : c.pl ≤ L.length) : (mustS L c w).pl ≤ L.length := by
  unfold mustS
  split
  · rename_i hk; exact okW_le hk h
  · exact h
theorem wordS_le {L : List UInt8} {c : Sc} {w : List UInt8} (h : c.pl ≤ L.length) : (wordS L c w).pl ≤ L.length := by
  unfold wordS
  split
  · rename_i hk; exact okW_le hk h
  · exact h
/-- the kind whose name comes next -/
def kindS (L : List UInt8) : Nat → Nat → Sc → Sc × Nat
  | 0, _, c => (c, 0)
  | f + 1, k, c => if okW L c (kn k ++ [32]) = true then (wordS L c (kn k ++ [32]), k) else kindS L f (k + 1) c
def midS (L : List UInt8) (c : Sc) (e : Ev) : Sc × Ev :=
  if e.kind = 0 then (⟨c.pl, true⟩, e)
  else if e.kind = 14 then (numS L (mustS L c [103]), { e with k := numV L (mustS L c [103]) })
  else if chanB e.kind = true then (numS L (mustS L (numS L (mustS L (numS L c) [32])) [47]), { e with obj := numV L c, k := numV L (mustS L (numS L c) [32]), n := numV L (mustS L (numS L (mustS L (numS L c) [32])) [47]) })
  else (numS L (mustS L (numS L c) [46]), { e with obj := numV L c, off := numV L (mustS L (numS L c) [46]) })
def endS (L : List UInt8) (c : Sc) (e : Ev) : Sc × Ev :=
  (numS L (mustS L (numS L (mustS L (numS L (mustS L c [32, 64])) [58])) [32, 35]), { e with fn := numV L (mustS L c [32, 64]), pc := numV L (mustS L (numS L (mustS L c [32, 64])) [58]), stack := numV L (mustS L (numS L (mustS L (numS L (mustS L c [32, 64])) [58])) [32, 35]) })
def finS (L : List UInt8) (p : Sc × Ev) : Option Ev := if p.1.bad = true ∨ p.1.pl < L.length ∨ p.2.valid = false then none else some p.2
def frontS (L : List UInt8) : Sc × Nat := kindS L 20 1 (mustS L (numS L (mustS L ⟨0, false⟩ [103])) [32])
def refE (L : List UInt8) : Option Ev := finS L (endS L (midS L (frontS L).1 { Ev.zero with g := numV L (mustS L ⟨0, false⟩ [103]), kind := (frontS L).2 }).1 (midS L (frontS L).1 { Ev.zero with g := numV L (mustS L ⟨0, false⟩ [103]), kind := (frontS L).2 }).2)

structure RfAt (s : ByteArray) (c : Sc) (e : Ev) (st : St) : Prop where
  h0 : st.sl 0 = .b (.one (.d (.sc (.string s))))
  h2 : st.sl 2 = .b (.one (.ptr 2 1 0))
  h4 : st.sl 4 = .b (.one (.ptr 9 1 0))
  h5 : st.sl 5 = .b (.one (.ptr 5 1 0))
  g2 : st.gen 2 = 1
  g5 : st.gen 5 = 1
  g9 : st.gen 9 = 1
  o2 : st.ob 2 = .cells (Ev.zero.row.map .d)
  o5 : st.ob 5 = .cells (e.row.map .d)
  o9 : st.ob 9 = .cells [.d (.sc (.string s)), .d (.sc (.int .i64 c.pl)), .d (.sc (.bool c.bad))]
def env_rr : Env := m1 38 R_must (m1 39 R_numr (m1 40 R_word (e1 29 R_name (e1 22 R_channel20 (e1 12 R_valid20 e0)))))
theorem env_rr_ok : EnvOK Tryd.prog env_rr := EnvOK.m1 s_must (EnvOK.m1 s_numr (EnvOK.m1 s_word (EnvOK.e1 s_name (EnvOK.e1 s_channel20 (EnvOK.e1 s_valid20 EnvOK.e0)))))
theorem must_at {s : ByteArray} {c : Sc} (w : List UInt8) (hs : s.size ≤ 100000) (hw : w.length ≤ 1000) (hc : c.pl ≤ s.data.toList.length) : R_must [.sc (.string s), .sc (.int .i64 c.pl), .sc (.bool c.bad)] [pS (strB w)] ((mustS s.data.toList c w).ds s) [] :=
  ⟨s, strB w, c, ⟨hs, by rw [strB_size]; exact hw, by rw [size_list]; exact hc⟩, rfl, rfl, rfl, rfl⟩
theorem num_at {s : ByteArray} {c : Sc} (hs : s.size ≤ 100000) (hc : c.pl ≤ s.data.toList.length) : R_numr [.sc (.string s), .sc (.int .i64 c.pl), .sc (.bool c.bad)] [] ((numS s.data.toList c).ds s) [pI (numV s.data.toList c)] :=
  ⟨s, c, ⟨hs, by rw [size_list]; exact hc⟩, rfl, rfl, rfl, rfl⟩
theorem word_at {s : ByteArray} {c : Sc} (w : List UInt8) (hs : s.size ≤ 100000) (hw : w.length ≤ 1000) (hc : c.pl ≤ s.data.toList.length) : R_word [.sc (.string s), .sc (.int .i64 c.pl), .sc (.bool c.bad)] [pS (strB w)] ((wordS s.data.toList c w).ds s) [pB (okW s.data.toList c w)] :=
  ⟨s, strB w, c, ⟨hs, by rw [strB_size]; exact hw, by rw [size_list]; exact hc⟩, rfl, rfl, rfl, rfl⟩
theorem rf_end {s : ByteArray} {c : Sc} {e : Ev} (hs : s.size ≤ 100000) (lc : c.pl ≤ s.data.toList.length) (Q : Exit → St → Prop)
    (hQ : ∀ st, st.res prk16 = some (readPa (finS s.data.toList (endS s.data.toList c e))) → Q .ret st) (st : St) (ha : RfAt s c e st) : pwp env_rr pck16c0 (exS env_rr [] Q) st := by
  obtain ⟨c1, hc1⟩ : ∃ x : Sc, x = mustS s.data.toList c [32, 64] := ⟨_, rfl⟩
  have lc1 : c1.pl ≤ s.data.toList.length := by rw [hc1]; exact mustS_le lc
  obtain ⟨vf, hvf⟩ : ∃ x : Int, x = numV s.data.toList c1 := ⟨_, rfl⟩
  obtain ⟨c2, hc2⟩ : ∃ x : Sc, x = numS s.data.toList c1 := ⟨_, rfl⟩
  have lc2 : c2.pl ≤ s.data.toList.length := by rw [hc2]; exact numS_le lc1
  obtain ⟨c3, hc3⟩ : ∃ x : Sc, x = mustS s.data.toList c2 [58] := ⟨_, rfl⟩
  have lc3 : c3.pl ≤ s.data.toList.length := by rw [hc3]; exact mustS_le lc2
  obtain ⟨vp, hvp⟩ : ∃ x : Int, x = numV s.data.toList c3 := ⟨_, rfl⟩
  obtain ⟨c4, hc4⟩ : ∃ x : Sc, x = numS s.data.toList c3 := ⟨_, rfl⟩
  have lc4 : c4.pl ≤ s.data.toList.length := by rw [hc4]; exact numS_le lc3
  obtain ⟨c5, hc5⟩ : ∃ x : Sc, x = mustS s.data.toList c4 [32, 35] := ⟨_, rfl⟩
  have lc5 : c5.pl ≤ s.data.toList.length := by rw [hc5]; exact mustS_le lc4
  obtain ⟨vs, hvs⟩ : ∃ x : Int, x = numV s.data.toList c5 := ⟨_, rfl⟩
  obtain ⟨c6, hc6⟩ : ∃ x : Sc, x = numS s.data.toList c5 := ⟨_, rfl⟩
  have lc6 : c6.pl ≤ s.data.toList.length := by rw [hc6]; exact numS_le lc5
  obtain ⟨E, hE⟩ : ∃ E : Ev, E = { e with fn := vf, pc := vp, stack := vs } := ⟨_, rfl⟩
  have hend : endS s.data.toList c e = (c6, E) := by unfold endS; rw [hE, hvs, hvp, hvf, hc6, hc5, hc4, hc3, hc2, hc1]
  rw [hend] at hQ
  have hsl := size_list s
  obtain ⟨h0, h2, h4, h5, g2, g5, g9, o2, o5, o9⟩ := ha
  simp only [Ev.row, List.map_cons, List.map_nil] at o2 o5
  unfold pck16c0
  simp only [↓evP, evB, stB, reduceIte, reduceCtorEq, Nat.reduceEqDiff, Nat.reduceAdd, Nat.reduceMul, Nat.reduceLeDiff, Nat.reduceLT, Nat.reduceSub, Nat.reduceBEq, Sc.ds, List.map_cons, List.map_nil, h0, h2, h4, h5, g2, g5, g9, o2, o5, o9]
  refine mutOps_intro (c1.ds s) [] (by rw [hc1]; exact must_at [32, 64] hs (by decide) lc) (by rfl) ?_
  simp only [↓evP, evB, stB, reduceIte, reduceCtorEq, Nat.reduceEqDiff, Nat.reduceAdd, Nat.reduceMul, Nat.reduceLeDiff, Nat.reduceLT, Nat.reduceSub, Nat.reduceBEq, Sc.ds, List.map_cons, List.map_nil, h0, h2, h4, h5, g2, g5, g9, o2, o5, o9]
  refine mutOps_intro (c2.ds s) [pI vf] (by rw [hc2, hvf]; exact num_at hs lc1) (by rfl) ?_
  simp only [↓evP, evB, stB, reduceIte, reduceCtorEq, Nat.reduceEqDiff, Nat.reduceAdd, Nat.reduceMul, Nat.reduceLeDiff, Nat.reduceLT, Nat.reduceSub, Nat.reduceBEq, Sc.ds, List.map_cons, List.map_nil, h0, h2, h4, h5, g2, g5, g9, o2, o5, o9]
  refine mutOps_intro (c3.ds s) [] (by rw [hc3]; exact must_at [58] hs (by decide) lc2) (by rfl) ?_
  simp only [↓evP, evB, stB, reduceIte, reduceCtorEq, Nat.reduceEqDiff, Nat.reduceAdd, Nat.reduceMul, Nat.reduceLeDiff, Nat.reduceLT, Nat.reduceSub, Nat.reduceBEq, Sc.ds, List.map_cons, List.map_nil, h0, h2, h4, h5, g2, g5, g9, o2, o5, o9]
  refine mutOps_intro (c4.ds s) [pI vp] (by rw [hc4, hvp]; exact num_at hs lc3) (by rfl) ?_
  simp only [↓evP, evB, stB, reduceIte, reduceCtorEq, Nat.reduceEqDiff, Nat.reduceAdd, Nat.reduceMul, Nat.reduceLeDiff, Nat.reduceLT, Nat.reduceSub, Nat.reduceBEq, Sc.ds, List.map_cons, List.map_nil, h0, h2, h4, h5, g2, g5, g9, o2, o5, o9]
  refine mutOps_intro (c5.ds s) [] (by rw [hc5]; exact must_at [32, 35] hs (by decide) lc4) (by rfl) ?_
  simp only [↓evP, evB, stB, reduceIte, reduceCtorEq, Nat.reduceEqDiff, Nat.reduceAdd, Nat.reduceMul, Nat.reduceLeDiff, Nat.reduceLT, Nat.reduceSub, Nat.reduceBEq, Sc.ds, List.map_cons, List.map_nil, h0, h2, h4, h5, g2, g5, g9, o2, o5, o9]
  refine mutOps_intro (c6.ds s) [pI vs] (by rw [hc6, hvs]; exact num_at hs lc5) (by rfl) ?_
  simp only [↓evP, evB, stB, reduceIte, reduceCtorEq, Nat.reduceEqDiff, Nat.reduceAdd, Nat.reduceMul, Nat.reduceLeDiff, Nat.reduceLT, Nat.reduceSub, Nat.reduceBEq, Sc.ds, List.map_cons, List.map_nil, h0, h2, h4, h5, g2, g5, g9, o2, o5, o9]
  have bad1 : finS s.data.toList (c6, E) = none → ∀ st, st.res prk16 = some [Ev.zero.pa, pI 8] → Q .ret st := fun h st a => hQ st (by rw [h]; exact a)
  cases hb : c6.bad with
  | true =>
    have hf : finS s.data.toList (c6, E) = none := by unfold finS; rw [if_pos (.inl hb)]
    simp only [↓evP, evB, stB, reduceIte, reduceCtorEq, Nat.reduceEqDiff, Nat.reduceAdd, Nat.reduceMul, Nat.reduceLeDiff, Nat.reduceLT, Nat.reduceSub, Nat.reduceBEq, Sc.ds, List.map_cons, List.map_nil, h0, h2, h4, h5, g2, g5, g9, o2, o5, o9, hb]
    refine bad1 hf _ ?_
    simp only [stB, reduceIte, reduceCtorEq, Nat.reduceEqDiff, Nat.reduceAdd, Nat.reduceMul, Nat.reduceLeDiff, Nat.reduceLT, Nat.reduceSub, Nat.reduceBEq, h2, g2, o2, prk16]
    rfl
  | false =>
  by_cases hlt : (c6.pl : Int) < (s.size : Int)
  · have hf : finS s.data.toList (c6, E) = none := by unfold finS; rw [if_pos (.inr (.inl (by show c6.pl < _; omega)))]
    simp only [↓evP, evB, stB, reduceIte, reduceCtorEq, Nat.reduceEqDiff, Nat.reduceAdd, Nat.reduceMul, Nat.reduceLeDiff, Nat.reduceLT, Nat.reduceSub, Nat.reduceBEq, Sc.ds, List.map_cons, List.map_nil, h0, h2, h4, h5, g2, g5, g9, o2, o5, o9, hb, hlt, decide_true]
    refine bad1 hf _ ?_
    simp only [stB, reduceIte, reduceCtorEq, Nat.reduceEqDiff, Nat.reduceAdd, Nat.reduceMul, Nat.reduceLeDiff, Nat.reduceLT, Nat.reduceSub, Nat.reduceBEq, h2, g2, o2, prk16]
    rfl
  simp only [↓evP, evB, stB, reduceIte, reduceCtorEq, Nat.reduceEqDiff, Nat.reduceAdd, Nat.reduceMul, Nat.reduceLeDiff, Nat.reduceLT, Nat.reduceSub, Nat.reduceBEq, Sc.ds, List.map_cons, List.map_nil, h0, h2, h4, h5, g2, g5, g9, o2, o5, o9, hb, hlt, decide_false]
  refine callOps_intro [pB E.valid] (by exact ⟨E, by rw [hE]; rfl, rfl⟩) ?_
  cases hv : E.valid with
  | false =>
    have hf : finS s.data.toList (c6, E) = none := by unfold finS; rw [if_pos (.inr (.inr hv))]
    simp only [↓evP, evB, stB, reduceIte, reduceCtorEq, Nat.reduceEqDiff, Nat.reduceAdd, Nat.reduceMul, Nat.reduceLeDiff, Nat.reduceLT, Nat.reduceSub, Nat.reduceBEq, Sc.ds, List.map_cons, List.map_nil, h0, h2, h4, h5, g2, g5, g9, o2, o5, o9, hb, hlt, decide_false]
    refine bad1 hf _ ?_
    simp only [stB, reduceIte, reduceCtorEq, Nat.reduceEqDiff, Nat.reduceAdd, Nat.reduceMul, Nat.reduceLeDiff, Nat.reduceLT, Nat.reduceSub, Nat.reduceBEq, h2, g2, o2, prk16]
    rfl
  | true =>
    have hf : finS s.data.toList (c6, E) = some E := by
      unfold finS
      rw [if_neg (by
        rintro (h | h | h)
        · rw [hb] at h; cases h
        · have h' : c6.pl < s.data.toList.length := h
          omega
        · rw [hv] at h; cases h)]
    simp only [↓evP, evB, stB, reduceIte, reduceCtorEq, Nat.reduceEqDiff, Nat.reduceAdd, Nat.reduceMul, Nat.reduceLeDiff, Nat.reduceLT, Nat.reduceSub, Nat.reduceBEq, Sc.ds, List.map_cons, List.map_nil, h0, h2, h4, h5, g2, g5, g9, o2, o5, o9, hb, hlt, decide_false]
    refine hQ _ ?_
    rw [hf]
    simp only [stB, reduceIte, reduceCtorEq, Nat.reduceEqDiff, Nat.reduceAdd, Nat.reduceMul, Nat.reduceLeDiff, Nat.reduceLT, Nat.reduceSub, Nat.reduceBEq, h2, g2, o2, prk16]
    rw [hE]
    rfl
theorem rf_mid {s : ByteArray} {c : Sc} {e : Ev} (hs : s.size ≤ 100000) (lc : c.pl ≤ s.data.toList.length) (Q : Exit → St → Prop)
    (hQ : ∀ st, RfAt s (midS s.data.toList c e).1 (midS s.data.toList c e).2 st → pwp env_rr pck16c0 (exS env_rr [] Q) st) (st : St) (ha : RfAt s c e st) : pwp env_rr pck16c5 (exS env_rr [.c pck16c0] Q) st := by
  obtain ⟨h0, h2, h4, h5, g2, g5, g9, o2, o5, o9⟩ := ha
  simp only [Ev.row, List.map_cons, List.map_nil] at o2 o5
  unfold pck16c5
  cases k0 : (e.kind == 0) with
  | true =>
    have hm : midS s.data.toList c e = (⟨c.pl, true⟩, e) := by unfold midS; rw [if_pos (beq_iff_eq.1 k0)]
    rw [hm] at hQ
    simp only [↓evP, evB, stB, reduceIte, reduceCtorEq, Nat.reduceEqDiff, Nat.reduceAdd, Nat.reduceMul, Nat.reduceLeDiff, Nat.reduceLT, Nat.reduceSub, Nat.reduceBEq, Sc.ds, List.map_cons, List.map_nil, h0, h2, h4, h5, g2, g5, g9, o2, o5, o9, k0]
    exact hQ _ ⟨by simp only [stB, reduceIte, reduceCtorEq, Nat.reduceEqDiff, Nat.reduceAdd, Nat.reduceMul, Nat.reduceLeDiff, Nat.reduceLT, Nat.reduceSub, Nat.reduceBEq, h0], by simp only [stB, reduceIte, reduceCtorEq, Nat.reduceEqDiff, Nat.reduceAdd, Nat.reduceMul, Nat.reduceLeDiff, Nat.reduceLT, Nat.reduceSub, Nat.reduceBEq, h2], by simp only [stB, reduceIte, reduceCtorEq, Nat.reduceEqDiff, Nat.reduceAdd, Nat.reduceMul, Nat.reduceLeDiff, Nat.reduceLT, Nat.reduceSub, Nat.reduceBEq, h4], by simp only [stB, reduceIte, reduceCtorEq, Nat.reduceEqDiff, Nat.reduceAdd, Nat.reduceMul, Nat.reduceLeDiff, Nat.reduceLT, Nat.reduceSub, Nat.reduceBEq, h5], by simp only [stB, reduceIte, reduceCtorEq, Nat.reduceEqDiff, Nat.reduceAdd, Nat.reduceMul, Nat.reduceLeDiff, Nat.reduceLT, Nat.reduceSub, Nat.reduceBEq, g2], by simp only [stB, reduceIte, reduceCtorEq, Nat.reduceEqDiff, Nat.reduceAdd, Nat.reduceMul, Nat.reduceLeDiff, Nat.reduceLT, Nat.reduceSub, Nat.reduceBEq, g5], by simp only [stB, reduceIte, reduceCtorEq, Nat.reduceEqDiff, Nat.reduceAdd, Nat.reduceMul, Nat.reduceLeDiff, Nat.reduceLT, Nat.reduceSub, Nat.reduceBEq, g9], by simp only [stB, reduceIte, reduceCtorEq, Nat.reduceEqDiff, Nat.reduceAdd, Nat.reduceMul, Nat.reduceLeDiff, Nat.reduceLT, Nat.reduceSub, Nat.reduceBEq, o2]; rfl, by simp only [stB, reduceIte, reduceCtorEq, Nat.reduceEqDiff, Nat.reduceAdd, Nat.reduceMul, Nat.reduceLeDiff, Nat.reduceLT, Nat.reduceSub, Nat.reduceBEq, o5]; rfl, by simp only [stB, reduceIte, reduceCtorEq, Nat.reduceEqDiff, Nat.reduceAdd, Nat.reduceMul, Nat.reduceLeDiff, Nat.reduceLT, Nat.reduceSub, Nat.reduceBEq, o9, Sc.ds, List.map_cons, List.map_nil]⟩
  | false =>
  have n0 := beq_eq_false_iff_ne.1 k0
  cases k14 : (e.kind == 14) with
  | true =>
    obtain ⟨c1, hc1⟩ : ∃ x : Sc, x = mustS s.data.toList c [103] := ⟨_, rfl⟩
    have lc1 : c1.pl ≤ s.data.toList.length := by rw [hc1]; exact mustS_le lc
    obtain ⟨vk, hvk⟩ : ∃ x : Int, x = numV s.data.toList c1 := ⟨_, rfl⟩
    obtain ⟨c2, hc2⟩ : ∃ x : Sc, x = numS s.data.toList c1 := ⟨_, rfl⟩
    have lc2 : c2.pl ≤ s.data.toList.length := by rw [hc2]; exact numS_le lc1
    have hm : midS s.data.toList c e = (c2, { e with k := vk }) := by unfold midS; rw [if_neg n0, if_pos (beq_iff_eq.1 k14), hvk, hc2, hc1]
    rw [hm] at hQ
    simp only [↓evP, evB, stB, reduceIte, reduceCtorEq, Nat.reduceEqDiff, Nat.reduceAdd, Nat.reduceMul, Nat.reduceLeDiff, Nat.reduceLT, Nat.reduceSub, Nat.reduceBEq, Sc.ds, List.map_cons, List.map_nil, h0, h2, h4, h5, g2, g5, g9, o2, o5, o9, k0, k14, pck16c4]
    refine mutOps_intro (c1.ds s) [] (by rw [hc1]; exact must_at [103] hs (by decide) lc) (by rfl) ?_
    simp only [↓evP, evB, stB, reduceIte, reduceCtorEq, Nat.reduceEqDiff, Nat.reduceAdd, Nat.reduceMul, Nat.reduceLeDiff, Nat.reduceLT, Nat.reduceSub, Nat.reduceBEq, Sc.ds, List.map_cons, List.map_nil, h0, h2, h4, h5, g2, g5, g9, o2, o5, o9]
    refine mutOps_intro (c2.ds s) [pI vk] (by rw [hc2, hvk]; exact num_at hs lc1) (by rfl) ?_
    simp only [↓evP, evB, stB, reduceIte, reduceCtorEq, Nat.reduceEqDiff, Nat.reduceAdd, Nat.reduceMul, Nat.reduceLeDiff, Nat.reduceLT, Nat.reduceSub, Nat.reduceBEq, Sc.ds, List.map_cons, List.map_nil, h0, h2, h4, h5, g2, g5, g9, o2, o5, o9]
    exact hQ _ ⟨by simp only [stB, reduceIte, reduceCtorEq, Nat.reduceEqDiff, Nat.reduceAdd, Nat.reduceMul, Nat.reduceLeDiff, Nat.reduceLT, Nat.reduceSub, Nat.reduceBEq, h0], by simp only [stB, reduceIte, reduceCtorEq, Nat.reduceEqDiff, Nat.reduceAdd, Nat.reduceMul, Nat.reduceLeDiff, Nat.reduceLT, Nat.reduceSub, Nat.reduceBEq, h2], by simp only [stB, reduceIte, reduceCtorEq, Nat.reduceEqDiff, Nat.reduceAdd, Nat.reduceMul, Nat.reduceLeDiff, Nat.reduceLT, Nat.reduceSub, Nat.reduceBEq, h4], by simp only [stB, reduceIte, reduceCtorEq, Nat.reduceEqDiff, Nat.reduceAdd, Nat.reduceMul, Nat.reduceLeDiff, Nat.reduceLT, Nat.reduceSub, Nat.reduceBEq, h5], by simp only [stB, reduceIte, reduceCtorEq, Nat.reduceEqDiff, Nat.reduceAdd, Nat.reduceMul, Nat.reduceLeDiff, Nat.reduceLT, Nat.reduceSub, Nat.reduceBEq, g2], by simp only [stB, reduceIte, reduceCtorEq, Nat.reduceEqDiff, Nat.reduceAdd, Nat.reduceMul, Nat.reduceLeDiff, Nat.reduceLT, Nat.reduceSub, Nat.reduceBEq, g5], by simp only [stB, reduceIte, reduceCtorEq, Nat.reduceEqDiff, Nat.reduceAdd, Nat.reduceMul, Nat.reduceLeDiff, Nat.reduceLT, Nat.reduceSub, Nat.reduceBEq, g9], by simp only [stB, reduceIte, reduceCtorEq, Nat.reduceEqDiff, Nat.reduceAdd, Nat.reduceMul, Nat.reduceLeDiff, Nat.reduceLT, Nat.reduceSub, Nat.reduceBEq, o2]; rfl, by simp only [stB, reduceIte, reduceCtorEq, Nat.reduceEqDiff, Nat.reduceAdd, Nat.reduceMul, Nat.reduceLeDiff, Nat.reduceLT, Nat.reduceSub, Nat.reduceBEq, o5]; rfl, by simp only [stB, reduceIte, reduceCtorEq, Nat.reduceEqDiff, Nat.reduceAdd, Nat.reduceMul, Nat.reduceLeDiff, Nat.reduceLT, Nat.reduceSub, Nat.reduceBEq, o9, Sc.ds, List.map_cons, List.map_nil]⟩
  | false =>
  have n14 := beq_eq_false_iff_ne.1 k14
  cases hc : chanB e.kind with
  | true =>
    obtain ⟨vo, hvo⟩ : ∃ x : Int, x = numV s.data.toList c := ⟨_, rfl⟩
    obtain ⟨c1, hc1⟩ : ∃ x : Sc, x = numS s.data.toList c := ⟨_, rfl⟩
    have lc1 : c1.pl ≤ s.data.toList.length := by rw [hc1]; exact numS_le lc
    obtain ⟨c2, hc2⟩ : ∃ x : Sc, x = mustS s.data.toList c1 [32] := ⟨_, rfl⟩
    have lc2 : c2.pl ≤ s.data.toList.length := by rw [hc2]; exact mustS_le lc1
    obtain ⟨vk, hvk⟩ : ∃ x : Int, x = numV s.data.toList c2 := ⟨_, rfl⟩
    obtain ⟨c3, hc3⟩ : ∃ x : Sc, x = numS s.data.toList c2 := ⟨_, rfl⟩
    have lc3 : c3.pl ≤ s.data.toList.length := by rw [hc3]; exact numS_le lc2
    obtain ⟨c4, hc4⟩ : ∃ x : Sc, x = mustS s.data.toList c3 [47] := ⟨_, rfl⟩
    have lc4 : c4.pl ≤ s.data.toList.length := by rw [hc4]; exact mustS_le lc3
    obtain ⟨vn, hvn⟩ : ∃ x : Int, x = numV s.data.toList c4 := ⟨_, rfl⟩
    obtain ⟨c5, hc5⟩ : ∃ x : Sc, x = numS s.data.toList c4 := ⟨_, rfl⟩
    have lc5 : c5.pl ≤ s.data.toList.length := by rw [hc5]; exact numS_le lc4
    have hm : midS s.data.toList c e = (c5, { e with obj := vo, k := vk, n := vn }) := by unfold midS; rw [if_neg n0, if_neg n14, if_pos hc, hvn, hvk, hvo, hc5, hc4, hc3, hc2, hc1]
    rw [hm] at hQ
    simp only [↓evP, evB, stB, reduceIte, reduceCtorEq, Nat.reduceEqDiff, Nat.reduceAdd, Nat.reduceMul, Nat.reduceLeDiff, Nat.reduceLT, Nat.reduceSub, Nat.reduceBEq, Sc.ds, List.map_cons, List.map_nil, h0, h2, h4, h5, g2, g5, g9, o2, o5, o9, k0, k14, pck16c4, pck16c3]
    refine callOps_intro [pB (chanB e.kind)] (by exact ⟨e.kind, rfl, rfl⟩) ?_
    simp only [↓evP, evB, stB, reduceIte, reduceCtorEq, Nat.reduceEqDiff, Nat.reduceAdd, Nat.reduceMul, Nat.reduceLeDiff, Nat.reduceLT, Nat.reduceSub, Nat.reduceBEq, Sc.ds, List.map_cons, List.map_nil, h0, h2, h4, h5, g2, g5, g9, o2, o5, o9, hc, pck16c1]
    refine mutOps_intro (c1.ds s) [pI vo] (by rw [hc1, hvo]; exact num_at hs lc) (by rfl) ?_
    simp only [↓evP, evB, stB, reduceIte, reduceCtorEq, Nat.reduceEqDiff, Nat.reduceAdd, Nat.reduceMul, Nat.reduceLeDiff, Nat.reduceLT, Nat.reduceSub, Nat.reduceBEq, Sc.ds, List.map_cons, List.map_nil, h0, h2, h4, h5, g2, g5, g9, o2, o5, o9]
    refine mutOps_intro (c2.ds s) [] (by rw [hc2]; exact must_at [32] hs (by decide) lc1) (by rfl) ?_
    simp only [↓evP, evB, stB, reduceIte, reduceCtorEq, Nat.reduceEqDiff, Nat.reduceAdd, Nat.reduceMul, Nat.reduceLeDiff, Nat.reduceLT, Nat.reduceSub, Nat.reduceBEq, Sc.ds, List.map_cons, List.map_nil, h0, h2, h4, h5, g2, g5, g9, o2, o5, o9]
    refine mutOps_intro (c3.ds s) [pI vk] (by rw [hc3, hvk]; exact num_at hs lc2) (by rfl) ?_
    simp only [↓evP, evB, stB, reduceIte, reduceCtorEq, Nat.reduceEqDiff, Nat.reduceAdd, Nat.reduceMul, Nat.reduceLeDiff, Nat.reduceLT, Nat.reduceSub, Nat.reduceBEq, Sc.ds, List.map_cons, List.map_nil, h0, h2, h4, h5, g2, g5, g9, o2, o5, o9]
    refine mutOps_intro (c4.ds s) [] (by rw [hc4]; exact must_at [47] hs (by decide) lc3) (by rfl) ?_
    simp only [↓evP, evB, stB, reduceIte, reduceCtorEq, Nat.reduceEqDiff, Nat.reduceAdd, Nat.reduceMul, Nat.reduceLeDiff, Nat.reduceLT, Nat.reduceSub, Nat.reduceBEq, Sc.ds, List.map_cons, List.map_nil, h0, h2, h4, h5, g2, g5, g9, o2, o5, o9]
    refine mutOps_intro (c5.ds s) [pI vn] (by rw [hc5, hvn]; exact num_at hs lc4) (by rfl) ?_
    simp only [↓evP, evB, stB, reduceIte, reduceCtorEq, Nat.reduceEqDiff, Nat.reduceAdd, Nat.reduceMul, Nat.reduceLeDiff, Nat.reduceLT, Nat.reduceSub, Nat.reduceBEq, Sc.ds, List.map_cons, List.map_nil, h0, h2, h4, h5, g2, g5, g9, o2, o5, o9]
    exact hQ _ ⟨by simp only [stB, reduceIte, reduceCtorEq, Nat.reduceEqDiff, Nat.reduceAdd, Nat.reduceMul, Nat.reduceLeDiff, Nat.reduceLT, Nat.reduceSub, Nat.reduceBEq, h0], by simp only [stB, reduceIte, reduceCtorEq, Nat.reduceEqDiff, Nat.reduceAdd, Nat.reduceMul, Nat.reduceLeDiff, Nat.reduceLT, Nat.reduceSub, Nat.reduceBEq, h2], by simp only [stB, reduceIte, reduceCtorEq, Nat.reduceEqDiff, Nat.reduceAdd, Nat.reduceMul, Nat.reduceLeDiff, Nat.reduceLT, Nat.reduceSub, Nat.reduceBEq, h4], by simp only [stB, reduceIte, reduceCtorEq, Nat.reduceEqDiff, Nat.reduceAdd, Nat.reduceMul, Nat.reduceLeDiff, Nat.reduceLT, Nat.reduceSub, Nat.reduceBEq, h5], by simp only [stB, reduceIte, reduceCtorEq, Nat.reduceEqDiff, Nat.reduceAdd, Nat.reduceMul, Nat.reduceLeDiff, Nat.reduceLT, Nat.reduceSub, Nat.reduceBEq, g2], by simp only [stB, reduceIte, reduceCtorEq, Nat.reduceEqDiff, Nat.reduceAdd, Nat.reduceMul, Nat.reduceLeDiff, Nat.reduceLT, Nat.reduceSub, Nat.reduceBEq, g5], by simp only [stB, reduceIte, reduceCtorEq, Nat.reduceEqDiff, Nat.reduceAdd, Nat.reduceMul, Nat.reduceLeDiff, Nat.reduceLT, Nat.reduceSub, Nat.reduceBEq, g9], by simp only [stB, reduceIte, reduceCtorEq, Nat.reduceEqDiff, Nat.reduceAdd, Nat.reduceMul, Nat.reduceLeDiff, Nat.reduceLT, Nat.reduceSub, Nat.reduceBEq, o2]; rfl, by simp only [stB, reduceIte, reduceCtorEq, Nat.reduceEqDiff, Nat.reduceAdd, Nat.reduceMul, Nat.reduceLeDiff, Nat.reduceLT, Nat.reduceSub, Nat.reduceBEq, o5]; rfl, by simp only [stB, reduceIte, reduceCtorEq, Nat.reduceEqDiff, Nat.reduceAdd, Nat.reduceMul, Nat.reduceLeDiff, Nat.reduceLT, Nat.reduceSub, Nat.reduceBEq, o9, Sc.ds, List.map_cons, List.map_nil]⟩
  | false =>
    obtain ⟨vo, hvo⟩ : ∃ x : Int, x = numV s.data.toList c := ⟨_, rfl⟩
    obtain ⟨c1, hc1⟩ : ∃ x : Sc, x = numS s.data.toList c := ⟨_, rfl⟩
    have lc1 : c1.pl ≤ s.data.toList.length := by rw [hc1]; exact numS_le lc
    obtain ⟨c2, hc2⟩ : ∃ x : Sc, x = mustS s.data.toList c1 [46] := ⟨_, rfl⟩
    have lc2 : c2.pl ≤ s.data.toList.length := by rw [hc2]; exact mustS_le lc1
    obtain ⟨vq, hvq⟩ : ∃ x : Int, x = numV s.data.toList c2 := ⟨_, rfl⟩
    obtain ⟨c3, hc3⟩ : ∃ x : Sc, x = numS s.data.toList c2 := ⟨_, rfl⟩
    have lc3 : c3.pl ≤ s.data.toList.length := by rw [hc3]; exact numS_le lc2
    have hm : midS s.data.toList c e = (c3, { e with obj := vo, off := vq }) := by unfold midS; rw [if_neg n0, if_neg n14, if_neg (by rw [hc]; simp), hvq, hvo, hc3, hc2, hc1]
    rw [hm] at hQ
    simp only [↓evP, evB, stB, reduceIte, reduceCtorEq, Nat.reduceEqDiff, Nat.reduceAdd, Nat.reduceMul, Nat.reduceLeDiff, Nat.reduceLT, Nat.reduceSub, Nat.reduceBEq, Sc.ds, List.map_cons, List.map_nil, h0, h2, h4, h5, g2, g5, g9, o2, o5, o9, k0, k14, pck16c4, pck16c3]
    refine callOps_intro [pB (chanB e.kind)] (by exact ⟨e.kind, rfl, rfl⟩) ?_
    simp only [↓evP, evB, stB, reduceIte, reduceCtorEq, Nat.reduceEqDiff, Nat.reduceAdd, Nat.reduceMul, Nat.reduceLeDiff, Nat.reduceLT, Nat.reduceSub, Nat.reduceBEq, Sc.ds, List.map_cons, List.map_nil, h0, h2, h4, h5, g2, g5, g9, o2, o5, o9, hc, pck16c2]
    refine mutOps_intro (c1.ds s) [pI vo] (by rw [hc1, hvo]; exact num_at hs lc) (by rfl) ?_
    simp only [↓evP, evB, stB, reduceIte, reduceCtorEq, Nat.reduceEqDiff, Nat.reduceAdd, Nat.reduceMul, Nat.reduceLeDiff, Nat.reduceLT, Nat.reduceSub, Nat.reduceBEq, Sc.ds, List.map_cons, List.map_nil, h0, h2, h4, h5, g2, g5, g9, o2, o5, o9]
    refine mutOps_intro (c2.ds s) [] (by rw [hc2]; exact must_at [46] hs (by decide) lc1) (by rfl) ?_
    simp only [↓evP, evB, stB, reduceIte, reduceCtorEq, Nat.reduceEqDiff, Nat.reduceAdd, Nat.reduceMul, Nat.reduceLeDiff, Nat.reduceLT, Nat.reduceSub, Nat.reduceBEq, Sc.ds, List.map_cons, List.map_nil, h0, h2, h4, h5, g2, g5, g9, o2, o5, o9]
    refine mutOps_intro (c3.ds s) [pI vq] (by rw [hc3, hvq]; exact num_at hs lc2) (by rfl) ?_
    simp only [↓evP, evB, stB, reduceIte, reduceCtorEq, Nat.reduceEqDiff, Nat.reduceAdd, Nat.reduceMul, Nat.reduceLeDiff, Nat.reduceLT, Nat.reduceSub, Nat.reduceBEq, Sc.ds, List.map_cons, List.map_nil, h0, h2, h4, h5, g2, g5, g9, o2, o5, o9]
    exact hQ _ ⟨by simp only [stB, reduceIte, reduceCtorEq, Nat.reduceEqDiff, Nat.reduceAdd, Nat.reduceMul, Nat.reduceLeDiff, Nat.reduceLT, Nat.reduceSub, Nat.reduceBEq, h0], by simp only [stB, reduceIte, reduceCtorEq, Nat.reduceEqDiff, Nat.reduceAdd, Nat.reduceMul, Nat.reduceLeDiff, Nat.reduceLT, Nat.reduceSub, Nat.reduceBEq, h2], by simp only [stB, reduceIte, reduceCtorEq, Nat.reduceEqDiff, Nat.reduceAdd, Nat.reduceMul, Nat.reduceLeDiff, Nat.reduceLT, Nat.reduceSub, Nat.reduceBEq, h4], by simp only [stB, reduceIte, reduceCtorEq, Nat.reduceEqDiff, Nat.reduceAdd, Nat.reduceMul, Nat.reduceLeDiff, Nat.reduceLT, Nat.reduceSub, Nat.reduceBEq, h5], by simp only [stB, reduceIte, reduceCtorEq, Nat.reduceEqDiff, Nat.reduceAdd, Nat.reduceMul, Nat.reduceLeDiff, Nat.reduceLT, Nat.reduceSub, Nat.reduceBEq, g2], by simp only [stB, reduceIte, reduceCtorEq, Nat.reduceEqDiff, Nat.reduceAdd, Nat.reduceMul, Nat.reduceLeDiff, Nat.reduceLT, Nat.reduceSub, Nat.reduceBEq, g5], by simp only [stB, reduceIte, reduceCtorEq, Nat.reduceEqDiff, Nat.reduceAdd, Nat.reduceMul, Nat.reduceLeDiff, Nat.reduceLT, Nat.reduceSub, Nat.reduceBEq, g9], by simp only [stB, reduceIte, reduceCtorEq, Nat.reduceEqDiff, Nat.reduceAdd, Nat.reduceMul, Nat.reduceLeDiff, Nat.reduceLT, Nat.reduceSub, Nat.reduceBEq, o2]; rfl, by simp only [stB, reduceIte, reduceCtorEq, Nat.reduceEqDiff, Nat.reduceAdd, Nat.reduceMul, Nat.reduceLeDiff, Nat.reduceLT, Nat.reduceSub, Nat.reduceBEq, o5]; rfl, by simp only [stB, reduceIte, reduceCtorEq, Nat.reduceEqDiff, Nat.reduceAdd, Nat.reduceMul, Nat.reduceLeDiff, Nat.reduceLT, Nat.reduceSub, Nat.reduceBEq, o9, Sc.ds, List.map_cons, List.map_nil]⟩
theorem kindS_stop {L : List UInt8} {k : Nat} {c : Sc} (h : okW L c (kn k ++ [32]) = false) {f : Nat} : kindS L (f + 1) k c = kindS L f (k + 1) c := by
  rw [kindS, if_neg (by rw [h]; simp)]
theorem kindS_found {L : List UInt8} {k : Nat} {c : Sc} (h : okW L c (kn k ++ [32]) = true) {f : Nat} : kindS L (f + 1) k c = (wordS L c (kn k ++ [32]), k) := by
  rw [kindS, if_pos h]
def R_rread (ps rs : List Pa) : Prop := ∃ s : ByteArray, ps = [pS s] ∧ s.size ≤ 100000 ∧ rs = readPa (refE s.data.toList)
theorem s_rread : Spec Tryd.prog 16 R_rread := by
  refine spk16 env_rr_ok ?_
  rintro ps rs ⟨s, rfl, hs, rfl⟩
  refine ⟨by simp, ?_⟩
  have lz : (⟨0, false⟩ : Sc).pl ≤ s.data.toList.length := Nat.zero_le _
  obtain ⟨c1, hc1⟩ : ∃ x : Sc, x = mustS s.data.toList ⟨0, false⟩ [103] := ⟨_, rfl⟩
  have lc1 : c1.pl ≤ s.data.toList.length := by rw [hc1]; exact mustS_le lz
  obtain ⟨vg, hvg⟩ : ∃ x : Int, x = numV s.data.toList c1 := ⟨_, rfl⟩
  obtain ⟨c2, hc2⟩ : ∃ x : Sc, x = numS s.data.toList c1 := ⟨_, rfl⟩
  have lc2 : c2.pl ≤ s.data.toList.length := by rw [hc2]; exact numS_le lc1
  obtain ⟨c3, hc3⟩ : ∃ x : Sc, x = mustS s.data.toList c2 [32] := ⟨_, rfl⟩
  have lc3 : c3.pl ≤ s.data.toList.length := by rw [hc3]; exact mustS_le lc2
  have hfr : frontS s.data.toList = kindS s.data.toList 20 1 c3 := by unfold frontS; rw [hc3, hc2, hc1]
  have hre : refE s.data.toList = finS s.data.toList (endS s.data.toList (midS s.data.toList (frontS s.data.toList).1 { Ev.zero with g := vg, kind := (frontS s.data.toList).2 }).1 (midS s.data.toList (frontS s.data.toList).1 { Ev.zero with g := vg, kind := (frontS s.data.toList).2 }).2) := by unfold refE; rw [hvg, hc1]
  rw [hre, hfr]
  clear hre hfr
  unfold pck16
  refine pwp_start ?_
  simp only [↓evP, evB, stB, reduceIte, reduceCtorEq, Nat.reduceEqDiff, Nat.reduceAdd, Nat.reduceMul, Nat.reduceLeDiff, Nat.reduceLT, Nat.reduceSub, Nat.reduceBEq, Sc.ds, List.map_cons, List.map_nil]
  refine mutOps_intro (c1.ds s) [] (by rw [hc1]; exact must_at (c := ⟨0, false⟩) [103] hs (by decide) lz) (by rfl) ?_
  simp only [↓evP, evB, stB, reduceIte, reduceCtorEq, Nat.reduceEqDiff, Nat.reduceAdd, Nat.reduceMul, Nat.reduceLeDiff, Nat.reduceLT, Nat.reduceSub, Nat.reduceBEq, Sc.ds, List.map_cons, List.map_nil]
  refine mutOps_intro (c2.ds s) [pI vg] (by rw [hc2, hvg]; exact num_at hs lc1) (by rfl) ?_
  simp only [↓evP, evB, stB, reduceIte, reduceCtorEq, Nat.reduceEqDiff, Nat.reduceAdd, Nat.reduceMul, Nat.reduceLeDiff, Nat.reduceLT, Nat.reduceSub, Nat.reduceBEq, Sc.ds, List.map_cons, List.map_nil]
  refine mutOps_intro (c3.ds s) [] (by rw [hc3]; exact must_at [32] hs (by decide) lc2) (by rfl) ?_
  simp only [↓evP, evB, stB, reduceIte, reduceCtorEq, Nat.reduceEqDiff, Nat.reduceAdd, Nat.reduceMul, Nat.reduceLeDiff, Nat.reduceLT, Nat.reduceSub, Nat.reduceBEq, Sc.ds, List.map_cons, List.map_nil]
  refine pwp_loopW msk16_0 [5, 9] (fun m st => ∃ (k kd : Nat) (c : Sc), m = 22 - k ∧ 1 ≤ k ∧ k ≤ 21 ∧ c.pl ≤ s.data.toList.length ∧ ((kd = 0 ∧ kindS s.data.toList 20 1 c3 = kindS s.data.toList (21 - k) k c) ∨ (kd ≠ 0 ∧ kindS s.data.toList 20 1 c3 = (c, kd))) ∧ st.sl 6 = aI k ∧ st.gen 5 = 1 ∧ st.gen 9 = 1 ∧ st.ob 5 = .cells (({ Ev.zero with g := vg, kind := kd } : Ev).row.map .d) ∧ st.ob 9 = .cells [.d (.sc (.string s)), .d (.sc (.int .i64 c.pl)), .d (.sc (.bool c.bad))]) 21 ?_ ?_
  · exact ⟨1, 0, c3, rfl, by omega, by omega, lc3, .inl ⟨rfl, rfl⟩, by simp only [stB, reduceIte, reduceCtorEq, Nat.reduceEqDiff, Nat.reduceAdd, Nat.reduceMul, Nat.reduceLeDiff, Nat.reduceLT, Nat.reduceSub, Nat.reduceBEq]; rfl, by simp only [stB, reduceIte, reduceCtorEq, Nat.reduceEqDiff, Nat.reduceAdd, Nat.reduceMul, Nat.reduceLeDiff, Nat.reduceLT, Nat.reduceSub, Nat.reduceBEq], by simp only [stB, reduceIte, reduceCtorEq, Nat.reduceEqDiff, Nat.reduceAdd, Nat.reduceMul, Nat.reduceLeDiff, Nat.reduceLT, Nat.reduceSub, Nat.reduceBEq], by simp only [stB, reduceIte, reduceCtorEq, Nat.reduceEqDiff, Nat.reduceAdd, Nat.reduceMul, Nat.reduceLeDiff, Nat.reduceLT, Nat.reduceSub, Nat.reduceBEq]; rfl, by simp only [stB, reduceIte, reduceCtorEq, Nat.reduceEqDiff, Nat.reduceAdd, Nat.reduceMul, Nat.reduceLeDiff, Nat.reduceLT, Nat.reduceSub, Nat.reduceBEq, Sc.ds, List.map_cons, List.map_nil]⟩
  · rintro m j ⟨k, kd, c, rfl, hk1, hk, lc, hcase, h6, g5, g9, o5, o9⟩
    simp only [stB, reduceIte, reduceCtorEq, Nat.reduceEqDiff, Nat.reduceAdd, Nat.reduceMul, Nat.reduceLeDiff, Nat.reduceLT, Nat.reduceSub, Nat.reduceBEq, Ev.row, List.map_cons, List.map_nil, Ev.zero] at h6 g5 g9 o5 o9
    have leave : kindS s.data.toList 20 1 c3 = (c, kd) → ∀ st, RfAt s c { Ev.zero with g := vg, kind := kd } st → pwp env_rr pck16c6 (exS env_rr [] (fun e s_1 => (e = .normal ∨ e = .ret) ∧ s_1.res prk16 = some (readPa (finS s.data.toList (endS s.data.toList (midS s.data.toList (kindS s.data.toList 20 1 c3).1 { Ev.zero with g := vg, kind := (kindS s.data.toList 20 1 c3).2 }).1 (midS s.data.toList (kindS s.data.toList 20 1 c3).1 { Ev.zero with g := vg, kind := (kindS s.data.toList 20 1 c3).2 }).2))))) st := fun hq st hst => by
      rw [hq]
      have hml : (midS s.data.toList c { Ev.zero with g := vg, kind := kd }).1.pl ≤ s.data.toList.length := by
        unfold midS
        split
        · exact lc
        · split
          · exact numS_le (mustS_le lc)
          · split
            · exact numS_le (mustS_le (numS_le (mustS_le (numS_le lc))))
            · exact numS_le (mustS_le (numS_le lc))
      unfold pck16c6
      simp only [↓evP, evB, stB, reduceIte, reduceCtorEq, Nat.reduceEqDiff, Nat.reduceAdd, Nat.reduceMul, Nat.reduceLeDiff, Nat.reduceLT, Nat.reduceSub, Nat.reduceBEq]
      refine rf_mid hs lc _ (fun st' ha' => ?_) st hst
      exact rf_end hs hml _ (fun st2 h => ⟨.inr rfl, h⟩) st' ha'
    by_cases q20 : (k : Int) ≤ 20
    case neg =>
      have hq : kindS s.data.toList 20 1 c3 = (c, kd) := by
        rcases hcase with ⟨h1, h2⟩ | ⟨_, h2⟩
        · rw [h2, show 21 - k = 0 by omega, h1]; rfl
        · exact h2
      simp only [↓evP, evB, stB, reduceIte, reduceCtorEq, Nat.reduceEqDiff, Nat.reduceAdd, Nat.reduceMul, Nat.reduceLeDiff, Nat.reduceLT, Nat.reduceSub, Nat.reduceBEq, Sc.ds, List.map_cons, List.map_nil, h6, g5, g9, o5, o9, q20, decide_false]
      refine leave hq _ ⟨by simp only [stB, reduceIte, reduceCtorEq, Nat.reduceEqDiff, Nat.reduceAdd, Nat.reduceMul, Nat.reduceLeDiff, Nat.reduceLT, Nat.reduceSub, Nat.reduceBEq], by simp only [stB, reduceIte, reduceCtorEq, Nat.reduceEqDiff, Nat.reduceAdd, Nat.reduceMul, Nat.reduceLeDiff, Nat.reduceLT, Nat.reduceSub, Nat.reduceBEq], by simp only [stB, reduceIte, reduceCtorEq, Nat.reduceEqDiff, Nat.reduceAdd, Nat.reduceMul, Nat.reduceLeDiff, Nat.reduceLT, Nat.reduceSub, Nat.reduceBEq], by simp only [stB, reduceIte, reduceCtorEq, Nat.reduceEqDiff, Nat.reduceAdd, Nat.reduceMul, Nat.reduceLeDiff, Nat.reduceLT, Nat.reduceSub, Nat.reduceBEq], by simp only [stB, reduceIte, reduceCtorEq, Nat.reduceEqDiff, Nat.reduceAdd, Nat.reduceMul, Nat.reduceLeDiff, Nat.reduceLT, Nat.reduceSub, Nat.reduceBEq], by simp only [stB, reduceIte, reduceCtorEq, Nat.reduceEqDiff, Nat.reduceAdd, Nat.reduceMul, Nat.reduceLeDiff, Nat.reduceLT, Nat.reduceSub, Nat.reduceBEq, g5], by simp only [stB, reduceIte, reduceCtorEq, Nat.reduceEqDiff, Nat.reduceAdd, Nat.reduceMul, Nat.reduceLeDiff, Nat.reduceLT, Nat.reduceSub, Nat.reduceBEq, g9], by simp only [stB, reduceIte, reduceCtorEq, Nat.reduceEqDiff, Nat.reduceAdd, Nat.reduceMul, Nat.reduceLeDiff, Nat.reduceLT, Nat.reduceSub, Nat.reduceBEq]; rfl, by simp only [stB, reduceIte, reduceCtorEq, Nat.reduceEqDiff, Nat.reduceAdd, Nat.reduceMul, Nat.reduceLeDiff, Nat.reduceLT, Nat.reduceSub, Nat.reduceBEq, o5]; rfl, by simp only [stB, reduceIte, reduceCtorEq, Nat.reduceEqDiff, Nat.reduceAdd, Nat.reduceMul, Nat.reduceLeDiff, Nat.reduceLT, Nat.reduceSub, Nat.reduceBEq, o9]⟩
    cases qk : ((kd : Int) == 0) with
    | false =>
      have hne : kd ≠ 0 := by have := beq_eq_false_iff_ne.1 qk; omega
      have hq : kindS s.data.toList 20 1 c3 = (c, kd) := by
        rcases hcase with ⟨h1, _⟩ | ⟨_, h2⟩
        · exact absurd h1 hne
        · exact h2
      simp only [↓evP, evB, stB, reduceIte, reduceCtorEq, Nat.reduceEqDiff, Nat.reduceAdd, Nat.reduceMul, Nat.reduceLeDiff, Nat.reduceLT, Nat.reduceSub, Nat.reduceBEq, Sc.ds, List.map_cons, List.map_nil, h6, g5, g9, o5, o9, q20, qk, decide_true]
      refine leave hq _ ⟨by simp only [stB, reduceIte, reduceCtorEq, Nat.reduceEqDiff, Nat.reduceAdd, Nat.reduceMul, Nat.reduceLeDiff, Nat.reduceLT, Nat.reduceSub, Nat.reduceBEq], by simp only [stB, reduceIte, reduceCtorEq, Nat.reduceEqDiff, Nat.reduceAdd, Nat.reduceMul, Nat.reduceLeDiff, Nat.reduceLT, Nat.reduceSub, Nat.reduceBEq], by simp only [stB, reduceIte, reduceCtorEq, Nat.reduceEqDiff, Nat.reduceAdd, Nat.reduceMul, Nat.reduceLeDiff, Nat.reduceLT, Nat.reduceSub, Nat.reduceBEq], by simp only [stB, reduceIte, reduceCtorEq, Nat.reduceEqDiff, Nat.reduceAdd, Nat.reduceMul, Nat.reduceLeDiff, Nat.reduceLT, Nat.reduceSub, Nat.reduceBEq], by simp only [stB, reduceIte, reduceCtorEq, Nat.reduceEqDiff, Nat.reduceAdd, Nat.reduceMul, Nat.reduceLeDiff, Nat.reduceLT, Nat.reduceSub, Nat.reduceBEq], by simp only [stB, reduceIte, reduceCtorEq, Nat.reduceEqDiff, Nat.reduceAdd, Nat.reduceMul, Nat.reduceLeDiff, Nat.reduceLT, Nat.reduceSub, Nat.reduceBEq, g5], by simp only [stB, reduceIte, reduceCtorEq, Nat.reduceEqDiff, Nat.reduceAdd, Nat.reduceMul, Nat.reduceLeDiff, Nat.reduceLT, Nat.reduceSub, Nat.reduceBEq, g9], by simp only [stB, reduceIte, reduceCtorEq, Nat.reduceEqDiff, Nat.reduceAdd, Nat.reduceMul, Nat.reduceLeDiff, Nat.reduceLT, Nat.reduceSub, Nat.reduceBEq]; rfl, by simp only [stB, reduceIte, reduceCtorEq, Nat.reduceEqDiff, Nat.reduceAdd, Nat.reduceMul, Nat.reduceLeDiff, Nat.reduceLT, Nat.reduceSub, Nat.reduceBEq, o5]; rfl, by simp only [stB, reduceIte, reduceCtorEq, Nat.reduceEqDiff, Nat.reduceAdd, Nat.reduceMul, Nat.reduceLeDiff, Nat.reduceLT, Nat.reduceSub, Nat.reduceBEq, o9]⟩
    | true =>
      have hk0 : kd = 0 := by have := beq_iff_eq.1 qk; omega
      subst hk0
      have hq := hcase.resolve_right (fun h => h.1 rfl)
      have hkn : strB (kn (k : Int)) = kname k := strB_inj rfl
      have hkl := kn_le (k : Int)
      have hcat := cat_le (a := kn (k : Int)) (b := [32]) (by simp only [List.length_cons, List.length_nil]; omega)
      have hcat' : ((((strB (kn (k : Int))).size + (⟨#[32]⟩ : ByteArray).size : Nat)) : Int) ≤ 9223372036854775807 := hcat
      have happ : strB (kn (k : Int)) ++ (⟨#[32]⟩ : ByteArray) = strB (kn (k : Int) ++ [32]) := strB_append _ [32]
      have hwr := wrN (k := k) (by omega)
      simp only [↓evP, evB, stB, reduceIte, reduceCtorEq, Nat.reduceEqDiff, Nat.reduceAdd, Nat.reduceMul, Nat.reduceLeDiff, Nat.reduceLT, Nat.reduceSub, Nat.reduceBEq, Sc.ds, List.map_cons, List.map_nil, h6, g5, g9, o5, o9, q20, qk, decide_true]
      refine callOps_intro [pS (strB (kn (k : Int)))] (by exact ⟨k, rfl, strB (kn (k : Int)), rfl, hkn⟩) ?_
      simp only [↓evP, evB, stB, reduceIte, reduceCtorEq, Nat.reduceEqDiff, Nat.reduceAdd, Nat.reduceMul, Nat.reduceLeDiff, Nat.reduceLT, Nat.reduceSub, Nat.reduceBEq, Sc.ds, List.map_cons, List.map_nil, h6, g5, g9, o5, o9, hcat', happ]
      refine mutOps_intro ((wordS s.data.toList c (kn (k : Int) ++ [32])).ds s) [pB (okW s.data.toList c (kn (k : Int) ++ [32]))] (by exact word_at (kn (k : Int) ++ [32]) hs (by simp only [List.length_append, List.length_cons, List.length_nil]; omega) lc) (by rfl) ?_
      have hstep : 21 - k = (20 - k) + 1 := by omega
      cases hw : okW s.data.toList c (kn (k : Int) ++ [32]) with
      | true =>
        have hf : kindS s.data.toList 20 1 c3 = (wordS s.data.toList c (kn (k : Int) ++ [32]), k) := by rw [hq.2, hstep, kindS_found hw]
        simp only [↓evP, evB, stB, reduceIte, reduceCtorEq, Nat.reduceEqDiff, Nat.reduceAdd, Nat.reduceMul, Nat.reduceLeDiff, Nat.reduceLT, Nat.reduceSub, Nat.reduceBEq, Sc.ds, List.map_cons, List.map_nil, h6, g5, g9, o5, o9, hwr]
        exact ⟨_, by omega, (by repeat' (first | assumption | exact within_over.mpr trivial | exact Within.refl _ _ _ | (refine within_ap ?_ rfl rfl) | (refine within_ap0 ?_ rfl))), k + 1, k, wordS s.data.toList c (kn (k : Int) ++ [32]), rfl, by omega, by omega, wordS_le lc, .inr ⟨by omega, hf⟩, by simp only [stB, reduceIte, reduceCtorEq, Nat.reduceEqDiff, Nat.reduceAdd, Nat.reduceMul, Nat.reduceLeDiff, Nat.reduceLT, Nat.reduceSub, Nat.reduceBEq, h6, hwr], by simp only [stB, reduceIte, reduceCtorEq, Nat.reduceEqDiff, Nat.reduceAdd, Nat.reduceMul, Nat.reduceLeDiff, Nat.reduceLT, Nat.reduceSub, Nat.reduceBEq, g5], by simp only [stB, reduceIte, reduceCtorEq, Nat.reduceEqDiff, Nat.reduceAdd, Nat.reduceMul, Nat.reduceLeDiff, Nat.reduceLT, Nat.reduceSub, Nat.reduceBEq, g9], by simp only [stB, reduceIte, reduceCtorEq, Nat.reduceEqDiff, Nat.reduceAdd, Nat.reduceMul, Nat.reduceLeDiff, Nat.reduceLT, Nat.reduceSub, Nat.reduceBEq, o5, wrF_cells]; rfl, by simp only [stB, reduceIte, reduceCtorEq, Nat.reduceEqDiff, Nat.reduceAdd, Nat.reduceMul, Nat.reduceLeDiff, Nat.reduceLT, Nat.reduceSub, Nat.reduceBEq, o9, Sc.ds, List.map_cons, List.map_nil]⟩
      | false =>
        have hws : wordS s.data.toList c (kn (k : Int) ++ [32]) = c := by unfold wordS; rw [if_neg (by rw [hw]; simp)]
        rw [hws]
        simp only [↓evP, evB, stB, reduceIte, reduceCtorEq, Nat.reduceEqDiff, Nat.reduceAdd, Nat.reduceMul, Nat.reduceLeDiff, Nat.reduceLT, Nat.reduceSub, Nat.reduceBEq, Sc.ds, List.map_cons, List.map_nil, h6, g5, g9, o5, o9, hwr]
        exact ⟨_, by omega, (by repeat' (first | assumption | exact within_over.mpr trivial | exact Within.refl _ _ _ | (refine within_ap ?_ rfl rfl) | (refine within_ap0 ?_ rfl))), k + 1, 0, c, rfl, by omega, by omega, lc, .inl ⟨rfl, by rw [hq.2, hstep, kindS_stop hw]; congr 1; omega⟩, by simp only [stB, reduceIte, reduceCtorEq, Nat.reduceEqDiff, Nat.reduceAdd, Nat.reduceMul, Nat.reduceLeDiff, Nat.reduceLT, Nat.reduceSub, Nat.reduceBEq, h6, hwr], by simp only [stB, reduceIte, reduceCtorEq, Nat.reduceEqDiff, Nat.reduceAdd, Nat.reduceMul, Nat.reduceLeDiff, Nat.reduceLT, Nat.reduceSub, Nat.reduceBEq, g5], by simp only [stB, reduceIte, reduceCtorEq, Nat.reduceEqDiff, Nat.reduceAdd, Nat.reduceMul, Nat.reduceLeDiff, Nat.reduceLT, Nat.reduceSub, Nat.reduceBEq, g9], by simp only [stB, reduceIte, reduceCtorEq, Nat.reduceEqDiff, Nat.reduceAdd, Nat.reduceMul, Nat.reduceLeDiff, Nat.reduceLT, Nat.reduceSub, Nat.reduceBEq, o5]; rfl, by simp only [stB, reduceIte, reduceCtorEq, Nat.reduceEqDiff, Nat.reduceAdd, Nat.reduceMul, Nat.reduceLeDiff, Nat.reduceLT, Nat.reduceSub, Nat.reduceBEq, o9, Sc.ds, List.map_cons, List.map_nil]⟩
end Go.Proofs.YthnjbnfnljjepabDoor
end
section
set_option linter.unusedSimpArgs false
set_option linter.unusedVariables false
namespace Go.Proofs.YthnjbnfnljjepabDoor
open Go Go.RowKit
set_option maxRecDepth 100000
set_option maxHeartbeats 4000000

theorem scanN_zero {l : List UInt8} {n m : Nat} (h : scanN l n = (0, m)) : m = n := by
  cases l with
  | nil => cases h; rfl
  | cons b r =>
    unfold scanN at h
    split at h
    · simp at h
    · cases h; rfl
theorem dig_eq {b : UInt8} (h : 48 ≤ b.toNat ∧ b.toNat ≤ 57) : UInt8.ofNat (48 + (b.toNat - 48)) = b := UInt8.toNat_inj.1 (by rw [dg_toNat (by omega)]; omega)
theorem scan_pos : ∀ (l : List UInt8) (a k m : Nat), 0 < a → scanN l a = (k, m) → Lib.decDigits m = Lib.decDigits a ++ l.take k
  | [], a, k, m, _, h => by cases h; simp
  | b :: r, a, k, m, ha, h => by
    unfold scanN at h
    split at h
    · rename_i hd
      obtain ⟨k', hk'⟩ : ∃ k', k' = (scanN r (10 * a + (b.toNat - 48))).1 := ⟨_, rfl⟩
      have h1 : k = k' + 1 := by rw [hk']; exact (congrArg Prod.fst h).symm
      have h2 : (scanN r (10 * a + (b.toNat - 48))).2 = m := congrArg Prod.snd h
      have ih := scan_pos r (10 * a + (b.toNat - 48)) k' m (by omega) (by rw [hk', ← h2])
      rw [ih, decDigits_big (by omega), h1, List.take_succ_cons, show (10 * a + (b.toNat - 48)) / 10 = a by omega, show (10 * a + (b.toNat - 48)) % 10 = b.toNat - 48 by omega, dig_eq ⟨hd.1, hd.2.1⟩]
      simp
    · cases h; simp
theorem scan_text {l : List UInt8} {k m : Nat} (h : scanN l 0 = (k, m)) (h0 : k ≠ 0) (h48 : ¬ (l.head? = some 48 ∧ 1 < k)) : l.take k = Lib.decDigits m := by
  cases l with
  | nil => cases h; exact absurd rfl h0
  | cons b r =>
    unfold scanN at h
    split at h
    · rename_i hd
      obtain ⟨k', hk'⟩ : ∃ k', k' = (scanN r (10 * 0 + (b.toNat - 48))).1 := ⟨_, rfl⟩
      have h1 : k = k' + 1 := by rw [hk']; exact (congrArg Prod.fst h).symm
      have h2 : (scanN r (10 * 0 + (b.toNat - 48))).2 = m := congrArg Prod.snd h
      have hs : scanN r (10 * 0 + (b.toNat - 48)) = (k', m) := by rw [hk', ← h2]
      by_cases hz : b.toNat = 48
      · have hb : b = 48 := UInt8.toNat_inj.1 hz
        have hk0 : k' = 0 := by
          rcases Nat.eq_zero_or_pos k' with h | h
          · exact h
          · exact absurd ⟨by rw [hb]; rfl, by omega⟩ h48
        subst hk0
        have hm := scanN_zero hs
        rw [h1, hm, hz, hb]
        show [48] = Lib.decDigits 0
        rw [decDigits_small (by omega)]
        rfl
      · have ih := scan_pos r _ k' m (by omega) hs
        rw [ih, h1, List.take_succ_cons, show 10 * 0 + (b.toNat - 48) = b.toNat - 48 by omega, decDigits_small (by omega), dig_eq ⟨hd.1, hd.2.1⟩]
        rfl
    · cases h; exact absurd rfl h0
theorem scan_dec (u : Nat) : ∀ r, u ≤ 2147483647 → scanN (Lib.decDigits u ++ r) 0 = ((scanN r u).1 + (Lib.decDigits u).length, (scanN r u).2) := by
  induction u using Nat.strongRecOn with
  | _ u ih =>
    intro r hu
    by_cases h : u < 10
    · rw [decDigits_small h]
      show scanN (UInt8.ofNat (48 + u) :: r) 0 = _
      rw [scanN, dg_toNat h, if_pos (by omega), show 10 * 0 + (48 + u - 48) = u by omega]
      rfl
    · rw [decDigits_big h, List.append_assoc, ih (u / 10) (by omega) _ (by omega)]
      show ((scanN (UInt8.ofNat (48 + u % 10) :: r) (u / 10)).1 + _, (scanN (UInt8.ofNat (48 + u % 10) :: r) (u / 10)).2) = _
      rw [scanN, dg_toNat (show u % 10 < 10 by omega), if_pos (by omega), show 10 * (u / 10) + (48 + u % 10 - 48) = u by omega]
      simp only [List.length_append, List.length_cons, List.length_nil, Prod.mk.injEq, and_true]
      omega
theorem scan_stop {r : List UInt8} (h : ∀ b t, r = b :: t → b.toNat < 48 ∨ 57 < b.toNat) (u : Nat) : scanN r u = (0, u) := by
  cases r with
  | nil => rfl
  | cons b t =>
    have := h b t rfl
    rw [scanN, if_neg (by omega)]

/-! what was read stands there -/
theorem must_rd {L : List UInt8} {c : Sc} {w : List UInt8} (h : (mustS L c w).bad = false) : c.bad = false ∧ L.drop c.pl = w ++ L.drop (mustS L c w).pl := by
  unfold mustS at h ⊢
  split at h
  · rename_i hk
    rw [if_pos hk]
    unfold okW at hk
    simp only [Bool.and_eq_true, decide_eq_true_eq, Bool.not_eq_true'] at hk
    refine ⟨h, ?_⟩
    show _ = w ++ L.drop (c.pl + w.length)
    have := List.take_append_drop w.length (L.drop c.pl)
    rw [hk.2, List.drop_drop] at this
    exact this.symm
  · cases h
theorem num_rd {L : List UInt8} {c : Sc} (h : (numS L c).bad = false) : c.bad = false ∧ (0 ≤ numV L c ∧ numV L c ≤ 2147483647) ∧ L.drop c.pl = Lib.itoa (numV L c) ++ L.drop (numS L c).pl := by
  have h' : (c.bad || numBad L c) = false := h
  simp only [Bool.or_eq_false_iff] at h'
  obtain ⟨h1, h2⟩ := h'
  have hv : numV L c = ((scanN (L.drop c.pl) 0).2 : Nat) := by unfold numV; rw [if_neg (by rw [h2]; simp)]
  unfold numBad at h2
  simp only [Bool.or_eq_false_iff, Bool.and_eq_false_iff, decide_eq_false_iff_not] at h2
  obtain ⟨h3, h4, h5⟩ := h2
  have ht := scan_text (l := L.drop c.pl) (k := (scanN (L.drop c.pl) 0).1) (m := (scanN (L.drop c.pl) 0).2) rfl h3 (fun ⟨a, b⟩ => h4.elim (fun x => x a) (fun x => x b))
  refine ⟨h1, by rw [hv]; omega, ?_⟩
  rw [hv, Lib.itoa_nonneg, ← ht]
  show _ = _ ++ L.drop (c.pl + _)
  rw [← List.drop_drop, List.take_append_drop]
theorem kind_rd {L : List UInt8} : ∀ {f k : Nat} {c : Sc}, (kindS L f k c).2 ≠ 0 → (kindS L f k c).1.bad = false → c.bad = false ∧ (k ≤ (kindS L f k c).2 ∧ (kindS L f k c).2 < k + f) ∧ L.drop c.pl = kn ((kindS L f k c).2 : Nat) ++ 32 :: L.drop (kindS L f k c).1.pl
  | 0, k, c, h, _ => absurd rfl h
  | f + 1, k, c, h, hb => by
    by_cases hk : okW L c (kn k ++ [32]) = true
    · rw [kindS_found hk] at h hb ⊢
      have hw : mustS L c (kn k ++ [32]) = wordS L c (kn k ++ [32]) := by unfold mustS wordS; rw [if_pos hk, if_pos hk]
      have hm := must_rd (L := L) (c := c) (w := kn k ++ [32]) (by rw [hw]; exact hb)
      rw [hw] at hm
      refine ⟨hm.1, ⟨Nat.le_refl _, by simp only; omega⟩, ?_⟩
      rw [hm.2]; simp
    · have hk : okW L c (kn k ++ [32]) = false := by simpa using hk
      rw [kindS_stop hk] at h hb ⊢
      have ih := kind_rd h hb
      exact ⟨ih.1, ⟨by omega, by omega⟩, ih.2.2⟩
theorem kind_bad {L : List UInt8} : ∀ {f k : Nat} {c : Sc}, (kindS L f k c).1.bad = c.bad
  | 0, k, c => rfl
  | f + 1, k, c => by
    by_cases hk : okW L c (kn k ++ [32]) = true
    · rw [kindS_found hk]
      unfold wordS; rw [if_pos hk]
    · have hk : okW L c (kn k ++ [32]) = false := by simpa using hk
      rw [kindS_stop hk, kind_bad]

/-- the text of an event, in one row -/
def textL (e : Ev) : List UInt8 := [103] ++ (Lib.itoa e.g ++ ([32] ++ (kn e.kind ++ 32 :: (objText e ++ ([32, 64] ++ (Lib.itoa e.fn ++ ([58] ++ (Lib.itoa e.pc ++ ([32, 35] ++ Lib.itoa e.stack))))))))) 
theorem etext_row {e : Ev} (h : e.valid = true) : etext e = textL e := by
  unfold etext textL words5
  rw [if_pos h]
  simp only [join_two, Lib.join_one]
  simp
theorem mid_rd {L : List UInt8} {c : Sc} {e : Ev} (hz : e.obj = 0 ∧ e.off = 0 ∧ e.k = 0 ∧ e.n = 0) (h : (midS L c e).1.bad = false) : e.kind ≠ 0 ∧ (midS L c e).2.kind = e.kind ∧ (midS L c e).2.g = e.g ∧ c.bad = false ∧ L.drop c.pl = objText (midS L c e).2 ++ L.drop (midS L c e).1.pl := by
  by_cases k0 : e.kind = 0
  · unfold midS at h; rw [if_pos k0] at h; cases h
  by_cases k14 : e.kind = 14
  · have hm : midS L c e = (numS L (mustS L c [103]), { e with k := numV L (mustS L c [103]) }) := by unfold midS; rw [if_neg k0, if_pos k14]
    rw [hm] at h ⊢
    obtain ⟨n1, n2, n3⟩ := num_rd h
    obtain ⟨m1, m2⟩ := must_rd n1
    refine ⟨k0, rfl, rfl, m1, ?_⟩
    have ho : objText { e with k := numV L (mustS L c [103]) } = [103] ++ Lib.itoa (numV L (mustS L c [103])) := by unfold objText; rw [if_pos k14]
    rw [ho, m2, n3]; simp
  cases hc : chanB e.kind with
  | true =>
    have hm : midS L c e = (numS L (mustS L (numS L (mustS L (numS L c) [32])) [47]), { e with obj := numV L c, k := numV L (mustS L (numS L c) [32]), n := numV L (mustS L (numS L (mustS L (numS L c) [32])) [47]) }) := by unfold midS; rw [if_neg k0, if_neg k14, if_pos hc]
    rw [hm] at h ⊢
    obtain ⟨n1, n2, n3⟩ := num_rd h
    obtain ⟨m1, m2⟩ := must_rd n1
    obtain ⟨n4, n5, n6⟩ := num_rd m1
    obtain ⟨m3, m4⟩ := must_rd n4
    obtain ⟨n7, n8, n9⟩ := num_rd m3
    refine ⟨k0, rfl, rfl, n7, ?_⟩
    have ho : objText { e with obj := numV L c, k := numV L (mustS L (numS L c) [32]), n := numV L (mustS L (numS L (mustS L (numS L c) [32])) [47]) } = Lib.itoa (numV L c) ++ [32] ++ Lib.itoa (numV L (mustS L (numS L c) [32])) ++ [47] ++ Lib.itoa (numV L (mustS L (numS L (mustS L (numS L c) [32])) [47])) := by unfold objText; rw [if_neg k14, if_pos hc]
    rw [ho, n9, m4, n6, m2, n3]
    simp only [List.append_assoc]
  | false =>
    have hm : midS L c e = (numS L (mustS L (numS L c) [46]), { e with obj := numV L c, off := numV L (mustS L (numS L c) [46]) }) := by unfold midS; rw [if_neg k0, if_neg k14, if_neg (by rw [hc]; simp)]
    rw [hm] at h ⊢
    obtain ⟨n1, n2, n3⟩ := num_rd h
    obtain ⟨m1, m2⟩ := must_rd n1
    obtain ⟨n4, n5, n6⟩ := num_rd m1
    refine ⟨k0, rfl, rfl, n4, ?_⟩
    have ho : objText { e with obj := numV L c, off := numV L (mustS L (numS L c) [46]) } = Lib.itoa (numV L c) ++ [46] ++ Lib.itoa (numV L (mustS L (numS L c) [46])) := by unfold objText; rw [if_neg k14, if_neg (by rw [hc]; simp)]
    rw [ho, n6, m2, n3]
    simp only [List.append_assoc]
/-- what the reference reads has this text -/
theorem refE_some {L : List UInt8} {e : Ev} (h : refE L = some e) : e.valid = true ∧ etext e = L := by
  unfold refE at h
  obtain ⟨M, hM⟩ : ∃ M, M = midS L (frontS L).1 { Ev.zero with g := numV L (mustS L ⟨0, false⟩ [103]), kind := (frontS L).2 } := ⟨_, rfl⟩
  rw [← hM] at h
  unfold finS at h
  split at h
  · cases h
  rename_i hn
  have b1 : (endS L M.1 M.2).1.bad = false := by
    cases hx : (endS L M.1 M.2).1.bad with
    | false => rfl
    | true => exact absurd (.inl hx) hn
  have b2 : ¬ (endS L M.1 M.2).1.pl < L.length := fun x => hn (.inr (.inl x))
  have b3 : (endS L M.1 M.2).2.valid = true := by
    cases hx : (endS L M.1 M.2).2.valid with
    | true => rfl
    | false => exact absurd (.inr (.inr hx)) hn
  clear hn
  have he : (endS L M.1 M.2).2 = e := Option.some.inj h
  rw [he] at b3
  refine ⟨b3, ?_⟩
  rw [etext_row b3]
  have b1' : (numS L (mustS L (numS L (mustS L (numS L (mustS L M.1 [32, 64])) [58])) [32, 35])).bad = false := b1
  obtain ⟨n1, _, n3⟩ := num_rd b1'
  obtain ⟨m1, m2⟩ := must_rd n1
  obtain ⟨n4, _, n6⟩ := num_rd m1
  obtain ⟨m3, m4⟩ := must_rd n4
  obtain ⟨n7, _, n9⟩ := num_rd m3
  obtain ⟨m5, m6⟩ := must_rd n7
  have hend : L.drop (numS L (mustS L (numS L (mustS L (numS L (mustS L M.1 [32, 64])) [58])) [32, 35])).pl = [] := List.drop_eq_nil_of_le (by
    have b2' : ¬ (numS L (mustS L (numS L (mustS L (numS L (mustS L M.1 [32, 64])) [58])) [32, 35])).pl < L.length := b2
    omega)
  rw [hend, List.append_nil] at n3
  have hMb : (midS L (frontS L).1 { Ev.zero with g := numV L (mustS L ⟨0, false⟩ [103]), kind := (frontS L).2 }).1.bad = false := by rw [← hM]; exact m5
  obtain ⟨r1, r2, r3, r4, r5⟩ := mid_rd (L := L) ⟨rfl, rfl, rfl, rfl⟩ hMb
  rw [← hM] at r2 r3 r5
  have hk0 : (frontS L).2 ≠ 0 := fun x => r1 (by show (((frontS L).2 : Nat) : Int) = 0; rw [x]; rfl)
  obtain ⟨k1, k2, k3⟩ := kind_rd (L := L) (f := 20) (k := 1) (c := mustS L (numS L (mustS L ⟨0, false⟩ [103])) [32]) hk0 r4
  obtain ⟨p1, p2⟩ := must_rd k1
  obtain ⟨p3, _, p5⟩ := num_rd p1
  obtain ⟨p6, p7⟩ := must_rd p3
  have hk : e.kind = ((frontS L).2 : Nat) := by rw [← he]; exact r2
  have hg : e.g = numV L (mustS L ⟨0, false⟩ [103]) := by rw [← he]; exact r3
  have hobj : objText e = objText M.2 := by rw [← he]; rfl
  have hfn : e.fn = numV L (mustS L M.1 [32, 64]) := by rw [← he]; rfl
  have hpc : e.pc = numV L (mustS L (numS L (mustS L M.1 [32, 64])) [58]) := by rw [← he]; rfl
  have hst : e.stack = numV L (mustS L (numS L (mustS L (numS L (mustS L M.1 [32, 64])) [58])) [32, 35]) := by rw [← he]; rfl
  unfold textL
  rw [hk, hg, hobj, hfn, hpc, hst, ← n3, ← m2, ← n6, ← m4, ← n9, ← m6, ← r5]
  show [103] ++ (Lib.itoa _ ++ ([32] ++ (kn ((frontS L).2 : Nat) ++ 32 :: L.drop (frontS L).1.pl))) = L
  have k3' : L.drop (mustS L (numS L (mustS L ⟨0, false⟩ [103])) [32]).pl = kn ((frontS L).2 : Nat) ++ 32 :: L.drop (frontS L).1.pl := k3
  rw [← k3', ← p2, ← p5, ← p7]
  rfl

/-! what stands there is read -/
theorem okW_at {L : List UInt8} {p : Nat} {w r : List UInt8} (hd : L.drop p = w ++ r) : okW L ⟨p, false⟩ w = true := by
  have h : ((L.drop (⟨p, false⟩ : Sc).pl).take w.length = w) := by
    show (L.drop p).take w.length = w
    rw [hd]; exact List.take_left
  unfold okW
  rw [decide_eq_true h]; rfl
theorem must_ok {L : List UInt8} {p : Nat} {w r : List UInt8} (hd : L.drop p = w ++ r) : mustS L ⟨p, false⟩ w = ⟨p + w.length, false⟩ ∧ L.drop (p + w.length) = r := by
  refine ⟨by unfold mustS; rw [if_pos (okW_at hd)], ?_⟩
  rw [← List.drop_drop, hd, List.drop_left]
theorem num_ok {L : List UInt8} {p : Nat} {v : Int} {r : List UInt8} (hd : L.drop p = Lib.itoa v ++ r) (hv : 0 ≤ v ∧ v ≤ 2147483647) (hr : ∀ b t, r = b :: t → b.toNat < 48 ∨ 57 < b.toNat) :
    numS L ⟨p, false⟩ = ⟨p + (Lib.itoa v).length, false⟩ ∧ numV L ⟨p, false⟩ = v ∧ L.drop (p + (Lib.itoa v).length) = r := by
  obtain ⟨u, rfl⟩ := Int.eq_ofNat_of_zero_le hv.1
  rw [Lib.itoa_nonneg] at hd ⊢
  have hs := scan_dec u r (by omega)
  rw [scan_stop hr] at hs
  simp only [Nat.zero_add] at hs
  obtain ⟨b, t, hbt, hz⟩ := decDigits_head u
  have hd' : L.drop (⟨p, false⟩ : Sc).pl = Lib.decDigits u ++ r := hd
  have hnb : numBad L ⟨p, false⟩ = false := by
    unfold numBad
    rw [hd', hs]
    simp only [Bool.or_eq_false_iff, Bool.and_eq_false_iff, decide_eq_false_iff_not]
    refine ⟨fun h => decDigits_ne u (List.eq_nil_of_length_eq_zero h), ?_, by omega⟩
    by_cases h48 : b = 48
    · right
      rw [hbt, (hz (by rw [h48]; rfl)).2]; simp
    · left
      rw [hbt]; simpa using h48
  refine ⟨?_, ?_, ?_⟩
  · unfold numS; rw [hnb, hd', hs]; rfl
  · unfold numV; rw [hnb, hd', hs]; rfl
  · rw [← List.drop_drop, hd, List.drop_left]
theorem space_split : ∀ {a b x y : List UInt8}, (32 : UInt8) ∉ a → (32 : UInt8) ∉ b → a ++ 32 :: x = b ++ 32 :: y → a = b
  | [], [], _, _, _, _, _ => rfl
  | [], c :: b, x, y, _, hb, h => by simp at h; exact absurd h.1 (by simp at hb; exact hb.1)
  | c :: a, [], x, y, ha, _, h => by simp at h; exact absurd h.1.symm (by simp at ha; exact ha.1)
  | c :: a, d :: b, x, y, ha, hb, h => by
    simp only [List.cons_append, List.cons.injEq] at h
    rw [h.1, space_split (by simp at ha; exact ha.2) (by simp at hb; exact hb.2) h.2]
theorem kind_ok {L : List UInt8} {p kd : Nat} {r : List UInt8} (hk : 1 ≤ kd ∧ kd ≤ 20) (hd : L.drop p = kn (kd : Int) ++ 32 :: r) : ∀ (f k : Nat), 1 ≤ k → k ≤ kd → kd < k + f → kindS L f k ⟨p, false⟩ = (⟨p + ((kn (kd : Int)).length + 1), false⟩, kd) ∧ L.drop (p + ((kn (kd : Int)).length + 1)) = r
  | 0, k, _, h1, h2 => by omega
  | f + 1, k, h0, h1, h2 => by
    by_cases he : k = kd
    · subst he
      have hd2 : L.drop p = (kn (k : Int) ++ [32]) ++ r := by rw [hd]; simp
      have hm := must_ok hd2
      have hok := okW_at hd2
      have hl : (kn (k : Int) ++ [32]).length = (kn (k : Int)).length + 1 := by simp
      rw [hl] at hm
      refine ⟨?_, hm.2⟩
      rw [kindS_found hok]
      unfold wordS
      rw [if_pos hok, hl]
    · have hno : okW L ⟨p, false⟩ (kn (k : Int) ++ [32]) = false := by
        unfold okW
        rw [decide_eq_false]; · simp
        intro h
        have h' : (L.drop p).take (kn (k : Int) ++ [32]).length = kn (k : Int) ++ [32] := h
        have h3 : L.drop p = kn (k : Int) ++ 32 :: (L.drop p).drop (kn (k : Int) ++ [32]).length := by
          have := List.take_append_drop (kn (k : Int) ++ [32]).length (L.drop p)
          rw [h', List.append_assoc] at this
          exact this.symm
        rw [hd] at h3
        have l1 := kn_law (k := (k : Int)) ⟨by omega, by omega⟩
        have l2 := kn_law (k := (kd : Int)) ⟨by omega, by omega⟩
        have := space_split l2.1 l1.1 h3
        rw [this, l1.2] at l2
        exact he (by omega)
      rw [kindS_stop hno]
      exact kind_ok hk hd f (k + 1) (by omega) (by omega) (by omega)
theorem nd {w : List UInt8} {c : UInt8} {r : List UInt8} (hw : w = c :: r) (hc : c.toNat < 48 ∨ 57 < c.toNat) : ∀ b t, w = b :: t → b.toNat < 48 ∨ 57 < b.toNat := fun b t h => by
  rw [hw] at h; cases h; exact hc
theorem ndn : ∀ b t, ([] : List UInt8) = b :: t → b.toNat < 48 ∨ 57 < b.toNat := fun b t h => by cases h
theorem mid_ok {L : List UInt8} {p0 : Nat} {e : Ev} {r : List UInt8} (hv : e.valid = true) (hd : L.drop p0 = objText e ++ 32 :: r) :
    ∃ p, midS L ⟨p0, false⟩ { Ev.zero with g := e.g, kind := e.kind } = (⟨p, false⟩, { Ev.zero with g := e.g, kind := e.kind, obj := e.obj, off := e.off, k := e.k, n := e.n }) ∧ L.drop p = 32 :: r := by
  have hi := Ev.In.of hv
  have hr : e.rest = true := by rw [Ev.valid_eq] at hv; simp only [Bool.and_eq_true] at hv; exact hv.2
  unfold Ev.rest at hr
  have k0 : e.kind ≠ 0 := by have := hi.kind; omega
  have n32 := nd (w := 32 :: r) rfl (by decide)
  by_cases k14 : e.kind = 14
  · rw [if_pos k14] at hr
    obtain ⟨r1, r2, r3, -, -⟩ := of_decide_eq_true hr
    have ho : objText e = [103] ++ Lib.itoa e.k := by unfold objText; rw [if_pos k14]
    rw [ho, List.append_assoc] at hd
    obtain ⟨m1, m2⟩ := must_ok hd
    obtain ⟨a1, a2, a3⟩ := num_ok (L := L) m2 hi.k n32
    refine ⟨_, ?_, a3⟩
    unfold midS
    rw [if_neg k0, if_pos k14, m1, a1, a2, r1, r2, r3]
    rfl
  · rw [if_neg k14] at hr
    cases hc : chanB e.kind with
    | true =>
      have hoff : e.off = 0 := by
        have hc' := of_decide_eq_true hc
        split at hr
        · exact (of_decide_eq_true hr).1
        · split at hr
          · exact (of_decide_eq_true hr).1
          · omega
      have ho : objText e = Lib.itoa e.obj ++ [32] ++ Lib.itoa e.k ++ [47] ++ Lib.itoa e.n := by unfold objText; rw [if_neg k14, if_pos hc]
      rw [ho] at hd
      simp only [List.append_assoc] at hd
      obtain ⟨a1, a2, a3⟩ := num_ok hd hi.obj (nd (c := 32) rfl (by decide))
      obtain ⟨m1, m2⟩ := must_ok (L := L) a3
      obtain ⟨b1, b2, b3⟩ := num_ok (L := L) m2 hi.k (nd (c := 47) rfl (by decide))
      obtain ⟨m3, m4⟩ := must_ok (L := L) b3
      obtain ⟨d1, d2, d3⟩ := num_ok (L := L) m4 hi.n n32
      refine ⟨_, ?_, d3⟩
      unfold midS
      rw [if_neg k0, if_neg k14, if_pos hc, a1, a2, m1, b1, b2, m3, d1, d2, hoff]
      rfl
    | false =>
      have hc' := of_decide_eq_false hc
      have hk20 := hi.kind
      rw [if_neg (by omega), if_neg (by omega)] at hr
      obtain ⟨r1, r2⟩ := of_decide_eq_true hr
      have ho : objText e = Lib.itoa e.obj ++ [46] ++ Lib.itoa e.off := by unfold objText; rw [if_neg k14, if_neg (by rw [hc]; simp)]
      rw [ho] at hd
      simp only [List.append_assoc] at hd
      obtain ⟨a1, a2, a3⟩ := num_ok hd hi.obj (nd (c := 46) rfl (by decide))
      obtain ⟨m1, m2⟩ := must_ok (L := L) a3
      obtain ⟨b1, b2, b3⟩ := num_ok (L := L) m2 hi.off n32
      refine ⟨_, ?_, b3⟩
      unfold midS
      rw [if_neg k0, if_neg k14, if_neg (by rw [hc]; simp), a1, a2, m1, b1, b2, r1, r2]
      rfl
theorem refE_text {e : Ev} (hv : e.valid = true) : refE (etext e) = some e := by
  have hi := Ev.In.of hv
  have hkn := kn_law hi.kind
  obtain ⟨L, hL⟩ : ∃ L, L = etext e := ⟨_, rfl⟩
  have hT : L = textL e := by rw [hL, etext_row hv]
  rw [← hL]
  have h0 : L.drop 0 = textL e := hT
  unfold textL at h0
  obtain ⟨m1, m2⟩ := must_ok (p := 0) h0
  obtain ⟨a1, a2, a3⟩ := num_ok (L := L) m2 (by have := hi.g; omega) (nd (c := 32) rfl (by decide))
  obtain ⟨m3, m4⟩ := must_ok (L := L) a3
  obtain ⟨kd, hkd⟩ := Int.eq_ofNat_of_zero_le (show 0 ≤ e.kind by have := hi.kind; omega)
  rw [hkd] at m4
  have hkr := hi.kind
  obtain ⟨q1, q2⟩ := kind_ok (L := L) (kd := kd) (by omega) m4 20 1 (by omega) (by omega) (by omega)
  have hf : frontS L = (⟨0 + [103].length + (Lib.itoa e.g).length + [32].length + ((kn (kd : Int)).length + 1), false⟩, kd) := by
    unfold frontS
    rw [m1, a1, m3]
    exact q1
  obtain ⟨p, hm, hp⟩ := mid_ok (L := L) (e := e) (r := 64 :: (Lib.itoa e.fn ++ ([58] ++ (Lib.itoa e.pc ++ ([32, 35] ++ Lib.itoa e.stack))))) hv q2
  obtain ⟨w1, w2⟩ := must_ok (L := L) (w := [32, 64]) hp
  obtain ⟨b1, b2, b3⟩ := num_ok (L := L) w2 hi.fn (nd (c := 58) rfl (by decide))
  obtain ⟨w3, w4⟩ := must_ok (L := L) b3
  obtain ⟨d1, d2, d3⟩ := num_ok (L := L) w4 hi.pc (nd (c := 32) rfl (by decide))
  obtain ⟨w5, w6⟩ := must_ok (L := L) d3
  obtain ⟨f1, f2, f3⟩ := num_ok (L := L) (r := []) (w6.trans (List.append_nil _).symm) hi.stack ndn
  have hmid : midS L (frontS L).1 { Ev.zero with g := numV L (mustS L ⟨0, false⟩ [103]), kind := (frontS L).2 } = (⟨p, false⟩, { Ev.zero with g := e.g, kind := e.kind, obj := e.obj, off := e.off, k := e.k, n := e.n }) := by
    rw [hf, m1, a2, ← hm, hkd]
    rfl
  have hend : endS L ⟨p, false⟩ { Ev.zero with g := e.g, kind := e.kind, obj := e.obj, off := e.off, k := e.k, n := e.n } = (⟨p + [32, 64].length + (Lib.itoa e.fn).length + [58].length + (Lib.itoa e.pc).length + [32, 35].length + (Lib.itoa e.stack).length, false⟩, e) := by
    unfold endS
    rw [w1, b1, b2, w3, d1, d2, w5, f1, f2]
    rfl
  unfold refE
  rw [hmid, hend]
  unfold finS
  have hlen : ¬ (p + [32, 64].length + (Lib.itoa e.fn).length + [58].length + (Lib.itoa e.pc).length + [32, 35].length + (Lib.itoa e.stack).length) < L.length := by
    intro h
    have := congrArg List.length f3
    rw [List.length_drop, List.length_nil] at this
    omega
  rw [if_neg (by
    rintro (h | h | h)
    · cases h
    · exact hlen h
    · rw [hv] at h; cases h)]
/-- the reference reads what the program reads -/
theorem refE_eq (s : ByteArray) : refE s.data.toList = readE s := by
  cases hr : readE s with
  | some e =>
    obtain ⟨h1, h2⟩ := readE_some hr
    rw [← h2, refE_text h1]
  | none =>
    cases hf : refE s.data.toList with
    | none => rfl
    | some e =>
      obtain ⟨h1, h2⟩ := refE_some hf
      have h3 := readE_text h1
      have hs : strB (etext e) = s := strB_inj h2
      rw [hs, hr] at h3
      cases h3
end Go.Proofs.YthnjbnfnljjepabDoor
end
