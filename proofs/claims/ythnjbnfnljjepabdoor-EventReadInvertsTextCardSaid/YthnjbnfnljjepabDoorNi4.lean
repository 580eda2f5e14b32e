/- The program's Read of chapter 20: its middle and the whole. -/
import Derived.Test.YthnjbnfnljjepabDoorNi3
import Derived.Handed
import Derived.Clock
import Derived.Test.YthnjbnfnljjepabDoorRows
import Derived.Stop.LaidErr
import Derived.Deep.DeepLaidRun
import Derived.SizedLaws
import Derived.JoinedOf
import Derived.LaidLaws
import Derived.Lib.LaidU8
import Derived.ChangeSame
section
set_option linter.unusedSimpArgs false
set_option linter.unusedVariables false
namespace Go.Proofs.YthnjbnfnljjepabDoor
open Go Go.RowKit
set_option maxRecDepth 1000000
set_option maxHeartbeats 8000000

theorem rowsS_len (ws : List ByteArray) : (rowsS ws).length = ws.length := by simp [rowsS]
theorem rowsS_one (ws : List ByteArray) : (∀ r, r ∈ rowsS ws → r.length = 1) = True := by
  apply propext
  refine ⟨fun _ => trivial, fun _ r hr => ?_⟩
  simp only [rowsS, List.mem_map] at hr
  obtain ⟨_, _, rfl⟩ := hr
  rfl
theorem rowsS_get {ws : List ByteArray} {i : Nat} {w : ByteArray} (h : ws[i]? = some w) : (rowsS ws)[i]? = some [Dt.sc (.string w)] := by
  unfold rowsS; rw [List.getElem?_map, h]; rfl
theorem le_self_int (a : Int) : (a ≤ a) = True := by simp
theorem read_tail {s a b : ByteArray} {e : Ev} {pre : List ByteArray} (hn : pre.length ≤ 100) (ha1 : a.size ≤ 1000000) (hb1 : b.size ≤ 1000000) (Q : Exit → St → Prop)
    (hQ : ∀ st, st.res prj15 = some (endE s (evEnd e a.data.toList b.data.toList)) → Q .ret st) (st : St) (ha : RdAt s e st)
    (h4 : st.sl 4 = .b (.one (.d (.im (rowsS (pre ++ [a, b])))))) : pwp env_eread pcj15c2 (exS env_eread [] Q) st := by
  have hr := ha
  obtain ⟨h0, h2, h5, g2, g5, o2, o5⟩ := ha
  simp only [Ev.row, List.map_cons, List.map_nil] at o2 o5
  have hlen : (rowsS (pre ++ [a, b])).length = pre.length + 2 := by rw [rowsS_len]; simp
  have hw : IntKind.i64.wrap (((pre.length + 2 : Nat) : Int) - 2) = (pre.length : Int) := by rw [wr64 (by omega) (by omega)]; omega
  have l0 : (0 : Int) ≤ (pre.length : Int) := by omega
  have l1 : (pre.length : Int) ≤ ((pre.length + 2 : Nat) : Int) := by omega
  have hsl : List.drop pre.length (List.take (pre.length + 2) (rowsS (pre ++ [a, b]))) = [[Dt.sc (.string a)], [Dt.sc (.string b)]] := by
    rw [List.take_of_length_le (by omega)]
    unfold rowsS
    rw [List.map_append, List.drop_left' (by simp)]
    rfl
  have hone := rowsS_one (pre ++ [a, b])
  have n0 : ((0 : Int) ≤ 0) = True := by simp
  unfold pcj15c2
  simp only [↓evP, evB, stB, reduceIte, reduceCtorEq, Nat.reduceEqDiff, Nat.reduceAdd, Nat.reduceMul, Nat.reduceLeDiff, Nat.reduceLT, Nat.reduceSub, Nat.reduceBEq, h4, hlen, hw, l0, l1, le_self_int, hsl, hone, n0, Int.toNat_natCast, Int.toNat_zero]
  refine callOps_intro [pS (strB (Lib.trimPrefix a.data.toList [64])), pB (Lib.hasPrefix a.data.toList [64])] (by exact ⟨a, ⟨#[64]⟩, rfl, rfl⟩) ?_
  cases hp : Lib.hasPrefix a.data.toList [64] with
  | false =>
    have hE : evEnd e a.data.toList b.data.toList = { e with stack := numE b.data.toList [35] } := by unfold evEnd; rw [hp]; rfl
    rw [hE] at hQ
    simp only [↓evP, evB, stB, reduceIte, reduceCtorEq, Nat.reduceEqDiff, Nat.reduceAdd, Nat.reduceMul, Nat.reduceLeDiff, Nat.reduceLT, Nat.reduceSub, Nat.reduceBEq, h4, hlen, hw, l0, l1, le_self_int, hsl, hone, n0, Int.toNat_natCast, Int.toNat_zero]
    refine read_end (a := a) hb1 Q hQ _ ⟨by simp only [stB, reduceIte, reduceCtorEq, Nat.reduceEqDiff, Nat.reduceAdd, Nat.reduceMul, Nat.reduceLeDiff, Nat.reduceLT, Nat.reduceSub, Nat.reduceBEq, h0], by simp only [stB, reduceIte, reduceCtorEq, Nat.reduceEqDiff, Nat.reduceAdd, Nat.reduceMul, Nat.reduceLeDiff, Nat.reduceLT, Nat.reduceSub, Nat.reduceBEq, h2], by simp only [stB, reduceIte, reduceCtorEq, Nat.reduceEqDiff, Nat.reduceAdd, Nat.reduceMul, Nat.reduceLeDiff, Nat.reduceLT, Nat.reduceSub, Nat.reduceBEq, h5], by simp only [stB, reduceIte, reduceCtorEq, Nat.reduceEqDiff, Nat.reduceAdd, Nat.reduceMul, Nat.reduceLeDiff, Nat.reduceLT, Nat.reduceSub, Nat.reduceBEq, g2], by simp only [stB, reduceIte, reduceCtorEq, Nat.reduceEqDiff, Nat.reduceAdd, Nat.reduceMul, Nat.reduceLeDiff, Nat.reduceLT, Nat.reduceSub, Nat.reduceBEq, g5], by simp only [stB, reduceIte, reduceCtorEq, Nat.reduceEqDiff, Nat.reduceAdd, Nat.reduceMul, Nat.reduceLeDiff, Nat.reduceLT, Nat.reduceSub, Nat.reduceBEq, o2]; rfl, by simp only [stB, reduceIte, reduceCtorEq, Nat.reduceEqDiff, Nat.reduceAdd, Nat.reduceMul, Nat.reduceLeDiff, Nat.reduceLT, Nat.reduceSub, Nat.reduceBEq, o5]; rfl⟩ (by simp only [stB, reduceIte, reduceCtorEq, Nat.reduceEqDiff, Nat.reduceAdd, Nat.reduceMul, Nat.reduceLeDiff, Nat.reduceLT, Nat.reduceSub, Nat.reduceBEq])
  | true =>
    have hE : evEnd e a.data.toList b.data.toList = { { e with fn := (pairE (Lib.trimPrefix a.data.toList [64]) [58]).1, pc := (pairE (Lib.trimPrefix a.data.toList [64]) [58]).2 } with stack := numE b.data.toList [35] } := by unfold evEnd; rw [hp]; rfl
    rw [hE] at hQ
    have hts : (strB (Lib.trimPrefix a.data.toList [64])).size ≤ 1000000 := by
      have := trimPrefix_le a.data.toList [64]
      rw [data_len] at this
      rw [strB_size]; omega
    simp only [↓evP, evB, stB, reduceIte, reduceCtorEq, Nat.reduceEqDiff, Nat.reduceAdd, Nat.reduceMul, Nat.reduceLeDiff, Nat.reduceLT, Nat.reduceSub, Nat.reduceBEq, h4, hlen, hw, l0, l1, le_self_int, hsl, hone, n0, Int.toNat_natCast, Int.toNat_zero, pcj15c1]
    refine callOps_intro [pI (pairE (Lib.trimPrefix a.data.toList [64]) [58]).1, pI (pairE (Lib.trimPrefix a.data.toList [64]) [58]).2] (by exact R_pair.mk (strB (Lib.trimPrefix a.data.toList [64])) ⟨#[58]⟩ hts) ?_
    simp only [↓evP, evB, stB, reduceIte, reduceCtorEq, Nat.reduceEqDiff, Nat.reduceAdd, Nat.reduceMul, Nat.reduceLeDiff, Nat.reduceLT, Nat.reduceSub, Nat.reduceBEq, h0, h2, h4, h5, g2, g5, o2, o5]
    refine read_end (a := a) hb1 Q hQ _ ⟨by simp only [stB, reduceIte, reduceCtorEq, Nat.reduceEqDiff, Nat.reduceAdd, Nat.reduceMul, Nat.reduceLeDiff, Nat.reduceLT, Nat.reduceSub, Nat.reduceBEq, h0], by simp only [stB, reduceIte, reduceCtorEq, Nat.reduceEqDiff, Nat.reduceAdd, Nat.reduceMul, Nat.reduceLeDiff, Nat.reduceLT, Nat.reduceSub, Nat.reduceBEq, h2], by simp only [stB, reduceIte, reduceCtorEq, Nat.reduceEqDiff, Nat.reduceAdd, Nat.reduceMul, Nat.reduceLeDiff, Nat.reduceLT, Nat.reduceSub, Nat.reduceBEq, h5], by simp only [stB, reduceIte, reduceCtorEq, Nat.reduceEqDiff, Nat.reduceAdd, Nat.reduceMul, Nat.reduceLeDiff, Nat.reduceLT, Nat.reduceSub, Nat.reduceBEq, g2], by simp only [stB, reduceIte, reduceCtorEq, Nat.reduceEqDiff, Nat.reduceAdd, Nat.reduceMul, Nat.reduceLeDiff, Nat.reduceLT, Nat.reduceSub, Nat.reduceBEq, g5], by simp only [stB, reduceIte, reduceCtorEq, Nat.reduceEqDiff, Nat.reduceAdd, Nat.reduceMul, Nat.reduceLeDiff, Nat.reduceLT, Nat.reduceSub, Nat.reduceBEq, o2]; rfl, by simp only [stB, reduceIte, reduceCtorEq, Nat.reduceEqDiff, Nat.reduceAdd, Nat.reduceMul, Nat.reduceLeDiff, Nat.reduceLT, Nat.reduceSub, Nat.reduceBEq, o5]; rfl⟩ (by simp only [stB, reduceIte, reduceCtorEq, Nat.reduceEqDiff, Nat.reduceAdd, Nat.reduceMul, Nat.reduceLeDiff, Nat.reduceLT, Nat.reduceSub, Nat.reduceBEq])

def midE (e : Ev) (w2 w3 : List UInt8) : Ev :=
  if e.kind = 14 then { e with k := numE w2 [103] }
  else if chanB e.kind = true then { e with obj := numE w2 [], k := (pairE w3 [47]).1, n := (pairE w3 [47]).2 }
  else { e with obj := (pairE w2 [46]).1, off := (pairE w2 [46]).2 }
theorem read_mid {s w2 w3 : ByteArray} {e : Ev} {ws : List ByteArray} (hw2 : ws[2]? = some w2) (hw3 : ws[3]? = some w3) (hz2 : w2.size ≤ 1000000) (hz3 : w3.size ≤ 1000000) (Q : Exit → St → Prop)
    (hQ : ∀ st, RdAt s (midE e w2.data.toList w3.data.toList) st → st.sl 4 = .b (.one (.d (.im (rowsS ws)))) → pwp env_eread pcj15c2 (exS env_eread [] Q) st) (st : St) (ha : RdAt s e st)
    (h4 : st.sl 4 = .b (.one (.d (.im (rowsS ws))))) : pwp env_eread pcj15c6 (exS env_eread [.c pcj15c2] Q) st := by
  obtain ⟨h0, h2, h5, g2, g5, o2, o5⟩ := ha
  simp only [Ev.row, List.map_cons, List.map_nil] at o2 o5
  have r2 := rowsS_get hw2
  have r3 := rowsS_get hw3
  have n2 : ((0 : Int) ≤ 2) = True := by simp
  have n3 : ((0 : Int) ≤ 3) = True := by simp
  have t2 : (2 : Int).toNat = 2 := rfl
  have t3 : (3 : Int).toNat = 3 := rfl
  unfold pcj15c6
  cases k14 : (e.kind == 14) with
  | true =>
    have hm : midE e w2.data.toList w3.data.toList = { e with k := numE w2.data.toList [103] } := by unfold midE; rw [if_pos (beq_iff_eq.1 k14)]
    rw [hm] at hQ
    simp only [↓evP, evB, stB, reduceIte, reduceCtorEq, Nat.reduceEqDiff, Nat.reduceAdd, Nat.reduceMul, Nat.reduceLeDiff, Nat.reduceLT, Nat.reduceSub, Nat.reduceBEq, h0, h2, h4, h5, g2, g5, o2, o5, k14, r2, n2, t2]
    refine callOps_intro [pI (numE w2.data.toList [103])] (by exact R_number.mk w2 ⟨#[103]⟩ hz2) ?_
    simp only [↓evP, evB, stB, reduceIte, reduceCtorEq, Nat.reduceEqDiff, Nat.reduceAdd, Nat.reduceMul, Nat.reduceLeDiff, Nat.reduceLT, Nat.reduceSub, Nat.reduceBEq, h0, h2, h4, h5, g2, g5, o2, o5]
    exact hQ _ ⟨by simp only [stB, reduceIte, reduceCtorEq, Nat.reduceEqDiff, Nat.reduceAdd, Nat.reduceMul, Nat.reduceLeDiff, Nat.reduceLT, Nat.reduceSub, Nat.reduceBEq, h0], by simp only [stB, reduceIte, reduceCtorEq, Nat.reduceEqDiff, Nat.reduceAdd, Nat.reduceMul, Nat.reduceLeDiff, Nat.reduceLT, Nat.reduceSub, Nat.reduceBEq, h2], by simp only [stB, reduceIte, reduceCtorEq, Nat.reduceEqDiff, Nat.reduceAdd, Nat.reduceMul, Nat.reduceLeDiff, Nat.reduceLT, Nat.reduceSub, Nat.reduceBEq, h5], by simp only [stB, reduceIte, reduceCtorEq, Nat.reduceEqDiff, Nat.reduceAdd, Nat.reduceMul, Nat.reduceLeDiff, Nat.reduceLT, Nat.reduceSub, Nat.reduceBEq, g2], by simp only [stB, reduceIte, reduceCtorEq, Nat.reduceEqDiff, Nat.reduceAdd, Nat.reduceMul, Nat.reduceLeDiff, Nat.reduceLT, Nat.reduceSub, Nat.reduceBEq, g5], by simp only [stB, reduceIte, reduceCtorEq, Nat.reduceEqDiff, Nat.reduceAdd, Nat.reduceMul, Nat.reduceLeDiff, Nat.reduceLT, Nat.reduceSub, Nat.reduceBEq, o2]; rfl, by simp only [stB, reduceIte, reduceCtorEq, Nat.reduceEqDiff, Nat.reduceAdd, Nat.reduceMul, Nat.reduceLeDiff, Nat.reduceLT, Nat.reduceSub, Nat.reduceBEq, o5]; rfl⟩ (by simp only [stB, reduceIte, reduceCtorEq, Nat.reduceEqDiff, Nat.reduceAdd, Nat.reduceMul, Nat.reduceLeDiff, Nat.reduceLT, Nat.reduceSub, Nat.reduceBEq, h4])
  | false =>
    have n14 := beq_eq_false_iff_ne.1 k14
    simp only [↓evP, evB, stB, reduceIte, reduceCtorEq, Nat.reduceEqDiff, Nat.reduceAdd, Nat.reduceMul, Nat.reduceLeDiff, Nat.reduceLT, Nat.reduceSub, Nat.reduceBEq, h0, h2, h4, h5, g2, g5, o2, o5, k14, pcj15c5]
    refine callOps_intro [pB (chanB e.kind)] (by exact R_kB.mk e.kind) ?_
    cases hc : chanB e.kind with
    | true =>
      have hm : midE e w2.data.toList w3.data.toList = { e with obj := numE w2.data.toList [], k := (pairE w3.data.toList [47]).1, n := (pairE w3.data.toList [47]).2 } := by unfold midE; rw [if_neg n14, if_pos hc]
      rw [hm] at hQ
      simp only [↓evP, evB, stB, reduceIte, reduceCtorEq, Nat.reduceEqDiff, Nat.reduceAdd, Nat.reduceMul, Nat.reduceLeDiff, Nat.reduceLT, Nat.reduceSub, Nat.reduceBEq, h0, h2, h4, h5, g2, g5, o2, o5, r2, n2, t2, pcj15c3]
      refine callOps_intro [pI (numE w2.data.toList [])] (by exact R_number.mk w2 ⟨#[]⟩ hz2) ?_
      simp only [↓evP, evB, stB, reduceIte, reduceCtorEq, Nat.reduceEqDiff, Nat.reduceAdd, Nat.reduceMul, Nat.reduceLeDiff, Nat.reduceLT, Nat.reduceSub, Nat.reduceBEq, h0, h2, h4, h5, g2, g5, o2, o5, r3, n3, t3]
      refine callOps_intro [pI (pairE w3.data.toList [47]).1, pI (pairE w3.data.toList [47]).2] (by exact R_pair.mk w3 ⟨#[47]⟩ hz3) ?_
      simp only [↓evP, evB, stB, reduceIte, reduceCtorEq, Nat.reduceEqDiff, Nat.reduceAdd, Nat.reduceMul, Nat.reduceLeDiff, Nat.reduceLT, Nat.reduceSub, Nat.reduceBEq, h0, h2, h4, h5, g2, g5, o2, o5]
      exact hQ _ ⟨by simp only [stB, reduceIte, reduceCtorEq, Nat.reduceEqDiff, Nat.reduceAdd, Nat.reduceMul, Nat.reduceLeDiff, Nat.reduceLT, Nat.reduceSub, Nat.reduceBEq, h0], by simp only [stB, reduceIte, reduceCtorEq, Nat.reduceEqDiff, Nat.reduceAdd, Nat.reduceMul, Nat.reduceLeDiff, Nat.reduceLT, Nat.reduceSub, Nat.reduceBEq, h2], by simp only [stB, reduceIte, reduceCtorEq, Nat.reduceEqDiff, Nat.reduceAdd, Nat.reduceMul, Nat.reduceLeDiff, Nat.reduceLT, Nat.reduceSub, Nat.reduceBEq, h5], by simp only [stB, reduceIte, reduceCtorEq, Nat.reduceEqDiff, Nat.reduceAdd, Nat.reduceMul, Nat.reduceLeDiff, Nat.reduceLT, Nat.reduceSub, Nat.reduceBEq, g2], by simp only [stB, reduceIte, reduceCtorEq, Nat.reduceEqDiff, Nat.reduceAdd, Nat.reduceMul, Nat.reduceLeDiff, Nat.reduceLT, Nat.reduceSub, Nat.reduceBEq, g5], by simp only [stB, reduceIte, reduceCtorEq, Nat.reduceEqDiff, Nat.reduceAdd, Nat.reduceMul, Nat.reduceLeDiff, Nat.reduceLT, Nat.reduceSub, Nat.reduceBEq, o2]; rfl, by simp only [stB, reduceIte, reduceCtorEq, Nat.reduceEqDiff, Nat.reduceAdd, Nat.reduceMul, Nat.reduceLeDiff, Nat.reduceLT, Nat.reduceSub, Nat.reduceBEq, o5]; rfl⟩ (by simp only [stB, reduceIte, reduceCtorEq, Nat.reduceEqDiff, Nat.reduceAdd, Nat.reduceMul, Nat.reduceLeDiff, Nat.reduceLT, Nat.reduceSub, Nat.reduceBEq, h4])
    | false =>
      have hm : midE e w2.data.toList w3.data.toList = { e with obj := (pairE w2.data.toList [46]).1, off := (pairE w2.data.toList [46]).2 } := by unfold midE; rw [if_neg n14, if_neg (by rw [hc]; simp)]
      rw [hm] at hQ
      simp only [↓evP, evB, stB, reduceIte, reduceCtorEq, Nat.reduceEqDiff, Nat.reduceAdd, Nat.reduceMul, Nat.reduceLeDiff, Nat.reduceLT, Nat.reduceSub, Nat.reduceBEq, h0, h2, h4, h5, g2, g5, o2, o5, r2, n2, t2, pcj15c4]
      refine callOps_intro [pI (pairE w2.data.toList [46]).1, pI (pairE w2.data.toList [46]).2] (by exact R_pair.mk w2 ⟨#[46]⟩ hz2) ?_
      simp only [↓evP, evB, stB, reduceIte, reduceCtorEq, Nat.reduceEqDiff, Nat.reduceAdd, Nat.reduceMul, Nat.reduceLeDiff, Nat.reduceLT, Nat.reduceSub, Nat.reduceBEq, h0, h2, h4, h5, g2, g5, o2, o5]
      exact hQ _ ⟨by simp only [stB, reduceIte, reduceCtorEq, Nat.reduceEqDiff, Nat.reduceAdd, Nat.reduceMul, Nat.reduceLeDiff, Nat.reduceLT, Nat.reduceSub, Nat.reduceBEq, h0], by simp only [stB, reduceIte, reduceCtorEq, Nat.reduceEqDiff, Nat.reduceAdd, Nat.reduceMul, Nat.reduceLeDiff, Nat.reduceLT, Nat.reduceSub, Nat.reduceBEq, h2], by simp only [stB, reduceIte, reduceCtorEq, Nat.reduceEqDiff, Nat.reduceAdd, Nat.reduceMul, Nat.reduceLeDiff, Nat.reduceLT, Nat.reduceSub, Nat.reduceBEq, h5], by simp only [stB, reduceIte, reduceCtorEq, Nat.reduceEqDiff, Nat.reduceAdd, Nat.reduceMul, Nat.reduceLeDiff, Nat.reduceLT, Nat.reduceSub, Nat.reduceBEq, g2], by simp only [stB, reduceIte, reduceCtorEq, Nat.reduceEqDiff, Nat.reduceAdd, Nat.reduceMul, Nat.reduceLeDiff, Nat.reduceLT, Nat.reduceSub, Nat.reduceBEq, g5], by simp only [stB, reduceIte, reduceCtorEq, Nat.reduceEqDiff, Nat.reduceAdd, Nat.reduceMul, Nat.reduceLeDiff, Nat.reduceLT, Nat.reduceSub, Nat.reduceBEq, o2]; rfl, by simp only [stB, reduceIte, reduceCtorEq, Nat.reduceEqDiff, Nat.reduceAdd, Nat.reduceMul, Nat.reduceLeDiff, Nat.reduceLT, Nat.reduceSub, Nat.reduceBEq, o5]; rfl⟩ (by simp only [stB, reduceIte, reduceCtorEq, Nat.reduceEqDiff, Nat.reduceAdd, Nat.reduceMul, Nat.reduceLeDiff, Nat.reduceLT, Nat.reduceSub, Nat.reduceBEq, h4])

theorem ws_split {ws : List ByteArray} (h1 : ¬ ws.length < 5) (h2 : ¬ 6 < ws.length) : ∃ w0 w1 w2 w3 a b pre, ws = pre ++ [a, b] ∧ pre.length ≤ 4 ∧ ws[0]? = some w0 ∧ ws[1]? = some w1 ∧ ws[2]? = some w2 ∧ ws[3]? = some w3 ∧ ws[ws.length - 2]? = some a ∧ ws[ws.length - 1]? = some b := by
  match ws, h1, h2 with
  | [x0, x1, x2, x3, x4], _, _ => exact ⟨x0, x1, x2, x3, x3, x4, [x0, x1, x2], rfl, by simp, rfl, rfl, rfl, rfl, rfl, rfl⟩
  | [x0, x1, x2, x3, x4, x5], _, _ => exact ⟨x0, x1, x2, x3, x4, x5, [x0, x1, x2, x3], rfl, by simp, rfl, rfl, rfl, rfl, rfl, rfl⟩
  | [], h, _ => simp at h
  | [_], h, _ => simp at h
  | [_, _], h, _ => simp at h
  | [_, _, _], h, _ => simp at h
  | [_, _, _, _], h, _ => simp at h
  | _ :: _ :: _ :: _ :: _ :: _ :: _ :: r, _, h => simp at h
theorem getD_map {ws : List ByteArray} {i : Nat} {w : ByteArray} (h : ws[i]? = some w) : (ws.map (·.data.toList)).getD i [] = w.data.toList := by
  rw [List.getD_eq_getElem?_getD, List.getElem?_map, h]; rfl
def R_eread (ps rs : List Pa) : Prop := ∃ s : ByteArray, ps = [pS s] ∧ s.size ≤ 100000 ∧ rs = readPa (readE s)
theorem R_eread.mk {s : ByteArray} (h : s.size ≤ 100000) : R_eread [pS s] (readPa (readE s)) := ⟨s, rfl, h, rfl⟩
theorem s_eread : Spec Tryd.prog 15 R_eread := by
  refine spj15 env_eread_ok ?_
  rintro ps rs ⟨s, rfl, hs, rfl⟩
  refine ⟨by simp, ?_⟩
  have hwl : (wordsE s).length = (splitL s ⟨#[32]⟩).length := by unfold wordsE; rw [List.length_map]
  have hcap : (splitL s ⟨#[32]⟩).length ≤ 1000000000 ∨ True := .inr trivial
  unfold pcj15
  refine pwp_start ?_
  simp only [↓evP, evB, stB, reduceIte, reduceCtorEq, Nat.reduceEqDiff, Nat.reduceAdd, Nat.reduceMul, Nat.reduceLeDiff, Nat.reduceLT, Nat.reduceSub, Nat.reduceBEq]
  refine callOps_intro [pL (splitL s ⟨#[32]⟩)] (by exact ⟨s, ⟨#[32]⟩, by omega, by decide, rfl, rfl⟩) ?_
  have hword := splitB_word ⟨#[32]⟩ (Lib.countB s ⟨#[32]⟩) s
  generalize hW : splitL s ⟨#[32]⟩ = ws at *
  have hlen := rowsS_len ws
  by_cases z5 : (ws.length : Int) < 5
  · have hr : readE s = none := by unfold readE; rw [if_pos (.inl (by omega))]
    simp only [↓evP, evB, stB, reduceIte, reduceCtorEq, Nat.reduceEqDiff, Nat.reduceAdd, Nat.reduceMul, Nat.reduceLeDiff, Nat.reduceLT, Nat.reduceSub, Nat.reduceBEq, hlen, z5, decide_true, hr, readPa, prj15]
    rfl
  by_cases z6 : (ws.length : Int) > 6
  · have hr : readE s = none := by unfold readE; rw [if_pos (.inr (by omega))]
    simp only [↓evP, evB, stB, reduceIte, reduceCtorEq, Nat.reduceEqDiff, Nat.reduceAdd, Nat.reduceMul, Nat.reduceLeDiff, Nat.reduceLT, Nat.reduceSub, Nat.reduceBEq, hlen, z5, z6, decide_true, decide_false, hr, readPa, prj15]
    rfl
  obtain ⟨w0, w1, w2, w3, a, b, pre, hpre, hpl, i0, i1, i2, i3, ia, ib⟩ := ws_split (ws := ws) (by omega) (by omega)
  have hsz : ∀ (i : Nat) (w : ByteArray), ws[i]? = some w → w.size ≤ 1000000 := fun i w h => by
    have := hword w (by have h1 := List.mem_of_getElem? h; rw [← hW] at h1; exact h1)
    omega
  have r0 := rowsS_get i0
  have r1 := rowsS_get i1
  have n0 : ((0 : Int) ≤ 0) = True := by simp
  have n1 : ((0 : Int) ≤ 1) = True := by simp
  have t1 : (1 : Int).toNat = 1 := rfl
  simp only [↓evP, evB, stB, reduceIte, reduceCtorEq, Nat.reduceEqDiff, Nat.reduceAdd, Nat.reduceMul, Nat.reduceLeDiff, Nat.reduceLT, Nat.reduceSub, Nat.reduceBEq, hlen, z5, z6, decide_false, r0, n0, Int.toNat_zero]
  refine callD_intro [pI (numE w0.data.toList [103])] (by exact R_number.mk w0 ⟨#[103]⟩ (hsz _ _ i0)) ?_
  simp only [↓evP, evB, stB, reduceIte, reduceCtorEq, Nat.reduceEqDiff, Nat.reduceAdd, Nat.reduceMul, Nat.reduceLeDiff, Nat.reduceLT, Nat.reduceSub, Nat.reduceBEq, r1, n1, t1]
  refine callD_intro [pI (kindIx w1.data.toList)] (by exact R_kindOf.mk w1) ?_
  simp only [↓evP, evB, stB, reduceIte, reduceCtorEq, Nat.reduceEqDiff, Nat.reduceAdd, Nat.reduceMul, Nat.reduceLeDiff, Nat.reduceLT, Nat.reduceSub, Nat.reduceBEq]
  refine ⟨(by unfold Drw; refine Eq.trans (b := true) ?_ rfl; kernel_rfl), ?_⟩
  try simp only [↓evP, evB, stB, reduceIte, reduceCtorEq, Nat.reduceEqDiff, Nat.reduceAdd, Nat.reduceMul, Nat.reduceLeDiff, Nat.reduceLT, Nat.reduceSub, Nat.reduceBEq]
  generalize hE0 : ({ Ev.zero with g := numE w0.data.toList [103], kind := kindIx w1.data.toList } : Ev) = E0
  have hev : evOf (wordsE s) = evEnd (midE E0 w2.data.toList w3.data.toList) a.data.toList b.data.toList := by
    unfold evOf wordsE
    rw [hW, getD_map i0, getD_map i1, getD_map i2, getD_map i3, List.length_map, getD_map ia, getD_map ib, ← hE0]
    rfl
  have hres : readPa (readE s) = endE s (evEnd (midE E0 w2.data.toList w3.data.toList) a.data.toList b.data.toList) := by
    unfold readE endE
    rw [if_neg (by omega), hev]
    split <;> rfl
  rw [hres]
  refine read_mid (s := s) (e := E0) i2 i3 (hsz _ _ i2) (hsz _ _ i3) _ (fun st hst h4 => ?_) _ ⟨by simp only [stB, reduceIte, reduceCtorEq, Nat.reduceEqDiff, Nat.reduceAdd, Nat.reduceMul, Nat.reduceLeDiff, Nat.reduceLT, Nat.reduceSub, Nat.reduceBEq], by simp only [stB, reduceIte, reduceCtorEq, Nat.reduceEqDiff, Nat.reduceAdd, Nat.reduceMul, Nat.reduceLeDiff, Nat.reduceLT, Nat.reduceSub, Nat.reduceBEq], by simp only [stB, reduceIte, reduceCtorEq, Nat.reduceEqDiff, Nat.reduceAdd, Nat.reduceMul, Nat.reduceLeDiff, Nat.reduceLT, Nat.reduceSub, Nat.reduceBEq], by simp only [stB, reduceIte, reduceCtorEq, Nat.reduceEqDiff, Nat.reduceAdd, Nat.reduceMul, Nat.reduceLeDiff, Nat.reduceLT, Nat.reduceSub, Nat.reduceBEq], by simp only [stB, reduceIte, reduceCtorEq, Nat.reduceEqDiff, Nat.reduceAdd, Nat.reduceMul, Nat.reduceLeDiff, Nat.reduceLT, Nat.reduceSub, Nat.reduceBEq], by simp only [stB, reduceIte, reduceCtorEq, Nat.reduceEqDiff, Nat.reduceAdd, Nat.reduceMul, Nat.reduceLeDiff, Nat.reduceLT, Nat.reduceSub, Nat.reduceBEq]; rfl, by rw [← hE0]; simp only [stB, reduceIte, reduceCtorEq, Nat.reduceEqDiff, Nat.reduceAdd, Nat.reduceMul, Nat.reduceLeDiff, Nat.reduceLT, Nat.reduceSub, Nat.reduceBEq]; rfl⟩ (by simp only [stB, reduceIte, reduceCtorEq, Nat.reduceEqDiff, Nat.reduceAdd, Nat.reduceMul, Nat.reduceLeDiff, Nat.reduceLT, Nat.reduceSub, Nat.reduceBEq])
  rw [hpre] at h4
  exact read_tail (by omega) (hsz _ _ ia) (hsz _ _ ib) _ (fun st h => ⟨.inr rfl, h⟩) st hst h4
end Go.Proofs.YthnjbnfnljjepabDoor
end
section
set_option linter.unusedSimpArgs false
set_option linter.unusedVariables false
namespace Go.Proofs.YthnjbnfnljjepabDoor
open Go Go.RowKit
set_option maxRecDepth 1000000
set_option maxHeartbeats 8000000

theorem eq9 (a b c d e f g h i : Int) : eqCls [false, false, false, false, false, false, false, false, false] [.d (dI a), .d (dI b), .d (dI c), .d (dI d), .d (dI e), .d (dI f), .d (dI g), .d (dI h), .d (dI i)] [.d (dI a), .d (dI b), .d (dI c), .d (dI d), .d (dI e), .d (dI f), .d (dI g), .d (dI h), .d (dI i)] = some true := by
  simp [eqCls, eqCl]
/-! the examples of the document -/
def xvA : Ev := ⟨2, 2, 17, 3, 0, 0, 4, 12, 5⟩
def xvB : Ev := ⟨1, 15, 9, 0, 3, 2, 4, 12, 5⟩
def txA : List UInt8 := [103, 50, 32, 119, 114, 105, 116, 101, 32, 49, 55, 46, 51, 32, 64, 52, 58, 49, 50, 32, 35, 53]
def txB : List UInt8 := [103, 49, 32, 115, 101, 110, 100, 45, 115, 116, 97, 114, 116, 32, 57, 32, 51, 47, 50, 32, 64, 52, 58, 49, 50, 32, 35, 53]
def txF : List UInt8 := [103, 48, 49, 32, 114, 101, 97, 100, 32, 49, 46, 48, 32, 64, 48, 58, 48, 32, 35, 48]
theorem text_A : etext xvA = txA := by kernel_rfl
theorem text_B : etext xvB = txB := by kernel_rfl
theorem read_B : readE (strB txB) = some xvB := by rw [← text_B]; exact readE_text (by kernel_rfl)
theorem words_F : wordsE (strB txF) = [[103, 48, 49], [114, 101, 97, 100], [49, 46, 48], [64, 48, 58, 48], [35, 48]] := by
  rw [show txF = Lib.join [[103, 48, 49], [114, 101, 97, 100], [49, 46, 48], [64, 48, 58, 48], [35, 48]] [32] by kernel_rfl]
  exact wordsE_join (by simp) (by decide)
theorem read_F : readE (strB txF) = none := by
  have h1 : evOf [[103, 48, 49], [114, 101, 97, 100], [49, 46, 48], [64, 48, 58, 48], [35, 48]] = ⟨1, 1, 1, 0, 0, 0, 0, 0, 0⟩ := by kernel_rfl
  have h2 : etext ⟨1, 1, 1, 0, 0, 0, 0, 0, 0⟩ ≠ txF := by
    rw [show etext ⟨1, 1, 1, 0, 0, 0, 0, 0, 0⟩ = [103, 49, 32, 114, 101, 97, 100, 32, 49, 46, 48, 32, 64, 48, 58, 48, 32, 35, 48] by kernel_rfl]
    decide
  unfold readE
  rw [words_F, h1, if_neg (by decide), if_neg (fun h => h2 h.2)]
def R_awake20 (ps rs : List Pa) : Prop := ps = [] ∧ rs = [pB true]
def env_awake20 : Env := e1 15 R_eread (e1 13 R_etext (e1 19 (R_kB memB) (e1 25 (R_kB relB) e0)))
theorem env_awake20_ok : EnvOK Tryd.prog env_awake20 := EnvOK.e1 s_eread (EnvOK.e1 s_etext (EnvOK.e1 s_memory (EnvOK.e1 s_rel EnvOK.e0)))
theorem s_awake20 : Spec Tryd.prog 10 R_awake20 := by
  refine sp10 env_awake20_ok ?_
  rintro ps rs ⟨rfl, rfl⟩
  refine ⟨by simp, ?_⟩
  have rB : R_eread [pS (strB txB)] [xvB.pa, pI 0] := by
    have h := R_eread.mk (s := strB txB) (by decide)
    rw [read_B] at h; exact h
  have rF : R_eread [pS (strB txF)] [Ev.zero.pa, pI 8] := by
    have h := R_eread.mk (s := strB txF) (by decide)
    rw [read_F] at h; exact h
  have tA := R_etext.mk xvA
  rw [text_A] at tA
  have hse : ((strB txA).toList == (strB txA).toList) = true := by rw [strings_eq]; simp
  have q0 : ((0 : Int) == 0) = true := rfl
  have q8 : ((8 : Int) == 8) = true := rfl
  unfold pc10
  refine pwp_start ?_
  simp only [↓evP, evB, stB, reduceIte, reduceCtorEq, Nat.reduceEqDiff, Nat.reduceAdd, Nat.reduceMul, Nat.reduceLeDiff, Nat.reduceLT, Nat.reduceSub, Nat.reduceBEq]
  refine callOps_intro [xvB.pa, pI 0] (by exact rB) ?_
  simp only [↓evP, evB, stB, reduceIte, reduceCtorEq, Nat.reduceEqDiff, Nat.reduceAdd, Nat.reduceMul, Nat.reduceLeDiff, Nat.reduceLT, Nat.reduceSub, Nat.reduceBEq, Ev.pa, Ev.row, xvB, List.map_cons, List.map_nil]
  refine callOps_intro [Ev.zero.pa, pI 8] (by exact rF) ?_
  simp only [↓evP, evB, stB, reduceIte, reduceCtorEq, Nat.reduceEqDiff, Nat.reduceAdd, Nat.reduceMul, Nat.reduceLeDiff, Nat.reduceLT, Nat.reduceSub, Nat.reduceBEq, Ev.pa, Ev.row, xvB, Ev.zero, List.map_cons, List.map_nil]
  refine callOps_intro [pS (strB txA)] (by exact tA) ?_
  have hse' : ((strB txA).toList == (⟨#[103, 50, 32, 119, 114, 105, 116, 101, 32, 49, 55, 46, 51, 32, 64, 52, 58, 49, 50, 32, 35, 53]⟩ : ByteArray).toList) = true := hse
  have e9 := eq9 1 15 9 0 3 2 4 12 5
  simp only [↓evP, evB, stB, reduceIte, reduceCtorEq, Nat.reduceEqDiff, Nat.reduceAdd, Nat.reduceMul, Nat.reduceLeDiff, Nat.reduceLT, Nat.reduceSub, Nat.reduceBEq, hse', q0, q8, e9]
  refine callOps_intro [pB true] (by exact (R_kB.mk (b := memB) 1)) ?_
  simp only [↓evP, evB, stB, reduceIte, reduceCtorEq, Nat.reduceEqDiff, Nat.reduceAdd, Nat.reduceMul, Nat.reduceLeDiff, Nat.reduceLT, Nat.reduceSub, Nat.reduceBEq]
  refine callOps_intro [pB true] (by exact (R_kB.mk (b := relB) 14)) ?_
  simp only [↓evP, evB, stB, reduceIte, reduceCtorEq, Nat.reduceEqDiff, Nat.reduceAdd, Nat.reduceMul, Nat.reduceLeDiff, Nat.reduceLT, Nat.reduceSub, Nat.reduceBEq, pr10]

/-! conflicts -/
def confB (a b : Ev) : Bool := memB a.kind && (memB b.kind && ((a.g != b.g) && ((a.obj == b.obj) && ((a.off == b.off) && ((a.kind == 2) || (b.kind == 2))))))
def R_conf (ps rs : List Pa) : Prop := ∃ a b : Ev, ps = [a.pa, b.pa] ∧ rs = [pB (confB a b)]
theorem R_conf.mk (a b : Ev) : R_conf [a.pa, b.pa] [pB (confB a b)] := ⟨a, b, rfl, rfl⟩
theorem max_kind {a b : Int} (ha : memB a = true) (hb : memB b = true) : ((if b > a then b else a) == 2) = ((a == 2) || (b == 2)) := by
  unfold memB at ha hb
  rw [decide_eq_true_eq] at ha hb
  rcases ha with rfl | rfl <;> rcases hb with rfl | rfl <;> rfl
theorem confB_symm (a b : Ev) : confB b a = confB a b := by
  unfold confB
  rw [Bool.eq_iff_iff]
  simp only [Bool.and_eq_true, Bool.or_eq_true, bne_iff_ne, beq_iff_eq, ne_eq]
  constructor
  · rintro ⟨h1, h2, h3, h4, h5, h6⟩
    exact ⟨h2, h1, fun h => h3 h.symm, h4.symm, h5.symm, h6.symm⟩
  · rintro ⟨h1, h2, h3, h4, h5, h6⟩
    exact ⟨h2, h1, fun h => h3 h.symm, h4.symm, h5.symm, h6.symm⟩
theorem confB_self (a : Ev) : confB a a = false := by unfold confB; simp
theorem s_conf : Spec Tryd.prog 18 R_conf := by
  refine sp18 (EnvOK.e1 s_memory EnvOK.e0) ?_
  rintro ps rs ⟨a, b, rfl, rfl⟩
  refine ⟨by simp, ?_⟩
  have hc : confB a b = (memB a.kind && (memB b.kind && ((a.g != b.g) && ((a.obj == b.obj) && ((a.off == b.off) && ((a.kind == 2) || (b.kind == 2))))))) := rfl
  generalize confB a b = C at *
  unfold pc18
  refine pwp_start ?_
  simp only [↓evP, evB, stB, reduceIte, reduceCtorEq, Nat.reduceEqDiff, Nat.reduceAdd, Nat.reduceMul, Nat.reduceLeDiff, Nat.reduceLT, Nat.reduceSub, Nat.reduceBEq, Ev.pa, Ev.row, List.map_cons, List.map_nil]
  refine callOps_intro [pB (memB a.kind)] (by exact R_kB.mk a.kind) ?_
  cases h1 : memB a.kind with
  | false =>
    rw [h1] at hc
    simp only [Bool.false_and] at hc
    subst hc
    simp only [↓evP, evB, stB, reduceIte, reduceCtorEq, Nat.reduceEqDiff, Nat.reduceAdd, Nat.reduceMul, Nat.reduceLeDiff, Nat.reduceLT, Nat.reduceSub, Nat.reduceBEq, Ev.pa, Ev.row, List.map_cons, List.map_nil, pr18]
  | true =>
  simp only [↓evP, evB, stB, reduceIte, reduceCtorEq, Nat.reduceEqDiff, Nat.reduceAdd, Nat.reduceMul, Nat.reduceLeDiff, Nat.reduceLT, Nat.reduceSub, Nat.reduceBEq, Ev.pa, Ev.row, List.map_cons, List.map_nil]
  refine callOps_intro [pB (memB b.kind)] (by exact R_kB.mk b.kind) ?_
  cases h2 : memB b.kind with
  | false =>
    rw [h1, h2] at hc
    simp only [Bool.false_and, Bool.true_and] at hc
    subst hc
    simp only [↓evP, evB, stB, reduceIte, reduceCtorEq, Nat.reduceEqDiff, Nat.reduceAdd, Nat.reduceMul, Nat.reduceLeDiff, Nat.reduceLT, Nat.reduceSub, Nat.reduceBEq, Ev.pa, Ev.row, List.map_cons, List.map_nil, pr18]
  | true =>
  rw [h1, h2] at hc
  simp only [Bool.true_and] at hc
  cases h3 : a.g != b.g with
  | false =>
    rw [h3] at hc
    simp only [Bool.false_and] at hc
    subst hc
    simp only [↓evP, evB, stB, reduceIte, reduceCtorEq, Nat.reduceEqDiff, Nat.reduceAdd, Nat.reduceMul, Nat.reduceLeDiff, Nat.reduceLT, Nat.reduceSub, Nat.reduceBEq, Ev.pa, Ev.row, List.map_cons, List.map_nil, h3, pr18]
  | true =>
  cases h4 : a.obj == b.obj with
  | false =>
    rw [h3, h4] at hc
    simp only [Bool.false_and, Bool.true_and] at hc
    subst hc
    simp only [↓evP, evB, stB, reduceIte, reduceCtorEq, Nat.reduceEqDiff, Nat.reduceAdd, Nat.reduceMul, Nat.reduceLeDiff, Nat.reduceLT, Nat.reduceSub, Nat.reduceBEq, Ev.pa, Ev.row, List.map_cons, List.map_nil, h3, h4, pr18]
  | true =>
  cases h5 : a.off == b.off with
  | false =>
    rw [h3, h4, h5] at hc
    simp only [Bool.false_and, Bool.true_and] at hc
    subst hc
    simp only [↓evP, evB, stB, reduceIte, reduceCtorEq, Nat.reduceEqDiff, Nat.reduceAdd, Nat.reduceMul, Nat.reduceLeDiff, Nat.reduceLT, Nat.reduceSub, Nat.reduceBEq, Ev.pa, Ev.row, List.map_cons, List.map_nil, h3, h4, h5, pr18]
  | true =>
  rw [h3, h4, h5] at hc
  simp only [Bool.true_and] at hc
  have hm := max_kind h1 h2
  rw [← hc] at hm
  simp only [↓evP, evB, stB, reduceIte, reduceCtorEq, Nat.reduceEqDiff, Nat.reduceAdd, Nat.reduceMul, Nat.reduceLeDiff, Nat.reduceLT, Nat.reduceSub, Nat.reduceBEq, Ev.pa, Ev.row, List.map_cons, List.map_nil, h3, h4, h5, hm, scMM, List.foldl_cons, List.foldl_nil, pr18]
theorem s_rconf : Spec Tryd.prog 17 R_conf := by
  refine sp17 (EnvOK.e1 s_rmemory EnvOK.e0) ?_
  rintro ps rs ⟨a, b, rfl, rfl⟩
  refine ⟨by simp, ?_⟩
  have hc : confB a b = (memB a.kind && (memB b.kind && ((a.g != b.g) && ((a.obj == b.obj) && ((a.off == b.off) && ((a.kind == 2) || (b.kind == 2))))))) := rfl
  generalize confB a b = C at *
  unfold pc17
  refine pwp_start ?_
  simp only [↓evP, evB, stB, reduceIte, reduceCtorEq, Nat.reduceEqDiff, Nat.reduceAdd, Nat.reduceMul, Nat.reduceLeDiff, Nat.reduceLT, Nat.reduceSub, Nat.reduceBEq, Ev.pa, Ev.row, List.map_cons, List.map_nil]
  refine callOps_intro [pB (memB a.kind)] (by exact R_kB.mk a.kind) ?_
  cases h1 : memB a.kind with
  | false =>
    rw [h1] at hc
    simp only [Bool.false_and] at hc
    subst hc
    simp only [↓evP, evB, stB, reduceIte, reduceCtorEq, Nat.reduceEqDiff, Nat.reduceAdd, Nat.reduceMul, Nat.reduceLeDiff, Nat.reduceLT, Nat.reduceSub, Nat.reduceBEq, Ev.pa, Ev.row, List.map_cons, List.map_nil, pr17]
  | true =>
  simp only [↓evP, evB, stB, reduceIte, reduceCtorEq, Nat.reduceEqDiff, Nat.reduceAdd, Nat.reduceMul, Nat.reduceLeDiff, Nat.reduceLT, Nat.reduceSub, Nat.reduceBEq, Ev.pa, Ev.row, List.map_cons, List.map_nil]
  refine callOps_intro [pB (memB b.kind)] (by exact R_kB.mk b.kind) ?_
  cases h2 : memB b.kind with
  | false =>
    rw [h1, h2] at hc
    simp only [Bool.false_and, Bool.true_and] at hc
    subst hc
    simp only [↓evP, evB, stB, reduceIte, reduceCtorEq, Nat.reduceEqDiff, Nat.reduceAdd, Nat.reduceMul, Nat.reduceLeDiff, Nat.reduceLT, Nat.reduceSub, Nat.reduceBEq, Ev.pa, Ev.row, List.map_cons, List.map_nil, pr17]
  | true =>
  rw [h1, h2] at hc
  simp only [Bool.true_and] at hc
  cases h3 : a.g != b.g with
  | false =>
    rw [h3] at hc
    simp only [Bool.false_and] at hc
    subst hc
    simp only [↓evP, evB, stB, reduceIte, reduceCtorEq, Nat.reduceEqDiff, Nat.reduceAdd, Nat.reduceMul, Nat.reduceLeDiff, Nat.reduceLT, Nat.reduceSub, Nat.reduceBEq, Ev.pa, Ev.row, List.map_cons, List.map_nil, h3, pr17]
  | true =>
  cases h4 : a.obj == b.obj with
  | false =>
    rw [h3, h4] at hc
    simp only [Bool.false_and, Bool.true_and] at hc
    subst hc
    simp only [↓evP, evB, stB, reduceIte, reduceCtorEq, Nat.reduceEqDiff, Nat.reduceAdd, Nat.reduceMul, Nat.reduceLeDiff, Nat.reduceLT, Nat.reduceSub, Nat.reduceBEq, Ev.pa, Ev.row, List.map_cons, List.map_nil, h3, h4, pr17]
  | true =>
  cases h5 : a.off == b.off with
  | false =>
    rw [h3, h4, h5] at hc
    simp only [Bool.false_and, Bool.true_and] at hc
    subst hc
    simp only [↓evP, evB, stB, reduceIte, reduceCtorEq, Nat.reduceEqDiff, Nat.reduceAdd, Nat.reduceMul, Nat.reduceLeDiff, Nat.reduceLT, Nat.reduceSub, Nat.reduceBEq, Ev.pa, Ev.row, List.map_cons, List.map_nil, h3, h4, h5, pr17]
  | true =>
  rw [h3, h4, h5] at hc
  simp only [Bool.true_and] at hc
  cases h6 : a.kind == 2 with
  | true =>
    rw [h6] at hc
    simp only [Bool.true_or] at hc
    subst hc
    simp only [↓evP, evB, stB, reduceIte, reduceCtorEq, Nat.reduceEqDiff, Nat.reduceAdd, Nat.reduceMul, Nat.reduceLeDiff, Nat.reduceLT, Nat.reduceSub, Nat.reduceBEq, Ev.pa, Ev.row, List.map_cons, List.map_nil, h3, h4, h5, h6, pr17]
  | false =>
    rw [h6] at hc
    simp only [Bool.false_or] at hc
    subst hc
    simp only [↓evP, evB, stB, reduceIte, reduceCtorEq, Nat.reduceEqDiff, Nat.reduceAdd, Nat.reduceMul, Nat.reduceLeDiff, Nat.reduceLT, Nat.reduceSub, Nat.reduceBEq, Ev.pa, Ev.row, List.map_cons, List.map_nil, h3, h4, h5, h6, pr17]
def env20 : Env := e1 10 R_awake20 (e1 11 R_valid20 (e1 12 R_valid20 (e1 19 (R_kB memB) (e1 20 (R_kB memB) (e1 21 (R_kB chanB) (e1 22 R_channel20 (e1 23 (R_kB acqB) (e1 24 (R_kB acqB) (e1 25 (R_kB relB) (e1 26 (R_kB relB) (e1 18 R_conf (e1 17 R_conf e0))))))))))))
theorem env20_ok : EnvOK Tryd.prog env20 := EnvOK.e1 s_awake20 (EnvOK.e1 s_valid (EnvOK.e1 s_valid20 (EnvOK.e1 s_memory (EnvOK.e1 s_rmemory (EnvOK.e1 s_channel (EnvOK.e1 s_channel20 (EnvOK.e1 s_acq (EnvOK.e1 s_racq (EnvOK.e1 s_rel (EnvOK.e1 s_rrel (EnvOK.e1 s_conf (EnvOK.e1 s_rconf EnvOK.e0))))))))))))
def R_lvalid (ps rs : List Pa) : Prop := ∃ e : Ev, ps = [e.pa] ∧ rs = [pB true]
theorem s_lvalid : Spec Tryd.prog 3 R_lvalid := by
  refine sp3 env20_ok ?_
  rintro ps rs ⟨e, rfl, rfl⟩
  refine ⟨by simp, ?_⟩
  have q : (e.valid == e.valid) = true := by simp
  unfold pc3
  refine pwp_start ?_
  simp only [↓evP, evB, stB, reduceIte, reduceCtorEq, Nat.reduceEqDiff, Nat.reduceAdd, Nat.reduceMul, Nat.reduceLeDiff, Nat.reduceLT, Nat.reduceSub, Nat.reduceBEq, Ev.pa, Ev.row, List.map_cons, List.map_nil]
  refine callOps_intro [pB true] ⟨rfl, rfl⟩ ?_
  simp only [↓evP, evB, stB, reduceIte, reduceCtorEq, Nat.reduceEqDiff, Nat.reduceAdd, Nat.reduceMul, Nat.reduceLeDiff, Nat.reduceLT, Nat.reduceSub, Nat.reduceBEq, Ev.pa, Ev.row, List.map_cons, List.map_nil]
  refine callD_intro [pB e.valid] (by exact ⟨e, rfl, rfl⟩) ?_
  simp only [↓evP, evB, stB, reduceIte, reduceCtorEq, Nat.reduceEqDiff, Nat.reduceAdd, Nat.reduceMul, Nat.reduceLeDiff, Nat.reduceLT, Nat.reduceSub, Nat.reduceBEq, Ev.pa, Ev.row, List.map_cons, List.map_nil]
  refine callD_intro [pB e.valid] (by exact ⟨e, rfl, rfl⟩) ?_
  simp only [↓evP, evB, stB, reduceIte, reduceCtorEq, Nat.reduceEqDiff, Nat.reduceAdd, Nat.reduceMul, Nat.reduceLeDiff, Nat.reduceLT, Nat.reduceSub, Nat.reduceBEq, Ev.pa, Ev.row, List.map_cons, List.map_nil, q, pr3]
  exact (by unfold Drw; refine Eq.trans (b := true) ?_ rfl; kernel_rfl)
def R_lconf (ps rs : List Pa) : Prop := ∃ a b : Ev, ps = [a.pa, b.pa] ∧ rs = [pB true]
theorem s_lconf : Spec Tryd.prog 7 R_lconf := by
  refine sp7 env20_ok ?_
  rintro ps rs ⟨a, b, rfl, rfl⟩
  refine ⟨by simp, ?_⟩
  have q : (confB a b == confB a b) = true := by simp
  unfold pc7
  refine pwp_start ?_
  simp only [↓evP, evB, stB, reduceIte, reduceCtorEq, Nat.reduceEqDiff, Nat.reduceAdd, Nat.reduceMul, Nat.reduceLeDiff, Nat.reduceLT, Nat.reduceSub, Nat.reduceBEq, Ev.pa, Ev.row, List.map_cons, List.map_nil]
  refine callOps_intro [pB true] ⟨rfl, rfl⟩ ?_
  simp only [↓evP, evB, stB, reduceIte, reduceCtorEq, Nat.reduceEqDiff, Nat.reduceAdd, Nat.reduceMul, Nat.reduceLeDiff, Nat.reduceLT, Nat.reduceSub, Nat.reduceBEq, Ev.pa, Ev.row, List.map_cons, List.map_nil]
  refine callOps_intro [pB (confB a b)] (by exact R_conf.mk a b) ?_
  simp only [↓evP, evB, stB, reduceIte, reduceCtorEq, Nat.reduceEqDiff, Nat.reduceAdd, Nat.reduceMul, Nat.reduceLeDiff, Nat.reduceLT, Nat.reduceSub, Nat.reduceBEq, Ev.pa, Ev.row, List.map_cons, List.map_nil]
  refine callOps_intro [pB (confB a b)] (by exact R_conf.mk a b) ?_
  simp only [↓evP, evB, stB, reduceIte, reduceCtorEq, Nat.reduceEqDiff, Nat.reduceAdd, Nat.reduceMul, Nat.reduceLeDiff, Nat.reduceLT, Nat.reduceSub, Nat.reduceBEq, Ev.pa, Ev.row, List.map_cons, List.map_nil, q]
  refine callOps_intro [pB (confB a b)] (by rw [← confB_symm]; exact R_conf.mk b a) ?_
  simp only [↓evP, evB, stB, reduceIte, reduceCtorEq, Nat.reduceEqDiff, Nat.reduceAdd, Nat.reduceMul, Nat.reduceLeDiff, Nat.reduceLT, Nat.reduceSub, Nat.reduceBEq, Ev.pa, Ev.row, List.map_cons, List.map_nil, q]
  refine callOps_intro [pB false] (by rw [← confB_self a]; exact R_conf.mk a a) ?_
  simp only [↓evP, evB, stB, reduceIte, reduceCtorEq, Nat.reduceEqDiff, Nat.reduceAdd, Nat.reduceMul, Nat.reduceLeDiff, Nat.reduceLT, Nat.reduceSub, Nat.reduceBEq, Ev.pa, Ev.row, List.map_cons, List.map_nil, q, pr7]
def R_lkinds (ps rs : List Pa) : Prop := ∃ k : Int, ps = [pI k] ∧ rs = [pB true]
theorem s_lkinds : Spec Tryd.prog 8 R_lkinds := by
  refine sp8 env20_ok ?_
  rintro ps rs ⟨k, rfl, rfl⟩
  refine ⟨by simp, ?_⟩
  have q1 : (memB k == memB k) = true := by simp
  have q2 : (chanB k == chanB k) = true := by simp
  have q3 : (acqB k == acqB k) = true := by simp
  have q4 : (relB k == relB k) = true := by simp
  unfold pc8
  refine pwp_start ?_
  simp only [↓evP, evB, stB, reduceIte, reduceCtorEq, Nat.reduceEqDiff, Nat.reduceAdd, Nat.reduceMul, Nat.reduceLeDiff, Nat.reduceLT, Nat.reduceSub, Nat.reduceBEq]
  refine callOps_intro [pB true] ⟨rfl, rfl⟩ ?_
  simp only [↓evP, evB, stB, reduceIte, reduceCtorEq, Nat.reduceEqDiff, Nat.reduceAdd, Nat.reduceMul, Nat.reduceLeDiff, Nat.reduceLT, Nat.reduceSub, Nat.reduceBEq]
  refine callOps_intro [pB (memB k)] (by exact R_kB.mk k) ?_
  simp only [↓evP, evB, stB, reduceIte, reduceCtorEq, Nat.reduceEqDiff, Nat.reduceAdd, Nat.reduceMul, Nat.reduceLeDiff, Nat.reduceLT, Nat.reduceSub, Nat.reduceBEq]
  refine callOps_intro [pB (memB k)] (by exact R_kB.mk k) ?_
  simp only [↓evP, evB, stB, reduceIte, reduceCtorEq, Nat.reduceEqDiff, Nat.reduceAdd, Nat.reduceMul, Nat.reduceLeDiff, Nat.reduceLT, Nat.reduceSub, Nat.reduceBEq, q1]
  refine callOps_intro [pB (chanB k)] (by exact R_kB.mk k) ?_
  simp only [↓evP, evB, stB, reduceIte, reduceCtorEq, Nat.reduceEqDiff, Nat.reduceAdd, Nat.reduceMul, Nat.reduceLeDiff, Nat.reduceLT, Nat.reduceSub, Nat.reduceBEq, q1]
  refine callOps_intro [pB (chanB k)] (by exact ⟨k, rfl, rfl⟩) ?_
  simp only [↓evP, evB, stB, reduceIte, reduceCtorEq, Nat.reduceEqDiff, Nat.reduceAdd, Nat.reduceMul, Nat.reduceLeDiff, Nat.reduceLT, Nat.reduceSub, Nat.reduceBEq, q1, q2]
  refine callOps_intro [pB (acqB k)] (by exact R_kB.mk k) ?_
  simp only [↓evP, evB, stB, reduceIte, reduceCtorEq, Nat.reduceEqDiff, Nat.reduceAdd, Nat.reduceMul, Nat.reduceLeDiff, Nat.reduceLT, Nat.reduceSub, Nat.reduceBEq]
  refine callOps_intro [pB (acqB k)] (by exact R_kB.mk k) ?_
  simp only [↓evP, evB, stB, reduceIte, reduceCtorEq, Nat.reduceEqDiff, Nat.reduceAdd, Nat.reduceMul, Nat.reduceLeDiff, Nat.reduceLT, Nat.reduceSub, Nat.reduceBEq, q3]
  refine callOps_intro [pB (relB k)] (by exact R_kB.mk k) ?_
  simp only [↓evP, evB, stB, reduceIte, reduceCtorEq, Nat.reduceEqDiff, Nat.reduceAdd, Nat.reduceMul, Nat.reduceLeDiff, Nat.reduceLT, Nat.reduceSub, Nat.reduceBEq, q3]
  refine callOps_intro [pB (relB k)] (by exact R_kB.mk k) ?_
  simp only [↓evP, evB, stB, reduceIte, reduceCtorEq, Nat.reduceEqDiff, Nat.reduceAdd, Nat.reduceMul, Nat.reduceLeDiff, Nat.reduceLT, Nat.reduceSub, Nat.reduceBEq, q3, q4, pr8]
theorem sync_mem {k : Int} (h : (acqB k || relB k) = true) : memB k = false ∧ 1 ≤ k ∧ k ≤ 20 := by
  unfold acqB relB at h
  unfold memB
  simp only [Bool.or_eq_true, decide_eq_true_eq, decide_eq_false_iff_not] at *
  omega
theorem mem_chan {k : Int} (h : memB k = true) : chanB k = false ∧ 1 ≤ k ∧ k ≤ 20 := by
  unfold memB at h
  unfold chanB
  simp only [decide_eq_true_eq, decide_eq_false_iff_not] at *
  omega
theorem no_class {k : Int} (ha : acqB k = false) (hr : relB k = false) (hm : memB k = false) : ¬ (1 ≤ k ∧ k ≤ 20) := by
  unfold acqB at ha; unfold relB at hr; unfold memB at hm
  simp only [decide_eq_false_iff_not] at *
  omega
def R_lapart (ps rs : List Pa) : Prop := ∃ k : Int, ps = [pI k] ∧ rs = [pB true]
theorem s_lapart : Spec Tryd.prog 9 R_lapart := by
  refine sp9 env20_ok ?_
  rintro ps rs ⟨k, rfl, rfl⟩
  refine ⟨by simp, ?_⟩
  unfold pc9
  refine pwp_start ?_
  simp only [↓evP, evB, stB, reduceIte, reduceCtorEq, Nat.reduceEqDiff, Nat.reduceAdd, Nat.reduceMul, Nat.reduceLeDiff, Nat.reduceLT, Nat.reduceSub, Nat.reduceBEq]
  refine callOps_intro [pB true] ⟨rfl, rfl⟩ ?_
  simp only [↓evP, evB, stB, reduceIte, reduceCtorEq, Nat.reduceEqDiff, Nat.reduceAdd, Nat.reduceMul, Nat.reduceLeDiff, Nat.reduceLT, Nat.reduceSub, Nat.reduceBEq]
  refine callOps_intro [pB (acqB k)] (by exact R_kB.mk k) ?_
  have tt : (true == true) = true := rfl
  have ff : (false == false) = true := rfl
  cases ha : acqB k with
  | true =>
    obtain ⟨hm, k1, k2⟩ := sync_mem (k := k) (by rw [ha]; rfl)
    have g1 : k ≥ 1 := k1
    simp only [↓evP, evB, stB, reduceIte, reduceCtorEq, Nat.reduceEqDiff, Nat.reduceAdd, Nat.reduceMul, Nat.reduceLeDiff, Nat.reduceLT, Nat.reduceSub, Nat.reduceBEq]
    refine callOps_intro [pB false] (by rw [← hm]; exact R_kB.mk k) ?_
    simp only [↓evP, evB, stB, reduceIte, reduceCtorEq, Nat.reduceEqDiff, Nat.reduceAdd, Nat.reduceMul, Nat.reduceLeDiff, Nat.reduceLT, Nat.reduceSub, Nat.reduceBEq, g1, k2, decide_true, tt, pr9]
  | false =>
    simp only [↓evP, evB, stB, reduceIte, reduceCtorEq, Nat.reduceEqDiff, Nat.reduceAdd, Nat.reduceMul, Nat.reduceLeDiff, Nat.reduceLT, Nat.reduceSub, Nat.reduceBEq]
    refine callOps_intro [pB (relB k)] (by exact R_kB.mk k) ?_
    cases hr : relB k with
    | true =>
      obtain ⟨hm, k1, k2⟩ := sync_mem (k := k) (by rw [hr]; simp)
      have g1 : k ≥ 1 := k1
      simp only [↓evP, evB, stB, reduceIte, reduceCtorEq, Nat.reduceEqDiff, Nat.reduceAdd, Nat.reduceMul, Nat.reduceLeDiff, Nat.reduceLT, Nat.reduceSub, Nat.reduceBEq]
      refine callOps_intro [pB false] (by rw [← hm]; exact R_kB.mk k) ?_
      simp only [↓evP, evB, stB, reduceIte, reduceCtorEq, Nat.reduceEqDiff, Nat.reduceAdd, Nat.reduceMul, Nat.reduceLeDiff, Nat.reduceLT, Nat.reduceSub, Nat.reduceBEq, g1, k2, decide_true, tt, pr9]
    | false =>
      simp only [↓evP, evB, stB, reduceIte, reduceCtorEq, Nat.reduceEqDiff, Nat.reduceAdd, Nat.reduceMul, Nat.reduceLeDiff, Nat.reduceLT, Nat.reduceSub, Nat.reduceBEq]
      refine callOps_intro [pB (memB k)] (by exact R_kB.mk k) ?_
      cases hm : memB k with
      | true =>
        obtain ⟨hc, k1, k2⟩ := mem_chan hm
        have g1 : k ≥ 1 := k1
        simp only [↓evP, evB, stB, reduceIte, reduceCtorEq, Nat.reduceEqDiff, Nat.reduceAdd, Nat.reduceMul, Nat.reduceLeDiff, Nat.reduceLT, Nat.reduceSub, Nat.reduceBEq]
        refine callOps_intro [pB false] (by rw [← hc]; exact R_kB.mk k) ?_
        simp only [↓evP, evB, stB, reduceIte, reduceCtorEq, Nat.reduceEqDiff, Nat.reduceAdd, Nat.reduceMul, Nat.reduceLeDiff, Nat.reduceLT, Nat.reduceSub, Nat.reduceBEq]
        refine callOps_intro [pB true] (by rw [← hm]; exact R_kB.mk k) ?_
        simp only [↓evP, evB, stB, reduceIte, reduceCtorEq, Nat.reduceEqDiff, Nat.reduceAdd, Nat.reduceMul, Nat.reduceLeDiff, Nat.reduceLT, Nat.reduceSub, Nat.reduceBEq, g1, k2, decide_true, tt, pr9]
      | false =>
        have hn := no_class ha hr hm
        simp only [↓evP, evB, stB, reduceIte, reduceCtorEq, Nat.reduceEqDiff, Nat.reduceAdd, Nat.reduceMul, Nat.reduceLeDiff, Nat.reduceLT, Nat.reduceSub, Nat.reduceBEq]
        refine callOps_intro [pB false] (by rw [← hm]; exact R_kB.mk k) ?_
        by_cases g1 : k ≥ 1
        · have k2 : ¬ k ≤ 20 := fun h => hn ⟨g1, h⟩
          simp only [↓evP, evB, stB, reduceIte, reduceCtorEq, Nat.reduceEqDiff, Nat.reduceAdd, Nat.reduceMul, Nat.reduceLeDiff, Nat.reduceLT, Nat.reduceSub, Nat.reduceBEq, g1, k2, decide_true, decide_false, ff, pr9]
        · simp only [↓evP, evB, stB, reduceIte, reduceCtorEq, Nat.reduceEqDiff, Nat.reduceAdd, Nat.reduceMul, Nat.reduceLeDiff, Nat.reduceLT, Nat.reduceSub, Nat.reduceBEq, g1, decide_false, ff, pr9]
end Go.Proofs.YthnjbnfnljjepabDoor
end
section
set_option linter.unusedSimpArgs false
set_option linter.unusedVariables false
namespace Go.Proofs.YthnjbnfnljjepabDoor
open Go Go.RowKit
set_option maxRecDepth 1000000
set_option maxHeartbeats 8000000

abbrev aS (b : ByteArray) : Av := .b (.one (.d (.sc (.string b))))
theorem wru8 {x : Int} (h : 0 ≤ x) (k : x ≤ 255) : IntKind.u8.wrap x = x := IntWalk.u8_in x ⟨h, k⟩
theorem bytes1 {n : Nat} : bytesStr [(n : Int)] = strB [UInt8.ofNat n] := rfl
theorem tm10 (u : Nat) : (u : Int).tmod 10 = ((u % 10 : Nat) : Int) := by rw [Int.tmod_eq_emod_of_nonneg (by omega)]; omega
theorem td10 (u : Nat) : (u : Int).tdiv 10 = ((u / 10 : Nat) : Int) := by rw [Int.tdiv_eq_ediv_of_nonneg (by omega)]; omega
theorem ten_ne : ((10 : Int) = 0) = False := by simp
theorem cat_le {a b : List UInt8} (h : a.length + b.length ≤ 1000000) : ((((strB a).size + (strB b).size : Nat)) : Int) ≤ 9223372036854775807 := by rw [strB_size, strB_size]; omega
def R_dec (ps rs : List Pa) : Prop := ∃ n : Int, (0 ≤ n ∧ n ≤ 2147483647) ∧ ps = [pI n] ∧ rs = [pS (strB (Lib.itoa n))]
theorem R_dec.mk {n : Int} (h : 0 ≤ n ∧ n ≤ 2147483647) : R_dec [pI n] [pS (strB (Lib.itoa n))] := ⟨n, h, rfl, rfl⟩
theorem s_dec : Spec Tryd.prog 32 R_dec := by
  refine sp32 EnvOK.e0 ?_
  rintro ps rs ⟨n, ⟨h0, h1⟩, rfl, rfl⟩
  refine ⟨by simp, ?_⟩
  have hU := il ⟨h0, h1⟩
  obtain ⟨N, rfl⟩ := Int.eq_ofNat_of_zero_le h0
  rw [Lib.itoa_nonneg] at hU ⊢
  unfold pc32
  refine pwp_start ?_
  simp only [↓evP, evB, stB, reduceIte, reduceCtorEq, Nat.reduceEqDiff, Nat.reduceAdd, Nat.reduceMul, Nat.reduceLeDiff, Nat.reduceLT, Nat.reduceSub, Nat.reduceBEq]
  refine pwp_loopW ms32_0 os32_0 (fun m st => ∃ (u : Nat) (S : List UInt8), u = m ∧ u ≤ N ∧ Lib.decDigits N = Lib.decDigits u ++ S ∧ st.sl 0 = aI u ∧ st.sl 3 = aS (strB S)) N ?_ ?_
  · exact ⟨N, [], rfl, Nat.le_refl _, by simp, by simp only [stB, reduceIte, reduceCtorEq, Nat.reduceEqDiff, Nat.reduceAdd, Nat.reduceMul, Nat.reduceLeDiff, Nat.reduceLT, Nat.reduceSub, Nat.reduceBEq], by simp only [stB, reduceIte, reduceCtorEq, Nat.reduceEqDiff, Nat.reduceAdd, Nat.reduceMul, Nat.reduceLeDiff, Nat.reduceLT, Nat.reduceSub, Nat.reduceBEq]⟩
  · rintro m j ⟨u, S, rfl, hum, hd, h3, h4⟩
    simp only [stB, reduceIte, reduceCtorEq, Nat.reduceEqDiff, Nat.reduceAdd, Nat.reduceMul, Nat.reduceLeDiff, Nat.reduceLT, Nat.reduceSub, Nat.reduceBEq] at h3 h4
    have hS : S.length ≤ 21 := by rw [hd, List.length_append] at hU; omega
    have hm : IntKind.i64.wrap (48 + ((u % 10 : Nat) : Int)) = ((48 + u % 10 : Nat) : Int) := by rw [wr64 (by omega) (by omega)]; omega
    have hm8 : IntKind.u8.wrap ((48 + u % 10 : Nat) : Int) = ((48 + u % 10 : Nat) : Int) := wru8 (by omega) (by omega)
    have hq : IntKind.i64.wrap ((u / 10 : Nat) : Int) = ((u / 10 : Nat) : Int) := wr64 (by omega) (by omega)
    by_cases hb : (u : Int) ≥ 10
    · have hc := cat_le (a := [UInt8.ofNat (48 + u % 10)]) (b := S) (by simp; omega)
      simp only [↓evP, evB, stB, reduceIte, reduceCtorEq, Nat.reduceEqDiff, Nat.reduceAdd, Nat.reduceMul, Nat.reduceLeDiff, Nat.reduceLT, Nat.reduceSub, Nat.reduceBEq, h3, h4, hb, decide_true, ten_ne, tm10, td10, hm, hm8, hq, bytes1, hc]
      refine ⟨_, ?_, (by repeat' (first | assumption | exact within_over.mpr trivial | exact Within.refl _ _ _ | (refine within_ap ?_ rfl rfl) | (refine within_ap0 ?_ rfl))), u / 10, UInt8.ofNat (48 + u % 10) :: S, rfl, by omega, ?_, by simp only [stB, reduceIte, reduceCtorEq, Nat.reduceEqDiff, Nat.reduceAdd, Nat.reduceMul, Nat.reduceLeDiff, Nat.reduceLT, Nat.reduceSub, Nat.reduceBEq], by simp only [stB, reduceIte, reduceCtorEq, Nat.reduceEqDiff, Nat.reduceAdd, Nat.reduceMul, Nat.reduceLeDiff, Nat.reduceLT, Nat.reduceSub, Nat.reduceBEq]; rw [strB_append]; rfl⟩
      · omega
      · rw [hd, decDigits_big (by omega)]; simp
    · have hb' : u < 10 := by omega
      have hm2 : IntKind.i64.wrap (48 + (u : Int)) = ((48 + u : Nat) : Int) := by rw [wr64 (by omega) (by omega)]; omega
      have hm9 : IntKind.u8.wrap ((48 + u : Nat) : Int) = ((48 + u : Nat) : Int) := wru8 (by omega) (by omega)
      have hc := cat_le (a := [UInt8.ofNat (48 + u)]) (b := S) (by simp; omega)
      have hS2 : strB [UInt8.ofNat (48 + u)] ++ strB S = strB (Lib.decDigits N) := by rw [strB_append, hd, decDigits_small hb']
      simp only [↓evP, evB, stB, reduceIte, reduceCtorEq, Nat.reduceEqDiff, Nat.reduceAdd, Nat.reduceMul, Nat.reduceLeDiff, Nat.reduceLT, Nat.reduceSub, Nat.reduceBEq, h3, h4, hb, decide_false, hm2, hm9, bytes1, hc, hS2, pr32]
theorem cat2 (a b : List UInt8) (h : a.length + b.length ≤ 1000) : ∃ c, c = a ++ b ∧ c.length = a.length + b.length ∧ ((((strB a).size + (strB b).size : Nat)) : Int) ≤ 9223372036854775807 ∧ strB a ++ strB b = strB c :=
  ⟨a ++ b, rfl, by simp, cat_le (by omega), strB_append a b⟩
def env_rtext20 : Env := e1 12 R_valid20 (e1 32 R_dec (e1 29 R_name (e1 22 R_channel20 e0)))
theorem env_rtext20_ok : EnvOK Tryd.prog env_rtext20 := EnvOK.e1 s_valid20 (EnvOK.e1 s_dec (EnvOK.e1 s_name (EnvOK.e1 s_channel20 EnvOK.e0)))
theorem s_rtext : Spec Tryd.prog 14 R_etext := by
  refine sp14 env_rtext20_ok ?_
  rintro ps rs ⟨e, rfl, rfl⟩
  refine ⟨by simp, ?_⟩
  unfold pc14
  refine pwp_start ?_
  simp only [↓evP, evB, stB, reduceIte, reduceCtorEq, Nat.reduceEqDiff, Nat.reduceAdd, Nat.reduceMul, Nat.reduceLeDiff, Nat.reduceLT, Nat.reduceSub, Nat.reduceBEq, Ev.pa, Ev.row, List.map_cons, List.map_nil]
  refine callOps_intro [pB e.valid] (by exact ⟨e, rfl, rfl⟩) ?_
  cases hv : e.valid with
  | false =>
    have ht : etext e = [] := by unfold etext; rw [hv]; rfl
    simp only [↓evP, evB, stB, reduceIte, reduceCtorEq, Nat.reduceEqDiff, Nat.reduceAdd, Nat.reduceMul, Nat.reduceLeDiff, Nat.reduceLT, Nat.reduceSub, Nat.reduceBEq, Ev.pa, Ev.row, List.map_cons, List.map_nil, ht, pr14]
  | true =>
  have hi := Ev.In.of hv
  have ht : etext e = Lib.join (words5 e) [32] := by unfold etext; rw [hv]; rfl
  have hkn : strB (kn e.kind) = kname e.kind := strB_inj rfl
  have l1 := il hi.obj; have l2 := il hi.off; have l3 := il hi.k; have l4 := il hi.n; have l5 := il (n := e.g) (by have := hi.g; omega); have l6 := il hi.fn; have l7 := il hi.pc; have l8 := il hi.stack; have l9 := kn_le e.kind
  obtain ⟨x1, hx1, lx1, c1, n1⟩ := cat2 ([103]) (Lib.itoa e.g) (by first | omega | (simp only [List.length_cons, List.length_nil]; omega))
  try simp only [List.length_cons, List.length_nil] at lx1
  have c1 : (((((⟨#[103]⟩ : ByteArray)).size + (strB (Lib.itoa e.g)).size : Nat)) : Int) ≤ 9223372036854775807 := c1
  have n1 : (⟨#[103]⟩ : ByteArray) ++ strB (Lib.itoa e.g) = strB x1 := n1
  obtain ⟨x2, hx2, lx2, c2, n2⟩ := cat2 (x1) ([32]) (by first | omega | (simp only [List.length_cons, List.length_nil]; omega))
  try simp only [List.length_cons, List.length_nil] at lx2
  have c2 : ((((strB (x1)).size + ((⟨#[32]⟩ : ByteArray)).size : Nat)) : Int) ≤ 9223372036854775807 := c2
  have n2 : strB (x1) ++ (⟨#[32]⟩ : ByteArray) = strB x2 := n2
  obtain ⟨x3, hx3, lx3, c3, n3⟩ := cat2 (x2) (kn e.kind) (by first | omega | (simp only [List.length_cons, List.length_nil]; omega))
  try simp only [List.length_cons, List.length_nil] at lx3
  have c3 : ((((strB (x2)).size + (strB (kn e.kind)).size : Nat)) : Int) ≤ 9223372036854775807 := c3
  have n3 : strB (x2) ++ strB (kn e.kind) = strB x3 := n3
  obtain ⟨x4, hx4, lx4, c4, n4⟩ := cat2 (x3) ([32]) (by first | omega | (simp only [List.length_cons, List.length_nil]; omega))
  try simp only [List.length_cons, List.length_nil] at lx4
  have c4 : ((((strB (x3)).size + ((⟨#[32]⟩ : ByteArray)).size : Nat)) : Int) ≤ 9223372036854775807 := c4
  have n4 : strB (x3) ++ (⟨#[32]⟩ : ByteArray) = strB x4 := n4
  obtain ⟨x5, hx5, lx5, c5, n5⟩ := cat2 (x4) ([103]) (by first | omega | (simp only [List.length_cons, List.length_nil]; omega))
  try simp only [List.length_cons, List.length_nil] at lx5
  have c5 : ((((strB (x4)).size + ((⟨#[103]⟩ : ByteArray)).size : Nat)) : Int) ≤ 9223372036854775807 := c5
  have n5 : strB (x4) ++ (⟨#[103]⟩ : ByteArray) = strB x5 := n5
  obtain ⟨x6, hx6, lx6, c6, n6⟩ := cat2 (x5) (Lib.itoa e.k) (by first | omega | (simp only [List.length_cons, List.length_nil]; omega))
  try simp only [List.length_cons, List.length_nil] at lx6
  have c6 : ((((strB (x5)).size + (strB (Lib.itoa e.k)).size : Nat)) : Int) ≤ 9223372036854775807 := c6
  have n6 : strB (x5) ++ strB (Lib.itoa e.k) = strB x6 := n6
  obtain ⟨x7, hx7, lx7, c7, n7⟩ := cat2 (x6) ([32, 64]) (by first | omega | (simp only [List.length_cons, List.length_nil]; omega))
  try simp only [List.length_cons, List.length_nil] at lx7
  have c7 : ((((strB (x6)).size + ((⟨#[32, 64]⟩ : ByteArray)).size : Nat)) : Int) ≤ 9223372036854775807 := c7
  have n7 : strB (x6) ++ (⟨#[32, 64]⟩ : ByteArray) = strB x7 := n7
  obtain ⟨x8, hx8, lx8, c8, n8⟩ := cat2 (x7) (Lib.itoa e.fn) (by first | omega | (simp only [List.length_cons, List.length_nil]; omega))
  try simp only [List.length_cons, List.length_nil] at lx8
  have c8 : ((((strB (x7)).size + (strB (Lib.itoa e.fn)).size : Nat)) : Int) ≤ 9223372036854775807 := c8
  have n8 : strB (x7) ++ strB (Lib.itoa e.fn) = strB x8 := n8
  obtain ⟨x9, hx9, lx9, c9, n9⟩ := cat2 (x8) ([58]) (by first | omega | (simp only [List.length_cons, List.length_nil]; omega))
  try simp only [List.length_cons, List.length_nil] at lx9
  have c9 : ((((strB (x8)).size + ((⟨#[58]⟩ : ByteArray)).size : Nat)) : Int) ≤ 9223372036854775807 := c9
  have n9 : strB (x8) ++ (⟨#[58]⟩ : ByteArray) = strB x9 := n9
  obtain ⟨x10, hx10, lx10, c10, n10⟩ := cat2 (x9) (Lib.itoa e.pc) (by first | omega | (simp only [List.length_cons, List.length_nil]; omega))
  try simp only [List.length_cons, List.length_nil] at lx10
  have c10 : ((((strB (x9)).size + (strB (Lib.itoa e.pc)).size : Nat)) : Int) ≤ 9223372036854775807 := c10
  have n10 : strB (x9) ++ strB (Lib.itoa e.pc) = strB x10 := n10
  obtain ⟨x11, hx11, lx11, c11, n11⟩ := cat2 (x10) ([32, 35]) (by first | omega | (simp only [List.length_cons, List.length_nil]; omega))
  try simp only [List.length_cons, List.length_nil] at lx11
  have c11 : ((((strB (x10)).size + ((⟨#[32, 35]⟩ : ByteArray)).size : Nat)) : Int) ≤ 9223372036854775807 := c11
  have n11 : strB (x10) ++ (⟨#[32, 35]⟩ : ByteArray) = strB x11 := n11
  obtain ⟨x12, hx12, lx12, c12, n12⟩ := cat2 (x11) (Lib.itoa e.stack) (by first | omega | (simp only [List.length_cons, List.length_nil]; omega))
  try simp only [List.length_cons, List.length_nil] at lx12
  have c12 : ((((strB (x11)).size + (strB (Lib.itoa e.stack)).size : Nat)) : Int) ≤ 9223372036854775807 := c12
  have n12 : strB (x11) ++ strB (Lib.itoa e.stack) = strB x12 := n12
  obtain ⟨x13, hx13, lx13, c13, n13⟩ := cat2 (x4) (Lib.itoa e.obj) (by first | omega | (simp only [List.length_cons, List.length_nil]; omega))
  try simp only [List.length_cons, List.length_nil] at lx13
  have c13 : ((((strB (x4)).size + (strB (Lib.itoa e.obj)).size : Nat)) : Int) ≤ 9223372036854775807 := c13
  have n13 : strB (x4) ++ strB (Lib.itoa e.obj) = strB x13 := n13
  obtain ⟨x14, hx14, lx14, c14, n14⟩ := cat2 (x13) ([32]) (by first | omega | (simp only [List.length_cons, List.length_nil]; omega))
  try simp only [List.length_cons, List.length_nil] at lx14
  have c14 : ((((strB (x13)).size + ((⟨#[32]⟩ : ByteArray)).size : Nat)) : Int) ≤ 9223372036854775807 := c14
  have n14 : strB (x13) ++ (⟨#[32]⟩ : ByteArray) = strB x14 := n14
  obtain ⟨x15, hx15, lx15, c15, n15⟩ := cat2 (x14) (Lib.itoa e.k) (by first | omega | (simp only [List.length_cons, List.length_nil]; omega))
  try simp only [List.length_cons, List.length_nil] at lx15
  have c15 : ((((strB (x14)).size + (strB (Lib.itoa e.k)).size : Nat)) : Int) ≤ 9223372036854775807 := c15
  have n15 : strB (x14) ++ strB (Lib.itoa e.k) = strB x15 := n15
  obtain ⟨x16, hx16, lx16, c16, n16⟩ := cat2 (x15) ([47]) (by first | omega | (simp only [List.length_cons, List.length_nil]; omega))
  try simp only [List.length_cons, List.length_nil] at lx16
  have c16 : ((((strB (x15)).size + ((⟨#[47]⟩ : ByteArray)).size : Nat)) : Int) ≤ 9223372036854775807 := c16
  have n16 : strB (x15) ++ (⟨#[47]⟩ : ByteArray) = strB x16 := n16
  obtain ⟨x17, hx17, lx17, c17, n17⟩ := cat2 (x16) (Lib.itoa e.n) (by first | omega | (simp only [List.length_cons, List.length_nil]; omega))
  try simp only [List.length_cons, List.length_nil] at lx17
  have c17 : ((((strB (x16)).size + (strB (Lib.itoa e.n)).size : Nat)) : Int) ≤ 9223372036854775807 := c17
  have n17 : strB (x16) ++ strB (Lib.itoa e.n) = strB x17 := n17
  obtain ⟨x18, hx18, lx18, c18, n18⟩ := cat2 (x17) ([32, 64]) (by first | omega | (simp only [List.length_cons, List.length_nil]; omega))
  try simp only [List.length_cons, List.length_nil] at lx18
  have c18 : ((((strB (x17)).size + ((⟨#[32, 64]⟩ : ByteArray)).size : Nat)) : Int) ≤ 9223372036854775807 := c18
  have n18 : strB (x17) ++ (⟨#[32, 64]⟩ : ByteArray) = strB x18 := n18
  obtain ⟨x19, hx19, lx19, c19, n19⟩ := cat2 (x18) (Lib.itoa e.fn) (by first | omega | (simp only [List.length_cons, List.length_nil]; omega))
  try simp only [List.length_cons, List.length_nil] at lx19
  have c19 : ((((strB (x18)).size + (strB (Lib.itoa e.fn)).size : Nat)) : Int) ≤ 9223372036854775807 := c19
  have n19 : strB (x18) ++ strB (Lib.itoa e.fn) = strB x19 := n19
  obtain ⟨x20, hx20, lx20, c20, n20⟩ := cat2 (x19) ([58]) (by first | omega | (simp only [List.length_cons, List.length_nil]; omega))
  try simp only [List.length_cons, List.length_nil] at lx20
  have c20 : ((((strB (x19)).size + ((⟨#[58]⟩ : ByteArray)).size : Nat)) : Int) ≤ 9223372036854775807 := c20
  have n20 : strB (x19) ++ (⟨#[58]⟩ : ByteArray) = strB x20 := n20
  obtain ⟨x21, hx21, lx21, c21, n21⟩ := cat2 (x20) (Lib.itoa e.pc) (by first | omega | (simp only [List.length_cons, List.length_nil]; omega))
  try simp only [List.length_cons, List.length_nil] at lx21
  have c21 : ((((strB (x20)).size + (strB (Lib.itoa e.pc)).size : Nat)) : Int) ≤ 9223372036854775807 := c21
  have n21 : strB (x20) ++ strB (Lib.itoa e.pc) = strB x21 := n21
  obtain ⟨x22, hx22, lx22, c22, n22⟩ := cat2 (x21) ([32, 35]) (by first | omega | (simp only [List.length_cons, List.length_nil]; omega))
  try simp only [List.length_cons, List.length_nil] at lx22
  have c22 : ((((strB (x21)).size + ((⟨#[32, 35]⟩ : ByteArray)).size : Nat)) : Int) ≤ 9223372036854775807 := c22
  have n22 : strB (x21) ++ (⟨#[32, 35]⟩ : ByteArray) = strB x22 := n22
  obtain ⟨x23, hx23, lx23, c23, n23⟩ := cat2 (x22) (Lib.itoa e.stack) (by first | omega | (simp only [List.length_cons, List.length_nil]; omega))
  try simp only [List.length_cons, List.length_nil] at lx23
  have c23 : ((((strB (x22)).size + (strB (Lib.itoa e.stack)).size : Nat)) : Int) ≤ 9223372036854775807 := c23
  have n23 : strB (x22) ++ strB (Lib.itoa e.stack) = strB x23 := n23
  obtain ⟨x24, hx24, lx24, c24, n24⟩ := cat2 (x4) (Lib.itoa e.obj) (by first | omega | (simp only [List.length_cons, List.length_nil]; omega))
  try simp only [List.length_cons, List.length_nil] at lx24
  have c24 : ((((strB (x4)).size + (strB (Lib.itoa e.obj)).size : Nat)) : Int) ≤ 9223372036854775807 := c24
  have n24 : strB (x4) ++ strB (Lib.itoa e.obj) = strB x24 := n24
  obtain ⟨x25, hx25, lx25, c25, n25⟩ := cat2 (x24) ([46]) (by first | omega | (simp only [List.length_cons, List.length_nil]; omega))
  try simp only [List.length_cons, List.length_nil] at lx25
  have c25 : ((((strB (x24)).size + ((⟨#[46]⟩ : ByteArray)).size : Nat)) : Int) ≤ 9223372036854775807 := c25
  have n25 : strB (x24) ++ (⟨#[46]⟩ : ByteArray) = strB x25 := n25
  obtain ⟨x26, hx26, lx26, c26, n26⟩ := cat2 (x25) (Lib.itoa e.off) (by first | omega | (simp only [List.length_cons, List.length_nil]; omega))
  try simp only [List.length_cons, List.length_nil] at lx26
  have c26 : ((((strB (x25)).size + (strB (Lib.itoa e.off)).size : Nat)) : Int) ≤ 9223372036854775807 := c26
  have n26 : strB (x25) ++ strB (Lib.itoa e.off) = strB x26 := n26
  obtain ⟨x27, hx27, lx27, c27, n27⟩ := cat2 (x26) ([32, 64]) (by first | omega | (simp only [List.length_cons, List.length_nil]; omega))
  try simp only [List.length_cons, List.length_nil] at lx27
  have c27 : ((((strB (x26)).size + ((⟨#[32, 64]⟩ : ByteArray)).size : Nat)) : Int) ≤ 9223372036854775807 := c27
  have n27 : strB (x26) ++ (⟨#[32, 64]⟩ : ByteArray) = strB x27 := n27
  obtain ⟨x28, hx28, lx28, c28, n28⟩ := cat2 (x27) (Lib.itoa e.fn) (by first | omega | (simp only [List.length_cons, List.length_nil]; omega))
  try simp only [List.length_cons, List.length_nil] at lx28
  have c28 : ((((strB (x27)).size + (strB (Lib.itoa e.fn)).size : Nat)) : Int) ≤ 9223372036854775807 := c28
  have n28 : strB (x27) ++ strB (Lib.itoa e.fn) = strB x28 := n28
  obtain ⟨x29, hx29, lx29, c29, n29⟩ := cat2 (x28) ([58]) (by first | omega | (simp only [List.length_cons, List.length_nil]; omega))
  try simp only [List.length_cons, List.length_nil] at lx29
  have c29 : ((((strB (x28)).size + ((⟨#[58]⟩ : ByteArray)).size : Nat)) : Int) ≤ 9223372036854775807 := c29
  have n29 : strB (x28) ++ (⟨#[58]⟩ : ByteArray) = strB x29 := n29
  obtain ⟨x30, hx30, lx30, c30, n30⟩ := cat2 (x29) (Lib.itoa e.pc) (by first | omega | (simp only [List.length_cons, List.length_nil]; omega))
  try simp only [List.length_cons, List.length_nil] at lx30
  have c30 : ((((strB (x29)).size + (strB (Lib.itoa e.pc)).size : Nat)) : Int) ≤ 9223372036854775807 := c30
  have n30 : strB (x29) ++ strB (Lib.itoa e.pc) = strB x30 := n30
  obtain ⟨x31, hx31, lx31, c31, n31⟩ := cat2 (x30) ([32, 35]) (by first | omega | (simp only [List.length_cons, List.length_nil]; omega))
  try simp only [List.length_cons, List.length_nil] at lx31
  have c31 : ((((strB (x30)).size + ((⟨#[32, 35]⟩ : ByteArray)).size : Nat)) : Int) ≤ 9223372036854775807 := c31
  have n31 : strB (x30) ++ (⟨#[32, 35]⟩ : ByteArray) = strB x31 := n31
  obtain ⟨x32, hx32, lx32, c32, n32⟩ := cat2 (x31) (Lib.itoa e.stack) (by first | omega | (simp only [List.length_cons, List.length_nil]; omega))
  try simp only [List.length_cons, List.length_nil] at lx32
  have c32 : ((((strB (x31)).size + (strB (Lib.itoa e.stack)).size : Nat)) : Int) ≤ 9223372036854775807 := c32
  have n32 : strB (x31) ++ strB (Lib.itoa e.stack) = strB x32 := n32
  simp only [↓evP, evB, stB, reduceIte, reduceCtorEq, Nat.reduceEqDiff, Nat.reduceAdd, Nat.reduceMul, Nat.reduceLeDiff, Nat.reduceLT, Nat.reduceSub, Nat.reduceBEq, Ev.pa, Ev.row, List.map_cons, List.map_nil]
  refine callD_intro [pS (strB (Lib.itoa e.g))] (by exact R_dec.mk (by have := hi.g; omega)) ?_
  simp only [↓evP, evB, stB, reduceIte, reduceCtorEq, Nat.reduceEqDiff, Nat.reduceAdd, Nat.reduceMul, Nat.reduceLeDiff, Nat.reduceLT, Nat.reduceSub, Nat.reduceBEq, Ev.pa, Ev.row, List.map_cons, List.map_nil, c1, n1, c2, n2]
  refine callD_intro [pS (strB (kn e.kind))] (by exact ⟨e.kind, rfl, strB (kn e.kind), rfl, hkn⟩) ?_
  simp only [↓evP, evB, stB, reduceIte, reduceCtorEq, Nat.reduceEqDiff, Nat.reduceAdd, Nat.reduceMul, Nat.reduceLeDiff, Nat.reduceLT, Nat.reduceSub, Nat.reduceBEq, Ev.pa, Ev.row, List.map_cons, List.map_nil, c3, n3, c4, n4]
  refine ⟨(by unfold Drw; refine Eq.trans (b := true) ?_ rfl; kernel_rfl), ?_⟩
  try simp only [↓evP, evB, stB, reduceIte, reduceCtorEq, Nat.reduceEqDiff, Nat.reduceAdd, Nat.reduceMul, Nat.reduceLeDiff, Nat.reduceLT, Nat.reduceSub, Nat.reduceBEq, Ev.pa, Ev.row, List.map_cons, List.map_nil]
  cases k14 : (e.kind == 14) with
  | true =>
    have hob : objText e = [103] ++ Lib.itoa e.k := by unfold objText; rw [if_pos (beq_iff_eq.1 k14)]
    simp only [↓evP, evB, stB, reduceIte, reduceCtorEq, Nat.reduceEqDiff, Nat.reduceAdd, Nat.reduceMul, Nat.reduceLeDiff, Nat.reduceLT, Nat.reduceSub, Nat.reduceBEq, Ev.pa, Ev.row, List.map_cons, List.map_nil, k14, c5, n5]
    refine callOps_intro [pS (strB (Lib.itoa e.k))] (by exact R_dec.mk hi.k) ?_
    simp only [↓evP, evB, stB, reduceIte, reduceCtorEq, Nat.reduceEqDiff, Nat.reduceAdd, Nat.reduceMul, Nat.reduceLeDiff, Nat.reduceLT, Nat.reduceSub, Nat.reduceBEq, Ev.pa, Ev.row, List.map_cons, List.map_nil, c6, n6]
    simp only [↓evP, evB, stB, reduceIte, reduceCtorEq, Nat.reduceEqDiff, Nat.reduceAdd, Nat.reduceMul, Nat.reduceLeDiff, Nat.reduceLT, Nat.reduceSub, Nat.reduceBEq, Ev.pa, Ev.row, List.map_cons, List.map_nil, c7, n7]
    refine callD_intro [pS (strB (Lib.itoa e.fn))] (by exact R_dec.mk hi.fn) ?_
    simp only [↓evP, evB, stB, reduceIte, reduceCtorEq, Nat.reduceEqDiff, Nat.reduceAdd, Nat.reduceMul, Nat.reduceLeDiff, Nat.reduceLT, Nat.reduceSub, Nat.reduceBEq, Ev.pa, Ev.row, List.map_cons, List.map_nil, c8, n8, c9, n9]
    refine callD_intro [pS (strB (Lib.itoa e.pc))] (by exact R_dec.mk hi.pc) ?_
    simp only [↓evP, evB, stB, reduceIte, reduceCtorEq, Nat.reduceEqDiff, Nat.reduceAdd, Nat.reduceMul, Nat.reduceLeDiff, Nat.reduceLT, Nat.reduceSub, Nat.reduceBEq, Ev.pa, Ev.row, List.map_cons, List.map_nil, c8, n8, c9, n9, c10, n10, c11, n11]
    refine callD_intro [pS (strB (Lib.itoa e.stack))] (by exact R_dec.mk hi.stack) ?_
    have hfin : etext e = x12 := by
      rw [ht]; unfold words5; rw [hob]
      simp only [join_two, Lib.join_one, hx12, hx12, hx11, hx10, hx9, hx8, hx7, hx6, hx5, hx4, hx3, hx2, hx1]
      simp
    simp only [↓evP, evB, stB, reduceIte, reduceCtorEq, Nat.reduceEqDiff, Nat.reduceAdd, Nat.reduceMul, Nat.reduceLeDiff, Nat.reduceLT, Nat.reduceSub, Nat.reduceBEq, Ev.pa, Ev.row, List.map_cons, List.map_nil, c8, n8, c9, n9, c10, n10, c11, n11, c12, n12, hfin, pr14]
    exact (by unfold Drw; refine Eq.trans (b := true) ?_ rfl; kernel_rfl)
  | false =>
    have ne14 := beq_eq_false_iff_ne.1 k14
    simp only [↓evP, evB, stB, reduceIte, reduceCtorEq, Nat.reduceEqDiff, Nat.reduceAdd, Nat.reduceMul, Nat.reduceLeDiff, Nat.reduceLT, Nat.reduceSub, Nat.reduceBEq, Ev.pa, Ev.row, List.map_cons, List.map_nil, k14]
    refine callOps_intro [pB (chanB e.kind)] (by exact ⟨e.kind, rfl, rfl⟩) ?_
    cases hc : chanB e.kind with
    | true =>
      have hob : objText e = Lib.itoa e.obj ++ [32] ++ Lib.itoa e.k ++ [47] ++ Lib.itoa e.n := by unfold objText; rw [if_neg ne14, if_pos hc]
      simp only [↓evP, evB, stB, reduceIte, reduceCtorEq, Nat.reduceEqDiff, Nat.reduceAdd, Nat.reduceMul, Nat.reduceLeDiff, Nat.reduceLT, Nat.reduceSub, Nat.reduceBEq, Ev.pa, Ev.row, List.map_cons, List.map_nil]
      refine callD_intro [pS (strB (Lib.itoa e.obj))] (by exact R_dec.mk hi.obj) ?_
      simp only [↓evP, evB, stB, reduceIte, reduceCtorEq, Nat.reduceEqDiff, Nat.reduceAdd, Nat.reduceMul, Nat.reduceLeDiff, Nat.reduceLT, Nat.reduceSub, Nat.reduceBEq, Ev.pa, Ev.row, List.map_cons, List.map_nil, c13, n13, c14, n14]
      refine callD_intro [pS (strB (Lib.itoa e.k))] (by exact R_dec.mk hi.k) ?_
      simp only [↓evP, evB, stB, reduceIte, reduceCtorEq, Nat.reduceEqDiff, Nat.reduceAdd, Nat.reduceMul, Nat.reduceLeDiff, Nat.reduceLT, Nat.reduceSub, Nat.reduceBEq, Ev.pa, Ev.row, List.map_cons, List.map_nil, c13, n13, c14, n14, c15, n15, c16, n16]
      refine callD_intro [pS (strB (Lib.itoa e.n))] (by exact R_dec.mk hi.n) ?_
      simp only [↓evP, evB, stB, reduceIte, reduceCtorEq, Nat.reduceEqDiff, Nat.reduceAdd, Nat.reduceMul, Nat.reduceLeDiff, Nat.reduceLT, Nat.reduceSub, Nat.reduceBEq, Ev.pa, Ev.row, List.map_cons, List.map_nil, c13, n13, c14, n14, c15, n15, c16, n16, c17, n17]
      refine ⟨(by unfold Drw; refine Eq.trans (b := true) ?_ rfl; kernel_rfl), ?_⟩
      try simp only [↓evP, evB, stB, reduceIte, reduceCtorEq, Nat.reduceEqDiff, Nat.reduceAdd, Nat.reduceMul, Nat.reduceLeDiff, Nat.reduceLT, Nat.reduceSub, Nat.reduceBEq, Ev.pa, Ev.row, List.map_cons, List.map_nil]
      simp only [↓evP, evB, stB, reduceIte, reduceCtorEq, Nat.reduceEqDiff, Nat.reduceAdd, Nat.reduceMul, Nat.reduceLeDiff, Nat.reduceLT, Nat.reduceSub, Nat.reduceBEq, Ev.pa, Ev.row, List.map_cons, List.map_nil, c18, n18]
      refine callD_intro [pS (strB (Lib.itoa e.fn))] (by exact R_dec.mk hi.fn) ?_
      simp only [↓evP, evB, stB, reduceIte, reduceCtorEq, Nat.reduceEqDiff, Nat.reduceAdd, Nat.reduceMul, Nat.reduceLeDiff, Nat.reduceLT, Nat.reduceSub, Nat.reduceBEq, Ev.pa, Ev.row, List.map_cons, List.map_nil, c19, n19, c20, n20]
      refine callD_intro [pS (strB (Lib.itoa e.pc))] (by exact R_dec.mk hi.pc) ?_
      simp only [↓evP, evB, stB, reduceIte, reduceCtorEq, Nat.reduceEqDiff, Nat.reduceAdd, Nat.reduceMul, Nat.reduceLeDiff, Nat.reduceLT, Nat.reduceSub, Nat.reduceBEq, Ev.pa, Ev.row, List.map_cons, List.map_nil, c19, n19, c20, n20, c21, n21, c22, n22]
      refine callD_intro [pS (strB (Lib.itoa e.stack))] (by exact R_dec.mk hi.stack) ?_
      have hfin : etext e = x23 := by
        rw [ht]; unfold words5; rw [hob]
        simp only [join_two, Lib.join_one, hx23, hx23, hx22, hx21, hx20, hx19, hx18, hx17, hx16, hx15, hx14, hx13, hx4, hx3, hx2, hx1]
        simp
      simp only [↓evP, evB, stB, reduceIte, reduceCtorEq, Nat.reduceEqDiff, Nat.reduceAdd, Nat.reduceMul, Nat.reduceLeDiff, Nat.reduceLT, Nat.reduceSub, Nat.reduceBEq, Ev.pa, Ev.row, List.map_cons, List.map_nil, c19, n19, c20, n20, c21, n21, c22, n22, c23, n23, hfin, pr14]
      exact (by unfold Drw; refine Eq.trans (b := true) ?_ rfl; kernel_rfl)
    | false =>
      have hob : objText e = Lib.itoa e.obj ++ [46] ++ Lib.itoa e.off := by unfold objText; rw [if_neg ne14, if_neg (by rw [hc]; simp)]
      simp only [↓evP, evB, stB, reduceIte, reduceCtorEq, Nat.reduceEqDiff, Nat.reduceAdd, Nat.reduceMul, Nat.reduceLeDiff, Nat.reduceLT, Nat.reduceSub, Nat.reduceBEq, Ev.pa, Ev.row, List.map_cons, List.map_nil]
      refine callD_intro [pS (strB (Lib.itoa e.obj))] (by exact R_dec.mk hi.obj) ?_
      simp only [↓evP, evB, stB, reduceIte, reduceCtorEq, Nat.reduceEqDiff, Nat.reduceAdd, Nat.reduceMul, Nat.reduceLeDiff, Nat.reduceLT, Nat.reduceSub, Nat.reduceBEq, Ev.pa, Ev.row, List.map_cons, List.map_nil, c24, n24, c25, n25]
      refine callD_intro [pS (strB (Lib.itoa e.off))] (by exact R_dec.mk hi.off) ?_
      simp only [↓evP, evB, stB, reduceIte, reduceCtorEq, Nat.reduceEqDiff, Nat.reduceAdd, Nat.reduceMul, Nat.reduceLeDiff, Nat.reduceLT, Nat.reduceSub, Nat.reduceBEq, Ev.pa, Ev.row, List.map_cons, List.map_nil, c24, n24, c25, n25, c26, n26]
      refine ⟨(by unfold Drw; refine Eq.trans (b := true) ?_ rfl; kernel_rfl), ?_⟩
      try simp only [↓evP, evB, stB, reduceIte, reduceCtorEq, Nat.reduceEqDiff, Nat.reduceAdd, Nat.reduceMul, Nat.reduceLeDiff, Nat.reduceLT, Nat.reduceSub, Nat.reduceBEq, Ev.pa, Ev.row, List.map_cons, List.map_nil]
      simp only [↓evP, evB, stB, reduceIte, reduceCtorEq, Nat.reduceEqDiff, Nat.reduceAdd, Nat.reduceMul, Nat.reduceLeDiff, Nat.reduceLT, Nat.reduceSub, Nat.reduceBEq, Ev.pa, Ev.row, List.map_cons, List.map_nil, c27, n27]
      refine callD_intro [pS (strB (Lib.itoa e.fn))] (by exact R_dec.mk hi.fn) ?_
      simp only [↓evP, evB, stB, reduceIte, reduceCtorEq, Nat.reduceEqDiff, Nat.reduceAdd, Nat.reduceMul, Nat.reduceLeDiff, Nat.reduceLT, Nat.reduceSub, Nat.reduceBEq, Ev.pa, Ev.row, List.map_cons, List.map_nil, c28, n28, c29, n29]
      refine callD_intro [pS (strB (Lib.itoa e.pc))] (by exact R_dec.mk hi.pc) ?_
      simp only [↓evP, evB, stB, reduceIte, reduceCtorEq, Nat.reduceEqDiff, Nat.reduceAdd, Nat.reduceMul, Nat.reduceLeDiff, Nat.reduceLT, Nat.reduceSub, Nat.reduceBEq, Ev.pa, Ev.row, List.map_cons, List.map_nil, c28, n28, c29, n29, c30, n30, c31, n31]
      refine callD_intro [pS (strB (Lib.itoa e.stack))] (by exact R_dec.mk hi.stack) ?_
      have hfin : etext e = x32 := by
        rw [ht]; unfold words5; rw [hob]
        simp only [join_two, Lib.join_one, hx32, hx32, hx31, hx30, hx29, hx28, hx27, hx26, hx25, hx24, hx4, hx3, hx2, hx1]
        simp
      simp only [↓evP, evB, stB, reduceIte, reduceCtorEq, Nat.reduceEqDiff, Nat.reduceAdd, Nat.reduceMul, Nat.reduceLeDiff, Nat.reduceLT, Nat.reduceSub, Nat.reduceBEq, Ev.pa, Ev.row, List.map_cons, List.map_nil, c28, n28, c29, n29, c30, n30, c31, n31, c32, n32, hfin, pr14]
      exact (by unfold Drw; refine Eq.trans (b := true) ?_ rfl; kernel_rfl)
def env20t : Env := e1 10 R_awake20 (e1 13 R_etext (e1 14 R_etext (e1 12 R_valid20 (e1 15 R_eread e0))))
theorem env20t_ok : EnvOK Tryd.prog env20t := EnvOK.e1 s_awake20 (EnvOK.e1 s_etext (EnvOK.e1 s_rtext (EnvOK.e1 s_valid20 (EnvOK.e1 s_eread EnvOK.e0))))
def R_ltext (ps rs : List Pa) : Prop := ∃ e : Ev, ps = [e.pa] ∧ rs = [pB true]
theorem s_ltext : Spec Tryd.prog 4 R_ltext := by
  refine sp4 env20t_ok ?_
  rintro ps rs ⟨e, rfl, rfl⟩
  refine ⟨by simp, ?_⟩
  have q : ((strB (etext e)).toList == (strB (etext e)).toList) = true := by rw [strings_eq]; simp
  unfold pc4
  refine pwp_start ?_
  simp only [↓evP, evB, stB, reduceIte, reduceCtorEq, Nat.reduceEqDiff, Nat.reduceAdd, Nat.reduceMul, Nat.reduceLeDiff, Nat.reduceLT, Nat.reduceSub, Nat.reduceBEq, Ev.pa, Ev.row, List.map_cons, List.map_nil]
  refine callOps_intro [pB true] ⟨rfl, rfl⟩ ?_
  simp only [↓evP, evB, stB, reduceIte, reduceCtorEq, Nat.reduceEqDiff, Nat.reduceAdd, Nat.reduceMul, Nat.reduceLeDiff, Nat.reduceLT, Nat.reduceSub, Nat.reduceBEq, Ev.pa, Ev.row, List.map_cons, List.map_nil]
  refine callD_intro [pS (strB (etext e))] (by exact R_etext.mk e) ?_
  simp only [↓evP, evB, stB, reduceIte, reduceCtorEq, Nat.reduceEqDiff, Nat.reduceAdd, Nat.reduceMul, Nat.reduceLeDiff, Nat.reduceLT, Nat.reduceSub, Nat.reduceBEq, Ev.pa, Ev.row, List.map_cons, List.map_nil]
  refine callD_intro [pS (strB (etext e))] (by exact R_etext.mk e) ?_
  simp only [↓evP, evB, stB, reduceIte, reduceCtorEq, Nat.reduceEqDiff, Nat.reduceAdd, Nat.reduceMul, Nat.reduceLeDiff, Nat.reduceLT, Nat.reduceSub, Nat.reduceBEq, Ev.pa, Ev.row, List.map_cons, List.map_nil, q, pr4]
  exact (by unfold Drw; refine Eq.trans (b := true) ?_ rfl; kernel_rfl)
def R_linv (ps rs : List Pa) : Prop := ∃ e : Ev, ps = [e.pa] ∧ rs = [pB true]
theorem s_linv : Spec Tryd.prog 5 R_linv := by
  refine sp5 env20t_ok ?_
  rintro ps rs ⟨e, rfl, rfl⟩
  refine ⟨by simp, ?_⟩
  have q0 : ((0 : Int) == 0) = true := rfl
  have q9 := eq9 e.g e.kind e.obj e.off e.k e.n e.fn e.pc e.stack
  unfold pc5
  refine pwp_start ?_
  simp only [↓evP, evB, stB, reduceIte, reduceCtorEq, Nat.reduceEqDiff, Nat.reduceAdd, Nat.reduceMul, Nat.reduceLeDiff, Nat.reduceLT, Nat.reduceSub, Nat.reduceBEq, Ev.pa, Ev.row, List.map_cons, List.map_nil]
  refine callOps_intro [pB true] ⟨rfl, rfl⟩ ?_
  simp only [↓evP, evB, stB, reduceIte, reduceCtorEq, Nat.reduceEqDiff, Nat.reduceAdd, Nat.reduceMul, Nat.reduceLeDiff, Nat.reduceLT, Nat.reduceSub, Nat.reduceBEq, Ev.pa, Ev.row, List.map_cons, List.map_nil]
  refine callOps_intro [pB e.valid] (by exact ⟨e, rfl, rfl⟩) ?_
  cases hv : e.valid with
  | false => simp only [↓evP, evB, stB, reduceIte, reduceCtorEq, Nat.reduceEqDiff, Nat.reduceAdd, Nat.reduceMul, Nat.reduceLeDiff, Nat.reduceLT, Nat.reduceSub, Nat.reduceBEq, Ev.pa, Ev.row, List.map_cons, List.map_nil, pr5]
  | true =>
  have hsz : (strB (etext e)).size ≤ 100000 := by
    rw [strB_size]; unfold etext; rw [if_pos hv]
    exact Nat.le_trans (words5_le (Ev.In.of hv)) (by omega)
  have hrd : R_eread [pS (strB (etext e))] [e.pa, pI 0] := by
    have h := R_eread.mk hsz
    rw [readE_text hv] at h; exact h
  simp only [↓evP, evB, stB, reduceIte, reduceCtorEq, Nat.reduceEqDiff, Nat.reduceAdd, Nat.reduceMul, Nat.reduceLeDiff, Nat.reduceLT, Nat.reduceSub, Nat.reduceBEq, Ev.pa, Ev.row, List.map_cons, List.map_nil]
  refine callOps_intro [pS (strB (etext e))] (by exact R_etext.mk e) ?_
  simp only [↓evP, evB, stB, reduceIte, reduceCtorEq, Nat.reduceEqDiff, Nat.reduceAdd, Nat.reduceMul, Nat.reduceLeDiff, Nat.reduceLT, Nat.reduceSub, Nat.reduceBEq, Ev.pa, Ev.row, List.map_cons, List.map_nil]
  refine callOps_intro [e.pa, pI 0] (by exact hrd) ?_
  simp only [↓evP, evB, stB, reduceIte, reduceCtorEq, Nat.reduceEqDiff, Nat.reduceAdd, Nat.reduceMul, Nat.reduceLeDiff, Nat.reduceLT, Nat.reduceSub, Nat.reduceBEq, Ev.pa, Ev.row, List.map_cons, List.map_nil, q0, q9, pr5]
end Go.Proofs.YthnjbnfnljjepabDoor
end
section
set_option linter.unusedSimpArgs false
set_option linter.unusedVariables false
namespace Go.Proofs.YthnjbnfnljjepabDoor
open Go Go.RowKit

theorem int_of_shape {P : Program} {w : World} {g : Nat} {t : TypeId} {k : IntKind} {zero : Array Value} (h : w.ShapedOpen P) (hg : g < P.globals.size)
    (h0 : ((begin P (fun _ _ => 0) default).world.heap[g]?).bind Obj.row? = some (zero, t)) (hz : zero.size = 1)
    (hb : P.buildable t = true) (hc : P.cellTypes P.depth t = some [t]) (hu : P.underlying t = some (.int k)) : ∃ n, w.cell? ⟨g, 0, none⟩ = some (.int k n) := by
  obtain ⟨cs, hh, hs, hr⟩ := h.1 g zero t hg h0
  obtain ⟨ts, hts, _, hall⟩ := hr hb
  rw [hc] at hts
  cases hts
  have h1 : 0 < cs.size := by omega
  obtain ⟨u, hu', hok⟩ := hall 0 cs[0] (by simp [h1])
  have : u = t := by simpa using hu'.symm
  subst this
  have hcell : w.cell? ⟨g, 0, none⟩ = some cs[0] := by simp [World.cell?, hh, h1]
  rw [hcell]
  unfold Cell.ok at hok
  rw [hu] at hok
  cases hv : cs[0] <;> rw [hv] at hok <;> simp at hok
  obtain ⟨rfl, _⟩ := hok
  exact ⟨_, rfl⟩
theorem returnsInHanded_shaped {H : Type} {enc : TypeId × Value → H} {a : Assume} {C : Checked} {os : Os} {f : FuncId} {fn : Func} {s : ChangeSpec} {conds : List PathCond} {apart fresh handsOn again : Bool} {X : World → Array Value → Prop}
    (hX : ∀ (w w' : World) (args : Array Value), w.heap = w'.heap → X w args → X w' args)
    (own : ownKnob C.prog.godebug = none) (started : os.Started) (noInit : C.prog.inits.idxOf? f = none) (hfn : C.prog.funcs[f]? = some fn)
    (witness : ∃ (w : World) (tape : Tape) (i : Input), w.os = os ∧ (w.forCall tape i).Shaped C.prog ∧ i.vars = [] ∧ Input.okWide C.prog (w.forCall tape i) .any w.heap.size f i ∧
      ((s.pre enc C.prog fn conds apart (w.forCall tape i).memory i.args ∧ X (w.forCall tape i).memory i.args) ∧ sizedMet enc C.prog fn (OpenSpec.ofChange s) apart (w.forCall tape i).memory i.args) ∧ a.holds C.prog (lone (Frame.enter C.prog f i.args .normal) [] (w.forCall tape i)))
    (contract : ∀ (W : World) (base : Nat) (args : Array Value) (ds gs : List (DataW H)) (before : List MemPlace),
      (∀ (j : Nat) t v, fn.params[j]? = some t → args[j]? = some v → Value.okWide C.prog W .any base t v) →
      DataW.Whole enc C.prog fn.params.toList s.vars apart W args.toList ds gs before →
      conds.all (PathCond.test C.prog ⟨fn.params.toList, ds, s.plain.varTypes C.prog, gs⟩) = true →
      (DataW.weightsEach C.prog (fn.params.toList ++ s.plain.varTypes C.prog) (ds ++ gs)).all (· ≤ reachBytes) = true → X W args →
      W.ShapedOpen C.prog →
      Calls C.prog f args W fun e W' => ∃ v, e = .returned v ∧ s.post enc C.prog fn apart fresh handsOn again W args v W') :
    ReturnsInHanded a C os f .any (fun w args => (s.pre enc C.prog fn conds apart w args ∧ X w args) ∧ sizedMet enc C.prog fn (OpenSpec.ofChange s) apart w args) (s.post enc C.prog fn apart fresh handsOn again) := by
  refine returnsInHanded_of_calls own started noInit witness ?_
  intro w tape i _ hsh _ hok hpre _
  obtain ⟨_, _, _, fn', hfn', _, _, _, _, hval⟩ := hok
  have e : fn' = fn := Option.some.inj (hfn'.symm.trans hfn)
  subst e
  obtain ⟨⟨⟨ds, gs, before, hw, hc⟩, hx⟩, hz⟩ := hpre
  have hw' := DataW.Whole.of_heap (w' := w.forCall tape i) (by rfl) hw
  refine (contract (w.forCall tape i) w.heap.size i.args ds gs before hval hw' hc (hz.weights hw) (hX _ _ _ (by rfl) hx) hsh).mono fun e W' ⟨v, he, hp⟩ => ?_
  subst he
  exact ChangeSpec.post_blind hp
end Go.Proofs.YthnjbnfnljjepabDoor
end
section
set_option linter.unusedSimpArgs false
set_option linter.unusedVariables false
namespace Go.Proofs.YthnjbnfnljjepabDoor
open Go Go.RowKit Go.Lib

set_option maxRecDepth 100000

abbrev laidL : List (String × DataW Unit) := Rows.eventValidRow.laid
theorem pow_data : Rows.laid_internal_strconv_uint64pow10 (H := Unit) = tabData .u64 pow10Tab := by kernel_rfl
def strsData (xs : List ByteArray) : DataW Unit := .agg (xs.map fun x => .lit (.string x.data.toList))
theorem names_data : Rows.laid_interleave_event_names (H := Unit) = strsData kindNames := by kernel_rfl
theorem tab_reads {n : String} {k : IntKind} {zs : List Int} {g : Nat} {t e : TypeId} {m : Nat} {w : World}
    (hg : Tryd.prog.globalNamed n = some g) (hty : (Tryd.prog.globals[g]?).map (·.type) = some t) (ht : Tryd.prog.underlying t = some (.array m e)) (he : Tryd.prog.underlying e = some (.int k)) (hce : Tryd.prog.cellsOf e = 1) (hct : Tryd.prog.cellsOf t = m)
    (h : VarReads Tryd.prog w n (tabData k zs)) : TabIs Tryd.prog w n k zs := by
  obtain ⟨g', t', cs, fuel, p, hg', ht', hvar, hd⟩ := h
  obtain rfl := Option.some.inj (hg.symm.trans hg')
  obtain rfl := Option.some.inj (hty.symm.trans ht')
  unfold TabIs
  rw [hvar, ← cells_of_tab ht he hce hct hd]
theorem row_err (u : TypeId) (h : Tryd.prog.typeName? 3 u = some "*errors.errorString") : u = 108 :=
  typeName_ptr_named (nm := "errors.errorString") (by rw [show "*" ++ "errors.errorString" = "*errors.errorString" by decide]; kernel_rfl) (by kernel_rfl) (by decide) u (by rw [show "*" ++ "errors.errorString" = "*errors.errorString" by decide]; exact h)
theorem strs_read {n : String} {xs : List ByteArray} {g : Nat} {t e : TypeId} {m : Nat} {w : World}
    (hg : Tryd.prog.globalNamed n = some g) (hty : (Tryd.prog.globals[g]?).map (·.type) = some t) (ht : Tryd.prog.underlying t = some (.array m e)) (he : Tryd.prog.underlying e = some .string) (hce : Tryd.prog.cellsOf e = 1) (hm : xs.length = m)
    (h : VarReads Tryd.prog w n (strsData xs)) (k : Nat) (v : Value) (hk : (xs.map Value.string)[k]? = some v) : w.cell? ⟨g, k, none⟩ = some v := by
  obtain ⟨g', t', cs, fuel, p, hg', ht', hvar, hd⟩ := h
  obtain rfl := Option.some.inj (hg.symm.trans hg')
  obtain rfl := Option.some.inj (hty.symm.trans ht')
  rw [List.getElem?_map, Option.map_eq_some_iff] at hk
  obtain ⟨x, hx, rfl⟩ := hk
  have hlt : k < m := by rw [← hm]; exact (List.getElem?_eq_some_iff.1 hx).1
  obtain ⟨fuel', d, q, h1, h2⟩ := array_elem ht hd k hlt
  rw [hce, Nat.mul_one] at h2
  obtain ⟨s, hs, hds, _⟩ := DataW.trod_string he h2
  rw [List.getElem?_map, hx] at h1
  have hxs : x.data.toList = s.data.toList := by
    have e1 : d = .lit (.string x.data.toList) := (Option.some.inj h1).symm
    have e2 : d = .lit (.string s.data.toList) := congrArg Prod.fst hds
    rw [e1] at e2
    simp only [DataW.lit.injEq, Lit.string.injEq] at e2
    exact e2
  have hxe : x = s := strB_inj hxs
  subst hxe
  have h3 : cs.toList[k]? = some (.string x) := by
    have := congrArg (·[0]?) hs
    simpa [List.getElem?_take, List.getElem?_drop] using this
  rw [World.var?_cell hg hvar]
  simpa using h3
theorem door_of_laid {w : World} (h : laidMet Tryd.prog laidL w) (hsh : w.ShapedOpen Tryd.prog) : Door w := by
  refine ⟨?_, ?_, ?_, ?_, ?_⟩
  · exact tab_reads (g := 1) (by kernel_rfl) (by kernel_rfl) Tryd.underlying89 Tryd.underlying70 (by kernel_rfl) (by kernel_rfl) (pow_data ▸ laidMet.reads h (.tail _ (.tail _ (.head _))))
  · obtain ⟨a, s, hv, _⟩ := laid_sentinel (g := 3) (h.tail.tail.tail.tail.tail) (by kernel_rfl) (by kernel_rfl) Tryd.underlying57 row_err Tryd.underlying108 Tryd.underlying110 rfl rfl Tryd.underlying9 (by kernel_rfl) (by kernel_rfl)
    exact ⟨_, _, hv⟩
  · obtain ⟨a, s, hv, _⟩ := laid_sentinel (g := 4) (h.tail.tail.tail.tail) (by kernel_rfl) (by kernel_rfl) Tryd.underlying57 row_err Tryd.underlying108 Tryd.underlying110 rfl rfl Tryd.underlying9 (by kernel_rfl) (by kernel_rfl)
    exact ⟨_, _, hv⟩
  · exact strs_read (g := 0) (by kernel_rfl) (by kernel_rfl) Tryd.underlying37 Tryd.underlying9 (by kernel_rfl) rfl (names_data ▸ laidMet.reads h (.tail _ (.tail _ (.tail _ (.tail _ (.tail _ (.tail _ (.head _)))))))) 
  · exact int_of_shape (t := 3) (zero := #[.int .i64 0]) hsh (of_decide_eq_true (by kernel_rfl)) (by kernel_rfl) (by kernel_rfl) (by kernel_rfl) (by kernel_rfl) Tryd.underlying3

/-- A world that holds what the rows list. -/
def tabCells (d : DataW Unit) : Array Value := match d with
  | .agg ds => (ds.map fun | .lit (.int k z) => Value.int k z | _ => undef).toArray
  | _ => #[]
noncomputable def laidWorld (os : Os) : World :=
  let N := (World.settled Tryd.prog os).heap.size
  let w0 := World.holding Tryd.prog os ⟨#[.cells #[.string ⟨#[105, 110, 118, 97, 108, 105, 100, 32, 115, 121, 110, 116, 97, 120]⟩] 110, .cells #[.string ⟨#[118, 97, 108, 117, 101, 32, 111, 117, 116, 32, 111, 102, 32, 114, 97, 110, 103, 101]⟩] 110], #[], []⟩
  let put (h : Array Obj) (g : Nat) (cs : Array Value) : Array Obj := h.modify g fun
    | .cells _ t frozen => .cells cs t frozen
    | o => o
  { w0 with heap := put (put (put (put (put (put (put (put w0.heap 5 (Lib.firstTab.map fun z => Value.int .u8 z).toArray)
      6 ((List.range 16).flatMap fun i => [Value.int .u8 (Lib.accLo i), Value.int .u8 (Lib.accHi i)]).toArray) 0 namesV.toArray)
      3 #[.iface 108 (.pointer (some ⟨N, 0, none⟩))]) 4 #[.iface 108 (.pointer (some ⟨N + 1, 0, none⟩))])
      1 (tabCells Rows.laid_internal_strconv_uint64pow10)) 7 (tabCells Rows.laid_math_bits_deBruijn32tab)) 8 (tabCells Rows.laid_math_bits_deBruijn64tab) }
theorem laid_met (os : Os) (args : Array Value) : laidMet Tryd.prog laidL ((laidWorld os).forCall (fun _ _ => 0) ⟨#[], args, []⟩).memory :=
  laidMet_of_run3 10 (by kernel_rfl) (by kernel_rfl) (by kernel_rfl)
end Go.Proofs.YthnjbnfnljjepabDoor
end
section
set_option linter.unusedSimpArgs false
set_option linter.unusedVariables false
namespace Go.Proofs.YthnjbnfnljjepabDoor
open Go Go.RowKit

set_option maxRecDepth 100000
theorem laid_vars (os : Os) (args : Array Value) : ((laidWorld os).forCall (fun _ _ => 0) ⟨#[], args, []⟩).variablesRefB Tryd.checked.prog = true := by kernel_rfl
theorem laid_rest (os : Os) (args : Array Value) : (((laidWorld os).forCall (fun _ _ => 0) ⟨#[], args, []⟩).heap.toList.drop Tryd.checked.prog.globals.size).take ((begin Tryd.checked.prog (fun _ _ => 0) default).world.heap.size - Tryd.checked.prog.globals.size) =
      (begin Tryd.checked.prog (fun _ _ => 0) default).world.heap.toList.drop Tryd.checked.prog.globals.size := by kernel_rfl
theorem row_witness {H : Type} {enc : TypeId × Value → H} (os : Os) {f : FuncId} {fn : Func} {s : ChangeSpec} {conds : List PathCond} (args : Array Value) (fuel : Nat)
    (hok : Input.okWideB Tryd.checked.prog ((laidWorld os).forCall (fun _ _ => 0) ⟨#[], args, []⟩) f ⟨#[], args, []⟩ = true)
    (hpre : s.preB enc Tryd.checked.prog fn conds false ((laidWorld os).forCall (fun _ _ => 0) ⟨#[], args, []⟩).memory args fuel = true)
    (hsz : s.sizedB enc Tryd.checked.prog fn false ((laidWorld os).forCall (fun _ _ => 0) ⟨#[], args, []⟩).memory args fuel = true) :
    ∃ (w : World) (tape : Tape) (i : Input), w.os = os ∧ (w.forCall tape i).Shaped Tryd.checked.prog ∧ i.vars = [] ∧ Input.okWide Tryd.checked.prog (w.forCall tape i) .any w.heap.size f i ∧
      ((s.pre enc Tryd.checked.prog fn conds false (w.forCall tape i).memory i.args ∧ laidMet Tryd.prog laidL (w.forCall tape i).memory) ∧ sizedMet enc Tryd.checked.prog fn (OpenSpec.ofChange s) false (w.forCall tape i).memory i.args) ∧ ({ modest := false } : Assume).holds Tryd.checked.prog (lone (Frame.enter Tryd.checked.prog f i.args .normal) [] (w.forCall tape i)) :=
  ⟨laidWorld os, fun _ _ => 0, ⟨#[], args, []⟩, rfl, World.shaped_of_RefB (laid_vars os args) (laid_rest os args), (Input.okWide_of_okWideB (base := 0) hok).1, (Input.okWide_of_okWideB hok).2, ⟨⟨ChangeSpec.pre_of_preB hpre, laid_met os args⟩, sizedMet_of_sizedB hsz⟩, by
    simp only [Assume.holds]
    exact ⟨by simp, by simp, fun _ => Modest.zero, by simp, by simp⟩⟩
end Go.Proofs.YthnjbnfnljjepabDoor
end
section
set_option linter.unusedSimpArgs false
set_option linter.unusedVariables false
namespace Go.Proofs.YthnjbnfnljjepabDoor
open Go Go.ChangeShapes Go.WideShapes Go.ChangeAt Go.RowKit Go.Deep
set_option maxRecDepth 1000000

/-- a struct of numbers -/
theorem open_flat {H : Type} {enc : TypeId × Value → H} {P : Program} {w : World} {r : Reach} {b0 base : Nat} {spare : Nat → Bool} {held : Bool} {t : TypeId} {fs : Array Field} (ht : P.underlying t = some (.struct fs)) (hone : oneCellFields P fs = true) (hC : P.cellsOf t = fs.size)
    {tI : TypeId} (hI : P.underlying tI = some (.int .i64)) (hint0 : fs.toList.all (fun f => f.type == tI) = true) {n : Nat} (hn : fs.size = n) {v : Value} {d : DataW H} {ps : List MemPlace} (hv : Value.okWide P w r b0 t v) (h : DataW.Trod enc P w base spare held t v d ps) :
    ∃ l : List Int, l.length = n ∧ v = .agg (l.map (Value.int .i64)).toArray ∧ ∀ x, x ∈ l → -9223372036854775808 ≤ x ∧ x ≤ 9223372036854775807 := by
  have hint : ∀ (i : Nat) (f : Field), fs[i]? = some f → P.underlying f.type = some (.int .i64) := fun i f hf => by
    have h1 := List.all_eq_true.1 hint0 f (List.mem_of_getElem? (i := i) (by simpa using hf))
    rw [beq_iff_eq.1 h1]; exact hI
  subst hn
  obtain ⟨cs, rfl, hcs⟩ := okWide_struct ht hv
  obtain ⟨fuel, hf⟩ := h
  obtain ⟨xs, n, _, _, hl, hlen, hfs⟩ := DataW.trod_struct ht hf
  have key : ∀ i, ∃ x : Int, i < fs.size → cs[i]? = some (.int .i64 x) ∧ -9223372036854775808 ≤ x ∧ x ≤ 9223372036854775807 := by
    intro i
    by_cases hi : i < fs.size
    · have hfi : fs[i]? = some fs[i] := Array.getElem?_eq_getElem hi
      obtain ⟨ho, hk⟩ := hone_of hone i _ hfi
      have h1 := hfs i _ hfi
      rw [ho, hk] at h1
      have hic : i < cs.size := by omega
      have hone' : ((Value.agg cs).cells.toList.drop i).take 1 = [cs[i]'hic] := by
        show (cs.toList.drop i).take 1 = _
        rw [List.drop_eq_getElem_cons (by simpa using hic)]
        simp
      rw [hone'] at h1
      have hxs : xs[i]? = some (xs[i]'(by omega)) := List.getElem?_eq_getElem _
      rw [hxs] at h1
      obtain ⟨x, hx, hw⟩ := trod_int_field (hint i _ hfi) h1
      exact ⟨x, fun _ => ⟨by rw [Array.getElem?_eq_getElem hic, hx], i64_of_wf hw⟩⟩
    · exact ⟨0, fun h => absurd h hi⟩
  obtain ⟨g, hg⟩ := Classical.skolem.1 key
  refine ⟨(List.range fs.size).map g, by simp, ?_, fun x hx => ?_⟩
  · congr 1
    apply Array.ext_getElem?
    intro i
    simp only [List.getElem?_toArray, List.getElem?_map]
    rcases Nat.lt_or_ge i fs.size with hi | hi
    · rw [(hg i hi).1, List.getElem?_range hi]; rfl
    · rw [Array.getElem?_eq_none (by omega), List.getElem?_eq_none (by simpa using hi)]; rfl
  · simp only [List.mem_map, List.mem_range] at hx
    obtain ⟨i, hi, rfl⟩ := hx
    exact (hg i hi).2

theorem list_ev {l : List Int} (h : l.length = 9) : ∃ e : Ev, l.map (Value.int .i64) = e.cells := by
  match l, h with
  | [a, b, c, d, e, f, g, i, j], _ => exact ⟨⟨a, b, c, d, e, f, g, i, j⟩, rfl⟩
theorem ev_rp {S : Nat → Nat} {W : World} {e : Ev} : RP S W e.pa (.agg e.cells.toArray) := by
  have h : e.pa = .agg (e.cells.map Dt.sc) := rfl
  rw [h]
  exact RP.mkFlat (fun u hu => by
    unfold Ev.cells at hu
    simp only [List.mem_cons, List.not_mem_nil, or_false] at hu
    rcases hu with rfl | rfl | rfl | rfl | rfl | rfl | rfl | rfl | rfl <;> rfl)
theorem open_ev {H : Type} {enc : TypeId × Value → H} {w : World} {r : Reach} {b0 base : Nat} {spare : Nat → Bool} {held : Bool} {v : Value} {d : DataW H} {ps : List MemPlace} (hv : Value.okWide Tryd.prog w r b0 23 v) (h : DataW.Trod enc Tryd.prog w base spare held 23 v d ps) :
    ∃ e : Ev, v = .agg e.cells.toArray := by
  obtain ⟨l, hl, rfl, _⟩ := open_flat Tryd.underlying23 (by kernel_rfl) (by kernel_rfl) Tryd.underlying3 (by kernel_rfl) (n := 9) (by kernel_rfl) hv h
  obtain ⟨e, he⟩ := list_ev hl
  exact ⟨e, by rw [he]⟩
end Go.Proofs.YthnjbnfnljjepabDoor
end
