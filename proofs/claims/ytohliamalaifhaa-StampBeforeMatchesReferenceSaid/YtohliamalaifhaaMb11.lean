/- The reference of chapter 30: transfer. -/
import Derived.Test.YtohliamalaifhaaMb10
set_option linter.unusedSimpArgs false
set_option linter.unusedVariables false
namespace Go.Proofs.Ytohliamalaifhaa
open Go Go.RowKit
set_option maxRecDepth 100000
set_option maxHeartbeats 4000000

def R_transfer (ps rs : List Pa) : Prop := ∃ (s : RSt) (e : Ev), ps = [s.pa, e.pa] ∧ s.ok ∧ rs = [(s.transferR e).1.pa, pB (s.transferR e).2]
def env_transfer : Env := e1 40 R_channel (e1 42 R_setChannel (e1 41 R_begin e0))
theorem env_transfer_ok : EnvOK Try.prog env_transfer := EnvOK.e1 s_channel (EnvOK.e1 s_setChannel (EnvOK.e1 s_begin EnvOK.e0))
theorem bne_ne {a b : Int} (h : (a != b) = true) : a ≠ b := bne_iff_ne.1 h
theorem bne_eq {a b : Int} (h : (a != b) = false) : a = b := by simpa using h
theorem beq_ne {a b : Int} (h : (a == b) = false) : ¬ a = b := beq_eq_false_iff_ne.1 h
theorem s_transfer : Spec Try.prog 33 R_transfer := by
  refine sp33 env_transfer_ok ?_
  rintro ps rs ⟨s, e, rfl, hok, rfl⟩
  refine ⟨by simp, ?_⟩
  have hbd := RSt.channel_bd hok e.obj e.n
  have hch := hok.ch.1
  unfold pc33
  refine pwp_start ?_
  simp only [↓evP, evB, stB, reduceIte, reduceCtorEq, Nat.reduceEqDiff, Nat.reduceAdd, Nat.reduceMul, Nat.reduceLeDiff, Nat.reduceLT, Nat.reduceSub, Nat.reduceBEq, RSt.pa, RSt.row, Ev.pa, Ev.row]
  refine callOps_intro [.agg (s.channel e.obj e.n).row] ⟨s, e.obj, e.n, rfl, by omega, rfl⟩ ?_
  have ht : s.transferR e = s.transferR e := rfl
  conv at ht => rhs; unfold RSt.transferR
  generalize s.channel e.obj e.n = c at *
  obtain ⟨⟨c1, c2⟩, c3, c4⟩ := hbd
  have hw : IntKind.i64.wrap (c.sent - c.recv) = c.sent - c.recv := wr64 (by omega) (by omega)
  cases a0 : (c.n != e.n) with
  | true =>
    rw [ht, if_pos (bne_ne a0)]
    simp only [↓evP, evB, stB, reduceIte, reduceCtorEq, Nat.reduceEqDiff, Nat.reduceAdd, Nat.reduceMul, Nat.reduceLeDiff, Nat.reduceLT, Nat.reduceSub, Nat.reduceBEq, RCh.row, pr33, decide_true, decide_false, a0, RSt.pa, RSt.row]
  | false =>
  simp only [↓evP, evB, stB, reduceIte, reduceCtorEq, Nat.reduceEqDiff, Nat.reduceAdd, Nat.reduceMul, Nat.reduceLeDiff, Nat.reduceLT, Nat.reduceSub, Nat.reduceBEq, RCh.row, pr33, decide_true, decide_false, a0]
  refine pwp_fresh [2, 3, 4, 6, 7] [2, 3, 4, 6] (fun st hs ho => ?_)
  simp only [stB, reduceIte, reduceCtorEq, Nat.reduceEqDiff, Nat.reduceAdd, Nat.reduceMul, Nat.reduceLeDiff, Nat.reduceLT, Nat.reduceSub, Nat.reduceBEq] at hs ho
  obtain ⟨h2, h3, h4, h6, h7⟩ := hs
  obtain ⟨⟨g2, o2⟩, ⟨g3, o3⟩, ⟨g4, o4⟩, ⟨g6, o6⟩⟩ := ho
  cases k15 : (e.kind == 15) with
  | true =>
    cases a1 : (e.k != c.sent) with
    | true =>
      rw [ht, if_neg (fun h => h (bne_eq a0)), if_pos (beq_iff_eq.1 k15), if_pos (bne_ne a1)]
      unfold pc33c2 pc33c1 pc33c0
      simp only [↓evP, evB, stB, reduceIte, reduceCtorEq, Nat.reduceEqDiff, Nat.reduceAdd, Nat.reduceMul, Nat.reduceLeDiff, Nat.reduceLT, Nat.reduceSub, Nat.reduceBEq, RCh.row, pr33, decide_true, decide_false, h2, h3, h4, h6, h7, g2, g3, g4, g6, o2, o3, o4, o6, k15, a1, RSt.pa, RSt.row]
    | false =>
    cases a2 : c.closed with
    | true =>
      rw [ht, if_neg (fun h => h (bne_eq a0)), if_pos (beq_iff_eq.1 k15), if_neg (fun h => h (bne_eq a1)), if_pos a2]
      unfold pc33c2 pc33c1 pc33c0
      simp only [↓evP, evB, stB, reduceIte, reduceCtorEq, Nat.reduceEqDiff, Nat.reduceAdd, Nat.reduceMul, Nat.reduceLeDiff, Nat.reduceLT, Nat.reduceSub, Nat.reduceBEq, RCh.row, pr33, decide_true, decide_false, h2, h3, h4, h6, h7, g2, g3, g4, g6, o2, o3, o4, o6, k15, a1, a2, RSt.pa, RSt.row]
    | false =>
    by_cases b1 : c.n > 0
    · have b3 : (c.n == 0) = false := beq_eq_false_iff_ne.2 (by omega)
      by_cases b2 : c.sent - c.recv < c.n
      · 
        rw [ht, if_neg (fun h => h (bne_eq a0)), if_pos (beq_iff_eq.1 k15), if_neg (fun h => h (bne_eq a1)), if_neg (fun h => Bool.noConfusion (a2.symm.trans h)), if_pos ⟨b1, b2⟩]
        unfold pc33c2 pc33c1 pc33c0
        simp only [↓evP, evB, stB, reduceIte, reduceCtorEq, Nat.reduceEqDiff, Nat.reduceAdd, Nat.reduceMul, Nat.reduceLeDiff, Nat.reduceLT, Nat.reduceSub, Nat.reduceBEq, RCh.row, pr33, decide_true, decide_false, h2, h3, h4, h6, h7, g2, g3, g4, g6, o2, o3, o4, o6, k15, a1, a2, b1, b2, b3, hw]
        refine callOps_intro [(s.begin e [⟨16, e.g, 0⟩]).pa, pB true] ⟨s, e, [⟨16, e.g, 0⟩], rfl, ⟨hok, by simp⟩, rfl⟩ ?_
        simp only [↓evP, evB, stB, reduceIte, reduceCtorEq, Nat.reduceEqDiff, Nat.reduceAdd, Nat.reduceMul, Nat.reduceLeDiff, Nat.reduceLT, Nat.reduceSub, Nat.reduceBEq, RCh.row, pr33, decide_true, decide_false, h2, h3, h4, h6, h7, g2, g3, g4, g6, o2, o3, o4, o6, k15, a1, a2, b1, b2, b3, hw, RSt.pa, RSt.row]
      · 
        rw [ht, if_neg (fun h => h (bne_eq a0)), if_pos (beq_iff_eq.1 k15), if_neg (fun h => h (bne_eq a1)), if_neg (fun h => Bool.noConfusion (a2.symm.trans h)), if_neg (fun h => b2 h.2), if_neg (fun h => beq_ne b3 h.1)]
        unfold pc33c2 pc33c1 pc33c0
        simp only [↓evP, evB, stB, reduceIte, reduceCtorEq, Nat.reduceEqDiff, Nat.reduceAdd, Nat.reduceMul, Nat.reduceLeDiff, Nat.reduceLT, Nat.reduceSub, Nat.reduceBEq, RCh.row, pr33, decide_true, decide_false, h2, h3, h4, h6, h7, g2, g3, g4, g6, o2, o3, o4, o6, k15, a1, a2, b1, b2, b3, hw, RSt.pa, RSt.row]
    · cases b3 : (c.n == 0) with
      | true =>
        by_cases b4 : s.gor > 1
        · 
          rw [ht, if_neg (fun h => h (bne_eq a0)), if_pos (beq_iff_eq.1 k15), if_neg (fun h => h (bne_eq a1)), if_neg (fun h => Bool.noConfusion (a2.symm.trans h)), if_neg (fun h => b1 h.1), if_pos ⟨beq_iff_eq.1 b3, b4⟩]
          unfold pc33c2 pc33c1 pc33c0
          simp only [↓evP, evB, stB, reduceIte, reduceCtorEq, Nat.reduceEqDiff, Nat.reduceAdd, Nat.reduceMul, Nat.reduceLeDiff, Nat.reduceLT, Nat.reduceSub, Nat.reduceBEq, RCh.row, pr33, decide_true, decide_false, h2, h3, h4, h6, h7, g2, g3, g4, g6, o2, o3, o4, o6, k15, a1, a2, b1, b3, b4]
          refine callOps_intro [(s.begin e [⟨17, -1, e.g⟩, ⟨18, -1, 0⟩, ⟨16, e.g, 0⟩]).pa, pB true] ⟨s, e, [⟨17, -1, e.g⟩, ⟨18, -1, 0⟩, ⟨16, e.g, 0⟩], rfl, ⟨hok, by simp⟩, rfl⟩ ?_
          simp only [↓evP, evB, stB, reduceIte, reduceCtorEq, Nat.reduceEqDiff, Nat.reduceAdd, Nat.reduceMul, Nat.reduceLeDiff, Nat.reduceLT, Nat.reduceSub, Nat.reduceBEq, RCh.row, pr33, decide_true, decide_false, h2, h3, h4, h6, h7, g2, g3, g4, g6, o2, o3, o4, o6, k15, a1, a2, b1, b3, b4, RSt.pa, RSt.row]
        · 
          rw [ht, if_neg (fun h => h (bne_eq a0)), if_pos (beq_iff_eq.1 k15), if_neg (fun h => h (bne_eq a1)), if_neg (fun h => Bool.noConfusion (a2.symm.trans h)), if_neg (fun h => b1 h.1), if_neg (fun h => b4 h.2)]
          unfold pc33c2 pc33c1 pc33c0
          simp only [↓evP, evB, stB, reduceIte, reduceCtorEq, Nat.reduceEqDiff, Nat.reduceAdd, Nat.reduceMul, Nat.reduceLeDiff, Nat.reduceLT, Nat.reduceSub, Nat.reduceBEq, RCh.row, pr33, decide_true, decide_false, h2, h3, h4, h6, h7, g2, g3, g4, g6, o2, o3, o4, o6, k15, a1, a2, b1, b3, b4, RSt.pa, RSt.row]
      | false =>
        rw [ht, if_neg (fun h => h (bne_eq a0)), if_pos (beq_iff_eq.1 k15), if_neg (fun h => h (bne_eq a1)), if_neg (fun h => Bool.noConfusion (a2.symm.trans h)), if_neg (fun h => b1 h.1), if_neg (fun h => beq_ne b3 h.1)]
        unfold pc33c2 pc33c1 pc33c0
        simp only [↓evP, evB, stB, reduceIte, reduceCtorEq, Nat.reduceEqDiff, Nat.reduceAdd, Nat.reduceMul, Nat.reduceLeDiff, Nat.reduceLT, Nat.reduceSub, Nat.reduceBEq, RCh.row, pr33, decide_true, decide_false, h2, h3, h4, h6, h7, g2, g3, g4, g6, o2, o3, o4, o6, k15, a1, a2, b1, b3, RSt.pa, RSt.row]
  | false =>
  cases k17 : (e.kind == 17) with
  | true =>
    cases a1 : (e.k != c.recv) with
    | true =>
      rw [ht, if_neg (fun h => h (bne_eq a0)), if_neg (beq_ne k15), if_pos (beq_iff_eq.1 k17), if_pos (bne_ne a1)]
      unfold pc33c2 pc33c1 pc33c0
      simp only [↓evP, evB, stB, reduceIte, reduceCtorEq, Nat.reduceEqDiff, Nat.reduceAdd, Nat.reduceMul, Nat.reduceLeDiff, Nat.reduceLT, Nat.reduceSub, Nat.reduceBEq, RCh.row, pr33, decide_true, decide_false, h2, h3, h4, h6, h7, g2, g3, g4, g6, o2, o3, o4, o6, k15, k17, a1, RSt.pa, RSt.row]
    | false =>
    by_cases b1 : c.sent > c.recv
    · 
      rw [ht, if_neg (fun h => h (bne_eq a0)), if_neg (beq_ne k15), if_pos (beq_iff_eq.1 k17), if_neg (fun h => h (bne_eq a1)), if_pos b1]
      unfold pc33c2 pc33c1 pc33c0
      simp only [↓evP, evB, stB, reduceIte, reduceCtorEq, Nat.reduceEqDiff, Nat.reduceAdd, Nat.reduceMul, Nat.reduceLeDiff, Nat.reduceLT, Nat.reduceSub, Nat.reduceBEq, RCh.row, pr33, decide_true, decide_false, h2, h3, h4, h6, h7, g2, g3, g4, g6, o2, o3, o4, o6, k15, k17, a1, b1]
      refine callOps_intro [(s.begin e [⟨18, e.g, 0⟩]).pa, pB true] ⟨s, e, [⟨18, e.g, 0⟩], rfl, ⟨hok, by simp⟩, rfl⟩ ?_
      simp only [↓evP, evB, stB, reduceIte, reduceCtorEq, Nat.reduceEqDiff, Nat.reduceAdd, Nat.reduceMul, Nat.reduceLeDiff, Nat.reduceLT, Nat.reduceSub, Nat.reduceBEq, RCh.row, pr33, decide_true, decide_false, h2, h3, h4, h6, h7, g2, g3, g4, g6, o2, o3, o4, o6, k15, k17, a1, b1, RSt.pa, RSt.row]
    · 
      cases a2 : c.closed with
      | true =>
        rw [ht, if_neg (fun h => h (bne_eq a0)), if_neg (beq_ne k15), if_pos (beq_iff_eq.1 k17), if_neg (fun h => h (bne_eq a1)), if_neg (fun h => b1 h), if_neg (fun h => Bool.noConfusion (a2.symm.trans h.1))]
        unfold pc33c2 pc33c1 pc33c0
        simp only [↓evP, evB, stB, reduceIte, reduceCtorEq, Nat.reduceEqDiff, Nat.reduceAdd, Nat.reduceMul, Nat.reduceLeDiff, Nat.reduceLT, Nat.reduceSub, Nat.reduceBEq, RCh.row, pr33, decide_true, decide_false, h2, h3, h4, h6, h7, g2, g3, g4, g6, o2, o3, o4, o6, k15, k17, a1, a2, b1, RSt.pa, RSt.row]
      | false =>
        by_cases b4 : s.gor > 1
        · 
          rw [ht, if_neg (fun h => h (bne_eq a0)), if_neg (beq_ne k15), if_pos (beq_iff_eq.1 k17), if_neg (fun h => h (bne_eq a1)), if_neg (fun h => b1 h), if_pos ⟨a2, b4⟩]
          unfold pc33c2 pc33c1 pc33c0
          simp only [↓evP, evB, stB, reduceIte, reduceCtorEq, Nat.reduceEqDiff, Nat.reduceAdd, Nat.reduceMul, Nat.reduceLeDiff, Nat.reduceLT, Nat.reduceSub, Nat.reduceBEq, RCh.row, pr33, decide_true, decide_false, h2, h3, h4, h6, h7, g2, g3, g4, g6, o2, o3, o4, o6, k15, k17, a1, a2, b1, b4]
          refine callOps_intro [(s.begin e [⟨15, -1, e.g⟩, ⟨18, e.g, 0⟩, ⟨16, -1, 0⟩]).pa, pB true] ⟨s, e, [⟨15, -1, e.g⟩, ⟨18, e.g, 0⟩, ⟨16, -1, 0⟩], rfl, ⟨hok, by simp⟩, rfl⟩ ?_
          simp only [↓evP, evB, stB, reduceIte, reduceCtorEq, Nat.reduceEqDiff, Nat.reduceAdd, Nat.reduceMul, Nat.reduceLeDiff, Nat.reduceLT, Nat.reduceSub, Nat.reduceBEq, RCh.row, pr33, decide_true, decide_false, h2, h3, h4, h6, h7, g2, g3, g4, g6, o2, o3, o4, o6, k15, k17, a1, a2, b1, b4, RSt.pa, RSt.row]
        · 
          rw [ht, if_neg (fun h => h (bne_eq a0)), if_neg (beq_ne k15), if_pos (beq_iff_eq.1 k17), if_neg (fun h => h (bne_eq a1)), if_neg (fun h => b1 h), if_neg (fun h => b4 h.2)]
          unfold pc33c2 pc33c1 pc33c0
          simp only [↓evP, evB, stB, reduceIte, reduceCtorEq, Nat.reduceEqDiff, Nat.reduceAdd, Nat.reduceMul, Nat.reduceLeDiff, Nat.reduceLT, Nat.reduceSub, Nat.reduceBEq, RCh.row, pr33, decide_true, decide_false, h2, h3, h4, h6, h7, g2, g3, g4, g6, o2, o3, o4, o6, k15, k17, a1, a2, b1, b4, RSt.pa, RSt.row]
  | false =>
  cases k19 : (e.kind == 19) with
  | true =>
    cases a2 : c.closed with
    | true =>
      rw [ht, if_neg (fun h => h (bne_eq a0)), if_neg (beq_ne k15), if_neg (beq_ne k17), if_pos (beq_iff_eq.1 k19), if_pos a2]
      unfold pc33c2 pc33c1 pc33c0
      simp only [↓evP, evB, stB, reduceIte, reduceCtorEq, Nat.reduceEqDiff, Nat.reduceAdd, Nat.reduceMul, Nat.reduceLeDiff, Nat.reduceLT, Nat.reduceSub, Nat.reduceBEq, RCh.row, pr33, decide_true, decide_false, h2, h3, h4, h6, h7, g2, g3, g4, g6, o2, o3, o4, o6, k15, k17, k19, a2, RSt.pa, RSt.row]
    | false =>
      rw [ht, if_neg (fun h => h (bne_eq a0)), if_neg (beq_ne k15), if_neg (beq_ne k17), if_pos (beq_iff_eq.1 k19), if_neg (fun h => Bool.noConfusion (a2.symm.trans h))]
      unfold pc33c2 pc33c1 pc33c0
      simp only [↓evP, evB, stB, reduceIte, reduceCtorEq, Nat.reduceEqDiff, Nat.reduceAdd, Nat.reduceMul, Nat.reduceLeDiff, Nat.reduceLT, Nat.reduceSub, Nat.reduceBEq, RCh.row, pr33, decide_true, decide_false, h2, h3, h4, h6, h7, g2, g3, g4, g6, o2, o3, o4, o6, k15, k17, k19, a2]
      refine callOps_intro [(s.setChannel { c with closed := true }).pa] ⟨s, { c with closed := true }, rfl, hok.ch.1, rfl⟩ ?_
      simp only [↓evP, evB, stB, reduceIte, reduceCtorEq, Nat.reduceEqDiff, Nat.reduceAdd, Nat.reduceMul, Nat.reduceLeDiff, Nat.reduceLT, Nat.reduceSub, Nat.reduceBEq, RCh.row, pr33, decide_true, decide_false, h2, h3, h4, h6, h7, g2, g3, g4, g6, o2, o3, o4, o6, k15, k17, k19, a2, RSt.pa, RSt.row]
  | false =>
  cases k20 : (e.kind == 20) with
  | true =>
    cases a2 : c.closed with
    | true =>
      rw [ht, if_neg (fun h => h (bne_eq a0)), if_neg (beq_ne k15), if_neg (beq_ne k17), if_neg (beq_ne k19), if_pos (beq_iff_eq.1 k20)]
      unfold pc33c2 pc33c1 pc33c0
      simp only [↓evP, evB, stB, reduceIte, reduceCtorEq, Nat.reduceEqDiff, Nat.reduceAdd, Nat.reduceMul, Nat.reduceLeDiff, Nat.reduceLT, Nat.reduceSub, Nat.reduceBEq, RCh.row, pr33, decide_true, decide_false, h2, h3, h4, h6, h7, g2, g3, g4, g6, o2, o3, o4, o6, k15, k17, k19, k20, a2, RSt.pa, RSt.row]
      (unfold Drw; kernel_rfl)
    | false =>
      rw [ht, if_neg (fun h => h (bne_eq a0)), if_neg (beq_ne k15), if_neg (beq_ne k17), if_neg (beq_ne k19), if_pos (beq_iff_eq.1 k20)]
      unfold pc33c2 pc33c1 pc33c0
      simp only [↓evP, evB, stB, reduceIte, reduceCtorEq, Nat.reduceEqDiff, Nat.reduceAdd, Nat.reduceMul, Nat.reduceLeDiff, Nat.reduceLT, Nat.reduceSub, Nat.reduceBEq, RCh.row, pr33, decide_true, decide_false, h2, h3, h4, h6, h7, g2, g3, g4, g6, o2, o3, o4, o6, k15, k17, k19, k20, a2, RSt.pa, RSt.row]
      (unfold Drw; kernel_rfl)
  | false =>
    rw [ht, if_neg (fun h => h (bne_eq a0)), if_neg (beq_ne k15), if_neg (beq_ne k17), if_neg (beq_ne k19), if_neg (beq_ne k20)]
    unfold pc33c2 pc33c1 pc33c0
    simp only [↓evP, evB, stB, reduceIte, reduceCtorEq, Nat.reduceEqDiff, Nat.reduceAdd, Nat.reduceMul, Nat.reduceLeDiff, Nat.reduceLT, Nat.reduceSub, Nat.reduceBEq, RCh.row, pr33, decide_true, decide_false, h2, h3, h4, h6, h7, g2, g3, g4, g6, o2, o3, o4, o6, k15, k17, k19, k20, RSt.pa, RSt.row]
end Go.Proofs.Ytohliamalaifhaa
