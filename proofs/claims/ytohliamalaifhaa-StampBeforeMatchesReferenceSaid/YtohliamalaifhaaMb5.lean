/- What the reference calls immediate, whole. -/
import Derived.Test.YtohliamalaifhaaMb4
set_option linter.unusedSimpArgs false
set_option linter.unusedVariables false
namespace Go.Proofs.Ytohliamalaifhaa
open Go Go.RowKit
set_option maxRecDepth 100000
set_option maxHeartbeats 4000000
open Classical

def R_imm34 (ps rs : List Pa) : Prop := ∃ (l : List Ev) (i j : Nat), ps = [evsPa l, pI i, pI j] ∧ (i < l.length ∧ j < l.length ∧ i < j ∧ l.length ≤ 1000000 ∧ (0 ≤ (evAt l i).k ∧ (evAt l i).k ≤ 2147483647 ∧ 0 ≤ (evAt l i).n ∧ (evAt l i).n ≤ 2147483647)) ∧ rs = [pB (decide (Imm l i j))]
def env_imm34 : Env := e1 26 R_prog34 (e1 27 R_first34 (e1 28 R_atomic34 e0))
theorem env_imm34_ok : EnvOK Try.prog env_imm34 := EnvOK.e1 s_prog34 (EnvOK.e1 s_first34 (EnvOK.e1 s_atomic34 EnvOK.e0))
theorem imm_sw {l : List Ev} {i j : Nat} (hi : i < l.length) (hj : j < l.length) (hij : i < j) (hlen : l.length ≤ 1000000) {a b : Ev} (hw : IntKind.i64.wrap (a.k + a.n) = a.k + a.n) (hs : decide (Imm l i j) = (if a.obj ≠ b.obj then false
  else if a.off ≠ b.off then false
  else if a.kind = 15 then b.kind == 18 && b.k == a.k
  else if a.kind = 17 then b.kind == 16 && b.k == a.k + a.n
  else if a.kind = 19 then b.kind == 20
  else if a.kind = 7 then b.kind == 6 || b.kind == 8
  else if a.kind = 9 then b.kind == 6
  else if a.kind = 10 then b.kind == 11
  else if a.kind = 12 then b.kind == 13
  else if a.kind = 4 ∨ a.kind = 5 then (b.kind == 3 || b.kind == 5) && decide (Atom l i j)
  else false)) (Q : Exit → St → Prop) (hQ : ∀ st, st.res pri20 = some [pB (decide (Imm l i j))] → Q .ret st) (st : St)
  (h0 : st.sl 0 = .b (.one (.d (evsD l)))) (h1 : st.sl 1 = aI i) (h2 : st.sl 2 = aI j) (h7 : st.sl 7 = .b (.one (.ptr 7 1 0))) (h8 : st.sl 8 = .b (.one (.ptr 8 1 0))) (g7 : st.gen 7 = 1) (g8 : st.gen 8 = 1) (o7 : st.ob 7 = .cells (a.row.map .d)) (o8 : st.ob 8 = .cells (b.row.map .d)) :
    pwp env_imm34 pci20c12 (exS env_imm34 [] Q) st := by
  unfold pci20c12 pci20c11 pci20c10 pci20c9 pci20c8 pci20c7 pci20c6 pci20c5 pci20c4 pci20c3 pci20c2 pci20c1 pci20c0
  simp only [evsD] at h0
  simp only [Ev.row, List.map_cons, List.map_nil] at o7 o8
  cases qo : (a.obj != b.obj) with
  | true =>
    rw [if_pos (bne_iff_ne.1 qo)] at hs
    simp only [↓evP, evB, stB, reduceIte, reduceCtorEq, Nat.reduceEqDiff, Nat.reduceAdd, Nat.reduceMul, Nat.reduceLeDiff, Nat.reduceLT, Nat.reduceSub, Nat.reduceBEq, h0, h1, h2, h7, h8, g7, g8, o7, o8, qo]
    exact hQ _ (by simp only [stB, reduceIte, reduceCtorEq, Nat.reduceEqDiff, Nat.reduceAdd, Nat.reduceMul, Nat.reduceLeDiff, Nat.reduceLT, Nat.reduceSub, Nat.reduceBEq, hs, pri20])
  | false =>
  rw [if_neg (fun h => by rw [bne_iff_ne.2 h] at qo; cases qo)] at hs
  cases qf : (a.off != b.off) with
  | true =>
    rw [if_pos (bne_iff_ne.1 qf)] at hs
    simp only [↓evP, evB, stB, reduceIte, reduceCtorEq, Nat.reduceEqDiff, Nat.reduceAdd, Nat.reduceMul, Nat.reduceLeDiff, Nat.reduceLT, Nat.reduceSub, Nat.reduceBEq, h0, h1, h2, h7, h8, g7, g8, o7, o8, qo, qf]
    exact hQ _ (by simp only [stB, reduceIte, reduceCtorEq, Nat.reduceEqDiff, Nat.reduceAdd, Nat.reduceMul, Nat.reduceLeDiff, Nat.reduceLT, Nat.reduceSub, Nat.reduceBEq, hs, pri20])
  | false =>
  rw [if_neg (fun h => by rw [bne_iff_ne.2 h] at qf; cases qf)] at hs
  cases k15 : (a.kind == 15) with
  | true =>
    rw [if_pos (beq_iff_eq.1 k15)] at hs
    cases c1 : (b.kind == 18) with
    | false =>
      rw [c1, Bool.false_and] at hs
      simp only [↓evP, evB, stB, reduceIte, reduceCtorEq, Nat.reduceEqDiff, Nat.reduceAdd, Nat.reduceMul, Nat.reduceLeDiff, Nat.reduceLT, Nat.reduceSub, Nat.reduceBEq, h0, h1, h2, h7, h8, g7, g8, o7, o8, qo, qf, k15, c1]
      exact hQ _ (by simp only [stB, reduceIte, reduceCtorEq, Nat.reduceEqDiff, Nat.reduceAdd, Nat.reduceMul, Nat.reduceLeDiff, Nat.reduceLT, Nat.reduceSub, Nat.reduceBEq, hs, pri20])
    | true =>
      rw [c1, Bool.true_and] at hs
      simp only [↓evP, evB, stB, reduceIte, reduceCtorEq, Nat.reduceEqDiff, Nat.reduceAdd, Nat.reduceMul, Nat.reduceLeDiff, Nat.reduceLT, Nat.reduceSub, Nat.reduceBEq, h0, h1, h2, h7, h8, g7, g8, o7, o8, qo, qf, k15, c1, hw]
      exact hQ _ (by simp only [stB, reduceIte, reduceCtorEq, Nat.reduceEqDiff, Nat.reduceAdd, Nat.reduceMul, Nat.reduceLeDiff, Nat.reduceLT, Nat.reduceSub, Nat.reduceBEq, hs, pri20])
  | false =>
  rw [if_neg (beq_eq_false_iff_ne.1 k15)] at hs
  cases k17 : (a.kind == 17) with
  | true =>
    rw [if_pos (beq_iff_eq.1 k17)] at hs
    cases c1 : (b.kind == 16) with
    | false =>
      rw [c1, Bool.false_and] at hs
      simp only [↓evP, evB, stB, reduceIte, reduceCtorEq, Nat.reduceEqDiff, Nat.reduceAdd, Nat.reduceMul, Nat.reduceLeDiff, Nat.reduceLT, Nat.reduceSub, Nat.reduceBEq, h0, h1, h2, h7, h8, g7, g8, o7, o8, qo, qf, k15, k17, c1]
      exact hQ _ (by simp only [stB, reduceIte, reduceCtorEq, Nat.reduceEqDiff, Nat.reduceAdd, Nat.reduceMul, Nat.reduceLeDiff, Nat.reduceLT, Nat.reduceSub, Nat.reduceBEq, hs, pri20])
    | true =>
      rw [c1, Bool.true_and] at hs
      simp only [↓evP, evB, stB, reduceIte, reduceCtorEq, Nat.reduceEqDiff, Nat.reduceAdd, Nat.reduceMul, Nat.reduceLeDiff, Nat.reduceLT, Nat.reduceSub, Nat.reduceBEq, h0, h1, h2, h7, h8, g7, g8, o7, o8, qo, qf, k15, k17, c1, hw]
      exact hQ _ (by simp only [stB, reduceIte, reduceCtorEq, Nat.reduceEqDiff, Nat.reduceAdd, Nat.reduceMul, Nat.reduceLeDiff, Nat.reduceLT, Nat.reduceSub, Nat.reduceBEq, hs, pri20])
  | false =>
  rw [if_neg (beq_eq_false_iff_ne.1 k17)] at hs
  cases k19 : (a.kind == 19) with
  | true =>
    rw [if_pos (beq_iff_eq.1 k19)] at hs
    simp only [↓evP, evB, stB, reduceIte, reduceCtorEq, Nat.reduceEqDiff, Nat.reduceAdd, Nat.reduceMul, Nat.reduceLeDiff, Nat.reduceLT, Nat.reduceSub, Nat.reduceBEq, h0, h1, h2, h7, h8, g7, g8, o7, o8, qo, qf, k15, k17, k19]
    exact hQ _ (by simp only [stB, reduceIte, reduceCtorEq, Nat.reduceEqDiff, Nat.reduceAdd, Nat.reduceMul, Nat.reduceLeDiff, Nat.reduceLT, Nat.reduceSub, Nat.reduceBEq, hs, pri20])
  | false =>
  rw [if_neg (beq_eq_false_iff_ne.1 k19)] at hs
  cases k7 : (a.kind == 7) with
  | true =>
    rw [if_pos (beq_iff_eq.1 k7)] at hs
    cases c1 : (b.kind == 6) with
    | true =>
      rw [c1, Bool.true_or] at hs
      simp only [↓evP, evB, stB, reduceIte, reduceCtorEq, Nat.reduceEqDiff, Nat.reduceAdd, Nat.reduceMul, Nat.reduceLeDiff, Nat.reduceLT, Nat.reduceSub, Nat.reduceBEq, h0, h1, h2, h7, h8, g7, g8, o7, o8, qo, qf, k15, k17, k19, k7, c1]
      exact hQ _ (by simp only [stB, reduceIte, reduceCtorEq, Nat.reduceEqDiff, Nat.reduceAdd, Nat.reduceMul, Nat.reduceLeDiff, Nat.reduceLT, Nat.reduceSub, Nat.reduceBEq, hs, pri20])
    | false =>
      rw [c1, Bool.false_or] at hs
      simp only [↓evP, evB, stB, reduceIte, reduceCtorEq, Nat.reduceEqDiff, Nat.reduceAdd, Nat.reduceMul, Nat.reduceLeDiff, Nat.reduceLT, Nat.reduceSub, Nat.reduceBEq, h0, h1, h2, h7, h8, g7, g8, o7, o8, qo, qf, k15, k17, k19, k7, c1]
      exact hQ _ (by simp only [stB, reduceIte, reduceCtorEq, Nat.reduceEqDiff, Nat.reduceAdd, Nat.reduceMul, Nat.reduceLeDiff, Nat.reduceLT, Nat.reduceSub, Nat.reduceBEq, hs, pri20])
  | false =>
  rw [if_neg (beq_eq_false_iff_ne.1 k7)] at hs
  cases k9 : (a.kind == 9) with
  | true =>
    rw [if_pos (beq_iff_eq.1 k9)] at hs
    simp only [↓evP, evB, stB, reduceIte, reduceCtorEq, Nat.reduceEqDiff, Nat.reduceAdd, Nat.reduceMul, Nat.reduceLeDiff, Nat.reduceLT, Nat.reduceSub, Nat.reduceBEq, h0, h1, h2, h7, h8, g7, g8, o7, o8, qo, qf, k15, k17, k19, k7, k9]
    exact hQ _ (by simp only [stB, reduceIte, reduceCtorEq, Nat.reduceEqDiff, Nat.reduceAdd, Nat.reduceMul, Nat.reduceLeDiff, Nat.reduceLT, Nat.reduceSub, Nat.reduceBEq, hs, pri20])
  | false =>
  rw [if_neg (beq_eq_false_iff_ne.1 k9)] at hs
  cases k10 : (a.kind == 10) with
  | true =>
    rw [if_pos (beq_iff_eq.1 k10)] at hs
    simp only [↓evP, evB, stB, reduceIte, reduceCtorEq, Nat.reduceEqDiff, Nat.reduceAdd, Nat.reduceMul, Nat.reduceLeDiff, Nat.reduceLT, Nat.reduceSub, Nat.reduceBEq, h0, h1, h2, h7, h8, g7, g8, o7, o8, qo, qf, k15, k17, k19, k7, k9, k10]
    exact hQ _ (by simp only [stB, reduceIte, reduceCtorEq, Nat.reduceEqDiff, Nat.reduceAdd, Nat.reduceMul, Nat.reduceLeDiff, Nat.reduceLT, Nat.reduceSub, Nat.reduceBEq, hs, pri20])
  | false =>
  rw [if_neg (beq_eq_false_iff_ne.1 k10)] at hs
  cases k12 : (a.kind == 12) with
  | true =>
    rw [if_pos (beq_iff_eq.1 k12)] at hs
    simp only [↓evP, evB, stB, reduceIte, reduceCtorEq, Nat.reduceEqDiff, Nat.reduceAdd, Nat.reduceMul, Nat.reduceLeDiff, Nat.reduceLT, Nat.reduceSub, Nat.reduceBEq, h0, h1, h2, h7, h8, g7, g8, o7, o8, qo, qf, k15, k17, k19, k7, k9, k10, k12]
    exact hQ _ (by simp only [stB, reduceIte, reduceCtorEq, Nat.reduceEqDiff, Nat.reduceAdd, Nat.reduceMul, Nat.reduceLeDiff, Nat.reduceLT, Nat.reduceSub, Nat.reduceBEq, hs, pri20])
  | false =>
  rw [if_neg (beq_eq_false_iff_ne.1 k12)] at hs
  cases k4 : (a.kind == 4) with
  | true =>
    rw [if_pos (.inl (beq_iff_eq.1 k4))] at hs
    cases c3 : (b.kind == 3) with
    | true =>
      rw [c3, Bool.true_or, Bool.true_and] at hs
      simp only [↓evP, evB, stB, reduceIte, reduceCtorEq, Nat.reduceEqDiff, Nat.reduceAdd, Nat.reduceMul, Nat.reduceLeDiff, Nat.reduceLT, Nat.reduceSub, Nat.reduceBEq, h0, h1, h2, h7, h8, g7, g8, o7, o8, qo, qf, k15, k17, k19, k7, k9, k10, k12, k4, c3]
      refine callOps_intro [pB (decide (Atom l i j))] ⟨l, i, j, rfl, ⟨hi, hj, hij, hlen⟩, rfl⟩ ?_
      simp only [↓evP, evB, stB, reduceIte, reduceCtorEq, Nat.reduceEqDiff, Nat.reduceAdd, Nat.reduceMul, Nat.reduceLeDiff, Nat.reduceLT, Nat.reduceSub, Nat.reduceBEq, h0, h1, h2, h7, h8, g7, g8, o7, o8, qo, qf, k15, k17, k19, k7, k9, k10, k12, k4, c3]
      exact hQ _ (by simp only [stB, reduceIte, reduceCtorEq, Nat.reduceEqDiff, Nat.reduceAdd, Nat.reduceMul, Nat.reduceLeDiff, Nat.reduceLT, Nat.reduceSub, Nat.reduceBEq, hs, pri20])
    | false =>
    cases c5 : (b.kind == 5) with
    | true =>
      rw [c3, c5, Bool.false_or, Bool.true_and] at hs
      simp only [↓evP, evB, stB, reduceIte, reduceCtorEq, Nat.reduceEqDiff, Nat.reduceAdd, Nat.reduceMul, Nat.reduceLeDiff, Nat.reduceLT, Nat.reduceSub, Nat.reduceBEq, h0, h1, h2, h7, h8, g7, g8, o7, o8, qo, qf, k15, k17, k19, k7, k9, k10, k12, k4, c3, c5]
      refine callOps_intro [pB (decide (Atom l i j))] ⟨l, i, j, rfl, ⟨hi, hj, hij, hlen⟩, rfl⟩ ?_
      simp only [↓evP, evB, stB, reduceIte, reduceCtorEq, Nat.reduceEqDiff, Nat.reduceAdd, Nat.reduceMul, Nat.reduceLeDiff, Nat.reduceLT, Nat.reduceSub, Nat.reduceBEq, h0, h1, h2, h7, h8, g7, g8, o7, o8, qo, qf, k15, k17, k19, k7, k9, k10, k12, k4, c3, c5]
      exact hQ _ (by simp only [stB, reduceIte, reduceCtorEq, Nat.reduceEqDiff, Nat.reduceAdd, Nat.reduceMul, Nat.reduceLeDiff, Nat.reduceLT, Nat.reduceSub, Nat.reduceBEq, hs, pri20])
    | false =>
      rw [c3, c5, Bool.false_or, Bool.false_and] at hs
      simp only [↓evP, evB, stB, reduceIte, reduceCtorEq, Nat.reduceEqDiff, Nat.reduceAdd, Nat.reduceMul, Nat.reduceLeDiff, Nat.reduceLT, Nat.reduceSub, Nat.reduceBEq, h0, h1, h2, h7, h8, g7, g8, o7, o8, qo, qf, k15, k17, k19, k7, k9, k10, k12, k4, c3, c5]
      exact hQ _ (by simp only [stB, reduceIte, reduceCtorEq, Nat.reduceEqDiff, Nat.reduceAdd, Nat.reduceMul, Nat.reduceLeDiff, Nat.reduceLT, Nat.reduceSub, Nat.reduceBEq, hs, pri20])
  | false =>
  cases k5 : (a.kind == 5) with
  | true =>
    rw [if_pos (.inr (beq_iff_eq.1 k5))] at hs
    cases c3 : (b.kind == 3) with
    | true =>
      rw [c3, Bool.true_or, Bool.true_and] at hs
      simp only [↓evP, evB, stB, reduceIte, reduceCtorEq, Nat.reduceEqDiff, Nat.reduceAdd, Nat.reduceMul, Nat.reduceLeDiff, Nat.reduceLT, Nat.reduceSub, Nat.reduceBEq, h0, h1, h2, h7, h8, g7, g8, o7, o8, qo, qf, k15, k17, k19, k7, k9, k10, k12, k4, k5, c3]
      refine callOps_intro [pB (decide (Atom l i j))] ⟨l, i, j, rfl, ⟨hi, hj, hij, hlen⟩, rfl⟩ ?_
      simp only [↓evP, evB, stB, reduceIte, reduceCtorEq, Nat.reduceEqDiff, Nat.reduceAdd, Nat.reduceMul, Nat.reduceLeDiff, Nat.reduceLT, Nat.reduceSub, Nat.reduceBEq, h0, h1, h2, h7, h8, g7, g8, o7, o8, qo, qf, k15, k17, k19, k7, k9, k10, k12, k4, k5, c3]
      exact hQ _ (by simp only [stB, reduceIte, reduceCtorEq, Nat.reduceEqDiff, Nat.reduceAdd, Nat.reduceMul, Nat.reduceLeDiff, Nat.reduceLT, Nat.reduceSub, Nat.reduceBEq, hs, pri20])
    | false =>
    cases c5 : (b.kind == 5) with
    | true =>
      rw [c3, c5, Bool.false_or, Bool.true_and] at hs
      simp only [↓evP, evB, stB, reduceIte, reduceCtorEq, Nat.reduceEqDiff, Nat.reduceAdd, Nat.reduceMul, Nat.reduceLeDiff, Nat.reduceLT, Nat.reduceSub, Nat.reduceBEq, h0, h1, h2, h7, h8, g7, g8, o7, o8, qo, qf, k15, k17, k19, k7, k9, k10, k12, k4, k5, c3, c5]
      refine callOps_intro [pB (decide (Atom l i j))] ⟨l, i, j, rfl, ⟨hi, hj, hij, hlen⟩, rfl⟩ ?_
      simp only [↓evP, evB, stB, reduceIte, reduceCtorEq, Nat.reduceEqDiff, Nat.reduceAdd, Nat.reduceMul, Nat.reduceLeDiff, Nat.reduceLT, Nat.reduceSub, Nat.reduceBEq, h0, h1, h2, h7, h8, g7, g8, o7, o8, qo, qf, k15, k17, k19, k7, k9, k10, k12, k4, k5, c3, c5]
      exact hQ _ (by simp only [stB, reduceIte, reduceCtorEq, Nat.reduceEqDiff, Nat.reduceAdd, Nat.reduceMul, Nat.reduceLeDiff, Nat.reduceLT, Nat.reduceSub, Nat.reduceBEq, hs, pri20])
    | false =>
      rw [c3, c5, Bool.false_or, Bool.false_and] at hs
      simp only [↓evP, evB, stB, reduceIte, reduceCtorEq, Nat.reduceEqDiff, Nat.reduceAdd, Nat.reduceMul, Nat.reduceLeDiff, Nat.reduceLT, Nat.reduceSub, Nat.reduceBEq, h0, h1, h2, h7, h8, g7, g8, o7, o8, qo, qf, k15, k17, k19, k7, k9, k10, k12, k4, k5, c3, c5]
      exact hQ _ (by simp only [stB, reduceIte, reduceCtorEq, Nat.reduceEqDiff, Nat.reduceAdd, Nat.reduceMul, Nat.reduceLeDiff, Nat.reduceLT, Nat.reduceSub, Nat.reduceBEq, hs, pri20])
  | false =>
    rw [if_neg (fun h => h.elim (beq_eq_false_iff_ne.1 k4) (beq_eq_false_iff_ne.1 k5))] at hs
    simp only [↓evP, evB, stB, reduceIte, reduceCtorEq, Nat.reduceEqDiff, Nat.reduceAdd, Nat.reduceMul, Nat.reduceLeDiff, Nat.reduceLT, Nat.reduceSub, Nat.reduceBEq, h0, h1, h2, h7, h8, g7, g8, o7, o8, qo, qf, k15, k17, k19, k7, k9, k10, k12, k4, k5]
    exact hQ _ (by simp only [stB, reduceIte, reduceCtorEq, Nat.reduceEqDiff, Nat.reduceAdd, Nat.reduceMul, Nat.reduceLeDiff, Nat.reduceLT, Nat.reduceSub, Nat.reduceBEq, hs, pri20])
theorem s_imm34 : Spec Try.prog 20 R_imm34 := by
  refine spi20 env_imm34_ok ?_
  rintro ps rs ⟨l, i, j, rfl, ⟨hi, hj, hij, hlen, hk0, hk1, hn0, hn1⟩, rfl⟩
  refine ⟨by simp, ?_⟩
  have ei := evAt_some hi
  have ej := evAt_some hj
  have hi0 : (0 : Int) ≤ (i : Int) := by omega
  have hj0 : (0 : Int) ≤ (j : Int) := by omega
  have hs := imm_eq l i j
  unfold immB at hs
  generalize hea : evAt l i = a at *
  generalize heb : evAt l j = b at *
  have hw : IntKind.i64.wrap (a.k + a.n) = a.k + a.n := wr64 (by omega) (by omega)
  have hQ : ∀ st : St, st.res pri20 = some [pB (decide (Imm l i j))] → (fun e s' => (e = Exit.normal ∨ e = .ret) ∧ s'.res pri20 = some [pB (decide (Imm l i j))]) .ret st := fun st h => ⟨.inr rfl, h⟩
  unfold pci20
  refine pwp_start ?_
  simp only [↓evP, evB, stB, reduceIte, reduceCtorEq, Nat.reduceEqDiff, Nat.reduceAdd, Nat.reduceMul, Nat.reduceLeDiff, Nat.reduceLT, Nat.reduceSub, Nat.reduceBEq, evsPa, evsD, hi0, hj0, ei, ej, Ev.row]
  refine callOps_intro [pB (decide (Prog l i j))] ⟨l, i, j, rfl, ⟨hi, hj, hij, hlen⟩, rfl⟩ ?_
  by_cases hP : Prog l i j
  · rw [if_pos hP] at hs
    rw [decide_eq_true hP]
    simp only [↓evP, evB, stB, reduceIte, reduceCtorEq, Nat.reduceEqDiff, Nat.reduceAdd, Nat.reduceMul, Nat.reduceLeDiff, Nat.reduceLT, Nat.reduceSub, Nat.reduceBEq, hs, pri20]
  rw [if_neg hP] at hs
  rw [decide_eq_false hP]
  cases g14 : (a.kind == 14) with
  | false =>
    rw [if_neg (fun h => beq_eq_false_iff_ne.1 g14 h.1)] at hs
    simp only [↓evP, evB, stB, reduceIte, reduceCtorEq, Nat.reduceEqDiff, Nat.reduceAdd, Nat.reduceMul, Nat.reduceLeDiff, Nat.reduceLT, Nat.reduceSub, Nat.reduceBEq, g14]
    exact imm_sw hi hj hij hlen hw hs _ hQ _ (by simp only [stB, reduceIte, reduceCtorEq, Nat.reduceEqDiff, Nat.reduceAdd, Nat.reduceMul, Nat.reduceLeDiff, Nat.reduceLT, Nat.reduceSub, Nat.reduceBEq, evsD]) (by simp only [stB, reduceIte, reduceCtorEq, Nat.reduceEqDiff, Nat.reduceAdd, Nat.reduceMul, Nat.reduceLeDiff, Nat.reduceLT, Nat.reduceSub, Nat.reduceBEq]) (by simp only [stB, reduceIte, reduceCtorEq, Nat.reduceEqDiff, Nat.reduceAdd, Nat.reduceMul, Nat.reduceLeDiff, Nat.reduceLT, Nat.reduceSub, Nat.reduceBEq]) (by simp only [stB, reduceIte, reduceCtorEq, Nat.reduceEqDiff, Nat.reduceAdd, Nat.reduceMul, Nat.reduceLeDiff, Nat.reduceLT, Nat.reduceSub, Nat.reduceBEq]) (by simp only [stB, reduceIte, reduceCtorEq, Nat.reduceEqDiff, Nat.reduceAdd, Nat.reduceMul, Nat.reduceLeDiff, Nat.reduceLT, Nat.reduceSub, Nat.reduceBEq]) (by simp only [stB, reduceIte, reduceCtorEq, Nat.reduceEqDiff, Nat.reduceAdd, Nat.reduceMul, Nat.reduceLeDiff, Nat.reduceLT, Nat.reduceSub, Nat.reduceBEq]) (by simp only [stB, reduceIte, reduceCtorEq, Nat.reduceEqDiff, Nat.reduceAdd, Nat.reduceMul, Nat.reduceLeDiff, Nat.reduceLT, Nat.reduceSub, Nat.reduceBEq]) (by simp only [stB, reduceIte, reduceCtorEq, Nat.reduceEqDiff, Nat.reduceAdd, Nat.reduceMul, Nat.reduceLeDiff, Nat.reduceLT, Nat.reduceSub, Nat.reduceBEq]; rfl) (by simp only [stB, reduceIte, reduceCtorEq, Nat.reduceEqDiff, Nat.reduceAdd, Nat.reduceMul, Nat.reduceLeDiff, Nat.reduceLT, Nat.reduceSub, Nat.reduceBEq]; rfl)
  | true =>
  cases gk : (a.k == b.g) with
  | false =>
    rw [if_neg (fun h => beq_eq_false_iff_ne.1 gk h.2.1)] at hs
    simp only [↓evP, evB, stB, reduceIte, reduceCtorEq, Nat.reduceEqDiff, Nat.reduceAdd, Nat.reduceMul, Nat.reduceLeDiff, Nat.reduceLT, Nat.reduceSub, Nat.reduceBEq, g14, gk]
    exact imm_sw hi hj hij hlen hw hs _ hQ _ (by simp only [stB, reduceIte, reduceCtorEq, Nat.reduceEqDiff, Nat.reduceAdd, Nat.reduceMul, Nat.reduceLeDiff, Nat.reduceLT, Nat.reduceSub, Nat.reduceBEq, evsD]) (by simp only [stB, reduceIte, reduceCtorEq, Nat.reduceEqDiff, Nat.reduceAdd, Nat.reduceMul, Nat.reduceLeDiff, Nat.reduceLT, Nat.reduceSub, Nat.reduceBEq]) (by simp only [stB, reduceIte, reduceCtorEq, Nat.reduceEqDiff, Nat.reduceAdd, Nat.reduceMul, Nat.reduceLeDiff, Nat.reduceLT, Nat.reduceSub, Nat.reduceBEq]) (by simp only [stB, reduceIte, reduceCtorEq, Nat.reduceEqDiff, Nat.reduceAdd, Nat.reduceMul, Nat.reduceLeDiff, Nat.reduceLT, Nat.reduceSub, Nat.reduceBEq]) (by simp only [stB, reduceIte, reduceCtorEq, Nat.reduceEqDiff, Nat.reduceAdd, Nat.reduceMul, Nat.reduceLeDiff, Nat.reduceLT, Nat.reduceSub, Nat.reduceBEq]) (by simp only [stB, reduceIte, reduceCtorEq, Nat.reduceEqDiff, Nat.reduceAdd, Nat.reduceMul, Nat.reduceLeDiff, Nat.reduceLT, Nat.reduceSub, Nat.reduceBEq]) (by simp only [stB, reduceIte, reduceCtorEq, Nat.reduceEqDiff, Nat.reduceAdd, Nat.reduceMul, Nat.reduceLeDiff, Nat.reduceLT, Nat.reduceSub, Nat.reduceBEq]) (by simp only [stB, reduceIte, reduceCtorEq, Nat.reduceEqDiff, Nat.reduceAdd, Nat.reduceMul, Nat.reduceLeDiff, Nat.reduceLT, Nat.reduceSub, Nat.reduceBEq]; rfl) (by simp only [stB, reduceIte, reduceCtorEq, Nat.reduceEqDiff, Nat.reduceAdd, Nat.reduceMul, Nat.reduceLeDiff, Nat.reduceLT, Nat.reduceSub, Nat.reduceBEq]; rfl)
  | true =>
    simp only [↓evP, evB, stB, reduceIte, reduceCtorEq, Nat.reduceEqDiff, Nat.reduceAdd, Nat.reduceMul, Nat.reduceLeDiff, Nat.reduceLT, Nat.reduceSub, Nat.reduceBEq, g14, gk]
    refine callOps_intro [pB (decide (First l j))] ⟨l, j, rfl, ⟨hj, hlen⟩, rfl⟩ ?_
    by_cases hF : First l j
    · rw [if_pos ⟨beq_iff_eq.1 g14, beq_iff_eq.1 gk, hF⟩] at hs
      rw [decide_eq_true hF]
      simp only [↓evP, evB, stB, reduceIte, reduceCtorEq, Nat.reduceEqDiff, Nat.reduceAdd, Nat.reduceMul, Nat.reduceLeDiff, Nat.reduceLT, Nat.reduceSub, Nat.reduceBEq, hs, pri20]
    rw [if_neg (fun h => hF h.2.2)] at hs
    rw [decide_eq_false hF]
    simp only [↓evP, evB, stB, reduceIte, reduceCtorEq, Nat.reduceEqDiff, Nat.reduceAdd, Nat.reduceMul, Nat.reduceLeDiff, Nat.reduceLT, Nat.reduceSub, Nat.reduceBEq, g14, gk]
    exact imm_sw hi hj hij hlen hw hs _ hQ _ (by simp only [stB, reduceIte, reduceCtorEq, Nat.reduceEqDiff, Nat.reduceAdd, Nat.reduceMul, Nat.reduceLeDiff, Nat.reduceLT, Nat.reduceSub, Nat.reduceBEq, evsD]) (by simp only [stB, reduceIte, reduceCtorEq, Nat.reduceEqDiff, Nat.reduceAdd, Nat.reduceMul, Nat.reduceLeDiff, Nat.reduceLT, Nat.reduceSub, Nat.reduceBEq]) (by simp only [stB, reduceIte, reduceCtorEq, Nat.reduceEqDiff, Nat.reduceAdd, Nat.reduceMul, Nat.reduceLeDiff, Nat.reduceLT, Nat.reduceSub, Nat.reduceBEq]) (by simp only [stB, reduceIte, reduceCtorEq, Nat.reduceEqDiff, Nat.reduceAdd, Nat.reduceMul, Nat.reduceLeDiff, Nat.reduceLT, Nat.reduceSub, Nat.reduceBEq]) (by simp only [stB, reduceIte, reduceCtorEq, Nat.reduceEqDiff, Nat.reduceAdd, Nat.reduceMul, Nat.reduceLeDiff, Nat.reduceLT, Nat.reduceSub, Nat.reduceBEq]) (by simp only [stB, reduceIte, reduceCtorEq, Nat.reduceEqDiff, Nat.reduceAdd, Nat.reduceMul, Nat.reduceLeDiff, Nat.reduceLT, Nat.reduceSub, Nat.reduceBEq]) (by simp only [stB, reduceIte, reduceCtorEq, Nat.reduceEqDiff, Nat.reduceAdd, Nat.reduceMul, Nat.reduceLeDiff, Nat.reduceLT, Nat.reduceSub, Nat.reduceBEq]) (by simp only [stB, reduceIte, reduceCtorEq, Nat.reduceEqDiff, Nat.reduceAdd, Nat.reduceMul, Nat.reduceLeDiff, Nat.reduceLT, Nat.reduceSub, Nat.reduceBEq]; rfl) (by simp only [stB, reduceIte, reduceCtorEq, Nat.reduceEqDiff, Nat.reduceAdd, Nat.reduceMul, Nat.reduceLeDiff, Nat.reduceLT, Nat.reduceSub, Nat.reduceBEq]; rfl)
end Go.Proofs.Ytohliamalaifhaa
