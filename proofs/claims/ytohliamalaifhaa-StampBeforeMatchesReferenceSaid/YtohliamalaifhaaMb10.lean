/- The reference of chapter 30: other. -/
import Derived.Test.YtohliamalaifhaaMb9
set_option linter.unusedSimpArgs false
set_option linter.unusedVariables false
namespace Go.Proofs.Ytohliamalaifhaa
open Go Go.RowKit
set_option maxRecDepth 100000
set_option maxHeartbeats 4000000

theorem bne_of {a b : Int} (h : (a == b) = false) : ¬ a = b := beq_eq_false_iff_ne.1 h
theorem RSt.lock_bd {s : RSt} (h : s.ok) (obj off : Int) : 0 ≤ (s.lock obj off).readers ∧ (s.lock obj off).readers ≤ 1000000 := by
  unfold RSt.lock
  cases hf : s.locks.find? (fun c => c.obj == obj && c.off == off) with
  | none => simp
  | some c => exact h.lk.2 c (List.mem_of_find?_eq_some hf)
def R_other (ps rs : List Pa) : Prop := ∃ (s : RSt) (e : Ev), ps = [s.pa, e.pa] ∧ s.ok ∧ rs = [(s.otherR e).1.pa, pB (s.otherR e).2]
def env_other : Env := e1 43 R_lock (e1 44 R_setLock (e1 45 R_done e0))
theorem env_other_ok : EnvOK Try.prog env_other := EnvOK.e1 s_lock (EnvOK.e1 s_setLock (EnvOK.e1 s_done EnvOK.e0))
theorem s_other : Spec Try.prog 34 R_other := by
  refine sp34 env_other_ok ?_
  rintro ps rs ⟨s, e, rfl, hok, rfl⟩
  refine ⟨by simp, ?_⟩
  obtain ⟨c3, c4⟩ := RSt.lock_bd hok e.obj e.off
  unfold pc34
  refine pwp_start ?_
  simp only [↓evP, evB, stB, reduceIte, reduceCtorEq, Nat.reduceEqDiff, Nat.reduceAdd, Nat.reduceMul, Nat.reduceLeDiff, Nat.reduceLT, Nat.reduceSub, Nat.reduceBEq, RSt.pa, RSt.row, Ev.pa, Ev.row]
  refine callOps_intro [.agg (s.lock e.obj e.off).row] ⟨s, e.obj, e.off, rfl, by have := hok.lk.1; omega, rfl⟩ ?_
  cases k6 : (e.kind == 6) with
  | true =>
    have hg : s.otherR e = (s.setLock { s.lock e.obj e.off with locked := true }, !(s.lock e.obj e.off).locked && (s.lock e.obj e.off).readers == 0) := by unfold RSt.otherR; rw [if_pos (beq_iff_eq.1 k6)]
    rw [hg]
    simp only [↓evP, evB, stB, reduceIte, reduceCtorEq, Nat.reduceEqDiff, Nat.reduceAdd, Nat.reduceMul, Nat.reduceLeDiff, Nat.reduceLT, Nat.reduceSub, Nat.reduceBEq, RLk.row, pr34, k6]
    refine callD_intro [(s.setLock { s.lock e.obj e.off with locked := true }).pa] ⟨s, { s.lock e.obj e.off with locked := true }, rfl, hok.lk.1, rfl⟩ ?_
    cases b1 : (s.lock e.obj e.off).locked with
    | true => 
      simp only [↓evP, evB, stB, reduceIte, reduceCtorEq, Nat.reduceEqDiff, Nat.reduceAdd, Nat.reduceMul, Nat.reduceLeDiff, Nat.reduceLT, Nat.reduceSub, Nat.reduceBEq, RLk.row, pr34, k6, RSt.pa, RSt.row, b1]
      (unfold Drw; kernel_rfl)
    | false => 
      simp only [↓evP, evB, stB, reduceIte, reduceCtorEq, Nat.reduceEqDiff, Nat.reduceAdd, Nat.reduceMul, Nat.reduceLeDiff, Nat.reduceLT, Nat.reduceSub, Nat.reduceBEq, RLk.row, pr34, k6, RSt.pa, RSt.row, b1]
      (unfold Drw; kernel_rfl)
  | false =>
  cases k7 : (e.kind == 7) with
  | true =>
    have hg : s.otherR e = (s.setLock { s.lock e.obj e.off with locked := false }, (s.lock e.obj e.off).locked) := by unfold RSt.otherR; rw [if_neg (bne_of k6), if_pos (beq_iff_eq.1 k7)]
    rw [hg]
    simp only [↓evP, evB, stB, reduceIte, reduceCtorEq, Nat.reduceEqDiff, Nat.reduceAdd, Nat.reduceMul, Nat.reduceLeDiff, Nat.reduceLT, Nat.reduceSub, Nat.reduceBEq, RLk.row, pr34, k6, k7]
    refine callOps_intro [(s.setLock { s.lock e.obj e.off with locked := false }).pa] ⟨s, { s.lock e.obj e.off with locked := false }, rfl, hok.lk.1, rfl⟩ ?_
    simp only [↓evP, evB, stB, reduceIte, reduceCtorEq, Nat.reduceEqDiff, Nat.reduceAdd, Nat.reduceMul, Nat.reduceLeDiff, Nat.reduceLT, Nat.reduceSub, Nat.reduceBEq, RLk.row, pr34, k6, k7, RSt.pa, RSt.row, Bool.not_not]
  | false =>
  cases k8 : (e.kind == 8) with
  | true =>
    have hg : s.otherR e = (s.setLock { s.lock e.obj e.off with readers := (s.lock e.obj e.off).readers + 1 }, !(s.lock e.obj e.off).locked) := by unfold RSt.otherR; rw [if_neg (bne_of k6), if_neg (bne_of k7), if_pos (beq_iff_eq.1 k8)]
    rw [hg]
    simp only [↓evP, evB, stB, reduceIte, reduceCtorEq, Nat.reduceEqDiff, Nat.reduceAdd, Nat.reduceMul, Nat.reduceLeDiff, Nat.reduceLT, Nat.reduceSub, Nat.reduceBEq, RLk.row, pr34, k6, k7, k8]
    rw [wr64 (by omega) (by omega)]
    refine callOps_intro [(s.setLock { s.lock e.obj e.off with readers := (s.lock e.obj e.off).readers + 1 }).pa] ⟨s, { s.lock e.obj e.off with readers := (s.lock e.obj e.off).readers + 1 }, rfl, hok.lk.1, rfl⟩ ?_
    simp only [↓evP, evB, stB, reduceIte, reduceCtorEq, Nat.reduceEqDiff, Nat.reduceAdd, Nat.reduceMul, Nat.reduceLeDiff, Nat.reduceLT, Nat.reduceSub, Nat.reduceBEq, RLk.row, pr34, k6, k7, k8, RSt.pa, RSt.row]
  | false =>
  cases k9 : (e.kind == 9) with
  | true =>
    have hg : s.otherR e = (s.setLock { s.lock e.obj e.off with readers := (s.lock e.obj e.off).readers - 1 }, decide (0 ≤ (s.lock e.obj e.off).readers - 1)) := by unfold RSt.otherR; rw [if_neg (bne_of k6), if_neg (bne_of k7), if_neg (bne_of k8), if_pos (beq_iff_eq.1 k9)]
    rw [hg]
    simp only [↓evP, evB, stB, reduceIte, reduceCtorEq, Nat.reduceEqDiff, Nat.reduceAdd, Nat.reduceMul, Nat.reduceLeDiff, Nat.reduceLT, Nat.reduceSub, Nat.reduceBEq, RLk.row, pr34, k6, k7, k8, k9]
    rw [wr64 (by omega) (by omega)]
    refine callD_intro [(s.setLock { s.lock e.obj e.off with readers := (s.lock e.obj e.off).readers - 1 }).pa] ⟨s, { s.lock e.obj e.off with readers := (s.lock e.obj e.off).readers - 1 }, rfl, hok.lk.1, rfl⟩ ?_
    simp only [↓evP, evB, stB, reduceIte, reduceCtorEq, Nat.reduceEqDiff, Nat.reduceAdd, Nat.reduceMul, Nat.reduceLeDiff, Nat.reduceLT, Nat.reduceSub, Nat.reduceBEq, RLk.row, pr34, k6, k7, k8, k9, RSt.pa, RSt.row]
    (unfold Drw; kernel_rfl)
  | false =>
  cases k12 : (e.kind == 12) with
  | true =>
    have hg : s.otherR e = ({ s with done := s.done ++ [(e.obj, e.off)] }, !s.isDone e.obj e.off) := by unfold RSt.otherR; rw [if_neg (bne_of k6), if_neg (bne_of k7), if_neg (bne_of k8), if_neg (bne_of k9), if_pos (beq_iff_eq.1 k12)]
    rw [hg]
    simp only [↓evP, evB, stB, reduceIte, reduceCtorEq, Nat.reduceEqDiff, Nat.reduceAdd, Nat.reduceMul, Nat.reduceLeDiff, Nat.reduceLT, Nat.reduceSub, Nat.reduceBEq, RLk.row, pr34, k6, k7, k8, k9, k12]
    refine callOps_intro [pB (s.isDone e.obj e.off)] ⟨s, e.obj, e.off, rfl, by have := hok.dn; omega, rfl⟩ ?_
    have hd1 : s.done.length ≤ 1000000 := by have := hok.dn; omega
    have hd2 : s.done.length + 1 ≤ 1000000 := by have := hok.dn; omega
    simp only [↓evP, evB, stB, reduceIte, reduceCtorEq, Nat.reduceEqDiff, Nat.reduceAdd, Nat.reduceMul, Nat.reduceLeDiff, Nat.reduceLT, Nat.reduceSub, Nat.reduceBEq, RLk.row, pr34, k6, k7, k8, k9, k12, RSt.pa, RSt.row, rows_len (f := locRow) (n := 2) (fun _ => rfl) s.done, hd1, hd2]
    refine ⟨(by unfold Drw; kernel_rfl), ?_⟩
    simp only [↓evP, evB, stB, reduceIte, reduceCtorEq, Nat.reduceEqDiff, Nat.reduceAdd, Nat.reduceMul, Nat.reduceLeDiff, Nat.reduceLT, Nat.reduceSub, Nat.reduceBEq, List.map_append, locRow, pr34]
  | false =>
  cases k13 : (e.kind == 13) with
  | true =>
    have hg : s.otherR e = (s, s.isDone e.obj e.off) := by unfold RSt.otherR; rw [if_neg (bne_of k6), if_neg (bne_of k7), if_neg (bne_of k8), if_neg (bne_of k9), if_neg (bne_of k12), if_pos (beq_iff_eq.1 k13)]
    rw [hg]
    simp only [↓evP, evB, stB, reduceIte, reduceCtorEq, Nat.reduceEqDiff, Nat.reduceAdd, Nat.reduceMul, Nat.reduceLeDiff, Nat.reduceLT, Nat.reduceSub, Nat.reduceBEq, RLk.row, pr34, k6, k7, k8, k9, k12, k13]
    refine callD_intro [pB (s.isDone e.obj e.off)] ⟨s, e.obj, e.off, rfl, by have := hok.dn; omega, rfl⟩ ?_
    simp only [↓evP, evB, stB, reduceIte, reduceCtorEq, Nat.reduceEqDiff, Nat.reduceAdd, Nat.reduceMul, Nat.reduceLeDiff, Nat.reduceLT, Nat.reduceSub, Nat.reduceBEq, RLk.row, pr34, k6, k7, k8, k9, k12, k13, RSt.pa, RSt.row]
    (unfold Drw; kernel_rfl)
  | false =>
  cases k14 : (e.kind == 14) with
  | true =>
    have hg : s.otherR e = ({ s with gor := s.gor + 1 }, e.k == s.gor) := by unfold RSt.otherR; rw [if_neg (bne_of k6), if_neg (bne_of k7), if_neg (bne_of k8), if_neg (bne_of k9), if_neg (bne_of k12), if_neg (bne_of k13), if_pos (beq_iff_eq.1 k14)]
    rw [hg]
    simp only [↓evP, evB, stB, reduceIte, reduceCtorEq, Nat.reduceEqDiff, Nat.reduceAdd, Nat.reduceMul, Nat.reduceLeDiff, Nat.reduceLT, Nat.reduceSub, Nat.reduceBEq, RLk.row, pr34, k6, k7, k8, k9, k12, k13, k14]
    rw [wr64 (by have := hok.gr; omega) (by have := hok.gr; omega)]
    simp only [RSt.pa, RSt.row]
    exact ⟨(by unfold Drw; kernel_rfl), trivial⟩
  | false =>
    have hg : s.otherR e = (s, true) := by unfold RSt.otherR; rw [if_neg (bne_of k6), if_neg (bne_of k7), if_neg (bne_of k8), if_neg (bne_of k9), if_neg (bne_of k12), if_neg (bne_of k13), if_neg (bne_of k14)]
    rw [hg]
    simp only [↓evP, evB, stB, reduceIte, reduceCtorEq, Nat.reduceEqDiff, Nat.reduceAdd, Nat.reduceMul, Nat.reduceLeDiff, Nat.reduceLT, Nat.reduceSub, Nat.reduceBEq, RLk.row, pr34, k6, k7, k8, k9, k12, k13, k14, RSt.pa, RSt.row]
end Go.Proofs.Ytohliamalaifhaa
