/- The law of events that acquire. -/
import Derived.Test.YtohliamalaifhaaMa9
import Derived.OpenShut
section
set_option linter.unusedSimpArgs false
set_option linter.unusedVariables false
namespace Go.Proofs.Ytohliamalaifhaa
open Go Go.RowKit
set_option maxRecDepth 100000
set_option maxHeartbeats 4000000

theorem acq_cases {k : Int} (h : acqB k = true) : k = 3 ∨ k = 5 ∨ k = 6 ∨ k = 8 ∨ k = 11 ∨ k = 13 ∨ k = 16 ∨ k = 18 ∨ k = 20 := by
  unfold acqB at h
  simp only [Bool.or_eq_true, beq_iff_eq] at h
  omega
theorem s_acquires : Spec Try.prog 7 R_law35 := by
  refine sp7 env_law35_ok ?_
  rintro ps rs ⟨l, rfl, rfl⟩
  refine ⟨by simp, ?_⟩
  unfold pc7
  refine pwp_start ?_
  simp only [↓evP, evB, stB, reduceIte, reduceCtorEq, Nat.reduceEqDiff, Nat.reduceAdd, Nat.reduceMul, Nat.reduceLeDiff, Nat.reduceLT, Nat.reduceSub, Nat.reduceBEq, evsPa, evsD]
  refine callOps_intro [pB true] ⟨rfl, rfl⟩ ?_
  by_cases q1 : (l.length : Int) > 60
  · simp only [↓evP, evB, stB, reduceIte, reduceCtorEq, Nat.reduceEqDiff, Nat.reduceAdd, Nat.reduceMul, Nat.reduceLeDiff, Nat.reduceLT, Nat.reduceSub, Nat.reduceBEq, q1, decide_true, decide_false, pr7]
  have hlen : l.length ≤ 1000000 := by omega
  simp only [↓evP, evB, stB, reduceIte, reduceCtorEq, Nat.reduceEqDiff, Nat.reduceAdd, Nat.reduceMul, Nat.reduceLeDiff, Nat.reduceLT, Nat.reduceSub, Nat.reduceBEq, q1, decide_true, decide_false]
  refine callOps_intro [pB (decide (chk l = l.length))] ⟨l, rfl, hlen, rfl⟩ ?_
  by_cases hc : chk l = l.length
  · simp only [↓evP, evB, stB, reduceIte, reduceCtorEq, Nat.reduceEqDiff, Nat.reduceAdd, Nat.reduceMul, Nat.reduceLeDiff, Nat.reduceLT, Nat.reduceSub, Nat.reduceBEq, q1, hc, decide_true, decide_false]
    refine callOps_intro [cksPa (stOf l), pI (errOf l)] ⟨l, rfl, hlen, rfl⟩ ?_
    have hs : stOf l = stampsL l := by unfold stOf; rw [if_pos hc]
    have he1 : errOf l = 0 := by unfold errOf; rw [if_pos hc]
    have hsl := stampsL_length l
    have hv := chk_valid hc
    rw [hs, he1]
    simp only [↓evP, evB, stB, reduceIte, reduceCtorEq, Nat.reduceEqDiff, Nat.reduceAdd, Nat.reduceMul, Nat.reduceLeDiff, Nat.reduceLT, Nat.reduceSub, Nat.reduceBEq, cksPa, hsl, bne_self_eq_false]
    refine pwp_fresh [0, 2, 3, 5, 6] [5] (fun S hs ho => ?_)
    simp only [stB, reduceIte, reduceCtorEq, Nat.reduceEqDiff, Nat.reduceAdd, Nat.reduceMul, Nat.reduceLeDiff, Nat.reduceLT, Nat.reduceSub, Nat.reduceBEq] at hs ho
    obtain ⟨q0, q2, q3, q5, q6⟩ := hs
    obtain ⟨r5, t5⟩ := ho
    refine pwp_loopW ms7_0 os7_0 (fun m st => ∃ i : Nat, m = l.length - i ∧ i ≤ l.length ∧ st.sl 6 = aI i ∧ st.gen 5 = 1 ∧ st.ob 5 = .cells (flatC (runTo l i).cur)) l.length ?_ ?_
    · exact ⟨0, rfl, Nat.zero_le _, q6, r5, t5⟩
    · rintro m z ⟨i, rfl, hi, h6, g5, o5⟩
      simp only [stB, reduceIte, reduceCtorEq, Nat.reduceEqDiff, Nat.reduceAdd, Nat.reduceMul, Nat.reduceLeDiff, Nat.reduceLT, Nat.reduceSub, Nat.reduceBEq] at h6 g5 o5
      rcases Nat.lt_or_ge i l.length with hlt | hge
      · obtain ⟨e, s, c, A⟩ := at35 hv hlt
        rw [A.hs] at o5
        have hlt' : (i : Int) < (l.length : Int) := by omega
        have hi0 : (0 : Int) ≤ (i : Int) := by omega
        have hg0 := A.g0
        have hg8 := A.g8
        have hg8' : e.g < ((8 : Nat) : Int) := hg8
        have a3 := A.ok.a8.1
        have hcur := getC_some (l := s.cur) (k := e.g.toNat) (by rw [A.ok.cl]; omega)
        have hcg := a3 _ (List.mem_of_getElem? hcur)
        obtain ⟨k1, k2⟩ := A.cn.clock (l := l) (e := e) A.ok (by omega)
        rw [← A.ck] at k1 k2
        have e1 : (ckRow c).length = 8 := by unfold ckRow; rw [List.length_map, A.c8]
        have e2 := ckCells_get _ _ _ (get_some A.c8 (k := e.g.toNat) (by omega))
        have e3 := flatC_get1 a3 hcur (k := e.g.toNat) (by omega)
        have hdg : (s.cur.getD e.g.toNat ckZ).getD e.g.toNat 0 = s.dg e.g.toNat := rfl
        rw [hdg] at e3
        have hb0 := (A.b).get e.g.toNat
        have hb1 : c.getD e.g.toNat 0 ≤ ((i + 1 : Nat) : Int) := (A.b.2 _ (List.mem_of_getElem? (get_some A.c8 (k := e.g.toNat) (by omega)))).2
        have hd0 := dg_nonneg A.ok e.g.toNat
        have hw : IntKind.i64.wrap (s.dg e.g.toNat + 1) = c.getD e.g.toNat 0 := by rw [wr64 (by omega) (by omega), k1]
        have e4 : (ckCells c).length = 8 := by rw [ckCells_length, A.c8]
        have e5 : 8 ≤ (ckCells c).length := by omega
        have e6 : (ckCells c).take 8 = ckCells c := List.take_of_length_le (by omega)
        have f3 : e.g.toNat * 8 + 8 ≤ (flatC s.cur).length := by rw [flatC_len a3, A.ok.cl]; omega
        have f4 := (flatC_set a3 (i := e.g.toNat) (by rw [A.ok.cl]; omega) A.c8).trans (congrArg flatC A.nx.symm)
        have he := A.he
        have hci := A.hc
        simp only [↓evP, evB, stB, reduceIte, reduceCtorEq, Nat.reduceEqDiff, Nat.reduceAdd, Nat.reduceMul, Nat.reduceLeDiff, Nat.reduceLT, Nat.reduceSub, Nat.reduceBEq, q0, q2, q3, q5, h6, g5, o5, hlt', hi0, he, hci, Ev.row, hg0, hg8', e1, e2, e3, e4, e5, e6, f3, f4, ckRow_cells, hw, bne_self_eq_false, Nat.mul_one]
        refine pwp_freshP (fun st => Within ms7_0 os7_0 S st) (by repeat' (first | assumption | exact within_over.mpr trivial | exact Within.refl _ _ _ | (refine within_ap ?_ rfl rfl) | (refine within_ap0 ?_ rfl))) [0, 2, 3, 5, 6, 7, 8] [5] (fun T hwT hs2 ho2 => ?_)
        simp only [stB, reduceIte, reduceCtorEq, Nat.reduceEqDiff, Nat.reduceAdd, Nat.reduceMul, Nat.reduceLeDiff, Nat.reduceLT, Nat.reduceSub, Nat.reduceBEq, q0, q2, q3, q5, h6, g5, o5, bne_self_eq_false] at hs2 ho2
        obtain ⟨p0, p2, p3, p5, p6, p7, p8⟩ := hs2
        obtain ⟨r5', t5'⟩ := ho2
        refine pwp_loopW ms7_1 os7_1 (fun m st => ∃ k : Nat, m = 8 - k ∧ k ≤ 8 ∧ st.sl 8 = aI k) 8 ?_ ?_
        · exact ⟨0, rfl, Nat.zero_le _, p8⟩
        · rintro m2 z2 ⟨k, rfl, hk, h8⟩
          simp only [stB, reduceIte, reduceCtorEq, Nat.reduceEqDiff, Nat.reduceAdd, Nat.reduceMul, Nat.reduceLeDiff, Nat.reduceLT, Nat.reduceSub, Nat.reduceBEq] at h8
          rcases Nat.lt_or_ge k 8 with hk8 | hk8
          · have d1 := ckCells_get _ _ _ (get_some A.c8 hk8)
            have d2 := flatC_get1 a3 hcur hk8
            have dgg := e3
            have hk0 : (0 : Int) ≤ (k : Int) := by omega
            have hkl : (k : Int) < 8 := by omega
            have hkl8 : (k : Int) < ((8 : Nat) : Int) := by omega
            cases b0 : ((k : Int) == e.g) with
            | true =>
              simp only [↓evP, evB, stB, reduceIte, reduceCtorEq, Nat.reduceEqDiff, Nat.reduceAdd, Nat.reduceMul, Nat.reduceLeDiff, Nat.reduceLT, Nat.reduceSub, Nat.reduceBEq, p0, p2, p3, p5, p6, p7, h8, r5', t5', hi0, hci, he, Ev.row, hg0, hg8', e1, d1, d2, dgg, hk0, hkl, hkl8, decide_true, decide_false, ckRow_cells, Nat.mul_one, b0]
              refine ⟨(by unfold Drw; kernel_rfl), ?_⟩
              exact ⟨_, by omega, (by repeat' (first | assumption | exact within_over.mpr trivial | exact Within.refl _ _ _ | (refine within_ap ?_ rfl rfl) | (refine within_ap0 ?_ rfl))), k + 1, rfl, by omega, by simp only [stB, reduceIte, reduceCtorEq, Nat.reduceEqDiff, Nat.reduceAdd, Nat.reduceMul, Nat.reduceLeDiff, Nat.reduceLT, Nat.reduceSub, Nat.reduceBEq, h8]; rw [wrN (by omega)]⟩
            | false =>
            cases b1 : (s.dg e.g.toNat == 0) with
            | true =>
              simp only [↓evP, evB, stB, reduceIte, reduceCtorEq, Nat.reduceEqDiff, Nat.reduceAdd, Nat.reduceMul, Nat.reduceLeDiff, Nat.reduceLT, Nat.reduceSub, Nat.reduceBEq, p0, p2, p3, p5, p6, p7, h8, r5', t5', hi0, hci, he, Ev.row, hg0, hg8', e1, d1, d2, dgg, hk0, hkl, hkl8, decide_true, decide_false, ckRow_cells, Nat.mul_one, b0, b1]
              refine ⟨(by unfold Drw; kernel_rfl), ?_⟩
              exact ⟨_, by omega, (by repeat' (first | assumption | exact within_over.mpr trivial | exact Within.refl _ _ _ | (refine within_ap ?_ rfl rfl) | (refine within_ap0 ?_ rfl))), k + 1, rfl, by omega, by simp only [stB, reduceIte, reduceCtorEq, Nat.reduceEqDiff, Nat.reduceAdd, Nat.reduceMul, Nat.reduceLeDiff, Nat.reduceLT, Nat.reduceSub, Nat.reduceBEq, h8]; rw [wrN (by omega)]⟩
            | false =>
            cases b2 : (c.getD k 0 == (s.cur.getD e.g.toNat ckZ).getD k 0) with
            | true =>
              simp only [↓evP, evB, stB, reduceIte, reduceCtorEq, Nat.reduceEqDiff, Nat.reduceAdd, Nat.reduceMul, Nat.reduceLeDiff, Nat.reduceLT, Nat.reduceSub, Nat.reduceBEq, p0, p2, p3, p5, p6, p7, h8, r5', t5', hi0, hci, he, Ev.row, hg0, hg8', e1, d1, d2, dgg, hk0, hkl, hkl8, decide_true, decide_false, ckRow_cells, Nat.mul_one, b0, b1, b2]
              refine ⟨(by unfold Drw; kernel_rfl), ?_⟩
              exact ⟨_, by omega, (by repeat' (first | assumption | exact within_over.mpr trivial | exact Within.refl _ _ _ | (refine within_ap ?_ rfl rfl) | (refine within_ap0 ?_ rfl))), k + 1, rfl, by omega, by simp only [stB, reduceIte, reduceCtorEq, Nat.reduceEqDiff, Nat.reduceAdd, Nat.reduceMul, Nat.reduceLeDiff, Nat.reduceLT, Nat.reduceSub, Nat.reduceBEq, h8]; rw [wrN (by omega)]⟩
            | false =>
            cases hac : acqB e.kind with
            | false =>
              exfalso
              have hne : k ≠ e.g.toNat := fun h => by
                have : (k : Int) = e.g := by omega
                rw [beq_iff_eq.2 this] at b0; cases b0
              have := clock_acq (l := l) hac A.ok (by omega) (beq_eq_false_iff_ne.1 b1) hne
              rw [← A.ck] at this
              rw [this, beq_self_eq_true] at b2
              cases b2
            | true =>
            rcases acq_cases hac with kd | kd | kd | kd | kd | kd | kd | kd | kd
            · simp only [↓evP, evB, stB, reduceIte, reduceCtorEq, Nat.reduceEqDiff, Nat.reduceAdd, Nat.reduceMul, Nat.reduceLeDiff, Nat.reduceLT, Nat.reduceSub, Nat.reduceBEq, p0, p2, p3, p5, p6, p7, h8, r5', t5', hi0, hci, he, Ev.row, hg0, hg8', e1, d1, d2, dgg, hk0, hkl, hkl8, decide_true, decide_false, ckRow_cells, Nat.mul_one, b0, b1, b2, kd, Int.reduceBEq]
              refine ⟨(by unfold Drw; kernel_rfl), ?_⟩
              exact ⟨_, by omega, (by repeat' (first | assumption | exact within_over.mpr trivial | exact Within.refl _ _ _ | (refine within_ap ?_ rfl rfl) | (refine within_ap0 ?_ rfl))), k + 1, rfl, by omega, by simp only [stB, reduceIte, reduceCtorEq, Nat.reduceEqDiff, Nat.reduceAdd, Nat.reduceMul, Nat.reduceLeDiff, Nat.reduceLT, Nat.reduceSub, Nat.reduceBEq, h8]; rw [wrN (by omega)]⟩
            · simp only [↓evP, evB, stB, reduceIte, reduceCtorEq, Nat.reduceEqDiff, Nat.reduceAdd, Nat.reduceMul, Nat.reduceLeDiff, Nat.reduceLT, Nat.reduceSub, Nat.reduceBEq, p0, p2, p3, p5, p6, p7, h8, r5', t5', hi0, hci, he, Ev.row, hg0, hg8', e1, d1, d2, dgg, hk0, hkl, hkl8, decide_true, decide_false, ckRow_cells, Nat.mul_one, b0, b1, b2, kd, Int.reduceBEq]
              refine ⟨(by unfold Drw; kernel_rfl), ?_⟩
              exact ⟨_, by omega, (by repeat' (first | assumption | exact within_over.mpr trivial | exact Within.refl _ _ _ | (refine within_ap ?_ rfl rfl) | (refine within_ap0 ?_ rfl))), k + 1, rfl, by omega, by simp only [stB, reduceIte, reduceCtorEq, Nat.reduceEqDiff, Nat.reduceAdd, Nat.reduceMul, Nat.reduceLeDiff, Nat.reduceLT, Nat.reduceSub, Nat.reduceBEq, h8]; rw [wrN (by omega)]⟩
            · simp only [↓evP, evB, stB, reduceIte, reduceCtorEq, Nat.reduceEqDiff, Nat.reduceAdd, Nat.reduceMul, Nat.reduceLeDiff, Nat.reduceLT, Nat.reduceSub, Nat.reduceBEq, p0, p2, p3, p5, p6, p7, h8, r5', t5', hi0, hci, he, Ev.row, hg0, hg8', e1, d1, d2, dgg, hk0, hkl, hkl8, decide_true, decide_false, ckRow_cells, Nat.mul_one, b0, b1, b2, kd, Int.reduceBEq]
              refine ⟨(by unfold Drw; kernel_rfl), ?_⟩
              exact ⟨_, by omega, (by repeat' (first | assumption | exact within_over.mpr trivial | exact Within.refl _ _ _ | (refine within_ap ?_ rfl rfl) | (refine within_ap0 ?_ rfl))), k + 1, rfl, by omega, by simp only [stB, reduceIte, reduceCtorEq, Nat.reduceEqDiff, Nat.reduceAdd, Nat.reduceMul, Nat.reduceLeDiff, Nat.reduceLT, Nat.reduceSub, Nat.reduceBEq, h8]; rw [wrN (by omega)]⟩
            · simp only [↓evP, evB, stB, reduceIte, reduceCtorEq, Nat.reduceEqDiff, Nat.reduceAdd, Nat.reduceMul, Nat.reduceLeDiff, Nat.reduceLT, Nat.reduceSub, Nat.reduceBEq, p0, p2, p3, p5, p6, p7, h8, r5', t5', hi0, hci, he, Ev.row, hg0, hg8', e1, d1, d2, dgg, hk0, hkl, hkl8, decide_true, decide_false, ckRow_cells, Nat.mul_one, b0, b1, b2, kd, Int.reduceBEq]
              refine ⟨(by unfold Drw; kernel_rfl), ?_⟩
              exact ⟨_, by omega, (by repeat' (first | assumption | exact within_over.mpr trivial | exact Within.refl _ _ _ | (refine within_ap ?_ rfl rfl) | (refine within_ap0 ?_ rfl))), k + 1, rfl, by omega, by simp only [stB, reduceIte, reduceCtorEq, Nat.reduceEqDiff, Nat.reduceAdd, Nat.reduceMul, Nat.reduceLeDiff, Nat.reduceLT, Nat.reduceSub, Nat.reduceBEq, h8]; rw [wrN (by omega)]⟩
            · simp only [↓evP, evB, stB, reduceIte, reduceCtorEq, Nat.reduceEqDiff, Nat.reduceAdd, Nat.reduceMul, Nat.reduceLeDiff, Nat.reduceLT, Nat.reduceSub, Nat.reduceBEq, p0, p2, p3, p5, p6, p7, h8, r5', t5', hi0, hci, he, Ev.row, hg0, hg8', e1, d1, d2, dgg, hk0, hkl, hkl8, decide_true, decide_false, ckRow_cells, Nat.mul_one, b0, b1, b2, kd, Int.reduceBEq]
              refine ⟨(by unfold Drw; kernel_rfl), ?_⟩
              exact ⟨_, by omega, (by repeat' (first | assumption | exact within_over.mpr trivial | exact Within.refl _ _ _ | (refine within_ap ?_ rfl rfl) | (refine within_ap0 ?_ rfl))), k + 1, rfl, by omega, by simp only [stB, reduceIte, reduceCtorEq, Nat.reduceEqDiff, Nat.reduceAdd, Nat.reduceMul, Nat.reduceLeDiff, Nat.reduceLT, Nat.reduceSub, Nat.reduceBEq, h8]; rw [wrN (by omega)]⟩
            · simp only [↓evP, evB, stB, reduceIte, reduceCtorEq, Nat.reduceEqDiff, Nat.reduceAdd, Nat.reduceMul, Nat.reduceLeDiff, Nat.reduceLT, Nat.reduceSub, Nat.reduceBEq, p0, p2, p3, p5, p6, p7, h8, r5', t5', hi0, hci, he, Ev.row, hg0, hg8', e1, d1, d2, dgg, hk0, hkl, hkl8, decide_true, decide_false, ckRow_cells, Nat.mul_one, b0, b1, b2, kd, Int.reduceBEq]
              refine ⟨(by unfold Drw; kernel_rfl), ?_⟩
              exact ⟨_, by omega, (by repeat' (first | assumption | exact within_over.mpr trivial | exact Within.refl _ _ _ | (refine within_ap ?_ rfl rfl) | (refine within_ap0 ?_ rfl))), k + 1, rfl, by omega, by simp only [stB, reduceIte, reduceCtorEq, Nat.reduceEqDiff, Nat.reduceAdd, Nat.reduceMul, Nat.reduceLeDiff, Nat.reduceLT, Nat.reduceSub, Nat.reduceBEq, h8]; rw [wrN (by omega)]⟩
            · simp only [↓evP, evB, stB, reduceIte, reduceCtorEq, Nat.reduceEqDiff, Nat.reduceAdd, Nat.reduceMul, Nat.reduceLeDiff, Nat.reduceLT, Nat.reduceSub, Nat.reduceBEq, p0, p2, p3, p5, p6, p7, h8, r5', t5', hi0, hci, he, Ev.row, hg0, hg8', e1, d1, d2, dgg, hk0, hkl, hkl8, decide_true, decide_false, ckRow_cells, Nat.mul_one, b0, b1, b2, kd, Int.reduceBEq]
              refine ⟨(by unfold Drw; kernel_rfl), ?_⟩
              exact ⟨_, by omega, (by repeat' (first | assumption | exact within_over.mpr trivial | exact Within.refl _ _ _ | (refine within_ap ?_ rfl rfl) | (refine within_ap0 ?_ rfl))), k + 1, rfl, by omega, by simp only [stB, reduceIte, reduceCtorEq, Nat.reduceEqDiff, Nat.reduceAdd, Nat.reduceMul, Nat.reduceLeDiff, Nat.reduceLT, Nat.reduceSub, Nat.reduceBEq, h8]; rw [wrN (by omega)]⟩
            · simp only [↓evP, evB, stB, reduceIte, reduceCtorEq, Nat.reduceEqDiff, Nat.reduceAdd, Nat.reduceMul, Nat.reduceLeDiff, Nat.reduceLT, Nat.reduceSub, Nat.reduceBEq, p0, p2, p3, p5, p6, p7, h8, r5', t5', hi0, hci, he, Ev.row, hg0, hg8', e1, d1, d2, dgg, hk0, hkl, hkl8, decide_true, decide_false, ckRow_cells, Nat.mul_one, b0, b1, b2, kd, Int.reduceBEq]
              refine ⟨(by unfold Drw; kernel_rfl), ?_⟩
              exact ⟨_, by omega, (by repeat' (first | assumption | exact within_over.mpr trivial | exact Within.refl _ _ _ | (refine within_ap ?_ rfl rfl) | (refine within_ap0 ?_ rfl))), k + 1, rfl, by omega, by simp only [stB, reduceIte, reduceCtorEq, Nat.reduceEqDiff, Nat.reduceAdd, Nat.reduceMul, Nat.reduceLeDiff, Nat.reduceLT, Nat.reduceSub, Nat.reduceBEq, h8]; rw [wrN (by omega)]⟩
            · simp only [↓evP, evB, stB, reduceIte, reduceCtorEq, Nat.reduceEqDiff, Nat.reduceAdd, Nat.reduceMul, Nat.reduceLeDiff, Nat.reduceLT, Nat.reduceSub, Nat.reduceBEq, p0, p2, p3, p5, p6, p7, h8, r5', t5', hi0, hci, he, Ev.row, hg0, hg8', e1, d1, d2, dgg, hk0, hkl, hkl8, decide_true, decide_false, ckRow_cells, Nat.mul_one, b0, b1, b2, kd, Int.reduceBEq]
              refine ⟨(by unfold Drw; kernel_rfl), ?_⟩
              exact ⟨_, by omega, (by repeat' (first | assumption | exact within_over.mpr trivial | exact Within.refl _ _ _ | (refine within_ap ?_ rfl rfl) | (refine within_ap0 ?_ rfl))), k + 1, rfl, by omega, by simp only [stB, reduceIte, reduceCtorEq, Nat.reduceEqDiff, Nat.reduceAdd, Nat.reduceMul, Nat.reduceLeDiff, Nat.reduceLT, Nat.reduceSub, Nat.reduceBEq, h8]; rw [wrN (by omega)]⟩
          · have hk88 : k = 8 := by omega
            subst hk88
            have hkl : ¬ ((8 : Nat) : Int) < 8 := by omega
            simp only [↓evP, evB, stB, reduceIte, reduceCtorEq, Nat.reduceEqDiff, Nat.reduceAdd, Nat.reduceMul, Nat.reduceLeDiff, Nat.reduceLT, Nat.reduceSub, Nat.reduceBEq, p0, p2, p3, p5, p6, p7, h8, r5', t5', hi0, hci, hg0, hg8', hkl, e1, e4, e5, e6, f3, f4, ckRow_cells]
            exact ⟨_, by omega, (by repeat' (first | assumption | exact within_over.mpr trivial | (refine within_ap ?_ rfl rfl) | (refine within_ap0 ?_ rfl) | refine within_in ?_ (by decide) (by decide))), i + 1, rfl, hlt, by simp only [stB, reduceIte, reduceCtorEq, Nat.reduceEqDiff, Nat.reduceAdd, Nat.reduceMul, Nat.reduceLeDiff, Nat.reduceLT, Nat.reduceSub, Nat.reduceBEq, p6]; rw [wrN (by omega)], by simp only [stB, reduceIte, reduceCtorEq, Nat.reduceEqDiff, Nat.reduceAdd, Nat.reduceMul, Nat.reduceLeDiff, Nat.reduceLT, Nat.reduceSub, Nat.reduceBEq, r5'], by simp only [stB, reduceIte, reduceCtorEq, Nat.reduceEqDiff, Nat.reduceAdd, Nat.reduceMul, Nat.reduceLeDiff, Nat.reduceLT, Nat.reduceSub, Nat.reduceBEq, t5', f4]⟩
      · have hil : i = l.length := by omega
        subst hil
        have hlt' : ¬ (l.length : Int) < (l.length : Int) := by omega
        simp only [↓evP, evB, stB, reduceIte, reduceCtorEq, Nat.reduceEqDiff, Nat.reduceAdd, Nat.reduceMul, Nat.reduceLeDiff, Nat.reduceLT, Nat.reduceSub, Nat.reduceBEq, q0, q2, q3, q5, h6, g5, o5, hlt', pr7]
  · simp only [↓evP, evB, stB, reduceIte, reduceCtorEq, Nat.reduceEqDiff, Nat.reduceAdd, Nat.reduceMul, Nat.reduceLeDiff, Nat.reduceLT, Nat.reduceSub, Nat.reduceBEq, q1, hc, decide_true, decide_false, pr7]
end Go.Proofs.Ytohliamalaifhaa
end
section
set_option linter.unusedSimpArgs false
set_option linter.unusedVariables false
namespace Go.Proofs.Ytohliamalaifhaa
open Go Go.RowKit Go.WideShapes Go.ChangeShapes Go.Deep

theorem trodAll_below {H : Type} {enc : TypeId × Value → H} {P : Program} (hl : laidOutB P = true) {W W' : World} (hb : Below W.heap.size W W') :
    ∀ {ts : List TypeId} {vs : List Value} {ds : List (DataW H)} {ps : List MemPlace}, (ts.all fun t => P.readableRec t && decide (t < P.types.size)) = true → DataW.TrodAll enc P W 0 (fun _ => true) true ts vs ds ps → DataW.TrodAll enc P W' 0 (fun b => decide (b < W.heap.size)) true ts vs ds ps
  | [], vs, ds, ps, _, h => by obtain ⟨rfl, rfl, rfl⟩ := trodAll_nil h; exact trodAll_mk0
  | t :: ts, vs, ds, ps, ht, h => by
    obtain ⟨v, vs', d, ds', p, q, rfl, rfl, rfl, h1, h2⟩ := trodAll_cons h
    simp only [List.all_cons, Bool.and_eq_true, decide_eq_true_eq] at ht
    have lt : ∀ x ∈ p, x.block < W.heap.size := by obtain ⟨m, hm⟩ := h1; exact DataW.trod_lt m _ _ _ hm
    exact trodAll_cons_mk (Below.trod hl ht.1.1 ht.1.2 h1 hb lt) (trodAll_below hl hb (by rw [Bool.eq_iff_iff] at *; simpa using ht.2) h2)

/-- a struct of numbers -/
theorem open_flat {H : Type} {enc : TypeId × Value → H} {P : Program} {w : World} {r : Reach} {b0 base : Nat} {spare : Nat → Bool} {held : Bool} {t : TypeId} {fs : Array Field} (ht : P.underlying t = some (.struct fs)) (hone : oneCellFields P fs = true) (hC : P.cellsOf t = fs.size)
    {tI : TypeId} (hI : P.underlying tI = some (.int .i64)) (hint0 : fs.toList.all (fun f => f.type == tI) = true) {n : Nat} (hn : fs.size = n) {v : Value} {d : DataW H} {ps : List MemPlace} (hv : Value.okWide P w r b0 t v) (h : DataW.Trod enc P w base spare held t v d ps) :
    ∃ l : List Int, l.length = n ∧ v = .agg (l.map (Value.int .i64)).toArray ∧ ∀ x, x ∈ l → -9223372036854775808 ≤ x ∧ x ≤ 9223372036854775807 := by
  have hint : ∀ (i : Nat) (f : Field), fs[i]? = some f → P.underlying f.type = some (.int .i64) := fun i f hf => by
    have h1 := List.all_eq_true.1 hint0 f (List.mem_of_getElem? (i := i) (by simpa using hf))
    rw [beq_iff_eq.1 h1]; exact hI
  subst hn
  obtain ⟨cs, rfl, hcs⟩ := okWide_struct ht hv
  obtain ⟨fuel, hf⟩ := h
  obtain ⟨xs, n, _, _, hl, hlen, hfs⟩ := DataW.trod_struct ht hf
  have key : ∀ i, ∃ x : Int, i < fs.size → cs[i]? = some (.int .i64 x) ∧ -9223372036854775808 ≤ x ∧ x ≤ 9223372036854775807 := by
    intro i
    by_cases hi : i < fs.size
    · have hfi : fs[i]? = some fs[i] := Array.getElem?_eq_getElem hi
      obtain ⟨ho, hk⟩ := hone_of hone i _ hfi
      have h1 := hfs i _ hfi
      rw [ho, hk] at h1
      have hic : i < cs.size := by omega
      have hone' : ((Value.agg cs).cells.toList.drop i).take 1 = [cs[i]'hic] := by
        show (cs.toList.drop i).take 1 = _
        rw [List.drop_eq_getElem_cons (by simpa using hic)]
        simp
      rw [hone'] at h1
      have hxs : xs[i]? = some (xs[i]'(by omega)) := List.getElem?_eq_getElem _
      rw [hxs] at h1
      obtain ⟨x, hx, hw⟩ := trod_int_field (hint i _ hfi) h1
      exact ⟨x, fun _ => ⟨by rw [Array.getElem?_eq_getElem hic, hx], i64_of_wf hw⟩⟩
    · exact ⟨0, fun h => absurd h hi⟩
  obtain ⟨g, hg⟩ := Classical.skolem.1 key
  refine ⟨(List.range fs.size).map g, by simp, ?_, fun x hx => ?_⟩
  · congr 1
    apply Array.ext_getElem?
    intro i
    simp only [List.getElem?_toArray, List.getElem?_map]
    rcases Nat.lt_or_ge i fs.size with hi | hi
    · rw [(hg i hi).1, List.getElem?_range hi]; rfl
    · rw [Array.getElem?_eq_none (by omega), List.getElem?_eq_none (by simpa using hi)]; rfl
  · simp only [List.mem_map, List.mem_range] at hx
    obtain ⟨i, hi, rfl⟩ := hx
    exact (hg i hi).2

theorem list_two {α : Type} {l : List α} (h : l.length = 2) : ∃ x y, l = [x, y] := by
  match l, h with
  | [x, y], _ => exact ⟨x, y, rfl⟩
theorem list_nine {l : List Int} (h : l.length = 9) : ∃ e : Ev, l.map (Value.int .i64) = e.cells := by
  match l, h with
  | [a, b, c, d, e, f, g, i, j], _ => exact ⟨⟨a, b, c, d, e, f, g, i, j⟩, rfl⟩
/-- what a contract on data that answers 'true' says of a call -/
theorem Spec.true [I : WInv] {P : Program} {f : Nat} {R : List Pa → List Pa → Prop} (hs : Spec P f R) {ps : List Pa} (hR : R ps [pB true]) {S : Nat → Nat} {w : World} {vals : Array Value} (hw : I.p w) (hv : RPs S w ps vals) :
    Calls P f vals w fun e w' => e = .returned (.bool true) ∧ Below w.heap.size w w' := by
  refine (hs ps _ hR S w vals hw hv).mono ?_
  rintro e w' ⟨v, S', rfl, h1, h2, _⟩
  exact ⟨by rw [RP.bool h1], h2⟩
end Go.Proofs.Ytohliamalaifhaa
end
