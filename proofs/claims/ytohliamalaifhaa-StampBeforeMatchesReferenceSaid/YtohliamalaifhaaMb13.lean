/- The laws of chapter 35 on all pairs of events. -/
import Derived.Test.YtohliamalaifhaaMb12
import Derived.OpenShut
section
set_option linter.unusedSimpArgs false
set_option linter.unusedVariables false
namespace Go.Proofs.Ytohliamalaifhaa
open Go Go.RowKit
set_option maxRecDepth 100000
set_option maxHeartbeats 4000000
open Classical

theorem befB_nat {l : List Ev} (hc : chk l = l.length) {i j : Nat} (hi : i < l.length) (hj : j < l.length) : befB l i j = decide (HB l i j) := by
  unfold befB
  rw [decide_eq_decide]
  exact ⟨fun h => h.2.2.2.2.2, fun h => ⟨hc, by omega, by omega, by omega, by omega, h⟩⟩
theorem stp_mono {l : List Ev} (hc : chk l = l.length) {i j : Nat} (hj : j < l.length) (h : HB l i j) : ∀ k, k < 8 → (stp l i).getD k 0 ≤ (stp l j).getD k 0 := by
  have V := VL.of hc
  have one : ∀ i j, j < l.length → i < j → Imm l i j → ∀ k, k < 8 → (stp l i).getD k 0 ≤ (stp l j).getD k 0 := fun i j hj hij hi k hk => by
    rcases Int.lt_or_le 0 ((stp l i).getD k 0) with h0 | h0
    · have h1 := (pre_iff V hj (c := (stp l i).getD k 0) (by omega) hk).2 ⟨i, hij, hi, Int.le_refl _⟩
      have hl := preC_len (l := l) (e := evAt l j) (runTo_ok l j)
      have hg := V.g hj
      rw [stp_at hj, clockAt_eq, set_get (by omega)]
      split
      · rename_i hk'; subst hk'; omega
      · exact h1
    · have := stp_nonneg (l := l) (j := j) (k := k)
      omega
  induction h with
  | one h hi => exact one _ _ hj h hi
  | step h hk hi ih => exact fun k hk8 => Int.le_trans (ih (by omega) k hk8) (one _ _ hj hk hi k hk8)
theorem stp_ne {l : List Ev} (hc : chk l = l.length) {i j : Nat} (hi : i < l.length) (hj : j < l.length) (hij : i ≠ j) : stp l i ≠ stp l j := fun h => by
  have h1 := (hb_stp hc hi hj hij).2 (by rw [h]; exact Int.le_refl _)
  have h2 := (hb_stp hc hj hi (Ne.symm hij)).2 (by rw [h]; exact Int.le_refl _)
  have := h1.lt
  have := h2.lt
  omega
def R_before35 (ps rs : List Pa) : Prop := ∃ (l : List Ev) (i j : Int), ps = [evsPa l, pI i, pI j] ∧ rs = [pB true]
def env_b35 : Env := e1 9 R_awake (e1 15 R_before (e1 16 R_before (e1 13 R_rvalid (e1 14 R_rel34 e0))))
theorem s_b35 : Spec Try.prog 8 R_before35 := by
  refine sp8 (show EnvOK Try.prog env_b35 from EnvOK.e1 s_awake (EnvOK.e1 s_Before (EnvOK.e1 s_rBefore (EnvOK.e1 s_rvalid (EnvOK.e1 s_rel34 EnvOK.e0))))) ?_
  rintro ps rs ⟨l, i, j, rfl, rfl⟩
  refine ⟨by simp, ?_⟩
  unfold pc8
  refine pwp_start ?_
  simp only [↓evP, evB, stB, reduceIte, reduceCtorEq, Nat.reduceEqDiff, Nat.reduceAdd, Nat.reduceMul, Nat.reduceLeDiff, Nat.reduceLT, Nat.reduceSub, Nat.reduceBEq, evsPa, evsD]
  refine callOps_intro [pB true] ⟨rfl, rfl⟩ ?_
  by_cases q1 : (l.length : Int) > 24
  · simp only [↓evP, evB, stB, reduceIte, reduceCtorEq, Nat.reduceEqDiff, Nat.reduceAdd, Nat.reduceMul, Nat.reduceLeDiff, Nat.reduceLT, Nat.reduceSub, Nat.reduceBEq, q1, decide_true, decide_false, pr8]
  have hlen : l.length ≤ 1000000 := by omega
  simp only [↓evP, evB, stB, reduceIte, reduceCtorEq, Nat.reduceEqDiff, Nat.reduceAdd, Nat.reduceMul, Nat.reduceLeDiff, Nat.reduceLT, Nat.reduceSub, Nat.reduceBEq, q1, decide_true, decide_false]
  refine callOps_intro [pB (befB l i j)] ⟨l, i, j, rfl, hlen, rfl⟩ ?_
  simp only [↓evP, evB, stB, reduceIte, reduceCtorEq, Nat.reduceEqDiff, Nat.reduceAdd, Nat.reduceMul, Nat.reduceLeDiff, Nat.reduceLT, Nat.reduceSub, Nat.reduceBEq]
  refine callOps_intro [pB (befB l i j)] ⟨l, i, j, rfl, hlen, rfl⟩ ?_
  simp only [↓evP, evB, stB, reduceIte, reduceCtorEq, Nat.reduceEqDiff, Nat.reduceAdd, Nat.reduceMul, Nat.reduceLeDiff, Nat.reduceLT, Nat.reduceSub, Nat.reduceBEq, beq_self_eq_true]
  refine callOps_intro [pB (decide (chk l = l.length))] ⟨l, rfl, hlen, rfl⟩ ?_
  by_cases hc : chk l = l.length
  · rw [decide_eq_true hc]
    simp only [↓evP, evB, stB, reduceIte, reduceCtorEq, Nat.reduceEqDiff, Nat.reduceAdd, Nat.reduceMul, Nat.reduceLeDiff, Nat.reduceLT, Nat.reduceSub, Nat.reduceBEq]
    refine callOps_intro [relPa l] ⟨l, rfl, ⟨hlen, (VL.of hc).v⟩, rfl⟩ ?_
    simp only [↓evP, evB, stB, reduceIte, reduceCtorEq, Nat.reduceEqDiff, Nat.reduceAdd, Nat.reduceMul, Nat.reduceLeDiff, Nat.reduceLT, Nat.reduceSub, Nat.reduceBEq, relPa]
    refine pwp_fresh [0, 7, 8] [] (fun S hs ho => ?_)
    simp only [stB, reduceIte, reduceCtorEq, Nat.reduceEqDiff, Nat.reduceAdd, Nat.reduceMul, Nat.reduceLeDiff, Nat.reduceLT, Nat.reduceSub, Nat.reduceBEq] at hs ho
    obtain ⟨q0, q7, q8⟩ := hs
    refine pwp_loopW ms8_0 os8_0 (fun m st => ∃ a : Nat, m = l.length - a ∧ a ≤ l.length ∧ st.sl 8 = aI a) l.length ?_ ?_
    · exact ⟨0, rfl, Nat.zero_le _, q8⟩
    · rintro m z ⟨a, rfl, ha, h8⟩
      simp only [stB, reduceIte, reduceCtorEq, Nat.reduceEqDiff, Nat.reduceAdd, Nat.reduceMul, Nat.reduceLeDiff, Nat.reduceLT, Nat.reduceSub, Nat.reduceBEq] at h8
      rcases Nat.lt_or_ge a l.length with hal | hal
      · have hlt' : (a : Int) < (l.length : Int) := by omega
        have ha0 : (0 : Int) ≤ (a : Int) := by omega
        simp only [↓evP, evB, stB, reduceIte, reduceCtorEq, Nat.reduceEqDiff, Nat.reduceAdd, Nat.reduceMul, Nat.reduceLeDiff, Nat.reduceLT, Nat.reduceSub, Nat.reduceBEq, q0, q7, h8, hlt']
        refine pwp_freshP (fun st => Within ms8_0 os8_0 S st) (by repeat' (first | assumption | exact within_over.mpr trivial | exact Within.refl _ _ _ | (refine within_ap ?_ rfl rfl) | (refine within_ap0 ?_ rfl))) [0, 7, 8, 9] [] (fun T hwT hs2 ho2 => ?_)
        simp only [stB, reduceIte, reduceCtorEq, Nat.reduceEqDiff, Nat.reduceAdd, Nat.reduceMul, Nat.reduceLeDiff, Nat.reduceLT, Nat.reduceSub, Nat.reduceBEq, q0, q7, h8] at hs2 ho2
        obtain ⟨p0, p7, p8, p9⟩ := hs2
        refine pwp_loopW ms8_1 os8_1 (fun m st => ∃ b : Nat, m = l.length - b ∧ b ≤ l.length ∧ st.sl 9 = aI b) l.length ?_ ?_
        · exact ⟨0, rfl, Nat.zero_le _, p9⟩
        · rintro m2 z2 ⟨b, rfl, hb, h9⟩
          simp only [stB, reduceIte, reduceCtorEq, Nat.reduceEqDiff, Nat.reduceAdd, Nat.reduceMul, Nat.reduceLeDiff, Nat.reduceLT, Nat.reduceSub, Nat.reduceBEq] at h9
          rcases Nat.lt_or_ge b l.length with hbl | hbl
          · have hlb : (b : Int) < (l.length : Int) := by omega
            have hb0 : (0 : Int) ≤ (b : Int) := by omega
            have r1 := range_get hal
            have r2 := range_get hbl
            simp only [↓evP, evB, stB, reduceIte, reduceCtorEq, Nat.reduceEqDiff, Nat.reduceAdd, Nat.reduceMul, Nat.reduceLeDiff, Nat.reduceLT, Nat.reduceSub, Nat.reduceBEq, p0, p7, p8, h9, hlb]
            refine callD_intro [pB (befB l a b)] ⟨l, a, b, rfl, hlen, rfl⟩ ?_
            rw [befB_nat hc hal hbl]
            simp only [↓evP, evB, stB, reduceIte, reduceCtorEq, Nat.reduceEqDiff, Nat.reduceAdd, Nat.reduceMul, Nat.reduceLeDiff, Nat.reduceLT, Nat.reduceSub, Nat.reduceBEq, p0, p7, p8, h9, ha0, hb0, r1, r2, relRow, beq_self_eq_true]
            refine ⟨(by unfold Drw; kernel_rfl), ?_⟩
            exact ⟨_, by omega, (by repeat' (first | assumption | exact within_over.mpr trivial | exact Within.refl _ _ _ | (refine within_ap ?_ rfl rfl) | (refine within_ap0 ?_ rfl))), b + 1, rfl, hbl, by simp only [stB, reduceIte, reduceCtorEq, Nat.reduceEqDiff, Nat.reduceAdd, Nat.reduceMul, Nat.reduceLeDiff, Nat.reduceLT, Nat.reduceSub, Nat.reduceBEq, h9]; rw [wrN (by omega)]⟩
          · have hbl' : b = l.length := by omega
            subst hbl'
            have hlb : ¬ (l.length : Int) < (l.length : Int) := by omega
            simp only [↓evP, evB, stB, reduceIte, reduceCtorEq, Nat.reduceEqDiff, Nat.reduceAdd, Nat.reduceMul, Nat.reduceLeDiff, Nat.reduceLT, Nat.reduceSub, Nat.reduceBEq, p0, p7, p8, h9, hlb]
            exact ⟨_, by omega, (by repeat' (first | assumption | exact within_over.mpr trivial | (refine within_ap ?_ rfl rfl) | (refine within_ap0 ?_ rfl) | refine within_in ?_ (by decide) (by decide))), a + 1, rfl, hal, by simp only [stB, reduceIte, reduceCtorEq, Nat.reduceEqDiff, Nat.reduceAdd, Nat.reduceMul, Nat.reduceLeDiff, Nat.reduceLT, Nat.reduceSub, Nat.reduceBEq, p8]; rw [wrN (by omega)]⟩
      · have hal' : a = l.length := by omega
        subst hal'
        have hlt' : ¬ (l.length : Int) < (l.length : Int) := by omega
        simp only [↓evP, evB, stB, reduceIte, reduceCtorEq, Nat.reduceEqDiff, Nat.reduceAdd, Nat.reduceMul, Nat.reduceLeDiff, Nat.reduceLT, Nat.reduceSub, Nat.reduceBEq, q0, q7, h8, hlt', pr8]
  · rw [decide_eq_false hc]
    simp only [↓evP, evB, stB, reduceIte, reduceCtorEq, Nat.reduceEqDiff, Nat.reduceAdd, Nat.reduceMul, Nat.reduceLeDiff, Nat.reduceLT, Nat.reduceSub, Nat.reduceBEq, pr8]

def env_o35 : Env := e1 9 R_awake (e1 13 R_rvalid (e1 10 R_Stamps (e1 14 R_rel34 e0)))
theorem s_order35 : Spec Try.prog 4 R_law35 := by
  refine sp4 (show EnvOK Try.prog env_o35 from EnvOK.e1 s_awake (EnvOK.e1 s_rvalid (EnvOK.e1 s_Stamps (EnvOK.e1 s_rel34 EnvOK.e0)))) ?_
  rintro ps rs ⟨l, rfl, rfl⟩
  refine ⟨by simp, ?_⟩
  unfold pc4
  refine pwp_start ?_
  simp only [↓evP, evB, stB, reduceIte, reduceCtorEq, Nat.reduceEqDiff, Nat.reduceAdd, Nat.reduceMul, Nat.reduceLeDiff, Nat.reduceLT, Nat.reduceSub, Nat.reduceBEq, evsPa, evsD]
  refine callOps_intro [pB true] ⟨rfl, rfl⟩ ?_
  by_cases q1 : (l.length : Int) > 24
  · simp only [↓evP, evB, stB, reduceIte, reduceCtorEq, Nat.reduceEqDiff, Nat.reduceAdd, Nat.reduceMul, Nat.reduceLeDiff, Nat.reduceLT, Nat.reduceSub, Nat.reduceBEq, q1, decide_true, decide_false, pr4]
  have hlen : l.length ≤ 1000000 := by omega
  simp only [↓evP, evB, stB, reduceIte, reduceCtorEq, Nat.reduceEqDiff, Nat.reduceAdd, Nat.reduceMul, Nat.reduceLeDiff, Nat.reduceLT, Nat.reduceSub, Nat.reduceBEq, q1, decide_true, decide_false]
  refine callOps_intro [pB (decide (chk l = l.length))] ⟨l, rfl, hlen, rfl⟩ ?_
  by_cases hc : chk l = l.length
  · have V := VL.of hc
    simp only [↓evP, evB, stB, reduceIte, reduceCtorEq, Nat.reduceEqDiff, Nat.reduceAdd, Nat.reduceMul, Nat.reduceLeDiff, Nat.reduceLT, Nat.reduceSub, Nat.reduceBEq, hc, decide_true, decide_false]
    refine callOps_intro [cksPa (stOf l), pI (errOf l)] ⟨l, rfl, hlen, rfl⟩ ?_
    have hs : stOf l = stampsL l := by unfold stOf; rw [if_pos hc]
    have he1 : errOf l = 0 := by unfold errOf; rw [if_pos hc]
    have hsl := stampsL_length l
    rw [hs, he1]
    simp only [↓evP, evB, stB, reduceIte, reduceCtorEq, Nat.reduceEqDiff, Nat.reduceAdd, Nat.reduceMul, Nat.reduceLeDiff, Nat.reduceLT, Nat.reduceSub, Nat.reduceBEq, cksPa, hsl, bne_self_eq_false]
    refine callOps_intro [relPa l] ⟨l, rfl, ⟨hlen, V.v⟩, rfl⟩ ?_
    simp only [↓evP, evB, stB, reduceIte, reduceCtorEq, Nat.reduceEqDiff, Nat.reduceAdd, Nat.reduceMul, Nat.reduceLeDiff, Nat.reduceLT, Nat.reduceSub, Nat.reduceBEq, relPa]
    refine pwp_fresh [0, 3, 5, 6] [] (fun S hs ho => ?_)
    simp only [stB, reduceIte, reduceCtorEq, Nat.reduceEqDiff, Nat.reduceAdd, Nat.reduceMul, Nat.reduceLeDiff, Nat.reduceLT, Nat.reduceSub, Nat.reduceBEq] at hs ho
    obtain ⟨q0, q3, q5, q6⟩ := hs
    refine pwp_loopW ms4_0 os4_0 (fun m st => ∃ a : Nat, m = l.length - a ∧ a ≤ l.length ∧ st.sl 6 = aI a) l.length ?_ ?_
    · exact ⟨0, rfl, Nat.zero_le _, q6⟩
    · rintro m z ⟨a, rfl, ha, h6⟩
      simp only [stB, reduceIte, reduceCtorEq, Nat.reduceEqDiff, Nat.reduceAdd, Nat.reduceMul, Nat.reduceLeDiff, Nat.reduceLT, Nat.reduceSub, Nat.reduceBEq] at h6
      rcases Nat.lt_or_ge a l.length with hal | hal
      · have hlt' : (a : Int) < (l.length : Int) := by omega
        have ha0 : (0 : Int) ≤ (a : Int) := by omega
        simp only [↓evP, evB, stB, reduceIte, reduceCtorEq, Nat.reduceEqDiff, Nat.reduceAdd, Nat.reduceMul, Nat.reduceLeDiff, Nat.reduceLT, Nat.reduceSub, Nat.reduceBEq, q0, q3, q5, h6, hlt']
        refine pwp_freshP (fun st => Within ms4_0 os4_0 S st) (by repeat' (first | assumption | exact within_over.mpr trivial | exact Within.refl _ _ _ | (refine within_ap ?_ rfl rfl) | (refine within_ap0 ?_ rfl))) [0, 3, 5, 6, 7] [] (fun T hwT hs2 ho2 => ?_)
        simp only [stB, reduceIte, reduceCtorEq, Nat.reduceEqDiff, Nat.reduceAdd, Nat.reduceMul, Nat.reduceLeDiff, Nat.reduceLT, Nat.reduceSub, Nat.reduceBEq, q0, q3, q5, h6] at hs2 ho2
        obtain ⟨p0, p3, p5, p6, p7⟩ := hs2
        refine pwp_loopW ms4_1 os4_1 (fun m st => ∃ b : Nat, m = l.length - b ∧ b ≤ l.length ∧ st.sl 7 = aI b) l.length ?_ ?_
        · exact ⟨0, rfl, Nat.zero_le _, p7⟩
        · rintro m2 z2 ⟨b, rfl, hb, h7⟩
          simp only [stB, reduceIte, reduceCtorEq, Nat.reduceEqDiff, Nat.reduceAdd, Nat.reduceMul, Nat.reduceLeDiff, Nat.reduceLT, Nat.reduceSub, Nat.reduceBEq] at h7
          rcases Nat.lt_or_ge b l.length with hbl | hbl
          · have hlb : (b : Int) < (l.length : Int) := by omega
            have hb0 : (0 : Int) ≤ (b : Int) := by omega
            cases hq : ((a : Int) == (b : Int)) with
            | true =>
              simp only [↓evP, evB, stB, reduceIte, reduceCtorEq, Nat.reduceEqDiff, Nat.reduceAdd, Nat.reduceMul, Nat.reduceLeDiff, Nat.reduceLT, Nat.reduceSub, Nat.reduceBEq, p0, p3, p5, p6, h7, hlb, hq]
              exact ⟨_, by omega, (by repeat' (first | assumption | exact within_over.mpr trivial | exact Within.refl _ _ _ | (refine within_ap ?_ rfl rfl) | (refine within_ap0 ?_ rfl))), b + 1, rfl, hbl, by simp only [stB, reduceIte, reduceCtorEq, Nat.reduceEqDiff, Nat.reduceAdd, Nat.reduceMul, Nat.reduceLeDiff, Nat.reduceLT, Nat.reduceSub, Nat.reduceBEq, h7]; rw [wrN (by omega)]⟩
            | false =>
              have hab : a ≠ b := fun h => by subst h; simp at hq
              have r1 := range_get hal
              have r2 := range_get hbl
              have ei := evAt_some hal
              have hg := V.g hal
              have hg0 := hg.1
              have hg8 : (evAt l a).g < ((8 : Nat) : Int) := hg.2
              have s1 := stamps_get hal
              have s2 := stamps_get hbl
              have c1 := ckCells_get _ _ _ (get_some (stp_len (l := l) (j := a)) (k := (evAt l a).g.toNat) (by omega))
              have c2 := ckCells_get _ _ _ (get_some (stp_len (l := l) (j := b)) (k := (evAt l a).g.toNat) (by omega))
              have e1 : (ckRow (stp l a)).length = 8 := by unfold ckRow; rw [List.length_map, stp_len]
              have e2 : (ckRow (stp l b)).length = 8 := by unfold ckRow; rw [List.length_map, stp_len]
              have e3 : (ckCells (stp l a)).length = 8 := by rw [ckCells_length, stp_len]
              have e4 : (ckCells (stp l b)).length = 8 := by rw [ckCells_length, stp_len]
              have e5 : 8 ≤ (ckCells (stp l a)).length := by omega
              have e6 : 8 ≤ (ckCells (stp l b)).length := by omega
              have e7 : (ckCells (stp l a)).take 8 = ckCells (stp l a) := List.take_of_length_le (by omega)
              have e8 : (ckCells (stp l b)).take 8 = ckCells (stp l b) := List.take_of_length_le (by omega)
              have e9 : eqCls [false, false, false, false, false, false, false, false] (ckCells (stp l a)) (ckCells (stp l b)) = some false := by
                have := eqCls_ck (a := stp l a) (b := stp l b) (by rw [stp_len, stp_len])
                rw [stp_len, decide_eq_false (stp_ne hc hal hbl hab)] at this
                exact this
              have hbs := hb_stp hc hal hbl hab
              by_cases hh : HB l a b
              · have hd : decide (HB l a b) = true := decide_eq_true hh
                have hle := hbs.1 hh
                have hmono := stp_mono hc hbl hh
                simp only [↓evP, evB, stB, reduceIte, reduceCtorEq, Nat.reduceEqDiff, Nat.reduceAdd, Nat.reduceMul, Nat.reduceLeDiff, Nat.reduceLT, Nat.reduceSub, Nat.reduceBEq, p0, p3, p5, p6, h7, hlb, hq, ha0, hb0, ei, Ev.row, r1, r2, relRow, hd, s1, s2, hg0, hg8, c1, c2, e1, e2, e3, e4, e5, e6, e7, e8, e9, hle, decide_true, decide_false, beq_self_eq_true, ckRow_cells, Nat.mul_one]
                refine ⟨(by unfold Drw; kernel_rfl), ?_⟩
                refine pwp_freshP (fun st => Within ms4_1 os4_1 T st) (by repeat' (first | assumption | exact within_over.mpr trivial | exact Within.refl _ _ _ | (refine within_ap ?_ rfl rfl) | (refine within_ap0 ?_ rfl))) [0, 3, 5, 6, 7, 9] [] (fun U hwU hs3 ho3 => ?_)
                simp only [stB, reduceIte, reduceCtorEq, Nat.reduceEqDiff, Nat.reduceAdd, Nat.reduceMul, Nat.reduceLeDiff, Nat.reduceLT, Nat.reduceSub, Nat.reduceBEq, p0, p3, p5, p6, h7] at hs3 ho3
                obtain ⟨u0, u3, u5, u6, u7, u9⟩ := hs3
                refine pwp_loopW ms4_2 os4_2 (fun m st => ∃ k : Nat, m = 8 - k ∧ k ≤ 8 ∧ st.sl 9 = aI k) 8 ?_ ?_
                · exact ⟨0, rfl, Nat.zero_le _, u9⟩
                · rintro m3 z3 ⟨k, rfl, hk, h9⟩
                  simp only [stB, reduceIte, reduceCtorEq, Nat.reduceEqDiff, Nat.reduceAdd, Nat.reduceMul, Nat.reduceLeDiff, Nat.reduceLT, Nat.reduceSub, Nat.reduceBEq] at h9
                  rcases Nat.lt_or_ge k 8 with hk8 | hk8
                  · have hk0 : (0 : Int) ≤ (k : Int) := by omega
                    have hkl : (k : Int) < 8 := by omega
                    have hkl8 : (k : Int) < ((8 : Nat) : Int) := by omega
                    have d1 := ckCells_get _ _ _ (get_some (stp_len (l := l) (j := a)) hk8)
                    have d2 := ckCells_get _ _ _ (get_some (stp_len (l := l) (j := b)) hk8)
                    have hgt : ¬ (stp l a).getD k 0 > (stp l b).getD k 0 := by have := hmono k hk8; omega
                    simp only [↓evP, evB, stB, reduceIte, reduceCtorEq, Nat.reduceEqDiff, Nat.reduceAdd, Nat.reduceMul, Nat.reduceLeDiff, Nat.reduceLT, Nat.reduceSub, Nat.reduceBEq, u0, u3, u5, u6, u7, h9, ha0, hb0, r1, r2, relRow, hd, hkl, hkl8, hk0, s1, s2, e1, e2, d1, d2, hgt, decide_true, decide_false, ckRow_cells, Nat.mul_one]
                    refine ⟨(by unfold Drw; kernel_rfl), ?_⟩
                    exact ⟨_, by omega, (by repeat' (first | assumption | exact within_over.mpr trivial | exact Within.refl _ _ _ | (refine within_ap ?_ rfl rfl) | (refine within_ap0 ?_ rfl))), k + 1, rfl, by omega, by simp only [stB, reduceIte, reduceCtorEq, Nat.reduceEqDiff, Nat.reduceAdd, Nat.reduceMul, Nat.reduceLeDiff, Nat.reduceLT, Nat.reduceSub, Nat.reduceBEq, h9]; rw [wrN (by omega)]⟩
                  · have hk88 : k = 8 := by omega
                    subst hk88
                    have hkl : ¬ ((8 : Nat) : Int) < 8 := by omega
                    simp only [↓evP, evB, stB, reduceIte, reduceCtorEq, Nat.reduceEqDiff, Nat.reduceAdd, Nat.reduceMul, Nat.reduceLeDiff, Nat.reduceLT, Nat.reduceSub, Nat.reduceBEq, u0, u3, u5, u6, u7, h9, ha0, hb0, r1, r2, relRow, hd, hkl, decide_true, decide_false]
                    exact ⟨_, by omega, (by repeat' (first | assumption | exact within_over.mpr trivial | (refine within_ap ?_ rfl rfl) | (refine within_ap0 ?_ rfl) | refine within_in ?_ (by decide) (by decide))), b + 1, rfl, hbl, by simp only [stB, reduceIte, reduceCtorEq, Nat.reduceEqDiff, Nat.reduceAdd, Nat.reduceMul, Nat.reduceLeDiff, Nat.reduceLT, Nat.reduceSub, Nat.reduceBEq, u7]; rw [wrN (by omega)]⟩
              · have hd : decide (HB l a b) = false := decide_eq_false hh
                have hle : ¬ (stp l a).getD (evAt l a).g.toNat 0 ≤ (stp l b).getD (evAt l a).g.toNat 0 := fun h => hh (hbs.2 h)
                simp only [↓evP, evB, stB, reduceIte, reduceCtorEq, Nat.reduceEqDiff, Nat.reduceAdd, Nat.reduceMul, Nat.reduceLeDiff, Nat.reduceLT, Nat.reduceSub, Nat.reduceBEq, p0, p3, p5, p6, h7, hlb, hq, ha0, hb0, ei, Ev.row, r1, r2, relRow, hd, s1, s2, hg0, hg8, c1, c2, e1, e2, e3, e4, e5, e6, e7, e8, e9, hle, decide_true, decide_false, beq_self_eq_true, ckRow_cells, Nat.mul_one]
                refine ⟨(by unfold Drw; kernel_rfl), ?_⟩
                refine pwp_freshP (fun st => Within ms4_1 os4_1 T st) (by repeat' (first | assumption | exact within_over.mpr trivial | exact Within.refl _ _ _ | (refine within_ap ?_ rfl rfl) | (refine within_ap0 ?_ rfl))) [0, 3, 5, 6, 7, 9] [] (fun U hwU hs3 ho3 => ?_)
                simp only [stB, reduceIte, reduceCtorEq, Nat.reduceEqDiff, Nat.reduceAdd, Nat.reduceMul, Nat.reduceLeDiff, Nat.reduceLT, Nat.reduceSub, Nat.reduceBEq, p0, p3, p5, p6, h7] at hs3 ho3
                obtain ⟨u0, u3, u5, u6, u7, u9⟩ := hs3
                refine pwp_loopW ms4_2 os4_2 (fun m st => st.sl 9 = aI 0) 0 u9 ?_
                intro m3 z3 h9
                simp only [stB, reduceIte, reduceCtorEq, Nat.reduceEqDiff, Nat.reduceAdd, Nat.reduceMul, Nat.reduceLeDiff, Nat.reduceLT, Nat.reduceSub, Nat.reduceBEq] at h9
                simp only [↓evP, evB, stB, reduceIte, reduceCtorEq, Nat.reduceEqDiff, Nat.reduceAdd, Nat.reduceMul, Nat.reduceLeDiff, Nat.reduceLT, Nat.reduceSub, Nat.reduceBEq, u0, u3, u5, u6, u7, h9, ha0, hb0, r1, r2, relRow, hd, decide_true, decide_false]
                exact ⟨_, by omega, (by repeat' (first | assumption | exact within_over.mpr trivial | (refine within_ap ?_ rfl rfl) | (refine within_ap0 ?_ rfl) | refine within_in ?_ (by decide) (by decide))), b + 1, rfl, hbl, by simp only [stB, reduceIte, reduceCtorEq, Nat.reduceEqDiff, Nat.reduceAdd, Nat.reduceMul, Nat.reduceLeDiff, Nat.reduceLT, Nat.reduceSub, Nat.reduceBEq, u7]; rw [wrN (by omega)]⟩
          · have hbl' : b = l.length := by omega
            subst hbl'
            have hlb : ¬ (l.length : Int) < (l.length : Int) := by omega
            simp only [↓evP, evB, stB, reduceIte, reduceCtorEq, Nat.reduceEqDiff, Nat.reduceAdd, Nat.reduceMul, Nat.reduceLeDiff, Nat.reduceLT, Nat.reduceSub, Nat.reduceBEq, p0, p3, p5, p6, h7, hlb]
            exact ⟨_, by omega, (by repeat' (first | assumption | exact within_over.mpr trivial | (refine within_ap ?_ rfl rfl) | (refine within_ap0 ?_ rfl) | refine within_in ?_ (by decide) (by decide))), a + 1, rfl, hal, by simp only [stB, reduceIte, reduceCtorEq, Nat.reduceEqDiff, Nat.reduceAdd, Nat.reduceMul, Nat.reduceLeDiff, Nat.reduceLT, Nat.reduceSub, Nat.reduceBEq, p6]; rw [wrN (by omega)]⟩
      · have hal' : a = l.length := by omega
        subst hal'
        have hlt' : ¬ (l.length : Int) < (l.length : Int) := by omega
        simp only [↓evP, evB, stB, reduceIte, reduceCtorEq, Nat.reduceEqDiff, Nat.reduceAdd, Nat.reduceMul, Nat.reduceLeDiff, Nat.reduceLT, Nat.reduceSub, Nat.reduceBEq, q0, q3, q5, h6, hlt', pr4]
  · simp only [↓evP, evB, stB, reduceIte, reduceCtorEq, Nat.reduceEqDiff, Nat.reduceAdd, Nat.reduceMul, Nat.reduceLeDiff, Nat.reduceLT, Nat.reduceSub, Nat.reduceBEq, hc, decide_true, decide_false, pr4]
end Go.Proofs.Ytohliamalaifhaa
end
section
set_option linter.unusedSimpArgs false
set_option linter.unusedVariables false
namespace Go.Proofs.Ytohliamalaifhaa
open Go Go.RowKit Go.WideShapes Go.ChangeShapes Go.Deep

theorem trodAll_below {H : Type} {enc : TypeId × Value → H} {P : Program} (hl : laidOutB P = true) {W W' : World} (hb : Below W.heap.size W W') :
    ∀ {ts : List TypeId} {vs : List Value} {ds : List (DataW H)} {ps : List MemPlace}, (ts.all fun t => P.readableRec t && decide (t < P.types.size)) = true → DataW.TrodAll enc P W 0 (fun _ => true) true ts vs ds ps → DataW.TrodAll enc P W' 0 (fun b => decide (b < W.heap.size)) true ts vs ds ps
  | [], vs, ds, ps, _, h => by obtain ⟨rfl, rfl, rfl⟩ := trodAll_nil h; exact trodAll_mk0
  | t :: ts, vs, ds, ps, ht, h => by
    obtain ⟨v, vs', d, ds', p, q, rfl, rfl, rfl, h1, h2⟩ := trodAll_cons h
    simp only [List.all_cons, Bool.and_eq_true, decide_eq_true_eq] at ht
    have lt : ∀ x ∈ p, x.block < W.heap.size := by obtain ⟨m, hm⟩ := h1; exact DataW.trod_lt m _ _ _ hm
    exact trodAll_cons_mk (Below.trod hl ht.1.1 ht.1.2 h1 hb lt) (trodAll_below hl hb (by rw [Bool.eq_iff_iff] at *; simpa using ht.2) h2)

/-- a struct of numbers -/
theorem open_flat {H : Type} {enc : TypeId × Value → H} {P : Program} {w : World} {r : Reach} {b0 base : Nat} {spare : Nat → Bool} {held : Bool} {t : TypeId} {fs : Array Field} (ht : P.underlying t = some (.struct fs)) (hone : oneCellFields P fs = true) (hC : P.cellsOf t = fs.size)
    {tI : TypeId} (hI : P.underlying tI = some (.int .i64)) (hint0 : fs.toList.all (fun f => f.type == tI) = true) {n : Nat} (hn : fs.size = n) {v : Value} {d : DataW H} {ps : List MemPlace} (hv : Value.okWide P w r b0 t v) (h : DataW.Trod enc P w base spare held t v d ps) :
    ∃ l : List Int, l.length = n ∧ v = .agg (l.map (Value.int .i64)).toArray ∧ ∀ x, x ∈ l → -9223372036854775808 ≤ x ∧ x ≤ 9223372036854775807 := by
  have hint : ∀ (i : Nat) (f : Field), fs[i]? = some f → P.underlying f.type = some (.int .i64) := fun i f hf => by
    have h1 := List.all_eq_true.1 hint0 f (List.mem_of_getElem? (i := i) (by simpa using hf))
    rw [beq_iff_eq.1 h1]; exact hI
  subst hn
  obtain ⟨cs, rfl, hcs⟩ := okWide_struct ht hv
  obtain ⟨fuel, hf⟩ := h
  obtain ⟨xs, n, _, _, hl, hlen, hfs⟩ := DataW.trod_struct ht hf
  have key : ∀ i, ∃ x : Int, i < fs.size → cs[i]? = some (.int .i64 x) ∧ -9223372036854775808 ≤ x ∧ x ≤ 9223372036854775807 := by
    intro i
    by_cases hi : i < fs.size
    · have hfi : fs[i]? = some fs[i] := Array.getElem?_eq_getElem hi
      obtain ⟨ho, hk⟩ := hone_of hone i _ hfi
      have h1 := hfs i _ hfi
      rw [ho, hk] at h1
      have hic : i < cs.size := by omega
      have hone' : ((Value.agg cs).cells.toList.drop i).take 1 = [cs[i]'hic] := by
        show (cs.toList.drop i).take 1 = _
        rw [List.drop_eq_getElem_cons (by simpa using hic)]
        simp
      rw [hone'] at h1
      have hxs : xs[i]? = some (xs[i]'(by omega)) := List.getElem?_eq_getElem _
      rw [hxs] at h1
      obtain ⟨x, hx, hw⟩ := trod_int_field (hint i _ hfi) h1
      exact ⟨x, fun _ => ⟨by rw [Array.getElem?_eq_getElem hic, hx], i64_of_wf hw⟩⟩
    · exact ⟨0, fun h => absurd h hi⟩
  obtain ⟨g, hg⟩ := Classical.skolem.1 key
  refine ⟨(List.range fs.size).map g, by simp, ?_, fun x hx => ?_⟩
  · congr 1
    apply Array.ext_getElem?
    intro i
    simp only [List.getElem?_toArray, List.getElem?_map]
    rcases Nat.lt_or_ge i fs.size with hi | hi
    · rw [(hg i hi).1, List.getElem?_range hi]; rfl
    · rw [Array.getElem?_eq_none (by omega), List.getElem?_eq_none (by simpa using hi)]; rfl
  · simp only [List.mem_map, List.mem_range] at hx
    obtain ⟨i, hi, rfl⟩ := hx
    exact (hg i hi).2

theorem list_two {α : Type} {l : List α} (h : l.length = 2) : ∃ x y, l = [x, y] := by
  match l, h with
  | [x, y], _ => exact ⟨x, y, rfl⟩
theorem list_nine {l : List Int} (h : l.length = 9) : ∃ e : Ev, l.map (Value.int .i64) = e.cells := by
  match l, h with
  | [a, b, c, d, e, f, g, i, j], _ => exact ⟨⟨a, b, c, d, e, f, g, i, j⟩, rfl⟩
/-- what a contract on data that answers 'true' says of a call -/
theorem Spec.true [I : WInv] {P : Program} {f : Nat} {R : List Pa → List Pa → Prop} (hs : Spec P f R) {ps : List Pa} (hR : R ps [pB true]) {S : Nat → Nat} {w : World} {vals : Array Value} (hw : I.p w) (hv : RPs S w ps vals) :
    Calls P f vals w fun e w' => e = .returned (.bool true) ∧ Below w.heap.size w w' := by
  refine (hs ps _ hR S w vals hw hv).mono ?_
  rintro e w' ⟨v, S', rfl, h1, h2, _⟩
  exact ⟨by rw [RP.bool h1], h2⟩
end Go.Proofs.Ytohliamalaifhaa
end
