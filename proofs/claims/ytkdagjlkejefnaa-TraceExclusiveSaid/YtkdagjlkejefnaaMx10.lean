/- The law of exclusion. -/
import Derived.Test.YtkdagjlkejefnaaMx9
import Derived.OpenShut
section
set_option linter.unusedSimpArgs false
set_option linter.unusedVariables false
namespace Go.Proofs.Ytkdagjlkejefnaa
open Go Go.RowKit
set_option maxRecDepth 100000
set_option maxHeartbeats 4000000

def env_tex : Env := e1 12 R_awake (e1 16 R_repair (e1 15 R_rvalid e0))
theorem env_tex_ok : EnvOK Try.prog env_tex := EnvOK.e1 s_awake (EnvOK.e1 s_repair (EnvOK.e1 s_tValid EnvOK.e0))
theorem bne_iff {a b : Int} (h : (a != b) = true) : a ≠ b := bne_iff_ne.1 h
theorem bne_not {a b : Int} (h : (a != b) = false) : ¬ a ≠ b := fun h' => by rw [bne_iff_ne.2 h'] at h; cases h
theorem excl_c2 {m : List Ev} (hm : m.length ≤ 100) (Q : Exit → St → Prop) (hQ : ∀ st, st.res pre6 = some [pB true] → Q .ret st) (st : St) (h5 : st.sl 5 = .b (.one (.d (evsD m)))) :
    pwp env_tex pce6c2 (exS env_tex [] Q) st := by
  unfold pce6c2
  simp only [evsD] at h5
  simp only [↓evP, evB, stB, reduceIte, reduceCtorEq, Nat.reduceEqDiff, Nat.reduceAdd, Nat.reduceMul, Nat.reduceLeDiff, Nat.reduceLT, Nat.reduceSub, Nat.reduceBEq, h5]
  refine callOps_intro [pB (decide (chk m = m.length))] ⟨m, rfl, by omega, rfl⟩ ?_
  by_cases hc : chk m = m.length
  · simp only [↓evP, evB, stB, reduceIte, reduceCtorEq, Nat.reduceEqDiff, Nat.reduceAdd, Nat.reduceMul, Nat.reduceLeDiff, Nat.reduceLT, Nat.reduceSub, Nat.reduceBEq, h5, hc, decide_true, decide_false]
    unfold pce6c1
    simp only [↓evP, evB, stB, reduceIte, reduceCtorEq, Nat.reduceEqDiff, Nat.reduceAdd, Nat.reduceMul, Nat.reduceLeDiff, Nat.reduceLT, Nat.reduceSub, Nat.reduceBEq, h5]
    refine pwp_fresh [5, 34, 35, 36] [] (fun S hs ho => ?_)
    simp only [stB, reduceIte, reduceCtorEq, Nat.reduceEqDiff, Nat.reduceAdd, Nat.reduceMul, Nat.reduceLeDiff, Nat.reduceLT, Nat.reduceSub, Nat.reduceBEq, h5] at hs ho
    obtain ⟨q5, q34, q35, q36⟩ := hs
    refine pwp_loopW mse6_0 ose6_0 (fun n st => ∃ i : Nat, n = m.length - i ∧ i ≤ m.length ∧ st.sl 36 = aI i) m.length ?_ ?_
    · exact ⟨0, rfl, Nat.zero_le _, q36⟩
    · rintro n z ⟨i, rfl, hi, h36⟩
      simp only [stB, reduceIte, reduceCtorEq, Nat.reduceEqDiff, Nat.reduceAdd, Nat.reduceMul, Nat.reduceLeDiff, Nat.reduceLT, Nat.reduceSub, Nat.reduceBEq] at h36
      rcases Nat.lt_or_ge i m.length with hlt | hge
      · obtain ⟨a, ha⟩ : ∃ a, m[i]? = some a := ⟨_, List.getElem?_eq_getElem hlt⟩
        have hlt' : (i : Int) < (m.length : Int) := by omega
        have hi0 : (0 : Int) ≤ (i : Int) := by omega
        have hw : IntKind.i64.wrap ((i : Int) + 1) = ((i + 1 : Nat) : Int) := wrN (by omega)
        have hl0 : (0 : Int) ≤ ((i + 1 : Nat) : Int) := by omega
        have hl1 : ((i + 1 : Nat) : Int) ≤ (m.length : Int) := by omega
        have hall := rows_len (f := Ev.row) (n := 9) (fun _ => rfl) m
        have htk : (m.map Ev.row).take m.length = m.map Ev.row := List.take_of_length_le (by rw [List.length_map]; exact Nat.le_refl _)
        have hdr : (m.map Ev.row).drop (i + 1) = (m.drop (i + 1)).map Ev.row := (List.map_drop ..).symm
        have hex := fun h6 => excl_valid hc ha h6
        simp only [↓evP, evB, stB, reduceIte, reduceCtorEq, Nat.reduceEqDiff, Nat.reduceAdd, Nat.reduceMul, Nat.reduceLeDiff, Nat.reduceLT, Nat.reduceSub, Nat.reduceBEq, q5, q34, q35, h36, hlt']
        unfold pce6c0
        cases k6 : (a.kind != 6) with
        | true =>
          simp only [↓evP, evB, stB, reduceIte, reduceCtorEq, Nat.reduceEqDiff, Nat.reduceAdd, Nat.reduceMul, Nat.reduceLeDiff, Nat.reduceLT, Nat.reduceSub, Nat.reduceBEq, q5, q34, q35, h36, hi0, ha, Ev.row, k6]
          exact ⟨_, by omega, (by repeat' (first | assumption | exact within_over.mpr trivial | exact Within.refl _ _ _ | (refine within_ap ?_ rfl rfl) | (refine within_ap0 ?_ rfl))), i + 1, rfl, hlt, by simp only [stB, reduceIte, reduceCtorEq, Nat.reduceEqDiff, Nat.reduceAdd, Nat.reduceMul, Nat.reduceLeDiff, Nat.reduceLT, Nat.reduceSub, Nat.reduceBEq, h36]; rw [wrN (by omega)]⟩
        | false =>
          have h6 : a.kind = 6 := by rw [bne_eq_false_iff_eq] at k6; exact k6
          have hex := hex h6
          simp only [↓evP, evB, stB, reduceIte, reduceCtorEq, Nat.reduceEqDiff, Nat.reduceAdd, Nat.reduceMul, Nat.reduceLeDiff, Nat.reduceLT, Nat.reduceSub, Nat.reduceBEq, q5, q34, q35, h36, hi0, ha, Ev.row, k6, hw, hl0, hl1, hall, htk, hdr, Int.le_refl]
          generalize hrest : m.drop (i + 1) = rest at *
          have hrl : rest.length ≤ 100 := by rw [← hrest, List.length_drop]; omega
          refine pwp_freshP (fun st => Within mse6_0 ose6_0 S st) (by repeat' (first | assumption | exact within_over.mpr trivial | exact Within.refl _ _ _ | (refine within_ap ?_ rfl rfl) | (refine within_ap0 ?_ rfl))) [5, 7, 34, 35, 36, 47, 48, 49] [7] (fun T hwT hs2 ho2 => ?_)
          simp only [stB, reduceIte, reduceCtorEq, Nat.reduceEqDiff, Nat.reduceAdd, Nat.reduceMul, Nat.reduceLeDiff, Nat.reduceLT, Nat.reduceSub, Nat.reduceBEq, q5, q34, q35, h36] at hs2 ho2
          obtain ⟨p5, p7, p34, p35, p36, p47, p48, p49⟩ := hs2
          obtain ⟨r7, t7⟩ := ho2
          refine pwp_loopW mse6_1 ose6_1 (fun n st => ∃ k : Nat, n = rest.length - k ∧ k ≤ rest.length ∧ exclIn a.obj a.off (rest.drop k) = true ∧ st.sl 49 = aI k) rest.length ?_ ?_
          · exact ⟨0, rfl, Nat.zero_le _, hex, p49⟩
          · rintro n2 z2 ⟨k, rfl, hk, hxk, h49⟩
            simp only [stB, reduceIte, reduceCtorEq, Nat.reduceEqDiff, Nat.reduceAdd, Nat.reduceMul, Nat.reduceLeDiff, Nat.reduceLT, Nat.reduceSub, Nat.reduceBEq] at h49
            rcases Nat.lt_or_ge k rest.length with hkl | hkg
            · obtain ⟨b, hb⟩ : ∃ b, rest[k]? = some b := ⟨_, List.getElem?_eq_getElem hkl⟩
              have hd : rest.drop k = b :: rest.drop (k + 1) := by rw [List.drop_eq_getElem_cons hkl]; congr 1; rw [List.getElem?_eq_getElem hkl] at hb; exact Option.some.inj hb
              rw [hd] at hxk
              simp only [exclIn] at hxk
              have hkl' : (k : Int) < (rest.length : Int) := by omega
              have hk0 : (0 : Int) ≤ (k : Int) := by omega
              cases o1 : (b.obj != a.obj) with
              | true =>
                rw [if_pos (bne_iff o1)] at hxk
                simp only [↓evP, evB, stB, reduceIte, reduceCtorEq, Nat.reduceEqDiff, Nat.reduceAdd, Nat.reduceMul, Nat.reduceLeDiff, Nat.reduceLT, Nat.reduceSub, Nat.reduceBEq, p5, p7, p34, p35, p36, p47, p48, h49, r7, t7, hkl', hk0, hb, Ev.row, o1]
                exact ⟨_, by omega, (by repeat' (first | assumption | exact within_over.mpr trivial | exact Within.refl _ _ _ | (refine within_ap ?_ rfl rfl) | (refine within_ap0 ?_ rfl))), k + 1, rfl, hkl, hxk, by simp only [stB, reduceIte, reduceCtorEq, Nat.reduceEqDiff, Nat.reduceAdd, Nat.reduceMul, Nat.reduceLeDiff, Nat.reduceLT, Nat.reduceSub, Nat.reduceBEq, h49]; rw [wrN (by omega)]⟩
              | false =>
              rw [if_neg (bne_not o1)] at hxk
              cases o2 : (b.off != a.off) with
              | true =>
                rw [if_pos (bne_iff o2)] at hxk
                simp only [↓evP, evB, stB, reduceIte, reduceCtorEq, Nat.reduceEqDiff, Nat.reduceAdd, Nat.reduceMul, Nat.reduceLeDiff, Nat.reduceLT, Nat.reduceSub, Nat.reduceBEq, p5, p7, p34, p35, p36, p47, p48, h49, r7, t7, hkl', hk0, hb, Ev.row, o1, o2]
                exact ⟨_, by omega, (by repeat' (first | assumption | exact within_over.mpr trivial | exact Within.refl _ _ _ | (refine within_ap ?_ rfl rfl) | (refine within_ap0 ?_ rfl))), k + 1, rfl, hkl, hxk, by simp only [stB, reduceIte, reduceCtorEq, Nat.reduceEqDiff, Nat.reduceAdd, Nat.reduceMul, Nat.reduceLeDiff, Nat.reduceLT, Nat.reduceSub, Nat.reduceBEq, h49]; rw [wrN (by omega)]⟩
              | false =>
              rw [if_neg (bne_not o2)] at hxk
              cases b6 : (b.kind == 6) with
              | true => rw [if_pos (.inl (beq_iff_eq.1 b6))] at hxk; cases hxk
              | false =>
              cases b8 : (b.kind == 8) with
              | true => rw [if_pos (.inr (beq_iff_eq.1 b8))] at hxk; cases hxk
              | false =>
              rw [if_neg (fun h => h.elim (beq_eq_false_iff_ne.1 b6) (beq_eq_false_iff_ne.1 b8))] at hxk
              cases b7 : (b.kind == 7) with
              | true =>
                simp only [↓evP, evB, stB, reduceIte, reduceCtorEq, Nat.reduceEqDiff, Nat.reduceAdd, Nat.reduceMul, Nat.reduceLeDiff, Nat.reduceLT, Nat.reduceSub, Nat.reduceBEq, p5, p7, p34, p35, p36, p47, p48, h49, r7, t7, hkl', hk0, hb, Ev.row, o1, o2, b6, b8, b7]
                exact ⟨_, by omega, (by repeat' (first | assumption | exact within_over.mpr trivial | (refine within_ap ?_ rfl rfl) | (refine within_ap0 ?_ rfl) | refine within_in ?_ (by decide) (by decide))), i + 1, rfl, hlt, by simp only [stB, reduceIte, reduceCtorEq, Nat.reduceEqDiff, Nat.reduceAdd, Nat.reduceMul, Nat.reduceLeDiff, Nat.reduceLT, Nat.reduceSub, Nat.reduceBEq, p36]; rw [wrN (by omega)]⟩
              | false =>
                rw [if_neg (beq_eq_false_iff_ne.1 b7)] at hxk
                simp only [↓evP, evB, stB, reduceIte, reduceCtorEq, Nat.reduceEqDiff, Nat.reduceAdd, Nat.reduceMul, Nat.reduceLeDiff, Nat.reduceLT, Nat.reduceSub, Nat.reduceBEq, p5, p7, p34, p35, p36, p47, p48, h49, r7, t7, hkl', hk0, hb, Ev.row, o1, o2, b6, b8, b7]
                exact ⟨_, by omega, (by repeat' (first | assumption | exact within_over.mpr trivial | exact Within.refl _ _ _ | (refine within_ap ?_ rfl rfl) | (refine within_ap0 ?_ rfl))), k + 1, rfl, hkl, hxk, by simp only [stB, reduceIte, reduceCtorEq, Nat.reduceEqDiff, Nat.reduceAdd, Nat.reduceMul, Nat.reduceLeDiff, Nat.reduceLT, Nat.reduceSub, Nat.reduceBEq, h49]; rw [wrN (by omega)]⟩
            · have hkk : k = rest.length := by omega
              subst hkk
              have hkl' : ¬ (rest.length : Int) < (rest.length : Int) := by omega
              simp only [↓evP, evB, stB, reduceIte, reduceCtorEq, Nat.reduceEqDiff, Nat.reduceAdd, Nat.reduceMul, Nat.reduceLeDiff, Nat.reduceLT, Nat.reduceSub, Nat.reduceBEq, p5, p7, p34, p35, p36, p47, p48, h49, r7, t7, hkl']
              exact ⟨_, by omega, (by repeat' (first | assumption | exact within_over.mpr trivial | (refine within_ap ?_ rfl rfl) | (refine within_ap0 ?_ rfl) | refine within_in ?_ (by decide) (by decide))), i + 1, rfl, hlt, by simp only [stB, reduceIte, reduceCtorEq, Nat.reduceEqDiff, Nat.reduceAdd, Nat.reduceMul, Nat.reduceLeDiff, Nat.reduceLT, Nat.reduceSub, Nat.reduceBEq, p36]; rw [wrN (by omega)]⟩
      · have hil : i = m.length := by omega
        subst hil
        have hlt' : ¬ (m.length : Int) < (m.length : Int) := by omega
        simp only [↓evP, evB, stB, reduceIte, reduceCtorEq, Nat.reduceEqDiff, Nat.reduceAdd, Nat.reduceMul, Nat.reduceLeDiff, Nat.reduceLT, Nat.reduceSub, Nat.reduceBEq, q5, q34, q35, h36, hlt']
        exact hQ _ (by simp only [stB, reduceIte, reduceCtorEq, Nat.reduceEqDiff, Nat.reduceAdd, Nat.reduceMul, Nat.reduceLeDiff, Nat.reduceLT, Nat.reduceSub, Nat.reduceBEq, pre6])
  · simp only [↓evP, evB, stB, reduceIte, reduceCtorEq, Nat.reduceEqDiff, Nat.reduceAdd, Nat.reduceMul, Nat.reduceLeDiff, Nat.reduceLT, Nat.reduceSub, Nat.reduceBEq, h5, hc, decide_true, decide_false]
    exact hQ _ (by simp only [stB, reduceIte, reduceCtorEq, Nat.reduceEqDiff, Nat.reduceAdd, Nat.reduceMul, Nat.reduceLeDiff, Nat.reduceLT, Nat.reduceSub, Nat.reduceBEq, pre6])

def dropAt (l : List Ev) (n : Int) : List Ev := if 0 ≤ n ∧ n < (l.length : Int) then l.take n.toNat ++ l.drop (n.toNat + 1) else l
theorem dropAt_le (l : List Ev) (n : Int) : (dropAt l n).length ≤ l.length := by
  unfold dropAt
  split
  · rw [List.length_append, List.length_take, List.length_drop]; omega
  · exact Nat.le_refl _
def R_texcl (ps rs : List Pa) : Prop := ∃ (l : List Ev) (n : Int), ps = [evsPa l, pI n] ∧ l.length ≤ 9223372036854775807 ∧ rs = [pB true]
theorem s_texcl : Spec Try.prog 6 R_texcl := by
  refine spe6 env_tex_ok ?_
  rintro ps rs ⟨raw, n, rfl, hlen, rfl⟩
  refine ⟨by simp, ?_⟩
  obtain ⟨_, _, hl⟩ := repair_good raw
  unfold pce6
  refine pwp_start ?_
  simp only [↓evP, evB, stB, reduceIte, reduceCtorEq, Nat.reduceEqDiff, Nat.reduceAdd, Nat.reduceMul, Nat.reduceLeDiff, Nat.reduceLT, Nat.reduceSub, Nat.reduceBEq, evsPa, evsD]
  refine callOps_intro [pB true] ⟨rfl, rfl⟩ ?_
  simp only [↓evP, evB, stB, reduceIte, reduceCtorEq, Nat.reduceEqDiff, Nat.reduceAdd, Nat.reduceMul, Nat.reduceLeDiff, Nat.reduceLT, Nat.reduceSub, Nat.reduceBEq]
  refine callOps_intro [evsPa (repairL raw)] ⟨raw, rfl, hlen, rfl⟩ ?_
  generalize repairL raw = l at *
  by_cases b1 : n ≥ 0
  · by_cases b2 : n < (l.length : Int)
    · obtain ⟨k, rfl⟩ := Int.eq_ofNat_of_zero_le b1
      have hw : IntKind.i64.wrap ((k : Int) + 1) = ((k + 1 : Nat) : Int) := wrN (by omega)
      have hl0 : (0 : Int) ≤ (k : Int) := by omega
      have hl1 : (k : Int) ≤ (l.length : Int) := by omega
      have hl2 : (0 : Int) ≤ ((k + 1 : Nat) : Int) := by omega
      have hl3 : ((k + 1 : Nat) : Int) ≤ (l.length : Int) := by omega
      have hall := rows_len (f := Ev.row) (n := 9) (fun _ => rfl) l
      have hall1 := rows_len (f := Ev.row) (n := 9) (fun _ => rfl) (l.take k)
      have hall2 := rows_len (f := Ev.row) (n := 9) (fun _ => rfl) (l.drop (k + 1))
      have htk : (l.map Ev.row).take k = (l.take k).map Ev.row := (List.map_take ..).symm
      have htk2 : (l.map Ev.row).take l.length = l.map Ev.row := List.take_of_length_le (by rw [List.length_map]; exact Nat.le_refl _)
      have hdr : (l.map Ev.row).drop (k + 1) = (l.drop (k + 1)).map Ev.row := (List.map_drop ..).symm
      have hlen2 : (l.take k).length + (l.drop (k + 1)).length ≤ 1000000 := by rw [List.length_take, List.length_drop]; omega
      have hmap : (l.take k).map Ev.row ++ (l.drop (k + 1)).map Ev.row = (l.take k ++ l.drop (k + 1)).map Ev.row := (List.map_append ..).symm
      simp only [↓evP, evB, stB, reduceIte, reduceCtorEq, Nat.reduceEqDiff, Nat.reduceAdd, Nat.reduceMul, Nat.reduceLeDiff, Nat.reduceLT, Nat.reduceSub, Nat.reduceBEq, evsPa, evsD, b1, b2, decide_true, decide_false]
      unfold pce6c3
      simp only [↓evP, evB, stB, reduceIte, reduceCtorEq, Nat.reduceEqDiff, Nat.reduceAdd, Nat.reduceMul, Nat.reduceLeDiff, Nat.reduceLT, Nat.reduceSub, Nat.reduceBEq, b1, b2, hw, hl0, hl1, hl2, hl3, hall, hall1, hall2, htk, htk2, hdr, hlen2, hmap, Int.le_refl, Int.toNat_zero]
      refine ⟨(by unfold Drw; kernel_rfl), ?_⟩
      exact excl_c2 (m := l.take k ++ l.drop (k + 1)) (by rw [List.length_append, List.length_take, List.length_drop]; omega) _ (fun st h => ⟨.inr rfl, h⟩) _ (by simp only [stB, reduceIte, reduceCtorEq, Nat.reduceEqDiff, Nat.reduceAdd, Nat.reduceMul, Nat.reduceLeDiff, Nat.reduceLT, Nat.reduceSub, Nat.reduceBEq, evsD])
    · simp only [↓evP, evB, stB, reduceIte, reduceCtorEq, Nat.reduceEqDiff, Nat.reduceAdd, Nat.reduceMul, Nat.reduceLeDiff, Nat.reduceLT, Nat.reduceSub, Nat.reduceBEq, evsPa, evsD, b1, b2, decide_true, decide_false]
      exact excl_c2 (m := l) (by omega) _ (fun st h => ⟨.inr rfl, h⟩) _ (by simp only [stB, reduceIte, reduceCtorEq, Nat.reduceEqDiff, Nat.reduceAdd, Nat.reduceMul, Nat.reduceLeDiff, Nat.reduceLT, Nat.reduceSub, Nat.reduceBEq, evsD])
  · simp only [↓evP, evB, stB, reduceIte, reduceCtorEq, Nat.reduceEqDiff, Nat.reduceAdd, Nat.reduceMul, Nat.reduceLeDiff, Nat.reduceLT, Nat.reduceSub, Nat.reduceBEq, evsPa, evsD, b1, decide_true, decide_false]
    exact excl_c2 (m := l) (by omega) _ (fun st h => ⟨.inr rfl, h⟩) _ (by simp only [stB, reduceIte, reduceCtorEq, Nat.reduceEqDiff, Nat.reduceAdd, Nat.reduceMul, Nat.reduceLeDiff, Nat.reduceLT, Nat.reduceSub, Nat.reduceBEq, evsD])
end Go.Proofs.Ytkdagjlkejefnaa
end
section
set_option linter.unusedSimpArgs false
set_option linter.unusedVariables false
namespace Go.Proofs.Ytkdagjlkejefnaa
open Go Go.RowKit Go.WideShapes Go.ChangeShapes Go.Deep

theorem trodAll_below {H : Type} {enc : TypeId × Value → H} {P : Program} (hl : laidOutB P = true) {W W' : World} (hb : Below W.heap.size W W') :
    ∀ {ts : List TypeId} {vs : List Value} {ds : List (DataW H)} {ps : List MemPlace}, (ts.all fun t => P.readableRec t && decide (t < P.types.size)) = true → DataW.TrodAll enc P W 0 (fun _ => true) true ts vs ds ps → DataW.TrodAll enc P W' 0 (fun b => decide (b < W.heap.size)) true ts vs ds ps
  | [], vs, ds, ps, _, h => by obtain ⟨rfl, rfl, rfl⟩ := trodAll_nil h; exact trodAll_mk0
  | t :: ts, vs, ds, ps, ht, h => by
    obtain ⟨v, vs', d, ds', p, q, rfl, rfl, rfl, h1, h2⟩ := trodAll_cons h
    simp only [List.all_cons, Bool.and_eq_true, decide_eq_true_eq] at ht
    have lt : ∀ x ∈ p, x.block < W.heap.size := by obtain ⟨m, hm⟩ := h1; exact DataW.trod_lt m _ _ _ hm
    exact trodAll_cons_mk (Below.trod hl ht.1.1 ht.1.2 h1 hb lt) (trodAll_below hl hb (by rw [Bool.eq_iff_iff] at *; simpa using ht.2) h2)

/-- a struct of numbers -/
theorem open_flat {H : Type} {enc : TypeId × Value → H} {P : Program} {w : World} {r : Reach} {b0 base : Nat} {spare : Nat → Bool} {held : Bool} {t : TypeId} {fs : Array Field} (ht : P.underlying t = some (.struct fs)) (hone : oneCellFields P fs = true) (hC : P.cellsOf t = fs.size)
    {tI : TypeId} (hI : P.underlying tI = some (.int .i64)) (hint0 : fs.toList.all (fun f => f.type == tI) = true) {n : Nat} (hn : fs.size = n) {v : Value} {d : DataW H} {ps : List MemPlace} (hv : Value.okWide P w r b0 t v) (h : DataW.Trod enc P w base spare held t v d ps) :
    ∃ l : List Int, l.length = n ∧ v = .agg (l.map (Value.int .i64)).toArray ∧ ∀ x, x ∈ l → -9223372036854775808 ≤ x ∧ x ≤ 9223372036854775807 := by
  have hint : ∀ (i : Nat) (f : Field), fs[i]? = some f → P.underlying f.type = some (.int .i64) := fun i f hf => by
    have h1 := List.all_eq_true.1 hint0 f (List.mem_of_getElem? (i := i) (by simpa using hf))
    rw [beq_iff_eq.1 h1]; exact hI
  subst hn
  obtain ⟨cs, rfl, hcs⟩ := okWide_struct ht hv
  obtain ⟨fuel, hf⟩ := h
  obtain ⟨xs, n, _, _, hl, hlen, hfs⟩ := DataW.trod_struct ht hf
  have key : ∀ i, ∃ x : Int, i < fs.size → cs[i]? = some (.int .i64 x) ∧ -9223372036854775808 ≤ x ∧ x ≤ 9223372036854775807 := by
    intro i
    by_cases hi : i < fs.size
    · have hfi : fs[i]? = some fs[i] := Array.getElem?_eq_getElem hi
      obtain ⟨ho, hk⟩ := hone_of hone i _ hfi
      have h1 := hfs i _ hfi
      rw [ho, hk] at h1
      have hic : i < cs.size := by omega
      have hone' : ((Value.agg cs).cells.toList.drop i).take 1 = [cs[i]'hic] := by
        show (cs.toList.drop i).take 1 = _
        rw [List.drop_eq_getElem_cons (by simpa using hic)]
        simp
      rw [hone'] at h1
      have hxs : xs[i]? = some (xs[i]'(by omega)) := List.getElem?_eq_getElem _
      rw [hxs] at h1
      obtain ⟨x, hx, hw⟩ := trod_int_field (hint i _ hfi) h1
      exact ⟨x, fun _ => ⟨by rw [Array.getElem?_eq_getElem hic, hx], i64_of_wf hw⟩⟩
    · exact ⟨0, fun h => absurd h hi⟩
  obtain ⟨g, hg⟩ := Classical.skolem.1 key
  refine ⟨(List.range fs.size).map g, by simp, ?_, fun x hx => ?_⟩
  · congr 1
    apply Array.ext_getElem?
    intro i
    simp only [List.getElem?_toArray, List.getElem?_map]
    rcases Nat.lt_or_ge i fs.size with hi | hi
    · rw [(hg i hi).1, List.getElem?_range hi]; rfl
    · rw [Array.getElem?_eq_none (by omega), List.getElem?_eq_none (by simpa using hi)]; rfl
  · simp only [List.mem_map, List.mem_range] at hx
    obtain ⟨i, hi, rfl⟩ := hx
    exact (hg i hi).2

theorem list_two {α : Type} {l : List α} (h : l.length = 2) : ∃ x y, l = [x, y] := by
  match l, h with
  | [x, y], _ => exact ⟨x, y, rfl⟩
theorem list_nine {l : List Int} (h : l.length = 9) : ∃ e : Ev, l.map (Value.int .i64) = e.cells := by
  match l, h with
  | [a, b, c, d, e, f, g, i, j], _ => exact ⟨⟨a, b, c, d, e, f, g, i, j⟩, rfl⟩
/-- what a contract on data that answers 'true' says of a call -/
theorem Spec.true [I : WInv] {P : Program} {f : Nat} {R : List Pa → List Pa → Prop} (hs : Spec P f R) {ps : List Pa} (hR : R ps [pB true]) {S : Nat → Nat} {w : World} {vals : Array Value} (hw : I.p w) (hv : RPs S w ps vals) :
    Calls P f vals w fun e w' => e = .returned (.bool true) ∧ Below w.heap.size w w' := by
  refine (hs ps _ hR S w vals hw hv).mono ?_
  rintro e w' ⟨v, S', rfl, h1, h2, _⟩
  exact ⟨by rw [RP.bool h1], h2⟩
end Go.Proofs.Ytkdagjlkejefnaa
end
