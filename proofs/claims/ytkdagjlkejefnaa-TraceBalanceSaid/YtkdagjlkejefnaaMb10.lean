/- The law of exclusion. -/
import Derived.Test.YtkdagjlkejefnaaMb9
import Derived.OpenShut
section
set_option linter.unusedSimpArgs false
set_option linter.unusedVariables false
namespace Go.Proofs.Ytkdagjlkejefnaa
open Go Go.RowKit
set_option maxRecDepth 100000
set_option maxHeartbeats 4000000

def env_tex : Env := e1 12 R_awake (e1 16 R_repair (e1 15 R_rvalid e0))
theorem env_tex_ok : EnvOK Try.prog env_tex := EnvOK.e1 s_awake (EnvOK.e1 s_repair (EnvOK.e1 s_tValid EnvOK.e0))
theorem bne_iff {a b : Int} (h : (a != b) = true) : a ≠ b := bne_iff_ne.1 h
theorem bne_not {a b : Int} (h : (a != b) = false) : ¬ a ≠ b := fun h' => by rw [bne_iff_ne.2 h'] at h; cases h
theorem excl_c2 {m : List Ev} (hm : m.length ≤ 100) (Q : Exit → St → Prop) (hQ : ∀ st, st.res pre6 = some [pB true] → Q .ret st) (st : St) (h5 : st.sl 5 = .b (.one (.d (evsD m)))) :
    pwp env_tex pce6c2 (exS env_tex [] Q) st := by
  unfold pce6c2
  simp only [evsD] at h5
  simp only [↓evP, evB, stB, reduceIte, reduceCtorEq, Nat.reduceEqDiff, Nat.reduceAdd, Nat.reduceMul, Nat.reduceLeDiff, Nat.reduceLT, Nat.reduceSub, Nat.reduceBEq, h5]
  refine callOps_intro [pB (decide (chk m = m.length))] ⟨m, rfl, by omega, rfl⟩ ?_
  by_cases hc : chk m = m.length
  · simp only [↓evP, evB, stB, reduceIte, reduceCtorEq, Nat.reduceEqDiff, Nat.reduceAdd, Nat.reduceMul, Nat.reduceLeDiff, Nat.reduceLT, Nat.reduceSub, Nat.reduceBEq, h5, hc, decide_true, decide_false]
    unfold pce6c1
    simp only [↓evP, evB, stB, reduceIte, reduceCtorEq, Nat.reduceEqDiff, Nat.reduceAdd, Nat.reduceMul, Nat.reduceLeDiff, Nat.reduceLT, Nat.reduceSub, Nat.reduceBEq, h5]
    refine pwp_fresh [5, 34, 35, 36] [] (fun S hs ho => ?_)
    simp only [stB, reduceIte, reduceCtorEq, Nat.reduceEqDiff, Nat.reduceAdd, Nat.reduceMul, Nat.reduceLeDiff, Nat.reduceLT, Nat.reduceSub, Nat.reduceBEq, h5] at hs ho
    obtain ⟨q5, q34, q35, q36⟩ := hs
    refine pwp_loopW mse6_0 ose6_0 (fun n st => ∃ i : Nat, n = m.length - i ∧ i ≤ m.length ∧ st.sl 36 = aI i) m.length ?_ ?_
    · exact ⟨0, rfl, Nat.zero_le _, q36⟩
    · rintro n z ⟨i, rfl, hi, h36⟩
      simp only [stB, reduceIte, reduceCtorEq, Nat.reduceEqDiff, Nat.reduceAdd, Nat.reduceMul, Nat.reduceLeDiff, Nat.reduceLT, Nat.reduceSub, Nat.reduceBEq] at h36
      rcases Nat.lt_or_ge i m.length with hlt | hge
      · obtain ⟨a, ha⟩ : ∃ a, m[i]? = some a := ⟨_, List.getElem?_eq_getElem hlt⟩
        have hlt' : (i : Int) < (m.length : Int) := by omega
        have hi0 : (0 : Int) ≤ (i : Int) := by omega
        have hw : IntKind.i64.wrap ((i : Int) + 1) = ((i + 1 : Nat) : Int) := wrN (by omega)
        have hl0 : (0 : Int) ≤ ((i + 1 : Nat) : Int) := by omega
        have hl1 : ((i + 1 : Nat) : Int) ≤ (m.length : Int) := by omega
        have hall := rows_len (f := Ev.row) (n := 9) (fun _ => rfl) m
        have htk : (m.map Ev.row).take m.length = m.map Ev.row := List.take_of_length_le (by rw [List.length_map]; exact Nat.le_refl _)
        have hdr : (m.map Ev.row).drop (i + 1) = (m.drop (i + 1)).map Ev.row := (List.map_drop ..).symm
        have hex := fun h6 => excl_valid hc ha h6
        simp only [↓evP, evB, stB, reduceIte, reduceCtorEq, Nat.reduceEqDiff, Nat.reduceAdd, Nat.reduceMul, Nat.reduceLeDiff, Nat.reduceLT, Nat.reduceSub, Nat.reduceBEq, q5, q34, q35, h36, hlt']
        unfold pce6c0
        cases k6 : (a.kind != 6) with
        | true =>
          simp only [↓evP, evB, stB, reduceIte, reduceCtorEq, Nat.reduceEqDiff, Nat.reduceAdd, Nat.reduceMul, Nat.reduceLeDiff, Nat.reduceLT, Nat.reduceSub, Nat.reduceBEq, q5, q34, q35, h36, hi0, ha, Ev.row, k6]
          exact ⟨_, by omega, (by repeat' (first | assumption | exact within_over.mpr trivial | exact Within.refl _ _ _ | (refine within_ap ?_ rfl rfl) | (refine within_ap0 ?_ rfl))), i + 1, rfl, hlt, by simp only [stB, reduceIte, reduceCtorEq, Nat.reduceEqDiff, Nat.reduceAdd, Nat.reduceMul, Nat.reduceLeDiff, Nat.reduceLT, Nat.reduceSub, Nat.reduceBEq, h36]; rw [wrN (by omega)]⟩
        | false =>
          have h6 : a.kind = 6 := by rw [bne_eq_false_iff_eq] at k6; exact k6
          have hex := hex h6
          simp only [↓evP, evB, stB, reduceIte, reduceCtorEq, Nat.reduceEqDiff, Nat.reduceAdd, Nat.reduceMul, Nat.reduceLeDiff, Nat.reduceLT, Nat.reduceSub, Nat.reduceBEq, q5, q34, q35, h36, hi0, ha, Ev.row, k6, hw, hl0, hl1, hall, htk, hdr, Int.le_refl]
          generalize hrest : m.drop (i + 1) = rest at *
          have hrl : rest.length ≤ 100 := by rw [← hrest, List.length_drop]; omega
          refine pwp_freshP (fun st => Within mse6_0 ose6_0 S st) (by repeat' (first | assumption | exact within_over.mpr trivial | exact Within.refl _ _ _ | (refine within_ap ?_ rfl rfl) | (refine within_ap0 ?_ rfl))) [5, 7, 34, 35, 36, 47, 48, 49] [7] (fun T hwT hs2 ho2 => ?_)
          simp only [stB, reduceIte, reduceCtorEq, Nat.reduceEqDiff, Nat.reduceAdd, Nat.reduceMul, Nat.reduceLeDiff, Nat.reduceLT, Nat.reduceSub, Nat.reduceBEq, q5, q34, q35, h36] at hs2 ho2
          obtain ⟨p5, p7, p34, p35, p36, p47, p48, p49⟩ := hs2
          obtain ⟨r7, t7⟩ := ho2
          refine pwp_loopW mse6_1 ose6_1 (fun n st => ∃ k : Nat, n = rest.length - k ∧ k ≤ rest.length ∧ exclIn a.obj a.off (rest.drop k) = true ∧ st.sl 49 = aI k) rest.length ?_ ?_
          · exact ⟨0, rfl, Nat.zero_le _, hex, p49⟩
          · rintro n2 z2 ⟨k, rfl, hk, hxk, h49⟩
            simp only [stB, reduceIte, reduceCtorEq, Nat.reduceEqDiff, Nat.reduceAdd, Nat.reduceMul, Nat.reduceLeDiff, Nat.reduceLT, Nat.reduceSub, Nat.reduceBEq] at h49
            rcases Nat.lt_or_ge k rest.length with hkl | hkg
            · obtain ⟨b, hb⟩ : ∃ b, rest[k]? = some b := ⟨_, List.getElem?_eq_getElem hkl⟩
              have hd : rest.drop k = b :: rest.drop (k + 1) := by rw [List.drop_eq_getElem_cons hkl]; congr 1; rw [List.getElem?_eq_getElem hkl] at hb; exact Option.some.inj hb
              rw [hd] at hxk
              simp only [exclIn] at hxk
              have hkl' : (k : Int) < (rest.length : Int) := by omega
              have hk0 : (0 : Int) ≤ (k : Int) := by omega
              cases o1 : (b.obj != a.obj) with
              | true =>
                rw [if_pos (bne_iff o1)] at hxk
                simp only [↓evP, evB, stB, reduceIte, reduceCtorEq, Nat.reduceEqDiff, Nat.reduceAdd, Nat.reduceMul, Nat.reduceLeDiff, Nat.reduceLT, Nat.reduceSub, Nat.reduceBEq, p5, p7, p34, p35, p36, p47, p48, h49, r7, t7, hkl', hk0, hb, Ev.row, o1]
                exact ⟨_, by omega, (by repeat' (first | assumption | exact within_over.mpr trivial | exact Within.refl _ _ _ | (refine within_ap ?_ rfl rfl) | (refine within_ap0 ?_ rfl))), k + 1, rfl, hkl, hxk, by simp only [stB, reduceIte, reduceCtorEq, Nat.reduceEqDiff, Nat.reduceAdd, Nat.reduceMul, Nat.reduceLeDiff, Nat.reduceLT, Nat.reduceSub, Nat.reduceBEq, h49]; rw [wrN (by omega)]⟩
              | false =>
              rw [if_neg (bne_not o1)] at hxk
              cases o2 : (b.off != a.off) with
              | true =>
                rw [if_pos (bne_iff o2)] at hxk
                simp only [↓evP, evB, stB, reduceIte, reduceCtorEq, Nat.reduceEqDiff, Nat.reduceAdd, Nat.reduceMul, Nat.reduceLeDiff, Nat.reduceLT, Nat.reduceSub, Nat.reduceBEq, p5, p7, p34, p35, p36, p47, p48, h49, r7, t7, hkl', hk0, hb, Ev.row, o1, o2]
                exact ⟨_, by omega, (by repeat' (first | assumption | exact within_over.mpr trivial | exact Within.refl _ _ _ | (refine within_ap ?_ rfl rfl) | (refine within_ap0 ?_ rfl))), k + 1, rfl, hkl, hxk, by simp only [stB, reduceIte, reduceCtorEq, Nat.reduceEqDiff, Nat.reduceAdd, Nat.reduceMul, Nat.reduceLeDiff, Nat.reduceLT, Nat.reduceSub, Nat.reduceBEq, h49]; rw [wrN (by omega)]⟩
              | false =>
              rw [if_neg (bne_not o2)] at hxk
              cases b6 : (b.kind == 6) with
              | true => rw [if_pos (.inl (beq_iff_eq.1 b6))] at hxk; cases hxk
              | false =>
              cases b8 : (b.kind == 8) with
              | true => rw [if_pos (.inr (beq_iff_eq.1 b8))] at hxk; cases hxk
              | false =>
              rw [if_neg (fun h => h.elim (beq_eq_false_iff_ne.1 b6) (beq_eq_false_iff_ne.1 b8))] at hxk
              cases b7 : (b.kind == 7) with
              | true =>
                simp only [↓evP, evB, stB, reduceIte, reduceCtorEq, Nat.reduceEqDiff, Nat.reduceAdd, Nat.reduceMul, Nat.reduceLeDiff, Nat.reduceLT, Nat.reduceSub, Nat.reduceBEq, p5, p7, p34, p35, p36, p47, p48, h49, r7, t7, hkl', hk0, hb, Ev.row, o1, o2, b6, b8, b7]
                exact ⟨_, by omega, (by repeat' (first | assumption | exact within_over.mpr trivial | (refine within_ap ?_ rfl rfl) | (refine within_ap0 ?_ rfl) | refine within_in ?_ (by decide) (by decide))), i + 1, rfl, hlt, by simp only [stB, reduceIte, reduceCtorEq, Nat.reduceEqDiff, Nat.reduceAdd, Nat.reduceMul, Nat.reduceLeDiff, Nat.reduceLT, Nat.reduceSub, Nat.reduceBEq, p36]; rw [wrN (by omega)]⟩
              | false =>
                rw [if_neg (beq_eq_false_iff_ne.1 b7)] at hxk
                simp only [↓evP, evB, stB, reduceIte, reduceCtorEq, Nat.reduceEqDiff, Nat.reduceAdd, Nat.reduceMul, Nat.reduceLeDiff, Nat.reduceLT, Nat.reduceSub, Nat.reduceBEq, p5, p7, p34, p35, p36, p47, p48, h49, r7, t7, hkl', hk0, hb, Ev.row, o1, o2, b6, b8, b7]
                exact ⟨_, by omega, (by repeat' (first | assumption | exact within_over.mpr trivial | exact Within.refl _ _ _ | (refine within_ap ?_ rfl rfl) | (refine within_ap0 ?_ rfl))), k + 1, rfl, hkl, hxk, by simp only [stB, reduceIte, reduceCtorEq, Nat.reduceEqDiff, Nat.reduceAdd, Nat.reduceMul, Nat.reduceLeDiff, Nat.reduceLT, Nat.reduceSub, Nat.reduceBEq, h49]; rw [wrN (by omega)]⟩
            · have hkk : k = rest.length := by omega
              subst hkk
              have hkl' : ¬ (rest.length : Int) < (rest.length : Int) := by omega
              simp only [↓evP, evB, stB, reduceIte, reduceCtorEq, Nat.reduceEqDiff, Nat.reduceAdd, Nat.reduceMul, Nat.reduceLeDiff, Nat.reduceLT, Nat.reduceSub, Nat.reduceBEq, p5, p7, p34, p35, p36, p47, p48, h49, r7, t7, hkl']
              exact ⟨_, by omega, (by repeat' (first | assumption | exact within_over.mpr trivial | (refine within_ap ?_ rfl rfl) | (refine within_ap0 ?_ rfl) | refine within_in ?_ (by decide) (by decide))), i + 1, rfl, hlt, by simp only [stB, reduceIte, reduceCtorEq, Nat.reduceEqDiff, Nat.reduceAdd, Nat.reduceMul, Nat.reduceLeDiff, Nat.reduceLT, Nat.reduceSub, Nat.reduceBEq, p36]; rw [wrN (by omega)]⟩
      · have hil : i = m.length := by omega
        subst hil
        have hlt' : ¬ (m.length : Int) < (m.length : Int) := by omega
        simp only [↓evP, evB, stB, reduceIte, reduceCtorEq, Nat.reduceEqDiff, Nat.reduceAdd, Nat.reduceMul, Nat.reduceLeDiff, Nat.reduceLT, Nat.reduceSub, Nat.reduceBEq, q5, q34, q35, h36, hlt']
        exact hQ _ (by simp only [stB, reduceIte, reduceCtorEq, Nat.reduceEqDiff, Nat.reduceAdd, Nat.reduceMul, Nat.reduceLeDiff, Nat.reduceLT, Nat.reduceSub, Nat.reduceBEq, pre6])
  · simp only [↓evP, evB, stB, reduceIte, reduceCtorEq, Nat.reduceEqDiff, Nat.reduceAdd, Nat.reduceMul, Nat.reduceLeDiff, Nat.reduceLT, Nat.reduceSub, Nat.reduceBEq, h5, hc, decide_true, decide_false]
    exact hQ _ (by simp only [stB, reduceIte, reduceCtorEq, Nat.reduceEqDiff, Nat.reduceAdd, Nat.reduceMul, Nat.reduceLeDiff, Nat.reduceLT, Nat.reduceSub, Nat.reduceBEq, pre6])

def dropAt (l : List Ev) (n : Int) : List Ev := if 0 ≤ n ∧ n < (l.length : Int) then l.take n.toNat ++ l.drop (n.toNat + 1) else l
theorem dropAt_le (l : List Ev) (n : Int) : (dropAt l n).length ≤ l.length := by
  unfold dropAt
  split
  · rw [List.length_append, List.length_take, List.length_drop]; omega
  · exact Nat.le_refl _
def R_texcl (ps rs : List Pa) : Prop := ∃ (l : List Ev) (n : Int), ps = [evsPa l, pI n] ∧ l.length ≤ 9223372036854775807 ∧ rs = [pB true]
theorem s_texcl : Spec Try.prog 6 R_texcl := by
  refine spe6 env_tex_ok ?_
  rintro ps rs ⟨raw, n, rfl, hlen, rfl⟩
  refine ⟨by simp, ?_⟩
  obtain ⟨_, _, hl⟩ := repair_good raw
  unfold pce6
  refine pwp_start ?_
  simp only [↓evP, evB, stB, reduceIte, reduceCtorEq, Nat.reduceEqDiff, Nat.reduceAdd, Nat.reduceMul, Nat.reduceLeDiff, Nat.reduceLT, Nat.reduceSub, Nat.reduceBEq, evsPa, evsD]
  refine callOps_intro [pB true] ⟨rfl, rfl⟩ ?_
  simp only [↓evP, evB, stB, reduceIte, reduceCtorEq, Nat.reduceEqDiff, Nat.reduceAdd, Nat.reduceMul, Nat.reduceLeDiff, Nat.reduceLT, Nat.reduceSub, Nat.reduceBEq]
  refine callOps_intro [evsPa (repairL raw)] ⟨raw, rfl, hlen, rfl⟩ ?_
  generalize repairL raw = l at *
  by_cases b1 : n ≥ 0
  · by_cases b2 : n < (l.length : Int)
    · obtain ⟨k, rfl⟩ := Int.eq_ofNat_of_zero_le b1
      have hw : IntKind.i64.wrap ((k : Int) + 1) = ((k + 1 : Nat) : Int) := wrN (by omega)
      have hl0 : (0 : Int) ≤ (k : Int) := by omega
      have hl1 : (k : Int) ≤ (l.length : Int) := by omega
      have hl2 : (0 : Int) ≤ ((k + 1 : Nat) : Int) := by omega
      have hl3 : ((k + 1 : Nat) : Int) ≤ (l.length : Int) := by omega
      have hall := rows_len (f := Ev.row) (n := 9) (fun _ => rfl) l
      have hall1 := rows_len (f := Ev.row) (n := 9) (fun _ => rfl) (l.take k)
      have hall2 := rows_len (f := Ev.row) (n := 9) (fun _ => rfl) (l.drop (k + 1))
      have htk : (l.map Ev.row).take k = (l.take k).map Ev.row := (List.map_take ..).symm
      have htk2 : (l.map Ev.row).take l.length = l.map Ev.row := List.take_of_length_le (by rw [List.length_map]; exact Nat.le_refl _)
      have hdr : (l.map Ev.row).drop (k + 1) = (l.drop (k + 1)).map Ev.row := (List.map_drop ..).symm
      have hlen2 : (l.take k).length + (l.drop (k + 1)).length ≤ 1000000 := by rw [List.length_take, List.length_drop]; omega
      have hmap : (l.take k).map Ev.row ++ (l.drop (k + 1)).map Ev.row = (l.take k ++ l.drop (k + 1)).map Ev.row := (List.map_append ..).symm
      simp only [↓evP, evB, stB, reduceIte, reduceCtorEq, Nat.reduceEqDiff, Nat.reduceAdd, Nat.reduceMul, Nat.reduceLeDiff, Nat.reduceLT, Nat.reduceSub, Nat.reduceBEq, evsPa, evsD, b1, b2, decide_true, decide_false]
      unfold pce6c3
      simp only [↓evP, evB, stB, reduceIte, reduceCtorEq, Nat.reduceEqDiff, Nat.reduceAdd, Nat.reduceMul, Nat.reduceLeDiff, Nat.reduceLT, Nat.reduceSub, Nat.reduceBEq, b1, b2, hw, hl0, hl1, hl2, hl3, hall, hall1, hall2, htk, htk2, hdr, hlen2, hmap, Int.le_refl, Int.toNat_zero]
      refine ⟨(by unfold Drw; kernel_rfl), ?_⟩
      exact excl_c2 (m := l.take k ++ l.drop (k + 1)) (by rw [List.length_append, List.length_take, List.length_drop]; omega) _ (fun st h => ⟨.inr rfl, h⟩) _ (by simp only [stB, reduceIte, reduceCtorEq, Nat.reduceEqDiff, Nat.reduceAdd, Nat.reduceMul, Nat.reduceLeDiff, Nat.reduceLT, Nat.reduceSub, Nat.reduceBEq, evsD])
    · simp only [↓evP, evB, stB, reduceIte, reduceCtorEq, Nat.reduceEqDiff, Nat.reduceAdd, Nat.reduceMul, Nat.reduceLeDiff, Nat.reduceLT, Nat.reduceSub, Nat.reduceBEq, evsPa, evsD, b1, b2, decide_true, decide_false]
      exact excl_c2 (m := l) (by omega) _ (fun st h => ⟨.inr rfl, h⟩) _ (by simp only [stB, reduceIte, reduceCtorEq, Nat.reduceEqDiff, Nat.reduceAdd, Nat.reduceMul, Nat.reduceLeDiff, Nat.reduceLT, Nat.reduceSub, Nat.reduceBEq, evsD])
  · simp only [↓evP, evB, stB, reduceIte, reduceCtorEq, Nat.reduceEqDiff, Nat.reduceAdd, Nat.reduceMul, Nat.reduceLeDiff, Nat.reduceLT, Nat.reduceSub, Nat.reduceBEq, evsPa, evsD, b1, decide_true, decide_false]
    exact excl_c2 (m := l) (by omega) _ (fun st h => ⟨.inr rfl, h⟩) _ (by simp only [stB, reduceIte, reduceCtorEq, Nat.reduceEqDiff, Nat.reduceAdd, Nat.reduceMul, Nat.reduceLeDiff, Nat.reduceLT, Nat.reduceSub, Nat.reduceBEq, evsD])
end Go.Proofs.Ytkdagjlkejefnaa
end
section
set_option linter.unusedSimpArgs false
set_option linter.unusedVariables false
namespace Go.Proofs.Ytkdagjlkejefnaa
open Go

def TS.w15 (t : TS) (x : Int) : Int := if x = t.grp.obj ∧ t.grp.kinds.headD 0 = 15 then 1 else 0
def TS.w17 (t : TS) (x : Int) : Int := if x = t.grp.obj ∧ t.grp.kinds.headD 0 = 17 then 1 else 0
structure TBal (t : TS) : Prop where
  a : ∀ x c, t.chans x = some c → c.sent + t.w15 x ≤ c.recv + c.cap + t.w17 x
  b : ∀ x c, t.chans x = some c → c.recv + t.w17 x ≤ c.sent + t.w15 x
  op : t.isOpen = true → ∃ c, t.chans t.grp.obj = some c ∧ c.cap = t.grp.n
theorem TBal.new : TBal TS.new := ⟨fun _ _ h => (by cases h), fun _ _ h => (by cases h), fun h => (by cases h)⟩
def TS.sentOf (t : TS) (x : Int) : Int := ((t.chans x).getD ch0).sent
def TS.recvOf (t : TS) (x : Int) : Int := ((t.chans x).getD ch0).recv
structure TCnt (t u : TS) (e : Ev) : Prop where
  s : ∀ x, u.sentOf x = t.sentOf x + if e.obj = x ∧ e.kind = 15 then 1 else 0
  r : ∀ x, u.recvOf x = t.recvOf x + if e.obj = x ∧ e.kind = 17 then 1 else 0
theorem count_sent (c : Ch) (k : Int) : (c.count k).sent = c.sent + if k = 15 then 1 else 0 := by
  unfold Ch.count; split
  · rfl
  · split <;> simp
theorem count_recv (c : Ch) (k : Int) : (c.count k).recv = c.recv + if k = 17 then 1 else 0 := by
  unfold Ch.count; split
  · rename_i h; rw [if_neg (by omega)]; simp
  · split
    · rfl
    · simp
theorem count_cap (c : Ch) (k : Int) : (c.count k).cap = c.cap := by
  unfold Ch.count; split
  · rfl
  · split <;> rfl
/-- the counts when the channel of the event is counted -/
theorem cnt_upd {t : TS} {e : Ev} {c : Ch} (hs : c.sent = t.sentOf e.obj) (hr : c.recv = t.recvOf e.obj) {v : TS} (hv : v.chans = upd t.chans e.obj (c.count e.kind)) : TCnt t v e := by
  refine ⟨fun x => ?_, fun x => ?_⟩
  · unfold TS.sentOf; rw [hv]
    by_cases hx : x = e.obj
    · subst hx; rw [upd_same]; simp only [Option.getD_some]; rw [count_sent, hs]; unfold TS.sentOf; simp
    · rw [upd_other _ _ hx, if_neg (fun h => hx h.1.symm)]; simp
  · unfold TS.recvOf; rw [hv]
    by_cases hx : x = e.obj
    · subst hx; rw [upd_same]; simp only [Option.getD_some]; rw [count_recv, hr]; unfold TS.recvOf; simp
    · rw [upd_other _ _ hx, if_neg (fun h => hx h.1.symm)]; simp
theorem cnt_same {t v : TS} {e : Ev} (h5 : e.kind ≠ 15) (h7 : e.kind ≠ 17) (hs : ∀ x, v.sentOf x = t.sentOf x) (hr : ∀ x, v.recvOf x = t.recvOf x) : TCnt t v e :=
  ⟨fun x => by rw [hs, if_neg (fun h => h5 h.2)]; simp, fun x => by rw [hr, if_neg (fun h => h7 h.2)]; simp⟩
theorem chan_sent {t : TS} (e : Ev) : (t.chan e).sent = t.sentOf e.obj ∧ (t.chan e).recv = t.recvOf e.obj := by
  unfold TS.chan TS.sentOf TS.recvOf
  cases t.chans e.obj with
  | none => exact ⟨rfl, rfl⟩
  | some c => exact ⟨rfl, rfl⟩
theorem closed_w {r : RSt} {t : TS} (h : Rel r t) (ho : t.isOpen = false) (x : Int) : t.w15 x = 0 ∧ t.w17 x = 0 := by
  have hk : t.grp.kinds = [] := by
    unfold TS.isOpen at ho
    cases hk : t.grp.kinds with
    | nil => rfl
    | cons a l => rw [hk] at ho; simp at ho
  unfold TS.w15 TS.w17
  rw [hk]
  exact ⟨if_neg (fun h => by simp at h), if_neg (fun h => by simp at h)⟩
/-- what is known of the channel of an event of a closed group -/
theorem chan_bal {r : RSt} {t : TS} (h : Rel r t) (hb : TBal t) (ho : t.isOpen = false) {e : Ev} (hn : 0 ≤ e.n) : (t.chan e).sent ≤ (t.chan e).recv + (t.chan e).cap ∧ (t.chan e).recv ≤ (t.chan e).sent := by
  unfold TS.chan
  cases hc : t.chans e.obj with
  | none => exact ⟨by show (0 : Int) ≤ 0 + e.n; omega, Int.le_refl _⟩
  | some c =>
    have h1 := hb.a _ _ hc
    have h2 := hb.b _ _ hc
    obtain ⟨w1, w2⟩ := closed_w h ho e.obj
    rw [w1, w2] at h1 h2
    dsimp only
    exact ⟨by omega, by omega⟩
/-- a channel put at the place of an event; the others stay -/
theorem bal_put {r : RSt} {t : TS} (h : Rel r t) (hb : TBal t) (ho : t.isOpen = false) {e : Ev} {c : Ch} {v : TS} (hv : v.chans = upd t.chans e.obj c) (hw : ∀ x, x ≠ e.obj → v.w15 x = 0 ∧ v.w17 x = 0)
    (ha : c.sent + v.w15 e.obj ≤ c.recv + c.cap + v.w17 e.obj) (hbb : c.recv + v.w17 e.obj ≤ c.sent + v.w15 e.obj) (hop : v.isOpen = true → v.grp.obj = e.obj ∧ c.cap = v.grp.n) : TBal v := by
  have oth : ∀ x d, x ≠ e.obj → v.chans x = some d → d.sent ≤ d.recv + d.cap ∧ d.recv ≤ d.sent := fun x d hx hd => by
    rw [hv, upd_other _ _ hx] at hd
    have h1 := hb.a _ _ hd
    have h2 := hb.b _ _ hd
    obtain ⟨w1, w2⟩ := closed_w h ho x
    rw [w1, w2] at h1 h2
    exact ⟨by omega, by omega⟩
  refine ⟨fun x d hd => ?_, fun x d hd => ?_, fun ho' => ?_⟩
  · by_cases hx : x = e.obj
    · subst hx; rw [hv, upd_same] at hd; cases hd; exact ha
    · obtain ⟨w1, w2⟩ := hw x hx
      have := oth x d hx hd; omega
  · by_cases hx : x = e.obj
    · subst hx; rw [hv, upd_same] at hd; cases hd; exact hbb
    · obtain ⟨w1, w2⟩ := hw x hx
      have := oth x d hx hd; omega
  · obtain ⟨h1, h2⟩ := hop ho'
    exact ⟨c, by rw [h1, hv, upd_same], h2⟩
theorem bal_operate {r : RSt} {t : TS} (h : Rel r t) (hb : TBal t) (ho : t.isOpen = false) {e : Ev} (hn : 0 ≤ e.n) {v : TS} (hv : t.operate e = some v) : TBal v ∧ TCnt t v e ∧ ∃ c, v.chans e.obj = some c ∧ c.cap = e.n := by
  have hcb := chan_bal h hb ho hn
  obtain ⟨hs, hr⟩ := chan_sent (t := t) e
  unfold TS.operate at hv
  dsimp only at hv
  split at hv
  · cases hv
  rename_i hcap
  have hcap : (t.chan e).cap = e.n := by simpa using hcap
  have hstart : ∀ ks a b, (ks.headD 0 = 15 ∨ ks.headD 0 = 17 ∨ (ks.headD 0 ≠ 15 ∧ ks.headD 0 ≠ 17)) → v = t.start e (t.chan e) ks a b →
      ((t.chan e).count e.kind).sent + (if ks.headD 0 = 15 then 1 else 0) ≤ ((t.chan e).count e.kind).recv + (t.chan e).cap + (if ks.headD 0 = 17 then 1 else 0) →
      ((t.chan e).count e.kind).recv + (if ks.headD 0 = 17 then 1 else 0) ≤ ((t.chan e).count e.kind).sent + (if ks.headD 0 = 15 then 1 else 0) → TBal v ∧ TCnt t v e ∧ ∃ c, v.chans e.obj = some c ∧ c.cap = e.n := fun ks a b _ hve h1 h2 => by
    subst hve
    have w1 : (t.start e (t.chan e) ks a b).w15 e.obj = if ks.headD 0 = 15 then 1 else 0 := by
      show (if e.obj = e.obj ∧ ks.headD 0 = 15 then (1 : Int) else 0) = _
      simp
    have w2 : (t.start e (t.chan e) ks a b).w17 e.obj = if ks.headD 0 = 17 then 1 else 0 := by
      show (if e.obj = e.obj ∧ ks.headD 0 = 17 then (1 : Int) else 0) = _
      simp
    refine ⟨bal_put (e := e) h hb ho rfl (fun x hx => ⟨if_neg (fun hh => hx hh.1), if_neg (fun hh => hx hh.1)⟩) (by rw [w1, w2, count_cap]; exact h1) (by rw [w1, w2]; exact h2) (fun _ => ⟨rfl, by rw [count_cap]; exact hcap⟩), cnt_upd hs hr rfl, _, upd_same _ _ _, by rw [count_cap]; exact hcap⟩
  split at hv
  · rename_i k19
    split at hv
    · cases hv
    · cases hv
      refine ⟨bal_put (e := e) (c := { t.chan e with closed := true }) h hb ho rfl (fun x _ => closed_w h ho x) ?_ ?_ (fun ho' => absurd (show t.isOpen = true from ho') (by rw [ho]; decide)), cnt_same (by omega) (by omega) (fun x => ?_) (fun x => ?_), _, upd_same _ _ _, hcap⟩
      · have := closed_w h ho e.obj
        show (t.chan e).sent + t.w15 e.obj ≤ (t.chan e).recv + (t.chan e).cap + t.w17 e.obj
        omega
      · have := closed_w h ho e.obj
        show (t.chan e).recv + t.w17 e.obj ≤ (t.chan e).sent + t.w15 e.obj
        omega
      · unfold TS.sentOf
        dsimp only
        by_cases hx : x = e.obj
        · subst hx; rw [upd_same]; exact hs
        · rw [upd_other _ _ hx]
      · unfold TS.recvOf
        dsimp only
        by_cases hx : x = e.obj
        · subst hx; rw [upd_same]; exact hr
        · rw [upd_other _ _ hx]
  · split at hv
    · rename_i k20
      split at hv
      · rename_i hcl
        cases hv
        refine ⟨hb, cnt_same (by omega) (by omega) (fun _ => rfl) (fun _ => rfl), ?_⟩
        cases hc : t.chans e.obj with
        | none => unfold TS.chan at hcl; rw [hc] at hcl; cases hcl.1
        | some c => exact ⟨c, rfl, by unfold TS.chan at hcap; rw [hc] at hcap; exact hcap⟩
      · cases hv
    · split at hv
      · rename_i k15
        split at hv
        · cases hv
        · simp only [Option.map_eq_some_iff] at hv
          obtain ⟨ks, hm, rfl⟩ := hv
          unfold Ch.missing at hm
          rw [if_pos rfl] at hm
          split at hm
          · rename_i hlt
            cases hm
            exact hstart _ _ _ (by decide) rfl (by rw [count_sent, count_recv]; simp [k15]; omega) (by rw [count_sent, count_recv]; simp [k15]; omega)
          · split at hm
            · rename_i hc0
              cases hm
              exact hstart _ _ _ (by decide) rfl (by rw [count_sent, count_recv]; simp [k15]; omega) (by rw [count_sent, count_recv]; simp [k15]; omega)
            · cases hm
      · split at hv
        · rename_i k17
          split at hv
          · cases hv
          · simp only [Option.map_eq_some_iff] at hv
            obtain ⟨ks, hm, rfl⟩ := hv
            unfold Ch.missing at hm
            rw [if_neg (by decide)] at hm
            split at hm
            · rename_i hlt
              cases hm
              exact hstart _ _ _ (by decide) rfl (by rw [count_sent, count_recv]; simp [k17]; omega) (by rw [count_sent, count_recv]; simp [k17]; omega)
            · split at hm
              · cases hm
                exact hstart _ _ _ (by decide) rfl (by rw [count_sent, count_recv]; simp [k17]; omega) (by rw [count_sent, count_recv]; simp [k17]; omega)
              · cases hm
        · cases hv
theorem bal_simple {t : TS} (hb : TBal t) {e : Ev} (hk : chanB e.kind = false) {v : TS} (hv : t.simple e = some v) : TBal v ∧ TCnt t v e := by
  have hk' : e.kind ≠ 15 ∧ e.kind ≠ 17 := by
    unfold chanB at hk
    simp only [decide_eq_false_iff_not] at hk
    omega
  have h : v.chans = t.chans ∧ v.grp = t.grp := by
    unfold TS.simple at hv
    dsimp only at hv
    repeat' split at hv
    all_goals first
      | (cases hv; done)
      | (cases hv; exact ⟨rfl, rfl⟩)
  obtain ⟨h1, h2⟩ := h
  have w15 : ∀ x, v.w15 x = t.w15 x := fun x => by unfold TS.w15; rw [h2]
  have w17 : ∀ x, v.w17 x = t.w17 x := fun x => by unfold TS.w17; rw [h2]
  refine ⟨⟨fun x c hc => ?_, fun x c hc => ?_, fun ho => ?_⟩, cnt_same hk'.1 hk'.2 (fun x => by unfold TS.sentOf; rw [h1]) (fun x => by unfold TS.recvOf; rw [h1])⟩
  · rw [w15, w17]; rw [h1] at hc; exact hb.a x c hc
  · rw [w15, w17]; rw [h1] at hc; exact hb.b x c hc
  · rw [h1, h2]; exact hb.op (by unfold TS.isOpen at ho ⊢; rw [h2] at ho; exact ho)
theorem bal_proceed {r : RSt} {t : TS} (h : Rel r t) (hb : TBal t) (ho : t.isOpen = true) {e : Ev} {v : TS} (hv : t.proceed e = some v) : TBal v ∧ TCnt t v e ∧ ∃ c, v.chans e.obj = some c ∧ c.cap = e.n := by
  obtain ⟨hf, rfl⟩ := proceed_eq hv
  unfold Grp.fits at hf
  simp only [Bool.and_eq_true, decide_eq_true_eq] at hf
  obtain ⟨⟨hk, hobj, hkk, hn⟩, _⟩ := hf
  obtain ⟨c, hc, hcap⟩ := hb.op ho
  have hgn : (t.grp.next e).obj = t.grp.obj ∧ (t.grp.next e).n = t.grp.n ∧ (t.grp.next e).kinds = t.grp.kinds.tail := by unfold Grp.next; split <;> exact ⟨rfl, rfl, rfl⟩
  obtain ⟨g1, g2, g3⟩ := hgn
  rw [← hobj] at hc
  have hch : (t.count e).chans = upd t.chans e.obj (c.count e.kind) := by unfold TS.count; dsimp only; rw [hc]; rfl
  have hh : (t.grp.kinds.headD 0 = 15 ∨ t.grp.kinds.headD 0 = 16 ∨ t.grp.kinds.headD 0 = 17 ∨ t.grp.kinds.headD 0 = 18) ∧ t.grp.kinds.tail.headD 0 ≠ 15 ∧ t.grp.kinds.tail.headD 0 ≠ 17 := by
    have hg := h.gp
    unfold TS.isOpen at ho
    generalize r.next = nx at hg
    generalize t.grp.snd = sa at hg
    generalize t.grp.rcv = sb at hg
    generalize t.grp.kinds = ks at hg ho ⊢
    cases hg <;> simp at ho ⊢
  have hek : e.kind = 15 ∨ e.kind = 16 ∨ e.kind = 17 ∨ e.kind = 18 := by rw [hk]; exact hh.1
  have hA := hb.a _ _ hc
  have hB := hb.b _ _ hc
  have e15 : t.w15 e.obj = if e.kind = 15 then 1 else 0 := by unfold TS.w15; rw [hk]; simp [hobj]
  have e17 : t.w17 e.obj = if e.kind = 17 then 1 else 0 := by unfold TS.w17; rw [hk]; simp [hobj]
  rw [e15, e17] at hA hB
  have n15 : ∀ x, TS.w15 { t.count e with grp := t.grp.next e } x = 0 := fun x => by unfold TS.w15; dsimp only; rw [g3]; exact if_neg (fun hx => hh.2.1 hx.2)
  have n17 : ∀ x, TS.w17 { t.count e with grp := t.grp.next e } x = 0 := fun x => by unfold TS.w17; dsimp only; rw [g3]; exact if_neg (fun hx => hh.2.2 hx.2)
  have o15 : ∀ x, x ≠ e.obj → t.w15 x = 0 := fun x hx => if_neg (fun hh => hx (by rw [hobj]; exact hh.1))
  have o17 : ∀ x, x ≠ e.obj → t.w17 x = 0 := fun x hx => if_neg (fun hh => hx (by rw [hobj]; exact hh.1))
  refine ⟨⟨fun x d hd => ?_, fun x d hd => ?_, fun _ => ?_⟩, cnt_upd (c := c) (by unfold TS.sentOf; rw [hc]; rfl) (by unfold TS.recvOf; rw [hc]; rfl) hch, c.count e.kind, by show (t.count e).chans e.obj = _; rw [hch, upd_same], by rw [count_cap, hcap, hn]⟩
  · rw [n15, n17]
    have hd : (t.count e).chans x = some d := hd
    by_cases hx : x = e.obj
    · subst hx
      rw [hch, upd_same] at hd; cases hd
      rw [count_sent, count_recv, count_cap]
      rcases hek with q | q | q | q <;> rw [q] at hA hB ⊢ <;> simp at hA hB ⊢ <;> omega
    · rw [hch, upd_other _ _ hx] at hd
      have := hb.a _ _ hd
      rw [o15 x hx, o17 x hx] at this
      exact this
  · rw [n15, n17]
    have hd : (t.count e).chans x = some d := hd
    by_cases hx : x = e.obj
    · subst hx
      rw [hch, upd_same] at hd; cases hd
      rw [count_sent, count_recv]
      rcases hek with q | q | q | q <;> rw [q] at hA hB ⊢ <;> simp at hA hB ⊢ <;> omega
    · rw [hch, upd_other _ _ hx] at hd
      have := hb.b _ _ hd
      rw [o15 x hx, o17 x hx] at this
      exact this
  · refine ⟨c.count e.kind, ?_, ?_⟩
    · show (t.count e).chans (t.grp.next e).obj = _
      rw [g1, ← hobj, hch, upd_same]
    · rw [count_cap, hcap]; show _ = (t.grp.next e).n; rw [g2]

theorem bal_add {r : RSt} {t u : TS} (h : Rel r t) (hb : TBal t) {e : Ev} (ha : t.add e = some u) : TBal u ∧ TCnt t u e ∧ (chanB e.kind = true → ∃ c, u.chans e.obj = some c ∧ c.cap = e.n) := by
  obtain ⟨hv, v, rfl, hc⟩ := add_cases ha
  have hn := (Ev.valid_n hv).1
  have lift : TBal v → TBal { v with events := v.events + 1 } := fun h => ⟨h.a, h.b, h.op⟩
  have liftc : TCnt t v e → TCnt t { v with events := v.events + 1 } e := fun h => ⟨h.s, h.r⟩
  rcases hc with ⟨ho, hc⟩ | ⟨ho, hk, hc⟩ | ⟨ho, hk, hc⟩
  · obtain ⟨h1, h2, h3⟩ := bal_proceed h hb ho hc
    exact ⟨lift h1, liftc h2, fun _ => h3⟩
  · obtain ⟨h1, h2, h3⟩ := bal_operate h hb ho hn hc
    exact ⟨lift h1, liftc h2, fun _ => h3⟩
  · obtain ⟨h1, h2⟩ := bal_simple hb hk hc
    exact ⟨lift h1, liftc h2, fun h => by rw [hk] at h; cases h⟩
/-- the scan of a channel -/
def balL (x : Int) (s r : Int) : List Ev → Bool
  | [] => true
  | e :: l =>
    if e.obj ≠ x then balL x s r l
    else if chanB e.kind = false then balL x s r l
    else if (if e.kind = 15 then s + 1 else s) - (if e.kind = 17 then r + 1 else r) > e.n + 1 ∨ (if e.kind = 17 then r + 1 else r) - (if e.kind = 15 then s + 1 else s) > 1 then false
    else balL x (if e.kind = 15 then s + 1 else s) (if e.kind = 17 then r + 1 else r) l
theorem bal_rest {r : RSt} {t u : TS} (hr : Rel r t) (hw : t.wf) (hb : TBal t) (x : Int) {l : List Ev} (h : t.steps l = some u) : balL x (t.sentOf x) (t.recvOf x) l = true := by
  induction l generalizing r t with
  | nil => rfl
  | cons e l ih =>
    simp only [TS.steps, Option.bind_eq_some_iff] at h
    obtain ⟨v, hv, hs⟩ := h
    have hst := hr.step hw e
    rw [hv] at hst
    obtain ⟨r', _, hr'⟩ := hst
    obtain ⟨hbv, hcn, hch⟩ := bal_add hr hb hv
    have hrest := ih hr' (TS.add_wf hw hv) hbv hs
    have h1 := hcn.s x
    have h2 := hcn.r x
    simp only [balL]
    by_cases ho : e.obj = x
    · subst ho
      rw [if_neg (by omega)]
      cases hk : chanB e.kind with
      | false =>
        have hk' : e.kind ≠ 15 ∧ e.kind ≠ 17 := by
          unfold chanB at hk
          simp only [decide_eq_false_iff_not] at hk
          omega
        rw [if_neg (fun h => hk'.1 h.2)] at h1
        rw [if_neg (fun h => hk'.2 h.2)] at h2
        rw [if_pos rfl]
        rw [h1, h2] at hrest
        simpa using hrest
      | true =>
        rw [if_neg (by decide)]
        obtain ⟨c, hc, hcap⟩ := hch hk
        have ha := hbv.a _ _ hc
        have hbb := hbv.b _ _ hc
        have es : v.sentOf e.obj = c.sent := by unfold TS.sentOf; rw [hc]; rfl
        have er : v.recvOf e.obj = c.recv := by unfold TS.recvOf; rw [hc]; rfl
        have w1 : 0 ≤ v.w15 e.obj ∧ v.w15 e.obj ≤ 1 := by unfold TS.w15; split <;> omega
        have w2 : 0 ≤ v.w17 e.obj ∧ v.w17 e.obj ≤ 1 := by unfold TS.w17; split <;> omega
        have s1 : (if e.kind = 15 then t.sentOf e.obj + 1 else t.sentOf e.obj) = c.sent := by rw [← es, h1]; by_cases q : e.kind = 15 <;> simp [q]
        have s2 : (if e.kind = 17 then t.recvOf e.obj + 1 else t.recvOf e.obj) = c.recv := by rw [← er, h2]; by_cases q : e.kind = 17 <;> simp [q]
        rw [s1, s2, if_neg (by omega), ← es, ← er]
        exact hrest
    · rw [if_pos ho]
      rw [if_neg (fun h => ho h.1)] at h1 h2
      rw [h1, h2] at hrest
      simpa using hrest
theorem bal_valid {l : List Ev} (hc : chk l = l.length) (x : Int) : balL x 0 0 l = true := by
  obtain ⟨u, hu⟩ := TS.chk_steps TS.new l (Nat.le_refl _)
  unfold chk at hc
  rw [hc, List.take_length] at hu
  exact bal_rest Rel.new TS.wf_new TBal.new x hu
end Go.Proofs.Ytkdagjlkejefnaa
end
section
set_option linter.unusedSimpArgs false
set_option linter.unusedVariables false
namespace Go.Proofs.Ytkdagjlkejefnaa
open Go Go.RowKit
set_option maxRecDepth 100000
set_option maxHeartbeats 4000000

theorem steps_rng {s t : TS} {l : List Ev} (h : s.steps l = some t) : ∀ e, e ∈ l → 0 ≤ e.n ∧ e.n ≤ 2147483647 := by
  induction l generalizing s with
  | nil => intro e he; simp at he
  | cons a l ih =>
    intro e he
    simp only [TS.steps, Option.bind_eq_some_iff] at h
    obtain ⟨u, hu, hs⟩ := h
    rcases List.mem_cons.1 he with rfl | he
    · exact Ev.valid_n (add_cases hu).1
    · exact ih hs e he
theorem bal_c5 {m : List Ev} (hm : m.length ≤ 100) (x : Int) (Q : Exit → St → Prop) (hQ : ∀ st, st.res pre7 = some [pB true] → Q .ret st) (st : St) (h7 : st.sl 7 = .b (.one (.d (evsD m)))) (h1 : st.sl 1 = aI x) :
    pwp env_tex pce7c5 (exS env_tex [] Q) st := by
  unfold pce7c5
  simp only [evsD] at h7
  simp only [↓evP, evB, stB, reduceIte, reduceCtorEq, Nat.reduceEqDiff, Nat.reduceAdd, Nat.reduceMul, Nat.reduceLeDiff, Nat.reduceLT, Nat.reduceSub, Nat.reduceBEq, h7, h1]
  refine callOps_intro [pB (decide (chk m = m.length))] ⟨m, rfl, by omega, rfl⟩ ?_
  by_cases hc : chk m = m.length
  · have hbal := bal_valid hc x
    have hrng : ∀ e, e ∈ m → 0 ≤ e.n ∧ e.n ≤ 2147483647 := by
      obtain ⟨u, hu⟩ := TS.chk_steps TS.new m (Nat.le_refl _)
      unfold chk at hc
      rw [hc, List.take_length] at hu
      exact steps_rng hu
    simp only [↓evP, evB, stB, reduceIte, reduceCtorEq, Nat.reduceEqDiff, Nat.reduceAdd, Nat.reduceMul, Nat.reduceLeDiff, Nat.reduceLT, Nat.reduceSub, Nat.reduceBEq, h7, h1, hc, decide_true, decide_false]
    unfold pce7c4
    simp only [↓evP, evB, stB, reduceIte, reduceCtorEq, Nat.reduceEqDiff, Nat.reduceAdd, Nat.reduceMul, Nat.reduceLeDiff, Nat.reduceLT, Nat.reduceSub, Nat.reduceBEq, h7, h1]
    refine pwp_fresh [1, 8, 9, 36, 37, 38] [] (fun S hs ho => ?_)
    simp only [stB, reduceIte, reduceCtorEq, Nat.reduceEqDiff, Nat.reduceAdd, Nat.reduceMul, Nat.reduceLeDiff, Nat.reduceLT, Nat.reduceSub, Nat.reduceBEq, h7, h1] at hs ho
    obtain ⟨q1, q8, q9, q36, q37, q38⟩ := hs
    refine pwp_loopW mse7_0 ose7_0 (fun n st => ∃ i : Nat, ∃ s r : Int, n = m.length - i ∧ i ≤ m.length ∧ (0 ≤ s ∧ s ≤ i ∧ 0 ≤ r ∧ r ≤ i) ∧ balL x s r (m.drop i) = true ∧ st.sl 8 = aI s ∧ st.sl 9 = aI r ∧ st.sl 38 = aI i) m.length ?_ ?_
    · exact ⟨0, 0, 0, rfl, Nat.zero_le _, by omega, hbal, q8, q9, q38⟩
    · rintro n z ⟨i, s, r, rfl, hi, ⟨hs0, hs1, hr0, hr1⟩, hb, h8, h9, h38⟩
      simp only [stB, reduceIte, reduceCtorEq, Nat.reduceEqDiff, Nat.reduceAdd, Nat.reduceMul, Nat.reduceLeDiff, Nat.reduceLT, Nat.reduceSub, Nat.reduceBEq] at h8 h9 h38
      rcases Nat.lt_or_ge i m.length with hlt | hge
      · obtain ⟨e, he⟩ : ∃ e, m[i]? = some e := ⟨_, List.getElem?_eq_getElem hlt⟩
        have hd : m.drop i = e :: m.drop (i + 1) := by rw [List.drop_eq_getElem_cons hlt]; congr 1; rw [List.getElem?_eq_getElem hlt] at he; exact Option.some.inj he
        rw [hd] at hb
        simp only [balL] at hb
        obtain ⟨hn0, hn1⟩ := hrng e (List.mem_of_getElem? he)
        have hlt' : (i : Int) < (m.length : Int) := by omega
        have hi0 : (0 : Int) ≤ (i : Int) := by omega
        have hwn : IntKind.i64.wrap (e.n + 1) = e.n + 1 := wr64 (by omega) (by omega)
        simp only [↓evP, evB, stB, reduceIte, reduceCtorEq, Nat.reduceEqDiff, Nat.reduceAdd, Nat.reduceMul, Nat.reduceLeDiff, Nat.reduceLT, Nat.reduceSub, Nat.reduceBEq, q1, q36, q37, h8, h9, h38, hlt']
        unfold pce7c3
        cases b0 : (e.obj != x) with
        | true =>
          rw [if_pos (bne_iff b0)] at hb
          simp only [↓evP, evB, stB, reduceIte, reduceCtorEq, Nat.reduceEqDiff, Nat.reduceAdd, Nat.reduceMul, Nat.reduceLeDiff, Nat.reduceLT, Nat.reduceSub, Nat.reduceBEq, q1, q36, q37, h8, h9, h38, hi0, he, Ev.row, b0]
          exact ⟨_, by omega, (by repeat' (first | assumption | exact within_over.mpr trivial | exact Within.refl _ _ _ | (refine within_ap ?_ rfl rfl) | (refine within_ap0 ?_ rfl))), i + 1, s, r, rfl, hlt, by omega, hb, by simp only [stB, reduceIte, reduceCtorEq, Nat.reduceEqDiff, Nat.reduceAdd, Nat.reduceMul, Nat.reduceLeDiff, Nat.reduceLT, Nat.reduceSub, Nat.reduceBEq, h8], by simp only [stB, reduceIte, reduceCtorEq, Nat.reduceEqDiff, Nat.reduceAdd, Nat.reduceMul, Nat.reduceLeDiff, Nat.reduceLT, Nat.reduceSub, Nat.reduceBEq, h9], by simp only [stB, reduceIte, reduceCtorEq, Nat.reduceEqDiff, Nat.reduceAdd, Nat.reduceMul, Nat.reduceLeDiff, Nat.reduceLT, Nat.reduceSub, Nat.reduceBEq, h38]; rw [wrN (by omega)]⟩
        | false =>
        rw [if_neg (bne_not b0)] at hb
        cases k15 : (e.kind == 15) with
        | true =>
          have hk := beq_iff_eq.1 k15
          have hk17 : ¬ e.kind = 17 := by omega
          rw [if_neg (by rw [hk]; decide)] at hb
          simp only [if_pos hk, if_neg hk17] at hb
          split at hb
          · cases hb
          · rename_i hnn
            have f1 : ¬ s + 1 - r > e.n + 1 := fun h => hnn (.inl h)
            have f2 : ¬ r - (s + 1) > 1 := fun h => hnn (.inr h)
            have w1 : IntKind.i64.wrap (s + 1) = s + 1 := wr64 (by omega) (by omega)
            have w2 : IntKind.i64.wrap (s + 1 - r) = s + 1 - r := wr64 (by omega) (by omega)
            have w3 : IntKind.i64.wrap (r - (s + 1)) = r - (s + 1) := wr64 (by omega) (by omega)
            simp only [↓evP, evB, stB, reduceIte, reduceCtorEq, Nat.reduceEqDiff, Nat.reduceAdd, Nat.reduceMul, Nat.reduceLeDiff, Nat.reduceLT, Nat.reduceSub, Nat.reduceBEq, q1, q36, q37, h8, h9, h38, hi0, he, Ev.row, b0, k15]
            unfold pce7c0
            simp only [↓evP, evB, stB, reduceIte, reduceCtorEq, Nat.reduceEqDiff, Nat.reduceAdd, Nat.reduceMul, Nat.reduceLeDiff, Nat.reduceLT, Nat.reduceSub, Nat.reduceBEq, q1, q36, q37, h8, h9, h38, hi0, he, w1, w2, w3, hwn, f1, f2, decide_true, decide_false]
            exact ⟨_, by omega, (by repeat' (first | assumption | exact within_over.mpr trivial | exact Within.refl _ _ _ | (refine within_ap ?_ rfl rfl) | (refine within_ap0 ?_ rfl))), i + 1, s + 1, r, rfl, hlt, by omega, hb, by simp only [stB, reduceIte, reduceCtorEq, Nat.reduceEqDiff, Nat.reduceAdd, Nat.reduceMul, Nat.reduceLeDiff, Nat.reduceLT, Nat.reduceSub, Nat.reduceBEq, h8, w1], by simp only [stB, reduceIte, reduceCtorEq, Nat.reduceEqDiff, Nat.reduceAdd, Nat.reduceMul, Nat.reduceLeDiff, Nat.reduceLT, Nat.reduceSub, Nat.reduceBEq, h9], by simp only [stB, reduceIte, reduceCtorEq, Nat.reduceEqDiff, Nat.reduceAdd, Nat.reduceMul, Nat.reduceLeDiff, Nat.reduceLT, Nat.reduceSub, Nat.reduceBEq, h38]; rw [wrN (by omega)]⟩
        | false =>
        have n15 := beq_eq_false_iff_ne.1 k15
        cases k17 : (e.kind == 17) with
        | true =>
          have hk := beq_iff_eq.1 k17
          rw [if_neg (by rw [hk]; decide)] at hb
          simp only [if_neg n15, if_pos hk] at hb
          split at hb
          · cases hb
          · rename_i hnn
            have f1 : ¬ s - (r + 1) > e.n + 1 := fun h => hnn (.inl h)
            have f2 : ¬ r + 1 - s > 1 := fun h => hnn (.inr h)
            have w1 : IntKind.i64.wrap (r + 1) = r + 1 := wr64 (by omega) (by omega)
            have w2 : IntKind.i64.wrap (s - (r + 1)) = s - (r + 1) := wr64 (by omega) (by omega)
            have w3 : IntKind.i64.wrap (r + 1 - s) = r + 1 - s := wr64 (by omega) (by omega)
            simp only [↓evP, evB, stB, reduceIte, reduceCtorEq, Nat.reduceEqDiff, Nat.reduceAdd, Nat.reduceMul, Nat.reduceLeDiff, Nat.reduceLT, Nat.reduceSub, Nat.reduceBEq, q1, q36, q37, h8, h9, h38, hi0, he, Ev.row, b0, k15]
            unfold pce7c2
            simp only [↓evP, evB, stB, reduceIte, reduceCtorEq, Nat.reduceEqDiff, Nat.reduceAdd, Nat.reduceMul, Nat.reduceLeDiff, Nat.reduceLT, Nat.reduceSub, Nat.reduceBEq, q1, q36, q37, h8, h9, h38, hi0, he, w1, k17]
            unfold pce7c0
            simp only [↓evP, evB, stB, reduceIte, reduceCtorEq, Nat.reduceEqDiff, Nat.reduceAdd, Nat.reduceMul, Nat.reduceLeDiff, Nat.reduceLT, Nat.reduceSub, Nat.reduceBEq, q1, q36, q37, h8, h9, h38, hi0, he, w1, w2, w3, hwn, f1, f2, decide_true, decide_false]
            exact ⟨_, by omega, (by repeat' (first | assumption | exact within_over.mpr trivial | exact Within.refl _ _ _ | (refine within_ap ?_ rfl rfl) | (refine within_ap0 ?_ rfl))), i + 1, s, r + 1, rfl, hlt, by omega, hb, by simp only [stB, reduceIte, reduceCtorEq, Nat.reduceEqDiff, Nat.reduceAdd, Nat.reduceMul, Nat.reduceLeDiff, Nat.reduceLT, Nat.reduceSub, Nat.reduceBEq, h8], by simp only [stB, reduceIte, reduceCtorEq, Nat.reduceEqDiff, Nat.reduceAdd, Nat.reduceMul, Nat.reduceLeDiff, Nat.reduceLT, Nat.reduceSub, Nat.reduceBEq, h9, w1], by simp only [stB, reduceIte, reduceCtorEq, Nat.reduceEqDiff, Nat.reduceAdd, Nat.reduceMul, Nat.reduceLeDiff, Nat.reduceLT, Nat.reduceSub, Nat.reduceBEq, h38]; rw [wrN (by omega)]⟩
        | false =>
        have n17 := beq_eq_false_iff_ne.1 k17
        simp only [if_neg n15, if_neg n17] at hb
        simp only [↓evP, evB, stB, reduceIte, reduceCtorEq, Nat.reduceEqDiff, Nat.reduceAdd, Nat.reduceMul, Nat.reduceLeDiff, Nat.reduceLT, Nat.reduceSub, Nat.reduceBEq, q1, q36, q37, h8, h9, h38, hi0, he, Ev.row, b0, k15]
        unfold pce7c2
        simp only [↓evP, evB, stB, reduceIte, reduceCtorEq, Nat.reduceEqDiff, Nat.reduceAdd, Nat.reduceMul, Nat.reduceLeDiff, Nat.reduceLT, Nat.reduceSub, Nat.reduceBEq, q1, q36, q37, h8, h9, h38, hi0, he, k17]
        unfold pce7c1
        have main : chanB e.kind = true → ¬ (s - r > e.n + 1) ∧ ¬ (r - s > 1) ∧ balL x s r (m.drop (i + 1)) = true := fun h => by
          rw [if_neg (by rw [h]; decide)] at hb
          split at hb
          · cases hb
          · rename_i hnn; exact ⟨fun h => hnn (.inl h), fun h => hnn (.inr h), hb⟩
        have w2 : IntKind.i64.wrap (s - r) = s - r := wr64 (by omega) (by omega)
        have w3 : IntKind.i64.wrap (r - s) = r - s := wr64 (by omega) (by omega)
        cases k16 : (e.kind == 16) with
        | true =>
          obtain ⟨f1, f2, hb⟩ := main (by rw [beq_iff_eq.1 k16]; decide)
          simp only [↓evP, evB, stB, reduceIte, reduceCtorEq, Nat.reduceEqDiff, Nat.reduceAdd, Nat.reduceMul, Nat.reduceLeDiff, Nat.reduceLT, Nat.reduceSub, Nat.reduceBEq, q1, q36, q37, h8, h9, h38, hi0, he, k16]
          unfold pce7c0
          simp only [↓evP, evB, stB, reduceIte, reduceCtorEq, Nat.reduceEqDiff, Nat.reduceAdd, Nat.reduceMul, Nat.reduceLeDiff, Nat.reduceLT, Nat.reduceSub, Nat.reduceBEq, q1, q36, q37, h8, h9, h38, hi0, he, w2, w3, hwn, f1, f2, decide_true, decide_false]
          exact ⟨_, by omega, (by repeat' (first | assumption | exact within_over.mpr trivial | exact Within.refl _ _ _ | (refine within_ap ?_ rfl rfl) | (refine within_ap0 ?_ rfl))), i + 1, s, r, rfl, hlt, by omega, hb, by simp only [stB, reduceIte, reduceCtorEq, Nat.reduceEqDiff, Nat.reduceAdd, Nat.reduceMul, Nat.reduceLeDiff, Nat.reduceLT, Nat.reduceSub, Nat.reduceBEq, h8], by simp only [stB, reduceIte, reduceCtorEq, Nat.reduceEqDiff, Nat.reduceAdd, Nat.reduceMul, Nat.reduceLeDiff, Nat.reduceLT, Nat.reduceSub, Nat.reduceBEq, h9], by simp only [stB, reduceIte, reduceCtorEq, Nat.reduceEqDiff, Nat.reduceAdd, Nat.reduceMul, Nat.reduceLeDiff, Nat.reduceLT, Nat.reduceSub, Nat.reduceBEq, h38]; rw [wrN (by omega)]⟩
        | false =>
        cases k18 : (e.kind == 18) with
        | true =>
          obtain ⟨f1, f2, hb⟩ := main (by rw [beq_iff_eq.1 k18]; decide)
          simp only [↓evP, evB, stB, reduceIte, reduceCtorEq, Nat.reduceEqDiff, Nat.reduceAdd, Nat.reduceMul, Nat.reduceLeDiff, Nat.reduceLT, Nat.reduceSub, Nat.reduceBEq, q1, q36, q37, h8, h9, h38, hi0, he, k16, k18]
          unfold pce7c0
          simp only [↓evP, evB, stB, reduceIte, reduceCtorEq, Nat.reduceEqDiff, Nat.reduceAdd, Nat.reduceMul, Nat.reduceLeDiff, Nat.reduceLT, Nat.reduceSub, Nat.reduceBEq, q1, q36, q37, h8, h9, h38, hi0, he, w2, w3, hwn, f1, f2, decide_true, decide_false]
          exact ⟨_, by omega, (by repeat' (first | assumption | exact within_over.mpr trivial | exact Within.refl _ _ _ | (refine within_ap ?_ rfl rfl) | (refine within_ap0 ?_ rfl))), i + 1, s, r, rfl, hlt, by omega, hb, by simp only [stB, reduceIte, reduceCtorEq, Nat.reduceEqDiff, Nat.reduceAdd, Nat.reduceMul, Nat.reduceLeDiff, Nat.reduceLT, Nat.reduceSub, Nat.reduceBEq, h8], by simp only [stB, reduceIte, reduceCtorEq, Nat.reduceEqDiff, Nat.reduceAdd, Nat.reduceMul, Nat.reduceLeDiff, Nat.reduceLT, Nat.reduceSub, Nat.reduceBEq, h9], by simp only [stB, reduceIte, reduceCtorEq, Nat.reduceEqDiff, Nat.reduceAdd, Nat.reduceMul, Nat.reduceLeDiff, Nat.reduceLT, Nat.reduceSub, Nat.reduceBEq, h38]; rw [wrN (by omega)]⟩
        | false =>
        cases k19 : (e.kind == 19) with
        | true =>
          obtain ⟨f1, f2, hb⟩ := main (by rw [beq_iff_eq.1 k19]; decide)
          simp only [↓evP, evB, stB, reduceIte, reduceCtorEq, Nat.reduceEqDiff, Nat.reduceAdd, Nat.reduceMul, Nat.reduceLeDiff, Nat.reduceLT, Nat.reduceSub, Nat.reduceBEq, q1, q36, q37, h8, h9, h38, hi0, he, k16, k18, k19]
          unfold pce7c0
          simp only [↓evP, evB, stB, reduceIte, reduceCtorEq, Nat.reduceEqDiff, Nat.reduceAdd, Nat.reduceMul, Nat.reduceLeDiff, Nat.reduceLT, Nat.reduceSub, Nat.reduceBEq, q1, q36, q37, h8, h9, h38, hi0, he, w2, w3, hwn, f1, f2, decide_true, decide_false]
          exact ⟨_, by omega, (by repeat' (first | assumption | exact within_over.mpr trivial | exact Within.refl _ _ _ | (refine within_ap ?_ rfl rfl) | (refine within_ap0 ?_ rfl))), i + 1, s, r, rfl, hlt, by omega, hb, by simp only [stB, reduceIte, reduceCtorEq, Nat.reduceEqDiff, Nat.reduceAdd, Nat.reduceMul, Nat.reduceLeDiff, Nat.reduceLT, Nat.reduceSub, Nat.reduceBEq, h8], by simp only [stB, reduceIte, reduceCtorEq, Nat.reduceEqDiff, Nat.reduceAdd, Nat.reduceMul, Nat.reduceLeDiff, Nat.reduceLT, Nat.reduceSub, Nat.reduceBEq, h9], by simp only [stB, reduceIte, reduceCtorEq, Nat.reduceEqDiff, Nat.reduceAdd, Nat.reduceMul, Nat.reduceLeDiff, Nat.reduceLT, Nat.reduceSub, Nat.reduceBEq, h38]; rw [wrN (by omega)]⟩
        | false =>
        cases k20 : (e.kind == 20) with
        | true =>
          obtain ⟨f1, f2, hb⟩ := main (by rw [beq_iff_eq.1 k20]; decide)
          simp only [↓evP, evB, stB, reduceIte, reduceCtorEq, Nat.reduceEqDiff, Nat.reduceAdd, Nat.reduceMul, Nat.reduceLeDiff, Nat.reduceLT, Nat.reduceSub, Nat.reduceBEq, q1, q36, q37, h8, h9, h38, hi0, he, k16, k18, k19, k20]
          unfold pce7c0
          simp only [↓evP, evB, stB, reduceIte, reduceCtorEq, Nat.reduceEqDiff, Nat.reduceAdd, Nat.reduceMul, Nat.reduceLeDiff, Nat.reduceLT, Nat.reduceSub, Nat.reduceBEq, q1, q36, q37, h8, h9, h38, hi0, he, w2, w3, hwn, f1, f2, decide_true, decide_false]
          exact ⟨_, by omega, (by repeat' (first | assumption | exact within_over.mpr trivial | exact Within.refl _ _ _ | (refine within_ap ?_ rfl rfl) | (refine within_ap0 ?_ rfl))), i + 1, s, r, rfl, hlt, by omega, hb, by simp only [stB, reduceIte, reduceCtorEq, Nat.reduceEqDiff, Nat.reduceAdd, Nat.reduceMul, Nat.reduceLeDiff, Nat.reduceLT, Nat.reduceSub, Nat.reduceBEq, h8], by simp only [stB, reduceIte, reduceCtorEq, Nat.reduceEqDiff, Nat.reduceAdd, Nat.reduceMul, Nat.reduceLeDiff, Nat.reduceLT, Nat.reduceSub, Nat.reduceBEq, h9], by simp only [stB, reduceIte, reduceCtorEq, Nat.reduceEqDiff, Nat.reduceAdd, Nat.reduceMul, Nat.reduceLeDiff, Nat.reduceLT, Nat.reduceSub, Nat.reduceBEq, h38]; rw [wrN (by omega)]⟩
        | false =>
        have hnc : chanB e.kind = false := by
          have a1 := beq_eq_false_iff_ne.1 k16
          have a2 := beq_eq_false_iff_ne.1 k18
          have a3 := beq_eq_false_iff_ne.1 k19
          have a4 := beq_eq_false_iff_ne.1 k20
          unfold chanB
          exact decide_eq_false (by omega)
        rw [if_pos hnc] at hb
        simp only [↓evP, evB, stB, reduceIte, reduceCtorEq, Nat.reduceEqDiff, Nat.reduceAdd, Nat.reduceMul, Nat.reduceLeDiff, Nat.reduceLT, Nat.reduceSub, Nat.reduceBEq, q1, q36, q37, h8, h9, h38, hi0, he, k16, k18, k19, k20]
        exact ⟨_, by omega, (by repeat' (first | assumption | exact within_over.mpr trivial | exact Within.refl _ _ _ | (refine within_ap ?_ rfl rfl) | (refine within_ap0 ?_ rfl))), i + 1, s, r, rfl, hlt, by omega, hb, by simp only [stB, reduceIte, reduceCtorEq, Nat.reduceEqDiff, Nat.reduceAdd, Nat.reduceMul, Nat.reduceLeDiff, Nat.reduceLT, Nat.reduceSub, Nat.reduceBEq, h8], by simp only [stB, reduceIte, reduceCtorEq, Nat.reduceEqDiff, Nat.reduceAdd, Nat.reduceMul, Nat.reduceLeDiff, Nat.reduceLT, Nat.reduceSub, Nat.reduceBEq, h9], by simp only [stB, reduceIte, reduceCtorEq, Nat.reduceEqDiff, Nat.reduceAdd, Nat.reduceMul, Nat.reduceLeDiff, Nat.reduceLT, Nat.reduceSub, Nat.reduceBEq, h38]; rw [wrN (by omega)]⟩
      · have hil : i = m.length := by omega
        subst hil
        have hlt' : ¬ (m.length : Int) < (m.length : Int) := by omega
        simp only [↓evP, evB, stB, reduceIte, reduceCtorEq, Nat.reduceEqDiff, Nat.reduceAdd, Nat.reduceMul, Nat.reduceLeDiff, Nat.reduceLT, Nat.reduceSub, Nat.reduceBEq, q1, q36, q37, h8, h9, h38, hlt']
        exact hQ _ (by simp only [stB, reduceIte, reduceCtorEq, Nat.reduceEqDiff, Nat.reduceAdd, Nat.reduceMul, Nat.reduceLeDiff, Nat.reduceLT, Nat.reduceSub, Nat.reduceBEq, pre7])
  · simp only [↓evP, evB, stB, reduceIte, reduceCtorEq, Nat.reduceEqDiff, Nat.reduceAdd, Nat.reduceMul, Nat.reduceLeDiff, Nat.reduceLT, Nat.reduceSub, Nat.reduceBEq, h7, h1, hc, decide_true, decide_false]
    exact hQ _ (by simp only [stB, reduceIte, reduceCtorEq, Nat.reduceEqDiff, Nat.reduceAdd, Nat.reduceMul, Nat.reduceLeDiff, Nat.reduceLT, Nat.reduceSub, Nat.reduceBEq, pre7])
def R_tbal (ps rs : List Pa) : Prop := ∃ (l : List Ev) (x n : Int), ps = [evsPa l, pI x, pI n] ∧ l.length ≤ 9223372036854775807 ∧ rs = [pB true]
theorem s_tbal : Spec Try.prog 7 R_tbal := by
  refine spe7 env_tex_ok ?_
  rintro ps rs ⟨raw, x, n, rfl, hlen, rfl⟩
  refine ⟨by simp, ?_⟩
  obtain ⟨_, _, hl⟩ := repair_good raw
  unfold pce7
  refine pwp_start ?_
  simp only [↓evP, evB, stB, reduceIte, reduceCtorEq, Nat.reduceEqDiff, Nat.reduceAdd, Nat.reduceMul, Nat.reduceLeDiff, Nat.reduceLT, Nat.reduceSub, Nat.reduceBEq, evsPa, evsD]
  refine callOps_intro [pB true] ⟨rfl, rfl⟩ ?_
  simp only [↓evP, evB, stB, reduceIte, reduceCtorEq, Nat.reduceEqDiff, Nat.reduceAdd, Nat.reduceMul, Nat.reduceLeDiff, Nat.reduceLT, Nat.reduceSub, Nat.reduceBEq]
  refine callOps_intro [evsPa (repairL raw)] ⟨raw, rfl, hlen, rfl⟩ ?_
  generalize repairL raw = l at *
  by_cases b1 : n ≥ 0
  · by_cases b2 : n < (l.length : Int)
    · obtain ⟨k, rfl⟩ := Int.eq_ofNat_of_zero_le b1
      have hw : IntKind.i64.wrap ((k : Int) + 1) = ((k + 1 : Nat) : Int) := wrN (by omega)
      have hl0 : (0 : Int) ≤ (k : Int) := by omega
      have hl1 : (k : Int) ≤ (l.length : Int) := by omega
      have hl2 : (0 : Int) ≤ ((k + 1 : Nat) : Int) := by omega
      have hl3 : ((k + 1 : Nat) : Int) ≤ (l.length : Int) := by omega
      have hall := rows_len (f := Ev.row) (n := 9) (fun _ => rfl) l
      have hall1 := rows_len (f := Ev.row) (n := 9) (fun _ => rfl) (l.take k)
      have hall2 := rows_len (f := Ev.row) (n := 9) (fun _ => rfl) (l.drop (k + 1))
      have htk : (l.map Ev.row).take k = (l.take k).map Ev.row := (List.map_take ..).symm
      have htk2 : (l.map Ev.row).take l.length = l.map Ev.row := List.take_of_length_le (by rw [List.length_map]; exact Nat.le_refl _)
      have hdr : (l.map Ev.row).drop (k + 1) = (l.drop (k + 1)).map Ev.row := (List.map_drop ..).symm
      have hlen2 : (l.take k).length + (l.drop (k + 1)).length ≤ 1000000 := by rw [List.length_take, List.length_drop]; omega
      have hmap : (l.take k).map Ev.row ++ (l.drop (k + 1)).map Ev.row = (l.take k ++ l.drop (k + 1)).map Ev.row := (List.map_append ..).symm
      simp only [↓evP, evB, stB, reduceIte, reduceCtorEq, Nat.reduceEqDiff, Nat.reduceAdd, Nat.reduceMul, Nat.reduceLeDiff, Nat.reduceLT, Nat.reduceSub, Nat.reduceBEq, evsPa, evsD, b1, b2, decide_true, decide_false]
      unfold pce7c6
      simp only [↓evP, evB, stB, reduceIte, reduceCtorEq, Nat.reduceEqDiff, Nat.reduceAdd, Nat.reduceMul, Nat.reduceLeDiff, Nat.reduceLT, Nat.reduceSub, Nat.reduceBEq, b1, b2, hw, hl0, hl1, hl2, hl3, hall, hall1, hall2, htk, htk2, hdr, hlen2, hmap, Int.le_refl, Int.toNat_zero]
      refine ⟨(by unfold Drw; kernel_rfl), ?_⟩
      exact bal_c5 (x := x) (m := l.take k ++ l.drop (k + 1)) (by rw [List.length_append, List.length_take, List.length_drop]; omega) _ (fun st h => ⟨.inr rfl, h⟩) _ (by simp only [stB, reduceIte, reduceCtorEq, Nat.reduceEqDiff, Nat.reduceAdd, Nat.reduceMul, Nat.reduceLeDiff, Nat.reduceLT, Nat.reduceSub, Nat.reduceBEq, evsD]) (by simp only [stB, reduceIte, reduceCtorEq, Nat.reduceEqDiff, Nat.reduceAdd, Nat.reduceMul, Nat.reduceLeDiff, Nat.reduceLT, Nat.reduceSub, Nat.reduceBEq])
    · simp only [↓evP, evB, stB, reduceIte, reduceCtorEq, Nat.reduceEqDiff, Nat.reduceAdd, Nat.reduceMul, Nat.reduceLeDiff, Nat.reduceLT, Nat.reduceSub, Nat.reduceBEq, evsPa, evsD, b1, b2, decide_true, decide_false]
      exact bal_c5 (x := x) (m := l) (by omega) _ (fun st h => ⟨.inr rfl, h⟩) _ (by simp only [stB, reduceIte, reduceCtorEq, Nat.reduceEqDiff, Nat.reduceAdd, Nat.reduceMul, Nat.reduceLeDiff, Nat.reduceLT, Nat.reduceSub, Nat.reduceBEq, evsD]) (by simp only [stB, reduceIte, reduceCtorEq, Nat.reduceEqDiff, Nat.reduceAdd, Nat.reduceMul, Nat.reduceLeDiff, Nat.reduceLT, Nat.reduceSub, Nat.reduceBEq])
  · simp only [↓evP, evB, stB, reduceIte, reduceCtorEq, Nat.reduceEqDiff, Nat.reduceAdd, Nat.reduceMul, Nat.reduceLeDiff, Nat.reduceLT, Nat.reduceSub, Nat.reduceBEq, evsPa, evsD, b1, decide_true, decide_false]
    exact bal_c5 (x := x) (m := l) (by omega) _ (fun st h => ⟨.inr rfl, h⟩) _ (by simp only [stB, reduceIte, reduceCtorEq, Nat.reduceEqDiff, Nat.reduceAdd, Nat.reduceMul, Nat.reduceLeDiff, Nat.reduceLT, Nat.reduceSub, Nat.reduceBEq, evsD]) (by simp only [stB, reduceIte, reduceCtorEq, Nat.reduceEqDiff, Nat.reduceAdd, Nat.reduceMul, Nat.reduceLeDiff, Nat.reduceLT, Nat.reduceSub, Nat.reduceBEq])
end Go.Proofs.Ytkdagjlkejefnaa
end
section
set_option linter.unusedSimpArgs false
set_option linter.unusedVariables false
namespace Go.Proofs.Ytkdagjlkejefnaa
open Go Go.RowKit Go.WideShapes Go.ChangeShapes Go.Deep

theorem trodAll_below {H : Type} {enc : TypeId × Value → H} {P : Program} (hl : laidOutB P = true) {W W' : World} (hb : Below W.heap.size W W') :
    ∀ {ts : List TypeId} {vs : List Value} {ds : List (DataW H)} {ps : List MemPlace}, (ts.all fun t => P.readableRec t && decide (t < P.types.size)) = true → DataW.TrodAll enc P W 0 (fun _ => true) true ts vs ds ps → DataW.TrodAll enc P W' 0 (fun b => decide (b < W.heap.size)) true ts vs ds ps
  | [], vs, ds, ps, _, h => by obtain ⟨rfl, rfl, rfl⟩ := trodAll_nil h; exact trodAll_mk0
  | t :: ts, vs, ds, ps, ht, h => by
    obtain ⟨v, vs', d, ds', p, q, rfl, rfl, rfl, h1, h2⟩ := trodAll_cons h
    simp only [List.all_cons, Bool.and_eq_true, decide_eq_true_eq] at ht
    have lt : ∀ x ∈ p, x.block < W.heap.size := by obtain ⟨m, hm⟩ := h1; exact DataW.trod_lt m _ _ _ hm
    exact trodAll_cons_mk (Below.trod hl ht.1.1 ht.1.2 h1 hb lt) (trodAll_below hl hb (by rw [Bool.eq_iff_iff] at *; simpa using ht.2) h2)

/-- a struct of numbers -/
theorem open_flat {H : Type} {enc : TypeId × Value → H} {P : Program} {w : World} {r : Reach} {b0 base : Nat} {spare : Nat → Bool} {held : Bool} {t : TypeId} {fs : Array Field} (ht : P.underlying t = some (.struct fs)) (hone : oneCellFields P fs = true) (hC : P.cellsOf t = fs.size)
    {tI : TypeId} (hI : P.underlying tI = some (.int .i64)) (hint0 : fs.toList.all (fun f => f.type == tI) = true) {n : Nat} (hn : fs.size = n) {v : Value} {d : DataW H} {ps : List MemPlace} (hv : Value.okWide P w r b0 t v) (h : DataW.Trod enc P w base spare held t v d ps) :
    ∃ l : List Int, l.length = n ∧ v = .agg (l.map (Value.int .i64)).toArray ∧ ∀ x, x ∈ l → -9223372036854775808 ≤ x ∧ x ≤ 9223372036854775807 := by
  have hint : ∀ (i : Nat) (f : Field), fs[i]? = some f → P.underlying f.type = some (.int .i64) := fun i f hf => by
    have h1 := List.all_eq_true.1 hint0 f (List.mem_of_getElem? (i := i) (by simpa using hf))
    rw [beq_iff_eq.1 h1]; exact hI
  subst hn
  obtain ⟨cs, rfl, hcs⟩ := okWide_struct ht hv
  obtain ⟨fuel, hf⟩ := h
  obtain ⟨xs, n, _, _, hl, hlen, hfs⟩ := DataW.trod_struct ht hf
  have key : ∀ i, ∃ x : Int, i < fs.size → cs[i]? = some (.int .i64 x) ∧ -9223372036854775808 ≤ x ∧ x ≤ 9223372036854775807 := by
    intro i
    by_cases hi : i < fs.size
    · have hfi : fs[i]? = some fs[i] := Array.getElem?_eq_getElem hi
      obtain ⟨ho, hk⟩ := hone_of hone i _ hfi
      have h1 := hfs i _ hfi
      rw [ho, hk] at h1
      have hic : i < cs.size := by omega
      have hone' : ((Value.agg cs).cells.toList.drop i).take 1 = [cs[i]'hic] := by
        show (cs.toList.drop i).take 1 = _
        rw [List.drop_eq_getElem_cons (by simpa using hic)]
        simp
      rw [hone'] at h1
      have hxs : xs[i]? = some (xs[i]'(by omega)) := List.getElem?_eq_getElem _
      rw [hxs] at h1
      obtain ⟨x, hx, hw⟩ := trod_int_field (hint i _ hfi) h1
      exact ⟨x, fun _ => ⟨by rw [Array.getElem?_eq_getElem hic, hx], i64_of_wf hw⟩⟩
    · exact ⟨0, fun h => absurd h hi⟩
  obtain ⟨g, hg⟩ := Classical.skolem.1 key
  refine ⟨(List.range fs.size).map g, by simp, ?_, fun x hx => ?_⟩
  · congr 1
    apply Array.ext_getElem?
    intro i
    simp only [List.getElem?_toArray, List.getElem?_map]
    rcases Nat.lt_or_ge i fs.size with hi | hi
    · rw [(hg i hi).1, List.getElem?_range hi]; rfl
    · rw [Array.getElem?_eq_none (by omega), List.getElem?_eq_none (by simpa using hi)]; rfl
  · simp only [List.mem_map, List.mem_range] at hx
    obtain ⟨i, hi, rfl⟩ := hx
    exact (hg i hi).2

theorem list_two {α : Type} {l : List α} (h : l.length = 2) : ∃ x y, l = [x, y] := by
  match l, h with
  | [x, y], _ => exact ⟨x, y, rfl⟩
theorem list_nine {l : List Int} (h : l.length = 9) : ∃ e : Ev, l.map (Value.int .i64) = e.cells := by
  match l, h with
  | [a, b, c, d, e, f, g, i, j], _ => exact ⟨⟨a, b, c, d, e, f, g, i, j⟩, rfl⟩
/-- what a contract on data that answers 'true' says of a call -/
theorem Spec.true [I : WInv] {P : Program} {f : Nat} {R : List Pa → List Pa → Prop} (hs : Spec P f R) {ps : List Pa} (hR : R ps [pB true]) {S : Nat → Nat} {w : World} {vals : Array Value} (hw : I.p w) (hv : RPs S w ps vals) :
    Calls P f vals w fun e w' => e = .returned (.bool true) ∧ Below w.heap.size w w' := by
  refine (hs ps _ hR S w vals hw hv).mono ?_
  rintro e w' ⟨v, S', rfl, h1, h2, _⟩
  exact ⟨by rw [RP.bool h1], h2⟩
end Go.Proofs.Ytkdagjlkejefnaa
end
