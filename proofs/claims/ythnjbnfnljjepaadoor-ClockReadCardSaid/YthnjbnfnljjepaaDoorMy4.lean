/- Clocks: the reference's Read. -/
import Derived.Test.YthnjbnfnljjepaaDoorMy3
import Derived.Test.YthnjbnfnljjepaaDoorRows
import Derived.Stop.LaidErr
import Derived.Deep.DeepLaidRun
import Derived.SizedLaws
import Derived.JoinedOf
import Derived.LaidLaws
import Derived.ChangeSame
section
set_option linter.unusedSimpArgs false
set_option linter.unusedVariables false
namespace Go.Proofs.YthnjbnfnljjepaaDoor
open Go Go.RowKit
set_option maxRecDepth 100000
set_option maxHeartbeats 4000000

theorem refW_step {n a : Nat} {t : List UInt8} (h : t ≠ []) (ha : t.takeWhile (· != 32) = t.take a) (hal : a ≤ t.length) :
    refW (n + 1) t = if (numF (t.take a)).2 = true ∧ t.length - a ≠ 1 then (if a = t.length then some [(numF (t.take a)).1] else (refW n (t.drop (a + 1))).map ((numF (t.take a)).1 :: ·)) else none := by
  have hl : (t.take a).length = a := by rw [List.length_take]; omega
  rw [refW, if_neg h, ha, hl, List.length_drop]
  by_cases e : a = t.length
  · subst e
    simp
  · have hne : t.drop a ≠ [] := fun h' => by
      have := congrArg List.length h'
      simp only [List.length_drop, List.length_nil] at this
      omega
    rw [if_neg hne, if_neg e]
theorem refW_full {t : List UInt8} (h : t ≠ []) : refW 0 t = none := by unfold refW; rw [if_neg h]
theorem tw_step {t : List UInt8} {a : Nat} {d : UInt8} (hd : t[a]? = some d) (h : t.takeWhile (· != 32) = t.take a ++ (t.drop a).takeWhile (· != 32)) (h32 : d ≠ 32) : t.takeWhile (· != 32) = t.take (a + 1) ++ (t.drop (a + 1)).takeWhile (· != 32) := by
  obtain ⟨hl, rfl⟩ := List.getElem?_eq_some_iff.1 hd
  rw [h, List.drop_eq_getElem_cons hl, List.takeWhile_cons, if_pos (by simpa using h32), List.take_succ_eq_append_getElem hl]
  simp only [List.append_assoc, List.cons_append, List.nil_append]
theorem tw_end {t : List UInt8} {a : Nat} {d : UInt8} (hd : t[a]? = some d) (h : t.takeWhile (· != 32) = t.take a ++ (t.drop a).takeWhile (· != 32)) (h32 : d = 32) : t.takeWhile (· != 32) = t.take a := by
  obtain ⟨hl, rfl⟩ := List.getElem?_eq_some_iff.1 hd
  rw [h, List.drop_eq_getElem_cons hl, List.takeWhile_cons, if_neg (by simpa using h32)]
  simp
theorem mid_list {l : List UInt8} (h : 2 ≤ l.length) : (l.take (l.length - 1)).drop 1 = (l.drop 1).dropLast := by
  rw [List.dropLast_eq_take, List.drop_take, List.length_drop]
theorem within_over_in {ms os ms1 os1 : List Nat} {s0 s j : St} (h : Within ms os s0 s) (hm : (ms1.all fun x => ms.contains x) = true) (ho : (os1.all fun o => os.contains o) = true) : Within ms os s0 (over ms1 os1 s j) := by
  have key : ∀ {a b : List Nat}, (a.all fun x => b.contains x) = true → ∀ x, b.contains x = false → a.contains x = false := fun {a b} hab x hx => by
    cases hc : a.contains x with
    | false => rfl
    | true =>
      have := List.all_eq_true.1 hab x (List.contains_iff_mem.1 hc)
      rw [hx] at this; cases this
  refine ⟨fun x hx => ?_, fun o hx => ⟨?_, ?_⟩⟩
  · rw [over_sl, key hm x hx]; exact h.1 x hx
  · rw [over_gen, key ho o hx]; exact (h.2 o hx).1
  · rw [over_ob, key ho o hx]; exact (h.2 o hx).2
theorem le_refl_int (a : Int) : (a ≤ a) = True := by simp
theorem map_app {α : Type} (o : Option (List α)) (l : List α) (v : α) : (o.map (v :: ·)).map (l ++ ·) = o.map ((l ++ [v]) ++ ·) := by
  cases o <;> simp
def R_rread (ps rs : List Pa) : Prop := ∃ s : ByteArray, ps = [pS s] ∧ s.size ≤ 100000 ∧ rs = readPa (refC s.data.toList)
def env_rread : Env := e1 32 R_num (e1 24 R_text e0)
theorem env_rread_ok : EnvOK Tryd.prog env_rread := EnvOK.e1 s_rNumber (EnvOK.e1 s_rText EnvOK.e0)
theorem s_rRead0 : Spec Tryd.prog 25 R_rread := by
  refine sp25 env_rread_ok ?_
  rintro ps rs ⟨s, rfl, hs, rfl⟩
  refine ⟨by simp, ?_⟩
  have hsl := size_list s
  unfold pc25
  refine pwp_start ?_
  have nn0 : ((0 : Int) ≤ 0) = True := by simp
  by_cases z2 : (s.size : Int) < 2
  · have hr : refC s.data.toList = none := by unfold refC; rw [if_pos (.inl (by omega))]
    have e5 : (ckCells zC).length = 8 := rfl
    simp only [↓evP, evB, stB, reduceIte, reduceCtorEq, Nat.reduceEqDiff, Nat.reduceAdd, Nat.reduceMul, Nat.reduceLeDiff, Nat.reduceLT, Nat.reduceSub, Nat.reduceBEq, z2, decide_true, hr, readPa, pr25, e5]
    rfl
  have hw1 : IntKind.i64.wrap ((s.size : Int) - 1) = ((s.size - 1 : Nat) : Int) := by rw [wr64 (by omega) (by omega)]; omega
  have hn1 : (0 : Int) ≤ ((s.size - 1 : Nat) : Int) := by omega
  obtain ⟨c0, hc0⟩ : ∃ c0, s.data.toList[0]? = some c0 := ⟨_, List.getElem?_eq_getElem (by omega)⟩
  obtain ⟨c9, hc9⟩ : ∃ c9, s.data.toList[s.size - 1]? = some c9 := ⟨_, List.getElem?_eq_getElem (by omega)⟩
  have g0 : s[0]? = some c0 := by rw [bget, hc0]
  have g9 : s[s.size - 1]? = some c9 := by rw [bget, hc9]
  have hhd : s.data.toList.head? = some c0 := by rw [List.head?_eq_getElem?, hc0]
  have hlast : s.data.toList.getLast? = some c9 := by rw [List.getLast?_eq_getElem?, ← hsl, hc9]
  by_cases y0 : c0 = 91
  case neg =>
    have hr : refC s.data.toList = none := by unfold refC; rw [if_pos (.inr (.inl (by rw [hhd]; simpa using y0)))]
    have k0 : ((c0.toNat : Int) != 91) = true := bne_iff_ne.2 (fun h => y0 (UInt8.toNat_inj.1 (by show c0.toNat = 91; omega)))
    have e5 : (ckCells zC).length = 8 := rfl
    simp only [↓evP, evB, stB, reduceIte, reduceCtorEq, Nat.reduceEqDiff, Nat.reduceAdd, Nat.reduceMul, Nat.reduceLeDiff, Nat.reduceLT, Nat.reduceSub, Nat.reduceBEq, z2, decide_true, decide_false, nn0, Int.toNat_zero, g0, k0, hr, readPa, pr25, e5]
    rfl
  have k0 : ((c0.toNat : Int) != 91) = false := by rw [y0]; rfl
  by_cases y9 : c9 = 93
  case neg =>
    have hr : refC s.data.toList = none := by unfold refC; rw [if_pos (.inr (.inr (by rw [hlast]; simpa using y9)))]
    have k9 : ((c9.toNat : Int) != 93) = true := bne_iff_ne.2 (fun h => y9 (UInt8.toNat_inj.1 (by show c9.toNat = 93; omega)))
    have e5 : (ckCells zC).length = 8 := rfl
    simp only [↓evP, evB, stB, reduceIte, reduceCtorEq, Nat.reduceEqDiff, Nat.reduceAdd, Nat.reduceMul, Nat.reduceLeDiff, Nat.reduceLT, Nat.reduceSub, Nat.reduceBEq, z2, decide_true, decide_false, nn0, Int.toNat_zero, Int.toNat_natCast, g0, k0, hw1, hn1, g9, k9, hr, readPa, pr25, e5]
    rfl
  have k9 : ((c9.toNat : Int) != 93) = false := by rw [y9]; rfl
  obtain ⟨t0, ht0⟩ : ∃ t0, t0 = s.extract 1 (s.size - 1) := ⟨_, rfl⟩
  have ht0l : t0.data.toList = (s.data.toList.drop 1).dropLast := by rw [ht0, ext_list, hsl, mid_list (by omega)]
  have ht0s : t0.size ≤ 100000 := by rw [ht0, ByteArray.size_extract]; omega
  have hmid : refC s.data.toList = match refW 8 t0.data.toList with
      | none => none
      | some l => if ctext (padC l) = s.data.toList then some (padC l) else none := by
    unfold refC
    rw [if_neg (by rintro (h | h | h); · omega
                   · exact h (by rw [hhd, y0])
                   · exact h (by rw [hlast, y9])), ht0l]
    cases refW 8 (List.drop 1 s.data.toList).dropLast <;> rfl
  have l1 : (1 : Int) ≤ ((s.size - 1 : Nat) : Int) := by omega
  have l2 : ((s.size - 1 : Nat) : Int) ≤ (s.size : Int) := by omega
  have l3 : ((0 : Int) ≤ 1) = True := by simp
  have l4 : (1 : Int).toNat = 1 := rfl
  simp only [↓evP, evB, stB, reduceIte, reduceCtorEq, Nat.reduceEqDiff, Nat.reduceAdd, Nat.reduceMul, Nat.reduceLeDiff, Nat.reduceLT, Nat.reduceSub, Nat.reduceBEq, z2, decide_false, nn0, Int.toNat_zero, Int.toNat_natCast, g0, k0, hw1, hn1, g9, k9, l1, l2, l3, l4, ← ht0]
  refine pwp_loopW ms25_0 os25_0 (fun m st => ∃ (k : Nat) (l : List Int) (t : ByteArray), t.size = m ∧ l.length = k ∧ OK64 l ∧ k ≤ 8 ∧ t.size ≤ 100000 ∧ refW 8 t0.data.toList = (refW (8 - k) t.data.toList).map (l ++ ·) ∧ st.sl 5 = aS t ∧ st.sl 6 = aI k ∧ st.gen 2 = 1 ∧ st.gen 4 = 1 ∧ st.ob 2 = .cells (ckCells zC) ∧ st.ob 4 = .cells (ckCells (padC l))) t0.size ?_ ?_
  · exact ⟨0, [], t0, rfl, rfl, (fun x hx => by cases hx), by omega, ht0s, by cases refW 8 t0.data.toList <;> simp, by simp only [stB, reduceIte, reduceCtorEq, Nat.reduceEqDiff, Nat.reduceAdd, Nat.reduceMul, Nat.reduceLeDiff, Nat.reduceLT, Nat.reduceSub, Nat.reduceBEq], by simp only [stB, reduceIte, reduceCtorEq, Nat.reduceEqDiff, Nat.reduceAdd, Nat.reduceMul, Nat.reduceLeDiff, Nat.reduceLT, Nat.reduceSub, Nat.reduceBEq]; rfl, by simp only [stB, reduceIte, reduceCtorEq, Nat.reduceEqDiff, Nat.reduceAdd, Nat.reduceMul, Nat.reduceLeDiff, Nat.reduceLT, Nat.reduceSub, Nat.reduceBEq], by simp only [stB, reduceIte, reduceCtorEq, Nat.reduceEqDiff, Nat.reduceAdd, Nat.reduceMul, Nat.reduceLeDiff, Nat.reduceLT, Nat.reduceSub, Nat.reduceBEq], by simp only [stB, reduceIte, reduceCtorEq, Nat.reduceEqDiff, Nat.reduceAdd, Nat.reduceMul, Nat.reduceLeDiff, Nat.reduceLT, Nat.reduceSub, Nat.reduceBEq]; rfl, by simp only [stB, reduceIte, reduceCtorEq, Nat.reduceEqDiff, Nat.reduceAdd, Nat.reduceMul, Nat.reduceLeDiff, Nat.reduceLT, Nat.reduceSub, Nat.reduceBEq]; rfl⟩
  · rintro m j ⟨k, l, t, rfl, hlk, hok, hk8, hts, hW, h5, h6, g2, g4, o2, o4⟩
    simp only [stB, reduceIte, reduceCtorEq, Nat.reduceEqDiff, Nat.reduceAdd, Nat.reduceMul, Nat.reduceLeDiff, Nat.reduceLT, Nat.reduceSub, Nat.reduceBEq] at h5 h6 g2 g4 o2 o4
    have htl := size_list t
    have hte := strings_eq t ⟨#[]⟩
    by_cases hE : t.data.toList = []
    · rw [hE, show (refW (8 - k) []).map (l ++ ·) = some l by cases 8 - k <;> simp [refW]] at hW
      rw [show decide (t.data.toList = (⟨#[]⟩ : ByteArray).data.toList) = true from decide_eq_true hE] at hte
      have hl8 : l.length ≤ 8 := by omega
      obtain ⟨a1, a2⟩ := ld8 (padC_length hl8)
      have a5 : (ckCells (padC l)).length = 8 := by rw [ckCells_length, padC_length hl8]
      simp only [↓evP, evB, stB, reduceIte, reduceCtorEq, Nat.reduceEqDiff, Nat.reduceAdd, Nat.reduceMul, Nat.reduceLeDiff, Nat.reduceLT, Nat.reduceSub, Nat.reduceBEq, h5, h6, hte, g2, g4, o2, o4, a1, a2, a5, decide_false, ckCells_dt]
      refine callOps_intro [pS (strB (ctext (padC l)))] (R_text.mk (padC_length hl8) (padC_ok hok)) ?_
      have hse := strings_eq (strB (ctext (padC l))) s
      rw [show (strB (ctext (padC l))).data.toList = ctext (padC l) from rfl] at hse
      rw [hW] at hmid
      by_cases hq : ctext (padC l) = s.data.toList
      · have hr : refC s.data.toList = some (padC l) := by rw [hmid]; simp only; rw [if_pos hq]
        rw [decide_eq_true hq] at hse
        have e6 : (ckCells zC).length = 8 := rfl
        have e7 : wrAt (ckCells zC) 0 (ckCells (padC l)) = ckCells (padC l) := wrAt_full (by rw [a5]; rfl)
        simp only [↓evP, evB, stB, reduceIte, reduceCtorEq, Nat.reduceEqDiff, Nat.reduceAdd, Nat.reduceMul, Nat.reduceLeDiff, Nat.reduceLT, Nat.reduceSub, Nat.reduceBEq, h5, h6, hte, g2, g4, o2, o4, hse, a1, a2, a5, e6, e7, wr_new8 (padC_length hl8), ckCells_dt, hr, readPa, ckPa, pI, pr25]
      · have hr : refC s.data.toList = none := by rw [hmid]; simp only; rw [if_neg hq]
        rw [decide_eq_false hq] at hse
        have e6 : (ckCells zC).length = 8 := rfl
        simp only [↓evP, evB, stB, reduceIte, reduceCtorEq, Nat.reduceEqDiff, Nat.reduceAdd, Nat.reduceMul, Nat.reduceLeDiff, Nat.reduceLT, Nat.reduceSub, Nat.reduceBEq, h5, h6, hte, g2, g4, o2, o4, hse, a1, a2, a5, e6, hr, readPa, pr25]
        rfl
    rw [show decide (t.data.toList = (⟨#[]⟩ : ByteArray).data.toList) = false from decide_eq_false hE] at hte
    simp only [↓evP, evB, stB, reduceIte, reduceCtorEq, Nat.reduceEqDiff, Nat.reduceAdd, Nat.reduceMul, Nat.reduceLeDiff, Nat.reduceLT, Nat.reduceSub, Nat.reduceBEq, h5, h6, hte, g2, g4, o2, o4]
    refine pwp_loopW ms25_1 os25_1 (fun m st => ∃ a : Nat, m = t.size - a ∧ a ≤ t.size ∧ st.sl 7 = aI a ∧ t.data.toList.takeWhile (· != 32) = t.data.toList.take a ++ (t.data.toList.drop a).takeWhile (· != 32)) t.size ?_ ?_
    · exact ⟨0, rfl, Nat.zero_le _, by simp only [stB, reduceIte, reduceCtorEq, Nat.reduceEqDiff, Nat.reduceAdd, Nat.reduceMul, Nat.reduceLeDiff, Nat.reduceLT, Nat.reduceSub, Nat.reduceBEq]; rfl, by simp⟩
    · rintro m j2 ⟨a, rfl, ha, h7, htw⟩
      simp only [stB, reduceIte, reduceCtorEq, Nat.reduceEqDiff, Nat.reduceAdd, Nat.reduceMul, Nat.reduceLeDiff, Nat.reduceLT, Nat.reduceSub, Nat.reduceBEq] at h7
      have ha0 : (0 : Int) ≤ (a : Int) := by omega
      have hal : (a : Int) ≤ (t.size : Int) := by omega
      obtain ⟨w, hw⟩ : ∃ w, w = t.extract 0 a := ⟨_, rfl⟩
      have hwl : w.data.toList = t.data.toList.take a := by rw [hw, ext_list]; rfl
      have hws : w.size ≤ 100000 := by rw [hw, ByteArray.size_extract]; omega
      have hts1 : IntKind.i64.wrap ((t.size : Int) - 1) = (t.size : Int) - 1 := wr64 (by omega) (by omega)
      have hwr := wrN (k := k) (by omega)
      have hva := wrN (k := a) (by omega)
      rcases Nat.lt_or_ge a t.size with hlt | hge
      · obtain ⟨d, hd⟩ : ∃ d, t.data.toList[a]? = some d := ⟨_, List.getElem?_eq_getElem (by omega)⟩
        have gd : t[a]? = some d := by rw [bget, hd]
        have hlt' : (a : Int) < (t.size : Int) := by omega
        by_cases y32 : d = 32
        case neg =>
          have k32 : ((d.toNat : Int) != 32) = true := bne_iff_ne.2 (fun h => y32 (UInt8.toNat_inj.1 (by show d.toNat = 32; omega)))
          simp only [↓evP, evB, stB, reduceIte, reduceCtorEq, Nat.reduceEqDiff, Nat.reduceAdd, Nat.reduceMul, Nat.reduceLeDiff, Nat.reduceLT, Nat.reduceSub, Nat.reduceBEq, h5, h7, hlt', decide_true, ha0, gd, k32, Int.toNat_natCast]
          exact ⟨_, by omega, (by repeat' (first | assumption | exact within_over.mpr trivial | exact Within.refl _ _ _ | (refine within_ap ?_ rfl rfl) | (refine within_ap0 ?_ rfl))), a + 1, rfl, by omega, by simp only [stB, reduceIte, reduceCtorEq, Nat.reduceEqDiff, Nat.reduceAdd, Nat.reduceMul, Nat.reduceLeDiff, Nat.reduceLT, Nat.reduceSub, Nat.reduceBEq, h7]; rw [hva], tw_step hd htw y32⟩
        have k32 : ((d.toNat : Int) != 32) = false := by rw [y32]; rfl
        have htw := tw_end hd htw y32
        simp only [↓evP, evB, stB, reduceIte, reduceCtorEq, Nat.reduceEqDiff, Nat.reduceAdd, Nat.reduceMul, Nat.reduceLeDiff, Nat.reduceLT, Nat.reduceSub, Nat.reduceBEq, h5, h7, hlt', decide_true, ha0, hal, gd, k32, nn0, Int.toNat_natCast, Int.toNat_zero, ← hw]
        refine callOps_intro [pI (numF w.data.toList).1, pB (numF w.data.toList).2] (R_num.mk hws) ?_
        cases hb : (numF w.data.toList).2 with
        | false =>
          have hr : refC s.data.toList = none := by
            rw [hmid, hW]
            cases hn : 8 - k with
            | zero => rw [refW_full hE]; rfl
            | succ n => rw [refW_step hE htw (by omega), ← hwl, hb]; rfl
          have e5 : (ckCells zC).length = 8 := rfl
          simp only [↓evP, evB, stB, reduceIte, reduceCtorEq, Nat.reduceEqDiff, Nat.reduceAdd, Nat.reduceMul, Nat.reduceLeDiff, Nat.reduceLT, Nat.reduceSub, Nat.reduceBEq, h5, h6, h7, g2, g4, o2, o4, hr, readPa, pr25, e5]
          rfl
        | true =>
          by_cases z8 : k = 8
          · have hr : refC s.data.toList = none := by rw [hmid, hW, z8, refW_full hE]; rfl
            have k8 : ((k : Int) == 8) = true := beq_iff_eq.2 (by omega)
            have e5 : (ckCells zC).length = 8 := rfl
            simp only [↓evP, evB, stB, reduceIte, reduceCtorEq, Nat.reduceEqDiff, Nat.reduceAdd, Nat.reduceMul, Nat.reduceLeDiff, Nat.reduceLT, Nat.reduceSub, Nat.reduceBEq, h5, h6, h7, k8, g2, g4, o2, o4, hr, readPa, pr25, e5]
            rfl
          have k8 : ((k : Int) == 8) = false := beq_eq_false_iff_ne.2 (by omega)
          have h8k : 8 - k = (7 - k) + 1 := by omega
          rw [h8k, refW_step hE htw (by omega), ← hwl, hb] at hW
          by_cases z1 : a = t.size - 1
          · have hr : refC s.data.toList = none := by rw [hmid, hW, if_neg (by rintro ⟨-, h⟩; omega)]; rfl
            have k1 : ((a : Int) == (t.size : Int) - 1) = true := beq_iff_eq.2 (by omega)
            have e5 : (ckCells zC).length = 8 := rfl
            simp only [↓evP, evB, stB, reduceIte, reduceCtorEq, Nat.reduceEqDiff, Nat.reduceAdd, Nat.reduceMul, Nat.reduceLeDiff, Nat.reduceLT, Nat.reduceSub, Nat.reduceBEq, h5, h6, h7, k8, hts1, k1, g2, g4, o2, o4, hr, readPa, pr25, e5]
            rfl
          have k1 : ((a : Int) == (t.size : Int) - 1) = false := beq_eq_false_iff_ne.2 (by omega)
          have k9 : ((a : Int) == (t.size : Int)) = false := beq_eq_false_iff_ne.2 (by omega)
          rw [if_pos ⟨rfl, by omega⟩, if_neg (by omega), map_app] at hW
          have hk8' : (k : Int) < ((8 : Nat) : Int) := by omega
          have hk0 : (0 : Int) ≤ (k : Int) := by omega
          have e3 : k + 1 ≤ (ckCells (padC l)).length := by rw [ckCells_length, padC_length (by omega)]; omega
          have e4 := (ckCells_set (padC l) k (numF w.data.toList).1 (by rw [padC_length (by omega)]; omega)).trans (congrArg ckCells ((congrArg (fun i => (padC l).set i (numF w.data.toList).1) hlk.symm).trans (padC_set (by omega))))
          have b1 : (0 : Int) ≤ ((a + 1 : Nat) : Int) := by omega
          have b2 : ((a + 1 : Nat) : Int) ≤ (t.size : Int) := by omega
          obtain ⟨t', ht'⟩ : ∃ t', t' = t.extract (a + 1) t.size := ⟨_, rfl⟩
          have ht'l : t'.data.toList = t.data.toList.drop (a + 1) := by rw [ht', ext_list, List.take_of_length_le (by omega)]
          have ht's : t'.size = t.size - (a + 1) := by rw [ht', ByteArray.size_extract]; omega
          rw [← ht'l] at hW
          have hv := numF_ok w.data.toList
          simp only [↓evP, evB, stB, reduceIte, reduceCtorEq, Nat.reduceEqDiff, Nat.reduceAdd, Nat.reduceMul, Nat.reduceLeDiff, Nat.reduceLT, Nat.reduceSub, Nat.reduceBEq, h5, h6, h7, k8, hts1, k1, k9, hk8', hk0, g2, g4, o2, o4, e3, hwr, hva, b1, b2, Nat.mul_one, Nat.zero_add, Int.toNat_natCast, le_refl_int, ← ht']
          exact ⟨_, by omega, (by repeat' (first | assumption | exact within_over.mpr trivial | exact Within.refl _ _ _ | (refine within_ap ?_ rfl rfl) | (refine within_ap0 ?_ rfl) | (refine within_over_in ?_ rfl rfl))), k + 1, l ++ [(numF w.data.toList).1], t', rfl, by simp; omega, (fun x hx => by
            rcases List.mem_append.1 hx with hx | hx
            · exact hok x hx
            · rw [List.mem_singleton.1 hx]; exact hv), by omega, by omega, by rw [hW]; congr 2; omega, by simp only [stB, reduceIte, reduceCtorEq, Nat.reduceEqDiff, Nat.reduceAdd, Nat.reduceMul, Nat.reduceLeDiff, Nat.reduceLT, Nat.reduceSub, Nat.reduceBEq], by simp only [stB, reduceIte, reduceCtorEq, Nat.reduceEqDiff, Nat.reduceAdd, Nat.reduceMul, Nat.reduceLeDiff, Nat.reduceLT, Nat.reduceSub, Nat.reduceBEq], by simp only [stB, reduceIte, reduceCtorEq, Nat.reduceEqDiff, Nat.reduceAdd, Nat.reduceMul, Nat.reduceLeDiff, Nat.reduceLT, Nat.reduceSub, Nat.reduceBEq, g2], by simp only [stB, reduceIte, reduceCtorEq, Nat.reduceEqDiff, Nat.reduceAdd, Nat.reduceMul, Nat.reduceLeDiff, Nat.reduceLT, Nat.reduceSub, Nat.reduceBEq, g4], by simp only [stB, reduceIte, reduceCtorEq, Nat.reduceEqDiff, Nat.reduceAdd, Nat.reduceMul, Nat.reduceLeDiff, Nat.reduceLT, Nat.reduceSub, Nat.reduceBEq, o2], by simp only [stB, reduceIte, reduceCtorEq, Nat.reduceEqDiff, Nat.reduceAdd, Nat.reduceMul, Nat.reduceLeDiff, Nat.reduceLT, Nat.reduceSub, Nat.reduceBEq, o4, wrF_cells]; rw [e4]⟩
      · have hat : a = t.size := by omega
        have hlt' : ¬ ((a : Int) < (t.size : Int)) := by omega
        have htw : t.data.toList.takeWhile (· != 32) = t.data.toList.take a := by rw [htw, List.drop_eq_nil_of_le (by omega)]; simp
        simp only [↓evP, evB, stB, reduceIte, reduceCtorEq, Nat.reduceEqDiff, Nat.reduceAdd, Nat.reduceMul, Nat.reduceLeDiff, Nat.reduceLT, Nat.reduceSub, Nat.reduceBEq, h5, h7, hlt', decide_false, ha0, hal, nn0, Int.toNat_natCast, Int.toNat_zero, ← hw]
        refine callOps_intro [pI (numF w.data.toList).1, pB (numF w.data.toList).2] (R_num.mk hws) ?_
        cases hb : (numF w.data.toList).2 with
        | false =>
          have hr : refC s.data.toList = none := by
            rw [hmid, hW]
            cases hn : 8 - k with
            | zero => rw [refW_full hE]; rfl
            | succ n => rw [refW_step hE htw (by omega), ← hwl, hb]; rfl
          have e5 : (ckCells zC).length = 8 := rfl
          simp only [↓evP, evB, stB, reduceIte, reduceCtorEq, Nat.reduceEqDiff, Nat.reduceAdd, Nat.reduceMul, Nat.reduceLeDiff, Nat.reduceLT, Nat.reduceSub, Nat.reduceBEq, h5, h6, h7, g2, g4, o2, o4, hr, readPa, pr25, e5]
          rfl
        | true =>
          by_cases z8 : k = 8
          · have hr : refC s.data.toList = none := by rw [hmid, hW, z8, refW_full hE]; rfl
            have k8 : ((k : Int) == 8) = true := beq_iff_eq.2 (by omega)
            have e5 : (ckCells zC).length = 8 := rfl
            simp only [↓evP, evB, stB, reduceIte, reduceCtorEq, Nat.reduceEqDiff, Nat.reduceAdd, Nat.reduceMul, Nat.reduceLeDiff, Nat.reduceLT, Nat.reduceSub, Nat.reduceBEq, h5, h6, h7, k8, g2, g4, o2, o4, hr, readPa, pr25, e5]
            rfl
          have k8 : ((k : Int) == 8) = false := beq_eq_false_iff_ne.2 (by omega)
          have h8k : 8 - k = (7 - k) + 1 := by omega
          rw [h8k, refW_step hE htw (by omega), ← hwl, hb, if_pos ⟨rfl, by omega⟩, if_pos (by omega), Option.map_some] at hW
          have htpos : t.data.toList.length ≠ 0 := fun h => hE (List.eq_nil_of_length_eq_zero h)
          have k1 : ((a : Int) == (t.size : Int) - 1) = false := beq_eq_false_iff_ne.2 (by omega)
          have k9 : ((a : Int) == (t.size : Int)) = true := beq_iff_eq.2 (by omega)
          have hk8' : (k : Int) < ((8 : Nat) : Int) := by omega
          have hk0 : (0 : Int) ≤ (k : Int) := by omega
          have e3 : k + 1 ≤ (ckCells (padC l)).length := by rw [ckCells_length, padC_length (by omega)]; omega
          have e4 := (ckCells_set (padC l) k (numF w.data.toList).1 (by rw [padC_length (by omega)]; omega)).trans (congrArg ckCells ((congrArg (fun i => (padC l).set i (numF w.data.toList).1) hlk.symm).trans (padC_set (by omega))))
          have hv := numF_ok w.data.toList
          have hl8 : (l ++ [(numF w.data.toList).1]).length ≤ 8 := by simp; omega
          have hok2 : OK64 (l ++ [(numF w.data.toList).1]) := fun x hx => by
            rcases List.mem_append.1 hx with hx | hx
            · exact hok x hx
            · rw [List.mem_singleton.1 hx]; exact hv
          obtain ⟨a1, a2⟩ := ld8 (padC_length hl8)
          have a5 : (ckCells (padC (l ++ [(numF w.data.toList).1]))).length = 8 := by rw [ckCells_length, padC_length hl8]
          simp only [↓evP, evB, stB, reduceIte, reduceCtorEq, Nat.reduceEqDiff, Nat.reduceAdd, Nat.reduceMul, Nat.reduceLeDiff, Nat.reduceLT, Nat.reduceSub, Nat.reduceBEq, h5, h6, h7, k8, hts1, k1, k9, hk8', hk0, g2, g4, o2, o4, e3, e4, hwr, wrF_cells, Nat.mul_one, Nat.zero_add, Int.toNat_natCast, a1, a2, a5, decide_false, ckCells_dt]
          refine callOps_intro [pS (strB (ctext (padC (l ++ [(numF w.data.toList).1]))))] (R_text.mk (padC_length hl8) (padC_ok hok2)) ?_
          have hse := strings_eq (strB (ctext (padC (l ++ [(numF w.data.toList).1])))) s
          rw [show (strB (ctext (padC (l ++ [(numF w.data.toList).1])))).data.toList = ctext (padC (l ++ [(numF w.data.toList).1])) from rfl] at hse
          rw [hW] at hmid
          by_cases hq : ctext (padC (l ++ [(numF w.data.toList).1])) = s.data.toList
          · have hr : refC s.data.toList = some (padC (l ++ [(numF w.data.toList).1])) := by rw [hmid]; simp only; rw [if_pos hq]
            rw [decide_eq_true hq] at hse
            have e6 : (ckCells zC).length = 8 := rfl
            have e7 : wrAt (ckCells zC) 0 (ckCells (padC (l ++ [(numF w.data.toList).1]))) = ckCells (padC (l ++ [(numF w.data.toList).1])) := wrAt_full (by rw [a5]; rfl)
            simp only [↓evP, evB, stB, reduceIte, reduceCtorEq, Nat.reduceEqDiff, Nat.reduceAdd, Nat.reduceMul, Nat.reduceLeDiff, Nat.reduceLT, Nat.reduceSub, Nat.reduceBEq, h5, h6, h7, k8, hts1, k1, k9, hk8', hk0, g2, g4, o2, o4, e3, e4, hwr, wrF_cells, Nat.mul_one, Nat.zero_add, Int.toNat_natCast, hse, a1, a2, a5, e6, e7, wr_new8 (padC_length hl8), ckCells_dt, hr, readPa, ckPa, pI, pr25]
          · have hr : refC s.data.toList = none := by rw [hmid]; simp only; rw [if_neg hq]
            rw [decide_eq_false hq] at hse
            have e6 : (ckCells zC).length = 8 := rfl
            simp only [↓evP, evB, stB, reduceIte, reduceCtorEq, Nat.reduceEqDiff, Nat.reduceAdd, Nat.reduceMul, Nat.reduceLeDiff, Nat.reduceLT, Nat.reduceSub, Nat.reduceBEq, h5, h6, h7, k8, hts1, k1, k9, hk8', hk0, g2, g4, o2, o4, e3, e4, hwr, wrF_cells, Nat.mul_one, Nat.zero_add, Int.toNat_natCast, hse, a1, a2, a5, e6, hr, readPa, pr25]
            rfl
/-- the reference reads what the program reads -/
theorem s_rRead : Spec Tryd.prog 25 R_read := by
  rintro ps rs ⟨s, rfl, hs, rfl⟩
  exact s_rRead0 _ _ ⟨s, rfl, hs, by rw [refC_eq]⟩
end Go.Proofs.YthnjbnfnljjepaaDoor
end
section
set_option linter.unusedSimpArgs false
set_option linter.unusedVariables false
namespace Go.Proofs.YthnjbnfnljjepaaDoor
open Go Go.RowKit
set_option maxRecDepth 100000
set_option maxHeartbeats 4000000

def R_awake32 (ps rs : List Pa) : Prop := ps = [] ∧ rs = [pB true]
def env_awake32 : Env := e1 16 R_cmp (e1 23 R_read (e1 13 R_leq (e1 15 (R_zip fJ) (e1 20 R_tick (e1 22 R_text e0)))))
theorem env_awake32_ok : EnvOK Tryd.prog env_awake32 := EnvOK.e1 s_cCompare (EnvOK.e1 s_cRead (EnvOK.e1 s_cLeq (EnvOK.e1 s_cJoin (EnvOK.e1 s_cTick (EnvOK.e1 s_cText EnvOK.e0)))))
theorem ok_of (c : Ck) (h : (c.all fun x => decide (-9223372036854775808 ≤ x) && decide (x ≤ 9223372036854775807)) = true) : OK64 c := fun x hx => by
  have := List.all_eq_true.1 h x hx
  simp only [Bool.and_eq_true, decide_eq_true_eq] at this
  exact this
theorem read_bad : readC [91, 49, 32, 48, 93] = none := by kernel_rfl
theorem text_zero : ctext zC = [91, 93] := by kernel_rfl
theorem s_awake32 : Spec Tryd.prog 11 R_awake32 := by
  refine sp11 env_awake32_ok ?_
  rintro ps rs ⟨rfl, rfl⟩
  refine ⟨by simp, ?_⟩
  unfold pc11
  refine pwp_start ?_
  simp only [↓evP, evB, stB, reduceIte, reduceCtorEq, Nat.reduceEqDiff, Nat.reduceAdd, Nat.reduceMul, Nat.reduceLeDiff, Nat.reduceLT, Nat.reduceSub, Nat.reduceBEq]
  refine callOps_intro [pI 0, pB false] ⟨[1, 0, 0, 0, 0, 0, 0, 0], [0, 1, 0, 0, 0, 0, 0, 0], rfl, ⟨rfl, rfl⟩, by rfl⟩ ?_
  simp only [↓evP, evB, stB, reduceIte, reduceCtorEq, Nat.reduceEqDiff, Nat.reduceAdd, Nat.reduceMul, Nat.reduceLeDiff, Nat.reduceLT, Nat.reduceSub, Nat.reduceBEq]
  refine callOps_intro [ckPa zC, pI 8] ⟨⟨#[91, 49, 32, 48, 93]⟩, rfl, by decide, by show _ = readPa (readC [91, 49, 32, 48, 93]); rw [read_bad]; rfl⟩ ?_
  simp only [↓evP, evB, stB, reduceIte, reduceCtorEq, Nat.reduceEqDiff, Nat.reduceAdd, Nat.reduceMul, Nat.reduceLeDiff, Nat.reduceLT, Nat.reduceSub, Nat.reduceBEq, ckPa, ckRow, zC, List.map_cons, List.map_nil]
  refine callOps_intro [pB true] ⟨[1, 2, 0, 0, 0, 0, 0, 0], [1, 3, 0, 0, 0, 0, 0, 0], rfl, ⟨rfl, rfl⟩, by rfl⟩ ?_
  simp only [↓evP, evB, stB, reduceIte, reduceCtorEq, Nat.reduceEqDiff, Nat.reduceAdd, Nat.reduceMul, Nat.reduceLeDiff, Nat.reduceLT, Nat.reduceSub, Nat.reduceBEq, ckPa, ckRow, zC, List.map_cons, List.map_nil]
  refine callOps_intro [ckPa [1, 2, 4, 0, 0, 0, 0, 0]] ⟨[1, 0, 4, 0, 0, 0, 0, 0], [0, 2, 0, 0, 0, 0, 0, 0], rfl, ⟨rfl, rfl⟩, by rfl⟩ ?_
  have q1 : ((1 : Int) == 1) = true := rfl
  have q2 : ((2 : Int) == 2) = true := rfl
  have q4 : ((4 : Int) == 4) = true := rfl
  have q0 : ((0 : Int) == 0) = true := rfl
  have q8 : ((8 : Int) == 8) = true := rfl
  simp only [↓evP, evB, stB, reduceIte, reduceCtorEq, Nat.reduceEqDiff, Nat.reduceAdd, Nat.reduceMul, Nat.reduceLeDiff, Nat.reduceLT, Nat.reduceSub, Nat.reduceBEq, ckPa, ckRow, zC, List.map_cons, List.map_nil, q0, q1, q2, q4, Bool.and_true, Bool.and_self]
  refine callOps_intro [ckPa [1, 0, 1, 0, 0, 0, 0, 0]] ⟨[1, 0, 0, 0, 0, 0, 0, 0], 2, rfl, ⟨rfl, ok_of _ (by decide)⟩, by rfl⟩ ?_
  simp only [↓evP, evB, stB, reduceIte, reduceCtorEq, Nat.reduceEqDiff, Nat.reduceAdd, Nat.reduceMul, Nat.reduceLeDiff, Nat.reduceLT, Nat.reduceSub, Nat.reduceBEq, ckPa, ckRow, zC, List.map_cons, List.map_nil, q0, q1, q2, q4, Bool.and_true, Bool.and_self]
  refine callOps_intro [pS (strB [91, 93])] ⟨zC, rfl, ⟨rfl, ok_of _ (by decide)⟩, by rw [text_zero]⟩ ?_
  have hse : ((strB [91, 93]).toList == (⟨#[91, 93]⟩ : ByteArray).toList) = true := by rw [strings_eq]; decide
  simp only [↓evP, evB, stB, reduceIte, reduceCtorEq, Nat.reduceEqDiff, Nat.reduceAdd, Nat.reduceMul, Nat.reduceLeDiff, Nat.reduceLT, Nat.reduceSub, Nat.reduceBEq, hse, q8, pr11]
end Go.Proofs.YthnjbnfnljjepaaDoor
end
section
set_option linter.unusedSimpArgs false
set_option linter.unusedVariables false
namespace Go.Proofs.YthnjbnfnljjepaaDoor
open Go Go.RowKit

theorem leqC_cons (x y : Int) (a b : Ck) : leqC (x :: a) (y :: b) = (decide (x ≤ y) && leqC a b) := by simp [leqC]
theorem zipC_cons (f : Int → Int → Int) (x y : Int) (a b : Ck) : zipC f (x :: a) (y :: b) = f x y :: zipC f a b := rfl
theorem leqC_refl : ∀ a : Ck, leqC a a = true
  | [] => rfl
  | x :: a => by rw [leqC_cons, leqC_refl a]; simp
theorem leqC_antisymm : ∀ {a b : Ck}, a.length = b.length → leqC a b = true → leqC b a = true → a = b
  | [], [], _, _, _ => rfl
  | x :: a, y :: b, h, h1, h2 => by
    rw [leqC_cons] at h1 h2
    simp only [Bool.and_eq_true, decide_eq_true_eq] at h1 h2
    rw [leqC_antisymm (by simpa using h) h1.2 h2.2, show x = y by omega]
theorem leqC_trans : ∀ {a b c : Ck}, a.length = b.length → b.length = c.length → leqC a b = true → leqC b c = true → leqC a c = true
  | [], [], [], _, _, _, _ => rfl
  | x :: a, y :: b, z :: c, h, k, h1, h2 => by
    rw [leqC_cons] at h1 h2 ⊢
    simp only [Bool.and_eq_true, decide_eq_true_eq] at h1 h2 ⊢
    exact ⟨by omega, leqC_trans (by simpa using h) (by simpa using k) h1.2 h2.2⟩
theorem fJ_le (x y z : Int) : decide (fJ x y ≤ z) = (decide (x ≤ z) && decide (y ≤ z)) := by
  rw [Bool.eq_iff_iff]; simp only [Bool.and_eq_true, decide_eq_true_eq]; unfold fJ; split <;> omega
theorem fM_le (x y z : Int) : decide (z ≤ fM x y) = (decide (z ≤ x) && decide (z ≤ y)) := by
  rw [Bool.eq_iff_iff]; simp only [Bool.and_eq_true, decide_eq_true_eq]; unfold fM; split <;> omega
theorem join_ub1 : ∀ {a b : Ck}, a.length = b.length → leqC a (zipC fJ a b) = true
  | [], [], _ => rfl
  | x :: a, y :: b, h => by
    rw [zipC_cons, leqC_cons, join_ub1 (by simpa using h)]
    simp only [Bool.and_true, decide_eq_true_eq]; unfold fJ; split <;> omega
theorem join_ub2 : ∀ {a b : Ck}, a.length = b.length → leqC b (zipC fJ a b) = true
  | [], [], _ => rfl
  | x :: a, y :: b, h => by
    rw [zipC_cons, leqC_cons, join_ub2 (by simpa using h)]
    simp only [Bool.and_true, decide_eq_true_eq]; unfold fJ; split <;> omega
theorem join_lub : ∀ {a b c : Ck}, a.length = b.length → b.length = c.length → leqC (zipC fJ a b) c = (leqC a c && leqC b c)
  | [], [], [], _, _ => rfl
  | x :: a, y :: b, z :: c, h, k => by
    rw [zipC_cons, leqC_cons, leqC_cons, leqC_cons, join_lub (by simpa using h) (by simpa using k), fJ_le]
    cases decide (x ≤ z) <;> cases decide (y ≤ z) <;> cases leqC a c <;> rfl
theorem meet_lb1 : ∀ {a b : Ck}, a.length = b.length → leqC (zipC fM a b) a = true
  | [], [], _ => rfl
  | x :: a, y :: b, h => by
    rw [zipC_cons, leqC_cons, meet_lb1 (by simpa using h)]
    simp only [Bool.and_true, decide_eq_true_eq]; unfold fM; split <;> omega
theorem meet_lb2 : ∀ {a b : Ck}, a.length = b.length → leqC (zipC fM a b) b = true
  | [], [], _ => rfl
  | x :: a, y :: b, h => by
    rw [zipC_cons, leqC_cons, meet_lb2 (by simpa using h)]
    simp only [Bool.and_true, decide_eq_true_eq]; unfold fM; split <;> omega
theorem meet_glb : ∀ {a b c : Ck}, a.length = b.length → b.length = c.length → leqC c (zipC fM a b) = (leqC c a && leqC c b)
  | [], [], [], _, _ => rfl
  | x :: a, y :: b, z :: c, h, k => by
    rw [zipC_cons, leqC_cons, leqC_cons, leqC_cons, meet_glb (by simpa using h) (by simpa using k), fM_le]
    cases decide (z ≤ x) <;> cases decide (z ≤ y) <;> cases leqC c a <;> rfl
theorem zipC_comm {f : Int → Int → Int} (hf : ∀ x y, f x y = f y x) : ∀ (a b : Ck), zipC f a b = zipC f b a
  | [], [] => rfl
  | [], _ :: _ => rfl
  | _ :: _, [] => rfl
  | x :: a, y :: b => by rw [zipC_cons, zipC_cons, hf, zipC_comm hf a b]
theorem zipC_idem {f : Int → Int → Int} (hf : ∀ x, f x x = x) : ∀ (a : Ck), zipC f a a = a
  | [] => rfl
  | x :: a => by rw [zipC_cons, hf, zipC_idem hf a]
theorem zipC_assoc {f : Int → Int → Int} (hf : ∀ x y z, f (f x y) z = f x (f y z)) : ∀ (a b c : Ck), zipC f (zipC f a b) c = zipC f a (zipC f b c)
  | x :: a, y :: b, z :: c => by rw [zipC_cons, zipC_cons, zipC_cons, zipC_cons, hf, zipC_assoc hf a b c]
  | [], b, c => by simp [zipC]
  | _ :: _, [], c => by simp [zipC]
  | _ :: _, _ :: _, [] => by simp [zipC]
theorem zipC_absorb {f g : Int → Int → Int} (hf : ∀ x y, f x (g x y) = x) : ∀ {a b : Ck}, a.length = b.length → zipC f a (zipC g a b) = a
  | [], [], _ => rfl
  | x :: a, y :: b, h => by rw [zipC_cons, zipC_cons, hf, zipC_absorb hf (by simpa using h)]
theorem fJ_comm (x y : Int) : fJ x y = fJ y x := by unfold fJ; split <;> split <;> omega
theorem fM_comm (x y : Int) : fM x y = fM y x := by unfold fM; split <;> split <;> omega
theorem fJ_idem (x : Int) : fJ x x = x := by unfold fJ; split <;> omega
theorem fM_idem (x : Int) : fM x x = x := by unfold fM; split <;> omega
theorem fJ_assoc (x y z : Int) : fJ (fJ x y) z = fJ x (fJ y z) := by unfold fJ; repeat' split; all_goals omega
theorem fM_assoc (x y z : Int) : fM (fM x y) z = fM x (fM y z) := by unfold fM; repeat' split; all_goals omega
theorem fJ_fM (x y : Int) : fJ x (fM x y) = x := by unfold fJ fM; repeat' split; all_goals omega
theorem fM_fJ (x y : Int) : fM x (fJ x y) = x := by unfold fM fJ; repeat' split; all_goals omega
theorem leqC_set : ∀ {c : Ck} {i : Nat}, leqC c (c.set i (c.getD i 0 + 1)) = true
  | [], _ => rfl
  | x :: c, 0 => by rw [List.set_cons_zero, leqC_cons, leqC_refl]; simp; omega
  | x :: c, i + 1 => by
    rw [List.set_cons_succ, leqC_cons]
    have := leqC_set (c := c) (i := i)
    simp only [List.getD_cons_succ, this]
    simp
theorem leqC_tick (c : Ck) (g : Int) : leqC c (tickC c g) = true := by
  unfold tickC
  split
  · exact leqC_set
  · exact leqC_refl c
end Go.Proofs.YthnjbnfnljjepaaDoor
end
section
set_option linter.unusedSimpArgs false
set_option linter.unusedVariables false
namespace Go.Proofs.YthnjbnfnljjepaaDoor
open Go Go.RowKit
set_option maxRecDepth 100000
set_option maxHeartbeats 4000000

theorem R_leq.mk' {a b : Ck} (ha : a.length = 8) (hb : b.length = 8) {v : Bool} (h : leqC a b = v) : R_leq [ckPa a, ckPa b] [pB v] := ⟨a, b, rfl, ⟨ha, hb⟩, by rw [h]⟩
theorem eq8self {a : Ck} (ha : a.length = 8) : eqCls [false, false, false, false, false, false, false, false] (ckCells a) (ckCells a) = some true := by rw [eq8 ha ha]; simp
theorem ck_len {a : Ck} (h : a.length = 8) : (ckCells a).length = 8 := by rw [ckCells_length, h]
def env32 : Env := e1 11 R_awake32 (e1 13 R_leq (e1 18 R_leq (e1 15 (R_zip fJ) (e1 19 (R_zip fJ) (e1 12 (R_zip fM) (e1 14 (R_zip fM) (e1 16 R_cmp (e1 17 R_cmp (e1 20 R_tick (e1 21 R_tick e0))))))))))
theorem env32_ok : EnvOK Tryd.prog env32 := EnvOK.e1 s_awake32 (EnvOK.e1 s_cLeq (EnvOK.e1 s_rLeq (EnvOK.e1 s_cJoin (EnvOK.e1 s_rJoin (EnvOK.e1 s_cMeet (EnvOK.e1 s_rMeet (EnvOK.e1 s_cCompare (EnvOK.e1 s_rCompare (EnvOK.e1 s_cTick (EnvOK.e1 s_rTick EnvOK.e0))))))))))
def R_order (ps rs : List Pa) : Prop := ∃ (a : Ck) (b : Ck), ps = [ckPa a, ckPa b] ∧ (a.length = 8 ∧ b.length = 8) ∧ rs = [pB true]
theorem s_order : Spec Tryd.prog 5 R_order := by
  refine sp5 env32_ok ?_
  rintro ps rs ⟨a, b, rfl, ⟨ha, hb⟩, rfl⟩
  refine ⟨by simp, ?_⟩
  obtain ⟨a1, a2⟩ := ld8 ha
  have a5 := ck_len ha
  obtain ⟨b1, b2⟩ := ld8 hb
  have b5 := ck_len hb
  unfold pc5
  refine pwp_start ?_
  simp only [↓evP, evB, stB, reduceIte, reduceCtorEq, Nat.reduceEqDiff, Nat.reduceAdd, Nat.reduceMul, Nat.reduceLeDiff, Nat.reduceLT, Nat.reduceSub, Nat.reduceBEq, ckPa, ckRow_cells]
  refine callOps_intro [pB true] ⟨rfl, rfl⟩ ?_
  simp only [↓evP, evB, stB, reduceIte, reduceCtorEq, Nat.reduceEqDiff, Nat.reduceAdd, Nat.reduceMul, Nat.reduceLeDiff, Nat.reduceLT, Nat.reduceSub, Nat.reduceBEq, a1, a2, a5, b1, b2, b5, ckCells_dt, ckPa, ckRow_cells]
  refine callOps_intro [pI (cmpC a b).1, pB (cmpC a b).2] (by exact R_cmp.mk ha hb) ?_
  simp only [↓evP, evB, stB, reduceIte, reduceCtorEq, Nat.reduceEqDiff, Nat.reduceAdd, Nat.reduceMul, Nat.reduceLeDiff, Nat.reduceLT, Nat.reduceSub, Nat.reduceBEq, a1, a2, a5, b1, b2, b5, ckCells_dt, ckPa, ckRow_cells]
  refine callOps_intro [pI (cmpC a b).1, pB (cmpC a b).2] (by exact R_cmp.mk ha hb) ?_
  simp only [↓evP, evB, stB, reduceIte, reduceCtorEq, Nat.reduceEqDiff, Nat.reduceAdd, Nat.reduceMul, Nat.reduceLeDiff, Nat.reduceLT, Nat.reduceSub, Nat.reduceBEq, a1, a2, a5, b1, b2, b5, ckCells_dt, ckPa, ckRow_cells]
  refine callD_intro [pB (leqC a b)] (by exact R_leq.mk ha hb) ?_
  simp only [↓evP, evB, stB, reduceIte, reduceCtorEq, Nat.reduceEqDiff, Nat.reduceAdd, Nat.reduceMul, Nat.reduceLeDiff, Nat.reduceLT, Nat.reduceSub, Nat.reduceBEq, a1, a2, a5, b1, b2, b5, ckCells_dt, ckPa, ckRow_cells]
  refine callD_intro [pB (leqC a b)] (by exact R_leq.mk ha hb) ?_
  have q1 : (leqC a b == leqC a b) = true := by simp
  have q2 : ((cmpC a b).1 == (cmpC a b).1) = true := by simp
  have q3 : ((cmpC a b).2 == (cmpC a b).2) = true := by simp
  simp only [↓evP, evB, stB, reduceIte, reduceCtorEq, Nat.reduceEqDiff, Nat.reduceAdd, Nat.reduceMul, Nat.reduceLeDiff, Nat.reduceLT, Nat.reduceSub, Nat.reduceBEq, a1, a2, a5, b1, b2, b5, ckCells_dt, ckPa, ckRow_cells, q1, q2, q3, pr5]
  exact (by unfold Drw; refine Eq.trans (b := true) ?_ rfl; kernel_rfl)
def R_ltick (ps rs : List Pa) : Prop := ∃ (c : Ck) (g : Int), ps = [ckPa c, pI g] ∧ (c.length = 8 ∧ OK64 c) ∧ rs = [pB true]
theorem s_ltick : Spec Tryd.prog 8 R_ltick := by
  refine sp8 env32_ok ?_
  rintro ps rs ⟨c, g, rfl, ⟨hc, ho⟩, rfl⟩
  refine ⟨by simp, ?_⟩
  obtain ⟨c1, c2⟩ := ld8 hc
  have c5 := ck_len hc
  unfold pc8
  refine pwp_start ?_
  simp only [↓evP, evB, stB, reduceIte, reduceCtorEq, Nat.reduceEqDiff, Nat.reduceAdd, Nat.reduceMul, Nat.reduceLeDiff, Nat.reduceLT, Nat.reduceSub, Nat.reduceBEq, ckPa, ckRow_cells]
  refine callOps_intro [pB true] ⟨rfl, rfl⟩ ?_
  simp only [↓evP, evB, stB, reduceIte, reduceCtorEq, Nat.reduceEqDiff, Nat.reduceAdd, Nat.reduceMul, Nat.reduceLeDiff, Nat.reduceLT, Nat.reduceSub, Nat.reduceBEq, c1, c2, c5, ckCells_dt, ckPa, ckRow_cells]
  refine callOps_intro [ckPa (tickC c g)] (by exact R_tick.mk hc ho) ?_
  have ht : (tickC c g).length = 8 := by rw [tickC_length, hc]
  obtain ⟨t1, t2⟩ := ld8 ht
  have t5 := ck_len ht
  have te := eq8self ht
  simp only [↓evP, evB, stB, reduceIte, reduceCtorEq, Nat.reduceEqDiff, Nat.reduceAdd, Nat.reduceMul, Nat.reduceLeDiff, Nat.reduceLT, Nat.reduceSub, Nat.reduceBEq, c1, c2, c5, t1, t2, t5, wr_new8 ht, ckCells_dt, ckPa, ckRow_cells]
  refine callD_intro [ckPa (tickC c g)] (by exact R_tick.mk hc ho) ?_
  simp only [↓evP, evB, stB, reduceIte, reduceCtorEq, Nat.reduceEqDiff, Nat.reduceAdd, Nat.reduceMul, Nat.reduceLeDiff, Nat.reduceLT, Nat.reduceSub, Nat.reduceBEq, c1, c2, c5, t1, t2, t5, te, wr_new8 ht, ckCells_dt, ckPa, ckRow_cells]
  refine callD_intro [pB true] (by exact R_leq.mk' hc ht (leqC_tick c g)) ?_
  simp only [↓evP, evB, stB, reduceIte, reduceCtorEq, Nat.reduceEqDiff, Nat.reduceAdd, Nat.reduceMul, Nat.reduceLeDiff, Nat.reduceLT, Nat.reduceSub, Nat.reduceBEq, pr8]
  exact (by unfold Drw; refine Eq.trans (b := true) ?_ rfl; kernel_rfl)
def R_least (ps rs : List Pa) : Prop := ∃ (a : Ck) (b : Ck) (c : Ck), ps = [ckPa a, ckPa b, ckPa c] ∧ (a.length = 8 ∧ b.length = 8 ∧ c.length = 8) ∧ rs = [pB true]
theorem s_least : Spec Tryd.prog 7 R_least := by
  refine sp7 env32_ok ?_
  rintro ps rs ⟨a, b, c, rfl, ⟨ha, hb, hc⟩, rfl⟩
  refine ⟨by simp, ?_⟩
  obtain ⟨a1, a2⟩ := ld8 ha
  have a5 := ck_len ha
  obtain ⟨b1, b2⟩ := ld8 hb
  have b5 := ck_len hb
  obtain ⟨c1, c2⟩ := ld8 hc
  have c5 := ck_len hc
  unfold pc7
  refine pwp_start ?_
  simp only [↓evP, evB, stB, reduceIte, reduceCtorEq, Nat.reduceEqDiff, Nat.reduceAdd, Nat.reduceMul, Nat.reduceLeDiff, Nat.reduceLT, Nat.reduceSub, Nat.reduceBEq, ckPa, ckRow_cells]
  refine callOps_intro [pB true] ⟨rfl, rfl⟩ ?_
  simp only [↓evP, evB, stB, reduceIte, reduceCtorEq, Nat.reduceEqDiff, Nat.reduceAdd, Nat.reduceMul, Nat.reduceLeDiff, Nat.reduceLT, Nat.reduceSub, Nat.reduceBEq, a1, a2, a5, b1, b2, b5, ckCells_dt, ckPa, ckRow_cells, c1, c2, c5]
  refine callOps_intro [ckPa (zipC fJ a b)] (by exact R_zip.mk ha hb) ?_
  have hx : (zipC fJ a b).length = 8 := zipC_length ha hb
  obtain ⟨x1, x2⟩ := ld8 hx
  have x5 := ck_len hx
  have xe := eq8self hx
  simp only [↓evP, evB, stB, reduceIte, reduceCtorEq, Nat.reduceEqDiff, Nat.reduceAdd, Nat.reduceMul, Nat.reduceLeDiff, Nat.reduceLT, Nat.reduceSub, Nat.reduceBEq, a1, a2, a5, b1, b2, b5, ckCells_dt, ckPa, ckRow_cells, c1, c2, c5, x1, x2, x5, xe, wr_new8 hx]
  refine callD_intro [pB true] (by exact R_leq.mk' ha hx (join_ub1 (by omega))) ?_
  simp only [↓evP, evB, stB, reduceIte, reduceCtorEq, Nat.reduceEqDiff, Nat.reduceAdd, Nat.reduceMul, Nat.reduceLeDiff, Nat.reduceLT, Nat.reduceSub, Nat.reduceBEq, a1, a2, a5, b1, b2, b5, ckCells_dt, ckPa, ckRow_cells, c1, c2, c5, x1, x2, x5, xe, wr_new8 hx]
  refine callD_intro [pB true] (by exact R_leq.mk' hb hx (join_ub2 (by omega))) ?_
  simp only [↓evP, evB, stB, reduceIte, reduceCtorEq, Nat.reduceEqDiff, Nat.reduceAdd, Nat.reduceMul, Nat.reduceLeDiff, Nat.reduceLT, Nat.reduceSub, Nat.reduceBEq, a1, a2, a5, b1, b2, b5, ckCells_dt, ckPa, ckRow_cells, c1, c2, c5, x1, x2, x5, xe, wr_new8 hx]
  refine callD_intro [ckPa (zipC fJ a b)] (by exact R_zip.mk ha hb) ?_
  simp only [↓evP, evB, stB, reduceIte, reduceCtorEq, Nat.reduceEqDiff, Nat.reduceAdd, Nat.reduceMul, Nat.reduceLeDiff, Nat.reduceLT, Nat.reduceSub, Nat.reduceBEq, a1, a2, a5, b1, b2, b5, ckCells_dt, ckPa, ckRow_cells, c1, c2, c5, x1, x2, x5, xe, wr_new8 hx]
  refine ⟨(by unfold Drw; refine Eq.trans (b := true) ?_ rfl; kernel_rfl), ?_⟩
  try  simp only [↓evP, evB, stB, reduceIte, reduceCtorEq, Nat.reduceEqDiff, Nat.reduceAdd, Nat.reduceMul, Nat.reduceLeDiff, Nat.reduceLT, Nat.reduceSub, Nat.reduceBEq, a1, a2, a5, b1, b2, b5, ckCells_dt, ckPa, ckRow_cells, c1, c2, c5, x1, x2, x5, xe, wr_new8 hx]
  have hl : leqC (zipC fJ a b) c = (leqC a c && leqC b c) := join_lub (by omega) (by omega)
  refine callD_intro [pB (leqC (zipC fJ a b) c)] (by exact R_leq.mk' hx hc rfl) ?_
  simp only [↓evP, evB, stB, reduceIte, reduceCtorEq, Nat.reduceEqDiff, Nat.reduceAdd, Nat.reduceMul, Nat.reduceLeDiff, Nat.reduceLT, Nat.reduceSub, Nat.reduceBEq, a1, a2, a5, b1, b2, b5, ckCells_dt, ckPa, ckRow_cells, c1, c2, c5, x1, x2, x5, xe, wr_new8 hx]
  refine callD_intro [pB (leqC a c)] (by exact R_leq.mk' ha hc rfl) ?_
  cases q1 : leqC a c with
  | false =>
    rw [q1] at hl
    have q2 : (leqC (zipC fJ a b) c == false) = true := by rw [hl]; rfl
    simp only [↓evP, evB, stB, reduceIte, reduceCtorEq, Nat.reduceEqDiff, Nat.reduceAdd, Nat.reduceMul, Nat.reduceLeDiff, Nat.reduceLT, Nat.reduceSub, Nat.reduceBEq, a1, a2, a5, b1, b2, b5, ckCells_dt, ckPa, ckRow_cells, c1, c2, c5, x1, x2, x5, xe, wr_new8 hx, q2, pr7]
    exact (by unfold Drw; refine Eq.trans (b := true) ?_ rfl; kernel_rfl)
  | true =>
    rw [q1] at hl
    simp only [↓evP, evB, stB, reduceIte, reduceCtorEq, Nat.reduceEqDiff, Nat.reduceAdd, Nat.reduceMul, Nat.reduceLeDiff, Nat.reduceLT, Nat.reduceSub, Nat.reduceBEq, a1, a2, a5, b1, b2, b5, ckCells_dt, ckPa, ckRow_cells, c1, c2, c5, x1, x2, x5, xe, wr_new8 hx]
    refine callD_intro [pB (leqC b c)] (by exact R_leq.mk' hb hc rfl) ?_
    have q2 : (leqC (zipC fJ a b) c == leqC b c) = true := by rw [hl]; simp
    simp only [↓evP, evB, stB, reduceIte, reduceCtorEq, Nat.reduceEqDiff, Nat.reduceAdd, Nat.reduceMul, Nat.reduceLeDiff, Nat.reduceLT, Nat.reduceSub, Nat.reduceBEq, a1, a2, a5, b1, b2, b5, ckCells_dt, ckPa, ckRow_cells, c1, c2, c5, x1, x2, x5, xe, wr_new8 hx, q2, pr7]
    exact (by unfold Drw; refine Eq.trans (b := true) ?_ rfl; kernel_rfl)
def R_greatest (ps rs : List Pa) : Prop := ∃ (a : Ck) (b : Ck) (c : Ck), ps = [ckPa a, ckPa b, ckPa c] ∧ (a.length = 8 ∧ b.length = 8 ∧ c.length = 8) ∧ rs = [pB true]
theorem s_greatest : Spec Tryd.prog 3 R_greatest := by
  refine sp3 env32_ok ?_
  rintro ps rs ⟨a, b, c, rfl, ⟨ha, hb, hc⟩, rfl⟩
  refine ⟨by simp, ?_⟩
  obtain ⟨a1, a2⟩ := ld8 ha
  have a5 := ck_len ha
  obtain ⟨b1, b2⟩ := ld8 hb
  have b5 := ck_len hb
  obtain ⟨c1, c2⟩ := ld8 hc
  have c5 := ck_len hc
  unfold pc3
  refine pwp_start ?_
  simp only [↓evP, evB, stB, reduceIte, reduceCtorEq, Nat.reduceEqDiff, Nat.reduceAdd, Nat.reduceMul, Nat.reduceLeDiff, Nat.reduceLT, Nat.reduceSub, Nat.reduceBEq, ckPa, ckRow_cells]
  refine callOps_intro [pB true] ⟨rfl, rfl⟩ ?_
  simp only [↓evP, evB, stB, reduceIte, reduceCtorEq, Nat.reduceEqDiff, Nat.reduceAdd, Nat.reduceMul, Nat.reduceLeDiff, Nat.reduceLT, Nat.reduceSub, Nat.reduceBEq, a1, a2, a5, b1, b2, b5, ckCells_dt, ckPa, ckRow_cells, c1, c2, c5]
  refine callOps_intro [ckPa (zipC fM a b)] (by exact R_zip.mk ha hb) ?_
  have hx : (zipC fM a b).length = 8 := zipC_length ha hb
  obtain ⟨x1, x2⟩ := ld8 hx
  have x5 := ck_len hx
  have xe := eq8self hx
  simp only [↓evP, evB, stB, reduceIte, reduceCtorEq, Nat.reduceEqDiff, Nat.reduceAdd, Nat.reduceMul, Nat.reduceLeDiff, Nat.reduceLT, Nat.reduceSub, Nat.reduceBEq, a1, a2, a5, b1, b2, b5, ckCells_dt, ckPa, ckRow_cells, c1, c2, c5, x1, x2, x5, xe, wr_new8 hx]
  refine callD_intro [pB true] (by exact R_leq.mk' hx ha (meet_lb1 (by omega))) ?_
  simp only [↓evP, evB, stB, reduceIte, reduceCtorEq, Nat.reduceEqDiff, Nat.reduceAdd, Nat.reduceMul, Nat.reduceLeDiff, Nat.reduceLT, Nat.reduceSub, Nat.reduceBEq, a1, a2, a5, b1, b2, b5, ckCells_dt, ckPa, ckRow_cells, c1, c2, c5, x1, x2, x5, xe, wr_new8 hx]
  refine callD_intro [pB true] (by exact R_leq.mk' hx hb (meet_lb2 (by omega))) ?_
  simp only [↓evP, evB, stB, reduceIte, reduceCtorEq, Nat.reduceEqDiff, Nat.reduceAdd, Nat.reduceMul, Nat.reduceLeDiff, Nat.reduceLT, Nat.reduceSub, Nat.reduceBEq, a1, a2, a5, b1, b2, b5, ckCells_dt, ckPa, ckRow_cells, c1, c2, c5, x1, x2, x5, xe, wr_new8 hx]
  refine callD_intro [ckPa (zipC fM a b)] (by exact R_zip.mk ha hb) ?_
  simp only [↓evP, evB, stB, reduceIte, reduceCtorEq, Nat.reduceEqDiff, Nat.reduceAdd, Nat.reduceMul, Nat.reduceLeDiff, Nat.reduceLT, Nat.reduceSub, Nat.reduceBEq, a1, a2, a5, b1, b2, b5, ckCells_dt, ckPa, ckRow_cells, c1, c2, c5, x1, x2, x5, xe, wr_new8 hx]
  refine ⟨(by unfold Drw; refine Eq.trans (b := true) ?_ rfl; kernel_rfl), ?_⟩
  try  simp only [↓evP, evB, stB, reduceIte, reduceCtorEq, Nat.reduceEqDiff, Nat.reduceAdd, Nat.reduceMul, Nat.reduceLeDiff, Nat.reduceLT, Nat.reduceSub, Nat.reduceBEq, a1, a2, a5, b1, b2, b5, ckCells_dt, ckPa, ckRow_cells, c1, c2, c5, x1, x2, x5, xe, wr_new8 hx]
  have hl : leqC c (zipC fM a b) = (leqC c a && leqC c b) := meet_glb (by omega) (by omega)
  refine callD_intro [pB (leqC c (zipC fM a b))] (by exact R_leq.mk' hc hx rfl) ?_
  simp only [↓evP, evB, stB, reduceIte, reduceCtorEq, Nat.reduceEqDiff, Nat.reduceAdd, Nat.reduceMul, Nat.reduceLeDiff, Nat.reduceLT, Nat.reduceSub, Nat.reduceBEq, a1, a2, a5, b1, b2, b5, ckCells_dt, ckPa, ckRow_cells, c1, c2, c5, x1, x2, x5, xe, wr_new8 hx]
  refine callD_intro [pB (leqC c a)] (by exact R_leq.mk' hc ha rfl) ?_
  cases q1 : leqC c a with
  | false =>
    rw [q1] at hl
    have q2 : (leqC c (zipC fM a b) == false) = true := by rw [hl]; rfl
    simp only [↓evP, evB, stB, reduceIte, reduceCtorEq, Nat.reduceEqDiff, Nat.reduceAdd, Nat.reduceMul, Nat.reduceLeDiff, Nat.reduceLT, Nat.reduceSub, Nat.reduceBEq, a1, a2, a5, b1, b2, b5, ckCells_dt, ckPa, ckRow_cells, c1, c2, c5, x1, x2, x5, xe, wr_new8 hx, q2, pr3]
    exact (by unfold Drw; refine Eq.trans (b := true) ?_ rfl; kernel_rfl)
  | true =>
    rw [q1] at hl
    simp only [↓evP, evB, stB, reduceIte, reduceCtorEq, Nat.reduceEqDiff, Nat.reduceAdd, Nat.reduceMul, Nat.reduceLeDiff, Nat.reduceLT, Nat.reduceSub, Nat.reduceBEq, a1, a2, a5, b1, b2, b5, ckCells_dt, ckPa, ckRow_cells, c1, c2, c5, x1, x2, x5, xe, wr_new8 hx]
    refine callD_intro [pB (leqC c b)] (by exact R_leq.mk' hc hb rfl) ?_
    have q2 : (leqC c (zipC fM a b) == leqC c b) = true := by rw [hl]; simp
    simp only [↓evP, evB, stB, reduceIte, reduceCtorEq, Nat.reduceEqDiff, Nat.reduceAdd, Nat.reduceMul, Nat.reduceLeDiff, Nat.reduceLT, Nat.reduceSub, Nat.reduceBEq, a1, a2, a5, b1, b2, b5, ckCells_dt, ckPa, ckRow_cells, c1, c2, c5, x1, x2, x5, xe, wr_new8 hx, q2, pr3]
    exact (by unfold Drw; refine Eq.trans (b := true) ?_ rfl; kernel_rfl)
def R_porder (ps rs : List Pa) : Prop := ∃ (a : Ck) (b : Ck) (c : Ck), ps = [ckPa a, ckPa b, ckPa c] ∧ (a.length = 8 ∧ b.length = 8 ∧ c.length = 8) ∧ rs = [pB true]
theorem s_porder : Spec Tryd.prog 6 R_porder := by
  refine sp6 env32_ok ?_
  rintro ps rs ⟨a, b, c, rfl, ⟨ha, hb, hc⟩, rfl⟩
  refine ⟨by simp, ?_⟩
  obtain ⟨a1, a2⟩ := ld8 ha
  have a5 := ck_len ha
  obtain ⟨b1, b2⟩ := ld8 hb
  have b5 := ck_len hb
  obtain ⟨c1, c2⟩ := ld8 hc
  have c5 := ck_len hc
  unfold pc6
  refine pwp_start ?_
  simp only [↓evP, evB, stB, reduceIte, reduceCtorEq, Nat.reduceEqDiff, Nat.reduceAdd, Nat.reduceMul, Nat.reduceLeDiff, Nat.reduceLT, Nat.reduceSub, Nat.reduceBEq, ckPa, ckRow_cells]
  refine callOps_intro [pB true] ⟨rfl, rfl⟩ ?_
  simp only [↓evP, evB, stB, reduceIte, reduceCtorEq, Nat.reduceEqDiff, Nat.reduceAdd, Nat.reduceMul, Nat.reduceLeDiff, Nat.reduceLT, Nat.reduceSub, Nat.reduceBEq, a1, a2, a5, b1, b2, b5, ckCells_dt, ckPa, ckRow_cells, c1, c2, c5]
  refine callOps_intro [pB true] (by exact R_leq.mk' ha ha (leqC_refl a)) ?_
  simp only [↓evP, evB, stB, reduceIte, reduceCtorEq, Nat.reduceEqDiff, Nat.reduceAdd, Nat.reduceMul, Nat.reduceLeDiff, Nat.reduceLT, Nat.reduceSub, Nat.reduceBEq, a1, a2, a5, b1, b2, b5, ckCells_dt, ckPa, ckRow_cells, c1, c2, c5]
  refine callOps_intro [pB (leqC a b)] (by exact R_leq.mk' ha hb rfl) ?_
  cases q1 : leqC a b with
  | false =>
    simp only [↓evP, evB, stB, reduceIte, reduceCtorEq, Nat.reduceEqDiff, Nat.reduceAdd, Nat.reduceMul, Nat.reduceLeDiff, Nat.reduceLT, Nat.reduceSub, Nat.reduceBEq, a1, a2, a5, b1, b2, b5, ckCells_dt, ckPa, ckRow_cells, c1, c2, c5, q1]
    refine callOps_intro [pB (leqC a b)] (by exact R_leq.mk' ha hb rfl) ?_
    simp only [↓evP, evB, stB, reduceIte, reduceCtorEq, Nat.reduceEqDiff, Nat.reduceAdd, Nat.reduceMul, Nat.reduceLeDiff, Nat.reduceLT, Nat.reduceSub, Nat.reduceBEq, a1, a2, a5, b1, b2, b5, ckCells_dt, ckPa, ckRow_cells, c1, c2, c5, q1, pr6]
  | true =>
    simp only [↓evP, evB, stB, reduceIte, reduceCtorEq, Nat.reduceEqDiff, Nat.reduceAdd, Nat.reduceMul, Nat.reduceLeDiff, Nat.reduceLT, Nat.reduceSub, Nat.reduceBEq, a1, a2, a5, b1, b2, b5, ckCells_dt, ckPa, ckRow_cells, c1, c2, c5, q1]
    refine callOps_intro [pB (leqC b a)] (by exact R_leq.mk' hb ha rfl) ?_
    cases q3 : leqC b a with
    | false =>
      simp only [↓evP, evB, stB, reduceIte, reduceCtorEq, Nat.reduceEqDiff, Nat.reduceAdd, Nat.reduceMul, Nat.reduceLeDiff, Nat.reduceLT, Nat.reduceSub, Nat.reduceBEq, a1, a2, a5, b1, b2, b5, ckCells_dt, ckPa, ckRow_cells, c1, c2, c5, q3]
      refine callOps_intro [pB (leqC a b)] (by exact R_leq.mk' ha hb rfl) ?_
      simp only [↓evP, evB, stB, reduceIte, reduceCtorEq, Nat.reduceEqDiff, Nat.reduceAdd, Nat.reduceMul, Nat.reduceLeDiff, Nat.reduceLT, Nat.reduceSub, Nat.reduceBEq, a1, a2, a5, b1, b2, b5, ckCells_dt, ckPa, ckRow_cells, c1, c2, c5, q1]
      refine callOps_intro [pB (leqC b c)] (by exact R_leq.mk' hb hc rfl) ?_
      cases q2 : leqC b c with
      | false => simp only [↓evP, evB, stB, reduceIte, reduceCtorEq, Nat.reduceEqDiff, Nat.reduceAdd, Nat.reduceMul, Nat.reduceLeDiff, Nat.reduceLT, Nat.reduceSub, Nat.reduceBEq, a1, a2, a5, b1, b2, b5, ckCells_dt, ckPa, ckRow_cells, c1, c2, c5, q1, q2, pr6]
      | true =>
        simp only [↓evP, evB, stB, reduceIte, reduceCtorEq, Nat.reduceEqDiff, Nat.reduceAdd, Nat.reduceMul, Nat.reduceLeDiff, Nat.reduceLT, Nat.reduceSub, Nat.reduceBEq, a1, a2, a5, b1, b2, b5, ckCells_dt, ckPa, ckRow_cells, c1, c2, c5, q1, q2]
        refine callOps_intro [pB true] (by exact R_leq.mk' ha hc (leqC_trans (by omega) (by omega) q1 q2)) ?_
        simp only [↓evP, evB, stB, reduceIte, reduceCtorEq, Nat.reduceEqDiff, Nat.reduceAdd, Nat.reduceMul, Nat.reduceLeDiff, Nat.reduceLT, Nat.reduceSub, Nat.reduceBEq, a1, a2, a5, b1, b2, b5, ckCells_dt, ckPa, ckRow_cells, c1, c2, c5, pr6]
    | true =>
      have hab : a = b := leqC_antisymm (by omega) q1 q3
      have he : eqCls [false, false, false, false, false, false, false, false] (ckCells a) (ckCells b) = some true := by rw [eq8 ha hb, decide_eq_true hab]
      simp only [↓evP, evB, stB, reduceIte, reduceCtorEq, Nat.reduceEqDiff, Nat.reduceAdd, Nat.reduceMul, Nat.reduceLeDiff, Nat.reduceLT, Nat.reduceSub, Nat.reduceBEq, a1, a2, a5, b1, b2, b5, ckCells_dt, ckPa, ckRow_cells, c1, c2, c5, q3, he]
      refine callOps_intro [pB (leqC a b)] (by exact R_leq.mk' ha hb rfl) ?_
      simp only [↓evP, evB, stB, reduceIte, reduceCtorEq, Nat.reduceEqDiff, Nat.reduceAdd, Nat.reduceMul, Nat.reduceLeDiff, Nat.reduceLT, Nat.reduceSub, Nat.reduceBEq, a1, a2, a5, b1, b2, b5, ckCells_dt, ckPa, ckRow_cells, c1, c2, c5, q1]
      refine callOps_intro [pB (leqC b c)] (by exact R_leq.mk' hb hc rfl) ?_
      cases q2 : leqC b c with
      | false => simp only [↓evP, evB, stB, reduceIte, reduceCtorEq, Nat.reduceEqDiff, Nat.reduceAdd, Nat.reduceMul, Nat.reduceLeDiff, Nat.reduceLT, Nat.reduceSub, Nat.reduceBEq, a1, a2, a5, b1, b2, b5, ckCells_dt, ckPa, ckRow_cells, c1, c2, c5, q1, q2, pr6]
      | true =>
        simp only [↓evP, evB, stB, reduceIte, reduceCtorEq, Nat.reduceEqDiff, Nat.reduceAdd, Nat.reduceMul, Nat.reduceLeDiff, Nat.reduceLT, Nat.reduceSub, Nat.reduceBEq, a1, a2, a5, b1, b2, b5, ckCells_dt, ckPa, ckRow_cells, c1, c2, c5, q1, q2]
        refine callOps_intro [pB true] (by exact R_leq.mk' ha hc (leqC_trans (by omega) (by omega) q1 q2)) ?_
        simp only [↓evP, evB, stB, reduceIte, reduceCtorEq, Nat.reduceEqDiff, Nat.reduceAdd, Nat.reduceMul, Nat.reduceLeDiff, Nat.reduceLT, Nat.reduceSub, Nat.reduceBEq, a1, a2, a5, b1, b2, b5, ckCells_dt, ckPa, ckRow_cells, c1, c2, c5, pr6]
def R_lattice (ps rs : List Pa) : Prop := ∃ (a : Ck) (b : Ck) (c : Ck), ps = [ckPa a, ckPa b, ckPa c] ∧ (a.length = 8 ∧ b.length = 8 ∧ c.length = 8) ∧ rs = [pB true]
theorem s_lattice : Spec Tryd.prog 4 R_lattice := by
  refine sp4 env32_ok ?_
  rintro ps rs ⟨a, b, c, rfl, ⟨ha, hb, hc⟩, rfl⟩
  refine ⟨by simp, ?_⟩
  obtain ⟨a1, a2⟩ := ld8 ha
  have a5 := ck_len ha
  obtain ⟨b1, b2⟩ := ld8 hb
  have b5 := ck_len hb
  obtain ⟨c1, c2⟩ := ld8 hc
  have c5 := ck_len hc
  unfold pc4
  refine pwp_start ?_
  simp only [↓evP, evB, stB, reduceIte, reduceCtorEq, Nat.reduceEqDiff, Nat.reduceAdd, Nat.reduceMul, Nat.reduceLeDiff, Nat.reduceLT, Nat.reduceSub, Nat.reduceBEq, ckPa, ckRow_cells]
  refine callOps_intro [pB true] ⟨rfl, rfl⟩ ?_
  have hz0 : (zipC fJ a b).length = 8 := zipC_length ha hb
  have hz1 : (zipC fJ b a).length = 8 := zipC_length hb ha
  have hz2 : (zipC fM a b).length = 8 := zipC_length ha hb
  have hz3 : (zipC fM b a).length = 8 := zipC_length hb ha
  have hz4 : (zipC fJ a a).length = 8 := zipC_length ha ha
  have hz5 : (zipC fM a a).length = 8 := zipC_length ha ha
  have hz6 : (zipC fJ b c).length = 8 := zipC_length hb hc
  have hz7 : (zipC fM b c).length = 8 := zipC_length hb hc
  have hz8 : (zipC fJ (zipC fJ a b) c).length = 8 := zipC_length hz0 hc
  have hz9 : (zipC fJ a (zipC fJ b c)).length = 8 := zipC_length ha hz6
  have hz10 : (zipC fM (zipC fM a b) c).length = 8 := zipC_length hz2 hc
  have hz11 : (zipC fM a (zipC fM b c)).length = 8 := zipC_length ha hz7
  have hz12 : (zipC fJ a (zipC fM a b)).length = 8 := zipC_length ha hz2
  have hz13 : (zipC fM a (zipC fJ a b)).length = 8 := zipC_length ha hz0
  have e_0 : eqCls [false, false, false, false, false, false, false, false] (ckCells (zipC fJ a b)) (ckCells (zipC fJ b a)) = some true := by rw [eq8 hz0 hz1, decide_eq_true (zipC_comm fJ_comm a b)]
  have e_1 : eqCls [false, false, false, false, false, false, false, false] (ckCells (zipC fM a b)) (ckCells (zipC fM b a)) = some true := by rw [eq8 hz2 hz3, decide_eq_true (zipC_comm fM_comm a b)]
  have e_2 : eqCls [false, false, false, false, false, false, false, false] (ckCells (zipC fJ a a)) (ckCells a) = some true := by rw [eq8 hz4 ha, decide_eq_true (zipC_idem fJ_idem a)]
  have e_3 : eqCls [false, false, false, false, false, false, false, false] (ckCells (zipC fM a a)) (ckCells a) = some true := by rw [eq8 hz5 ha, decide_eq_true (zipC_idem fM_idem a)]
  have e_4 : eqCls [false, false, false, false, false, false, false, false] (ckCells (zipC fJ (zipC fJ a b) c)) (ckCells (zipC fJ a (zipC fJ b c))) = some true := by rw [eq8 hz8 hz9, decide_eq_true (zipC_assoc fJ_assoc a b c)]
  have e_5 : eqCls [false, false, false, false, false, false, false, false] (ckCells (zipC fM (zipC fM a b) c)) (ckCells (zipC fM a (zipC fM b c))) = some true := by rw [eq8 hz10 hz11, decide_eq_true (zipC_assoc fM_assoc a b c)]
  have e_6 : eqCls [false, false, false, false, false, false, false, false] (ckCells (zipC fJ a (zipC fM a b))) (ckCells a) = some true := by rw [eq8 hz12 ha, decide_eq_true (zipC_absorb fJ_fM (by omega))]
  have e_7 : eqCls [false, false, false, false, false, false, false, false] (ckCells (zipC fM a (zipC fJ a b))) (ckCells a) = some true := by rw [eq8 hz13 ha, decide_eq_true (zipC_absorb fM_fJ (by omega))]
  simp only [↓evP, evB, stB, reduceIte, reduceCtorEq, Nat.reduceEqDiff, Nat.reduceAdd, Nat.reduceMul, Nat.reduceLeDiff, Nat.reduceLT, Nat.reduceSub, Nat.reduceBEq, a1, a2, a5, b1, b2, b5, ckCells_dt, ckPa, ckRow_cells, c1, c2, c5, e_0, e_1, e_2, e_3, e_4, e_5, e_6, e_7]
  refine callD_intro [ckPa (zipC fJ a b)] (by exact R_zip.mk ha hb) ?_
  simp only [↓evP, evB, stB, reduceIte, reduceCtorEq, Nat.reduceEqDiff, Nat.reduceAdd, Nat.reduceMul, Nat.reduceLeDiff, Nat.reduceLT, Nat.reduceSub, Nat.reduceBEq, a1, a2, a5, b1, b2, b5, ckCells_dt, ckPa, ckRow_cells, c1, c2, c5, e_0, e_1, e_2, e_3, e_4, e_5, e_6, e_7]
  refine callD_intro [ckPa (zipC fJ b a)] (by exact R_zip.mk hb ha) ?_
  simp only [↓evP, evB, stB, reduceIte, reduceCtorEq, Nat.reduceEqDiff, Nat.reduceAdd, Nat.reduceMul, Nat.reduceLeDiff, Nat.reduceLT, Nat.reduceSub, Nat.reduceBEq, a1, a2, a5, b1, b2, b5, ckCells_dt, ckPa, ckRow_cells, c1, c2, c5, e_0, e_1, e_2, e_3, e_4, e_5, e_6, e_7]
  refine callD_intro [ckPa (zipC fM a b)] (by exact R_zip.mk ha hb) ?_
  simp only [↓evP, evB, stB, reduceIte, reduceCtorEq, Nat.reduceEqDiff, Nat.reduceAdd, Nat.reduceMul, Nat.reduceLeDiff, Nat.reduceLT, Nat.reduceSub, Nat.reduceBEq, a1, a2, a5, b1, b2, b5, ckCells_dt, ckPa, ckRow_cells, c1, c2, c5, e_0, e_1, e_2, e_3, e_4, e_5, e_6, e_7]
  refine callD_intro [ckPa (zipC fM b a)] (by exact R_zip.mk hb ha) ?_
  simp only [↓evP, evB, stB, reduceIte, reduceCtorEq, Nat.reduceEqDiff, Nat.reduceAdd, Nat.reduceMul, Nat.reduceLeDiff, Nat.reduceLT, Nat.reduceSub, Nat.reduceBEq, a1, a2, a5, b1, b2, b5, ckCells_dt, ckPa, ckRow_cells, c1, c2, c5, e_0, e_1, e_2, e_3, e_4, e_5, e_6, e_7]
  refine callD_intro [ckPa (zipC fJ a a)] (by exact R_zip.mk ha ha) ?_
  simp only [↓evP, evB, stB, reduceIte, reduceCtorEq, Nat.reduceEqDiff, Nat.reduceAdd, Nat.reduceMul, Nat.reduceLeDiff, Nat.reduceLT, Nat.reduceSub, Nat.reduceBEq, a1, a2, a5, b1, b2, b5, ckCells_dt, ckPa, ckRow_cells, c1, c2, c5, e_0, e_1, e_2, e_3, e_4, e_5, e_6, e_7]
  refine callD_intro [ckPa (zipC fM a a)] (by exact R_zip.mk ha ha) ?_
  simp only [↓evP, evB, stB, reduceIte, reduceCtorEq, Nat.reduceEqDiff, Nat.reduceAdd, Nat.reduceMul, Nat.reduceLeDiff, Nat.reduceLT, Nat.reduceSub, Nat.reduceBEq, a1, a2, a5, b1, b2, b5, ckCells_dt, ckPa, ckRow_cells, c1, c2, c5, e_0, e_1, e_2, e_3, e_4, e_5, e_6, e_7]
  refine ⟨(by unfold Drw; refine Eq.trans (b := true) ?_ rfl; kernel_rfl), ?_⟩
  try  simp only [↓evP, evB, stB, reduceIte, reduceCtorEq, Nat.reduceEqDiff, Nat.reduceAdd, Nat.reduceMul, Nat.reduceLeDiff, Nat.reduceLT, Nat.reduceSub, Nat.reduceBEq, a1, a2, a5, b1, b2, b5, ckCells_dt, ckPa, ckRow_cells, c1, c2, c5, e_0, e_1, e_2, e_3, e_4, e_5, e_6, e_7]
  refine callD_intro [ckPa (zipC fJ a b)] (by exact R_zip.mk ha hb) ?_
  simp only [↓evP, evB, stB, reduceIte, reduceCtorEq, Nat.reduceEqDiff, Nat.reduceAdd, Nat.reduceMul, Nat.reduceLeDiff, Nat.reduceLT, Nat.reduceSub, Nat.reduceBEq, a1, a2, a5, b1, b2, b5, ckCells_dt, ckPa, ckRow_cells, c1, c2, c5, e_0, e_1, e_2, e_3, e_4, e_5, e_6, e_7]
  refine callD_intro [ckPa (zipC fJ (zipC fJ a b) c)] (by exact R_zip.mk hz0 hc) ?_
  simp only [↓evP, evB, stB, reduceIte, reduceCtorEq, Nat.reduceEqDiff, Nat.reduceAdd, Nat.reduceMul, Nat.reduceLeDiff, Nat.reduceLT, Nat.reduceSub, Nat.reduceBEq, a1, a2, a5, b1, b2, b5, ckCells_dt, ckPa, ckRow_cells, c1, c2, c5, e_0, e_1, e_2, e_3, e_4, e_5, e_6, e_7]
  refine callD_intro [ckPa (zipC fJ b c)] (by exact R_zip.mk hb hc) ?_
  simp only [↓evP, evB, stB, reduceIte, reduceCtorEq, Nat.reduceEqDiff, Nat.reduceAdd, Nat.reduceMul, Nat.reduceLeDiff, Nat.reduceLT, Nat.reduceSub, Nat.reduceBEq, a1, a2, a5, b1, b2, b5, ckCells_dt, ckPa, ckRow_cells, c1, c2, c5, e_0, e_1, e_2, e_3, e_4, e_5, e_6, e_7]
  refine callD_intro [ckPa (zipC fJ a (zipC fJ b c))] (by exact R_zip.mk ha hz6) ?_
  simp only [↓evP, evB, stB, reduceIte, reduceCtorEq, Nat.reduceEqDiff, Nat.reduceAdd, Nat.reduceMul, Nat.reduceLeDiff, Nat.reduceLT, Nat.reduceSub, Nat.reduceBEq, a1, a2, a5, b1, b2, b5, ckCells_dt, ckPa, ckRow_cells, c1, c2, c5, e_0, e_1, e_2, e_3, e_4, e_5, e_6, e_7]
  refine callD_intro [ckPa (zipC fM a b)] (by exact R_zip.mk ha hb) ?_
  simp only [↓evP, evB, stB, reduceIte, reduceCtorEq, Nat.reduceEqDiff, Nat.reduceAdd, Nat.reduceMul, Nat.reduceLeDiff, Nat.reduceLT, Nat.reduceSub, Nat.reduceBEq, a1, a2, a5, b1, b2, b5, ckCells_dt, ckPa, ckRow_cells, c1, c2, c5, e_0, e_1, e_2, e_3, e_4, e_5, e_6, e_7]
  refine callD_intro [ckPa (zipC fM (zipC fM a b) c)] (by exact R_zip.mk hz2 hc) ?_
  simp only [↓evP, evB, stB, reduceIte, reduceCtorEq, Nat.reduceEqDiff, Nat.reduceAdd, Nat.reduceMul, Nat.reduceLeDiff, Nat.reduceLT, Nat.reduceSub, Nat.reduceBEq, a1, a2, a5, b1, b2, b5, ckCells_dt, ckPa, ckRow_cells, c1, c2, c5, e_0, e_1, e_2, e_3, e_4, e_5, e_6, e_7]
  refine callD_intro [ckPa (zipC fM b c)] (by exact R_zip.mk hb hc) ?_
  simp only [↓evP, evB, stB, reduceIte, reduceCtorEq, Nat.reduceEqDiff, Nat.reduceAdd, Nat.reduceMul, Nat.reduceLeDiff, Nat.reduceLT, Nat.reduceSub, Nat.reduceBEq, a1, a2, a5, b1, b2, b5, ckCells_dt, ckPa, ckRow_cells, c1, c2, c5, e_0, e_1, e_2, e_3, e_4, e_5, e_6, e_7]
  refine callD_intro [ckPa (zipC fM a (zipC fM b c))] (by exact R_zip.mk ha hz7) ?_
  simp only [↓evP, evB, stB, reduceIte, reduceCtorEq, Nat.reduceEqDiff, Nat.reduceAdd, Nat.reduceMul, Nat.reduceLeDiff, Nat.reduceLT, Nat.reduceSub, Nat.reduceBEq, a1, a2, a5, b1, b2, b5, ckCells_dt, ckPa, ckRow_cells, c1, c2, c5, e_0, e_1, e_2, e_3, e_4, e_5, e_6, e_7]
  refine ⟨(by unfold Drw; refine Eq.trans (b := true) ?_ rfl; kernel_rfl), ?_⟩
  try  simp only [↓evP, evB, stB, reduceIte, reduceCtorEq, Nat.reduceEqDiff, Nat.reduceAdd, Nat.reduceMul, Nat.reduceLeDiff, Nat.reduceLT, Nat.reduceSub, Nat.reduceBEq, a1, a2, a5, b1, b2, b5, ckCells_dt, ckPa, ckRow_cells, c1, c2, c5, e_0, e_1, e_2, e_3, e_4, e_5, e_6, e_7]
  refine callD_intro [ckPa (zipC fM a b)] (by exact R_zip.mk ha hb) ?_
  simp only [↓evP, evB, stB, reduceIte, reduceCtorEq, Nat.reduceEqDiff, Nat.reduceAdd, Nat.reduceMul, Nat.reduceLeDiff, Nat.reduceLT, Nat.reduceSub, Nat.reduceBEq, a1, a2, a5, b1, b2, b5, ckCells_dt, ckPa, ckRow_cells, c1, c2, c5, e_0, e_1, e_2, e_3, e_4, e_5, e_6, e_7]
  refine callD_intro [ckPa (zipC fJ a (zipC fM a b))] (by exact R_zip.mk ha hz2) ?_
  simp only [↓evP, evB, stB, reduceIte, reduceCtorEq, Nat.reduceEqDiff, Nat.reduceAdd, Nat.reduceMul, Nat.reduceLeDiff, Nat.reduceLT, Nat.reduceSub, Nat.reduceBEq, a1, a2, a5, b1, b2, b5, ckCells_dt, ckPa, ckRow_cells, c1, c2, c5, e_0, e_1, e_2, e_3, e_4, e_5, e_6, e_7]
  refine callD_intro [ckPa (zipC fJ a b)] (by exact R_zip.mk ha hb) ?_
  simp only [↓evP, evB, stB, reduceIte, reduceCtorEq, Nat.reduceEqDiff, Nat.reduceAdd, Nat.reduceMul, Nat.reduceLeDiff, Nat.reduceLT, Nat.reduceSub, Nat.reduceBEq, a1, a2, a5, b1, b2, b5, ckCells_dt, ckPa, ckRow_cells, c1, c2, c5, e_0, e_1, e_2, e_3, e_4, e_5, e_6, e_7]
  refine callD_intro [ckPa (zipC fM a (zipC fJ a b))] (by exact R_zip.mk ha hz0) ?_
  simp only [↓evP, evB, stB, reduceIte, reduceCtorEq, Nat.reduceEqDiff, Nat.reduceAdd, Nat.reduceMul, Nat.reduceLeDiff, Nat.reduceLT, Nat.reduceSub, Nat.reduceBEq, a1, a2, a5, b1, b2, b5, ckCells_dt, ckPa, ckRow_cells, c1, c2, c5, e_0, e_1, e_2, e_3, e_4, e_5, e_6, e_7, pr4]
  exact (by unfold Drw; refine Eq.trans (b := true) ?_ rfl; kernel_rfl)
end Go.Proofs.YthnjbnfnljjepaaDoor
end
section
set_option linter.unusedSimpArgs false
set_option linter.unusedVariables false
namespace Go.Proofs.YthnjbnfnljjepaaDoor
open Go Go.RowKit
set_option maxRecDepth 100000
set_option maxHeartbeats 4000000

def env32t : Env := e1 11 R_awake32 (e1 22 R_text (e1 24 R_text (e1 23 R_read (e1 25 R_read e0))))
theorem env32t_ok : EnvOK Tryd.prog env32t := EnvOK.e1 s_awake32 (EnvOK.e1 s_cText (EnvOK.e1 s_rText (EnvOK.e1 s_cRead (EnvOK.e1 s_rRead EnvOK.e0))))
theorem R_read.mk {s : ByteArray} (h : s.size ≤ 100000) : R_read [pS s] (readPa (readC s.data.toList)) := ⟨s, rfl, h, rfl⟩
theorem readPa_some (c : Ck) : readPa (some c) = [ckPa c, pI 0] := rfl
theorem readPa_none : readPa none = [ckPa zC, pI 8] := rfl
def R_ltext (ps rs : List Pa) : Prop := ∃ c : Ck, ps = [ckPa c] ∧ (c.length = 8 ∧ OK64 c) ∧ rs = [pB true]
theorem s_ltext : Spec Tryd.prog 9 R_ltext := by
  refine sp9 env32t_ok ?_
  rintro ps rs ⟨c, rfl, ⟨hc, ho⟩, rfl⟩
  refine ⟨by simp, ?_⟩
  obtain ⟨c1, c2⟩ := ld8 hc
  have c5 := ck_len hc
  have ce := eq8self hc
  have hj := join_le hc ho
  have hsz : (strB (ctext c)).size ≤ 100000 := by rw [strB_size]; unfold ctext; simp only [List.length_cons, List.length_append, List.length_nil]; omega
  have hrd : R_read [pS (strB (ctext c))] [ckPa c, pI 0] := by
    have h := R_read.mk hsz
    rw [show (strB (ctext c)).data.toList = ctext c from rfl, readC_text hc ho, readPa_some] at h
    exact h
  have hse : ((strB (ctext c)).toList == (strB (ctext c)).toList) = true := by rw [strings_eq]; simp
  have q0 : ((0 : Int) == 0) = true := rfl
  unfold pc9
  refine pwp_start ?_
  simp only [↓evP, evB, stB, reduceIte, reduceCtorEq, Nat.reduceEqDiff, Nat.reduceAdd, Nat.reduceMul, Nat.reduceLeDiff, Nat.reduceLT, Nat.reduceSub, Nat.reduceBEq, ckPa, ckRow_cells]
  refine callOps_intro [pB true] ⟨rfl, rfl⟩ ?_
  simp only [↓evP, evB, stB, reduceIte, reduceCtorEq, Nat.reduceEqDiff, Nat.reduceAdd, Nat.reduceMul, Nat.reduceLeDiff, Nat.reduceLT, Nat.reduceSub, Nat.reduceBEq, c1, c2, c5, ckCells_dt, ckPa, ckRow_cells]
  refine callOps_intro [pS (strB (ctext c))] (by exact R_text.mk hc ho) ?_
  simp only [↓evP, evB, stB, reduceIte, reduceCtorEq, Nat.reduceEqDiff, Nat.reduceAdd, Nat.reduceMul, Nat.reduceLeDiff, Nat.reduceLT, Nat.reduceSub, Nat.reduceBEq, c1, c2, c5, ckCells_dt, ckPa, ckRow_cells]
  refine callOps_intro [ckPa c, pI 0] (by exact hrd) ?_
  simp only [↓evP, evB, stB, reduceIte, reduceCtorEq, Nat.reduceEqDiff, Nat.reduceAdd, Nat.reduceMul, Nat.reduceLeDiff, Nat.reduceLT, Nat.reduceSub, Nat.reduceBEq, c1, c2, c5, wr_new8 hc, ckCells_dt, ckPa, ckRow_cells]
  first
    | refine callD_intro [pS (strB (ctext c))] (by exact R_text.mk hc ho) ?_
    | refine callOps_intro [pS (strB (ctext c))] (by exact R_text.mk hc ho) ?_
  simp only [↓evP, evB, stB, reduceIte, reduceCtorEq, Nat.reduceEqDiff, Nat.reduceAdd, Nat.reduceMul, Nat.reduceLeDiff, Nat.reduceLT, Nat.reduceSub, Nat.reduceBEq, c1, c2, c5, wr_new8 hc, ckCells_dt, ckPa, ckRow_cells, hse, q0, ce, pr9]
  try exact (by unfold Drw; refine Eq.trans (b := true) ?_ rfl; kernel_rfl)
def R_lread (ps rs : List Pa) : Prop := ∃ s : ByteArray, ps = [pS s] ∧ rs = [pB true]
theorem s_lread : Spec Tryd.prog 10 R_lread := by
  refine sp10 env32t_ok ?_
  rintro ps rs ⟨s, rfl, rfl⟩
  refine ⟨by simp, ?_⟩
  unfold pc10
  refine pwp_start ?_
  simp only [↓evP, evB, stB, reduceIte, reduceCtorEq, Nat.reduceEqDiff, Nat.reduceAdd, Nat.reduceMul, Nat.reduceLeDiff, Nat.reduceLT, Nat.reduceSub, Nat.reduceBEq]
  refine callOps_intro [pB true] ⟨rfl, rfl⟩ ?_
  by_cases hz : (s.size : Int) > 400
  · simp only [↓evP, evB, stB, reduceIte, reduceCtorEq, Nat.reduceEqDiff, Nat.reduceAdd, Nat.reduceMul, Nat.reduceLeDiff, Nat.reduceLT, Nat.reduceSub, Nat.reduceBEq, hz, decide_true, pr10]
  have hsz : s.size ≤ 100000 := by omega
  have hrd := R_read.mk hsz
  simp only [↓evP, evB, stB, reduceIte, reduceCtorEq, Nat.reduceEqDiff, Nat.reduceAdd, Nat.reduceMul, Nat.reduceLeDiff, Nat.reduceLT, Nat.reduceSub, Nat.reduceBEq, hz, decide_false]
  cases hr : readC s.data.toList with
  | none =>
    rw [hr, readPa_none] at hrd
    have ce := eq8self (a := zC) rfl
    obtain ⟨c1, c2⟩ := ld8 (a := zC) rfl
    have c5 := ck_len (a := zC) rfl
    have q8 : ((8 : Int) == 8) = true := rfl
    refine callOps_intro [ckPa zC, pI 8] (by exact hrd) ?_
    simp only [↓evP, evB, stB, reduceIte, reduceCtorEq, Nat.reduceEqDiff, Nat.reduceAdd, Nat.reduceMul, Nat.reduceLeDiff, Nat.reduceLT, Nat.reduceSub, Nat.reduceBEq, c1, c2, c5, wr_new8 (c := zC) rfl, ckCells_dt, ckPa, ckRow_cells]
    refine callOps_intro [ckPa zC, pI 8] (by exact hrd) ?_
    simp only [↓evP, evB, stB, reduceIte, reduceCtorEq, Nat.reduceEqDiff, Nat.reduceAdd, Nat.reduceMul, Nat.reduceLeDiff, Nat.reduceLT, Nat.reduceSub, Nat.reduceBEq, c1, c2, c5, wr_new8 (c := zC) rfl, ckCells_dt, ckPa, ckRow_cells, ce, q8, pr10]
    try exact (by unfold Drw; refine Eq.trans (b := true) ?_ rfl; kernel_rfl)
  | some c =>
    rw [hr, readPa_some] at hrd
    have hc := (readC_ok hr).1
    have ce := eq8self hc
    obtain ⟨c1, c2⟩ := ld8 hc
    have c5 := ck_len hc
    have q0 : ((0 : Int) == 0) = true := rfl
    refine callOps_intro [ckPa c, pI 0] (by exact hrd) ?_
    simp only [↓evP, evB, stB, reduceIte, reduceCtorEq, Nat.reduceEqDiff, Nat.reduceAdd, Nat.reduceMul, Nat.reduceLeDiff, Nat.reduceLT, Nat.reduceSub, Nat.reduceBEq, c1, c2, c5, wr_new8 hc, ckCells_dt, ckPa, ckRow_cells]
    refine callOps_intro [ckPa c, pI 0] (by exact hrd) ?_
    simp only [↓evP, evB, stB, reduceIte, reduceCtorEq, Nat.reduceEqDiff, Nat.reduceAdd, Nat.reduceMul, Nat.reduceLeDiff, Nat.reduceLT, Nat.reduceSub, Nat.reduceBEq, c1, c2, c5, wr_new8 hc, ckCells_dt, ckPa, ckRow_cells, ce, q0, pr10]
    try exact (by unfold Drw; refine Eq.trans (b := true) ?_ rfl; kernel_rfl)
end Go.Proofs.YthnjbnfnljjepaaDoor
end
section
set_option linter.unusedSimpArgs false
set_option linter.unusedVariables false
namespace Go.Proofs.YthnjbnfnljjepaaDoor
open Go Go.RowKit Go.Lib

set_option maxRecDepth 100000

abbrev laidL : List (String × DataW Unit) := Rows.clockOrderRow.laid
theorem space_data : Rows.laid_strings_asciiSpace (H := Unit) = tabData .u8 asciiSpaceTab := by kernel_rfl
theorem pow_data : Rows.laid_internal_strconv_uint64pow10 (H := Unit) = tabData .u64 pow10Tab := by kernel_rfl
theorem white_data : Rows.laid_unicode_White_Space (H := Unit) = whiteData := by kernel_rfl
theorem tab_reads {n : String} {k : IntKind} {zs : List Int} {g : Nat} {t e : TypeId} {m : Nat} {w : World}
    (hg : Tryd.prog.globalNamed n = some g) (hty : (Tryd.prog.globals[g]?).map (·.type) = some t) (ht : Tryd.prog.underlying t = some (.array m e)) (he : Tryd.prog.underlying e = some (.int k)) (hce : Tryd.prog.cellsOf e = 1) (hct : Tryd.prog.cellsOf t = m)
    (h : VarReads Tryd.prog w n (tabData k zs)) : TabIs Tryd.prog w n k zs := by
  obtain ⟨g', t', cs, fuel, p, hg', ht', hvar, hd⟩ := h
  obtain rfl := Option.some.inj (hg.symm.trans hg')
  obtain rfl := Option.some.inj (hty.symm.trans ht')
  unfold TabIs
  rw [hvar, ← cells_of_tab ht he hce hct hd]
theorem row_err (u : TypeId) (h : Tryd.prog.typeName? 3 u = some "*errors.errorString") : u = 126 :=
  typeName_ptr_named (nm := "errors.errorString") (by rw [show "*" ++ "errors.errorString" = "*errors.errorString" by decide]; kernel_rfl) (by kernel_rfl) (by decide) u (by rw [show "*" ++ "errors.errorString" = "*errors.errorString" by decide]; exact h)
theorem door_of_laid {w : World} (h : laidMet Tryd.prog laidL w) : Door w := by
  refine ⟨?_, ?_, ?_, ?_, ?_⟩
  · exact tab_reads (g := 4) (by kernel_rfl) (by kernel_rfl) Tryd.underlying114 Tryd.underlying66 (by kernel_rfl) (by kernel_rfl) (pow_data ▸ laidMet.reads h (.tail _ (.tail _ (.head _))))
  · exact tab_reads (g := 0) (by kernel_rfl) (by kernel_rfl) Tryd.underlying55 Tryd.underlying5 (by kernel_rfl) (by kernel_rfl) (space_data ▸ laidMet.reads h (.tail _ (.tail _ (.tail _ (.tail _ (.tail _ (.tail _ (.tail _ (.head _)))))))))
  · exact whiteTab_of_reads (ρ := Tryd.lays157_ren) { Tryd.lays157 with } ⟨by kernel_rfl, by kernel_rfl, by kernel_rfl, by kernel_rfl, by kernel_rfl, by kernel_rfl, by kernel_rfl, by kernel_rfl⟩ (white_data ▸ laidMet.reads h (.tail _ (.tail _ (.tail _ (.tail _ (.tail _ (.tail _ (.head _))))))))
  · obtain ⟨a, s, hv, _⟩ := laid_sentinel (g := 2) (h.tail.tail.tail.tail.tail) (by kernel_rfl) (by kernel_rfl) Tryd.underlying45 row_err Tryd.underlying126 Tryd.underlying128 rfl rfl Tryd.underlying9 (by kernel_rfl) (by kernel_rfl)
    exact ⟨_, _, hv⟩
  · obtain ⟨a, s, hv, _⟩ := laid_sentinel (g := 3) (h.tail.tail.tail.tail) (by kernel_rfl) (by kernel_rfl) Tryd.underlying45 row_err Tryd.underlying126 Tryd.underlying128 rfl rfl Tryd.underlying9 (by kernel_rfl) (by kernel_rfl)
    exact ⟨_, _, hv⟩

/-- A world that holds what the rows list. -/
def tabCells (d : DataW Unit) : Array Value := match d with
  | .agg ds => (ds.map fun | .lit (.int k z) => Value.int k z | _ => undef).toArray
  | _ => #[]
noncomputable def laidWorld (os : Os) : World :=
  let N := (World.settled Tryd.prog os).heap.size
  let w0 := World.holding Tryd.prog os ⟨#[.cells (Lib.whiteT.map fun (z : Nat) => Value.int .u16 (z : Int)).toArray 99, .cells #[.slice (some ⟨N, 0, none⟩) 7 7, .slice none 0 0, .int .i64 2] 96,
    .cells #[.string ⟨#[105, 110, 118, 97, 108, 105, 100, 32, 115, 121, 110, 116, 97, 120]⟩] 128, .cells #[.string ⟨#[118, 97, 108, 117, 101, 32, 111, 117, 116, 32, 111, 102, 32, 114, 97, 110, 103, 101]⟩] 128], #[], []⟩
  let put (h : Array Obj) (g : Nat) (cs : Array Value) : Array Obj := h.modify g fun
    | .cells _ t frozen => .cells cs t frozen
    | o => o
  { w0 with heap := put (put (put (put (put (put (put (put (put w0.heap 0 (Lib.asciiSpaceTab.map fun z => Value.int .u8 z).toArray) 6 (Lib.firstTab.map fun z => Value.int .u8 z).toArray)
      7 ((List.range 16).flatMap fun i => [Value.int .u8 (Lib.accLo i), Value.int .u8 (Lib.accHi i)]).toArray) 1 #[.pointer (some ⟨N + 1, 0, none⟩)])
      2 #[.iface 126 (.pointer (some ⟨N + 2, 0, none⟩))]) 3 #[.iface 126 (.pointer (some ⟨N + 3, 0, none⟩))])
      4 (tabCells Rows.laid_internal_strconv_uint64pow10)) 8 (tabCells Rows.laid_math_bits_deBruijn32tab)) 9 (tabCells Rows.laid_math_bits_deBruijn64tab) }
theorem laid_met (os : Os) (args : Array Value) : laidMet Tryd.prog laidL ((laidWorld os).forCall (fun _ _ => 0) ⟨#[], args, []⟩).memory :=
  laidMet_of_run3 10 (by kernel_rfl) (by kernel_rfl) (by kernel_rfl)
end Go.Proofs.YthnjbnfnljjepaaDoor
end
section
set_option linter.unusedSimpArgs false
set_option linter.unusedVariables false
namespace Go.Proofs.YthnjbnfnljjepaaDoor
open Go Go.RowKit

set_option maxRecDepth 100000
theorem laid_vars (os : Os) (args : Array Value) : ((laidWorld os).forCall (fun _ _ => 0) ⟨#[], args, []⟩).variablesRefB Tryd.checked.prog = true := by kernel_rfl
theorem laid_rest (os : Os) (args : Array Value) : (((laidWorld os).forCall (fun _ _ => 0) ⟨#[], args, []⟩).heap.toList.drop Tryd.checked.prog.globals.size).take ((begin Tryd.checked.prog (fun _ _ => 0) default).world.heap.size - Tryd.checked.prog.globals.size) =
      (begin Tryd.checked.prog (fun _ _ => 0) default).world.heap.toList.drop Tryd.checked.prog.globals.size := by kernel_rfl
theorem row_witness {H : Type} {enc : TypeId × Value → H} (os : Os) {f : FuncId} {fn : Func} {s : ChangeSpec} {conds : List PathCond} (args : Array Value) (fuel : Nat)
    (hok : Input.okWideB Tryd.checked.prog ((laidWorld os).forCall (fun _ _ => 0) ⟨#[], args, []⟩) f ⟨#[], args, []⟩ = true)
    (hpre : s.preB enc Tryd.checked.prog fn conds false ((laidWorld os).forCall (fun _ _ => 0) ⟨#[], args, []⟩).memory args fuel = true)
    (hsz : s.sizedB enc Tryd.checked.prog fn false ((laidWorld os).forCall (fun _ _ => 0) ⟨#[], args, []⟩).memory args fuel = true) :
    ∃ (w : World) (tape : Tape) (i : Input), w.os = os ∧ (w.forCall tape i).Shaped Tryd.checked.prog ∧ i.vars = [] ∧ Input.okWide Tryd.checked.prog (w.forCall tape i) .any w.heap.size f i ∧
      ((s.pre enc Tryd.checked.prog fn conds false (w.forCall tape i).memory i.args ∧ laidMet Tryd.prog laidL (w.forCall tape i).memory) ∧ sizedMet enc Tryd.checked.prog fn (OpenSpec.ofChange s) false (w.forCall tape i).memory i.args) ∧ ({ modest := false } : Assume).holds Tryd.checked.prog (lone (Frame.enter Tryd.checked.prog f i.args .normal) [] (w.forCall tape i)) :=
  ⟨laidWorld os, fun _ _ => 0, ⟨#[], args, []⟩, rfl, World.shaped_of_RefB (laid_vars os args) (laid_rest os args), (Input.okWide_of_okWideB (base := 0) hok).1, (Input.okWide_of_okWideB hok).2, ⟨⟨ChangeSpec.pre_of_preB hpre, laid_met os args⟩, sizedMet_of_sizedB hsz⟩, by
    simp only [Assume.holds]
    exact ⟨by simp, by simp, fun _ => Modest.zero, by simp, by simp⟩⟩
end Go.Proofs.YthnjbnfnljjepaaDoor
end
section
set_option linter.unusedSimpArgs false
set_option linter.unusedVariables false
namespace Go.Proofs.YthnjbnfnljjepaaDoor
open Go.ChangeShapes Go.WideShapes Go.ChangeAt Go.RowKit
set_option maxRecDepth 1000000

theorem okWide_clock {W : World} {r : Reach} {b : Nat} {v : Value} (h : Value.okWide Tryd.prog W r b 23 v) : ∃ xs : Array Value, v = .agg xs ∧ xs.size = 8 := by
  simp only [Value.okWide, Tryd.underlying23] at h
  obtain ⟨cs, h1, h2, _⟩ := h
  exact ⟨cs, h1, h2.trans (by kernel_rfl)⟩
theorem ck_rp {S : Nat → Nat} {W : World} {c : Ck} : RP S W (ckPa c) (.agg (c.map (Value.int .i64)).toArray) := by
  have h : ckPa c = .agg ((c.map (Value.int .i64)).map Dt.sc) := by unfold ckPa ckRow; rw [List.map_map]; rfl
  rw [h]
  exact RP.mkFlat (fun u hu => by obtain ⟨x, _, rfl⟩ := List.mem_map.1 hu; rfl)

end Go.Proofs.YthnjbnfnljjepaaDoor
end
