/- The reference of chapter 30: channel, setChannel, lock, setLock, done. -/
import Derived.Test.YtkdagjlkejefnaaMs5
section
set_option linter.unusedSimpArgs false
set_option linter.unusedVariables false
namespace Go.Proofs.Ytkdagjlkejefnaa
open Go Go.RowKit
set_option maxRecDepth 100000
set_option maxHeartbeats 4000000

def R_channel (ps rs : List Pa) : Prop := ∃ (s : RSt) (obj n : Int), ps = [s.pa, pI obj, pI n] ∧ s.chans.length ≤ 1000000 ∧ rs = [.agg (s.channel obj n).row]
theorem s_channel : Spec Try.prog 55 R_channel := by
  refine sp55 EnvOK.e0 ?_
  rintro ps rs ⟨s, obj, n, rfl, hlen, rfl⟩
  refine ⟨by simp, ?_⟩
  unfold pc55
  refine pwp_start ?_
  simp only [↓evP, evB, stB, reduceIte, reduceCtorEq, Nat.reduceEqDiff, Nat.reduceAdd, Nat.reduceMul, Nat.reduceLeDiff, Nat.reduceLT, Nat.reduceSub, Nat.reduceBEq, RSt.pa, RSt.row]
  refine pwp_loopW ms55_0 os55_0 (fun m st => ∃ k : Nat, m = s.chans.length - k ∧ k ≤ s.chans.length ∧ (∀ i c, i < k → s.chans[i]? = some c → (c.obj == obj) = false) ∧ st.sl 7 = aI k ∧ st.ob 6 = .cells [.d (dI 0), .d (dI 0), .d (dI 0), .d (dI 0), .d (dB false)] ∧ st.gen 6 = 1) s.chans.length ?_ ?_
  · exact ⟨0, rfl, Nat.zero_le _, fun i c hi => absurd hi (Nat.not_lt_zero _), by simp only [stB, reduceIte, reduceCtorEq, Nat.reduceEqDiff, Nat.reduceAdd, Nat.reduceMul, Nat.reduceLeDiff, Nat.reduceLT, Nat.reduceSub, Nat.reduceBEq]; rfl, by simp only [stB, reduceIte, reduceCtorEq, Nat.reduceEqDiff, Nat.reduceAdd, Nat.reduceMul, Nat.reduceLeDiff, Nat.reduceLT, Nat.reduceSub, Nat.reduceBEq], by simp only [stB, reduceIte, reduceCtorEq, Nat.reduceEqDiff, Nat.reduceAdd, Nat.reduceMul, Nat.reduceLeDiff, Nat.reduceLT, Nat.reduceSub, Nat.reduceBEq]⟩
  · rintro m j ⟨k, rfl, hk, hno, h7, h6, g6⟩
    simp only [stB, reduceIte, reduceCtorEq, Nat.reduceEqDiff, Nat.reduceAdd, Nat.reduceMul, Nat.reduceLeDiff, Nat.reduceLT, Nat.reduceSub, Nat.reduceBEq] at h7 h6 g6
    rcases Nat.lt_or_ge k s.chans.length with hlt | hge
    · obtain ⟨c, hc⟩ : ∃ c, s.chans[k]? = some c := ⟨_, List.getElem?_eq_getElem hlt⟩
      simp only [↓evP, evB, stB, reduceIte, reduceCtorEq, Nat.reduceEqDiff, Nat.reduceAdd, Nat.reduceMul, Nat.reduceLeDiff, Nat.reduceLT, Nat.reduceSub, Nat.reduceBEq, h7, h6, g6, hc, RCh.row, pr55]
      refine ⟨fun _ => ⟨fun he => ?_, fun he => ?_⟩, fun h => absurd hlt (by omega)⟩
      · unfold RSt.channel; rw [find_hit hno hc he]; rfl
      · exact ⟨_, by omega, (by repeat' (first | assumption | exact within_over.mpr trivial | exact Within.refl _ _ _ | (refine within_ap ?_ rfl rfl) | (refine within_ap0 ?_ rfl))), k + 1, rfl, by omega, no_succ hno hc he, by simp only [stB, reduceIte, reduceCtorEq, Nat.reduceEqDiff, Nat.reduceAdd, Nat.reduceMul, Nat.reduceLeDiff, Nat.reduceLT, Nat.reduceSub, Nat.reduceBEq, h7]; rw [wrN (by omega)], by simp only [stB, reduceIte, reduceCtorEq, Nat.reduceEqDiff, Nat.reduceAdd, Nat.reduceMul, Nat.reduceLeDiff, Nat.reduceLT, Nat.reduceSub, Nat.reduceBEq, h6], by simp only [stB, reduceIte, reduceCtorEq, Nat.reduceEqDiff, Nat.reduceAdd, Nat.reduceMul, Nat.reduceLeDiff, Nat.reduceLT, Nat.reduceSub, Nat.reduceBEq, g6]⟩
    · simp only [↓evP, evB, stB, reduceIte, reduceCtorEq, Nat.reduceEqDiff, Nat.reduceAdd, Nat.reduceMul, Nat.reduceLeDiff, Nat.reduceLT, Nat.reduceSub, Nat.reduceBEq, h7, h6, g6, pr55]
      refine ⟨fun h => absurd h (by omega), fun h => ?_⟩
      unfold RSt.channel; rw [find_miss (fun i c hi hc => hno i c (by omega) hc)]; rfl

def R_setChannel (ps rs : List Pa) : Prop := ∃ (s : RSt) (c : RCh), ps = [s.pa, .agg c.row] ∧ s.chans.length ≤ 900000 ∧ rs = [(s.setChannel c).pa]
theorem s_setChannel : Spec Try.prog 60 R_setChannel := by
  refine sp60 EnvOK.e0 ?_
  rintro ps rs ⟨s, c, rfl, hlen, rfl⟩
  refine ⟨by simp, ?_⟩
  unfold pc60
  refine pwp_start ?_
  simp only [↓evP, evB, stB, reduceIte, reduceCtorEq, Nat.reduceEqDiff, Nat.reduceAdd, Nat.reduceMul, Nat.reduceLeDiff, Nat.reduceLT, Nat.reduceSub, Nat.reduceBEq, RSt.pa, RSt.row, RCh.row]
  refine pwp_loopW ms60_0 os60_0 (fun m st => ∃ k : Nat, m = s.chans.length - k ∧ k ≤ s.chans.length ∧ st.sl 6 = aI k ∧ st.gen 5 = 1 ∧ st.sl 5 = .b (.one (.own 5 1 (((s.chans.take k).filter (fun d => d.obj != c.obj)).map RCh.row))) ∧ st.ob 5 = .row 78 5 ((s.chans.take k).filter (fun d => d.obj != c.obj)).length) s.chans.length ?_ ?_
  · exact ⟨0, rfl, Nat.zero_le _, by simp only [stB, reduceIte, reduceCtorEq, Nat.reduceEqDiff, Nat.reduceAdd, Nat.reduceMul, Nat.reduceLeDiff, Nat.reduceLT, Nat.reduceSub, Nat.reduceBEq]; rfl, by simp only [stB, reduceIte, reduceCtorEq, Nat.reduceEqDiff, Nat.reduceAdd, Nat.reduceMul, Nat.reduceLeDiff, Nat.reduceLT, Nat.reduceSub, Nat.reduceBEq], by simp only [stB, reduceIte, reduceCtorEq, Nat.reduceEqDiff, Nat.reduceAdd, Nat.reduceMul, Nat.reduceLeDiff, Nat.reduceLT, Nat.reduceSub, Nat.reduceBEq, List.filter_nil], by simp only [stB, reduceIte, reduceCtorEq, Nat.reduceEqDiff, Nat.reduceAdd, Nat.reduceMul, Nat.reduceLeDiff, Nat.reduceLT, Nat.reduceSub, Nat.reduceBEq, List.filter_nil]⟩
  · rintro m j ⟨k, rfl, hk, h6, g5, h5, o5⟩
    simp only [stB, reduceIte, reduceCtorEq, Nat.reduceEqDiff, Nat.reduceAdd, Nat.reduceMul, Nat.reduceLeDiff, Nat.reduceLT, Nat.reduceSub, Nat.reduceBEq] at h6 g5 h5 o5
    rcases Nat.lt_or_ge k s.chans.length with hlt | hge
    · obtain ⟨d, hd⟩ : ∃ d, s.chans[k]? = some d := ⟨_, List.getElem?_eq_getElem hlt⟩
      have hb : ((s.chans.take k).filter (fun d => d.obj != c.obj)).length + 1 ≤ 1000000 := by have := filter_take_le s.chans (fun d => d.obj != c.obj) k; omega
      simp only [↓evP, evB, stB, reduceIte, reduceCtorEq, Nat.reduceEqDiff, Nat.reduceAdd, Nat.reduceMul, Nat.reduceLeDiff, Nat.reduceLT, Nat.reduceSub, Nat.reduceBEq, h6, g5, h5, o5, hd, RCh.row, hb]
      refine ⟨fun _ => ⟨(by unfold Drw; kernel_rfl), fun he => ?_, fun he => ?_⟩, fun h => absurd hlt (by omega)⟩
      · exact ⟨_, by omega, (by repeat' (first | assumption | exact within_over.mpr trivial | exact Within.refl _ _ _ | (refine within_ap ?_ rfl rfl) | (refine within_ap0 ?_ rfl))), k + 1, rfl, by omega, by simp only [stB, reduceIte, reduceCtorEq, Nat.reduceEqDiff, Nat.reduceAdd, Nat.reduceMul, Nat.reduceLeDiff, Nat.reduceLT, Nat.reduceSub, Nat.reduceBEq, h6]; rw [wrN (by omega)], by simp only [stB, reduceIte, reduceCtorEq, Nat.reduceEqDiff, Nat.reduceAdd, Nat.reduceMul, Nat.reduceLeDiff, Nat.reduceLT, Nat.reduceSub, Nat.reduceBEq, g5], by simp only [stB, reduceIte, reduceCtorEq, Nat.reduceEqDiff, Nat.reduceAdd, Nat.reduceMul, Nat.reduceLeDiff, Nat.reduceLT, Nat.reduceSub, Nat.reduceBEq, h5, filter_succ hd, he, List.map_append, RCh.row], by simp only [stB, reduceIte, reduceCtorEq, Nat.reduceEqDiff, Nat.reduceAdd, Nat.reduceMul, Nat.reduceLeDiff, Nat.reduceLT, Nat.reduceSub, Nat.reduceBEq, o5, filter_succ hd, he, List.length_append]⟩
      · exact ⟨_, by omega, (by repeat' (first | assumption | exact within_over.mpr trivial | exact Within.refl _ _ _ | (refine within_ap ?_ rfl rfl) | (refine within_ap0 ?_ rfl))), k + 1, rfl, by omega, by simp only [stB, reduceIte, reduceCtorEq, Nat.reduceEqDiff, Nat.reduceAdd, Nat.reduceMul, Nat.reduceLeDiff, Nat.reduceLT, Nat.reduceSub, Nat.reduceBEq, h6]; rw [wrN (by omega)], by simp only [stB, reduceIte, reduceCtorEq, Nat.reduceEqDiff, Nat.reduceAdd, Nat.reduceMul, Nat.reduceLeDiff, Nat.reduceLT, Nat.reduceSub, Nat.reduceBEq, g5], by simp [stB, reduceIte, reduceCtorEq, Nat.reduceEqDiff, Nat.reduceAdd, Nat.reduceMul, Nat.reduceLeDiff, Nat.reduceLT, Nat.reduceSub, Nat.reduceBEq, h5, filter_succ hd, he], by simp [stB, reduceIte, reduceCtorEq, Nat.reduceEqDiff, Nat.reduceAdd, Nat.reduceMul, Nat.reduceLeDiff, Nat.reduceLT, Nat.reduceSub, Nat.reduceBEq, o5, filter_succ hd, he]⟩
    · have hkl : k = s.chans.length := by omega
      subst hkl
      rw [List.take_length] at h5 o5
      have hb : (s.chans.filter (fun d => d.obj != c.obj)).length + 1 ≤ 1000000 := by have := List.length_filter_le (fun d : RCh => d.obj != c.obj) s.chans; omega
      simp only [↓evP, evB, stB, reduceIte, reduceCtorEq, Nat.reduceEqDiff, Nat.reduceAdd, Nat.reduceMul, Nat.reduceLeDiff, Nat.reduceLT, Nat.reduceSub, Nat.reduceBEq, h6, g5, h5, o5, hb, pr60]
      refine ⟨fun h => absurd h (by omega), fun _ => ?_⟩
      simp [RSt.setChannel, RCh.row, RSt.pa, RSt.row]

end Go.Proofs.Ytkdagjlkejefnaa
end
section
set_option linter.unusedSimpArgs false
set_option linter.unusedVariables false
namespace Go.Proofs.Ytkdagjlkejefnaa
open Go Go.RowKit
set_option maxRecDepth 100000
set_option maxHeartbeats 4000000

def R_lock (ps rs : List Pa) : Prop := ∃ (s : RSt) (obj off : Int), ps = [s.pa, pI obj, pI off] ∧ s.locks.length ≤ 1000000 ∧ rs = [.agg (s.lock obj off).row]
theorem s_lock : Spec Try.prog 61 R_lock := by
  refine sp61 EnvOK.e0 ?_
  rintro ps rs ⟨s, obj, off, rfl, hlen, rfl⟩
  refine ⟨by simp, ?_⟩
  unfold pc61
  refine pwp_start ?_
  simp only [↓evP, evB, stB, reduceIte, reduceCtorEq, Nat.reduceEqDiff, Nat.reduceAdd, Nat.reduceMul, Nat.reduceLeDiff, Nat.reduceLT, Nat.reduceSub, Nat.reduceBEq, RSt.pa, RSt.row]
  refine pwp_loopW ms61_0 os61_0 (fun m st => ∃ k : Nat, m = s.locks.length - k ∧ k ≤ s.locks.length ∧ (∀ i c, i < k → s.locks[i]? = some c → (c.obj == obj && c.off == off) = false) ∧ st.sl 7 = aI k ∧ st.ob 6 = .cells [.d (dI 0), .d (dI 0), .d (dB false), .d (dI 0)] ∧ st.gen 6 = 1) s.locks.length ?_ ?_
  · exact ⟨0, rfl, Nat.zero_le _, fun i c hi => absurd hi (Nat.not_lt_zero _), by simp only [stB, reduceIte, reduceCtorEq, Nat.reduceEqDiff, Nat.reduceAdd, Nat.reduceMul, Nat.reduceLeDiff, Nat.reduceLT, Nat.reduceSub, Nat.reduceBEq]; rfl, by simp only [stB, reduceIte, reduceCtorEq, Nat.reduceEqDiff, Nat.reduceAdd, Nat.reduceMul, Nat.reduceLeDiff, Nat.reduceLT, Nat.reduceSub, Nat.reduceBEq], by simp only [stB, reduceIte, reduceCtorEq, Nat.reduceEqDiff, Nat.reduceAdd, Nat.reduceMul, Nat.reduceLeDiff, Nat.reduceLT, Nat.reduceSub, Nat.reduceBEq]⟩
  · rintro m j ⟨k, rfl, hk, hno, h7, h6, g6⟩
    simp only [stB, reduceIte, reduceCtorEq, Nat.reduceEqDiff, Nat.reduceAdd, Nat.reduceMul, Nat.reduceLeDiff, Nat.reduceLT, Nat.reduceSub, Nat.reduceBEq] at h7 h6 g6
    rcases Nat.lt_or_ge k s.locks.length with hlt | hge
    · obtain ⟨c, hc⟩ : ∃ c, s.locks[k]? = some c := ⟨_, List.getElem?_eq_getElem hlt⟩
      simp only [↓evP, evB, stB, reduceIte, reduceCtorEq, Nat.reduceEqDiff, Nat.reduceAdd, Nat.reduceMul, Nat.reduceLeDiff, Nat.reduceLT, Nat.reduceSub, Nat.reduceBEq, h7, h6, g6, hc, RLk.row, pr61]
      refine ⟨fun _ => ⟨fun e1 => ⟨fun e2 => ?_, fun e2 => ?_⟩, fun e1 => ?_⟩, fun h => absurd hlt (by omega)⟩
      · unfold RSt.lock; rw [find_hit hno hc (by rw [e1, e2]; rfl)]; rfl
      · exact ⟨_, by omega, (by repeat' (first | assumption | exact within_over.mpr trivial | exact Within.refl _ _ _ | (refine within_ap ?_ rfl rfl) | (refine within_ap0 ?_ rfl))), k + 1, rfl, by omega, no_succ hno hc (by rw [e2, Bool.and_false]), by simp only [stB, reduceIte, reduceCtorEq, Nat.reduceEqDiff, Nat.reduceAdd, Nat.reduceMul, Nat.reduceLeDiff, Nat.reduceLT, Nat.reduceSub, Nat.reduceBEq, h7]; rw [wrN (by omega)], by simp only [stB, reduceIte, reduceCtorEq, Nat.reduceEqDiff, Nat.reduceAdd, Nat.reduceMul, Nat.reduceLeDiff, Nat.reduceLT, Nat.reduceSub, Nat.reduceBEq, h6], by simp only [stB, reduceIte, reduceCtorEq, Nat.reduceEqDiff, Nat.reduceAdd, Nat.reduceMul, Nat.reduceLeDiff, Nat.reduceLT, Nat.reduceSub, Nat.reduceBEq, g6]⟩
      · exact ⟨_, by omega, (by repeat' (first | assumption | exact within_over.mpr trivial | exact Within.refl _ _ _ | (refine within_ap ?_ rfl rfl) | (refine within_ap0 ?_ rfl))), k + 1, rfl, by omega, no_succ hno hc (by rw [e1]; rfl), by simp only [stB, reduceIte, reduceCtorEq, Nat.reduceEqDiff, Nat.reduceAdd, Nat.reduceMul, Nat.reduceLeDiff, Nat.reduceLT, Nat.reduceSub, Nat.reduceBEq, h7]; rw [wrN (by omega)], by simp only [stB, reduceIte, reduceCtorEq, Nat.reduceEqDiff, Nat.reduceAdd, Nat.reduceMul, Nat.reduceLeDiff, Nat.reduceLT, Nat.reduceSub, Nat.reduceBEq, h6], by simp only [stB, reduceIte, reduceCtorEq, Nat.reduceEqDiff, Nat.reduceAdd, Nat.reduceMul, Nat.reduceLeDiff, Nat.reduceLT, Nat.reduceSub, Nat.reduceBEq, g6]⟩
    · simp only [↓evP, evB, stB, reduceIte, reduceCtorEq, Nat.reduceEqDiff, Nat.reduceAdd, Nat.reduceMul, Nat.reduceLeDiff, Nat.reduceLT, Nat.reduceSub, Nat.reduceBEq, h7, h6, g6, pr61]
      refine ⟨fun h => absurd h (by omega), fun h => ?_⟩
      unfold RSt.lock; rw [find_miss (fun i c hi hc => hno i c (by omega) hc)]; rfl

def R_setLock (ps rs : List Pa) : Prop := ∃ (s : RSt) (c : RLk), ps = [s.pa, .agg c.row] ∧ s.locks.length ≤ 900000 ∧ rs = [(s.setLock c).pa]
theorem s_setLock : Spec Try.prog 62 R_setLock := by
  refine sp62 EnvOK.e0 ?_
  rintro ps rs ⟨s, c, rfl, hlen, rfl⟩
  refine ⟨by simp, ?_⟩
  unfold pc62
  refine pwp_start ?_
  simp only [↓evP, evB, stB, reduceIte, reduceCtorEq, Nat.reduceEqDiff, Nat.reduceAdd, Nat.reduceMul, Nat.reduceLeDiff, Nat.reduceLT, Nat.reduceSub, Nat.reduceBEq, RSt.pa, RSt.row, RLk.row]
  refine pwp_loopW ms62_0 os62_0 (fun m st => ∃ k : Nat, m = s.locks.length - k ∧ k ≤ s.locks.length ∧ st.sl 6 = aI k ∧ st.gen 5 = 1 ∧ st.sl 5 = .b (.one (.own 5 1 (((s.locks.take k).filter (fun d => d.obj != c.obj || d.off != c.off)).map RLk.row))) ∧ st.ob 5 = .row 88 4 ((s.locks.take k).filter (fun d => d.obj != c.obj || d.off != c.off)).length) s.locks.length ?_ ?_
  · exact ⟨0, rfl, Nat.zero_le _, by simp only [stB, reduceIte, reduceCtorEq, Nat.reduceEqDiff, Nat.reduceAdd, Nat.reduceMul, Nat.reduceLeDiff, Nat.reduceLT, Nat.reduceSub, Nat.reduceBEq]; rfl, by simp only [stB, reduceIte, reduceCtorEq, Nat.reduceEqDiff, Nat.reduceAdd, Nat.reduceMul, Nat.reduceLeDiff, Nat.reduceLT, Nat.reduceSub, Nat.reduceBEq], by simp only [stB, reduceIte, reduceCtorEq, Nat.reduceEqDiff, Nat.reduceAdd, Nat.reduceMul, Nat.reduceLeDiff, Nat.reduceLT, Nat.reduceSub, Nat.reduceBEq, List.filter_nil], by simp only [stB, reduceIte, reduceCtorEq, Nat.reduceEqDiff, Nat.reduceAdd, Nat.reduceMul, Nat.reduceLeDiff, Nat.reduceLT, Nat.reduceSub, Nat.reduceBEq, List.filter_nil]⟩
  · rintro m j ⟨k, rfl, hk, h6, g5, h5, o5⟩
    simp only [stB, reduceIte, reduceCtorEq, Nat.reduceEqDiff, Nat.reduceAdd, Nat.reduceMul, Nat.reduceLeDiff, Nat.reduceLT, Nat.reduceSub, Nat.reduceBEq] at h6 g5 h5 o5
    rcases Nat.lt_or_ge k s.locks.length with hlt | hge
    · obtain ⟨d, hd⟩ : ∃ d, s.locks[k]? = some d := ⟨_, List.getElem?_eq_getElem hlt⟩
      have hb : ((s.locks.take k).filter (fun d => d.obj != c.obj || d.off != c.off)).length + 1 ≤ 1000000 := by have := filter_take_le s.locks (fun d => d.obj != c.obj || d.off != c.off) k; omega
      simp only [↓evP, evB, stB, reduceIte, reduceCtorEq, Nat.reduceEqDiff, Nat.reduceAdd, Nat.reduceMul, Nat.reduceLeDiff, Nat.reduceLT, Nat.reduceSub, Nat.reduceBEq, h6, g5, h5, o5, hd, RLk.row, hb]
      refine ⟨fun _ => ?_, fun h => absurd hlt (by omega)⟩
      repeat' (first | apply And.intro | intro)
      all_goals first
        | (unfold Drw; kernel_rfl)
        | exact ⟨_, by omega, (by repeat' (first | assumption | exact within_over.mpr trivial | exact Within.refl _ _ _ | (refine within_ap ?_ rfl rfl) | (refine within_ap0 ?_ rfl))), k + 1, rfl, by omega, by simp only [stB, reduceIte, reduceCtorEq, Nat.reduceEqDiff, Nat.reduceAdd, Nat.reduceMul, Nat.reduceLeDiff, Nat.reduceLT, Nat.reduceSub, Nat.reduceBEq, h6]; rw [wrN (by omega)], by simp only [stB, reduceIte, reduceCtorEq, Nat.reduceEqDiff, Nat.reduceAdd, Nat.reduceMul, Nat.reduceLeDiff, Nat.reduceLT, Nat.reduceSub, Nat.reduceBEq, g5], by simp [stB, reduceIte, reduceCtorEq, Nat.reduceEqDiff, Nat.reduceAdd, Nat.reduceMul, Nat.reduceLeDiff, Nat.reduceLT, Nat.reduceSub, Nat.reduceBEq, h5, filter_succ hd, RLk.row, *], by simp [stB, reduceIte, reduceCtorEq, Nat.reduceEqDiff, Nat.reduceAdd, Nat.reduceMul, Nat.reduceLeDiff, Nat.reduceLT, Nat.reduceSub, Nat.reduceBEq, o5, filter_succ hd, *]⟩
        | skip
    · have hkl : k = s.locks.length := by omega
      subst hkl
      rw [List.take_length] at h5 o5
      have hb : (s.locks.filter (fun d => d.obj != c.obj || d.off != c.off)).length + 1 ≤ 1000000 := by have := List.length_filter_le (fun d : RLk => d.obj != c.obj || d.off != c.off) s.locks; omega
      simp only [↓evP, evB, stB, reduceIte, reduceCtorEq, Nat.reduceEqDiff, Nat.reduceAdd, Nat.reduceMul, Nat.reduceLeDiff, Nat.reduceLT, Nat.reduceSub, Nat.reduceBEq, h6, g5, h5, o5, hb, pr62]
      refine ⟨fun h => absurd h (by omega), fun _ => ?_⟩
      simp [RSt.setLock, RLk.row, RSt.pa, RSt.row]
end Go.Proofs.Ytkdagjlkejefnaa
end
section
set_option linter.unusedSimpArgs false
set_option linter.unusedVariables false
namespace Go.Proofs.Ytkdagjlkejefnaa
open Go Go.RowKit
set_option maxRecDepth 100000
set_option maxHeartbeats 4000000


def R_done (ps rs : List Pa) : Prop := ∃ (s : RSt) (obj off : Int), ps = [s.pa, pI obj, pI off] ∧ s.done.length ≤ 1000000 ∧ rs = [pB (s.isDone obj off)]
theorem s_done : Spec Try.prog 63 R_done := by
  refine sp63 EnvOK.e0 ?_
  rintro ps rs ⟨s, obj, off, rfl, hlen, rfl⟩
  refine ⟨by simp, ?_⟩
  unfold pc63
  refine pwp_start ?_
  simp only [↓evP, evB, stB, reduceIte, reduceCtorEq, Nat.reduceEqDiff, Nat.reduceAdd, Nat.reduceMul, Nat.reduceLeDiff, Nat.reduceLT, Nat.reduceSub, Nat.reduceBEq, RSt.pa, RSt.row]
  refine pwp_loopW ms63_0 os63_0 (fun m st => ∃ k : Nat, m = s.done.length - k ∧ k ≤ s.done.length ∧ (∀ i c, i < k → s.done[i]? = some c → (c.1 == obj && c.2 == off) = false) ∧ st.sl 7 = aI k) s.done.length ?_ ?_
  · exact ⟨0, rfl, Nat.zero_le _, fun i c hi => absurd hi (Nat.not_lt_zero _), by simp only [stB, reduceIte, reduceCtorEq, Nat.reduceEqDiff, Nat.reduceAdd, Nat.reduceMul, Nat.reduceLeDiff, Nat.reduceLT, Nat.reduceSub, Nat.reduceBEq]; rfl⟩
  · rintro m j ⟨k, rfl, hk, hno, h7⟩
    simp only [stB, reduceIte, reduceCtorEq, Nat.reduceEqDiff, Nat.reduceAdd, Nat.reduceMul, Nat.reduceLeDiff, Nat.reduceLT, Nat.reduceSub, Nat.reduceBEq] at h7
    rcases Nat.lt_or_ge k s.done.length with hlt | hge
    · obtain ⟨c, hc⟩ : ∃ c, s.done[k]? = some c := ⟨_, List.getElem?_eq_getElem hlt⟩
      simp only [↓evP, evB, stB, reduceIte, reduceCtorEq, Nat.reduceEqDiff, Nat.reduceAdd, Nat.reduceMul, Nat.reduceLeDiff, Nat.reduceLT, Nat.reduceSub, Nat.reduceBEq, h7, hc, locRow, pr63]
      refine ⟨fun _ => ⟨fun e1 => ⟨fun e2 => ?_, fun e2 => ?_⟩, fun e1 => ?_⟩, fun h => absurd hlt (by omega)⟩
      · unfold RSt.isDone
        rw [List.any_eq_true.2 ⟨c, List.mem_of_getElem? hc, by rw [e1, e2]; rfl⟩]
      · exact ⟨_, by omega, (by repeat' (first | assumption | exact within_over.mpr trivial | exact Within.refl _ _ _ | (refine within_ap ?_ rfl rfl) | (refine within_ap0 ?_ rfl))), k + 1, rfl, by omega, no_succ hno hc (by rw [e2, Bool.and_false]), by simp only [stB, reduceIte, reduceCtorEq, Nat.reduceEqDiff, Nat.reduceAdd, Nat.reduceMul, Nat.reduceLeDiff, Nat.reduceLT, Nat.reduceSub, Nat.reduceBEq, h7]; rw [wrN (by omega)]⟩
      · exact ⟨_, by omega, (by repeat' (first | assumption | exact within_over.mpr trivial | exact Within.refl _ _ _ | (refine within_ap ?_ rfl rfl) | (refine within_ap0 ?_ rfl))), k + 1, rfl, by omega, no_succ hno hc (by rw [e1]; rfl), by simp only [stB, reduceIte, reduceCtorEq, Nat.reduceEqDiff, Nat.reduceAdd, Nat.reduceMul, Nat.reduceLeDiff, Nat.reduceLT, Nat.reduceSub, Nat.reduceBEq, h7]; rw [wrN (by omega)]⟩
    · simp only [↓evP, evB, stB, reduceIte, reduceCtorEq, Nat.reduceEqDiff, Nat.reduceAdd, Nat.reduceMul, Nat.reduceLeDiff, Nat.reduceLT, Nat.reduceSub, Nat.reduceBEq, h7, pr63]
      refine ⟨fun h => absurd h (by omega), fun h => ?_⟩
      unfold RSt.isDone; rw [any_miss (fun i c hi hc => hno i c (by omega) hc)]

def env_counted : Env := e1 55 R_channel (e1 60 R_setChannel e0)
theorem env_counted_ok : EnvOK Try.prog env_counted := EnvOK.e1 s_channel (EnvOK.e1 s_setChannel EnvOK.e0)
theorem RSt.channel_bd {s : RSt} (h : s.ok) (obj n : Int) : (0 ≤ (s.channel obj n).sent ∧ (s.channel obj n).sent ≤ 1000000) ∧ (0 ≤ (s.channel obj n).recv ∧ (s.channel obj n).recv ≤ 1000000) := by
  unfold RSt.channel
  cases hf : s.chans.find? (fun c => c.obj == obj) with
  | none => simp
  | some c => exact h.ch.2 c (List.mem_of_find?_eq_some hf)
def R_counted (ps rs : List Pa) : Prop := ∃ (s : RSt) (e : Ev), ps = [s.pa, e.pa] ∧ s.ok ∧ rs = [(s.counted e).pa]
theorem s_counted : Spec Try.prog 58 R_counted := by
  refine sp58 env_counted_ok ?_
  rintro ps rs ⟨s, e, rfl, hok, rfl⟩
  refine ⟨by simp, ?_⟩
  obtain ⟨⟨c1, c2⟩, c3, c4⟩ := RSt.channel_bd hok e.obj e.n
  unfold pc58
  refine pwp_start ?_
  simp only [↓evP, evB, stB, reduceIte, reduceCtorEq, Nat.reduceEqDiff, Nat.reduceAdd, Nat.reduceMul, Nat.reduceLeDiff, Nat.reduceLT, Nat.reduceSub, Nat.reduceBEq, RSt.pa, RSt.row, Ev.pa, Ev.row]
  refine callOps_intro [.agg (s.channel e.obj e.n).row] ⟨s, e.obj, e.n, rfl, by have := hok.ch.1; omega, rfl⟩ ?_
  simp only [↓evP, evB, stB, reduceIte, reduceCtorEq, Nat.reduceEqDiff, Nat.reduceAdd, Nat.reduceMul, Nat.reduceLeDiff, Nat.reduceLT, Nat.reduceSub, Nat.reduceBEq, RCh.row, pr58]
  refine ⟨fun h15 => ?_, fun h15 => ⟨fun h17 => ?_, fun h17 => ?_⟩⟩
  · rw [wr64 (by omega) (by omega)]
    refine callOps_intro [(s.setChannel { s.channel e.obj e.n with sent := (s.channel e.obj e.n).sent + 1 }).pa] ⟨s, { s.channel e.obj e.n with sent := (s.channel e.obj e.n).sent + 1 }, rfl, hok.ch.1, rfl⟩ ?_
    simp only [↓evP, evB, stB, reduceIte, reduceCtorEq, Nat.reduceEqDiff, Nat.reduceAdd, Nat.reduceMul, Nat.reduceLeDiff, Nat.reduceLT, Nat.reduceSub, Nat.reduceBEq, RSt.pa, RSt.row, pr58]
    unfold RSt.counted RCh.count
    rw [if_pos (Or.inl (beq_iff_eq.1 h15)), if_pos (beq_iff_eq.1 h15)]
  · rw [wr64 (by omega) (by omega)]
    refine callOps_intro [(s.setChannel { s.channel e.obj e.n with recv := (s.channel e.obj e.n).recv + 1 }).pa] ⟨s, { s.channel e.obj e.n with recv := (s.channel e.obj e.n).recv + 1 }, rfl, hok.ch.1, rfl⟩ ?_
    simp only [↓evP, evB, stB, reduceIte, reduceCtorEq, Nat.reduceEqDiff, Nat.reduceAdd, Nat.reduceMul, Nat.reduceLeDiff, Nat.reduceLT, Nat.reduceSub, Nat.reduceBEq, RSt.pa, RSt.row, pr58]
    unfold RSt.counted RCh.count
    rw [if_pos (Or.inr (beq_iff_eq.1 h17)), if_neg (beq_eq_false_iff_ne.1 h15), if_pos (beq_iff_eq.1 h17)]
  · unfold RSt.counted
    rw [if_neg (fun h => h.elim (beq_eq_false_iff_ne.1 h15) (beq_eq_false_iff_ne.1 h17))]

def R_begin (ps rs : List Pa) : Prop := ∃ (s : RSt) (e : Ev) (next : List RWt), ps = [s.pa, e.pa, .one (.im (next.map RWt.row))] ∧ (s.ok ∧ next.length ≤ 900000) ∧ rs = [(s.begin e next).pa, pB true]
def env_begin : Env := e1 58 R_counted e0
theorem env_begin_ok : EnvOK Try.prog env_begin := EnvOK.e1 s_counted EnvOK.e0
theorem s_begin : Spec Try.prog 59 R_begin := by
  refine sp59 env_begin_ok ?_
  rintro ps rs ⟨s, e, next, rfl, ⟨hok, hn⟩, rfl⟩
  refine ⟨by simp, ?_⟩
  unfold pc59
  refine pwp_start ?_
  simp only [↓evP, evB, stB, reduceIte, reduceCtorEq, Nat.reduceEqDiff, Nat.reduceAdd, Nat.reduceMul, Nat.reduceLeDiff, Nat.reduceLT, Nat.reduceSub, Nat.reduceBEq, RSt.pa, RSt.row, Ev.pa, Ev.row]
  refine ⟨(by unfold Drw; kernel_rfl), ?_⟩
  refine callOps_intro [(s.begin e next).pa] ⟨{ s with next := next, obj := e.obj, k := e.k, n := e.n }, e, rfl, ⟨hok.ct, hok.gr, hok.ch, hok.lk, hok.dn, hn⟩, rfl⟩ ?_
  simp only [↓evP, evB, stB, reduceIte, reduceCtorEq, Nat.reduceEqDiff, Nat.reduceAdd, Nat.reduceMul, Nat.reduceLeDiff, Nat.reduceLT, Nat.reduceSub, Nat.reduceBEq, RSt.pa, RSt.row, pr59]
end Go.Proofs.Ytkdagjlkejefnaa
end
section
set_option linter.unusedSimpArgs false
set_option linter.unusedVariables false
namespace Go.Proofs.Ytkdagjlkejefnaa
open Go Go.RowKit
set_option maxRecDepth 100000
set_option maxHeartbeats 4000000

def R_group (ps rs : List Pa) : Prop := ∃ (s : RSt) (e : Ev), ps = [s.pa, e.pa] ∧ (s.ok ∧ s.next ≠ []) ∧ rs = [(s.groupR e).1.pa, pB (s.groupR e).2]
def env_group : Env := e1 58 R_counted e0
theorem env_group_ok : EnvOK Try.prog env_group := EnvOK.e1 s_counted EnvOK.e0

theorem group_tail {s : RSt} {e : Ev} {w : RWt} {rest : List RWt} (hok : s.ok) (hnx : s.next = w :: rest) (Q : Exit → St → Prop)
    (hQ : ∀ st, st.res pr38 = some [(RSt.counted { s with next := rest.map (w.known e.g) } e).pa, pB true] → Q .ret st) (st : St)
    (h2 : st.sl 2 = .b (.one (.ptr 2 1 0))) (h3 : st.sl 3 = .b (.one (.ptr 3 1 0))) (h4 : st.sl 4 = .b (.one (.ptr 4 1 0))) (h6 : st.sl 6 = .b (.one (.ptr 6 1 0)))
    (g2 : st.gen 2 = 1) (g3 : st.gen 3 = 1) (g4 : st.gen 4 = 1) (g6 : st.gen 6 = 1) (g7 : st.gen 7 = 0)
    (o2 : st.ob 2 = .cells (s.row.map .d)) (o3 : st.ob 3 = .cells (e.row.map .d)) (o4 : st.ob 4 = .cells [.d (dI 0), .d (dI 0), .d (.sc (.slice none 0 0)), .d (.sc (.slice none 0 0)), .d (.sc (.slice none 0 0)), .d (.sc (.slice none 0 0)), .d (dI 0), .d (dI 0), .d (dI 0)]) (o6 : st.ob 6 = .cells (w.row.map .d)) :
    pwp env_group pc38c2 (exS env_group [] Q) st := by
  have hlen := hok.nx
  rw [hnx, List.length_cons] at hlen
  simp only [RSt.row, Ev.row, RWt.row, hnx, List.map_cons, List.map_nil] at o2 o3 o4 o6
  unfold pc38c2 pc38c1
  simp only [↓evP, evB, stB, reduceIte, reduceCtorEq, Nat.reduceEqDiff, Nat.reduceAdd, Nat.reduceMul, Nat.reduceLeDiff, Nat.reduceLT, Nat.reduceSub, Nat.reduceBEq, h2, h3, h4, h6, g2, g3, g4, g6, g7, o2, o3, o4, o6]
  refine pwp_loopW ms38_0 os38_0 (fun m st => ∃ k : Nat, m = rest.length - k ∧ k ≤ rest.length ∧ st.sl 8 = aI ((k + 1 : Nat) : Int) ∧ st.gen 7 = 1 ∧ st.sl 7 = .b (.one (.own 7 1 ((rest.take k).map fun x => (w.known e.g x).row))) ∧ st.ob 7 = .row 83 3 k) rest.length ?_ ?_
  · exact ⟨0, rfl, Nat.zero_le _, by simp only [stB, reduceIte, reduceCtorEq, Nat.reduceEqDiff, Nat.reduceAdd, Nat.reduceMul, Nat.reduceLeDiff, Nat.reduceLT, Nat.reduceSub, Nat.reduceBEq]; rfl, by simp only [stB, reduceIte, reduceCtorEq, Nat.reduceEqDiff, Nat.reduceAdd, Nat.reduceMul, Nat.reduceLeDiff, Nat.reduceLT, Nat.reduceSub, Nat.reduceBEq, g7], by simp only [stB, reduceIte, reduceCtorEq, Nat.reduceEqDiff, Nat.reduceAdd, Nat.reduceMul, Nat.reduceLeDiff, Nat.reduceLT, Nat.reduceSub, Nat.reduceBEq, g7], by simp only [stB, reduceIte, reduceCtorEq, Nat.reduceEqDiff, Nat.reduceAdd, Nat.reduceMul, Nat.reduceLeDiff, Nat.reduceLT, Nat.reduceSub, Nat.reduceBEq]⟩
  · rintro m j ⟨k, rfl, hk, h8, g7', h7, o7⟩
    simp only [stB, reduceIte, reduceCtorEq, Nat.reduceEqDiff, Nat.reduceAdd, Nat.reduceMul, Nat.reduceLeDiff, Nat.reduceLT, Nat.reduceSub, Nat.reduceBEq] at h8 g7' h7 o7
    rcases Nat.lt_or_ge k rest.length with hlt | hge
    · obtain ⟨d, hd⟩ : ∃ d, rest[k]? = some d := ⟨_, List.getElem?_eq_getElem hlt⟩
      have hb : k + 1 ≤ 1000000 := by omega
      have hb2 : ((k + 1 : Nat) : Int) < ((rest.length + 1 : Nat) : Int) := by omega
      have hb3 : ((k + 1 : Nat) : Int) ≥ 0 := by omega
      simp only [↓evP, evB, stB, reduceIte, reduceCtorEq, Nat.reduceEqDiff, Nat.reduceAdd, Nat.reduceMul, Nat.reduceLeDiff, Nat.reduceLT, Nat.reduceSub, Nat.reduceBEq, h2, h3, h4, h6, g2, g3, g4, g6, o2, o3, o4, o6, h8, g7', h7, o7, hd, hb, hb2, hb3, RWt.row, List.length_take, Nat.min_eq_left hk]
      have hkn : ∀ hw : w.g < 0, ∀ hx : d.g < 0, w.known e.g d = { d with g := e.g } := fun hw hx => if_pos ⟨hw, hx⟩
      have hkn2 : ¬ (w.g < 0 ∧ d.g < 0) → w.known e.g d = d := fun h => if_neg h
      refine ⟨fun hw => ⟨fun hx => ?_, fun hx => ?_⟩, fun hw => ?_⟩
      · exact ⟨_, by omega, (by repeat' (first | assumption | exact within_over.mpr trivial | exact Within.refl _ _ _ | (refine within_ap ?_ rfl rfl) | (refine within_ap0 ?_ rfl))), k + 1, rfl, by omega, by simp only [stB, reduceIte, reduceCtorEq, Nat.reduceEqDiff, Nat.reduceAdd, Nat.reduceMul, Nat.reduceLeDiff, Nat.reduceLT, Nat.reduceSub, Nat.reduceBEq, h8]; rw [wrN (by omega)], by simp only [stB, reduceIte, reduceCtorEq, Nat.reduceEqDiff, Nat.reduceAdd, Nat.reduceMul, Nat.reduceLeDiff, Nat.reduceLT, Nat.reduceSub, Nat.reduceBEq, g7'], by simp only [stB, reduceIte, reduceCtorEq, Nat.reduceEqDiff, Nat.reduceAdd, Nat.reduceMul, Nat.reduceLeDiff, Nat.reduceLT, Nat.reduceSub, Nat.reduceBEq, h7, List.take_add_one, hd, Option.toList_some, List.map_append, hkn hw hx, RWt.row], by simp only [stB, reduceIte, reduceCtorEq, Nat.reduceEqDiff, Nat.reduceAdd, Nat.reduceMul, Nat.reduceLeDiff, Nat.reduceLT, Nat.reduceSub, Nat.reduceBEq, o7]⟩
      · exact ⟨_, by omega, (by repeat' (first | assumption | exact within_over.mpr trivial | exact Within.refl _ _ _ | (refine within_ap ?_ rfl rfl) | (refine within_ap0 ?_ rfl))), k + 1, rfl, by omega, by simp only [stB, reduceIte, reduceCtorEq, Nat.reduceEqDiff, Nat.reduceAdd, Nat.reduceMul, Nat.reduceLeDiff, Nat.reduceLT, Nat.reduceSub, Nat.reduceBEq, h8]; rw [wrN (by omega)], by simp only [stB, reduceIte, reduceCtorEq, Nat.reduceEqDiff, Nat.reduceAdd, Nat.reduceMul, Nat.reduceLeDiff, Nat.reduceLT, Nat.reduceSub, Nat.reduceBEq, g7'], by simp only [stB, reduceIte, reduceCtorEq, Nat.reduceEqDiff, Nat.reduceAdd, Nat.reduceMul, Nat.reduceLeDiff, Nat.reduceLT, Nat.reduceSub, Nat.reduceBEq, h7, List.take_add_one, hd, Option.toList_some, List.map_append, hkn2 (fun h => hx h.2), RWt.row], by simp only [stB, reduceIte, reduceCtorEq, Nat.reduceEqDiff, Nat.reduceAdd, Nat.reduceMul, Nat.reduceLeDiff, Nat.reduceLT, Nat.reduceSub, Nat.reduceBEq, o7]⟩
      · exact ⟨_, by omega, (by repeat' (first | assumption | exact within_over.mpr trivial | exact Within.refl _ _ _ | (refine within_ap ?_ rfl rfl) | (refine within_ap0 ?_ rfl))), k + 1, rfl, by omega, by simp only [stB, reduceIte, reduceCtorEq, Nat.reduceEqDiff, Nat.reduceAdd, Nat.reduceMul, Nat.reduceLeDiff, Nat.reduceLT, Nat.reduceSub, Nat.reduceBEq, h8]; rw [wrN (by omega)], by simp only [stB, reduceIte, reduceCtorEq, Nat.reduceEqDiff, Nat.reduceAdd, Nat.reduceMul, Nat.reduceLeDiff, Nat.reduceLT, Nat.reduceSub, Nat.reduceBEq, g7'], by simp only [stB, reduceIte, reduceCtorEq, Nat.reduceEqDiff, Nat.reduceAdd, Nat.reduceMul, Nat.reduceLeDiff, Nat.reduceLT, Nat.reduceSub, Nat.reduceBEq, h7, List.take_add_one, hd, Option.toList_some, List.map_append, hkn2 (fun h => hw h.1), RWt.row], by simp only [stB, reduceIte, reduceCtorEq, Nat.reduceEqDiff, Nat.reduceAdd, Nat.reduceMul, Nat.reduceLeDiff, Nat.reduceLT, Nat.reduceSub, Nat.reduceBEq, o7]⟩
    · have hkl : k = rest.length := by omega
      subst hkl
      rw [List.take_length] at h7
      have hb2 : ¬ (((rest.length + 1 : Nat) : Int) < ((rest.length + 1 : Nat) : Int)) := by omega
      unfold pc38c0
      simp only [↓evP, evB, stB, reduceIte, reduceCtorEq, Nat.reduceEqDiff, Nat.reduceAdd, Nat.reduceMul, Nat.reduceLeDiff, Nat.reduceLT, Nat.reduceSub, Nat.reduceBEq, h2, h3, h4, h6, g2, g3, g4, g6, o2, o3, o4, o6, h8, g7', h7, o7, hb2]
      refine callOps_intro [(RSt.counted { s with next := rest.map (w.known e.g) } e).pa] ⟨{ s with next := rest.map (w.known e.g) }, e, ?_, ⟨hok.ct, hok.gr, hok.ch, hok.lk, hok.dn, by simp; omega⟩, rfl⟩ ?_
      · simp only [RSt.pa, RSt.row, Ev.pa, Ev.row, List.map_map]; rfl
      · simp only [↓evP, evB, stB, reduceIte, reduceCtorEq, Nat.reduceEqDiff, Nat.reduceAdd, Nat.reduceMul, Nat.reduceLeDiff, Nat.reduceLT, Nat.reduceSub, Nat.reduceBEq, RSt.pa, RSt.row, h2, h3, h4, h6, g2, g3, g4, g6, o2, o3, o4, o6]
        refine hQ _ ?_
        simp only [stB, reduceIte, reduceCtorEq, Nat.reduceEqDiff, Nat.reduceAdd, Nat.reduceMul, Nat.reduceLeDiff, Nat.reduceLT, Nat.reduceSub, Nat.reduceBEq, pr38, RSt.pa, RSt.row, h2, h3, h4, h6, g2, g3, g4, g6, o2, o3, o4, o6]

theorem s_group : Spec Try.prog 38 R_group := by
  refine sp38 env_group_ok ?_
  rintro ps rs ⟨s, e, rfl, ⟨hok, hn⟩, rfl⟩
  refine ⟨by simp, ?_⟩
  obtain ⟨w, rest, hnx⟩ : ∃ w rest, s.next = w :: rest := by cases h : s.next with
    | nil => exact absurd h hn
    | cons w l => exact ⟨w, l, rfl⟩
  unfold pc38
  refine pwp_start ?_
  simp only [↓evP, evB, stB, reduceIte, reduceCtorEq, Nat.reduceEqDiff, Nat.reduceAdd, Nat.reduceMul, Nat.reduceLeDiff, Nat.reduceLT, Nat.reduceSub, Nat.reduceBEq, RSt.pa, RSt.row, Ev.pa, Ev.row, hnx, RWt.row, Int.toNat_zero, Int.le_refl]
  refine pwp_fresh [2, 3, 4, 5, 6] [2, 3, 4, 6, 7] (fun st hs ho => ?_)
  simp only [stB, reduceIte, reduceCtorEq, Nat.reduceEqDiff, Nat.reduceAdd, Nat.reduceMul, Nat.reduceLeDiff, Nat.reduceLT, Nat.reduceSub, Nat.reduceBEq] at hs ho
  obtain ⟨h2, h3, h4, h5, h6⟩ := hs
  obtain ⟨⟨g2, o2⟩, ⟨g3, o3⟩, ⟨g4, o4⟩, ⟨g6, o6⟩, g7, o7⟩ := ho
  unfold pc38c4 pc38c3
  cases hf : s.fits w e with
  | false =>
    have hg : s.groupR e = (s, false) := by unfold RSt.groupR; rw [hnx]; dsimp only; rw [hf]; rfl
    rw [hg]
    unfold RSt.fits at hf
    cases b1 : (e.kind != w.kind) with
    | true => simp only [↓evP, evB, stB, reduceIte, reduceCtorEq, Nat.reduceEqDiff, Nat.reduceAdd, Nat.reduceMul, Nat.reduceLeDiff, Nat.reduceLT, Nat.reduceSub, Nat.reduceBEq, h2, h3, h4, h5, h6, g2, g3, g4, g6, o2, o3, o4, o6, RSt.pa, RSt.row, decide_true, decide_false, pr38, hnx, RWt.row, b1]
    | false =>
    cases b2 : (e.obj != s.obj) with
    | true => simp only [↓evP, evB, stB, reduceIte, reduceCtorEq, Nat.reduceEqDiff, Nat.reduceAdd, Nat.reduceMul, Nat.reduceLeDiff, Nat.reduceLT, Nat.reduceSub, Nat.reduceBEq, h2, h3, h4, h5, h6, g2, g3, g4, g6, o2, o3, o4, o6, RSt.pa, RSt.row, decide_true, decide_false, pr38, hnx, RWt.row, b1, b2]
    | false =>
    cases b3 : (e.k != s.k) with
    | true => simp only [↓evP, evB, stB, reduceIte, reduceCtorEq, Nat.reduceEqDiff, Nat.reduceAdd, Nat.reduceMul, Nat.reduceLeDiff, Nat.reduceLT, Nat.reduceSub, Nat.reduceBEq, h2, h3, h4, h5, h6, g2, g3, g4, g6, o2, o3, o4, o6, RSt.pa, RSt.row, decide_true, decide_false, pr38, hnx, RWt.row, b1, b2, b3]
    | false =>
    cases b4 : (e.n != s.n) with
    | true => simp only [↓evP, evB, stB, reduceIte, reduceCtorEq, Nat.reduceEqDiff, Nat.reduceAdd, Nat.reduceMul, Nat.reduceLeDiff, Nat.reduceLT, Nat.reduceSub, Nat.reduceBEq, h2, h3, h4, h5, h6, g2, g3, g4, g6, o2, o3, o4, o6, RSt.pa, RSt.row, decide_true, decide_false, pr38, hnx, RWt.row, b1, b2, b3, b4]
    | false =>
    by_cases b5 : w.g ≥ 0
    · have b6 : ¬ w.g < 0 := by omega
      cases b7 : (e.g != w.g) with
      | true => simp only [↓evP, evB, stB, reduceIte, reduceCtorEq, Nat.reduceEqDiff, Nat.reduceAdd, Nat.reduceMul, Nat.reduceLeDiff, Nat.reduceLT, Nat.reduceSub, Nat.reduceBEq, h2, h3, h4, h5, h6, g2, g3, g4, g6, o2, o3, o4, o6, RSt.pa, RSt.row, decide_true, decide_false, pr38, hnx, RWt.row, b1, b2, b3, b4, b5, b6, b7]
      | false => simp [b1, b2, b3, b4, b6, b7] at hf
    · have b6 : w.g < 0 := by omega
      cases b7 : (e.g == w.not) with
      | true => simp only [↓evP, evB, stB, reduceIte, reduceCtorEq, Nat.reduceEqDiff, Nat.reduceAdd, Nat.reduceMul, Nat.reduceLeDiff, Nat.reduceLT, Nat.reduceSub, Nat.reduceBEq, h2, h3, h4, h5, h6, g2, g3, g4, g6, o2, o3, o4, o6, RSt.pa, RSt.row, decide_true, decide_false, pr38, hnx, RWt.row, b1, b2, b3, b4, b5, b6, b7]
      | false => simp [b1, b2, b3, b4, b5, b6, b7] at hf
  | true =>
    have hg : s.groupR e = (RSt.counted { s with next := rest.map (w.known e.g) } e, true) := by unfold RSt.groupR; rw [hnx]; dsimp only; rw [hf]; rfl
    rw [hg]
    unfold RSt.fits at hf
    simp only [Bool.not_eq_true', Bool.or_eq_false_iff] at hf
    obtain ⟨⟨b1, b2, b3, b4, b5⟩, b6⟩ := hf
    by_cases q : w.g ≥ 0
    · have q2 : ¬ w.g < 0 := by omega
      have b7 : (e.g != w.g) = false := by rw [decide_eq_true (show 0 ≤ w.g from q)] at b5; simpa using b5
      simp only [↓evP, evB, stB, reduceIte, reduceCtorEq, Nat.reduceEqDiff, Nat.reduceAdd, Nat.reduceMul, Nat.reduceLeDiff, Nat.reduceLT, Nat.reduceSub, Nat.reduceBEq, h2, h3, h4, h5, h6, g2, g3, g4, g6, o2, o3, o4, o6, decide_true, decide_false, b1, b2, b3, b4, q, q2, b7]
      exact group_tail hok hnx _ (fun st' h => ⟨.inr rfl, h⟩) _ (by simp only [stB, reduceIte, reduceCtorEq, Nat.reduceEqDiff, Nat.reduceAdd, Nat.reduceMul, Nat.reduceLeDiff, Nat.reduceLT, Nat.reduceSub, Nat.reduceBEq, h2]) (by simp only [stB, reduceIte, reduceCtorEq, Nat.reduceEqDiff, Nat.reduceAdd, Nat.reduceMul, Nat.reduceLeDiff, Nat.reduceLT, Nat.reduceSub, Nat.reduceBEq, h3]) (by simp only [stB, reduceIte, reduceCtorEq, Nat.reduceEqDiff, Nat.reduceAdd, Nat.reduceMul, Nat.reduceLeDiff, Nat.reduceLT, Nat.reduceSub, Nat.reduceBEq, h4]) (by simp only [stB, reduceIte, reduceCtorEq, Nat.reduceEqDiff, Nat.reduceAdd, Nat.reduceMul, Nat.reduceLeDiff, Nat.reduceLT, Nat.reduceSub, Nat.reduceBEq, h6]) (by simp only [stB, reduceIte, reduceCtorEq, Nat.reduceEqDiff, Nat.reduceAdd, Nat.reduceMul, Nat.reduceLeDiff, Nat.reduceLT, Nat.reduceSub, Nat.reduceBEq, g2]) (by simp only [stB, reduceIte, reduceCtorEq, Nat.reduceEqDiff, Nat.reduceAdd, Nat.reduceMul, Nat.reduceLeDiff, Nat.reduceLT, Nat.reduceSub, Nat.reduceBEq, g3]) (by simp only [stB, reduceIte, reduceCtorEq, Nat.reduceEqDiff, Nat.reduceAdd, Nat.reduceMul, Nat.reduceLeDiff, Nat.reduceLT, Nat.reduceSub, Nat.reduceBEq, g4]) (by simp only [stB, reduceIte, reduceCtorEq, Nat.reduceEqDiff, Nat.reduceAdd, Nat.reduceMul, Nat.reduceLeDiff, Nat.reduceLT, Nat.reduceSub, Nat.reduceBEq, g6]) (by simp only [stB, reduceIte, reduceCtorEq, Nat.reduceEqDiff, Nat.reduceAdd, Nat.reduceMul, Nat.reduceLeDiff, Nat.reduceLT, Nat.reduceSub, Nat.reduceBEq, g7])
        (by simp only [stB, reduceIte, reduceCtorEq, Nat.reduceEqDiff, Nat.reduceAdd, Nat.reduceMul, Nat.reduceLeDiff, Nat.reduceLT, Nat.reduceSub, Nat.reduceBEq, o2, RSt.row, hnx, RWt.row]) (by simp only [stB, reduceIte, reduceCtorEq, Nat.reduceEqDiff, Nat.reduceAdd, Nat.reduceMul, Nat.reduceLeDiff, Nat.reduceLT, Nat.reduceSub, Nat.reduceBEq, o3, Ev.row]) (by simp only [stB, reduceIte, reduceCtorEq, Nat.reduceEqDiff, Nat.reduceAdd, Nat.reduceMul, Nat.reduceLeDiff, Nat.reduceLT, Nat.reduceSub, Nat.reduceBEq, o4]) (by simp only [stB, reduceIte, reduceCtorEq, Nat.reduceEqDiff, Nat.reduceAdd, Nat.reduceMul, Nat.reduceLeDiff, Nat.reduceLT, Nat.reduceSub, Nat.reduceBEq, o6, RWt.row])
    · have q2 : w.g < 0 := by omega
      have b7 : (e.g == w.not) = false := by rw [decide_eq_true q2] at b6; simpa using b6
      simp only [↓evP, evB, stB, reduceIte, reduceCtorEq, Nat.reduceEqDiff, Nat.reduceAdd, Nat.reduceMul, Nat.reduceLeDiff, Nat.reduceLT, Nat.reduceSub, Nat.reduceBEq, h2, h3, h4, h5, h6, g2, g3, g4, g6, o2, o3, o4, o6, decide_true, decide_false, b1, b2, b3, b4, q, q2, b7]
      exact group_tail hok hnx _ (fun st' h => ⟨.inr rfl, h⟩) _ (by simp only [stB, reduceIte, reduceCtorEq, Nat.reduceEqDiff, Nat.reduceAdd, Nat.reduceMul, Nat.reduceLeDiff, Nat.reduceLT, Nat.reduceSub, Nat.reduceBEq, h2]) (by simp only [stB, reduceIte, reduceCtorEq, Nat.reduceEqDiff, Nat.reduceAdd, Nat.reduceMul, Nat.reduceLeDiff, Nat.reduceLT, Nat.reduceSub, Nat.reduceBEq, h3]) (by simp only [stB, reduceIte, reduceCtorEq, Nat.reduceEqDiff, Nat.reduceAdd, Nat.reduceMul, Nat.reduceLeDiff, Nat.reduceLT, Nat.reduceSub, Nat.reduceBEq, h4]) (by simp only [stB, reduceIte, reduceCtorEq, Nat.reduceEqDiff, Nat.reduceAdd, Nat.reduceMul, Nat.reduceLeDiff, Nat.reduceLT, Nat.reduceSub, Nat.reduceBEq, h6]) (by simp only [stB, reduceIte, reduceCtorEq, Nat.reduceEqDiff, Nat.reduceAdd, Nat.reduceMul, Nat.reduceLeDiff, Nat.reduceLT, Nat.reduceSub, Nat.reduceBEq, g2]) (by simp only [stB, reduceIte, reduceCtorEq, Nat.reduceEqDiff, Nat.reduceAdd, Nat.reduceMul, Nat.reduceLeDiff, Nat.reduceLT, Nat.reduceSub, Nat.reduceBEq, g3]) (by simp only [stB, reduceIte, reduceCtorEq, Nat.reduceEqDiff, Nat.reduceAdd, Nat.reduceMul, Nat.reduceLeDiff, Nat.reduceLT, Nat.reduceSub, Nat.reduceBEq, g4]) (by simp only [stB, reduceIte, reduceCtorEq, Nat.reduceEqDiff, Nat.reduceAdd, Nat.reduceMul, Nat.reduceLeDiff, Nat.reduceLT, Nat.reduceSub, Nat.reduceBEq, g6]) (by simp only [stB, reduceIte, reduceCtorEq, Nat.reduceEqDiff, Nat.reduceAdd, Nat.reduceMul, Nat.reduceLeDiff, Nat.reduceLT, Nat.reduceSub, Nat.reduceBEq, g7])
        (by simp only [stB, reduceIte, reduceCtorEq, Nat.reduceEqDiff, Nat.reduceAdd, Nat.reduceMul, Nat.reduceLeDiff, Nat.reduceLT, Nat.reduceSub, Nat.reduceBEq, o2, RSt.row, hnx, RWt.row]) (by simp only [stB, reduceIte, reduceCtorEq, Nat.reduceEqDiff, Nat.reduceAdd, Nat.reduceMul, Nat.reduceLeDiff, Nat.reduceLT, Nat.reduceSub, Nat.reduceBEq, o3, Ev.row]) (by simp only [stB, reduceIte, reduceCtorEq, Nat.reduceEqDiff, Nat.reduceAdd, Nat.reduceMul, Nat.reduceLeDiff, Nat.reduceLT, Nat.reduceSub, Nat.reduceBEq, o4]) (by simp only [stB, reduceIte, reduceCtorEq, Nat.reduceEqDiff, Nat.reduceAdd, Nat.reduceMul, Nat.reduceLeDiff, Nat.reduceLT, Nat.reduceSub, Nat.reduceBEq, o6, RWt.row])
end Go.Proofs.Ytkdagjlkejefnaa
end
section
set_option linter.unusedSimpArgs false
set_option linter.unusedVariables false
namespace Go.Proofs.Ytkdagjlkejefnaa
open Go Go.RowKit
set_option maxRecDepth 100000
set_option maxHeartbeats 4000000

theorem bne_of {a b : Int} (h : (a == b) = false) : ¬ a = b := beq_eq_false_iff_ne.1 h
theorem RSt.lock_bd {s : RSt} (h : s.ok) (obj off : Int) : 0 ≤ (s.lock obj off).readers ∧ (s.lock obj off).readers ≤ 1000000 := by
  unfold RSt.lock
  cases hf : s.locks.find? (fun c => c.obj == obj && c.off == off) with
  | none => simp
  | some c => exact h.lk.2 c (List.mem_of_find?_eq_some hf)
def R_other (ps rs : List Pa) : Prop := ∃ (s : RSt) (e : Ev), ps = [s.pa, e.pa] ∧ s.ok ∧ rs = [(s.otherR e).1.pa, pB (s.otherR e).2]
def env_other : Env := e1 61 R_lock (e1 62 R_setLock (e1 63 R_done e0))
theorem env_other_ok : EnvOK Try.prog env_other := EnvOK.e1 s_lock (EnvOK.e1 s_setLock (EnvOK.e1 s_done EnvOK.e0))
theorem s_other : Spec Try.prog 41 R_other := by
  refine sp41 env_other_ok ?_
  rintro ps rs ⟨s, e, rfl, hok, rfl⟩
  refine ⟨by simp, ?_⟩
  obtain ⟨c3, c4⟩ := RSt.lock_bd hok e.obj e.off
  unfold pc41
  refine pwp_start ?_
  simp only [↓evP, evB, stB, reduceIte, reduceCtorEq, Nat.reduceEqDiff, Nat.reduceAdd, Nat.reduceMul, Nat.reduceLeDiff, Nat.reduceLT, Nat.reduceSub, Nat.reduceBEq, RSt.pa, RSt.row, Ev.pa, Ev.row]
  refine callOps_intro [.agg (s.lock e.obj e.off).row] ⟨s, e.obj, e.off, rfl, by have := hok.lk.1; omega, rfl⟩ ?_
  cases k6 : (e.kind == 6) with
  | true =>
    have hg : s.otherR e = (s.setLock { s.lock e.obj e.off with locked := true }, !(s.lock e.obj e.off).locked && (s.lock e.obj e.off).readers == 0) := by unfold RSt.otherR; rw [if_pos (beq_iff_eq.1 k6)]
    rw [hg]
    simp only [↓evP, evB, stB, reduceIte, reduceCtorEq, Nat.reduceEqDiff, Nat.reduceAdd, Nat.reduceMul, Nat.reduceLeDiff, Nat.reduceLT, Nat.reduceSub, Nat.reduceBEq, RLk.row, pr41, k6]
    refine callD_intro [(s.setLock { s.lock e.obj e.off with locked := true }).pa] ⟨s, { s.lock e.obj e.off with locked := true }, rfl, hok.lk.1, rfl⟩ ?_
    cases b1 : (s.lock e.obj e.off).locked with
    | true => 
      simp only [↓evP, evB, stB, reduceIte, reduceCtorEq, Nat.reduceEqDiff, Nat.reduceAdd, Nat.reduceMul, Nat.reduceLeDiff, Nat.reduceLT, Nat.reduceSub, Nat.reduceBEq, RLk.row, pr41, k6, RSt.pa, RSt.row, b1]
      (unfold Drw; kernel_rfl)
    | false => 
      simp only [↓evP, evB, stB, reduceIte, reduceCtorEq, Nat.reduceEqDiff, Nat.reduceAdd, Nat.reduceMul, Nat.reduceLeDiff, Nat.reduceLT, Nat.reduceSub, Nat.reduceBEq, RLk.row, pr41, k6, RSt.pa, RSt.row, b1]
      (unfold Drw; kernel_rfl)
  | false =>
  cases k7 : (e.kind == 7) with
  | true =>
    have hg : s.otherR e = (s.setLock { s.lock e.obj e.off with locked := false }, (s.lock e.obj e.off).locked) := by unfold RSt.otherR; rw [if_neg (bne_of k6), if_pos (beq_iff_eq.1 k7)]
    rw [hg]
    simp only [↓evP, evB, stB, reduceIte, reduceCtorEq, Nat.reduceEqDiff, Nat.reduceAdd, Nat.reduceMul, Nat.reduceLeDiff, Nat.reduceLT, Nat.reduceSub, Nat.reduceBEq, RLk.row, pr41, k6, k7]
    refine callOps_intro [(s.setLock { s.lock e.obj e.off with locked := false }).pa] ⟨s, { s.lock e.obj e.off with locked := false }, rfl, hok.lk.1, rfl⟩ ?_
    simp only [↓evP, evB, stB, reduceIte, reduceCtorEq, Nat.reduceEqDiff, Nat.reduceAdd, Nat.reduceMul, Nat.reduceLeDiff, Nat.reduceLT, Nat.reduceSub, Nat.reduceBEq, RLk.row, pr41, k6, k7, RSt.pa, RSt.row, Bool.not_not]
  | false =>
  cases k8 : (e.kind == 8) with
  | true =>
    have hg : s.otherR e = (s.setLock { s.lock e.obj e.off with readers := (s.lock e.obj e.off).readers + 1 }, !(s.lock e.obj e.off).locked) := by unfold RSt.otherR; rw [if_neg (bne_of k6), if_neg (bne_of k7), if_pos (beq_iff_eq.1 k8)]
    rw [hg]
    simp only [↓evP, evB, stB, reduceIte, reduceCtorEq, Nat.reduceEqDiff, Nat.reduceAdd, Nat.reduceMul, Nat.reduceLeDiff, Nat.reduceLT, Nat.reduceSub, Nat.reduceBEq, RLk.row, pr41, k6, k7, k8]
    rw [wr64 (by omega) (by omega)]
    refine callOps_intro [(s.setLock { s.lock e.obj e.off with readers := (s.lock e.obj e.off).readers + 1 }).pa] ⟨s, { s.lock e.obj e.off with readers := (s.lock e.obj e.off).readers + 1 }, rfl, hok.lk.1, rfl⟩ ?_
    simp only [↓evP, evB, stB, reduceIte, reduceCtorEq, Nat.reduceEqDiff, Nat.reduceAdd, Nat.reduceMul, Nat.reduceLeDiff, Nat.reduceLT, Nat.reduceSub, Nat.reduceBEq, RLk.row, pr41, k6, k7, k8, RSt.pa, RSt.row]
  | false =>
  cases k9 : (e.kind == 9) with
  | true =>
    have hg : s.otherR e = (s.setLock { s.lock e.obj e.off with readers := (s.lock e.obj e.off).readers - 1 }, decide (0 ≤ (s.lock e.obj e.off).readers - 1)) := by unfold RSt.otherR; rw [if_neg (bne_of k6), if_neg (bne_of k7), if_neg (bne_of k8), if_pos (beq_iff_eq.1 k9)]
    rw [hg]
    simp only [↓evP, evB, stB, reduceIte, reduceCtorEq, Nat.reduceEqDiff, Nat.reduceAdd, Nat.reduceMul, Nat.reduceLeDiff, Nat.reduceLT, Nat.reduceSub, Nat.reduceBEq, RLk.row, pr41, k6, k7, k8, k9]
    rw [wr64 (by omega) (by omega)]
    refine callD_intro [(s.setLock { s.lock e.obj e.off with readers := (s.lock e.obj e.off).readers - 1 }).pa] ⟨s, { s.lock e.obj e.off with readers := (s.lock e.obj e.off).readers - 1 }, rfl, hok.lk.1, rfl⟩ ?_
    simp only [↓evP, evB, stB, reduceIte, reduceCtorEq, Nat.reduceEqDiff, Nat.reduceAdd, Nat.reduceMul, Nat.reduceLeDiff, Nat.reduceLT, Nat.reduceSub, Nat.reduceBEq, RLk.row, pr41, k6, k7, k8, k9, RSt.pa, RSt.row]
    (unfold Drw; kernel_rfl)
  | false =>
  cases k12 : (e.kind == 12) with
  | true =>
    have hg : s.otherR e = ({ s with done := s.done ++ [(e.obj, e.off)] }, !s.isDone e.obj e.off) := by unfold RSt.otherR; rw [if_neg (bne_of k6), if_neg (bne_of k7), if_neg (bne_of k8), if_neg (bne_of k9), if_pos (beq_iff_eq.1 k12)]
    rw [hg]
    simp only [↓evP, evB, stB, reduceIte, reduceCtorEq, Nat.reduceEqDiff, Nat.reduceAdd, Nat.reduceMul, Nat.reduceLeDiff, Nat.reduceLT, Nat.reduceSub, Nat.reduceBEq, RLk.row, pr41, k6, k7, k8, k9, k12]
    refine callOps_intro [pB (s.isDone e.obj e.off)] ⟨s, e.obj, e.off, rfl, by have := hok.dn; omega, rfl⟩ ?_
    have hd1 : s.done.length ≤ 1000000 := by have := hok.dn; omega
    have hd2 : s.done.length + 1 ≤ 1000000 := by have := hok.dn; omega
    simp only [↓evP, evB, stB, reduceIte, reduceCtorEq, Nat.reduceEqDiff, Nat.reduceAdd, Nat.reduceMul, Nat.reduceLeDiff, Nat.reduceLT, Nat.reduceSub, Nat.reduceBEq, RLk.row, pr41, k6, k7, k8, k9, k12, RSt.pa, RSt.row, rows_len (f := locRow) (n := 2) (fun _ => rfl) s.done, hd1, hd2]
    refine ⟨(by unfold Drw; kernel_rfl), ?_⟩
    simp only [↓evP, evB, stB, reduceIte, reduceCtorEq, Nat.reduceEqDiff, Nat.reduceAdd, Nat.reduceMul, Nat.reduceLeDiff, Nat.reduceLT, Nat.reduceSub, Nat.reduceBEq, List.map_append, locRow, pr41]
  | false =>
  cases k13 : (e.kind == 13) with
  | true =>
    have hg : s.otherR e = (s, s.isDone e.obj e.off) := by unfold RSt.otherR; rw [if_neg (bne_of k6), if_neg (bne_of k7), if_neg (bne_of k8), if_neg (bne_of k9), if_neg (bne_of k12), if_pos (beq_iff_eq.1 k13)]
    rw [hg]
    simp only [↓evP, evB, stB, reduceIte, reduceCtorEq, Nat.reduceEqDiff, Nat.reduceAdd, Nat.reduceMul, Nat.reduceLeDiff, Nat.reduceLT, Nat.reduceSub, Nat.reduceBEq, RLk.row, pr41, k6, k7, k8, k9, k12, k13]
    refine callD_intro [pB (s.isDone e.obj e.off)] ⟨s, e.obj, e.off, rfl, by have := hok.dn; omega, rfl⟩ ?_
    simp only [↓evP, evB, stB, reduceIte, reduceCtorEq, Nat.reduceEqDiff, Nat.reduceAdd, Nat.reduceMul, Nat.reduceLeDiff, Nat.reduceLT, Nat.reduceSub, Nat.reduceBEq, RLk.row, pr41, k6, k7, k8, k9, k12, k13, RSt.pa, RSt.row]
    (unfold Drw; kernel_rfl)
  | false =>
  cases k14 : (e.kind == 14) with
  | true =>
    have hg : s.otherR e = ({ s with gor := s.gor + 1 }, e.k == s.gor) := by unfold RSt.otherR; rw [if_neg (bne_of k6), if_neg (bne_of k7), if_neg (bne_of k8), if_neg (bne_of k9), if_neg (bne_of k12), if_neg (bne_of k13), if_pos (beq_iff_eq.1 k14)]
    rw [hg]
    simp only [↓evP, evB, stB, reduceIte, reduceCtorEq, Nat.reduceEqDiff, Nat.reduceAdd, Nat.reduceMul, Nat.reduceLeDiff, Nat.reduceLT, Nat.reduceSub, Nat.reduceBEq, RLk.row, pr41, k6, k7, k8, k9, k12, k13, k14]
    rw [wr64 (by have := hok.gr; omega) (by have := hok.gr; omega)]
    simp only [RSt.pa, RSt.row]
    exact ⟨(by unfold Drw; kernel_rfl), trivial⟩
  | false =>
    have hg : s.otherR e = (s, true) := by unfold RSt.otherR; rw [if_neg (bne_of k6), if_neg (bne_of k7), if_neg (bne_of k8), if_neg (bne_of k9), if_neg (bne_of k12), if_neg (bne_of k13), if_neg (bne_of k14)]
    rw [hg]
    simp only [↓evP, evB, stB, reduceIte, reduceCtorEq, Nat.reduceEqDiff, Nat.reduceAdd, Nat.reduceMul, Nat.reduceLeDiff, Nat.reduceLT, Nat.reduceSub, Nat.reduceBEq, RLk.row, pr41, k6, k7, k8, k9, k12, k13, k14, RSt.pa, RSt.row]
end Go.Proofs.Ytkdagjlkejefnaa
end
