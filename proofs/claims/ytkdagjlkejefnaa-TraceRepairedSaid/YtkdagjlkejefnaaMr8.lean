/- The reference of chapter 30: add, Repair; the law on it. -/
import Derived.Test.YtkdagjlkejefnaaMr7
import Derived.OpenShut
section
set_option linter.unusedSimpArgs false
set_option linter.unusedVariables false
namespace Go.Proofs.Ytkdagjlkejefnaa
open Go Go.RowKit
set_option maxRecDepth 100000
set_option maxHeartbeats 4000000

theorem within_in {ms os ms' os' : List Nat} {s0 b j : St} (h : Within ms os s0 b) (hm : ms'.all (fun x => ms.contains x) = true) (ho : os'.all (fun x => os.contains x) = true) : Within ms os s0 (over ms' os' b j) := by
  have h1 : ∀ x, ms.contains x = false → ms'.contains x = false := fun x hx => by
    cases hc : ms'.contains x with
    | false => rfl
    | true => rw [List.all_eq_true] at hm; rw [hm x (by simpa using hc)] at hx; cases hx
  have h2 : ∀ x, os.contains x = false → os'.contains x = false := fun x hx => by
    cases hc : os'.contains x with
    | false => rfl
    | true => rw [List.all_eq_true] at ho; rw [ho x (by simpa using hc)] at hx; cases hx
  refine ⟨fun x hx => ?_, fun o hx => ⟨?_, ?_⟩⟩
  · rw [over_sl, h1 x hx]; exact h.1 x hx
  · rw [over_gen, h2 o hx]; exact (h.2 o hx).1
  · rw [over_ob, h2 o hx]; exact (h.2 o hx).2
theorem wrL {k : Nat} (h : k ≤ 9223372036854775806) : IntKind.i64.wrap ((k : Int) + 1) = ((k + 1 : Nat) : Int) := by
  rw [wr64 (by omega) (by omega)]; omega
def R_adds (ps rs : List Pa) : Prop := ∃ (s : RSt) (c : List Ev), ps = [s.pa, evsPa c] ∧ ((∃ out, Mid s out) ∧ c.length ≤ 1000000) ∧ rs = [(s.adds c).1.pa, pB (s.adds c).2]
def env_adds : Env := e1 20 R_Add e0
theorem s_adds : Spec Try.prog 36 R_adds := by
  refine sp36 (show EnvOK Try.prog env_adds from EnvOK.e1 s_Add EnvOK.e0) ?_
  rintro ps rs ⟨s, c, rfl, ⟨⟨out, hm⟩, hlen⟩, rfl⟩
  refine ⟨by simp, ?_⟩
  unfold pc36
  refine pwp_start ?_
  simp only [↓evP, evB, stB, reduceIte, reduceCtorEq, Nat.reduceEqDiff, Nat.reduceAdd, Nat.reduceMul, Nat.reduceLeDiff, Nat.reduceLT, Nat.reduceSub, Nat.reduceBEq, evsPa, evsD, RSt.pa, RSt.row]
  refine pwp_loopW ms36_0 os36_0 (fun m st => ∃ k : Nat, ∃ r out', m = c.length - k ∧ k ≤ c.length ∧ Mid r out' ∧ s.adds c = r.adds (c.drop k) ∧ st.sl 6 = aI k ∧ st.gen 2 = 1 ∧ st.ob 2 = .cells (r.row.map .d) ∧ st.gen 4 = 1 ∧ st.ob 4 = .cells [.d (dI 0), .d (dI 0), .d (.sc (.slice none 0 0)), .d (.sc (.slice none 0 0)), .d (.sc (.slice none 0 0)), .d (.sc (.slice none 0 0)), .d (dI 0), .d (dI 0), .d (dI 0)]) c.length ?_ ?_
  · exact ⟨0, s, out, rfl, Nat.zero_le _, hm, rfl, by simp only [stB, reduceIte, reduceCtorEq, Nat.reduceEqDiff, Nat.reduceAdd, Nat.reduceMul, Nat.reduceLeDiff, Nat.reduceLT, Nat.reduceSub, Nat.reduceBEq]; rfl, by simp only [stB, reduceIte, reduceCtorEq, Nat.reduceEqDiff, Nat.reduceAdd, Nat.reduceMul, Nat.reduceLeDiff, Nat.reduceLT, Nat.reduceSub, Nat.reduceBEq], by simp only [stB, reduceIte, reduceCtorEq, Nat.reduceEqDiff, Nat.reduceAdd, Nat.reduceMul, Nat.reduceLeDiff, Nat.reduceLT, Nat.reduceSub, Nat.reduceBEq, RSt.row], by simp only [stB, reduceIte, reduceCtorEq, Nat.reduceEqDiff, Nat.reduceAdd, Nat.reduceMul, Nat.reduceLeDiff, Nat.reduceLT, Nat.reduceSub, Nat.reduceBEq], by simp only [stB, reduceIte, reduceCtorEq, Nat.reduceEqDiff, Nat.reduceAdd, Nat.reduceMul, Nat.reduceLeDiff, Nat.reduceLT, Nat.reduceSub, Nat.reduceBEq]⟩
  · rintro m j ⟨k, r, out', rfl, hk, hmr, hse, h6, g2, o2, g4, o4⟩
    simp only [stB, reduceIte, reduceCtorEq, Nat.reduceEqDiff, Nat.reduceAdd, Nat.reduceMul, Nat.reduceLeDiff, Nat.reduceLT, Nat.reduceSub, Nat.reduceBEq, RSt.row] at h6 g2 o2 g4 o4
    rcases Nat.lt_or_ge k c.length with hlt | hge
    · obtain ⟨e, he⟩ : ∃ e, c[k]? = some e := ⟨_, List.getElem?_eq_getElem hlt⟩
      have hd : c.drop k = e :: c.drop (k + 1) := by rw [List.drop_eq_getElem_cons hlt]; congr 1; rw [List.getElem?_eq_getElem hlt] at he; exact Option.some.inj he
      have hlt' : (k : Int) < (c.length : Int) := by omega
      simp only [↓evP, evB, stB, reduceIte, reduceCtorEq, Nat.reduceEqDiff, Nat.reduceAdd, Nat.reduceMul, Nat.reduceLeDiff, Nat.reduceLT, Nat.reduceSub, Nat.reduceBEq, h6, g2, o2, g4, o4, he, hlt', Ev.row]
      refine callD_intro [(r.addR e).1.pa, pB (r.addR e).2] ⟨r, e, rfl, hmr.ok, rfl⟩ ?_
      cases hb : (r.addR e).2 with
      | true =>
        simp only [↓evP, evB, stB, reduceIte, reduceCtorEq, Nat.reduceEqDiff, Nat.reduceAdd, Nat.reduceMul, Nat.reduceLeDiff, Nat.reduceLT, Nat.reduceSub, Nat.reduceBEq, h6, g2, o2, g4, o4, RSt.pa, RSt.row]
        refine ⟨(by unfold Drw; kernel_rfl), ?_⟩
        exact ⟨_, by omega, (by repeat' (first | assumption | exact within_over.mpr trivial | exact Within.refl _ _ _ | (refine within_ap ?_ rfl rfl) | (refine within_ap0 ?_ rfl))), k + 1, (r.addR e).1, out' ++ [e], rfl, hlt, hmr.step hb, by rw [hse, hd, RSt.adds, if_pos hb], by simp only [stB, reduceIte, reduceCtorEq, Nat.reduceEqDiff, Nat.reduceAdd, Nat.reduceMul, Nat.reduceLeDiff, Nat.reduceLT, Nat.reduceSub, Nat.reduceBEq, h6]; rw [wrN (by omega)], by simp only [stB, reduceIte, reduceCtorEq, Nat.reduceEqDiff, Nat.reduceAdd, Nat.reduceMul, Nat.reduceLeDiff, Nat.reduceLT, Nat.reduceSub, Nat.reduceBEq, g2], by simp only [stB, reduceIte, reduceCtorEq, Nat.reduceEqDiff, Nat.reduceAdd, Nat.reduceMul, Nat.reduceLeDiff, Nat.reduceLT, Nat.reduceSub, Nat.reduceBEq, o2, RSt.row], by simp only [stB, reduceIte, reduceCtorEq, Nat.reduceEqDiff, Nat.reduceAdd, Nat.reduceMul, Nat.reduceLeDiff, Nat.reduceLT, Nat.reduceSub, Nat.reduceBEq, g4], by simp only [stB, reduceIte, reduceCtorEq, Nat.reduceEqDiff, Nat.reduceAdd, Nat.reduceMul, Nat.reduceLeDiff, Nat.reduceLT, Nat.reduceSub, Nat.reduceBEq, o4]⟩
      | false =>
        simp only [↓evP, evB, stB, reduceIte, reduceCtorEq, Nat.reduceEqDiff, Nat.reduceAdd, Nat.reduceMul, Nat.reduceLeDiff, Nat.reduceLT, Nat.reduceSub, Nat.reduceBEq, h6, g2, o2, g4, o4, RSt.pa, RSt.row, pr36]
        refine ⟨(by unfold Drw; kernel_rfl), ?_⟩
        rw [hse, hd, RSt.adds, if_neg (by rw [hb]; decide)]
    · have hkl : k = c.length := by omega
      subst hkl
      rw [List.drop_length] at hse
      have hlt' : ¬ (c.length : Int) < (c.length : Int) := by omega
      simp only [↓evP, evB, stB, reduceIte, reduceCtorEq, Nat.reduceEqDiff, Nat.reduceAdd, Nat.reduceMul, Nat.reduceLeDiff, Nat.reduceLT, Nat.reduceSub, Nat.reduceBEq, h6, g2, o2, g4, o4, hlt', pr36]
      refine ⟨(by unfold Drw; kernel_rfl), ?_⟩
      rw [hse]; rfl

def R_repair (ps rs : List Pa) : Prop := ∃ raw : List Ev, ps = [evsPa raw] ∧ raw.length ≤ 9223372036854775807 ∧ rs = [evsPa (repairL raw)]
def env_repair : Env := e1 19 R_rnew (e1 35 R_mod (e1 34 R_try (e1 36 R_adds e0)))
theorem env_repair_ok : EnvOK Try.prog env_repair := EnvOK.e1 s_rnew (EnvOK.e1 s_mod (EnvOK.e1 s_try (EnvOK.e1 s_adds EnvOK.e0)))
theorem s_repair : Spec Try.prog 16 R_repair := by
  refine sp16 env_repair_ok ?_
  rintro ps rs ⟨raw, rfl, hlen, rfl⟩
  refine ⟨by simp, ?_⟩
  unfold pc16
  refine pwp_start ?_
  simp only [↓evP, evB, stB, reduceIte, reduceCtorEq, Nat.reduceEqDiff, Nat.reduceAdd, Nat.reduceMul, Nat.reduceLeDiff, Nat.reduceLT, Nat.reduceSub, Nat.reduceBEq, evsPa, evsD]
  refine callOps_intro [RSt.new.pa] ⟨rfl, rfl⟩ ?_
  simp only [↓evP, evB, stB, reduceIte, reduceCtorEq, Nat.reduceEqDiff, Nat.reduceAdd, Nat.reduceMul, Nat.reduceLeDiff, Nat.reduceLT, Nat.reduceSub, Nat.reduceBEq, RSt.pa, RSt.row]
  refine pwp_loopW ms16_0 os16_0 (fun m st => ∃ k : Nat, ∃ s out, m = raw.length - k ∧ k ≤ raw.length ∧ Whl s out ∧ out.length ≤ 80 ∧ repairL raw = s.rep out (raw.drop k) ∧ st.sl 5 = aI k ∧ st.gen 3 = 1 ∧ st.ob 3 = .cells (s.row.map .d) ∧ st.gen 4 = 1 ∧ st.sl 4 = .b (.one (.own 4 1 (out.map Ev.row))) ∧ st.ob 4 = .row 31 9 out.length) raw.length ?_ ?_
  · exact ⟨0, RSt.new, [], rfl, Nat.zero_le _, Whl.new, by decide, rfl, by simp only [stB, reduceIte, reduceCtorEq, Nat.reduceEqDiff, Nat.reduceAdd, Nat.reduceMul, Nat.reduceLeDiff, Nat.reduceLT, Nat.reduceSub, Nat.reduceBEq]; rfl, by simp only [stB, reduceIte, reduceCtorEq, Nat.reduceEqDiff, Nat.reduceAdd, Nat.reduceMul, Nat.reduceLeDiff, Nat.reduceLT, Nat.reduceSub, Nat.reduceBEq], by simp only [stB, reduceIte, reduceCtorEq, Nat.reduceEqDiff, Nat.reduceAdd, Nat.reduceMul, Nat.reduceLeDiff, Nat.reduceLT, Nat.reduceSub, Nat.reduceBEq, RSt.row], by simp only [stB, reduceIte, reduceCtorEq, Nat.reduceEqDiff, Nat.reduceAdd, Nat.reduceMul, Nat.reduceLeDiff, Nat.reduceLT, Nat.reduceSub, Nat.reduceBEq], by simp only [stB, reduceIte, reduceCtorEq, Nat.reduceEqDiff, Nat.reduceAdd, Nat.reduceMul, Nat.reduceLeDiff, Nat.reduceLT, Nat.reduceSub, Nat.reduceBEq], by simp only [stB, reduceIte, reduceCtorEq, Nat.reduceEqDiff, Nat.reduceAdd, Nat.reduceMul, Nat.reduceLeDiff, Nat.reduceLT, Nat.reduceSub, Nat.reduceBEq]⟩
  · rintro m j ⟨k, s, out, rfl, hk, hwl, hol, hrep, h5, g3, o3, g4, h4, o4⟩
    simp only [stB, reduceIte, reduceCtorEq, Nat.reduceEqDiff, Nat.reduceAdd, Nat.reduceMul, Nat.reduceLeDiff, Nat.reduceLT, Nat.reduceSub, Nat.reduceBEq, RSt.row] at h5 g3 o3 g4 h4 o4
    rcases Nat.lt_or_ge k raw.length with hlt | hge
    · obtain ⟨e, he⟩ : ∃ e, raw[k]? = some e := ⟨_, List.getElem?_eq_getElem hlt⟩
      have hd : raw.drop k = e :: raw.drop (k + 1) := by rw [List.drop_eq_getElem_cons hlt]; congr 1; rw [List.getElem?_eq_getElem hlt] at he; exact Option.some.inj he
      have hlt' : (k : Int) < (raw.length : Int) := by omega
      by_cases ho : out.length < 76
      · have ho' : (out.length : Int) < 76 := by omega
        have hgor := hwl.gor
        have hgb := gmod_bd e.g (n := s.gor) (by omega)
        simp only [↓evP, evB, stB, reduceIte, reduceCtorEq, Nat.reduceEqDiff, Nat.reduceAdd, Nat.reduceMul, Nat.reduceLeDiff, Nat.reduceLT, Nat.reduceSub, Nat.reduceBEq, h5, g3, o3, g4, h4, o4, he, hlt', ho', decide_true, decide_false, Ev.row]
        refine callD_intro [pI (gmod e.g s.gor)] ⟨_, _, rfl, ⟨by omega, by omega⟩, rfl⟩ ?_
        simp only [↓evP, evB, stB, reduceIte, reduceCtorEq, Nat.reduceEqDiff, Nat.reduceAdd, Nat.reduceMul, Nat.reduceLeDiff, Nat.reduceLT, Nat.reduceSub, Nat.reduceBEq, h5, g3, o3, g4, h4, o4, he]
        refine callD_intro [candsPa (s.cands e (gmod e.g s.gor))] ⟨s, e, _, rfl, ⟨by have := hwl.ok.ch.1; omega, by omega, by omega, by omega, by omega⟩, rfl⟩ ?_
        have hcl := s.cands_le e (gmod e.g s.gor)
        have hstep : s.rep out (raw.drop k) = (s.take1 out (s.cands e (gmod e.g s.gor))).1.rep (s.take1 out (s.cands e (gmod e.g s.gor))).2 (raw.drop (k + 1)) := by rw [hd, RSt.rep, if_pos ho]
        have hwt := hwl.take1 (s.cands e (gmod e.g s.gor)) hcl.2
        generalize hL : s.cands e (gmod e.g s.gor) = L at *
        simp only [↓evP, evB, stB, reduceIte, reduceCtorEq, Nat.reduceEqDiff, Nat.reduceAdd, Nat.reduceMul, Nat.reduceLeDiff, Nat.reduceLT, Nat.reduceSub, Nat.reduceBEq, h5, g3, o3, g4, h4, o4, candsPa]
        refine ⟨(by unfold Drw; kernel_rfl), ?_⟩
        refine pwp_loopW ms16_1 os16_1 (fun m st => ∃ q : Nat, m = L.length - q ∧ q ≤ L.length ∧ s.take1 out L = s.take1 out (L.drop q) ∧ st.sl 7 = aI q ∧ st.gen 3 = 1 ∧ st.ob 3 = .cells (s.row.map .d) ∧ st.gen 4 = 1 ∧ st.sl 4 = .b (.one (.own 4 1 (out.map Ev.row))) ∧ st.ob 4 = .row 31 9 out.length) L.length ?_ ?_
        · exact ⟨0, rfl, Nat.zero_le _, rfl, by simp only [stB, reduceIte, reduceCtorEq, Nat.reduceEqDiff, Nat.reduceAdd, Nat.reduceMul, Nat.reduceLeDiff, Nat.reduceLT, Nat.reduceSub, Nat.reduceBEq]; rfl, by simp only [stB, reduceIte, reduceCtorEq, Nat.reduceEqDiff, Nat.reduceAdd, Nat.reduceMul, Nat.reduceLeDiff, Nat.reduceLT, Nat.reduceSub, Nat.reduceBEq, g3], by simp only [stB, reduceIte, reduceCtorEq, Nat.reduceEqDiff, Nat.reduceAdd, Nat.reduceMul, Nat.reduceLeDiff, Nat.reduceLT, Nat.reduceSub, Nat.reduceBEq, o3, RSt.row], by simp only [stB, reduceIte, reduceCtorEq, Nat.reduceEqDiff, Nat.reduceAdd, Nat.reduceMul, Nat.reduceLeDiff, Nat.reduceLT, Nat.reduceSub, Nat.reduceBEq, g4], by simp only [stB, reduceIte, reduceCtorEq, Nat.reduceEqDiff, Nat.reduceAdd, Nat.reduceMul, Nat.reduceLeDiff, Nat.reduceLT, Nat.reduceSub, Nat.reduceBEq, h4], by simp only [stB, reduceIte, reduceCtorEq, Nat.reduceEqDiff, Nat.reduceAdd, Nat.reduceMul, Nat.reduceLeDiff, Nat.reduceLT, Nat.reduceSub, Nat.reduceBEq, o4]⟩
        · rintro m2 j2 ⟨q, rfl, hq, hte, h7, g3', o3', g4', h4', o4'⟩
          simp only [stB, reduceIte, reduceCtorEq, Nat.reduceEqDiff, Nat.reduceAdd, Nat.reduceMul, Nat.reduceLeDiff, Nat.reduceLT, Nat.reduceSub, Nat.reduceBEq, RSt.row] at h7 g3' o3' g4' h4' o4'
          rcases Nat.lt_or_ge q L.length with hqlt | hqge
          · obtain ⟨c, hc⟩ : ∃ c, L[q]? = some c := ⟨_, List.getElem?_eq_getElem hqlt⟩
            have hqd : L.drop q = c :: L.drop (q + 1) := by rw [List.drop_eq_getElem_cons hqlt]; congr 1; rw [List.getElem?_eq_getElem hqlt] at hc; exact Option.some.inj hc
            have hcl4 := hcl.2 c (List.mem_of_getElem? hc)
            have hqlt' : (q : Int) < (L.length : Int) := by omega
            simp only [↓evP, evB, stB, reduceIte, reduceCtorEq, Nat.reduceEqDiff, Nat.reduceAdd, Nat.reduceMul, Nat.reduceLeDiff, Nat.reduceLT, Nat.reduceSub, Nat.reduceBEq, h5, h7, g3', o3', g4', h4', o4', hc, hqlt', evsD]
            refine callD_intro [(s.adds c).1.pa, pB (s.adds c).2] ⟨s, c, rfl, ⟨⟨out, ⟨hwl.st⟩⟩, by omega⟩, rfl⟩ ?_
            cases hb : (s.adds c).2 with
            | true =>
              have hL1 : (out.map Ev.row).length + (c.map Ev.row).length ≤ 1000000 := by rw [List.length_map, List.length_map]; omega
              have hL2 : out.length + c.length ≤ 1000000 := by omega
              simp only [↓evP, evB, stB, reduceIte, reduceCtorEq, Nat.reduceEqDiff, Nat.reduceAdd, Nat.reduceMul, Nat.reduceLeDiff, Nat.reduceLT, Nat.reduceSub, Nat.reduceBEq, h5, h7, g3', o3', g4', h4', o4', hc, RSt.pa, RSt.row, rows_len (f := Ev.row) (n := 9) (fun _ => rfl) c, hL1, hL2]
              have ht1 : s.take1 out L = ((s.adds c).1, out ++ c) := by rw [hte, hqd, RSt.take1, if_pos hb]
              rw [ht1] at hwt hstep
              refine ⟨(by unfold Drw; kernel_rfl), ?_⟩
              exact ⟨_, by omega, (by repeat' (first | assumption | exact within_over.mpr trivial | (refine within_ap ?_ rfl rfl) | (refine within_ap0 ?_ rfl) | refine within_in ?_ (by decide) (by decide))), k + 1, (s.adds c).1, out ++ c, rfl, hlt, hwt.1, by rw [List.length_append]; omega, by rw [hrep, hstep], by simp only [stB, reduceIte, reduceCtorEq, Nat.reduceEqDiff, Nat.reduceAdd, Nat.reduceMul, Nat.reduceLeDiff, Nat.reduceLT, Nat.reduceSub, Nat.reduceBEq, h5]; rw [wrL (by omega)], by simp only [stB, reduceIte, reduceCtorEq, Nat.reduceEqDiff, Nat.reduceAdd, Nat.reduceMul, Nat.reduceLeDiff, Nat.reduceLT, Nat.reduceSub, Nat.reduceBEq, g3'], by simp only [stB, reduceIte, reduceCtorEq, Nat.reduceEqDiff, Nat.reduceAdd, Nat.reduceMul, Nat.reduceLeDiff, Nat.reduceLT, Nat.reduceSub, Nat.reduceBEq, o3', RSt.row], by simp only [stB, reduceIte, reduceCtorEq, Nat.reduceEqDiff, Nat.reduceAdd, Nat.reduceMul, Nat.reduceLeDiff, Nat.reduceLT, Nat.reduceSub, Nat.reduceBEq, g4'], by simp only [stB, reduceIte, reduceCtorEq, Nat.reduceEqDiff, Nat.reduceAdd, Nat.reduceMul, Nat.reduceLeDiff, Nat.reduceLT, Nat.reduceSub, Nat.reduceBEq, h4', List.map_append], by simp only [stB, reduceIte, reduceCtorEq, Nat.reduceEqDiff, Nat.reduceAdd, Nat.reduceMul, Nat.reduceLeDiff, Nat.reduceLT, Nat.reduceSub, Nat.reduceBEq, o4', List.length_append, List.length_map]⟩
            | false =>
              simp only [↓evP, evB, stB, reduceIte, reduceCtorEq, Nat.reduceEqDiff, Nat.reduceAdd, Nat.reduceMul, Nat.reduceLeDiff, Nat.reduceLT, Nat.reduceSub, Nat.reduceBEq, h5, h7, g3', o3', g4', h4', o4', RSt.pa, RSt.row]
              refine ⟨(by unfold Drw; kernel_rfl), ?_⟩
              exact ⟨_, by omega, (by repeat' (first | assumption | exact within_over.mpr trivial | exact Within.refl _ _ _ | (refine within_ap ?_ rfl rfl) | (refine within_ap0 ?_ rfl))), q + 1, rfl, hqlt, by rw [hte, hqd, RSt.take1, if_neg (by rw [hb]; decide)], by simp only [stB, reduceIte, reduceCtorEq, Nat.reduceEqDiff, Nat.reduceAdd, Nat.reduceMul, Nat.reduceLeDiff, Nat.reduceLT, Nat.reduceSub, Nat.reduceBEq, h7]; rw [wrN (by omega)], by simp only [stB, reduceIte, reduceCtorEq, Nat.reduceEqDiff, Nat.reduceAdd, Nat.reduceMul, Nat.reduceLeDiff, Nat.reduceLT, Nat.reduceSub, Nat.reduceBEq, g3'], by simp only [stB, reduceIte, reduceCtorEq, Nat.reduceEqDiff, Nat.reduceAdd, Nat.reduceMul, Nat.reduceLeDiff, Nat.reduceLT, Nat.reduceSub, Nat.reduceBEq, o3', RSt.row], by simp only [stB, reduceIte, reduceCtorEq, Nat.reduceEqDiff, Nat.reduceAdd, Nat.reduceMul, Nat.reduceLeDiff, Nat.reduceLT, Nat.reduceSub, Nat.reduceBEq, g4'], by simp only [stB, reduceIte, reduceCtorEq, Nat.reduceEqDiff, Nat.reduceAdd, Nat.reduceMul, Nat.reduceLeDiff, Nat.reduceLT, Nat.reduceSub, Nat.reduceBEq, h4'], by simp only [stB, reduceIte, reduceCtorEq, Nat.reduceEqDiff, Nat.reduceAdd, Nat.reduceMul, Nat.reduceLeDiff, Nat.reduceLT, Nat.reduceSub, Nat.reduceBEq, o4']⟩
          · have hql : q = L.length := by omega
            subst hql
            have hqlt' : ¬ (L.length : Int) < (L.length : Int) := by omega
            rw [List.drop_length] at hte
            simp only [↓evP, evB, stB, reduceIte, reduceCtorEq, Nat.reduceEqDiff, Nat.reduceAdd, Nat.reduceMul, Nat.reduceLeDiff, Nat.reduceLT, Nat.reduceSub, Nat.reduceBEq, h5, h7, g3', o3', g4', h4', o4', hqlt']
            have ht1 : s.take1 out L = (s, out) := by rw [hte]; rfl
            rw [ht1] at hwt hstep
            exact ⟨_, by omega, (by repeat' (first | assumption | exact within_over.mpr trivial | (refine within_ap ?_ rfl rfl) | (refine within_ap0 ?_ rfl) | refine within_in ?_ (by decide) (by decide))), k + 1, s, out, rfl, hlt, hwl, hol, by rw [hrep, hstep], by simp only [stB, reduceIte, reduceCtorEq, Nat.reduceEqDiff, Nat.reduceAdd, Nat.reduceMul, Nat.reduceLeDiff, Nat.reduceLT, Nat.reduceSub, Nat.reduceBEq, h5]; rw [wrL (by omega)], by simp only [stB, reduceIte, reduceCtorEq, Nat.reduceEqDiff, Nat.reduceAdd, Nat.reduceMul, Nat.reduceLeDiff, Nat.reduceLT, Nat.reduceSub, Nat.reduceBEq, g3'], by simp only [stB, reduceIte, reduceCtorEq, Nat.reduceEqDiff, Nat.reduceAdd, Nat.reduceMul, Nat.reduceLeDiff, Nat.reduceLT, Nat.reduceSub, Nat.reduceBEq, o3', RSt.row], by simp only [stB, reduceIte, reduceCtorEq, Nat.reduceEqDiff, Nat.reduceAdd, Nat.reduceMul, Nat.reduceLeDiff, Nat.reduceLT, Nat.reduceSub, Nat.reduceBEq, g4'], by simp only [stB, reduceIte, reduceCtorEq, Nat.reduceEqDiff, Nat.reduceAdd, Nat.reduceMul, Nat.reduceLeDiff, Nat.reduceLT, Nat.reduceSub, Nat.reduceBEq, h4'], by simp only [stB, reduceIte, reduceCtorEq, Nat.reduceEqDiff, Nat.reduceAdd, Nat.reduceMul, Nat.reduceLeDiff, Nat.reduceLT, Nat.reduceSub, Nat.reduceBEq, o4']⟩
      · have ho' : ¬ (out.length : Int) < 76 := by omega
        simp only [↓evP, evB, stB, reduceIte, reduceCtorEq, Nat.reduceEqDiff, Nat.reduceAdd, Nat.reduceMul, Nat.reduceLeDiff, Nat.reduceLT, Nat.reduceSub, Nat.reduceBEq, h5, g3, o3, g4, h4, o4, hlt', ho', decide_true, decide_false, pr16]
        rw [hrep, hd, RSt.rep, if_neg ho]
    · have hkl : k = raw.length := by omega
      subst hkl
      rw [List.drop_length] at hrep
      have hlt' : ¬ (raw.length : Int) < (raw.length : Int) := by omega
      simp only [↓evP, evB, stB, reduceIte, reduceCtorEq, Nat.reduceEqDiff, Nat.reduceAdd, Nat.reduceMul, Nat.reduceLeDiff, Nat.reduceLT, Nat.reduceSub, Nat.reduceBEq, h5, g3, o3, g4, h4, o4, hlt', pr16]
      rw [hrep]; rfl
end Go.Proofs.Ytkdagjlkejefnaa
end
section
set_option linter.unusedSimpArgs false
set_option linter.unusedVariables false
namespace Go.Proofs.Ytkdagjlkejefnaa
open Go Go.RowKit
set_option maxRecDepth 100000
set_option maxHeartbeats 4000000

def R_trepaired (ps rs : List Pa) : Prop := ∃ l : List Ev, ps = [evsPa l] ∧ l.length ≤ 9223372036854775807 ∧ rs = [pB true]
def env_trepaired : Env := e1 12 R_awake (e1 16 R_repair (e1 13 R_rcheck (e1 17 R_rwhole e0)))
theorem env_trepaired_ok : EnvOK Try.prog env_trepaired := EnvOK.e1 s_awake (EnvOK.e1 s_repair (EnvOK.e1 s_tCheck (EnvOK.e1 s_tWhole EnvOK.e0)))
theorem s_trepaired : Spec Try.prog 4 R_trepaired := by
  refine sp4 env_trepaired_ok ?_
  rintro ps rs ⟨l, rfl, hlen, rfl⟩
  refine ⟨by simp, ?_⟩
  obtain ⟨s, hg, hl⟩ := repair_good l
  unfold pc4
  refine pwp_start ?_
  simp only [↓evP, evB, stB, reduceIte, reduceCtorEq, Nat.reduceEqDiff, Nat.reduceAdd, Nat.reduceMul, Nat.reduceLeDiff, Nat.reduceLT, Nat.reduceSub, Nat.reduceBEq, evsPa, evsD]
  refine callOps_intro [pB true] ⟨rfl, rfl⟩ ?_
  simp only [↓evP, evB, stB, reduceIte, reduceCtorEq, Nat.reduceEqDiff, Nat.reduceAdd, Nat.reduceMul, Nat.reduceLeDiff, Nat.reduceLT, Nat.reduceSub, Nat.reduceBEq, pr4]
  refine callOps_intro [evsPa (repairL l)] ⟨l, rfl, hlen, rfl⟩ ?_
  generalize repairL l = m at *
  simp only [↓evP, evB, stB, reduceIte, reduceCtorEq, Nat.reduceEqDiff, Nat.reduceAdd, Nat.reduceMul, Nat.reduceLeDiff, Nat.reduceLT, Nat.reduceSub, Nat.reduceBEq, evsPa, evsD]
  refine callOps_intro [pI (chk m), pB (decide (chk m = m.length))] ⟨m, rfl, by omega, rfl⟩ ?_
  rw [hg.chk, decide_eq_true rfl]
  simp only [↓evP, evB, stB, reduceIte, reduceCtorEq, Nat.reduceEqDiff, Nat.reduceAdd, Nat.reduceMul, Nat.reduceLeDiff, Nat.reduceLT, Nat.reduceSub, Nat.reduceBEq, beq_self_eq_true]
  refine callOps_intro [pI (wholeOf m)] ⟨m, rfl, by omega, rfl⟩ ?_
  rw [hg.whole]
  simp only [↓evP, evB, stB, reduceIte, reduceCtorEq, Nat.reduceEqDiff, Nat.reduceAdd, Nat.reduceMul, Nat.reduceLeDiff, Nat.reduceLT, Nat.reduceSub, Nat.reduceBEq, beq_self_eq_true]
end Go.Proofs.Ytkdagjlkejefnaa
end
section
set_option linter.unusedSimpArgs false
set_option linter.unusedVariables false
namespace Go.Proofs.Ytkdagjlkejefnaa
open Go Go.RowKit Go.WideShapes Go.ChangeShapes Go.Deep

theorem trodAll_below {H : Type} {enc : TypeId × Value → H} {P : Program} (hl : laidOutB P = true) {W W' : World} (hb : Below W.heap.size W W') :
    ∀ {ts : List TypeId} {vs : List Value} {ds : List (DataW H)} {ps : List MemPlace}, (ts.all fun t => P.readableRec t && decide (t < P.types.size)) = true → DataW.TrodAll enc P W 0 (fun _ => true) true ts vs ds ps → DataW.TrodAll enc P W' 0 (fun b => decide (b < W.heap.size)) true ts vs ds ps
  | [], vs, ds, ps, _, h => by obtain ⟨rfl, rfl, rfl⟩ := trodAll_nil h; exact trodAll_mk0
  | t :: ts, vs, ds, ps, ht, h => by
    obtain ⟨v, vs', d, ds', p, q, rfl, rfl, rfl, h1, h2⟩ := trodAll_cons h
    simp only [List.all_cons, Bool.and_eq_true, decide_eq_true_eq] at ht
    have lt : ∀ x ∈ p, x.block < W.heap.size := by obtain ⟨m, hm⟩ := h1; exact DataW.trod_lt m _ _ _ hm
    exact trodAll_cons_mk (Below.trod hl ht.1.1 ht.1.2 h1 hb lt) (trodAll_below hl hb (by rw [Bool.eq_iff_iff] at *; simpa using ht.2) h2)

/-- a struct of numbers -/
theorem open_flat {H : Type} {enc : TypeId × Value → H} {P : Program} {w : World} {r : Reach} {b0 base : Nat} {spare : Nat → Bool} {held : Bool} {t : TypeId} {fs : Array Field} (ht : P.underlying t = some (.struct fs)) (hone : oneCellFields P fs = true) (hC : P.cellsOf t = fs.size)
    {tI : TypeId} (hI : P.underlying tI = some (.int .i64)) (hint0 : fs.toList.all (fun f => f.type == tI) = true) {n : Nat} (hn : fs.size = n) {v : Value} {d : DataW H} {ps : List MemPlace} (hv : Value.okWide P w r b0 t v) (h : DataW.Trod enc P w base spare held t v d ps) :
    ∃ l : List Int, l.length = n ∧ v = .agg (l.map (Value.int .i64)).toArray ∧ ∀ x, x ∈ l → -9223372036854775808 ≤ x ∧ x ≤ 9223372036854775807 := by
  have hint : ∀ (i : Nat) (f : Field), fs[i]? = some f → P.underlying f.type = some (.int .i64) := fun i f hf => by
    have h1 := List.all_eq_true.1 hint0 f (List.mem_of_getElem? (i := i) (by simpa using hf))
    rw [beq_iff_eq.1 h1]; exact hI
  subst hn
  obtain ⟨cs, rfl, hcs⟩ := okWide_struct ht hv
  obtain ⟨fuel, hf⟩ := h
  obtain ⟨xs, n, _, _, hl, hlen, hfs⟩ := DataW.trod_struct ht hf
  have key : ∀ i, ∃ x : Int, i < fs.size → cs[i]? = some (.int .i64 x) ∧ -9223372036854775808 ≤ x ∧ x ≤ 9223372036854775807 := by
    intro i
    by_cases hi : i < fs.size
    · have hfi : fs[i]? = some fs[i] := Array.getElem?_eq_getElem hi
      obtain ⟨ho, hk⟩ := hone_of hone i _ hfi
      have h1 := hfs i _ hfi
      rw [ho, hk] at h1
      have hic : i < cs.size := by omega
      have hone' : ((Value.agg cs).cells.toList.drop i).take 1 = [cs[i]'hic] := by
        show (cs.toList.drop i).take 1 = _
        rw [List.drop_eq_getElem_cons (by simpa using hic)]
        simp
      rw [hone'] at h1
      have hxs : xs[i]? = some (xs[i]'(by omega)) := List.getElem?_eq_getElem _
      rw [hxs] at h1
      obtain ⟨x, hx, hw⟩ := trod_int_field (hint i _ hfi) h1
      exact ⟨x, fun _ => ⟨by rw [Array.getElem?_eq_getElem hic, hx], i64_of_wf hw⟩⟩
    · exact ⟨0, fun h => absurd h hi⟩
  obtain ⟨g, hg⟩ := Classical.skolem.1 key
  refine ⟨(List.range fs.size).map g, by simp, ?_, fun x hx => ?_⟩
  · congr 1
    apply Array.ext_getElem?
    intro i
    simp only [List.getElem?_toArray, List.getElem?_map]
    rcases Nat.lt_or_ge i fs.size with hi | hi
    · rw [(hg i hi).1, List.getElem?_range hi]; rfl
    · rw [Array.getElem?_eq_none (by omega), List.getElem?_eq_none (by simpa using hi)]; rfl
  · simp only [List.mem_map, List.mem_range] at hx
    obtain ⟨i, hi, rfl⟩ := hx
    exact (hg i hi).2

theorem list_two {α : Type} {l : List α} (h : l.length = 2) : ∃ x y, l = [x, y] := by
  match l, h with
  | [x, y], _ => exact ⟨x, y, rfl⟩
theorem list_nine {l : List Int} (h : l.length = 9) : ∃ e : Ev, l.map (Value.int .i64) = e.cells := by
  match l, h with
  | [a, b, c, d, e, f, g, i, j], _ => exact ⟨⟨a, b, c, d, e, f, g, i, j⟩, rfl⟩
/-- what a contract on data that answers 'true' says of a call -/
theorem Spec.true {P : Program} {f : Nat} {R : List Pa → List Pa → Prop} (hs : Spec P f R) {ps : List Pa} (hR : R ps [pB true]) {S : Nat → Nat} {w : World} {vals : Array Value} (hv : RPs S w ps vals) :
    Calls P f vals w fun e w' => e = .returned (.bool true) ∧ Below w.heap.size w w' := by
  refine (hs ps _ hR S w vals hv).mono ?_
  rintro e w' ⟨v, S', rfl, h1, h2, _⟩
  exact ⟨by rw [RP.bool h1], h2⟩
end Go.Proofs.Ytkdagjlkejefnaa
end
