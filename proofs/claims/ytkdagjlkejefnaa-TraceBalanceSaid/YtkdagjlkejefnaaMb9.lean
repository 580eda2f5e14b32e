/- The reference of chapter 20: Name, Valid, Channel. -/
import Derived.Test.YtkdagjlkejefnaaMb8
section
set_option linter.unusedSimpArgs false
set_option linter.unusedVariables false
namespace Go.Proofs.Ytkdagjlkejefnaa
open Go Go.RowKit
set_option maxRecDepth 100000
set_option maxHeartbeats 4000000

def R_channel20 (ps rs : List Pa) : Prop := ∃ k : Int, ps = [pI k] ∧ rs = [pB (chanB k)]
theorem s_channel20 : Spec Try.prog 39 R_channel20 := by
  refine sp39 EnvOK.e0 ?_
  rintro ps rs ⟨k, rfl, rfl⟩
  refine ⟨by simp, ?_⟩
  unfold pc39
  refine pwp_start ?_
  simp only [↓evP, evB, stB, reduceIte, reduceCtorEq, Nat.reduceEqDiff, Nat.reduceAdd, Nat.reduceMul, Nat.reduceLeDiff, Nat.reduceLT, Nat.reduceSub, Nat.reduceBEq, pr39]
  refine ⟨fun h => ?_, fun h => ?_⟩
  · unfold chanB; rw [decide_eq_decide.2 (show (15 ≤ k ∧ k ≤ 20) ↔ k ≤ 20 from ⟨fun h => h.2, fun h2 => ⟨h, h2⟩⟩)]
  · unfold chanB; rw [decide_eq_false (fun h2 => h h2.1)]
/-- the names of the kinds -/
def kindNames : List ByteArray := [⟨#[]⟩, ⟨#[114, 101, 97, 100]⟩, ⟨#[119, 114, 105, 116, 101]⟩, ⟨#[97, 116, 111, 109, 105, 99, 45, 114, 101, 97, 100]⟩, ⟨#[97, 116, 111, 109, 105, 99, 45, 119, 114, 105, 116, 101]⟩, ⟨#[97, 116, 111, 109, 105, 99, 45, 98, 111, 116, 104]⟩, ⟨#[108, 111, 99, 107]⟩, ⟨#[117, 110, 108, 111, 99, 107]⟩, ⟨#[114, 108, 111, 99, 107]⟩, ⟨#[114, 117, 110, 108, 111, 99, 107]⟩, ⟨#[100, 111, 110, 101]⟩, ⟨#[119, 97, 105, 116]⟩, ⟨#[111, 110, 99, 101, 45, 101, 110, 100]⟩, ⟨#[111, 110, 99, 101, 45, 115, 101, 101, 110]⟩, ⟨#[103, 111]⟩, ⟨#[115, 101, 110, 100, 45, 115, 116, 97, 114, 116]⟩, ⟨#[115, 101, 110, 100, 45, 101, 110, 100]⟩, ⟨#[114, 101, 99, 118, 45, 115, 116, 97, 114, 116]⟩, ⟨#[114, 101, 99, 118, 45, 101, 110, 100]⟩, ⟨#[99, 108, 111, 115, 101]⟩, ⟨#[114, 101, 99, 118, 45, 99, 108, 111, 115, 101, 100]⟩]
def R_name (ps rs : List Pa) : Prop := ∃ k : Int, ps = [pI k] ∧ ∃ s, rs = [.one (.sc (.string s))] ∧ s = (if k < 1 ∨ 20 < k then ⟨#[]⟩ else (kindNames[k.toNat]?).getD ⟨#[]⟩)
theorem s_name : Spec Try.prog 57 R_name := by
  refine sp57 EnvOK.e0 ?_
  rintro ps rs ⟨k, rfl, s, rfl, hs⟩
  refine ⟨by simp, ?_⟩
  unfold pc57
  refine pwp_start ?_
  by_cases h1 : k < 1
  · rw [if_pos (.inl h1)] at hs
    subst hs
    simp only [↓evP, evB, stB, reduceIte, reduceCtorEq, Nat.reduceEqDiff, Nat.reduceAdd, Nat.reduceMul, Nat.reduceLeDiff, Nat.reduceLT, Nat.reduceSub, Nat.reduceBEq, h1, pr57]
  by_cases h2 : k > 20
  · rw [if_pos (.inr h2)] at hs
    subst hs
    simp only [↓evP, evB, stB, reduceIte, reduceCtorEq, Nat.reduceEqDiff, Nat.reduceAdd, Nat.reduceMul, Nat.reduceLeDiff, Nat.reduceLT, Nat.reduceSub, Nat.reduceBEq, h1, h2, decide_true, decide_false, pr57]
  rw [if_neg (fun h => h.elim h1 h2)] at hs
  obtain ⟨m, rfl⟩ := Int.eq_ofNat_of_zero_le (show 0 ≤ k by omega)
  obtain ⟨u, hu⟩ : ∃ u, kindNames[m]? = some u := ⟨_, List.getElem?_eq_getElem (by show m < 21; omega)⟩
  rw [Int.toNat_natCast, hu, Option.getD_some] at hs
  subst hs
  have hrow : (kindNames.map fun x => [Dt.sc (.string x)])[m]? = some [.sc (.string s)] := by rw [List.getElem?_map, hu]; rfl
  unfold kindNames at hrow
  simp only [List.map_cons, List.map_nil] at hrow
  simp only [↓evP, evB, stB, reduceIte, reduceCtorEq, Nat.reduceEqDiff, Nat.reduceAdd, Nat.reduceMul, Nat.reduceLeDiff, Nat.reduceLT, Nat.reduceSub, Nat.reduceBEq, h1, h2, decide_true, decide_false, hrow, pr57]
end Go.Proofs.Ytkdagjlkejefnaa
end
section
set_option linter.unusedSimpArgs false
set_option linter.unusedVariables false
namespace Go.Proofs.Ytkdagjlkejefnaa
open Go Go.RowKit
set_option maxRecDepth 100000
set_option maxHeartbeats 4000000

def R_valid20 (ps rs : List Pa) : Prop := ∃ e : Ev, ps = [e.pa] ∧ rs = [pB e.valid]
def env_valid20 : Env := e1 57 R_name e0
theorem env_valid20_ok : EnvOK Try.prog env_valid20 := EnvOK.e1 s_name EnvOK.e0

theorem valid20_c1 {e : Ev} (hr : 0 ≤ e.k) (Q : Exit → St → Prop)
    (hQ : ∀ st, st.res pr37 = some [pB (decide (e.obj = 0 ∧ e.off = 0 ∧ e.n = 0 ∧ 1 ≤ e.k ∧ e.k < 8))] → Q .ret st) (st : St)
    (h1 : st.sl 1 = .b (.one (.ptr 1 1 0))) (g1 : st.gen 1 = 1) (o1 : st.ob 1 = .cells (e.row.map .d)) :
    pwp env_valid20 pc37c1 (exS env_valid20 [It.bl 2, It.c pc37c0] Q) st := by
  simp only [Ev.row, List.map_cons, List.map_nil] at o1
  unfold pc37c1
  simp only [↓evP, evB, stB, reduceIte, reduceCtorEq, Nat.reduceEqDiff, Nat.reduceAdd, Nat.reduceMul, Nat.reduceLeDiff, Nat.reduceLT, Nat.reduceSub, Nat.reduceBEq, h1, g1, o1]
  repeat' (first | apply And.intro | intro)
  all_goals (refine hQ _ ?_; simp only [stB, reduceIte, reduceCtorEq, Nat.reduceEqDiff, Nat.reduceAdd, Nat.reduceMul, Nat.reduceLeDiff, Nat.reduceLT, Nat.reduceSub, Nat.reduceBEq, pr37]; refine congrArg (fun b => some [pB b]) (Bool.eq_iff_iff.2 ?_); simp only [beq_iff_eq, beq_eq_false_iff_ne, ne_eq, decide_eq_true_eq, decide_eq_false_iff_not, Bool.false_eq_true, reduceCtorEq, false_iff, true_iff, iff_false, iff_true] at *; omega)
theorem valid20_c2 {e : Ev} (hr : 0 ≤ e.k) (Q : Exit → St → Prop)
    (hQ : ∀ st, st.res pr37 = some [pB (decide (e.off = 0 ∧ e.n ≤ 64))] → Q .ret st) (st : St)
    (h1 : st.sl 1 = .b (.one (.ptr 1 1 0))) (g1 : st.gen 1 = 1) (o1 : st.ob 1 = .cells (e.row.map .d)) :
    pwp env_valid20 pc37c2 (exS env_valid20 [It.bl 2, It.c pc37c0] Q) st := by
  simp only [Ev.row, List.map_cons, List.map_nil] at o1
  unfold pc37c2
  simp only [↓evP, evB, stB, reduceIte, reduceCtorEq, Nat.reduceEqDiff, Nat.reduceAdd, Nat.reduceMul, Nat.reduceLeDiff, Nat.reduceLT, Nat.reduceSub, Nat.reduceBEq, h1, g1, o1]
  repeat' (first | apply And.intro | intro)
  all_goals (refine hQ _ ?_; simp only [stB, reduceIte, reduceCtorEq, Nat.reduceEqDiff, Nat.reduceAdd, Nat.reduceMul, Nat.reduceLeDiff, Nat.reduceLT, Nat.reduceSub, Nat.reduceBEq, pr37]; refine congrArg (fun b => some [pB b]) (Bool.eq_iff_iff.2 ?_); simp only [beq_iff_eq, beq_eq_false_iff_ne, ne_eq, decide_eq_true_eq, decide_eq_false_iff_not, Bool.false_eq_true, reduceCtorEq, false_iff, true_iff, iff_false, iff_true] at *; omega)
theorem valid20_c3 {e : Ev} (hr : 0 ≤ e.k) (Q : Exit → St → Prop)
    (hQ : ∀ st, st.res pr37 = some [pB (decide (e.off = 0 ∧ e.n ≤ 64 ∧ e.k = 0))] → Q .ret st) (st : St)
    (h1 : st.sl 1 = .b (.one (.ptr 1 1 0))) (g1 : st.gen 1 = 1) (o1 : st.ob 1 = .cells (e.row.map .d)) :
    pwp env_valid20 pc37c3 (exS env_valid20 [It.bl 2, It.c pc37c0] Q) st := by
  simp only [Ev.row, List.map_cons, List.map_nil] at o1
  unfold pc37c3
  simp only [↓evP, evB, stB, reduceIte, reduceCtorEq, Nat.reduceEqDiff, Nat.reduceAdd, Nat.reduceMul, Nat.reduceLeDiff, Nat.reduceLT, Nat.reduceSub, Nat.reduceBEq, h1, g1, o1]
  repeat' (first | apply And.intro | intro)
  all_goals (refine hQ _ ?_; simp only [stB, reduceIte, reduceCtorEq, Nat.reduceEqDiff, Nat.reduceAdd, Nat.reduceMul, Nat.reduceLeDiff, Nat.reduceLT, Nat.reduceSub, Nat.reduceBEq, pr37]; refine congrArg (fun b => some [pB b]) (Bool.eq_iff_iff.2 ?_); simp only [beq_iff_eq, beq_eq_false_iff_ne, ne_eq, decide_eq_true_eq, decide_eq_false_iff_not, Bool.false_eq_true, reduceCtorEq, false_iff, true_iff, iff_false, iff_true] at *; omega)
theorem valid20_c0 {e : Ev} (hr : 0 ≤ e.k) (Q : Exit → St → Prop)
    (hQ : ∀ st, st.res pr37 = some [pB (decide (e.k = 0 ∧ e.n = 0))] → Q .ret st) (st : St)
    (h1 : st.sl 1 = .b (.one (.ptr 1 1 0))) (g1 : st.gen 1 = 1) (o1 : st.ob 1 = .cells (e.row.map .d)) :
    pwp env_valid20 pc37c0 (exS env_valid20 [] Q) st := by
  simp only [Ev.row, List.map_cons, List.map_nil] at o1
  unfold pc37c0
  simp only [↓evP, evB, stB, reduceIte, reduceCtorEq, Nat.reduceEqDiff, Nat.reduceAdd, Nat.reduceMul, Nat.reduceLeDiff, Nat.reduceLT, Nat.reduceSub, Nat.reduceBEq, h1, g1, o1]
  repeat' (first | apply And.intro | intro)
  all_goals (refine hQ _ ?_; simp only [stB, reduceIte, reduceCtorEq, Nat.reduceEqDiff, Nat.reduceAdd, Nat.reduceMul, Nat.reduceLeDiff, Nat.reduceLT, Nat.reduceSub, Nat.reduceBEq, pr37]; refine congrArg (fun b => some [pB b]) (Bool.eq_iff_iff.2 ?_); simp only [beq_iff_eq, beq_eq_false_iff_ne, ne_eq, decide_eq_true_eq, decide_eq_false_iff_not, Bool.false_eq_true, reduceCtorEq, false_iff, true_iff, iff_false, iff_true] at *; omega)

theorem valid20_tail {e : Ev} (hk : 1 ≤ e.kind) (hk2 : e.kind ≤ 20) (hr : rangeB e.k = true) (Q : Exit → St → Prop)
    (hQ : ∀ st, st.res pr37 = some [pB e.rest] → Q .ret st) (st : St)
    (h1 : st.sl 1 = .b (.one (.ptr 1 1 0))) (g1 : st.gen 1 = 1) (o1 : st.ob 1 = .cells (e.row.map .d)) :
    pwp env_valid20 pc37c7 (exS env_valid20 [] Q) st := by
  have o1' := o1
  simp only [Ev.row, List.map_cons, List.map_nil] at o1
  have hr' : 0 ≤ e.k := by unfold rangeB at hr; simp at hr; omega
  unfold pc37c7 pc37c6
  cases k14 : (e.kind == 14) with
  | true =>
    simp only [↓evP, evB, stB, reduceIte, reduceCtorEq, Nat.reduceEqDiff, Nat.reduceAdd, Nat.reduceMul, Nat.reduceLeDiff, Nat.reduceLT, Nat.reduceSub, Nat.reduceBEq, h1, g1, o1, k14]
    have hre : e.rest = decide (e.obj = 0 ∧ e.off = 0 ∧ e.n = 0 ∧ 1 ≤ e.k ∧ e.k < 8) := by unfold Ev.rest; rw [if_pos (beq_iff_eq.1 k14)]
    rw [hre] at hQ
    exact valid20_c1 hr' Q hQ _ (by simp only [stB, reduceIte, reduceCtorEq, Nat.reduceEqDiff, Nat.reduceAdd, Nat.reduceMul, Nat.reduceLeDiff, Nat.reduceLT, Nat.reduceSub, Nat.reduceBEq, h1]) (by simp only [stB, reduceIte, reduceCtorEq, Nat.reduceEqDiff, Nat.reduceAdd, Nat.reduceMul, Nat.reduceLeDiff, Nat.reduceLT, Nat.reduceSub, Nat.reduceBEq, g1]) (by simp only [stB, reduceIte, reduceCtorEq, Nat.reduceEqDiff, Nat.reduceAdd, Nat.reduceMul, Nat.reduceLeDiff, Nat.reduceLT, Nat.reduceSub, Nat.reduceBEq, o1, Ev.row])
  | false =>
  have n14 := beq_eq_false_iff_ne.1 k14
  cases k15 : (e.kind == 15) with
  | true =>
    simp only [↓evP, evB, stB, reduceIte, reduceCtorEq, Nat.reduceEqDiff, Nat.reduceAdd, Nat.reduceMul, Nat.reduceLeDiff, Nat.reduceLT, Nat.reduceSub, Nat.reduceBEq, h1, g1, o1, k14]
    unfold pc37c5
    simp only [↓evP, evB, stB, reduceIte, reduceCtorEq, Nat.reduceEqDiff, Nat.reduceAdd, Nat.reduceMul, Nat.reduceLeDiff, Nat.reduceLT, Nat.reduceSub, Nat.reduceBEq, h1, g1, o1, k14, k15]
    have hre : e.rest = decide (e.off = 0 ∧ e.n ≤ 64) := by unfold Ev.rest; rw [if_neg n14, if_pos (by have := beq_iff_eq.1 k15; omega)]
    rw [hre] at hQ
    exact valid20_c2 hr' Q hQ _ (by simp only [stB, reduceIte, reduceCtorEq, Nat.reduceEqDiff, Nat.reduceAdd, Nat.reduceMul, Nat.reduceLeDiff, Nat.reduceLT, Nat.reduceSub, Nat.reduceBEq, h1]) (by simp only [stB, reduceIte, reduceCtorEq, Nat.reduceEqDiff, Nat.reduceAdd, Nat.reduceMul, Nat.reduceLeDiff, Nat.reduceLT, Nat.reduceSub, Nat.reduceBEq, g1]) (by simp only [stB, reduceIte, reduceCtorEq, Nat.reduceEqDiff, Nat.reduceAdd, Nat.reduceMul, Nat.reduceLeDiff, Nat.reduceLT, Nat.reduceSub, Nat.reduceBEq, o1, Ev.row])
  | false =>
  have n15 := beq_eq_false_iff_ne.1 k15
  cases k16 : (e.kind == 16) with
  | true =>
    simp only [↓evP, evB, stB, reduceIte, reduceCtorEq, Nat.reduceEqDiff, Nat.reduceAdd, Nat.reduceMul, Nat.reduceLeDiff, Nat.reduceLT, Nat.reduceSub, Nat.reduceBEq, h1, g1, o1, k14]
    unfold pc37c5
    simp only [↓evP, evB, stB, reduceIte, reduceCtorEq, Nat.reduceEqDiff, Nat.reduceAdd, Nat.reduceMul, Nat.reduceLeDiff, Nat.reduceLT, Nat.reduceSub, Nat.reduceBEq, h1, g1, o1, k14, k15, k16]
    have hre : e.rest = decide (e.off = 0 ∧ e.n ≤ 64) := by unfold Ev.rest; rw [if_neg n14, if_pos (by have := beq_iff_eq.1 k16; omega)]
    rw [hre] at hQ
    exact valid20_c2 hr' Q hQ _ (by simp only [stB, reduceIte, reduceCtorEq, Nat.reduceEqDiff, Nat.reduceAdd, Nat.reduceMul, Nat.reduceLeDiff, Nat.reduceLT, Nat.reduceSub, Nat.reduceBEq, h1]) (by simp only [stB, reduceIte, reduceCtorEq, Nat.reduceEqDiff, Nat.reduceAdd, Nat.reduceMul, Nat.reduceLeDiff, Nat.reduceLT, Nat.reduceSub, Nat.reduceBEq, g1]) (by simp only [stB, reduceIte, reduceCtorEq, Nat.reduceEqDiff, Nat.reduceAdd, Nat.reduceMul, Nat.reduceLeDiff, Nat.reduceLT, Nat.reduceSub, Nat.reduceBEq, o1, Ev.row])
  | false =>
  have n16 := beq_eq_false_iff_ne.1 k16
  cases k17 : (e.kind == 17) with
  | true =>
    simp only [↓evP, evB, stB, reduceIte, reduceCtorEq, Nat.reduceEqDiff, Nat.reduceAdd, Nat.reduceMul, Nat.reduceLeDiff, Nat.reduceLT, Nat.reduceSub, Nat.reduceBEq, h1, g1, o1, k14]
    unfold pc37c5
    simp only [↓evP, evB, stB, reduceIte, reduceCtorEq, Nat.reduceEqDiff, Nat.reduceAdd, Nat.reduceMul, Nat.reduceLeDiff, Nat.reduceLT, Nat.reduceSub, Nat.reduceBEq, h1, g1, o1, k14, k15, k16, k17]
    have hre : e.rest = decide (e.off = 0 ∧ e.n ≤ 64) := by unfold Ev.rest; rw [if_neg n14, if_pos (by have := beq_iff_eq.1 k17; omega)]
    rw [hre] at hQ
    exact valid20_c2 hr' Q hQ _ (by simp only [stB, reduceIte, reduceCtorEq, Nat.reduceEqDiff, Nat.reduceAdd, Nat.reduceMul, Nat.reduceLeDiff, Nat.reduceLT, Nat.reduceSub, Nat.reduceBEq, h1]) (by simp only [stB, reduceIte, reduceCtorEq, Nat.reduceEqDiff, Nat.reduceAdd, Nat.reduceMul, Nat.reduceLeDiff, Nat.reduceLT, Nat.reduceSub, Nat.reduceBEq, g1]) (by simp only [stB, reduceIte, reduceCtorEq, Nat.reduceEqDiff, Nat.reduceAdd, Nat.reduceMul, Nat.reduceLeDiff, Nat.reduceLT, Nat.reduceSub, Nat.reduceBEq, o1, Ev.row])
  | false =>
  have n17 := beq_eq_false_iff_ne.1 k17
  cases k18 : (e.kind == 18) with
  | true =>
    simp only [↓evP, evB, stB, reduceIte, reduceCtorEq, Nat.reduceEqDiff, Nat.reduceAdd, Nat.reduceMul, Nat.reduceLeDiff, Nat.reduceLT, Nat.reduceSub, Nat.reduceBEq, h1, g1, o1, k14]
    unfold pc37c5
    simp only [↓evP, evB, stB, reduceIte, reduceCtorEq, Nat.reduceEqDiff, Nat.reduceAdd, Nat.reduceMul, Nat.reduceLeDiff, Nat.reduceLT, Nat.reduceSub, Nat.reduceBEq, h1, g1, o1, k14, k15, k16, k17, k18]
    have hre : e.rest = decide (e.off = 0 ∧ e.n ≤ 64) := by unfold Ev.rest; rw [if_neg n14, if_pos (by have := beq_iff_eq.1 k18; omega)]
    rw [hre] at hQ
    exact valid20_c2 hr' Q hQ _ (by simp only [stB, reduceIte, reduceCtorEq, Nat.reduceEqDiff, Nat.reduceAdd, Nat.reduceMul, Nat.reduceLeDiff, Nat.reduceLT, Nat.reduceSub, Nat.reduceBEq, h1]) (by simp only [stB, reduceIte, reduceCtorEq, Nat.reduceEqDiff, Nat.reduceAdd, Nat.reduceMul, Nat.reduceLeDiff, Nat.reduceLT, Nat.reduceSub, Nat.reduceBEq, g1]) (by simp only [stB, reduceIte, reduceCtorEq, Nat.reduceEqDiff, Nat.reduceAdd, Nat.reduceMul, Nat.reduceLeDiff, Nat.reduceLT, Nat.reduceSub, Nat.reduceBEq, o1, Ev.row])
  | false =>
  have n18 := beq_eq_false_iff_ne.1 k18
  cases k19 : (e.kind == 19) with
  | true =>
    simp only [↓evP, evB, stB, reduceIte, reduceCtorEq, Nat.reduceEqDiff, Nat.reduceAdd, Nat.reduceMul, Nat.reduceLeDiff, Nat.reduceLT, Nat.reduceSub, Nat.reduceBEq, h1, g1, o1, k14]
    unfold pc37c5
    simp only [↓evP, evB, stB, reduceIte, reduceCtorEq, Nat.reduceEqDiff, Nat.reduceAdd, Nat.reduceMul, Nat.reduceLeDiff, Nat.reduceLT, Nat.reduceSub, Nat.reduceBEq, h1, g1, o1, k14, k15, k16, k17, k18]
    unfold pc37c4
    simp only [↓evP, evB, stB, reduceIte, reduceCtorEq, Nat.reduceEqDiff, Nat.reduceAdd, Nat.reduceMul, Nat.reduceLeDiff, Nat.reduceLT, Nat.reduceSub, Nat.reduceBEq, h1, g1, o1, k14, k15, k16, k17, k18, k19]
    have hre : e.rest = decide (e.off = 0 ∧ e.n ≤ 64 ∧ e.k = 0) := by unfold Ev.rest; rw [if_neg n14, if_neg (by omega), if_pos (by have := beq_iff_eq.1 k19; omega)]
    rw [hre] at hQ
    exact valid20_c3 hr' Q hQ _ (by simp only [stB, reduceIte, reduceCtorEq, Nat.reduceEqDiff, Nat.reduceAdd, Nat.reduceMul, Nat.reduceLeDiff, Nat.reduceLT, Nat.reduceSub, Nat.reduceBEq, h1]) (by simp only [stB, reduceIte, reduceCtorEq, Nat.reduceEqDiff, Nat.reduceAdd, Nat.reduceMul, Nat.reduceLeDiff, Nat.reduceLT, Nat.reduceSub, Nat.reduceBEq, g1]) (by simp only [stB, reduceIte, reduceCtorEq, Nat.reduceEqDiff, Nat.reduceAdd, Nat.reduceMul, Nat.reduceLeDiff, Nat.reduceLT, Nat.reduceSub, Nat.reduceBEq, o1, Ev.row])
  | false =>
  have n19 := beq_eq_false_iff_ne.1 k19
  cases k20 : (e.kind == 20) with
  | true =>
    simp only [↓evP, evB, stB, reduceIte, reduceCtorEq, Nat.reduceEqDiff, Nat.reduceAdd, Nat.reduceMul, Nat.reduceLeDiff, Nat.reduceLT, Nat.reduceSub, Nat.reduceBEq, h1, g1, o1, k14]
    unfold pc37c5
    simp only [↓evP, evB, stB, reduceIte, reduceCtorEq, Nat.reduceEqDiff, Nat.reduceAdd, Nat.reduceMul, Nat.reduceLeDiff, Nat.reduceLT, Nat.reduceSub, Nat.reduceBEq, h1, g1, o1, k14, k15, k16, k17, k18]
    unfold pc37c4
    simp only [↓evP, evB, stB, reduceIte, reduceCtorEq, Nat.reduceEqDiff, Nat.reduceAdd, Nat.reduceMul, Nat.reduceLeDiff, Nat.reduceLT, Nat.reduceSub, Nat.reduceBEq, h1, g1, o1, k14, k15, k16, k17, k18, k19, k20]
    have hre : e.rest = decide (e.off = 0 ∧ e.n ≤ 64 ∧ e.k = 0) := by unfold Ev.rest; rw [if_neg n14, if_neg (by omega), if_pos (by have := beq_iff_eq.1 k20; omega)]
    rw [hre] at hQ
    exact valid20_c3 hr' Q hQ _ (by simp only [stB, reduceIte, reduceCtorEq, Nat.reduceEqDiff, Nat.reduceAdd, Nat.reduceMul, Nat.reduceLeDiff, Nat.reduceLT, Nat.reduceSub, Nat.reduceBEq, h1]) (by simp only [stB, reduceIte, reduceCtorEq, Nat.reduceEqDiff, Nat.reduceAdd, Nat.reduceMul, Nat.reduceLeDiff, Nat.reduceLT, Nat.reduceSub, Nat.reduceBEq, g1]) (by simp only [stB, reduceIte, reduceCtorEq, Nat.reduceEqDiff, Nat.reduceAdd, Nat.reduceMul, Nat.reduceLeDiff, Nat.reduceLT, Nat.reduceSub, Nat.reduceBEq, o1, Ev.row])
  | false =>
  have n20 := beq_eq_false_iff_ne.1 k20
  simp only [↓evP, evB, stB, reduceIte, reduceCtorEq, Nat.reduceEqDiff, Nat.reduceAdd, Nat.reduceMul, Nat.reduceLeDiff, Nat.reduceLT, Nat.reduceSub, Nat.reduceBEq, h1, g1, o1, k14]
  unfold pc37c5
  simp only [↓evP, evB, stB, reduceIte, reduceCtorEq, Nat.reduceEqDiff, Nat.reduceAdd, Nat.reduceMul, Nat.reduceLeDiff, Nat.reduceLT, Nat.reduceSub, Nat.reduceBEq, h1, g1, o1, k14, k15, k16, k17, k18]
  unfold pc37c4
  simp only [↓evP, evB, stB, reduceIte, reduceCtorEq, Nat.reduceEqDiff, Nat.reduceAdd, Nat.reduceMul, Nat.reduceLeDiff, Nat.reduceLT, Nat.reduceSub, Nat.reduceBEq, h1, g1, o1, k14, k15, k16, k17, k18, k19, k20]
  have hre : e.rest = decide (e.k = 0 ∧ e.n = 0) := by unfold Ev.rest; rw [if_neg n14, if_neg (by omega), if_neg (by omega)]
  rw [hre] at hQ
  exact valid20_c0 hr' Q hQ _ (by simp only [stB, reduceIte, reduceCtorEq, Nat.reduceEqDiff, Nat.reduceAdd, Nat.reduceMul, Nat.reduceLeDiff, Nat.reduceLT, Nat.reduceSub, Nat.reduceBEq, h1]) (by simp only [stB, reduceIte, reduceCtorEq, Nat.reduceEqDiff, Nat.reduceAdd, Nat.reduceMul, Nat.reduceLeDiff, Nat.reduceLT, Nat.reduceSub, Nat.reduceBEq, g1]) (by simp only [stB, reduceIte, reduceCtorEq, Nat.reduceEqDiff, Nat.reduceAdd, Nat.reduceMul, Nat.reduceLeDiff, Nat.reduceLT, Nat.reduceSub, Nat.reduceBEq, o1, Ev.row])

theorem ba_loop (bs : ByteArray) : ∀ n i r, bs.size - i = n → ByteArray.toList.loop bs i r = r.reverse ++ bs.data.toList.drop i := by
  intro n
  induction n with
  | zero =>
    intro i r h
    unfold ByteArray.toList.loop
    rw [if_neg (by omega), List.drop_eq_nil_of_le (by show bs.data.toList.length ≤ i; rw [Array.length_toList]; show bs.size ≤ i; omega), List.append_nil]
  | succ n ih =>
    intro i r h
    have hi : i < bs.data.toList.length := by rw [Array.length_toList]; show i < bs.size; omega
    unfold ByteArray.toList.loop
    rw [if_pos (by omega), ih (i + 1) _ (by omega), List.drop_eq_getElem_cons hi, List.reverse_cons, List.append_assoc]
    congr 1
    show bs.get! i :: _ = _
    congr 1
    show bs.data[i]! = _
    rw [getElem!_pos bs.data i (by simpa using hi)]
    rfl
theorem ba_toList (bs : ByteArray) : bs.toList = bs.data.toList := by
  unfold ByteArray.toList
  rw [ba_loop bs _ 0 [] rfl]; rfl
def Ev.fields (e : Ev) : List Int := [e.obj, e.off, e.k, e.n, e.fn, e.pc, e.stack]
def kname (k : Int) : ByteArray := if k < 1 ∨ 20 < k then ⟨#[]⟩ else (kindNames[k.toNat]?).getD ⟨#[]⟩
theorem kname_empty (k : Int) : ((kname k).toList == (⟨#[]⟩ : ByteArray).toList) = !isKindB k := by
  unfold kname isKindB
  by_cases h : k < 1 ∨ 20 < k
  · rw [if_pos h, decide_eq_false (by omega), ba_toList]; decide
  · rw [if_neg h, decide_eq_true (by omega)]
    obtain ⟨m, rfl⟩ := Int.eq_ofNat_of_zero_le (show 0 ≤ k by omega)
    rw [Int.toNat_natCast]
    have : ∀ m : Fin 21, 1 ≤ m.val → (((kindNames[m.val]?).getD ⟨#[]⟩).data.toList == (⟨#[]⟩ : ByteArray).data.toList) = false := by decide +kernel
    rw [ba_toList, ba_toList]
    exact this ⟨m, by omega⟩ (by show 1 ≤ m; omega)
theorem Ev.valid_eq (e : Ev) : e.valid = (isKindB e.kind && decide (0 ≤ e.g ∧ e.g < 8) && e.fields.all rangeB && e.rest) := by
  unfold Ev.valid Ev.fields
  simp only [List.all_cons, List.all_nil, Bool.and_true, Bool.and_assoc]
theorem s_valid20 : Spec Try.prog 37 R_valid20 := by
  refine sp37 env_valid20_ok ?_
  rintro ps rs ⟨e, rfl, rfl⟩
  refine ⟨by simp, ?_⟩
  unfold pc37
  refine pwp_start ?_
  by_cases q1 : e.g < 0
  · have hv : e.valid = false := by rw [Ev.valid_eq, decide_eq_false (show ¬ (0 ≤ e.g ∧ e.g < 8) by omega)]; simp
    simp only [↓evP, evB, stB, reduceIte, reduceCtorEq, Nat.reduceEqDiff, Nat.reduceAdd, Nat.reduceMul, Nat.reduceLeDiff, Nat.reduceLT, Nat.reduceSub, Nat.reduceBEq, Ev.pa, Ev.row, q1, decide_true, decide_false, hv, pr37]
  by_cases q2 : e.g ≥ 8
  · have hv : e.valid = false := by rw [Ev.valid_eq, decide_eq_false (show ¬ (0 ≤ e.g ∧ e.g < 8) by omega)]; simp
    simp only [↓evP, evB, stB, reduceIte, reduceCtorEq, Nat.reduceEqDiff, Nat.reduceAdd, Nat.reduceMul, Nat.reduceLeDiff, Nat.reduceLT, Nat.reduceSub, Nat.reduceBEq, Ev.pa, Ev.row, q1, q2, decide_true, decide_false, hv, pr37]
  have hg : decide (0 ≤ e.g ∧ e.g < 8) = true := decide_eq_true (by omega)
  simp only [↓evP, evB, stB, reduceIte, reduceCtorEq, Nat.reduceEqDiff, Nat.reduceAdd, Nat.reduceMul, Nat.reduceLeDiff, Nat.reduceLT, Nat.reduceSub, Nat.reduceBEq, Ev.pa, Ev.row, q1, q2, decide_true, decide_false]
  refine callOps_intro [.one (.sc (.string (kname e.kind)))] ⟨e.kind, rfl, kname e.kind, rfl, rfl⟩ ?_
  cases hk : isKindB e.kind with
  | false =>
    have hv : e.valid = false := by rw [Ev.valid_eq, hk]; rfl
    simp only [↓evP, evB, stB, reduceIte, reduceCtorEq, Nat.reduceEqDiff, Nat.reduceAdd, Nat.reduceMul, Nat.reduceLeDiff, Nat.reduceLT, Nat.reduceSub, Nat.reduceBEq, kname_empty, hk, hv, pr37]
  | true =>
    simp only [↓evP, evB, stB, reduceIte, reduceCtorEq, Nat.reduceEqDiff, Nat.reduceAdd, Nat.reduceMul, Nat.reduceLeDiff, Nat.reduceLT, Nat.reduceSub, Nat.reduceBEq, kname_empty, hk]
    refine pwp_fresh [1] [1] (fun st hs ho => ?_)
    simp only [stB, reduceIte, reduceCtorEq, Nat.reduceEqDiff, Nat.reduceAdd, Nat.reduceMul, Nat.reduceLeDiff, Nat.reduceLT, Nat.reduceSub, Nat.reduceBEq] at hs ho
    obtain ⟨g1, o1⟩ := ho
    unfold pc37c9
    simp only [↓evP, evB, stB, reduceIte, reduceCtorEq, Nat.reduceEqDiff, Nat.reduceAdd, Nat.reduceMul, Nat.reduceLeDiff, Nat.reduceLT, Nat.reduceSub, Nat.reduceBEq, hs, g1, o1]
    refine pwp_fresh [1, 3] [1, 33] (fun st' hs' ho' => ?_)
    simp only [stB, reduceIte, reduceCtorEq, Nat.reduceEqDiff, Nat.reduceAdd, Nat.reduceMul, Nat.reduceLeDiff, Nat.reduceLT, Nat.reduceSub, Nat.reduceBEq, hs, g1, o1] at hs' ho'
    clear hs g1 o1
    obtain ⟨h1, h3⟩ := hs'
    obtain ⟨⟨g1, o1⟩, g33, o33⟩ := ho'
    unfold pc37c8
    simp only [↓evP, evB, stB, reduceIte, reduceCtorEq, Nat.reduceEqDiff, Nat.reduceAdd, Nat.reduceMul, Nat.reduceLeDiff, Nat.reduceLT, Nat.reduceSub, Nat.reduceBEq, h1, h3, g1, o1, g33, o33]
    refine pwp_loopW ms37_0 os37_0 (fun m st => ∃ k : Nat, m = 7 - k ∧ k ≤ 7 ∧ (e.fields.take k).all rangeB = true ∧ st.sl 4 = aI k) 7 ?_ ?_
    · exact ⟨0, rfl, by omega, rfl, by simp only [stB, reduceIte, reduceCtorEq, Nat.reduceEqDiff, Nat.reduceAdd, Nat.reduceMul, Nat.reduceLeDiff, Nat.reduceLT, Nat.reduceSub, Nat.reduceBEq]; rfl⟩
    · rintro m j ⟨k, rfl, hk7, hall, h4⟩
      simp only [stB, reduceIte, reduceCtorEq, Nat.reduceEqDiff, Nat.reduceAdd, Nat.reduceMul, Nat.reduceLeDiff, Nat.reduceLT, Nat.reduceSub, Nat.reduceBEq] at h4
      rcases Nat.lt_or_ge k 7 with hlt | hge
      · obtain ⟨x, hx⟩ : ∃ x, e.fields[k]? = some x := ⟨_, List.getElem?_eq_getElem (show k < e.fields.length from hlt)⟩
        have hrow : (e.fields.map fun x => [dI x])[k]? = some [dI x] := by rw [List.getElem?_map, hx]; rfl
        unfold Ev.fields at hrow
        simp only [List.map_cons, List.map_nil] at hrow
        have hl7 : (k : Int) < ((7 : Nat) : Int) := by omega
        have hmem : x ∈ e.fields := List.mem_of_getElem? hx
        by_cases x1 : x < 0
        · have hv : e.valid = false := by
            rw [Ev.valid_eq, (by rw [List.all_eq_false]; exact ⟨x, hmem, by unfold rangeB; rw [decide_eq_false (by omega)]; decide⟩ : e.fields.all rangeB = false)]; simp
          simp only [↓evP, evB, stB, reduceIte, reduceCtorEq, Nat.reduceEqDiff, Nat.reduceAdd, Nat.reduceMul, Nat.reduceLeDiff, Nat.reduceLT, Nat.reduceSub, Nat.reduceBEq, h1, h3, g1, o1, h4, g33, o33, hrow, hl7, x1, decide_true, decide_false, hv, pr37]
        by_cases x2 : x > 2147483647
        · have hv : e.valid = false := by
            rw [Ev.valid_eq, (by rw [List.all_eq_false]; exact ⟨x, hmem, by unfold rangeB; rw [decide_eq_false (by omega)]; decide⟩ : e.fields.all rangeB = false)]; simp
          simp only [↓evP, evB, stB, reduceIte, reduceCtorEq, Nat.reduceEqDiff, Nat.reduceAdd, Nat.reduceMul, Nat.reduceLeDiff, Nat.reduceLT, Nat.reduceSub, Nat.reduceBEq, h1, h3, g1, o1, h4, g33, o33, hrow, hl7, x1, x2, decide_true, decide_false, hv, pr37]
        simp only [↓evP, evB, stB, reduceIte, reduceCtorEq, Nat.reduceEqDiff, Nat.reduceAdd, Nat.reduceMul, Nat.reduceLeDiff, Nat.reduceLT, Nat.reduceSub, Nat.reduceBEq, h1, h3, g1, o1, h4, g33, o33, hrow, hl7, x1, x2, decide_true, decide_false]
        exact ⟨_, by omega, (by repeat' (first | assumption | exact within_over.mpr trivial | exact Within.refl _ _ _ | (refine within_ap ?_ rfl rfl) | (refine within_ap0 ?_ rfl))), k + 1, rfl, by omega, by rw [List.take_add_one, hx, List.all_append, hall]; simp only [Option.toList_some, List.all_cons, List.all_nil]; unfold rangeB; rw [decide_eq_true (by omega)]; rfl, by simp only [stB, reduceIte, reduceCtorEq, Nat.reduceEqDiff, Nat.reduceAdd, Nat.reduceMul, Nat.reduceLeDiff, Nat.reduceLT, Nat.reduceSub, Nat.reduceBEq, h4]; rw [wrN (by omega)]⟩
      · have hk77 : k = 7 := by omega
        subst hk77
        have hl7 : ¬ ((7 : Nat) : Int) < ((7 : Nat) : Int) := by omega
        simp only [↓evP, evB, stB, reduceIte, reduceCtorEq, Nat.reduceEqDiff, Nat.reduceAdd, Nat.reduceMul, Nat.reduceLeDiff, Nat.reduceLT, Nat.reduceSub, Nat.reduceBEq, h1, h3, g1, o1, h4, g33, o33, hl7]
        have hall' : e.fields.all rangeB = true := hall
        have hk' := hk
        unfold isKindB at hk'
        have hv : e.valid = e.rest := by rw [Ev.valid_eq, hk, hg, hall']; rfl
        have hrk : rangeB e.k = true := List.all_eq_true.1 hall' _ (by unfold Ev.fields; simp)
        rw [hv]
        exact valid20_tail (of_decide_eq_true hk').1 (of_decide_eq_true hk').2 hrk _ (fun st'' h => ⟨.inr rfl, h⟩) _ (by simp only [stB, reduceIte, reduceCtorEq, Nat.reduceEqDiff, Nat.reduceAdd, Nat.reduceMul, Nat.reduceLeDiff, Nat.reduceLT, Nat.reduceSub, Nat.reduceBEq, h1]) (by simp only [stB, reduceIte, reduceCtorEq, Nat.reduceEqDiff, Nat.reduceAdd, Nat.reduceMul, Nat.reduceLeDiff, Nat.reduceLT, Nat.reduceSub, Nat.reduceBEq, g1]) (by simp only [stB, reduceIte, reduceCtorEq, Nat.reduceEqDiff, Nat.reduceAdd, Nat.reduceMul, Nat.reduceLeDiff, Nat.reduceLT, Nat.reduceSub, Nat.reduceBEq, o1, Ev.row])
end Go.Proofs.Ytkdagjlkejefnaa
end
section
set_option linter.unusedSimpArgs false
set_option linter.unusedVariables false
namespace Go.Proofs.Ytkdagjlkejefnaa
open Go Go.RowKit
set_option maxRecDepth 100000
set_option maxHeartbeats 4000000

theorem RSt.counted_count (s : RSt) (e : Ev) : (s.counted e).count = s.count := by
  unfold RSt.counted RSt.setChannel; split <;> rfl
theorem RSt.partR_count (s : RSt) (e : Ev) : (s.partR e).1.count = s.count := by
  unfold RSt.partR RSt.groupR RSt.transferR RSt.otherR RSt.begin RSt.setChannel RSt.setLock
  repeat' split
  all_goals first | rfl | (rw [RSt.counted_count])

def R_Add (ps rs : List Pa) : Prop := ∃ (s : RSt) (e : Ev), ps = [s.pa, e.pa] ∧ s.ok ∧ rs = [(s.addR e).1.pa, pB (s.addR e).2]
def env_Add : Env := e1 37 R_valid20 (e1 39 R_channel20 (e1 38 R_group (e1 40 R_transfer (e1 41 R_other e0))))
theorem env_Add_ok : EnvOK Try.prog env_Add := EnvOK.e1 s_valid20 (EnvOK.e1 s_channel20 (EnvOK.e1 s_group (EnvOK.e1 s_transfer (EnvOK.e1 s_other EnvOK.e0))))
theorem s_Add : Spec Try.prog 20 R_Add := by
  refine sp20 env_Add_ok ?_
  rintro ps rs ⟨s, e, rfl, hok, rfl⟩
  refine ⟨by simp, ?_⟩
  unfold pc20
  refine pwp_start ?_
  simp only [↓evP, evB, stB, reduceIte, reduceCtorEq, Nat.reduceEqDiff, Nat.reduceAdd, Nat.reduceMul, Nat.reduceLeDiff, Nat.reduceLT, Nat.reduceSub, Nat.reduceBEq, RSt.pa, RSt.row, Ev.pa, Ev.row]
  refine callOps_intro [pB e.valid] ⟨e, rfl, rfl⟩ ?_
  cases hv : e.valid with
  | false =>
    have ha : s.addR e = (s, false) := by unfold RSt.addR RSt.admits; rw [hv]; rfl
    rw [ha]
    simp only [↓evP, evB, stB, reduceIte, reduceCtorEq, Nat.reduceEqDiff, Nat.reduceAdd, Nat.reduceMul, Nat.reduceLeDiff, Nat.reduceLT, Nat.reduceSub, Nat.reduceBEq, hv, RSt.pa, RSt.row, pr20]
  | true =>
  by_cases b1 : s.count ≥ 5000
  · have ha : s.addR e = (s, false) := by unfold RSt.addR RSt.admits; rw [decide_eq_false (show ¬ s.count < 5000 by omega)]; simp
    rw [ha]
    simp only [↓evP, evB, stB, reduceIte, reduceCtorEq, Nat.reduceEqDiff, Nat.reduceAdd, Nat.reduceMul, Nat.reduceLeDiff, Nat.reduceLT, Nat.reduceSub, Nat.reduceBEq, hv, b1, decide_true, decide_false, RSt.pa, RSt.row, pr20]
  by_cases b2 : e.g ≥ s.gor
  · have ha : s.addR e = (s, false) := by unfold RSt.addR RSt.admits; rw [decide_eq_false (show ¬ e.g < s.gor by omega)]; simp
    rw [ha]
    simp only [↓evP, evB, stB, reduceIte, reduceCtorEq, Nat.reduceEqDiff, Nat.reduceAdd, Nat.reduceMul, Nat.reduceLeDiff, Nat.reduceLT, Nat.reduceSub, Nat.reduceBEq, hv, b1, b2, decide_true, decide_false, RSt.pa, RSt.row, pr20]
  have had : s.admits e = true := by unfold RSt.admits; rw [hv, decide_eq_true (show s.count < 5000 by omega), decide_eq_true (show e.g < s.gor by omega)]; rfl
  have hcnt := RSt.partR_count s e
  have hc0 := hok.ct
  have ha : s.addR e = if (s.partR e).2 = true then ({ (s.partR e).1 with count := (s.partR e).1.count + 1 }, true) else (s, false) := by
    unfold RSt.addR
    by_cases h : (s.partR e).2 = true
    · rw [if_pos ⟨had, h⟩, if_pos h]
    · rw [if_neg (fun h' => h h'.2), if_neg h]
  rw [ha]
  clear ha
  by_cases b3 : s.next.length > 0
  · have hpart : s.partR e = s.groupR e := if_pos b3
    have b3' : (s.next.length : Int) > 0 := by omega
    rw [hpart] at hcnt ⊢
    simp only [↓evP, evB, stB, reduceIte, reduceCtorEq, Nat.reduceEqDiff, Nat.reduceAdd, Nat.reduceMul, Nat.reduceLeDiff, Nat.reduceLT, Nat.reduceSub, Nat.reduceBEq, hv, b1, b2, b3', decide_true, decide_false]
    refine callOps_intro [(s.groupR e).1.pa, pB (s.groupR e).2] ⟨s, e, rfl, ⟨hok, fun h => by rw [h] at b3; exact absurd b3 (by decide)⟩, rfl⟩ ?_
    generalize s.groupR e = tr at *
    obtain ⟨u, b⟩ := tr
    have hw : IntKind.i64.wrap (u.count + 1) = u.count + 1 := wr64 (by simp only at hcnt; omega) (by simp only at hcnt; omega)
    cases b with
    | true =>
      simp only [↓evP, evB, stB, reduceIte, reduceCtorEq, Nat.reduceEqDiff, Nat.reduceAdd, Nat.reduceMul, Nat.reduceLeDiff, Nat.reduceLT, Nat.reduceSub, Nat.reduceBEq, hv, b1, b2, b3', decide_true, decide_false, RSt.pa, RSt.row, hw, pr20]
    | false =>
      simp only [↓evP, evB, stB, reduceIte, reduceCtorEq, Nat.reduceEqDiff, Nat.reduceAdd, Nat.reduceMul, Nat.reduceLeDiff, Nat.reduceLT, Nat.reduceSub, Nat.reduceBEq, hv, b1, b2, b3', decide_true, decide_false, RSt.pa, RSt.row, hw, pr20]
  · have b3' : ¬ (s.next.length : Int) > 0 := by omega
    simp only [↓evP, evB, stB, reduceIte, reduceCtorEq, Nat.reduceEqDiff, Nat.reduceAdd, Nat.reduceMul, Nat.reduceLeDiff, Nat.reduceLT, Nat.reduceSub, Nat.reduceBEq, hv, b1, b2, b3', decide_true, decide_false]
    refine callOps_intro [pB (chanB e.kind)] ⟨e.kind, rfl, rfl⟩ ?_
    cases b4 : chanB e.kind with
    | true =>
      have hpart : s.partR e = s.transferR e := (if_neg b3).trans (if_pos b4)
      rw [hpart] at hcnt ⊢
      simp only [↓evP, evB, stB, reduceIte, reduceCtorEq, Nat.reduceEqDiff, Nat.reduceAdd, Nat.reduceMul, Nat.reduceLeDiff, Nat.reduceLT, Nat.reduceSub, Nat.reduceBEq, hv, b1, b2, b3', b4, decide_true, decide_false]
      refine callOps_intro [(s.transferR e).1.pa, pB (s.transferR e).2] ⟨s, e, rfl, hok, rfl⟩ ?_
      generalize s.transferR e = tr at *
      obtain ⟨u, b⟩ := tr
      have hw : IntKind.i64.wrap (u.count + 1) = u.count + 1 := wr64 (by simp only at hcnt; omega) (by simp only at hcnt; omega)
      cases b with
      | true =>
        simp only [↓evP, evB, stB, reduceIte, reduceCtorEq, Nat.reduceEqDiff, Nat.reduceAdd, Nat.reduceMul, Nat.reduceLeDiff, Nat.reduceLT, Nat.reduceSub, Nat.reduceBEq, hv, b1, b2, b3', b4, decide_true, decide_false, RSt.pa, RSt.row, hw, pr20]
      | false =>
        simp only [↓evP, evB, stB, reduceIte, reduceCtorEq, Nat.reduceEqDiff, Nat.reduceAdd, Nat.reduceMul, Nat.reduceLeDiff, Nat.reduceLT, Nat.reduceSub, Nat.reduceBEq, hv, b1, b2, b3', b4, decide_true, decide_false, RSt.pa, RSt.row, hw, pr20]
    | false =>
      have hpart : s.partR e = s.otherR e := (if_neg b3).trans (if_neg (by rw [b4]; decide))
      rw [hpart] at hcnt ⊢
      simp only [↓evP, evB, stB, reduceIte, reduceCtorEq, Nat.reduceEqDiff, Nat.reduceAdd, Nat.reduceMul, Nat.reduceLeDiff, Nat.reduceLT, Nat.reduceSub, Nat.reduceBEq, hv, b1, b2, b3', b4, decide_true, decide_false]
      refine callOps_intro [(s.otherR e).1.pa, pB (s.otherR e).2] ⟨s, e, rfl, hok, rfl⟩ ?_
      generalize s.otherR e = tr at *
      obtain ⟨u, b⟩ := tr
      have hw : IntKind.i64.wrap (u.count + 1) = u.count + 1 := wr64 (by simp only at hcnt; omega) (by simp only at hcnt; omega)
      cases b with
      | true =>
        simp only [↓evP, evB, stB, reduceIte, reduceCtorEq, Nat.reduceEqDiff, Nat.reduceAdd, Nat.reduceMul, Nat.reduceLeDiff, Nat.reduceLT, Nat.reduceSub, Nat.reduceBEq, hv, b1, b2, b3', b4, decide_true, decide_false, RSt.pa, RSt.row, hw, pr20]
      | false =>
        simp only [↓evP, evB, stB, reduceIte, reduceCtorEq, Nat.reduceEqDiff, Nat.reduceAdd, Nat.reduceMul, Nat.reduceLeDiff, Nat.reduceLT, Nat.reduceSub, Nat.reduceBEq, hv, b1, b2, b3', b4, decide_true, decide_false, RSt.pa, RSt.row, hw, pr20]
end Go.Proofs.Ytkdagjlkejefnaa
end
section
set_option linter.unusedSimpArgs false
set_option linter.unusedVariables false
namespace Go.Proofs.Ytkdagjlkejefnaa
open Go

/-- the state behind the possible events at the beginning -/
def RSt.aft (r : RSt) : List Ev → RSt
  | [] => r
  | e :: l => if (r.addR e).2 = true then (r.addR e).1.aft l else r
structure RAt (l : List Ev) (k : Nat) (r : RSt) (t : TS) : Prop where
  le : k ≤ l.length
  st : TS.new.steps (l.take k) = some t
  rl : Rel r t
  af : RSt.new.aft l = r.aft (l.drop k)
theorem RAt.zero (l : List Ev) : RAt l 0 RSt.new TS.new := ⟨Nat.zero_le _, rfl, Rel.new, rfl⟩
theorem RAt.wf {l : List Ev} {k : Nat} {r : RSt} {t : TS} (h : RAt l k r t) : t.wf := TS.steps_wf TS.wf_new h.st
theorem RAt.ok {l : List Ev} {k : Nat} {r : RSt} {t : TS} (h : RAt l k r t) : r.ok := h.rl.ok h.wf
theorem RAt.step {l : List Ev} {k : Nat} {r : RSt} {t : TS} (h : RAt l k r t) {e : Ev} (he : l[k]? = some e) :
    (∃ r' t', r.addR e = (r', true) ∧ t.add e = some t' ∧ RAt l (k + 1) r' t') ∨ (r.addR e = (r, false) ∧ chk l = k ∧ RSt.new.aft l = r) := by
  obtain ⟨hk, hx⟩ := List.getElem?_eq_some_iff.1 he
  have hs := h.rl.step h.wf e
  have hd : l.drop k = e :: l.drop (k + 1) := by rw [List.drop_eq_getElem_cons hk, hx]
  cases ha : t.add e with
  | some t' =>
    rw [ha] at hs
    obtain ⟨r', h1, h2⟩ := hs
    refine .inl ⟨r', t', h1, rfl, hk, ?_, h2, ?_⟩
    · rw [TS.steps_take_succ hk, h.st, hx]; exact ha
    · rw [h.af, hd, RSt.aft, h1]; rfl
  | none =>
    rw [ha] at hs
    refine .inr ⟨hs, TS.chk_of h.le h.st (fun e' he' => ?_), ?_⟩
    · rw [he] at he'; cases he'; exact ha
    · rw [h.af, hd, RSt.aft, hs]; rfl
theorem RAt.all {l : List Ev} {r : RSt} {t : TS} (h : RAt l l.length r t) : chk l = l.length ∧ RSt.new.aft l = r := by
  refine ⟨TS.chk_of (Nat.le_refl _) h.st (fun e he => ?_), ?_⟩
  · rw [List.getElem?_eq_none (Nat.le_refl _)] at he; cases he
  · rw [h.af, List.drop_length]; rfl
theorem Rel.open_next {r : RSt} {t : TS} (h : Rel r t) : t.isOpen = decide (0 < r.next.length) := by
  unfold TS.isOpen; rw [h.gp.kinds, List.length_map]
theorem RAt.whole {l : List Ev} {k : Nat} {r : RSt} {t : TS} (h : RAt l (k + 1) r t) : TS.new.wholeTo l (k + 1) = if r.next.length = 0 then k + 1 else TS.new.wholeTo l k := by
  simp only [TS.wholeTo, h.st]
  rw [h.rl.open_next]
  by_cases hn : r.next.length = 0
  · rw [if_pos hn, if_neg (by rw [hn]; decide)]
  · rw [if_neg hn, if_pos (decide_eq_true (by omega))]
/-- the state behind the possible events is the one that the program has there -/
theorem aft_rel (l : List Ev) : ∃ t, TS.new.steps (l.take (chk l)) = some t ∧ Rel (RSt.new.aft l) t := by
  suffices h : ∀ n k r t, RAt l k r t → l.length - k = n → ∃ t, TS.new.steps (l.take (chk l)) = some t ∧ Rel (RSt.new.aft l) t by
    exact h _ 0 _ _ (RAt.zero l) rfl
  intro n
  induction n with
  | zero =>
    intro k r t h hn
    have hk : k = l.length := by have := h.le; omega
    subst hk
    obtain ⟨h1, h2⟩ := h.all
    exact ⟨t, by rw [h1]; exact h.st, by rw [h2]; exact h.rl⟩
  | succ n ih =>
    intro k r t h hn
    obtain ⟨e, he⟩ : ∃ e, l[k]? = some e := ⟨_, List.getElem?_eq_getElem (show k < l.length by omega)⟩
    rcases h.step he with ⟨r', t', _, _, h'⟩ | ⟨_, h1, h2⟩
    · exact ih (k + 1) r' t' h' (by omega)
    · exact ⟨t, by rw [h1]; exact h.st, by rw [h2]; exact h.rl⟩
end Go.Proofs.Ytkdagjlkejefnaa
end
section
set_option linter.unusedSimpArgs false
set_option linter.unusedVariables false
namespace Go.Proofs.Ytkdagjlkejefnaa
open Go Go.RowKit
set_option maxRecDepth 100000
set_option maxHeartbeats 4000000

def R_rnew (ps rs : List Pa) : Prop := ps = [] ∧ rs = [RSt.new.pa]
theorem s_rnew : Spec Try.prog 19 R_rnew := by
  refine sp19 EnvOK.e0 ?_
  rintro ps rs ⟨rfl, rfl⟩
  refine ⟨by simp, ?_⟩
  unfold pc19
  refine pwp_start ?_
  simp only [↓evP, evB, stB, reduceIte, reduceCtorEq, Nat.reduceEqDiff, Nat.reduceAdd, Nat.reduceMul, Nat.reduceLeDiff, Nat.reduceLT, Nat.reduceSub, Nat.reduceBEq, RSt.pa, RSt.row, RSt.new, pr19]
def env_walk : Env := e1 19 R_rnew (e1 20 R_Add e0)
theorem env_walk_ok : EnvOK Try.prog env_walk := EnvOK.e1 s_rnew (EnvOK.e1 s_Add EnvOK.e0)

def R_rcheck (ps rs : List Pa) : Prop := ∃ l : List Ev, ps = [evsPa l] ∧ l.length ≤ 1000000 ∧ rs = [pI (chk l), pB (decide (chk l = l.length))]
theorem s_rcheck : Spec Try.prog 14 R_rcheck := by
  refine sp14 env_walk_ok ?_
  rintro ps rs ⟨l, rfl, hlen, rfl⟩
  refine ⟨by simp, ?_⟩
  unfold pc14
  refine pwp_start ?_
  simp only [↓evP, evB, stB, reduceIte, reduceCtorEq, Nat.reduceEqDiff, Nat.reduceAdd, Nat.reduceMul, Nat.reduceLeDiff, Nat.reduceLT, Nat.reduceSub, Nat.reduceBEq, evsPa, evsD]
  refine callOps_intro [RSt.new.pa] ⟨rfl, rfl⟩ ?_
  simp only [↓evP, evB, stB, reduceIte, reduceCtorEq, Nat.reduceEqDiff, Nat.reduceAdd, Nat.reduceMul, Nat.reduceLeDiff, Nat.reduceLT, Nat.reduceSub, Nat.reduceBEq, RSt.pa, RSt.row]
  refine pwp_loopW ms14_0 os14_0 (fun m st => ∃ k : Nat, ∃ r t, m = l.length - k ∧ RAt l k r t ∧ st.sl 5 = aI k ∧ st.gen 4 = 1 ∧ st.ob 4 = .cells (r.row.map .d)) l.length ?_ ?_
  · exact ⟨0, _, _, rfl, RAt.zero l, by simp only [stB, reduceIte, reduceCtorEq, Nat.reduceEqDiff, Nat.reduceAdd, Nat.reduceMul, Nat.reduceLeDiff, Nat.reduceLT, Nat.reduceSub, Nat.reduceBEq]; rfl, by simp only [stB, reduceIte, reduceCtorEq, Nat.reduceEqDiff, Nat.reduceAdd, Nat.reduceMul, Nat.reduceLeDiff, Nat.reduceLT, Nat.reduceSub, Nat.reduceBEq], by simp only [stB, reduceIte, reduceCtorEq, Nat.reduceEqDiff, Nat.reduceAdd, Nat.reduceMul, Nat.reduceLeDiff, Nat.reduceLT, Nat.reduceSub, Nat.reduceBEq, RSt.row]⟩
  · rintro m j ⟨k, r, t, rfl, hat, h5, g4, o4⟩
    simp only [stB, reduceIte, reduceCtorEq, Nat.reduceEqDiff, Nat.reduceAdd, Nat.reduceMul, Nat.reduceLeDiff, Nat.reduceLT, Nat.reduceSub, Nat.reduceBEq, RSt.row] at h5 g4 o4 
    have hk := hat.le
    rcases Nat.lt_or_ge k l.length with hlt | hge
    · obtain ⟨e, he⟩ : ∃ e, l[k]? = some e := ⟨_, List.getElem?_eq_getElem hlt⟩
      have hlt' : (k : Int) < (l.length : Int) := by omega
      simp only [↓evP, evB, stB, reduceIte, reduceCtorEq, Nat.reduceEqDiff, Nat.reduceAdd, Nat.reduceMul, Nat.reduceLeDiff, Nat.reduceLT, Nat.reduceSub, Nat.reduceBEq, h5, g4, o4, he, hlt', Ev.row]
      refine callD_intro [(r.addR e).1.pa, pB (r.addR e).2] ⟨r, e, rfl, hat.ok, rfl⟩ ?_
      rcases hat.step he with ⟨r', t', h1, _, hat'⟩ | ⟨h1, hc, haf⟩
      · rw [h1]
        simp only [↓evP, evB, stB, reduceIte, reduceCtorEq, Nat.reduceEqDiff, Nat.reduceAdd, Nat.reduceMul, Nat.reduceLeDiff, Nat.reduceLT, Nat.reduceSub, Nat.reduceBEq, h5, g4, o4, he, RSt.pa, RSt.row]
        refine ⟨(by unfold Drw; kernel_rfl), ?_⟩
        exact ⟨_, by omega, (by repeat' (first | assumption | exact within_over.mpr trivial | exact Within.refl _ _ _ | (refine within_ap ?_ rfl rfl) | (refine within_ap0 ?_ rfl))), k + 1, r', t', rfl, hat', by simp only [stB, reduceIte, reduceCtorEq, Nat.reduceEqDiff, Nat.reduceAdd, Nat.reduceMul, Nat.reduceLeDiff, Nat.reduceLT, Nat.reduceSub, Nat.reduceBEq, h5]; rw [wrN (by omega)], by simp only [stB, reduceIte, reduceCtorEq, Nat.reduceEqDiff, Nat.reduceAdd, Nat.reduceMul, Nat.reduceLeDiff, Nat.reduceLT, Nat.reduceSub, Nat.reduceBEq, g4], by simp only [stB, reduceIte, reduceCtorEq, Nat.reduceEqDiff, Nat.reduceAdd, Nat.reduceMul, Nat.reduceLeDiff, Nat.reduceLT, Nat.reduceSub, Nat.reduceBEq, o4, RSt.row]⟩
      · rw [h1]
        simp only [↓evP, evB, stB, reduceIte, reduceCtorEq, Nat.reduceEqDiff, Nat.reduceAdd, Nat.reduceMul, Nat.reduceLeDiff, Nat.reduceLT, Nat.reduceSub, Nat.reduceBEq, h5, g4, o4, he, RSt.pa, RSt.row, pr14]
        refine ⟨(by unfold Drw; kernel_rfl), ?_⟩
        rw [hc, decide_eq_false (by omega)]
    · have hkl : k = l.length := by omega
      subst hkl
      have hlt' : ¬ (l.length : Int) < (l.length : Int) := by omega
      simp only [↓evP, evB, stB, reduceIte, reduceCtorEq, Nat.reduceEqDiff, Nat.reduceAdd, Nat.reduceMul, Nat.reduceLeDiff, Nat.reduceLT, Nat.reduceSub, Nat.reduceBEq, h5, g4, o4, hlt', RSt.pa, RSt.row, pr14]
      rw [hat.all.1, decide_eq_true rfl]
def R_rafter (ps rs : List Pa) : Prop := ∃ l : List Ev, ps = [evsPa l] ∧ l.length ≤ 1000000 ∧ rs = [(RSt.new.aft l).pa]
theorem s_rafter : Spec Try.prog 48 R_rafter := by
  refine sp48 env_walk_ok ?_
  rintro ps rs ⟨l, rfl, hlen, rfl⟩
  refine ⟨by simp, ?_⟩
  unfold pc48
  refine pwp_start ?_
  simp only [↓evP, evB, stB, reduceIte, reduceCtorEq, Nat.reduceEqDiff, Nat.reduceAdd, Nat.reduceMul, Nat.reduceLeDiff, Nat.reduceLT, Nat.reduceSub, Nat.reduceBEq, evsPa, evsD]
  refine callOps_intro [RSt.new.pa] ⟨rfl, rfl⟩ ?_
  simp only [↓evP, evB, stB, reduceIte, reduceCtorEq, Nat.reduceEqDiff, Nat.reduceAdd, Nat.reduceMul, Nat.reduceLeDiff, Nat.reduceLT, Nat.reduceSub, Nat.reduceBEq, RSt.pa, RSt.row]
  refine pwp_loopW ms48_0 os48_0 (fun m st => ∃ k : Nat, ∃ r t, m = l.length - k ∧ RAt l k r t ∧ st.sl 4 = aI k ∧ st.gen 3 = 1 ∧ st.ob 3 = .cells (r.row.map .d) ∧ st.gen 2 = 1 ∧ st.ob 2 = .cells [.d (dI 0), .d (dI 0), .d (.sc (.slice none 0 0)), .d (.sc (.slice none 0 0)), .d (.sc (.slice none 0 0)), .d (.sc (.slice none 0 0)), .d (dI 0), .d (dI 0), .d (dI 0)]) l.length ?_ ?_
  · exact ⟨0, _, _, rfl, RAt.zero l, by simp only [stB, reduceIte, reduceCtorEq, Nat.reduceEqDiff, Nat.reduceAdd, Nat.reduceMul, Nat.reduceLeDiff, Nat.reduceLT, Nat.reduceSub, Nat.reduceBEq]; rfl, by simp only [stB, reduceIte, reduceCtorEq, Nat.reduceEqDiff, Nat.reduceAdd, Nat.reduceMul, Nat.reduceLeDiff, Nat.reduceLT, Nat.reduceSub, Nat.reduceBEq], by simp only [stB, reduceIte, reduceCtorEq, Nat.reduceEqDiff, Nat.reduceAdd, Nat.reduceMul, Nat.reduceLeDiff, Nat.reduceLT, Nat.reduceSub, Nat.reduceBEq, RSt.row], by simp only [stB, reduceIte, reduceCtorEq, Nat.reduceEqDiff, Nat.reduceAdd, Nat.reduceMul, Nat.reduceLeDiff, Nat.reduceLT, Nat.reduceSub, Nat.reduceBEq], by simp only [stB, reduceIte, reduceCtorEq, Nat.reduceEqDiff, Nat.reduceAdd, Nat.reduceMul, Nat.reduceLeDiff, Nat.reduceLT, Nat.reduceSub, Nat.reduceBEq]⟩
  · rintro m j ⟨k, r, t, rfl, hat, h5, g4, o4, g2, o2⟩
    simp only [stB, reduceIte, reduceCtorEq, Nat.reduceEqDiff, Nat.reduceAdd, Nat.reduceMul, Nat.reduceLeDiff, Nat.reduceLT, Nat.reduceSub, Nat.reduceBEq, RSt.row] at h5 g4 o4 g2 o2
    have hk := hat.le
    rcases Nat.lt_or_ge k l.length with hlt | hge
    · obtain ⟨e, he⟩ : ∃ e, l[k]? = some e := ⟨_, List.getElem?_eq_getElem hlt⟩
      have hlt' : (k : Int) < (l.length : Int) := by omega
      simp only [↓evP, evB, stB, reduceIte, reduceCtorEq, Nat.reduceEqDiff, Nat.reduceAdd, Nat.reduceMul, Nat.reduceLeDiff, Nat.reduceLT, Nat.reduceSub, Nat.reduceBEq, h5, g4, o4, he, hlt', g2, o2, Ev.row]
      refine callD_intro [(r.addR e).1.pa, pB (r.addR e).2] ⟨r, e, rfl, hat.ok, rfl⟩ ?_
      rcases hat.step he with ⟨r', t', h1, _, hat'⟩ | ⟨h1, hc, haf⟩
      · rw [h1]
        simp only [↓evP, evB, stB, reduceIte, reduceCtorEq, Nat.reduceEqDiff, Nat.reduceAdd, Nat.reduceMul, Nat.reduceLeDiff, Nat.reduceLT, Nat.reduceSub, Nat.reduceBEq, h5, g4, o4, he, RSt.pa, RSt.row]
        refine ⟨(by unfold Drw; kernel_rfl), ?_⟩
        exact ⟨_, by omega, (by repeat' (first | assumption | exact within_over.mpr trivial | exact Within.refl _ _ _ | (refine within_ap ?_ rfl rfl) | (refine within_ap0 ?_ rfl))), k + 1, r', t', rfl, hat', by simp only [stB, reduceIte, reduceCtorEq, Nat.reduceEqDiff, Nat.reduceAdd, Nat.reduceMul, Nat.reduceLeDiff, Nat.reduceLT, Nat.reduceSub, Nat.reduceBEq, h5]; rw [wrN (by omega)], by simp only [stB, reduceIte, reduceCtorEq, Nat.reduceEqDiff, Nat.reduceAdd, Nat.reduceMul, Nat.reduceLeDiff, Nat.reduceLT, Nat.reduceSub, Nat.reduceBEq, g4], by simp only [stB, reduceIte, reduceCtorEq, Nat.reduceEqDiff, Nat.reduceAdd, Nat.reduceMul, Nat.reduceLeDiff, Nat.reduceLT, Nat.reduceSub, Nat.reduceBEq, o4, RSt.row], by simp only [stB, reduceIte, reduceCtorEq, Nat.reduceEqDiff, Nat.reduceAdd, Nat.reduceMul, Nat.reduceLeDiff, Nat.reduceLT, Nat.reduceSub, Nat.reduceBEq, g2], by simp only [stB, reduceIte, reduceCtorEq, Nat.reduceEqDiff, Nat.reduceAdd, Nat.reduceMul, Nat.reduceLeDiff, Nat.reduceLT, Nat.reduceSub, Nat.reduceBEq, o2]⟩
      · rw [h1]
        simp only [↓evP, evB, stB, reduceIte, reduceCtorEq, Nat.reduceEqDiff, Nat.reduceAdd, Nat.reduceMul, Nat.reduceLeDiff, Nat.reduceLT, Nat.reduceSub, Nat.reduceBEq, h5, g4, o4, he, g2, o2, RSt.pa, RSt.row, pr48]
        refine ⟨(by unfold Drw; kernel_rfl), ?_⟩
        rw [haf]
    · have hkl : k = l.length := by omega
      subst hkl
      have hlt' : ¬ (l.length : Int) < (l.length : Int) := by omega
      simp only [↓evP, evB, stB, reduceIte, reduceCtorEq, Nat.reduceEqDiff, Nat.reduceAdd, Nat.reduceMul, Nat.reduceLeDiff, Nat.reduceLT, Nat.reduceSub, Nat.reduceBEq, h5, g4, o4, hlt', g2, o2, RSt.pa, RSt.row, pr48]
      rw [hat.all.2]
def R_rwhole (ps rs : List Pa) : Prop := ∃ l : List Ev, ps = [evsPa l] ∧ l.length ≤ 1000000 ∧ rs = [pI (wholeOf l)]
theorem s_rwhole : Spec Try.prog 24 R_rwhole := by
  refine sp24 env_walk_ok ?_
  rintro ps rs ⟨l, rfl, hlen, rfl⟩
  refine ⟨by simp, ?_⟩
  unfold pc24
  refine pwp_start ?_
  simp only [↓evP, evB, stB, reduceIte, reduceCtorEq, Nat.reduceEqDiff, Nat.reduceAdd, Nat.reduceMul, Nat.reduceLeDiff, Nat.reduceLT, Nat.reduceSub, Nat.reduceBEq, evsPa, evsD]
  refine callOps_intro [RSt.new.pa] ⟨rfl, rfl⟩ ?_
  simp only [↓evP, evB, stB, reduceIte, reduceCtorEq, Nat.reduceEqDiff, Nat.reduceAdd, Nat.reduceMul, Nat.reduceLeDiff, Nat.reduceLT, Nat.reduceSub, Nat.reduceBEq, RSt.pa, RSt.row]
  refine pwp_loopW ms24_0 os24_0 (fun m st => ∃ k : Nat, ∃ r t, m = l.length - k ∧ RAt l k r t ∧ st.sl 5 = aI k ∧ st.gen 3 = 1 ∧ st.ob 3 = .cells (r.row.map .d) ∧ st.sl 4 = aI (TS.new.wholeTo l k)) l.length ?_ ?_
  · exact ⟨0, _, _, rfl, RAt.zero l, by simp only [stB, reduceIte, reduceCtorEq, Nat.reduceEqDiff, Nat.reduceAdd, Nat.reduceMul, Nat.reduceLeDiff, Nat.reduceLT, Nat.reduceSub, Nat.reduceBEq]; rfl, by simp only [stB, reduceIte, reduceCtorEq, Nat.reduceEqDiff, Nat.reduceAdd, Nat.reduceMul, Nat.reduceLeDiff, Nat.reduceLT, Nat.reduceSub, Nat.reduceBEq], by simp only [stB, reduceIte, reduceCtorEq, Nat.reduceEqDiff, Nat.reduceAdd, Nat.reduceMul, Nat.reduceLeDiff, Nat.reduceLT, Nat.reduceSub, Nat.reduceBEq, RSt.row], by simp only [stB, reduceIte, reduceCtorEq, Nat.reduceEqDiff, Nat.reduceAdd, Nat.reduceMul, Nat.reduceLeDiff, Nat.reduceLT, Nat.reduceSub, Nat.reduceBEq]; rfl⟩
  · rintro m j ⟨k, r, t, rfl, hat, h5, g4, o4, hwh⟩
    simp only [stB, reduceIte, reduceCtorEq, Nat.reduceEqDiff, Nat.reduceAdd, Nat.reduceMul, Nat.reduceLeDiff, Nat.reduceLT, Nat.reduceSub, Nat.reduceBEq, RSt.row] at h5 g4 o4 hwh
    have hk := hat.le
    rcases Nat.lt_or_ge k l.length with hlt | hge
    · obtain ⟨e, he⟩ : ∃ e, l[k]? = some e := ⟨_, List.getElem?_eq_getElem hlt⟩
      have hlt' : (k : Int) < (l.length : Int) := by omega
      simp only [↓evP, evB, stB, reduceIte, reduceCtorEq, Nat.reduceEqDiff, Nat.reduceAdd, Nat.reduceMul, Nat.reduceLeDiff, Nat.reduceLT, Nat.reduceSub, Nat.reduceBEq, h5, g4, o4, he, hlt', hwh, Ev.row]
      refine callD_intro [(r.addR e).1.pa, pB (r.addR e).2] ⟨r, e, rfl, hat.ok, rfl⟩ ?_
      rcases hat.step he with ⟨r', t', h1, _, hat'⟩ | ⟨h1, hc, haf⟩
      · rw [h1]
        by_cases hn : r'.next.length = 0
        · have hw : TS.new.wholeTo l (k + 1) = k + 1 := by rw [hat'.whole, if_pos hn]
          have hn' : ((r'.next.length : Int) == 0) = true := by simp [hn]
          simp only [↓evP, evB, stB, reduceIte, reduceCtorEq, Nat.reduceEqDiff, Nat.reduceAdd, Nat.reduceMul, Nat.reduceLeDiff, Nat.reduceLT, Nat.reduceSub, Nat.reduceBEq, h5, g4, o4, he, RSt.pa, RSt.row, hn']
          refine ⟨(by unfold Drw; kernel_rfl), ?_⟩
          exact ⟨_, by omega, (by repeat' (first | assumption | exact within_over.mpr trivial | exact Within.refl _ _ _ | (refine within_ap ?_ rfl rfl) | (refine within_ap0 ?_ rfl))), k + 1, r', t', rfl, hat', by simp only [stB, reduceIte, reduceCtorEq, Nat.reduceEqDiff, Nat.reduceAdd, Nat.reduceMul, Nat.reduceLeDiff, Nat.reduceLT, Nat.reduceSub, Nat.reduceBEq, h5]; rw [wrN (by omega)], by simp only [stB, reduceIte, reduceCtorEq, Nat.reduceEqDiff, Nat.reduceAdd, Nat.reduceMul, Nat.reduceLeDiff, Nat.reduceLT, Nat.reduceSub, Nat.reduceBEq, g4], by simp only [stB, reduceIte, reduceCtorEq, Nat.reduceEqDiff, Nat.reduceAdd, Nat.reduceMul, Nat.reduceLeDiff, Nat.reduceLT, Nat.reduceSub, Nat.reduceBEq, o4, RSt.row], by simp only [stB, reduceIte, reduceCtorEq, Nat.reduceEqDiff, Nat.reduceAdd, Nat.reduceMul, Nat.reduceLeDiff, Nat.reduceLT, Nat.reduceSub, Nat.reduceBEq, hw]; rw [wrN (by omega)]⟩
        · have hw : TS.new.wholeTo l (k + 1) = TS.new.wholeTo l k := by rw [hat'.whole, if_neg hn]
          have hn' : ((r'.next.length : Int) == 0) = false := beq_eq_false_iff_ne.2 (by omega)
          simp only [↓evP, evB, stB, reduceIte, reduceCtorEq, Nat.reduceEqDiff, Nat.reduceAdd, Nat.reduceMul, Nat.reduceLeDiff, Nat.reduceLT, Nat.reduceSub, Nat.reduceBEq, h5, g4, o4, he, RSt.pa, RSt.row, hn']
          refine ⟨(by unfold Drw; kernel_rfl), ?_⟩
          exact ⟨_, by omega, (by repeat' (first | assumption | exact within_over.mpr trivial | exact Within.refl _ _ _ | (refine within_ap ?_ rfl rfl) | (refine within_ap0 ?_ rfl))), k + 1, r', t', rfl, hat', by simp only [stB, reduceIte, reduceCtorEq, Nat.reduceEqDiff, Nat.reduceAdd, Nat.reduceMul, Nat.reduceLeDiff, Nat.reduceLT, Nat.reduceSub, Nat.reduceBEq, h5]; rw [wrN (by omega)], by simp only [stB, reduceIte, reduceCtorEq, Nat.reduceEqDiff, Nat.reduceAdd, Nat.reduceMul, Nat.reduceLeDiff, Nat.reduceLT, Nat.reduceSub, Nat.reduceBEq, g4], by simp only [stB, reduceIte, reduceCtorEq, Nat.reduceEqDiff, Nat.reduceAdd, Nat.reduceMul, Nat.reduceLeDiff, Nat.reduceLT, Nat.reduceSub, Nat.reduceBEq, o4, RSt.row], by simp only [stB, reduceIte, reduceCtorEq, Nat.reduceEqDiff, Nat.reduceAdd, Nat.reduceMul, Nat.reduceLeDiff, Nat.reduceLT, Nat.reduceSub, Nat.reduceBEq, hw, hwh]⟩
      · rw [h1]
        simp only [↓evP, evB, stB, reduceIte, reduceCtorEq, Nat.reduceEqDiff, Nat.reduceAdd, Nat.reduceMul, Nat.reduceLeDiff, Nat.reduceLT, Nat.reduceSub, Nat.reduceBEq, h5, g4, o4, he, hwh, RSt.pa, RSt.row, pr24]
        refine ⟨(by unfold Drw; kernel_rfl), ?_⟩
        unfold wholeOf; rw [hc]
    · have hkl : k = l.length := by omega
      subst hkl
      have hlt' : ¬ (l.length : Int) < (l.length : Int) := by omega
      simp only [↓evP, evB, stB, reduceIte, reduceCtorEq, Nat.reduceEqDiff, Nat.reduceAdd, Nat.reduceMul, Nat.reduceLeDiff, Nat.reduceLT, Nat.reduceSub, Nat.reduceBEq, h5, g4, o4, hlt', hwh, RSt.pa, RSt.row, pr24]
      unfold wholeOf; rw [hat.all.1]
def R_rvalid (ps rs : List Pa) : Prop := ∃ l : List Ev, ps = [evsPa l] ∧ l.length ≤ 1000000 ∧ rs = [pB (decide (chk l = l.length))]
def env_rvalid : Env := e1 14 R_rcheck e0
theorem s_rvalid : Spec Try.prog 47 R_rvalid := by
  refine sp47 (show EnvOK Try.prog env_rvalid from EnvOK.e1 s_rcheck EnvOK.e0) ?_
  rintro ps rs ⟨l, rfl, hlen, rfl⟩
  refine ⟨by simp, ?_⟩
  unfold pc47
  refine pwp_start ?_
  simp only [↓evP, evB, stB, reduceIte, reduceCtorEq, Nat.reduceEqDiff, Nat.reduceAdd, Nat.reduceMul, Nat.reduceLeDiff, Nat.reduceLT, Nat.reduceSub, Nat.reduceBEq, evsPa, evsD]
  refine callOps_intro [pI (chk l), pB (decide (chk l = l.length))] ⟨l, rfl, hlen, rfl⟩ ?_
  simp only [↓evP, evB, stB, reduceIte, reduceCtorEq, Nat.reduceEqDiff, Nat.reduceAdd, Nat.reduceMul, Nat.reduceLeDiff, Nat.reduceLT, Nat.reduceSub, Nat.reduceBEq, pr47]
def gorOf (l : List Ev) : Int := if chk l = l.length then (RSt.new.aft l).gor else 0
def R_rgor (ps rs : List Pa) : Prop := ∃ l : List Ev, ps = [evsPa l] ∧ l.length ≤ 1000000 ∧ rs = [pI (gorOf l)]
def env_rgor : Env := e1 47 R_rvalid (e1 48 R_rafter e0)
theorem s_rgor : Spec Try.prog 26 R_rgor := by
  refine sp26 (show EnvOK Try.prog env_rgor from EnvOK.e1 s_rvalid (EnvOK.e1 s_rafter EnvOK.e0)) ?_
  rintro ps rs ⟨l, rfl, hlen, rfl⟩
  refine ⟨by simp, ?_⟩
  unfold pc26
  refine pwp_start ?_
  simp only [↓evP, evB, stB, reduceIte, reduceCtorEq, Nat.reduceEqDiff, Nat.reduceAdd, Nat.reduceMul, Nat.reduceLeDiff, Nat.reduceLT, Nat.reduceSub, Nat.reduceBEq, evsPa, evsD]
  refine callOps_intro [pB (decide (chk l = l.length))] ⟨l, rfl, hlen, rfl⟩ ?_
  unfold gorOf
  by_cases h : chk l = l.length
  · simp only [↓evP, evB, stB, reduceIte, reduceCtorEq, Nat.reduceEqDiff, Nat.reduceAdd, Nat.reduceMul, Nat.reduceLeDiff, Nat.reduceLT, Nat.reduceSub, Nat.reduceBEq, h, decide_true]
    refine callOps_intro [(RSt.new.aft l).pa] ⟨l, rfl, hlen, rfl⟩ ?_
    simp only [↓evP, evB, stB, reduceIte, reduceCtorEq, Nat.reduceEqDiff, Nat.reduceAdd, Nat.reduceMul, Nat.reduceLeDiff, Nat.reduceLT, Nat.reduceSub, Nat.reduceBEq, RSt.pa, RSt.row, pr26]
  · simp only [↓evP, evB, stB, reduceIte, reduceCtorEq, Nat.reduceEqDiff, Nat.reduceAdd, Nat.reduceMul, Nat.reduceLeDiff, Nat.reduceLT, Nat.reduceSub, Nat.reduceBEq, h, decide_false, pr26]
end Go.Proofs.Ytkdagjlkejefnaa
end
section
set_option linter.unusedSimpArgs false
set_option linter.unusedVariables false
namespace Go.Proofs.Ytkdagjlkejefnaa
open Go Go.RowKit
set_option maxRecDepth 100000
set_option maxHeartbeats 4000000

theorem s_tCheck : Spec Try.prog 13 R_rcheck := by
  rintro ps rs ⟨l, rfl, hl, rfl⟩ S w vals _ hv
  obtain ⟨u, rfl, h1⟩ := hv.one
  refine (check_any w u l (RD.evs h1) hl).mono ?_
  rintro r w' ⟨rfl, h4⟩
  exact ⟨_, S, rfl, ⟨_, rfl, RPs.mk2 (RP.mkInt _) (RP.mkBool _)⟩, h4, fun _ _ => rfl⟩
theorem s_tValid : Spec Try.prog 15 R_rvalid := by
  rintro ps rs ⟨l, rfl, hl, rfl⟩ S w vals _ hv
  obtain ⟨u, rfl, h1⟩ := hv.one
  refine (valid_any w u l (RD.evs h1) hl).mono ?_
  rintro r w' ⟨rfl, h4⟩
  exact ⟨_, S, rfl, RP.mkBool _, h4, fun _ _ => rfl⟩
theorem s_tWhole : Spec Try.prog 17 R_rwhole := by
  rintro ps rs ⟨l, rfl, hl, rfl⟩ S w vals _ hv
  obtain ⟨u, rfl, h1⟩ := hv.one
  refine (whole_any w u l (RD.evs h1) hl).mono ?_
  rintro r w' ⟨rfl, h4⟩
  exact ⟨_, S, rfl, RP.mkInt _, h4, fun _ _ => rfl⟩
theorem s_tGor : Spec Try.prog 25 R_rgor := by
  rintro ps rs ⟨l, rfl, hl, rfl⟩ S w vals _ hv
  obtain ⟨u, rfl, h1⟩ := hv.one
  refine (goroutines_any w u l (RD.evs h1) hl).mono ?_
  rintro r w' ⟨t, ht, rfl, h4⟩
  obtain ⟨t', ht', hr⟩ := aft_rel l
  rw [ht] at ht'; cases ht'
  have hg : gorOf l = if chk l = l.length then t.gor else 0 := by unfold gorOf; rw [hr.gr]
  rw [hg]
  exact ⟨_, S, rfl, RP.mkInt _, h4, fun _ _ => rfl⟩

def R_tcheck (ps rs : List Pa) : Prop := ∃ l : List Ev, ps = [evsPa l] ∧ rs = [pB true]
def env_tcheck : Env := e1 12 R_awake (e1 13 R_rcheck (e1 14 R_rcheck (e1 15 R_rvalid e0)))
theorem env_tcheck_ok : EnvOK Try.prog env_tcheck := EnvOK.e1 s_awake (EnvOK.e1 s_tCheck (EnvOK.e1 s_rcheck (EnvOK.e1 s_tValid EnvOK.e0)))
theorem s_tcheck : Spec Try.prog 3 R_tcheck := by
  refine sp3 env_tcheck_ok ?_
  rintro ps rs ⟨l, rfl, rfl⟩
  refine ⟨by simp, ?_⟩
  unfold pc3
  refine pwp_start ?_
  simp only [↓evP, evB, stB, reduceIte, reduceCtorEq, Nat.reduceEqDiff, Nat.reduceAdd, Nat.reduceMul, Nat.reduceLeDiff, Nat.reduceLT, Nat.reduceSub, Nat.reduceBEq, evsPa, evsD]
  refine callOps_intro [pB true] ⟨rfl, rfl⟩ ?_
  simp only [↓evP, evB, stB, reduceIte, reduceCtorEq, Nat.reduceEqDiff, Nat.reduceAdd, Nat.reduceMul, Nat.reduceLeDiff, Nat.reduceLT, Nat.reduceSub, Nat.reduceBEq, pr3]
  refine fun hlen => ?_
  have hl : l.length ≤ 1000000 := by omega
  refine callOps_intro [pI (chk l), pB (decide (chk l = l.length))] ⟨l, rfl, hl, rfl⟩ ?_
  simp only [↓evP, evB, stB, reduceIte, reduceCtorEq, Nat.reduceEqDiff, Nat.reduceAdd, Nat.reduceMul, Nat.reduceLeDiff, Nat.reduceLT, Nat.reduceSub, Nat.reduceBEq]
  refine callOps_intro [pI (chk l), pB (decide (chk l = l.length))] ⟨l, rfl, hl, rfl⟩ ?_
  simp only [↓evP, evB, stB, reduceIte, reduceCtorEq, Nat.reduceEqDiff, Nat.reduceAdd, Nat.reduceMul, Nat.reduceLeDiff, Nat.reduceLT, Nat.reduceSub, Nat.reduceBEq, beq_self_eq_true]
  refine callOps_intro [pB (decide (chk l = l.length))] ⟨l, rfl, hl, rfl⟩ ?_
  simp only [↓evP, evB, stB, reduceIte, reduceCtorEq, Nat.reduceEqDiff, Nat.reduceAdd, Nat.reduceMul, Nat.reduceLeDiff, Nat.reduceLT, Nat.reduceSub, Nat.reduceBEq, beq_self_eq_true]

def env_twhole : Env := e1 12 R_awake (e1 17 R_rwhole (e1 24 R_rwhole (e1 25 R_rgor (e1 26 R_rgor e0))))
theorem env_twhole_ok : EnvOK Try.prog env_twhole := EnvOK.e1 s_awake (EnvOK.e1 s_tWhole (EnvOK.e1 s_rwhole (EnvOK.e1 s_tGor (EnvOK.e1 s_rgor EnvOK.e0))))
theorem s_twhole : Spec Try.prog 9 R_tcheck := by
  refine sp9 env_twhole_ok ?_
  rintro ps rs ⟨l, rfl, rfl⟩
  refine ⟨by simp, ?_⟩
  unfold pc9
  refine pwp_start ?_
  simp only [↓evP, evB, stB, reduceIte, reduceCtorEq, Nat.reduceEqDiff, Nat.reduceAdd, Nat.reduceMul, Nat.reduceLeDiff, Nat.reduceLT, Nat.reduceSub, Nat.reduceBEq, evsPa, evsD]
  refine callOps_intro [pB true] ⟨rfl, rfl⟩ ?_
  simp only [↓evP, evB, stB, reduceIte, reduceCtorEq, Nat.reduceEqDiff, Nat.reduceAdd, Nat.reduceMul, Nat.reduceLeDiff, Nat.reduceLT, Nat.reduceSub, Nat.reduceBEq, pr9]
  refine fun hlen => ?_
  have hl : l.length ≤ 1000000 := by omega
  refine callOps_intro [pI (wholeOf l)] ⟨l, rfl, hl, rfl⟩ ?_
  simp only [↓evP, evB, stB, reduceIte, reduceCtorEq, Nat.reduceEqDiff, Nat.reduceAdd, Nat.reduceMul, Nat.reduceLeDiff, Nat.reduceLT, Nat.reduceSub, Nat.reduceBEq]
  refine callOps_intro [pI (wholeOf l)] ⟨l, rfl, hl, rfl⟩ ?_
  simp only [↓evP, evB, stB, reduceIte, reduceCtorEq, Nat.reduceEqDiff, Nat.reduceAdd, Nat.reduceMul, Nat.reduceLeDiff, Nat.reduceLT, Nat.reduceSub, Nat.reduceBEq, beq_self_eq_true]
  refine callOps_intro [pI (gorOf l)] ⟨l, rfl, hl, rfl⟩ ?_
  simp only [↓evP, evB, stB, reduceIte, reduceCtorEq, Nat.reduceEqDiff, Nat.reduceAdd, Nat.reduceMul, Nat.reduceLeDiff, Nat.reduceLT, Nat.reduceSub, Nat.reduceBEq]
  refine callOps_intro [pI (gorOf l)] ⟨l, rfl, hl, rfl⟩ ?_
  simp only [↓evP, evB, stB, reduceIte, reduceCtorEq, Nat.reduceEqDiff, Nat.reduceAdd, Nat.reduceMul, Nat.reduceLeDiff, Nat.reduceLT, Nat.reduceSub, Nat.reduceBEq, beq_self_eq_true]
end Go.Proofs.Ytkdagjlkejefnaa
end
section
namespace Go.Proofs.Ytkdagjlkejefnaa
open Go Go.RowKit
set_option linter.unusedSimpArgs false
set_option linter.unusedVariables false
set_option maxRecDepth 100000

/-! (interleave/interleaveref30.State).try -/
def pch34c0 : PC :=
 .seq (.reg false [⟨(some 173), .fld 2 (.t 12), none, []⟩,
                   ⟨(some 174), .load none (.t 173), none, [0]⟩,
                   ⟨(some 17), .mv (.t 174), none, [1, 0, 1]⟩])
              (.seq (.reg true [⟨(some 175), .load (some 9) (.t 7), none, []⟩,
                    ⟨(some 176), .mv (.t 17), none, []⟩,
                    ⟨(some 177), .call 56 [(.t 175), (.v (.int .i64 15)), (.t 176)], none, [0, 1]⟩,
                    ⟨(some 178), .load (some 9) (.t 7), none, []⟩,
                    ⟨(some 179), .mv (.t 17), none, []⟩,
                    ⟨(some 180), .call 56 [(.t 178), (.v (.int .i64 16)), (.t 179)], none, [3, 4, 2]⟩,
                    ⟨(some 181), .bslice 31 9 [(.int .i64 0), (.int .i64 0), (.int .i64 0), (.int .i64 0), (.int .i64 0), (.int .i64 0), (.int .i64 0), (.int .i64 0), (.int .i64 0), (.int .i64 0), (.int .i64 0), (.int .i64 0), (.int .i64 0), (.int .i64 0), (.int .i64 0), (.int .i64 0), (.int .i64 0), (.int .i64 0)] 2 [(0, 9, (.t 177)), (9, 9, (.t 180))], none, [2, 5]⟩,
                    ⟨(some 18), .mv (.t 181), none, [6, 5, 0, 1, 2, 3, 4, 5, 6]⟩])
               (.seq (.reg true [⟨(some 182), .load (some 9) (.t 7), none, []⟩,
                     ⟨(some 183), .mv (.t 17), none, []⟩,
                     ⟨(some 184), .call 56 [(.t 182), (.v (.int .i64 15)), (.t 183)], none, [0, 1]⟩,
                     ⟨(some 185), .load (some 9) (.t 13), none, []⟩,
                     ⟨(some 186), .mv (.t 17), none, []⟩,
                     ⟨(some 187), .call 56 [(.t 185), (.v (.int .i64 17)), (.t 186)], none, [3, 4, 2]⟩,
                     ⟨(some 188), .load (some 9) (.t 13), none, []⟩,
                     ⟨(some 189), .mv (.t 17), none, []⟩,
                     ⟨(some 190), .call 56 [(.t 188), (.v (.int .i64 18)), (.t 189)], none, [6, 7, 5]⟩,
                     ⟨(some 191), .load (some 9) (.t 7), none, []⟩,
                     ⟨(some 192), .mv (.t 17), none, []⟩,
                     ⟨(some 193), .call 56 [(.t 191), (.v (.int .i64 16)), (.t 192)], none, [9, 10, 8]⟩,
                     ⟨(some 194), .bslice 31 9 [(.int .i64 0), (.int .i64 0), (.int .i64 0), (.int .i64 0), (.int .i64 0), (.int .i64 0), (.int .i64 0), (.int .i64 0), (.int .i64 0), (.int .i64 0), (.int .i64 0), (.int .i64 0), (.int .i64 0), (.int .i64 0), (.int .i64 0), (.int .i64 0), (.int .i64 0), (.int .i64 0), (.int .i64 0), (.int .i64 0), (.int .i64 0), (.int .i64 0), (.int .i64 0), (.int .i64 0), (.int .i64 0), (.int .i64 0), (.int .i64 0), (.int .i64 0), (.int .i64 0), (.int .i64 0), (.int .i64 0), (.int .i64 0), (.int .i64 0), (.int .i64 0), (.int .i64 0), (.int .i64 0)] 4 [(0, 9, (.t 184)), (9, 9, (.t 187)), (18, 9, (.t 190)), (27, 9, (.t 193))], none, [2, 5, 8, 11]⟩,
                     ⟨(some 19), .mv (.t 194), none, [12, 11, 0, 1, 2, 3, 4, 5, 6, 7, 8, 9, 10, 11, 12]⟩])
                (.seq (.reg false [⟨(some 195), .mv (.t 18), none, []⟩,
                      ⟨(some 196), .mv (.t 19), none, []⟩,
                      ⟨(some 197), .bslice 22 1 [(.slice none 0 0), (.slice none 0 0)] 2 [(0, 1, (.t 195)), (1, 1, (.t 196))], none, [0, 1]⟩,
                      ⟨(some 6), .mv (.t 197), none, [2, 0, 1, 2]⟩])
                 (.ret))))
def pch34c1 : PC :=
 .seq (.reg false [⟨(some 148), .fld 3 (.t 12), none, []⟩,
                      ⟨(some 149), .load none (.t 148), none, [0]⟩,
                      ⟨(some 14), .mv (.t 149), none, [1, 0, 1]⟩])
                 (.seq (.reg true [⟨(some 150), .load (some 9) (.t 7), none, []⟩,
                       ⟨(some 151), .mv (.t 14), none, []⟩,
                       ⟨(some 152), .call 56 [(.t 150), (.v (.int .i64 17)), (.t 151)], none, [0, 1]⟩,
                       ⟨(some 153), .load (some 9) (.t 7), none, []⟩,
                       ⟨(some 154), .mv (.t 14), none, []⟩,
                       ⟨(some 155), .call 56 [(.t 153), (.v (.int .i64 18)), (.t 154)], none, [3, 4, 2]⟩,
                       ⟨(some 156), .bslice 31 9 [(.int .i64 0), (.int .i64 0), (.int .i64 0), (.int .i64 0), (.int .i64 0), (.int .i64 0), (.int .i64 0), (.int .i64 0), (.int .i64 0), (.int .i64 0), (.int .i64 0), (.int .i64 0), (.int .i64 0), (.int .i64 0), (.int .i64 0), (.int .i64 0), (.int .i64 0), (.int .i64 0)] 2 [(0, 9, (.t 152)), (9, 9, (.t 155))], none, [2, 5]⟩,
                       ⟨(some 15), .mv (.t 156), none, [6, 5, 0, 1, 2, 3, 4, 5, 6]⟩])
                  (.seq (.reg true [⟨(some 157), .load (some 9) (.t 7), none, []⟩,
                        ⟨(some 158), .mv (.t 14), none, []⟩,
                        ⟨(some 159), .call 56 [(.t 157), (.v (.int .i64 17)), (.t 158)], none, [0, 1]⟩,
                        ⟨(some 160), .load (some 9) (.t 13), none, []⟩,
                        ⟨(some 161), .mv (.t 14), none, []⟩,
                        ⟨(some 162), .call 56 [(.t 160), (.v (.int .i64 15)), (.t 161)], none, [3, 4, 2]⟩,
                        ⟨(some 163), .load (some 9) (.t 7), none, []⟩,
                        ⟨(some 164), .mv (.t 14), none, []⟩,
                        ⟨(some 165), .call 56 [(.t 163), (.v (.int .i64 18)), (.t 164)], none, [6, 7, 5]⟩,
                        ⟨(some 166), .load (some 9) (.t 13), none, []⟩,
                        ⟨(some 167), .mv (.t 14), none, []⟩,
                        ⟨(some 168), .call 56 [(.t 166), (.v (.int .i64 16)), (.t 167)], none, [9, 10, 8]⟩,
                        ⟨(some 169), .bslice 31 9 [(.int .i64 0), (.int .i64 0), (.int .i64 0), (.int .i64 0), (.int .i64 0), (.int .i64 0), (.int .i64 0), (.int .i64 0), (.int .i64 0), (.int .i64 0), (.int .i64 0), (.int .i64 0), (.int .i64 0), (.int .i64 0), (.int .i64 0), (.int .i64 0), (.int .i64 0), (.int .i64 0), (.int .i64 0), (.int .i64 0), (.int .i64 0), (.int .i64 0), (.int .i64 0), (.int .i64 0), (.int .i64 0), (.int .i64 0), (.int .i64 0), (.int .i64 0), (.int .i64 0), (.int .i64 0), (.int .i64 0), (.int .i64 0), (.int .i64 0), (.int .i64 0), (.int .i64 0), (.int .i64 0)] 4 [(0, 9, (.t 159)), (9, 9, (.t 162)), (18, 9, (.t 165)), (27, 9, (.t 168))], none, [2, 5, 8, 11]⟩,
                        ⟨(some 16), .mv (.t 169), none, [12, 11, 0, 1, 2, 3, 4, 5, 6, 7, 8, 9, 10, 11, 12]⟩])
                   (.seq (.reg false [⟨(some 170), .mv (.t 15), none, []⟩,
                         ⟨(some 171), .mv (.t 16), none, []⟩,
                         ⟨(some 172), .bslice 22 1 [(.slice none 0 0), (.slice none 0 0)] 2 [(0, 1, (.t 170)), (1, 1, (.t 171))], none, [0, 1]⟩,
                         ⟨(some 6), .mv (.t 172), none, [2, 0, 1, 2]⟩])
                    (.ret))))
def pch34c2 : PC :=
 .seq (.reg false [⟨(some 146), .mv (.t 9), none, []⟩,
                   ⟨(some 147), .bin .geq (.t 146) (.v (.int .i64 17)), none, [0]⟩])
              (.cond (.t 147)
                (pch34c1)
                (.skip))
def pch34c3 : PC :=
 .seq (pch34c2)
             (pch34c0)
def pch34c4 : PC :=
 .seq (.reg true [⟨(some 129), .mv (.t 2), none, []⟩,
                     ⟨(some 130), .bin .add (.t 129) (.v (.int .i64 1)), none, [0]⟩,
                     ⟨(some 131), .fld 4 (.t 4), none, []⟩,
                     ⟨(some 132), .load none (.t 131), none, [2]⟩,
                     ⟨(some 133), .fld 1 (.t 3), none, []⟩,
                     ⟨(some 134), .load none (.t 133), none, [4]⟩,
                     ⟨(some 135), .bin .sub (.t 134) (.v (.int .i64 1)), none, [5]⟩,
                     ⟨(some 136), .call 35 [(.t 132), (.t 135)], none, [3, 6]⟩,
                     ⟨(some 137), .bin .add (.t 130) (.t 136), none, [1, 7]⟩,
                     ⟨(some 138), .fld 1 (.t 3), none, []⟩,
                     ⟨(some 139), .load none (.t 138), none, [9]⟩,
                     ⟨(some 140), .bin .rem (.t 137) (.t 139), none, [8, 10]⟩,
                     ⟨(some 141), .fld 0 (.t 13), none, [0, 1, 2, 3, 4, 5, 6, 7, 8, 9, 10, 11]⟩,
                     ⟨none, .store 1 (.t 141) (.t 140), none, [12, 11, 7, 0, 1, 2, 3, 4, 5, 6, 7, 8, 9, 10, 11]⟩])
                (.reg false [⟨(some 142), .fld 7 (.t 13), none, []⟩,
                     ⟨(some 143), .load none (.t 142), none, [0]⟩,
                     ⟨(some 144), .bin .add (.t 143) (.v (.int .i64 1)), none, [1]⟩,
                     ⟨(some 145), .fld 7 (.t 13), none, [0, 1, 2]⟩,
                     ⟨none, .store 1 (.t 145) (.t 144), none, [3, 2, 0, 1, 2]⟩])
def pch34c5 : PC :=
 .seq (.reg true [⟨(some 104), .load (some 9) (.t 3), none, []⟩,
            ⟨(some 105), .mv (.t 8), none, []⟩,
            ⟨(some 106), .call 35 [(.t 105), (.v (.int .i64 3))], none, [1]⟩,
            ⟨(some 107), .bin .add (.v (.int .i64 30)) (.t 106), none, [2]⟩,
            ⟨(some 108), .mv (.t 8), none, []⟩,
            ⟨(some 109), .call 35 [(.t 108), (.v (.int .i64 3))], none, [4, 2]⟩,
            ⟨(some 110), .call 55 [(.t 104), (.t 107), (.t 109)], none, [0, 3, 5, 5]⟩,
            ⟨(some 12), .new [(.int .i64 0), (.int .i64 0), (.int .i64 0), (.int .i64 0), (.bool false)], none, []⟩,
            ⟨none, .store 5 (.t 12) (.t 110), none, [7, 6, 6, 0, 1, 2, 3, 4, 5, 6, 7]⟩])
       (.seq (.reg false [⟨(some 111), .fld 1 (.t 12), none, []⟩,
             ⟨(some 112), .load none (.t 111), none, [0]⟩,
             ⟨(some 113), .fld 5 (.t 7), none, [0, 1]⟩,
             ⟨none, .store 1 (.t 113) (.t 112), none, [2, 1, 0, 1]⟩])
        (.seq (.seq (.reg false [⟨(some 114), .mv (.t 9), none, []⟩,
               ⟨(some 115), .bin .geq (.t 114) (.v (.int .i64 19)), none, [0]⟩])
          (.cond (.t 115)
            (.seq (.reg false [⟨(some 116), .load (some 9) (.t 7), none, []⟩,
                  ⟨(some 117), .mv (.t 9), none, []⟩,
                  ⟨(some 118), .fld 0 (.t 12), none, []⟩,
                  ⟨(some 119), .load none (.t 118), none, [2]⟩,
                  ⟨(some 120), .call 54 [(.t 116), (.t 117), (.t 119), (.v (.int .i64 0))], none, [0, 1, 3]⟩,
                  ⟨(some 121), .bslice 22 1 [(.slice none 0 0)] 1 [(0, 1, (.t 120))], none, [4]⟩,
                  ⟨(some 6), .mv (.t 121), none, [5, 4, 0, 1, 2, 3, 4, 5]⟩])
             (.ret))
            (.skip)))
         (.seq (.reg false [⟨(some 122), .fld 0 (.t 12), none, []⟩,
               ⟨(some 123), .load none (.t 122), none, [0]⟩,
               ⟨(some 124), .fld 2 (.t 7), none, [0, 1]⟩,
               ⟨none, .store 1 (.t 124) (.t 123), none, [2, 1, 0, 1]⟩])
          (.seq (.reg false [⟨(some 125), .load (some 9) (.t 7), none, []⟩,
                ⟨(some 13), .new [(.int .i64 0), (.int .i64 0), (.int .i64 0), (.int .i64 0), (.int .i64 0), (.int .i64 0), (.int .i64 0), (.int .i64 0), (.int .i64 0)], none, []⟩,
                ⟨none, .store 9 (.t 13) (.t 125), none, [1, 0, 0, 1]⟩])
           (.seq (.seq (.reg false [⟨(some 126), .fld 1 (.t 3), none, []⟩,
                  ⟨(some 127), .load none (.t 126), none, [0]⟩,
                  ⟨(some 128), .bin .gtr (.t 127) (.v (.int .i64 1)), none, [1]⟩])
             (.cond (.t 128)
               (pch34c4)
               (.skip)))
            (pch34c3))))))
def pch34c6 : PC :=
 .seq (.reg true [⟨(some 42), .load (some 9) (.t 7), none, []⟩,
                 ⟨(some 43), .mv (.t 9), none, []⟩,
                 ⟨(some 44), .mv (.t 8), none, []⟩,
                 ⟨(some 45), .fld 3 (.t 4), none, []⟩,
                 ⟨(some 46), .load none (.t 45), none, [3]⟩,
                 ⟨(some 47), .call 35 [(.t 46), (.v (.int .i64 2))], none, [4]⟩,
                 ⟨(some 48), .call 54 [(.t 42), (.t 43), (.t 44), (.t 47)], none, [0, 1, 2, 5, 5]⟩,
                 ⟨(some 49), .bslice 22 1 [(.slice none 0 0)] 1 [(0, 1, (.t 48))], none, [6]⟩,
                 ⟨(some 6), .mv (.t 49), none, [7, 6, 0, 1, 2, 3, 4, 5, 6, 7]⟩])
            (.ret)
def pch34c7 : PC :=
 .seq (.reg true [⟨(some 54), .load (some 9) (.t 7), none, []⟩,
                    ⟨(some 55), .mv (.t 9), none, []⟩,
                    ⟨(some 56), .mv (.t 8), none, []⟩,
                    ⟨(some 57), .call 35 [(.t 56), (.v (.int .i64 2))], none, [2]⟩,
                    ⟨(some 58), .bin .add (.v (.int .i64 6)) (.t 57), none, [3]⟩,
                    ⟨(some 59), .call 54 [(.t 54), (.t 55), (.t 58), (.v (.int .i64 0))], none, [0, 1, 4, 3]⟩,
                    ⟨(some 60), .bslice 22 1 [(.slice none 0 0)] 1 [(0, 1, (.t 59))], none, [5]⟩,
                    ⟨(some 6), .mv (.t 60), none, [6, 5, 0, 1, 2, 3, 4, 5, 6]⟩])
               (.ret)
def pch34c8 : PC :=
 .seq (.reg false [⟨(some 66), .mv (.t 8), none, []⟩,
                       ⟨(some 67), .call 35 [(.t 66), (.v (.int .i64 2))], none, [0]⟩,
                       ⟨(some 68), .bin .add (.v (.int .i64 10)) (.t 67), none, [1]⟩,
                       ⟨(some 10), .mv (.t 68), none, [2, 1, 0, 1, 2]⟩])
                  (.seq (.reg true [⟨(some 69), .load (some 9) (.t 7), none, []⟩,
                        ⟨(some 70), .mv (.t 9), none, []⟩,
                        ⟨(some 71), .mv (.t 10), none, []⟩,
                        ⟨(some 72), .call 54 [(.t 69), (.t 70), (.t 71), (.v (.int .i64 0))], none, [0, 1, 2]⟩,
                        ⟨(some 73), .load (some 9) (.t 7), none, []⟩,
                        ⟨(some 74), .mv (.t 10), none, []⟩,
                        ⟨(some 75), .call 54 [(.t 73), (.v (.int .i64 7)), (.t 74), (.v (.int .i64 0))], none, [4, 5, 3]⟩,
                        ⟨(some 76), .load (some 9) (.t 7), none, []⟩,
                        ⟨(some 77), .mv (.t 10), none, []⟩,
                        ⟨(some 78), .call 54 [(.t 76), (.v (.int .i64 9)), (.t 77), (.v (.int .i64 0))], none, [7, 8, 6]⟩,
                        ⟨(some 79), .bslice 22 1 [(.slice none 0 0), (.slice none 0 0), (.slice none 0 0)] 3 [(0, 1, (.t 72)), (1, 1, (.t 75)), (2, 1, (.t 78))], none, [3, 6, 9]⟩,
                        ⟨(some 6), .mv (.t 79), none, [10, 9, 0, 1, 2, 3, 4, 5, 6, 7, 8, 9, 10]⟩])
                   (.ret))
def pch34c9 : PC :=
 .seq (.reg false [⟨(some 83), .mv (.t 8), none, []⟩,
                          ⟨(some 84), .call 35 [(.t 83), (.v (.int .i64 2))], none, [0]⟩,
                          ⟨(some 85), .bin .add (.v (.int .i64 20)) (.t 84), none, [1]⟩,
                          ⟨(some 11), .mv (.t 85), none, [2, 1, 0, 1, 2]⟩])
                     (.seq (.reg true [⟨(some 86), .load (some 9) (.t 7), none, []⟩,
                           ⟨(some 87), .mv (.t 9), none, []⟩,
                           ⟨(some 88), .mv (.t 11), none, []⟩,
                           ⟨(some 89), .call 54 [(.t 86), (.t 87), (.t 88), (.v (.int .i64 0))], none, [0, 1, 2]⟩,
                           ⟨(some 90), .load (some 9) (.t 7), none, []⟩,
                           ⟨(some 91), .mv (.t 9), none, []⟩,
                           ⟨(some 92), .bin .sub (.v (.int .i64 25)) (.t 91), none, [5]⟩,
                           ⟨(some 93), .mv (.t 11), none, []⟩,
                           ⟨(some 94), .call 54 [(.t 90), (.t 92), (.t 93), (.v (.int .i64 0))], none, [4, 6, 7, 3]⟩,
                           ⟨(some 95), .bslice 22 1 [(.slice none 0 0), (.slice none 0 0)] 2 [(0, 1, (.t 89)), (1, 1, (.t 94))], none, [3, 8]⟩,
                           ⟨(some 6), .mv (.t 95), none, [9, 8, 0, 1, 2, 3, 4, 5, 6, 7, 8, 9]⟩])
                      (.ret))
def pch34c10 : PC :=
 .seq (.reg false [⟨(some 98), .fld 1 (.t 3), none, []⟩,
                             ⟨(some 99), .load none (.t 98), none, [0]⟩,
                             ⟨(some 100), .fld 4 (.t 7), none, [0, 1]⟩,
                             ⟨none, .store 1 (.t 100) (.t 99), none, [2, 1, 0, 1]⟩])
                        (.seq (.reg false [⟨(some 101), .load (some 9) (.t 7), none, []⟩,
                              ⟨(some 102), .call 54 [(.t 101), (.v (.int .i64 14)), (.v (.int .i64 0)), (.v (.int .i64 0))], none, [0]⟩,
                              ⟨(some 103), .bslice 22 1 [(.slice none 0 0)] 1 [(0, 1, (.t 102))], none, [1]⟩,
                              ⟨(some 6), .mv (.t 103), none, [2, 1, 0, 1, 2]⟩])
                         (.ret))
def pch34c11 : PC :=
 .seq (.reg false [⟨(some 97), .bin .eql (.t 36) (.v (.int .i64 14)), none, []⟩,
                          ⟨(some 96), .mv (.t 97), none, [0]⟩])
                     (.cond (.t 96)
                       (pch34c10)
                       (.skip))
def pch34c12 : PC :=
 .seq (.seq (.reg false [⟨(some 81), .bin .eql (.t 36) (.v (.int .i64 12)), none, []⟩,
                        ⟨(some 80), .mv (.t 81), none, [0]⟩])
                   (.cond (.t 80)
                     (.skip)
                     (.reg false [⟨(some 82), .bin .eql (.t 36) (.v (.int .i64 13)), none, []⟩,
                          ⟨(some 80), .mv (.t 82), none, [0]⟩])))
                  (.cond (.t 80)
                    (pch34c9)
                    (pch34c11))
def pch34c13 : PC :=
 .seq (.seq (.reg false [⟨(some 62), .bin .eql (.t 36) (.v (.int .i64 6)), none, []⟩,
                     ⟨(some 61), .mv (.t 62), none, [0]⟩])
                (.cond (.t 61)
                  (.skip)
                  (.seq (.reg false [⟨(some 63), .bin .eql (.t 36) (.v (.int .i64 7)), none, []⟩,
                        ⟨(some 61), .mv (.t 63), none, [0]⟩])
                   (.cond (.t 61)
                     (.skip)
                     (.seq (.reg false [⟨(some 64), .bin .eql (.t 36) (.v (.int .i64 8)), none, []⟩,
                           ⟨(some 61), .mv (.t 64), none, [0]⟩])
                      (.cond (.t 61)
                        (.skip)
                        (.reg false [⟨(some 65), .bin .eql (.t 36) (.v (.int .i64 9)), none, []⟩,
                             ⟨(some 61), .mv (.t 65), none, [0]⟩])))))))
               (.cond (.t 61)
                 (pch34c8)
                 (pch34c12))
def pch34c14 : PC :=
 .seq (.seq (.reg false [⟨(some 51), .bin .eql (.t 36) (.v (.int .i64 3)), none, []⟩,
                  ⟨(some 50), .mv (.t 51), none, [0]⟩])
             (.cond (.t 50)
               (.skip)
               (.seq (.reg false [⟨(some 52), .bin .eql (.t 36) (.v (.int .i64 4)), none, []⟩,
                     ⟨(some 50), .mv (.t 52), none, [0]⟩])
                (.cond (.t 50)
                  (.skip)
                  (.reg false [⟨(some 53), .bin .eql (.t 36) (.v (.int .i64 5)), none, []⟩,
                       ⟨(some 50), .mv (.t 53), none, [0]⟩])))))
            (.cond (.t 50)
              (pch34c7)
              (pch34c13))
def pch34c15 : PC :=
 .seq (.reg false [⟨(some 36), .mv (.t 9), none, []⟩])
       (.block 0 (.seq (.seq (.reg false [⟨(some 38), .bin .eql (.t 36) (.v (.int .i64 1)), none, []⟩,
               ⟨(some 37), .mv (.t 38), none, [0]⟩])
          (.cond (.t 37)
            (.skip)
            (.seq (.reg false [⟨(some 39), .bin .eql (.t 36) (.v (.int .i64 2)), none, []⟩,
                  ⟨(some 37), .mv (.t 39), none, [0]⟩])
             (.cond (.t 37)
               (.skip)
               (.seq (.reg false [⟨(some 40), .bin .eql (.t 36) (.v (.int .i64 10)), none, []⟩,
                     ⟨(some 37), .mv (.t 40), none, [0]⟩])
                (.cond (.t 37)
                  (.skip)
                  (.reg false [⟨(some 41), .bin .eql (.t 36) (.v (.int .i64 11)), none, []⟩,
                       ⟨(some 37), .mv (.t 41), none, [0]⟩])))))))
         (.cond (.t 37)
           (pch34c6)
           (pch34c14))))
def pch34 : PC :=
 .seq (.reg false [⟨(some 3), .box (.t 0), none, []⟩,
       ⟨(some 4), .box (.t 1), none, []⟩,
       ⟨(some 6), .nilRow 22 1, none, []⟩])
  (.seq (.reg true [⟨(some 20), .mv (.t 2), none, []⟩,
        ⟨(some 21), .fld 6 (.t 4), none, []⟩,
        ⟨(some 22), .load none (.t 21), none, [1]⟩,
        ⟨(some 23), .call 35 [(.t 22), (.v (.int .i64 3))], none, [2]⟩,
        ⟨(some 24), .fld 7 (.t 4), none, []⟩,
        ⟨(some 25), .load none (.t 24), none, [4]⟩,
        ⟨(some 26), .call 35 [(.t 25), (.v (.int .i64 5))], none, [5, 3]⟩,
        ⟨(some 27), .build [(.int .i64 0), (.int .i64 0), (.int .i64 0), (.int .i64 0), (.int .i64 0), (.int .i64 0), (.int .i64 0), (.int .i64 0), (.int .i64 0)] [(0, 1, (.t 20)), (6, 1, (.t 23)), (7, 1, (.t 26))], none, [0, 3, 6]⟩,
        ⟨(some 7), .new [(.int .i64 0), (.int .i64 0), (.int .i64 0), (.int .i64 0), (.int .i64 0), (.int .i64 0), (.int .i64 0), (.int .i64 0), (.int .i64 0)], none, []⟩,
        ⟨none, .store 9 (.t 7) (.t 27), none, [8, 7, 6, 0, 1, 2, 3, 4, 5, 6, 7, 8]⟩])
   (.seq (.reg true [⟨(some 28), .fld 2 (.t 4), none, []⟩,
         ⟨(some 29), .load none (.t 28), none, [0]⟩,
         ⟨(some 30), .call 35 [(.t 29), (.v (.int .i64 4))], none, [1]⟩,
         ⟨(some 31), .fld 1 (.t 4), none, []⟩,
         ⟨(some 32), .load none (.t 31), none, [3]⟩,
         ⟨(some 33), .call 35 [(.t 32), (.v (.int .i64 20))], none, [4, 2]⟩,
         ⟨(some 8), .mv (.t 30), none, [2, 5, 0, 1, 2]⟩,
         ⟨(some 9), .mv (.t 33), none, [5, 6, 0, 1, 2, 3, 4, 5, 6]⟩])
    (.seq (.seq (.reg false [⟨(some 34), .mv (.t 9), none, []⟩,
           ⟨(some 35), .bin .eql (.t 34) (.v (.int .i64 0)), none, [0]⟩])
      (.cond (.t 35)
        (.reg false [⟨(some 9), .mv (.v (.int .i64 20)), none, []⟩])
        (.skip)))
     (.seq (pch34c15)
      (pch34c5)))))
def prh34 : List PR := [.t 6]
theorem bdh34 : Try.f34.body = some (Try.f34.body.getD .skip) := by kernel_rfl
theorem cph34 : compC Try.prog Try.f34.ntmps eqsL (Try.f34.body.getD .skip) = some pch34 := by kernel_rfl
theorem sph34 [WInv] {env : Env} (hE : EnvOK Try.prog env) {R : List Pa → List Pa → Prop} (hR : ∀ ps rs, R ps rs → ps.length ≤ 198 ∧ pwp env pch34 (fun e s => (e = .normal ∨ e = .ret) ∧ s.res prh34 = some rs) (St.init ps)) : Spec Try.prog 34 R :=
  fn_sound hE eqsOK mixedOK Try.func34 bdh34 cph34 (by kernel_rfl) (by kernel_rfl) hR


end Go.Proofs.Ytkdagjlkejefnaa
end
section
set_option linter.unusedSimpArgs false
set_option linter.unusedVariables false
namespace Go.Proofs.Ytkdagjlkejefnaa
open Go

def gmod (x n : Int) : Int := (x.tmod n + n).tmod n
theorem tmod_bd (x : Int) {n : Int} (h : 0 < n) : -n < x.tmod n ∧ x.tmod n < n := by
  refine ⟨?_, Int.tmod_lt_of_pos _ h⟩
  have h1 := Int.tmod_lt_of_pos (-x) h
  rw [Int.neg_tmod] at h1
  omega
theorem gmod_bd (x : Int) {n : Int} (h : 0 < n) : 0 ≤ gmod x n ∧ gmod x n < n := by
  have h1 := tmod_bd x h
  exact ⟨Int.tmod_nonneg n (by omega), Int.tmod_lt_of_pos _ h⟩
def oneE (x : Ev) (kind obj off : Int) : List Ev := [{ x with kind := kind, obj := obj, off := off }]
def partE (x : Ev) (kind k : Int) : Ev := { x with kind := kind, k := k }
def baseE (e : Ev) (g : Int) : Ev := ⟨g, 0, 0, 0, 0, 0, gmod e.fn 3, gmod e.pc 5, 0⟩
def chosen (e : Ev) : Int := if gmod e.kind 20 = 0 then 20 else gmod e.kind 20
def cellE (e : Ev) : Int := gmod e.obj 4
def RSt.chanE (s : RSt) (e : Ev) : RCh := s.channel (30 + gmod (cellE e) 3) (gmod (cellE e) 3)
def otherE (s : RSt) (e : Ev) (g : Int) (x : Ev) : Ev := if s.gor > 1 then { x with g := (g + 1 + gmod e.k (s.gor - 1)).tmod s.gor, pc := x.pc + 1 } else x
def RSt.cands (s : RSt) (e : Ev) (g : Int) : List (List Ev) :=
  let x := baseE e g
  let ch := chosen e
  if ch = 1 ∨ ch = 2 ∨ ch = 10 ∨ ch = 11 then [oneE x ch (cellE e) (gmod e.off 2)]
  else if ch = 3 ∨ ch = 4 ∨ ch = 5 then [oneE x ch (6 + gmod (cellE e) 2) 0]
  else if ch = 6 ∨ ch = 7 ∨ ch = 8 ∨ ch = 9 then [oneE x ch (10 + gmod (cellE e) 2) 0, oneE x 7 (10 + gmod (cellE e) 2) 0, oneE x 9 (10 + gmod (cellE e) 2) 0]
  else if ch = 12 ∨ ch = 13 then [oneE x ch (20 + gmod (cellE e) 2) 0, oneE x (25 - ch) (20 + gmod (cellE e) 2) 0]
  else if ch = 14 then [oneE { x with k := s.gor } 14 0 0]
  else
    let c := s.chanE e
    let x1 : Ev := { x with n := c.n }
    if ch ≥ 19 then [oneE x1 ch c.obj 0]
    else
      let x2 : Ev := { x1 with obj := c.obj }
      let y := otherE s e g x2
      if ch ≥ 17 then [[partE x2 17 c.recv, partE x2 18 c.recv], [partE x2 17 c.recv, partE y 15 c.recv, partE x2 18 c.recv, partE y 16 c.recv]]
      else [[partE x2 15 c.sent, partE x2 16 c.sent], [partE x2 15 c.sent, partE y 17 c.sent, partE y 18 c.sent, partE x2 16 c.sent]]
theorem RSt.cands_le (s : RSt) (e : Ev) (g : Int) : (s.cands e g).length ≤ 3 ∧ ∀ c, c ∈ s.cands e g → c.length ≤ 4 := by
  unfold RSt.cands
  dsimp only
  repeat' split
  all_goals (refine ⟨by simp, fun c hc => ?_⟩; simp only [List.mem_cons, List.not_mem_nil, or_false] at hc)
  all_goals (first | (rcases hc with rfl | rfl | rfl <;> simp [oneE]) | (rcases hc with rfl | rfl <;> simp [oneE]) | (subst hc; simp [oneE]))

/-- all of a group, and whether all are possible -/
def RSt.adds (s : RSt) : List Ev → RSt × Bool
  | [] => (s, (s.next.length : Int) == 0)
  | e :: l => if (s.addR e).2 = true then (s.addR e).1.adds l else (s, false)
def RSt.take1 (s : RSt) (out : List Ev) : List (List Ev) → RSt × List Ev
  | [] => (s, out)
  | c :: cs => if (s.adds c).2 = true then ((s.adds c).1, out ++ c) else s.take1 out cs
def RSt.rep (s : RSt) (out : List Ev) : List Ev → List Ev
  | [] => out
  | e :: raw => if out.length < 76 then (s.take1 out (s.cands e (gmod e.g s.gor))).1.rep (s.take1 out (s.cands e (gmod e.g s.gor))).2 raw else out
def repairL (raw : List Ev) : List Ev := RSt.new.rep [] raw

structure Whl (s : RSt) (out : List Ev) : Prop where
  st : ∃ t, TS.new.steps out = some t ∧ Rel s t
  nx : s.next = []
theorem Whl.new : Whl RSt.new [] := ⟨⟨_, rfl, Rel.new⟩, rfl⟩
theorem Whl.ok {s : RSt} {out : List Ev} (h : Whl s out) : s.ok := by
  obtain ⟨⟨t, h1, h2⟩, _⟩ := h
  exact h2.ok (TS.steps_wf TS.wf_new h1)
theorem Whl.gor {s : RSt} {out : List Ev} (h : Whl s out) : 1 ≤ s.gor ∧ s.gor ≤ 8 := by
  obtain ⟨⟨t, h1, h2⟩, _⟩ := h
  rw [h2.gr]; exact (TS.steps_wf TS.wf_new h1).gr
/-- every state on the way is bounded -/
structure Mid (s : RSt) (out : List Ev) : Prop where
  st : ∃ t, TS.new.steps out = some t ∧ Rel s t
theorem Mid.ok {s : RSt} {out : List Ev} (h : Mid s out) : s.ok := by
  obtain ⟨t, h1, h2⟩ := h.st
  exact h2.ok (TS.steps_wf TS.wf_new h1)
theorem Mid.step {s : RSt} {out : List Ev} (h : Mid s out) {e : Ev} (he : (s.addR e).2 = true) : Mid (s.addR e).1 (out ++ [e]) := by
  obtain ⟨t, h1, h2⟩ := h.st
  have hs := h2.step (TS.steps_wf TS.wf_new h1) e
  cases ha : t.add e with
  | some t' =>
    rw [ha] at hs
    obtain ⟨r', h3, h4⟩ := hs
    exact ⟨t', by rw [TS.steps_snoc, h1]; exact ha, by rw [h3]; exact h4⟩
  | none =>
    rw [ha] at hs
    rw [show s.addR e = (s, false) from hs] at he
    cases he
theorem Mid.adds {s : RSt} {out : List Ev} (h : Mid s out) (c : List Ev) (hc : (s.adds c).2 = true) : Whl (s.adds c).1 (out ++ c) := by
  induction c generalizing s out with
  | nil =>
    simp only [RSt.adds, beq_iff_eq] at hc
    exact ⟨by rw [List.append_nil]; exact h.st, List.length_eq_zero_iff.1 (by simp only [RSt.adds]; omega)⟩
  | cons e c ih =>
    simp only [RSt.adds] at hc ⊢
    by_cases he : (s.addR e).2 = true
    · rw [if_pos he] at hc ⊢
      have := ih (h.step he) hc
      rwa [List.append_assoc] at this
    · rw [if_neg he] at hc; cases hc
theorem Whl.take1 {s : RSt} {out : List Ev} (h : Whl s out) (cs : List (List Ev)) (hcs : ∀ c, c ∈ cs → c.length ≤ 4) :
    Whl (s.take1 out cs).1 (s.take1 out cs).2 ∧ (s.take1 out cs).2.length ≤ out.length + 4 := by
  induction cs with
  | nil => exact ⟨h, by simp [RSt.take1]⟩
  | cons c cs ih =>
    simp only [RSt.take1]
    by_cases hc : (s.adds c).2 = true
    · rw [if_pos hc]
      refine ⟨Mid.adds ⟨h.st⟩ c hc, ?_⟩
      have := hcs c (by simp)
      rw [List.length_append]; omega
    · rw [if_neg hc]; exact ih (fun c' h' => hcs c' (by simp [h']))
theorem Whl.rep {s : RSt} {out : List Ev} (h : Whl s out) (hl : out.length ≤ 80) (raw : List Ev) : ∃ s', Whl s' (s.rep out raw) ∧ (s.rep out raw).length ≤ 80 := by
  induction raw generalizing s out with
  | nil => exact ⟨s, h, hl⟩
  | cons e raw ih =>
    simp only [RSt.rep]
    by_cases hc : out.length < 76
    · rw [if_pos hc]
      have h1 := h.take1 (s.cands e (gmod e.g s.gor)) (s.cands_le e _).2
      exact ih h1.1 (by have := h1.2; omega)
    · rw [if_neg hc]; exact ⟨s, h, hl⟩
theorem repair_good (raw : List Ev) : ∃ s, Whl s (repairL raw) ∧ (repairL raw).length ≤ 80 := Whl.new.rep (by decide) raw
theorem Whl.chk {s : RSt} {out : List Ev} (h : Whl s out) : chk out = out.length := by
  obtain ⟨t, h1, _⟩ := h.st
  exact TS.chk_of (Nat.le_refl _) (by rw [List.take_length]; exact h1) (fun e he => by rw [List.getElem?_eq_none (Nat.le_refl _)] at he; cases he)
theorem Whl.whole {s : RSt} {out : List Ev} (h : Whl s out) : wholeOf out = out.length := by
  have hc := h.chk
  obtain ⟨t, h1, h2⟩ := h.st
  unfold wholeOf
  rw [hc]
  cases hn : out.length with
  | zero => simp [TS.wholeTo]
  | succ n =>
    have ht : out.take (n + 1) = out := by rw [← hn, List.take_length]
    simp only [TS.wholeTo, ht, h1]
    rw [h2.open_next, h.nx]; rfl
end Go.Proofs.Ytkdagjlkejefnaa
end
section
set_option linter.unusedSimpArgs false
set_option linter.unusedVariables false
namespace Go.Proofs.Ytkdagjlkejefnaa
open Go Go.RowKit
set_option maxRecDepth 100000
set_option maxHeartbeats 4000000

def R_mod (ps rs : List Pa) : Prop := ∃ x n : Int, ps = [pI x, pI n] ∧ (1 ≤ n ∧ n ≤ 1000000) ∧ rs = [pI (gmod x n)]
theorem s_mod : Spec Try.prog 35 R_mod := by
  refine sp35 EnvOK.e0 ?_
  rintro ps rs ⟨x, n, rfl, hn, rfl⟩
  refine ⟨by simp, ?_⟩
  have hb := tmod_bd x (n := n) (by omega)
  have hn0 : n ≠ 0 := by omega
  have hw : IntKind.i64.wrap (x.tmod n + n) = x.tmod n + n := wr64 (by omega) (by omega)
  unfold pc35
  refine pwp_start ?_
  simp only [↓evP, evB, stB, reduceIte, reduceCtorEq, Nat.reduceEqDiff, Nat.reduceAdd, Nat.reduceMul, Nat.reduceLeDiff, Nat.reduceLT, Nat.reduceSub, Nat.reduceBEq, hn0, hw, pr35]
  rfl

def R_one (ps rs : List Pa) : Prop := ∃ (x : Ev) (k a b : Int), ps = [x.pa, pI k, pI a, pI b] ∧ rs = [evsPa (oneE x k a b)]
theorem s_one : Spec Try.prog 54 R_one := by
  refine sp54 EnvOK.e0 ?_
  rintro ps rs ⟨x, k, a, b, rfl, rfl⟩
  refine ⟨by simp, ?_⟩
  unfold pc54
  refine pwp_start ?_
  simp only [↓evP, evB, stB, reduceIte, reduceCtorEq, Nat.reduceEqDiff, Nat.reduceAdd, Nat.reduceMul, Nat.reduceLeDiff, Nat.reduceLT, Nat.reduceSub, Nat.reduceBEq, Ev.pa, Ev.row, evsPa, evsD, oneE, pr54]

def R_part (ps rs : List Pa) : Prop := ∃ (x : Ev) (k a : Int), ps = [x.pa, pI k, pI a] ∧ rs = [(partE x k a).pa]
theorem s_part : Spec Try.prog 56 R_part := by
  refine sp56 EnvOK.e0 ?_
  rintro ps rs ⟨x, k, a, rfl, rfl⟩
  refine ⟨by simp, ?_⟩
  unfold pc56
  refine pwp_start ?_
  simp only [↓evP, evB, stB, reduceIte, reduceCtorEq, Nat.reduceEqDiff, Nat.reduceAdd, Nat.reduceMul, Nat.reduceLeDiff, Nat.reduceLT, Nat.reduceSub, Nat.reduceBEq, Ev.pa, Ev.row, partE, pr56]
end Go.Proofs.Ytkdagjlkejefnaa
end
section
set_option linter.unusedSimpArgs false
set_option linter.unusedVariables false
namespace Go.Proofs.Ytkdagjlkejefnaa
open Go Go.RowKit
set_option maxRecDepth 100000
set_option maxHeartbeats 4000000

def candsPa (l : List (List Ev)) : Pa := .one (.im (l.map fun c => [evsD c]))
def R_try (ps rs : List Pa) : Prop := ∃ (s : RSt) (e : Ev) (g : Int), ps = [s.pa, e.pa, pI g] ∧ (s.chans.length ≤ 1000000 ∧ 1 ≤ s.gor ∧ s.gor ≤ 8 ∧ 0 ≤ g ∧ g < 8) ∧ rs = [candsPa (s.cands e g)]
def env_try : Env := e1 35 R_mod (e1 54 R_one (e1 55 R_channel (e1 56 R_part e0)))
theorem env_try_ok : EnvOK Try.prog env_try := EnvOK.e1 s_mod (EnvOK.e1 s_one (EnvOK.e1 s_channel (EnvOK.e1 s_part EnvOK.e0)))

/-- where the code of try stands when it has read what it needs -/
structure TryAt (s : RSt) (e : Ev) (g : Int) (x : Ev) (st : St) : Prop where
  h2 : st.sl 2 = aI g
  h3 : st.sl 3 = .b (.one (.ptr 3 1 0))
  h4 : st.sl 4 = .b (.one (.ptr 4 1 0))
  h7 : st.sl 7 = .b (.one (.ptr 7 1 0))
  h8 : st.sl 8 = aI (cellE e)
  h9 : st.sl 9 = aI (chosen e)
  g3 : st.gen 3 = 1
  g4 : st.gen 4 = 1
  g7 : st.gen 7 = 1
  o3 : st.ob 3 = .cells (s.row.map .d)
  o4 : st.ob 4 = .cells (e.row.map .d)
  o7 : st.ob 7 = .cells (x.row.map .d)
theorem try_c6 {s : RSt} {e : Ev} {g : Int} {x : Ev} (Q : Exit → St → Prop)
    (hQ : ∀ st, st.res prh34 = some [candsPa ([oneE x (chosen e) (cellE e) (gmod e.off 2)])] → Q .ret st) (st : St) (ha : TryAt s e g x st) :
    pwp env_try pch34c6 (exS env_try [It.bl 0, It.c pch34c5] Q) st := by
  obtain ⟨h2, h3, h4, h7, h8, h9, g3, g4, g7, o3, o4, o7⟩ := ha
  simp only [RSt.row, Ev.row, List.map_cons, List.map_nil] at o3 o4 o7
  unfold pch34c6
  simp only [↓evP, evB, stB, reduceIte, reduceCtorEq, Nat.reduceEqDiff, Nat.reduceAdd, Nat.reduceMul, Nat.reduceLeDiff, Nat.reduceLT, Nat.reduceSub, Nat.reduceBEq, h2, h3, h4, h7, h8, h9, g3, g4, g7, o3, o4, o7]
  refine callD_intro [pI (gmod e.off 2)] ⟨_, _, rfl, by decide, rfl⟩ ?_
  try simp only [↓evP, evB, stB, reduceIte, reduceCtorEq, Nat.reduceEqDiff, Nat.reduceAdd, Nat.reduceMul, Nat.reduceLeDiff, Nat.reduceLT, Nat.reduceSub, Nat.reduceBEq, h2, h3, h4, h7, h8, h9, g3, g4, g7, o3, o4, o7]
  refine callD_intro [evsPa (oneE x (chosen e) (cellE e) (gmod e.off 2))] ⟨x, _, _, _, rfl, rfl⟩ ?_
  simp only [evsPa, evsD, oneE, Ev.row, List.map_cons, List.map_nil]
  try simp only [↓evP, evB, stB, reduceIte, reduceCtorEq, Nat.reduceEqDiff, Nat.reduceAdd, Nat.reduceMul, Nat.reduceLeDiff, Nat.reduceLT, Nat.reduceSub, Nat.reduceBEq, h2, h3, h4, h7, h8, h9, g3, g4, g7, o3, o4, o7]
  refine ⟨(by unfold Drw; kernel_rfl), ?_⟩
  refine hQ _ ?_
  simp only [stB, reduceIte, reduceCtorEq, Nat.reduceEqDiff, Nat.reduceAdd, Nat.reduceMul, Nat.reduceLeDiff, Nat.reduceLT, Nat.reduceSub, Nat.reduceBEq, prh34, g3, g4, g7, o3, o4, o7, candsPa, evsD, oneE, partE, Ev.row, List.map_cons, List.map_nil]
theorem try_c7 {s : RSt} {e : Ev} {g : Int} {x : Ev} (Q : Exit → St → Prop)
    (hQ : ∀ st, st.res prh34 = some [candsPa ([oneE x (chosen e) (6 + gmod (cellE e) 2) 0])] → Q .ret st) (st : St) (ha : TryAt s e g x st) :
    pwp env_try pch34c7 (exS env_try [It.bl 0, It.c pch34c5] Q) st := by
  obtain ⟨h2, h3, h4, h7, h8, h9, g3, g4, g7, o3, o4, o7⟩ := ha
  simp only [RSt.row, Ev.row, List.map_cons, List.map_nil] at o3 o4 o7
  unfold pch34c7
  simp only [↓evP, evB, stB, reduceIte, reduceCtorEq, Nat.reduceEqDiff, Nat.reduceAdd, Nat.reduceMul, Nat.reduceLeDiff, Nat.reduceLT, Nat.reduceSub, Nat.reduceBEq, h2, h3, h4, h7, h8, h9, g3, g4, g7, o3, o4, o7]
  refine callD_intro [pI (gmod (cellE e) 2)] ⟨_, _, rfl, by decide, rfl⟩ ?_
  simp only [↓evP, evB, stB, reduceIte, reduceCtorEq, Nat.reduceEqDiff, Nat.reduceAdd, Nat.reduceMul, Nat.reduceLeDiff, Nat.reduceLT, Nat.reduceSub, Nat.reduceBEq, h2, h3, h4, h7, h8, h9, g3, g4, g7, o3, o4, o7]
  rw [wr64 (by have := gmod_bd (cellE e) (n := 2) (by decide); omega) (by have := gmod_bd (cellE e) (n := 2) (by decide); omega)]
  try simp only [↓evP, evB, stB, reduceIte, reduceCtorEq, Nat.reduceEqDiff, Nat.reduceAdd, Nat.reduceMul, Nat.reduceLeDiff, Nat.reduceLT, Nat.reduceSub, Nat.reduceBEq, h2, h3, h4, h7, h8, h9, g3, g4, g7, o3, o4, o7]
  refine callD_intro [evsPa (oneE x (chosen e) (6 + gmod (cellE e) 2) 0)] ⟨x, _, _, _, rfl, rfl⟩ ?_
  simp only [evsPa, evsD, oneE, Ev.row, List.map_cons, List.map_nil]
  try simp only [↓evP, evB, stB, reduceIte, reduceCtorEq, Nat.reduceEqDiff, Nat.reduceAdd, Nat.reduceMul, Nat.reduceLeDiff, Nat.reduceLT, Nat.reduceSub, Nat.reduceBEq, h2, h3, h4, h7, h8, h9, g3, g4, g7, o3, o4, o7]
  refine ⟨(by unfold Drw; kernel_rfl), ?_⟩
  refine hQ _ ?_
  simp only [stB, reduceIte, reduceCtorEq, Nat.reduceEqDiff, Nat.reduceAdd, Nat.reduceMul, Nat.reduceLeDiff, Nat.reduceLT, Nat.reduceSub, Nat.reduceBEq, prh34, g3, g4, g7, o3, o4, o7, candsPa, evsD, oneE, partE, Ev.row, List.map_cons, List.map_nil]
theorem try_c8 {s : RSt} {e : Ev} {g : Int} {x : Ev} (Q : Exit → St → Prop)
    (hQ : ∀ st, st.res prh34 = some [candsPa ([oneE x (chosen e) (10 + gmod (cellE e) 2) 0, oneE x 7 (10 + gmod (cellE e) 2) 0, oneE x 9 (10 + gmod (cellE e) 2) 0])] → Q .ret st) (st : St) (ha : TryAt s e g x st) :
    pwp env_try pch34c8 (exS env_try [It.bl 0, It.c pch34c5] Q) st := by
  obtain ⟨h2, h3, h4, h7, h8, h9, g3, g4, g7, o3, o4, o7⟩ := ha
  simp only [RSt.row, Ev.row, List.map_cons, List.map_nil] at o3 o4 o7
  unfold pch34c8
  simp only [↓evP, evB, stB, reduceIte, reduceCtorEq, Nat.reduceEqDiff, Nat.reduceAdd, Nat.reduceMul, Nat.reduceLeDiff, Nat.reduceLT, Nat.reduceSub, Nat.reduceBEq, h2, h3, h4, h7, h8, h9, g3, g4, g7, o3, o4, o7]
  refine callOps_intro [pI (gmod (cellE e) 2)] ⟨_, _, rfl, by decide, rfl⟩ ?_
  simp only [↓evP, evB, stB, reduceIte, reduceCtorEq, Nat.reduceEqDiff, Nat.reduceAdd, Nat.reduceMul, Nat.reduceLeDiff, Nat.reduceLT, Nat.reduceSub, Nat.reduceBEq, h2, h3, h4, h7, h8, h9, g3, g4, g7, o3, o4, o7]
  rw [wr64 (by have := gmod_bd (cellE e) (n := 2) (by decide); omega) (by have := gmod_bd (cellE e) (n := 2) (by decide); omega)]
  try simp only [↓evP, evB, stB, reduceIte, reduceCtorEq, Nat.reduceEqDiff, Nat.reduceAdd, Nat.reduceMul, Nat.reduceLeDiff, Nat.reduceLT, Nat.reduceSub, Nat.reduceBEq, h2, h3, h4, h7, h8, h9, g3, g4, g7, o3, o4, o7]
  refine callD_intro [evsPa (oneE x (chosen e) (10 + gmod (cellE e) 2) 0)] ⟨x, _, _, _, rfl, rfl⟩ ?_
  simp only [evsPa, evsD, oneE, Ev.row, List.map_cons, List.map_nil]
  try simp only [↓evP, evB, stB, reduceIte, reduceCtorEq, Nat.reduceEqDiff, Nat.reduceAdd, Nat.reduceMul, Nat.reduceLeDiff, Nat.reduceLT, Nat.reduceSub, Nat.reduceBEq, h2, h3, h4, h7, h8, h9, g3, g4, g7, o3, o4, o7]
  refine callD_intro [evsPa (oneE x 7 (10 + gmod (cellE e) 2) 0)] ⟨x, _, _, _, rfl, rfl⟩ ?_
  simp only [evsPa, evsD, oneE, Ev.row, List.map_cons, List.map_nil]
  try simp only [↓evP, evB, stB, reduceIte, reduceCtorEq, Nat.reduceEqDiff, Nat.reduceAdd, Nat.reduceMul, Nat.reduceLeDiff, Nat.reduceLT, Nat.reduceSub, Nat.reduceBEq, h2, h3, h4, h7, h8, h9, g3, g4, g7, o3, o4, o7]
  refine callD_intro [evsPa (oneE x 9 (10 + gmod (cellE e) 2) 0)] ⟨x, _, _, _, rfl, rfl⟩ ?_
  simp only [evsPa, evsD, oneE, Ev.row, List.map_cons, List.map_nil]
  try simp only [↓evP, evB, stB, reduceIte, reduceCtorEq, Nat.reduceEqDiff, Nat.reduceAdd, Nat.reduceMul, Nat.reduceLeDiff, Nat.reduceLT, Nat.reduceSub, Nat.reduceBEq, h2, h3, h4, h7, h8, h9, g3, g4, g7, o3, o4, o7]
  refine ⟨(by unfold Drw; kernel_rfl), ?_⟩
  refine hQ _ ?_
  simp only [stB, reduceIte, reduceCtorEq, Nat.reduceEqDiff, Nat.reduceAdd, Nat.reduceMul, Nat.reduceLeDiff, Nat.reduceLT, Nat.reduceSub, Nat.reduceBEq, prh34, g3, g4, g7, o3, o4, o7, candsPa, evsD, oneE, partE, Ev.row, List.map_cons, List.map_nil]
theorem try_c9 {s : RSt} {e : Ev} {g : Int} {x : Ev} (hch : 0 ≤ chosen e ∧ chosen e ≤ 20) (Q : Exit → St → Prop)
    (hQ : ∀ st, st.res prh34 = some [candsPa ([oneE x (chosen e) (20 + gmod (cellE e) 2) 0, oneE x (25 - chosen e) (20 + gmod (cellE e) 2) 0])] → Q .ret st) (st : St) (ha : TryAt s e g x st) :
    pwp env_try pch34c9 (exS env_try [It.bl 0, It.c pch34c5] Q) st := by
  obtain ⟨h2, h3, h4, h7, h8, h9, g3, g4, g7, o3, o4, o7⟩ := ha
  simp only [RSt.row, Ev.row, List.map_cons, List.map_nil] at o3 o4 o7
  unfold pch34c9
  simp only [↓evP, evB, stB, reduceIte, reduceCtorEq, Nat.reduceEqDiff, Nat.reduceAdd, Nat.reduceMul, Nat.reduceLeDiff, Nat.reduceLT, Nat.reduceSub, Nat.reduceBEq, h2, h3, h4, h7, h8, h9, g3, g4, g7, o3, o4, o7]
  refine callOps_intro [pI (gmod (cellE e) 2)] ⟨_, _, rfl, by decide, rfl⟩ ?_
  simp only [↓evP, evB, stB, reduceIte, reduceCtorEq, Nat.reduceEqDiff, Nat.reduceAdd, Nat.reduceMul, Nat.reduceLeDiff, Nat.reduceLT, Nat.reduceSub, Nat.reduceBEq, h2, h3, h4, h7, h8, h9, g3, g4, g7, o3, o4, o7]
  rw [wr64 (by have := gmod_bd (cellE e) (n := 2) (by decide); omega) (by have := gmod_bd (cellE e) (n := 2) (by decide); omega)]
  have hw : IntKind.i64.wrap (25 - chosen e) = 25 - chosen e := wr64 (by omega) (by omega)
  try simp only [↓evP, evB, stB, reduceIte, reduceCtorEq, Nat.reduceEqDiff, Nat.reduceAdd, Nat.reduceMul, Nat.reduceLeDiff, Nat.reduceLT, Nat.reduceSub, Nat.reduceBEq, h2, h3, h4, h7, h8, h9, g3, g4, g7, o3, o4, o7]
  refine callD_intro [evsPa (oneE x (chosen e) (20 + gmod (cellE e) 2) 0)] ⟨x, _, _, _, rfl, rfl⟩ ?_
  simp only [evsPa, evsD, oneE, Ev.row, List.map_cons, List.map_nil]
  try simp only [↓evP, evB, stB, reduceIte, reduceCtorEq, Nat.reduceEqDiff, Nat.reduceAdd, Nat.reduceMul, Nat.reduceLeDiff, Nat.reduceLT, Nat.reduceSub, Nat.reduceBEq, h2, h3, h4, h7, h8, h9, g3, g4, g7, o3, o4, o7]
  rw [hw]
  refine callD_intro [evsPa (oneE x (25 - chosen e) (20 + gmod (cellE e) 2) 0)] ⟨x, _, _, _, rfl, rfl⟩ ?_
  simp only [evsPa, evsD, oneE, Ev.row, List.map_cons, List.map_nil]
  try simp only [↓evP, evB, stB, reduceIte, reduceCtorEq, Nat.reduceEqDiff, Nat.reduceAdd, Nat.reduceMul, Nat.reduceLeDiff, Nat.reduceLT, Nat.reduceSub, Nat.reduceBEq, h2, h3, h4, h7, h8, h9, g3, g4, g7, o3, o4, o7]
  refine ⟨(by unfold Drw; kernel_rfl), ?_⟩
  refine hQ _ ?_
  simp only [stB, reduceIte, reduceCtorEq, Nat.reduceEqDiff, Nat.reduceAdd, Nat.reduceMul, Nat.reduceLeDiff, Nat.reduceLT, Nat.reduceSub, Nat.reduceBEq, prh34, g3, g4, g7, o3, o4, o7, candsPa, evsD, oneE, partE, Ev.row, List.map_cons, List.map_nil]
theorem try_c10 {s : RSt} {e : Ev} {g : Int} {x : Ev} (Q : Exit → St → Prop)
    (hQ : ∀ st, st.res prh34 = some [candsPa ([oneE { x with k := s.gor } 14 0 0])] → Q .ret st) (st : St) (ha : TryAt s e g x st) :
    pwp env_try pch34c10 (exS env_try [It.bl 0, It.c pch34c5] Q) st := by
  obtain ⟨h2, h3, h4, h7, h8, h9, g3, g4, g7, o3, o4, o7⟩ := ha
  simp only [RSt.row, Ev.row, List.map_cons, List.map_nil] at o3 o4 o7
  unfold pch34c10
  simp only [↓evP, evB, stB, reduceIte, reduceCtorEq, Nat.reduceEqDiff, Nat.reduceAdd, Nat.reduceMul, Nat.reduceLeDiff, Nat.reduceLT, Nat.reduceSub, Nat.reduceBEq, h2, h3, h4, h7, h8, h9, g3, g4, g7, o3, o4, o7]
  refine callOps_intro [evsPa (oneE { x with k := s.gor } 14 0 0)] ⟨{ x with k := s.gor }, _, _, _, rfl, rfl⟩ ?_
  simp only [evsPa, evsD, oneE, Ev.row, List.map_cons, List.map_nil]
  try simp only [↓evP, evB, stB, reduceIte, reduceCtorEq, Nat.reduceEqDiff, Nat.reduceAdd, Nat.reduceMul, Nat.reduceLeDiff, Nat.reduceLT, Nat.reduceSub, Nat.reduceBEq, h2, h3, h4, h7, h8, h9, g3, g4, g7, o3, o4, o7]
  refine hQ _ ?_
  simp only [stB, reduceIte, reduceCtorEq, Nat.reduceEqDiff, Nat.reduceAdd, Nat.reduceMul, Nat.reduceLeDiff, Nat.reduceLT, Nat.reduceSub, Nat.reduceBEq, prh34, g3, g4, g7, o3, o4, o7, candsPa, evsD, oneE, partE, Ev.row, List.map_cons, List.map_nil]
theorem try_c1 {s : RSt} {e : Ev} {g : Int} {x y : Ev} {c : RCh} (Q : Exit → St → Prop)
    (hQ : ∀ st, st.res prh34 = some [candsPa [[partE x 17 c.recv, partE x 18 c.recv], [partE x 17 c.recv, partE y 15 c.recv, partE x 18 c.recv, partE y 16 c.recv]]] → Q .ret st) (st : St) (ha : TryAt s e g x st) (h12 : st.sl 12 = .b (.one (.ptr 12 1 0))) (h13 : st.sl 13 = .b (.one (.ptr 13 1 0))) (g12 : st.gen 12 = 1) (g13 : st.gen 13 = 1) (o12 : st.ob 12 = .cells (c.row.map .d)) (o13 : st.ob 13 = .cells (y.row.map .d)) :
    pwp env_try pch34c1 (exS env_try [It.c pch34c0] Q) st := by
  obtain ⟨h2, h3, h4, h7, h8, h9, g3, g4, g7, o3, o4, o7⟩ := ha
  simp only [RSt.row, Ev.row, List.map_cons, List.map_nil] at o3 o4 o7
  simp only [RCh.row, Ev.row, List.map_cons, List.map_nil] at o12 o13
  unfold pch34c1
  simp only [↓evP, evB, stB, reduceIte, reduceCtorEq, Nat.reduceEqDiff, Nat.reduceAdd, Nat.reduceMul, Nat.reduceLeDiff, Nat.reduceLT, Nat.reduceSub, Nat.reduceBEq, h2, h3, h4, h7, h8, h9, g3, g4, g7, o3, o4, o7, h12, h13, g12, g13, o12, o13]
  refine callD_intro [(partE x 17 c.recv).pa] ⟨x, _, _, rfl, rfl⟩ ?_
  simp only [Ev.pa, partE, Ev.row]
  simp only [↓evP, evB, stB, reduceIte, reduceCtorEq, Nat.reduceEqDiff, Nat.reduceAdd, Nat.reduceMul, Nat.reduceLeDiff, Nat.reduceLT, Nat.reduceSub, Nat.reduceBEq, h2, h3, h4, h7, h8, h9, g3, g4, g7, o3, o4, o7, h12, h13, g12, g13, o12, o13]
  refine callD_intro [(partE x 18 c.recv).pa] ⟨x, _, _, rfl, rfl⟩ ?_
  simp only [Ev.pa, partE, Ev.row]
  simp only [↓evP, evB, stB, reduceIte, reduceCtorEq, Nat.reduceEqDiff, Nat.reduceAdd, Nat.reduceMul, Nat.reduceLeDiff, Nat.reduceLT, Nat.reduceSub, Nat.reduceBEq, h2, h3, h4, h7, h8, h9, g3, g4, g7, o3, o4, o7, h12, h13, g12, g13, o12, o13]
  refine ⟨(by unfold Drw; kernel_rfl), ?_⟩
  refine callD_intro [(partE x 17 c.recv).pa] ⟨x, _, _, rfl, rfl⟩ ?_
  simp only [Ev.pa, partE, Ev.row]
  simp only [↓evP, evB, stB, reduceIte, reduceCtorEq, Nat.reduceEqDiff, Nat.reduceAdd, Nat.reduceMul, Nat.reduceLeDiff, Nat.reduceLT, Nat.reduceSub, Nat.reduceBEq, h2, h3, h4, h7, h8, h9, g3, g4, g7, o3, o4, o7, h12, h13, g12, g13, o12, o13]
  refine callD_intro [(partE y 15 c.recv).pa] ⟨y, _, _, rfl, rfl⟩ ?_
  simp only [Ev.pa, partE, Ev.row]
  simp only [↓evP, evB, stB, reduceIte, reduceCtorEq, Nat.reduceEqDiff, Nat.reduceAdd, Nat.reduceMul, Nat.reduceLeDiff, Nat.reduceLT, Nat.reduceSub, Nat.reduceBEq, h2, h3, h4, h7, h8, h9, g3, g4, g7, o3, o4, o7, h12, h13, g12, g13, o12, o13]
  refine callD_intro [(partE x 18 c.recv).pa] ⟨x, _, _, rfl, rfl⟩ ?_
  simp only [Ev.pa, partE, Ev.row]
  simp only [↓evP, evB, stB, reduceIte, reduceCtorEq, Nat.reduceEqDiff, Nat.reduceAdd, Nat.reduceMul, Nat.reduceLeDiff, Nat.reduceLT, Nat.reduceSub, Nat.reduceBEq, h2, h3, h4, h7, h8, h9, g3, g4, g7, o3, o4, o7, h12, h13, g12, g13, o12, o13]
  refine callD_intro [(partE y 16 c.recv).pa] ⟨y, _, _, rfl, rfl⟩ ?_
  simp only [Ev.pa, partE, Ev.row]
  simp only [↓evP, evB, stB, reduceIte, reduceCtorEq, Nat.reduceEqDiff, Nat.reduceAdd, Nat.reduceMul, Nat.reduceLeDiff, Nat.reduceLT, Nat.reduceSub, Nat.reduceBEq, h2, h3, h4, h7, h8, h9, g3, g4, g7, o3, o4, o7, h12, h13, g12, g13, o12, o13]
  refine ⟨(by unfold Drw; kernel_rfl), ?_⟩
  refine hQ _ ?_
  simp only [stB, reduceIte, reduceCtorEq, Nat.reduceEqDiff, Nat.reduceAdd, Nat.reduceMul, Nat.reduceLeDiff, Nat.reduceLT, Nat.reduceSub, Nat.reduceBEq, prh34, g3, g4, g7, o3, o4, o7, candsPa, evsD, oneE, partE, Ev.row, List.map_cons, List.map_nil]
theorem try_c0 {s : RSt} {e : Ev} {g : Int} {x y : Ev} {c : RCh} (Q : Exit → St → Prop)
    (hQ : ∀ st, st.res prh34 = some [candsPa [[partE x 15 c.sent, partE x 16 c.sent], [partE x 15 c.sent, partE y 17 c.sent, partE y 18 c.sent, partE x 16 c.sent]]] → Q .ret st) (st : St) (ha : TryAt s e g x st) (h12 : st.sl 12 = .b (.one (.ptr 12 1 0))) (h13 : st.sl 13 = .b (.one (.ptr 13 1 0))) (g12 : st.gen 12 = 1) (g13 : st.gen 13 = 1) (o12 : st.ob 12 = .cells (c.row.map .d)) (o13 : st.ob 13 = .cells (y.row.map .d)) :
    pwp env_try pch34c0 (exS env_try [] Q) st := by
  obtain ⟨h2, h3, h4, h7, h8, h9, g3, g4, g7, o3, o4, o7⟩ := ha
  simp only [RSt.row, Ev.row, List.map_cons, List.map_nil] at o3 o4 o7
  simp only [RCh.row, Ev.row, List.map_cons, List.map_nil] at o12 o13
  unfold pch34c0
  simp only [↓evP, evB, stB, reduceIte, reduceCtorEq, Nat.reduceEqDiff, Nat.reduceAdd, Nat.reduceMul, Nat.reduceLeDiff, Nat.reduceLT, Nat.reduceSub, Nat.reduceBEq, h2, h3, h4, h7, h8, h9, g3, g4, g7, o3, o4, o7, h12, h13, g12, g13, o12, o13]
  refine callD_intro [(partE x 15 c.sent).pa] ⟨x, _, _, rfl, rfl⟩ ?_
  simp only [Ev.pa, partE, Ev.row]
  simp only [↓evP, evB, stB, reduceIte, reduceCtorEq, Nat.reduceEqDiff, Nat.reduceAdd, Nat.reduceMul, Nat.reduceLeDiff, Nat.reduceLT, Nat.reduceSub, Nat.reduceBEq, h2, h3, h4, h7, h8, h9, g3, g4, g7, o3, o4, o7, h12, h13, g12, g13, o12, o13]
  refine callD_intro [(partE x 16 c.sent).pa] ⟨x, _, _, rfl, rfl⟩ ?_
  simp only [Ev.pa, partE, Ev.row]
  simp only [↓evP, evB, stB, reduceIte, reduceCtorEq, Nat.reduceEqDiff, Nat.reduceAdd, Nat.reduceMul, Nat.reduceLeDiff, Nat.reduceLT, Nat.reduceSub, Nat.reduceBEq, h2, h3, h4, h7, h8, h9, g3, g4, g7, o3, o4, o7, h12, h13, g12, g13, o12, o13]
  refine ⟨(by unfold Drw; kernel_rfl), ?_⟩
  refine callD_intro [(partE x 15 c.sent).pa] ⟨x, _, _, rfl, rfl⟩ ?_
  simp only [Ev.pa, partE, Ev.row]
  simp only [↓evP, evB, stB, reduceIte, reduceCtorEq, Nat.reduceEqDiff, Nat.reduceAdd, Nat.reduceMul, Nat.reduceLeDiff, Nat.reduceLT, Nat.reduceSub, Nat.reduceBEq, h2, h3, h4, h7, h8, h9, g3, g4, g7, o3, o4, o7, h12, h13, g12, g13, o12, o13]
  refine callD_intro [(partE y 17 c.sent).pa] ⟨y, _, _, rfl, rfl⟩ ?_
  simp only [Ev.pa, partE, Ev.row]
  simp only [↓evP, evB, stB, reduceIte, reduceCtorEq, Nat.reduceEqDiff, Nat.reduceAdd, Nat.reduceMul, Nat.reduceLeDiff, Nat.reduceLT, Nat.reduceSub, Nat.reduceBEq, h2, h3, h4, h7, h8, h9, g3, g4, g7, o3, o4, o7, h12, h13, g12, g13, o12, o13]
  refine callD_intro [(partE y 18 c.sent).pa] ⟨y, _, _, rfl, rfl⟩ ?_
  simp only [Ev.pa, partE, Ev.row]
  simp only [↓evP, evB, stB, reduceIte, reduceCtorEq, Nat.reduceEqDiff, Nat.reduceAdd, Nat.reduceMul, Nat.reduceLeDiff, Nat.reduceLT, Nat.reduceSub, Nat.reduceBEq, h2, h3, h4, h7, h8, h9, g3, g4, g7, o3, o4, o7, h12, h13, g12, g13, o12, o13]
  refine callD_intro [(partE x 16 c.sent).pa] ⟨x, _, _, rfl, rfl⟩ ?_
  simp only [Ev.pa, partE, Ev.row]
  simp only [↓evP, evB, stB, reduceIte, reduceCtorEq, Nat.reduceEqDiff, Nat.reduceAdd, Nat.reduceMul, Nat.reduceLeDiff, Nat.reduceLT, Nat.reduceSub, Nat.reduceBEq, h2, h3, h4, h7, h8, h9, g3, g4, g7, o3, o4, o7, h12, h13, g12, g13, o12, o13]
  refine ⟨(by unfold Drw; kernel_rfl), ?_⟩
  refine hQ _ ?_
  simp only [stB, reduceIte, reduceCtorEq, Nat.reduceEqDiff, Nat.reduceAdd, Nat.reduceMul, Nat.reduceLeDiff, Nat.reduceLT, Nat.reduceSub, Nat.reduceBEq, prh34, g3, g4, g7, o3, o4, o7, candsPa, evsD, oneE, partE, Ev.row, List.map_cons, List.map_nil]
end Go.Proofs.Ytkdagjlkejefnaa
end
section
set_option linter.unusedSimpArgs false
set_option linter.unusedVariables false
namespace Go.Proofs.Ytkdagjlkejefnaa
open Go Go.RowKit
set_option maxRecDepth 100000
set_option maxHeartbeats 4000000

def RSt.candsT (s : RSt) (e : Ev) (g : Int) : List (List Ev) :=
  let x := baseE e g
  let ch := chosen e
  let c := s.chanE e
  let x1 : Ev := { x with n := c.n }
  if ch ≥ 19 then [oneE x1 ch c.obj 0]
  else
    let x2 : Ev := { x1 with obj := c.obj }
    let y := otherE s e g x2
    if ch ≥ 17 then [[partE x2 17 c.recv, partE x2 18 c.recv], [partE x2 17 c.recv, partE y 15 c.recv, partE x2 18 c.recv, partE y 16 c.recv]]
    else [[partE x2 15 c.sent, partE x2 16 c.sent], [partE x2 15 c.sent, partE y 17 c.sent, partE y 18 c.sent, partE x2 16 c.sent]]
theorem wr30 (x : Int) : IntKind.i64.wrap (30 + gmod x 3) = 30 + gmod x 3 := by
  have := gmod_bd x (n := 3) (by decide)
  exact wr64 (by omega) (by omega)
theorem try_c3 {s : RSt} {e : Ev} {g : Int} {x y : Ev} {c : RCh} (Q : Exit → St → Prop)
    (hQ : ∀ st, st.res prh34 = some [candsPa (if chosen e ≥ 17 then [[partE x 17 c.recv, partE x 18 c.recv], [partE x 17 c.recv, partE y 15 c.recv, partE x 18 c.recv, partE y 16 c.recv]]
      else [[partE x 15 c.sent, partE x 16 c.sent], [partE x 15 c.sent, partE y 17 c.sent, partE y 18 c.sent, partE x 16 c.sent]])] → Q .ret st) (st : St) (ha : TryAt s e g x st) (h12 : st.sl 12 = .b (.one (.ptr 12 1 0))) (h13 : st.sl 13 = .b (.one (.ptr 13 1 0))) (g12 : st.gen 12 = 1) (g13 : st.gen 13 = 1) (o12 : st.ob 12 = .cells (c.row.map .d)) (o13 : st.ob 13 = .cells (y.row.map .d)) :
    pwp env_try pch34c3 (exS env_try [] Q) st := by
  have ha' := ha
  have o12' := o12
  have o13' := o13
  obtain ⟨h2, h3, h4, h7, h8, h9, g3, g4, g7, o3, o4, o7⟩ := ha'
  unfold pch34c3
  by_cases h17 : chosen e ≥ 17
  · rw [if_pos h17] at hQ
    simp only [↓evP, evB, stB, reduceIte, reduceCtorEq, Nat.reduceEqDiff, Nat.reduceAdd, Nat.reduceMul, Nat.reduceLeDiff, Nat.reduceLT, Nat.reduceSub, Nat.reduceBEq]
    unfold pch34c2
    simp only [↓evP, evB, stB, reduceIte, reduceCtorEq, Nat.reduceEqDiff, Nat.reduceAdd, Nat.reduceMul, Nat.reduceLeDiff, Nat.reduceLT, Nat.reduceSub, Nat.reduceBEq, h9, h17, decide_true, decide_false]
    exact try_c1 (s := s) (e := e) (g := g) (x := x) (y := y) Q hQ _ ⟨by simp only [stB, reduceIte, reduceCtorEq, Nat.reduceEqDiff, Nat.reduceAdd, Nat.reduceMul, Nat.reduceLeDiff, Nat.reduceLT, Nat.reduceSub, Nat.reduceBEq, h2], by simp only [stB, reduceIte, reduceCtorEq, Nat.reduceEqDiff, Nat.reduceAdd, Nat.reduceMul, Nat.reduceLeDiff, Nat.reduceLT, Nat.reduceSub, Nat.reduceBEq, h3], by simp only [stB, reduceIte, reduceCtorEq, Nat.reduceEqDiff, Nat.reduceAdd, Nat.reduceMul, Nat.reduceLeDiff, Nat.reduceLT, Nat.reduceSub, Nat.reduceBEq, h4], by simp only [stB, reduceIte, reduceCtorEq, Nat.reduceEqDiff, Nat.reduceAdd, Nat.reduceMul, Nat.reduceLeDiff, Nat.reduceLT, Nat.reduceSub, Nat.reduceBEq, h7], by simp only [stB, reduceIte, reduceCtorEq, Nat.reduceEqDiff, Nat.reduceAdd, Nat.reduceMul, Nat.reduceLeDiff, Nat.reduceLT, Nat.reduceSub, Nat.reduceBEq, h8], by simp only [stB, reduceIte, reduceCtorEq, Nat.reduceEqDiff, Nat.reduceAdd, Nat.reduceMul, Nat.reduceLeDiff, Nat.reduceLT, Nat.reduceSub, Nat.reduceBEq, h9], by simp only [stB, reduceIte, reduceCtorEq, Nat.reduceEqDiff, Nat.reduceAdd, Nat.reduceMul, Nat.reduceLeDiff, Nat.reduceLT, Nat.reduceSub, Nat.reduceBEq, g3], by simp only [stB, reduceIte, reduceCtorEq, Nat.reduceEqDiff, Nat.reduceAdd, Nat.reduceMul, Nat.reduceLeDiff, Nat.reduceLT, Nat.reduceSub, Nat.reduceBEq, g4], by simp only [stB, reduceIte, reduceCtorEq, Nat.reduceEqDiff, Nat.reduceAdd, Nat.reduceMul, Nat.reduceLeDiff, Nat.reduceLT, Nat.reduceSub, Nat.reduceBEq, g7], by simp only [stB, reduceIte, reduceCtorEq, Nat.reduceEqDiff, Nat.reduceAdd, Nat.reduceMul, Nat.reduceLeDiff, Nat.reduceLT, Nat.reduceSub, Nat.reduceBEq, o3], by simp only [stB, reduceIte, reduceCtorEq, Nat.reduceEqDiff, Nat.reduceAdd, Nat.reduceMul, Nat.reduceLeDiff, Nat.reduceLT, Nat.reduceSub, Nat.reduceBEq, o4], by simp only [stB, reduceIte, reduceCtorEq, Nat.reduceEqDiff, Nat.reduceAdd, Nat.reduceMul, Nat.reduceLeDiff, Nat.reduceLT, Nat.reduceSub, Nat.reduceBEq, o7]⟩ (by simp only [stB, reduceIte, reduceCtorEq, Nat.reduceEqDiff, Nat.reduceAdd, Nat.reduceMul, Nat.reduceLeDiff, Nat.reduceLT, Nat.reduceSub, Nat.reduceBEq, h12]) (by simp only [stB, reduceIte, reduceCtorEq, Nat.reduceEqDiff, Nat.reduceAdd, Nat.reduceMul, Nat.reduceLeDiff, Nat.reduceLT, Nat.reduceSub, Nat.reduceBEq, h13]) (by simp only [stB, reduceIte, reduceCtorEq, Nat.reduceEqDiff, Nat.reduceAdd, Nat.reduceMul, Nat.reduceLeDiff, Nat.reduceLT, Nat.reduceSub, Nat.reduceBEq, g12]) (by simp only [stB, reduceIte, reduceCtorEq, Nat.reduceEqDiff, Nat.reduceAdd, Nat.reduceMul, Nat.reduceLeDiff, Nat.reduceLT, Nat.reduceSub, Nat.reduceBEq, g13]) (by simp only [stB, reduceIte, reduceCtorEq, Nat.reduceEqDiff, Nat.reduceAdd, Nat.reduceMul, Nat.reduceLeDiff, Nat.reduceLT, Nat.reduceSub, Nat.reduceBEq, o12]) (by simp only [stB, reduceIte, reduceCtorEq, Nat.reduceEqDiff, Nat.reduceAdd, Nat.reduceMul, Nat.reduceLeDiff, Nat.reduceLT, Nat.reduceSub, Nat.reduceBEq, o13])
  · rw [if_neg h17] at hQ
    simp only [↓evP, evB, stB, reduceIte, reduceCtorEq, Nat.reduceEqDiff, Nat.reduceAdd, Nat.reduceMul, Nat.reduceLeDiff, Nat.reduceLT, Nat.reduceSub, Nat.reduceBEq]
    unfold pch34c2
    simp only [↓evP, evB, stB, reduceIte, reduceCtorEq, Nat.reduceEqDiff, Nat.reduceAdd, Nat.reduceMul, Nat.reduceLeDiff, Nat.reduceLT, Nat.reduceSub, Nat.reduceBEq, h9, h17, decide_true, decide_false]
    exact try_c0 (s := s) (e := e) (g := g) (x := x) (y := y) Q hQ _ ⟨by simp only [stB, reduceIte, reduceCtorEq, Nat.reduceEqDiff, Nat.reduceAdd, Nat.reduceMul, Nat.reduceLeDiff, Nat.reduceLT, Nat.reduceSub, Nat.reduceBEq, h2], by simp only [stB, reduceIte, reduceCtorEq, Nat.reduceEqDiff, Nat.reduceAdd, Nat.reduceMul, Nat.reduceLeDiff, Nat.reduceLT, Nat.reduceSub, Nat.reduceBEq, h3], by simp only [stB, reduceIte, reduceCtorEq, Nat.reduceEqDiff, Nat.reduceAdd, Nat.reduceMul, Nat.reduceLeDiff, Nat.reduceLT, Nat.reduceSub, Nat.reduceBEq, h4], by simp only [stB, reduceIte, reduceCtorEq, Nat.reduceEqDiff, Nat.reduceAdd, Nat.reduceMul, Nat.reduceLeDiff, Nat.reduceLT, Nat.reduceSub, Nat.reduceBEq, h7], by simp only [stB, reduceIte, reduceCtorEq, Nat.reduceEqDiff, Nat.reduceAdd, Nat.reduceMul, Nat.reduceLeDiff, Nat.reduceLT, Nat.reduceSub, Nat.reduceBEq, h8], by simp only [stB, reduceIte, reduceCtorEq, Nat.reduceEqDiff, Nat.reduceAdd, Nat.reduceMul, Nat.reduceLeDiff, Nat.reduceLT, Nat.reduceSub, Nat.reduceBEq, h9], by simp only [stB, reduceIte, reduceCtorEq, Nat.reduceEqDiff, Nat.reduceAdd, Nat.reduceMul, Nat.reduceLeDiff, Nat.reduceLT, Nat.reduceSub, Nat.reduceBEq, g3], by simp only [stB, reduceIte, reduceCtorEq, Nat.reduceEqDiff, Nat.reduceAdd, Nat.reduceMul, Nat.reduceLeDiff, Nat.reduceLT, Nat.reduceSub, Nat.reduceBEq, g4], by simp only [stB, reduceIte, reduceCtorEq, Nat.reduceEqDiff, Nat.reduceAdd, Nat.reduceMul, Nat.reduceLeDiff, Nat.reduceLT, Nat.reduceSub, Nat.reduceBEq, g7], by simp only [stB, reduceIte, reduceCtorEq, Nat.reduceEqDiff, Nat.reduceAdd, Nat.reduceMul, Nat.reduceLeDiff, Nat.reduceLT, Nat.reduceSub, Nat.reduceBEq, o3], by simp only [stB, reduceIte, reduceCtorEq, Nat.reduceEqDiff, Nat.reduceAdd, Nat.reduceMul, Nat.reduceLeDiff, Nat.reduceLT, Nat.reduceSub, Nat.reduceBEq, o4], by simp only [stB, reduceIte, reduceCtorEq, Nat.reduceEqDiff, Nat.reduceAdd, Nat.reduceMul, Nat.reduceLeDiff, Nat.reduceLT, Nat.reduceSub, Nat.reduceBEq, o7]⟩ (by simp only [stB, reduceIte, reduceCtorEq, Nat.reduceEqDiff, Nat.reduceAdd, Nat.reduceMul, Nat.reduceLeDiff, Nat.reduceLT, Nat.reduceSub, Nat.reduceBEq, h12]) (by simp only [stB, reduceIte, reduceCtorEq, Nat.reduceEqDiff, Nat.reduceAdd, Nat.reduceMul, Nat.reduceLeDiff, Nat.reduceLT, Nat.reduceSub, Nat.reduceBEq, h13]) (by simp only [stB, reduceIte, reduceCtorEq, Nat.reduceEqDiff, Nat.reduceAdd, Nat.reduceMul, Nat.reduceLeDiff, Nat.reduceLT, Nat.reduceSub, Nat.reduceBEq, g12]) (by simp only [stB, reduceIte, reduceCtorEq, Nat.reduceEqDiff, Nat.reduceAdd, Nat.reduceMul, Nat.reduceLeDiff, Nat.reduceLT, Nat.reduceSub, Nat.reduceBEq, g13]) (by simp only [stB, reduceIte, reduceCtorEq, Nat.reduceEqDiff, Nat.reduceAdd, Nat.reduceMul, Nat.reduceLeDiff, Nat.reduceLT, Nat.reduceSub, Nat.reduceBEq, o12]) (by simp only [stB, reduceIte, reduceCtorEq, Nat.reduceEqDiff, Nat.reduceAdd, Nat.reduceMul, Nat.reduceLeDiff, Nat.reduceLT, Nat.reduceSub, Nat.reduceBEq, o13])
theorem try_c5 {s : RSt} {e : Ev} {g : Int} (hl : s.chans.length ≤ 1000000) (hs : 1 ≤ s.gor ∧ s.gor ≤ 8) (hg : 0 ≤ g ∧ g < 8) (Q : Exit → St → Prop)
    (hQ : ∀ st, st.res prh34 = some [candsPa (s.candsT e g)] → Q .ret st) (st : St) (ha : TryAt s e g (baseE e g) st) (g12 : st.gen 12 = 0) (g13 : st.gen 13 = 0) :
    pwp env_try pch34c5 (exS env_try [] Q) st := by
  obtain ⟨h2, h3, h4, h7, h8, h9, g3, g4, g7, o3, o4, o7⟩ := ha
  simp only [RSt.row, Ev.row, List.map_cons, List.map_nil] at o3 o4 o7
  unfold pch34c5
  simp only [↓evP, evB, stB, reduceIte, reduceCtorEq, Nat.reduceEqDiff, Nat.reduceAdd, Nat.reduceMul, Nat.reduceLeDiff, Nat.reduceLT, Nat.reduceSub, Nat.reduceBEq, h2, h3, h4, h7, h8, h9, g3, g4, g7, o3, o4, o7]
  refine callD_intro [pI (gmod (cellE e) 3)] ⟨_, _, rfl, by decide, rfl⟩ ?_
  simp only [↓evP, evB, stB, reduceIte, reduceCtorEq, Nat.reduceEqDiff, Nat.reduceAdd, Nat.reduceMul, Nat.reduceLeDiff, Nat.reduceLT, Nat.reduceSub, Nat.reduceBEq, h2, h3, h4, h7, h8, h9, g3, g4, g7, o3, o4, o7]
  rw [wr30]
  refine callD_intro [pI (gmod (cellE e) 3)] ⟨_, _, rfl, by decide, rfl⟩ ?_
  simp only [↓evP, evB, stB, reduceIte, reduceCtorEq, Nat.reduceEqDiff, Nat.reduceAdd, Nat.reduceMul, Nat.reduceLeDiff, Nat.reduceLT, Nat.reduceSub, Nat.reduceBEq, h2, h3, h4, h7, h8, h9, g3, g4, g7, o3, o4, o7]
  refine callD_intro [.agg (s.chanE e).row] ⟨s, _, _, rfl, hl, rfl⟩ ?_
  simp only [RSt.candsT] at hQ
  generalize hc : s.chanE e = c at *
  simp only [RCh.row]
  by_cases h19 : chosen e ≥ 19
  · simp only [h19, if_true] at hQ
    simp only [↓evP, evB, stB, reduceIte, reduceCtorEq, Nat.reduceEqDiff, Nat.reduceAdd, Nat.reduceMul, Nat.reduceLeDiff, Nat.reduceLT, Nat.reduceSub, Nat.reduceBEq, h2, h3, h4, h7, h8, h9, g3, g4, g7, o3, o4, o7, h19, decide_true, decide_false]
    refine ⟨(by unfold Drw; kernel_rfl), ?_⟩
    refine callOps_intro [evsPa (oneE { baseE e g with n := c.n } (chosen e) c.obj 0)] ⟨{ baseE e g with n := c.n }, _, _, _, rfl, rfl⟩ ?_
    simp only [evsPa, evsD, oneE, Ev.row, List.map_cons, List.map_nil]
    simp only [↓evP, evB, stB, reduceIte, reduceCtorEq, Nat.reduceEqDiff, Nat.reduceAdd, Nat.reduceMul, Nat.reduceLeDiff, Nat.reduceLT, Nat.reduceSub, Nat.reduceBEq, h2, h3, h4, h7, h8, h9, g3, g4, g7, o3, o4, o7]
    refine hQ _ ?_
    simp only [stB, reduceIte, reduceCtorEq, Nat.reduceEqDiff, Nat.reduceAdd, Nat.reduceMul, Nat.reduceLeDiff, Nat.reduceLT, Nat.reduceSub, Nat.reduceBEq, prh34, g3, g4, g7, o3, o4, o7, candsPa, evsD, oneE, partE, Ev.row, List.map_cons, List.map_nil]
  · simp only [h19, if_false] at hQ
    by_cases h1 : s.gor > 1
    · simp only [↓evP, evB, stB, reduceIte, reduceCtorEq, Nat.reduceEqDiff, Nat.reduceAdd, Nat.reduceMul, Nat.reduceLeDiff, Nat.reduceLT, Nat.reduceSub, Nat.reduceBEq, h2, h3, h4, h7, h8, h9, g3, g4, g7, o3, o4, o7, h19, h1, decide_true, decide_false]
      refine ⟨(by unfold Drw; kernel_rfl), ?_⟩
      unfold pch34c4
      have hm1 : IntKind.i64.wrap (s.gor - 1) = s.gor - 1 := wr64 (by omega) (by omega)
      have hb := gmod_bd e.k (n := s.gor - 1) (by omega)
      have hg1 : IntKind.i64.wrap (g + 1) = g + 1 := wr64 (by omega) (by omega)
      have hg2 : IntKind.i64.wrap (g + 1 + gmod e.k (s.gor - 1)) = g + 1 + gmod e.k (s.gor - 1) := wr64 (by omega) (by omega)
      have hg0 : s.gor ≠ 0 := by omega
      simp only [↓evP, evB, stB, reduceIte, reduceCtorEq, Nat.reduceEqDiff, Nat.reduceAdd, Nat.reduceMul, Nat.reduceLeDiff, Nat.reduceLT, Nat.reduceSub, Nat.reduceBEq, h2, h3, h4, h7, h8, h9, g3, g4, g7, o3, o4, o7, hm1, hg1]
      refine callD_intro [pI (gmod e.k (s.gor - 1))] ⟨_, _, rfl, ⟨by omega, by omega⟩, rfl⟩ ?_
      have hpc := gmod_bd e.pc (n := 5) (by decide)
      have hw5 : IntKind.i64.wrap ((baseE e g).pc + 1) = (baseE e g).pc + 1 := wr64 (by simp only [baseE]; omega) (by simp only [baseE]; omega)
      simp only [↓evP, evB, stB, reduceIte, reduceCtorEq, Nat.reduceEqDiff, Nat.reduceAdd, Nat.reduceMul, Nat.reduceLeDiff, Nat.reduceLT, Nat.reduceSub, Nat.reduceBEq, h2, h3, h4, h7, h8, h9, g3, g4, g7, o3, o4, o7, hm1, hg1, hg2, hg0, hw5]
      refine ⟨(by unfold Drw; kernel_rfl), ?_⟩
      refine try_c3 (s := s) (e := e) (g := g) (x := { baseE e g with n := c.n, obj := c.obj }) (y := { baseE e g with n := c.n, obj := c.obj, g := (g + 1 + gmod e.k (s.gor - 1)).tmod s.gor, pc := (baseE e g).pc + 1 }) (c := c) Q ?_ _ ⟨by simp only [stB, reduceIte, reduceCtorEq, Nat.reduceEqDiff, Nat.reduceAdd, Nat.reduceMul, Nat.reduceLeDiff, Nat.reduceLT, Nat.reduceSub, Nat.reduceBEq, h2], by simp only [stB, reduceIte, reduceCtorEq, Nat.reduceEqDiff, Nat.reduceAdd, Nat.reduceMul, Nat.reduceLeDiff, Nat.reduceLT, Nat.reduceSub, Nat.reduceBEq, h3], by simp only [stB, reduceIte, reduceCtorEq, Nat.reduceEqDiff, Nat.reduceAdd, Nat.reduceMul, Nat.reduceLeDiff, Nat.reduceLT, Nat.reduceSub, Nat.reduceBEq, h4], by simp only [stB, reduceIte, reduceCtorEq, Nat.reduceEqDiff, Nat.reduceAdd, Nat.reduceMul, Nat.reduceLeDiff, Nat.reduceLT, Nat.reduceSub, Nat.reduceBEq, h7], by simp only [stB, reduceIte, reduceCtorEq, Nat.reduceEqDiff, Nat.reduceAdd, Nat.reduceMul, Nat.reduceLeDiff, Nat.reduceLT, Nat.reduceSub, Nat.reduceBEq, h8], by simp only [stB, reduceIte, reduceCtorEq, Nat.reduceEqDiff, Nat.reduceAdd, Nat.reduceMul, Nat.reduceLeDiff, Nat.reduceLT, Nat.reduceSub, Nat.reduceBEq, h9], by simp only [stB, reduceIte, reduceCtorEq, Nat.reduceEqDiff, Nat.reduceAdd, Nat.reduceMul, Nat.reduceLeDiff, Nat.reduceLT, Nat.reduceSub, Nat.reduceBEq, g3], by simp only [stB, reduceIte, reduceCtorEq, Nat.reduceEqDiff, Nat.reduceAdd, Nat.reduceMul, Nat.reduceLeDiff, Nat.reduceLT, Nat.reduceSub, Nat.reduceBEq, g4], by simp only [stB, reduceIte, reduceCtorEq, Nat.reduceEqDiff, Nat.reduceAdd, Nat.reduceMul, Nat.reduceLeDiff, Nat.reduceLT, Nat.reduceSub, Nat.reduceBEq, g7], by simp only [stB, reduceIte, reduceCtorEq, Nat.reduceEqDiff, Nat.reduceAdd, Nat.reduceMul, Nat.reduceLeDiff, Nat.reduceLT, Nat.reduceSub, Nat.reduceBEq, o3, RSt.row], by simp only [stB, reduceIte, reduceCtorEq, Nat.reduceEqDiff, Nat.reduceAdd, Nat.reduceMul, Nat.reduceLeDiff, Nat.reduceLT, Nat.reduceSub, Nat.reduceBEq, o4, Ev.row], by simp only [stB, reduceIte, reduceCtorEq, Nat.reduceEqDiff, Nat.reduceAdd, Nat.reduceMul, Nat.reduceLeDiff, Nat.reduceLT, Nat.reduceSub, Nat.reduceBEq, o7, Ev.row]⟩ (by simp only [stB, reduceIte, reduceCtorEq, Nat.reduceEqDiff, Nat.reduceAdd, Nat.reduceMul, Nat.reduceLeDiff, Nat.reduceLT, Nat.reduceSub, Nat.reduceBEq, g12]) (by simp only [stB, reduceIte, reduceCtorEq, Nat.reduceEqDiff, Nat.reduceAdd, Nat.reduceMul, Nat.reduceLeDiff, Nat.reduceLT, Nat.reduceSub, Nat.reduceBEq, g13]) (by simp only [stB, reduceIte, reduceCtorEq, Nat.reduceEqDiff, Nat.reduceAdd, Nat.reduceMul, Nat.reduceLeDiff, Nat.reduceLT, Nat.reduceSub, Nat.reduceBEq, g12]) (by simp only [stB, reduceIte, reduceCtorEq, Nat.reduceEqDiff, Nat.reduceAdd, Nat.reduceMul, Nat.reduceLeDiff, Nat.reduceLT, Nat.reduceSub, Nat.reduceBEq, g13]) (by simp only [stB, reduceIte, reduceCtorEq, Nat.reduceEqDiff, Nat.reduceAdd, Nat.reduceMul, Nat.reduceLeDiff, Nat.reduceLT, Nat.reduceSub, Nat.reduceBEq, RCh.row]) (by simp only [stB, reduceIte, reduceCtorEq, Nat.reduceEqDiff, Nat.reduceAdd, Nat.reduceMul, Nat.reduceLeDiff, Nat.reduceLT, Nat.reduceSub, Nat.reduceBEq, Ev.row])
      intro st' h
      refine hQ st' ?_
      rw [h]
      simp only [otherE, if_pos h1]
    · simp only [↓evP, evB, stB, reduceIte, reduceCtorEq, Nat.reduceEqDiff, Nat.reduceAdd, Nat.reduceMul, Nat.reduceLeDiff, Nat.reduceLT, Nat.reduceSub, Nat.reduceBEq, h2, h3, h4, h7, h8, h9, g3, g4, g7, o3, o4, o7, h19, h1, decide_true, decide_false]
      refine ⟨(by unfold Drw; kernel_rfl), ?_⟩
      refine try_c3 (s := s) (e := e) (g := g) (x := { baseE e g with n := c.n, obj := c.obj }) (y := { baseE e g with n := c.n, obj := c.obj }) (c := c) Q ?_ _ ⟨by simp only [stB, reduceIte, reduceCtorEq, Nat.reduceEqDiff, Nat.reduceAdd, Nat.reduceMul, Nat.reduceLeDiff, Nat.reduceLT, Nat.reduceSub, Nat.reduceBEq, h2], by simp only [stB, reduceIte, reduceCtorEq, Nat.reduceEqDiff, Nat.reduceAdd, Nat.reduceMul, Nat.reduceLeDiff, Nat.reduceLT, Nat.reduceSub, Nat.reduceBEq, h3], by simp only [stB, reduceIte, reduceCtorEq, Nat.reduceEqDiff, Nat.reduceAdd, Nat.reduceMul, Nat.reduceLeDiff, Nat.reduceLT, Nat.reduceSub, Nat.reduceBEq, h4], by simp only [stB, reduceIte, reduceCtorEq, Nat.reduceEqDiff, Nat.reduceAdd, Nat.reduceMul, Nat.reduceLeDiff, Nat.reduceLT, Nat.reduceSub, Nat.reduceBEq, h7], by simp only [stB, reduceIte, reduceCtorEq, Nat.reduceEqDiff, Nat.reduceAdd, Nat.reduceMul, Nat.reduceLeDiff, Nat.reduceLT, Nat.reduceSub, Nat.reduceBEq, h8], by simp only [stB, reduceIte, reduceCtorEq, Nat.reduceEqDiff, Nat.reduceAdd, Nat.reduceMul, Nat.reduceLeDiff, Nat.reduceLT, Nat.reduceSub, Nat.reduceBEq, h9], by simp only [stB, reduceIte, reduceCtorEq, Nat.reduceEqDiff, Nat.reduceAdd, Nat.reduceMul, Nat.reduceLeDiff, Nat.reduceLT, Nat.reduceSub, Nat.reduceBEq, g3], by simp only [stB, reduceIte, reduceCtorEq, Nat.reduceEqDiff, Nat.reduceAdd, Nat.reduceMul, Nat.reduceLeDiff, Nat.reduceLT, Nat.reduceSub, Nat.reduceBEq, g4], by simp only [stB, reduceIte, reduceCtorEq, Nat.reduceEqDiff, Nat.reduceAdd, Nat.reduceMul, Nat.reduceLeDiff, Nat.reduceLT, Nat.reduceSub, Nat.reduceBEq, g7], by simp only [stB, reduceIte, reduceCtorEq, Nat.reduceEqDiff, Nat.reduceAdd, Nat.reduceMul, Nat.reduceLeDiff, Nat.reduceLT, Nat.reduceSub, Nat.reduceBEq, o3, RSt.row], by simp only [stB, reduceIte, reduceCtorEq, Nat.reduceEqDiff, Nat.reduceAdd, Nat.reduceMul, Nat.reduceLeDiff, Nat.reduceLT, Nat.reduceSub, Nat.reduceBEq, o4, Ev.row], by simp only [stB, reduceIte, reduceCtorEq, Nat.reduceEqDiff, Nat.reduceAdd, Nat.reduceMul, Nat.reduceLeDiff, Nat.reduceLT, Nat.reduceSub, Nat.reduceBEq, o7, Ev.row]⟩ (by simp only [stB, reduceIte, reduceCtorEq, Nat.reduceEqDiff, Nat.reduceAdd, Nat.reduceMul, Nat.reduceLeDiff, Nat.reduceLT, Nat.reduceSub, Nat.reduceBEq, g12]) (by simp only [stB, reduceIte, reduceCtorEq, Nat.reduceEqDiff, Nat.reduceAdd, Nat.reduceMul, Nat.reduceLeDiff, Nat.reduceLT, Nat.reduceSub, Nat.reduceBEq, g13]) (by simp only [stB, reduceIte, reduceCtorEq, Nat.reduceEqDiff, Nat.reduceAdd, Nat.reduceMul, Nat.reduceLeDiff, Nat.reduceLT, Nat.reduceSub, Nat.reduceBEq, g12]) (by simp only [stB, reduceIte, reduceCtorEq, Nat.reduceEqDiff, Nat.reduceAdd, Nat.reduceMul, Nat.reduceLeDiff, Nat.reduceLT, Nat.reduceSub, Nat.reduceBEq, g13]) (by simp only [stB, reduceIte, reduceCtorEq, Nat.reduceEqDiff, Nat.reduceAdd, Nat.reduceMul, Nat.reduceLeDiff, Nat.reduceLT, Nat.reduceSub, Nat.reduceBEq, RCh.row]) (by simp only [stB, reduceIte, reduceCtorEq, Nat.reduceEqDiff, Nat.reduceAdd, Nat.reduceMul, Nat.reduceLeDiff, Nat.reduceLT, Nat.reduceSub, Nat.reduceBEq, Ev.row])
      intro st' h
      refine hQ st' ?_
      rw [h]
      simp only [otherE, if_neg h1]

theorem s_try : Spec Try.prog 34 R_try := by
  refine sph34 env_try_ok ?_
  rintro ps rs ⟨s, e, g, rfl, ⟨hl, hs1, hs2, hg1, hg2⟩, rfl⟩
  refine ⟨by simp, ?_⟩
  unfold pch34
  refine pwp_start ?_
  simp only [↓evP, evB, stB, reduceIte, reduceCtorEq, Nat.reduceEqDiff, Nat.reduceAdd, Nat.reduceMul, Nat.reduceLeDiff, Nat.reduceLT, Nat.reduceSub, Nat.reduceBEq, RSt.pa, RSt.row, Ev.pa, Ev.row]
  refine callD_intro [pI (gmod e.fn 3)] ⟨_, _, rfl, by decide, rfl⟩ ?_
  simp only [↓evP, evB, stB, reduceIte, reduceCtorEq, Nat.reduceEqDiff, Nat.reduceAdd, Nat.reduceMul, Nat.reduceLeDiff, Nat.reduceLT, Nat.reduceSub, Nat.reduceBEq]
  refine callD_intro [pI (gmod e.pc 5)] ⟨_, _, rfl, by decide, rfl⟩ ?_
  simp only [↓evP, evB, stB, reduceIte, reduceCtorEq, Nat.reduceEqDiff, Nat.reduceAdd, Nat.reduceMul, Nat.reduceLeDiff, Nat.reduceLT, Nat.reduceSub, Nat.reduceBEq]
  refine ⟨(by unfold Drw; kernel_rfl), ?_⟩
  refine callD_intro [pI (gmod e.obj 4)] ⟨_, _, rfl, by decide, rfl⟩ ?_
  simp only [↓evP, evB, stB, reduceIte, reduceCtorEq, Nat.reduceEqDiff, Nat.reduceAdd, Nat.reduceMul, Nat.reduceLeDiff, Nat.reduceLT, Nat.reduceSub, Nat.reduceBEq]
  refine callD_intro [pI (gmod e.kind 20)] ⟨_, _, rfl, by decide, rfl⟩ ?_
  have hkb := gmod_bd e.kind (n := 20) (by decide)
  have hcb : 1 ≤ chosen e ∧ chosen e ≤ 20 := by unfold chosen; split <;> omega
  suffices hmain : ∀ st : St, TryAt s e g (baseE e g) st → st.gen 12 = 0 → st.gen 13 = 0 → ∀ Q : Exit → St → Prop, (∀ st, st.res prh34 = some [candsPa (s.cands e g)] → Q .ret st) → pwp env_try pch34c15 (exS env_try [It.c pch34c5] Q) st by
    cases k0 : (gmod e.kind 20 == 0) with
    | true =>
      have hc : chosen e = 20 := by unfold chosen; rw [if_pos (beq_iff_eq.1 k0)]
      simp only [↓evP, evB, stB, reduceIte, reduceCtorEq, Nat.reduceEqDiff, Nat.reduceAdd, Nat.reduceMul, Nat.reduceLeDiff, Nat.reduceLT, Nat.reduceSub, Nat.reduceBEq, k0]
      refine ⟨(by unfold Drw; kernel_rfl), ?_⟩
      refine hmain _ ⟨by simp only [stB, reduceIte, reduceCtorEq, Nat.reduceEqDiff, Nat.reduceAdd, Nat.reduceMul, Nat.reduceLeDiff, Nat.reduceLT, Nat.reduceSub, Nat.reduceBEq], by simp only [stB, reduceIte, reduceCtorEq, Nat.reduceEqDiff, Nat.reduceAdd, Nat.reduceMul, Nat.reduceLeDiff, Nat.reduceLT, Nat.reduceSub, Nat.reduceBEq], by simp only [stB, reduceIte, reduceCtorEq, Nat.reduceEqDiff, Nat.reduceAdd, Nat.reduceMul, Nat.reduceLeDiff, Nat.reduceLT, Nat.reduceSub, Nat.reduceBEq], by simp only [stB, reduceIte, reduceCtorEq, Nat.reduceEqDiff, Nat.reduceAdd, Nat.reduceMul, Nat.reduceLeDiff, Nat.reduceLT, Nat.reduceSub, Nat.reduceBEq], by simp only [stB, reduceIte, reduceCtorEq, Nat.reduceEqDiff, Nat.reduceAdd, Nat.reduceMul, Nat.reduceLeDiff, Nat.reduceLT, Nat.reduceSub, Nat.reduceBEq, cellE], by simp only [stB, reduceIte, reduceCtorEq, Nat.reduceEqDiff, Nat.reduceAdd, Nat.reduceMul, Nat.reduceLeDiff, Nat.reduceLT, Nat.reduceSub, Nat.reduceBEq, hc], by simp only [stB, reduceIte, reduceCtorEq, Nat.reduceEqDiff, Nat.reduceAdd, Nat.reduceMul, Nat.reduceLeDiff, Nat.reduceLT, Nat.reduceSub, Nat.reduceBEq], by simp only [stB, reduceIte, reduceCtorEq, Nat.reduceEqDiff, Nat.reduceAdd, Nat.reduceMul, Nat.reduceLeDiff, Nat.reduceLT, Nat.reduceSub, Nat.reduceBEq], by simp only [stB, reduceIte, reduceCtorEq, Nat.reduceEqDiff, Nat.reduceAdd, Nat.reduceMul, Nat.reduceLeDiff, Nat.reduceLT, Nat.reduceSub, Nat.reduceBEq], by simp only [stB, reduceIte, reduceCtorEq, Nat.reduceEqDiff, Nat.reduceAdd, Nat.reduceMul, Nat.reduceLeDiff, Nat.reduceLT, Nat.reduceSub, Nat.reduceBEq, RSt.row], by simp only [stB, reduceIte, reduceCtorEq, Nat.reduceEqDiff, Nat.reduceAdd, Nat.reduceMul, Nat.reduceLeDiff, Nat.reduceLT, Nat.reduceSub, Nat.reduceBEq, Ev.row], by simp only [stB, reduceIte, reduceCtorEq, Nat.reduceEqDiff, Nat.reduceAdd, Nat.reduceMul, Nat.reduceLeDiff, Nat.reduceLT, Nat.reduceSub, Nat.reduceBEq, Ev.row, baseE]⟩ (by simp only [stB, reduceIte, reduceCtorEq, Nat.reduceEqDiff, Nat.reduceAdd, Nat.reduceMul, Nat.reduceLeDiff, Nat.reduceLT, Nat.reduceSub, Nat.reduceBEq]) (by simp only [stB, reduceIte, reduceCtorEq, Nat.reduceEqDiff, Nat.reduceAdd, Nat.reduceMul, Nat.reduceLeDiff, Nat.reduceLT, Nat.reduceSub, Nat.reduceBEq]) _ (fun st h => ⟨.inr rfl, h⟩)
    | false =>
      have hc : chosen e = gmod e.kind 20 := by unfold chosen; rw [if_neg (beq_eq_false_iff_ne.1 k0)]
      simp only [↓evP, evB, stB, reduceIte, reduceCtorEq, Nat.reduceEqDiff, Nat.reduceAdd, Nat.reduceMul, Nat.reduceLeDiff, Nat.reduceLT, Nat.reduceSub, Nat.reduceBEq, k0]
      refine ⟨(by unfold Drw; kernel_rfl), ?_⟩
      refine hmain _ ⟨by simp only [stB, reduceIte, reduceCtorEq, Nat.reduceEqDiff, Nat.reduceAdd, Nat.reduceMul, Nat.reduceLeDiff, Nat.reduceLT, Nat.reduceSub, Nat.reduceBEq], by simp only [stB, reduceIte, reduceCtorEq, Nat.reduceEqDiff, Nat.reduceAdd, Nat.reduceMul, Nat.reduceLeDiff, Nat.reduceLT, Nat.reduceSub, Nat.reduceBEq], by simp only [stB, reduceIte, reduceCtorEq, Nat.reduceEqDiff, Nat.reduceAdd, Nat.reduceMul, Nat.reduceLeDiff, Nat.reduceLT, Nat.reduceSub, Nat.reduceBEq], by simp only [stB, reduceIte, reduceCtorEq, Nat.reduceEqDiff, Nat.reduceAdd, Nat.reduceMul, Nat.reduceLeDiff, Nat.reduceLT, Nat.reduceSub, Nat.reduceBEq], by simp only [stB, reduceIte, reduceCtorEq, Nat.reduceEqDiff, Nat.reduceAdd, Nat.reduceMul, Nat.reduceLeDiff, Nat.reduceLT, Nat.reduceSub, Nat.reduceBEq, cellE], by simp only [stB, reduceIte, reduceCtorEq, Nat.reduceEqDiff, Nat.reduceAdd, Nat.reduceMul, Nat.reduceLeDiff, Nat.reduceLT, Nat.reduceSub, Nat.reduceBEq, hc], by simp only [stB, reduceIte, reduceCtorEq, Nat.reduceEqDiff, Nat.reduceAdd, Nat.reduceMul, Nat.reduceLeDiff, Nat.reduceLT, Nat.reduceSub, Nat.reduceBEq], by simp only [stB, reduceIte, reduceCtorEq, Nat.reduceEqDiff, Nat.reduceAdd, Nat.reduceMul, Nat.reduceLeDiff, Nat.reduceLT, Nat.reduceSub, Nat.reduceBEq], by simp only [stB, reduceIte, reduceCtorEq, Nat.reduceEqDiff, Nat.reduceAdd, Nat.reduceMul, Nat.reduceLeDiff, Nat.reduceLT, Nat.reduceSub, Nat.reduceBEq], by simp only [stB, reduceIte, reduceCtorEq, Nat.reduceEqDiff, Nat.reduceAdd, Nat.reduceMul, Nat.reduceLeDiff, Nat.reduceLT, Nat.reduceSub, Nat.reduceBEq, RSt.row], by simp only [stB, reduceIte, reduceCtorEq, Nat.reduceEqDiff, Nat.reduceAdd, Nat.reduceMul, Nat.reduceLeDiff, Nat.reduceLT, Nat.reduceSub, Nat.reduceBEq, Ev.row], by simp only [stB, reduceIte, reduceCtorEq, Nat.reduceEqDiff, Nat.reduceAdd, Nat.reduceMul, Nat.reduceLeDiff, Nat.reduceLT, Nat.reduceSub, Nat.reduceBEq, Ev.row, baseE]⟩ (by simp only [stB, reduceIte, reduceCtorEq, Nat.reduceEqDiff, Nat.reduceAdd, Nat.reduceMul, Nat.reduceLeDiff, Nat.reduceLT, Nat.reduceSub, Nat.reduceBEq]) (by simp only [stB, reduceIte, reduceCtorEq, Nat.reduceEqDiff, Nat.reduceAdd, Nat.reduceMul, Nat.reduceLeDiff, Nat.reduceLT, Nat.reduceSub, Nat.reduceBEq]) _ (fun st h => ⟨.inr rfl, h⟩)
  intro st ha g12 g13 Q hQ
  have ha' := ha
  obtain ⟨h2, h3, h4, h7, h8, h9, g3, g4, g7, o3, o4, o7⟩ := ha'
  simp only [RSt.row, Ev.row, List.map_cons, List.map_nil] at o3 o4 o7
  unfold pch34c15
  cases k1 : (chosen e == 1) with
  | true =>
    have hL : s.cands e g = _ := rfl
    conv at hL => rhs; unfold RSt.cands
    have q := beq_iff_eq.1 k1
    simp only [↓evP, evB, stB, reduceIte, reduceCtorEq, Nat.reduceEqDiff, Nat.reduceAdd, Nat.reduceMul, Nat.reduceLeDiff, Nat.reduceLT, Nat.reduceSub, Nat.reduceBEq, h2, h3, h4, h7, h8, h9, g3, g4, g7, o3, o4, o7, k1]
    dsimp only at hL
    rw [if_pos (by omega)] at hL
    rw [hL] at hQ
    exact try_c6 (s := s) (e := e) (g := g) (x := baseE e g) Q hQ _ ⟨by simp only [stB, reduceIte, reduceCtorEq, Nat.reduceEqDiff, Nat.reduceAdd, Nat.reduceMul, Nat.reduceLeDiff, Nat.reduceLT, Nat.reduceSub, Nat.reduceBEq, h2], by simp only [stB, reduceIte, reduceCtorEq, Nat.reduceEqDiff, Nat.reduceAdd, Nat.reduceMul, Nat.reduceLeDiff, Nat.reduceLT, Nat.reduceSub, Nat.reduceBEq, h3], by simp only [stB, reduceIte, reduceCtorEq, Nat.reduceEqDiff, Nat.reduceAdd, Nat.reduceMul, Nat.reduceLeDiff, Nat.reduceLT, Nat.reduceSub, Nat.reduceBEq, h4], by simp only [stB, reduceIte, reduceCtorEq, Nat.reduceEqDiff, Nat.reduceAdd, Nat.reduceMul, Nat.reduceLeDiff, Nat.reduceLT, Nat.reduceSub, Nat.reduceBEq, h7], by simp only [stB, reduceIte, reduceCtorEq, Nat.reduceEqDiff, Nat.reduceAdd, Nat.reduceMul, Nat.reduceLeDiff, Nat.reduceLT, Nat.reduceSub, Nat.reduceBEq, h8], by simp only [stB, reduceIte, reduceCtorEq, Nat.reduceEqDiff, Nat.reduceAdd, Nat.reduceMul, Nat.reduceLeDiff, Nat.reduceLT, Nat.reduceSub, Nat.reduceBEq, h9], by simp only [stB, reduceIte, reduceCtorEq, Nat.reduceEqDiff, Nat.reduceAdd, Nat.reduceMul, Nat.reduceLeDiff, Nat.reduceLT, Nat.reduceSub, Nat.reduceBEq, g3], by simp only [stB, reduceIte, reduceCtorEq, Nat.reduceEqDiff, Nat.reduceAdd, Nat.reduceMul, Nat.reduceLeDiff, Nat.reduceLT, Nat.reduceSub, Nat.reduceBEq, g4], by simp only [stB, reduceIte, reduceCtorEq, Nat.reduceEqDiff, Nat.reduceAdd, Nat.reduceMul, Nat.reduceLeDiff, Nat.reduceLT, Nat.reduceSub, Nat.reduceBEq, g7], by simp only [stB, reduceIte, reduceCtorEq, Nat.reduceEqDiff, Nat.reduceAdd, Nat.reduceMul, Nat.reduceLeDiff, Nat.reduceLT, Nat.reduceSub, Nat.reduceBEq, o3, RSt.row], by simp only [stB, reduceIte, reduceCtorEq, Nat.reduceEqDiff, Nat.reduceAdd, Nat.reduceMul, Nat.reduceLeDiff, Nat.reduceLT, Nat.reduceSub, Nat.reduceBEq, o4, Ev.row], by simp only [stB, reduceIte, reduceCtorEq, Nat.reduceEqDiff, Nat.reduceAdd, Nat.reduceMul, Nat.reduceLeDiff, Nat.reduceLT, Nat.reduceSub, Nat.reduceBEq, o7, Ev.row]⟩
  | false =>
  have n1 := beq_eq_false_iff_ne.1 k1
  cases k2 : (chosen e == 2) with
  | true =>
    have hL : s.cands e g = _ := rfl
    conv at hL => rhs; unfold RSt.cands
    have q := beq_iff_eq.1 k2
    simp only [↓evP, evB, stB, reduceIte, reduceCtorEq, Nat.reduceEqDiff, Nat.reduceAdd, Nat.reduceMul, Nat.reduceLeDiff, Nat.reduceLT, Nat.reduceSub, Nat.reduceBEq, h2, h3, h4, h7, h8, h9, g3, g4, g7, o3, o4, o7, k1, k2]
    dsimp only at hL
    rw [if_pos (by omega)] at hL
    rw [hL] at hQ
    exact try_c6 (s := s) (e := e) (g := g) (x := baseE e g) Q hQ _ ⟨by simp only [stB, reduceIte, reduceCtorEq, Nat.reduceEqDiff, Nat.reduceAdd, Nat.reduceMul, Nat.reduceLeDiff, Nat.reduceLT, Nat.reduceSub, Nat.reduceBEq, h2], by simp only [stB, reduceIte, reduceCtorEq, Nat.reduceEqDiff, Nat.reduceAdd, Nat.reduceMul, Nat.reduceLeDiff, Nat.reduceLT, Nat.reduceSub, Nat.reduceBEq, h3], by simp only [stB, reduceIte, reduceCtorEq, Nat.reduceEqDiff, Nat.reduceAdd, Nat.reduceMul, Nat.reduceLeDiff, Nat.reduceLT, Nat.reduceSub, Nat.reduceBEq, h4], by simp only [stB, reduceIte, reduceCtorEq, Nat.reduceEqDiff, Nat.reduceAdd, Nat.reduceMul, Nat.reduceLeDiff, Nat.reduceLT, Nat.reduceSub, Nat.reduceBEq, h7], by simp only [stB, reduceIte, reduceCtorEq, Nat.reduceEqDiff, Nat.reduceAdd, Nat.reduceMul, Nat.reduceLeDiff, Nat.reduceLT, Nat.reduceSub, Nat.reduceBEq, h8], by simp only [stB, reduceIte, reduceCtorEq, Nat.reduceEqDiff, Nat.reduceAdd, Nat.reduceMul, Nat.reduceLeDiff, Nat.reduceLT, Nat.reduceSub, Nat.reduceBEq, h9], by simp only [stB, reduceIte, reduceCtorEq, Nat.reduceEqDiff, Nat.reduceAdd, Nat.reduceMul, Nat.reduceLeDiff, Nat.reduceLT, Nat.reduceSub, Nat.reduceBEq, g3], by simp only [stB, reduceIte, reduceCtorEq, Nat.reduceEqDiff, Nat.reduceAdd, Nat.reduceMul, Nat.reduceLeDiff, Nat.reduceLT, Nat.reduceSub, Nat.reduceBEq, g4], by simp only [stB, reduceIte, reduceCtorEq, Nat.reduceEqDiff, Nat.reduceAdd, Nat.reduceMul, Nat.reduceLeDiff, Nat.reduceLT, Nat.reduceSub, Nat.reduceBEq, g7], by simp only [stB, reduceIte, reduceCtorEq, Nat.reduceEqDiff, Nat.reduceAdd, Nat.reduceMul, Nat.reduceLeDiff, Nat.reduceLT, Nat.reduceSub, Nat.reduceBEq, o3, RSt.row], by simp only [stB, reduceIte, reduceCtorEq, Nat.reduceEqDiff, Nat.reduceAdd, Nat.reduceMul, Nat.reduceLeDiff, Nat.reduceLT, Nat.reduceSub, Nat.reduceBEq, o4, Ev.row], by simp only [stB, reduceIte, reduceCtorEq, Nat.reduceEqDiff, Nat.reduceAdd, Nat.reduceMul, Nat.reduceLeDiff, Nat.reduceLT, Nat.reduceSub, Nat.reduceBEq, o7, Ev.row]⟩
  | false =>
  have n2 := beq_eq_false_iff_ne.1 k2
  cases k10 : (chosen e == 10) with
  | true =>
    have hL : s.cands e g = _ := rfl
    conv at hL => rhs; unfold RSt.cands
    have q := beq_iff_eq.1 k10
    simp only [↓evP, evB, stB, reduceIte, reduceCtorEq, Nat.reduceEqDiff, Nat.reduceAdd, Nat.reduceMul, Nat.reduceLeDiff, Nat.reduceLT, Nat.reduceSub, Nat.reduceBEq, h2, h3, h4, h7, h8, h9, g3, g4, g7, o3, o4, o7, k1, k2, k10]
    dsimp only at hL
    rw [if_pos (by omega)] at hL
    rw [hL] at hQ
    exact try_c6 (s := s) (e := e) (g := g) (x := baseE e g) Q hQ _ ⟨by simp only [stB, reduceIte, reduceCtorEq, Nat.reduceEqDiff, Nat.reduceAdd, Nat.reduceMul, Nat.reduceLeDiff, Nat.reduceLT, Nat.reduceSub, Nat.reduceBEq, h2], by simp only [stB, reduceIte, reduceCtorEq, Nat.reduceEqDiff, Nat.reduceAdd, Nat.reduceMul, Nat.reduceLeDiff, Nat.reduceLT, Nat.reduceSub, Nat.reduceBEq, h3], by simp only [stB, reduceIte, reduceCtorEq, Nat.reduceEqDiff, Nat.reduceAdd, Nat.reduceMul, Nat.reduceLeDiff, Nat.reduceLT, Nat.reduceSub, Nat.reduceBEq, h4], by simp only [stB, reduceIte, reduceCtorEq, Nat.reduceEqDiff, Nat.reduceAdd, Nat.reduceMul, Nat.reduceLeDiff, Nat.reduceLT, Nat.reduceSub, Nat.reduceBEq, h7], by simp only [stB, reduceIte, reduceCtorEq, Nat.reduceEqDiff, Nat.reduceAdd, Nat.reduceMul, Nat.reduceLeDiff, Nat.reduceLT, Nat.reduceSub, Nat.reduceBEq, h8], by simp only [stB, reduceIte, reduceCtorEq, Nat.reduceEqDiff, Nat.reduceAdd, Nat.reduceMul, Nat.reduceLeDiff, Nat.reduceLT, Nat.reduceSub, Nat.reduceBEq, h9], by simp only [stB, reduceIte, reduceCtorEq, Nat.reduceEqDiff, Nat.reduceAdd, Nat.reduceMul, Nat.reduceLeDiff, Nat.reduceLT, Nat.reduceSub, Nat.reduceBEq, g3], by simp only [stB, reduceIte, reduceCtorEq, Nat.reduceEqDiff, Nat.reduceAdd, Nat.reduceMul, Nat.reduceLeDiff, Nat.reduceLT, Nat.reduceSub, Nat.reduceBEq, g4], by simp only [stB, reduceIte, reduceCtorEq, Nat.reduceEqDiff, Nat.reduceAdd, Nat.reduceMul, Nat.reduceLeDiff, Nat.reduceLT, Nat.reduceSub, Nat.reduceBEq, g7], by simp only [stB, reduceIte, reduceCtorEq, Nat.reduceEqDiff, Nat.reduceAdd, Nat.reduceMul, Nat.reduceLeDiff, Nat.reduceLT, Nat.reduceSub, Nat.reduceBEq, o3, RSt.row], by simp only [stB, reduceIte, reduceCtorEq, Nat.reduceEqDiff, Nat.reduceAdd, Nat.reduceMul, Nat.reduceLeDiff, Nat.reduceLT, Nat.reduceSub, Nat.reduceBEq, o4, Ev.row], by simp only [stB, reduceIte, reduceCtorEq, Nat.reduceEqDiff, Nat.reduceAdd, Nat.reduceMul, Nat.reduceLeDiff, Nat.reduceLT, Nat.reduceSub, Nat.reduceBEq, o7, Ev.row]⟩
  | false =>
  have n10 := beq_eq_false_iff_ne.1 k10
  cases k11 : (chosen e == 11) with
  | true =>
    have hL : s.cands e g = _ := rfl
    conv at hL => rhs; unfold RSt.cands
    have q := beq_iff_eq.1 k11
    simp only [↓evP, evB, stB, reduceIte, reduceCtorEq, Nat.reduceEqDiff, Nat.reduceAdd, Nat.reduceMul, Nat.reduceLeDiff, Nat.reduceLT, Nat.reduceSub, Nat.reduceBEq, h2, h3, h4, h7, h8, h9, g3, g4, g7, o3, o4, o7, k1, k2, k10, k11]
    dsimp only at hL
    rw [if_pos (by omega)] at hL
    rw [hL] at hQ
    exact try_c6 (s := s) (e := e) (g := g) (x := baseE e g) Q hQ _ ⟨by simp only [stB, reduceIte, reduceCtorEq, Nat.reduceEqDiff, Nat.reduceAdd, Nat.reduceMul, Nat.reduceLeDiff, Nat.reduceLT, Nat.reduceSub, Nat.reduceBEq, h2], by simp only [stB, reduceIte, reduceCtorEq, Nat.reduceEqDiff, Nat.reduceAdd, Nat.reduceMul, Nat.reduceLeDiff, Nat.reduceLT, Nat.reduceSub, Nat.reduceBEq, h3], by simp only [stB, reduceIte, reduceCtorEq, Nat.reduceEqDiff, Nat.reduceAdd, Nat.reduceMul, Nat.reduceLeDiff, Nat.reduceLT, Nat.reduceSub, Nat.reduceBEq, h4], by simp only [stB, reduceIte, reduceCtorEq, Nat.reduceEqDiff, Nat.reduceAdd, Nat.reduceMul, Nat.reduceLeDiff, Nat.reduceLT, Nat.reduceSub, Nat.reduceBEq, h7], by simp only [stB, reduceIte, reduceCtorEq, Nat.reduceEqDiff, Nat.reduceAdd, Nat.reduceMul, Nat.reduceLeDiff, Nat.reduceLT, Nat.reduceSub, Nat.reduceBEq, h8], by simp only [stB, reduceIte, reduceCtorEq, Nat.reduceEqDiff, Nat.reduceAdd, Nat.reduceMul, Nat.reduceLeDiff, Nat.reduceLT, Nat.reduceSub, Nat.reduceBEq, h9], by simp only [stB, reduceIte, reduceCtorEq, Nat.reduceEqDiff, Nat.reduceAdd, Nat.reduceMul, Nat.reduceLeDiff, Nat.reduceLT, Nat.reduceSub, Nat.reduceBEq, g3], by simp only [stB, reduceIte, reduceCtorEq, Nat.reduceEqDiff, Nat.reduceAdd, Nat.reduceMul, Nat.reduceLeDiff, Nat.reduceLT, Nat.reduceSub, Nat.reduceBEq, g4], by simp only [stB, reduceIte, reduceCtorEq, Nat.reduceEqDiff, Nat.reduceAdd, Nat.reduceMul, Nat.reduceLeDiff, Nat.reduceLT, Nat.reduceSub, Nat.reduceBEq, g7], by simp only [stB, reduceIte, reduceCtorEq, Nat.reduceEqDiff, Nat.reduceAdd, Nat.reduceMul, Nat.reduceLeDiff, Nat.reduceLT, Nat.reduceSub, Nat.reduceBEq, o3, RSt.row], by simp only [stB, reduceIte, reduceCtorEq, Nat.reduceEqDiff, Nat.reduceAdd, Nat.reduceMul, Nat.reduceLeDiff, Nat.reduceLT, Nat.reduceSub, Nat.reduceBEq, o4, Ev.row], by simp only [stB, reduceIte, reduceCtorEq, Nat.reduceEqDiff, Nat.reduceAdd, Nat.reduceMul, Nat.reduceLeDiff, Nat.reduceLT, Nat.reduceSub, Nat.reduceBEq, o7, Ev.row]⟩
  | false =>
  have n11 := beq_eq_false_iff_ne.1 k11
  cases k3 : (chosen e == 3) with
  | true =>
    have hL : s.cands e g = _ := rfl
    conv at hL => rhs; unfold RSt.cands
    have q := beq_iff_eq.1 k3
    simp only [↓evP, evB, stB, reduceIte, reduceCtorEq, Nat.reduceEqDiff, Nat.reduceAdd, Nat.reduceMul, Nat.reduceLeDiff, Nat.reduceLT, Nat.reduceSub, Nat.reduceBEq, h2, h3, h4, h7, h8, h9, g3, g4, g7, o3, o4, o7, k1, k2, k10, k11]
    unfold pch34c14
    simp only [↓evP, evB, stB, reduceIte, reduceCtorEq, Nat.reduceEqDiff, Nat.reduceAdd, Nat.reduceMul, Nat.reduceLeDiff, Nat.reduceLT, Nat.reduceSub, Nat.reduceBEq, h2, h3, h4, h7, h8, h9, g3, g4, g7, o3, o4, o7, k3]
    dsimp only at hL
    rw [if_neg (by omega), if_pos (by omega)] at hL
    rw [hL] at hQ
    exact try_c7 (s := s) (e := e) (g := g) (x := baseE e g) Q hQ _ ⟨by simp only [stB, reduceIte, reduceCtorEq, Nat.reduceEqDiff, Nat.reduceAdd, Nat.reduceMul, Nat.reduceLeDiff, Nat.reduceLT, Nat.reduceSub, Nat.reduceBEq, h2], by simp only [stB, reduceIte, reduceCtorEq, Nat.reduceEqDiff, Nat.reduceAdd, Nat.reduceMul, Nat.reduceLeDiff, Nat.reduceLT, Nat.reduceSub, Nat.reduceBEq, h3], by simp only [stB, reduceIte, reduceCtorEq, Nat.reduceEqDiff, Nat.reduceAdd, Nat.reduceMul, Nat.reduceLeDiff, Nat.reduceLT, Nat.reduceSub, Nat.reduceBEq, h4], by simp only [stB, reduceIte, reduceCtorEq, Nat.reduceEqDiff, Nat.reduceAdd, Nat.reduceMul, Nat.reduceLeDiff, Nat.reduceLT, Nat.reduceSub, Nat.reduceBEq, h7], by simp only [stB, reduceIte, reduceCtorEq, Nat.reduceEqDiff, Nat.reduceAdd, Nat.reduceMul, Nat.reduceLeDiff, Nat.reduceLT, Nat.reduceSub, Nat.reduceBEq, h8], by simp only [stB, reduceIte, reduceCtorEq, Nat.reduceEqDiff, Nat.reduceAdd, Nat.reduceMul, Nat.reduceLeDiff, Nat.reduceLT, Nat.reduceSub, Nat.reduceBEq, h9], by simp only [stB, reduceIte, reduceCtorEq, Nat.reduceEqDiff, Nat.reduceAdd, Nat.reduceMul, Nat.reduceLeDiff, Nat.reduceLT, Nat.reduceSub, Nat.reduceBEq, g3], by simp only [stB, reduceIte, reduceCtorEq, Nat.reduceEqDiff, Nat.reduceAdd, Nat.reduceMul, Nat.reduceLeDiff, Nat.reduceLT, Nat.reduceSub, Nat.reduceBEq, g4], by simp only [stB, reduceIte, reduceCtorEq, Nat.reduceEqDiff, Nat.reduceAdd, Nat.reduceMul, Nat.reduceLeDiff, Nat.reduceLT, Nat.reduceSub, Nat.reduceBEq, g7], by simp only [stB, reduceIte, reduceCtorEq, Nat.reduceEqDiff, Nat.reduceAdd, Nat.reduceMul, Nat.reduceLeDiff, Nat.reduceLT, Nat.reduceSub, Nat.reduceBEq, o3, RSt.row], by simp only [stB, reduceIte, reduceCtorEq, Nat.reduceEqDiff, Nat.reduceAdd, Nat.reduceMul, Nat.reduceLeDiff, Nat.reduceLT, Nat.reduceSub, Nat.reduceBEq, o4, Ev.row], by simp only [stB, reduceIte, reduceCtorEq, Nat.reduceEqDiff, Nat.reduceAdd, Nat.reduceMul, Nat.reduceLeDiff, Nat.reduceLT, Nat.reduceSub, Nat.reduceBEq, o7, Ev.row]⟩
  | false =>
  have n3 := beq_eq_false_iff_ne.1 k3
  cases k4 : (chosen e == 4) with
  | true =>
    have hL : s.cands e g = _ := rfl
    conv at hL => rhs; unfold RSt.cands
    have q := beq_iff_eq.1 k4
    simp only [↓evP, evB, stB, reduceIte, reduceCtorEq, Nat.reduceEqDiff, Nat.reduceAdd, Nat.reduceMul, Nat.reduceLeDiff, Nat.reduceLT, Nat.reduceSub, Nat.reduceBEq, h2, h3, h4, h7, h8, h9, g3, g4, g7, o3, o4, o7, k1, k2, k10, k11]
    unfold pch34c14
    simp only [↓evP, evB, stB, reduceIte, reduceCtorEq, Nat.reduceEqDiff, Nat.reduceAdd, Nat.reduceMul, Nat.reduceLeDiff, Nat.reduceLT, Nat.reduceSub, Nat.reduceBEq, h2, h3, h4, h7, h8, h9, g3, g4, g7, o3, o4, o7, k3, k4]
    dsimp only at hL
    rw [if_neg (by omega), if_pos (by omega)] at hL
    rw [hL] at hQ
    exact try_c7 (s := s) (e := e) (g := g) (x := baseE e g) Q hQ _ ⟨by simp only [stB, reduceIte, reduceCtorEq, Nat.reduceEqDiff, Nat.reduceAdd, Nat.reduceMul, Nat.reduceLeDiff, Nat.reduceLT, Nat.reduceSub, Nat.reduceBEq, h2], by simp only [stB, reduceIte, reduceCtorEq, Nat.reduceEqDiff, Nat.reduceAdd, Nat.reduceMul, Nat.reduceLeDiff, Nat.reduceLT, Nat.reduceSub, Nat.reduceBEq, h3], by simp only [stB, reduceIte, reduceCtorEq, Nat.reduceEqDiff, Nat.reduceAdd, Nat.reduceMul, Nat.reduceLeDiff, Nat.reduceLT, Nat.reduceSub, Nat.reduceBEq, h4], by simp only [stB, reduceIte, reduceCtorEq, Nat.reduceEqDiff, Nat.reduceAdd, Nat.reduceMul, Nat.reduceLeDiff, Nat.reduceLT, Nat.reduceSub, Nat.reduceBEq, h7], by simp only [stB, reduceIte, reduceCtorEq, Nat.reduceEqDiff, Nat.reduceAdd, Nat.reduceMul, Nat.reduceLeDiff, Nat.reduceLT, Nat.reduceSub, Nat.reduceBEq, h8], by simp only [stB, reduceIte, reduceCtorEq, Nat.reduceEqDiff, Nat.reduceAdd, Nat.reduceMul, Nat.reduceLeDiff, Nat.reduceLT, Nat.reduceSub, Nat.reduceBEq, h9], by simp only [stB, reduceIte, reduceCtorEq, Nat.reduceEqDiff, Nat.reduceAdd, Nat.reduceMul, Nat.reduceLeDiff, Nat.reduceLT, Nat.reduceSub, Nat.reduceBEq, g3], by simp only [stB, reduceIte, reduceCtorEq, Nat.reduceEqDiff, Nat.reduceAdd, Nat.reduceMul, Nat.reduceLeDiff, Nat.reduceLT, Nat.reduceSub, Nat.reduceBEq, g4], by simp only [stB, reduceIte, reduceCtorEq, Nat.reduceEqDiff, Nat.reduceAdd, Nat.reduceMul, Nat.reduceLeDiff, Nat.reduceLT, Nat.reduceSub, Nat.reduceBEq, g7], by simp only [stB, reduceIte, reduceCtorEq, Nat.reduceEqDiff, Nat.reduceAdd, Nat.reduceMul, Nat.reduceLeDiff, Nat.reduceLT, Nat.reduceSub, Nat.reduceBEq, o3, RSt.row], by simp only [stB, reduceIte, reduceCtorEq, Nat.reduceEqDiff, Nat.reduceAdd, Nat.reduceMul, Nat.reduceLeDiff, Nat.reduceLT, Nat.reduceSub, Nat.reduceBEq, o4, Ev.row], by simp only [stB, reduceIte, reduceCtorEq, Nat.reduceEqDiff, Nat.reduceAdd, Nat.reduceMul, Nat.reduceLeDiff, Nat.reduceLT, Nat.reduceSub, Nat.reduceBEq, o7, Ev.row]⟩
  | false =>
  have n4 := beq_eq_false_iff_ne.1 k4
  cases k5 : (chosen e == 5) with
  | true =>
    have hL : s.cands e g = _ := rfl
    conv at hL => rhs; unfold RSt.cands
    have q := beq_iff_eq.1 k5
    simp only [↓evP, evB, stB, reduceIte, reduceCtorEq, Nat.reduceEqDiff, Nat.reduceAdd, Nat.reduceMul, Nat.reduceLeDiff, Nat.reduceLT, Nat.reduceSub, Nat.reduceBEq, h2, h3, h4, h7, h8, h9, g3, g4, g7, o3, o4, o7, k1, k2, k10, k11]
    unfold pch34c14
    simp only [↓evP, evB, stB, reduceIte, reduceCtorEq, Nat.reduceEqDiff, Nat.reduceAdd, Nat.reduceMul, Nat.reduceLeDiff, Nat.reduceLT, Nat.reduceSub, Nat.reduceBEq, h2, h3, h4, h7, h8, h9, g3, g4, g7, o3, o4, o7, k3, k4, k5]
    dsimp only at hL
    rw [if_neg (by omega), if_pos (by omega)] at hL
    rw [hL] at hQ
    exact try_c7 (s := s) (e := e) (g := g) (x := baseE e g) Q hQ _ ⟨by simp only [stB, reduceIte, reduceCtorEq, Nat.reduceEqDiff, Nat.reduceAdd, Nat.reduceMul, Nat.reduceLeDiff, Nat.reduceLT, Nat.reduceSub, Nat.reduceBEq, h2], by simp only [stB, reduceIte, reduceCtorEq, Nat.reduceEqDiff, Nat.reduceAdd, Nat.reduceMul, Nat.reduceLeDiff, Nat.reduceLT, Nat.reduceSub, Nat.reduceBEq, h3], by simp only [stB, reduceIte, reduceCtorEq, Nat.reduceEqDiff, Nat.reduceAdd, Nat.reduceMul, Nat.reduceLeDiff, Nat.reduceLT, Nat.reduceSub, Nat.reduceBEq, h4], by simp only [stB, reduceIte, reduceCtorEq, Nat.reduceEqDiff, Nat.reduceAdd, Nat.reduceMul, Nat.reduceLeDiff, Nat.reduceLT, Nat.reduceSub, Nat.reduceBEq, h7], by simp only [stB, reduceIte, reduceCtorEq, Nat.reduceEqDiff, Nat.reduceAdd, Nat.reduceMul, Nat.reduceLeDiff, Nat.reduceLT, Nat.reduceSub, Nat.reduceBEq, h8], by simp only [stB, reduceIte, reduceCtorEq, Nat.reduceEqDiff, Nat.reduceAdd, Nat.reduceMul, Nat.reduceLeDiff, Nat.reduceLT, Nat.reduceSub, Nat.reduceBEq, h9], by simp only [stB, reduceIte, reduceCtorEq, Nat.reduceEqDiff, Nat.reduceAdd, Nat.reduceMul, Nat.reduceLeDiff, Nat.reduceLT, Nat.reduceSub, Nat.reduceBEq, g3], by simp only [stB, reduceIte, reduceCtorEq, Nat.reduceEqDiff, Nat.reduceAdd, Nat.reduceMul, Nat.reduceLeDiff, Nat.reduceLT, Nat.reduceSub, Nat.reduceBEq, g4], by simp only [stB, reduceIte, reduceCtorEq, Nat.reduceEqDiff, Nat.reduceAdd, Nat.reduceMul, Nat.reduceLeDiff, Nat.reduceLT, Nat.reduceSub, Nat.reduceBEq, g7], by simp only [stB, reduceIte, reduceCtorEq, Nat.reduceEqDiff, Nat.reduceAdd, Nat.reduceMul, Nat.reduceLeDiff, Nat.reduceLT, Nat.reduceSub, Nat.reduceBEq, o3, RSt.row], by simp only [stB, reduceIte, reduceCtorEq, Nat.reduceEqDiff, Nat.reduceAdd, Nat.reduceMul, Nat.reduceLeDiff, Nat.reduceLT, Nat.reduceSub, Nat.reduceBEq, o4, Ev.row], by simp only [stB, reduceIte, reduceCtorEq, Nat.reduceEqDiff, Nat.reduceAdd, Nat.reduceMul, Nat.reduceLeDiff, Nat.reduceLT, Nat.reduceSub, Nat.reduceBEq, o7, Ev.row]⟩
  | false =>
  have n5 := beq_eq_false_iff_ne.1 k5
  cases k6 : (chosen e == 6) with
  | true =>
    have hL : s.cands e g = _ := rfl
    conv at hL => rhs; unfold RSt.cands
    have q := beq_iff_eq.1 k6
    simp only [↓evP, evB, stB, reduceIte, reduceCtorEq, Nat.reduceEqDiff, Nat.reduceAdd, Nat.reduceMul, Nat.reduceLeDiff, Nat.reduceLT, Nat.reduceSub, Nat.reduceBEq, h2, h3, h4, h7, h8, h9, g3, g4, g7, o3, o4, o7, k1, k2, k10, k11]
    unfold pch34c14
    simp only [↓evP, evB, stB, reduceIte, reduceCtorEq, Nat.reduceEqDiff, Nat.reduceAdd, Nat.reduceMul, Nat.reduceLeDiff, Nat.reduceLT, Nat.reduceSub, Nat.reduceBEq, h2, h3, h4, h7, h8, h9, g3, g4, g7, o3, o4, o7, k3, k4, k5]
    unfold pch34c13
    simp only [↓evP, evB, stB, reduceIte, reduceCtorEq, Nat.reduceEqDiff, Nat.reduceAdd, Nat.reduceMul, Nat.reduceLeDiff, Nat.reduceLT, Nat.reduceSub, Nat.reduceBEq, h2, h3, h4, h7, h8, h9, g3, g4, g7, o3, o4, o7, k6]
    dsimp only at hL
    rw [if_neg (by omega), if_neg (by omega), if_pos (by omega)] at hL
    rw [hL] at hQ
    exact try_c8 (s := s) (e := e) (g := g) (x := baseE e g) Q hQ _ ⟨by simp only [stB, reduceIte, reduceCtorEq, Nat.reduceEqDiff, Nat.reduceAdd, Nat.reduceMul, Nat.reduceLeDiff, Nat.reduceLT, Nat.reduceSub, Nat.reduceBEq, h2], by simp only [stB, reduceIte, reduceCtorEq, Nat.reduceEqDiff, Nat.reduceAdd, Nat.reduceMul, Nat.reduceLeDiff, Nat.reduceLT, Nat.reduceSub, Nat.reduceBEq, h3], by simp only [stB, reduceIte, reduceCtorEq, Nat.reduceEqDiff, Nat.reduceAdd, Nat.reduceMul, Nat.reduceLeDiff, Nat.reduceLT, Nat.reduceSub, Nat.reduceBEq, h4], by simp only [stB, reduceIte, reduceCtorEq, Nat.reduceEqDiff, Nat.reduceAdd, Nat.reduceMul, Nat.reduceLeDiff, Nat.reduceLT, Nat.reduceSub, Nat.reduceBEq, h7], by simp only [stB, reduceIte, reduceCtorEq, Nat.reduceEqDiff, Nat.reduceAdd, Nat.reduceMul, Nat.reduceLeDiff, Nat.reduceLT, Nat.reduceSub, Nat.reduceBEq, h8], by simp only [stB, reduceIte, reduceCtorEq, Nat.reduceEqDiff, Nat.reduceAdd, Nat.reduceMul, Nat.reduceLeDiff, Nat.reduceLT, Nat.reduceSub, Nat.reduceBEq, h9], by simp only [stB, reduceIte, reduceCtorEq, Nat.reduceEqDiff, Nat.reduceAdd, Nat.reduceMul, Nat.reduceLeDiff, Nat.reduceLT, Nat.reduceSub, Nat.reduceBEq, g3], by simp only [stB, reduceIte, reduceCtorEq, Nat.reduceEqDiff, Nat.reduceAdd, Nat.reduceMul, Nat.reduceLeDiff, Nat.reduceLT, Nat.reduceSub, Nat.reduceBEq, g4], by simp only [stB, reduceIte, reduceCtorEq, Nat.reduceEqDiff, Nat.reduceAdd, Nat.reduceMul, Nat.reduceLeDiff, Nat.reduceLT, Nat.reduceSub, Nat.reduceBEq, g7], by simp only [stB, reduceIte, reduceCtorEq, Nat.reduceEqDiff, Nat.reduceAdd, Nat.reduceMul, Nat.reduceLeDiff, Nat.reduceLT, Nat.reduceSub, Nat.reduceBEq, o3, RSt.row], by simp only [stB, reduceIte, reduceCtorEq, Nat.reduceEqDiff, Nat.reduceAdd, Nat.reduceMul, Nat.reduceLeDiff, Nat.reduceLT, Nat.reduceSub, Nat.reduceBEq, o4, Ev.row], by simp only [stB, reduceIte, reduceCtorEq, Nat.reduceEqDiff, Nat.reduceAdd, Nat.reduceMul, Nat.reduceLeDiff, Nat.reduceLT, Nat.reduceSub, Nat.reduceBEq, o7, Ev.row]⟩
  | false =>
  have n6 := beq_eq_false_iff_ne.1 k6
  cases k7 : (chosen e == 7) with
  | true =>
    have hL : s.cands e g = _ := rfl
    conv at hL => rhs; unfold RSt.cands
    have q := beq_iff_eq.1 k7
    simp only [↓evP, evB, stB, reduceIte, reduceCtorEq, Nat.reduceEqDiff, Nat.reduceAdd, Nat.reduceMul, Nat.reduceLeDiff, Nat.reduceLT, Nat.reduceSub, Nat.reduceBEq, h2, h3, h4, h7, h8, h9, g3, g4, g7, o3, o4, o7, k1, k2, k10, k11]
    unfold pch34c14
    simp only [↓evP, evB, stB, reduceIte, reduceCtorEq, Nat.reduceEqDiff, Nat.reduceAdd, Nat.reduceMul, Nat.reduceLeDiff, Nat.reduceLT, Nat.reduceSub, Nat.reduceBEq, h2, h3, h4, h7, h8, h9, g3, g4, g7, o3, o4, o7, k3, k4, k5]
    unfold pch34c13
    simp only [↓evP, evB, stB, reduceIte, reduceCtorEq, Nat.reduceEqDiff, Nat.reduceAdd, Nat.reduceMul, Nat.reduceLeDiff, Nat.reduceLT, Nat.reduceSub, Nat.reduceBEq, h2, h3, h4, h7, h8, h9, g3, g4, g7, o3, o4, o7, k6, k7]
    dsimp only at hL
    rw [if_neg (by omega), if_neg (by omega), if_pos (by omega)] at hL
    rw [hL] at hQ
    exact try_c8 (s := s) (e := e) (g := g) (x := baseE e g) Q hQ _ ⟨by simp only [stB, reduceIte, reduceCtorEq, Nat.reduceEqDiff, Nat.reduceAdd, Nat.reduceMul, Nat.reduceLeDiff, Nat.reduceLT, Nat.reduceSub, Nat.reduceBEq, h2], by simp only [stB, reduceIte, reduceCtorEq, Nat.reduceEqDiff, Nat.reduceAdd, Nat.reduceMul, Nat.reduceLeDiff, Nat.reduceLT, Nat.reduceSub, Nat.reduceBEq, h3], by simp only [stB, reduceIte, reduceCtorEq, Nat.reduceEqDiff, Nat.reduceAdd, Nat.reduceMul, Nat.reduceLeDiff, Nat.reduceLT, Nat.reduceSub, Nat.reduceBEq, h4], by simp only [stB, reduceIte, reduceCtorEq, Nat.reduceEqDiff, Nat.reduceAdd, Nat.reduceMul, Nat.reduceLeDiff, Nat.reduceLT, Nat.reduceSub, Nat.reduceBEq, h7], by simp only [stB, reduceIte, reduceCtorEq, Nat.reduceEqDiff, Nat.reduceAdd, Nat.reduceMul, Nat.reduceLeDiff, Nat.reduceLT, Nat.reduceSub, Nat.reduceBEq, h8], by simp only [stB, reduceIte, reduceCtorEq, Nat.reduceEqDiff, Nat.reduceAdd, Nat.reduceMul, Nat.reduceLeDiff, Nat.reduceLT, Nat.reduceSub, Nat.reduceBEq, h9], by simp only [stB, reduceIte, reduceCtorEq, Nat.reduceEqDiff, Nat.reduceAdd, Nat.reduceMul, Nat.reduceLeDiff, Nat.reduceLT, Nat.reduceSub, Nat.reduceBEq, g3], by simp only [stB, reduceIte, reduceCtorEq, Nat.reduceEqDiff, Nat.reduceAdd, Nat.reduceMul, Nat.reduceLeDiff, Nat.reduceLT, Nat.reduceSub, Nat.reduceBEq, g4], by simp only [stB, reduceIte, reduceCtorEq, Nat.reduceEqDiff, Nat.reduceAdd, Nat.reduceMul, Nat.reduceLeDiff, Nat.reduceLT, Nat.reduceSub, Nat.reduceBEq, g7], by simp only [stB, reduceIte, reduceCtorEq, Nat.reduceEqDiff, Nat.reduceAdd, Nat.reduceMul, Nat.reduceLeDiff, Nat.reduceLT, Nat.reduceSub, Nat.reduceBEq, o3, RSt.row], by simp only [stB, reduceIte, reduceCtorEq, Nat.reduceEqDiff, Nat.reduceAdd, Nat.reduceMul, Nat.reduceLeDiff, Nat.reduceLT, Nat.reduceSub, Nat.reduceBEq, o4, Ev.row], by simp only [stB, reduceIte, reduceCtorEq, Nat.reduceEqDiff, Nat.reduceAdd, Nat.reduceMul, Nat.reduceLeDiff, Nat.reduceLT, Nat.reduceSub, Nat.reduceBEq, o7, Ev.row]⟩
  | false =>
  have n7 := beq_eq_false_iff_ne.1 k7
  cases k8 : (chosen e == 8) with
  | true =>
    have hL : s.cands e g = _ := rfl
    conv at hL => rhs; unfold RSt.cands
    have q := beq_iff_eq.1 k8
    simp only [↓evP, evB, stB, reduceIte, reduceCtorEq, Nat.reduceEqDiff, Nat.reduceAdd, Nat.reduceMul, Nat.reduceLeDiff, Nat.reduceLT, Nat.reduceSub, Nat.reduceBEq, h2, h3, h4, h7, h8, h9, g3, g4, g7, o3, o4, o7, k1, k2, k10, k11]
    unfold pch34c14
    simp only [↓evP, evB, stB, reduceIte, reduceCtorEq, Nat.reduceEqDiff, Nat.reduceAdd, Nat.reduceMul, Nat.reduceLeDiff, Nat.reduceLT, Nat.reduceSub, Nat.reduceBEq, h2, h3, h4, h7, h8, h9, g3, g4, g7, o3, o4, o7, k3, k4, k5]
    unfold pch34c13
    simp only [↓evP, evB, stB, reduceIte, reduceCtorEq, Nat.reduceEqDiff, Nat.reduceAdd, Nat.reduceMul, Nat.reduceLeDiff, Nat.reduceLT, Nat.reduceSub, Nat.reduceBEq, h2, h3, h4, h7, h8, h9, g3, g4, g7, o3, o4, o7, k6, k7, k8]
    dsimp only at hL
    rw [if_neg (by omega), if_neg (by omega), if_pos (by omega)] at hL
    rw [hL] at hQ
    exact try_c8 (s := s) (e := e) (g := g) (x := baseE e g) Q hQ _ ⟨by simp only [stB, reduceIte, reduceCtorEq, Nat.reduceEqDiff, Nat.reduceAdd, Nat.reduceMul, Nat.reduceLeDiff, Nat.reduceLT, Nat.reduceSub, Nat.reduceBEq, h2], by simp only [stB, reduceIte, reduceCtorEq, Nat.reduceEqDiff, Nat.reduceAdd, Nat.reduceMul, Nat.reduceLeDiff, Nat.reduceLT, Nat.reduceSub, Nat.reduceBEq, h3], by simp only [stB, reduceIte, reduceCtorEq, Nat.reduceEqDiff, Nat.reduceAdd, Nat.reduceMul, Nat.reduceLeDiff, Nat.reduceLT, Nat.reduceSub, Nat.reduceBEq, h4], by simp only [stB, reduceIte, reduceCtorEq, Nat.reduceEqDiff, Nat.reduceAdd, Nat.reduceMul, Nat.reduceLeDiff, Nat.reduceLT, Nat.reduceSub, Nat.reduceBEq, h7], by simp only [stB, reduceIte, reduceCtorEq, Nat.reduceEqDiff, Nat.reduceAdd, Nat.reduceMul, Nat.reduceLeDiff, Nat.reduceLT, Nat.reduceSub, Nat.reduceBEq, h8], by simp only [stB, reduceIte, reduceCtorEq, Nat.reduceEqDiff, Nat.reduceAdd, Nat.reduceMul, Nat.reduceLeDiff, Nat.reduceLT, Nat.reduceSub, Nat.reduceBEq, h9], by simp only [stB, reduceIte, reduceCtorEq, Nat.reduceEqDiff, Nat.reduceAdd, Nat.reduceMul, Nat.reduceLeDiff, Nat.reduceLT, Nat.reduceSub, Nat.reduceBEq, g3], by simp only [stB, reduceIte, reduceCtorEq, Nat.reduceEqDiff, Nat.reduceAdd, Nat.reduceMul, Nat.reduceLeDiff, Nat.reduceLT, Nat.reduceSub, Nat.reduceBEq, g4], by simp only [stB, reduceIte, reduceCtorEq, Nat.reduceEqDiff, Nat.reduceAdd, Nat.reduceMul, Nat.reduceLeDiff, Nat.reduceLT, Nat.reduceSub, Nat.reduceBEq, g7], by simp only [stB, reduceIte, reduceCtorEq, Nat.reduceEqDiff, Nat.reduceAdd, Nat.reduceMul, Nat.reduceLeDiff, Nat.reduceLT, Nat.reduceSub, Nat.reduceBEq, o3, RSt.row], by simp only [stB, reduceIte, reduceCtorEq, Nat.reduceEqDiff, Nat.reduceAdd, Nat.reduceMul, Nat.reduceLeDiff, Nat.reduceLT, Nat.reduceSub, Nat.reduceBEq, o4, Ev.row], by simp only [stB, reduceIte, reduceCtorEq, Nat.reduceEqDiff, Nat.reduceAdd, Nat.reduceMul, Nat.reduceLeDiff, Nat.reduceLT, Nat.reduceSub, Nat.reduceBEq, o7, Ev.row]⟩
  | false =>
  have n8 := beq_eq_false_iff_ne.1 k8
  cases k9 : (chosen e == 9) with
  | true =>
    have hL : s.cands e g = _ := rfl
    conv at hL => rhs; unfold RSt.cands
    have q := beq_iff_eq.1 k9
    simp only [↓evP, evB, stB, reduceIte, reduceCtorEq, Nat.reduceEqDiff, Nat.reduceAdd, Nat.reduceMul, Nat.reduceLeDiff, Nat.reduceLT, Nat.reduceSub, Nat.reduceBEq, h2, h3, h4, h7, h8, h9, g3, g4, g7, o3, o4, o7, k1, k2, k10, k11]
    unfold pch34c14
    simp only [↓evP, evB, stB, reduceIte, reduceCtorEq, Nat.reduceEqDiff, Nat.reduceAdd, Nat.reduceMul, Nat.reduceLeDiff, Nat.reduceLT, Nat.reduceSub, Nat.reduceBEq, h2, h3, h4, h7, h8, h9, g3, g4, g7, o3, o4, o7, k3, k4, k5]
    unfold pch34c13
    simp only [↓evP, evB, stB, reduceIte, reduceCtorEq, Nat.reduceEqDiff, Nat.reduceAdd, Nat.reduceMul, Nat.reduceLeDiff, Nat.reduceLT, Nat.reduceSub, Nat.reduceBEq, h2, h3, h4, h7, h8, h9, g3, g4, g7, o3, o4, o7, k6, k7, k8, k9]
    dsimp only at hL
    rw [if_neg (by omega), if_neg (by omega), if_pos (by omega)] at hL
    rw [hL] at hQ
    exact try_c8 (s := s) (e := e) (g := g) (x := baseE e g) Q hQ _ ⟨by simp only [stB, reduceIte, reduceCtorEq, Nat.reduceEqDiff, Nat.reduceAdd, Nat.reduceMul, Nat.reduceLeDiff, Nat.reduceLT, Nat.reduceSub, Nat.reduceBEq, h2], by simp only [stB, reduceIte, reduceCtorEq, Nat.reduceEqDiff, Nat.reduceAdd, Nat.reduceMul, Nat.reduceLeDiff, Nat.reduceLT, Nat.reduceSub, Nat.reduceBEq, h3], by simp only [stB, reduceIte, reduceCtorEq, Nat.reduceEqDiff, Nat.reduceAdd, Nat.reduceMul, Nat.reduceLeDiff, Nat.reduceLT, Nat.reduceSub, Nat.reduceBEq, h4], by simp only [stB, reduceIte, reduceCtorEq, Nat.reduceEqDiff, Nat.reduceAdd, Nat.reduceMul, Nat.reduceLeDiff, Nat.reduceLT, Nat.reduceSub, Nat.reduceBEq, h7], by simp only [stB, reduceIte, reduceCtorEq, Nat.reduceEqDiff, Nat.reduceAdd, Nat.reduceMul, Nat.reduceLeDiff, Nat.reduceLT, Nat.reduceSub, Nat.reduceBEq, h8], by simp only [stB, reduceIte, reduceCtorEq, Nat.reduceEqDiff, Nat.reduceAdd, Nat.reduceMul, Nat.reduceLeDiff, Nat.reduceLT, Nat.reduceSub, Nat.reduceBEq, h9], by simp only [stB, reduceIte, reduceCtorEq, Nat.reduceEqDiff, Nat.reduceAdd, Nat.reduceMul, Nat.reduceLeDiff, Nat.reduceLT, Nat.reduceSub, Nat.reduceBEq, g3], by simp only [stB, reduceIte, reduceCtorEq, Nat.reduceEqDiff, Nat.reduceAdd, Nat.reduceMul, Nat.reduceLeDiff, Nat.reduceLT, Nat.reduceSub, Nat.reduceBEq, g4], by simp only [stB, reduceIte, reduceCtorEq, Nat.reduceEqDiff, Nat.reduceAdd, Nat.reduceMul, Nat.reduceLeDiff, Nat.reduceLT, Nat.reduceSub, Nat.reduceBEq, g7], by simp only [stB, reduceIte, reduceCtorEq, Nat.reduceEqDiff, Nat.reduceAdd, Nat.reduceMul, Nat.reduceLeDiff, Nat.reduceLT, Nat.reduceSub, Nat.reduceBEq, o3, RSt.row], by simp only [stB, reduceIte, reduceCtorEq, Nat.reduceEqDiff, Nat.reduceAdd, Nat.reduceMul, Nat.reduceLeDiff, Nat.reduceLT, Nat.reduceSub, Nat.reduceBEq, o4, Ev.row], by simp only [stB, reduceIte, reduceCtorEq, Nat.reduceEqDiff, Nat.reduceAdd, Nat.reduceMul, Nat.reduceLeDiff, Nat.reduceLT, Nat.reduceSub, Nat.reduceBEq, o7, Ev.row]⟩
  | false =>
  have n9 := beq_eq_false_iff_ne.1 k9
  cases k12 : (chosen e == 12) with
  | true =>
    have hL : s.cands e g = _ := rfl
    conv at hL => rhs; unfold RSt.cands
    have q := beq_iff_eq.1 k12
    simp only [↓evP, evB, stB, reduceIte, reduceCtorEq, Nat.reduceEqDiff, Nat.reduceAdd, Nat.reduceMul, Nat.reduceLeDiff, Nat.reduceLT, Nat.reduceSub, Nat.reduceBEq, h2, h3, h4, h7, h8, h9, g3, g4, g7, o3, o4, o7, k1, k2, k10, k11]
    unfold pch34c14
    simp only [↓evP, evB, stB, reduceIte, reduceCtorEq, Nat.reduceEqDiff, Nat.reduceAdd, Nat.reduceMul, Nat.reduceLeDiff, Nat.reduceLT, Nat.reduceSub, Nat.reduceBEq, h2, h3, h4, h7, h8, h9, g3, g4, g7, o3, o4, o7, k3, k4, k5]
    unfold pch34c13
    simp only [↓evP, evB, stB, reduceIte, reduceCtorEq, Nat.reduceEqDiff, Nat.reduceAdd, Nat.reduceMul, Nat.reduceLeDiff, Nat.reduceLT, Nat.reduceSub, Nat.reduceBEq, h2, h3, h4, h7, h8, h9, g3, g4, g7, o3, o4, o7, k6, k7, k8, k9]
    unfold pch34c12
    simp only [↓evP, evB, stB, reduceIte, reduceCtorEq, Nat.reduceEqDiff, Nat.reduceAdd, Nat.reduceMul, Nat.reduceLeDiff, Nat.reduceLT, Nat.reduceSub, Nat.reduceBEq, h2, h3, h4, h7, h8, h9, g3, g4, g7, o3, o4, o7, k12]
    dsimp only at hL
    rw [if_neg (by omega), if_neg (by omega), if_neg (by omega), if_pos (by omega)] at hL
    rw [hL] at hQ
    exact try_c9 (s := s) (e := e) (g := g) (x := baseE e g) ⟨by omega, by omega⟩ Q hQ _ ⟨by simp only [stB, reduceIte, reduceCtorEq, Nat.reduceEqDiff, Nat.reduceAdd, Nat.reduceMul, Nat.reduceLeDiff, Nat.reduceLT, Nat.reduceSub, Nat.reduceBEq, h2], by simp only [stB, reduceIte, reduceCtorEq, Nat.reduceEqDiff, Nat.reduceAdd, Nat.reduceMul, Nat.reduceLeDiff, Nat.reduceLT, Nat.reduceSub, Nat.reduceBEq, h3], by simp only [stB, reduceIte, reduceCtorEq, Nat.reduceEqDiff, Nat.reduceAdd, Nat.reduceMul, Nat.reduceLeDiff, Nat.reduceLT, Nat.reduceSub, Nat.reduceBEq, h4], by simp only [stB, reduceIte, reduceCtorEq, Nat.reduceEqDiff, Nat.reduceAdd, Nat.reduceMul, Nat.reduceLeDiff, Nat.reduceLT, Nat.reduceSub, Nat.reduceBEq, h7], by simp only [stB, reduceIte, reduceCtorEq, Nat.reduceEqDiff, Nat.reduceAdd, Nat.reduceMul, Nat.reduceLeDiff, Nat.reduceLT, Nat.reduceSub, Nat.reduceBEq, h8], by simp only [stB, reduceIte, reduceCtorEq, Nat.reduceEqDiff, Nat.reduceAdd, Nat.reduceMul, Nat.reduceLeDiff, Nat.reduceLT, Nat.reduceSub, Nat.reduceBEq, h9], by simp only [stB, reduceIte, reduceCtorEq, Nat.reduceEqDiff, Nat.reduceAdd, Nat.reduceMul, Nat.reduceLeDiff, Nat.reduceLT, Nat.reduceSub, Nat.reduceBEq, g3], by simp only [stB, reduceIte, reduceCtorEq, Nat.reduceEqDiff, Nat.reduceAdd, Nat.reduceMul, Nat.reduceLeDiff, Nat.reduceLT, Nat.reduceSub, Nat.reduceBEq, g4], by simp only [stB, reduceIte, reduceCtorEq, Nat.reduceEqDiff, Nat.reduceAdd, Nat.reduceMul, Nat.reduceLeDiff, Nat.reduceLT, Nat.reduceSub, Nat.reduceBEq, g7], by simp only [stB, reduceIte, reduceCtorEq, Nat.reduceEqDiff, Nat.reduceAdd, Nat.reduceMul, Nat.reduceLeDiff, Nat.reduceLT, Nat.reduceSub, Nat.reduceBEq, o3, RSt.row], by simp only [stB, reduceIte, reduceCtorEq, Nat.reduceEqDiff, Nat.reduceAdd, Nat.reduceMul, Nat.reduceLeDiff, Nat.reduceLT, Nat.reduceSub, Nat.reduceBEq, o4, Ev.row], by simp only [stB, reduceIte, reduceCtorEq, Nat.reduceEqDiff, Nat.reduceAdd, Nat.reduceMul, Nat.reduceLeDiff, Nat.reduceLT, Nat.reduceSub, Nat.reduceBEq, o7, Ev.row]⟩
  | false =>
  have n12 := beq_eq_false_iff_ne.1 k12
  cases k13 : (chosen e == 13) with
  | true =>
    have hL : s.cands e g = _ := rfl
    conv at hL => rhs; unfold RSt.cands
    have q := beq_iff_eq.1 k13
    simp only [↓evP, evB, stB, reduceIte, reduceCtorEq, Nat.reduceEqDiff, Nat.reduceAdd, Nat.reduceMul, Nat.reduceLeDiff, Nat.reduceLT, Nat.reduceSub, Nat.reduceBEq, h2, h3, h4, h7, h8, h9, g3, g4, g7, o3, o4, o7, k1, k2, k10, k11]
    unfold pch34c14
    simp only [↓evP, evB, stB, reduceIte, reduceCtorEq, Nat.reduceEqDiff, Nat.reduceAdd, Nat.reduceMul, Nat.reduceLeDiff, Nat.reduceLT, Nat.reduceSub, Nat.reduceBEq, h2, h3, h4, h7, h8, h9, g3, g4, g7, o3, o4, o7, k3, k4, k5]
    unfold pch34c13
    simp only [↓evP, evB, stB, reduceIte, reduceCtorEq, Nat.reduceEqDiff, Nat.reduceAdd, Nat.reduceMul, Nat.reduceLeDiff, Nat.reduceLT, Nat.reduceSub, Nat.reduceBEq, h2, h3, h4, h7, h8, h9, g3, g4, g7, o3, o4, o7, k6, k7, k8, k9]
    unfold pch34c12
    simp only [↓evP, evB, stB, reduceIte, reduceCtorEq, Nat.reduceEqDiff, Nat.reduceAdd, Nat.reduceMul, Nat.reduceLeDiff, Nat.reduceLT, Nat.reduceSub, Nat.reduceBEq, h2, h3, h4, h7, h8, h9, g3, g4, g7, o3, o4, o7, k12, k13]
    dsimp only at hL
    rw [if_neg (by omega), if_neg (by omega), if_neg (by omega), if_pos (by omega)] at hL
    rw [hL] at hQ
    exact try_c9 (s := s) (e := e) (g := g) (x := baseE e g) ⟨by omega, by omega⟩ Q hQ _ ⟨by simp only [stB, reduceIte, reduceCtorEq, Nat.reduceEqDiff, Nat.reduceAdd, Nat.reduceMul, Nat.reduceLeDiff, Nat.reduceLT, Nat.reduceSub, Nat.reduceBEq, h2], by simp only [stB, reduceIte, reduceCtorEq, Nat.reduceEqDiff, Nat.reduceAdd, Nat.reduceMul, Nat.reduceLeDiff, Nat.reduceLT, Nat.reduceSub, Nat.reduceBEq, h3], by simp only [stB, reduceIte, reduceCtorEq, Nat.reduceEqDiff, Nat.reduceAdd, Nat.reduceMul, Nat.reduceLeDiff, Nat.reduceLT, Nat.reduceSub, Nat.reduceBEq, h4], by simp only [stB, reduceIte, reduceCtorEq, Nat.reduceEqDiff, Nat.reduceAdd, Nat.reduceMul, Nat.reduceLeDiff, Nat.reduceLT, Nat.reduceSub, Nat.reduceBEq, h7], by simp only [stB, reduceIte, reduceCtorEq, Nat.reduceEqDiff, Nat.reduceAdd, Nat.reduceMul, Nat.reduceLeDiff, Nat.reduceLT, Nat.reduceSub, Nat.reduceBEq, h8], by simp only [stB, reduceIte, reduceCtorEq, Nat.reduceEqDiff, Nat.reduceAdd, Nat.reduceMul, Nat.reduceLeDiff, Nat.reduceLT, Nat.reduceSub, Nat.reduceBEq, h9], by simp only [stB, reduceIte, reduceCtorEq, Nat.reduceEqDiff, Nat.reduceAdd, Nat.reduceMul, Nat.reduceLeDiff, Nat.reduceLT, Nat.reduceSub, Nat.reduceBEq, g3], by simp only [stB, reduceIte, reduceCtorEq, Nat.reduceEqDiff, Nat.reduceAdd, Nat.reduceMul, Nat.reduceLeDiff, Nat.reduceLT, Nat.reduceSub, Nat.reduceBEq, g4], by simp only [stB, reduceIte, reduceCtorEq, Nat.reduceEqDiff, Nat.reduceAdd, Nat.reduceMul, Nat.reduceLeDiff, Nat.reduceLT, Nat.reduceSub, Nat.reduceBEq, g7], by simp only [stB, reduceIte, reduceCtorEq, Nat.reduceEqDiff, Nat.reduceAdd, Nat.reduceMul, Nat.reduceLeDiff, Nat.reduceLT, Nat.reduceSub, Nat.reduceBEq, o3, RSt.row], by simp only [stB, reduceIte, reduceCtorEq, Nat.reduceEqDiff, Nat.reduceAdd, Nat.reduceMul, Nat.reduceLeDiff, Nat.reduceLT, Nat.reduceSub, Nat.reduceBEq, o4, Ev.row], by simp only [stB, reduceIte, reduceCtorEq, Nat.reduceEqDiff, Nat.reduceAdd, Nat.reduceMul, Nat.reduceLeDiff, Nat.reduceLT, Nat.reduceSub, Nat.reduceBEq, o7, Ev.row]⟩
  | false =>
  have n13 := beq_eq_false_iff_ne.1 k13
  cases k14 : (chosen e == 14) with
  | true =>
    have hL : s.cands e g = _ := rfl
    conv at hL => rhs; unfold RSt.cands
    have q := beq_iff_eq.1 k14
    simp only [↓evP, evB, stB, reduceIte, reduceCtorEq, Nat.reduceEqDiff, Nat.reduceAdd, Nat.reduceMul, Nat.reduceLeDiff, Nat.reduceLT, Nat.reduceSub, Nat.reduceBEq, h2, h3, h4, h7, h8, h9, g3, g4, g7, o3, o4, o7, k1, k2, k10, k11]
    unfold pch34c14
    simp only [↓evP, evB, stB, reduceIte, reduceCtorEq, Nat.reduceEqDiff, Nat.reduceAdd, Nat.reduceMul, Nat.reduceLeDiff, Nat.reduceLT, Nat.reduceSub, Nat.reduceBEq, h2, h3, h4, h7, h8, h9, g3, g4, g7, o3, o4, o7, k3, k4, k5]
    unfold pch34c13
    simp only [↓evP, evB, stB, reduceIte, reduceCtorEq, Nat.reduceEqDiff, Nat.reduceAdd, Nat.reduceMul, Nat.reduceLeDiff, Nat.reduceLT, Nat.reduceSub, Nat.reduceBEq, h2, h3, h4, h7, h8, h9, g3, g4, g7, o3, o4, o7, k6, k7, k8, k9]
    unfold pch34c12
    simp only [↓evP, evB, stB, reduceIte, reduceCtorEq, Nat.reduceEqDiff, Nat.reduceAdd, Nat.reduceMul, Nat.reduceLeDiff, Nat.reduceLT, Nat.reduceSub, Nat.reduceBEq, h2, h3, h4, h7, h8, h9, g3, g4, g7, o3, o4, o7, k12, k13]
    unfold pch34c11
    simp only [↓evP, evB, stB, reduceIte, reduceCtorEq, Nat.reduceEqDiff, Nat.reduceAdd, Nat.reduceMul, Nat.reduceLeDiff, Nat.reduceLT, Nat.reduceSub, Nat.reduceBEq, h2, h3, h4, h7, h8, h9, g3, g4, g7, o3, o4, o7, k14]
    unfold pch34c10
    simp only [↓evP, evB, stB, reduceIte, reduceCtorEq, Nat.reduceEqDiff, Nat.reduceAdd, Nat.reduceMul, Nat.reduceLeDiff, Nat.reduceLT, Nat.reduceSub, Nat.reduceBEq, h2, h3, h4, h7, h8, h9, g3, g4, g7, o3, o4, o7]
    dsimp only at hL
    rw [if_neg (by omega), if_neg (by omega), if_neg (by omega), if_neg (by omega), if_pos (by omega)] at hL
    rw [hL] at hQ
    refine callOps_intro [evsPa (oneE { baseE e g with k := s.gor } 14 0 0)] ⟨{ baseE e g with k := s.gor }, _, _, _, rfl, rfl⟩ ?_
    simp only [evsPa, evsD, oneE, Ev.row, List.map_cons, List.map_nil]
    simp only [↓evP, evB, stB, reduceIte, reduceCtorEq, Nat.reduceEqDiff, Nat.reduceAdd, Nat.reduceMul, Nat.reduceLeDiff, Nat.reduceLT, Nat.reduceSub, Nat.reduceBEq, h2, h3, h4, h7, h8, h9, g3, g4, g7, o3, o4, o7]
    refine hQ _ ?_
    simp only [stB, reduceIte, reduceCtorEq, Nat.reduceEqDiff, Nat.reduceAdd, Nat.reduceMul, Nat.reduceLeDiff, Nat.reduceLT, Nat.reduceSub, Nat.reduceBEq, prh34, g3, g4, g7, o3, o4, o7, candsPa, evsD, oneE, partE, Ev.row, List.map_cons, List.map_nil]
  | false =>
    have n14 := beq_eq_false_iff_ne.1 k14
    have hL : s.cands e g = s.candsT e g := by
      unfold RSt.cands RSt.candsT
      dsimp only
      rw [if_neg (by omega), if_neg (by omega), if_neg (by omega), if_neg (by omega), if_neg (by omega)]
    rw [hL] at hQ
    simp only [↓evP, evB, stB, reduceIte, reduceCtorEq, Nat.reduceEqDiff, Nat.reduceAdd, Nat.reduceMul, Nat.reduceLeDiff, Nat.reduceLT, Nat.reduceSub, Nat.reduceBEq, h2, h3, h4, h7, h8, h9, g3, g4, g7, o3, o4, o7, k1, k2, k10, k11]
    unfold pch34c14
    simp only [↓evP, evB, stB, reduceIte, reduceCtorEq, Nat.reduceEqDiff, Nat.reduceAdd, Nat.reduceMul, Nat.reduceLeDiff, Nat.reduceLT, Nat.reduceSub, Nat.reduceBEq, h2, h3, h4, h7, h8, h9, g3, g4, g7, o3, o4, o7, k3, k4, k5]
    unfold pch34c13
    simp only [↓evP, evB, stB, reduceIte, reduceCtorEq, Nat.reduceEqDiff, Nat.reduceAdd, Nat.reduceMul, Nat.reduceLeDiff, Nat.reduceLT, Nat.reduceSub, Nat.reduceBEq, h2, h3, h4, h7, h8, h9, g3, g4, g7, o3, o4, o7, k6, k7, k8, k9]
    unfold pch34c12
    simp only [↓evP, evB, stB, reduceIte, reduceCtorEq, Nat.reduceEqDiff, Nat.reduceAdd, Nat.reduceMul, Nat.reduceLeDiff, Nat.reduceLT, Nat.reduceSub, Nat.reduceBEq, h2, h3, h4, h7, h8, h9, g3, g4, g7, o3, o4, o7, k12, k13]
    unfold pch34c11
    simp only [↓evP, evB, stB, reduceIte, reduceCtorEq, Nat.reduceEqDiff, Nat.reduceAdd, Nat.reduceMul, Nat.reduceLeDiff, Nat.reduceLT, Nat.reduceSub, Nat.reduceBEq, h2, h3, h4, h7, h8, h9, g3, g4, g7, o3, o4, o7, k14]
    exact try_c5 hl ⟨hs1, hs2⟩ ⟨hg1, hg2⟩ Q hQ _ ⟨by simp only [stB, reduceIte, reduceCtorEq, Nat.reduceEqDiff, Nat.reduceAdd, Nat.reduceMul, Nat.reduceLeDiff, Nat.reduceLT, Nat.reduceSub, Nat.reduceBEq, h2], by simp only [stB, reduceIte, reduceCtorEq, Nat.reduceEqDiff, Nat.reduceAdd, Nat.reduceMul, Nat.reduceLeDiff, Nat.reduceLT, Nat.reduceSub, Nat.reduceBEq, h3], by simp only [stB, reduceIte, reduceCtorEq, Nat.reduceEqDiff, Nat.reduceAdd, Nat.reduceMul, Nat.reduceLeDiff, Nat.reduceLT, Nat.reduceSub, Nat.reduceBEq, h4], by simp only [stB, reduceIte, reduceCtorEq, Nat.reduceEqDiff, Nat.reduceAdd, Nat.reduceMul, Nat.reduceLeDiff, Nat.reduceLT, Nat.reduceSub, Nat.reduceBEq, h7], by simp only [stB, reduceIte, reduceCtorEq, Nat.reduceEqDiff, Nat.reduceAdd, Nat.reduceMul, Nat.reduceLeDiff, Nat.reduceLT, Nat.reduceSub, Nat.reduceBEq, h8], by simp only [stB, reduceIte, reduceCtorEq, Nat.reduceEqDiff, Nat.reduceAdd, Nat.reduceMul, Nat.reduceLeDiff, Nat.reduceLT, Nat.reduceSub, Nat.reduceBEq, h9], by simp only [stB, reduceIte, reduceCtorEq, Nat.reduceEqDiff, Nat.reduceAdd, Nat.reduceMul, Nat.reduceLeDiff, Nat.reduceLT, Nat.reduceSub, Nat.reduceBEq, g3], by simp only [stB, reduceIte, reduceCtorEq, Nat.reduceEqDiff, Nat.reduceAdd, Nat.reduceMul, Nat.reduceLeDiff, Nat.reduceLT, Nat.reduceSub, Nat.reduceBEq, g4], by simp only [stB, reduceIte, reduceCtorEq, Nat.reduceEqDiff, Nat.reduceAdd, Nat.reduceMul, Nat.reduceLeDiff, Nat.reduceLT, Nat.reduceSub, Nat.reduceBEq, g7], by simp only [stB, reduceIte, reduceCtorEq, Nat.reduceEqDiff, Nat.reduceAdd, Nat.reduceMul, Nat.reduceLeDiff, Nat.reduceLT, Nat.reduceSub, Nat.reduceBEq, o3, RSt.row], by simp only [stB, reduceIte, reduceCtorEq, Nat.reduceEqDiff, Nat.reduceAdd, Nat.reduceMul, Nat.reduceLeDiff, Nat.reduceLT, Nat.reduceSub, Nat.reduceBEq, o4, Ev.row], by simp only [stB, reduceIte, reduceCtorEq, Nat.reduceEqDiff, Nat.reduceAdd, Nat.reduceMul, Nat.reduceLeDiff, Nat.reduceLT, Nat.reduceSub, Nat.reduceBEq, o7, Ev.row]⟩ (by simp only [stB, reduceIte, reduceCtorEq, Nat.reduceEqDiff, Nat.reduceAdd, Nat.reduceMul, Nat.reduceLeDiff, Nat.reduceLT, Nat.reduceSub, Nat.reduceBEq, g12]) (by simp only [stB, reduceIte, reduceCtorEq, Nat.reduceEqDiff, Nat.reduceAdd, Nat.reduceMul, Nat.reduceLeDiff, Nat.reduceLT, Nat.reduceSub, Nat.reduceBEq, g13])
end Go.Proofs.Ytkdagjlkejefnaa
end
section
set_option linter.unusedSimpArgs false
set_option linter.unusedVariables false
namespace Go.Proofs.Ytkdagjlkejefnaa
open Go Go.RowKit
set_option maxRecDepth 100000
set_option maxHeartbeats 4000000

theorem within_in {ms os ms' os' : List Nat} {s0 b j : St} (h : Within ms os s0 b) (hm : ms'.all (fun x => ms.contains x) = true) (ho : os'.all (fun x => os.contains x) = true) : Within ms os s0 (over ms' os' b j) := by
  have h1 : ∀ x, ms.contains x = false → ms'.contains x = false := fun x hx => by
    cases hc : ms'.contains x with
    | false => rfl
    | true => rw [List.all_eq_true] at hm; rw [hm x (by simpa using hc)] at hx; cases hx
  have h2 : ∀ x, os.contains x = false → os'.contains x = false := fun x hx => by
    cases hc : os'.contains x with
    | false => rfl
    | true => rw [List.all_eq_true] at ho; rw [ho x (by simpa using hc)] at hx; cases hx
  refine ⟨fun x hx => ?_, fun o hx => ⟨?_, ?_⟩⟩
  · rw [over_sl, h1 x hx]; exact h.1 x hx
  · rw [over_gen, h2 o hx]; exact (h.2 o hx).1
  · rw [over_ob, h2 o hx]; exact (h.2 o hx).2
theorem wrL {k : Nat} (h : k ≤ 9223372036854775806) : IntKind.i64.wrap ((k : Int) + 1) = ((k + 1 : Nat) : Int) := by
  rw [wr64 (by omega) (by omega)]; omega
def R_adds (ps rs : List Pa) : Prop := ∃ (s : RSt) (c : List Ev), ps = [s.pa, evsPa c] ∧ ((∃ out, Mid s out) ∧ c.length ≤ 1000000) ∧ rs = [(s.adds c).1.pa, pB (s.adds c).2]
def env_adds : Env := e1 20 R_Add e0
theorem s_adds : Spec Try.prog 36 R_adds := by
  refine sp36 (show EnvOK Try.prog env_adds from EnvOK.e1 s_Add EnvOK.e0) ?_
  rintro ps rs ⟨s, c, rfl, ⟨⟨out, hm⟩, hlen⟩, rfl⟩
  refine ⟨by simp, ?_⟩
  unfold pc36
  refine pwp_start ?_
  simp only [↓evP, evB, stB, reduceIte, reduceCtorEq, Nat.reduceEqDiff, Nat.reduceAdd, Nat.reduceMul, Nat.reduceLeDiff, Nat.reduceLT, Nat.reduceSub, Nat.reduceBEq, evsPa, evsD, RSt.pa, RSt.row]
  refine pwp_loopW ms36_0 os36_0 (fun m st => ∃ k : Nat, ∃ r out', m = c.length - k ∧ k ≤ c.length ∧ Mid r out' ∧ s.adds c = r.adds (c.drop k) ∧ st.sl 6 = aI k ∧ st.gen 2 = 1 ∧ st.ob 2 = .cells (r.row.map .d) ∧ st.gen 4 = 1 ∧ st.ob 4 = .cells [.d (dI 0), .d (dI 0), .d (.sc (.slice none 0 0)), .d (.sc (.slice none 0 0)), .d (.sc (.slice none 0 0)), .d (.sc (.slice none 0 0)), .d (dI 0), .d (dI 0), .d (dI 0)]) c.length ?_ ?_
  · exact ⟨0, s, out, rfl, Nat.zero_le _, hm, rfl, by simp only [stB, reduceIte, reduceCtorEq, Nat.reduceEqDiff, Nat.reduceAdd, Nat.reduceMul, Nat.reduceLeDiff, Nat.reduceLT, Nat.reduceSub, Nat.reduceBEq]; rfl, by simp only [stB, reduceIte, reduceCtorEq, Nat.reduceEqDiff, Nat.reduceAdd, Nat.reduceMul, Nat.reduceLeDiff, Nat.reduceLT, Nat.reduceSub, Nat.reduceBEq], by simp only [stB, reduceIte, reduceCtorEq, Nat.reduceEqDiff, Nat.reduceAdd, Nat.reduceMul, Nat.reduceLeDiff, Nat.reduceLT, Nat.reduceSub, Nat.reduceBEq, RSt.row], by simp only [stB, reduceIte, reduceCtorEq, Nat.reduceEqDiff, Nat.reduceAdd, Nat.reduceMul, Nat.reduceLeDiff, Nat.reduceLT, Nat.reduceSub, Nat.reduceBEq], by simp only [stB, reduceIte, reduceCtorEq, Nat.reduceEqDiff, Nat.reduceAdd, Nat.reduceMul, Nat.reduceLeDiff, Nat.reduceLT, Nat.reduceSub, Nat.reduceBEq]⟩
  · rintro m j ⟨k, r, out', rfl, hk, hmr, hse, h6, g2, o2, g4, o4⟩
    simp only [stB, reduceIte, reduceCtorEq, Nat.reduceEqDiff, Nat.reduceAdd, Nat.reduceMul, Nat.reduceLeDiff, Nat.reduceLT, Nat.reduceSub, Nat.reduceBEq, RSt.row] at h6 g2 o2 g4 o4
    rcases Nat.lt_or_ge k c.length with hlt | hge
    · obtain ⟨e, he⟩ : ∃ e, c[k]? = some e := ⟨_, List.getElem?_eq_getElem hlt⟩
      have hd : c.drop k = e :: c.drop (k + 1) := by rw [List.drop_eq_getElem_cons hlt]; congr 1; rw [List.getElem?_eq_getElem hlt] at he; exact Option.some.inj he
      have hlt' : (k : Int) < (c.length : Int) := by omega
      simp only [↓evP, evB, stB, reduceIte, reduceCtorEq, Nat.reduceEqDiff, Nat.reduceAdd, Nat.reduceMul, Nat.reduceLeDiff, Nat.reduceLT, Nat.reduceSub, Nat.reduceBEq, h6, g2, o2, g4, o4, he, hlt', Ev.row]
      refine callD_intro [(r.addR e).1.pa, pB (r.addR e).2] ⟨r, e, rfl, hmr.ok, rfl⟩ ?_
      cases hb : (r.addR e).2 with
      | true =>
        simp only [↓evP, evB, stB, reduceIte, reduceCtorEq, Nat.reduceEqDiff, Nat.reduceAdd, Nat.reduceMul, Nat.reduceLeDiff, Nat.reduceLT, Nat.reduceSub, Nat.reduceBEq, h6, g2, o2, g4, o4, RSt.pa, RSt.row]
        refine ⟨(by unfold Drw; kernel_rfl), ?_⟩
        exact ⟨_, by omega, (by repeat' (first | assumption | exact within_over.mpr trivial | exact Within.refl _ _ _ | (refine within_ap ?_ rfl rfl) | (refine within_ap0 ?_ rfl))), k + 1, (r.addR e).1, out' ++ [e], rfl, hlt, hmr.step hb, by rw [hse, hd, RSt.adds, if_pos hb], by simp only [stB, reduceIte, reduceCtorEq, Nat.reduceEqDiff, Nat.reduceAdd, Nat.reduceMul, Nat.reduceLeDiff, Nat.reduceLT, Nat.reduceSub, Nat.reduceBEq, h6]; rw [wrN (by omega)], by simp only [stB, reduceIte, reduceCtorEq, Nat.reduceEqDiff, Nat.reduceAdd, Nat.reduceMul, Nat.reduceLeDiff, Nat.reduceLT, Nat.reduceSub, Nat.reduceBEq, g2], by simp only [stB, reduceIte, reduceCtorEq, Nat.reduceEqDiff, Nat.reduceAdd, Nat.reduceMul, Nat.reduceLeDiff, Nat.reduceLT, Nat.reduceSub, Nat.reduceBEq, o2, RSt.row], by simp only [stB, reduceIte, reduceCtorEq, Nat.reduceEqDiff, Nat.reduceAdd, Nat.reduceMul, Nat.reduceLeDiff, Nat.reduceLT, Nat.reduceSub, Nat.reduceBEq, g4], by simp only [stB, reduceIte, reduceCtorEq, Nat.reduceEqDiff, Nat.reduceAdd, Nat.reduceMul, Nat.reduceLeDiff, Nat.reduceLT, Nat.reduceSub, Nat.reduceBEq, o4]⟩
      | false =>
        simp only [↓evP, evB, stB, reduceIte, reduceCtorEq, Nat.reduceEqDiff, Nat.reduceAdd, Nat.reduceMul, Nat.reduceLeDiff, Nat.reduceLT, Nat.reduceSub, Nat.reduceBEq, h6, g2, o2, g4, o4, RSt.pa, RSt.row, pr36]
        refine ⟨(by unfold Drw; kernel_rfl), ?_⟩
        rw [hse, hd, RSt.adds, if_neg (by rw [hb]; decide)]
    · have hkl : k = c.length := by omega
      subst hkl
      rw [List.drop_length] at hse
      have hlt' : ¬ (c.length : Int) < (c.length : Int) := by omega
      simp only [↓evP, evB, stB, reduceIte, reduceCtorEq, Nat.reduceEqDiff, Nat.reduceAdd, Nat.reduceMul, Nat.reduceLeDiff, Nat.reduceLT, Nat.reduceSub, Nat.reduceBEq, h6, g2, o2, g4, o4, hlt', pr36]
      refine ⟨(by unfold Drw; kernel_rfl), ?_⟩
      rw [hse]; rfl

def R_repair (ps rs : List Pa) : Prop := ∃ raw : List Ev, ps = [evsPa raw] ∧ raw.length ≤ 9223372036854775807 ∧ rs = [evsPa (repairL raw)]
def env_repair : Env := e1 19 R_rnew (e1 35 R_mod (e1 34 R_try (e1 36 R_adds e0)))
theorem env_repair_ok : EnvOK Try.prog env_repair := EnvOK.e1 s_rnew (EnvOK.e1 s_mod (EnvOK.e1 s_try (EnvOK.e1 s_adds EnvOK.e0)))
theorem s_repair : Spec Try.prog 16 R_repair := by
  refine sp16 env_repair_ok ?_
  rintro ps rs ⟨raw, rfl, hlen, rfl⟩
  refine ⟨by simp, ?_⟩
  unfold pc16
  refine pwp_start ?_
  simp only [↓evP, evB, stB, reduceIte, reduceCtorEq, Nat.reduceEqDiff, Nat.reduceAdd, Nat.reduceMul, Nat.reduceLeDiff, Nat.reduceLT, Nat.reduceSub, Nat.reduceBEq, evsPa, evsD]
  refine callOps_intro [RSt.new.pa] ⟨rfl, rfl⟩ ?_
  simp only [↓evP, evB, stB, reduceIte, reduceCtorEq, Nat.reduceEqDiff, Nat.reduceAdd, Nat.reduceMul, Nat.reduceLeDiff, Nat.reduceLT, Nat.reduceSub, Nat.reduceBEq, RSt.pa, RSt.row]
  refine pwp_loopW ms16_0 os16_0 (fun m st => ∃ k : Nat, ∃ s out, m = raw.length - k ∧ k ≤ raw.length ∧ Whl s out ∧ out.length ≤ 80 ∧ repairL raw = s.rep out (raw.drop k) ∧ st.sl 5 = aI k ∧ st.gen 3 = 1 ∧ st.ob 3 = .cells (s.row.map .d) ∧ st.gen 4 = 1 ∧ st.sl 4 = .b (.one (.own 4 1 (out.map Ev.row))) ∧ st.ob 4 = .row 31 9 out.length) raw.length ?_ ?_
  · exact ⟨0, RSt.new, [], rfl, Nat.zero_le _, Whl.new, by decide, rfl, by simp only [stB, reduceIte, reduceCtorEq, Nat.reduceEqDiff, Nat.reduceAdd, Nat.reduceMul, Nat.reduceLeDiff, Nat.reduceLT, Nat.reduceSub, Nat.reduceBEq]; rfl, by simp only [stB, reduceIte, reduceCtorEq, Nat.reduceEqDiff, Nat.reduceAdd, Nat.reduceMul, Nat.reduceLeDiff, Nat.reduceLT, Nat.reduceSub, Nat.reduceBEq], by simp only [stB, reduceIte, reduceCtorEq, Nat.reduceEqDiff, Nat.reduceAdd, Nat.reduceMul, Nat.reduceLeDiff, Nat.reduceLT, Nat.reduceSub, Nat.reduceBEq, RSt.row], by simp only [stB, reduceIte, reduceCtorEq, Nat.reduceEqDiff, Nat.reduceAdd, Nat.reduceMul, Nat.reduceLeDiff, Nat.reduceLT, Nat.reduceSub, Nat.reduceBEq], by simp only [stB, reduceIte, reduceCtorEq, Nat.reduceEqDiff, Nat.reduceAdd, Nat.reduceMul, Nat.reduceLeDiff, Nat.reduceLT, Nat.reduceSub, Nat.reduceBEq], by simp only [stB, reduceIte, reduceCtorEq, Nat.reduceEqDiff, Nat.reduceAdd, Nat.reduceMul, Nat.reduceLeDiff, Nat.reduceLT, Nat.reduceSub, Nat.reduceBEq]⟩
  · rintro m j ⟨k, s, out, rfl, hk, hwl, hol, hrep, h5, g3, o3, g4, h4, o4⟩
    simp only [stB, reduceIte, reduceCtorEq, Nat.reduceEqDiff, Nat.reduceAdd, Nat.reduceMul, Nat.reduceLeDiff, Nat.reduceLT, Nat.reduceSub, Nat.reduceBEq, RSt.row] at h5 g3 o3 g4 h4 o4
    rcases Nat.lt_or_ge k raw.length with hlt | hge
    · obtain ⟨e, he⟩ : ∃ e, raw[k]? = some e := ⟨_, List.getElem?_eq_getElem hlt⟩
      have hd : raw.drop k = e :: raw.drop (k + 1) := by rw [List.drop_eq_getElem_cons hlt]; congr 1; rw [List.getElem?_eq_getElem hlt] at he; exact Option.some.inj he
      have hlt' : (k : Int) < (raw.length : Int) := by omega
      by_cases ho : out.length < 76
      · have ho' : (out.length : Int) < 76 := by omega
        have hgor := hwl.gor
        have hgb := gmod_bd e.g (n := s.gor) (by omega)
        simp only [↓evP, evB, stB, reduceIte, reduceCtorEq, Nat.reduceEqDiff, Nat.reduceAdd, Nat.reduceMul, Nat.reduceLeDiff, Nat.reduceLT, Nat.reduceSub, Nat.reduceBEq, h5, g3, o3, g4, h4, o4, he, hlt', ho', decide_true, decide_false, Ev.row]
        refine callD_intro [pI (gmod e.g s.gor)] ⟨_, _, rfl, ⟨by omega, by omega⟩, rfl⟩ ?_
        simp only [↓evP, evB, stB, reduceIte, reduceCtorEq, Nat.reduceEqDiff, Nat.reduceAdd, Nat.reduceMul, Nat.reduceLeDiff, Nat.reduceLT, Nat.reduceSub, Nat.reduceBEq, h5, g3, o3, g4, h4, o4, he]
        refine callD_intro [candsPa (s.cands e (gmod e.g s.gor))] ⟨s, e, _, rfl, ⟨by have := hwl.ok.ch.1; omega, by omega, by omega, by omega, by omega⟩, rfl⟩ ?_
        have hcl := s.cands_le e (gmod e.g s.gor)
        have hstep : s.rep out (raw.drop k) = (s.take1 out (s.cands e (gmod e.g s.gor))).1.rep (s.take1 out (s.cands e (gmod e.g s.gor))).2 (raw.drop (k + 1)) := by rw [hd, RSt.rep, if_pos ho]
        have hwt := hwl.take1 (s.cands e (gmod e.g s.gor)) hcl.2
        generalize hL : s.cands e (gmod e.g s.gor) = L at *
        simp only [↓evP, evB, stB, reduceIte, reduceCtorEq, Nat.reduceEqDiff, Nat.reduceAdd, Nat.reduceMul, Nat.reduceLeDiff, Nat.reduceLT, Nat.reduceSub, Nat.reduceBEq, h5, g3, o3, g4, h4, o4, candsPa]
        refine ⟨(by unfold Drw; kernel_rfl), ?_⟩
        refine pwp_loopW ms16_1 os16_1 (fun m st => ∃ q : Nat, m = L.length - q ∧ q ≤ L.length ∧ s.take1 out L = s.take1 out (L.drop q) ∧ st.sl 7 = aI q ∧ st.gen 3 = 1 ∧ st.ob 3 = .cells (s.row.map .d) ∧ st.gen 4 = 1 ∧ st.sl 4 = .b (.one (.own 4 1 (out.map Ev.row))) ∧ st.ob 4 = .row 31 9 out.length) L.length ?_ ?_
        · exact ⟨0, rfl, Nat.zero_le _, rfl, by simp only [stB, reduceIte, reduceCtorEq, Nat.reduceEqDiff, Nat.reduceAdd, Nat.reduceMul, Nat.reduceLeDiff, Nat.reduceLT, Nat.reduceSub, Nat.reduceBEq]; rfl, by simp only [stB, reduceIte, reduceCtorEq, Nat.reduceEqDiff, Nat.reduceAdd, Nat.reduceMul, Nat.reduceLeDiff, Nat.reduceLT, Nat.reduceSub, Nat.reduceBEq, g3], by simp only [stB, reduceIte, reduceCtorEq, Nat.reduceEqDiff, Nat.reduceAdd, Nat.reduceMul, Nat.reduceLeDiff, Nat.reduceLT, Nat.reduceSub, Nat.reduceBEq, o3, RSt.row], by simp only [stB, reduceIte, reduceCtorEq, Nat.reduceEqDiff, Nat.reduceAdd, Nat.reduceMul, Nat.reduceLeDiff, Nat.reduceLT, Nat.reduceSub, Nat.reduceBEq, g4], by simp only [stB, reduceIte, reduceCtorEq, Nat.reduceEqDiff, Nat.reduceAdd, Nat.reduceMul, Nat.reduceLeDiff, Nat.reduceLT, Nat.reduceSub, Nat.reduceBEq, h4], by simp only [stB, reduceIte, reduceCtorEq, Nat.reduceEqDiff, Nat.reduceAdd, Nat.reduceMul, Nat.reduceLeDiff, Nat.reduceLT, Nat.reduceSub, Nat.reduceBEq, o4]⟩
        · rintro m2 j2 ⟨q, rfl, hq, hte, h7, g3', o3', g4', h4', o4'⟩
          simp only [stB, reduceIte, reduceCtorEq, Nat.reduceEqDiff, Nat.reduceAdd, Nat.reduceMul, Nat.reduceLeDiff, Nat.reduceLT, Nat.reduceSub, Nat.reduceBEq, RSt.row] at h7 g3' o3' g4' h4' o4'
          rcases Nat.lt_or_ge q L.length with hqlt | hqge
          · obtain ⟨c, hc⟩ : ∃ c, L[q]? = some c := ⟨_, List.getElem?_eq_getElem hqlt⟩
            have hqd : L.drop q = c :: L.drop (q + 1) := by rw [List.drop_eq_getElem_cons hqlt]; congr 1; rw [List.getElem?_eq_getElem hqlt] at hc; exact Option.some.inj hc
            have hcl4 := hcl.2 c (List.mem_of_getElem? hc)
            have hqlt' : (q : Int) < (L.length : Int) := by omega
            simp only [↓evP, evB, stB, reduceIte, reduceCtorEq, Nat.reduceEqDiff, Nat.reduceAdd, Nat.reduceMul, Nat.reduceLeDiff, Nat.reduceLT, Nat.reduceSub, Nat.reduceBEq, h5, h7, g3', o3', g4', h4', o4', hc, hqlt', evsD]
            refine callD_intro [(s.adds c).1.pa, pB (s.adds c).2] ⟨s, c, rfl, ⟨⟨out, ⟨hwl.st⟩⟩, by omega⟩, rfl⟩ ?_
            cases hb : (s.adds c).2 with
            | true =>
              have hL1 : (out.map Ev.row).length + (c.map Ev.row).length ≤ 1000000 := by rw [List.length_map, List.length_map]; omega
              have hL2 : out.length + c.length ≤ 1000000 := by omega
              simp only [↓evP, evB, stB, reduceIte, reduceCtorEq, Nat.reduceEqDiff, Nat.reduceAdd, Nat.reduceMul, Nat.reduceLeDiff, Nat.reduceLT, Nat.reduceSub, Nat.reduceBEq, h5, h7, g3', o3', g4', h4', o4', hc, RSt.pa, RSt.row, rows_len (f := Ev.row) (n := 9) (fun _ => rfl) c, hL1, hL2]
              have ht1 : s.take1 out L = ((s.adds c).1, out ++ c) := by rw [hte, hqd, RSt.take1, if_pos hb]
              rw [ht1] at hwt hstep
              refine ⟨(by unfold Drw; kernel_rfl), ?_⟩
              exact ⟨_, by omega, (by repeat' (first | assumption | exact within_over.mpr trivial | (refine within_ap ?_ rfl rfl) | (refine within_ap0 ?_ rfl) | refine within_in ?_ (by decide) (by decide))), k + 1, (s.adds c).1, out ++ c, rfl, hlt, hwt.1, by rw [List.length_append]; omega, by rw [hrep, hstep], by simp only [stB, reduceIte, reduceCtorEq, Nat.reduceEqDiff, Nat.reduceAdd, Nat.reduceMul, Nat.reduceLeDiff, Nat.reduceLT, Nat.reduceSub, Nat.reduceBEq, h5]; rw [wrL (by omega)], by simp only [stB, reduceIte, reduceCtorEq, Nat.reduceEqDiff, Nat.reduceAdd, Nat.reduceMul, Nat.reduceLeDiff, Nat.reduceLT, Nat.reduceSub, Nat.reduceBEq, g3'], by simp only [stB, reduceIte, reduceCtorEq, Nat.reduceEqDiff, Nat.reduceAdd, Nat.reduceMul, Nat.reduceLeDiff, Nat.reduceLT, Nat.reduceSub, Nat.reduceBEq, o3', RSt.row], by simp only [stB, reduceIte, reduceCtorEq, Nat.reduceEqDiff, Nat.reduceAdd, Nat.reduceMul, Nat.reduceLeDiff, Nat.reduceLT, Nat.reduceSub, Nat.reduceBEq, g4'], by simp only [stB, reduceIte, reduceCtorEq, Nat.reduceEqDiff, Nat.reduceAdd, Nat.reduceMul, Nat.reduceLeDiff, Nat.reduceLT, Nat.reduceSub, Nat.reduceBEq, h4', List.map_append], by simp only [stB, reduceIte, reduceCtorEq, Nat.reduceEqDiff, Nat.reduceAdd, Nat.reduceMul, Nat.reduceLeDiff, Nat.reduceLT, Nat.reduceSub, Nat.reduceBEq, o4', List.length_append, List.length_map]⟩
            | false =>
              simp only [↓evP, evB, stB, reduceIte, reduceCtorEq, Nat.reduceEqDiff, Nat.reduceAdd, Nat.reduceMul, Nat.reduceLeDiff, Nat.reduceLT, Nat.reduceSub, Nat.reduceBEq, h5, h7, g3', o3', g4', h4', o4', RSt.pa, RSt.row]
              refine ⟨(by unfold Drw; kernel_rfl), ?_⟩
              exact ⟨_, by omega, (by repeat' (first | assumption | exact within_over.mpr trivial | exact Within.refl _ _ _ | (refine within_ap ?_ rfl rfl) | (refine within_ap0 ?_ rfl))), q + 1, rfl, hqlt, by rw [hte, hqd, RSt.take1, if_neg (by rw [hb]; decide)], by simp only [stB, reduceIte, reduceCtorEq, Nat.reduceEqDiff, Nat.reduceAdd, Nat.reduceMul, Nat.reduceLeDiff, Nat.reduceLT, Nat.reduceSub, Nat.reduceBEq, h7]; rw [wrN (by omega)], by simp only [stB, reduceIte, reduceCtorEq, Nat.reduceEqDiff, Nat.reduceAdd, Nat.reduceMul, Nat.reduceLeDiff, Nat.reduceLT, Nat.reduceSub, Nat.reduceBEq, g3'], by simp only [stB, reduceIte, reduceCtorEq, Nat.reduceEqDiff, Nat.reduceAdd, Nat.reduceMul, Nat.reduceLeDiff, Nat.reduceLT, Nat.reduceSub, Nat.reduceBEq, o3', RSt.row], by simp only [stB, reduceIte, reduceCtorEq, Nat.reduceEqDiff, Nat.reduceAdd, Nat.reduceMul, Nat.reduceLeDiff, Nat.reduceLT, Nat.reduceSub, Nat.reduceBEq, g4'], by simp only [stB, reduceIte, reduceCtorEq, Nat.reduceEqDiff, Nat.reduceAdd, Nat.reduceMul, Nat.reduceLeDiff, Nat.reduceLT, Nat.reduceSub, Nat.reduceBEq, h4'], by simp only [stB, reduceIte, reduceCtorEq, Nat.reduceEqDiff, Nat.reduceAdd, Nat.reduceMul, Nat.reduceLeDiff, Nat.reduceLT, Nat.reduceSub, Nat.reduceBEq, o4']⟩
          · have hql : q = L.length := by omega
            subst hql
            have hqlt' : ¬ (L.length : Int) < (L.length : Int) := by omega
            rw [List.drop_length] at hte
            simp only [↓evP, evB, stB, reduceIte, reduceCtorEq, Nat.reduceEqDiff, Nat.reduceAdd, Nat.reduceMul, Nat.reduceLeDiff, Nat.reduceLT, Nat.reduceSub, Nat.reduceBEq, h5, h7, g3', o3', g4', h4', o4', hqlt']
            have ht1 : s.take1 out L = (s, out) := by rw [hte]; rfl
            rw [ht1] at hwt hstep
            exact ⟨_, by omega, (by repeat' (first | assumption | exact within_over.mpr trivial | (refine within_ap ?_ rfl rfl) | (refine within_ap0 ?_ rfl) | refine within_in ?_ (by decide) (by decide))), k + 1, s, out, rfl, hlt, hwl, hol, by rw [hrep, hstep], by simp only [stB, reduceIte, reduceCtorEq, Nat.reduceEqDiff, Nat.reduceAdd, Nat.reduceMul, Nat.reduceLeDiff, Nat.reduceLT, Nat.reduceSub, Nat.reduceBEq, h5]; rw [wrL (by omega)], by simp only [stB, reduceIte, reduceCtorEq, Nat.reduceEqDiff, Nat.reduceAdd, Nat.reduceMul, Nat.reduceLeDiff, Nat.reduceLT, Nat.reduceSub, Nat.reduceBEq, g3'], by simp only [stB, reduceIte, reduceCtorEq, Nat.reduceEqDiff, Nat.reduceAdd, Nat.reduceMul, Nat.reduceLeDiff, Nat.reduceLT, Nat.reduceSub, Nat.reduceBEq, o3', RSt.row], by simp only [stB, reduceIte, reduceCtorEq, Nat.reduceEqDiff, Nat.reduceAdd, Nat.reduceMul, Nat.reduceLeDiff, Nat.reduceLT, Nat.reduceSub, Nat.reduceBEq, g4'], by simp only [stB, reduceIte, reduceCtorEq, Nat.reduceEqDiff, Nat.reduceAdd, Nat.reduceMul, Nat.reduceLeDiff, Nat.reduceLT, Nat.reduceSub, Nat.reduceBEq, h4'], by simp only [stB, reduceIte, reduceCtorEq, Nat.reduceEqDiff, Nat.reduceAdd, Nat.reduceMul, Nat.reduceLeDiff, Nat.reduceLT, Nat.reduceSub, Nat.reduceBEq, o4']⟩
      · have ho' : ¬ (out.length : Int) < 76 := by omega
        simp only [↓evP, evB, stB, reduceIte, reduceCtorEq, Nat.reduceEqDiff, Nat.reduceAdd, Nat.reduceMul, Nat.reduceLeDiff, Nat.reduceLT, Nat.reduceSub, Nat.reduceBEq, h5, g3, o3, g4, h4, o4, hlt', ho', decide_true, decide_false, pr16]
        rw [hrep, hd, RSt.rep, if_neg ho]
    · have hkl : k = raw.length := by omega
      subst hkl
      rw [List.drop_length] at hrep
      have hlt' : ¬ (raw.length : Int) < (raw.length : Int) := by omega
      simp only [↓evP, evB, stB, reduceIte, reduceCtorEq, Nat.reduceEqDiff, Nat.reduceAdd, Nat.reduceMul, Nat.reduceLeDiff, Nat.reduceLT, Nat.reduceSub, Nat.reduceBEq, h5, g3, o3, g4, h4, o4, hlt', pr16]
      rw [hrep]; rfl
end Go.Proofs.Ytkdagjlkejefnaa
end
section
set_option linter.unusedSimpArgs false
set_option linter.unusedVariables false
namespace Go.Proofs.Ytkdagjlkejefnaa
open Go Go.RowKit
set_option maxRecDepth 100000
set_option maxHeartbeats 4000000

def R_trepaired (ps rs : List Pa) : Prop := ∃ l : List Ev, ps = [evsPa l] ∧ l.length ≤ 9223372036854775807 ∧ rs = [pB true]
def env_trepaired : Env := e1 12 R_awake (e1 16 R_repair (e1 13 R_rcheck (e1 17 R_rwhole e0)))
theorem env_trepaired_ok : EnvOK Try.prog env_trepaired := EnvOK.e1 s_awake (EnvOK.e1 s_repair (EnvOK.e1 s_tCheck (EnvOK.e1 s_tWhole EnvOK.e0)))
theorem s_trepaired : Spec Try.prog 4 R_trepaired := by
  refine sp4 env_trepaired_ok ?_
  rintro ps rs ⟨l, rfl, hlen, rfl⟩
  refine ⟨by simp, ?_⟩
  obtain ⟨s, hg, hl⟩ := repair_good l
  unfold pc4
  refine pwp_start ?_
  simp only [↓evP, evB, stB, reduceIte, reduceCtorEq, Nat.reduceEqDiff, Nat.reduceAdd, Nat.reduceMul, Nat.reduceLeDiff, Nat.reduceLT, Nat.reduceSub, Nat.reduceBEq, evsPa, evsD]
  refine callOps_intro [pB true] ⟨rfl, rfl⟩ ?_
  simp only [↓evP, evB, stB, reduceIte, reduceCtorEq, Nat.reduceEqDiff, Nat.reduceAdd, Nat.reduceMul, Nat.reduceLeDiff, Nat.reduceLT, Nat.reduceSub, Nat.reduceBEq, pr4]
  refine callOps_intro [evsPa (repairL l)] ⟨l, rfl, hlen, rfl⟩ ?_
  generalize repairL l = m at *
  simp only [↓evP, evB, stB, reduceIte, reduceCtorEq, Nat.reduceEqDiff, Nat.reduceAdd, Nat.reduceMul, Nat.reduceLeDiff, Nat.reduceLT, Nat.reduceSub, Nat.reduceBEq, evsPa, evsD]
  refine callOps_intro [pI (chk m), pB (decide (chk m = m.length))] ⟨m, rfl, by omega, rfl⟩ ?_
  rw [hg.chk, decide_eq_true rfl]
  simp only [↓evP, evB, stB, reduceIte, reduceCtorEq, Nat.reduceEqDiff, Nat.reduceAdd, Nat.reduceMul, Nat.reduceLeDiff, Nat.reduceLT, Nat.reduceSub, Nat.reduceBEq, beq_self_eq_true]
  refine callOps_intro [pI (wholeOf m)] ⟨m, rfl, by omega, rfl⟩ ?_
  rw [hg.whole]
  simp only [↓evP, evB, stB, reduceIte, reduceCtorEq, Nat.reduceEqDiff, Nat.reduceAdd, Nat.reduceMul, Nat.reduceLeDiff, Nat.reduceLT, Nat.reduceSub, Nat.reduceBEq, beq_self_eq_true]
end Go.Proofs.Ytkdagjlkejefnaa
end
