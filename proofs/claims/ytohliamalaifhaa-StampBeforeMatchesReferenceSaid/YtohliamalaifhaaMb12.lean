/- The reference of chapter 20: Name, Valid, Channel. -/
import Derived.Test.YtohliamalaifhaaMb11
section
set_option linter.unusedSimpArgs false
set_option linter.unusedVariables false
namespace Go.Proofs.Ytohliamalaifhaa
open Go Go.RowKit
set_option maxRecDepth 100000
set_option maxHeartbeats 4000000

def R_channel20 (ps rs : List Pa) : Prop := ∃ k : Int, ps = [pI k] ∧ rs = [pB (chanB k)]
theorem s_channel20 : Spec Try.prog 32 R_channel20 := by
  refine sp32 EnvOK.e0 ?_
  rintro ps rs ⟨k, rfl, rfl⟩
  refine ⟨by simp, ?_⟩
  unfold pc32
  refine pwp_start ?_
  simp only [↓evP, evB, stB, reduceIte, reduceCtorEq, Nat.reduceEqDiff, Nat.reduceAdd, Nat.reduceMul, Nat.reduceLeDiff, Nat.reduceLT, Nat.reduceSub, Nat.reduceBEq, pr32]
  refine ⟨fun h => ?_, fun h => ?_⟩
  · unfold chanB; rw [decide_eq_decide.2 (show (15 ≤ k ∧ k ≤ 20) ↔ k ≤ 20 from ⟨fun h => h.2, fun h2 => ⟨h, h2⟩⟩)]
  · unfold chanB; rw [decide_eq_false (fun h2 => h h2.1)]
/-- the names of the kinds -/
def kindNames : List ByteArray := [⟨#[]⟩, ⟨#[114, 101, 97, 100]⟩, ⟨#[119, 114, 105, 116, 101]⟩, ⟨#[97, 116, 111, 109, 105, 99, 45, 114, 101, 97, 100]⟩, ⟨#[97, 116, 111, 109, 105, 99, 45, 119, 114, 105, 116, 101]⟩, ⟨#[97, 116, 111, 109, 105, 99, 45, 98, 111, 116, 104]⟩, ⟨#[108, 111, 99, 107]⟩, ⟨#[117, 110, 108, 111, 99, 107]⟩, ⟨#[114, 108, 111, 99, 107]⟩, ⟨#[114, 117, 110, 108, 111, 99, 107]⟩, ⟨#[100, 111, 110, 101]⟩, ⟨#[119, 97, 105, 116]⟩, ⟨#[111, 110, 99, 101, 45, 101, 110, 100]⟩, ⟨#[111, 110, 99, 101, 45, 115, 101, 101, 110]⟩, ⟨#[103, 111]⟩, ⟨#[115, 101, 110, 100, 45, 115, 116, 97, 114, 116]⟩, ⟨#[115, 101, 110, 100, 45, 101, 110, 100]⟩, ⟨#[114, 101, 99, 118, 45, 115, 116, 97, 114, 116]⟩, ⟨#[114, 101, 99, 118, 45, 101, 110, 100]⟩, ⟨#[99, 108, 111, 115, 101]⟩, ⟨#[114, 101, 99, 118, 45, 99, 108, 111, 115, 101, 100]⟩]
def R_name (ps rs : List Pa) : Prop := ∃ k : Int, ps = [pI k] ∧ ∃ s, rs = [.one (.sc (.string s))] ∧ s = (if k < 1 ∨ 20 < k then ⟨#[]⟩ else (kindNames[k.toNat]?).getD ⟨#[]⟩)
theorem s_name : Spec Try.prog 38 R_name := by
  refine sp38 EnvOK.e0 ?_
  rintro ps rs ⟨k, rfl, s, rfl, hs⟩
  refine ⟨by simp, ?_⟩
  unfold pc38
  refine pwp_start ?_
  by_cases h1 : k < 1
  · rw [if_pos (.inl h1)] at hs
    subst hs
    simp only [↓evP, evB, stB, reduceIte, reduceCtorEq, Nat.reduceEqDiff, Nat.reduceAdd, Nat.reduceMul, Nat.reduceLeDiff, Nat.reduceLT, Nat.reduceSub, Nat.reduceBEq, h1, pr38]
  by_cases h2 : k > 20
  · rw [if_pos (.inr h2)] at hs
    subst hs
    simp only [↓evP, evB, stB, reduceIte, reduceCtorEq, Nat.reduceEqDiff, Nat.reduceAdd, Nat.reduceMul, Nat.reduceLeDiff, Nat.reduceLT, Nat.reduceSub, Nat.reduceBEq, h1, h2, decide_true, decide_false, pr38]
  rw [if_neg (fun h => h.elim h1 h2)] at hs
  obtain ⟨m, rfl⟩ := Int.eq_ofNat_of_zero_le (show 0 ≤ k by omega)
  obtain ⟨u, hu⟩ : ∃ u, kindNames[m]? = some u := ⟨_, List.getElem?_eq_getElem (by show m < 21; omega)⟩
  rw [Int.toNat_natCast, hu, Option.getD_some] at hs
  subst hs
  have hrow : (kindNames.map fun x => [Dt.sc (.string x)])[m]? = some [.sc (.string s)] := by rw [List.getElem?_map, hu]; rfl
  unfold kindNames at hrow
  simp only [List.map_cons, List.map_nil] at hrow
  simp only [↓evP, evB, stB, reduceIte, reduceCtorEq, Nat.reduceEqDiff, Nat.reduceAdd, Nat.reduceMul, Nat.reduceLeDiff, Nat.reduceLT, Nat.reduceSub, Nat.reduceBEq, h1, h2, decide_true, decide_false, hrow, pr38]
end Go.Proofs.Ytohliamalaifhaa
end
section
set_option linter.unusedSimpArgs false
set_option linter.unusedVariables false
namespace Go.Proofs.Ytohliamalaifhaa
open Go Go.RowKit
set_option maxRecDepth 100000
set_option maxHeartbeats 4000000

def R_valid20 (ps rs : List Pa) : Prop := ∃ e : Ev, ps = [e.pa] ∧ rs = [pB e.valid]
def env_valid20 : Env := e1 38 R_name e0
theorem env_valid20_ok : EnvOK Try.prog env_valid20 := EnvOK.e1 s_name EnvOK.e0

theorem valid20_c1 {e : Ev} (hr : 0 ≤ e.k) (Q : Exit → St → Prop)
    (hQ : ∀ st, st.res pr30 = some [pB (decide (e.obj = 0 ∧ e.off = 0 ∧ e.n = 0 ∧ 1 ≤ e.k ∧ e.k < 8))] → Q .ret st) (st : St)
    (h1 : st.sl 1 = .b (.one (.ptr 1 1 0))) (g1 : st.gen 1 = 1) (o1 : st.ob 1 = .cells (e.row.map .d)) :
    pwp env_valid20 pc30c1 (exS env_valid20 [It.bl 2, It.c pc30c0] Q) st := by
  simp only [Ev.row, List.map_cons, List.map_nil] at o1
  unfold pc30c1
  simp only [↓evP, evB, stB, reduceIte, reduceCtorEq, Nat.reduceEqDiff, Nat.reduceAdd, Nat.reduceMul, Nat.reduceLeDiff, Nat.reduceLT, Nat.reduceSub, Nat.reduceBEq, h1, g1, o1]
  repeat' (first | apply And.intro | intro)
  all_goals (refine hQ _ ?_; simp only [stB, reduceIte, reduceCtorEq, Nat.reduceEqDiff, Nat.reduceAdd, Nat.reduceMul, Nat.reduceLeDiff, Nat.reduceLT, Nat.reduceSub, Nat.reduceBEq, pr30]; refine congrArg (fun b => some [pB b]) (Bool.eq_iff_iff.2 ?_); simp only [beq_iff_eq, beq_eq_false_iff_ne, ne_eq, decide_eq_true_eq, decide_eq_false_iff_not, Bool.false_eq_true, reduceCtorEq, false_iff, true_iff, iff_false, iff_true] at *; omega)
theorem valid20_c2 {e : Ev} (hr : 0 ≤ e.k) (Q : Exit → St → Prop)
    (hQ : ∀ st, st.res pr30 = some [pB (decide (e.off = 0 ∧ e.n ≤ 64))] → Q .ret st) (st : St)
    (h1 : st.sl 1 = .b (.one (.ptr 1 1 0))) (g1 : st.gen 1 = 1) (o1 : st.ob 1 = .cells (e.row.map .d)) :
    pwp env_valid20 pc30c2 (exS env_valid20 [It.bl 2, It.c pc30c0] Q) st := by
  simp only [Ev.row, List.map_cons, List.map_nil] at o1
  unfold pc30c2
  simp only [↓evP, evB, stB, reduceIte, reduceCtorEq, Nat.reduceEqDiff, Nat.reduceAdd, Nat.reduceMul, Nat.reduceLeDiff, Nat.reduceLT, Nat.reduceSub, Nat.reduceBEq, h1, g1, o1]
  repeat' (first | apply And.intro | intro)
  all_goals (refine hQ _ ?_; simp only [stB, reduceIte, reduceCtorEq, Nat.reduceEqDiff, Nat.reduceAdd, Nat.reduceMul, Nat.reduceLeDiff, Nat.reduceLT, Nat.reduceSub, Nat.reduceBEq, pr30]; refine congrArg (fun b => some [pB b]) (Bool.eq_iff_iff.2 ?_); simp only [beq_iff_eq, beq_eq_false_iff_ne, ne_eq, decide_eq_true_eq, decide_eq_false_iff_not, Bool.false_eq_true, reduceCtorEq, false_iff, true_iff, iff_false, iff_true] at *; omega)
theorem valid20_c3 {e : Ev} (hr : 0 ≤ e.k) (Q : Exit → St → Prop)
    (hQ : ∀ st, st.res pr30 = some [pB (decide (e.off = 0 ∧ e.n ≤ 64 ∧ e.k = 0))] → Q .ret st) (st : St)
    (h1 : st.sl 1 = .b (.one (.ptr 1 1 0))) (g1 : st.gen 1 = 1) (o1 : st.ob 1 = .cells (e.row.map .d)) :
    pwp env_valid20 pc30c3 (exS env_valid20 [It.bl 2, It.c pc30c0] Q) st := by
  simp only [Ev.row, List.map_cons, List.map_nil] at o1
  unfold pc30c3
  simp only [↓evP, evB, stB, reduceIte, reduceCtorEq, Nat.reduceEqDiff, Nat.reduceAdd, Nat.reduceMul, Nat.reduceLeDiff, Nat.reduceLT, Nat.reduceSub, Nat.reduceBEq, h1, g1, o1]
  repeat' (first | apply And.intro | intro)
  all_goals (refine hQ _ ?_; simp only [stB, reduceIte, reduceCtorEq, Nat.reduceEqDiff, Nat.reduceAdd, Nat.reduceMul, Nat.reduceLeDiff, Nat.reduceLT, Nat.reduceSub, Nat.reduceBEq, pr30]; refine congrArg (fun b => some [pB b]) (Bool.eq_iff_iff.2 ?_); simp only [beq_iff_eq, beq_eq_false_iff_ne, ne_eq, decide_eq_true_eq, decide_eq_false_iff_not, Bool.false_eq_true, reduceCtorEq, false_iff, true_iff, iff_false, iff_true] at *; omega)
theorem valid20_c0 {e : Ev} (hr : 0 ≤ e.k) (Q : Exit → St → Prop)
    (hQ : ∀ st, st.res pr30 = some [pB (decide (e.k = 0 ∧ e.n = 0))] → Q .ret st) (st : St)
    (h1 : st.sl 1 = .b (.one (.ptr 1 1 0))) (g1 : st.gen 1 = 1) (o1 : st.ob 1 = .cells (e.row.map .d)) :
    pwp env_valid20 pc30c0 (exS env_valid20 [] Q) st := by
  simp only [Ev.row, List.map_cons, List.map_nil] at o1
  unfold pc30c0
  simp only [↓evP, evB, stB, reduceIte, reduceCtorEq, Nat.reduceEqDiff, Nat.reduceAdd, Nat.reduceMul, Nat.reduceLeDiff, Nat.reduceLT, Nat.reduceSub, Nat.reduceBEq, h1, g1, o1]
  repeat' (first | apply And.intro | intro)
  all_goals (refine hQ _ ?_; simp only [stB, reduceIte, reduceCtorEq, Nat.reduceEqDiff, Nat.reduceAdd, Nat.reduceMul, Nat.reduceLeDiff, Nat.reduceLT, Nat.reduceSub, Nat.reduceBEq, pr30]; refine congrArg (fun b => some [pB b]) (Bool.eq_iff_iff.2 ?_); simp only [beq_iff_eq, beq_eq_false_iff_ne, ne_eq, decide_eq_true_eq, decide_eq_false_iff_not, Bool.false_eq_true, reduceCtorEq, false_iff, true_iff, iff_false, iff_true] at *; omega)

theorem valid20_tail {e : Ev} (hk : 1 ≤ e.kind) (hk2 : e.kind ≤ 20) (hr : rangeB e.k = true) (Q : Exit → St → Prop)
    (hQ : ∀ st, st.res pr30 = some [pB e.rest] → Q .ret st) (st : St)
    (h1 : st.sl 1 = .b (.one (.ptr 1 1 0))) (g1 : st.gen 1 = 1) (o1 : st.ob 1 = .cells (e.row.map .d)) :
    pwp env_valid20 pc30c7 (exS env_valid20 [] Q) st := by
  have o1' := o1
  simp only [Ev.row, List.map_cons, List.map_nil] at o1
  have hr' : 0 ≤ e.k := by unfold rangeB at hr; simp at hr; omega
  unfold pc30c7 pc30c6
  cases k14 : (e.kind == 14) with
  | true =>
    simp only [↓evP, evB, stB, reduceIte, reduceCtorEq, Nat.reduceEqDiff, Nat.reduceAdd, Nat.reduceMul, Nat.reduceLeDiff, Nat.reduceLT, Nat.reduceSub, Nat.reduceBEq, h1, g1, o1, k14]
    have hre : e.rest = decide (e.obj = 0 ∧ e.off = 0 ∧ e.n = 0 ∧ 1 ≤ e.k ∧ e.k < 8) := by unfold Ev.rest; rw [if_pos (beq_iff_eq.1 k14)]
    rw [hre] at hQ
    exact valid20_c1 hr' Q hQ _ (by simp only [stB, reduceIte, reduceCtorEq, Nat.reduceEqDiff, Nat.reduceAdd, Nat.reduceMul, Nat.reduceLeDiff, Nat.reduceLT, Nat.reduceSub, Nat.reduceBEq, h1]) (by simp only [stB, reduceIte, reduceCtorEq, Nat.reduceEqDiff, Nat.reduceAdd, Nat.reduceMul, Nat.reduceLeDiff, Nat.reduceLT, Nat.reduceSub, Nat.reduceBEq, g1]) (by simp only [stB, reduceIte, reduceCtorEq, Nat.reduceEqDiff, Nat.reduceAdd, Nat.reduceMul, Nat.reduceLeDiff, Nat.reduceLT, Nat.reduceSub, Nat.reduceBEq, o1, Ev.row])
  | false =>
  have n14 := beq_eq_false_iff_ne.1 k14
  cases k15 : (e.kind == 15) with
  | true =>
    simp only [↓evP, evB, stB, reduceIte, reduceCtorEq, Nat.reduceEqDiff, Nat.reduceAdd, Nat.reduceMul, Nat.reduceLeDiff, Nat.reduceLT, Nat.reduceSub, Nat.reduceBEq, h1, g1, o1, k14]
    unfold pc30c5
    simp only [↓evP, evB, stB, reduceIte, reduceCtorEq, Nat.reduceEqDiff, Nat.reduceAdd, Nat.reduceMul, Nat.reduceLeDiff, Nat.reduceLT, Nat.reduceSub, Nat.reduceBEq, h1, g1, o1, k14, k15]
    have hre : e.rest = decide (e.off = 0 ∧ e.n ≤ 64) := by unfold Ev.rest; rw [if_neg n14, if_pos (by have := beq_iff_eq.1 k15; omega)]
    rw [hre] at hQ
    exact valid20_c2 hr' Q hQ _ (by simp only [stB, reduceIte, reduceCtorEq, Nat.reduceEqDiff, Nat.reduceAdd, Nat.reduceMul, Nat.reduceLeDiff, Nat.reduceLT, Nat.reduceSub, Nat.reduceBEq, h1]) (by simp only [stB, reduceIte, reduceCtorEq, Nat.reduceEqDiff, Nat.reduceAdd, Nat.reduceMul, Nat.reduceLeDiff, Nat.reduceLT, Nat.reduceSub, Nat.reduceBEq, g1]) (by simp only [stB, reduceIte, reduceCtorEq, Nat.reduceEqDiff, Nat.reduceAdd, Nat.reduceMul, Nat.reduceLeDiff, Nat.reduceLT, Nat.reduceSub, Nat.reduceBEq, o1, Ev.row])
  | false =>
  have n15 := beq_eq_false_iff_ne.1 k15
  cases k16 : (e.kind == 16) with
  | true =>
    simp only [↓evP, evB, stB, reduceIte, reduceCtorEq, Nat.reduceEqDiff, Nat.reduceAdd, Nat.reduceMul, Nat.reduceLeDiff, Nat.reduceLT, Nat.reduceSub, Nat.reduceBEq, h1, g1, o1, k14]
    unfold pc30c5
    simp only [↓evP, evB, stB, reduceIte, reduceCtorEq, Nat.reduceEqDiff, Nat.reduceAdd, Nat.reduceMul, Nat.reduceLeDiff, Nat.reduceLT, Nat.reduceSub, Nat.reduceBEq, h1, g1, o1, k14, k15, k16]
    have hre : e.rest = decide (e.off = 0 ∧ e.n ≤ 64) := by unfold Ev.rest; rw [if_neg n14, if_pos (by have := beq_iff_eq.1 k16; omega)]
    rw [hre] at hQ
    exact valid20_c2 hr' Q hQ _ (by simp only [stB, reduceIte, reduceCtorEq, Nat.reduceEqDiff, Nat.reduceAdd, Nat.reduceMul, Nat.reduceLeDiff, Nat.reduceLT, Nat.reduceSub, Nat.reduceBEq, h1]) (by simp only [stB, reduceIte, reduceCtorEq, Nat.reduceEqDiff, Nat.reduceAdd, Nat.reduceMul, Nat.reduceLeDiff, Nat.reduceLT, Nat.reduceSub, Nat.reduceBEq, g1]) (by simp only [stB, reduceIte, reduceCtorEq, Nat.reduceEqDiff, Nat.reduceAdd, Nat.reduceMul, Nat.reduceLeDiff, Nat.reduceLT, Nat.reduceSub, Nat.reduceBEq, o1, Ev.row])
  | false =>
  have n16 := beq_eq_false_iff_ne.1 k16
  cases k17 : (e.kind == 17) with
  | true =>
    simp only [↓evP, evB, stB, reduceIte, reduceCtorEq, Nat.reduceEqDiff, Nat.reduceAdd, Nat.reduceMul, Nat.reduceLeDiff, Nat.reduceLT, Nat.reduceSub, Nat.reduceBEq, h1, g1, o1, k14]
    unfold pc30c5
    simp only [↓evP, evB, stB, reduceIte, reduceCtorEq, Nat.reduceEqDiff, Nat.reduceAdd, Nat.reduceMul, Nat.reduceLeDiff, Nat.reduceLT, Nat.reduceSub, Nat.reduceBEq, h1, g1, o1, k14, k15, k16, k17]
    have hre : e.rest = decide (e.off = 0 ∧ e.n ≤ 64) := by unfold Ev.rest; rw [if_neg n14, if_pos (by have := beq_iff_eq.1 k17; omega)]
    rw [hre] at hQ
    exact valid20_c2 hr' Q hQ _ (by simp only [stB, reduceIte, reduceCtorEq, Nat.reduceEqDiff, Nat.reduceAdd, Nat.reduceMul, Nat.reduceLeDiff, Nat.reduceLT, Nat.reduceSub, Nat.reduceBEq, h1]) (by simp only [stB, reduceIte, reduceCtorEq, Nat.reduceEqDiff, Nat.reduceAdd, Nat.reduceMul, Nat.reduceLeDiff, Nat.reduceLT, Nat.reduceSub, Nat.reduceBEq, g1]) (by simp only [stB, reduceIte, reduceCtorEq, Nat.reduceEqDiff, Nat.reduceAdd, Nat.reduceMul, Nat.reduceLeDiff, Nat.reduceLT, Nat.reduceSub, Nat.reduceBEq, o1, Ev.row])
  | false =>
  have n17 := beq_eq_false_iff_ne.1 k17
  cases k18 : (e.kind == 18) with
  | true =>
    simp only [↓evP, evB, stB, reduceIte, reduceCtorEq, Nat.reduceEqDiff, Nat.reduceAdd, Nat.reduceMul, Nat.reduceLeDiff, Nat.reduceLT, Nat.reduceSub, Nat.reduceBEq, h1, g1, o1, k14]
    unfold pc30c5
    simp only [↓evP, evB, stB, reduceIte, reduceCtorEq, Nat.reduceEqDiff, Nat.reduceAdd, Nat.reduceMul, Nat.reduceLeDiff, Nat.reduceLT, Nat.reduceSub, Nat.reduceBEq, h1, g1, o1, k14, k15, k16, k17, k18]
    have hre : e.rest = decide (e.off = 0 ∧ e.n ≤ 64) := by unfold Ev.rest; rw [if_neg n14, if_pos (by have := beq_iff_eq.1 k18; omega)]
    rw [hre] at hQ
    exact valid20_c2 hr' Q hQ _ (by simp only [stB, reduceIte, reduceCtorEq, Nat.reduceEqDiff, Nat.reduceAdd, Nat.reduceMul, Nat.reduceLeDiff, Nat.reduceLT, Nat.reduceSub, Nat.reduceBEq, h1]) (by simp only [stB, reduceIte, reduceCtorEq, Nat.reduceEqDiff, Nat.reduceAdd, Nat.reduceMul, Nat.reduceLeDiff, Nat.reduceLT, Nat.reduceSub, Nat.reduceBEq, g1]) (by simp only [stB, reduceIte, reduceCtorEq, Nat.reduceEqDiff, Nat.reduceAdd, Nat.reduceMul, Nat.reduceLeDiff, Nat.reduceLT, Nat.reduceSub, Nat.reduceBEq, o1, Ev.row])
  | false =>
  have n18 := beq_eq_false_iff_ne.1 k18
  cases k19 : (e.kind == 19) with
  | true =>
    simp only [↓evP, evB, stB, reduceIte, reduceCtorEq, Nat.reduceEqDiff, Nat.reduceAdd, Nat.reduceMul, Nat.reduceLeDiff, Nat.reduceLT, Nat.reduceSub, Nat.reduceBEq, h1, g1, o1, k14]
    unfold pc30c5
    simp only [↓evP, evB, stB, reduceIte, reduceCtorEq, Nat.reduceEqDiff, Nat.reduceAdd, Nat.reduceMul, Nat.reduceLeDiff, Nat.reduceLT, Nat.reduceSub, Nat.reduceBEq, h1, g1, o1, k14, k15, k16, k17, k18]
    unfold pc30c4
    simp only [↓evP, evB, stB, reduceIte, reduceCtorEq, Nat.reduceEqDiff, Nat.reduceAdd, Nat.reduceMul, Nat.reduceLeDiff, Nat.reduceLT, Nat.reduceSub, Nat.reduceBEq, h1, g1, o1, k14, k15, k16, k17, k18, k19]
    have hre : e.rest = decide (e.off = 0 ∧ e.n ≤ 64 ∧ e.k = 0) := by unfold Ev.rest; rw [if_neg n14, if_neg (by omega), if_pos (by have := beq_iff_eq.1 k19; omega)]
    rw [hre] at hQ
    exact valid20_c3 hr' Q hQ _ (by simp only [stB, reduceIte, reduceCtorEq, Nat.reduceEqDiff, Nat.reduceAdd, Nat.reduceMul, Nat.reduceLeDiff, Nat.reduceLT, Nat.reduceSub, Nat.reduceBEq, h1]) (by simp only [stB, reduceIte, reduceCtorEq, Nat.reduceEqDiff, Nat.reduceAdd, Nat.reduceMul, Nat.reduceLeDiff, Nat.reduceLT, Nat.reduceSub, Nat.reduceBEq, g1]) (by simp only [stB, reduceIte, reduceCtorEq, Nat.reduceEqDiff, Nat.reduceAdd, Nat.reduceMul, Nat.reduceLeDiff, Nat.reduceLT, Nat.reduceSub, Nat.reduceBEq, o1, Ev.row])
  | false =>
  have n19 := beq_eq_false_iff_ne.1 k19
  cases k20 : (e.kind == 20) with
  | true =>
    simp only [↓evP, evB, stB, reduceIte, reduceCtorEq, Nat.reduceEqDiff, Nat.reduceAdd, Nat.reduceMul, Nat.reduceLeDiff, Nat.reduceLT, Nat.reduceSub, Nat.reduceBEq, h1, g1, o1, k14]
    unfold pc30c5
    simp only [↓evP, evB, stB, reduceIte, reduceCtorEq, Nat.reduceEqDiff, Nat.reduceAdd, Nat.reduceMul, Nat.reduceLeDiff, Nat.reduceLT, Nat.reduceSub, Nat.reduceBEq, h1, g1, o1, k14, k15, k16, k17, k18]
    unfold pc30c4
    simp only [↓evP, evB, stB, reduceIte, reduceCtorEq, Nat.reduceEqDiff, Nat.reduceAdd, Nat.reduceMul, Nat.reduceLeDiff, Nat.reduceLT, Nat.reduceSub, Nat.reduceBEq, h1, g1, o1, k14, k15, k16, k17, k18, k19, k20]
    have hre : e.rest = decide (e.off = 0 ∧ e.n ≤ 64 ∧ e.k = 0) := by unfold Ev.rest; rw [if_neg n14, if_neg (by omega), if_pos (by have := beq_iff_eq.1 k20; omega)]
    rw [hre] at hQ
    exact valid20_c3 hr' Q hQ _ (by simp only [stB, reduceIte, reduceCtorEq, Nat.reduceEqDiff, Nat.reduceAdd, Nat.reduceMul, Nat.reduceLeDiff, Nat.reduceLT, Nat.reduceSub, Nat.reduceBEq, h1]) (by simp only [stB, reduceIte, reduceCtorEq, Nat.reduceEqDiff, Nat.reduceAdd, Nat.reduceMul, Nat.reduceLeDiff, Nat.reduceLT, Nat.reduceSub, Nat.reduceBEq, g1]) (by simp only [stB, reduceIte, reduceCtorEq, Nat.reduceEqDiff, Nat.reduceAdd, Nat.reduceMul, Nat.reduceLeDiff, Nat.reduceLT, Nat.reduceSub, Nat.reduceBEq, o1, Ev.row])
  | false =>
  have n20 := beq_eq_false_iff_ne.1 k20
  simp only [↓evP, evB, stB, reduceIte, reduceCtorEq, Nat.reduceEqDiff, Nat.reduceAdd, Nat.reduceMul, Nat.reduceLeDiff, Nat.reduceLT, Nat.reduceSub, Nat.reduceBEq, h1, g1, o1, k14]
  unfold pc30c5
  simp only [↓evP, evB, stB, reduceIte, reduceCtorEq, Nat.reduceEqDiff, Nat.reduceAdd, Nat.reduceMul, Nat.reduceLeDiff, Nat.reduceLT, Nat.reduceSub, Nat.reduceBEq, h1, g1, o1, k14, k15, k16, k17, k18]
  unfold pc30c4
  simp only [↓evP, evB, stB, reduceIte, reduceCtorEq, Nat.reduceEqDiff, Nat.reduceAdd, Nat.reduceMul, Nat.reduceLeDiff, Nat.reduceLT, Nat.reduceSub, Nat.reduceBEq, h1, g1, o1, k14, k15, k16, k17, k18, k19, k20]
  have hre : e.rest = decide (e.k = 0 ∧ e.n = 0) := by unfold Ev.rest; rw [if_neg n14, if_neg (by omega), if_neg (by omega)]
  rw [hre] at hQ
  exact valid20_c0 hr' Q hQ _ (by simp only [stB, reduceIte, reduceCtorEq, Nat.reduceEqDiff, Nat.reduceAdd, Nat.reduceMul, Nat.reduceLeDiff, Nat.reduceLT, Nat.reduceSub, Nat.reduceBEq, h1]) (by simp only [stB, reduceIte, reduceCtorEq, Nat.reduceEqDiff, Nat.reduceAdd, Nat.reduceMul, Nat.reduceLeDiff, Nat.reduceLT, Nat.reduceSub, Nat.reduceBEq, g1]) (by simp only [stB, reduceIte, reduceCtorEq, Nat.reduceEqDiff, Nat.reduceAdd, Nat.reduceMul, Nat.reduceLeDiff, Nat.reduceLT, Nat.reduceSub, Nat.reduceBEq, o1, Ev.row])

theorem ba_loop (bs : ByteArray) : ∀ n i r, bs.size - i = n → ByteArray.toList.loop bs i r = r.reverse ++ bs.data.toList.drop i := by
  intro n
  induction n with
  | zero =>
    intro i r h
    unfold ByteArray.toList.loop
    rw [if_neg (by omega), List.drop_eq_nil_of_le (by show bs.data.toList.length ≤ i; rw [Array.length_toList]; show bs.size ≤ i; omega), List.append_nil]
  | succ n ih =>
    intro i r h
    have hi : i < bs.data.toList.length := by rw [Array.length_toList]; show i < bs.size; omega
    unfold ByteArray.toList.loop
    rw [if_pos (by omega), ih (i + 1) _ (by omega), List.drop_eq_getElem_cons hi, List.reverse_cons, List.append_assoc]
    congr 1
    show bs.get! i :: _ = _
    congr 1
    show bs.data[i]! = _
    rw [getElem!_pos bs.data i (by simpa using hi)]
    rfl
theorem ba_toList (bs : ByteArray) : bs.toList = bs.data.toList := by
  unfold ByteArray.toList
  rw [ba_loop bs _ 0 [] rfl]; rfl
def Ev.fields (e : Ev) : List Int := [e.obj, e.off, e.k, e.n, e.fn, e.pc, e.stack]
def kname (k : Int) : ByteArray := if k < 1 ∨ 20 < k then ⟨#[]⟩ else (kindNames[k.toNat]?).getD ⟨#[]⟩
theorem kname_empty (k : Int) : ((kname k).toList == (⟨#[]⟩ : ByteArray).toList) = !isKindB k := by
  unfold kname isKindB
  by_cases h : k < 1 ∨ 20 < k
  · rw [if_pos h, decide_eq_false (by omega), ba_toList]; decide
  · rw [if_neg h, decide_eq_true (by omega)]
    obtain ⟨m, rfl⟩ := Int.eq_ofNat_of_zero_le (show 0 ≤ k by omega)
    rw [Int.toNat_natCast]
    have : ∀ m : Fin 21, 1 ≤ m.val → (((kindNames[m.val]?).getD ⟨#[]⟩).data.toList == (⟨#[]⟩ : ByteArray).data.toList) = false := by decide +kernel
    rw [ba_toList, ba_toList]
    exact this ⟨m, by omega⟩ (by show 1 ≤ m; omega)
theorem Ev.valid_eq (e : Ev) : e.valid = (isKindB e.kind && decide (0 ≤ e.g ∧ e.g < 8) && e.fields.all rangeB && e.rest) := by
  unfold Ev.valid Ev.fields
  simp only [List.all_cons, List.all_nil, Bool.and_true, Bool.and_assoc]
theorem s_valid20 : Spec Try.prog 30 R_valid20 := by
  refine sp30 env_valid20_ok ?_
  rintro ps rs ⟨e, rfl, rfl⟩
  refine ⟨by simp, ?_⟩
  unfold pc30
  refine pwp_start ?_
  by_cases q1 : e.g < 0
  · have hv : e.valid = false := by rw [Ev.valid_eq, decide_eq_false (show ¬ (0 ≤ e.g ∧ e.g < 8) by omega)]; simp
    simp only [↓evP, evB, stB, reduceIte, reduceCtorEq, Nat.reduceEqDiff, Nat.reduceAdd, Nat.reduceMul, Nat.reduceLeDiff, Nat.reduceLT, Nat.reduceSub, Nat.reduceBEq, Ev.pa, Ev.row, q1, decide_true, decide_false, hv, pr30]
  by_cases q2 : e.g ≥ 8
  · have hv : e.valid = false := by rw [Ev.valid_eq, decide_eq_false (show ¬ (0 ≤ e.g ∧ e.g < 8) by omega)]; simp
    simp only [↓evP, evB, stB, reduceIte, reduceCtorEq, Nat.reduceEqDiff, Nat.reduceAdd, Nat.reduceMul, Nat.reduceLeDiff, Nat.reduceLT, Nat.reduceSub, Nat.reduceBEq, Ev.pa, Ev.row, q1, q2, decide_true, decide_false, hv, pr30]
  have hg : decide (0 ≤ e.g ∧ e.g < 8) = true := decide_eq_true (by omega)
  simp only [↓evP, evB, stB, reduceIte, reduceCtorEq, Nat.reduceEqDiff, Nat.reduceAdd, Nat.reduceMul, Nat.reduceLeDiff, Nat.reduceLT, Nat.reduceSub, Nat.reduceBEq, Ev.pa, Ev.row, q1, q2, decide_true, decide_false]
  refine callOps_intro [.one (.sc (.string (kname e.kind)))] ⟨e.kind, rfl, kname e.kind, rfl, rfl⟩ ?_
  cases hk : isKindB e.kind with
  | false =>
    have hv : e.valid = false := by rw [Ev.valid_eq, hk]; rfl
    simp only [↓evP, evB, stB, reduceIte, reduceCtorEq, Nat.reduceEqDiff, Nat.reduceAdd, Nat.reduceMul, Nat.reduceLeDiff, Nat.reduceLT, Nat.reduceSub, Nat.reduceBEq, kname_empty, hk, hv, pr30]
  | true =>
    simp only [↓evP, evB, stB, reduceIte, reduceCtorEq, Nat.reduceEqDiff, Nat.reduceAdd, Nat.reduceMul, Nat.reduceLeDiff, Nat.reduceLT, Nat.reduceSub, Nat.reduceBEq, kname_empty, hk]
    refine pwp_fresh [1] [1] (fun st hs ho => ?_)
    simp only [stB, reduceIte, reduceCtorEq, Nat.reduceEqDiff, Nat.reduceAdd, Nat.reduceMul, Nat.reduceLeDiff, Nat.reduceLT, Nat.reduceSub, Nat.reduceBEq] at hs ho
    obtain ⟨g1, o1⟩ := ho
    unfold pc30c9
    simp only [↓evP, evB, stB, reduceIte, reduceCtorEq, Nat.reduceEqDiff, Nat.reduceAdd, Nat.reduceMul, Nat.reduceLeDiff, Nat.reduceLT, Nat.reduceSub, Nat.reduceBEq, hs, g1, o1]
    refine pwp_fresh [1, 3] [1, 33] (fun st' hs' ho' => ?_)
    simp only [stB, reduceIte, reduceCtorEq, Nat.reduceEqDiff, Nat.reduceAdd, Nat.reduceMul, Nat.reduceLeDiff, Nat.reduceLT, Nat.reduceSub, Nat.reduceBEq, hs, g1, o1] at hs' ho'
    clear hs g1 o1
    obtain ⟨h1, h3⟩ := hs'
    obtain ⟨⟨g1, o1⟩, g33, o33⟩ := ho'
    unfold pc30c8
    simp only [↓evP, evB, stB, reduceIte, reduceCtorEq, Nat.reduceEqDiff, Nat.reduceAdd, Nat.reduceMul, Nat.reduceLeDiff, Nat.reduceLT, Nat.reduceSub, Nat.reduceBEq, h1, h3, g1, o1, g33, o33]
    refine pwp_loopW ms30_0 os30_0 (fun m st => ∃ k : Nat, m = 7 - k ∧ k ≤ 7 ∧ (e.fields.take k).all rangeB = true ∧ st.sl 4 = aI k) 7 ?_ ?_
    · exact ⟨0, rfl, by omega, rfl, by simp only [stB, reduceIte, reduceCtorEq, Nat.reduceEqDiff, Nat.reduceAdd, Nat.reduceMul, Nat.reduceLeDiff, Nat.reduceLT, Nat.reduceSub, Nat.reduceBEq]; rfl⟩
    · rintro m j ⟨k, rfl, hk7, hall, h4⟩
      simp only [stB, reduceIte, reduceCtorEq, Nat.reduceEqDiff, Nat.reduceAdd, Nat.reduceMul, Nat.reduceLeDiff, Nat.reduceLT, Nat.reduceSub, Nat.reduceBEq] at h4
      rcases Nat.lt_or_ge k 7 with hlt | hge
      · obtain ⟨x, hx⟩ : ∃ x, e.fields[k]? = some x := ⟨_, List.getElem?_eq_getElem (show k < e.fields.length from hlt)⟩
        have hrow : (e.fields.map fun x => [dI x])[k]? = some [dI x] := by rw [List.getElem?_map, hx]; rfl
        unfold Ev.fields at hrow
        simp only [List.map_cons, List.map_nil] at hrow
        have hl7 : (k : Int) < ((7 : Nat) : Int) := by omega
        have hmem : x ∈ e.fields := List.mem_of_getElem? hx
        by_cases x1 : x < 0
        · have hv : e.valid = false := by
            rw [Ev.valid_eq, (by rw [List.all_eq_false]; exact ⟨x, hmem, by unfold rangeB; rw [decide_eq_false (by omega)]; decide⟩ : e.fields.all rangeB = false)]; simp
          simp only [↓evP, evB, stB, reduceIte, reduceCtorEq, Nat.reduceEqDiff, Nat.reduceAdd, Nat.reduceMul, Nat.reduceLeDiff, Nat.reduceLT, Nat.reduceSub, Nat.reduceBEq, h1, h3, g1, o1, h4, g33, o33, hrow, hl7, x1, decide_true, decide_false, hv, pr30]
        by_cases x2 : x > 2147483647
        · have hv : e.valid = false := by
            rw [Ev.valid_eq, (by rw [List.all_eq_false]; exact ⟨x, hmem, by unfold rangeB; rw [decide_eq_false (by omega)]; decide⟩ : e.fields.all rangeB = false)]; simp
          simp only [↓evP, evB, stB, reduceIte, reduceCtorEq, Nat.reduceEqDiff, Nat.reduceAdd, Nat.reduceMul, Nat.reduceLeDiff, Nat.reduceLT, Nat.reduceSub, Nat.reduceBEq, h1, h3, g1, o1, h4, g33, o33, hrow, hl7, x1, x2, decide_true, decide_false, hv, pr30]
        simp only [↓evP, evB, stB, reduceIte, reduceCtorEq, Nat.reduceEqDiff, Nat.reduceAdd, Nat.reduceMul, Nat.reduceLeDiff, Nat.reduceLT, Nat.reduceSub, Nat.reduceBEq, h1, h3, g1, o1, h4, g33, o33, hrow, hl7, x1, x2, decide_true, decide_false]
        exact ⟨_, by omega, (by repeat' (first | assumption | exact within_over.mpr trivial | exact Within.refl _ _ _ | (refine within_ap ?_ rfl rfl) | (refine within_ap0 ?_ rfl))), k + 1, rfl, by omega, by rw [List.take_add_one, hx, List.all_append, hall]; simp only [Option.toList_some, List.all_cons, List.all_nil]; unfold rangeB; rw [decide_eq_true (by omega)]; rfl, by simp only [stB, reduceIte, reduceCtorEq, Nat.reduceEqDiff, Nat.reduceAdd, Nat.reduceMul, Nat.reduceLeDiff, Nat.reduceLT, Nat.reduceSub, Nat.reduceBEq, h4]; rw [wrN (by omega)]⟩
      · have hk77 : k = 7 := by omega
        subst hk77
        have hl7 : ¬ ((7 : Nat) : Int) < ((7 : Nat) : Int) := by omega
        simp only [↓evP, evB, stB, reduceIte, reduceCtorEq, Nat.reduceEqDiff, Nat.reduceAdd, Nat.reduceMul, Nat.reduceLeDiff, Nat.reduceLT, Nat.reduceSub, Nat.reduceBEq, h1, h3, g1, o1, h4, g33, o33, hl7]
        have hall' : e.fields.all rangeB = true := hall
        have hk' := hk
        unfold isKindB at hk'
        have hv : e.valid = e.rest := by rw [Ev.valid_eq, hk, hg, hall']; rfl
        have hrk : rangeB e.k = true := List.all_eq_true.1 hall' _ (by unfold Ev.fields; simp)
        rw [hv]
        exact valid20_tail (of_decide_eq_true hk').1 (of_decide_eq_true hk').2 hrk _ (fun st'' h => ⟨.inr rfl, h⟩) _ (by simp only [stB, reduceIte, reduceCtorEq, Nat.reduceEqDiff, Nat.reduceAdd, Nat.reduceMul, Nat.reduceLeDiff, Nat.reduceLT, Nat.reduceSub, Nat.reduceBEq, h1]) (by simp only [stB, reduceIte, reduceCtorEq, Nat.reduceEqDiff, Nat.reduceAdd, Nat.reduceMul, Nat.reduceLeDiff, Nat.reduceLT, Nat.reduceSub, Nat.reduceBEq, g1]) (by simp only [stB, reduceIte, reduceCtorEq, Nat.reduceEqDiff, Nat.reduceAdd, Nat.reduceMul, Nat.reduceLeDiff, Nat.reduceLT, Nat.reduceSub, Nat.reduceBEq, o1, Ev.row])
end Go.Proofs.Ytohliamalaifhaa
end
section
set_option linter.unusedSimpArgs false
set_option linter.unusedVariables false
namespace Go.Proofs.Ytohliamalaifhaa
open Go Go.RowKit
set_option maxRecDepth 100000
set_option maxHeartbeats 4000000

theorem RSt.counted_count (s : RSt) (e : Ev) : (s.counted e).count = s.count := by
  unfold RSt.counted RSt.setChannel; split <;> rfl
theorem RSt.partR_count (s : RSt) (e : Ev) : (s.partR e).1.count = s.count := by
  unfold RSt.partR RSt.groupR RSt.transferR RSt.otherR RSt.begin RSt.setChannel RSt.setLock
  repeat' split
  all_goals first | rfl | (rw [RSt.counted_count])

def R_Add (ps rs : List Pa) : Prop := ∃ (s : RSt) (e : Ev), ps = [s.pa, e.pa] ∧ s.ok ∧ rs = [(s.addR e).1.pa, pB (s.addR e).2]
def env_Add : Env := e1 30 R_valid20 (e1 32 R_channel20 (e1 31 R_group (e1 33 R_transfer (e1 34 R_other e0))))
theorem env_Add_ok : EnvOK Try.prog env_Add := EnvOK.e1 s_valid20 (EnvOK.e1 s_channel20 (EnvOK.e1 s_group (EnvOK.e1 s_transfer (EnvOK.e1 s_other EnvOK.e0))))
theorem s_Add : Spec Try.prog 25 R_Add := by
  refine sp25 env_Add_ok ?_
  rintro ps rs ⟨s, e, rfl, hok, rfl⟩
  refine ⟨by simp, ?_⟩
  unfold pc25
  refine pwp_start ?_
  simp only [↓evP, evB, stB, reduceIte, reduceCtorEq, Nat.reduceEqDiff, Nat.reduceAdd, Nat.reduceMul, Nat.reduceLeDiff, Nat.reduceLT, Nat.reduceSub, Nat.reduceBEq, RSt.pa, RSt.row, Ev.pa, Ev.row]
  refine callOps_intro [pB e.valid] ⟨e, rfl, rfl⟩ ?_
  cases hv : e.valid with
  | false =>
    have ha : s.addR e = (s, false) := by unfold RSt.addR RSt.admits; rw [hv]; rfl
    rw [ha]
    simp only [↓evP, evB, stB, reduceIte, reduceCtorEq, Nat.reduceEqDiff, Nat.reduceAdd, Nat.reduceMul, Nat.reduceLeDiff, Nat.reduceLT, Nat.reduceSub, Nat.reduceBEq, hv, RSt.pa, RSt.row, pr25]
  | true =>
  by_cases b1 : s.count ≥ 5000
  · have ha : s.addR e = (s, false) := by unfold RSt.addR RSt.admits; rw [decide_eq_false (show ¬ s.count < 5000 by omega)]; simp
    rw [ha]
    simp only [↓evP, evB, stB, reduceIte, reduceCtorEq, Nat.reduceEqDiff, Nat.reduceAdd, Nat.reduceMul, Nat.reduceLeDiff, Nat.reduceLT, Nat.reduceSub, Nat.reduceBEq, hv, b1, decide_true, decide_false, RSt.pa, RSt.row, pr25]
  by_cases b2 : e.g ≥ s.gor
  · have ha : s.addR e = (s, false) := by unfold RSt.addR RSt.admits; rw [decide_eq_false (show ¬ e.g < s.gor by omega)]; simp
    rw [ha]
    simp only [↓evP, evB, stB, reduceIte, reduceCtorEq, Nat.reduceEqDiff, Nat.reduceAdd, Nat.reduceMul, Nat.reduceLeDiff, Nat.reduceLT, Nat.reduceSub, Nat.reduceBEq, hv, b1, b2, decide_true, decide_false, RSt.pa, RSt.row, pr25]
  have had : s.admits e = true := by unfold RSt.admits; rw [hv, decide_eq_true (show s.count < 5000 by omega), decide_eq_true (show e.g < s.gor by omega)]; rfl
  have hcnt := RSt.partR_count s e
  have hc0 := hok.ct
  have ha : s.addR e = if (s.partR e).2 = true then ({ (s.partR e).1 with count := (s.partR e).1.count + 1 }, true) else (s, false) := by
    unfold RSt.addR
    by_cases h : (s.partR e).2 = true
    · rw [if_pos ⟨had, h⟩, if_pos h]
    · rw [if_neg (fun h' => h h'.2), if_neg h]
  rw [ha]
  clear ha
  by_cases b3 : s.next.length > 0
  · have hpart : s.partR e = s.groupR e := if_pos b3
    have b3' : (s.next.length : Int) > 0 := by omega
    rw [hpart] at hcnt ⊢
    simp only [↓evP, evB, stB, reduceIte, reduceCtorEq, Nat.reduceEqDiff, Nat.reduceAdd, Nat.reduceMul, Nat.reduceLeDiff, Nat.reduceLT, Nat.reduceSub, Nat.reduceBEq, hv, b1, b2, b3', decide_true, decide_false]
    refine callOps_intro [(s.groupR e).1.pa, pB (s.groupR e).2] ⟨s, e, rfl, ⟨hok, fun h => by rw [h] at b3; exact absurd b3 (by decide)⟩, rfl⟩ ?_
    generalize s.groupR e = tr at *
    obtain ⟨u, b⟩ := tr
    have hw : IntKind.i64.wrap (u.count + 1) = u.count + 1 := wr64 (by simp only at hcnt; omega) (by simp only at hcnt; omega)
    cases b with
    | true =>
      simp only [↓evP, evB, stB, reduceIte, reduceCtorEq, Nat.reduceEqDiff, Nat.reduceAdd, Nat.reduceMul, Nat.reduceLeDiff, Nat.reduceLT, Nat.reduceSub, Nat.reduceBEq, hv, b1, b2, b3', decide_true, decide_false, RSt.pa, RSt.row, hw, pr25]
    | false =>
      simp only [↓evP, evB, stB, reduceIte, reduceCtorEq, Nat.reduceEqDiff, Nat.reduceAdd, Nat.reduceMul, Nat.reduceLeDiff, Nat.reduceLT, Nat.reduceSub, Nat.reduceBEq, hv, b1, b2, b3', decide_true, decide_false, RSt.pa, RSt.row, hw, pr25]
  · have b3' : ¬ (s.next.length : Int) > 0 := by omega
    simp only [↓evP, evB, stB, reduceIte, reduceCtorEq, Nat.reduceEqDiff, Nat.reduceAdd, Nat.reduceMul, Nat.reduceLeDiff, Nat.reduceLT, Nat.reduceSub, Nat.reduceBEq, hv, b1, b2, b3', decide_true, decide_false]
    refine callOps_intro [pB (chanB e.kind)] ⟨e.kind, rfl, rfl⟩ ?_
    cases b4 : chanB e.kind with
    | true =>
      have hpart : s.partR e = s.transferR e := (if_neg b3).trans (if_pos b4)
      rw [hpart] at hcnt ⊢
      simp only [↓evP, evB, stB, reduceIte, reduceCtorEq, Nat.reduceEqDiff, Nat.reduceAdd, Nat.reduceMul, Nat.reduceLeDiff, Nat.reduceLT, Nat.reduceSub, Nat.reduceBEq, hv, b1, b2, b3', b4, decide_true, decide_false]
      refine callOps_intro [(s.transferR e).1.pa, pB (s.transferR e).2] ⟨s, e, rfl, hok, rfl⟩ ?_
      generalize s.transferR e = tr at *
      obtain ⟨u, b⟩ := tr
      have hw : IntKind.i64.wrap (u.count + 1) = u.count + 1 := wr64 (by simp only at hcnt; omega) (by simp only at hcnt; omega)
      cases b with
      | true =>
        simp only [↓evP, evB, stB, reduceIte, reduceCtorEq, Nat.reduceEqDiff, Nat.reduceAdd, Nat.reduceMul, Nat.reduceLeDiff, Nat.reduceLT, Nat.reduceSub, Nat.reduceBEq, hv, b1, b2, b3', b4, decide_true, decide_false, RSt.pa, RSt.row, hw, pr25]
      | false =>
        simp only [↓evP, evB, stB, reduceIte, reduceCtorEq, Nat.reduceEqDiff, Nat.reduceAdd, Nat.reduceMul, Nat.reduceLeDiff, Nat.reduceLT, Nat.reduceSub, Nat.reduceBEq, hv, b1, b2, b3', b4, decide_true, decide_false, RSt.pa, RSt.row, hw, pr25]
    | false =>
      have hpart : s.partR e = s.otherR e := (if_neg b3).trans (if_neg (by rw [b4]; decide))
      rw [hpart] at hcnt ⊢
      simp only [↓evP, evB, stB, reduceIte, reduceCtorEq, Nat.reduceEqDiff, Nat.reduceAdd, Nat.reduceMul, Nat.reduceLeDiff, Nat.reduceLT, Nat.reduceSub, Nat.reduceBEq, hv, b1, b2, b3', b4, decide_true, decide_false]
      refine callOps_intro [(s.otherR e).1.pa, pB (s.otherR e).2] ⟨s, e, rfl, hok, rfl⟩ ?_
      generalize s.otherR e = tr at *
      obtain ⟨u, b⟩ := tr
      have hw : IntKind.i64.wrap (u.count + 1) = u.count + 1 := wr64 (by simp only at hcnt; omega) (by simp only at hcnt; omega)
      cases b with
      | true =>
        simp only [↓evP, evB, stB, reduceIte, reduceCtorEq, Nat.reduceEqDiff, Nat.reduceAdd, Nat.reduceMul, Nat.reduceLeDiff, Nat.reduceLT, Nat.reduceSub, Nat.reduceBEq, hv, b1, b2, b3', b4, decide_true, decide_false, RSt.pa, RSt.row, hw, pr25]
      | false =>
        simp only [↓evP, evB, stB, reduceIte, reduceCtorEq, Nat.reduceEqDiff, Nat.reduceAdd, Nat.reduceMul, Nat.reduceLeDiff, Nat.reduceLT, Nat.reduceSub, Nat.reduceBEq, hv, b1, b2, b3', b4, decide_true, decide_false, RSt.pa, RSt.row, hw, pr25]
end Go.Proofs.Ytohliamalaifhaa
end
section
set_option linter.unusedSimpArgs false
set_option linter.unusedVariables false
namespace Go.Proofs.Ytohliamalaifhaa
open Go

/-- the state behind the possible events at the beginning -/
def RSt.aft (r : RSt) : List Ev → RSt
  | [] => r
  | e :: l => if (r.addR e).2 = true then (r.addR e).1.aft l else r
structure RAt (l : List Ev) (k : Nat) (r : RSt) (t : TS) : Prop where
  le : k ≤ l.length
  st : TS.new.steps (l.take k) = some t
  rl : Rel r t
  af : RSt.new.aft l = r.aft (l.drop k)
theorem RAt.zero (l : List Ev) : RAt l 0 RSt.new TS.new := ⟨Nat.zero_le _, rfl, Rel.new, rfl⟩
theorem RAt.wf {l : List Ev} {k : Nat} {r : RSt} {t : TS} (h : RAt l k r t) : t.wf := TS.steps_wf TS.wf_new h.st
theorem RAt.ok {l : List Ev} {k : Nat} {r : RSt} {t : TS} (h : RAt l k r t) : r.ok := h.rl.ok h.wf
theorem RAt.step {l : List Ev} {k : Nat} {r : RSt} {t : TS} (h : RAt l k r t) {e : Ev} (he : l[k]? = some e) :
    (∃ r' t', r.addR e = (r', true) ∧ t.add e = some t' ∧ RAt l (k + 1) r' t') ∨ (r.addR e = (r, false) ∧ chk l = k ∧ RSt.new.aft l = r) := by
  obtain ⟨hk, hx⟩ := List.getElem?_eq_some_iff.1 he
  have hs := h.rl.step h.wf e
  have hd : l.drop k = e :: l.drop (k + 1) := by rw [List.drop_eq_getElem_cons hk, hx]
  cases ha : t.add e with
  | some t' =>
    rw [ha] at hs
    obtain ⟨r', h1, h2⟩ := hs
    refine .inl ⟨r', t', h1, rfl, hk, ?_, h2, ?_⟩
    · rw [TS.steps_take_succ hk, h.st, hx]; exact ha
    · rw [h.af, hd, RSt.aft, h1]; rfl
  | none =>
    rw [ha] at hs
    refine .inr ⟨hs, TS.chk_of h.le h.st (fun e' he' => ?_), ?_⟩
    · rw [he] at he'; cases he'; exact ha
    · rw [h.af, hd, RSt.aft, hs]; rfl
theorem RAt.all {l : List Ev} {r : RSt} {t : TS} (h : RAt l l.length r t) : chk l = l.length ∧ RSt.new.aft l = r := by
  refine ⟨TS.chk_of (Nat.le_refl _) h.st (fun e he => ?_), ?_⟩
  · rw [List.getElem?_eq_none (Nat.le_refl _)] at he; cases he
  · rw [h.af, List.drop_length]; rfl
theorem Rel.open_next {r : RSt} {t : TS} (h : Rel r t) : t.isOpen = decide (0 < r.next.length) := by
  unfold TS.isOpen; rw [h.gp.kinds, List.length_map]
theorem RAt.whole {l : List Ev} {k : Nat} {r : RSt} {t : TS} (h : RAt l (k + 1) r t) : TS.new.wholeTo l (k + 1) = if r.next.length = 0 then k + 1 else TS.new.wholeTo l k := by
  simp only [TS.wholeTo, h.st]
  rw [h.rl.open_next]
  by_cases hn : r.next.length = 0
  · rw [if_pos hn, if_neg (by rw [hn]; decide)]
  · rw [if_neg hn, if_pos (decide_eq_true (by omega))]
/-- the state behind the possible events is the one that the program has there -/
theorem aft_rel (l : List Ev) : ∃ t, TS.new.steps (l.take (chk l)) = some t ∧ Rel (RSt.new.aft l) t := by
  suffices h : ∀ n k r t, RAt l k r t → l.length - k = n → ∃ t, TS.new.steps (l.take (chk l)) = some t ∧ Rel (RSt.new.aft l) t by
    exact h _ 0 _ _ (RAt.zero l) rfl
  intro n
  induction n with
  | zero =>
    intro k r t h hn
    have hk : k = l.length := by have := h.le; omega
    subst hk
    obtain ⟨h1, h2⟩ := h.all
    exact ⟨t, by rw [h1]; exact h.st, by rw [h2]; exact h.rl⟩
  | succ n ih =>
    intro k r t h hn
    obtain ⟨e, he⟩ : ∃ e, l[k]? = some e := ⟨_, List.getElem?_eq_getElem (show k < l.length by omega)⟩
    rcases h.step he with ⟨r', t', _, _, h'⟩ | ⟨_, h1, h2⟩
    · exact ih (k + 1) r' t' h' (by omega)
    · exact ⟨t, by rw [h1]; exact h.st, by rw [h2]; exact h.rl⟩
end Go.Proofs.Ytohliamalaifhaa
end
section
set_option linter.unusedSimpArgs false
set_option linter.unusedVariables false
namespace Go.Proofs.Ytohliamalaifhaa
open Go Go.RowKit
set_option maxRecDepth 100000
set_option maxHeartbeats 4000000

def R_rnew (ps rs : List Pa) : Prop := ps = [] ∧ rs = [RSt.new.pa]
theorem s_rnew : Spec Try.prog 24 R_rnew := by
  refine sp24 EnvOK.e0 ?_
  rintro ps rs ⟨rfl, rfl⟩
  refine ⟨by simp, ?_⟩
  unfold pc24
  refine pwp_start ?_
  simp only [↓evP, evB, stB, reduceIte, reduceCtorEq, Nat.reduceEqDiff, Nat.reduceAdd, Nat.reduceMul, Nat.reduceLeDiff, Nat.reduceLT, Nat.reduceSub, Nat.reduceBEq, RSt.pa, RSt.row, RSt.new, pr24]
def env_walk : Env := e1 24 R_rnew (e1 25 R_Add e0)
theorem env_walk_ok : EnvOK Try.prog env_walk := EnvOK.e1 s_rnew (EnvOK.e1 s_Add EnvOK.e0)

def R_rcheck (ps rs : List Pa) : Prop := ∃ l : List Ev, ps = [evsPa l] ∧ l.length ≤ 1000000 ∧ rs = [pI (chk l), pB (decide (chk l = l.length))]
theorem s_rcheck : Spec Try.prog 19 R_rcheck := by
  refine sp19 env_walk_ok ?_
  rintro ps rs ⟨l, rfl, hlen, rfl⟩
  refine ⟨by simp, ?_⟩
  unfold pc19
  refine pwp_start ?_
  simp only [↓evP, evB, stB, reduceIte, reduceCtorEq, Nat.reduceEqDiff, Nat.reduceAdd, Nat.reduceMul, Nat.reduceLeDiff, Nat.reduceLT, Nat.reduceSub, Nat.reduceBEq, evsPa, evsD]
  refine callOps_intro [RSt.new.pa] ⟨rfl, rfl⟩ ?_
  simp only [↓evP, evB, stB, reduceIte, reduceCtorEq, Nat.reduceEqDiff, Nat.reduceAdd, Nat.reduceMul, Nat.reduceLeDiff, Nat.reduceLT, Nat.reduceSub, Nat.reduceBEq, RSt.pa, RSt.row]
  refine pwp_loopW ms19_0 os19_0 (fun m st => ∃ k : Nat, ∃ r t, m = l.length - k ∧ RAt l k r t ∧ st.sl 5 = aI k ∧ st.gen 4 = 1 ∧ st.ob 4 = .cells (r.row.map .d)) l.length ?_ ?_
  · exact ⟨0, _, _, rfl, RAt.zero l, by simp only [stB, reduceIte, reduceCtorEq, Nat.reduceEqDiff, Nat.reduceAdd, Nat.reduceMul, Nat.reduceLeDiff, Nat.reduceLT, Nat.reduceSub, Nat.reduceBEq]; rfl, by simp only [stB, reduceIte, reduceCtorEq, Nat.reduceEqDiff, Nat.reduceAdd, Nat.reduceMul, Nat.reduceLeDiff, Nat.reduceLT, Nat.reduceSub, Nat.reduceBEq], by simp only [stB, reduceIte, reduceCtorEq, Nat.reduceEqDiff, Nat.reduceAdd, Nat.reduceMul, Nat.reduceLeDiff, Nat.reduceLT, Nat.reduceSub, Nat.reduceBEq, RSt.row]⟩
  · rintro m j ⟨k, r, t, rfl, hat, h5, g4, o4⟩
    simp only [stB, reduceIte, reduceCtorEq, Nat.reduceEqDiff, Nat.reduceAdd, Nat.reduceMul, Nat.reduceLeDiff, Nat.reduceLT, Nat.reduceSub, Nat.reduceBEq, RSt.row] at h5 g4 o4 
    have hk := hat.le
    rcases Nat.lt_or_ge k l.length with hlt | hge
    · obtain ⟨e, he⟩ : ∃ e, l[k]? = some e := ⟨_, List.getElem?_eq_getElem hlt⟩
      have hlt' : (k : Int) < (l.length : Int) := by omega
      simp only [↓evP, evB, stB, reduceIte, reduceCtorEq, Nat.reduceEqDiff, Nat.reduceAdd, Nat.reduceMul, Nat.reduceLeDiff, Nat.reduceLT, Nat.reduceSub, Nat.reduceBEq, h5, g4, o4, he, hlt', Ev.row]
      refine callD_intro [(r.addR e).1.pa, pB (r.addR e).2] ⟨r, e, rfl, hat.ok, rfl⟩ ?_
      rcases hat.step he with ⟨r', t', h1, _, hat'⟩ | ⟨h1, hc, haf⟩
      · rw [h1]
        simp only [↓evP, evB, stB, reduceIte, reduceCtorEq, Nat.reduceEqDiff, Nat.reduceAdd, Nat.reduceMul, Nat.reduceLeDiff, Nat.reduceLT, Nat.reduceSub, Nat.reduceBEq, h5, g4, o4, he, RSt.pa, RSt.row]
        refine ⟨(by unfold Drw; kernel_rfl), ?_⟩
        exact ⟨_, by omega, (by repeat' (first | assumption | exact within_over.mpr trivial | exact Within.refl _ _ _ | (refine within_ap ?_ rfl rfl) | (refine within_ap0 ?_ rfl))), k + 1, r', t', rfl, hat', by simp only [stB, reduceIte, reduceCtorEq, Nat.reduceEqDiff, Nat.reduceAdd, Nat.reduceMul, Nat.reduceLeDiff, Nat.reduceLT, Nat.reduceSub, Nat.reduceBEq, h5]; rw [wrN (by omega)], by simp only [stB, reduceIte, reduceCtorEq, Nat.reduceEqDiff, Nat.reduceAdd, Nat.reduceMul, Nat.reduceLeDiff, Nat.reduceLT, Nat.reduceSub, Nat.reduceBEq, g4], by simp only [stB, reduceIte, reduceCtorEq, Nat.reduceEqDiff, Nat.reduceAdd, Nat.reduceMul, Nat.reduceLeDiff, Nat.reduceLT, Nat.reduceSub, Nat.reduceBEq, o4, RSt.row]⟩
      · rw [h1]
        simp only [↓evP, evB, stB, reduceIte, reduceCtorEq, Nat.reduceEqDiff, Nat.reduceAdd, Nat.reduceMul, Nat.reduceLeDiff, Nat.reduceLT, Nat.reduceSub, Nat.reduceBEq, h5, g4, o4, he, RSt.pa, RSt.row, pr19]
        refine ⟨(by unfold Drw; kernel_rfl), ?_⟩
        rw [hc, decide_eq_false (by omega)]
    · have hkl : k = l.length := by omega
      subst hkl
      have hlt' : ¬ (l.length : Int) < (l.length : Int) := by omega
      simp only [↓evP, evB, stB, reduceIte, reduceCtorEq, Nat.reduceEqDiff, Nat.reduceAdd, Nat.reduceMul, Nat.reduceLeDiff, Nat.reduceLT, Nat.reduceSub, Nat.reduceBEq, h5, g4, o4, hlt', RSt.pa, RSt.row, pr19]
      rw [hat.all.1, decide_eq_true rfl]
def R_rvalid (ps rs : List Pa) : Prop := ∃ l : List Ev, ps = [evsPa l] ∧ l.length ≤ 1000000 ∧ rs = [pB (decide (chk l = l.length))]
def env_rvalid : Env := e1 19 R_rcheck e0
theorem s_rvalid : Spec Try.prog 13 R_rvalid := by
  refine sp13 (show EnvOK Try.prog env_rvalid from EnvOK.e1 s_rcheck EnvOK.e0) ?_
  rintro ps rs ⟨l, rfl, hlen, rfl⟩
  refine ⟨by simp, ?_⟩
  unfold pc13
  refine pwp_start ?_
  simp only [↓evP, evB, stB, reduceIte, reduceCtorEq, Nat.reduceEqDiff, Nat.reduceAdd, Nat.reduceMul, Nat.reduceLeDiff, Nat.reduceLT, Nat.reduceSub, Nat.reduceBEq, evsPa, evsD]
  refine callOps_intro [pI (chk l), pB (decide (chk l = l.length))] ⟨l, rfl, hlen, rfl⟩ ?_
  simp only [↓evP, evB, stB, reduceIte, reduceCtorEq, Nat.reduceEqDiff, Nat.reduceAdd, Nat.reduceMul, Nat.reduceLeDiff, Nat.reduceLT, Nat.reduceSub, Nat.reduceBEq, pr13]
end Go.Proofs.Ytohliamalaifhaa
end
section
set_option linter.unusedSimpArgs false
set_option linter.unusedVariables false
namespace Go.Proofs.Ytohliamalaifhaa
open Go Go.RowKit
set_option maxRecDepth 100000
set_option maxHeartbeats 4000000

theorem s_tValid : Spec Try.prog 17 R_rvalid := by
  rintro ps rs ⟨l, rfl, hl, rfl⟩ S w vals _ hv
  obtain ⟨u, rfl, h1⟩ := hv.one
  refine (valid_any w u l (RD.evs h1) hl).mono ?_
  rintro r w' ⟨rfl, h4⟩
  exact ⟨_, S, rfl, RP.mkBool _, h4, fun _ _ => rfl⟩
theorem steps_valid {s t : TS} {l : List Ev} (h : s.steps l = some t) : ∀ e, e ∈ l → e.valid = true := by
  induction l generalizing s with
  | nil => intro e he; simp at he
  | cons a l ih =>
    intro e he
    simp only [TS.steps, Option.bind_eq_some_iff] at h
    obtain ⟨u, hu, hs⟩ := h
    rcases List.mem_cons.1 he with rfl | he
    · unfold TS.add at hu
      split at hu
      · rename_i ha
        unfold TS.admits at ha
        simp only [Bool.and_eq_true] at ha
        exact ha.1.1
      · cases hu
    · exact ih hs e he
theorem chk_valid {l : List Ev} (h : chk l = l.length) : ∀ e, e ∈ l → e.valid = true := by
  obtain ⟨t, ht⟩ := TS.chk_steps TS.new l (Nat.le_refl _)
  unfold chk at h
  rw [h, List.take_length] at ht
  exact steps_valid ht
def stOf (l : List Ev) : List Ck := if chk l = l.length then stampsL l else []
def errOf (l : List Ev) : Int := if chk l = l.length then 0 else 1
def R_Stamps (ps rs : List Pa) : Prop := ∃ l : List Ev, ps = [evsPa l] ∧ l.length ≤ 1000000 ∧ rs = [cksPa (stOf l), pI (errOf l)]
def env_Stamps : Env := e1 17 R_rvalid (e1 18 R_stamps e0)
theorem s_Stamps : Spec Try.prog 10 R_Stamps := by
  refine sp10 (show EnvOK Try.prog env_Stamps from EnvOK.e1 s_tValid (EnvOK.e1 s_stamps EnvOK.e0)) ?_
  rintro ps rs ⟨l, rfl, hlen, rfl⟩
  refine ⟨by simp, ?_⟩
  unfold pc10
  refine pwp_start ?_
  simp only [↓evP, evB, stB, reduceIte, reduceCtorEq, Nat.reduceEqDiff, Nat.reduceAdd, Nat.reduceMul, Nat.reduceLeDiff, Nat.reduceLT, Nat.reduceSub, Nat.reduceBEq, evsPa, evsD]
  refine callOps_intro [pB (decide (chk l = l.length))] ⟨l, rfl, hlen, rfl⟩ ?_
  unfold stOf errOf
  by_cases h : chk l = l.length
  · rw [if_pos h, if_pos h, decide_eq_true h]
    simp only [↓evP, evB, stB, reduceIte, reduceCtorEq, Nat.reduceEqDiff, Nat.reduceAdd, Nat.reduceMul, Nat.reduceLeDiff, Nat.reduceLT, Nat.reduceSub, Nat.reduceBEq]
    refine callOps_intro [cksPa (stampsL l)] ⟨l, rfl, ⟨hlen, chk_valid h⟩, rfl⟩ ?_
    simp only [↓evP, evB, stB, reduceIte, reduceCtorEq, Nat.reduceEqDiff, Nat.reduceAdd, Nat.reduceMul, Nat.reduceLeDiff, Nat.reduceLT, Nat.reduceSub, Nat.reduceBEq, cksPa, pr10]
  · rw [if_neg h, if_neg h, decide_eq_false h]
    simp only [↓evP, evB, stB, reduceIte, reduceCtorEq, Nat.reduceEqDiff, Nat.reduceAdd, Nat.reduceMul, Nat.reduceLeDiff, Nat.reduceLT, Nat.reduceSub, Nat.reduceBEq, cksPa, pr10]
end Go.Proofs.Ytohliamalaifhaa
end
section
set_option linter.unusedSimpArgs false
set_option linter.unusedVariables false
namespace Go.Proofs.Ytohliamalaifhaa
open Go Go.RowKit
set_option maxRecDepth 100000
set_option maxHeartbeats 4000000
open Classical

noncomputable def relRow (l : List Ev) (n i : Nat) : List Dt := [.im ((List.range n).map fun j => [dB (decide (HB l i j))])]
noncomputable def relPa (l : List Ev) : Pa := .one (.im ((List.range l.length).map (relRow l l.length)))
def R_rel34 (ps rs : List Pa) : Prop := ∃ l : List Ev, ps = [evsPa l] ∧ (l.length ≤ 1000000 ∧ ∀ e, e ∈ l → e.valid = true) ∧ rs = [relPa l]
theorem s_rel34 : Spec Try.prog 14 R_rel34 := by
  rintro ps rs ⟨l, rfl, ⟨hlen, hv⟩, rfl⟩ S w vals _ hvl
  obtain ⟨u, rfl, h1⟩ := hvl.one
  refine (rel_walk w S u l h1 hlen hv).mono ?_
  rintro e w' ⟨rfl, hG⟩
  refine ⟨_, fun b => if b < w.heap.size then S b else l.length, rfl, ?_, hG.bel, fun b hb => if_pos hb⟩
  show RD _ w' _ _
  have hrow : ∀ i, i < l.length → RD (fun b => if b < w.heap.size then S b else l.length) w' (.im ((List.range l.length).map fun j => [dB (decide (HB l i j))])) (.slice (some ⟨w.heap.size + 1 + i, 0, none⟩) l.length l.length) := fun i hi => by
    have hl : l.length = ((List.range l.length).map fun j => [dB (decide (HB l i j))]).length := by simp
    conv => rhs; rw [show (Value.slice (some ⟨w.heap.size + 1 + i, 0, none⟩) l.length l.length) = .slice (some ⟨w.heap.size + 1 + i, 0, none⟩) ((List.range l.length).map fun j => [dB (decide (HB l i j))]).length l.length by rw [← hl]]
    refine RD.im _ 1 _ 0 l.length (fun j _ => .bool (decide (HB l i j))) (by rw [← hl]; exact Nat.le_refl _) (by unfold maxLen; omega) ?_ ?_ ?_
    · intro r hr
      obtain ⟨x, _, rfl⟩ := List.mem_map.1 hr
      rfl
    · intro j k hj hk
      rw [← hl] at hj
      have h0 : 0 + (j * 1 + k) = j := by omega
      rw [h0]
      refine ⟨(hG.row i hi).cell hj, ?_⟩
      rw [if_neg (by omega)]; exact hj
    · intro j r k x hr hx
      rw [List.getElem?_map, Option.map_eq_some_iff] at hr
      obtain ⟨j', hj', rfl⟩ := hr
      have hjj : j' = j := by
        have hjl := (List.getElem?_eq_some_iff.1 hj').1
        rw [List.length_range] at hjl
        rw [List.getElem?_range hjl] at hj'
        cases hj'; rfl
      subst hjj
      match k, hx with
      | 0, hx => simp at hx; subst hx; exact .sc _ rfl
  have hl : l.length = ((List.range l.length).map (relRow l l.length)).length := by simp
  conv => rhs; rw [show (Value.slice (some ⟨w.heap.size, 0, none⟩) l.length l.length) = .slice (some ⟨w.heap.size, 0, none⟩) ((List.range l.length).map (relRow l l.length)).length l.length by rw [← hl]]
  refine RD.im _ 1 _ 0 l.length (fun i _ => .slice (some ⟨w.heap.size + 1 + i, 0, none⟩) l.length l.length) (by rw [← hl]; exact Nat.le_refl _) (by unfold maxLen; omega) ?_ ?_ ?_
  · intro r hr
    obtain ⟨x, _, rfl⟩ := List.mem_map.1 hr
    rfl
  · intro j k hj hk
    rw [← hl] at hj
    have h0 : 0 + (j * 1 + k) = j := by omega
    rw [h0]
    refine ⟨hG.head hj, ?_⟩
    rw [if_neg (by omega)]; exact hj
  · intro j r k x hr hx
    rw [List.getElem?_map, Option.map_eq_some_iff] at hr
    obtain ⟨j', hj', rfl⟩ := hr
    have hjl := (List.getElem?_eq_some_iff.1 hj').1
    rw [List.length_range] at hjl
    have hjj : j' = j := by
      rw [List.getElem?_range hjl] at hj'
      cases hj'; rfl
    subst hjj
    match k, hx with
    | 0, hx => simp [relRow] at hx; subst hx; exact hrow _ hjl

/-- the count of the reference -/
noncomputable def cntC (l : List Ev) (j n : Nat) : Ck := (List.range 8).map fun (g : Nat) => (cntHB l (g : Int) j n : Int)
theorem cntC_len (l : List Ev) (j n : Nat) : (cntC l j n).length = 8 := by simp [cntC]
theorem cntC_get (l : List Ev) (j n : Nat) {g : Nat} (h : g < 8) : (cntC l j n)[g]? = some (cntHB l (g : Int) j n : Int) := by
  unfold cntC; rw [List.getElem?_map, List.getElem?_range h]; rfl
theorem cntHB_le (l : List Ev) (g : Int) (j n : Nat) : cntHB l g j n ≤ n := by
  induction n with
  | zero => exact Nat.le_refl _
  | succ n ih => simp only [cntHB]; split <;> omega
theorem cntC_zero (l : List Ev) (j : Nat) : cntC l j 0 = ckZ := by
  unfold cntC ckZ
  rfl
theorem cntC_hit {l : List Ev} {j n : Nat} (h0 : 0 ≤ (evAt l n).g) (h8 : (evAt l n).g < 8) (hb : HBE l n j) : (cntC l j n).set (evAt l n).g.toNat ((cntHB l (evAt l n).g j n : Int) + 1) = cntC l j (n + 1) := by
  apply List.ext_getElem?
  intro g
  rw [List.getElem?_set]
  by_cases hg : g < 8
  · rw [cntC_get l j (n + 1) hg, cntC_get l j n hg]
    simp only [cntHB]
    by_cases he : (evAt l n).g.toNat = g
    · have he' : (evAt l n).g = (g : Int) := by omega
      rw [if_pos he, if_pos (by rw [cntC_len]; omega), if_pos ⟨he', hb⟩, he']; rfl
    · rw [if_neg he, if_neg (fun h => he (by omega))]
  · rw [List.getElem?_eq_none (by rw [cntC_len]; omega), List.getElem?_eq_none (by rw [cntC_len]; omega)]
    split
    · split <;> first | rfl | (rename_i h1 h2; rw [cntC_len] at h2; omega)
    · rfl
theorem cntC_miss {l : List Ev} {j n : Nat} (hb : ¬ HBE l n j) : cntC l j n = cntC l j (n + 1) := by
  unfold cntC
  apply List.map_congr_left
  intro g _
  simp only [cntHB]
  rw [if_neg (fun h => hb h.2)]
theorem cntC_stp {l : List Ev} (V : VL l) {j : Nat} (h : j < l.length) : cntC l j (j + 1) = stp l j := by
  apply List.ext_getElem?
  intro g
  by_cases hg : g < 8
  · rw [cntC_get l j (j + 1) hg]
    have := stp_cnt V h (g := (g : Int)) (by omega) (by omega)
    rw [Int.toNat_natCast] at this
    rw [← this, List.getD_eq_getElem?_getD, List.getElem?_eq_getElem (by rw [stp_len]; omega)]; rfl
  · rw [List.getElem?_eq_none (by rw [cntC_len]; omega), List.getElem?_eq_none (by rw [stp_len]; omega)]
theorem stamps_succ {l : List Ev} {j : Nat} (h : j < l.length) : (stampsL l).take (j + 1) = (stampsL l).take j ++ [stp l j] := by
  rw [List.take_add_one]
  congr 1
  unfold stp
  rw [List.getD_eq_getElem?_getD, List.getElem?_eq_getElem (by rw [stampsL_length]; exact h)]; rfl
end Go.Proofs.Ytohliamalaifhaa
end
section
set_option linter.unusedSimpArgs false
set_option linter.unusedVariables false
namespace Go.Proofs.Ytohliamalaifhaa
open Go Go.RowKit
set_option maxRecDepth 100000
set_option maxHeartbeats 4000000
open Classical

theorem range_get {n i : Nat} (h : i < n) : (List.range n)[i]? = some i := List.getElem?_range h
def env_rStamps : Env := e1 13 R_rvalid (e1 14 R_rel34 e0)
theorem s_rStamps : Spec Try.prog 11 R_Stamps := by
  refine sp11 (show EnvOK Try.prog env_rStamps from EnvOK.e1 s_rvalid (EnvOK.e1 s_rel34 EnvOK.e0)) ?_
  rintro ps rs ⟨l, rfl, hlen, rfl⟩
  refine ⟨by simp, ?_⟩
  unfold pc11
  refine pwp_start ?_
  simp only [↓evP, evB, stB, reduceIte, reduceCtorEq, Nat.reduceEqDiff, Nat.reduceAdd, Nat.reduceMul, Nat.reduceLeDiff, Nat.reduceLT, Nat.reduceSub, Nat.reduceBEq, evsPa, evsD]
  refine callOps_intro [pB (decide (chk l = l.length))] ⟨l, rfl, hlen, rfl⟩ ?_
  unfold stOf errOf
  by_cases hc : chk l = l.length
  · have V := VL.of hc
    rw [if_pos hc, if_pos hc, decide_eq_true hc]
    simp only [↓evP, evB, stB, reduceIte, reduceCtorEq, Nat.reduceEqDiff, Nat.reduceAdd, Nat.reduceMul, Nat.reduceLeDiff, Nat.reduceLT, Nat.reduceSub, Nat.reduceBEq]
    refine callOps_intro [relPa l] ⟨l, rfl, ⟨hlen, V.v⟩, rfl⟩ ?_
    simp only [↓evP, evB, stB, reduceIte, reduceCtorEq, Nat.reduceEqDiff, Nat.reduceAdd, Nat.reduceMul, Nat.reduceLeDiff, Nat.reduceLT, Nat.reduceSub, Nat.reduceBEq, relPa]
    refine pwp_fresh [0, 4, 5, 6] [5] (fun S hs ho => ?_)
    simp only [stB, reduceIte, reduceCtorEq, Nat.reduceEqDiff, Nat.reduceAdd, Nat.reduceMul, Nat.reduceLeDiff, Nat.reduceLT, Nat.reduceSub, Nat.reduceBEq] at hs ho
    obtain ⟨q0, q4, q5, q6⟩ := hs
    obtain ⟨r5, t5⟩ := ho
    refine pwp_loopW ms11_0 os11_0 (fun m st => ∃ j : Nat, m = l.length - j ∧ j ≤ l.length ∧ st.sl 6 = aI j ∧ st.sl 5 = .b (.one (.own 5 1 (((stampsL l).take j).map ckRow))) ∧ st.gen 5 = 1 ∧ st.ob 5 = .row 36 8 j) l.length ?_ ?_
    · exact ⟨0, rfl, Nat.zero_le _, q6, q5, r5, t5⟩
    · rintro m z ⟨j, rfl, hj, h6, h5, g5, o5⟩
      simp only [stB, reduceIte, reduceCtorEq, Nat.reduceEqDiff, Nat.reduceAdd, Nat.reduceMul, Nat.reduceLeDiff, Nat.reduceLT, Nat.reduceSub, Nat.reduceBEq] at h6 h5 g5 o5
      rcases Nat.lt_or_ge j l.length with hlt | hge
      · have hlt' : (j : Int) < (l.length : Int) := by omega
        have hj0 : (0 : Int) ≤ (j : Int) := by omega
        simp only [↓evP, evB, stB, reduceIte, reduceCtorEq, Nat.reduceEqDiff, Nat.reduceAdd, Nat.reduceMul, Nat.reduceLeDiff, Nat.reduceLT, Nat.reduceSub, Nat.reduceBEq, q0, q4, h6, h5, g5, o5, hlt']
        refine pwp_freshP (fun st => Within ms11_0 os11_0 S st) (by repeat' (first | assumption | exact within_over.mpr trivial | exact Within.refl _ _ _ | (refine within_ap ?_ rfl rfl) | (refine within_ap0 ?_ rfl))) [0, 4, 5, 6, 7, 8] [5, 7] (fun T hwT hs2 ho2 => ?_)
        simp only [stB, reduceIte, reduceCtorEq, Nat.reduceEqDiff, Nat.reduceAdd, Nat.reduceMul, Nat.reduceLeDiff, Nat.reduceLT, Nat.reduceSub, Nat.reduceBEq, q0, q4, h6, h5, g5, o5] at hs2 ho2
        obtain ⟨p0, p4, p5, p6, p7, p8⟩ := hs2
        obtain ⟨⟨r5', t5'⟩, r7, t7⟩ := ho2
        rw [← r7] at p7
        clear r7
        refine pwp_loopW ms11_1 os11_1 (fun m st => ∃ i : Nat, m = j + 1 - i ∧ i ≤ j + 1 ∧ st.sl 8 = aI i ∧ st.gen 7 = T.gen 7 ∧ st.ob 7 = .cells (ckCells (cntC l j i))) (j + 1) ?_ ?_
        · exact ⟨0, rfl, Nat.zero_le _, p8, rfl, by rw [t7, cntC_zero]; rfl⟩
        · rintro m2 z2 ⟨i, rfl, hi, h8, g7, o7⟩
          simp only [stB, reduceIte, reduceCtorEq, Nat.reduceEqDiff, Nat.reduceAdd, Nat.reduceMul, Nat.reduceLeDiff, Nat.reduceLT, Nat.reduceSub, Nat.reduceBEq] at h8 g7 o7
          have r2 := range_get hlt
          rcases Nat.lt_or_ge j i with hij | hij
          · have hi' : i = j + 1 := by omega
            subst hi'
            have hle : ¬ ((j + 1 : Nat) : Int) ≤ (j : Int) := by omega
            rw [cntC_stp V hlt] at o7
            have c8 := stp_len (l := l) (j := j)
            have e1 : (ckCells (stp l j)).length = 8 := by rw [ckCells_length, c8]
            have e2 : 8 ≤ (ckCells (stp l j)).length := by omega
            have e3 : (ckCells (stp l j)).take 8 = ckCells (stp l j) := List.take_of_length_le (by omega)
            have e4 : (ckRow (stp l j)).take 8 = ckRow (stp l j) := List.take_of_length_le (by unfold ckRow; rw [List.length_map]; omega)
            have e5 : (ckRow (stp l j)).length = 8 := by unfold ckRow; rw [List.length_map, c8]
            have e6 : ((stampsL l).take j).length = j := by rw [List.length_take, stampsL_length]; omega
            have e7 : ((stampsL l).take j).map ckRow ++ [ckRow (stp l j)] = ((stampsL l).take (j + 1)).map ckRow := by rw [stamps_succ hlt, List.map_append]; rfl
            have e8 : j + 1 ≤ 1000000 := by omega
            simp only [↓evP, evB, stB, reduceIte, reduceCtorEq, Nat.reduceEqDiff, Nat.reduceAdd, Nat.reduceMul, Nat.reduceLeDiff, Nat.reduceLT, Nat.reduceSub, Nat.reduceBEq, p0, p4, p5, p6, p7, h8, r5', t5', g7, o7, hle, e1, e2, e3, e4, e5, e6, e7, e8, ckCells_dt, Nat.reduceLeDiff]
            exact ⟨_, by omega, (by repeat' (first | assumption | exact within_over.mpr trivial | (refine within_ap ?_ rfl rfl) | (refine within_ap0 ?_ rfl) | refine within_in ?_ (by decide) (by decide))), j + 1, rfl, hlt, by simp only [stB, reduceIte, reduceCtorEq, Nat.reduceEqDiff, Nat.reduceAdd, Nat.reduceMul, Nat.reduceLeDiff, Nat.reduceLT, Nat.reduceSub, Nat.reduceBEq, p6]; rw [wrN (by omega)], by simp only [stB, reduceIte, reduceCtorEq, Nat.reduceEqDiff, Nat.reduceAdd, Nat.reduceMul, Nat.reduceLeDiff, Nat.reduceLT, Nat.reduceSub, Nat.reduceBEq], by simp only [stB, reduceIte, reduceCtorEq, Nat.reduceEqDiff, Nat.reduceAdd, Nat.reduceMul, Nat.reduceLeDiff, Nat.reduceLT, Nat.reduceSub, Nat.reduceBEq, r5'], by simp only [stB, reduceIte, reduceCtorEq, Nat.reduceEqDiff, Nat.reduceAdd, Nat.reduceMul, Nat.reduceLeDiff, Nat.reduceLT, Nat.reduceSub, Nat.reduceBEq, t5']⟩
          · have hle : (i : Int) ≤ (j : Int) := by omega
            have hi0 : (0 : Int) ≤ (i : Int) := by omega
            have r1 := range_get (show i < l.length by omega)
            have ei := evAt_some (l := l) (i := i) (by omega)
            have hg := V.g (i := i) (by omega)
            have hg0 := hg.1
            have hg8 : (evAt l i).g < ((8 : Nat) : Int) := hg.2
            have f1 := ckCells_get _ _ _ (cntC_get l j i (g := (evAt l i).g.toNat) (by omega))
            rw [Int.toNat_of_nonneg hg0] at f1
            have f2 : (evAt l i).g.toNat + 1 ≤ (ckCells (cntC l j i)).length := by rw [ckCells_length, cntC_len]; omega
            have hcl := cntHB_le l (evAt l i).g j i
            have hw : IntKind.i64.wrap ((cntHB l (evAt l i).g j i : Int) + 1) = (cntHB l (evAt l i).g j i : Int) + 1 := wr64 (by omega) (by omega)
            by_cases hb : HBE l i j
            · have f3 := (ckCells_set (cntC l j i) (evAt l i).g.toNat ((cntHB l (evAt l i).g j i : Int) + 1) (by rw [cntC_len]; omega)).trans (congrArg ckCells (cntC_hit hg0 hg.2 hb))
              cases hq : ((i : Int) == (j : Int)) with
              | true =>
                simp only [↓evP, evB, stB, reduceIte, reduceCtorEq, Nat.reduceEqDiff, Nat.reduceAdd, Nat.reduceMul, Nat.reduceLeDiff, Nat.reduceLT, Nat.reduceSub, Nat.reduceBEq, p0, p4, p5, p6, p7, h8, r5', t5', g7, o7, hle, hq, hi0, hj0, ei, Ev.row, hg0, hg8, f1, f2, f3, hw, Nat.mul_one]
                exact ⟨_, by omega, (by repeat' (first | assumption | exact within_over.mpr trivial | exact Within.refl _ _ _ | (refine within_ap ?_ rfl rfl) | (refine within_ap0 ?_ rfl))), i + 1, rfl, by omega, by simp only [stB, reduceIte, reduceCtorEq, Nat.reduceEqDiff, Nat.reduceAdd, Nat.reduceMul, Nat.reduceLeDiff, Nat.reduceLT, Nat.reduceSub, Nat.reduceBEq, h8]; rw [wrN (by omega)], by simp only [stB, reduceIte, reduceCtorEq, Nat.reduceEqDiff, Nat.reduceAdd, Nat.reduceMul, Nat.reduceLeDiff, Nat.reduceLT, Nat.reduceSub, Nat.reduceBEq, g7], by simp only [stB, reduceIte, reduceCtorEq, Nat.reduceEqDiff, Nat.reduceAdd, Nat.reduceMul, Nat.reduceLeDiff, Nat.reduceLT, Nat.reduceSub, Nat.reduceBEq, o7, f3]⟩
              | false =>
                have hd : decide (HB l i j) = true := decide_eq_true (hb.elim (fun h => by subst h; simp at hq) id)
                simp only [↓evP, evB, stB, reduceIte, reduceCtorEq, Nat.reduceEqDiff, Nat.reduceAdd, Nat.reduceMul, Nat.reduceLeDiff, Nat.reduceLT, Nat.reduceSub, Nat.reduceBEq, p0, p4, p5, p6, p7, h8, r5', t5', g7, o7, hle, hq, hi0, hj0, r1, r2, relRow, hd, ei, Ev.row, hg0, hg8, f1, f2, f3, hw, Nat.mul_one]
                exact ⟨_, by omega, (by repeat' (first | assumption | exact within_over.mpr trivial | exact Within.refl _ _ _ | (refine within_ap ?_ rfl rfl) | (refine within_ap0 ?_ rfl))), i + 1, rfl, by omega, by simp only [stB, reduceIte, reduceCtorEq, Nat.reduceEqDiff, Nat.reduceAdd, Nat.reduceMul, Nat.reduceLeDiff, Nat.reduceLT, Nat.reduceSub, Nat.reduceBEq, h8]; rw [wrN (by omega)], by simp only [stB, reduceIte, reduceCtorEq, Nat.reduceEqDiff, Nat.reduceAdd, Nat.reduceMul, Nat.reduceLeDiff, Nat.reduceLT, Nat.reduceSub, Nat.reduceBEq, g7], by simp only [stB, reduceIte, reduceCtorEq, Nat.reduceEqDiff, Nat.reduceAdd, Nat.reduceMul, Nat.reduceLeDiff, Nat.reduceLT, Nat.reduceSub, Nat.reduceBEq, o7, f3]⟩
            · have hq : ((i : Int) == (j : Int)) = false := by
                rw [beq_eq_false_iff_ne]; intro h; exact hb (.inl (by omega))
              have hd : decide (HB l i j) = false := decide_eq_false (fun h => hb (.inr h))
              have f3 := cntC_miss hb
              simp only [↓evP, evB, stB, reduceIte, reduceCtorEq, Nat.reduceEqDiff, Nat.reduceAdd, Nat.reduceMul, Nat.reduceLeDiff, Nat.reduceLT, Nat.reduceSub, Nat.reduceBEq, p0, p4, p5, p6, p7, h8, r5', t5', g7, o7, hle, hq, hi0, hj0, r1, r2, relRow, hd]
              exact ⟨_, by omega, (by repeat' (first | assumption | exact within_over.mpr trivial | exact Within.refl _ _ _ | (refine within_ap ?_ rfl rfl) | (refine within_ap0 ?_ rfl))), i + 1, rfl, by omega, by simp only [stB, reduceIte, reduceCtorEq, Nat.reduceEqDiff, Nat.reduceAdd, Nat.reduceMul, Nat.reduceLeDiff, Nat.reduceLT, Nat.reduceSub, Nat.reduceBEq, h8]; rw [wrN (by omega)], by simp only [stB, reduceIte, reduceCtorEq, Nat.reduceEqDiff, Nat.reduceAdd, Nat.reduceMul, Nat.reduceLeDiff, Nat.reduceLT, Nat.reduceSub, Nat.reduceBEq, g7], by simp only [stB, reduceIte, reduceCtorEq, Nat.reduceEqDiff, Nat.reduceAdd, Nat.reduceMul, Nat.reduceLeDiff, Nat.reduceLT, Nat.reduceSub, Nat.reduceBEq, o7]; rw [← f3]⟩
      · have hjl : j = l.length := by omega
        subst hjl
        have hlt' : ¬ (l.length : Int) < (l.length : Int) := by omega
        have e6 : (stampsL l).take l.length = stampsL l := List.take_of_length_le (by rw [stampsL_length]; exact Nat.le_refl _)
        simp only [↓evP, evB, stB, reduceIte, reduceCtorEq, Nat.reduceEqDiff, Nat.reduceAdd, Nat.reduceMul, Nat.reduceLeDiff, Nat.reduceLT, Nat.reduceSub, Nat.reduceBEq, q0, q4, h6, h5, g5, o5, hlt', e6, cksPa, pr11]
  · rw [if_neg hc, if_neg hc, decide_eq_false hc]
    simp only [↓evP, evB, stB, reduceIte, reduceCtorEq, Nat.reduceEqDiff, Nat.reduceAdd, Nat.reduceMul, Nat.reduceLeDiff, Nat.reduceLT, Nat.reduceSub, Nat.reduceBEq, cksPa, pr11]
end Go.Proofs.Ytohliamalaifhaa
end
section
set_option linter.unusedSimpArgs false
set_option linter.unusedVariables false
namespace Go.Proofs.Ytohliamalaifhaa
open Go Go.RowKit
set_option maxRecDepth 100000
set_option maxHeartbeats 4000000

def evA : List Ev := [⟨0, 14, 0, 0, 1, 0, 0, 0, 0⟩, ⟨0, 2, 0, 0, 0, 0, 0, 0, 0⟩, ⟨1, 2, 0, 0, 0, 0, 0, 0, 0⟩]
theorem chkA : chk evA = 3 := by decide
theorem stA : stampsL evA = [[1, 0, 0, 0, 0, 0, 0, 0], [2, 0, 0, 0, 0, 0, 0, 0], [1, 1, 0, 0, 0, 0, 0, 0]] := by decide
def R_awake (ps rs : List Pa) : Prop := ps = [] ∧ rs = [pB true]
def env_awake : Env := e1 10 R_Stamps e0
theorem s_awake : Spec Try.prog 9 R_awake := by
  refine sp9 (show EnvOK Try.prog env_awake from EnvOK.e1 s_Stamps EnvOK.e0) ?_
  rintro ps rs ⟨rfl, rfl⟩
  refine ⟨by simp, ?_⟩
  unfold pc9
  refine pwp_start ?_
  simp only [↓evP, evB, stB, reduceIte, reduceCtorEq, Nat.reduceEqDiff, Nat.reduceAdd, Nat.reduceMul, Nat.reduceLeDiff, Nat.reduceLT, Nat.reduceSub, Nat.reduceBEq]
  have h1 : stOf evA = [[1, 0, 0, 0, 0, 0, 0, 0], [2, 0, 0, 0, 0, 0, 0, 0], [1, 1, 0, 0, 0, 0, 0, 0]] := by unfold stOf; rw [chkA, if_pos (by decide), stA]
  have h2 : errOf evA = 0 := by unfold errOf; rw [chkA, if_pos (by decide)]
  refine callOps_intro [cksPa (stOf evA), pI (errOf evA)] ⟨evA, rfl, by decide, rfl⟩ ?_
  rw [h1, h2]
  simp only [↓evP, evB, stB, reduceIte, reduceCtorEq, Nat.reduceEqDiff, Nat.reduceAdd, Nat.reduceMul, Nat.reduceLeDiff, Nat.reduceLT, Nat.reduceSub, Nat.reduceBEq, cksPa, ckRow, beq_self_eq_true, Int.toNat_zero, Int.le_refl, Int.reduceLE, Int.reduceLT, Int.reduceToNat, (by decide : (((3 : Nat) : Int) == 3) = true), pr9]
theorem cks_rows (l : List Ck) (h : ∀ c, c ∈ l → c.length = 8) : (∀ r, r ∈ l.map ckRow → r.length = 8) = True := by
  apply propext
  refine ⟨fun _ => trivial, fun _ r hr => ?_⟩
  obtain ⟨c, hc, rfl⟩ := List.mem_map.1 hr
  unfold ckRow; rw [List.length_map]; exact h c hc
def R_same35 (ps rs : List Pa) : Prop := ∃ l : List Ck, ps = [cksPa l, cksPa l] ∧ (l.length ≤ 1000000 ∧ ∀ c, c ∈ l → c.length = 8) ∧ rs = [pB true]
theorem s_same35 : Spec Try.prog 12 R_same35 := by
  refine sp12 EnvOK.e0 ?_
  rintro ps rs ⟨l, rfl, ⟨hlen, h8⟩, rfl⟩
  refine ⟨by simp, ?_⟩
  unfold pc12
  refine pwp_start ?_
  simp only [↓evP, evB, stB, reduceIte, reduceCtorEq, Nat.reduceEqDiff, Nat.reduceAdd, Nat.reduceMul, Nat.reduceLeDiff, Nat.reduceLT, Nat.reduceSub, Nat.reduceBEq, cksPa, bne_self_eq_false, reduceCtorEq]
  refine pwp_loopW ms12_0 os12_0 (fun m st => ∃ k : Nat, m = l.length - k ∧ k ≤ l.length ∧ st.sl 5 = aI k) l.length ?_ ?_
  · exact ⟨0, rfl, Nat.zero_le _, by simp only [stB, reduceIte, reduceCtorEq, Nat.reduceEqDiff, Nat.reduceAdd, Nat.reduceMul, Nat.reduceLeDiff, Nat.reduceLT, Nat.reduceSub, Nat.reduceBEq]; rfl⟩
  · rintro m j ⟨k, rfl, hk, h5⟩
    simp only [stB, reduceIte, reduceCtorEq, Nat.reduceEqDiff, Nat.reduceAdd, Nat.reduceMul, Nat.reduceLeDiff, Nat.reduceLT, Nat.reduceSub, Nat.reduceBEq] at h5
    rcases Nat.lt_or_ge k l.length with hlt | hge
    · obtain ⟨c, hc⟩ : ∃ c, l[k]? = some c := ⟨_, List.getElem?_eq_getElem hlt⟩
      have hcl := h8 c (List.mem_of_getElem? hc)
      have e1 : (ckRow c).length = 8 := by unfold ckRow; rw [List.length_map, hcl]
      have e2 : (ckCells c).length = 8 := by rw [ckCells_length, hcl]
      have e3 : 8 ≤ (ckCells c).length := by omega
      have e4 : (ckCells c).take 8 = ckCells c := List.take_of_length_le (by omega)
      have e5 : eqCls [false, false, false, false, false, false, false, false] (ckCells c) (ckCells c) = some true := by
        have := eqCls_ck (a := c) (b := c) rfl
        rw [hcl, decide_eq_true rfl] at this
        exact this
      have hlt' : (k : Int) < (l.length : Int) := by omega
      simp only [↓evP, evB, stB, reduceIte, reduceCtorEq, Nat.reduceEqDiff, Nat.reduceAdd, Nat.reduceMul, Nat.reduceLeDiff, Nat.reduceLT, Nat.reduceSub, Nat.reduceBEq, h5, hc, hlt', e1, e2, e3, e4, e5, ckRow_cells]
      refine ⟨(by unfold Drw; kernel_rfl), ?_⟩
      exact ⟨_, by omega, (by repeat' (first | assumption | exact within_over.mpr trivial | exact Within.refl _ _ _ | (refine within_ap ?_ rfl rfl) | (refine within_ap0 ?_ rfl))), k + 1, rfl, by omega, by simp only [stB, reduceIte, reduceCtorEq, Nat.reduceEqDiff, Nat.reduceAdd, Nat.reduceMul, Nat.reduceLeDiff, Nat.reduceLT, Nat.reduceSub, Nat.reduceBEq, h5]; rw [wrN (by omega)]⟩
    · simp only [↓evP, evB, stB, reduceIte, reduceCtorEq, Nat.reduceEqDiff, Nat.reduceAdd, Nat.reduceMul, Nat.reduceLeDiff, Nat.reduceLT, Nat.reduceSub, Nat.reduceBEq, h5, pr12]
      exact fun h => absurd h (by omega)

theorem stOf_len {l : List Ev} (h : chk l = l.length) : (stOf l).length = l.length := by unfold stOf; rw [if_pos h]; exact stampsL_length l
theorem stOf_8 {l : List Ev} : ∀ c, c ∈ stOf l → c.length = 8 := by
  unfold stOf
  split
  · exact fun c hc => (stampsL_ok l c hc).1
  · exact fun c hc => by simp at hc
theorem get_some {c : Ck} (h : c.length = 8) {k : Nat} (hk : k < 8) : c[k]? = some (c.getD k 0) := by
  rw [List.getD_eq_getElem?_getD, List.getElem?_eq_getElem (by omega)]; rfl
theorem getC_some {l : List Ck} {k : Nat} (hk : k < l.length) : l[k]? = some (l.getD k ckZ) := by
  rw [List.getD_eq_getElem?_getD, List.getElem?_eq_getElem hk]; rfl
theorem flatC_get1 {cs : List Ck} (h : All8 cs) {i k : Nat} {c : Ck} (hi : cs[i]? = some c) (hk : k < 8) : (flatC cs)[i * 8 + k]? = some (.d (dI (c.getD k 0))) := by
  have h1 := flatC_get h hi
  have h2 : (((flatC cs).drop (i * 8)).take 8)[k]? = some (.d (dI (c.getD k 0))) := by
    rw [h1]; exact ckCells_get _ _ _ (get_some (h c (List.mem_of_getElem? hi)) hk)
  rw [List.getElem?_take, if_pos hk, List.getElem?_drop] at h2
  exact h2
def R_law35 (ps rs : List Pa) : Prop := ∃ l : List Ev, ps = [evsPa l] ∧ rs = [pB true]
end Go.Proofs.Ytohliamalaifhaa
end
section
set_option linter.unusedSimpArgs false
set_option linter.unusedVariables false
namespace Go.Proofs.Ytohliamalaifhaa
open Go Go.RowKit
set_option maxRecDepth 100000
set_option maxHeartbeats 4000000
open Classical

noncomputable def befB (l : List Ev) (i j : Int) : Bool := decide (chk l = l.length ∧ 0 ≤ i ∧ i < l.length ∧ 0 ≤ j ∧ j < l.length ∧ HB l i.toNat j.toNat)
def R_before (ps rs : List Pa) : Prop := ∃ (l : List Ev) (i j : Int), ps = [evsPa l, pI i, pI j] ∧ l.length ≤ 1000000 ∧ rs = [pB (befB l i j)]
def env_rBefore : Env := e1 13 R_rvalid (e1 14 R_rel34 e0)
theorem s_rBefore : Spec Try.prog 16 R_before := by
  refine sp16 (show EnvOK Try.prog env_rBefore from EnvOK.e1 s_rvalid (EnvOK.e1 s_rel34 EnvOK.e0)) ?_
  rintro ps rs ⟨l, i, j, rfl, hlen, rfl⟩
  refine ⟨by simp, ?_⟩
  unfold pc16
  refine pwp_start ?_
  simp only [↓evP, evB, stB, reduceIte, reduceCtorEq, Nat.reduceEqDiff, Nat.reduceAdd, Nat.reduceMul, Nat.reduceLeDiff, Nat.reduceLT, Nat.reduceSub, Nat.reduceBEq, evsPa, evsD]
  refine callOps_intro [pB (decide (chk l = l.length))] ⟨l, rfl, hlen, rfl⟩ ?_
  by_cases hc : chk l = l.length
  · rw [decide_eq_true hc]
    by_cases q1 : i < 0
    · have hf : befB l i j = false := decide_eq_false (fun h => by omega)
      simp only [↓evP, evB, stB, reduceIte, reduceCtorEq, Nat.reduceEqDiff, Nat.reduceAdd, Nat.reduceMul, Nat.reduceLeDiff, Nat.reduceLT, Nat.reduceSub, Nat.reduceBEq, q1, hf, decide_true, pr16]
    by_cases q2 : j < 0
    · have hf : befB l i j = false := decide_eq_false (fun h => by omega)
      simp only [↓evP, evB, stB, reduceIte, reduceCtorEq, Nat.reduceEqDiff, Nat.reduceAdd, Nat.reduceMul, Nat.reduceLeDiff, Nat.reduceLT, Nat.reduceSub, Nat.reduceBEq, q1, q2, hf, decide_true, decide_false, pr16]
    by_cases q3 : i ≥ (l.length : Int)
    · have hf : befB l i j = false := decide_eq_false (fun h => by omega)
      simp only [↓evP, evB, stB, reduceIte, reduceCtorEq, Nat.reduceEqDiff, Nat.reduceAdd, Nat.reduceMul, Nat.reduceLeDiff, Nat.reduceLT, Nat.reduceSub, Nat.reduceBEq, q1, q2, q3, hf, decide_true, decide_false, pr16]
    by_cases q4 : j ≥ (l.length : Int)
    · have hf : befB l i j = false := decide_eq_false (fun h => by omega)
      simp only [↓evP, evB, stB, reduceIte, reduceCtorEq, Nat.reduceEqDiff, Nat.reduceAdd, Nat.reduceMul, Nat.reduceLeDiff, Nat.reduceLT, Nat.reduceSub, Nat.reduceBEq, q1, q2, q3, q4, hf, decide_true, decide_false, pr16]
    simp only [↓evP, evB, stB, reduceIte, reduceCtorEq, Nat.reduceEqDiff, Nat.reduceAdd, Nat.reduceMul, Nat.reduceLeDiff, Nat.reduceLT, Nat.reduceSub, Nat.reduceBEq, q1, q2, q3, q4, decide_true, decide_false]
    refine callOps_intro [relPa l] ⟨l, rfl, ⟨hlen, (VL.of hc).v⟩, rfl⟩ ?_
    have hi0 : 0 ≤ i := by omega
    have hj0 : 0 ≤ j := by omega
    have r1 := range_get (show i.toNat < l.length by omega)
    have r2 := range_get (show j.toNat < l.length by omega)
    have hf : befB l i j = decide (HB l i.toNat j.toNat) := by
      unfold befB
      rw [decide_eq_decide]
      exact ⟨fun h => h.2.2.2.2.2, fun h => ⟨hc, by omega, by omega, by omega, by omega, h⟩⟩
    simp only [↓evP, evB, stB, reduceIte, reduceCtorEq, Nat.reduceEqDiff, Nat.reduceAdd, Nat.reduceMul, Nat.reduceLeDiff, Nat.reduceLT, Nat.reduceSub, Nat.reduceBEq, relPa, hi0, hj0, r1, r2, relRow, hf, pr16]
  · have hf : befB l i j = false := decide_eq_false (fun h => hc h.1)
    rw [decide_eq_false hc]
    simp only [↓evP, evB, stB, reduceIte, reduceCtorEq, Nat.reduceEqDiff, Nat.reduceAdd, Nat.reduceMul, Nat.reduceLeDiff, Nat.reduceLT, Nat.reduceSub, Nat.reduceBEq, hf, pr16]

def env_Before : Env := e1 17 R_rvalid (e1 18 R_stamps e0)
theorem hb_stp {l : List Ev} (hc : chk l = l.length) {i j : Nat} (hi : i < l.length) (hj : j < l.length) (hij : i ≠ j) : HB l i j ↔ (stp l i).getD (evAt l i).g.toNat 0 ≤ (stp l j).getD (evAt l i).g.toNat 0 := by
  have V := VL.of hc
  rw [stp_own V hi, ← hb_iff V hj i hi]
  exact ⟨.inr, fun h => h.elim (fun h => absurd h hij) id⟩
theorem stamps_get {l : List Ev} {i : Nat} (hi : i < l.length) : (stampsL l)[i]? = some (stp l i) := by
  unfold stp
  rw [List.getD_eq_getElem?_getD, List.getElem?_eq_getElem (by rw [stampsL_length]; exact hi)]; rfl
theorem s_Before : Spec Try.prog 15 R_before := by
  refine sp15 (show EnvOK Try.prog env_Before from EnvOK.e1 s_tValid (EnvOK.e1 s_stamps EnvOK.e0)) ?_
  rintro ps rs ⟨l, i, j, rfl, hlen, rfl⟩
  refine ⟨by simp, ?_⟩
  unfold pc15
  refine pwp_start ?_
  by_cases q1 : i < 0
  · have hf : befB l i j = false := decide_eq_false (fun h => by omega)
    simp only [↓evP, evB, stB, reduceIte, reduceCtorEq, Nat.reduceEqDiff, Nat.reduceAdd, Nat.reduceMul, Nat.reduceLeDiff, Nat.reduceLT, Nat.reduceSub, Nat.reduceBEq, evsPa, evsD, q1, hf, decide_true, pr15]
  by_cases q2 : j < 0
  · have hf : befB l i j = false := decide_eq_false (fun h => by omega)
    simp only [↓evP, evB, stB, reduceIte, reduceCtorEq, Nat.reduceEqDiff, Nat.reduceAdd, Nat.reduceMul, Nat.reduceLeDiff, Nat.reduceLT, Nat.reduceSub, Nat.reduceBEq, evsPa, evsD, q1, q2, hf, decide_true, decide_false, pr15]
  by_cases q3 : i ≥ (l.length : Int)
  · have hf : befB l i j = false := decide_eq_false (fun h => by omega)
    simp only [↓evP, evB, stB, reduceIte, reduceCtorEq, Nat.reduceEqDiff, Nat.reduceAdd, Nat.reduceMul, Nat.reduceLeDiff, Nat.reduceLT, Nat.reduceSub, Nat.reduceBEq, evsPa, evsD, q1, q2, q3, hf, decide_true, decide_false, pr15]
  by_cases q4 : j ≥ (l.length : Int)
  · have hf : befB l i j = false := decide_eq_false (fun h => by omega)
    simp only [↓evP, evB, stB, reduceIte, reduceCtorEq, Nat.reduceEqDiff, Nat.reduceAdd, Nat.reduceMul, Nat.reduceLeDiff, Nat.reduceLT, Nat.reduceSub, Nat.reduceBEq, evsPa, evsD, q1, q2, q3, q4, hf, decide_true, decide_false, pr15]
  cases q5 : (i == j) with
  | true =>
    have hij := beq_iff_eq.1 q5
    have hf : befB l i j = false := decide_eq_false (fun h => by have := h.2.2.2.2.2.lt; omega)
    simp only [↓evP, evB, stB, reduceIte, reduceCtorEq, Nat.reduceEqDiff, Nat.reduceAdd, Nat.reduceMul, Nat.reduceLeDiff, Nat.reduceLT, Nat.reduceSub, Nat.reduceBEq, evsPa, evsD, q1, q2, q3, q4, q5, hf, decide_true, decide_false, pr15]
  | false =>
    have hij := beq_eq_false_iff_ne.1 q5
    simp only [↓evP, evB, stB, reduceIte, reduceCtorEq, Nat.reduceEqDiff, Nat.reduceAdd, Nat.reduceMul, Nat.reduceLeDiff, Nat.reduceLT, Nat.reduceSub, Nat.reduceBEq, evsPa, evsD, q1, q2, q3, q4, q5, decide_true, decide_false]
    refine callOps_intro [pB (decide (chk l = l.length))] ⟨l, rfl, hlen, rfl⟩ ?_
    by_cases hc : chk l = l.length
    · rw [decide_eq_true hc]
      have V := VL.of hc
      simp only [↓evP, evB, stB, reduceIte, reduceCtorEq, Nat.reduceEqDiff, Nat.reduceAdd, Nat.reduceMul, Nat.reduceLeDiff, Nat.reduceLT, Nat.reduceSub, Nat.reduceBEq]
      refine callOps_intro [cksPa (stampsL l)] ⟨l, rfl, ⟨hlen, V.v⟩, rfl⟩ ?_
      have hi0 : 0 ≤ i := by omega
      have hj0 : 0 ≤ j := by omega
      have ei := evAt_some (l := l) (i := i.toNat) (by omega)
      have hg := V.g (i := i.toNat) (by omega)
      have hg0 := hg.1
      have hg8 : (evAt l i.toNat).g < ((8 : Nat) : Int) := hg.2
      have s1 := stamps_get (l := l) (i := i.toNat) (by omega)
      have s2 := stamps_get (l := l) (i := j.toNat) (by omega)
      have c1 := ckCells_get _ _ _ (get_some (stp_len (l := l) (j := i.toNat)) (k := (evAt l i.toNat).g.toNat) (by omega))
      have c2 := ckCells_get _ _ _ (get_some (stp_len (l := l) (j := j.toNat)) (k := (evAt l i.toNat).g.toNat) (by omega))
      have e1 : (ckRow (stp l i.toNat)).length = 8 := by unfold ckRow; rw [List.length_map, stp_len]
      have e2 : (ckRow (stp l j.toNat)).length = 8 := by unfold ckRow; rw [List.length_map, stp_len]
      have hf : befB l i j = decide ((stp l i.toNat).getD (evAt l i.toNat).g.toNat 0 ≤ (stp l j.toNat).getD (evAt l i.toNat).g.toNat 0) := by
        unfold befB
        rw [decide_eq_decide, ← hb_stp hc (by omega) (by omega) (by omega)]
        exact ⟨fun h => h.2.2.2.2.2, fun h => ⟨hc, by omega, by omega, by omega, by omega, h⟩⟩
      simp only [↓evP, evB, stB, reduceIte, reduceCtorEq, Nat.reduceEqDiff, Nat.reduceAdd, Nat.reduceMul, Nat.reduceLeDiff, Nat.reduceLT, Nat.reduceSub, Nat.reduceBEq, cksPa, hi0, hj0, ei, Ev.row, hg0, hg8, s1, s2, e1, e2, c1, c2, ckRow_cells, Nat.mul_one, hf, pr15]
      unfold Drw
      refine Eq.trans (b := true) ?_ rfl
      kernel_rfl
    · have hf : befB l i j = false := decide_eq_false (fun h => hc h.1)
      rw [decide_eq_false hc]
      simp only [↓evP, evB, stB, reduceIte, reduceCtorEq, Nat.reduceEqDiff, Nat.reduceAdd, Nat.reduceMul, Nat.reduceLeDiff, Nat.reduceLT, Nat.reduceSub, Nat.reduceBEq, hf, pr15]

theorem s_matches : Spec Try.prog 3 R_law35 := by
  refine sp3 (show EnvOK Try.prog (e1 9 R_awake (e1 10 R_Stamps (e1 11 R_Stamps (e1 12 R_same35 e0)))) from EnvOK.e1 s_awake (EnvOK.e1 s_Stamps (EnvOK.e1 s_rStamps (EnvOK.e1 s_same35 EnvOK.e0)))) ?_
  rintro ps rs ⟨l, rfl, rfl⟩
  refine ⟨by simp, ?_⟩
  unfold pc3
  refine pwp_start ?_
  simp only [↓evP, evB, stB, reduceIte, reduceCtorEq, Nat.reduceEqDiff, Nat.reduceAdd, Nat.reduceMul, Nat.reduceLeDiff, Nat.reduceLT, Nat.reduceSub, Nat.reduceBEq, evsPa, evsD]
  refine callOps_intro [pB true] ⟨rfl, rfl⟩ ?_
  by_cases q1 : (l.length : Int) > 24
  · simp only [↓evP, evB, stB, reduceIte, reduceCtorEq, Nat.reduceEqDiff, Nat.reduceAdd, Nat.reduceMul, Nat.reduceLeDiff, Nat.reduceLT, Nat.reduceSub, Nat.reduceBEq, q1, decide_true, decide_false, pr3]
  have hlen : l.length ≤ 1000000 := by omega
  simp only [↓evP, evB, stB, reduceIte, reduceCtorEq, Nat.reduceEqDiff, Nat.reduceAdd, Nat.reduceMul, Nat.reduceLeDiff, Nat.reduceLT, Nat.reduceSub, Nat.reduceBEq, q1, decide_true, decide_false]
  refine callOps_intro [cksPa (stOf l), pI (errOf l)] ⟨l, rfl, hlen, rfl⟩ ?_
  simp only [↓evP, evB, stB, reduceIte, reduceCtorEq, Nat.reduceEqDiff, Nat.reduceAdd, Nat.reduceMul, Nat.reduceLeDiff, Nat.reduceLT, Nat.reduceSub, Nat.reduceBEq, cksPa]
  refine callOps_intro [cksPa (stOf l), pI (errOf l)] ⟨l, rfl, hlen, rfl⟩ ?_
  simp only [↓evP, evB, stB, reduceIte, reduceCtorEq, Nat.reduceEqDiff, Nat.reduceAdd, Nat.reduceMul, Nat.reduceLeDiff, Nat.reduceLT, Nat.reduceSub, Nat.reduceBEq, cksPa, beq_self_eq_true]
  have hsl : (stOf l).length ≤ 1000000 := by
    by_cases hc : chk l = l.length
    · rw [stOf_len hc]; exact hlen
    · unfold stOf; rw [if_neg hc]; simp
  refine callOps_intro [pB true] ⟨stOf l, rfl, ⟨hsl, stOf_8⟩, rfl⟩ ?_
  simp only [↓evP, evB, stB, reduceIte, reduceCtorEq, Nat.reduceEqDiff, Nat.reduceAdd, Nat.reduceMul, Nat.reduceLeDiff, Nat.reduceLT, Nat.reduceSub, Nat.reduceBEq, pr3]
end Go.Proofs.Ytohliamalaifhaa
end
