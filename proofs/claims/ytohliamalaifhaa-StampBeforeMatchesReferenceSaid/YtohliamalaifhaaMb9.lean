/- The walk of stamps. -/
import Derived.Test.YtohliamalaifhaaMb8
section
set_option linter.unusedSimpArgs false
set_option linter.unusedVariables false
namespace Go.Proofs.Ytohliamalaifhaa
open Go Go.RowKit
set_option maxRecDepth 100000
set_option maxHeartbeats 4000000

def cksPa (l : List Ck) : Pa := .one (.im (l.map ckRow))
def env_stamps : Env := e1 22 R_sync (e1 23 R_join e0)
theorem env_stamps_ok : EnvOK Try.prog env_stamps := EnvOK.e1 s_sync (EnvOK.e1 s_join EnvOK.e0)
theorem Ev.valid_rng {e : Ev} (h : e.valid = true) : (0 ≤ e.g ∧ e.g < 8) ∧ (0 ≤ e.k ∧ e.k ≤ 2147483647) ∧ (0 ≤ e.n ∧ e.n ≤ 2147483647) ∧ (e.kind = 14 → 0 ≤ e.k ∧ e.k < 8) := by
  simp only [Ev.valid, rangeB, Bool.and_eq_true, decide_eq_true_eq] at h
  refine ⟨by omega, by omega, by omega, fun hk => ?_⟩
  have := h.2
  unfold Ev.rest at this
  rw [if_pos hk] at this
  simp only [decide_eq_true_eq] at this
  omega
/-- where stamps stands at an event -/
structure StAt (l : List Ev) (s : SSt) (e : Ev) (j n : Nat) (st : St) : Prop where
  h0 : st.sl 0 = .b (.one (.d (evsD l)))
  h3 : st.sl 3 = .b (.one (.ptr 3 1 0))
  h4 : st.sl 4 = .b (.one (.ptr 4 1 0))
  h5 : st.sl 5 = .b (.one (.sv 14 1 0 n n 8))
  h6 : st.sl 6 = aI j
  h7 : st.sl 7 = .b (.one (.ptr 7 (st.gen 7) 0))
  h8 : st.sl 8 = .b (.one (.ptr 8 (st.gen 8) 0))
  h17 : st.sl 17 = aI j
  g3 : st.gen 3 = 1
  g4 : st.gen 4 = 1
  g14 : st.gen 14 = 1
  o3 : st.ob 3 = .cells (flatC s.cur)
  o4 : st.ob 4 = .cells (flatC s.birth)
  o7 : st.ob 7 = .cells (e.row.map .d)
  o14 : st.ob 14 = .cells (flatC (s.out ++ List.replicate (n - j) ckZ))
structure StEnd (s : SSt) (j n : Nat) (st : St) : Prop where
  g3 : st.gen 3 = 1
  g4 : st.gen 4 = 1
  g14 : st.gen 14 = 1
  o3 : st.ob 3 = .cells (flatC s.cur)
  o4 : st.ob 4 = .cells (flatC s.birth)
  o14 : st.ob 14 = .cells (flatC (s.out ++ List.replicate (n - j) ckZ))
def osS : List Nat := [7, 8, 11, 14, 3, 4]
theorem out_set {s : SSt} {j n : Nat} (ho : s.out.length = j) (hj : j < n) (c : Ck) : (s.out ++ List.replicate (n - j) ckZ).set j c = (s.out ++ [c]) ++ List.replicate (n - (j + 1)) ckZ := by
  obtain ⟨m, hm⟩ : ∃ m, n - j = m + 1 := ⟨n - j - 1, by omega⟩
  rw [List.set_append_right _ _ (by omega), ho, Nat.sub_self, hm, List.replicate_succ, List.set_cons_zero, List.append_assoc, List.cons_append, List.nil_append, show n - (j + 1) = m by omega]
theorem SOk.a8 {s : SSt} {j : Nat} (h : SOk s j) : All8 s.cur ∧ All8 s.birth ∧ All8 s.out := ⟨fun c hc => (h.cc c hc).1, fun c hc => (h.bc c hc).1, fun c hc => (h.oc c hc).1⟩

theorem stamps_c0 {l : List Ev} {s : SSt} {e : Ev} {j n : Nat} (hok : SOk s j) (hv : e.valid = true) (hj : j < n) (hn : n ≤ 1000000) {c d : Ck} (hc : COk j c) (hd : d = c.set e.g.toNat (c.getD e.g.toNat 0 + 1))
    (k : List It) (Q : Exit → St → Prop) {s0 : St}
    (hQ : ∀ st, Within msh18_0 osS s0 st → StEnd ⟨s.cur.set e.g.toNat d, if e.kind = 14 then s.birth.set e.k.toNat d else s.birth, s.out ++ [d]⟩ (j + 1) n st → st.sl 17 = aI j → exS env_stamps k Q .normal st)
    (st : St) (hw : Within msh18_0 osS s0 st) (ha : StAt l s e j n st) (o8 : st.ob 8 = .cells (ckCells c)) :
    pwp env_stamps pch18c0 (exS env_stamps k Q) st := by
  obtain ⟨h0, h3, h4, h5, h6, h7, h8, h17, g3, g4, g14, o3, o4, o7, o14⟩ := ha
  simp only [Ev.row, List.map_cons, List.map_nil] at o7
  obtain ⟨⟨hg0, hg8⟩, _, _, hk14⟩ := Ev.valid_rng hv
  have hg8' : e.g < ((8 : Nat) : Int) := hg8
  obtain ⟨a3, a4, a14⟩ := hok.a8
  have a14' := a14.app (All8.rep (n - j))
  have hl14 : (s.out ++ List.replicate (n - j) ckZ).length = n := by rw [List.length_append, hok.ol, List.length_replicate]; omega
  have hcl := hc.1
  have hdl : d.length = 8 := by rw [hd, List.length_set, hcl]
  obtain ⟨x, hx⟩ : ∃ x, c[e.g.toNat]? = some x := ⟨_, List.getElem?_eq_getElem (by omega)⟩
  have hxb := hc.2 x (List.mem_of_getElem? hx)
  have hxd : c.getD e.g.toNat 0 = x := by rw [List.getD_eq_getElem?_getD, hx]; rfl
  rw [hxd] at hd
  have hw64 : IntKind.i64.wrap (x + 1) = x + 1 := wr64 (by omega) (by omega)
  have e1 := ckCells_get _ _ _ hx
  have e2 : e.g.toNat + 1 ≤ (ckCells c).length := by rw [ckCells_length]; omega
  have e3 : wrAt (ckCells c) e.g.toNat [.d (dI (x + 1))] = ckCells d := by rw [hd]; exact ckCells_set _ _ _ (by omega)
  have e4 : (ckCells d).length = 8 := by rw [ckCells_length, hdl]
  have e5 : 0 + 8 ≤ (ckCells d).length := by omega
  have e6 : (ckCells d).take 8 = ckCells d := List.take_of_length_le (by omega)
  have hj0 : (0 : Int) ≤ (j : Int) := by omega
  have hjn : (j : Int) < (n : Int) := by omega
  have f1 : j * 8 + 8 ≤ (flatC (s.out ++ List.replicate (n - j) ckZ)).length := by rw [flatC_len a14', hl14]; omega
  have f2 := (flatC_set a14' (i := j) (by omega) hdl).trans (congrArg flatC (out_set hok.ol hj d))
  have f3 : e.g.toNat * 8 + 8 ≤ (flatC s.cur).length := by rw [flatC_len a3, hok.cl]; omega
  have f4 := flatC_set a3 (i := e.g.toNat) (by rw [hok.cl]; omega) hdl
  unfold pch18c0
  cases k14 : (e.kind == 14) with
  | true =>
    have hk := beq_iff_eq.1 k14
    obtain ⟨hk0, hk8⟩ := hk14 hk
    have hk8' : e.k < ((8 : Nat) : Int) := hk8
    have f5 : e.k.toNat * 8 + 8 ≤ (flatC s.birth).length := by rw [flatC_len a4, hok.bl]; omega
    have f6 := flatC_set a4 (i := e.k.toNat) (by rw [hok.bl]; omega) hdl
    simp only [↓evP, evB, stB, reduceIte, reduceCtorEq, Nat.reduceEqDiff, Nat.reduceAdd, Nat.reduceMul, Nat.reduceLeDiff, Nat.reduceLT, Nat.reduceSub, Nat.reduceBEq, h0, h3, h4, h5, h6, h7, h8, h17, g3, g4, g14, o3, o4, o7, o14, o8, hg0, hg8', e1, e2, e3, e4, e5, e6, hj0, hjn, f1, f2, f3, f4, f5, f6, hw64, k14, hk0, hk8', Nat.mul_one]
    refine ⟨(by unfold Drw; kernel_rfl), hQ _ (by repeat' (first | assumption | exact within_over.mpr trivial | exact Within.refl _ _ _ | (refine within_ap ?_ rfl rfl) | (refine within_ap0 ?_ rfl))) ⟨by simp only [stB, reduceIte, reduceCtorEq, Nat.reduceEqDiff, Nat.reduceAdd, Nat.reduceMul, Nat.reduceLeDiff, Nat.reduceLT, Nat.reduceSub, Nat.reduceBEq, g3], by simp only [stB, reduceIte, reduceCtorEq, Nat.reduceEqDiff, Nat.reduceAdd, Nat.reduceMul, Nat.reduceLeDiff, Nat.reduceLT, Nat.reduceSub, Nat.reduceBEq, g4], by simp only [stB, reduceIte, reduceCtorEq, Nat.reduceEqDiff, Nat.reduceAdd, Nat.reduceMul, Nat.reduceLeDiff, Nat.reduceLT, Nat.reduceSub, Nat.reduceBEq, g14], by simp only [stB, reduceIte, reduceCtorEq, Nat.reduceEqDiff, Nat.reduceAdd, Nat.reduceMul, Nat.reduceLeDiff, Nat.reduceLT, Nat.reduceSub, Nat.reduceBEq, o3, f4], by simp only [stB, reduceIte, reduceCtorEq, Nat.reduceEqDiff, Nat.reduceAdd, Nat.reduceMul, Nat.reduceLeDiff, Nat.reduceLT, Nat.reduceSub, Nat.reduceBEq, o4, f6, hk], by simp only [stB, reduceIte, reduceCtorEq, Nat.reduceEqDiff, Nat.reduceAdd, Nat.reduceMul, Nat.reduceLeDiff, Nat.reduceLT, Nat.reduceSub, Nat.reduceBEq, o14, f2]⟩ (by simp only [stB, reduceIte, reduceCtorEq, Nat.reduceEqDiff, Nat.reduceAdd, Nat.reduceMul, Nat.reduceLeDiff, Nat.reduceLT, Nat.reduceSub, Nat.reduceBEq, h17])⟩
  | false =>
    simp only [↓evP, evB, stB, reduceIte, reduceCtorEq, Nat.reduceEqDiff, Nat.reduceAdd, Nat.reduceMul, Nat.reduceLeDiff, Nat.reduceLT, Nat.reduceSub, Nat.reduceBEq, h0, h3, h4, h5, h6, h7, h8, h17, g3, g4, g14, o3, o4, o7, o14, o8, hg0, hg8', e1, e2, e3, e4, e5, e6, hj0, hjn, f1, f2, f3, f4, hw64, k14, Nat.mul_one]
    have hk := beq_eq_false_iff_ne.1 k14
    refine ⟨(by unfold Drw; kernel_rfl), hQ _ (by repeat' (first | assumption | exact within_over.mpr trivial | exact Within.refl _ _ _ | (refine within_ap ?_ rfl rfl) | (refine within_ap0 ?_ rfl))) ⟨by simp only [stB, reduceIte, reduceCtorEq, Nat.reduceEqDiff, Nat.reduceAdd, Nat.reduceMul, Nat.reduceLeDiff, Nat.reduceLT, Nat.reduceSub, Nat.reduceBEq, g3], by simp only [stB, reduceIte, reduceCtorEq, Nat.reduceEqDiff, Nat.reduceAdd, Nat.reduceMul, Nat.reduceLeDiff, Nat.reduceLT, Nat.reduceSub, Nat.reduceBEq, g4], by simp only [stB, reduceIte, reduceCtorEq, Nat.reduceEqDiff, Nat.reduceAdd, Nat.reduceMul, Nat.reduceLeDiff, Nat.reduceLT, Nat.reduceSub, Nat.reduceBEq, g14], by simp only [stB, reduceIte, reduceCtorEq, Nat.reduceEqDiff, Nat.reduceAdd, Nat.reduceMul, Nat.reduceLeDiff, Nat.reduceLT, Nat.reduceSub, Nat.reduceBEq, o3, f4], by simp only [stB, reduceIte, reduceCtorEq, Nat.reduceEqDiff, Nat.reduceAdd, Nat.reduceMul, Nat.reduceLeDiff, Nat.reduceLT, Nat.reduceSub, Nat.reduceBEq, o4, hk], by simp only [stB, reduceIte, reduceCtorEq, Nat.reduceEqDiff, Nat.reduceAdd, Nat.reduceMul, Nat.reduceLeDiff, Nat.reduceLT, Nat.reduceSub, Nat.reduceBEq, o14, f2]⟩ (by simp only [stB, reduceIte, reduceCtorEq, Nat.reduceEqDiff, Nat.reduceAdd, Nat.reduceMul, Nat.reduceLeDiff, Nat.reduceLT, Nat.reduceSub, Nat.reduceBEq, h17])⟩

theorem stamps_c1 {l : List Ev} {s : SSt} {e : Ev} {j n : Nat} (hok : SOk s j) (hv : e.valid = true) (hj : j < n) (hn : n ≤ 1000000) {p : Ck × Int} (hc : COk j p.1) (hp : -1 ≤ p.2 ∧ p.2 < j)
    (k : List It) (Q : Exit → St → Prop) {s0 : St}
    (hQ : ∀ st, Within msh18_0 osS s0 st → StEnd ⟨s.cur.set e.g.toNat (finC s.out e p), if e.kind = 14 then s.birth.set e.k.toNat (finC s.out e p) else s.birth, s.out ++ [finC s.out e p]⟩ (j + 1) n st → st.sl 17 = aI j → exS env_stamps k Q .normal st)
    (st : St) (hw : Within msh18_0 osS s0 st) (ha : StAt l s e j n st) (o8 : st.ob 8 = .cells (ckCells p.1)) (h9 : st.sl 9 = aI p.2) :
    pwp env_stamps pch18c1 (exS env_stamps k Q) st := by
  have ha' := ha
  obtain ⟨h0, h3, h4, h5, h6, h7, h8, h17, g3, g4, g14, o3, o4, o7, o14⟩ := ha
  simp only [Ev.row, List.map_cons, List.map_nil] at o7
  obtain ⟨a3, a4, a14⟩ := hok.a8
  have a14' := a14.app (All8.rep (n - j))
  have hl14 : (s.out ++ List.replicate (n - j) ckZ).length = n := by rw [List.length_append, hok.ol, List.length_replicate]; omega
  have hcl := hc.1
  have no : atomE e p.2 = false → finC s.out e p = p.1.set e.g.toNat (p.1.getD e.g.toNat 0 + 1) := fun h => by unfold finC; rw [if_neg (by rw [h]; decide)]
  have go : ∀ st', Within msh18_0 osS s0 st' → StAt l s e j n st' → st'.ob 8 = .cells (ckCells p.1) → atomE e p.2 = false → pwp env_stamps pch18c0 (exS env_stamps k Q) st' := fun st' w' a' o' h => stamps_c0 hok hv hj hn hc (no h) k Q hQ st' w' a' o'
  unfold pch18c1
  by_cases b1 : p.2 ≥ 0
  · have yes : (e.kind == 3) = true ∨ (e.kind == 5) = true → finC s.out e p = (joinC p.1 (s.out.getD p.2.toNat ckZ)).set e.g.toNat ((joinC p.1 (s.out.getD p.2.toNat ckZ)).getD e.g.toNat 0 + 1) := fun h => by
      unfold finC
      rw [if_pos (by unfold atomE; rw [decide_eq_true b1]; rcases h with h | h <;> rw [h] <;> simp)]
    obtain ⟨u, hu⟩ : ∃ u, s.out[p.2.toNat]? = some u := ⟨_, List.getElem?_eq_getElem (by rw [hok.ol]; omega)⟩
    have hud : s.out.getD p.2.toNat ckZ = u := by rw [List.getD_eq_getElem?_getD, hu]; rfl
    have hul := a14 u (List.mem_of_getElem? hu)
    have hcu : COk j (joinC p.1 u) := hc.join (hok.oc u (List.mem_of_getElem? hu))
    have f1 : p.2.toNat * 8 + 8 ≤ (flatC (s.out ++ List.replicate (n - j) ckZ)).length := by rw [flatC_len a14', hl14]; omega
    have f2 := flatC_get a14' (i := p.2.toNat) (c := u) (by rw [List.getElem?_append_left (by rw [hok.ol]; omega)]; exact hu)
    have e5 : 0 + 8 ≤ (ckCells p.1).length := by rw [ckCells_length]; omega
    have e5' : 8 ≤ (ckCells p.1).length := by rw [ckCells_length]; omega
    have e6 : (ckCells p.1).take 8 = ckCells p.1 := List.take_of_length_le (by rw [ckCells_length]; omega)
    have e7 : (ckCells (joinC p.1 u)).length = 8 := by rw [ckCells_length, hcu.1]
    have e8 : wrAt (ckCells p.1) 0 (ckCells (joinC p.1 u)) = ckCells (joinC p.1 u) := wrAt_full (by rw [e7, ckCells_length, hcl])
    have hpn : p.2 < (n : Int) := by omega
    rw [hud] at yes
    have gg : ∀ st', Within msh18_0 osS s0 st' → StAt l s e j n st' → st'.ob 8 = .cells (ckCells (joinC p.1 u)) → (e.kind == 3) = true ∨ (e.kind == 5) = true → pwp env_stamps pch18c0 (exS env_stamps k Q) st' := fun st' w' a' o' h => stamps_c0 hok hv hj hn hcu (yes h) k Q hQ st' w' a' o'
    cases k3 : (e.kind == 3) with
    | true =>
      simp only [↓evP, evB, stB, reduceIte, reduceCtorEq, Nat.reduceEqDiff, Nat.reduceAdd, Nat.reduceMul, Nat.reduceLeDiff, Nat.reduceLT, Nat.reduceSub, Nat.reduceBEq, h0, h3, h4, h5, h6, h7, h8, h17, g3, g4, g14, o3, o4, o7, o14, o8, h9, b1, decide_true, decide_false, k3, e5, e5', e6, f1, f2, hpn, ckCells_dt]
      refine callD_intro [ckPa (joinC p.1 u)] ⟨p.1, u, rfl, ⟨hcl, hul⟩, rfl⟩ ?_
      simp only [↓evP, evB, stB, reduceIte, reduceCtorEq, Nat.reduceEqDiff, Nat.reduceAdd, Nat.reduceMul, Nat.reduceLeDiff, Nat.reduceLT, Nat.reduceSub, Nat.reduceBEq, h0, h3, h4, h5, h6, h7, h8, h17, g3, g4, g14, o3, o4, o7, o14, o8, h9, ckPa, ckRow_cells, e5', e7, e8]
      refine ⟨(by unfold Drw; kernel_rfl), ?_⟩
      exact gg _ (by repeat' (first | assumption | exact within_over.mpr trivial | exact Within.refl _ _ _ | (refine within_ap ?_ rfl rfl) | (refine within_ap0 ?_ rfl))) ⟨by simp only [stB, reduceIte, reduceCtorEq, Nat.reduceEqDiff, Nat.reduceAdd, Nat.reduceMul, Nat.reduceLeDiff, Nat.reduceLT, Nat.reduceSub, Nat.reduceBEq, h0], by simp only [stB, reduceIte, reduceCtorEq, Nat.reduceEqDiff, Nat.reduceAdd, Nat.reduceMul, Nat.reduceLeDiff, Nat.reduceLT, Nat.reduceSub, Nat.reduceBEq, h3], by simp only [stB, reduceIte, reduceCtorEq, Nat.reduceEqDiff, Nat.reduceAdd, Nat.reduceMul, Nat.reduceLeDiff, Nat.reduceLT, Nat.reduceSub, Nat.reduceBEq, h4], by simp only [stB, reduceIte, reduceCtorEq, Nat.reduceEqDiff, Nat.reduceAdd, Nat.reduceMul, Nat.reduceLeDiff, Nat.reduceLT, Nat.reduceSub, Nat.reduceBEq, h5], by simp only [stB, reduceIte, reduceCtorEq, Nat.reduceEqDiff, Nat.reduceAdd, Nat.reduceMul, Nat.reduceLeDiff, Nat.reduceLT, Nat.reduceSub, Nat.reduceBEq, h6], by simp only [stB, reduceIte, reduceCtorEq, Nat.reduceEqDiff, Nat.reduceAdd, Nat.reduceMul, Nat.reduceLeDiff, Nat.reduceLT, Nat.reduceSub, Nat.reduceBEq, h7], by simp only [stB, reduceIte, reduceCtorEq, Nat.reduceEqDiff, Nat.reduceAdd, Nat.reduceMul, Nat.reduceLeDiff, Nat.reduceLT, Nat.reduceSub, Nat.reduceBEq, h8], by simp only [stB, reduceIte, reduceCtorEq, Nat.reduceEqDiff, Nat.reduceAdd, Nat.reduceMul, Nat.reduceLeDiff, Nat.reduceLT, Nat.reduceSub, Nat.reduceBEq, h17], by simp only [stB, reduceIte, reduceCtorEq, Nat.reduceEqDiff, Nat.reduceAdd, Nat.reduceMul, Nat.reduceLeDiff, Nat.reduceLT, Nat.reduceSub, Nat.reduceBEq, g3], by simp only [stB, reduceIte, reduceCtorEq, Nat.reduceEqDiff, Nat.reduceAdd, Nat.reduceMul, Nat.reduceLeDiff, Nat.reduceLT, Nat.reduceSub, Nat.reduceBEq, g4], by simp only [stB, reduceIte, reduceCtorEq, Nat.reduceEqDiff, Nat.reduceAdd, Nat.reduceMul, Nat.reduceLeDiff, Nat.reduceLT, Nat.reduceSub, Nat.reduceBEq, g14], by simp only [stB, reduceIte, reduceCtorEq, Nat.reduceEqDiff, Nat.reduceAdd, Nat.reduceMul, Nat.reduceLeDiff, Nat.reduceLT, Nat.reduceSub, Nat.reduceBEq, o3], by simp only [stB, reduceIte, reduceCtorEq, Nat.reduceEqDiff, Nat.reduceAdd, Nat.reduceMul, Nat.reduceLeDiff, Nat.reduceLT, Nat.reduceSub, Nat.reduceBEq, o4], by simp only [stB, reduceIte, reduceCtorEq, Nat.reduceEqDiff, Nat.reduceAdd, Nat.reduceMul, Nat.reduceLeDiff, Nat.reduceLT, Nat.reduceSub, Nat.reduceBEq, o7, Ev.row], by simp only [stB, reduceIte, reduceCtorEq, Nat.reduceEqDiff, Nat.reduceAdd, Nat.reduceMul, Nat.reduceLeDiff, Nat.reduceLT, Nat.reduceSub, Nat.reduceBEq, o14]⟩ (by simp only [stB, reduceIte, reduceCtorEq, Nat.reduceEqDiff, Nat.reduceAdd, Nat.reduceMul, Nat.reduceLeDiff, Nat.reduceLT, Nat.reduceSub, Nat.reduceBEq, o8, e8]) (.inl k3)
    | false =>
    cases k5 : (e.kind == 5) with
    | true =>
      simp only [↓evP, evB, stB, reduceIte, reduceCtorEq, Nat.reduceEqDiff, Nat.reduceAdd, Nat.reduceMul, Nat.reduceLeDiff, Nat.reduceLT, Nat.reduceSub, Nat.reduceBEq, h0, h3, h4, h5, h6, h7, h8, h17, g3, g4, g14, o3, o4, o7, o14, o8, h9, b1, decide_true, decide_false, k3, k5, e5, e5', e6, f1, f2, hpn, ckCells_dt]
      refine callD_intro [ckPa (joinC p.1 u)] ⟨p.1, u, rfl, ⟨hcl, hul⟩, rfl⟩ ?_
      simp only [↓evP, evB, stB, reduceIte, reduceCtorEq, Nat.reduceEqDiff, Nat.reduceAdd, Nat.reduceMul, Nat.reduceLeDiff, Nat.reduceLT, Nat.reduceSub, Nat.reduceBEq, h0, h3, h4, h5, h6, h7, h8, h17, g3, g4, g14, o3, o4, o7, o14, o8, h9, ckPa, ckRow_cells, e5', e7, e8]
      refine ⟨(by unfold Drw; kernel_rfl), ?_⟩
      exact gg _ (by repeat' (first | assumption | exact within_over.mpr trivial | exact Within.refl _ _ _ | (refine within_ap ?_ rfl rfl) | (refine within_ap0 ?_ rfl))) ⟨by simp only [stB, reduceIte, reduceCtorEq, Nat.reduceEqDiff, Nat.reduceAdd, Nat.reduceMul, Nat.reduceLeDiff, Nat.reduceLT, Nat.reduceSub, Nat.reduceBEq, h0], by simp only [stB, reduceIte, reduceCtorEq, Nat.reduceEqDiff, Nat.reduceAdd, Nat.reduceMul, Nat.reduceLeDiff, Nat.reduceLT, Nat.reduceSub, Nat.reduceBEq, h3], by simp only [stB, reduceIte, reduceCtorEq, Nat.reduceEqDiff, Nat.reduceAdd, Nat.reduceMul, Nat.reduceLeDiff, Nat.reduceLT, Nat.reduceSub, Nat.reduceBEq, h4], by simp only [stB, reduceIte, reduceCtorEq, Nat.reduceEqDiff, Nat.reduceAdd, Nat.reduceMul, Nat.reduceLeDiff, Nat.reduceLT, Nat.reduceSub, Nat.reduceBEq, h5], by simp only [stB, reduceIte, reduceCtorEq, Nat.reduceEqDiff, Nat.reduceAdd, Nat.reduceMul, Nat.reduceLeDiff, Nat.reduceLT, Nat.reduceSub, Nat.reduceBEq, h6], by simp only [stB, reduceIte, reduceCtorEq, Nat.reduceEqDiff, Nat.reduceAdd, Nat.reduceMul, Nat.reduceLeDiff, Nat.reduceLT, Nat.reduceSub, Nat.reduceBEq, h7], by simp only [stB, reduceIte, reduceCtorEq, Nat.reduceEqDiff, Nat.reduceAdd, Nat.reduceMul, Nat.reduceLeDiff, Nat.reduceLT, Nat.reduceSub, Nat.reduceBEq, h8], by simp only [stB, reduceIte, reduceCtorEq, Nat.reduceEqDiff, Nat.reduceAdd, Nat.reduceMul, Nat.reduceLeDiff, Nat.reduceLT, Nat.reduceSub, Nat.reduceBEq, h17], by simp only [stB, reduceIte, reduceCtorEq, Nat.reduceEqDiff, Nat.reduceAdd, Nat.reduceMul, Nat.reduceLeDiff, Nat.reduceLT, Nat.reduceSub, Nat.reduceBEq, g3], by simp only [stB, reduceIte, reduceCtorEq, Nat.reduceEqDiff, Nat.reduceAdd, Nat.reduceMul, Nat.reduceLeDiff, Nat.reduceLT, Nat.reduceSub, Nat.reduceBEq, g4], by simp only [stB, reduceIte, reduceCtorEq, Nat.reduceEqDiff, Nat.reduceAdd, Nat.reduceMul, Nat.reduceLeDiff, Nat.reduceLT, Nat.reduceSub, Nat.reduceBEq, g14], by simp only [stB, reduceIte, reduceCtorEq, Nat.reduceEqDiff, Nat.reduceAdd, Nat.reduceMul, Nat.reduceLeDiff, Nat.reduceLT, Nat.reduceSub, Nat.reduceBEq, o3], by simp only [stB, reduceIte, reduceCtorEq, Nat.reduceEqDiff, Nat.reduceAdd, Nat.reduceMul, Nat.reduceLeDiff, Nat.reduceLT, Nat.reduceSub, Nat.reduceBEq, o4], by simp only [stB, reduceIte, reduceCtorEq, Nat.reduceEqDiff, Nat.reduceAdd, Nat.reduceMul, Nat.reduceLeDiff, Nat.reduceLT, Nat.reduceSub, Nat.reduceBEq, o7, Ev.row], by simp only [stB, reduceIte, reduceCtorEq, Nat.reduceEqDiff, Nat.reduceAdd, Nat.reduceMul, Nat.reduceLeDiff, Nat.reduceLT, Nat.reduceSub, Nat.reduceBEq, o14]⟩ (by simp only [stB, reduceIte, reduceCtorEq, Nat.reduceEqDiff, Nat.reduceAdd, Nat.reduceMul, Nat.reduceLeDiff, Nat.reduceLT, Nat.reduceSub, Nat.reduceBEq, o8, e8]) (.inr k5)
    | false =>
      simp only [↓evP, evB, stB, reduceIte, reduceCtorEq, Nat.reduceEqDiff, Nat.reduceAdd, Nat.reduceMul, Nat.reduceLeDiff, Nat.reduceLT, Nat.reduceSub, Nat.reduceBEq, h0, h3, h4, h5, h6, h7, h8, h17, g3, g4, g14, o3, o4, o7, o14, o8, h9, b1, decide_true, decide_false, k3, k5]
      exact go _ (by repeat' (first | assumption | exact within_over.mpr trivial | exact Within.refl _ _ _ | (refine within_ap ?_ rfl rfl) | (refine within_ap0 ?_ rfl))) ⟨by simp only [stB, reduceIte, reduceCtorEq, Nat.reduceEqDiff, Nat.reduceAdd, Nat.reduceMul, Nat.reduceLeDiff, Nat.reduceLT, Nat.reduceSub, Nat.reduceBEq, h0], by simp only [stB, reduceIte, reduceCtorEq, Nat.reduceEqDiff, Nat.reduceAdd, Nat.reduceMul, Nat.reduceLeDiff, Nat.reduceLT, Nat.reduceSub, Nat.reduceBEq, h3], by simp only [stB, reduceIte, reduceCtorEq, Nat.reduceEqDiff, Nat.reduceAdd, Nat.reduceMul, Nat.reduceLeDiff, Nat.reduceLT, Nat.reduceSub, Nat.reduceBEq, h4], by simp only [stB, reduceIte, reduceCtorEq, Nat.reduceEqDiff, Nat.reduceAdd, Nat.reduceMul, Nat.reduceLeDiff, Nat.reduceLT, Nat.reduceSub, Nat.reduceBEq, h5], by simp only [stB, reduceIte, reduceCtorEq, Nat.reduceEqDiff, Nat.reduceAdd, Nat.reduceMul, Nat.reduceLeDiff, Nat.reduceLT, Nat.reduceSub, Nat.reduceBEq, h6], by simp only [stB, reduceIte, reduceCtorEq, Nat.reduceEqDiff, Nat.reduceAdd, Nat.reduceMul, Nat.reduceLeDiff, Nat.reduceLT, Nat.reduceSub, Nat.reduceBEq, h7], by simp only [stB, reduceIte, reduceCtorEq, Nat.reduceEqDiff, Nat.reduceAdd, Nat.reduceMul, Nat.reduceLeDiff, Nat.reduceLT, Nat.reduceSub, Nat.reduceBEq, h8], by simp only [stB, reduceIte, reduceCtorEq, Nat.reduceEqDiff, Nat.reduceAdd, Nat.reduceMul, Nat.reduceLeDiff, Nat.reduceLT, Nat.reduceSub, Nat.reduceBEq, h17], by simp only [stB, reduceIte, reduceCtorEq, Nat.reduceEqDiff, Nat.reduceAdd, Nat.reduceMul, Nat.reduceLeDiff, Nat.reduceLT, Nat.reduceSub, Nat.reduceBEq, g3], by simp only [stB, reduceIte, reduceCtorEq, Nat.reduceEqDiff, Nat.reduceAdd, Nat.reduceMul, Nat.reduceLeDiff, Nat.reduceLT, Nat.reduceSub, Nat.reduceBEq, g4], by simp only [stB, reduceIte, reduceCtorEq, Nat.reduceEqDiff, Nat.reduceAdd, Nat.reduceMul, Nat.reduceLeDiff, Nat.reduceLT, Nat.reduceSub, Nat.reduceBEq, g14], by simp only [stB, reduceIte, reduceCtorEq, Nat.reduceEqDiff, Nat.reduceAdd, Nat.reduceMul, Nat.reduceLeDiff, Nat.reduceLT, Nat.reduceSub, Nat.reduceBEq, o3], by simp only [stB, reduceIte, reduceCtorEq, Nat.reduceEqDiff, Nat.reduceAdd, Nat.reduceMul, Nat.reduceLeDiff, Nat.reduceLT, Nat.reduceSub, Nat.reduceBEq, o4], by simp only [stB, reduceIte, reduceCtorEq, Nat.reduceEqDiff, Nat.reduceAdd, Nat.reduceMul, Nat.reduceLeDiff, Nat.reduceLT, Nat.reduceSub, Nat.reduceBEq, o7, Ev.row], by simp only [stB, reduceIte, reduceCtorEq, Nat.reduceEqDiff, Nat.reduceAdd, Nat.reduceMul, Nat.reduceLeDiff, Nat.reduceLT, Nat.reduceSub, Nat.reduceBEq, o14]⟩ (by simp only [stB, reduceIte, reduceCtorEq, Nat.reduceEqDiff, Nat.reduceAdd, Nat.reduceMul, Nat.reduceLeDiff, Nat.reduceLT, Nat.reduceSub, Nat.reduceBEq, o8]) (by unfold atomE; rw [k3, k5]; simp)
  · simp only [↓evP, evB, stB, reduceIte, reduceCtorEq, Nat.reduceEqDiff, Nat.reduceAdd, Nat.reduceMul, Nat.reduceLeDiff, Nat.reduceLT, Nat.reduceSub, Nat.reduceBEq, h0, h3, h4, h5, h6, h7, h8, h17, g3, g4, g14, o3, o4, o7, o14, o8, h9, b1, decide_true, decide_false]
    exact go _ (by repeat' (first | assumption | exact within_over.mpr trivial | exact Within.refl _ _ _ | (refine within_ap ?_ rfl rfl) | (refine within_ap0 ?_ rfl))) ⟨by simp only [stB, reduceIte, reduceCtorEq, Nat.reduceEqDiff, Nat.reduceAdd, Nat.reduceMul, Nat.reduceLeDiff, Nat.reduceLT, Nat.reduceSub, Nat.reduceBEq, h0], by simp only [stB, reduceIte, reduceCtorEq, Nat.reduceEqDiff, Nat.reduceAdd, Nat.reduceMul, Nat.reduceLeDiff, Nat.reduceLT, Nat.reduceSub, Nat.reduceBEq, h3], by simp only [stB, reduceIte, reduceCtorEq, Nat.reduceEqDiff, Nat.reduceAdd, Nat.reduceMul, Nat.reduceLeDiff, Nat.reduceLT, Nat.reduceSub, Nat.reduceBEq, h4], by simp only [stB, reduceIte, reduceCtorEq, Nat.reduceEqDiff, Nat.reduceAdd, Nat.reduceMul, Nat.reduceLeDiff, Nat.reduceLT, Nat.reduceSub, Nat.reduceBEq, h5], by simp only [stB, reduceIte, reduceCtorEq, Nat.reduceEqDiff, Nat.reduceAdd, Nat.reduceMul, Nat.reduceLeDiff, Nat.reduceLT, Nat.reduceSub, Nat.reduceBEq, h6], by simp only [stB, reduceIte, reduceCtorEq, Nat.reduceEqDiff, Nat.reduceAdd, Nat.reduceMul, Nat.reduceLeDiff, Nat.reduceLT, Nat.reduceSub, Nat.reduceBEq, h7], by simp only [stB, reduceIte, reduceCtorEq, Nat.reduceEqDiff, Nat.reduceAdd, Nat.reduceMul, Nat.reduceLeDiff, Nat.reduceLT, Nat.reduceSub, Nat.reduceBEq, h8], by simp only [stB, reduceIte, reduceCtorEq, Nat.reduceEqDiff, Nat.reduceAdd, Nat.reduceMul, Nat.reduceLeDiff, Nat.reduceLT, Nat.reduceSub, Nat.reduceBEq, h17], by simp only [stB, reduceIte, reduceCtorEq, Nat.reduceEqDiff, Nat.reduceAdd, Nat.reduceMul, Nat.reduceLeDiff, Nat.reduceLT, Nat.reduceSub, Nat.reduceBEq, g3], by simp only [stB, reduceIte, reduceCtorEq, Nat.reduceEqDiff, Nat.reduceAdd, Nat.reduceMul, Nat.reduceLeDiff, Nat.reduceLT, Nat.reduceSub, Nat.reduceBEq, g4], by simp only [stB, reduceIte, reduceCtorEq, Nat.reduceEqDiff, Nat.reduceAdd, Nat.reduceMul, Nat.reduceLeDiff, Nat.reduceLT, Nat.reduceSub, Nat.reduceBEq, g14], by simp only [stB, reduceIte, reduceCtorEq, Nat.reduceEqDiff, Nat.reduceAdd, Nat.reduceMul, Nat.reduceLeDiff, Nat.reduceLT, Nat.reduceSub, Nat.reduceBEq, o3], by simp only [stB, reduceIte, reduceCtorEq, Nat.reduceEqDiff, Nat.reduceAdd, Nat.reduceMul, Nat.reduceLeDiff, Nat.reduceLT, Nat.reduceSub, Nat.reduceBEq, o4], by simp only [stB, reduceIte, reduceCtorEq, Nat.reduceEqDiff, Nat.reduceAdd, Nat.reduceMul, Nat.reduceLeDiff, Nat.reduceLT, Nat.reduceSub, Nat.reduceBEq, o7, Ev.row], by simp only [stB, reduceIte, reduceCtorEq, Nat.reduceEqDiff, Nat.reduceAdd, Nat.reduceMul, Nat.reduceLeDiff, Nat.reduceLT, Nat.reduceSub, Nat.reduceBEq, o14]⟩ (by simp only [stB, reduceIte, reduceCtorEq, Nat.reduceEqDiff, Nat.reduceAdd, Nat.reduceMul, Nat.reduceLeDiff, Nat.reduceLT, Nat.reduceSub, Nat.reduceBEq, o8]) (by unfold atomE; rw [decide_eq_false (by omega)]; rfl)

theorem atom_iff (f e : Ev) : atomB f e = (f.obj == e.obj && (f.off == e.off && (f.kind == 4 || f.kind == 5))) := rfl
theorem stamps_c3 {l : List Ev} {s : SSt} {e : Ev} {j : Nat} (hok : SOk s j) (hv : e.valid = true) (hvl : ∀ f, f ∈ l → f.valid = true) (hj : j < l.length) (hn : l.length ≤ 1000000)
    (k : List It) (Q : Exit → St → Prop) {s0 : St}
    (hQ : ∀ st, Within msh18_0 osS s0 st → StAt l s e j l.length st → st.ob 8 = .cells (ckCells (inTo l s.out e (startC s e, -1) j).1) → st.sl 9 = aI (inTo l s.out e (startC s e, -1) j).2 → exS env_stamps k Q .normal st)
    (st : St) (hw : Within msh18_0 osS s0 st) (ha : StAt l s e j l.length st) (o8 : st.ob 8 = .cells (ckCells (startC s e))) (h9 : st.sl 9 = aI (-1)) :
    pwp env_stamps pch18c3 (exS env_stamps k Q) st := by
  have ha' := ha
  obtain ⟨h0, h3, h4, h5, h6, h7, h8, h17, g3, g4, g14, o3, o4, o7, o14⟩ := ha
  simp only [Ev.row, List.map_cons, List.map_nil] at o7
  obtain ⟨a3, a4, a14⟩ := hok.a8
  have a14' := a14.app (All8.rep (l.length - j))
  have hl14 : (s.out ++ List.replicate (l.length - j) ckZ).length = l.length := by rw [List.length_append, hok.ol, List.length_replicate]; omega
  have hj0 : (0 : Int) ≤ (j : Int) := by omega
  have hjn : (j : Int) ≤ (l.length : Int) := by omega
  have hall := rows_len (f := Ev.row) (n := 9) (fun _ => rfl) l
  have htl : (l.take j).length = j := by rw [List.length_take]; omega
  have htk : (l.map Ev.row).take j = (l.take j).map Ev.row := (List.map_take ..).symm
  obtain ⟨_, _, hen, _⟩ := Ev.valid_rng hv
  unfold pch18c3
  simp only [↓evP, evB, stB, reduceIte, reduceCtorEq, Nat.reduceEqDiff, Nat.reduceAdd, Nat.reduceMul, Nat.reduceLeDiff, Nat.reduceLT, Nat.reduceSub, Nat.reduceBEq, h0, h3, h4, h5, h6, h7, h8, h17, g3, g4, g14, o3, o4, o7, o14, evsD, hj0, hjn, hall, htk, htl, List.drop_zero, Int.le_refl, Int.toNat_zero]
  refine pwp_loopW msh18_1 [11, 8] (fun m st' => ∃ i : Nat, m = j - i ∧ i ≤ j ∧ st'.sl 37 = aI i ∧ st'.gen 8 = st.gen 8 ∧ st'.ob 8 = .cells (ckCells (inTo l s.out e (startC s e, -1) i).1) ∧ st'.sl 9 = aI (inTo l s.out e (startC s e, -1) i).2) j ?_ ?_
  · exact ⟨0, rfl, Nat.zero_le _, by simp only [stB, reduceIte, reduceCtorEq, Nat.reduceEqDiff, Nat.reduceAdd, Nat.reduceMul, Nat.reduceLeDiff, Nat.reduceLT, Nat.reduceSub, Nat.reduceBEq]; rfl, by simp only [stB, reduceIte, reduceCtorEq, Nat.reduceEqDiff, Nat.reduceAdd, Nat.reduceMul, Nat.reduceLeDiff, Nat.reduceLT, Nat.reduceSub, Nat.reduceBEq], by simp only [stB, reduceIte, reduceCtorEq, Nat.reduceEqDiff, Nat.reduceAdd, Nat.reduceMul, Nat.reduceLeDiff, Nat.reduceLT, Nat.reduceSub, Nat.reduceBEq, o8]; rfl, by simp only [stB, reduceIte, reduceCtorEq, Nat.reduceEqDiff, Nat.reduceAdd, Nat.reduceMul, Nat.reduceLeDiff, Nat.reduceLT, Nat.reduceSub, Nat.reduceBEq, h9]; rfl⟩
  · rintro m z ⟨i, rfl, hi, h37, g8, o8', h9'⟩
    simp only [stB, reduceIte, reduceCtorEq, Nat.reduceEqDiff, Nat.reduceAdd, Nat.reduceMul, Nat.reduceLeDiff, Nat.reduceLT, Nat.reduceSub, Nat.reduceBEq] at h37 g8 o8' h9'
    have hinv := hok.inTo l e i
    rcases Nat.lt_or_ge i j with hlt | hge
    · obtain ⟨f, hf⟩ : ∃ f, l[i]? = some f := ⟨_, List.getElem?_eq_getElem (by omega)⟩
      have hft : (l.take j)[i]? = some f := by rw [List.getElem?_take, if_pos hlt, hf]
      have hfd : l.getD i default = f := by rw [List.getD_eq_getElem?_getD, hf]; rfl
      have hstep : inTo l s.out e (startC s e, -1) (i + 1) = inStep s.out e f i (inTo l s.out e (startC s e, -1) i) := by rw [← hfd]; rfl
      obtain ⟨_, hfk, _, _⟩ := Ev.valid_rng (hvl f (List.mem_of_getElem? hf))
      obtain ⟨u, hu⟩ : ∃ u, s.out[i]? = some u := ⟨_, List.getElem?_eq_getElem (by rw [hok.ol]; omega)⟩
      have hud : s.out.getD i ckZ = u := by rw [List.getD_eq_getElem?_getD, hu]; rfl
      have hul := a14 u (List.mem_of_getElem? hu)
      generalize hp : inTo l s.out e (startC s e, -1) i = p at hinv hstep o8' h9'
      obtain ⟨hc, _, _⟩ := hinv
      have hcl := hc.1
      have hcu := (hc.join (hok.oc u (List.mem_of_getElem? hu))).1
      have hlt' : (i : Int) < (j : Int) := by omega
      have hi0 : (0 : Int) ≤ (i : Int) := by omega
      have hin : (i : Int) < (l.length : Int) := by omega
      have f1 : i * 8 + 8 ≤ (flatC (s.out ++ List.replicate (l.length - j) ckZ)).length := by rw [flatC_len a14', hl14]; omega
      have f2 := flatC_get a14' (i := i) (c := u) (by rw [List.getElem?_append_left (by rw [hok.ol]; omega)]; exact hu)
      have e5 : 0 + 8 ≤ (ckCells p.1).length := by rw [ckCells_length]; omega
      have e5' : 8 ≤ (ckCells p.1).length := by rw [ckCells_length]; omega
      have e6 : (ckCells p.1).take 8 = ckCells p.1 := List.take_of_length_le (by rw [ckCells_length]; omega)
      have e7 : (ckCells (joinC p.1 u)).length = 8 := by rw [ckCells_length, hcu]
      have e8 : wrAt (ckCells p.1) 0 (ckCells (joinC p.1 u)) = ckCells (joinC p.1 u) := wrAt_full (by rw [e7, ckCells_length, hcl])
      simp only [↓evP, evB, stB, reduceIte, reduceCtorEq, Nat.reduceEqDiff, Nat.reduceAdd, Nat.reduceMul, Nat.reduceLeDiff, Nat.reduceLT, Nat.reduceSub, Nat.reduceBEq, h0, h3, h4, h5, h6, h7, h8, h17, g3, g4, g14, o3, o4, o7, o14, h37, g8, o8', h9', hlt', hft]
      unfold pch18c2
      simp only [↓evP, evB, stB, reduceIte, reduceCtorEq, Nat.reduceEqDiff, Nat.reduceAdd, Nat.reduceMul, Nat.reduceLeDiff, Nat.reduceLT, Nat.reduceSub, Nat.reduceBEq, h0, h3, h4, h5, h6, h7, h8, h17, g3, g4, g14, o3, o4, o7, o14, h37, g8, o8', h9', hlt', hi0, hft, List.getElem?_map, Ev.row]
      refine callOps_intro [pB (syncB f e)] ⟨f, e, rfl, ⟨hfk.1, hfk.2, hen.1, hen.2⟩, rfl⟩ ?_
      have hT : ∀ b, (f.obj == e.obj) = b → (b = false → atomB f e = false) := fun b h hb => by unfold atomB; rw [h, hb]; rfl
      have hT2 : (f.obj == e.obj) = true → (f.off == e.off) = false → atomB f e = false := fun h h' => by unfold atomB; rw [h, h']; rfl
      have hT3 : (f.obj == e.obj) = true → (f.off == e.off) = true → (f.kind == 4) = true → atomB f e = true := fun h h' h'' => by unfold atomB; rw [h, h', h'']; rfl
      have hT4 : (f.obj == e.obj) = true → (f.off == e.off) = true → (f.kind == 4) = false → (f.kind == 5) = true → atomB f e = true := fun h h' h'' h3 => by unfold atomB; rw [h, h', h'', h3]; rfl
      have hT5 : (f.obj == e.obj) = true → (f.off == e.off) = true → (f.kind == 4) = false → (f.kind == 5) = false → atomB f e = false := fun h h' h'' h3 => by unfold atomB; rw [h, h', h'', h3]; rfl
      cases hs : syncB f e with
      | true =>
        simp only [↓evP, evB, stB, reduceIte, reduceCtorEq, Nat.reduceEqDiff, Nat.reduceAdd, Nat.reduceMul, Nat.reduceLeDiff, Nat.reduceLT, Nat.reduceSub, Nat.reduceBEq, h0, h3, h4, h5, h6, h7, h8, h17, g3, g4, g14, o3, o4, o7, o14, h37, g8, o8', h9', hs, e5, e5', e6, f1, f2, hi0, hin, ckCells_dt]
        refine callD_intro [ckPa (joinC p.1 u)] ⟨p.1, u, rfl, ⟨hcl, hul⟩, rfl⟩ ?_
        simp only [↓evP, evB, stB, reduceIte, reduceCtorEq, Nat.reduceEqDiff, Nat.reduceAdd, Nat.reduceMul, Nat.reduceLeDiff, Nat.reduceLT, Nat.reduceSub, Nat.reduceBEq, h0, h3, h4, h5, h6, h7, h8, h17, g3, g4, g14, o3, o4, o7, o14, h37, g8, o8', h9', ckPa, ckRow_cells, e5', e7, e8, Ev.row]
        refine ⟨(by unfold Drw; kernel_rfl), ?_⟩
        repeat' (first | apply And.intro | intro)
        all_goals (first
          | (have hb : atomB f e = true := (by first | exact hT3 ‹_› ‹_› ‹_› | exact hT4 ‹_› ‹_› ‹_› ‹_›)
             exact ⟨_, by omega, (by repeat' (first | assumption | exact within_over.mpr trivial | exact Within.refl _ _ _ | (refine within_ap ?_ rfl rfl) | (refine within_ap0 ?_ rfl))), i + 1, rfl, by omega, by simp only [stB, reduceIte, reduceCtorEq, Nat.reduceEqDiff, Nat.reduceAdd, Nat.reduceMul, Nat.reduceLeDiff, Nat.reduceLT, Nat.reduceSub, Nat.reduceBEq, h37]; rw [wrN (by omega)], by simp only [stB, reduceIte, reduceCtorEq, Nat.reduceEqDiff, Nat.reduceAdd, Nat.reduceMul, Nat.reduceLeDiff, Nat.reduceLT, Nat.reduceSub, Nat.reduceBEq, g8], by simp only [stB, reduceIte, reduceCtorEq, Nat.reduceEqDiff, Nat.reduceAdd, Nat.reduceMul, Nat.reduceLeDiff, Nat.reduceLT, Nat.reduceSub, Nat.reduceBEq, o8', hstep, inStep, hs, hud, e8], by simp only [stB, reduceIte, reduceCtorEq, Nat.reduceEqDiff, Nat.reduceAdd, Nat.reduceMul, Nat.reduceLeDiff, Nat.reduceLT, Nat.reduceSub, Nat.reduceBEq, h9', hstep, inStep, hb]⟩)
          | (have hb : atomB f e = false := (by first | exact hT _ ‹_› rfl | exact hT2 ‹_› ‹_› | exact hT5 ‹_› ‹_› ‹_› ‹_›)
             exact ⟨_, by omega, (by repeat' (first | assumption | exact within_over.mpr trivial | exact Within.refl _ _ _ | (refine within_ap ?_ rfl rfl) | (refine within_ap0 ?_ rfl))), i + 1, rfl, by omega, by simp only [stB, reduceIte, reduceCtorEq, Nat.reduceEqDiff, Nat.reduceAdd, Nat.reduceMul, Nat.reduceLeDiff, Nat.reduceLT, Nat.reduceSub, Nat.reduceBEq, h37]; rw [wrN (by omega)], by simp only [stB, reduceIte, reduceCtorEq, Nat.reduceEqDiff, Nat.reduceAdd, Nat.reduceMul, Nat.reduceLeDiff, Nat.reduceLT, Nat.reduceSub, Nat.reduceBEq, g8], by simp only [stB, reduceIte, reduceCtorEq, Nat.reduceEqDiff, Nat.reduceAdd, Nat.reduceMul, Nat.reduceLeDiff, Nat.reduceLT, Nat.reduceSub, Nat.reduceBEq, o8', hstep, inStep, hs, hud, e8], by simp only [stB, reduceIte, reduceCtorEq, Nat.reduceEqDiff, Nat.reduceAdd, Nat.reduceMul, Nat.reduceLeDiff, Nat.reduceLT, Nat.reduceSub, Nat.reduceBEq, h9', hstep, inStep, hb, Bool.false_eq_true]⟩))
      | false =>
        simp only [↓evP, evB, stB, reduceIte, reduceCtorEq, Nat.reduceEqDiff, Nat.reduceAdd, Nat.reduceMul, Nat.reduceLeDiff, Nat.reduceLT, Nat.reduceSub, Nat.reduceBEq, h0, h3, h4, h5, h6, h7, h8, h17, g3, g4, g14, o3, o4, o7, o14, h37, g8, o8', h9', hs]
        repeat' (first | apply And.intro | intro)
        all_goals (first
          | (have hb : atomB f e = true := (by first | exact hT3 ‹_› ‹_› ‹_› | exact hT4 ‹_› ‹_› ‹_› ‹_›)
             exact ⟨_, by omega, (by repeat' (first | assumption | exact within_over.mpr trivial | exact Within.refl _ _ _ | (refine within_ap ?_ rfl rfl) | (refine within_ap0 ?_ rfl))), i + 1, rfl, by omega, by simp only [stB, reduceIte, reduceCtorEq, Nat.reduceEqDiff, Nat.reduceAdd, Nat.reduceMul, Nat.reduceLeDiff, Nat.reduceLT, Nat.reduceSub, Nat.reduceBEq, h37]; rw [wrN (by omega)], by simp only [stB, reduceIte, reduceCtorEq, Nat.reduceEqDiff, Nat.reduceAdd, Nat.reduceMul, Nat.reduceLeDiff, Nat.reduceLT, Nat.reduceSub, Nat.reduceBEq, g8], by simp only [stB, reduceIte, reduceCtorEq, Nat.reduceEqDiff, Nat.reduceAdd, Nat.reduceMul, Nat.reduceLeDiff, Nat.reduceLT, Nat.reduceSub, Nat.reduceBEq, o8', hstep, inStep, hs, Bool.false_eq_true], by simp only [stB, reduceIte, reduceCtorEq, Nat.reduceEqDiff, Nat.reduceAdd, Nat.reduceMul, Nat.reduceLeDiff, Nat.reduceLT, Nat.reduceSub, Nat.reduceBEq, h9', hstep, inStep, hb]⟩)
          | (have hb : atomB f e = false := (by first | exact hT _ ‹_› rfl | exact hT2 ‹_› ‹_› | exact hT5 ‹_› ‹_› ‹_› ‹_›)
             exact ⟨_, by omega, (by repeat' (first | assumption | exact within_over.mpr trivial | exact Within.refl _ _ _ | (refine within_ap ?_ rfl rfl) | (refine within_ap0 ?_ rfl))), i + 1, rfl, by omega, by simp only [stB, reduceIte, reduceCtorEq, Nat.reduceEqDiff, Nat.reduceAdd, Nat.reduceMul, Nat.reduceLeDiff, Nat.reduceLT, Nat.reduceSub, Nat.reduceBEq, h37]; rw [wrN (by omega)], by simp only [stB, reduceIte, reduceCtorEq, Nat.reduceEqDiff, Nat.reduceAdd, Nat.reduceMul, Nat.reduceLeDiff, Nat.reduceLT, Nat.reduceSub, Nat.reduceBEq, g8], by simp only [stB, reduceIte, reduceCtorEq, Nat.reduceEqDiff, Nat.reduceAdd, Nat.reduceMul, Nat.reduceLeDiff, Nat.reduceLT, Nat.reduceSub, Nat.reduceBEq, o8', hstep, inStep, hs, Bool.false_eq_true], by simp only [stB, reduceIte, reduceCtorEq, Nat.reduceEqDiff, Nat.reduceAdd, Nat.reduceMul, Nat.reduceLeDiff, Nat.reduceLT, Nat.reduceSub, Nat.reduceBEq, h9', hstep, inStep, hb, Bool.false_eq_true]⟩))
    · have hij : i = j := by omega
      subst hij
      have hlt' : ¬ (i : Int) < (i : Int) := by omega
      simp only [↓evP, evB, stB, reduceIte, reduceCtorEq, Nat.reduceEqDiff, Nat.reduceAdd, Nat.reduceMul, Nat.reduceLeDiff, Nat.reduceLT, Nat.reduceSub, Nat.reduceBEq, h0, h3, h4, h5, h6, h7, h8, h17, g3, g4, g14, o3, o4, o7, o14, h37, g8, o8', h9', hlt']
      exact hQ _ (by repeat' (first | assumption | exact within_over.mpr trivial | (refine within_ap ?_ rfl rfl) | (refine within_ap0 ?_ rfl) | refine within_in ?_ (by decide) (by decide))) ⟨by simp only [stB, reduceIte, reduceCtorEq, Nat.reduceEqDiff, Nat.reduceAdd, Nat.reduceMul, Nat.reduceLeDiff, Nat.reduceLT, Nat.reduceSub, Nat.reduceBEq, h0], by simp only [stB, reduceIte, reduceCtorEq, Nat.reduceEqDiff, Nat.reduceAdd, Nat.reduceMul, Nat.reduceLeDiff, Nat.reduceLT, Nat.reduceSub, Nat.reduceBEq, h3], by simp only [stB, reduceIte, reduceCtorEq, Nat.reduceEqDiff, Nat.reduceAdd, Nat.reduceMul, Nat.reduceLeDiff, Nat.reduceLT, Nat.reduceSub, Nat.reduceBEq, h4], by simp only [stB, reduceIte, reduceCtorEq, Nat.reduceEqDiff, Nat.reduceAdd, Nat.reduceMul, Nat.reduceLeDiff, Nat.reduceLT, Nat.reduceSub, Nat.reduceBEq, h5], by simp only [stB, reduceIte, reduceCtorEq, Nat.reduceEqDiff, Nat.reduceAdd, Nat.reduceMul, Nat.reduceLeDiff, Nat.reduceLT, Nat.reduceSub, Nat.reduceBEq, h6], by simp only [stB, reduceIte, reduceCtorEq, Nat.reduceEqDiff, Nat.reduceAdd, Nat.reduceMul, Nat.reduceLeDiff, Nat.reduceLT, Nat.reduceSub, Nat.reduceBEq, h7], by simp only [stB, reduceIte, reduceCtorEq, Nat.reduceEqDiff, Nat.reduceAdd, Nat.reduceMul, Nat.reduceLeDiff, Nat.reduceLT, Nat.reduceSub, Nat.reduceBEq, h8, g8], by simp only [stB, reduceIte, reduceCtorEq, Nat.reduceEqDiff, Nat.reduceAdd, Nat.reduceMul, Nat.reduceLeDiff, Nat.reduceLT, Nat.reduceSub, Nat.reduceBEq, h17], by simp only [stB, reduceIte, reduceCtorEq, Nat.reduceEqDiff, Nat.reduceAdd, Nat.reduceMul, Nat.reduceLeDiff, Nat.reduceLT, Nat.reduceSub, Nat.reduceBEq, g3], by simp only [stB, reduceIte, reduceCtorEq, Nat.reduceEqDiff, Nat.reduceAdd, Nat.reduceMul, Nat.reduceLeDiff, Nat.reduceLT, Nat.reduceSub, Nat.reduceBEq, g4], by simp only [stB, reduceIte, reduceCtorEq, Nat.reduceEqDiff, Nat.reduceAdd, Nat.reduceMul, Nat.reduceLeDiff, Nat.reduceLT, Nat.reduceSub, Nat.reduceBEq, g14], by simp only [stB, reduceIte, reduceCtorEq, Nat.reduceEqDiff, Nat.reduceAdd, Nat.reduceMul, Nat.reduceLeDiff, Nat.reduceLT, Nat.reduceSub, Nat.reduceBEq, o3], by simp only [stB, reduceIte, reduceCtorEq, Nat.reduceEqDiff, Nat.reduceAdd, Nat.reduceMul, Nat.reduceLeDiff, Nat.reduceLT, Nat.reduceSub, Nat.reduceBEq, o4], by simp only [stB, reduceIte, reduceCtorEq, Nat.reduceEqDiff, Nat.reduceAdd, Nat.reduceMul, Nat.reduceLeDiff, Nat.reduceLT, Nat.reduceSub, Nat.reduceBEq, o7, Ev.row], by simp only [stB, reduceIte, reduceCtorEq, Nat.reduceEqDiff, Nat.reduceAdd, Nat.reduceMul, Nat.reduceLeDiff, Nat.reduceLT, Nat.reduceSub, Nat.reduceBEq, o14]⟩ (by simp only [stB, reduceIte, reduceCtorEq, Nat.reduceEqDiff, Nat.reduceAdd, Nat.reduceMul, Nat.reduceLeDiff, Nat.reduceLT, Nat.reduceSub, Nat.reduceBEq, o8']) (by simp only [stB, reduceIte, reduceCtorEq, Nat.reduceEqDiff, Nat.reduceAdd, Nat.reduceMul, Nat.reduceLeDiff, Nat.reduceLT, Nat.reduceSub, Nat.reduceBEq, h9'])
end Go.Proofs.Ytohliamalaifhaa
end
section
set_option linter.unusedSimpArgs false
set_option linter.unusedVariables false
namespace Go.Proofs.Ytohliamalaifhaa
open Go Go.RowKit
set_option maxRecDepth 100000
set_option maxHeartbeats 4000000

def R_stamps (ps rs : List Pa) : Prop := ∃ l : List Ev, ps = [evsPa l] ∧ (l.length ≤ 1000000 ∧ ∀ e, e ∈ l → e.valid = true) ∧ rs = [cksPa (stampsL l)]
theorem s_stamps : Spec Try.prog 18 R_stamps := by
  refine sph18 env_stamps_ok ?_
  rintro ps rs ⟨l, rfl, ⟨hlen, hvl⟩, rfl⟩
  refine ⟨by simp, ?_⟩
  have hl0 : (0 : Int) ≤ (l.length : Int) := by omega
  have hl1 : (l.length : Int) ≤ 1000000 := by omega
  unfold pch18
  refine pwp_start ?_
  simp only [↓evP, evB, stB, reduceIte, reduceCtorEq, Nat.reduceEqDiff, Nat.reduceAdd, Nat.reduceMul, Nat.reduceLeDiff, Nat.reduceLT, Nat.reduceSub, Nat.reduceBEq, evsPa, evsD, hl0, hl1, Nat.reduceLeDiff, mk_flat]
  unfold pch18c5
  simp only [↓evP, evB, stB, reduceIte, reduceCtorEq, Nat.reduceEqDiff, Nat.reduceAdd, Nat.reduceMul, Nat.reduceLeDiff, Nat.reduceLT, Nat.reduceSub, Nat.reduceBEq]
  refine pwp_fresh [0, 3, 4, 5, 15, 16, 17] [3, 4, 14] (fun S hs ho => ?_)
  simp only [stB, reduceIte, reduceCtorEq, Nat.reduceEqDiff, Nat.reduceAdd, Nat.reduceMul, Nat.reduceLeDiff, Nat.reduceLT, Nat.reduceSub, Nat.reduceBEq] at hs ho
  obtain ⟨q0, q3, q4, q5, q15, q16, q17⟩ := hs
  obtain ⟨⟨r3, t3⟩, ⟨r4, t4⟩, r14, t14⟩ := ho
  refine pwp_loopW msh18_0 osS (fun m st => ∃ j : Nat, m = l.length - j ∧ j ≤ l.length ∧ st.sl 17 = aI j ∧ StEnd (runTo l j) j l.length st) l.length ?_ ?_
  · exact ⟨0, rfl, Nat.zero_le _, q17, ⟨r3, r4, r14, t3, t4, t14⟩⟩
  · rintro m z ⟨j, rfl, hj, h17, ⟨g3, g4, g14, o3, o4, o14⟩⟩
    simp only [stB, reduceIte, reduceCtorEq, Nat.reduceEqDiff, Nat.reduceAdd, Nat.reduceMul, Nat.reduceLeDiff, Nat.reduceLT, Nat.reduceSub, Nat.reduceBEq] at h17 g3 g4 g14 o3 o4 o14
    have hok := runTo_ok l j
    rcases Nat.lt_or_ge j l.length with hlt | hge
    · obtain ⟨e, he⟩ : ∃ e, l[j]? = some e := ⟨_, List.getElem?_eq_getElem hlt⟩
      have hed : l.getD j default = e := by rw [List.getD_eq_getElem?_getD, he]; rfl
      have hstep : runTo l (j + 1) = (runTo l j).step l e j := by rw [← hed]; rfl
      have hv := hvl e (List.mem_of_getElem? he)
      obtain ⟨⟨hg0, hg8⟩, _, _, _⟩ := Ev.valid_rng hv
      have hg8' : e.g < ((8 : Nat) : Int) := hg8
      have hlt' : (j : Int) < (l.length : Int) := by omega
      have hj0 : (0 : Int) ≤ (j : Int) := by omega
      obtain ⟨a3, a4, a14⟩ := hok.a8
      generalize hs : runTo l j = s at *
      obtain ⟨c, hc⟩ : ∃ c, s.cur[e.g.toNat]? = some c := ⟨_, List.getElem?_eq_getElem (by rw [hok.cl]; omega)⟩
      obtain ⟨b, hb⟩ : ∃ b, s.birth[e.g.toNat]? = some b := ⟨_, List.getElem?_eq_getElem (by rw [hok.bl]; omega)⟩
      have hcd : s.cur.getD e.g.toNat ckZ = c := by rw [List.getD_eq_getElem?_getD, hc]; rfl
      have hbd : s.birth.getD e.g.toNat ckZ = b := by rw [List.getD_eq_getElem?_getD, hb]; rfl
      have hst : startC s e = if c = ckZ then b else c := by unfold startC; rw [hcd, hbd]
      have hcl := a3 c (List.mem_of_getElem? hc)
      have hbl := a4 b (List.mem_of_getElem? hb)
      have f3 : e.g.toNat * 8 + 8 ≤ (flatC s.cur).length := by rw [flatC_len a3, hok.cl]; omega
      have f4 := flatC_get a3 hc
      have f5 : e.g.toNat * 8 + 8 ≤ (flatC s.birth).length := by rw [flatC_len a4, hok.bl]; omega
      have f6 := flatC_get a4 hb
      have e1 : (ckCells c).length = 8 := by rw [ckCells_length, hcl]
      have e2 : (ckCells b).length = 8 := by rw [ckCells_length, hbl]
      have e3 : 8 ≤ (ckCells c).length := by omega
      have e4 : (ckCells c).take 8 = ckCells c := List.take_of_length_le (by omega)
      have e5 := wr_new8 hcl
      have e6 : wrAt (ckCells c) 0 (ckCells b) = ckCells b := wrAt_full (by omega)
      have e7 := eqs_zero hcl
      by_cases hz : c = ckZ
      · have hz' : decide (c = ckZ) = true := decide_eq_true hz
        rw [if_pos hz] at hst
        simp only [↓evP, evB, stB, reduceIte, reduceCtorEq, Nat.reduceEqDiff, Nat.reduceAdd, Nat.reduceMul, Nat.reduceLeDiff, Nat.reduceLT, Nat.reduceSub, Nat.reduceBEq, q0, q3, q4, q5, q15, q16, h17, g3, g4, g14, o3, o4, o14, hlt']
        unfold pch18c4
        simp only [↓evP, evB, stB, reduceIte, reduceCtorEq, Nat.reduceEqDiff, Nat.reduceAdd, Nat.reduceMul, Nat.reduceLeDiff, Nat.reduceLT, Nat.reduceSub, Nat.reduceBEq, q0, q3, q4, q5, q15, q16, h17, g3, g4, g14, o3, o4, o14, hj0, he, Ev.row, hg0, hg8', f3, f4, f5, f6, e1, e2, e3, e4, e5, e6, e7, hz']
        refine stamps_c3 (s0 := S) (s := s) (e := e) (j := j) hok hv hvl hlt hlen _ _ (fun st1 w1 a1 o1 p1 => ?_) _ (by repeat' (first | assumption | exact within_over.mpr trivial | exact Within.refl _ _ _ | (refine within_ap ?_ rfl rfl) | (refine within_ap0 ?_ rfl))) ⟨by simp only [stB, reduceIte, reduceCtorEq, Nat.reduceEqDiff, Nat.reduceAdd, Nat.reduceMul, Nat.reduceLeDiff, Nat.reduceLT, Nat.reduceSub, Nat.reduceBEq, q0, evsD], by simp only [stB, reduceIte, reduceCtorEq, Nat.reduceEqDiff, Nat.reduceAdd, Nat.reduceMul, Nat.reduceLeDiff, Nat.reduceLT, Nat.reduceSub, Nat.reduceBEq, q3], by simp only [stB, reduceIte, reduceCtorEq, Nat.reduceEqDiff, Nat.reduceAdd, Nat.reduceMul, Nat.reduceLeDiff, Nat.reduceLT, Nat.reduceSub, Nat.reduceBEq, q4], by simp only [stB, reduceIte, reduceCtorEq, Nat.reduceEqDiff, Nat.reduceAdd, Nat.reduceMul, Nat.reduceLeDiff, Nat.reduceLT, Nat.reduceSub, Nat.reduceBEq, q5], by simp only [stB, reduceIte, reduceCtorEq, Nat.reduceEqDiff, Nat.reduceAdd, Nat.reduceMul, Nat.reduceLeDiff, Nat.reduceLT, Nat.reduceSub, Nat.reduceBEq], by simp only [stB, reduceIte, reduceCtorEq, Nat.reduceEqDiff, Nat.reduceAdd, Nat.reduceMul, Nat.reduceLeDiff, Nat.reduceLT, Nat.reduceSub, Nat.reduceBEq], by simp only [stB, reduceIte, reduceCtorEq, Nat.reduceEqDiff, Nat.reduceAdd, Nat.reduceMul, Nat.reduceLeDiff, Nat.reduceLT, Nat.reduceSub, Nat.reduceBEq], by simp only [stB, reduceIte, reduceCtorEq, Nat.reduceEqDiff, Nat.reduceAdd, Nat.reduceMul, Nat.reduceLeDiff, Nat.reduceLT, Nat.reduceSub, Nat.reduceBEq, h17], by simp only [stB, reduceIte, reduceCtorEq, Nat.reduceEqDiff, Nat.reduceAdd, Nat.reduceMul, Nat.reduceLeDiff, Nat.reduceLT, Nat.reduceSub, Nat.reduceBEq, g3], by simp only [stB, reduceIte, reduceCtorEq, Nat.reduceEqDiff, Nat.reduceAdd, Nat.reduceMul, Nat.reduceLeDiff, Nat.reduceLT, Nat.reduceSub, Nat.reduceBEq, g4], by simp only [stB, reduceIte, reduceCtorEq, Nat.reduceEqDiff, Nat.reduceAdd, Nat.reduceMul, Nat.reduceLeDiff, Nat.reduceLT, Nat.reduceSub, Nat.reduceBEq, g14], by simp only [stB, reduceIte, reduceCtorEq, Nat.reduceEqDiff, Nat.reduceAdd, Nat.reduceMul, Nat.reduceLeDiff, Nat.reduceLT, Nat.reduceSub, Nat.reduceBEq, o3], by simp only [stB, reduceIte, reduceCtorEq, Nat.reduceEqDiff, Nat.reduceAdd, Nat.reduceMul, Nat.reduceLeDiff, Nat.reduceLT, Nat.reduceSub, Nat.reduceBEq, o4], by simp only [stB, reduceIte, reduceCtorEq, Nat.reduceEqDiff, Nat.reduceAdd, Nat.reduceMul, Nat.reduceLeDiff, Nat.reduceLT, Nat.reduceSub, Nat.reduceBEq, Ev.row], by simp only [stB, reduceIte, reduceCtorEq, Nat.reduceEqDiff, Nat.reduceAdd, Nat.reduceMul, Nat.reduceLeDiff, Nat.reduceLT, Nat.reduceSub, Nat.reduceBEq, o14]⟩ (by simp only [stB, reduceIte, reduceCtorEq, Nat.reduceEqDiff, Nat.reduceAdd, Nat.reduceMul, Nat.reduceLeDiff, Nat.reduceLT, Nat.reduceSub, Nat.reduceBEq, hst, e5, e6]) (by simp only [stB, reduceIte, reduceCtorEq, Nat.reduceEqDiff, Nat.reduceAdd, Nat.reduceMul, Nat.reduceLeDiff, Nat.reduceLT, Nat.reduceSub, Nat.reduceBEq])
        have hin := hok.inTo l e j
        simp only [↓evP, evB, stB, reduceIte, reduceCtorEq, Nat.reduceEqDiff, Nat.reduceAdd, Nat.reduceMul, Nat.reduceLeDiff, Nat.reduceLT, Nat.reduceSub, Nat.reduceBEq]
        refine stamps_c1 hok hv hlt hlen hin.1 ⟨hin.2.1, hin.2.2⟩ _ _ (fun st2 w2 en h17' => ?_) st1 w1 a1 o1 p1
        simp only [↓evP, evB, stB, reduceIte, reduceCtorEq, Nat.reduceEqDiff, Nat.reduceAdd, Nat.reduceMul, Nat.reduceLeDiff, Nat.reduceLT, Nat.reduceSub, Nat.reduceBEq, h17']
        refine ⟨_, by omega, (by repeat' (first | assumption | exact within_over.mpr trivial | exact Within.refl _ _ _ | (refine within_ap ?_ rfl rfl) | (refine within_ap0 ?_ rfl))), j + 1, rfl, hlt, by simp only [stB, reduceIte, reduceCtorEq, Nat.reduceEqDiff, Nat.reduceAdd, Nat.reduceMul, Nat.reduceLeDiff, Nat.reduceLT, Nat.reduceSub, Nat.reduceBEq, h17']; rw [wrN (by omega)], ?_⟩
        rw [hstep]
        exact ⟨by simp only [stB, reduceIte, reduceCtorEq, Nat.reduceEqDiff, Nat.reduceAdd, Nat.reduceMul, Nat.reduceLeDiff, Nat.reduceLT, Nat.reduceSub, Nat.reduceBEq, en.g3], by simp only [stB, reduceIte, reduceCtorEq, Nat.reduceEqDiff, Nat.reduceAdd, Nat.reduceMul, Nat.reduceLeDiff, Nat.reduceLT, Nat.reduceSub, Nat.reduceBEq, en.g4], by simp only [stB, reduceIte, reduceCtorEq, Nat.reduceEqDiff, Nat.reduceAdd, Nat.reduceMul, Nat.reduceLeDiff, Nat.reduceLT, Nat.reduceSub, Nat.reduceBEq, en.g14], by simp only [stB, reduceIte, reduceCtorEq, Nat.reduceEqDiff, Nat.reduceAdd, Nat.reduceMul, Nat.reduceLeDiff, Nat.reduceLT, Nat.reduceSub, Nat.reduceBEq, en.o3]; rfl, by simp only [stB, reduceIte, reduceCtorEq, Nat.reduceEqDiff, Nat.reduceAdd, Nat.reduceMul, Nat.reduceLeDiff, Nat.reduceLT, Nat.reduceSub, Nat.reduceBEq, en.o4]; rfl, by simp only [stB, reduceIte, reduceCtorEq, Nat.reduceEqDiff, Nat.reduceAdd, Nat.reduceMul, Nat.reduceLeDiff, Nat.reduceLT, Nat.reduceSub, Nat.reduceBEq, en.o14]; rfl⟩
      · have hz' : decide (c = ckZ) = false := decide_eq_false hz
        rw [if_neg hz] at hst
        simp only [↓evP, evB, stB, reduceIte, reduceCtorEq, Nat.reduceEqDiff, Nat.reduceAdd, Nat.reduceMul, Nat.reduceLeDiff, Nat.reduceLT, Nat.reduceSub, Nat.reduceBEq, q0, q3, q4, q5, q15, q16, h17, g3, g4, g14, o3, o4, o14, hlt']
        unfold pch18c4
        simp only [↓evP, evB, stB, reduceIte, reduceCtorEq, Nat.reduceEqDiff, Nat.reduceAdd, Nat.reduceMul, Nat.reduceLeDiff, Nat.reduceLT, Nat.reduceSub, Nat.reduceBEq, q0, q3, q4, q5, q15, q16, h17, g3, g4, g14, o3, o4, o14, hj0, he, Ev.row, hg0, hg8', f3, f4, f5, f6, e1, e2, e3, e4, e5, e6, e7, hz']
        refine stamps_c3 (s0 := S) (s := s) (e := e) (j := j) hok hv hvl hlt hlen _ _ (fun st1 w1 a1 o1 p1 => ?_) _ (by repeat' (first | assumption | exact within_over.mpr trivial | exact Within.refl _ _ _ | (refine within_ap ?_ rfl rfl) | (refine within_ap0 ?_ rfl))) ⟨by simp only [stB, reduceIte, reduceCtorEq, Nat.reduceEqDiff, Nat.reduceAdd, Nat.reduceMul, Nat.reduceLeDiff, Nat.reduceLT, Nat.reduceSub, Nat.reduceBEq, q0, evsD], by simp only [stB, reduceIte, reduceCtorEq, Nat.reduceEqDiff, Nat.reduceAdd, Nat.reduceMul, Nat.reduceLeDiff, Nat.reduceLT, Nat.reduceSub, Nat.reduceBEq, q3], by simp only [stB, reduceIte, reduceCtorEq, Nat.reduceEqDiff, Nat.reduceAdd, Nat.reduceMul, Nat.reduceLeDiff, Nat.reduceLT, Nat.reduceSub, Nat.reduceBEq, q4], by simp only [stB, reduceIte, reduceCtorEq, Nat.reduceEqDiff, Nat.reduceAdd, Nat.reduceMul, Nat.reduceLeDiff, Nat.reduceLT, Nat.reduceSub, Nat.reduceBEq, q5], by simp only [stB, reduceIte, reduceCtorEq, Nat.reduceEqDiff, Nat.reduceAdd, Nat.reduceMul, Nat.reduceLeDiff, Nat.reduceLT, Nat.reduceSub, Nat.reduceBEq], by simp only [stB, reduceIte, reduceCtorEq, Nat.reduceEqDiff, Nat.reduceAdd, Nat.reduceMul, Nat.reduceLeDiff, Nat.reduceLT, Nat.reduceSub, Nat.reduceBEq], by simp only [stB, reduceIte, reduceCtorEq, Nat.reduceEqDiff, Nat.reduceAdd, Nat.reduceMul, Nat.reduceLeDiff, Nat.reduceLT, Nat.reduceSub, Nat.reduceBEq], by simp only [stB, reduceIte, reduceCtorEq, Nat.reduceEqDiff, Nat.reduceAdd, Nat.reduceMul, Nat.reduceLeDiff, Nat.reduceLT, Nat.reduceSub, Nat.reduceBEq, h17], by simp only [stB, reduceIte, reduceCtorEq, Nat.reduceEqDiff, Nat.reduceAdd, Nat.reduceMul, Nat.reduceLeDiff, Nat.reduceLT, Nat.reduceSub, Nat.reduceBEq, g3], by simp only [stB, reduceIte, reduceCtorEq, Nat.reduceEqDiff, Nat.reduceAdd, Nat.reduceMul, Nat.reduceLeDiff, Nat.reduceLT, Nat.reduceSub, Nat.reduceBEq, g4], by simp only [stB, reduceIte, reduceCtorEq, Nat.reduceEqDiff, Nat.reduceAdd, Nat.reduceMul, Nat.reduceLeDiff, Nat.reduceLT, Nat.reduceSub, Nat.reduceBEq, g14], by simp only [stB, reduceIte, reduceCtorEq, Nat.reduceEqDiff, Nat.reduceAdd, Nat.reduceMul, Nat.reduceLeDiff, Nat.reduceLT, Nat.reduceSub, Nat.reduceBEq, o3], by simp only [stB, reduceIte, reduceCtorEq, Nat.reduceEqDiff, Nat.reduceAdd, Nat.reduceMul, Nat.reduceLeDiff, Nat.reduceLT, Nat.reduceSub, Nat.reduceBEq, o4], by simp only [stB, reduceIte, reduceCtorEq, Nat.reduceEqDiff, Nat.reduceAdd, Nat.reduceMul, Nat.reduceLeDiff, Nat.reduceLT, Nat.reduceSub, Nat.reduceBEq, Ev.row], by simp only [stB, reduceIte, reduceCtorEq, Nat.reduceEqDiff, Nat.reduceAdd, Nat.reduceMul, Nat.reduceLeDiff, Nat.reduceLT, Nat.reduceSub, Nat.reduceBEq, o14]⟩ (by simp only [stB, reduceIte, reduceCtorEq, Nat.reduceEqDiff, Nat.reduceAdd, Nat.reduceMul, Nat.reduceLeDiff, Nat.reduceLT, Nat.reduceSub, Nat.reduceBEq, hst, e5, e6]) (by simp only [stB, reduceIte, reduceCtorEq, Nat.reduceEqDiff, Nat.reduceAdd, Nat.reduceMul, Nat.reduceLeDiff, Nat.reduceLT, Nat.reduceSub, Nat.reduceBEq])
        have hin := hok.inTo l e j
        simp only [↓evP, evB, stB, reduceIte, reduceCtorEq, Nat.reduceEqDiff, Nat.reduceAdd, Nat.reduceMul, Nat.reduceLeDiff, Nat.reduceLT, Nat.reduceSub, Nat.reduceBEq]
        refine stamps_c1 hok hv hlt hlen hin.1 ⟨hin.2.1, hin.2.2⟩ _ _ (fun st2 w2 en h17' => ?_) st1 w1 a1 o1 p1
        simp only [↓evP, evB, stB, reduceIte, reduceCtorEq, Nat.reduceEqDiff, Nat.reduceAdd, Nat.reduceMul, Nat.reduceLeDiff, Nat.reduceLT, Nat.reduceSub, Nat.reduceBEq, h17']
        refine ⟨_, by omega, (by repeat' (first | assumption | exact within_over.mpr trivial | exact Within.refl _ _ _ | (refine within_ap ?_ rfl rfl) | (refine within_ap0 ?_ rfl))), j + 1, rfl, hlt, by simp only [stB, reduceIte, reduceCtorEq, Nat.reduceEqDiff, Nat.reduceAdd, Nat.reduceMul, Nat.reduceLeDiff, Nat.reduceLT, Nat.reduceSub, Nat.reduceBEq, h17']; rw [wrN (by omega)], ?_⟩
        rw [hstep]
        exact ⟨by simp only [stB, reduceIte, reduceCtorEq, Nat.reduceEqDiff, Nat.reduceAdd, Nat.reduceMul, Nat.reduceLeDiff, Nat.reduceLT, Nat.reduceSub, Nat.reduceBEq, en.g3], by simp only [stB, reduceIte, reduceCtorEq, Nat.reduceEqDiff, Nat.reduceAdd, Nat.reduceMul, Nat.reduceLeDiff, Nat.reduceLT, Nat.reduceSub, Nat.reduceBEq, en.g4], by simp only [stB, reduceIte, reduceCtorEq, Nat.reduceEqDiff, Nat.reduceAdd, Nat.reduceMul, Nat.reduceLeDiff, Nat.reduceLT, Nat.reduceSub, Nat.reduceBEq, en.g14], by simp only [stB, reduceIte, reduceCtorEq, Nat.reduceEqDiff, Nat.reduceAdd, Nat.reduceMul, Nat.reduceLeDiff, Nat.reduceLT, Nat.reduceSub, Nat.reduceBEq, en.o3]; rfl, by simp only [stB, reduceIte, reduceCtorEq, Nat.reduceEqDiff, Nat.reduceAdd, Nat.reduceMul, Nat.reduceLeDiff, Nat.reduceLT, Nat.reduceSub, Nat.reduceBEq, en.o4]; rfl, by simp only [stB, reduceIte, reduceCtorEq, Nat.reduceEqDiff, Nat.reduceAdd, Nat.reduceMul, Nat.reduceLeDiff, Nat.reduceLT, Nat.reduceSub, Nat.reduceBEq, en.o14]; rfl⟩
    · have hjl : j = l.length := by omega
      subst hjl
      have hlt' : ¬ (l.length : Int) < (l.length : Int) := by omega
      simp only [↓evP, evB, stB, reduceIte, reduceCtorEq, Nat.reduceEqDiff, Nat.reduceAdd, Nat.reduceMul, Nat.reduceLeDiff, Nat.reduceLT, Nat.reduceSub, Nat.reduceBEq, q0, q3, q4, q5, q15, q16, h17, g3, g4, g14, o3, o4, o14, hlt', prh18]
      have hol := hok.ol
      have ha := hok.a8.2.2
      have hfl := flatC_len ha
      rw [Nat.sub_self, List.replicate_zero, List.append_nil, if_pos (by rw [hfl, hol]; exact Nat.le_refl _), List.take_of_length_le (by rw [hfl, hol]; exact Nat.le_refl _), flatC_dt]
      have hch := chunks_rows ha
      rw [hol] at hch
      simp only [Option.map_some, hch, allSome]
      rfl
end Go.Proofs.Ytohliamalaifhaa
end
section
set_option linter.unusedSimpArgs false
set_option linter.unusedVariables false
namespace Go.Proofs.Ytohliamalaifhaa
open Go Go.RowKit
set_option maxRecDepth 100000
set_option maxHeartbeats 4000000

def R_channel (ps rs : List Pa) : Prop := ∃ (s : RSt) (obj n : Int), ps = [s.pa, pI obj, pI n] ∧ s.chans.length ≤ 1000000 ∧ rs = [.agg (s.channel obj n).row]
theorem s_channel : Spec Try.prog 40 R_channel := by
  refine sp40 EnvOK.e0 ?_
  rintro ps rs ⟨s, obj, n, rfl, hlen, rfl⟩
  refine ⟨by simp, ?_⟩
  unfold pc40
  refine pwp_start ?_
  simp only [↓evP, evB, stB, reduceIte, reduceCtorEq, Nat.reduceEqDiff, Nat.reduceAdd, Nat.reduceMul, Nat.reduceLeDiff, Nat.reduceLT, Nat.reduceSub, Nat.reduceBEq, RSt.pa, RSt.row]
  refine pwp_loopW ms40_0 os40_0 (fun m st => ∃ k : Nat, m = s.chans.length - k ∧ k ≤ s.chans.length ∧ (∀ i c, i < k → s.chans[i]? = some c → (c.obj == obj) = false) ∧ st.sl 7 = aI k ∧ st.ob 6 = .cells [.d (dI 0), .d (dI 0), .d (dI 0), .d (dI 0), .d (dB false)] ∧ st.gen 6 = 1) s.chans.length ?_ ?_
  · exact ⟨0, rfl, Nat.zero_le _, fun i c hi => absurd hi (Nat.not_lt_zero _), by simp only [stB, reduceIte, reduceCtorEq, Nat.reduceEqDiff, Nat.reduceAdd, Nat.reduceMul, Nat.reduceLeDiff, Nat.reduceLT, Nat.reduceSub, Nat.reduceBEq]; rfl, by simp only [stB, reduceIte, reduceCtorEq, Nat.reduceEqDiff, Nat.reduceAdd, Nat.reduceMul, Nat.reduceLeDiff, Nat.reduceLT, Nat.reduceSub, Nat.reduceBEq], by simp only [stB, reduceIte, reduceCtorEq, Nat.reduceEqDiff, Nat.reduceAdd, Nat.reduceMul, Nat.reduceLeDiff, Nat.reduceLT, Nat.reduceSub, Nat.reduceBEq]⟩
  · rintro m j ⟨k, rfl, hk, hno, h7, h6, g6⟩
    simp only [stB, reduceIte, reduceCtorEq, Nat.reduceEqDiff, Nat.reduceAdd, Nat.reduceMul, Nat.reduceLeDiff, Nat.reduceLT, Nat.reduceSub, Nat.reduceBEq] at h7 h6 g6
    rcases Nat.lt_or_ge k s.chans.length with hlt | hge
    · obtain ⟨c, hc⟩ : ∃ c, s.chans[k]? = some c := ⟨_, List.getElem?_eq_getElem hlt⟩
      simp only [↓evP, evB, stB, reduceIte, reduceCtorEq, Nat.reduceEqDiff, Nat.reduceAdd, Nat.reduceMul, Nat.reduceLeDiff, Nat.reduceLT, Nat.reduceSub, Nat.reduceBEq, h7, h6, g6, hc, RCh.row, pr40]
      refine ⟨fun _ => ⟨fun he => ?_, fun he => ?_⟩, fun h => absurd hlt (by omega)⟩
      · unfold RSt.channel; rw [find_hit hno hc he]; rfl
      · exact ⟨_, by omega, (by repeat' (first | assumption | exact within_over.mpr trivial | exact Within.refl _ _ _ | (refine within_ap ?_ rfl rfl) | (refine within_ap0 ?_ rfl))), k + 1, rfl, by omega, no_succ hno hc he, by simp only [stB, reduceIte, reduceCtorEq, Nat.reduceEqDiff, Nat.reduceAdd, Nat.reduceMul, Nat.reduceLeDiff, Nat.reduceLT, Nat.reduceSub, Nat.reduceBEq, h7]; rw [wrN (by omega)], by simp only [stB, reduceIte, reduceCtorEq, Nat.reduceEqDiff, Nat.reduceAdd, Nat.reduceMul, Nat.reduceLeDiff, Nat.reduceLT, Nat.reduceSub, Nat.reduceBEq, h6], by simp only [stB, reduceIte, reduceCtorEq, Nat.reduceEqDiff, Nat.reduceAdd, Nat.reduceMul, Nat.reduceLeDiff, Nat.reduceLT, Nat.reduceSub, Nat.reduceBEq, g6]⟩
    · simp only [↓evP, evB, stB, reduceIte, reduceCtorEq, Nat.reduceEqDiff, Nat.reduceAdd, Nat.reduceMul, Nat.reduceLeDiff, Nat.reduceLT, Nat.reduceSub, Nat.reduceBEq, h7, h6, g6, pr40]
      refine ⟨fun h => absurd h (by omega), fun h => ?_⟩
      unfold RSt.channel; rw [find_miss (fun i c hi hc => hno i c (by omega) hc)]; rfl

def R_setChannel (ps rs : List Pa) : Prop := ∃ (s : RSt) (c : RCh), ps = [s.pa, .agg c.row] ∧ s.chans.length ≤ 900000 ∧ rs = [(s.setChannel c).pa]
theorem s_setChannel : Spec Try.prog 42 R_setChannel := by
  refine sp42 EnvOK.e0 ?_
  rintro ps rs ⟨s, c, rfl, hlen, rfl⟩
  refine ⟨by simp, ?_⟩
  unfold pc42
  refine pwp_start ?_
  simp only [↓evP, evB, stB, reduceIte, reduceCtorEq, Nat.reduceEqDiff, Nat.reduceAdd, Nat.reduceMul, Nat.reduceLeDiff, Nat.reduceLT, Nat.reduceSub, Nat.reduceBEq, RSt.pa, RSt.row, RCh.row]
  refine pwp_loopW ms42_0 os42_0 (fun m st => ∃ k : Nat, m = s.chans.length - k ∧ k ≤ s.chans.length ∧ st.sl 6 = aI k ∧ st.gen 5 = 1 ∧ st.sl 5 = .b (.one (.own 5 1 (((s.chans.take k).filter (fun d => d.obj != c.obj)).map RCh.row))) ∧ st.ob 5 = .row 66 5 ((s.chans.take k).filter (fun d => d.obj != c.obj)).length) s.chans.length ?_ ?_
  · exact ⟨0, rfl, Nat.zero_le _, by simp only [stB, reduceIte, reduceCtorEq, Nat.reduceEqDiff, Nat.reduceAdd, Nat.reduceMul, Nat.reduceLeDiff, Nat.reduceLT, Nat.reduceSub, Nat.reduceBEq]; rfl, by simp only [stB, reduceIte, reduceCtorEq, Nat.reduceEqDiff, Nat.reduceAdd, Nat.reduceMul, Nat.reduceLeDiff, Nat.reduceLT, Nat.reduceSub, Nat.reduceBEq], by simp only [stB, reduceIte, reduceCtorEq, Nat.reduceEqDiff, Nat.reduceAdd, Nat.reduceMul, Nat.reduceLeDiff, Nat.reduceLT, Nat.reduceSub, Nat.reduceBEq, List.filter_nil], by simp only [stB, reduceIte, reduceCtorEq, Nat.reduceEqDiff, Nat.reduceAdd, Nat.reduceMul, Nat.reduceLeDiff, Nat.reduceLT, Nat.reduceSub, Nat.reduceBEq, List.filter_nil]⟩
  · rintro m j ⟨k, rfl, hk, h6, g5, h5, o5⟩
    simp only [stB, reduceIte, reduceCtorEq, Nat.reduceEqDiff, Nat.reduceAdd, Nat.reduceMul, Nat.reduceLeDiff, Nat.reduceLT, Nat.reduceSub, Nat.reduceBEq] at h6 g5 h5 o5
    rcases Nat.lt_or_ge k s.chans.length with hlt | hge
    · obtain ⟨d, hd⟩ : ∃ d, s.chans[k]? = some d := ⟨_, List.getElem?_eq_getElem hlt⟩
      have hb : ((s.chans.take k).filter (fun d => d.obj != c.obj)).length + 1 ≤ 1000000 := by have := filter_take_le s.chans (fun d => d.obj != c.obj) k; omega
      simp only [↓evP, evB, stB, reduceIte, reduceCtorEq, Nat.reduceEqDiff, Nat.reduceAdd, Nat.reduceMul, Nat.reduceLeDiff, Nat.reduceLT, Nat.reduceSub, Nat.reduceBEq, h6, g5, h5, o5, hd, RCh.row, hb]
      refine ⟨fun _ => ⟨(by unfold Drw; kernel_rfl), fun he => ?_, fun he => ?_⟩, fun h => absurd hlt (by omega)⟩
      · exact ⟨_, by omega, (by repeat' (first | assumption | exact within_over.mpr trivial | exact Within.refl _ _ _ | (refine within_ap ?_ rfl rfl) | (refine within_ap0 ?_ rfl))), k + 1, rfl, by omega, by simp only [stB, reduceIte, reduceCtorEq, Nat.reduceEqDiff, Nat.reduceAdd, Nat.reduceMul, Nat.reduceLeDiff, Nat.reduceLT, Nat.reduceSub, Nat.reduceBEq, h6]; rw [wrN (by omega)], by simp only [stB, reduceIte, reduceCtorEq, Nat.reduceEqDiff, Nat.reduceAdd, Nat.reduceMul, Nat.reduceLeDiff, Nat.reduceLT, Nat.reduceSub, Nat.reduceBEq, g5], by simp only [stB, reduceIte, reduceCtorEq, Nat.reduceEqDiff, Nat.reduceAdd, Nat.reduceMul, Nat.reduceLeDiff, Nat.reduceLT, Nat.reduceSub, Nat.reduceBEq, h5, filter_succ hd, he, List.map_append, RCh.row], by simp only [stB, reduceIte, reduceCtorEq, Nat.reduceEqDiff, Nat.reduceAdd, Nat.reduceMul, Nat.reduceLeDiff, Nat.reduceLT, Nat.reduceSub, Nat.reduceBEq, o5, filter_succ hd, he, List.length_append]⟩
      · exact ⟨_, by omega, (by repeat' (first | assumption | exact within_over.mpr trivial | exact Within.refl _ _ _ | (refine within_ap ?_ rfl rfl) | (refine within_ap0 ?_ rfl))), k + 1, rfl, by omega, by simp only [stB, reduceIte, reduceCtorEq, Nat.reduceEqDiff, Nat.reduceAdd, Nat.reduceMul, Nat.reduceLeDiff, Nat.reduceLT, Nat.reduceSub, Nat.reduceBEq, h6]; rw [wrN (by omega)], by simp only [stB, reduceIte, reduceCtorEq, Nat.reduceEqDiff, Nat.reduceAdd, Nat.reduceMul, Nat.reduceLeDiff, Nat.reduceLT, Nat.reduceSub, Nat.reduceBEq, g5], by simp [stB, reduceIte, reduceCtorEq, Nat.reduceEqDiff, Nat.reduceAdd, Nat.reduceMul, Nat.reduceLeDiff, Nat.reduceLT, Nat.reduceSub, Nat.reduceBEq, h5, filter_succ hd, he], by simp [stB, reduceIte, reduceCtorEq, Nat.reduceEqDiff, Nat.reduceAdd, Nat.reduceMul, Nat.reduceLeDiff, Nat.reduceLT, Nat.reduceSub, Nat.reduceBEq, o5, filter_succ hd, he]⟩
    · have hkl : k = s.chans.length := by omega
      subst hkl
      rw [List.take_length] at h5 o5
      have hb : (s.chans.filter (fun d => d.obj != c.obj)).length + 1 ≤ 1000000 := by have := List.length_filter_le (fun d : RCh => d.obj != c.obj) s.chans; omega
      simp only [↓evP, evB, stB, reduceIte, reduceCtorEq, Nat.reduceEqDiff, Nat.reduceAdd, Nat.reduceMul, Nat.reduceLeDiff, Nat.reduceLT, Nat.reduceSub, Nat.reduceBEq, h6, g5, h5, o5, hb, pr42]
      refine ⟨fun h => absurd h (by omega), fun _ => ?_⟩
      simp [RSt.setChannel, RCh.row, RSt.pa, RSt.row]

end Go.Proofs.Ytohliamalaifhaa
end
section
set_option linter.unusedSimpArgs false
set_option linter.unusedVariables false
namespace Go.Proofs.Ytohliamalaifhaa
open Go Go.RowKit
set_option maxRecDepth 100000
set_option maxHeartbeats 4000000

def R_lock (ps rs : List Pa) : Prop := ∃ (s : RSt) (obj off : Int), ps = [s.pa, pI obj, pI off] ∧ s.locks.length ≤ 1000000 ∧ rs = [.agg (s.lock obj off).row]
theorem s_lock : Spec Try.prog 43 R_lock := by
  refine sp43 EnvOK.e0 ?_
  rintro ps rs ⟨s, obj, off, rfl, hlen, rfl⟩
  refine ⟨by simp, ?_⟩
  unfold pc43
  refine pwp_start ?_
  simp only [↓evP, evB, stB, reduceIte, reduceCtorEq, Nat.reduceEqDiff, Nat.reduceAdd, Nat.reduceMul, Nat.reduceLeDiff, Nat.reduceLT, Nat.reduceSub, Nat.reduceBEq, RSt.pa, RSt.row]
  refine pwp_loopW ms43_0 os43_0 (fun m st => ∃ k : Nat, m = s.locks.length - k ∧ k ≤ s.locks.length ∧ (∀ i c, i < k → s.locks[i]? = some c → (c.obj == obj && c.off == off) = false) ∧ st.sl 7 = aI k ∧ st.ob 6 = .cells [.d (dI 0), .d (dI 0), .d (dB false), .d (dI 0)] ∧ st.gen 6 = 1) s.locks.length ?_ ?_
  · exact ⟨0, rfl, Nat.zero_le _, fun i c hi => absurd hi (Nat.not_lt_zero _), by simp only [stB, reduceIte, reduceCtorEq, Nat.reduceEqDiff, Nat.reduceAdd, Nat.reduceMul, Nat.reduceLeDiff, Nat.reduceLT, Nat.reduceSub, Nat.reduceBEq]; rfl, by simp only [stB, reduceIte, reduceCtorEq, Nat.reduceEqDiff, Nat.reduceAdd, Nat.reduceMul, Nat.reduceLeDiff, Nat.reduceLT, Nat.reduceSub, Nat.reduceBEq], by simp only [stB, reduceIte, reduceCtorEq, Nat.reduceEqDiff, Nat.reduceAdd, Nat.reduceMul, Nat.reduceLeDiff, Nat.reduceLT, Nat.reduceSub, Nat.reduceBEq]⟩
  · rintro m j ⟨k, rfl, hk, hno, h7, h6, g6⟩
    simp only [stB, reduceIte, reduceCtorEq, Nat.reduceEqDiff, Nat.reduceAdd, Nat.reduceMul, Nat.reduceLeDiff, Nat.reduceLT, Nat.reduceSub, Nat.reduceBEq] at h7 h6 g6
    rcases Nat.lt_or_ge k s.locks.length with hlt | hge
    · obtain ⟨c, hc⟩ : ∃ c, s.locks[k]? = some c := ⟨_, List.getElem?_eq_getElem hlt⟩
      simp only [↓evP, evB, stB, reduceIte, reduceCtorEq, Nat.reduceEqDiff, Nat.reduceAdd, Nat.reduceMul, Nat.reduceLeDiff, Nat.reduceLT, Nat.reduceSub, Nat.reduceBEq, h7, h6, g6, hc, RLk.row, pr43]
      refine ⟨fun _ => ⟨fun e1 => ⟨fun e2 => ?_, fun e2 => ?_⟩, fun e1 => ?_⟩, fun h => absurd hlt (by omega)⟩
      · unfold RSt.lock; rw [find_hit hno hc (by rw [e1, e2]; rfl)]; rfl
      · exact ⟨_, by omega, (by repeat' (first | assumption | exact within_over.mpr trivial | exact Within.refl _ _ _ | (refine within_ap ?_ rfl rfl) | (refine within_ap0 ?_ rfl))), k + 1, rfl, by omega, no_succ hno hc (by rw [e2, Bool.and_false]), by simp only [stB, reduceIte, reduceCtorEq, Nat.reduceEqDiff, Nat.reduceAdd, Nat.reduceMul, Nat.reduceLeDiff, Nat.reduceLT, Nat.reduceSub, Nat.reduceBEq, h7]; rw [wrN (by omega)], by simp only [stB, reduceIte, reduceCtorEq, Nat.reduceEqDiff, Nat.reduceAdd, Nat.reduceMul, Nat.reduceLeDiff, Nat.reduceLT, Nat.reduceSub, Nat.reduceBEq, h6], by simp only [stB, reduceIte, reduceCtorEq, Nat.reduceEqDiff, Nat.reduceAdd, Nat.reduceMul, Nat.reduceLeDiff, Nat.reduceLT, Nat.reduceSub, Nat.reduceBEq, g6]⟩
      · exact ⟨_, by omega, (by repeat' (first | assumption | exact within_over.mpr trivial | exact Within.refl _ _ _ | (refine within_ap ?_ rfl rfl) | (refine within_ap0 ?_ rfl))), k + 1, rfl, by omega, no_succ hno hc (by rw [e1]; rfl), by simp only [stB, reduceIte, reduceCtorEq, Nat.reduceEqDiff, Nat.reduceAdd, Nat.reduceMul, Nat.reduceLeDiff, Nat.reduceLT, Nat.reduceSub, Nat.reduceBEq, h7]; rw [wrN (by omega)], by simp only [stB, reduceIte, reduceCtorEq, Nat.reduceEqDiff, Nat.reduceAdd, Nat.reduceMul, Nat.reduceLeDiff, Nat.reduceLT, Nat.reduceSub, Nat.reduceBEq, h6], by simp only [stB, reduceIte, reduceCtorEq, Nat.reduceEqDiff, Nat.reduceAdd, Nat.reduceMul, Nat.reduceLeDiff, Nat.reduceLT, Nat.reduceSub, Nat.reduceBEq, g6]⟩
    · simp only [↓evP, evB, stB, reduceIte, reduceCtorEq, Nat.reduceEqDiff, Nat.reduceAdd, Nat.reduceMul, Nat.reduceLeDiff, Nat.reduceLT, Nat.reduceSub, Nat.reduceBEq, h7, h6, g6, pr43]
      refine ⟨fun h => absurd h (by omega), fun h => ?_⟩
      unfold RSt.lock; rw [find_miss (fun i c hi hc => hno i c (by omega) hc)]; rfl

def R_setLock (ps rs : List Pa) : Prop := ∃ (s : RSt) (c : RLk), ps = [s.pa, .agg c.row] ∧ s.locks.length ≤ 900000 ∧ rs = [(s.setLock c).pa]
theorem s_setLock : Spec Try.prog 44 R_setLock := by
  refine sp44 EnvOK.e0 ?_
  rintro ps rs ⟨s, c, rfl, hlen, rfl⟩
  refine ⟨by simp, ?_⟩
  unfold pc44
  refine pwp_start ?_
  simp only [↓evP, evB, stB, reduceIte, reduceCtorEq, Nat.reduceEqDiff, Nat.reduceAdd, Nat.reduceMul, Nat.reduceLeDiff, Nat.reduceLT, Nat.reduceSub, Nat.reduceBEq, RSt.pa, RSt.row, RLk.row]
  refine pwp_loopW ms44_0 os44_0 (fun m st => ∃ k : Nat, m = s.locks.length - k ∧ k ≤ s.locks.length ∧ st.sl 6 = aI k ∧ st.gen 5 = 1 ∧ st.sl 5 = .b (.one (.own 5 1 (((s.locks.take k).filter (fun d => d.obj != c.obj || d.off != c.off)).map RLk.row))) ∧ st.ob 5 = .row 71 4 ((s.locks.take k).filter (fun d => d.obj != c.obj || d.off != c.off)).length) s.locks.length ?_ ?_
  · exact ⟨0, rfl, Nat.zero_le _, by simp only [stB, reduceIte, reduceCtorEq, Nat.reduceEqDiff, Nat.reduceAdd, Nat.reduceMul, Nat.reduceLeDiff, Nat.reduceLT, Nat.reduceSub, Nat.reduceBEq]; rfl, by simp only [stB, reduceIte, reduceCtorEq, Nat.reduceEqDiff, Nat.reduceAdd, Nat.reduceMul, Nat.reduceLeDiff, Nat.reduceLT, Nat.reduceSub, Nat.reduceBEq], by simp only [stB, reduceIte, reduceCtorEq, Nat.reduceEqDiff, Nat.reduceAdd, Nat.reduceMul, Nat.reduceLeDiff, Nat.reduceLT, Nat.reduceSub, Nat.reduceBEq, List.filter_nil], by simp only [stB, reduceIte, reduceCtorEq, Nat.reduceEqDiff, Nat.reduceAdd, Nat.reduceMul, Nat.reduceLeDiff, Nat.reduceLT, Nat.reduceSub, Nat.reduceBEq, List.filter_nil]⟩
  · rintro m j ⟨k, rfl, hk, h6, g5, h5, o5⟩
    simp only [stB, reduceIte, reduceCtorEq, Nat.reduceEqDiff, Nat.reduceAdd, Nat.reduceMul, Nat.reduceLeDiff, Nat.reduceLT, Nat.reduceSub, Nat.reduceBEq] at h6 g5 h5 o5
    rcases Nat.lt_or_ge k s.locks.length with hlt | hge
    · obtain ⟨d, hd⟩ : ∃ d, s.locks[k]? = some d := ⟨_, List.getElem?_eq_getElem hlt⟩
      have hb : ((s.locks.take k).filter (fun d => d.obj != c.obj || d.off != c.off)).length + 1 ≤ 1000000 := by have := filter_take_le s.locks (fun d => d.obj != c.obj || d.off != c.off) k; omega
      simp only [↓evP, evB, stB, reduceIte, reduceCtorEq, Nat.reduceEqDiff, Nat.reduceAdd, Nat.reduceMul, Nat.reduceLeDiff, Nat.reduceLT, Nat.reduceSub, Nat.reduceBEq, h6, g5, h5, o5, hd, RLk.row, hb]
      refine ⟨fun _ => ?_, fun h => absurd hlt (by omega)⟩
      repeat' (first | apply And.intro | intro)
      all_goals first
        | (unfold Drw; kernel_rfl)
        | exact ⟨_, by omega, (by repeat' (first | assumption | exact within_over.mpr trivial | exact Within.refl _ _ _ | (refine within_ap ?_ rfl rfl) | (refine within_ap0 ?_ rfl))), k + 1, rfl, by omega, by simp only [stB, reduceIte, reduceCtorEq, Nat.reduceEqDiff, Nat.reduceAdd, Nat.reduceMul, Nat.reduceLeDiff, Nat.reduceLT, Nat.reduceSub, Nat.reduceBEq, h6]; rw [wrN (by omega)], by simp only [stB, reduceIte, reduceCtorEq, Nat.reduceEqDiff, Nat.reduceAdd, Nat.reduceMul, Nat.reduceLeDiff, Nat.reduceLT, Nat.reduceSub, Nat.reduceBEq, g5], by simp [stB, reduceIte, reduceCtorEq, Nat.reduceEqDiff, Nat.reduceAdd, Nat.reduceMul, Nat.reduceLeDiff, Nat.reduceLT, Nat.reduceSub, Nat.reduceBEq, h5, filter_succ hd, RLk.row, *], by simp [stB, reduceIte, reduceCtorEq, Nat.reduceEqDiff, Nat.reduceAdd, Nat.reduceMul, Nat.reduceLeDiff, Nat.reduceLT, Nat.reduceSub, Nat.reduceBEq, o5, filter_succ hd, *]⟩
        | skip
    · have hkl : k = s.locks.length := by omega
      subst hkl
      rw [List.take_length] at h5 o5
      have hb : (s.locks.filter (fun d => d.obj != c.obj || d.off != c.off)).length + 1 ≤ 1000000 := by have := List.length_filter_le (fun d : RLk => d.obj != c.obj || d.off != c.off) s.locks; omega
      simp only [↓evP, evB, stB, reduceIte, reduceCtorEq, Nat.reduceEqDiff, Nat.reduceAdd, Nat.reduceMul, Nat.reduceLeDiff, Nat.reduceLT, Nat.reduceSub, Nat.reduceBEq, h6, g5, h5, o5, hb, pr44]
      refine ⟨fun h => absurd h (by omega), fun _ => ?_⟩
      simp [RSt.setLock, RLk.row, RSt.pa, RSt.row]
end Go.Proofs.Ytohliamalaifhaa
end
section
set_option linter.unusedSimpArgs false
set_option linter.unusedVariables false
namespace Go.Proofs.Ytohliamalaifhaa
open Go Go.RowKit
set_option maxRecDepth 100000
set_option maxHeartbeats 4000000


def R_done (ps rs : List Pa) : Prop := ∃ (s : RSt) (obj off : Int), ps = [s.pa, pI obj, pI off] ∧ s.done.length ≤ 1000000 ∧ rs = [pB (s.isDone obj off)]
theorem s_done : Spec Try.prog 45 R_done := by
  refine sp45 EnvOK.e0 ?_
  rintro ps rs ⟨s, obj, off, rfl, hlen, rfl⟩
  refine ⟨by simp, ?_⟩
  unfold pc45
  refine pwp_start ?_
  simp only [↓evP, evB, stB, reduceIte, reduceCtorEq, Nat.reduceEqDiff, Nat.reduceAdd, Nat.reduceMul, Nat.reduceLeDiff, Nat.reduceLT, Nat.reduceSub, Nat.reduceBEq, RSt.pa, RSt.row]
  refine pwp_loopW ms45_0 os45_0 (fun m st => ∃ k : Nat, m = s.done.length - k ∧ k ≤ s.done.length ∧ (∀ i c, i < k → s.done[i]? = some c → (c.1 == obj && c.2 == off) = false) ∧ st.sl 7 = aI k) s.done.length ?_ ?_
  · exact ⟨0, rfl, Nat.zero_le _, fun i c hi => absurd hi (Nat.not_lt_zero _), by simp only [stB, reduceIte, reduceCtorEq, Nat.reduceEqDiff, Nat.reduceAdd, Nat.reduceMul, Nat.reduceLeDiff, Nat.reduceLT, Nat.reduceSub, Nat.reduceBEq]; rfl⟩
  · rintro m j ⟨k, rfl, hk, hno, h7⟩
    simp only [stB, reduceIte, reduceCtorEq, Nat.reduceEqDiff, Nat.reduceAdd, Nat.reduceMul, Nat.reduceLeDiff, Nat.reduceLT, Nat.reduceSub, Nat.reduceBEq] at h7
    rcases Nat.lt_or_ge k s.done.length with hlt | hge
    · obtain ⟨c, hc⟩ : ∃ c, s.done[k]? = some c := ⟨_, List.getElem?_eq_getElem hlt⟩
      simp only [↓evP, evB, stB, reduceIte, reduceCtorEq, Nat.reduceEqDiff, Nat.reduceAdd, Nat.reduceMul, Nat.reduceLeDiff, Nat.reduceLT, Nat.reduceSub, Nat.reduceBEq, h7, hc, locRow, pr45]
      refine ⟨fun _ => ⟨fun e1 => ⟨fun e2 => ?_, fun e2 => ?_⟩, fun e1 => ?_⟩, fun h => absurd hlt (by omega)⟩
      · unfold RSt.isDone
        rw [List.any_eq_true.2 ⟨c, List.mem_of_getElem? hc, by rw [e1, e2]; rfl⟩]
      · exact ⟨_, by omega, (by repeat' (first | assumption | exact within_over.mpr trivial | exact Within.refl _ _ _ | (refine within_ap ?_ rfl rfl) | (refine within_ap0 ?_ rfl))), k + 1, rfl, by omega, no_succ hno hc (by rw [e2, Bool.and_false]), by simp only [stB, reduceIte, reduceCtorEq, Nat.reduceEqDiff, Nat.reduceAdd, Nat.reduceMul, Nat.reduceLeDiff, Nat.reduceLT, Nat.reduceSub, Nat.reduceBEq, h7]; rw [wrN (by omega)]⟩
      · exact ⟨_, by omega, (by repeat' (first | assumption | exact within_over.mpr trivial | exact Within.refl _ _ _ | (refine within_ap ?_ rfl rfl) | (refine within_ap0 ?_ rfl))), k + 1, rfl, by omega, no_succ hno hc (by rw [e1]; rfl), by simp only [stB, reduceIte, reduceCtorEq, Nat.reduceEqDiff, Nat.reduceAdd, Nat.reduceMul, Nat.reduceLeDiff, Nat.reduceLT, Nat.reduceSub, Nat.reduceBEq, h7]; rw [wrN (by omega)]⟩
    · simp only [↓evP, evB, stB, reduceIte, reduceCtorEq, Nat.reduceEqDiff, Nat.reduceAdd, Nat.reduceMul, Nat.reduceLeDiff, Nat.reduceLT, Nat.reduceSub, Nat.reduceBEq, h7, pr45]
      refine ⟨fun h => absurd h (by omega), fun h => ?_⟩
      unfold RSt.isDone; rw [any_miss (fun i c hi hc => hno i c (by omega) hc)]

def env_counted : Env := e1 40 R_channel (e1 42 R_setChannel e0)
theorem env_counted_ok : EnvOK Try.prog env_counted := EnvOK.e1 s_channel (EnvOK.e1 s_setChannel EnvOK.e0)
theorem RSt.channel_bd {s : RSt} (h : s.ok) (obj n : Int) : (0 ≤ (s.channel obj n).sent ∧ (s.channel obj n).sent ≤ 1000000) ∧ (0 ≤ (s.channel obj n).recv ∧ (s.channel obj n).recv ≤ 1000000) := by
  unfold RSt.channel
  cases hf : s.chans.find? (fun c => c.obj == obj) with
  | none => simp
  | some c => exact h.ch.2 c (List.mem_of_find?_eq_some hf)
def R_counted (ps rs : List Pa) : Prop := ∃ (s : RSt) (e : Ev), ps = [s.pa, e.pa] ∧ s.ok ∧ rs = [(s.counted e).pa]
theorem s_counted : Spec Try.prog 39 R_counted := by
  refine sp39 env_counted_ok ?_
  rintro ps rs ⟨s, e, rfl, hok, rfl⟩
  refine ⟨by simp, ?_⟩
  obtain ⟨⟨c1, c2⟩, c3, c4⟩ := RSt.channel_bd hok e.obj e.n
  unfold pc39
  refine pwp_start ?_
  simp only [↓evP, evB, stB, reduceIte, reduceCtorEq, Nat.reduceEqDiff, Nat.reduceAdd, Nat.reduceMul, Nat.reduceLeDiff, Nat.reduceLT, Nat.reduceSub, Nat.reduceBEq, RSt.pa, RSt.row, Ev.pa, Ev.row]
  refine callOps_intro [.agg (s.channel e.obj e.n).row] ⟨s, e.obj, e.n, rfl, by have := hok.ch.1; omega, rfl⟩ ?_
  simp only [↓evP, evB, stB, reduceIte, reduceCtorEq, Nat.reduceEqDiff, Nat.reduceAdd, Nat.reduceMul, Nat.reduceLeDiff, Nat.reduceLT, Nat.reduceSub, Nat.reduceBEq, RCh.row, pr39]
  refine ⟨fun h15 => ?_, fun h15 => ⟨fun h17 => ?_, fun h17 => ?_⟩⟩
  · rw [wr64 (by omega) (by omega)]
    refine callOps_intro [(s.setChannel { s.channel e.obj e.n with sent := (s.channel e.obj e.n).sent + 1 }).pa] ⟨s, { s.channel e.obj e.n with sent := (s.channel e.obj e.n).sent + 1 }, rfl, hok.ch.1, rfl⟩ ?_
    simp only [↓evP, evB, stB, reduceIte, reduceCtorEq, Nat.reduceEqDiff, Nat.reduceAdd, Nat.reduceMul, Nat.reduceLeDiff, Nat.reduceLT, Nat.reduceSub, Nat.reduceBEq, RSt.pa, RSt.row, pr39]
    unfold RSt.counted RCh.count
    rw [if_pos (Or.inl (beq_iff_eq.1 h15)), if_pos (beq_iff_eq.1 h15)]
  · rw [wr64 (by omega) (by omega)]
    refine callOps_intro [(s.setChannel { s.channel e.obj e.n with recv := (s.channel e.obj e.n).recv + 1 }).pa] ⟨s, { s.channel e.obj e.n with recv := (s.channel e.obj e.n).recv + 1 }, rfl, hok.ch.1, rfl⟩ ?_
    simp only [↓evP, evB, stB, reduceIte, reduceCtorEq, Nat.reduceEqDiff, Nat.reduceAdd, Nat.reduceMul, Nat.reduceLeDiff, Nat.reduceLT, Nat.reduceSub, Nat.reduceBEq, RSt.pa, RSt.row, pr39]
    unfold RSt.counted RCh.count
    rw [if_pos (Or.inr (beq_iff_eq.1 h17)), if_neg (beq_eq_false_iff_ne.1 h15), if_pos (beq_iff_eq.1 h17)]
  · unfold RSt.counted
    rw [if_neg (fun h => h.elim (beq_eq_false_iff_ne.1 h15) (beq_eq_false_iff_ne.1 h17))]

def R_begin (ps rs : List Pa) : Prop := ∃ (s : RSt) (e : Ev) (next : List RWt), ps = [s.pa, e.pa, .one (.im (next.map RWt.row))] ∧ (s.ok ∧ next.length ≤ 900000) ∧ rs = [(s.begin e next).pa, pB true]
def env_begin : Env := e1 39 R_counted e0
theorem env_begin_ok : EnvOK Try.prog env_begin := EnvOK.e1 s_counted EnvOK.e0
theorem s_begin : Spec Try.prog 41 R_begin := by
  refine sp41 env_begin_ok ?_
  rintro ps rs ⟨s, e, next, rfl, ⟨hok, hn⟩, rfl⟩
  refine ⟨by simp, ?_⟩
  unfold pc41
  refine pwp_start ?_
  simp only [↓evP, evB, stB, reduceIte, reduceCtorEq, Nat.reduceEqDiff, Nat.reduceAdd, Nat.reduceMul, Nat.reduceLeDiff, Nat.reduceLT, Nat.reduceSub, Nat.reduceBEq, RSt.pa, RSt.row, Ev.pa, Ev.row]
  refine ⟨(by unfold Drw; kernel_rfl), ?_⟩
  refine callOps_intro [(s.begin e next).pa] ⟨{ s with next := next, obj := e.obj, k := e.k, n := e.n }, e, rfl, ⟨hok.ct, hok.gr, hok.ch, hok.lk, hok.dn, hn⟩, rfl⟩ ?_
  simp only [↓evP, evB, stB, reduceIte, reduceCtorEq, Nat.reduceEqDiff, Nat.reduceAdd, Nat.reduceMul, Nat.reduceLeDiff, Nat.reduceLT, Nat.reduceSub, Nat.reduceBEq, RSt.pa, RSt.row, pr41]
end Go.Proofs.Ytohliamalaifhaa
end
section
set_option linter.unusedSimpArgs false
set_option linter.unusedVariables false
namespace Go.Proofs.Ytohliamalaifhaa
open Go Go.RowKit
set_option maxRecDepth 100000
set_option maxHeartbeats 4000000

def R_group (ps rs : List Pa) : Prop := ∃ (s : RSt) (e : Ev), ps = [s.pa, e.pa] ∧ (s.ok ∧ s.next ≠ []) ∧ rs = [(s.groupR e).1.pa, pB (s.groupR e).2]
def env_group : Env := e1 39 R_counted e0
theorem env_group_ok : EnvOK Try.prog env_group := EnvOK.e1 s_counted EnvOK.e0

theorem group_tail {s : RSt} {e : Ev} {w : RWt} {rest : List RWt} (hok : s.ok) (hnx : s.next = w :: rest) (Q : Exit → St → Prop)
    (hQ : ∀ st, st.res pr31 = some [(RSt.counted { s with next := rest.map (w.known e.g) } e).pa, pB true] → Q .ret st) (st : St)
    (h2 : st.sl 2 = .b (.one (.ptr 2 1 0))) (h3 : st.sl 3 = .b (.one (.ptr 3 1 0))) (h4 : st.sl 4 = .b (.one (.ptr 4 1 0))) (h6 : st.sl 6 = .b (.one (.ptr 6 1 0)))
    (g2 : st.gen 2 = 1) (g3 : st.gen 3 = 1) (g4 : st.gen 4 = 1) (g6 : st.gen 6 = 1) (g7 : st.gen 7 = 0)
    (o2 : st.ob 2 = .cells (s.row.map .d)) (o3 : st.ob 3 = .cells (e.row.map .d)) (o4 : st.ob 4 = .cells [.d (dI 0), .d (dI 0), .d (.sc (.slice none 0 0)), .d (.sc (.slice none 0 0)), .d (.sc (.slice none 0 0)), .d (.sc (.slice none 0 0)), .d (dI 0), .d (dI 0), .d (dI 0)]) (o6 : st.ob 6 = .cells (w.row.map .d)) :
    pwp env_group pc31c2 (exS env_group [] Q) st := by
  have hlen := hok.nx
  rw [hnx, List.length_cons] at hlen
  simp only [RSt.row, Ev.row, RWt.row, hnx, List.map_cons, List.map_nil] at o2 o3 o4 o6
  unfold pc31c2 pc31c1
  simp only [↓evP, evB, stB, reduceIte, reduceCtorEq, Nat.reduceEqDiff, Nat.reduceAdd, Nat.reduceMul, Nat.reduceLeDiff, Nat.reduceLT, Nat.reduceSub, Nat.reduceBEq, h2, h3, h4, h6, g2, g3, g4, g6, g7, o2, o3, o4, o6]
  refine pwp_loopW ms31_0 os31_0 (fun m st => ∃ k : Nat, m = rest.length - k ∧ k ≤ rest.length ∧ st.sl 8 = aI ((k + 1 : Nat) : Int) ∧ st.gen 7 = 1 ∧ st.sl 7 = .b (.one (.own 7 1 ((rest.take k).map fun x => (w.known e.g x).row))) ∧ st.ob 7 = .row 63 3 k) rest.length ?_ ?_
  · exact ⟨0, rfl, Nat.zero_le _, by simp only [stB, reduceIte, reduceCtorEq, Nat.reduceEqDiff, Nat.reduceAdd, Nat.reduceMul, Nat.reduceLeDiff, Nat.reduceLT, Nat.reduceSub, Nat.reduceBEq]; rfl, by simp only [stB, reduceIte, reduceCtorEq, Nat.reduceEqDiff, Nat.reduceAdd, Nat.reduceMul, Nat.reduceLeDiff, Nat.reduceLT, Nat.reduceSub, Nat.reduceBEq, g7], by simp only [stB, reduceIte, reduceCtorEq, Nat.reduceEqDiff, Nat.reduceAdd, Nat.reduceMul, Nat.reduceLeDiff, Nat.reduceLT, Nat.reduceSub, Nat.reduceBEq, g7], by simp only [stB, reduceIte, reduceCtorEq, Nat.reduceEqDiff, Nat.reduceAdd, Nat.reduceMul, Nat.reduceLeDiff, Nat.reduceLT, Nat.reduceSub, Nat.reduceBEq]⟩
  · rintro m j ⟨k, rfl, hk, h8, g7', h7, o7⟩
    simp only [stB, reduceIte, reduceCtorEq, Nat.reduceEqDiff, Nat.reduceAdd, Nat.reduceMul, Nat.reduceLeDiff, Nat.reduceLT, Nat.reduceSub, Nat.reduceBEq] at h8 g7' h7 o7
    rcases Nat.lt_or_ge k rest.length with hlt | hge
    · obtain ⟨d, hd⟩ : ∃ d, rest[k]? = some d := ⟨_, List.getElem?_eq_getElem hlt⟩
      have hb : k + 1 ≤ 1000000 := by omega
      have hb2 : ((k + 1 : Nat) : Int) < ((rest.length + 1 : Nat) : Int) := by omega
      have hb3 : ((k + 1 : Nat) : Int) ≥ 0 := by omega
      simp only [↓evP, evB, stB, reduceIte, reduceCtorEq, Nat.reduceEqDiff, Nat.reduceAdd, Nat.reduceMul, Nat.reduceLeDiff, Nat.reduceLT, Nat.reduceSub, Nat.reduceBEq, h2, h3, h4, h6, g2, g3, g4, g6, o2, o3, o4, o6, h8, g7', h7, o7, hd, hb, hb2, hb3, RWt.row, List.length_take, Nat.min_eq_left hk]
      have hkn : ∀ hw : w.g < 0, ∀ hx : d.g < 0, w.known e.g d = { d with g := e.g } := fun hw hx => if_pos ⟨hw, hx⟩
      have hkn2 : ¬ (w.g < 0 ∧ d.g < 0) → w.known e.g d = d := fun h => if_neg h
      refine ⟨fun hw => ⟨fun hx => ?_, fun hx => ?_⟩, fun hw => ?_⟩
      · exact ⟨_, by omega, (by repeat' (first | assumption | exact within_over.mpr trivial | exact Within.refl _ _ _ | (refine within_ap ?_ rfl rfl) | (refine within_ap0 ?_ rfl))), k + 1, rfl, by omega, by simp only [stB, reduceIte, reduceCtorEq, Nat.reduceEqDiff, Nat.reduceAdd, Nat.reduceMul, Nat.reduceLeDiff, Nat.reduceLT, Nat.reduceSub, Nat.reduceBEq, h8]; rw [wrN (by omega)], by simp only [stB, reduceIte, reduceCtorEq, Nat.reduceEqDiff, Nat.reduceAdd, Nat.reduceMul, Nat.reduceLeDiff, Nat.reduceLT, Nat.reduceSub, Nat.reduceBEq, g7'], by simp only [stB, reduceIte, reduceCtorEq, Nat.reduceEqDiff, Nat.reduceAdd, Nat.reduceMul, Nat.reduceLeDiff, Nat.reduceLT, Nat.reduceSub, Nat.reduceBEq, h7, List.take_add_one, hd, Option.toList_some, List.map_append, hkn hw hx, RWt.row], by simp only [stB, reduceIte, reduceCtorEq, Nat.reduceEqDiff, Nat.reduceAdd, Nat.reduceMul, Nat.reduceLeDiff, Nat.reduceLT, Nat.reduceSub, Nat.reduceBEq, o7]⟩
      · exact ⟨_, by omega, (by repeat' (first | assumption | exact within_over.mpr trivial | exact Within.refl _ _ _ | (refine within_ap ?_ rfl rfl) | (refine within_ap0 ?_ rfl))), k + 1, rfl, by omega, by simp only [stB, reduceIte, reduceCtorEq, Nat.reduceEqDiff, Nat.reduceAdd, Nat.reduceMul, Nat.reduceLeDiff, Nat.reduceLT, Nat.reduceSub, Nat.reduceBEq, h8]; rw [wrN (by omega)], by simp only [stB, reduceIte, reduceCtorEq, Nat.reduceEqDiff, Nat.reduceAdd, Nat.reduceMul, Nat.reduceLeDiff, Nat.reduceLT, Nat.reduceSub, Nat.reduceBEq, g7'], by simp only [stB, reduceIte, reduceCtorEq, Nat.reduceEqDiff, Nat.reduceAdd, Nat.reduceMul, Nat.reduceLeDiff, Nat.reduceLT, Nat.reduceSub, Nat.reduceBEq, h7, List.take_add_one, hd, Option.toList_some, List.map_append, hkn2 (fun h => hx h.2), RWt.row], by simp only [stB, reduceIte, reduceCtorEq, Nat.reduceEqDiff, Nat.reduceAdd, Nat.reduceMul, Nat.reduceLeDiff, Nat.reduceLT, Nat.reduceSub, Nat.reduceBEq, o7]⟩
      · exact ⟨_, by omega, (by repeat' (first | assumption | exact within_over.mpr trivial | exact Within.refl _ _ _ | (refine within_ap ?_ rfl rfl) | (refine within_ap0 ?_ rfl))), k + 1, rfl, by omega, by simp only [stB, reduceIte, reduceCtorEq, Nat.reduceEqDiff, Nat.reduceAdd, Nat.reduceMul, Nat.reduceLeDiff, Nat.reduceLT, Nat.reduceSub, Nat.reduceBEq, h8]; rw [wrN (by omega)], by simp only [stB, reduceIte, reduceCtorEq, Nat.reduceEqDiff, Nat.reduceAdd, Nat.reduceMul, Nat.reduceLeDiff, Nat.reduceLT, Nat.reduceSub, Nat.reduceBEq, g7'], by simp only [stB, reduceIte, reduceCtorEq, Nat.reduceEqDiff, Nat.reduceAdd, Nat.reduceMul, Nat.reduceLeDiff, Nat.reduceLT, Nat.reduceSub, Nat.reduceBEq, h7, List.take_add_one, hd, Option.toList_some, List.map_append, hkn2 (fun h => hw h.1), RWt.row], by simp only [stB, reduceIte, reduceCtorEq, Nat.reduceEqDiff, Nat.reduceAdd, Nat.reduceMul, Nat.reduceLeDiff, Nat.reduceLT, Nat.reduceSub, Nat.reduceBEq, o7]⟩
    · have hkl : k = rest.length := by omega
      subst hkl
      rw [List.take_length] at h7
      have hb2 : ¬ (((rest.length + 1 : Nat) : Int) < ((rest.length + 1 : Nat) : Int)) := by omega
      unfold pc31c0
      simp only [↓evP, evB, stB, reduceIte, reduceCtorEq, Nat.reduceEqDiff, Nat.reduceAdd, Nat.reduceMul, Nat.reduceLeDiff, Nat.reduceLT, Nat.reduceSub, Nat.reduceBEq, h2, h3, h4, h6, g2, g3, g4, g6, o2, o3, o4, o6, h8, g7', h7, o7, hb2]
      refine callOps_intro [(RSt.counted { s with next := rest.map (w.known e.g) } e).pa] ⟨{ s with next := rest.map (w.known e.g) }, e, ?_, ⟨hok.ct, hok.gr, hok.ch, hok.lk, hok.dn, by simp; omega⟩, rfl⟩ ?_
      · simp only [RSt.pa, RSt.row, Ev.pa, Ev.row, List.map_map]; rfl
      · simp only [↓evP, evB, stB, reduceIte, reduceCtorEq, Nat.reduceEqDiff, Nat.reduceAdd, Nat.reduceMul, Nat.reduceLeDiff, Nat.reduceLT, Nat.reduceSub, Nat.reduceBEq, RSt.pa, RSt.row, h2, h3, h4, h6, g2, g3, g4, g6, o2, o3, o4, o6]
        refine hQ _ ?_
        simp only [stB, reduceIte, reduceCtorEq, Nat.reduceEqDiff, Nat.reduceAdd, Nat.reduceMul, Nat.reduceLeDiff, Nat.reduceLT, Nat.reduceSub, Nat.reduceBEq, pr31, RSt.pa, RSt.row, h2, h3, h4, h6, g2, g3, g4, g6, o2, o3, o4, o6]

theorem s_group : Spec Try.prog 31 R_group := by
  refine sp31 env_group_ok ?_
  rintro ps rs ⟨s, e, rfl, ⟨hok, hn⟩, rfl⟩
  refine ⟨by simp, ?_⟩
  obtain ⟨w, rest, hnx⟩ : ∃ w rest, s.next = w :: rest := by cases h : s.next with
    | nil => exact absurd h hn
    | cons w l => exact ⟨w, l, rfl⟩
  unfold pc31
  refine pwp_start ?_
  simp only [↓evP, evB, stB, reduceIte, reduceCtorEq, Nat.reduceEqDiff, Nat.reduceAdd, Nat.reduceMul, Nat.reduceLeDiff, Nat.reduceLT, Nat.reduceSub, Nat.reduceBEq, RSt.pa, RSt.row, Ev.pa, Ev.row, hnx, RWt.row, Int.toNat_zero, Int.le_refl]
  refine pwp_fresh [2, 3, 4, 5, 6] [2, 3, 4, 6, 7] (fun st hs ho => ?_)
  simp only [stB, reduceIte, reduceCtorEq, Nat.reduceEqDiff, Nat.reduceAdd, Nat.reduceMul, Nat.reduceLeDiff, Nat.reduceLT, Nat.reduceSub, Nat.reduceBEq] at hs ho
  obtain ⟨h2, h3, h4, h5, h6⟩ := hs
  obtain ⟨⟨g2, o2⟩, ⟨g3, o3⟩, ⟨g4, o4⟩, ⟨g6, o6⟩, g7, o7⟩ := ho
  unfold pc31c4 pc31c3
  cases hf : s.fits w e with
  | false =>
    have hg : s.groupR e = (s, false) := by unfold RSt.groupR; rw [hnx]; dsimp only; rw [hf]; rfl
    rw [hg]
    unfold RSt.fits at hf
    cases b1 : (e.kind != w.kind) with
    | true => simp only [↓evP, evB, stB, reduceIte, reduceCtorEq, Nat.reduceEqDiff, Nat.reduceAdd, Nat.reduceMul, Nat.reduceLeDiff, Nat.reduceLT, Nat.reduceSub, Nat.reduceBEq, h2, h3, h4, h5, h6, g2, g3, g4, g6, o2, o3, o4, o6, RSt.pa, RSt.row, decide_true, decide_false, pr31, hnx, RWt.row, b1]
    | false =>
    cases b2 : (e.obj != s.obj) with
    | true => simp only [↓evP, evB, stB, reduceIte, reduceCtorEq, Nat.reduceEqDiff, Nat.reduceAdd, Nat.reduceMul, Nat.reduceLeDiff, Nat.reduceLT, Nat.reduceSub, Nat.reduceBEq, h2, h3, h4, h5, h6, g2, g3, g4, g6, o2, o3, o4, o6, RSt.pa, RSt.row, decide_true, decide_false, pr31, hnx, RWt.row, b1, b2]
    | false =>
    cases b3 : (e.k != s.k) with
    | true => simp only [↓evP, evB, stB, reduceIte, reduceCtorEq, Nat.reduceEqDiff, Nat.reduceAdd, Nat.reduceMul, Nat.reduceLeDiff, Nat.reduceLT, Nat.reduceSub, Nat.reduceBEq, h2, h3, h4, h5, h6, g2, g3, g4, g6, o2, o3, o4, o6, RSt.pa, RSt.row, decide_true, decide_false, pr31, hnx, RWt.row, b1, b2, b3]
    | false =>
    cases b4 : (e.n != s.n) with
    | true => simp only [↓evP, evB, stB, reduceIte, reduceCtorEq, Nat.reduceEqDiff, Nat.reduceAdd, Nat.reduceMul, Nat.reduceLeDiff, Nat.reduceLT, Nat.reduceSub, Nat.reduceBEq, h2, h3, h4, h5, h6, g2, g3, g4, g6, o2, o3, o4, o6, RSt.pa, RSt.row, decide_true, decide_false, pr31, hnx, RWt.row, b1, b2, b3, b4]
    | false =>
    by_cases b5 : w.g ≥ 0
    · have b6 : ¬ w.g < 0 := by omega
      cases b7 : (e.g != w.g) with
      | true => simp only [↓evP, evB, stB, reduceIte, reduceCtorEq, Nat.reduceEqDiff, Nat.reduceAdd, Nat.reduceMul, Nat.reduceLeDiff, Nat.reduceLT, Nat.reduceSub, Nat.reduceBEq, h2, h3, h4, h5, h6, g2, g3, g4, g6, o2, o3, o4, o6, RSt.pa, RSt.row, decide_true, decide_false, pr31, hnx, RWt.row, b1, b2, b3, b4, b5, b6, b7]
      | false => simp [b1, b2, b3, b4, b6, b7] at hf
    · have b6 : w.g < 0 := by omega
      cases b7 : (e.g == w.not) with
      | true => simp only [↓evP, evB, stB, reduceIte, reduceCtorEq, Nat.reduceEqDiff, Nat.reduceAdd, Nat.reduceMul, Nat.reduceLeDiff, Nat.reduceLT, Nat.reduceSub, Nat.reduceBEq, h2, h3, h4, h5, h6, g2, g3, g4, g6, o2, o3, o4, o6, RSt.pa, RSt.row, decide_true, decide_false, pr31, hnx, RWt.row, b1, b2, b3, b4, b5, b6, b7]
      | false => simp [b1, b2, b3, b4, b5, b6, b7] at hf
  | true =>
    have hg : s.groupR e = (RSt.counted { s with next := rest.map (w.known e.g) } e, true) := by unfold RSt.groupR; rw [hnx]; dsimp only; rw [hf]; rfl
    rw [hg]
    unfold RSt.fits at hf
    simp only [Bool.not_eq_true', Bool.or_eq_false_iff] at hf
    obtain ⟨⟨b1, b2, b3, b4, b5⟩, b6⟩ := hf
    by_cases q : w.g ≥ 0
    · have q2 : ¬ w.g < 0 := by omega
      have b7 : (e.g != w.g) = false := by rw [decide_eq_true (show 0 ≤ w.g from q)] at b5; simpa using b5
      simp only [↓evP, evB, stB, reduceIte, reduceCtorEq, Nat.reduceEqDiff, Nat.reduceAdd, Nat.reduceMul, Nat.reduceLeDiff, Nat.reduceLT, Nat.reduceSub, Nat.reduceBEq, h2, h3, h4, h5, h6, g2, g3, g4, g6, o2, o3, o4, o6, decide_true, decide_false, b1, b2, b3, b4, q, q2, b7]
      exact group_tail hok hnx _ (fun st' h => ⟨.inr rfl, h⟩) _ (by simp only [stB, reduceIte, reduceCtorEq, Nat.reduceEqDiff, Nat.reduceAdd, Nat.reduceMul, Nat.reduceLeDiff, Nat.reduceLT, Nat.reduceSub, Nat.reduceBEq, h2]) (by simp only [stB, reduceIte, reduceCtorEq, Nat.reduceEqDiff, Nat.reduceAdd, Nat.reduceMul, Nat.reduceLeDiff, Nat.reduceLT, Nat.reduceSub, Nat.reduceBEq, h3]) (by simp only [stB, reduceIte, reduceCtorEq, Nat.reduceEqDiff, Nat.reduceAdd, Nat.reduceMul, Nat.reduceLeDiff, Nat.reduceLT, Nat.reduceSub, Nat.reduceBEq, h4]) (by simp only [stB, reduceIte, reduceCtorEq, Nat.reduceEqDiff, Nat.reduceAdd, Nat.reduceMul, Nat.reduceLeDiff, Nat.reduceLT, Nat.reduceSub, Nat.reduceBEq, h6]) (by simp only [stB, reduceIte, reduceCtorEq, Nat.reduceEqDiff, Nat.reduceAdd, Nat.reduceMul, Nat.reduceLeDiff, Nat.reduceLT, Nat.reduceSub, Nat.reduceBEq, g2]) (by simp only [stB, reduceIte, reduceCtorEq, Nat.reduceEqDiff, Nat.reduceAdd, Nat.reduceMul, Nat.reduceLeDiff, Nat.reduceLT, Nat.reduceSub, Nat.reduceBEq, g3]) (by simp only [stB, reduceIte, reduceCtorEq, Nat.reduceEqDiff, Nat.reduceAdd, Nat.reduceMul, Nat.reduceLeDiff, Nat.reduceLT, Nat.reduceSub, Nat.reduceBEq, g4]) (by simp only [stB, reduceIte, reduceCtorEq, Nat.reduceEqDiff, Nat.reduceAdd, Nat.reduceMul, Nat.reduceLeDiff, Nat.reduceLT, Nat.reduceSub, Nat.reduceBEq, g6]) (by simp only [stB, reduceIte, reduceCtorEq, Nat.reduceEqDiff, Nat.reduceAdd, Nat.reduceMul, Nat.reduceLeDiff, Nat.reduceLT, Nat.reduceSub, Nat.reduceBEq, g7])
        (by simp only [stB, reduceIte, reduceCtorEq, Nat.reduceEqDiff, Nat.reduceAdd, Nat.reduceMul, Nat.reduceLeDiff, Nat.reduceLT, Nat.reduceSub, Nat.reduceBEq, o2, RSt.row, hnx, RWt.row]) (by simp only [stB, reduceIte, reduceCtorEq, Nat.reduceEqDiff, Nat.reduceAdd, Nat.reduceMul, Nat.reduceLeDiff, Nat.reduceLT, Nat.reduceSub, Nat.reduceBEq, o3, Ev.row]) (by simp only [stB, reduceIte, reduceCtorEq, Nat.reduceEqDiff, Nat.reduceAdd, Nat.reduceMul, Nat.reduceLeDiff, Nat.reduceLT, Nat.reduceSub, Nat.reduceBEq, o4]) (by simp only [stB, reduceIte, reduceCtorEq, Nat.reduceEqDiff, Nat.reduceAdd, Nat.reduceMul, Nat.reduceLeDiff, Nat.reduceLT, Nat.reduceSub, Nat.reduceBEq, o6, RWt.row])
    · have q2 : w.g < 0 := by omega
      have b7 : (e.g == w.not) = false := by rw [decide_eq_true q2] at b6; simpa using b6
      simp only [↓evP, evB, stB, reduceIte, reduceCtorEq, Nat.reduceEqDiff, Nat.reduceAdd, Nat.reduceMul, Nat.reduceLeDiff, Nat.reduceLT, Nat.reduceSub, Nat.reduceBEq, h2, h3, h4, h5, h6, g2, g3, g4, g6, o2, o3, o4, o6, decide_true, decide_false, b1, b2, b3, b4, q, q2, b7]
      exact group_tail hok hnx _ (fun st' h => ⟨.inr rfl, h⟩) _ (by simp only [stB, reduceIte, reduceCtorEq, Nat.reduceEqDiff, Nat.reduceAdd, Nat.reduceMul, Nat.reduceLeDiff, Nat.reduceLT, Nat.reduceSub, Nat.reduceBEq, h2]) (by simp only [stB, reduceIte, reduceCtorEq, Nat.reduceEqDiff, Nat.reduceAdd, Nat.reduceMul, Nat.reduceLeDiff, Nat.reduceLT, Nat.reduceSub, Nat.reduceBEq, h3]) (by simp only [stB, reduceIte, reduceCtorEq, Nat.reduceEqDiff, Nat.reduceAdd, Nat.reduceMul, Nat.reduceLeDiff, Nat.reduceLT, Nat.reduceSub, Nat.reduceBEq, h4]) (by simp only [stB, reduceIte, reduceCtorEq, Nat.reduceEqDiff, Nat.reduceAdd, Nat.reduceMul, Nat.reduceLeDiff, Nat.reduceLT, Nat.reduceSub, Nat.reduceBEq, h6]) (by simp only [stB, reduceIte, reduceCtorEq, Nat.reduceEqDiff, Nat.reduceAdd, Nat.reduceMul, Nat.reduceLeDiff, Nat.reduceLT, Nat.reduceSub, Nat.reduceBEq, g2]) (by simp only [stB, reduceIte, reduceCtorEq, Nat.reduceEqDiff, Nat.reduceAdd, Nat.reduceMul, Nat.reduceLeDiff, Nat.reduceLT, Nat.reduceSub, Nat.reduceBEq, g3]) (by simp only [stB, reduceIte, reduceCtorEq, Nat.reduceEqDiff, Nat.reduceAdd, Nat.reduceMul, Nat.reduceLeDiff, Nat.reduceLT, Nat.reduceSub, Nat.reduceBEq, g4]) (by simp only [stB, reduceIte, reduceCtorEq, Nat.reduceEqDiff, Nat.reduceAdd, Nat.reduceMul, Nat.reduceLeDiff, Nat.reduceLT, Nat.reduceSub, Nat.reduceBEq, g6]) (by simp only [stB, reduceIte, reduceCtorEq, Nat.reduceEqDiff, Nat.reduceAdd, Nat.reduceMul, Nat.reduceLeDiff, Nat.reduceLT, Nat.reduceSub, Nat.reduceBEq, g7])
        (by simp only [stB, reduceIte, reduceCtorEq, Nat.reduceEqDiff, Nat.reduceAdd, Nat.reduceMul, Nat.reduceLeDiff, Nat.reduceLT, Nat.reduceSub, Nat.reduceBEq, o2, RSt.row, hnx, RWt.row]) (by simp only [stB, reduceIte, reduceCtorEq, Nat.reduceEqDiff, Nat.reduceAdd, Nat.reduceMul, Nat.reduceLeDiff, Nat.reduceLT, Nat.reduceSub, Nat.reduceBEq, o3, Ev.row]) (by simp only [stB, reduceIte, reduceCtorEq, Nat.reduceEqDiff, Nat.reduceAdd, Nat.reduceMul, Nat.reduceLeDiff, Nat.reduceLT, Nat.reduceSub, Nat.reduceBEq, o4]) (by simp only [stB, reduceIte, reduceCtorEq, Nat.reduceEqDiff, Nat.reduceAdd, Nat.reduceMul, Nat.reduceLeDiff, Nat.reduceLT, Nat.reduceSub, Nat.reduceBEq, o6, RWt.row])
end Go.Proofs.Ytohliamalaifhaa
end
