/- Whole codes and functions: what the plain reading says, the program does. -/
import Derived.Test.YtkdagjlkejefnaaPn
set_option linter.unusedSimpArgs false
set_option linter.unusedVariables false
namespace Go.Proofs.Ytkdagjlkejefnaa
open Go Go.RowKit

theorem exists_least (p : Nat → Prop) (h : ∃ n, p n) : ∃ n, p n ∧ ∀ m, p m → n ≤ m := by
  obtain ⟨n, hn⟩ := h
  induction n using Nat.strongRecOn with
  | _ n ih =>
    by_cases hm : ∃ m, m < n ∧ p m
    · obtain ⟨m, hlt, hp⟩ := hm
      exact ih m hlt hp
    · exact ⟨n, hn, fun m hp => by
        rcases Nat.lt_or_ge m n with h | h
        · exact absurd ⟨m, h, hp⟩ hm
        · exact h⟩

/-- a loop by an index that every round lowers -/
theorem wp_loop_ix {P : Program} {Q : Exit → Act → World → Prop} {a : Act} {w : World} {c : Code} (I : Nat → Act → World → Prop) (h0 : ∃ n, I n a w)
    (round : ∀ n a w, I n a w → c.wp P (Exit.then (fun a' w' => ∃ m, m < n ∧ I m a' w') Q) a w) : (Code.loop c).wp P Q a w := by
  classical
  let μ : Act → World → Nat := fun a w => if h : ∃ n, I n a w then Classical.choose (exists_least _ h) else 0
  have hμ : ∀ a w (h : ∃ n, I n a w), I (μ a w) a w ∧ ∀ m, I m a w → μ a w ≤ m := fun a w h => by
    have h1 : μ a w = Classical.choose (exists_least _ h) := dif_pos h
    rw [h1]
    exact Classical.choose_spec (exists_least _ h)
  refine wp_loop (fun a w => ∃ n, I n a w) μ h0 (fun a w h => ?_)
  refine wp_mono (round _ a w (hμ a w h).1) (fun e a' w' he => ?_)
  cases e with
  | normal =>
    obtain ⟨m, hlt, hm⟩ := he
    exact ⟨⟨m, hm⟩, Nat.lt_of_le_of_lt ((hμ a' w' ⟨m, hm⟩).2 m hm) hlt⟩
  | _ => exact he

section
variable {P : Program} {n : Nat} {w0 : World} {S0 : Nat → Nat}

/-- no edge of the code points forward in a region that draws -/
def backs : PC → Bool
  | .reg true ops => backOk ops
  | .seq a b => backs a && backs b
  | .cond _ a b => backs a && backs b
  | .block _ c => backs c
  | .loop c => backs c
  | _ => true

theorem code_sound {env : Env} (hE : EnvOK P env) {eqs : List (Nat × List Bool)} (heq : ∀ p, p ∈ eqs → EqT P p.1 p.2) (hm : P.follows .mixedOrders = true) : ∀ (c : Code) (pc : PC), compC P n eqs c = some pc → backs pc = true →
    ∀ (Q : Exit → St → Prop) (W : Wit) (s : St) (a : Act) (w : World), pwp env pc Q s → Sim w0 S0 n W s a w → c.wp P (fun e a' w' => ∃ W' s', Sim w0 S0 n W' s' a' w' ∧ Q e s') a w := by
  intro c
  induction c with
  | skip => intro pc hc _ Q W s a w h hs; simp [compC] at hc; subst hc; exact wp_skip ⟨W, s, hs, h⟩
  | region id ops draw =>
    intro pc hc hb Q W s a w h hs
    simp only [compC, Option.map_eq_some_iff] at hc
    obtain ⟨is, his, rfl⟩ := hc
    have hmap := allSome_get _ _ his
    cases draw with
    | false =>
      refine wp_region ?_
      have hlen : is.length = ops.size := by have := congrArg List.length hmap; simp at this; omega
      have := pi_ops hE heq (ops := ops) (Q := fun e a' w' => ∃ W' s', Sim w0 S0 n W' s' a' w' ∧ Q e s') (K := Q .normal) (fun s W a w h1 h2 => ⟨W, s, h2, h1⟩) is 0 W s a w (by simpa using hmap) hs h
      rw [hlen] at this
      rw [List.range_eq_range']
      exact this
    | true => exact draw_sound hE heq hm hmap (fun s W a w h1 h2 => ⟨W, s, h2, h1⟩) hs hb h id
  | seq x y ihx ihy =>
    intro pc hc hb Q W s a w h hs
    simp only [compC] at hc
    split at hc
    · rename_i px py hx hy
      cases hc
      simp only [backs, Bool.and_eq_true] at hb
      refine wp_seq (wp_mono (ihx px hx hb.1 _ W s a w h hs) (fun e a' w' he => ?_))
      obtain ⟨W', s', hs', hq⟩ := he
      cases e with
      | normal => exact ihy py hy hb.2 Q W' s' a' w' hq hs'
      | _ => exact ⟨W', s', hs', hq⟩
    · cases hc
  | cond co x y ihx ihy =>
    intro pc hc hb Q W s a w h hs
    simp only [compC] at hc
    split at hc
    · rename_i pcn px py hcn hx hy
      cases hc
      simp only [backs, Bool.and_eq_true] at hb
      obtain ⟨t, ht, h1, h2⟩ := withSome_iff.1 h
      exact wp_cond_split (boo_ev hs hcn ht) (fun he => ihx px hx hb.1 Q W s a w (h1 he) hs) (fun he => ihy py hy hb.2 Q W s a w (h2 he) hs)
    · cases hc
  | block id x ih =>
    intro pc hc hb Q W s a w h hs
    simp only [compC, Option.map_eq_some_iff] at hc
    obtain ⟨px, hx, rfl⟩ := hc
    refine wp_block (wp_mono (ih px hx hb _ W s a w h hs) (fun e a' w' he => ?_))
    obtain ⟨W', s', hs', hq⟩ := he
    cases e with
    | exit i =>
      by_cases hi : i = id
      · simp only [hi, if_true] at hq
        simp only [Exit.inBlock, hi, if_true]
        exact ⟨W', s', hs', hq⟩
      · simp only [hi, if_false] at hq
        simp only [Exit.inBlock, hi, if_false]
        exact ⟨W', s', hs', hq⟩
    | _ => exact ⟨W', s', hs', hq⟩
  | loop x ih =>
    intro pc hc hb Q W s a w h hs
    simp only [compC, Option.map_eq_some_iff] at hc
    obtain ⟨px, hx, rfl⟩ := hc
    obtain ⟨I, ⟨k, hk⟩, hr⟩ := h
    refine wp_loop_ix (fun k a w => ∃ W s, Sim w0 S0 n W s a w ∧ I k s) ⟨k, W, s, hs, hk⟩ (fun k a w h => ?_)
    obtain ⟨W, s, hs, hI⟩ := h
    refine wp_mono (ih px hx hb _ W s a w (hr k s hI) hs) (fun e a' w' he => ?_)
    obtain ⟨W', s', hs', hq⟩ := he
    cases e with
    | normal =>
      obtain ⟨m, hlt, hm⟩ := hq
      exact ⟨m, hlt, W', s', hs', hm⟩
    | _ => exact ⟨W', s', hs', hq⟩
  | exit id => intro pc hc _ Q W s a w h hs; simp [compC] at hc; subst hc; exact wp_exit ⟨W, s, hs, h⟩
  | ret => intro pc hc _ Q W s a w h hs; simp [compC] at hc; subst hc; exact wp_ret ⟨W, s, hs, h⟩
  | rangeFunc => intro pc hc; simp [compC] at hc
  | scope => intro pc hc; simp [compC] at hc
  | label => intro pc hc; simp [compC] at hc
  | goto => intro pc hc; simp [compC] at hc
  | refuse => intro pc hc; simp [compC] at hc
end

/-! ### functions -/
inductive PR where
  | t (x : Nat)
  | c (x : Nat) (k : Option Nat)
def compR (P : Program) : ResultVar → Option PR
  | .tmp t => some (.t t)
  | .cell a t => (szT P t).map (.c a)
def St.res1 (s : St) : PR → Option Pa
  | .t x => (s.sl x).pa
  | .c x k => match s.sl x with
    | .b (.one (.ptr o g off)) => if s.gen o = g then (match s.ob o with | .cells cs => (mkAv k cs off).bind Av.pa | _ => none) else none
    | _ => none
def St.res (s : St) (rs : List PR) : Option (List Pa) := allSome (rs.map s.res1)
def St.init (as : List Pa) : St := ⟨fun x => match as[x]? with | some p => .b p.bv | none => .un, fun _ => 0, fun _ => .no⟩

def rvSem (tmps : Array Value) : ResultVar → Sem Value
  | .tmp t => pure (tmps.getD t undef)
  | .cell a t => do loadVar t (← asAddr (tmps.getD a undef))

theorem run_res1 {P : Program} {n : Nat} {w0 : World} {S0 : Nat → Nat} {W : Wit} {s : St} {a : Act} {w : World} (hs : Sim w0 S0 n W s a w) {rv : ResultVar} {r : PR} {p : Pa} (hr : compR P rv = some r) (hp : s.res1 r = some p) :
    ∃ v, (rvSem a.tmps rv).run P w = .ok v w ∧ RP W.S w p v := by
  cases rv with
  | tmp t =>
    cases hr
    exact ⟨_, rfl, RA.pa (hs.sl t) hp⟩
  | cell c t =>
    simp only [compR, Option.map_eq_some_iff] at hr
    obtain ⟨k, hk, rfl⟩ := hr
    obtain ⟨d, i, hu, hi, hkk⟩ := szT_inv hk
    simp only [St.res1] at hp
    split at hp
    · rename_i o g off hsl
      split at hp
      · rename_i hg
        split at hp
        · rename_i cs hob
          simp only [Option.bind_eq_some_iff] at hp
          obtain ⟨v, hv, hp⟩ := hp
          have h1 := hs.sl c
          rw [hsl] at h1
          have h2 := h1.2.2 hg.symm
          have hro := hs.ob o
          rw [hob] at hro
          obtain ⟨arr, T, h4, h5, h6, h7⟩ := hro
          have hcell : ∀ (j : Nat) u, arr.toList[j]? = some u → w.cell? ⟨W.blk o, j, none⟩ = some u := fun j u hj => by
            simp only [World.cell?, h4]
            simpa using hj
          have hag := run_isAgg (P := P) hu w
          unfold rvSem
          dsimp only
          rw [h2]
          rcases mkAv_cells h7 hv with ⟨rfl, c', u, e1, e2, rfl, e3⟩ | ⟨m, rfl, e1, rfl, e2⟩
          · have hf : aggT d = false := by cases h : aggT d <;> simp [h] at hkk ⊢
            rw [hf] at hag
            refine ⟨u, ?_, RA.pa (G := s.gen) (O := s.ob) (v := .b (.one c')) e3 hp⟩
            simp [asAddr, loadVar, hag, hcell off u e2]
          · have ht : aggT d = true := by cases h : aggT d <;> simp [h] at hkk ⊢
            rw [ht] at hag hkk
            simp at hkk
            subst hkk
            have hlen : ((arr.toList.drop off).take i.size).length = i.size := by simp at e1 ⊢; omega
            have hl := run_loadCells_list (P := P) w ⟨W.blk o, off, none⟩ ((arr.toList.drop off).take i.size) (fun j u hj => by
              rw [addr_add]
              rw [List.getElem?_take] at hj
              split at hj
              · rw [List.getElem?_drop] at hj
                exact hcell _ _ hj
              · cases hj)
            rw [hlen] at hl
            refine ⟨.agg ((arr.toList.drop off).take i.size).toArray, ?_, RA.pa (G := s.gen) (O := s.ob) (v := .b (.agg ((cs.drop off).take i.size))) ⟨_, rfl, by simpa using e2⟩ hp⟩
            simp only [asAddr, Sem.run_bind, Sem.run_pure, Result.andThen_ok, loadVar, hag, if_true, sizeOf, typeInfo, run_program, hi, hl]
        · cases hp
      · cases hp
    · cases hp

theorem run_results {P : Program} {n : Nat} {w0 : World} {S0 : Nat → Nat} {W : Wit} {s : St} {a : Act} {w : World} (hs : Sim w0 S0 n W s a w) : ∀ (rvs : List ResultVar) (prs : List PR) (ps : List Pa), allSome (rvs.map (compR P)) = some prs → s.res prs = some ps →
    ∃ vs : List Value, (rvs.mapM (rvSem a.tmps)).run P w = .ok vs w ∧ ps.length = vs.length ∧ ∀ (i : Nat) p u, ps[i]? = some p → vs[i]? = some u → RP W.S w p u
  | [], prs, ps, h1, h2 => by
    simp [allSome] at h1; subst h1
    simp [St.res, allSome] at h2; subst h2
    exact ⟨[], by simp, rfl, fun i p u h => by simp at h⟩
  | rv :: rvs, prs, ps, h1, h2 => by
    simp only [List.map_cons] at h1
    cases hr : compR P rv with
    | none => rw [hr] at h1; simp [allSome] at h1
    | some r =>
      rw [hr] at h1
      simp only [allSome, Option.map_eq_some_iff] at h1
      obtain ⟨prs', hp, rfl⟩ := h1
      simp only [St.res, List.map_cons] at h2
      cases hr1 : s.res1 r with
      | none => rw [hr1] at h2; simp [allSome] at h2
      | some p =>
        rw [hr1] at h2
        simp only [allSome, Option.map_eq_some_iff] at h2
        obtain ⟨ps', hps, rfl⟩ := h2
        obtain ⟨v, h3, h4⟩ := run_res1 hs hr hr1
        obtain ⟨vs, h5, h6, h7⟩ := run_results hs rvs prs' ps' hp hps
        refine ⟨v :: vs, ?_, by simp [h6], fun i q u e1 e2 => ?_⟩
        · rw [List.mapM_cons, Sem.run_bind, h3, Result.andThen_ok, Sem.run_bind, h5]
          rfl
        · cases i with
          | zero => simp at e1 e2; subst e1; subst e2; exact h4
          | succ i => exact h7 i q u (by simpa using e1) (by simpa using e2)

theorem fn_sound {P : Program} {env : Env} (hE : EnvOK P env) {eqs : List (Nat × List Bool)} (heq : ∀ p, p ∈ eqs → EqT P p.1 p.2) (hm : P.follows .mixedOrders = true) {f : Nat} {fn : Func} {c : Code} {pc : PC} {prs : List PR} (hf : P.funcs[f]? = some fn) (hb : fn.body = some c)
    (hc : compC P fn.ntmps eqs c = some pc) (hback : backs pc = true) (hr : allSome (fn.results.toList.map (compR P)) = some prs) {R : List Pa → List Pa → Prop}
    (hR : ∀ as rs, R as rs → as.length ≤ fn.ntmps ∧ pwp env pc (fun e s => (e = .normal ∨ e = .ret) ∧ s.res prs = some rs) (St.init as)) : Spec P f R := by
  intro as rs has S w vals hvals
  obtain ⟨hlen, hw⟩ := hR as rs has
  refine calls_of_wp hf hb ?_
  have hinit : Sim w S fn.ntmps ⟨fun _ => 0, fun _ => undef, fun _ => undef, fun _ _ => False, S⟩ (St.init as) { tmps := vals ++ Array.replicate (fn.ntmps - vals.size) undef, defers := [] } w := by
    refine ⟨Below.refl _ _, fun _ _ => rfl, ?_, rfl, fun x => ?_, fun _ => trivial, fun o o' b h => h.elim⟩
    · have := hvals.1
      simp; omega
    · show RA _ _ _ _ (match as[x]? with | some p => .b p.bv | none => .un) _
      cases hx : as[x]? with
      | none => trivial
      | some p =>
        have hlt : x < vals.size := by rw [← hvals.1]; exact (List.getElem?_eq_some_iff.1 hx).1
        have : (vals ++ Array.replicate (fn.ntmps - vals.size) undef).getD x undef = vals[x] := by
          rw [Array.getD_eq_getD_getElem?, Array.getElem?_append_left hlt, Array.getElem?_eq_getElem hlt]
          rfl
        rw [this]
        exact RP.av (W := ⟨fun _ => 0, fun _ => undef, fun _ => undef, fun _ _ => False, S⟩) (hvals.2 x p _ hx (Array.getElem?_eq_getElem hlt))
  refine wp_mono (code_sound hE heq hm c pc hc hback _ _ _ _ _ hw hinit) (fun e a' w' he => ?_)
  obtain ⟨W', s', hs', hret, hres⟩ := he
  have hfin : bodyPost P fn (fun e w' => ∃ v S', e = .returned v ∧ RR S' w' rs v ∧ Below w.heap.size w w' ∧ ∀ b, b < w.heap.size → S' b = S b) .ret a' w' := by
    refine ⟨hs'.dfs, ?_⟩
    obtain ⟨vs, h1, h2, h3⟩ := run_results (P := P) hs' fn.results.toList prs rs hr hres
    have h4 : (results fn a'.tmps).run P w' = .ok (if h : vs.length = 1 then vs[0] else .tuple vs.toArray) w' := by
      have h5 : results fn a'.tmps = (fn.results.mapM (rvSem a'.tmps)) >>= fun vs => pure (if h : vs.size = 1 then vs[0] else .tuple vs) := by
        unfold results
        congr 1
      have h6 : fn.results = fn.results.toList.toArray := by simp
      rw [h5, h6, List.mapM_toArray, Sem.run_bind, Sem.run_map, h1]
      simp
    refine ⟨_, h4, _, W'.S, rfl, ?_, hs'.below, hs'.s0⟩
    match rs, vs, h2, h3 with
    | [], _, _, _ => trivial
    | [p], [v], _, h3 => exact h3 0 p v rfl rfl
    | p :: q :: r, vs, h2, h3 =>
      have hne : ¬ vs.length = 1 := by rw [← h2]; simp
      rw [dif_neg hne]
      exact ⟨vs.toArray, rfl, by simpa using h2, fun i p u e1 e2 => h3 i p u e1 (by simpa using e2)⟩
  rcases hret with rfl | rfl
  · exact hfin
  · exact hfin
end Go.Proofs.Ytkdagjlkejefnaa
