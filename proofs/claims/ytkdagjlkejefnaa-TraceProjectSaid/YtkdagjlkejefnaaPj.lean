/- Calls, regions in the order of the text, whole codes, functions. -/
import Derived.Test.YtkdagjlkejefnaaPi
set_option linter.unusedSimpArgs false
set_option linter.unusedVariables false
namespace Go.Proofs.Ytkdagjlkejefnaa
open Go Go.RowKit

/-- data handed over -/
def RP (S : Nat → Nat) (w : World) : Pa → Value → Prop
  | .one x, v => RD S w x v
  | .agg xs, v => ∃ arr : Array Value, v = .agg arr ∧ xs.length = arr.size ∧ ∀ (i : Nat) x u, xs[i]? = some x → arr[i]? = some u → RD S w x u
def RPs (S : Nat → Nat) (w : World) (ps : List Pa) (vs : Array Value) : Prop := ps.length = vs.size ∧ ∀ (i : Nat) p u, ps[i]? = some p → vs[i]? = some u → RP S w p u
/-- results: none, one, several -/
def RR (S : Nat → Nat) (w : World) : List Pa → Value → Prop
  | [], _ => True
  | [p], v => RP S w p v
  | ps, v => ∃ vs : Array Value, v = .tuple vs ∧ RPs S w ps vs

/-- what function f does with data: R arguments results -/
def Spec (P : Program) (f : Nat) (R : List Pa → List Pa → Prop) : Prop :=
  ∀ as rs, R as rs → ∀ (S : Nat → Nat) (w : World) (vals : Array Value), RPs S w as vals →
    Calls P f vals w fun e w' => ∃ v S', e = .returned v ∧ RR S' w' rs v ∧ Below w.heap.size w w' ∧ ∀ b, b < w.heap.size → S' b = S b
def EnvOK (P : Program) (env : Env) : Prop := ∀ f, Spec P f (env f)

def e0 : Env := fun _ _ _ => False
def e1 (g : Nat) (R : List Pa → List Pa → Prop) (rest : Env) : Env := fun f as rs => if f = g then R as rs else rest f as rs
theorem EnvOK.e0 {P : Program} : EnvOK P e0 := fun _ _ _ h => h.elim
theorem EnvOK.e1 {P : Program} {g : Nat} {R : List Pa → List Pa → Prop} {rest : Env} (h : Spec P g R) (hr : EnvOK P rest) : EnvOK P (e1 g R rest) := by
  intro f as rs hR
  unfold Go.Proofs.Ytkdagjlkejefnaa.e1 at hR
  split at hR
  · rename_i he; subst he; exact h as rs hR
  · exact hr f as rs hR

def dstOk (n : Nat) : Option Nat → Bool
  | some d => decide (d < n)
  | none => true
theorem dstOk_lt {n : Nat} {x : Option Nat} (h : dstOk n x = true) : ∀ d, x = some d → d < n := by
  rintro d rfl
  simpa [dstOk] using h

def compI (P : Program) (n : Nat) (eqs : List (Nat × List Bool)) (ops : Array Oper) (o : Oper) : Option PI :=
  match compOp P eqs o with
  | some po => if dstOk n o.dst = true then
      match o.guard with
      | none => some { dst := o.dst, op := po, guard := none, after := o.after.toList.filterMap fun e => if Region.binds .any e = true then some e.on else none }
      | some (g, want) => match (ops[g]?).bind (·.dst) with
        | some t => some { dst := o.dst, op := po, guard := some (t, want), after := o.after.toList.filterMap fun e => if Region.binds .any e = true then some e.on else none }
        | none => none
    else none
  | none => none

def compC (P : Program) (n : Nat) (eqs : List (Nat × List Bool)) : Code → Option PC
  | .skip => some .skip
  | .region _ ops draw => (allSome (ops.toList.map (compI P n eqs ops))).map (.reg draw)
  | .seq a b => match compC P n eqs a, compC P n eqs b with
    | some a, some b => some (.seq a b)
    | _, _ => none
  | .cond c a b => match cX c, compC P n eqs a, compC P n eqs b with
    | some c, some a, some b => some (.cond c a b)
    | _, _, _ => none
  | .block id c => (compC P n eqs c).map (.block id)
  | .loop c => (compC P n eqs c).map .loop
  | .exit id => some (.exit id)
  | .ret => some .ret
  | _ => none

section
variable {P : Program} {n : Nat} {w0 : World} {S0 : Nat → Nat} {W : Wit} {s : St} {a : Act} {w : World}

theorem RA.pa {G : Nat → Nat} {O : Nat → Ob} {v : Av} {p : Pa} {u : Value} (h : RA W G O w v u) (hp : v.pa = some p) : RP W.S w p u := by
  cases v with
  | un => cases hp
  | tup xs => cases hp
  | b x =>
    cases x with
    | one c =>
      simp only [Av.pa, Bv.pa, Option.map_eq_some_iff] at hp
      obtain ⟨y, hy, rfl⟩ := hp
      exact RC.dt h hy
    | agg cs =>
      simp only [Av.pa, Bv.pa, Option.map_eq_some_iff] at hp
      obtain ⟨ys, hy, rfl⟩ := hp
      obtain ⟨arr, h1, h2, h3⟩ := h
      have h4 := allSome_get _ _ hy
      refine ⟨arr, h1, ?_, fun i x u' h5 h6 => ?_⟩
      · have := congrArg List.length h4; simp at this h2; omega
      · have h7 := congrArg (·[i]?) h4
        simp only [List.getElem?_map, h5, Option.map_some] at h7
        cases hc : cs[i]? with
        | none => rw [hc] at h7; simp at h7
        | some c =>
          rw [hc] at h7
          simp at h7
          exact RC.dt (h3 i c u' hc (by simpa using h6)) h7

theorem RP.av {G : Nat → Nat} {O : Nat → Ob} {p : Pa} {u : Value} (h : RP W.S w p u) : RB W G O w p.bv u := by
  cases p with
  | one x => exact h
  | agg xs =>
    obtain ⟨arr, h1, h2, h3⟩ := h
    refine ⟨arr, h1, by simp [h2], fun i c u' h4 h5 => ?_⟩
    simp only [List.getElem?_map, Option.map_eq_some_iff] at h4
    obtain ⟨x, hx, rfl⟩ := h4
    exact h3 i x u' hx (by simpa using h5)
theorem RR.av {G : Nat → Nat} {O : Nat → Ob} {ps : List Pa} {u : Value} (h : RR W.S w ps u) : RA W G O w (resAv ps) u := by
  match ps with
  | [] => trivial
  | [p] => exact RP.av h
  | p :: q :: r =>
    obtain ⟨vs, h1, h2, h3⟩ := h
    refine ⟨vs, h1, by simpa using h2, fun i x u' h4 h5 => ?_⟩
    have h4' : ((p :: q :: r).map Pa.bv)[i]? = some x := h4
    rw [List.getElem?_map, Option.map_eq_some_iff] at h4'
    obtain ⟨y, hy, rfl⟩ := h4'
    exact RP.av (h3 i y u' hy h5)

/-- a callee has made new blocks -/
theorem Sim.called (hs : Sim w0 S0 n W s a w) {S' : Nat → Nat} {w' : World} (hb : Below w.heap.size w w') (hS : ∀ b, b < w.heap.size → S' b = W.S b) {dst : Option Nat} (hd : ∀ d, dst = some d → d < n) {v : Av} {rv : Value}
    (hv : RA { W with S := S' } s.gen s.ob w' v rv) : Sim w0 S0 n { W with S := S' } (s.ap dst v .no) (a.put dst rv) w' := by
  have hfol : Fol W s.gen s.ob w { W with S := S' } s.gen s.ob w' := by
    refine ⟨fun b i h1 h2 => ?_, fun _ => Nat.le_refl _, fun _ _ => rfl, fun o E sz k _ ho => ⟨k, ho, Nat.le_refl _, fun _ => rfl⟩, fun _ _ => rfl⟩
    have hlt : b < w.heap.size := by
      cases hcell : w.cell? ⟨b, i, none⟩ with
      | none => rw [hcell] at h2; cases h2
      | some y =>
        rcases Nat.lt_or_ge b w.heap.size with h | h
        · exact h
        · simp [World.cell?, Array.getElem?_eq_none h] at hcell
    exact ⟨by show i < S' b; rw [hS b hlt]; exact h1, by simp [World.cell?, hb.block b hlt]⟩
  refine hs.step hd hfol (hb.mono hs.below.size) (fun b hb2 => hS b (Nat.lt_of_lt_of_le hb2 hs.below.size)) hv (fun o => ?_) hs.ex
  exact RO.fol hfol (hs.ob o) rfl rfl rfl (fun b hb2 => ⟨hb.block b (cl_lt hs hb2).2, hS b (cl_lt hs hb2).2⟩)

theorem args_ev (hs : Sim w0 S0 n W s a w) : ∀ (xo : List Operand) (xs : List PX) (as : List Pa), allSome (xo.map cX) = some xs → s.args xs = some as →
    as.length = xo.length ∧ ∀ (i : Nat) p y, as[i]? = some p → xo[i]? = some y → RP W.S w p (a.eval y) := by
  intro xo
  induction xo with
  | nil =>
    intro xs as h1 h2
    simp [allSome] at h1; subst h1
    simp [St.args, allSome] at h2; subst h2
    exact ⟨rfl, fun i p y h => by simp at h⟩
  | cons y ys ih =>
    intro xs as h1 h2
    simp only [List.map_cons] at h1
    cases hy : cX y with
    | none => rw [hy] at h1; simp [allSome] at h1
    | some x =>
      rw [hy] at h1
      simp only [allSome, Option.map_eq_some_iff] at h1
      obtain ⟨xs', hxs, rfl⟩ := h1
      simp only [St.args, List.map_cons] at h2
      cases hp : (s.ev x).pa with
      | none => rw [hp] at h2; simp [allSome] at h2
      | some p =>
        rw [hp] at h2
        simp only [allSome, Option.map_eq_some_iff] at h2
        obtain ⟨as', has, rfl⟩ := h2
        obtain ⟨h3, h4⟩ := ih xs' as' hxs has
        refine ⟨by simp [h3], fun i q z e1 e2 => ?_⟩
        cases i with
        | zero =>
          simp at e1 e2
          subst e1; subst e2
          exact RA.pa (evX hs hy) hp
        | succ i => exact h4 i q z (by simpa using e1) (by simpa using e2)

/-- one operation, behind its guard -/
theorem pi_wpOp {env : Env} (hE : EnvOK P env) {eqs : List (Nat × List Bool)} (heq : ∀ p, p ∈ eqs → EqT P p.1 p.2) {ops : Array Oper} {o : Oper} {i : PI} {idx : Nat} {Q : Exit → Act → World → Prop} (hi : ops[idx]? = some o) (hc : compI P n eqs ops o = some i) (hs : Sim w0 S0 n W s a w)
    {K : Av → Cg → Prop} (hgo : i.go env s K) {K' : Act → World → Prop} (hK : ∀ v ch W' a' w', K v ch → Sim w0 S0 n W' (s.ap i.dst v ch) a' w' → K' a' w') : wpOp P ops Q idx K' a w := by
  unfold compI at hc
  split at hc
  · rename_i po hpo
    split at hc
    · rename_i hdst
      have hd := dstOk_lt hdst
      -- the operation itself
      have op : ∀ K : Av → Cg → Prop, (∀ v ch W' a' w', K v ch → Sim w0 S0 n W' (s.ap o.dst v ch) a' w' → K' a' w') → po.go env s (o.dst.getD 0) K → o.wp P a w K' Q := fun K hK hg => by
        cases hcall : po.isCall with
        | false =>
          have hg' : ∃ v ch, po.fn s (o.dst.getD 0) = some (v, ch) ∧ K v ch := by
            have h1 : withSome (po.fn s (o.dst.getD 0)) (fun p => K p.1 p.2) := by
              cases po <;> first | exact hg | cases hcall
            obtain ⟨⟨v, ch⟩, h2, h3⟩ := withSome_iff.1 h1
            exact ⟨v, ch, h2, h3⟩
          obtain ⟨v, ch, h1, h2⟩ := hg'
          obtain ⟨W', rv, w', h3, h4⟩ := compOp_good heq hd hpo hcall w0 S0 W s a w v ch hs h1
          unfold Oper.wp
          rcases h3 with h3 | ⟨h3, rfl⟩
          · rw [h3]; exact hK v ch W' _ _ h2 h4
          · rw [h3]; exact hK v ch W' _ _ h2 h4
        | true =>
          cases po with
          | call f xs =>
            obtain ⟨as, h1, rs, h2, h3⟩ := withSome_iff.1 hg
            unfold compOp at hpo
            split at hpo
            case h_20 c hop =>
              split at hpo
              · rename_i b hcb
                unfold compB at hpo
                (repeat' split at hpo) <;> (first | (cases hpo; done) | (simp only [Option.map_eq_some_iff] at hpo; obtain ⟨_, _, h⟩ := hpo; cases h))
              · rename_i f' hcf
                split at hpo
                · rename_i fn hfn
                  split at hpo
                  · rename_i hcond
                    simp only [Option.map_eq_some_iff] at hpo
                    obtain ⟨xs', hxs, heqc⟩ := hpo
                    cases heqc
                    obtain ⟨h4, h5⟩ := args_ev hs _ _ _ hxs h1
                    have hrun : (execOp a.eval o).run P w = .ok (.enter f (c.args.map a.eval)) w := by
                      have hn := hcond.1
                      have hb2 : fn.body ≠ none := by
                        intro hb
                        have := hcond.2
                        rw [hb] at this; cases this
                      simp [execOp, hop, resolve, hcf, Act.eval, Deferred.ofValue, invoke, callFunc, hfn, hn, hb2]
                    unfold Oper.wp
                    rw [hrun]
                    refine (hE f as rs h2 W.S w (c.args.map a.eval) ⟨by simpa using h4, fun i p u e1 e2 => ?_⟩).mono ?_
                    · rw [Array.getElem?_map, Option.map_eq_some_iff] at e2
                      obtain ⟨y, hy, rfl⟩ := e2
                      exact h5 i p y e1 (by simpa using hy)
                    · rintro e w' ⟨v, S', rfl, h6, h7, h8⟩
                      exact hK _ _ _ _ _ h3 (hs.called h7 h8 hd (RR.av (W := { W with S := S' }) h6))
                  · cases hpo
                · cases hpo
              · cases hpo
            all_goals first
              | (cases hpo; done)
              | ((repeat' split at hpo) <;> (first | (cases hpo; done) | (simp only [Option.map_eq_some_iff] at hpo; obtain ⟨_, _, h⟩ := hpo; cases h)))
              | (simp only [Option.map_eq_some_iff] at hpo; obtain ⟨_, _, h⟩ := hpo; cases h)
          | _ => cases hcall
      unfold wpOp
      simp only [hi]
      split at hc
      · rename_i hg
        cases hc
        have hw : Region.wanted o (yielded ops a.tmps) = true := by simp [Region.wanted, hg]
        rw [if_pos hw]
        exact .inl (op K hK hgo)
      · rename_i g want hg
        split at hc
        · rename_i t ht
          cases hc
          obtain ⟨b, hb, h1, h2⟩ := withSome_iff.1 hgo
          have hslot : a.tmps.getD t undef = .bool b := by
            have := boo_ev hs (xo := .tmp t) (x := .t t) rfl hb
            simpa [Act.eval] using this
          have hy : yielded ops a.tmps g = some b := by
            unfold yielded
            rw [ht]
            simp only [Option.bind_some]
            cases hq : a.tmps[t]? with
            | none => simp [hq, undef] at hslot
            | some u => simp [hq] at hslot; rw [hslot]
          by_cases hbw : b = want
          · have hw : Region.wanted o (yielded ops a.tmps) = true := by simp [Region.wanted, hg, hy, hbw]
            rw [if_pos hw]
            exact .inl (op K hK (h1 hbw))
          · have hw : Region.wanted o (yielded ops a.tmps) = false := by simp [Region.wanted, hg, hy, hbw]
            rw [if_neg (by rw [hw]; decide)]
            exact hK _ _ _ _ _ (h2 (by cases b <;> cases want <;> simp_all)) (hs.put hd trivial)
        · cases hc
    · cases hc
  · cases hc
end
end Go.Proofs.Ytkdagjlkejefnaa
