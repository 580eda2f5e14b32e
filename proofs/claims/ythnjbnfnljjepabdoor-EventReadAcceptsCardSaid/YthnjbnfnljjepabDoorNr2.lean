/- Calls, regions in the order of the text, whole codes, functions. -/
import Derived.Test.YthnjbnfnljjepabDoorNr1
import Derived.IntWalk
import Derived.Shelf.Strings.Builder1
import Derived.Shelf.Strings.Builder2
import Derived.Shelf.Strings.OnBuilder
import Derived.Shelf.Small.Wraps
import Derived.Shelf.Strconv.Atoi
import Derived.Shelf.Strconv.Itoa0
import Derived.Shelf.Strconv.Itoa1
import Derived.Shelf.LaysM
import Derived.Shelf.Strconv.Itoa2
import Derived.Shelf.Strconv.Itoa3
import Derived.Shelf.Strconv.AtoiErrFast
import Derived.Shelf.Strconv.ParseIntEmpty
import Derived.Shelf.Strconv.AtoiFail
import Derived.Shelf.Strconv.Clone
import Derived.Shelf.Strconv.SyntaxError
import Derived.Shelf.LaysC
import Derived.Shelf.Strconv.ToError
import Derived.Shelf.Strconv.Lower
import Derived.Shelf.Strconv.ParseUint10
import Derived.Shelf.Strconv.ParseUint10Empty
import Derived.Shelf.Strconv.ParseUint10Any
import Derived.Shelf.Strconv.ParseInt10
import Derived.Shelf.Strconv.AtoiLong
import Derived.Shelf.Strconv.AtoiInnerAll
import Derived.Shelf.Strconv.RangeError
import Derived.Shelf.Strconv.ToErrorRange
import Derived.Shelf.Strconv.AtoiAll
import Derived.Shelf.Strconv.ErrVarAll
import Derived.Shelf.Strings.Search1
import Derived.Shelf.Strings.Search2
import Derived.Shelf.Strings.Search3
import Derived.Shelf.Strings.Cut
import Derived.Shelf.Strings.Count
import Derived.Shelf.Strings.Shaped
import Derived.Shelf.Strings.Prefix
import Derived.Shelf.Strings.Split
import Derived.Shelf.Unicode.DecodeSlow
import Derived.Test.YthnjbnfnljjepabDoorProg
section
set_option linter.unusedSimpArgs false
set_option linter.unusedVariables false
namespace Go.Proofs.YthnjbnfnljjepabDoor
open Go Go.RowKit

/-- data handed over -/
def RP (S : Nat → Nat) (w : World) : Pa → Value → Prop
  | .one x, v => RD S w x v
  | .agg xs, v => ∃ arr : Array Value, v = .agg arr ∧ xs.length = arr.size ∧ ∀ (i : Nat) x u, xs[i]? = some x → arr[i]? = some u → RD S w x u
def RPs (S : Nat → Nat) (w : World) (ps : List Pa) (vs : Array Value) : Prop := ps.length = vs.size ∧ ∀ (i : Nat) p u, ps[i]? = some p → vs[i]? = some u → RP S w p u
/-- results: none, one, several -/
def RR (S : Nat → Nat) (w : World) : List Pa → Value → Prop
  | [], _ => True
  | [p], v => RP S w p v
  | ps, v => ∃ vs : Array Value, v = .tuple vs ∧ RPs S w ps vs

/-- what is known of the world at every call: it stays where the old blocks stay -/
class WInv where
  p : World → Prop
  keep : ∀ w w' : World, Below w.heap.size w w' → p w → p w'

/-- what function f does with data: R arguments results -/
def Spec [I : WInv] (P : Program) (f : Nat) (R : List Pa → List Pa → Prop) : Prop :=
  ∀ az rs, R az rs → ∀ (S : Nat → Nat) (w : World) (vals : Array Value), I.p w → RPs S w az vals →
    Calls P f vals w fun e w' => ∃ v S', e = .returned v ∧ RR S' w' rs v ∧ Below w.heap.size w w' ∧ ∀ b, b < w.heap.size → S' b = S b
/-- an object that is made comes first -/
def RN (S : Nat → Nat) (w : World) (adr : Value) : List Pa → Value → Prop
  | [], v => v = adr
  | rs, v => ∃ vs : Array Value, v = .tuple (#[adr] ++ vs) ∧ RPs S w rs vs
/-- what function f does with an object of another maker, or which it makes -/
def SpecA [I : WInv] (P : Program) (f : Nat) (R : Option HP → List Pa → HP → List Pa → Prop) : Prop :=
  ∀ Ho az H' rs, R Ho az H' rs → ∀ (S : Nat → Nat) (w : World) (vals : Array Value), I.p w → RPs S w az vals → match Ho with
    | some H => ∀ v fp, H.r w v fp → (∀ b, fp b → S b = 0) → Calls P f (#[v] ++ vals) w fun e w' => ∃ u S' fp', e = .returned u ∧ RR S' w' rs u ∧ H'.r w' v fp' ∧ ButF fp w w' ∧ (∀ b, fp' b → (fp b ∨ w.heap.size ≤ b) ∧ S' b = 0) ∧ ∀ b, b < w.heap.size → S' b = S b
    | none => Calls P f vals w fun e w' => ∃ u S' adr fp', e = .returned u ∧ RN S' w' adr rs u ∧ adr.oneCell' = true ∧ H'.r w' adr fp' ∧ Below w.heap.size w w' ∧ (∀ b, fp' b → w.heap.size ≤ b ∧ S' b = 0) ∧ ∀ b, b < w.heap.size → S' b = S b
def SpecC [I : WInv] (P : Program) (f : Nat) (R : HP → HP → Prop) : Prop :=
  ∀ H H2, R H H2 → ∀ (w : World) (v : Value) (fp : Nat → Prop), I.p w → H.r w v fp → Calls P f #[v] w fun e w' => ∃ adr fp', e = .returned adr ∧ adr.oneCell' = true ∧ H2.r w' adr fp' ∧ Below w.heap.size w w' ∧ ∀ b, fp' b → w.heap.size ≤ b
/-- the cells of an object as data -/
def RDs (S : Nat → Nat) (w : World) (ds : List Dt) (vs : List Value) : Prop := ds.length = vs.length ∧ ∀ (i : Nat) x u, ds[i]? = some x → vs[i]? = some u → RD S w x u
/-- what function f does with an object that is handed over by address -/
def SpecM [I : WInv] (P : Program) (f : Nat) (R : List Dt → List Pa → List Dt → List Pa → Prop) : Prop :=
  ∀ ds az ds' rs, R ds az ds' rs → ∀ (S : Nat → Nat) (w : World) (b : Nat) (arr : Array Value) (T : TypeId) (vals : Array Value), (∀ w', ButF (· = b) w w' → I.p w') → w.heap[b]? = some (.cells arr T (0, 0)) → S b = 0 → RDs S w ds arr.toList → RPs S w az vals →
    Calls P f (#[.pointer (some ⟨b, 0, none⟩)] ++ vals) w fun e w' => ∃ u S' arr' T', e = .returned u ∧ RR S' w' rs u ∧ w'.heap[b]? = some (.cells arr' T' (0, 0)) ∧ RDs S' w' ds' arr'.toList ∧ S' b = 0 ∧ ButF (· = b) w w' ∧ ∀ k, k < w.heap.size → S' k = S k
structure EnvOK [WInv] (P : Program) (env : Env) : Prop where
  d : ∀ f, Spec P f (env.d f)
  a : ∀ f, SpecA P f (env.a f)
  c : ∀ f, SpecC P f (env.c f)
  t : ∀ g k v, env.t g k = some v → v.oneCell' = true ∧ ∀ w, WInv.p w → w.cell? ⟨g, k, none⟩ = some v
  m : ∀ f, SpecM P f (env.m f)

def e0 : Env := ⟨fun _ _ _ => False, fun _ _ _ _ _ => False, fun _ _ _ => False, fun _ _ => none, fun _ _ _ _ _ => False⟩
def e1 (g : Nat) (R : List Pa → List Pa → Prop) (rest : Env) : Env := ⟨fun f az rs => if f = g then R az rs else rest.d f az rs, rest.a, rest.c, rest.t, rest.m⟩
def a1 (g : Nat) (R : Option HP → List Pa → HP → List Pa → Prop) (rest : Env) : Env := ⟨rest.d, fun f Ho az H rs => if f = g then R Ho az H rs else rest.a f Ho az H rs, rest.c, rest.t, rest.m⟩
def c1 (g : Nat) (R : HP → HP → Prop) (rest : Env) : Env := ⟨rest.d, rest.a, fun f H H2 => if f = g then R H H2 else rest.c f H H2, rest.t, rest.m⟩
/-- the cells of a table: block g holds vs -/
def t1 (g : Nat) (vs : List Value) (rest : Env) : Env := ⟨rest.d, rest.a, rest.c, fun h k => if h = g then vs[k]? else rest.t h k, rest.m⟩
def m1 (g : Nat) (R : List Dt → List Pa → List Dt → List Pa → Prop) (rest : Env) : Env := ⟨rest.d, rest.a, rest.c, rest.t, fun f ds az ds' rs => if f = g then R ds az ds' rs else rest.m f ds az ds' rs⟩
theorem EnvOK.e0 [WInv] {P : Program} : EnvOK P e0 := ⟨fun _ _ _ h => h.elim, fun _ _ _ _ _ h => h.elim, fun _ _ _ h => h.elim, fun _ _ _ h => (by cases h), fun _ _ _ _ _ h => h.elim⟩
theorem EnvOK.e1 [WInv] {P : Program} {g : Nat} {R : List Pa → List Pa → Prop} {rest : Env} (h : Spec P g R) (hr : EnvOK P rest) : EnvOK P (e1 g R rest) := by
  refine ⟨fun f az rs hR => ?_, hr.a, hr.c, hr.t, hr.m⟩
  unfold Go.Proofs.YthnjbnfnljjepabDoor.e1 at hR
  dsimp only at hR
  split at hR
  · rename_i he; subst he; exact h az rs hR
  · exact hr.d f az rs hR
theorem EnvOK.a1 [WInv] {P : Program} {g : Nat} {R : Option HP → List Pa → HP → List Pa → Prop} {rest : Env} (h : SpecA P g R) (hr : EnvOK P rest) : EnvOK P (a1 g R rest) := by
  refine ⟨hr.d, fun f Ho az H rs hR => ?_, hr.c, hr.t, hr.m⟩
  unfold Go.Proofs.YthnjbnfnljjepabDoor.a1 at hR
  dsimp only at hR
  split at hR
  · rename_i he; subst he; exact h Ho az H rs hR
  · exact hr.a f Ho az H rs hR
theorem EnvOK.m1 [WInv] {P : Program} {g : Nat} {R : List Dt → List Pa → List Dt → List Pa → Prop} {rest : Env} (h : SpecM P g R) (hr : EnvOK P rest) : EnvOK P (m1 g R rest) := by
  refine ⟨hr.d, hr.a, hr.c, hr.t, fun f ds az ds' rs hR => ?_⟩
  unfold Go.Proofs.YthnjbnfnljjepabDoor.m1 at hR
  dsimp only at hR
  split at hR
  · rename_i he; subst he; exact h ds az ds' rs hR
  · exact hr.m f ds az ds' rs hR
theorem EnvOK.c1 [WInv] {P : Program} {g : Nat} {R : HP → HP → Prop} {rest : Env} (h : SpecC P g R) (hr : EnvOK P rest) : EnvOK P (c1 g R rest) := by
  refine ⟨hr.d, hr.a, fun f H H2 hR => ?_, hr.t, hr.m⟩
  unfold Go.Proofs.YthnjbnfnljjepabDoor.c1 at hR
  dsimp only at hR
  split at hR
  · rename_i he; subst he; exact h H H2 hR
  · exact hr.c f H H2 hR

def dstOk (n : Nat) : Option Nat → Bool
  | some d => decide (d < n)
  | none => true
theorem dstOk_lt {n : Nat} {x : Option Nat} (h : dstOk n x = true) : ∀ d, x = some d → d < n := by
  rintro d rfl
  simpa [dstOk] using h

theorem EnvOK.t1 [WInv] {P : Program} {g : Nat} {vs : List Value} {rest : Env} (h1 : ∀ v, v ∈ vs → v.oneCell' = true) (h : ∀ w, WInv.p w → ∀ k v, vs[k]? = some v → w.cell? ⟨g, k, none⟩ = some v) (hr : EnvOK P rest) : EnvOK P (t1 g vs rest) := by
  refine ⟨hr.d, hr.a, hr.c, fun b k v hv => ?_, hr.m⟩
  unfold Go.Proofs.YthnjbnfnljjepabDoor.t1 at hv
  dsimp only at hv
  split at hv
  · rename_i he; subst he; exact ⟨h1 v (List.mem_of_getElem? hv), fun w hw => h w hw k v hv⟩
  · exact hr.t b k v hv

def isGix : Op → Bool
  | .indexAddr _ (.global _) _ => true
  | _ => false
/-- operations on tables and on values of functions -/
def compX (P : Program) (eqs : List (Nat × List Bool)) (ops : Array Oper) (o : Oper) : Option PO := match o.op with
  | .load t (.tmp x) => match szT P t with
    | some none => if (ops.toList.any fun j => j.dst == some x && isGix j.op) = true then some (.ldg (.t x)) else none
    | _ => none
  | .indexAddr t (.global g) i => match P.underlying t, cX i with
    | some (.array ln e), some i => (P.info? e).map fun ei => .ixg ln ei.size g i
    | _, _ => none
  | .assign (.func f) => some (.mv (.v (.func (.func f) #[] #[])))
  | .call c => match c.callee with
    | .value (.tmp t) => match eqs.lookup (1048576 + t) with
      | some l => match P.funcs[l.length]? with
        | some fn => if fn.name ≠ "runtime.NumGoroutine" ∧ fn.body.isSome = true then (allSome (c.args.toList.map cX)).map (.callv (.t t) l.length) else none
        | none => none
      | none => none
    | _ => none
  | _ => none
def compO (P : Program) (eqs : List (Nat × List Bool)) (ops : Array Oper) (o : Oper) : Option PO := match compX P eqs ops o with
  | some po => some po
  | none => compOp P eqs o
def compI (P : Program) (n : Nat) (eqs : List (Nat × List Bool)) (ops : Array Oper) (o : Oper) : Option PI :=
  match compO P eqs ops o with
  | some po => if dstOk n o.dst = true then
      match o.guard with
      | none => some { dst := o.dst, op := po, guard := none, after := o.after.toList.filterMap fun e => if Region.binds .any e = true then some e.on else none }
      | some (g, want) => match (ops[g]?).bind (·.dst) with
        | some t => some { dst := o.dst, op := po, guard := some (t, want), after := o.after.toList.filterMap fun e => if Region.binds .any e = true then some e.on else none }
        | none => none
    else none
  | none => none

def compC (P : Program) (n : Nat) (eqs : List (Nat × List Bool)) : Code → Option PC
  | .skip => some .skip
  | .region _ ops draw => (allSome (ops.toList.map (compI P n eqs ops))).map (.reg draw)
  | .seq a b => match compC P n eqs a, compC P n eqs b with
    | some a, some b => some (.seq a b)
    | _, _ => none
  | .cond c a b => match cX c, compC P n eqs a, compC P n eqs b with
    | some c, some a, some b => some (.cond c a b)
    | _, _, _ => none
  | .block id c => (compC P n eqs c).map (.block id)
  | .loop c => (compC P n eqs c).map .loop
  | .exit id => some (.exit id)
  | .ret => some .ret
  | _ => none

section
variable {P : Program} {n : Nat} {w0 : World} {S0 : Nat → Nat} {W : Wit} {s : St} {a : Act} {w : World}

theorem RA.pa {G : Nat → Nat} {O : Nat → Ob} {v : Av} {p : Pa} {u : Value} (h : RA W G O w v u) (hp : v.pa = some p) : RP W.S w p u := by
  cases v with
  | un => cases hp
  | tup xs => cases hp
  | b x =>
    cases x with
    | one c =>
      simp only [Av.pa, Bv.pa, Option.map_eq_some_iff] at hp
      obtain ⟨y, hy, rfl⟩ := hp
      exact RC.dt h hy
    | agg cs =>
      simp only [Av.pa, Bv.pa, Option.map_eq_some_iff] at hp
      obtain ⟨ys, hy, rfl⟩ := hp
      obtain ⟨arr, h1, h2, h3⟩ := h
      have h4 := allSome_get _ _ hy
      refine ⟨arr, h1, ?_, fun i x u' h5 h6 => ?_⟩
      · have := congrArg List.length h4; simp at this h2; omega
      · have h7 := congrArg (·[i]?) h4
        simp only [List.getElem?_map, h5, Option.map_some] at h7
        cases hc : cs[i]? with
        | none => rw [hc] at h7; simp at h7
        | some c =>
          rw [hc] at h7
          simp at h7
          exact RC.dt (h3 i c u' hc (by simpa using h6)) h7

theorem RP.av {G : Nat → Nat} {O : Nat → Ob} {p : Pa} {u : Value} (h : RP W.S w p u) : RB W G O w p.bv u := by
  cases p with
  | one x => exact h
  | agg xs =>
    obtain ⟨arr, h1, h2, h3⟩ := h
    refine ⟨arr, h1, by simp [h2], fun i c u' h4 h5 => ?_⟩
    simp only [List.getElem?_map, Option.map_eq_some_iff] at h4
    obtain ⟨x, hx, rfl⟩ := h4
    exact h3 i x u' hx (by simpa using h5)
theorem RR.av {G : Nat → Nat} {O : Nat → Ob} {ps : List Pa} {u : Value} (h : RR W.S w ps u) : RA W G O w (resAv ps) u := by
  match ps with
  | [] => trivial
  | [p] => exact RP.av h
  | p :: q :: r =>
    obtain ⟨vs, h1, h2, h3⟩ := h
    refine ⟨vs, h1, by simpa using h2, fun i x u' h4 h5 => ?_⟩
    have h4' : ((p :: q :: r).map Pa.bv)[i]? = some x := h4
    rw [List.getElem?_map, Option.map_eq_some_iff] at h4'
    obtain ⟨y, hy, rfl⟩ := h4'
    exact RP.av (h3 i y u' hy h5)

/-- a callee has made new blocks -/
theorem Sim.called [Bor] (hs : Sim w0 S0 n W s a w) {S' : Nat → Nat} {w' : World} (hb : Below w.heap.size w w') (hS : ∀ b, b < w.heap.size → S' b = W.S b) {dst : Option Nat} (hd : ∀ d, dst = some d → d < n) {v : Av} {rv : Value}
    (hv : RA { W with S := S' } s.gen s.ob w' v rv) : Sim w0 S0 n { W with S := S' } (s.ap dst v .no) (a.put dst rv) w' := by
  have hfol : Fol W s.gen s.ob w { W with S := S' } s.gen s.ob w' := by
    refine ⟨fun b i h1 h2 => ?_, fun _ => Nat.le_refl _, fun _ _ => rfl, fun o E sz k _ ho => ⟨k, ho, Nat.le_refl _, fun _ => rfl⟩, fun _ _ => rfl⟩
    have hlt : b < w.heap.size := by
      cases hcell : w.cell? ⟨b, i, none⟩ with
      | none => rw [hcell] at h2; cases h2
      | some y =>
        rcases Nat.lt_or_ge b w.heap.size with h | h
        · exact h
        · simp [World.cell?, Array.getElem?_eq_none h] at hcell
    exact ⟨by show i < S' b; rw [hS b hlt]; exact h1, by simp [World.cell?, hb.block b hlt]⟩
  refine hs.step hd hfol (.of (hb.mono hs.below.size)) (fun b hb2 => hS b (Nat.lt_of_lt_of_le hb2 hs.below.size)) hv (fun o => ?_) hs.ex
  exact RO.fol hfol (hs.ob o) rfl rfl rfl (fun b hb2 => ⟨hb.block b (cl_lt hs hb2).2, hS b (cl_lt hs hb2).2⟩)

theorem cell_lt {w : World} {b i : Nat} (h : (w.cell? ⟨b, i, none⟩).isSome = true) : b < w.heap.size := by
  cases hcell : w.cell? ⟨b, i, none⟩ with
  | none => rw [hcell] at h; cases h
  | some y =>
    rcases Nat.lt_or_ge b w.heap.size with h | h
    · exact h
    · simp [World.cell?, Array.getElem?_eq_none h] at hcell
/-- a method has turned its object -/
theorem Sim.meth [Bor] (hs : Sim w0 S0 n W s a w) {o : Nat} {H H' : HP} (ho : s.ob o = .ab H) {S' : Nat → Nat} {fp' : Nat → Prop} {w' : World} (hb : ButF (W.fp o) w w') (hr : H'.r w' (W.adr o) fp') (hfp : ∀ b, fp' b → (W.fp o b ∨ w.heap.size ≤ b) ∧ S' b = 0)
    (hS : ∀ b, b < w.heap.size → S' b = W.S b) {dst : Option Nat} (hd : ∀ d, dst = some d → d < n) {v : Av} {rv : Value} (hv : RA { W with S := S', fp := up W.fp o fp' } s.gen (up s.ob o (.ab H')) w' v rv) :
    Sim w0 S0 n { W with S := S', fp := up W.fp o fp' } (s.ap dst v (.ab o H')) (a.put dst rv) w' := by
  have hro := hs.ob o
  rw [ho] at hro
  obtain ⟨_, hfo⟩ := hro
  have hbs := hs.below.size
  have hclf : ∀ b, W.fp o b → cl W o (s.ob o) b := fun b h => by rw [ho]; exact h
  have hfol : Fol W s.gen s.ob w { W with S := S', fp := up W.fp o fp' } s.gen (up s.ob o (.ab H')) w' := by
    refine ⟨fun b i h1 h2 => ?_, fun _ => Nat.le_refl _, fun _ _ => rfl, fun o' E sz k _ hk => ?_, fun _ _ => rfl⟩
    · have hlt := cell_lt h2
      have hnf : ¬ W.fp o b := fun h => by rw [(hfo b h).2] at h1; omega
      exact ⟨by show i < S' b; rw [hS b hlt]; exact h1, by simp [World.cell?, hb.block b hlt hnf]⟩
    · rw [up_at] at hk
      split at hk
      · cases hk
      · exact ⟨k, hk, Nat.le_refl _, fun _ => rfl⟩
  refine hs.step hd hfol ⟨hb.os, hb.tape, hb.output, hb.size, fun b hb2 _ => hb.block b (by omega) (fun h => by have := (hfo b h).1; omega)⟩ (fun b hb2 => hS b (by omega)) hv (fun o' => ?_) (fun o1 o2 b h1 h2 => ?_)
  · show RO _ _ _ _ _ _ (up s.ob o (.ab H') o')
    rw [up_at]
    split
    · rename_i he
      subst he
      refine ⟨?_, fun b hb2 => ?_⟩
      · show H'.r w' (W.adr o') (up W.fp o' fp' o')
        rw [up_at, if_pos rfl]; exact hr
      · have hb3 : up W.fp o' fp' o' b := hb2
        rw [up_at, if_pos rfl] at hb3
        obtain ⟨h3, h4⟩ := hfp b hb3
        exact ⟨h3.elim (fun h => (hfo b h).1) (fun h => by omega), h4⟩
    · rename_i he
      refine RO.fol hfol (hs.ob o') rfl rfl (by show up W.fp o fp' o' = _; rw [up_at, if_neg he]) (fun b hb2 => ?_)
      have hlt := (cl_lt hs hb2).2
      exact ⟨hb.block b hlt (fun h => he (hs.ex _ _ _ hb2 (hclf b h))), hS b hlt⟩
  · have claim : ∀ o' b, cl { W with S := S', fp := up W.fp o fp' } o' ((s.ap dst v (.ab o H')).ob o') b → (o' = o ∧ fp' b) ∨ (o' ≠ o ∧ cl W o' (s.ob o') b) := fun o' b h => by
      have h' : cl { W with S := S', fp := up W.fp o fp' } o' (up s.ob o (.ab H') o') b := h
      rw [up_at] at h'
      by_cases he : o' = o
      · rw [if_pos he] at h'
        subst he
        have h2 : up W.fp o' fp' o' b := h'
        rw [up_at, if_pos rfl] at h2
        exact .inl ⟨rfl, h2⟩
      · rw [if_neg he] at h'
        refine .inr ⟨he, ?_⟩
        generalize s.ob o' = y at h' ⊢
        cases y with
        | no => exact h'
        | cells cs => exact h'
        | row E sz m => exact h'
        | ab H2 => have h2 : up W.fp o fp' o' b := h'; rw [up_at, if_neg he] at h2; exact h2
    rcases claim o1 b h1 with ⟨e1, g1⟩ | ⟨n1, g1⟩ <;> rcases claim o2 b h2 with ⟨e2, g2⟩ | ⟨n2, g2⟩
    · rw [e1, e2]
    · have hlt := (cl_lt hs g2).2
      rcases (hfp b g1).1 with h | h
      · exact absurd (hs.ex _ _ _ g2 (hclf b h)) n2
      · omega
    · have hlt := (cl_lt hs g1).2
      rcases (hfp b g2).1 with h | h
      · exact absurd (hs.ex _ _ _ g1 (hclf b h)) n1
      · omega
    · exact hs.ex _ _ _ g1 g2
/-- a callee has turned the cells of an object -/
theorem Sim.mut [Bor] (hs : Sim w0 S0 n W s a w) {o : Nat} {cs : List Cl} (ho : s.ob o = .cells cs) {S' : Nat → Nat} {w' : World} {ds' : List Dt} {arr' : Array Value} {T' : TypeId} (hb : ButF (· = W.blk o) w w') (hr : w'.heap[W.blk o]? = some (.cells arr' T' (0, 0))) (hds : RDs S' w' ds' arr'.toList) (hl : ds'.length = cs.length)
    (h0 : S' (W.blk o) = 0) (hS : ∀ b, b < w.heap.size → S' b = W.S b) {dst : Option Nat} (hd : ∀ d, dst = some d → d < n) {v : Av} {rv : Value} (hv : RA { W with S := S' } s.gen (up s.ob o (.cells (ds'.map .d))) w' v rv) :
    Sim w0 S0 n { W with S := S' } (s.ap dst v (.wr o 0 (ds'.map .d))) (a.put dst rv) w' := by
  have hro := hs.ob o
  rw [ho] at hro
  obtain ⟨arr, T, g1, g2, g3, g4⟩ := hro
  have hbs := hs.below.size
  have hap : (s.ap dst v (.wr o 0 (ds'.map .d))).ob = up s.ob o (.cells (ds'.map .d)) := by
    show up s.ob o _ = _
    rw [ho]
    show up s.ob o (.cells (wrAt cs 0 (ds'.map .d))) = _
    have key : ∀ (cs ds : List Cl), cs.length = ds.length → wrAt cs 0 ds = ds := fun cs => by
      induction cs with
      | nil => intro ds h; cases ds with
        | nil => rfl
        | cons d ds => simp at h
      | cons c cs ih => intro ds h; cases ds with
        | nil => simp at h
        | cons d ds => show d :: wrAt cs 0 ds = _; rw [ih ds (by simpa using h)]
    rw [key _ _ (by rw [List.length_map]; exact hl.symm)]
  have hfol : Fol W s.gen s.ob w { W with S := S' } s.gen (up s.ob o (.cells (ds'.map .d))) w' := by
    refine ⟨fun b i h1 h2 => ?_, fun _ => Nat.le_refl _, fun _ _ => rfl, fun o' E sz k _ hk => ?_, fun _ _ => rfl⟩
    · have hlt := cell_lt h2
      have hne : b ≠ W.blk o := by rintro rfl; rw [g3] at h1; omega
      exact ⟨by show i < S' b; rw [hS b hlt]; exact h1, by simp [World.cell?, hb.block b hlt hne]⟩
    · rw [up_at] at hk
      split at hk
      · cases hk
      · exact ⟨k, hk, Nat.le_refl _, fun _ => rfl⟩
  have hclo : cl W o (s.ob o) (W.blk o) := by rw [ho]; rfl
  refine hs.step hd (by rw [hap]; exact hfol) ⟨hb.os, hb.tape, hb.output, hb.size, fun b hb2 hnf => hb.block b (by omega) (fun e => by subst e; exact g2.elim (fun h => by omega) hnf)⟩ (fun b hb2 => hS b (by omega)) (by rw [hap]; exact hv) (fun o' => ?_) (fun o1 o2 b h1 h2 => ?_)
  · rw [hap]
    show RO _ _ _ _ _ _ (up s.ob o (.cells (ds'.map .d)) o')
    rw [up_at]
    split
    · rename_i he
      subst he
      refine ⟨arr', T', hr, g2, h0, ?_⟩
      refine ⟨by rw [List.length_map]; exact hds.1, fun i c u e1 e2 => ?_⟩
      rw [List.getElem?_map, Option.map_eq_some_iff] at e1
      obtain ⟨x, hx, rfl⟩ := e1
      exact hds.2 i x u hx e2
    · rename_i he
      refine RO.fol hfol (hs.ob o') rfl rfl rfl (fun b hb2 => ?_)
      have hlt := (cl_lt hs hb2).2
      exact ⟨hb.block b hlt (fun e => he (by subst e; exact hs.ex _ _ _ hb2 hclo)), hS b hlt⟩
  · have claim : ∀ o' b, cl { W with S := S' } o' ((s.ap dst v (.wr o 0 (ds'.map .d))).ob o') b → cl W o' (s.ob o') b := fun o' b h => by
      rw [hap] at h
      have h' : cl { W with S := S' } o' (up s.ob o (.cells (ds'.map .d)) o') b := h
      rw [up_at] at h'
      by_cases he : o' = o
      · rw [if_pos he] at h'
        subst he
        rw [ho]; exact h'
      · rw [if_neg he] at h'
        generalize s.ob o' = y at h' ⊢
        cases y with
        | no => exact h'
        | cells cs => exact h'
        | row E sz m => exact h'
        | ab H2 => exact h'
    exact hs.ex _ _ _ (claim o1 b h1) (claim o2 b h2)
/-- a callee has made an object -/
theorem Sim.made [Bor] (hs : Sim w0 S0 n W s a w) {d : Nat} {H' : HP} {S' : Nat → Nat} {adr : Value} {fp' : Nat → Prop} {w' : World} (hb : Below w.heap.size w w') (hr : H'.r w' adr fp') (hfp : ∀ b, fp' b → w.heap.size ≤ b ∧ S' b = 0)
    (hS : ∀ b, b < w.heap.size → S' b = W.S b) {dst : Option Nat} (hd : ∀ d, dst = some d → d < n) {v : Av} {rv : Value} (hv : RA { W with S := S', adr := up W.adr d adr, fp := up W.fp d fp' } (up s.gen d (s.gen d + 1)) (up s.ob d (.ab H')) w' v rv) :
    Sim w0 S0 n { W with S := S', adr := up W.adr d adr, fp := up W.fp d fp' } (s.ap dst v (.new d (.ab H'))) (a.put dst rv) w' := by
  have hbs := hs.below.size
  have hfol : Fol W s.gen s.ob w { W with S := S', adr := up W.adr d adr, fp := up W.fp d fp' } (up s.gen d (s.gen d + 1)) (up s.ob d (.ab H')) w' := by
    refine ⟨fun b i h1 h2 => ?_, fun o' => ?_, fun o' h => rfl, fun o' E sz n' h h2 => ?_, fun o' h => ?_⟩
    · have hlt := cell_lt h2
      exact ⟨by show i < S' b; rw [hS b hlt]; exact h1, by simp [World.cell?, hb.block b hlt]⟩
    · rw [up_at]; split <;> (try omega)
      rename_i h; rw [h]; omega
    · have : o' ≠ d := by rintro rfl; rw [up_at, if_pos rfl] at h; omega
      rw [up_at, if_neg this] at h2
      exact ⟨n', h2, Nat.le_refl _, fun _ => rfl⟩
    · have : o' ≠ d := by rintro rfl; rw [up_at, if_pos rfl] at h; omega
      show up W.adr d adr o' = _
      rw [up_at, if_neg this]
  refine hs.step hd hfol (.of (hb.mono hs.below.size)) (fun b hb2 => hS b (by omega)) hv (fun o' => ?_) (fun o1 o2 b h1 h2 => ?_)
  · show RO _ _ _ _ _ _ (up s.ob d (.ab H') o')
    rw [up_at]
    split
    · rename_i he
      subst he
      refine ⟨?_, fun b hb2 => ?_⟩
      · show H'.r w' (up W.adr o' adr o') (up W.fp o' fp' o')
        rw [up_at, if_pos rfl, up_at, if_pos rfl]; exact hr
      · have hb3 : up W.fp o' fp' o' b := hb2
        rw [up_at, if_pos rfl] at hb3
        obtain ⟨h3, h4⟩ := hfp b hb3
        exact ⟨by omega, h4⟩
    · rename_i he
      refine RO.fol hfol (hs.ob o') (by rw [up_at, if_neg he]) rfl (by show up W.fp d fp' o' = _; rw [up_at, if_neg he]) (fun b hb2 => ?_)
      have hlt := (cl_lt hs hb2).2
      exact ⟨hb.block b hlt, hS b hlt⟩
  · have claim : ∀ o' b, cl { W with S := S', adr := up W.adr d adr, fp := up W.fp d fp' } o' ((s.ap dst v (.new d (.ab H'))).ob o') b → (o' = d ∧ w.heap.size ≤ b) ∨ (o' ≠ d ∧ cl W o' (s.ob o') b ∧ b < w.heap.size) := fun o' b h => by
      have h' : cl { W with S := S', adr := up W.adr d adr, fp := up W.fp d fp' } o' (up s.ob d (.ab H') o') b := h
      rw [up_at] at h'
      by_cases he : o' = d
      · rw [if_pos he] at h'
        subst he
        have h2 : up W.fp o' fp' o' b := h'
        rw [up_at, if_pos rfl] at h2
        exact .inl ⟨rfl, (hfp b h2).1⟩
      · rw [if_neg he] at h'
        have : cl W o' (s.ob o') b := by
          generalize s.ob o' = y at h' ⊢
          cases y with
          | no => exact h'
          | cells cs => exact h'
          | row E sz m => exact h'
          | ab H2 => have h2 : up W.fp d fp' o' b := h'; rw [up_at, if_neg he] at h2; exact h2
        exact .inr ⟨he, this, (cl_lt hs this).2⟩
    rcases claim o1 b h1 with ⟨e1, g1⟩ | ⟨n1, g1, l1⟩ <;> rcases claim o2 b h2 with ⟨e2, g2⟩ | ⟨n2, g2, l2⟩
    · rw [e1, e2]
    · omega
    · omega
    · exact hs.ex _ _ _ g1 g2
theorem RN.av {G : Nat → Nat} {O : Nat → Ob} {d : Nat} {adr : Value} {S' : Nat → Nat} {fp' : Nat → Prop} (h1c : adr.oneCell' = true) {ps : List Pa} {u : Value} (h : RN S' w adr ps u) : RA { W with S := S', adr := up W.adr d adr, fp := up W.fp d fp' } (up G d (G d + 1)) O w (newAv d (G d + 1) ps) u := by
  have hab : RC { W with S := S', adr := up W.adr d adr, fp := up W.fp d fp' } (up G d (G d + 1)) O w (.ab d (G d + 1)) adr := by
    refine ⟨h1c, by rw [up_at, if_pos rfl]; exact Nat.le_refl _, fun _ => ?_⟩
    show adr = up W.adr d adr d
    rw [up_at, if_pos rfl]
  match ps with
  | [] =>
    have h' : u = adr := h
    subst h'
    exact hab
  | p :: q =>
    obtain ⟨vs, h2, h3, h4⟩ := h
    refine ⟨#[adr] ++ vs, h2, by simp at h3 ⊢; omega, fun i x u' h5 h6 => ?_⟩
    cases i with
    | zero =>
      have h6' : some adr = some u' := by rw [← h6, Array.getElem?_append_left (by simp)]; rfl
      simp at h5
      subst h5; cases h6'
      exact hab
    | succ i =>
      have h5' : ((p :: q).map Pa.bv)[i]? = some x := by simpa using h5
      rw [List.getElem?_map, Option.map_eq_some_iff] at h5'
      obtain ⟨y, hy, rfl⟩ := h5'
      have h6' : vs[i]? = some u' := by
        rw [Array.getElem?_append_right (by simp)] at h6
        simpa using h6
      exact RP.av (h4 i y u' hy h6')

theorem recv_ev [Bor] (hs : Sim w0 S0 n W s a w) {y : Operand} {x : PX} (hx : cX y = some x) {o g : Nat} (hr : (s.ev x).abOf = some (o, g)) {H : HP} (hH : s.abAt o g = some H) : a.eval y = W.adr o ∧ s.ob o = .ab H := by
  unfold St.abAt at hH
  split at hH
  · rename_i hg
    split at hH
    · rename_i H2 hob
      cases hH
      refine ⟨?_, hob⟩
      have hev := evX hs hx
      cases hv : s.ev x with
      | un => rw [hv] at hr; cases hr
      | tup ys => rw [hv] at hr; cases hr
      | b z =>
        rw [hv] at hr hev
        cases z with
        | agg cs => cases hr
        | one c =>
          cases c <;> simp only [Av.abOf, Bv.abOf, Cl.abOf] at hr <;> cases hr
          exact hev.2.2 hg.symm
    · cases hH
  · cases hH

theorem prcv_ev [Bor] (hs : Sim w0 S0 n W s a w) {y : Operand} {x : PX} (hx : cX y = some x) {o g : Nat} (hr : (s.ev x).ptrOf = some (o, g)) {ds : List Dt} (hH : s.cellsAt o g = some ds) : a.eval y = .pointer (some ⟨W.blk o, 0, none⟩) ∧ ∃ cs, s.ob o = .cells cs ∧ allSome (cs.map Cl.dt) = some ds := by
  unfold St.cellsAt at hH
  split at hH
  · rename_i hg
    split at hH
    · rename_i cs hob
      split at hH
      case isFalse => cases hH
      refine ⟨?_, cs, hob, hH⟩
      have hev := evX hs hx
      cases hv : s.ev x with
      | un => rw [hv] at hr; cases hr
      | tup ys => rw [hv] at hr; cases hr
      | b z =>
        rw [hv] at hr hev
        cases z with
        | agg cs => cases hr
        | one c =>
          cases c with
          | ptr o2 g2 off2 =>
            simp only [Av.ptrOf, Bv.ptrOf, Cl.ptrOf] at hr
            cases hz : off2 == 0 with
            | false => rw [hz] at hr; cases hr
            | true =>
              rw [hz] at hr
              cases hr
              rw [beq_iff_eq.1 hz] at hev
              exact hev.2.2 hg.symm
          | _ => simp only [Av.ptrOf, Bv.ptrOf, Cl.ptrOf] at hr; cases hr
    · cases hH
  · cases hH
theorem RCs.dts {G : Nat → Nat} {O : Nat → Ob} : ∀ {cs : List Cl} {vs : List Value} {ds : List Dt}, RCs W G O w cs vs → allSome (cs.map Cl.dt) = some ds → RDs W.S w ds vs ∧ ds.length = cs.length
  | [], vs, ds, h, h2 => by
    simp [allSome] at h2; subst h2
    exact ⟨⟨h.1, fun i x u h => by simp at h⟩, rfl⟩
  | c :: cs, vs, ds, h, h2 => by
    cases vs with
    | nil => exact absurd h.1 (by simp)
    | cons v vs =>
      simp only [List.map_cons] at h2
      cases hc : c.dt with
      | none => rw [hc] at h2; simp [allSome] at h2
      | some x =>
        rw [hc] at h2
        simp only [allSome, Option.map_eq_some_iff] at h2
        obtain ⟨ds', h3, rfl⟩ := h2
        obtain ⟨⟨i1, i2⟩, i3⟩ := RCs.dts (cs := cs) (vs := vs) ⟨by simpa using h.1, fun i c u e1 e2 => h.2 (i + 1) c u (by simpa using e1) (by simpa using e2)⟩ h3
        refine ⟨⟨by simp [i1], fun i y u e1 e2 => ?_⟩, by simp [i3]⟩
        cases i with
        | zero => simp at e1 e2; subst e1; subst e2; exact RC.dt (h.2 0 c v rfl rfl) hc
        | succ i => exact i2 i y u (by simpa using e1) (by simpa using e2)

theorem args_ev [Bor] (hs : Sim w0 S0 n W s a w) : ∀ (xo : List Operand) (xs : List PX) (az : List Pa), allSome (xo.map cX) = some xs → s.args xs = some az →
    az.length = xo.length ∧ ∀ (i : Nat) p y, az[i]? = some p → xo[i]? = some y → RP W.S w p (a.eval y) := by
  intro xo
  induction xo with
  | nil =>
    intro xs az h1 h2
    simp [allSome] at h1; subst h1
    simp [St.args, allSome] at h2; subst h2
    exact ⟨rfl, fun i p y h => by simp at h⟩
  | cons y ys ih =>
    intro xs az h1 h2
    simp only [List.map_cons] at h1
    cases hy : cX y with
    | none => rw [hy] at h1; simp [allSome] at h1
    | some x =>
      rw [hy] at h1
      simp only [allSome, Option.map_eq_some_iff] at h1
      obtain ⟨xs', hxs, rfl⟩ := h1
      simp only [St.args, List.map_cons] at h2
      cases hp : (s.ev x).pa with
      | none => rw [hp] at h2; simp [allSome] at h2
      | some p =>
        rw [hp] at h2
        simp only [allSome, Option.map_eq_some_iff] at h2
        obtain ⟨az', has, rfl⟩ := h2
        obtain ⟨h3, h4⟩ := ih xs' az' hxs has
        refine ⟨by simp [h3], fun i q z e1 e2 => ?_⟩
        cases i with
        | zero =>
          simp at e1 e2
          subst e1; subst e2
          exact RA.pa (evX hs hy) hp
        | succ i => exact h4 i q z (by simpa using e1) (by simpa using e2)

/-- a call, however it is reached -/
theorem call_wp [Bor] [I : WInv] {env : Env} (hE : EnvOK P env) (hp : ∀ w, ButB w0.heap.size w0 w → I.p w) {o : Oper} {Q : Exit → Act → World → Prop} (hs : Sim w0 S0 n W s a w) (hd : ∀ d, o.dst = some d → d < n) {c : Call} {f : Nat} {xs : List PX}
    (hrun : (execOp a.eval o).run P w = .ok (.enter f (c.args.map a.eval)) w) (hxs : allSome (c.args.toList.map cX) = some xs)
    {K : Av → Cg → Prop} {K' : Act → World → Prop} (hK : ∀ v ch W' a' w', K v ch → Sim w0 S0 n W' (s.ap o.dst v ch) a' w' → K' a' w') (hg : callG env s (o.dst.getD 0) K f xs (s.recv xs) (s.prcv xs)) : o.wp P a w K' Q := by
  unfold Oper.wp
  rw [hrun]
  have hwi := hp _ hs.below
  have hg' : callG env s (o.dst.getD 0) K f xs (s.recv xs) (s.prcv xs) := hg
  cases hrc : s.recv xs with
  | none =>
   cases hpc : s.prcv xs with
   | none =>
    rw [hrc, hpc] at hg'
    obtain ⟨az, h1, hg'⟩ := withSome_iff.1 hg'
    obtain ⟨h4, h5⟩ := args_ev hs _ _ _ hxs h1
    have hargs : RPs W.S w az (c.args.map a.eval) := ⟨by simpa using h4, fun i p u e1 e2 => by
      rw [Array.getElem?_map, Option.map_eq_some_iff] at e2
      obtain ⟨y, hy, rfl⟩ := e2
      exact h5 i p y e1 (by simpa using hy)⟩
    rcases hg' with ⟨rs, h2, h3⟩ | ⟨H, rs, h2, h3⟩
    · refine (hE.d f az rs h2 W.S w (c.args.map a.eval) hwi hargs).mono ?_
      rintro e w' ⟨v, S', rfl, h6, h7, h8⟩
      exact hK _ _ _ _ _ h3 (hs.called h7 h8 hd (RR.av (W := { W with S := S' }) h6))
    · refine (hE.a f none az H rs h2 W.S w (c.args.map a.eval) hwi hargs).mono ?_
      rintro e w' ⟨u, S', adr, fp', rfl, h6, h7, h8, h9, h10, h11⟩
      exact hK _ _ _ _ _ h3 (hs.made h9 h8 h10 h11 hd (RN.av h7 h6))
   | some og =>
    obtain ⟨ob, gg⟩ := og
    rw [hrc, hpc] at hg'
    obtain ⟨az, h1, hg2⟩ := withSome_iff.1 hg'
    obtain ⟨ds, hds, ds', rs, h2, hdl, h3⟩ := withSome_iff.1 hg2
    cases hcl : c.args.toList with
    | nil =>
      rw [hcl] at hxs
      simp only [List.map_nil, allSome, Option.some.injEq] at hxs
      rw [← hxs] at hpc; cases hpc
    | cons y ys =>
      rw [hcl] at hxs
      simp only [List.map_cons] at hxs
      cases hy : cX y with
      | none => rw [hy] at hxs; simp [allSome] at hxs
      | some x =>
        rw [hy] at hxs
        simp only [allSome, Option.map_eq_some_iff] at hxs
        obtain ⟨xs'', hxs'', rfl⟩ := hxs
        obtain ⟨hadr, cs, hob, hcs⟩ := prcv_ev hs hy hpc hds
        obtain ⟨h4, h5⟩ := args_ev hs ys xs'' az hxs'' h1
        have hvals : c.args.map a.eval = #[.pointer (some ⟨W.blk ob, 0, none⟩)] ++ (ys.map a.eval).toArray := by
          have : c.args = (y :: ys).toArray := by rw [← hcl]
          rw [this]
          simp [hadr]
        have hargs : RPs W.S w az (ys.map a.eval).toArray := ⟨by simpa using h4, fun i p u e1 e2 => by
          simp only [List.getElem?_toArray, List.getElem?_map, Option.map_eq_some_iff] at e2
          obtain ⟨z, hz, rfl⟩ := e2
          exact h5 i p z e1 hz⟩
        have hro := hs.ob ob
        rw [hob] at hro
        obtain ⟨arr, T, g1, g2, g3, g4⟩ := hro
        obtain ⟨hrd, hrl⟩ := RCs.dts g4 hcs
        have hbs := hs.below.size
        rw [hvals]
        refine (hE.m f ds az ds' rs h2 W.S w (W.blk ob) arr T _ (fun w2 hw2 => hp _ (hs.below.trans ⟨hw2.os, hw2.tape, hw2.output, hw2.size, fun k hk hnf => hw2.block k (by omega) (fun e => by subst e; exact g2.elim (fun h => by omega) hnf)⟩)) g1 g3 hrd hargs).mono ?_
        rintro e w' ⟨u, S', arr', T', rfl, h6, h7, h8, h9, h10, h11⟩
        exact hK _ _ _ _ _ h3 (hs.mut hob h10 h7 h8 (by omega) h9 h11 hd (RR.av (W := { W with S := S' }) h6))
  | some og =>
    obtain ⟨ob, gg⟩ := og
    rw [hrc] at hg'
    obtain ⟨az, h1, hg2⟩ := withSome_iff.1 hg'
    obtain ⟨H, hH, hg3⟩ := withSome_iff.1 hg2
    cases hcl : c.args.toList with
    | nil =>
      rw [hcl] at hxs
      simp only [List.map_nil, allSome, Option.some.injEq] at hxs
      rw [← hxs] at hrc; cases hrc
    | cons y ys =>
      rw [hcl] at hxs
      simp only [List.map_cons] at hxs
      cases hy : cX y with
      | none => rw [hy] at hxs; simp [allSome] at hxs
      | some x =>
        rw [hy] at hxs
        simp only [allSome, Option.map_eq_some_iff] at hxs
        obtain ⟨xs'', hxs'', rfl⟩ := hxs
        obtain ⟨hadr, hob⟩ := recv_ev hs hy hrc hH
        obtain ⟨h4, h5⟩ := args_ev hs ys xs'' az hxs'' h1
        have hvals : c.args.map a.eval = #[W.adr ob] ++ (ys.map a.eval).toArray := by
          have : c.args = (y :: ys).toArray := by rw [← hcl]
          rw [this]
          simp [hadr]
        have hargs : RPs W.S w az (ys.map a.eval).toArray := ⟨by simpa using h4, fun i p u e1 e2 => by
          simp only [List.getElem?_toArray, List.getElem?_map, Option.map_eq_some_iff] at e2
          obtain ⟨z, hz, rfl⟩ := e2
          exact h5 i p z e1 hz⟩
        have hro := hs.ob ob
        rw [hob] at hro
        rw [hvals]
        rcases hg3 with ⟨H', rs, h2, h3⟩ | ⟨H2, has, h2, h3⟩
        · refine (hE.a f (some H) az H' rs h2 W.S w _ hwi hargs (W.adr ob) (W.fp ob) hro.1 (fun b hb => (hro.2 b hb).2)).mono ?_
          rintro e w' ⟨u, S', fp', rfl, h6, h7, h8, h9, h10⟩
          exact hK _ _ _ _ _ h3 (hs.meth hob h8 h7 h9 h10 hd (RR.av (W := { W with S := S', fp := up W.fp ob fp' }) h6))
        · subst has
          have hys : ys = [] := List.eq_nil_of_length_eq_zero h4.symm
          subst hys
          refine (hE.c f H H2 h2 w (W.adr ob) (W.fp ob) hwi hro.1).mono ?_
          rintro e w' ⟨adr, fp', rfl, h6, h7, h8, h9⟩
          exact hK _ _ _ _ _ h3 (hs.made (S' := fun b => if b < w.heap.size then W.S b else 0) h8 h7 (fun b hb => ⟨h9 b hb, if_neg (by have := h9 b hb; omega)⟩) (fun b hb => if_pos hb) hd (RN.av (ps := []) h6 rfl))

theorem compOp_callv {P : Program} {eqs : List (Nat × List Bool)} {o : Oper} (x : PX) (f : Nat) (xs : List PX) : ¬ compOp P eqs o = some (.callv x f xs) := fun hpo => by
  unfold compOp compB at hpo
  (repeat' split at hpo) <;> (first | (cases hpo; done) | (simp only [Option.map_eq_some_iff] at hpo; obtain ⟨_, _, h⟩ := hpo; cases h) | (obtain ⟨_, h⟩ := nilPX_inv hpo; cases h))
theorem compOp_ldg {P : Program} {eqs : List (Nat × List Bool)} {o : Oper} (x : PX) : ¬ compOp P eqs o = some (.ldg x) := fun hpo => by
  unfold compOp compB at hpo
  (repeat' split at hpo) <;> (first | (cases hpo; done) | (simp only [Option.map_eq_some_iff] at hpo; obtain ⟨_, _, h⟩ := hpo; cases h) | (obtain ⟨_, h⟩ := nilPX_inv hpo; cases h))
theorem good_ixg [Bor] {o : Oper} (hd : ∀ d, o.dst = some d → d < n) {t e ln g : Nat} {ei : TypeInfo} {io : Operand} {i : PX} (hop : o.op = .indexAddr t (.global g) io) (hu : P.underlying t = some (.array ln e)) (hi : P.info? e = some ei) (hix : cX io = some i) : Good P n o (.ixg ln ei.size g i) :=
  .of_pure hd fun w0 S0 W s a w v ch hs hf => by
    simp only [PO.fn] at hf
    split at hf
    · rename_i k hk
      split at hf
      · rename_i hg
        cases hf
        obtain ⟨kk, hk⟩ := int_ev hs hix hk
        refine ⟨rfl, .pointer (some ⟨g, k.toNat * ei.size, none⟩), ?_, RD.sc _ rfl⟩
        have he : a.eval (.global g) = .pointer (some ⟨g, 0, none⟩) := rfl
        simp [execOp, hop, Instr.indexAt, run_underlying hu, he, hk, asIntOf, Instr.sureAddr, hg.1, hg.2, sizeOf, typeInfo, hi, addr_add]
      · cases hf
    · cases hf
theorem good_mvf [Bor] {o : Oper} (hd : ∀ d, o.dst = some d → d < n) {f : Nat} (hop : o.op = .assign (.func f)) : Good P n o (.mv (.v (.func (.func f) #[] #[]))) :=
  .of_pure hd fun w0 S0 W s a w v ch hs hf => by
    simp only [PO.fn] at hf
    cases hf
    refine ⟨rfl, .func (.func f) #[] #[], ?_, ?_⟩
    · simp [execOp, hop, Act.eval]
    · show RA _ _ _ _ (constAv (.func (.func f) #[] #[])) _
      exact RD.sc _ rfl
theorem compX_good [Bor] {eqs : List (Nat × List Bool)} {ops : Array Oper} {o : Oper} {po : PO} (hd : ∀ d, o.dst = some d → d < n) (h : compX P eqs ops o = some po) (hnc : po.isCall = false) : Good P n o po := by
  unfold compX at h
  split at h
  · (repeat' split at h) <;> first | (cases h; done) | (cases h; cases hnc)
  · rename_i t g i hop
    split at h
    · rename_i ln e i' h1 h2
      simp only [Option.map_eq_some_iff] at h
      obtain ⟨ei, h3, rfl⟩ := h
      exact good_ixg hd hop h1 h3 h2
    · cases h
  · rename_i f hop
    cases h
    exact good_mvf hd hop
  · (repeat' split at h) <;> first | (cases h; done) | (simp only [Option.map_eq_some_iff] at h; obtain ⟨_, _, rfl⟩ := h; cases hnc)
  · cases h
theorem compO_good [Bor] {eqs : List (Nat × List Bool)} (heq : ∀ p, p ∈ eqs → EqT P p.1 p.2) {ops : Array Oper} {o : Oper} {po : PO} (hd : ∀ d, o.dst = some d → d < n) (h : compO P eqs ops o = some po) (hnc : po.isCall = false) : Good P n o po := by
  unfold compO at h
  cases hx : compX P eqs ops o with
  | some po' => rw [hx] at h; cases h; exact compX_good hd hx hnc
  | none => rw [hx] at h; exact compOp_good heq hd h hnc
theorem compX_wp [Bor] [I : WInv] {env : Env} (hE : EnvOK P env) (hp : ∀ w, ButB w0.heap.size w0 w → I.p w) {eqs : List (Nat × List Bool)} {ops : Array Oper} {o : Oper} {po : PO} {Q : Exit → Act → World → Prop} (hs : Sim w0 S0 n W s a w) (hd : ∀ d, o.dst = some d → d < n)
    (h : compX P eqs ops o = some po) (hcall : po.isCall = true) {K : Av → Cg → Prop} {K' : Act → World → Prop} (hK : ∀ v ch W' a' w', K v ch → Sim w0 S0 n W' (s.ap o.dst v ch) a' w' → K' a' w') (hg : po.go env s (o.dst.getD 0) K) : o.wp P a w K' Q := by
  unfold compX at h
  split at h
  · rename_i t x hop
    split at h
    · rename_i hsz
      split at h
      · cases h
        obtain ⟨v, hv, hk⟩ := withSome_iff.1 hg
        obtain ⟨d, i, hu, hi, hag⟩ := szT_inv hsz
        have hagg : aggT d = false := by cases hq : aggT d <;> simp [hq] at hag ⊢
        unfold gAt at hv
        split at hv
        · rename_i g k hval
          obtain ⟨hone, hcell⟩ := hE.t g k v hv
          obtain ⟨ea, _⟩ := val_ev hs (xo := .tmp x) rfl hval
          have hw := hcell w (hp _ hs.below)
          have hrun : (execOp a.eval o).run P w = .ok (.value v) w := by
            have hag' := run_isAgg (P := P) hu w
            rw [hagg] at hag'
            simp [execOp, hop, Instr.loadAt, ea, Instr.sureAddr, loadVar, hag', hw]
          unfold Oper.wp
          rw [hrun]
          exact hK _ _ _ _ _ hk (hs.put hd (RD.sc v hone))
        · cases hv
      · cases h
    · cases h
  · (repeat' split at h) <;> first | (cases h; done) | (simp only [Option.map_eq_some_iff] at h; obtain ⟨_, _, rfl⟩ := h; cases hcall)
  · cases h; cases hcall
  · rename_i c hop
    split at h
    · rename_i t hcf
      split at h
      · rename_i l hl
        split at h
        · rename_i fn hfn
          split at h
          · rename_i hcond
            simp only [Option.map_eq_some_iff] at h
            obtain ⟨xs, hxs, rfl⟩ := h
            obtain ⟨_, hf, hg'⟩ := withSome_iff.1 hg
            have hfv : a.eval (.tmp t) = .func (.func l.length) #[] #[] := by
              unfold fnIs at hf
              split at hf
              · rename_i gg aa bb hval
                obtain ⟨ea, _⟩ := val_ev hs (xo := .tmp t) rfl hval
                split at hf
                · rename_i hq
                  obtain ⟨rfl, h1, h2⟩ := hq
                  rw [ea, Array.size_eq_zero_iff.1 h1, Array.size_eq_zero_iff.1 h2]
                · cases hf
              · cases hf
            have hrun : (execOp a.eval o).run P w = .ok (.enter l.length (c.args.map a.eval)) w := by
              have hn := hcond.1
              have hb2 : fn.body ≠ none := by
                intro hb
                have := hcond.2
                rw [hb] at this; cases this
              simp [execOp, hop, resolve, hcf, hfv, Deferred.ofValue, invoke, callFunc, hfn, hn, hb2]
            exact call_wp hE hp hs hd hrun hxs hK hg'
          · cases h
        · cases h
      · cases h
    · cases h
  · cases h

/-- one operation, behind its guard -/
theorem pi_wpOp [Bor] [I : WInv] {env : Env} (hE : EnvOK P env) (hp : ∀ w, ButB w0.heap.size w0 w → I.p w) {eqs : List (Nat × List Bool)} (heq : ∀ p, p ∈ eqs → EqT P p.1 p.2) {ops : Array Oper} {o : Oper} {i : PI} {idx : Nat} {Q : Exit → Act → World → Prop} (hi : ops[idx]? = some o) (hc : compI P n eqs ops o = some i) (hs : Sim w0 S0 n W s a w)
    {K : Av → Cg → Prop} (hgo : i.go env s K) {K' : Act → World → Prop} (hK : ∀ v ch W' a' w', K v ch → Sim w0 S0 n W' (s.ap i.dst v ch) a' w' → K' a' w') : wpOp P ops Q idx K' a w := by
  unfold compI at hc
  split at hc
  · rename_i po hpo
    split at hc
    · rename_i hdst
      have hd := dstOk_lt hdst
      -- the operation itself
      have op : ∀ K : Av → Cg → Prop, (∀ v ch W' a' w', K v ch → Sim w0 S0 n W' (s.ap o.dst v ch) a' w' → K' a' w') → po.go env s (o.dst.getD 0) K → o.wp P a w K' Q := fun K hK hg => by
        cases hcall : po.isCall with
        | false =>
          have hg' : ∃ v ch, po.fn s (o.dst.getD 0) = some (v, ch) ∧ K v ch := by
            have h1 : withSome (po.fn s (o.dst.getD 0)) (fun p => K p.1 p.2) := by
              cases po <;> first | exact hg | cases hcall
            obtain ⟨⟨v, ch⟩, h2, h3⟩ := withSome_iff.1 h1
            exact ⟨v, ch, h2, h3⟩
          obtain ⟨v, ch, h1, h2⟩ := hg'
          obtain ⟨W', rv, w', h3, h4⟩ := compO_good heq hd hpo hcall w0 S0 W s a w v ch hs h1
          unfold Oper.wp
          rcases h3 with h3 | ⟨h3, rfl⟩
          · rw [h3]; exact hK v ch W' _ _ h2 h4
          · rw [h3]; exact hK v ch W' _ _ h2 h4
        | true =>
          cases hpx : compX P eqs ops o with
          | some po' =>
            have hpe : po' = po := by unfold compO at hpo; rw [hpx] at hpo; simpa using hpo
            subst hpe
            exact compX_wp hE hp hs hd hpx hcall hK hg
          | none =>
          have hpo : compOp P eqs o = some po := by unfold compO at hpo; rw [hpx] at hpo; exact hpo
          cases po with
          | call f xs =>
            unfold compOp at hpo
            split at hpo
            case h_22 c hop =>
              split at hpo
              · rename_i b hcb
                unfold compB at hpo
                (repeat' split at hpo) <;> (first | (cases hpo; done) | (simp only [Option.map_eq_some_iff] at hpo; obtain ⟨_, _, h⟩ := hpo; cases h))
              · rename_i f' hcf
                split at hpo
                · rename_i fn hfn
                  split at hpo
                  · rename_i hcond
                    simp only [Option.map_eq_some_iff] at hpo
                    obtain ⟨xs', hxs, heqc⟩ := hpo
                    cases heqc
                    have hrun : (execOp a.eval o).run P w = .ok (.enter f (c.args.map a.eval)) w := by
                      have hn := hcond.1
                      have hb2 : fn.body ≠ none := by
                        intro hb
                        have := hcond.2
                        rw [hb] at this; cases this
                      simp [execOp, hop, resolve, hcf, Act.eval, Deferred.ofValue, invoke, callFunc, hfn, hn, hb2]
                    exact call_wp hE hp hs hd hrun hxs hK hg
                  · cases hpo
                · cases hpo
              · cases hpo
            all_goals first
              | (cases hpo; done)
              | ((repeat' split at hpo) <;> (first | (cases hpo; done) | (simp only [Option.map_eq_some_iff] at hpo; obtain ⟨_, _, h⟩ := hpo; cases h) | (obtain ⟨_, h⟩ := nilPX_inv hpo; cases h)))
              | (simp only [Option.map_eq_some_iff] at hpo; obtain ⟨_, _, h⟩ := hpo; cases h)
          | callv x f xs => exact absurd hpo (compOp_callv x f xs)
          | ldg x => exact absurd hpo (compOp_ldg x)
          | _ => cases hcall
      unfold wpOp
      simp only [hi]
      split at hc
      · rename_i hg
        cases hc
        have hw : Region.wanted o (yielded ops a.tmps) = true := by simp [Region.wanted, hg]
        rw [if_pos hw]
        exact .inl (op K hK hgo)
      · rename_i g want hg
        split at hc
        · rename_i t ht
          cases hc
          obtain ⟨b, hb, h1, h2⟩ := withSome_iff.1 hgo
          have hy : yielded ops a.tmps g = b := by
            unfold St.gd at hb
            split at hb
            · rename_i hsk
              cases hb
              have h3 := hs.sl t
              have hslot : a.tmps.getD t undef = .tuple #[] := by
                cases hv : s.sl t with
                | un => rw [hv] at hsk; cases hsk
                | b x => rw [hv] at hsk; cases hsk
                | tup xs =>
                  cases xs with
                  | cons x xs => rw [hv] at hsk; cases hsk
                  | nil =>
                    rw [hv] at h3
                    obtain ⟨vs, e1, e2, _⟩ := h3
                    have : vs = #[] := by apply Array.eq_empty_of_size_eq_zero; simpa using e2.symm
                    rw [e1, this]
              unfold yielded
              rw [ht]
              simp only [Option.bind_some]
              cases hq : a.tmps[t]? with
              | none => rfl
              | some u => simp [hq] at hslot; rw [hslot]
            · rw [Option.map_eq_some_iff] at hb
              obtain ⟨c, hc, rfl⟩ := hb
              have hslot : a.tmps.getD t undef = .bool c := by
                have := boo_ev hs (xo := .tmp t) (x := .t t) rfl hc
                simpa [Act.eval] using this
              unfold yielded
              rw [ht]
              simp only [Option.bind_some]
              cases hq : a.tmps[t]? with
              | none => simp [hq, undef] at hslot
              | some u => simp [hq] at hslot; rw [hslot]
          by_cases hbw : b = some want
          · have hw : Region.wanted o (yielded ops a.tmps) = true := by simp [Region.wanted, hg, hy, hbw]
            rw [if_pos hw]
            exact .inl (op K hK (h1 hbw))
          · have hw : Region.wanted o (yielded ops a.tmps) = false := by simp [Region.wanted, hg, hy, hbw]
            rw [if_neg (by rw [hw]; decide)]
            exact hK _ _ _ _ _ (h2 hbw) (hs.put hd ⟨#[], rfl, rfl, fun i x u h => by simp at h⟩)
        · cases hc
    · cases hc
  · cases hc
end
end Go.Proofs.YthnjbnfnljjepabDoor
end
section
set_option linter.unusedSimpArgs false
set_option linter.unusedVariables false
namespace Go.Proofs.YthnjbnfnljjepabDoor
open Go Go.RowKit

section
variable {P : Program} {n : Nat} {w0 : World} {S0 : Nat → Nat}

theorem pi_ops [Bor] [I : WInv] {env : Env} (hE : EnvOK P env) (hp : ∀ w, ButB w0.heap.size w0 w → I.p w) {eqs : List (Nat × List Bool)} (heq : ∀ p, p ∈ eqs → EqT P p.1 p.2) {ops : Array Oper} {Q : Exit → Act → World → Prop} {K : St → Prop}
    (hK : ∀ s W a w, K s → Sim w0 S0 n W s a w → Q .normal a w) : ∀ (is : List PI) (k : Nat) (W : Wit) (s : St) (a : Act) (w : World), (ops.toList.drop k).map (compI P n eqs ops) = is.map some → Sim w0 S0 n W s a w → evalOps env is s K →
      wpOps P ops Q (List.range' k is.length) a w := by
  intro is
  induction is with
  | nil => intro k W s a w _ hs h; exact hK s W a w h hs
  | cons i is ih =>
    intro k W s a w hm hs h
    have hlt : k < ops.toList.length := by
      rcases Nat.lt_or_ge k ops.toList.length with h | h
      · exact h
      · rw [List.drop_eq_nil_of_le h] at hm; simp at hm
    rw [List.drop_eq_getElem_cons hlt] at hm
    simp only [List.map_cons, List.cons.injEq] at hm
    rw [List.length_cons, List.range'_succ, wpOps_cons]
    refine pi_wpOp hE hp heq (by simp) hm.1 hs h (fun v ch W' a' w' h1 h2 => ?_)
    exact ih (k + 1) W' _ a' w' hm.2 h2 h1

end
end Go.Proofs.YthnjbnfnljjepabDoor
end
section
set_option linter.unusedSimpArgs false
set_option linter.unusedVariables false
namespace Go.Proofs.YthnjbnfnljjepabDoor
open Go Go.RowKit

theorem wrAt_get : ∀ (cs : List Cl) (off : Nat) (ds : List Cl) (i : Nat), (wrAt cs off ds)[i]? = if off ≤ i ∧ i < off + ds.length ∧ i < cs.length then ds[i - off]? else cs[i]?
  | [], off, ds, i => by simp [wrAt]
  | c :: cs, 0, [], i => by simp [wrAt]
  | c :: cs, 0, d :: ds, i => by
    simp only [wrAt]
    cases i with
    | zero => simp
    | succ i =>
      rw [List.getElem?_cons_succ, wrAt_get cs 0 ds i]
      by_cases h : i < ds.length ∧ i < cs.length
      · rw [if_pos ⟨by omega, by omega, h.2⟩, if_pos ⟨by omega, by simp; omega, by simp; exact h.2⟩]
        simp
      · rw [if_neg (by intro h2; exact h ⟨by omega, h2.2.2⟩), if_neg (by intro h2; simp at h2; exact h ⟨by omega, h2.2⟩)]
        simp
  | c :: cs, k + 1, ds, i => by
    simp only [wrAt]
    cases i with
    | zero => simp
    | succ i =>
      rw [List.getElem?_cons_succ, wrAt_get cs k ds i]
      by_cases h : k ≤ i ∧ i < k + ds.length ∧ i < cs.length
      · rw [if_pos h, if_pos ⟨by omega, by omega, by simp; exact h.2.2⟩, show i + 1 - (k + 1) = i - k by omega]
      · rw [if_neg h, if_neg (by intro h2; simp at h2; exact h ⟨h2.1, by omega, h2.2.2⟩)]
        simp
theorem wrAt_length (cs : List Cl) (off : Nat) (ds : List Cl) : (wrAt cs off ds).length = cs.length := by
  apply Nat.le_antisymm
  · rcases Nat.lt_or_ge cs.length (wrAt cs off ds).length with h | h
    · have h1 := List.getElem?_eq_getElem h
      rw [wrAt_get, if_neg (by omega), List.getElem?_eq_none (Nat.le_refl _)] at h1
      cases h1
    · exact h
  · rcases Nat.lt_or_ge (wrAt cs off ds).length cs.length with h | h
    · have h1 : (wrAt cs off ds)[(wrAt cs off ds).length]? = none := List.getElem?_eq_none (Nat.le_refl _)
      rw [wrAt_get] at h1
      split at h1
      · rename_i h2
        rw [List.getElem?_eq_getElem (by omega)] at h1
        cases h1
      · rw [List.getElem?_eq_getElem h] at h1
        cases h1
    · exact h
theorem wrAt_comm (cs : List Cl) {a b : Nat} {xs ys : List Cl} (h : a + xs.length ≤ b ∨ b + ys.length ≤ a) : wrAt (wrAt cs a xs) b ys = wrAt (wrAt cs b ys) a xs := by
  apply List.ext_getElem?
  intro i
  rw [wrAt_get, wrAt_get, wrAt_get, wrAt_get, wrAt_length, wrAt_length]
  (repeat' split) <;> first | rfl | (exfalso; omega)

/-- the object is az before in a range -/
def rgEq : Ob → Ob → Nat → Nat → Prop
  | .cells cs, .cells ds, off, n => cs.length = ds.length ∧ ∀ i, off ≤ i → i < off + n → cs[i]? = ds[i]?
  | x, y, _, _ => x = y
theorem rgEq.refl (x : Ob) (off n : Nat) : rgEq x x off n := by cases x <;> simp [rgEq]

/-- two states agree in what an operation looks at: slots, ranges -/
structure Agree (looks : List Nat) (rd : List Rg) (s t : St) : Prop where
  sl : ∀ x, x ∈ looks → s.sl x = t.sl x
  ob : ∀ r, r ∈ rd → s.gen r.1 = t.gen r.1 ∧ rgEq (s.ob r.1) (t.ob r.1) r.2.1 r.2.2

section
variable {s t : St}

theorem ev_agree {x : PX} (h : ∀ y, y ∈ x.slots → s.sl y = t.sl y) : s.ev x = t.ev x := by
  cases x with
  | t n => exact h n (by simp [PX.slots])
  | v c => rfl
theorem cl_agree {x : PX} (h : ∀ y, y ∈ x.slots → s.sl y = t.sl y) : s.cl x = t.cl x := by unfold St.cl; rw [ev_agree h]
theorem val_agree {x : PX} (h : ∀ y, y ∈ x.slots → s.sl y = t.sl y) : s.val x = t.val x := by unfold St.val; rw [ev_agree h]
theorem int_agree {x : PX} (h : ∀ y, y ∈ x.slots → s.sl y = t.sl y) : s.int x = t.int x := by unfold St.int; rw [ev_agree h]
theorem boo_agree {x : PX} (h : ∀ y, y ∈ x.slots → s.sl y = t.sl y) : s.boo x = t.boo x := by unfold St.boo; rw [ev_agree h]
theorem cs_agree {x : PX} (h : ∀ y, y ∈ x.slots → s.sl y = t.sl y) : s.cs x = t.cs x := by unfold St.cs; rw [ev_agree h]
theorem parts_agree : ∀ (ps : List (Nat × Nat × PX)), (∀ y, y ∈ ps.flatMap (fun p => p.2.2.slots) → s.sl y = t.sl y) → s.parts ps = t.parts ps
  | [], _ => rfl
  | (o, k, x) :: r, h => by
    simp only [St.parts]
    rw [cs_agree (x := x) (fun y hy => h y (by simp [hy])), parts_agree r (fun y hy => h y (by simp only [List.flatMap_cons, List.mem_append]; exact .inr hy))]
theorem args_agree : ∀ (xs : List PX), (∀ y, y ∈ xs.flatMap PX.slots → s.sl y = t.sl y) → s.args xs = t.args xs
  | [], _ => rfl
  | x :: r, h => by
    have h1 := args_agree r (fun y hy => h y (by simp only [List.flatMap_cons, List.mem_append]; exact .inr hy))
    unfold St.args at h1 ⊢
    simp only [List.map_cons]
    rw [ev_agree (x := x) (fun y hy => h y (by simp only [List.flatMap_cons, List.mem_append]; exact .inl hy))]
    cases (t.ev x).pa with
    | none => rfl
    | some p => simp only [allSome, h1]
theorem recv_agree (xs : List PX) (h : ∀ y, y ∈ xs.flatMap PX.slots → s.sl y = t.sl y) : s.recv xs = t.recv xs := by
  cases xs with
  | nil => rfl
  | cons x xs =>
    show (s.ev x).abOf = (t.ev x).abOf
    rw [ev_agree (fun y hy => h y (by simp only [List.flatMap_cons, List.mem_append]; exact .inl hy))]
theorem abAt_agree {o g : Nat} {off n : Nat} (hg : s.gen o = t.gen o) (ho : rgEq (s.ob o) (t.ob o) off n) : s.abAt o g = t.abAt o g := by
  unfold St.abAt
  rw [hg]
  generalize s.ob o = x at *
  generalize t.ob o = y at *
  cases x <;> cases y <;> simp only [rgEq] at ho <;> first | (cases ho; done) | rfl | (cases ho; rfl)
theorem prcv_agree (xs : List PX) (h : ∀ y, y ∈ xs.flatMap PX.slots → s.sl y = t.sl y) : s.prcv xs = t.prcv xs := by
  cases xs with
  | nil => rfl
  | cons x xs =>
    show (s.ev x).ptrOf = (t.ev x).ptrOf
    rw [ev_agree (fun y hy => h y (by simp only [List.flatMap_cons, List.mem_append]; exact .inl hy))]
theorem cellsAt_agree {o g : Nat} (hg : s.gen o = t.gen o) (ho : rgEq (s.ob o) (t.ob o) 0 big) : s.cellsAt o g = t.cellsAt o g := by
  unfold St.cellsAt
  rw [hg]
  generalize s.ob o = x at *
  generalize t.ob o = y at *
  cases x <;> cases y <;> simp only [rgEq] at ho <;> first | (cases ho; done) | rfl | skip
  rename_i cs ds
  obtain ⟨h1, h2⟩ := ho
  by_cases hl : cs.length ≤ 1000000
  · have : cs = ds := List.ext_getElem? fun i => by
      rcases Nat.lt_or_ge i big with h | h
      · exact h2 i (by omega) (by omega)
      · unfold big at h
        rw [List.getElem?_eq_none (by omega), List.getElem?_eq_none (by omega)]
    rw [this]
  · simp only [hl, show ¬ ds.length ≤ 1000000 by omega, if_false]
theorem vals_agree : ∀ (xs : List PX), (∀ y, y ∈ xs.flatMap PX.slots → s.sl y = t.sl y) → xs.map s.val = xs.map t.val
  | [], _ => rfl
  | x :: r, h => by
    simp only [List.map_cons]
    rw [val_agree (x := x) (fun y hy => h y (by simp only [List.flatMap_cons, List.mem_append]; exact .inl hy)), vals_agree r (fun y hy => h y (by simp only [List.flatMap_cons, List.mem_append]; exact .inr hy))]
theorem oint_agree {x : Option PX} (h : ∀ y, y ∈ oslots x → s.sl y = t.sl y) : x.map s.int = x.map t.int := by
  cases x with
  | none => rfl
  | some x => simp only [Option.map_some, int_agree (x := x) h]

theorem mkAv_agree {k : Option Nat} {cs ds : List Cl} {off : Nat} (hl : cs.length = ds.length) (h : ∀ i, off ≤ i → i < off + k.getD 1 → cs[i]? = ds[i]?) : mkAv k cs off = mkAv k ds off := by
  cases k with
  | none => simp only [mkAv]; rw [h off (Nat.le_refl _) (by simp)]
  | some k =>
    simp only [mkAv, hl]
    split
    · congr 3
      apply List.ext_getElem?
      intro i
      rw [List.getElem?_take, List.getElem?_take]
      split
      · rw [List.getElem?_drop, List.getElem?_drop]
        exact h _ (by omega) (by simp; omega)
      · rfl
    · rfl

/-- an operation does the same in two states that agree in what it looks at -/
theorem fn_agree {po : PO} {d : Nat} (h : Agree po.slots (po.rd s d) s t) : po.fn s d = po.fn t d := by
  obtain ⟨hs, ho⟩ := h
  cases po <;> simp only [PO.slots, List.mem_append] at hs <;> simp only [PO.fn]
  case mv x => rw [ev_agree hs]
  case nilRow E sz => rw [show s.gen d = t.gen d from (ho (d, big - 1, 1) (by simp only [PO.rd, List.mem_singleton])).1]
  case pick c a b => rw [boo_agree (x := c) (fun y hy => hs y (.inl (.inl hy))), ev_agree (x := a) (fun y hy => hs y (.inl (.inr hy))), ev_agree (x := b) (fun y hy => hs y (.inr hy))]
  case box x => rw [cs_agree hs, show s.gen d = t.gen d from (ho (d, big - 1, 1) (by simp only [PO.rd, List.mem_singleton])).1]
  case new z => rw [show s.gen d = t.gen d from (ho (d, big - 1, 1) (by simp only [PO.rd, List.mem_singleton])).1]
  case build z ps => rw [parts_agree ps hs]
  case bslice E sz z ln ps => rw [parts_agree ps hs, show s.gen d = t.gen d from (ho (d, big - 1, 1) (by simp only [PO.rd, List.mem_singleton])).1]
  case load k a =>
    have hc := cl_agree (x := a) hs
    simp only [PO.rd] at ho
    rw [← hc]
    split
    · rename_i o g off heq
      rw [heq] at ho
      obtain ⟨h1, h2⟩ := ho _ (List.mem_singleton.2 rfl)
      dsimp only at h1 h2
      rw [h1]
      split
      · generalize s.ob o = x at h2 ⊢
        generalize t.ob o = y at h2 ⊢
        cases x <;> cases y <;> simp only [rgEq] at h2 <;> (try dsimp only) <;> first | rfl | (cases h2; done) | (rw [mkAv_agree h2.1 h2.2]) | (rw [h2])
      · rfl
    · rfl
    · rfl
  case store sz a x =>
    have hc := cl_agree (x := a) (fun y hy => hs y (.inl hy))
    have hx := cs_agree (x := x) (fun y hy => hs y (.inr hy))
    simp only [PO.rd] at ho
    rw [← hc, ← hx]
    split
    · rename_i o g off nw heq hnw
      rw [heq] at ho
      obtain ⟨h1, h2⟩ := ho _ (List.mem_singleton.2 rfl)
      dsimp only at h1 h2
      rw [h1]
      split
      · generalize s.ob o = x at h2 ⊢
        generalize t.ob o = y at h2 ⊢
        cases x <;> cases y <;> simp only [rgEq] at h2 <;> (try dsimp only) <;> first | rfl | (cases h2; done) | (rw [h2.1]) | (rw [h2])
      · rfl
    · rfl
  case fld off x =>
    have hc := cl_agree (x := x) hs
    simp only [PO.rd] at ho
    rw [← hc]
    split
    · rename_i o g k heq
      rw [heq] at ho
      rw [show s.gen o = t.gen o from (ho (o, big - 1, 1) (by simp only [List.mem_singleton])).1]
    · rfl
    · rfl
  case fldv off k x => rw [ev_agree hs]
  case ixa ln sz x i =>
    have hc := cl_agree (x := x) (fun y hy => hs y (.inl hy))
    have hi := int_agree (x := i) (fun y hy => hs y (.inr hy))
    simp only [PO.rd] at ho
    rw [← hc, ← hi]
    split
    · rename_i o g off k heq hk
      rw [heq] at ho
      rw [show s.gen o = t.gen o from (ho (o, big - 1, 1) (by simp only [List.mem_singleton])).1]
    · rfl
    · rfl
  case ixs sz x i =>
    have hc := cl_agree (x := x) (fun y hy => hs y (.inl hy))
    have hi := int_agree (x := i) (fun y hy => hs y (.inr hy))
    simp only [PO.rd] at ho
    rw [← hc, ← hi]
    split
    · split
      · rename_i o g off ln cap sz2 heq
        rw [heq] at ho
        rw [show s.gen o = t.gen o from (ho (o, big - 1, 1) (by simp only [List.mem_singleton])).1]
      · rfl
    · rfl
  case ixv ln sz k x i => rw [ev_agree (x := x) (fun y hy => hs y (.inl hy)), int_agree (x := i) (fun y hy => hs y (.inr hy))]
  case ixstr x i => rw [val_agree (x := x) (fun y hy => hs y (.inl hy)), int_agree (x := i) (fun y hy => hs y (.inr hy))]
  case bin op x y => rw [val_agree (x := x) (fun y hy => hs y (.inl hy)), val_agree (x := y) (fun y hy => hs y (.inr hy))]
  case eqb neg x y => rw [boo_agree (x := x) (fun y hy => hs y (.inl hy)), boo_agree (x := y) (fun y hy => hs y (.inr hy))]
  case eqs neg m x y => rw [ev_agree (x := x) (fun y hy => hs y (.inl hy)), ev_agree (x := y) (fun y hy => hs y (.inr hy))]
  case un op x => rw [val_agree hs]
  case conv k x => rw [int_agree hs]
  case slc sz x lo hi => rw [cl_agree (x := x) (fun y hy => hs y (.inl (.inl hy))), oint_agree (x := lo) (fun y hy => hs y (.inl (.inr hy))), oint_agree (x := hi) (fun y hy => hs y (.inr hy))]
  case substr x lo hi => rw [val_agree (x := x) (fun y hy => hs y (.inl (.inl hy))), oint_agree (x := lo) (fun y hy => hs y (.inl (.inr hy))), oint_agree (x := hi) (fun y hy => hs y (.inr hy))]
  case len x => rw [cl_agree hs]
  case strlen x => rw [val_agree hs]
  case append E sz bytes x y =>
    have hc := cl_agree (x := x) (fun y hy => hs y (.inl hy))
    have hy := cl_agree (x := y) (fun y hy => hs y (.inr hy))
    simp only [PO.rd] at ho
    rw [← hc, ← hy]
    split
    · rename_i o g rows news heq hnews
      rw [heq] at ho
      obtain ⟨h1, h2⟩ := ho _ (List.mem_singleton.2 rfl)
      dsimp only at h1 h2
      rw [h1]
      split
      · generalize s.ob o = x at h2 ⊢
        generalize t.ob o = y at h2 ⊢
        cases x <;> cases y <;> simp only [rgEq] at h2 <;> (try dsimp only) <;> first | rfl | (cases h2; done) | (cases h2; rfl)
      · rfl
    · rfl
    · rfl
  case mm big xs => rw [vals_agree xs hs]
  case ext x i => rw [ev_agree hs]
  case mk sz bytes z n c =>
    rw [int_agree (x := n) (fun y hy => hs y (.inl hy)), int_agree (x := c) (fun y hy => hs y (.inr hy))]
    rw [show s.gen d = t.gen d from (ho (d, big - 1, 1) (by simp only [PO.rd, List.mem_singleton])).1]
  case slc3 sz x lo hi mx => rw [cl_agree (x := x) (fun y hy => hs y (.inl (.inl (.inl hy)))), oint_agree (x := lo) (fun y hy => hs y (.inl (.inl (.inr hy)))), int_agree (x := hi) (fun y hy => hs y (.inl (.inr hy))), int_agree (x := mx) (fun y hy => hs y (.inr hy))]
  case sla ln sz x i =>
    have hc := cl_agree (x := x) (fun y hy => hs y (.inl hy))
    have hi := int_agree (x := i) (fun y hy => hs y (.inr hy))
    simp only [PO.rd] at ho
    rw [← hc, ← hi]
    split
    · rename_i o g off k heq hk
      rw [heq] at ho
      rw [show s.gen o = t.gen o from (ho (o, big - 1, 1) (by simp only [List.mem_singleton])).1]
    · rfl
  case niq neg x => rw [cl_agree hs]
  case ixg ln sz g i => rw [int_agree (x := i) hs]
  case bstr x => rw [cl_agree hs]
  case nilck x =>
    have hc := cl_agree (x := x) hs
    simp only [PO.rd] at ho
    rw [← hc]
    split
    · rename_i o g k heq
      rw [heq] at ho
      rw [show s.gen o = t.gen o from (ho (o, big - 1, 1) (by simp only [List.mem_singleton])).1]
    · rfl

theorem go_agree {env : Env} {i : PI} {K : Av → Cg → Prop} (h : Agree i.looks (i.rd s) s t) : i.go env s K → i.go env t K := by
  have hop : i.op.go env s (i.dst.getD 0) K → i.op.go env t (i.dst.getD 0) K := fun hg => by
    have h1 : ∀ x, x ∈ i.op.slots → s.sl x = t.sl x := fun x hx => h.sl x (by unfold PI.looks; exact List.mem_append_left _ hx)
    cases hc : i.op with
    | call f xs =>
      rw [hc] at hg h1
      have hr := h.ob
      unfold PI.rd at hr
      rw [hc] at hr
      have hrc := recv_agree xs h1
      have hpc := prcv_agree xs h1
      have hg' : callG env s (i.dst.getD 0) K f xs (s.recv xs) (s.prcv xs) := hg
      show callG env t (i.dst.getD 0) K f xs (t.recv xs) (t.prcv xs)
      simp only [PO.rd] at hr
      rw [← hrc, ← hpc]
      cases hre : s.recv xs with
      | none =>
       cases hpe : s.prcv xs with
       | some p =>
        obtain ⟨o, g⟩ := p
        rw [hre, hpe] at hg' hr
        have hob := hr (o, 0, big) (by simp)
        obtain ⟨az, e1, e2⟩ := withSome_iff.1 hg'
        obtain ⟨ds, e3, e4⟩ := withSome_iff.1 e2
        refine withSome_iff.2 ⟨az, by rw [← args_agree xs.tail (fun y hy => h1 y (by
          cases xs with
          | nil => exact hy
          | cons z zs => simp only [PO.slots, List.flatMap_cons, List.mem_append]; exact .inr hy))]; exact e1, ?_⟩
        exact withSome_iff.2 ⟨ds, by rw [← cellsAt_agree hob.1 hob.2]; exact e3, e4⟩
       | none =>
        rw [hre, hpe] at hg' hr
        have hgd := (hr (i.dst.getD 0, big - 1, 1) (by simp)).1
        obtain ⟨az, e1, e2⟩ := withSome_iff.1 hg'
        refine withSome_iff.2 ⟨az, by rw [← args_agree xs h1]; exact e1, ?_⟩
        rw [← show s.gen (i.dst.getD 0) = t.gen (i.dst.getD 0) from hgd]
        exact e2
      | some p =>
        obtain ⟨o, g⟩ := p
        rw [hre] at hg' hr
        have hr : ∀ r, r ∈ [(o, 0, big), (i.dst.getD 0, big - 1, 1)] → s.gen r.1 = t.gen r.1 ∧ rgEq (s.ob r.1) (t.ob r.1) r.2.1 r.2.2 := by cases s.prcv xs <;> exact hr
        have hgd := (hr (i.dst.getD 0, big - 1, 1) (by simp)).1
        have hob := hr (o, 0, big) (by simp)
        obtain ⟨az, e1, e2⟩ := withSome_iff.1 hg'
        obtain ⟨H, e3, e4⟩ := withSome_iff.1 e2
        refine withSome_iff.2 ⟨az, by rw [← args_agree xs.tail (fun y hy => h1 y (by
          cases xs with
          | nil => exact hy
          | cons z zs => simp only [PO.slots, List.flatMap_cons, List.mem_append]; exact .inr hy))]; exact e1, ?_⟩
        refine withSome_iff.2 ⟨H, by rw [← abAt_agree hob.1 hob.2]; exact e3, ?_⟩
        rw [← show s.gen (i.dst.getD 0) = t.gen (i.dst.getD 0) from hgd]
        exact e4
    | callv xv f xs =>
      rw [hc] at hg h1
      obtain ⟨u0, hu0, hg⟩ := withSome_iff.1 hg
      refine withSome_iff.2 ⟨u0, by rw [← val_agree (x := xv) (fun y hy => h1 y (List.mem_append_left _ hy))]; exact hu0, ?_⟩
      have h1 : ∀ x, x ∈ (PO.call f xs).slots → s.sl x = t.sl x := fun x hx => h1 x (List.mem_append_right _ hx)
      have hr := h.ob
      unfold PI.rd at hr
      rw [hc] at hr
      have hrc := recv_agree xs h1
      have hpc := prcv_agree xs h1
      have hg' : callG env s (i.dst.getD 0) K f xs (s.recv xs) (s.prcv xs) := hg
      show callG env t (i.dst.getD 0) K f xs (t.recv xs) (t.prcv xs)
      simp only [PO.rd] at hr
      rw [← hrc, ← hpc]
      cases hre : s.recv xs with
      | none =>
       cases hpe : s.prcv xs with
       | some p =>
        obtain ⟨o, g⟩ := p
        rw [hre, hpe] at hg' hr
        have hob := hr (o, 0, big) (by simp)
        obtain ⟨az, e1, e2⟩ := withSome_iff.1 hg'
        obtain ⟨ds, e3, e4⟩ := withSome_iff.1 e2
        refine withSome_iff.2 ⟨az, by rw [← args_agree xs.tail (fun y hy => h1 y (by
          cases xs with
          | nil => exact hy
          | cons z zs => simp only [PO.slots, List.flatMap_cons, List.mem_append]; exact .inr hy))]; exact e1, ?_⟩
        exact withSome_iff.2 ⟨ds, by rw [← cellsAt_agree hob.1 hob.2]; exact e3, e4⟩
       | none =>
        rw [hre, hpe] at hg' hr
        have hgd := (hr (i.dst.getD 0, big - 1, 1) (by simp)).1
        obtain ⟨az, e1, e2⟩ := withSome_iff.1 hg'
        refine withSome_iff.2 ⟨az, by rw [← args_agree xs h1]; exact e1, ?_⟩
        rw [← show s.gen (i.dst.getD 0) = t.gen (i.dst.getD 0) from hgd]
        exact e2
      | some p =>
        obtain ⟨o, g⟩ := p
        rw [hre] at hg' hr
        have hr : ∀ r, r ∈ [(o, 0, big), (i.dst.getD 0, big - 1, 1)] → s.gen r.1 = t.gen r.1 ∧ rgEq (s.ob r.1) (t.ob r.1) r.2.1 r.2.2 := by cases s.prcv xs <;> exact hr
        have hgd := (hr (i.dst.getD 0, big - 1, 1) (by simp)).1
        have hob := hr (o, 0, big) (by simp)
        obtain ⟨az, e1, e2⟩ := withSome_iff.1 hg'
        obtain ⟨H, e3, e4⟩ := withSome_iff.1 e2
        refine withSome_iff.2 ⟨az, by rw [← args_agree xs.tail (fun y hy => h1 y (by
          cases xs with
          | nil => exact hy
          | cons z zs => simp only [PO.slots, List.flatMap_cons, List.mem_append]; exact .inr hy))]; exact e1, ?_⟩
        refine withSome_iff.2 ⟨H, by rw [← abAt_agree hob.1 hob.2]; exact e3, ?_⟩
        rw [← show s.gen (i.dst.getD 0) = t.gen (i.dst.getD 0) from hgd]
        exact e4
    | ldg x =>
      rw [hc] at hg h1
      obtain ⟨v, hv, hk⟩ := withSome_iff.1 hg
      exact withSome_iff.2 ⟨v, by rw [← val_agree (x := x) h1]; exact hv, hk⟩
    | _ =>
      rw [hc, PO.go_fn rfl] at hg
      rw [PO.go_fn rfl]
      obtain ⟨p, e1, e2⟩ := withSome_iff.1 hg
      refine withSome_iff.2 ⟨p, ?_, e2⟩
      rw [← e1]
      refine (fn_agree ⟨fun x hx => h1 x (by rw [hc]; exact hx), fun r hr => h.ob r ?_⟩).symm
      unfold PI.rd
      rw [hc]
      exact hr
  intro hg
  unfold PI.go at hg ⊢
  cases hgd : i.guard with
  | none => rw [hgd] at hg; exact hop hg
  | some p =>
    obtain ⟨x, want⟩ := p
    rw [hgd] at hg
    obtain ⟨b, e1, e2, e3⟩ := withSome_iff.1 hg
    refine withSome_iff.2 ⟨b, ?_, fun hb => hop (e2 hb), e3⟩
    rw [← e1]
    have h1 := boo_agree (x := .t x) (fun y hy => h.sl y (by
      unfold PI.looks
      rw [hgd]
      exact List.mem_append_right _ hy))
    have h2 := h.sl x (by
      unfold PI.looks
      rw [hgd]
      exact List.mem_append_right _ (List.mem_singleton.2 rfl))
    unfold St.gd
    rw [h1, h2]
end
end Go.Proofs.YthnjbnfnljjepabDoor
end
section
set_option linter.unusedSimpArgs false
set_option linter.unusedVariables false
namespace Go.Proofs.YthnjbnfnljjepabDoor
open Go Go.RowKit

/-- an operation that has been read: what it brought, what it looked at -/
structure En where
  i : PI
  v : Av
  ch : Cg
  rd : List Rg
def St.en (s : St) (e : En) : St := s.ap e.i.dst e.v e.ch
/-- the entries that L names, in the order of the text -/
def stF : List En → Nat → (Nat → Bool) → St → St
  | [], _, _, s => s
  | e :: r, k, L, s => stF r (k + 1) L (cond (L k) (s.en e) s)

/-- e does not touch what f looks at or writes -/
def IndE (e f : En) : Prop := indep1 e.i f.i e.ch.wrs f.rd f.ch.wrs = true ∧ indep1 f.i e.i f.ch.wrs e.rd e.ch.wrs = true

theorem rgApart_iff {a b : Rg} : rgApart a b = true ↔ a.1 ≠ b.1 ∨ (a.2.2 < big ∧ b.2.2 < big ∧ (a.2.1 + a.2.2 ≤ b.2.1 ∨ b.2.1 + b.2.2 ≤ a.2.1)) := by
  simp [rgApart, and_assoc]
theorem rgsApart_iff {xs ys : List Rg} : rgsApart xs ys = true ↔ ∀ x, x ∈ xs → ∀ y, y ∈ ys → x.1 ≠ y.1 ∨ (x.2.2 < big ∧ y.2.2 < big ∧ (x.2.1 + x.2.2 ≤ y.2.1 ∨ y.2.1 + y.2.2 ≤ x.2.1)) := by
  unfold rgsApart
  rw [List.all_eq_true]
  constructor
  · intro h x hx y hy
    exact rgApart_iff.1 (List.all_eq_true.1 (h x hx) y hy)
  · intro h x hx
    exact List.all_eq_true.2 fun y hy => rgApart_iff.2 (h x hx y hy)
theorem notIn_iff {d : Option Nat} {l : List Nat} : notIn d l = true ↔ ∀ x, d = some x → x ∉ l := by
  cases d with
  | none => simp [notIn]
  | some d => simp [notIn]

theorem up_comm {α : Type} (f : Nat → α) {a b : Nat} (h : a ≠ b) (x y : α) : up (up f a x) b y = up (up f b y) a x := by
  funext z
  simp only [up_at]
  (repeat' split) <;> first | rfl | (exfalso; omega)
def md {α : Type} (f : Nat → α) (a : Nat) (F : α → α) : Nat → α := up f a (F (f a))
theorem md_comm {α : Type} (f : Nat → α) {a b : Nat} (h : a ≠ b) (F G : α → α) : md (md f a F) b G = md (md f b G) a F := by
  have h1 : md f a F b = f b := by unfold md; rw [up_at, if_neg (Ne.symm h)]
  have h2 : md f b G a = f a := by unfold md; rw [up_at, if_neg h]
  show up (md f a F) b (G (md f a F b)) = up (md f b G) a (F (md f b G a))
  rw [h1, h2]
  exact up_comm f h _ _
theorem md_same {α : Type} (f : Nat → α) (a : Nat) (F G : α → α) : md (md f a F) a G = md f a (fun x => G (F x)) := by
  funext z
  unfold md
  simp only [up_at]
  by_cases h : z = a
  · simp [h]
  · simp [h]

def Cg.gF : Cg → (Nat → Nat) → Nat → Nat
  | .new o _, f => md f o (· + 1)
  | _, f => f
def wrF (off : Nat) (cs : List Cl) : Ob → Ob
  | .cells old => .cells (wrAt old off cs)
  | x => x
def rowF (n : Nat) : Ob → Ob
  | .row E sz _ => .row E sz n
  | x => x
def Cg.oF : Cg → (Nat → Ob) → Nat → Ob
  | .no, f => f
  | .new o x, f => md f o (fun _ => x)
  | .wr o off cs, f => md f o (wrF off cs)
  | .row o n, f => md f o (rowF n)
  | .ab o H, f => md f o (fun _ => .ab H)
def dF (dst : Option Nat) (v : Av) (f : Nat → Av) : Nat → Av := match dst with
  | some d => up f d v
  | none => f
theorem ap_eq (s : St) (dst : Option Nat) (v : Av) (ch : Cg) : s.ap dst v ch = ⟨dF dst v s.sl, ch.gF s.gen, ch.oF s.ob⟩ := by
  cases ch <;> first
    | rfl
    | (simp only [St.ap, Cg.gF, Cg.oF, md, wrF, rowF]
       congr 2
       (split <;> simp_all))

theorem wrF_comm {a b : Nat} {xs ys : List Cl} (h : a + xs.length ≤ b ∨ b + ys.length ≤ a) (x : Ob) : wrF b ys (wrF a xs x) = wrF a xs (wrF b ys x) := by
  cases x <;> try rfl
  simp only [wrF]
  rw [wrAt_comm _ h]

theorem chs_comm {c d : Cg} (h : rgsApart c.wrs d.wrs = true) (G : Nat → Nat) (O : Nat → Ob) : d.gF (c.gF G) = c.gF (d.gF G) ∧ d.oF (c.oF O) = c.oF (d.oF O) := by
  have hw := rgsApart_iff.1 h
  cases c <;> cases d <;> simp only [Cg.wrs] at hw <;> (try exact ⟨rfl, rfl⟩)
  all_goals
    have hh := hw _ (List.mem_singleton.2 rfl) _ (List.mem_singleton.2 rfl)
    dsimp only at hh
    simp only [Cg.gF, Cg.oF]
  case wr.wr a x xs b y ys =>
    refine ⟨trivial, ?_⟩
    by_cases he : a = b
    · subst he
      have hd : x + xs.length ≤ y ∨ y + ys.length ≤ x := by
        rcases hh with hh | hh
        · exact absurd rfl hh
        · exact hh.2.2
      rw [md_same, md_same]
      congr 1
      funext z
      exact wrF_comm hd z
    · exact md_comm _ he _ _
  all_goals
    have hne := hh.resolve_right (fun h => by have := h.1; have := h.2.1; omega)
    first
      | exact ⟨md_comm _ hne _ _, md_comm _ hne _ _⟩
      | exact ⟨trivial, md_comm _ hne _ _⟩

theorem IndE.symm {e f : En} (h : IndE e f) : IndE f e := ⟨h.2, h.1⟩
/-- two entries that are apart may change places -/
theorem en_comm {s : St} {e f : En} (h : IndE e f) : (s.en e).en f = (s.en f).en e := by
  obtain ⟨h1, h2⟩ := h
  simp only [indep1, Bool.and_eq_true] at h1 h2
  obtain ⟨⟨⟨_, _⟩, hw⟩, hd⟩ := h1
  have hd' := notIn_iff.1 hd
  obtain ⟨hg, ho⟩ := chs_comm hw s.gen s.ob
  unfold St.en
  simp only [ap_eq]
  rw [hg, ho]
  congr 1
  cases hd1 : e.i.dst with
  | none => rfl
  | some a =>
    cases hd2 : f.i.dst with
    | none => rfl
    | some b =>
      have hne : a ≠ b := by
        have := hd' a hd1
        rw [hd2] at this
        simpa using this
      exact up_comm _ hne _ _

theorem rgEq.md {x y : Ob} {off n : Nat} (h : rgEq x y off n) : ∀ F : Ob → Ob, (F = (fun _ => F x) ∨ (∃ a cs, F = wrF a cs) ∨ ∃ k, F = rowF k) → rgEq (F x) (F y) off n := by
  intro F hF
  rcases hF with hF | ⟨a, cs, rfl⟩ | ⟨k, rfl⟩
  · have : F y = F x := by rw [hF]
    rw [this]; exact rgEq.refl _ _ _
  · cases x <;> cases y <;> simp only [rgEq] at h <;> first | (cases h; done) | skip
    · exact rgEq.refl _ _ _
    · refine ⟨by rw [wrAt_length, wrAt_length]; exact h.1, fun i h1 h2 => ?_⟩
      rw [wrAt_get, wrAt_get, h.1, h.2 i h1 h2]
    · rw [h]; exact rgEq.refl _ _ _
    · rw [h]; exact rgEq.refl _ _ _
  · cases x <;> cases y <;> simp only [rgEq] at h <;> first | (cases h; done) | skip
    · exact rgEq.refl _ _ _
    · exact ⟨h.1, h.2⟩
    · rw [h]; exact rgEq.refl _ _ _
    · rw [h]; exact rgEq.refl _ _ _

/-- the same entry in both -/
theorem Agree.both {looks : List Nat} {rd : List Rg} {s t : St} (h : Agree looks rd s t) (e : En) : Agree looks rd (s.en e) (t.en e) := by
  unfold St.en
  rw [ap_eq, ap_eq]
  refine ⟨fun x hx => ?_, fun r hr => ?_⟩
  · show dF _ _ s.sl x = dF _ _ t.sl x
    cases e.i.dst with
    | none => exact h.sl x hx
    | some d =>
      show up s.sl d e.v x = up t.sl d e.v x
      rw [up_at, up_at, h.sl x hx]
  · obtain ⟨h1, h2⟩ := h.ob r hr
    show e.ch.gF s.gen r.1 = e.ch.gF t.gen r.1 ∧ rgEq (e.ch.oF s.ob r.1) (e.ch.oF t.ob r.1) _ _
    cases e.ch with
    | no => exact ⟨h1, h2⟩
    | new o x =>
      simp only [Cg.gF, Cg.oF, Go.Proofs.YthnjbnfnljjepabDoor.md, up_at]
      by_cases he : r.1 = o
      · rw [if_pos he, if_pos he, if_pos he, if_pos he]
        rw [he] at h1
        exact ⟨by rw [h1], rgEq.refl _ _ _⟩
      · rw [if_neg he, if_neg he, if_neg he, if_neg he]
        exact ⟨h1, h2⟩
    | wr o a cs =>
      simp only [Cg.gF, Cg.oF, Go.Proofs.YthnjbnfnljjepabDoor.md, up_at]
      refine ⟨h1, ?_⟩
      by_cases he : r.1 = o
      · rw [if_pos he, if_pos he]
        rw [he] at h2
        exact rgEq.md h2 _ (.inr (.inl ⟨a, cs, rfl⟩))
      · rw [if_neg he, if_neg he]
        exact h2
    | row o k =>
      simp only [Cg.gF, Cg.oF, Go.Proofs.YthnjbnfnljjepabDoor.md, up_at]
      refine ⟨h1, ?_⟩
      by_cases he : r.1 = o
      · rw [if_pos he, if_pos he]
        rw [he] at h2
        exact rgEq.md h2 _ (.inr (.inr ⟨k, rfl⟩))
      · rw [if_neg he, if_neg he]
        exact h2
    | ab o H =>
      simp only [Cg.gF, Cg.oF, Go.Proofs.YthnjbnfnljjepabDoor.md, up_at]
      refine ⟨h1, ?_⟩
      by_cases he : r.1 = o
      · rw [if_pos he, if_pos he]
        exact rgEq.refl _ _ _
      · rw [if_neg he, if_neg he]
        exact h2

theorem Agree.refl (looks : List Nat) (rd : List Rg) (s : St) : Agree looks rd s s := ⟨fun _ _ => rfl, fun _ _ => ⟨rfl, rgEq.refl _ _ _⟩⟩
theorem rgEq.symm {x y : Ob} {off n : Nat} (h : rgEq x y off n) : rgEq y x off n := by
  cases x <;> cases y <;> simp only [rgEq] at h ⊢ <;> first | (cases h; done) | exact h.symm | exact ⟨h.1.symm, fun i a b => (h.2 i a b).symm⟩ | skip
theorem rgEq.trans {x y z : Ob} {off n : Nat} (h : rgEq x y off n) (k : rgEq y z off n) : rgEq x z off n := by
  cases x <;> cases y <;> simp only [rgEq] at h <;> first | (cases h; done) | skip
  · exact k
  · cases z <;> simp only [rgEq] at k ⊢ <;> first | (cases k; done) | exact ⟨h.1.trans k.1, fun i a b => (h.2 i a b).trans (k.2 i a b)⟩
  · rw [h]; exact k
  · rw [h]; exact k
theorem Agree.symm {looks : List Nat} {rd : List Rg} {s t : St} (h : Agree looks rd s t) : Agree looks rd t s := ⟨fun x hx => (h.sl x hx).symm, fun r hr => ⟨(h.ob r hr).1.symm, (h.ob r hr).2.symm⟩⟩
theorem Agree.trans {looks : List Nat} {rd : List Rg} {s t u : St} (h : Agree looks rd s t) (k : Agree looks rd t u) : Agree looks rd s u :=
  ⟨fun x hx => (h.sl x hx).trans (k.sl x hx), fun r hr => ⟨(h.ob r hr).1.trans (k.ob r hr).1, (h.ob r hr).2.trans (k.ob r hr).2⟩⟩

/-- an entry that does not touch what is looked at -/
theorem Agree.skip {s : St} {e f : En} (h : IndE e f) : Agree f.i.looks f.rd s (s.en e) := by
  obtain ⟨h1, _⟩ := h
  simp only [indep1, Bool.and_eq_true] at h1
  obtain ⟨⟨⟨hl, hr⟩, _⟩, _⟩ := h1
  have hl' := notIn_iff.1 hl
  have hr' := rgsApart_iff.1 hr
  unfold St.en
  rw [ap_eq]
  refine ⟨fun x hx => ?_, fun r hrr => ?_⟩
  · show s.sl x = dF _ _ s.sl x
    cases hd : e.i.dst with
    | none => rfl
    | some d =>
      show _ = up s.sl d e.v x
      rw [up_at, if_neg]
      rintro rfl
      exact hl' x hd hx
  · show s.gen r.1 = e.ch.gF s.gen r.1 ∧ rgEq (s.ob r.1) (e.ch.oF s.ob r.1) _ _
    cases hc : e.ch with
    | no => exact ⟨rfl, rgEq.refl _ _ _⟩
    | new o x =>
      rw [hc] at hr'
      have hne := (hr' _ (List.mem_singleton.2 rfl) r hrr).resolve_right (fun h => by have := h.1; dsimp only at this; omega)
      dsimp only at hne
      simp only [Cg.gF, Cg.oF, Go.Proofs.YthnjbnfnljjepabDoor.md, up_at, if_neg (Ne.symm hne)]
      exact ⟨trivial, rgEq.refl _ _ _⟩
    | row o k =>
      rw [hc] at hr'
      have hne := (hr' _ (List.mem_singleton.2 rfl) r hrr).resolve_right (fun h => by have := h.1; dsimp only at this; omega)
      dsimp only at hne
      simp only [Cg.gF, Cg.oF, Go.Proofs.YthnjbnfnljjepabDoor.md, up_at, if_neg (Ne.symm hne)]
      exact ⟨trivial, rgEq.refl _ _ _⟩
    | ab o H =>
      rw [hc] at hr'
      have hne := (hr' _ (List.mem_singleton.2 rfl) r hrr).resolve_right (fun h => by have := h.1; dsimp only at this; omega)
      dsimp only at hne
      simp only [Cg.gF, Cg.oF, Go.Proofs.YthnjbnfnljjepabDoor.md, up_at, if_neg (Ne.symm hne)]
      exact ⟨trivial, rgEq.refl _ _ _⟩
    | wr o a cs =>
      rw [hc] at hr'
      have hh := hr' _ (List.mem_singleton.2 rfl) r hrr
      dsimp only at hh
      simp only [Cg.gF, Cg.oF, Go.Proofs.YthnjbnfnljjepabDoor.md, up_at]
      refine ⟨trivial, ?_⟩
      by_cases he : r.1 = o
      · rw [if_pos he, he]
        have hd := (hh.resolve_left (by rw [he]; exact fun h => h rfl)).2.2
        cases s.ob o with
        | cells old =>
          refine ⟨(wrAt_length _ _ _).symm, fun i h1 h2 => ?_⟩
          rw [wrAt_get, if_neg]
          rintro ⟨h3, h4, h5⟩
          omega
        | no => exact rgEq.refl _ _ _
        | row _ _ _ => exact rgEq.refl _ _ _
        | ab _ => exact rgEq.refl _ _ _
      · rw [if_neg he]; exact rgEq.refl _ _ _

/-! ### every order -/
theorem stF_set : ∀ (es : List En) (k : Nat) (L : Nat → Bool) (j : Nat) (e : En) (s : St), k ≤ j → es[j - k]? = some e → L j = false →
    (∀ (i : Nat) f, j < i → es[i - k]? = some f → L i = true → IndE e f) → stF es k (fun i => if i = j then true else L i) s = (stF es k L s).en e
  | [], k, L, j, e, s, hk, he, _, _ => by simp at he
  | f :: r, k, L, j, e, s, hk, he, hL, hi => by
    by_cases hkj : k = j
    · subst hkj
      simp at he
      subst he
      -- behind it nothing is set anew; it moves to the end
      have mv : ∀ (r : List En) (k' : Nat) (s : St), k < k' → (∀ (i : Nat) g, k < i → r[i - k']? = some g → k' ≤ i → L i = true → IndE f g) → stF r k' (fun i => if i = k then true else L i) (s.en f) = (stF r k' L s).en f := by
        intro r
        induction r with
        | nil => intro k' s _ _; rfl
        | cons g r ih =>
          intro k' s hkk hg
          show stF r (k' + 1) _ (cond (if k' = k then true else L k') ((s.en f).en g) (s.en f)) = (stF r (k' + 1) L (cond (L k') (s.en g) s)).en f
          rw [if_neg (show ¬ k' = k by omega)]
          cases hL' : L k' with
          | true =>
            simp only [cond]
            rw [en_comm (hg k' g hkk (by simp) (Nat.le_refl _) hL')]
            exact ih (k' + 1) _ (by omega) (fun i g' h1 h2 h3 h4 => hg i g' h1 (by
              rw [show i - k' = (i - (k' + 1)) + 1 by omega, List.getElem?_cons_succ]; exact h2) (by omega) h4)
          | false =>
            simp only [cond]
            exact ih (k' + 1) _ (by omega) (fun i g' h1 h2 h3 h4 => hg i g' h1 (by
              rw [show i - k' = (i - (k' + 1)) + 1 by omega, List.getElem?_cons_succ]; exact h2) (by omega) h4)
      simp only [stF, if_true, hL, cond]
      exact mv r (k + 1) s (by omega) (fun i g h1 h2 h3 h4 => hi i g h1 (by
        rw [show i - k = (i - (k + 1)) + 1 by omega, List.getElem?_cons_succ]; exact h2) h4)
    · show stF r (k + 1) _ (cond (if k = j then true else L k) (s.en f) s) = (stF r (k + 1) L (cond (L k) (s.en f) s)).en e
      rw [if_neg hkj]
      exact stF_set r (k + 1) L j e _ (by omega) (by
        rw [show j - k = (j - (k + 1)) + 1 by omega, List.getElem?_cons_succ] at he; exact he) hL (fun i g h1 h2 h3 => hi i g h1 (by
        rw [show i - k = (i - (k + 1)) + 1 by omega, List.getElem?_cons_succ]; exact h2) h3)

theorem stF_agree {j : En} : ∀ (es : List En) (k : Nat) (L M : Nat → Bool) (s t : St), Agree j.i.looks j.rd s t →
    (∀ (i : Nat) e, k ≤ i → es[i - k]? = some e → L i = M i ∨ IndE e j) → Agree j.i.looks j.rd (stF es k L s) (stF es k M t)
  | [], _, _, _, _, _, h, _ => h
  | e :: r, k, L, M, s, t, h, hi => by
    simp only [stF]
    refine stF_agree r (k + 1) L M _ _ ?_ (fun i e' h1 h2 => hi i e' (by omega) (by
      rw [show i - k = (i - (k + 1)) + 1 by omega, List.getElem?_cons_succ]; exact h2))
    rcases hi k e (Nat.le_refl _) (by simp) with he | he
    · rw [he]
      cases M k
      · exact h
      · exact h.both e
    · cases L k <;> cases M k
      · exact h
      · exact h.trans (Agree.skip he)
      · exact (Agree.skip he).symm.trans h
      · exact h.both e

theorem stF_all : ∀ (es : List En) (k m : Nat) (s : St), stF es k (fun i => decide (i < m)) s = (es.take (m - k)).foldl St.en s
  | [], k, m, s => by simp [stF]
  | e :: r, k, m, s => by
    show stF r (k + 1) _ (cond (decide (k < m)) (s.en e) s) = _
    rw [stF_all r (k + 1) m]
    by_cases h : k < m
    · rw [decide_eq_true h, show m - k = (m - (k + 1)) + 1 by omega]
      rfl
    · rw [decide_eq_false h, show m - k = 0 by omega, show m - (k + 1) = 0 by omega]
      rfl
end Go.Proofs.YthnjbnfnljjepabDoor
end
section
set_option linter.unusedSimpArgs false
set_option linter.unusedVariables false
namespace Go.Proofs.YthnjbnfnljjepabDoor
open Go Go.RowKit

theorem go_inv {env : Env} {i : PI} {s : St} {K : Av → Cg → Prop} (h : i.go env s K) : ∃ v ch, i.go env s (fun v' ch' => v' = v ∧ ch' = ch) ∧ K v ch := by
  have hop : ∀ K : Av → Cg → Prop, i.op.go env s (i.dst.getD 0) K → ∃ v ch, i.op.go env s (i.dst.getD 0) (fun v' ch' => v' = v ∧ ch' = ch) ∧ K v ch := fun K hg => by
    cases hc : i.op with
    | call f xs =>
      rw [hc] at hg
      have hg' : callG env s (i.dst.getD 0) K f xs (s.recv xs) (s.prcv xs) := hg
      show ∃ v ch, callG env s (i.dst.getD 0) (fun v' ch' => v' = v ∧ ch' = ch) f xs (s.recv xs) (s.prcv xs) ∧ K v ch
      cases hre : s.recv xs with
      | none =>
       cases hpe : s.prcv xs with
       | some p =>
        obtain ⟨o, g⟩ := p
        rw [hre, hpe] at hg'
        obtain ⟨az, e1, e2⟩ := withSome_iff.1 hg'
        obtain ⟨ds, e3, ds', rs, e4, e5, e6⟩ := withSome_iff.1 e2
        exact ⟨_, _, withSome_iff.2 ⟨az, e1, withSome_iff.2 ⟨ds, e3, ds', rs, e4, e5, rfl, rfl⟩⟩, e6⟩
       | none =>
        rw [hre, hpe] at hg'
        obtain ⟨az, e1, e2⟩ := withSome_iff.1 hg'
        rcases e2 with ⟨rs, e2, e3⟩ | ⟨H, rs, e2, e3⟩
        · exact ⟨_, _, withSome_iff.2 ⟨az, e1, .inl ⟨rs, e2, rfl, rfl⟩⟩, e3⟩
        · exact ⟨_, _, withSome_iff.2 ⟨az, e1, .inr ⟨H, rs, e2, rfl, rfl⟩⟩, e3⟩
      | some p =>
        obtain ⟨o, g⟩ := p
        rw [hre] at hg'
        obtain ⟨az, e1, e2⟩ := withSome_iff.1 hg'
        obtain ⟨H, e3, e4⟩ := withSome_iff.1 e2
        rcases e4 with ⟨H', rs, e5, e6⟩ | ⟨H2, e0, e5, e6⟩
        · exact ⟨_, _, withSome_iff.2 ⟨az, e1, withSome_iff.2 ⟨H, e3, .inl ⟨H', rs, e5, rfl, rfl⟩⟩⟩, e6⟩
        · exact ⟨_, _, withSome_iff.2 ⟨az, e1, withSome_iff.2 ⟨H, e3, .inr ⟨H2, e0, e5, rfl, rfl⟩⟩⟩, e6⟩
    | callv xv f xs =>
      rw [hc] at hg
      obtain ⟨u0, hu0, hg⟩ := withSome_iff.1 hg
      suffices hh : ∃ v ch, callG env s (i.dst.getD 0) (fun v' ch' => v' = v ∧ ch' = ch) f xs (s.recv xs) (s.prcv xs) ∧ K v ch by
        obtain ⟨v, ch, h1, h2⟩ := hh
        exact ⟨v, ch, withSome_iff.2 ⟨u0, hu0, h1⟩, h2⟩
      have hg' : callG env s (i.dst.getD 0) K f xs (s.recv xs) (s.prcv xs) := hg
      show ∃ v ch, callG env s (i.dst.getD 0) (fun v' ch' => v' = v ∧ ch' = ch) f xs (s.recv xs) (s.prcv xs) ∧ K v ch
      cases hre : s.recv xs with
      | none =>
       cases hpe : s.prcv xs with
       | some p =>
        obtain ⟨o, g⟩ := p
        rw [hre, hpe] at hg'
        obtain ⟨az, e1, e2⟩ := withSome_iff.1 hg'
        obtain ⟨ds, e3, ds', rs, e4, e5, e6⟩ := withSome_iff.1 e2
        exact ⟨_, _, withSome_iff.2 ⟨az, e1, withSome_iff.2 ⟨ds, e3, ds', rs, e4, e5, rfl, rfl⟩⟩, e6⟩
       | none =>
        rw [hre, hpe] at hg'
        obtain ⟨az, e1, e2⟩ := withSome_iff.1 hg'
        rcases e2 with ⟨rs, e2, e3⟩ | ⟨H, rs, e2, e3⟩
        · exact ⟨_, _, withSome_iff.2 ⟨az, e1, .inl ⟨rs, e2, rfl, rfl⟩⟩, e3⟩
        · exact ⟨_, _, withSome_iff.2 ⟨az, e1, .inr ⟨H, rs, e2, rfl, rfl⟩⟩, e3⟩
      | some p =>
        obtain ⟨o, g⟩ := p
        rw [hre] at hg'
        obtain ⟨az, e1, e2⟩ := withSome_iff.1 hg'
        obtain ⟨H, e3, e4⟩ := withSome_iff.1 e2
        rcases e4 with ⟨H', rs, e5, e6⟩ | ⟨H2, e0, e5, e6⟩
        · exact ⟨_, _, withSome_iff.2 ⟨az, e1, withSome_iff.2 ⟨H, e3, .inl ⟨H', rs, e5, rfl, rfl⟩⟩⟩, e6⟩
        · exact ⟨_, _, withSome_iff.2 ⟨az, e1, withSome_iff.2 ⟨H, e3, .inr ⟨H2, e0, e5, rfl, rfl⟩⟩⟩, e6⟩
    | ldg x =>
      rw [hc] at hg
      obtain ⟨v, hv, hk⟩ := withSome_iff.1 hg
      exact ⟨_, _, withSome_iff.2 ⟨v, hv, rfl, rfl⟩, hk⟩
    | _ =>
      rw [hc, PO.go_fn rfl] at hg
      obtain ⟨⟨v, ch⟩, e1, e2⟩ := withSome_iff.1 hg
      exact ⟨v, ch, by rw [PO.go_fn rfl]; exact withSome_iff.2 ⟨(v, ch), e1, rfl, rfl⟩, e2⟩
  unfold PI.go at h ⊢
  cases hg : i.guard with
  | none => rw [hg] at h; exact hop K h
  | some p =>
    obtain ⟨t, want⟩ := p
    rw [hg] at h
    obtain ⟨b, e1, e2, e3⟩ := withSome_iff.1 h
    by_cases hb : b = some want
    · obtain ⟨v, ch, e4, e5⟩ := hop K (e2 hb)
      exact ⟨v, ch, withSome_iff.2 ⟨b, e1, fun _ => e4, fun h => absurd hb h⟩, e5⟩
    · exact ⟨skp, .no, withSome_iff.2 ⟨b, e1, fun h => absurd h hb, fun _ => ⟨rfl, rfl⟩⟩, e3 hb⟩

theorem evalD_inv {env : Env} : ∀ (is : List PI) (s : St) (acc : List (List Rg × List Rg)) (K : St → List (List Rg × List Rg) → Prop), evalD env is s acc K →
    ∃ es : List En, es.map (·.i) = is ∧ (∀ (j : Nat) e, es[j]? = some e → e.i.go env ((es.take j).foldl St.en s) (fun v ch => v = e.v ∧ ch = e.ch) ∧ e.rd = e.i.rd ((es.take j).foldl St.en s)) ∧
      K (es.foldl St.en s) (acc.reverse ++ es.map fun e => (e.rd, e.ch.wrs))
  | [], s, acc, K, h => ⟨[], rfl, fun j e h => by simp at h, by simpa [evalD] using h⟩
  | i :: is, s, acc, K, h => by
    obtain ⟨v, ch, h1, h2⟩ := go_inv h
    obtain ⟨es, h3, h4, h5⟩ := evalD_inv is _ _ K h2
    refine ⟨⟨i, v, ch, i.rd s⟩ :: es, by simp [h3], fun j e he => ?_, ?_⟩
    · cases j with
      | zero => simp at he; subst he; exact ⟨h1, rfl⟩
      | succ j => exact h4 j e (by simpa using he)
    · have h6 := h5
      simp only [List.reverse_cons, List.append_assoc, List.singleton_append] at h6
      exact h6

/-! the order that the text lays down -/
def Closed (is : List PI) (L : Nat → Bool) : Prop := ∀ (k : Nat) i, is[k]? = some i → L k = true → ∀ e, e ∈ i.after → L e = true

theorem fold_bit (acc : List Nat) : ∀ (l : List Nat) (m x : Nat), (l.foldl (fun m e => m ||| (1 <<< e) ||| acc.getD e 0) m).testBit x = true → m.testBit x = true ∨ ∃ e, e ∈ l ∧ (x = e ∨ (acc.getD e 0).testBit x = true)
  | [], m, x, h => .inl h
  | e :: l, m, x, h => by
    rcases fold_bit acc l _ x h with h1 | ⟨e', h1, h2⟩
    · simp only [Nat.testBit_or, Bool.or_eq_true, Nat.one_shiftLeft, Nat.testBit_two_pow] at h1
      rcases h1 with (h1 | h1) | h1
      · exact .inl h1
      · exact .inr ⟨e, by simp, .inl (by simpa [eq_comm] using h1)⟩
      · exact .inr ⟨e, by simp, .inr h1⟩
    · exact .inr ⟨e', by simp [h1], h2⟩

theorem masks_ok (is : List PI) {L : Nat → Bool} (hL : Closed is L) : ∀ (r : List PI) (acc : List Nat), r = is.drop acc.length →
    (∀ (j : Nat) i x, is[j]? = some i → (acc.getD j 0).testBit x = true → (∀ e, e ∈ i.after → L e = true) → L x = true) →
    ∀ (j : Nat) i x, is[j]? = some i → ((masks acc r).getD j 0).testBit x = true → (∀ e, e ∈ i.after → L e = true) → L x = true
  | [], acc, _, h => h
  | p :: r, acc, hr, h => by
    simp only [masks]
    have hp : is[acc.length]? = some p := by
      have := congrArg (·[0]?) hr
      simpa using this.symm
    refine masks_ok is hL r _ (by
      have := congrArg List.tail hr
      simpa using this) (fun j i x hj hb ha => ?_)
    by_cases hlt : j < acc.length
    · refine h j i x hj ?_ ha
      rw [List.getD_eq_getElem?_getD, List.getElem?_append_left hlt] at hb
      rwa [List.getD_eq_getElem?_getD]
    · by_cases he : j = acc.length
      · subst he
        rw [hp] at hj
        cases hj
        rw [List.getD_eq_getElem?_getD, List.getElem?_append_right (Nat.le_refl _)] at hb
        simp only [Nat.sub_self, List.getElem?_cons_zero, Option.getD_some] at hb
        rcases fold_bit acc _ _ _ hb with h1 | ⟨e, h1, h2⟩
        · simp at h1
        · rcases h2 with rfl | h2
          · exact ha _ h1
          · cases hee : is[e]? with
            | none =>
              have : acc.getD e 0 = 0 := by
                rw [List.getD_eq_getElem?_getD]
                have h3 := List.getElem?_eq_none_iff.1 hee
                have h4 := (List.getElem?_eq_some_iff.1 hp).1
                rw [List.getElem?_eq_none (by omega)]
                rfl
              rw [this] at h2
              simp at h2
            | some i' => exact h e i' x hee h2 (hL e i' hee (ha e h1))
      · have hge : acc.length + 1 ≤ j := by omega
        rw [List.getD_eq_getElem?_getD, List.getElem?_eq_none (by simp; omega)] at hb
        simp at hb

/-- no edge points forward -/
def backOk (is : List PI) : Bool := is.zipIdx.all fun p => p.1.after.all fun e => decide (e < p.2)

theorem mem_after {P : Program} {n : Nat} {eqs : List (Nat × List Bool)} {ops : Array Oper} {o : Oper} {i : PI} (h : compI P n eqs ops o = some i) : i.after = o.after.toList.filterMap fun e => if Region.binds .any e = true then some e.on else none := by
  unfold compI at h
  split at h
  · split at h
    · split at h
      · cases h; rfl
      · split at h
        · cases h; rfl
        · cases h
    · cases h
  · cases h

section
variable {P : Program} {n : Nat} {w0 : World} {S0 : Nat → Nat}

theorem draw_sound [Bor] [I : WInv] {env : Env} (hE : EnvOK P env) (hp : ∀ w, ButB w0.heap.size w0 w → I.p w) {eqs : List (Nat × List Bool)} (heq : ∀ p, p ∈ eqs → EqT P p.1 p.2) (hm : P.follows .mixedOrders = true) {ops : Array Oper} {is : List PI} (hc : ops.toList.map (compI P n eqs ops) = is.map some) {Q : Exit → Act → World → Prop} {K : St → Prop}
    (hK : ∀ s W a w, K s → Sim w0 S0 n W s a w → Q .normal a w) {W : Wit} {s : St} {a : Act} {w : World} (hs : Sim w0 S0 n W s a w) (hback : backOk is = true) (hev : evalD env is s [] fun s' fts => drawOk is fts = true ∧ K s') (id : Nat) : (Code.region id ops true).wp P Q a w := by
  obtain ⟨es, hes, hgo, hdraw, hfin⟩ := evalD_inv is s [] _ hev
  simp only [List.reverse_nil, List.nil_append] at hdraw
  have hlen : es.length = is.length := by rw [← hes]; simp
  have hlen2 : ops.size = is.length := by
    have := congrArg List.length hc; simpa using this
  have hei : ∀ (j : Nat) e, es[j]? = some e → is[j]? = some e.i := fun j e h => by rw [← hes, List.getElem?_map, h]; rfl
  have hoi : ∀ (j : Nat) i, is[j]? = some i → ∃ o, ops[j]? = some o ∧ compI P n eqs ops o = some i := fun j i h => by
    have h1 := congrArg (·[j]?) hc
    simp only [List.getElem?_map, h, Option.map_some] at h1
    cases ho : ops[j]? with
    | none => rw [Array.getElem?_toList, ho] at h1; simp at h1
    | some o => rw [Array.getElem?_toList, ho] at h1; simp at h1; exact ⟨o, rfl, h1⟩
  -- what is not ordered is apart
  have hind : ∀ (i j : Nat) e f, i < j → es[i]? = some e → es[j]? = some f → ((masks [] is).getD j 0).testBit i = false → IndE e f := fun i j e f hij he hf hb => by
    unfold drawOk at hdraw
    have h1 := List.all_eq_true.1 hdraw j (List.mem_range.2 (by rw [← hlen]; exact (List.getElem?_eq_some_iff.1 hf).1))
    have h2 := List.all_eq_true.1 h1 i (List.mem_range.2 hij)
    rw [hb, Bool.false_or, hei i e he, hei j f hf, List.getElem?_map, List.getElem?_map, he, hf] at h2
    simp only [Option.map_some, Bool.and_eq_true] at h2
    exact h2
  refine wp_region_any hm ?_
  have main : ∀ (fuel : Nat) (listed : Array Bool) (R : List Nat) (W : Wit) (a : Act) (w : World), listed.size = ops.size → Closed is (fun k => listed.getD k false) → R.length = fuel → (∀ j, j < ops.size → listed.getD j false = false → j ∈ R) →
      Sim w0 S0 n W (stF es 0 (fun k => listed.getD k false) s) a w → wpAny P .any ops Q fuel listed a w := by
    intro fuel
    -- if nothing is left, all is done
    have done : ∀ (listed : Array Bool) (W : Wit) (a : Act) (w : World), (∀ j, j < ops.size → listed.getD j false = true) → Sim w0 S0 n W (stF es 0 (fun k => listed.getD k false) s) a w → Q .normal a w := fun listed W a w hall hsim => by
      refine hK _ W a w hfin ?_
      have h1 : stF es 0 (fun k => listed.getD k false) s = stF es 0 (fun k => decide (k < es.length)) s := by
        have : ∀ (r : List En) (k : Nat) (s : St), k + r.length ≤ es.length → stF r k (fun k => listed.getD k false) s = stF r k (fun k => decide (k < es.length)) s := by
          intro r
          induction r with
          | nil => intro k s _; rfl
          | cons e r ih =>
            intro k s hk
            simp only [List.length_cons] at hk
            show stF r (k + 1) _ (cond (listed.getD k false) (s.en e) s) = stF r (k + 1) _ (cond (decide (k < es.length)) (s.en e) s)
            rw [hall k (by omega), decide_eq_true (show k < es.length by omega)]
            exact ih (k + 1) _ (by omega)
        exact this es 0 s (by omega)
      rw [h1, stF_all] at hsim
      simpa using hsim
    have stuck : ∀ (listed : Array Bool), listed.size = ops.size → Region.ready .any ops listed = [] → ∀ j, j < ops.size → listed.getD j false = true := fun listed hsz hr => by
      intro j
      induction j using Nat.strongRecOn with
      | _ j ih =>
        intro hj
        cases hb : listed.getD j false with
        | true => rfl
        | false =>
          exfalso
          have : j ∈ Region.ready .any ops listed := by
            rw [mem_ready]
            obtain ⟨o, ho, hco⟩ := hoi j _ (List.getElem?_eq_getElem (by omega))
            refine ⟨by rw [Array.getD_eq_getD_getElem?] at hb ⊢; rw [Array.getElem?_eq_getElem (by omega)] at hb ⊢; simpa using hb, o, ho, fun e he hbind => ?_⟩
            have hmem : e.on ∈ is[j].after := by
              rw [mem_after hco]
              exact List.mem_filterMap.2 ⟨e, by simpa using he, by rw [if_pos hbind]⟩
            have hlt : e.on < j := by
              unfold backOk at hback
              have h1 := List.all_eq_true.1 hback (is[j], j) (by
                rw [List.mk_mem_zipIdx_iff_getElem?]
                exact List.getElem?_eq_getElem (by omega))
              simpa using List.all_eq_true.1 h1 _ hmem
            exact ih e.on hlt (by omega)
          rw [hr] at this
          cases this
    induction fuel with
    | zero =>
      intro listed R W a w hsz _ hR hall hsim
      have hR0 : R = [] := List.eq_nil_of_length_eq_zero hR
      subst hR0
      have hall' : ∀ j, j < ops.size → listed.getD j false = true := fun j hj => by
        cases hb : listed.getD j false with
        | true => rfl
        | false => exact absurd (hall j hj hb) (by simp)
      refine ⟨?_, done listed W a w hall' hsim⟩
      apply List.eq_nil_iff_forall_not_mem.2
      intro j hj
      obtain ⟨h1, o, ho, _⟩ := mem_ready.1 hj
      have hlt := (Array.getElem?_eq_some_iff.1 ho).1
      have h2 := hall' j hlt
      rw [Array.getD_eq_getD_getElem?, Array.getElem?_eq_getElem (by omega)] at h1 h2
      simp at h1 h2
      rw [h1] at h2
      cases h2
    | succ fuel ih =>
      intro listed R W a w hsz hcl hR hall hsim
      refine ⟨fun hr => done listed W a w (stuck listed hsz hr) hsim, fun j hj => ?_⟩
      obtain ⟨h1, o, ho, hpre⟩ := mem_ready.1 hj
      have hlt := (Array.getElem?_eq_some_iff.1 ho).1
      have hLj : listed.getD j false = false := by
        rw [Array.getD_eq_getD_getElem?, Array.getElem?_eq_getElem (by omega)] at h1 ⊢
        simpa using h1
      obtain ⟨e, he⟩ : ∃ e, es[j]? = some e := ⟨_, List.getElem?_eq_getElem (by omega)⟩
      have hij := hei j e he
      obtain ⟨o', ho', hco⟩ := hoi j _ hij
      rw [ho] at ho'
      cases ho'
      have hafter : ∀ x, x ∈ e.i.after → listed.getD x false = true := fun x hx => by
        rw [mem_after hco] at hx
        obtain ⟨ed, h2, h3⟩ := List.mem_filterMap.1 hx
        split at h3
        · rename_i hb
          cases h3
          exact hpre ed (by simpa using h2) hb
        · cases h3
      -- what the other entries do to this one
      have happart : ∀ (i : Nat) f, es[i]? = some f → i ≠ j → listed.getD i false ≠ decide (i < j) → IndE f e := fun i f hf hne hL => by
        rcases Nat.lt_or_ge i j with hij2 | hij2
        · rw [decide_eq_true hij2] at hL
          cases hb : ((masks [] is).getD j 0).testBit i with
          | false => exact hind i j f e hij2 hf he hb
          | true =>
            exfalso
            have := masks_ok is hcl is [] rfl (fun j i x _ h => by simp at h) j e.i i hij hb hafter
            exact hL this
        · have hgt : j < i := by omega
          rw [decide_eq_false (by omega)] at hL
          have hLi : listed.getD i false = true := by
            cases h : listed.getD i false with
            | true => rfl
            | false => exact absurd h hL
          cases hb : ((masks [] is).getD i 0).testBit j with
          | false => exact (hind j i e f hgt he hf hb).symm
          | true =>
            exfalso
            have := masks_ok is hcl is [] rfl (fun j i x _ h => by simp at h) i f.i j (hei i f hf) hb (hcl i f.i (hei i f hf) hLi)
            rw [hLj] at this
            cases this
      obtain ⟨hg, hrd⟩ := hgo j e he
      have hagree : Agree e.i.looks e.rd ((es.take j).foldl St.en s) (stF es 0 (fun k => listed.getD k false) s) := by
        have h2 := stF_all es 0 j s
        simp only [Nat.sub_zero] at h2
        rw [← h2]
        refine stF_agree es 0 _ _ s s (Agree.refl _ _ _) (fun i f _ hf => ?_)
        rw [Nat.sub_zero] at hf
        by_cases hij2 : i = j
        · subst hij2
          exact .inl (by rw [hLj]; simp)
        · by_cases hL : decide (i < j) = listed.getD i false
          · exact .inl hL
          · exact .inr (happart i f hf hij2 (fun h => hL h.symm))
      rw [hrd] at hagree
      refine pi_wpOp hE hp heq ho hco hsim (go_agree hagree hg) (fun v ch W' a' w' hv hsim' => ?_)
      obtain ⟨rfl, rfl⟩ := hv
      have hset := stF_set es 0 (fun k => listed.getD k false) j e s (Nat.zero_le _) (by rw [Nat.sub_zero]; exact he) hLj (fun i f hij2 hf hL => by
        rw [Nat.sub_zero] at hf
        exact (happart i f hf (by omega) (by rw [hL, decide_eq_false (by omega)]; decide)).symm)
      have hfl : (fun k => (listed.setIfInBounds j true).getD k false) = fun i => if i = j then true else listed.getD i false := by
        funext i
        rw [Array.getD_eq_getD_getElem?, Array.getElem?_setIfInBounds]
        by_cases hi : j = i
        · subst hi
          simp [hsz, hlt]
        · rw [if_neg hi, if_neg (Ne.symm hi), Array.getD_eq_getD_getElem?]
      refine ih (listed.setIfInBounds j true) (R.erase j) W' a' w' (by simpa using hsz) ?_ ?_ ?_ ?_
      · intro k i hk hL x hx
        rw [hfl] at hL ⊢
        dsimp only at hL ⊢
        split
        · rfl
        · split at hL
          · rename_i hkj
            subst hkj
            rw [hij] at hk
            cases hk
            exact hafter x hx
          · exact hcl k i hk hL x hx
      · rw [List.length_erase_of_mem (hall j hlt hLj), hR]
        rfl
      · intro i hi hL
        have hne : i ≠ j := by
          rintro rfl
          have := congrFun hfl i
          rw [this, if_pos rfl] at hL
          cases hL
        have := congrFun hfl i
        rw [this, if_neg hne] at hL
        exact (List.mem_erase_of_ne hne).2 (hall i hi hL)
      · rw [hfl, hset]
        exact hsim'
  have hfl0 : (fun k => (Array.replicate ops.size false).getD k false) = fun _ => false := by
    funext k
    rw [Array.getD_eq_getD_getElem?, Array.getElem?_replicate]
    split <;> rfl
  have hst0 : ∀ (r : List En) (k : Nat) (s : St), stF r k (fun _ => false) s = s := by
    intro r
    induction r with
    | nil => intro k s; rfl
    | cons e r ih => intro k s; exact ih (k + 1) s
  refine main ops.size _ (List.range ops.size) W a _ (by simp) ?_ (by simp) (fun j hj _ => List.mem_range.2 hj) ?_
  · intro k i _ hL
    rw [hfl0] at hL
    cases hL
  · rw [hfl0, hst0]
    exact hs.drew _
end
end Go.Proofs.YthnjbnfnljjepabDoor
end
section
set_option linter.unusedSimpArgs false
set_option linter.unusedVariables false
namespace Go.Proofs.YthnjbnfnljjepabDoor
open Go Go.RowKit

theorem exists_least (p : Nat → Prop) (h : ∃ n, p n) : ∃ n, p n ∧ ∀ m, p m → n ≤ m := by
  obtain ⟨n, hn⟩ := h
  induction n using Nat.strongRecOn with
  | _ n ih =>
    by_cases hm : ∃ m, m < n ∧ p m
    · obtain ⟨m, hlt, hp⟩ := hm
      exact ih m hlt hp
    · exact ⟨n, hn, fun m hp => by
        rcases Nat.lt_or_ge m n with h | h
        · exact absurd ⟨m, h, hp⟩ hm
        · exact h⟩

/-- a loop by an index that every round lowers -/
theorem wp_loop_ix {P : Program} {Q : Exit → Act → World → Prop} {a : Act} {w : World} {c : Code} (I : Nat → Act → World → Prop) (h0 : ∃ n, I n a w)
    (round : ∀ n a w, I n a w → c.wp P (Exit.then (fun a' w' => ∃ m, m < n ∧ I m a' w') Q) a w) : (Code.loop c).wp P Q a w := by
  classical
  let μ : Act → World → Nat := fun a w => if h : ∃ n, I n a w then Classical.choose (exists_least _ h) else 0
  have hμ : ∀ a w (h : ∃ n, I n a w), I (μ a w) a w ∧ ∀ m, I m a w → μ a w ≤ m := fun a w h => by
    have h1 : μ a w = Classical.choose (exists_least _ h) := dif_pos h
    rw [h1]
    exact Classical.choose_spec (exists_least _ h)
  refine wp_loop (fun a w => ∃ n, I n a w) μ h0 (fun a w h => ?_)
  refine wp_mono (round _ a w (hμ a w h).1) (fun e a' w' he => ?_)
  cases e with
  | normal =>
    obtain ⟨m, hlt, hm⟩ := he
    exact ⟨⟨m, hm⟩, Nat.lt_of_le_of_lt ((hμ a' w' ⟨m, hm⟩).2 m hm) hlt⟩
  | _ => exact he

section
variable {P : Program} {n : Nat} {w0 : World} {S0 : Nat → Nat}

/-- no edge of the code points forward in a region that draws -/
def backs : PC → Bool
  | .reg true ops => backOk ops
  | .seq a b => backs a && backs b
  | .cond _ a b => backs a && backs b
  | .block _ c => backs c
  | .loop c => backs c
  | _ => true

theorem code_sound [Bor] [I : WInv] {env : Env} (hE : EnvOK P env) (hp : ∀ w, ButB w0.heap.size w0 w → I.p w) {eqs : List (Nat × List Bool)} (heq : ∀ p, p ∈ eqs → EqT P p.1 p.2) (hm : P.follows .mixedOrders = true) : ∀ (c : Code) (pc : PC), compC P n eqs c = some pc → backs pc = true →
    ∀ (Q : Exit → St → Prop) (W : Wit) (s : St) (a : Act) (w : World), pwp env pc Q s → Sim w0 S0 n W s a w → c.wp P (fun e a' w' => ∃ W' s', Sim w0 S0 n W' s' a' w' ∧ Q e s') a w := by
  intro c
  induction c with
  | skip => intro pc hc _ Q W s a w h hs; simp [compC] at hc; subst hc; exact wp_skip ⟨W, s, hs, h⟩
  | region id ops draw =>
    intro pc hc hb Q W s a w h hs
    simp only [compC, Option.map_eq_some_iff] at hc
    obtain ⟨is, his, rfl⟩ := hc
    have hmap := allSome_get _ _ his
    cases draw with
    | false =>
      refine wp_region ?_
      have hlen : is.length = ops.size := by have := congrArg List.length hmap; simp at this; omega
      have := pi_ops hE hp heq (ops := ops) (Q := fun e a' w' => ∃ W' s', Sim w0 S0 n W' s' a' w' ∧ Q e s') (K := Q .normal) (fun s W a w h1 h2 => ⟨W, s, h2, h1⟩) is 0 W s a w (by simpa using hmap) hs h
      rw [hlen] at this
      rw [List.range_eq_range']
      exact this
    | true => exact draw_sound hE hp heq hm hmap (fun s W a w h1 h2 => ⟨W, s, h2, h1⟩) hs hb h id
  | seq x y ihx ihy =>
    intro pc hc hb Q W s a w h hs
    simp only [compC] at hc
    split at hc
    · rename_i px py hx hy
      cases hc
      simp only [backs, Bool.and_eq_true] at hb
      refine wp_seq (wp_mono (ihx px hx hb.1 _ W s a w h hs) (fun e a' w' he => ?_))
      obtain ⟨W', s', hs', hq⟩ := he
      cases e with
      | normal => exact ihy py hy hb.2 Q W' s' a' w' hq hs'
      | _ => exact ⟨W', s', hs', hq⟩
    · cases hc
  | cond co x y ihx ihy =>
    intro pc hc hb Q W s a w h hs
    simp only [compC] at hc
    split at hc
    · rename_i pcn px py hcn hx hy
      cases hc
      simp only [backs, Bool.and_eq_true] at hb
      obtain ⟨t, ht, h1, h2⟩ := withSome_iff.1 h
      exact wp_cond_split (boo_ev hs hcn ht) (fun he => ihx px hx hb.1 Q W s a w (h1 he) hs) (fun he => ihy py hy hb.2 Q W s a w (h2 he) hs)
    · cases hc
  | block id x ih =>
    intro pc hc hb Q W s a w h hs
    simp only [compC, Option.map_eq_some_iff] at hc
    obtain ⟨px, hx, rfl⟩ := hc
    refine wp_block (wp_mono (ih px hx hb _ W s a w h hs) (fun e a' w' he => ?_))
    obtain ⟨W', s', hs', hq⟩ := he
    cases e with
    | exit i =>
      by_cases hi : i = id
      · simp only [hi, if_true] at hq
        simp only [Exit.inBlock, hi, if_true]
        exact ⟨W', s', hs', hq⟩
      · simp only [hi, if_false] at hq
        simp only [Exit.inBlock, hi, if_false]
        exact ⟨W', s', hs', hq⟩
    | _ => exact ⟨W', s', hs', hq⟩
  | loop x ih =>
    intro pc hc hb Q W s a w h hs
    simp only [compC, Option.map_eq_some_iff] at hc
    obtain ⟨px, hx, rfl⟩ := hc
    obtain ⟨I, ⟨k, hk⟩, hr⟩ := h
    refine wp_loop_ix (fun k a w => ∃ W s, Sim w0 S0 n W s a w ∧ I k s) ⟨k, W, s, hs, hk⟩ (fun k a w h => ?_)
    obtain ⟨W, s, hs, hI⟩ := h
    refine wp_mono (ih px hx hb _ W s a w (hr k s hI) hs) (fun e a' w' he => ?_)
    obtain ⟨W', s', hs', hq⟩ := he
    cases e with
    | normal =>
      obtain ⟨m, hlt, hm⟩ := hq
      exact ⟨m, hlt, W', s', hs', hm⟩
    | _ => exact ⟨W', s', hs', hq⟩
  | exit id => intro pc hc _ Q W s a w h hs; simp [compC] at hc; subst hc; exact wp_exit ⟨W, s, hs, h⟩
  | ret => intro pc hc _ Q W s a w h hs; simp [compC] at hc; subst hc; exact wp_ret ⟨W, s, hs, h⟩
  | rangeFunc => intro pc hc; simp [compC] at hc
  | scope => intro pc hc; simp [compC] at hc
  | label => intro pc hc; simp [compC] at hc
  | goto => intro pc hc; simp [compC] at hc
  | refuse => intro pc hc; simp [compC] at hc
end

/-! ### functions -/
inductive PR where
  | t (x : Nat)
  | c (x : Nat) (k : Option Nat)
def compR (P : Program) : ResultVar → Option PR
  | .tmp t => some (.t t)
  | .cell a t => (szT P t).map (.c a)
def St.res1 (s : St) : PR → Option Pa
  | .t x => match s.sl x with
    | .b (.one (.sv o g off ln _ sz)) => if s.gen o = g then (match s.ob o with
      | .cells cs => if off + ln * sz ≤ cs.length then (allSome (((cs.drop off).take (ln * sz)).map Cl.dt)).map fun xs => .one (.im (chunks ln sz xs)) else none
      | _ => none) else none
    | v => v.pa
  | .c x k => match s.sl x with
    | .b (.one (.ptr o g off)) => if s.gen o = g then (match s.ob o with | .cells cs => (mkAv k cs off).bind Av.pa | _ => none) else none
    | _ => none
def St.res (s : St) (rs : List PR) : Option (List Pa) := allSome (rs.map s.res1)
def St.init (az : List Pa) : St := ⟨fun x => match az[x]? with | some p => .b p.bv | none => .un, fun _ => 0, fun _ => .no⟩

/-- no slice of an object of the call's own -/
def noSv (s : St) : PR → Bool
  | .t x => match s.sl x with
    | .b (.one (.sv _ _ _ _ _ _)) => false
    | _ => true
  | .c _ _ => true
/-- a call that is handed an object by address comes first to it -/
def St.initM (ds : List Dt) (az : List Pa) : St := ⟨fun x => match x with
  | 0 => .b (.one (.ptr 0 0 0))
  | k + 1 => match az[k]? with | some p => .b p.bv | none => .un, fun _ => 0, fun o => if o = 0 then .cells (ds.map .d) else .no⟩

def rvSem (tmps : Array Value) : ResultVar → Sem Value
  | .tmp t => pure (tmps.getD t undef)
  | .cell a t => do loadVar t (← asAddr (tmps.getD a undef))

/-- at the end of a call all that was made is settled, but the objects of other makers -/
def inAb (W : Wit) (s : St) (b : Nat) : Prop := ∃ o H, s.ob o = .ab H ∧ W.fp o b
open Classical in
noncomputable def frz (w0 : World) (W : Wit) (s : St) (w : World) : Nat → Nat := fun b => if b < w0.heap.size then W.S b else if inAb W s b then 0 else W.S b + (match w.heap[b]? with | some (.cells arr _ _) => arr.size | _ => 0)
theorem frz_ext [Bor] {n : Nat} {S0 : Nat → Nat} {a : Act} {w0 : World} {W : Wit} {s : St} {w : World} (hs : Sim w0 S0 n W s a w) : Ext W.S (frz w0 W s w) w w := fun b i h1 _ => by
  refine ⟨?_, rfl⟩
  unfold frz
  split
  · exact h1
  · split
    · rename_i hab
      obtain ⟨o, H, ho, hf⟩ := hab
      have := hs.ob o
      rw [ho] at this
      rw [(this.2 b hf).2] at h1
      omega
    · omega
theorem RP.ext {S S' : Nat → Nat} {w w' : World} (h : Ext S S' w w') {p : Pa} {v : Value} (hp : RP S w p v) : RP S' w' p v := by
  cases p with
  | one x => exact RD.ext h hp
  | agg xs => obtain ⟨arr, h1, h2, h3⟩ := hp; exact ⟨arr, h1, h2, fun i x u e1 e2 => RD.ext h (h3 i x u e1 e2)⟩
theorem chunks_length {α : Type} (n sz : Nat) (xs : List α) : (chunks n sz xs).length = n := by rw [chunks_eq]; simp
theorem chunks_get {α : Type} {n sz i : Nat} {xs : List α} {r : List α} (h : (chunks n sz xs)[i]? = some r) : i < n ∧ r = (xs.drop (i * sz)).take sz := by
  have hi := (List.getElem?_eq_some_iff.1 h).1
  rw [chunks_length] at hi
  rw [chunks_eq, List.getElem?_map, List.getElem?_range hi] at h
  simp only [Option.map_some, Option.some.injEq] at h
  exact ⟨hi, h.symm⟩

theorem run_res1 [Bor] {P : Program} {n : Nat} {w0 : World} {S0 : Nat → Nat} {W : Wit} {s : St} {a : Act} {w : World} (hs : Sim w0 S0 n W s a w) {rv : ResultVar} {r : PR} {p : Pa} (hr : compR P rv = some r) (hp : s.res1 r = some p) (hn : Bor.b0 = none ∨ noSv s r = true) :
    ∃ v, (rvSem a.tmps rv).run P w = .ok v w ∧ RP (frz w0 W s w) w p v := by
  cases rv with
  | tmp t =>
    cases hr
    refine ⟨_, rfl, ?_⟩
    simp only [St.res1] at hp
    split at hp
    · rename_i o g off ln cap sz hsl
      split at hp
      · rename_i hg
        split at hp
        · rename_i cs hob
          split at hp
          · rename_i hle
            simp only [Option.map_eq_some_iff] at hp
            obtain ⟨xs, hxs, rfl⟩ := hp
            have h1 := hs.sl t
            rw [hsl] at h1
            obtain ⟨b, hv, hlc, hcm, _, hb⟩ := h1
            have hb := hb hg.symm
            subst hb
            have hro := hs.ob o
            rw [hob] at hro
            obtain ⟨arr, T, h4, h5, h6, h7⟩ := hro
            have hall := allSome_get _ _ hxs
            have hxl : xs.length = ln * sz := by
              have := congrArg List.length hall
              simp at this
              omega
            rw [hv]
            have hge : w0.heap.size ≤ W.blk o := by
              rcases hn with hn | hn
              · exact h5.elim id (fun hf => by unfold Bor.fp at hf; rw [hn] at hf; cases hf)
              · simp only [noSv, hsl] at hn; cases hn
            have hrl := chunks_length ln sz xs
            show RD (frz w0 W s w) w (.im (chunks ln sz xs)) _
            have := RD.block (S := frz w0 W s w) (w := w) (rows := chunks ln sz xs) (b := W.blk o) (o := off) (cap := cap) (sz := sz) (vs := (arr.toList.drop off).take (ln * sz)) (fun r hr => ?_) ?_ (fun j u hj => ?_) (by rw [hrl]; exact hlc) hcm (fun i r j x hr hx => ?_)
            · rw [hrl] at this; exact this
            · obtain ⟨i, hi⟩ := List.getElem?_of_mem hr
              obtain ⟨h8, rfl⟩ := chunks_get hi
              rw [List.length_take, List.length_drop, hxl]
              have : (i + 1) * sz ≤ ln * sz := Nat.mul_le_mul_right _ h8
              rw [Nat.add_mul, Nat.one_mul] at this
              omega
            · rw [hrl, List.length_take, List.length_drop, ← h7.1]
              omega
            · rw [List.getElem?_take] at hj
              split at hj
              · rw [List.getElem?_drop] at hj
                have hlt := (List.getElem?_eq_some_iff.1 hj).1
                refine ⟨?_, ?_⟩
                · simp only [World.cell?, h4]
                  simpa using hj
                · unfold frz
                  rw [if_neg (by omega), if_neg (fun hab => by
                    obtain ⟨o2, H, ho2, hf⟩ := hab
                    have he := hs.ex o o2 (W.blk o) (by rw [hob]; rfl) (by rw [ho2]; exact hf)
                    subst he
                    rw [hob] at ho2
                    cases ho2), h4]
                  simp at hlt ⊢
                  omega
              · cases hj
            · obtain ⟨h8, rfl⟩ := chunks_get hr
              rw [List.getElem?_take] at hx
              split at hx
              · rename_i hj
                rw [List.getElem?_drop] at hx
                have h9 : (((cs.drop off).take (ln * sz)).map Cl.dt)[i * sz + j]? = some (some x) := by rw [hall, List.getElem?_map, hx]; rfl
                rw [List.getElem?_map, Option.map_eq_some_iff] at h9
                obtain ⟨c, hc, hcd⟩ := h9
                have hlt : i * sz + j < ln * sz := by
                  have : (i + 1) * sz ≤ ln * sz := Nat.mul_le_mul_right _ h8
                  rw [Nat.add_mul, Nat.one_mul] at this
                  omega
                rw [List.getElem?_take, if_pos hlt, List.getElem?_drop] at hc
                obtain ⟨u, hu⟩ : ∃ u, arr.toList[off + (i * sz + j)]? = some u := ⟨_, List.getElem?_eq_getElem (by have := (List.getElem?_eq_some_iff.1 hc).1; rw [← h7.1]; exact this)⟩
                refine ⟨u, by rw [List.getElem?_take, if_pos hlt, List.getElem?_drop]; exact hu, RD.ext (frz_ext hs) (RC.dt (h7.2 _ _ _ hc hu) hcd)⟩
              · cases hx
          · cases hp
        · cases hp
      · cases hp
    · exact RP.ext (frz_ext hs) (RA.pa (hs.sl t) hp)
  | cell c t =>
    simp only [compR, Option.map_eq_some_iff] at hr
    obtain ⟨k, hk, rfl⟩ := hr
    obtain ⟨d, i, hu, hi, hkk⟩ := szT_inv hk
    simp only [St.res1] at hp
    split at hp
    · rename_i o g off hsl
      split at hp
      · rename_i hg
        split at hp
        · rename_i cs hob
          simp only [Option.bind_eq_some_iff] at hp
          obtain ⟨v, hv, hp⟩ := hp
          have h1 := hs.sl c
          rw [hsl] at h1
          have h2 := h1.2.2 hg.symm
          have hro := hs.ob o
          rw [hob] at hro
          obtain ⟨arr, T, h4, h5, h6, h7⟩ := hro
          have hcell : ∀ (j : Nat) u, arr.toList[j]? = some u → w.cell? ⟨W.blk o, j, none⟩ = some u := fun j u hj => by
            simp only [World.cell?, h4]
            simpa using hj
          have hag := run_isAgg (P := P) hu w
          unfold rvSem
          dsimp only
          rw [h2]
          rcases mkAv_cells h7 hv with ⟨rfl, c', u, e1, e2, rfl, e3⟩ | ⟨m, rfl, e1, rfl, e2⟩
          · have hf : aggT d = false := by cases h : aggT d <;> simp [h] at hkk ⊢
            rw [hf] at hag
            refine ⟨u, ?_, RP.ext (frz_ext hs) (RA.pa (G := s.gen) (O := s.ob) (v := .b (.one c')) e3 hp)⟩
            simp [asAddr, loadVar, hag, hcell off u e2]
          · have ht : aggT d = true := by cases h : aggT d <;> simp [h] at hkk ⊢
            rw [ht] at hag hkk
            simp at hkk
            subst hkk
            have hlen : ((arr.toList.drop off).take i.size).length = i.size := by simp at e1 ⊢; omega
            have hl := run_loadCells_list (P := P) w ⟨W.blk o, off, none⟩ ((arr.toList.drop off).take i.size) (fun j u hj => by
              rw [addr_add]
              rw [List.getElem?_take] at hj
              split at hj
              · rw [List.getElem?_drop] at hj
                exact hcell _ _ hj
              · cases hj)
            rw [hlen] at hl
            refine ⟨.agg ((arr.toList.drop off).take i.size).toArray, ?_, RP.ext (frz_ext hs) (RA.pa (G := s.gen) (O := s.ob) (v := .b (.agg ((cs.drop off).take i.size))) ⟨_, rfl, by simpa using e2⟩ hp)⟩
            simp only [asAddr, Sem.run_bind, Sem.run_pure, Result.andThen_ok, loadVar, hag, if_true, sizeOf, typeInfo, run_program, hi, hl]
        · cases hp
      · cases hp
    · cases hp

theorem run_results [Bor] {P : Program} {n : Nat} {w0 : World} {S0 : Nat → Nat} {W : Wit} {s : St} {a : Act} {w : World} (hs : Sim w0 S0 n W s a w) : ∀ (rvs : List ResultVar) (prs : List PR) (ps : List Pa), allSome (rvs.map (compR P)) = some prs → s.res prs = some ps → (Bor.b0 = none ∨ prs.all (noSv s) = true) →
    ∃ vs : List Value, (rvs.mapM (rvSem a.tmps)).run P w = .ok vs w ∧ ps.length = vs.length ∧ ∀ (i : Nat) p u, ps[i]? = some p → vs[i]? = some u → RP (frz w0 W s w) w p u
  | [], prs, ps, h1, h2, hn => by
    simp [allSome] at h1; subst h1
    simp [St.res, allSome] at h2; subst h2
    exact ⟨[], by simp, rfl, fun i p u h => by simp at h⟩
  | rv :: rvs, prs, ps, h1, h2, hn => by
    simp only [List.map_cons] at h1
    cases hr : compR P rv with
    | none => rw [hr] at h1; simp [allSome] at h1
    | some r =>
      rw [hr] at h1
      simp only [allSome, Option.map_eq_some_iff] at h1
      obtain ⟨prs', hp, rfl⟩ := h1
      simp only [St.res, List.map_cons] at h2
      cases hr1 : s.res1 r with
      | none => rw [hr1] at h2; simp [allSome] at h2
      | some p =>
        rw [hr1] at h2
        simp only [allSome, Option.map_eq_some_iff] at h2
        obtain ⟨ps', hps, rfl⟩ := h2
        obtain ⟨v, h3, h4⟩ := run_res1 hs hr hr1 (hn.imp id fun h => by simp only [List.all_cons, Bool.and_eq_true] at h; exact h.1)
        obtain ⟨vs, h5, h6, h7⟩ := run_results hs rvs prs' ps' hp hps (hn.imp id fun h => by simp only [List.all_cons, Bool.and_eq_true] at h; exact h.2)
        refine ⟨v :: vs, ?_, by simp [h6], fun i q u e1 e2 => ?_⟩
        · rw [List.mapM_cons, Sem.run_bind, h3, Result.andThen_ok, Sem.run_bind, h5]
          rfl
        · cases i with
          | zero => simp at e1 e2; subst e1; subst e2; exact h4
          | succ i => exact h7 i q u (by simpa using e1) (by simpa using e2)

theorem ButB.none {w w' : World} {B : Nat} (h : @ButB ⟨Option.none⟩ B w w') : Below B w w' := by
  letI : Bor := ⟨Option.none⟩
  exact ⟨h.os, h.tape, h.output, h.size, fun k hk => h.block k hk (fun e => by cases e)⟩
theorem fn_sound [I : WInv] {P : Program} {env : Env} (hE : EnvOK P env) {eqs : List (Nat × List Bool)} (heq : ∀ p, p ∈ eqs → EqT P p.1 p.2) (hm : P.follows .mixedOrders = true) {f : Nat} {fn : Func} {c : Code} {pc : PC} {prs : List PR} (hf : P.funcs[f]? = some fn) (hb : fn.body = some c)
    (hc : compC P fn.ntmps eqs c = some pc) (hback : backs pc = true) (hr : allSome (fn.results.toList.map (compR P)) = some prs) {R : List Pa → List Pa → Prop}
    (hR : ∀ az rs, R az rs → az.length ≤ fn.ntmps ∧ pwp env pc (fun e s => (e = .normal ∨ e = .ret) ∧ s.res prs = some rs) (St.init az)) : Spec P f R := by
  intro az rs has S w vals hwi hvals
  obtain ⟨hlen, hw⟩ := hR az rs has
  letI : Bor := ⟨none⟩
  refine calls_of_wp hf hb ?_
  have hinit : Sim w S fn.ntmps ⟨fun _ => 0, fun _ => undef, fun _ => undef, fun _ _ => False, S⟩ (St.init az) { tmps := vals ++ Array.replicate (fn.ntmps - vals.size) undef, defers := [] } w := by
    refine ⟨ButB.refl _ _, fun _ _ => rfl, ?_, rfl, fun x => ?_, fun _ => trivial, fun o o' b h => h.elim, fun b h => by cases h⟩
    · have := hvals.1
      simp; omega
    · show RA _ _ _ _ (match az[x]? with | some p => .b p.bv | none => .un) _
      cases hx : az[x]? with
      | none => trivial
      | some p =>
        have hlt : x < vals.size := by rw [← hvals.1]; exact (List.getElem?_eq_some_iff.1 hx).1
        have : (vals ++ Array.replicate (fn.ntmps - vals.size) undef).getD x undef = vals[x] := by
          rw [Array.getD_eq_getD_getElem?, Array.getElem?_append_left hlt, Array.getElem?_eq_getElem hlt]
          rfl
        rw [this]
        exact RP.av (W := ⟨fun _ => 0, fun _ => undef, fun _ => undef, fun _ _ => False, S⟩) (hvals.2 x p _ hx (Array.getElem?_eq_getElem hlt))
  refine wp_mono (code_sound hE (fun w2 h2 => I.keep _ _ (ButB.none h2) hwi) heq hm c pc hc hback _ _ _ _ _ hw hinit) (fun e a' w' he => ?_)
  obtain ⟨W', s', hs', hret, hres⟩ := he
  have hfin : bodyPost P fn (fun e w' => ∃ v S', e = .returned v ∧ RR S' w' rs v ∧ Below w.heap.size w w' ∧ ∀ b, b < w.heap.size → S' b = S b) .ret a' w' := by
    refine ⟨hs'.dfs, ?_⟩
    obtain ⟨vs, h1, h2, h3⟩ := run_results (P := P) hs' fn.results.toList prs rs hr hres (.inl rfl)
    have h4 : (results fn a'.tmps).run P w' = .ok (if h : vs.length = 1 then vs[0] else .tuple vs.toArray) w' := by
      have h5 : results fn a'.tmps = (fn.results.mapM (rvSem a'.tmps)) >>= fun vs => pure (if h : vs.size = 1 then vs[0] else .tuple vs) := by
        unfold results
        congr 1
      have h6 : fn.results = fn.results.toList.toArray := by simp
      rw [h5, h6, List.mapM_toArray, Sem.run_bind, Sem.run_map, h1]
      simp
    refine ⟨_, h4, _, frz w W' s' w', rfl, ?_, ButB.none hs'.below, fun b hb => by unfold frz; rw [if_pos hb]; exact hs'.s0 b hb⟩
    match rs, vs, h2, h3 with
    | [], _, _, _ => trivial
    | [p], [v], _, h3 => exact h3 0 p v rfl rfl
    | p :: q :: r, vs, h2, h3 =>
      have hne : ¬ vs.length = 1 := by rw [← h2]; simp
      rw [dif_neg hne]
      exact ⟨vs.toArray, rfl, by simpa using h2, fun i p u e1 e2 => h3 i p u e1 (by simpa using e2)⟩
  rcases hret with rfl | rfl
  · exact hfin
  · exact hfin

/-- the same for a function that hands back an object of another maker, and data -/
theorem fn_sound_new [I : WInv] {P : Program} {env : Env} (hE : EnvOK P env) {eqs : List (Nat × List Bool)} (heq : ∀ p, p ∈ eqs → EqT P p.1 p.2) (hm : P.follows .mixedOrders = true) {f : Nat} {fn : Func} {c : Code} {pc : PC} {t0 : Nat} {rv0 : ResultVar} {rvs : List ResultVar} {prs : List PR} (hf : P.funcs[f]? = some fn) (hb : fn.body = some c)
    (hc : compC P fn.ntmps eqs c = some pc) (hback : backs pc = true) (hrv : fn.results.toList = rv0 :: rvs) (hr0 : compR P rv0 = some (.t t0)) (hr : allSome (rvs.map (compR P)) = some prs) {R : List Pa → HP → List Pa → Prop}
    (hR : ∀ az H rs, R az H rs → az.length ≤ fn.ntmps ∧ pwp env pc (fun e s => (e = .normal ∨ e = .ret) ∧ (∃ o, s.sl t0 = .b (.one (.ab o (s.gen o))) ∧ s.ob o = .ab H) ∧ s.res prs = some rs) (St.init az)) : SpecA P f (fun Ho az H rs => Ho = none ∧ R az H rs) := by
  rintro Ho az H rs ⟨rfl, has⟩ S w vals hwi hvals
  obtain ⟨hlen, hw⟩ := hR az H rs has
  letI : Bor := ⟨none⟩
  refine calls_of_wp hf hb ?_
  have hinit : Sim w S fn.ntmps ⟨fun _ => 0, fun _ => undef, fun _ => undef, fun _ _ => False, S⟩ (St.init az) { tmps := vals ++ Array.replicate (fn.ntmps - vals.size) undef, defers := [] } w := by
    refine ⟨ButB.refl _ _, fun _ _ => rfl, ?_, rfl, fun x => ?_, fun _ => trivial, fun o o' b h => h.elim, fun b h => by cases h⟩
    · have := hvals.1
      simp; omega
    · show RA _ _ _ _ (match az[x]? with | some p => .b p.bv | none => .un) _
      cases hx : az[x]? with
      | none => trivial
      | some p =>
        have hlt : x < vals.size := by rw [← hvals.1]; exact (List.getElem?_eq_some_iff.1 hx).1
        have : (vals ++ Array.replicate (fn.ntmps - vals.size) undef).getD x undef = vals[x] := by
          rw [Array.getD_eq_getD_getElem?, Array.getElem?_append_left hlt, Array.getElem?_eq_getElem hlt]
          rfl
        rw [this]
        exact RP.av (W := ⟨fun _ => 0, fun _ => undef, fun _ => undef, fun _ _ => False, S⟩) (hvals.2 x p _ hx (Array.getElem?_eq_getElem hlt))
  refine wp_mono (code_sound hE (fun w2 h2 => I.keep _ _ (ButB.none h2) hwi) heq hm c pc hc hback _ _ _ _ _ hw hinit) (fun e a' w' he => ?_)
  obtain ⟨W', s', hs', hret, ⟨o, hsl, hob⟩, hres⟩ := he
  have hfin : bodyPost P fn (fun e w' => ∃ u S' adr fp', e = .returned u ∧ RN S' w' adr rs u ∧ adr.oneCell' = true ∧ H.r w' adr fp' ∧ Below w.heap.size w w' ∧ (∀ b, fp' b → w.heap.size ≤ b ∧ S' b = 0) ∧ ∀ b, b < w.heap.size → S' b = S b) .ret a' w' := by
    refine ⟨hs'.dfs, ?_⟩
    obtain ⟨vs, h1, h2, h3⟩ := run_results (P := P) hs' rvs prs rs hr hres (.inl rfl)
    have hro := hs'.ob o
    rw [hob] at hro
    have hslot := hs'.sl t0
    rw [hsl] at hslot
    have hadr := hslot.2.2 rfl
    have hrv0 : (rvSem a'.tmps rv0).run P w' = .ok (W'.adr o) w' := by
      cases rv0 with
      | tmp t => cases hr0; show (pure (a'.tmps.getD t0 undef) : Sem Value).run P w' = _; rw [hadr]; rfl
      | cell x t => simp only [compR, Option.map_eq_some_iff] at hr0; obtain ⟨_, _, h⟩ := hr0; cases h
    have h4 : (results fn a'.tmps).run P w' = .ok (if h : (W'.adr o :: vs).length = 1 then (W'.adr o :: vs)[0] else .tuple (W'.adr o :: vs).toArray) w' := by
      have h5 : results fn a'.tmps = (fn.results.mapM (rvSem a'.tmps)) >>= fun vs => pure (if h : vs.size = 1 then vs[0] else .tuple vs) := by
        unfold results
        congr 1
      have h6 : fn.results = (rv0 :: rvs).toArray := by rw [← hrv]
      rw [h5, h6, List.mapM_toArray, Sem.run_bind, Sem.run_map, List.mapM_cons, Sem.run_bind, hrv0, Result.andThen_ok, Sem.run_bind, h1]
      simp
    refine ⟨_, h4, _, frz w W' s' w', W'.adr o, W'.fp o, rfl, ?_, by rw [← hadr]; exact hslot.1, hro.1, ButB.none hs'.below, fun b hb => ⟨(hro.2 b hb).1, ?_⟩, fun b hb => by unfold frz; rw [if_pos hb]; exact hs'.s0 b hb⟩
    · match rs, vs, h2, h3 with
      | [], [], _, _ => rfl
      | p :: r, vs, h2, h3 =>
        have hne : ¬ (W'.adr o :: vs).length = 1 := by rw [List.length_cons, ← h2]; simp
        rw [dif_neg hne]
        refine ⟨vs.toArray, by simp, by simpa using h2, fun i p u e1 e2 => h3 i p u e1 (by simpa using e2)⟩
    · unfold frz
      rw [if_neg (by have := (hro.2 b hb).1; omega), if_pos ⟨o, H, hob, hb⟩]
  rcases hret with rfl | rfl
  · exact hfin
  · exact hfin

/-- the same for a function that is handed an object by address -/
theorem fn_sound_m [I : WInv] {P : Program} {env : Env} (hE : EnvOK P env) {eqs : List (Nat × List Bool)} (heq : ∀ p, p ∈ eqs → EqT P p.1 p.2) (hm : P.follows .mixedOrders = true) {f : Nat} {fn : Func} {c : Code} {pc : PC} {prs : List PR} (hf : P.funcs[f]? = some fn) (hb : fn.body = some c)
    (hc : compC P fn.ntmps eqs c = some pc) (hback : backs pc = true) (hr : allSome (fn.results.toList.map (compR P)) = some prs) {R : List Dt → List Pa → List Dt → List Pa → Prop}
    (hR : ∀ ds az ds' rs, R ds az ds' rs → az.length + 1 ≤ fn.ntmps ∧ pwp env pc (fun e s => (e = .normal ∨ e = .ret) ∧ s.res prs = some rs ∧ prs.all (noSv s) = true ∧ s.gen 0 = 0 ∧ s.cellsAt 0 0 = some ds') (St.initM ds az)) : SpecM P f R := by
  intro ds az ds' rs has S w b arr T vals hI hheap hSb hds hvals
  obtain ⟨hlen, hw⟩ := hR ds az ds' rs has
  letI : Bor := ⟨some b⟩
  have toF : ∀ {w' : World}, ButB w.heap.size w w' → ButF (· = b) w w' := fun h => ⟨h.os, h.tape, h.output, h.size, fun k hk hne => h.block k hk (fun e => hne (Option.some.inj e).symm)⟩
  refine calls_of_wp hf hb ?_
  have hinit : Sim w S fn.ntmps ⟨fun _ => b, fun _ => undef, fun _ => undef, fun _ _ => False, S⟩ (St.initM ds az) { tmps := (#[Value.pointer (some ⟨b, 0, none⟩)] ++ vals) ++ Array.replicate (fn.ntmps - (#[Value.pointer (some ⟨b, 0, none⟩)] ++ vals).size) undef, defers := [] } w := by
    refine ⟨ButB.refl _ _, fun _ _ => rfl, ?_, rfl, fun x => ?_, fun o => ?_, fun o o' b2 h h' => ?_, fun b2 e1 _ => Option.some.inj e1⟩
    · have := hvals.1
      simp; omega
    · cases x with
      | zero =>
        show RC ⟨fun _ => b, fun _ => undef, fun _ => undef, fun _ _ => False, S⟩ (St.initM ds az).gen (St.initM ds az).ob w (.ptr 0 0 0) _
        have : ((#[Value.pointer (some ⟨b, 0, none⟩)] ++ vals) ++ Array.replicate (fn.ntmps - (#[Value.pointer (some ⟨b, 0, none⟩)] ++ vals).size) undef).getD 0 undef = Value.pointer (some ⟨b, 0, none⟩) := by
          rw [Array.getD_eq_getD_getElem?, Array.getElem?_append_left (by simp; omega), Array.getElem?_append_left (by simp)]
          rfl
        rw [this]
        exact ⟨rfl, Nat.le_refl _, fun _ => rfl⟩
      | succ x =>
        show RA _ _ _ _ (match az[x]? with | some p => .b p.bv | none => .un) _
        cases hx : az[x]? with
        | none => trivial
        | some p =>
          have hlt : x < vals.size := by rw [← hvals.1]; exact (List.getElem?_eq_some_iff.1 hx).1
          have : ((#[Value.pointer (some ⟨b, 0, none⟩)] ++ vals) ++ Array.replicate (fn.ntmps - (#[Value.pointer (some ⟨b, 0, none⟩)] ++ vals).size) undef).getD (x + 1) undef = vals[x] := by
            rw [Array.getD_eq_getD_getElem?, Array.getElem?_append_left (by simp; omega), Array.getElem?_append_right (by simp)]
            simp [hlt]
          rw [this]
          exact RP.av (W := ⟨fun _ => b, fun _ => undef, fun _ => undef, fun _ _ => False, S⟩) (hvals.2 x p _ hx (Array.getElem?_eq_getElem hlt))
    · show RO _ _ _ _ _ _ (if o = 0 then .cells (ds.map .d) else .no)
      split
      · refine ⟨arr, T, hheap, .inr rfl, hSb, ?_⟩
        refine ⟨by rw [List.length_map]; exact hds.1, fun i c u e1 e2 => ?_⟩
        rw [List.getElem?_map, Option.map_eq_some_iff] at e1
        obtain ⟨x, hx, rfl⟩ := e1
        exact hds.2 i x u hx e2
      · trivial
    · have key : ∀ o b2, cl ⟨fun _ => b, fun _ => undef, fun _ => undef, fun _ _ => False, S⟩ o ((St.initM ds az).ob o) b2 → o = 0 := fun o b2 h => by
        by_cases h0 : o = 0
        · exact h0
        · have h2 : cl ⟨fun _ => b, fun _ => undef, fun _ => undef, fun _ _ => False, S⟩ o (if o = 0 then .cells (ds.map .d) else .no) b2 := h
          rw [if_neg h0] at h2
          exact h2.elim
      rw [key o b2 h, key o' b2 h']
  refine wp_mono (code_sound hE (fun w2 h2 => hI w2 (toF h2)) heq hm c pc hc hback _ _ _ _ _ hw hinit) (fun e a' w' he => ?_)
  obtain ⟨W', s', hs', hret, hres, hns, hg0, hcells⟩ := he
  have hfin : bodyPost P fn (fun e w' => ∃ u S' arr' T', e = .returned u ∧ RR S' w' rs u ∧ w'.heap[b]? = some (.cells arr' T' (0, 0)) ∧ RDs S' w' ds' arr'.toList ∧ S' b = 0 ∧ ButF (· = b) w w' ∧ ∀ k, k < w.heap.size → S' k = S k) .ret a' w' := by
    refine ⟨hs'.dfs, ?_⟩
    obtain ⟨vs, h1, h2, h3⟩ := run_results (P := P) hs' fn.results.toList prs rs hr hres (.inr hns)
    have h4 : (results fn a'.tmps).run P w' = .ok (if h : vs.length = 1 then vs[0] else .tuple vs.toArray) w' := by
      have h5 : results fn a'.tmps = (fn.results.mapM (rvSem a'.tmps)) >>= fun vs => pure (if h : vs.size = 1 then vs[0] else .tuple vs) := by
        unfold results
        congr 1
      have h6 : fn.results = fn.results.toList.toArray := by simp
      rw [h5, h6, List.mapM_toArray, Sem.run_bind, Sem.run_map, h1]
      simp
    have hblt : b < w.heap.size := (Array.getElem?_eq_some_iff.1 hheap).1
    have hbk : W'.blk 0 = b := hs'.bk b rfl hg0
    have hfz : ∀ k, k < w.heap.size → frz w W' s' w' k = S k := fun k hk => by unfold frz; rw [if_pos hk]; exact hs'.s0 k hk
    unfold St.cellsAt at hcells
    rw [if_pos hg0] at hcells
    have hro := hs'.ob 0
    cases hob : s'.ob 0 with
    | cells cs =>
      rw [hob] at hcells hro
      simp only at hcells
      split at hcells
      case isFalse => cases hcells
      obtain ⟨arr', T', g1, g2, g3, g4⟩ := hro
      rw [hbk] at g1
      obtain ⟨⟨r1, r2⟩, _⟩ := RCs.dts g4 hcells
      refine ⟨_, h4, _, frz w W' s' w', arr', T', rfl, ?_, g1, ⟨r1, fun i x u e1 e2 => RD.ext (frz_ext hs') (r2 i x u e1 e2)⟩, by rw [hfz b hblt]; exact hSb, toF hs'.below, hfz⟩
      match rs, vs, h2, h3 with
      | [], _, _, _ => trivial
      | [p], [v], _, h3 => exact h3 0 p v rfl rfl
      | p :: q :: r, vs, h2, h3 =>
        have hne : ¬ vs.length = 1 := by rw [← h2]; simp
        rw [dif_neg hne]
        exact ⟨vs.toArray, rfl, by simpa using h2, fun i p u e1 e2 => h3 i p u e1 (by simpa using e2)⟩
    | no => rw [hob] at hcells; cases hcells
    | row _ _ _ => rw [hob] at hcells; cases hcells
    | ab _ => rw [hob] at hcells; cases hcells
  rcases hret with rfl | rfl
  · exact hfin
  · exact hfin
end Go.Proofs.YthnjbnfnljjepabDoor
end
section
set_option linter.unusedSimpArgs false
set_option linter.unusedVariables false
namespace Go.Proofs.YthnjbnfnljjepabDoor
open Go Go.RowKit

section
variable {P : Program}
/-- a basic type: some kb, kb whether it is bool -/
def basicT (P : Program) (t : Nat) : Option Bool := match P.underlying t with
  | some (.int _) => some false
  | some .bool => some true
  | _ => none

theorem eq_basic {t : Nat} {kb : Bool} (hb : basicT P t = some kb) {x y : Cl} {u v : Value} {r : Bool} {W : Wit} {G : Nat → Nat} {O : Nat → Ob} {w : World} (hx : RC W G O w x u) (hy : RC W G O w y v) (h : eqCl kb x y = some r) (d : Nat) :
    (Op.equalIn (d + 1) t u v).run P w = .ok r w := by
  unfold basicT at hb
  unfold eqCl at h
  split at h
  · rename_i k a k' b
    split at h
    · rename_i hk
      cases h
      obtain ⟨rfl, _⟩ := RD.sc_inv hx
      obtain ⟨rfl, _⟩ := RD.sc_inv hy
      rw [Op.equalIn.eq_2]
      split at hb
      · rename_i k2 hu; simp [run_underlying hu, hk.2]
      · cases hb; exact absurd hk.1 (by decide)
      · cases hb
    · cases h
  · rename_i a b
    split at h
    · rename_i hk
      cases h
      obtain ⟨rfl, _⟩ := RD.sc_inv hx
      obtain ⟨rfl, _⟩ := RD.sc_inv hy
      rw [Op.equalIn.eq_2]
      split at hb
      · cases hb; exact absurd hk (by decide)
      · rename_i hu; simp [run_underlying hu]
      · cases hb
    · cases h
  · cases h

theorem basic_part {t : Nat} {kb : Bool} (hb : basicT P t = some kb) {xs : Array Value} {i : Nat} {u : Value} (hi : xs[i]? = some u) (w : World) : (part t xs i).run P w = .ok u w := by
  obtain ⟨d, hd, ha⟩ : ∃ d, P.underlying t = some d ∧ aggT d = false := by
    unfold basicT at hb
    split at hb
    · rename_i k hu; exact ⟨_, hu, rfl⟩
    · rename_i hu; exact ⟨_, hu, rfl⟩
    · cases hb
  have := run_isAgg hd w
  simp [part, this, ha, hi]

theorem eqCls_cons {ks : List Bool} {cs ds : List Cl} {r : Bool} {i : Nat} (h : eqCls (ks.drop i) (cs.drop i) (ds.drop i) = some r) {k : Bool} (hk : ks[i]? = some k) :
    ∃ x y a b, cs[i]? = some x ∧ ds[i]? = some y ∧ eqCl k x y = some a ∧ eqCls (ks.drop (i + 1)) (cs.drop (i + 1)) (ds.drop (i + 1)) = some b ∧ r = (a && b) := by
  have hlt := (List.getElem?_eq_some_iff.1 hk).1
  rw [List.drop_eq_getElem_cons hlt] at h
  rcases Nat.lt_or_ge i cs.length with h1 | h1
  · rcases Nat.lt_or_ge i ds.length with h2 | h2
    · rw [List.drop_eq_getElem_cons h1, List.drop_eq_getElem_cons h2] at h
      simp only [eqCls] at h
      split at h
      · rename_i a b ha hb
        cases h
        rw [List.getElem?_eq_getElem hlt] at hk
        cases hk
        exact ⟨_, _, a, b, List.getElem?_eq_getElem h1, List.getElem?_eq_getElem h2, ha, hb, rfl⟩
      · cases h
    · rw [List.drop_eq_nil_of_le h2, List.drop_eq_getElem_cons h1] at h
      simp [eqCls] at h
  · rw [List.drop_eq_nil_of_le h1] at h
    simp [eqCls] at h

/-- a struct whose fields are ints and bools -/
def flatS (P : Program) (fs : Array Field) (ks : List Bool) : Bool := fs.size == ks.length && fs.toList.zipIdx.all fun p => p.1.name != "_" && p.1.offset == p.2 && basicT P p.1.type == ks[p.2]?

theorem eqT_struct {t : Nat} {fs : Array Field} {ks : List Bool} (hu : P.underlying t = some (.struct fs)) (hst : P.stoodInHeld t = false) (hg : P.eqGuardType P.depth t = false) (hfl : flatS P fs ks = true) : EqT P t ks := by
  refine fun _ => ⟨hg, fun xs ys cs ds r W G O w h3 h4 h5 => ?_⟩
  show (Op.equalIn (9999 + 1) t (.agg xs) (.agg ys)).run P w = _
  rw [Op.equalIn.eq_2]
  simp only [Sem.run_bind, run_underlying hu, Result.andThen_ok, run_program, hst]
  rw [if_neg (by decide)]
  unfold flatS at hfl
  rw [Bool.and_eq_true] at hfl
  obtain ⟨hsz, hall⟩ := hfl
  have hsz' : fs.size = ks.length := by simpa using hsz
  have key : ∀ (l : List Field) (i : Nat) (r : Bool), l = fs.toList.drop i → eqCls (ks.drop i) (cs.drop i) (ds.drop i) = some r →
      (forIn l ((none : Option Bool), ()) fun f __s =>
        (if f.name ≠ "_" then do
          let __do_lift ← part f.type xs f.offset
          let __do_lift_1 ← part f.type ys f.offset
          let __do_lift ← Op.equalIn 9999 f.type __do_lift __do_lift_1
          if (!__do_lift) = true then pure (ForInStep.done (some false, ()))
          else pure (ForInStep.yield (none, ()))
        else pure (ForInStep.yield (none, ())) : Sem (ForInStep (Option Bool × Unit)))).run P w = .ok (if r then none else some false, ()) w := by
    intro l
    induction l with
    | nil =>
      intro i r hl h
      have hge : ks.length ≤ i := by
        have := congrArg List.length hl
        simp at this; omega
      rw [List.drop_eq_nil_of_le hge] at h
      generalize cs.drop i = a at h
      generalize ds.drop i = b at h
      cases a <;> cases b <;> simp [eqCls] at h
      subst h
      simp
    | cons f l ih =>
      intro i r hl h
      have hfi : fs[i]? = some f := by
        have := congrArg (·[0]?) hl
        simpa using this.symm
      have hilt := (Array.getElem?_eq_some_iff.1 hfi).1
      have hp := List.all_eq_true.1 hall (f, i) (by
        rw [List.mk_mem_zipIdx_iff_getElem?]
        simpa using hfi)
      simp only [Bool.and_eq_true, bne_iff_ne, beq_iff_eq] at hp
      obtain ⟨⟨hn, ho⟩, hb⟩ := hp
      have hk : ks[i]? = some ks[i] := List.getElem?_eq_getElem (by omega)
      rw [hk] at hb
      obtain ⟨x, y, a, b, e1, e2, e3, e4, rfl⟩ := eqCls_cons h hk
      have hx1 : i < xs.size := by have := h3.1; have := (List.getElem?_eq_some_iff.1 e1).1; simp at *; omega
      have hy1 : i < ys.size := by have := h4.1; have := (List.getElem?_eq_some_iff.1 e2).1; simp at *; omega
      have hx : xs[i]? = some xs[i] := Array.getElem?_eq_getElem hx1
      have hy : ys[i]? = some ys[i] := Array.getElem?_eq_getElem hy1
      have heq : (Op.equalIn 9999 f.type xs[i] ys[i]).run P w = .ok a w := eq_basic hb (h3.2 i x xs[i] e1 (by rw [Array.getElem?_toList]; exact hx)) (h4.2 i y ys[i] e2 (by rw [Array.getElem?_toList]; exact hy)) e3 9998
      rw [List.forIn_cons, if_pos hn, ho]
      simp only [Sem.run_bind, basic_part hb hx, basic_part hb hy, Result.andThen_ok, heq]
      cases a with
      | true =>
        simp only [Bool.not_true, Bool.false_eq_true, if_false, Sem.run_pure, Result.andThen_ok, Bool.true_and]
        exact ih (i + 1) b (by
          have := congrArg List.tail hl
          simpa using this) e4
      | false => simp
  have hk := key fs.toList 0 r rfl (by simpa using h5)
  rw [← Array.forIn_toList, Sem.run_bind, hk]
  cases r <;> rfl

theorem eqT_array {t e m : Nat} {ei : TypeInfo} (hu : P.underlying t = some (.array m e)) (hi : P.info? e = some ei) (hsz1 : ei.size = 1) (hg : P.eqGuardType P.depth t = false) (hb : basicT P e = some false) : EqT P t (List.replicate m false) := by
  refine fun _ => ⟨hg, fun xs ys cs ds r W G O w h3 h4 h5 => ?_⟩
  show (Op.equalIn (9999 + 1) t (.agg xs) (.agg ys)).run P w = _
  rw [Op.equalIn.eq_2]
  simp only [Sem.run_bind, run_underlying hu, Result.andThen_ok, sizeOf, typeInfo, run_program, hi, Sem.run_pure, hsz1, Nat.mul_one, Std.Legacy.Range.forIn_eq_forIn_range', Std.Legacy.Range.size, Nat.sub_zero, Nat.add_one_sub_one, Nat.div_one]
  have key : ∀ (k i : Nat) (r : Bool), i + k = m → eqCls ((List.replicate m false).drop i) (cs.drop i) (ds.drop i) = some r →
      (forIn (List.range' i k) ((none : Option Bool), ()) fun i __s =>
        (do
          let __do_lift ← part e xs i
          let __do_lift_1 ← part e ys i
          let __do_lift ← Op.equalIn 9999 e __do_lift __do_lift_1
          if (!__do_lift) = true then pure (ForInStep.done (some false, ()))
          else pure (ForInStep.yield (none, ())) : Sem (ForInStep (Option Bool × Unit)))).run P w = .ok (if r then none else some false, ()) w := by
    intro k
    induction k with
    | zero =>
      intro i r hl h
      rw [List.drop_eq_nil_of_le (by simp; omega)] at h
      generalize cs.drop i = a at h
      generalize ds.drop i = b at h
      cases a <;> cases b <;> simp [eqCls] at h
      subst h
      simp
    | succ k ih =>
      intro i r hl h
      have hk : (List.replicate m false)[i]? = some false := by
        rw [List.getElem?_replicate, if_pos (by omega)]
      obtain ⟨x, y, a, b, e1, e2, e3, e4, rfl⟩ := eqCls_cons h hk
      have hx1 : i < xs.size := by have := h3.1; have := (List.getElem?_eq_some_iff.1 e1).1; simp at *; omega
      have hy1 : i < ys.size := by have := h4.1; have := (List.getElem?_eq_some_iff.1 e2).1; simp at *; omega
      have hx : xs[i]? = some xs[i] := Array.getElem?_eq_getElem hx1
      have hy : ys[i]? = some ys[i] := Array.getElem?_eq_getElem hy1
      have heq : (Op.equalIn 9999 e xs[i] ys[i]).run P w = .ok a w := eq_basic hb (h3.2 i x xs[i] e1 (by rw [Array.getElem?_toList]; exact hx)) (h4.2 i y ys[i] e2 (by rw [Array.getElem?_toList]; exact hy)) e3 9998
      rw [List.range'_succ, List.forIn_cons]
      simp only [Sem.run_bind, basic_part hb hx, basic_part hb hy, Result.andThen_ok, heq]
      cases a with
      | true =>
        simp only [Bool.not_true, Bool.false_eq_true, if_false, Sem.run_pure, Result.andThen_ok, Bool.true_and]
        exact ih (i + 1) b (by omega) e4
      | false => simp
  have hk := key m 0 r (by omega) (by simpa using h5)
  rw [hk]
  cases r <;> rfl
end
end Go.Proofs.YthnjbnfnljjepabDoor
end
section
set_option linter.unusedSimpArgs false
set_option linter.unusedVariables false
namespace Go.Proofs.YthnjbnfnljjepabDoor
open Go Go.RowKit

theorem nrfl {α : Sort _} {a b : α} (h : a = b) : a = b := h
section
variable {env : Env} {K : St → Prop} {is : List PI} {s : St} {d : Option Nat} {af : List Nat}

def contOps (env : Env) (K : St → Prop) (is : List PI) (s : St) (d : Option Nat) (o : Option (Av × Cg)) : Prop := withSome o fun p => evalOps env is (s.ap d p.1 p.2) K
theorem contOps_some {v : Av} {ch : Cg} : contOps env K is s d (some (v, ch)) = evalOps env is (s.ap d v ch) K := nrfl rfl
def callOps (env : Env) (K : St → Prop) (is : List PI) (s : St) (d : Option Nat) (f : Nat) (o : Option (List Pa)) : Prop := withSome o fun ps => (∃ rs, env.d f ps rs ∧ evalOps env is (s.ap d (resAv rs) .no) K) ∨ (∃ H rs, env.a f none ps H rs ∧ evalOps env is (s.ap d (newAv (d.getD 0) (s.gen (d.getD 0) + 1) rs) (.new (d.getD 0) (.ab H))) K)
theorem callOps_intro {f : Nat} {ps : List Pa} (rs : List Pa) (h : env.d f ps rs) (k : evalOps env is (s.ap d (resAv rs) .no) K) : callOps env K is s d f (some ps) := .inl ⟨rs, h, k⟩
theorem callOps_new {f : Nat} {ps : List Pa} (H : HP) (rs : List Pa) (h : env.a f none ps H rs) (k : evalOps env is (s.ap d (newAv (d.getD 0) (s.gen (d.getD 0) + 1) rs) (.new (d.getD 0) (.ab H))) K) : callOps env K is s d f (some ps) := .inr ⟨H, rs, h, k⟩
def methOps (env : Env) (K : St → Prop) (is : List PI) (s : St) (d : Option Nat) (f o : Nat) (oh : Option HP) (oa : Option (List Pa)) : Prop := withSome oa fun ps => withSome oh fun H =>
  (∃ H' rs, env.a f (some H) ps H' rs ∧ evalOps env is (s.ap d (resAv rs) (.ab o H')) K) ∨ (∃ H2, ps = [] ∧ env.c f H H2 ∧ evalOps env is (s.ap d (.b (.one (.ab (d.getD 0) (s.gen (d.getD 0) + 1)))) (.new (d.getD 0) (.ab H2))) K)
theorem methOps_intro {f o : Nat} {H : HP} {ps : List Pa} (H' : HP) (rs : List Pa) (h : env.a f (some H) ps H' rs) (k : evalOps env is (s.ap d (resAv rs) (.ab o H')) K) : methOps env K is s d f o (some H) (some ps) := .inl ⟨H', rs, h, k⟩
theorem methOps_clone {f o : Nat} {H : HP} (H2 : HP) (h : env.c f H H2) (k : evalOps env is (s.ap d (.b (.one (.ab (d.getD 0) (s.gen (d.getD 0) + 1)))) (.new (d.getD 0) (.ab H2))) K) : methOps env K is s d f o (some H) (some []) := .inr ⟨H2, rfl, h, k⟩
def mutOps (env : Env) (K : St → Prop) (is : List PI) (s : St) (d : Option Nat) (f o : Nat) (od : Option (List Dt)) (oa : Option (List Pa)) : Prop := withSome oa fun ps => withSome od fun ds => ∃ ds' rs, env.m f ds ps ds' rs ∧ ds'.length = ds.length ∧ evalOps env is (s.ap d (resAv rs) (.wr o 0 (ds'.map .d))) K
theorem mutOps_intro {f o : Nat} {ds : List Dt} {ps : List Pa} (ds' : List Dt) (rs : List Pa) (h : env.m f ds ps ds' rs) (hl : ds'.length = ds.length) (k : evalOps env is (s.ap d (resAv rs) (.wr o 0 (ds'.map .d))) K) : mutOps env K is s d f o (some ds) (some ps) := ⟨ds', rs, h, hl, k⟩
def callR (env : Env) (K : St → Prop) (is : List PI) (s : St) (d : Option Nat) (f : Nat) (xs : List PX) : Option (Nat × Nat) → Option (Nat × Nat) → Prop
  | some (o, g), _ => methOps env K is s d f o (s.abAt o g) (s.args xs.tail)
  | none, some (o, g) => mutOps env K is s d f o (s.cellsAt o g) (s.args xs.tail)
  | none, none => callOps env K is s d f (s.args xs)
theorem callR_none {f : Nat} {xs : List PX} : callR env K is s d f xs none none = callOps env K is s d f (s.args xs) := nrfl rfl
theorem callR_ptr {f o g : Nat} {xs : List PX} : callR env K is s d f xs none (some (o, g)) = mutOps env K is s d f o (s.cellsAt o g) (s.args xs.tail) := nrfl rfl
theorem callR_some {f o g : Nat} {xs : List PX} {p : Option (Nat × Nat)} : callR env K is s d f xs (some (o, g)) p = methOps env K is s d f o (s.abAt o g) (s.args xs.tail) := nrfl rfl
theorem recv_nil : s.recv [] = none := nrfl rfl
theorem recv_cons {x : PX} {xs : List PX} : s.recv (x :: xs) = (s.ev x).abOf := nrfl rfl
theorem prcv_nil : s.prcv [] = none := nrfl rfl
theorem prcv_cons {x : PX} {xs : List PX} : s.prcv (x :: xs) = (s.ev x).ptrOf := nrfl rfl
theorem cellsAt_ob {o g : Nat} : s.cellsAt o g = if s.gen o = g then (match s.ob o with | .cells cs => if cs.length ≤ 1000000 then allSome (cs.map Cl.dt) else none | _ => none) else none := nrfl rfl
theorem abAt_ob {o g : Nat} : s.abAt o g = if s.gen o = g then (match s.ob o with | .ab H => some H | _ => none) else none := nrfl rfl
theorem ap_genb {v : Av} {o : Nat} {H : HP} : (s.ap d v (.ab o H)).gen = s.gen := nrfl rfl
theorem ap_obb {v : Av} {o : Nat} {H : HP} : (s.ap d v (.ab o H)).ob = up s.ob o (.ab H) := nrfl rfl
def guardOps (env : Env) (K : St → Prop) (is : List PI) (s : St) (d : Option Nat) (op : PO) (t : Nat) (want : Bool) : Option (Option Bool) → Prop
  | none => False
  | some none => evalOps env is (s.ap d skp .no) K
  | some (some b) => (b = want → evalOps env (⟨d, op, none, []⟩ :: is) (s.ap (some t) (scAv (.bool want)) .no) K) ∧ (b = !want → evalOps env is ((s.ap (some t) (scAv (.bool !want)) .no).ap d skp .no) K)
theorem guardOps_skp {op : PO} {t : Nat} {want : Bool} : guardOps env K is s d op t want (some none) = evalOps env is (s.ap d skp .no) K := nrfl rfl
theorem guardOps_some {op : PO} {t : Nat} {want b : Bool} : guardOps env K is s d op t want (some (some b)) = ((b = want → evalOps env (⟨d, op, none, []⟩ :: is) (s.ap (some t) (scAv (.bool want)) .no) K) ∧ (b = !want → evalOps env is ((s.ap (some t) (scAv (.bool !want)) .no).ap d skp .no) K)) := nrfl rfl
theorem gd_boo {t : Nat} {b : Bool} (h : s.gd t = some (some b)) : s.boo (.t t) = some b := by
  unfold St.gd at h
  split at h
  · cases h
  · rw [Option.map_eq_some_iff] at h
    obtain ⟨c, hc, h⟩ := h
    cases h; exact hc
theorem some_ne {b want : Bool} : (some b ≠ some want) ↔ b = !want := by cases b <;> cases want <;> simp
theorem boo_self {t : Nat} {b : Bool} (h : s.boo (.t t) = some b) : s.ap (some t) (scAv (.bool b)) .no = s := by
  have h1 : s.sl t = scAv (.bool b) := by
    unfold St.boo at h
    split at h
    · rename_i c hc
      cases h
      exact hc
    · cases h
  have h2 : up s.sl t (scAv (.bool b)) = s.sl := by
    funext x
    rw [up_at]
    split
    · rename_i hx; rw [hx, h1]
    · rfl
  show (⟨up s.sl t (scAv (.bool b)), s.gen, s.ob⟩ : St) = s
  rw [h2]
theorem evalOps_nil : evalOps env [] s K = K s := nrfl rfl
theorem evalOps_fn {op : PO} (h : op.isCall = false) : evalOps env (⟨d, op, none, af⟩ :: is) s K = contOps env K is s d (op.fn s (d.getD 0)) := by
  change PO.go env s (d.getD 0) (fun v ch => evalOps env is (s.ap d v ch) K) op = _
  rw [PO.go_fn h]
  rfl
def callV (env : Env) (K : St → Prop) (is : List PI) (s : St) (d : Option Nat) (f : Nat) (xs : List PX) : Option Unit → Prop
  | some _ => callR env K is s d f xs (s.recv xs) (s.prcv xs)
  | none => False
theorem callV_some {f : Nat} {xs : List PX} {u : Unit} : callV env K is s d f xs (some u) = callR env K is s d f xs (s.recv xs) (s.prcv xs) := nrfl rfl
def ldgV (env : Env) (K : St → Prop) (is : List PI) (s : St) (d : Option Nat) : Option Value → Prop
  | some v => evalOps env is (s.ap d (scAv v) .no) K
  | none => False
theorem ldgV_some {v : Value} : ldgV env K is s d (some v) = evalOps env is (s.ap d (scAv v) .no) K := nrfl rfl
theorem fnIsSelf {f : Nat} : fnIs f (some (.func (.func f) #[] #[])) = some () := fnIs_mk
theorem gAtPtr {g k : Nat} : gAt env (some (.pointer (some ⟨g, k, none⟩))) = env.t g k := nrfl rfl
def opS (env : Env) (K : St → Prop) (is : List PI) (s : St) (d : Option Nat) (b : Bool) (op : PO) : Prop := match b with
  | true => (match op with | .call f xs => callR env K is s d f xs (s.recv xs) (s.prcv xs) | .callv x f xs => callV env K is s d f xs (fnIs f (s.val x)) | .ldg x => ldgV env K is s d (gAt env (s.val x)) | _ => False)
  | false => contOps env K is s d (op.fn s (d.getD 0))
theorem opS_false {op : PO} : opS env K is s d false op = contOps env K is s d (op.fn s (d.getD 0)) := nrfl rfl
theorem opS_true {f : Nat} {xs : List PX} : opS env K is s d true (.call f xs) = callR env K is s d f xs (s.recv xs) (s.prcv xs) := nrfl rfl
theorem opS_callv {x : PX} {f : Nat} {xs : List PX} : opS env K is s d true (.callv x f xs) = callV env K is s d f xs (fnIs f (s.val x)) := nrfl rfl
theorem opS_ldg {x : PX} : opS env K is s d true (.ldg x) = ldgV env K is s d (gAt env (s.val x)) := nrfl rfl
theorem evalOps_op {op : PO} : evalOps env (⟨d, op, none, af⟩ :: is) s K = opS env K is s d op.isCall op := by
  cases hc : op.isCall with
  | true =>
    cases op <;> first
      | (cases hc; done)
      | (rename_i f xs
         show callG env s (d.getD 0) (fun v ch => evalOps env is (s.ap d v ch) K) f xs (s.recv xs) (s.prcv xs) = callR env K is s d f xs (s.recv xs) (s.prcv xs)
         cases s.recv xs <;> cases s.prcv xs <;> rfl)
      | (rename_i x f xs
         show withSome (fnIs f (s.val x)) (fun _ => callG env s (d.getD 0) (fun v ch => evalOps env is (s.ap d v ch) K) f xs (s.recv xs) (s.prcv xs)) = callV env K is s d f xs (fnIs f (s.val x))
         cases fnIs f (s.val x) with
         | none => rfl
         | some _ =>
           show callG env s (d.getD 0) (fun v ch => evalOps env is (s.ap d v ch) K) f xs (s.recv xs) (s.prcv xs) = callR env K is s d f xs (s.recv xs) (s.prcv xs)
           cases s.recv xs <;> cases s.prcv xs <;> rfl)
      | (rename_i x
         show withSome (gAt env (s.val x)) (fun v => evalOps env is (s.ap d (scAv v) .no) K) = ldgV env K is s d (gAt env (s.val x))
         cases gAt env (s.val x) <;> rfl)
  | false => rw [opS_false, evalOps_fn hc]
theorem evalOps_guard {op : PO} {t : Nat} {want : Bool} : evalOps env (⟨d, op, some (t, want), af⟩ :: is) s K = guardOps env K is s d op t want (s.gd t) := by
  change withSome (s.gd t) _ = guardOps env K is s d op t want (s.gd t)
  cases h : s.gd t with
  | none => rfl
  | some b =>
    cases b with
    | none => exact propext ⟨fun k => k.2 (by simp), fun k => ⟨fun e => (by simp at e), fun _ => k⟩⟩
    | some b =>
      have hb := boo_self (gd_boo h)
      rw [guardOps_some]
      show ((some b = some want → _) ∧ (some b ≠ some want → _)) = _
      rw [some_ne, Option.some.injEq]
      congr 1
      · apply propext
        refine forall_congr' fun he => ?_
        subst he
        rw [hb]
        rfl
      · apply propext
        refine forall_congr' fun he => ?_
        rw [← he, hb]
theorem evalOps_gT {op : PO} {t : Nat} {want : Bool} (h : s.gd t = some (some want)) : evalOps env (⟨d, op, some (t, want), af⟩ :: is) s K = evalOps env (⟨d, op, none, []⟩ :: is) s K := by
  rw [evalOps_guard, h, guardOps_some, boo_self (gd_boo h)]
  exact propext ⟨fun k => k.1 rfl, fun k => ⟨fun _ => k, fun e => absurd e (by cases want <;> decide)⟩⟩
theorem evalOps_gF {op : PO} {t : Nat} {want : Bool} (h : s.gd t = some (some (!want))) : evalOps env (⟨d, op, some (t, want), af⟩ :: is) s K = evalOps env is (s.ap d skp .no) K := by
  rw [evalOps_guard, h, guardOps_some, boo_self (gd_boo h)]
  exact propext ⟨fun k => k.2 rfl, fun k => ⟨fun e => absurd e (by cases want <;> decide), fun _ => k⟩⟩
theorem evalOps_gS {op : PO} {t : Nat} {want : Bool} (h : s.gd t = some none) : evalOps env (⟨d, op, some (t, want), af⟩ :: is) s K = evalOps env is (s.ap d skp .no) K := by
  rw [evalOps_guard, h, guardOps_skp]

abbrev Ft := List (List Rg × List Rg)
variable {KD : St → Ft → Prop} {acc : Ft}
def contD (env : Env) (K : St → Ft → Prop) (is : List PI) (s : St) (d : Option Nat) (acc : Ft) (rd : List Rg) (o : Option (Av × Cg)) : Prop := withSome o fun p => evalD env is (s.ap d p.1 p.2) ((rd, p.2.wrs) :: acc) K
theorem contD_some {v : Av} {ch : Cg} {rd : List Rg} : contD env KD is s d acc rd (some (v, ch)) = evalD env is (s.ap d v ch) ((rd, ch.wrs) :: acc) KD := nrfl rfl
def callD (env : Env) (K : St → Ft → Prop) (is : List PI) (s : St) (d : Option Nat) (acc : Ft) (f : Nat) (o : Option (List Pa)) : Prop := withSome o fun ps =>
  (∃ rs, env.d f ps rs ∧ evalD env is (s.ap d (resAv rs) .no) (([(d.getD 0, big - 1, 1)], []) :: acc) K) ∨ (∃ H rs, env.a f none ps H rs ∧ evalD env is (s.ap d (newAv (d.getD 0) (s.gen (d.getD 0) + 1) rs) (.new (d.getD 0) (.ab H))) (([(d.getD 0, big - 1, 1)], [(d.getD 0, 0, big)]) :: acc) K)
theorem callD_intro {f : Nat} {ps : List Pa} (rs : List Pa) (h : env.d f ps rs) (k : evalD env is (s.ap d (resAv rs) .no) (([(d.getD 0, big - 1, 1)], []) :: acc) KD) : callD env KD is s d acc f (some ps) := .inl ⟨rs, h, k⟩
theorem callD_new {f : Nat} {ps : List Pa} (H : HP) (rs : List Pa) (h : env.a f none ps H rs) (k : evalD env is (s.ap d (newAv (d.getD 0) (s.gen (d.getD 0) + 1) rs) (.new (d.getD 0) (.ab H))) (([(d.getD 0, big - 1, 1)], [(d.getD 0, 0, big)]) :: acc) KD) : callD env KD is s d acc f (some ps) := .inr ⟨H, rs, h, k⟩
def methD (env : Env) (K : St → Ft → Prop) (is : List PI) (s : St) (d : Option Nat) (acc : Ft) (f o : Nat) (oh : Option HP) (oa : Option (List Pa)) : Prop := withSome oa fun ps => withSome oh fun H =>
  (∃ H' rs, env.a f (some H) ps H' rs ∧ evalD env is (s.ap d (resAv rs) (.ab o H')) (([(o, 0, big), (d.getD 0, big - 1, 1)], [(o, 0, big)]) :: acc) K) ∨
  (∃ H2, ps = [] ∧ env.c f H H2 ∧ evalD env is (s.ap d (.b (.one (.ab (d.getD 0) (s.gen (d.getD 0) + 1)))) (.new (d.getD 0) (.ab H2))) (([(o, 0, big), (d.getD 0, big - 1, 1)], [(d.getD 0, 0, big)]) :: acc) K)
theorem methD_intro {f o : Nat} {H : HP} {ps : List Pa} (H' : HP) (rs : List Pa) (h : env.a f (some H) ps H' rs) (k : evalD env is (s.ap d (resAv rs) (.ab o H')) (([(o, 0, big), (d.getD 0, big - 1, 1)], [(o, 0, big)]) :: acc) KD) : methD env KD is s d acc f o (some H) (some ps) := .inl ⟨H', rs, h, k⟩
def mutD (env : Env) (K : St → Ft → Prop) (is : List PI) (s : St) (d : Option Nat) (acc : Ft) (f o : Nat) (od : Option (List Dt)) (oa : Option (List Pa)) : Prop := withSome oa fun ps => withSome od fun ds => ∃ ds' rs, env.m f ds ps ds' rs ∧ ds'.length = ds.length ∧ evalD env is (s.ap d (resAv rs) (.wr o 0 (ds'.map .d))) (([(o, 0, big), (d.getD 0, big - 1, 1)], [(o, 0, (ds'.map Cl.d).length)]) :: acc) K
theorem mutD_intro {f o : Nat} {ds : List Dt} {ps : List Pa} (ds' : List Dt) (rs : List Pa) (h : env.m f ds ps ds' rs) (hl : ds'.length = ds.length) (k : evalD env is (s.ap d (resAv rs) (.wr o 0 (ds'.map .d))) (([(o, 0, big), (d.getD 0, big - 1, 1)], [(o, 0, (ds'.map Cl.d).length)]) :: acc) KD) : mutD env KD is s d acc f o (some ds) (some ps) := ⟨ds', rs, h, hl, k⟩
def callRD (env : Env) (K : St → Ft → Prop) (is : List PI) (s : St) (d : Option Nat) (acc : Ft) (f : Nat) (xs : List PX) : Option (Nat × Nat) → Option (Nat × Nat) → Prop
  | some (o, g), _ => methD env K is s d acc f o (s.abAt o g) (s.args xs.tail)
  | none, some (o, g) => mutD env K is s d acc f o (s.cellsAt o g) (s.args xs.tail)
  | none, none => callD env K is s d acc f (s.args xs)
theorem callRD_none {f : Nat} {xs : List PX} : callRD env KD is s d acc f xs none none = callD env KD is s d acc f (s.args xs) := nrfl rfl
theorem callRD_ptr {f o g : Nat} {xs : List PX} : callRD env KD is s d acc f xs none (some (o, g)) = mutD env KD is s d acc f o (s.cellsAt o g) (s.args xs.tail) := nrfl rfl
theorem callRD_some {f o g : Nat} {xs : List PX} {p : Option (Nat × Nat)} : callRD env KD is s d acc f xs (some (o, g)) p = methD env KD is s d acc f o (s.abAt o g) (s.args xs.tail) := nrfl rfl
/-- a guarded operation -/
def goD (env : Env) (K : St → Ft → Prop) (is : List PI) (s : St) (d : Option Nat) (acc : Ft) (op : PO) : Prop := op.go env s (d.getD 0) fun v ch => evalD env is (s.ap d v ch) ((op.rd s (d.getD 0), ch.wrs) :: acc) K
def guardD (env : Env) (K : St → Ft → Prop) (is : List PI) (s : St) (d : Option Nat) (acc : Ft) (op : PO) (t : Nat) (want : Bool) : Option (Option Bool) → Prop
  | none => False
  | some none => evalD env is (s.ap d skp .no) ((op.rd s (d.getD 0), []) :: acc) K
  | some (some b) => (b = want → goD env K is (s.ap (some t) (scAv (.bool want)) .no) d acc op) ∧ (b = !want → evalD env is ((s.ap (some t) (scAv (.bool !want)) .no).ap d skp .no) ((op.rd s (d.getD 0), []) :: acc) K)
theorem guardD_skp {op : PO} {t : Nat} {want : Bool} : guardD env KD is s d acc op t want (some none) = evalD env is (s.ap d skp .no) ((op.rd s (d.getD 0), []) :: acc) KD := nrfl rfl
theorem guardD_some {op : PO} {t : Nat} {want b : Bool} : guardD env KD is s d acc op t want (some (some b)) = ((b = want → goD env KD is (s.ap (some t) (scAv (.bool want)) .no) d acc op) ∧ (b = !want → evalD env is ((s.ap (some t) (scAv (.bool !want)) .no).ap d skp .no) ((op.rd s (d.getD 0), []) :: acc) KD)) := nrfl rfl
theorem evalD_nil : evalD env [] s acc KD = KD s acc.reverse := nrfl rfl
theorem goD_fn {op : PO} (h : op.isCall = false) : goD env KD is s d acc op = contD env KD is s d acc (op.rd s (d.getD 0)) (op.fn s (d.getD 0)) := by
  unfold goD
  rw [PO.go_fn h]
  rfl
def callVD (env : Env) (K : St → Ft → Prop) (is : List PI) (s : St) (d : Option Nat) (acc : Ft) (f : Nat) (xs : List PX) : Option Unit → Prop
  | some _ => callRD env K is s d acc f xs (s.recv xs) (s.prcv xs)
  | none => False
theorem callVD_some {f : Nat} {xs : List PX} {u : Unit} : callVD env KD is s d acc f xs (some u) = callRD env KD is s d acc f xs (s.recv xs) (s.prcv xs) := nrfl rfl
def ldgVD (env : Env) (K : St → Ft → Prop) (is : List PI) (s : St) (d : Option Nat) (acc : Ft) : Option Value → Prop
  | some v => evalD env is (s.ap d (scAv v) .no) (([], []) :: acc) K
  | none => False
theorem ldgVD_some {v : Value} : ldgVD env KD is s d acc (some v) = evalD env is (s.ap d (scAv v) .no) (([], []) :: acc) KD := nrfl rfl
def opD (env : Env) (K : St → Ft → Prop) (is : List PI) (s : St) (d : Option Nat) (acc : Ft) (b : Bool) (op : PO) : Prop := match b with
  | true => (match op with | .call f xs => callRD env K is s d acc f xs (s.recv xs) (s.prcv xs) | .callv x f xs => callVD env K is s d acc f xs (fnIs f (s.val x)) | .ldg x => ldgVD env K is s d acc (gAt env (s.val x)) | _ => False)
  | false => contD env K is s d acc (op.rd s (d.getD 0)) (op.fn s (d.getD 0))
theorem opD_false {op : PO} : opD env KD is s d acc false op = contD env KD is s d acc (op.rd s (d.getD 0)) (op.fn s (d.getD 0)) := nrfl rfl
theorem opD_true {f : Nat} {xs : List PX} : opD env KD is s d acc true (.call f xs) = callRD env KD is s d acc f xs (s.recv xs) (s.prcv xs) := nrfl rfl
theorem opD_callv {x : PX} {f : Nat} {xs : List PX} : opD env KD is s d acc true (.callv x f xs) = callVD env KD is s d acc f xs (fnIs f (s.val x)) := nrfl rfl
theorem opD_ldg {x : PX} : opD env KD is s d acc true (.ldg x) = ldgVD env KD is s d acc (gAt env (s.val x)) := nrfl rfl
theorem goD_op {op : PO} : goD env KD is s d acc op = opD env KD is s d acc op.isCall op := by
  cases hc : op.isCall with
  | true =>
    cases op <;> first
      | (cases hc; done)
      | (rename_i f xs
         show callG env s (d.getD 0) (fun v ch => evalD env is (s.ap d v ch) (((PO.call f xs).rd s (d.getD 0), ch.wrs) :: acc) KD) f xs (s.recv xs) (s.prcv xs) = callRD env KD is s d acc f xs (s.recv xs) (s.prcv xs)
         have hrd : (PO.call f xs).rd s (d.getD 0) = match s.recv xs, s.prcv xs with | some p, _ => [(p.1, 0, big), (d.getD 0, big - 1, 1)] | none, some p => [(p.1, 0, big), (d.getD 0, big - 1, 1)] | none, none => [(d.getD 0, big - 1, 1)] := rfl
         rw [hrd]
         cases s.recv xs <;> cases s.prcv xs <;> rfl)
      | (rename_i x f xs
         show withSome (fnIs f (s.val x)) (fun _ => callG env s (d.getD 0) (fun v ch => evalD env is (s.ap d v ch) (((PO.callv x f xs).rd s (d.getD 0), ch.wrs) :: acc) KD) f xs (s.recv xs) (s.prcv xs)) = callVD env KD is s d acc f xs (fnIs f (s.val x))
         have hrd : (PO.callv x f xs).rd s (d.getD 0) = match s.recv xs, s.prcv xs with | some p, _ => [(p.1, 0, big), (d.getD 0, big - 1, 1)] | none, some p => [(p.1, 0, big), (d.getD 0, big - 1, 1)] | none, none => [(d.getD 0, big - 1, 1)] := rfl
         rw [hrd]
         cases fnIs f (s.val x) with
         | none => rfl
         | some u =>
           show callG env s (d.getD 0) (fun v ch => evalD env is (s.ap d v ch) ((match s.recv xs, s.prcv xs with | some p, _ => [(p.1, 0, big), (d.getD 0, big - 1, 1)] | none, some p => [(p.1, 0, big), (d.getD 0, big - 1, 1)] | none, none => [(d.getD 0, big - 1, 1)], ch.wrs) :: acc) KD) f xs (s.recv xs) (s.prcv xs) = callRD env KD is s d acc f xs (s.recv xs) (s.prcv xs)
           cases s.recv xs <;> cases s.prcv xs <;> rfl)
      | (rename_i x
         show withSome (gAt env (s.val x)) (fun v => evalD env is (s.ap d (scAv v) .no) (([], []) :: acc) KD) = ldgVD env KD is s d acc (gAt env (s.val x))
         cases gAt env (s.val x) <;> rfl)
  | false => rw [opD_false, goD_fn hc]
theorem evalD_plain {op : PO} : evalD env (⟨d, op, none, af⟩ :: is) s acc KD = goD env KD is s d acc op := nrfl rfl
theorem evalD_guard {op : PO} {t : Nat} {want : Bool} : evalD env (⟨d, op, some (t, want), af⟩ :: is) s acc KD = guardD env KD is s d acc op t want (s.gd t) := by
  change withSome (s.gd t) _ = guardD env KD is s d acc op t want (s.gd t)
  cases h : s.gd t with
  | none => rfl
  | some b =>
    cases b with
    | none => exact propext ⟨fun k => k.2 (by simp), fun k => ⟨fun e => (by simp at e), fun _ => k⟩⟩
    | some b =>
      have hb := boo_self (gd_boo h)
      rw [guardD_some]
      show ((some b = some want → _) ∧ (some b ≠ some want → _)) = _
      rw [some_ne, Option.some.injEq]
      congr 1
      · apply propext
        refine forall_congr' fun he => ?_
        subst he
        rw [hb]
        rfl
      · apply propext
        refine forall_congr' fun he => ?_
        rw [← he, hb]
        rfl
theorem evalD_gT {op : PO} {t : Nat} {want : Bool} (h : s.gd t = some (some want)) : evalD env (⟨d, op, some (t, want), af⟩ :: is) s acc KD = goD env KD is s d acc op := by
  rw [evalD_guard, h, guardD_some, boo_self (gd_boo h)]
  exact propext ⟨fun k => k.1 rfl, fun k => ⟨fun _ => k, fun e => absurd e (by cases want <;> decide)⟩⟩
theorem evalD_gF {op : PO} {t : Nat} {want : Bool} (h : s.gd t = some (some (!want))) : evalD env (⟨d, op, some (t, want), af⟩ :: is) s acc KD = evalD env is (s.ap d skp .no) ((op.rd s (d.getD 0), []) :: acc) KD := by
  rw [evalD_guard, h, guardD_some, boo_self (gd_boo h)]
  exact propext ⟨fun k => k.2 rfl, fun k => ⟨fun e => absurd e (by cases want <;> decide), fun _ => k⟩⟩
theorem evalD_gS {op : PO} {t : Nat} {want : Bool} (h : s.gd t = some none) : evalD env (⟨d, op, some (t, want), af⟩ :: is) s acc KD = evalD env is (s.ap d skp .no) ((op.rd s (d.getD 0), []) :: acc) KD := by
  rw [evalD_guard, h, guardD_skp]

/-- what comes behind: codes, ends of blocks, of loops -/
inductive It where
  | c (x : PC)
  | bl (id : Nat)
  | lp (I : Nat → St → Prop) (n : Nat)
def exS (env : Env) : List It → (Exit → St → Prop) → Exit → St → Prop
  | [], Q, e, s => Q e s
  | .c b :: k, Q, e, s => match e with
    | .normal => pwp env b (exS env k Q) s
    | e => exS env k Q e s
  | .bl id :: k, Q, e, s => match e with
    | .exit i => if i = id then exS env k Q .normal s else exS env k Q (.exit i) s
    | e => exS env k Q e s
  | .lp I n :: k, Q, e, s => match e with
    | .normal => ∃ m, m < n ∧ I m s
    | e => exS env k Q e s

variable {k : List It} {Q : Exit → St → Prop}
theorem exS_nil {e : Exit} : exS env [] Q e s = Q e s := nrfl rfl
theorem exS_c {b : PC} : exS env (.c b :: k) Q .normal s = pwp env b (exS env k Q) s := nrfl rfl
theorem exS_c_ret {b : PC} : exS env (.c b :: k) Q .ret s = exS env k Q .ret s := nrfl rfl
theorem exS_c_exit {b : PC} {i : Nat} : exS env (.c b :: k) Q (.exit i) s = exS env k Q (.exit i) s := nrfl rfl
theorem exS_bl {id : Nat} : exS env (.bl id :: k) Q .normal s = exS env k Q .normal s := nrfl rfl
theorem exS_bl_ret {id : Nat} : exS env (.bl id :: k) Q .ret s = exS env k Q .ret s := nrfl rfl
theorem exS_bl_exit {id i : Nat} : exS env (.bl id :: k) Q (.exit i) s = if i = id then exS env k Q .normal s else exS env k Q (.exit i) s := nrfl rfl
theorem exS_lp {I : Nat → St → Prop} {n : Nat} : exS env (.lp I n :: k) Q .normal s = ∃ m, m < n ∧ I m s := nrfl rfl
theorem exS_lp_ret {I : Nat → St → Prop} {n : Nat} : exS env (.lp I n :: k) Q .ret s = exS env k Q .ret s := nrfl rfl
theorem exS_lp_exit {I : Nat → St → Prop} {n i : Nat} : exS env (.lp I n :: k) Q (.exit i) s = exS env k Q (.exit i) s := nrfl rfl

theorem pwp_start {c : PC} (h : pwp env c (exS env [] Q) s) : pwp env c Q s := h
/-- go on from a state of which only these slots and objects are known -/
theorem pwp_fresh {Q' : Exit → St → Prop} {c : PC} (sls obs : List Nat) (h : ∀ st : St, (∀ x, x ∈ sls → st.sl x = s.sl x) → (∀ o, o ∈ obs → st.gen o = s.gen o ∧ st.ob o = s.ob o) → pwp env c Q' st) : pwp env c Q' s := h s (fun _ _ => rfl) (fun _ _ => ⟨rfl, rfl⟩)
/-- the same with something known of the whole state -/
theorem pwp_freshP {Q' : Exit → St → Prop} {c : PC} (P : St → Prop) (hP : P s) (sls obs : List Nat) (h : ∀ st : St, P st → (∀ x, x ∈ sls → st.sl x = s.sl x) → (∀ o, o ∈ obs → st.gen o = s.gen o ∧ st.ob o = s.ob o) → pwp env c Q' st) : pwp env c Q' s := h s hP (fun _ _ => rfl) (fun _ _ => ⟨rfl, rfl⟩)
theorem pwp_skip : pwp env .skip (exS env k Q) s = exS env k Q .normal s := nrfl rfl
theorem pwp_reg {ops : List PI} : pwp env (.reg false ops) (exS env k Q) s = evalOps env ops s (exS env k Q .normal) := nrfl rfl
def drawn (ops : List PI) (K : St → Prop) (s : St) (fts : Ft) : Prop := drawOk ops fts = true ∧ K s
/-- the check of a drawn region: closed by drw -/
def Drw (ops : List PI) (fts : Ft) : Prop := drawOk ops fts = true
theorem drawn_and {ops : List PI} {K : St → Prop} {fts : Ft} : drawn ops K s fts = (Drw ops fts ∧ K s) := nrfl rfl
theorem pwp_regD {ops : List PI} : pwp env (.reg true ops) (exS env k Q) s = evalD env ops s [] (drawn ops (exS env k Q .normal)) := nrfl rfl
theorem pwp_seq {a b : PC} : pwp env (.seq a b) (exS env k Q) s = pwp env a (exS env (.c b :: k) Q) s := by
  show pwp env a _ s = _
  congr 1
def condS (env : Env) (a b : PC) (k : List It) (Q : Exit → St → Prop) (s : St) (o : Option Bool) : Prop := withSome o fun t => (t = true → pwp env a (exS env k Q) s) ∧ (t = false → pwp env b (exS env k Q) s)
theorem condS_some {a b : PC} {t : Bool} : condS env a b k Q s (some t) = ((t = true → pwp env a (exS env k Q) s) ∧ (t = false → pwp env b (exS env k Q) s)) := nrfl rfl
theorem pwp_cond {c : PX} {a b : PC} : pwp env (.cond c a b) (exS env k Q) s = condS env a b k Q s (s.boo c) := nrfl rfl
theorem pwp_block {id : Nat} {c : PC} : pwp env (.block id c) (exS env k Q) s = pwp env c (exS env (.bl id :: k) Q) s := by
  show pwp env c _ s = _
  congr 1
theorem pwp_exit {id : Nat} : pwp env (.exit id) (exS env k Q) s = exS env k Q (.exit id) s := nrfl rfl
theorem pwp_ret : pwp env .ret (exS env k Q) s = exS env k Q .ret s := nrfl rfl
theorem pwp_loop {c : PC} (I : Nat → St → Prop) (n : Nat) (h0 : I n s) (h : ∀ n s, I n s → pwp env c (exS env (.lp I n :: k) Q) s) : pwp env (.loop c) (exS env k Q) s := by
  refine ⟨I, ⟨n, h0⟩, fun n s hI => ?_⟩
  have := h n s hI
  have he : exS env (.lp I n :: k) Q = fun e s' => match e with | .normal => ∃ m, m < n ∧ I m s' | e => exS env k Q e s' := by
    funext e s'
    cases e <;> rfl
  rw [he] at this
  exact this

/-! the parts of a state -/
theorem ap_sl {x : Nat} {v : Av} {ch : Cg} : (s.ap (some x) v ch).sl = up s.sl x v := nrfl rfl
theorem ap_sl0 {v : Av} {ch : Cg} : (s.ap none v ch).sl = s.sl := nrfl rfl
theorem ap_gen {v : Av} : (s.ap d v .no).gen = s.gen := nrfl rfl
theorem ap_genw {v : Av} {o off : Nat} {cs : List Cl} : (s.ap d v (.wr o off cs)).gen = s.gen := nrfl rfl
theorem ap_genr {v : Av} {o m : Nat} : (s.ap d v (.row o m)).gen = s.gen := nrfl rfl
theorem ap_genn {v : Av} {o : Nat} {x : Ob} : (s.ap d v (.new o x)).gen = up s.gen o (s.gen o + 1) := nrfl rfl
theorem ap_ob {v : Av} : (s.ap d v .no).ob = s.ob := nrfl rfl
theorem ap_obw {v : Av} {o off : Nat} {cs : List Cl} : (s.ap d v (.wr o off cs)).ob = up s.ob o (wrF off cs (s.ob o)) := by
  rw [ap_eq]; rfl
theorem ap_obr {v : Av} {o m : Nat} : (s.ap d v (.row o m)).ob = up s.ob o (rowF m (s.ob o)) := by
  rw [ap_eq]; rfl
theorem ap_obn {v : Av} {o : Nat} {x : Ob} : (s.ap d v (.new o x)).ob = up s.ob o x := nrfl rfl
theorem wrF_cells {off : Nat} {cs old : List Cl} : wrF off cs (.cells old) = .cells (wrAt old off cs) := nrfl rfl
theorem rowF_row {m E sz n : Nat} : rowF m (.row E sz n) = .row E sz m := nrfl rfl

def initSl : List Pa → Nat → Av
  | [], _ => .un
  | p :: _, 0 => .b p.bv
  | _ :: r, n + 1 => initSl r n
theorem init_sl (ps : List Pa) (x : Nat) : (St.init ps).sl x = initSl ps x := by
  show (match ps[x]? with | some p => Av.b p.bv | none => .un) = _
  induction ps generalizing x with
  | nil => simp [initSl]
  | cons p r ih =>
    cases x with
    | zero => rfl
    | succ x => rw [List.getElem?_cons_succ, ih x]; rfl
theorem initM_sl0 {ds : List Dt} {ps : List Pa} : (St.initM ds ps).sl 0 = .b (.one (.ptr 0 0 0)) := nrfl rfl
theorem initM_slS {ds : List Dt} {ps : List Pa} {x : Nat} : (St.initM ds ps).sl (x + 1) = initSl ps x := (init_sl ps x)
theorem initM_gen {ds : List Dt} {ps : List Pa} {x : Nat} : (St.initM ds ps).gen x = 0 := nrfl rfl
theorem initM_ob0 {ds : List Dt} {ps : List Pa} : (St.initM ds ps).ob 0 = .cells (ds.map .d) := nrfl rfl
theorem initM_obS {ds : List Dt} {ps : List Pa} {x : Nat} : (St.initM ds ps).ob (x + 1) = .no := nrfl rfl
theorem init_gen {ps : List Pa} {x : Nat} : (St.init ps).gen x = 0 := nrfl rfl
theorem init_ob {ps : List Pa} {x : Nat} : (St.init ps).ob x = .no := nrfl rfl

theorem ev_t {x : Nat} : s.ev (.t x) = s.sl x := nrfl rfl
theorem ev_int {k : IntKind} {m : Int} : s.ev (.v (.int k m)) = .b (.one (.d (.sc (.int k m)))) := nrfl rfl
theorem ev_bool {b : Bool} : s.ev (.v (.bool b)) = .b (.one (.d (.sc (.bool b)))) := nrfl rfl
theorem ev_string {b : ByteArray} : s.ev (.v (.string b)) = .b (.one (.d (.sc (.string b)))) := nrfl rfl
theorem ev_nil : s.ev (.v (.slice none 0 0)) = .b (.one (.d (.sc (.slice none 0 0)))) := nrfl rfl
theorem ev_agg {l : Array Value} : s.ev (.v (.agg l)) = .b (.agg (l.toList.map fun v => .d (.sc v))) := nrfl rfl
theorem ev_ptr : s.ev (.v (.pointer none)) = .b (.one (.d (.sc (.pointer none)))) := nrfl rfl

theorem args_nil : s.args [] = some [] := nrfl rfl
theorem args_cons {x : PX} {xs : List PX} : s.args (x :: xs) = (match (s.ev x).pa with | some p => (s.args xs).map (p :: ·) | none => none) := by
  unfold St.args
  simp only [List.map_cons]
  cases (s.ev x).pa <;> rfl
end

/-- st is s0 but for the slots ms and the objects os -/
def Within (ms os : List Nat) (s0 st : St) : Prop := (∀ x, ms.contains x = false → st.sl x = s0.sl x) ∧ ∀ o, os.contains o = false → st.gen o = s0.gen o ∧ st.ob o = s0.ob o
def over (ms os : List Nat) (s0 j : St) : St := ⟨fun x => bif ms.contains x then j.sl x else s0.sl x, fun o => bif os.contains o then j.gen o else s0.gen o, fun o => bif os.contains o then j.ob o else s0.ob o⟩
theorem Within.refl (ms os : List Nat) (s : St) : Within ms os s s := ⟨fun _ _ => rfl, fun _ _ => ⟨rfl, rfl⟩⟩
theorem Within.over {ms os : List Nat} {s0 st : St} (h : Within ms os s0 st) : ∃ j, st = over ms os s0 j := by
  refine ⟨st, ?_⟩
  obtain ⟨h1, h2⟩ := h
  have e1 : st.sl = (Go.Proofs.YthnjbnfnljjepabDoor.over ms os s0 st).sl := by
    funext x
    show st.sl x = bif ms.contains x then st.sl x else s0.sl x
    cases hx : ms.contains x with
    | true => rfl
    | false => exact h1 x hx
  have e2 : st.gen = (Go.Proofs.YthnjbnfnljjepabDoor.over ms os s0 st).gen := by
    funext x
    show st.gen x = bif os.contains x then st.gen x else s0.gen x
    cases hx : os.contains x with
    | true => rfl
    | false => exact (h2 x hx).1
  have e3 : st.ob = (Go.Proofs.YthnjbnfnljjepabDoor.over ms os s0 st).ob := by
    funext x
    show st.ob x = bif os.contains x then st.ob x else s0.ob x
    cases hx : os.contains x with
    | true => rfl
    | false => exact (h2 x hx).2
  show (⟨st.sl, st.gen, st.ob⟩ : St) = ⟨(Go.Proofs.YthnjbnfnljjepabDoor.over ms os s0 st).sl, (Go.Proofs.YthnjbnfnljjepabDoor.over ms os s0 st).gen, (Go.Proofs.YthnjbnfnljjepabDoor.over ms os s0 st).ob⟩
  rw [← e1, ← e2, ← e3]
theorem over_sl {ms os : List Nat} {s0 j : St} {x : Nat} : (over ms os s0 j).sl x = bif ms.contains x then j.sl x else s0.sl x := nrfl rfl
theorem over_gen {ms os : List Nat} {s0 j : St} {x : Nat} : (over ms os s0 j).gen x = bif os.contains x then j.gen x else s0.gen x := nrfl rfl
theorem over_ob {ms os : List Nat} {s0 j : St} {x : Nat} : (over ms os s0 j).ob x = bif os.contains x then j.ob x else s0.ob x := nrfl rfl
theorem within_over {ms os : List Nat} {s0 j : St} : Within ms os s0 (over ms os s0 j) = True := by
  apply propext
  refine ⟨fun _ => trivial, fun _ => ⟨fun x hx => ?_, fun o ho => ⟨?_, ?_⟩⟩⟩
  · rw [over_sl, hx]; rfl
  · rw [over_gen, ho]; rfl
  · rw [over_ob, ho]; rfl
theorem within_self {ms os : List Nat} {s : St} : Within ms os s s = True := propext ⟨fun _ => trivial, fun _ => Within.refl _ _ _⟩
def chIn (os : List Nat) : Cg → Bool
  | .ab o _ => os.contains o
  | .no => true
  | .new o _ => os.contains o
  | .wr o _ _ => os.contains o
  | .row o _ => os.contains o
theorem Within.ap {ms os : List Nat} {s0 s : St} {d : Option Nat} {v : Av} {ch : Cg} (h : Within ms os s0 s) (hd : ∀ x, d = some x → ms.contains x = true) (hc : chIn os ch = true) : Within ms os s0 (s.ap d v ch) := by
  obtain ⟨h1, h2⟩ := h
  rw [ap_eq]
  refine ⟨fun x hx => ?_, fun o ho => ?_⟩
  · cases d with
    | none => exact h1 x hx
    | some y =>
      show up s.sl y v x = _
      rw [up_at, if_neg]
      · exact h1 x hx
      · rintro rfl
        rw [hd x rfl] at hx
        cases hx
  · have key : ∀ y : Nat, os.contains y = true → o ≠ y := by
      rintro y hy rfl
      rw [hy] at ho; cases ho
    show ch.gF s.gen o = _ ∧ ch.oF s.ob o = _
    cases ch with
    | no => exact h2 o ho
    | new y x => simp only [Cg.gF, Cg.oF, Go.Proofs.YthnjbnfnljjepabDoor.md, up_at, if_neg (key y hc)]; exact h2 o ho
    | wr y off cs => simp only [Cg.gF, Cg.oF, Go.Proofs.YthnjbnfnljjepabDoor.md, up_at, if_neg (key y hc)]; exact h2 o ho
    | row y m => simp only [Cg.gF, Cg.oF, Go.Proofs.YthnjbnfnljjepabDoor.md, up_at, if_neg (key y hc)]; exact h2 o ho
    | ab y H => simp only [Cg.gF, Cg.oF, Go.Proofs.YthnjbnfnljjepabDoor.md, up_at, if_neg (key y hc)]; exact h2 o ho
theorem within_ap {ms os : List Nat} {s0 s : St} {x : Nat} {v : Av} {ch : Cg} (h : Within ms os s0 s) (hd : ms.contains x = true) (hc : chIn os ch = true) : Within ms os s0 (s.ap (some x) v ch) := h.ap (fun y hy => by cases hy; exact hd) hc
theorem within_ap0 {ms os : List Nat} {s0 s : St} {v : Av} {ch : Cg} (h : Within ms os s0 s) (hc : chIn os ch = true) : Within ms os s0 (s.ap none v ch) := h.ap (fun y hy => by cases hy) hc
theorem Within.trans {ms os : List Nat} {a b c : St} (h : Within ms os a b) (k : Within ms os b c) : Within ms os a c :=
  ⟨fun x hx => (k.1 x hx).trans (h.1 x hx), fun o ho => ⟨(k.2 o ho).1.trans (h.2 o ho).1, (k.2 o ho).2.trans (h.2 o ho).2⟩⟩

/-- a loop that turns the slots ms and the objects os alone -/
theorem pwp_loopW {env : Env} {k : List It} {Q : Exit → St → Prop} {s : St} {c : PC} (ms os : List Nat) (J : Nat → St → Prop) (m0 : Nat) (h0 : J m0 s)
    (h : ∀ m j, J m (over ms os s j) → pwp env c (exS env (.lp (fun m st => Within ms os s st ∧ J m st) m :: k) Q) (over ms os s j)) : pwp env (.loop c) (exS env k Q) s :=
  pwp_loop (fun m st => Within ms os s st ∧ J m st) m0 ⟨Within.refl _ _ _, h0⟩ (fun m st ⟨hW, hJ⟩ => by
    obtain ⟨j, rfl⟩ := hW.over
    exact h m j hJ)

/-! numbers -/
theorem wr64 {x : Int} (h1 : -9223372036854775808 ≤ x) (h2 : x ≤ 9223372036854775807) : IntKind.i64.wrap x = x := IntWalk.i64_in x ⟨h1, h2⟩
theorem wrN {k : Nat} (h : k ≤ 1000000000) : IntKind.i64.wrap ((k : Int) + 1) = ((k + 1 : Nat) : Int) := by
  rw [wr64 (by omega) (by omega)]; omega
end Go.Proofs.YthnjbnfnljjepabDoor
end
section
set_option linter.unusedSimpArgs false
set_option linter.unusedVariables false
namespace Go.Proofs.YthnjbnfnljjepabDoor
open Go Go.RowKit
set_option maxRecDepth 100000
def unN : Option Value → Option (Av × Cg)
  | some (.bool b) => some (scAv (.bool !b), .no)
  | _ => none
def unG : Option Value → Option (Av × Cg)
  | some (.int k n) => some (scAv (.int k (k.wrap (0 - n))), .no)
  | _ => none
def unX : Option Value → Option (Av × Cg)
  | some (.int k n) => some (scAv (.int k (k.wrap (BitVec.ofInt k.bits (if k.signed then -1 else k.max) ^^^ BitVec.ofInt k.bits n).toNat)), .no)
  | _ => none
theorem fn_not {s : St} {d : Nat} {x : PX} : PO.fn s d (.un .not x) = unN (s.val x) := by
  cases h : s.val x with
  | none => simp only [PO.fn, h, unN]
  | some v => cases v <;> simp only [PO.fn, h, unN]
theorem fn_neg {s : St} {d : Nat} {x : PX} : PO.fn s d (.un .neg x) = unG (s.val x) := by
  cases h : s.val x with
  | none => simp only [PO.fn, h, unG]
  | some v => cases v <;> simp only [PO.fn, h, unG]
theorem fn_xor {s : St} {d : Nat} {x : PX} : PO.fn s d (.un .xor x) = unX (s.val x) := by
  cases h : s.val x with
  | none => simp only [PO.fn, h, unX]
  | some v => cases v <;> simp only [PO.fn, h, unX]
theorem evP : type_of% (
  And.intro @evalOps_gT <|
  And.intro @evalOps_gF <|
  And.intro @evalOps_gS <|
  And.intro @evalD_gT <|
  And.intro @evalD_gF <|
  And.intro @evalD_gS <|
  And.intro @pwp_skip <|
  And.intro @pwp_reg <|
  And.intro @pwp_regD <|
  And.intro @pwp_seq <|
  And.intro @pwp_cond <|
  And.intro @pwp_block <|
  And.intro @pwp_exit <|
  @pwp_ret) :=
  And.intro @evalOps_gT <|
  And.intro @evalOps_gF <|
  And.intro @evalOps_gS <|
  And.intro @evalD_gT <|
  And.intro @evalD_gF <|
  And.intro @evalD_gS <|
  And.intro @pwp_skip <|
  And.intro @pwp_reg <|
  And.intro @pwp_regD <|
  And.intro @pwp_seq <|
  And.intro @pwp_cond <|
  And.intro @pwp_block <|
  And.intro @pwp_exit <|
  @pwp_ret
theorem evB : type_of% (
  And.intro @guardOps_skp <|
  And.intro @guardD_skp <|
  And.intro @St.gd.eq_1 <|
  And.intro @isSkp.eq_1 <|
  And.intro @isSkp.eq_2 <|
  And.intro @isSkp.eq_3 <|
  And.intro @isSkp.eq_4 <|
  And.intro @skp.eq_1 <|
  And.intro @condS_some <|
  And.intro @exS_nil <|
  And.intro @exS_c <|
  And.intro @exS_c_ret <|
  And.intro @exS_c_exit <|
  And.intro @exS_bl <|
  And.intro @exS_bl_ret <|
  And.intro @exS_bl_exit <|
  And.intro @exS_lp_ret <|
  And.intro @exS_lp_exit <|
  And.intro @evalOps_nil <|
  And.intro @evalOps_op <|
  And.intro @opS_false <|
  And.intro @opS_true <|
  And.intro @evalOps_guard <|
  And.intro @contOps_some <|
  And.intro @guardOps_some <|
  And.intro @evalD_nil <|
  And.intro @drawn_and <|
  And.intro @List.reverse_cons.{0} <|
  And.intro @List.reverse_nil.{0} <|
  And.intro @evalD_plain <|
  And.intro @evalD_guard <|
  And.intro @goD_op <|
  And.intro @opD_false <|
  And.intro @opD_true <|
  And.intro @contD_some <|
  And.intro @guardD_some <|
  And.intro @callR_none <|
  And.intro @callR_some <|
  And.intro @callR_ptr <|
  And.intro @callRD_ptr <|
  And.intro @callRD_none <|
  And.intro @callRD_some <|
  And.intro @opS_callv <|
  And.intro @opS_ldg <|
  And.intro @opD_callv <|
  And.intro @opD_ldg <|
  And.intro @callV_some <|
  And.intro @ldgV_some <|
  And.intro @callVD_some <|
  And.intro @ldgVD_some <|
  And.intro @fnIsSelf <|
  @gAtPtr) :=
  And.intro @guardOps_skp <|
  And.intro @guardD_skp <|
  And.intro @St.gd.eq_1 <|
  And.intro @isSkp.eq_1 <|
  And.intro @isSkp.eq_2 <|
  And.intro @isSkp.eq_3 <|
  And.intro @isSkp.eq_4 <|
  And.intro @skp.eq_1 <|
  And.intro @condS_some <|
  And.intro @exS_nil <|
  And.intro @exS_c <|
  And.intro @exS_c_ret <|
  And.intro @exS_c_exit <|
  And.intro @exS_bl <|
  And.intro @exS_bl_ret <|
  And.intro @exS_bl_exit <|
  And.intro @exS_lp_ret <|
  And.intro @exS_lp_exit <|
  And.intro @evalOps_nil <|
  And.intro @evalOps_op <|
  And.intro @opS_false <|
  And.intro @opS_true <|
  And.intro @evalOps_guard <|
  And.intro @contOps_some <|
  And.intro @guardOps_some <|
  And.intro @evalD_nil <|
  And.intro @drawn_and <|
  And.intro @List.reverse_cons.{0} <|
  And.intro @List.reverse_nil.{0} <|
  And.intro @evalD_plain <|
  And.intro @evalD_guard <|
  And.intro @goD_op <|
  And.intro @opD_false <|
  And.intro @opD_true <|
  And.intro @contD_some <|
  And.intro @guardD_some <|
  And.intro @callR_none <|
  And.intro @callR_some <|
  And.intro @callR_ptr <|
  And.intro @callRD_ptr <|
  And.intro @callRD_none <|
  And.intro @callRD_some <|
  And.intro @opS_callv <|
  And.intro @opS_ldg <|
  And.intro @opD_callv <|
  And.intro @opD_ldg <|
  And.intro @callV_some <|
  And.intro @ldgV_some <|
  And.intro @callVD_some <|
  And.intro @ldgVD_some <|
  And.intro @fnIsSelf <|
  @gAtPtr
theorem stB : type_of% (
  And.intro @PO.isCall.eq_1 <|
  And.intro @PO.isCall.eq_2 <|
  And.intro @PO.isCall.eq_3 <|
  And.intro @PO.isCall.eq_4 <|
  And.intro @PO.isCall.eq_5 <|
  And.intro @PO.isCall.eq_6 <|
  And.intro @PO.isCall.eq_7 <|
  And.intro @PO.isCall.eq_8 <|
  And.intro @PO.isCall.eq_9 <|
  And.intro @PO.isCall.eq_10 <|
  And.intro @PO.isCall.eq_11 <|
  And.intro @PO.isCall.eq_12 <|
  And.intro @PO.isCall.eq_13 <|
  And.intro @PO.isCall.eq_14 <|
  And.intro @PO.isCall.eq_15 <|
  And.intro @PO.isCall.eq_16 <|
  And.intro @PO.isCall.eq_17 <|
  And.intro @PO.isCall.eq_18 <|
  And.intro @PO.isCall.eq_19 <|
  And.intro @PO.isCall.eq_20 <|
  And.intro @PO.isCall.eq_21 <|
  And.intro @PO.isCall.eq_22 <|
  And.intro @PO.isCall.eq_23 <|
  And.intro @PO.isCall.eq_24 <|
  And.intro @PO.isCall.eq_25 <|
  And.intro @PO.isCall.eq_26 <|
  And.intro @PO.isCall.eq_27 <|
  And.intro @PO.isCall.eq_28 <|
  And.intro @PO.isCall.eq_29 <|
  And.intro @PO.isCall.eq_30 <|
  And.intro @PO.isCall.eq_31 <|
  And.intro @PO.isCall.eq_32 <|
  And.intro @PO.isCall.eq_33 <|
  And.intro @PO.isCall.eq_34 <|
  And.intro @PO.isCall.eq_35 <|
  And.intro @PO.isCall.eq_36 <|
  And.intro @PO.isCall.eq_37 <|
  And.intro @PO.isCall.eq_38 <|
  And.intro @Option.getD_some.{0} <|
  And.intro @Option.getD_none.{0} <|
  And.intro @ap_sl <|
  And.intro @ap_sl0 <|
  And.intro @ap_gen <|
  And.intro @ap_genw <|
  And.intro @ap_genr <|
  And.intro @ap_genn <|
  And.intro @ap_ob <|
  And.intro @ap_obw <|
  And.intro @ap_obr <|
  And.intro @ap_obn <|
  And.intro @wrF_cells <|
  And.intro @rowF_row <|
  And.intro @init_sl <|
  And.intro @initSl.eq_1 <|
  And.intro @initSl.eq_2 <|
  And.intro @initSl.eq_3 <|
  And.intro @init_gen <|
  And.intro @init_ob <|
  And.intro @ev_t <|
  And.intro @ev_int <|
  And.intro @ev_bool <|
  And.intro @ev_string <|
  And.intro @ev_nil <|
  And.intro @ev_agg <|
  And.intro @ev_ptr <|
  And.intro @args_nil <|
  And.intro @args_cons <|
  And.intro @up_at <|
  And.intro @PO.fn.eq_1 <|
  And.intro @PO.fn.eq_2 <|
  And.intro @PO.fn.eq_3 <|
  And.intro @PO.fn.eq_4 <|
  And.intro @PO.fn.eq_5 <|
  And.intro @PO.fn.eq_6 <|
  And.intro @PO.fn.eq_7 <|
  And.intro @PO.fn.eq_8 <|
  And.intro @PO.fn.eq_9 <|
  And.intro @PO.fn.eq_10 <|
  And.intro @PO.fn.eq_11 <|
  And.intro @PO.fn.eq_12 <|
  And.intro @PO.fn.eq_13 <|
  And.intro @PO.fn.eq_14 <|
  And.intro @PO.fn.eq_15 <|
  And.intro @PO.fn.eq_16 <|
  And.intro @PO.fn.eq_17 <|
  And.intro @PO.fn.eq_18 <|
  And.intro @PO.fn.eq_23 <|
  And.intro @PO.fn.eq_24 <|
  And.intro @PO.fn.eq_25 <|
  And.intro @PO.fn.eq_26 <|
  And.intro @PO.fn.eq_27 <|
  And.intro @PO.fn.eq_28 <|
  And.intro @PO.fn.eq_29 <|
  And.intro @PO.fn.eq_30 <|
  And.intro @PO.fn.eq_31 <|
  And.intro @PO.fn.eq_32 <|
  And.intro @PO.fn.eq_33 <|
  And.intro @PO.fn.eq_34 <|
  And.intro @PO.fn.eq_35 <|
  And.intro @PO.fn.eq_36 <|
  And.intro @PO.fn.eq_37 <|
  And.intro @PO.fn.eq_38 <|
  And.intro @PO.fn.eq_39 <|
  And.intro @PO.fn.eq_40 <|
  And.intro @PO.fn.eq_41 <|
  And.intro @fn_not <|
  And.intro @fn_neg <|
  And.intro @fn_xor <|
  And.intro @unN.eq_1 <|
  And.intro @unG.eq_1 <|
  And.intro @unX.eq_1 <|
  And.intro @PO.rd.eq_1 <|
  And.intro @PO.rd.eq_2 <|
  And.intro @PO.rd.eq_3 <|
  And.intro @PO.rd.eq_4 <|
  And.intro @PO.rd.eq_5 <|
  And.intro @PO.rd.eq_6 <|
  And.intro @PO.rd.eq_7 <|
  And.intro @PO.rd.eq_8 <|
  And.intro @PO.rd.eq_9 <|
  And.intro @PO.rd.eq_10 <|
  And.intro @PO.rd.eq_11 <|
  And.intro @PO.rd.eq_12 <|
  And.intro @PO.rd.eq_13 <|
  And.intro @PO.rd.eq_14 <|
  And.intro @PO.rd.eq_15 <|
  And.intro @PO.rd.eq_16 <|
  And.intro @Cg.wrs.eq_1 <|
  And.intro @Cg.wrs.eq_2 <|
  And.intro @Cg.wrs.eq_3 <|
  And.intro @Cg.wrs.eq_4 <|
  And.intro @Cg.wrs.eq_5 <|
  And.intro @St.cl.eq_1 <|
  And.intro @St.val.eq_1 <|
  And.intro @St.int.eq_1 <|
  And.intro @St.boo.eq_1 <|
  And.intro @St.cs.eq_1 <|
  And.intro @St.parts.eq_1 <|
  And.intro @St.parts.eq_2 <|
  And.intro @scAv.eq_1 <|
  And.intro @Cl.rows.eq_1 <|
  And.intro @Cl.rows.eq_2 <|
  And.intro @Cl.rows.eq_3 <|
  And.intro @Cl.rows.eq_4 <|
  And.intro @Cl.rows.eq_5 <|
  And.intro @Cl.dt.eq_1 <|
  And.intro @Cl.dt.eq_2 <|
  And.intro @Cl.dt.eq_3 <|
  And.intro @Cl.dt.eq_4 <|
  And.intro @Cl.dt.eq_5 <|
  And.intro @Bv.pa.eq_1 <|
  And.intro @Bv.pa.eq_2 <|
  And.intro @Av.pa.eq_1 <|
  And.intro @Av.pa.eq_2 <|
  And.intro @Pa.bv.eq_1 <|
  And.intro @Pa.bv.eq_2 <|
  And.intro @resAv.eq_1 <|
  And.intro @resAv.eq_2 <|
  And.intro @resAv.eq_3 <|
  And.intro @allSome.eq_1 <|
  And.intro @allSome.eq_2 <|
  And.intro @allSome.eq_3 <|
  And.intro @mkAv.eq_1 <|
  And.intro @mkAv.eq_2 <|
  And.intro @wrAt.eq_1 <|
  And.intro @wrAt.eq_2 <|
  And.intro @wrAt.eq_3 <|
  And.intro @wrAt.eq_4 <|
  And.intro @splice.eq_1 <|
  And.intro @fillAll.eq_1 <|
  And.intro @fillAll.eq_2 <|
  And.intro @chunks.eq_1 <|
  And.intro @chunks.eq_2 <|
  And.intro @scBin.eq_1 <|
  And.intro @scBin.eq_2 <|
  And.intro @scBin.eq_3 <|
  And.intro @scBin.eq_4 <|
  And.intro @scBin.eq_5 <|
  And.intro @scBin.eq_6 <|
  And.intro @scBin.eq_7 <|
  And.intro @scBin.eq_8 <|
  And.intro @scBin.eq_9 <|
  And.intro @scBin.eq_10 <|
  And.intro @scBin.eq_11 <|
  And.intro @scBin.eq_12 <|
  And.intro @scBin.eq_13 <|
  And.intro @scBin.eq_14 <|
  And.intro @scBin.eq_15 <|
  And.intro @scBin.eq_16 <|
  And.intro @scBin.eq_17 <|
  And.intro @scBin.eq_18 <|
  And.intro @scBin.eq_19 <|
  And.intro @scBin.eq_20 <|
  And.intro @scBin.eq_21 <|
  And.intro @scBin.eq_22 <|
  And.intro @eqCl.eq_1 <|
  And.intro @eqCl.eq_2 <|
  And.intro @eqCl.eq_3 <|
  And.intro @eqCls.eq_1 <|
  And.intro @eqCls.eq_2 <|
  And.intro @eqCls.eq_3 <|
  And.intro @scMM.eq_1 <|
  And.intro @scMM.eq_2 <|
  And.intro @Option.map_some.{0,0} <|
  And.intro @Option.map_none.{0,0} <|
  And.intro @Option.bind_some.{0,0} <|
  And.intro @List.map_cons.{0,0} <|
  And.intro @List.map_nil.{0,0} <|
  And.intro @List.length_cons.{0} <|
  And.intro @List.length_nil.{0} <|
  And.intro @List.getElem?_cons_succ.{0} <|
  And.intro @List.getElem?_cons_zero.{0} <|
  And.intro @List.take_succ_cons.{0} <|
  And.intro @List.take_zero.{0} <|
  And.intro @List.drop_succ_cons.{0} <|
  And.intro @List.drop_zero.{0} <|
  And.intro @List.cons_append.{0} <|
  And.intro @List.nil_append.{0} <|
  And.intro @List.append_nil.{0} <|
  And.intro @if_true.{1} <|
  And.intro @if_false.{1} <|
  And.intro @ite_true.{1} <|
  And.intro @ite_false.{1} <|
  And.intro @ne_eq.{1} <|
  And.intro @not_true <|
  And.intro @not_false_eq_true <|
  And.intro @Nat.add_zero <|
  And.intro @Nat.zero_add <|
  And.intro @and_true <|
  And.intro @true_and <|
  And.intro @and_self <|
  And.intro @forall_const.{1} <|
  And.intro @forall_const.{0} <|
  And.intro @Bool.not_true <|
  And.intro @Bool.not_false <|
  And.intro @Nat.succ_eq_add_one <|
  And.intro @imp_false <|
  And.intro @false_imp_iff <|
  And.intro @forall_false <|
  And.intro @true_imp_iff <|
  And.intro @Bool.and_true <|
  And.intro @Bool.and_false <|
  And.intro @Bool.true_and <|
  And.intro @Bool.false_and <|
  And.intro @implies_true.{1} <|
  And.intro @implies_true.{0} <|
  And.intro @over_sl <|
  And.intro @over_gen <|
  And.intro @over_ob <|
  And.intro @List.contains_cons.{0} <|
  And.intro @List.contains_nil.{0} <|
  And.intro @Bool.or_false <|
  And.intro @Bool.or_true <|
  And.intro @Bool.false_or <|
  And.intro @Bool.true_or <|
  And.intro @cond_true.{1} <|
  And.intro @cond_false.{1} <|
  And.intro @Bool.cond_true.{0} <|
  And.intro @Bool.cond_false.{0} <|
  And.intro @Int.toNat_natCast <|
  And.intro @Int.natCast_nonneg <|
  And.intro @List.getElem?_map.{0,0} <|
  And.intro @List.length_map.{0,0} <|
  And.intro @List.mem_cons.{0} <|
  And.intro @List.not_mem_nil.{0} <|
  And.intro @forall_eq.{1} <|
  And.intro @forall_eq_or_imp.{1} <|
  And.intro @false_or <|
  And.intro @or_true <|
  And.intro @true_or <|
  And.intro @or_false <|
  And.intro @St.res.eq_1 <|
  And.intro @St.res1.eq_1 <|
  And.intro @St.res1.eq_2 <|
  And.intro @decide_eq_true_eq <|
  And.intro @decide_eq_false_iff_not <|
  And.intro @Cl.abOf.eq_1 <|
  And.intro @Cl.abOf.eq_2 <|
  And.intro @Cl.abOf.eq_3 <|
  And.intro @Cl.abOf.eq_4 <|
  And.intro @Cl.abOf.eq_5 <|
  And.intro @Cl.abOf.eq_6 <|
  And.intro @Cl.abOf.eq_7 <|
  And.intro @Cl.abOf.eq_8 <|
  And.intro @Bv.abOf.eq_1 <|
  And.intro @Bv.abOf.eq_2 <|
  And.intro @Av.abOf.eq_1 <|
  And.intro @Av.abOf.eq_2 <|
  And.intro @Av.abOf.eq_3 <|
  And.intro @recv_nil <|
  And.intro @recv_cons <|
  And.intro @abAt_ob <|
  And.intro @prcv_nil <|
  And.intro @prcv_cons <|
  And.intro @cellsAt_ob <|
  And.intro @Cl.ptrOf.eq_1 <|
  And.intro @Cl.ptrOf.eq_2 <|
  And.intro @Cl.ptrOf.eq_3 <|
  And.intro @Cl.ptrOf.eq_4 <|
  And.intro @Cl.ptrOf.eq_5 <|
  And.intro @Cl.ptrOf.eq_6 <|
  And.intro @Cl.ptrOf.eq_7 <|
  And.intro @Cl.ptrOf.eq_8 <|
  And.intro @Bv.ptrOf.eq_1 <|
  And.intro @Bv.ptrOf.eq_2 <|
  And.intro @Av.ptrOf.eq_1 <|
  And.intro @Av.ptrOf.eq_2 <|
  And.intro @Av.ptrOf.eq_3 <|
  And.intro @initM_sl0 <|
  And.intro @initM_slS <|
  And.intro @initM_gen <|
  And.intro @initM_ob0 <|
  And.intro @initM_obS <|
  And.intro @noSv.eq_1 <|
  And.intro @noSv.eq_2 <|
  And.intro @List.all_cons.{0} <|
  And.intro @List.all_nil.{0} <|
  And.intro @ap_genb <|
  And.intro @ap_obb <|
  And.intro @newAv.eq_1 <|
  And.intro @newAv.eq_2 <|
  And.intro @List.tail_cons.{0} <|
  And.intro @rowBytes.eq_1 <|
  And.intro @rowBytes.eq_2 <|
  @rowBytes.eq_3) :=
  And.intro @PO.isCall.eq_1 <|
  And.intro @PO.isCall.eq_2 <|
  And.intro @PO.isCall.eq_3 <|
  And.intro @PO.isCall.eq_4 <|
  And.intro @PO.isCall.eq_5 <|
  And.intro @PO.isCall.eq_6 <|
  And.intro @PO.isCall.eq_7 <|
  And.intro @PO.isCall.eq_8 <|
  And.intro @PO.isCall.eq_9 <|
  And.intro @PO.isCall.eq_10 <|
  And.intro @PO.isCall.eq_11 <|
  And.intro @PO.isCall.eq_12 <|
  And.intro @PO.isCall.eq_13 <|
  And.intro @PO.isCall.eq_14 <|
  And.intro @PO.isCall.eq_15 <|
  And.intro @PO.isCall.eq_16 <|
  And.intro @PO.isCall.eq_17 <|
  And.intro @PO.isCall.eq_18 <|
  And.intro @PO.isCall.eq_19 <|
  And.intro @PO.isCall.eq_20 <|
  And.intro @PO.isCall.eq_21 <|
  And.intro @PO.isCall.eq_22 <|
  And.intro @PO.isCall.eq_23 <|
  And.intro @PO.isCall.eq_24 <|
  And.intro @PO.isCall.eq_25 <|
  And.intro @PO.isCall.eq_26 <|
  And.intro @PO.isCall.eq_27 <|
  And.intro @PO.isCall.eq_28 <|
  And.intro @PO.isCall.eq_29 <|
  And.intro @PO.isCall.eq_30 <|
  And.intro @PO.isCall.eq_31 <|
  And.intro @PO.isCall.eq_32 <|
  And.intro @PO.isCall.eq_33 <|
  And.intro @PO.isCall.eq_34 <|
  And.intro @PO.isCall.eq_35 <|
  And.intro @PO.isCall.eq_36 <|
  And.intro @PO.isCall.eq_37 <|
  And.intro @PO.isCall.eq_38 <|
  And.intro @Option.getD_some.{0} <|
  And.intro @Option.getD_none.{0} <|
  And.intro @ap_sl <|
  And.intro @ap_sl0 <|
  And.intro @ap_gen <|
  And.intro @ap_genw <|
  And.intro @ap_genr <|
  And.intro @ap_genn <|
  And.intro @ap_ob <|
  And.intro @ap_obw <|
  And.intro @ap_obr <|
  And.intro @ap_obn <|
  And.intro @wrF_cells <|
  And.intro @rowF_row <|
  And.intro @init_sl <|
  And.intro @initSl.eq_1 <|
  And.intro @initSl.eq_2 <|
  And.intro @initSl.eq_3 <|
  And.intro @init_gen <|
  And.intro @init_ob <|
  And.intro @ev_t <|
  And.intro @ev_int <|
  And.intro @ev_bool <|
  And.intro @ev_string <|
  And.intro @ev_nil <|
  And.intro @ev_agg <|
  And.intro @ev_ptr <|
  And.intro @args_nil <|
  And.intro @args_cons <|
  And.intro @up_at <|
  And.intro @PO.fn.eq_1 <|
  And.intro @PO.fn.eq_2 <|
  And.intro @PO.fn.eq_3 <|
  And.intro @PO.fn.eq_4 <|
  And.intro @PO.fn.eq_5 <|
  And.intro @PO.fn.eq_6 <|
  And.intro @PO.fn.eq_7 <|
  And.intro @PO.fn.eq_8 <|
  And.intro @PO.fn.eq_9 <|
  And.intro @PO.fn.eq_10 <|
  And.intro @PO.fn.eq_11 <|
  And.intro @PO.fn.eq_12 <|
  And.intro @PO.fn.eq_13 <|
  And.intro @PO.fn.eq_14 <|
  And.intro @PO.fn.eq_15 <|
  And.intro @PO.fn.eq_16 <|
  And.intro @PO.fn.eq_17 <|
  And.intro @PO.fn.eq_18 <|
  And.intro @PO.fn.eq_23 <|
  And.intro @PO.fn.eq_24 <|
  And.intro @PO.fn.eq_25 <|
  And.intro @PO.fn.eq_26 <|
  And.intro @PO.fn.eq_27 <|
  And.intro @PO.fn.eq_28 <|
  And.intro @PO.fn.eq_29 <|
  And.intro @PO.fn.eq_30 <|
  And.intro @PO.fn.eq_31 <|
  And.intro @PO.fn.eq_32 <|
  And.intro @PO.fn.eq_33 <|
  And.intro @PO.fn.eq_34 <|
  And.intro @PO.fn.eq_35 <|
  And.intro @PO.fn.eq_36 <|
  And.intro @PO.fn.eq_37 <|
  And.intro @PO.fn.eq_38 <|
  And.intro @PO.fn.eq_39 <|
  And.intro @PO.fn.eq_40 <|
  And.intro @PO.fn.eq_41 <|
  And.intro @fn_not <|
  And.intro @fn_neg <|
  And.intro @fn_xor <|
  And.intro @unN.eq_1 <|
  And.intro @unG.eq_1 <|
  And.intro @unX.eq_1 <|
  And.intro @PO.rd.eq_1 <|
  And.intro @PO.rd.eq_2 <|
  And.intro @PO.rd.eq_3 <|
  And.intro @PO.rd.eq_4 <|
  And.intro @PO.rd.eq_5 <|
  And.intro @PO.rd.eq_6 <|
  And.intro @PO.rd.eq_7 <|
  And.intro @PO.rd.eq_8 <|
  And.intro @PO.rd.eq_9 <|
  And.intro @PO.rd.eq_10 <|
  And.intro @PO.rd.eq_11 <|
  And.intro @PO.rd.eq_12 <|
  And.intro @PO.rd.eq_13 <|
  And.intro @PO.rd.eq_14 <|
  And.intro @PO.rd.eq_15 <|
  And.intro @PO.rd.eq_16 <|
  And.intro @Cg.wrs.eq_1 <|
  And.intro @Cg.wrs.eq_2 <|
  And.intro @Cg.wrs.eq_3 <|
  And.intro @Cg.wrs.eq_4 <|
  And.intro @Cg.wrs.eq_5 <|
  And.intro @St.cl.eq_1 <|
  And.intro @St.val.eq_1 <|
  And.intro @St.int.eq_1 <|
  And.intro @St.boo.eq_1 <|
  And.intro @St.cs.eq_1 <|
  And.intro @St.parts.eq_1 <|
  And.intro @St.parts.eq_2 <|
  And.intro @scAv.eq_1 <|
  And.intro @Cl.rows.eq_1 <|
  And.intro @Cl.rows.eq_2 <|
  And.intro @Cl.rows.eq_3 <|
  And.intro @Cl.rows.eq_4 <|
  And.intro @Cl.rows.eq_5 <|
  And.intro @Cl.dt.eq_1 <|
  And.intro @Cl.dt.eq_2 <|
  And.intro @Cl.dt.eq_3 <|
  And.intro @Cl.dt.eq_4 <|
  And.intro @Cl.dt.eq_5 <|
  And.intro @Bv.pa.eq_1 <|
  And.intro @Bv.pa.eq_2 <|
  And.intro @Av.pa.eq_1 <|
  And.intro @Av.pa.eq_2 <|
  And.intro @Pa.bv.eq_1 <|
  And.intro @Pa.bv.eq_2 <|
  And.intro @resAv.eq_1 <|
  And.intro @resAv.eq_2 <|
  And.intro @resAv.eq_3 <|
  And.intro @allSome.eq_1 <|
  And.intro @allSome.eq_2 <|
  And.intro @allSome.eq_3 <|
  And.intro @mkAv.eq_1 <|
  And.intro @mkAv.eq_2 <|
  And.intro @wrAt.eq_1 <|
  And.intro @wrAt.eq_2 <|
  And.intro @wrAt.eq_3 <|
  And.intro @wrAt.eq_4 <|
  And.intro @splice.eq_1 <|
  And.intro @fillAll.eq_1 <|
  And.intro @fillAll.eq_2 <|
  And.intro @chunks.eq_1 <|
  And.intro @chunks.eq_2 <|
  And.intro @scBin.eq_1 <|
  And.intro @scBin.eq_2 <|
  And.intro @scBin.eq_3 <|
  And.intro @scBin.eq_4 <|
  And.intro @scBin.eq_5 <|
  And.intro @scBin.eq_6 <|
  And.intro @scBin.eq_7 <|
  And.intro @scBin.eq_8 <|
  And.intro @scBin.eq_9 <|
  And.intro @scBin.eq_10 <|
  And.intro @scBin.eq_11 <|
  And.intro @scBin.eq_12 <|
  And.intro @scBin.eq_13 <|
  And.intro @scBin.eq_14 <|
  And.intro @scBin.eq_15 <|
  And.intro @scBin.eq_16 <|
  And.intro @scBin.eq_17 <|
  And.intro @scBin.eq_18 <|
  And.intro @scBin.eq_19 <|
  And.intro @scBin.eq_20 <|
  And.intro @scBin.eq_21 <|
  And.intro @scBin.eq_22 <|
  And.intro @eqCl.eq_1 <|
  And.intro @eqCl.eq_2 <|
  And.intro @eqCl.eq_3 <|
  And.intro @eqCls.eq_1 <|
  And.intro @eqCls.eq_2 <|
  And.intro @eqCls.eq_3 <|
  And.intro @scMM.eq_1 <|
  And.intro @scMM.eq_2 <|
  And.intro @Option.map_some.{0,0} <|
  And.intro @Option.map_none.{0,0} <|
  And.intro @Option.bind_some.{0,0} <|
  And.intro @List.map_cons.{0,0} <|
  And.intro @List.map_nil.{0,0} <|
  And.intro @List.length_cons.{0} <|
  And.intro @List.length_nil.{0} <|
  And.intro @List.getElem?_cons_succ.{0} <|
  And.intro @List.getElem?_cons_zero.{0} <|
  And.intro @List.take_succ_cons.{0} <|
  And.intro @List.take_zero.{0} <|
  And.intro @List.drop_succ_cons.{0} <|
  And.intro @List.drop_zero.{0} <|
  And.intro @List.cons_append.{0} <|
  And.intro @List.nil_append.{0} <|
  And.intro @List.append_nil.{0} <|
  And.intro @if_true.{1} <|
  And.intro @if_false.{1} <|
  And.intro @ite_true.{1} <|
  And.intro @ite_false.{1} <|
  And.intro @ne_eq.{1} <|
  And.intro @not_true <|
  And.intro @not_false_eq_true <|
  And.intro @Nat.add_zero <|
  And.intro @Nat.zero_add <|
  And.intro @and_true <|
  And.intro @true_and <|
  And.intro @and_self <|
  And.intro @forall_const.{1} <|
  And.intro @forall_const.{0} <|
  And.intro @Bool.not_true <|
  And.intro @Bool.not_false <|
  And.intro @Nat.succ_eq_add_one <|
  And.intro @imp_false <|
  And.intro @false_imp_iff <|
  And.intro @forall_false <|
  And.intro @true_imp_iff <|
  And.intro @Bool.and_true <|
  And.intro @Bool.and_false <|
  And.intro @Bool.true_and <|
  And.intro @Bool.false_and <|
  And.intro @implies_true.{1} <|
  And.intro @implies_true.{0} <|
  And.intro @over_sl <|
  And.intro @over_gen <|
  And.intro @over_ob <|
  And.intro @List.contains_cons.{0} <|
  And.intro @List.contains_nil.{0} <|
  And.intro @Bool.or_false <|
  And.intro @Bool.or_true <|
  And.intro @Bool.false_or <|
  And.intro @Bool.true_or <|
  And.intro @cond_true.{1} <|
  And.intro @cond_false.{1} <|
  And.intro @Bool.cond_true.{0} <|
  And.intro @Bool.cond_false.{0} <|
  And.intro @Int.toNat_natCast <|
  And.intro @Int.natCast_nonneg <|
  And.intro @List.getElem?_map.{0,0} <|
  And.intro @List.length_map.{0,0} <|
  And.intro @List.mem_cons.{0} <|
  And.intro @List.not_mem_nil.{0} <|
  And.intro @forall_eq.{1} <|
  And.intro @forall_eq_or_imp.{1} <|
  And.intro @false_or <|
  And.intro @or_true <|
  And.intro @true_or <|
  And.intro @or_false <|
  And.intro @St.res.eq_1 <|
  And.intro @St.res1.eq_1 <|
  And.intro @St.res1.eq_2 <|
  And.intro @decide_eq_true_eq <|
  And.intro @decide_eq_false_iff_not <|
  And.intro @Cl.abOf.eq_1 <|
  And.intro @Cl.abOf.eq_2 <|
  And.intro @Cl.abOf.eq_3 <|
  And.intro @Cl.abOf.eq_4 <|
  And.intro @Cl.abOf.eq_5 <|
  And.intro @Cl.abOf.eq_6 <|
  And.intro @Cl.abOf.eq_7 <|
  And.intro @Cl.abOf.eq_8 <|
  And.intro @Bv.abOf.eq_1 <|
  And.intro @Bv.abOf.eq_2 <|
  And.intro @Av.abOf.eq_1 <|
  And.intro @Av.abOf.eq_2 <|
  And.intro @Av.abOf.eq_3 <|
  And.intro @recv_nil <|
  And.intro @recv_cons <|
  And.intro @abAt_ob <|
  And.intro @prcv_nil <|
  And.intro @prcv_cons <|
  And.intro @cellsAt_ob <|
  And.intro @Cl.ptrOf.eq_1 <|
  And.intro @Cl.ptrOf.eq_2 <|
  And.intro @Cl.ptrOf.eq_3 <|
  And.intro @Cl.ptrOf.eq_4 <|
  And.intro @Cl.ptrOf.eq_5 <|
  And.intro @Cl.ptrOf.eq_6 <|
  And.intro @Cl.ptrOf.eq_7 <|
  And.intro @Cl.ptrOf.eq_8 <|
  And.intro @Bv.ptrOf.eq_1 <|
  And.intro @Bv.ptrOf.eq_2 <|
  And.intro @Av.ptrOf.eq_1 <|
  And.intro @Av.ptrOf.eq_2 <|
  And.intro @Av.ptrOf.eq_3 <|
  And.intro @initM_sl0 <|
  And.intro @initM_slS <|
  And.intro @initM_gen <|
  And.intro @initM_ob0 <|
  And.intro @initM_obS <|
  And.intro @noSv.eq_1 <|
  And.intro @noSv.eq_2 <|
  And.intro @List.all_cons.{0} <|
  And.intro @List.all_nil.{0} <|
  And.intro @ap_genb <|
  And.intro @ap_obb <|
  And.intro @newAv.eq_1 <|
  And.intro @newAv.eq_2 <|
  And.intro @List.tail_cons.{0} <|
  And.intro @rowBytes.eq_1 <|
  And.intro @rowBytes.eq_2 <|
  @rowBytes.eq_3
end Go.Proofs.YthnjbnfnljjepabDoor
end
section
namespace Go.Proofs
open Go.Shelf
def Tryd.lays156_ren : Go.Shelf.Ren := ⟨fun | 156 => 31 | 165 => 42 | 166 => 43 | 169 => 44 | 240 => 50 | 241 => 51 | 276 => 63 | 277 => 64 | n => n, fun | 31 => 38 | 9 => 9 | 3 => 3 | 4 => 4 | 0 => 0 | 20 => 20 | 72 => 54 | 76 => 58 | 70 => 51 | 37 => 52 | 75 => 57 | 127 => 65 | 164 => 75 | 5 => 5 | 80 => 60 | n => n, fun | n => n⟩
theorem Tryd.lays156 : Go.Proofs.Lays.n156 Tryd.prog Tryd.lays156_ren := {
  mixed := by kernel_rfl
  f156 := Tryd.func31.trans (congrArg some (by kernel_rfl))
  f165 := Tryd.func42.trans (congrArg some (by kernel_rfl))
  f166 := Tryd.func43.trans (congrArg some (by kernel_rfl))
  f169 := Tryd.func44.trans (congrArg some (by kernel_rfl))
  f240 := Tryd.func50.trans (congrArg some (by kernel_rfl))
  f241 := Tryd.func51.trans (congrArg some (by kernel_rfl))
  f276 := Tryd.func63.trans (congrArg some (by kernel_rfl))
  f277 := Tryd.func64.trans (congrArg some (by kernel_rfl))
  t0 := Tryd.underlying0
  a0 := Tryd.isAgg0
  z0 := Tryd.sizeOf0
  v0 := Tryd.zeroValue0
  t3 := Tryd.underlying3
  a3 := Tryd.isAgg3
  z3 := Tryd.sizeOf3
  v3 := Tryd.zeroValue3
  t4 := Tryd.underlying4
  a4 := Tryd.isAgg4
  z4 := Tryd.sizeOf4
  v4 := Tryd.zeroValue4
  t9 := Tryd.underlying9
  a9 := Tryd.isAgg9
  z9 := Tryd.sizeOf9
  v9 := Tryd.zeroValue9
  t20 := Tryd.underlying20
  a20 := Tryd.isAgg20
  z20 := Tryd.sizeOf20
  v20 := Tryd.zeroValue20
  t31 := Tryd.underlying38
  a31 := Tryd.isAgg38
  z31 := Tryd.sizeOf38
  v31 := Tryd.zeroValue38
  t37 := Tryd.underlying52
  a37 := Tryd.isAgg52
  z37 := Tryd.sizeOf52
  v37 := Tryd.zeroValue52
  t70 := Tryd.underlying51
  a70 := Tryd.isAgg51
  z70 := Tryd.sizeOf51
  v70 := Tryd.zeroValue51
  t72 := Tryd.underlying54
  a72 := Tryd.isAgg54
  z72 := Tryd.sizeOf54
  v72 := Tryd.zeroValue54
  t75 := Tryd.underlying57
  a75 := Tryd.isAgg57
  z75 := Tryd.sizeOf57
  v75 := Tryd.zeroValue57
  t76 := Tryd.underlying58
  a76 := Tryd.isAgg58
  z76 := Tryd.sizeOf58
  v76 := Tryd.zeroValue58
  t127 := Tryd.underlying65
  a127 := Tryd.isAgg65
  z127 := Tryd.sizeOf65
  v127 := Tryd.zeroValue65
  t164 := Tryd.underlying75
  a164 := Tryd.isAgg75
  z164 := Tryd.sizeOf75
  v164 := Tryd.zeroValue75 }
theorem Tryd.Builder_Extra_156 : Builder.Extra Tryd.prog Tryd.lays156_ren := {
  sizeBuilder := by kernel_rfl
  liesBuilder := by kernel_rfl
  t5 := Tryd.underlying5
  a5 := Tryd.isAgg5
  z5 := Tryd.sizeOf5
  v5 := Tryd.zeroValue5
  infoByte := by kernel_rfl
  cellsByte := by kernel_rfl
  sizeByte := by kernel_rfl
  neB5 := by decide }
open Go.RowKit in
/-- No element: the empty string; the world is as it was. (Whatever the slice's address and capacity: a nil slice too.) (LAID: no walk: one application.) -/
theorem Tryd.strings_Join_none (a : Option Addr) (c : Nat) (sep : ByteArray) (w : World) :
    Calls Tryd.prog 31 #[.slice a 0 c, .string sep] w fun e w' => e = .returned (.string ⟨#[]⟩) ∧ w' = w := Any.strings_Join_none Tryd.lays156 Tryd.Builder_Extra_156 a c sep w
open Go.RowKit in
/-- strings.Join: "Join concatenates the elements of its first argument to create a single string. The separator string sep is placed between elements in the resulting string.": HOWEVER MANY ELEMENTS. Below the heap's end the world is as it was. (LAID: no walk: one application.) -/
theorem Tryd.strings_Join (bk o c : Nat) (xs : List ByteArray) (sep : ByteArray) (w : World) (hcells : ∀ (j : Nat) x, xs[j]? = some x → w.cell? ⟨bk, o + j, none⟩ = some (.string x)) (hbk : bk < w.heap.size) (hN : xs.length ≤ 140737488355328) (hcap : xs.length ≤ c) (hlen : (Lib.join (xs.map (·.data.toList)) sep.data.toList).length ≤ 140737488355328) :
    Calls Tryd.prog 31 #[.slice (some ⟨bk, o, none⟩) xs.length c, .string sep] w fun e w' => e = .returned (.string ⟨(Lib.join (xs.map (·.data.toList)) sep.data.toList).toArray⟩) ∧ Below w.heap.size w w' := Any.strings_Join Tryd.lays156 Tryd.Builder_Extra_156 bk o c xs sep w hcells hbk hN hcap hlen
def Tryd.lays103_ren : Go.Shelf.Ren := ⟨fun | 103 => 37 | 210 => 48 | 206 => 58 | n => n, fun | 9 => 9 | 4 => 4 | 24 => 44 | 3 => 3 | n => n, fun | n => n⟩
theorem Tryd.lays103 : Go.Proofs.Lays.n103 Tryd.prog Tryd.lays103_ren := {
  mixed := by kernel_rfl
  f103 := Tryd.func37.trans (congrArg some (by kernel_rfl))
  f206 := Tryd.func58.trans (congrArg some (by kernel_rfl))
  f210 := Tryd.func48.trans (congrArg some (by kernel_rfl))
  t3 := Tryd.underlying3
  a3 := Tryd.isAgg3
  z3 := Tryd.sizeOf3
  v3 := Tryd.zeroValue3
  t4 := Tryd.underlying4
  a4 := Tryd.isAgg4
  z4 := Tryd.sizeOf4
  v4 := Tryd.zeroValue4
  t9 := Tryd.underlying9
  a9 := Tryd.isAgg9
  z9 := Tryd.sizeOf9
  v9 := Tryd.zeroValue9
  t24 := Tryd.underlying44
  a24 := Tryd.isAgg44
  z24 := Tryd.sizeOf44
  v24 := Tryd.zeroValue44 }
open Go.RowKit in
/-- strings.CutPrefix: "CutPrefix returns s without the provided leading prefix string and reports whether it found the prefix. If s doesn't start with prefix, CutPrefix returns s, false. If prefix is the empty string, CutPrefix returns s, true.": IT RETURNS '(Lib.trimPrefix s p, Lib.hasPrefix s p)'; the world is as it was. (LAID: no walk: one application.) -/
theorem Tryd.strings_CutPrefix (s p : ByteArray) (w : World) :
    Calls Tryd.prog 37 #[.string s, .string p] w fun e w' => e = .returned (.tuple #[.string ⟨(Lib.trimPrefix s.data.toList p.data.toList).toArray⟩, .bool (Lib.hasPrefix s.data.toList p.data.toList)]) ∧ w' = w := Any.strings_CutPrefix Tryd.lays103 s p w
def Tryd.laysM171_ren : Go.Shelf.Ren := ⟨fun | 171 => 30 | 243 => 41 | 246 => 49 | 283 => 59 | 284 => 60 | 285 => 61 | 286 => 62 | 129 => 75 | 317 => 74 | 318 => 76 | 319 => 77 | 320 => 78 | 337 => 87 | 338 => 88 | n => n, fun | 3 => 3 | 9 => 9 | 2 => 2 | 4 => 4 | 171 => 69 | 0 => 0 | 53 => 70 | 37 => 52 | 5 => 5 | 173 => 73 | 212 => 89 | 51 => 90 | 20 => 20 | 213 => 91 | 46 => 92 | 232 => 111 | 233 => 112 | n => n, fun | 17 => 1 | 18 => 7 | 19 => 8 | n => n⟩
theorem Tryd.laysM171 : Go.Proofs.LaysM.n171 Tryd.prog Tryd.laysM171_ren := {
  mixed := by kernel_rfl
  f129 := Tryd.func75.trans (congrArg some (by kernel_rfl))
  f171 := Tryd.func30.trans (congrArg some (by kernel_rfl))
  f243 := Tryd.func41.trans (congrArg some (by kernel_rfl))
  f246 := Tryd.func49.trans (congrArg some (by kernel_rfl))
  f283 := Tryd.func59.trans (congrArg some (by kernel_rfl))
  f284 := Tryd.func60.trans (congrArg some (by kernel_rfl))
  f285 := Tryd.func61.trans (congrArg some (by kernel_rfl))
  f286 := Tryd.func62.trans (congrArg some (by kernel_rfl))
  f317 := Tryd.func74.trans (congrArg some (by kernel_rfl))
  f318 := Tryd.func76.trans (congrArg some (by kernel_rfl))
  f319 := Tryd.func77.trans (congrArg some (by kernel_rfl))
  f320 := Tryd.func78.trans (congrArg some (by kernel_rfl))
  f337 := Tryd.func87.trans (congrArg some (by kernel_rfl))
  f338 := Tryd.func88.trans (congrArg some (by kernel_rfl))
  t0 := Tryd.underlying0
  a0 := Tryd.isAgg0
  z0 := Tryd.sizeOf0
  v0 := Tryd.zeroValue0
  t2 := Tryd.underlying2
  a2 := Tryd.isAgg2
  z2 := Tryd.sizeOf2
  v2 := Tryd.zeroValue2
  t3 := Tryd.underlying3
  a3 := Tryd.isAgg3
  z3 := Tryd.sizeOf3
  v3 := Tryd.zeroValue3
  t4 := Tryd.underlying4
  a4 := Tryd.isAgg4
  z4 := Tryd.sizeOf4
  v4 := Tryd.zeroValue4
  t5 := Tryd.underlying5
  a5 := Tryd.isAgg5
  z5 := Tryd.sizeOf5
  v5 := Tryd.zeroValue5
  t9 := Tryd.underlying9
  a9 := Tryd.isAgg9
  z9 := Tryd.sizeOf9
  v9 := Tryd.zeroValue9
  t20 := Tryd.underlying20
  a20 := Tryd.isAgg20
  z20 := Tryd.sizeOf20
  v20 := Tryd.zeroValue20
  t37 := Tryd.underlying52
  a37 := Tryd.isAgg52
  z37 := Tryd.sizeOf52
  v37 := Tryd.zeroValue52
  t46 := Tryd.underlying92
  a46 := Tryd.isAgg92
  z46 := Tryd.sizeOf92
  v46 := Tryd.zeroValue92
  t51 := Tryd.underlying90
  a51 := Tryd.isAgg90
  z51 := Tryd.sizeOf90
  v51 := Tryd.zeroValue90
  t53 := Tryd.underlying70
  a53 := Tryd.isAgg70
  z53 := Tryd.sizeOf70
  v53 := Tryd.zeroValue70
  t171 := Tryd.underlying69
  a171 := Tryd.isAgg69
  z171 := Tryd.sizeOf69
  v171 := Tryd.zeroValue69
  t173 := Tryd.underlying73
  a173 := Tryd.isAgg73
  z173 := Tryd.sizeOf73
  v173 := Tryd.zeroValue73
  t212 := Tryd.underlying89
  a212 := Tryd.isAgg89
  z212 := Tryd.sizeOf89
  v212 := Tryd.zeroValue89
  t213 := Tryd.underlying91
  a213 := Tryd.isAgg91
  z213 := Tryd.sizeOf91
  t232 := Tryd.underlying111
  a232 := Tryd.isAgg111
  z232 := Tryd.sizeOf111
  v232 := Tryd.zeroValue111
  t233 := Tryd.underlying112
  a233 := Tryd.isAgg112
  z233 := Tryd.sizeOf112
  v233 := Tryd.zeroValue112
  g17 := by kernel_rfl
  g18 := by kernel_rfl
  g19 := by kernel_rfl
  i0 := by kernel_rfl
  i2 := by kernel_rfl
  i3 := by kernel_rfl
  i4 := by kernel_rfl
  i5 := by kernel_rfl
  i9 := by kernel_rfl
  i20 := by kernel_rfl
  i37 := by kernel_rfl
  i46 := by kernel_rfl
  i51 := by kernel_rfl
  i53 := by kernel_rfl
  i171 := by kernel_rfl
  i173 := by kernel_rfl
  i212 := by kernel_rfl
  i232 := by kernel_rfl
  i233 := by kernel_rfl
  m17 := by kernel_rfl
  m18 := by kernel_rfl
  m19 := by kernel_rfl }
open Go.RowKit Go.Sort Go.Lib in
/-- strconv.Itoa: "Itoa is equivalent to FormatInt(int64(i), 10).": i's DECIMAL NUMERAL ('Lib.itoa': a '-' where i is negative, then the digits), FOR EVERY int. The world behind the call: the world before it, new blocks behind the heap (the library's 'var a [24]byte'), draws. (LAID: no walk: one application.) -/
theorem Tryd.strconv_Itoa (n : Int) (h0 : -9223372036854775808 ≤ n) (h1 : n ≤ 9223372036854775807) (w : World) (htab : Lib.TabIs Tryd.prog w "internal/strconv.uint64pow10" .u64 Lib.pow10Tab) :
    Calls Tryd.prog 30 #[.int .i64 n] w fun e w' => e = .returned (.string ⟨(Lib.itoa n).toArray⟩) ∧ ∃ k os, w' = grow (w.drewN k) os := Any.strconv_Itoa Tryd.laysM171 n h0 h1 w htab
def Tryd.laysC172_ren : Go.Shelf.Ren := ⟨fun | 172 => 46 | 244 => 55 | 245 => 56 | 247 => 69 | 279 => 70 | 280 => 71 | 281 => 72 | 282 => 73 | 287 => 84 | 316 => 85 | 171 => 30 | 205 => 86 | 321 => 91 | 322 => 92 | 243 => 41 | 246 => 49 | 283 => 59 | 284 => 60 | 285 => 61 | 286 => 62 | 129 => 75 | 317 => 74 | 318 => 76 | 319 => 77 | 320 => 78 | 337 => 87 | 338 => 88 | n => n, fun | 9 => 9 | 3 => 3 | 75 => 57 | 76 => 58 | 4 => 4 | 5 => 5 | 167 => 81 | 37 => 52 | 0 => 0 | 85 => 82 | 2 => 2 | 168 => 84 | 53 => 70 | 175 => 94 | 46 => 92 | 210 => 98 | 127 => 65 | 145 => 110 | 143 => 108 | 21 => 21 | 171 => 69 | 173 => 73 | 212 => 89 | 51 => 90 | 20 => 20 | 213 => 91 | 232 => 111 | 233 => 112 | 80 => 60 | n => n, fun | 15 => 3 | 16 => 4 | 17 => 1 | 18 => 7 | 19 => 8 | n => n⟩
theorem Tryd.laysC172 : Go.Proofs.LaysC.n172 Tryd.prog Tryd.laysC172_ren := {
  mixed := by kernel_rfl
  f129 := Tryd.func75.trans (congrArg some (by kernel_rfl))
  f171 := Tryd.func30.trans (congrArg some (by kernel_rfl))
  f172 := Tryd.func46.trans (congrArg some (by kernel_rfl))
  f205 := Tryd.func86.trans (congrArg some (by kernel_rfl))
  f243 := Tryd.func41.trans (congrArg some (by kernel_rfl))
  f244 := Tryd.func55.trans (congrArg some (by kernel_rfl))
  f245 := Tryd.func56.trans (congrArg some (by kernel_rfl))
  f246 := Tryd.func49.trans (congrArg some (by kernel_rfl))
  f247 := Tryd.func69.trans (congrArg some (by kernel_rfl))
  f279 := Tryd.func70.trans (congrArg some (by kernel_rfl))
  f280 := Tryd.func71.trans (congrArg some (by kernel_rfl))
  f281 := Tryd.func72.trans (congrArg some (by kernel_rfl))
  f282 := Tryd.func73.trans (congrArg some (by kernel_rfl))
  f283 := Tryd.func59.trans (congrArg some (by kernel_rfl))
  f284 := Tryd.func60.trans (congrArg some (by kernel_rfl))
  f285 := Tryd.func61.trans (congrArg some (by kernel_rfl))
  f286 := Tryd.func62.trans (congrArg some (by kernel_rfl))
  f287 := Tryd.func84.trans (congrArg some (by kernel_rfl))
  f316 := Tryd.func85.trans (congrArg some (by kernel_rfl))
  f317 := Tryd.func74.trans (congrArg some (by kernel_rfl))
  f318 := Tryd.func76.trans (congrArg some (by kernel_rfl))
  f319 := Tryd.func77.trans (congrArg some (by kernel_rfl))
  f320 := Tryd.func78.trans (congrArg some (by kernel_rfl))
  f321 := Tryd.func91.trans (congrArg some (by kernel_rfl))
  f322 := Tryd.func92.trans (congrArg some (by kernel_rfl))
  f337 := Tryd.func87.trans (congrArg some (by kernel_rfl))
  f338 := Tryd.func88.trans (congrArg some (by kernel_rfl))
  t0 := Tryd.underlying0
  a0 := Tryd.isAgg0
  z0 := Tryd.sizeOf0
  v0 := Tryd.zeroValue0
  t2 := Tryd.underlying2
  a2 := Tryd.isAgg2
  z2 := Tryd.sizeOf2
  v2 := Tryd.zeroValue2
  t3 := Tryd.underlying3
  a3 := Tryd.isAgg3
  z3 := Tryd.sizeOf3
  v3 := Tryd.zeroValue3
  t4 := Tryd.underlying4
  a4 := Tryd.isAgg4
  z4 := Tryd.sizeOf4
  v4 := Tryd.zeroValue4
  t5 := Tryd.underlying5
  a5 := Tryd.isAgg5
  z5 := Tryd.sizeOf5
  v5 := Tryd.zeroValue5
  t9 := Tryd.underlying9
  a9 := Tryd.isAgg9
  z9 := Tryd.sizeOf9
  v9 := Tryd.zeroValue9
  t20 := Tryd.underlying20
  a20 := Tryd.isAgg20
  z20 := Tryd.sizeOf20
  v20 := Tryd.zeroValue20
  t21 := Tryd.underlying21
  a21 := Tryd.isAgg21
  z21 := Tryd.sizeOf21
  v21 := Tryd.zeroValue21
  t37 := Tryd.underlying52
  a37 := Tryd.isAgg52
  z37 := Tryd.sizeOf52
  v37 := Tryd.zeroValue52
  t46 := Tryd.underlying92
  a46 := Tryd.isAgg92
  z46 := Tryd.sizeOf92
  v46 := Tryd.zeroValue92
  t51 := Tryd.underlying90
  a51 := Tryd.isAgg90
  z51 := Tryd.sizeOf90
  v51 := Tryd.zeroValue90
  t53 := Tryd.underlying70
  a53 := Tryd.isAgg70
  z53 := Tryd.sizeOf70
  v53 := Tryd.zeroValue70
  t75 := Tryd.underlying57
  a75 := Tryd.isAgg57
  z75 := Tryd.sizeOf57
  v75 := Tryd.zeroValue57
  t76 := Tryd.underlying58
  a76 := Tryd.isAgg58
  z76 := Tryd.sizeOf58
  v76 := Tryd.zeroValue58
  t85 := Tryd.underlying82
  a85 := Tryd.isAgg82
  z85 := Tryd.sizeOf82
  v85 := Tryd.zeroValue82
  t127 := Tryd.underlying65
  a127 := Tryd.isAgg65
  z127 := Tryd.sizeOf65
  v127 := Tryd.zeroValue65
  t143 := Tryd.underlying108
  a143 := Tryd.isAgg108
  z143 := Tryd.sizeOf108
  v143 := Tryd.zeroValue108
  t145 := Tryd.underlying110
  a145 := Tryd.isAgg110
  z145 := Tryd.sizeOf110
  v145 := Tryd.zeroValue110
  t167 := Tryd.underlying81
  a167 := Tryd.isAgg81
  z167 := Tryd.sizeOf81
  v167 := Tryd.zeroValue81
  t168 := Tryd.underlying84
  a168 := Tryd.isAgg84
  z168 := Tryd.sizeOf84
  v168 := Tryd.zeroValue84
  t171 := Tryd.underlying69
  a171 := Tryd.isAgg69
  z171 := Tryd.sizeOf69
  v171 := Tryd.zeroValue69
  t173 := Tryd.underlying73
  a173 := Tryd.isAgg73
  z173 := Tryd.sizeOf73
  v173 := Tryd.zeroValue73
  t175 := Tryd.underlying94
  a175 := Tryd.isAgg94
  z175 := Tryd.sizeOf94
  v175 := Tryd.zeroValue94
  t210 := Tryd.underlying98
  a210 := Tryd.isAgg98
  z210 := Tryd.sizeOf98
  v210 := Tryd.zeroValue98
  t212 := Tryd.underlying89
  a212 := Tryd.isAgg89
  z212 := Tryd.sizeOf89
  v212 := Tryd.zeroValue89
  t213 := Tryd.underlying91
  a213 := Tryd.isAgg91
  z213 := Tryd.sizeOf91
  t232 := Tryd.underlying111
  a232 := Tryd.isAgg111
  z232 := Tryd.sizeOf111
  v232 := Tryd.zeroValue111
  t233 := Tryd.underlying112
  a233 := Tryd.isAgg112
  z233 := Tryd.sizeOf112
  v233 := Tryd.zeroValue112
  g15 := by kernel_rfl
  g16 := by kernel_rfl
  g17 := by kernel_rfl
  g18 := by kernel_rfl
  g19 := by kernel_rfl
  t80 := Tryd.underlying60
  a80 := Tryd.isAgg60
  z80 := Tryd.sizeOf60
  v80 := Tryd.zeroValue60
  i0 := by kernel_rfl
  i2 := by kernel_rfl
  i3 := by kernel_rfl
  i4 := by kernel_rfl
  i5 := by kernel_rfl
  i9 := by kernel_rfl
  i20 := by kernel_rfl
  i21 := by kernel_rfl
  i37 := by kernel_rfl
  i46 := by kernel_rfl
  i51 := by kernel_rfl
  i53 := by kernel_rfl
  i75 := by kernel_rfl
  i76 := by kernel_rfl
  i80 := by kernel_rfl
  i85 := by kernel_rfl
  i127 := by kernel_rfl
  i143 := by kernel_rfl
  i145 := by kernel_rfl
  i167 := by kernel_rfl
  i168 := by kernel_rfl
  i171 := by kernel_rfl
  i173 := by kernel_rfl
  i175 := by kernel_rfl
  i210 := by kernel_rfl
  i212 := by kernel_rfl
  i232 := by kernel_rfl
  i233 := by kernel_rfl
  m15 := by kernel_rfl
  m16 := by kernel_rfl
  m17 := by kernel_rfl
  m18 := by kernel_rfl
  m19 := by kernel_rfl
  c0 := by kernel_rfl
  c2 := by kernel_rfl
  c3 := by kernel_rfl
  c4 := by kernel_rfl
  c5 := by kernel_rfl
  c9 := by kernel_rfl
  c20 := by kernel_rfl
  c21 := by kernel_rfl
  c37 := by kernel_rfl
  c46 := by kernel_rfl
  c51 := by kernel_rfl
  c53 := by kernel_rfl
  c75 := by kernel_rfl
  c76 := by kernel_rfl
  c80 := by kernel_rfl
  c85 := by kernel_rfl
  c127 := by kernel_rfl
  c143 := by kernel_rfl
  c145 := by kernel_rfl
  c167 := by kernel_rfl
  c168 := by kernel_rfl
  c171 := by kernel_rfl
  c173 := by kernel_rfl
  c175 := by kernel_rfl
  c210 := by kernel_rfl
  c212 := by kernel_rfl
  c213 := by kernel_rfl
  c232 := by kernel_rfl
  c233 := by kernel_rfl }
open Go.RowKit in
/-- strconv.Atoi, AT EVERY STRING THAT SPELLS AN int ('Lib.atoiAll .. = .ok v'; of whatever length: leading zeros count): v, AND NO ERROR. The world: as it was, or with the one new row that '[]byte(..)' lays. (LAID: no walk: one application.) -/
theorem Tryd.strconv_Atoi_ok (s : ByteArray) (hmax : s.size ≤ 9223372036854775806) (v : Int) (h : Lib.atoiAll s.data.toList = .ok v) (w : World) :
    Calls Tryd.prog 46 #[.string s] w fun e w' => e = .returned (.tuple #[.int .i64 v, .nilIface]) ∧ (w' = w ∨ ∃ t, w' = Lib.bytesWorld w 5 t) := Any.strconv_Atoi_ok Tryd.laysC172 s hmax v h w
open Go.RowKit in
theorem Tryd.strconv_Atoi_syntax_var (s : ByteArray) (hlim : s.size ≤ 281474976710656) (h : Lib.atoiAll s.data.toList = Lib.NumEnd.syntax) (tp : TypeId) (p : Value) (w : World) (hvar : w.var? Tryd.prog "strconv.ErrSyntax" = some #[.iface tp p]) :
    Calls Tryd.prog 46 #[.string s] w fun e w' => ∃ N, e = .returned (.tuple #[.int .i64 0, .iface 84 (.pointer (some ⟨N, 0, none⟩))]) ∧ w.heap.size ≤ N ∧ w'.heap[N]? = some (.cells #[.string ⟨#[65, 116, 111, 105]⟩, .string s, .iface tp p] 98 (0, 0)) ∧ Below w.heap.size w w' := Any.strconv_Atoi_syntax_var Tryd.laysC172 s hlim h tp p w hvar
open Go.RowKit in
theorem Tryd.strconv_Atoi_range_var (s : ByteArray) (hlim : s.size ≤ 281474976710656) (h : Lib.atoiAll s.data.toList = .range) (tp : TypeId) (p : Value) (w : World) (hvar : w.var? Tryd.prog "strconv.ErrRange" = some #[.iface tp p]) :
    Calls Tryd.prog 46 #[.string s] w fun e w' => ∃ N, e = .returned (.tuple #[.int .i64 (Lib.atoiSat s.data.toList), .iface 84 (.pointer (some ⟨N, 0, none⟩))]) ∧ w.heap.size ≤ N ∧ w'.heap[N]? = some (.cells #[.string ⟨#[65, 116, 111, 105]⟩, .string s, .iface tp p] 98 (0, 0)) ∧ Below w.heap.size w w' := Any.strconv_Atoi_range_var Tryd.laysC172 s hlim h tp p w hvar
def Tryd.lays145_ren : Go.Shelf.Ren := ⟨fun | 145 => 47 | 220 => 57 | 219 => 68 | 217 => 80 | 225 => 81 | 224 => 82 | 267 => 83 | 266 => 89 | 314 => 90 | n => n, fun | 9 => 9 | 4 => 4 | 59 => 62 | 3 => 3 | 5 => 5 | 46 => 92 | 146 => 105 | 51 => 90 | n => n, fun | 1 => 2 | n => n⟩
theorem Tryd.lays145 : Go.Proofs.Lays.n145 Tryd.prog Tryd.lays145_ren := {
  mixed := by kernel_rfl
  f145 := Tryd.func47.trans (congrArg some (by kernel_rfl))
  f217 := Tryd.func80.trans (congrArg some (by kernel_rfl))
  f219 := Tryd.func68.trans (congrArg some (by kernel_rfl))
  f220 := Tryd.func57.trans (congrArg some (by kernel_rfl))
  f224 := Tryd.func82.trans (congrArg some (by kernel_rfl))
  f225 := Tryd.func81.trans (congrArg some (by kernel_rfl))
  f266 := Tryd.func89.trans (congrArg some (by kernel_rfl))
  f267 := Tryd.func83.trans (congrArg some (by kernel_rfl))
  f314 := Tryd.func90.trans (congrArg some (by kernel_rfl))
  t3 := Tryd.underlying3
  a3 := Tryd.isAgg3
  z3 := Tryd.sizeOf3
  v3 := Tryd.zeroValue3
  t4 := Tryd.underlying4
  a4 := Tryd.isAgg4
  z4 := Tryd.sizeOf4
  v4 := Tryd.zeroValue4
  t5 := Tryd.underlying5
  a5 := Tryd.isAgg5
  z5 := Tryd.sizeOf5
  v5 := Tryd.zeroValue5
  t9 := Tryd.underlying9
  a9 := Tryd.isAgg9
  z9 := Tryd.sizeOf9
  v9 := Tryd.zeroValue9
  t46 := Tryd.underlying92
  a46 := Tryd.isAgg92
  z46 := Tryd.sizeOf92
  v46 := Tryd.zeroValue92
  t51 := Tryd.underlying90
  a51 := Tryd.isAgg90
  z51 := Tryd.sizeOf90
  v51 := Tryd.zeroValue90
  t59 := Tryd.underlying62
  a59 := Tryd.isAgg62
  z59 := Tryd.sizeOf62
  v59 := Tryd.zeroValue62
  t146 := Tryd.underlying105
  a146 := Tryd.isAgg105
  z146 := Tryd.sizeOf105
  v146 := Tryd.zeroValue105
  g1 := by kernel_rfl }
open Go.RowKit Go.Lib in
/-- strings.Cut: "Cut slices s around the first instance of sep, returning the text before and after sep. The found result reports whether sep appears in s. If sep does not appear in s, cut returns s, "", false.": IT RETURNS 'Lib.cut s sep'; the world is as it was but for the count of draws. (LAID: no walk: one application.) -/
theorem Tryd.strings_Cut (s sep : ByteArray) (m : Int) (w : World) (hs : s.size < 4294967281) (hm : w.cell? ⟨2, 0, none⟩ = some (.int .i64 m)) :
    Calls Tryd.prog 47 #[.string s, .string sep] w fun e w' => e = .returned (.tuple #[.string ⟨(Lib.cut s.data.toList sep.data.toList).1.toArray⟩, .string ⟨(Lib.cut s.data.toList sep.data.toList).2.1.toArray⟩, .bool (Lib.cut s.data.toList sep.data.toList).2.2]) ∧ ∃ n, w' = w.drewN n := Any.strings_Cut Tryd.lays145 s sep m w hs hm
def Tryd.lays146_ren : Go.Shelf.Ren := ⟨fun | 146 => 33 | 221 => 45 | 268 => 52 | 138 => 53 | 143 => 54 | 195 => 65 | 197 => 66 | 218 => 67 | 219 => 68 | 260 => 79 | 217 => 80 | 225 => 81 | 224 => 82 | 267 => 83 | 266 => 89 | 314 => 90 | n => n, fun | 9 => 9 | 31 => 38 | 3 => 3 | 4 => 4 | 0 => 0 | 105 => 78 | 21 => 21 | 5 => 5 | 46 => 92 | 119 => 101 | 139 => 104 | 138 => 103 | 146 => 105 | 51 => 90 | n => n, fun | 1 => 2 | 3 => 5 | 4 => 6 | n => n⟩
theorem Tryd.lays146 : Go.Proofs.Lays.n146 Tryd.prog Tryd.lays146_ren := {
  mixed := by kernel_rfl
  f138 := Tryd.func53.trans (congrArg some (by kernel_rfl))
  f143 := Tryd.func54.trans (congrArg some (by kernel_rfl))
  f146 := Tryd.func33.trans (congrArg some (by kernel_rfl))
  f195 := Tryd.func65.trans (congrArg some (by kernel_rfl))
  f197 := Tryd.func66.trans (congrArg some (by kernel_rfl))
  f217 := Tryd.func80.trans (congrArg some (by kernel_rfl))
  f218 := Tryd.func67.trans (congrArg some (by kernel_rfl))
  f219 := Tryd.func68.trans (congrArg some (by kernel_rfl))
  f221 := Tryd.func45.trans (congrArg some (by kernel_rfl))
  f224 := Tryd.func82.trans (congrArg some (by kernel_rfl))
  f225 := Tryd.func81.trans (congrArg some (by kernel_rfl))
  f260 := Tryd.func79.trans (congrArg some (by kernel_rfl))
  f266 := Tryd.func89.trans (congrArg some (by kernel_rfl))
  f267 := Tryd.func83.trans (congrArg some (by kernel_rfl))
  f268 := Tryd.func52.trans (congrArg some (by kernel_rfl))
  f314 := Tryd.func90.trans (congrArg some (by kernel_rfl))
  t0 := Tryd.underlying0
  a0 := Tryd.isAgg0
  z0 := Tryd.sizeOf0
  v0 := Tryd.zeroValue0
  t3 := Tryd.underlying3
  a3 := Tryd.isAgg3
  z3 := Tryd.sizeOf3
  v3 := Tryd.zeroValue3
  t4 := Tryd.underlying4
  a4 := Tryd.isAgg4
  z4 := Tryd.sizeOf4
  v4 := Tryd.zeroValue4
  t5 := Tryd.underlying5
  a5 := Tryd.isAgg5
  z5 := Tryd.sizeOf5
  v5 := Tryd.zeroValue5
  t9 := Tryd.underlying9
  a9 := Tryd.isAgg9
  z9 := Tryd.sizeOf9
  v9 := Tryd.zeroValue9
  t21 := Tryd.underlying21
  a21 := Tryd.isAgg21
  z21 := Tryd.sizeOf21
  v21 := Tryd.zeroValue21
  t31 := Tryd.underlying38
  a31 := Tryd.isAgg38
  z31 := Tryd.sizeOf38
  v31 := Tryd.zeroValue38
  t46 := Tryd.underlying92
  a46 := Tryd.isAgg92
  z46 := Tryd.sizeOf92
  v46 := Tryd.zeroValue92
  t51 := Tryd.underlying90
  a51 := Tryd.isAgg90
  z51 := Tryd.sizeOf90
  v51 := Tryd.zeroValue90
  t105 := Tryd.underlying78
  a105 := Tryd.isAgg78
  z105 := Tryd.sizeOf78
  v105 := Tryd.zeroValue78
  t119 := Tryd.underlying101
  a119 := Tryd.isAgg101
  z119 := Tryd.sizeOf101
  t138 := Tryd.underlying103
  a138 := Tryd.isAgg103
  z138 := Tryd.sizeOf103
  v138 := Tryd.zeroValue103
  t139 := Tryd.underlying104
  a139 := Tryd.isAgg104
  z139 := Tryd.sizeOf104
  v139 := Tryd.zeroValue104
  t146 := Tryd.underlying105
  a146 := Tryd.isAgg105
  z146 := Tryd.sizeOf105
  v146 := Tryd.zeroValue105
  g1 := by kernel_rfl
  g3 := by kernel_rfl
  g4 := by kernel_rfl }
open Go.RowKit Go.Lib in
/-- strings.Split. (LAID: no walk: one application.) -/
theorem Tryd.strings_Split (s sep : ByteArray) (m : Int) (w : World) (hs : s.size < 4294967281) (hm : w.cell? ⟨2, 0, none⟩ = some (.int .i64 m)) (h1 : 1 ≤ sep.size) :
    Calls Tryd.prog 33 #[.string s, .string sep] w fun e w' =>
      e = .returned (.slice (some ⟨w.heap.size, 0, none⟩) (Lib.countB s sep + 1) (Lib.countB s sep + 1)) ∧ w' = w.alloc (.cells ((Lib.splitB sep 0 (Lib.countB s sep) s).map Value.string).toArray 9) := Any.strings_Split Tryd.lays146 (by kernel_rfl) s sep m w hs hm h1
end Go.Proofs
end
