/- How a plain reading is evaluated, step by step. -/
import Derived.Test.YtkdagjlkejefnaaMs3
import Derived.IntWalk
import Derived.ProofKit
import Derived.Deep.Slices
import Derived.Deep.Fields
import Derived.ChangeSame
section
set_option linter.unusedSimpArgs false
set_option linter.unusedVariables false
namespace Go.Proofs.Ytkdagjlkejefnaa
open Go Go.RowKit

theorem nrfl {α : Sort _} {a b : α} (h : a = b) : a = b := h
section
variable {env : Env} {K : St → Prop} {is : List PI} {s : St} {d : Option Nat} {af : List Nat}

def contOps (env : Env) (K : St → Prop) (is : List PI) (s : St) (d : Option Nat) (o : Option (Av × Cg)) : Prop := withSome o fun p => evalOps env is (s.ap d p.1 p.2) K
theorem contOps_some {v : Av} {ch : Cg} : contOps env K is s d (some (v, ch)) = evalOps env is (s.ap d v ch) K := nrfl rfl
def callOps (env : Env) (K : St → Prop) (is : List PI) (s : St) (d : Option Nat) (f : Nat) (o : Option (List Pa)) : Prop := withSome o fun ps => (∃ rs, env.d f ps rs ∧ evalOps env is (s.ap d (resAv rs) .no) K) ∨ (∃ H rs, env.a f none ps H rs ∧ evalOps env is (s.ap d (newAv (d.getD 0) (s.gen (d.getD 0) + 1) rs) (.new (d.getD 0) (.ab H))) K)
theorem callOps_intro {f : Nat} {ps : List Pa} (rs : List Pa) (h : env.d f ps rs) (k : evalOps env is (s.ap d (resAv rs) .no) K) : callOps env K is s d f (some ps) := .inl ⟨rs, h, k⟩
theorem callOps_new {f : Nat} {ps : List Pa} (H : HP) (rs : List Pa) (h : env.a f none ps H rs) (k : evalOps env is (s.ap d (newAv (d.getD 0) (s.gen (d.getD 0) + 1) rs) (.new (d.getD 0) (.ab H))) K) : callOps env K is s d f (some ps) := .inr ⟨H, rs, h, k⟩
def methOps (env : Env) (K : St → Prop) (is : List PI) (s : St) (d : Option Nat) (f o : Nat) (oh : Option HP) (oa : Option (List Pa)) : Prop := withSome oa fun ps => withSome oh fun H =>
  (∃ H' rs, env.a f (some H) ps H' rs ∧ evalOps env is (s.ap d (resAv rs) (.ab o H')) K) ∨ (∃ H2, ps = [] ∧ env.c f H H2 ∧ evalOps env is (s.ap d (.b (.one (.ab (d.getD 0) (s.gen (d.getD 0) + 1)))) (.new (d.getD 0) (.ab H2))) K)
theorem methOps_intro {f o : Nat} {H : HP} {ps : List Pa} (H' : HP) (rs : List Pa) (h : env.a f (some H) ps H' rs) (k : evalOps env is (s.ap d (resAv rs) (.ab o H')) K) : methOps env K is s d f o (some H) (some ps) := .inl ⟨H', rs, h, k⟩
theorem methOps_clone {f o : Nat} {H : HP} (H2 : HP) (h : env.c f H H2) (k : evalOps env is (s.ap d (.b (.one (.ab (d.getD 0) (s.gen (d.getD 0) + 1)))) (.new (d.getD 0) (.ab H2))) K) : methOps env K is s d f o (some H) (some []) := .inr ⟨H2, rfl, h, k⟩
def callR (env : Env) (K : St → Prop) (is : List PI) (s : St) (d : Option Nat) (f : Nat) (xs : List PX) : Option (Nat × Nat) → Prop
  | some (o, g) => methOps env K is s d f o (s.abAt o g) (s.args xs.tail)
  | none => callOps env K is s d f (s.args xs)
theorem callR_none {f : Nat} {xs : List PX} : callR env K is s d f xs none = callOps env K is s d f (s.args xs) := nrfl rfl
theorem callR_some {f o g : Nat} {xs : List PX} : callR env K is s d f xs (some (o, g)) = methOps env K is s d f o (s.abAt o g) (s.args xs.tail) := nrfl rfl
theorem recv_nil : s.recv [] = none := nrfl rfl
theorem recv_cons {x : PX} {xs : List PX} : s.recv (x :: xs) = (s.ev x).abOf := nrfl rfl
theorem abAt_ob {o g : Nat} : s.abAt o g = if s.gen o = g then (match s.ob o with | .ab H => some H | _ => none) else none := nrfl rfl
theorem ap_genb {v : Av} {o : Nat} {H : HP} : (s.ap d v (.ab o H)).gen = s.gen := nrfl rfl
theorem ap_obb {v : Av} {o : Nat} {H : HP} : (s.ap d v (.ab o H)).ob = up s.ob o (.ab H) := nrfl rfl
def guardOps (env : Env) (K : St → Prop) (is : List PI) (s : St) (d : Option Nat) (op : PO) (t : Nat) (want : Bool) : Option (Option Bool) → Prop
  | none => False
  | some none => evalOps env is (s.ap d skp .no) K
  | some (some b) => (b = want → evalOps env (⟨d, op, none, []⟩ :: is) (s.ap (some t) (scAv (.bool want)) .no) K) ∧ (b = !want → evalOps env is ((s.ap (some t) (scAv (.bool !want)) .no).ap d skp .no) K)
theorem guardOps_skp {op : PO} {t : Nat} {want : Bool} : guardOps env K is s d op t want (some none) = evalOps env is (s.ap d skp .no) K := nrfl rfl
theorem guardOps_some {op : PO} {t : Nat} {want b : Bool} : guardOps env K is s d op t want (some (some b)) = ((b = want → evalOps env (⟨d, op, none, []⟩ :: is) (s.ap (some t) (scAv (.bool want)) .no) K) ∧ (b = !want → evalOps env is ((s.ap (some t) (scAv (.bool !want)) .no).ap d skp .no) K)) := nrfl rfl
theorem gd_boo {t : Nat} {b : Bool} (h : s.gd t = some (some b)) : s.boo (.t t) = some b := by
  unfold St.gd at h
  split at h
  · cases h
  · rw [Option.map_eq_some_iff] at h
    obtain ⟨c, hc, h⟩ := h
    cases h; exact hc
theorem some_ne {b want : Bool} : (some b ≠ some want) ↔ b = !want := by cases b <;> cases want <;> simp
theorem boo_self {t : Nat} {b : Bool} (h : s.boo (.t t) = some b) : s.ap (some t) (scAv (.bool b)) .no = s := by
  have h1 : s.sl t = scAv (.bool b) := by
    unfold St.boo at h
    split at h
    · rename_i c hc
      cases h
      exact hc
    · cases h
  have h2 : up s.sl t (scAv (.bool b)) = s.sl := by
    funext x
    rw [up_at]
    split
    · rename_i hx; rw [hx, h1]
    · rfl
  show (⟨up s.sl t (scAv (.bool b)), s.gen, s.ob⟩ : St) = s
  rw [h2]
theorem evalOps_nil : evalOps env [] s K = K s := nrfl rfl
theorem evalOps_fn {op : PO} (h : op.isCall = false) : evalOps env (⟨d, op, none, af⟩ :: is) s K = contOps env K is s d (op.fn s (d.getD 0)) := by
  change PO.go env s (d.getD 0) (fun v ch => evalOps env is (s.ap d v ch) K) op = _
  rw [PO.go_fn h]
  rfl
def opS (env : Env) (K : St → Prop) (is : List PI) (s : St) (d : Option Nat) (b : Bool) (op : PO) : Prop := match b with
  | true => (match op with | .call f xs => callR env K is s d f xs (s.recv xs) | _ => False)
  | false => contOps env K is s d (op.fn s (d.getD 0))
theorem opS_false {op : PO} : opS env K is s d false op = contOps env K is s d (op.fn s (d.getD 0)) := nrfl rfl
theorem opS_true {f : Nat} {xs : List PX} : opS env K is s d true (.call f xs) = callR env K is s d f xs (s.recv xs) := nrfl rfl
theorem evalOps_op {op : PO} : evalOps env (⟨d, op, none, af⟩ :: is) s K = opS env K is s d op.isCall op := by
  cases hc : op.isCall with
  | true =>
    cases op <;> first
      | (cases hc; done)
      | (rename_i f xs
         show callG env s (d.getD 0) (fun v ch => evalOps env is (s.ap d v ch) K) f xs (s.recv xs) = callR env K is s d f xs (s.recv xs)
         cases s.recv xs <;> rfl)
  | false => rw [opS_false, evalOps_fn hc]
theorem evalOps_guard {op : PO} {t : Nat} {want : Bool} : evalOps env (⟨d, op, some (t, want), af⟩ :: is) s K = guardOps env K is s d op t want (s.gd t) := by
  change withSome (s.gd t) _ = guardOps env K is s d op t want (s.gd t)
  cases h : s.gd t with
  | none => rfl
  | some b =>
    cases b with
    | none => exact propext ⟨fun k => k.2 (by simp), fun k => ⟨fun e => (by simp at e), fun _ => k⟩⟩
    | some b =>
      have hb := boo_self (gd_boo h)
      rw [guardOps_some]
      show ((some b = some want → _) ∧ (some b ≠ some want → _)) = _
      rw [some_ne, Option.some.injEq]
      congr 1
      · apply propext
        refine forall_congr' fun he => ?_
        subst he
        rw [hb]
        rfl
      · apply propext
        refine forall_congr' fun he => ?_
        rw [← he, hb]
theorem evalOps_gT {op : PO} {t : Nat} {want : Bool} (h : s.gd t = some (some want)) : evalOps env (⟨d, op, some (t, want), af⟩ :: is) s K = evalOps env (⟨d, op, none, []⟩ :: is) s K := by
  rw [evalOps_guard, h, guardOps_some, boo_self (gd_boo h)]
  exact propext ⟨fun k => k.1 rfl, fun k => ⟨fun _ => k, fun e => absurd e (by cases want <;> decide)⟩⟩
theorem evalOps_gF {op : PO} {t : Nat} {want : Bool} (h : s.gd t = some (some (!want))) : evalOps env (⟨d, op, some (t, want), af⟩ :: is) s K = evalOps env is (s.ap d skp .no) K := by
  rw [evalOps_guard, h, guardOps_some, boo_self (gd_boo h)]
  exact propext ⟨fun k => k.2 rfl, fun k => ⟨fun e => absurd e (by cases want <;> decide), fun _ => k⟩⟩
theorem evalOps_gS {op : PO} {t : Nat} {want : Bool} (h : s.gd t = some none) : evalOps env (⟨d, op, some (t, want), af⟩ :: is) s K = evalOps env is (s.ap d skp .no) K := by
  rw [evalOps_guard, h, guardOps_skp]

abbrev Ft := List (List Rg × List Rg)
variable {KD : St → Ft → Prop} {acc : Ft}
def contD (env : Env) (K : St → Ft → Prop) (is : List PI) (s : St) (d : Option Nat) (acc : Ft) (rd : List Rg) (o : Option (Av × Cg)) : Prop := withSome o fun p => evalD env is (s.ap d p.1 p.2) ((rd, p.2.wrs) :: acc) K
theorem contD_some {v : Av} {ch : Cg} {rd : List Rg} : contD env KD is s d acc rd (some (v, ch)) = evalD env is (s.ap d v ch) ((rd, ch.wrs) :: acc) KD := nrfl rfl
def callD (env : Env) (K : St → Ft → Prop) (is : List PI) (s : St) (d : Option Nat) (acc : Ft) (f : Nat) (o : Option (List Pa)) : Prop := withSome o fun ps =>
  (∃ rs, env.d f ps rs ∧ evalD env is (s.ap d (resAv rs) .no) (([(d.getD 0, big - 1, 1)], []) :: acc) K) ∨ (∃ H rs, env.a f none ps H rs ∧ evalD env is (s.ap d (newAv (d.getD 0) (s.gen (d.getD 0) + 1) rs) (.new (d.getD 0) (.ab H))) (([(d.getD 0, big - 1, 1)], [(d.getD 0, 0, big)]) :: acc) K)
theorem callD_intro {f : Nat} {ps : List Pa} (rs : List Pa) (h : env.d f ps rs) (k : evalD env is (s.ap d (resAv rs) .no) (([(d.getD 0, big - 1, 1)], []) :: acc) KD) : callD env KD is s d acc f (some ps) := .inl ⟨rs, h, k⟩
theorem callD_new {f : Nat} {ps : List Pa} (H : HP) (rs : List Pa) (h : env.a f none ps H rs) (k : evalD env is (s.ap d (newAv (d.getD 0) (s.gen (d.getD 0) + 1) rs) (.new (d.getD 0) (.ab H))) (([(d.getD 0, big - 1, 1)], [(d.getD 0, 0, big)]) :: acc) KD) : callD env KD is s d acc f (some ps) := .inr ⟨H, rs, h, k⟩
def methD (env : Env) (K : St → Ft → Prop) (is : List PI) (s : St) (d : Option Nat) (acc : Ft) (f o : Nat) (oh : Option HP) (oa : Option (List Pa)) : Prop := withSome oa fun ps => withSome oh fun H =>
  (∃ H' rs, env.a f (some H) ps H' rs ∧ evalD env is (s.ap d (resAv rs) (.ab o H')) (([(o, 0, big), (d.getD 0, big - 1, 1)], [(o, 0, big)]) :: acc) K) ∨
  (∃ H2, ps = [] ∧ env.c f H H2 ∧ evalD env is (s.ap d (.b (.one (.ab (d.getD 0) (s.gen (d.getD 0) + 1)))) (.new (d.getD 0) (.ab H2))) (([(o, 0, big), (d.getD 0, big - 1, 1)], [(d.getD 0, 0, big)]) :: acc) K)
theorem methD_intro {f o : Nat} {H : HP} {ps : List Pa} (H' : HP) (rs : List Pa) (h : env.a f (some H) ps H' rs) (k : evalD env is (s.ap d (resAv rs) (.ab o H')) (([(o, 0, big), (d.getD 0, big - 1, 1)], [(o, 0, big)]) :: acc) KD) : methD env KD is s d acc f o (some H) (some ps) := .inl ⟨H', rs, h, k⟩
def callRD (env : Env) (K : St → Ft → Prop) (is : List PI) (s : St) (d : Option Nat) (acc : Ft) (f : Nat) (xs : List PX) : Option (Nat × Nat) → Prop
  | some (o, g) => methD env K is s d acc f o (s.abAt o g) (s.args xs.tail)
  | none => callD env K is s d acc f (s.args xs)
theorem callRD_none {f : Nat} {xs : List PX} : callRD env KD is s d acc f xs none = callD env KD is s d acc f (s.args xs) := nrfl rfl
theorem callRD_some {f o g : Nat} {xs : List PX} : callRD env KD is s d acc f xs (some (o, g)) = methD env KD is s d acc f o (s.abAt o g) (s.args xs.tail) := nrfl rfl
/-- a guarded operation -/
def goD (env : Env) (K : St → Ft → Prop) (is : List PI) (s : St) (d : Option Nat) (acc : Ft) (op : PO) : Prop := op.go env s (d.getD 0) fun v ch => evalD env is (s.ap d v ch) ((op.rd s (d.getD 0), ch.wrs) :: acc) K
def guardD (env : Env) (K : St → Ft → Prop) (is : List PI) (s : St) (d : Option Nat) (acc : Ft) (op : PO) (t : Nat) (want : Bool) : Option (Option Bool) → Prop
  | none => False
  | some none => evalD env is (s.ap d skp .no) ((op.rd s (d.getD 0), []) :: acc) K
  | some (some b) => (b = want → goD env K is (s.ap (some t) (scAv (.bool want)) .no) d acc op) ∧ (b = !want → evalD env is ((s.ap (some t) (scAv (.bool !want)) .no).ap d skp .no) ((op.rd s (d.getD 0), []) :: acc) K)
theorem guardD_skp {op : PO} {t : Nat} {want : Bool} : guardD env KD is s d acc op t want (some none) = evalD env is (s.ap d skp .no) ((op.rd s (d.getD 0), []) :: acc) KD := nrfl rfl
theorem guardD_some {op : PO} {t : Nat} {want b : Bool} : guardD env KD is s d acc op t want (some (some b)) = ((b = want → goD env KD is (s.ap (some t) (scAv (.bool want)) .no) d acc op) ∧ (b = !want → evalD env is ((s.ap (some t) (scAv (.bool !want)) .no).ap d skp .no) ((op.rd s (d.getD 0), []) :: acc) KD)) := nrfl rfl
theorem evalD_nil : evalD env [] s acc KD = KD s acc.reverse := nrfl rfl
theorem goD_fn {op : PO} (h : op.isCall = false) : goD env KD is s d acc op = contD env KD is s d acc (op.rd s (d.getD 0)) (op.fn s (d.getD 0)) := by
  unfold goD
  rw [PO.go_fn h]
  rfl
def opD (env : Env) (K : St → Ft → Prop) (is : List PI) (s : St) (d : Option Nat) (acc : Ft) (b : Bool) (op : PO) : Prop := match b with
  | true => (match op with | .call f xs => callRD env K is s d acc f xs (s.recv xs) | _ => False)
  | false => contD env K is s d acc (op.rd s (d.getD 0)) (op.fn s (d.getD 0))
theorem opD_false {op : PO} : opD env KD is s d acc false op = contD env KD is s d acc (op.rd s (d.getD 0)) (op.fn s (d.getD 0)) := nrfl rfl
theorem opD_true {f : Nat} {xs : List PX} : opD env KD is s d acc true (.call f xs) = callRD env KD is s d acc f xs (s.recv xs) := nrfl rfl
theorem goD_op {op : PO} : goD env KD is s d acc op = opD env KD is s d acc op.isCall op := by
  cases hc : op.isCall with
  | true =>
    cases op <;> first
      | (cases hc; done)
      | (rename_i f xs
         show callG env s (d.getD 0) (fun v ch => evalD env is (s.ap d v ch) (((PO.call f xs).rd s (d.getD 0), ch.wrs) :: acc) KD) f xs (s.recv xs) = callRD env KD is s d acc f xs (s.recv xs)
         have hrd : (PO.call f xs).rd s (d.getD 0) = match s.recv xs with | some p => [(p.1, 0, big), (d.getD 0, big - 1, 1)] | none => [(d.getD 0, big - 1, 1)] := rfl
         rw [hrd]
         cases s.recv xs <;> rfl)
  | false => rw [opD_false, goD_fn hc]
theorem evalD_plain {op : PO} : evalD env (⟨d, op, none, af⟩ :: is) s acc KD = goD env KD is s d acc op := nrfl rfl
theorem evalD_guard {op : PO} {t : Nat} {want : Bool} : evalD env (⟨d, op, some (t, want), af⟩ :: is) s acc KD = guardD env KD is s d acc op t want (s.gd t) := by
  change withSome (s.gd t) _ = guardD env KD is s d acc op t want (s.gd t)
  cases h : s.gd t with
  | none => rfl
  | some b =>
    cases b with
    | none => exact propext ⟨fun k => k.2 (by simp), fun k => ⟨fun e => (by simp at e), fun _ => k⟩⟩
    | some b =>
      have hb := boo_self (gd_boo h)
      rw [guardD_some]
      show ((some b = some want → _) ∧ (some b ≠ some want → _)) = _
      rw [some_ne, Option.some.injEq]
      congr 1
      · apply propext
        refine forall_congr' fun he => ?_
        subst he
        rw [hb]
        rfl
      · apply propext
        refine forall_congr' fun he => ?_
        rw [← he, hb]
        rfl
theorem evalD_gT {op : PO} {t : Nat} {want : Bool} (h : s.gd t = some (some want)) : evalD env (⟨d, op, some (t, want), af⟩ :: is) s acc KD = goD env KD is s d acc op := by
  rw [evalD_guard, h, guardD_some, boo_self (gd_boo h)]
  exact propext ⟨fun k => k.1 rfl, fun k => ⟨fun _ => k, fun e => absurd e (by cases want <;> decide)⟩⟩
theorem evalD_gF {op : PO} {t : Nat} {want : Bool} (h : s.gd t = some (some (!want))) : evalD env (⟨d, op, some (t, want), af⟩ :: is) s acc KD = evalD env is (s.ap d skp .no) ((op.rd s (d.getD 0), []) :: acc) KD := by
  rw [evalD_guard, h, guardD_some, boo_self (gd_boo h)]
  exact propext ⟨fun k => k.2 rfl, fun k => ⟨fun e => absurd e (by cases want <;> decide), fun _ => k⟩⟩
theorem evalD_gS {op : PO} {t : Nat} {want : Bool} (h : s.gd t = some none) : evalD env (⟨d, op, some (t, want), af⟩ :: is) s acc KD = evalD env is (s.ap d skp .no) ((op.rd s (d.getD 0), []) :: acc) KD := by
  rw [evalD_guard, h, guardD_skp]

/-- what comes behind: codes, ends of blocks, of loops -/
inductive It where
  | c (x : PC)
  | bl (id : Nat)
  | lp (I : Nat → St → Prop) (n : Nat)
def exS (env : Env) : List It → (Exit → St → Prop) → Exit → St → Prop
  | [], Q, e, s => Q e s
  | .c b :: k, Q, e, s => match e with
    | .normal => pwp env b (exS env k Q) s
    | e => exS env k Q e s
  | .bl id :: k, Q, e, s => match e with
    | .exit i => if i = id then exS env k Q .normal s else exS env k Q (.exit i) s
    | e => exS env k Q e s
  | .lp I n :: k, Q, e, s => match e with
    | .normal => ∃ m, m < n ∧ I m s
    | e => exS env k Q e s

variable {k : List It} {Q : Exit → St → Prop}
theorem exS_nil {e : Exit} : exS env [] Q e s = Q e s := nrfl rfl
theorem exS_c {b : PC} : exS env (.c b :: k) Q .normal s = pwp env b (exS env k Q) s := nrfl rfl
theorem exS_c_ret {b : PC} : exS env (.c b :: k) Q .ret s = exS env k Q .ret s := nrfl rfl
theorem exS_c_exit {b : PC} {i : Nat} : exS env (.c b :: k) Q (.exit i) s = exS env k Q (.exit i) s := nrfl rfl
theorem exS_bl {id : Nat} : exS env (.bl id :: k) Q .normal s = exS env k Q .normal s := nrfl rfl
theorem exS_bl_ret {id : Nat} : exS env (.bl id :: k) Q .ret s = exS env k Q .ret s := nrfl rfl
theorem exS_bl_exit {id i : Nat} : exS env (.bl id :: k) Q (.exit i) s = if i = id then exS env k Q .normal s else exS env k Q (.exit i) s := nrfl rfl
theorem exS_lp {I : Nat → St → Prop} {n : Nat} : exS env (.lp I n :: k) Q .normal s = ∃ m, m < n ∧ I m s := nrfl rfl
theorem exS_lp_ret {I : Nat → St → Prop} {n : Nat} : exS env (.lp I n :: k) Q .ret s = exS env k Q .ret s := nrfl rfl
theorem exS_lp_exit {I : Nat → St → Prop} {n i : Nat} : exS env (.lp I n :: k) Q (.exit i) s = exS env k Q (.exit i) s := nrfl rfl

theorem pwp_start {c : PC} (h : pwp env c (exS env [] Q) s) : pwp env c Q s := h
/-- go on from a state of which only these slots and objects are known -/
theorem pwp_fresh {Q' : Exit → St → Prop} {c : PC} (sls obs : List Nat) (h : ∀ st : St, (∀ x, x ∈ sls → st.sl x = s.sl x) → (∀ o, o ∈ obs → st.gen o = s.gen o ∧ st.ob o = s.ob o) → pwp env c Q' st) : pwp env c Q' s := h s (fun _ _ => rfl) (fun _ _ => ⟨rfl, rfl⟩)
/-- the same with something known of the whole state -/
theorem pwp_freshP {Q' : Exit → St → Prop} {c : PC} (P : St → Prop) (hP : P s) (sls obs : List Nat) (h : ∀ st : St, P st → (∀ x, x ∈ sls → st.sl x = s.sl x) → (∀ o, o ∈ obs → st.gen o = s.gen o ∧ st.ob o = s.ob o) → pwp env c Q' st) : pwp env c Q' s := h s hP (fun _ _ => rfl) (fun _ _ => ⟨rfl, rfl⟩)
theorem pwp_skip : pwp env .skip (exS env k Q) s = exS env k Q .normal s := nrfl rfl
theorem pwp_reg {ops : List PI} : pwp env (.reg false ops) (exS env k Q) s = evalOps env ops s (exS env k Q .normal) := nrfl rfl
def drawn (ops : List PI) (K : St → Prop) (s : St) (fts : Ft) : Prop := drawOk ops fts = true ∧ K s
/-- the check of a drawn region: closed by drw -/
def Drw (ops : List PI) (fts : Ft) : Prop := drawOk ops fts = true
theorem drawn_and {ops : List PI} {K : St → Prop} {fts : Ft} : drawn ops K s fts = (Drw ops fts ∧ K s) := nrfl rfl
theorem pwp_regD {ops : List PI} : pwp env (.reg true ops) (exS env k Q) s = evalD env ops s [] (drawn ops (exS env k Q .normal)) := nrfl rfl
theorem pwp_seq {a b : PC} : pwp env (.seq a b) (exS env k Q) s = pwp env a (exS env (.c b :: k) Q) s := by
  show pwp env a _ s = _
  congr 1
def condS (env : Env) (a b : PC) (k : List It) (Q : Exit → St → Prop) (s : St) (o : Option Bool) : Prop := withSome o fun t => (t = true → pwp env a (exS env k Q) s) ∧ (t = false → pwp env b (exS env k Q) s)
theorem condS_some {a b : PC} {t : Bool} : condS env a b k Q s (some t) = ((t = true → pwp env a (exS env k Q) s) ∧ (t = false → pwp env b (exS env k Q) s)) := nrfl rfl
theorem pwp_cond {c : PX} {a b : PC} : pwp env (.cond c a b) (exS env k Q) s = condS env a b k Q s (s.boo c) := nrfl rfl
theorem pwp_block {id : Nat} {c : PC} : pwp env (.block id c) (exS env k Q) s = pwp env c (exS env (.bl id :: k) Q) s := by
  show pwp env c _ s = _
  congr 1
theorem pwp_exit {id : Nat} : pwp env (.exit id) (exS env k Q) s = exS env k Q (.exit id) s := nrfl rfl
theorem pwp_ret : pwp env .ret (exS env k Q) s = exS env k Q .ret s := nrfl rfl
theorem pwp_loop {c : PC} (I : Nat → St → Prop) (n : Nat) (h0 : I n s) (h : ∀ n s, I n s → pwp env c (exS env (.lp I n :: k) Q) s) : pwp env (.loop c) (exS env k Q) s := by
  refine ⟨I, ⟨n, h0⟩, fun n s hI => ?_⟩
  have := h n s hI
  have he : exS env (.lp I n :: k) Q = fun e s' => match e with | .normal => ∃ m, m < n ∧ I m s' | e => exS env k Q e s' := by
    funext e s'
    cases e <;> rfl
  rw [he] at this
  exact this

/-! the parts of a state -/
theorem ap_sl {x : Nat} {v : Av} {ch : Cg} : (s.ap (some x) v ch).sl = up s.sl x v := nrfl rfl
theorem ap_sl0 {v : Av} {ch : Cg} : (s.ap none v ch).sl = s.sl := nrfl rfl
theorem ap_gen {v : Av} : (s.ap d v .no).gen = s.gen := nrfl rfl
theorem ap_genw {v : Av} {o off : Nat} {cs : List Cl} : (s.ap d v (.wr o off cs)).gen = s.gen := nrfl rfl
theorem ap_genr {v : Av} {o m : Nat} : (s.ap d v (.row o m)).gen = s.gen := nrfl rfl
theorem ap_genn {v : Av} {o : Nat} {x : Ob} : (s.ap d v (.new o x)).gen = up s.gen o (s.gen o + 1) := nrfl rfl
theorem ap_ob {v : Av} : (s.ap d v .no).ob = s.ob := nrfl rfl
theorem ap_obw {v : Av} {o off : Nat} {cs : List Cl} : (s.ap d v (.wr o off cs)).ob = up s.ob o (wrF off cs (s.ob o)) := by
  rw [ap_eq]; rfl
theorem ap_obr {v : Av} {o m : Nat} : (s.ap d v (.row o m)).ob = up s.ob o (rowF m (s.ob o)) := by
  rw [ap_eq]; rfl
theorem ap_obn {v : Av} {o : Nat} {x : Ob} : (s.ap d v (.new o x)).ob = up s.ob o x := nrfl rfl
theorem wrF_cells {off : Nat} {cs old : List Cl} : wrF off cs (.cells old) = .cells (wrAt old off cs) := nrfl rfl
theorem rowF_row {m E sz n : Nat} : rowF m (.row E sz n) = .row E sz m := nrfl rfl

def initSl : List Pa → Nat → Av
  | [], _ => .un
  | p :: _, 0 => .b p.bv
  | _ :: r, n + 1 => initSl r n
theorem init_sl (ps : List Pa) (x : Nat) : (St.init ps).sl x = initSl ps x := by
  show (match ps[x]? with | some p => Av.b p.bv | none => .un) = _
  induction ps generalizing x with
  | nil => simp [initSl]
  | cons p r ih =>
    cases x with
    | zero => rfl
    | succ x => rw [List.getElem?_cons_succ, ih x]; rfl
theorem init_gen {ps : List Pa} {x : Nat} : (St.init ps).gen x = 0 := nrfl rfl
theorem init_ob {ps : List Pa} {x : Nat} : (St.init ps).ob x = .no := nrfl rfl

theorem ev_t {x : Nat} : s.ev (.t x) = s.sl x := nrfl rfl
theorem ev_int {k : IntKind} {m : Int} : s.ev (.v (.int k m)) = .b (.one (.d (.sc (.int k m)))) := nrfl rfl
theorem ev_bool {b : Bool} : s.ev (.v (.bool b)) = .b (.one (.d (.sc (.bool b)))) := nrfl rfl
theorem ev_string {b : ByteArray} : s.ev (.v (.string b)) = .b (.one (.d (.sc (.string b)))) := nrfl rfl
theorem ev_nil : s.ev (.v (.slice none 0 0)) = .b (.one (.d (.sc (.slice none 0 0)))) := nrfl rfl
theorem ev_agg {l : Array Value} : s.ev (.v (.agg l)) = .b (.agg (l.toList.map fun v => .d (.sc v))) := nrfl rfl
theorem ev_ptr : s.ev (.v (.pointer none)) = .b (.one (.d (.sc (.pointer none)))) := nrfl rfl

theorem args_nil : s.args [] = some [] := nrfl rfl
theorem args_cons {x : PX} {xs : List PX} : s.args (x :: xs) = (match (s.ev x).pa with | some p => (s.args xs).map (p :: ·) | none => none) := by
  unfold St.args
  simp only [List.map_cons]
  cases (s.ev x).pa <;> rfl
end

/-- st is s0 but for the slots ms and the objects os -/
def Within (ms os : List Nat) (s0 st : St) : Prop := (∀ x, ms.contains x = false → st.sl x = s0.sl x) ∧ ∀ o, os.contains o = false → st.gen o = s0.gen o ∧ st.ob o = s0.ob o
def over (ms os : List Nat) (s0 j : St) : St := ⟨fun x => bif ms.contains x then j.sl x else s0.sl x, fun o => bif os.contains o then j.gen o else s0.gen o, fun o => bif os.contains o then j.ob o else s0.ob o⟩
theorem Within.refl (ms os : List Nat) (s : St) : Within ms os s s := ⟨fun _ _ => rfl, fun _ _ => ⟨rfl, rfl⟩⟩
theorem Within.over {ms os : List Nat} {s0 st : St} (h : Within ms os s0 st) : ∃ j, st = over ms os s0 j := by
  refine ⟨st, ?_⟩
  obtain ⟨h1, h2⟩ := h
  have e1 : st.sl = (Go.Proofs.Ytkdagjlkejefnaa.over ms os s0 st).sl := by
    funext x
    show st.sl x = bif ms.contains x then st.sl x else s0.sl x
    cases hx : ms.contains x with
    | true => rfl
    | false => exact h1 x hx
  have e2 : st.gen = (Go.Proofs.Ytkdagjlkejefnaa.over ms os s0 st).gen := by
    funext x
    show st.gen x = bif os.contains x then st.gen x else s0.gen x
    cases hx : os.contains x with
    | true => rfl
    | false => exact (h2 x hx).1
  have e3 : st.ob = (Go.Proofs.Ytkdagjlkejefnaa.over ms os s0 st).ob := by
    funext x
    show st.ob x = bif os.contains x then st.ob x else s0.ob x
    cases hx : os.contains x with
    | true => rfl
    | false => exact (h2 x hx).2
  show (⟨st.sl, st.gen, st.ob⟩ : St) = ⟨(Go.Proofs.Ytkdagjlkejefnaa.over ms os s0 st).sl, (Go.Proofs.Ytkdagjlkejefnaa.over ms os s0 st).gen, (Go.Proofs.Ytkdagjlkejefnaa.over ms os s0 st).ob⟩
  rw [← e1, ← e2, ← e3]
theorem over_sl {ms os : List Nat} {s0 j : St} {x : Nat} : (over ms os s0 j).sl x = bif ms.contains x then j.sl x else s0.sl x := nrfl rfl
theorem over_gen {ms os : List Nat} {s0 j : St} {x : Nat} : (over ms os s0 j).gen x = bif os.contains x then j.gen x else s0.gen x := nrfl rfl
theorem over_ob {ms os : List Nat} {s0 j : St} {x : Nat} : (over ms os s0 j).ob x = bif os.contains x then j.ob x else s0.ob x := nrfl rfl
theorem within_over {ms os : List Nat} {s0 j : St} : Within ms os s0 (over ms os s0 j) = True := by
  apply propext
  refine ⟨fun _ => trivial, fun _ => ⟨fun x hx => ?_, fun o ho => ⟨?_, ?_⟩⟩⟩
  · rw [over_sl, hx]; rfl
  · rw [over_gen, ho]; rfl
  · rw [over_ob, ho]; rfl
theorem within_self {ms os : List Nat} {s : St} : Within ms os s s = True := propext ⟨fun _ => trivial, fun _ => Within.refl _ _ _⟩
def chIn (os : List Nat) : Cg → Bool
  | .ab o _ => os.contains o
  | .no => true
  | .new o _ => os.contains o
  | .wr o _ _ => os.contains o
  | .row o _ => os.contains o
theorem Within.ap {ms os : List Nat} {s0 s : St} {d : Option Nat} {v : Av} {ch : Cg} (h : Within ms os s0 s) (hd : ∀ x, d = some x → ms.contains x = true) (hc : chIn os ch = true) : Within ms os s0 (s.ap d v ch) := by
  obtain ⟨h1, h2⟩ := h
  rw [ap_eq]
  refine ⟨fun x hx => ?_, fun o ho => ?_⟩
  · cases d with
    | none => exact h1 x hx
    | some y =>
      show up s.sl y v x = _
      rw [up_at, if_neg]
      · exact h1 x hx
      · rintro rfl
        rw [hd x rfl] at hx
        cases hx
  · have key : ∀ y : Nat, os.contains y = true → o ≠ y := by
      rintro y hy rfl
      rw [hy] at ho; cases ho
    show ch.gF s.gen o = _ ∧ ch.oF s.ob o = _
    cases ch with
    | no => exact h2 o ho
    | new y x => simp only [Cg.gF, Cg.oF, Go.Proofs.Ytkdagjlkejefnaa.md, up_at, if_neg (key y hc)]; exact h2 o ho
    | wr y off cs => simp only [Cg.gF, Cg.oF, Go.Proofs.Ytkdagjlkejefnaa.md, up_at, if_neg (key y hc)]; exact h2 o ho
    | row y m => simp only [Cg.gF, Cg.oF, Go.Proofs.Ytkdagjlkejefnaa.md, up_at, if_neg (key y hc)]; exact h2 o ho
    | ab y H => simp only [Cg.gF, Cg.oF, Go.Proofs.Ytkdagjlkejefnaa.md, up_at, if_neg (key y hc)]; exact h2 o ho
theorem within_ap {ms os : List Nat} {s0 s : St} {x : Nat} {v : Av} {ch : Cg} (h : Within ms os s0 s) (hd : ms.contains x = true) (hc : chIn os ch = true) : Within ms os s0 (s.ap (some x) v ch) := h.ap (fun y hy => by cases hy; exact hd) hc
theorem within_ap0 {ms os : List Nat} {s0 s : St} {v : Av} {ch : Cg} (h : Within ms os s0 s) (hc : chIn os ch = true) : Within ms os s0 (s.ap none v ch) := h.ap (fun y hy => by cases hy) hc
theorem Within.trans {ms os : List Nat} {a b c : St} (h : Within ms os a b) (k : Within ms os b c) : Within ms os a c :=
  ⟨fun x hx => (k.1 x hx).trans (h.1 x hx), fun o ho => ⟨(k.2 o ho).1.trans (h.2 o ho).1, (k.2 o ho).2.trans (h.2 o ho).2⟩⟩

/-- a loop that turns the slots ms and the objects os alone -/
theorem pwp_loopW {env : Env} {k : List It} {Q : Exit → St → Prop} {s : St} {c : PC} (ms os : List Nat) (J : Nat → St → Prop) (m0 : Nat) (h0 : J m0 s)
    (h : ∀ m j, J m (over ms os s j) → pwp env c (exS env (.lp (fun m st => Within ms os s st ∧ J m st) m :: k) Q) (over ms os s j)) : pwp env (.loop c) (exS env k Q) s :=
  pwp_loop (fun m st => Within ms os s st ∧ J m st) m0 ⟨Within.refl _ _ _, h0⟩ (fun m st ⟨hW, hJ⟩ => by
    obtain ⟨j, rfl⟩ := hW.over
    exact h m j hJ)

/-! numbers -/
theorem wr64 {x : Int} (h1 : -9223372036854775808 ≤ x) (h2 : x ≤ 9223372036854775807) : IntKind.i64.wrap x = x := IntWalk.i64_in x ⟨h1, h2⟩
theorem wrN {k : Nat} (h : k ≤ 1000000000) : IntKind.i64.wrap ((k : Int) + 1) = ((k + 1 : Nat) : Int) := by
  rw [wr64 (by omega) (by omega)]; omega
end Go.Proofs.Ytkdagjlkejefnaa
end
section
set_option linter.unusedSimpArgs false
set_option linter.unusedVariables false
namespace Go.Proofs.Ytkdagjlkejefnaa
open Go Go.RowKit
set_option maxRecDepth 100000
def unN : Option Value → Option (Av × Cg)
  | some (.bool b) => some (scAv (.bool !b), .no)
  | _ => none
def unG : Option Value → Option (Av × Cg)
  | some (.int k n) => some (scAv (.int k (k.wrap (0 - n))), .no)
  | _ => none
def unX : Option Value → Option (Av × Cg)
  | some (.int k n) => some (scAv (.int k (k.wrap (BitVec.ofInt k.bits (if k.signed then -1 else k.max) ^^^ BitVec.ofInt k.bits n).toNat)), .no)
  | _ => none
theorem fn_not {s : St} {d : Nat} {x : PX} : PO.fn s d (.un .not x) = unN (s.val x) := by
  cases h : s.val x with
  | none => simp only [PO.fn, h, unN]
  | some v => cases v <;> simp only [PO.fn, h, unN]
theorem fn_neg {s : St} {d : Nat} {x : PX} : PO.fn s d (.un .neg x) = unG (s.val x) := by
  cases h : s.val x with
  | none => simp only [PO.fn, h, unG]
  | some v => cases v <;> simp only [PO.fn, h, unG]
theorem fn_xor {s : St} {d : Nat} {x : PX} : PO.fn s d (.un .xor x) = unX (s.val x) := by
  cases h : s.val x with
  | none => simp only [PO.fn, h, unX]
  | some v => cases v <;> simp only [PO.fn, h, unX]
theorem evP : type_of% (
  And.intro @evalOps_gT <|
  And.intro @evalOps_gF <|
  And.intro @evalOps_gS <|
  And.intro @evalD_gT <|
  And.intro @evalD_gF <|
  And.intro @evalD_gS <|
  And.intro @pwp_skip <|
  And.intro @pwp_reg <|
  And.intro @pwp_regD <|
  And.intro @pwp_seq <|
  And.intro @pwp_cond <|
  And.intro @pwp_block <|
  And.intro @pwp_exit <|
  @pwp_ret) :=
  And.intro @evalOps_gT <|
  And.intro @evalOps_gF <|
  And.intro @evalOps_gS <|
  And.intro @evalD_gT <|
  And.intro @evalD_gF <|
  And.intro @evalD_gS <|
  And.intro @pwp_skip <|
  And.intro @pwp_reg <|
  And.intro @pwp_regD <|
  And.intro @pwp_seq <|
  And.intro @pwp_cond <|
  And.intro @pwp_block <|
  And.intro @pwp_exit <|
  @pwp_ret
theorem evB : type_of% (
  And.intro @guardOps_skp <|
  And.intro @guardD_skp <|
  And.intro @St.gd.eq_1 <|
  And.intro @isSkp.eq_1 <|
  And.intro @isSkp.eq_2 <|
  And.intro @isSkp.eq_3 <|
  And.intro @isSkp.eq_4 <|
  And.intro @skp.eq_1 <|
  And.intro @condS_some <|
  And.intro @exS_nil <|
  And.intro @exS_c <|
  And.intro @exS_c_ret <|
  And.intro @exS_c_exit <|
  And.intro @exS_bl <|
  And.intro @exS_bl_ret <|
  And.intro @exS_bl_exit <|
  And.intro @exS_lp_ret <|
  And.intro @exS_lp_exit <|
  And.intro @evalOps_nil <|
  And.intro @evalOps_op <|
  And.intro @opS_false <|
  And.intro @opS_true <|
  And.intro @callR_none <|
  And.intro @callR_some <|
  And.intro @callRD_none <|
  And.intro @callRD_some <|
  And.intro @evalOps_guard <|
  And.intro @contOps_some <|
  And.intro @guardOps_some <|
  And.intro @evalD_nil <|
  And.intro @drawn_and <|
  And.intro @List.reverse_cons.{0} <|
  And.intro @List.reverse_nil.{0} <|
  And.intro @evalD_plain <|
  And.intro @evalD_guard <|
  And.intro @goD_op <|
  And.intro @opD_false <|
  And.intro @opD_true <|
  And.intro @contD_some <|
  @guardD_some) :=
  And.intro @guardOps_skp <|
  And.intro @guardD_skp <|
  And.intro @St.gd.eq_1 <|
  And.intro @isSkp.eq_1 <|
  And.intro @isSkp.eq_2 <|
  And.intro @isSkp.eq_3 <|
  And.intro @isSkp.eq_4 <|
  And.intro @skp.eq_1 <|
  And.intro @condS_some <|
  And.intro @exS_nil <|
  And.intro @exS_c <|
  And.intro @exS_c_ret <|
  And.intro @exS_c_exit <|
  And.intro @exS_bl <|
  And.intro @exS_bl_ret <|
  And.intro @exS_bl_exit <|
  And.intro @exS_lp_ret <|
  And.intro @exS_lp_exit <|
  And.intro @evalOps_nil <|
  And.intro @evalOps_op <|
  And.intro @opS_false <|
  And.intro @opS_true <|
  And.intro @callR_none <|
  And.intro @callR_some <|
  And.intro @callRD_none <|
  And.intro @callRD_some <|
  And.intro @evalOps_guard <|
  And.intro @contOps_some <|
  And.intro @guardOps_some <|
  And.intro @evalD_nil <|
  And.intro @drawn_and <|
  And.intro @List.reverse_cons.{0} <|
  And.intro @List.reverse_nil.{0} <|
  And.intro @evalD_plain <|
  And.intro @evalD_guard <|
  And.intro @goD_op <|
  And.intro @opD_false <|
  And.intro @opD_true <|
  And.intro @contD_some <|
  @guardD_some
theorem stB : type_of% (
  And.intro @PO.isCall.eq_1 <|
  And.intro @PO.isCall.eq_2 <|
  And.intro @PO.isCall.eq_3 <|
  And.intro @PO.isCall.eq_4 <|
  And.intro @PO.isCall.eq_5 <|
  And.intro @PO.isCall.eq_6 <|
  And.intro @PO.isCall.eq_7 <|
  And.intro @PO.isCall.eq_8 <|
  And.intro @PO.isCall.eq_9 <|
  And.intro @PO.isCall.eq_10 <|
  And.intro @PO.isCall.eq_11 <|
  And.intro @PO.isCall.eq_12 <|
  And.intro @PO.isCall.eq_13 <|
  And.intro @PO.isCall.eq_14 <|
  And.intro @PO.isCall.eq_15 <|
  And.intro @PO.isCall.eq_16 <|
  And.intro @PO.isCall.eq_17 <|
  And.intro @PO.isCall.eq_18 <|
  And.intro @PO.isCall.eq_19 <|
  And.intro @PO.isCall.eq_20 <|
  And.intro @PO.isCall.eq_21 <|
  And.intro @PO.isCall.eq_22 <|
  And.intro @PO.isCall.eq_23 <|
  And.intro @PO.isCall.eq_24 <|
  And.intro @PO.isCall.eq_25 <|
  And.intro @PO.isCall.eq_26 <|
  And.intro @PO.isCall.eq_27 <|
  And.intro @PO.isCall.eq_28 <|
  And.intro @PO.isCall.eq_29 <|
  And.intro @PO.isCall.eq_30 <|
  And.intro @PO.isCall.eq_31 <|
  And.intro @PO.isCall.eq_32 <|
  And.intro @Option.getD_some.{0} <|
  And.intro @Option.getD_none.{0} <|
  And.intro @ap_sl <|
  And.intro @ap_sl0 <|
  And.intro @ap_gen <|
  And.intro @ap_genw <|
  And.intro @ap_genr <|
  And.intro @ap_genn <|
  And.intro @ap_ob <|
  And.intro @ap_obw <|
  And.intro @ap_obr <|
  And.intro @ap_obn <|
  And.intro @wrF_cells <|
  And.intro @rowF_row <|
  And.intro @init_sl <|
  And.intro @initSl.eq_1 <|
  And.intro @initSl.eq_2 <|
  And.intro @initSl.eq_3 <|
  And.intro @init_gen <|
  And.intro @init_ob <|
  And.intro @ev_t <|
  And.intro @ev_int <|
  And.intro @ev_bool <|
  And.intro @ev_string <|
  And.intro @ev_nil <|
  And.intro @ev_agg <|
  And.intro @ev_ptr <|
  And.intro @args_nil <|
  And.intro @args_cons <|
  And.intro @up_at <|
  And.intro @PO.fn.eq_1 <|
  And.intro @PO.fn.eq_2 <|
  And.intro @PO.fn.eq_3 <|
  And.intro @PO.fn.eq_4 <|
  And.intro @PO.fn.eq_5 <|
  And.intro @PO.fn.eq_6 <|
  And.intro @PO.fn.eq_7 <|
  And.intro @PO.fn.eq_8 <|
  And.intro @PO.fn.eq_9 <|
  And.intro @PO.fn.eq_10 <|
  And.intro @PO.fn.eq_11 <|
  And.intro @PO.fn.eq_12 <|
  And.intro @PO.fn.eq_13 <|
  And.intro @PO.fn.eq_14 <|
  And.intro @PO.fn.eq_15 <|
  And.intro @PO.fn.eq_16 <|
  And.intro @PO.fn.eq_17 <|
  And.intro @PO.fn.eq_18 <|
  And.intro @PO.fn.eq_23 <|
  And.intro @PO.fn.eq_24 <|
  And.intro @PO.fn.eq_25 <|
  And.intro @PO.fn.eq_26 <|
  And.intro @PO.fn.eq_27 <|
  And.intro @PO.fn.eq_28 <|
  And.intro @PO.fn.eq_29 <|
  And.intro @PO.fn.eq_30 <|
  And.intro @PO.fn.eq_31 <|
  And.intro @PO.fn.eq_32 <|
  And.intro @PO.fn.eq_33 <|
  And.intro @PO.fn.eq_34 <|
  And.intro @PO.fn.eq_35 <|
  And.intro @fn_not <|
  And.intro @fn_neg <|
  And.intro @fn_xor <|
  And.intro @unN.eq_1 <|
  And.intro @unG.eq_1 <|
  And.intro @unX.eq_1 <|
  And.intro @PO.rd.eq_1 <|
  And.intro @PO.rd.eq_2 <|
  And.intro @PO.rd.eq_3 <|
  And.intro @PO.rd.eq_4 <|
  And.intro @PO.rd.eq_5 <|
  And.intro @PO.rd.eq_6 <|
  And.intro @PO.rd.eq_7 <|
  And.intro @PO.rd.eq_8 <|
  And.intro @PO.rd.eq_9 <|
  And.intro @PO.rd.eq_10 <|
  And.intro @PO.rd.eq_11 <|
  And.intro @PO.rd.eq_12 <|
  And.intro @PO.rd.eq_13 <|
  And.intro @PO.rd.eq_14 <|
  And.intro @Cg.wrs.eq_1 <|
  And.intro @Cg.wrs.eq_2 <|
  And.intro @Cg.wrs.eq_3 <|
  And.intro @Cg.wrs.eq_4 <|
  And.intro @Cg.wrs.eq_5 <|
  And.intro @Cl.abOf.eq_1 <|
  And.intro @Cl.abOf.eq_2 <|
  And.intro @Cl.abOf.eq_3 <|
  And.intro @Cl.abOf.eq_4 <|
  And.intro @Cl.abOf.eq_5 <|
  And.intro @Cl.abOf.eq_6 <|
  And.intro @Cl.abOf.eq_7 <|
  And.intro @Cl.abOf.eq_8 <|
  And.intro @Bv.abOf.eq_1 <|
  And.intro @Bv.abOf.eq_2 <|
  And.intro @Av.abOf.eq_1 <|
  And.intro @Av.abOf.eq_2 <|
  And.intro @Av.abOf.eq_3 <|
  And.intro @recv_nil <|
  And.intro @recv_cons <|
  And.intro @abAt_ob <|
  And.intro @ap_genb <|
  And.intro @ap_obb <|
  And.intro @newAv.eq_1 <|
  And.intro @newAv.eq_2 <|
  And.intro @List.tail_cons.{0} <|
  And.intro @St.cl.eq_1 <|
  And.intro @St.val.eq_1 <|
  And.intro @St.int.eq_1 <|
  And.intro @St.boo.eq_1 <|
  And.intro @St.cs.eq_1 <|
  And.intro @St.parts.eq_1 <|
  And.intro @St.parts.eq_2 <|
  And.intro @scAv.eq_1 <|
  And.intro @Cl.rows.eq_1 <|
  And.intro @Cl.rows.eq_2 <|
  And.intro @Cl.rows.eq_3 <|
  And.intro @Cl.rows.eq_4 <|
  And.intro @Cl.rows.eq_5 <|
  And.intro @Cl.dt.eq_1 <|
  And.intro @Cl.dt.eq_2 <|
  And.intro @Cl.dt.eq_3 <|
  And.intro @Cl.dt.eq_4 <|
  And.intro @Cl.dt.eq_5 <|
  And.intro @Bv.pa.eq_1 <|
  And.intro @Bv.pa.eq_2 <|
  And.intro @Av.pa.eq_1 <|
  And.intro @Av.pa.eq_2 <|
  And.intro @Pa.bv.eq_1 <|
  And.intro @Pa.bv.eq_2 <|
  And.intro @resAv.eq_1 <|
  And.intro @resAv.eq_2 <|
  And.intro @resAv.eq_3 <|
  And.intro @allSome.eq_1 <|
  And.intro @allSome.eq_2 <|
  And.intro @allSome.eq_3 <|
  And.intro @mkAv.eq_1 <|
  And.intro @mkAv.eq_2 <|
  And.intro @wrAt.eq_1 <|
  And.intro @wrAt.eq_2 <|
  And.intro @wrAt.eq_3 <|
  And.intro @wrAt.eq_4 <|
  And.intro @splice.eq_1 <|
  And.intro @fillAll.eq_1 <|
  And.intro @fillAll.eq_2 <|
  And.intro @chunks.eq_1 <|
  And.intro @chunks.eq_2 <|
  And.intro @scBin.eq_1 <|
  And.intro @scBin.eq_2 <|
  And.intro @scBin.eq_3 <|
  And.intro @scBin.eq_4 <|
  And.intro @scBin.eq_5 <|
  And.intro @scBin.eq_6 <|
  And.intro @scBin.eq_7 <|
  And.intro @scBin.eq_8 <|
  And.intro @scBin.eq_9 <|
  And.intro @scBin.eq_10 <|
  And.intro @scBin.eq_11 <|
  And.intro @scBin.eq_12 <|
  And.intro @scBin.eq_13 <|
  And.intro @scBin.eq_14 <|
  And.intro @scBin.eq_15 <|
  And.intro @scBin.eq_16 <|
  And.intro @scBin.eq_17 <|
  And.intro @scBin.eq_18 <|
  And.intro @scBin.eq_19 <|
  And.intro @scBin.eq_20 <|
  And.intro @scBin.eq_21 <|
  And.intro @scBin.eq_22 <|
  And.intro @eqCl.eq_1 <|
  And.intro @eqCl.eq_2 <|
  And.intro @eqCl.eq_3 <|
  And.intro @eqCls.eq_1 <|
  And.intro @eqCls.eq_2 <|
  And.intro @eqCls.eq_3 <|
  And.intro @scMM.eq_1 <|
  And.intro @scMM.eq_2 <|
  And.intro @Option.map_some.{0,0} <|
  And.intro @Option.map_none.{0,0} <|
  And.intro @Option.bind_some.{0,0} <|
  And.intro @List.map_cons.{0,0} <|
  And.intro @List.map_nil.{0,0} <|
  And.intro @List.length_cons.{0} <|
  And.intro @List.length_nil.{0} <|
  And.intro @List.getElem?_cons_succ.{0} <|
  And.intro @List.getElem?_cons_zero.{0} <|
  And.intro @List.take_succ_cons.{0} <|
  And.intro @List.take_zero.{0} <|
  And.intro @List.drop_succ_cons.{0} <|
  And.intro @List.drop_zero.{0} <|
  And.intro @List.cons_append.{0} <|
  And.intro @List.nil_append.{0} <|
  And.intro @List.append_nil.{0} <|
  And.intro @if_true.{1} <|
  And.intro @if_false.{1} <|
  And.intro @ite_true.{1} <|
  And.intro @ite_false.{1} <|
  And.intro @ne_eq.{1} <|
  And.intro @not_true <|
  And.intro @not_false_eq_true <|
  And.intro @Nat.add_zero <|
  And.intro @Nat.zero_add <|
  And.intro @and_true <|
  And.intro @true_and <|
  And.intro @and_self <|
  And.intro @forall_const.{1} <|
  And.intro @forall_const.{0} <|
  And.intro @Bool.not_true <|
  And.intro @Bool.not_false <|
  And.intro @Nat.succ_eq_add_one <|
  And.intro @imp_false <|
  And.intro @false_imp_iff <|
  And.intro @forall_false <|
  And.intro @true_imp_iff <|
  And.intro @Bool.and_true <|
  And.intro @Bool.and_false <|
  And.intro @Bool.true_and <|
  And.intro @Bool.false_and <|
  And.intro @implies_true.{1} <|
  And.intro @implies_true.{0} <|
  And.intro @over_sl <|
  And.intro @over_gen <|
  And.intro @over_ob <|
  And.intro @List.contains_cons.{0} <|
  And.intro @List.contains_nil.{0} <|
  And.intro @Bool.or_false <|
  And.intro @Bool.or_true <|
  And.intro @Bool.false_or <|
  And.intro @Bool.true_or <|
  And.intro @cond_true.{1} <|
  And.intro @cond_false.{1} <|
  And.intro @Bool.cond_true.{0} <|
  And.intro @Bool.cond_false.{0} <|
  And.intro @Int.toNat_natCast <|
  And.intro @Int.natCast_nonneg <|
  And.intro @List.getElem?_map.{0,0} <|
  And.intro @List.length_map.{0,0} <|
  And.intro @List.mem_cons.{0} <|
  And.intro @List.not_mem_nil.{0} <|
  And.intro @forall_eq.{1} <|
  And.intro @forall_eq_or_imp.{1} <|
  And.intro @false_or <|
  And.intro @or_true <|
  And.intro @true_or <|
  And.intro @or_false <|
  And.intro @St.res.eq_1 <|
  And.intro @St.res1.eq_1 <|
  And.intro @St.res1.eq_2 <|
  And.intro @decide_eq_true_eq <|
  @decide_eq_false_iff_not) :=
  And.intro @PO.isCall.eq_1 <|
  And.intro @PO.isCall.eq_2 <|
  And.intro @PO.isCall.eq_3 <|
  And.intro @PO.isCall.eq_4 <|
  And.intro @PO.isCall.eq_5 <|
  And.intro @PO.isCall.eq_6 <|
  And.intro @PO.isCall.eq_7 <|
  And.intro @PO.isCall.eq_8 <|
  And.intro @PO.isCall.eq_9 <|
  And.intro @PO.isCall.eq_10 <|
  And.intro @PO.isCall.eq_11 <|
  And.intro @PO.isCall.eq_12 <|
  And.intro @PO.isCall.eq_13 <|
  And.intro @PO.isCall.eq_14 <|
  And.intro @PO.isCall.eq_15 <|
  And.intro @PO.isCall.eq_16 <|
  And.intro @PO.isCall.eq_17 <|
  And.intro @PO.isCall.eq_18 <|
  And.intro @PO.isCall.eq_19 <|
  And.intro @PO.isCall.eq_20 <|
  And.intro @PO.isCall.eq_21 <|
  And.intro @PO.isCall.eq_22 <|
  And.intro @PO.isCall.eq_23 <|
  And.intro @PO.isCall.eq_24 <|
  And.intro @PO.isCall.eq_25 <|
  And.intro @PO.isCall.eq_26 <|
  And.intro @PO.isCall.eq_27 <|
  And.intro @PO.isCall.eq_28 <|
  And.intro @PO.isCall.eq_29 <|
  And.intro @PO.isCall.eq_30 <|
  And.intro @PO.isCall.eq_31 <|
  And.intro @PO.isCall.eq_32 <|
  And.intro @Option.getD_some.{0} <|
  And.intro @Option.getD_none.{0} <|
  And.intro @ap_sl <|
  And.intro @ap_sl0 <|
  And.intro @ap_gen <|
  And.intro @ap_genw <|
  And.intro @ap_genr <|
  And.intro @ap_genn <|
  And.intro @ap_ob <|
  And.intro @ap_obw <|
  And.intro @ap_obr <|
  And.intro @ap_obn <|
  And.intro @wrF_cells <|
  And.intro @rowF_row <|
  And.intro @init_sl <|
  And.intro @initSl.eq_1 <|
  And.intro @initSl.eq_2 <|
  And.intro @initSl.eq_3 <|
  And.intro @init_gen <|
  And.intro @init_ob <|
  And.intro @ev_t <|
  And.intro @ev_int <|
  And.intro @ev_bool <|
  And.intro @ev_string <|
  And.intro @ev_nil <|
  And.intro @ev_agg <|
  And.intro @ev_ptr <|
  And.intro @args_nil <|
  And.intro @args_cons <|
  And.intro @up_at <|
  And.intro @PO.fn.eq_1 <|
  And.intro @PO.fn.eq_2 <|
  And.intro @PO.fn.eq_3 <|
  And.intro @PO.fn.eq_4 <|
  And.intro @PO.fn.eq_5 <|
  And.intro @PO.fn.eq_6 <|
  And.intro @PO.fn.eq_7 <|
  And.intro @PO.fn.eq_8 <|
  And.intro @PO.fn.eq_9 <|
  And.intro @PO.fn.eq_10 <|
  And.intro @PO.fn.eq_11 <|
  And.intro @PO.fn.eq_12 <|
  And.intro @PO.fn.eq_13 <|
  And.intro @PO.fn.eq_14 <|
  And.intro @PO.fn.eq_15 <|
  And.intro @PO.fn.eq_16 <|
  And.intro @PO.fn.eq_17 <|
  And.intro @PO.fn.eq_18 <|
  And.intro @PO.fn.eq_23 <|
  And.intro @PO.fn.eq_24 <|
  And.intro @PO.fn.eq_25 <|
  And.intro @PO.fn.eq_26 <|
  And.intro @PO.fn.eq_27 <|
  And.intro @PO.fn.eq_28 <|
  And.intro @PO.fn.eq_29 <|
  And.intro @PO.fn.eq_30 <|
  And.intro @PO.fn.eq_31 <|
  And.intro @PO.fn.eq_32 <|
  And.intro @PO.fn.eq_33 <|
  And.intro @PO.fn.eq_34 <|
  And.intro @PO.fn.eq_35 <|
  And.intro @fn_not <|
  And.intro @fn_neg <|
  And.intro @fn_xor <|
  And.intro @unN.eq_1 <|
  And.intro @unG.eq_1 <|
  And.intro @unX.eq_1 <|
  And.intro @PO.rd.eq_1 <|
  And.intro @PO.rd.eq_2 <|
  And.intro @PO.rd.eq_3 <|
  And.intro @PO.rd.eq_4 <|
  And.intro @PO.rd.eq_5 <|
  And.intro @PO.rd.eq_6 <|
  And.intro @PO.rd.eq_7 <|
  And.intro @PO.rd.eq_8 <|
  And.intro @PO.rd.eq_9 <|
  And.intro @PO.rd.eq_10 <|
  And.intro @PO.rd.eq_11 <|
  And.intro @PO.rd.eq_12 <|
  And.intro @PO.rd.eq_13 <|
  And.intro @PO.rd.eq_14 <|
  And.intro @Cg.wrs.eq_1 <|
  And.intro @Cg.wrs.eq_2 <|
  And.intro @Cg.wrs.eq_3 <|
  And.intro @Cg.wrs.eq_4 <|
  And.intro @Cg.wrs.eq_5 <|
  And.intro @Cl.abOf.eq_1 <|
  And.intro @Cl.abOf.eq_2 <|
  And.intro @Cl.abOf.eq_3 <|
  And.intro @Cl.abOf.eq_4 <|
  And.intro @Cl.abOf.eq_5 <|
  And.intro @Cl.abOf.eq_6 <|
  And.intro @Cl.abOf.eq_7 <|
  And.intro @Cl.abOf.eq_8 <|
  And.intro @Bv.abOf.eq_1 <|
  And.intro @Bv.abOf.eq_2 <|
  And.intro @Av.abOf.eq_1 <|
  And.intro @Av.abOf.eq_2 <|
  And.intro @Av.abOf.eq_3 <|
  And.intro @recv_nil <|
  And.intro @recv_cons <|
  And.intro @abAt_ob <|
  And.intro @ap_genb <|
  And.intro @ap_obb <|
  And.intro @newAv.eq_1 <|
  And.intro @newAv.eq_2 <|
  And.intro @List.tail_cons.{0} <|
  And.intro @St.cl.eq_1 <|
  And.intro @St.val.eq_1 <|
  And.intro @St.int.eq_1 <|
  And.intro @St.boo.eq_1 <|
  And.intro @St.cs.eq_1 <|
  And.intro @St.parts.eq_1 <|
  And.intro @St.parts.eq_2 <|
  And.intro @scAv.eq_1 <|
  And.intro @Cl.rows.eq_1 <|
  And.intro @Cl.rows.eq_2 <|
  And.intro @Cl.rows.eq_3 <|
  And.intro @Cl.rows.eq_4 <|
  And.intro @Cl.rows.eq_5 <|
  And.intro @Cl.dt.eq_1 <|
  And.intro @Cl.dt.eq_2 <|
  And.intro @Cl.dt.eq_3 <|
  And.intro @Cl.dt.eq_4 <|
  And.intro @Cl.dt.eq_5 <|
  And.intro @Bv.pa.eq_1 <|
  And.intro @Bv.pa.eq_2 <|
  And.intro @Av.pa.eq_1 <|
  And.intro @Av.pa.eq_2 <|
  And.intro @Pa.bv.eq_1 <|
  And.intro @Pa.bv.eq_2 <|
  And.intro @resAv.eq_1 <|
  And.intro @resAv.eq_2 <|
  And.intro @resAv.eq_3 <|
  And.intro @allSome.eq_1 <|
  And.intro @allSome.eq_2 <|
  And.intro @allSome.eq_3 <|
  And.intro @mkAv.eq_1 <|
  And.intro @mkAv.eq_2 <|
  And.intro @wrAt.eq_1 <|
  And.intro @wrAt.eq_2 <|
  And.intro @wrAt.eq_3 <|
  And.intro @wrAt.eq_4 <|
  And.intro @splice.eq_1 <|
  And.intro @fillAll.eq_1 <|
  And.intro @fillAll.eq_2 <|
  And.intro @chunks.eq_1 <|
  And.intro @chunks.eq_2 <|
  And.intro @scBin.eq_1 <|
  And.intro @scBin.eq_2 <|
  And.intro @scBin.eq_3 <|
  And.intro @scBin.eq_4 <|
  And.intro @scBin.eq_5 <|
  And.intro @scBin.eq_6 <|
  And.intro @scBin.eq_7 <|
  And.intro @scBin.eq_8 <|
  And.intro @scBin.eq_9 <|
  And.intro @scBin.eq_10 <|
  And.intro @scBin.eq_11 <|
  And.intro @scBin.eq_12 <|
  And.intro @scBin.eq_13 <|
  And.intro @scBin.eq_14 <|
  And.intro @scBin.eq_15 <|
  And.intro @scBin.eq_16 <|
  And.intro @scBin.eq_17 <|
  And.intro @scBin.eq_18 <|
  And.intro @scBin.eq_19 <|
  And.intro @scBin.eq_20 <|
  And.intro @scBin.eq_21 <|
  And.intro @scBin.eq_22 <|
  And.intro @eqCl.eq_1 <|
  And.intro @eqCl.eq_2 <|
  And.intro @eqCl.eq_3 <|
  And.intro @eqCls.eq_1 <|
  And.intro @eqCls.eq_2 <|
  And.intro @eqCls.eq_3 <|
  And.intro @scMM.eq_1 <|
  And.intro @scMM.eq_2 <|
  And.intro @Option.map_some.{0,0} <|
  And.intro @Option.map_none.{0,0} <|
  And.intro @Option.bind_some.{0,0} <|
  And.intro @List.map_cons.{0,0} <|
  And.intro @List.map_nil.{0,0} <|
  And.intro @List.length_cons.{0} <|
  And.intro @List.length_nil.{0} <|
  And.intro @List.getElem?_cons_succ.{0} <|
  And.intro @List.getElem?_cons_zero.{0} <|
  And.intro @List.take_succ_cons.{0} <|
  And.intro @List.take_zero.{0} <|
  And.intro @List.drop_succ_cons.{0} <|
  And.intro @List.drop_zero.{0} <|
  And.intro @List.cons_append.{0} <|
  And.intro @List.nil_append.{0} <|
  And.intro @List.append_nil.{0} <|
  And.intro @if_true.{1} <|
  And.intro @if_false.{1} <|
  And.intro @ite_true.{1} <|
  And.intro @ite_false.{1} <|
  And.intro @ne_eq.{1} <|
  And.intro @not_true <|
  And.intro @not_false_eq_true <|
  And.intro @Nat.add_zero <|
  And.intro @Nat.zero_add <|
  And.intro @and_true <|
  And.intro @true_and <|
  And.intro @and_self <|
  And.intro @forall_const.{1} <|
  And.intro @forall_const.{0} <|
  And.intro @Bool.not_true <|
  And.intro @Bool.not_false <|
  And.intro @Nat.succ_eq_add_one <|
  And.intro @imp_false <|
  And.intro @false_imp_iff <|
  And.intro @forall_false <|
  And.intro @true_imp_iff <|
  And.intro @Bool.and_true <|
  And.intro @Bool.and_false <|
  And.intro @Bool.true_and <|
  And.intro @Bool.false_and <|
  And.intro @implies_true.{1} <|
  And.intro @implies_true.{0} <|
  And.intro @over_sl <|
  And.intro @over_gen <|
  And.intro @over_ob <|
  And.intro @List.contains_cons.{0} <|
  And.intro @List.contains_nil.{0} <|
  And.intro @Bool.or_false <|
  And.intro @Bool.or_true <|
  And.intro @Bool.false_or <|
  And.intro @Bool.true_or <|
  And.intro @cond_true.{1} <|
  And.intro @cond_false.{1} <|
  And.intro @Bool.cond_true.{0} <|
  And.intro @Bool.cond_false.{0} <|
  And.intro @Int.toNat_natCast <|
  And.intro @Int.natCast_nonneg <|
  And.intro @List.getElem?_map.{0,0} <|
  And.intro @List.length_map.{0,0} <|
  And.intro @List.mem_cons.{0} <|
  And.intro @List.not_mem_nil.{0} <|
  And.intro @forall_eq.{1} <|
  And.intro @forall_eq_or_imp.{1} <|
  And.intro @false_or <|
  And.intro @or_true <|
  And.intro @true_or <|
  And.intro @or_false <|
  And.intro @St.res.eq_1 <|
  And.intro @St.res1.eq_1 <|
  And.intro @St.res1.eq_2 <|
  And.intro @decide_eq_true_eq <|
  @decide_eq_false_iff_not
end Go.Proofs.Ytkdagjlkejefnaa
end
section
set_option linter.unusedSimpArgs false
set_option linter.unusedVariables false
namespace Go.Proofs.Ytkdagjlkejefnaa
open Go Go.RowKit

/-- nothing is asked of the world -/
instance : WInv := ⟨fun _ => True, fun _ _ _ _ => trivial⟩
abbrev dI (n : Int) : Dt := .sc (.int .i64 n)
abbrev dB (b : Bool) : Dt := .sc (.bool b)
abbrev aI (n : Int) : Av := .b (.one (.d (.sc (.int .i64 n))))
abbrev aB (b : Bool) : Av := .b (.one (.d (.sc (.bool b))))
abbrev pI (n : Int) : Pa := .one (.sc (.int .i64 n))
abbrev pB (b : Bool) : Pa := .one (.sc (.bool b))
def Ev.row (e : Ev) : List Dt := [dI e.g, dI e.kind, dI e.obj, dI e.off, dI e.k, dI e.n, dI e.fn, dI e.pc, dI e.stack]
def Ev.pa (e : Ev) : Pa := .agg e.row
def evsD (l : List Ev) : Dt := .im (l.map Ev.row)
def evsPa (l : List Ev) : Pa := .one (evsD l)

structure RCh where
  obj : Int
  n : Int
  sent : Int
  recv : Int
  closed : Bool
def RCh.row (c : RCh) : List Dt := [dI c.obj, dI c.n, dI c.sent, dI c.recv, dB c.closed]
structure RLk where
  obj : Int
  off : Int
  locked : Bool
  readers : Int
def RLk.row (c : RLk) : List Dt := [dI c.obj, dI c.off, dB c.locked, dI c.readers]
def locRow (p : Int × Int) : List Dt := [dI p.1, dI p.2]
structure RWt where
  kind : Int
  g : Int
  not : Int
def RWt.row (c : RWt) : List Dt := [dI c.kind, dI c.g, dI c.not]
structure RSt where
  count : Int
  gor : Int
  chans : List RCh
  locks : List RLk
  done : List (Int × Int)
  next : List RWt
  obj : Int
  k : Int
  n : Int
def RSt.row (s : RSt) : List Dt := [dI s.count, dI s.gor, .im (s.chans.map RCh.row), .im (s.locks.map RLk.row), .im (s.done.map locRow), .im (s.next.map RWt.row), dI s.obj, dI s.k, dI s.n]
def RSt.pa (s : RSt) : Pa := .agg s.row
/-- what bounds the numbers of a state -/
structure RSt.ok (s : RSt) : Prop where
  ct : 0 ≤ s.count ∧ s.count ≤ 1000000
  gr : 0 ≤ s.gor ∧ s.gor ≤ 1000000
  ch : s.chans.length ≤ 900000 ∧ ∀ c, c ∈ s.chans → (0 ≤ c.sent ∧ c.sent ≤ 1000000) ∧ (0 ≤ c.recv ∧ c.recv ≤ 1000000)
  lk : s.locks.length ≤ 900000 ∧ ∀ c, c ∈ s.locks → 0 ≤ c.readers ∧ c.readers ≤ 1000000
  dn : s.done.length ≤ 900000
  nx : s.next.length ≤ 900000

def RSt.new : RSt := ⟨0, 1, [], [], [], [], 0, 0, 0⟩
def RSt.channel (s : RSt) (obj n : Int) : RCh := (s.chans.find? (fun c => c.obj == obj)).getD ⟨obj, n, 0, 0, false⟩
def RSt.setChannel (s : RSt) (c : RCh) : RSt := { s with chans := s.chans.filter (fun d => d.obj != c.obj) ++ [c] }
def RSt.lock (s : RSt) (obj off : Int) : RLk := (s.locks.find? (fun c => c.obj == obj && c.off == off)).getD ⟨obj, off, false, 0⟩
def RSt.setLock (s : RSt) (c : RLk) : RSt := { s with locks := s.locks.filter (fun d => d.obj != c.obj || d.off != c.off) ++ [c] }
def RSt.isDone (s : RSt) (obj off : Int) : Bool := s.done.any (fun c => c.1 == obj && c.2 == off)
def RCh.count (c : RCh) (kind : Int) : RCh := if kind = 15 then { c with sent := c.sent + 1 } else if kind = 17 then { c with recv := c.recv + 1 } else c
def RSt.counted (s : RSt) (e : Ev) : RSt := if e.kind = 15 ∨ e.kind = 17 then s.setChannel ((s.channel e.obj e.n).count e.kind) else s
def RSt.begin (s : RSt) (e : Ev) (next : List RWt) : RSt := RSt.counted { s with next := next, obj := e.obj, k := e.k, n := e.n } e

/-- does the event go with what a group wants next -/
def RSt.fits (s : RSt) (w : RWt) (e : Ev) : Bool := !((e.kind != w.kind || (e.obj != s.obj || (e.k != s.k || (e.n != s.n || (decide (0 ≤ w.g) && e.g != w.g))))) || (decide (w.g < 0) && e.g == w.not))
def RWt.known (w : RWt) (g : Int) (x : RWt) : RWt := if w.g < 0 ∧ x.g < 0 then { x with g := g } else x
def RSt.groupR (s : RSt) (e : Ev) : RSt × Bool := match s.next with
  | [] => (s, false)
  | w :: rest => if s.fits w e = true then (RSt.counted { s with next := rest.map (w.known e.g) } e, true) else (s, false)
def RSt.transferR (s : RSt) (e : Ev) : RSt × Bool :=
  if (s.channel e.obj e.n).n ≠ e.n then (s, false)
  else if e.kind = 15 then
    if e.k ≠ (s.channel e.obj e.n).sent then (s, false)
    else if (s.channel e.obj e.n).closed = true then (s, false)
    else if 0 < (s.channel e.obj e.n).n ∧ (s.channel e.obj e.n).sent - (s.channel e.obj e.n).recv < (s.channel e.obj e.n).n then (s.begin e [⟨16, e.g, 0⟩], true)
    else if (s.channel e.obj e.n).n = 0 ∧ 1 < s.gor then (s.begin e [⟨17, -1, e.g⟩, ⟨18, -1, 0⟩, ⟨16, e.g, 0⟩], true)
    else (s, false)
  else if e.kind = 17 then
    if e.k ≠ (s.channel e.obj e.n).recv then (s, false)
    else if (s.channel e.obj e.n).recv < (s.channel e.obj e.n).sent then (s.begin e [⟨18, e.g, 0⟩], true)
    else if (s.channel e.obj e.n).closed = false ∧ 1 < s.gor then (s.begin e [⟨15, -1, e.g⟩, ⟨18, e.g, 0⟩, ⟨16, -1, 0⟩], true)
    else (s, false)
  else if e.kind = 19 then
    if (s.channel e.obj e.n).closed = true then (s, false) else (s.setChannel { s.channel e.obj e.n with closed := true }, true)
  else if e.kind = 20 then (s, (s.channel e.obj e.n).closed && (s.channel e.obj e.n).sent == (s.channel e.obj e.n).recv)
  else (s, false)
def RSt.otherR (s : RSt) (e : Ev) : RSt × Bool :=
  if e.kind = 6 then (s.setLock { s.lock e.obj e.off with locked := true }, !(s.lock e.obj e.off).locked && (s.lock e.obj e.off).readers == 0)
  else if e.kind = 7 then (s.setLock { s.lock e.obj e.off with locked := false }, (s.lock e.obj e.off).locked)
  else if e.kind = 8 then (s.setLock { s.lock e.obj e.off with readers := (s.lock e.obj e.off).readers + 1 }, !(s.lock e.obj e.off).locked)
  else if e.kind = 9 then (s.setLock { s.lock e.obj e.off with readers := (s.lock e.obj e.off).readers - 1 }, decide (0 ≤ (s.lock e.obj e.off).readers - 1))
  else if e.kind = 12 then ({ s with done := s.done ++ [(e.obj, e.off)] }, !s.isDone e.obj e.off)
  else if e.kind = 13 then (s, s.isDone e.obj e.off)
  else if e.kind = 14 then ({ s with gor := s.gor + 1 }, e.k == s.gor)
  else (s, true)
def RSt.partR (s : RSt) (e : Ev) : RSt × Bool := if 0 < s.next.length then s.groupR e else if chanB e.kind = true then s.transferR e else s.otherR e
def RSt.admits (s : RSt) (e : Ev) : Bool := e.valid && decide (s.count < 5000) && decide (e.g < s.gor)
def RSt.addR (s : RSt) (e : Ev) : RSt × Bool :=
  if s.admits e = true ∧ (s.partR e).2 = true then ({ (s.partR e).1 with count := (s.partR e).1.count + 1 }, true) else (s, false)

theorem find_hit {α : Type} {l : List α} {p : α → Bool} {k : Nat} {c : α} (hno : ∀ i c, i < k → l[i]? = some c → p c = false) (hc : l[k]? = some c) (he : p c = true) : l.find? p = some c := by
  rw [List.find?_eq_some_iff_getElem]
  refine ⟨he, k, (List.getElem?_eq_some_iff.1 hc).1, (List.getElem?_eq_some_iff.1 hc).2, fun j hj => ?_⟩
  have h1 := List.getElem?_eq_getElem (show j < l.length by have := (List.getElem?_eq_some_iff.1 hc).1; omega)
  rw [hno j _ hj h1]; rfl
theorem find_miss {α : Type} {l : List α} {p : α → Bool} (hno : ∀ i c, i < l.length → l[i]? = some c → p c = false) : l.find? p = none := by
  rw [List.find?_eq_none]
  intro c hc
  obtain ⟨i, hi, rfl⟩ := List.getElem_of_mem hc
  rw [hno i _ hi (List.getElem?_eq_getElem hi)]; decide
theorem no_succ {α : Type} {l : List α} {p : α → Bool} {k : Nat} {c : α} (hno : ∀ i c, i < k → l[i]? = some c → p c = false) (hc : l[k]? = some c) (he : p c = false) : ∀ i c, i < k + 1 → l[i]? = some c → p c = false := by
  intro i c' hi hc'
  rcases Nat.lt_or_eq_of_le (Nat.le_of_lt_succ hi) with h | h
  · exact hno i c' h hc'
  · subst h; rw [hc] at hc'; cases hc'; exact he
theorem any_miss {α : Type} {l : List α} {p : α → Bool} (hno : ∀ i c, i < l.length → l[i]? = some c → p c = false) : l.any p = false := by
  rw [List.any_eq_false]
  intro c hc
  obtain ⟨i, hi, rfl⟩ := List.getElem_of_mem hc
  rw [hno i _ hi (List.getElem?_eq_getElem hi)]; decide
theorem filter_succ {α : Type} {l : List α} {p : α → Bool} {k : Nat} {c : α} (hc : l[k]? = some c) : (l.take (k + 1)).filter p = (l.take k).filter p ++ (if p c = true then [c] else []) := by
  obtain ⟨hk, rfl⟩ := List.getElem?_eq_some_iff.1 hc
  rw [List.take_succ_eq_append_getElem hk, List.filter_append]
  congr 1
  cases h : p l[k] <;> simp [h]
theorem filter_take_le {α : Type} (l : List α) (p : α → Bool) (k : Nat) : ((l.take k).filter p).length ≤ k :=
  Nat.le_trans (List.length_filter_le _ _) (List.length_take_le _ _)

theorem rows_len {α : Type} {f : α → List Dt} {n : Nat} (h : ∀ x, (f x).length = n) (l : List α) : (∀ r, r ∈ l.map f → r.length = n) = True := by
  apply propext
  refine ⟨fun _ => trivial, fun _ r hr => ?_⟩
  obtain ⟨x, _, rfl⟩ := List.mem_map.1 hr
  exact h x
end Go.Proofs.Ytkdagjlkejefnaa
end
section
set_option linter.unusedSimpArgs false
set_option linter.unusedVariables false
namespace Go.Proofs.Ytkdagjlkejefnaa
open Go.RowKit Go.WideShapes Go.ChangeShapes Go.Deep

section
variable {H : Type} {enc : TypeId × Value → H} {P : Program} {w : World} {base : Nat} {spare : Nat → Bool} {held : Bool}
theorem open_slice_fields {t e : TypeId} {fs : Array Field} {fuel : Nat} {cs : List Value} {x : DataW H × List MemPlace} (ht : P.underlying t = some (.slice e)) (he : P.underlying e = some (.struct fs))
    (hone : oneCellFields P fs = true) (hC : P.cellsOf e = fs.size) (h : DataW.trod enc P w base spare held fuel t cs = some x) :
    (cs = [.slice none 0 0] ∧ x = (.nil, [])) ∨
    ∃ (a : Addr) (len cap m : Nat) (D : Nat → DataW H) (Pl : Nat → List MemPlace), cs = [.slice (some a) len cap] ∧ base ≤ a.block ∧ len ≤ cap ∧ cap ≤ maxLen ∧ m = (if spare a.block then cap else len) ∧
      x = (.slice ((List.range len).map D) ((List.range (m - len)).map fun j => D (len + j)), MemPlace.row a (m * fs.size) ++ (List.range m).flatMap Pl) ∧
      ∀ i, i < m → ∃ (ys : List (DataW H × List MemPlace)) (n : Nat), D i = .agg (ys.map (·.1)) ∧ Pl i = ys.flatMap (·.2) ∧ ys.length = fs.size ∧
        ∀ (j : Nat) (f : Field), fs[j]? = some f → ∃ (v : Value) (y : DataW H × List MemPlace), w.cell? (a.add (i * fs.size + j)) = some v ∧ ys[j]? = some y ∧ DataW.trod enc P w base spare held n f.type [v] = some y := by
  rcases open_slice ht h with h0 | ⟨a, len, cap, m, n, D, Pl, hcs, hb, hl, hm, hmm, hx, hi⟩
  · exact .inl h0
  · refine .inr ⟨a, len, cap, m, D, Pl, hcs, hb, hl, hm, hmm, by rw [hC] at hx; exact hx, fun i him => ?_⟩
    obtain ⟨cs', hc, ht'⟩ := hi i him
    rw [hC] at hc
    obtain ⟨ys, n', hn', hy, hlen, hyl, hf⟩ := DataW.trod_struct he ht'
    obtain ⟨_, hcl, hat⟩ := World.cells?_some hc
    simp only [Prod.mk.injEq] at hy
    refine ⟨ys, n', hy.1, hy.2, hyl, fun j f hj => ?_⟩
    obtain ⟨ho, hk⟩ := hone_of hone j f hj
    have hjl : j < fs.size := (Array.getElem?_eq_some_iff.1 hj).1
    have hcell := hat j hjl
    have hv : cs'[j]? = some (cs'[j]'(by omega)) := List.getElem?_eq_getElem (by omega)
    have h1 := hf j f hj
    rw [ho, hk] at h1
    have hone' : (cs'.drop j).take 1 = [cs'[j]'(by omega)] := by
      rw [List.drop_eq_getElem_cons (by omega)]
      rfl
    rw [hone'] at h1
    have hys : ys[j]? = some (ys[j]'(by omega)) := List.getElem?_eq_getElem (by omega)
    refine ⟨_, _, ?_, hys, h1.trans hys⟩
    rw [← Go.Deep.add_add, hcell, hv]
end

theorem Try.laidOut : laidOutB Try.prog = true := by kernel_rfl
theorem Try.own : ownKnob Try.prog.godebug = none := by kernel_rfl

theorem trod_int_field {H : Type} {enc : TypeId × Value → H} {P : Program} {w : World} {base n : Nat} {spare : Nat → Bool} {held : Bool} {t : TypeId} (ht : P.underlying t = some (.int .i64)) {v : Value} {y : DataW H × List MemPlace} (h : DataW.trod enc P w base spare held n t [v] = some y) : ∃ x, v = .int .i64 x ∧ (Lit.int .i64 x).wf = true := by
  obtain ⟨x, hx, _, hw⟩ := DataW.trod_int ht h
  simp at hx
  exact ⟨x, hx, hw⟩

theorem i64_of_wf {x : Int} (h : (Lit.int .i64 x).wf = true) : -9223372036854775808 ≤ x ∧ x ≤ 9223372036854775807 := by
  simp [Lit.wf, IntKind.min, IntKind.max, IntKind.signed, IntKind.bits] at h
  omega

set_option maxRecDepth 100000 in
set_option maxHeartbeats 1000000 in
theorem open_events {H : Type} {enc : TypeId × Value → H} {w : World} {r : Reach} {b0 : Nat} {v : Value} {d : DataW H} {ps : List MemPlace}
    (hv : Value.okWide Try.prog w r b0 22 v) (h : DataW.Trod enc Try.prog w 0 (fun _ => true) true 22 v d ps) : ∃ l : List Ev, EvAt w v l ∧ ∀ e ∈ l, ∀ x ∈ e.cells, ∃ n : Int, x = .int .i64 n ∧ (-9223372036854775808 ≤ n ∧ n ≤ 9223372036854775807) := by
  obtain ⟨a, len, cap, rfl⟩ := okWide_slice Try.underlying22 hv
  obtain ⟨fuel, hf⟩ := h
  rcases open_slice_fields Try.underlying22 Try.underlying31 (by kernel_rfl) (by kernel_rfl) hf with ⟨hcs, _⟩ | ⟨A, n, c, m, D, Pl, hcs, _, hnc, hcm, hm, _, hi⟩
  · simp [Value.cells] at hcs
    obtain ⟨rfl, rfl, rfl⟩ := hcs
    exact ⟨[], ⟨none, 0, rfl, Nat.le_refl _, by omega, fun hh => absurd hh (by decide)⟩, fun e he => by cases he⟩
  · simp [Value.cells] at hcs
    obtain ⟨rfl, rfl, rfl⟩ := hcs
    have hev : ∀ i, ∃ e : Ev, i < cap → (∀ j x, e.cells[j]? = some x → w.cell? (A.add (i * 9 + j)) = some x) ∧ ∀ x ∈ e.cells, ∃ n : Int, x = .int .i64 n ∧ (-9223372036854775808 ≤ n ∧ n ≤ 9223372036854775807) := by
      intro i
      by_cases him : i < cap
      case neg => exact ⟨⟨0, 0, 0, 0, 0, 0, 0, 0, 0⟩, fun hh => absurd hh him⟩
      obtain ⟨ys, n', _, _, _, hf'⟩ := hi i (by simpa [hm] using him)
      obtain ⟨c0, y0, r0, _, t0⟩ := hf' 0 _ rfl
      obtain ⟨x0, rfl, b0⟩ := trod_int_field Try.underlying3 t0
      obtain ⟨c1, y1, r1, _, t1⟩ := hf' 1 _ rfl
      obtain ⟨x1, rfl, b1⟩ := trod_int_field Try.underlying3 t1
      obtain ⟨c2, y2, r2, _, t2⟩ := hf' 2 _ rfl
      obtain ⟨x2, rfl, b2⟩ := trod_int_field Try.underlying3 t2
      obtain ⟨c3, y3, r3, _, t3⟩ := hf' 3 _ rfl
      obtain ⟨x3, rfl, b3⟩ := trod_int_field Try.underlying3 t3
      obtain ⟨c4, y4, r4, _, t4⟩ := hf' 4 _ rfl
      obtain ⟨x4, rfl, b4⟩ := trod_int_field Try.underlying3 t4
      obtain ⟨c5, y5, r5, _, t5⟩ := hf' 5 _ rfl
      obtain ⟨x5, rfl, b5⟩ := trod_int_field Try.underlying3 t5
      obtain ⟨c6, y6, r6, _, t6⟩ := hf' 6 _ rfl
      obtain ⟨x6, rfl, b6⟩ := trod_int_field Try.underlying3 t6
      obtain ⟨c7, y7, r7, _, t7⟩ := hf' 7 _ rfl
      obtain ⟨x7, rfl, b7⟩ := trod_int_field Try.underlying3 t7
      obtain ⟨c8, y8, r8, _, t8⟩ := hf' 8 _ rfl
      obtain ⟨x8, rfl, b8⟩ := trod_int_field Try.underlying3 t8
      refine ⟨⟨x0, x1, x2, x3, x4, x5, x6, x7, x8⟩, fun _ => ⟨fun j x hx => ?_, fun x hx => ?_⟩⟩
      · match j, hx with
        | 0, hx => cases hx; exact r0
        | 1, hx => cases hx; exact r1
        | 2, hx => cases hx; exact r2
        | 3, hx => cases hx; exact r3
        | 4, hx => cases hx; exact r4
        | 5, hx => cases hx; exact r5
        | 6, hx => cases hx; exact r6
        | 7, hx => cases hx; exact r7
        | 8, hx => cases hx; exact r8
        | j + 9, hx => simp [Ev.cells] at hx
      · simp only [Ev.cells, List.mem_cons, List.not_mem_nil, or_false] at hx
        rcases hx with rfl | rfl | rfl | rfl | rfl | rfl | rfl | rfl | rfl
        · exact ⟨x0, rfl, i64_of_wf b0⟩
        · exact ⟨x1, rfl, i64_of_wf b1⟩
        · exact ⟨x2, rfl, i64_of_wf b2⟩
        · exact ⟨x3, rfl, i64_of_wf b3⟩
        · exact ⟨x4, rfl, i64_of_wf b4⟩
        · exact ⟨x5, rfl, i64_of_wf b5⟩
        · exact ⟨x6, rfl, i64_of_wf b6⟩
        · exact ⟨x7, rfl, i64_of_wf b7⟩
        · exact ⟨x8, rfl, i64_of_wf b8⟩
    obtain ⟨f, hf2⟩ := Classical.skolem.1 hev
    refine ⟨(List.range len).map f, ⟨some A, cap, by simp, by simp; omega, by unfold maxLen at hcm; omega, fun hn => ?_⟩, fun e he x hx => ?_⟩
    · have hn' : 0 < len := by simpa using hn
      have h00 := (hf2 0 (by omega)).1 0 _ rfl
      have hsp := World.cell?_spot h00
      obtain ⟨b, o, sp⟩ := A
      simp [Addr.add] at hsp
      subst hsp
      refine ⟨b, o, rfl, fun i e hi' j x hx => ?_⟩
      simp only [List.getElem?_map] at hi'
      have hin : i < len := by
        rcases Nat.lt_or_ge i len with h1 | h1
        · exact h1
        · rw [List.getElem?_eq_none (by simpa using h1)] at hi'; cases hi'
      rw [List.getElem?_range hin] at hi'
      simp at hi'; subst hi'
      have := (hf2 i (by omega)).1 j x hx
      unfold Addr.add at this
      split at this
      · rename_i h0; rw [h0]; exact this
      · exact this
    · obtain ⟨i, hi1, rfl⟩ := List.mem_map.1 he
      exact (hf2 i (by have := List.mem_range.1 hi1; omega)).2 x hx
end Go.Proofs.Ytkdagjlkejefnaa
end
section
set_option linter.unusedSimpArgs false
set_option linter.unusedVariables false
namespace Go.Proofs.Ytkdagjlkejefnaa
open Go Go.RowKit

theorem Ev.row_cell {e : Ev} {j : Nat} {x : Value} (h : e.cells[j]? = some x) : e.row[j]? = some (.sc x) := by
  show (e.cells.map Dt.sc)[j]? = _
  rw [List.getElem?_map, h]; rfl
/-- events as data are events in the world -/
theorem RD.evs {S : Nat → Nat} {w : World} {l : List Ev} {v : Value} (h : RD S w (evsD l) v) : EvAt w v l := by
  unfold evsD at h
  generalize hr : l.map Ev.row = rows at h
  cases h with
  | emp A c hc =>
    cases l with
    | nil => exact ⟨A, c, rfl, Nat.zero_le _, by unfold maxLen at hc; omega, fun h => absurd h (by decide)⟩
    | cons e l => simp at hr
  | im rows sz b o cap f hc hm hsz hcell hd =>
    have hlen : l.length = rows.length := by rw [← hr]; simp
    refine ⟨_, cap, by rw [hlen], by omega, by unfold maxLen at hm; omega, fun hpos => ⟨b, o, rfl, fun i e hi j x hx => ?_⟩⟩
    have hil := (List.getElem?_eq_some_iff.1 hi).1
    have hrow : rows[i]? = some e.row := by rw [← hr, List.getElem?_map, hi]; rfl
    have h9 : 9 = sz := hsz _ (List.mem_of_getElem? hrow)
    have hj : j < 9 := (List.getElem?_eq_some_iff.1 hx).1
    have h1 := hd i _ j _ hrow (Ev.row_cell hx)
    have h2 := (hcell i j (by omega) (by omega)).1
    rw [(RD.sc_inv h1).1, ← h9] at h2
    exact h2
theorem flat_at' {α : Type} {cells : α → List Value} {sz : Nat} (hlen : ∀ e, (cells e).length = sz) (l : List α) (i : Nat) (e : α) (h : l[i]? = some e) (j : Nat) (x : Value) (hx : (cells e)[j]? = some x) : (l.flatMap cells)[i * sz + j]? = some x := by
  have hj : j < sz := by rw [← hlen e]; exact (List.getElem?_eq_some_iff.1 hx).1
  induction l generalizing i with
  | nil => cases h
  | cons a l ih =>
    rw [List.flatMap_cons]
    cases i with
    | zero =>
      simp at h; subst h
      rw [List.getElem?_append_left (by rw [hlen]; omega)]
      simpa using hx
    | succ i =>
      rw [List.getElem?_append_right (by rw [hlen, Nat.succ_mul]; omega), hlen, show (i + 1) * sz + j - sz = i * sz + j by rw [Nat.succ_mul]; omega]
      exact ih i (by simpa using h)
/-- a row of one's own reads as data -/
theorem rows_own {w : World} {B sz : Nat} {E : TypeId} {v : Value} {α : Type} (l : List α) (cells : α → List Value) (hsz : ∀ x, (cells x).length = sz) (hone : ∀ x u, u ∈ cells x → u.oneCell' = true) (h : w.ownsRow B E sz v l.length (l.flatMap cells)) (S : Nat → Nat) :
    ∃ S', RD S' w (.im (l.map fun x => (cells x).map Dt.sc)) v ∧ ∀ b, b < B → S' b = S b := by
  obtain ⟨h1, h2⟩ := h
  rcases h2 with ⟨rfl, h3⟩ | ⟨g, cap, cur, rfl, h3, h4, h5, h6, h7, h8⟩
  · have : l = [] := by cases l with
      | nil => rfl
      | cons a l => simp at h3
    subst this
    exact ⟨S, .emp _ _ (by unfold maxLen; omega), fun _ _ => rfl⟩
  · have key : ∀ i e, l[i]? = some e → ∀ j x, (cells e)[j]? = some x → w.cell? ⟨g, 0 + (i * sz + j), none⟩ = some x := fun i e hi j x hx => by
      rw [cell_of_row w g _ _ _ _ h4, Nat.zero_add]
      have hfl := flat_at' hsz l i e hi j x hx
      rw [← h8, List.getElem?_take] at hfl
      split at hfl
      · simpa using hfl
      · cases hfl
    refine ⟨fun b => if b = g then l.length * sz else S b, ?_, fun b hb => if_neg (by omega)⟩
    have hl : l.length = (l.map fun x => (cells x).map Dt.sc).length := by simp
    have hsl : Value.slice (some ⟨g, 0, none⟩) l.length cap = .slice (some ⟨g, 0, none⟩) (l.map fun x => (cells x).map Dt.sc).length cap := by rw [← hl]
    rw [hsl]
    refine RD.im _ sz g 0 cap (fun i j => (l.flatMap cells).getD (i * sz + j) undef) (by rw [← hl]; exact h5) h6 ?_ ?_ ?_
    · intro r hr
      obtain ⟨x, _, rfl⟩ := List.mem_map.1 hr
      simp [hsz]
    · intro i j hi hj
      rw [← hl] at hi
      have hil : l[i]? = some l[i] := List.getElem?_eq_getElem hi
      have hjl : (cells l[i])[j]? = some ((cells l[i])[j]'(by rw [hsz]; exact hj)) := List.getElem?_eq_getElem _
      have hfl := flat_at' hsz l i _ hil j _ hjl
      refine ⟨?_, ?_⟩
      · rw [key i _ hil j _ hjl]
        simp [List.getD, hfl]
      · simp only [if_true]
        have : (i + 1) * sz ≤ l.length * sz := Nat.mul_le_mul_right _ hi
        rw [Nat.succ_mul] at this
        omega
    · intro i r j x hr hx
      rw [List.getElem?_map, Option.map_eq_some_iff] at hr
      obtain ⟨e, he, rfl⟩ := hr
      rw [List.getElem?_map, Option.map_eq_some_iff] at hx
      obtain ⟨u, hu, rfl⟩ := hx
      have hfl := flat_at' hsz l i e he j u hu
      simp only [List.getD, hfl, Option.getD_some]
      exact .sc u (hone e u (List.mem_of_getElem? hu))

/-- events of an argument as data -/
theorem EvAt.rd {w : World} {v : Value} {l : List Ev} (h : EvAt w v l) {S : Nat → Nat} (hS : ∀ b i, (w.cell? ⟨b, i, none⟩).isSome = true → i < S b) : RD S w (evsD l) v := by
  obtain ⟨A, c, rfl, h2, h3, h4⟩ := h
  by_cases hl : 0 < l.length
  · obtain ⟨b, o, rfl, hc⟩ := h4 hl
    unfold evsD
    rw [show l.length = (l.map Ev.row).length by simp]
    have hcl : ∀ i j, i < l.length → j < 9 → ∃ e x, l[i]? = some e ∧ e.cells[j]? = some x ∧ (l.flatMap Ev.cells).getD (i * 9 + j) undef = x ∧ w.cell? ⟨b, o + (i * 9 + j), none⟩ = some x := fun i j hi hj => by
      have hil : l[i]? = some l[i] := List.getElem?_eq_getElem hi
      have hjl : l[i].cells[j]? = some (l[i].cells[j]'hj) := List.getElem?_eq_getElem _
      exact ⟨_, _, hil, hjl, by simp [List.getD, flat_at l i _ hil j _ hjl], hc i _ hil j _ hjl⟩
    refine RD.im _ 9 b o c (fun i j => (l.flatMap Ev.cells).getD (i * 9 + j) undef) (by simpa using h2) (by unfold maxLen; omega) ?_ ?_ ?_
    · intro r hr
      obtain ⟨x, _, rfl⟩ := List.mem_map.1 hr
      rfl
    · intro i j hi hj
      obtain ⟨e, x, _, _, h5, h6⟩ := hcl i j (by simpa using hi) hj
      rw [h5]
      exact ⟨h6, hS b _ (by rw [h6]; rfl)⟩
    · intro i r j x hr hx
      rw [List.getElem?_map, Option.map_eq_some_iff] at hr
      obtain ⟨e, he, rfl⟩ := hr
      have hj : j < 9 := (List.getElem?_eq_some_iff.1 hx).1
      obtain ⟨e', u, h7, h8, h5, h6⟩ := hcl i j (List.getElem?_eq_some_iff.1 he).1 hj
      rw [he] at h7; cases h7
      rw [h5]
      have := Ev.row_cell h8
      rw [hx] at this; cases this
      refine .sc u ?_
      have := List.mem_of_getElem? h8
      simp only [Ev.cells, List.mem_cons, List.not_mem_nil, or_false] at this
      rcases this with rfl | rfl | rfl | rfl | rfl | rfl | rfl | rfl | rfl <;> rfl
  · have : l = [] := by cases l with
      | nil => rfl
      | cons a l => simp at hl
    subst this
    exact .emp _ _ (by unfold maxLen; omega)

/-- as many cells of a block as there are -/
def World.cellsOf (w : World) (b : Nat) : Nat := match w.heap[b]? with
  | some (.cells arr _ _) => arr.size
  | _ => 0
theorem cellsOf_lt {w : World} (b i : Nat) (h : (w.cell? ⟨b, i, none⟩).isSome = true) : i < World.cellsOf w b := by
  unfold World.cellsOf
  unfold World.cell? at h
  cases hb : w.heap[b]? with
  | none => simp [hb] at h
  | some x =>
    cases x with
    | cells arr T fr => simp only [hb] at h; simpa using h
    | _ => simp [hb] at h

def intsD (l : List Int) : Dt := .im (l.map fun x => [dI x])
theorem RPs.nth {S : Nat → Nat} {w : World} {ps : List Pa} {vs : Array Value} (h : RPs S w ps vs) {i : Nat} {p : Pa} (hp : ps[i]? = some p) : ∃ u, vs[i]? = some u ∧ RP S w p u := by
  have hi : i < vs.size := by rw [← h.1]; exact (List.getElem?_eq_some_iff.1 hp).1
  exact ⟨vs[i], Array.getElem?_eq_getElem hi, h.2 i p _ hp (Array.getElem?_eq_getElem hi)⟩
theorem RPs.one {S : Nat → Nat} {w : World} {p : Pa} {vs : Array Value} (h : RPs S w [p] vs) : ∃ u, vs = #[u] ∧ RP S w p u := by
  obtain ⟨u, h1, h2⟩ := h.nth (i := 0) rfl
  refine ⟨u, ?_, h2⟩
  have h3 := h.1
  apply Array.ext_getElem?
  intro j
  match j with
  | 0 => simpa using h1
  | j + 1 => rw [Array.getElem?_eq_none (by simp at h3; omega), Array.getElem?_eq_none (by simp)]
theorem RPs.two {S : Nat → Nat} {w : World} {p q : Pa} {vs : Array Value} (h : RPs S w [p, q] vs) : ∃ u v, vs = #[u, v] ∧ RP S w p u ∧ RP S w q v := by
  obtain ⟨u, h1, h2⟩ := h.nth (i := 0) rfl
  obtain ⟨v, h3, h4⟩ := h.nth (i := 1) rfl
  refine ⟨u, v, ?_, h2, h4⟩
  have h5 := h.1
  apply Array.ext_getElem?
  intro j
  match j with
  | 0 => simpa using h1
  | 1 => simpa using h3
  | j + 2 => rw [Array.getElem?_eq_none (by simp at h5; omega), Array.getElem?_eq_none (by simp)]
theorem RPs.three {S : Nat → Nat} {w : World} {p q r : Pa} {vs : Array Value} (h : RPs S w [p, q, r] vs) : ∃ u v x, vs = #[u, v, x] ∧ RP S w p u ∧ RP S w q v ∧ RP S w r x := by
  obtain ⟨u, h1, h2⟩ := h.nth (i := 0) rfl
  obtain ⟨v, h3, h4⟩ := h.nth (i := 1) rfl
  obtain ⟨x, h6, h7⟩ := h.nth (i := 2) rfl
  refine ⟨u, v, x, ?_, h2, h4, h7⟩
  have h5 := h.1
  apply Array.ext_getElem?
  intro j
  match j with
  | 0 => simpa using h1
  | 1 => simpa using h3
  | 2 => simpa using h6
  | j + 3 => rw [Array.getElem?_eq_none (by simp at h5; omega), Array.getElem?_eq_none (by simp)]
theorem RPs.nil {S : Nat → Nat} {w : World} {vs : Array Value} (h : RPs S w [] vs) : vs = #[] := by
  have h3 := h.1
  apply Array.ext_getElem?
  intro j
  rw [Array.getElem?_eq_none (by simp at h3; omega), Array.getElem?_eq_none (by simp)]
theorem RPs.mk1 {S : Nat → Nat} {w : World} {p : Pa} {u : Value} (h : RP S w p u) : RPs S w [p] #[u] := ⟨rfl, fun i q v h1 h2 => by
  match i with
  | 0 => cases h1; simp at h2; subst h2; exact h
  | i + 1 => simp at h1⟩
theorem RPs.mk2 {S : Nat → Nat} {w : World} {p q : Pa} {u v : Value} (h : RP S w p u) (k : RP S w q v) : RPs S w [p, q] #[u, v] := ⟨rfl, fun i r x h1 h2 => by
  match i with
  | 0 => cases h1; simp at h2; subst h2; exact h
  | 1 => cases h1; simp at h2; subst h2; exact k
  | i + 2 => simp at h1⟩
theorem RPs.mk3 {S : Nat → Nat} {w : World} {p q r : Pa} {u v x : Value} (h : RP S w p u) (k : RP S w q v) (m : RP S w r x) : RPs S w [p, q, r] #[u, v, x] := ⟨rfl, fun i o y h1 h2 => by
  match i with
  | 0 => cases h1; simp at h2; subst h2; exact h
  | 1 => cases h1; simp at h2; subst h2; exact k
  | 2 => cases h1; simp at h2; subst h2; exact m
  | i + 3 => simp at h1⟩
theorem RP.int {S : Nat → Nat} {w : World} {n : Int} {u : Value} (h : RP S w (pI n) u) : u = .int .i64 n := (RD.sc_inv h).1
theorem RP.mkInt {S : Nat → Nat} {w : World} (n : Int) : RP S w (pI n) (.int .i64 n) := .sc _ rfl
theorem RP.mkBool {S : Nat → Nat} {w : World} (n : Bool) : RP S w (pB n) (.bool n) := .sc _ rfl
theorem RP.bool {S : Nat → Nat} {w : World} {n : Bool} {u : Value} (h : RP S w (pB n) u) : u = .bool n := (RD.sc_inv h).1
/-- a struct of numbers -/
theorem RP.flat {S : Nat → Nat} {w : World} {vs : List Value} {u : Value} (h : RP S w (.agg (vs.map Dt.sc)) u) : u = .agg vs.toArray := by
  obtain ⟨arr, rfl, h2, h3⟩ := h
  congr 1
  apply Array.ext_getElem?
  intro j
  simp only [List.getElem?_toArray]
  rw [List.length_map] at h2
  cases hj : vs[j]? with
  | none => rw [Array.getElem?_eq_none]; rw [List.getElem?_eq_none_iff] at hj; omega
  | some x =>
    have hlt : j < arr.size := by have := (List.getElem?_eq_some_iff.1 hj).1; omega
    rw [Array.getElem?_eq_getElem hlt, (RD.sc_inv (h3 j (.sc x) arr[j] (by rw [List.getElem?_map, hj]; rfl) (Array.getElem?_eq_getElem hlt))).1]
theorem RP.mkFlat {S : Nat → Nat} {w : World} {vs : List Value} (h : ∀ u, u ∈ vs → u.oneCell' = true) : RP S w (.agg (vs.map Dt.sc)) (.agg vs.toArray) := by
  refine ⟨_, rfl, by simp, fun i x u h1 h2 => ?_⟩
  rw [List.getElem?_map, Option.map_eq_some_iff] at h1
  obtain ⟨y, hy, rfl⟩ := h1
  simp [hy] at h2
  subst h2
  exact .sc _ (h y (List.mem_of_getElem? hy))
end Go.Proofs.Ytkdagjlkejefnaa
end
section
set_option linter.unusedSimpArgs false
set_option linter.unusedVariables false
namespace Go.Proofs.Ytkdagjlkejefnaa
open Go Go.RowKit

def tsR (s : TS) (N : Nat) (w : World) (v : Value) (fp : Nat → Prop) : Prop :=
  ∃ sb bc bm bd kv, v = .pointer (some ⟨sb, 0, none⟩) ∧ @TRep ⟨fp⟩ w sb bc bm bd N s kv ∧ (fp sb ∧ fp bc ∧ fp bm ∧ fp bd) ∧ ∀ b, fp b → b < w.heap.size
theorem heap_lt {w w' : World} {b : Nat} (h : b < w.heap.size) (e : w'.heap[b]? = w.heap[b]?) : b < w'.heap.size := by
  rcases Nat.lt_or_ge b w'.heap.size with h1 | h1
  · exact h1
  · rw [Array.getElem?_eq_none h1, Array.getElem?_eq_getElem h] at e; cases e
theorem tsR_keep (s : TS) (N : Nat) (w w' : World) (v : Value) (fp : Nat → Prop) (h : tsR s N w v fp) (hb : ∀ b, fp b → w'.heap[b]? = w.heap[b]?) : tsR s N w' v fp := by
  letI : KB := ⟨fp⟩
  obtain ⟨sb, bc, bm, bd, kv, hv, hT, ⟨f0, f1, f2, f3⟩, hlt⟩ := h
  refine ⟨sb, bc, bm, bd, kv, hv, ⟨(hb sb f0).trans hT.row, ?_, hT.chans.keep (hb bc f1), hT.mus.keep (hb bm f2), hT.done.keep (hb bd f3), hT.ncm, hT.ncd, hT.nmd⟩, ⟨f0, f1, f2, f3⟩, fun b hf => heap_lt (hlt b hf) (hb b hf)⟩
  obtain ⟨A, c, h1, h2, h3⟩ := hT.kinds
  refine ⟨A, c, h1, h2, fun hn => ?_⟩
  obtain ⟨b, o, hA, hne, hc⟩ := h3 hn
  refine ⟨b, o, hA, hne, fun i x hx => ?_⟩
  exact (World.cell?_of_block (w := w) (a := ⟨b, o + i, none⟩) (hb b hne.2)).trans (hc i x hx)
def tsH (s : TS) (N : Nat) : HP where
  r := tsR s N
  keep := fun w w' v fp h hb => tsR_keep s N w w' v fp h hb
  lt := fun w v fp b h hb => by obtain ⟨_, _, _, _, _, _, _, _, hlt⟩ := h; exact hlt b hb
/-- the kinds lie in blocks that are there -/
theorem KindsAt.lt {K : KB} {fp : Nat → Prop} {w : World} {v : Value} {xs : List Int} {sb : Nat} (h : @KindsAt K w v xs sb) (hk : ∀ b, K.p b → b < w.heap.size → fp b) : @KindsAt ⟨fp⟩ w v xs sb := by
  obtain ⟨A, c, h1, h2, h3⟩ := h
  refine ⟨A, c, h1, h2, fun hn => ?_⟩
  obtain ⟨b, o, hA, hne, hc⟩ := h3 hn
  have h4 := hc 0 (xs[0]'hn) (List.getElem?_eq_getElem hn)
  exact ⟨b, o, hA, ⟨hne.1, hk b hne.2 (block_lt_of_cell h4)⟩, hc⟩
theorem TRep.kb {K : KB} {fp : Nat → Prop} {w : World} {sb bc bm bd N : Nat} {s : TS} {kv : Value} (h : @TRep K w sb bc bm bd N s kv) (hk : ∀ b, K.p b → b < w.heap.size → fp b) : @TRep ⟨fp⟩ w sb bc bm bd N s kv :=
  @TRep.mk ⟨fp⟩ _ _ _ _ _ _ _ _ (@TRep.row K _ _ _ _ _ _ _ _ h) (@KindsAt.lt K fp _ _ _ _ (@TRep.kinds K _ _ _ _ _ _ _ _ h) hk) (@TRep.chans K _ _ _ _ _ _ _ _ h) (@TRep.mus K _ _ _ _ _ _ _ _ h) (@TRep.done K _ _ _ _ _ _ _ _ h) (@TRep.ncm K _ _ _ _ _ _ _ _ h) (@TRep.ncd K _ _ _ _ _ _ _ _ h) (@TRep.nmd K _ _ _ _ _ _ _ _ h)
theorem RPs.nil_inv {S : Nat → Nat} {w : World} {vs : Array Value} (h : RPs S w [] vs) : vs = #[] := by
  apply Array.eq_empty_of_size_eq_zero
  have := h.1
  simp at this; omega

def Ra_new (Ho : Option HP) (az : List Pa) (H : HP) (rs : List Pa) : Prop := Ho = none ∧ az = [] ∧ H = tsH TS.new 0 ∧ rs = []
theorem sa_new : SpecA Try.prog 18 Ra_new := by
  rintro Ho az H rs ⟨rfl, rfl, rfl, rfl⟩ S w vals _ hv
  obtain rfl := hv.nil_inv
  refine (@new_any ⟨fun _ => True⟩ w).mono ?_
  rintro r w' ⟨sb, bc, bm, bd, kv, rfl, hT, ⟨z0, z1, z2, z3⟩, hb⟩
  letI : KB := ⟨fun _ => True⟩
  have hl : sb < w'.heap.size ∧ bc < w'.heap.size ∧ bm < w'.heap.size ∧ bd < w'.heap.size := ⟨hT.lt, hT.chans.lt, hT.mus.lt, hT.done.lt⟩
  have hT2 : @TRep ⟨fun b => w.heap.size ≤ b ∧ b < w'.heap.size⟩ w' sb bc bm bd 0 TS.new kv := by
    refine @TRep.mk ⟨fun b => w.heap.size ≤ b ∧ b < w'.heap.size⟩ _ _ _ _ _ _ _ _ hT.row ?_ hT.chans hT.mus hT.done hT.ncm hT.ncd hT.nmd
    obtain ⟨A, c, h1, h2, h3⟩ := hT.kinds
    exact ⟨A, c, h1, h2, fun hn => absurd hn (by decide)⟩
  exact ⟨_, fun b => if b < w.heap.size then S b else 0, .pointer (some ⟨sb, 0, none⟩), fun b => w.heap.size ≤ b ∧ b < w'.heap.size, rfl, rfl, rfl, ⟨sb, bc, bm, bd, kv, rfl, hT2, ⟨⟨z0, hl.1⟩, ⟨z1, hl.2.1⟩, ⟨z2, hl.2.2.1⟩, z3, hl.2.2.2⟩, fun b h => h.2⟩, hb, fun b h => ⟨h.1, if_neg (by omega)⟩, fun b h => if_pos h⟩

def Ra_add (Ho : Option HP) (az : List Pa) (H : HP) (rs : List Pa) : Prop := ∃ (s : TS) (N : Nat) (e : Ev), Ho = some (tsH s N) ∧ az = [e.pa] ∧ (s.wf ∧ N ≤ 1000000) ∧ H = tsH ((s.add e).getD s) (N + 2) ∧ rs = [pB (s.add e).isSome]
theorem sa_add : SpecA Try.prog 21 Ra_add := by
  rintro Ho az H rs ⟨s, N, e, rfl, rfl, ⟨hwf, hN⟩, rfl, rfl⟩ S w vals _ hv v fp hr hS
  obtain ⟨sb, bc, bm, bd, kv, rfl, hT, ⟨f0, f1, f2, f3⟩, hlt⟩ := hr
  obtain ⟨u, rfl, h1⟩ := hv.one
  obtain rfl : u = e.val := RP.flat (vs := e.cells) h1
  have hT2 : @TRep ⟨fun b => fp b ∨ w.heap.size ≤ b⟩ w sb bc bm bd N s kv := TRep.kb hT (fun b hb _ => .inl hb)
  refine (@add_head ⟨fun b => fp b ∨ w.heap.size ≤ b⟩ sb bc bm bd N s kv w hT2 hwf (by unfold maxLen; omega) e (fun b hb => .inr hb)).mono ?_
  rintro r w' ⟨rfl, ⟨kv', hT3⟩, hb⟩
  refine ⟨_, fun b => if b < w.heap.size then S b else 0, fun b => (fp b ∨ w.heap.size ≤ b) ∧ b < w'.heap.size, rfl, RP.mkBool _, ?_, ⟨hb.os, hb.tape, hb.output, hb.size, fun k hk hn => hb.block k hk (fun hm => ?_)⟩, fun b h => ⟨h.1, ?_⟩, fun b h => if_pos h⟩
  · have up : ∀ b, fp b → (fp b ∨ w.heap.size ≤ b) ∧ b < w'.heap.size := fun b h => ⟨.inl h, Nat.lt_of_lt_of_le (hlt b h) hb.size⟩
    exact ⟨sb, bc, bm, bd, kv', rfl, TRep.kb hT3 (fun b h1 h2 => ⟨h1, h2⟩), ⟨up _ f0, up _ f1, up _ f2, up _ f3⟩, fun b h => h.2⟩
  · simp only [List.mem_cons, List.not_mem_nil, or_false] at hm
    rcases hm with rfl | rfl | rfl | rfl <;> exact hn ‹_›
  · by_cases hbs : b < w.heap.size
    · dsimp only; rw [if_pos hbs]; exact h.1.elim (hS b) (fun h => by omega)
    · exact if_neg hbs

def Ra_gor (Ho : Option HP) (az : List Pa) (H : HP) (rs : List Pa) : Prop := ∃ (s : TS) (N : Nat), Ho = some (tsH s N) ∧ az = [] ∧ H = tsH s N ∧ rs = [pI s.gor]
theorem sa_gor : SpecA Try.prog 22 Ra_gor := by
  rintro Ho az H rs ⟨s, N, rfl, rfl, rfl, rfl⟩ S w vals _ hv v fp hr hS
  obtain rfl := hv.nil_inv
  obtain ⟨sb, bc, bm, bd, kv, rfl, hT, hf, hlt⟩ := hr
  refine (@sgor_any ⟨fp⟩ sb bc bm bd N s kv w hT).mono ?_
  rintro r w' ⟨rfl, rfl⟩
  exact ⟨_, S, fp, rfl, RP.mkInt _, ⟨sb, bc, bm, bd, kv, rfl, hT, hf, hlt⟩, ⟨rfl, rfl, rfl, Nat.le_refl _, fun _ _ _ => rfl⟩, fun b h => ⟨.inl h, hS b h⟩, fun _ _ => rfl⟩
def Ra_open (Ho : Option HP) (az : List Pa) (H : HP) (rs : List Pa) : Prop := ∃ (s : TS) (N : Nat), Ho = some (tsH s N) ∧ az = [] ∧ H = tsH s N ∧ rs = [pB s.isOpen]
theorem sa_open : SpecA Try.prog 23 Ra_open := by
  rintro Ho az H rs ⟨s, N, rfl, rfl, rfl, rfl⟩ S w vals _ hv v fp hr hS
  obtain rfl := hv.nil_inv
  obtain ⟨sb, bc, bm, bd, kv, rfl, hT, hf, hlt⟩ := hr
  refine (@open_any ⟨fp⟩ sb bc bm bd N s kv w hT).mono ?_
  rintro r w' ⟨rfl, rfl⟩
  exact ⟨_, S, fp, rfl, RP.mkBool _, ⟨sb, bc, bm, bd, kv, rfl, hT, hf, hlt⟩, ⟨rfl, rfl, rfl, Nat.le_refl _, fun _ _ _ => rfl⟩, fun b h => ⟨.inl h, hS b h⟩, fun _ _ => rfl⟩
end Go.Proofs.Ytkdagjlkejefnaa
end
