/- How a plain reading is evaluated, step by step. -/
import Derived.Test.YtohliamalaifhaaMb3
import Derived.IntWalk
import Derived.Below
section
set_option linter.unusedSimpArgs false
set_option linter.unusedVariables false
namespace Go.Proofs.Ytohliamalaifhaa
open Go Go.RowKit

theorem nrfl {α : Sort _} {a b : α} (h : a = b) : a = b := h
section
variable {env : Env} {K : St → Prop} {is : List PI} {s : St} {d : Option Nat} {af : List Nat}

def contOps (env : Env) (K : St → Prop) (is : List PI) (s : St) (d : Option Nat) (o : Option (Av × Cg)) : Prop := withSome o fun p => evalOps env is (s.ap d p.1 p.2) K
theorem contOps_some {v : Av} {ch : Cg} : contOps env K is s d (some (v, ch)) = evalOps env is (s.ap d v ch) K := nrfl rfl
def callOps (env : Env) (K : St → Prop) (is : List PI) (s : St) (d : Option Nat) (f : Nat) (o : Option (List Pa)) : Prop := withSome o fun ps => ∃ rs, env f ps rs ∧ evalOps env is (s.ap d (resAv rs) .no) K
theorem callOps_intro {f : Nat} {ps : List Pa} (rs : List Pa) (h : env f ps rs) (k : evalOps env is (s.ap d (resAv rs) .no) K) : callOps env K is s d f (some ps) := ⟨rs, h, k⟩
def guardOps (env : Env) (K : St → Prop) (is : List PI) (s : St) (d : Option Nat) (op : PO) (t : Nat) (want : Bool) : Option (Option Bool) → Prop
  | none => False
  | some none => evalOps env is (s.ap d skp .no) K
  | some (some b) => (b = want → evalOps env (⟨d, op, none, []⟩ :: is) (s.ap (some t) (scAv (.bool want)) .no) K) ∧ (b = !want → evalOps env is ((s.ap (some t) (scAv (.bool !want)) .no).ap d skp .no) K)
theorem guardOps_skp {op : PO} {t : Nat} {want : Bool} : guardOps env K is s d op t want (some none) = evalOps env is (s.ap d skp .no) K := nrfl rfl
theorem guardOps_some {op : PO} {t : Nat} {want b : Bool} : guardOps env K is s d op t want (some (some b)) = ((b = want → evalOps env (⟨d, op, none, []⟩ :: is) (s.ap (some t) (scAv (.bool want)) .no) K) ∧ (b = !want → evalOps env is ((s.ap (some t) (scAv (.bool !want)) .no).ap d skp .no) K)) := nrfl rfl
theorem gd_boo {t : Nat} {b : Bool} (h : s.gd t = some (some b)) : s.boo (.t t) = some b := by
  unfold St.gd at h
  split at h
  · cases h
  · rw [Option.map_eq_some_iff] at h
    obtain ⟨c, hc, h⟩ := h
    cases h; exact hc
theorem some_ne {b want : Bool} : (some b ≠ some want) ↔ b = !want := by cases b <;> cases want <;> simp
theorem boo_self {t : Nat} {b : Bool} (h : s.boo (.t t) = some b) : s.ap (some t) (scAv (.bool b)) .no = s := by
  have h1 : s.sl t = scAv (.bool b) := by
    unfold St.boo at h
    split at h
    · rename_i c hc
      cases h
      exact hc
    · cases h
  have h2 : up s.sl t (scAv (.bool b)) = s.sl := by
    funext x
    rw [up_at]
    split
    · rename_i hx; rw [hx, h1]
    · rfl
  show (⟨up s.sl t (scAv (.bool b)), s.gen, s.ob⟩ : St) = s
  rw [h2]
theorem evalOps_nil : evalOps env [] s K = K s := nrfl rfl
theorem evalOps_fn {op : PO} (h : op.isCall = false) : evalOps env (⟨d, op, none, af⟩ :: is) s K = contOps env K is s d (op.fn s (d.getD 0)) := by
  change PO.go env s (d.getD 0) (fun v ch => evalOps env is (s.ap d v ch) K) op = _
  rw [PO.go_fn h]
  rfl
def opS (env : Env) (K : St → Prop) (is : List PI) (s : St) (d : Option Nat) (b : Bool) (op : PO) : Prop := match b with
  | true => (match op with | .call f xs => callOps env K is s d f (s.args xs) | _ => False)
  | false => contOps env K is s d (op.fn s (d.getD 0))
theorem opS_false {op : PO} : opS env K is s d false op = contOps env K is s d (op.fn s (d.getD 0)) := nrfl rfl
theorem opS_true {f : Nat} {xs : List PX} : opS env K is s d true (.call f xs) = callOps env K is s d f (s.args xs) := nrfl rfl
theorem evalOps_op {op : PO} : evalOps env (⟨d, op, none, af⟩ :: is) s K = opS env K is s d op.isCall op := by
  cases hc : op.isCall with
  | true => cases op <;> first | rfl | cases hc
  | false => rw [opS_false, evalOps_fn hc]
theorem evalOps_call {f : Nat} {xs : List PX} : evalOps env (⟨d, .call f xs, none, af⟩ :: is) s K = callOps env K is s d f (s.args xs) := nrfl rfl
theorem evalOps_guard {op : PO} {t : Nat} {want : Bool} : evalOps env (⟨d, op, some (t, want), af⟩ :: is) s K = guardOps env K is s d op t want (s.gd t) := by
  change withSome (s.gd t) _ = guardOps env K is s d op t want (s.gd t)
  cases h : s.gd t with
  | none => rfl
  | some b =>
    cases b with
    | none => exact propext ⟨fun k => k.2 (by simp), fun k => ⟨fun e => (by simp at e), fun _ => k⟩⟩
    | some b =>
      have hb := boo_self (gd_boo h)
      rw [guardOps_some]
      show ((some b = some want → _) ∧ (some b ≠ some want → _)) = _
      rw [some_ne, Option.some.injEq]
      congr 1
      · apply propext
        refine forall_congr' fun he => ?_
        subst he
        rw [hb]
        rfl
      · apply propext
        refine forall_congr' fun he => ?_
        rw [← he, hb]
theorem evalOps_gT {op : PO} {t : Nat} {want : Bool} (h : s.gd t = some (some want)) : evalOps env (⟨d, op, some (t, want), af⟩ :: is) s K = evalOps env (⟨d, op, none, []⟩ :: is) s K := by
  rw [evalOps_guard, h, guardOps_some, boo_self (gd_boo h)]
  exact propext ⟨fun k => k.1 rfl, fun k => ⟨fun _ => k, fun e => absurd e (by cases want <;> decide)⟩⟩
theorem evalOps_gF {op : PO} {t : Nat} {want : Bool} (h : s.gd t = some (some (!want))) : evalOps env (⟨d, op, some (t, want), af⟩ :: is) s K = evalOps env is (s.ap d skp .no) K := by
  rw [evalOps_guard, h, guardOps_some, boo_self (gd_boo h)]
  exact propext ⟨fun k => k.2 rfl, fun k => ⟨fun e => absurd e (by cases want <;> decide), fun _ => k⟩⟩
theorem evalOps_gS {op : PO} {t : Nat} {want : Bool} (h : s.gd t = some none) : evalOps env (⟨d, op, some (t, want), af⟩ :: is) s K = evalOps env is (s.ap d skp .no) K := by
  rw [evalOps_guard, h, guardOps_skp]

abbrev Ft := List (List Rg × List Rg)
variable {KD : St → Ft → Prop} {acc : Ft}
def contD (env : Env) (K : St → Ft → Prop) (is : List PI) (s : St) (d : Option Nat) (acc : Ft) (rd : List Rg) (o : Option (Av × Cg)) : Prop := withSome o fun p => evalD env is (s.ap d p.1 p.2) ((rd, p.2.wrs) :: acc) K
theorem contD_some {v : Av} {ch : Cg} {rd : List Rg} : contD env KD is s d acc rd (some (v, ch)) = evalD env is (s.ap d v ch) ((rd, ch.wrs) :: acc) KD := nrfl rfl
def callD (env : Env) (K : St → Ft → Prop) (is : List PI) (s : St) (d : Option Nat) (acc : Ft) (f : Nat) (o : Option (List Pa)) : Prop := withSome o fun ps => ∃ rs, env f ps rs ∧ evalD env is (s.ap d (resAv rs) .no) (([], []) :: acc) K
theorem callD_intro {f : Nat} {ps : List Pa} (rs : List Pa) (h : env f ps rs) (k : evalD env is (s.ap d (resAv rs) .no) (([], []) :: acc) KD) : callD env KD is s d acc f (some ps) := ⟨rs, h, k⟩
/-- a guarded operation -/
def goD (env : Env) (K : St → Ft → Prop) (is : List PI) (s : St) (d : Option Nat) (acc : Ft) (op : PO) : Prop := op.go env s (d.getD 0) fun v ch => evalD env is (s.ap d v ch) ((op.rd s (d.getD 0), ch.wrs) :: acc) K
def guardD (env : Env) (K : St → Ft → Prop) (is : List PI) (s : St) (d : Option Nat) (acc : Ft) (op : PO) (t : Nat) (want : Bool) : Option (Option Bool) → Prop
  | none => False
  | some none => evalD env is (s.ap d skp .no) ((op.rd s (d.getD 0), []) :: acc) K
  | some (some b) => (b = want → goD env K is (s.ap (some t) (scAv (.bool want)) .no) d acc op) ∧ (b = !want → evalD env is ((s.ap (some t) (scAv (.bool !want)) .no).ap d skp .no) ((op.rd s (d.getD 0), []) :: acc) K)
theorem guardD_skp {op : PO} {t : Nat} {want : Bool} : guardD env KD is s d acc op t want (some none) = evalD env is (s.ap d skp .no) ((op.rd s (d.getD 0), []) :: acc) KD := nrfl rfl
theorem guardD_some {op : PO} {t : Nat} {want b : Bool} : guardD env KD is s d acc op t want (some (some b)) = ((b = want → goD env KD is (s.ap (some t) (scAv (.bool want)) .no) d acc op) ∧ (b = !want → evalD env is ((s.ap (some t) (scAv (.bool !want)) .no).ap d skp .no) ((op.rd s (d.getD 0), []) :: acc) KD)) := nrfl rfl
theorem evalD_nil : evalD env [] s acc KD = KD s acc.reverse := nrfl rfl
theorem goD_fn {op : PO} (h : op.isCall = false) : goD env KD is s d acc op = contD env KD is s d acc (op.rd s (d.getD 0)) (op.fn s (d.getD 0)) := by
  unfold goD
  rw [PO.go_fn h]
  rfl
def opD (env : Env) (K : St → Ft → Prop) (is : List PI) (s : St) (d : Option Nat) (acc : Ft) (b : Bool) (op : PO) : Prop := match b with
  | true => (match op with | .call f xs => callD env K is s d acc f (s.args xs) | _ => False)
  | false => contD env K is s d acc (op.rd s (d.getD 0)) (op.fn s (d.getD 0))
theorem opD_false {op : PO} : opD env KD is s d acc false op = contD env KD is s d acc (op.rd s (d.getD 0)) (op.fn s (d.getD 0)) := nrfl rfl
theorem opD_true {f : Nat} {xs : List PX} : opD env KD is s d acc true (.call f xs) = callD env KD is s d acc f (s.args xs) := nrfl rfl
theorem goD_op {op : PO} : goD env KD is s d acc op = opD env KD is s d acc op.isCall op := by
  cases hc : op.isCall with
  | true => cases op <;> first | rfl | cases hc
  | false => rw [opD_false, goD_fn hc]
theorem goD_call {f : Nat} {xs : List PX} : goD env KD is s d acc (.call f xs) = callD env KD is s d acc f (s.args xs) := nrfl rfl
theorem evalD_plain {op : PO} : evalD env (⟨d, op, none, af⟩ :: is) s acc KD = goD env KD is s d acc op := nrfl rfl
theorem evalD_guard {op : PO} {t : Nat} {want : Bool} : evalD env (⟨d, op, some (t, want), af⟩ :: is) s acc KD = guardD env KD is s d acc op t want (s.gd t) := by
  change withSome (s.gd t) _ = guardD env KD is s d acc op t want (s.gd t)
  cases h : s.gd t with
  | none => rfl
  | some b =>
    cases b with
    | none => exact propext ⟨fun k => k.2 (by simp), fun k => ⟨fun e => (by simp at e), fun _ => k⟩⟩
    | some b =>
      have hb := boo_self (gd_boo h)
      rw [guardD_some]
      show ((some b = some want → _) ∧ (some b ≠ some want → _)) = _
      rw [some_ne, Option.some.injEq]
      congr 1
      · apply propext
        refine forall_congr' fun he => ?_
        subst he
        rw [hb]
        rfl
      · apply propext
        refine forall_congr' fun he => ?_
        rw [← he, hb]
        rfl
theorem evalD_gT {op : PO} {t : Nat} {want : Bool} (h : s.gd t = some (some want)) : evalD env (⟨d, op, some (t, want), af⟩ :: is) s acc KD = goD env KD is s d acc op := by
  rw [evalD_guard, h, guardD_some, boo_self (gd_boo h)]
  exact propext ⟨fun k => k.1 rfl, fun k => ⟨fun _ => k, fun e => absurd e (by cases want <;> decide)⟩⟩
theorem evalD_gF {op : PO} {t : Nat} {want : Bool} (h : s.gd t = some (some (!want))) : evalD env (⟨d, op, some (t, want), af⟩ :: is) s acc KD = evalD env is (s.ap d skp .no) ((op.rd s (d.getD 0), []) :: acc) KD := by
  rw [evalD_guard, h, guardD_some, boo_self (gd_boo h)]
  exact propext ⟨fun k => k.2 rfl, fun k => ⟨fun e => absurd e (by cases want <;> decide), fun _ => k⟩⟩
theorem evalD_gS {op : PO} {t : Nat} {want : Bool} (h : s.gd t = some none) : evalD env (⟨d, op, some (t, want), af⟩ :: is) s acc KD = evalD env is (s.ap d skp .no) ((op.rd s (d.getD 0), []) :: acc) KD := by
  rw [evalD_guard, h, guardD_skp]

/-- what comes behind: codes, ends of blocks, of loops -/
inductive It where
  | c (x : PC)
  | bl (id : Nat)
  | lp (I : Nat → St → Prop) (n : Nat)
def exS (env : Env) : List It → (Exit → St → Prop) → Exit → St → Prop
  | [], Q, e, s => Q e s
  | .c b :: k, Q, e, s => match e with
    | .normal => pwp env b (exS env k Q) s
    | e => exS env k Q e s
  | .bl id :: k, Q, e, s => match e with
    | .exit i => if i = id then exS env k Q .normal s else exS env k Q (.exit i) s
    | e => exS env k Q e s
  | .lp I n :: k, Q, e, s => match e with
    | .normal => ∃ m, m < n ∧ I m s
    | e => exS env k Q e s

variable {k : List It} {Q : Exit → St → Prop}
theorem exS_nil {e : Exit} : exS env [] Q e s = Q e s := nrfl rfl
theorem exS_c {b : PC} : exS env (.c b :: k) Q .normal s = pwp env b (exS env k Q) s := nrfl rfl
theorem exS_c_ret {b : PC} : exS env (.c b :: k) Q .ret s = exS env k Q .ret s := nrfl rfl
theorem exS_c_exit {b : PC} {i : Nat} : exS env (.c b :: k) Q (.exit i) s = exS env k Q (.exit i) s := nrfl rfl
theorem exS_bl {id : Nat} : exS env (.bl id :: k) Q .normal s = exS env k Q .normal s := nrfl rfl
theorem exS_bl_ret {id : Nat} : exS env (.bl id :: k) Q .ret s = exS env k Q .ret s := nrfl rfl
theorem exS_bl_exit {id i : Nat} : exS env (.bl id :: k) Q (.exit i) s = if i = id then exS env k Q .normal s else exS env k Q (.exit i) s := nrfl rfl
theorem exS_lp {I : Nat → St → Prop} {n : Nat} : exS env (.lp I n :: k) Q .normal s = ∃ m, m < n ∧ I m s := nrfl rfl
theorem exS_lp_ret {I : Nat → St → Prop} {n : Nat} : exS env (.lp I n :: k) Q .ret s = exS env k Q .ret s := nrfl rfl
theorem exS_lp_exit {I : Nat → St → Prop} {n i : Nat} : exS env (.lp I n :: k) Q (.exit i) s = exS env k Q (.exit i) s := nrfl rfl

theorem pwp_start {c : PC} (h : pwp env c (exS env [] Q) s) : pwp env c Q s := h
/-- go on from a state of which only these slots and objects are known -/
theorem pwp_fresh {Q' : Exit → St → Prop} {c : PC} (sls obs : List Nat) (h : ∀ st : St, (∀ x, x ∈ sls → st.sl x = s.sl x) → (∀ o, o ∈ obs → st.gen o = s.gen o ∧ st.ob o = s.ob o) → pwp env c Q' st) : pwp env c Q' s := h s (fun _ _ => rfl) (fun _ _ => ⟨rfl, rfl⟩)
/-- the same with something known of the whole state -/
theorem pwp_freshP {Q' : Exit → St → Prop} {c : PC} (P : St → Prop) (hP : P s) (sls obs : List Nat) (h : ∀ st : St, P st → (∀ x, x ∈ sls → st.sl x = s.sl x) → (∀ o, o ∈ obs → st.gen o = s.gen o ∧ st.ob o = s.ob o) → pwp env c Q' st) : pwp env c Q' s := h s hP (fun _ _ => rfl) (fun _ _ => ⟨rfl, rfl⟩)
theorem pwp_skip : pwp env .skip (exS env k Q) s = exS env k Q .normal s := nrfl rfl
theorem pwp_reg {ops : List PI} : pwp env (.reg false ops) (exS env k Q) s = evalOps env ops s (exS env k Q .normal) := nrfl rfl
def drawn (ops : List PI) (K : St → Prop) (s : St) (fts : Ft) : Prop := drawOk ops fts = true ∧ K s
/-- the check of a drawn region: closed by drw -/
def Drw (ops : List PI) (fts : Ft) : Prop := drawOk ops fts = true
theorem drawn_and {ops : List PI} {K : St → Prop} {fts : Ft} : drawn ops K s fts = (Drw ops fts ∧ K s) := nrfl rfl
theorem pwp_regD {ops : List PI} : pwp env (.reg true ops) (exS env k Q) s = evalD env ops s [] (drawn ops (exS env k Q .normal)) := nrfl rfl
theorem pwp_seq {a b : PC} : pwp env (.seq a b) (exS env k Q) s = pwp env a (exS env (.c b :: k) Q) s := by
  show pwp env a _ s = _
  congr 1
def condS (env : Env) (a b : PC) (k : List It) (Q : Exit → St → Prop) (s : St) (o : Option Bool) : Prop := withSome o fun t => (t = true → pwp env a (exS env k Q) s) ∧ (t = false → pwp env b (exS env k Q) s)
theorem condS_some {a b : PC} {t : Bool} : condS env a b k Q s (some t) = ((t = true → pwp env a (exS env k Q) s) ∧ (t = false → pwp env b (exS env k Q) s)) := nrfl rfl
theorem pwp_cond {c : PX} {a b : PC} : pwp env (.cond c a b) (exS env k Q) s = condS env a b k Q s (s.boo c) := nrfl rfl
theorem pwp_block {id : Nat} {c : PC} : pwp env (.block id c) (exS env k Q) s = pwp env c (exS env (.bl id :: k) Q) s := by
  show pwp env c _ s = _
  congr 1
theorem pwp_exit {id : Nat} : pwp env (.exit id) (exS env k Q) s = exS env k Q (.exit id) s := nrfl rfl
theorem pwp_ret : pwp env .ret (exS env k Q) s = exS env k Q .ret s := nrfl rfl
theorem pwp_loop {c : PC} (I : Nat → St → Prop) (n : Nat) (h0 : I n s) (h : ∀ n s, I n s → pwp env c (exS env (.lp I n :: k) Q) s) : pwp env (.loop c) (exS env k Q) s := by
  refine ⟨I, ⟨n, h0⟩, fun n s hI => ?_⟩
  have := h n s hI
  have he : exS env (.lp I n :: k) Q = fun e s' => match e with | .normal => ∃ m, m < n ∧ I m s' | e => exS env k Q e s' := by
    funext e s'
    cases e <;> rfl
  rw [he] at this
  exact this

/-! the parts of a state -/
theorem ap_sl {x : Nat} {v : Av} {ch : Cg} : (s.ap (some x) v ch).sl = up s.sl x v := nrfl rfl
theorem ap_sl0 {v : Av} {ch : Cg} : (s.ap none v ch).sl = s.sl := nrfl rfl
theorem ap_gen {v : Av} : (s.ap d v .no).gen = s.gen := nrfl rfl
theorem ap_genw {v : Av} {o off : Nat} {cs : List Cl} : (s.ap d v (.wr o off cs)).gen = s.gen := nrfl rfl
theorem ap_genr {v : Av} {o m : Nat} : (s.ap d v (.row o m)).gen = s.gen := nrfl rfl
theorem ap_genn {v : Av} {o : Nat} {x : Ob} : (s.ap d v (.new o x)).gen = up s.gen o (s.gen o + 1) := nrfl rfl
theorem ap_ob {v : Av} : (s.ap d v .no).ob = s.ob := nrfl rfl
theorem ap_obw {v : Av} {o off : Nat} {cs : List Cl} : (s.ap d v (.wr o off cs)).ob = up s.ob o (wrF off cs (s.ob o)) := by
  rw [ap_eq]; rfl
theorem ap_obr {v : Av} {o m : Nat} : (s.ap d v (.row o m)).ob = up s.ob o (rowF m (s.ob o)) := by
  rw [ap_eq]; rfl
theorem ap_obn {v : Av} {o : Nat} {x : Ob} : (s.ap d v (.new o x)).ob = up s.ob o x := nrfl rfl
theorem wrF_cells {off : Nat} {cs old : List Cl} : wrF off cs (.cells old) = .cells (wrAt old off cs) := nrfl rfl
theorem rowF_row {m E sz n : Nat} : rowF m (.row E sz n) = .row E sz m := nrfl rfl

def initSl : List Pa → Nat → Av
  | [], _ => .un
  | p :: _, 0 => .b p.bv
  | _ :: r, n + 1 => initSl r n
theorem init_sl (ps : List Pa) (x : Nat) : (St.init ps).sl x = initSl ps x := by
  show (match ps[x]? with | some p => Av.b p.bv | none => .un) = _
  induction ps generalizing x with
  | nil => simp [initSl]
  | cons p r ih =>
    cases x with
    | zero => rfl
    | succ x => rw [List.getElem?_cons_succ, ih x]; rfl
theorem init_gen {ps : List Pa} {x : Nat} : (St.init ps).gen x = 0 := nrfl rfl
theorem init_ob {ps : List Pa} {x : Nat} : (St.init ps).ob x = .no := nrfl rfl

theorem ev_t {x : Nat} : s.ev (.t x) = s.sl x := nrfl rfl
theorem ev_int {k : IntKind} {m : Int} : s.ev (.v (.int k m)) = .b (.one (.d (.sc (.int k m)))) := nrfl rfl
theorem ev_bool {b : Bool} : s.ev (.v (.bool b)) = .b (.one (.d (.sc (.bool b)))) := nrfl rfl
theorem ev_string {b : ByteArray} : s.ev (.v (.string b)) = .b (.one (.d (.sc (.string b)))) := nrfl rfl
theorem ev_nil : s.ev (.v (.slice none 0 0)) = .b (.one (.d (.sc (.slice none 0 0)))) := nrfl rfl
theorem ev_agg {l : Array Value} : s.ev (.v (.agg l)) = .b (.agg (l.toList.map fun v => .d (.sc v))) := nrfl rfl
theorem ev_ptr : s.ev (.v (.pointer none)) = .b (.one (.d (.sc (.pointer none)))) := nrfl rfl

theorem args_nil : s.args [] = some [] := nrfl rfl
theorem args_cons {x : PX} {xs : List PX} : s.args (x :: xs) = (match (s.ev x).pa with | some p => (s.args xs).map (p :: ·) | none => none) := by
  unfold St.args
  simp only [List.map_cons]
  cases (s.ev x).pa <;> rfl
end

/-- st is s0 but for the slots ms and the objects os -/
def Within (ms os : List Nat) (s0 st : St) : Prop := (∀ x, ms.contains x = false → st.sl x = s0.sl x) ∧ ∀ o, os.contains o = false → st.gen o = s0.gen o ∧ st.ob o = s0.ob o
def over (ms os : List Nat) (s0 j : St) : St := ⟨fun x => bif ms.contains x then j.sl x else s0.sl x, fun o => bif os.contains o then j.gen o else s0.gen o, fun o => bif os.contains o then j.ob o else s0.ob o⟩
theorem Within.refl (ms os : List Nat) (s : St) : Within ms os s s := ⟨fun _ _ => rfl, fun _ _ => ⟨rfl, rfl⟩⟩
theorem Within.over {ms os : List Nat} {s0 st : St} (h : Within ms os s0 st) : ∃ j, st = over ms os s0 j := by
  refine ⟨st, ?_⟩
  obtain ⟨h1, h2⟩ := h
  have e1 : st.sl = (Go.Proofs.Ytohliamalaifhaa.over ms os s0 st).sl := by
    funext x
    show st.sl x = bif ms.contains x then st.sl x else s0.sl x
    cases hx : ms.contains x with
    | true => rfl
    | false => exact h1 x hx
  have e2 : st.gen = (Go.Proofs.Ytohliamalaifhaa.over ms os s0 st).gen := by
    funext x
    show st.gen x = bif os.contains x then st.gen x else s0.gen x
    cases hx : os.contains x with
    | true => rfl
    | false => exact (h2 x hx).1
  have e3 : st.ob = (Go.Proofs.Ytohliamalaifhaa.over ms os s0 st).ob := by
    funext x
    show st.ob x = bif os.contains x then st.ob x else s0.ob x
    cases hx : os.contains x with
    | true => rfl
    | false => exact (h2 x hx).2
  show (⟨st.sl, st.gen, st.ob⟩ : St) = ⟨(Go.Proofs.Ytohliamalaifhaa.over ms os s0 st).sl, (Go.Proofs.Ytohliamalaifhaa.over ms os s0 st).gen, (Go.Proofs.Ytohliamalaifhaa.over ms os s0 st).ob⟩
  rw [← e1, ← e2, ← e3]
theorem over_sl {ms os : List Nat} {s0 j : St} {x : Nat} : (over ms os s0 j).sl x = bif ms.contains x then j.sl x else s0.sl x := nrfl rfl
theorem over_gen {ms os : List Nat} {s0 j : St} {x : Nat} : (over ms os s0 j).gen x = bif os.contains x then j.gen x else s0.gen x := nrfl rfl
theorem over_ob {ms os : List Nat} {s0 j : St} {x : Nat} : (over ms os s0 j).ob x = bif os.contains x then j.ob x else s0.ob x := nrfl rfl
theorem within_over {ms os : List Nat} {s0 j : St} : Within ms os s0 (over ms os s0 j) = True := by
  apply propext
  refine ⟨fun _ => trivial, fun _ => ⟨fun x hx => ?_, fun o ho => ⟨?_, ?_⟩⟩⟩
  · rw [over_sl, hx]; rfl
  · rw [over_gen, ho]; rfl
  · rw [over_ob, ho]; rfl
theorem within_self {ms os : List Nat} {s : St} : Within ms os s s = True := propext ⟨fun _ => trivial, fun _ => Within.refl _ _ _⟩
def chIn (os : List Nat) : Cg → Bool
  | .no => true
  | .new o _ => os.contains o
  | .wr o _ _ => os.contains o
  | .row o _ => os.contains o
theorem Within.ap {ms os : List Nat} {s0 s : St} {d : Option Nat} {v : Av} {ch : Cg} (h : Within ms os s0 s) (hd : ∀ x, d = some x → ms.contains x = true) (hc : chIn os ch = true) : Within ms os s0 (s.ap d v ch) := by
  obtain ⟨h1, h2⟩ := h
  rw [ap_eq]
  refine ⟨fun x hx => ?_, fun o ho => ?_⟩
  · cases d with
    | none => exact h1 x hx
    | some y =>
      show up s.sl y v x = _
      rw [up_at, if_neg]
      · exact h1 x hx
      · rintro rfl
        rw [hd x rfl] at hx
        cases hx
  · have key : ∀ y : Nat, os.contains y = true → o ≠ y := by
      rintro y hy rfl
      rw [hy] at ho; cases ho
    show ch.gF s.gen o = _ ∧ ch.oF s.ob o = _
    cases ch with
    | no => exact h2 o ho
    | new y x => simp only [Cg.gF, Cg.oF, Go.Proofs.Ytohliamalaifhaa.md, up_at, if_neg (key y hc)]; exact h2 o ho
    | wr y off cs => simp only [Cg.gF, Cg.oF, Go.Proofs.Ytohliamalaifhaa.md, up_at, if_neg (key y hc)]; exact h2 o ho
    | row y m => simp only [Cg.gF, Cg.oF, Go.Proofs.Ytohliamalaifhaa.md, up_at, if_neg (key y hc)]; exact h2 o ho
theorem within_ap {ms os : List Nat} {s0 s : St} {x : Nat} {v : Av} {ch : Cg} (h : Within ms os s0 s) (hd : ms.contains x = true) (hc : chIn os ch = true) : Within ms os s0 (s.ap (some x) v ch) := h.ap (fun y hy => by cases hy; exact hd) hc
theorem within_ap0 {ms os : List Nat} {s0 s : St} {v : Av} {ch : Cg} (h : Within ms os s0 s) (hc : chIn os ch = true) : Within ms os s0 (s.ap none v ch) := h.ap (fun y hy => by cases hy) hc
theorem Within.trans {ms os : List Nat} {a b c : St} (h : Within ms os a b) (k : Within ms os b c) : Within ms os a c :=
  ⟨fun x hx => (k.1 x hx).trans (h.1 x hx), fun o ho => ⟨(k.2 o ho).1.trans (h.2 o ho).1, (k.2 o ho).2.trans (h.2 o ho).2⟩⟩

/-- a loop that turns the slots ms and the objects os alone -/
theorem pwp_loopW {env : Env} {k : List It} {Q : Exit → St → Prop} {s : St} {c : PC} (ms os : List Nat) (J : Nat → St → Prop) (m0 : Nat) (h0 : J m0 s)
    (h : ∀ m j, J m (over ms os s j) → pwp env c (exS env (.lp (fun m st => Within ms os s st ∧ J m st) m :: k) Q) (over ms os s j)) : pwp env (.loop c) (exS env k Q) s :=
  pwp_loop (fun m st => Within ms os s st ∧ J m st) m0 ⟨Within.refl _ _ _, h0⟩ (fun m st ⟨hW, hJ⟩ => by
    obtain ⟨j, rfl⟩ := hW.over
    exact h m j hJ)

/-! numbers -/
theorem wr64 {x : Int} (h1 : -9223372036854775808 ≤ x) (h2 : x ≤ 9223372036854775807) : IntKind.i64.wrap x = x := IntWalk.i64_in x ⟨h1, h2⟩
theorem wrN {k : Nat} (h : k ≤ 1000000000) : IntKind.i64.wrap ((k : Int) + 1) = ((k + 1 : Nat) : Int) := by
  rw [wr64 (by omega) (by omega)]; omega
end Go.Proofs.Ytohliamalaifhaa
end
section
set_option linter.unusedSimpArgs false
set_option linter.unusedVariables false
namespace Go.Proofs.Ytohliamalaifhaa
open Go Go.RowKit
set_option maxRecDepth 100000
def unN : Option Value → Option (Av × Cg)
  | some (.bool b) => some (scAv (.bool !b), .no)
  | _ => none
def unG : Option Value → Option (Av × Cg)
  | some (.int k n) => some (scAv (.int k (k.wrap (0 - n))), .no)
  | _ => none
def unX : Option Value → Option (Av × Cg)
  | some (.int k n) => some (scAv (.int k (k.wrap (BitVec.ofInt k.bits (if k.signed then -1 else k.max) ^^^ BitVec.ofInt k.bits n).toNat)), .no)
  | _ => none
theorem fn_not {s : St} {d : Nat} {x : PX} : PO.fn s d (.un .not x) = unN (s.val x) := by
  cases h : s.val x with
  | none => simp only [PO.fn, h, unN]
  | some v => cases v <;> simp only [PO.fn, h, unN]
theorem fn_neg {s : St} {d : Nat} {x : PX} : PO.fn s d (.un .neg x) = unG (s.val x) := by
  cases h : s.val x with
  | none => simp only [PO.fn, h, unG]
  | some v => cases v <;> simp only [PO.fn, h, unG]
theorem fn_xor {s : St} {d : Nat} {x : PX} : PO.fn s d (.un .xor x) = unX (s.val x) := by
  cases h : s.val x with
  | none => simp only [PO.fn, h, unX]
  | some v => cases v <;> simp only [PO.fn, h, unX]
theorem evP : type_of% (
  And.intro @evalOps_gT <|
  And.intro @evalOps_gF <|
  And.intro @evalOps_gS <|
  And.intro @evalD_gT <|
  And.intro @evalD_gF <|
  And.intro @evalD_gS <|
  And.intro @pwp_skip <|
  And.intro @pwp_reg <|
  And.intro @pwp_regD <|
  And.intro @pwp_seq <|
  And.intro @pwp_cond <|
  And.intro @pwp_block <|
  And.intro @pwp_exit <|
  @pwp_ret) :=
  And.intro @evalOps_gT <|
  And.intro @evalOps_gF <|
  And.intro @evalOps_gS <|
  And.intro @evalD_gT <|
  And.intro @evalD_gF <|
  And.intro @evalD_gS <|
  And.intro @pwp_skip <|
  And.intro @pwp_reg <|
  And.intro @pwp_regD <|
  And.intro @pwp_seq <|
  And.intro @pwp_cond <|
  And.intro @pwp_block <|
  And.intro @pwp_exit <|
  @pwp_ret
theorem evB : type_of% (
  And.intro @guardOps_skp <|
  And.intro @guardD_skp <|
  And.intro @St.gd.eq_1 <|
  And.intro @isSkp.eq_1 <|
  And.intro @isSkp.eq_2 <|
  And.intro @isSkp.eq_3 <|
  And.intro @isSkp.eq_4 <|
  And.intro @skp.eq_1 <|
  And.intro @condS_some <|
  And.intro @exS_nil <|
  And.intro @exS_c <|
  And.intro @exS_c_ret <|
  And.intro @exS_c_exit <|
  And.intro @exS_bl <|
  And.intro @exS_bl_ret <|
  And.intro @exS_bl_exit <|
  And.intro @exS_lp_ret <|
  And.intro @exS_lp_exit <|
  And.intro @evalOps_nil <|
  And.intro @evalOps_op <|
  And.intro @opS_false <|
  And.intro @opS_true <|
  And.intro @evalOps_guard <|
  And.intro @contOps_some <|
  And.intro @guardOps_some <|
  And.intro @evalD_nil <|
  And.intro @drawn_and <|
  And.intro @List.reverse_cons.{0} <|
  And.intro @List.reverse_nil.{0} <|
  And.intro @evalD_plain <|
  And.intro @evalD_guard <|
  And.intro @goD_op <|
  And.intro @opD_false <|
  And.intro @opD_true <|
  And.intro @contD_some <|
  @guardD_some) :=
  And.intro @guardOps_skp <|
  And.intro @guardD_skp <|
  And.intro @St.gd.eq_1 <|
  And.intro @isSkp.eq_1 <|
  And.intro @isSkp.eq_2 <|
  And.intro @isSkp.eq_3 <|
  And.intro @isSkp.eq_4 <|
  And.intro @skp.eq_1 <|
  And.intro @condS_some <|
  And.intro @exS_nil <|
  And.intro @exS_c <|
  And.intro @exS_c_ret <|
  And.intro @exS_c_exit <|
  And.intro @exS_bl <|
  And.intro @exS_bl_ret <|
  And.intro @exS_bl_exit <|
  And.intro @exS_lp_ret <|
  And.intro @exS_lp_exit <|
  And.intro @evalOps_nil <|
  And.intro @evalOps_op <|
  And.intro @opS_false <|
  And.intro @opS_true <|
  And.intro @evalOps_guard <|
  And.intro @contOps_some <|
  And.intro @guardOps_some <|
  And.intro @evalD_nil <|
  And.intro @drawn_and <|
  And.intro @List.reverse_cons.{0} <|
  And.intro @List.reverse_nil.{0} <|
  And.intro @evalD_plain <|
  And.intro @evalD_guard <|
  And.intro @goD_op <|
  And.intro @opD_false <|
  And.intro @opD_true <|
  And.intro @contD_some <|
  @guardD_some
theorem stB : type_of% (
  And.intro @PO.isCall.eq_1 <|
  And.intro @PO.isCall.eq_2 <|
  And.intro @PO.isCall.eq_3 <|
  And.intro @PO.isCall.eq_4 <|
  And.intro @PO.isCall.eq_5 <|
  And.intro @PO.isCall.eq_6 <|
  And.intro @PO.isCall.eq_7 <|
  And.intro @PO.isCall.eq_8 <|
  And.intro @PO.isCall.eq_9 <|
  And.intro @PO.isCall.eq_10 <|
  And.intro @PO.isCall.eq_11 <|
  And.intro @PO.isCall.eq_12 <|
  And.intro @PO.isCall.eq_13 <|
  And.intro @PO.isCall.eq_14 <|
  And.intro @PO.isCall.eq_15 <|
  And.intro @PO.isCall.eq_16 <|
  And.intro @PO.isCall.eq_17 <|
  And.intro @PO.isCall.eq_18 <|
  And.intro @PO.isCall.eq_19 <|
  And.intro @PO.isCall.eq_20 <|
  And.intro @PO.isCall.eq_21 <|
  And.intro @PO.isCall.eq_22 <|
  And.intro @PO.isCall.eq_23 <|
  And.intro @PO.isCall.eq_24 <|
  And.intro @PO.isCall.eq_25 <|
  And.intro @PO.isCall.eq_26 <|
  And.intro @PO.isCall.eq_27 <|
  And.intro @PO.isCall.eq_28 <|
  And.intro @PO.isCall.eq_29 <|
  And.intro @PO.isCall.eq_30 <|
  And.intro @PO.isCall.eq_31 <|
  And.intro @PO.isCall.eq_32 <|
  And.intro @Option.getD_some.{0} <|
  And.intro @Option.getD_none.{0} <|
  And.intro @ap_sl <|
  And.intro @ap_sl0 <|
  And.intro @ap_gen <|
  And.intro @ap_genw <|
  And.intro @ap_genr <|
  And.intro @ap_genn <|
  And.intro @ap_ob <|
  And.intro @ap_obw <|
  And.intro @ap_obr <|
  And.intro @ap_obn <|
  And.intro @wrF_cells <|
  And.intro @rowF_row <|
  And.intro @init_sl <|
  And.intro @initSl.eq_1 <|
  And.intro @initSl.eq_2 <|
  And.intro @initSl.eq_3 <|
  And.intro @init_gen <|
  And.intro @init_ob <|
  And.intro @ev_t <|
  And.intro @ev_int <|
  And.intro @ev_bool <|
  And.intro @ev_string <|
  And.intro @ev_nil <|
  And.intro @ev_agg <|
  And.intro @ev_ptr <|
  And.intro @args_nil <|
  And.intro @args_cons <|
  And.intro @up_at <|
  And.intro @PO.fn.eq_1 <|
  And.intro @PO.fn.eq_2 <|
  And.intro @PO.fn.eq_3 <|
  And.intro @PO.fn.eq_4 <|
  And.intro @PO.fn.eq_5 <|
  And.intro @PO.fn.eq_6 <|
  And.intro @PO.fn.eq_7 <|
  And.intro @PO.fn.eq_8 <|
  And.intro @PO.fn.eq_9 <|
  And.intro @PO.fn.eq_10 <|
  And.intro @PO.fn.eq_11 <|
  And.intro @PO.fn.eq_12 <|
  And.intro @PO.fn.eq_13 <|
  And.intro @PO.fn.eq_14 <|
  And.intro @PO.fn.eq_15 <|
  And.intro @PO.fn.eq_16 <|
  And.intro @PO.fn.eq_17 <|
  And.intro @PO.fn.eq_18 <|
  And.intro @PO.fn.eq_23 <|
  And.intro @PO.fn.eq_24 <|
  And.intro @PO.fn.eq_25 <|
  And.intro @PO.fn.eq_26 <|
  And.intro @PO.fn.eq_27 <|
  And.intro @PO.fn.eq_28 <|
  And.intro @PO.fn.eq_29 <|
  And.intro @PO.fn.eq_30 <|
  And.intro @PO.fn.eq_31 <|
  And.intro @PO.fn.eq_32 <|
  And.intro @PO.fn.eq_33 <|
  And.intro @PO.fn.eq_34 <|
  And.intro @PO.fn.eq_35 <|
  And.intro @fn_not <|
  And.intro @fn_neg <|
  And.intro @fn_xor <|
  And.intro @unN.eq_1 <|
  And.intro @unG.eq_1 <|
  And.intro @unX.eq_1 <|
  And.intro @PO.rd.eq_1 <|
  And.intro @PO.rd.eq_2 <|
  And.intro @PO.rd.eq_3 <|
  And.intro @PO.rd.eq_4 <|
  And.intro @PO.rd.eq_5 <|
  And.intro @PO.rd.eq_6 <|
  And.intro @PO.rd.eq_7 <|
  And.intro @PO.rd.eq_8 <|
  And.intro @PO.rd.eq_9 <|
  And.intro @PO.rd.eq_10 <|
  And.intro @PO.rd.eq_11 <|
  And.intro @PO.rd.eq_12 <|
  And.intro @PO.rd.eq_13 <|
  And.intro @Cg.wrs.eq_1 <|
  And.intro @Cg.wrs.eq_2 <|
  And.intro @Cg.wrs.eq_3 <|
  And.intro @Cg.wrs.eq_4 <|
  And.intro @St.cl.eq_1 <|
  And.intro @St.val.eq_1 <|
  And.intro @St.int.eq_1 <|
  And.intro @St.boo.eq_1 <|
  And.intro @St.cs.eq_1 <|
  And.intro @St.parts.eq_1 <|
  And.intro @St.parts.eq_2 <|
  And.intro @scAv.eq_1 <|
  And.intro @Cl.rows.eq_1 <|
  And.intro @Cl.rows.eq_2 <|
  And.intro @Cl.rows.eq_3 <|
  And.intro @Cl.rows.eq_4 <|
  And.intro @Cl.rows.eq_5 <|
  And.intro @Cl.dt.eq_1 <|
  And.intro @Cl.dt.eq_2 <|
  And.intro @Cl.dt.eq_3 <|
  And.intro @Cl.dt.eq_4 <|
  And.intro @Cl.dt.eq_5 <|
  And.intro @Bv.pa.eq_1 <|
  And.intro @Bv.pa.eq_2 <|
  And.intro @Av.pa.eq_1 <|
  And.intro @Av.pa.eq_2 <|
  And.intro @Pa.bv.eq_1 <|
  And.intro @Pa.bv.eq_2 <|
  And.intro @resAv.eq_1 <|
  And.intro @resAv.eq_2 <|
  And.intro @resAv.eq_3 <|
  And.intro @allSome.eq_1 <|
  And.intro @allSome.eq_2 <|
  And.intro @allSome.eq_3 <|
  And.intro @mkAv.eq_1 <|
  And.intro @mkAv.eq_2 <|
  And.intro @wrAt.eq_1 <|
  And.intro @wrAt.eq_2 <|
  And.intro @wrAt.eq_3 <|
  And.intro @wrAt.eq_4 <|
  And.intro @splice.eq_1 <|
  And.intro @fillAll.eq_1 <|
  And.intro @fillAll.eq_2 <|
  And.intro @chunks.eq_1 <|
  And.intro @chunks.eq_2 <|
  And.intro @scBin.eq_1 <|
  And.intro @scBin.eq_2 <|
  And.intro @scBin.eq_3 <|
  And.intro @scBin.eq_4 <|
  And.intro @scBin.eq_5 <|
  And.intro @scBin.eq_6 <|
  And.intro @scBin.eq_7 <|
  And.intro @scBin.eq_8 <|
  And.intro @scBin.eq_9 <|
  And.intro @scBin.eq_10 <|
  And.intro @scBin.eq_11 <|
  And.intro @scBin.eq_12 <|
  And.intro @scBin.eq_13 <|
  And.intro @scBin.eq_14 <|
  And.intro @scBin.eq_15 <|
  And.intro @scBin.eq_16 <|
  And.intro @scBin.eq_17 <|
  And.intro @scBin.eq_18 <|
  And.intro @scBin.eq_19 <|
  And.intro @scBin.eq_20 <|
  And.intro @scBin.eq_21 <|
  And.intro @scBin.eq_22 <|
  And.intro @eqCl.eq_1 <|
  And.intro @eqCl.eq_2 <|
  And.intro @eqCl.eq_3 <|
  And.intro @eqCls.eq_1 <|
  And.intro @eqCls.eq_2 <|
  And.intro @eqCls.eq_3 <|
  And.intro @scMM.eq_1 <|
  And.intro @scMM.eq_2 <|
  And.intro @Option.map_some.{0,0} <|
  And.intro @Option.map_none.{0,0} <|
  And.intro @Option.bind_some.{0,0} <|
  And.intro @List.map_cons.{0,0} <|
  And.intro @List.map_nil.{0,0} <|
  And.intro @List.length_cons.{0} <|
  And.intro @List.length_nil.{0} <|
  And.intro @List.getElem?_cons_succ.{0} <|
  And.intro @List.getElem?_cons_zero.{0} <|
  And.intro @List.take_succ_cons.{0} <|
  And.intro @List.take_zero.{0} <|
  And.intro @List.drop_succ_cons.{0} <|
  And.intro @List.drop_zero.{0} <|
  And.intro @List.cons_append.{0} <|
  And.intro @List.nil_append.{0} <|
  And.intro @List.append_nil.{0} <|
  And.intro @if_true.{1} <|
  And.intro @if_false.{1} <|
  And.intro @ite_true.{1} <|
  And.intro @ite_false.{1} <|
  And.intro @ne_eq.{1} <|
  And.intro @not_true <|
  And.intro @not_false_eq_true <|
  And.intro @Nat.add_zero <|
  And.intro @Nat.zero_add <|
  And.intro @and_true <|
  And.intro @true_and <|
  And.intro @and_self <|
  And.intro @forall_const.{1} <|
  And.intro @forall_const.{0} <|
  And.intro @Bool.not_true <|
  And.intro @Bool.not_false <|
  And.intro @Nat.succ_eq_add_one <|
  And.intro @imp_false <|
  And.intro @false_imp_iff <|
  And.intro @forall_false <|
  And.intro @true_imp_iff <|
  And.intro @Bool.and_true <|
  And.intro @Bool.and_false <|
  And.intro @Bool.true_and <|
  And.intro @Bool.false_and <|
  And.intro @implies_true.{1} <|
  And.intro @implies_true.{0} <|
  And.intro @over_sl <|
  And.intro @over_gen <|
  And.intro @over_ob <|
  And.intro @List.contains_cons.{0} <|
  And.intro @List.contains_nil.{0} <|
  And.intro @Bool.or_false <|
  And.intro @Bool.or_true <|
  And.intro @Bool.false_or <|
  And.intro @Bool.true_or <|
  And.intro @cond_true.{1} <|
  And.intro @cond_false.{1} <|
  And.intro @Bool.cond_true.{0} <|
  And.intro @Bool.cond_false.{0} <|
  And.intro @Int.toNat_natCast <|
  And.intro @Int.natCast_nonneg <|
  And.intro @List.getElem?_map.{0,0} <|
  And.intro @List.length_map.{0,0} <|
  And.intro @List.mem_cons.{0} <|
  And.intro @List.not_mem_nil.{0} <|
  And.intro @forall_eq.{1} <|
  And.intro @forall_eq_or_imp.{1} <|
  And.intro @false_or <|
  And.intro @or_true <|
  And.intro @true_or <|
  And.intro @or_false <|
  And.intro @St.res.eq_1 <|
  And.intro @St.res1.eq_1 <|
  And.intro @St.res1.eq_2 <|
  And.intro @decide_eq_true_eq <|
  @decide_eq_false_iff_not) :=
  And.intro @PO.isCall.eq_1 <|
  And.intro @PO.isCall.eq_2 <|
  And.intro @PO.isCall.eq_3 <|
  And.intro @PO.isCall.eq_4 <|
  And.intro @PO.isCall.eq_5 <|
  And.intro @PO.isCall.eq_6 <|
  And.intro @PO.isCall.eq_7 <|
  And.intro @PO.isCall.eq_8 <|
  And.intro @PO.isCall.eq_9 <|
  And.intro @PO.isCall.eq_10 <|
  And.intro @PO.isCall.eq_11 <|
  And.intro @PO.isCall.eq_12 <|
  And.intro @PO.isCall.eq_13 <|
  And.intro @PO.isCall.eq_14 <|
  And.intro @PO.isCall.eq_15 <|
  And.intro @PO.isCall.eq_16 <|
  And.intro @PO.isCall.eq_17 <|
  And.intro @PO.isCall.eq_18 <|
  And.intro @PO.isCall.eq_19 <|
  And.intro @PO.isCall.eq_20 <|
  And.intro @PO.isCall.eq_21 <|
  And.intro @PO.isCall.eq_22 <|
  And.intro @PO.isCall.eq_23 <|
  And.intro @PO.isCall.eq_24 <|
  And.intro @PO.isCall.eq_25 <|
  And.intro @PO.isCall.eq_26 <|
  And.intro @PO.isCall.eq_27 <|
  And.intro @PO.isCall.eq_28 <|
  And.intro @PO.isCall.eq_29 <|
  And.intro @PO.isCall.eq_30 <|
  And.intro @PO.isCall.eq_31 <|
  And.intro @PO.isCall.eq_32 <|
  And.intro @Option.getD_some.{0} <|
  And.intro @Option.getD_none.{0} <|
  And.intro @ap_sl <|
  And.intro @ap_sl0 <|
  And.intro @ap_gen <|
  And.intro @ap_genw <|
  And.intro @ap_genr <|
  And.intro @ap_genn <|
  And.intro @ap_ob <|
  And.intro @ap_obw <|
  And.intro @ap_obr <|
  And.intro @ap_obn <|
  And.intro @wrF_cells <|
  And.intro @rowF_row <|
  And.intro @init_sl <|
  And.intro @initSl.eq_1 <|
  And.intro @initSl.eq_2 <|
  And.intro @initSl.eq_3 <|
  And.intro @init_gen <|
  And.intro @init_ob <|
  And.intro @ev_t <|
  And.intro @ev_int <|
  And.intro @ev_bool <|
  And.intro @ev_string <|
  And.intro @ev_nil <|
  And.intro @ev_agg <|
  And.intro @ev_ptr <|
  And.intro @args_nil <|
  And.intro @args_cons <|
  And.intro @up_at <|
  And.intro @PO.fn.eq_1 <|
  And.intro @PO.fn.eq_2 <|
  And.intro @PO.fn.eq_3 <|
  And.intro @PO.fn.eq_4 <|
  And.intro @PO.fn.eq_5 <|
  And.intro @PO.fn.eq_6 <|
  And.intro @PO.fn.eq_7 <|
  And.intro @PO.fn.eq_8 <|
  And.intro @PO.fn.eq_9 <|
  And.intro @PO.fn.eq_10 <|
  And.intro @PO.fn.eq_11 <|
  And.intro @PO.fn.eq_12 <|
  And.intro @PO.fn.eq_13 <|
  And.intro @PO.fn.eq_14 <|
  And.intro @PO.fn.eq_15 <|
  And.intro @PO.fn.eq_16 <|
  And.intro @PO.fn.eq_17 <|
  And.intro @PO.fn.eq_18 <|
  And.intro @PO.fn.eq_23 <|
  And.intro @PO.fn.eq_24 <|
  And.intro @PO.fn.eq_25 <|
  And.intro @PO.fn.eq_26 <|
  And.intro @PO.fn.eq_27 <|
  And.intro @PO.fn.eq_28 <|
  And.intro @PO.fn.eq_29 <|
  And.intro @PO.fn.eq_30 <|
  And.intro @PO.fn.eq_31 <|
  And.intro @PO.fn.eq_32 <|
  And.intro @PO.fn.eq_33 <|
  And.intro @PO.fn.eq_34 <|
  And.intro @PO.fn.eq_35 <|
  And.intro @fn_not <|
  And.intro @fn_neg <|
  And.intro @fn_xor <|
  And.intro @unN.eq_1 <|
  And.intro @unG.eq_1 <|
  And.intro @unX.eq_1 <|
  And.intro @PO.rd.eq_1 <|
  And.intro @PO.rd.eq_2 <|
  And.intro @PO.rd.eq_3 <|
  And.intro @PO.rd.eq_4 <|
  And.intro @PO.rd.eq_5 <|
  And.intro @PO.rd.eq_6 <|
  And.intro @PO.rd.eq_7 <|
  And.intro @PO.rd.eq_8 <|
  And.intro @PO.rd.eq_9 <|
  And.intro @PO.rd.eq_10 <|
  And.intro @PO.rd.eq_11 <|
  And.intro @PO.rd.eq_12 <|
  And.intro @PO.rd.eq_13 <|
  And.intro @Cg.wrs.eq_1 <|
  And.intro @Cg.wrs.eq_2 <|
  And.intro @Cg.wrs.eq_3 <|
  And.intro @Cg.wrs.eq_4 <|
  And.intro @St.cl.eq_1 <|
  And.intro @St.val.eq_1 <|
  And.intro @St.int.eq_1 <|
  And.intro @St.boo.eq_1 <|
  And.intro @St.cs.eq_1 <|
  And.intro @St.parts.eq_1 <|
  And.intro @St.parts.eq_2 <|
  And.intro @scAv.eq_1 <|
  And.intro @Cl.rows.eq_1 <|
  And.intro @Cl.rows.eq_2 <|
  And.intro @Cl.rows.eq_3 <|
  And.intro @Cl.rows.eq_4 <|
  And.intro @Cl.rows.eq_5 <|
  And.intro @Cl.dt.eq_1 <|
  And.intro @Cl.dt.eq_2 <|
  And.intro @Cl.dt.eq_3 <|
  And.intro @Cl.dt.eq_4 <|
  And.intro @Cl.dt.eq_5 <|
  And.intro @Bv.pa.eq_1 <|
  And.intro @Bv.pa.eq_2 <|
  And.intro @Av.pa.eq_1 <|
  And.intro @Av.pa.eq_2 <|
  And.intro @Pa.bv.eq_1 <|
  And.intro @Pa.bv.eq_2 <|
  And.intro @resAv.eq_1 <|
  And.intro @resAv.eq_2 <|
  And.intro @resAv.eq_3 <|
  And.intro @allSome.eq_1 <|
  And.intro @allSome.eq_2 <|
  And.intro @allSome.eq_3 <|
  And.intro @mkAv.eq_1 <|
  And.intro @mkAv.eq_2 <|
  And.intro @wrAt.eq_1 <|
  And.intro @wrAt.eq_2 <|
  And.intro @wrAt.eq_3 <|
  And.intro @wrAt.eq_4 <|
  And.intro @splice.eq_1 <|
  And.intro @fillAll.eq_1 <|
  And.intro @fillAll.eq_2 <|
  And.intro @chunks.eq_1 <|
  And.intro @chunks.eq_2 <|
  And.intro @scBin.eq_1 <|
  And.intro @scBin.eq_2 <|
  And.intro @scBin.eq_3 <|
  And.intro @scBin.eq_4 <|
  And.intro @scBin.eq_5 <|
  And.intro @scBin.eq_6 <|
  And.intro @scBin.eq_7 <|
  And.intro @scBin.eq_8 <|
  And.intro @scBin.eq_9 <|
  And.intro @scBin.eq_10 <|
  And.intro @scBin.eq_11 <|
  And.intro @scBin.eq_12 <|
  And.intro @scBin.eq_13 <|
  And.intro @scBin.eq_14 <|
  And.intro @scBin.eq_15 <|
  And.intro @scBin.eq_16 <|
  And.intro @scBin.eq_17 <|
  And.intro @scBin.eq_18 <|
  And.intro @scBin.eq_19 <|
  And.intro @scBin.eq_20 <|
  And.intro @scBin.eq_21 <|
  And.intro @scBin.eq_22 <|
  And.intro @eqCl.eq_1 <|
  And.intro @eqCl.eq_2 <|
  And.intro @eqCl.eq_3 <|
  And.intro @eqCls.eq_1 <|
  And.intro @eqCls.eq_2 <|
  And.intro @eqCls.eq_3 <|
  And.intro @scMM.eq_1 <|
  And.intro @scMM.eq_2 <|
  And.intro @Option.map_some.{0,0} <|
  And.intro @Option.map_none.{0,0} <|
  And.intro @Option.bind_some.{0,0} <|
  And.intro @List.map_cons.{0,0} <|
  And.intro @List.map_nil.{0,0} <|
  And.intro @List.length_cons.{0} <|
  And.intro @List.length_nil.{0} <|
  And.intro @List.getElem?_cons_succ.{0} <|
  And.intro @List.getElem?_cons_zero.{0} <|
  And.intro @List.take_succ_cons.{0} <|
  And.intro @List.take_zero.{0} <|
  And.intro @List.drop_succ_cons.{0} <|
  And.intro @List.drop_zero.{0} <|
  And.intro @List.cons_append.{0} <|
  And.intro @List.nil_append.{0} <|
  And.intro @List.append_nil.{0} <|
  And.intro @if_true.{1} <|
  And.intro @if_false.{1} <|
  And.intro @ite_true.{1} <|
  And.intro @ite_false.{1} <|
  And.intro @ne_eq.{1} <|
  And.intro @not_true <|
  And.intro @not_false_eq_true <|
  And.intro @Nat.add_zero <|
  And.intro @Nat.zero_add <|
  And.intro @and_true <|
  And.intro @true_and <|
  And.intro @and_self <|
  And.intro @forall_const.{1} <|
  And.intro @forall_const.{0} <|
  And.intro @Bool.not_true <|
  And.intro @Bool.not_false <|
  And.intro @Nat.succ_eq_add_one <|
  And.intro @imp_false <|
  And.intro @false_imp_iff <|
  And.intro @forall_false <|
  And.intro @true_imp_iff <|
  And.intro @Bool.and_true <|
  And.intro @Bool.and_false <|
  And.intro @Bool.true_and <|
  And.intro @Bool.false_and <|
  And.intro @implies_true.{1} <|
  And.intro @implies_true.{0} <|
  And.intro @over_sl <|
  And.intro @over_gen <|
  And.intro @over_ob <|
  And.intro @List.contains_cons.{0} <|
  And.intro @List.contains_nil.{0} <|
  And.intro @Bool.or_false <|
  And.intro @Bool.or_true <|
  And.intro @Bool.false_or <|
  And.intro @Bool.true_or <|
  And.intro @cond_true.{1} <|
  And.intro @cond_false.{1} <|
  And.intro @Bool.cond_true.{0} <|
  And.intro @Bool.cond_false.{0} <|
  And.intro @Int.toNat_natCast <|
  And.intro @Int.natCast_nonneg <|
  And.intro @List.getElem?_map.{0,0} <|
  And.intro @List.length_map.{0,0} <|
  And.intro @List.mem_cons.{0} <|
  And.intro @List.not_mem_nil.{0} <|
  And.intro @forall_eq.{1} <|
  And.intro @forall_eq_or_imp.{1} <|
  And.intro @false_or <|
  And.intro @or_true <|
  And.intro @true_or <|
  And.intro @or_false <|
  And.intro @St.res.eq_1 <|
  And.intro @St.res1.eq_1 <|
  And.intro @St.res1.eq_2 <|
  And.intro @decide_eq_true_eq <|
  @decide_eq_false_iff_not
end Go.Proofs.Ytohliamalaifhaa
end
section
set_option linter.unusedSimpArgs false
set_option linter.unusedVariables false
namespace Go.Proofs.Ytohliamalaifhaa
open Go.RowKit

structure Ev where
  g : Int
  kind : Int
  obj : Int
  off : Int
  k : Int
  n : Int
  fn : Int
  pc : Int
  stack : Int
deriving DecidableEq, Inhabited

def I64 (x : Int) : Prop := -9223372036854775808 ≤ x ∧ x ≤ 9223372036854775807
/-- every field is an int64 -/
def Ev.wf (e : Ev) : Prop := I64 e.g ∧ I64 e.kind ∧ I64 e.obj ∧ I64 e.off ∧ I64 e.k ∧ I64 e.n ∧ I64 e.fn ∧ I64 e.pc ∧ I64 e.stack

def Ev.cells (e : Ev) : List Value := [.int .i64 e.g, .int .i64 e.kind, .int .i64 e.obj, .int .i64 e.off, .int .i64 e.k, .int .i64 e.n, .int .i64 e.fn, .int .i64 e.pc, .int .i64 e.stack]
def Ev.val (e : Ev) : Value := .agg #[.int .i64 e.g, .int .i64 e.kind, .int .i64 e.obj, .int .i64 e.off, .int .i64 e.k, .int .i64 e.n, .int .i64 e.fn, .int .i64 e.pc, .int .i64 e.stack]

def numberedB (k : Int) : Bool := decide (15 ≤ k ∧ k ≤ 18)
def isKindB (k : Int) : Bool := decide (1 ≤ k ∧ k ≤ 20)
def chanB (k : Int) : Bool := decide (15 ≤ k ∧ k ≤ 20)
def memB (k : Int) : Bool := decide (k = 1 ∨ k = 2)
def rangeB (x : Int) : Bool := decide (0 ≤ x ∧ x ≤ 2147483647)
def Ev.rest (e : Ev) : Bool :=
  if e.kind = 14 then decide (e.obj = 0 ∧ e.off = 0 ∧ e.n = 0 ∧ 1 ≤ e.k ∧ e.k < 8)
  else if 15 ≤ e.kind ∧ e.kind ≤ 18 then decide (e.off = 0 ∧ e.n ≤ 64)
  else if 19 ≤ e.kind then decide (e.off = 0 ∧ e.n ≤ 64 ∧ e.k = 0)
  else decide (e.k = 0 ∧ e.n = 0)
/-- what both texts call a valid event -/
def Ev.valid (e : Ev) : Bool := isKindB e.kind && decide (0 ≤ e.g ∧ e.g < 8) &&
  (rangeB e.obj && rangeB e.off && rangeB e.k && rangeB e.n && rangeB e.fn && rangeB e.pc && rangeB e.stack) && e.rest

/-! The state of a trace, as the program keeps it. -/
structure Ch where
  cap : Int
  sent : Int
  recv : Int
  closed : Bool
deriving DecidableEq, Inhabited
def ch0 : Ch := ⟨0, 0, 0, false⟩
structure Mu where
  locked : Bool
  readers : Int
deriving DecidableEq, Inhabited
def mu0 : Mu := ⟨false, 0⟩
structure Grp where
  kinds : List Int
  obj : Int
  k : Int
  n : Int
  snd : Int
  rcv : Int
def grp0 : Grp := ⟨[], 0, 0, 0, 0, 0⟩
structure TS where
  events : Int
  gor : Int
  chans : Int → Option Ch
  mus : Int × Int → Option Mu
  done : Int × Int → Option Bool
  grp : Grp
def TS.new : TS := ⟨0, 1, fun _ => none, fun _ => none, fun _ => none, grp0⟩

/-- f, but v at x -/
def upd {κ : Type} [DecidableEq κ] {α : Type} (f : κ → Option α) (x : κ) (v : α) : κ → Option α := fun y => if y = x then some v else f y
theorem upd_same {κ : Type} [DecidableEq κ] {α : Type} (f : κ → Option α) (x : κ) (v : α) : upd f x v x = some v := if_pos rfl
theorem upd_other {κ : Type} [DecidableEq κ] {α : Type} (f : κ → Option α) {x y : κ} (v : α) (h : y ≠ x) : upd f x v y = f y := if_neg h
theorem upd_upd {κ : Type} [DecidableEq κ] {α : Type} (f : κ → Option α) (x : κ) (v u : α) : upd (upd f x v) x u = upd f x u := by
  funext y; unfold upd; split <;> rfl

def Ch.count (c : Ch) (kind : Int) : Ch := if kind = 15 then { c with sent := c.sent + 1 } else if kind = 17 then { c with recv := c.recv + 1 } else c
def TS.count (s : TS) (e : Ev) : TS := { s with chans := upd s.chans e.obj (((s.chans e.obj).getD ch0).count e.kind) }

def sendsB (k : Int) : Bool := decide (k = 15 ∨ k = 16)
def Grp.own (o : Grp) (kind : Int) : Int := if sendsB kind = true then o.snd else o.rcv
def Grp.other (o : Grp) (kind : Int) : Int := if sendsB kind = true then o.rcv else o.snd
def Grp.next (o : Grp) (e : Ev) : Grp :=
  if sendsB e.kind = true then { o with kinds := o.kinds.tail, snd := e.g } else { o with kinds := o.kinds.tail, rcv := e.g }
def Grp.fits (o : Grp) (e : Ev) : Bool :=
  decide (e.kind = o.kinds.headD 0 ∧ e.obj = o.obj ∧ e.k = o.k ∧ e.n = o.n) && !(decide (o.own e.kind < 0 ∧ e.g = o.other e.kind) || decide (0 ≤ o.own e.kind ∧ e.g ≠ o.own e.kind))
def TS.proceed (s : TS) (e : Ev) : Option TS :=
  if s.grp.fits e = true then some { s.count e with grp := s.grp.next e } else none

def TS.chan (s : TS) (e : Ev) : Ch := match s.chans e.obj with
  | some c => c
  | none => { ch0 with cap := e.n }
def TS.start (s : TS) (e : Ev) (c : Ch) (kinds : List Int) (snd rcv : Int) : TS :=
  { s with chans := upd s.chans e.obj (c.count e.kind), grp := ⟨kinds, e.obj, e.k, e.n, snd, rcv⟩ }
/-- the events that are missing behind the first one of a group -/
def Ch.missing (c : Ch) (kind : Int) (alone : Bool) : Option (List Int) :=
  if kind = 15 then (if c.sent - c.recv < c.cap then some [16] else if c.cap = 0 ∧ alone = false then some [17, 18, 16] else none)
  else (if c.recv < c.sent then some [18] else if c.closed = false ∧ alone = false then some [15, 18, 16] else none)
def TS.operate (s : TS) (e : Ev) : Option TS :=
  let c := s.chan e
  if c.cap ≠ e.n then none
  else if e.kind = 19 then (if c.closed = true then none else some { s with chans := upd s.chans e.obj { c with closed := true } })
  else if e.kind = 20 then (if c.closed = true ∧ c.sent = c.recv then some s else none)
  else if e.kind = 15 then (if c.closed = true ∨ e.k ≠ c.sent then none else (c.missing 15 (decide (s.gor = 1))).map fun l => s.start e c l e.g (-1))
  else if e.kind = 17 then (if e.k ≠ c.recv then none else (c.missing 17 (decide (s.gor = 1))).map fun l => s.start e c l (-1) e.g)
  else none

def TS.mu (s : TS) (e : Ev) : Mu := (s.mus (e.obj, e.off)).getD mu0
def TS.simple (s : TS) (e : Ev) : Option TS :=
  let m := s.mu e
  let put (m : Mu) : Option TS := some { s with mus := upd s.mus (e.obj, e.off) m }
  if e.kind = 6 then (if m.locked = true ∨ 0 < m.readers then none else put { m with locked := true })
  else if e.kind = 7 then (if m.locked = false then none else put { m with locked := false })
  else if e.kind = 8 then (if m.locked = true then none else put { m with readers := m.readers + 1 })
  else if e.kind = 9 then (if m.readers = 0 then none else put { m with readers := m.readers - 1 })
  else if e.kind = 12 then (if (s.done (e.obj, e.off)).getD false = true then none else some { s with done := upd s.done (e.obj, e.off) true })
  else if e.kind = 13 then (if (s.done (e.obj, e.off)).getD false = true then some s else none)
  else if e.kind = 14 then (if e.k ≠ s.gor then none else some { s with gor := s.gor + 1 })
  else some s

def TS.isOpen (s : TS) : Bool := decide (0 < s.grp.kinds.length)
def TS.part (s : TS) (e : Ev) : Option TS :=
  if s.isOpen = true then s.proceed e else if chanB e.kind = true then s.operate e else s.simple e
def TS.admits (s : TS) (e : Ev) : Bool := e.valid && decide (s.events < 5000) && decide (e.g < s.gor)
def TS.add (s : TS) (e : Ev) : Option TS :=
  if s.admits e = true then (s.part e).map fun t => { t with events := t.events + 1 } else none

/-- what bounds the numbers of a state -/
structure TS.wf (s : TS) : Prop where
  ev : 0 ≤ s.events ∧ s.events ≤ 5000
  gr : 1 ≤ s.gor ∧ s.gor ≤ 8
  ch : ∀ x c, s.chans x = some c → (0 ≤ c.sent ∧ c.sent ≤ s.events) ∧ (0 ≤ c.recv ∧ c.recv ≤ s.events) ∧ (0 ≤ c.cap ∧ c.cap ≤ 64)
  mu : ∀ x m, s.mus x = some m → 0 ≤ m.readers ∧ m.readers ≤ s.events
  kd : s.grp.kinds.length ≤ 3

theorem TS.wf_new : TS.new.wf := ⟨by decide, by decide, (fun _ _ h => by cases h), (fun _ _ h => by cases h), by decide⟩

theorem Ev.valid_n {e : Ev} (h : e.valid = true) : 0 ≤ e.n ∧ e.n ≤ 2147483647 := by
  simp only [Ev.valid, rangeB, Bool.and_eq_true, decide_eq_true_eq] at h; omega
theorem Ev.valid_k {e : Ev} (h : e.valid = true) : 0 ≤ e.k ∧ e.k ≤ 2147483647 := by
  simp only [Ev.valid, rangeB, Bool.and_eq_true, decide_eq_true_eq] at h; omega
theorem Ev.valid_obj {e : Ev} (h : e.valid = true) : 0 ≤ e.obj ∧ e.obj ≤ 2147483647 := by
  simp only [Ev.valid, rangeB, Bool.and_eq_true, decide_eq_true_eq] at h; omega
theorem Ev.valid_off {e : Ev} (h : e.valid = true) : 0 ≤ e.off ∧ e.off ≤ 2147483647 := by
  simp only [Ev.valid, rangeB, Bool.and_eq_true, decide_eq_true_eq] at h; omega
theorem Ev.valid_g {e : Ev} (h : e.valid = true) : 0 ≤ e.g ∧ e.g < 8 := by
  simp only [Ev.valid, rangeB, Bool.and_eq_true, decide_eq_true_eq] at h; omega
theorem Ev.valid_kind {e : Ev} (h : e.valid = true) : 1 ≤ e.kind ∧ e.kind ≤ 20 := by
  simp only [Ev.valid, isKindB, Bool.and_eq_true, decide_eq_true_eq] at h; omega
theorem Ev.valid_cap {e : Ev} (h : e.valid = true) (hk : chanB e.kind = true) : e.n ≤ 64 := by
  simp only [Ev.valid, Ev.rest, Bool.and_eq_true] at h
  simp only [chanB, decide_eq_true_eq] at hk
  have h2 := h.2
  rw [if_neg (by omega)] at h2
  split at h2
  · simp at h2; omega
  · rw [if_pos (by omega)] at h2; simp at h2; omega
theorem Ev.valid_go {e : Ev} (h : e.valid = true) (hk : e.kind = 14) : 1 ≤ e.k ∧ e.k < 8 := by
  simp only [Ev.valid, Ev.rest, Bool.and_eq_true] at h
  have h2 := h.2
  rw [if_pos hk] at h2
  simp at h2; omega

theorem Ch.count_bd {c : Ch} {B kind : Int} (h : (0 ≤ c.sent ∧ c.sent ≤ B) ∧ (0 ≤ c.recv ∧ c.recv ≤ B) ∧ (0 ≤ c.cap ∧ c.cap ≤ 64)) :
    (0 ≤ (c.count kind).sent ∧ (c.count kind).sent ≤ B + 1) ∧ (0 ≤ (c.count kind).recv ∧ (c.count kind).recv ≤ B + 1) ∧ (0 ≤ (c.count kind).cap ∧ (c.count kind).cap ≤ 64) := by
  unfold Ch.count
  split
  · dsimp only; omega
  · split
    · dsimp only; omega
    · omega

theorem TS.chan_bd {s : TS} (h : s.wf) {e : Ev} (hv : e.valid = true) (hk : chanB e.kind = true) :
    (0 ≤ (s.chan e).sent ∧ (s.chan e).sent ≤ s.events) ∧ (0 ≤ (s.chan e).recv ∧ (s.chan e).recv ≤ s.events) ∧ (0 ≤ (s.chan e).cap ∧ (s.chan e).cap ≤ 64) := by
  unfold TS.chan
  have h1 := h.ev
  have h2 := Ev.valid_cap hv hk
  have h3 := Ev.valid_n hv
  cases hc : s.chans e.obj with
  | none => dsimp [ch0]; omega
  | some c => exact h.ch _ _ hc
theorem TS.mu_bd {s : TS} (h : s.wf) (e : Ev) : 0 ≤ (s.mu e).readers ∧ (s.mu e).readers ≤ s.events := by
  unfold TS.mu
  have h1 := h.ev
  cases hc : s.mus (e.obj, e.off) with
  | none => dsimp [mu0]; omega
  | some m => exact h.mu _ _ hc

theorem upd_all {κ : Type} [DecidableEq κ] {α : Type} {f : κ → Option α} {x : κ} {v : α} {p : α → Prop} (hf : ∀ y c, f y = some c → p c) (hv : p v) : ∀ y c, upd f x v y = some c → p c := by
  intro y c h
  unfold upd at h
  split at h
  · cases h; exact hv
  · exact hf y c h

/-- a state that an event leads to is bounded, one event more being counted -/
theorem TS.part_wf {s t : TS} (h : s.wf) {e : Ev} (hv : e.valid = true) (hp : s.part e = some t) :
    t.events = s.events ∧ (1 ≤ t.gor ∧ t.gor ≤ 8) ∧ (∀ x c, t.chans x = some c → (0 ≤ c.sent ∧ c.sent ≤ s.events + 1) ∧ (0 ≤ c.recv ∧ c.recv ≤ s.events + 1) ∧ (0 ≤ c.cap ∧ c.cap ≤ 64)) ∧
      (∀ x m, t.mus x = some m → 0 ≤ m.readers ∧ m.readers ≤ s.events + 1) ∧ t.grp.kinds.length ≤ 3 := by
  have hch : ∀ x c, s.chans x = some c → (0 ≤ c.sent ∧ c.sent ≤ s.events + 1) ∧ (0 ≤ c.recv ∧ c.recv ≤ s.events + 1) ∧ (0 ≤ c.cap ∧ c.cap ≤ 64) := fun x c hc => by
    have := h.ch x c hc; omega
  have hmu : ∀ x m, s.mus x = some m → 0 ≤ m.readers ∧ m.readers ≤ s.events + 1 := fun x m hm => by
    have := h.mu x m hm; omega
  have hgr := h.gr
  have hkd := h.kd
  have hev := h.ev
  unfold TS.part at hp
  split at hp
  · -- proceed
    unfold TS.proceed at hp
    split at hp
    · cases hp
      refine ⟨rfl, hgr, ?_, hmu, ?_⟩
      · refine upd_all hch (Ch.count_bd ?_)
        cases hc : s.chans e.obj with
        | none => dsimp [ch0]; omega
        | some c => exact h.ch _ _ hc
      · unfold Grp.next
        split <;> (simp; omega)
    · cases hp
  · split at hp
    · -- operate
      rename_i hk
      have hb := TS.chan_bd h hv hk
      unfold TS.operate at hp
      dsimp only at hp
      split at hp
      · cases hp
      split at hp
      · split at hp
        · cases hp
        · cases hp
          exact ⟨rfl, hgr, upd_all hch (by dsimp only; omega), hmu, hkd⟩
      split at hp
      · split at hp
        · cases hp; exact ⟨rfl, hgr, hch, hmu, hkd⟩
        · cases hp
      split at hp
      · split at hp
        · cases hp
        · simp only [Option.map_eq_some_iff] at hp
          obtain ⟨l, hl, rfl⟩ := hp
          refine ⟨rfl, hgr, upd_all hch (Ch.count_bd hb), hmu, ?_⟩
          unfold Ch.missing at hl
          simp only [if_pos] at hl
          split at hl
          · cases hl; simp [TS.start]
          · split at hl
            · cases hl; simp [TS.start]
            · cases hl
      split at hp
      · split at hp
        · cases hp
        · simp only [Option.map_eq_some_iff] at hp
          obtain ⟨l, hl, rfl⟩ := hp
          refine ⟨rfl, hgr, upd_all hch (Ch.count_bd hb), hmu, ?_⟩
          unfold Ch.missing at hl
          rw [if_neg (by decide)] at hl
          split at hl
          · cases hl; simp [TS.start]
          · split at hl
            · cases hl; simp [TS.start]
            · cases hl
      · cases hp
    · -- simple
      have hm := TS.mu_bd h e
      unfold TS.simple at hp
      dsimp only at hp
      split at hp
      · split at hp
        · cases hp
        · cases hp; exact ⟨rfl, hgr, hch, upd_all hmu (by dsimp only; omega), hkd⟩
      split at hp
      · split at hp
        · cases hp
        · cases hp; exact ⟨rfl, hgr, hch, upd_all hmu (by dsimp only; omega), hkd⟩
      split at hp
      · split at hp
        · cases hp
        · cases hp; exact ⟨rfl, hgr, hch, upd_all hmu (by dsimp only; omega), hkd⟩
      split at hp
      · split at hp
        · cases hp
        · cases hp; exact ⟨rfl, hgr, hch, upd_all hmu (by dsimp only; omega), hkd⟩
      split at hp
      · split at hp
        · cases hp
        · cases hp; exact ⟨rfl, hgr, hch, hmu, hkd⟩
      split at hp
      · split at hp
        · cases hp; exact ⟨rfl, hgr, hch, hmu, hkd⟩
        · cases hp
      split at hp
      · rename_i hgo
        have := Ev.valid_go hv hgo
        split at hp
        · cases hp
        · cases hp; exact ⟨rfl, by dsimp only; omega, hch, hmu, hkd⟩
      · cases hp; exact ⟨rfl, hgr, hch, hmu, hkd⟩

theorem TS.add_wf {s t : TS} (h : s.wf) {e : Ev} (ha : s.add e = some t) : t.wf := by
  unfold TS.add at ha
  split at ha
  · rename_i had
    simp only [TS.admits, Bool.and_eq_true, decide_eq_true_eq] at had
    simp only [Option.map_eq_some_iff] at ha
    obtain ⟨u, hu, rfl⟩ := ha
    obtain ⟨h1, h2, h3, h4, h5⟩ := TS.part_wf h had.1.1 hu
    have hev := h.ev
    exact ⟨by dsimp only; omega, h2, fun x c hc => by have := h3 x c hc; dsimp only; omega, fun x m hm => by have := h4 x m hm; dsimp only; omega, h5⟩
  · cases ha

/-! what operate comes to, way by way, the tests in the walk's own form -/
section
variable {s : TS} {g kind obj off k en fn pc stack cap sent recv : Int} {closed : Bool}
  (hc : s.chan ⟨g, kind, obj, off, k, en, fn, pc, stack⟩ = ⟨cap, sent, recv, closed⟩)
include hc
theorem TS.op_eq : s.operate ⟨g, kind, obj, off, k, en, fn, pc, stack⟩ =
    if cap ≠ en then none
    else if kind = 19 then (if closed = true then none else some { s with chans := upd s.chans obj ⟨cap, sent, recv, true⟩ })
    else if kind = 20 then (if closed = true ∧ sent = recv then some s else none)
    else if kind = 15 then (if closed = true ∨ k ≠ sent then none else ((⟨cap, sent, recv, closed⟩ : Ch).missing 15 (decide (s.gor = 1))).map fun l => s.start ⟨g, kind, obj, off, k, en, fn, pc, stack⟩ ⟨cap, sent, recv, closed⟩ l g (-1))
    else if kind = 17 then (if k ≠ recv then none else ((⟨cap, sent, recv, closed⟩ : Ch).missing 17 (decide (s.gor = 1))).map fun l => s.start ⟨g, kind, obj, off, k, en, fn, pc, stack⟩ ⟨cap, sent, recv, closed⟩ l (-1) g)
    else none := by
  unfold TS.operate; rw [hc]
theorem TS.op_nA (h1 : (cap != en) = true) : s.operate ⟨g, kind, obj, off, k, en, fn, pc, stack⟩ = none := by
  rw [TS.op_eq hc]; simp_all
theorem TS.op_nB (h1 : (kind == 19) = true) (h2 : closed = true) : s.operate ⟨g, kind, obj, off, k, en, fn, pc, stack⟩ = none := by
  rw [TS.op_eq hc]; simp_all
theorem TS.op_n20 (h1 : (kind == 20) = true) (h2 : ¬closed = true) : s.operate ⟨g, kind, obj, off, k, en, fn, pc, stack⟩ = none := by
  rw [TS.op_eq hc]; simp_all
theorem TS.op_nD (h1 : (kind == 15) = true) (h2 : closed = true) : s.operate ⟨g, kind, obj, off, k, en, fn, pc, stack⟩ = none := by
  rw [TS.op_eq hc]; simp_all
theorem TS.op_nE (h1 : (kind == 15) = true) (h2 : (k != sent) = true) : s.operate ⟨g, kind, obj, off, k, en, fn, pc, stack⟩ = none := by
  rw [TS.op_eq hc]; simp_all
theorem TS.op_nF (h1 : (kind == 15) = true) (h2 : cap ≤ sent - recv) (h3 : (!s.gor == 1) = false) : s.operate ⟨g, kind, obj, off, k, en, fn, pc, stack⟩ = none := by
  rw [TS.op_eq hc]; simp_all [Ch.missing]; intros; omega
theorem TS.op_nG (h1 : (kind == 15) = true) (h2 : cap ≤ sent - recv) (h3 : ¬cap = 0) : s.operate ⟨g, kind, obj, off, k, en, fn, pc, stack⟩ = none := by
  rw [TS.op_eq hc]; simp_all [Ch.missing]; intros; omega
theorem TS.op_nH (h1 : (kind == 17) = true) (h2 : (k != recv) = true) : s.operate ⟨g, kind, obj, off, k, en, fn, pc, stack⟩ = none := by
  rw [TS.op_eq hc]; simp_all
theorem TS.op_nI (h1 : (kind == 17) = true) (h2 : sent ≤ recv) (h3 : closed = true) : s.operate ⟨g, kind, obj, off, k, en, fn, pc, stack⟩ = none := by
  have h4 : ¬ recv < sent := by omega
  rw [TS.op_eq hc]; simp_all [Ch.missing]
theorem TS.op_nJ (h1 : (kind == 17) = true) (h2 : sent ≤ recv) (h3 : (!s.gor == 1) = false) : s.operate ⟨g, kind, obj, off, k, en, fn, pc, stack⟩ = none := by
  have h4 : ¬ recv < sent := by omega
  rw [TS.op_eq hc]; simp_all [Ch.missing]
theorem TS.op_nK (h1 : (kind == 19) = false) (h2 : (kind == 20) = false) (h3 : (kind == 15) = false) (h4 : (kind == 17) = false) : s.operate ⟨g, kind, obj, off, k, en, fn, pc, stack⟩ = none := by
  rw [TS.op_eq hc]; simp_all
theorem TS.op_s19 (h0 : (cap != en) = false) (h1 : (kind == 19) = true) (h2 : closed = false) : s.operate ⟨g, kind, obj, off, k, en, fn, pc, stack⟩ = some { s with chans := upd s.chans obj ⟨cap, sent, recv, true⟩ } := by
  rw [TS.op_eq hc]; simp_all
theorem TS.op_s20 (h0 : (cap != en) = false) (h1 : (kind == 20) = true) (h2 : closed = true) : s.operate ⟨g, kind, obj, off, k, en, fn, pc, stack⟩ = if sent = recv then some s else none := by
  rw [TS.op_eq hc]; simp_all
theorem TS.op_s15a (h0 : (cap != en) = false) (h1 : (kind == 15) = true) (h2 : ¬closed = true) (h3 : (k != sent) = false) (h4 : sent - recv < cap) : s.operate ⟨g, kind, obj, off, k, en, fn, pc, stack⟩ = some (s.start ⟨g, kind, obj, off, k, en, fn, pc, stack⟩ ⟨cap, sent, recv, closed⟩ [16] g (-1)) := by
  rw [TS.op_eq hc]; simp_all [Ch.missing]
theorem TS.op_s15b (h0 : (cap != en) = false) (h1 : (kind == 15) = true) (h2 : ¬closed = true) (h3 : (k != sent) = false) (h4 : cap ≤ sent - recv) (h5 : cap = 0) (h6 : (!s.gor == 1) = true) : s.operate ⟨g, kind, obj, off, k, en, fn, pc, stack⟩ = some (s.start ⟨g, kind, obj, off, k, en, fn, pc, stack⟩ ⟨cap, sent, recv, closed⟩ [17, 18, 16] g (-1)) := by
  have hm : (⟨cap, sent, recv, closed⟩ : Ch).missing 15 (decide (s.gor = 1)) = some [17, 18, 16] := by
    unfold Ch.missing
    rw [if_pos rfl]
    dsimp only
    rw [if_neg (by omega), if_pos ⟨h5, by simpa using h6⟩]
  rw [TS.op_eq hc, hm]; simp_all
theorem TS.op_s17a (h0 : (cap != en) = false) (h1 : (kind == 17) = true) (h3 : (k != recv) = false) (h4 : recv < sent) : s.operate ⟨g, kind, obj, off, k, en, fn, pc, stack⟩ = some (s.start ⟨g, kind, obj, off, k, en, fn, pc, stack⟩ ⟨cap, sent, recv, closed⟩ [18] (-1) g) := by
  rw [TS.op_eq hc]; simp_all [Ch.missing]
theorem TS.op_s17b (h0 : (cap != en) = false) (h1 : (kind == 17) = true) (h2 : ¬closed = true) (h3 : (k != recv) = false) (h4 : sent ≤ recv) (h6 : (!s.gor == 1) = true) : s.operate ⟨g, kind, obj, off, k, en, fn, pc, stack⟩ = some (s.start ⟨g, kind, obj, off, k, en, fn, pc, stack⟩ ⟨cap, sent, recv, closed⟩ [15, 18, 16] (-1) g) := by
  have hm : (⟨cap, sent, recv, closed⟩ : Ch).missing 17 (decide (s.gor = 1)) = some [15, 18, 16] := by
    unfold Ch.missing
    rw [if_neg (by decide)]
    dsimp only
    rw [if_neg (by omega), if_pos ⟨by simpa using h2, by simpa using h6⟩]
  rw [TS.op_eq hc, hm]; simp_all
end
end Go.Proofs.Ytohliamalaifhaa
end
section
set_option linter.unusedSimpArgs false
set_option linter.unusedVariables false
namespace Go.Proofs.Ytohliamalaifhaa

/-- the state behind a list of events, if all are possible -/
def TS.steps (s : TS) : List Ev → Option TS
  | [] => some s
  | e :: l => (s.add e).bind fun t => t.steps l
/-- how many are possible at the beginning -/
def TS.chk (s : TS) : List Ev → Nat
  | [] => 0
  | e :: l => match s.add e with
    | some t => t.chk l + 1
    | none => 0

theorem TS.steps_append (s : TS) (l m : List Ev) : s.steps (l ++ m) = (s.steps l).bind fun t => t.steps m := by
  induction l generalizing s with
  | nil => rfl
  | cons e l ih =>
    simp only [List.cons_append, TS.steps]
    cases s.add e with
    | none => rfl
    | some t => simpa using ih t
theorem TS.steps_snoc (s : TS) (l : List Ev) (e : Ev) : s.steps (l ++ [e]) = (s.steps l).bind fun t => t.add e := by
  rw [TS.steps_append]
  congr 1
  funext t
  simp [TS.steps]
theorem TS.steps_take_succ {s : TS} {l : List Ev} {k : Nat} (h : k < l.length) : s.steps (l.take (k + 1)) = (s.steps (l.take k)).bind fun t => t.add l[k] := by
  rw [List.take_succ_eq_append_getElem h, TS.steps_snoc]
theorem TS.chk_le (s : TS) (l : List Ev) : s.chk l ≤ l.length := by
  induction l generalizing s with
  | nil => simp [TS.chk]
  | cons e l ih =>
    simp only [TS.chk]
    split
    · rename_i t _; have := ih t; simp; omega
    · simp
theorem TS.steps_wf {s t : TS} (h : s.wf) {l : List Ev} (hs : s.steps l = some t) : t.wf := by
  induction l generalizing s with
  | nil => simp [TS.steps] at hs; subst hs; exact h
  | cons e l ih =>
    simp only [TS.steps, Option.bind_eq_some_iff] at hs
    obtain ⟨u, hu, hs⟩ := hs
    exact ih (TS.add_wf h hu) hs
/-- what the loop finds is that number -/
theorem TS.chk_of {s : TS} {l : List Ev} {k : Nat} (hk : k ≤ l.length) {t : TS} (hs : s.steps (l.take k) = some t) (hn : ∀ e, l[k]? = some e → t.add e = none) : s.chk l = k := by
  induction l generalizing s k with
  | nil => simp at hk; subst hk; rfl
  | cons e l ih =>
    cases k with
    | zero =>
      simp [TS.steps] at hs
      subst hs
      have := hn e rfl
      simp [TS.chk, this]
    | succ k =>
      simp only [List.take_succ_cons, TS.steps, Option.bind_eq_some_iff] at hs
      obtain ⟨u, hu, hs⟩ := hs
      simp only [TS.chk, hu]
      rw [ih (by simpa using hk) hs (fun e' he' => hn e' (by simpa using he'))]
/-- up to that number all are possible -/
theorem TS.chk_steps (s : TS) (l : List Ev) {k : Nat} (hk : k ≤ s.chk l) : ∃ t, s.steps (l.take k) = some t := by
  induction l generalizing s k with
  | nil => simp [TS.chk] at hk; subst hk; exact ⟨s, rfl⟩
  | cons e l ih =>
    cases k with
    | zero => exact ⟨s, rfl⟩
    | succ k =>
      simp only [TS.chk] at hk
      cases ha : s.add e with
      | none => rw [ha] at hk; simp at hk
      | some u =>
        rw [ha] at hk
        obtain ⟨t, ht⟩ := ih u (k := k) (by simpa using hk)
        exact ⟨t, by simp [TS.steps, ha, ht]⟩
theorem TS.chk_stop (s : TS) (l : List Ev) {t : TS} (hs : s.steps (l.take (s.chk l)) = some t) : ∀ e, l[s.chk l]? = some e → t.add e = none := by
  induction l generalizing s with
  | nil => intro e he; simp at he
  | cons a l ih =>
    intro e he
    cases ha : s.add a with
    | none =>
      simp only [TS.chk, ha] at he hs
      simp [TS.steps] at hs he
      subst hs; subst he; exact ha
    | some u =>
      simp only [TS.chk, ha] at he hs
      simp only [List.take_succ_cons, TS.steps, ha, Option.bind_some] at hs
      exact ih u hs e (by simpa using he)
theorem TS.chk_take (s : TS) (l : List Ev) (k : Nat) : s.chk (l.take k) = min (s.chk l) k := by
  induction l generalizing s k with
  | nil => simp [TS.chk]
  | cons e l ih =>
    cases k with
    | zero => simp [TS.chk]
    | succ k =>
      simp only [List.take_succ_cons, TS.chk]
      cases s.add e with
      | none => simp
      | some t => simp only [ih]; omega

/-- the last place up to k behind which no group is open -/
def TS.wholeTo (s : TS) (l : List Ev) : Nat → Nat
  | 0 => 0
  | k + 1 => match s.steps (l.take (k + 1)) with
    | some t => if t.isOpen = true then s.wholeTo l k else k + 1
    | none => s.wholeTo l k
theorem TS.wholeTo_le (s : TS) (l : List Ev) (k : Nat) : s.wholeTo l k ≤ k := by
  induction k with
  | zero => simp [TS.wholeTo]
  | succ k ih =>
    simp only [TS.wholeTo]
    split
    · split
      · omega
      · omega
    · omega
def chk (l : List Ev) : Nat := TS.new.chk l
def wholeOf (l : List Ev) : Nat := TS.new.wholeTo l (chk l)
theorem flat_at (l : List Ev) (i : Nat) (e : Ev) (h : l[i]? = some e) (j : Nat) (x : Value) (hx : e.cells[j]? = some x) : (l.flatMap Ev.cells)[i * 9 + j]? = some x := by
  have hlen : ∀ e : Ev, e.cells.length = 9 := fun _ => rfl
  have hj : j < 9 := by rw [← hlen e]; exact (List.getElem?_eq_some_iff.1 hx).1
  induction l generalizing i with
  | nil => cases h
  | cons a l ih =>
    rw [List.flatMap_cons]
    cases i with
    | zero =>
      simp at h; subst h
      rw [List.getElem?_append_left (by rw [hlen]; omega)]
      simpa using hx
    | succ i =>
      rw [List.getElem?_append_right (by rw [hlen]; omega), hlen, show (i + 1) * 9 + j - 9 = i * 9 + j by omega]
      exact ih i (by simpa using h)

end Go.Proofs.Ytohliamalaifhaa
end
section
set_option linter.unusedSimpArgs false
set_option linter.unusedVariables false
namespace Go.Proofs.Ytohliamalaifhaa
open Go Go.RowKit

/-- nothing is asked of the world -/
instance : WInv := ⟨fun _ => True, fun _ _ _ _ => trivial⟩
abbrev dI (n : Int) : Dt := .sc (.int .i64 n)
abbrev dB (b : Bool) : Dt := .sc (.bool b)
abbrev aI (n : Int) : Av := .b (.one (.d (.sc (.int .i64 n))))
abbrev aB (b : Bool) : Av := .b (.one (.d (.sc (.bool b))))
abbrev pI (n : Int) : Pa := .one (.sc (.int .i64 n))
abbrev pB (b : Bool) : Pa := .one (.sc (.bool b))
def Ev.row (e : Ev) : List Dt := [dI e.g, dI e.kind, dI e.obj, dI e.off, dI e.k, dI e.n, dI e.fn, dI e.pc, dI e.stack]
def Ev.pa (e : Ev) : Pa := .agg e.row
def evsD (l : List Ev) : Dt := .im (l.map Ev.row)
def evsPa (l : List Ev) : Pa := .one (evsD l)

structure RCh where
  obj : Int
  n : Int
  sent : Int
  recv : Int
  closed : Bool
def RCh.row (c : RCh) : List Dt := [dI c.obj, dI c.n, dI c.sent, dI c.recv, dB c.closed]
structure RLk where
  obj : Int
  off : Int
  locked : Bool
  readers : Int
def RLk.row (c : RLk) : List Dt := [dI c.obj, dI c.off, dB c.locked, dI c.readers]
def locRow (p : Int × Int) : List Dt := [dI p.1, dI p.2]
structure RWt where
  kind : Int
  g : Int
  not : Int
def RWt.row (c : RWt) : List Dt := [dI c.kind, dI c.g, dI c.not]
structure RSt where
  count : Int
  gor : Int
  chans : List RCh
  locks : List RLk
  done : List (Int × Int)
  next : List RWt
  obj : Int
  k : Int
  n : Int
def RSt.row (s : RSt) : List Dt := [dI s.count, dI s.gor, .im (s.chans.map RCh.row), .im (s.locks.map RLk.row), .im (s.done.map locRow), .im (s.next.map RWt.row), dI s.obj, dI s.k, dI s.n]
def RSt.pa (s : RSt) : Pa := .agg s.row
/-- what bounds the numbers of a state -/
structure RSt.ok (s : RSt) : Prop where
  ct : 0 ≤ s.count ∧ s.count ≤ 1000000
  gr : 0 ≤ s.gor ∧ s.gor ≤ 1000000
  ch : s.chans.length ≤ 900000 ∧ ∀ c, c ∈ s.chans → (0 ≤ c.sent ∧ c.sent ≤ 1000000) ∧ (0 ≤ c.recv ∧ c.recv ≤ 1000000)
  lk : s.locks.length ≤ 900000 ∧ ∀ c, c ∈ s.locks → 0 ≤ c.readers ∧ c.readers ≤ 1000000
  dn : s.done.length ≤ 900000
  nx : s.next.length ≤ 900000

def RSt.new : RSt := ⟨0, 1, [], [], [], [], 0, 0, 0⟩
def RSt.channel (s : RSt) (obj n : Int) : RCh := (s.chans.find? (fun c => c.obj == obj)).getD ⟨obj, n, 0, 0, false⟩
def RSt.setChannel (s : RSt) (c : RCh) : RSt := { s with chans := s.chans.filter (fun d => d.obj != c.obj) ++ [c] }
def RSt.lock (s : RSt) (obj off : Int) : RLk := (s.locks.find? (fun c => c.obj == obj && c.off == off)).getD ⟨obj, off, false, 0⟩
def RSt.setLock (s : RSt) (c : RLk) : RSt := { s with locks := s.locks.filter (fun d => d.obj != c.obj || d.off != c.off) ++ [c] }
def RSt.isDone (s : RSt) (obj off : Int) : Bool := s.done.any (fun c => c.1 == obj && c.2 == off)
def RCh.count (c : RCh) (kind : Int) : RCh := if kind = 15 then { c with sent := c.sent + 1 } else if kind = 17 then { c with recv := c.recv + 1 } else c
def RSt.counted (s : RSt) (e : Ev) : RSt := if e.kind = 15 ∨ e.kind = 17 then s.setChannel ((s.channel e.obj e.n).count e.kind) else s
def RSt.begin (s : RSt) (e : Ev) (next : List RWt) : RSt := RSt.counted { s with next := next, obj := e.obj, k := e.k, n := e.n } e

/-- does the event go with what a group wants next -/
def RSt.fits (s : RSt) (w : RWt) (e : Ev) : Bool := !((e.kind != w.kind || (e.obj != s.obj || (e.k != s.k || (e.n != s.n || (decide (0 ≤ w.g) && e.g != w.g))))) || (decide (w.g < 0) && e.g == w.not))
def RWt.known (w : RWt) (g : Int) (x : RWt) : RWt := if w.g < 0 ∧ x.g < 0 then { x with g := g } else x
def RSt.groupR (s : RSt) (e : Ev) : RSt × Bool := match s.next with
  | [] => (s, false)
  | w :: rest => if s.fits w e = true then (RSt.counted { s with next := rest.map (w.known e.g) } e, true) else (s, false)
def RSt.transferR (s : RSt) (e : Ev) : RSt × Bool :=
  if (s.channel e.obj e.n).n ≠ e.n then (s, false)
  else if e.kind = 15 then
    if e.k ≠ (s.channel e.obj e.n).sent then (s, false)
    else if (s.channel e.obj e.n).closed = true then (s, false)
    else if 0 < (s.channel e.obj e.n).n ∧ (s.channel e.obj e.n).sent - (s.channel e.obj e.n).recv < (s.channel e.obj e.n).n then (s.begin e [⟨16, e.g, 0⟩], true)
    else if (s.channel e.obj e.n).n = 0 ∧ 1 < s.gor then (s.begin e [⟨17, -1, e.g⟩, ⟨18, -1, 0⟩, ⟨16, e.g, 0⟩], true)
    else (s, false)
  else if e.kind = 17 then
    if e.k ≠ (s.channel e.obj e.n).recv then (s, false)
    else if (s.channel e.obj e.n).recv < (s.channel e.obj e.n).sent then (s.begin e [⟨18, e.g, 0⟩], true)
    else if (s.channel e.obj e.n).closed = false ∧ 1 < s.gor then (s.begin e [⟨15, -1, e.g⟩, ⟨18, e.g, 0⟩, ⟨16, -1, 0⟩], true)
    else (s, false)
  else if e.kind = 19 then
    if (s.channel e.obj e.n).closed = true then (s, false) else (s.setChannel { s.channel e.obj e.n with closed := true }, true)
  else if e.kind = 20 then (s, (s.channel e.obj e.n).closed && (s.channel e.obj e.n).sent == (s.channel e.obj e.n).recv)
  else (s, false)
def RSt.otherR (s : RSt) (e : Ev) : RSt × Bool :=
  if e.kind = 6 then (s.setLock { s.lock e.obj e.off with locked := true }, !(s.lock e.obj e.off).locked && (s.lock e.obj e.off).readers == 0)
  else if e.kind = 7 then (s.setLock { s.lock e.obj e.off with locked := false }, (s.lock e.obj e.off).locked)
  else if e.kind = 8 then (s.setLock { s.lock e.obj e.off with readers := (s.lock e.obj e.off).readers + 1 }, !(s.lock e.obj e.off).locked)
  else if e.kind = 9 then (s.setLock { s.lock e.obj e.off with readers := (s.lock e.obj e.off).readers - 1 }, decide (0 ≤ (s.lock e.obj e.off).readers - 1))
  else if e.kind = 12 then ({ s with done := s.done ++ [(e.obj, e.off)] }, !s.isDone e.obj e.off)
  else if e.kind = 13 then (s, s.isDone e.obj e.off)
  else if e.kind = 14 then ({ s with gor := s.gor + 1 }, e.k == s.gor)
  else (s, true)
def RSt.partR (s : RSt) (e : Ev) : RSt × Bool := if 0 < s.next.length then s.groupR e else if chanB e.kind = true then s.transferR e else s.otherR e
def RSt.admits (s : RSt) (e : Ev) : Bool := e.valid && decide (s.count < 5000) && decide (e.g < s.gor)
def RSt.addR (s : RSt) (e : Ev) : RSt × Bool :=
  if s.admits e = true ∧ (s.partR e).2 = true then ({ (s.partR e).1 with count := (s.partR e).1.count + 1 }, true) else (s, false)

theorem find_hit {α : Type} {l : List α} {p : α → Bool} {k : Nat} {c : α} (hno : ∀ i c, i < k → l[i]? = some c → p c = false) (hc : l[k]? = some c) (he : p c = true) : l.find? p = some c := by
  rw [List.find?_eq_some_iff_getElem]
  refine ⟨he, k, (List.getElem?_eq_some_iff.1 hc).1, (List.getElem?_eq_some_iff.1 hc).2, fun j hj => ?_⟩
  have h1 := List.getElem?_eq_getElem (show j < l.length by have := (List.getElem?_eq_some_iff.1 hc).1; omega)
  rw [hno j _ hj h1]; rfl
theorem find_miss {α : Type} {l : List α} {p : α → Bool} (hno : ∀ i c, i < l.length → l[i]? = some c → p c = false) : l.find? p = none := by
  rw [List.find?_eq_none]
  intro c hc
  obtain ⟨i, hi, rfl⟩ := List.getElem_of_mem hc
  rw [hno i _ hi (List.getElem?_eq_getElem hi)]; decide
theorem no_succ {α : Type} {l : List α} {p : α → Bool} {k : Nat} {c : α} (hno : ∀ i c, i < k → l[i]? = some c → p c = false) (hc : l[k]? = some c) (he : p c = false) : ∀ i c, i < k + 1 → l[i]? = some c → p c = false := by
  intro i c' hi hc'
  rcases Nat.lt_or_eq_of_le (Nat.le_of_lt_succ hi) with h | h
  · exact hno i c' h hc'
  · subst h; rw [hc] at hc'; cases hc'; exact he
theorem any_miss {α : Type} {l : List α} {p : α → Bool} (hno : ∀ i c, i < l.length → l[i]? = some c → p c = false) : l.any p = false := by
  rw [List.any_eq_false]
  intro c hc
  obtain ⟨i, hi, rfl⟩ := List.getElem_of_mem hc
  rw [hno i _ hi (List.getElem?_eq_getElem hi)]; decide
theorem filter_succ {α : Type} {l : List α} {p : α → Bool} {k : Nat} {c : α} (hc : l[k]? = some c) : (l.take (k + 1)).filter p = (l.take k).filter p ++ (if p c = true then [c] else []) := by
  obtain ⟨hk, rfl⟩ := List.getElem?_eq_some_iff.1 hc
  rw [List.take_succ_eq_append_getElem hk, List.filter_append]
  congr 1
  cases h : p l[k] <;> simp [h]
theorem filter_take_le {α : Type} (l : List α) (p : α → Bool) (k : Nat) : ((l.take k).filter p).length ≤ k :=
  Nat.le_trans (List.length_filter_le _ _) (List.length_take_le _ _)

theorem rows_len {α : Type} {f : α → List Dt} {n : Nat} (h : ∀ x, (f x).length = n) (l : List α) : (∀ r, r ∈ l.map f → r.length = n) = True := by
  apply propext
  refine ⟨fun _ => trivial, fun _ r hr => ?_⟩
  obtain ⟨x, _, rfl⟩ := List.mem_map.1 hr
  exact h x
end Go.Proofs.Ytohliamalaifhaa
end
section
set_option linter.unusedSimpArgs false
set_option linter.unusedVariables false
namespace Go.Proofs.Ytohliamalaifhaa
open Go

abbrev Ck := List Int
def ckZ : Ck := List.replicate 8 0
def joinC (a b : Ck) : Ck := List.zipWith (fun x y => if y > x then y else x) a b
def syncB (a b : Ev) : Bool :=
  if a.obj ≠ b.obj then false
  else if a.off ≠ b.off then false
  else if b.kind = 18 then a.kind == 15 && a.k == b.k
  else if b.kind = 16 then a.kind == 17 && b.k == a.k + b.n
  else if b.kind = 20 then a.kind == 19
  else if b.kind = 6 then a.kind == 7 || a.kind == 9
  else if b.kind = 8 then a.kind == 7
  else if b.kind = 11 then a.kind == 10
  else if b.kind = 13 then a.kind == 12
  else false
structure SSt where
  cur : List Ck
  birth : List Ck
  out : List Ck
def startC (s : SSt) (e : Ev) : Ck := if s.cur.getD e.g.toNat ckZ = ckZ then s.birth.getD e.g.toNat ckZ else s.cur.getD e.g.toNat ckZ
def atomB (f e : Ev) : Bool := f.obj == e.obj && (f.off == e.off && (f.kind == 4 || f.kind == 5))
def inStep (out : List Ck) (e f : Ev) (i : Nat) (p : Ck × Int) : Ck × Int :=
  (if syncB f e = true then joinC p.1 (out.getD i ckZ) else p.1, if atomB f e = true then (i : Int) else p.2)
def inTo (l : List Ev) (out : List Ck) (e : Ev) (p : Ck × Int) : Nat → Ck × Int
  | 0 => p
  | i + 1 => inStep out e (l.getD i default) i (inTo l out e p i)
def atomE (e : Ev) (at_ : Int) : Bool := decide (0 ≤ at_) && (e.kind == 3 || e.kind == 5)
def finC (out : List Ck) (e : Ev) (p : Ck × Int) : Ck :=
  let c := if atomE e p.2 = true then joinC p.1 (out.getD p.2.toNat ckZ) else p.1
  c.set e.g.toNat (c.getD e.g.toNat 0 + 1)
def clockAt (l : List Ev) (s : SSt) (e : Ev) (j : Nat) : Ck := finC s.out e (inTo l s.out e (startC s e, -1) j)
def SSt.step (l : List Ev) (s : SSt) (e : Ev) (j : Nat) : SSt :=
  ⟨s.cur.set e.g.toNat (clockAt l s e j), if e.kind = 14 then s.birth.set e.k.toNat (clockAt l s e j) else s.birth, s.out ++ [clockAt l s e j]⟩
def runTo (l : List Ev) : Nat → SSt
  | 0 => ⟨List.replicate 8 ckZ, List.replicate 8 ckZ, []⟩
  | j + 1 => (runTo l j).step l (l.getD j default) j
def stampsL (l : List Ev) : List Ck := (runTo l l.length).out

/-- a clock of eight numbers from 0 to n -/
def COk (n : Int) (c : Ck) : Prop := c.length = 8 ∧ ∀ x, x ∈ c → 0 ≤ x ∧ x ≤ n
theorem COk.z {n : Int} (h : 0 ≤ n) : COk n ckZ := ⟨rfl, fun x hx => by simp [ckZ] at hx; omega⟩
theorem COk.mono {n m : Int} (h : n ≤ m) {c : Ck} (hc : COk n c) : COk m c := ⟨hc.1, fun x hx => by have := hc.2 x hx; omega⟩
theorem COk.join {n : Int} {a b : Ck} (ha : COk n a) (hb : COk n b) : COk n (joinC a b) := by
  refine ⟨by unfold joinC; rw [List.length_zipWith, ha.1, hb.1]; rfl, fun x hx => ?_⟩
  unfold joinC at hx
  obtain ⟨i, hi⟩ := List.getElem?_of_mem hx
  rw [List.getElem?_zipWith] at hi
  split at hi
  · rename_i u v hu hv
    cases hi
    have h1 := ha.2 u (List.mem_of_getElem? hu)
    have h2 := hb.2 v (List.mem_of_getElem? hv)
    split <;> omega
  · cases hi
theorem COk.getD {n : Int} (h : 0 ≤ n) {l : List Ck} (hl : ∀ c, c ∈ l → COk n c) (i : Nat) : COk n (l.getD i ckZ) := by
  rw [List.getD_eq_getElem?_getD]
  cases hi : l[i]? with
  | none => exact COk.z h
  | some c => exact hl c (List.mem_of_getElem? hi)
theorem COk.tick {n : Int} {c : Ck} (hc : COk n c) (i : Nat) : COk (n + 1) (c.set i (c.getD i 0 + 1)) := by
  refine ⟨by rw [List.length_set]; exact hc.1, fun x hx => ?_⟩
  rcases List.mem_or_eq_of_mem_set hx with h | h
  · have := hc.2 x h; omega
  · subst h
    rw [List.getD_eq_getElem?_getD]
    cases hi : c[i]? with
    | none =>
      have h8 := hc.1
      have := hc.2 (c[0]'(by omega)) (List.getElem_mem _)
      simp; omega
    | some y => have := hc.2 y (List.mem_of_getElem? hi); simp; omega
/-- the arrays and their clocks -/
structure SOk (s : SSt) (j : Nat) : Prop where
  cl : s.cur.length = 8
  bl : s.birth.length = 8
  ol : s.out.length = j
  cc : ∀ c, c ∈ s.cur → COk j c
  bc : ∀ c, c ∈ s.birth → COk j c
  oc : ∀ c, c ∈ s.out → COk j c
theorem SOk.start {s : SSt} {j : Nat} (h : SOk s j) (e : Ev) : COk j (startC s e) := by
  unfold startC
  split
  · exact COk.getD (by omega) h.bc _
  · exact COk.getD (by omega) h.cc _
theorem SOk.inTo {s : SSt} {j : Nat} (h : SOk s j) (l : List Ev) (e : Ev) (i : Nat) : COk j (inTo l s.out e (startC s e, -1) i).1 ∧ -1 ≤ (Go.Proofs.Ytohliamalaifhaa.inTo l s.out e (startC s e, -1) i).2 ∧ (Go.Proofs.Ytohliamalaifhaa.inTo l s.out e (startC s e, -1) i).2 < i := by
  induction i with
  | zero => exact ⟨h.start e, by simp [Go.Proofs.Ytohliamalaifhaa.inTo], by simp [Go.Proofs.Ytohliamalaifhaa.inTo]⟩
  | succ i ih =>
    obtain ⟨h1, h2, h3⟩ := ih
    simp only [Go.Proofs.Ytohliamalaifhaa.inTo, inStep]
    refine ⟨?_, ?_, ?_⟩
    · split
      · exact h1.join (COk.getD (by omega) h.oc _)
      · exact h1
    · split <;> omega
    · split <;> omega
theorem SOk.pre {s : SSt} {j : Nat} (h : SOk s j) (l : List Ev) (e : Ev) : COk j (let p := Go.Proofs.Ytohliamalaifhaa.inTo l s.out e (startC s e, -1) j; if atomE e p.2 = true then joinC p.1 (s.out.getD p.2.toNat ckZ) else p.1) := by
  dsimp only
  split
  · exact (h.inTo l e j).1.join (COk.getD (by omega) h.oc _)
  · exact (h.inTo l e j).1
theorem SOk.clock {s : SSt} {j : Nat} (h : SOk s j) (l : List Ev) (e : Ev) : COk ((j + 1 : Nat) : Int) (clockAt l s e j) := by
  have := (h.pre l e).tick e.g.toNat
  unfold clockAt finC
  exact this.mono (by omega)
theorem SOk.step {s : SSt} {j : Nat} (h : SOk s j) (l : List Ev) (e : Ev) : SOk (s.step l e j) (j + 1) := by
  have hc := h.clock l e
  have up : ∀ c, COk (j : Int) c → COk ((j + 1 : Nat) : Int) c := fun c h => h.mono (by omega)
  refine ⟨?_, ?_, ?_, fun c hm => ?_, fun c hm => ?_, fun c hm => ?_⟩
  · simp [SSt.step, h.cl]
  · simp only [SSt.step]; split <;> simp [h.bl]
  · simp [SSt.step, h.ol]
  · rcases List.mem_or_eq_of_mem_set hm with hm | rfl
    · exact up c (h.cc c hm)
    · exact hc
  · simp only [SSt.step] at hm
    split at hm
    · rcases List.mem_or_eq_of_mem_set hm with hm | rfl
      · exact up c (h.bc c hm)
      · exact hc
    · exact up c (h.bc c hm)
  · simp only [SSt.step, List.mem_append, List.mem_singleton] at hm
    rcases hm with hm | rfl
    · exact up c (h.oc c hm)
    · exact hc
theorem runTo_ok (l : List Ev) (j : Nat) : SOk (runTo l j) j := by
  induction j with
  | zero => exact ⟨rfl, rfl, rfl, fun c hc => by simp [runTo] at hc; subst hc; exact COk.z (by omega), fun c hc => by simp [runTo] at hc; subst hc; exact COk.z (by omega), fun c hc => by simp [runTo] at hc⟩
  | succ j ih => exact ih.step l _
theorem stampsL_length (l : List Ev) : (stampsL l).length = l.length := (runTo_ok l l.length).ol
theorem stampsL_ok (l : List Ev) : ∀ c, c ∈ stampsL l → COk l.length c := (runTo_ok l l.length).oc
end Go.Proofs.Ytohliamalaifhaa
end
section
set_option linter.unusedSimpArgs false
set_option linter.unusedVariables false
namespace Go.Proofs.Ytohliamalaifhaa
open Go

theorem getD_join {a b : Ck} (ha : a.length = 8) (hb : b.length = 8) {k : Nat} (hk : k < 8) : (joinC a b).getD k 0 = if b.getD k 0 > a.getD k 0 then b.getD k 0 else a.getD k 0 := by
  obtain ⟨x, hx⟩ : ∃ x, a[k]? = some x := ⟨_, List.getElem?_eq_getElem (by omega)⟩
  obtain ⟨y, hy⟩ : ∃ y, b[k]? = some y := ⟨_, List.getElem?_eq_getElem (by omega)⟩
  simp only [List.getD_eq_getElem?_getD, joinC, List.getElem?_zipWith, hx, hy, Option.getD_some]
def SSt.dg (s : SSt) (k : Nat) : Int := (s.cur.getD k ckZ).getD k 0
structure Cnt (s : SSt) : Prop where
  cc : ∀ c, c ∈ s.cur → ∀ k, k < 8 → c.getD k 0 ≤ s.dg k
  bc : ∀ c, c ∈ s.birth → ∀ k, k < 8 → c.getD k 0 ≤ s.dg k
  oc : ∀ c, c ∈ s.out → ∀ k, k < 8 → c.getD k 0 ≤ s.dg k
theorem ckZ_get (k : Nat) : (ckZ.getD k 0) = 0 := by
  unfold ckZ
  rw [List.getD_eq_getElem?_getD, List.getElem?_replicate]
  split <;> rfl
theorem COk.get {n : Int} {c : Ck} (h : COk n c) (k : Nat) : 0 ≤ c.getD k 0 := by
  rw [List.getD_eq_getElem?_getD]
  cases hk : c[k]? with
  | none => exact Int.le_refl _
  | some x => exact (h.2 x (List.mem_of_getElem? hk)).1
def preC (l : List Ev) (s : SSt) (e : Ev) (j : Nat) : Ck :=
  if atomE e (inTo l s.out e (startC s e, -1) j).2 = true then joinC (inTo l s.out e (startC s e, -1) j).1 (s.out.getD (inTo l s.out e (startC s e, -1) j).2.toNat ckZ) else (inTo l s.out e (startC s e, -1) j).1
theorem clockAt_eq (l : List Ev) (s : SSt) (e : Ev) (j : Nat) : clockAt l s e j = (preC l s e j).set e.g.toNat ((preC l s e j).getD e.g.toNat 0 + 1) := rfl
theorem mem_getD {l : List Ck} {i : Nat} (h : i < l.length) : l.getD i ckZ ∈ l := by
  rw [List.getD_eq_getElem?_getD, List.getElem?_eq_getElem h]; exact List.getElem_mem h
theorem getD_none {l : List Ck} {i : Nat} (h : l.length ≤ i) : l.getD i ckZ = ckZ := by rw [List.getD_eq_getElem?_getD, List.getElem?_eq_none h]; rfl
section
variable {l : List Ev} {s : SSt} {e : Ev} {j : Nat}
theorem Cnt.start (h : Cnt s) (hok : SOk s j) (hg : e.g.toNat < 8) {k : Nat} (hk : k < 8) : (s.cur.getD e.g.toNat ckZ).getD k 0 ≤ (startC s e).getD k 0 ∧ (startC s e).getD k 0 ≤ s.dg k := by
  have hm := mem_getD (l := s.cur) (i := e.g.toNat) (by rw [hok.cl]; exact hg)
  have hb := mem_getD (l := s.birth) (i := e.g.toNat) (by rw [hok.bl]; exact hg)
  unfold startC
  split
  · rename_i hz
    rw [hz, ckZ_get]
    exact ⟨(hok.bc _ hb).get k, h.bc _ hb k hk⟩
  · exact ⟨Int.le_refl _, h.cc _ hm k hk⟩
theorem out_le (h : Cnt s) (i : Nat) (hd : ∀ k, k < 8 → 0 ≤ s.dg k) {k : Nat} (hk : k < 8) : (s.out.getD i ckZ).getD k 0 ≤ s.dg k := by
  rcases Nat.lt_or_ge i s.out.length with hi | hi
  · exact h.oc _ (mem_getD hi) k hk
  · rw [getD_none hi, ckZ_get]; exact hd k hk
theorem out_len (hok : SOk s j) (i : Nat) : (s.out.getD i ckZ).length = 8 := by
  rcases Nat.lt_or_ge i s.out.length with hi | hi
  · exact (hok.oc _ (mem_getD hi)).1
  · rw [List.getD_eq_getElem?_getD, List.getElem?_eq_none hi]; rfl
theorem dg_nonneg (hok : SOk s j) (k : Nat) : 0 ≤ s.dg k := by
  unfold SSt.dg
  rcases Nat.lt_or_ge k s.cur.length with hi | hi
  · exact (hok.cc _ (mem_getD hi)).get k
  · rw [getD_none hi, ckZ_get]; exact Int.le_refl _
theorem Cnt.inTo (h : Cnt s) (hok : SOk s j) (hg : e.g.toNat < 8) (i : Nat) {k : Nat} (hk : k < 8) : (startC s e).getD k 0 ≤ (Go.Proofs.Ytohliamalaifhaa.inTo l s.out e (startC s e, -1) i).1.getD k 0 ∧ (Go.Proofs.Ytohliamalaifhaa.inTo l s.out e (startC s e, -1) i).1.getD k 0 ≤ s.dg k := by
  induction i with
  | zero => exact ⟨Int.le_refl _, (h.start hok hg hk).2⟩
  | succ i ih =>
    simp only [Go.Proofs.Ytohliamalaifhaa.inTo, inStep]
    split
    · rw [getD_join (hok.inTo l e i).1.1 (out_len hok i) hk]
      have := out_le h i (fun k _ => dg_nonneg hok k) hk
      split <;> omega
    · exact ih
theorem Cnt.pre (h : Cnt s) (hok : SOk s j) (hg : e.g.toNat < 8) {k : Nat} (hk : k < 8) : (startC s e).getD k 0 ≤ (preC l s e j).getD k 0 ∧ (preC l s e j).getD k 0 ≤ s.dg k := by
  have h1 := h.inTo (l := l) hok hg j hk
  unfold preC
  split
  · rw [getD_join (hok.inTo l e j).1.1 (out_len hok _) hk]
    have := out_le h (Go.Proofs.Ytohliamalaifhaa.inTo l s.out e (startC s e, -1) j).2.toNat (fun k _ => dg_nonneg hok k) hk
    split <;> omega
  · exact h1
theorem preC_len (hok : SOk s j) : (preC l s e j).length = 8 := (hok.pre l e).1
theorem Cnt.own (h : Cnt s) (hok : SOk s j) (hg : e.g.toNat < 8) : (preC l s e j).getD e.g.toNat 0 = s.dg e.g.toNat := by
  have h1 := h.pre (l := l) hok hg hg
  have h2 := h.start hok hg hg (e := e)
  have h3 : (s.cur.getD e.g.toNat ckZ).getD e.g.toNat 0 = s.dg e.g.toNat := rfl
  omega
theorem set_get {c : Ck} {i k : Nat} {x : Int} (hi : i < c.length) : (c.set i x).getD k 0 = if k = i then x else c.getD k 0 := by
  rw [List.getD_eq_getElem?_getD, List.getD_eq_getElem?_getD, List.getElem?_set]
  by_cases h : i = k
  · subst h; rw [if_pos rfl, if_pos rfl, if_pos hi]; rfl
  · rw [if_neg h, if_neg (Ne.symm h)]
/-- the law of own events -/
theorem Cnt.clock (h : Cnt s) (hok : SOk s j) (hg : e.g.toNat < 8) : (clockAt l s e j).getD e.g.toNat 0 = s.dg e.g.toNat + 1 ∧ ∀ k, k < 8 → (s.cur.getD e.g.toNat ckZ).getD k 0 ≤ (clockAt l s e j).getD k 0 ∧ (k ≠ e.g.toNat → (clockAt l s e j).getD k 0 ≤ s.dg k) := by
  have hl := preC_len (l := l) (e := e) hok
  rw [clockAt_eq]
  refine ⟨by rw [set_get (by omega), if_pos rfl, h.own hok hg], fun k hk => ?_⟩
  rw [set_get (by omega)]
  have h1 := h.pre (l := l) hok hg hk
  have h2 := h.start hok hg hk (e := e)
  by_cases hkg : k = e.g.toNat
  · rw [if_pos hkg]
    have := h.own (l := l) hok hg
    subst hkg
    exact ⟨by omega, fun hn => absurd rfl hn⟩
  · rw [if_neg hkg]
    exact ⟨by omega, fun _ => h1.2⟩
theorem Cnt.step (h : Cnt s) (hok : SOk s j) (hg : e.g.toNat < 8) : Cnt (s.step l e j) := by
  have hcl := hok.cl
  obtain ⟨hc1, hc2⟩ := h.clock (l := l) hok hg
  have hdg : ∀ k, k < 8 → (s.step l e j).dg k = if k = e.g.toNat then s.dg e.g.toNat + 1 else s.dg k := fun k hk => by
    show ((s.cur.set e.g.toNat (clockAt l s e j)).getD k ckZ).getD k 0 = _
    rw [List.getD_eq_getElem?_getD (l := s.cur.set _ _), List.getElem?_set]
    by_cases hkg : e.g.toNat = k
    · subst hkg
      rw [if_pos rfl, if_pos (by omega), if_pos rfl]; exact hc1
    · rw [if_neg hkg, if_neg (Ne.symm hkg)]
      show (s.cur[k]?.getD ckZ).getD k 0 = (s.cur.getD k ckZ).getD k 0
      rw [List.getD_eq_getElem?_getD (l := s.cur)]
  have up : ∀ k, k < 8 → s.dg k ≤ (s.step l e j).dg k := fun k hk => by
    rw [hdg k hk]; split
    · rename_i h; rw [h]; omega
    · exact Int.le_refl _
  have hnew : ∀ k, k < 8 → (clockAt l s e j).getD k 0 ≤ (s.step l e j).dg k := fun k hk => by
    rw [hdg k hk]; split
    · rename_i h; rw [h, hc1]; exact Int.le_refl _
    · rename_i h; exact (hc2 k hk).2 h
  refine ⟨fun c hm k hk => ?_, fun c hm k hk => ?_, fun c hm k hk => ?_⟩
  · rcases List.mem_or_eq_of_mem_set hm with hm | rfl
    · exact Int.le_trans (h.cc c hm k hk) (up k hk)
    · exact hnew k hk
  · simp only [SSt.step] at hm
    split at hm
    · rcases List.mem_or_eq_of_mem_set hm with hm | rfl
      · exact Int.le_trans (h.bc c hm k hk) (up k hk)
      · exact hnew k hk
    · exact Int.le_trans (h.bc c hm k hk) (up k hk)
  · simp only [SSt.step, List.mem_append, List.mem_singleton] at hm
    rcases hm with hm | rfl
    · exact Int.le_trans (h.oc c hm k hk) (up k hk)
    · exact hnew k hk
/-- the law of events that acquire -/
def acqB (k : Int) : Bool := k == 3 || k == 5 || k == 6 || k == 8 || k == 11 || k == 13 || k == 16 || k == 18 || k == 20
theorem sync_acq {a b : Ev} (h : acqB b.kind = false) : syncB a b = false := by
  unfold acqB at h
  simp only [Bool.or_eq_false_iff, beq_eq_false_iff_ne] at h
  unfold syncB
  split
  · rfl
  · split
    · rfl
    · rw [if_neg (by omega), if_neg (by omega), if_neg (by omega), if_neg (by omega), if_neg (by omega), if_neg (by omega), if_neg (by omega)]
theorem pre_acq (h : acqB e.kind = false) : preC l s e j = startC s e := by
  have h1 : ∀ i, (inTo l s.out e (startC s e, -1) i).1 = startC s e := fun i => by
    induction i with
    | zero => rfl
    | succ i ih => simp only [inTo, inStep]; rw [if_neg (by rw [sync_acq h]; decide), ih]
  unfold preC
  rw [if_neg, h1]
  unfold atomE
  unfold acqB at h
  simp only [Bool.or_eq_false_iff, beq_eq_false_iff_ne] at h
  simp only [Bool.and_eq_true, Bool.or_eq_true, beq_iff_eq]
  omega
theorem clock_acq (h : acqB e.kind = false) (hok : SOk s j) (hg : e.g.toNat < 8) (h0 : s.dg e.g.toNat ≠ 0) {k : Nat} (hk : k ≠ e.g.toNat) : (clockAt l s e j).getD k 0 = (s.cur.getD e.g.toNat ckZ).getD k 0 := by
  have hl := preC_len (l := l) (e := e) hok
  rw [clockAt_eq, set_get (by omega), if_neg hk, pre_acq h]
  unfold startC
  rw [if_neg]
  intro hz
  unfold SSt.dg at h0
  rw [hz, ckZ_get] at h0
  exact h0 rfl
end
theorem runTo_cnt {l : List Ev} (hv : ∀ e, e ∈ l → 0 ≤ e.g ∧ e.g < 8) {j : Nat} (hj : j ≤ l.length) : Cnt (runTo l j) := by
  induction j with
  | zero =>
    have hz : ∀ c, c ∈ List.replicate 8 ckZ → ∀ k, k < 8 → c.getD k 0 ≤ (runTo l 0).dg k := fun c hc k hk => by
      simp at hc; subst hc
      rw [ckZ_get]; exact dg_nonneg (runTo_ok l 0) k
    exact ⟨hz, hz, fun c hc => by simp [runTo] at hc⟩
  | succ j ih =>
    have he := List.getElem?_eq_getElem (show j < l.length by omega)
    have hg := hv (l.getD j default) (by rw [List.getD_eq_getElem?_getD, he]; exact List.getElem_mem _)
    exact (ih (by omega)).step (runTo_ok l j) (by omega)
theorem out_prefix (l : List Ev) {i j : Nat} (h : i ≤ j) : (runTo l j).out.take i = (runTo l i).out := by
  induction j with
  | zero =>
    have : i = 0 := by omega
    subst this; rfl
  | succ j ih =>
    rcases Nat.lt_or_eq_of_le h with h | h
    · show ((runTo l j).out ++ [_]).take i = _
      rw [List.take_append_of_le_length (by rw [(runTo_ok l j).ol]; omega)]
      exact ih (by omega)
    · subst h
      rw [List.take_of_length_le (by rw [(runTo_ok l (j + 1)).ol]; exact Nat.le_refl _)]
theorem stamps_at {l : List Ev} {i : Nat} {e : Ev} (he : l[i]? = some e) : (stampsL l)[i]? = some (clockAt l (runTo l i) e i) := by
  have hi := (List.getElem?_eq_some_iff.1 he).1
  have hed : l.getD i default = e := by rw [List.getD_eq_getElem?_getD, he]; rfl
  have h1 := out_prefix l (i := i + 1) (j := l.length) hi
  have h2 : (runTo l (i + 1)).out[i]? = some (clockAt l (runTo l i) e i) := by
    show ((runTo l i).out ++ [clockAt l (runTo l i) (l.getD i default) i])[i]? = _
    rw [hed, List.getElem?_append_right (by rw [(runTo_ok l i).ol]; exact Nat.le_refl _), (runTo_ok l i).ol, Nat.sub_self]; rfl
  rw [← h1, List.getElem?_take, if_pos (by omega)] at h2
  exact h2
theorem runTo_take (l : List Ev) {n j : Nat} (hj : j ≤ n) : runTo (l.take n) j = runTo l j := by
  induction j with
  | zero => rfl
  | succ j ih =>
    have hg : ∀ i, i < n → (l.take n).getD i default = l.getD i default := fun i hi => by
      rw [List.getD_eq_getElem?_getD, List.getD_eq_getElem?_getD, List.getElem?_take, if_pos hi]
    have hin : ∀ out e p i, i ≤ n → inTo (l.take n) out e p i = inTo l out e p i := fun out e p i => by
      induction i with
      | zero => intro _; rfl
      | succ i ihi => intro hi; simp only [inTo]; rw [hg i (by omega), ihi (by omega)]
    show (runTo (l.take n) j).step (l.take n) ((l.take n).getD j default) j = _
    rw [ih (by omega), hg j (by omega)]
    show SSt.step (l.take n) (runTo l j) (l.getD j default) j = SSt.step l (runTo l j) (l.getD j default) j
    have : clockAt (l.take n) (runTo l j) (l.getD j default) j = clockAt l (runTo l j) (l.getD j default) j := by
      unfold clockAt; rw [hin _ _ _ _ (by omega)]
    unfold SSt.step
    rw [this]
theorem stampsL_take (l : List Ev) {n : Nat} (hn : n ≤ l.length) : stampsL (l.take n) = (stampsL l).take n := by
  unfold stampsL
  rw [out_prefix l hn, List.length_take, Nat.min_eq_left hn, runTo_take l (Nat.le_refl n)]
end Go.Proofs.Ytohliamalaifhaa
end
section
set_option linter.unusedSimpArgs false
set_option linter.unusedVariables false
namespace Go.Proofs.Ytohliamalaifhaa
open Go

theorem Ev.valid_rg {e : Ev} (h : e.valid = true) : (0 ≤ e.g ∧ e.g < 8) ∧ (0 ≤ e.k ∧ e.k ≤ 2147483647) ∧ (0 ≤ e.n ∧ e.n ≤ 2147483647) ∧ (e.kind = 14 → 0 ≤ e.k ∧ e.k < 8) := by
  simp only [Ev.valid, rangeB, Bool.and_eq_true, decide_eq_true_eq] at h
  refine ⟨by omega, by omega, by omega, fun hk => ?_⟩
  have := h.2
  unfold Ev.rest at this
  rw [if_pos hk] at this
  simp only [decide_eq_true_eq] at this
  omega
def evAt (l : List Ev) (i : Nat) : Ev := l.getD i default
theorem evAt_of {l : List Ev} {i : Nat} {e : Ev} (h : l[i]? = some e) : evAt l i = e := by unfold evAt; rw [List.getD_eq_getElem?_getD, h]; rfl
theorem evAt_mem {l : List Ev} {i : Nat} (h : i < l.length) : evAt l i ∈ l := by
  rw [evAt_of (List.getElem?_eq_getElem h)]; exact List.getElem_mem h
def Prog (l : List Ev) (i j : Nat) : Prop := (evAt l i).g = (evAt l j).g ∧ ∀ k, i < k → k < j → (evAt l k).g ≠ (evAt l i).g
def First (l : List Ev) (j : Nat) : Prop := ∀ k, k < j → (evAt l k).g ≠ (evAt l j).g
def Atom (l : List Ev) (i j : Nat) : Prop := ∀ k, i < k → k < j → atomB (evAt l k) (evAt l j) = false
def Kinds (l : List Ev) (i j : Nat) (a b : Ev) : Prop :=
  (a.kind = 15 ∧ b.kind = 18 ∧ b.k = a.k) ∨ (a.kind = 17 ∧ b.kind = 16 ∧ b.k = a.k + a.n) ∨ (a.kind = 19 ∧ b.kind = 20) ∨ (a.kind = 7 ∧ (b.kind = 6 ∨ b.kind = 8)) ∨
  (a.kind = 9 ∧ b.kind = 6) ∨ (a.kind = 10 ∧ b.kind = 11) ∨ (a.kind = 12 ∧ b.kind = 13) ∨ ((a.kind = 4 ∨ a.kind = 5) ∧ (b.kind = 3 ∨ b.kind = 5) ∧ Atom l i j)
def Syn (l : List Ev) (i j : Nat) : Prop := (evAt l i).obj = (evAt l j).obj ∧ (evAt l i).off = (evAt l j).off ∧ Kinds l i j (evAt l i) (evAt l j)
def GoE (l : List Ev) (i j : Nat) : Prop := (evAt l i).kind = 14 ∧ (evAt l i).k = (evAt l j).g ∧ First l j
def Imm (l : List Ev) (i j : Nat) : Prop := Prog l i j ∨ GoE l i j ∨ Syn l i j
inductive HB (l : List Ev) : Nat → Nat → Prop
  | one {i j : Nat} (h : i < j) (hi : Imm l i j) : HB l i j
  | step {i k j : Nat} (h : HB l i k) (hk : k < j) (hi : Imm l k j) : HB l i j
def HBE (l : List Ev) (i j : Nat) : Prop := i = j ∨ HB l i j
theorem HB.lt {l : List Ev} {i j : Nat} (h : HB l i j) : i < j := by
  induction h with
  | one h _ => exact h
  | step _ hk _ ih => omega
theorem HBE.le {l : List Ev} {i j : Nat} (h : HBE l i j) : i ≤ j := by
  rcases h with rfl | h
  · exact Nat.le_refl _
  · exact Nat.le_of_lt h.lt
theorem HB_iff {l : List Ev} {i j : Nat} : HB l i j ↔ ∃ k, k < j ∧ Imm l k j ∧ HBE l i k := by
  refine ⟨fun h => ?_, fun ⟨k, hk, hi, h⟩ => ?_⟩
  · cases h with
    | one h hi => exact ⟨i, h, hi, .inl rfl⟩
    | step h hk hi => exact ⟨_, hk, hi, .inr h⟩
  · rcases h with rfl | h
    · exact .one hk hi
    · exact .step h hk hi
theorem HBE.trans {l : List Ev} {i k j : Nat} (h : HBE l i k) (h2 : HB l k j) : HB l i j := by
  induction h2 with
  | one hk hi => exact HB_iff.2 ⟨_, hk, hi, h⟩
  | step _ hk hi ih => exact HB_iff.2 ⟨_, hk, hi, .inr ih⟩

/-- how many of the first n events are of a goroutine -/
def cntG (l : List Ev) (g : Int) : Nat → Nat
  | 0 => 0
  | n + 1 => if (evAt l n).g = g then cntG l g n + 1 else cntG l g n
def ord (l : List Ev) (i : Nat) : Nat := cntG l (evAt l i).g (i + 1)
theorem ord_eq (l : List Ev) (i : Nat) : ord l i = cntG l (evAt l i).g i + 1 := by unfold ord; simp only [cntG]; rw [if_pos trivial]
theorem cntG_mono {l : List Ev} {g : Int} {m n : Nat} (h : m ≤ n) : cntG l g m ≤ cntG l g n := by
  induction n with
  | zero => have : m = 0 := by omega
            subst this; exact Nat.le_refl _
  | succ n ih =>
    rcases Nat.lt_or_eq_of_le h with h | h
    · have := ih (by omega)
      simp only [cntG]; split <;> omega
    · subst h; exact Nat.le_refl _
theorem cntG_lt {l : List Ev} {g : Int} {p n : Nat} (h : p < n) (hp : (evAt l p).g = g) : cntG l g p < cntG l g n := by
  have : cntG l g (p + 1) ≤ cntG l g n := cntG_mono h
  simp only [cntG] at this; rw [if_pos hp] at this; omega
theorem cntG_none {l : List Ev} {g : Int} {n : Nat} (h : ∀ k, k < n → (evAt l k).g ≠ g) : cntG l g n = 0 := by
  induction n with
  | zero => rfl
  | succ n ih => simp only [cntG]; rw [if_neg (h n (by omega))]; exact ih (fun k hk => h k (by omega))
theorem cntG_pos {l : List Ev} {g : Int} {n : Nat} (h : 0 < cntG l g n) : ∃ p, p < n ∧ (evAt l p).g = g ∧ ∀ k, p < k → k < n → (evAt l k).g ≠ g := by
  induction n with
  | zero => simp [cntG] at h
  | succ n ih =>
    by_cases hn : (evAt l n).g = g
    · exact ⟨n, by omega, hn, fun k h1 h2 => by omega⟩
    · simp only [cntG] at h; rw [if_neg hn] at h
      obtain ⟨p, h1, h2, h3⟩ := ih h
      refine ⟨p, by omega, h2, fun k hk1 hk2 => ?_⟩
      rcases Nat.lt_or_eq_of_le (Nat.le_of_lt_succ hk2) with h4 | h4
      · exact h3 k hk1 h4
      · subst h4; exact hn
/-- program order is part of happens-before -/
theorem HBE.prog {l : List Ev} {i j : Nat} (hij : i ≤ j) (hg : (evAt l i).g = (evAt l j).g) : HBE l i j := by
  induction j using Nat.strongRecOn with
  | ind j ih =>
    rcases Nat.lt_or_eq_of_le hij with h | h
    · obtain ⟨p, h1, h2, h3⟩ := cntG_pos (l := l) (g := (evAt l j).g) (n := j) (by have := cntG_lt h hg; omega)
      have hip : i ≤ p := by
        rcases Nat.lt_or_ge p i with h4 | h4
        · exact absurd hg (h3 i h4 h)
        · exact h4
      exact .inr (HB_iff.2 ⟨p, h1, .inl ⟨h2, fun k hk1 hk2 => by rw [h2]; exact h3 k hk1 hk2⟩, ih p h1 hip (hg.trans h2.symm)⟩)
    · exact .inl h

/-- what is needed of a valid list -/
structure VL (l : List Ev) : Prop where
  v : ∀ e, e ∈ l → e.valid = true
  go : ∀ p q, p < l.length → q < l.length → (evAt l p).kind = 14 → (evAt l q).kind = 14 → (evAt l p).k = (evAt l q).k → p = q
  cap : ∀ p q, p < l.length → q < l.length → (evAt l p).kind = 17 → (evAt l q).kind = 16 → (evAt l p).obj = (evAt l q).obj → (evAt l p).n = (evAt l q).n
def stp (l : List Ev) (p : Nat) : Ck := (stampsL l).getD p ckZ
section
variable {l : List Ev} (V : VL l)
include V
theorem VL.g {i : Nat} (h : i < l.length) : 0 ≤ (evAt l i).g ∧ (evAt l i).g < 8 := (Ev.valid_rg (V.v _ (evAt_mem h))).1
theorem VL.cnt {j : Nat} (h : j ≤ l.length) : Cnt (runTo l j) := runTo_cnt (fun e he => (Ev.valid_rg (V.v e he)).1) h
omit V in
theorem runTo_succ (l : List Ev) (j : Nat) : runTo l (j + 1) = (runTo l j).step l (evAt l j) j := rfl
omit V in
theorem stp_at {j : Nat} (h : j < l.length) : stp l j = clockAt l (runTo l j) (evAt l j) j := by
  have he : l[j]? = some (evAt l j) := by rw [evAt_of (List.getElem?_eq_getElem h)]; exact List.getElem?_eq_getElem h
  unfold stp
  rw [List.getD_eq_getElem?_getD, stamps_at he]; rfl
omit V in
theorem out_stp {p j : Nat} (h : p < j) (hj : j ≤ l.length) : (runTo l j).out.getD p ckZ = stp l p := by
  have h1 := out_prefix l hj
  unfold stp stampsL
  rw [← h1, List.getD_eq_getElem?_getD, List.getD_eq_getElem?_getD, List.getElem?_take, if_pos h]
omit V in
theorem stp_len {j : Nat} : (stp l j).length = 8 := by
  unfold stp
  rcases Nat.lt_or_ge j (stampsL l).length with h | h
  · exact (stampsL_ok l _ (mem_getD h)).1
  · rw [getD_none h]; rfl
theorem dg_cnt {j : Nat} (hj : j ≤ l.length) {g : Int} (h0 : 0 ≤ g) (h8 : g < 8) : (runTo l j).dg g.toNat = (cntG l g j : Int) := by
  induction j with
  | zero =>
    have : ∀ k, k < 8 → (runTo l 0).dg k = 0 := by
      intro k hk
      unfold SSt.dg
      show ((List.replicate 8 ckZ).getD k ckZ).getD k 0 = 0
      rw [List.getD_eq_getElem?_getD (l := List.replicate 8 ckZ), List.getElem?_replicate, if_pos hk]
      exact ckZ_get k
    rw [this _ (by omega)]; rfl
  | succ j ih =>
    have hg := V.g (i := j) (by omega)
    have hc := (V.cnt (j := j) (by omega)).clock (l := l) (e := evAt l j) (runTo_ok l j) (by omega)
    have hcl := (runTo_ok l j).cl
    rw [runTo_succ]
    have : ((runTo l j).step l (evAt l j) j).dg g.toNat = if g.toNat = (evAt l j).g.toNat then (runTo l j).dg (evAt l j).g.toNat + 1 else (runTo l j).dg g.toNat := by
      show (((runTo l j).cur.set (evAt l j).g.toNat (clockAt l (runTo l j) (evAt l j) j)).getD g.toNat ckZ).getD g.toNat 0 = _
      rw [List.getD_eq_getElem?_getD (l := (runTo l j).cur.set _ _), List.getElem?_set]
      by_cases hkg : (evAt l j).g.toNat = g.toNat
      · rw [hkg, if_pos rfl, if_pos (by omega), if_pos rfl, ← hkg]; exact hc.1
      · rw [if_neg hkg, if_neg (Ne.symm hkg)]
        show ((runTo l j).cur[g.toNat]?.getD ckZ).getD g.toNat 0 = ((runTo l j).cur.getD g.toNat ckZ).getD g.toNat 0
        rw [List.getD_eq_getElem?_getD (l := (runTo l j).cur)]
    rw [this]
    simp only [cntG]
    by_cases hkg : (evAt l j).g = g
    · subst hkg
      rw [if_pos rfl, if_pos rfl, ih (by omega)]; omega
    · rw [if_neg (by omega), if_neg hkg, ih (by omega)]
theorem stp_own {j : Nat} (h : j < l.length) : (stp l j).getD (evAt l j).g.toNat 0 = (ord l j : Int) := by
  have hg := V.g h
  rw [stp_at h, ((V.cnt (j := j) (by omega)).clock (l := l) (e := evAt l j) (runTo_ok l j) (by omega)).1, dg_cnt V (by omega) hg.1 hg.2, ord_eq]; omega
theorem stp_le {j : Nat} (h : j < l.length) {g : Int} (h0 : 0 ≤ g) (h8 : g < 8) : (stp l j).getD g.toNat 0 ≤ (cntG l g (j + 1) : Int) := by
  have h1 := V.cnt (j := j + 1) h
  rw [← dg_cnt V (j := j + 1) h h0 h8, ← out_stp (l := l) (p := j) (j := j + 1) (by omega) h]
  exact h1.oc _ (mem_getD (by rw [(runTo_ok l (j + 1)).ol]; omega)) _ (by omega)
omit V in
theorem stp_nonneg {j k : Nat} : 0 ≤ (stp l j).getD k 0 := by
  unfold stp
  rcases Nat.lt_or_ge j (stampsL l).length with h | h
  · exact (stampsL_ok l _ (mem_getD h)).get k
  · rw [getD_none h, ckZ_get]; exact Int.le_refl _
omit V in
theorem getD_set {α : Type} {a : List α} {i k : Nat} {x d : α} (hi : i < a.length) : (a.set i x).getD k d = if k = i then x else a.getD k d := by
  rw [List.getD_eq_getElem?_getD, List.getD_eq_getElem?_getD, List.getElem?_set]
  by_cases h : i = k
  · subst h; rw [if_pos rfl, if_pos rfl, if_pos hi]; rfl
  · rw [if_neg h, if_neg (Ne.symm h)]
theorem cur_last {j : Nat} (hj : j ≤ l.length) {g : Int} (h0 : 0 ≤ g) (h8 : g < 8) : (cntG l g j = 0 → (runTo l j).cur.getD g.toNat ckZ = ckZ) ∧
    ∀ p, p < j → (evAt l p).g = g → (∀ k, p < k → k < j → (evAt l k).g ≠ g) → (runTo l j).cur.getD g.toNat ckZ = stp l p := by
  induction j with
  | zero =>
    refine ⟨fun _ => ?_, fun p hp => by omega⟩
    show (List.replicate 8 ckZ).getD g.toNat ckZ = ckZ
    rw [List.getD_eq_getElem?_getD, List.getElem?_replicate, if_pos (by omega)]; rfl
  | succ j ih =>
    obtain ⟨i1, i2⟩ := ih (by omega)
    have hg := V.g (i := j) (by omega)
    have hcl := (runTo_ok l j).cl
    have hcur : (runTo l (j + 1)).cur.getD g.toNat ckZ = if g.toNat = (evAt l j).g.toNat then stp l j else (runTo l j).cur.getD g.toNat ckZ := by
      show ((runTo l j).cur.set (evAt l j).g.toNat (clockAt l (runTo l j) (evAt l j) j)).getD g.toNat ckZ = _
      rw [getD_set (by omega), stp_at (by omega)]
    rw [hcur]
    refine ⟨fun h => ?_, fun p hp h1 h2 => ?_⟩
    · simp only [cntG] at h
      by_cases hkg : (evAt l j).g = g
      · rw [if_pos hkg] at h; omega
      · rw [if_neg hkg] at h
        rw [if_neg (by omega)]; exact i1 h
    · by_cases hkg : (evAt l j).g = g
      · have : p = j := by
          rcases Nat.lt_or_eq_of_le (Nat.le_of_lt_succ hp) with h3 | h3
          · exact absurd hkg (h2 j h3 (by omega))
          · exact h3
        subst this
        rw [if_pos (by omega)]
      · have : p ≠ j := fun h => hkg (h ▸ h1)
        rw [if_neg (by omega)]
        exact i2 p (by omega) h1 (fun k hk1 hk2 => h2 k hk1 (by omega))
theorem birth_last {j : Nat} (hj : j ≤ l.length) {g : Int} (h0 : 0 ≤ g) (h8 : g < 8) : ((∀ q, q < j → ¬ ((evAt l q).kind = 14 ∧ (evAt l q).k = g)) → (runTo l j).birth.getD g.toNat ckZ = ckZ) ∧
    ∀ q, q < j → (evAt l q).kind = 14 → (evAt l q).k = g → (runTo l j).birth.getD g.toNat ckZ = stp l q := by
  induction j with
  | zero =>
    refine ⟨fun _ => ?_, fun p hp => by omega⟩
    show (List.replicate 8 ckZ).getD g.toNat ckZ = ckZ
    rw [List.getD_eq_getElem?_getD, List.getElem?_replicate, if_pos (by omega)]; rfl
  | succ j ih =>
    obtain ⟨i1, i2⟩ := ih (by omega)
    have hbl := (runTo_ok l j).bl
    have hval := V.v _ (evAt_mem (show j < l.length by omega))
    have hk : (evAt l j).kind = 14 → 0 ≤ (evAt l j).k ∧ (evAt l j).k < 8 := fun h => by
      have := (Ev.valid_rg hval).2.2.2
      have h2 := this h
      omega
    have hb : (runTo l (j + 1)).birth.getD g.toNat ckZ = if (evAt l j).kind = 14 ∧ g.toNat = (evAt l j).k.toNat then stp l j else (runTo l j).birth.getD g.toNat ckZ := by
      show (if (evAt l j).kind = 14 then (runTo l j).birth.set (evAt l j).k.toNat (clockAt l (runTo l j) (evAt l j) j) else (runTo l j).birth).getD g.toNat ckZ = _
      by_cases h14 : (evAt l j).kind = 14
      · have := hk h14
        rw [if_pos h14, getD_set (by omega), stp_at (by omega)]
        by_cases hgk : g.toNat = (evAt l j).k.toNat
        · rw [if_pos hgk, if_pos ⟨h14, hgk⟩]
        · rw [if_neg hgk, if_neg (fun h => hgk h.2)]
      · rw [if_neg h14, if_neg (fun h => h14 h.1)]
    rw [hb]
    refine ⟨fun h => ?_, fun q hq h1 h2 => ?_⟩
    · rw [if_neg]
      · exact i1 (fun q hq => h q (by omega))
      · rintro ⟨h3, h4⟩
        have := hk h3
        exact h j (by omega) ⟨h3, by omega⟩
    · by_cases hq' : q = j
      · subst hq'
        rw [if_pos ⟨h1, by omega⟩]
      · rw [if_neg]
        · exact i2 q (by omega) h1 h2
        · rintro ⟨h3, h4⟩
          have := hk h3
          exact hq' (V.go q j (by omega) (by omega) h1 h3 (by omega))
/-- where the clock of an event starts -/
theorem start_iff {j : Nat} (h : j < l.length) {c : Int} (hc : 1 ≤ c) (k : Nat) : c ≤ (startC (runTo l j) (evAt l j)).getD k 0 ↔ ∃ i, i < j ∧ (Prog l i j ∨ GoE l i j) ∧ c ≤ (stp l i).getD k 0 := by
  have hg := V.g h
  obtain ⟨c1, c2⟩ := cur_last V (j := j) (by omega) hg.1 hg.2
  obtain ⟨b1, b2⟩ := birth_last V (j := j) (by omega) hg.1 hg.2
  by_cases hf : First l j
  · have hz := c1 (cntG_none hf)
    unfold startC
    rw [if_pos hz]
    by_cases hq : ∃ q, q < j ∧ (evAt l q).kind = 14 ∧ (evAt l q).k = (evAt l j).g
    · obtain ⟨q, hq1, hq2, hq3⟩ := hq
      rw [b2 q hq1 hq2 hq3]
      refine ⟨fun h2 => ⟨q, hq1, .inr ⟨hq2, hq3, hf⟩, h2⟩, fun ⟨i, hi, hp, h2⟩ => ?_⟩
      rcases hp with hp | hp
      · exact absurd hp.1 (hf i hi)
      · have := V.go i q (by omega) (by omega) hp.1 hq2 (hp.2.1.trans hq3.symm)
        subst this; exact h2
    · rw [b1 (fun q hq1 hq2 => hq ⟨q, hq1, hq2⟩), ckZ_get]
      refine ⟨fun h2 => by omega, fun ⟨i, hi, hp, h2⟩ => ?_⟩
      rcases hp with hp | hp
      · exact absurd hp.1 (hf i hi)
      · exact absurd ⟨i, hi, hp.1, hp.2.1⟩ hq
  · have hpos : 0 < cntG l (evAt l j).g j := by
      rcases Nat.eq_zero_or_pos (cntG l (evAt l j).g j) with h0 | h0
      · exfalso
        apply hf
        intro k hk hkg
        have := cntG_lt hk hkg; omega
      · exact h0
    obtain ⟨p, hp1, hp2, hp3⟩ := cntG_pos hpos
    have hcur := c2 p hp1 hp2 hp3
    have hnz : stp l p ≠ ckZ := fun hz => by
      have := stp_own V (j := p) (by omega)
      rw [hz, ckZ_get] at this
      have := ord_eq l p
      omega
    unfold startC
    rw [hcur, if_neg hnz]
    refine ⟨fun h2 => ⟨p, hp1, .inl ⟨hp2, fun k hk1 hk2 => by rw [hp2]; exact hp3 k hk1 hk2⟩, h2⟩, fun ⟨i, hi, hp, h2⟩ => ?_⟩
    rcases hp with hp | hp
    · have : i = p := by
        rcases Nat.lt_trichotomy i p with h4 | h4 | h4
        · exact absurd (hp2.trans hp.1.symm) (hp.2 p h4 hp1)
        · exact h4
        · exact absurd hp.1 (hp3 i h4 hi)
      subst this; exact h2
    · exact absurd hp.2.2 hf
omit V in
theorem in_iff {j : Nat} (h : j < l.length) {c : Int} {k : Nat} (hk : k < 8) (n : Nat) (hn : n ≤ j) :
    (c ≤ (inTo l (runTo l j).out (evAt l j) (startC (runTo l j) (evAt l j), -1) n).1.getD k 0 ↔ c ≤ (startC (runTo l j) (evAt l j)).getD k 0 ∨ ∃ i, i < n ∧ syncB (evAt l i) (evAt l j) = true ∧ c ≤ (stp l i).getD k 0) := by
  induction n with
  | zero => simp only [inTo]; exact ⟨.inl, fun h => h.elim id (fun ⟨i, hi, _⟩ => by omega)⟩
  | succ n ih =>
    have ih := ih (by omega)
    simp only [inTo, inStep]
    have he : l.getD n default = evAt l n := rfl
    rw [he]
    by_cases hs : syncB (evAt l n) (evAt l j) = true
    · rw [if_pos hs, getD_join ((runTo_ok l j).inTo l (evAt l j) n).1.1 (out_len (runTo_ok l j) n) hk, out_stp (by omega) (by omega)]
      have hmax : (c ≤ if (stp l n).getD k 0 > (inTo l (runTo l j).out (evAt l j) (startC (runTo l j) (evAt l j), -1) n).1.getD k 0 then (stp l n).getD k 0 else (inTo l (runTo l j).out (evAt l j) (startC (runTo l j) (evAt l j), -1) n).1.getD k 0) ↔
          (c ≤ (inTo l (runTo l j).out (evAt l j) (startC (runTo l j) (evAt l j), -1) n).1.getD k 0 ∨ c ≤ (stp l n).getD k 0) := by
        split <;> omega
      rw [hmax, ih]
      refine ⟨fun h2 => ?_, fun h2 => ?_⟩
      · rcases h2 with (h2 | ⟨i, hi, h3⟩) | h2
        · exact .inl h2
        · exact .inr ⟨i, by omega, h3⟩
        · exact .inr ⟨n, by omega, hs, h2⟩
      · rcases h2 with h2 | ⟨i, hi, h3, h4⟩
        · exact .inl (.inl h2)
        · by_cases hin : i = n
          · subst hin; exact .inr h4
          · exact .inl (.inr ⟨i, by omega, h3, h4⟩)
    · rw [if_neg hs, ih]
      refine ⟨fun h2 => ?_, fun h2 => ?_⟩
      · rcases h2 with h2 | ⟨i, hi, h3⟩
        · exact .inl h2
        · exact .inr ⟨i, by omega, h3⟩
      · rcases h2 with h2 | ⟨i, hi, h3, h4⟩
        · exact .inl h2
        · by_cases hin : i = n
          · subst hin; exact absurd h3 hs
          · exact .inr ⟨i, by omega, h3, h4⟩
omit V in
theorem at_in (out : List Ck) (e : Ev) (c : Ck) (n : Nat) : ((inTo l out e (c, -1) n).2 = -1 ∧ ∀ k, k < n → atomB (evAt l k) e = false) ∨
    ∃ a : Nat, a < n ∧ (inTo l out e (c, -1) n).2 = (a : Int) ∧ atomB (evAt l a) e = true ∧ ∀ k, a < k → k < n → atomB (evAt l k) e = false := by
  induction n with
  | zero => exact .inl ⟨rfl, fun k hk => by omega⟩
  | succ n ih =>
    simp only [inTo, inStep]
    have he : l.getD n default = evAt l n := rfl
    rw [he]
    cases hb : atomB (evAt l n) e with
    | true => rw [if_pos rfl]; exact .inr ⟨n, by omega, rfl, hb, fun k h1 h2 => by omega⟩
    | false =>
      rw [if_neg (by decide)]
      have ext : ∀ k, k < n + 1 → k = n ∨ k < n := fun k hk => by omega
      rcases ih with ⟨h1, h2⟩ | ⟨a, h1, h2, h3, h4⟩
      · exact .inl ⟨h1, fun k hk => (ext k hk).elim (fun h => h ▸ hb) (h2 k)⟩
      · exact .inr ⟨a, by omega, h2, h3, fun k hk1 hk2 => (ext k hk2).elim (fun h => h ▸ hb) (h4 k hk1)⟩
theorem sync_syn {i j : Nat} (hi : i < l.length) (hj : j < l.length) : Syn l i j ↔ syncB (evAt l i) (evAt l j) = true ∨ (atomB (evAt l i) (evAt l j) = true ∧ ((evAt l j).kind = 3 ∨ (evAt l j).kind = 5) ∧ Atom l i j) := by
  have hcap := V.cap i j hi hj
  unfold Syn Kinds syncB atomB
  generalize evAt l i = a at *
  generalize evAt l j = b at *
  by_cases ho : a.obj = b.obj
  · by_cases hf : a.off = b.off
    · have hcap' : a.kind = 17 → b.kind = 16 → a.n = b.n := fun h1 h2 => hcap h1 h2 ho
      clear hcap
      simp only [ho, hf, ne_eq, not_true_eq_false, if_false, true_and, beq_self_eq_true, Bool.true_and, Bool.or_eq_true, beq_iff_eq]
      generalize Atom l i j = P
      by_cases k18 : b.kind = 18
      · rw [if_pos k18]
        simp only [Bool.and_eq_true, beq_iff_eq]
        refine ⟨fun h => ?_, fun h => ?_⟩
        · rcases h with h | h | h | h | h | h | h | ⟨h1, h2, _⟩ <;> first | (left; omega) | (exfalso; omega)
        · rcases h with h | ⟨h1, h2, _⟩
          · first | (refine .inl ?_; omega) | (refine .inr (.inl ?_); omega) | (refine .inr (.inr (.inl ?_)); omega) | (refine .inr (.inr (.inr (.inl ?_))); omega) | (refine .inr (.inr (.inr (.inr (.inl ?_)))); omega) | (refine .inr (.inr (.inr (.inr (.inr (.inl ?_))))); omega) | (refine .inr (.inr (.inr (.inr (.inr (.inr (.inl ?_)))))); omega)
          · exfalso; omega
      by_cases k16 : b.kind = 16
      · rw [if_neg k18, if_pos k16]
        simp only [Bool.and_eq_true, beq_iff_eq]
        refine ⟨fun h => ?_, fun h => ?_⟩
        · rcases h with h | h | h | h | h | h | h | ⟨h1, h2, _⟩ <;> first | (left; omega) | (exfalso; omega)
        · rcases h with h | ⟨h1, h2, _⟩
          · first | (refine .inl ?_; omega) | (refine .inr (.inl ?_); omega) | (refine .inr (.inr (.inl ?_)); omega) | (refine .inr (.inr (.inr (.inl ?_))); omega) | (refine .inr (.inr (.inr (.inr (.inl ?_)))); omega) | (refine .inr (.inr (.inr (.inr (.inr (.inl ?_))))); omega) | (refine .inr (.inr (.inr (.inr (.inr (.inr (.inl ?_)))))); omega)
          · exfalso; omega
      by_cases k20 : b.kind = 20
      · rw [if_neg k18, if_neg k16, if_pos k20]
        simp only [beq_iff_eq]
        refine ⟨fun h => ?_, fun h => ?_⟩
        · rcases h with h | h | h | h | h | h | h | ⟨h1, h2, _⟩ <;> first | (left; omega) | (exfalso; omega)
        · rcases h with h | ⟨h1, h2, _⟩
          · first | (refine .inl ?_; omega) | (refine .inr (.inl ?_); omega) | (refine .inr (.inr (.inl ?_)); omega) | (refine .inr (.inr (.inr (.inl ?_))); omega) | (refine .inr (.inr (.inr (.inr (.inl ?_)))); omega) | (refine .inr (.inr (.inr (.inr (.inr (.inl ?_))))); omega) | (refine .inr (.inr (.inr (.inr (.inr (.inr (.inl ?_)))))); omega)
          · exfalso; omega
      by_cases k6 : b.kind = 6
      · rw [if_neg k18, if_neg k16, if_neg k20, if_pos k6]
        simp only [Bool.or_eq_true, beq_iff_eq]
        refine ⟨fun h => ?_, fun h => ?_⟩
        · rcases h with h | h | h | h | h | h | h | ⟨h1, h2, _⟩ <;> first | (left; omega) | (exfalso; omega)
        · rcases h with h | ⟨h1, h2, _⟩
          · (rcases h with h | h <;> first | (refine .inl ?_; omega) | (refine .inr (.inl ?_); omega) | (refine .inr (.inr (.inl ?_)); omega) | (refine .inr (.inr (.inr (.inl ?_))); omega) | (refine .inr (.inr (.inr (.inr (.inl ?_)))); omega) | (refine .inr (.inr (.inr (.inr (.inr (.inl ?_))))); omega) | (refine .inr (.inr (.inr (.inr (.inr (.inr (.inl ?_)))))); omega))
          · exfalso; omega
      by_cases k8 : b.kind = 8
      · rw [if_neg k18, if_neg k16, if_neg k20, if_neg k6, if_pos k8]
        simp only [beq_iff_eq]
        refine ⟨fun h => ?_, fun h => ?_⟩
        · rcases h with h | h | h | h | h | h | h | ⟨h1, h2, _⟩ <;> first | (left; omega) | (exfalso; omega)
        · rcases h with h | ⟨h1, h2, _⟩
          · first | (refine .inl ?_; omega) | (refine .inr (.inl ?_); omega) | (refine .inr (.inr (.inl ?_)); omega) | (refine .inr (.inr (.inr (.inl ?_))); omega) | (refine .inr (.inr (.inr (.inr (.inl ?_)))); omega) | (refine .inr (.inr (.inr (.inr (.inr (.inl ?_))))); omega) | (refine .inr (.inr (.inr (.inr (.inr (.inr (.inl ?_)))))); omega)
          · exfalso; omega
      by_cases k11 : b.kind = 11
      · rw [if_neg k18, if_neg k16, if_neg k20, if_neg k6, if_neg k8, if_pos k11]
        simp only [beq_iff_eq]
        refine ⟨fun h => ?_, fun h => ?_⟩
        · rcases h with h | h | h | h | h | h | h | ⟨h1, h2, _⟩ <;> first | (left; omega) | (exfalso; omega)
        · rcases h with h | ⟨h1, h2, _⟩
          · first | (refine .inl ?_; omega) | (refine .inr (.inl ?_); omega) | (refine .inr (.inr (.inl ?_)); omega) | (refine .inr (.inr (.inr (.inl ?_))); omega) | (refine .inr (.inr (.inr (.inr (.inl ?_)))); omega) | (refine .inr (.inr (.inr (.inr (.inr (.inl ?_))))); omega) | (refine .inr (.inr (.inr (.inr (.inr (.inr (.inl ?_)))))); omega)
          · exfalso; omega
      by_cases k13 : b.kind = 13
      · rw [if_neg k18, if_neg k16, if_neg k20, if_neg k6, if_neg k8, if_neg k11, if_pos k13]
        simp only [beq_iff_eq]
        refine ⟨fun h => ?_, fun h => ?_⟩
        · rcases h with h | h | h | h | h | h | h | ⟨h1, h2, _⟩ <;> first | (left; omega) | (exfalso; omega)
        · rcases h with h | ⟨h1, h2, _⟩
          · first | (refine .inl ?_; omega) | (refine .inr (.inl ?_); omega) | (refine .inr (.inr (.inl ?_)); omega) | (refine .inr (.inr (.inr (.inl ?_))); omega) | (refine .inr (.inr (.inr (.inr (.inl ?_)))); omega) | (refine .inr (.inr (.inr (.inr (.inr (.inl ?_))))); omega) | (refine .inr (.inr (.inr (.inr (.inr (.inr (.inl ?_)))))); omega)
          · exfalso; omega
      rw [if_neg k18, if_neg k16, if_neg k20, if_neg k6, if_neg k8, if_neg k11, if_neg k13]
      refine ⟨fun h => ?_, fun h => ?_⟩
      · rcases h with h | h | h | h | h | h | h | ⟨h1, h2, h3⟩
        · exfalso; omega
        · exfalso; omega
        · exfalso; omega
        · exfalso; omega
        · exfalso; omega
        · exfalso; omega
        · exfalso; omega
        · exact .inr ⟨h1, h2, h3⟩
      · rcases h with h | ⟨h1, h2, h3⟩
        · cases h
        · exact .inr (.inr (.inr (.inr (.inr (.inr (.inr ⟨h1, h2, h3⟩))))))
    · simp [ho, hf]
  · simp [ho]
theorem pre_iff {j : Nat} (h : j < l.length) {c : Int} (hc : 1 ≤ c) {k : Nat} (hk : k < 8) : c ≤ (preC l (runTo l j) (evAt l j) j).getD k 0 ↔ ∃ i, i < j ∧ Imm l i j ∧ c ≤ (stp l i).getD k 0 := by
  have hin := in_iff h (c := c) hk j (Nat.le_refl j)
  rw [start_iff V h hc k] at hin
  have hat := at_in (l := l) (runTo l j).out (evAt l j) (startC (runTo l j) (evAt l j)) j
  have hmain : c ≤ (preC l (runTo l j) (evAt l j) j).getD k 0 ↔ c ≤ (inTo l (runTo l j).out (evAt l j) (startC (runTo l j) (evAt l j), -1) j).1.getD k 0 ∨
      ∃ i, i < j ∧ (atomB (evAt l i) (evAt l j) = true ∧ ((evAt l j).kind = 3 ∨ (evAt l j).kind = 5) ∧ Atom l i j) ∧ c ≤ (stp l i).getD k 0 := by
    unfold preC
    rcases hat with ⟨h1, h2⟩ | ⟨a, h1, h2, h3, h4⟩
    · rw [h1, if_neg (by unfold atomE; simp)]
      refine ⟨.inl, fun h5 => h5.elim id (fun ⟨i, hi, h6, _⟩ => ?_)⟩
      rw [h2 i hi] at h6
      exact absurd h6.1 (by decide)
    · rw [h2]
      have huniq : ∀ i, i < j → atomB (evAt l i) (evAt l j) = true → Atom l i j → i = a := fun i hi h5 h6 => by
        rcases Nat.lt_trichotomy i a with h7 | h7 | h7
        · rw [h6 a h7 h1] at h3; cases h3
        · exact h7
        · rw [h4 i h7 hi] at h5; cases h5
      by_cases hk35 : (evAt l j).kind = 3 ∨ (evAt l j).kind = 5
      · have hE : atomE (evAt l j) (a : Int) = true := by
          unfold atomE
          simp only [Bool.and_eq_true, decide_eq_true_eq, Bool.or_eq_true, beq_iff_eq]
          exact ⟨by omega, hk35⟩
        rw [if_pos hE, getD_join ((runTo_ok l j).inTo l (evAt l j) j).1.1 (out_len (runTo_ok l j) _) hk, Int.toNat_natCast, out_stp h1 (by omega)]
        have hmax : ∀ x y : Int, (c ≤ if y > x then y else x) ↔ (c ≤ x ∨ c ≤ y) := fun x y => by split <;> omega
        rw [hmax]
        refine ⟨fun h5 => h5.elim .inl (fun h6 => .inr ⟨a, h1, ⟨h3, hk35, h4⟩, h6⟩), fun h5 => h5.elim .inl (fun ⟨i, hi, ⟨h6, _, h7⟩, h8⟩ => .inr ?_)⟩
        have := huniq i hi h6 h7
        subst this; exact h8
      · have hE : ¬ atomE (evAt l j) (a : Int) = true := by
          unfold atomE
          simp only [Bool.and_eq_true, decide_eq_true_eq, Bool.or_eq_true, beq_iff_eq]
          exact fun h5 => hk35 h5.2
        rw [if_neg hE]
        exact ⟨.inl, fun h5 => h5.elim id (fun ⟨i, hi, h6, _⟩ => absurd h6.2.1 hk35)⟩
  rw [hmain, hin]
  refine ⟨fun h5 => ?_, fun ⟨i, hi, him, h6⟩ => ?_⟩
  · rcases h5 with (⟨i, hi, hp, h6⟩ | ⟨i, hi, hs, h6⟩) | ⟨i, hi, hs, h6⟩
    · exact ⟨i, hi, hp.elim .inl (fun h => .inr (.inl h)), h6⟩
    · exact ⟨i, hi, .inr (.inr ((sync_syn V (by omega) h).2 (.inl hs))), h6⟩
    · exact ⟨i, hi, .inr (.inr ((sync_syn V (by omega) h).2 (.inr hs))), h6⟩
  · rcases him with hp | hp | hs
    · exact .inl (.inl ⟨i, hi, .inl hp, h6⟩)
    · exact .inl (.inl ⟨i, hi, .inr hp, h6⟩)
    · rcases (sync_syn V (by omega) h).1 hs with hs | hs
      · exact .inl (.inr ⟨i, hi, hs, h6⟩)
      · exact .inr ⟨i, hi, hs, h6⟩
/-- an event happens before another one just if the other's timestamp counts it -/
theorem hb_iff {j : Nat} (h : j < l.length) : ∀ i, i < l.length → (HBE l i j ↔ (ord l i : Int) ≤ (stp l j).getD (evAt l i).g.toNat 0) := by
  induction j using Nat.strongRecOn with
  | ind j ih =>
    intro i hi
    have hgi := V.g hi
    have hgj := V.g h
    have hoi : 1 ≤ (ord l i : Int) := by have := ord_eq l i; omega
    have hlen := preC_len (l := l) (e := evAt l j) (runTo_ok l j)
    by_cases hg : (evAt l i).g = (evAt l j).g
    · rw [hg, stp_own V h]
      refine ⟨fun hb => ?_, fun ho => ?_⟩
      · have := hb.le
        unfold ord; rw [hg]
        have := cntG_mono (l := l) (g := (evAt l j).g) (show i + 1 ≤ j + 1 by omega)
        omega
      · rcases Nat.lt_or_ge j i with h1 | h1
        · exfalso
          unfold ord at ho; rw [hg] at ho
          have := cntG_lt (l := l) (g := (evAt l j).g) (p := i) (n := i + 1) (by omega) hg
          have := cntG_mono (l := l) (g := (evAt l j).g) (show j + 1 ≤ i by omega)
          omega
        · exact HBE.prog h1 hg
    · have hne : (evAt l i).g.toNat ≠ (evAt l j).g.toNat := by omega
      rw [stp_at h, clockAt_eq, set_get (by omega), if_neg hne, pre_iff V h hoi (by omega)]
      have hij : i ≠ j := fun h2 => hg (by rw [h2])
      have : HBE l i j ↔ HB l i j := ⟨fun h2 => h2.elim (fun h3 => absurd h3 hij) id, .inr⟩
      rw [this, HB_iff]
      refine ⟨fun ⟨k, hk, h1, h2⟩ => ⟨k, hk, h1, (ih k hk (by omega) i hi).1 h2⟩, fun ⟨k, hk, h1, h2⟩ => ⟨k, hk, h1, (ih k hk (by omega) i hi).2 h2⟩⟩
end
open Classical in
/-- the events of a goroutine that happen before an event, or are it, counted -/
noncomputable def cntHB (l : List Ev) (g : Int) (j : Nat) : Nat → Nat
  | 0 => 0
  | n + 1 => if (evAt l n).g = g ∧ HBE l n j then cntHB l g j n + 1 else cntHB l g j n
theorem cnt_hb {l : List Ev} (V : VL l) {j : Nat} (h : j < l.length) {g : Int} (h0 : 0 ≤ g) (h8 : g < 8) (n : Nat) (hn : n ≤ l.length) : (cntHB l g j n : Int) = min ((stp l j).getD g.toNat 0) (cntG l g n : Int) := by
  have hnn := stp_nonneg (l := l) (j := j) (k := g.toNat)
  induction n with
  | zero => simp only [cntHB, cntG]; omega
  | succ n ih =>
    have ih := ih (by omega)
    simp only [cntHB, cntG]
    by_cases hg : (evAt l n).g = g
    · have hiff := hb_iff V h n (by omega)
      have ho := ord_eq l n
      rw [hg] at hiff ho
      rw [if_pos hg]
      by_cases hb : HBE l n j
      · rw [if_pos ⟨hg, hb⟩]
        have := hiff.1 hb
        omega
      · rw [if_neg (fun h => hb h.2)]
        have : ¬ (ord l n : Int) ≤ _ := fun h2 => hb (hiff.2 h2)
        omega
    · rw [if_neg hg, if_neg (fun h => hg h.1)]; exact ih
theorem stp_cnt {l : List Ev} (V : VL l) {j : Nat} (h : j < l.length) {g : Int} (h0 : 0 ≤ g) (h8 : g < 8) : (stp l j).getD g.toNat 0 = (cntHB l g j (j + 1) : Int) := by
  rw [cnt_hb V h h0 h8 (j + 1) h]
  have := stp_le V h h0 h8
  omega
end Go.Proofs.Ytohliamalaifhaa
end
section
set_option linter.unusedSimpArgs false
set_option linter.unusedVariables false
namespace Go.Proofs.Ytohliamalaifhaa
open Go Go.RowKit
set_option maxRecDepth 100000
set_option maxHeartbeats 4000000
open Classical

theorem evAt_some {l : List Ev} {i : Nat} (h : i < l.length) : l[i]? = some (evAt l i) := by
  rw [evAt_of (List.getElem?_eq_getElem h)]; exact List.getElem?_eq_getElem h
def R_prog34 (ps rs : List Pa) : Prop := ∃ (l : List Ev) (i j : Nat), ps = [evsPa l, pI i, pI j] ∧ (i < l.length ∧ j < l.length ∧ i < j ∧ l.length ≤ 1000000) ∧ rs = [pB (decide (Prog l i j))]
theorem s_prog34 : Spec Try.prog 26 R_prog34 := by
  refine sp26 EnvOK.e0 ?_
  rintro ps rs ⟨l, i, j, rfl, ⟨hi, hj, hij, hlen⟩, rfl⟩
  refine ⟨by simp, ?_⟩
  have ei := evAt_some hi
  have ej := evAt_some hj
  have hi0 : (0 : Int) ≤ (i : Int) := by omega
  have hj0 : (0 : Int) ≤ (j : Int) := by omega
  have hw : IntKind.i64.wrap ((i : Int) + 1) = ((i + 1 : Nat) : Int) := wrN (by omega)
  unfold pc26
  refine pwp_start ?_
  cases q : ((evAt l i).g != (evAt l j).g) with
  | true =>
    have hd : decide (Prog l i j) = false := decide_eq_false (fun h => (bne_iff_ne.1 q) h.1)
    simp only [↓evP, evB, stB, reduceIte, reduceCtorEq, Nat.reduceEqDiff, Nat.reduceAdd, Nat.reduceMul, Nat.reduceLeDiff, Nat.reduceLT, Nat.reduceSub, Nat.reduceBEq, evsPa, evsD, hi0, hj0, ei, ej, Ev.row, q, hd, pr26]
    exact (by unfold Drw; kernel_rfl)
  | false =>
    have hg : (evAt l i).g = (evAt l j).g := by rw [bne_eq_false_iff_eq] at q; exact q
    simp only [↓evP, evB, stB, reduceIte, reduceCtorEq, Nat.reduceEqDiff, Nat.reduceAdd, Nat.reduceMul, Nat.reduceLeDiff, Nat.reduceLT, Nat.reduceSub, Nat.reduceBEq, evsPa, evsD, hi0, hj0, ei, ej, Ev.row, q, hw]
    refine ⟨(by unfold Drw; kernel_rfl), ?_⟩
    refine pwp_loopW ms26_0 os26_0 (fun m st => ∃ k : Nat, m = j - k ∧ i < k ∧ k ≤ j ∧ (∀ x, i < x → x < k → (evAt l x).g ≠ (evAt l i).g) ∧ st.sl 7 = aI k) (j - (i + 1)) ?_ ?_
    · exact ⟨i + 1, rfl, by omega, by omega, fun x h1 h2 => by omega, by simp only [stB, reduceIte, reduceCtorEq, Nat.reduceEqDiff, Nat.reduceAdd, Nat.reduceMul, Nat.reduceLeDiff, Nat.reduceLT, Nat.reduceSub, Nat.reduceBEq]⟩
    · rintro m z ⟨k, rfl, hik, hk, hno, h7⟩
      simp only [stB, reduceIte, reduceCtorEq, Nat.reduceEqDiff, Nat.reduceAdd, Nat.reduceMul, Nat.reduceLeDiff, Nat.reduceLT, Nat.reduceSub, Nat.reduceBEq] at h7
      rcases Nat.lt_or_ge k j with hlt | hge
      · have ek := evAt_some (l := l) (i := k) (by omega)
        have hlt' : (k : Int) < (j : Int) := by omega
        have hk0 : (0 : Int) ≤ (k : Int) := by omega
        cases q2 : ((evAt l k).g == (evAt l i).g) with
        | true =>
          have hd : decide (Prog l i j) = false := decide_eq_false (fun h => h.2 k hik hlt (beq_iff_eq.1 q2))
          simp only [↓evP, evB, stB, reduceIte, reduceCtorEq, Nat.reduceEqDiff, Nat.reduceAdd, Nat.reduceMul, Nat.reduceLeDiff, Nat.reduceLT, Nat.reduceSub, Nat.reduceBEq, evsPa, evsD, h7, hlt', hk0, hi0, ek, ei, Ev.row, q2, hd, pr26]
          exact (by unfold Drw; kernel_rfl)
        | false =>
          simp only [↓evP, evB, stB, reduceIte, reduceCtorEq, Nat.reduceEqDiff, Nat.reduceAdd, Nat.reduceMul, Nat.reduceLeDiff, Nat.reduceLT, Nat.reduceSub, Nat.reduceBEq, evsPa, evsD, h7, hlt', hk0, hi0, ek, ei, Ev.row, q2]
          refine ⟨(by unfold Drw; kernel_rfl), ?_⟩
          refine ⟨_, ?_, (by repeat' (first | assumption | exact within_over.mpr trivial | exact Within.refl _ _ _ | (refine within_ap ?_ rfl rfl) | (refine within_ap0 ?_ rfl))), k + 1, rfl, by omega, hlt, fun x h1 h2 => ?_, by simp only [stB, reduceIte, reduceCtorEq, Nat.reduceEqDiff, Nat.reduceAdd, Nat.reduceMul, Nat.reduceLeDiff, Nat.reduceLT, Nat.reduceSub, Nat.reduceBEq, h7]; rw [wrN (by omega)]⟩
          · omega
          · rcases Nat.lt_or_eq_of_le (Nat.le_of_lt_succ h2) with h3 | h3
            · exact hno x h1 h3
            · subst h3; exact beq_eq_false_iff_ne.1 q2
      · have hkj : k = j := by omega
        subst hkj
        have hlt' : ¬ (k : Int) < (k : Int) := by omega
        have hd : decide (Prog l i k) = true := decide_eq_true ⟨hg, hno⟩
        simp only [↓evP, evB, stB, reduceIte, reduceCtorEq, Nat.reduceEqDiff, Nat.reduceAdd, Nat.reduceMul, Nat.reduceLeDiff, Nat.reduceLT, Nat.reduceSub, Nat.reduceBEq, evsPa, evsD, h7, hlt', hd, pr26]
def R_first34 (ps rs : List Pa) : Prop := ∃ (l : List Ev) (j : Nat), ps = [evsPa l, pI j] ∧ (j < l.length ∧ l.length ≤ 1000000) ∧ rs = [pB (decide (First l j))]
theorem s_first34 : Spec Try.prog 27 R_first34 := by
  refine sp27 EnvOK.e0 ?_
  rintro ps rs ⟨l, j, rfl, ⟨hj, hlen⟩, rfl⟩
  refine ⟨by simp, ?_⟩
  have ej := evAt_some hj
  have hj0 : (0 : Int) ≤ (j : Int) := by omega
  unfold pc27
  refine pwp_start ?_
  simp only [↓evP, evB, stB, reduceIte, reduceCtorEq, Nat.reduceEqDiff, Nat.reduceAdd, Nat.reduceMul, Nat.reduceLeDiff, Nat.reduceLT, Nat.reduceSub, Nat.reduceBEq, evsPa, evsD]
  refine pwp_loopW ms27_0 os27_0 (fun m st => ∃ k : Nat, m = j - k ∧ k ≤ j ∧ (∀ x, x < k → (evAt l x).g ≠ (evAt l j).g) ∧ st.sl 5 = aI k) j ?_ ?_
  · exact ⟨0, rfl, Nat.zero_le _, fun x h => by omega, by simp only [stB, reduceIte, reduceCtorEq, Nat.reduceEqDiff, Nat.reduceAdd, Nat.reduceMul, Nat.reduceLeDiff, Nat.reduceLT, Nat.reduceSub, Nat.reduceBEq]; rfl⟩
  · rintro m z ⟨k, rfl, hk, hno, h7⟩
    simp only [stB, reduceIte, reduceCtorEq, Nat.reduceEqDiff, Nat.reduceAdd, Nat.reduceMul, Nat.reduceLeDiff, Nat.reduceLT, Nat.reduceSub, Nat.reduceBEq] at h7
    rcases Nat.lt_or_ge k j with hlt | hge
    · have ek := evAt_some (l := l) (i := k) (by omega)
      have hlt' : (k : Int) < (j : Int) := by omega
      have hk0 : (0 : Int) ≤ (k : Int) := by omega
      cases q2 : ((evAt l k).g == (evAt l j).g) with
      | true =>
        have hd : decide (First l j) = false := decide_eq_false (fun h => h k hlt (beq_iff_eq.1 q2))
        simp only [↓evP, evB, stB, reduceIte, reduceCtorEq, Nat.reduceEqDiff, Nat.reduceAdd, Nat.reduceMul, Nat.reduceLeDiff, Nat.reduceLT, Nat.reduceSub, Nat.reduceBEq, h7, hlt', hk0, hj0, ek, ej, Ev.row, q2, hd, pr27]
        exact (by unfold Drw; kernel_rfl)
      | false =>
        simp only [↓evP, evB, stB, reduceIte, reduceCtorEq, Nat.reduceEqDiff, Nat.reduceAdd, Nat.reduceMul, Nat.reduceLeDiff, Nat.reduceLT, Nat.reduceSub, Nat.reduceBEq, h7, hlt', hk0, hj0, ek, ej, Ev.row, q2]
        refine ⟨(by unfold Drw; kernel_rfl), ?_⟩
        refine ⟨_, ?_, (by repeat' (first | assumption | exact within_over.mpr trivial | exact Within.refl _ _ _ | (refine within_ap ?_ rfl rfl) | (refine within_ap0 ?_ rfl))), k + 1, rfl, hlt, fun x h2 => ?_, by simp only [stB, reduceIte, reduceCtorEq, Nat.reduceEqDiff, Nat.reduceAdd, Nat.reduceMul, Nat.reduceLeDiff, Nat.reduceLT, Nat.reduceSub, Nat.reduceBEq, h7]; rw [wrN (by omega)]⟩
        · omega
        · rcases Nat.lt_or_eq_of_le (Nat.le_of_lt_succ h2) with h3 | h3
          · exact hno x h3
          · subst h3; exact beq_eq_false_iff_ne.1 q2
    · have hkj : k = j := by omega
      subst hkj
      have hlt' : ¬ (k : Int) < (k : Int) := by omega
      have hd : decide (First l k) = true := decide_eq_true hno
      simp only [↓evP, evB, stB, reduceIte, reduceCtorEq, Nat.reduceEqDiff, Nat.reduceAdd, Nat.reduceMul, Nat.reduceLeDiff, Nat.reduceLT, Nat.reduceSub, Nat.reduceBEq, h7, hlt', hd, pr27]
def R_atomic34 (ps rs : List Pa) : Prop := ∃ (l : List Ev) (i j : Nat), ps = [evsPa l, pI i, pI j] ∧ (i < l.length ∧ j < l.length ∧ i < j ∧ l.length ≤ 1000000) ∧ rs = [pB (decide (Atom l i j))]
theorem s_atomic34 : Spec Try.prog 28 R_atomic34 := by
  refine sp28 EnvOK.e0 ?_
  rintro ps rs ⟨l, i, j, rfl, ⟨hi, hj, hij, hlen⟩, rfl⟩
  refine ⟨by simp, ?_⟩
  have ej := evAt_some hj
  have hj0 : (0 : Int) ≤ (j : Int) := by omega
  have hw : IntKind.i64.wrap ((i : Int) + 1) = ((i + 1 : Nat) : Int) := wrN (by omega)
  unfold pc28
  refine pwp_start ?_
  simp only [↓evP, evB, stB, reduceIte, reduceCtorEq, Nat.reduceEqDiff, Nat.reduceAdd, Nat.reduceMul, Nat.reduceLeDiff, Nat.reduceLT, Nat.reduceSub, Nat.reduceBEq, evsPa, evsD, hw]
  refine pwp_loopW ms28_0 os28_0 (fun m st => ∃ k : Nat, m = j - k ∧ i < k ∧ k ≤ j ∧ (∀ x, i < x → x < k → atomB (evAt l x) (evAt l j) = false) ∧ st.sl 7 = aI k) (j - (i + 1)) ?_ ?_
  · exact ⟨i + 1, rfl, by omega, by omega, fun x h1 h2 => by omega, by simp only [stB, reduceIte, reduceCtorEq, Nat.reduceEqDiff, Nat.reduceAdd, Nat.reduceMul, Nat.reduceLeDiff, Nat.reduceLT, Nat.reduceSub, Nat.reduceBEq]⟩
  · rintro m z ⟨k, rfl, hik, hk, hno, h7⟩
    simp only [stB, reduceIte, reduceCtorEq, Nat.reduceEqDiff, Nat.reduceAdd, Nat.reduceMul, Nat.reduceLeDiff, Nat.reduceLT, Nat.reduceSub, Nat.reduceBEq] at h7
    rcases Nat.lt_or_ge k j with hlt | hge
    · have ek := evAt_some (l := l) (i := k) (by omega)
      have hlt' : (k : Int) < (j : Int) := by omega
      have hk0 : (0 : Int) ≤ (k : Int) := by omega
      have hat : atomB (evAt l k) (evAt l j) = atomB (evAt l k) (evAt l j) := rfl
      conv at hat => rhs; unfold atomB
      have hit : atomB (evAt l k) (evAt l j) = true → decide (Atom l i j) = false := fun h => decide_eq_false (fun h2 => by rw [h2 k hik hlt] at h; cases h)
      cases k4 : ((evAt l k).kind == 4) with
      | true =>
        cases qo : ((evAt l k).obj == (evAt l j).obj) with
        | false =>
          simp only [k4, qo, Bool.true_and, Bool.false_and, Bool.and_true, Bool.and_false, Bool.true_or, Bool.or_true, Bool.false_or, Bool.or_false] at hat
          simp only [↓evP, evB, stB, reduceIte, reduceCtorEq, Nat.reduceEqDiff, Nat.reduceAdd, Nat.reduceMul, Nat.reduceLeDiff, Nat.reduceLT, Nat.reduceSub, Nat.reduceBEq, h7, hlt', hk0, hj0, ek, ej, Ev.row, k4, qo]
          refine ⟨(by unfold Drw; kernel_rfl), ?_⟩
          refine ⟨_, ?_, (by repeat' (first | assumption | exact within_over.mpr trivial | exact Within.refl _ _ _ | (refine within_ap ?_ rfl rfl) | (refine within_ap0 ?_ rfl))), k + 1, rfl, by omega, hlt, fun x h1 h2 => ?_, by simp only [stB, reduceIte, reduceCtorEq, Nat.reduceEqDiff, Nat.reduceAdd, Nat.reduceMul, Nat.reduceLeDiff, Nat.reduceLT, Nat.reduceSub, Nat.reduceBEq, h7]; rw [wrN (by omega)]⟩
          · omega
          · rcases Nat.lt_or_eq_of_le (Nat.le_of_lt_succ h2) with h3 | h3
            · exact hno x h1 h3
            · subst h3; exact hat
        | true =>
        cases qf : ((evAt l k).off == (evAt l j).off) with
        | false =>
          simp only [k4, qo, qf, Bool.true_and, Bool.false_and, Bool.and_true, Bool.and_false, Bool.true_or, Bool.or_true, Bool.false_or, Bool.or_false] at hat
          simp only [↓evP, evB, stB, reduceIte, reduceCtorEq, Nat.reduceEqDiff, Nat.reduceAdd, Nat.reduceMul, Nat.reduceLeDiff, Nat.reduceLT, Nat.reduceSub, Nat.reduceBEq, h7, hlt', hk0, hj0, ek, ej, Ev.row, k4, qo, qf]
          refine ⟨(by unfold Drw; kernel_rfl), ?_⟩
          refine ⟨_, ?_, (by repeat' (first | assumption | exact within_over.mpr trivial | exact Within.refl _ _ _ | (refine within_ap ?_ rfl rfl) | (refine within_ap0 ?_ rfl))), k + 1, rfl, by omega, hlt, fun x h1 h2 => ?_, by simp only [stB, reduceIte, reduceCtorEq, Nat.reduceEqDiff, Nat.reduceAdd, Nat.reduceMul, Nat.reduceLeDiff, Nat.reduceLT, Nat.reduceSub, Nat.reduceBEq, h7]; rw [wrN (by omega)]⟩
          · omega
          · rcases Nat.lt_or_eq_of_le (Nat.le_of_lt_succ h2) with h3 | h3
            · exact hno x h1 h3
            · subst h3; exact hat
        | true =>
          simp only [k4, qo, qf, Bool.true_and, Bool.false_and, Bool.and_true, Bool.true_or, Bool.or_true, Bool.false_or, Bool.or_false] at hat
          have hd := hit hat
          simp only [↓evP, evB, stB, reduceIte, reduceCtorEq, Nat.reduceEqDiff, Nat.reduceAdd, Nat.reduceMul, Nat.reduceLeDiff, Nat.reduceLT, Nat.reduceSub, Nat.reduceBEq, h7, hlt', hk0, hj0, ek, ej, Ev.row, k4, qo, qf, hd, pr28]
          exact (by unfold Drw; kernel_rfl)
      | false =>
      cases k5 : ((evAt l k).kind == 5) with
      | true =>
        cases qo : ((evAt l k).obj == (evAt l j).obj) with
        | false =>
          simp only [k4, k5, qo, Bool.true_and, Bool.false_and, Bool.and_true, Bool.and_false, Bool.true_or, Bool.or_true, Bool.false_or, Bool.or_false] at hat
          simp only [↓evP, evB, stB, reduceIte, reduceCtorEq, Nat.reduceEqDiff, Nat.reduceAdd, Nat.reduceMul, Nat.reduceLeDiff, Nat.reduceLT, Nat.reduceSub, Nat.reduceBEq, h7, hlt', hk0, hj0, ek, ej, Ev.row, k4, k5, qo]
          refine ⟨(by unfold Drw; kernel_rfl), ?_⟩
          refine ⟨_, ?_, (by repeat' (first | assumption | exact within_over.mpr trivial | exact Within.refl _ _ _ | (refine within_ap ?_ rfl rfl) | (refine within_ap0 ?_ rfl))), k + 1, rfl, by omega, hlt, fun x h1 h2 => ?_, by simp only [stB, reduceIte, reduceCtorEq, Nat.reduceEqDiff, Nat.reduceAdd, Nat.reduceMul, Nat.reduceLeDiff, Nat.reduceLT, Nat.reduceSub, Nat.reduceBEq, h7]; rw [wrN (by omega)]⟩
          · omega
          · rcases Nat.lt_or_eq_of_le (Nat.le_of_lt_succ h2) with h3 | h3
            · exact hno x h1 h3
            · subst h3; exact hat
        | true =>
        cases qf : ((evAt l k).off == (evAt l j).off) with
        | false =>
          simp only [k4, k5, qo, qf, Bool.true_and, Bool.false_and, Bool.and_true, Bool.and_false, Bool.true_or, Bool.or_true, Bool.false_or, Bool.or_false] at hat
          simp only [↓evP, evB, stB, reduceIte, reduceCtorEq, Nat.reduceEqDiff, Nat.reduceAdd, Nat.reduceMul, Nat.reduceLeDiff, Nat.reduceLT, Nat.reduceSub, Nat.reduceBEq, h7, hlt', hk0, hj0, ek, ej, Ev.row, k4, k5, qo, qf]
          refine ⟨(by unfold Drw; kernel_rfl), ?_⟩
          refine ⟨_, ?_, (by repeat' (first | assumption | exact within_over.mpr trivial | exact Within.refl _ _ _ | (refine within_ap ?_ rfl rfl) | (refine within_ap0 ?_ rfl))), k + 1, rfl, by omega, hlt, fun x h1 h2 => ?_, by simp only [stB, reduceIte, reduceCtorEq, Nat.reduceEqDiff, Nat.reduceAdd, Nat.reduceMul, Nat.reduceLeDiff, Nat.reduceLT, Nat.reduceSub, Nat.reduceBEq, h7]; rw [wrN (by omega)]⟩
          · omega
          · rcases Nat.lt_or_eq_of_le (Nat.le_of_lt_succ h2) with h3 | h3
            · exact hno x h1 h3
            · subst h3; exact hat
        | true =>
          simp only [k4, k5, qo, qf, Bool.true_and, Bool.false_and, Bool.and_true, Bool.true_or, Bool.or_true, Bool.false_or, Bool.or_false] at hat
          have hd := hit hat
          simp only [↓evP, evB, stB, reduceIte, reduceCtorEq, Nat.reduceEqDiff, Nat.reduceAdd, Nat.reduceMul, Nat.reduceLeDiff, Nat.reduceLT, Nat.reduceSub, Nat.reduceBEq, h7, hlt', hk0, hj0, ek, ej, Ev.row, k4, k5, qo, qf, hd, pr28]
          exact (by unfold Drw; kernel_rfl)
      | false =>
        simp only [k4, k5, Bool.true_and, Bool.false_and, Bool.and_true, Bool.and_false, Bool.true_or, Bool.or_true, Bool.false_or, Bool.or_false] at hat
        simp only [↓evP, evB, stB, reduceIte, reduceCtorEq, Nat.reduceEqDiff, Nat.reduceAdd, Nat.reduceMul, Nat.reduceLeDiff, Nat.reduceLT, Nat.reduceSub, Nat.reduceBEq, h7, hlt', hk0, hj0, ek, ej, Ev.row, k4, k5]
        refine ⟨(by unfold Drw; kernel_rfl), ?_⟩
        refine ⟨_, ?_, (by repeat' (first | assumption | exact within_over.mpr trivial | exact Within.refl _ _ _ | (refine within_ap ?_ rfl rfl) | (refine within_ap0 ?_ rfl))), k + 1, rfl, by omega, hlt, fun x h1 h2 => ?_, by simp only [stB, reduceIte, reduceCtorEq, Nat.reduceEqDiff, Nat.reduceAdd, Nat.reduceMul, Nat.reduceLeDiff, Nat.reduceLT, Nat.reduceSub, Nat.reduceBEq, h7]; rw [wrN (by omega)]⟩
        · omega
        · rcases Nat.lt_or_eq_of_le (Nat.le_of_lt_succ h2) with h3 | h3
          · exact hno x h1 h3
          · subst h3; exact hat
    · have hkj : k = j := by omega
      subst hkj
      have hlt' : ¬ (k : Int) < (k : Int) := by omega
      have hd : decide (Atom l i k) = true := decide_eq_true hno
      simp only [↓evP, evB, stB, reduceIte, reduceCtorEq, Nat.reduceEqDiff, Nat.reduceAdd, Nat.reduceMul, Nat.reduceLeDiff, Nat.reduceLT, Nat.reduceSub, Nat.reduceBEq, h7, hlt', hd, pr28]
noncomputable def immB (P F A : Prop) (a b : Ev) : Bool :=
  if P then true
  else if a.kind = 14 ∧ a.k = b.g ∧ F then true
  else if a.obj ≠ b.obj then false
  else if a.off ≠ b.off then false
  else if a.kind = 15 then b.kind == 18 && b.k == a.k
  else if a.kind = 17 then b.kind == 16 && b.k == a.k + a.n
  else if a.kind = 19 then b.kind == 20
  else if a.kind = 7 then b.kind == 6 || b.kind == 8
  else if a.kind = 9 then b.kind == 6
  else if a.kind = 10 then b.kind == 11
  else if a.kind = 12 then b.kind == 13
  else if a.kind = 4 ∨ a.kind = 5 then (b.kind == 3 || b.kind == 5) && decide A
  else false
theorem imm_iff (l : List Ev) (i j : Nat) : Imm l i j ↔ immB (Prog l i j) (First l j) (Atom l i j) (evAt l i) (evAt l j) = true := by
  unfold Imm GoE Syn Kinds immB
  generalize evAt l i = a
  generalize evAt l j = b
  generalize Prog l i j = P
  generalize First l j = F
  generalize Atom l i j = A
  by_cases hP : P
  · rw [if_pos hP]; exact iff_of_true (.inl hP) rfl
  rw [if_neg hP]
  by_cases hG : a.kind = 14 ∧ a.k = b.g ∧ F
  · rw [if_pos hG]; exact iff_of_true (.inr (.inl hG)) rfl
  rw [if_neg hG]
  by_cases ho : a.obj = b.obj
  · by_cases hf : a.off = b.off
    · rw [if_neg (fun h => h ho), if_neg (fun h => h hf)]
      by_cases k15 : a.kind = 15
      · rw [if_pos k15]
        simp only [Bool.and_eq_true, Bool.or_eq_true, beq_iff_eq]
        refine ⟨fun h => ?_, fun h => .inr (.inr ⟨ho, hf, .inl ?_⟩)⟩
        · rcases h with h | h | ⟨_, _, h⟩
          · exact absurd h hP
          · exact absurd h hG
          · rcases h with h | h | h | h | h | h | h | ⟨h1, _⟩ <;> omega
        · omega
      by_cases k17 : a.kind = 17
      · rw [if_neg k15, if_pos k17]
        simp only [Bool.and_eq_true, Bool.or_eq_true, beq_iff_eq]
        refine ⟨fun h => ?_, fun h => .inr (.inr ⟨ho, hf, .inr (.inl ?_)⟩)⟩
        · rcases h with h | h | ⟨_, _, h⟩
          · exact absurd h hP
          · exact absurd h hG
          · rcases h with h | h | h | h | h | h | h | ⟨h1, _⟩ <;> omega
        · omega
      by_cases k19 : a.kind = 19
      · rw [if_neg k15, if_neg k17, if_pos k19]
        simp only [Bool.and_eq_true, Bool.or_eq_true, beq_iff_eq]
        refine ⟨fun h => ?_, fun h => .inr (.inr ⟨ho, hf, .inr (.inr (.inl ?_))⟩)⟩
        · rcases h with h | h | ⟨_, _, h⟩
          · exact absurd h hP
          · exact absurd h hG
          · rcases h with h | h | h | h | h | h | h | ⟨h1, _⟩ <;> omega
        · omega
      by_cases k7 : a.kind = 7
      · rw [if_neg k15, if_neg k17, if_neg k19, if_pos k7]
        simp only [Bool.and_eq_true, Bool.or_eq_true, beq_iff_eq]
        refine ⟨fun h => ?_, fun h => .inr (.inr ⟨ho, hf, .inr (.inr (.inr (.inl ?_)))⟩)⟩
        · rcases h with h | h | ⟨_, _, h⟩
          · exact absurd h hP
          · exact absurd h hG
          · rcases h with h | h | h | h | h | h | h | ⟨h1, _⟩ <;> omega
        · omega
      by_cases k9 : a.kind = 9
      · rw [if_neg k15, if_neg k17, if_neg k19, if_neg k7, if_pos k9]
        simp only [Bool.and_eq_true, Bool.or_eq_true, beq_iff_eq]
        refine ⟨fun h => ?_, fun h => .inr (.inr ⟨ho, hf, .inr (.inr (.inr (.inr (.inl ?_))))⟩)⟩
        · rcases h with h | h | ⟨_, _, h⟩
          · exact absurd h hP
          · exact absurd h hG
          · rcases h with h | h | h | h | h | h | h | ⟨h1, _⟩ <;> omega
        · omega
      by_cases k10 : a.kind = 10
      · rw [if_neg k15, if_neg k17, if_neg k19, if_neg k7, if_neg k9, if_pos k10]
        simp only [Bool.and_eq_true, Bool.or_eq_true, beq_iff_eq]
        refine ⟨fun h => ?_, fun h => .inr (.inr ⟨ho, hf, .inr (.inr (.inr (.inr (.inr (.inl ?_)))))⟩)⟩
        · rcases h with h | h | ⟨_, _, h⟩
          · exact absurd h hP
          · exact absurd h hG
          · rcases h with h | h | h | h | h | h | h | ⟨h1, _⟩ <;> omega
        · omega
      by_cases k12 : a.kind = 12
      · rw [if_neg k15, if_neg k17, if_neg k19, if_neg k7, if_neg k9, if_neg k10, if_pos k12]
        simp only [Bool.and_eq_true, Bool.or_eq_true, beq_iff_eq]
        refine ⟨fun h => ?_, fun h => .inr (.inr ⟨ho, hf, .inr (.inr (.inr (.inr (.inr (.inr (.inl ?_))))))⟩)⟩
        · rcases h with h | h | ⟨_, _, h⟩
          · exact absurd h hP
          · exact absurd h hG
          · rcases h with h | h | h | h | h | h | h | ⟨h1, _⟩ <;> omega
        · omega
      by_cases k45 : a.kind = 4 ∨ a.kind = 5
      · rw [if_neg k15, if_neg k17, if_neg k19, if_neg k7, if_neg k9, if_neg k10, if_neg k12, if_pos k45]
        simp only [Bool.and_eq_true, Bool.or_eq_true, beq_iff_eq, decide_eq_true_eq]
        refine ⟨fun h => ?_, fun h => .inr (.inr ⟨ho, hf, .inr (.inr (.inr (.inr (.inr (.inr (.inr ⟨k45, h⟩))))))⟩)⟩
        rcases h with h | h | ⟨_, _, h⟩
        · exact absurd h hP
        · exact absurd h hG
        · rcases h with h | h | h | h | h | h | h | ⟨_, h2⟩
          · omega
          · omega
          · omega
          · omega
          · omega
          · omega
          · omega
          · exact h2
      · rw [if_neg k15, if_neg k17, if_neg k19, if_neg k7, if_neg k9, if_neg k10, if_neg k12, if_neg k45]
        refine ⟨fun h => ?_, fun h => by cases h⟩
        rcases h with h | h | ⟨_, _, h⟩
        · exact absurd h hP
        · exact absurd h hG
        · rcases h with h | h | h | h | h | h | h | ⟨h1, _⟩ <;> omega
    · rw [if_neg (fun h => h ho), if_pos hf]
      exact iff_of_false (fun h => h.elim hP (fun h => h.elim hG (fun h => hf h.2.1))) (by decide)
  · rw [if_pos ho]
    exact iff_of_false (fun h => h.elim hP (fun h => h.elim hG (fun h => ho h.1))) (by decide)
theorem imm_eq (l : List Ev) (i j : Nat) : decide (Imm l i j) = immB (Prog l i j) (First l j) (Atom l i j) (evAt l i) (evAt l j) := by
  rw [Bool.eq_iff_iff, decide_eq_true_eq]; exact imm_iff l i j
end Go.Proofs.Ytohliamalaifhaa
end
section
namespace Go.Proofs.Ytohliamalaifhaa
open Go Go.RowKit
set_option linter.unusedSimpArgs false
set_option linter.unusedVariables false
set_option maxRecDepth 100000

/-! interleave/interleaveref34.Immediate -/
def pci20c0 : PC :=
 .seq (.reg false [⟨(some 54), .fld 1 (.t 8), none, []⟩,
                  ⟨(some 55), .load none (.t 54), none, [0]⟩,
                  ⟨(some 56), .bin .eql (.t 55) (.v (.int .i64 18)), none, [1]⟩,
                  ⟨(some 57), .mv (.t 56), none, [2]⟩,
                  ⟨(some 58), .fld 4 (.t 8), (some (57, true)), [3]⟩,
                  ⟨(some 59), .load none (.t 58), (some (57, true)), [4, 3]⟩,
                  ⟨(some 60), .fld 4 (.t 7), (some (57, true)), [3]⟩,
                  ⟨(some 61), .load none (.t 60), (some (57, true)), [6, 3]⟩,
                  ⟨(some 62), .bin .eql (.t 59) (.t 61), (some (57, true)), [5, 7, 3]⟩,
                  ⟨(some 63), .pick (.t 57) (.t 62) (.v (.bool false)), none, [3, 8]⟩,
                  ⟨(some 6), .mv (.t 63), none, [9, 3, 0, 1, 2, 3, 4, 5, 6, 7, 8, 9]⟩])
             (.ret)
def pci20c1 : PC :=
 .seq (.reg false [⟨(some 66), .fld 1 (.t 8), none, []⟩,
                     ⟨(some 67), .load none (.t 66), none, [0]⟩,
                     ⟨(some 68), .bin .eql (.t 67) (.v (.int .i64 16)), none, [1]⟩,
                     ⟨(some 69), .mv (.t 68), none, [2]⟩,
                     ⟨(some 70), .fld 4 (.t 8), (some (69, true)), [3]⟩,
                     ⟨(some 71), .load none (.t 70), (some (69, true)), [4, 3]⟩,
                     ⟨(some 72), .fld 4 (.t 7), (some (69, true)), [3]⟩,
                     ⟨(some 73), .load none (.t 72), (some (69, true)), [6, 3]⟩,
                     ⟨(some 74), .fld 5 (.t 7), (some (69, true)), [3]⟩,
                     ⟨(some 75), .load none (.t 74), (some (69, true)), [8, 3]⟩,
                     ⟨(some 76), .bin .add (.t 73) (.t 75), (some (69, true)), [7, 9, 3]⟩,
                     ⟨(some 77), .bin .eql (.t 71) (.t 76), (some (69, true)), [5, 10, 3]⟩,
                     ⟨(some 78), .pick (.t 69) (.t 77) (.v (.bool false)), none, [3, 11]⟩,
                     ⟨(some 6), .mv (.t 78), none, [12, 3, 0, 1, 2, 3, 4, 5, 6, 7, 8, 9, 10, 11, 12]⟩])
                (.ret)
def pci20c2 : PC :=
 .seq (.reg false [⟨(some 86), .fld 1 (.t 8), none, []⟩,
                           ⟨(some 87), .load none (.t 86), none, [0]⟩,
                           ⟨(some 88), .bin .eql (.t 87) (.v (.int .i64 6)), none, [1]⟩,
                           ⟨(some 89), .mv (.t 88), none, [2]⟩,
                           ⟨(some 90), .fld 1 (.t 8), (some (89, false)), [3]⟩,
                           ⟨(some 91), .load none (.t 90), (some (89, false)), [4, 3]⟩,
                           ⟨(some 92), .bin .eql (.t 91) (.v (.int .i64 8)), (some (89, false)), [5, 3]⟩,
                           ⟨(some 93), .pick (.t 89) (.v (.bool true)) (.t 92), none, [3, 6]⟩,
                           ⟨(some 6), .mv (.t 93), none, [7, 3, 0, 1, 2, 3, 4, 5, 6, 7]⟩])
                      (.ret)
def pci20c3 : PC :=
 .seq (.reg false [⟨(some 112), .fld 1 (.t 8), none, []⟩,
                                       ⟨(some 113), .load none (.t 112), none, [0]⟩,
                                       ⟨(some 114), .bin .eql (.t 113) (.v (.int .i64 3)), none, [1]⟩,
                                       ⟨(some 115), .mv (.t 114), none, [2]⟩,
                                       ⟨(some 116), .fld 1 (.t 8), (some (115, false)), [3]⟩,
                                       ⟨(some 117), .load none (.t 116), (some (115, false)), [4, 3]⟩,
                                       ⟨(some 118), .bin .eql (.t 117) (.v (.int .i64 5)), (some (115, false)), [5, 3]⟩,
                                       ⟨(some 119), .pick (.t 115) (.v (.bool true)) (.t 118), none, [3, 6]⟩,
                                       ⟨(some 120), .mv (.t 119), none, [7, 3]⟩,
                                       ⟨(some 121), .mv (.t 0), (some (120, true)), [8]⟩,
                                       ⟨(some 122), .mv (.t 1), (some (120, true)), [8]⟩,
                                       ⟨(some 123), .mv (.t 2), (some (120, true)), [8]⟩,
                                       ⟨(some 124), .call 28 [(.t 121), (.t 122), (.t 123)], (some (120, true)), [9, 10, 11, 8, 8]⟩,
                                       ⟨(some 125), .pick (.t 120) (.t 124) (.v (.bool false)), none, [8, 12]⟩,
                                       ⟨(some 6), .mv (.t 125), none, [13, 12, 0, 1, 2, 3, 4, 5, 6, 7, 8, 9, 10, 11, 12, 13]⟩])
                                  (.ret)
def pci20c4 : PC :=
 .seq (.seq (.reg false [⟨(some 110), .bin .eql (.t 51) (.v (.int .i64 4)), none, []⟩,
                                     ⟨(some 109), .mv (.t 110), none, [0]⟩])
                                (.cond (.t 109)
                                  (.skip)
                                  (.reg false [⟨(some 111), .bin .eql (.t 51) (.v (.int .i64 5)), none, []⟩,
                                       ⟨(some 109), .mv (.t 111), none, [0]⟩])))
                               (.cond (.t 109)
                                 (pci20c3)
                                 (.skip))
def pci20c5 : PC :=
 .seq (.reg false [⟨(some 105), .bin .eql (.t 51) (.v (.int .i64 12)), none, []⟩,
                                 ⟨(some 104), .mv (.t 105), none, [0]⟩])
                            (.cond (.t 104)
                              (.seq (.reg false [⟨(some 106), .fld 1 (.t 8), none, []⟩,
                                    ⟨(some 107), .load none (.t 106), none, [0]⟩,
                                    ⟨(some 108), .bin .eql (.t 107) (.v (.int .i64 13)), none, [1]⟩,
                                    ⟨(some 6), .mv (.t 108), none, [2, 0, 1, 2]⟩])
                               (.ret))
                              (pci20c4))
def pci20c6 : PC :=
 .seq (.reg false [⟨(some 100), .bin .eql (.t 51) (.v (.int .i64 10)), none, []⟩,
                              ⟨(some 99), .mv (.t 100), none, [0]⟩])
                         (.cond (.t 99)
                           (.seq (.reg false [⟨(some 101), .fld 1 (.t 8), none, []⟩,
                                 ⟨(some 102), .load none (.t 101), none, [0]⟩,
                                 ⟨(some 103), .bin .eql (.t 102) (.v (.int .i64 11)), none, [1]⟩,
                                 ⟨(some 6), .mv (.t 103), none, [2, 0, 1, 2]⟩])
                            (.ret))
                           (pci20c5))
def pci20c7 : PC :=
 .seq (.reg false [⟨(some 95), .bin .eql (.t 51) (.v (.int .i64 9)), none, []⟩,
                           ⟨(some 94), .mv (.t 95), none, [0]⟩])
                      (.cond (.t 94)
                        (.seq (.reg false [⟨(some 96), .fld 1 (.t 8), none, []⟩,
                              ⟨(some 97), .load none (.t 96), none, [0]⟩,
                              ⟨(some 98), .bin .eql (.t 97) (.v (.int .i64 6)), none, [1]⟩,
                              ⟨(some 6), .mv (.t 98), none, [2, 0, 1, 2]⟩])
                         (.ret))
                        (pci20c6))
def pci20c8 : PC :=
 .seq (.reg false [⟨(some 85), .bin .eql (.t 51) (.v (.int .i64 7)), none, []⟩,
                        ⟨(some 84), .mv (.t 85), none, [0]⟩])
                   (.cond (.t 84)
                     (pci20c2)
                     (pci20c7))
def pci20c9 : PC :=
 .seq (.reg false [⟨(some 80), .bin .eql (.t 51) (.v (.int .i64 19)), none, []⟩,
                     ⟨(some 79), .mv (.t 80), none, [0]⟩])
                (.cond (.t 79)
                  (.seq (.reg false [⟨(some 81), .fld 1 (.t 8), none, []⟩,
                        ⟨(some 82), .load none (.t 81), none, [0]⟩,
                        ⟨(some 83), .bin .eql (.t 82) (.v (.int .i64 20)), none, [1]⟩,
                        ⟨(some 6), .mv (.t 83), none, [2, 0, 1, 2]⟩])
                   (.ret))
                  (pci20c8))
def pci20c10 : PC :=
 .seq (.reg false [⟨(some 65), .bin .eql (.t 51) (.v (.int .i64 17)), none, []⟩,
                  ⟨(some 64), .mv (.t 65), none, [0]⟩])
             (.cond (.t 64)
               (pci20c1)
               (pci20c9))
def pci20c11 : PC :=
 .seq (.reg false [⟨(some 50), .fld 1 (.t 7), none, []⟩,
             ⟨(some 51), .load none (.t 50), none, [0]⟩])
        (.block 0 (.seq (.reg false [⟨(some 53), .bin .eql (.t 51) (.v (.int .i64 15)), none, []⟩,
               ⟨(some 52), .mv (.t 53), none, [0]⟩])
          (.cond (.t 52)
            (pci20c0)
            (pci20c10))))
def pci20c12 : PC :=
 .seq (.seq (.reg false [⟨(some 38), .fld 2 (.t 7), none, []⟩,
            ⟨(some 39), .load none (.t 38), none, [0]⟩,
            ⟨(some 40), .fld 2 (.t 8), none, []⟩,
            ⟨(some 41), .load none (.t 40), none, [2]⟩,
            ⟨(some 42), .bin .neq (.t 39) (.t 41), none, [1, 3]⟩,
            ⟨(some 43), .mv (.t 42), none, [4]⟩,
            ⟨(some 44), .fld 3 (.t 7), (some (43, false)), [5]⟩,
            ⟨(some 45), .load none (.t 44), (some (43, false)), [6, 5]⟩,
            ⟨(some 46), .fld 3 (.t 8), (some (43, false)), [5]⟩,
            ⟨(some 47), .load none (.t 46), (some (43, false)), [8, 5]⟩,
            ⟨(some 48), .bin .neq (.t 45) (.t 47), (some (43, false)), [7, 9, 5]⟩,
            ⟨(some 49), .pick (.t 43) (.v (.bool true)) (.t 48), none, [5, 10]⟩])
       (.cond (.t 49)
         (.seq (.reg false [⟨(some 6), .mv (.v (.bool false)), none, []⟩])
          (.ret))
         (.skip)))
      (.seq (pci20c11)
       (.seq (.reg false [⟨(some 6), .mv (.v (.bool false)), none, []⟩])
        (.ret)))
def pci20 : PC :=
 .seq (.reg false [⟨(some 6), .mv (.v (.bool false)), none, []⟩])
  (.seq (.reg false [⟨(some 9), .mv (.t 0), none, []⟩,
        ⟨(some 10), .mv (.t 1), none, []⟩,
        ⟨(some 11), .ixs 9 (.t 9) (.t 10), none, [0, 1]⟩,
        ⟨(some 12), .load (some 9) (.t 11), none, [2]⟩,
        ⟨(some 7), .new [(.int .i64 0), (.int .i64 0), (.int .i64 0), (.int .i64 0), (.int .i64 0), (.int .i64 0), (.int .i64 0), (.int .i64 0), (.int .i64 0)], none, []⟩,
        ⟨none, .store 9 (.t 7) (.t 12), none, [4, 3, 0, 1, 2, 3, 4]⟩])
   (.seq (.reg false [⟨(some 13), .mv (.t 0), none, []⟩,
         ⟨(some 14), .mv (.t 2), none, []⟩,
         ⟨(some 15), .ixs 9 (.t 13) (.t 14), none, [0, 1]⟩,
         ⟨(some 16), .load (some 9) (.t 15), none, [2]⟩,
         ⟨(some 8), .new [(.int .i64 0), (.int .i64 0), (.int .i64 0), (.int .i64 0), (.int .i64 0), (.int .i64 0), (.int .i64 0), (.int .i64 0), (.int .i64 0)], none, []⟩,
         ⟨none, .store 9 (.t 8) (.t 16), none, [4, 3, 0, 1, 2, 3, 4]⟩])
    (.seq (.seq (.reg false [⟨(some 17), .mv (.t 0), none, []⟩,
           ⟨(some 18), .mv (.t 1), none, []⟩,
           ⟨(some 19), .mv (.t 2), none, []⟩,
           ⟨(some 20), .call 26 [(.t 17), (.t 18), (.t 19)], none, [0, 1, 2]⟩,
           ⟨(some 21), .mv (.t 20), none, [3, 3]⟩,
           ⟨(some 22), .fld 1 (.t 7), (some (21, false)), [4]⟩,
           ⟨(some 23), .load none (.t 22), (some (21, false)), [5, 4]⟩,
           ⟨(some 24), .bin .eql (.t 23) (.v (.int .i64 14)), (some (21, false)), [6, 4]⟩,
           ⟨(some 25), .mv (.t 24), (some (21, false)), [7, 4, 4]⟩,
           ⟨(some 26), .fld 4 (.t 7), (some (25, true)), [8]⟩,
           ⟨(some 27), .load none (.t 26), (some (25, true)), [9, 8]⟩,
           ⟨(some 28), .fld 0 (.t 8), (some (25, true)), [8]⟩,
           ⟨(some 29), .load none (.t 28), (some (25, true)), [11, 8]⟩,
           ⟨(some 30), .bin .eql (.t 27) (.t 29), (some (25, true)), [10, 12, 8]⟩,
           ⟨(some 31), .pick (.t 25) (.t 30) (.v (.bool false)), (some (21, false)), [8, 13, 4]⟩,
           ⟨(some 32), .mv (.t 31), (some (21, false)), [14, 8, 4]⟩,
           ⟨(some 33), .mv (.t 0), (some (32, true)), [15]⟩,
           ⟨(some 34), .mv (.t 2), (some (32, true)), [15]⟩,
           ⟨(some 35), .call 27 [(.t 33), (.t 34)], (some (32, true)), [16, 17, 15, 15]⟩,
           ⟨(some 36), .pick (.t 32) (.t 35) (.v (.bool false)), (some (21, false)), [15, 18, 4]⟩,
           ⟨(some 37), .pick (.t 21) (.v (.bool true)) (.t 36), none, [4, 19]⟩])
      (.cond (.t 37)
        (.seq (.reg false [⟨(some 6), .mv (.v (.bool true)), none, []⟩])
         (.ret))
        (.skip)))
     (pci20c12))))
def pri20 : List PR := [.t 6]
theorem bdi20 : Try.f20.body = some (Try.f20.body.getD .skip) := by kernel_rfl
theorem cpi20 : compC Try.prog Try.f20.ntmps eqsL (Try.f20.body.getD .skip) = some pci20 := by kernel_rfl
theorem spi20 [WInv] {env : Env} (hE : EnvOK Try.prog env) {R : List Pa → List Pa → Prop} (hR : ∀ ps rs, R ps rs → ps.length ≤ 126 ∧ pwp env pci20 (fun e s => (e = .normal ∨ e = .ret) ∧ s.res pri20 = some rs) (St.init ps)) : Spec Try.prog 20 R :=
  fn_sound hE eqsOK mixedOK Try.func20 bdi20 cpi20 (by kernel_rfl) (by kernel_rfl) hR


end Go.Proofs.Ytohliamalaifhaa
end
