/- How a plain reading is evaluated, step by step. -/
import Derived.Test.YtohliamalaifhaaMa3
import Derived.IntWalk
import Derived.Below
section
set_option linter.unusedSimpArgs false
set_option linter.unusedVariables false
namespace Go.Proofs.Ytohliamalaifhaa
open Go Go.RowKit

theorem nrfl {α : Sort _} {a b : α} (h : a = b) : a = b := h
section
variable {env : Env} {K : St → Prop} {is : List PI} {s : St} {d : Option Nat} {af : List Nat}

def contOps (env : Env) (K : St → Prop) (is : List PI) (s : St) (d : Option Nat) (o : Option (Av × Cg)) : Prop := withSome o fun p => evalOps env is (s.ap d p.1 p.2) K
theorem contOps_some {v : Av} {ch : Cg} : contOps env K is s d (some (v, ch)) = evalOps env is (s.ap d v ch) K := nrfl rfl
def callOps (env : Env) (K : St → Prop) (is : List PI) (s : St) (d : Option Nat) (f : Nat) (o : Option (List Pa)) : Prop := withSome o fun ps => ∃ rs, env f ps rs ∧ evalOps env is (s.ap d (resAv rs) .no) K
theorem callOps_intro {f : Nat} {ps : List Pa} (rs : List Pa) (h : env f ps rs) (k : evalOps env is (s.ap d (resAv rs) .no) K) : callOps env K is s d f (some ps) := ⟨rs, h, k⟩
def guardOps (env : Env) (K : St → Prop) (is : List PI) (s : St) (d : Option Nat) (op : PO) (t : Nat) (want : Bool) : Option (Option Bool) → Prop
  | none => False
  | some none => evalOps env is (s.ap d skp .no) K
  | some (some b) => (b = want → evalOps env (⟨d, op, none, []⟩ :: is) (s.ap (some t) (scAv (.bool want)) .no) K) ∧ (b = !want → evalOps env is ((s.ap (some t) (scAv (.bool !want)) .no).ap d skp .no) K)
theorem guardOps_skp {op : PO} {t : Nat} {want : Bool} : guardOps env K is s d op t want (some none) = evalOps env is (s.ap d skp .no) K := nrfl rfl
theorem guardOps_some {op : PO} {t : Nat} {want b : Bool} : guardOps env K is s d op t want (some (some b)) = ((b = want → evalOps env (⟨d, op, none, []⟩ :: is) (s.ap (some t) (scAv (.bool want)) .no) K) ∧ (b = !want → evalOps env is ((s.ap (some t) (scAv (.bool !want)) .no).ap d skp .no) K)) := nrfl rfl
theorem gd_boo {t : Nat} {b : Bool} (h : s.gd t = some (some b)) : s.boo (.t t) = some b := by
  unfold St.gd at h
  split at h
  · cases h
  · rw [Option.map_eq_some_iff] at h
    obtain ⟨c, hc, h⟩ := h
    cases h; exact hc
theorem some_ne {b want : Bool} : (some b ≠ some want) ↔ b = !want := by cases b <;> cases want <;> simp
theorem boo_self {t : Nat} {b : Bool} (h : s.boo (.t t) = some b) : s.ap (some t) (scAv (.bool b)) .no = s := by
  have h1 : s.sl t = scAv (.bool b) := by
    unfold St.boo at h
    split at h
    · rename_i c hc
      cases h
      exact hc
    · cases h
  have h2 : up s.sl t (scAv (.bool b)) = s.sl := by
    funext x
    rw [up_at]
    split
    · rename_i hx; rw [hx, h1]
    · rfl
  show (⟨up s.sl t (scAv (.bool b)), s.gen, s.ob⟩ : St) = s
  rw [h2]
theorem evalOps_nil : evalOps env [] s K = K s := nrfl rfl
theorem evalOps_fn {op : PO} (h : op.isCall = false) : evalOps env (⟨d, op, none, af⟩ :: is) s K = contOps env K is s d (op.fn s (d.getD 0)) := by
  change PO.go env s (d.getD 0) (fun v ch => evalOps env is (s.ap d v ch) K) op = _
  rw [PO.go_fn h]
  rfl
def opS (env : Env) (K : St → Prop) (is : List PI) (s : St) (d : Option Nat) (b : Bool) (op : PO) : Prop := match b with
  | true => (match op with | .call f xs => callOps env K is s d f (s.args xs) | _ => False)
  | false => contOps env K is s d (op.fn s (d.getD 0))
theorem opS_false {op : PO} : opS env K is s d false op = contOps env K is s d (op.fn s (d.getD 0)) := nrfl rfl
theorem opS_true {f : Nat} {xs : List PX} : opS env K is s d true (.call f xs) = callOps env K is s d f (s.args xs) := nrfl rfl
theorem evalOps_op {op : PO} : evalOps env (⟨d, op, none, af⟩ :: is) s K = opS env K is s d op.isCall op := by
  cases hc : op.isCall with
  | true => cases op <;> first | rfl | cases hc
  | false => rw [opS_false, evalOps_fn hc]
theorem evalOps_call {f : Nat} {xs : List PX} : evalOps env (⟨d, .call f xs, none, af⟩ :: is) s K = callOps env K is s d f (s.args xs) := nrfl rfl
theorem evalOps_guard {op : PO} {t : Nat} {want : Bool} : evalOps env (⟨d, op, some (t, want), af⟩ :: is) s K = guardOps env K is s d op t want (s.gd t) := by
  change withSome (s.gd t) _ = guardOps env K is s d op t want (s.gd t)
  cases h : s.gd t with
  | none => rfl
  | some b =>
    cases b with
    | none => exact propext ⟨fun k => k.2 (by simp), fun k => ⟨fun e => (by simp at e), fun _ => k⟩⟩
    | some b =>
      have hb := boo_self (gd_boo h)
      rw [guardOps_some]
      show ((some b = some want → _) ∧ (some b ≠ some want → _)) = _
      rw [some_ne, Option.some.injEq]
      congr 1
      · apply propext
        refine forall_congr' fun he => ?_
        subst he
        rw [hb]
        rfl
      · apply propext
        refine forall_congr' fun he => ?_
        rw [← he, hb]
theorem evalOps_gT {op : PO} {t : Nat} {want : Bool} (h : s.gd t = some (some want)) : evalOps env (⟨d, op, some (t, want), af⟩ :: is) s K = evalOps env (⟨d, op, none, []⟩ :: is) s K := by
  rw [evalOps_guard, h, guardOps_some, boo_self (gd_boo h)]
  exact propext ⟨fun k => k.1 rfl, fun k => ⟨fun _ => k, fun e => absurd e (by cases want <;> decide)⟩⟩
theorem evalOps_gF {op : PO} {t : Nat} {want : Bool} (h : s.gd t = some (some (!want))) : evalOps env (⟨d, op, some (t, want), af⟩ :: is) s K = evalOps env is (s.ap d skp .no) K := by
  rw [evalOps_guard, h, guardOps_some, boo_self (gd_boo h)]
  exact propext ⟨fun k => k.2 rfl, fun k => ⟨fun e => absurd e (by cases want <;> decide), fun _ => k⟩⟩
theorem evalOps_gS {op : PO} {t : Nat} {want : Bool} (h : s.gd t = some none) : evalOps env (⟨d, op, some (t, want), af⟩ :: is) s K = evalOps env is (s.ap d skp .no) K := by
  rw [evalOps_guard, h, guardOps_skp]

abbrev Ft := List (List Rg × List Rg)
variable {KD : St → Ft → Prop} {acc : Ft}
def contD (env : Env) (K : St → Ft → Prop) (is : List PI) (s : St) (d : Option Nat) (acc : Ft) (rd : List Rg) (o : Option (Av × Cg)) : Prop := withSome o fun p => evalD env is (s.ap d p.1 p.2) ((rd, p.2.wrs) :: acc) K
theorem contD_some {v : Av} {ch : Cg} {rd : List Rg} : contD env KD is s d acc rd (some (v, ch)) = evalD env is (s.ap d v ch) ((rd, ch.wrs) :: acc) KD := nrfl rfl
def callD (env : Env) (K : St → Ft → Prop) (is : List PI) (s : St) (d : Option Nat) (acc : Ft) (f : Nat) (o : Option (List Pa)) : Prop := withSome o fun ps => ∃ rs, env f ps rs ∧ evalD env is (s.ap d (resAv rs) .no) (([], []) :: acc) K
theorem callD_intro {f : Nat} {ps : List Pa} (rs : List Pa) (h : env f ps rs) (k : evalD env is (s.ap d (resAv rs) .no) (([], []) :: acc) KD) : callD env KD is s d acc f (some ps) := ⟨rs, h, k⟩
/-- a guarded operation -/
def goD (env : Env) (K : St → Ft → Prop) (is : List PI) (s : St) (d : Option Nat) (acc : Ft) (op : PO) : Prop := op.go env s (d.getD 0) fun v ch => evalD env is (s.ap d v ch) ((op.rd s (d.getD 0), ch.wrs) :: acc) K
def guardD (env : Env) (K : St → Ft → Prop) (is : List PI) (s : St) (d : Option Nat) (acc : Ft) (op : PO) (t : Nat) (want : Bool) : Option (Option Bool) → Prop
  | none => False
  | some none => evalD env is (s.ap d skp .no) ((op.rd s (d.getD 0), []) :: acc) K
  | some (some b) => (b = want → goD env K is (s.ap (some t) (scAv (.bool want)) .no) d acc op) ∧ (b = !want → evalD env is ((s.ap (some t) (scAv (.bool !want)) .no).ap d skp .no) ((op.rd s (d.getD 0), []) :: acc) K)
theorem guardD_skp {op : PO} {t : Nat} {want : Bool} : guardD env KD is s d acc op t want (some none) = evalD env is (s.ap d skp .no) ((op.rd s (d.getD 0), []) :: acc) KD := nrfl rfl
theorem guardD_some {op : PO} {t : Nat} {want b : Bool} : guardD env KD is s d acc op t want (some (some b)) = ((b = want → goD env KD is (s.ap (some t) (scAv (.bool want)) .no) d acc op) ∧ (b = !want → evalD env is ((s.ap (some t) (scAv (.bool !want)) .no).ap d skp .no) ((op.rd s (d.getD 0), []) :: acc) KD)) := nrfl rfl
theorem evalD_nil : evalD env [] s acc KD = KD s acc.reverse := nrfl rfl
theorem goD_fn {op : PO} (h : op.isCall = false) : goD env KD is s d acc op = contD env KD is s d acc (op.rd s (d.getD 0)) (op.fn s (d.getD 0)) := by
  unfold goD
  rw [PO.go_fn h]
  rfl
def opD (env : Env) (K : St → Ft → Prop) (is : List PI) (s : St) (d : Option Nat) (acc : Ft) (b : Bool) (op : PO) : Prop := match b with
  | true => (match op with | .call f xs => callD env K is s d acc f (s.args xs) | _ => False)
  | false => contD env K is s d acc (op.rd s (d.getD 0)) (op.fn s (d.getD 0))
theorem opD_false {op : PO} : opD env KD is s d acc false op = contD env KD is s d acc (op.rd s (d.getD 0)) (op.fn s (d.getD 0)) := nrfl rfl
theorem opD_true {f : Nat} {xs : List PX} : opD env KD is s d acc true (.call f xs) = callD env KD is s d acc f (s.args xs) := nrfl rfl
theorem goD_op {op : PO} : goD env KD is s d acc op = opD env KD is s d acc op.isCall op := by
  cases hc : op.isCall with
  | true => cases op <;> first | rfl | cases hc
  | false => rw [opD_false, goD_fn hc]
theorem goD_call {f : Nat} {xs : List PX} : goD env KD is s d acc (.call f xs) = callD env KD is s d acc f (s.args xs) := nrfl rfl
theorem evalD_plain {op : PO} : evalD env (⟨d, op, none, af⟩ :: is) s acc KD = goD env KD is s d acc op := nrfl rfl
theorem evalD_guard {op : PO} {t : Nat} {want : Bool} : evalD env (⟨d, op, some (t, want), af⟩ :: is) s acc KD = guardD env KD is s d acc op t want (s.gd t) := by
  change withSome (s.gd t) _ = guardD env KD is s d acc op t want (s.gd t)
  cases h : s.gd t with
  | none => rfl
  | some b =>
    cases b with
    | none => exact propext ⟨fun k => k.2 (by simp), fun k => ⟨fun e => (by simp at e), fun _ => k⟩⟩
    | some b =>
      have hb := boo_self (gd_boo h)
      rw [guardD_some]
      show ((some b = some want → _) ∧ (some b ≠ some want → _)) = _
      rw [some_ne, Option.some.injEq]
      congr 1
      · apply propext
        refine forall_congr' fun he => ?_
        subst he
        rw [hb]
        rfl
      · apply propext
        refine forall_congr' fun he => ?_
        rw [← he, hb]
        rfl
theorem evalD_gT {op : PO} {t : Nat} {want : Bool} (h : s.gd t = some (some want)) : evalD env (⟨d, op, some (t, want), af⟩ :: is) s acc KD = goD env KD is s d acc op := by
  rw [evalD_guard, h, guardD_some, boo_self (gd_boo h)]
  exact propext ⟨fun k => k.1 rfl, fun k => ⟨fun _ => k, fun e => absurd e (by cases want <;> decide)⟩⟩
theorem evalD_gF {op : PO} {t : Nat} {want : Bool} (h : s.gd t = some (some (!want))) : evalD env (⟨d, op, some (t, want), af⟩ :: is) s acc KD = evalD env is (s.ap d skp .no) ((op.rd s (d.getD 0), []) :: acc) KD := by
  rw [evalD_guard, h, guardD_some, boo_self (gd_boo h)]
  exact propext ⟨fun k => k.2 rfl, fun k => ⟨fun e => absurd e (by cases want <;> decide), fun _ => k⟩⟩
theorem evalD_gS {op : PO} {t : Nat} {want : Bool} (h : s.gd t = some none) : evalD env (⟨d, op, some (t, want), af⟩ :: is) s acc KD = evalD env is (s.ap d skp .no) ((op.rd s (d.getD 0), []) :: acc) KD := by
  rw [evalD_guard, h, guardD_skp]

/-- what comes behind: codes, ends of blocks, of loops -/
inductive It where
  | c (x : PC)
  | bl (id : Nat)
  | lp (I : Nat → St → Prop) (n : Nat)
def exS (env : Env) : List It → (Exit → St → Prop) → Exit → St → Prop
  | [], Q, e, s => Q e s
  | .c b :: k, Q, e, s => match e with
    | .normal => pwp env b (exS env k Q) s
    | e => exS env k Q e s
  | .bl id :: k, Q, e, s => match e with
    | .exit i => if i = id then exS env k Q .normal s else exS env k Q (.exit i) s
    | e => exS env k Q e s
  | .lp I n :: k, Q, e, s => match e with
    | .normal => ∃ m, m < n ∧ I m s
    | e => exS env k Q e s

variable {k : List It} {Q : Exit → St → Prop}
theorem exS_nil {e : Exit} : exS env [] Q e s = Q e s := nrfl rfl
theorem exS_c {b : PC} : exS env (.c b :: k) Q .normal s = pwp env b (exS env k Q) s := nrfl rfl
theorem exS_c_ret {b : PC} : exS env (.c b :: k) Q .ret s = exS env k Q .ret s := nrfl rfl
theorem exS_c_exit {b : PC} {i : Nat} : exS env (.c b :: k) Q (.exit i) s = exS env k Q (.exit i) s := nrfl rfl
theorem exS_bl {id : Nat} : exS env (.bl id :: k) Q .normal s = exS env k Q .normal s := nrfl rfl
theorem exS_bl_ret {id : Nat} : exS env (.bl id :: k) Q .ret s = exS env k Q .ret s := nrfl rfl
theorem exS_bl_exit {id i : Nat} : exS env (.bl id :: k) Q (.exit i) s = if i = id then exS env k Q .normal s else exS env k Q (.exit i) s := nrfl rfl
theorem exS_lp {I : Nat → St → Prop} {n : Nat} : exS env (.lp I n :: k) Q .normal s = ∃ m, m < n ∧ I m s := nrfl rfl
theorem exS_lp_ret {I : Nat → St → Prop} {n : Nat} : exS env (.lp I n :: k) Q .ret s = exS env k Q .ret s := nrfl rfl
theorem exS_lp_exit {I : Nat → St → Prop} {n i : Nat} : exS env (.lp I n :: k) Q (.exit i) s = exS env k Q (.exit i) s := nrfl rfl

theorem pwp_start {c : PC} (h : pwp env c (exS env [] Q) s) : pwp env c Q s := h
/-- go on from a state of which only these slots and objects are known -/
theorem pwp_fresh {Q' : Exit → St → Prop} {c : PC} (sls obs : List Nat) (h : ∀ st : St, (∀ x, x ∈ sls → st.sl x = s.sl x) → (∀ o, o ∈ obs → st.gen o = s.gen o ∧ st.ob o = s.ob o) → pwp env c Q' st) : pwp env c Q' s := h s (fun _ _ => rfl) (fun _ _ => ⟨rfl, rfl⟩)
/-- the same with something known of the whole state -/
theorem pwp_freshP {Q' : Exit → St → Prop} {c : PC} (P : St → Prop) (hP : P s) (sls obs : List Nat) (h : ∀ st : St, P st → (∀ x, x ∈ sls → st.sl x = s.sl x) → (∀ o, o ∈ obs → st.gen o = s.gen o ∧ st.ob o = s.ob o) → pwp env c Q' st) : pwp env c Q' s := h s hP (fun _ _ => rfl) (fun _ _ => ⟨rfl, rfl⟩)
theorem pwp_skip : pwp env .skip (exS env k Q) s = exS env k Q .normal s := nrfl rfl
theorem pwp_reg {ops : List PI} : pwp env (.reg false ops) (exS env k Q) s = evalOps env ops s (exS env k Q .normal) := nrfl rfl
def drawn (ops : List PI) (K : St → Prop) (s : St) (fts : Ft) : Prop := drawOk ops fts = true ∧ K s
/-- the check of a drawn region: closed by drw -/
def Drw (ops : List PI) (fts : Ft) : Prop := drawOk ops fts = true
theorem drawn_and {ops : List PI} {K : St → Prop} {fts : Ft} : drawn ops K s fts = (Drw ops fts ∧ K s) := nrfl rfl
theorem pwp_regD {ops : List PI} : pwp env (.reg true ops) (exS env k Q) s = evalD env ops s [] (drawn ops (exS env k Q .normal)) := nrfl rfl
theorem pwp_seq {a b : PC} : pwp env (.seq a b) (exS env k Q) s = pwp env a (exS env (.c b :: k) Q) s := by
  show pwp env a _ s = _
  congr 1
def condS (env : Env) (a b : PC) (k : List It) (Q : Exit → St → Prop) (s : St) (o : Option Bool) : Prop := withSome o fun t => (t = true → pwp env a (exS env k Q) s) ∧ (t = false → pwp env b (exS env k Q) s)
theorem condS_some {a b : PC} {t : Bool} : condS env a b k Q s (some t) = ((t = true → pwp env a (exS env k Q) s) ∧ (t = false → pwp env b (exS env k Q) s)) := nrfl rfl
theorem pwp_cond {c : PX} {a b : PC} : pwp env (.cond c a b) (exS env k Q) s = condS env a b k Q s (s.boo c) := nrfl rfl
theorem pwp_block {id : Nat} {c : PC} : pwp env (.block id c) (exS env k Q) s = pwp env c (exS env (.bl id :: k) Q) s := by
  show pwp env c _ s = _
  congr 1
theorem pwp_exit {id : Nat} : pwp env (.exit id) (exS env k Q) s = exS env k Q (.exit id) s := nrfl rfl
theorem pwp_ret : pwp env .ret (exS env k Q) s = exS env k Q .ret s := nrfl rfl
theorem pwp_loop {c : PC} (I : Nat → St → Prop) (n : Nat) (h0 : I n s) (h : ∀ n s, I n s → pwp env c (exS env (.lp I n :: k) Q) s) : pwp env (.loop c) (exS env k Q) s := by
  refine ⟨I, ⟨n, h0⟩, fun n s hI => ?_⟩
  have := h n s hI
  have he : exS env (.lp I n :: k) Q = fun e s' => match e with | .normal => ∃ m, m < n ∧ I m s' | e => exS env k Q e s' := by
    funext e s'
    cases e <;> rfl
  rw [he] at this
  exact this

/-! the parts of a state -/
theorem ap_sl {x : Nat} {v : Av} {ch : Cg} : (s.ap (some x) v ch).sl = up s.sl x v := nrfl rfl
theorem ap_sl0 {v : Av} {ch : Cg} : (s.ap none v ch).sl = s.sl := nrfl rfl
theorem ap_gen {v : Av} : (s.ap d v .no).gen = s.gen := nrfl rfl
theorem ap_genw {v : Av} {o off : Nat} {cs : List Cl} : (s.ap d v (.wr o off cs)).gen = s.gen := nrfl rfl
theorem ap_genr {v : Av} {o m : Nat} : (s.ap d v (.row o m)).gen = s.gen := nrfl rfl
theorem ap_genn {v : Av} {o : Nat} {x : Ob} : (s.ap d v (.new o x)).gen = up s.gen o (s.gen o + 1) := nrfl rfl
theorem ap_ob {v : Av} : (s.ap d v .no).ob = s.ob := nrfl rfl
theorem ap_obw {v : Av} {o off : Nat} {cs : List Cl} : (s.ap d v (.wr o off cs)).ob = up s.ob o (wrF off cs (s.ob o)) := by
  rw [ap_eq]; rfl
theorem ap_obr {v : Av} {o m : Nat} : (s.ap d v (.row o m)).ob = up s.ob o (rowF m (s.ob o)) := by
  rw [ap_eq]; rfl
theorem ap_obn {v : Av} {o : Nat} {x : Ob} : (s.ap d v (.new o x)).ob = up s.ob o x := nrfl rfl
theorem wrF_cells {off : Nat} {cs old : List Cl} : wrF off cs (.cells old) = .cells (wrAt old off cs) := nrfl rfl
theorem rowF_row {m E sz n : Nat} : rowF m (.row E sz n) = .row E sz m := nrfl rfl

def initSl : List Pa → Nat → Av
  | [], _ => .un
  | p :: _, 0 => .b p.bv
  | _ :: r, n + 1 => initSl r n
theorem init_sl (ps : List Pa) (x : Nat) : (St.init ps).sl x = initSl ps x := by
  show (match ps[x]? with | some p => Av.b p.bv | none => .un) = _
  induction ps generalizing x with
  | nil => simp [initSl]
  | cons p r ih =>
    cases x with
    | zero => rfl
    | succ x => rw [List.getElem?_cons_succ, ih x]; rfl
theorem init_gen {ps : List Pa} {x : Nat} : (St.init ps).gen x = 0 := nrfl rfl
theorem init_ob {ps : List Pa} {x : Nat} : (St.init ps).ob x = .no := nrfl rfl

theorem ev_t {x : Nat} : s.ev (.t x) = s.sl x := nrfl rfl
theorem ev_int {k : IntKind} {m : Int} : s.ev (.v (.int k m)) = .b (.one (.d (.sc (.int k m)))) := nrfl rfl
theorem ev_bool {b : Bool} : s.ev (.v (.bool b)) = .b (.one (.d (.sc (.bool b)))) := nrfl rfl
theorem ev_string {b : ByteArray} : s.ev (.v (.string b)) = .b (.one (.d (.sc (.string b)))) := nrfl rfl
theorem ev_nil : s.ev (.v (.slice none 0 0)) = .b (.one (.d (.sc (.slice none 0 0)))) := nrfl rfl
theorem ev_agg {l : Array Value} : s.ev (.v (.agg l)) = .b (.agg (l.toList.map fun v => .d (.sc v))) := nrfl rfl
theorem ev_ptr : s.ev (.v (.pointer none)) = .b (.one (.d (.sc (.pointer none)))) := nrfl rfl

theorem args_nil : s.args [] = some [] := nrfl rfl
theorem args_cons {x : PX} {xs : List PX} : s.args (x :: xs) = (match (s.ev x).pa with | some p => (s.args xs).map (p :: ·) | none => none) := by
  unfold St.args
  simp only [List.map_cons]
  cases (s.ev x).pa <;> rfl
end

/-- st is s0 but for the slots ms and the objects os -/
def Within (ms os : List Nat) (s0 st : St) : Prop := (∀ x, ms.contains x = false → st.sl x = s0.sl x) ∧ ∀ o, os.contains o = false → st.gen o = s0.gen o ∧ st.ob o = s0.ob o
def over (ms os : List Nat) (s0 j : St) : St := ⟨fun x => bif ms.contains x then j.sl x else s0.sl x, fun o => bif os.contains o then j.gen o else s0.gen o, fun o => bif os.contains o then j.ob o else s0.ob o⟩
theorem Within.refl (ms os : List Nat) (s : St) : Within ms os s s := ⟨fun _ _ => rfl, fun _ _ => ⟨rfl, rfl⟩⟩
theorem Within.over {ms os : List Nat} {s0 st : St} (h : Within ms os s0 st) : ∃ j, st = over ms os s0 j := by
  refine ⟨st, ?_⟩
  obtain ⟨h1, h2⟩ := h
  have e1 : st.sl = (Go.Proofs.Ytohliamalaifhaa.over ms os s0 st).sl := by
    funext x
    show st.sl x = bif ms.contains x then st.sl x else s0.sl x
    cases hx : ms.contains x with
    | true => rfl
    | false => exact h1 x hx
  have e2 : st.gen = (Go.Proofs.Ytohliamalaifhaa.over ms os s0 st).gen := by
    funext x
    show st.gen x = bif os.contains x then st.gen x else s0.gen x
    cases hx : os.contains x with
    | true => rfl
    | false => exact (h2 x hx).1
  have e3 : st.ob = (Go.Proofs.Ytohliamalaifhaa.over ms os s0 st).ob := by
    funext x
    show st.ob x = bif os.contains x then st.ob x else s0.ob x
    cases hx : os.contains x with
    | true => rfl
    | false => exact (h2 x hx).2
  show (⟨st.sl, st.gen, st.ob⟩ : St) = ⟨(Go.Proofs.Ytohliamalaifhaa.over ms os s0 st).sl, (Go.Proofs.Ytohliamalaifhaa.over ms os s0 st).gen, (Go.Proofs.Ytohliamalaifhaa.over ms os s0 st).ob⟩
  rw [← e1, ← e2, ← e3]
theorem over_sl {ms os : List Nat} {s0 j : St} {x : Nat} : (over ms os s0 j).sl x = bif ms.contains x then j.sl x else s0.sl x := nrfl rfl
theorem over_gen {ms os : List Nat} {s0 j : St} {x : Nat} : (over ms os s0 j).gen x = bif os.contains x then j.gen x else s0.gen x := nrfl rfl
theorem over_ob {ms os : List Nat} {s0 j : St} {x : Nat} : (over ms os s0 j).ob x = bif os.contains x then j.ob x else s0.ob x := nrfl rfl
theorem within_over {ms os : List Nat} {s0 j : St} : Within ms os s0 (over ms os s0 j) = True := by
  apply propext
  refine ⟨fun _ => trivial, fun _ => ⟨fun x hx => ?_, fun o ho => ⟨?_, ?_⟩⟩⟩
  · rw [over_sl, hx]; rfl
  · rw [over_gen, ho]; rfl
  · rw [over_ob, ho]; rfl
theorem within_self {ms os : List Nat} {s : St} : Within ms os s s = True := propext ⟨fun _ => trivial, fun _ => Within.refl _ _ _⟩
def chIn (os : List Nat) : Cg → Bool
  | .no => true
  | .new o _ => os.contains o
  | .wr o _ _ => os.contains o
  | .row o _ => os.contains o
theorem Within.ap {ms os : List Nat} {s0 s : St} {d : Option Nat} {v : Av} {ch : Cg} (h : Within ms os s0 s) (hd : ∀ x, d = some x → ms.contains x = true) (hc : chIn os ch = true) : Within ms os s0 (s.ap d v ch) := by
  obtain ⟨h1, h2⟩ := h
  rw [ap_eq]
  refine ⟨fun x hx => ?_, fun o ho => ?_⟩
  · cases d with
    | none => exact h1 x hx
    | some y =>
      show up s.sl y v x = _
      rw [up_at, if_neg]
      · exact h1 x hx
      · rintro rfl
        rw [hd x rfl] at hx
        cases hx
  · have key : ∀ y : Nat, os.contains y = true → o ≠ y := by
      rintro y hy rfl
      rw [hy] at ho; cases ho
    show ch.gF s.gen o = _ ∧ ch.oF s.ob o = _
    cases ch with
    | no => exact h2 o ho
    | new y x => simp only [Cg.gF, Cg.oF, Go.Proofs.Ytohliamalaifhaa.md, up_at, if_neg (key y hc)]; exact h2 o ho
    | wr y off cs => simp only [Cg.gF, Cg.oF, Go.Proofs.Ytohliamalaifhaa.md, up_at, if_neg (key y hc)]; exact h2 o ho
    | row y m => simp only [Cg.gF, Cg.oF, Go.Proofs.Ytohliamalaifhaa.md, up_at, if_neg (key y hc)]; exact h2 o ho
theorem within_ap {ms os : List Nat} {s0 s : St} {x : Nat} {v : Av} {ch : Cg} (h : Within ms os s0 s) (hd : ms.contains x = true) (hc : chIn os ch = true) : Within ms os s0 (s.ap (some x) v ch) := h.ap (fun y hy => by cases hy; exact hd) hc
theorem within_ap0 {ms os : List Nat} {s0 s : St} {v : Av} {ch : Cg} (h : Within ms os s0 s) (hc : chIn os ch = true) : Within ms os s0 (s.ap none v ch) := h.ap (fun y hy => by cases hy) hc
theorem Within.trans {ms os : List Nat} {a b c : St} (h : Within ms os a b) (k : Within ms os b c) : Within ms os a c :=
  ⟨fun x hx => (k.1 x hx).trans (h.1 x hx), fun o ho => ⟨(k.2 o ho).1.trans (h.2 o ho).1, (k.2 o ho).2.trans (h.2 o ho).2⟩⟩

/-- a loop that turns the slots ms and the objects os alone -/
theorem pwp_loopW {env : Env} {k : List It} {Q : Exit → St → Prop} {s : St} {c : PC} (ms os : List Nat) (J : Nat → St → Prop) (m0 : Nat) (h0 : J m0 s)
    (h : ∀ m j, J m (over ms os s j) → pwp env c (exS env (.lp (fun m st => Within ms os s st ∧ J m st) m :: k) Q) (over ms os s j)) : pwp env (.loop c) (exS env k Q) s :=
  pwp_loop (fun m st => Within ms os s st ∧ J m st) m0 ⟨Within.refl _ _ _, h0⟩ (fun m st ⟨hW, hJ⟩ => by
    obtain ⟨j, rfl⟩ := hW.over
    exact h m j hJ)

/-! numbers -/
theorem wr64 {x : Int} (h1 : -9223372036854775808 ≤ x) (h2 : x ≤ 9223372036854775807) : IntKind.i64.wrap x = x := IntWalk.i64_in x ⟨h1, h2⟩
theorem wrN {k : Nat} (h : k ≤ 1000000000) : IntKind.i64.wrap ((k : Int) + 1) = ((k + 1 : Nat) : Int) := by
  rw [wr64 (by omega) (by omega)]; omega
end Go.Proofs.Ytohliamalaifhaa
end
section
set_option linter.unusedSimpArgs false
set_option linter.unusedVariables false
namespace Go.Proofs.Ytohliamalaifhaa
open Go Go.RowKit
set_option maxRecDepth 100000
def unN : Option Value → Option (Av × Cg)
  | some (.bool b) => some (scAv (.bool !b), .no)
  | _ => none
def unG : Option Value → Option (Av × Cg)
  | some (.int k n) => some (scAv (.int k (k.wrap (0 - n))), .no)
  | _ => none
def unX : Option Value → Option (Av × Cg)
  | some (.int k n) => some (scAv (.int k (k.wrap (BitVec.ofInt k.bits (if k.signed then -1 else k.max) ^^^ BitVec.ofInt k.bits n).toNat)), .no)
  | _ => none
theorem fn_not {s : St} {d : Nat} {x : PX} : PO.fn s d (.un .not x) = unN (s.val x) := by
  cases h : s.val x with
  | none => simp only [PO.fn, h, unN]
  | some v => cases v <;> simp only [PO.fn, h, unN]
theorem fn_neg {s : St} {d : Nat} {x : PX} : PO.fn s d (.un .neg x) = unG (s.val x) := by
  cases h : s.val x with
  | none => simp only [PO.fn, h, unG]
  | some v => cases v <;> simp only [PO.fn, h, unG]
theorem fn_xor {s : St} {d : Nat} {x : PX} : PO.fn s d (.un .xor x) = unX (s.val x) := by
  cases h : s.val x with
  | none => simp only [PO.fn, h, unX]
  | some v => cases v <;> simp only [PO.fn, h, unX]
theorem evP : type_of% (
  And.intro @evalOps_gT <|
  And.intro @evalOps_gF <|
  And.intro @evalOps_gS <|
  And.intro @evalD_gT <|
  And.intro @evalD_gF <|
  And.intro @evalD_gS <|
  And.intro @pwp_skip <|
  And.intro @pwp_reg <|
  And.intro @pwp_regD <|
  And.intro @pwp_seq <|
  And.intro @pwp_cond <|
  And.intro @pwp_block <|
  And.intro @pwp_exit <|
  @pwp_ret) :=
  And.intro @evalOps_gT <|
  And.intro @evalOps_gF <|
  And.intro @evalOps_gS <|
  And.intro @evalD_gT <|
  And.intro @evalD_gF <|
  And.intro @evalD_gS <|
  And.intro @pwp_skip <|
  And.intro @pwp_reg <|
  And.intro @pwp_regD <|
  And.intro @pwp_seq <|
  And.intro @pwp_cond <|
  And.intro @pwp_block <|
  And.intro @pwp_exit <|
  @pwp_ret
theorem evB : type_of% (
  And.intro @guardOps_skp <|
  And.intro @guardD_skp <|
  And.intro @St.gd.eq_1 <|
  And.intro @isSkp.eq_1 <|
  And.intro @isSkp.eq_2 <|
  And.intro @isSkp.eq_3 <|
  And.intro @isSkp.eq_4 <|
  And.intro @skp.eq_1 <|
  And.intro @condS_some <|
  And.intro @exS_nil <|
  And.intro @exS_c <|
  And.intro @exS_c_ret <|
  And.intro @exS_c_exit <|
  And.intro @exS_bl <|
  And.intro @exS_bl_ret <|
  And.intro @exS_bl_exit <|
  And.intro @exS_lp_ret <|
  And.intro @exS_lp_exit <|
  And.intro @evalOps_nil <|
  And.intro @evalOps_op <|
  And.intro @opS_false <|
  And.intro @opS_true <|
  And.intro @evalOps_guard <|
  And.intro @contOps_some <|
  And.intro @guardOps_some <|
  And.intro @evalD_nil <|
  And.intro @drawn_and <|
  And.intro @List.reverse_cons.{0} <|
  And.intro @List.reverse_nil.{0} <|
  And.intro @evalD_plain <|
  And.intro @evalD_guard <|
  And.intro @goD_op <|
  And.intro @opD_false <|
  And.intro @opD_true <|
  And.intro @contD_some <|
  @guardD_some) :=
  And.intro @guardOps_skp <|
  And.intro @guardD_skp <|
  And.intro @St.gd.eq_1 <|
  And.intro @isSkp.eq_1 <|
  And.intro @isSkp.eq_2 <|
  And.intro @isSkp.eq_3 <|
  And.intro @isSkp.eq_4 <|
  And.intro @skp.eq_1 <|
  And.intro @condS_some <|
  And.intro @exS_nil <|
  And.intro @exS_c <|
  And.intro @exS_c_ret <|
  And.intro @exS_c_exit <|
  And.intro @exS_bl <|
  And.intro @exS_bl_ret <|
  And.intro @exS_bl_exit <|
  And.intro @exS_lp_ret <|
  And.intro @exS_lp_exit <|
  And.intro @evalOps_nil <|
  And.intro @evalOps_op <|
  And.intro @opS_false <|
  And.intro @opS_true <|
  And.intro @evalOps_guard <|
  And.intro @contOps_some <|
  And.intro @guardOps_some <|
  And.intro @evalD_nil <|
  And.intro @drawn_and <|
  And.intro @List.reverse_cons.{0} <|
  And.intro @List.reverse_nil.{0} <|
  And.intro @evalD_plain <|
  And.intro @evalD_guard <|
  And.intro @goD_op <|
  And.intro @opD_false <|
  And.intro @opD_true <|
  And.intro @contD_some <|
  @guardD_some
theorem stB : type_of% (
  And.intro @PO.isCall.eq_1 <|
  And.intro @PO.isCall.eq_2 <|
  And.intro @PO.isCall.eq_3 <|
  And.intro @PO.isCall.eq_4 <|
  And.intro @PO.isCall.eq_5 <|
  And.intro @PO.isCall.eq_6 <|
  And.intro @PO.isCall.eq_7 <|
  And.intro @PO.isCall.eq_8 <|
  And.intro @PO.isCall.eq_9 <|
  And.intro @PO.isCall.eq_10 <|
  And.intro @PO.isCall.eq_11 <|
  And.intro @PO.isCall.eq_12 <|
  And.intro @PO.isCall.eq_13 <|
  And.intro @PO.isCall.eq_14 <|
  And.intro @PO.isCall.eq_15 <|
  And.intro @PO.isCall.eq_16 <|
  And.intro @PO.isCall.eq_17 <|
  And.intro @PO.isCall.eq_18 <|
  And.intro @PO.isCall.eq_19 <|
  And.intro @PO.isCall.eq_20 <|
  And.intro @PO.isCall.eq_21 <|
  And.intro @PO.isCall.eq_22 <|
  And.intro @PO.isCall.eq_23 <|
  And.intro @PO.isCall.eq_24 <|
  And.intro @PO.isCall.eq_25 <|
  And.intro @PO.isCall.eq_26 <|
  And.intro @PO.isCall.eq_27 <|
  And.intro @PO.isCall.eq_28 <|
  And.intro @PO.isCall.eq_29 <|
  And.intro @PO.isCall.eq_30 <|
  And.intro @PO.isCall.eq_31 <|
  And.intro @PO.isCall.eq_32 <|
  And.intro @Option.getD_some.{0} <|
  And.intro @Option.getD_none.{0} <|
  And.intro @ap_sl <|
  And.intro @ap_sl0 <|
  And.intro @ap_gen <|
  And.intro @ap_genw <|
  And.intro @ap_genr <|
  And.intro @ap_genn <|
  And.intro @ap_ob <|
  And.intro @ap_obw <|
  And.intro @ap_obr <|
  And.intro @ap_obn <|
  And.intro @wrF_cells <|
  And.intro @rowF_row <|
  And.intro @init_sl <|
  And.intro @initSl.eq_1 <|
  And.intro @initSl.eq_2 <|
  And.intro @initSl.eq_3 <|
  And.intro @init_gen <|
  And.intro @init_ob <|
  And.intro @ev_t <|
  And.intro @ev_int <|
  And.intro @ev_bool <|
  And.intro @ev_string <|
  And.intro @ev_nil <|
  And.intro @ev_agg <|
  And.intro @ev_ptr <|
  And.intro @args_nil <|
  And.intro @args_cons <|
  And.intro @up_at <|
  And.intro @PO.fn.eq_1 <|
  And.intro @PO.fn.eq_2 <|
  And.intro @PO.fn.eq_3 <|
  And.intro @PO.fn.eq_4 <|
  And.intro @PO.fn.eq_5 <|
  And.intro @PO.fn.eq_6 <|
  And.intro @PO.fn.eq_7 <|
  And.intro @PO.fn.eq_8 <|
  And.intro @PO.fn.eq_9 <|
  And.intro @PO.fn.eq_10 <|
  And.intro @PO.fn.eq_11 <|
  And.intro @PO.fn.eq_12 <|
  And.intro @PO.fn.eq_13 <|
  And.intro @PO.fn.eq_14 <|
  And.intro @PO.fn.eq_15 <|
  And.intro @PO.fn.eq_16 <|
  And.intro @PO.fn.eq_17 <|
  And.intro @PO.fn.eq_18 <|
  And.intro @PO.fn.eq_23 <|
  And.intro @PO.fn.eq_24 <|
  And.intro @PO.fn.eq_25 <|
  And.intro @PO.fn.eq_26 <|
  And.intro @PO.fn.eq_27 <|
  And.intro @PO.fn.eq_28 <|
  And.intro @PO.fn.eq_29 <|
  And.intro @PO.fn.eq_30 <|
  And.intro @PO.fn.eq_31 <|
  And.intro @PO.fn.eq_32 <|
  And.intro @PO.fn.eq_33 <|
  And.intro @PO.fn.eq_34 <|
  And.intro @PO.fn.eq_35 <|
  And.intro @fn_not <|
  And.intro @fn_neg <|
  And.intro @fn_xor <|
  And.intro @unN.eq_1 <|
  And.intro @unG.eq_1 <|
  And.intro @unX.eq_1 <|
  And.intro @PO.rd.eq_1 <|
  And.intro @PO.rd.eq_2 <|
  And.intro @PO.rd.eq_3 <|
  And.intro @PO.rd.eq_4 <|
  And.intro @PO.rd.eq_5 <|
  And.intro @PO.rd.eq_6 <|
  And.intro @PO.rd.eq_7 <|
  And.intro @PO.rd.eq_8 <|
  And.intro @PO.rd.eq_9 <|
  And.intro @PO.rd.eq_10 <|
  And.intro @PO.rd.eq_11 <|
  And.intro @PO.rd.eq_12 <|
  And.intro @PO.rd.eq_13 <|
  And.intro @Cg.wrs.eq_1 <|
  And.intro @Cg.wrs.eq_2 <|
  And.intro @Cg.wrs.eq_3 <|
  And.intro @Cg.wrs.eq_4 <|
  And.intro @St.cl.eq_1 <|
  And.intro @St.val.eq_1 <|
  And.intro @St.int.eq_1 <|
  And.intro @St.boo.eq_1 <|
  And.intro @St.cs.eq_1 <|
  And.intro @St.parts.eq_1 <|
  And.intro @St.parts.eq_2 <|
  And.intro @scAv.eq_1 <|
  And.intro @Cl.rows.eq_1 <|
  And.intro @Cl.rows.eq_2 <|
  And.intro @Cl.rows.eq_3 <|
  And.intro @Cl.rows.eq_4 <|
  And.intro @Cl.rows.eq_5 <|
  And.intro @Cl.dt.eq_1 <|
  And.intro @Cl.dt.eq_2 <|
  And.intro @Cl.dt.eq_3 <|
  And.intro @Cl.dt.eq_4 <|
  And.intro @Cl.dt.eq_5 <|
  And.intro @Bv.pa.eq_1 <|
  And.intro @Bv.pa.eq_2 <|
  And.intro @Av.pa.eq_1 <|
  And.intro @Av.pa.eq_2 <|
  And.intro @Pa.bv.eq_1 <|
  And.intro @Pa.bv.eq_2 <|
  And.intro @resAv.eq_1 <|
  And.intro @resAv.eq_2 <|
  And.intro @resAv.eq_3 <|
  And.intro @allSome.eq_1 <|
  And.intro @allSome.eq_2 <|
  And.intro @allSome.eq_3 <|
  And.intro @mkAv.eq_1 <|
  And.intro @mkAv.eq_2 <|
  And.intro @wrAt.eq_1 <|
  And.intro @wrAt.eq_2 <|
  And.intro @wrAt.eq_3 <|
  And.intro @wrAt.eq_4 <|
  And.intro @splice.eq_1 <|
  And.intro @fillAll.eq_1 <|
  And.intro @fillAll.eq_2 <|
  And.intro @chunks.eq_1 <|
  And.intro @chunks.eq_2 <|
  And.intro @scBin.eq_1 <|
  And.intro @scBin.eq_2 <|
  And.intro @scBin.eq_3 <|
  And.intro @scBin.eq_4 <|
  And.intro @scBin.eq_5 <|
  And.intro @scBin.eq_6 <|
  And.intro @scBin.eq_7 <|
  And.intro @scBin.eq_8 <|
  And.intro @scBin.eq_9 <|
  And.intro @scBin.eq_10 <|
  And.intro @scBin.eq_11 <|
  And.intro @scBin.eq_12 <|
  And.intro @scBin.eq_13 <|
  And.intro @scBin.eq_14 <|
  And.intro @scBin.eq_15 <|
  And.intro @scBin.eq_16 <|
  And.intro @scBin.eq_17 <|
  And.intro @scBin.eq_18 <|
  And.intro @scBin.eq_19 <|
  And.intro @scBin.eq_20 <|
  And.intro @scBin.eq_21 <|
  And.intro @scBin.eq_22 <|
  And.intro @eqCl.eq_1 <|
  And.intro @eqCl.eq_2 <|
  And.intro @eqCl.eq_3 <|
  And.intro @eqCls.eq_1 <|
  And.intro @eqCls.eq_2 <|
  And.intro @eqCls.eq_3 <|
  And.intro @scMM.eq_1 <|
  And.intro @scMM.eq_2 <|
  And.intro @Option.map_some.{0,0} <|
  And.intro @Option.map_none.{0,0} <|
  And.intro @Option.bind_some.{0,0} <|
  And.intro @List.map_cons.{0,0} <|
  And.intro @List.map_nil.{0,0} <|
  And.intro @List.length_cons.{0} <|
  And.intro @List.length_nil.{0} <|
  And.intro @List.getElem?_cons_succ.{0} <|
  And.intro @List.getElem?_cons_zero.{0} <|
  And.intro @List.take_succ_cons.{0} <|
  And.intro @List.take_zero.{0} <|
  And.intro @List.drop_succ_cons.{0} <|
  And.intro @List.drop_zero.{0} <|
  And.intro @List.cons_append.{0} <|
  And.intro @List.nil_append.{0} <|
  And.intro @List.append_nil.{0} <|
  And.intro @if_true.{1} <|
  And.intro @if_false.{1} <|
  And.intro @ite_true.{1} <|
  And.intro @ite_false.{1} <|
  And.intro @ne_eq.{1} <|
  And.intro @not_true <|
  And.intro @not_false_eq_true <|
  And.intro @Nat.add_zero <|
  And.intro @Nat.zero_add <|
  And.intro @and_true <|
  And.intro @true_and <|
  And.intro @and_self <|
  And.intro @forall_const.{1} <|
  And.intro @forall_const.{0} <|
  And.intro @Bool.not_true <|
  And.intro @Bool.not_false <|
  And.intro @Nat.succ_eq_add_one <|
  And.intro @imp_false <|
  And.intro @false_imp_iff <|
  And.intro @forall_false <|
  And.intro @true_imp_iff <|
  And.intro @Bool.and_true <|
  And.intro @Bool.and_false <|
  And.intro @Bool.true_and <|
  And.intro @Bool.false_and <|
  And.intro @implies_true.{1} <|
  And.intro @implies_true.{0} <|
  And.intro @over_sl <|
  And.intro @over_gen <|
  And.intro @over_ob <|
  And.intro @List.contains_cons.{0} <|
  And.intro @List.contains_nil.{0} <|
  And.intro @Bool.or_false <|
  And.intro @Bool.or_true <|
  And.intro @Bool.false_or <|
  And.intro @Bool.true_or <|
  And.intro @cond_true.{1} <|
  And.intro @cond_false.{1} <|
  And.intro @Bool.cond_true.{0} <|
  And.intro @Bool.cond_false.{0} <|
  And.intro @Int.toNat_natCast <|
  And.intro @Int.natCast_nonneg <|
  And.intro @List.getElem?_map.{0,0} <|
  And.intro @List.length_map.{0,0} <|
  And.intro @List.mem_cons.{0} <|
  And.intro @List.not_mem_nil.{0} <|
  And.intro @forall_eq.{1} <|
  And.intro @forall_eq_or_imp.{1} <|
  And.intro @false_or <|
  And.intro @or_true <|
  And.intro @true_or <|
  And.intro @or_false <|
  And.intro @St.res.eq_1 <|
  And.intro @St.res1.eq_1 <|
  And.intro @St.res1.eq_2 <|
  And.intro @decide_eq_true_eq <|
  @decide_eq_false_iff_not) :=
  And.intro @PO.isCall.eq_1 <|
  And.intro @PO.isCall.eq_2 <|
  And.intro @PO.isCall.eq_3 <|
  And.intro @PO.isCall.eq_4 <|
  And.intro @PO.isCall.eq_5 <|
  And.intro @PO.isCall.eq_6 <|
  And.intro @PO.isCall.eq_7 <|
  And.intro @PO.isCall.eq_8 <|
  And.intro @PO.isCall.eq_9 <|
  And.intro @PO.isCall.eq_10 <|
  And.intro @PO.isCall.eq_11 <|
  And.intro @PO.isCall.eq_12 <|
  And.intro @PO.isCall.eq_13 <|
  And.intro @PO.isCall.eq_14 <|
  And.intro @PO.isCall.eq_15 <|
  And.intro @PO.isCall.eq_16 <|
  And.intro @PO.isCall.eq_17 <|
  And.intro @PO.isCall.eq_18 <|
  And.intro @PO.isCall.eq_19 <|
  And.intro @PO.isCall.eq_20 <|
  And.intro @PO.isCall.eq_21 <|
  And.intro @PO.isCall.eq_22 <|
  And.intro @PO.isCall.eq_23 <|
  And.intro @PO.isCall.eq_24 <|
  And.intro @PO.isCall.eq_25 <|
  And.intro @PO.isCall.eq_26 <|
  And.intro @PO.isCall.eq_27 <|
  And.intro @PO.isCall.eq_28 <|
  And.intro @PO.isCall.eq_29 <|
  And.intro @PO.isCall.eq_30 <|
  And.intro @PO.isCall.eq_31 <|
  And.intro @PO.isCall.eq_32 <|
  And.intro @Option.getD_some.{0} <|
  And.intro @Option.getD_none.{0} <|
  And.intro @ap_sl <|
  And.intro @ap_sl0 <|
  And.intro @ap_gen <|
  And.intro @ap_genw <|
  And.intro @ap_genr <|
  And.intro @ap_genn <|
  And.intro @ap_ob <|
  And.intro @ap_obw <|
  And.intro @ap_obr <|
  And.intro @ap_obn <|
  And.intro @wrF_cells <|
  And.intro @rowF_row <|
  And.intro @init_sl <|
  And.intro @initSl.eq_1 <|
  And.intro @initSl.eq_2 <|
  And.intro @initSl.eq_3 <|
  And.intro @init_gen <|
  And.intro @init_ob <|
  And.intro @ev_t <|
  And.intro @ev_int <|
  And.intro @ev_bool <|
  And.intro @ev_string <|
  And.intro @ev_nil <|
  And.intro @ev_agg <|
  And.intro @ev_ptr <|
  And.intro @args_nil <|
  And.intro @args_cons <|
  And.intro @up_at <|
  And.intro @PO.fn.eq_1 <|
  And.intro @PO.fn.eq_2 <|
  And.intro @PO.fn.eq_3 <|
  And.intro @PO.fn.eq_4 <|
  And.intro @PO.fn.eq_5 <|
  And.intro @PO.fn.eq_6 <|
  And.intro @PO.fn.eq_7 <|
  And.intro @PO.fn.eq_8 <|
  And.intro @PO.fn.eq_9 <|
  And.intro @PO.fn.eq_10 <|
  And.intro @PO.fn.eq_11 <|
  And.intro @PO.fn.eq_12 <|
  And.intro @PO.fn.eq_13 <|
  And.intro @PO.fn.eq_14 <|
  And.intro @PO.fn.eq_15 <|
  And.intro @PO.fn.eq_16 <|
  And.intro @PO.fn.eq_17 <|
  And.intro @PO.fn.eq_18 <|
  And.intro @PO.fn.eq_23 <|
  And.intro @PO.fn.eq_24 <|
  And.intro @PO.fn.eq_25 <|
  And.intro @PO.fn.eq_26 <|
  And.intro @PO.fn.eq_27 <|
  And.intro @PO.fn.eq_28 <|
  And.intro @PO.fn.eq_29 <|
  And.intro @PO.fn.eq_30 <|
  And.intro @PO.fn.eq_31 <|
  And.intro @PO.fn.eq_32 <|
  And.intro @PO.fn.eq_33 <|
  And.intro @PO.fn.eq_34 <|
  And.intro @PO.fn.eq_35 <|
  And.intro @fn_not <|
  And.intro @fn_neg <|
  And.intro @fn_xor <|
  And.intro @unN.eq_1 <|
  And.intro @unG.eq_1 <|
  And.intro @unX.eq_1 <|
  And.intro @PO.rd.eq_1 <|
  And.intro @PO.rd.eq_2 <|
  And.intro @PO.rd.eq_3 <|
  And.intro @PO.rd.eq_4 <|
  And.intro @PO.rd.eq_5 <|
  And.intro @PO.rd.eq_6 <|
  And.intro @PO.rd.eq_7 <|
  And.intro @PO.rd.eq_8 <|
  And.intro @PO.rd.eq_9 <|
  And.intro @PO.rd.eq_10 <|
  And.intro @PO.rd.eq_11 <|
  And.intro @PO.rd.eq_12 <|
  And.intro @PO.rd.eq_13 <|
  And.intro @Cg.wrs.eq_1 <|
  And.intro @Cg.wrs.eq_2 <|
  And.intro @Cg.wrs.eq_3 <|
  And.intro @Cg.wrs.eq_4 <|
  And.intro @St.cl.eq_1 <|
  And.intro @St.val.eq_1 <|
  And.intro @St.int.eq_1 <|
  And.intro @St.boo.eq_1 <|
  And.intro @St.cs.eq_1 <|
  And.intro @St.parts.eq_1 <|
  And.intro @St.parts.eq_2 <|
  And.intro @scAv.eq_1 <|
  And.intro @Cl.rows.eq_1 <|
  And.intro @Cl.rows.eq_2 <|
  And.intro @Cl.rows.eq_3 <|
  And.intro @Cl.rows.eq_4 <|
  And.intro @Cl.rows.eq_5 <|
  And.intro @Cl.dt.eq_1 <|
  And.intro @Cl.dt.eq_2 <|
  And.intro @Cl.dt.eq_3 <|
  And.intro @Cl.dt.eq_4 <|
  And.intro @Cl.dt.eq_5 <|
  And.intro @Bv.pa.eq_1 <|
  And.intro @Bv.pa.eq_2 <|
  And.intro @Av.pa.eq_1 <|
  And.intro @Av.pa.eq_2 <|
  And.intro @Pa.bv.eq_1 <|
  And.intro @Pa.bv.eq_2 <|
  And.intro @resAv.eq_1 <|
  And.intro @resAv.eq_2 <|
  And.intro @resAv.eq_3 <|
  And.intro @allSome.eq_1 <|
  And.intro @allSome.eq_2 <|
  And.intro @allSome.eq_3 <|
  And.intro @mkAv.eq_1 <|
  And.intro @mkAv.eq_2 <|
  And.intro @wrAt.eq_1 <|
  And.intro @wrAt.eq_2 <|
  And.intro @wrAt.eq_3 <|
  And.intro @wrAt.eq_4 <|
  And.intro @splice.eq_1 <|
  And.intro @fillAll.eq_1 <|
  And.intro @fillAll.eq_2 <|
  And.intro @chunks.eq_1 <|
  And.intro @chunks.eq_2 <|
  And.intro @scBin.eq_1 <|
  And.intro @scBin.eq_2 <|
  And.intro @scBin.eq_3 <|
  And.intro @scBin.eq_4 <|
  And.intro @scBin.eq_5 <|
  And.intro @scBin.eq_6 <|
  And.intro @scBin.eq_7 <|
  And.intro @scBin.eq_8 <|
  And.intro @scBin.eq_9 <|
  And.intro @scBin.eq_10 <|
  And.intro @scBin.eq_11 <|
  And.intro @scBin.eq_12 <|
  And.intro @scBin.eq_13 <|
  And.intro @scBin.eq_14 <|
  And.intro @scBin.eq_15 <|
  And.intro @scBin.eq_16 <|
  And.intro @scBin.eq_17 <|
  And.intro @scBin.eq_18 <|
  And.intro @scBin.eq_19 <|
  And.intro @scBin.eq_20 <|
  And.intro @scBin.eq_21 <|
  And.intro @scBin.eq_22 <|
  And.intro @eqCl.eq_1 <|
  And.intro @eqCl.eq_2 <|
  And.intro @eqCl.eq_3 <|
  And.intro @eqCls.eq_1 <|
  And.intro @eqCls.eq_2 <|
  And.intro @eqCls.eq_3 <|
  And.intro @scMM.eq_1 <|
  And.intro @scMM.eq_2 <|
  And.intro @Option.map_some.{0,0} <|
  And.intro @Option.map_none.{0,0} <|
  And.intro @Option.bind_some.{0,0} <|
  And.intro @List.map_cons.{0,0} <|
  And.intro @List.map_nil.{0,0} <|
  And.intro @List.length_cons.{0} <|
  And.intro @List.length_nil.{0} <|
  And.intro @List.getElem?_cons_succ.{0} <|
  And.intro @List.getElem?_cons_zero.{0} <|
  And.intro @List.take_succ_cons.{0} <|
  And.intro @List.take_zero.{0} <|
  And.intro @List.drop_succ_cons.{0} <|
  And.intro @List.drop_zero.{0} <|
  And.intro @List.cons_append.{0} <|
  And.intro @List.nil_append.{0} <|
  And.intro @List.append_nil.{0} <|
  And.intro @if_true.{1} <|
  And.intro @if_false.{1} <|
  And.intro @ite_true.{1} <|
  And.intro @ite_false.{1} <|
  And.intro @ne_eq.{1} <|
  And.intro @not_true <|
  And.intro @not_false_eq_true <|
  And.intro @Nat.add_zero <|
  And.intro @Nat.zero_add <|
  And.intro @and_true <|
  And.intro @true_and <|
  And.intro @and_self <|
  And.intro @forall_const.{1} <|
  And.intro @forall_const.{0} <|
  And.intro @Bool.not_true <|
  And.intro @Bool.not_false <|
  And.intro @Nat.succ_eq_add_one <|
  And.intro @imp_false <|
  And.intro @false_imp_iff <|
  And.intro @forall_false <|
  And.intro @true_imp_iff <|
  And.intro @Bool.and_true <|
  And.intro @Bool.and_false <|
  And.intro @Bool.true_and <|
  And.intro @Bool.false_and <|
  And.intro @implies_true.{1} <|
  And.intro @implies_true.{0} <|
  And.intro @over_sl <|
  And.intro @over_gen <|
  And.intro @over_ob <|
  And.intro @List.contains_cons.{0} <|
  And.intro @List.contains_nil.{0} <|
  And.intro @Bool.or_false <|
  And.intro @Bool.or_true <|
  And.intro @Bool.false_or <|
  And.intro @Bool.true_or <|
  And.intro @cond_true.{1} <|
  And.intro @cond_false.{1} <|
  And.intro @Bool.cond_true.{0} <|
  And.intro @Bool.cond_false.{0} <|
  And.intro @Int.toNat_natCast <|
  And.intro @Int.natCast_nonneg <|
  And.intro @List.getElem?_map.{0,0} <|
  And.intro @List.length_map.{0,0} <|
  And.intro @List.mem_cons.{0} <|
  And.intro @List.not_mem_nil.{0} <|
  And.intro @forall_eq.{1} <|
  And.intro @forall_eq_or_imp.{1} <|
  And.intro @false_or <|
  And.intro @or_true <|
  And.intro @true_or <|
  And.intro @or_false <|
  And.intro @St.res.eq_1 <|
  And.intro @St.res1.eq_1 <|
  And.intro @St.res1.eq_2 <|
  And.intro @decide_eq_true_eq <|
  @decide_eq_false_iff_not
end Go.Proofs.Ytohliamalaifhaa
end
section
set_option linter.unusedSimpArgs false
set_option linter.unusedVariables false
namespace Go.Proofs.Ytohliamalaifhaa
open Go.RowKit

structure Ev where
  g : Int
  kind : Int
  obj : Int
  off : Int
  k : Int
  n : Int
  fn : Int
  pc : Int
  stack : Int
deriving DecidableEq, Inhabited

def I64 (x : Int) : Prop := -9223372036854775808 ≤ x ∧ x ≤ 9223372036854775807
/-- every field is an int64 -/
def Ev.wf (e : Ev) : Prop := I64 e.g ∧ I64 e.kind ∧ I64 e.obj ∧ I64 e.off ∧ I64 e.k ∧ I64 e.n ∧ I64 e.fn ∧ I64 e.pc ∧ I64 e.stack

def Ev.cells (e : Ev) : List Value := [.int .i64 e.g, .int .i64 e.kind, .int .i64 e.obj, .int .i64 e.off, .int .i64 e.k, .int .i64 e.n, .int .i64 e.fn, .int .i64 e.pc, .int .i64 e.stack]
def Ev.val (e : Ev) : Value := .agg #[.int .i64 e.g, .int .i64 e.kind, .int .i64 e.obj, .int .i64 e.off, .int .i64 e.k, .int .i64 e.n, .int .i64 e.fn, .int .i64 e.pc, .int .i64 e.stack]

def numberedB (k : Int) : Bool := decide (15 ≤ k ∧ k ≤ 18)
def isKindB (k : Int) : Bool := decide (1 ≤ k ∧ k ≤ 20)
def chanB (k : Int) : Bool := decide (15 ≤ k ∧ k ≤ 20)
def memB (k : Int) : Bool := decide (k = 1 ∨ k = 2)
def rangeB (x : Int) : Bool := decide (0 ≤ x ∧ x ≤ 2147483647)
def Ev.rest (e : Ev) : Bool :=
  if e.kind = 14 then decide (e.obj = 0 ∧ e.off = 0 ∧ e.n = 0 ∧ 1 ≤ e.k ∧ e.k < 8)
  else if 15 ≤ e.kind ∧ e.kind ≤ 18 then decide (e.off = 0 ∧ e.n ≤ 64)
  else if 19 ≤ e.kind then decide (e.off = 0 ∧ e.n ≤ 64 ∧ e.k = 0)
  else decide (e.k = 0 ∧ e.n = 0)
/-- what both texts call a valid event -/
def Ev.valid (e : Ev) : Bool := isKindB e.kind && decide (0 ≤ e.g ∧ e.g < 8) &&
  (rangeB e.obj && rangeB e.off && rangeB e.k && rangeB e.n && rangeB e.fn && rangeB e.pc && rangeB e.stack) && e.rest

/-! The state of a trace, as the program keeps it. -/
structure Ch where
  cap : Int
  sent : Int
  recv : Int
  closed : Bool
deriving DecidableEq, Inhabited
def ch0 : Ch := ⟨0, 0, 0, false⟩
structure Mu where
  locked : Bool
  readers : Int
deriving DecidableEq, Inhabited
def mu0 : Mu := ⟨false, 0⟩
structure Grp where
  kinds : List Int
  obj : Int
  k : Int
  n : Int
  snd : Int
  rcv : Int
def grp0 : Grp := ⟨[], 0, 0, 0, 0, 0⟩
structure TS where
  events : Int
  gor : Int
  chans : Int → Option Ch
  mus : Int × Int → Option Mu
  done : Int × Int → Option Bool
  grp : Grp
def TS.new : TS := ⟨0, 1, fun _ => none, fun _ => none, fun _ => none, grp0⟩

/-- f, but v at x -/
def upd {κ : Type} [DecidableEq κ] {α : Type} (f : κ → Option α) (x : κ) (v : α) : κ → Option α := fun y => if y = x then some v else f y
theorem upd_same {κ : Type} [DecidableEq κ] {α : Type} (f : κ → Option α) (x : κ) (v : α) : upd f x v x = some v := if_pos rfl
theorem upd_other {κ : Type} [DecidableEq κ] {α : Type} (f : κ → Option α) {x y : κ} (v : α) (h : y ≠ x) : upd f x v y = f y := if_neg h
theorem upd_upd {κ : Type} [DecidableEq κ] {α : Type} (f : κ → Option α) (x : κ) (v u : α) : upd (upd f x v) x u = upd f x u := by
  funext y; unfold upd; split <;> rfl

def Ch.count (c : Ch) (kind : Int) : Ch := if kind = 15 then { c with sent := c.sent + 1 } else if kind = 17 then { c with recv := c.recv + 1 } else c
def TS.count (s : TS) (e : Ev) : TS := { s with chans := upd s.chans e.obj (((s.chans e.obj).getD ch0).count e.kind) }

def sendsB (k : Int) : Bool := decide (k = 15 ∨ k = 16)
def Grp.own (o : Grp) (kind : Int) : Int := if sendsB kind = true then o.snd else o.rcv
def Grp.other (o : Grp) (kind : Int) : Int := if sendsB kind = true then o.rcv else o.snd
def Grp.next (o : Grp) (e : Ev) : Grp :=
  if sendsB e.kind = true then { o with kinds := o.kinds.tail, snd := e.g } else { o with kinds := o.kinds.tail, rcv := e.g }
def Grp.fits (o : Grp) (e : Ev) : Bool :=
  decide (e.kind = o.kinds.headD 0 ∧ e.obj = o.obj ∧ e.k = o.k ∧ e.n = o.n) && !(decide (o.own e.kind < 0 ∧ e.g = o.other e.kind) || decide (0 ≤ o.own e.kind ∧ e.g ≠ o.own e.kind))
def TS.proceed (s : TS) (e : Ev) : Option TS :=
  if s.grp.fits e = true then some { s.count e with grp := s.grp.next e } else none

def TS.chan (s : TS) (e : Ev) : Ch := match s.chans e.obj with
  | some c => c
  | none => { ch0 with cap := e.n }
def TS.start (s : TS) (e : Ev) (c : Ch) (kinds : List Int) (snd rcv : Int) : TS :=
  { s with chans := upd s.chans e.obj (c.count e.kind), grp := ⟨kinds, e.obj, e.k, e.n, snd, rcv⟩ }
/-- the events that are missing behind the first one of a group -/
def Ch.missing (c : Ch) (kind : Int) (alone : Bool) : Option (List Int) :=
  if kind = 15 then (if c.sent - c.recv < c.cap then some [16] else if c.cap = 0 ∧ alone = false then some [17, 18, 16] else none)
  else (if c.recv < c.sent then some [18] else if c.closed = false ∧ alone = false then some [15, 18, 16] else none)
def TS.operate (s : TS) (e : Ev) : Option TS :=
  let c := s.chan e
  if c.cap ≠ e.n then none
  else if e.kind = 19 then (if c.closed = true then none else some { s with chans := upd s.chans e.obj { c with closed := true } })
  else if e.kind = 20 then (if c.closed = true ∧ c.sent = c.recv then some s else none)
  else if e.kind = 15 then (if c.closed = true ∨ e.k ≠ c.sent then none else (c.missing 15 (decide (s.gor = 1))).map fun l => s.start e c l e.g (-1))
  else if e.kind = 17 then (if e.k ≠ c.recv then none else (c.missing 17 (decide (s.gor = 1))).map fun l => s.start e c l (-1) e.g)
  else none

def TS.mu (s : TS) (e : Ev) : Mu := (s.mus (e.obj, e.off)).getD mu0
def TS.simple (s : TS) (e : Ev) : Option TS :=
  let m := s.mu e
  let put (m : Mu) : Option TS := some { s with mus := upd s.mus (e.obj, e.off) m }
  if e.kind = 6 then (if m.locked = true ∨ 0 < m.readers then none else put { m with locked := true })
  else if e.kind = 7 then (if m.locked = false then none else put { m with locked := false })
  else if e.kind = 8 then (if m.locked = true then none else put { m with readers := m.readers + 1 })
  else if e.kind = 9 then (if m.readers = 0 then none else put { m with readers := m.readers - 1 })
  else if e.kind = 12 then (if (s.done (e.obj, e.off)).getD false = true then none else some { s with done := upd s.done (e.obj, e.off) true })
  else if e.kind = 13 then (if (s.done (e.obj, e.off)).getD false = true then some s else none)
  else if e.kind = 14 then (if e.k ≠ s.gor then none else some { s with gor := s.gor + 1 })
  else some s

def TS.isOpen (s : TS) : Bool := decide (0 < s.grp.kinds.length)
def TS.part (s : TS) (e : Ev) : Option TS :=
  if s.isOpen = true then s.proceed e else if chanB e.kind = true then s.operate e else s.simple e
def TS.admits (s : TS) (e : Ev) : Bool := e.valid && decide (s.events < 5000) && decide (e.g < s.gor)
def TS.add (s : TS) (e : Ev) : Option TS :=
  if s.admits e = true then (s.part e).map fun t => { t with events := t.events + 1 } else none

/-- what bounds the numbers of a state -/
structure TS.wf (s : TS) : Prop where
  ev : 0 ≤ s.events ∧ s.events ≤ 5000
  gr : 1 ≤ s.gor ∧ s.gor ≤ 8
  ch : ∀ x c, s.chans x = some c → (0 ≤ c.sent ∧ c.sent ≤ s.events) ∧ (0 ≤ c.recv ∧ c.recv ≤ s.events) ∧ (0 ≤ c.cap ∧ c.cap ≤ 64)
  mu : ∀ x m, s.mus x = some m → 0 ≤ m.readers ∧ m.readers ≤ s.events
  kd : s.grp.kinds.length ≤ 3

theorem TS.wf_new : TS.new.wf := ⟨by decide, by decide, (fun _ _ h => by cases h), (fun _ _ h => by cases h), by decide⟩

theorem Ev.valid_n {e : Ev} (h : e.valid = true) : 0 ≤ e.n ∧ e.n ≤ 2147483647 := by
  simp only [Ev.valid, rangeB, Bool.and_eq_true, decide_eq_true_eq] at h; omega
theorem Ev.valid_k {e : Ev} (h : e.valid = true) : 0 ≤ e.k ∧ e.k ≤ 2147483647 := by
  simp only [Ev.valid, rangeB, Bool.and_eq_true, decide_eq_true_eq] at h; omega
theorem Ev.valid_obj {e : Ev} (h : e.valid = true) : 0 ≤ e.obj ∧ e.obj ≤ 2147483647 := by
  simp only [Ev.valid, rangeB, Bool.and_eq_true, decide_eq_true_eq] at h; omega
theorem Ev.valid_off {e : Ev} (h : e.valid = true) : 0 ≤ e.off ∧ e.off ≤ 2147483647 := by
  simp only [Ev.valid, rangeB, Bool.and_eq_true, decide_eq_true_eq] at h; omega
theorem Ev.valid_g {e : Ev} (h : e.valid = true) : 0 ≤ e.g ∧ e.g < 8 := by
  simp only [Ev.valid, rangeB, Bool.and_eq_true, decide_eq_true_eq] at h; omega
theorem Ev.valid_kind {e : Ev} (h : e.valid = true) : 1 ≤ e.kind ∧ e.kind ≤ 20 := by
  simp only [Ev.valid, isKindB, Bool.and_eq_true, decide_eq_true_eq] at h; omega
theorem Ev.valid_cap {e : Ev} (h : e.valid = true) (hk : chanB e.kind = true) : e.n ≤ 64 := by
  simp only [Ev.valid, Ev.rest, Bool.and_eq_true] at h
  simp only [chanB, decide_eq_true_eq] at hk
  have h2 := h.2
  rw [if_neg (by omega)] at h2
  split at h2
  · simp at h2; omega
  · rw [if_pos (by omega)] at h2; simp at h2; omega
theorem Ev.valid_go {e : Ev} (h : e.valid = true) (hk : e.kind = 14) : 1 ≤ e.k ∧ e.k < 8 := by
  simp only [Ev.valid, Ev.rest, Bool.and_eq_true] at h
  have h2 := h.2
  rw [if_pos hk] at h2
  simp at h2; omega

theorem Ch.count_bd {c : Ch} {B kind : Int} (h : (0 ≤ c.sent ∧ c.sent ≤ B) ∧ (0 ≤ c.recv ∧ c.recv ≤ B) ∧ (0 ≤ c.cap ∧ c.cap ≤ 64)) :
    (0 ≤ (c.count kind).sent ∧ (c.count kind).sent ≤ B + 1) ∧ (0 ≤ (c.count kind).recv ∧ (c.count kind).recv ≤ B + 1) ∧ (0 ≤ (c.count kind).cap ∧ (c.count kind).cap ≤ 64) := by
  unfold Ch.count
  split
  · dsimp only; omega
  · split
    · dsimp only; omega
    · omega

theorem TS.chan_bd {s : TS} (h : s.wf) {e : Ev} (hv : e.valid = true) (hk : chanB e.kind = true) :
    (0 ≤ (s.chan e).sent ∧ (s.chan e).sent ≤ s.events) ∧ (0 ≤ (s.chan e).recv ∧ (s.chan e).recv ≤ s.events) ∧ (0 ≤ (s.chan e).cap ∧ (s.chan e).cap ≤ 64) := by
  unfold TS.chan
  have h1 := h.ev
  have h2 := Ev.valid_cap hv hk
  have h3 := Ev.valid_n hv
  cases hc : s.chans e.obj with
  | none => dsimp [ch0]; omega
  | some c => exact h.ch _ _ hc
theorem TS.mu_bd {s : TS} (h : s.wf) (e : Ev) : 0 ≤ (s.mu e).readers ∧ (s.mu e).readers ≤ s.events := by
  unfold TS.mu
  have h1 := h.ev
  cases hc : s.mus (e.obj, e.off) with
  | none => dsimp [mu0]; omega
  | some m => exact h.mu _ _ hc

theorem upd_all {κ : Type} [DecidableEq κ] {α : Type} {f : κ → Option α} {x : κ} {v : α} {p : α → Prop} (hf : ∀ y c, f y = some c → p c) (hv : p v) : ∀ y c, upd f x v y = some c → p c := by
  intro y c h
  unfold upd at h
  split at h
  · cases h; exact hv
  · exact hf y c h

/-- a state that an event leads to is bounded, one event more being counted -/
theorem TS.part_wf {s t : TS} (h : s.wf) {e : Ev} (hv : e.valid = true) (hp : s.part e = some t) :
    t.events = s.events ∧ (1 ≤ t.gor ∧ t.gor ≤ 8) ∧ (∀ x c, t.chans x = some c → (0 ≤ c.sent ∧ c.sent ≤ s.events + 1) ∧ (0 ≤ c.recv ∧ c.recv ≤ s.events + 1) ∧ (0 ≤ c.cap ∧ c.cap ≤ 64)) ∧
      (∀ x m, t.mus x = some m → 0 ≤ m.readers ∧ m.readers ≤ s.events + 1) ∧ t.grp.kinds.length ≤ 3 := by
  have hch : ∀ x c, s.chans x = some c → (0 ≤ c.sent ∧ c.sent ≤ s.events + 1) ∧ (0 ≤ c.recv ∧ c.recv ≤ s.events + 1) ∧ (0 ≤ c.cap ∧ c.cap ≤ 64) := fun x c hc => by
    have := h.ch x c hc; omega
  have hmu : ∀ x m, s.mus x = some m → 0 ≤ m.readers ∧ m.readers ≤ s.events + 1 := fun x m hm => by
    have := h.mu x m hm; omega
  have hgr := h.gr
  have hkd := h.kd
  have hev := h.ev
  unfold TS.part at hp
  split at hp
  · -- proceed
    unfold TS.proceed at hp
    split at hp
    · cases hp
      refine ⟨rfl, hgr, ?_, hmu, ?_⟩
      · refine upd_all hch (Ch.count_bd ?_)
        cases hc : s.chans e.obj with
        | none => dsimp [ch0]; omega
        | some c => exact h.ch _ _ hc
      · unfold Grp.next
        split <;> (simp; omega)
    · cases hp
  · split at hp
    · -- operate
      rename_i hk
      have hb := TS.chan_bd h hv hk
      unfold TS.operate at hp
      dsimp only at hp
      split at hp
      · cases hp
      split at hp
      · split at hp
        · cases hp
        · cases hp
          exact ⟨rfl, hgr, upd_all hch (by dsimp only; omega), hmu, hkd⟩
      split at hp
      · split at hp
        · cases hp; exact ⟨rfl, hgr, hch, hmu, hkd⟩
        · cases hp
      split at hp
      · split at hp
        · cases hp
        · simp only [Option.map_eq_some_iff] at hp
          obtain ⟨l, hl, rfl⟩ := hp
          refine ⟨rfl, hgr, upd_all hch (Ch.count_bd hb), hmu, ?_⟩
          unfold Ch.missing at hl
          simp only [if_pos] at hl
          split at hl
          · cases hl; simp [TS.start]
          · split at hl
            · cases hl; simp [TS.start]
            · cases hl
      split at hp
      · split at hp
        · cases hp
        · simp only [Option.map_eq_some_iff] at hp
          obtain ⟨l, hl, rfl⟩ := hp
          refine ⟨rfl, hgr, upd_all hch (Ch.count_bd hb), hmu, ?_⟩
          unfold Ch.missing at hl
          rw [if_neg (by decide)] at hl
          split at hl
          · cases hl; simp [TS.start]
          · split at hl
            · cases hl; simp [TS.start]
            · cases hl
      · cases hp
    · -- simple
      have hm := TS.mu_bd h e
      unfold TS.simple at hp
      dsimp only at hp
      split at hp
      · split at hp
        · cases hp
        · cases hp; exact ⟨rfl, hgr, hch, upd_all hmu (by dsimp only; omega), hkd⟩
      split at hp
      · split at hp
        · cases hp
        · cases hp; exact ⟨rfl, hgr, hch, upd_all hmu (by dsimp only; omega), hkd⟩
      split at hp
      · split at hp
        · cases hp
        · cases hp; exact ⟨rfl, hgr, hch, upd_all hmu (by dsimp only; omega), hkd⟩
      split at hp
      · split at hp
        · cases hp
        · cases hp; exact ⟨rfl, hgr, hch, upd_all hmu (by dsimp only; omega), hkd⟩
      split at hp
      · split at hp
        · cases hp
        · cases hp; exact ⟨rfl, hgr, hch, hmu, hkd⟩
      split at hp
      · split at hp
        · cases hp; exact ⟨rfl, hgr, hch, hmu, hkd⟩
        · cases hp
      split at hp
      · rename_i hgo
        have := Ev.valid_go hv hgo
        split at hp
        · cases hp
        · cases hp; exact ⟨rfl, by dsimp only; omega, hch, hmu, hkd⟩
      · cases hp; exact ⟨rfl, hgr, hch, hmu, hkd⟩

theorem TS.add_wf {s t : TS} (h : s.wf) {e : Ev} (ha : s.add e = some t) : t.wf := by
  unfold TS.add at ha
  split at ha
  · rename_i had
    simp only [TS.admits, Bool.and_eq_true, decide_eq_true_eq] at had
    simp only [Option.map_eq_some_iff] at ha
    obtain ⟨u, hu, rfl⟩ := ha
    obtain ⟨h1, h2, h3, h4, h5⟩ := TS.part_wf h had.1.1 hu
    have hev := h.ev
    exact ⟨by dsimp only; omega, h2, fun x c hc => by have := h3 x c hc; dsimp only; omega, fun x m hm => by have := h4 x m hm; dsimp only; omega, h5⟩
  · cases ha

/-! what operate comes to, way by way, the tests in the walk's own form -/
section
variable {s : TS} {g kind obj off k en fn pc stack cap sent recv : Int} {closed : Bool}
  (hc : s.chan ⟨g, kind, obj, off, k, en, fn, pc, stack⟩ = ⟨cap, sent, recv, closed⟩)
include hc
theorem TS.op_eq : s.operate ⟨g, kind, obj, off, k, en, fn, pc, stack⟩ =
    if cap ≠ en then none
    else if kind = 19 then (if closed = true then none else some { s with chans := upd s.chans obj ⟨cap, sent, recv, true⟩ })
    else if kind = 20 then (if closed = true ∧ sent = recv then some s else none)
    else if kind = 15 then (if closed = true ∨ k ≠ sent then none else ((⟨cap, sent, recv, closed⟩ : Ch).missing 15 (decide (s.gor = 1))).map fun l => s.start ⟨g, kind, obj, off, k, en, fn, pc, stack⟩ ⟨cap, sent, recv, closed⟩ l g (-1))
    else if kind = 17 then (if k ≠ recv then none else ((⟨cap, sent, recv, closed⟩ : Ch).missing 17 (decide (s.gor = 1))).map fun l => s.start ⟨g, kind, obj, off, k, en, fn, pc, stack⟩ ⟨cap, sent, recv, closed⟩ l (-1) g)
    else none := by
  unfold TS.operate; rw [hc]
theorem TS.op_nA (h1 : (cap != en) = true) : s.operate ⟨g, kind, obj, off, k, en, fn, pc, stack⟩ = none := by
  rw [TS.op_eq hc]; simp_all
theorem TS.op_nB (h1 : (kind == 19) = true) (h2 : closed = true) : s.operate ⟨g, kind, obj, off, k, en, fn, pc, stack⟩ = none := by
  rw [TS.op_eq hc]; simp_all
theorem TS.op_n20 (h1 : (kind == 20) = true) (h2 : ¬closed = true) : s.operate ⟨g, kind, obj, off, k, en, fn, pc, stack⟩ = none := by
  rw [TS.op_eq hc]; simp_all
theorem TS.op_nD (h1 : (kind == 15) = true) (h2 : closed = true) : s.operate ⟨g, kind, obj, off, k, en, fn, pc, stack⟩ = none := by
  rw [TS.op_eq hc]; simp_all
theorem TS.op_nE (h1 : (kind == 15) = true) (h2 : (k != sent) = true) : s.operate ⟨g, kind, obj, off, k, en, fn, pc, stack⟩ = none := by
  rw [TS.op_eq hc]; simp_all
theorem TS.op_nF (h1 : (kind == 15) = true) (h2 : cap ≤ sent - recv) (h3 : (!s.gor == 1) = false) : s.operate ⟨g, kind, obj, off, k, en, fn, pc, stack⟩ = none := by
  rw [TS.op_eq hc]; simp_all [Ch.missing]; intros; omega
theorem TS.op_nG (h1 : (kind == 15) = true) (h2 : cap ≤ sent - recv) (h3 : ¬cap = 0) : s.operate ⟨g, kind, obj, off, k, en, fn, pc, stack⟩ = none := by
  rw [TS.op_eq hc]; simp_all [Ch.missing]; intros; omega
theorem TS.op_nH (h1 : (kind == 17) = true) (h2 : (k != recv) = true) : s.operate ⟨g, kind, obj, off, k, en, fn, pc, stack⟩ = none := by
  rw [TS.op_eq hc]; simp_all
theorem TS.op_nI (h1 : (kind == 17) = true) (h2 : sent ≤ recv) (h3 : closed = true) : s.operate ⟨g, kind, obj, off, k, en, fn, pc, stack⟩ = none := by
  have h4 : ¬ recv < sent := by omega
  rw [TS.op_eq hc]; simp_all [Ch.missing]
theorem TS.op_nJ (h1 : (kind == 17) = true) (h2 : sent ≤ recv) (h3 : (!s.gor == 1) = false) : s.operate ⟨g, kind, obj, off, k, en, fn, pc, stack⟩ = none := by
  have h4 : ¬ recv < sent := by omega
  rw [TS.op_eq hc]; simp_all [Ch.missing]
theorem TS.op_nK (h1 : (kind == 19) = false) (h2 : (kind == 20) = false) (h3 : (kind == 15) = false) (h4 : (kind == 17) = false) : s.operate ⟨g, kind, obj, off, k, en, fn, pc, stack⟩ = none := by
  rw [TS.op_eq hc]; simp_all
theorem TS.op_s19 (h0 : (cap != en) = false) (h1 : (kind == 19) = true) (h2 : closed = false) : s.operate ⟨g, kind, obj, off, k, en, fn, pc, stack⟩ = some { s with chans := upd s.chans obj ⟨cap, sent, recv, true⟩ } := by
  rw [TS.op_eq hc]; simp_all
theorem TS.op_s20 (h0 : (cap != en) = false) (h1 : (kind == 20) = true) (h2 : closed = true) : s.operate ⟨g, kind, obj, off, k, en, fn, pc, stack⟩ = if sent = recv then some s else none := by
  rw [TS.op_eq hc]; simp_all
theorem TS.op_s15a (h0 : (cap != en) = false) (h1 : (kind == 15) = true) (h2 : ¬closed = true) (h3 : (k != sent) = false) (h4 : sent - recv < cap) : s.operate ⟨g, kind, obj, off, k, en, fn, pc, stack⟩ = some (s.start ⟨g, kind, obj, off, k, en, fn, pc, stack⟩ ⟨cap, sent, recv, closed⟩ [16] g (-1)) := by
  rw [TS.op_eq hc]; simp_all [Ch.missing]
theorem TS.op_s15b (h0 : (cap != en) = false) (h1 : (kind == 15) = true) (h2 : ¬closed = true) (h3 : (k != sent) = false) (h4 : cap ≤ sent - recv) (h5 : cap = 0) (h6 : (!s.gor == 1) = true) : s.operate ⟨g, kind, obj, off, k, en, fn, pc, stack⟩ = some (s.start ⟨g, kind, obj, off, k, en, fn, pc, stack⟩ ⟨cap, sent, recv, closed⟩ [17, 18, 16] g (-1)) := by
  have hm : (⟨cap, sent, recv, closed⟩ : Ch).missing 15 (decide (s.gor = 1)) = some [17, 18, 16] := by
    unfold Ch.missing
    rw [if_pos rfl]
    dsimp only
    rw [if_neg (by omega), if_pos ⟨h5, by simpa using h6⟩]
  rw [TS.op_eq hc, hm]; simp_all
theorem TS.op_s17a (h0 : (cap != en) = false) (h1 : (kind == 17) = true) (h3 : (k != recv) = false) (h4 : recv < sent) : s.operate ⟨g, kind, obj, off, k, en, fn, pc, stack⟩ = some (s.start ⟨g, kind, obj, off, k, en, fn, pc, stack⟩ ⟨cap, sent, recv, closed⟩ [18] (-1) g) := by
  rw [TS.op_eq hc]; simp_all [Ch.missing]
theorem TS.op_s17b (h0 : (cap != en) = false) (h1 : (kind == 17) = true) (h2 : ¬closed = true) (h3 : (k != recv) = false) (h4 : sent ≤ recv) (h6 : (!s.gor == 1) = true) : s.operate ⟨g, kind, obj, off, k, en, fn, pc, stack⟩ = some (s.start ⟨g, kind, obj, off, k, en, fn, pc, stack⟩ ⟨cap, sent, recv, closed⟩ [15, 18, 16] (-1) g) := by
  have hm : (⟨cap, sent, recv, closed⟩ : Ch).missing 17 (decide (s.gor = 1)) = some [15, 18, 16] := by
    unfold Ch.missing
    rw [if_neg (by decide)]
    dsimp only
    rw [if_neg (by omega), if_pos ⟨by simpa using h2, by simpa using h6⟩]
  rw [TS.op_eq hc, hm]; simp_all
end
end Go.Proofs.Ytohliamalaifhaa
end
section
set_option linter.unusedSimpArgs false
set_option linter.unusedVariables false
namespace Go.Proofs.Ytohliamalaifhaa

/-- the state behind a list of events, if all are possible -/
def TS.steps (s : TS) : List Ev → Option TS
  | [] => some s
  | e :: l => (s.add e).bind fun t => t.steps l
/-- how many are possible at the beginning -/
def TS.chk (s : TS) : List Ev → Nat
  | [] => 0
  | e :: l => match s.add e with
    | some t => t.chk l + 1
    | none => 0

theorem TS.steps_append (s : TS) (l m : List Ev) : s.steps (l ++ m) = (s.steps l).bind fun t => t.steps m := by
  induction l generalizing s with
  | nil => rfl
  | cons e l ih =>
    simp only [List.cons_append, TS.steps]
    cases s.add e with
    | none => rfl
    | some t => simpa using ih t
theorem TS.steps_snoc (s : TS) (l : List Ev) (e : Ev) : s.steps (l ++ [e]) = (s.steps l).bind fun t => t.add e := by
  rw [TS.steps_append]
  congr 1
  funext t
  simp [TS.steps]
theorem TS.steps_take_succ {s : TS} {l : List Ev} {k : Nat} (h : k < l.length) : s.steps (l.take (k + 1)) = (s.steps (l.take k)).bind fun t => t.add l[k] := by
  rw [List.take_succ_eq_append_getElem h, TS.steps_snoc]
theorem TS.chk_le (s : TS) (l : List Ev) : s.chk l ≤ l.length := by
  induction l generalizing s with
  | nil => simp [TS.chk]
  | cons e l ih =>
    simp only [TS.chk]
    split
    · rename_i t _; have := ih t; simp; omega
    · simp
theorem TS.steps_wf {s t : TS} (h : s.wf) {l : List Ev} (hs : s.steps l = some t) : t.wf := by
  induction l generalizing s with
  | nil => simp [TS.steps] at hs; subst hs; exact h
  | cons e l ih =>
    simp only [TS.steps, Option.bind_eq_some_iff] at hs
    obtain ⟨u, hu, hs⟩ := hs
    exact ih (TS.add_wf h hu) hs
/-- what the loop finds is that number -/
theorem TS.chk_of {s : TS} {l : List Ev} {k : Nat} (hk : k ≤ l.length) {t : TS} (hs : s.steps (l.take k) = some t) (hn : ∀ e, l[k]? = some e → t.add e = none) : s.chk l = k := by
  induction l generalizing s k with
  | nil => simp at hk; subst hk; rfl
  | cons e l ih =>
    cases k with
    | zero =>
      simp [TS.steps] at hs
      subst hs
      have := hn e rfl
      simp [TS.chk, this]
    | succ k =>
      simp only [List.take_succ_cons, TS.steps, Option.bind_eq_some_iff] at hs
      obtain ⟨u, hu, hs⟩ := hs
      simp only [TS.chk, hu]
      rw [ih (by simpa using hk) hs (fun e' he' => hn e' (by simpa using he'))]
/-- up to that number all are possible -/
theorem TS.chk_steps (s : TS) (l : List Ev) {k : Nat} (hk : k ≤ s.chk l) : ∃ t, s.steps (l.take k) = some t := by
  induction l generalizing s k with
  | nil => simp [TS.chk] at hk; subst hk; exact ⟨s, rfl⟩
  | cons e l ih =>
    cases k with
    | zero => exact ⟨s, rfl⟩
    | succ k =>
      simp only [TS.chk] at hk
      cases ha : s.add e with
      | none => rw [ha] at hk; simp at hk
      | some u =>
        rw [ha] at hk
        obtain ⟨t, ht⟩ := ih u (k := k) (by simpa using hk)
        exact ⟨t, by simp [TS.steps, ha, ht]⟩
theorem TS.chk_stop (s : TS) (l : List Ev) {t : TS} (hs : s.steps (l.take (s.chk l)) = some t) : ∀ e, l[s.chk l]? = some e → t.add e = none := by
  induction l generalizing s with
  | nil => intro e he; simp at he
  | cons a l ih =>
    intro e he
    cases ha : s.add a with
    | none =>
      simp only [TS.chk, ha] at he hs
      simp [TS.steps] at hs he
      subst hs; subst he; exact ha
    | some u =>
      simp only [TS.chk, ha] at he hs
      simp only [List.take_succ_cons, TS.steps, ha, Option.bind_some] at hs
      exact ih u hs e (by simpa using he)
theorem TS.chk_take (s : TS) (l : List Ev) (k : Nat) : s.chk (l.take k) = min (s.chk l) k := by
  induction l generalizing s k with
  | nil => simp [TS.chk]
  | cons e l ih =>
    cases k with
    | zero => simp [TS.chk]
    | succ k =>
      simp only [List.take_succ_cons, TS.chk]
      cases s.add e with
      | none => simp
      | some t => simp only [ih]; omega

/-- the last place up to k behind which no group is open -/
def TS.wholeTo (s : TS) (l : List Ev) : Nat → Nat
  | 0 => 0
  | k + 1 => match s.steps (l.take (k + 1)) with
    | some t => if t.isOpen = true then s.wholeTo l k else k + 1
    | none => s.wholeTo l k
theorem TS.wholeTo_le (s : TS) (l : List Ev) (k : Nat) : s.wholeTo l k ≤ k := by
  induction k with
  | zero => simp [TS.wholeTo]
  | succ k ih =>
    simp only [TS.wholeTo]
    split
    · split
      · omega
      · omega
    · omega
def chk (l : List Ev) : Nat := TS.new.chk l
def wholeOf (l : List Ev) : Nat := TS.new.wholeTo l (chk l)
theorem flat_at (l : List Ev) (i : Nat) (e : Ev) (h : l[i]? = some e) (j : Nat) (x : Value) (hx : e.cells[j]? = some x) : (l.flatMap Ev.cells)[i * 9 + j]? = some x := by
  have hlen : ∀ e : Ev, e.cells.length = 9 := fun _ => rfl
  have hj : j < 9 := by rw [← hlen e]; exact (List.getElem?_eq_some_iff.1 hx).1
  induction l generalizing i with
  | nil => cases h
  | cons a l ih =>
    rw [List.flatMap_cons]
    cases i with
    | zero =>
      simp at h; subst h
      rw [List.getElem?_append_left (by rw [hlen]; omega)]
      simpa using hx
    | succ i =>
      rw [List.getElem?_append_right (by rw [hlen]; omega), hlen, show (i + 1) * 9 + j - 9 = i * 9 + j by omega]
      exact ih i (by simpa using h)

end Go.Proofs.Ytohliamalaifhaa
end
section
set_option linter.unusedSimpArgs false
set_option linter.unusedVariables false
namespace Go.Proofs.Ytohliamalaifhaa
open Go Go.RowKit

/-- nothing is asked of the world -/
instance : WInv := ⟨fun _ => True, fun _ _ _ _ => trivial⟩
abbrev dI (n : Int) : Dt := .sc (.int .i64 n)
abbrev dB (b : Bool) : Dt := .sc (.bool b)
abbrev aI (n : Int) : Av := .b (.one (.d (.sc (.int .i64 n))))
abbrev aB (b : Bool) : Av := .b (.one (.d (.sc (.bool b))))
abbrev pI (n : Int) : Pa := .one (.sc (.int .i64 n))
abbrev pB (b : Bool) : Pa := .one (.sc (.bool b))
def Ev.row (e : Ev) : List Dt := [dI e.g, dI e.kind, dI e.obj, dI e.off, dI e.k, dI e.n, dI e.fn, dI e.pc, dI e.stack]
def Ev.pa (e : Ev) : Pa := .agg e.row
def evsD (l : List Ev) : Dt := .im (l.map Ev.row)
def evsPa (l : List Ev) : Pa := .one (evsD l)

structure RCh where
  obj : Int
  n : Int
  sent : Int
  recv : Int
  closed : Bool
def RCh.row (c : RCh) : List Dt := [dI c.obj, dI c.n, dI c.sent, dI c.recv, dB c.closed]
structure RLk where
  obj : Int
  off : Int
  locked : Bool
  readers : Int
def RLk.row (c : RLk) : List Dt := [dI c.obj, dI c.off, dB c.locked, dI c.readers]
def locRow (p : Int × Int) : List Dt := [dI p.1, dI p.2]
structure RWt where
  kind : Int
  g : Int
  not : Int
def RWt.row (c : RWt) : List Dt := [dI c.kind, dI c.g, dI c.not]
structure RSt where
  count : Int
  gor : Int
  chans : List RCh
  locks : List RLk
  done : List (Int × Int)
  next : List RWt
  obj : Int
  k : Int
  n : Int
def RSt.row (s : RSt) : List Dt := [dI s.count, dI s.gor, .im (s.chans.map RCh.row), .im (s.locks.map RLk.row), .im (s.done.map locRow), .im (s.next.map RWt.row), dI s.obj, dI s.k, dI s.n]
def RSt.pa (s : RSt) : Pa := .agg s.row
/-- what bounds the numbers of a state -/
structure RSt.ok (s : RSt) : Prop where
  ct : 0 ≤ s.count ∧ s.count ≤ 1000000
  gr : 0 ≤ s.gor ∧ s.gor ≤ 1000000
  ch : s.chans.length ≤ 900000 ∧ ∀ c, c ∈ s.chans → (0 ≤ c.sent ∧ c.sent ≤ 1000000) ∧ (0 ≤ c.recv ∧ c.recv ≤ 1000000)
  lk : s.locks.length ≤ 900000 ∧ ∀ c, c ∈ s.locks → 0 ≤ c.readers ∧ c.readers ≤ 1000000
  dn : s.done.length ≤ 900000
  nx : s.next.length ≤ 900000

def RSt.new : RSt := ⟨0, 1, [], [], [], [], 0, 0, 0⟩
def RSt.channel (s : RSt) (obj n : Int) : RCh := (s.chans.find? (fun c => c.obj == obj)).getD ⟨obj, n, 0, 0, false⟩
def RSt.setChannel (s : RSt) (c : RCh) : RSt := { s with chans := s.chans.filter (fun d => d.obj != c.obj) ++ [c] }
def RSt.lock (s : RSt) (obj off : Int) : RLk := (s.locks.find? (fun c => c.obj == obj && c.off == off)).getD ⟨obj, off, false, 0⟩
def RSt.setLock (s : RSt) (c : RLk) : RSt := { s with locks := s.locks.filter (fun d => d.obj != c.obj || d.off != c.off) ++ [c] }
def RSt.isDone (s : RSt) (obj off : Int) : Bool := s.done.any (fun c => c.1 == obj && c.2 == off)
def RCh.count (c : RCh) (kind : Int) : RCh := if kind = 15 then { c with sent := c.sent + 1 } else if kind = 17 then { c with recv := c.recv + 1 } else c
def RSt.counted (s : RSt) (e : Ev) : RSt := if e.kind = 15 ∨ e.kind = 17 then s.setChannel ((s.channel e.obj e.n).count e.kind) else s
def RSt.begin (s : RSt) (e : Ev) (next : List RWt) : RSt := RSt.counted { s with next := next, obj := e.obj, k := e.k, n := e.n } e

/-- does the event go with what a group wants next -/
def RSt.fits (s : RSt) (w : RWt) (e : Ev) : Bool := !((e.kind != w.kind || (e.obj != s.obj || (e.k != s.k || (e.n != s.n || (decide (0 ≤ w.g) && e.g != w.g))))) || (decide (w.g < 0) && e.g == w.not))
def RWt.known (w : RWt) (g : Int) (x : RWt) : RWt := if w.g < 0 ∧ x.g < 0 then { x with g := g } else x
def RSt.groupR (s : RSt) (e : Ev) : RSt × Bool := match s.next with
  | [] => (s, false)
  | w :: rest => if s.fits w e = true then (RSt.counted { s with next := rest.map (w.known e.g) } e, true) else (s, false)
def RSt.transferR (s : RSt) (e : Ev) : RSt × Bool :=
  if (s.channel e.obj e.n).n ≠ e.n then (s, false)
  else if e.kind = 15 then
    if e.k ≠ (s.channel e.obj e.n).sent then (s, false)
    else if (s.channel e.obj e.n).closed = true then (s, false)
    else if 0 < (s.channel e.obj e.n).n ∧ (s.channel e.obj e.n).sent - (s.channel e.obj e.n).recv < (s.channel e.obj e.n).n then (s.begin e [⟨16, e.g, 0⟩], true)
    else if (s.channel e.obj e.n).n = 0 ∧ 1 < s.gor then (s.begin e [⟨17, -1, e.g⟩, ⟨18, -1, 0⟩, ⟨16, e.g, 0⟩], true)
    else (s, false)
  else if e.kind = 17 then
    if e.k ≠ (s.channel e.obj e.n).recv then (s, false)
    else if (s.channel e.obj e.n).recv < (s.channel e.obj e.n).sent then (s.begin e [⟨18, e.g, 0⟩], true)
    else if (s.channel e.obj e.n).closed = false ∧ 1 < s.gor then (s.begin e [⟨15, -1, e.g⟩, ⟨18, e.g, 0⟩, ⟨16, -1, 0⟩], true)
    else (s, false)
  else if e.kind = 19 then
    if (s.channel e.obj e.n).closed = true then (s, false) else (s.setChannel { s.channel e.obj e.n with closed := true }, true)
  else if e.kind = 20 then (s, (s.channel e.obj e.n).closed && (s.channel e.obj e.n).sent == (s.channel e.obj e.n).recv)
  else (s, false)
def RSt.otherR (s : RSt) (e : Ev) : RSt × Bool :=
  if e.kind = 6 then (s.setLock { s.lock e.obj e.off with locked := true }, !(s.lock e.obj e.off).locked && (s.lock e.obj e.off).readers == 0)
  else if e.kind = 7 then (s.setLock { s.lock e.obj e.off with locked := false }, (s.lock e.obj e.off).locked)
  else if e.kind = 8 then (s.setLock { s.lock e.obj e.off with readers := (s.lock e.obj e.off).readers + 1 }, !(s.lock e.obj e.off).locked)
  else if e.kind = 9 then (s.setLock { s.lock e.obj e.off with readers := (s.lock e.obj e.off).readers - 1 }, decide (0 ≤ (s.lock e.obj e.off).readers - 1))
  else if e.kind = 12 then ({ s with done := s.done ++ [(e.obj, e.off)] }, !s.isDone e.obj e.off)
  else if e.kind = 13 then (s, s.isDone e.obj e.off)
  else if e.kind = 14 then ({ s with gor := s.gor + 1 }, e.k == s.gor)
  else (s, true)
def RSt.partR (s : RSt) (e : Ev) : RSt × Bool := if 0 < s.next.length then s.groupR e else if chanB e.kind = true then s.transferR e else s.otherR e
def RSt.admits (s : RSt) (e : Ev) : Bool := e.valid && decide (s.count < 5000) && decide (e.g < s.gor)
def RSt.addR (s : RSt) (e : Ev) : RSt × Bool :=
  if s.admits e = true ∧ (s.partR e).2 = true then ({ (s.partR e).1 with count := (s.partR e).1.count + 1 }, true) else (s, false)

theorem find_hit {α : Type} {l : List α} {p : α → Bool} {k : Nat} {c : α} (hno : ∀ i c, i < k → l[i]? = some c → p c = false) (hc : l[k]? = some c) (he : p c = true) : l.find? p = some c := by
  rw [List.find?_eq_some_iff_getElem]
  refine ⟨he, k, (List.getElem?_eq_some_iff.1 hc).1, (List.getElem?_eq_some_iff.1 hc).2, fun j hj => ?_⟩
  have h1 := List.getElem?_eq_getElem (show j < l.length by have := (List.getElem?_eq_some_iff.1 hc).1; omega)
  rw [hno j _ hj h1]; rfl
theorem find_miss {α : Type} {l : List α} {p : α → Bool} (hno : ∀ i c, i < l.length → l[i]? = some c → p c = false) : l.find? p = none := by
  rw [List.find?_eq_none]
  intro c hc
  obtain ⟨i, hi, rfl⟩ := List.getElem_of_mem hc
  rw [hno i _ hi (List.getElem?_eq_getElem hi)]; decide
theorem no_succ {α : Type} {l : List α} {p : α → Bool} {k : Nat} {c : α} (hno : ∀ i c, i < k → l[i]? = some c → p c = false) (hc : l[k]? = some c) (he : p c = false) : ∀ i c, i < k + 1 → l[i]? = some c → p c = false := by
  intro i c' hi hc'
  rcases Nat.lt_or_eq_of_le (Nat.le_of_lt_succ hi) with h | h
  · exact hno i c' h hc'
  · subst h; rw [hc] at hc'; cases hc'; exact he
theorem any_miss {α : Type} {l : List α} {p : α → Bool} (hno : ∀ i c, i < l.length → l[i]? = some c → p c = false) : l.any p = false := by
  rw [List.any_eq_false]
  intro c hc
  obtain ⟨i, hi, rfl⟩ := List.getElem_of_mem hc
  rw [hno i _ hi (List.getElem?_eq_getElem hi)]; decide
theorem filter_succ {α : Type} {l : List α} {p : α → Bool} {k : Nat} {c : α} (hc : l[k]? = some c) : (l.take (k + 1)).filter p = (l.take k).filter p ++ (if p c = true then [c] else []) := by
  obtain ⟨hk, rfl⟩ := List.getElem?_eq_some_iff.1 hc
  rw [List.take_succ_eq_append_getElem hk, List.filter_append]
  congr 1
  cases h : p l[k] <;> simp [h]
theorem filter_take_le {α : Type} (l : List α) (p : α → Bool) (k : Nat) : ((l.take k).filter p).length ≤ k :=
  Nat.le_trans (List.length_filter_le _ _) (List.length_take_le _ _)

theorem rows_len {α : Type} {f : α → List Dt} {n : Nat} (h : ∀ x, (f x).length = n) (l : List α) : (∀ r, r ∈ l.map f → r.length = n) = True := by
  apply propext
  refine ⟨fun _ => trivial, fun _ r hr => ?_⟩
  obtain ⟨x, _, rfl⟩ := List.mem_map.1 hr
  exact h x
end Go.Proofs.Ytohliamalaifhaa
end
section
set_option linter.unusedSimpArgs false
set_option linter.unusedVariables false
namespace Go.Proofs.Ytohliamalaifhaa
open Go

abbrev Ck := List Int
def ckZ : Ck := List.replicate 8 0
def joinC (a b : Ck) : Ck := List.zipWith (fun x y => if y > x then y else x) a b
def syncB (a b : Ev) : Bool :=
  if a.obj ≠ b.obj then false
  else if a.off ≠ b.off then false
  else if b.kind = 18 then a.kind == 15 && a.k == b.k
  else if b.kind = 16 then a.kind == 17 && b.k == a.k + b.n
  else if b.kind = 20 then a.kind == 19
  else if b.kind = 6 then a.kind == 7 || a.kind == 9
  else if b.kind = 8 then a.kind == 7
  else if b.kind = 11 then a.kind == 10
  else if b.kind = 13 then a.kind == 12
  else false
structure SSt where
  cur : List Ck
  birth : List Ck
  out : List Ck
def startC (s : SSt) (e : Ev) : Ck := if s.cur.getD e.g.toNat ckZ = ckZ then s.birth.getD e.g.toNat ckZ else s.cur.getD e.g.toNat ckZ
def atomB (f e : Ev) : Bool := f.obj == e.obj && (f.off == e.off && (f.kind == 4 || f.kind == 5))
def inStep (out : List Ck) (e f : Ev) (i : Nat) (p : Ck × Int) : Ck × Int :=
  (if syncB f e = true then joinC p.1 (out.getD i ckZ) else p.1, if atomB f e = true then (i : Int) else p.2)
def inTo (l : List Ev) (out : List Ck) (e : Ev) (p : Ck × Int) : Nat → Ck × Int
  | 0 => p
  | i + 1 => inStep out e (l.getD i default) i (inTo l out e p i)
def atomE (e : Ev) (at_ : Int) : Bool := decide (0 ≤ at_) && (e.kind == 3 || e.kind == 5)
def finC (out : List Ck) (e : Ev) (p : Ck × Int) : Ck :=
  let c := if atomE e p.2 = true then joinC p.1 (out.getD p.2.toNat ckZ) else p.1
  c.set e.g.toNat (c.getD e.g.toNat 0 + 1)
def clockAt (l : List Ev) (s : SSt) (e : Ev) (j : Nat) : Ck := finC s.out e (inTo l s.out e (startC s e, -1) j)
def SSt.step (l : List Ev) (s : SSt) (e : Ev) (j : Nat) : SSt :=
  ⟨s.cur.set e.g.toNat (clockAt l s e j), if e.kind = 14 then s.birth.set e.k.toNat (clockAt l s e j) else s.birth, s.out ++ [clockAt l s e j]⟩
def runTo (l : List Ev) : Nat → SSt
  | 0 => ⟨List.replicate 8 ckZ, List.replicate 8 ckZ, []⟩
  | j + 1 => (runTo l j).step l (l.getD j default) j
def stampsL (l : List Ev) : List Ck := (runTo l l.length).out

/-- a clock of eight numbers from 0 to n -/
def COk (n : Int) (c : Ck) : Prop := c.length = 8 ∧ ∀ x, x ∈ c → 0 ≤ x ∧ x ≤ n
theorem COk.z {n : Int} (h : 0 ≤ n) : COk n ckZ := ⟨rfl, fun x hx => by simp [ckZ] at hx; omega⟩
theorem COk.mono {n m : Int} (h : n ≤ m) {c : Ck} (hc : COk n c) : COk m c := ⟨hc.1, fun x hx => by have := hc.2 x hx; omega⟩
theorem COk.join {n : Int} {a b : Ck} (ha : COk n a) (hb : COk n b) : COk n (joinC a b) := by
  refine ⟨by unfold joinC; rw [List.length_zipWith, ha.1, hb.1]; rfl, fun x hx => ?_⟩
  unfold joinC at hx
  obtain ⟨i, hi⟩ := List.getElem?_of_mem hx
  rw [List.getElem?_zipWith] at hi
  split at hi
  · rename_i u v hu hv
    cases hi
    have h1 := ha.2 u (List.mem_of_getElem? hu)
    have h2 := hb.2 v (List.mem_of_getElem? hv)
    split <;> omega
  · cases hi
theorem COk.getD {n : Int} (h : 0 ≤ n) {l : List Ck} (hl : ∀ c, c ∈ l → COk n c) (i : Nat) : COk n (l.getD i ckZ) := by
  rw [List.getD_eq_getElem?_getD]
  cases hi : l[i]? with
  | none => exact COk.z h
  | some c => exact hl c (List.mem_of_getElem? hi)
theorem COk.tick {n : Int} {c : Ck} (hc : COk n c) (i : Nat) : COk (n + 1) (c.set i (c.getD i 0 + 1)) := by
  refine ⟨by rw [List.length_set]; exact hc.1, fun x hx => ?_⟩
  rcases List.mem_or_eq_of_mem_set hx with h | h
  · have := hc.2 x h; omega
  · subst h
    rw [List.getD_eq_getElem?_getD]
    cases hi : c[i]? with
    | none =>
      have h8 := hc.1
      have := hc.2 (c[0]'(by omega)) (List.getElem_mem _)
      simp; omega
    | some y => have := hc.2 y (List.mem_of_getElem? hi); simp; omega
/-- the arrays and their clocks -/
structure SOk (s : SSt) (j : Nat) : Prop where
  cl : s.cur.length = 8
  bl : s.birth.length = 8
  ol : s.out.length = j
  cc : ∀ c, c ∈ s.cur → COk j c
  bc : ∀ c, c ∈ s.birth → COk j c
  oc : ∀ c, c ∈ s.out → COk j c
theorem SOk.start {s : SSt} {j : Nat} (h : SOk s j) (e : Ev) : COk j (startC s e) := by
  unfold startC
  split
  · exact COk.getD (by omega) h.bc _
  · exact COk.getD (by omega) h.cc _
theorem SOk.inTo {s : SSt} {j : Nat} (h : SOk s j) (l : List Ev) (e : Ev) (i : Nat) : COk j (inTo l s.out e (startC s e, -1) i).1 ∧ -1 ≤ (Go.Proofs.Ytohliamalaifhaa.inTo l s.out e (startC s e, -1) i).2 ∧ (Go.Proofs.Ytohliamalaifhaa.inTo l s.out e (startC s e, -1) i).2 < i := by
  induction i with
  | zero => exact ⟨h.start e, by simp [Go.Proofs.Ytohliamalaifhaa.inTo], by simp [Go.Proofs.Ytohliamalaifhaa.inTo]⟩
  | succ i ih =>
    obtain ⟨h1, h2, h3⟩ := ih
    simp only [Go.Proofs.Ytohliamalaifhaa.inTo, inStep]
    refine ⟨?_, ?_, ?_⟩
    · split
      · exact h1.join (COk.getD (by omega) h.oc _)
      · exact h1
    · split <;> omega
    · split <;> omega
theorem SOk.pre {s : SSt} {j : Nat} (h : SOk s j) (l : List Ev) (e : Ev) : COk j (let p := Go.Proofs.Ytohliamalaifhaa.inTo l s.out e (startC s e, -1) j; if atomE e p.2 = true then joinC p.1 (s.out.getD p.2.toNat ckZ) else p.1) := by
  dsimp only
  split
  · exact (h.inTo l e j).1.join (COk.getD (by omega) h.oc _)
  · exact (h.inTo l e j).1
theorem SOk.clock {s : SSt} {j : Nat} (h : SOk s j) (l : List Ev) (e : Ev) : COk ((j + 1 : Nat) : Int) (clockAt l s e j) := by
  have := (h.pre l e).tick e.g.toNat
  unfold clockAt finC
  exact this.mono (by omega)
theorem SOk.step {s : SSt} {j : Nat} (h : SOk s j) (l : List Ev) (e : Ev) : SOk (s.step l e j) (j + 1) := by
  have hc := h.clock l e
  have up : ∀ c, COk (j : Int) c → COk ((j + 1 : Nat) : Int) c := fun c h => h.mono (by omega)
  refine ⟨?_, ?_, ?_, fun c hm => ?_, fun c hm => ?_, fun c hm => ?_⟩
  · simp [SSt.step, h.cl]
  · simp only [SSt.step]; split <;> simp [h.bl]
  · simp [SSt.step, h.ol]
  · rcases List.mem_or_eq_of_mem_set hm with hm | rfl
    · exact up c (h.cc c hm)
    · exact hc
  · simp only [SSt.step] at hm
    split at hm
    · rcases List.mem_or_eq_of_mem_set hm with hm | rfl
      · exact up c (h.bc c hm)
      · exact hc
    · exact up c (h.bc c hm)
  · simp only [SSt.step, List.mem_append, List.mem_singleton] at hm
    rcases hm with hm | rfl
    · exact up c (h.oc c hm)
    · exact hc
theorem runTo_ok (l : List Ev) (j : Nat) : SOk (runTo l j) j := by
  induction j with
  | zero => exact ⟨rfl, rfl, rfl, fun c hc => by simp [runTo] at hc; subst hc; exact COk.z (by omega), fun c hc => by simp [runTo] at hc; subst hc; exact COk.z (by omega), fun c hc => by simp [runTo] at hc⟩
  | succ j ih => exact ih.step l _
theorem stampsL_length (l : List Ev) : (stampsL l).length = l.length := (runTo_ok l l.length).ol
theorem stampsL_ok (l : List Ev) : ∀ c, c ∈ stampsL l → COk l.length c := (runTo_ok l l.length).oc
end Go.Proofs.Ytohliamalaifhaa
end
section
set_option linter.unusedSimpArgs false
set_option linter.unusedVariables false
namespace Go.Proofs.Ytohliamalaifhaa
open Go Go.RowKit
set_option maxRecDepth 100000
set_option maxHeartbeats 4000000

def ckRow (c : Ck) : List Dt := c.map dI
def ckPa (c : Ck) : Pa := .agg (ckRow c)
def ckCells (c : Ck) : List Cl := c.map fun x => .d (dI x)
theorem ckCells_dt (c : Ck) : allSome ((ckCells c).map Cl.dt) = some (ckRow c) := by
  induction c with
  | nil => rfl
  | cons x c ih =>
    show (allSome ((ckCells c).map Cl.dt)).map (dI x :: ·) = _
    rw [ih]; rfl
theorem ckRow_cells (c : Ck) : (ckRow c).map Cl.d = ckCells c := by unfold ckRow ckCells; rw [List.map_map]; rfl
theorem ckCells_length (c : Ck) : (ckCells c).length = c.length := List.length_map ..
theorem ckCells_get (c : Ck) (i : Nat) (x : Int) (h : c[i]? = some x) : (ckCells c)[i]? = some (.d (dI x)) := by unfold ckCells; rw [List.getElem?_map, h]; rfl
theorem ckCells_set (c : Ck) (i : Nat) (x : Int) (h : i < c.length) : wrAt (ckCells c) i [.d (dI x)] = ckCells (c.set i x) := by
  induction c generalizing i with
  | nil => simp at h
  | cons y c ih =>
    cases i with
    | zero =>
      simp only [ckCells, List.map_cons, wrAt, List.set_cons_zero]
      congr 1
      cases c <;> rfl
    | succ i =>
      simp only [ckCells, List.map_cons, List.set_cons_succ, wrAt]
      congr 1
      exact ih i (by simpa using h)
theorem wrAt_full {cs ds : List Cl} (h : cs.length = ds.length) : wrAt cs 0 ds = ds := by
  induction cs generalizing ds with
  | nil => cases ds with
    | nil => rfl
    | cons d ds => simp at h
  | cons c cs ih => cases ds with
    | nil => simp at h
    | cons d ds =>
      simp only [wrAt]
      rw [ih (by simpa using h)]
theorem wr_new8 {c : Ck} (h : c.length = 8) : wrAt [.d (.sc (.int .i64 0)), .d (.sc (.int .i64 0)), .d (.sc (.int .i64 0)), .d (.sc (.int .i64 0)), .d (.sc (.int .i64 0)), .d (.sc (.int .i64 0)), .d (.sc (.int .i64 0)), .d (.sc (.int .i64 0))] 0 (ckCells c) = ckCells c :=
  wrAt_full (by rw [ckCells_length, h]; rfl)
def joinTo (a b : Ck) (k : Nat) : Ck := joinC (a.take k) (b.take k) ++ a.drop k
theorem joinTo_zero (a b : Ck) : joinTo a b 0 = a := by simp [joinTo, joinC]
theorem joinTo_all {a b : Ck} (ha : a.length = 8) (hb : b.length = 8) : joinTo a b 8 = joinC a b := by
  unfold joinTo
  rw [List.take_of_length_le (by omega), List.take_of_length_le (by omega), List.drop_eq_nil_of_le (by omega), List.append_nil]
theorem joinTo_length {a b : Ck} (ha : a.length = 8) (hb : b.length = 8) {k : Nat} (hk : k ≤ 8) : (joinTo a b k).length = 8 := by
  unfold joinTo joinC
  rw [List.length_append, List.length_zipWith, List.length_take, List.length_take, List.length_drop]; omega
theorem joinTo_get {a b : Ck} (ha : a.length = 8) (hb : b.length = 8) {k : Nat} (hk : k < 8) {x : Int} (hx : a[k]? = some x) : (joinTo a b k)[k]? = some x := by
  have hl : (joinC (a.take k) (b.take k)).length = k := by unfold joinC; rw [List.length_zipWith, List.length_take, List.length_take]; omega
  unfold joinTo
  rw [List.getElem?_append_right (by omega), hl, Nat.sub_self, List.getElem?_drop, Nat.add_zero]; exact hx
theorem joinTo_succ {a b : Ck} (ha : a.length = 8) (hb : b.length = 8) {k : Nat} (hk : k < 8) {x y : Int} (hx : a[k]? = some x) (hy : b[k]? = some y) : (joinTo a b k).set k (if y > x then y else x) = joinTo a b (k + 1) := by
  have hl : (joinC (a.take k) (b.take k)).length = k := by unfold joinC; rw [List.length_zipWith, List.length_take, List.length_take]; omega
  unfold joinTo
  rw [List.set_append_right _ _ (by omega), hl, Nat.sub_self, List.drop_eq_getElem_cons (by omega), List.set_cons_zero]
  have e1 : a.take (k + 1) = a.take k ++ [x] := by rw [List.take_add_one, hx]; rfl
  have e2 : b.take (k + 1) = b.take k ++ [y] := by rw [List.take_add_one, hy]; rfl
  rw [e1, e2]
  unfold joinC
  rw [List.zipWith_append (by rw [List.length_take, List.length_take]; omega)]
  simp
def R_join (ps rs : List Pa) : Prop := ∃ a b : Ck, ps = [ckPa a, ckPa b] ∧ (a.length = 8 ∧ b.length = 8) ∧ rs = [ckPa (joinC a b)]
theorem s_join : Spec Try.prog 23 R_join := by
  refine sp23 EnvOK.e0 ?_
  rintro ps rs ⟨a, b, rfl, ⟨ha, hb⟩, rfl⟩
  refine ⟨by simp, ?_⟩
  unfold pc23
  refine pwp_start ?_
  simp only [↓evP, evB, stB, reduceIte, reduceCtorEq, Nat.reduceEqDiff, Nat.reduceAdd, Nat.reduceMul, Nat.reduceLeDiff, Nat.reduceLT, Nat.reduceSub, Nat.reduceBEq, ckPa, ckRow_cells]
  refine pwp_loopW ms23_0 os23_0 (fun m st => ∃ k : Nat, m = 8 - k ∧ k ≤ 8 ∧ st.sl 6 = aI k ∧ st.gen 2 = 1 ∧ st.ob 2 = .cells (ckCells (joinTo a b k))) 8 ?_ ?_
  · exact ⟨0, rfl, Nat.zero_le _, by simp only [stB, reduceIte, reduceCtorEq, Nat.reduceEqDiff, Nat.reduceAdd, Nat.reduceMul, Nat.reduceLeDiff, Nat.reduceLT, Nat.reduceSub, Nat.reduceBEq]; rfl, by simp only [stB, reduceIte, reduceCtorEq, Nat.reduceEqDiff, Nat.reduceAdd, Nat.reduceMul, Nat.reduceLeDiff, Nat.reduceLT, Nat.reduceSub, Nat.reduceBEq], by simp only [stB, reduceIte, reduceCtorEq, Nat.reduceEqDiff, Nat.reduceAdd, Nat.reduceMul, Nat.reduceLeDiff, Nat.reduceLT, Nat.reduceSub, Nat.reduceBEq, joinTo_zero]⟩
  · rintro m j ⟨k, rfl, hk, h6, g2, o2⟩
    simp only [stB, reduceIte, reduceCtorEq, Nat.reduceEqDiff, Nat.reduceAdd, Nat.reduceMul, Nat.reduceLeDiff, Nat.reduceLT, Nat.reduceSub, Nat.reduceBEq] at h6 g2 o2
    rcases Nat.lt_or_ge k 8 with hlt | hge
    · obtain ⟨x, hx⟩ : ∃ x, a[k]? = some x := ⟨_, List.getElem?_eq_getElem (by omega)⟩
      obtain ⟨y, hy⟩ : ∃ y, b[k]? = some y := ⟨_, List.getElem?_eq_getElem (by omega)⟩
      have hlt' : (k : Int) < 8 := by omega
      have h0 : (0 : Int) ≤ (k : Int) := by omega
      have hlt8 : (k : Int) < ((8 : Nat) : Int) := by omega
      have e1 := ckCells_get _ _ _ (joinTo_get ha hb hlt hx)
      have e2 := ckCells_get _ _ _ hy
      have e3 : k + 1 ≤ (ckCells (joinTo a b k)).length := by rw [ckCells_length, joinTo_length ha hb hk]; omega
      have e4 := (ckCells_set (joinTo a b k) k (if y > x then y else x) (by rw [joinTo_length ha hb hk]; omega)).trans (congrArg ckCells (joinTo_succ ha hb hlt hx hy))
      simp only [↓evP, evB, stB, reduceIte, reduceCtorEq, Nat.reduceEqDiff, Nat.reduceAdd, Nat.reduceMul, Nat.reduceLeDiff, Nat.reduceLT, Nat.reduceSub, Nat.reduceBEq, h6, g2, o2, hlt', hlt8, h0, e1, e2, e3, e4, Nat.mul_one, List.foldl_cons, List.foldl_nil]
      refine ⟨(by unfold Drw; kernel_rfl), ?_⟩
      exact ⟨_, by omega, (by repeat' (first | assumption | exact within_over.mpr trivial | exact Within.refl _ _ _ | (refine within_ap ?_ rfl rfl) | (refine within_ap0 ?_ rfl))), k + 1, rfl, by omega, by simp only [stB, reduceIte, reduceCtorEq, Nat.reduceEqDiff, Nat.reduceAdd, Nat.reduceMul, Nat.reduceLeDiff, Nat.reduceLT, Nat.reduceSub, Nat.reduceBEq, h6]; rw [wrN (by omega)], by simp only [stB, reduceIte, reduceCtorEq, Nat.reduceEqDiff, Nat.reduceAdd, Nat.reduceMul, Nat.reduceLeDiff, Nat.reduceLT, Nat.reduceSub, Nat.reduceBEq, g2], by simp only [stB, reduceIte, reduceCtorEq, Nat.reduceEqDiff, Nat.reduceAdd, Nat.reduceMul, Nat.reduceLeDiff, Nat.reduceLT, Nat.reduceSub, Nat.reduceBEq, o2, wrF_cells]; rw [e4]⟩
    · have hk8 : k = 8 := by omega
      subst hk8
      have hlt' : ¬ ((8 : Nat) : Int) < 8 := by omega
      have e3 : 0 + 8 ≤ (ckCells (joinTo a b 8)).length := by rw [ckCells_length, joinTo_length ha hb (by omega)]; omega
      have e4 : (ckCells (joinTo a b 8)).take 8 = ckCells (joinTo a b 8) := List.take_of_length_le (by rw [ckCells_length, joinTo_length ha hb (by omega)]; omega)
      have e5 : (ckCells (joinTo a b 8)).length = 8 := by rw [ckCells_length, joinTo_length ha hb (by omega)]
      simp only [↓evP, evB, stB, reduceIte, reduceCtorEq, Nat.reduceEqDiff, Nat.reduceAdd, Nat.reduceMul, Nat.reduceLeDiff, Nat.reduceLT, Nat.reduceSub, Nat.reduceBEq, h6, g2, o2, hlt', e3, e4, e5, wr_new8 (joinTo_length ha hb (Nat.le_refl 8)), ckCells_dt, pr23]
      rw [joinTo_all ha hb]

theorem sync_bne {a b : Int} (h : (a != b) = false) : ¬ a ≠ b := fun h' => by rw [bne_iff_ne.2 h'] at h; cases h
def R_sync (ps rs : List Pa) : Prop := ∃ a b : Ev, ps = [a.pa, b.pa] ∧ (0 ≤ a.k ∧ a.k ≤ 2147483647 ∧ 0 ≤ b.n ∧ b.n ≤ 2147483647) ∧ rs = [pB (syncB a b)]
theorem s_sync : Spec Try.prog 22 R_sync := by
  refine sp22 EnvOK.e0 ?_
  rintro ps rs ⟨a, b, rfl, ⟨h1, h2, h3, h4⟩, rfl⟩
  refine ⟨by simp, ?_⟩
  have hw : IntKind.i64.wrap (a.k + b.n) = a.k + b.n := wr64 (by omega) (by omega)
  have hs : syncB a b = syncB a b := rfl
  conv at hs => rhs; unfold syncB
  unfold pc22
  refine pwp_start ?_
  cases q1 : (a.obj != b.obj) with
  | true =>
    rw [if_pos (bne_iff_ne.1 q1)] at hs
    simp only [↓evP, evB, stB, reduceIte, reduceCtorEq, Nat.reduceEqDiff, Nat.reduceAdd, Nat.reduceMul, Nat.reduceLeDiff, Nat.reduceLT, Nat.reduceSub, Nat.reduceBEq, Ev.pa, Ev.row, q1, hs, pr22]
  | false =>
  rw [if_neg (sync_bne q1)] at hs
  cases q2 : (a.off != b.off) with
  | true =>
    rw [if_pos (bne_iff_ne.1 q2)] at hs
    simp only [↓evP, evB, stB, reduceIte, reduceCtorEq, Nat.reduceEqDiff, Nat.reduceAdd, Nat.reduceMul, Nat.reduceLeDiff, Nat.reduceLT, Nat.reduceSub, Nat.reduceBEq, Ev.pa, Ev.row, q1, q2, hs, pr22]
  | false =>
  rw [if_neg (sync_bne q2)] at hs
  cases k18 : (b.kind == 18) with
  | true =>
    rw [if_pos (beq_iff_eq.1 k18)] at hs
    simp only [↓evP, evB, stB, reduceIte, reduceCtorEq, Nat.reduceEqDiff, Nat.reduceAdd, Nat.reduceMul, Nat.reduceLeDiff, Nat.reduceLT, Nat.reduceSub, Nat.reduceBEq, Ev.pa, Ev.row, q1, q2, k18, hw, pr22]
    rw [hs]
    clear hs
    refine ⟨fun h => by rw [h, Bool.true_and], fun h => by rw [h]; rfl⟩
  | false =>
  rw [if_neg (beq_eq_false_iff_ne.1 k18)] at hs
  cases k16 : (b.kind == 16) with
  | true =>
    rw [if_pos (beq_iff_eq.1 k16)] at hs
    simp only [↓evP, evB, stB, reduceIte, reduceCtorEq, Nat.reduceEqDiff, Nat.reduceAdd, Nat.reduceMul, Nat.reduceLeDiff, Nat.reduceLT, Nat.reduceSub, Nat.reduceBEq, Ev.pa, Ev.row, q1, q2, k18, k16, hw, pr22]
    rw [hs]
    clear hs
    refine ⟨fun h => by rw [h, Bool.true_and], fun h => by rw [h]; rfl⟩
  | false =>
  rw [if_neg (beq_eq_false_iff_ne.1 k16)] at hs
  cases k20 : (b.kind == 20) with
  | true =>
    rw [if_pos (beq_iff_eq.1 k20)] at hs
    simp only [↓evP, evB, stB, reduceIte, reduceCtorEq, Nat.reduceEqDiff, Nat.reduceAdd, Nat.reduceMul, Nat.reduceLeDiff, Nat.reduceLT, Nat.reduceSub, Nat.reduceBEq, Ev.pa, Ev.row, q1, q2, k18, k16, k20, hw, pr22]
    rw [hs]
  | false =>
  rw [if_neg (beq_eq_false_iff_ne.1 k20)] at hs
  cases k6 : (b.kind == 6) with
  | true =>
    rw [if_pos (beq_iff_eq.1 k6)] at hs
    simp only [↓evP, evB, stB, reduceIte, reduceCtorEq, Nat.reduceEqDiff, Nat.reduceAdd, Nat.reduceMul, Nat.reduceLeDiff, Nat.reduceLT, Nat.reduceSub, Nat.reduceBEq, Ev.pa, Ev.row, q1, q2, k18, k16, k20, k6, hw, pr22]
    rw [hs]
    clear hs
    refine ⟨fun h => by rw [h, Bool.false_or], fun h => by rw [h]; rfl⟩
  | false =>
  rw [if_neg (beq_eq_false_iff_ne.1 k6)] at hs
  cases k8 : (b.kind == 8) with
  | true =>
    rw [if_pos (beq_iff_eq.1 k8)] at hs
    simp only [↓evP, evB, stB, reduceIte, reduceCtorEq, Nat.reduceEqDiff, Nat.reduceAdd, Nat.reduceMul, Nat.reduceLeDiff, Nat.reduceLT, Nat.reduceSub, Nat.reduceBEq, Ev.pa, Ev.row, q1, q2, k18, k16, k20, k6, k8, hw, pr22]
    rw [hs]
  | false =>
  rw [if_neg (beq_eq_false_iff_ne.1 k8)] at hs
  cases k11 : (b.kind == 11) with
  | true =>
    rw [if_pos (beq_iff_eq.1 k11)] at hs
    simp only [↓evP, evB, stB, reduceIte, reduceCtorEq, Nat.reduceEqDiff, Nat.reduceAdd, Nat.reduceMul, Nat.reduceLeDiff, Nat.reduceLT, Nat.reduceSub, Nat.reduceBEq, Ev.pa, Ev.row, q1, q2, k18, k16, k20, k6, k8, k11, hw, pr22]
    rw [hs]
  | false =>
  rw [if_neg (beq_eq_false_iff_ne.1 k11)] at hs
  cases k13 : (b.kind == 13) with
  | true =>
    rw [if_pos (beq_iff_eq.1 k13)] at hs
    simp only [↓evP, evB, stB, reduceIte, reduceCtorEq, Nat.reduceEqDiff, Nat.reduceAdd, Nat.reduceMul, Nat.reduceLeDiff, Nat.reduceLT, Nat.reduceSub, Nat.reduceBEq, Ev.pa, Ev.row, q1, q2, k18, k16, k20, k6, k8, k11, k13, hw, pr22]
    rw [hs]
  | false =>
  rw [if_neg (beq_eq_false_iff_ne.1 k13)] at hs
  simp only [↓evP, evB, stB, reduceIte, reduceCtorEq, Nat.reduceEqDiff, Nat.reduceAdd, Nat.reduceMul, Nat.reduceLeDiff, Nat.reduceLT, Nat.reduceSub, Nat.reduceBEq, Ev.pa, Ev.row, q1, q2, k18, k16, k20, k6, k8, k11, k13, hs, pr22]
end Go.Proofs.Ytohliamalaifhaa
end
section
set_option linter.unusedSimpArgs false
set_option linter.unusedVariables false
namespace Go.Proofs.Ytohliamalaifhaa
open Go Go.RowKit
set_option maxRecDepth 100000
set_option maxHeartbeats 4000000

theorem within_in {ms os ms' os' : List Nat} {s0 b j : St} (h : Within ms os s0 b) (hm : ms'.all (fun x => ms.contains x) = true) (ho : os'.all (fun x => os.contains x) = true) : Within ms os s0 (over ms' os' b j) := by
  have h1 : ∀ x, ms.contains x = false → ms'.contains x = false := fun x hx => by
    cases hc : ms'.contains x with
    | false => rfl
    | true => rw [List.all_eq_true] at hm; rw [hm x (by simpa using hc)] at hx; cases hx
  have h2 : ∀ x, os.contains x = false → os'.contains x = false := fun x hx => by
    cases hc : os'.contains x with
    | false => rfl
    | true => rw [List.all_eq_true] at ho; rw [ho x (by simpa using hc)] at hx; cases hx
  refine ⟨fun x hx => ?_, fun o hx => ⟨?_, ?_⟩⟩
  · rw [over_sl, h1 x hx]; exact h.1 x hx
  · rw [over_gen, h2 o hx]; exact (h.2 o hx).1
  · rw [over_ob, h2 o hx]; exact (h.2 o hx).2
def All8 (cs : List Ck) : Prop := ∀ c, c ∈ cs → c.length = 8
def flatC (cs : List Ck) : List Cl := cs.flatMap ckCells
theorem flatC_cons (c : Ck) (cs : List Ck) : flatC (c :: cs) = ckCells c ++ flatC cs := rfl
theorem flatC_len {cs : List Ck} (h : All8 cs) : (flatC cs).length = cs.length * 8 := by
  induction cs with
  | nil => rfl
  | cons c cs ih =>
    rw [flatC_cons, List.length_append, ckCells_length, h c (by simp), ih (fun d hd => h d (by simp [hd])), List.length_cons]; omega
theorem flatC_get {cs : List Ck} (h : All8 cs) {i : Nat} {c : Ck} (hi : cs[i]? = some c) : ((flatC cs).drop (i * 8)).take 8 = ckCells c := by
  induction cs generalizing i with
  | nil => simp at hi
  | cons d cs ih =>
    have hd := h d (by simp)
    cases i with
    | zero =>
      simp at hi; subst hi
      rw [Nat.zero_mul, List.drop_zero, flatC_cons, List.take_left' (by rw [ckCells_length, hd])]
    | succ i =>
      rw [flatC_cons, show (i + 1) * 8 = (ckCells d).length + i * 8 by rw [ckCells_length, hd]; omega, List.drop_append, List.drop_eq_nil_of_le (by omega), List.nil_append, Nat.add_sub_cancel_left]
      exact ih (fun x hx => h x (by simp [hx])) (by simpa using hi)
theorem wrAt_app_left {a b ds : List Cl} (h : ds.length = a.length) : wrAt (a ++ b) 0 ds = ds ++ b := by
  induction a generalizing ds with
  | nil =>
    have : ds = [] := List.eq_nil_of_length_eq_zero (by simpa using h)
    subst this
    cases b <;> rfl
  | cons x a ih => cases ds with
    | nil => simp at h
    | cons d ds =>
      simp only [List.cons_append, wrAt]
      rw [ih (by simpa using h)]
theorem wrAt_app_right {a b ds : List Cl} {k : Nat} : wrAt (a ++ b) (a.length + k) ds = a ++ wrAt b k ds := by
  induction a with
  | nil => simp
  | cons x a ih =>
    rw [List.cons_append, List.length_cons, show a.length + 1 + k = (a.length + k) + 1 by omega]
    simp only [wrAt, List.cons_append]
    rw [ih]
theorem flatC_set {cs : List Ck} (h : All8 cs) {i : Nat} (hi : i < cs.length) {d : Ck} (hd : d.length = 8) : wrAt (flatC cs) (i * 8) (ckCells d) = flatC (cs.set i d) := by
  induction cs generalizing i with
  | nil => simp at hi
  | cons c cs ih =>
    have hc := h c (by simp)
    cases i with
    | zero =>
      rw [Nat.zero_mul, flatC_cons, wrAt_app_left (by rw [ckCells_length, ckCells_length, hd, hc]), List.set_cons_zero, flatC_cons]
    | succ i =>
      rw [flatC_cons, show (i + 1) * 8 = (ckCells c).length + i * 8 by rw [ckCells_length, hc]; omega, wrAt_app_right, ih (fun x hx => h x (by simp [hx])) (by simpa using hi), List.set_cons_succ, flatC_cons]
theorem All8.set {cs : List Ck} (h : All8 cs) {i : Nat} {d : Ck} (hd : d.length = 8) : All8 (cs.set i d) := fun c hc => by
  rcases List.mem_or_eq_of_mem_set hc with hc | rfl
  · exact h c hc
  · exact hd
theorem All8.rep (n : Nat) : All8 (List.replicate n ckZ) := fun c hc => by simp at hc; rw [hc.2]; rfl
theorem All8.app {a b : List Ck} (ha : All8 a) (hb : All8 b) : All8 (a ++ b) := fun c hc => by
  rcases List.mem_append.1 hc with h | h
  · exact ha c h
  · exact hb c h
theorem mk_flat (n : Nat) : ((List.range (n * 8)).map fun i => Cl.d (.sc (([.int .i64 0, .int .i64 0, .int .i64 0, .int .i64 0, .int .i64 0, .int .i64 0, .int .i64 0, .int .i64 0] : List Value).getD (i % 8) undef))) = flatC (List.replicate n ckZ) := by
  have h1 : ((List.range (n * 8)).map fun i => Cl.d (.sc (([.int .i64 0, .int .i64 0, .int .i64 0, .int .i64 0, .int .i64 0, .int .i64 0, .int .i64 0, .int .i64 0] : List Value).getD (i % 8) undef))) = List.replicate (n * 8) (Cl.d (dI 0)) := by
    rw [List.eq_replicate_iff]
    refine ⟨by simp, fun c hc => ?_⟩
    obtain ⟨i, _, rfl⟩ := List.mem_map.1 hc
    have : i % 8 < 8 := Nat.mod_lt _ (by decide)
    have h : ∀ m : Fin 8, (([.int .i64 0, .int .i64 0, .int .i64 0, .int .i64 0, .int .i64 0, .int .i64 0, .int .i64 0, .int .i64 0] : List Value).getD m.val undef) = .int .i64 0 := by intro m; match m with
      | ⟨0, _⟩ => rfl
      | ⟨1, _⟩ => rfl
      | ⟨2, _⟩ => rfl
      | ⟨3, _⟩ => rfl
      | ⟨4, _⟩ => rfl
      | ⟨5, _⟩ => rfl
      | ⟨6, _⟩ => rfl
      | ⟨7, _⟩ => rfl
    rw [h ⟨i % 8, this⟩]
  rw [h1]
  clear h1
  induction n with
  | zero => rfl
  | succ n ih =>
    rw [List.replicate_succ, flatC_cons, ← ih, show (n + 1) * 8 = 8 + n * 8 by omega, ← List.replicate_append_replicate]
    rfl
theorem eqCls_ck {a b : Ck} (h : a.length = b.length) : eqCls (List.replicate a.length false) (ckCells a) (ckCells b) = some (decide (a = b)) := by
  induction a generalizing b with
  | nil =>
    cases b with
    | nil => rfl
    | cons y b => simp at h
  | cons x a ih =>
    cases b with
    | nil => simp at h
    | cons y b =>
      have h2 := ih (b := b) (by simpa using h)
      rw [List.length_cons, List.replicate_succ]
      show (match eqCl false (.d (dI x)) (.d (dI y)), eqCls (List.replicate a.length false) (ckCells a) (ckCells b) with | some p, some q => some (p && q) | _, _ => none) = _
      rw [h2]
      show some ((x == y) && decide (a = b)) = _
      congr 1
      rw [Bool.eq_iff_iff]; simp
theorem eqs_zero {a : Ck} (h : a.length = 8) : eqCls [false, false, false, false, false, false, false, false] (ckCells a) [.d (.sc (.int .i64 0)), .d (.sc (.int .i64 0)), .d (.sc (.int .i64 0)), .d (.sc (.int .i64 0)), .d (.sc (.int .i64 0)), .d (.sc (.int .i64 0)), .d (.sc (.int .i64 0)), .d (.sc (.int .i64 0))] = some (decide (a = ckZ)) := by
  have := eqCls_ck (a := a) (b := ckZ) (by rw [h]; rfl)
  rw [h] at this
  exact this
theorem flatC_dt {cs : List Ck} : allSome ((flatC cs).map Cl.dt) = some (cs.flatMap ckRow) := by
  have happ : ∀ (a b : List (Option Dt)) (x y : List Dt), allSome a = some x → allSome b = some y → allSome (a ++ b) = some (x ++ y) := by
    intro a
    induction a with
    | nil => intro b x y h1 h2; simp [allSome] at h1; subst h1; exact h2
    | cons o a ih =>
      intro b x y h1 h2
      cases o with
      | none => simp [allSome] at h1
      | some o =>
        simp only [allSome, Option.map_eq_some_iff] at h1
        obtain ⟨z, h3, rfl⟩ := h1
        simp only [List.cons_append, allSome, ih b z y h3 h2, Option.map_some]
  induction cs with
  | nil => rfl
  | cons c cs ih =>
    rw [flatC_cons, List.map_append, List.flatMap_cons]
    exact happ _ _ _ _ (ckCells_dt c) ih
theorem chunks_rows {cs : List Ck} (h : All8 cs) : chunks cs.length 8 (cs.flatMap ckRow) = cs.map ckRow := by
  induction cs with
  | nil => rfl
  | cons c cs ih =>
    have hc : (ckRow c).length = 8 := by unfold ckRow; rw [List.length_map]; exact h c (by simp)
    rw [List.length_cons, chunks, List.flatMap_cons, List.take_left' hc, List.drop_left' hc, ih (fun d hd => h d (by simp [hd])), List.map_cons]
end Go.Proofs.Ytohliamalaifhaa
end
section
set_option linter.unusedSimpArgs false
set_option linter.unusedVariables false
namespace Go.Proofs.Ytohliamalaifhaa
open Go Go.RowKit
set_option maxRecDepth 100000
set_option maxHeartbeats 4000000

def cksPa (l : List Ck) : Pa := .one (.im (l.map ckRow))
def env_stamps : Env := e1 22 R_sync (e1 23 R_join e0)
theorem env_stamps_ok : EnvOK Try.prog env_stamps := EnvOK.e1 s_sync (EnvOK.e1 s_join EnvOK.e0)
theorem Ev.valid_rng {e : Ev} (h : e.valid = true) : (0 ≤ e.g ∧ e.g < 8) ∧ (0 ≤ e.k ∧ e.k ≤ 2147483647) ∧ (0 ≤ e.n ∧ e.n ≤ 2147483647) ∧ (e.kind = 14 → 0 ≤ e.k ∧ e.k < 8) := by
  simp only [Ev.valid, rangeB, Bool.and_eq_true, decide_eq_true_eq] at h
  refine ⟨by omega, by omega, by omega, fun hk => ?_⟩
  have := h.2
  unfold Ev.rest at this
  rw [if_pos hk] at this
  simp only [decide_eq_true_eq] at this
  omega
/-- where stamps stands at an event -/
structure StAt (l : List Ev) (s : SSt) (e : Ev) (j n : Nat) (st : St) : Prop where
  h0 : st.sl 0 = .b (.one (.d (evsD l)))
  h3 : st.sl 3 = .b (.one (.ptr 3 1 0))
  h4 : st.sl 4 = .b (.one (.ptr 4 1 0))
  h5 : st.sl 5 = .b (.one (.sv 14 1 0 n n 8))
  h6 : st.sl 6 = aI j
  h7 : st.sl 7 = .b (.one (.ptr 7 (st.gen 7) 0))
  h8 : st.sl 8 = .b (.one (.ptr 8 (st.gen 8) 0))
  h17 : st.sl 17 = aI j
  g3 : st.gen 3 = 1
  g4 : st.gen 4 = 1
  g14 : st.gen 14 = 1
  o3 : st.ob 3 = .cells (flatC s.cur)
  o4 : st.ob 4 = .cells (flatC s.birth)
  o7 : st.ob 7 = .cells (e.row.map .d)
  o14 : st.ob 14 = .cells (flatC (s.out ++ List.replicate (n - j) ckZ))
structure StEnd (s : SSt) (j n : Nat) (st : St) : Prop where
  g3 : st.gen 3 = 1
  g4 : st.gen 4 = 1
  g14 : st.gen 14 = 1
  o3 : st.ob 3 = .cells (flatC s.cur)
  o4 : st.ob 4 = .cells (flatC s.birth)
  o14 : st.ob 14 = .cells (flatC (s.out ++ List.replicate (n - j) ckZ))
def osS : List Nat := [7, 8, 11, 14, 3, 4]
theorem out_set {s : SSt} {j n : Nat} (ho : s.out.length = j) (hj : j < n) (c : Ck) : (s.out ++ List.replicate (n - j) ckZ).set j c = (s.out ++ [c]) ++ List.replicate (n - (j + 1)) ckZ := by
  obtain ⟨m, hm⟩ : ∃ m, n - j = m + 1 := ⟨n - j - 1, by omega⟩
  rw [List.set_append_right _ _ (by omega), ho, Nat.sub_self, hm, List.replicate_succ, List.set_cons_zero, List.append_assoc, List.cons_append, List.nil_append, show n - (j + 1) = m by omega]
theorem SOk.a8 {s : SSt} {j : Nat} (h : SOk s j) : All8 s.cur ∧ All8 s.birth ∧ All8 s.out := ⟨fun c hc => (h.cc c hc).1, fun c hc => (h.bc c hc).1, fun c hc => (h.oc c hc).1⟩

theorem stamps_c0 {l : List Ev} {s : SSt} {e : Ev} {j n : Nat} (hok : SOk s j) (hv : e.valid = true) (hj : j < n) (hn : n ≤ 1000000) {c d : Ck} (hc : COk j c) (hd : d = c.set e.g.toNat (c.getD e.g.toNat 0 + 1))
    (k : List It) (Q : Exit → St → Prop) {s0 : St}
    (hQ : ∀ st, Within msh18_0 osS s0 st → StEnd ⟨s.cur.set e.g.toNat d, if e.kind = 14 then s.birth.set e.k.toNat d else s.birth, s.out ++ [d]⟩ (j + 1) n st → st.sl 17 = aI j → exS env_stamps k Q .normal st)
    (st : St) (hw : Within msh18_0 osS s0 st) (ha : StAt l s e j n st) (o8 : st.ob 8 = .cells (ckCells c)) :
    pwp env_stamps pch18c0 (exS env_stamps k Q) st := by
  obtain ⟨h0, h3, h4, h5, h6, h7, h8, h17, g3, g4, g14, o3, o4, o7, o14⟩ := ha
  simp only [Ev.row, List.map_cons, List.map_nil] at o7
  obtain ⟨⟨hg0, hg8⟩, _, _, hk14⟩ := Ev.valid_rng hv
  have hg8' : e.g < ((8 : Nat) : Int) := hg8
  obtain ⟨a3, a4, a14⟩ := hok.a8
  have a14' := a14.app (All8.rep (n - j))
  have hl14 : (s.out ++ List.replicate (n - j) ckZ).length = n := by rw [List.length_append, hok.ol, List.length_replicate]; omega
  have hcl := hc.1
  have hdl : d.length = 8 := by rw [hd, List.length_set, hcl]
  obtain ⟨x, hx⟩ : ∃ x, c[e.g.toNat]? = some x := ⟨_, List.getElem?_eq_getElem (by omega)⟩
  have hxb := hc.2 x (List.mem_of_getElem? hx)
  have hxd : c.getD e.g.toNat 0 = x := by rw [List.getD_eq_getElem?_getD, hx]; rfl
  rw [hxd] at hd
  have hw64 : IntKind.i64.wrap (x + 1) = x + 1 := wr64 (by omega) (by omega)
  have e1 := ckCells_get _ _ _ hx
  have e2 : e.g.toNat + 1 ≤ (ckCells c).length := by rw [ckCells_length]; omega
  have e3 : wrAt (ckCells c) e.g.toNat [.d (dI (x + 1))] = ckCells d := by rw [hd]; exact ckCells_set _ _ _ (by omega)
  have e4 : (ckCells d).length = 8 := by rw [ckCells_length, hdl]
  have e5 : 0 + 8 ≤ (ckCells d).length := by omega
  have e6 : (ckCells d).take 8 = ckCells d := List.take_of_length_le (by omega)
  have hj0 : (0 : Int) ≤ (j : Int) := by omega
  have hjn : (j : Int) < (n : Int) := by omega
  have f1 : j * 8 + 8 ≤ (flatC (s.out ++ List.replicate (n - j) ckZ)).length := by rw [flatC_len a14', hl14]; omega
  have f2 := (flatC_set a14' (i := j) (by omega) hdl).trans (congrArg flatC (out_set hok.ol hj d))
  have f3 : e.g.toNat * 8 + 8 ≤ (flatC s.cur).length := by rw [flatC_len a3, hok.cl]; omega
  have f4 := flatC_set a3 (i := e.g.toNat) (by rw [hok.cl]; omega) hdl
  unfold pch18c0
  cases k14 : (e.kind == 14) with
  | true =>
    have hk := beq_iff_eq.1 k14
    obtain ⟨hk0, hk8⟩ := hk14 hk
    have hk8' : e.k < ((8 : Nat) : Int) := hk8
    have f5 : e.k.toNat * 8 + 8 ≤ (flatC s.birth).length := by rw [flatC_len a4, hok.bl]; omega
    have f6 := flatC_set a4 (i := e.k.toNat) (by rw [hok.bl]; omega) hdl
    simp only [↓evP, evB, stB, reduceIte, reduceCtorEq, Nat.reduceEqDiff, Nat.reduceAdd, Nat.reduceMul, Nat.reduceLeDiff, Nat.reduceLT, Nat.reduceSub, Nat.reduceBEq, h0, h3, h4, h5, h6, h7, h8, h17, g3, g4, g14, o3, o4, o7, o14, o8, hg0, hg8', e1, e2, e3, e4, e5, e6, hj0, hjn, f1, f2, f3, f4, f5, f6, hw64, k14, hk0, hk8', Nat.mul_one]
    refine ⟨(by unfold Drw; kernel_rfl), hQ _ (by repeat' (first | assumption | exact within_over.mpr trivial | exact Within.refl _ _ _ | (refine within_ap ?_ rfl rfl) | (refine within_ap0 ?_ rfl))) ⟨by simp only [stB, reduceIte, reduceCtorEq, Nat.reduceEqDiff, Nat.reduceAdd, Nat.reduceMul, Nat.reduceLeDiff, Nat.reduceLT, Nat.reduceSub, Nat.reduceBEq, g3], by simp only [stB, reduceIte, reduceCtorEq, Nat.reduceEqDiff, Nat.reduceAdd, Nat.reduceMul, Nat.reduceLeDiff, Nat.reduceLT, Nat.reduceSub, Nat.reduceBEq, g4], by simp only [stB, reduceIte, reduceCtorEq, Nat.reduceEqDiff, Nat.reduceAdd, Nat.reduceMul, Nat.reduceLeDiff, Nat.reduceLT, Nat.reduceSub, Nat.reduceBEq, g14], by simp only [stB, reduceIte, reduceCtorEq, Nat.reduceEqDiff, Nat.reduceAdd, Nat.reduceMul, Nat.reduceLeDiff, Nat.reduceLT, Nat.reduceSub, Nat.reduceBEq, o3, f4], by simp only [stB, reduceIte, reduceCtorEq, Nat.reduceEqDiff, Nat.reduceAdd, Nat.reduceMul, Nat.reduceLeDiff, Nat.reduceLT, Nat.reduceSub, Nat.reduceBEq, o4, f6, hk], by simp only [stB, reduceIte, reduceCtorEq, Nat.reduceEqDiff, Nat.reduceAdd, Nat.reduceMul, Nat.reduceLeDiff, Nat.reduceLT, Nat.reduceSub, Nat.reduceBEq, o14, f2]⟩ (by simp only [stB, reduceIte, reduceCtorEq, Nat.reduceEqDiff, Nat.reduceAdd, Nat.reduceMul, Nat.reduceLeDiff, Nat.reduceLT, Nat.reduceSub, Nat.reduceBEq, h17])⟩
  | false =>
    simp only [↓evP, evB, stB, reduceIte, reduceCtorEq, Nat.reduceEqDiff, Nat.reduceAdd, Nat.reduceMul, Nat.reduceLeDiff, Nat.reduceLT, Nat.reduceSub, Nat.reduceBEq, h0, h3, h4, h5, h6, h7, h8, h17, g3, g4, g14, o3, o4, o7, o14, o8, hg0, hg8', e1, e2, e3, e4, e5, e6, hj0, hjn, f1, f2, f3, f4, hw64, k14, Nat.mul_one]
    have hk := beq_eq_false_iff_ne.1 k14
    refine ⟨(by unfold Drw; kernel_rfl), hQ _ (by repeat' (first | assumption | exact within_over.mpr trivial | exact Within.refl _ _ _ | (refine within_ap ?_ rfl rfl) | (refine within_ap0 ?_ rfl))) ⟨by simp only [stB, reduceIte, reduceCtorEq, Nat.reduceEqDiff, Nat.reduceAdd, Nat.reduceMul, Nat.reduceLeDiff, Nat.reduceLT, Nat.reduceSub, Nat.reduceBEq, g3], by simp only [stB, reduceIte, reduceCtorEq, Nat.reduceEqDiff, Nat.reduceAdd, Nat.reduceMul, Nat.reduceLeDiff, Nat.reduceLT, Nat.reduceSub, Nat.reduceBEq, g4], by simp only [stB, reduceIte, reduceCtorEq, Nat.reduceEqDiff, Nat.reduceAdd, Nat.reduceMul, Nat.reduceLeDiff, Nat.reduceLT, Nat.reduceSub, Nat.reduceBEq, g14], by simp only [stB, reduceIte, reduceCtorEq, Nat.reduceEqDiff, Nat.reduceAdd, Nat.reduceMul, Nat.reduceLeDiff, Nat.reduceLT, Nat.reduceSub, Nat.reduceBEq, o3, f4], by simp only [stB, reduceIte, reduceCtorEq, Nat.reduceEqDiff, Nat.reduceAdd, Nat.reduceMul, Nat.reduceLeDiff, Nat.reduceLT, Nat.reduceSub, Nat.reduceBEq, o4, hk], by simp only [stB, reduceIte, reduceCtorEq, Nat.reduceEqDiff, Nat.reduceAdd, Nat.reduceMul, Nat.reduceLeDiff, Nat.reduceLT, Nat.reduceSub, Nat.reduceBEq, o14, f2]⟩ (by simp only [stB, reduceIte, reduceCtorEq, Nat.reduceEqDiff, Nat.reduceAdd, Nat.reduceMul, Nat.reduceLeDiff, Nat.reduceLT, Nat.reduceSub, Nat.reduceBEq, h17])⟩

theorem stamps_c1 {l : List Ev} {s : SSt} {e : Ev} {j n : Nat} (hok : SOk s j) (hv : e.valid = true) (hj : j < n) (hn : n ≤ 1000000) {p : Ck × Int} (hc : COk j p.1) (hp : -1 ≤ p.2 ∧ p.2 < j)
    (k : List It) (Q : Exit → St → Prop) {s0 : St}
    (hQ : ∀ st, Within msh18_0 osS s0 st → StEnd ⟨s.cur.set e.g.toNat (finC s.out e p), if e.kind = 14 then s.birth.set e.k.toNat (finC s.out e p) else s.birth, s.out ++ [finC s.out e p]⟩ (j + 1) n st → st.sl 17 = aI j → exS env_stamps k Q .normal st)
    (st : St) (hw : Within msh18_0 osS s0 st) (ha : StAt l s e j n st) (o8 : st.ob 8 = .cells (ckCells p.1)) (h9 : st.sl 9 = aI p.2) :
    pwp env_stamps pch18c1 (exS env_stamps k Q) st := by
  have ha' := ha
  obtain ⟨h0, h3, h4, h5, h6, h7, h8, h17, g3, g4, g14, o3, o4, o7, o14⟩ := ha
  simp only [Ev.row, List.map_cons, List.map_nil] at o7
  obtain ⟨a3, a4, a14⟩ := hok.a8
  have a14' := a14.app (All8.rep (n - j))
  have hl14 : (s.out ++ List.replicate (n - j) ckZ).length = n := by rw [List.length_append, hok.ol, List.length_replicate]; omega
  have hcl := hc.1
  have no : atomE e p.2 = false → finC s.out e p = p.1.set e.g.toNat (p.1.getD e.g.toNat 0 + 1) := fun h => by unfold finC; rw [if_neg (by rw [h]; decide)]
  have go : ∀ st', Within msh18_0 osS s0 st' → StAt l s e j n st' → st'.ob 8 = .cells (ckCells p.1) → atomE e p.2 = false → pwp env_stamps pch18c0 (exS env_stamps k Q) st' := fun st' w' a' o' h => stamps_c0 hok hv hj hn hc (no h) k Q hQ st' w' a' o'
  unfold pch18c1
  by_cases b1 : p.2 ≥ 0
  · have yes : (e.kind == 3) = true ∨ (e.kind == 5) = true → finC s.out e p = (joinC p.1 (s.out.getD p.2.toNat ckZ)).set e.g.toNat ((joinC p.1 (s.out.getD p.2.toNat ckZ)).getD e.g.toNat 0 + 1) := fun h => by
      unfold finC
      rw [if_pos (by unfold atomE; rw [decide_eq_true b1]; rcases h with h | h <;> rw [h] <;> simp)]
    obtain ⟨u, hu⟩ : ∃ u, s.out[p.2.toNat]? = some u := ⟨_, List.getElem?_eq_getElem (by rw [hok.ol]; omega)⟩
    have hud : s.out.getD p.2.toNat ckZ = u := by rw [List.getD_eq_getElem?_getD, hu]; rfl
    have hul := a14 u (List.mem_of_getElem? hu)
    have hcu : COk j (joinC p.1 u) := hc.join (hok.oc u (List.mem_of_getElem? hu))
    have f1 : p.2.toNat * 8 + 8 ≤ (flatC (s.out ++ List.replicate (n - j) ckZ)).length := by rw [flatC_len a14', hl14]; omega
    have f2 := flatC_get a14' (i := p.2.toNat) (c := u) (by rw [List.getElem?_append_left (by rw [hok.ol]; omega)]; exact hu)
    have e5 : 0 + 8 ≤ (ckCells p.1).length := by rw [ckCells_length]; omega
    have e5' : 8 ≤ (ckCells p.1).length := by rw [ckCells_length]; omega
    have e6 : (ckCells p.1).take 8 = ckCells p.1 := List.take_of_length_le (by rw [ckCells_length]; omega)
    have e7 : (ckCells (joinC p.1 u)).length = 8 := by rw [ckCells_length, hcu.1]
    have e8 : wrAt (ckCells p.1) 0 (ckCells (joinC p.1 u)) = ckCells (joinC p.1 u) := wrAt_full (by rw [e7, ckCells_length, hcl])
    have hpn : p.2 < (n : Int) := by omega
    rw [hud] at yes
    have gg : ∀ st', Within msh18_0 osS s0 st' → StAt l s e j n st' → st'.ob 8 = .cells (ckCells (joinC p.1 u)) → (e.kind == 3) = true ∨ (e.kind == 5) = true → pwp env_stamps pch18c0 (exS env_stamps k Q) st' := fun st' w' a' o' h => stamps_c0 hok hv hj hn hcu (yes h) k Q hQ st' w' a' o'
    cases k3 : (e.kind == 3) with
    | true =>
      simp only [↓evP, evB, stB, reduceIte, reduceCtorEq, Nat.reduceEqDiff, Nat.reduceAdd, Nat.reduceMul, Nat.reduceLeDiff, Nat.reduceLT, Nat.reduceSub, Nat.reduceBEq, h0, h3, h4, h5, h6, h7, h8, h17, g3, g4, g14, o3, o4, o7, o14, o8, h9, b1, decide_true, decide_false, k3, e5, e5', e6, f1, f2, hpn, ckCells_dt]
      refine callD_intro [ckPa (joinC p.1 u)] ⟨p.1, u, rfl, ⟨hcl, hul⟩, rfl⟩ ?_
      simp only [↓evP, evB, stB, reduceIte, reduceCtorEq, Nat.reduceEqDiff, Nat.reduceAdd, Nat.reduceMul, Nat.reduceLeDiff, Nat.reduceLT, Nat.reduceSub, Nat.reduceBEq, h0, h3, h4, h5, h6, h7, h8, h17, g3, g4, g14, o3, o4, o7, o14, o8, h9, ckPa, ckRow_cells, e5', e7, e8]
      refine ⟨(by unfold Drw; kernel_rfl), ?_⟩
      exact gg _ (by repeat' (first | assumption | exact within_over.mpr trivial | exact Within.refl _ _ _ | (refine within_ap ?_ rfl rfl) | (refine within_ap0 ?_ rfl))) ⟨by simp only [stB, reduceIte, reduceCtorEq, Nat.reduceEqDiff, Nat.reduceAdd, Nat.reduceMul, Nat.reduceLeDiff, Nat.reduceLT, Nat.reduceSub, Nat.reduceBEq, h0], by simp only [stB, reduceIte, reduceCtorEq, Nat.reduceEqDiff, Nat.reduceAdd, Nat.reduceMul, Nat.reduceLeDiff, Nat.reduceLT, Nat.reduceSub, Nat.reduceBEq, h3], by simp only [stB, reduceIte, reduceCtorEq, Nat.reduceEqDiff, Nat.reduceAdd, Nat.reduceMul, Nat.reduceLeDiff, Nat.reduceLT, Nat.reduceSub, Nat.reduceBEq, h4], by simp only [stB, reduceIte, reduceCtorEq, Nat.reduceEqDiff, Nat.reduceAdd, Nat.reduceMul, Nat.reduceLeDiff, Nat.reduceLT, Nat.reduceSub, Nat.reduceBEq, h5], by simp only [stB, reduceIte, reduceCtorEq, Nat.reduceEqDiff, Nat.reduceAdd, Nat.reduceMul, Nat.reduceLeDiff, Nat.reduceLT, Nat.reduceSub, Nat.reduceBEq, h6], by simp only [stB, reduceIte, reduceCtorEq, Nat.reduceEqDiff, Nat.reduceAdd, Nat.reduceMul, Nat.reduceLeDiff, Nat.reduceLT, Nat.reduceSub, Nat.reduceBEq, h7], by simp only [stB, reduceIte, reduceCtorEq, Nat.reduceEqDiff, Nat.reduceAdd, Nat.reduceMul, Nat.reduceLeDiff, Nat.reduceLT, Nat.reduceSub, Nat.reduceBEq, h8], by simp only [stB, reduceIte, reduceCtorEq, Nat.reduceEqDiff, Nat.reduceAdd, Nat.reduceMul, Nat.reduceLeDiff, Nat.reduceLT, Nat.reduceSub, Nat.reduceBEq, h17], by simp only [stB, reduceIte, reduceCtorEq, Nat.reduceEqDiff, Nat.reduceAdd, Nat.reduceMul, Nat.reduceLeDiff, Nat.reduceLT, Nat.reduceSub, Nat.reduceBEq, g3], by simp only [stB, reduceIte, reduceCtorEq, Nat.reduceEqDiff, Nat.reduceAdd, Nat.reduceMul, Nat.reduceLeDiff, Nat.reduceLT, Nat.reduceSub, Nat.reduceBEq, g4], by simp only [stB, reduceIte, reduceCtorEq, Nat.reduceEqDiff, Nat.reduceAdd, Nat.reduceMul, Nat.reduceLeDiff, Nat.reduceLT, Nat.reduceSub, Nat.reduceBEq, g14], by simp only [stB, reduceIte, reduceCtorEq, Nat.reduceEqDiff, Nat.reduceAdd, Nat.reduceMul, Nat.reduceLeDiff, Nat.reduceLT, Nat.reduceSub, Nat.reduceBEq, o3], by simp only [stB, reduceIte, reduceCtorEq, Nat.reduceEqDiff, Nat.reduceAdd, Nat.reduceMul, Nat.reduceLeDiff, Nat.reduceLT, Nat.reduceSub, Nat.reduceBEq, o4], by simp only [stB, reduceIte, reduceCtorEq, Nat.reduceEqDiff, Nat.reduceAdd, Nat.reduceMul, Nat.reduceLeDiff, Nat.reduceLT, Nat.reduceSub, Nat.reduceBEq, o7, Ev.row], by simp only [stB, reduceIte, reduceCtorEq, Nat.reduceEqDiff, Nat.reduceAdd, Nat.reduceMul, Nat.reduceLeDiff, Nat.reduceLT, Nat.reduceSub, Nat.reduceBEq, o14]⟩ (by simp only [stB, reduceIte, reduceCtorEq, Nat.reduceEqDiff, Nat.reduceAdd, Nat.reduceMul, Nat.reduceLeDiff, Nat.reduceLT, Nat.reduceSub, Nat.reduceBEq, o8, e8]) (.inl k3)
    | false =>
    cases k5 : (e.kind == 5) with
    | true =>
      simp only [↓evP, evB, stB, reduceIte, reduceCtorEq, Nat.reduceEqDiff, Nat.reduceAdd, Nat.reduceMul, Nat.reduceLeDiff, Nat.reduceLT, Nat.reduceSub, Nat.reduceBEq, h0, h3, h4, h5, h6, h7, h8, h17, g3, g4, g14, o3, o4, o7, o14, o8, h9, b1, decide_true, decide_false, k3, k5, e5, e5', e6, f1, f2, hpn, ckCells_dt]
      refine callD_intro [ckPa (joinC p.1 u)] ⟨p.1, u, rfl, ⟨hcl, hul⟩, rfl⟩ ?_
      simp only [↓evP, evB, stB, reduceIte, reduceCtorEq, Nat.reduceEqDiff, Nat.reduceAdd, Nat.reduceMul, Nat.reduceLeDiff, Nat.reduceLT, Nat.reduceSub, Nat.reduceBEq, h0, h3, h4, h5, h6, h7, h8, h17, g3, g4, g14, o3, o4, o7, o14, o8, h9, ckPa, ckRow_cells, e5', e7, e8]
      refine ⟨(by unfold Drw; kernel_rfl), ?_⟩
      exact gg _ (by repeat' (first | assumption | exact within_over.mpr trivial | exact Within.refl _ _ _ | (refine within_ap ?_ rfl rfl) | (refine within_ap0 ?_ rfl))) ⟨by simp only [stB, reduceIte, reduceCtorEq, Nat.reduceEqDiff, Nat.reduceAdd, Nat.reduceMul, Nat.reduceLeDiff, Nat.reduceLT, Nat.reduceSub, Nat.reduceBEq, h0], by simp only [stB, reduceIte, reduceCtorEq, Nat.reduceEqDiff, Nat.reduceAdd, Nat.reduceMul, Nat.reduceLeDiff, Nat.reduceLT, Nat.reduceSub, Nat.reduceBEq, h3], by simp only [stB, reduceIte, reduceCtorEq, Nat.reduceEqDiff, Nat.reduceAdd, Nat.reduceMul, Nat.reduceLeDiff, Nat.reduceLT, Nat.reduceSub, Nat.reduceBEq, h4], by simp only [stB, reduceIte, reduceCtorEq, Nat.reduceEqDiff, Nat.reduceAdd, Nat.reduceMul, Nat.reduceLeDiff, Nat.reduceLT, Nat.reduceSub, Nat.reduceBEq, h5], by simp only [stB, reduceIte, reduceCtorEq, Nat.reduceEqDiff, Nat.reduceAdd, Nat.reduceMul, Nat.reduceLeDiff, Nat.reduceLT, Nat.reduceSub, Nat.reduceBEq, h6], by simp only [stB, reduceIte, reduceCtorEq, Nat.reduceEqDiff, Nat.reduceAdd, Nat.reduceMul, Nat.reduceLeDiff, Nat.reduceLT, Nat.reduceSub, Nat.reduceBEq, h7], by simp only [stB, reduceIte, reduceCtorEq, Nat.reduceEqDiff, Nat.reduceAdd, Nat.reduceMul, Nat.reduceLeDiff, Nat.reduceLT, Nat.reduceSub, Nat.reduceBEq, h8], by simp only [stB, reduceIte, reduceCtorEq, Nat.reduceEqDiff, Nat.reduceAdd, Nat.reduceMul, Nat.reduceLeDiff, Nat.reduceLT, Nat.reduceSub, Nat.reduceBEq, h17], by simp only [stB, reduceIte, reduceCtorEq, Nat.reduceEqDiff, Nat.reduceAdd, Nat.reduceMul, Nat.reduceLeDiff, Nat.reduceLT, Nat.reduceSub, Nat.reduceBEq, g3], by simp only [stB, reduceIte, reduceCtorEq, Nat.reduceEqDiff, Nat.reduceAdd, Nat.reduceMul, Nat.reduceLeDiff, Nat.reduceLT, Nat.reduceSub, Nat.reduceBEq, g4], by simp only [stB, reduceIte, reduceCtorEq, Nat.reduceEqDiff, Nat.reduceAdd, Nat.reduceMul, Nat.reduceLeDiff, Nat.reduceLT, Nat.reduceSub, Nat.reduceBEq, g14], by simp only [stB, reduceIte, reduceCtorEq, Nat.reduceEqDiff, Nat.reduceAdd, Nat.reduceMul, Nat.reduceLeDiff, Nat.reduceLT, Nat.reduceSub, Nat.reduceBEq, o3], by simp only [stB, reduceIte, reduceCtorEq, Nat.reduceEqDiff, Nat.reduceAdd, Nat.reduceMul, Nat.reduceLeDiff, Nat.reduceLT, Nat.reduceSub, Nat.reduceBEq, o4], by simp only [stB, reduceIte, reduceCtorEq, Nat.reduceEqDiff, Nat.reduceAdd, Nat.reduceMul, Nat.reduceLeDiff, Nat.reduceLT, Nat.reduceSub, Nat.reduceBEq, o7, Ev.row], by simp only [stB, reduceIte, reduceCtorEq, Nat.reduceEqDiff, Nat.reduceAdd, Nat.reduceMul, Nat.reduceLeDiff, Nat.reduceLT, Nat.reduceSub, Nat.reduceBEq, o14]⟩ (by simp only [stB, reduceIte, reduceCtorEq, Nat.reduceEqDiff, Nat.reduceAdd, Nat.reduceMul, Nat.reduceLeDiff, Nat.reduceLT, Nat.reduceSub, Nat.reduceBEq, o8, e8]) (.inr k5)
    | false =>
      simp only [↓evP, evB, stB, reduceIte, reduceCtorEq, Nat.reduceEqDiff, Nat.reduceAdd, Nat.reduceMul, Nat.reduceLeDiff, Nat.reduceLT, Nat.reduceSub, Nat.reduceBEq, h0, h3, h4, h5, h6, h7, h8, h17, g3, g4, g14, o3, o4, o7, o14, o8, h9, b1, decide_true, decide_false, k3, k5]
      exact go _ (by repeat' (first | assumption | exact within_over.mpr trivial | exact Within.refl _ _ _ | (refine within_ap ?_ rfl rfl) | (refine within_ap0 ?_ rfl))) ⟨by simp only [stB, reduceIte, reduceCtorEq, Nat.reduceEqDiff, Nat.reduceAdd, Nat.reduceMul, Nat.reduceLeDiff, Nat.reduceLT, Nat.reduceSub, Nat.reduceBEq, h0], by simp only [stB, reduceIte, reduceCtorEq, Nat.reduceEqDiff, Nat.reduceAdd, Nat.reduceMul, Nat.reduceLeDiff, Nat.reduceLT, Nat.reduceSub, Nat.reduceBEq, h3], by simp only [stB, reduceIte, reduceCtorEq, Nat.reduceEqDiff, Nat.reduceAdd, Nat.reduceMul, Nat.reduceLeDiff, Nat.reduceLT, Nat.reduceSub, Nat.reduceBEq, h4], by simp only [stB, reduceIte, reduceCtorEq, Nat.reduceEqDiff, Nat.reduceAdd, Nat.reduceMul, Nat.reduceLeDiff, Nat.reduceLT, Nat.reduceSub, Nat.reduceBEq, h5], by simp only [stB, reduceIte, reduceCtorEq, Nat.reduceEqDiff, Nat.reduceAdd, Nat.reduceMul, Nat.reduceLeDiff, Nat.reduceLT, Nat.reduceSub, Nat.reduceBEq, h6], by simp only [stB, reduceIte, reduceCtorEq, Nat.reduceEqDiff, Nat.reduceAdd, Nat.reduceMul, Nat.reduceLeDiff, Nat.reduceLT, Nat.reduceSub, Nat.reduceBEq, h7], by simp only [stB, reduceIte, reduceCtorEq, Nat.reduceEqDiff, Nat.reduceAdd, Nat.reduceMul, Nat.reduceLeDiff, Nat.reduceLT, Nat.reduceSub, Nat.reduceBEq, h8], by simp only [stB, reduceIte, reduceCtorEq, Nat.reduceEqDiff, Nat.reduceAdd, Nat.reduceMul, Nat.reduceLeDiff, Nat.reduceLT, Nat.reduceSub, Nat.reduceBEq, h17], by simp only [stB, reduceIte, reduceCtorEq, Nat.reduceEqDiff, Nat.reduceAdd, Nat.reduceMul, Nat.reduceLeDiff, Nat.reduceLT, Nat.reduceSub, Nat.reduceBEq, g3], by simp only [stB, reduceIte, reduceCtorEq, Nat.reduceEqDiff, Nat.reduceAdd, Nat.reduceMul, Nat.reduceLeDiff, Nat.reduceLT, Nat.reduceSub, Nat.reduceBEq, g4], by simp only [stB, reduceIte, reduceCtorEq, Nat.reduceEqDiff, Nat.reduceAdd, Nat.reduceMul, Nat.reduceLeDiff, Nat.reduceLT, Nat.reduceSub, Nat.reduceBEq, g14], by simp only [stB, reduceIte, reduceCtorEq, Nat.reduceEqDiff, Nat.reduceAdd, Nat.reduceMul, Nat.reduceLeDiff, Nat.reduceLT, Nat.reduceSub, Nat.reduceBEq, o3], by simp only [stB, reduceIte, reduceCtorEq, Nat.reduceEqDiff, Nat.reduceAdd, Nat.reduceMul, Nat.reduceLeDiff, Nat.reduceLT, Nat.reduceSub, Nat.reduceBEq, o4], by simp only [stB, reduceIte, reduceCtorEq, Nat.reduceEqDiff, Nat.reduceAdd, Nat.reduceMul, Nat.reduceLeDiff, Nat.reduceLT, Nat.reduceSub, Nat.reduceBEq, o7, Ev.row], by simp only [stB, reduceIte, reduceCtorEq, Nat.reduceEqDiff, Nat.reduceAdd, Nat.reduceMul, Nat.reduceLeDiff, Nat.reduceLT, Nat.reduceSub, Nat.reduceBEq, o14]⟩ (by simp only [stB, reduceIte, reduceCtorEq, Nat.reduceEqDiff, Nat.reduceAdd, Nat.reduceMul, Nat.reduceLeDiff, Nat.reduceLT, Nat.reduceSub, Nat.reduceBEq, o8]) (by unfold atomE; rw [k3, k5]; simp)
  · simp only [↓evP, evB, stB, reduceIte, reduceCtorEq, Nat.reduceEqDiff, Nat.reduceAdd, Nat.reduceMul, Nat.reduceLeDiff, Nat.reduceLT, Nat.reduceSub, Nat.reduceBEq, h0, h3, h4, h5, h6, h7, h8, h17, g3, g4, g14, o3, o4, o7, o14, o8, h9, b1, decide_true, decide_false]
    exact go _ (by repeat' (first | assumption | exact within_over.mpr trivial | exact Within.refl _ _ _ | (refine within_ap ?_ rfl rfl) | (refine within_ap0 ?_ rfl))) ⟨by simp only [stB, reduceIte, reduceCtorEq, Nat.reduceEqDiff, Nat.reduceAdd, Nat.reduceMul, Nat.reduceLeDiff, Nat.reduceLT, Nat.reduceSub, Nat.reduceBEq, h0], by simp only [stB, reduceIte, reduceCtorEq, Nat.reduceEqDiff, Nat.reduceAdd, Nat.reduceMul, Nat.reduceLeDiff, Nat.reduceLT, Nat.reduceSub, Nat.reduceBEq, h3], by simp only [stB, reduceIte, reduceCtorEq, Nat.reduceEqDiff, Nat.reduceAdd, Nat.reduceMul, Nat.reduceLeDiff, Nat.reduceLT, Nat.reduceSub, Nat.reduceBEq, h4], by simp only [stB, reduceIte, reduceCtorEq, Nat.reduceEqDiff, Nat.reduceAdd, Nat.reduceMul, Nat.reduceLeDiff, Nat.reduceLT, Nat.reduceSub, Nat.reduceBEq, h5], by simp only [stB, reduceIte, reduceCtorEq, Nat.reduceEqDiff, Nat.reduceAdd, Nat.reduceMul, Nat.reduceLeDiff, Nat.reduceLT, Nat.reduceSub, Nat.reduceBEq, h6], by simp only [stB, reduceIte, reduceCtorEq, Nat.reduceEqDiff, Nat.reduceAdd, Nat.reduceMul, Nat.reduceLeDiff, Nat.reduceLT, Nat.reduceSub, Nat.reduceBEq, h7], by simp only [stB, reduceIte, reduceCtorEq, Nat.reduceEqDiff, Nat.reduceAdd, Nat.reduceMul, Nat.reduceLeDiff, Nat.reduceLT, Nat.reduceSub, Nat.reduceBEq, h8], by simp only [stB, reduceIte, reduceCtorEq, Nat.reduceEqDiff, Nat.reduceAdd, Nat.reduceMul, Nat.reduceLeDiff, Nat.reduceLT, Nat.reduceSub, Nat.reduceBEq, h17], by simp only [stB, reduceIte, reduceCtorEq, Nat.reduceEqDiff, Nat.reduceAdd, Nat.reduceMul, Nat.reduceLeDiff, Nat.reduceLT, Nat.reduceSub, Nat.reduceBEq, g3], by simp only [stB, reduceIte, reduceCtorEq, Nat.reduceEqDiff, Nat.reduceAdd, Nat.reduceMul, Nat.reduceLeDiff, Nat.reduceLT, Nat.reduceSub, Nat.reduceBEq, g4], by simp only [stB, reduceIte, reduceCtorEq, Nat.reduceEqDiff, Nat.reduceAdd, Nat.reduceMul, Nat.reduceLeDiff, Nat.reduceLT, Nat.reduceSub, Nat.reduceBEq, g14], by simp only [stB, reduceIte, reduceCtorEq, Nat.reduceEqDiff, Nat.reduceAdd, Nat.reduceMul, Nat.reduceLeDiff, Nat.reduceLT, Nat.reduceSub, Nat.reduceBEq, o3], by simp only [stB, reduceIte, reduceCtorEq, Nat.reduceEqDiff, Nat.reduceAdd, Nat.reduceMul, Nat.reduceLeDiff, Nat.reduceLT, Nat.reduceSub, Nat.reduceBEq, o4], by simp only [stB, reduceIte, reduceCtorEq, Nat.reduceEqDiff, Nat.reduceAdd, Nat.reduceMul, Nat.reduceLeDiff, Nat.reduceLT, Nat.reduceSub, Nat.reduceBEq, o7, Ev.row], by simp only [stB, reduceIte, reduceCtorEq, Nat.reduceEqDiff, Nat.reduceAdd, Nat.reduceMul, Nat.reduceLeDiff, Nat.reduceLT, Nat.reduceSub, Nat.reduceBEq, o14]⟩ (by simp only [stB, reduceIte, reduceCtorEq, Nat.reduceEqDiff, Nat.reduceAdd, Nat.reduceMul, Nat.reduceLeDiff, Nat.reduceLT, Nat.reduceSub, Nat.reduceBEq, o8]) (by unfold atomE; rw [decide_eq_false (by omega)]; rfl)

theorem atom_iff (f e : Ev) : atomB f e = (f.obj == e.obj && (f.off == e.off && (f.kind == 4 || f.kind == 5))) := rfl
theorem stamps_c3 {l : List Ev} {s : SSt} {e : Ev} {j : Nat} (hok : SOk s j) (hv : e.valid = true) (hvl : ∀ f, f ∈ l → f.valid = true) (hj : j < l.length) (hn : l.length ≤ 1000000)
    (k : List It) (Q : Exit → St → Prop) {s0 : St}
    (hQ : ∀ st, Within msh18_0 osS s0 st → StAt l s e j l.length st → st.ob 8 = .cells (ckCells (inTo l s.out e (startC s e, -1) j).1) → st.sl 9 = aI (inTo l s.out e (startC s e, -1) j).2 → exS env_stamps k Q .normal st)
    (st : St) (hw : Within msh18_0 osS s0 st) (ha : StAt l s e j l.length st) (o8 : st.ob 8 = .cells (ckCells (startC s e))) (h9 : st.sl 9 = aI (-1)) :
    pwp env_stamps pch18c3 (exS env_stamps k Q) st := by
  have ha' := ha
  obtain ⟨h0, h3, h4, h5, h6, h7, h8, h17, g3, g4, g14, o3, o4, o7, o14⟩ := ha
  simp only [Ev.row, List.map_cons, List.map_nil] at o7
  obtain ⟨a3, a4, a14⟩ := hok.a8
  have a14' := a14.app (All8.rep (l.length - j))
  have hl14 : (s.out ++ List.replicate (l.length - j) ckZ).length = l.length := by rw [List.length_append, hok.ol, List.length_replicate]; omega
  have hj0 : (0 : Int) ≤ (j : Int) := by omega
  have hjn : (j : Int) ≤ (l.length : Int) := by omega
  have hall := rows_len (f := Ev.row) (n := 9) (fun _ => rfl) l
  have htl : (l.take j).length = j := by rw [List.length_take]; omega
  have htk : (l.map Ev.row).take j = (l.take j).map Ev.row := (List.map_take ..).symm
  obtain ⟨_, _, hen, _⟩ := Ev.valid_rng hv
  unfold pch18c3
  simp only [↓evP, evB, stB, reduceIte, reduceCtorEq, Nat.reduceEqDiff, Nat.reduceAdd, Nat.reduceMul, Nat.reduceLeDiff, Nat.reduceLT, Nat.reduceSub, Nat.reduceBEq, h0, h3, h4, h5, h6, h7, h8, h17, g3, g4, g14, o3, o4, o7, o14, evsD, hj0, hjn, hall, htk, htl, List.drop_zero, Int.le_refl, Int.toNat_zero]
  refine pwp_loopW msh18_1 [11, 8] (fun m st' => ∃ i : Nat, m = j - i ∧ i ≤ j ∧ st'.sl 37 = aI i ∧ st'.gen 8 = st.gen 8 ∧ st'.ob 8 = .cells (ckCells (inTo l s.out e (startC s e, -1) i).1) ∧ st'.sl 9 = aI (inTo l s.out e (startC s e, -1) i).2) j ?_ ?_
  · exact ⟨0, rfl, Nat.zero_le _, by simp only [stB, reduceIte, reduceCtorEq, Nat.reduceEqDiff, Nat.reduceAdd, Nat.reduceMul, Nat.reduceLeDiff, Nat.reduceLT, Nat.reduceSub, Nat.reduceBEq]; rfl, by simp only [stB, reduceIte, reduceCtorEq, Nat.reduceEqDiff, Nat.reduceAdd, Nat.reduceMul, Nat.reduceLeDiff, Nat.reduceLT, Nat.reduceSub, Nat.reduceBEq], by simp only [stB, reduceIte, reduceCtorEq, Nat.reduceEqDiff, Nat.reduceAdd, Nat.reduceMul, Nat.reduceLeDiff, Nat.reduceLT, Nat.reduceSub, Nat.reduceBEq, o8]; rfl, by simp only [stB, reduceIte, reduceCtorEq, Nat.reduceEqDiff, Nat.reduceAdd, Nat.reduceMul, Nat.reduceLeDiff, Nat.reduceLT, Nat.reduceSub, Nat.reduceBEq, h9]; rfl⟩
  · rintro m z ⟨i, rfl, hi, h37, g8, o8', h9'⟩
    simp only [stB, reduceIte, reduceCtorEq, Nat.reduceEqDiff, Nat.reduceAdd, Nat.reduceMul, Nat.reduceLeDiff, Nat.reduceLT, Nat.reduceSub, Nat.reduceBEq] at h37 g8 o8' h9'
    have hinv := hok.inTo l e i
    rcases Nat.lt_or_ge i j with hlt | hge
    · obtain ⟨f, hf⟩ : ∃ f, l[i]? = some f := ⟨_, List.getElem?_eq_getElem (by omega)⟩
      have hft : (l.take j)[i]? = some f := by rw [List.getElem?_take, if_pos hlt, hf]
      have hfd : l.getD i default = f := by rw [List.getD_eq_getElem?_getD, hf]; rfl
      have hstep : inTo l s.out e (startC s e, -1) (i + 1) = inStep s.out e f i (inTo l s.out e (startC s e, -1) i) := by rw [← hfd]; rfl
      obtain ⟨_, hfk, _, _⟩ := Ev.valid_rng (hvl f (List.mem_of_getElem? hf))
      obtain ⟨u, hu⟩ : ∃ u, s.out[i]? = some u := ⟨_, List.getElem?_eq_getElem (by rw [hok.ol]; omega)⟩
      have hud : s.out.getD i ckZ = u := by rw [List.getD_eq_getElem?_getD, hu]; rfl
      have hul := a14 u (List.mem_of_getElem? hu)
      generalize hp : inTo l s.out e (startC s e, -1) i = p at hinv hstep o8' h9'
      obtain ⟨hc, _, _⟩ := hinv
      have hcl := hc.1
      have hcu := (hc.join (hok.oc u (List.mem_of_getElem? hu))).1
      have hlt' : (i : Int) < (j : Int) := by omega
      have hi0 : (0 : Int) ≤ (i : Int) := by omega
      have hin : (i : Int) < (l.length : Int) := by omega
      have f1 : i * 8 + 8 ≤ (flatC (s.out ++ List.replicate (l.length - j) ckZ)).length := by rw [flatC_len a14', hl14]; omega
      have f2 := flatC_get a14' (i := i) (c := u) (by rw [List.getElem?_append_left (by rw [hok.ol]; omega)]; exact hu)
      have e5 : 0 + 8 ≤ (ckCells p.1).length := by rw [ckCells_length]; omega
      have e5' : 8 ≤ (ckCells p.1).length := by rw [ckCells_length]; omega
      have e6 : (ckCells p.1).take 8 = ckCells p.1 := List.take_of_length_le (by rw [ckCells_length]; omega)
      have e7 : (ckCells (joinC p.1 u)).length = 8 := by rw [ckCells_length, hcu]
      have e8 : wrAt (ckCells p.1) 0 (ckCells (joinC p.1 u)) = ckCells (joinC p.1 u) := wrAt_full (by rw [e7, ckCells_length, hcl])
      simp only [↓evP, evB, stB, reduceIte, reduceCtorEq, Nat.reduceEqDiff, Nat.reduceAdd, Nat.reduceMul, Nat.reduceLeDiff, Nat.reduceLT, Nat.reduceSub, Nat.reduceBEq, h0, h3, h4, h5, h6, h7, h8, h17, g3, g4, g14, o3, o4, o7, o14, h37, g8, o8', h9', hlt', hft]
      unfold pch18c2
      simp only [↓evP, evB, stB, reduceIte, reduceCtorEq, Nat.reduceEqDiff, Nat.reduceAdd, Nat.reduceMul, Nat.reduceLeDiff, Nat.reduceLT, Nat.reduceSub, Nat.reduceBEq, h0, h3, h4, h5, h6, h7, h8, h17, g3, g4, g14, o3, o4, o7, o14, h37, g8, o8', h9', hlt', hi0, hft, List.getElem?_map, Ev.row]
      refine callOps_intro [pB (syncB f e)] ⟨f, e, rfl, ⟨hfk.1, hfk.2, hen.1, hen.2⟩, rfl⟩ ?_
      have hT : ∀ b, (f.obj == e.obj) = b → (b = false → atomB f e = false) := fun b h hb => by unfold atomB; rw [h, hb]; rfl
      have hT2 : (f.obj == e.obj) = true → (f.off == e.off) = false → atomB f e = false := fun h h' => by unfold atomB; rw [h, h']; rfl
      have hT3 : (f.obj == e.obj) = true → (f.off == e.off) = true → (f.kind == 4) = true → atomB f e = true := fun h h' h'' => by unfold atomB; rw [h, h', h'']; rfl
      have hT4 : (f.obj == e.obj) = true → (f.off == e.off) = true → (f.kind == 4) = false → (f.kind == 5) = true → atomB f e = true := fun h h' h'' h3 => by unfold atomB; rw [h, h', h'', h3]; rfl
      have hT5 : (f.obj == e.obj) = true → (f.off == e.off) = true → (f.kind == 4) = false → (f.kind == 5) = false → atomB f e = false := fun h h' h'' h3 => by unfold atomB; rw [h, h', h'', h3]; rfl
      cases hs : syncB f e with
      | true =>
        simp only [↓evP, evB, stB, reduceIte, reduceCtorEq, Nat.reduceEqDiff, Nat.reduceAdd, Nat.reduceMul, Nat.reduceLeDiff, Nat.reduceLT, Nat.reduceSub, Nat.reduceBEq, h0, h3, h4, h5, h6, h7, h8, h17, g3, g4, g14, o3, o4, o7, o14, h37, g8, o8', h9', hs, e5, e5', e6, f1, f2, hi0, hin, ckCells_dt]
        refine callD_intro [ckPa (joinC p.1 u)] ⟨p.1, u, rfl, ⟨hcl, hul⟩, rfl⟩ ?_
        simp only [↓evP, evB, stB, reduceIte, reduceCtorEq, Nat.reduceEqDiff, Nat.reduceAdd, Nat.reduceMul, Nat.reduceLeDiff, Nat.reduceLT, Nat.reduceSub, Nat.reduceBEq, h0, h3, h4, h5, h6, h7, h8, h17, g3, g4, g14, o3, o4, o7, o14, h37, g8, o8', h9', ckPa, ckRow_cells, e5', e7, e8, Ev.row]
        refine ⟨(by unfold Drw; kernel_rfl), ?_⟩
        repeat' (first | apply And.intro | intro)
        all_goals (first
          | (have hb : atomB f e = true := (by first | exact hT3 ‹_› ‹_› ‹_› | exact hT4 ‹_› ‹_› ‹_› ‹_›)
             exact ⟨_, by omega, (by repeat' (first | assumption | exact within_over.mpr trivial | exact Within.refl _ _ _ | (refine within_ap ?_ rfl rfl) | (refine within_ap0 ?_ rfl))), i + 1, rfl, by omega, by simp only [stB, reduceIte, reduceCtorEq, Nat.reduceEqDiff, Nat.reduceAdd, Nat.reduceMul, Nat.reduceLeDiff, Nat.reduceLT, Nat.reduceSub, Nat.reduceBEq, h37]; rw [wrN (by omega)], by simp only [stB, reduceIte, reduceCtorEq, Nat.reduceEqDiff, Nat.reduceAdd, Nat.reduceMul, Nat.reduceLeDiff, Nat.reduceLT, Nat.reduceSub, Nat.reduceBEq, g8], by simp only [stB, reduceIte, reduceCtorEq, Nat.reduceEqDiff, Nat.reduceAdd, Nat.reduceMul, Nat.reduceLeDiff, Nat.reduceLT, Nat.reduceSub, Nat.reduceBEq, o8', hstep, inStep, hs, hud, e8], by simp only [stB, reduceIte, reduceCtorEq, Nat.reduceEqDiff, Nat.reduceAdd, Nat.reduceMul, Nat.reduceLeDiff, Nat.reduceLT, Nat.reduceSub, Nat.reduceBEq, h9', hstep, inStep, hb]⟩)
          | (have hb : atomB f e = false := (by first | exact hT _ ‹_› rfl | exact hT2 ‹_› ‹_› | exact hT5 ‹_› ‹_› ‹_› ‹_›)
             exact ⟨_, by omega, (by repeat' (first | assumption | exact within_over.mpr trivial | exact Within.refl _ _ _ | (refine within_ap ?_ rfl rfl) | (refine within_ap0 ?_ rfl))), i + 1, rfl, by omega, by simp only [stB, reduceIte, reduceCtorEq, Nat.reduceEqDiff, Nat.reduceAdd, Nat.reduceMul, Nat.reduceLeDiff, Nat.reduceLT, Nat.reduceSub, Nat.reduceBEq, h37]; rw [wrN (by omega)], by simp only [stB, reduceIte, reduceCtorEq, Nat.reduceEqDiff, Nat.reduceAdd, Nat.reduceMul, Nat.reduceLeDiff, Nat.reduceLT, Nat.reduceSub, Nat.reduceBEq, g8], by simp only [stB, reduceIte, reduceCtorEq, Nat.reduceEqDiff, Nat.reduceAdd, Nat.reduceMul, Nat.reduceLeDiff, Nat.reduceLT, Nat.reduceSub, Nat.reduceBEq, o8', hstep, inStep, hs, hud, e8], by simp only [stB, reduceIte, reduceCtorEq, Nat.reduceEqDiff, Nat.reduceAdd, Nat.reduceMul, Nat.reduceLeDiff, Nat.reduceLT, Nat.reduceSub, Nat.reduceBEq, h9', hstep, inStep, hb, Bool.false_eq_true]⟩))
      | false =>
        simp only [↓evP, evB, stB, reduceIte, reduceCtorEq, Nat.reduceEqDiff, Nat.reduceAdd, Nat.reduceMul, Nat.reduceLeDiff, Nat.reduceLT, Nat.reduceSub, Nat.reduceBEq, h0, h3, h4, h5, h6, h7, h8, h17, g3, g4, g14, o3, o4, o7, o14, h37, g8, o8', h9', hs]
        repeat' (first | apply And.intro | intro)
        all_goals (first
          | (have hb : atomB f e = true := (by first | exact hT3 ‹_› ‹_› ‹_› | exact hT4 ‹_› ‹_› ‹_› ‹_›)
             exact ⟨_, by omega, (by repeat' (first | assumption | exact within_over.mpr trivial | exact Within.refl _ _ _ | (refine within_ap ?_ rfl rfl) | (refine within_ap0 ?_ rfl))), i + 1, rfl, by omega, by simp only [stB, reduceIte, reduceCtorEq, Nat.reduceEqDiff, Nat.reduceAdd, Nat.reduceMul, Nat.reduceLeDiff, Nat.reduceLT, Nat.reduceSub, Nat.reduceBEq, h37]; rw [wrN (by omega)], by simp only [stB, reduceIte, reduceCtorEq, Nat.reduceEqDiff, Nat.reduceAdd, Nat.reduceMul, Nat.reduceLeDiff, Nat.reduceLT, Nat.reduceSub, Nat.reduceBEq, g8], by simp only [stB, reduceIte, reduceCtorEq, Nat.reduceEqDiff, Nat.reduceAdd, Nat.reduceMul, Nat.reduceLeDiff, Nat.reduceLT, Nat.reduceSub, Nat.reduceBEq, o8', hstep, inStep, hs, Bool.false_eq_true], by simp only [stB, reduceIte, reduceCtorEq, Nat.reduceEqDiff, Nat.reduceAdd, Nat.reduceMul, Nat.reduceLeDiff, Nat.reduceLT, Nat.reduceSub, Nat.reduceBEq, h9', hstep, inStep, hb]⟩)
          | (have hb : atomB f e = false := (by first | exact hT _ ‹_› rfl | exact hT2 ‹_› ‹_› | exact hT5 ‹_› ‹_› ‹_› ‹_›)
             exact ⟨_, by omega, (by repeat' (first | assumption | exact within_over.mpr trivial | exact Within.refl _ _ _ | (refine within_ap ?_ rfl rfl) | (refine within_ap0 ?_ rfl))), i + 1, rfl, by omega, by simp only [stB, reduceIte, reduceCtorEq, Nat.reduceEqDiff, Nat.reduceAdd, Nat.reduceMul, Nat.reduceLeDiff, Nat.reduceLT, Nat.reduceSub, Nat.reduceBEq, h37]; rw [wrN (by omega)], by simp only [stB, reduceIte, reduceCtorEq, Nat.reduceEqDiff, Nat.reduceAdd, Nat.reduceMul, Nat.reduceLeDiff, Nat.reduceLT, Nat.reduceSub, Nat.reduceBEq, g8], by simp only [stB, reduceIte, reduceCtorEq, Nat.reduceEqDiff, Nat.reduceAdd, Nat.reduceMul, Nat.reduceLeDiff, Nat.reduceLT, Nat.reduceSub, Nat.reduceBEq, o8', hstep, inStep, hs, Bool.false_eq_true], by simp only [stB, reduceIte, reduceCtorEq, Nat.reduceEqDiff, Nat.reduceAdd, Nat.reduceMul, Nat.reduceLeDiff, Nat.reduceLT, Nat.reduceSub, Nat.reduceBEq, h9', hstep, inStep, hb, Bool.false_eq_true]⟩))
    · have hij : i = j := by omega
      subst hij
      have hlt' : ¬ (i : Int) < (i : Int) := by omega
      simp only [↓evP, evB, stB, reduceIte, reduceCtorEq, Nat.reduceEqDiff, Nat.reduceAdd, Nat.reduceMul, Nat.reduceLeDiff, Nat.reduceLT, Nat.reduceSub, Nat.reduceBEq, h0, h3, h4, h5, h6, h7, h8, h17, g3, g4, g14, o3, o4, o7, o14, h37, g8, o8', h9', hlt']
      exact hQ _ (by repeat' (first | assumption | exact within_over.mpr trivial | (refine within_ap ?_ rfl rfl) | (refine within_ap0 ?_ rfl) | refine within_in ?_ (by decide) (by decide))) ⟨by simp only [stB, reduceIte, reduceCtorEq, Nat.reduceEqDiff, Nat.reduceAdd, Nat.reduceMul, Nat.reduceLeDiff, Nat.reduceLT, Nat.reduceSub, Nat.reduceBEq, h0], by simp only [stB, reduceIte, reduceCtorEq, Nat.reduceEqDiff, Nat.reduceAdd, Nat.reduceMul, Nat.reduceLeDiff, Nat.reduceLT, Nat.reduceSub, Nat.reduceBEq, h3], by simp only [stB, reduceIte, reduceCtorEq, Nat.reduceEqDiff, Nat.reduceAdd, Nat.reduceMul, Nat.reduceLeDiff, Nat.reduceLT, Nat.reduceSub, Nat.reduceBEq, h4], by simp only [stB, reduceIte, reduceCtorEq, Nat.reduceEqDiff, Nat.reduceAdd, Nat.reduceMul, Nat.reduceLeDiff, Nat.reduceLT, Nat.reduceSub, Nat.reduceBEq, h5], by simp only [stB, reduceIte, reduceCtorEq, Nat.reduceEqDiff, Nat.reduceAdd, Nat.reduceMul, Nat.reduceLeDiff, Nat.reduceLT, Nat.reduceSub, Nat.reduceBEq, h6], by simp only [stB, reduceIte, reduceCtorEq, Nat.reduceEqDiff, Nat.reduceAdd, Nat.reduceMul, Nat.reduceLeDiff, Nat.reduceLT, Nat.reduceSub, Nat.reduceBEq, h7], by simp only [stB, reduceIte, reduceCtorEq, Nat.reduceEqDiff, Nat.reduceAdd, Nat.reduceMul, Nat.reduceLeDiff, Nat.reduceLT, Nat.reduceSub, Nat.reduceBEq, h8, g8], by simp only [stB, reduceIte, reduceCtorEq, Nat.reduceEqDiff, Nat.reduceAdd, Nat.reduceMul, Nat.reduceLeDiff, Nat.reduceLT, Nat.reduceSub, Nat.reduceBEq, h17], by simp only [stB, reduceIte, reduceCtorEq, Nat.reduceEqDiff, Nat.reduceAdd, Nat.reduceMul, Nat.reduceLeDiff, Nat.reduceLT, Nat.reduceSub, Nat.reduceBEq, g3], by simp only [stB, reduceIte, reduceCtorEq, Nat.reduceEqDiff, Nat.reduceAdd, Nat.reduceMul, Nat.reduceLeDiff, Nat.reduceLT, Nat.reduceSub, Nat.reduceBEq, g4], by simp only [stB, reduceIte, reduceCtorEq, Nat.reduceEqDiff, Nat.reduceAdd, Nat.reduceMul, Nat.reduceLeDiff, Nat.reduceLT, Nat.reduceSub, Nat.reduceBEq, g14], by simp only [stB, reduceIte, reduceCtorEq, Nat.reduceEqDiff, Nat.reduceAdd, Nat.reduceMul, Nat.reduceLeDiff, Nat.reduceLT, Nat.reduceSub, Nat.reduceBEq, o3], by simp only [stB, reduceIte, reduceCtorEq, Nat.reduceEqDiff, Nat.reduceAdd, Nat.reduceMul, Nat.reduceLeDiff, Nat.reduceLT, Nat.reduceSub, Nat.reduceBEq, o4], by simp only [stB, reduceIte, reduceCtorEq, Nat.reduceEqDiff, Nat.reduceAdd, Nat.reduceMul, Nat.reduceLeDiff, Nat.reduceLT, Nat.reduceSub, Nat.reduceBEq, o7, Ev.row], by simp only [stB, reduceIte, reduceCtorEq, Nat.reduceEqDiff, Nat.reduceAdd, Nat.reduceMul, Nat.reduceLeDiff, Nat.reduceLT, Nat.reduceSub, Nat.reduceBEq, o14]⟩ (by simp only [stB, reduceIte, reduceCtorEq, Nat.reduceEqDiff, Nat.reduceAdd, Nat.reduceMul, Nat.reduceLeDiff, Nat.reduceLT, Nat.reduceSub, Nat.reduceBEq, o8']) (by simp only [stB, reduceIte, reduceCtorEq, Nat.reduceEqDiff, Nat.reduceAdd, Nat.reduceMul, Nat.reduceLeDiff, Nat.reduceLT, Nat.reduceSub, Nat.reduceBEq, h9'])
end Go.Proofs.Ytohliamalaifhaa
end
section
set_option linter.unusedSimpArgs false
set_option linter.unusedVariables false
namespace Go.Proofs.Ytohliamalaifhaa
open Go Go.RowKit
set_option maxRecDepth 100000
set_option maxHeartbeats 4000000

def R_stamps (ps rs : List Pa) : Prop := ∃ l : List Ev, ps = [evsPa l] ∧ (l.length ≤ 1000000 ∧ ∀ e, e ∈ l → e.valid = true) ∧ rs = [cksPa (stampsL l)]
theorem s_stamps : Spec Try.prog 18 R_stamps := by
  refine sph18 env_stamps_ok ?_
  rintro ps rs ⟨l, rfl, ⟨hlen, hvl⟩, rfl⟩
  refine ⟨by simp, ?_⟩
  have hl0 : (0 : Int) ≤ (l.length : Int) := by omega
  have hl1 : (l.length : Int) ≤ 1000000 := by omega
  unfold pch18
  refine pwp_start ?_
  simp only [↓evP, evB, stB, reduceIte, reduceCtorEq, Nat.reduceEqDiff, Nat.reduceAdd, Nat.reduceMul, Nat.reduceLeDiff, Nat.reduceLT, Nat.reduceSub, Nat.reduceBEq, evsPa, evsD, hl0, hl1, Nat.reduceLeDiff, mk_flat]
  unfold pch18c5
  simp only [↓evP, evB, stB, reduceIte, reduceCtorEq, Nat.reduceEqDiff, Nat.reduceAdd, Nat.reduceMul, Nat.reduceLeDiff, Nat.reduceLT, Nat.reduceSub, Nat.reduceBEq]
  refine pwp_fresh [0, 3, 4, 5, 15, 16, 17] [3, 4, 14] (fun S hs ho => ?_)
  simp only [stB, reduceIte, reduceCtorEq, Nat.reduceEqDiff, Nat.reduceAdd, Nat.reduceMul, Nat.reduceLeDiff, Nat.reduceLT, Nat.reduceSub, Nat.reduceBEq] at hs ho
  obtain ⟨q0, q3, q4, q5, q15, q16, q17⟩ := hs
  obtain ⟨⟨r3, t3⟩, ⟨r4, t4⟩, r14, t14⟩ := ho
  refine pwp_loopW msh18_0 osS (fun m st => ∃ j : Nat, m = l.length - j ∧ j ≤ l.length ∧ st.sl 17 = aI j ∧ StEnd (runTo l j) j l.length st) l.length ?_ ?_
  · exact ⟨0, rfl, Nat.zero_le _, q17, ⟨r3, r4, r14, t3, t4, t14⟩⟩
  · rintro m z ⟨j, rfl, hj, h17, ⟨g3, g4, g14, o3, o4, o14⟩⟩
    simp only [stB, reduceIte, reduceCtorEq, Nat.reduceEqDiff, Nat.reduceAdd, Nat.reduceMul, Nat.reduceLeDiff, Nat.reduceLT, Nat.reduceSub, Nat.reduceBEq] at h17 g3 g4 g14 o3 o4 o14
    have hok := runTo_ok l j
    rcases Nat.lt_or_ge j l.length with hlt | hge
    · obtain ⟨e, he⟩ : ∃ e, l[j]? = some e := ⟨_, List.getElem?_eq_getElem hlt⟩
      have hed : l.getD j default = e := by rw [List.getD_eq_getElem?_getD, he]; rfl
      have hstep : runTo l (j + 1) = (runTo l j).step l e j := by rw [← hed]; rfl
      have hv := hvl e (List.mem_of_getElem? he)
      obtain ⟨⟨hg0, hg8⟩, _, _, _⟩ := Ev.valid_rng hv
      have hg8' : e.g < ((8 : Nat) : Int) := hg8
      have hlt' : (j : Int) < (l.length : Int) := by omega
      have hj0 : (0 : Int) ≤ (j : Int) := by omega
      obtain ⟨a3, a4, a14⟩ := hok.a8
      generalize hs : runTo l j = s at *
      obtain ⟨c, hc⟩ : ∃ c, s.cur[e.g.toNat]? = some c := ⟨_, List.getElem?_eq_getElem (by rw [hok.cl]; omega)⟩
      obtain ⟨b, hb⟩ : ∃ b, s.birth[e.g.toNat]? = some b := ⟨_, List.getElem?_eq_getElem (by rw [hok.bl]; omega)⟩
      have hcd : s.cur.getD e.g.toNat ckZ = c := by rw [List.getD_eq_getElem?_getD, hc]; rfl
      have hbd : s.birth.getD e.g.toNat ckZ = b := by rw [List.getD_eq_getElem?_getD, hb]; rfl
      have hst : startC s e = if c = ckZ then b else c := by unfold startC; rw [hcd, hbd]
      have hcl := a3 c (List.mem_of_getElem? hc)
      have hbl := a4 b (List.mem_of_getElem? hb)
      have f3 : e.g.toNat * 8 + 8 ≤ (flatC s.cur).length := by rw [flatC_len a3, hok.cl]; omega
      have f4 := flatC_get a3 hc
      have f5 : e.g.toNat * 8 + 8 ≤ (flatC s.birth).length := by rw [flatC_len a4, hok.bl]; omega
      have f6 := flatC_get a4 hb
      have e1 : (ckCells c).length = 8 := by rw [ckCells_length, hcl]
      have e2 : (ckCells b).length = 8 := by rw [ckCells_length, hbl]
      have e3 : 8 ≤ (ckCells c).length := by omega
      have e4 : (ckCells c).take 8 = ckCells c := List.take_of_length_le (by omega)
      have e5 := wr_new8 hcl
      have e6 : wrAt (ckCells c) 0 (ckCells b) = ckCells b := wrAt_full (by omega)
      have e7 := eqs_zero hcl
      by_cases hz : c = ckZ
      · have hz' : decide (c = ckZ) = true := decide_eq_true hz
        rw [if_pos hz] at hst
        simp only [↓evP, evB, stB, reduceIte, reduceCtorEq, Nat.reduceEqDiff, Nat.reduceAdd, Nat.reduceMul, Nat.reduceLeDiff, Nat.reduceLT, Nat.reduceSub, Nat.reduceBEq, q0, q3, q4, q5, q15, q16, h17, g3, g4, g14, o3, o4, o14, hlt']
        unfold pch18c4
        simp only [↓evP, evB, stB, reduceIte, reduceCtorEq, Nat.reduceEqDiff, Nat.reduceAdd, Nat.reduceMul, Nat.reduceLeDiff, Nat.reduceLT, Nat.reduceSub, Nat.reduceBEq, q0, q3, q4, q5, q15, q16, h17, g3, g4, g14, o3, o4, o14, hj0, he, Ev.row, hg0, hg8', f3, f4, f5, f6, e1, e2, e3, e4, e5, e6, e7, hz']
        refine stamps_c3 (s0 := S) (s := s) (e := e) (j := j) hok hv hvl hlt hlen _ _ (fun st1 w1 a1 o1 p1 => ?_) _ (by repeat' (first | assumption | exact within_over.mpr trivial | exact Within.refl _ _ _ | (refine within_ap ?_ rfl rfl) | (refine within_ap0 ?_ rfl))) ⟨by simp only [stB, reduceIte, reduceCtorEq, Nat.reduceEqDiff, Nat.reduceAdd, Nat.reduceMul, Nat.reduceLeDiff, Nat.reduceLT, Nat.reduceSub, Nat.reduceBEq, q0, evsD], by simp only [stB, reduceIte, reduceCtorEq, Nat.reduceEqDiff, Nat.reduceAdd, Nat.reduceMul, Nat.reduceLeDiff, Nat.reduceLT, Nat.reduceSub, Nat.reduceBEq, q3], by simp only [stB, reduceIte, reduceCtorEq, Nat.reduceEqDiff, Nat.reduceAdd, Nat.reduceMul, Nat.reduceLeDiff, Nat.reduceLT, Nat.reduceSub, Nat.reduceBEq, q4], by simp only [stB, reduceIte, reduceCtorEq, Nat.reduceEqDiff, Nat.reduceAdd, Nat.reduceMul, Nat.reduceLeDiff, Nat.reduceLT, Nat.reduceSub, Nat.reduceBEq, q5], by simp only [stB, reduceIte, reduceCtorEq, Nat.reduceEqDiff, Nat.reduceAdd, Nat.reduceMul, Nat.reduceLeDiff, Nat.reduceLT, Nat.reduceSub, Nat.reduceBEq], by simp only [stB, reduceIte, reduceCtorEq, Nat.reduceEqDiff, Nat.reduceAdd, Nat.reduceMul, Nat.reduceLeDiff, Nat.reduceLT, Nat.reduceSub, Nat.reduceBEq], by simp only [stB, reduceIte, reduceCtorEq, Nat.reduceEqDiff, Nat.reduceAdd, Nat.reduceMul, Nat.reduceLeDiff, Nat.reduceLT, Nat.reduceSub, Nat.reduceBEq], by simp only [stB, reduceIte, reduceCtorEq, Nat.reduceEqDiff, Nat.reduceAdd, Nat.reduceMul, Nat.reduceLeDiff, Nat.reduceLT, Nat.reduceSub, Nat.reduceBEq, h17], by simp only [stB, reduceIte, reduceCtorEq, Nat.reduceEqDiff, Nat.reduceAdd, Nat.reduceMul, Nat.reduceLeDiff, Nat.reduceLT, Nat.reduceSub, Nat.reduceBEq, g3], by simp only [stB, reduceIte, reduceCtorEq, Nat.reduceEqDiff, Nat.reduceAdd, Nat.reduceMul, Nat.reduceLeDiff, Nat.reduceLT, Nat.reduceSub, Nat.reduceBEq, g4], by simp only [stB, reduceIte, reduceCtorEq, Nat.reduceEqDiff, Nat.reduceAdd, Nat.reduceMul, Nat.reduceLeDiff, Nat.reduceLT, Nat.reduceSub, Nat.reduceBEq, g14], by simp only [stB, reduceIte, reduceCtorEq, Nat.reduceEqDiff, Nat.reduceAdd, Nat.reduceMul, Nat.reduceLeDiff, Nat.reduceLT, Nat.reduceSub, Nat.reduceBEq, o3], by simp only [stB, reduceIte, reduceCtorEq, Nat.reduceEqDiff, Nat.reduceAdd, Nat.reduceMul, Nat.reduceLeDiff, Nat.reduceLT, Nat.reduceSub, Nat.reduceBEq, o4], by simp only [stB, reduceIte, reduceCtorEq, Nat.reduceEqDiff, Nat.reduceAdd, Nat.reduceMul, Nat.reduceLeDiff, Nat.reduceLT, Nat.reduceSub, Nat.reduceBEq, Ev.row], by simp only [stB, reduceIte, reduceCtorEq, Nat.reduceEqDiff, Nat.reduceAdd, Nat.reduceMul, Nat.reduceLeDiff, Nat.reduceLT, Nat.reduceSub, Nat.reduceBEq, o14]⟩ (by simp only [stB, reduceIte, reduceCtorEq, Nat.reduceEqDiff, Nat.reduceAdd, Nat.reduceMul, Nat.reduceLeDiff, Nat.reduceLT, Nat.reduceSub, Nat.reduceBEq, hst, e5, e6]) (by simp only [stB, reduceIte, reduceCtorEq, Nat.reduceEqDiff, Nat.reduceAdd, Nat.reduceMul, Nat.reduceLeDiff, Nat.reduceLT, Nat.reduceSub, Nat.reduceBEq])
        have hin := hok.inTo l e j
        simp only [↓evP, evB, stB, reduceIte, reduceCtorEq, Nat.reduceEqDiff, Nat.reduceAdd, Nat.reduceMul, Nat.reduceLeDiff, Nat.reduceLT, Nat.reduceSub, Nat.reduceBEq]
        refine stamps_c1 hok hv hlt hlen hin.1 ⟨hin.2.1, hin.2.2⟩ _ _ (fun st2 w2 en h17' => ?_) st1 w1 a1 o1 p1
        simp only [↓evP, evB, stB, reduceIte, reduceCtorEq, Nat.reduceEqDiff, Nat.reduceAdd, Nat.reduceMul, Nat.reduceLeDiff, Nat.reduceLT, Nat.reduceSub, Nat.reduceBEq, h17']
        refine ⟨_, by omega, (by repeat' (first | assumption | exact within_over.mpr trivial | exact Within.refl _ _ _ | (refine within_ap ?_ rfl rfl) | (refine within_ap0 ?_ rfl))), j + 1, rfl, hlt, by simp only [stB, reduceIte, reduceCtorEq, Nat.reduceEqDiff, Nat.reduceAdd, Nat.reduceMul, Nat.reduceLeDiff, Nat.reduceLT, Nat.reduceSub, Nat.reduceBEq, h17']; rw [wrN (by omega)], ?_⟩
        rw [hstep]
        exact ⟨by simp only [stB, reduceIte, reduceCtorEq, Nat.reduceEqDiff, Nat.reduceAdd, Nat.reduceMul, Nat.reduceLeDiff, Nat.reduceLT, Nat.reduceSub, Nat.reduceBEq, en.g3], by simp only [stB, reduceIte, reduceCtorEq, Nat.reduceEqDiff, Nat.reduceAdd, Nat.reduceMul, Nat.reduceLeDiff, Nat.reduceLT, Nat.reduceSub, Nat.reduceBEq, en.g4], by simp only [stB, reduceIte, reduceCtorEq, Nat.reduceEqDiff, Nat.reduceAdd, Nat.reduceMul, Nat.reduceLeDiff, Nat.reduceLT, Nat.reduceSub, Nat.reduceBEq, en.g14], by simp only [stB, reduceIte, reduceCtorEq, Nat.reduceEqDiff, Nat.reduceAdd, Nat.reduceMul, Nat.reduceLeDiff, Nat.reduceLT, Nat.reduceSub, Nat.reduceBEq, en.o3]; rfl, by simp only [stB, reduceIte, reduceCtorEq, Nat.reduceEqDiff, Nat.reduceAdd, Nat.reduceMul, Nat.reduceLeDiff, Nat.reduceLT, Nat.reduceSub, Nat.reduceBEq, en.o4]; rfl, by simp only [stB, reduceIte, reduceCtorEq, Nat.reduceEqDiff, Nat.reduceAdd, Nat.reduceMul, Nat.reduceLeDiff, Nat.reduceLT, Nat.reduceSub, Nat.reduceBEq, en.o14]; rfl⟩
      · have hz' : decide (c = ckZ) = false := decide_eq_false hz
        rw [if_neg hz] at hst
        simp only [↓evP, evB, stB, reduceIte, reduceCtorEq, Nat.reduceEqDiff, Nat.reduceAdd, Nat.reduceMul, Nat.reduceLeDiff, Nat.reduceLT, Nat.reduceSub, Nat.reduceBEq, q0, q3, q4, q5, q15, q16, h17, g3, g4, g14, o3, o4, o14, hlt']
        unfold pch18c4
        simp only [↓evP, evB, stB, reduceIte, reduceCtorEq, Nat.reduceEqDiff, Nat.reduceAdd, Nat.reduceMul, Nat.reduceLeDiff, Nat.reduceLT, Nat.reduceSub, Nat.reduceBEq, q0, q3, q4, q5, q15, q16, h17, g3, g4, g14, o3, o4, o14, hj0, he, Ev.row, hg0, hg8', f3, f4, f5, f6, e1, e2, e3, e4, e5, e6, e7, hz']
        refine stamps_c3 (s0 := S) (s := s) (e := e) (j := j) hok hv hvl hlt hlen _ _ (fun st1 w1 a1 o1 p1 => ?_) _ (by repeat' (first | assumption | exact within_over.mpr trivial | exact Within.refl _ _ _ | (refine within_ap ?_ rfl rfl) | (refine within_ap0 ?_ rfl))) ⟨by simp only [stB, reduceIte, reduceCtorEq, Nat.reduceEqDiff, Nat.reduceAdd, Nat.reduceMul, Nat.reduceLeDiff, Nat.reduceLT, Nat.reduceSub, Nat.reduceBEq, q0, evsD], by simp only [stB, reduceIte, reduceCtorEq, Nat.reduceEqDiff, Nat.reduceAdd, Nat.reduceMul, Nat.reduceLeDiff, Nat.reduceLT, Nat.reduceSub, Nat.reduceBEq, q3], by simp only [stB, reduceIte, reduceCtorEq, Nat.reduceEqDiff, Nat.reduceAdd, Nat.reduceMul, Nat.reduceLeDiff, Nat.reduceLT, Nat.reduceSub, Nat.reduceBEq, q4], by simp only [stB, reduceIte, reduceCtorEq, Nat.reduceEqDiff, Nat.reduceAdd, Nat.reduceMul, Nat.reduceLeDiff, Nat.reduceLT, Nat.reduceSub, Nat.reduceBEq, q5], by simp only [stB, reduceIte, reduceCtorEq, Nat.reduceEqDiff, Nat.reduceAdd, Nat.reduceMul, Nat.reduceLeDiff, Nat.reduceLT, Nat.reduceSub, Nat.reduceBEq], by simp only [stB, reduceIte, reduceCtorEq, Nat.reduceEqDiff, Nat.reduceAdd, Nat.reduceMul, Nat.reduceLeDiff, Nat.reduceLT, Nat.reduceSub, Nat.reduceBEq], by simp only [stB, reduceIte, reduceCtorEq, Nat.reduceEqDiff, Nat.reduceAdd, Nat.reduceMul, Nat.reduceLeDiff, Nat.reduceLT, Nat.reduceSub, Nat.reduceBEq], by simp only [stB, reduceIte, reduceCtorEq, Nat.reduceEqDiff, Nat.reduceAdd, Nat.reduceMul, Nat.reduceLeDiff, Nat.reduceLT, Nat.reduceSub, Nat.reduceBEq, h17], by simp only [stB, reduceIte, reduceCtorEq, Nat.reduceEqDiff, Nat.reduceAdd, Nat.reduceMul, Nat.reduceLeDiff, Nat.reduceLT, Nat.reduceSub, Nat.reduceBEq, g3], by simp only [stB, reduceIte, reduceCtorEq, Nat.reduceEqDiff, Nat.reduceAdd, Nat.reduceMul, Nat.reduceLeDiff, Nat.reduceLT, Nat.reduceSub, Nat.reduceBEq, g4], by simp only [stB, reduceIte, reduceCtorEq, Nat.reduceEqDiff, Nat.reduceAdd, Nat.reduceMul, Nat.reduceLeDiff, Nat.reduceLT, Nat.reduceSub, Nat.reduceBEq, g14], by simp only [stB, reduceIte, reduceCtorEq, Nat.reduceEqDiff, Nat.reduceAdd, Nat.reduceMul, Nat.reduceLeDiff, Nat.reduceLT, Nat.reduceSub, Nat.reduceBEq, o3], by simp only [stB, reduceIte, reduceCtorEq, Nat.reduceEqDiff, Nat.reduceAdd, Nat.reduceMul, Nat.reduceLeDiff, Nat.reduceLT, Nat.reduceSub, Nat.reduceBEq, o4], by simp only [stB, reduceIte, reduceCtorEq, Nat.reduceEqDiff, Nat.reduceAdd, Nat.reduceMul, Nat.reduceLeDiff, Nat.reduceLT, Nat.reduceSub, Nat.reduceBEq, Ev.row], by simp only [stB, reduceIte, reduceCtorEq, Nat.reduceEqDiff, Nat.reduceAdd, Nat.reduceMul, Nat.reduceLeDiff, Nat.reduceLT, Nat.reduceSub, Nat.reduceBEq, o14]⟩ (by simp only [stB, reduceIte, reduceCtorEq, Nat.reduceEqDiff, Nat.reduceAdd, Nat.reduceMul, Nat.reduceLeDiff, Nat.reduceLT, Nat.reduceSub, Nat.reduceBEq, hst, e5, e6]) (by simp only [stB, reduceIte, reduceCtorEq, Nat.reduceEqDiff, Nat.reduceAdd, Nat.reduceMul, Nat.reduceLeDiff, Nat.reduceLT, Nat.reduceSub, Nat.reduceBEq])
        have hin := hok.inTo l e j
        simp only [↓evP, evB, stB, reduceIte, reduceCtorEq, Nat.reduceEqDiff, Nat.reduceAdd, Nat.reduceMul, Nat.reduceLeDiff, Nat.reduceLT, Nat.reduceSub, Nat.reduceBEq]
        refine stamps_c1 hok hv hlt hlen hin.1 ⟨hin.2.1, hin.2.2⟩ _ _ (fun st2 w2 en h17' => ?_) st1 w1 a1 o1 p1
        simp only [↓evP, evB, stB, reduceIte, reduceCtorEq, Nat.reduceEqDiff, Nat.reduceAdd, Nat.reduceMul, Nat.reduceLeDiff, Nat.reduceLT, Nat.reduceSub, Nat.reduceBEq, h17']
        refine ⟨_, by omega, (by repeat' (first | assumption | exact within_over.mpr trivial | exact Within.refl _ _ _ | (refine within_ap ?_ rfl rfl) | (refine within_ap0 ?_ rfl))), j + 1, rfl, hlt, by simp only [stB, reduceIte, reduceCtorEq, Nat.reduceEqDiff, Nat.reduceAdd, Nat.reduceMul, Nat.reduceLeDiff, Nat.reduceLT, Nat.reduceSub, Nat.reduceBEq, h17']; rw [wrN (by omega)], ?_⟩
        rw [hstep]
        exact ⟨by simp only [stB, reduceIte, reduceCtorEq, Nat.reduceEqDiff, Nat.reduceAdd, Nat.reduceMul, Nat.reduceLeDiff, Nat.reduceLT, Nat.reduceSub, Nat.reduceBEq, en.g3], by simp only [stB, reduceIte, reduceCtorEq, Nat.reduceEqDiff, Nat.reduceAdd, Nat.reduceMul, Nat.reduceLeDiff, Nat.reduceLT, Nat.reduceSub, Nat.reduceBEq, en.g4], by simp only [stB, reduceIte, reduceCtorEq, Nat.reduceEqDiff, Nat.reduceAdd, Nat.reduceMul, Nat.reduceLeDiff, Nat.reduceLT, Nat.reduceSub, Nat.reduceBEq, en.g14], by simp only [stB, reduceIte, reduceCtorEq, Nat.reduceEqDiff, Nat.reduceAdd, Nat.reduceMul, Nat.reduceLeDiff, Nat.reduceLT, Nat.reduceSub, Nat.reduceBEq, en.o3]; rfl, by simp only [stB, reduceIte, reduceCtorEq, Nat.reduceEqDiff, Nat.reduceAdd, Nat.reduceMul, Nat.reduceLeDiff, Nat.reduceLT, Nat.reduceSub, Nat.reduceBEq, en.o4]; rfl, by simp only [stB, reduceIte, reduceCtorEq, Nat.reduceEqDiff, Nat.reduceAdd, Nat.reduceMul, Nat.reduceLeDiff, Nat.reduceLT, Nat.reduceSub, Nat.reduceBEq, en.o14]; rfl⟩
    · have hjl : j = l.length := by omega
      subst hjl
      have hlt' : ¬ (l.length : Int) < (l.length : Int) := by omega
      simp only [↓evP, evB, stB, reduceIte, reduceCtorEq, Nat.reduceEqDiff, Nat.reduceAdd, Nat.reduceMul, Nat.reduceLeDiff, Nat.reduceLT, Nat.reduceSub, Nat.reduceBEq, q0, q3, q4, q5, q15, q16, h17, g3, g4, g14, o3, o4, o14, hlt', prh18]
      have hol := hok.ol
      have ha := hok.a8.2.2
      have hfl := flatC_len ha
      rw [Nat.sub_self, List.replicate_zero, List.append_nil, if_pos (by rw [hfl, hol]; exact Nat.le_refl _), List.take_of_length_le (by rw [hfl, hol]; exact Nat.le_refl _), flatC_dt]
      have hch := chunks_rows ha
      rw [hol] at hch
      simp only [Option.map_some, hch, allSome]
      rfl
end Go.Proofs.Ytohliamalaifhaa
end
section
set_option linter.unusedSimpArgs false
set_option linter.unusedVariables false
namespace Go.Proofs.Ytohliamalaifhaa
open Go Go.RowKit
set_option maxRecDepth 100000
set_option maxHeartbeats 4000000

def R_channel (ps rs : List Pa) : Prop := ∃ (s : RSt) (obj n : Int), ps = [s.pa, pI obj, pI n] ∧ s.chans.length ≤ 1000000 ∧ rs = [.agg (s.channel obj n).row]
theorem s_channel : Spec Try.prog 40 R_channel := by
  refine sp40 EnvOK.e0 ?_
  rintro ps rs ⟨s, obj, n, rfl, hlen, rfl⟩
  refine ⟨by simp, ?_⟩
  unfold pc40
  refine pwp_start ?_
  simp only [↓evP, evB, stB, reduceIte, reduceCtorEq, Nat.reduceEqDiff, Nat.reduceAdd, Nat.reduceMul, Nat.reduceLeDiff, Nat.reduceLT, Nat.reduceSub, Nat.reduceBEq, RSt.pa, RSt.row]
  refine pwp_loopW ms40_0 os40_0 (fun m st => ∃ k : Nat, m = s.chans.length - k ∧ k ≤ s.chans.length ∧ (∀ i c, i < k → s.chans[i]? = some c → (c.obj == obj) = false) ∧ st.sl 7 = aI k ∧ st.ob 6 = .cells [.d (dI 0), .d (dI 0), .d (dI 0), .d (dI 0), .d (dB false)] ∧ st.gen 6 = 1) s.chans.length ?_ ?_
  · exact ⟨0, rfl, Nat.zero_le _, fun i c hi => absurd hi (Nat.not_lt_zero _), by simp only [stB, reduceIte, reduceCtorEq, Nat.reduceEqDiff, Nat.reduceAdd, Nat.reduceMul, Nat.reduceLeDiff, Nat.reduceLT, Nat.reduceSub, Nat.reduceBEq]; rfl, by simp only [stB, reduceIte, reduceCtorEq, Nat.reduceEqDiff, Nat.reduceAdd, Nat.reduceMul, Nat.reduceLeDiff, Nat.reduceLT, Nat.reduceSub, Nat.reduceBEq], by simp only [stB, reduceIte, reduceCtorEq, Nat.reduceEqDiff, Nat.reduceAdd, Nat.reduceMul, Nat.reduceLeDiff, Nat.reduceLT, Nat.reduceSub, Nat.reduceBEq]⟩
  · rintro m j ⟨k, rfl, hk, hno, h7, h6, g6⟩
    simp only [stB, reduceIte, reduceCtorEq, Nat.reduceEqDiff, Nat.reduceAdd, Nat.reduceMul, Nat.reduceLeDiff, Nat.reduceLT, Nat.reduceSub, Nat.reduceBEq] at h7 h6 g6
    rcases Nat.lt_or_ge k s.chans.length with hlt | hge
    · obtain ⟨c, hc⟩ : ∃ c, s.chans[k]? = some c := ⟨_, List.getElem?_eq_getElem hlt⟩
      simp only [↓evP, evB, stB, reduceIte, reduceCtorEq, Nat.reduceEqDiff, Nat.reduceAdd, Nat.reduceMul, Nat.reduceLeDiff, Nat.reduceLT, Nat.reduceSub, Nat.reduceBEq, h7, h6, g6, hc, RCh.row, pr40]
      refine ⟨fun _ => ⟨fun he => ?_, fun he => ?_⟩, fun h => absurd hlt (by omega)⟩
      · unfold RSt.channel; rw [find_hit hno hc he]; rfl
      · exact ⟨_, by omega, (by repeat' (first | assumption | exact within_over.mpr trivial | exact Within.refl _ _ _ | (refine within_ap ?_ rfl rfl) | (refine within_ap0 ?_ rfl))), k + 1, rfl, by omega, no_succ hno hc he, by simp only [stB, reduceIte, reduceCtorEq, Nat.reduceEqDiff, Nat.reduceAdd, Nat.reduceMul, Nat.reduceLeDiff, Nat.reduceLT, Nat.reduceSub, Nat.reduceBEq, h7]; rw [wrN (by omega)], by simp only [stB, reduceIte, reduceCtorEq, Nat.reduceEqDiff, Nat.reduceAdd, Nat.reduceMul, Nat.reduceLeDiff, Nat.reduceLT, Nat.reduceSub, Nat.reduceBEq, h6], by simp only [stB, reduceIte, reduceCtorEq, Nat.reduceEqDiff, Nat.reduceAdd, Nat.reduceMul, Nat.reduceLeDiff, Nat.reduceLT, Nat.reduceSub, Nat.reduceBEq, g6]⟩
    · simp only [↓evP, evB, stB, reduceIte, reduceCtorEq, Nat.reduceEqDiff, Nat.reduceAdd, Nat.reduceMul, Nat.reduceLeDiff, Nat.reduceLT, Nat.reduceSub, Nat.reduceBEq, h7, h6, g6, pr40]
      refine ⟨fun h => absurd h (by omega), fun h => ?_⟩
      unfold RSt.channel; rw [find_miss (fun i c hi hc => hno i c (by omega) hc)]; rfl

def R_setChannel (ps rs : List Pa) : Prop := ∃ (s : RSt) (c : RCh), ps = [s.pa, .agg c.row] ∧ s.chans.length ≤ 900000 ∧ rs = [(s.setChannel c).pa]
theorem s_setChannel : Spec Try.prog 42 R_setChannel := by
  refine sp42 EnvOK.e0 ?_
  rintro ps rs ⟨s, c, rfl, hlen, rfl⟩
  refine ⟨by simp, ?_⟩
  unfold pc42
  refine pwp_start ?_
  simp only [↓evP, evB, stB, reduceIte, reduceCtorEq, Nat.reduceEqDiff, Nat.reduceAdd, Nat.reduceMul, Nat.reduceLeDiff, Nat.reduceLT, Nat.reduceSub, Nat.reduceBEq, RSt.pa, RSt.row, RCh.row]
  refine pwp_loopW ms42_0 os42_0 (fun m st => ∃ k : Nat, m = s.chans.length - k ∧ k ≤ s.chans.length ∧ st.sl 6 = aI k ∧ st.gen 5 = 1 ∧ st.sl 5 = .b (.one (.own 5 1 (((s.chans.take k).filter (fun d => d.obj != c.obj)).map RCh.row))) ∧ st.ob 5 = .row 66 5 ((s.chans.take k).filter (fun d => d.obj != c.obj)).length) s.chans.length ?_ ?_
  · exact ⟨0, rfl, Nat.zero_le _, by simp only [stB, reduceIte, reduceCtorEq, Nat.reduceEqDiff, Nat.reduceAdd, Nat.reduceMul, Nat.reduceLeDiff, Nat.reduceLT, Nat.reduceSub, Nat.reduceBEq]; rfl, by simp only [stB, reduceIte, reduceCtorEq, Nat.reduceEqDiff, Nat.reduceAdd, Nat.reduceMul, Nat.reduceLeDiff, Nat.reduceLT, Nat.reduceSub, Nat.reduceBEq], by simp only [stB, reduceIte, reduceCtorEq, Nat.reduceEqDiff, Nat.reduceAdd, Nat.reduceMul, Nat.reduceLeDiff, Nat.reduceLT, Nat.reduceSub, Nat.reduceBEq, List.filter_nil], by simp only [stB, reduceIte, reduceCtorEq, Nat.reduceEqDiff, Nat.reduceAdd, Nat.reduceMul, Nat.reduceLeDiff, Nat.reduceLT, Nat.reduceSub, Nat.reduceBEq, List.filter_nil]⟩
  · rintro m j ⟨k, rfl, hk, h6, g5, h5, o5⟩
    simp only [stB, reduceIte, reduceCtorEq, Nat.reduceEqDiff, Nat.reduceAdd, Nat.reduceMul, Nat.reduceLeDiff, Nat.reduceLT, Nat.reduceSub, Nat.reduceBEq] at h6 g5 h5 o5
    rcases Nat.lt_or_ge k s.chans.length with hlt | hge
    · obtain ⟨d, hd⟩ : ∃ d, s.chans[k]? = some d := ⟨_, List.getElem?_eq_getElem hlt⟩
      have hb : ((s.chans.take k).filter (fun d => d.obj != c.obj)).length + 1 ≤ 1000000 := by have := filter_take_le s.chans (fun d => d.obj != c.obj) k; omega
      simp only [↓evP, evB, stB, reduceIte, reduceCtorEq, Nat.reduceEqDiff, Nat.reduceAdd, Nat.reduceMul, Nat.reduceLeDiff, Nat.reduceLT, Nat.reduceSub, Nat.reduceBEq, h6, g5, h5, o5, hd, RCh.row, hb]
      refine ⟨fun _ => ⟨(by unfold Drw; kernel_rfl), fun he => ?_, fun he => ?_⟩, fun h => absurd hlt (by omega)⟩
      · exact ⟨_, by omega, (by repeat' (first | assumption | exact within_over.mpr trivial | exact Within.refl _ _ _ | (refine within_ap ?_ rfl rfl) | (refine within_ap0 ?_ rfl))), k + 1, rfl, by omega, by simp only [stB, reduceIte, reduceCtorEq, Nat.reduceEqDiff, Nat.reduceAdd, Nat.reduceMul, Nat.reduceLeDiff, Nat.reduceLT, Nat.reduceSub, Nat.reduceBEq, h6]; rw [wrN (by omega)], by simp only [stB, reduceIte, reduceCtorEq, Nat.reduceEqDiff, Nat.reduceAdd, Nat.reduceMul, Nat.reduceLeDiff, Nat.reduceLT, Nat.reduceSub, Nat.reduceBEq, g5], by simp only [stB, reduceIte, reduceCtorEq, Nat.reduceEqDiff, Nat.reduceAdd, Nat.reduceMul, Nat.reduceLeDiff, Nat.reduceLT, Nat.reduceSub, Nat.reduceBEq, h5, filter_succ hd, he, List.map_append, RCh.row], by simp only [stB, reduceIte, reduceCtorEq, Nat.reduceEqDiff, Nat.reduceAdd, Nat.reduceMul, Nat.reduceLeDiff, Nat.reduceLT, Nat.reduceSub, Nat.reduceBEq, o5, filter_succ hd, he, List.length_append]⟩
      · exact ⟨_, by omega, (by repeat' (first | assumption | exact within_over.mpr trivial | exact Within.refl _ _ _ | (refine within_ap ?_ rfl rfl) | (refine within_ap0 ?_ rfl))), k + 1, rfl, by omega, by simp only [stB, reduceIte, reduceCtorEq, Nat.reduceEqDiff, Nat.reduceAdd, Nat.reduceMul, Nat.reduceLeDiff, Nat.reduceLT, Nat.reduceSub, Nat.reduceBEq, h6]; rw [wrN (by omega)], by simp only [stB, reduceIte, reduceCtorEq, Nat.reduceEqDiff, Nat.reduceAdd, Nat.reduceMul, Nat.reduceLeDiff, Nat.reduceLT, Nat.reduceSub, Nat.reduceBEq, g5], by simp [stB, reduceIte, reduceCtorEq, Nat.reduceEqDiff, Nat.reduceAdd, Nat.reduceMul, Nat.reduceLeDiff, Nat.reduceLT, Nat.reduceSub, Nat.reduceBEq, h5, filter_succ hd, he], by simp [stB, reduceIte, reduceCtorEq, Nat.reduceEqDiff, Nat.reduceAdd, Nat.reduceMul, Nat.reduceLeDiff, Nat.reduceLT, Nat.reduceSub, Nat.reduceBEq, o5, filter_succ hd, he]⟩
    · have hkl : k = s.chans.length := by omega
      subst hkl
      rw [List.take_length] at h5 o5
      have hb : (s.chans.filter (fun d => d.obj != c.obj)).length + 1 ≤ 1000000 := by have := List.length_filter_le (fun d : RCh => d.obj != c.obj) s.chans; omega
      simp only [↓evP, evB, stB, reduceIte, reduceCtorEq, Nat.reduceEqDiff, Nat.reduceAdd, Nat.reduceMul, Nat.reduceLeDiff, Nat.reduceLT, Nat.reduceSub, Nat.reduceBEq, h6, g5, h5, o5, hb, pr42]
      refine ⟨fun h => absurd h (by omega), fun _ => ?_⟩
      simp [RSt.setChannel, RCh.row, RSt.pa, RSt.row]

end Go.Proofs.Ytohliamalaifhaa
end
section
set_option linter.unusedSimpArgs false
set_option linter.unusedVariables false
namespace Go.Proofs.Ytohliamalaifhaa
open Go Go.RowKit
set_option maxRecDepth 100000
set_option maxHeartbeats 4000000

def R_lock (ps rs : List Pa) : Prop := ∃ (s : RSt) (obj off : Int), ps = [s.pa, pI obj, pI off] ∧ s.locks.length ≤ 1000000 ∧ rs = [.agg (s.lock obj off).row]
theorem s_lock : Spec Try.prog 43 R_lock := by
  refine sp43 EnvOK.e0 ?_
  rintro ps rs ⟨s, obj, off, rfl, hlen, rfl⟩
  refine ⟨by simp, ?_⟩
  unfold pc43
  refine pwp_start ?_
  simp only [↓evP, evB, stB, reduceIte, reduceCtorEq, Nat.reduceEqDiff, Nat.reduceAdd, Nat.reduceMul, Nat.reduceLeDiff, Nat.reduceLT, Nat.reduceSub, Nat.reduceBEq, RSt.pa, RSt.row]
  refine pwp_loopW ms43_0 os43_0 (fun m st => ∃ k : Nat, m = s.locks.length - k ∧ k ≤ s.locks.length ∧ (∀ i c, i < k → s.locks[i]? = some c → (c.obj == obj && c.off == off) = false) ∧ st.sl 7 = aI k ∧ st.ob 6 = .cells [.d (dI 0), .d (dI 0), .d (dB false), .d (dI 0)] ∧ st.gen 6 = 1) s.locks.length ?_ ?_
  · exact ⟨0, rfl, Nat.zero_le _, fun i c hi => absurd hi (Nat.not_lt_zero _), by simp only [stB, reduceIte, reduceCtorEq, Nat.reduceEqDiff, Nat.reduceAdd, Nat.reduceMul, Nat.reduceLeDiff, Nat.reduceLT, Nat.reduceSub, Nat.reduceBEq]; rfl, by simp only [stB, reduceIte, reduceCtorEq, Nat.reduceEqDiff, Nat.reduceAdd, Nat.reduceMul, Nat.reduceLeDiff, Nat.reduceLT, Nat.reduceSub, Nat.reduceBEq], by simp only [stB, reduceIte, reduceCtorEq, Nat.reduceEqDiff, Nat.reduceAdd, Nat.reduceMul, Nat.reduceLeDiff, Nat.reduceLT, Nat.reduceSub, Nat.reduceBEq]⟩
  · rintro m j ⟨k, rfl, hk, hno, h7, h6, g6⟩
    simp only [stB, reduceIte, reduceCtorEq, Nat.reduceEqDiff, Nat.reduceAdd, Nat.reduceMul, Nat.reduceLeDiff, Nat.reduceLT, Nat.reduceSub, Nat.reduceBEq] at h7 h6 g6
    rcases Nat.lt_or_ge k s.locks.length with hlt | hge
    · obtain ⟨c, hc⟩ : ∃ c, s.locks[k]? = some c := ⟨_, List.getElem?_eq_getElem hlt⟩
      simp only [↓evP, evB, stB, reduceIte, reduceCtorEq, Nat.reduceEqDiff, Nat.reduceAdd, Nat.reduceMul, Nat.reduceLeDiff, Nat.reduceLT, Nat.reduceSub, Nat.reduceBEq, h7, h6, g6, hc, RLk.row, pr43]
      refine ⟨fun _ => ⟨fun e1 => ⟨fun e2 => ?_, fun e2 => ?_⟩, fun e1 => ?_⟩, fun h => absurd hlt (by omega)⟩
      · unfold RSt.lock; rw [find_hit hno hc (by rw [e1, e2]; rfl)]; rfl
      · exact ⟨_, by omega, (by repeat' (first | assumption | exact within_over.mpr trivial | exact Within.refl _ _ _ | (refine within_ap ?_ rfl rfl) | (refine within_ap0 ?_ rfl))), k + 1, rfl, by omega, no_succ hno hc (by rw [e2, Bool.and_false]), by simp only [stB, reduceIte, reduceCtorEq, Nat.reduceEqDiff, Nat.reduceAdd, Nat.reduceMul, Nat.reduceLeDiff, Nat.reduceLT, Nat.reduceSub, Nat.reduceBEq, h7]; rw [wrN (by omega)], by simp only [stB, reduceIte, reduceCtorEq, Nat.reduceEqDiff, Nat.reduceAdd, Nat.reduceMul, Nat.reduceLeDiff, Nat.reduceLT, Nat.reduceSub, Nat.reduceBEq, h6], by simp only [stB, reduceIte, reduceCtorEq, Nat.reduceEqDiff, Nat.reduceAdd, Nat.reduceMul, Nat.reduceLeDiff, Nat.reduceLT, Nat.reduceSub, Nat.reduceBEq, g6]⟩
      · exact ⟨_, by omega, (by repeat' (first | assumption | exact within_over.mpr trivial | exact Within.refl _ _ _ | (refine within_ap ?_ rfl rfl) | (refine within_ap0 ?_ rfl))), k + 1, rfl, by omega, no_succ hno hc (by rw [e1]; rfl), by simp only [stB, reduceIte, reduceCtorEq, Nat.reduceEqDiff, Nat.reduceAdd, Nat.reduceMul, Nat.reduceLeDiff, Nat.reduceLT, Nat.reduceSub, Nat.reduceBEq, h7]; rw [wrN (by omega)], by simp only [stB, reduceIte, reduceCtorEq, Nat.reduceEqDiff, Nat.reduceAdd, Nat.reduceMul, Nat.reduceLeDiff, Nat.reduceLT, Nat.reduceSub, Nat.reduceBEq, h6], by simp only [stB, reduceIte, reduceCtorEq, Nat.reduceEqDiff, Nat.reduceAdd, Nat.reduceMul, Nat.reduceLeDiff, Nat.reduceLT, Nat.reduceSub, Nat.reduceBEq, g6]⟩
    · simp only [↓evP, evB, stB, reduceIte, reduceCtorEq, Nat.reduceEqDiff, Nat.reduceAdd, Nat.reduceMul, Nat.reduceLeDiff, Nat.reduceLT, Nat.reduceSub, Nat.reduceBEq, h7, h6, g6, pr43]
      refine ⟨fun h => absurd h (by omega), fun h => ?_⟩
      unfold RSt.lock; rw [find_miss (fun i c hi hc => hno i c (by omega) hc)]; rfl

def R_setLock (ps rs : List Pa) : Prop := ∃ (s : RSt) (c : RLk), ps = [s.pa, .agg c.row] ∧ s.locks.length ≤ 900000 ∧ rs = [(s.setLock c).pa]
theorem s_setLock : Spec Try.prog 44 R_setLock := by
  refine sp44 EnvOK.e0 ?_
  rintro ps rs ⟨s, c, rfl, hlen, rfl⟩
  refine ⟨by simp, ?_⟩
  unfold pc44
  refine pwp_start ?_
  simp only [↓evP, evB, stB, reduceIte, reduceCtorEq, Nat.reduceEqDiff, Nat.reduceAdd, Nat.reduceMul, Nat.reduceLeDiff, Nat.reduceLT, Nat.reduceSub, Nat.reduceBEq, RSt.pa, RSt.row, RLk.row]
  refine pwp_loopW ms44_0 os44_0 (fun m st => ∃ k : Nat, m = s.locks.length - k ∧ k ≤ s.locks.length ∧ st.sl 6 = aI k ∧ st.gen 5 = 1 ∧ st.sl 5 = .b (.one (.own 5 1 (((s.locks.take k).filter (fun d => d.obj != c.obj || d.off != c.off)).map RLk.row))) ∧ st.ob 5 = .row 71 4 ((s.locks.take k).filter (fun d => d.obj != c.obj || d.off != c.off)).length) s.locks.length ?_ ?_
  · exact ⟨0, rfl, Nat.zero_le _, by simp only [stB, reduceIte, reduceCtorEq, Nat.reduceEqDiff, Nat.reduceAdd, Nat.reduceMul, Nat.reduceLeDiff, Nat.reduceLT, Nat.reduceSub, Nat.reduceBEq]; rfl, by simp only [stB, reduceIte, reduceCtorEq, Nat.reduceEqDiff, Nat.reduceAdd, Nat.reduceMul, Nat.reduceLeDiff, Nat.reduceLT, Nat.reduceSub, Nat.reduceBEq], by simp only [stB, reduceIte, reduceCtorEq, Nat.reduceEqDiff, Nat.reduceAdd, Nat.reduceMul, Nat.reduceLeDiff, Nat.reduceLT, Nat.reduceSub, Nat.reduceBEq, List.filter_nil], by simp only [stB, reduceIte, reduceCtorEq, Nat.reduceEqDiff, Nat.reduceAdd, Nat.reduceMul, Nat.reduceLeDiff, Nat.reduceLT, Nat.reduceSub, Nat.reduceBEq, List.filter_nil]⟩
  · rintro m j ⟨k, rfl, hk, h6, g5, h5, o5⟩
    simp only [stB, reduceIte, reduceCtorEq, Nat.reduceEqDiff, Nat.reduceAdd, Nat.reduceMul, Nat.reduceLeDiff, Nat.reduceLT, Nat.reduceSub, Nat.reduceBEq] at h6 g5 h5 o5
    rcases Nat.lt_or_ge k s.locks.length with hlt | hge
    · obtain ⟨d, hd⟩ : ∃ d, s.locks[k]? = some d := ⟨_, List.getElem?_eq_getElem hlt⟩
      have hb : ((s.locks.take k).filter (fun d => d.obj != c.obj || d.off != c.off)).length + 1 ≤ 1000000 := by have := filter_take_le s.locks (fun d => d.obj != c.obj || d.off != c.off) k; omega
      simp only [↓evP, evB, stB, reduceIte, reduceCtorEq, Nat.reduceEqDiff, Nat.reduceAdd, Nat.reduceMul, Nat.reduceLeDiff, Nat.reduceLT, Nat.reduceSub, Nat.reduceBEq, h6, g5, h5, o5, hd, RLk.row, hb]
      refine ⟨fun _ => ?_, fun h => absurd hlt (by omega)⟩
      repeat' (first | apply And.intro | intro)
      all_goals first
        | (unfold Drw; kernel_rfl)
        | exact ⟨_, by omega, (by repeat' (first | assumption | exact within_over.mpr trivial | exact Within.refl _ _ _ | (refine within_ap ?_ rfl rfl) | (refine within_ap0 ?_ rfl))), k + 1, rfl, by omega, by simp only [stB, reduceIte, reduceCtorEq, Nat.reduceEqDiff, Nat.reduceAdd, Nat.reduceMul, Nat.reduceLeDiff, Nat.reduceLT, Nat.reduceSub, Nat.reduceBEq, h6]; rw [wrN (by omega)], by simp only [stB, reduceIte, reduceCtorEq, Nat.reduceEqDiff, Nat.reduceAdd, Nat.reduceMul, Nat.reduceLeDiff, Nat.reduceLT, Nat.reduceSub, Nat.reduceBEq, g5], by simp [stB, reduceIte, reduceCtorEq, Nat.reduceEqDiff, Nat.reduceAdd, Nat.reduceMul, Nat.reduceLeDiff, Nat.reduceLT, Nat.reduceSub, Nat.reduceBEq, h5, filter_succ hd, RLk.row, *], by simp [stB, reduceIte, reduceCtorEq, Nat.reduceEqDiff, Nat.reduceAdd, Nat.reduceMul, Nat.reduceLeDiff, Nat.reduceLT, Nat.reduceSub, Nat.reduceBEq, o5, filter_succ hd, *]⟩
        | skip
    · have hkl : k = s.locks.length := by omega
      subst hkl
      rw [List.take_length] at h5 o5
      have hb : (s.locks.filter (fun d => d.obj != c.obj || d.off != c.off)).length + 1 ≤ 1000000 := by have := List.length_filter_le (fun d : RLk => d.obj != c.obj || d.off != c.off) s.locks; omega
      simp only [↓evP, evB, stB, reduceIte, reduceCtorEq, Nat.reduceEqDiff, Nat.reduceAdd, Nat.reduceMul, Nat.reduceLeDiff, Nat.reduceLT, Nat.reduceSub, Nat.reduceBEq, h6, g5, h5, o5, hb, pr44]
      refine ⟨fun h => absurd h (by omega), fun _ => ?_⟩
      simp [RSt.setLock, RLk.row, RSt.pa, RSt.row]
end Go.Proofs.Ytohliamalaifhaa
end
section
set_option linter.unusedSimpArgs false
set_option linter.unusedVariables false
namespace Go.Proofs.Ytohliamalaifhaa
open Go Go.RowKit
set_option maxRecDepth 100000
set_option maxHeartbeats 4000000


def R_done (ps rs : List Pa) : Prop := ∃ (s : RSt) (obj off : Int), ps = [s.pa, pI obj, pI off] ∧ s.done.length ≤ 1000000 ∧ rs = [pB (s.isDone obj off)]
theorem s_done : Spec Try.prog 45 R_done := by
  refine sp45 EnvOK.e0 ?_
  rintro ps rs ⟨s, obj, off, rfl, hlen, rfl⟩
  refine ⟨by simp, ?_⟩
  unfold pc45
  refine pwp_start ?_
  simp only [↓evP, evB, stB, reduceIte, reduceCtorEq, Nat.reduceEqDiff, Nat.reduceAdd, Nat.reduceMul, Nat.reduceLeDiff, Nat.reduceLT, Nat.reduceSub, Nat.reduceBEq, RSt.pa, RSt.row]
  refine pwp_loopW ms45_0 os45_0 (fun m st => ∃ k : Nat, m = s.done.length - k ∧ k ≤ s.done.length ∧ (∀ i c, i < k → s.done[i]? = some c → (c.1 == obj && c.2 == off) = false) ∧ st.sl 7 = aI k) s.done.length ?_ ?_
  · exact ⟨0, rfl, Nat.zero_le _, fun i c hi => absurd hi (Nat.not_lt_zero _), by simp only [stB, reduceIte, reduceCtorEq, Nat.reduceEqDiff, Nat.reduceAdd, Nat.reduceMul, Nat.reduceLeDiff, Nat.reduceLT, Nat.reduceSub, Nat.reduceBEq]; rfl⟩
  · rintro m j ⟨k, rfl, hk, hno, h7⟩
    simp only [stB, reduceIte, reduceCtorEq, Nat.reduceEqDiff, Nat.reduceAdd, Nat.reduceMul, Nat.reduceLeDiff, Nat.reduceLT, Nat.reduceSub, Nat.reduceBEq] at h7
    rcases Nat.lt_or_ge k s.done.length with hlt | hge
    · obtain ⟨c, hc⟩ : ∃ c, s.done[k]? = some c := ⟨_, List.getElem?_eq_getElem hlt⟩
      simp only [↓evP, evB, stB, reduceIte, reduceCtorEq, Nat.reduceEqDiff, Nat.reduceAdd, Nat.reduceMul, Nat.reduceLeDiff, Nat.reduceLT, Nat.reduceSub, Nat.reduceBEq, h7, hc, locRow, pr45]
      refine ⟨fun _ => ⟨fun e1 => ⟨fun e2 => ?_, fun e2 => ?_⟩, fun e1 => ?_⟩, fun h => absurd hlt (by omega)⟩
      · unfold RSt.isDone
        rw [List.any_eq_true.2 ⟨c, List.mem_of_getElem? hc, by rw [e1, e2]; rfl⟩]
      · exact ⟨_, by omega, (by repeat' (first | assumption | exact within_over.mpr trivial | exact Within.refl _ _ _ | (refine within_ap ?_ rfl rfl) | (refine within_ap0 ?_ rfl))), k + 1, rfl, by omega, no_succ hno hc (by rw [e2, Bool.and_false]), by simp only [stB, reduceIte, reduceCtorEq, Nat.reduceEqDiff, Nat.reduceAdd, Nat.reduceMul, Nat.reduceLeDiff, Nat.reduceLT, Nat.reduceSub, Nat.reduceBEq, h7]; rw [wrN (by omega)]⟩
      · exact ⟨_, by omega, (by repeat' (first | assumption | exact within_over.mpr trivial | exact Within.refl _ _ _ | (refine within_ap ?_ rfl rfl) | (refine within_ap0 ?_ rfl))), k + 1, rfl, by omega, no_succ hno hc (by rw [e1]; rfl), by simp only [stB, reduceIte, reduceCtorEq, Nat.reduceEqDiff, Nat.reduceAdd, Nat.reduceMul, Nat.reduceLeDiff, Nat.reduceLT, Nat.reduceSub, Nat.reduceBEq, h7]; rw [wrN (by omega)]⟩
    · simp only [↓evP, evB, stB, reduceIte, reduceCtorEq, Nat.reduceEqDiff, Nat.reduceAdd, Nat.reduceMul, Nat.reduceLeDiff, Nat.reduceLT, Nat.reduceSub, Nat.reduceBEq, h7, pr45]
      refine ⟨fun h => absurd h (by omega), fun h => ?_⟩
      unfold RSt.isDone; rw [any_miss (fun i c hi hc => hno i c (by omega) hc)]

def env_counted : Env := e1 40 R_channel (e1 42 R_setChannel e0)
theorem env_counted_ok : EnvOK Try.prog env_counted := EnvOK.e1 s_channel (EnvOK.e1 s_setChannel EnvOK.e0)
theorem RSt.channel_bd {s : RSt} (h : s.ok) (obj n : Int) : (0 ≤ (s.channel obj n).sent ∧ (s.channel obj n).sent ≤ 1000000) ∧ (0 ≤ (s.channel obj n).recv ∧ (s.channel obj n).recv ≤ 1000000) := by
  unfold RSt.channel
  cases hf : s.chans.find? (fun c => c.obj == obj) with
  | none => simp
  | some c => exact h.ch.2 c (List.mem_of_find?_eq_some hf)
def R_counted (ps rs : List Pa) : Prop := ∃ (s : RSt) (e : Ev), ps = [s.pa, e.pa] ∧ s.ok ∧ rs = [(s.counted e).pa]
theorem s_counted : Spec Try.prog 39 R_counted := by
  refine sp39 env_counted_ok ?_
  rintro ps rs ⟨s, e, rfl, hok, rfl⟩
  refine ⟨by simp, ?_⟩
  obtain ⟨⟨c1, c2⟩, c3, c4⟩ := RSt.channel_bd hok e.obj e.n
  unfold pc39
  refine pwp_start ?_
  simp only [↓evP, evB, stB, reduceIte, reduceCtorEq, Nat.reduceEqDiff, Nat.reduceAdd, Nat.reduceMul, Nat.reduceLeDiff, Nat.reduceLT, Nat.reduceSub, Nat.reduceBEq, RSt.pa, RSt.row, Ev.pa, Ev.row]
  refine callOps_intro [.agg (s.channel e.obj e.n).row] ⟨s, e.obj, e.n, rfl, by have := hok.ch.1; omega, rfl⟩ ?_
  simp only [↓evP, evB, stB, reduceIte, reduceCtorEq, Nat.reduceEqDiff, Nat.reduceAdd, Nat.reduceMul, Nat.reduceLeDiff, Nat.reduceLT, Nat.reduceSub, Nat.reduceBEq, RCh.row, pr39]
  refine ⟨fun h15 => ?_, fun h15 => ⟨fun h17 => ?_, fun h17 => ?_⟩⟩
  · rw [wr64 (by omega) (by omega)]
    refine callOps_intro [(s.setChannel { s.channel e.obj e.n with sent := (s.channel e.obj e.n).sent + 1 }).pa] ⟨s, { s.channel e.obj e.n with sent := (s.channel e.obj e.n).sent + 1 }, rfl, hok.ch.1, rfl⟩ ?_
    simp only [↓evP, evB, stB, reduceIte, reduceCtorEq, Nat.reduceEqDiff, Nat.reduceAdd, Nat.reduceMul, Nat.reduceLeDiff, Nat.reduceLT, Nat.reduceSub, Nat.reduceBEq, RSt.pa, RSt.row, pr39]
    unfold RSt.counted RCh.count
    rw [if_pos (Or.inl (beq_iff_eq.1 h15)), if_pos (beq_iff_eq.1 h15)]
  · rw [wr64 (by omega) (by omega)]
    refine callOps_intro [(s.setChannel { s.channel e.obj e.n with recv := (s.channel e.obj e.n).recv + 1 }).pa] ⟨s, { s.channel e.obj e.n with recv := (s.channel e.obj e.n).recv + 1 }, rfl, hok.ch.1, rfl⟩ ?_
    simp only [↓evP, evB, stB, reduceIte, reduceCtorEq, Nat.reduceEqDiff, Nat.reduceAdd, Nat.reduceMul, Nat.reduceLeDiff, Nat.reduceLT, Nat.reduceSub, Nat.reduceBEq, RSt.pa, RSt.row, pr39]
    unfold RSt.counted RCh.count
    rw [if_pos (Or.inr (beq_iff_eq.1 h17)), if_neg (beq_eq_false_iff_ne.1 h15), if_pos (beq_iff_eq.1 h17)]
  · unfold RSt.counted
    rw [if_neg (fun h => h.elim (beq_eq_false_iff_ne.1 h15) (beq_eq_false_iff_ne.1 h17))]

def R_begin (ps rs : List Pa) : Prop := ∃ (s : RSt) (e : Ev) (next : List RWt), ps = [s.pa, e.pa, .one (.im (next.map RWt.row))] ∧ (s.ok ∧ next.length ≤ 900000) ∧ rs = [(s.begin e next).pa, pB true]
def env_begin : Env := e1 39 R_counted e0
theorem env_begin_ok : EnvOK Try.prog env_begin := EnvOK.e1 s_counted EnvOK.e0
theorem s_begin : Spec Try.prog 41 R_begin := by
  refine sp41 env_begin_ok ?_
  rintro ps rs ⟨s, e, next, rfl, ⟨hok, hn⟩, rfl⟩
  refine ⟨by simp, ?_⟩
  unfold pc41
  refine pwp_start ?_
  simp only [↓evP, evB, stB, reduceIte, reduceCtorEq, Nat.reduceEqDiff, Nat.reduceAdd, Nat.reduceMul, Nat.reduceLeDiff, Nat.reduceLT, Nat.reduceSub, Nat.reduceBEq, RSt.pa, RSt.row, Ev.pa, Ev.row]
  refine ⟨(by unfold Drw; kernel_rfl), ?_⟩
  refine callOps_intro [(s.begin e next).pa] ⟨{ s with next := next, obj := e.obj, k := e.k, n := e.n }, e, rfl, ⟨hok.ct, hok.gr, hok.ch, hok.lk, hok.dn, hn⟩, rfl⟩ ?_
  simp only [↓evP, evB, stB, reduceIte, reduceCtorEq, Nat.reduceEqDiff, Nat.reduceAdd, Nat.reduceMul, Nat.reduceLeDiff, Nat.reduceLT, Nat.reduceSub, Nat.reduceBEq, RSt.pa, RSt.row, pr41]
end Go.Proofs.Ytohliamalaifhaa
end
