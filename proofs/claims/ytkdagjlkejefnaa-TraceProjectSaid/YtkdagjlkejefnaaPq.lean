/- How a plain reading is evaluated, step by step. -/
import Derived.Test.YtkdagjlkejefnaaPp
import Derived.IntWalk
set_option linter.unusedSimpArgs false
set_option linter.unusedVariables false
namespace Go.Proofs.Ytkdagjlkejefnaa
open Go Go.RowKit

theorem nrfl {α : Sort _} {a b : α} (h : a = b) : a = b := h
section
variable {env : Env} {K : St → Prop} {is : List PI} {s : St} {d : Option Nat} {af : List Nat}

def contOps (env : Env) (K : St → Prop) (is : List PI) (s : St) (d : Option Nat) (o : Option (Av × Cg)) : Prop := withSome o fun p => evalOps env is (s.ap d p.1 p.2) K
theorem contOps_some {v : Av} {ch : Cg} : contOps env K is s d (some (v, ch)) = evalOps env is (s.ap d v ch) K := nrfl rfl
def callOps (env : Env) (K : St → Prop) (is : List PI) (s : St) (d : Option Nat) (f : Nat) (o : Option (List Pa)) : Prop := withSome o fun ps => ∃ rs, env f ps rs ∧ evalOps env is (s.ap d (resAv rs) .no) K
theorem callOps_intro {f : Nat} {ps : List Pa} (rs : List Pa) (h : env f ps rs) (k : evalOps env is (s.ap d (resAv rs) .no) K) : callOps env K is s d f (some ps) := ⟨rs, h, k⟩
def guardOps (env : Env) (K : St → Prop) (is : List PI) (s : St) (d : Option Nat) (op : PO) (t : Nat) (want : Bool) (o : Option Bool) : Prop :=
  withSome o fun b => (b = want → evalOps env (⟨d, op, none, []⟩ :: is) (s.ap (some t) (scAv (.bool want)) .no) K) ∧ (b = !want → evalOps env is ((s.ap (some t) (scAv (.bool !want)) .no).ap d .un .no) K)
theorem guardOps_some {op : PO} {t : Nat} {want b : Bool} : guardOps env K is s d op t want (some b) = ((b = want → evalOps env (⟨d, op, none, []⟩ :: is) (s.ap (some t) (scAv (.bool want)) .no) K) ∧ (b = !want → evalOps env is ((s.ap (some t) (scAv (.bool !want)) .no).ap d .un .no) K)) := nrfl rfl
theorem boo_self {t : Nat} {b : Bool} (h : s.boo (.t t) = some b) : s.ap (some t) (scAv (.bool b)) .no = s := by
  have h1 : s.sl t = scAv (.bool b) := by
    unfold St.boo at h
    split at h
    · rename_i c hc
      cases h
      exact hc
    · cases h
  have h2 : up s.sl t (scAv (.bool b)) = s.sl := by
    funext x
    rw [up_at]
    split
    · rename_i hx; rw [hx, h1]
    · rfl
  show (⟨up s.sl t (scAv (.bool b)), s.gen, s.ob⟩ : St) = s
  rw [h2]
theorem evalOps_nil : evalOps env [] s K = K s := nrfl rfl
theorem evalOps_fn {op : PO} (h : op.isCall = false) : evalOps env (⟨d, op, none, af⟩ :: is) s K = contOps env K is s d (op.fn s (d.getD 0)) := by
  change PO.go env s (d.getD 0) (fun v ch => evalOps env is (s.ap d v ch) K) op = _
  rw [PO.go_fn h]
  rfl
def opS (env : Env) (K : St → Prop) (is : List PI) (s : St) (d : Option Nat) (b : Bool) (op : PO) : Prop := match b with
  | true => (match op with | .call f xs => callOps env K is s d f (s.args xs) | _ => False)
  | false => contOps env K is s d (op.fn s (d.getD 0))
theorem opS_false {op : PO} : opS env K is s d false op = contOps env K is s d (op.fn s (d.getD 0)) := nrfl rfl
theorem opS_true {f : Nat} {xs : List PX} : opS env K is s d true (.call f xs) = callOps env K is s d f (s.args xs) := nrfl rfl
theorem evalOps_op {op : PO} : evalOps env (⟨d, op, none, af⟩ :: is) s K = opS env K is s d op.isCall op := by
  cases hc : op.isCall with
  | true => cases op <;> first | rfl | cases hc
  | false => rw [opS_false, evalOps_fn hc]
theorem evalOps_call {f : Nat} {xs : List PX} : evalOps env (⟨d, .call f xs, none, af⟩ :: is) s K = callOps env K is s d f (s.args xs) := nrfl rfl
theorem evalOps_guard {op : PO} {t : Nat} {want : Bool} : evalOps env (⟨d, op, some (t, want), af⟩ :: is) s K = guardOps env K is s d op t want (s.boo (.t t)) := by
  change withSome (s.boo (.t t)) _ = guardOps env K is s d op t want (s.boo (.t t))
  cases h : s.boo (.t t) with
  | none => rfl
  | some b =>
    have hb := boo_self h
    rw [guardOps_some]
    show ((b = want → _) ∧ (b = !want → _)) = _
    congr 1
    · apply propext
      refine forall_congr' fun he => ?_
      subst he
      rw [hb]
      rfl
    · apply propext
      refine forall_congr' fun he => ?_
      rw [← he, hb]

abbrev Ft := List (List Rg × List Rg)
variable {KD : St → Ft → Prop} {acc : Ft}
def contD (env : Env) (K : St → Ft → Prop) (is : List PI) (s : St) (d : Option Nat) (acc : Ft) (rd : List Rg) (o : Option (Av × Cg)) : Prop := withSome o fun p => evalD env is (s.ap d p.1 p.2) ((rd, p.2.wrs) :: acc) K
theorem contD_some {v : Av} {ch : Cg} {rd : List Rg} : contD env KD is s d acc rd (some (v, ch)) = evalD env is (s.ap d v ch) ((rd, ch.wrs) :: acc) KD := nrfl rfl
def callD (env : Env) (K : St → Ft → Prop) (is : List PI) (s : St) (d : Option Nat) (acc : Ft) (f : Nat) (o : Option (List Pa)) : Prop := withSome o fun ps => ∃ rs, env f ps rs ∧ evalD env is (s.ap d (resAv rs) .no) (([], []) :: acc) K
theorem callD_intro {f : Nat} {ps : List Pa} (rs : List Pa) (h : env f ps rs) (k : evalD env is (s.ap d (resAv rs) .no) (([], []) :: acc) KD) : callD env KD is s d acc f (some ps) := ⟨rs, h, k⟩
/-- a guarded operation -/
def goD (env : Env) (K : St → Ft → Prop) (is : List PI) (s : St) (d : Option Nat) (acc : Ft) (op : PO) : Prop := op.go env s (d.getD 0) fun v ch => evalD env is (s.ap d v ch) ((op.rd s (d.getD 0), ch.wrs) :: acc) K
def guardD (env : Env) (K : St → Ft → Prop) (is : List PI) (s : St) (d : Option Nat) (acc : Ft) (op : PO) (t : Nat) (want : Bool) (o : Option Bool) : Prop :=
  withSome o fun b => (b = want → goD env K is (s.ap (some t) (scAv (.bool want)) .no) d acc op) ∧ (b = !want → evalD env is ((s.ap (some t) (scAv (.bool !want)) .no).ap d .un .no) ((op.rd s (d.getD 0), []) :: acc) K)
theorem guardD_some {op : PO} {t : Nat} {want b : Bool} : guardD env KD is s d acc op t want (some b) = ((b = want → goD env KD is (s.ap (some t) (scAv (.bool want)) .no) d acc op) ∧ (b = !want → evalD env is ((s.ap (some t) (scAv (.bool !want)) .no).ap d .un .no) ((op.rd s (d.getD 0), []) :: acc) KD)) := nrfl rfl
theorem evalD_nil : evalD env [] s acc KD = KD s acc.reverse := nrfl rfl
theorem goD_fn {op : PO} (h : op.isCall = false) : goD env KD is s d acc op = contD env KD is s d acc (op.rd s (d.getD 0)) (op.fn s (d.getD 0)) := by
  unfold goD
  rw [PO.go_fn h]
  rfl
def opD (env : Env) (K : St → Ft → Prop) (is : List PI) (s : St) (d : Option Nat) (acc : Ft) (b : Bool) (op : PO) : Prop := match b with
  | true => (match op with | .call f xs => callD env K is s d acc f (s.args xs) | _ => False)
  | false => contD env K is s d acc (op.rd s (d.getD 0)) (op.fn s (d.getD 0))
theorem opD_false {op : PO} : opD env KD is s d acc false op = contD env KD is s d acc (op.rd s (d.getD 0)) (op.fn s (d.getD 0)) := nrfl rfl
theorem opD_true {f : Nat} {xs : List PX} : opD env KD is s d acc true (.call f xs) = callD env KD is s d acc f (s.args xs) := nrfl rfl
theorem goD_op {op : PO} : goD env KD is s d acc op = opD env KD is s d acc op.isCall op := by
  cases hc : op.isCall with
  | true => cases op <;> first | rfl | cases hc
  | false => rw [opD_false, goD_fn hc]
theorem goD_call {f : Nat} {xs : List PX} : goD env KD is s d acc (.call f xs) = callD env KD is s d acc f (s.args xs) := nrfl rfl
theorem evalD_plain {op : PO} : evalD env (⟨d, op, none, af⟩ :: is) s acc KD = goD env KD is s d acc op := nrfl rfl
theorem evalD_guard {op : PO} {t : Nat} {want : Bool} : evalD env (⟨d, op, some (t, want), af⟩ :: is) s acc KD = guardD env KD is s d acc op t want (s.boo (.t t)) := by
  change withSome (s.boo (.t t)) _ = guardD env KD is s d acc op t want (s.boo (.t t))
  cases h : s.boo (.t t) with
  | none => rfl
  | some b =>
    have hb := boo_self h
    rw [guardD_some]
    show ((b = want → _) ∧ (b = !want → _)) = _
    congr 1
    · apply propext
      refine forall_congr' fun he => ?_
      subst he
      rw [hb]
      rfl
    · apply propext
      refine forall_congr' fun he => ?_
      rw [← he, hb]
      rfl

/-- what comes behind: codes, ends of blocks, of loops -/
inductive It where
  | c (x : PC)
  | bl (id : Nat)
  | lp (I : Nat → St → Prop) (n : Nat)
def exS (env : Env) : List It → (Exit → St → Prop) → Exit → St → Prop
  | [], Q, e, s => Q e s
  | .c b :: k, Q, e, s => match e with
    | .normal => pwp env b (exS env k Q) s
    | e => exS env k Q e s
  | .bl id :: k, Q, e, s => match e with
    | .exit i => if i = id then exS env k Q .normal s else exS env k Q (.exit i) s
    | e => exS env k Q e s
  | .lp I n :: k, Q, e, s => match e with
    | .normal => ∃ m, m < n ∧ I m s
    | e => exS env k Q e s

variable {k : List It} {Q : Exit → St → Prop}
theorem exS_nil {e : Exit} : exS env [] Q e s = Q e s := nrfl rfl
theorem exS_c {b : PC} : exS env (.c b :: k) Q .normal s = pwp env b (exS env k Q) s := nrfl rfl
theorem exS_c_ret {b : PC} : exS env (.c b :: k) Q .ret s = exS env k Q .ret s := nrfl rfl
theorem exS_c_exit {b : PC} {i : Nat} : exS env (.c b :: k) Q (.exit i) s = exS env k Q (.exit i) s := nrfl rfl
theorem exS_bl {id : Nat} : exS env (.bl id :: k) Q .normal s = exS env k Q .normal s := nrfl rfl
theorem exS_bl_ret {id : Nat} : exS env (.bl id :: k) Q .ret s = exS env k Q .ret s := nrfl rfl
theorem exS_bl_exit {id i : Nat} : exS env (.bl id :: k) Q (.exit i) s = if i = id then exS env k Q .normal s else exS env k Q (.exit i) s := nrfl rfl
theorem exS_lp {I : Nat → St → Prop} {n : Nat} : exS env (.lp I n :: k) Q .normal s = ∃ m, m < n ∧ I m s := nrfl rfl
theorem exS_lp_ret {I : Nat → St → Prop} {n : Nat} : exS env (.lp I n :: k) Q .ret s = exS env k Q .ret s := nrfl rfl
theorem exS_lp_exit {I : Nat → St → Prop} {n i : Nat} : exS env (.lp I n :: k) Q (.exit i) s = exS env k Q (.exit i) s := nrfl rfl

theorem pwp_start {c : PC} (h : pwp env c (exS env [] Q) s) : pwp env c Q s := h
theorem pwp_skip : pwp env .skip (exS env k Q) s = exS env k Q .normal s := nrfl rfl
theorem pwp_reg {ops : List PI} : pwp env (.reg false ops) (exS env k Q) s = evalOps env ops s (exS env k Q .normal) := nrfl rfl
def drawn (ops : List PI) (K : St → Prop) (s : St) (fts : Ft) : Prop := drawOk ops fts = true ∧ K s
/-- the check of a drawn region: closed by drw -/
def Drw (ops : List PI) (fts : Ft) : Prop := drawOk ops fts = true
theorem drawn_and {ops : List PI} {K : St → Prop} {fts : Ft} : drawn ops K s fts = (Drw ops fts ∧ K s) := nrfl rfl
theorem pwp_regD {ops : List PI} : pwp env (.reg true ops) (exS env k Q) s = evalD env ops s [] (drawn ops (exS env k Q .normal)) := nrfl rfl
theorem pwp_seq {a b : PC} : pwp env (.seq a b) (exS env k Q) s = pwp env a (exS env (.c b :: k) Q) s := by
  show pwp env a _ s = _
  congr 1
def condS (env : Env) (a b : PC) (k : List It) (Q : Exit → St → Prop) (s : St) (o : Option Bool) : Prop := withSome o fun t => (t = true → pwp env a (exS env k Q) s) ∧ (t = false → pwp env b (exS env k Q) s)
theorem condS_some {a b : PC} {t : Bool} : condS env a b k Q s (some t) = ((t = true → pwp env a (exS env k Q) s) ∧ (t = false → pwp env b (exS env k Q) s)) := nrfl rfl
theorem pwp_cond {c : PX} {a b : PC} : pwp env (.cond c a b) (exS env k Q) s = condS env a b k Q s (s.boo c) := nrfl rfl
theorem pwp_block {id : Nat} {c : PC} : pwp env (.block id c) (exS env k Q) s = pwp env c (exS env (.bl id :: k) Q) s := by
  show pwp env c _ s = _
  congr 1
theorem pwp_exit {id : Nat} : pwp env (.exit id) (exS env k Q) s = exS env k Q (.exit id) s := nrfl rfl
theorem pwp_ret : pwp env .ret (exS env k Q) s = exS env k Q .ret s := nrfl rfl
theorem pwp_loop {c : PC} (I : Nat → St → Prop) (n : Nat) (h0 : I n s) (h : ∀ n s, I n s → pwp env c (exS env (.lp I n :: k) Q) s) : pwp env (.loop c) (exS env k Q) s := by
  refine ⟨I, ⟨n, h0⟩, fun n s hI => ?_⟩
  have := h n s hI
  have he : exS env (.lp I n :: k) Q = fun e s' => match e with | .normal => ∃ m, m < n ∧ I m s' | e => exS env k Q e s' := by
    funext e s'
    cases e <;> rfl
  rw [he] at this
  exact this

/-! the parts of a state -/
theorem ap_sl {x : Nat} {v : Av} {ch : Cg} : (s.ap (some x) v ch).sl = up s.sl x v := nrfl rfl
theorem ap_sl0 {v : Av} {ch : Cg} : (s.ap none v ch).sl = s.sl := nrfl rfl
theorem ap_gen {v : Av} : (s.ap d v .no).gen = s.gen := nrfl rfl
theorem ap_genw {v : Av} {o off : Nat} {cs : List Cl} : (s.ap d v (.wr o off cs)).gen = s.gen := nrfl rfl
theorem ap_genr {v : Av} {o m : Nat} : (s.ap d v (.row o m)).gen = s.gen := nrfl rfl
theorem ap_genn {v : Av} {o : Nat} {x : Ob} : (s.ap d v (.new o x)).gen = up s.gen o (s.gen o + 1) := nrfl rfl
theorem ap_ob {v : Av} : (s.ap d v .no).ob = s.ob := nrfl rfl
theorem ap_obw {v : Av} {o off : Nat} {cs : List Cl} : (s.ap d v (.wr o off cs)).ob = up s.ob o (wrF off cs (s.ob o)) := by
  rw [ap_eq]; rfl
theorem ap_obr {v : Av} {o m : Nat} : (s.ap d v (.row o m)).ob = up s.ob o (rowF m (s.ob o)) := by
  rw [ap_eq]; rfl
theorem ap_obn {v : Av} {o : Nat} {x : Ob} : (s.ap d v (.new o x)).ob = up s.ob o x := nrfl rfl
theorem wrF_cells {off : Nat} {cs old : List Cl} : wrF off cs (.cells old) = .cells (wrAt old off cs) := nrfl rfl
theorem rowF_row {m E sz n : Nat} : rowF m (.row E sz n) = .row E sz m := nrfl rfl

def initSl : List Pa → Nat → Av
  | [], _ => .un
  | p :: _, 0 => .b p.bv
  | _ :: r, n + 1 => initSl r n
theorem init_sl (ps : List Pa) (x : Nat) : (St.init ps).sl x = initSl ps x := by
  show (match ps[x]? with | some p => Av.b p.bv | none => .un) = _
  induction ps generalizing x with
  | nil => simp [initSl]
  | cons p r ih =>
    cases x with
    | zero => rfl
    | succ x => rw [List.getElem?_cons_succ, ih x]; rfl
theorem init_gen {ps : List Pa} {x : Nat} : (St.init ps).gen x = 0 := nrfl rfl
theorem init_ob {ps : List Pa} {x : Nat} : (St.init ps).ob x = .no := nrfl rfl

theorem ev_t {x : Nat} : s.ev (.t x) = s.sl x := nrfl rfl
theorem ev_int {k : IntKind} {m : Int} : s.ev (.v (.int k m)) = .b (.one (.d (.sc (.int k m)))) := nrfl rfl
theorem ev_bool {b : Bool} : s.ev (.v (.bool b)) = .b (.one (.d (.sc (.bool b)))) := nrfl rfl
theorem ev_string {b : ByteArray} : s.ev (.v (.string b)) = .b (.one (.d (.sc (.string b)))) := nrfl rfl
theorem ev_nil : s.ev (.v (.slice none 0 0)) = .b (.one (.d (.sc (.slice none 0 0)))) := nrfl rfl
theorem ev_agg {l : Array Value} : s.ev (.v (.agg l)) = .b (.agg (l.toList.map fun v => .d (.sc v))) := nrfl rfl
theorem ev_ptr : s.ev (.v (.pointer none)) = .b (.one (.d (.sc (.pointer none)))) := nrfl rfl

theorem args_nil : s.args [] = some [] := nrfl rfl
theorem args_cons {x : PX} {xs : List PX} : s.args (x :: xs) = (match (s.ev x).pa with | some p => (s.args xs).map (p :: ·) | none => none) := by
  unfold St.args
  simp only [List.map_cons]
  cases (s.ev x).pa <;> rfl
end

/-- st is s0 but for the slots ms and the objects os -/
def Within (ms os : List Nat) (s0 st : St) : Prop := (∀ x, ms.contains x = false → st.sl x = s0.sl x) ∧ ∀ o, os.contains o = false → st.gen o = s0.gen o ∧ st.ob o = s0.ob o
def over (ms os : List Nat) (s0 j : St) : St := ⟨fun x => bif ms.contains x then j.sl x else s0.sl x, fun o => bif os.contains o then j.gen o else s0.gen o, fun o => bif os.contains o then j.ob o else s0.ob o⟩
theorem Within.refl (ms os : List Nat) (s : St) : Within ms os s s := ⟨fun _ _ => rfl, fun _ _ => ⟨rfl, rfl⟩⟩
theorem Within.over {ms os : List Nat} {s0 st : St} (h : Within ms os s0 st) : ∃ j, st = over ms os s0 j := by
  refine ⟨st, ?_⟩
  obtain ⟨h1, h2⟩ := h
  have e1 : st.sl = (Go.Proofs.Ytkdagjlkejefnaa.over ms os s0 st).sl := by
    funext x
    show st.sl x = bif ms.contains x then st.sl x else s0.sl x
    cases hx : ms.contains x with
    | true => rfl
    | false => exact h1 x hx
  have e2 : st.gen = (Go.Proofs.Ytkdagjlkejefnaa.over ms os s0 st).gen := by
    funext x
    show st.gen x = bif os.contains x then st.gen x else s0.gen x
    cases hx : os.contains x with
    | true => rfl
    | false => exact (h2 x hx).1
  have e3 : st.ob = (Go.Proofs.Ytkdagjlkejefnaa.over ms os s0 st).ob := by
    funext x
    show st.ob x = bif os.contains x then st.ob x else s0.ob x
    cases hx : os.contains x with
    | true => rfl
    | false => exact (h2 x hx).2
  show (⟨st.sl, st.gen, st.ob⟩ : St) = ⟨(Go.Proofs.Ytkdagjlkejefnaa.over ms os s0 st).sl, (Go.Proofs.Ytkdagjlkejefnaa.over ms os s0 st).gen, (Go.Proofs.Ytkdagjlkejefnaa.over ms os s0 st).ob⟩
  rw [← e1, ← e2, ← e3]
theorem over_sl {ms os : List Nat} {s0 j : St} {x : Nat} : (over ms os s0 j).sl x = bif ms.contains x then j.sl x else s0.sl x := nrfl rfl
theorem over_gen {ms os : List Nat} {s0 j : St} {x : Nat} : (over ms os s0 j).gen x = bif os.contains x then j.gen x else s0.gen x := nrfl rfl
theorem over_ob {ms os : List Nat} {s0 j : St} {x : Nat} : (over ms os s0 j).ob x = bif os.contains x then j.ob x else s0.ob x := nrfl rfl
theorem within_over {ms os : List Nat} {s0 j : St} : Within ms os s0 (over ms os s0 j) = True := by
  apply propext
  refine ⟨fun _ => trivial, fun _ => ⟨fun x hx => ?_, fun o ho => ⟨?_, ?_⟩⟩⟩
  · rw [over_sl, hx]; rfl
  · rw [over_gen, ho]; rfl
  · rw [over_ob, ho]; rfl
theorem within_self {ms os : List Nat} {s : St} : Within ms os s s = True := propext ⟨fun _ => trivial, fun _ => Within.refl _ _ _⟩
def chIn (os : List Nat) : Cg → Bool
  | .no => true
  | .new o _ => os.contains o
  | .wr o _ _ => os.contains o
  | .row o _ => os.contains o
theorem Within.ap {ms os : List Nat} {s0 s : St} {d : Option Nat} {v : Av} {ch : Cg} (h : Within ms os s0 s) (hd : ∀ x, d = some x → ms.contains x = true) (hc : chIn os ch = true) : Within ms os s0 (s.ap d v ch) := by
  obtain ⟨h1, h2⟩ := h
  rw [ap_eq]
  refine ⟨fun x hx => ?_, fun o ho => ?_⟩
  · cases d with
    | none => exact h1 x hx
    | some y =>
      show up s.sl y v x = _
      rw [up_at, if_neg]
      · exact h1 x hx
      · rintro rfl
        rw [hd x rfl] at hx
        cases hx
  · have key : ∀ y : Nat, os.contains y = true → o ≠ y := by
      rintro y hy rfl
      rw [hy] at ho; cases ho
    show ch.gF s.gen o = _ ∧ ch.oF s.ob o = _
    cases ch with
    | no => exact h2 o ho
    | new y x => simp only [Cg.gF, Cg.oF, Go.Proofs.Ytkdagjlkejefnaa.md, up_at, if_neg (key y hc)]; exact h2 o ho
    | wr y off cs => simp only [Cg.gF, Cg.oF, Go.Proofs.Ytkdagjlkejefnaa.md, up_at, if_neg (key y hc)]; exact h2 o ho
    | row y m => simp only [Cg.gF, Cg.oF, Go.Proofs.Ytkdagjlkejefnaa.md, up_at, if_neg (key y hc)]; exact h2 o ho
theorem within_ap {ms os : List Nat} {s0 s : St} {x : Nat} {v : Av} {ch : Cg} (h : Within ms os s0 s) (hd : ms.contains x = true) (hc : chIn os ch = true) : Within ms os s0 (s.ap (some x) v ch) := h.ap (fun y hy => by cases hy; exact hd) hc
theorem within_ap0 {ms os : List Nat} {s0 s : St} {v : Av} {ch : Cg} (h : Within ms os s0 s) (hc : chIn os ch = true) : Within ms os s0 (s.ap none v ch) := h.ap (fun y hy => by cases hy) hc
theorem Within.trans {ms os : List Nat} {a b c : St} (h : Within ms os a b) (k : Within ms os b c) : Within ms os a c :=
  ⟨fun x hx => (k.1 x hx).trans (h.1 x hx), fun o ho => ⟨(k.2 o ho).1.trans (h.2 o ho).1, (k.2 o ho).2.trans (h.2 o ho).2⟩⟩

/-- a loop that turns the slots ms and the objects os alone -/
theorem pwp_loopW {env : Env} {k : List It} {Q : Exit → St → Prop} {s : St} {c : PC} (ms os : List Nat) (J : Nat → St → Prop) (m0 : Nat) (h0 : J m0 s)
    (h : ∀ m j, J m (over ms os s j) → pwp env c (exS env (.lp (fun m st => Within ms os s st ∧ J m st) m :: k) Q) (over ms os s j)) : pwp env (.loop c) (exS env k Q) s :=
  pwp_loop (fun m st => Within ms os s st ∧ J m st) m0 ⟨Within.refl _ _ _, h0⟩ (fun m st ⟨hW, hJ⟩ => by
    obtain ⟨j, rfl⟩ := hW.over
    exact h m j hJ)

/-! numbers -/
theorem wr64 {x : Int} (h1 : -9223372036854775808 ≤ x) (h2 : x ≤ 9223372036854775807) : IntKind.i64.wrap x = x := IntWalk.i64_in x ⟨h1, h2⟩
theorem wrN {k : Nat} (h : k ≤ 1000000000) : IntKind.i64.wrap ((k : Int) + 1) = ((k + 1 : Nat) : Int) := by
  rw [wr64 (by omega) (by omega)]; omega
end Go.Proofs.Ytkdagjlkejefnaa
