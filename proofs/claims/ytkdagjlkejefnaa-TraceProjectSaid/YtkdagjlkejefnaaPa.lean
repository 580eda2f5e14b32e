/- A plain reading of the operations of a program: values without addresses, rows that never turn, objects of the call's own. Definitions. -/
import Derived.Below
import Derived.Laws.AppendOwn
import Derived.Calls
import Derived.Orders
set_option linter.unusedSimpArgs false
set_option linter.unusedVariables false
namespace Go.Proofs.Ytkdagjlkejefnaa
open Go Go.RowKit

/-- plain data: a scalar, or a slice that nobody turns -/
inductive Dt where
  | sc (v : Value)
  | im (rows : List (List Dt))
instance : Inhabited Dt := ⟨.sc undef⟩

/-- what a cell holds -/
inductive Cl where
  | un
  | d (x : Dt)
  | own (o g : Nat) (rows : List (List Dt))
  | ptr (o g off : Nat)
  | el (row : List Dt) (off : Nat)
  | ab (o g : Nat)
instance : Inhabited Cl := ⟨.un⟩

/-- what a variable holds -/
inductive Bv where
  | one (c : Cl)
  | agg (cs : List Cl)
inductive Av where
  | un
  | b (x : Bv)
  | tup (xs : List Bv)

/-- what an object of another maker is: a predicate of the world, its value and its blocks -/
structure HP where
  r : World → Value → (Nat → Prop) → Prop
  keep : ∀ w w' v fp, r w v fp → (∀ b, fp b → w'.heap[b]? = w.heap[b]?) → r w' v fp
  lt : ∀ w v fp b, r w v fp → fp b → b < w.heap.size

inductive Ob where
  | no
  | cells (cs : List Cl)
  | row (E sz n : Nat)
  | ab (H : HP)

structure St where
  sl : Nat → Av
  gen : Nat → Nat
  ob : Nat → Ob

def up {α : Type} (f : Nat → α) (x : Nat) (v : α) : Nat → α := fun y => if y = x then v else f y
theorem up_at {α : Type} (f : Nat → α) (x : Nat) (v : α) (y : Nat) : up f x v y = if y = x then v else f y := rfl

inductive PX where
  | t (n : Nat)
  | v (c : Value)

inductive PO where
  | mv (x : PX)
  | nilRow (E sz : Nat)
  | pick (c a b : PX)
  | box (x : PX)
  | new (zero : List Value)
  | build (zero : List Value) (parts : List (Nat × Nat × PX))
  | bslice (E sz : Nat) (zero : List Value) (len : Nat) (parts : List (Nat × Nat × PX))
  | load (n : Option Nat) (a : PX)
  | store (sz : Nat) (a x : PX)
  | fld (off : Nat) (x : PX)
  | fldv (off : Nat) (n : Option Nat) (x : PX)
  | ixa (len sz : Nat) (x i : PX)
  | ixs (sz : Nat) (x i : PX)
  | ixv (len sz : Nat) (n : Option Nat) (x i : PX)
  | ixstr (x i : PX)
  | bin (op : BinOp) (x y : PX)
  | eqb (neg : Bool) (x y : PX)
  | eqs (neg : Bool) (ks : List Bool) (x y : PX)
  | un (op : UnOp) (x : PX)
  | conv (k : IntKind) (x : PX)
  | slc (sz : Nat) (x : PX) (lo hi : Option PX)
  | substr (x : PX) (lo hi : Option PX)
  | len (x : PX)
  | strlen (x : PX)
  | alen (n : Nat)
  | append (E sz bytes : Nat) (x y : PX)
  | mm (big : Bool) (xs : List PX)
  | ext (x : PX) (i : Nat)
  | nilck (x : PX)
  | call (f : Nat) (args : List PX)

structure PI where
  dst : Option Nat
  op : PO
  guard : Option (Nat × Bool)
  after : List Nat

inductive PC where
  | skip
  | reg (draw : Bool) (ops : List PI)
  | seq (a b : PC)
  | cond (c : PX) (a b : PC)
  | block (id : Nat) (c : PC)
  | loop (c : PC)
  | exit (id : Nat)
  | ret

/-- data handed over between functions -/
inductive Pa where
  | one (x : Dt)
  | agg (xs : List Dt)

def Cl.dt : Cl → Option Dt
  | .d (.sc (.slice none 0 0)) => some (.im [])
  | .d x => some x
  | .own _ _ rows => some (.im rows)
  | _ => none
def allSome {α : Type} : List (Option α) → Option (List α)
  | [] => some []
  | none :: _ => none
  | some x :: l => (allSome l).map (x :: ·)
def Bv.pa : Bv → Option Pa
  | .one c => c.dt.map .one
  | .agg cs => (allSome (cs.map Cl.dt)).map .agg
def Av.pa : Av → Option Pa
  | .b x => x.pa
  | _ => none
def Pa.bv : Pa → Bv
  | .one x => .one (.d x)
  | .agg xs => .agg (xs.map .d)
/-- what a call hands back: nothing, one value, several -/
def resAv : List Pa → Av
  | [] => .un
  | [x] => .b x.bv
  | xs => .tup (xs.map Pa.bv)

def constAv : Value → Av
  | .agg a => .b (.agg (a.toList.map fun v => .d (.sc v)))
  | .tuple _ => .un
  | v => .b (.one (.d (.sc v)))
def St.ev (s : St) : PX → Av
  | .t n => s.sl n
  | .v c => constAv c
def St.cl (s : St) (x : PX) : Cl := match s.ev x with
  | .b (.one c) => c
  | _ => .un
/-- the scalar that an operand holds -/
def St.val (s : St) (x : PX) : Option Value := match s.ev x with
  | .b (.one (.d (.sc v))) => some v
  | _ => none
def St.int (s : St) (x : PX) : Option Int := match s.ev x with
  | .b (.one (.d (.sc (.int _ n)))) => some n
  | _ => none
def St.boo (s : St) (x : PX) : Option Bool := match s.ev x with
  | .b (.one (.d (.sc (.bool b)))) => some b
  | _ => none
/-- the cells of a value -/
def St.cs (s : St) (x : PX) : Option (List Cl) := match s.ev x with
  | .b (.one c) => some [c]
  | .b (.agg cs) => some cs
  | _ => none
/-- the rows of a slice that is only read -/
def Cl.rows : Cl → Option (List (List Dt))
  | .d (.im rows) => some rows
  | .d (.sc (.slice none 0 0)) => some []
  | .own _ _ rows => some rows
  | _ => none
def mkAv (n : Option Nat) (cs : List Cl) (off : Nat) : Option Av := match n with
  | none => (cs[off]?).map fun c => .b (.one c)
  | some k => if off + k ≤ cs.length then some (.b (.agg ((cs.drop off).take k))) else none
def splice (cs : List Cl) (off : Nat) (new : List Cl) : List Cl := cs.take off ++ new ++ cs.drop (off + new.length)
/-- the cells ds written over cs, from a place on -/
def wrAt : List Cl → Nat → List Cl → List Cl
  | [], _, _ => []
  | c :: cs, 0, [] => c :: cs
  | _ :: cs, 0, d :: ds => d :: wrAt cs 0 ds
  | c :: cs, k + 1, ds => c :: wrAt cs k ds
def chunks {α : Type} : Nat → Nat → List α → List (List α)
  | 0, _, _ => []
  | n + 1, sz, xs => xs.take sz :: chunks n sz (xs.drop sz)
theorem chunks_eq {α : Type} (sz : Nat) : ∀ (n : Nat) (xs : List α), chunks n sz xs = (List.range n).map fun i => (xs.drop (i * sz)).take sz
  | 0, _ => rfl
  | n + 1, xs => by
    rw [chunks, chunks_eq sz n, List.range_succ_eq_map, List.map_cons, List.map_map]
    congr 1
    · simp
    · apply List.map_congr_left
      intro i _
      simp only [Function.comp, List.drop_drop]
      congr 2
      rw [Nat.succ_mul]; omega
def fillAll (cs : List Cl) : List (Nat × List Cl) → Option (List Cl)
  | [] => some cs
  | (o, new) :: rest => if o + new.length ≤ cs.length then fillAll (splice cs o new) rest else none
/-- parts: offset, size, operand -/
def St.parts (s : St) : List (Nat × Nat × PX) → Option (List (Nat × List Cl))
  | [] => some []
  | (o, k, x) :: rest => match s.cs x with
    | some c => if c.length = k then (s.parts rest).map ((o, c) :: ·) else none
    | none => none

def scBin (op : BinOp) : Value → Value → Option Value
  | .int k a, .int k' b => match op with
    | .shl => if b < 0 then none else some (.int k (k.wrap (a * 2 ^ (min b.toNat k.bits))))
    | .shr => if b < 0 then none else some (.int k (a.fdiv (2 ^ (min b.toNat k.bits))))
    | .add => if k = k' then some (.int k (k.wrap (a + b))) else none
    | .sub => if k = k' then some (.int k (k.wrap (a - b))) else none
    | .mul => if k = k' then some (.int k (k.wrap (a * b))) else none
    | .quo => if k = k' ∧ b ≠ 0 then some (.int k (k.wrap (a.tdiv b))) else none
    | .rem => if k = k' ∧ b ≠ 0 then some (.int k (a.tmod b)) else none
    | .and => if k = k' then some (.int k (k.wrap (BitVec.ofInt k.bits a &&& BitVec.ofInt k.bits b).toNat)) else none
    | .or => if k = k' then some (.int k (k.wrap (BitVec.ofInt k.bits a ||| BitVec.ofInt k.bits b).toNat)) else none
    | .xor => if k = k' then some (.int k (k.wrap (BitVec.ofInt k.bits a ^^^ BitVec.ofInt k.bits b).toNat)) else none
    | .eql => if k = k' then some (.bool (a == b)) else none
    | .neq => if k = k' then some (.bool (a != b)) else none
    | .lss => if k = k' then some (.bool (a < b)) else none
    | .leq => if k = k' then some (.bool (a ≤ b)) else none
    | .gtr => if k = k' then some (.bool (a > b)) else none
    | .geq => if k = k' then some (.bool (a ≥ b)) else none
    | _ => none
  | .string a, .string b => match op with
    | .add => if ((a.size + b.size : Nat) : Int) ≤ 9223372036854775807 then some (.string (a ++ b)) else none
    | .eql => some (.bool (a.toList == b.toList))
    | .neq => some (.bool !(a.toList == b.toList))
    | _ => none
  | _, _ => none

/-- two cells of a comparable type; kb: whether it is bool, else int -/
def eqCl (kb : Bool) : Cl → Cl → Option Bool
  | .d (.sc (.int k a)), .d (.sc (.int k' b)) => if kb = false ∧ k = k' then some (a == b) else none
  | .d (.sc (.bool a)), .d (.sc (.bool b)) => if kb = true then some (a == b) else none
  | _, _ => none
def eqCls : List Bool → List Cl → List Cl → Option Bool
  | [], [], [] => some true
  | k :: ks, x :: xs, y :: ys => match eqCl k x y, eqCls ks xs ys with
    | some a, some b => some (a && b)
    | _, _ => none
  | _, _, _ => none

def scMM (big : Bool) : Value → Value → Option Value
  | .int k a, .int k' b => if k = k' then some (.int k (if big then (if b > a then b else a) else (if b < a then b else a))) else none
  | _, _ => none

/-- what an operation does to the objects -/
inductive Cg where
  | no
  | new (o : Nat) (x : Ob)
  | wr (o off : Nat) (cs : List Cl)
  | row (o n : Nat)

def St.ap (s : St) (dst : Option Nat) (v : Av) (ch : Cg) : St where
  sl := match dst with
    | some d => up s.sl d v
    | none => s.sl
  gen := match ch with
    | .new o _ => up s.gen o (s.gen o + 1)
    | _ => s.gen
  ob := match ch with
    | .no => s.ob
    | .new o x => up s.ob o x
    | .wr o off cs => up s.ob o (match s.ob o with | .cells old => .cells (wrAt old off cs) | x => x)
    | .row o n => up s.ob o (match s.ob o with | .row E sz _ => .row E sz n | x => x)

def scAv (v : Value) : Av := .b (.one (.d (.sc v)))

/-- the operations but calls; d: the slot that is written, it names what is made -/
def PO.fn (s : St) (d : Nat) : PO → Option (Av × Cg)
  | .mv x => some (s.ev x, .no)
  | .nilRow E sz => some (.b (.one (.own d (s.gen d + 1) [])), .new d (.row E sz 0))
  | .pick c a b => (s.boo c).map fun t => (if t then s.ev a else s.ev b, .no)
  | .box x => (s.cs x).map fun cs => (.b (.one (.ptr d (s.gen d + 1) 0)), .new d (.cells cs))
  | .new z => some (.b (.one (.ptr d (s.gen d + 1) 0)), .new d (.cells (z.map fun v => .d (.sc v))))
  | .build z ps => (s.parts ps).bind fun ps => (fillAll (z.map fun v => .d (.sc v)) ps).map fun cs => (.b (.agg cs), .no)
  | .bslice E sz z ln ps => (s.parts ps).bind fun ps => (fillAll (z.map fun v => .d (.sc v)) ps).bind fun cs =>
      (allSome (cs.map Cl.dt)).map fun xs => (.b (.one (.own d (s.gen d + 1) (chunks ln sz xs))), .new d (.row E sz ln))
  | .load n a => match s.cl a with
    | .ptr o g off => if s.gen o = g then (match s.ob o with | .cells cs => (mkAv n cs off).map (·, .no) | _ => none) else none
    | .el row off => (mkAv n (row.map .d) off).map (·, .no)
    | _ => none
  | .store sz a x => match s.cl a, s.cs x with
    | .ptr o g off, some nw => if s.gen o = g ∧ nw.length = sz then (match s.ob o with | .cells cs => if off + sz ≤ cs.length then some (.un, .wr o off nw) else none | _ => none) else none
    | _, _ => none
  | .fld off x => match s.cl x with
    | .ptr o g k => if s.gen o = g then some (.b (.one (.ptr o g (k + off))), .no) else none
    | .el row k => some (.b (.one (.el row (k + off))), .no)
    | _ => none
  | .fldv off n x => match s.ev x with
    | .b (.agg cs) => (mkAv n cs off).map (·, .no)
    | _ => none
  | .ixa ln sz x i => match s.cl x, s.int i with
    | .ptr o g off, some k => if s.gen o = g ∧ 0 ≤ k ∧ k < ln then some (.b (.one (.ptr o g (off + k.toNat * sz))), .no) else none
    | .el row off, some k => if 0 ≤ k ∧ k < ln then some (.b (.one (.el row (off + k.toNat * sz))), .no) else none
    | _, _ => none
  | .ixs sz x i => match (s.cl x).rows, s.int i with
    | some rows, some k => if 0 ≤ k then (match rows[k.toNat]? with | some row => if row.length = sz then some (.b (.one (.el row 0)), .no) else none | none => none) else none
    | _, _ => none
  | .ixv ln sz n x i => match s.ev x, s.int i with
    | .b (.agg cs), some k => if 0 ≤ k ∧ k < ln then (mkAv n cs (k.toNat * sz)).map (·, .no) else none
    | _, _ => none
  | .ixstr x i => match s.val x, s.int i with
    | some (.string b), some k => if 0 ≤ k then (b[k.toNat]?).map fun c => (scAv (.int .u8 c.toNat), .no) else none
    | _, _ => none
  | .bin op x y => match s.val x, s.val y with
    | some a, some b => (scBin op a b).map fun v => (scAv v, .no)
    | _, _ => none
  | .eqb neg x y => match s.boo x, s.boo y with
    | some a, some b => some (scAv (.bool (if neg then !(a == b) else a == b)), .no)
    | _, _ => none
  | .eqs neg ks x y => match s.ev x, s.ev y with
    | .b (.agg a), .b (.agg b) => (eqCls ks a b).map fun t => (scAv (.bool (if neg then !t else t)), .no)
    | _, _ => none
  | .un op x => match op, s.val x with
    | .not, some (.bool b) => some (scAv (.bool !b), .no)
    | .neg, some (.int k n) => some (scAv (.int k (k.wrap (0 - n))), .no)
    | .xor, some (.int k n) => some (scAv (.int k (k.wrap (BitVec.ofInt k.bits (if k.signed then -1 else k.max) ^^^ BitVec.ofInt k.bits n).toNat)), .no)
    | _, _ => none
  | .conv k x => (s.int x).map fun n => (scAv (.int k (k.wrap n)), .no)
  | .slc sz x lo hi => match (s.cl x).rows with
    | some rows =>
      let l := (lo.map s.int).getD (some 0)
      let h := (hi.map s.int).getD (some (rows.length : Int))
      match l, h with
      | some l, some h => if 0 ≤ l ∧ l ≤ h ∧ h ≤ rows.length ∧ (∀ r ∈ rows, r.length = sz) then some (.b (.one (.d (.im ((rows.take h.toNat).drop l.toNat)))), .no) else none
      | _, _ => none
    | none => none
  | .substr x lo hi => match s.val x with
    | some (.string b) =>
      let l := (lo.map s.int).getD (some 0)
      let h := (hi.map s.int).getD (some (b.size : Int))
      match l, h with
      | some l, some h => if 0 ≤ l ∧ l ≤ h ∧ h ≤ b.size then some (scAv (.string (b.extract l.toNat h.toNat)), .no) else none
      | _, _ => none
    | _ => none
  | .len x => ((s.cl x).rows).map fun rows => (scAv (.int .i64 rows.length), .no)
  | .strlen x => match s.val x with
    | some (.string b) => some (scAv (.int .i64 b.size), .no)
    | _ => none
  | .alen n => some (scAv (.int .i64 n), .no)
  | .append E sz bytes x y => match s.cl x, (s.cl y).rows with
    | .own o g rows, some news => if s.gen o = g then (match s.ob o with
      | .row E' sz' n => if E' = E ∧ sz' = sz ∧ n = rows.length ∧ (∀ r ∈ news, r.length = sz) ∧ rows.length + news.length ≤ 1000000 ∧ bytes ≤ 1000000 then
          some (.b (.one (.own o g (rows ++ news))), .row o (rows.length + news.length)) else none
      | _ => none) else none
    | _, _ => none
  | .mm big xs => match xs.map s.val with
    | some v :: rest => (rest.foldl (fun acc y => match acc, y with | some a, some b => scMM big a b | _, _ => none) (some v)).map fun v => (scAv v, .no)
    | _ => none
  | .ext x i => match s.ev x with
    | .tup xs => (xs[i]?).map fun v => (.b v, .no)
    | _ => none
  | .nilck x => match s.cl x with
    | .ptr o g off => if s.gen o = g then some (.b (.one (.ptr o g off)), .no) else none
    | _ => none
  | .call _ _ => none

/-- what the functions that are called do: f args results -/
abbrev Env := Nat → List Pa → List Pa → Prop

def withSome {α : Type} : Option α → (α → Prop) → Prop
  | some x, K => K x
  | none, _ => False
theorem withSome_iff {α : Type} {x : Option α} {K : α → Prop} : withSome x K ↔ ∃ y, x = some y ∧ K y := by
  cases x with
  | none => exact ⟨fun h => h.elim, fun ⟨_, h, _⟩ => by cases h⟩
  | some y => exact ⟨fun h => ⟨y, rfl, h⟩, fun ⟨z, h, k⟩ => by cases h; exact k⟩

def St.args (s : St) (xs : List PX) : Option (List Pa) := allSome (xs.map fun x => (s.ev x).pa)
def PO.go (env : Env) (s : St) (d : Nat) (K : Av → Cg → Prop) : PO → Prop
  | .call f xs => withSome (s.args xs) fun as => ∃ rs, env f as rs ∧ K (resAv rs) .no
  | op => withSome (op.fn s d) fun p => K p.1 p.2
def PO.isCall : PO → Bool
  | .mv _ => false
  | .nilRow _ _ => false
  | .pick _ _ _ => false
  | .box _ => false
  | .new _ => false
  | .build _ _ => false
  | .bslice _ _ _ _ _ => false
  | .load _ _ => false
  | .store _ _ _ => false
  | .fld _ _ => false
  | .fldv _ _ _ => false
  | .ixa _ _ _ _ => false
  | .ixs _ _ _ => false
  | .ixv _ _ _ _ _ => false
  | .ixstr _ _ => false
  | .bin _ _ _ => false
  | .eqb _ _ _ => false
  | .eqs _ _ _ _ => false
  | .un _ _ => false
  | .conv _ _ => false
  | .slc _ _ _ _ => false
  | .substr _ _ _ => false
  | .len _ => false
  | .strlen _ => false
  | .alen _ => false
  | .append _ _ _ _ _ => false
  | .mm _ _ => false
  | .ext _ _ => false
  | .nilck _ => false
  | .call _ _ => true
theorem PO.go_fn {env : Env} {s : St} {d : Nat} {K : Av → Cg → Prop} {po : PO} (h : po.isCall = false) : po.go env s d K = withSome (po.fn s d) fun p => K p.1 p.2 := by
  cases po <;> first | rfl | cases h
def PI.go (env : Env) (s : St) (K : Av → Cg → Prop) (i : PI) : Prop := match i.guard with
  | none => i.op.go env s (i.dst.getD 0) K
  | some (t, want) => withSome (s.boo (.t t)) fun b => (b = want → i.op.go env s (i.dst.getD 0) K) ∧ (b = !want → K .un .no)
def evalOps (env : Env) : List PI → St → (St → Prop) → Prop
  | [], s, K => K s
  | i :: is, s, K => i.go env s fun v ch => evalOps env is (s.ap i.dst v ch) K

/-- a range of an object: object, place, length -/
abbrev Rg := Nat × Nat × Nat
def big : Nat := 4611686018427387904
def Cg.wrs : Cg → List Rg
  | .no => []
  | .new o _ => [(o, 0, big)]
  | .wr o off cs => [(o, off, cs.length)]
  | .row o _ => [(o, 0, big)]
/-- what an operation reads of the objects -/
def PO.rd (s : St) (d : Nat) : PO → List Rg
  | .load n a => match s.cl a with
    | .ptr o _ off => [(o, off, n.getD 1)]
    | _ => []
  | .store sz a _ => match s.cl a with
    | .ptr o _ off => [(o, off, sz)]
    | _ => []
  | .fld _ x => match s.cl x with
    | .ptr o _ _ => [(o, big - 1, 1)]
    | _ => []
  | .ixa _ _ x _ => match s.cl x with
    | .ptr o _ _ => [(o, big - 1, 1)]
    | _ => []
  | .nilck x => match s.cl x with
    | .ptr o _ _ => [(o, big - 1, 1)]
    | _ => []
  | .append _ _ _ x _ => match s.cl x with
    | .own o _ _ => [(o, 0, big)]
    | _ => []
  | .nilRow _ _ => [(d, big - 1, 1)]
  | .box _ => [(d, big - 1, 1)]
  | .new _ => [(d, big - 1, 1)]
  | .bslice _ _ _ _ _ => [(d, big - 1, 1)]
  | _ => []
def PI.rd (s : St) (i : PI) : List Rg := i.op.rd s (i.dst.getD 0)
def evalD (env : Env) : List PI → St → List (List Rg × List Rg) → (St → List (List Rg × List Rg) → Prop) → Prop
  | [], s, acc, K => K s acc.reverse
  | i :: is, s, acc, K => i.go env s fun v ch => evalD env is (s.ap i.dst v ch) ((i.rd s, ch.wrs) :: acc) K

def PX.slots : PX → List Nat
  | .t n => [n]
  | .v _ => []
def oslots : Option PX → List Nat
  | some x => x.slots
  | none => []
def PO.slots : PO → List Nat
  | .mv x => x.slots
  | .nilRow _ _ => []
  | .pick c a b => c.slots ++ a.slots ++ b.slots
  | .box x => x.slots
  | .new _ => []
  | .build _ ps => ps.flatMap fun p => p.2.2.slots
  | .bslice _ _ _ _ ps => ps.flatMap fun p => p.2.2.slots
  | .load _ a => a.slots
  | .store _ a x => a.slots ++ x.slots
  | .fld _ x => x.slots
  | .fldv _ _ x => x.slots
  | .ixa _ _ x i => x.slots ++ i.slots
  | .ixs _ x i => x.slots ++ i.slots
  | .ixv _ _ _ x i => x.slots ++ i.slots
  | .ixstr x i => x.slots ++ i.slots
  | .bin _ x y => x.slots ++ y.slots
  | .eqb _ x y => x.slots ++ y.slots
  | .eqs _ _ x y => x.slots ++ y.slots
  | .un _ x => x.slots
  | .conv _ x => x.slots
  | .slc _ x lo hi => x.slots ++ oslots lo ++ oslots hi
  | .substr x lo hi => x.slots ++ oslots lo ++ oslots hi
  | .len x => x.slots
  | .strlen x => x.slots
  | .alen _ => []
  | .append _ _ _ x y => x.slots ++ y.slots
  | .mm _ xs => xs.flatMap PX.slots
  | .ext x _ => x.slots
  | .nilck x => x.slots
  | .call _ xs => xs.flatMap PX.slots
def PI.looks (i : PI) : List Nat := i.op.slots ++ (match i.guard with | some (t, _) => [t] | none => [])

def rgApart (a b : Rg) : Bool := a.1 != b.1 || (decide (a.2.2 < big) && decide (b.2.2 < big) && (decide (a.2.1 + a.2.2 ≤ b.2.1) || decide (b.2.1 + b.2.2 ≤ a.2.1)))
def rgsApart (xs ys : List Rg) : Bool := xs.all fun x => ys.all fun y => rgApart x y
def notIn (d : Option Nat) (l : List Nat) : Bool := match d with
  | some d => !l.contains d
  | none => true
/-- i does not touch what j looks at -/
def indep1 (i j : PI) (wi : List Rg) (rj wj : List Rg) : Bool := notIn i.dst j.looks && rgsApart wi rj && rgsApart wi wj && notIn i.dst (match j.dst with | some d => [d] | none => [])
def masks : List Nat → List PI → List Nat
  | acc, [] => acc
  | acc, i :: r => masks (acc ++ [i.after.foldl (fun m e => m ||| (1 <<< e) ||| acc.getD e 0) 0]) r
/-- all that is not ordered does not touch each other -/
def drawOk (is : List PI) (fts : List (List Rg × List Rg)) : Bool :=
  (List.range is.length).all fun j => (List.range j).all fun i => ((masks [] is).getD j 0).testBit i ||
    (match is[i]?, is[j]?, fts[i]?, fts[j]? with
      | some pi, some pj, some fi, some fj => indep1 pi pj fi.2 fj.1 fj.2 && indep1 pj pi fj.2 fi.1 fi.2
      | _, _, _, _ => false)

/-- the plain weakest precondition -/
def pwp (env : Env) : PC → (Exit → St → Prop) → St → Prop
  | .skip, Q, s => Q .normal s
  | .reg false ops, Q, s => evalOps env ops s (Q .normal)
  | .reg true ops, Q, s => evalD env ops s [] fun s' fts => drawOk ops fts = true ∧ Q .normal s'
  | .seq a b, Q, s => pwp env a (fun e s' => match e with | .normal => pwp env b Q s' | e => Q e s') s
  | .cond c a b, Q, s => withSome (s.boo c) fun t => (t = true → pwp env a Q s) ∧ (t = false → pwp env b Q s)
  | .block id c, Q, s => pwp env c (fun e s' => match e with | .exit i => if i = id then Q .normal s' else Q (.exit i) s' | e => Q e s') s
  | .loop c, Q, s => ∃ I : Nat → St → Prop, (∃ n, I n s) ∧ ∀ n s, I n s → pwp env c (fun e s' => match e with | .normal => ∃ m, m < n ∧ I m s' | e => Q e s') s
  | .exit id, Q, s => Q (.exit id) s
  | .ret, Q, s => Q .ret s
end Go.Proofs.Ytkdagjlkejefnaa
