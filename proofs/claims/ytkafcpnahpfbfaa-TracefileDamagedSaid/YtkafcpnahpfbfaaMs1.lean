/- A plain reading of the operations of a program: values without addresses, rows that never turn, objects of the call's own. Definitions. -/
import Derived.Below
import Derived.Test.YtkafcpnahpfbfaaProg
import Derived.Maps.Keyed
import Derived.Laws.AppendOwn
import Derived.Calls
import Derived.Orders
import Derived.Laws.IdiomStrings
import Derived.Maps.AppendAt
import Derived.Lib.SlBytesConst
import Derived.Laws.Cells
import Derived.Laws.Tables
import Derived.Laws.CopyRow
import Derived.Deep.Upon
import Derived.Laws.Rows
import Derived.Laws.MakeOwn
import Derived.Laws.BytesString
set_option linter.unusedSimpArgs false
set_option linter.unusedVariables false
section
namespace Go.Proofs.Ytkafcpnahpfbfaa
open Go Go.RowKit
inductive Dt where
 | sc (v:Value)
 | im (rows:List (List Dt))
 /-- an interface value that is not nil -/
 | nn
instance:Inhabited Dt:=⟨.sc undef⟩
structure HP where
 r:World→Value→(Nat→Prop)→Prop
 keep:∀ w w' v fp,r w v fp→(∀ b,fp b→w'.heap[b]? = w.heap[b]?)→r w' v fp
 lt:∀ w v fp b,r w v fp→fp b→b < w.heap.size
inductive Hv where
 | p (b off:Nat)
 | s (b off len cap:Nat)
 | m (b:Nat)
 | v (b:Nat)
 | f (fn:Nat) (first caps:List (Nat×Nat))
instance:Inhabited Hv:=⟨.p 0 0⟩
inductive Hc where
 | d (x:Dt)
 | h (v:Hv)
inductive Hw where
 | one (c:Hc)
 | agg (cs:List Hc)
inductive Hb where
 | no
 | dead
 | cells (cs:List Hc)
 /-- the entries (key,stamp,element) and the clock -/
 | map (k:Nat) (es:List (Value×Nat×Hw)) (clock:Nat)
 | vec (E sz:Nat) (rows:List (List Dt))
 | iter (b since:Nat) (seen:List Nat) (c0:Nat)
 | ab (H:HP)
inductive Cl where
 | un
 | d (x:Dt)
 | own (o g:Nat) (rows:List (List Dt))
 | ptr (o g off:Nat)
 | el (row:List Dt) (off:Nat)
 | ab (o g:Nat)
 | sv (o g off len cap sz:Nat)
 | ti (rows:List (List Dt))
 | hv (h:Hv)
instance:Inhabited Cl:=⟨.un⟩
inductive Bv where
 | one (c:Cl)
 | agg (cs:List Cl)
inductive Av where
 | un
 | b (x:Bv)
 | tup (xs:List Bv)
inductive Ob where
 | no
 | cells (cs:List Cl)
 | row (E sz n:Nat)
 | ab (H:HP)
 /-- a part of the heap: block by name -/
 | hp (h:Nat→Hb)
structure St where
 sl:Nat→Av
 gen:Nat→Nat
 ob:Nat→Ob
 nc:Nat→Nat
def HBS:Nat:=1000000
def Hc.cl:Hc→Cl
 | .d x=>.d x
 | .h v=>.hv v
def Hw.bv:Hw→Bv
 | .one c=>.one c.cl
 | .agg cs=>.agg (cs.map Hc.cl)
def up {α:Type} (f:Nat→α) (x:Nat) (v:α):Nat→α:=fun y=>if y=x then v else f y
theorem ay {α:Type} (f:Nat→α) (x:Nat) (v:α) (y:Nat):up f x v y=if y=x then v else f y:=rfl
inductive PX where
 | t (n:Nat)
 | v (c:Value)
inductive HA where
 | new (zero:List Value)
 | box (x:PX)
 | mk (sz bytes:Nat) (zero:List Value) (n c:PX)
 | map (k:Nat)
 | mapn (k:Nat) (x:PX)
 | range (m:PX)
 | app (E sz bytes:Nat) (x y:PX)
 | lit (E sz:Nat) (zero:List Value) (len:Nat) (parts:List (Nat×Nat×PX))
 | view (sz:Nat) (x lo:PX)
inductive PO where
 | mv (x:PX)
 | nilRow (E sz:Nat)
 | pick (c a b:PX)
 | box (x:PX)
 | new (zero:List Value)
 | build (zero:List Value) (parts:List (Nat×Nat×PX))
 | bslice (E sz:Nat) (zero:List Value) (len:Nat) (parts:List (Nat×Nat×PX))
 | load (n:Option Nat) (a:PX)
 | store (sz:Nat) (a x:PX)
 | fld (off:Nat) (x:PX)
 | fldv (off:Nat) (n:Option Nat) (x:PX)
 | ixa (len sz:Nat) (x i:PX)
 | ixs (sz:Nat) (x i:PX)
 | ixv (len sz:Nat) (n:Option Nat) (x i:PX)
 | ixstr (x i:PX)
 | bin (op:BinOp) (x y:PX)
 | eqb (neg:Bool) (x y:PX)
 | eqs (neg:Bool) (ks:List Bool) (x y:PX)
 | un (op:UnOp) (x:PX)
 | conv (k:IntKind) (x:PX)
 | slc (sz:Nat) (x:PX) (lo hi:Option PX)
 | substr (x:PX) (lo hi:Option PX)
 | len (x:PX)
 | strlen (x:PX)
 | alen (n:Nat)
 | append (E sz bytes:Nat) (x y:PX)
 | mm (big:Bool) (xs:List PX)
 | ext (x:PX) (i:Nat)
 | nilck (x:PX)
 | sla (len sz:Nat) (x h:PX)
 | niq (neg:Bool) (x:PX)
 | pnil (neg:Bool) (x:PX)
 | bstr (x:PX)
 | mk (sz bytes:Nat) (zero:List Value) (n c:PX)
 | slc3 (sz:Nat) (x:PX) (lo:Option PX) (hi mx:PX)
 | ixg (len sz g:Nat) (i:PX)
 | call (f:Nat) (args:List PX)
 | callv (x:PX) (f:Nat) (args:List PX)
 | ldg (x:PX)
 | mlk (k:Nat) (z:Hw) (ok:Bool) (m x:PX)
 | mup (k:Nat) (m x v:PX)
 | mdel (k:Nat) (m x:PX)
 | mlen (m:PX)
 | ment (k:Nat) (z:Hw) (m x:PX)
 | mest (m x v:PX)
 | cph (sz:Nat) (x y:PX)
 | mkf (f:Nat) (first caps:List PX)
 | entry (x:PX)
 | hal (c:Nat) (k:HA)
 | next (x:PX)
 | callh (f:Nat) (args:List PX)
 | callp (f:Nat) (args:List PX)
 | callc (x:PX) (f:Nat) (args:List PX)
 | stm (x:PX)
structure PI where
 dst:Option Nat
 op:PO
 guard:Option (Nat×Bool)
 after:List Nat
inductive PC where
 | skip
 | reg (draw:Bool) (ops:List PI)
 | seq (a b:PC)
 | cond (c:PX) (a b:PC)
 | block (id:Nat) (c:PC)
 | loop (c:PC)
 | exit (id:Nat)
 | ret
 | goto (l:Nat)
 | scope (l:Nat) (c r:PC)
inductive Pa where
 | one (x:Dt)
 | agg (xs:List Dt)
def Cl.hc:Cl→Option Hc
 | .d x=>some (.d x)
 | .own _ _ rows=>some (.d (.im rows))
 | .ti rows=>some (.d (.im rows))
 | .hv v=>some (.h v)
 | _=>none
def Cl.dt:Cl→Option Dt
 | .d (.sc (.slice none 0 0))=>some (.im [])
 | .d x=>some x
 | .own _ _ rows=>some (.im rows)
 | .ti rows=>some (.im rows)
 | _=>none
def aC {α:Type}:List (Option α)→Option (List α)
 | []=>some []
 | none :: _=>none
 | some x :: l=>(aC l).map (x :: ·)
def Bv.pa:Bv→Option Pa
 | .one c=>c.dt.map .one
 | .agg cs=>(aC (cs.map Cl.dt)).map .agg
def Bv.hw:Bv→Option Hw
 | .one c=>c.hc.map .one
 | .agg cs=>(aC (cs.map Cl.hc)).map .agg
def Av.hw:Av→Option Hw
 | .b x=>x.hw
 | _=>none
def Av.pa:Av→Option Pa
 | .b x=>x.pa
 | _=>none
def Pa.bv:Pa→Bv
 | .one x=>.one (.d x)
 | .agg xs=>.agg (xs.map .d)
def yK:List Hw→Av
 | []=>.un
 | [x]=>.b x.bv
 | xs=>.tup (xs.map Hw.bv)
def kT:List Pa→Av
 | []=>.un
 | [x]=>.b x.bv
 | xs=>.tup (xs.map Pa.bv)
def yC:Value→Av
 | .agg a=>.b (.agg (a.toList.map fun v=>.d (.sc v)))
 | .tuple _=>.un
 | v=>.b (.one (.d (.sc v)))
def St.ev (s:St):PX→Av
 | .t n=>s.sl n
 | .v c=>yC c
def St.cl (s:St) (x:PX):Cl:=match s.ev x with
 | .b (.one c)=>c
 | _=>.un
def St.val (s:St) (x:PX):Option Value:=match s.ev x with
 | .b (.one (.d (.sc v)))=>some v
 | _=>none
def St.int (s:St) (x:PX):Option Int:=match s.ev x with
 | .b (.one (.d (.sc (.int _ n))))=>some n
 | _=>none
def St.boo (s:St) (x:PX):Option Bool:=match s.ev x with
 | .b (.one (.d (.sc (.bool b))))=>some b
 | _=>none
def scs:List Cl→Option (List Value)
 | []=>some []
 | .d (.sc v) :: r=>(scs r).map (v :: ·)
 | _=>none
def St.key (s:St) (x:PX):Option Value:=match s.ev x with
 | .b (.one (.d (.sc v)))=>some v
 | .b (.agg cs)=>(scs cs).map fun vs=>.agg vs.toArray
 | _=>none
def sI:Value→Bv
 | .agg a=>.agg (a.toList.map fun v=>.d (.sc v))
 | v=>.one (.d (.sc v))
def St.hw (s:St) (x:PX):Option Hw:=(s.ev x).hw
def St.cs (s:St) (x:PX):Option (List Cl):=match s.ev x with
 | .b (.one c)=>some [c]
 | .b (.agg cs)=>some cs
 | _=>none
def Cl.rows:Cl→Option (List (List Dt))
 | .d (.im rows)=>some rows
 | .d (.sc (.slice none 0 0))=>some []
 | .own _ _ rows=>some rows
 | .ti rows=>some rows
 | _=>none
def ni (n:Option Nat) (cs:List Cl) (off:Nat):Option Av:=match n with
 | none=>(cs[off]?).map fun c=>.b (.one c)
 | some k=>if off+k≤cs.length then some (.b (.agg ((cs.drop off).take k))) else none
def splice (cs:List Cl) (off:Nat) (new:List Cl):List Cl:=cs.take off ++ new ++ cs.drop (off+new.length)
def iC:List Cl→Nat→List Cl→List Cl
 | [],_,_=>[]
 | c :: cs,0,[]=>c :: cs
 | _ :: cs,0,d :: ds=>d :: iC cs 0 ds
 | c :: cs,k+1,ds=>c :: iC cs k ds
def iF:List Hc→Nat→List Hc→List Hc
 | [],_,_=>[]
 | c :: cs,0,[]=>c :: cs
 | _ :: cs,0,d :: ds=>d :: iF cs 0 ds
 | c :: cs,k+1,ds=>c :: iF cs k ds
open Classical in
noncomputable def fA:List (Value×Nat×Hw)→Value→Option (Nat×Hw)
 | [],_=>none
 | (x,r) :: es,k=>if x=k then some r else fA es k
open Classical in
noncomputable def nW:List (Value×Nat×Hw)→Nat→Value→Hw→List (Value×Nat×Hw)
 | [],n,k,v=>[(k,n,v)]
 | (x,r) :: es,n,k,v=>if x=k then (x,r.1,v) :: es else (x,r) :: nW es n k v
open Classical in
noncomputable def I5:List (Value×Nat×Hw)→Value→List (Value×Nat×Hw)
 | [],_=>[]
 | (x,r) :: es,k=>if x=k then es else (x,r) :: I5 es k
def vU:List (Value×Nat×Hw)→Nat→Hw→List (Value×Nat×Hw)
 | [],_,_=>[]
 | (x,n,u) :: es,st,v=>if n=st then (x,n,v) :: es else (x,n,u) :: vU es st v
def chunks {α:Type}:Nat→Nat→List α→List (List α)
 | 0,_,_=>[]
 | n+1,sz,xs=>xs.take sz :: chunks n sz (xs.drop sz)
theorem nH {α:Type} (sz:Nat):∀ (n:Nat) (xs:List α),chunks n sz xs=(List.range n).map fun i=>(xs.drop (i * sz)).take sz
 | 0,_=>rfl
 | n+1,xs=>by
   rw [chunks,nH sz n,List.range_succ_eq_map,List.map_cons,List.map_map]
   congr 1
   ·simp
   ·apply List.map_congr_left
    intro i _;simp only [Function.comp,List.drop_drop]
    congr 2
    rw [Nat.succ_mul];omega
def dS (cs:List Cl):List (Nat×List Cl)→Option (List Cl)
 | []=>some cs
 | (o,new) :: rest=>if o+new.length≤cs.length then dS (splice cs o new) rest else none
def St.parts (s:St):List (Nat×Nat×PX)→Option (List (Nat×List Cl))
 | []=>some []
 | (o,k,x) :: rest=>match s.cs x with
   | some c=>if c.length=k then (s.parts rest).map ((o,c) :: ·) else none
   | none=>none
def fT (op:BinOp):Value→Value→Option Value
 | .int k a,.int k' b=>match op with
   | .shl=>if b < 0 then none else some (.int k (k.wrap (a * 2 ^ (min b.toNat k.bits))))
   | .shr=>if b < 0 then none else some (.int k (a.fdiv (2 ^ (min b.toNat k.bits))))
   | .add=>if k=k' then some (.int k (k.wrap (a+b))) else none
   | .sub=>if k=k' then some (.int k (k.wrap (a - b))) else none
   | .mul=>if k=k' then some (.int k (k.wrap (a * b))) else none
   | .quo=>if k=k'∧b≠0 then some (.int k (k.wrap (a.tdiv b))) else none
   | .rem=>if k=k'∧b≠0 then some (.int k (a.tmod b)) else none
   | .and=>if k=k' then some (.int k (k.wrap (BitVec.ofInt k.bits a &&& BitVec.ofInt k.bits b).toNat)) else none
   | .or=>if k=k' then some (.int k (k.wrap (BitVec.ofInt k.bits a ||| BitVec.ofInt k.bits b).toNat)) else none
   | .xor=>if k=k' then some (.int k (k.wrap (BitVec.ofInt k.bits a ^^^ BitVec.ofInt k.bits b).toNat)) else none
   | .eql=>if k=k' then some (.bool (a == b)) else none
   | .neq=>if k=k' then some (.bool (a != b)) else none
   | .lss=>if k=k' then some (.bool (a < b)) else none
   | .leq=>if k=k' then some (.bool (a≤b)) else none
   | .gtr=>if k=k' then some (.bool (a > b)) else none
   | .geq=>if k=k' then some (.bool (a≥b)) else none
   | _=>none
 | .string a,.string b=>match op with
   | .add=>if ((a.size+b.size:Nat):Int)≤9223372036854775807 then some (.string (a ++ b)) else none
   | .eql=>some (.bool (a.toList == b.toList))
   | .neq=>some (.bool !(a.toList == b.toList))
   | _=>none
 | _,_=>none
def dV:List (List Dt)→Option (List Int)
 | []=>some []
 | [.sc (.int .u8 n)] :: rest=>(dV rest).map (n :: ·)
 | _=>none
def gU (ns:List Int):ByteArray:=ns.foldl (fun r n=>r.push (UInt8.ofNat n.toNat)) ByteArray.empty
def yF (kb:Bool):Cl→Cl→Option Bool
 | .d (.sc (.int k a)),.d (.sc (.int k' b))=>if kb=false∧k=k' then some (a == b) else none
 | .d (.sc (.bool a)),.d (.sc (.bool b))=>if kb=true then some (a == b) else none
 | _,_=>none
def je:List Bool→List Cl→List Cl→Option Bool
 | [],[],[]=>some true
 | k :: ks,x :: xs,y :: ys=>match yF k x y,je ks xs ys with
   | some a,some b=>some (a && b)
   | _,_=>none
 | _,_,_=>none
def D6 (big:Bool):Value→Value→Option Value
 | .int k a,.int k' b=>if k=k' then some (.int k (if big then (if b > a then b else a) else (if b < a then b else a))) else none
 | _,_=>none
inductive Cg where
 | no
 | new (o:Nat) (x:Ob)
 | wr (o off:Nat) (cs:List Cl)
 | row (o n:Nat)
 | ab (o:Nat) (H:HP)
 /-- blocks of one part of the heap -/
 | hw (o:Nat) (l:List (Nat×Hb))
 /-- the whole heap -/
 | hall (h:Nat→Hb)
def eU:Ob→Nat→Hb
 | .hp h=>h
 | _=>fun _=>.no
def upl (h:Nat→Hb):List (Nat×Hb)→Nat→Hb
 | []=>h
 | (b,x) :: l=>upl (up h b x) l
def St.ap (s:St) (dst:Option Nat) (v:Av) (ch:Cg):St where
 sl:=match dst with
  | some d=>up s.sl d v
  | none=>s.sl
 gen:=match ch with
  | .new o _=>up s.gen o (s.gen o+1)
  | _=>s.gen
 ob:=match ch with
  | .no=>s.ob
  | .new o x=>up s.ob o x
  | .wr o off cs=>up s.ob o (match s.ob o with | .cells old=>.cells (iC old off cs) | x=>x)
  | .row o n=>up s.ob o (match s.ob o with | .row E sz _=>.row E sz n | x=>x)
  | .ab o H=>up s.ob o (.ab H)
  | .hw o l=>up s.ob o (.hp (upl (eU (s.ob o)) l))
  | .hall h=>fun o=>if HBS≤o then .hp (fun b=>if HBS+s.nc b=o then h b else .no) else s.ob o
 nc:=s.nc
def St.hb (s:St) (b:Nat):Hb:=eU (s.ob (HBS+s.nc b)) b
def yH:Ob→Bool
 | .hp _=>true
 | _=>false
def St.hps (s:St):List PX→Option (List (Nat×Nat))
 | []=>some []
 | x :: xs=>match s.cl x,s.hps xs with
   | .hv (.p b off),some l=>some ((b,off) :: l)
   | _,_=>none
def hcs (cs:List Cl):Option (List Hc):=aC (cs.map Cl.hc)
def fD (v:Value):Av:=.b (.one (.d (.sc v)))
noncomputable def PO.fn (s:St) (d:Nat):PO→Option (Av×Cg)
 | .mv x=>some (s.ev x,.no)
 | .nilRow E sz=>some (.b (.one (.own d (s.gen d+1) [])),.new d (.row E sz 0))
 | .pick c a b=>(s.boo c).map fun t=>(if t then s.ev a else s.ev b,.no)
 | .box x=>(s.cs x).map fun cs=>(.b (.one (.ptr d (s.gen d+1) 0)),.new d (.cells cs))
 | .new z=>some (.b (.one (.ptr d (s.gen d+1) 0)),.new d (.cells (z.map fun v=>.d (.sc v))))
 | .build z ps=>(s.parts ps).bind fun ps=>(dS (z.map fun v=>.d (.sc v)) ps).map fun cs=>(.b (.agg cs),.no)
 | .bslice E sz z ln ps=>(s.parts ps).bind fun ps=>(dS (z.map fun v=>.d (.sc v)) ps).bind fun cs =>
  (aC (cs.map Cl.dt)).map fun xs=>(.b (.one (.own d (s.gen d+1) (chunks ln sz xs))),.new d (.row E sz ln))
 | .load n a=>match s.cl a with
   | .ptr o g off=>if s.gen o=g then (match s.ob o with | .cells cs=>(ni n cs off).map (·,.no) | _=>none) else none
   | .el row off=>(ni n (row.map .d) off).map (·,.no)
   | .hv (.p b off)=>match s.hb b with
     | .cells cs=>(ni n (cs.map Hc.cl) off).map (·,.no)
     | .vec _ _ rows=>(ni n (rows.flatten.map .d) off).map (·,.no)
     | _=>none
   | _=>none
 | .store sz a x=>match s.cl a,s.cs x with
   | .ptr o g off,some nw=>if s.gen o=g∧nw.length=sz then (match s.ob o with | .cells cs=>if off+sz≤cs.length then some (.un,.wr o off nw) else none | _=>none) else none
   | .hv (.p b off),some nw=>match s.hb b,hcs nw with
     | .cells cs,some hs=>if off+sz≤cs.length∧nw.length=sz then some (.un,.hw (HBS+s.nc b) [(b,.cells (iF cs off hs))]) else none
     | .vec E sz' rows,some [.d (.sc u)]=>if sz'=1∧sz=1∧off < rows.length then some (.un,.hw (HBS+s.nc b) [(b,.vec E 1 (rows.set off [.sc u]))]) else none
     | _,_=>none
   | _,_=>none
 | .fld off x=>match s.cl x with
   | .ptr o g k=>if s.gen o=g then some (.b (.one (.ptr o g (k+off))),.no) else none
   | .el row k=>some (.b (.one (.el row (k+off))),.no)
   | .hv (.p b k)=>some (.b (.one (.hv (.p b (k+off)))),.no)
   | _=>none
 | .fldv off n x=>match s.ev x with
   | .b (.agg cs)=>(ni n cs off).map (·,.no)
   | _=>none
 | .ixa ln sz x i=>match s.cl x,s.int i with
   | .ptr o g off,some k=>if s.gen o=g∧0≤k∧k < ln then some (.b (.one (.ptr o g (off+k.toNat * sz))),.no) else none
   | .el row off,some k=>if 0≤k∧k < ln then some (.b (.one (.el row (off+k.toNat * sz))),.no) else none
   | .hv (.p b off),some k=>if 0≤k∧k < ln then some (.b (.one (.hv (.p b (off+k.toNat * sz)))),.no) else none
   | _,_=>none
 | .ixs sz x i=>match s.int i with
   | some k=>match s.cl x with
     | .sv o g off ln _ _=>if s.gen o=g∧0≤k∧k < ln then some (.b (.one (.ptr o g (off+k.toNat * sz))),.no) else none
     | .hv (.s b off ln _)=>if 0≤k∧k < ln then some (.b (.one (.hv (.p b (off+k.toNat * sz)))),.no) else none
     | .hv (.v b)=>match s.hb b with
       | .vec _ sz' rows=>if sz'=sz∧0≤k∧k < rows.length then some (.b (.one (.hv (.p b (k.toNat * sz)))),.no) else none
       | _=>none
     | c=>match c.rows with
       | some rows=>if 0≤k then (match rows[k.toNat]? with | some row=>if row.length=sz then some (.b (.one (.el row 0)),.no) else none | none=>none) else none
       | none=>none
   | none=>none
 | .ixv ln sz n x i=>match s.ev x,s.int i with
   | .b (.agg cs),some k=>if 0≤k∧k < ln then (ni n cs (k.toNat * sz)).map (·,.no) else none
   | _,_=>none
 | .ixstr x i=>match s.val x,s.int i with
   | some (.string b),some k=>if 0≤k then (b[k.toNat]?).map fun c=>(fD (.int .u8 c.toNat),.no) else none
   | _,_=>none
 | .bin op x y=>match s.val x,s.val y with
   | some a,some b=>(fT op a b).map fun v=>(fD v,.no)
   | _,_=>none
 | .eqb neg x y=>match s.boo x,s.boo y with
   | some a,some b=>some (fD (.bool (if neg then !(a == b) else a == b)),.no)
   | _,_=>none
 | .eqs neg ks x y=>match s.ev x,s.ev y with
   | .b (.agg a),.b (.agg b)=>(je ks a b).map fun t=>(fD (.bool (if neg then !t else t)),.no)
   | _,_=>none
 | .un op x=>match op,s.val x with
   | .not,some (.bool b)=>some (fD (.bool !b),.no)
   | .neg,some (.int k n)=>some (fD (.int k (k.wrap (0 - n))),.no)
   | .xor,some (.int k n)=>some (fD (.int k (k.wrap (BitVec.ofInt k.bits (if k.signed then -1 else k.max) ^^^ BitVec.ofInt k.bits n).toNat)),.no)
   | _,_=>none
 | .conv k x=>(s.int x).map fun n=>(fD (.int k (k.wrap n)),.no)
 | .slc sz x lo hi=>match (s.cl x).rows with
   | some rows =>
     let l:=(lo.map s.int).getD (some 0)
     let h:=(hi.map s.int).getD (some (rows.length:Int))
     match l,h with
     | some l,some h=>if 0≤l∧l≤h∧h≤rows.length∧(∀ r ∈ rows,r.length=sz) then some (.b (.one (.d (.im ((rows.take h.toNat).drop l.toNat)))),.no) else none
     | _,_=>none
   | none=>none
 | .substr x lo hi=>match s.val x with
   | some (.string b) =>
     let l:=(lo.map s.int).getD (some 0)
     let h:=(hi.map s.int).getD (some (b.size:Int))
     match l,h with
     | some l,some h=>if 0≤l∧l≤h∧h≤b.size then some (fD (.string (b.extract l.toNat h.toNat)),.no) else none
     | _,_=>none
   | _=>none
 | .len x=>match s.cl x with
   | .sv _ _ _ ln _ _=>some (fD (.int .i64 ln),.no)
   | .hv (.s _ _ ln _)=>some (fD (.int .i64 ln),.no)
   | .hv (.v b)=>match s.hb b with
     | .vec _ _ rows=>some (fD (.int .i64 rows.length),.no)
     | _=>none
   | c=>(c.rows).map fun rows=>(fD (.int .i64 rows.length),.no)
 | .strlen x=>match s.val x with
   | some (.string b)=>some (fD (.int .i64 b.size),.no)
   | _=>none
 | .alen n=>some (fD (.int .i64 n),.no)
 | .append E sz bytes x y=>match s.cl x,(s.cl y).rows with
   | .own o g rows,some news=>if s.gen o=g then (match s.ob o with
     | .row E' sz' n=>if E'=E∧sz'=sz∧n=rows.length∧(∀ r ∈ news,r.length=sz)∧rows.length+news.length≤1000000∧bytes≤1000000 then
      some (.b (.one (.own o g (rows ++ news))),.row o (rows.length+news.length)) else none
     | _=>none) else none
   | .ti rows,some news=>if (∀ r ∈ rows,r.length=sz)∧(∀ r ∈ news,r.length=sz)∧rows.length+news.length≤1000000∧bytes≤1000000 then
    some (.b (.one (.d (.im (rows ++ news)))),.no) else none
   | .d (.sc (.slice none 0 0)),some news=>if (∀ r ∈ news,r.length=sz)∧news.length≤1000000∧bytes≤1000000 then
    some (.b (.one (.own d (s.gen d+1) news)),.new d (.row E sz news.length)) else none
   | _,_=>none
 | .mm big xs=>match xs.map s.val with
   | some v :: rest=>(rest.foldl (fun acc y=>match acc,y with | some a,some b=>D6 big a b | _,_=>none) (some v)).map fun v=>(fD v,.no)
   | _=>none
 | .ext x i=>match s.ev x with
   | .tup xs=>(xs[i]?).map fun v=>(.b v,.no)
   | _=>none
 | .nilck x=>match s.cl x with
   | .ptr o g off=>if s.gen o=g then some (.b (.one (.ptr o g off)),.no) else none
   | .hv (.p b off)=>some (.b (.one (.hv (.p b off))),.no)
   | _=>none
 | .sla ln sz x h=>match s.cl x,s.int h with
   | .ptr o g off,some k=>if s.gen o=g∧0≤k∧k≤ln∧ln≤1000000 then some (.b (.one (.sv o g off k.toNat ln sz)),.no) else none
   | _,_=>none
 | .niq neg x=>match s.cl x with
   | .d (.sc .nilIface)=>some (fD (.bool !neg),.no)
   | .d .nn=>some (fD (.bool neg),.no)
   | _=>none
 | .pnil neg x=>match s.cl x with
   | .d (.sc (.pointer none))=>some (fD (.bool !neg),.no)
   | .d (.sc (.pointer (some _)))=>some (fD (.bool neg),.no)
   | .ptr o g _=>if s.gen o=g then some (fD (.bool neg),.no) else none
   | .hv (.p _ _)=>some (fD (.bool neg),.no)
   | _=>none
 | .bstr x=>match (s.cl x).rows with
   | some rows=>(dV rows).map fun ns=>(fD (.string (gU ns)),.no)
   | none=>none
 | .mk sz bytes zero n c=>match s.int n,s.int c with
   | some l,some m=>if 0≤l∧l=m∧l≤1000000∧bytes≤1000000 then
    some (.b (.one (.sv d (s.gen d+1) 0 l.toNat l.toNat sz)),.new d (.cells ((List.range (l.toNat * sz)).map fun i=>.d (.sc (zero.getD (i % sz) undef))))) else none
   | _,_=>none
 | .slc3 sz x lo hi mx=>match (s.cl x).rows with
   | some rows =>
     let l:=(lo.map s.int).getD (some 0)
     match l,s.int hi,s.int mx with
     | some l,some h,some m=>if 0≤l∧l≤h∧h=m∧h≤rows.length∧(∀ r ∈ rows,r.length=sz) then some (.b (.one (.ti ((rows.take h.toNat).drop l.toNat))),.no) else none
     | _,_,_=>none
   | none=>none
 | .ixg ln sz g i=>match s.int i with
   | some k=>if 0≤k∧k < ln then some (fD (.pointer (some ⟨g,k.toNat * sz,none⟩)),.no) else none
   | none=>none
 | .call _ _=>none
 | .callv _ _ _=>none
 | .ldg _=>none
 | .mlk k z ok m x=>match s.cl m,s.key x with
   | .hv (.m b),some key=>match s.hb b with
     | .map k' es _=>if k'=k∧(keyOf Try.prog k key).isSome=true then
      (match fA es key with
      | some r=>some (if ok=true then .tup [r.2.bv,.one (.d (.sc (.bool true)))] else .b r.2.bv,.no)
      | none=>some (if ok=true then .tup [z.bv,.one (.d (.sc (.bool false)))] else .b z.bv,.no)) else none
     | _=>none
   | _,_=>none
 | .mup k m x v=>match s.cl m,s.key x,s.hw v with
   | .hv (.m b),some key,some u=>match s.hb b with
     | .map k' es clock=>if k'=k∧(keyOf Try.prog k key).isSome=true then
      some (.un,.hw (HBS+s.nc b) [(b,.map k (nW es clock key u) (match fA es key with | some _=>clock | none=>clock+1))]) else none
     | _=>none
   | _,_,_=>none
 | .mdel k m x=>match s.cl m,s.key x with
   | .hv (.m b),some key=>match s.hb b with
     | .map k' es clock=>if k'=k∧(keyOf Try.prog k key).isSome=true then
      some (.un,.hw (HBS+s.nc b) [(b,.map k (I5 es key) clock)]) else none
     | _=>none
   | _,_=>none
 | .mlen m=>match s.cl m with
   | .hv (.m b)=>match s.hb b with
     | .map _ es _=>some (fD (.int .i64 es.length),.no)
     | _=>none
   | _=>none
 | .ment k z m x=>match s.cl m,s.key x with
   | .hv (.m b),some key=>match s.hb b with
     | .map k' es clock=>if k'=k∧(keyOf Try.prog k key).isSome=true then
      (match fA es key with
      | some r=>some (.tup [r.2.bv,.one (.d (.sc (.int .i64 r.1)))],.hw (HBS+s.nc b) [(b,.map k es clock)])
      | none=>some (.tup [z.bv,.one (.d (.sc (.int .i64 clock)))],.hw (HBS+s.nc b) [(b,.map k (nW es clock key z) (clock+1))])) else none
     | _=>none
   | _,_=>none
 | .mest m x v=>match s.cl m,s.int x,s.hw v with
   | .hv (.m b),some st,some u=>match s.hb b with
     | .map k es clock=>if 0≤st∧st.toNat ∈ es.map (·.2.1) then
      some (.un,.hw (HBS+s.nc b) [(b,.map k (vU es st.toNat u) clock)]) else none
     | _=>none
   | _,_,_=>none
 | .cph sz x y=>match s.cl x,s.cl y with
   | .hv (.s b off ln _),.hv (.s b2 off2 ln2 _)=>match s.hb b,s.hb b2 with
     | .cells cs,.cells cs2=>if off+Nat.min ln2 ln * sz≤cs.length∧off2+Nat.min ln2 ln * sz≤cs2.length then
      some (fD (.int .i64 (Nat.min ln2 ln)),.hw (HBS+s.nc b) [(b,.cells (iF cs off ((cs2.drop off2).take (Nat.min ln2 ln * sz))))]) else none
     | _,_=>none
   | _,_=>none
 | .mkf f first caps=>match s.hps first,s.hps caps with
   | some a,some c=>some (.b (.one (.hv (.f f a c))),.no)
   | _,_=>none
 | .entry x=>match s.cl x with
   | .hv (.p r 0)=>match s.hb r with
     | .iter b _ seen c0=>match s.hb b,seen.getLast? with
       | .map _ es clock,some st=>if clock=c0 then (es.find? (·.2.1 == st)).map fun e=>(.tup [sI e.1,e.2.2.bv],.no) else none
       | _,_=>none
     | _=>none
   | _=>none
 | .stm x=>match s.cl x with
   | .own o g rows=>if s.gen o=g then (match s.ob o with
     | .row E sz n=>if n=rows.length∧0 < rows.length then some (.b (.one (.own o g rows)),.no) else none
     | _=>none) else none
   | .hv (.v b)=>match s.hb b with
     | .vec _ _ rows=>if 0 < rows.length then some (.b (.one (.hv (.v b))),.no) else none
     | _=>none
   | _=>none
 | .hal _ _=>none
 | .next _=>none
 | .callh _ _=>none
 | .callp _ _=>none
 | .callc _ _ _=>none
structure Env where
 d:Nat→List Pa→List Pa→Prop
 a:Nat→Option HP→List Pa→HP→List Pa→Prop
 c:Nat→HP→HP→Prop
 /-- what cells of tables hold that nobody turns -/
 t:Nat→Nat→Option Value
 /-- what a function does with an object that is handed over by address: cells,arguments,cells behind,results -/
 m:Nat→List Dt→List Pa→List Dt→List Pa→Prop
 /-- what a function does with the heap: heap,arguments,heap behind,results -/
 h:Nat→(Nat→Hb)→List Hw→(Nat→Hb)→List Hw→Prop
 /-- the same,where what comes out is not settled: heap,arguments,what holds behind -/
 p:Nat→(Nat→Hb)→List Hw→((Nat→Hb)→List Hw→Prop)→Prop
 /-- a function that makes a slice and hands it over: arguments,element type,its cells,rows -/
 f:Nat→List Pa→Nat→Nat→List (List Dt)→Prop
def aO {α:Type}:Option α→(α→Prop)→Prop
 | some x,K=>K x
 | none,_=>False
theorem aj {α:Type} {x:Option α} {K:α→Prop}:aO x K↔∃ y,x=some y∧K y:=by
 cases x with
 | none=>exact ⟨fun h=>h.elim,fun ⟨_,h,_⟩=>by cases h⟩
 | some y=>exact ⟨fun h=>⟨y,rfl,h⟩,fun ⟨z,h,k⟩=>by cases h;exact k⟩
def St.args (s:St) (xs:List PX):Option (List Pa):=aC (xs.map fun x=>(s.ev x).pa)
def Cl.kM:Cl→Option (Nat×Nat)
 | .un=>none
 | .d _=>none
 | .own _ _ _=>none
 | .ptr _ _ _=>none
 | .el _ _=>none
 | .ab o g=>some (o,g)
 | .sv _ _ _ _ _ _=>none
 | .ti _=>none
 | .hv _=>none
def Bv.kM:Bv→Option (Nat×Nat)
 | .one c=>c.kM
 | .agg _=>none
def Av.kM:Av→Option (Nat×Nat)
 | .un=>none
 | .b x=>x.kM
 | .tup _=>none
def Cl.fC:Cl→Option (Nat×Nat)
 | .un=>none
 | .d _=>none
 | .own _ _ _=>none
 | .ptr o g off=>bif off == 0 then some (o,g) else none
 | .el _ _=>none
 | .ab _ _=>none
 | .sv _ _ _ _ _ _=>none
 | .ti _=>none
 | .hv _=>none
def Bv.fC:Bv→Option (Nat×Nat)
 | .one c=>c.fC
 | .agg _=>none
def Av.fC:Av→Option (Nat×Nat)
 | .un=>none
 | .b x=>x.fC
 | .tup _=>none
def St.eX (s:St):List PX→Option (Nat×Nat)
 | []=>none
 | x :: _=>(s.ev x).fC
def St.recv (s:St):List PX→Option (Nat×Nat)
 | []=>none
 | x :: _=>(s.ev x).kM
def St.yw (s:St) (o g:Nat):Option HP:=if s.gen o=g then (match s.ob o with | .ab H=>some H | _=>none) else none
def St.iH (s:St) (o g:Nat):Option (List Dt):=if s.gen o=g then (match s.ob o with | .cells cs=>if cs.length≤1000000 then aC (cs.map Cl.dt) else none | _=>none) else none
def zk (d g:Nat):List Pa→Av
 | []=>.b (.one (.ab d g))
 | r :: rs=>.tup (.one (.ab d g) :: (r :: rs).map Pa.bv)
def jd (env:Env) (s:St) (d:Nat) (K:Av→Cg→Prop) (f:Nat) (xs:List PX):Option (Nat×Nat)→Option (Nat×Nat)→Prop
 | some (o,g),_=>aO (s.args xs.tail) fun az=>aO (s.yw o g) fun H =>
  (∃ H' rs,env.a f (some H) az H' rs∧K (kT rs) (.ab o H'))∨(∃ H2,az=[]∧env.c f H H2∧K (.b (.one (.ab d (s.gen d+1)))) (.new d (.ab H2)))
 | none,some (o,g)=>aO (s.args xs.tail) fun az=>aO (s.iH o g) fun ds=>∃ ds' rs,env.m f ds az ds' rs∧ds'.length=ds.length∧K (kT rs) (.wr o 0 (ds'.map .d))
 | none,none=>aO (s.args xs) fun az =>
  (∃ rs,env.d f az rs∧K (kT rs) .no)∨(∃ H rs,env.a f none az H rs∧K (zk d (s.gen d+1) rs) (.new d (.ab H)))∨(∃ E sz rows,env.f f az E sz rows∧K (.b (.one (.own d (s.gen d+1) rows))) (.new d (.row E sz rows.length)))
def tu (f:Nat):Option Value→Option Unit
 | some (.func (.func g) a b)=>if g=f∧a.size=0∧b.size=0 then some () else none
 | _=>none
theorem NR {f:Nat}:tu f (some (.func (.func f) #[] #[]))=some ():=by simp [tu]
def gAt (env:Env):Option Value→Option Value
 | some (.pointer (some ⟨g,k,none⟩))=>env.t g k
 | _=>none
def St.lay (s:St) (c b:Nat):Prop:=s.nc b=c∧yH (s.ob (HBS+c))=true∧s.hb b=.no
def P9:Hb→Option Nat
 | .map _ _ clock=>some clock
 | _=>none
def mapOf:Cl→Option Nat
 | .hv (.m b)=>some b
 | _=>none
def IZ:Hb→Option (Nat×Nat×List (List Dt))
 | .vec E sz rows=>some (E,sz,rows)
 | _=>none
def zx:Cl→Option Nat
 | .hv (.v b)=>some b
 | _=>none
def appG (s:St) (c E sz bytes:Nat) (news:List (List Dt)) (K:Av→Cg→Prop):Cl→Prop
 | .d (.sc (.slice none 0 0))=>((∀ r ∈ news,r.length=sz)∧news.length≤1000000∧bytes≤1000000)∧∃ b,s.lay c b∧K (.b (.one (.hv (.v b)))) (.hw (HBS+c) [(b,.vec E sz news)])
 | x=>aO (zx x) fun a=>aO (IZ (s.hb a)) fun v=>(v.1=E∧v.2.1=sz∧(∀ r ∈ news,r.length=sz)∧v.2.2.length+news.length≤1000000∧bytes≤1000000) ∧
    ∃ b,s.lay (s.nc a) b∧K (.b (.one (.hv (.v b)))) (.hw (HBS+s.nc a) [(a,.dead),(b,.vec E sz (v.2.2 ++ news))])
def zq (h:Nat→Hb):Cl→Option (List (List Dt))
 | .hv (.v b)=>match h b with
   | .vec _ _ rows=>some rows
   | _=>none
 | c=>c.rows
def St.jr (s:St) (x:PX):Option (List (List Dt)):=zq s.hb (s.cl x)
def rW (s:St) (c:Nat) (K:Av→Cg→Prop):HA→Prop
 | .new z=>∃ b,s.lay c b∧K (.b (.one (.hv (.p b 0)))) (.hw (HBS+c) [(b,.cells (z.map fun v=>.d (.sc v)))])
 | .box x=>aO ((s.cs x).bind hcs) fun hs=>∃ b,s.lay c b∧K (.b (.one (.hv (.p b 0)))) (.hw (HBS+c) [(b,.cells hs)])
 | .mk sz bytes z n m=>aO (s.int n) fun l=>aO (s.int m) fun l'=>(0≤l∧l=l'∧l≤1000000∧bytes≤1000000) ∧
  ∃ b,s.lay c b∧K (.b (.one (.hv (.s b 0 l.toNat l.toNat)))) (.hw (HBS+c) [(b,.cells ((List.range (l.toNat * sz)).map fun i=>.d (.sc (z.getD (i % sz) undef))))])
 | .map k=>Maps.Keyed Try.prog k∧∃ b,s.lay c b∧K (.b (.one (.hv (.m b)))) (.hw (HBS+c) [(b,.map k [] 0)])
 | .mapn k x=>aO (s.int x) fun _=>Maps.Keyed Try.prog k∧∃ b,s.lay c b∧K (.b (.one (.hv (.m b)))) (.hw (HBS+c) [(b,.map k [] 0)])
 | .range m=>aO (mapOf (s.cl m)) fun bm=>aO (P9 (s.hb bm)) fun clock=>∃ b,s.lay c b∧K (.b (.one (.hv (.p b 0)))) (.hw (HBS+c) [(b,.iter bm clock [] clock)])
 | .app E sz bytes x y=>aO (s.jr y) fun news=>appG s c E sz bytes news K (s.cl x)
 | .lit E sz z ln ps=>aO ((s.parts ps).bind fun ps=>(dS (z.map fun v=>.d (.sc v)) ps).bind fun cs=>aC (cs.map Cl.dt)) fun xs =>
  ∃ b,s.lay c b∧K (.b (.one (.hv (.v b)))) (.hw (HBS+c) [(b,.vec E sz (chunks ln sz xs))])
 | .view sz x lo=>aO (zx (s.cl x)) fun a=>aO (IZ (s.hb a)) fun v=>aO (s.int lo) fun l=>(v.2.1=sz∧0≤l∧l < v.2.2.length) ∧
  ∀ cap,v.2.2.length - l.toNat≤cap→cap≤maxLen→K (.b (.one (.hv (.s a (l.toNat * sz) (v.2.2.length - l.toNat) cap)))) .no
def iterAt:Hb→Option (Nat×Nat×List Nat×Nat)
 | .iter b since seen c0=>some (b,since,seen,c0)
 | _=>none
def Qa:Hb→Option (List (Value×Nat×Hw)×Nat)
 | .map _ es clock=>some (es,clock)
 | _=>none
def Md:Cl→Option Nat
 | .hv (.p b 0)=>some b
 | _=>none
def bvB (b:Bool):Bv:=.one (.d (.sc (.bool b)))
def IV (s:St) (x:Cl) (K:Av→Cg→Prop):Prop:=aO (Md x) fun r=>aO (iterAt (s.hb r)) fun it=>aO (Qa (s.hb it.1)) fun m =>
 ((∀ e ∈ m.1,e.2.1 < it.2.1)∧it.2.1≤it.2.2.2∧it.2.1≤m.2)∧((∀ e ∈ m.1,it.2.2.1.contains e.2.1=true)→K (.tup [bvB false]) .no) ∧
 ∀ e ∈ m.1,it.2.2.1.contains e.2.1=false→K (.tup [bvB true,sI e.1,e.2.2.bv]) (.hw (HBS+s.nc r) [(r,.iter it.1 it.2.1 (it.2.2.1 ++ [e.2.1]) m.2)])
def St.hws (s:St) (xs:List PX):Option (List Hw):=aC (xs.map s.hw)
def qj (env:Env) (s:St) (K:Av→Cg→Prop) (f:Nat) (az:List Hw):Prop:=∃ hp' rs,env.h f s.hb az hp' rs∧(K (yK rs) (.hall hp')∨(hp'=s.hb∧(∀ c,yH (s.ob (HBS+c))=true)∧K (yK rs) .no))
def yS (env:Env) (s:St) (K:Av→Cg→Prop) (f:Nat) (az:List Hw):Prop:=∃ Post,env.p f s.hb az Post∧∀ hp' rs,Post hp' rs→K (yK rs) (.hall hp')
def rX (l:List (Nat×Nat)):List Hw:=l.map fun p=>.one (.h (.p p.1 p.2))
def E8 (f:Nat):Cl→Option (List (Nat×Nat)×List (Nat×Nat))
 | .hv (.f g a c)=>if g=f then some (a,c) else none
 | _=>none
def PO.go (env:Env) (s:St) (d:Nat) (K:Av→Cg→Prop):PO→Prop
 | .call f xs=>jd env s d K f xs (s.recv xs) (s.eX xs)
 | .callv x f xs=>aO (tu f (s.val x)) fun _=>jd env s d K f xs (s.recv xs) (s.eX xs)
 | .ldg x=>aO (gAt env (s.val x)) fun v=>K (fD v) .no
 | .hal c k=>rW s c K k
 | .next x=>IV s (s.cl x) K
 | .callh f xs=>aO (s.hws xs) fun az=>qj env s K f az
 | .callp f xs=>aO (s.hws xs) fun az=>yS env s K f az
 | .callc x f xs=>aO (E8 f (s.cl x)) fun p=>aO (s.hws xs) fun az=>qj env s K f (rX p.1 ++ az ++ rX p.2)
 | op=>aO (op.fn s d) fun p=>K p.1 p.2
def PO.aT:PO→Bool
 | .mv _=>false
 | .nilRow _ _=>false
 | .pick _ _ _=>false
 | .box _=>false
 | .new _=>false
 | .build _ _=>false
 | .bslice _ _ _ _ _=>false
 | .load _ _=>false
 | .store _ _ _=>false
 | .fld _ _=>false
 | .fldv _ _ _=>false
 | .ixa _ _ _ _=>false
 | .ixs _ _ _=>false
 | .ixv _ _ _ _ _=>false
 | .ixstr _ _=>false
 | .bin _ _ _=>false
 | .eqb _ _ _=>false
 | .eqs _ _ _ _=>false
 | .un _ _=>false
 | .conv _ _=>false
 | .slc _ _ _ _=>false
 | .substr _ _ _=>false
 | .len _=>false
 | .strlen _=>false
 | .alen _=>false
 | .append _ _ _ _ _=>false
 | .mm _ _=>false
 | .ext _ _=>false
 | .nilck _=>false
 | .sla _ _ _ _=>false
 | .niq _ _=>false
 | .pnil _ _=>false
 | .bstr _=>false
 | .mk _ _ _ _ _=>false
 | .slc3 _ _ _ _ _=>false
 | .ixg _ _ _ _=>false
 | .call _ _=>true
 | .callv _ _ _=>true
 | .ldg _=>true
 | .mlk _ _ _ _ _=>false
 | .mup _ _ _ _=>false
 | .mdel _ _ _=>false
 | .mlen _=>false
 | .ment _ _ _ _=>false
 | .mest _ _ _=>false
 | .cph _ _ _=>false
 | .mkf _ _ _=>false
 | .entry _=>false
 | .hal _ _=>true
 | .next _=>true
 | .callh _ _=>true
 | .callp _ _=>true
 | .callc _ _ _=>true
 | .stm _=>false
def PO.dem:PO→Bool
 | .next _=>true
 | .callp _ _=>true
 | .hal _ (.view _ _ _)=>true
 | _=>false
theorem PO.y9 {env:Env} {s:St} {d:Nat} {K:Av→Cg→Prop} {po:PO} (h:po.aT=false):po.go env s d K=aO (po.fn s d) fun p=>K p.1 p.2:=by
 cases po <;> first | rfl | cases h
def skp:Av:=.tup []
def DV:Av→Bool
 | .un=>false
 | .b _=>false
 | .tup []=>true
 | .tup (_ :: _)=>false
def St.gd (s:St) (t:Nat):Option (Option Bool):=if DV (s.sl t)=true then some none else (s.boo (.t t)).map some
def PI.go (env:Env) (s:St) (K:Av→Cg→Prop) (i:PI):Prop:=match i.guard with
 | none=>i.op.go env s (i.dst.getD 0) K
 | some (t,want)=>aO (s.gd t) fun b=>(b=some want→i.op.go env s (i.dst.getD 0) K)∧(b≠some want→K skp .no)
def aS (env:Env):List PI→St→(St→Prop)→Prop
 | [],s,K=>K s
 | i :: is,s,K=>i.go env s fun v ch=>aS env is (s.ap i.dst v ch) K
abbrev Rg:=Nat×Nat×Nat
def big:Nat:=4611686018427387904
def gI:Nat:=900000
def Cg.wrs:Cg→List Rg
 | .no=>[]
 | .new o _=>[(o,0,big)]
 | .wr o off cs=>[(o,off,cs.length)]
 | .row o _=>[(o,0,big)]
 | .ab o _=>[(o,0,big)]
 | .hw o _=>[(o,0,big)]
 | .hall _=>[(gI,0,big)]
def rdH (s:St) (b:Nat):Rg:=(HBS+s.nc b,0,big)
def rdV (s:St):Cl→List Rg
 | .hv (.v a)=>[rdH s a]
 | _=>[]
def PO.rd (s:St) (d:Nat):PO→List Rg
 | .stm x=>match s.cl x with
   | .own o _ _=>[(o,0,big)]
   | .hv (.v b)=>[rdH s b]
   | _=>[]
 | .load n a=>match s.cl a with
   | .ptr o _ off=>[(o,off,n.getD 1)]
   | .hv (.p b _)=>[rdH s b]
   | _=>[]
 | .store sz a _=>match s.cl a with
   | .ptr o _ off=>[(o,off,sz)]
   | .hv (.p b _)=>[rdH s b]
   | _=>[]
 | .len x=>match s.cl x with
   | .hv (.v b)=>[rdH s b]
   | _=>[]
 | .mlk _ _ _ m _=>match s.cl m with
   | .hv (.m b)=>[rdH s b]
   | _=>[]
 | .mup _ m _ _=>match s.cl m with
   | .hv (.m b)=>[rdH s b]
   | _=>[]
 | .mdel _ m _=>match s.cl m with
   | .hv (.m b)=>[rdH s b]
   | _=>[]
 | .mlen m=>match s.cl m with
   | .hv (.m b)=>[rdH s b]
   | _=>[]
 | .ment _ _ m _=>match s.cl m with
   | .hv (.m b)=>[rdH s b]
   | _=>[]
 | .mest m _ _=>match s.cl m with
   | .hv (.m b)=>[rdH s b]
   | _=>[]
 | .cph _ x y=>match s.cl x,s.cl y with
   | .hv (.s b _ _ _),.hv (.s b2 _ _ _)=>[rdH s b,rdH s b2]
   | _,_=>[]
 | .entry x=>match s.cl x with
   | .hv (.p r 0)=>match s.hb r with
     | .iter b _ _ _=>[rdH s r,rdH s b]
     | _=>[rdH s r]
   | _=>[]
 | .hal c k=>match k with
   | .range m=>match s.cl m with
     | .hv (.m b)=>[(HBS+c,0,big),rdH s b]
     | _=>[(HBS+c,0,big)]
   | .app _ _ _ x y=>[(HBS+c,0,big)] ++ rdV s (s.cl x) ++ rdV s (s.cl y)
   | .view _ x _=>[(HBS+c,0,big)] ++ rdV s (s.cl x)
   | _=>[(HBS+c,0,big)]
 | .callh _ _=>[(gI,0,big)]
 | .callc _ _ _=>[(gI,0,big)]
 | .fld _ x=>match s.cl x with
   | .ptr o _ _=>[(o,big - 1,1)]
   | _=>[]
 | .ixa _ _ x _=>match s.cl x with
   | .ptr o _ _=>[(o,big - 1,1)]
   | _=>[]
 | .nilck x=>match s.cl x with
   | .ptr o _ _=>[(o,big - 1,1)]
   | _=>[]
 | .sla _ _ x _=>match s.cl x with
   | .ptr o _ _=>[(o,big - 1,1)]
   | _=>[]
 | .pnil _ x=>match s.cl x with
   | .ptr o _ _=>[(o,big - 1,1)]
   | _=>[]
 | .append _ _ _ x _=>match s.cl x with
   | .own o _ _=>[(o,0,big)]
   | .d (.sc (.slice none 0 0))=>[(d,big - 1,1)]
   | _=>[]
 | .nilRow _ _=>[(d,big - 1,1)]
 | .box _=>[(d,big - 1,1)]
 | .new _=>[(d,big - 1,1)]
 | .bslice _ _ _ _ _=>[(d,big - 1,1)]
 | .mk _ _ _ _ _=>[(d,big - 1,1)]
 | .ixs _ x _=>match s.cl x with
   | .sv o _ _ _ _ _=>[(o,big - 1,1)]
   | .hv (.v b)=>[rdH s b]
   | _=>[]
 | .call _ xs=>match s.recv xs,s.eX xs with
   | some p,_=>[(p.1,0,big),(d,big - 1,1)]
   | none,some p=>[(p.1,0,big),(d,big - 1,1)]
   | none,none=>[(d,big - 1,1)]
 | .callv _ _ xs=>match s.recv xs,s.eX xs with
   | some p,_=>[(p.1,0,big),(d,big - 1,1)]
   | none,some p=>[(p.1,0,big),(d,big - 1,1)]
   | none,none=>[(d,big - 1,1)]
 | _=>[]
def PI.rd (s:St) (i:PI):List Rg:=i.op.rd s (i.dst.getD 0)
def dw (env:Env):List PI→St→List (List Rg×List Rg)→(St→List (List Rg×List Rg)→Prop)→Prop
 | [],s,acc,K=>K s acc.reverse
 | i :: is,s,acc,K=>i.go env s fun v ch=>dw env is (s.ap i.dst v ch) ((i.rd s,ch.wrs) :: acc) K
def PX.slots:PX→List Nat
 | .t n=>[n]
 | .v _=>[]
def sW:Option PX→List Nat
 | some x=>x.slots
 | none=>[]
def HA.slots:HA→List Nat
 | .new _=>[]
 | .box x=>x.slots
 | .mk _ _ _ n c=>n.slots ++ c.slots
 | .map _=>[]
 | .mapn _ x=>x.slots
 | .range m=>m.slots
 | .app _ _ _ x y=>x.slots ++ y.slots
 | .lit _ _ _ _ ps=>ps.flatMap fun p=>p.2.2.slots
 | .view _ x lo=>x.slots ++ lo.slots
def PO.slots:PO→List Nat
 | .mv x=>x.slots
 | .nilRow _ _=>[]
 | .pick c a b=>c.slots ++ a.slots ++ b.slots
 | .box x=>x.slots
 | .new _=>[]
 | .build _ ps=>ps.flatMap fun p=>p.2.2.slots
 | .bslice _ _ _ _ ps=>ps.flatMap fun p=>p.2.2.slots
 | .load _ a=>a.slots
 | .store _ a x=>a.slots ++ x.slots
 | .fld _ x=>x.slots
 | .fldv _ _ x=>x.slots
 | .ixa _ _ x i=>x.slots ++ i.slots
 | .ixs _ x i=>x.slots ++ i.slots
 | .ixv _ _ _ x i=>x.slots ++ i.slots
 | .ixstr x i=>x.slots ++ i.slots
 | .bin _ x y=>x.slots ++ y.slots
 | .eqb _ x y=>x.slots ++ y.slots
 | .eqs _ _ x y=>x.slots ++ y.slots
 | .un _ x=>x.slots
 | .conv _ x=>x.slots
 | .slc _ x lo hi=>x.slots ++ sW lo ++ sW hi
 | .substr x lo hi=>x.slots ++ sW lo ++ sW hi
 | .len x=>x.slots
 | .strlen x=>x.slots
 | .alen _=>[]
 | .append _ _ _ x y=>x.slots ++ y.slots
 | .mm _ xs=>xs.flatMap PX.slots
 | .ext x _=>x.slots
 | .nilck x=>x.slots
 | .sla _ _ x h=>x.slots ++ h.slots
 | .niq _ x=>x.slots
 | .pnil _ x=>x.slots
 | .bstr x=>x.slots
 | .mk _ _ _ n c=>n.slots ++ c.slots
 | .slc3 _ x lo hi mx=>x.slots ++ sW lo ++ hi.slots ++ mx.slots
 | .ixg _ _ _ i=>i.slots
 | .call _ xs=>xs.flatMap PX.slots
 | .callv x _ xs=>x.slots ++ xs.flatMap PX.slots
 | .ldg x=>x.slots
 | .mlk _ _ _ m x=>m.slots ++ x.slots
 | .mup _ m x v=>m.slots ++ x.slots ++ v.slots
 | .mdel _ m x=>m.slots ++ x.slots
 | .mlen m=>m.slots
 | .ment _ _ m x=>m.slots ++ x.slots
 | .mest m x v=>m.slots ++ x.slots ++ v.slots
 | .cph _ x y=>x.slots ++ y.slots
 | .mkf _ a c=>a.flatMap PX.slots ++ c.flatMap PX.slots
 | .entry x=>x.slots
 | .hal _ k=>k.slots
 | .next x=>x.slots
 | .callh _ xs=>xs.flatMap PX.slots
 | .callp _ xs=>xs.flatMap PX.slots
 | .callc x _ xs=>x.slots ++ xs.flatMap PX.slots
 | .stm x=>x.slots
def PI.looks (i:PI):List Nat:=i.op.slots ++ (match i.guard with | some (t,_)=>[t] | none=>[])
def Ep (a b:Rg):Bool:=if a.1=gI then decide (b.1 < gI) else if b.1=gI then decide (a.1 < gI) else true
def yL (a b:Rg):Bool:=Ep a b && (a.1 != b.1 || (decide (a.2.2 < big) && decide (b.2.2 < big) && (decide (a.2.1+a.2.2≤b.2.1) || decide (b.2.1+b.2.2≤a.2.1))))
def jP (xs ys:List Rg):Bool:=xs.all fun x=>ys.all fun y=>yL x y
def DZ (d:Option Nat) (l:List Nat):Bool:=match d with
 | some d=>!l.contains d
 | none=>true
def sS (i j:PI) (wi:List Rg) (rj wj:List Rg):Bool:=DZ i.dst j.looks && jP wi rj && jP wi wj && DZ i.dst (match j.dst with | some d=>[d] | none=>[])
def masks:List Nat→List PI→List Nat
 | acc,[]=>acc
 | acc,i :: r=>masks (acc ++ [i.after.foldl (fun m e=>m ||| (1 <<< e) ||| acc.getD e 0) 0]) r
def vW (is:List PI) (fts:List (List Rg×List Rg)):Bool :=
 (List.range is.length).all fun j=>(List.range j).all fun i=>((masks [] is).getD j 0).testBit i ||
  (match is[i]?,is[j]?,fts[i]?,fts[j]? with
   | some pi,some pj,some fi,some fj=>sS pi pj fi.2 fj.1 fj.2 && sS pj pi fj.2 fi.1 fi.2
   | _,_,_,_=>false)
def pwp (env:Env):PC→(Exit→St→Prop)→St→Prop
 | .skip,Q,s=>Q .normal s
 | .reg false ops,Q,s=>aS env ops s (Q .normal)
 | .reg true ops,Q,s=>dw env ops s [] fun s' fts=>vW ops fts=true∧Q .normal s'
 | .seq a b,Q,s=>pwp env a (fun e s'=>match e with | .normal=>pwp env b Q s' | e=>Q e s') s
 | .cond c a b,Q,s=>aO (s.boo c) fun t=>(t=true→pwp env a Q s)∧(t=false→pwp env b Q s)
 | .block id c,Q,s=>pwp env c (fun e s'=>match e with | .exit i=>if i=id then Q .normal s' else Q (.exit i) s' | e=>Q e s') s
 | .loop c,Q,s=>∃ I:Nat→St→Prop,(∃ n,I n s)∧∀ n s,I n s→pwp env c (fun e s'=>match e with | .normal=>∃ m,m < n∧I m s' | e=>Q e s') s
 | .exit id,Q,s=>Q (.exit id) s
 | .ret,Q,s=>Q .ret s
 | .goto l,Q,s=>Q (.goto l) s
 | .scope l c r,Q,s=>pwp env c (fun e s'=>match e with
  | .goto l'=>l'=l∧pwp env r (fun e2 s2=>match e2 with | .goto _=>False | e2=>Q e2 s2) s'
  | e=>Q e s') s
end Go.Proofs.Ytkafcpnahpfbfaa
end
section
namespace Go.Proofs.Ytkafcpnahpfbfaa
open Go
def Free (cur:Array Value) (fz:Nat×Nat):Prop:=fz=(0,0)∨fz=(cur.size,cur.size+1)
theorem Free.z (cur:Array Value):Free cur (0,0):=.inl rfl
theorem Free.size {cur cur':Array Value} {fz:Nat×Nat} (h:Free cur fz) (he:cur'.size=cur.size):Free cur' fz:=by
 unfold Free at *;rw [he];exact h
def bI (w:World) (base:Nat) (e:TypeId) (size:Nat) (v:Value) (n:Nat) (xs:List Value):Prop :=
 xs.length=n * size ∧
 ((v=.slice none 0 0∧n=0) ∨
  ∃ g cap cur fz,v=.slice (some ⟨g,0,none⟩) n cap∧base≤g∧w.heap[g]? = some (.cells cur e fz)∧n≤cap∧cap≤maxLen∧cur.size=cap * size∧cur.toList.take (n * size)=xs∧Free cur fz)
section
variable {w:World} {base:Nat} {e:TypeId} {size:Nat} {v:Value} {n:Nat} {xs:List Value}
theorem Ae (h:w.ownsRow base e size v n xs):bI w base e size v n xs:=by
 refine ⟨h.1,?_⟩
 rcases h.2 with hn | ⟨g,cap,cur,hv,hb,hg,h1,h2,h3,h4⟩
 ·exact .inl hn
 ·exact .inr ⟨g,cap,cur,(0,0),hv,hb,hg,h1,h2,h3,h4,.inl rfl⟩
theorem pW (w:World) (base:Nat) (e:TypeId) (size:Nat):bI w base e size (.slice none 0 0) 0 []:=⟨by simp,.inl ⟨rfl,rfl⟩⟩
theorem bI.lt (h:bI w base e size v n xs):∀ k,v.ownBlock=some k→base≤k∧k < w.heap.size:=by
 intro k hk
 rcases h.2 with ⟨rfl,_⟩ | ⟨g,cap,cur,fz,rfl,hb,hg,_⟩
 ·simp [Value.ownBlock] at hk
 ·simp [Value.ownBlock] at hk;subst hk;exact ⟨hb,(Array.getElem?_eq_some_iff.1 hg).1⟩
theorem bI.cells (h:bI w base e size v n xs) {g:Nat} (hg:v.ownBlock=some g):∀ j u,xs[j]? = some u→w.cell? ((⟨g,0,none⟩:Addr).add j)=some u:=by
 intro j u hu
 rcases h.2 with ⟨rfl,_⟩ | ⟨g',cap,cur,fz,rfl,_,hgg,_,_,_,htake,_⟩
 ·simp [Value.ownBlock] at hg
 ·simp [Value.ownBlock] at hg;subst hg;have hadd:(⟨g',0,none⟩:Addr).add j=⟨g',j,none⟩:=by unfold Addr.add;split <;> simp_all
  rw [hadd,cell_of_row w g' j cur e fz hgg];rw [←htake,List.getElem?_take] at hu;split at hu
  ·simpa using hu
  ·cases hu
theorem bI.mono {base':Nat} (h:bI w base e size v n xs) (hb:base'≤base):bI w base' e size v n xs:=by
 refine ⟨h.1,h.2.imp id fun ⟨g,cap,cur,fz,h1,h2,h3⟩=>⟨g,cap,cur,fz,h1,Nat.le_trans hb h2,h3⟩⟩
end
theorem gQ (P:Program) (g o:Nat) (t:TypeId) (fz:Nat×Nat):∀ (vs:List Value) (i:Nat) (cur:Array Value) (w:World),w.heap[g]? = some (.cells cur t fz)→Free cur fz→o+i+vs.length≤cur.size→(∀ v ∈ vs,v.oneCell'=true) →
 (storeCells ⟨g,o,none⟩ vs i).run P w=.ok () (w.setRow g (cur.toList.take (o+i) ++ vs ++ cur.toList.drop (o+i+vs.length)).toArray)
 | [],i,cur,w,hg,_,_,_=>by
   simp only [storeCells,List.append_nil,List.length_nil,Nat.add_zero,List.take_append_drop,Array.toArray_toList];rw [setRow_self w g cur t fz hg];rfl
 | v :: rest,i,cur,w,hg,hfz,hl,h1=>by
   have hi:o+i < cur.size:=by simp at hl;omega
   have hadd:(⟨g,o,none⟩:Addr).add i=⟨g,o+i,none⟩:=by unfold Addr.add;split <;> simp_all
   have hcell:w.cell? ⟨g,o+i,none⟩=some cur[o+i]:=by simp [World.cell?,hg,hi]
   have hfro:w.frozen? ⟨g,o+i,none⟩=false:=by
    simp only [World.frozen?,hg,Bool.and_eq_false_iff,decide_eq_false_iff_not]
    rcases hfz with rfl | rfl
    ·right;simp
    ·left;simp only;omega
   have hst:(store ((⟨g,o,none⟩:Addr).add i) v).run P w=.ok () (w.setRow g (cur.setIfInBounds (o+i) v)):=by
    rw [hadd,run_store P w _ v _ (h1 v (by simp)),hcell];simp [hfro,setCell_eq_setRow w g (o+i) cur t fz v hg]
   have ih:=gQ P g o t fz rest (i+1) (cur.setIfInBounds (o+i) v) (w.setRow g (cur.setIfInBounds (o+i) v)) (setRow_heap w g cur _ t _ hg) (hfz.size (by simp)) (by simp at hl ⊢;omega) (fun x hx=>h1 x (by simp [hx]))
   simp only [storeCells,Sem.run_bind,hst,Result.andThen_ok,ih,setRow_setRow]
   congr 3
   have e:=list_seg_step cur.toList (o+i) v rest (by simp at hl ⊢;omega)
   simpa [Array.toList_setIfInBounds,Nat.add_assoc] using e
section
variable {P:Program} (w:World)
theorem kS (t ty e:TypeId) (i:TypeInfo) (ht:P.underlying t=some (.slice e)) (hi:P.info? e=some i)
 (g sLen sCap:Nat) (cur:Array Value) (fz:Nat×Nat) (hg:w.heap[g]? = some (.cells cur e fz)) (hfz:Free cur fz)
 (a:Addr) (m c:Nat) (news:List Value) (hl:news.length=m * i.size) (hnews:∀ j u,news[j]? = some u→w.cell? (a.add j)=some u) (h1:∀ u ∈ news,u.oneCell'=true)
 (hroom:sLen+m≤sCap) (hfit:sLen * i.size+news.length≤cur.size) :
 (Builtin.append_ #[t,t] ty #[.slice (some ⟨g,0,none⟩) sLen sCap,.slice (some a) m c]).run P w =
  .ok (.slice (some ⟨g,0,none⟩) (sLen+m) sCap) (w.setRow g (cur.toList.take (sLen * i.size) ++ news ++ cur.toList.drop (sLen * i.size+news.length)).toArray):=by
 have hf:=run_firstCells_some (P:=P) w i.size m a m c news hl hnews;have hst:=gQ P g (sLen * i.size) e fz news 0 cur w hg hfz (by simpa using hfit) h1;simp only [Nat.add_zero] at hst;simp [Builtin.append_,run_underlying ht,sizeOf,typeInfo,hi,Builtin.lenOf,hroom,hf,Addr.add_lit,hst]
theorem oO (base:Nat) (t ty e:TypeId) (i:TypeInfo) (z:Value) (size bytes:Nat) (ht:P.underlying t=some (.slice e)) (hi:P.info? e=some i) (hz:i.zero=some z)
 (hsize:i.size=size) (hby:i.bytes=bytes) (hzs:z.cells.size=size) (hsz:0 < size)
 (v:Value) (n:Nat) (xs:List Value) (hown:bI w base e size v n xs)
 (a:Addr) (m c:Nat) (news:List Value) (hl:news.length=m * size) (hnews:∀ j u,news[j]? = some u→w.cell? (a.add j)=some u) (h1:∀ u ∈ news,u.oneCell'=true)
 (h63:n+m≤maxLen) (hbytes:(n+m) * bytes≤140737488355328) (hbase:base≤w.heap.size) :
 ∃ v' w',(Builtin.append_ #[t,t] ty #[v,.slice (some a) m c]).run P w=.ok v' w'∧bI w' base e size v' (n+m) (xs ++ news)∧w.grownBy w' v.ownBlock ∧
   (v'=.slice none 0 0↔v=.slice none 0 0∧m=0)∧(v'.ownBlock=v.ownBlock∨v'.ownBlock=some w.heap.size):=by
 subst hsize;subst hby;have hsmall:n+m≤9223372036854775807:=by simp only [maxLen] at h63;omega
 have hlen:(xs ++ news).length=(n+m) * i.size:=by rw [List.length_append,hown.1,hl,Nat.add_mul]
 have grown:∀ (old:Nat),old < n+m→∀ (row:Option Nat),
  bI (w.drew.alloc (.cells (xs.toArray ++ news.toArray ++ Builtin.zeroCells z.cells (grownCap w (n+m) old e - (n+m))) e)) base e i.size
   (.slice (some ⟨w.heap.size,0,none⟩) (n+m) (grownCap w (n+m) old e)) (n+m) (xs ++ news) ∧
  w.grownBy (w.drew.alloc (.cells (xs.toArray ++ news.toArray ++ Builtin.zeroCells z.cells (grownCap w (n+m) old e - (n+m))) e)) row:=by
  intro old ho row;have hge:=grownCap_ge w (n+m) old e;have hcm:grownCap w (n+m) old e≤maxLen:=grownCap_le_maxLen w (n+m) old e h63;refine ⟨⟨hlen,.inr ⟨w.heap.size,_,_,(0,0),rfl,hbase,heap_alloc_new w.drew _,hge,hcm,?_,?_,.inl rfl⟩⟩,⟨rfl,rfl,rfl,by simp,fun k hk _=>heap_alloc_old w.drew _ k hk⟩⟩
  ·simp only [Array.size_append,List.size_toArray,size_zeroCells,hzs,hown.1,hl,←Nat.add_mul]
   congr 1
   omega
  ·simp only [Array.toList_append,List.append_assoc];rw [←List.append_assoc,←hlen];exact List.take_left
 rcases hown.2 with ⟨rfl,rfl⟩ | ⟨g,cap,cur,fz,rfl,hbg,hg,hnc,hcm,hcs,htake,hfz⟩
 ·obtain ⟨v',w',k1,k2,k3,k4,k5⟩:=run_append_own_at (P:=P) w base t ty e i z i.size i.bytes ht hi hz rfl rfl hzs hsz (.slice none 0 0) 0 xs ⟨hown.1,.inl ⟨rfl,rfl⟩⟩ a m c news hl hnews h1 h63 hbytes hbase;exact ⟨v',w',k1,Ae k2,k3,k4,k5⟩
 ·by_cases hroom:n+m≤cap
  ·have hfit:n * i.size+news.length≤cur.size:=by rw [hl,hcs,←Nat.add_mul];exact Nat.mul_le_mul_right _ hroom
   have hr:=kS (P:=P) w t ty e i ht hi g n cap cur fz hg hfz a m c news hl hnews h1 hroom hfit
   have hsz2:(cur.toList.take (n * i.size) ++ news ++ cur.toList.drop (n * i.size+news.length)).toArray.size=cur.size:=by
    simp only [List.size_toArray,List.length_append,List.length_take,List.length_drop,Array.length_toList];omega
   refine ⟨_,_,hr,⟨hlen,.inr ⟨g,cap,_,fz,rfl,hbg,setRow_heap w g cur _ e _ hg,hroom,hcm,hsz2.trans hcs,?_,hfz.size hsz2⟩⟩,⟨rfl,rfl,rfl,by simp,fun k _ hk=>setRow_other w g k _ (fun e=>hk (by simp [Value.ownBlock,e]))⟩,by simp,Or.inl rfl⟩;rw [htake,←hlen];exact List.take_left
  ·have holds:∀ j u,xs[j]? = some u→w.cell? ((⟨g,0,none⟩:Addr).add j)=some u:=hown.cells (g:=g) rfl
   have hr:=run_append_grow (P:=P) w t ty e i z ht hi hz ⟨g,0,none⟩ n cap xs hown.1 holds a m c news hl hnews (by omega) (by omega) (growslice_fits (by omega) (by omega));have hgr:=grown cap (by omega) (Value.ownBlock (.slice (some ⟨g,0,none⟩) n cap));exact ⟨_,_,hr,hgr.1,hgr.2,by simp,Or.inr rfl⟩
theorem run_mark (t e E:TypeId) (ht:P.underlying t=some (.slice e)) (he:P.underlying e=some (.int .u8)) {g n c:Nat} {cur:Array Value} {fz:Nat×Nat} (hg:w.heap[g]? = some (.cells cur E fz)) (hfz:Free cur fz) :
 ∃ w',(convert t t (.slice (some ⟨g,0,none⟩) n c)).run P w=.ok (.slice (some ⟨g,0,none⟩) n c) w'∧w'.heap[g]? = some (.cells cur E (cur.size,cur.size+1))∧w.grownBy w' (some g)∧∀ a,w'.cell? a=w.cell? a:=by
 have hsh:w.shape? g=some (E,cur.size):=by unfold World.shape?;rw [hg]
 refine ⟨w.freeze ⟨g,cur.size,none⟩ 1,?_,?_,?_,?_⟩
 ·simp [convert,run_underlying ht,run_underlying he,markStringish,hsh]
 ·unfold World.freeze;rw [if_neg (by decide)]
  show (w.heap.modify g _)[g]? = _
  rw [Array.getElem?_modify,if_pos rfl,hg]
  rcases hfz with rfl | rfl
  ·rfl
  ·have h1:(cur.size == cur.size+1)=false:=by simp
   have h2:min cur.size cur.size=cur.size:=by omega
   have h3:max (cur.size+1) (cur.size+1)=cur.size+1:=by omega
   simp [h2,h3]
 ·unfold World.freeze;rw [if_neg (by decide)];refine ⟨rfl,rfl,rfl,by simp,fun k hk hne=>?_⟩
  show (w.heap.modify g _)[k]? = _
  rw [Array.getElem?_modify,if_neg (fun h=>hne (by rw [h]))]
 ·intro a;unfold World.freeze;rw [if_neg (by decide)];simp only [World.cell?,Array.getElem?_modify]
  by_cases h:g=a.block
  ·subst h;rw [if_pos rfl,hg];rfl
  ·rw [if_neg h]
end
end Go.Proofs.Ytkafcpnahpfbfaa
end
section
namespace Go.Proofs.Ytkafcpnahpfbfaa
open Go Go.RowKit
theorem iK (w:World) (o:Obj) (i:Nat) (h:i < w.heap.size):(w.alloc o).heap[i]? = w.heap[i]?:=by
 show (w.heap.push o)[i]? = w.heap[i]?
 rw [Array.getElem?_push,if_neg (Nat.ne_of_lt h)]
inductive RD (S:Nat→Nat) (w:World):Dt→Value→Prop
 | sc (v:Value) (h:v.oneCell'=true):RD S w (.sc v) v
 | emp (A:Option Addr) (c:Nat) (h:c≤maxLen):RD S w (.im []) (.slice A 0 c)
 | im (rows:List (List Dt)) (sz b o cap:Nat) (f:Nat→Nat→Value) (hc:rows.length≤cap) (hm:cap≤maxLen) (hsz:∀ r,r ∈ rows→r.length=sz)
  (hcell:∀ i j,i < rows.length→j < sz→w.cell? ⟨b,o+(i * sz+j),none⟩=some (f i j)∧o+(i * sz+j) < S b)
  (hd:∀ i r j x,rows[i]? = some r→r[j]? = some x→RD S w x (f i j)):RD S w (.im rows) (.slice (some ⟨b,o,none⟩) rows.length cap)
 | nn (t:TypeId) (p:Value):RD S w .nn (.iface t p)
def Ext (S S':Nat→Nat) (w w':World):Prop:=∀ b i,i < S b→(w.cell? ⟨b,i,none⟩).isSome=true→i < S' b∧w'.cell? ⟨b,i,none⟩=w.cell? ⟨b,i,none⟩
theorem Ext.refl (S:Nat→Nat) (w:World):Ext S S w w:=fun _ _ h _=>⟨h,rfl⟩
theorem Ext.trans {S S' S'':Nat→Nat} {w w' w'':World} (h:Ext S S' w w') (k:Ext S' S'' w' w''):Ext S S'' w w'':=fun b i hi hc=>by
 obtain ⟨h1,h2⟩:=h b i hi hc;obtain ⟨k1,k2⟩:=k b i h1 (by rw [h2];exact hc)
 exact ⟨k1,k2.trans h2⟩
theorem RD.ext {S S':Nat→Nat} {w w':World} (h:Ext S S' w w') {x:Dt} {v:Value} (hx:RD S w x v):RD S' w' x v:=by
 induction hx with
 | sc v h=>exact .sc v h
 | emp A c h=>exact .emp A c h
 | im rows sz b o cap f hc hm hsz hcell hd ih =>
   refine .im rows sz b o cap f hc hm hsz (fun i j hi hj=>?_) ih;obtain ⟨h1,h2⟩:=hcell i j hi hj;obtain ⟨h3,h4⟩:=h b _ h2 (by rw [h1];rfl)
   exact ⟨h4.trans h1,h3⟩
 | nn t p=>exact .nn t p
theorem RD.one {S:Nat→Nat} {w:World} {x:Dt} {v:Value} (hx:RD S w x v):v.oneCell'=true:=by
 cases hx with
 | sc v h=>exact h
 | emp=>rfl
 | im=>rfl
 | nn=>rfl
class Bor where
 b0:Option Nat
 fs:Nat→Prop
 /-- the names that came in,their blocks and values -/
 L:Nat→Prop
 N:Nat→Nat
 V:Nat→Value
 /-- what is put off -/
 df:List Deferred
def Bor.fp [Bor] (b:Nat):Prop:=Bor.b0=some b∨Bor.fs b
def Mine [Bor] (B b:Nat):Prop:=B≤b∨Bor.fp b
structure kL (fp:Nat→Prop) (w w':World):Prop where
 os:w'.os=w.os
 tape:w'.tape=w.tape
 output:w'.output=w.output
 size:w.heap.size≤w'.heap.size
 block:∀ k,k < w.heap.size→¬ fp k→w'.heap[k]? = w.heap[k]?
structure iD [Bor] (B:Nat) (w w':World):Prop where
 os:w'.os=w.os
 tape:w'.tape=w.tape
 output:w'.output=w.output
 size:w.heap.size≤w'.heap.size
 block:∀ k,k < B→¬ Bor.fp k→w'.heap[k]? = w.heap[k]?
theorem iD.refl [Bor] (B:Nat) (w:World):iD B w w:=⟨rfl,rfl,rfl,Nat.le_refl _,fun _ _ _=>rfl⟩
theorem iD.trans [Bor] {B:Nat} {w w' w'':World} (h:iD B w w') (k:iD B w' w''):iD B w w'' :=
 ⟨k.os.trans h.os,k.tape.trans h.tape,k.output.trans h.output,Nat.le_trans h.size k.size,fun b hb hf=>(k.block b hb hf).trans (h.block b hb hf)⟩
theorem iD.of [Bor] {B:Nat} {w w':World} (h:Below B w w'):iD B w w':=⟨h.os,h.tape,h.output,h.size,fun k hk _=>h.block k hk⟩
structure Wit where
 blk:Nat→Nat
 val:Nat→Value
 adr:Nat→Value
 fp:Nat→Nat→Prop
 S:Nat→Nat
 /-- the heap: the block of a name,the value of a handle,the blocks of a name,the part,the names in use -/
 nm:Nat→Nat
 nv:Nat→Value
 hf:Nat→Nat→Prop
 nc:Nat→Nat
 lv:Nat→Prop
def pV (W:Wit) (p:Nat×Nat):Value:=.pointer (some ⟨W.nm p.1,p.2,none⟩)
def rv (W:Wit):Hv→Value
 | .p b off=>.pointer (some ⟨W.nm b,off,none⟩)
 | .s b off ln cap=>.slice (some ⟨W.nm b,off,none⟩) ln cap
 | .m b=>.map (some (W.nm b))
 | .v b=>W.nv b
 | .f f a c=>.func (.func f) (a.map (pV W)).toArray (c.map (pV W)).toArray
def NW (W:Wit):Hv→Prop
 | .p b _=>W.lv b
 | .s b _ ln cap=>W.lv b∧ln≤cap∧cap≤maxLen
 | .m b=>W.lv b
 | .v b=>W.lv b
 | .f _ a c=>(∀ p ∈ a,W.lv p.1)∧∀ p ∈ c,W.lv p.1
def RC (W:Wit) (G:Nat→Nat) (O:Nat→Ob) (w:World):Cl→Value→Prop
 | .un,v=>v.oneCell'=true
 | .d x,v=>RD W.S w x v
 | .own o g rows,v=>RD W.S w (.im rows) v∧g≤G o∧(g=G o→∀ E sz n,O o=.row E sz n→(∀ r,r ∈ rows→r.length=sz)∧rows.length≤n∧(n=rows.length→v=W.val o))
 | .ptr o g off,v=>v.oneCell'=true∧g≤G o∧(g=G o→v=.pointer (some ⟨W.blk o,off,none⟩))
 | .el row off,v=>∃ b o,v=.pointer (some ⟨b,o+off,none⟩)∧∀ j x,row[j]? = some x→∃ u,w.cell? ⟨b,o+j,none⟩=some u∧o+j < W.S b∧RD W.S w x u
 | .ab o g,v=>v.oneCell'=true∧g≤G o∧(g=G o→v=W.adr o)
 | .sv o g off len cap _,v=>∃ b,v=.slice (some ⟨b,off,none⟩) len cap∧len≤cap∧cap≤maxLen∧g≤G o∧(g=G o→b=W.blk o)
 | .ti rows,v=>RD W.S w (.im rows) v∧∃ A,v=.slice A rows.length rows.length
 | .hv h,v=>v=rv W h∧v.oneCell'=true∧NW W h
theorem RC.one {W:Wit} {G:Nat→Nat} {O:Nat→Ob} {w:World} {c:Cl} {v:Value} (h:RC W G O w c v):v.oneCell'=true:=by
 cases c with
 | un=>exact h
 | d x=>exact RD.one h
 | own o g rows=>exact RD.one h.1
 | ptr o g off=>exact h.1
 | el row off=>obtain ⟨b,o,rfl,_⟩:=h;rfl
 | ab o g=>exact h.1
 | sv o g off len cap sz=>obtain ⟨b,rfl,_⟩:=h;rfl
 | ti rows=>exact RD.one h.1
 | hv h'=>exact h.2.1
def RCs (W:Wit) (G:Nat→Nat) (O:Nat→Ob) (w:World) (cs:List Cl) (vs:List Value):Prop :=
 cs.length=vs.length∧∀ (i:Nat) c u,cs[i]? = some c→vs[i]? = some u→RC W G O w c u
def RB (W:Wit) (G:Nat→Nat) (O:Nat→Ob) (w:World):Bv→Value→Prop
 | .one c,v=>RC W G O w c v
 | .agg cs,v=>∃ arr:Array Value,v=.agg arr∧RCs W G O w cs arr.toList
def RA (W:Wit) (G:Nat→Nat) (O:Nat→Ob) (w:World):Av→Value→Prop
 | .un,_=>True
 | .b x,v=>RB W G O w x v
 | .tup xs,v=>∃ vs:Array Value,v=.tuple vs∧xs.length=vs.size∧∀ (i:Nat) x u,xs[i]? = some x→vs[i]? = some u→RB W G O w x u
def kOk:Value→Bool
 | .agg arr=>arr.toList.all Value.oneCell'
 | v=>v.oneCell'
def REs (W:Wit) (G:Nat→Nat) (O:Nat→Ob) (w:World) (k:Nat) (es:List (Value×Nat×Hw)) (es':Array MapEntry):Prop :=
 es.length=es'.size∧∀ (i:Nat) x y,es[i]? = some x→es'.toList[i]? = some y→y.key=x.1∧y.born=x.2.1∧RB W G O w x.2.2.bv y.val∧(keyOf Try.prog k x.1).isSome=true∧kOk x.1=true
def I4 (W:Wit) (w:World) (b E sz:Nat) (rows:List (List Dt)):Prop:=∃ xs,bI w 0 E sz (W.nv b) rows.length xs∧(∀ r ∈ rows,r.length=sz) ∧
 (∀ i r j x,rows[i]? = some r→r[j]? = some x→∃ u,xs[i * sz+j]? = some u∧RD W.S w x u)∧(rows≠[]→(W.nv b).ownBlock=some (W.nm b))
def RH (W:Wit) (G:Nat→Nat) (O:Nat→Ob) (w:World) (b:Nat):Hb→Prop
 | .no=>True
 | .dead=>True
 | .cells cs=>∃ arr T,w.heap[W.nm b]? = some (.cells arr T (0,0))∧RCs W G O w (cs.map Hc.cl) arr.toList
 | .map k es clock=>Maps.Keyed Try.prog k∧∃ es',w.heap[W.nm b]? = some (.map es' clock)∧MapKept.Stamped es' clock∧REs W G O w k es es'
 | .vec E sz rows=>I4 W w b E sz rows
 | .iter b' since seen c0=>W.lv b'∧w.heap[W.nm b]? = some (.mapIter (some (W.nm b')) since seen.toArray c0)
 | .ab H=>H.r w (W.nv b) (W.hf b)
def hcl (W:Wit) (b:Nat):Hb→Nat→Prop
 | .no,_=>False
 | .dead,_=>False
 | .cells _,k=>W.nm b=k
 | .map _ _ _,k=>W.nm b=k
 | .vec _ _ _,k=>(W.nv b).ownBlock=some k
 | .iter _ _ _ _,k=>W.nm b=k
 | .ab _,k=>W.hf b k
structure RP' [Bor] (B:Nat) (W:Wit) (G:Nat→Nat) (O:Nat→Ob) (w:World) (o:Nat) (h:Nat→Hb):Prop where
 nc:∀ b,h b≠.no→HBS+W.nc b=o
 lv:∀ b,h b≠.no→W.lv b
 mine:∀ b k,hcl W b (h b) k→Mine B k∧W.S k=0∧k < w.heap.size
 at_:∀ b,RH W G O w b (h b)
 ex:∀ b b' k,hcl W b (h b) k→hcl W b' (h b') k→b=b'
def RO [Bor] (B:Nat) (W:Wit) (G:Nat→Nat) (O:Nat→Ob) (w:World) (o:Nat):Ob→Prop
 | .no=>True
 | .cells cs=>∃ arr T,w.heap[W.blk o]? = some (.cells arr T (0,0))∧Mine B (W.blk o)∧W.S (W.blk o)=0∧RCs W G O w cs arr.toList
 | .row E sz n=>∃ xs,bI w B E sz (W.val o) n xs∧∀ g,(W.val o).ownBlock=some g→W.S g≤n * sz
 | .ab H=>H.r w (W.adr o) (W.fp o)∧∀ b,W.fp o b→B≤b∧W.S b=0
 | .hp h=>RP' B W G O w o h
def cl (W:Wit) (o:Nat):Ob→Nat→Prop
 | .no,_=>False
 | .cells _,b=>W.blk o=b
 | .row _ _ _,b=>(W.val o).ownBlock=some b
 | .ab _,b=>W.fp o b
 | .hp h,k=>∃ b,hcl W b (h b) k
structure Fol (W:Wit) (G:Nat→Nat) (O:Nat→Ob) (w:World) (W':Wit) (G':Nat→Nat) (O':Nat→Ob) (w':World):Prop where
 ext:Ext W.S W'.S w w'
 gen:∀ o,G o≤G' o
 blk:∀ o,G' o=G o→W'.blk o=W.blk o
 own:∀ o E sz n',G' o=G o→O' o=.row E sz n'→∃ n,O o=.row E sz n∧n≤n'∧(n=n'→W'.val o=W.val o)
 adr:∀ o,G' o=G o→W'.adr o=W.adr o
 nm:∀ b,W.lv b→W'.lv b∧W'.nm b=W.nm b∧W'.nv b=W.nv b
 nc:W'.nc=W.nc
section
variable {W W':Wit} {G G':Nat→Nat} {O O':Nat→Ob} {w w':World}
theorem RC.fol (h:Fol W G O w W' G' O' w') {c:Cl} {v:Value} (hc:RC W G O w c v):RC W' G' O' w' c v:=by
 cases c with
 | un=>exact hc
 | d x=>exact RD.ext h.ext hc
 | own o g rows =>
   obtain ⟨h1,h2,h3⟩:=hc;refine ⟨RD.ext h.ext h1,Nat.le_trans h2 (h.gen o),fun hg E sz n' hO=>?_⟩;have hgg:G' o=G o:=by have:=h.gen o;omega
   obtain ⟨n,hn,hle,hval⟩:=h.own o E sz n' hgg hO;obtain ⟨h6,h4,h5⟩:=h3 (by omega) E sz n hn;refine ⟨h6,by omega,fun he=>?_⟩;have:n=n':=by omega
   rw [hval this];exact h5 (by omega)
 | ptr o g off =>
   obtain ⟨h1,h2,h3⟩:=hc;refine ⟨h1,Nat.le_trans h2 (h.gen o),fun hg=>?_⟩;have hgg:G' o=G o:=by have:=h.gen o;omega
   rw [h.blk o hgg];exact h3 (by omega)
 | el row off =>
   obtain ⟨b,o,h1,h2⟩:=hc;refine ⟨b,o,h1,fun j x hj=>?_⟩;obtain ⟨u,h3,h4,h5⟩:=h2 j x hj;obtain ⟨h6,h7⟩:=h.ext b _ h4 (by rw [h3];rfl)
   exact ⟨u,h7.trans h3,h6,RD.ext h.ext h5⟩
 | ab o g =>
   obtain ⟨h1,h2,h3⟩:=hc;refine ⟨h1,Nat.le_trans h2 (h.gen o),fun hg=>?_⟩;have hgg:G' o=G o:=by have:=h.gen o;omega
   rw [h.adr o hgg];exact h3 (by omega)
 | sv o g off len cap sz =>
   obtain ⟨b,h1,h2,h3,h4,h5⟩:=hc;refine ⟨b,h1,h2,h3,Nat.le_trans h4 (h.gen o),fun hg=>?_⟩;have hgg:G' o=G o:=by have:=h.gen o;omega
   rw [h.blk o hgg];exact h5 (by omega)
 | ti rows=>exact ⟨RD.ext h.ext hc.1,hc.2⟩
 | hv x =>
   obtain ⟨h1,h2,h3⟩:=hc;have hp:∀ p:Nat×Nat,W.lv p.1→pV W' p=pV W p:=fun p hp=>by unfold pV;rw [(h.nm _ hp).2.1]
   refine ⟨?_,h2,?_⟩
   ·rw [h1]
    cases x with
    | p b off=>show _=Value.pointer (some ⟨W'.nm b,off,none⟩);rw [(h.nm b h3).2.1];rfl
    | s b off ln cap=>show _=Value.slice (some ⟨W'.nm b,off,none⟩) ln cap;rw [(h.nm b h3.1).2.1];rfl
    | m b=>show _=Value.map (some (W'.nm b));rw [(h.nm b h3).2.1];rfl
    | v b=>show _=W'.nv b;rw [(h.nm b h3).2.2];rfl
    | f f a c =>
      show _=Value.func (.func f) (a.map (pV W')).toArray (c.map (pV W')).toArray
      rw [List.map_congr_left (fun p hp'=>hp p (h3.1 p hp')),List.map_congr_left (fun p hp'=>hp p (h3.2 p hp'))];rfl
   ·cases x with
    | p b off=>exact (h.nm b h3).1
    | s b off ln cap=>exact ⟨(h.nm b h3.1).1,h3.2⟩
    | m b=>exact (h.nm b h3).1
    | v b=>exact (h.nm b h3).1
    | f f a c=>exact ⟨fun p hp'=>(h.nm _ (h3.1 p hp')).1,fun p hp'=>(h.nm _ (h3.2 p hp')).1⟩
theorem RCs.fol (h:Fol W G O w W' G' O' w') {cs:List Cl} {vs:List Value} (hc:RCs W G O w cs vs):RCs W' G' O' w' cs vs :=
 ⟨hc.1,fun i c u h1 h2=>RC.fol h (hc.2 i c u h1 h2)⟩
theorem RB.fol (h:Fol W G O w W' G' O' w') {x:Bv} {v:Value} (hc:RB W G O w x v):RB W' G' O' w' x v:=by
 cases x with
 | one c=>exact RC.fol h hc
 | agg cs=>obtain ⟨arr,h1,h2⟩:=hc;exact ⟨arr,h1,RCs.fol h h2⟩
theorem RA.fol (h:Fol W G O w W' G' O' w') {x:Av} {v:Value} (hc:RA W G O w x v):RA W' G' O' w' x v:=by
 cases x with
 | un=>trivial
 | b x=>exact RB.fol h hc
 | tup xs=>obtain ⟨vs,h1,h2,h3⟩:=hc;exact ⟨vs,h1,h2,fun i x u h4 h5=>RB.fol h (h3 i x u h4 h5)⟩
theorem REs.fol (h:Fol W G O w W' G' O' w') {k:Nat} {es:List (Value×Nat×Hw)} {es':Array MapEntry} (hc:REs W G O w k es es'):REs W' G' O' w' k es es' :=
 ⟨hc.1,fun i x y h1 h2=>by obtain ⟨a,b,c,d⟩:=hc.2 i x y h1 h2;exact ⟨a,b,RB.fol h c,d⟩⟩
theorem I4.fol (h:Fol W G O w W' G' O' w') {b E sz:Nat} {rows:List (List Dt)} (hc:I4 W w b E sz rows) (hl:W.lv b) (hb:∀ k,(W.nv b).ownBlock=some k→w'.heap[k]? = w.heap[k]?):I4 W' w' b E sz rows:=by
 obtain ⟨xs,h1,h2,h3,h4⟩:=hc;obtain ⟨_,e1,e2⟩:=h.nm b hl;refine ⟨xs,?_,h2,fun i r j x q1 q2=>?_,fun hn=>by rw [e1,e2];exact h4 hn⟩
 ·rw [e2];refine ⟨h1.1,h1.2.imp id fun ⟨g,cap,cur,fz,f1,f2,f3,f4⟩=>⟨g,cap,cur,fz,f1,f2,?_,f4⟩⟩;rw [hb g (by rw [f1];rfl)]
  exact f3
 ·obtain ⟨u,q3,q4⟩:=h3 i r j x q1 q2;exact ⟨u,q3,RD.ext h.ext q4⟩
theorem RH.fol (h:Fol W G O w W' G' O' w') {b:Nat} {x:Hb} (hc:RH W G O w b x) (hl:x≠.no→W.lv b) (hf:W'.hf b=W.hf b) (hb:∀ k,hcl W b x k→w'.heap[k]? = w.heap[k]?):RH W' G' O' w' b x:=by
 cases x with
 | no=>trivial
 | dead=>trivial
 | cells cs =>
   obtain ⟨arr,T,h1,h2⟩:=hc;obtain ⟨_,e1,e2⟩:=h.nm b (hl (by simp));exact ⟨arr,T,by rw [e1,hb _ rfl];exact h1,RCs.fol h h2⟩
 | map k es clock =>
   obtain ⟨hk,es',h1,hst,h2⟩:=hc;obtain ⟨_,e1,e2⟩:=h.nm b (hl (by simp));exact ⟨hk,es',by rw [e1,hb _ rfl];exact h1,hst,h2.fol h⟩
 | vec E sz rows=>exact I4.fol h hc (hl (by simp)) (fun k hk=>hb k hk)
 | iter b' since seen c0 =>
   obtain ⟨h1,h2⟩:=hc;obtain ⟨_,e1,e2⟩:=h.nm b (hl (by simp));obtain ⟨f0,f1,f2⟩:=h.nm b' h1;refine ⟨f0,?_⟩;rw [e1,hb _ rfl,f1];exact h2
 | ab H =>
   have hc':H.r w (W.nv b) (W.hf b):=hc;obtain ⟨_,e1,e2⟩:=h.nm b (hl (by simp))
   show H.r w' (W'.nv b) (W'.hf b)
   rw [e2,hf];exact H.keep _ _ _ _ hc' (fun k hk=>hb k hk)
theorem hcl.fol (h:Fol W G O w W' G' O' w') {b:Nat} {x:Hb} (hl:x≠.no→W.lv b) (hf:W'.hf b=W.hf b) (k:Nat):hcl W' b x k↔hcl W b x k:=by
 cases x with
 | no=>exact Iff.rfl
 | dead=>exact Iff.rfl
 | cells cs=>show W'.nm b=k↔_;rw [(h.nm b (hl (by simp))).2.1];exact Iff.rfl
 | map _ es clock=>show W'.nm b=k↔_;rw [(h.nm b (hl (by simp))).2.1];exact Iff.rfl
 | vec E sz rows=>show (W'.nv b).ownBlock=some k↔_;rw [(h.nm b (hl (by simp))).2.2];exact Iff.rfl
 | iter _ _ _ _=>show W'.nm b=k↔_;rw [(h.nm b (hl (by simp))).2.1];exact Iff.rfl
 | ab H=>show W'.hf b k↔_;rw [hf];exact Iff.rfl
theorem RO.Sr [Bor] (h:Fol W G O w W' G' O' w') {B o:Nat} {x:Ob} (hc:RO B W G O w o x) (hg:G' o=G o) (hv:W'.val o=W.val o) (hf:W'.fp o=W.fp o) (hh':∀ f,x=.hp f→∀ b,W.lv b→W'.hf b=W.hf b)
 (hb:∀ b,cl W o x b→w'.heap[b]? = w.heap[b]?∧W'.S b=W.S b):RO B W' G' O' w' o x:=by
 cases x with
 | no=>trivial
 | cells cs =>
   obtain ⟨arr,T,h1,h2,h3,h4⟩:=hc;obtain ⟨k1,k2⟩:=hb (W.blk o) rfl;have:=h.blk o hg;exact ⟨arr,T,by rw [this,k1];exact h1,by rw [this];exact h2,by rw [this,k2];exact h3,RCs.fol h h4⟩
 | row E sz n =>
   obtain ⟨xs,h1,h2⟩:=hc;refine ⟨xs,?_,fun g hg2=>?_⟩
   ·rw [hv];refine ⟨h1.1,h1.2.imp id fun ⟨g,cap,cur,fz,e1,e2,e3,e4⟩=>⟨g,cap,cur,fz,e1,e2,?_,e4⟩⟩;rw [(hb g (by show (W.val o).ownBlock=some g;rw [e1];rfl)).1]
    exact e3
   ·rw [hv] at hg2;rw [(hb g hg2).2];exact h2 g hg2
 | ab H =>
   obtain ⟨h1,h2⟩:=hc;have hadr:=h.adr o hg;refine ⟨?_,fun b hb2=>?_⟩
   ·rw [hadr,hf];exact H.keep _ _ _ _ h1 (fun b hb2=>(hb b hb2).1)
   ·rw [hf] at hb2;rw [(hb b hb2).2];exact h2 b hb2
 | hp f =>
   have hh:=hh' f rfl;obtain ⟨h1,h2,h3,h4,h5⟩:=hc;have hk:∀ b k,hcl W b (f b) k→cl W o (.hp f) k:=fun b k hk=>⟨b,hk⟩
   have hc2:∀ b k,hcl W' b (f b) k↔hcl W b (f b) k:=fun b k=>by
    by_cases hn:f b=.no
    ·rw [hn];exact Iff.rfl
    ·exact hcl.fol h (fun _=>h2 b hn) (hh b (h2 b hn)) k
   refine ⟨fun b hn=>by rw [h.nc];exact h1 b hn,fun b hn=>(h.nm b (h2 b hn)).1,fun b k hk2=>?_,fun b=>?_,fun b b' k e1 e2=>h5 b b' k ((hc2 b k).1 e1) ((hc2 b' k).1 e2)⟩
   ·have hk3:=(hc2 b k).1 hk2;obtain ⟨q1,q2,q3⟩:=h3 b k hk3;obtain ⟨p1,p2⟩:=hb k (hk b k hk3);refine ⟨q1,by rw [p2];exact q2,?_⟩
    rcases Nat.lt_or_ge k w'.heap.size with hlt | hge
    ·exact hlt
    ·rw [Array.getElem?_eq_none hge,Array.getElem?_eq_getElem q3] at p1;cases p1
   ·by_cases hn:f b=.no
    ·rw [hn];trivial
    ·exact RH.fol h (h4 b) (fun _=>h2 b hn) (hh b (h2 b hn)) (fun k hk2=>(hb k (hk b k hk2)).1)
theorem RO.fol [Bor] (h:Fol W G O w W' G' O' w') {B o:Nat} {x:Ob} (hc:RO B W G O w o x) (hg:G' o=G o) (hv:W'.val o=W.val o) (hf:W'.fp o=W.fp o) (hh:∀ b,W.lv b→W'.hf b=W.hf b)
 (hb:∀ b,cl W o x b→w'.heap[b]? = w.heap[b]?∧W'.S b=W.S b):RO B W' G' O' w' o x:=RO.Sr h hc hg hv hf (fun _ _=>hh) hb
end
structure Sim [Bor] (w0:World) (S0:Nat→Nat) (n:Nat) (W:Wit) (s:St) (a:Act) (w:World):Prop where
 below:iD w0.heap.size w0 w
 s0:∀ b,b < w0.heap.size→W.S b=S0 b
 len:a.tmps.size=n
 dfs:a.defers=Bor.df
 sl:∀ x,RA W s.gen s.ob w (s.sl x) (a.tmps.getD x undef)
 ob:∀ o,RO w0.heap.size W s.gen s.ob w o (s.ob o)
 ex:∀ o o' b,cl W o (s.ob o) b→cl W o' (s.ob o') b→o=o'
 bk:∀ b,Bor.b0=some b→s.gen 0=0→W.blk 0=b
 nc:W.nc=s.nc
 lv:∀ b,W.lv b↔s.hb b≠.no
 small:n≤gI
 nm0:∀ b,Bor.L b→W.lv b∧W.nm b=Bor.N b∧W.nv b=Bor.V b
theorem Sim.ev [Bor] {w0:World} {S0:Nat→Nat} {n:Nat} {W:Wit} {s:St} {a:Act} {w:World} (h:Sim w0 S0 n W s a w) (t:Nat):RA W s.gen s.ob w (s.sl t) (a.eval (.tmp t)):=by
 have:=h.sl t
 simpa [Act.eval] using this
theorem JF {a:Act} {d:Nat} {v:Value} (hd:d < a.tmps.size) (x:Nat):(a.put (some d) v).tmps.getD x undef=if x=d then v else a.tmps.getD x undef:=by
 simp only [Act.put,Array.getD_eq_getD_getElem?]
 by_cases hx:x=d
 ·subst hx;simp [hd]
 ·rw [Array.getElem?_setIfInBounds_ne (Ne.symm hx),if_neg hx]
theorem Sim.step [Bor] {w0:World} {S0:Nat→Nat} {n:Nat} {W:Wit} {s:St} {a:Act} {w:World} (h:Sim w0 S0 n W s a w) {W':Wit} {w':World} {dst:Option Nat} {v:Av} {ch:Cg} {rv:Value}
 (hd:∀ d,dst=some d→d < n)
 (hf:Fol W s.gen s.ob w W' (s.ap dst v ch).gen (s.ap dst v ch).ob w') (hb:iD w0.heap.size w w') (hS:∀ b,b < w0.heap.size→W'.S b=W.S b)
 (hv:RA W' (s.ap dst v ch).gen (s.ap dst v ch).ob w' v rv)
 (ho:∀ o,RO w0.heap.size W' (s.ap dst v ch).gen (s.ap dst v ch).ob w' o ((s.ap dst v ch).ob o))
 (hx:∀ o o' b,cl W' o ((s.ap dst v ch).ob o) b→cl W' o' ((s.ap dst v ch).ob o') b→o=o') (hl:∀ b,W'.lv b↔(s.ap dst v ch).hb b≠.no):Sim w0 S0 n W' (s.ap dst v ch) (a.put dst rv) w':=by
 refine ⟨h.below.trans hb,fun b hb2=>(hS b hb2).trans (h.s0 b hb2),?_,?_,fun x=>?_,ho,hx,fun b e1 e2=>by
  have e3:=hf.gen 0;have e4:(s.ap dst v ch).gen 0=s.gen 0:=by omega
  rw [hf.blk 0 e4];exact h.bk b e1 (by omega),hf.nc.trans h.nc,hl,h.small,fun b hb=>by obtain ⟨q1,q2,q3⟩:=h.nm0 b hb;obtain ⟨k1,k2,k3⟩:=hf.nm b q1;exact ⟨k1,k2.trans q2,k3.trans q3⟩⟩
 ·cases dst <;> simp [Act.put,h.len]
 ·cases dst <;> simp [Act.put,h.dfs]
 ·cases dst with
  | none=>exact RA.fol hf (h.sl x)
  | some d =>
    rw [JF (by rw [h.len];exact hd d rfl)]
    show RA _ _ _ _ (up s.sl d v x) _
    rw [ay];split
    ·exact hv
    ·exact RA.fol hf (h.sl x)
theorem Fol.same {W:Wit} {G:Nat→Nat} {O:Nat→Ob} {w w':World} (hw:w'.heap=w.heap):Fol W G O w W G O w' :=
 ⟨fun b i h1 _=>⟨h1,by simp [World.cell?,hw]⟩,fun _=>Nat.le_refl _,fun _ _=>rfl,fun o E sz n _ ho=>⟨n,ho,Nat.le_refl _,fun _=>rfl⟩,fun _ _=>rfl,fun _ h=>⟨h,rfl,rfl⟩,rfl⟩
theorem o8 {s:St} {dst:Option Nat} {v:Av} {ch:Cg} {o:Nat} (h:∀ p,p≠o→(s.ap dst v ch).ob p=s.ob p) (h1:o < HBS∨(eU (s.ob o)=(fun _=>.no)∧eU ((s.ap dst v ch).ob o)=fun _=>.no)) (b:Nat):(s.ap dst v ch).hb b=s.hb b:=by
 show eU ((s.ap dst v ch).ob (HBS+s.nc b)) b=eU (s.ob (HBS+s.nc b)) b
 by_cases he:HBS+s.nc b=o
 ·rcases h1 with h1 | ⟨h1,h2⟩
  ·omega
  ·rw [he,h1,h2]
 ·rw [h _ he]
theorem Sim.put [Bor] {w0:World} {S0:Nat→Nat} {n:Nat} {W:Wit} {s:St} {a:Act} {w:World} (h:Sim w0 S0 n W s a w) {dst:Option Nat} (hd:∀ d,dst=some d→d < n) {v:Av} {rv:Value}
 (hv:RA W s.gen s.ob w v rv):Sim w0 S0 n W (s.ap dst v .no) (a.put dst rv) w :=
 h.step hd (Fol.same rfl) (iD.refl _ _) (fun _ _=>rfl) hv h.ob h.ex h.lv
theorem Sim.drew [Bor] {w0:World} {S0:Nat→Nat} {n:Nat} {W:Wit} {s:St} {a:Act} {w:World} (h:Sim w0 S0 n W s a w) (k:Nat):Sim w0 S0 n W s a { w with drawn:=k } :=
 ⟨⟨h.below.os,h.below.tape,h.below.output,h.below.size,h.below.block⟩,h.s0,h.len,h.dfs,fun x=>RA.fol (Fol.same (w:=w) (w':={ w with drawn:=k }) rfl) (h.sl x),fun o=>RO.fol (Fol.same (w:=w) (w':={ w with drawn:=k }) rfl) (h.ob o) rfl rfl rfl (fun _ _=>rfl) (fun _ _=>⟨rfl,rfl⟩),h.ex,h.bk,h.nc,h.lv,h.small,h.nm0⟩
def kF:TypeDesc→Bool
 | .struct _=>true
 | .array _ _=>true
 | _=>false
def cX:Operand→Option PX
 | .tmp t=>some (.t t)
 | .const (.agg a)=>if a.toList.all Value.oneCell'=true then some (.v (.agg a)) else none
 | .const (.tuple _)=>none
 | .const v=>some (.v v)
 | _=>none
section
variable {w0:World} {S0:Nat→Nat} {n:Nat} {W:Wit} {s:St} {a:Act} {w:World}
theorem zK {v:Value} (h:v.oneCell'=true):yC v=.b (.one (.d (.sc v))):=by
 cases v <;> first | rfl | (simp [Value.oneCell'] at h)
theorem evX [Bor] (h:Sim w0 S0 n W s a w) {xo:Operand} {x:PX} (hx:cX xo=some x):RA W s.gen s.ob w (s.ev x) (a.eval xo):=by
 cases xo with
 | tmp t=>simp [cX] at hx;subst hx;exact h.ev t
 | global g=>simp [cX] at hx
 | func f=>simp [cX] at hx
 | const v =>
   by_cases h1:v.oneCell'=true
   ·have:x=.v v:=by
     cases v <;> first | (simp [Value.oneCell'] at h1;done) | (simp [cX] at hx;exact hx.symm)
    subst this;simp only [St.ev,zK h1];exact RD.sc _ h1
   ·cases v with
    | agg arr =>
      simp only [cX] at hx;split at hx
      ·rename_i ha;cases hx;refine ⟨arr,rfl,by simp,fun i c u h2 h3=>?_⟩;simp only [List.getElem?_map,Array.getElem?_toList] at h2 h3;rw [h3] at h2;simp at h2;subst h2
       exact RD.sc _ (List.all_eq_true.1 ha u (by
        have:=Array.mem_of_getElem? h3
        simpa using this))
      ·cases hx
    | tuple _=>simp [cX] at hx
    | _=>exact absurd rfl h1
theorem RD.fP {S:Nat→Nat} {v u:Value} (h:RD S w (.sc v) u):u=v∧v.oneCell'=true:=by
 cases h with
 | sc _ h=>exact ⟨rfl,h⟩
theorem jD [Bor] (h:Sim w0 S0 n W s a w) {xo:Operand} {x:PX} (hx:cX xo=some x) {v:Value} (hv:s.val x=some v):a.eval xo=v∧v.oneCell'=true:=by
 have:=evX h hx;unfold St.val at hv;split at hv
 ·rename_i u heq;rw [heq] at this;cases hv;exact RD.fP this
 ·cases hv
theorem dN [Bor] (h:Sim w0 S0 n W s a w) {xo:Operand} {x:PX} (hx:cX xo=some x) {m:Int} (hv:s.int x=some m):∃ k,a.eval xo=.int k m:=by
 have:=evX h hx;unfold St.int at hv;split at hv
 ·rename_i k u heq;rw [heq] at this;cases hv;exact ⟨k,(RD.fP this).1⟩
 ·cases hv
theorem sN [Bor] (h:Sim w0 S0 n W s a w) {xo:Operand} {x:PX} (hx:cX xo=some x) {m:Bool} (hv:s.boo x=some m):a.eval xo=.bool m:=by
 have:=evX h hx;unfold St.boo at hv;split at hv
 ·rename_i u heq;rw [heq] at this;cases hv;exact (RD.fP this).1
 ·cases hv
theorem dJ [Bor] (h:Sim w0 S0 n W s a w) {xo:Operand} {x:PX} (hx:cX xo=some x) {c:Cl} (hc:s.cl x=c) (hu:c≠.un):RC W s.gen s.ob w c (a.eval xo):=by
 have:=evX h hx;unfold St.cl at hc;split at hc
 ·rename_i u heq;rw [heq] at this;subst hc;exact this
 ·exact absurd hc.symm hu
theorem cells_one {v:Value} (h:v.oneCell'=true):v.cells=#[v]:=by
 cases v <;> first | rfl | (simp [Value.oneCell'] at h)
theorem yX [Bor] (h:Sim w0 S0 n W s a w) {xo:Operand} {x:PX} (hx:cX xo=some x) {cs:List Cl} (hc:s.cs x=some cs):RCs W s.gen s.ob w cs (a.eval xo).cells.toList:=by
 have:=evX h hx;unfold St.cs at hc;split at hc
 ·rename_i u heq;rw [heq] at this;cases hc;have h1:RC W s.gen s.ob w u (a.eval xo):=this;rw [cells_one h1.one];refine ⟨rfl,fun i c v h2 h3=>?_⟩
  cases i with
  | zero=>simp at h2 h3;subst h2;subst h3;exact h1
  | succ i=>simp at h2
 ·rename_i u heq;rw [heq] at this;cases hc;obtain ⟨arr,h1,h2⟩:=this;rw [h1];exact h2
 ·cases hc
theorem RCs.one {G:Nat→Nat} {O:Nat→Ob} {cs:List Cl} {vs:List Value} (h:RCs W G O w cs vs):∀ v ∈ vs,v.oneCell'=true:=by
 intro v hv;obtain ⟨i,hi,rfl⟩:=List.getElem_of_mem hv;exact (h.2 i _ _ (List.getElem?_eq_getElem (by rw [h.1];exact hi)) (List.getElem?_eq_getElem hi)).one
theorem IK [Bor] (h:Sim w0 S0 n W s a w) {b:Nat} {x:Hb} (hb:s.hb b=x) (hx:x≠.no):∃ f,s.ob (HBS+s.nc b)=.hp f∧f b=x∧RP' w0.heap.size W s.gen s.ob w (HBS+s.nc b) f∧W.lv b:=by
 have hro:=h.ob (HBS+s.nc b);unfold St.hb at hb
 cases hob:s.ob (HBS+s.nc b) with
 | hp f=>rw [hob] at hb hro;exact ⟨f,rfl,hb,hro,hro.lv b (by rw [show f b=x from hb];exact hx)⟩
 | no=>rw [hob] at hb;exact absurd hb.symm hx
 | cells cs=>rw [hob] at hb;exact absurd hb.symm hx
 | row E sz n=>rw [hob] at hb;exact absurd hb.symm hx
 | ab H=>rw [hob] at hb;exact absurd hb.symm hx
theorem pz [Bor] (h:Sim w0 S0 n W s a w) {b:Nat} {x:Hb} (hb:s.hb b=x) (hx:x≠.no):RH W s.gen s.ob w b x∧W.lv b:=by
 obtain ⟨f,_,h2,h3,h4⟩:=IK h hb hx;have:=h3.at_ b;rw [h2] at this;exact ⟨this,h4⟩
theorem qm [Bor] (h:Sim w0 S0 n W s a w) {b E sz:Nat} {rows:List (List Dt)} (hb:s.hb b=.vec E sz rows):I4 W w b E sz rows∧W.lv b:=pz h hb (by simp)
omit w0 S0 n W s a in
theorem oJ {B E sz m:Nat} {v:Value} {xs:List Value} (h:bI w B E sz v m xs) (hm:0 < m):∃ g cap cur fz,v=.slice (some ⟨g,0,none⟩) m cap∧B≤g∧w.heap[g]? = some (.cells cur E fz)∧m≤cap∧cap≤maxLen∧cur.size=cap * sz∧cur.toList.take (m * sz)=xs∧Free cur fz:=by
 rcases h.2 with ⟨h1,h2⟩ | ⟨g,cap,cur,fz,e⟩
 ·omega
 ·exact ⟨g,cap,cur,fz,e⟩
def Good [Bor] (P:Program) (n:Nat) (o:Oper) (po:PO):Prop :=
 ∀ (w0:World) (S0:Nat→Nat) (W:Wit) (s:St) (a:Act) (w:World) (v:Av) (ch:Cg),Sim w0 S0 n W s a w→po.fn s (o.dst.getD 0)=some (v,ch) →
   ∃ W' rv w',((execOp a.eval o).run P w=.ok (.value rv) w'∨((execOp a.eval o).run P w=.ok .skip w'∧rv=undef))∧Sim w0 S0 n W' (s.ap o.dst v ch) (a.put o.dst rv) w'
theorem Good.bJ [Bor] {P:Program} {o:Oper} {po:PO} (hd:∀ d,o.dst=some d→d < n)
 (h:∀ (w0:World) (S0:Nat→Nat) (W:Wit) (s:St) (a:Act) (w:World) (v:Av) (ch:Cg),Sim w0 S0 n W s a w→po.fn s (o.dst.getD 0)=some (v,ch) →
  ch=.no∧∃ rv,(execOp a.eval o).run P w=.ok (.value rv) w∧RA W s.gen s.ob w v rv):Good P n o po:=by
 intro w0 S0 W s a w v ch hs hf;obtain ⟨rfl,rv,h1,h2⟩:=h w0 S0 W s a w v ch hs hf;exact ⟨W,rv,w,.inl h1,hs.put hd h2⟩
variable {P:Program} {o:Oper} (hd:∀ d,o.dst=some d→d < n)
include hd
theorem Fb [Bor] {xo:Operand} {x:PX} (hop:o.op=.move xo∨o.op=.assign xo) (hx:cX xo=some x):Good P n o (.mv x) :=
 .bJ hd fun w0 S0 W s a w v ch hs hf=>by
  simp only [PO.fn,Option.some.injEq,Prod.mk.injEq] at hf;obtain ⟨rfl,rfl⟩:=hf;refine ⟨rfl,a.eval xo,?_,evX hs hx⟩
  rcases hop with h | h <;> simp [execOp,h]
theorem GU [Bor] {co ao bo:Operand} {c x y:PX} (hop:o.op=.pick co ao bo) (hc:cX co=some c) (hx:cX ao=some x) (hy:cX bo=some y):Good P n o (.pick c x y) :=
 .bJ hd fun w0 S0 W s a w v ch hs hf=>by
  simp only [PO.fn,Option.map_eq_some_iff,Prod.mk.injEq] at hf;obtain ⟨t,ht,rfl,rfl⟩:=hf;have h1:=sN hs hc ht;refine ⟨rfl,if t then a.eval ao else a.eval bo,?_,?_⟩
  ·simp [execOp,hop,h1,asBool]
  ·cases t
   ·exact evX hs hy
   ·exact evX hs hx
omit hd in
theorem addr_add {b off k:Nat}:(⟨b,off,none⟩:Addr).add k=⟨b,off+k,none⟩:=by
 unfold Addr.add;split
 ·rename_i h;subst h;rfl
 ·rfl
omit hd in
theorem jB {t:TypeId} {d:TypeDesc} (hu:P.underlying t=some d) (w:World):(isAgg t).run P w=.ok (kF d) w:=by
 simp only [isAgg,Sem.run_bind,run_underlying hu,Result.andThen_ok];cases d <;> rfl
omit hd in
theorem lW {k:Option Nat} {cs:List Cl} {vs:List Value} {off:Nat} {v:Av} (hr:RCs W s.gen s.ob w cs vs) (hv:ni k cs off=some v) :
 (k=none∧∃ c u,cs[off]? = some c∧vs[off]? = some u∧v=.b (.one c)∧RC W s.gen s.ob w c u) ∨
 (∃ m,k=some m∧off+m≤vs.length∧v=.b (.agg ((cs.drop off).take m))∧RCs W s.gen s.ob w ((cs.drop off).take m) ((vs.drop off).take m)):=by
 cases k with
 | none =>
   simp only [ni,Option.map_eq_some_iff] at hv;obtain ⟨c,hc,rfl⟩:=hv;have hlt:=(List.getElem?_eq_some_iff.1 hc).1;rw [hr.1] at hlt;exact .inl ⟨rfl,c,vs[off],hc,List.getElem?_eq_getElem hlt,rfl,hr.2 off c _ hc (List.getElem?_eq_getElem hlt)⟩
 | some m =>
   simp only [ni] at hv;split at hv
   ·rename_i hle;cases hv;refine .inr ⟨m,rfl,by rw [←hr.1];exact hle,rfl,by simp [hr.1],fun i c u h1 h2=>?_⟩
    rw [List.getElem?_take] at h1 h2;split at h1
    ·rename_i hlt;rw [if_pos hlt,List.getElem?_drop] at h2;rw [List.getElem?_drop] at h1;exact hr.2 _ _ _ h1 h2
    ·cases h1
   ·cases hv
omit hd in
theorem BA {t:TypeId} {d:TypeDesc} {i:TypeInfo} (hu:P.underlying t=some d) (hi:P.info? t=some i) {k:Option Nat} (hk:k=if kF d=true then some i.size else none)
 {cs:List Cl} {arr:Array Value} {off:Nat} {v:Av} (hr:RCs W s.gen s.ob w cs arr.toList) (hv:ni k cs off=some v) :
 ∃ rv,(part t arr off).run P w=.ok rv w∧RA W s.gen s.ob w v rv:=by
 have hag:=jB (P:=P) hu w
 rcases lW hr hv with ⟨rfl,c,u,h1,h2,rfl,h3⟩ | ⟨m,rfl,h1,rfl,h2⟩
 ·have:kF d=false:=by cases h:kF d <;> simp [h] at hk ⊢
  rw [this] at hag;have h4:arr[off]? = some u:=by simpa using h2
  exact ⟨u,by simp [part,hag,h4],h3⟩
 ·have:kF d=true:=by cases h:kF d <;> simp [h] at hk ⊢
  rw [this] at hag hk;simp at hk;subst hk;refine ⟨.agg (arr.extract off (off+i.size)),by simp [part,hag,sizeOf,typeInfo,hi],_,rfl,?_⟩
  have:(arr.extract off (off+i.size)).toList=(arr.toList.drop off).take i.size:=by
   simp [Array.toList_extract,List.extract_eq_take_drop]
  rw [this];exact h2
theorem JK [Bor] {t:TypeId} {fs:Array Field} {i off:Nat} {f:Field} {fi:TypeInfo} {xo:Operand} {x:PX} (hop:o.op=.fieldAddr t xo i) (hu:P.underlying t=some (.struct fs)) (hfi:fs[i]? = some f) (hoff:f.offset=off)
 (hi:P.info? f.type=some fi) (hz:fi.size≠0) (hx:cX xo=some x):Good P n o (.fld off x) :=
 .bJ hd fun w0 S0 W s a w v ch hs hf=>by
  have key:∀ b k,a.eval xo=.pointer (some ⟨b,k,none⟩)→(execOp a.eval o).run P w=.ok (.value (.pointer (some ⟨b,k+off,none⟩))) w:=fun b k he=>by
   simp [execOp,hop,Instr.fieldAt,run_underlying hu,hfi,he,Instr.sureAddr,fieldPlace,sizeOf,typeInfo,hi,hz,hoff,addr_add]
  simp only [PO.fn] at hf;split at hf
  ·rename_i o' g k heq;split at hf
   ·rename_i hg;cases hf;obtain ⟨h1,h2,h3⟩:=dJ hs hx heq (by simp);exact ⟨rfl,_,key _ _ (h3 hg.symm),rfl,h2,fun _=>rfl⟩
   ·cases hf
  ·rename_i row k heq;cases hf;obtain ⟨b,k',h1,h2⟩:=dJ hs hx heq (by simp);exact ⟨rfl,_,key _ _ h1,b,k',by rw [Nat.add_assoc],h2⟩
  ·rename_i b k heq;cases hf;obtain ⟨h1,h2,h3⟩:=dJ hs hx heq (by simp);exact ⟨rfl,_,key _ _ h1,rfl,rfl,h3⟩
  ·cases hf
theorem GI [Bor] {t:TypeId} {fs:Array Field} {i off:Nat} {f:Field} {fd:TypeDesc} {fi:TypeInfo} {xo:Operand} {x:PX} {k:Option Nat} (hop:o.op=.field t xo i) (hu:P.underlying t=some (.struct fs)) (hfi:fs[i]? = some f) (hoff:f.offset=off)
 (hfu:P.underlying f.type=some fd) (hi:P.info? f.type=some fi) (hk:k=if kF fd=true then some fi.size else none) (hx:cX xo=some x):Good P n o (.fldv off k x) :=
 .bJ hd fun w0 S0 W s a w v ch hs hf=>by
  simp only [PO.fn] at hf;split at hf
  ·rename_i cs heq;simp only [Option.map_eq_some_iff,Prod.mk.injEq] at hf;obtain ⟨v',hv,rfl,rfl⟩:=hf;have:=evX hs hx;rw [heq] at this;obtain ⟨arr,h1,h2⟩:=this;obtain ⟨rv,h3,h4⟩:=BA hfu hi hk h2 hv;refine ⟨rfl,rv,?_,h4⟩;simp [execOp,hop,Instr.field,run_underlying hu,hfi,h1,asAgg,hoff,h3]
  ·cases hf
theorem JL [Bor] {t e ln:Nat} {ei:TypeInfo} {xo io:Operand} {x i:PX} (hop:o.op=.indexAddr t xo io) (hu:P.underlying t=some (.array ln e)) (hi:P.info? e=some ei) (hx:cX xo=some x) (hix:cX io=some i):Good P n o (.ixa ln ei.size x i) :=
 .bJ hd fun w0 S0 W s a w v ch hs hf=>by
  have key:∀ b off kk k,a.eval xo=.pointer (some ⟨b,off,none⟩)→a.eval io=.int kk k→0≤k→k < (ln:Int)→(execOp a.eval o).run P w=.ok (.value (.pointer (some ⟨b,off+k.toNat * ei.size,none⟩))) w:=fun b off kk k he hk h0 h1=>by
   simp [execOp,hop,Instr.indexAt,run_underlying hu,he,hk,asIntOf,Instr.sureAddr,h0,h1,sizeOf,typeInfo,hi,addr_add]
  simp only [PO.fn] at hf;split at hf
  ·rename_i o' g off k heq hk;split at hf
   ·rename_i hg;cases hf;obtain ⟨h1,h2,h3⟩:=dJ hs hx heq (by simp);obtain ⟨kk,hk⟩:=dN hs hix hk;exact ⟨rfl,_,key _ _ _ _ (h3 hg.1.symm) hk hg.2.1 hg.2.2,rfl,h2,fun _=>rfl⟩
   ·cases hf
  ·rename_i row off k heq hk;split at hf
   ·rename_i hg;cases hf;obtain ⟨b,k',h1,h2⟩:=dJ hs hx heq (by simp);obtain ⟨kk,hk⟩:=dN hs hix hk;exact ⟨rfl,_,key _ _ _ _ h1 hk hg.1 hg.2,b,k',by rw [Nat.add_assoc],h2⟩
   ·cases hf
  ·rename_i b off k heq hk;split at hf
   ·rename_i hg;cases hf;obtain ⟨h1,h2,h3⟩:=dJ hs hx heq (by simp);obtain ⟨kk,hk⟩:=dN hs hix hk;exact ⟨rfl,_,key _ _ _ _ h1 hk hg.1 hg.2,rfl,rfl,h3⟩
   ·cases hf
  ·cases hf
omit hd in
theorem RD.len {S:Nat→Nat} {rows:List (List Dt)} {v:Value} (h:RD S w (.im rows) v):∃ A c,v=.slice A rows.length c∧rows.length≤c∧c≤maxLen:=by
 cases h with
 | emp A c h=>exact ⟨A,c,rfl,by simp,h⟩
 | im _ sz b o cap f hc hm=>exact ⟨_,cap,rfl,hc,hm⟩
omit hd in
theorem RD.row {S:Nat→Nat} {rows:List (List Dt)} {v:Value} (h:RD S w (.im rows) v) {i:Nat} {r:List Dt} (hr:rows[i]? = some r) :
 ∃ b o c,v=.slice (some ⟨b,o,none⟩) rows.length c∧∀ j x,r[j]? = some x→∃ u,w.cell? ⟨b,o+(i * r.length+j),none⟩=some u∧o+(i * r.length+j) < S b∧RD S w x u:=by
 cases h with
 | emp A c h=>simp at hr
 | im _ sz b o cap f hc hm hsz hcell hd =>
   refine ⟨b,o,cap,rfl,fun j x hj=>?_⟩;have hil:=(List.getElem?_eq_some_iff.1 hr).1;have hjl:=(List.getElem?_eq_some_iff.1 hj).1;have hrl:r.length=sz:=hsz r (List.mem_of_getElem? hr);rw [hrl] at hjl ⊢;obtain ⟨h1,h2⟩:=hcell i j hil hjl;exact ⟨_,h1,h2,hd i r j x hr hj⟩
omit hd in
theorem jI [Bor] (h:Sim w0 S0 n W s a w) {xo:Operand} {x:PX} (hx:cX xo=some x) {rows:List (List Dt)} (hr:(s.cl x).rows=some rows):RD W.S w (.im rows) (a.eval xo):=by
 unfold Cl.rows at hr;split at hr
 ·rename_i r heq;cases hr;exact dJ h hx heq (by simp)
 ·rename_i heq;cases hr;have h1:RD W.S w (.sc (.slice none 0 0)) (a.eval xo):=dJ h hx heq (by simp);obtain ⟨h2,_⟩:=RD.fP h1;rw [h2];exact .emp none 0 (by unfold maxLen;omega)
 ·rename_i o g r heq;cases hr;exact (dJ h hx heq (by simp)).1
 ·rename_i r heq;cases hr;exact (dJ h hx heq (by simp)).1
 ·cases hr
theorem JN [Bor] {t e:Nat} {ei:TypeInfo} {xo io:Operand} {x i:PX} (hop:o.op=.indexAddr t xo io) (hu:P.underlying t=some (.slice e)) (hi:P.info? e=some ei) (hx:cX xo=some x) (hix:cX io=some i):Good P n o (.ixs ei.size x i) :=
 .bJ hd fun w0 S0 W s a w v ch hs hf=>by
  simp only [PO.fn] at hf;split at hf
  ·rename_i k hk;split at hf
   ·rename_i o' g off ln cap sz2 heq;split at hf
    ·rename_i hcond;obtain ⟨hg,h0,hlt⟩:=hcond;cases hf;obtain ⟨kk,hk⟩:=dN hs hix hk;obtain ⟨b,h1,h2,h3,h4,h5⟩:=dJ hs hx heq (by simp);have hb:=h5 hg.symm;subst hb;refine ⟨rfl,.pointer (some ⟨W.blk o',off+k.toNat * ei.size,none⟩),?_,rfl,by omega,fun _=>rfl⟩;simp [execOp,hop,Instr.indexAt,run_underlying hu,h1,hk,asIntOf,h0,hlt,sizeOf,typeInfo,hi,addr_add]
    ·cases hf
   ·rename_i b off ln cap heq;split at hf
    ·rename_i hcond;obtain ⟨h0,hlt⟩:=hcond;cases hf;obtain ⟨kk,hk⟩:=dN hs hix hk;obtain ⟨h1,h2,h3⟩:=dJ hs hx heq (by simp);refine ⟨rfl,.pointer (some ⟨W.nm b,off+k.toNat * ei.size,none⟩),?_,rfl,rfl,h3.1⟩;have h1':a.eval xo=.slice (some ⟨W.nm b,off,none⟩) ln cap:=h1;simp [execOp,hop,Instr.indexAt,run_underlying hu,h1',hk,asIntOf,h0,hlt,sizeOf,typeInfo,hi,addr_add]
    ·cases hf
   ·rename_i b heq;split at hf
    ·rename_i E' sz' rows hvec;split at hf
     ·rename_i hcond;obtain ⟨hsz,h0,hlt⟩:=hcond;cases hf;obtain ⟨kk,hk⟩:=dN hs hix hk;obtain ⟨h1,h2,h3⟩:=dJ hs hx heq (by simp);have h1':a.eval xo=W.nv b:=h1;obtain ⟨⟨xs,g1,g2,g3,g4⟩,_⟩:=qm hs hvec;have hne:rows≠[]:=by rintro rfl;simp at hlt;omega
      obtain ⟨g,cap,cur,fz,e1,e2⟩:=oJ g1 (by cases rows with | nil=>exact absurd rfl hne | cons _ _=>simp)
      have e3:g=W.nm b:=by
       have:=g4 hne;rw [e1] at this
       simpa [Value.ownBlock] using this
      subst e3;refine ⟨rfl,.pointer (some ⟨W.nm b,k.toNat * ei.size,none⟩),?_,rfl,rfl,h3⟩;rw [e1] at h1';simp [execOp,hop,Instr.indexAt,run_underlying hu,h1',hk,asIntOf,h0,hlt,sizeOf,typeInfo,hi,addr_add]
     ·cases hf
    ·cases hf
   ·rename_i c hnsv;split at hf
    ·rename_i rows hr;split at hf
     ·rename_i h0;split at hf
      ·rename_i row hrow;split at hf
       ·rename_i hsz;cases hf;obtain ⟨kk,hk⟩:=dN hs hix hk;obtain ⟨b,o',c',h1,h2⟩:=(jI hs hx hr).row hrow;have hlt:k < (rows.length:Int):=by have:=(List.getElem?_eq_some_iff.1 hrow).1;omega
        refine ⟨rfl,.pointer (some ⟨b,o'+k.toNat * ei.size,none⟩),?_,b,o'+k.toNat * ei.size,rfl,fun j y hj=>?_⟩
        ·simp [execOp,hop,Instr.indexAt,run_underlying hu,h1,hk,asIntOf,h0,hlt,sizeOf,typeInfo,hi,addr_add]
        ·obtain ⟨u,h3,h4,h5⟩:=h2 j y hj;rw [hsz] at h3 h4;exact ⟨u,by rw [Nat.add_assoc];exact h3,by rw [Nat.add_assoc];exact h4,h5⟩
       ·cases hf
      ·cases hf
     ·cases hf
    ·cases hf
  ·cases hf
theorem JO [Bor] {t e ln:Nat} {ei:TypeInfo} {ed:TypeDesc} {xo io:Operand} {x i:PX} {k:Option Nat} (hop:o.op=.index t xo io) (hu:P.underlying t=some (.array ln e)) (heu:P.underlying e=some ed) (hi:P.info? e=some ei)
 (hk:k=if kF ed=true then some ei.size else none) (hx:cX xo=some x) (hix:cX io=some i):Good P n o (.ixv ln ei.size k x i) :=
 .bJ hd fun w0 S0 W s a w v ch hs hf=>by
  simp only [PO.fn] at hf;split at hf
  ·rename_i cs m heq hm;split at hf
   ·rename_i h0;simp only [Option.map_eq_some_iff,Prod.mk.injEq] at hf;obtain ⟨v',hv,rfl,rfl⟩:=hf;have:=evX hs hx;rw [heq] at this;obtain ⟨arr,h1,h2⟩:=this;obtain ⟨kk,hm⟩:=dN hs hix hm;obtain ⟨rv,h3,h4⟩:=BA heu hi hk h2 hv;refine ⟨rfl,rv,?_,h4⟩;simp [execOp,hop,Instr.index,run_underlying hu,h1,hm,asIntOf,h0.1,h0.2,sizeOf,typeInfo,hi,h3]
   ·cases hf
  ·cases hf
theorem DC [Bor] {t:Nat} {xo io:Operand} {x i:PX} (hop:o.op=.index t xo io) (hu:P.underlying t=some .string) (hx:cX xo=some x) (hix:cX io=some i):Good P n o (.ixstr x i) :=
 .bJ hd fun w0 S0 W s a w v ch hs hf=>by
  simp only [PO.fn] at hf;split at hf
  ·rename_i b m heq hm;split at hf
   ·rename_i h0;simp only [Option.map_eq_some_iff,Prod.mk.injEq] at hf;obtain ⟨c,hc,rfl,rfl⟩:=hf;obtain ⟨h1,_⟩:=jD hs hx heq;obtain ⟨kk,hm⟩:=dN hs hix hm;refine ⟨rfl,.int .u8 c.toNat,?_,RD.sc _ rfl⟩;simp [execOp,hop,Instr.index,run_underlying hu,h1,hm,asIntOf,h0,hc]
   ·cases hf
  ·cases hf
end
section
variable {n:Nat} {P:Program} {o:Oper}
theorem qH {op:BinOp} {t:TypeId} {x y:Operand} {a b:Value} (h1:∀ arr,a≠.agg arr) (h2:a≠.nilIface) (w:World):(eqGuard op t x y a b).run P w=.ok () w:=by
 unfold eqGuard;cases op <;> (try rfl) <;> (cases a <;> first | (exact absurd rfl (h1 _)) | (exact absurd rfl h2) | rfl)
theorem vI [Bor] (hd:∀ d,o.dst=some d→d < n) {op:BinOp} {t u:TypeId} {xo yo:Operand} {x y:PX} (hop:o.op=.binOp op t xo yo u) (hx:cX xo=some x) (hy:cX yo=some y):Good P n o (.bin op x y) :=
 .bJ hd fun w0 S0 W s a w v ch hs hf=>by
  simp only [PO.fn] at hf;split at hf
  ·rename_i va vb ha hb;simp only [Option.map_eq_some_iff,Prod.mk.injEq] at hf;obtain ⟨r,hr,rfl,rfl⟩:=hf;obtain ⟨ea,_⟩:=jD hs hx ha;obtain ⟨eb,_⟩:=jD hs hy hb
   have hg:(eqGuard op t xo yo va vb).run P w=.ok () w:=by
    refine qH (fun arr he=>?_) (fun he=>?_) w
    ·subst he;cases vb <;> simp [fT] at hr
    ·subst he;cases vb <;> simp [fT] at hr
   have hone:r.oneCell'=true∧(binOp op t va vb).run P w=.ok r w:=by
    unfold fT at hr;split at hr
    ·rename_i k i k' j;cases op <;> simp only at hr <;> (try (cases hr;done)) <;> (try split at hr) <;> (try (cases hr;done))
     all_goals first
      | (rename_i h;cases hr;first | subst h | (have h0:=h.2;have h1:=h.1;subst h1) | skip)
      | skip
     all_goals refine ⟨rfl,?_⟩
     all_goals first
      | (simp only [binOp,Op.shift,if_neg h];rfl)
      | simp_all [binOp,Op.intArith,Op.intDiv,Op.intBits,Op.intCmp]
    ·rename_i p q;cases op <;> simp only at hr <;> (try (cases hr;done)) <;> (try split at hr) <;> (try (cases hr;done))
     all_goals cases hr
     all_goals refine ⟨rfl,?_⟩
     all_goals simp_all [binOp,Op.stringOp,IntKind.max,IntKind.signed,IntKind.bits]
     all_goals (try omega)
    ·cases hr
   refine ⟨rfl,r,?_,RD.sc _ hone.1⟩;simp [execOp,hop,ea,eb,hg,hone.2]
  ·cases hf
theorem Af {t:TypeId} (hu:P.underlying t=some .bool) (va vb:Bool) (w:World):(Op.equal t (.bool va) (.bool vb)).run P w=.ok (va == vb) w:=by
 show (Op.equalIn (9999+1) t (.bool va) (.bool vb)).run P w=_
 rw [Op.equalIn.eq_2];simp [run_underlying hu]
theorem AR [Bor] (hd:∀ d,o.dst=some d→d < n) {neg:Bool} {t u:TypeId} {xo yo:Operand} {x y:PX} (hop:o.op=.binOp (if neg then .neq else .eql) t xo yo u) (hu:P.underlying t=some .bool) (hx:cX xo=some x) (hy:cX yo=some y):Good P n o (.eqb neg x y) :=
 .bJ hd fun w0 S0 W s a w v ch hs hf=>by
  simp only [PO.fn] at hf;split at hf
  ·rename_i va vb ha hb;cases hf;have ea:=sN hs hx ha;have eb:=sN hs hy hb;have hg:∀ op,(eqGuard op t xo yo (.bool va) (.bool vb)).run P w=.ok () w:=fun op=>qH (fun _ h=>by cases h) (by simp) w
   refine ⟨rfl,.bool (if neg then !(va == vb) else va == vb),?_,RD.sc _ rfl⟩;have he:(Op.equal t (.bool va) (.bool vb)).run P w=.ok (va == vb) w:=Af hu va vb w;cases neg <;> simp [execOp,hop,ea,eb,hg,binOp,he]
  ·cases hf
def EqT (P:Program) (t:Nat) (ks:List Bool):Prop:=t < 1048576→P.eqGuardType P.depth t=false ∧
 ∀ (xs ys:Array Value) (cs ds:List Cl) (r:Bool) (W:Wit) (G:Nat→Nat) (O:Nat→Ob) (w:World),RCs W G O w cs xs.toList→RCs W G O w ds ys.toList→je ks cs ds=some r →
   (Op.equal t (.agg xs) (.agg ys)).run P w=.ok r w
theorem qF [Bor] (hd:∀ d,o.dst=some d→d < n) {neg:Bool} {t u:Nat} {ks:List Bool} {xo yo:Operand} {x y:PX} (hop:o.op=.binOp (if neg then .neq else .eql) t xo yo u) (hlt:t < 1048576) (ht0:EqT P t ks) (hx:cX xo=some x) (hy:cX yo=some y):Good P n o (.eqs neg ks x y) :=
 .bJ hd fun w0 S0 W s a w v ch hs hf=>by
  simp only [PO.fn] at hf;split at hf
  ·rename_i ca cb ha hb;simp only [Option.map_eq_some_iff,Prod.mk.injEq] at hf;obtain ⟨r,hr,rfl,rfl⟩:=hf;have e1:=evX hs hx;have e2:=evX hs hy;rw [ha] at e1;rw [hb] at e2;obtain ⟨xs,h1,h2⟩:=e1;obtain ⟨ys,h3,h4⟩:=e2;have ht:=ht0 hlt;have he:=ht.2 xs ys _ _ r W _ _ w h2 h4 hr
   have hg:∀ op,(eqGuard op t xo yo (.agg xs) (.agg ys)).run P w=.ok () w:=fun op=>by
    unfold eqGuard;cases op <;> (try rfl) <;> simp [ht.1]
   refine ⟨rfl,.bool (if neg then !r else r),?_,RD.sc _ rfl⟩;cases neg <;> simp [execOp,hop,h1,h3,hg,binOp,he]
  ·cases hf
theorem NU [Bor] (hd:∀ d,o.dst=some d→d < n) {op:UnOp} {t:TypeId} {xo:Operand} {x:PX} (hop:o.op=.unOp op t xo) (hx:cX xo=some x):Good P n o (.un op x) :=
 .bJ hd fun w0 S0 W s a w v ch hs hf=>by
  simp only [PO.fn] at hf;split at hf
  ·rename_i b hv;cases hf;obtain ⟨e,_⟩:=jD hs hx hv;exact ⟨rfl,.bool !b,by simp [execOp,hop,e,Op.unary],RD.sc _ rfl⟩
  ·rename_i k m hv;cases hf;obtain ⟨e,_⟩:=jD hs hx hv;exact ⟨rfl,.int k (k.wrap (0 - m)),by simp [execOp,hop,e,Op.unary,Op.intArith],RD.sc _ rfl⟩
  ·rename_i k m hv;cases hf;obtain ⟨e,_⟩:=jD hs hx hv;exact ⟨rfl,_,by simp [execOp,hop,e,Op.unary,Op.intBits],RD.sc _ rfl⟩
  ·cases hf
theorem GH [Bor] (hd:∀ d,o.dst=some d→d < n) {t u:TypeId} {k:IntKind} {ds:TypeDesc} {xo:Operand} {x:PX} (hop:o.op=.convert t u xo) (ht:P.underlying t=some ds) (hu:P.underlying u=some (.int k)) (hx:cX xo=some x):Good P n o (.conv k x) :=
 .bJ hd fun w0 S0 W s a w v ch hs hf=>by
  simp only [PO.fn,Option.map_eq_some_iff,Prod.mk.injEq] at hf;obtain ⟨m,hm,rfl,rfl⟩:=hf;obtain ⟨kk,e⟩:=dN hs hx hm;refine ⟨rfl,.int k (k.wrap m),?_,RD.sc _ rfl⟩;simp [execOp,hop,e,convert,run_underlying ht,run_underlying hu,Conv.intToInt]
theorem bL {o:Oper} {b:Builtin} {c:Call} {a:Act} {w:World} (hop:o.op=.call c) (hc:c.callee=.builtin b) (f:Array TypeId→TypeId→Array Value→Sem Value)
 (hb:∀ at_ ty cs args,builtin b at_ ty cs args=(do pure (.value (←f at_ ty args)))) {v:Value} {w':World} (h:(f c.argTypes o.type (c.args.map a.eval)).run P w=.ok v w'):(execOp a.eval o).run P w=.ok (.value v) w':=by
 simp only [execOp,hop,resolve,hc,Sem.run_bind,Sem.run_pure,Result.andThen_ok,invoke,hb,h]
theorem JQ [Bor] (hd:∀ d,o.dst=some d→d < n) {t e:TypeId} {xo:Operand} {x:PX} {c:Call} (hop:o.op=.call c) (hc:c.callee=.builtin .len) (ha:c.args=#[xo]) (hat:c.argTypes=#[t]) (ht:P.underlying t=some (.slice e)) (hx:cX xo=some x):Good P n o (.len x) :=
 .bJ hd fun w0 S0 W s a w v ch hs hf=>by
  simp only [PO.fn] at hf;split at hf
  ·rename_i o' g off ln cap sz2 heq;cases hf;obtain ⟨b,h1,_⟩:=dJ hs hx heq (by simp);refine ⟨rfl,.int .i64 ln,bL hop hc Builtin.len_ (fun _ _ _ _=>rfl) ?_,RD.sc _ rfl⟩;rw [ha,hat];simp [Builtin.len_,run_underlying ht,goInt,h1]
  ·rename_i b off ln cap heq;cases hf;obtain ⟨h1,_⟩:=dJ hs hx heq (by simp);have h1':a.eval xo=.slice (some ⟨W.nm b,off,none⟩) ln cap:=h1;refine ⟨rfl,.int .i64 ln,bL hop hc Builtin.len_ (fun _ _ _ _=>rfl) ?_,RD.sc _ rfl⟩;rw [ha,hat];simp [Builtin.len_,run_underlying ht,goInt,h1']
  ·rename_i b heq;split at hf
   ·rename_i E' sz' rows hvec;cases hf;obtain ⟨h1,_⟩:=dJ hs hx heq (by simp);have h1':a.eval xo=W.nv b:=h1;obtain ⟨⟨xs,g1,_⟩,_⟩:=qm hs hvec
    obtain ⟨A,cap,e⟩:∃ A cap,W.nv b=.slice A rows.length cap:=by
     rcases g1.2 with ⟨h2,h3⟩ | ⟨g,cap,cur,fz,e,_⟩
     ·exact ⟨none,0,by rw [h2,h3]⟩
     ·exact ⟨_,cap,e⟩
    refine ⟨rfl,.int .i64 rows.length,bL hop hc Builtin.len_ (fun _ _ _ _=>rfl) ?_,RD.sc _ rfl⟩;rw [ha,hat];simp [Builtin.len_,run_underlying ht,goInt,h1',e]
   ·cases hf
  ·simp only [Option.map_eq_some_iff,Prod.mk.injEq] at hf;obtain ⟨rows,hr,rfl,rfl⟩:=hf;obtain ⟨A,cap,e,_⟩:=(jI hs hx hr).len;refine ⟨rfl,.int .i64 rows.length,bL hop hc Builtin.len_ (fun _ _ _ _=>rfl) ?_,RD.sc _ rfl⟩;rw [ha,hat];simp [Builtin.len_,run_underlying ht,goInt,e]
theorem Aa [Bor] (hd:∀ d,o.dst=some d→d < n) {t:TypeId} {xo:Operand} {x:PX} {c:Call} (hop:o.op=.call c) (hc:c.callee=.builtin .len) (ha:c.args=#[xo]) (hat:c.argTypes=#[t]) (ht:P.underlying t=some .string) (hx:cX xo=some x):Good P n o (.strlen x) :=
 .bJ hd fun w0 S0 W s a w v ch hs hf=>by
  simp only [PO.fn] at hf;split at hf
  ·rename_i b hb;cases hf;obtain ⟨e,_⟩:=jD hs hx hb;refine ⟨rfl,.int .i64 b.size,bL hop hc Builtin.len_ (fun _ _ _ _=>rfl) ?_,RD.sc _ rfl⟩;rw [ha,hat];simp [Builtin.len_,run_underlying ht,goInt,e]
  ·cases hf
theorem GA [Bor] (hd:∀ d,o.dst=some d→d < n) {t e m:TypeId} {xo:Operand} {c:Call} (hop:o.op=.call c) (hc:c.callee=.builtin .len) (ha:c.args=#[xo]) (hat:c.argTypes=#[t]) (ht:P.underlying t=some (.array m e)):Good P n o (.alen m) :=
 .bJ hd fun w0 S0 W s a w v ch hs hf=>by
  simp only [PO.fn,Option.some.injEq,Prod.mk.injEq] at hf;obtain ⟨rfl,rfl⟩:=hf;refine ⟨rfl,.int .i64 m,bL hop hc Builtin.len_ (fun _ _ _ _=>rfl) ?_,RD.sc _ rfl⟩;rw [ha,hat];simp [Builtin.len_,run_underlying ht,goInt]
def mmF (big:Bool) (acc y:Option Value):Option Value:=match acc,y with
 | some a,some b=>D6 big a b
 | _,_=>none
theorem Kt (big:Bool) (z:Option Value):mmF big z none=none:=by cases z <;> rfl
theorem Fa [Bor] (hd:∀ d,o.dst=some d→d < n) {big:Bool} {xo:List Operand} {xs:List PX} {c:Call} (hop:o.op=.call c) (hc:c.callee=.builtin (if big then .max else .min)) (ha:c.args.toList=xo) (hx:aC (xo.map cX)=some xs):Good P n o (.mm big xs) :=
 .bJ hd fun w0 S0 W s a w v ch hs hf=>by
  -- the arguments,one by one
  have args:∀ (xo:List Operand) (xs:List PX) (vs:List (Option Value)),aC (xo.map cX)=some xs→xs.map s.val=vs→(∀ y ∈ vs,y≠none)→(xo.map a.eval).map some=vs:=by
   intro xo
   induction xo with
   | nil=>intro xs vs h1 h2 _;simp [aC] at h1;subst h1;simpa using h2
   | cons y ys ih =>
     intro xs vs h1 h2 h3;simp only [List.map_cons] at h1
     cases hy:cX y with
     | none=>rw [hy] at h1;simp [aC] at h1
     | some y' =>
       rw [hy] at h1;simp only [aC,Option.map_eq_some_iff] at h1;obtain ⟨zs,hz,rfl⟩:=h1;simp only [List.map_cons] at h2;subst h2
       cases hv:s.val y' with
       | none=>exact absurd (by simp [hv]) (h3 none (by simp [hv]))
       | some u =>
         obtain ⟨e,_⟩:=jD hs hy hv;have:=ih zs _ hz rfl (fun y hy=>h3 y (by simp only [List.mem_cons];exact .inr hy))
         simp only [List.map_cons,e,this]
  have none_fold:∀ l:List (Option Value),l.foldl (mmF big) none=none:=by
   intro l
   induction l with
   | nil=>rfl
   | cons y l ih=>simp only [List.foldl_cons];exact ih
  have fold:∀ (l:List Value) (u r:Value),(l.map some).foldl (mmF big) (some u)=some r →
   (l.foldlM (if big then Builtin.max2 else Builtin.min2) u).run P w=.ok r w∧(l=[]→r=u)∧(l≠[]→r.oneCell'=true):=by
   intro l
   induction l with
   | nil=>intro u r h;simp at h;subst h;exact ⟨by simp,fun _=>rfl,fun h=>absurd rfl h⟩
   | cons y l ih =>
     intro u r h;simp only [List.map_cons,List.foldl_cons] at h
     replace h:(l.map some).foldl (mmF big) (D6 big u y)=some r:=h
     cases hm:D6 big u y with
     | none=>rw [hm,none_fold] at h;cases h
     | some z =>
       rw [hm] at h;obtain ⟨h1,h2,h3⟩:=ih z r h
       have hz:z.oneCell'=true∧((if big then Builtin.max2 else Builtin.min2) u y).run P w=.ok z w:=by
        unfold D6 at hm;split at hm
        ·split at hm
         ·cases hm;refine ⟨rfl,?_⟩;cases big <;> simp [Builtin.max2,Builtin.min2]
         ·cases hm
        ·cases hm
       refine ⟨by simp only [List.foldlM_cons,Sem.run_bind,hz.2,Result.andThen_ok];exact h1,(fun h=>by cases h),fun _=>?_⟩
       cases l with
       | nil=>rw [h2 rfl];exact hz.1
       | cons _ _=>exact h3 (by simp)
  simp only [PO.fn] at hf;split at hf
  ·rename_i u rest heq;simp only [Option.map_eq_some_iff,Prod.mk.injEq] at hf;obtain ⟨r,hr,rfl,rfl⟩:=hf
   replace hr:rest.foldl (mmF big) u=some r:=hr
   have hnone:∀ y ∈ rest,y≠none:=by
    intro y hy hn;subst hn
    have:∀ (l:List (Option Value)) (z:Option Value),none ∈ l→l.foldl (mmF big) z=none:=by
     intro l
     induction l with
     | nil=>intro z h;cases h
     | cons q l ih =>
       intro z h
       rcases List.mem_cons.1 h with h | h
       ·subst h;simp only [List.foldl_cons];rw [Kt];exact none_fold l
       ·exact ih _ h
    rw [this rest _ hy] at hr;cases hr
   have hal:=args xo xs _ hx heq (by
    intro y hy
    rcases List.mem_cons.1 hy with h | h
    ·rw [h];simp
    ·exact hnone y h)
   cases hxo:xo.map a.eval with
   | nil=>rw [hxo] at hal;simp at hal
   | cons u' l =>
     rw [hxo] at hal;simp only [List.map_cons,List.cons.injEq,Option.some.injEq] at hal;obtain ⟨rfl,rfl⟩:=hal;obtain ⟨h1,h2,h3⟩:=fold l u' r hr
     have hone:r.oneCell'=true:=by
      cases l with
      | nil =>
        rw [h2 rfl]
        cases xs with
        | nil=>simp at heq
        | cons x0 xr =>
          simp only [List.map_cons,List.cons.injEq] at heq
          cases xo with
          | nil=>simp at hxo
          | cons y0 yr =>
            simp only [List.map_cons] at hx
            cases hy:cX y0 with
            | none=>rw [hy] at hx;simp [aC] at hx
            | some y' =>
              rw [hy] at hx;simp only [aC,Option.map_eq_some_iff] at hx;obtain ⟨zs,hz,he⟩:=hx;cases he;exact (jD hs hy heq.1).2
      | cons _ _=>exact h3 (by simp)
     refine ⟨rfl,r,?_,RD.sc _ hone⟩;have hargs:(c.args.map a.eval).toList=u' :: l:=by rw [Array.toList_map,ha,hxo]
     cases big with
     | false =>
       refine bL hop hc Builtin.min_ (fun _ _ _ _=>rfl) ?_;simp only [Builtin.min_,hargs]
       simpa using h1
     | true =>
       refine bL hop hc Builtin.max_ (fun _ _ _ _=>rfl) ?_;simp only [Builtin.max_,hargs]
       simpa using h1
  ·cases hf
theorem JJ [Bor] (hd:∀ d,o.dst=some d→d < n) {xo:Operand} {x:PX} {i:Nat} (hop:o.op=.extract xo i) (hx:cX xo=some x):Good P n o (.ext x i) :=
 .bJ hd fun w0 S0 W s a w v ch hs hf=>by
  simp only [PO.fn] at hf;split at hf
  ·rename_i xs heq;simp only [Option.map_eq_some_iff,Prod.mk.injEq] at hf;obtain ⟨b,hb,rfl,rfl⟩:=hf;have:=evX hs hx;rw [heq] at this;obtain ⟨vs,h1,h2,h3⟩:=this;have hlt:i < vs.size:=by have:=(List.getElem?_eq_some_iff.1 hb).1;omega
   refine ⟨rfl,vs[i],?_,h3 i b _ hb (by simp [hlt])⟩;simp [execOp,hop,h1,Instr.extract,hlt]
  ·cases hf
theorem DF [Bor] (hd:∀ d,o.dst=some d→d < n) {xo:Operand} {x:PX} (hop:o.op=.nilCheck xo) (hx:cX xo=some x):Good P n o (.nilck x) :=
 .bJ hd fun w0 S0 W s a w v ch hs hf=>by
  simp only [PO.fn] at hf;split at hf
  ·rename_i o' g off heq;split at hf
   ·rename_i hg;cases hf;obtain ⟨h1,h2,h3⟩:=dJ hs hx heq (by simp);have:=h3 hg.symm;refine ⟨rfl,a.eval xo,?_,h1,h2,h3⟩;simp [execOp,hop,this]
   ·cases hf
  ·rename_i b off heq;cases hf;have h0:=dJ hs hx heq (by simp);have h1':a.eval xo=.pointer (some ⟨W.nm b,off,none⟩):=h0.1;exact ⟨rfl,a.eval xo,by simp [execOp,hop,h1'],h0⟩
  ·cases hf
theorem Ac [Bor] (hd:∀ d,o.dst=some d→d < n) {t:TypeId} {xo:Operand} {x:PX} {lo hi:Option Operand} {l h:Option PX} (hop:o.op=.slice t xo lo hi none) (ht:P.underlying t=some .string) (hx:cX xo=some x)
 (hl:lo.map cX=l.map some) (hh:hi.map cX=h.map some):Good P n o (.substr x l h) :=
 .bJ hd fun w0 S0 W s a w v ch hs hf=>by
  simp only [PO.fn] at hf;split at hf
  ·rename_i b hb;obtain ⟨e,_⟩:=jD hs hx hb;split at hf
   ·rename_i lv hv h1 h2;split at hf
    ·rename_i hc;cases hf;refine ⟨rfl,_,?_,RD.sc _ rfl⟩;have hlo:∀ y,(lo.map a.eval).elim (pure 0) (fun v=>Instr.sliceBound v y (if (none:Option Value).isSome then .slice3C else .sliceB))=(lo.map a.eval).elim (pure 0) (fun v=>Instr.sliceBound v y .sliceB):=fun y=>rfl
     cases lo with
     | none =>
       cases l with
       | some _=>simp at hl
       | none =>
         simp at h1;subst h1
         cases hi with
         | none =>
           cases h with
           | some _=>simp at hh
           | none =>
             simp at h2;subst h2;simp [execOp,hop,Instr.sliceAt,Instr.slice,run_underlying ht,e,Instr.sliceBounds]
         | some ho =>
           cases h with
           | none=>simp at hh
           | some hx' =>
             simp at hh h2;obtain ⟨kk,e2⟩:=dN hs hh h2;have hc1:0≤hv:=by omega
             have hc2:hv≤(b.size:Int):=by omega
             simp [execOp,hop,Instr.sliceAt,Instr.slice,run_underlying ht,e,Instr.sliceBounds,e2,Instr.sliceBound,asIntOf,hc1,hc2]
     | some lo' =>
       cases l with
       | none=>simp at hl
       | some lx =>
         simp at hl h1;obtain ⟨k1,e1⟩:=dN hs hl h1
         cases hi with
         | none =>
           cases h with
           | some _=>simp at hh
           | none =>
             simp at h2;subst h2;have hc1:0≤lv:=by omega
             have hc2:lv≤(b.size:Int):=by omega
             simp [execOp,hop,Instr.sliceAt,Instr.slice,run_underlying ht,e,e1,Instr.sliceBounds,Instr.sliceBound,asIntOf,hc1,hc2]
         | some ho =>
           cases h with
           | none=>simp at hh
           | some hx' =>
             simp at hh h2;obtain ⟨kk,e2⟩:=dN hs hh h2;have hc0:0≤hv:=by omega
             have hc1:0≤lv:=by omega
             have hc2:hv≤(b.size:Int):=by omega
             have hc3:lv≤(hv.toNat:Int):=by omega
             simp [execOp,hop,Instr.sliceAt,Instr.slice,run_underlying ht,e,e1,Instr.sliceBounds,e2,Instr.sliceBound,asIntOf,hc0,hc1,hc2];omega
    ·cases hf
   ·cases hf
  ·cases hf
end
section
variable {n:Nat} {P:Program} {o:Oper}
theorem wW {W:Wit} {G:Nat→Nat} {O:Nat→Ob} {w:World} {sz:Nat}:∀ {rows:List (List Dt)} {xs:List Value},(∀ r ∈ rows,r.length=sz)→xs.length=rows.length * sz→(∀ i r j x,rows[i]? = some r→r[j]? = some x→∃ u,xs[i * sz+j]? = some u∧RD W.S w x u)→RCs W G O w (rows.flatten.map .d) xs
 | [],xs,_,hl,_=>⟨by simpa using hl.symm,fun i c u h=>by simp at h⟩
 | r :: rs,xs,hs,hl,hr=>by
   have hr0:r.length=sz:=hs r (by simp)
   have ih:=wW (W:=W) (G:=G) (O:=O) (rows:=rs) (xs:=xs.drop sz) (fun r' h=>hs r' (by simp [h])) (by rw [List.length_drop,hl,List.length_cons,Nat.add_mul,Nat.one_mul];omega) (fun i r' j x h1 h2=>by
    obtain ⟨u,h3,h4⟩:=hr (i+1) r' j x (by simpa using h1) h2;refine ⟨u,?_,h4⟩;rw [List.getElem?_drop,←h3,Nat.add_mul,Nat.one_mul]
    congr 1;omega)
   have hxl:sz≤xs.length:=by rw [hl,List.length_cons,Nat.add_mul,Nat.one_mul];omega
   refine ⟨?_,fun i c u h1 h2=>?_⟩
   ·have h1:=ih.1;rw [List.length_drop] at h1;simp only [List.flatten_cons,List.map_append,List.length_append,List.length_map] at h1 ⊢;omega
   ·simp only [List.flatten_cons,List.map_append] at h1
    rcases Nat.lt_or_ge i sz with h | h
    ·rw [List.getElem?_append_left (by rw [List.length_map,hr0];exact h),List.getElem?_map,Option.map_eq_some_iff] at h1
     obtain ⟨x,hx,rfl⟩:=h1;obtain ⟨u',h3,h4⟩:=hr 0 r i x rfl hx;rw [Nat.zero_mul,Nat.zero_add,h2] at h3;cases h3;exact h4
    ·rw [List.getElem?_append_right (by rw [List.length_map,hr0];exact h),List.length_map,hr0] at h1
     refine ih.2 (i - sz) c u h1 ?_;rw [List.getElem?_drop,←h2]
     congr 1;omega
theorem GJ [Bor] (hd:∀ d,o.dst=some d→d < n) {t:TypeId} {d:TypeDesc} {i:TypeInfo} {xo:Operand} {x:PX} {k:Option Nat} (hop:o.op=.load t xo) (hu:P.underlying t=some d) (hi:P.info? t=some i)
 (hk:k=if kF d=true then some i.size else none) (hx:cX xo=some x):Good P n o (.load k x) :=
 .bJ hd fun w0 S0 W s a w v ch hs hf=>by
  -- what a load of the cells vs at ⟨b,base⟩ brings
  have key:∀ (cs:List Cl) (vs:List Value) (b base off:Nat) (v:Av),a.eval xo=.pointer (some ⟨b,base+off,none⟩)→RCs W s.gen s.ob w cs vs→(∀ j u,vs[j]? = some u→w.cell? ⟨b,base+j,none⟩=some u)→ni k cs off=some v →
   ∃ rv,(execOp a.eval o).run P w=.ok (.value rv) w∧RA W s.gen s.ob w v rv:=fun cs vs b base off v he hr hc hv=>by
   have hag:=jB (P:=P) hu w
   rcases lW hr hv with ⟨rfl,c,u,h1,h2,rfl,h3⟩ | ⟨m,rfl,h1,rfl,h2⟩
   ·have hf:kF d=false:=by cases h:kF d <;> simp [h] at hk ⊢
    rw [hf] at hag;refine ⟨u,?_,h3⟩;simp [execOp,hop,Instr.loadAt,he,Instr.sureAddr,loadVar,hag,hc off u h2]
   ·have ht:kF d=true:=by cases h:kF d <;> simp [h] at hk ⊢
    rw [ht] at hag hk;simp at hk;subst hk;have hlen:((vs.drop off).take i.size).length=i.size:=by simp;omega
    have hl:=run_loadCells_list (P:=P) w ⟨b,base+off,none⟩ ((vs.drop off).take i.size) (fun j u hj=>by
     rw [addr_add];rw [List.getElem?_take] at hj;split at hj
     ·rw [List.getElem?_drop] at hj;have:=hc _ _ hj;rw [←Nat.add_assoc] at this;exact this
     ·cases hj)
    rw [hlen] at hl;refine ⟨.agg ((vs.drop off).take i.size).toArray,?_,_,rfl,by simpa using h2⟩;simp [execOp,hop,Instr.loadAt,he,Instr.sureAddr,loadVar,hag,sizeOf,typeInfo,hi,hl]
  simp only [PO.fn] at hf;split at hf
  ·rename_i o' g off heq;split at hf
   ·rename_i hg;split at hf
    ·rename_i cs hob;simp only [Option.map_eq_some_iff,Prod.mk.injEq] at hf;obtain ⟨v',hv,rfl,rfl⟩:=hf;obtain ⟨h1,h2,h3⟩:=dJ hs hx heq (by simp);have hro:=hs.ob o';rw [hob] at hro;obtain ⟨arr,T,h4,h5,h6,h7⟩:=hro;refine ⟨rfl,key cs arr.toList (W.blk o') 0 off v' (by rw [Nat.zero_add];exact h3 hg.symm) h7 (fun j u hj=>?_) hv⟩
     rw [Nat.zero_add];simp only [World.cell?,h4]
     simpa using hj
    ·cases hf
   ·cases hf
  ·rename_i row off heq;simp only [Option.map_eq_some_iff,Prod.mk.injEq] at hf;obtain ⟨v',hv,rfl,rfl⟩:=hf;obtain ⟨b,o',h1,h2⟩:=dJ hs hx heq (by simp)
   have hex:∀ j:Nat,∃ u,∀ x,row[j]? = some x→w.cell? ⟨b,o'+j,none⟩=some u∧RD W.S w x u:=fun j=>by
    cases hj:row[j]? with
    | none=>exact ⟨undef,fun x h=>by cases h⟩
    | some y =>
      obtain ⟨u,h3,_,h5⟩:=h2 j y hj;exact ⟨u,fun x h=>by cases h;exact ⟨h3,h5⟩⟩
   obtain ⟨f,hf⟩:=Classical.skolem.1 hex;refine ⟨rfl,key (row.map .d) ((List.range row.length).map f) b o' off v' h1 ⟨by simp,fun j c u h3 h4=>?_⟩ (fun j u hj=>?_) hv⟩
   ·simp only [List.getElem?_map,Option.map_eq_some_iff] at h3 h4;obtain ⟨y,hy,rfl⟩:=h3;obtain ⟨k',hk',rfl⟩:=h4;have hlt:=(List.getElem?_eq_some_iff.1 hy).1;rw [List.getElem?_range hlt] at hk';cases hk';exact (hf j y hy).2
   ·simp only [List.getElem?_map,Option.map_eq_some_iff] at hj;obtain ⟨k',hk',rfl⟩:=hj
    have hlt:j < row.length:=by
     rcases Nat.lt_or_ge j row.length with h | h
     ·exact h
     ·rw [List.getElem?_eq_none (by simpa using h)] at hk';cases hk'
    rw [List.getElem?_range hlt] at hk';cases hk';exact (hf j _ (List.getElem?_eq_getElem hlt)).1
  ·rename_i b off heq;obtain ⟨h1,_,_⟩:=dJ hs hx heq (by simp);split at hf
   ·rename_i cs hcs;simp only [Option.map_eq_some_iff,Prod.mk.injEq] at hf;obtain ⟨v',hv,rfl,rfl⟩:=hf;obtain ⟨⟨arr,T,h4,h7⟩,_⟩:=pz hs hcs (by simp);refine ⟨rfl,key _ arr.toList (W.nm b) 0 off v' (by rw [Nat.zero_add];exact h1) h7 (fun j u hj=>?_) hv⟩
    rw [Nat.zero_add];simp only [World.cell?,h4]
    simpa using hj
   ·rename_i E sz rows hvec;simp only [Option.map_eq_some_iff,Prod.mk.injEq] at hf;obtain ⟨v',hv,rfl,rfl⟩:=hf;obtain ⟨⟨xs,g1,g2,g3,g4⟩,_⟩:=qm hs hvec;have hfl:=wW (W:=W) (G:=s.gen) (O:=s.ob) g2 (xs:=xs) g1.1 g3;refine ⟨rfl,key _ xs (W.nm b) 0 off v' (by rw [Nat.zero_add];exact h1) hfl (fun j u hj=>?_) hv⟩
    rw [Nat.zero_add]
    have hne:rows≠[]:=by
     rintro rfl;have hx0:xs=[]:=List.eq_nil_of_length_eq_zero (by rw [g1.1];simp)
     rw [hx0] at hj;simp at hj
    obtain ⟨g,cap,cur,fz,e1,e2,e3,e4,e5,e6,e7,_⟩:=oJ g1 (by cases rows with | nil=>exact absurd rfl hne | cons _ _=>simp)
    have e8:g=W.nm b:=by
     have:=g4 hne;rw [e1] at this
     simpa [Value.ownBlock] using this
    subst e8;simp only [World.cell?,e3];rw [←e7,List.getElem?_take] at hj;split at hj
    ·simpa using hj
    ·cases hj
   ·cases hf
  ·cases hf
theorem gX [Bor] {w0:World} {S0:Nat→Nat} {W:Wit} {s:St} {a:Act} {w:World} (hs:Sim w0 S0 n W s a w) {o b:Nat} (h:cl W o (s.ob o) b):Mine w0.heap.size b∧b < w.heap.size:=by
 have hro:=hs.ob o;generalize s.ob o=x at h hro
 cases x with
 | no=>exact h.elim
 | cells cs =>
   obtain ⟨arr,T,h1,h2,_⟩:=hro;have:W.blk o=b:=h;subst this;exact ⟨h2,(Array.getElem?_eq_some_iff.1 h1).1⟩
 | row E sz m =>
   obtain ⟨xs,h1,_⟩:=hro;exact ⟨.inl (h1.lt b h).1,(h1.lt b h).2⟩
 | ab H=>exact ⟨.inl (hro.2 b h).1,H.lt _ _ _ _ hro.1 h⟩
 | hp f =>
   obtain ⟨m,hm⟩:=h;obtain ⟨h1,_,h3⟩:=hro.mine m b hm;exact ⟨h1,h3⟩
theorem Sim.new [Bor] {w0:World} {S0:Nat→Nat} {W:Wit} {s:St} {a:Act} {w:World} (hs:Sim w0 S0 n W s a w) {d:Nat} (hd:d < n) {w':World} {x:Ob} {v:Av} {rv:Value} (u:Value) (σ:Nat)
 (hw:(∀ b,b < w.heap.size→w'.heap[b]? = w.heap[b]?)∧w.heap.size≤w'.heap.size∧w'.os=w.os∧w'.tape=w.tape∧w'.output=w.output)
 (hv:RA { W with blk:=up W.blk d w.heap.size,val:=up W.val d u,S:=up W.S w.heap.size σ } (up s.gen d (s.gen d+1)) (up s.ob d x) w' v rv)
 (ho:RO w0.heap.size { W with blk:=up W.blk d w.heap.size,val:=up W.val d u,S:=up W.S w.heap.size σ } (up s.gen d (s.gen d+1)) (up s.ob d x) w' d x)
 (hc:∀ b,cl { W with blk:=up W.blk d w.heap.size,val:=up W.val d u,S:=up W.S w.heap.size σ } d x b→w.heap.size≤b) :
 Sim w0 S0 n { W with blk:=up W.blk d w.heap.size,val:=up W.val d u,S:=up W.S w.heap.size σ } (s.ap (some d) v (.new d x)) (a.put (some d) rv) w':=by
 have hbs:=hs.below.size
 have hfol:Fol W s.gen s.ob w { W with blk:=up W.blk d w.heap.size,val:=up W.val d u,S:=up W.S w.heap.size σ } (up s.gen d (s.gen d+1)) (up s.ob d x) w':=by
  refine ⟨fun b i h1 h2=>?_,fun o'=>?_,fun o' h=>?_,fun o' E sz n' h h2=>?_,fun _ _=>rfl,fun _ h=>⟨h,rfl,rfl⟩,rfl⟩
  ·have hlt:b < w.heap.size:=by
    cases hcell:w.cell? ⟨b,i,none⟩ with
    | none=>rw [hcell] at h2;cases h2
    | some y =>
      rcases Nat.lt_or_ge b w.heap.size with h | h
      ·exact h
      ·simp [World.cell?,Array.getElem?_eq_none h] at hcell
   refine ⟨?_,by simp [World.cell?,hw.1 b hlt]⟩
   show i < up W.S w.heap.size σ b
   rw [ay,if_neg (by omega)];exact h1
  ·rw [ay];split <;> (try omega)
   rename_i h;rw [h];omega
  ·have:o'≠d:=by rintro rfl;rw [ay,if_pos rfl] at h;omega
   show up W.blk d w.heap.size o'=_
   rw [ay,if_neg this]
  ·have:o'≠d:=by rintro rfl;rw [ay,if_pos rfl] at h;omega
   rw [ay,if_neg this] at h2;refine ⟨n',h2,Nat.le_refl _,fun _=>?_⟩
   show up W.val d u o'=_
   rw [ay,if_neg this]
 refine hs.step (fun d' h=>by cases h;exact hd) hfol ⟨hw.2.2.1,hw.2.2.2.1,hw.2.2.2.2,hw.2.1,fun b hb _=>hw.1 b (by omega)⟩ (fun b hb=>?_) hv (fun o'=>?_) (fun o1 o2 b h1 h2=>?_) (fun b=>(hs.lv b).trans (by rw [o8 (o:=d) (fun p hp=>by show up s.ob d x p=_;rw [ay,if_neg hp]) (.inl (by have:=hs.small;unfold gI at this;unfold HBS;omega))]))
 ·show up W.S w.heap.size σ b=_
  rw [ay,if_neg (by omega)]
 ·by_cases h:o'=d
  ·subst h
   show RO _ _ _ _ _ _ (up s.ob o' x o')
   rw [ay,if_pos rfl];exact ho
  ·show RO _ _ _ _ _ _ (up s.ob d x o')
   rw [ay,if_neg h];refine RO.fol hfol (hs.ob o') (by rw [ay,if_neg h]) (by show up W.val d u o'=_;rw [ay,if_neg h]) rfl (fun _ _=>rfl) (fun b hb=>?_)
   obtain ⟨h1,h2⟩:=gX hs hb;exact ⟨hw.1 b h2,by show up W.S w.heap.size σ b=_;rw [ay,if_neg (by omega)]⟩
 ·-- no two objects claim one block
  have claim:∀ o' b,cl { W with blk:=up W.blk d w.heap.size,val:=up W.val d u,S:=up W.S w.heap.size σ } o' ((s.ap (some d) v (.new d x)).ob o') b→(o'=d∧w.heap.size≤b)∨(o'≠d∧cl W o' (s.ob o') b∧b < w.heap.size):=fun o' b h=>by
   have h':cl { W with blk:=up W.blk d w.heap.size,val:=up W.val d u,S:=up W.S w.heap.size σ } o' (up s.ob d x o') b:=h;rw [ay] at h'
   by_cases hod:o'=d
   ·rw [if_pos hod] at h';subst hod;exact .inl ⟨rfl,hc b h'⟩
   ·rw [if_neg hod] at h'
    have:cl W o' (s.ob o') b:=by
     generalize s.ob o'=y at h' ⊢
     cases y with
     | no=>exact h'
     | cells cs=>have h2:up W.blk d w.heap.size o'=b:=h';rw [ay,if_neg hod] at h2;exact h2
     | row E sz m=>have h2:(up W.val d u o').ownBlock=some b:=h';rw [ay,if_neg hod] at h2;exact h2
     | ab H=>exact h'
     | hp f=>exact h'
    exact .inr ⟨hod,this,(gX hs this).2⟩
  rcases claim o1 b h1 with ⟨rfl,hb1⟩ | ⟨hn1,hc1,hb1⟩ <;> rcases claim o2 b h2 with ⟨rfl,hb2⟩ | ⟨hn2,hc2,hb2⟩
  ·rfl
  ·omega
  ·omega
  ·exact hs.ex _ _ _ hc1 hc2
theorem Sim.Bd [Bor] {w0:World} {S0:Nat→Nat} {W:Wit} {s:St} {a:Act} {w:World} (hs:Sim w0 S0 n W s a w) {d:Nat} (hd:d < n) {cs:List Cl} {arr:Array Value} (T:TypeId) (hr:RCs W s.gen s.ob w cs arr.toList) :
 ∃ W',Sim w0 S0 n W' (s.ap (some d) (.b (.one (.ptr d (s.gen d+1) 0))) (.new d (.cells cs))) (a.put (some d) (.pointer (some ⟨w.heap.size,0,none⟩))) (w.alloc (.cells arr T)):=by
 refine ⟨_,hs.new hd (W.val d) 0 ⟨fun b hb=>iK w _ b hb,by simp,rfl,rfl,rfl⟩ ?_ ?_ ?_⟩
 ·refine ⟨rfl,by rw [ay,if_pos rfl];exact Nat.le_refl _,fun _=>?_⟩
  show _=Value.pointer (some ⟨up W.blk d w.heap.size d,0,none⟩)
  rw [ay,if_pos rfl]
 ·refine ⟨arr,T,?_,?_,?_,?_⟩
  ·show (w.alloc _).heap[up W.blk d w.heap.size d]? = _
   rw [ay,if_pos rfl];exact heap_alloc_new w _
  ·show Mine _ (up W.blk d w.heap.size d)
   rw [ay,if_pos rfl];exact .inl hs.below.size
  ·show up W.S w.heap.size 0 (up W.blk d w.heap.size d)=0
   rw [ay,ay,if_pos rfl,if_pos rfl]
  ·refine RCs.fol ?_ hr;refine ⟨fun b i h1 h2=>?_,fun o'=>?_,fun o' h=>?_,fun o' E sz n' h h2=>?_,fun _ _=>rfl,fun _ h=>⟨h,rfl,rfl⟩,rfl⟩
   ·have hlt:b < w.heap.size:=by
     cases hcell:w.cell? ⟨b,i,none⟩ with
     | none=>rw [hcell] at h2;cases h2
     | some y =>
       rcases Nat.lt_or_ge b w.heap.size with h | h
       ·exact h
       ·simp [World.cell?,Array.getElem?_eq_none h] at hcell
    refine ⟨?_,by simp [World.cell?,iK w _ b hlt]⟩
    show i < up W.S w.heap.size 0 b
    rw [ay,if_neg (by omega)];exact h1
   ·rw [ay];split <;> (try omega)
    rename_i h;rw [h];omega
   ·have:o'≠d:=by rintro rfl;rw [ay,if_pos rfl] at h;omega
    show up W.blk d w.heap.size o'=_
    rw [ay,if_neg this]
   ·have:o'≠d:=by rintro rfl;rw [ay,if_pos rfl] at h;omega
    rw [ay,if_neg this] at h2;refine ⟨n',h2,Nat.le_refl _,fun _=>?_⟩
    show up W.val d (W.val d) o'=_
    rw [ay,if_neg this]
 ·intro b hb;have h2:up W.blk d w.heap.size d=b:=hb;rw [ay,if_pos rfl] at h2;omega
theorem Sim.Tc [Bor] {w0:World} {S0:Nat→Nat} {W:Wit} {s:St} {a:Act} {w:World} (hs:Sim w0 S0 n W s a w) {d:Nat} (hd:d < n) {cs:List Cl} {arr:Array Value} (T:TypeId) (hr:RCs W s.gen s.ob w cs arr.toList) {ln szx:Nat} (hln:ln≤maxLen) :
 ∃ W',Sim w0 S0 n W' (s.ap (some d) (.b (.one (.sv d (s.gen d+1) 0 ln ln szx))) (.new d (.cells cs))) (a.put (some d) (.slice (some ⟨w.heap.size,0,none⟩) ln ln)) (w.alloc (.cells arr T)):=by
 refine ⟨_,hs.new hd (W.val d) 0 ⟨fun b hb=>iK w _ b hb,by simp,rfl,rfl,rfl⟩ ?_ ?_ ?_⟩
 ·refine ⟨w.heap.size,rfl,Nat.le_refl _,hln,by rw [ay,if_pos rfl];exact Nat.le_refl _,fun _=>?_⟩
  show _=up W.blk d w.heap.size d
  rw [ay,if_pos rfl]
 ·refine ⟨arr,T,?_,?_,?_,?_⟩
  ·show (w.alloc _).heap[up W.blk d w.heap.size d]? = _
   rw [ay,if_pos rfl];exact heap_alloc_new w _
  ·show Mine _ (up W.blk d w.heap.size d)
   rw [ay,if_pos rfl];exact .inl hs.below.size
  ·show up W.S w.heap.size 0 (up W.blk d w.heap.size d)=0
   rw [ay,ay,if_pos rfl,if_pos rfl]
  ·refine RCs.fol ?_ hr;refine ⟨fun b i h1 h2=>?_,fun o'=>?_,fun o' h=>?_,fun o' E sz n' h h2=>?_,fun _ _=>rfl,fun _ h=>⟨h,rfl,rfl⟩,rfl⟩
   ·have hlt:b < w.heap.size:=by
     cases hcell:w.cell? ⟨b,i,none⟩ with
     | none=>rw [hcell] at h2;cases h2
     | some y =>
       rcases Nat.lt_or_ge b w.heap.size with h | h
       ·exact h
       ·simp [World.cell?,Array.getElem?_eq_none h] at hcell
    refine ⟨?_,by simp [World.cell?,iK w _ b hlt]⟩
    show i < up W.S w.heap.size 0 b
    rw [ay,if_neg (by omega)];exact h1
   ·rw [ay];split <;> (try omega)
    rename_i h;rw [h];omega
   ·have:o'≠d:=by rintro rfl;rw [ay,if_pos rfl] at h;omega
    show up W.blk d w.heap.size o'=_
    rw [ay,if_neg this]
   ·have:o'≠d:=by rintro rfl;rw [ay,if_pos rfl] at h;omega
    rw [ay,if_neg this] at h2;refine ⟨n',h2,Nat.le_refl _,fun _=>?_⟩
    show up W.val d (W.val d) o'=_
    rw [ay,if_neg this]
 ·intro b hb;have h2:up W.blk d w.heap.size d=b:=hb;rw [ay,if_pos rfl] at h2;omega
theorem NS [Bor] {d:Nat} (ho:o.dst=some d) (hd:d < n) {t E:TypeId} {i:TypeInfo} {z:Value} {lo co:Operand} {l c:PX} (hop:o.op=.makeSlice t lo co) (ht:P.underlying t=some (.slice E)) (hi:P.info? E=some i) (hz:i.zero=some z) (hzs:z.cells.size=i.size) (hone:∀ v ∈ z.cells.toList,v.oneCell'=true)
 (hl:cX lo=some l) (hc:cX co=some c):Good P n o (.mk i.size i.bytes z.cells.toList l c):=by
 intro w0 S0 W s a w v ch hs hf;simp only [PO.fn,ho,Option.getD_some] at hf;split at hf
 ·rename_i lv cv h1 h2;split at hf
  ·rename_i hcond;obtain ⟨h0,rfl,hbd,hby⟩:=hcond;cases hf;obtain ⟨kl,e1⟩:=dN hs hl h1;obtain ⟨kc,e2⟩:=dN hs hc h2
   have hbytes:(i.bytes:Int) * lv≤281474976710656:=by
    have h3:i.bytes * lv.toNat≤1000000 * 1000000:=Nat.mul_le_mul hby (by omega);have h4:(i.bytes:Int) * lv=((i.bytes * lv.toNat:Nat):Int):=by rw [Int.natCast_mul,Int.toNat_of_nonneg h0]
    omega
   have hr:=run_make (P:=P) w t E i z ht hi hz kl kc lv lv h0 (Int.le_refl _) hbytes (by omega)
   obtain ⟨W',h⟩:=hs.Tc hd (cs:=(List.range (lv.toNat * i.size)).map fun k=>.d (.sc (z.cells.toList.getD (k % i.size) undef))) (arr:=madeCells z.cells (lv.toNat * i.size)) E ⟨by simp [size_madeCells],fun k c u h3 h4=>by
    have hk:=(List.getElem?_eq_some_iff.1 h3).1;rw [List.length_map,List.length_range] at hk
    have hpos:0 < i.size:=by
     rcases Nat.eq_zero_or_pos i.size with h | h
     ·rw [h,Nat.mul_zero] at hk;omega
     ·exact h
    have hmod:k % i.size < z.cells.size:=by rw [hzs];exact Nat.mod_lt _ hpos
    rw [List.getElem?_map,List.getElem?_range hk] at h3;simp only [Option.map_some,Option.some.injEq] at h3;subst h3;simp only [madeCells,Array.toList_map,List.getElem?_map,Array.toList_range,List.getElem?_range hk,Option.map_some,Option.some.injEq] at h4;subst h4
    have he:z.cells.toList.getD (k % i.size) undef=z.cells[k % z.cells.size]!:=by
     rw [hzs,List.getD_eq_getElem?_getD,Array.getElem?_toList,getElem!_pos z.cells _ (by rw [←hzs] at hmod ⊢;exact hmod),Array.getElem?_eq_getElem hmod];rfl
    rw [he];refine RD.sc _ (hone _ ?_);rw [hzs,getElem!_pos z.cells _ hmod];exact Array.getElem_mem_toList hmod⟩ (ln:=lv.toNat) (szx:=i.size) (by unfold maxLen;omega)
   rw [ho];exact ⟨W',_,_,.inl (by simp only [execOp,hop,e1,e2,Sem.run_bind,hr,Result.andThen_ok,Sem.run_pure]),h⟩
  ·cases hf
 ·cases hf
theorem JH [Bor] {d:Nat} (ho:o.dst=some d) (hd:d < n) {t:TypeId} {xo:Operand} {x:PX} (hop:o.op=.box t xo) (hx:cX xo=some x):Good P n o (.box x):=by
 intro w0 S0 W s a w v ch hs hf;simp only [PO.fn,Option.map_eq_some_iff,Prod.mk.injEq,ho,Option.getD_some] at hf;obtain ⟨cs,hc,rfl,rfl⟩:=hf;have hr:=yX hs hx hc;obtain ⟨W',h⟩:=hs.Bd hd t hr;rw [ho];exact ⟨W',_,_,.inl (by simp [execOp,hop,Instr.box,newVar,newRow]),h⟩
theorem JW [Bor] {d:Nat} (ho:o.dst=some d) (hd:d < n) {t:TypeId} {i:TypeInfo} {z:Value} (hop:o.op=.alloc t) (hi:P.info? t=some i) (hz:i.zero=some z) (hone:∀ v ∈ z.cells.toList,v.oneCell'=true):Good P n o (.new z.cells.toList):=by
 intro w0 S0 W s a w v ch hs hf;simp only [PO.fn,Option.some.injEq,Prod.mk.injEq,ho,Option.getD_some] at hf;obtain ⟨rfl,rfl⟩:=hf
 obtain ⟨W',h⟩:=hs.Bd hd (cs:=z.cells.toList.map fun v=>.d (.sc v)) (arr:=z.cells) t ⟨by simp,fun i c u h1 h2=>by
  simp only [List.getElem?_map,h2,Option.map_some,Option.some.injEq] at h1;subst h1;exact RD.sc _ (hone u (List.mem_of_getElem? h2))⟩
 rw [ho];exact ⟨W',_,_,.inl (by simp [execOp,hop,Instr.alloc,zeroValue,typeInfo,hi,hz,newVar,newRow]),h⟩
theorem Sim.nilRow [Bor] {w0:World} {S0:Nat→Nat} {W:Wit} {s:St} {a:Act} {w:World} (hs:Sim w0 S0 n W s a w) {d:Nat} (hd:d < n) (E sz:Nat) :
 Sim w0 S0 n { W with blk:=up W.blk d w.heap.size,val:=up W.val d (.slice none 0 0),S:=up W.S w.heap.size (W.S w.heap.size) } (s.ap (some d) (.b (.one (.own d (s.gen d+1) []))) (.new d (.row E sz 0))) (a.put (some d) (.slice none 0 0)) w:=by
 refine hs.new hd (.slice none 0 0) (W.S w.heap.size) ⟨fun _ _=>rfl,Nat.le_refl _,rfl,rfl,rfl⟩ ?_ ?_ ?_
 ·refine ⟨.emp none 0 (by unfold maxLen;omega),by rw [ay,if_pos rfl];exact Nat.le_refl _,fun _ E' sz' n' h=>?_⟩
  rw [ay,if_pos rfl] at h;cases h;refine ⟨fun r hr=>(by cases hr),by simp,fun _=>?_⟩
  show _=up W.val d (.slice none 0 0) d
  rw [ay,if_pos rfl]
 ·refine ⟨[],?_,?_⟩
  ·show bI w _ _ _ (up W.val d (.slice none 0 0) d) _ _
   rw [ay,if_pos rfl];exact pW _ _ _ _
  ·intro g hg;have h2:(up W.val d (.slice none 0 0) d).ownBlock=some g:=hg;rw [ay,if_pos rfl] at h2;cases h2
 ·intro b hb;have h2:(up W.val d (.slice none 0 0) d).ownBlock=some b:=hb;rw [ay,if_pos rfl] at h2;cases h2
theorem zZ [Bor] {d:Nat} (ho:o.dst=some d) (hd:d < n) {E sz:Nat} (hop:o.op=.assign (.const (.slice none 0 0))):Good P n o (.nilRow E sz):=by
 intro w0 S0 W s a w v ch hs hf;simp only [PO.fn,Option.some.injEq,Prod.mk.injEq,ho,Option.getD_some] at hf;obtain ⟨rfl,rfl⟩:=hf;rw [ho];exact ⟨_,.slice none 0 0,w,.inl (by simp [execOp,hop,Act.eval]),hs.nilRow hd E sz⟩
end
section
variable {n:Nat} {P:Program} {o:Oper}
theorem lX {α:Type} (l:List α) (off:Nat) (m:List α) (h:off+m.length≤l.length) (j:Nat) :
 (l.take off ++ m ++ l.drop (off+m.length))[j]? = if off≤j∧j < off+m.length then m[j - off]? else l[j]?:=by
 have h1:(l.take off).length=off:=by simp;omega
 by_cases c1:j < off
 ·rw [if_neg (by omega),List.append_assoc,List.getElem?_append_left (by omega),List.getElem?_take,if_pos c1]
 ·by_cases c2:j < off+m.length
  ·rw [if_pos (by omega),List.append_assoc,List.getElem?_append_right (by omega),h1,List.getElem?_append_left (by omega)]
  ·rw [if_neg (by omega),List.getElem?_append_right (by simp;omega),List.getElem?_drop]
   simp only [List.length_append,h1]
   congr 1
   omega
theorem kK {α:Type} (l:List α) (off:Nat) (m:List α) (h:off+m.length≤l.length):(l.take off ++ m ++ l.drop (off+m.length)).length=l.length:=by
 simp;omega
theorem RCs.splice {W:Wit} {G:Nat→Nat} {O:Nat→Ob} {w:World} {cs ds:List Cl} {vs us:List Value} {off:Nat} (h1:RCs W G O w cs vs) (h2:RCs W G O w ds us) (hl:off+us.length≤vs.length) :
 RCs W G O w (splice cs off ds) (vs.take off ++ us ++ vs.drop (off+us.length)):=by
 have hl2:off+ds.length≤cs.length:=by rw [h1.1,h2.1];exact hl
 refine ⟨?_,fun i c u e1 e2=>?_⟩
 ·show (cs.take off ++ ds ++ cs.drop (off+ds.length)).length=_
  rw [kK _ _ _ hl2,kK _ _ _ hl,h1.1]
 ·have e1':(cs.take off ++ ds ++ cs.drop (off+ds.length))[i]? = some c:=e1;rw [lX _ _ _ hl2] at e1';rw [lX _ _ _ hl] at e2;rw [h2.1] at e1';split at e1'
  ·rename_i hc;rw [if_pos hc] at e2;exact h2.2 _ _ _ e1' e2
  ·rename_i hc;rw [if_neg hc] at e2;exact h1.2 _ _ _ e1' e2
theorem iZ:∀ (cs:List Cl) (off:Nat) (ds:List Cl),off+ds.length≤cs.length→iC cs off ds=splice cs off ds
 | [],off,ds,h=>by
   have h1:ds=[]:=by simp at h;exact h.2
   subst h1;simp [iC,Go.Proofs.Ytkafcpnahpfbfaa.splice]
 | c :: cs,0,[],_=>by simp [iC,Go.Proofs.Ytkafcpnahpfbfaa.splice]
 | c :: cs,0,d :: ds,h=>by
   have:=iZ cs 0 ds (by simp at h ⊢;omega)
   simp only [iC,this];simp [Go.Proofs.Ytkafcpnahpfbfaa.splice]
 | c :: cs,k+1,ds,h=>by
   have:=iZ cs k ds (by simp at h ⊢;omega)
   simp only [iC,this];simp [Go.Proofs.Ytkafcpnahpfbfaa.splice,Nat.succ_add]
theorem Sim.part [Bor] {w0:World} {S0:Nat→Nat} {W:Wit} {s:St} {a:Act} {w:World} (hs:Sim w0 S0 n W s a w) {c:Nat} {f:Nat→Hb} (hob:s.ob (HBS+c)=.hp f) {W':Wit} {w':World} {l:List (Nat×Hb)} {dst:Option Nat} (hd:∀ d,dst=some d→d < n) {v:Av} {rv:Value}
 (hW:W'.blk=W.blk∧W'.val=W.val∧W'.adr=W.adr∧W'.fp=W.fp∧W'.nc=W.nc) (hS:∀ b,b < w.heap.size→W'.S b=W.S b)
 (hnm:∀ b,W.lv b→W'.lv b∧W'.nm b=W.nm b∧W'.nv b=W.nv b) (hhf:∀ b,W.lv b→f b=.no→W'.hf b=W.hf b)
 (hw:(∀ k,k < w.heap.size→¬ cl W (HBS+c) (.hp f) k→w'.heap[k]? = w.heap[k]?)∧w.heap.size≤w'.heap.size∧w'.os=w.os∧w'.tape=w.tape∧w'.output=w.output)
 (hp:Fol W s.gen s.ob w W' s.gen (up s.ob (HBS+c) (.hp (upl f l))) w'→RP' w0.heap.size W' s.gen (up s.ob (HBS+c) (.hp (upl f l))) w' (HBS+c) (upl f l))
 (hcc:∀ k,cl W' (HBS+c) (.hp (upl f l)) k→cl W (HBS+c) (.hp f) k∨w.heap.size≤k)
 (hlv:∀ b,W'.lv b↔(if s.nc b=c then upl f l b else s.hb b)≠.no)
 (hv:Fol W s.gen s.ob w W' s.gen (up s.ob (HBS+c) (.hp (upl f l))) w'→RA W' s.gen (up s.ob (HBS+c) (.hp (upl f l))) w' v rv) :
 Sim w0 S0 n W' (s.ap dst v (.hw (HBS+c) l)) (a.put dst rv) w':=by
 have hro:=hs.ob (HBS+c);rw [hob] at hro;have hro:RP' w0.heap.size W s.gen s.ob w (HBS+c) f:=hro
 have hap:(s.ap dst v (.hw (HBS+c) l)).ob=up s.ob (HBS+c) (.hp (upl f l)):=by
  show up s.ob (HBS+c) _=_
  rw [hob];rfl
 have hsz:∀ b i,(w.cell? ⟨b,i,none⟩).isSome=true→b < w.heap.size:=fun b i h2=>by
  cases hcell:w.cell? ⟨b,i,none⟩ with
  | none=>rw [hcell] at h2;cases h2
  | some y =>
    rcases Nat.lt_or_ge b w.heap.size with h | h
    ·exact h
    ·simp [World.cell?,Array.getElem?_eq_none h] at hcell
 have hcS:∀ k,cl W (HBS+c) (.hp f) k→Mine w0.heap.size k∧W.S k=0:=fun k ⟨m,hm⟩=>⟨(hro.mine m k hm).1,(hro.mine m k hm).2.1⟩
 have hfol:Fol W s.gen s.ob w W' s.gen (up s.ob (HBS+c) (.hp (upl f l))) w':=by
  refine ⟨fun b i h1 h2=>?_,fun _=>Nat.le_refl _,fun _ _=>by rw [hW.1],fun o2 E sz n' _ ho2=>?_,fun _ _=>by rw [hW.2.2.1],hnm,hW.2.2.2.2⟩
  ·have hlt:=hsz b i h2;refine ⟨by rw [hS b hlt];exact h1,?_⟩
   have hnc:¬ cl W (HBS+c) (.hp f) b:=fun h=>by rw [(hcS b h).2] at h1;omega
   simp [World.cell?,hw.1 b hlt hnc]
  ·rw [ay] at ho2;split at ho2
   ·cases ho2
   ·exact ⟨n',ho2,Nat.le_refl _,fun _=>by rw [hW.2.1]⟩
 have hbs:=hs.below.size
 have hcl':∀ o3 k,o3≠HBS+c→cl W' o3 (s.ob o3) k→cl W o3 (s.ob o3) k:=fun o3 k hne h=>by
  have hro3:=hs.ob o3;generalize s.ob o3=x at h hro3 ⊢
  cases x with
  | no=>exact h
  | cells cs=>have h':W'.blk o3=k:=h;rw [hW.1] at h';exact h'
  | row E sz m=>have h':(W'.val o3).ownBlock=some k:=h;rw [hW.2.1] at h';exact h'
  | ab H=>have h':W'.fp o3 k:=h;rw [hW.2.2.2.1] at h';exact h'
  | hp g =>
    obtain ⟨m,hm⟩:=h;have hro3':RP' w0.heap.size W s.gen s.ob w o3 g:=hro3;refine ⟨m,?_⟩
    by_cases hn:g m=.no
    ·rw [hn] at hm;exact hm.elim
    ·have hl:=hro3'.lv m hn
     have hfn:f m=.no:=by
      cases hf2:f m with
      | no=>rfl
      | _ =>
        exfalso
        have e1:=hro.nc m (by rw [hf2];simp)
        have e2:=hro3'.nc m hn;exact hne (e2.symm.trans e1)
     exact (Go.Proofs.Ytkafcpnahpfbfaa.hcl.fol hfol (fun _=>hl) (hhf m hl hfn) k).1 hm
 refine hs.step hd (by rw [hap];exact hfol) ⟨hw.2.2.1,hw.2.2.2.1,hw.2.2.2.2,hw.2.1,fun k hk hnf=>hw.1 k (by omega) (fun h=>(hcS k h).1.elim (fun h=>by omega) hnf)⟩ (fun b hb=>hS b (by omega)) (by rw [hap];exact hv hfol) (fun o2=>?_) (fun o1 o2 k c1 c2=>?_) (fun b=>?_)
 ·rw [hap]
  by_cases h:o2=HBS+c
  ·subst h;rw [ay,if_pos rfl];exact hp hfol
  ·rw [ay,if_neg h];have hro2:=hs.ob o2;generalize hx:s.ob o2=x at hro2 ⊢
   cases x with
   | hp g =>
     have hro2':RP' w0.heap.size W s.gen s.ob w o2 g:=hro2
     have hfn:∀ m,g m≠.no→f m=.no:=fun m hn=>by
      cases hf2:f m with
      | no=>rfl
      | _ =>
        exfalso
        have e1:=hro.nc m (by rw [hf2];simp)
        have e2:=hro2'.nc m hn;exact h (e2.symm.trans e1)
     have hunt:∀ m k,hcl W m (g m) k→w'.heap[k]? = w.heap[k]?∧W'.S k=W.S k∧k < w.heap.size:=fun m k hm=>by
      have hk:=(hro2'.mine m k hm).2.2;refine ⟨hw.1 k hk (fun hc2=>h (hs.ex o2 (HBS+c) k (by rw [hx];exact ⟨m,hm⟩) (by rw [hob];exact hc2))),hS k hk,hk⟩
     have hh2:∀ m k,hcl W' m (g m) k↔hcl W m (g m) k:=fun m k=>by
      by_cases hn:g m=.no
      ·rw [hn];exact Iff.rfl
      ·exact Go.Proofs.Ytkafcpnahpfbfaa.hcl.fol hfol (fun _=>hro2'.lv m hn) (hhf m (hro2'.lv m hn) (hfn m hn)) k
     refine ⟨fun m hn=>by rw [hW.2.2.2.2];exact hro2'.nc m hn,fun m hn=>(hnm m (hro2'.lv m hn)).1,fun m k hk=>?_,fun m=>?_,fun m m' k e1 e2=>hro2'.ex m m' k ((hh2 m k).1 e1) ((hh2 m' k).1 e2)⟩
     ·have hk':=(hh2 m k).1 hk;obtain ⟨q1,q2,q3⟩:=hunt m k hk';obtain ⟨p1,p2,p3⟩:=hro2'.mine m k hk';exact ⟨p1,by rw [q2];exact p2,by omega⟩
     ·by_cases hn:g m=.no
      ·rw [hn];trivial
      ·exact RH.fol hfol (hro2'.at_ m) (fun _=>hro2'.lv m hn) (hhf m (hro2'.lv m hn) (hfn m hn)) (fun k hk=>(hunt m k hk).1)
   | _ =>
     refine RO.Sr hfol hro2 rfl (by rw [hW.2.1]) (by rw [hW.2.2.2.1]) (fun g hg=>by cases hg) (fun b hb=>?_);have hb2:cl W o2 (s.ob o2) b:=by rw [hx];exact hb
     have hlt:=(gX hs hb2).2;exact ⟨hw.1 b hlt (fun hc2=>h (hs.ex o2 (HBS+c) b hb2 (by rw [hob];exact hc2))),hS b hlt⟩
 ·rw [hap] at c1 c2
  have claim:∀ o3,cl W' o3 (up s.ob (HBS+c) (.hp (upl f l)) o3) k→(o3=HBS+c∧(cl W (HBS+c) (.hp f) k∨w.heap.size≤k))∨(o3≠HBS+c∧cl W o3 (s.ob o3) k∧k < w.heap.size):=fun o3 hk=>by
   rw [ay] at hk
   by_cases h:o3=HBS+c
   ·rw [if_pos h] at hk;subst h;exact .inl ⟨rfl,hcc k hk⟩
   ·rw [if_neg h] at hk;have:=hcl' o3 k h hk;exact .inr ⟨h,this,(gX hs this).2⟩
  rcases claim o1 c1 with ⟨h1,h2⟩ | ⟨h1,h2,h3⟩ <;> rcases claim o2 c2 with ⟨k1,k2⟩ | ⟨k1,k2,k3⟩
  ·rw [h1,k1]
  ·rcases h2 with h2 | h2
   ·exact absurd (hs.ex o2 (HBS+c) k k2 (by rw [hob];exact h2)) k1
   ·omega
  ·rcases k2 with k2 | k2
   ·exact absurd (hs.ex o1 (HBS+c) k h2 (by rw [hob];exact k2)) h1
   ·omega
  ·exact hs.ex _ _ _ h2 k2
 ·rw [hlv b]
  show _↔eU ((s.ap dst v (.hw (HBS+c) l)).ob (HBS+s.nc b)) b≠.no
  rw [hap,ay]
  by_cases h:s.nc b=c
  ·rw [if_pos h,if_pos (by rw [h])];exact Iff.rfl
  ·rw [if_neg h,if_neg (by omega)];exact Iff.rfl
theorem mZ:∀ (cs:List Hc) (off:Nat) (hs:List Hc),(iF cs off hs).map Hc.cl=iC (cs.map Hc.cl) off (hs.map Hc.cl)
 | [],off,hs=>by simp [iF,iC]
 | c :: cs,0,[]=>by simp [iF,iC]
 | c :: cs,0,d :: ds=>by simp only [iF,iC,List.map_cons,mZ cs 0 ds]
 | c :: cs,k+1,[]=>by simp only [iF,iC,List.map_cons,mZ cs k []]
 | c :: cs,k+1,d :: ds=>by simp only [iF,iC,List.map_cons,mZ cs k (d :: ds)]
theorem RC.hc {W:Wit} {G:Nat→Nat} {O:Nat→Ob} {w:World} {c:Cl} {x:Hc} {v:Value} (h:RC W G O w c v) (hx:c.hc=some x):RC W G O w x.cl v:=by
 cases c with
 | d y=>cases hx;exact h
 | own o g rows=>cases hx;exact h.1
 | ti rows=>cases hx;exact h.1
 | hv y=>cases hx;exact h
 | _=>cases hx
theorem RCs.hcs {W:Wit} {G:Nat→Nat} {O:Nat→Ob} {w:World}:∀ {cs:List Cl} {hs:List Hc} {vs:List Value},RCs W G O w cs vs→Go.Proofs.Ytkafcpnahpfbfaa.hcs cs=some hs→RCs W G O w (hs.map Hc.cl) vs
 | [],hs,vs,h,he=>by
   simp [Go.Proofs.Ytkafcpnahpfbfaa.hcs,aC] at he;subst he;exact h
 | c :: cs,hs,vs,h,he=>by
   unfold Go.Proofs.Ytkafcpnahpfbfaa.hcs at he;simp only [List.map_cons] at he
   cases hc:c.hc with
   | none=>rw [hc] at he;simp [aC] at he
   | some x =>
     rw [hc] at he;simp only [aC,Option.map_eq_some_iff] at he;obtain ⟨hs',h1,rfl⟩:=he
     cases vs with
     | nil=>exact absurd h.1 (by simp)
     | cons v vs =>
       have ih:=RCs.hcs (cs:=cs) (hs:=hs') (vs:=vs) ⟨by simpa using h.1,fun i c u e1 e2=>h.2 (i+1) c u (by simpa using e1) (by simpa using e2)⟩ h1;refine ⟨by have:=ih.1;simp at this ⊢;exact this,fun i y u e1 e2=>?_⟩
       cases i with
       | zero=>simp at e1 e2;subst e1;subst e2;exact RC.hc (h.2 0 c v rfl rfl) hc
       | succ i=>exact ih.2 i y u (by simpa using e1) (by simpa using e2)
theorem uE:∀ {cs:List Cl} {hs:List Hc},hcs cs=some hs→hs.length=cs.length
 | [],hs,he=>by simp [hcs,aC] at he;subst he;rfl
 | c :: cs,hs,he=>by
   unfold hcs at he;simp only [List.map_cons] at he
   cases hc:c.hc with
   | none=>rw [hc] at he;simp [aC] at he
   | some x =>
     rw [hc] at he;simp only [aC,Option.map_eq_some_iff] at he;obtain ⟨hs',h1,rfl⟩:=he;simp [uE (cs:=cs) (hs:=hs') h1]
theorem Sim.turn [Bor] {w0:World} {S0:Nat→Nat} {W:Wit} {s:St} {a:Act} {w:World} (hs:Sim w0 S0 n W s a w) {b:Nat} {x y:Hb} (hb:s.hb b=x) (hx:x≠.no) (hy:y≠.no) {w':World} {dst:Option Nat} (hd:∀ d,dst=some d→d < n) {v:Av} {rv:Value}
 (hk:∀ k,hcl W b y k↔hcl W b x k) (hw:(∀ k,¬ hcl W b x k→w'.heap[k]? = w.heap[k]?)∧w.heap.size=w'.heap.size∧w'.os=w.os∧w'.tape=w.tape∧w'.output=w.output)
 (hR:∀ {G O},Fol W s.gen s.ob w W G O w'→RH W G O w' b y) (hv:∀ {G O},Fol W s.gen s.ob w W G O w'→RA W G O w' v rv) :
 Sim w0 S0 n W (s.ap dst v (.hw (HBS+s.nc b) [(b,y)])) (a.put dst rv) w':=by
 obtain ⟨f,h1,h2,h3,h4⟩:=IK hs hb hx
 have hcl2:∀ m k,hcl W m (up f b y m) k↔hcl W m (f m) k:=fun m k=>by
  rw [ay]
  by_cases h:m=b
  ·subst h;rw [if_pos rfl,h2];exact hk k
  ·rw [if_neg h]
 refine hs.part h1 hd ⟨rfl,rfl,rfl,rfl,rfl⟩ (fun _ _=>rfl) (fun _ h=>⟨h,rfl,rfl⟩) (fun _ _ _=>rfl) ⟨fun k _ hn=>hw.1 k (fun hk=>hn ⟨b,by rw [h2];exact hk⟩),by omega,hw.2.2⟩ (fun hf=>?_) (fun k ⟨m,hm⟩=>.inl ⟨m,(hcl2 m k).1 hm⟩) (fun m=>?_) (fun hf=>hv hf)
 ·show RP' _ _ _ _ _ _ (up f b y)
  refine ⟨fun m hn=>?_,fun m hn=>?_,fun m k hk2=>?_,fun m=>?_,fun m m' k e1 e2=>h3.ex m m' k ((hcl2 m k).1 e1) ((hcl2 m' k).1 e2)⟩
  ·rw [ay] at hn;split at hn
   ·rename_i h;subst h;exact h3.nc m (by rw [h2];exact hx)
   ·exact h3.nc m hn
  ·rw [ay] at hn;split at hn
   ·rename_i h;subst h;exact h4
   ·exact h3.lv m hn
  ·obtain ⟨q1,q2,q3⟩:=h3.mine m k ((hcl2 m k).1 hk2);exact ⟨q1,q2,by omega⟩
  ·rw [ay];split
   ·rename_i h;subst h;exact hR hf
   ·rename_i h
    by_cases hn:f m=.no
    ·rw [hn];trivial
    ·exact RH.fol hf (h3.at_ m) (fun _=>h3.lv m hn) rfl (fun k hk2=>hw.1 k (fun hk3=>h (h3.ex m b k hk2 (by rw [h2];exact hk3))))
 ·show W.lv m↔(if s.nc m=s.nc b then up f b y m else s.hb m)≠.no
  rw [hs.lv m]
  by_cases h:s.nc m=s.nc b
  ·rw [if_pos h,ay]
   by_cases hm:m=b
   ·subst hm;rw [if_pos rfl,hb];exact ⟨fun _=>hy,fun _=>hx⟩
   ·rw [if_neg hm];have:s.hb m=f m:=by unfold St.hb;rw [h,h1];rfl
    rw [this]
  ·rw [if_neg h]
theorem DI [Bor] (hd:o.dst=none) {t:TypeId} {i:TypeInfo} {ao xo:Operand} {x y:PX} (hop:o.op=.store t ao xo) (hi:P.info? t=some i) (hx:cX ao=some x) (hy:cX xo=some y):Good P n o (.store i.size x y):=by
 intro w0 S0 W s a w v ch hs hf;simp only [PO.fn] at hf;split at hf
 ·rename_i o' g off nw heq hnw;split at hf
  ·rename_i hg;split at hf
   ·rename_i cs hob;split at hf
    ·rename_i hle;cases hf;obtain ⟨h1,h2,h3⟩:=dJ hs hx heq (by simp);have hp:=h3 hg.1.symm;have hvs:=yX hs hy hnw;have hro:=hs.ob o';rw [hob] at hro;obtain ⟨arr,T,h4,h5,h6,h7⟩:=hro;obtain ⟨vals,hvals⟩:∃ l,(a.eval xo).cells.toList=l:=⟨_,rfl⟩
     rw [hvals] at hvs;have hlv:vals.length=i.size:=by rw [←hvs.1];exact hg.2
     have hla:off+vals.length≤arr.size:=by
      have:=h7.1;simp at this;omega
     have hst:=run_storeCells_at P (W.blk o') off T vals 0 arr w h4 (by omega) hvs.one;simp only [Nat.add_zero] at hst;have hcz:(a.eval xo).cells.size=i.size:=by rw [←hlv,←hvals];simp
     rw [hd];obtain ⟨arr',harr'⟩:∃ arr',(arr.toList.take off ++ vals ++ arr.toList.drop (off+vals.length)).toArray=arr':=⟨_,rfl⟩
     rw [harr'] at hst;have hal:arr'.toList=arr.toList.take off ++ vals ++ arr.toList.drop (off+vals.length):=by rw [←harr']
     have hrow:(w.setRow (W.blk o') arr').heap[W.blk o']? = some (.cells arr' T (0,0)):=setRow_heap w _ arr _ T (0,0) h4;have hoth:∀ k,k≠W.blk o'→(w.setRow (W.blk o') arr').heap[k]? = w.heap[k]?:=fun k hk=>setRow_other w _ k _ hk
     have hfol:Fol W s.gen s.ob w W s.gen (up s.ob o' (.cells (splice cs off nw))) (w.setRow (W.blk o') arr'):=by
      refine ⟨fun b k hk _=>⟨hk,?_⟩,fun _=>Nat.le_refl _,fun _ _=>rfl,fun o2 E sz n' _ ho2=>?_,fun _ _=>rfl,fun _ h=>⟨h,rfl,rfl⟩,rfl⟩
      ·have hne:b≠W.blk o':=by rintro rfl;rw [h6] at hk;omega
       simp [World.cell?,hoth b hne]
      ·rw [ay] at ho2;split at ho2
       ·cases ho2
       ·exact ⟨n',ho2,Nat.le_refl _,fun _=>rfl⟩
     refine ⟨W,undef,w.setRow (W.blk o') arr',.inr ⟨?_,rfl⟩,?_⟩
     ·simp [execOp,hop,Instr.storeAt,hp,Instr.sureAddr,storeVar,sizeOf,typeInfo,hi,hcz,hvals,hst]
     ·have hap:(s.ap none .un (.wr o' off nw)).ob=up s.ob o' (.cells (splice cs off nw)):=by
       show up s.ob o' _=_
       rw [hob,←iZ cs off nw (by omega)]
      refine hs.step (fun _ h=>by cases h) (by rw [hap];exact hfol) ⟨rfl,rfl,rfl,by simp,fun k hk hnf=>hoth k (fun e=>by subst e;exact h5.elim (fun h=>by omega) hnf)⟩ (fun _ _=>rfl) trivial (fun o2=>?_) (fun o1 o2 b c1 c2=>?_) (fun b=>(hs.lv b).trans (by rw [o8 (o:=o') (fun p hp=>by rw [hap,ay,if_neg hp]) (.inr ⟨by rw [hob];rfl,by rw [hap,ay,if_pos rfl];rfl⟩)]))
      ·rw [hap]
       by_cases h:o2=o'
       ·subst h;rw [ay,if_pos rfl];refine ⟨arr',T,hrow,h5,h6,?_⟩;rw [hal];exact (RCs.fol hfol h7).splice (RCs.fol hfol hvs) (by simpa using hla)
       ·rw [ay,if_neg h];refine RO.fol hfol (hs.ob o2) rfl rfl rfl (fun _ _=>rfl) (fun b hb=>⟨hoth b ?_,rfl⟩);rintro rfl;exact h (hs.ex _ _ _ hb (by rw [hob];rfl))
      ·have claim:∀ o3 b,cl W o3 ((s.ap none .un (.wr o' off nw)).ob o3) b→cl W o3 (s.ob o3) b:=fun o3 b hb=>by
        rw [hap,ay] at hb;split at hb
        ·rename_i h;subst h;rw [hob];exact hb
        ·exact hb
       exact hs.ex _ _ _ (claim _ _ c1) (claim _ _ c2)
    ·cases hf
   ·cases hf
  ·cases hf
 ·rename_i b off nw heq hnw;split at hf
  ·rename_i cs hsx hbx hhx;split at hf
   ·rename_i hg;cases hf;obtain ⟨h1,h2,h3⟩:=dJ hs hx heq (by simp);have hp:a.eval ao=.pointer (some ⟨W.nm b,off,none⟩):=h1;have hvs:=(yX hs hy hnw).hcs hhx;have hhl:=uE hhx;obtain ⟨⟨arr,T,h4,h7⟩,hlv⟩:=pz hs hbx (by simp);obtain ⟨vals,hvals⟩:∃ l,(a.eval xo).cells.toList=l:=⟨_,rfl⟩
    rw [hvals] at hvs;have hlv':vals.length=i.size:=by have:=hvs.1;rw [List.length_map] at this;omega
    have hla:off+vals.length≤arr.size:=by
     have:=h7.1;simp at this;omega
    have hst:=run_storeCells_at P (W.nm b) off T vals 0 arr w h4 (by omega) hvs.one;simp only [Nat.add_zero] at hst;have hcz:(a.eval xo).cells.size=i.size:=by rw [←hlv',←hvals];simp
    rw [hd];obtain ⟨arr',harr'⟩:∃ arr',(arr.toList.take off ++ vals ++ arr.toList.drop (off+vals.length)).toArray=arr':=⟨_,rfl⟩
    rw [harr'] at hst;have hal:arr'.toList=arr.toList.take off ++ vals ++ arr.toList.drop (off+vals.length):=by rw [←harr']
    have hrow:(w.setRow (W.nm b) arr').heap[W.nm b]? = some (.cells arr' T (0,0)):=setRow_heap w _ arr _ T (0,0) h4;have hoth:∀ k,k≠W.nm b→(w.setRow (W.nm b) arr').heap[k]? = w.heap[k]?:=fun k hk=>setRow_other w _ k _ hk
    refine ⟨W,undef,w.setRow (W.nm b) arr',.inr ⟨?_,rfl⟩,?_⟩
    ·simp [execOp,hop,Instr.storeAt,hp,Instr.sureAddr,storeVar,sizeOf,typeInfo,hi,hcz,hvals,hst]
    ·refine hs.turn hbx (by simp) (y:=.cells (iF cs off hsx)) (by simp) (fun _ h=>by cases h) (fun k=>Iff.rfl) ⟨fun k hk=>hoth k (fun e=>hk (by subst e;rfl)),by simp,rfl,rfl,rfl⟩ (fun hf=>?_) (fun _=>trivial)
     refine ⟨arr',T,hrow,?_⟩;rw [mZ,iZ _ _ _ (by rw [List.length_map,List.length_map];omega),hal]
     exact (RCs.fol hf h7).splice (RCs.fol hf hvs) (by simpa using hla)
   ·cases hf
  ·rename_i E sz' rows v0 hbx hhx;split at hf
   ·rename_i hg;cases hf;obtain ⟨rfl,hsz,hoff⟩:=hg;obtain ⟨h1,h2,h3⟩:=dJ hs hx heq (by simp);have hp:a.eval ao=.pointer (some ⟨W.nm b,off,none⟩):=h1;have hvs:=(yX hs hy hnw).hcs hhx;obtain ⟨⟨xs,⟨hxl,hcase⟩,hr1,hr2,hown⟩,hlv⟩:=pz hs hbx (by simp);have hne:rows≠[]:=by rintro rfl;simp at hoff
    have hob:=hown hne
    rcases hcase with ⟨_,q2⟩ | ⟨g,cap,cur,fz,q1,q2,q3,q4,q5,q6,q7,q8⟩
    ·omega
    ·obtain rfl:g=W.nm b:=by rw [q1] at hob;simpa [Value.ownBlock] using hob
     obtain ⟨vals,hvals⟩:∃ l,(a.eval xo).cells.toList=l:=⟨_,rfl⟩
     rw [hvals] at hvs;have hl1:vals.length=1:=hvs.1.symm;obtain ⟨u,rfl⟩:∃ u,vals=[u]:=List.length_eq_one_iff.1 hl1
     have hu:RD W.S w (.sc v0) u:=hvs.2 0 _ u rfl rfl;obtain rfl:u=v0:=by cases hu;rfl
     have hst:=gQ P (W.nm b) off E fz [u] 0 cur w q3 q8 (by simp;omega) hvs.one
     simp only [Nat.add_zero] at hst;have hcz:(a.eval xo).cells.size=i.size:=by rw [hsz,←Array.length_toList,hvals];rfl
     rw [hd];obtain ⟨arr',harr'⟩:∃ arr',(cur.toList.take off ++ [u] ++ cur.toList.drop (off+[u].length)).toArray=arr':=⟨_,rfl⟩
     rw [harr'] at hst;have hcl2:cur.toList.length=cap:=by rw [Array.length_toList,q6,Nat.mul_one]
     have hal:arr'.toList=cur.toList.set off u:=by
      rw [←harr']
      show cur.toList.take off ++ [u] ++ cur.toList.drop (off+1)=_
      rw [List.set_eq_take_append_cons_drop,if_pos (by omega),List.append_assoc];rfl
     have has:arr'.size=cur.size:=by rw [←Array.length_toList,hal,List.length_set,Array.length_toList]
     have hrow:(w.setRow (W.nm b) arr').heap[W.nm b]? = some (.cells arr' E fz):=setRow_heap w _ cur _ E fz q3;have hoth:∀ k,k≠W.nm b→(w.setRow (W.nm b) arr').heap[k]? = w.heap[k]?:=fun k hk=>setRow_other w _ k _ hk
     refine ⟨W,undef,w.setRow (W.nm b) arr',.inr ⟨?_,rfl⟩,?_⟩
     ·simp [execOp,hop,Instr.storeAt,hp,Instr.sureAddr,storeVar,sizeOf,typeInfo,hi,hcz,hvals,hst]
     ·refine hs.turn hbx (by simp) (y:=.vec E 1 (rows.set off [.sc u])) (by simp) (fun _ h=>by cases h) (fun k=>Iff.rfl) ⟨fun k hk=>hoth k (fun e=>hk (by subst e;exact hob)),by simp,rfl,rfl,rfl⟩ (fun hf=>?_) (fun _=>trivial)
      have hext:Ext W.S W.S w (w.setRow (W.nm b) arr'):=hf.1;refine ⟨xs.set off u,⟨by rw [List.length_set,List.length_set];exact hxl,.inr ⟨W.nm b,cap,arr',fz,by rw [List.length_set];exact q1,q2,hrow,by rw [List.length_set];exact q4,q5,by rw [has];exact q6,?_,q8.size has⟩⟩,fun r hr=>?_,fun i' r j x e1 e2=>?_,fun _=>hob⟩
      ·rw [hal,List.length_set,List.take_set,q7]
      ·rcases List.mem_or_eq_of_mem_set hr with q | q
       ·exact hr1 r q
       ·rw [q];rfl
      ·rw [List.getElem?_set] at e1
       by_cases hio:off=i'
       ·subst hio;rw [if_pos rfl,if_pos hoff] at e1;cases e1
        cases j with
        | zero =>
          cases e2;refine ⟨u,?_,?_⟩
          ·rw [List.getElem?_set,if_pos (by omega),if_pos (by omega)]
          ·cases hu;exact .sc _ ‹_›
        | succ j=>simp at e2
       ·rw [if_neg hio] at e1;obtain ⟨u',g1,g2⟩:=hr2 i' r j x e1 e2;have hrl:=hr1 r (List.mem_of_getElem? e1);have hj:j < r.length:=(List.getElem?_eq_some_iff.1 e2).1;refine ⟨u',?_,RD.ext hext g2⟩;rw [List.getElem?_set,if_neg (by omega)];exact g1
   ·cases hf
  ·cases hf
 ·cases hf
theorem foldl_set:∀ (vs:List Value) (k off:Nat) (cells:Array Value),off+k+vs.length≤cells.size →
 (((vs.zipIdx k).foldl (fun cs p=>cs.setIfInBounds (off+p.2) p.1) cells).toList=cells.toList.take (off+k) ++ vs ++ cells.toList.drop (off+k+vs.length))
 | [],k,off,cells,_=>by simp
 | v :: vs,k,off,cells,h=>by
   simp only [List.zipIdx_cons,List.foldl_cons];rw [foldl_set vs (k+1) off _ (by simp at h ⊢;omega)]
   apply List.ext_getElem?
   intro j;have h1:off+(k+1)+vs.length≤(cells.setIfInBounds (off+k) v).toList.length:=by simp at h ⊢;omega
   have h2:off+k+(v :: vs).length≤cells.toList.length:=by simp at h ⊢;omega
   rw [lX _ _ _ h1,lX _ _ _ h2];simp only [List.length_cons,Array.toList_setIfInBounds] at *
   by_cases c1:off+(k+1)≤j∧j < off+(k+1)+vs.length
   ·rw [if_pos c1,if_pos (by omega),show j - (off+k)=(j - (off+(k+1)))+1 by omega,List.getElem?_cons_succ]
   ·rw [if_neg c1]
    by_cases c2:j=off+k
    ·subst c2;rw [if_pos (by omega)];simp only [Nat.sub_self,List.getElem?_cons_zero];rw [List.getElem?_set_self (by simp;omega)]
    ·rw [if_neg (by omega),List.getElem?_set_ne (by omega)]
theorem yG [Bor] {w0:World} {S0:Nat→Nat} {W:Wit} {s:St} {a:Act} {w:World} (hs:Sim w0 S0 n W s a w) {place:Nat→Option (Nat×Nat)} :
 ∀ (ps:List (Nat×Operand)) (qs:List (Nat×Nat×PX)) (rs:List (Nat×List Cl)) (cs cs':List Cl) (cells:Array Value),
   ps.length=qs.length→(∀ (j:Nat) i xo off k x,ps[j]? = some (i,xo)→qs[j]? = some (off,k,x)→place i=some (off,k)∧cX xo=some x) →
   s.parts qs=some rs→dS cs rs=some cs'→RCs W s.gen s.ob w cs cells.toList →
   ∃ cells',Instr.fill place cells (ps.map fun p=>(p.1,a.eval p.2))=some cells'∧RCs W s.gen s.ob w cs' cells'.toList
 | [],[],rs,cs,cs',cells,_,_,hp,hfl,hr=>by
   simp [St.parts] at hp;subst hp;simp [dS] at hfl;subst hfl;exact ⟨cells,rfl,hr⟩
 | [],_ :: _,_,_,_,_,hl,_,_,_,_=>by simp at hl
 | _ :: _,[],_,_,_,_,hl,_,_,_,_=>by simp at hl
 | (i,xo) :: ps,(off,k,x) :: qs,rs,cs,cs',cells,hl,hpl,hp,hfl,hr=>by
   obtain ⟨h1,h2⟩:=hpl 0 i xo off k x rfl rfl;simp only [St.parts] at hp;split at hp
   ·rename_i c hc;split at hp
    ·rename_i hck;simp only [Option.map_eq_some_iff] at hp;obtain ⟨rs',hrs,rfl⟩:=hp;simp only [dS] at hfl;split at hfl
     ·rename_i hle;have hvc:=yX hs h2 hc;have hsz:(a.eval xo).cells.size=k:=by rw [←hck,hvc.1];simp
      have hle2:off+(a.eval xo).cells.toList.length≤cells.toList.length:=by
       have:=hr.1;have:=hvc.1;omega
      have hnew:=hr.splice hvc (off:=off) hle2;have hset:=foldl_set (a.eval xo).cells.toList 0 off cells (by simpa using hle2);simp only [Nat.add_zero] at hset
      have hz:((a.eval xo).cells.zipIdx.foldl (fun cs (c,j)=>cs.setIfInBounds (off+j) c) cells).toList=cells.toList.take off ++ (a.eval xo).cells.toList ++ cells.toList.drop (off+(a.eval xo).cells.toList.length):=by
       rw [←hset,←Array.foldl_toList,Array.toList_zipIdx]
      rw [←hz] at hnew;obtain ⟨cells',h3,h4⟩:=yG hs ps qs rs' (splice cs off c) cs' _ (by simpa using hl) (fun j=>hpl (j+1)) hrs hfl hnew;refine ⟨cells',?_,h4⟩;simp only [List.map_cons,Instr.fill,h1];rw [if_neg]
      ·exact h3
      ·simp at hle2;simp [hsz];omega
     ·cases hfl
    ·cases hp
   ·cases hp
end
section
variable {n:Nat} {P:Program} {o:Oper}
theorem RC.dt {W:Wit} {G:Nat→Nat} {O:Nat→Ob} {w:World} {c:Cl} {x:Dt} {v:Value} (h:RC W G O w c v) (hd:c.dt=some x):RD W.S w x v:=by
 unfold Cl.dt at hd;split at hd
 ·cases hd;obtain ⟨rfl,_⟩:=RD.fP (show RD W.S w _ v from h);exact .emp none 0 (by unfold maxLen;omega)
 ·cases hd;exact h
 ·cases hd;exact h.1
 ·cases hd;exact h.1
 ·cases hd
theorem eF {α:Type}:∀ (l:List (Option α)) (xs:List α),aC l=some xs→l=xs.map some
 | [],xs,h=>by simp [aC] at h;subst h;rfl
 | none :: _,xs,h=>by simp [aC] at h
 | some x :: l,xs,h=>by
   simp only [aC,Option.map_eq_some_iff] at h;obtain ⟨ys,hy,rfl⟩:=h;rw [eF l ys hy];rfl
theorem RD.block {S:Nat→Nat} {w:World} {rows:List (List Dt)} {b o cap sz:Nat} {vs:List Value} (hsz:∀ r,r ∈ rows→r.length=sz) (hl:vs.length=rows.length * sz)
 (hc:∀ j u,vs[j]? = some u→w.cell? ⟨b,o+j,none⟩=some u∧o+j < S b) (hcap:rows.length≤cap) (hm:cap≤maxLen)
 (hd:∀ i r j x,rows[i]? = some r→r[j]? = some x→∃ u,vs[i * sz+j]? = some u∧RD S w x u):RD S w (.im rows) (.slice (some ⟨b,o,none⟩) rows.length cap):=by
 refine .im rows sz b o cap (fun i j=>vs.getD (i * sz+j) undef) hcap hm hsz (fun i j hi hj=>?_) (fun i r j x hr hx=>?_)
 ·have hlt:i * sz+j < vs.length:=by
   rw [hl]
   calc i * sz+j < i * sz+sz:=by omega
    _=(i+1) * sz:=by rw [Nat.add_mul,Nat.one_mul]
    _≤rows.length * sz:=Nat.mul_le_mul_right _ hi
  have h1:=List.getElem?_eq_getElem hlt;obtain ⟨h2,h3⟩:=hc _ _ h1;refine ⟨?_,h3⟩;rw [h2,List.getD_eq_getElem?_getD,h1];rfl
 ·obtain ⟨u,h1,h2⟩:=hd i r j x hr hx;rw [List.getD_eq_getElem?_getD,h1];exact h2
theorem RD.flat {S:Nat→Nat} {w:World} {rows:List (List Dt)} {v:Value} (h:RD S w (.im rows) v) {sz:Nat} (hsz:∀ r,r ∈ rows→r.length=sz) :
 ∃ (A:Option Addr) (cap:Nat) (vs:List Value),v=.slice A rows.length cap∧rows.length≤cap∧cap≤maxLen∧vs.length=rows.length * sz∧(∀ u ∈ vs,u.oneCell'=true) ∧
   (∀ i r j x,rows[i]? = some r→r[j]? = some x→∃ u,vs[i * sz+j]? = some u∧RD S w x u) ∧
   (rows=[]∨∃ b o,A=some ⟨b,o,none⟩∧∀ j u,vs[j]? = some u→w.cell? ⟨b,o+j,none⟩=some u∧o+j < S b):=by
 cases h with
 | emp A c h=>exact ⟨A,c,[],rfl,by simp,h,by simp,fun u hu=>(by cases hu),fun i r j x hr=>(by simp at hr),.inl rfl⟩
 | im _ sz' b o cap f hc hm hsz' hcell hd =>
   by_cases hz:rows=[]
   ·subst hz;exact ⟨_,cap,[],rfl,by simp,hm,by simp,fun u hu=>(by cases hu),fun i r j x hr=>(by simp at hr),.inl rfl⟩
   have hss:sz'=sz:=by
    cases rows with
    | nil=>exact absurd rfl hz
    | cons r rs=>rw [←hsz r (by simp),hsz' r (by simp)]
   subst hss
   have hget:∀ i j,i < rows.length→j < sz'→((List.range (rows.length * sz')).map fun k=>f (k / sz') (k % sz'))[i * sz'+j]? = some (f i j):=fun i j hi hj=>by
    have hlt:i * sz'+j < rows.length * sz':=by
     calc i * sz'+j < i * sz'+sz':=by omega
      _=(i+1) * sz':=by rw [Nat.add_mul,Nat.one_mul]
      _≤rows.length * sz':=Nat.mul_le_mul_right _ hi
    rw [List.getElem?_map,List.getElem?_range hlt];simp only [Option.map_some,Option.some.injEq];rw [Nat.mul_comm i sz',Nat.mul_add_div (by omega),Nat.div_eq_of_lt hj,Nat.mul_add_mod,Nat.mod_eq_of_lt hj,Nat.add_zero]
   refine ⟨_,cap,(List.range (rows.length * sz')).map fun k=>f (k / sz') (k % sz'),rfl,hc,hm,by simp,fun u hu=>?_,fun i r j x hr hx=>?_,.inr ⟨b,o,rfl,fun j u hj=>?_⟩⟩
   ·simp only [List.mem_map,List.mem_range] at hu;obtain ⟨k,hk,rfl⟩:=hu
    have hp:0 < sz':=by
     rcases Nat.eq_zero_or_pos sz' with h | h
     ·subst h;simp at hk
     ·exact h
    have h1:k / sz' < rows.length:=Nat.div_lt_of_lt_mul (by rw [Nat.mul_comm];exact hk)
    have h2:=Nat.mod_lt k hp;have h3:rows[k / sz']? = some rows[k / sz']:=List.getElem?_eq_getElem h1;have h4:(rows[k / sz']).length=sz':=hsz' _ (List.getElem_mem h1);exact (hd _ _ _ _ h3 (List.getElem?_eq_getElem (by rw [h4];exact h2))).one
   ·have hil:=(List.getElem?_eq_some_iff.1 hr).1;have hjl:=(List.getElem?_eq_some_iff.1 hx).1;rw [hsz' r (List.mem_of_getElem? hr)] at hjl;exact ⟨_,hget i j hil hjl,hd i r j x hr hx⟩
   ·have hj1:=(List.getElem?_eq_some_iff.1 hj).1;simp at hj1
    have hp:0 < sz':=by
     rcases Nat.eq_zero_or_pos sz' with h | h
     ·subst h;simp at hj1
     ·exact h
    have h1:j / sz' < rows.length:=Nat.div_lt_of_lt_mul (by rw [Nat.mul_comm];exact hj1)
    have h2:=Nat.mod_lt j hp;have h3:j / sz' * sz'+j % sz'=j:=by rw [Nat.mul_comm];exact Nat.div_add_mod j sz'
    have h4:=hget (j / sz') (j % sz') h1 h2;rw [h3] at h4;rw [h4] at hj;cases hj;have:=hcell (j / sz') (j % sz') h1 h2;rw [h3] at this;exact this
theorem Dy [Bor] (hd:∀ d,o.dst=some d→d < n) {t:TypeId} {ps:Array (Nat×Operand)} {qs:List (Nat×Nat×PX)} {z:Array Value} {place:Nat→Option (Nat×Nat)} (hop:o.op=.build t ps)
 (hb:∀ vals,P.built t vals=Instr.fill place z vals) (hz:∀ v ∈ z.toList,v.oneCell'=true)
 (hl:ps.toList.length=qs.length) (hpl:∀ (j:Nat) i xo off k x,ps.toList[j]? = some (i,xo)→qs[j]? = some (off,k,x)→place i=some (off,k)∧cX xo=some x):Good P n o (.build z.toList qs) :=
 .bJ hd fun w0 S0 W s a w v ch hs hf=>by
  simp only [PO.fn,Option.bind_eq_some_iff,Option.map_eq_some_iff,Prod.mk.injEq] at hf;obtain ⟨rs,hrs,cs,hcs,rfl,rfl⟩:=hf
  have hz0:RCs W s.gen s.ob w (z.toList.map fun v=>Cl.d (.sc v)) z.toList:=⟨by simp,fun i c u h1 h2=>by
   simp only [List.getElem?_map,h2,Option.map_some,Option.some.injEq] at h1;subst h1;exact RD.sc _ (hz u (List.mem_of_getElem? h2))⟩
  obtain ⟨cells,h1,h2⟩:=yG hs ps.toList qs rs _ cs z hl hpl hrs hcs hz0;refine ⟨rfl,.agg cells,?_,cells,rfl,h2⟩;have h3:=run_build (P:=P) w t (ps.map fun (i,x)=>(i,a.eval x)) cells (by rw [hb,Array.toList_map];exact h1)
  simp only [execOp,hop,Sem.run_bind,h3,Result.andThen_ok,Sem.run_pure]
theorem RD.sub {S:Nat→Nat} {w:World} {rows:List (List Dt)} {A:Option Addr} {cap sz:Nat} (hrd:RD S w (.im rows) (.slice A rows.length cap)) (hall:∀ r,r ∈ rows→r.length=sz) {l h c:Nat} (hlh:l≤h) (hh:h≤rows.length) (hc:h≤c) (hcm:c≤maxLen)
 {B:Option Addr} (hB:h=l∨B=A.map (·.add (l * sz))):RD S w (.im ((rows.take h).drop l)) (.slice B (h - l) (c - l)):=by
 obtain ⟨A',cap',vs,e0,e1,e2,e3,e4,e5,e6⟩:=hrd.flat hall;simp only [Value.slice.injEq] at e0;obtain ⟨rfl,_,rfl⟩:=e0;have hlen:((rows.take h).drop l).length=h - l:=by simp;omega
 by_cases hz:h=l
 ·have:(rows.take h).drop l=[]:=List.eq_nil_of_length_eq_zero (by rw [hlen];omega)
  rw [this,hz,Nat.sub_self];exact .emp B _ (by omega)
 ·have hB2:B=A.map (·.add (l * sz)):=by
   rcases hB with hB | hB
   ·omega
   ·exact hB
  rcases e6 with e6 | ⟨b,o',rfl,e7⟩
  ·subst e6;simp at hh;omega
  rw [hB2,←hlen];simp only [Option.map_some,addr_add];refine RD.block (vs:=(vs.take (h * sz)).drop (l * sz)) (sz:=sz) (fun r hr=>hall r (List.mem_of_mem_take (List.mem_of_mem_drop hr))) ?_ (fun j u hj=>?_) (by rw [hlen];omega) (by omega) (fun i r j x' hr hx'=>?_)
  ·have hm:h * sz≤rows.length * sz:=Nat.mul_le_mul_right _ (by omega);rw [hlen,List.length_drop,List.length_take,e3,Nat.min_eq_left hm,Nat.sub_mul]
  ·rw [List.getElem?_drop,List.getElem?_take] at hj;split at hj
   ·have:=e7 _ _ hj;rw [←Nat.add_assoc] at this;exact this
   ·cases hj
  ·rw [List.getElem?_drop,List.getElem?_take] at hr;split at hr
   ·rename_i hlt;obtain ⟨u,h3,h4⟩:=e5 _ _ _ _ hr hx';refine ⟨u,?_,h4⟩;have hjl:=(List.getElem?_eq_some_iff.1 hx').1;rw [hall r (List.mem_of_getElem? hr)] at hjl
    have hlt2:l * sz+(i * sz+j) < h * sz:=by
     calc l * sz+(i * sz+j) < l * sz+(i * sz+sz):=by omega
      _=(l+(i+1)) * sz:=by rw [Nat.add_mul,Nat.add_mul,Nat.one_mul]
      _≤h * sz:=Nat.mul_le_mul_right _ (by omega)
    rw [List.getElem?_drop,List.getElem?_take,if_pos hlt2,←Nat.add_assoc,←Nat.add_mul];exact h3
   ·cases hr
theorem RD.Q0 {S:Nat→Nat} {w:World} {u:Value} (h:RD S w .nn u):∃ d z,u=.iface d z:=by cases h;exact ⟨_,_,rfl⟩
theorem pY:∀ (rows:List (List Dt)) (ns:List Int),dV rows=some ns→rows=ns.map fun n=>[Dt.sc (.int .u8 n)]
 | [],ns,h=>by simp only [dV,Option.some.injEq] at h;subst h;rfl
 | r :: rest,ns,h=>by
   unfold dV at h;split at h
   ·rename_i he;cases he
   ·rename_i n rest' he;simp only [List.cons.injEq] at he;obtain ⟨rfl,rfl⟩:=he;simp only [Option.map_eq_some_iff] at h;obtain ⟨ns',h1,rfl⟩:=h;rw [pY _ _ h1];simp
   ·cases h
theorem GD [Bor] (hd:∀ d,o.dst=some d→d < n) {t e u:TypeId} {xo:Operand} {x:PX} (hop:o.op=.convert t u xo) (ht:P.underlying t=some (.slice e)) (he:P.underlying e=some (.int .u8)) (hu:P.underlying u=some .string) (hx:cX xo=some x):Good P n o (.bstr x) :=
 .bJ hd fun w0 S0 W s a w v ch hs hf=>by
  simp only [PO.fn] at hf;split at hf
  ·rename_i rows hr;have hrd:=jI hs hx hr;simp only [Option.map_eq_some_iff] at hf;obtain ⟨ns,hns,hf⟩:=hf;cases hf;have hrows:=pY _ _ hns;obtain ⟨A,cap,vs,e0,e1,e2,e3,e4,e5,e6⟩:=hrd.flat (sz:=1) (fun r hr'=>by rw [hrows] at hr';simp only [List.mem_map] at hr';obtain ⟨n',_,rfl⟩:=hr';rfl)
   have hlen:rows.length=ns.length:=by rw [hrows,List.length_map]
   have hvs:vs=ns.map (Value.int .u8):=by
    apply List.ext_getElem?
    intro i
    by_cases hi:i < ns.length
    ·have hrow:rows[i]? = some [Dt.sc (.int .u8 ns[i])]:=by rw [hrows,List.getElem?_map,List.getElem?_eq_getElem hi];rfl
     obtain ⟨u',h1,h2⟩:=e5 i _ 0 (Dt.sc (.int .u8 ns[i])) hrow rfl;have:u'=.int .u8 ns[i]:=by cases h2;rfl
     subst this;rw [show i * 1+0=i by omega] at h1;rw [h1,List.getElem?_map,List.getElem?_eq_getElem hi];rfl
    ·rw [List.getElem?_eq_none (by rw [e3];omega),List.getElem?_eq_none (by simp;omega)]
   have hrun:(Conv.bytesToString (.slice A rows.length cap)).run P w=.ok (.string (gU ns)) w:=by
    cases A with
    | none =>
      have hz:rows=[]:=by
       rcases e6 with h | ⟨b,o',h,_⟩
       ·exact h
       ·cases h
      have hn0:ns=[]:=by subst hz;exact List.eq_nil_of_length_eq_zero (by rw [←hlen];rfl)
      subst hn0;simp [Conv.bytesToString,gU]
    | some ad =>
      refine run_bytesToString w ad rows.length cap ns ?_
      rcases e6 with h | ⟨b,o',h,h7⟩
      ·subst h;have hn0:ns=[]:=List.eq_nil_of_length_eq_zero (by rw [←hlen];rfl)
       subst hn0;simp [loadCells,loadCellsFrom]
      ·cases h
       have hl:=run_loadCells_list (P:=P) w ⟨b,o',none⟩ vs (fun j u' hj=>by
        rw [addr_add];exact (h7 j u' hj).1)
       rw [show vs.length=rows.length by rw [e3];omega] at hl
       rw [hl,hvs]
   refine ⟨rfl,.string (gU ns),?_,RD.sc _ rfl⟩;simp [execOp,hop,e0,run_convert_bytes_string w t u e _ _ _ ht he hu,hrun]
  ·cases hf
theorem JX [Bor] (hd:∀ d,o.dst=some d→d < n) {t e:TypeId} {ln:Nat} {ei:TypeInfo} {xo:Operand} {x:PX} {lo hi:Option Operand} {h:PX} (hop:o.op=.slice t xo lo hi none) (ht:P.underlying t=some (.array ln e)) (hi':P.info? e=some ei) (hx:cX xo=some x)
 (hl:lo.map cX=(none:Option PX).map some) (hh:hi.map cX=(some h).map some) (hln:ln≤1000000):Good P n o (.sla ln ei.size x h) :=
 .bJ hd fun w0 S0 W s a w v ch hs hf=>by
  simp only [PO.fn] at hf
  cases lo with
  | some _=>simp at hl
  | none =>
    cases hi with
    | none=>simp at hh
    | some ho =>
      simp only [Option.map_some,Option.some.injEq] at hh;split at hf
      ·rename_i o' g off k heq hk;split at hf
       ·rename_i hg;cases hf;obtain ⟨h1,h2,h3⟩:=dJ hs hx heq (by simp);obtain ⟨kk,hk⟩:=dN hs hh hk;have hp:=h3 hg.1.symm;refine ⟨rfl,.slice (some ⟨W.blk o',off,none⟩) k.toNat ln,?_,W.blk o',rfl,by omega,by unfold maxLen;omega,h2,fun _=>rfl⟩
        have c1:k≤(ln:Int):=hg.2.2.1
        rcases Nat.eq_zero_or_pos ln with hz | hz
        ·subst hz;have hk0:k=0:=by omega
         subst hk0;simp [execOp,hop,Instr.sliceAt,run_underlying ht,hp,hk,asIntOf,Instr.sureAddr,Instr.sliceBounds,Instr.sliceBound,sizeOf,typeInfo,hi']
        have hz':ln≠0:=by omega
        simp [execOp,hop,Instr.sliceAt,run_underlying ht,hp,hk,asIntOf,Instr.sureAddr,Instr.sliceBounds,Instr.sliceBound,hg.2.1,c1,sizeOf,typeInfo,hi',addr_add]
       ·cases hf
      ·cases hf
theorem nA {t:TypeId} {ms:Array (String×TypeId)} (hu:P.underlying t=some (.interface ms)) (w:World):(Op.equal t .nilIface .nilIface).run P w=.ok true w∧∀ d z,(Op.equal t (.iface d z) .nilIface).run P w=.ok false w:=by
 have h1:∀ d:Nat,(Op.equalIn (d+1) t .nilIface .nilIface).run P w=.ok true w:=fun d=>by simp [Op.equalIn,run_underlying hu]
 have h2:∀ (d:Nat) d' z,(Op.equalIn (d+1) t (.iface d' z) .nilIface).run P w=.ok false w:=fun d d' z=>by simp [Op.equalIn,run_underlying hu]
 exact ⟨h1 9999,fun d z=>h2 9999 d z⟩
theorem AV [Bor] (hd:∀ d,o.dst=some d→d < n) {neg:Bool} {t u:TypeId} {ms:Array (String×TypeId)} {xo yo:Operand} {x:PX} (hop:o.op=.binOp (if neg then .neq else .eql) t xo yo u) (hu:P.underlying t=some (.interface ms)) (hx:cX xo=some x) (hy:cX yo=some (.v .nilIface)):Good P n o (.niq neg x) :=
 .bJ hd fun w0 S0 W s a w v ch hs hf=>by
  simp only [PO.fn] at hf
  have hyc:yo=.const .nilIface:=by
   unfold cX at hy;split at hy
   ·cases hy
   ·split at hy <;> simp at hy
   ·cases hy
   ·simp only [Option.some.injEq,PX.v.injEq] at hy;rw [hy]
   ·cases hy
  subst hyc;have eb:a.eval (.const .nilIface)=.nilIface:=rfl;obtain ⟨q1,q2⟩:=nA (P:=P) hu w;split at hf
  ·rename_i hc;cases hf;have hv:=dJ hs hx hc (by simp);have ea:a.eval xo=.nilIface:=(RD.fP hv).1;have hg:∀ op,eqGuard op t xo (.const .nilIface) .nilIface .nilIface=pure ():=fun op=>by cases op <;> cases xo <;> rfl
   refine ⟨rfl,.bool (!neg),?_,RD.sc _ rfl⟩;cases neg <;> simp [execOp,hop,ea,eb,hg,binOp,q1]
  ·rename_i hc;cases hf;have hv:=dJ hs hx hc (by simp);obtain ⟨d',z,ea⟩:∃ d' z,a.eval xo=.iface d' z:=RD.Q0 hv
   have hg:∀ op,(eqGuard op t xo (.const .nilIface) (.iface d' z) .nilIface).run P w=.ok () w:=fun op=>qH (fun _ h=>by cases h) (by simp) w
   refine ⟨rfl,.bool neg,?_,RD.sc _ rfl⟩;cases neg <;> simp [execOp,hop,ea,eb,hg,binOp,q2]
  ·cases hf
theorem pG {t e:TypeId} (hu:P.underlying t=some (.pointer e)) (p:Option Addr) (w:World):(Op.equal t (.pointer p) (.pointer none)).run P w=.ok p.isNone w:=by
 have h1:∀ d:Nat,(Op.equalIn (d+1) t (.pointer p) (.pointer none)).run P w=.ok p.isNone w:=fun d=>by cases p <;> simp [Op.equalIn,run_underlying hu]
 exact h1 9999
theorem w9 [Bor] (hd:∀ d,o.dst=some d→d < n) {neg:Bool} {t u e:TypeId} {xo yo:Operand} {x:PX} (hop:o.op=.binOp (if neg then .neq else .eql) t xo yo u) (hu:P.underlying t=some (.pointer e)) (hx:cX xo=some x) (hy:cX yo=some (.v (.pointer none))):Good P n o (.pnil neg x) :=
 .bJ hd fun w0 S0 W s a w v ch hs hf=>by
  simp only [PO.fn] at hf
  have hyc:yo=.const (.pointer none):=by
   unfold cX at hy;split at hy
   ·cases hy
   ·split at hy <;> simp at hy
   ·cases hy
   ·simp only [Option.some.injEq,PX.v.injEq] at hy;rw [hy]
   ·cases hy
  subst hyc;have eb:a.eval (.const (.pointer none))=.pointer none:=rfl;have q:=fun p=>pG (P:=P) hu p w
  have hg:∀ op p,(eqGuard op t xo (.const (.pointer none)) (.pointer p) (.pointer none)).run P w=.ok () w:=fun op p=>qH (fun _ h=>by cases h) (by simp) w
  split at hf
  ·rename_i hc;cases hf;have hv:=dJ hs hx hc (by simp);have ea:a.eval xo=.pointer none:=(RD.fP hv).1;refine ⟨rfl,.bool (!neg),?_,RD.sc _ rfl⟩;cases neg <;> simp [execOp,hop,ea,eb,hg,binOp,q]
  ·rename_i p hc;cases hf;have hv:=dJ hs hx hc (by simp);have ea:a.eval xo=.pointer (some p):=(RD.fP hv).1;refine ⟨rfl,.bool neg,?_,RD.sc _ rfl⟩;cases neg <;> simp [execOp,hop,ea,eb,hg,binOp,q]
  ·rename_i o' g off hc;split at hf
   ·rename_i hgen;cases hf;obtain ⟨h1,h2,h3⟩:=dJ hs hx hc (by simp);have ea:=h3 hgen.symm;refine ⟨rfl,.bool neg,?_,RD.sc _ rfl⟩;cases neg <;> simp [execOp,hop,ea,eb,hg,binOp,q]
   ·cases hf
  ·rename_i b off hc;cases hf;obtain ⟨h1,_,_⟩:=dJ hs hx hc (by simp);have ea:a.eval xo=.pointer (some ⟨W.nm b,off,none⟩):=h1;refine ⟨rfl,.bool neg,?_,RD.sc _ rfl⟩;cases neg <;> simp [execOp,hop,ea,eb,hg,binOp,q]
  ·cases hf
theorem GV [Bor] (hd:∀ d,o.dst=some d→d < n) {t e:TypeId} {ei:TypeInfo} {xo:Operand} {x:PX} {lo:Option Operand} {ho mo:Operand} {l:Option PX} {h m:PX} (hop:o.op=.slice t xo lo (some ho) (some mo)) (ht:P.underlying t=some (.slice e)) (hi':P.info? e=some ei) (hx:cX xo=some x)
 (hl:lo.map cX=l.map some) (hh:cX ho=some h) (hm:cX mo=some m):Good P n o (.slc3 ei.size x l h m) :=
 .bJ hd fun w0 S0 W s a w v ch hs hf=>by
  simp only [PO.fn] at hf;split at hf
  ·rename_i rows hr;have hrd:=jI hs hx hr;split at hf
   ·rename_i lv hv mv h1 h2 h3;split at hf
    ·rename_i hc;obtain ⟨hc1,hc3,rfl,hc4,hall⟩:=hc;cases hf;obtain ⟨A,cap,e0,hcap,hcm⟩:=hrd.len;rw [e0] at hrd;obtain ⟨kh,eh⟩:=dN hs hh h2;obtain ⟨km,em⟩:=dN hs hm h3;have hc0:0≤hv:=by omega
     have hc2:hv≤(cap:Int):=by omega
     have hmx:max hv 0=hv:=by omega
     have hir:¬ hv < hv:=by omega
     have hlen:((rows.take hv.toNat).drop lv.toNat).length=hv.toNat - lv.toNat:=by simp;omega
     have hbounds:(Instr.sliceBounds true rows.length cap (lo.map a.eval) (some (a.eval ho)) (some (a.eval mo))).run P w=.ok (lv.toNat,hv.toNat,hv.toNat) w:=by
      cases lo with
      | none =>
        cases l with
        | some _=>simp at hl
        | none =>
          simp at h1;subst h1;simp [Instr.sliceBounds,eh,em,Instr.sliceBound,asIntOf,hc0,hc2,hmx]
      | some lo' =>
        cases l with
        | none=>simp at hl
        | some lx =>
          simp at hl h1;obtain ⟨k1,e1⟩:=dN hs hl h1;have hc5:lv≤(hv.toNat:Int):=by omega
          simp [e1,Instr.sliceBounds,eh,em,Instr.sliceBound,asIntOf,hc0,hc1,hc2,hmx,hc3]
     have hres:∀ B:Option Addr,(hv.toNat=lv.toNat∨B=A.map (·.add (lv.toNat * ei.size)))→RA W s.gen s.ob w (.b (.one (.ti ((rows.take hv.toNat).drop lv.toNat)))) (.slice B (hv.toNat - lv.toNat) (hv.toNat - lv.toNat)):=fun B hB=>by
      refine ⟨RD.sub hrd hall (by omega) (by omega) (Nat.le_refl _) (by omega) hB,B,?_⟩;rw [hlen]
     by_cases hcl:hv.toNat=lv.toNat
     ·refine ⟨rfl,_,?_,hres A (.inl hcl)⟩;rw [hcl] at hbounds;simp [execOp,hop,Instr.sliceAt,Instr.slice,run_underlying ht,e0,hbounds,sizeOf,typeInfo,hi',hcl]
     ·refine ⟨rfl,_,?_,hres _ (.inr rfl)⟩;simp [execOp,hop,Instr.sliceAt,Instr.slice,run_underlying ht,e0,hbounds,sizeOf,typeInfo,hi',hcl]
    ·cases hf
   ·cases hf
  ·cases hf
theorem JY [Bor] (hd:∀ d,o.dst=some d→d < n) {t e:TypeId} {ei:TypeInfo} {xo:Operand} {x:PX} {lo hi:Option Operand} {l h:Option PX} (hop:o.op=.slice t xo lo hi none) (ht:P.underlying t=some (.slice e)) (hi':P.info? e=some ei) (hx:cX xo=some x)
 (hl:lo.map cX=l.map some) (hh:hi.map cX=h.map some):Good P n o (.slc ei.size x l h) :=
 .bJ hd fun w0 S0 W s a w v ch hs hf=>by
  simp only [PO.fn] at hf;split at hf
  ·rename_i rows hr;have hrd:=jI hs hx hr;split at hf
   ·rename_i lv hv h1 h2;split at hf
    ·rename_i hc;cases hf;obtain ⟨A,cap,vs,e0,e1,e2,e3,e4,e5,e6⟩:=hrd.flat hc.2.2.2
     -- what the operation hands back
     have hlen:((rows.take hv.toNat).drop lv.toNat).length=hv.toNat - lv.toNat:=by simp;omega
     have hres:∀ B:Option Addr,(cap=lv.toNat∨B=A.map (·.add (lv.toNat * ei.size)))→RD W.S w (.im ((rows.take hv.toNat).drop lv.toNat)) (.slice B (hv.toNat - lv.toNat) (cap - lv.toNat)):=fun B hB=>by
      by_cases hz:hv.toNat=lv.toNat
      ·have:(rows.take hv.toNat).drop lv.toNat=[]:=List.eq_nil_of_length_eq_zero (by rw [hlen];omega)
       rw [this,hz,Nat.sub_self];exact .emp B _ (by omega)
      ·have hB2:B=A.map (·.add (lv.toNat * ei.size)):=by
        rcases hB with hB | hB
        ·omega
        ·exact hB
       rcases e6 with e6 | ⟨b,o',rfl,e7⟩
       ·subst e6;simp at hc;omega
       rw [hB2,←hlen];simp only [Option.map_some,addr_add];refine RD.block (vs:=(vs.take (hv.toNat * ei.size)).drop (lv.toNat * ei.size)) (sz:=ei.size) (fun r hr=>hc.2.2.2 r (List.mem_of_mem_take (List.mem_of_mem_drop hr))) ?_ (fun j u hj=>?_) (by rw [hlen];omega) (by omega) (fun i r j x' hr hx'=>?_)
       ·have hm:hv.toNat * ei.size≤rows.length * ei.size:=Nat.mul_le_mul_right _ (by omega);rw [hlen,List.length_drop,List.length_take,e3,Nat.min_eq_left hm,Nat.sub_mul]
       ·rw [List.getElem?_drop,List.getElem?_take] at hj;split at hj
        ·have:=e7 _ _ hj;rw [←Nat.add_assoc] at this;exact this
        ·cases hj
       ·rw [List.getElem?_drop,List.getElem?_take] at hr;split at hr
        ·rename_i hlt;obtain ⟨u,h3,h4⟩:=e5 _ _ _ _ hr hx';refine ⟨u,?_,h4⟩;have hjl:=(List.getElem?_eq_some_iff.1 hx').1;rw [hc.2.2.2 r (List.mem_of_getElem? hr)] at hjl
         have hlt2:lv.toNat * ei.size+(i * ei.size+j) < hv.toNat * ei.size:=by
          calc lv.toNat * ei.size+(i * ei.size+j) < lv.toNat * ei.size+(i * ei.size+ei.size):=by omega
           _=(lv.toNat+(i+1)) * ei.size:=by rw [Nat.add_mul,Nat.add_mul,Nat.one_mul]
           _≤hv.toNat * ei.size:=Nat.mul_le_mul_right _ (by omega)
         rw [List.getElem?_drop,List.getElem?_take,if_pos hlt2,←Nat.add_assoc,←Nat.add_mul];exact h3
        ·cases hr
     have fin:∀ B,(cap=lv.toNat∨B=A.map (·.add (lv.toNat * ei.size)))→(Instr.sliceAt t (a.eval xo) (lo.map a.eval) (hi.map a.eval) none).run P w=.ok (.slice B (hv.toNat - lv.toNat) (cap - lv.toNat)) w →
      Cg.no=Cg.no∧∃ rv,(execOp a.eval o).run P w=.ok (.value rv) w∧RA W s.gen s.ob w (.b (.one (.d (.im ((rows.take hv.toNat).drop lv.toNat))))) rv:=fun B hB hrun =>
      ⟨rfl,_,by simp only [execOp,hop,Option.map_none,Sem.run_bind,hrun,Result.andThen_ok,Sem.run_pure],hres B hB⟩
     -- the bounds
     have hbounds:(Instr.sliceBounds true rows.length cap (lo.map a.eval) (hi.map a.eval) none).run P w=.ok (lv.toNat,hv.toNat,cap) w:=by
      have hc0:0≤hv:=by omega
      have hc1:0≤lv:=by omega
      have hc2:hv≤(cap:Int):=by omega
      have hc3:lv≤hv:=by omega
      have hc4:hv≤(rows.length:Int):=hc.2.2.1
      cases lo with
      | none =>
        cases l with
        | some _=>simp at hl
        | none =>
          simp at h1;subst h1
          cases hi with
          | none =>
            cases h with
            | some _=>simp at hh
            | none =>
              simp at h2;subst h2;simp [Instr.sliceBounds]
          | some ho =>
            cases h with
            | none=>simp at hh
            | some hx' =>
              simp at hh h2;obtain ⟨kk,e2⟩:=dN hs hh h2;simp [Instr.sliceBounds,e2,Instr.sliceBound,asIntOf,hc0,hc2]
      | some lo' =>
        cases l with
        | none=>simp at hl
        | some lx =>
          simp at hl h1;obtain ⟨k1,e1⟩:=dN hs hl h1
          cases hi with
          | none =>
            cases h with
            | some _=>simp at hh
            | none =>
              simp at h2;subst h2;simp [e1,Instr.sliceBounds,Instr.sliceBound,asIntOf,hc1,hc3]
          | some ho =>
            cases h with
            | none=>simp at hh
            | some hx' =>
              simp at hh h2;obtain ⟨kk,e2⟩:=dN hs hh h2;have hc5:lv≤(hv.toNat:Int):=by omega
              simp [e1,Instr.sliceBounds,e2,Instr.sliceBound,asIntOf,hc0,hc1,hc2];omega
     by_cases hcl:cap=lv.toNat
     ·refine fin A (.inl hcl) ?_;rw [hcl] at hbounds;simp [Instr.sliceAt,Instr.slice,run_underlying ht,e0,hbounds,sizeOf,typeInfo,hi',hcl]
     ·refine fin _ (.inr rfl) ?_;simp [Instr.sliceAt,Instr.slice,run_underlying ht,e0,hbounds,sizeOf,typeInfo,hi',hcl]
    ·cases hf
   ·cases hf
  ·cases hf
end
section
variable {n:Nat} {P:Program} {o:Oper}
theorem rR [Bor] {w0:World} {S0:Nat→Nat} {W:Wit} {s:St} {a:Act} {w:World} (hs:Sim w0 S0 n W s a w) {t E ln:Nat} {ei:TypeInfo} {ze:Value} {ps:Array (Nat×Operand)} {qs:List (Nat×Nat×PX)} (hop:o.op=.buildSlice t ln ps)
 (ht:P.underlying t=some (.slice E)) (hi:P.info? E=some ei) (hze:ei.zero=some ze) (hzo:∀ v ∈ ze.cells.toList,v.oneCell'=true) (hzs:ze.cells.size=ei.size) (hsz:0 < ei.size) (hln:ln * ei.size≤16777216)
 (hl:ps.toList.length=qs.length) (hpl:∀ (j:Nat) i xo off k x,ps.toList[j]? = some (i,xo)→qs[j]? = some (off,k,x)→(some (i * ei.size,ei.size):Option (Nat×Nat))=some (off,k)∧cX xo=some x)
 {rs:List (Nat×List Cl)} {cs:List Cl} {xs:List Dt} (hrs:s.parts qs=some rs) (hcs:dS (((Array.range (ln * ei.size)).map (ze.cells[· % ze.cells.size]!)).toList.map fun v=>.d (.sc v)) rs=some cs) (hxs:aC (cs.map Cl.dt)=some xs) :
 ∃ (cells:Array Value) (rows:List (List Dt)),chunks ln ei.size xs=rows∧cells.size=ln * ei.size∧ln≤16777216∧rows.length=ln∧(∀ r,r ∈ rows→r.length=ei.size) ∧
   (∀ i r j x,rows[i]? = some r→r[j]? = some x→∃ u,cells.toList[i * ei.size+j]? = some u∧RD W.S w x u)∧(execOp a.eval o).run P w=.ok (.value (.slice (some ⟨w.heap.size,0,none⟩) ln ln)) (w.alloc (.cells cells E)):=by
 obtain ⟨z,hz⟩:∃ z,(Array.range (ln * ei.size)).map (ze.cells[· % ze.cells.size]!)=z:=⟨_,rfl⟩
 rw [hz] at hcs
 have hzone:∀ v ∈ z.toList,v.oneCell'=true:=by
  intro v hv;rw [←hz] at hv;simp only [Array.toList_map,List.mem_map] at hv;obtain ⟨k,_,rfl⟩:=hv;have hlt:k % ze.cells.size < ze.cells.size:=Nat.mod_lt _ (by omega);rw [getElem!_pos ze.cells _ hlt];exact hzo _ (by simp)
 have hzlen:z.size=ln * ei.size:=by rw [←hz];simp
 rw [nH]
 have hz0:RCs W s.gen s.ob w (z.toList.map fun v=>Cl.d (.sc v)) z.toList:=⟨by simp,fun i c u h1 h2=>by
  simp only [List.getElem?_map,h2,Option.map_some,Option.some.injEq] at h1;subst h1;exact RD.sc _ (hzone u (List.mem_of_getElem? h2))⟩
 obtain ⟨cells,h1,h2⟩:=yG hs (place:=fun i=>some (i * ei.size,ei.size)) ps.toList qs rs _ cs z hl hpl hrs hcs hz0
 have hclen:cells.size=ln * ei.size:=by
  -- the cells keep their number
  have key:∀ (rs:List (Nat×List Cl)) (c0 c1:List Cl),dS c0 rs=some c1→c1.length=c0.length:=by
   intro rs
   induction rs with
   | nil=>intro c0 c1 h;simp [dS] at h;subst h;rfl
   | cons p rs ih =>
     intro c0 c1 h;obtain ⟨off,nw⟩:=p;simp only [dS] at h;split at h
     ·rename_i hle;rw [ih _ _ h];exact kK c0 off nw hle
     ·cases h
  have h3:=key _ _ _ hcs;have h4:=h2.1;simp only [List.length_map,Array.length_toList] at h3 h4;omega
 have hxl:xs.length=ln * ei.size:=by
  have:=congrArg List.length (eF _ _ hxs);have h4:=h2.1;simp at this h4;omega
 have hxr:∀ (j:Nat) x,xs[j]? = some x→∃ u,cells.toList[j]? = some u∧RD W.S w x u:=fun j x hj=>by
  have h3:=congrArg (·[j]?) (eF _ _ hxs);simp only [List.getElem?_map,hj,Option.map_some] at h3
  cases hc:cs[j]? with
  | none=>rw [hc] at h3;simp at h3
  | some c =>
    rw [hc] at h3;simp at h3;have hlt:j < cells.toList.length:=by rw [←h2.1];exact (List.getElem?_eq_some_iff.1 hc).1
    refine ⟨cells.toList[j],List.getElem?_eq_getElem hlt,RC.dt (h2.2 j c _ hc (List.getElem?_eq_getElem hlt)) h3⟩
 obtain ⟨rows,hrows⟩:∃ rows,(List.range ln).map (fun i=>(xs.drop (i * ei.size)).take ei.size)=rows:=⟨_,rfl⟩
 rw [hrows];have hrl:rows.length=ln:=by rw [←hrows];simp
 have hlnm:ln≤16777216:=Nat.le_trans (Nat.le_mul_of_pos_right ln hsz) hln
 have hrsz:∀ r,r ∈ rows→r.length=ei.size:=by
  intro r hr;rw [←hrows] at hr;simp only [List.mem_map,List.mem_range] at hr;obtain ⟨i,hi2,rfl⟩:=hr;have:(i+1) * ei.size≤ln * ei.size:=Nat.mul_le_mul_right _ hi2;rw [Nat.add_mul,Nat.one_mul] at this;simp [hxl];omega
 refine ⟨cells,rows,rfl,hclen,hlnm,hrl,hrsz,fun i r j x hr hx=>?_,?_⟩
 ·have hil:=(List.getElem?_eq_some_iff.1 hr).1;rw [hrl] at hil;rw [←hrows,List.getElem?_map,List.getElem?_range hil] at hr;simp only [Option.map_some,Option.some.injEq] at hr;subst hr;rw [List.getElem?_take] at hx;split at hx
  ·rw [List.getElem?_drop] at hx;exact hxr _ _ hx
  ·cases hx
 ·have hfill:Instr.fill (fun i=>some (i * ei.size,ei.size)) z (ps.toList.map fun p=>(p.1,a.eval p.2))=some cells:=h1;have hmap:(ps.map fun (i,x)=>(i,a.eval x)).toList=ps.toList.map fun p=>(p.1,a.eval p.2):=by simp
  have h24:¬ (16777216 < ln * ei.size):=by omega
  by_cases h0:ln * ei.size=0
  ·have hz0':z=#[]:=by
    apply Array.eq_empty_of_size_eq_zero;rw [hzlen,h0]
   have hln0:ln=0:=by
    rcases Nat.mul_eq_zero.1 h0 with h | h
    ·exact h
    ·omega
   subst hln0;rw [hz0'] at hfill;have hr0:∀ f:Nat→Value,Array.map f (Array.range 0)=#[]:=fun f=>by simp
   simp only [execOp,hop,Instr.buildSlice,run_underlying ht,sizeOf,typeInfo,Sem.run_bind,Result.andThen_ok];simp [hi,hr0,hfill,newRow]
  ·have hz':(Array.range (ln * ei.size)).map (fun k=>ze.cells[k % ze.cells.size]!)=z:=hz;simp only [execOp,hop,Instr.buildSlice,run_underlying ht,sizeOf,typeInfo,zeroValue,Sem.run_bind,Result.andThen_ok];simp [hi,hze,hz',hfill,newRow,h24,h0]
theorem zY [Bor] {d:Nat} (ho:o.dst=some d) (hd:d < n) {t E ln:Nat} {ei:TypeInfo} {ze:Value} {ps:Array (Nat×Operand)} {qs:List (Nat×Nat×PX)} (hop:o.op=.buildSlice t ln ps)
 (ht:P.underlying t=some (.slice E)) (hi:P.info? E=some ei) (hze:ei.zero=some ze) (hzo:∀ v ∈ ze.cells.toList,v.oneCell'=true) (hzs:ze.cells.size=ei.size) (hsz:0 < ei.size) (hln:ln * ei.size≤16777216)
 (hl:ps.toList.length=qs.length) (hpl:∀ (j:Nat) i xo off k x,ps.toList[j]? = some (i,xo)→qs[j]? = some (off,k,x)→(some (i * ei.size,ei.size):Option (Nat×Nat))=some (off,k)∧cX xo=some x) :
 Good P n o (.bslice E ei.size ((Array.range (ln * ei.size)).map (ze.cells[· % ze.cells.size]!)).toList ln qs):=by
 intro w0 S0 W s a w v ch hs hf;simp only [PO.fn,Option.bind_eq_some_iff,Option.map_eq_some_iff,Prod.mk.injEq,ho,Option.getD_some] at hf;obtain ⟨rs,hrs,cs,hcs,xs,hxs,rfl,rfl⟩:=hf;obtain ⟨cells,rows,hch,hclen,hlnm,hrl,hrsz,hxr,hrun⟩:=rR hs hop ht hi hze hzo hzs hsz hln hl hpl hrs hcs hxs;rw [hch,ho];refine ⟨_,.slice (some ⟨w.heap.size,0,none⟩) ln ln,w.alloc (.cells cells E),.inl hrun,hs.new hd (.slice (some ⟨w.heap.size,0,none⟩) ln ln) (ln * ei.size) ⟨fun b hb=>iK w _ b hb,by simp,rfl,rfl,rfl⟩ ?_ ?_ ?_⟩
 ·-- what is read
  refine ⟨?_,by rw [ay,if_pos rfl];exact Nat.le_refl _,fun _ E' sz' n' h=>?_⟩
  ·have hext:Ext W.S (up W.S w.heap.size (ln * ei.size)) w (w.alloc (.cells cells E)):=fun b i h1 h2=>by
    have hlt:b < w.heap.size:=by
     cases hcell:w.cell? ⟨b,i,none⟩ with
     | none=>rw [hcell] at h2;cases h2
     | some y =>
       rcases Nat.lt_or_ge b w.heap.size with h | h
       ·exact h
       ·simp [World.cell?,Array.getElem?_eq_none h] at hcell
    refine ⟨?_,by simp [World.cell?,iK w _ b hlt]⟩;rw [ay,if_neg (by omega)];exact h1
   have hR:RD (up W.S w.heap.size (ln * ei.size)) (w.alloc (.cells cells E)) (.im rows) (.slice (some ⟨w.heap.size,0,none⟩) rows.length ln):=by
    refine RD.block (vs:=cells.toList) (sz:=ei.size) hrsz (by rw [hrl];simpa using hclen) (fun j u hj=>⟨?_,?_⟩) (by omega) (by unfold maxLen;omega) (fun i r j x hr hx=>?_)
    ·simp only [World.cell?,heap_alloc_new,Nat.zero_add]
     simpa using hj
    ·show 0+j < up W.S w.heap.size (ln * ei.size) w.heap.size
     rw [ay,if_pos rfl];have:=(List.getElem?_eq_some_iff.1 hj).1;simp at this;omega
    ·obtain ⟨u,h3,h4⟩:=hxr i r j x hr hx;exact ⟨u,h3,RD.ext hext h4⟩
   rw [hrl] at hR;exact hR
  ·rw [ay,if_pos rfl] at h;cases h;refine ⟨hrsz,by omega,fun _=>?_⟩
   show _=up W.val d (.slice (some ⟨w.heap.size,0,none⟩) ln ln) d
   rw [ay,if_pos rfl]
 ·refine ⟨cells.toList,?_,?_⟩
  ·show bI (w.alloc _) _ _ _ (up W.val d (.slice (some ⟨w.heap.size,0,none⟩) ln ln) d) _ _
   rw [ay,if_pos rfl];exact ⟨by simpa using hclen,.inr ⟨w.heap.size,ln,cells,(0,0),rfl,hs.below.size,heap_alloc_new w _,Nat.le_refl _,by unfold maxLen;omega,hclen,by rw [List.take_of_length_le];simp [hclen],.inl rfl⟩⟩
  ·intro g hg;have h2:(up W.val d (.slice (some ⟨w.heap.size,0,none⟩) ln ln) d).ownBlock=some g:=hg;rw [ay,if_pos rfl] at h2;have h3:w.heap.size=g:=by simpa [Value.ownBlock] using h2
   subst h3
   show up W.S w.heap.size (ln * ei.size) w.heap.size≤_
   rw [ay,if_pos rfl];exact Nat.le_refl _
 ·intro b hb;have h2:(up W.val d (.slice (some ⟨w.heap.size,0,none⟩) ln ln) d).ownBlock=some b:=hb;rw [ay,if_pos rfl] at h2;have h3:w.heap.size=b:=by simpa [Value.ownBlock] using h2
  omega
theorem Sim.grow [Bor] {w0:World} {S0:Nat→Nat} {W:Wit} {s:St} {a:Act} {w:World} (hs:Sim w0 S0 n W s a w) {d:Nat} (hd:d < n) {o' E sz k m:Nat} (hob:s.ob o'=.row E sz k) (hm:0 < m)
 {w':World} {h cap:Nat} {cur:Array Value} {xs:List Value} {rows:List (List Dt)} (hlen:rows.length=k+m) (hsz:∀ r,r ∈ rows→r.length=sz)
 (hw:(∀ b,b < w.heap.size→b≠h→w'.heap[b]? = w.heap[b]?)∧w.heap.size≤w'.heap.size∧w'.os=w.os∧w'.tape=w.tape∧w'.output=w.output)
 {fz:Nat×Nat} (hfz:Free cur fz) (hrow:w'.heap[h]? = some (.cells cur E fz)) (hbase:w0.heap.size≤h) (hc1:k+m≤cap) (hc2:cap≤maxLen) (hc3:cur.size=cap * sz) (hxl:xs.length=(k+m) * sz) (hc4:cur.toList.take ((k+m) * sz)=xs)
 (hh:h=w.heap.size∨((W.val o').ownBlock=some h∧∀ i,i < k * sz→w'.cell? ⟨h,i,none⟩=w.cell? ⟨h,i,none⟩))
 (hrd:∀ i r j x,rows[i]? = some r→r[j]? = some x→∃ u,xs[i * sz+j]? = some u∧RD W.S w x u) :
 Sim w0 S0 n { W with val:=up W.val o' (.slice (some ⟨h,0,none⟩) (k+m) cap),S:=up W.S h ((k+m) * sz) } (s.ap (some d) (.b (.one (.own o' (s.gen o') rows))) (.row o' (k+m)))
  (a.put (some d) (.slice (some ⟨h,0,none⟩) (k+m) cap)) w':=by
 obtain ⟨ys,hys,hyS⟩:∃ ys,bI w w0.heap.size E sz (W.val o') k ys∧∀ g,(W.val o').ownBlock=some g→W.S g≤k * sz:=by
  have:=hs.ob o';rw [hob] at this;exact this
 have hap:(s.ap (some d) (.b (.one (.own o' (s.gen o') rows))) (.row o' (k+m))).ob=up s.ob o' (.row E sz (k+m)):=by
  show up s.ob o' _=_
  rw [hob]
 have hlt:∀ b i,(w.cell? ⟨b,i,none⟩).isSome=true→b < w.heap.size:=fun b i h2=>by
  cases hcell:w.cell? ⟨b,i,none⟩ with
  | none=>rw [hcell] at h2;cases h2
  | some y =>
    rcases Nat.lt_or_ge b w.heap.size with h | h
    ·exact h
    ·simp [World.cell?,Array.getElem?_eq_none h] at hcell
 have hext:Ext W.S (up W.S h ((k+m) * sz)) w w':=fun b i h1 h2=>by
  by_cases hb:b=h
  ·subst hb
   rcases hh with hh | ⟨hh1,hh2⟩
   ·have:=hlt _ _ h2;omega
   ·have:=hyS _ hh1;refine ⟨?_,hh2 i (by omega)⟩;rw [ay,if_pos rfl,Nat.add_mul];omega
  ·refine ⟨by rw [ay,if_neg hb];exact h1,?_⟩
   simp [World.cell?,hw.1 b (hlt _ _ h2) hb]
 have hfol:Fol W s.gen s.ob w { W with val:=up W.val o' (.slice (some ⟨h,0,none⟩) (k+m) cap),S:=up W.S h ((k+m) * sz) } s.gen (up s.ob o' (.row E sz (k+m))) w':=by
  refine ⟨hext,fun _=>Nat.le_refl _,fun _ _=>rfl,fun o2 E2 sz2 n2 _ ho2=>?_,fun _ _=>rfl,fun _ h=>⟨h,rfl,rfl⟩,rfl⟩;rw [ay] at ho2;split at ho2
  ·rename_i he;cases ho2;exact ⟨k,by rw [he];exact hob,by omega,fun hk=>by omega⟩
  ·rename_i he;refine ⟨n2,ho2,Nat.le_refl _,fun _=>?_⟩
   show up W.val o' _ o2=_
   rw [ay,if_neg he]
 refine hs.step (fun d' h=>by cases h;exact hd) (by rw [hap];exact hfol) ⟨hw.2.2.1,hw.2.2.2.1,hw.2.2.2.2,hw.2.1,fun b hb _=>hw.1 b (Nat.lt_of_lt_of_le hb hs.below.size) (by omega)⟩ (fun b hb=>?_) ?_ (fun o2=>?_) (fun o1 o2 b c1 c2=>?_) (fun b=>(hs.lv b).trans (by rw [o8 (o:=o') (fun p hp=>by rw [hap,ay,if_neg hp]) (.inr ⟨by rw [hob];rfl,by rw [hap,ay,if_pos rfl];rfl⟩)]))
 ·show up W.S h _ b=_
  rw [ay,if_neg (by omega)]
 ·rw [hap];refine ⟨?_,Nat.le_refl _,fun _ E2 sz2 n2 ho2=>?_⟩
  ·have hR:RD (up W.S h ((k+m) * sz)) w' (.im rows) (.slice (some ⟨h,0,none⟩) rows.length cap):=by
    refine RD.block (vs:=xs) hsz (by rw [hxl,hlen]) (fun j u hj=>⟨?_,?_⟩) (by omega) hc2 (fun i r j x hr hx=>?_)
    ·rw [←hc4,List.getElem?_take] at hj;split at hj
     ·simp only [World.cell?,hrow,Nat.zero_add]
      simpa using hj
     ·cases hj
    ·show 0+j < up W.S h _ h
     rw [ay,if_pos rfl];have:=(List.getElem?_eq_some_iff.1 hj).1;omega
    ·obtain ⟨u,h3,h4⟩:=hrd i r j x hr hx;exact ⟨u,h3,RD.ext hext h4⟩
   rw [hlen] at hR;exact hR
  ·rw [ay,if_pos rfl] at ho2;cases ho2;refine ⟨hsz,by omega,fun _=>?_⟩
   show _=up W.val o' _ o'
   rw [ay,if_pos rfl]
 ·rw [hap]
  by_cases he:o2=o'
  ·subst he;rw [ay,if_pos rfl];refine ⟨xs,?_,fun g hg=>?_⟩
   ·show bI w' _ _ _ (up W.val o2 _ o2) _ _
    rw [ay,if_pos rfl];exact ⟨hxl,.inr ⟨h,cap,cur,fz,rfl,hbase,hrow,hc1,hc2,hc3,hc4,hfz⟩⟩
   ·have h2:(up W.val o2 (.slice (some ⟨h,0,none⟩) (k+m) cap) o2).ownBlock=some g:=hg;rw [ay,if_pos rfl] at h2;have h3:h=g:=by simpa [Value.ownBlock] using h2
    subst h3
    show up W.S h _ h≤_
    rw [ay,if_pos rfl];exact Nat.le_refl _
  ·rw [ay,if_neg he];refine RO.fol hfol (hs.ob o2) rfl (by show up W.val o' _ o2=_;rw [ay,if_neg he]) rfl (fun _ _=>rfl) (fun b hb=>?_)
   have hbh:b≠h:=by
    rintro rfl
    rcases hh with hh | ⟨hh1,_⟩
    ·have:=(gX hs hb).2;omega
    ·exact he (hs.ex _ _ _ hb (by rw [hob];exact hh1))
   exact ⟨hw.1 b (gX hs hb).2 hbh,by show up W.S h _ b=_;rw [ay,if_neg hbh]⟩
 ·have claim:∀ o3 b,cl { W with val:=up W.val o' (.slice (some ⟨h,0,none⟩) (k+m) cap),S:=up W.S h ((k+m) * sz) } o3 ((s.ap (some d) (.b (.one (.own o' (s.gen o') rows))) (.row o' (k+m))).ob o3) b→(o3=o'∧b=h)∨(o3≠o'∧b≠h∧cl W o3 (s.ob o3) b):=fun o3 b hb=>by
   rw [hap,ay] at hb;split at hb
   ·rename_i he;subst he;have h2:(up W.val o3 (.slice (some ⟨h,0,none⟩) (k+m) cap) o3).ownBlock=some b:=hb;rw [ay,if_pos rfl] at h2;have h3:h=b:=by simpa [Value.ownBlock] using h2
    exact .inl ⟨rfl,h3.symm⟩
   ·rename_i he
    have hb':cl W o3 (s.ob o3) b:=by
     generalize s.ob o3=y at hb ⊢
     cases y with
     | no=>exact hb
     | cells cs=>exact hb
     | row E sz m=>have h2:(up W.val o' _ o3).ownBlock=some b:=hb;rw [ay,if_neg he] at h2;exact h2
     | ab H=>exact hb
     | hp f=>exact hb
    refine .inr ⟨he,?_,hb'⟩;rintro rfl
    rcases hh with hh | ⟨hh1,_⟩
    ·have:=(gX hs hb').2;omega
    ·exact he (hs.ex _ _ _ hb' (by rw [hob];exact hh1))
  rcases claim o1 b c1 with ⟨h1,h2⟩ | ⟨h1,h2,h3⟩ <;> rcases claim o2 b c2 with ⟨k1,k2⟩ | ⟨k1,k2,k3⟩
  ·rw [h1,k1]
  ·exact absurd h2 k2
  ·exact absurd k2 h2
  ·exact hs.ex _ _ _ h3 k3
theorem Sim.reRow [Bor] {w0:World} {S0:Nat→Nat} {W:Wit} {s:St} {a:Act} {w w':World} (hs:Sim w0 S0 n W s a w) {g:Nat} (hg:w.grownBy w' (some g)) (hc:∀ p:Addr,(w.cell? p).isSome=true→w'.cell? p=w.cell? p) (hB:g < w0.heap.size→Bor.fp g)
 (hro:∀ o,cl W o (s.ob o) g→RO w0.heap.size W s.gen s.ob w' o (s.ob o)):Sim w0 S0 n W s a w':=by
 have hfol:Fol W s.gen s.ob w W s.gen s.ob w':=⟨fun b i h1 h2=>⟨h1,hc _ h2⟩,fun _=>Nat.le_refl _,fun _ _=>rfl,fun o E sz k _ ho=>⟨k,ho,Nat.le_refl _,fun _=>rfl⟩,fun _ _=>rfl,fun _ h=>⟨h,rfl,rfl⟩,rfl⟩;refine ⟨hs.below.trans ⟨hg.os,hg.tape,hg.output,hg.size,fun k hk hf=>hg.block k (Nat.lt_of_lt_of_le hk hs.below.size) (fun e=>hf (by cases e;exact hB hk))⟩,hs.s0,hs.len,hs.dfs,fun x=>RA.fol hfol (hs.sl x),fun o=>?_,hs.ex,hs.bk,hs.nc,hs.lv,hs.small,hs.nm0⟩
 by_cases h:cl W o (s.ob o) g
 ·exact hro o h
 ·exact RO.fol hfol (hs.ob o) rfl rfl rfl (fun _ _=>rfl) (fun b hb=>⟨hg.block b (gX hs hb).2 (fun e=>h (by cases e;exact hb)),rfl⟩)
theorem JZ [Bor] (hd:∀ d,o.dst=some d→d < n) {t e:Nat} {xo:Operand} {x:PX} (hop:o.op=.convert t t xo) (ht:P.underlying t=some (.slice e)) (he:P.underlying e=some (.int .u8)) (hx:cX xo=some x):Good P n o (.stm x):=by
 intro w0 S0 W s a w v ch hs hf;simp only [PO.fn] at hf;split at hf
 ·rename_i o' g rows heq;split at hf
  ·rename_i hg;subst hg;split at hf
   ·rename_i E sz k hob;split at hf
    ·rename_i hcond;obtain ⟨rfl,hpos⟩:=hcond;cases hf;obtain ⟨hrd,q1,hown⟩:=dJ hs hx heq (by simp);obtain ⟨hrsz,_,hval⟩:=hown rfl E sz _ hob;have hval:=hval rfl;have hro:=hs.ob o';rw [hob] at hro;obtain ⟨xs,hxs,hxS⟩:∃ ys,bI w w0.heap.size E sz (W.val o') rows.length ys∧∀ g,(W.val o').ownBlock=some g→W.S g≤rows.length * sz:=hro
     obtain ⟨b,cap,cur,fz,e1,e2,e3,e4,e5,e6,e7,e8⟩:=oJ hxs hpos;obtain ⟨w',r1,r2,r3,r4⟩:=run_mark (P:=P) w t e E ht he (n:=rows.length) (c:=cap) e3 e8;have hcl:cl W o' (s.ob o') b:=by rw [hob];show (W.val o').ownBlock=some b;rw [e1];rfl
     have hs':Sim w0 S0 n W s a w':=hs.reRow r3 (fun p _=>r4 p) (fun h=>by omega) (fun o2 h2=>by
      have:=hs.ex _ _ _ h2 hcl;subst this;rw [hob];exact ⟨xs,⟨hxs.1,.inr ⟨b,cap,cur,_,e1,e2,r2,e4,e5,e6,e7,.inr rfl⟩⟩,hxS⟩)
     refine ⟨W,a.eval xo,w',.inl ?_,hs'.put hd (by
      have:=hs'.ev;exact dJ hs' hx heq (by simp))⟩
     simp only [execOp,hop,hval,e1,Sem.run_bind,r1,Result.andThen_ok,Sem.run_pure]
    ·cases hf
   ·cases hf
  ·cases hf
 ·rename_i b heq;split at hf
  ·rename_i E sz rows hvec;split at hf
   ·rename_i hpos;cases hf;obtain ⟨h1,h2,h3⟩:=dJ hs hx heq (by simp);have h1':a.eval xo=W.nv b:=h1;obtain ⟨f,q1,q2,q3,q4⟩:=IK hs hvec (by simp);obtain ⟨⟨xs,g1,g2,g3,g4⟩,_⟩:=qm hs hvec;obtain ⟨k,cap,cur,fz,e1,e2,e3,e4,e5,e6,e7,e8⟩:=oJ g1 hpos;obtain ⟨w',r1,r2,r3,r4⟩:=run_mark (P:=P) w t e E ht he (n:=rows.length) (c:=cap) e3 e8;have hhc:hcl W b (f b) k:=by rw [q2];show (W.nv b).ownBlock=some k;rw [e1];rfl
    have hcl:cl W (HBS+s.nc b) (s.ob (HBS+s.nc b)) k:=by rw [q1];exact ⟨b,hhc⟩
    have hfol:Fol W s.gen s.ob w W s.gen s.ob w':=⟨fun b i h1 _=>⟨h1,r4 _⟩,fun _=>Nat.le_refl _,fun _ _=>rfl,fun o E sz k _ ho=>⟨k,ho,Nat.le_refl _,fun _=>rfl⟩,fun _ _=>rfl,fun _ h=>⟨h,rfl,rfl⟩,rfl⟩
    have hs':Sim w0 S0 n W s a w':=hs.reRow r3 (fun p _=>r4 p) (fun h=>((q3.mine b k hhc).1).resolve_left (by omega)) (fun o2 h2'=>by
     have:=hs.ex _ _ _ h2' hcl;subst this;rw [q1];refine ⟨q3.nc,q3.lv,fun m j hm=>⟨(q3.mine m j hm).1,(q3.mine m j hm).2.1,Nat.lt_of_lt_of_le (q3.mine m j hm).2.2 r3.size⟩,fun m=>?_,q3.ex⟩
     by_cases hmb:m=b
     ·subst hmb;rw [q2];refine ⟨xs,⟨g1.1,.inr ⟨k,cap,cur,_,e1,e2,r2,e4,e5,e6,e7,.inr rfl⟩⟩,g2,fun i r j x p1 p2=>?_,g4⟩;obtain ⟨u,p3,p4⟩:=g3 i r j x p1 p2;exact ⟨u,p3,RD.ext hfol.ext p4⟩
     ·by_cases hn:f m=.no
      ·rw [hn];trivial
      ·exact RH.fol hfol (q3.at_ m) (fun _=>q3.lv m hn) rfl (fun j hj=>r3.block j (q3.mine m j hj).2.2 (fun e=>hmb (q3.ex m b k (by cases e;exact hj) hhc))))
    refine ⟨W,a.eval xo,w',.inl ?_,hs'.put hd (dJ hs' hx heq (by simp))⟩;simp only [execOp,hop,h1',e1,Sem.run_bind,r1,Result.andThen_ok,Sem.run_pure]
   ·cases hf
  ·cases hf
 ·cases hf
theorem jf {t E:Nat} {ei:TypeInfo} (ht:P.underlying t=some (.slice E)) (hi:P.info? E=some ei) (ty:TypeId) (A B:Option Addr) (len cap c:Nat) (hle:len≤cap) (w:World) :
 (Builtin.append_ #[t,t] ty #[.slice A len cap,.slice B 0 c]).run P w=.ok (.slice A len cap) w:=by
 cases A <;> cases B <;> simp [Builtin.append_,run_underlying ht,sizeOf,typeInfo,hi,Builtin.lenOf,hle,Builtin.firstCells,loadCells,loadCellsFrom,storeCells]
theorem Sim.Ni [Bor] {w0:World} {S0:Nat→Nat} {W:Wit} {s:St} {a:Act} {w:World} (hs:Sim w0 S0 n W s a w) {S':Nat→Nat} {w':World} (hb:Below w.heap.size w w') (hS:∀ b,b < w.heap.size→S' b=W.S b) {dst:Option Nat} (hd:∀ d,dst=some d→d < n) {v:Av} {rv:Value}
 (hv:RA { W with S:=S' } s.gen s.ob w' v rv):Sim w0 S0 n { W with S:=S' } (s.ap dst v .no) (a.put dst rv) w':=by
 have hfol:Fol W s.gen s.ob w { W with S:=S' } s.gen s.ob w':=by
  refine ⟨fun b i h1 h2=>?_,fun _=>Nat.le_refl _,fun _ _=>rfl,fun o E sz k _ ho=>⟨k,ho,Nat.le_refl _,fun _=>rfl⟩,fun _ _=>rfl,fun _ h=>⟨h,rfl,rfl⟩,rfl⟩
  have hlt:b < w.heap.size:=by
   cases hcell:w.cell? ⟨b,i,none⟩ with
   | none=>rw [hcell] at h2;cases h2
   | some y =>
     rcases Nat.lt_or_ge b w.heap.size with h | h
     ·exact h
     ·simp [World.cell?,Array.getElem?_eq_none h] at hcell
  exact ⟨by show i < S' b;rw [hS b hlt];exact h1,by simp [World.cell?,hb.block b hlt]⟩
 refine hs.step hd hfol (.of (hb.mono hs.below.size)) (fun b hb2=>hS b (Nat.lt_of_lt_of_le hb2 hs.below.size)) hv (fun o=>?_) hs.ex hs.lv;exact RO.fol hfol (hs.ob o) rfl rfl rfl (fun _ _=>rfl) (fun b hb2=>⟨hb.block b (gX hs hb2).2,hS b (gX hs hb2).2⟩)
theorem FX {t E:Nat} {ei:TypeInfo} {ze:Value} (ht:P.underlying t=some (.slice E)) (hi:P.info? E=some ei) (hze:ei.zero=some ze) (hzs:ze.cells.size=ei.size) (hsz:0 < ei.size) {S:Nat→Nat} {w:World} {rows news:List (List Dt)} {A:Option Addr} {v:Value} (ty:TypeId)
 (hx:RD S w (.im rows) (.slice A rows.length rows.length)) (hy:RD S w (.im news) v) (h1:∀ r,r ∈ rows→r.length=ei.size) (h2:∀ r,r ∈ news→r.length=ei.size) (hbd:rows.length+news.length≤1000000) (hby:ei.bytes≤1000000) :
 ∃ S' rv w',(Builtin.append_ #[t,t] ty #[.slice A rows.length rows.length,v]).run P w=.ok rv w'∧RD S' w' (.im (rows ++ news)) rv∧Below w.heap.size w w'∧∀ b,b < w.heap.size→S' b=S b:=by
 obtain ⟨B,cap2,vs,e0,e1,e2,e3,e4,e5,e6⟩:=hy.flat h2;subst e0
 by_cases hm:news.length=0
 ·have hn0:news=[]:=List.eq_nil_of_length_eq_zero hm;subst hn0;refine ⟨S,_,w,jf ht hi _ _ _ _ _ _ (Nat.le_refl _) w,by rw [List.append_nil];exact hx,Below.refl _ _,fun _ _=>rfl⟩
 ·have hm0:0 < news.length:=Nat.pos_of_ne_zero hm;obtain ⟨A',cap',xs,f0,f1,f2,f3,f4,f5,f6⟩:=hx.flat h1;simp only [Value.slice.injEq] at f0;obtain ⟨rfl,_,rfl⟩:=f0
  obtain ⟨b,off,rfl,e7⟩:∃ b o,B=some ⟨b,o,none⟩∧∀ j u,vs[j]? = some u→w.cell? ⟨b,o+j,none⟩=some u∧o+j < S b:=by
   rcases e6 with e6 | e6
   ·rw [e6] at hm0;simp at hm0
   ·exact e6
  have hnv:∀ (j:Nat) u,vs[j]? = some u→w.cell? ((⟨b,off,none⟩:Addr).add j)=some u:=fun j u hj=>by rw [addr_add];exact (e7 j u hj).1
  have hbytes:(rows.length+news.length) * ei.bytes≤1000000 * 1000000:=Nat.mul_le_mul hbd hby;have h63:rows.length+news.length≤maxLen:=by unfold maxLen;omega
  have hall:∀ r,r ∈ rows ++ news→r.length=ei.size:=fun r hr=>by
   rcases List.mem_append.1 hr with h | h
   ·exact h1 r h
   ·exact h2 r h
  have hxl:(xs ++ vs).length=(rows.length+news.length) * ei.size:=by rw [List.length_append,f3,e3,Nat.add_mul]
  have hboth:∀ (i:Nat) r (j:Nat) x,(rows ++ news)[i]? = some r→r[j]? = some x→∃ u,(xs ++ vs)[i * ei.size+j]? = some u∧RD S w x u:=fun i r j x hr hx'=>by
   have hjl:=(List.getElem?_eq_some_iff.1 hx').1;rw [hall r (List.mem_of_getElem? hr)] at hjl
   by_cases hi:i < rows.length
   ·rw [List.getElem?_append_left hi] at hr;obtain ⟨u,k1,k2⟩:=f5 i r j x hr hx';exact ⟨u,by rw [List.getElem?_append_left (List.getElem?_eq_some_iff.1 k1).1];exact k1,k2⟩
   ·rw [List.getElem?_append_right (by omega)] at hr;obtain ⟨u,k1,k2⟩:=e5 _ r j x hr hx';refine ⟨u,?_,k2⟩
    have hge:xs.length≤i * ei.size+j:=by
     rw [f3];exact Nat.le_trans (Nat.mul_le_mul_right _ (by omega)) (Nat.le_add_right _ _)
    rw [List.getElem?_append_right hge,f3,show i * ei.size+j - rows.length * ei.size=(i - rows.length) * ei.size+j by
     rw [Nat.sub_mul];have:rows.length * ei.size≤i * ei.size:=Nat.mul_le_mul_right _ (by omega);omega]
    exact k1
  have fresh:∀ (cells:Array Value) (cap:Nat) (w1:World),cells.toList.take ((rows.length+news.length) * ei.size)=xs ++ vs→rows.length+news.length≤cap→cap≤maxLen→w1.heap=w.heap→w1.os=w.os→w1.tape=w.tape→w1.output=w.output →
   RD (up S w.heap.size ((rows.length+news.length) * ei.size)) (w1.alloc (.cells cells E)) (.im (rows ++ news)) (.slice (some ⟨w.heap.size,0,none⟩) (rows.length+news.length) cap)∧Below w.heap.size w (w1.alloc (.cells cells E))∧∀ b,b < w.heap.size→up S w.heap.size ((rows.length+news.length) * ei.size) b=S b:=fun cells cap w1 hcell hc1 hc2 hh ho ht' hout=>by
   have hold:∀ b,b < w.heap.size→(w1.alloc (.cells cells E)).heap[b]? = w.heap[b]?:=fun b hb=>by rw [iK w1 _ b (by rw [hh];exact hb),hh]
   have hnew:(w1.alloc (.cells cells E)).heap[w.heap.size]? = some (.cells cells E (0,0)):=by
    have:=heap_alloc_new w1 (.cells cells E);rw [hh] at this;exact this
   have hlt:∀ b i,(w.cell? ⟨b,i,none⟩).isSome=true→b < w.heap.size:=fun b i h2=>by
    cases hcell:w.cell? ⟨b,i,none⟩ with
    | none=>rw [hcell] at h2;cases h2
    | some y =>
      rcases Nat.lt_or_ge b w.heap.size with h | h
      ·exact h
      ·simp [World.cell?,Array.getElem?_eq_none h] at hcell
   have hext:Ext S (up S w.heap.size ((rows.length+news.length) * ei.size)) w (w1.alloc (.cells cells E)):=fun b i k1 k2=>by
    have:=hlt b i k2;refine ⟨by rw [ay,if_neg (by omega)];exact k1,by simp [World.cell?,hold b this]⟩
   refine ⟨?_,⟨ho,ht',hout,by show w.heap.size≤(w1.heap.push _).size;rw [Array.size_push,hh];omega,hold⟩,fun b hb=>by rw [ay,if_neg (by omega)]⟩
   have:=RD.block (S:=up S w.heap.size ((rows.length+news.length) * ei.size)) (w:=w1.alloc (.cells cells E)) (rows:=rows ++ news) (b:=w.heap.size) (o:=0) (cap:=cap) (sz:=ei.size) (vs:=xs ++ vs) hall (by rw [hxl,List.length_append]) (fun j u hj=>⟨?_,?_⟩) (by rw [List.length_append];exact hc1) hc2 (fun i r j x hr hx'=>?_)
   ·rw [List.length_append] at this;exact this
   ·rw [←hcell,List.getElem?_take] at hj;split at hj
    ·simp only [World.cell?,hnew,Nat.zero_add]
     simpa using hj
    ·cases hj
   ·rw [ay,if_pos rfl];have:=(List.getElem?_eq_some_iff.1 hj).1;omega
   ·obtain ⟨u,k1,k2⟩:=hboth i r j x hr hx';exact ⟨u,k1,RD.ext hext k2⟩
  by_cases hA:∃ ad,A=some ad
  ·obtain ⟨ad,rfl⟩:=hA
   have holds:∀ (j:Nat) u,xs[j]? = some u→w.cell? (ad.add j)=some u:=fun j u hj=>by
    rcases f6 with f6 | ⟨b',o',h,f7⟩
    ·have:xs=[]:=List.eq_nil_of_length_eq_zero (by rw [f3,f6];simp)
     rw [this] at hj;simp at hj
    ·cases h;rw [addr_add];exact (f7 j u hj).1
   have hr:=run_append_grow (P:=P) w t ty E ei ze ht hi hze ad rows.length rows.length xs f3 holds ⟨b,off,none⟩ news.length cap2 vs e3 hnv (by omega) (by unfold maxLen at h63;omega) (growslice_fits (by omega) (by omega))
   refine ⟨_,_,_,hr,fresh _ _ w.drew ?_ (grownCap_ge w _ _ E) (grownCap_le_maxLen w _ _ E h63) rfl rfl rfl rfl⟩;simp only [Array.toList_append,List.append_assoc];rw [←List.append_assoc,←hxl];exact List.take_left
  ·have hAn:A=none:=by
    cases A with
    | none=>rfl
    | some ad=>exact absurd ⟨ad,rfl⟩ hA
   subst hAn
   have hr0:rows=[]:=by
    rcases f6 with f6 | ⟨b',o',h,_⟩
    ·exact f6
    ·cases h
   subst hr0;have hx0:xs=[]:=List.eq_nil_of_length_eq_zero (by rw [f3];simp)
   subst hx0;have hr:=run_append_nil (P:=P) w t ty E ei ze ht hi hze ⟨b,off,none⟩ news.length cap2 vs e3 hnv hm0 (by unfold maxLen at h63;simp at h63;omega) (by simp at hbytes;omega)
   have hfr:=fresh (vs.toArray ++ Builtin.zeroCells ze.cells (grownCap w news.length 0 E - news.length)) (grownCap w news.length 0 E) w.drew (by
    simp only [Array.toList_append,List.nil_append,List.length_nil,Nat.zero_add];rw [←e3];exact List.take_left) (by simpa using grownCap_ge w news.length 0 E) (grownCap_le_maxLen w _ _ E (by simpa using h63)) rfl rfl rfl rfl
   simp only [List.length_nil,Nat.zero_add] at hfr;exact ⟨_,_,_,hr,hfr⟩
theorem rM [Bor] {w0:World} {S0:Nat→Nat} {W:Wit} {s:St} {a:Act} {w:World} (hs:Sim w0 S0 n W s a w) {d:Nat} (hd:d < n) {t E':Nat} {ei:TypeInfo} {ze:Value} (ht:P.underlying t=some (.slice E')) (hi:P.info? E'=some ei) (hze:ei.zero=some ze) (hzs:ze.cells.size=ei.size) (hsz:0 < ei.size) (ty:TypeId)
 {o':Nat} {rows news:List (List Dt)} {v:Value} (hob:s.ob o'=.row E' ei.size rows.length) (hrd:RD W.S w (.im rows) (W.val o')) (hrsz:∀ r,r ∈ rows→r.length=ei.size) (hnews:RD W.S w (.im news) v) (hnsz:∀ r,r ∈ news→r.length=ei.size) (hbd:rows.length+news.length≤1000000) (hby:ei.bytes≤1000000) :
 ∃ W' rv w',(Builtin.append_ #[t,t] ty #[W.val o',v]).run P w=.ok rv w'∧Sim w0 S0 n W' (s.ap (some d) (.b (.one (.own o' (s.gen o') (rows ++ news)))) (.row o' (rows.length+news.length))) (a.put (some d) rv) w':=by
 obtain ⟨xs,hxs,hxS⟩:∃ ys,bI w w0.heap.size E' ei.size (W.val o') rows.length ys∧∀ g,(W.val o').ownBlock=some g→W.S g≤rows.length * ei.size:=by
  have:=hs.ob o';rw [hob] at this;exact this
 obtain ⟨A,cap2,vs,e0,e1,e2,e3,e4,e5,e6⟩:=hnews.flat hnsz;subst e0
 by_cases hm:news.length=0
 ·-- nothing is appended
  have hn0:news=[]:=List.eq_nil_of_length_eq_zero hm;subst hn0
  obtain ⟨B,cap,hB,hBc⟩:∃ B cap,W.val o'=.slice B rows.length cap∧rows.length≤cap:=by
   rcases hxs.2 with ⟨h1,h2⟩ | ⟨g,cap,cur,fz,h1,_,_,h4,_⟩
   ·exact ⟨none,0,by rw [h1,h2],by omega⟩
   ·exact ⟨_,cap,h1,h4⟩
  have happ:(s.ap (some d) (.b (.one (.own o' (s.gen o') (rows ++ [])))) (.row o' (rows.length+([]:List (List Dt)).length)))=s.ap (some d) (.b (.one (.own o' (s.gen o') rows))) .no:=by
   simp only [St.ap,List.append_nil,List.length_nil]
   congr 1
   funext z
   rw [ay];split
   ·rename_i hz;rw [hz,hob];rfl
   ·rfl
  rw [happ];refine ⟨W,W.val o',w,?_,hs.put (fun d' h=>by cases h;exact hd) ?_⟩
  ·rw [hB];exact jf ht hi _ _ _ _ _ _ hBc w
  ·exact ⟨hrd,Nat.le_refl _,fun _ E2 sz2 n2 h=>by rw [hob] at h;cases h;exact ⟨hrsz,Nat.le_refl _,fun _=>rfl⟩⟩
 ·have hm0:0 < news.length:=Nat.pos_of_ne_zero hm
  obtain ⟨b,off,rfl,e7⟩:∃ b o,A=some ⟨b,o,none⟩∧∀ j u,vs[j]? = some u→w.cell? ⟨b,o+j,none⟩=some u∧o+j < W.S b:=by
   rcases e6 with e6 | e6
   ·rw [e6] at hm0;simp at hm0
   ·exact e6
  have hnv:∀ (j:Nat) u,vs[j]? = some u→w.cell? ((⟨b,off,none⟩:Addr).add j)=some u:=fun j u hj=>by rw [addr_add];exact (e7 j u hj).1
  have hbytes:(rows.length+news.length) * ei.bytes≤1000000 * 1000000:=Nat.mul_le_mul hbd hby;have hlen:(rows ++ news).length=rows.length+news.length:=List.length_append
  have hall:∀ r,r ∈ rows ++ news→r.length=ei.size:=fun r hr=>by
   rcases List.mem_append.1 hr with h | h
   ·exact hrsz r h
   ·exact hnsz r h
  have hxl:(xs ++ vs).length=(rows.length+news.length) * ei.size:=by rw [List.length_append,hxs.1,e3,Nat.add_mul]
  -- the cells that the row holds read as its rows
  have hrow:∀ (i:Nat) r (j:Nat) x,rows[i]? = some r→r[j]? = some x→∃ u,xs[i * ei.size+j]? = some u∧RD W.S w x u:=fun i r j x hr hx=>by
   obtain ⟨A',cap',vs',f0,f1,f2,f3,f4,f5,f6⟩:=hrd.flat hrsz;obtain ⟨u,h1,h2⟩:=f5 i r j x hr hx
   rcases f6 with f6 | ⟨b',o2,rfl,f7⟩
   ·rw [f6] at hr;simp at hr
   ·have h3:=(f7 _ _ h1).1
    rcases hxs.2 with ⟨k1,k2⟩ | ⟨g,cap,cur,fz,k1,k2,k3,k4,k5,k6,k7,_⟩
    ·rw [k1] at f0;simp at f0
    ·rw [k1] at f0;simp only [Value.slice.injEq,Option.some.injEq,Addr.mk.injEq] at f0;obtain ⟨⟨rfl,rfl,_⟩,_⟩:=f0;have hlt:=(List.getElem?_eq_some_iff.1 h1).1;rw [f3,←hxs.1] at hlt;have h4:=hxs.cells (g:=g) (by rw [k1];rfl) _ _ (List.getElem?_eq_getElem hlt)
     rw [addr_add] at h4;rw [h3] at h4;cases h4;exact ⟨_,List.getElem?_eq_getElem hlt,h2⟩
  have hboth:∀ (i:Nat) r (j:Nat) x,(rows ++ news)[i]? = some r→r[j]? = some x→∃ u,(xs ++ vs)[i * ei.size+j]? = some u∧RD W.S w x u:=fun i r j x hr hx=>by
   have hjl:=(List.getElem?_eq_some_iff.1 hx).1;rw [hall r (List.mem_of_getElem? hr)] at hjl
   by_cases hi:i < rows.length
   ·rw [List.getElem?_append_left hi] at hr;obtain ⟨u,h1,h2⟩:=hrow i r j x hr hx;exact ⟨u,by rw [List.getElem?_append_left (List.getElem?_eq_some_iff.1 h1).1];exact h1,h2⟩
   ·rw [List.getElem?_append_right (by omega)] at hr;obtain ⟨u,h1,h2⟩:=e5 _ r j x hr hx;refine ⟨u,?_,h2⟩
    have hge:xs.length≤i * ei.size+j:=by
     rw [hxs.1];exact Nat.le_trans (Nat.mul_le_mul_right _ (by omega)) (Nat.le_add_right _ _)
    rw [List.getElem?_append_right hge,hxs.1,show i * ei.size+j - rows.length * ei.size=(i - rows.length) * ei.size+j by
     rw [Nat.sub_mul];have:rows.length * ei.size≤i * ei.size:=Nat.mul_le_mul_right _ (by omega);omega]
    exact h1
  have h63:rows.length+news.length≤maxLen:=by unfold maxLen;omega
  -- a new block
  have fresh:∀ old,old < rows.length+news.length→(Builtin.append_ #[t,t] ty #[W.val o',.slice (some ⟨b,off,none⟩) news.length cap2]).run P w =
   .ok (.slice (some ⟨w.heap.size,0,none⟩) (rows.length+news.length) (grownCap w (rows.length+news.length) old E'))
    (w.drew.alloc (.cells (xs.toArray ++ vs.toArray ++ Builtin.zeroCells ze.cells (grownCap w (rows.length+news.length) old E' - (rows.length+news.length))) E')) →
   ∃ W' rv w',(Builtin.append_ #[t,t] ty #[W.val o',.slice (some ⟨b,off,none⟩) news.length cap2]).run P w=.ok rv w' ∧
     Sim w0 S0 n W' (s.ap (some d) (.b (.one (.own o' (s.gen o') (rows ++ news)))) (.row o' (rows.length+news.length))) (a.put (some d) rv) w':=fun old ho hr=>by
   have hge:=grownCap_ge w (rows.length+news.length) old E';refine ⟨_,_,_,hr,hs.grow hd hob hm0 (xs:=xs ++ vs) hlen hall ⟨fun b' hb' _=>iK w.drew _ b' hb',by simp,rfl,rfl,rfl⟩ (.inl rfl) (heap_alloc_new w.drew _) hs.below.size hge (grownCap_le_maxLen w _ old E' h63) ?_ hxl ?_ (.inl rfl) hboth⟩
   ·simp only [Array.size_append,List.size_toArray,size_zeroCells,hzs,hxs.1,e3,←Nat.add_mul]
    congr 1
    omega
   ·simp only [Array.toList_append,List.append_assoc];rw [←List.append_assoc,←hxl];exact List.take_left
  rcases hxs.2 with ⟨h1,h2⟩ | ⟨g,cap,cur,fz,h1,h2,h3,h4,h5,h6,h7,h8⟩
  ·have hx0:xs=[]:=List.eq_nil_of_length_eq_zero (by rw [hxs.1,h2,Nat.zero_mul]);refine fresh 0 (by omega) ?_;have hr:=run_append_nil (P:=P) w t ty E' ei ze ht hi hze ⟨b,off,none⟩ news.length cap2 vs e3 hnv hm0 (by unfold maxLen at h63;omega) (by rw [h2,Nat.zero_add] at hbytes;omega)
   rw [h1,h2,hx0]
   simpa using hr
  ·by_cases hroom:rows.length+news.length≤cap
   ·have hfit:rows.length * ei.size+vs.length≤cur.size:=by rw [e3,h6,←Nat.add_mul];exact Nat.mul_le_mul_right _ hroom
    have hr:=kS (P:=P) w t ty E' ei ht hi g rows.length cap cur fz h3 h8 ⟨b,off,none⟩ news.length cap2 vs e3 hnv e4 hroom hfit;rw [←h1] at hr;refine ⟨_,_,_,hr,hs.grow hd hob hm0 (xs:=xs ++ vs) hlen hall ⟨fun b' _ hb'=>setRow_other w g b' _ hb',by simp,rfl,rfl,rfl⟩ (h8.size (by simp only [List.size_toArray,List.length_append,List.length_take,List.length_drop,Array.length_toList];omega)) (setRow_heap w g cur _ E' fz h3) h2 hroom h5 ?_ hxl ?_ (.inr ⟨by rw [h1];rfl,fun i hi=>?_⟩) hboth⟩
    ·simp only [List.size_toArray,List.length_append,List.length_take,List.length_drop,Array.length_toList];omega
    ·rw [h7,←hxl];exact List.take_left
    ·have hil:i < cur.size:=by omega
     simp only [World.cell?,setRow_heap w g cur _ E' fz h3,h3];simp only [Option.isSome_none,Bool.false_eq_true,if_false,List.getElem?_toArray];rw [List.append_assoc,List.getElem?_append_left (by simp;omega),List.getElem?_take,if_pos hi]
     simp
   ·refine fresh cap (by omega) ?_;have holds:∀ (j:Nat) u,xs[j]? = some u→w.cell? ((⟨g,0,none⟩:Addr).add j)=some u:=hxs.cells (g:=g) (by rw [h1];rfl)
    have hr:=run_append_grow (P:=P) w t ty E' ei ze ht hi hze ⟨g,0,none⟩ rows.length cap xs hxs.1 holds ⟨b,off,none⟩ news.length cap2 vs e3 hnv (by omega) (by unfold maxLen at h63;omega) (growslice_fits (by omega) (by omega))
    rw [h1];exact hr
theorem zX [Bor] {d:Nat} (ho:o.dst=some d) (hd:d < n) {t E:Nat} {ei:TypeInfo} {ze:Value} {xo yo:Operand} {x y:PX} {c:Call} (hop:o.op=.call c) (hc:c.callee=.builtin .append) (ha:c.args=#[xo,yo]) (hat:c.argTypes=#[t,t])
 (ht:P.underlying t=some (.slice E)) (hi:P.info? E=some ei) (hze:ei.zero=some ze) (hzs:ze.cells.size=ei.size) (hsz:0 < ei.size) (hx:cX xo=some x) (hy:cX yo=some y):Good P n o (.append E ei.size ei.bytes x y):=by
 intro w0 S0 W s a w v ch hs hf;rw [ho];simp only [PO.fn] at hf;split at hf
 ·rename_i o' g rows news heq hnews;split at hf
  ·rename_i hg;subst hg;split at hf
   ·rename_i E' sz' k hob;split at hf
    ·rename_i hcond;obtain ⟨rfl,rfl,rfl,hnsz,hbd,hby⟩:=hcond;cases hf;obtain ⟨hrd,_,hown⟩:=dJ hs hx heq (by simp);obtain ⟨hrsz,_,hval⟩:=hown rfl E' ei.size rows.length hob;have hval:=hval rfl;obtain ⟨W',rv,w',k1,k2⟩:=rM (P:=P) hs hd ht hi hze hzs hsz o.type hob (by rw [←hval];exact hrd) hrsz (jI hs hy hnews) hnsz hbd hby
     exact ⟨W',rv,w',.inl (bL hop hc Builtin.append_ (fun _ _ _ _=>rfl) (by rw [ha,hat];simpa [hval] using k1)),k2⟩
    ·cases hf
   ·cases hf
  ·cases hf
 ·rename_i rows news heq hnews;split at hf
  ·rename_i hcond;obtain ⟨hall,hnsz,hbd,hby⟩:=hcond;cases hf;obtain ⟨hrd,A,hA⟩:=dJ hs hx heq (by simp);rw [hA] at hrd;obtain ⟨S',rv,w',k1,k2,k3,k4⟩:=FX ht hi hze hzs hsz o.type hrd (jI hs hy hnews) hall hnsz hbd hby;exact ⟨_,rv,w',.inl (bL hop hc Builtin.append_ (fun _ _ _ _=>rfl) (by rw [ha,hat];simpa [hA] using k1)),hs.Ni k3 k4 (fun d' h=>by cases h;exact hd) k2⟩
  ·cases hf
 ·rename_i news heq hnews;split at hf
  ·rename_i hcond;obtain ⟨hnsz,hbd,hby⟩:=hcond;cases hf
   have hx0:a.eval xo=.slice none 0 0:=by
    have h:=dJ hs hx heq (by simp);generalize a.eval xo=z at h ⊢;cases h;rfl
   have h1:=hs.nilRow hd E ei.size
   have hS:up W.S w.heap.size (W.S w.heap.size)=W.S:=by
    funext z
    rw [ay];split
    ·rename_i hz;rw [hz]
    ·rfl
   have hv0:up W.val d (.slice none 0 0) d=.slice none 0 0:=by rw [ay,if_pos rfl]
   obtain ⟨W',rv,w',k1,k2⟩:=rM (P:=P) h1 hd ht hi hze hzs hsz o.type (o':=d) (rows:=[]) (news:=news) (v:=a.eval yo) (by show up s.ob d _ d=_;rw [ay,if_pos rfl];rfl) (by show RD _ w _ (up W.val d (.slice none 0 0) d);rw [hv0];exact .emp none 0 (by unfold maxLen;omega)) (fun r hr=>by cases hr) (by rw [hS];exact jI hs hy hnews) hnsz (by simpa using hbd) hby
   refine ⟨W',rv,w',.inl (bL hop hc Builtin.append_ (fun _ _ _ _=>rfl) ?_),?_⟩
   ·rw [ha,hat];have k3:(Builtin.append_ #[t,t] o.type #[up W.val d (.slice none 0 0) d,a.eval yo]).run P w=.ok rv w':=k1;rw [hv0] at k3
    simpa [hx0] using k3
   ·have e1:(a.put (some d) (.slice none 0 0)).put (some d) rv=a.put (some d) rv:=by simp [Act.put]
    have e2:((s.ap (some d) (.b (.one (.own d (s.gen d+1) []))) (.new d (.row E ei.size 0))).ap (some d) (.b (.one (.own d ((s.ap (some d) (.b (.one (.own d (s.gen d+1) []))) (.new d (.row E ei.size 0))).gen d) ([] ++ news)))) (.row d (([]:List (List Dt)).length+news.length)))=s.ap (some d) (.b (.one (.own d (s.gen d+1) news))) (.new d (.row E ei.size news.length)):=by
     simp only [St.ap,List.nil_append,List.length_nil,Nat.zero_add,ay,if_true]
     congr 1
     ·funext z
      simp only [ay];split <;> rfl
     ·funext z
      simp only [ay];split
      ·rfl
      ·rfl
    rw [e1,e2] at k2;rw [ho];exact k2
  ·cases hf
 ·cases hf
end
def isNil:Operand→Bool
 | .const (.slice none 0 0)=>true
 | _=>false
def P6:PX→Bool
 | .v (.pointer none)=>true
 | _=>false
theorem Fj {y:PX} (h:P6 y=true):y=.v (.pointer none):=by
 unfold P6 at h;split at h
 ·rfl
 ·cases h
def IW (y:PX) (po:PO):Option PO:=match y with
 | .v .nilIface=>some po
 | _=>none
theorem fH {y:PX} {po po':PO} (h:IW y po=some po'):y=.v .nilIface∧po'=po:=by
 unfold IW at h;split at h
 ·cases h;exact ⟨rfl,rfl⟩
 ·cases h
def cO (x:Option Operand):Option (Option PX):=match x with
 | none=>some none
 | some y=>(cX y).map some
def qh (place:Nat→Option (Nat×Nat)):List (Nat×Operand)→Option (List (Nat×Nat×PX))
 | []=>some []
 | (i,xo) :: r=>match place i,cX xo with
   | some (off,k),some x=>(qh place r).map ((off,k,x) :: ·)
   | _,_=>none
def places (P:Program) (t:Nat):Option (Array Value×(Nat→Option (Nat×Nat))) :=
 match P.info? t,P.underlying t with
 | some it,some (.array _ e) =>
   match it.zero,P.info? e with
   | some z,some ie=>some (z.cells,fun i=>some (i * ie.size,ie.size))
   | _,_=>none
 | some it,some (.struct fields) =>
   match it.zero,fields.toList.mapM (fun f=>(P.info? f.type).map fun i=>(f.offset,i.size)) with
   | some z,some places=>some (z.cells,(places.toArray[·]?))
   | _,_=>none
 | _,_=>none
def nV (z:Array Value):Bool:=z.toList.all Value.oneCell'
def szT (P:Program) (t:Nat):Option (Option Nat):=match P.underlying t,P.info? t with
 | some d,some i=>some (if kF d=true then some i.size else none)
 | _,_=>none
def oU (P:Program) (b:Builtin) (dst:Option Nat) (ats:Array Nat) (args:Array Operand):Option PO :=
 match b,ats.toList,args.toList with
 | .len,[t],[x]=>match P.underlying t with
   | some (.slice _)=>(cX x).map .len
   | some .string=>(cX x).map .strlen
   | some (.array m _)=>some (.alen m)
   | _=>none
 | .append,[t,t'],[x,y]=>match P.underlying t,cX x,cX y,dst with
   | some (.slice E),some x,some y,some _=>match P.info? E with
     | some i=>match i.zero with
       | some z=>if t=t'∧z.cells.size=i.size∧0 < i.size then some (.append E i.size i.bytes x y) else none
       | none=>none
     | none=>none
   | _,_,_,_=>none
 | .max,_,xs=>(aC (xs.map cX)).map (.mm true)
 | .min,_,xs=>(aC (xs.map cX)).map (.mm false)
 | _,_,_=>none
def fM (P:Program) (eqs:List (Nat×List Bool)) (o:Oper):Option PO :=
 match o.op with
 | .move x=>(cX x).map .mv
 | .assign x=>if isNil x=true then (match P.underlying o.type,o.dst with
  | some (.slice E),some _=>(P.info? E).map fun i=>.nilRow E i.size
  | _,_=>none) else (cX x).map .mv
 | .pick c a b=>match cX c,cX a,cX b with
   | some c,some a,some b=>some (.pick c a b)
   | _,_,_=>none
 | .box _ x=>if o.dst.isSome=true then (cX x).map .box else none
 | .alloc t=>match P.info? t,o.dst with
   | some i,some _=>match i.zero with
     | some z=>if nV z.cells=true then some (.new z.cells.toList) else none
     | none=>none
   | _,_=>none
 | .build t ps=>match places P t with
   | some (z,place)=>if nV z=true then (qh place ps.toList).map (.build z.toList) else none
   | none=>none
 | .buildSlice t ln ps=>match P.underlying t,o.dst with
   | some (.slice E),some _=>match P.info? E with
     | some i=>match i.zero with
       | some z=>if nV z.cells=true∧z.cells.size=i.size∧0 < i.size∧ln * i.size≤16777216 then
        (qh (fun k=>some (k * i.size,i.size)) ps.toList).map (.bslice E i.size ((Array.range (ln * i.size)).map (z.cells[· % z.cells.size]!)).toList ln) else none
       | none=>none
     | none=>none
   | _,_=>none
 | .load t a=>match szT P t,cX a with
   | some k,some a=>some (.load k a)
   | _,_=>none
 | .store t a x=>match P.info? t,cX a,cX x,o.dst with
   | some i,some a,some x,none=>some (.store i.size a x)
   | _,_,_,_=>none
 | .fieldAddr t x i=>match P.underlying t,cX x with
   | some (.struct fs),some x=>match fs[i]? with
     | some f=>match P.info? f.type with
       | some fi=>if fi.size=0 then none else some (.fld f.offset x)
       | none=>none
     | none=>none
   | _,_=>none
 | .field t x i=>match P.underlying t,cX x with
   | some (.struct fs),some x=>match fs[i]? with
     | some f=>(szT P f.type).map fun k=>.fldv f.offset k x
     | none=>none
   | _,_=>none
 | .indexAddr t x i=>match P.underlying t,cX x,cX i with
   | some (.array ln e),some x,some i=>(P.info? e).map fun ei=>.ixa ln ei.size x i
   | some (.slice e),some x,some i=>(P.info? e).map fun ei=>.ixs ei.size x i
   | _,_,_=>none
 | .index t x i=>match P.underlying t,cX x,cX i with
   | some (.array ln e),some x,some i=>match P.info? e,szT P e with
     | some ei,some k=>some (.ixv ln ei.size k x i)
     | _,_=>none
   | some .string,some x,some i=>some (.ixstr x i)
   | _,_,_=>none
 | .binOp op t x y _=>match cX x,cX y with
   | some x,some y=>match op,P.underlying t with
     | .eql,some .bool=>some (.eqb false x y)
     | .neq,some .bool=>some (.eqb true x y)
     | .eql,some (.struct _)=>if t < 1048576 then (eqs.lookup t).map fun m=>.eqs false m x y else none
     | .neq,some (.struct _)=>if t < 1048576 then (eqs.lookup t).map fun m=>.eqs true m x y else none
     | .eql,some (.array _ _)=>if t < 1048576 then (eqs.lookup t).map fun m=>.eqs false m x y else none
     | .neq,some (.array _ _)=>if t < 1048576 then (eqs.lookup t).map fun m=>.eqs true m x y else none
     | .eql,some (.interface _)=>IW y (.niq false x)
     | .neq,some (.interface _)=>IW y (.niq true x)
     | .eql,some (.pointer _)=>if P6 y=true then some (.pnil false x) else some (.bin op x y)
     | .neq,some (.pointer _)=>if P6 y=true then some (.pnil true x) else some (.bin op x y)
     | op,_=>some (.bin op x y)
   | _,_=>none
 | .unOp op _ x=>(cX x).map (.un op)
 | .convert t u x=>match P.underlying t,P.underlying u,cX x with
   | some _,some (.int k),some x=>some (.conv k x)
   | some (.slice e),some .string,some x=>match P.underlying e with
     | some (.int .u8)=>some (.bstr x)
     | _=>none
   | some (.slice e),some (.slice _),some x=>if t=u then (match P.underlying e with
     | some (.int .u8)=>some (.stm x)
     | _=>none) else none
   | _,_,_=>none
 | .makeSlice t l c=>match P.underlying t,cX l,cX c,o.dst with
   | some (.slice E),some l,some c,some _=>match P.info? E with
     | some i=>match i.zero with
       | some z=>if nV z.cells=true∧z.cells.size=i.size then some (.mk i.size i.bytes z.cells.toList l c) else none
       | none=>none
     | none=>none
   | _,_,_,_=>none
 | .slice t x lo (some hi) (some mx)=>match P.underlying t,cX x,cO lo,cX hi,cX mx with
   | some (.slice e),some x,some lo,some hi,some mx=>(P.info? e).map fun ei=>.slc3 ei.size x lo hi mx
   | _,_,_,_,_=>none
 | .slice t x lo hi none=>match P.underlying t,cX x,cO lo,cO hi with
   | some (.slice e),some x,some lo,some hi=>(P.info? e).map fun ei=>.slc ei.size x lo hi
   | some .string,some x,some lo,some hi=>some (.substr x lo hi)
   | some (.array ln e),some x,some none,some (some hi)=>if ln≤1000000 then (P.info? e).map fun ei=>.sla ln ei.size x hi else none
   | _,_,_,_=>none
 | .extract x i=>(cX x).map (.ext · i)
 | .nilCheck x=>(cX x).map .nilck
 | .call c=>match c.callee with
   | .builtin b=>oU P b o.dst c.argTypes c.args
   | .value (.func f)=>match P.funcs[f]? with
     | some fn => if fn.name ≠ "runtime.NumGoroutine" ∧ fn.body.isSome = true then (aC (c.args.toList.map cX)).map (.call f) else none
     | none=>none
   | _=>none
 | _=>none
section
variable {P:Program} {n:Nat} {o:Oper}
theorem qg {lo:Option Operand} {l:Option PX} (h:cO lo=some l):lo.map cX=l.map some:=by
 cases lo with
 | none=>simp [cO] at h;subst h;rfl
 | some x =>
   simp only [cO,Option.map_eq_some_iff] at h;obtain ⟨y,hy,rfl⟩:=h;simp [hy]
theorem lQ (place:Nat→Option (Nat×Nat)):∀ (ps:List (Nat×Operand)) (qs:List (Nat×Nat×PX)),qh place ps=some qs →
 ps.length=qs.length∧∀ (j:Nat) i xo off k x,ps[j]? = some (i,xo)→qs[j]? = some (off,k,x)→place i=some (off,k)∧cX xo=some x
 | [],qs,h=>by simp [qh] at h;subst h;exact ⟨rfl,fun j i xo off k x h=>by simp at h⟩
 | (i,xo) :: r,qs,h=>by
   simp only [qh] at h;split at h
   ·rename_i off k x h1 h2;simp only [Option.map_eq_some_iff] at h;obtain ⟨qs',h3,rfl⟩:=h;obtain ⟨h4,h5⟩:=lQ place r qs' h3;refine ⟨by simp [h4],fun j i' xo' off' k' x' e1 e2=>?_⟩
    cases j with
    | zero =>
      simp at e1 e2;obtain ⟨rfl,rfl⟩:=e1;obtain ⟨rfl,rfl,rfl⟩:=e2;exact ⟨h1,h2⟩
    | succ j=>exact h5 j i' xo' off' k' x' (by simpa using e1) (by simpa using e2)
   ·cases h
theorem yj {t:Nat} {z:Array Value} {place:Nat→Option (Nat×Nat)} (h:places P t=some (z,place)):∀ vals,P.built t vals=Instr.fill place z vals:=by
 intro vals;unfold places at h;unfold Program.built;split at h
 ·rename_i it a e h1 h2;split at h
  ·rename_i zz ie h3 h4;cases h;simp [h1,h2,h3,h4]
  ·cases h
 ·rename_i it fields h1 h2;split at h
  ·rename_i zz pl h3 h4;cases h;simp [h1,h2,h3,h4]
  ·cases h
 ·cases h
theorem gV {z:Array Value} (h:nV z=true):∀ v ∈ z.toList,v.oneCell'=true:=List.all_eq_true.1 h
theorem oL {t:Nat} {k:Option Nat} (h:szT P t=some k):∃ d i,P.underlying t=some d∧P.info? t=some i∧k=if kF d=true then some i.size else none:=by
 unfold szT at h;split at h
 ·rename_i d i h1 h2;cases h;exact ⟨d,i,h1,h2,rfl⟩
 ·cases h
theorem lV {l:List (Nat×List Bool)} {t:Nat} {m:List Bool} (h:l.lookup t=some m):(t,m) ∈ l:=by
 induction l with
 | nil=>cases h
 | cons p l ih =>
   obtain ⟨a,b⟩:=p;rw [List.lookup_cons] at h;split at h
   ·rename_i he;cases h;have:t=a:=by simpa using he
    subst this;simp
   ·exact List.mem_cons_of_mem _ (ih h)
theorem arr1 {α:Type} {a:Array α} {x:α} (h:a.toList=[x]):a=#[x]:=by rw [←Array.toArray_toList (xs:=a),h]
theorem yA {α:Type} {a:Array α} {x y:α} (h:a.toList=[x,y]):a=#[x,y]:=by rw [←Array.toArray_toList (xs:=a),h]
theorem BZ [Bor] {b:Builtin} {c:Call} {po:PO} (hd:∀ d,o.dst=some d→d < n) (hop:o.op=.call c) (hc:c.callee=.builtin b) (h:oU P b o.dst c.argTypes c.args=some po):Good P n o po:=by
 unfold oU at h;split at h
 ·rename_i t x h1 h2;have a1:=arr1 h1;have a2:=arr1 h2;split at h
  ·rename_i e h3;simp only [Option.map_eq_some_iff] at h;obtain ⟨x',hx,rfl⟩:=h;exact JQ hd hop hc a2 a1 h3 hx
  ·rename_i h3;simp only [Option.map_eq_some_iff] at h;obtain ⟨x',hx,rfl⟩:=h;exact Aa hd hop hc a2 a1 h3 hx
  ·rename_i m e h3;cases h;exact GA hd hop hc a2 a1 h3
  ·cases h
 ·rename_i t t' x y h1 h2;have a1:=yA h1;have a2:=yA h2;split at h
  ·rename_i E x' y' d h3 h4 h5 h6;split at h
   ·rename_i i h7;split at h
    ·rename_i z h8;split at h
     ·rename_i hcond;cases h;obtain ⟨rfl,h9,h10⟩:=hcond;exact zX h6 (hd _ h6) hop hc a2 a1 h3 h7 h8 h9 h10 h4 h5
     ·cases h
    ·cases h
   ·cases h
  ·cases h
 ·simp only [Option.map_eq_some_iff] at h;obtain ⟨xs,hx,rfl⟩:=h;exact Fa hd (big:=true) hop hc rfl hx
 ·simp only [Option.map_eq_some_iff] at h;obtain ⟨xs,hx,rfl⟩:=h;exact Fa hd (big:=false) hop hc rfl hx
 ·cases h
theorem zI [Bor] {eqs:List (Nat×List Bool)} (heq:∀ p,p ∈ eqs→EqT P p.1 p.2) {po:PO} (hd:∀ d,o.dst=some d→d < n) (h:fM P eqs o=some po) (hnc:po.aT=false):Good P n o po:=by
 unfold fM at h;split at h
 ·rename_i x hop;simp only [Option.map_eq_some_iff] at h;obtain ⟨x',hx,rfl⟩:=h;exact Fb hd (.inl hop) hx
 ·rename_i x hop;split at h
  ·rename_i hn;split at h
   ·rename_i E d h1 h2;simp only [Option.map_eq_some_iff] at h;obtain ⟨i,hi,rfl⟩:=h
    have:x=.const (.slice none 0 0):=by
     unfold isNil at hn;split at hn
     ·rfl
     ·cases hn
    subst this;exact zZ h2 (hd _ h2) hop
   ·cases h
  ·simp only [Option.map_eq_some_iff] at h;obtain ⟨x',hx,rfl⟩:=h;exact Fb hd (.inr hop) hx
 ·rename_i c a b hop;split at h
  ·rename_i h1 h2 h3;cases h;exact GU hd hop h1 h2 h3
  ·cases h
 ·rename_i t x hop;split at h
  ·rename_i hs;simp only [Option.map_eq_some_iff] at h;obtain ⟨x',hx,rfl⟩:=h;obtain ⟨d,hdd⟩:=Option.isSome_iff_exists.1 hs;exact JH hdd (hd _ hdd) hop hx
  ·cases h
 ·rename_i t hop;split at h
  ·rename_i i d h1 h2;split at h
   ·rename_i z h3;split at h
    ·rename_i h4;cases h;exact JW h2 (hd _ h2) hop h1 h3 (gV h4)
    ·cases h
   ·cases h
  ·cases h
 ·rename_i t ps hop;split at h
  ·rename_i z place h1;split at h
   ·rename_i h2;simp only [Option.map_eq_some_iff] at h;obtain ⟨qs,h3,rfl⟩:=h;obtain ⟨h4,h5⟩:=lQ place _ _ h3;exact Dy hd hop (yj h1) (gV h2) h4 h5
   ·cases h
  ·cases h
 ·rename_i t ln ps hop;split at h
  ·rename_i E d h1 h2;split at h
   ·rename_i i h3;split at h
    ·rename_i z h4;split at h
     ·rename_i hcond;simp only [Option.map_eq_some_iff] at h;obtain ⟨qs,h5,rfl⟩:=h;obtain ⟨h6,h7⟩:=lQ _ _ _ h5;exact zY h2 (hd _ h2) hop h1 h3 h4 (gV hcond.1) hcond.2.1 hcond.2.2.1 hcond.2.2.2 h6 h7
     ·cases h
    ·cases h
   ·cases h
  ·cases h
 ·rename_i t a hop;split at h
  ·rename_i k x h1 h2;cases h;obtain ⟨d,i,h3,h4,h5⟩:=oL h1;exact GJ hd hop h3 h4 h5 h2
  ·cases h
 ·rename_i t a x hop;split at h
  ·rename_i h1 h2 h3 h4;cases h;exact DI h4 hop h1 h2 h3
  ·cases h
 ·rename_i t x i hop;split at h
  ·rename_i fs x' h1 h2;split at h
   ·rename_i f h3;split at h
    ·rename_i fi h4;split at h
     ·cases h
     ·rename_i h5;cases h;exact JK hd hop h1 h3 rfl h4 h5 h2
    ·cases h
   ·cases h
  ·cases h
 ·rename_i t x i hop;split at h
  ·rename_i fs x' h1 h2;split at h
   ·rename_i f h3;simp only [Option.map_eq_some_iff] at h;obtain ⟨k,h4,rfl⟩:=h;obtain ⟨d,fi,h5,h6,h7⟩:=oL h4;exact GI hd hop h1 h3 rfl h5 h6 h7 h2
   ·cases h
  ·cases h
 ·rename_i t x i hop;split at h
  ·rename_i ln e x' i' h1 h2 h3;simp only [Option.map_eq_some_iff] at h;obtain ⟨ei,h4,rfl⟩:=h;exact JL hd hop h1 h4 h2 h3
  ·rename_i e x' i' h1 h2 h3;simp only [Option.map_eq_some_iff] at h;obtain ⟨ei,h4,rfl⟩:=h;exact JN hd hop h1 h4 h2 h3
  ·cases h
 ·rename_i t x i hop;split at h
  ·rename_i ln e x' i' h1 h2 h3;split at h
   ·rename_i ei k h4 h5;cases h;obtain ⟨d,fi,h6,h7,h8⟩:=oL h5;rw [h4] at h7;cases h7;exact JO hd hop h1 h6 h4 h8 h2 h3
   ·cases h
  ·rename_i x' i' h1 h2 h3;cases h;exact DC hd hop h1 h2 h3
  ·cases h
 ·rename_i op t x y u hop;split at h
  ·rename_i x' y' h1 h2;split at h
   ·rename_i h3;cases h;exact AR hd (neg:=false) hop h3 h1 h2
   ·rename_i h3;cases h;exact AR hd (neg:=true) hop h3 h1 h2
   ·split at h
    ·rename_i hlt;simp only [Option.map_eq_some_iff] at h;obtain ⟨m,h4,rfl⟩:=h;exact qF hd (neg:=false) hop hlt (heq _ (lV h4)) h1 h2
    ·cases h
   ·split at h
    ·rename_i hlt;simp only [Option.map_eq_some_iff] at h;obtain ⟨m,h4,rfl⟩:=h;exact qF hd (neg:=true) hop hlt (heq _ (lV h4)) h1 h2
    ·cases h
   ·split at h
    ·rename_i hlt;simp only [Option.map_eq_some_iff] at h;obtain ⟨m,h4,rfl⟩:=h;exact qF hd (neg:=false) hop hlt (heq _ (lV h4)) h1 h2
    ·cases h
   ·split at h
    ·rename_i hlt;simp only [Option.map_eq_some_iff] at h;obtain ⟨m,h4,rfl⟩:=h;exact qF hd (neg:=true) hop hlt (heq _ (lV h4)) h1 h2
    ·cases h
   ·rename_i h3;obtain ⟨rfl,rfl⟩:=fH h;exact AV hd (neg:=false) hop h3 h1 h2
   ·rename_i h3;obtain ⟨rfl,rfl⟩:=fH h;exact AV hd (neg:=true) hop h3 h1 h2
   ·rename_i h3;split at h
    ·rename_i hy;cases h;exact w9 hd (neg:=false) hop h3 h1 (by rw [h2,Fj hy])
    ·cases h;exact vI hd hop h1 h2
   ·rename_i h3;split at h
    ·rename_i hy;cases h;exact w9 hd (neg:=true) hop h3 h1 (by rw [h2,Fj hy])
    ·cases h;exact vI hd hop h1 h2
   ·cases h;exact vI hd hop h1 h2
  ·cases h
 ·rename_i op t x hop;simp only [Option.map_eq_some_iff] at h;obtain ⟨x',hx,rfl⟩:=h;exact NU hd hop hx
 ·rename_i t u x hop;split at h
  ·rename_i ds k x' h1 h2 h3;cases h;exact GH hd hop h1 h2 h3
  ·rename_i e x' h1 h2 h3;split at h
   ·rename_i h4;cases h;exact GD hd hop h1 h4 h2 h3
   ·cases h
  ·rename_i e e' x' h1 h2 h3;split at h
   ·rename_i htu;subst htu;split at h
    ·rename_i h4;cases h;exact JZ hd hop h1 h4 h3
    ·cases h
   ·cases h
  ·cases h
 ·rename_i t lo co hop;split at h
  ·rename_i E l c d h1 h2 h3 h4;split at h
   ·rename_i i h5;split at h
    ·rename_i z h6;split at h
     ·rename_i hcond;cases h;exact NS h4 (hd _ h4) hop h1 h5 h6 hcond.2 (gV hcond.1) h2 h3
     ·cases h
    ·cases h
   ·cases h
  ·cases h
 ·rename_i t x lo hi mx hop;split at h
  ·rename_i e x' lo' hi' mx' h1 h2 h3 h4 h5;simp only [Option.map_eq_some_iff] at h;obtain ⟨ei,h6,rfl⟩:=h;exact GV hd hop h1 h6 h2 (qg h3) h4 h5
  ·cases h
 ·rename_i t x lo hi hop;split at h
  ·rename_i e x' lo' hi' h1 h2 h3 h4;simp only [Option.map_eq_some_iff] at h;obtain ⟨ei,h5,rfl⟩:=h;exact JY hd hop h1 h5 h2 (qg h3) (qg h4)
  ·rename_i x' lo' hi' h1 h2 h3 h4;cases h;exact Ac hd hop h1 h2 (qg h3) (qg h4)
  ·rename_i ln e x' hi' h1 h2 h3 h4;split at h
   ·rename_i hln;simp only [Option.map_eq_some_iff] at h;obtain ⟨ei,h5,rfl⟩:=h;exact JX hd hop h1 h5 h2 (qg h3) (qg h4) hln
   ·cases h
  ·cases h
 ·rename_i x i hop;simp only [Option.map_eq_some_iff] at h;obtain ⟨x',hx,rfl⟩:=h;exact JJ hd hop hx
 ·rename_i x hop;simp only [Option.map_eq_some_iff] at h;obtain ⟨x',hx,rfl⟩:=h;exact DF hd hop hx
 ·rename_i c hop;split at h
  ·rename_i b hc;exact BZ hd hop hc h
  ·rename_i f hc;split at h
   ·split at h
    ·simp only [Option.map_eq_some_iff] at h;obtain ⟨xs,_,rfl⟩:=h;cases hnc
    ·cases h
   ·cases h
  ·cases h
 ·cases h
end
end Go.Proofs.Ytkafcpnahpfbfaa
end
