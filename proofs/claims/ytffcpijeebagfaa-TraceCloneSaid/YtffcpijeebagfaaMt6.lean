/- How a plain reading is evaluated, step by step. -/
import Derived.Test.YtffcpijeebagfaaMt5
import Derived.IntWalk
import Derived.ProofKit
import Derived.Deep.Slices
import Derived.Deep.Fields
import Derived.ChangeSame
import Derived.Test.YtffcpijeebagfaaProg
set_option linter.unusedSimpArgs false
set_option linter.unusedVariables false
section
namespace Go.Proofs.Ytffcpijeebagfaa
open Go Go.RowKit
theorem nrfl {α:Sort _} {a b:α} (h:a=b):a=b:=h
section
variable {env:Env} {K:St→Prop} {is:List PI} {s:St} {d:Option Nat} {af:List Nat}
def contOps (env:Env) (K:St→Prop) (is:List PI) (s:St) (d:Option Nat) (o:Option (Av×Cg)):Prop:=withSome o fun p=>evalOps env is (s.ap d p.1 p.2) K
theorem contOps_some {v:Av} {ch:Cg}:contOps env K is s d (some (v,ch))=evalOps env is (s.ap d v ch) K:=nrfl rfl
def callOps (env:Env) (K:St→Prop) (is:List PI) (s:St) (d:Option Nat) (f:Nat) (o:Option (List Pa)):Prop:=withSome o fun ps=>(∃ rs,env.d f ps rs∧evalOps env is (s.ap d (resAv rs) .no) K)∨(∃ H rs,env.a f none ps H rs∧evalOps env is (s.ap d (newAv (d.getD 0) (s.gen (d.getD 0)+1) rs) (.new (d.getD 0) (.ab H))) K)
theorem callOps_intro {f:Nat} {ps:List Pa} (rs:List Pa) (h:env.d f ps rs) (k:evalOps env is (s.ap d (resAv rs) .no) K):callOps env K is s d f (some ps):=.inl ⟨rs,h,k⟩
theorem callOps_new {f:Nat} {ps:List Pa} (H:HP) (rs:List Pa) (h:env.a f none ps H rs) (k:evalOps env is (s.ap d (newAv (d.getD 0) (s.gen (d.getD 0)+1) rs) (.new (d.getD 0) (.ab H))) K):callOps env K is s d f (some ps):=.inr ⟨H,rs,h,k⟩
def methOps (env:Env) (K:St→Prop) (is:List PI) (s:St) (d:Option Nat) (f o:Nat) (oh:Option HP) (oa:Option (List Pa)):Prop:=withSome oa fun ps=>withSome oh fun H =>
 (∃ H' rs,env.a f (some H) ps H' rs∧evalOps env is (s.ap d (resAv rs) (.ab o H')) K)∨(∃ H2,ps=[]∧env.c f H H2∧evalOps env is (s.ap d (.b (.one (.ab (d.getD 0) (s.gen (d.getD 0)+1)))) (.new (d.getD 0) (.ab H2))) K)
theorem methOps_intro {f o:Nat} {H:HP} {ps:List Pa} (H':HP) (rs:List Pa) (h:env.a f (some H) ps H' rs) (k:evalOps env is (s.ap d (resAv rs) (.ab o H')) K):methOps env K is s d f o (some H) (some ps):=.inl ⟨H',rs,h,k⟩
theorem methOps_clone {f o:Nat} {H:HP} (H2:HP) (h:env.c f H H2) (k:evalOps env is (s.ap d (.b (.one (.ab (d.getD 0) (s.gen (d.getD 0)+1)))) (.new (d.getD 0) (.ab H2))) K):methOps env K is s d f o (some H) (some []):=.inr ⟨H2,rfl,h,k⟩
def mutOps (env:Env) (K:St→Prop) (is:List PI) (s:St) (d:Option Nat) (f o:Nat) (od:Option (List Dt)) (oa:Option (List Pa)):Prop:=withSome oa fun ps=>withSome od fun ds=>∃ ds' rs,env.m f ds ps ds' rs∧ds'.length=ds.length∧evalOps env is (s.ap d (resAv rs) (.wr o 0 (ds'.map .d))) K
def callR (env:Env) (K:St→Prop) (is:List PI) (s:St) (d:Option Nat) (f:Nat) (xs:List PX):Option (Nat×Nat)→Option (Nat×Nat)→Prop
 | some (o,g),_=>methOps env K is s d f o (s.abAt o g) (s.args xs.tail)
 | none,some (o,g)=>mutOps env K is s d f o (s.cellsAt o g) (s.args xs.tail)
 | none,none=>callOps env K is s d f (s.args xs)
theorem callR_none {f:Nat} {xs:List PX}:callR env K is s d f xs none none=callOps env K is s d f (s.args xs):=nrfl rfl
theorem callR_ptr {f o g:Nat} {xs:List PX}:callR env K is s d f xs none (some (o,g))=mutOps env K is s d f o (s.cellsAt o g) (s.args xs.tail):=nrfl rfl
theorem callR_some {f o g:Nat} {xs:List PX} {p:Option (Nat×Nat)}:callR env K is s d f xs (some (o,g)) p=methOps env K is s d f o (s.abAt o g) (s.args xs.tail):=nrfl rfl
theorem recv_nil:s.recv []=none:=nrfl rfl
theorem recv_cons {x:PX} {xs:List PX}:s.recv (x :: xs)=(s.ev x).abOf:=nrfl rfl
theorem prcv_nil:s.prcv []=none:=nrfl rfl
theorem prcv_cons {x:PX} {xs:List PX}:s.prcv (x :: xs)=(s.ev x).ptrOf:=nrfl rfl
theorem cellsAt_ob {o g:Nat}:s.cellsAt o g=if s.gen o=g then (match s.ob o with | .cells cs=>if cs.length≤1000000 then allSome (cs.map Cl.dt) else none | _=>none) else none:=nrfl rfl
theorem abAt_ob {o g:Nat}:s.abAt o g=if s.gen o=g then (match s.ob o with | .ab H=>some H | _=>none) else none:=nrfl rfl
theorem ap_genb {v:Av} {o:Nat} {H:HP}:(s.ap d v (.ab o H)).gen=s.gen:=nrfl rfl
theorem ap_obb {v:Av} {o:Nat} {H:HP}:(s.ap d v (.ab o H)).ob=up s.ob o (.ab H):=nrfl rfl
def guardOps (env:Env) (K:St→Prop) (is:List PI) (s:St) (d:Option Nat) (op:PO) (t:Nat) (want:Bool):Option (Option Bool)→Prop
 | none=>False
 | some none=>evalOps env is (s.ap d skp .no) K
 | some (some b)=>(b=want→evalOps env (⟨d,op,none,[]⟩ :: is) (s.ap (some t) (scAv (.bool want)) .no) K)∧(b=!want→evalOps env is ((s.ap (some t) (scAv (.bool !want)) .no).ap d skp .no) K)
theorem guardOps_skp {op:PO} {t:Nat} {want:Bool}:guardOps env K is s d op t want (some none)=evalOps env is (s.ap d skp .no) K:=nrfl rfl
theorem guardOps_some {op:PO} {t:Nat} {want b:Bool}:guardOps env K is s d op t want (some (some b))=((b=want→evalOps env (⟨d,op,none,[]⟩ :: is) (s.ap (some t) (scAv (.bool want)) .no) K)∧(b=!want→evalOps env is ((s.ap (some t) (scAv (.bool !want)) .no).ap d skp .no) K)):=nrfl rfl
theorem gd_boo {t:Nat} {b:Bool} (h:s.gd t=some (some b)):s.boo (.t t)=some b:=by
 unfold St.gd at h;split at h
 ·cases h
 ·rw [Option.map_eq_some_iff] at h;obtain ⟨c,hc,h⟩:=h;cases h;exact hc
theorem some_ne {b want:Bool}:(some b≠some want)↔b=!want:=by cases b <;> cases want <;> simp
theorem boo_self {t:Nat} {b:Bool} (h:s.boo (.t t)=some b):s.ap (some t) (scAv (.bool b)) .no=s:=by
 have h1:s.sl t=scAv (.bool b):=by
  unfold St.boo at h;split at h
  ·rename_i c hc;cases h;exact hc
  ·cases h
 have h2:up s.sl t (scAv (.bool b))=s.sl:=by
  funext x
  rw [up_at];split
  ·rename_i hx;rw [hx,h1]
  ·rfl
 show (⟨up s.sl t (scAv (.bool b)),s.gen,s.ob,s.nc⟩:St)=s
 rw [h2]
theorem evalOps_nil:evalOps env [] s K=K s:=nrfl rfl
theorem evalOps_fn {op:PO} (h:op.isCall=false):evalOps env (⟨d,op,none,af⟩ :: is) s K=contOps env K is s d (op.fn s (d.getD 0)):=by
 change PO.go env s (d.getD 0) (fun v ch=>evalOps env is (s.ap d v ch) K) op=_
 rw [PO.go_fn h];rfl
def callV (env:Env) (K:St→Prop) (is:List PI) (s:St) (d:Option Nat) (f:Nat) (xs:List PX):Option Unit→Prop
 | some _=>callR env K is s d f xs (s.recv xs) (s.prcv xs)
 | none=>False
theorem callV_some {f:Nat} {xs:List PX} {u:Unit}:callV env K is s d f xs (some u)=callR env K is s d f xs (s.recv xs) (s.prcv xs):=nrfl rfl
def ldgV (env:Env) (K:St→Prop) (is:List PI) (s:St) (d:Option Nat):Option Value→Prop
 | some v=>evalOps env is (s.ap d (scAv v) .no) K
 | none=>False
theorem ldgV_some {v:Value}:ldgV env K is s d (some v)=evalOps env is (s.ap d (scAv v) .no) K:=nrfl rfl
theorem fnIsSelf {f:Nat}:fnIs f (some (.func (.func f) #[] #[]))=some ():=fnIs_mk
theorem gAtPtr {g k:Nat}:gAt env (some (.pointer (some ⟨g,k,none⟩)))=env.t g k:=nrfl rfl
def halS (env:Env) (K:St→Prop) (is:List PI) (s:St) (d:Option Nat) (c:Nat) (k:HA):Prop:=halG s c (fun v ch=>evalOps env is (s.ap d v ch) K) k
def nextS (env:Env) (K:St→Prop) (is:List PI) (s:St) (d:Option Nat) (x:Cl):Prop:=nextG s x (fun v ch=>evalOps env is (s.ap d v ch) K)
def callHS (env:Env) (K:St→Prop) (is:List PI) (s:St) (d:Option Nat) (f:Nat) (oa:Option (List Hw)):Prop:=withSome oa fun az=>callHG env s (fun v ch=>evalOps env is (s.ap d v ch) K) f az
def callPS (env:Env) (K:St→Prop) (is:List PI) (s:St) (d:Option Nat) (f:Nat) (oa:Option (List Hw)):Prop:=withSome oa fun az=>callPG env s (fun v ch=>evalOps env is (s.ap d v ch) K) f az
def callCS (env:Env) (K:St→Prop) (is:List PI) (s:St) (d:Option Nat) (f:Nat) (of:Option (List (Nat×Nat)×List (Nat×Nat))) (oa:Option (List Hw)):Prop:=withSome of fun p=>withSome oa fun az=>callHG env s (fun v ch=>evalOps env is (s.ap d v ch) K) f (hpsW p.1 ++ az ++ hpsW p.2)
theorem callCS_some {f:Nat} {az:List Hw} {a c:List (Nat×Nat)}:callCS env K is s d f (some (a,c)) (some az)=callHS env K is s d f (some (hpsW a ++ az ++ hpsW c)):=nrfl rfl
theorem fnOf_self {f:Nat} {a c:List (Nat×Nat)}:fnOf f (.hv (.f f a c))=some (a,c):=by simp [fnOf]
theorem hpsW_nil:hpsW []=[]:=nrfl rfl
theorem hpsW_cons {p:Nat×Nat} {l:List (Nat×Nat)}:hpsW (p :: l)=.one (.h (.p p.1 p.2)) :: hpsW l:=nrfl rfl
theorem hws_nil:s.hws []=some []:=nrfl rfl
theorem hws_cons {x:PX} {xs:List PX}:s.hws (x :: xs)=(match s.hw x with | some p=>(s.hws xs).map (p :: ·) | none=>none):=by
 unfold St.hws;simp only [List.map_cons];cases s.hw x <;> rfl
theorem hw_evq {x:PX}:s.hw x=(s.ev x).hw:=nrfl rfl
def opS (env:Env) (K:St→Prop) (is:List PI) (s:St) (d:Option Nat) (b:Bool) (op:PO):Prop:=match b with
 | true=>(match op with | .call f xs=>callR env K is s d f xs (s.recv xs) (s.prcv xs) | .callv x f xs=>callV env K is s d f xs (fnIs f (s.val x)) | .ldg x=>ldgV env K is s d (gAt env (s.val x)) | .hal c k=>halS env K is s d c k | .next x=>nextS env K is s d (s.cl x) | .callh f xs=>callHS env K is s d f (s.hws xs) | .callp f xs=>callPS env K is s d f (s.hws xs) | .callc x f xs=>callCS env K is s d f (fnOf f (s.cl x)) (s.hws xs) | _=>False)
 | false=>contOps env K is s d (op.fn s (d.getD 0))
theorem opS_false {op:PO}:opS env K is s d false op=contOps env K is s d (op.fn s (d.getD 0)):=nrfl rfl
theorem opS_true {f:Nat} {xs:List PX}:opS env K is s d true (.call f xs)=callR env K is s d f xs (s.recv xs) (s.prcv xs):=nrfl rfl
theorem opS_callv {x:PX} {f:Nat} {xs:List PX}:opS env K is s d true (.callv x f xs)=callV env K is s d f xs (fnIs f (s.val x)):=nrfl rfl
theorem opS_ldg {x:PX}:opS env K is s d true (.ldg x)=ldgV env K is s d (gAt env (s.val x)):=nrfl rfl
theorem opS_hal {c:Nat} {k:HA}:opS env K is s d true (.hal c k)=halS env K is s d c k:=nrfl rfl
theorem opS_next {x:PX}:opS env K is s d true (.next x)=nextS env K is s d (s.cl x):=nrfl rfl
theorem opS_callh {f:Nat} {xs:List PX}:opS env K is s d true (.callh f xs)=callHS env K is s d f (s.hws xs):=nrfl rfl
theorem opS_callp {f:Nat} {xs:List PX}:opS env K is s d true (.callp f xs)=callPS env K is s d f (s.hws xs):=nrfl rfl
theorem opS_callc {x:PX} {f:Nat} {xs:List PX}:opS env K is s d true (.callc x f xs)=callCS env K is s d f (fnOf f (s.cl x)) (s.hws xs):=nrfl rfl
theorem evalOps_op {op:PO}:evalOps env (⟨d,op,none,af⟩ :: is) s K=opS env K is s d op.isCall op:=by
 cases hc:op.isCall with
 | true =>
   cases op <;> first
    | (cases hc;done)
    | (rename_i f xs
       show callG env s (d.getD 0) (fun v ch=>evalOps env is (s.ap d v ch) K) f xs (s.recv xs) (s.prcv xs)=callR env K is s d f xs (s.recv xs) (s.prcv xs)
       cases s.recv xs <;> cases s.prcv xs <;> rfl)
    | (rename_i x f xs
       show withSome (fnIs f (s.val x)) (fun _=>callG env s (d.getD 0) (fun v ch=>evalOps env is (s.ap d v ch) K) f xs (s.recv xs) (s.prcv xs))=callV env K is s d f xs (fnIs f (s.val x))
       cases fnIs f (s.val x) with
       | none=>rfl
       | some _ =>
         show callG env s (d.getD 0) (fun v ch=>evalOps env is (s.ap d v ch) K) f xs (s.recv xs) (s.prcv xs)=callR env K is s d f xs (s.recv xs) (s.prcv xs)
         cases s.recv xs <;> cases s.prcv xs <;> rfl)
    | (rename_i x
       show withSome (gAt env (s.val x)) (fun v=>evalOps env is (s.ap d (scAv v) .no) K)=ldgV env K is s d (gAt env (s.val x))
       cases gAt env (s.val x) <;> rfl)
    | rfl
 | false=>rw [opS_false,evalOps_fn hc]
theorem evalOps_guard {op:PO} {t:Nat} {want:Bool}:evalOps env (⟨d,op,some (t,want),af⟩ :: is) s K=guardOps env K is s d op t want (s.gd t):=by
 change withSome (s.gd t) _=guardOps env K is s d op t want (s.gd t)
 cases h:s.gd t with
 | none=>rfl
 | some b =>
   cases b with
   | none=>exact propext ⟨fun k=>k.2 (by simp),fun k=>⟨fun e=>(by simp at e),fun _=>k⟩⟩
   | some b =>
     have hb:=boo_self (gd_boo h);rw [guardOps_some]
     show ((some b=some want→_)∧(some b≠some want→_))=_
     rw [some_ne,Option.some.injEq]
     congr 1
     ·apply propext
      refine forall_congr' fun he=>?_
      subst he;rw [hb];rfl
     ·apply propext
      refine forall_congr' fun he=>?_
      rw [←he,hb]
theorem evalOps_gT {op:PO} {t:Nat} {want:Bool} (h:s.gd t=some (some want)):evalOps env (⟨d,op,some (t,want),af⟩ :: is) s K=evalOps env (⟨d,op,none,[]⟩ :: is) s K:=by
 rw [evalOps_guard,h,guardOps_some,boo_self (gd_boo h)];exact propext ⟨fun k=>k.1 rfl,fun k=>⟨fun _=>k,fun e=>absurd e (by cases want <;> decide)⟩⟩
theorem evalOps_gF {op:PO} {t:Nat} {want:Bool} (h:s.gd t=some (some (!want))):evalOps env (⟨d,op,some (t,want),af⟩ :: is) s K=evalOps env is (s.ap d skp .no) K:=by
 rw [evalOps_guard,h,guardOps_some,boo_self (gd_boo h)];exact propext ⟨fun k=>k.2 rfl,fun k=>⟨fun e=>absurd e (by cases want <;> decide),fun _=>k⟩⟩
theorem evalOps_gS {op:PO} {t:Nat} {want:Bool} (h:s.gd t=some none):evalOps env (⟨d,op,some (t,want),af⟩ :: is) s K=evalOps env is (s.ap d skp .no) K:=by
 rw [evalOps_guard,h,guardOps_skp]
abbrev Ft:=List (List Rg×List Rg)
variable {KD:St→Ft→Prop} {acc:Ft}
def contD (env:Env) (K:St→Ft→Prop) (is:List PI) (s:St) (d:Option Nat) (acc:Ft) (rd:List Rg) (o:Option (Av×Cg)):Prop:=withSome o fun p=>evalD env is (s.ap d p.1 p.2) ((rd,p.2.wrs) :: acc) K
theorem contD_some {v:Av} {ch:Cg} {rd:List Rg}:contD env KD is s d acc rd (some (v,ch))=evalD env is (s.ap d v ch) ((rd,ch.wrs) :: acc) KD:=nrfl rfl
def callD (env:Env) (K:St→Ft→Prop) (is:List PI) (s:St) (d:Option Nat) (acc:Ft) (f:Nat) (o:Option (List Pa)):Prop:=withSome o fun ps =>
 (∃ rs,env.d f ps rs∧evalD env is (s.ap d (resAv rs) .no) (([(d.getD 0,big - 1,1)],[]) :: acc) K)∨(∃ H rs,env.a f none ps H rs∧evalD env is (s.ap d (newAv (d.getD 0) (s.gen (d.getD 0)+1) rs) (.new (d.getD 0) (.ab H))) (([(d.getD 0,big - 1,1)],[(d.getD 0,0,big)]) :: acc) K)
theorem callD_intro {f:Nat} {ps:List Pa} (rs:List Pa) (h:env.d f ps rs) (k:evalD env is (s.ap d (resAv rs) .no) (([(d.getD 0,big - 1,1)],[]) :: acc) KD):callD env KD is s d acc f (some ps):=.inl ⟨rs,h,k⟩
def methD (env:Env) (K:St→Ft→Prop) (is:List PI) (s:St) (d:Option Nat) (acc:Ft) (f o:Nat) (oh:Option HP) (oa:Option (List Pa)):Prop:=withSome oa fun ps=>withSome oh fun H =>
 (∃ H' rs,env.a f (some H) ps H' rs∧evalD env is (s.ap d (resAv rs) (.ab o H')) (([(o,0,big),(d.getD 0,big - 1,1)],[(o,0,big)]) :: acc) K) ∨
 (∃ H2,ps=[]∧env.c f H H2∧evalD env is (s.ap d (.b (.one (.ab (d.getD 0) (s.gen (d.getD 0)+1)))) (.new (d.getD 0) (.ab H2))) (([(o,0,big),(d.getD 0,big - 1,1)],[(d.getD 0,0,big)]) :: acc) K)
theorem methD_intro {f o:Nat} {H:HP} {ps:List Pa} (H':HP) (rs:List Pa) (h:env.a f (some H) ps H' rs) (k:evalD env is (s.ap d (resAv rs) (.ab o H')) (([(o,0,big),(d.getD 0,big - 1,1)],[(o,0,big)]) :: acc) KD):methD env KD is s d acc f o (some H) (some ps):=.inl ⟨H',rs,h,k⟩
def mutD (env:Env) (K:St→Ft→Prop) (is:List PI) (s:St) (d:Option Nat) (acc:Ft) (f o:Nat) (od:Option (List Dt)) (oa:Option (List Pa)):Prop:=withSome oa fun ps=>withSome od fun ds=>∃ ds' rs,env.m f ds ps ds' rs∧ds'.length=ds.length∧evalD env is (s.ap d (resAv rs) (.wr o 0 (ds'.map .d))) (([(o,0,big),(d.getD 0,big - 1,1)],[(o,0,(ds'.map Cl.d).length)]) :: acc) K
def callRD (env:Env) (K:St→Ft→Prop) (is:List PI) (s:St) (d:Option Nat) (acc:Ft) (f:Nat) (xs:List PX):Option (Nat×Nat)→Option (Nat×Nat)→Prop
 | some (o,g),_=>methD env K is s d acc f o (s.abAt o g) (s.args xs.tail)
 | none,some (o,g)=>mutD env K is s d acc f o (s.cellsAt o g) (s.args xs.tail)
 | none,none=>callD env K is s d acc f (s.args xs)
theorem callRD_none {f:Nat} {xs:List PX}:callRD env KD is s d acc f xs none none=callD env KD is s d acc f (s.args xs):=nrfl rfl
theorem callRD_ptr {f o g:Nat} {xs:List PX}:callRD env KD is s d acc f xs none (some (o,g))=mutD env KD is s d acc f o (s.cellsAt o g) (s.args xs.tail):=nrfl rfl
theorem callRD_some {f o g:Nat} {xs:List PX} {p:Option (Nat×Nat)}:callRD env KD is s d acc f xs (some (o,g)) p=methD env KD is s d acc f o (s.abAt o g) (s.args xs.tail):=nrfl rfl
def goD (env:Env) (K:St→Ft→Prop) (is:List PI) (s:St) (d:Option Nat) (acc:Ft) (op:PO):Prop:=op.go env s (d.getD 0) fun v ch=>evalD env is (s.ap d v ch) ((op.rd s (d.getD 0),ch.wrs) :: acc) K
def guardD (env:Env) (K:St→Ft→Prop) (is:List PI) (s:St) (d:Option Nat) (acc:Ft) (op:PO) (t:Nat) (want:Bool):Option (Option Bool)→Prop
 | none=>False
 | some none=>evalD env is (s.ap d skp .no) ((op.rd s (d.getD 0),[]) :: acc) K
 | some (some b)=>(b=want→goD env K is (s.ap (some t) (scAv (.bool want)) .no) d acc op)∧(b=!want→evalD env is ((s.ap (some t) (scAv (.bool !want)) .no).ap d skp .no) ((op.rd s (d.getD 0),[]) :: acc) K)
theorem guardD_skp {op:PO} {t:Nat} {want:Bool}:guardD env KD is s d acc op t want (some none)=evalD env is (s.ap d skp .no) ((op.rd s (d.getD 0),[]) :: acc) KD:=nrfl rfl
theorem guardD_some {op:PO} {t:Nat} {want b:Bool}:guardD env KD is s d acc op t want (some (some b))=((b=want→goD env KD is (s.ap (some t) (scAv (.bool want)) .no) d acc op)∧(b=!want→evalD env is ((s.ap (some t) (scAv (.bool !want)) .no).ap d skp .no) ((op.rd s (d.getD 0),[]) :: acc) KD)):=nrfl rfl
theorem evalD_nil:evalD env [] s acc KD=KD s acc.reverse:=nrfl rfl
theorem goD_fn {op:PO} (h:op.isCall=false):goD env KD is s d acc op=contD env KD is s d acc (op.rd s (d.getD 0)) (op.fn s (d.getD 0)):=by
 unfold goD;rw [PO.go_fn h];rfl
def callVD (env:Env) (K:St→Ft→Prop) (is:List PI) (s:St) (d:Option Nat) (acc:Ft) (f:Nat) (xs:List PX):Option Unit→Prop
 | some _=>callRD env K is s d acc f xs (s.recv xs) (s.prcv xs)
 | none=>False
theorem callVD_some {f:Nat} {xs:List PX} {u:Unit}:callVD env KD is s d acc f xs (some u)=callRD env KD is s d acc f xs (s.recv xs) (s.prcv xs):=nrfl rfl
def ldgVD (env:Env) (K:St→Ft→Prop) (is:List PI) (s:St) (d:Option Nat) (acc:Ft):Option Value→Prop
 | some v=>evalD env is (s.ap d (scAv v) .no) (([],[]) :: acc) K
 | none=>False
theorem ldgVD_some {v:Value}:ldgVD env KD is s d acc (some v)=evalD env is (s.ap d (scAv v) .no) (([],[]) :: acc) KD:=nrfl rfl
def halD (env:Env) (K:St→Ft→Prop) (is:List PI) (s:St) (d:Option Nat) (acc:Ft) (c:Nat) (rd:List Rg) (k:HA):Prop:=halG s c (fun v ch=>evalD env is (s.ap d v ch) ((rd,ch.wrs) :: acc) K) k
def callHD (env:Env) (K:St→Ft→Prop) (is:List PI) (s:St) (d:Option Nat) (acc:Ft) (f:Nat) (oa:Option (List Hw)):Prop:=withSome oa fun az=>callHG env s (fun v ch=>evalD env is (s.ap d v ch) (([(HALL,0,big)],ch.wrs) :: acc) K) f az
def callPD (env:Env) (K:St→Ft→Prop) (is:List PI) (s:St) (d:Option Nat) (acc:Ft) (f:Nat) (oa:Option (List Hw)):Prop:=withSome oa fun az=>callPG env s (fun v ch=>evalD env is (s.ap d v ch) (([],ch.wrs) :: acc) K) f az
def callCD (env:Env) (K:St→Ft→Prop) (is:List PI) (s:St) (d:Option Nat) (acc:Ft) (f:Nat) (of:Option (List (Nat×Nat)×List (Nat×Nat))) (oa:Option (List Hw)):Prop:=withSome of fun p=>withSome oa fun az=>callHG env s (fun v ch=>evalD env is (s.ap d v ch) (([(HALL,0,big)],ch.wrs) :: acc) K) f (hpsW p.1 ++ az ++ hpsW p.2)
theorem callCD_some {f:Nat} {az:List Hw} {a c:List (Nat×Nat)}:callCD env KD is s d acc f (some (a,c)) (some az)=callHD env KD is s d acc f (some (hpsW a ++ az ++ hpsW c)):=nrfl rfl
def nextD (env:Env) (K:St→Ft→Prop) (is:List PI) (s:St) (d:Option Nat) (acc:Ft) (x:Cl):Prop:=nextG s x (fun v ch=>evalD env is (s.ap d v ch) (([],ch.wrs) :: acc) K)
def opD (env:Env) (K:St→Ft→Prop) (is:List PI) (s:St) (d:Option Nat) (acc:Ft) (b:Bool) (op:PO):Prop:=match b with
 | true=>(match op with | .call f xs=>callRD env K is s d acc f xs (s.recv xs) (s.prcv xs) | .callv x f xs=>callVD env K is s d acc f xs (fnIs f (s.val x)) | .ldg x=>ldgVD env K is s d acc (gAt env (s.val x)) | .hal c k=>halD env K is s d acc c ((PO.hal c k).rd s (d.getD 0)) k | .next x=>nextD env K is s d acc (s.cl x) | .callh f xs=>callHD env K is s d acc f (s.hws xs) | .callp f xs=>callPD env K is s d acc f (s.hws xs) | .callc x f xs=>callCD env K is s d acc f (fnOf f (s.cl x)) (s.hws xs) | _=>False)
 | false=>contD env K is s d acc (op.rd s (d.getD 0)) (op.fn s (d.getD 0))
theorem opD_false {op:PO}:opD env KD is s d acc false op=contD env KD is s d acc (op.rd s (d.getD 0)) (op.fn s (d.getD 0)):=nrfl rfl
theorem opD_true {f:Nat} {xs:List PX}:opD env KD is s d acc true (.call f xs)=callRD env KD is s d acc f xs (s.recv xs) (s.prcv xs):=nrfl rfl
theorem opD_callv {x:PX} {f:Nat} {xs:List PX}:opD env KD is s d acc true (.callv x f xs)=callVD env KD is s d acc f xs (fnIs f (s.val x)):=nrfl rfl
theorem opD_ldg {x:PX}:opD env KD is s d acc true (.ldg x)=ldgVD env KD is s d acc (gAt env (s.val x)):=nrfl rfl
theorem opD_hal {c:Nat} {k:HA}:opD env KD is s d acc true (.hal c k)=halD env KD is s d acc c ((PO.hal c k).rd s (d.getD 0)) k:=nrfl rfl
theorem opD_callh {f:Nat} {xs:List PX}:opD env KD is s d acc true (.callh f xs)=callHD env KD is s d acc f (s.hws xs):=nrfl rfl
theorem opD_callc {x:PX} {f:Nat} {xs:List PX}:opD env KD is s d acc true (.callc x f xs)=callCD env KD is s d acc f (fnOf f (s.cl x)) (s.hws xs):=nrfl rfl
theorem goD_op {op:PO}:goD env KD is s d acc op=opD env KD is s d acc op.isCall op:=by
 cases hc:op.isCall with
 | true =>
   cases op <;> first
    | (cases hc;done)
    | (rename_i f xs
       show callG env s (d.getD 0) (fun v ch=>evalD env is (s.ap d v ch) (((PO.call f xs).rd s (d.getD 0),ch.wrs) :: acc) KD) f xs (s.recv xs) (s.prcv xs)=callRD env KD is s d acc f xs (s.recv xs) (s.prcv xs)
       have hrd:(PO.call f xs).rd s (d.getD 0)=match s.recv xs,s.prcv xs with | some p,_=>[(p.1,0,big),(d.getD 0,big - 1,1)] | none,some p=>[(p.1,0,big),(d.getD 0,big - 1,1)] | none,none=>[(d.getD 0,big - 1,1)]:=rfl
       rw [hrd];cases s.recv xs <;> cases s.prcv xs <;> rfl)
    | (rename_i x f xs
       show withSome (fnIs f (s.val x)) (fun _=>callG env s (d.getD 0) (fun v ch=>evalD env is (s.ap d v ch) (((PO.callv x f xs).rd s (d.getD 0),ch.wrs) :: acc) KD) f xs (s.recv xs) (s.prcv xs))=callVD env KD is s d acc f xs (fnIs f (s.val x))
       have hrd:(PO.callv x f xs).rd s (d.getD 0)=match s.recv xs,s.prcv xs with | some p,_=>[(p.1,0,big),(d.getD 0,big - 1,1)] | none,some p=>[(p.1,0,big),(d.getD 0,big - 1,1)] | none,none=>[(d.getD 0,big - 1,1)]:=rfl
       rw [hrd]
       cases fnIs f (s.val x) with
       | none=>rfl
       | some u =>
         show callG env s (d.getD 0) (fun v ch=>evalD env is (s.ap d v ch) ((match s.recv xs,s.prcv xs with | some p,_=>[(p.1,0,big),(d.getD 0,big - 1,1)] | none,some p=>[(p.1,0,big),(d.getD 0,big - 1,1)] | none,none=>[(d.getD 0,big - 1,1)],ch.wrs) :: acc) KD) f xs (s.recv xs) (s.prcv xs)=callRD env KD is s d acc f xs (s.recv xs) (s.prcv xs)
         cases s.recv xs <;> cases s.prcv xs <;> rfl)
    | (rename_i x
       show withSome (gAt env (s.val x)) (fun v=>evalD env is (s.ap d (scAv v) .no) (([],[]) :: acc) KD)=ldgVD env KD is s d acc (gAt env (s.val x))
       cases gAt env (s.val x) <;> rfl)
    | rfl
 | false=>rw [opD_false,goD_fn hc]
theorem evalD_plain {op:PO}:evalD env (⟨d,op,none,af⟩ :: is) s acc KD=goD env KD is s d acc op:=nrfl rfl
theorem evalD_guard {op:PO} {t:Nat} {want:Bool}:evalD env (⟨d,op,some (t,want),af⟩ :: is) s acc KD=guardD env KD is s d acc op t want (s.gd t):=by
 change withSome (s.gd t) _=guardD env KD is s d acc op t want (s.gd t)
 cases h:s.gd t with
 | none=>rfl
 | some b =>
   cases b with
   | none=>exact propext ⟨fun k=>k.2 (by simp),fun k=>⟨fun e=>(by simp at e),fun _=>k⟩⟩
   | some b =>
     have hb:=boo_self (gd_boo h);rw [guardD_some]
     show ((some b=some want→_)∧(some b≠some want→_))=_
     rw [some_ne,Option.some.injEq]
     congr 1
     ·apply propext
      refine forall_congr' fun he=>?_
      subst he;rw [hb];rfl
     ·apply propext
      refine forall_congr' fun he=>?_
      rw [←he,hb];rfl
theorem evalD_gT {op:PO} {t:Nat} {want:Bool} (h:s.gd t=some (some want)):evalD env (⟨d,op,some (t,want),af⟩ :: is) s acc KD=goD env KD is s d acc op:=by
 rw [evalD_guard,h,guardD_some,boo_self (gd_boo h)];exact propext ⟨fun k=>k.1 rfl,fun k=>⟨fun _=>k,fun e=>absurd e (by cases want <;> decide)⟩⟩
theorem evalD_gF {op:PO} {t:Nat} {want:Bool} (h:s.gd t=some (some (!want))):evalD env (⟨d,op,some (t,want),af⟩ :: is) s acc KD=evalD env is (s.ap d skp .no) ((op.rd s (d.getD 0),[]) :: acc) KD:=by
 rw [evalD_guard,h,guardD_some,boo_self (gd_boo h)];exact propext ⟨fun k=>k.2 rfl,fun k=>⟨fun e=>absurd e (by cases want <;> decide),fun _=>k⟩⟩
theorem evalD_gS {op:PO} {t:Nat} {want:Bool} (h:s.gd t=some none):evalD env (⟨d,op,some (t,want),af⟩ :: is) s acc KD=evalD env is (s.ap d skp .no) ((op.rd s (d.getD 0),[]) :: acc) KD:=by
 rw [evalD_guard,h,guardD_skp]
inductive It where
 | c (x:PC)
 | bl (id:Nat)
 | lp (I:Nat→St→Prop) (n:Nat)
def exS (env:Env):List It→(Exit→St→Prop)→Exit→St→Prop
 | [],Q,e,s=>Q e s
 | .c b :: k,Q,e,s=>match e with
   | .normal=>pwp env b (exS env k Q) s
   | e=>exS env k Q e s
 | .bl id :: k,Q,e,s=>match e with
   | .exit i=>if i=id then exS env k Q .normal s else exS env k Q (.exit i) s
   | e=>exS env k Q e s
 | .lp I n :: k,Q,e,s=>match e with
   | .normal=>∃ m,m < n∧I m s
   | e=>exS env k Q e s
variable {k:List It} {Q:Exit→St→Prop}
theorem exS_nil {e:Exit}:exS env [] Q e s=Q e s:=nrfl rfl
theorem exS_c {b:PC}:exS env (.c b :: k) Q .normal s=pwp env b (exS env k Q) s:=nrfl rfl
theorem exS_c_ret {b:PC}:exS env (.c b :: k) Q .ret s=exS env k Q .ret s:=nrfl rfl
theorem exS_c_exit {b:PC} {i:Nat}:exS env (.c b :: k) Q (.exit i) s=exS env k Q (.exit i) s:=nrfl rfl
theorem exS_bl {id:Nat}:exS env (.bl id :: k) Q .normal s=exS env k Q .normal s:=nrfl rfl
theorem exS_bl_ret {id:Nat}:exS env (.bl id :: k) Q .ret s=exS env k Q .ret s:=nrfl rfl
theorem exS_bl_exit {id i:Nat}:exS env (.bl id :: k) Q (.exit i) s=if i=id then exS env k Q .normal s else exS env k Q (.exit i) s:=nrfl rfl
theorem exS_lp_ret {I:Nat→St→Prop} {n:Nat}:exS env (.lp I n :: k) Q .ret s=exS env k Q .ret s:=nrfl rfl
theorem exS_lp_exit {I:Nat→St→Prop} {n i:Nat}:exS env (.lp I n :: k) Q (.exit i) s=exS env k Q (.exit i) s:=nrfl rfl
theorem pwp_start {c:PC} (h:pwp env c (exS env [] Q) s):pwp env c Q s:=h
theorem pwp_fresh {Q':Exit→St→Prop} {c:PC} (sls obs:List Nat) (h:∀ st:St,(∀ x,x ∈ sls→st.sl x=s.sl x)→(∀ o,o ∈ obs→st.gen o=s.gen o∧st.ob o=s.ob o)→pwp env c Q' st):pwp env c Q' s:=h s (fun _ _=>rfl) (fun _ _=>⟨rfl,rfl⟩)
theorem pwp_skip:pwp env .skip (exS env k Q) s=exS env k Q .normal s:=nrfl rfl
theorem pwp_reg {ops:List PI}:pwp env (.reg false ops) (exS env k Q) s=evalOps env ops s (exS env k Q .normal):=nrfl rfl
def drawn (ops:List PI) (K:St→Prop) (s:St) (fts:Ft):Prop:=drawOk ops fts=true∧K s
def Drw (ops:List PI) (fts:Ft):Prop:=drawOk ops fts=true
theorem drawn_and {ops:List PI} {K:St→Prop} {fts:Ft}:drawn ops K s fts=(Drw ops fts∧K s):=nrfl rfl
theorem pwp_regD {ops:List PI}:pwp env (.reg true ops) (exS env k Q) s=evalD env ops s [] (drawn ops (exS env k Q .normal)):=nrfl rfl
theorem pwp_seq {a b:PC}:pwp env (.seq a b) (exS env k Q) s=pwp env a (exS env (.c b :: k) Q) s:=by
 show pwp env a _ s=_
 congr 1
def condS (env:Env) (a b:PC) (k:List It) (Q:Exit→St→Prop) (s:St) (o:Option Bool):Prop:=withSome o fun t=>(t=true→pwp env a (exS env k Q) s)∧(t=false→pwp env b (exS env k Q) s)
theorem condS_some {a b:PC} {t:Bool}:condS env a b k Q s (some t)=((t=true→pwp env a (exS env k Q) s)∧(t=false→pwp env b (exS env k Q) s)):=nrfl rfl
theorem pwp_cond {c:PX} {a b:PC}:pwp env (.cond c a b) (exS env k Q) s=condS env a b k Q s (s.boo c):=nrfl rfl
theorem pwp_block {id:Nat} {c:PC}:pwp env (.block id c) (exS env k Q) s=pwp env c (exS env (.bl id :: k) Q) s:=by
 show pwp env c _ s=_
 congr 1
theorem pwp_exit {id:Nat}:pwp env (.exit id) (exS env k Q) s=exS env k Q (.exit id) s:=nrfl rfl
theorem pwp_ret:pwp env .ret (exS env k Q) s=exS env k Q .ret s:=nrfl rfl
theorem pwp_loop {c:PC} (I:Nat→St→Prop) (n:Nat) (h0:I n s) (h:∀ n s,I n s→pwp env c (exS env (.lp I n :: k) Q) s):pwp env (.loop c) (exS env k Q) s:=by
 refine ⟨I,⟨n,h0⟩,fun n s hI=>?_⟩;have:=h n s hI
 have he:exS env (.lp I n :: k) Q=fun e s'=>match e with | .normal=>∃ m,m < n∧I m s' | e=>exS env k Q e s':=by
  funext e s'
  cases e <;> rfl
 rw [he] at this;exact this
theorem ap_sl {x:Nat} {v:Av} {ch:Cg}:(s.ap (some x) v ch).sl=up s.sl x v:=nrfl rfl
theorem ap_sl0 {v:Av} {ch:Cg}:(s.ap none v ch).sl=s.sl:=nrfl rfl
theorem ap_gen {v:Av}:(s.ap d v .no).gen=s.gen:=nrfl rfl
theorem ap_genw {v:Av} {o off:Nat} {cs:List Cl}:(s.ap d v (.wr o off cs)).gen=s.gen:=nrfl rfl
theorem ap_genr {v:Av} {o m:Nat}:(s.ap d v (.row o m)).gen=s.gen:=nrfl rfl
theorem ap_genn {v:Av} {o:Nat} {x:Ob}:(s.ap d v (.new o x)).gen=up s.gen o (s.gen o+1):=nrfl rfl
theorem ap_ob {v:Av}:(s.ap d v .no).ob=s.ob:=nrfl rfl
theorem ap_obw {v:Av} {o off:Nat} {cs:List Cl}:(s.ap d v (.wr o off cs)).ob=up s.ob o (wrF off cs (s.ob o)):=by
 rw [ap_eq];rfl
theorem ap_obr {v:Av} {o m:Nat}:(s.ap d v (.row o m)).ob=up s.ob o (rowF m (s.ob o)):=by
 rw [ap_eq];rfl
theorem ap_obn {v:Av} {o:Nat} {x:Ob}:(s.ap d v (.new o x)).ob=up s.ob o x:=nrfl rfl
theorem ap_nc {v:Av} {ch:Cg}:(s.ap d v ch).nc=s.nc:=nrfl rfl
theorem ap_genh {v:Av} {o:Nat} {l:List (Nat×Hb)}:(s.ap d v (.hw o l)).gen=s.gen:=nrfl rfl
theorem ap_gena {v:Av} {h:Nat→Hb}:(s.ap d v (.hall h)).gen=s.gen:=nrfl rfl
theorem ap_obh {v:Av} {c x:Nat} {l:List (Nat×Hb)} (hx:x < 1000000):(s.ap d v (.hw (HBS+c) l)).ob x=s.ob x:=by
 show up s.ob (HBS+c) _ x=_
 rw [up_at,if_neg (by unfold HBS;omega)]
theorem ap_oba {v:Av} {x:Nat} {h:Nat→Hb} (hx:x < 1000000):(s.ap d v (.hall h)).ob x=s.ob x:=by
 show (if HBS≤x then _ else _)=_
 rw [if_neg (by unfold HBS;omega)]
theorem hb_no {v:Av}:(s.ap d v .no).hb=s.hb:=nrfl rfl
theorem hb_new {v:Av} {o:Nat} {x:Ob} (h:o < 1000000):(s.ap d v (.new o x)).hb=s.hb:=by
 funext b
 exact hb_up (o:=o) (fun p hp=>by show up s.ob o x p=_;rw [up_at,if_neg hp]) (.inl (by unfold HBS;exact h)) b
theorem hb_wr {v:Av} {o off:Nat} {cs:List Cl} (h:o < 1000000):(s.ap d v (.wr o off cs)).hb=s.hb:=by
 funext b
 exact hb_up (o:=o) (fun p hp=>by rw [ap_obw,up_at,if_neg hp]) (.inl (by unfold HBS;exact h)) b
theorem hb_row {v:Av} {o m:Nat} (h:o < 1000000):(s.ap d v (.row o m)).hb=s.hb:=by
 funext b
 exact hb_up (o:=o) (fun p hp=>by rw [ap_obr,up_at,if_neg hp]) (.inl (by unfold HBS;exact h)) b
theorem hb_ab {v:Av} {o:Nat} {H:HP} (h:o < 1000000):(s.ap d v (.ab o H)).hb=s.hb:=by
 funext b
 exact hb_up (o:=o) (fun p hp=>by show up s.ob o (.ab H) p=_;rw [up_at,if_neg hp]) (.inl (by unfold HBS;exact h)) b
theorem upl_out {f g:Nat→Hb} {b:Nat}:∀ {l:List (Nat×Hb)},f b=g b→upl f l b=upl g l b
 | [],h=>h
 | (c,x) :: l,h=>by
   show upl (up f c x) l b=upl (up g c x) l b
   exact upl_out (l:=l) (by rw [up_at,up_at,h])
theorem upl_not {f:Nat→Hb} {b:Nat}:∀ {l:List (Nat×Hb)},(∀ p ∈ l,p.1≠b)→upl f l b=f b
 | [],_=>rfl
 | (c,x) :: l,h=>by
   show upl (up f c x) l b=f b
   rw [upl_not (fun p hp=>h p (by simp [hp])),up_at,if_neg (Ne.symm (h (c,x) (by simp)))]
theorem hb_hwl {v:Av} {c:Nat} {l:List (Nat×Hb)} (h:∀ p ∈ l,s.nc p.1=c):(s.ap d v (.hw (HBS+c) l)).hb=upl s.hb l:=by
 funext b
 show heapOf (up s.ob (HBS+c) (.hp (upl (heapOf (s.ob (HBS+c))) l)) (HBS+s.nc b)) b=upl s.hb l b
 rw [up_at]
 by_cases hb:s.nc b=c
 ·rw [if_pos (by rw [hb])];exact upl_out (show heapOf (s.ob (HBS+c)) b=heapOf (s.ob (HBS+s.nc b)) b by rw [hb])
 ·rw [if_neg (by omega),upl_not (fun p hp e=>hb (by rw [←e];exact h p hp))]
  rfl
theorem hb_hw1 {v:Av} {c b:Nat} {x:Hb} (h:s.nc b=c):(s.ap d v (.hw (HBS+c) [(b,x)])).hb=up s.hb b x:=hb_hwl (by simpa using h)
theorem hb_hw2 {v:Av} {c b b':Nat} {x x':Hb} (h:s.nc b=c) (h':s.nc b'=c):(s.ap d v (.hw (HBS+c) [(b,x),(b',x')])).hb=up (up s.hb b x) b' x':=hb_hwl (by simp [h,h'])
theorem hb_all {v:Av} {h:Nat→Hb}:(s.ap d v (.hall h)).hb=h:=hb_hall
def chLow:Cg→Bool
 | .new o _=>decide (o < 1000000)
 | .wr o _ _=>decide (o < 1000000)
 | .row o _=>decide (o < 1000000)
 | .ab o _=>decide (o < 1000000)
 | _=>true
def AllHp (s:St):Prop:=∀ c,isHp (s.ob (HBS+c))=true
theorem AllHp.ap {v:Av} {ch:Cg} (h:AllHp s) (hc:chLow ch=true):AllHp (s.ap d v ch):=fun c=>by
 have hHB:∀ o,decide (o < 1000000)=true→HBS+c≠o:=fun o ho=>by have:=of_decide_eq_true ho;unfold HBS;omega
 rw [ap_eq]
 show isHp (ch.oF s.nc s.ob (HBS+c))=true
 cases ch with
 | no=>exact h c
 | new o x=>simp only [Cg.oF,md,up_at,if_neg (hHB o hc)];exact h c
 | wr o off cs=>simp only [Cg.oF,md,up_at,if_neg (hHB o hc)];exact h c
 | row o m=>simp only [Cg.oF,md,up_at,if_neg (hHB o hc)];exact h c
 | ab o H=>simp only [Cg.oF,md,up_at,if_neg (hHB o hc)];exact h c
 | hw o l=>simp only [Cg.oF,md,up_at];split;rfl;exact h c
 | hall hp=>simp only [Cg.oF];rw [if_pos (Nat.le_add_right _ _)];rfl
theorem AllHp.init {nc:Nat→Nat} {hp:Nat→Hb} {az:List Hw}:AllHp (St.initH nc hp az):=fun c=>by
 show isHp (if HBS≤HBS+c then _ else _)=true
 rw [if_pos (Nat.le_add_right _ _)];rfl
def initSlH:List Hw→Nat→Av
 | [],_=>.un
 | p :: _,0=>.b p.bv
 | _ :: r,n+1=>initSlH r n
theorem initH_sl (nc:Nat→Nat) (hp:Nat→Hb) (ps:List Hw) (x:Nat):(St.initH nc hp ps).sl x=initSlH ps x:=by
 show (match ps[x]? with | some p=>Av.b p.bv | none=>.un)=_
 induction ps generalizing x with
 | nil=>simp [initSlH]
 | cons p r ih =>
   cases x with
   | zero=>rfl
   | succ x=>rw [List.getElem?_cons_succ,ih x];rfl
theorem initH_gen {nc:Nat→Nat} {hp:Nat→Hb} {ps:List Hw} {x:Nat}:(St.initH nc hp ps).gen x=0:=nrfl rfl
theorem initH_ob {nc:Nat→Nat} {hp:Nat→Hb} {ps:List Hw} {x:Nat} (h:x < 1000000):(St.initH nc hp ps).ob x=.no:=by
 show (if HBS≤x then _ else _)=_
 rw [if_neg (by unfold HBS;omega)]
theorem initH_nc {nc:Nat→Nat} {hp:Nat→Hb} {ps:List Hw}:(St.initH nc hp ps).nc=nc:=nrfl rfl
theorem wrF_cells {off:Nat} {cs old:List Cl}:wrF off cs (.cells old)=.cells (wrAt old off cs):=nrfl rfl
theorem rowF_row {m E sz n:Nat}:rowF m (.row E sz n)=.row E sz m:=nrfl rfl
def initSl:List Pa→Nat→Av
 | [],_=>.un
 | p :: _,0=>.b p.bv
 | _ :: r,n+1=>initSl r n
theorem init_sl (ps:List Pa) (x:Nat):(St.init ps).sl x=initSl ps x:=by
 show (match ps[x]? with | some p=>Av.b p.bv | none=>.un)=_
 induction ps generalizing x with
 | nil=>simp [initSl]
 | cons p r ih =>
   cases x with
   | zero=>rfl
   | succ x=>rw [List.getElem?_cons_succ,ih x];rfl
theorem initM_sl0 {ds:List Dt} {ps:List Pa}:(St.initM ds ps).sl 0=.b (.one (.ptr 0 0 0)):=nrfl rfl
theorem initM_slS {ds:List Dt} {ps:List Pa} {x:Nat}:(St.initM ds ps).sl (x+1)=initSl ps x:=(init_sl ps x)
theorem initM_gen {ds:List Dt} {ps:List Pa} {x:Nat}:(St.initM ds ps).gen x=0:=nrfl rfl
theorem initM_ob0 {ds:List Dt} {ps:List Pa}:(St.initM ds ps).ob 0=.cells (ds.map .d):=nrfl rfl
theorem initM_obS {ds:List Dt} {ps:List Pa} {x:Nat}:(St.initM ds ps).ob (x+1)=.no:=nrfl rfl
theorem init_gen {ps:List Pa} {x:Nat}:(St.init ps).gen x=0:=nrfl rfl
theorem init_ob {ps:List Pa} {x:Nat}:(St.init ps).ob x=.no:=nrfl rfl
theorem ev_t {x:Nat}:s.ev (.t x)=s.sl x:=nrfl rfl
theorem ev_int {k:IntKind} {m:Int}:s.ev (.v (.int k m))=.b (.one (.d (.sc (.int k m)))):=nrfl rfl
theorem ev_bool {b:Bool}:s.ev (.v (.bool b))=.b (.one (.d (.sc (.bool b)))):=nrfl rfl
theorem ev_string {b:ByteArray}:s.ev (.v (.string b))=.b (.one (.d (.sc (.string b)))):=nrfl rfl
theorem ev_nil:s.ev (.v (.slice none 0 0))=.b (.one (.d (.sc (.slice none 0 0)))):=nrfl rfl
theorem ev_agg {l:Array Value}:s.ev (.v (.agg l))=.b (.agg (l.toList.map fun v=>.d (.sc v))):=nrfl rfl
theorem ev_ptr:s.ev (.v (.pointer none))=.b (.one (.d (.sc (.pointer none)))):=nrfl rfl
theorem args_nil:s.args []=some []:=nrfl rfl
theorem args_cons {x:PX} {xs:List PX}:s.args (x :: xs)=(match (s.ev x).pa with | some p=>(s.args xs).map (p :: ·) | none=>none):=by
 unfold St.args;simp only [List.map_cons];cases (s.ev x).pa <;> rfl
end
def Within (ms os:List Nat) (s0 st:St):Prop:=(∀ x,ms.contains x=false→st.sl x=s0.sl x)∧∀ o,os.contains o=false→st.gen o=s0.gen o∧st.ob o=s0.ob o
def over (ms os:List Nat) (s0 j:St):St:=⟨fun x=>bif ms.contains x then j.sl x else s0.sl x,fun o=>bif os.contains o then j.gen o else s0.gen o,fun o=>bif os.contains o then j.ob o else s0.ob o,j.nc⟩
theorem Within.refl (ms os:List Nat) (s:St):Within ms os s s:=⟨fun _ _=>rfl,fun _ _=>⟨rfl,rfl⟩⟩
theorem Within.over {ms os:List Nat} {s0 st:St} (h:Within ms os s0 st):∃ j,st=over ms os s0 j:=by
 refine ⟨st,?_⟩;obtain ⟨h1,h2⟩:=h
 have e1:st.sl=(Go.Proofs.Ytffcpijeebagfaa.over ms os s0 st).sl:=by
  funext x
  show st.sl x=bif ms.contains x then st.sl x else s0.sl x
  cases hx:ms.contains x with
  | true=>rfl
  | false=>exact h1 x hx
 have e2:st.gen=(Go.Proofs.Ytffcpijeebagfaa.over ms os s0 st).gen:=by
  funext x
  show st.gen x=bif os.contains x then st.gen x else s0.gen x
  cases hx:os.contains x with
  | true=>rfl
  | false=>exact (h2 x hx).1
 have e3:st.ob=(Go.Proofs.Ytffcpijeebagfaa.over ms os s0 st).ob:=by
  funext x
  show st.ob x=bif os.contains x then st.ob x else s0.ob x
  cases hx:os.contains x with
  | true=>rfl
  | false=>exact (h2 x hx).2
 show (⟨st.sl,st.gen,st.ob,st.nc⟩:St)=⟨(Go.Proofs.Ytffcpijeebagfaa.over ms os s0 st).sl,(Go.Proofs.Ytffcpijeebagfaa.over ms os s0 st).gen,(Go.Proofs.Ytffcpijeebagfaa.over ms os s0 st).ob,st.nc⟩
 rw [←e1,←e2,←e3]
theorem over_sl {ms os:List Nat} {s0 j:St} {x:Nat}:(over ms os s0 j).sl x=bif ms.contains x then j.sl x else s0.sl x:=nrfl rfl
theorem over_gen {ms os:List Nat} {s0 j:St} {x:Nat}:(over ms os s0 j).gen x=bif os.contains x then j.gen x else s0.gen x:=nrfl rfl
theorem over_ob {ms os:List Nat} {s0 j:St} {x:Nat}:(over ms os s0 j).ob x=bif os.contains x then j.ob x else s0.ob x:=nrfl rfl
theorem within_over {ms os:List Nat} {s0 j:St}:Within ms os s0 (over ms os s0 j)=True:=by
 apply propext
 refine ⟨fun _=>trivial,fun _=>⟨fun x hx=>?_,fun o ho=>⟨?_,?_⟩⟩⟩
 ·rw [over_sl,hx];rfl
 ·rw [over_gen,ho];rfl
 ·rw [over_ob,ho];rfl
def chIn (os:List Nat):Cg→Bool
 | .ab o _=>os.contains o
 | .no=>true
 | .new o _=>os.contains o
 | .wr o _ _=>os.contains o
 | .row o _=>os.contains o
 | .hw o _=>os.contains o
 | .hall _=>false
theorem Within.ap {ms os:List Nat} {s0 s:St} {d:Option Nat} {v:Av} {ch:Cg} (h:Within ms os s0 s) (hd:∀ x,d=some x→ms.contains x=true) (hc:chIn os ch=true):Within ms os s0 (s.ap d v ch):=by
 obtain ⟨h1,h2⟩:=h;rw [ap_eq];refine ⟨fun x hx=>?_,fun o ho=>?_⟩
 ·cases d with
  | none=>exact h1 x hx
  | some y =>
    show up s.sl y v x=_
    rw [up_at,if_neg]
    ·exact h1 x hx
    ·rintro rfl;rw [hd x rfl] at hx;cases hx
 ·have key:∀ y:Nat,os.contains y=true→o≠y:=by
   rintro y hy rfl;rw [hy] at ho;cases ho
  show ch.gF s.gen o=_∧ch.oF s.nc s.ob o=_
  cases ch with
  | no=>exact h2 o ho
  | new y x=>simp only [Cg.gF,Cg.oF,Go.Proofs.Ytffcpijeebagfaa.md,up_at,if_neg (key y hc)];exact h2 o ho
  | wr y off cs=>simp only [Cg.gF,Cg.oF,Go.Proofs.Ytffcpijeebagfaa.md,up_at,if_neg (key y hc)];exact h2 o ho
  | row y m=>simp only [Cg.gF,Cg.oF,Go.Proofs.Ytffcpijeebagfaa.md,up_at,if_neg (key y hc)];exact h2 o ho
  | ab y H=>simp only [Cg.gF,Cg.oF,Go.Proofs.Ytffcpijeebagfaa.md,up_at,if_neg (key y hc)];exact h2 o ho
  | hw y l=>simp only [Cg.gF,Cg.oF,Go.Proofs.Ytffcpijeebagfaa.md,up_at,if_neg (key y hc)];exact h2 o ho
  | hall h=>cases hc
theorem within_ap {ms os:List Nat} {s0 s:St} {x:Nat} {v:Av} {ch:Cg} (h:Within ms os s0 s) (hd:ms.contains x=true) (hc:chIn os ch=true):Within ms os s0 (s.ap (some x) v ch):=h.ap (fun y hy=>by cases hy;exact hd) hc
theorem within_ap0 {ms os:List Nat} {s0 s:St} {v:Av} {ch:Cg} (h:Within ms os s0 s) (hc:chIn os ch=true):Within ms os s0 (s.ap none v ch):=h.ap (fun y hy=>by cases hy) hc
theorem Within.trans {ms os:List Nat} {a b c:St} (h:Within ms os a b) (k:Within ms os b c):Within ms os a c :=
 ⟨fun x hx=>(k.1 x hx).trans (h.1 x hx),fun o ho=>⟨(k.2 o ho).1.trans (h.2 o ho).1,(k.2 o ho).2.trans (h.2 o ho).2⟩⟩
theorem pwp_loopW {env:Env} {k:List It} {Q:Exit→St→Prop} {s:St} {c:PC} (ms os:List Nat) (J:Nat→St→Prop) (m0:Nat) (h0:J m0 s)
 (h:∀ m j,J m (over ms os s j)→pwp env c (exS env (.lp (fun m st=>Within ms os s st∧J m st) m :: k) Q) (over ms os s j)):pwp env (.loop c) (exS env k Q) s :=
 pwp_loop (fun m st=>Within ms os s st∧J m st) m0 ⟨Within.refl _ _ _,h0⟩ (fun m st ⟨hW,hJ⟩=>by
  obtain ⟨j,rfl⟩:=hW.over;exact h m j hJ)
def WithinH (ms os:List Nat) (s0 st:St):Prop:=(∀ x,ms.contains x=false→st.sl x=s0.sl x)∧(∀ o,os.contains o=false→st.gen o=s0.gen o∧(o < 1000000→st.ob o=s0.ob o))∧st.nc=s0.nc∧AllHp st
def overH (ms os:List Nat) (s0 j:St):St:=⟨fun x=>bif ms.contains x then j.sl x else s0.sl x,fun o=>bif os.contains o then j.gen o else s0.gen o,fun o=>if o < 1000000 then (bif os.contains o then j.ob o else s0.ob o) else j.ob o,s0.nc⟩
theorem WithinH.refl (ms os:List Nat) {s:St} (h:AllHp s):WithinH ms os s s:=⟨fun _ _=>rfl,fun _ _=>⟨rfl,fun _=>rfl⟩,rfl,h⟩
theorem WithinH.over {ms os:List Nat} {s0 st:St} (h:WithinH ms os s0 st):st=overH ms os s0 st:=by
 obtain ⟨h1,h2,h3,_⟩:=h
 have e1:st.sl=(overH ms os s0 st).sl:=by
  funext x
  show st.sl x=bif ms.contains x then st.sl x else s0.sl x
  cases hx:ms.contains x with
  | true=>rfl
  | false=>exact h1 x hx
 have e2:st.gen=(overH ms os s0 st).gen:=by
  funext x
  show st.gen x=bif os.contains x then st.gen x else s0.gen x
  cases hx:os.contains x with
  | true=>rfl
  | false=>exact (h2 x hx).1
 have e3:st.ob=(overH ms os s0 st).ob:=by
  funext x
  show st.ob x=if x < 1000000 then (bif os.contains x then st.ob x else s0.ob x) else st.ob x
  split
  ·rename_i hlt
   cases hx:os.contains x with
   | true=>rfl
   | false=>exact (h2 x hx).2 hlt
  ·rfl
 have e4:st.nc=(overH ms os s0 st).nc:=h3
 show (⟨st.sl,st.gen,st.ob,st.nc⟩:St)=⟨(overH ms os s0 st).sl,(overH ms os s0 st).gen,(overH ms os s0 st).ob,(overH ms os s0 st).nc⟩
 rw [←e1,←e2,←e3,←e4]
theorem overH_sl {ms os:List Nat} {s0 j:St} {x:Nat}:(overH ms os s0 j).sl x=bif ms.contains x then j.sl x else s0.sl x:=nrfl rfl
theorem overH_gen {ms os:List Nat} {s0 j:St} {x:Nat}:(overH ms os s0 j).gen x=bif os.contains x then j.gen x else s0.gen x:=nrfl rfl
theorem overH_ob {ms os:List Nat} {s0 j:St} {x:Nat} (h:x < 1000000):(overH ms os s0 j).ob x=bif os.contains x then j.ob x else s0.ob x:=by
 show (if x < 1000000 then _ else _)=_
 rw [if_pos h]
theorem overH_nc {ms os:List Nat} {s0 j:St}:(overH ms os s0 j).nc=s0.nc:=nrfl rfl
theorem overH_hb {ms os:List Nat} {s0 j:St} (h:j.nc=s0.nc):(overH ms os s0 j).hb=j.hb:=by
 funext b
 show heapOf (if HBS+s0.nc b < 1000000 then _ else j.ob (HBS+s0.nc b)) b=heapOf (j.ob (HBS+j.nc b)) b
 rw [if_neg (by unfold HBS;omega),h]
def chInH (os:List Nat):Cg→Bool
 | .ab o _=>os.contains o && decide (o < 1000000)
 | .no=>true
 | .new o _=>os.contains o && decide (o < 1000000)
 | .wr o _ _=>os.contains o && decide (o < 1000000)
 | .row o _=>os.contains o && decide (o < 1000000)
 | .hw o _=>decide (1000000≤o)
 | .hall _=>true
theorem WithinH.ap {ms os:List Nat} {s0 s:St} {d:Option Nat} {v:Av} {ch:Cg} (h:WithinH ms os s0 s) (hd:∀ x,d=some x→ms.contains x=true) (hc:chInH os ch=true):WithinH ms os s0 (s.ap d v ch):=by
 obtain ⟨h1,h2,h3,h4⟩:=h;have hlow:chLow ch=true:=by cases ch <;> simp only [chInH,Bool.and_eq_true] at hc <;> first | rfl | exact hc.2
 have h4':=h4.ap (d:=d) (v:=v) hlow;rw [ap_eq] at h4' ⊢;refine ⟨fun x hx=>?_,fun o ho=>?_,h3,h4'⟩
 ·cases d with
  | none=>exact h1 x hx
  | some y =>
    show up s.sl y v x=_
    rw [up_at,if_neg]
    ·exact h1 x hx
    ·rintro rfl;rw [hd x rfl] at hx;cases hx
 ·have key:∀ y:Nat,os.contains y=true→o≠y:=by
   rintro y hy rfl;rw [hy] at ho;cases ho
  show ch.gF s.gen o=_∧(o < 1000000→ch.oF s.nc s.ob o=_)
  obtain ⟨g1,g2⟩:=h2 o ho
  cases ch with
  | no=>exact ⟨g1,g2⟩
  | new y x=>simp only [chInH,Bool.and_eq_true] at hc;simp only [Cg.gF,Cg.oF,Go.Proofs.Ytffcpijeebagfaa.md,up_at,if_neg (key y hc.1)];exact ⟨g1,g2⟩
  | wr y off cs=>simp only [chInH,Bool.and_eq_true] at hc;simp only [Cg.gF,Cg.oF,Go.Proofs.Ytffcpijeebagfaa.md,up_at,if_neg (key y hc.1)];exact ⟨g1,g2⟩
  | row y m=>simp only [chInH,Bool.and_eq_true] at hc;simp only [Cg.gF,Cg.oF,Go.Proofs.Ytffcpijeebagfaa.md,up_at,if_neg (key y hc.1)];exact ⟨g1,g2⟩
  | ab y H=>simp only [chInH,Bool.and_eq_true] at hc;simp only [Cg.gF,Cg.oF,Go.Proofs.Ytffcpijeebagfaa.md,up_at,if_neg (key y hc.1)];exact ⟨g1,g2⟩
  | hw y l =>
    have hy:=of_decide_eq_true hc;refine ⟨g1,fun hlt=>?_⟩;simp only [Cg.oF,Go.Proofs.Ytffcpijeebagfaa.md,up_at,if_neg (show o≠y by omega)];exact g2 hlt
  | hall hp =>
    refine ⟨g1,fun hlt=>?_⟩;simp only [Cg.oF];rw [if_neg (by unfold HBS;omega)];exact g2 hlt
theorem wr64 {x:Int} (h1:-9223372036854775808≤x) (h2:x≤9223372036854775807):IntKind.i64.wrap x=x:=IntWalk.i64_in x ⟨h1,h2⟩
theorem wrN {k:Nat} (h:k≤1000000000):IntKind.i64.wrap ((k:Int)+1)=((k+1:Nat):Int):=by
 rw [wr64 (by omega) (by omega)];omega
end Go.Proofs.Ytffcpijeebagfaa
end
section
namespace Go.Proofs.Ytffcpijeebagfaa
open Go Go.RowKit
set_option maxRecDepth 100000
def unN:Option Value→Option (Av×Cg)
 | some (.bool b)=>some (scAv (.bool !b),.no)
 | _=>none
def unG:Option Value→Option (Av×Cg)
 | some (.int k n)=>some (scAv (.int k (k.wrap (0 - n))),.no)
 | _=>none
def unX:Option Value→Option (Av×Cg)
 | some (.int k n)=>some (scAv (.int k (k.wrap (BitVec.ofInt k.bits (if k.signed then -1 else k.max) ^^^ BitVec.ofInt k.bits n).toNat)),.no)
 | _=>none
theorem fn_not {s:St} {d:Nat} {x:PX}:PO.fn s d (.un .not x)=unN (s.val x):=by
 cases h:s.val x with
 | none=>simp only [PO.fn,h,unN]
 | some v=>cases v <;> simp only [PO.fn,h,unN]
theorem fn_neg {s:St} {d:Nat} {x:PX}:PO.fn s d (.un .neg x)=unG (s.val x):=by
 cases h:s.val x with
 | none=>simp only [PO.fn,h,unG]
 | some v=>cases v <;> simp only [PO.fn,h,unG]
theorem fn_xor {s:St} {d:Nat} {x:PX}:PO.fn s d (.un .xor x)=unX (s.val x):=by
 cases h:s.val x with
 | none=>simp only [PO.fn,h,unX]
 | some v=>cases v <;> simp only [PO.fn,h,unX]
theorem evP:type_of% (
 And.intro @evalOps_gT <|
 And.intro @evalOps_gF <|
 And.intro @evalOps_gS <|
 And.intro @evalD_gT <|
 And.intro @evalD_gF <|
 And.intro @evalD_gS <|
 And.intro @pwp_skip <|
 And.intro @pwp_reg <|
 And.intro @pwp_regD <|
 And.intro @pwp_seq <|
 And.intro @pwp_cond <|
 And.intro @pwp_block <|
 And.intro @pwp_exit <|
 @pwp_ret) :=
 And.intro @evalOps_gT <|
 And.intro @evalOps_gF <|
 And.intro @evalOps_gS <|
 And.intro @evalD_gT <|
 And.intro @evalD_gF <|
 And.intro @evalD_gS <|
 And.intro @pwp_skip <|
 And.intro @pwp_reg <|
 And.intro @pwp_regD <|
 And.intro @pwp_seq <|
 And.intro @pwp_cond <|
 And.intro @pwp_block <|
 And.intro @pwp_exit <|
 @pwp_ret
theorem evB:type_of% (
 And.intro @guardOps_skp <|
 And.intro @guardD_skp <|
 And.intro @St.gd.eq_1 <|
 And.intro @isSkp.eq_1 <|
 And.intro @isSkp.eq_2 <|
 And.intro @isSkp.eq_3 <|
 And.intro @isSkp.eq_4 <|
 And.intro @skp.eq_1 <|
 And.intro @condS_some <|
 And.intro @exS_nil <|
 And.intro @exS_c <|
 And.intro @exS_c_ret <|
 And.intro @exS_c_exit <|
 And.intro @exS_bl <|
 And.intro @exS_bl_ret <|
 And.intro @exS_bl_exit <|
 And.intro @exS_lp_ret <|
 And.intro @exS_lp_exit <|
 And.intro @evalOps_nil <|
 And.intro @evalOps_op <|
 And.intro @opS_false <|
 And.intro @opS_true <|
 And.intro @evalOps_guard <|
 And.intro @contOps_some <|
 And.intro @guardOps_some <|
 And.intro @evalD_nil <|
 And.intro @drawn_and <|
 And.intro @List.reverse_cons.{0} <|
 And.intro @List.reverse_nil.{0} <|
 And.intro @evalD_plain <|
 And.intro @evalD_guard <|
 And.intro @goD_op <|
 And.intro @opD_false <|
 And.intro @opD_true <|
 And.intro @contD_some <|
 And.intro @guardD_some <|
 And.intro @callR_none <|
 And.intro @callR_some <|
 And.intro @callR_ptr <|
 And.intro @callRD_ptr <|
 And.intro @callRD_none <|
 And.intro @callRD_some <|
 And.intro @opS_callv <|
 And.intro @opS_ldg <|
 And.intro @opD_callv <|
 And.intro @opD_ldg <|
 And.intro @callV_some <|
 And.intro @ldgV_some <|
 And.intro @callVD_some <|
 And.intro @ldgVD_some <|
 And.intro @fnIsSelf <|
 And.intro @gAtPtr <|
 And.intro @opS_hal <|
 And.intro @opS_next <|
 And.intro @opS_callh <|
 And.intro @opS_callc <|
 And.intro @opS_callp <|
 And.intro @opD_hal <|
 And.intro @opD_callh <|
 And.intro @opD_callc <|
 And.intro @callCS_some <|
 And.intro @callCD_some <|
 And.intro @fnOf_self <|
 And.intro @hpsW_nil <|
 @hpsW_cons) :=
 And.intro @guardOps_skp <|
 And.intro @guardD_skp <|
 And.intro @St.gd.eq_1 <|
 And.intro @isSkp.eq_1 <|
 And.intro @isSkp.eq_2 <|
 And.intro @isSkp.eq_3 <|
 And.intro @isSkp.eq_4 <|
 And.intro @skp.eq_1 <|
 And.intro @condS_some <|
 And.intro @exS_nil <|
 And.intro @exS_c <|
 And.intro @exS_c_ret <|
 And.intro @exS_c_exit <|
 And.intro @exS_bl <|
 And.intro @exS_bl_ret <|
 And.intro @exS_bl_exit <|
 And.intro @exS_lp_ret <|
 And.intro @exS_lp_exit <|
 And.intro @evalOps_nil <|
 And.intro @evalOps_op <|
 And.intro @opS_false <|
 And.intro @opS_true <|
 And.intro @evalOps_guard <|
 And.intro @contOps_some <|
 And.intro @guardOps_some <|
 And.intro @evalD_nil <|
 And.intro @drawn_and <|
 And.intro @List.reverse_cons.{0} <|
 And.intro @List.reverse_nil.{0} <|
 And.intro @evalD_plain <|
 And.intro @evalD_guard <|
 And.intro @goD_op <|
 And.intro @opD_false <|
 And.intro @opD_true <|
 And.intro @contD_some <|
 And.intro @guardD_some <|
 And.intro @callR_none <|
 And.intro @callR_some <|
 And.intro @callR_ptr <|
 And.intro @callRD_ptr <|
 And.intro @callRD_none <|
 And.intro @callRD_some <|
 And.intro @opS_callv <|
 And.intro @opS_ldg <|
 And.intro @opD_callv <|
 And.intro @opD_ldg <|
 And.intro @callV_some <|
 And.intro @ldgV_some <|
 And.intro @callVD_some <|
 And.intro @ldgVD_some <|
 And.intro @fnIsSelf <|
 And.intro @gAtPtr <|
 And.intro @opS_hal <|
 And.intro @opS_next <|
 And.intro @opS_callh <|
 And.intro @opS_callc <|
 And.intro @opS_callp <|
 And.intro @opD_hal <|
 And.intro @opD_callh <|
 And.intro @opD_callc <|
 And.intro @callCS_some <|
 And.intro @callCD_some <|
 And.intro @fnOf_self <|
 And.intro @hpsW_nil <|
 @hpsW_cons
theorem stB:type_of% (
 And.intro @PO.isCall.eq_1 <|
 And.intro @PO.isCall.eq_2 <|
 And.intro @PO.isCall.eq_3 <|
 And.intro @PO.isCall.eq_4 <|
 And.intro @PO.isCall.eq_5 <|
 And.intro @PO.isCall.eq_6 <|
 And.intro @PO.isCall.eq_7 <|
 And.intro @PO.isCall.eq_8 <|
 And.intro @PO.isCall.eq_9 <|
 And.intro @PO.isCall.eq_10 <|
 And.intro @PO.isCall.eq_11 <|
 And.intro @PO.isCall.eq_12 <|
 And.intro @PO.isCall.eq_13 <|
 And.intro @PO.isCall.eq_14 <|
 And.intro @PO.isCall.eq_15 <|
 And.intro @PO.isCall.eq_16 <|
 And.intro @PO.isCall.eq_17 <|
 And.intro @PO.isCall.eq_18 <|
 And.intro @PO.isCall.eq_19 <|
 And.intro @PO.isCall.eq_20 <|
 And.intro @PO.isCall.eq_21 <|
 And.intro @PO.isCall.eq_22 <|
 And.intro @PO.isCall.eq_23 <|
 And.intro @PO.isCall.eq_24 <|
 And.intro @PO.isCall.eq_25 <|
 And.intro @PO.isCall.eq_26 <|
 And.intro @PO.isCall.eq_27 <|
 And.intro @PO.isCall.eq_28 <|
 And.intro @PO.isCall.eq_29 <|
 And.intro @PO.isCall.eq_30 <|
 And.intro @PO.isCall.eq_31 <|
 And.intro @PO.isCall.eq_32 <|
 And.intro @PO.isCall.eq_33 <|
 And.intro @PO.isCall.eq_34 <|
 And.intro @PO.isCall.eq_35 <|
 And.intro @PO.isCall.eq_36 <|
 And.intro @PO.isCall.eq_37 <|
 And.intro @PO.isCall.eq_38 <|
 And.intro @PO.isCall.eq_39 <|
 And.intro @PO.isCall.eq_40 <|
 And.intro @PO.isCall.eq_41 <|
 And.intro @PO.isCall.eq_42 <|
 And.intro @PO.isCall.eq_43 <|
 And.intro @PO.isCall.eq_44 <|
 And.intro @PO.isCall.eq_45 <|
 And.intro @PO.isCall.eq_46 <|
 And.intro @PO.isCall.eq_47 <|
 And.intro @PO.isCall.eq_48 <|
 And.intro @PO.isCall.eq_49 <|
 And.intro @PO.isCall.eq_50 <|
 And.intro @PO.isCall.eq_51 <|
 And.intro @PO.isCall.eq_52 <|
 And.intro @Option.getD_some.{0} <|
 And.intro @Option.getD_none.{0} <|
 And.intro @ap_sl <|
 And.intro @ap_sl0 <|
 And.intro @ap_gen <|
 And.intro @ap_genw <|
 And.intro @ap_genr <|
 And.intro @ap_genn <|
 And.intro @ap_ob <|
 And.intro @ap_obw <|
 And.intro @ap_obr <|
 And.intro @ap_obn <|
 And.intro @wrF_cells <|
 And.intro @rowF_row <|
 And.intro @init_sl <|
 And.intro @initSl.eq_1 <|
 And.intro @initSl.eq_2 <|
 And.intro @initSl.eq_3 <|
 And.intro @init_gen <|
 And.intro @init_ob <|
 And.intro @ev_t <|
 And.intro @ev_int <|
 And.intro @ev_bool <|
 And.intro @ev_string <|
 And.intro @ev_nil <|
 And.intro @ev_agg <|
 And.intro @ev_ptr <|
 And.intro @args_nil <|
 And.intro @args_cons <|
 And.intro @up_at <|
 And.intro @PO.fn.eq_1 <|
 And.intro @PO.fn.eq_2 <|
 And.intro @PO.fn.eq_3 <|
 And.intro @PO.fn.eq_4 <|
 And.intro @PO.fn.eq_5 <|
 And.intro @PO.fn.eq_6 <|
 And.intro @PO.fn.eq_7 <|
 And.intro @PO.fn.eq_8 <|
 And.intro @PO.fn.eq_9 <|
 And.intro @PO.fn.eq_10 <|
 And.intro @PO.fn.eq_11 <|
 And.intro @PO.fn.eq_12 <|
 And.intro @PO.fn.eq_13 <|
 And.intro @PO.fn.eq_14 <|
 And.intro @PO.fn.eq_15 <|
 And.intro @PO.fn.eq_16 <|
 And.intro @PO.fn.eq_17 <|
 And.intro @PO.fn.eq_18 <|
 And.intro @PO.fn.eq_23 <|
 And.intro @PO.fn.eq_24 <|
 And.intro @PO.fn.eq_25 <|
 And.intro @PO.fn.eq_26 <|
 And.intro @PO.fn.eq_27 <|
 And.intro @PO.fn.eq_28 <|
 And.intro @PO.fn.eq_29 <|
 And.intro @PO.fn.eq_30 <|
 And.intro @PO.fn.eq_31 <|
 And.intro @PO.fn.eq_32 <|
 And.intro @PO.fn.eq_33 <|
 And.intro @PO.fn.eq_34 <|
 And.intro @PO.fn.eq_35 <|
 And.intro @PO.fn.eq_36 <|
 And.intro @PO.fn.eq_37 <|
 And.intro @PO.fn.eq_38 <|
 And.intro @PO.fn.eq_39 <|
 And.intro @PO.fn.eq_40 <|
 And.intro @PO.fn.eq_41 <|
 And.intro @PO.fn.eq_42 <|
 And.intro @PO.fn.eq_43 <|
 And.intro @PO.fn.eq_44 <|
 And.intro @PO.fn.eq_45 <|
 And.intro @PO.fn.eq_46 <|
 And.intro @PO.fn.eq_47 <|
 And.intro @PO.fn.eq_48 <|
 And.intro @PO.fn.eq_49 <|
 And.intro @PO.fn.eq_50 <|
 And.intro @PO.fn.eq_51 <|
 And.intro @PO.fn.eq_52 <|
 And.intro @PO.fn.eq_53 <|
 And.intro @PO.fn.eq_54 <|
 And.intro @PO.fn.eq_55 <|
 And.intro @fn_not <|
 And.intro @fn_neg <|
 And.intro @fn_xor <|
 And.intro @unN.eq_1 <|
 And.intro @unG.eq_1 <|
 And.intro @unX.eq_1 <|
 And.intro @PO.rd.eq_1 <|
 And.intro @PO.rd.eq_2 <|
 And.intro @PO.rd.eq_3 <|
 And.intro @PO.rd.eq_4 <|
 And.intro @PO.rd.eq_5 <|
 And.intro @PO.rd.eq_6 <|
 And.intro @PO.rd.eq_7 <|
 And.intro @PO.rd.eq_8 <|
 And.intro @PO.rd.eq_9 <|
 And.intro @PO.rd.eq_10 <|
 And.intro @PO.rd.eq_11 <|
 And.intro @PO.rd.eq_12 <|
 And.intro @PO.rd.eq_13 <|
 And.intro @PO.rd.eq_14 <|
 And.intro @PO.rd.eq_15 <|
 And.intro @PO.rd.eq_16 <|
 And.intro @PO.rd.eq_17 <|
 And.intro @PO.rd.eq_18 <|
 And.intro @PO.rd.eq_19 <|
 And.intro @PO.rd.eq_20 <|
 And.intro @PO.rd.eq_21 <|
 And.intro @PO.rd.eq_22 <|
 And.intro @PO.rd.eq_23 <|
 And.intro @PO.rd.eq_24 <|
 And.intro @PO.rd.eq_25 <|
 And.intro @PO.rd.eq_26 <|
 And.intro @PO.rd.eq_27 <|
 And.intro @PO.rd.eq_28 <|
 And.intro @PO.rd.eq_29 <|
 And.intro @PO.rd.eq_30 <|
 And.intro @Cg.wrs.eq_1 <|
 And.intro @Cg.wrs.eq_2 <|
 And.intro @Cg.wrs.eq_3 <|
 And.intro @Cg.wrs.eq_4 <|
 And.intro @Cg.wrs.eq_5 <|
 And.intro @Cg.wrs.eq_6 <|
 And.intro @Cg.wrs.eq_7 <|
 And.intro @St.cl.eq_1 <|
 And.intro @St.val.eq_1 <|
 And.intro @St.int.eq_1 <|
 And.intro @St.boo.eq_1 <|
 And.intro @St.cs.eq_1 <|
 And.intro @St.parts.eq_1 <|
 And.intro @St.parts.eq_2 <|
 And.intro @scAv.eq_1 <|
 And.intro @Cl.rows.eq_1 <|
 And.intro @Cl.rows.eq_2 <|
 And.intro @Cl.rows.eq_3 <|
 And.intro @Cl.rows.eq_4 <|
 And.intro @Cl.rows.eq_5 <|
 And.intro @Cl.dt.eq_1 <|
 And.intro @Cl.dt.eq_2 <|
 And.intro @Cl.dt.eq_3 <|
 And.intro @Cl.dt.eq_4 <|
 And.intro @Cl.dt.eq_5 <|
 And.intro @Bv.pa.eq_1 <|
 And.intro @Bv.pa.eq_2 <|
 And.intro @Av.pa.eq_1 <|
 And.intro @Av.pa.eq_2 <|
 And.intro @Pa.bv.eq_1 <|
 And.intro @Pa.bv.eq_2 <|
 And.intro @resAv.eq_1 <|
 And.intro @resAv.eq_2 <|
 And.intro @resAv.eq_3 <|
 And.intro @allSome.eq_1 <|
 And.intro @allSome.eq_2 <|
 And.intro @allSome.eq_3 <|
 And.intro @mkAv.eq_1 <|
 And.intro @mkAv.eq_2 <|
 And.intro @wrAt.eq_1 <|
 And.intro @wrAt.eq_2 <|
 And.intro @wrAt.eq_3 <|
 And.intro @wrAt.eq_4 <|
 And.intro @splice.eq_1 <|
 And.intro @fillAll.eq_1 <|
 And.intro @fillAll.eq_2 <|
 And.intro @chunks.eq_1 <|
 And.intro @chunks.eq_2 <|
 And.intro @scBin.eq_1 <|
 And.intro @scBin.eq_2 <|
 And.intro @scBin.eq_3 <|
 And.intro @scBin.eq_4 <|
 And.intro @scBin.eq_5 <|
 And.intro @scBin.eq_6 <|
 And.intro @scBin.eq_7 <|
 And.intro @scBin.eq_8 <|
 And.intro @scBin.eq_9 <|
 And.intro @scBin.eq_10 <|
 And.intro @scBin.eq_11 <|
 And.intro @scBin.eq_12 <|
 And.intro @scBin.eq_13 <|
 And.intro @scBin.eq_14 <|
 And.intro @scBin.eq_15 <|
 And.intro @scBin.eq_16 <|
 And.intro @scBin.eq_17 <|
 And.intro @scBin.eq_18 <|
 And.intro @scBin.eq_19 <|
 And.intro @scBin.eq_20 <|
 And.intro @scBin.eq_21 <|
 And.intro @scBin.eq_22 <|
 And.intro @eqCl.eq_1 <|
 And.intro @eqCl.eq_2 <|
 And.intro @eqCl.eq_3 <|
 And.intro @eqCls.eq_1 <|
 And.intro @eqCls.eq_2 <|
 And.intro @eqCls.eq_3 <|
 And.intro @scMM.eq_1 <|
 And.intro @scMM.eq_2 <|
 And.intro @Option.map_some.{0,0} <|
 And.intro @Option.map_none.{0,0} <|
 And.intro @Option.bind_some.{0,0} <|
 And.intro @List.map_cons.{0,0} <|
 And.intro @List.map_nil.{0,0} <|
 And.intro @List.length_cons.{0} <|
 And.intro @List.length_nil.{0} <|
 And.intro @List.getElem?_cons_succ.{0} <|
 And.intro @List.getElem?_cons_zero.{0} <|
 And.intro @List.take_succ_cons.{0} <|
 And.intro @List.take_zero.{0} <|
 And.intro @List.drop_succ_cons.{0} <|
 And.intro @List.drop_zero.{0} <|
 And.intro @List.cons_append.{0} <|
 And.intro @List.nil_append.{0} <|
 And.intro @List.append_nil.{0} <|
 And.intro @if_true.{1} <|
 And.intro @if_false.{1} <|
 And.intro @ite_true.{1} <|
 And.intro @ite_false.{1} <|
 And.intro @ne_eq.{1} <|
 And.intro @not_true <|
 And.intro @not_false_eq_true <|
 And.intro @Nat.add_zero <|
 And.intro @Nat.zero_add <|
 And.intro @and_true <|
 And.intro @true_and <|
 And.intro @and_self <|
 And.intro @forall_const.{1} <|
 And.intro @forall_const.{0} <|
 And.intro @Bool.not_true <|
 And.intro @Bool.not_false <|
 And.intro @Nat.succ_eq_add_one <|
 And.intro @imp_false <|
 And.intro @false_imp_iff <|
 And.intro @forall_false <|
 And.intro @true_imp_iff <|
 And.intro @Bool.and_true <|
 And.intro @Bool.and_false <|
 And.intro @Bool.true_and <|
 And.intro @Bool.false_and <|
 And.intro @implies_true.{1} <|
 And.intro @implies_true.{0} <|
 And.intro @over_sl <|
 And.intro @over_gen <|
 And.intro @over_ob <|
 And.intro @List.contains_cons.{0} <|
 And.intro @List.contains_nil.{0} <|
 And.intro @Bool.or_false <|
 And.intro @Bool.or_true <|
 And.intro @Bool.false_or <|
 And.intro @Bool.true_or <|
 And.intro @cond_true.{1} <|
 And.intro @cond_false.{1} <|
 And.intro @Bool.cond_true.{0} <|
 And.intro @Bool.cond_false.{0} <|
 And.intro @Int.toNat_natCast <|
 And.intro @Int.natCast_nonneg <|
 And.intro @List.getElem?_map.{0,0} <|
 And.intro @List.length_map.{0,0} <|
 And.intro @List.mem_cons.{0} <|
 And.intro @List.not_mem_nil.{0} <|
 And.intro @forall_eq.{1} <|
 And.intro @forall_eq_or_imp.{1} <|
 And.intro @false_or <|
 And.intro @or_true <|
 And.intro @true_or <|
 And.intro @or_false <|
 And.intro @St.res.eq_1 <|
 And.intro @St.res1.eq_1 <|
 And.intro @St.res1.eq_2 <|
 And.intro @decide_eq_true_eq <|
 And.intro @decide_eq_false_iff_not <|
 And.intro @Cl.abOf.eq_1 <|
 And.intro @Cl.abOf.eq_2 <|
 And.intro @Cl.abOf.eq_3 <|
 And.intro @Cl.abOf.eq_4 <|
 And.intro @Cl.abOf.eq_5 <|
 And.intro @Cl.abOf.eq_6 <|
 And.intro @Cl.abOf.eq_7 <|
 And.intro @Cl.abOf.eq_8 <|
 And.intro @Cl.abOf.eq_9 <|
 And.intro @Bv.abOf.eq_1 <|
 And.intro @Bv.abOf.eq_2 <|
 And.intro @Av.abOf.eq_1 <|
 And.intro @Av.abOf.eq_2 <|
 And.intro @Av.abOf.eq_3 <|
 And.intro @recv_nil <|
 And.intro @recv_cons <|
 And.intro @abAt_ob <|
 And.intro @prcv_nil <|
 And.intro @prcv_cons <|
 And.intro @cellsAt_ob <|
 And.intro @Cl.ptrOf.eq_1 <|
 And.intro @Cl.ptrOf.eq_2 <|
 And.intro @Cl.ptrOf.eq_3 <|
 And.intro @Cl.ptrOf.eq_4 <|
 And.intro @Cl.ptrOf.eq_5 <|
 And.intro @Cl.ptrOf.eq_6 <|
 And.intro @Cl.ptrOf.eq_7 <|
 And.intro @Cl.ptrOf.eq_8 <|
 And.intro @Cl.ptrOf.eq_9 <|
 And.intro @Bv.ptrOf.eq_1 <|
 And.intro @Bv.ptrOf.eq_2 <|
 And.intro @Av.ptrOf.eq_1 <|
 And.intro @Av.ptrOf.eq_2 <|
 And.intro @Av.ptrOf.eq_3 <|
 And.intro @initM_sl0 <|
 And.intro @initM_slS <|
 And.intro @initM_gen <|
 And.intro @initM_ob0 <|
 And.intro @initM_obS <|
 And.intro @noSv.eq_1 <|
 And.intro @noSv.eq_2 <|
 And.intro @List.all_cons.{0} <|
 And.intro @List.all_nil.{0} <|
 And.intro @ap_genb <|
 And.intro @ap_obb <|
 And.intro @newAv.eq_1 <|
 And.intro @newAv.eq_2 <|
 And.intro @List.tail_cons.{0} <|
 And.intro @rowBytes.eq_1 <|
 And.intro @rowBytes.eq_2 <|
 And.intro @rowBytes.eq_3 <|
 And.intro @ap_nc <|
 And.intro @ap_genh <|
 And.intro @ap_gena <|
 And.intro @ap_obh <|
 And.intro @ap_oba <|
 And.intro @hb_no <|
 And.intro @hb_new <|
 And.intro @hb_wr <|
 And.intro @hb_row <|
 And.intro @hb_ab <|
 And.intro @hb_hw1 <|
 And.intro @hb_hw2 <|
 And.intro @hb_all <|
 And.intro @initH_sl <|
 And.intro @initSlH.eq_1 <|
 And.intro @initSlH.eq_2 <|
 And.intro @initSlH.eq_3 <|
 And.intro @initH_gen <|
 And.intro @initH_ob <|
 And.intro @initH_nc <|
 And.intro @initH_hb <|
 And.intro @overH_sl <|
 And.intro @overH_gen <|
 And.intro @overH_ob <|
 And.intro @overH_nc <|
 And.intro @overH_hb <|
 And.intro @St.key.eq_1 <|
 And.intro @scs.eq_1 <|
 And.intro @scs.eq_2 <|
 And.intro @scs.eq_3 <|
 And.intro @hw_evq <|
 And.intro @hws_nil <|
 And.intro @hws_cons <|
 And.intro @Bv.hw.eq_1 <|
 And.intro @Bv.hw.eq_2 <|
 And.intro @Av.hw.eq_1 <|
 And.intro @Av.hw.eq_2 <|
 And.intro @Cl.hc.eq_1 <|
 And.intro @Cl.hc.eq_2 <|
 And.intro @Cl.hc.eq_3 <|
 And.intro @Cl.hc.eq_4 <|
 And.intro @Cl.hc.eq_5 <|
 And.intro @Hc.cl.eq_1 <|
 And.intro @Hc.cl.eq_2 <|
 And.intro @Hw.bv.eq_1 <|
 And.intro @Hw.bv.eq_2 <|
 And.intro @hcs.eq_1 <|
 And.intro @valBv.eq_1 <|
 And.intro @valBv.eq_2 <|
 And.intro @resH.eq_1 <|
 And.intro @resH.eq_2 <|
 And.intro @resH.eq_3 <|
 And.intro @St.hps.eq_1 <|
 And.intro @St.hps.eq_2 <|
 And.intro @rdH.eq_1 <|
 And.intro @hwrAt.eq_1 <|
 And.intro @hwrAt.eq_2 <|
 And.intro @hwrAt.eq_3 <|
 And.intro @hwrAt.eq_4 <|
 And.intro @bvB.eq_1 <|
 And.intro @St.resHs.eq_1 <|
 And.intro @St.resH1.eq_1 <|
 @St.resH1.eq_2) :=
 And.intro @PO.isCall.eq_1 <|
 And.intro @PO.isCall.eq_2 <|
 And.intro @PO.isCall.eq_3 <|
 And.intro @PO.isCall.eq_4 <|
 And.intro @PO.isCall.eq_5 <|
 And.intro @PO.isCall.eq_6 <|
 And.intro @PO.isCall.eq_7 <|
 And.intro @PO.isCall.eq_8 <|
 And.intro @PO.isCall.eq_9 <|
 And.intro @PO.isCall.eq_10 <|
 And.intro @PO.isCall.eq_11 <|
 And.intro @PO.isCall.eq_12 <|
 And.intro @PO.isCall.eq_13 <|
 And.intro @PO.isCall.eq_14 <|
 And.intro @PO.isCall.eq_15 <|
 And.intro @PO.isCall.eq_16 <|
 And.intro @PO.isCall.eq_17 <|
 And.intro @PO.isCall.eq_18 <|
 And.intro @PO.isCall.eq_19 <|
 And.intro @PO.isCall.eq_20 <|
 And.intro @PO.isCall.eq_21 <|
 And.intro @PO.isCall.eq_22 <|
 And.intro @PO.isCall.eq_23 <|
 And.intro @PO.isCall.eq_24 <|
 And.intro @PO.isCall.eq_25 <|
 And.intro @PO.isCall.eq_26 <|
 And.intro @PO.isCall.eq_27 <|
 And.intro @PO.isCall.eq_28 <|
 And.intro @PO.isCall.eq_29 <|
 And.intro @PO.isCall.eq_30 <|
 And.intro @PO.isCall.eq_31 <|
 And.intro @PO.isCall.eq_32 <|
 And.intro @PO.isCall.eq_33 <|
 And.intro @PO.isCall.eq_34 <|
 And.intro @PO.isCall.eq_35 <|
 And.intro @PO.isCall.eq_36 <|
 And.intro @PO.isCall.eq_37 <|
 And.intro @PO.isCall.eq_38 <|
 And.intro @PO.isCall.eq_39 <|
 And.intro @PO.isCall.eq_40 <|
 And.intro @PO.isCall.eq_41 <|
 And.intro @PO.isCall.eq_42 <|
 And.intro @PO.isCall.eq_43 <|
 And.intro @PO.isCall.eq_44 <|
 And.intro @PO.isCall.eq_45 <|
 And.intro @PO.isCall.eq_46 <|
 And.intro @PO.isCall.eq_47 <|
 And.intro @PO.isCall.eq_48 <|
 And.intro @PO.isCall.eq_49 <|
 And.intro @PO.isCall.eq_50 <|
 And.intro @PO.isCall.eq_51 <|
 And.intro @PO.isCall.eq_52 <|
 And.intro @Option.getD_some.{0} <|
 And.intro @Option.getD_none.{0} <|
 And.intro @ap_sl <|
 And.intro @ap_sl0 <|
 And.intro @ap_gen <|
 And.intro @ap_genw <|
 And.intro @ap_genr <|
 And.intro @ap_genn <|
 And.intro @ap_ob <|
 And.intro @ap_obw <|
 And.intro @ap_obr <|
 And.intro @ap_obn <|
 And.intro @wrF_cells <|
 And.intro @rowF_row <|
 And.intro @init_sl <|
 And.intro @initSl.eq_1 <|
 And.intro @initSl.eq_2 <|
 And.intro @initSl.eq_3 <|
 And.intro @init_gen <|
 And.intro @init_ob <|
 And.intro @ev_t <|
 And.intro @ev_int <|
 And.intro @ev_bool <|
 And.intro @ev_string <|
 And.intro @ev_nil <|
 And.intro @ev_agg <|
 And.intro @ev_ptr <|
 And.intro @args_nil <|
 And.intro @args_cons <|
 And.intro @up_at <|
 And.intro @PO.fn.eq_1 <|
 And.intro @PO.fn.eq_2 <|
 And.intro @PO.fn.eq_3 <|
 And.intro @PO.fn.eq_4 <|
 And.intro @PO.fn.eq_5 <|
 And.intro @PO.fn.eq_6 <|
 And.intro @PO.fn.eq_7 <|
 And.intro @PO.fn.eq_8 <|
 And.intro @PO.fn.eq_9 <|
 And.intro @PO.fn.eq_10 <|
 And.intro @PO.fn.eq_11 <|
 And.intro @PO.fn.eq_12 <|
 And.intro @PO.fn.eq_13 <|
 And.intro @PO.fn.eq_14 <|
 And.intro @PO.fn.eq_15 <|
 And.intro @PO.fn.eq_16 <|
 And.intro @PO.fn.eq_17 <|
 And.intro @PO.fn.eq_18 <|
 And.intro @PO.fn.eq_23 <|
 And.intro @PO.fn.eq_24 <|
 And.intro @PO.fn.eq_25 <|
 And.intro @PO.fn.eq_26 <|
 And.intro @PO.fn.eq_27 <|
 And.intro @PO.fn.eq_28 <|
 And.intro @PO.fn.eq_29 <|
 And.intro @PO.fn.eq_30 <|
 And.intro @PO.fn.eq_31 <|
 And.intro @PO.fn.eq_32 <|
 And.intro @PO.fn.eq_33 <|
 And.intro @PO.fn.eq_34 <|
 And.intro @PO.fn.eq_35 <|
 And.intro @PO.fn.eq_36 <|
 And.intro @PO.fn.eq_37 <|
 And.intro @PO.fn.eq_38 <|
 And.intro @PO.fn.eq_39 <|
 And.intro @PO.fn.eq_40 <|
 And.intro @PO.fn.eq_41 <|
 And.intro @PO.fn.eq_42 <|
 And.intro @PO.fn.eq_43 <|
 And.intro @PO.fn.eq_44 <|
 And.intro @PO.fn.eq_45 <|
 And.intro @PO.fn.eq_46 <|
 And.intro @PO.fn.eq_47 <|
 And.intro @PO.fn.eq_48 <|
 And.intro @PO.fn.eq_49 <|
 And.intro @PO.fn.eq_50 <|
 And.intro @PO.fn.eq_51 <|
 And.intro @PO.fn.eq_52 <|
 And.intro @PO.fn.eq_53 <|
 And.intro @PO.fn.eq_54 <|
 And.intro @PO.fn.eq_55 <|
 And.intro @fn_not <|
 And.intro @fn_neg <|
 And.intro @fn_xor <|
 And.intro @unN.eq_1 <|
 And.intro @unG.eq_1 <|
 And.intro @unX.eq_1 <|
 And.intro @PO.rd.eq_1 <|
 And.intro @PO.rd.eq_2 <|
 And.intro @PO.rd.eq_3 <|
 And.intro @PO.rd.eq_4 <|
 And.intro @PO.rd.eq_5 <|
 And.intro @PO.rd.eq_6 <|
 And.intro @PO.rd.eq_7 <|
 And.intro @PO.rd.eq_8 <|
 And.intro @PO.rd.eq_9 <|
 And.intro @PO.rd.eq_10 <|
 And.intro @PO.rd.eq_11 <|
 And.intro @PO.rd.eq_12 <|
 And.intro @PO.rd.eq_13 <|
 And.intro @PO.rd.eq_14 <|
 And.intro @PO.rd.eq_15 <|
 And.intro @PO.rd.eq_16 <|
 And.intro @PO.rd.eq_17 <|
 And.intro @PO.rd.eq_18 <|
 And.intro @PO.rd.eq_19 <|
 And.intro @PO.rd.eq_20 <|
 And.intro @PO.rd.eq_21 <|
 And.intro @PO.rd.eq_22 <|
 And.intro @PO.rd.eq_23 <|
 And.intro @PO.rd.eq_24 <|
 And.intro @PO.rd.eq_25 <|
 And.intro @PO.rd.eq_26 <|
 And.intro @PO.rd.eq_27 <|
 And.intro @PO.rd.eq_28 <|
 And.intro @PO.rd.eq_29 <|
 And.intro @PO.rd.eq_30 <|
 And.intro @Cg.wrs.eq_1 <|
 And.intro @Cg.wrs.eq_2 <|
 And.intro @Cg.wrs.eq_3 <|
 And.intro @Cg.wrs.eq_4 <|
 And.intro @Cg.wrs.eq_5 <|
 And.intro @Cg.wrs.eq_6 <|
 And.intro @Cg.wrs.eq_7 <|
 And.intro @St.cl.eq_1 <|
 And.intro @St.val.eq_1 <|
 And.intro @St.int.eq_1 <|
 And.intro @St.boo.eq_1 <|
 And.intro @St.cs.eq_1 <|
 And.intro @St.parts.eq_1 <|
 And.intro @St.parts.eq_2 <|
 And.intro @scAv.eq_1 <|
 And.intro @Cl.rows.eq_1 <|
 And.intro @Cl.rows.eq_2 <|
 And.intro @Cl.rows.eq_3 <|
 And.intro @Cl.rows.eq_4 <|
 And.intro @Cl.rows.eq_5 <|
 And.intro @Cl.dt.eq_1 <|
 And.intro @Cl.dt.eq_2 <|
 And.intro @Cl.dt.eq_3 <|
 And.intro @Cl.dt.eq_4 <|
 And.intro @Cl.dt.eq_5 <|
 And.intro @Bv.pa.eq_1 <|
 And.intro @Bv.pa.eq_2 <|
 And.intro @Av.pa.eq_1 <|
 And.intro @Av.pa.eq_2 <|
 And.intro @Pa.bv.eq_1 <|
 And.intro @Pa.bv.eq_2 <|
 And.intro @resAv.eq_1 <|
 And.intro @resAv.eq_2 <|
 And.intro @resAv.eq_3 <|
 And.intro @allSome.eq_1 <|
 And.intro @allSome.eq_2 <|
 And.intro @allSome.eq_3 <|
 And.intro @mkAv.eq_1 <|
 And.intro @mkAv.eq_2 <|
 And.intro @wrAt.eq_1 <|
 And.intro @wrAt.eq_2 <|
 And.intro @wrAt.eq_3 <|
 And.intro @wrAt.eq_4 <|
 And.intro @splice.eq_1 <|
 And.intro @fillAll.eq_1 <|
 And.intro @fillAll.eq_2 <|
 And.intro @chunks.eq_1 <|
 And.intro @chunks.eq_2 <|
 And.intro @scBin.eq_1 <|
 And.intro @scBin.eq_2 <|
 And.intro @scBin.eq_3 <|
 And.intro @scBin.eq_4 <|
 And.intro @scBin.eq_5 <|
 And.intro @scBin.eq_6 <|
 And.intro @scBin.eq_7 <|
 And.intro @scBin.eq_8 <|
 And.intro @scBin.eq_9 <|
 And.intro @scBin.eq_10 <|
 And.intro @scBin.eq_11 <|
 And.intro @scBin.eq_12 <|
 And.intro @scBin.eq_13 <|
 And.intro @scBin.eq_14 <|
 And.intro @scBin.eq_15 <|
 And.intro @scBin.eq_16 <|
 And.intro @scBin.eq_17 <|
 And.intro @scBin.eq_18 <|
 And.intro @scBin.eq_19 <|
 And.intro @scBin.eq_20 <|
 And.intro @scBin.eq_21 <|
 And.intro @scBin.eq_22 <|
 And.intro @eqCl.eq_1 <|
 And.intro @eqCl.eq_2 <|
 And.intro @eqCl.eq_3 <|
 And.intro @eqCls.eq_1 <|
 And.intro @eqCls.eq_2 <|
 And.intro @eqCls.eq_3 <|
 And.intro @scMM.eq_1 <|
 And.intro @scMM.eq_2 <|
 And.intro @Option.map_some.{0,0} <|
 And.intro @Option.map_none.{0,0} <|
 And.intro @Option.bind_some.{0,0} <|
 And.intro @List.map_cons.{0,0} <|
 And.intro @List.map_nil.{0,0} <|
 And.intro @List.length_cons.{0} <|
 And.intro @List.length_nil.{0} <|
 And.intro @List.getElem?_cons_succ.{0} <|
 And.intro @List.getElem?_cons_zero.{0} <|
 And.intro @List.take_succ_cons.{0} <|
 And.intro @List.take_zero.{0} <|
 And.intro @List.drop_succ_cons.{0} <|
 And.intro @List.drop_zero.{0} <|
 And.intro @List.cons_append.{0} <|
 And.intro @List.nil_append.{0} <|
 And.intro @List.append_nil.{0} <|
 And.intro @if_true.{1} <|
 And.intro @if_false.{1} <|
 And.intro @ite_true.{1} <|
 And.intro @ite_false.{1} <|
 And.intro @ne_eq.{1} <|
 And.intro @not_true <|
 And.intro @not_false_eq_true <|
 And.intro @Nat.add_zero <|
 And.intro @Nat.zero_add <|
 And.intro @and_true <|
 And.intro @true_and <|
 And.intro @and_self <|
 And.intro @forall_const.{1} <|
 And.intro @forall_const.{0} <|
 And.intro @Bool.not_true <|
 And.intro @Bool.not_false <|
 And.intro @Nat.succ_eq_add_one <|
 And.intro @imp_false <|
 And.intro @false_imp_iff <|
 And.intro @forall_false <|
 And.intro @true_imp_iff <|
 And.intro @Bool.and_true <|
 And.intro @Bool.and_false <|
 And.intro @Bool.true_and <|
 And.intro @Bool.false_and <|
 And.intro @implies_true.{1} <|
 And.intro @implies_true.{0} <|
 And.intro @over_sl <|
 And.intro @over_gen <|
 And.intro @over_ob <|
 And.intro @List.contains_cons.{0} <|
 And.intro @List.contains_nil.{0} <|
 And.intro @Bool.or_false <|
 And.intro @Bool.or_true <|
 And.intro @Bool.false_or <|
 And.intro @Bool.true_or <|
 And.intro @cond_true.{1} <|
 And.intro @cond_false.{1} <|
 And.intro @Bool.cond_true.{0} <|
 And.intro @Bool.cond_false.{0} <|
 And.intro @Int.toNat_natCast <|
 And.intro @Int.natCast_nonneg <|
 And.intro @List.getElem?_map.{0,0} <|
 And.intro @List.length_map.{0,0} <|
 And.intro @List.mem_cons.{0} <|
 And.intro @List.not_mem_nil.{0} <|
 And.intro @forall_eq.{1} <|
 And.intro @forall_eq_or_imp.{1} <|
 And.intro @false_or <|
 And.intro @or_true <|
 And.intro @true_or <|
 And.intro @or_false <|
 And.intro @St.res.eq_1 <|
 And.intro @St.res1.eq_1 <|
 And.intro @St.res1.eq_2 <|
 And.intro @decide_eq_true_eq <|
 And.intro @decide_eq_false_iff_not <|
 And.intro @Cl.abOf.eq_1 <|
 And.intro @Cl.abOf.eq_2 <|
 And.intro @Cl.abOf.eq_3 <|
 And.intro @Cl.abOf.eq_4 <|
 And.intro @Cl.abOf.eq_5 <|
 And.intro @Cl.abOf.eq_6 <|
 And.intro @Cl.abOf.eq_7 <|
 And.intro @Cl.abOf.eq_8 <|
 And.intro @Cl.abOf.eq_9 <|
 And.intro @Bv.abOf.eq_1 <|
 And.intro @Bv.abOf.eq_2 <|
 And.intro @Av.abOf.eq_1 <|
 And.intro @Av.abOf.eq_2 <|
 And.intro @Av.abOf.eq_3 <|
 And.intro @recv_nil <|
 And.intro @recv_cons <|
 And.intro @abAt_ob <|
 And.intro @prcv_nil <|
 And.intro @prcv_cons <|
 And.intro @cellsAt_ob <|
 And.intro @Cl.ptrOf.eq_1 <|
 And.intro @Cl.ptrOf.eq_2 <|
 And.intro @Cl.ptrOf.eq_3 <|
 And.intro @Cl.ptrOf.eq_4 <|
 And.intro @Cl.ptrOf.eq_5 <|
 And.intro @Cl.ptrOf.eq_6 <|
 And.intro @Cl.ptrOf.eq_7 <|
 And.intro @Cl.ptrOf.eq_8 <|
 And.intro @Cl.ptrOf.eq_9 <|
 And.intro @Bv.ptrOf.eq_1 <|
 And.intro @Bv.ptrOf.eq_2 <|
 And.intro @Av.ptrOf.eq_1 <|
 And.intro @Av.ptrOf.eq_2 <|
 And.intro @Av.ptrOf.eq_3 <|
 And.intro @initM_sl0 <|
 And.intro @initM_slS <|
 And.intro @initM_gen <|
 And.intro @initM_ob0 <|
 And.intro @initM_obS <|
 And.intro @noSv.eq_1 <|
 And.intro @noSv.eq_2 <|
 And.intro @List.all_cons.{0} <|
 And.intro @List.all_nil.{0} <|
 And.intro @ap_genb <|
 And.intro @ap_obb <|
 And.intro @newAv.eq_1 <|
 And.intro @newAv.eq_2 <|
 And.intro @List.tail_cons.{0} <|
 And.intro @rowBytes.eq_1 <|
 And.intro @rowBytes.eq_2 <|
 And.intro @rowBytes.eq_3 <|
 And.intro @ap_nc <|
 And.intro @ap_genh <|
 And.intro @ap_gena <|
 And.intro @ap_obh <|
 And.intro @ap_oba <|
 And.intro @hb_no <|
 And.intro @hb_new <|
 And.intro @hb_wr <|
 And.intro @hb_row <|
 And.intro @hb_ab <|
 And.intro @hb_hw1 <|
 And.intro @hb_hw2 <|
 And.intro @hb_all <|
 And.intro @initH_sl <|
 And.intro @initSlH.eq_1 <|
 And.intro @initSlH.eq_2 <|
 And.intro @initSlH.eq_3 <|
 And.intro @initH_gen <|
 And.intro @initH_ob <|
 And.intro @initH_nc <|
 And.intro @initH_hb <|
 And.intro @overH_sl <|
 And.intro @overH_gen <|
 And.intro @overH_ob <|
 And.intro @overH_nc <|
 And.intro @overH_hb <|
 And.intro @St.key.eq_1 <|
 And.intro @scs.eq_1 <|
 And.intro @scs.eq_2 <|
 And.intro @scs.eq_3 <|
 And.intro @hw_evq <|
 And.intro @hws_nil <|
 And.intro @hws_cons <|
 And.intro @Bv.hw.eq_1 <|
 And.intro @Bv.hw.eq_2 <|
 And.intro @Av.hw.eq_1 <|
 And.intro @Av.hw.eq_2 <|
 And.intro @Cl.hc.eq_1 <|
 And.intro @Cl.hc.eq_2 <|
 And.intro @Cl.hc.eq_3 <|
 And.intro @Cl.hc.eq_4 <|
 And.intro @Cl.hc.eq_5 <|
 And.intro @Hc.cl.eq_1 <|
 And.intro @Hc.cl.eq_2 <|
 And.intro @Hw.bv.eq_1 <|
 And.intro @Hw.bv.eq_2 <|
 And.intro @hcs.eq_1 <|
 And.intro @valBv.eq_1 <|
 And.intro @valBv.eq_2 <|
 And.intro @resH.eq_1 <|
 And.intro @resH.eq_2 <|
 And.intro @resH.eq_3 <|
 And.intro @St.hps.eq_1 <|
 And.intro @St.hps.eq_2 <|
 And.intro @rdH.eq_1 <|
 And.intro @hwrAt.eq_1 <|
 And.intro @hwrAt.eq_2 <|
 And.intro @hwrAt.eq_3 <|
 And.intro @hwrAt.eq_4 <|
 And.intro @bvB.eq_1 <|
 And.intro @St.resHs.eq_1 <|
 And.intro @St.resH1.eq_1 <|
 @St.resH1.eq_2
end Go.Proofs.Ytffcpijeebagfaa
end
section
namespace Go.Proofs.Ytffcpijeebagfaa
open Go Go.RowKit
instance:WInv:=⟨fun _=>True,fun _ _ _ _=>trivial⟩
abbrev dI (n:Int):Dt:=.sc (.int .i64 n)
abbrev dB (b:Bool):Dt:=.sc (.bool b)
abbrev aI (n:Int):Av:=.b (.one (.d (.sc (.int .i64 n))))
abbrev pI (n:Int):Pa:=.one (.sc (.int .i64 n))
abbrev pB (b:Bool):Pa:=.one (.sc (.bool b))
def Ev.row (e:Ev):List Dt:=[dI e.g,dI e.kind,dI e.obj,dI e.off,dI e.k,dI e.n,dI e.fn,dI e.pc,dI e.stack]
def Ev.pa (e:Ev):Pa:=.agg e.row
def evsD (l:List Ev):Dt:=.im (l.map Ev.row)
def evsPa (l:List Ev):Pa:=.one (evsD l)
structure RCh where
 obj:Int
 n:Int
 sent:Int
 recv:Int
 closed:Bool
def RCh.row (c:RCh):List Dt:=[dI c.obj,dI c.n,dI c.sent,dI c.recv,dB c.closed]
structure RLk where
 obj:Int
 off:Int
 locked:Bool
 readers:Int
def RLk.row (c:RLk):List Dt:=[dI c.obj,dI c.off,dB c.locked,dI c.readers]
def locRow (p:Int×Int):List Dt:=[dI p.1,dI p.2]
structure RWt where
 kind:Int
 g:Int
 not:Int
def RWt.row (c:RWt):List Dt:=[dI c.kind,dI c.g,dI c.not]
structure RSt where
 count:Int
 gor:Int
 chans:List RCh
 locks:List RLk
 done:List (Int×Int)
 next:List RWt
 obj:Int
 k:Int
 n:Int
def RSt.row (s:RSt):List Dt:=[dI s.count,dI s.gor,.im (s.chans.map RCh.row),.im (s.locks.map RLk.row),.im (s.done.map locRow),.im (s.next.map RWt.row),dI s.obj,dI s.k,dI s.n]
def RSt.pa (s:RSt):Pa:=.agg s.row
structure RSt.ok (s:RSt):Prop where
 ct:0≤s.count∧s.count≤1000000
 gr:0≤s.gor∧s.gor≤1000000
 ch:s.chans.length≤900000∧∀ c,c ∈ s.chans→(0≤c.sent∧c.sent≤1000000)∧(0≤c.recv∧c.recv≤1000000)
 lk:s.locks.length≤900000∧∀ c,c ∈ s.locks→0≤c.readers∧c.readers≤1000000
 dn:s.done.length≤900000
 nx:s.next.length≤900000
def RSt.new:RSt:=⟨0,1,[],[],[],[],0,0,0⟩
def RSt.channel (s:RSt) (obj n:Int):RCh:=(s.chans.find? (fun c=>c.obj == obj)).getD ⟨obj,n,0,0,false⟩
def RSt.setChannel (s:RSt) (c:RCh):RSt:={ s with chans:=s.chans.filter (fun d=>d.obj != c.obj) ++ [c] }
def RSt.lock (s:RSt) (obj off:Int):RLk:=(s.locks.find? (fun c=>c.obj == obj && c.off == off)).getD ⟨obj,off,false,0⟩
def RSt.setLock (s:RSt) (c:RLk):RSt:={ s with locks:=s.locks.filter (fun d=>d.obj != c.obj || d.off != c.off) ++ [c] }
def RSt.isDone (s:RSt) (obj off:Int):Bool:=s.done.any (fun c=>c.1 == obj && c.2 == off)
def RCh.count (c:RCh) (kind:Int):RCh:=if kind=15 then { c with sent:=c.sent+1 } else if kind=17 then { c with recv:=c.recv+1 } else c
def RSt.counted (s:RSt) (e:Ev):RSt:=if e.kind=15∨e.kind=17 then s.setChannel ((s.channel e.obj e.n).count e.kind) else s
def RSt.begin (s:RSt) (e:Ev) (next:List RWt):RSt:=RSt.counted { s with next:=next,obj:=e.obj,k:=e.k,n:=e.n } e
def RSt.fits (s:RSt) (w:RWt) (e:Ev):Bool:=!((e.kind != w.kind || (e.obj != s.obj || (e.k != s.k || (e.n != s.n || (decide (0≤w.g) && e.g != w.g))))) || (decide (w.g < 0) && e.g == w.not))
def RWt.known (w:RWt) (g:Int) (x:RWt):RWt:=if w.g < 0∧x.g < 0 then { x with g:=g } else x
def RSt.groupR (s:RSt) (e:Ev):RSt×Bool:=match s.next with
 | []=>(s,false)
 | w :: rest=>if s.fits w e=true then (RSt.counted { s with next:=rest.map (w.known e.g) } e,true) else (s,false)
def RSt.transferR (s:RSt) (e:Ev):RSt×Bool :=
 if (s.channel e.obj e.n).n≠e.n then (s,false)
 else if e.kind=15 then
  if e.k≠(s.channel e.obj e.n).sent then (s,false)
  else if (s.channel e.obj e.n).closed=true then (s,false)
  else if 0 < (s.channel e.obj e.n).n∧(s.channel e.obj e.n).sent - (s.channel e.obj e.n).recv < (s.channel e.obj e.n).n then (s.begin e [⟨16,e.g,0⟩],true)
  else if (s.channel e.obj e.n).n=0∧1 < s.gor then (s.begin e [⟨17, -1,e.g⟩,⟨18, -1,0⟩,⟨16,e.g,0⟩],true)
  else (s,false)
 else if e.kind=17 then
  if e.k≠(s.channel e.obj e.n).recv then (s,false)
  else if (s.channel e.obj e.n).recv < (s.channel e.obj e.n).sent then (s.begin e [⟨18,e.g,0⟩],true)
  else if (s.channel e.obj e.n).closed=false∧1 < s.gor then (s.begin e [⟨15, -1,e.g⟩,⟨18,e.g,0⟩,⟨16, -1,0⟩],true)
  else (s,false)
 else if e.kind=19 then
  if (s.channel e.obj e.n).closed=true then (s,false) else (s.setChannel { s.channel e.obj e.n with closed:=true },true)
 else if e.kind=20 then (s,(s.channel e.obj e.n).closed && (s.channel e.obj e.n).sent == (s.channel e.obj e.n).recv)
 else (s,false)
def RSt.otherR (s:RSt) (e:Ev):RSt×Bool :=
 if e.kind=6 then (s.setLock { s.lock e.obj e.off with locked:=true },!(s.lock e.obj e.off).locked && (s.lock e.obj e.off).readers == 0)
 else if e.kind=7 then (s.setLock { s.lock e.obj e.off with locked:=false },(s.lock e.obj e.off).locked)
 else if e.kind=8 then (s.setLock { s.lock e.obj e.off with readers:=(s.lock e.obj e.off).readers+1 },!(s.lock e.obj e.off).locked)
 else if e.kind=9 then (s.setLock { s.lock e.obj e.off with readers:=(s.lock e.obj e.off).readers - 1 },decide (0≤(s.lock e.obj e.off).readers - 1))
 else if e.kind=12 then ({ s with done:=s.done ++ [(e.obj,e.off)] },!s.isDone e.obj e.off)
 else if e.kind=13 then (s,s.isDone e.obj e.off)
 else if e.kind=14 then ({ s with gor:=s.gor+1 },e.k == s.gor)
 else (s,true)
def RSt.partR (s:RSt) (e:Ev):RSt×Bool:=if 0 < s.next.length then s.groupR e else if chanB e.kind=true then s.transferR e else s.otherR e
def RSt.admits (s:RSt) (e:Ev):Bool:=e.valid && decide (s.count < 5000) && decide (e.g < s.gor)
def RSt.addR (s:RSt) (e:Ev):RSt×Bool :=
 if s.admits e=true∧(s.partR e).2=true then ({ (s.partR e).1 with count:=(s.partR e).1.count+1 },true) else (s,false)
theorem find_hit {α:Type} {l:List α} {p:α→Bool} {k:Nat} {c:α} (hno:∀ i c,i < k→l[i]? = some c→p c=false) (hc:l[k]? = some c) (he:p c=true):l.find? p=some c:=by
 rw [List.find?_eq_some_iff_getElem];refine ⟨he,k,(List.getElem?_eq_some_iff.1 hc).1,(List.getElem?_eq_some_iff.1 hc).2,fun j hj=>?_⟩;have h1:=List.getElem?_eq_getElem (show j < l.length by have:=(List.getElem?_eq_some_iff.1 hc).1;omega)
 rw [hno j _ hj h1];rfl
theorem find_miss {α:Type} {l:List α} {p:α→Bool} (hno:∀ i c,i < l.length→l[i]? = some c→p c=false):l.find? p=none:=by
 rw [List.find?_eq_none];intro c hc;obtain ⟨i,hi,rfl⟩:=List.getElem_of_mem hc;rw [hno i _ hi (List.getElem?_eq_getElem hi)];decide
theorem no_succ {α:Type} {l:List α} {p:α→Bool} {k:Nat} {c:α} (hno:∀ i c,i < k→l[i]? = some c→p c=false) (hc:l[k]? = some c) (he:p c=false):∀ i c,i < k+1→l[i]? = some c→p c=false:=by
 intro i c' hi hc'
 rcases Nat.lt_or_eq_of_le (Nat.le_of_lt_succ hi) with h | h
 ·exact hno i c' h hc'
 ·subst h;rw [hc] at hc';cases hc';exact he
theorem any_miss {α:Type} {l:List α} {p:α→Bool} (hno:∀ i c,i < l.length→l[i]? = some c→p c=false):l.any p=false:=by
 rw [List.any_eq_false];intro c hc;obtain ⟨i,hi,rfl⟩:=List.getElem_of_mem hc;rw [hno i _ hi (List.getElem?_eq_getElem hi)];decide
theorem filter_succ {α:Type} {l:List α} {p:α→Bool} {k:Nat} {c:α} (hc:l[k]? = some c):(l.take (k+1)).filter p=(l.take k).filter p ++ (if p c=true then [c] else []):=by
 obtain ⟨hk,rfl⟩:=List.getElem?_eq_some_iff.1 hc;rw [List.take_succ_eq_append_getElem hk,List.filter_append]
 congr 1
 cases h:p l[k] <;> simp [h]
theorem filter_take_le {α:Type} (l:List α) (p:α→Bool) (k:Nat):((l.take k).filter p).length≤k :=
 Nat.le_trans (List.length_filter_le _ _) (List.length_take_le _ _)
theorem rows_len {α:Type} {f:α→List Dt} {n:Nat} (h:∀ x,(f x).length=n) (l:List α):(∀ r,r ∈ l.map f→r.length=n)=True:=by
 apply propext
 refine ⟨fun _=>trivial,fun _ r hr=>?_⟩;obtain ⟨x,_,rfl⟩:=List.mem_map.1 hr;exact h x
end Go.Proofs.Ytffcpijeebagfaa
end
section
namespace Go.Proofs.Ytffcpijeebagfaa
open Go.RowKit Go.WideShapes Go.ChangeShapes Go.Deep
section
variable {H:Type} {enc:TypeId×Value→H} {P:Program} {w:World} {base:Nat} {spare:Nat→Bool} {held:Bool}
theorem open_slice_fields {t e:TypeId} {fs:Array Field} {fuel:Nat} {cs:List Value} {x:DataW H×List MemPlace} (ht:P.underlying t=some (.slice e)) (he:P.underlying e=some (.struct fs))
 (hone:oneCellFields P fs=true) (hC:P.cellsOf e=fs.size) (h:DataW.trod enc P w base spare held fuel t cs=some x) :
 (cs=[.slice none 0 0]∧x=(.nil,[])) ∨
 ∃ (a:Addr) (len cap m:Nat) (D:Nat→DataW H) (Pl:Nat→List MemPlace),cs=[.slice (some a) len cap]∧base≤a.block∧len≤cap∧cap≤maxLen∧m=(if spare a.block then cap else len) ∧
   x=(.slice ((List.range len).map D) ((List.range (m - len)).map fun j=>D (len+j)),MemPlace.row a (m * fs.size) ++ (List.range m).flatMap Pl) ∧
   ∀ i,i < m→∃ (ys:List (DataW H×List MemPlace)) (n:Nat),D i=.agg (ys.map (·.1))∧Pl i=ys.flatMap (·.2)∧ys.length=fs.size ∧
     ∀ (j:Nat) (f:Field),fs[j]? = some f→∃ (v:Value) (y:DataW H×List MemPlace),w.cell? (a.add (i * fs.size+j))=some v∧ys[j]? = some y∧DataW.trod enc P w base spare held n f.type [v]=some y:=by
 rcases open_slice ht h with h0 | ⟨a,len,cap,m,n,D,Pl,hcs,hb,hl,hm,hmm,hx,hi⟩
 ·exact .inl h0
 ·refine .inr ⟨a,len,cap,m,D,Pl,hcs,hb,hl,hm,hmm,by rw [hC] at hx;exact hx,fun i him=>?_⟩
  obtain ⟨cs',hc,ht'⟩:=hi i him;rw [hC] at hc;obtain ⟨ys,n',hn',hy,hlen,hyl,hf⟩:=DataW.trod_struct he ht';obtain ⟨_,hcl,hat⟩:=World.cells?_some hc;simp only [Prod.mk.injEq] at hy;refine ⟨ys,n',hy.1,hy.2,hyl,fun j f hj=>?_⟩;obtain ⟨ho,hk⟩:=hone_of hone j f hj;have hjl:j < fs.size:=(Array.getElem?_eq_some_iff.1 hj).1;have hcell:=hat j hjl;have hv:cs'[j]? = some (cs'[j]'(by omega)):=List.getElem?_eq_getElem (by omega);have h1:=hf j f hj;rw [ho,hk] at h1
  have hone':(cs'.drop j).take 1=[cs'[j]'(by omega)]:=by
   rw [List.drop_eq_getElem_cons (by omega)];rfl
  rw [hone'] at h1;have hys:ys[j]? = some (ys[j]'(by omega)):=List.getElem?_eq_getElem (by omega);refine ⟨_,_,?_,hys,h1.trans hys⟩;rw [←Go.Deep.add_add,hcell,hv]
end
theorem Try.laidOut:laidOutB Try.prog=true:=by kernel_rfl
theorem Try.own:ownKnob Try.prog.godebug=none:=by kernel_rfl
theorem trod_int_field {H:Type} {enc:TypeId×Value→H} {P:Program} {w:World} {base n:Nat} {spare:Nat→Bool} {held:Bool} {t:TypeId} (ht:P.underlying t=some (.int .i64)) {v:Value} {y:DataW H×List MemPlace} (h:DataW.trod enc P w base spare held n t [v]=some y):∃ x,v=.int .i64 x∧(Lit.int .i64 x).wf=true:=by
 obtain ⟨x,hx,_,hw⟩:=DataW.trod_int ht h;simp at hx;exact ⟨x,hx,hw⟩
theorem i64_of_wf {x:Int} (h:(Lit.int .i64 x).wf=true):-9223372036854775808≤x∧x≤9223372036854775807:=by
 simp [Lit.wf,IntKind.min,IntKind.max,IntKind.signed,IntKind.bits] at h;omega
set_option maxRecDepth 100000 in
set_option maxHeartbeats 1000000 in
theorem open_events {H:Type} {enc:TypeId×Value→H} {w:World} {r:Reach} {b0:Nat} {v:Value} {d:DataW H} {ps:List MemPlace}
 (hv:Value.okWide Try.prog w r b0 22 v) (h:DataW.Trod enc Try.prog w 0 (fun _=>true) true 22 v d ps):∃ l:List Ev,EvAt w v l∧∀ e ∈ l,∀ x ∈ e.cells,∃ n:Int,x=.int .i64 n∧(-9223372036854775808≤n∧n≤9223372036854775807):=by
 obtain ⟨a,len,cap,rfl⟩:=okWide_slice Try.underlying22 hv;obtain ⟨fuel,hf⟩:=h
 rcases open_slice_fields Try.underlying22 Try.underlying34 (by kernel_rfl) (by kernel_rfl) hf with ⟨hcs,_⟩ | ⟨A,n,c,m,D,Pl,hcs,_,hnc,hcm,hm,_,hi⟩
 ·simp [Value.cells] at hcs;obtain ⟨rfl,rfl,rfl⟩:=hcs;exact ⟨[],⟨none,0,rfl,Nat.le_refl _,by omega,fun hh=>absurd hh (by decide)⟩,fun e he=>by cases he⟩
 ·simp [Value.cells] at hcs;obtain ⟨rfl,rfl,rfl⟩:=hcs
  have hev:∀ i,∃ e:Ev,i < cap→(∀ j x,e.cells[j]? = some x→w.cell? (A.add (i * 9+j))=some x)∧∀ x ∈ e.cells,∃ n:Int,x=.int .i64 n∧(-9223372036854775808≤n∧n≤9223372036854775807):=by
   intro i
   by_cases him:i < cap
   case neg=>exact ⟨⟨0,0,0,0,0,0,0,0,0⟩,fun hh=>absurd hh him⟩
   obtain ⟨ys,n',_,_,_,hf'⟩:=hi i (by simpa [hm] using him);obtain ⟨c0,y0,r0,_,t0⟩:=hf' 0 _ rfl;obtain ⟨x0,rfl,b0⟩:=trod_int_field Try.underlying3 t0;obtain ⟨c1,y1,r1,_,t1⟩:=hf' 1 _ rfl;obtain ⟨x1,rfl,b1⟩:=trod_int_field Try.underlying3 t1;obtain ⟨c2,y2,r2,_,t2⟩:=hf' 2 _ rfl;obtain ⟨x2,rfl,b2⟩:=trod_int_field Try.underlying3 t2;obtain ⟨c3,y3,r3,_,t3⟩:=hf' 3 _ rfl;obtain ⟨x3,rfl,b3⟩:=trod_int_field Try.underlying3 t3;obtain ⟨c4,y4,r4,_,t4⟩:=hf' 4 _ rfl;obtain ⟨x4,rfl,b4⟩:=trod_int_field Try.underlying3 t4;obtain ⟨c5,y5,r5,_,t5⟩:=hf' 5 _ rfl;obtain ⟨x5,rfl,b5⟩:=trod_int_field Try.underlying3 t5;obtain ⟨c6,y6,r6,_,t6⟩:=hf' 6 _ rfl;obtain ⟨x6,rfl,b6⟩:=trod_int_field Try.underlying3 t6;obtain ⟨c7,y7,r7,_,t7⟩:=hf' 7 _ rfl;obtain ⟨x7,rfl,b7⟩:=trod_int_field Try.underlying3 t7;obtain ⟨c8,y8,r8,_,t8⟩:=hf' 8 _ rfl;obtain ⟨x8,rfl,b8⟩:=trod_int_field Try.underlying3 t8
   refine ⟨⟨x0,x1,x2,x3,x4,x5,x6,x7,x8⟩,fun _=>⟨fun j x hx=>?_,fun x hx=>?_⟩⟩
   ·match j,hx with
    | 0,hx=>cases hx;exact r0
    | 1,hx=>cases hx;exact r1
    | 2,hx=>cases hx;exact r2
    | 3,hx=>cases hx;exact r3
    | 4,hx=>cases hx;exact r4
    | 5,hx=>cases hx;exact r5
    | 6,hx=>cases hx;exact r6
    | 7,hx=>cases hx;exact r7
    | 8,hx=>cases hx;exact r8
    | j+9,hx=>simp [Ev.cells] at hx
   ·simp only [Ev.cells,List.mem_cons,List.not_mem_nil,or_false] at hx
    rcases hx with rfl | rfl | rfl | rfl | rfl | rfl | rfl | rfl | rfl
    ·exact ⟨x0,rfl,i64_of_wf b0⟩
    ·exact ⟨x1,rfl,i64_of_wf b1⟩
    ·exact ⟨x2,rfl,i64_of_wf b2⟩
    ·exact ⟨x3,rfl,i64_of_wf b3⟩
    ·exact ⟨x4,rfl,i64_of_wf b4⟩
    ·exact ⟨x5,rfl,i64_of_wf b5⟩
    ·exact ⟨x6,rfl,i64_of_wf b6⟩
    ·exact ⟨x7,rfl,i64_of_wf b7⟩
    ·exact ⟨x8,rfl,i64_of_wf b8⟩
  obtain ⟨f,hf2⟩:=Classical.skolem.1 hev;refine ⟨(List.range len).map f,⟨some A,cap,by simp,by simp;omega,by unfold maxLen at hcm;omega,fun hn=>?_⟩,fun e he x hx=>?_⟩
  ·have hn':0 < len:=by simpa using hn
   have h00:=(hf2 0 (by omega)).1 0 _ rfl;have hsp:=World.cell?_spot h00;obtain ⟨b,o,sp⟩:=A;simp [Addr.add] at hsp;subst hsp;refine ⟨b,o,rfl,fun i e hi' j x hx=>?_⟩;simp only [List.getElem?_map] at hi'
   have hin:i < len:=by
    rcases Nat.lt_or_ge i len with h1 | h1
    ·exact h1
    ·rw [List.getElem?_eq_none (by simpa using h1)] at hi';cases hi'
   rw [List.getElem?_range hin] at hi';simp at hi';subst hi';have:=(hf2 i (by omega)).1 j x hx;unfold Addr.add at this;split at this
   ·rename_i h0;rw [h0];exact this
   ·exact this
  ·obtain ⟨i,hi1,rfl⟩:=List.mem_map.1 he;exact (hf2 i (by have:=List.mem_range.1 hi1;omega)).2 x hx
end Go.Proofs.Ytffcpijeebagfaa
end
section
namespace Go.Proofs.Ytffcpijeebagfaa
open Go Go.RowKit
theorem Ev.row_cell {e:Ev} {j:Nat} {x:Value} (h:e.cells[j]? = some x):e.row[j]? = some (.sc x):=by
 show (e.cells.map Dt.sc)[j]? = _
 rw [List.getElem?_map,h];rfl
theorem EvAt.rd {w:World} {v:Value} {l:List Ev} (h:EvAt w v l) {S:Nat→Nat} (hS:∀ b i,(w.cell? ⟨b,i,none⟩).isSome=true→i < S b):RD S w (evsD l) v:=by
 obtain ⟨A,c,rfl,h2,h3,h4⟩:=h
 by_cases hl:0 < l.length
 ·obtain ⟨b,o,rfl,hc⟩:=h4 hl;unfold evsD;rw [show l.length=(l.map Ev.row).length by simp]
  have hcl:∀ i j,i < l.length→j < 9→∃ e x,l[i]? = some e∧e.cells[j]? = some x∧(l.flatMap Ev.cells).getD (i * 9+j) undef=x∧w.cell? ⟨b,o+(i * 9+j),none⟩=some x:=fun i j hi hj=>by
   have hil:l[i]? = some l[i]:=List.getElem?_eq_getElem hi;have hjl:l[i].cells[j]? = some (l[i].cells[j]'hj):=List.getElem?_eq_getElem _;exact ⟨_,_,hil,hjl,by simp [List.getD,flat_at l i _ hil j _ hjl],hc i _ hil j _ hjl⟩
  refine RD.im _ 9 b o c (fun i j=>(l.flatMap Ev.cells).getD (i * 9+j) undef) (by simpa using h2) (by unfold maxLen;omega) ?_ ?_ ?_
  ·intro r hr;obtain ⟨x,_,rfl⟩:=List.mem_map.1 hr;rfl
  ·intro i j hi hj;obtain ⟨e,x,_,_,h5,h6⟩:=hcl i j (by simpa using hi) hj;rw [h5];exact ⟨h6,hS b _ (by rw [h6];rfl)⟩
  ·intro i r j x hr hx;rw [List.getElem?_map,Option.map_eq_some_iff] at hr;obtain ⟨e,he,rfl⟩:=hr;have hj:j < 9:=(List.getElem?_eq_some_iff.1 hx).1;obtain ⟨e',u,h7,h8,h5,h6⟩:=hcl i j (List.getElem?_eq_some_iff.1 he).1 hj;rw [he] at h7;cases h7;rw [h5];have:=Ev.row_cell h8;rw [hx] at this;cases this;refine .sc u ?_;have:=List.mem_of_getElem? h8;simp only [Ev.cells,List.mem_cons,List.not_mem_nil,or_false] at this
   rcases this with rfl | rfl | rfl | rfl | rfl | rfl | rfl | rfl | rfl <;> rfl
 ·have:l=[]:=by cases l with
   | nil=>rfl
   | cons a l=>simp at hl
  subst this;exact .emp _ _ (by unfold maxLen;omega)
def World.cellsOf (w:World) (b:Nat):Nat:=match w.heap[b]? with
 | some (.cells arr _ _)=>arr.size
 | _=>0
theorem cellsOf_lt {w:World} (b i:Nat) (h:(w.cell? ⟨b,i,none⟩).isSome=true):i < World.cellsOf w b:=by
 unfold World.cellsOf;unfold World.cell? at h
 cases hb:w.heap[b]? with
 | none=>simp [hb] at h
 | some x =>
   cases x with
   | cells arr T fr=>simp only [hb] at h;simpa using h
   | _=>simp [hb] at h
theorem RPs.nth {S:Nat→Nat} {w:World} {ps:List Pa} {vs:Array Value} (h:RPs S w ps vs) {i:Nat} {p:Pa} (hp:ps[i]? = some p):∃ u,vs[i]? = some u∧RP S w p u:=by
 have hi:i < vs.size:=by rw [←h.1];exact (List.getElem?_eq_some_iff.1 hp).1
 exact ⟨vs[i],Array.getElem?_eq_getElem hi,h.2 i p _ hp (Array.getElem?_eq_getElem hi)⟩
theorem RPs.one {S:Nat→Nat} {w:World} {p:Pa} {vs:Array Value} (h:RPs S w [p] vs):∃ u,vs=#[u]∧RP S w p u:=by
 obtain ⟨u,h1,h2⟩:=h.nth (i:=0) rfl;refine ⟨u,?_,h2⟩;have h3:=h.1
 apply Array.ext_getElem?
 intro j
 match j with
 | 0=>simpa using h1
 | j+1=>rw [Array.getElem?_eq_none (by simp at h3;omega),Array.getElem?_eq_none (by simp)]
theorem RPs.two {S:Nat→Nat} {w:World} {p q:Pa} {vs:Array Value} (h:RPs S w [p,q] vs):∃ u v,vs=#[u,v]∧RP S w p u∧RP S w q v:=by
 obtain ⟨u,h1,h2⟩:=h.nth (i:=0) rfl;obtain ⟨v,h3,h4⟩:=h.nth (i:=1) rfl;refine ⟨u,v,?_,h2,h4⟩;have h5:=h.1
 apply Array.ext_getElem?
 intro j
 match j with
 | 0=>simpa using h1
 | 1=>simpa using h3
 | j+2=>rw [Array.getElem?_eq_none (by simp at h5;omega),Array.getElem?_eq_none (by simp)]
theorem RPs.nil {S:Nat→Nat} {w:World} {vs:Array Value} (h:RPs S w [] vs):vs=#[]:=by
 have h3:=h.1
 apply Array.ext_getElem?
 intro j;rw [Array.getElem?_eq_none (by simp at h3;omega),Array.getElem?_eq_none (by simp)]
theorem RPs.mk2 {S:Nat→Nat} {w:World} {p q:Pa} {u v:Value} (h:RP S w p u) (k:RP S w q v):RPs S w [p,q] #[u,v]:=⟨rfl,fun i r x h1 h2=>by
 match i with
 | 0=>cases h1;simp at h2;subst h2;exact h
 | 1=>cases h1;simp at h2;subst h2;exact k
 | i+2=>simp at h1⟩
theorem RP.int {S:Nat→Nat} {w:World} {n:Int} {u:Value} (h:RP S w (pI n) u):u=.int .i64 n:=(RD.sc_inv h).1
theorem RP.mkInt {S:Nat→Nat} {w:World} (n:Int):RP S w (pI n) (.int .i64 n):=.sc _ rfl
theorem RP.mkBool {S:Nat→Nat} {w:World} (n:Bool):RP S w (pB n) (.bool n):=.sc _ rfl
theorem RP.bool {S:Nat→Nat} {w:World} {n:Bool} {u:Value} (h:RP S w (pB n) u):u=.bool n:=(RD.sc_inv h).1
theorem RP.flat {S:Nat→Nat} {w:World} {vs:List Value} {u:Value} (h:RP S w (.agg (vs.map Dt.sc)) u):u=.agg vs.toArray:=by
 obtain ⟨arr,rfl,h2,h3⟩:=h
 congr 1
 apply Array.ext_getElem?
 intro j;simp only [List.getElem?_toArray];rw [List.length_map] at h2
 cases hj:vs[j]? with
 | none=>rw [Array.getElem?_eq_none];rw [List.getElem?_eq_none_iff] at hj;omega
 | some x =>
   have hlt:j < arr.size:=by have:=(List.getElem?_eq_some_iff.1 hj).1;omega
   rw [Array.getElem?_eq_getElem hlt,(RD.sc_inv (h3 j (.sc x) arr[j] (by rw [List.getElem?_map,hj];rfl) (Array.getElem?_eq_getElem hlt))).1]
def tsR (s:TS) (N:Nat) (w:World) (v:Value) (fp:Nat→Prop):Prop :=
 ∃ sb bc bm bd kv,v=.pointer (some ⟨sb,0,none⟩)∧@TRep ⟨fp⟩ w sb bc bm bd N s kv∧(fp sb∧fp bc∧fp bm∧fp bd)∧∀ b,fp b→b < w.heap.size
theorem heap_lt {w w':World} {b:Nat} (h:b < w.heap.size) (e:w'.heap[b]? = w.heap[b]?):b < w'.heap.size:=by
 rcases Nat.lt_or_ge b w'.heap.size with h1 | h1
 ·exact h1
 ·rw [Array.getElem?_eq_none h1,Array.getElem?_eq_getElem h] at e;cases e
theorem tsR_keep (s:TS) (N:Nat) (w w':World) (v:Value) (fp:Nat→Prop) (h:tsR s N w v fp) (hb:∀ b,fp b→w'.heap[b]? = w.heap[b]?):tsR s N w' v fp:=by
 letI:KB:=⟨fp⟩
 obtain ⟨sb,bc,bm,bd,kv,hv,hT,⟨f0,f1,f2,f3⟩,hlt⟩:=h;refine ⟨sb,bc,bm,bd,kv,hv,⟨(hb sb f0).trans hT.row,?_,hT.chans.keep (hb bc f1),hT.mus.keep (hb bm f2),hT.done.keep (hb bd f3),hT.ncm,hT.ncd,hT.nmd⟩,⟨f0,f1,f2,f3⟩,fun b hf=>heap_lt (hlt b hf) (hb b hf)⟩;obtain ⟨A,c,h1,h2,h3⟩:=hT.kinds;refine ⟨A,c,h1,h2,fun hn=>?_⟩;obtain ⟨b,o,hA,hne,hc⟩:=h3 hn;refine ⟨b,o,hA,hne,fun i x hx=>?_⟩;exact (World.cell?_of_block (w:=w) (a:=⟨b,o+i,none⟩) (hb b hne.2)).trans (hc i x hx)
def tsH (s:TS) (N:Nat):HP where
 r:=tsR s N
 keep:=fun w w' v fp h hb=>tsR_keep s N w w' v fp h hb
 lt:=fun w v fp b h hb=>by obtain ⟨_,_,_,_,_,_,_,_,hlt⟩:=h;exact hlt b hb
theorem KindsAt.lt {K:KB} {fp:Nat→Prop} {w:World} {v:Value} {xs:List Int} {sb:Nat} (h:@KindsAt K w v xs sb) (hk:∀ b,K.p b→b < w.heap.size→fp b):@KindsAt ⟨fp⟩ w v xs sb:=by
 obtain ⟨A,c,h1,h2,h3⟩:=h;refine ⟨A,c,h1,h2,fun hn=>?_⟩;obtain ⟨b,o,hA,hne,hc⟩:=h3 hn;have h4:=hc 0 (xs[0]'hn) (List.getElem?_eq_getElem hn);exact ⟨b,o,hA,⟨hne.1,hk b hne.2 (block_lt_of_cell h4)⟩,hc⟩
theorem TRep.kb {K:KB} {fp:Nat→Prop} {w:World} {sb bc bm bd N:Nat} {s:TS} {kv:Value} (h:@TRep K w sb bc bm bd N s kv) (hk:∀ b,K.p b→b < w.heap.size→fp b):@TRep ⟨fp⟩ w sb bc bm bd N s kv :=
 @TRep.mk ⟨fp⟩ _ _ _ _ _ _ _ _ (@TRep.row K _ _ _ _ _ _ _ _ h) (@KindsAt.lt K fp _ _ _ _ (@TRep.kinds K _ _ _ _ _ _ _ _ h) hk) (@TRep.chans K _ _ _ _ _ _ _ _ h) (@TRep.mus K _ _ _ _ _ _ _ _ h) (@TRep.done K _ _ _ _ _ _ _ _ h) (@TRep.ncm K _ _ _ _ _ _ _ _ h) (@TRep.ncd K _ _ _ _ _ _ _ _ h) (@TRep.nmd K _ _ _ _ _ _ _ _ h)
theorem RPs.nil_inv {S:Nat→Nat} {w:World} {vs:Array Value} (h:RPs S w [] vs):vs=#[]:=by
 apply Array.eq_empty_of_size_eq_zero
 have:=h.1;simp at this;omega
def Ra_new (Ho:Option HP) (az:List Pa) (H:HP) (rs:List Pa):Prop:=Ho=none∧az=[]∧H=tsH TS.new 0∧rs=[]
theorem sa_new:SpecA Try.prog 19 Ra_new:=by
 rintro Ho az H rs ⟨rfl,rfl,rfl,rfl⟩ S w vals _ hv;obtain rfl:=hv.nil_inv;refine (@new_any ⟨fun _=>True⟩ w).mono ?_;rintro r w' ⟨sb,bc,bm,bd,kv,rfl,hT,⟨z0,z1,z2,z3⟩,hb⟩
 letI:KB:=⟨fun _=>True⟩
 have hl:sb < w'.heap.size∧bc < w'.heap.size∧bm < w'.heap.size∧bd < w'.heap.size:=⟨hT.lt,hT.chans.lt,hT.mus.lt,hT.done.lt⟩
 have hT2:@TRep ⟨fun b=>w.heap.size≤b∧b < w'.heap.size⟩ w' sb bc bm bd 0 TS.new kv:=by
  refine @TRep.mk ⟨fun b=>w.heap.size≤b∧b < w'.heap.size⟩ _ _ _ _ _ _ _ _ hT.row ?_ hT.chans hT.mus hT.done hT.ncm hT.ncd hT.nmd;obtain ⟨A,c,h1,h2,h3⟩:=hT.kinds;exact ⟨A,c,h1,h2,fun hn=>absurd hn (by decide)⟩
 exact ⟨_,fun b=>if b < w.heap.size then S b else 0,.pointer (some ⟨sb,0,none⟩),fun b=>w.heap.size≤b∧b < w'.heap.size,rfl,rfl,rfl,⟨sb,bc,bm,bd,kv,rfl,hT2,⟨⟨z0,hl.1⟩,⟨z1,hl.2.1⟩,⟨z2,hl.2.2.1⟩,z3,hl.2.2.2⟩,fun b h=>h.2⟩,hb,fun b h=>⟨h.1,if_neg (by omega)⟩,fun b h=>if_pos h⟩
def Ra_gor (Ho:Option HP) (az:List Pa) (H:HP) (rs:List Pa):Prop:=∃ (s:TS) (N:Nat),Ho=some (tsH s N)∧az=[]∧H=tsH s N∧rs=[pI s.gor]
theorem sa_gor:SpecA Try.prog 24 Ra_gor:=by
 rintro Ho az H rs ⟨s,N,rfl,rfl,rfl,rfl⟩ S w vals _ hv v fp hr hS;obtain rfl:=hv.nil_inv;obtain ⟨sb,bc,bm,bd,kv,rfl,hT,hf,hlt⟩:=hr;refine (@sgor_any ⟨fp⟩ sb bc bm bd N s kv w hT).mono ?_;rintro r w' ⟨rfl,rfl⟩;exact ⟨_,S,fp,rfl,RP.mkInt _,⟨sb,bc,bm,bd,kv,rfl,hT,hf,hlt⟩,⟨rfl,rfl,rfl,Nat.le_refl _,fun _ _ _=>rfl⟩,fun b h=>⟨.inl h,hS b h⟩,fun _ _=>rfl⟩
def Ra_open (Ho:Option HP) (az:List Pa) (H:HP) (rs:List Pa):Prop:=∃ (s:TS) (N:Nat),Ho=some (tsH s N)∧az=[]∧H=tsH s N∧rs=[pB s.isOpen]
theorem sa_open:SpecA Try.prog 25 Ra_open:=by
 rintro Ho az H rs ⟨s,N,rfl,rfl,rfl,rfl⟩ S w vals _ hv v fp hr hS;obtain rfl:=hv.nil_inv;obtain ⟨sb,bc,bm,bd,kv,rfl,hT,hf,hlt⟩:=hr;refine (@open_any ⟨fp⟩ sb bc bm bd N s kv w hT).mono ?_;rintro r w' ⟨rfl,rfl⟩;exact ⟨_,S,fp,rfl,RP.mkBool _,⟨sb,bc,bm,bd,kv,rfl,hT,hf,hlt⟩,⟨rfl,rfl,rfl,Nat.le_refl _,fun _ _ _=>rfl⟩,fun b h=>⟨.inl h,hS b h⟩,fun _ _=>rfl⟩
end Go.Proofs.Ytffcpijeebagfaa
end
section
namespace Go.Proofs.Ytffcpijeebagfaa
open Go Go.RowKit
set_option maxRecDepth 100000
def eqsL:List (Nat×List Bool):=[(33,[false,false,false,false,false,false,false,false,false]),(34,[false,false,false,false,false,false,false,false,false]),(52,List.replicate 8 false),(53,List.replicate 8 false),(77,[false,false]),(78,[false,false]),(94,[false,false,false,true]),(95,[false,false,false,true]),(97,[false,false]),(98,[false,false]),(99,[true,false]),(100,[true,false]),(136,List.replicate 7 false),(142,[false,false,false]),(143,[false,false,false]),(145,[false,false,false,false,true]),(146,[false,false,false,false,true]),(150,[false,false,true,false]),(151,[false,false,true,false])]
theorem eqsOK:∀ p,p ∈ eqsL→EqT Try.prog p.1 p.2:=by
 intro p hp;simp only [eqsL,List.mem_cons,List.not_mem_nil,or_false] at hp
 rcases hp with rfl | rfl | rfl | rfl | rfl | rfl | rfl | rfl | rfl | rfl | rfl | rfl | rfl | rfl | rfl | rfl | rfl | rfl | rfl
 ·exact eqT_struct Try.underlying33 (by kernel_rfl) (by kernel_rfl) (by kernel_rfl)
 ·exact eqT_struct Try.underlying34 (by kernel_rfl) (by kernel_rfl) (by kernel_rfl)
 ·exact eqT_array Try.underlying52 (ei:=(Try.prog.info? 3).getD default) (by kernel_rfl) (by kernel_rfl) (by kernel_rfl) (by kernel_rfl)
 ·exact eqT_array Try.underlying53 (ei:=(Try.prog.info? 3).getD default) (by kernel_rfl) (by kernel_rfl) (by kernel_rfl) (by kernel_rfl)
 ·exact eqT_struct Try.underlying77 (by kernel_rfl) (by kernel_rfl) (by kernel_rfl)
 ·exact eqT_struct Try.underlying78 (by kernel_rfl) (by kernel_rfl) (by kernel_rfl)
 ·exact eqT_struct Try.underlying94 (by kernel_rfl) (by kernel_rfl) (by kernel_rfl)
 ·exact eqT_struct Try.underlying95 (by kernel_rfl) (by kernel_rfl) (by kernel_rfl)
 ·exact eqT_struct Try.underlying97 (by kernel_rfl) (by kernel_rfl) (by kernel_rfl)
 ·exact eqT_struct Try.underlying98 (by kernel_rfl) (by kernel_rfl) (by kernel_rfl)
 ·exact eqT_struct Try.underlying99 (by kernel_rfl) (by kernel_rfl) (by kernel_rfl)
 ·exact eqT_struct Try.underlying100 (by kernel_rfl) (by kernel_rfl) (by kernel_rfl)
 ·exact eqT_array Try.underlying136 (ei:=(Try.prog.info? 3).getD default) (by kernel_rfl) (by kernel_rfl) (by kernel_rfl) (by kernel_rfl)
 ·exact eqT_struct Try.underlying142 (by kernel_rfl) (by kernel_rfl) (by kernel_rfl)
 ·exact eqT_struct Try.underlying143 (by kernel_rfl) (by kernel_rfl) (by kernel_rfl)
 ·exact eqT_struct Try.underlying145 (by kernel_rfl) (by kernel_rfl) (by kernel_rfl)
 ·exact eqT_struct Try.underlying146 (by kernel_rfl) (by kernel_rfl) (by kernel_rfl)
 ·exact eqT_struct Try.underlying150 (by kernel_rfl) (by kernel_rfl) (by kernel_rfl)
 ·exact eqT_struct Try.underlying151 (by kernel_rfl) (by kernel_rfl) (by kernel_rfl)
theorem mixedOK:Try.prog.follows .mixedOrders=true:=by kernel_rfl
def pc22 : PC := .seq (.reg false [⟨(some 2), .box (.t 0), none, []⟩, ⟨(some 3), .box (.t 1), none, []⟩, ⟨(some 4), .new [(.int .i64 0), (.int .i64 0), (.slice none 0 0), (.slice none 0 0), (.slice none 0 0), (.slice none 0 0), (.int .i64 0), (.int .i64 0), (.int .i64 0)], none, []⟩, ⟨(some 5), .mv (.v (.bool false)), none, []⟩]) (.seq (.seq (.reg false [⟨(some 8), .load (some 9) (.t 3), none, []⟩, ⟨(some 9), .call 64 [(.t 8)], none, [0]⟩, ⟨(some 10), .un .not (.t 9), none, [1]⟩, ⟨(some 11), .mv (.t 10), none, [2, 1]⟩, ⟨(some 12), .fld 0 (.t 2), (some (11, false)), [3]⟩, ⟨(some 13), .load none (.t 12), (some (11, false)), [4, 3]⟩, ⟨(some 14), .bin .geq (.t 13) (.v (.int .i64 5000)), (some (11, false)), [5, 3]⟩, ⟨(some 15), .pick (.t 11) (.v (.bool true)) (.t 14), none, [3, 6]⟩, ⟨(some 16), .mv (.t 15), none, [7, 3]⟩, ⟨(some 17), .fld 0 (.t 3), (some (16, false)), [8]⟩, ⟨(some 18), .load none (.t 17), (some (16, false)), [9, 8]⟩, ⟨(some 19), .fld 1 (.t 2), (some (16, false)), [8]⟩, ⟨(some 20), .load none (.t 19), (some (16, false)), [11, 8]⟩, ⟨(some 21), .bin .geq (.t 18) (.t 20), (some (16, false)), [10, 12, 8]⟩, ⟨(some 22), .pick (.t 16) (.v (.bool true)) (.t 21), none, [8, 13]⟩]) (.cond (.t 22) (.seq (.reg false [⟨(some 23), .load (some 9) (.t 2), none, []⟩, ⟨none, .store 9 (.t 4) (.t 23), none, [0, 0]⟩, ⟨(some 5), .mv (.v (.bool false)), none, [1, 0, 1]⟩]) (.ret)) (.skip))) (.seq (.reg false [⟨(some 6), .new [(.int .i64 0), (.int .i64 0), (.slice none 0 0), (.slice none 0 0), (.slice none 0 0), (.slice none 0 0), (.int .i64 0), (.int .i64 0), (.int .i64 0)], none, []⟩]) (.seq (.reg false [⟨(some 7), .mv (.v (.bool false)), none, []⟩]) (.seq (.block 0 (.seq (.reg false [⟨(some 31), .fld 5 (.t 2), none, []⟩, ⟨(some 32), .load none (.t 31), none, [0]⟩, ⟨(some 33), .len (.t 32), none, [1]⟩, ⟨(some 34), .bin .gtr (.t 33) (.v (.int .i64 0)), none, [2]⟩, ⟨(some 30), .mv (.t 34), none, [3]⟩]) (.cond (.t 30) (.reg false [⟨(some 36), .load (some 9) (.t 2), none, []⟩, ⟨(some 37), .load (some 9) (.t 3), none, []⟩, ⟨(some 38), .call 65 [(.t 36), (.t 37)], none, [0, 1]⟩, ⟨(some 35), .mv (.t 38), none, [2]⟩, ⟨(some 39), .ext (.t 35) 0, none, [3]⟩, ⟨(some 40), .ext (.t 35) 1, none, [3]⟩, ⟨none, .store 9 (.t 6) (.t 39), none, [4, 2, 0, 1, 2, 3, 4]⟩, ⟨(some 7), .mv (.t 40), none, [5, 6, 0, 1, 2, 3, 4, 5, 6]⟩]) (.seq (.reg false [⟨(some 42), .fld 1 (.t 3), none, []⟩, ⟨(some 43), .load none (.t 42), none, [0]⟩, ⟨(some 44), .call 66 [(.t 43)], none, [1]⟩, ⟨(some 41), .mv (.t 44), none, [2, 2]⟩]) (.cond (.t 41) (.reg false [⟨(some 46), .load (some 9) (.t 2), none, []⟩, ⟨(some 47), .load (some 9) (.t 3), none, []⟩, ⟨(some 48), .call 67 [(.t 46), (.t 47)], none, [0, 1]⟩, ⟨(some 45), .mv (.t 48), none, [2]⟩, ⟨(some 49), .ext (.t 45) 0, none, [3]⟩, ⟨(some 50), .ext (.t 45) 1, none, [3]⟩, ⟨none, .store 9 (.t 6) (.t 49), none, [4, 2, 0, 1, 2, 3, 4]⟩, ⟨(some 7), .mv (.t 50), none, [5, 6, 0, 1, 2, 3, 4, 5, 6]⟩]) (.reg false [⟨(some 25), .load (some 9) (.t 2), none, []⟩, ⟨(some 26), .load (some 9) (.t 3), none, []⟩, ⟨(some 27), .call 68 [(.t 25), (.t 26)], none, [0, 1]⟩, ⟨(some 24), .mv (.t 27), none, [2]⟩, ⟨(some 28), .ext (.t 24) 0, none, [3]⟩, ⟨(some 29), .ext (.t 24) 1, none, [3]⟩, ⟨none, .store 9 (.t 6) (.t 28), none, [4, 2, 0, 1, 2, 3, 4]⟩, ⟨(some 7), .mv (.t 29), none, [5, 6, 0, 1, 2, 3, 4, 5, 6]⟩])))))) (.seq (.seq (.reg false [⟨(some 51), .mv (.t 7), none, []⟩, ⟨(some 52), .un .not (.t 51), none, [0]⟩]) (.cond (.t 52) (.seq (.reg false [⟨(some 53), .load (some 9) (.t 2), none, []⟩, ⟨none, .store 9 (.t 4) (.t 53), none, [0, 0]⟩, ⟨(some 5), .mv (.v (.bool false)), none, [1, 0, 1]⟩]) (.ret)) (.skip))) (.seq (.reg false [⟨(some 54), .fld 0 (.t 6), none, []⟩, ⟨(some 55), .load none (.t 54), none, [0]⟩, ⟨(some 56), .bin .add (.t 55) (.v (.int .i64 1)), none, [1]⟩, ⟨(some 57), .fld 0 (.t 6), none, [0, 1, 2]⟩, ⟨none, .store 1 (.t 57) (.t 56), none, [3, 2, 0, 1, 2]⟩]) (.seq (.reg false [⟨(some 58), .load (some 9) (.t 6), none, []⟩, ⟨none, .store 9 (.t 4) (.t 58), none, [0, 0]⟩, ⟨(some 5), .mv (.v (.bool true)), none, [1, 0, 1]⟩]) (.ret))))))))
def pr22 : List PR := [.c 4 (some 9), .t 5]
theorem bd22:Try.f22.body=some (Try.f22.body.getD .skip):=by kernel_rfl
theorem cp22:compC Try.prog Try.f22.ntmps eqsL (Try.f22.body.getD .skip)=some pc22:=by kernel_rfl
theorem sp22 [WInv] {env:Env} (hE:EnvOK Try.prog env) {R:List Pa→List Pa→Prop} (hR:∀ ps rs,R ps rs→ps.length≤59∧pwp env pc22 (fun e s=>(e=.normal∨e=.ret)∧s.res pr22=some rs) (St.init ps)):Spec Try.prog 22 R :=
 fn_sound hE eqsOK mixedOK Try.func22 bd22 cp22 (by kernel_rfl) (by kernel_rfl) (by kernel_rfl) hR
def pc65c0 : PC := .seq (.reg false [⟨(some 92), .mv (.t 7), none, []⟩, ⟨(some 93), .fld 5 (.t 2), none, [0]⟩, ⟨none, .store 1 (.t 93) (.t 92), none, [1, 0, 0]⟩]) (.seq (.reg false [⟨(some 94), .load (some 9) (.t 2), none, []⟩, ⟨(some 95), .load (some 9) (.t 3), none, []⟩, ⟨(some 96), .call 96 [(.t 94), (.t 95)], none, [0, 1]⟩, ⟨none, .store 9 (.t 4) (.t 96), none, [2, 2, 0, 1, 2]⟩, ⟨(some 5), .mv (.v (.bool true)), none, [3, 0, 1, 2, 3]⟩]) (.ret))
def pc65c1 : PC := .seq (.reg false [⟨(some 8), .mv (.v (.int .i64 1)), none, []⟩]) (.block 0 (.loop (.seq (.seq (.reg false [⟨(some 65), .mv (.t 8), none, []⟩, ⟨(some 66), .fld 5 (.t 2), none, []⟩, ⟨(some 67), .load none (.t 66), none, [1]⟩, ⟨(some 68), .len (.t 67), none, [2]⟩, ⟨(some 69), .bin .lss (.t 65) (.t 68), none, [0, 3]⟩]) (.cond (.t 69) (.skip) (.exit 0))) (.seq (.block 1 (.seq (.reg false [⟨(some 72), .fld 5 (.t 2), none, []⟩, ⟨(some 73), .load none (.t 72), none, [0]⟩, ⟨(some 74), .mv (.t 8), none, []⟩, ⟨(some 75), .ixs 3 (.t 73) (.t 74), none, [1, 2]⟩, ⟨(some 76), .load (some 3) (.t 75), none, [3]⟩, ⟨(some 9), .new [(.int .i64 0), (.int .i64 0), (.int .i64 0)], none, []⟩, ⟨none, .store 3 (.t 9) (.t 76), none, [5, 4, 0, 1, 2, 3, 4, 5]⟩]) (.seq (.seq (.reg false [⟨(some 77), .fld 1 (.t 6), none, []⟩, ⟨(some 78), .load none (.t 77), none, [0]⟩, ⟨(some 79), .bin .lss (.t 78) (.v (.int .i64 0)), none, [1]⟩, ⟨(some 80), .mv (.t 79), none, [2]⟩, ⟨(some 81), .fld 1 (.t 9), (some (80, true)), [3]⟩, ⟨(some 82), .load none (.t 81), (some (80, true)), [4, 3]⟩, ⟨(some 83), .bin .lss (.t 82) (.v (.int .i64 0)), (some (80, true)), [5, 3]⟩, ⟨(some 84), .pick (.t 80) (.t 83) (.v (.bool false)), none, [3, 6]⟩]) (.cond (.t 84) (.reg false [⟨(some 85), .fld 0 (.t 3), none, []⟩, ⟨(some 86), .load none (.t 85), none, [0]⟩, ⟨(some 87), .fld 1 (.t 9), none, [0, 1]⟩, ⟨none, .store 1 (.t 87) (.t 86), none, [2, 1, 0, 1]⟩]) (.skip))) (.reg false [⟨(some 88), .mv (.t 7), none, []⟩, ⟨(some 89), .load (some 3) (.t 9), none, []⟩, ⟨(some 90), .bslice 143 3 [(.int .i64 0), (.int .i64 0), (.int .i64 0)] 1 [(0, 3, (.t 89))], none, [1]⟩, ⟨(some 91), .append 143 3 24 (.t 88) (.t 90), none, [0, 2]⟩, ⟨(some 7), .mv (.t 91), none, [3, 3, 0, 1, 2, 3]⟩])))) (.reg false [⟨(some 70), .mv (.t 8), none, []⟩, ⟨(some 71), .bin .add (.t 70) (.v (.int .i64 1)), none, [0]⟩, ⟨(some 8), .mv (.t 71), none, [1, 0, 1]⟩])))))
def pc65c2 : PC := .seq (.reg false [⟨(some 7), .nilRow 143 3, none, []⟩]) (.seq (pc65c1) (pc65c0))
def pc65c3 : PC := .reg false [⟨(some 14), .fld 1 (.t 3), none, []⟩, ⟨(some 15), .load none (.t 14), none, [0]⟩, ⟨(some 16), .fld 0 (.t 6), none, []⟩, ⟨(some 17), .load none (.t 16), none, [2]⟩, ⟨(some 18), .bin .neq (.t 15) (.t 17), none, [1, 3]⟩, ⟨(some 19), .mv (.t 18), none, [4]⟩, ⟨(some 20), .fld 2 (.t 3), (some (19, false)), [5]⟩, ⟨(some 21), .load none (.t 20), (some (19, false)), [6, 5]⟩, ⟨(some 22), .fld 6 (.t 2), (some (19, false)), [5]⟩, ⟨(some 23), .load none (.t 22), (some (19, false)), [8, 5]⟩, ⟨(some 24), .bin .neq (.t 21) (.t 23), (some (19, false)), [7, 9, 5]⟩, ⟨(some 25), .pick (.t 19) (.v (.bool true)) (.t 24), none, [5, 10]⟩, ⟨(some 26), .mv (.t 25), none, [11, 5]⟩, ⟨(some 27), .fld 4 (.t 3), (some (26, false)), [12]⟩, ⟨(some 28), .load none (.t 27), (some (26, false)), [13, 12]⟩, ⟨(some 29), .fld 7 (.t 2), (some (26, false)), [12]⟩, ⟨(some 30), .load none (.t 29), (some (26, false)), [15, 12]⟩, ⟨(some 31), .bin .neq (.t 28) (.t 30), (some (26, false)), [14, 16, 12]⟩, ⟨(some 32), .pick (.t 26) (.v (.bool true)) (.t 31), none, [12, 17]⟩, ⟨(some 33), .mv (.t 32), none, [18, 12]⟩, ⟨(some 34), .fld 5 (.t 3), (some (33, false)), [19]⟩, ⟨(some 35), .load none (.t 34), (some (33, false)), [20, 19]⟩, ⟨(some 36), .fld 8 (.t 2), (some (33, false)), [19]⟩, ⟨(some 37), .load none (.t 36), (some (33, false)), [22, 19]⟩, ⟨(some 38), .bin .neq (.t 35) (.t 37), (some (33, false)), [21, 23, 19]⟩, ⟨(some 39), .pick (.t 33) (.v (.bool true)) (.t 38), none, [19, 24]⟩, ⟨(some 40), .mv (.t 39), none, [25, 19]⟩, ⟨(some 41), .fld 1 (.t 6), (some (40, false)), [26]⟩, ⟨(some 42), .load none (.t 41), (some (40, false)), [27, 26]⟩, ⟨(some 43), .bin .geq (.t 42) (.v (.int .i64 0)), (some (40, false)), [28, 26]⟩, ⟨(some 44), .mv (.t 43), (some (40, false)), [29, 26, 26]⟩, ⟨(some 45), .fld 0 (.t 3), (some (44, true)), [30]⟩, ⟨(some 46), .load none (.t 45), (some (44, true)), [31, 30]⟩, ⟨(some 47), .fld 1 (.t 6), (some (44, true)), [30]⟩, ⟨(some 48), .load none (.t 47), (some (44, true)), [33, 30]⟩, ⟨(some 49), .bin .neq (.t 46) (.t 48), (some (44, true)), [32, 34, 30]⟩, ⟨(some 50), .pick (.t 44) (.t 49) (.v (.bool false)), (some (40, false)), [30, 35, 26]⟩, ⟨(some 51), .pick (.t 40) (.v (.bool true)) (.t 50), none, [26, 36]⟩, ⟨(some 52), .mv (.t 51), none, [37, 30]⟩, ⟨(some 53), .fld 1 (.t 6), (some (52, false)), [38]⟩, ⟨(some 54), .load none (.t 53), (some (52, false)), [39, 38]⟩, ⟨(some 55), .bin .lss (.t 54) (.v (.int .i64 0)), (some (52, false)), [40, 38]⟩, ⟨(some 56), .mv (.t 55), (some (52, false)), [41, 38, 38]⟩, ⟨(some 57), .fld 0 (.t 3), (some (56, true)), [42]⟩, ⟨(some 58), .load none (.t 57), (some (56, true)), [43, 42]⟩, ⟨(some 59), .fld 2 (.t 6), (some (56, true)), [42]⟩, ⟨(some 60), .load none (.t 59), (some (56, true)), [45, 42]⟩, ⟨(some 61), .bin .eql (.t 58) (.t 60), (some (56, true)), [44, 46, 42]⟩, ⟨(some 62), .pick (.t 56) (.t 61) (.v (.bool false)), (some (52, false)), [42, 47, 38]⟩, ⟨(some 63), .pick (.t 52) (.v (.bool true)) (.t 62), none, [38, 48]⟩]
def pc65c4 : PC := .seq (pc65c3) (.cond (.t 63) (.seq (.reg false [⟨(some 64), .load (some 9) (.t 2), none, []⟩, ⟨none, .store 9 (.t 4) (.t 64), none, [0, 0]⟩, ⟨(some 5), .mv (.v (.bool false)), none, [1, 0, 1]⟩]) (.ret)) (.skip))
def pc65 : PC := .seq (.reg false [⟨(some 2), .box (.t 0), none, []⟩, ⟨(some 3), .box (.t 1), none, []⟩, ⟨(some 4), .new [(.int .i64 0), (.int .i64 0), (.slice none 0 0), (.slice none 0 0), (.slice none 0 0), (.slice none 0 0), (.int .i64 0), (.int .i64 0), (.int .i64 0)], none, []⟩, ⟨(some 5), .mv (.v (.bool false)), none, []⟩]) (.seq (.reg false [⟨(some 10), .fld 5 (.t 2), none, []⟩, ⟨(some 11), .load none (.t 10), none, [0]⟩, ⟨(some 12), .ixs 3 (.t 11) (.v (.int .i64 0)), none, [1]⟩, ⟨(some 13), .load (some 3) (.t 12), none, [2]⟩, ⟨(some 6), .new [(.int .i64 0), (.int .i64 0), (.int .i64 0)], none, []⟩, ⟨none, .store 3 (.t 6) (.t 13), none, [4, 3, 0, 1, 2, 3, 4]⟩]) (.seq (pc65c4) (pc65c2)))
def pr65 : List PR := [.c 4 (some 9), .t 5]
abbrev ms65_0 : List Nat := [65, 66, 67, 68, 69, 72, 73, 74, 75, 76, 9, 77, 78, 79, 80, 81, 82, 83, 84, 85, 86, 87, 88, 89, 90, 91, 7, 70, 71, 8]
abbrev os65_0 : List Nat := [9, 90, 7]
theorem bd65:Try.f65.body=some (Try.f65.body.getD .skip):=by kernel_rfl
theorem cp65:compC Try.prog Try.f65.ntmps eqsL (Try.f65.body.getD .skip)=some pc65:=by kernel_rfl
theorem sp65 [WInv] {env:Env} (hE:EnvOK Try.prog env) {R:List Pa→List Pa→Prop} (hR:∀ ps rs,R ps rs→ps.length≤97∧pwp env pc65 (fun e s=>(e=.normal∨e=.ret)∧s.res pr65=some rs) (St.init ps)):Spec Try.prog 65 R :=
 fn_sound hE eqsOK mixedOK Try.func65 bd65 cp65 (by kernel_rfl) (by kernel_rfl) (by kernel_rfl) hR
def pc67c0 : PC := .seq (.reg false [⟨(some 59), .fld 1 (.t 6), none, []⟩, ⟨(some 60), .load none (.t 59), none, [0]⟩, ⟨(some 61), .bin .eql (.t 60) (.v (.int .i64 0)), none, [1]⟩, ⟨(some 62), .mv (.t 61), none, [2]⟩, ⟨(some 63), .mv (.t 7), (some (62, true)), [3]⟩, ⟨(some 64), .pick (.t 62) (.t 63) (.v (.bool false)), none, [3, 4]⟩]) (.cond (.t 64) (.seq (.reg false [⟨(some 65), .load (some 9) (.t 2), none, []⟩, ⟨(some 66), .load (some 9) (.t 3), none, []⟩, ⟨(some 67), .fld 0 (.t 3), none, []⟩, ⟨(some 68), .load none (.t 67), none, [2]⟩, ⟨(some 69), .build [(.int .i64 0), (.int .i64 0), (.int .i64 0)] [(0, 1, (.v (.int .i64 17))), (1, 1, (.v (.int .i64 (-1)))), (2, 1, (.t 68))], none, [3]⟩, ⟨(some 70), .build [(.int .i64 0), (.int .i64 0), (.int .i64 0)] [(0, 1, (.v (.int .i64 18))), (1, 1, (.v (.int .i64 (-1))))], none, []⟩, ⟨(some 71), .fld 0 (.t 3), none, []⟩, ⟨(some 72), .load none (.t 71), none, [6]⟩, ⟨(some 73), .build [(.int .i64 0), (.int .i64 0), (.int .i64 0)] [(0, 1, (.v (.int .i64 16))), (1, 1, (.t 72))], none, [7]⟩, ⟨(some 74), .bslice 143 3 [(.int .i64 0), (.int .i64 0), (.int .i64 0), (.int .i64 0), (.int .i64 0), (.int .i64 0), (.int .i64 0), (.int .i64 0), (.int .i64 0)] 3 [(0, 3, (.t 69)), (3, 3, (.t 70)), (6, 3, (.t 73))], none, [4, 5, 8]⟩, ⟨(some 75), .call 98 [(.t 65), (.t 66), (.t 74)], none, [0, 1, 9]⟩, ⟨(some 76), .ext (.t 75) 0, none, [10]⟩, ⟨(some 77), .ext (.t 75) 1, none, [10]⟩, ⟨none, .store 9 (.t 4) (.t 76), none, [11, 10, 0, 1, 2, 3, 4, 5, 6, 7, 8, 9, 10, 11, 12]⟩, ⟨(some 5), .mv (.t 77), none, [12, 13, 0, 1, 2, 3, 4, 5, 6, 7, 8, 9, 10, 11, 12, 13]⟩]) (.ret)) (.skip))
def pc67c1 : PC := .seq (.reg false [⟨(some 100), .fld 4 (.t 6), none, []⟩, ⟨(some 101), .load none (.t 100), none, [0]⟩, ⟨(some 102), .un .not (.t 101), none, [1]⟩, ⟨(some 103), .mv (.t 102), none, [2]⟩, ⟨(some 104), .mv (.t 7), (some (103, true)), [3]⟩, ⟨(some 105), .pick (.t 103) (.t 104) (.v (.bool false)), none, [3, 4]⟩]) (.cond (.t 105) (.seq (.reg false [⟨(some 106), .load (some 9) (.t 2), none, []⟩, ⟨(some 107), .load (some 9) (.t 3), none, []⟩, ⟨(some 108), .fld 0 (.t 3), none, []⟩, ⟨(some 109), .load none (.t 108), none, [2]⟩, ⟨(some 110), .build [(.int .i64 0), (.int .i64 0), (.int .i64 0)] [(0, 1, (.v (.int .i64 15))), (1, 1, (.v (.int .i64 (-1)))), (2, 1, (.t 109))], none, [3]⟩, ⟨(some 111), .fld 0 (.t 3), none, []⟩, ⟨(some 112), .load none (.t 111), none, [5]⟩, ⟨(some 113), .build [(.int .i64 0), (.int .i64 0), (.int .i64 0)] [(0, 1, (.v (.int .i64 18))), (1, 1, (.t 112))], none, [6]⟩, ⟨(some 114), .build [(.int .i64 0), (.int .i64 0), (.int .i64 0)] [(0, 1, (.v (.int .i64 16))), (1, 1, (.v (.int .i64 (-1))))], none, []⟩, ⟨(some 115), .bslice 143 3 [(.int .i64 0), (.int .i64 0), (.int .i64 0), (.int .i64 0), (.int .i64 0), (.int .i64 0), (.int .i64 0), (.int .i64 0), (.int .i64 0)] 3 [(0, 3, (.t 110)), (3, 3, (.t 113)), (6, 3, (.t 114))], none, [4, 7, 8]⟩, ⟨(some 116), .call 98 [(.t 106), (.t 107), (.t 115)], none, [0, 1, 9]⟩, ⟨(some 117), .ext (.t 116) 0, none, [10]⟩, ⟨(some 118), .ext (.t 116) 1, none, [10]⟩, ⟨none, .store 9 (.t 4) (.t 117), none, [11, 10, 0, 1, 2, 3, 4, 5, 6, 7, 8, 9, 10, 11, 12]⟩, ⟨(some 5), .mv (.t 118), none, [12, 13, 0, 1, 2, 3, 4, 5, 6, 7, 8, 9, 10, 11, 12, 13]⟩]) (.ret)) (.skip))
def pc67c2 : PC := .seq (.reg false [⟨(some 23), .fld 1 (.t 3), none, []⟩, ⟨(some 24), .load none (.t 23), none, [0]⟩]) (.block 0 (.seq (.reg false [⟨(some 26), .bin .eql (.t 24) (.v (.int .i64 15)), none, []⟩, ⟨(some 25), .mv (.t 26), none, [0]⟩]) (.cond (.t 25) (.seq (.seq (.reg false [⟨(some 27), .fld 4 (.t 3), none, []⟩, ⟨(some 28), .load none (.t 27), none, [0]⟩, ⟨(some 29), .fld 2 (.t 6), none, []⟩, ⟨(some 30), .load none (.t 29), none, [2]⟩, ⟨(some 31), .bin .neq (.t 28) (.t 30), none, [1, 3]⟩, ⟨(some 32), .mv (.t 31), none, [4]⟩, ⟨(some 33), .fld 4 (.t 6), (some (32, false)), [5]⟩, ⟨(some 34), .load none (.t 33), (some (32, false)), [6, 5]⟩, ⟨(some 35), .pick (.t 32) (.v (.bool true)) (.t 34), none, [5, 7]⟩]) (.cond (.t 35) (.seq (.reg false [⟨(some 36), .load (some 9) (.t 2), none, []⟩, ⟨none, .store 9 (.t 4) (.t 36), none, [0, 0]⟩, ⟨(some 5), .mv (.v (.bool false)), none, [1, 0, 1]⟩]) (.ret)) (.skip))) (.seq (.seq (.reg false [⟨(some 37), .fld 1 (.t 6), none, []⟩, ⟨(some 38), .load none (.t 37), none, [0]⟩, ⟨(some 39), .bin .gtr (.t 38) (.v (.int .i64 0)), none, [1]⟩, ⟨(some 40), .mv (.t 39), none, [2]⟩, ⟨(some 41), .fld 2 (.t 6), (some (40, true)), [3]⟩, ⟨(some 42), .load none (.t 41), (some (40, true)), [4, 3]⟩, ⟨(some 43), .fld 3 (.t 6), (some (40, true)), [3]⟩, ⟨(some 44), .load none (.t 43), (some (40, true)), [6, 3]⟩, ⟨(some 45), .bin .sub (.t 42) (.t 44), (some (40, true)), [5, 7, 3]⟩, ⟨(some 46), .fld 1 (.t 6), (some (40, true)), [3]⟩, ⟨(some 47), .load none (.t 46), (some (40, true)), [9, 3]⟩, ⟨(some 48), .bin .lss (.t 45) (.t 47), (some (40, true)), [8, 10, 3]⟩, ⟨(some 49), .pick (.t 40) (.t 48) (.v (.bool false)), none, [3, 11]⟩]) (.cond (.t 49) (.seq (.reg false [⟨(some 50), .load (some 9) (.t 2), none, []⟩, ⟨(some 51), .load (some 9) (.t 3), none, []⟩, ⟨(some 52), .fld 0 (.t 3), none, []⟩, ⟨(some 53), .load none (.t 52), none, [2]⟩, ⟨(some 54), .build [(.int .i64 0), (.int .i64 0), (.int .i64 0)] [(0, 1, (.v (.int .i64 16))), (1, 1, (.t 53))], none, [3]⟩, ⟨(some 55), .bslice 143 3 [(.int .i64 0), (.int .i64 0), (.int .i64 0)] 1 [(0, 3, (.t 54))], none, [4]⟩, ⟨(some 56), .call 98 [(.t 50), (.t 51), (.t 55)], none, [0, 1, 5]⟩, ⟨(some 57), .ext (.t 56) 0, none, [6]⟩, ⟨(some 58), .ext (.t 56) 1, none, [6]⟩, ⟨none, .store 9 (.t 4) (.t 57), none, [7, 6, 0, 1, 2, 3, 4, 5, 6, 7, 8]⟩, ⟨(some 5), .mv (.t 58), none, [8, 9, 0, 1, 2, 3, 4, 5, 6, 7, 8, 9]⟩]) (.ret)) (.skip))) (pc67c0))) (.seq (.reg false [⟨(some 79), .bin .eql (.t 24) (.v (.int .i64 17)), none, []⟩, ⟨(some 78), .mv (.t 79), none, [0]⟩]) (.cond (.t 78) (.seq (.seq (.reg false [⟨(some 80), .fld 4 (.t 3), none, []⟩, ⟨(some 81), .load none (.t 80), none, [0]⟩, ⟨(some 82), .fld 3 (.t 6), none, []⟩, ⟨(some 83), .load none (.t 82), none, [2]⟩, ⟨(some 84), .bin .neq (.t 81) (.t 83), none, [1, 3]⟩]) (.cond (.t 84) (.seq (.reg false [⟨(some 85), .load (some 9) (.t 2), none, []⟩, ⟨none, .store 9 (.t 4) (.t 85), none, [0, 0]⟩, ⟨(some 5), .mv (.v (.bool false)), none, [1, 0, 1]⟩]) (.ret)) (.skip))) (.seq (.seq (.reg false [⟨(some 86), .fld 2 (.t 6), none, []⟩, ⟨(some 87), .load none (.t 86), none, [0]⟩, ⟨(some 88), .fld 3 (.t 6), none, []⟩, ⟨(some 89), .load none (.t 88), none, [2]⟩, ⟨(some 90), .bin .gtr (.t 87) (.t 89), none, [1, 3]⟩]) (.cond (.t 90) (.seq (.reg false [⟨(some 91), .load (some 9) (.t 2), none, []⟩, ⟨(some 92), .load (some 9) (.t 3), none, []⟩, ⟨(some 93), .fld 0 (.t 3), none, []⟩, ⟨(some 94), .load none (.t 93), none, [2]⟩, ⟨(some 95), .build [(.int .i64 0), (.int .i64 0), (.int .i64 0)] [(0, 1, (.v (.int .i64 18))), (1, 1, (.t 94))], none, [3]⟩, ⟨(some 96), .bslice 143 3 [(.int .i64 0), (.int .i64 0), (.int .i64 0)] 1 [(0, 3, (.t 95))], none, [4]⟩, ⟨(some 97), .call 98 [(.t 91), (.t 92), (.t 96)], none, [0, 1, 5]⟩, ⟨(some 98), .ext (.t 97) 0, none, [6]⟩, ⟨(some 99), .ext (.t 97) 1, none, [6]⟩, ⟨none, .store 9 (.t 4) (.t 98), none, [7, 6, 0, 1, 2, 3, 4, 5, 6, 7, 8]⟩, ⟨(some 5), .mv (.t 99), none, [8, 9, 0, 1, 2, 3, 4, 5, 6, 7, 8, 9]⟩]) (.ret)) (.skip))) (pc67c1))) (.seq (.reg false [⟨(some 120), .bin .eql (.t 24) (.v (.int .i64 19)), none, []⟩, ⟨(some 119), .mv (.t 120), none, [0]⟩]) (.cond (.t 119) (.seq (.reg false [⟨(some 121), .fld 4 (.t 6), none, []⟩, ⟨(some 122), .load none (.t 121), none, [0]⟩, ⟨(some 123), .un .not (.t 122), none, [1]⟩]) (.cond (.t 123) (.seq (.reg false [⟨(some 124), .fld 4 (.t 6), none, []⟩, ⟨none, .store 1 (.t 124) (.v (.bool true)), none, [0]⟩]) (.seq (.reg false [⟨(some 125), .load (some 9) (.t 2), none, []⟩, ⟨(some 126), .load (some 5) (.t 6), none, []⟩, ⟨(some 127), .call 99 [(.t 125), (.t 126)], none, [0, 1]⟩, ⟨none, .store 9 (.t 4) (.t 127), none, [2, 2, 0, 1, 2]⟩, ⟨(some 5), .mv (.v (.bool true)), none, [3, 0, 1, 2, 3]⟩]) (.ret))) (.skip))) (.seq (.reg false [⟨(some 129), .bin .eql (.t 24) (.v (.int .i64 20)), none, []⟩, ⟨(some 128), .mv (.t 129), none, [0]⟩]) (.cond (.t 128) (.seq (.reg true [⟨(some 130), .load (some 9) (.t 2), none, []⟩, ⟨(some 131), .fld 4 (.t 6), none, []⟩, ⟨(some 132), .load none (.t 131), none, [1]⟩, ⟨(some 133), .mv (.t 132), none, [2]⟩, ⟨(some 134), .fld 2 (.t 6), (some (133, true)), [3]⟩, ⟨(some 135), .load none (.t 134), (some (133, true)), [4, 3]⟩, ⟨(some 136), .fld 3 (.t 6), (some (133, true)), [3]⟩, ⟨(some 137), .load none (.t 136), (some (133, true)), [6, 3]⟩, ⟨(some 138), .bin .eql (.t 135) (.t 137), (some (133, true)), [5, 7, 3]⟩, ⟨(some 139), .pick (.t 133) (.t 138) (.v (.bool false)), none, [3, 8]⟩, ⟨none, .store 9 (.t 4) (.t 130), none, [0, 3, 0]⟩, ⟨(some 5), .mv (.t 139), none, [9, 10, 0, 1, 2, 3, 4, 5, 6, 7, 8, 9, 10]⟩]) (.ret)) (.skip))))))))))
def pc67 : PC := .seq (.reg false [⟨(some 2), .box (.t 0), none, []⟩, ⟨(some 3), .box (.t 1), none, []⟩, ⟨(some 4), .new [(.int .i64 0), (.int .i64 0), (.slice none 0 0), (.slice none 0 0), (.slice none 0 0), (.slice none 0 0), (.int .i64 0), (.int .i64 0), (.int .i64 0)], none, []⟩, ⟨(some 5), .mv (.v (.bool false)), none, []⟩]) (.seq (.reg false [⟨(some 8), .load (some 9) (.t 2), none, []⟩, ⟨(some 9), .fld 2 (.t 3), none, []⟩, ⟨(some 10), .load none (.t 9), none, [1]⟩, ⟨(some 11), .fld 5 (.t 3), none, []⟩, ⟨(some 12), .load none (.t 11), none, [3]⟩, ⟨(some 13), .call 97 [(.t 8), (.t 10), (.t 12)], none, [0, 2, 4]⟩, ⟨(some 6), .new [(.int .i64 0), (.int .i64 0), (.int .i64 0), (.int .i64 0), (.bool false)], none, []⟩, ⟨none, .store 5 (.t 6) (.t 13), none, [6, 5, 5, 0, 1, 2, 3, 4, 5, 6]⟩]) (.seq (.seq (.reg false [⟨(some 14), .fld 1 (.t 6), none, []⟩, ⟨(some 15), .load none (.t 14), none, [0]⟩, ⟨(some 16), .fld 5 (.t 3), none, []⟩, ⟨(some 17), .load none (.t 16), none, [2]⟩, ⟨(some 18), .bin .neq (.t 15) (.t 17), none, [1, 3]⟩]) (.cond (.t 18) (.seq (.reg false [⟨(some 19), .load (some 9) (.t 2), none, []⟩, ⟨none, .store 9 (.t 4) (.t 19), none, [0, 0]⟩, ⟨(some 5), .mv (.v (.bool false)), none, [1, 0, 1]⟩]) (.ret)) (.skip))) (.seq (.reg false [⟨(some 20), .fld 1 (.t 2), none, []⟩, ⟨(some 21), .load none (.t 20), none, [0]⟩, ⟨(some 22), .bin .gtr (.t 21) (.v (.int .i64 1)), none, [1]⟩, ⟨(some 7), .mv (.t 22), none, [2, 0, 1, 2]⟩]) (.seq (pc67c2) (.seq (.reg false [⟨(some 140), .load (some 9) (.t 2), none, []⟩, ⟨none, .store 9 (.t 4) (.t 140), none, [0, 0]⟩, ⟨(some 5), .mv (.v (.bool false)), none, [1, 0, 1]⟩]) (.ret))))))
def pr67 : List PR := [.c 4 (some 9), .t 5]
theorem bd67:Try.f67.body=some (Try.f67.body.getD .skip):=by kernel_rfl
theorem cp67:compC Try.prog Try.f67.ntmps eqsL (Try.f67.body.getD .skip)=some pc67:=by kernel_rfl
theorem sp67 [WInv] {env:Env} (hE:EnvOK Try.prog env) {R:List Pa→List Pa→Prop} (hR:∀ ps rs,R ps rs→ps.length≤141∧pwp env pc67 (fun e s=>(e=.normal∨e=.ret)∧s.res pr67=some rs) (St.init ps)):Spec Try.prog 67 R :=
 fn_sound hE eqsOK mixedOK Try.func67 bd67 cp67 (by kernel_rfl) (by kernel_rfl) (by kernel_rfl) hR
def pc68 : PC := .seq (.reg false [⟨(some 2), .box (.t 0), none, []⟩, ⟨(some 3), .box (.t 1), none, []⟩, ⟨(some 4), .new [(.int .i64 0), (.int .i64 0), (.slice none 0 0), (.slice none 0 0), (.slice none 0 0), (.slice none 0 0), (.int .i64 0), (.int .i64 0), (.int .i64 0)], none, []⟩, ⟨(some 5), .mv (.v (.bool false)), none, []⟩]) (.seq (.reg false [⟨(some 10), .load (some 9) (.t 2), none, []⟩, ⟨(some 11), .fld 2 (.t 3), none, []⟩, ⟨(some 12), .load none (.t 11), none, [1]⟩, ⟨(some 13), .fld 3 (.t 3), none, []⟩, ⟨(some 14), .load none (.t 13), none, [3]⟩, ⟨(some 15), .call 100 [(.t 10), (.t 12), (.t 14)], none, [0, 2, 4]⟩, ⟨(some 6), .new [(.int .i64 0), (.int .i64 0), (.bool false), (.int .i64 0)], none, []⟩, ⟨none, .store 4 (.t 6) (.t 15), none, [6, 5, 5, 0, 1, 2, 3, 4, 5, 6]⟩]) (.seq (.reg false [⟨(some 16), .fld 2 (.t 6), none, []⟩, ⟨(some 17), .load none (.t 16), none, [0]⟩, ⟨(some 18), .un .not (.t 17), none, [1]⟩, ⟨(some 7), .mv (.t 18), none, [2, 0, 1, 2]⟩]) (.seq (.seq (.reg false [⟨(some 19), .fld 1 (.t 3), none, []⟩, ⟨(some 20), .load none (.t 19), none, [0]⟩]) (.block 0 (.seq (.reg false [⟨(some 22), .bin .eql (.t 20) (.v (.int .i64 6)), none, []⟩, ⟨(some 21), .mv (.t 22), none, [0]⟩]) (.cond (.t 21) (.seq (.reg false [⟨(some 23), .fld 2 (.t 6), none, []⟩, ⟨none, .store 1 (.t 23) (.v (.bool true)), none, [0]⟩]) (.seq (.reg true [⟨(some 24), .load (some 9) (.t 2), none, []⟩, ⟨(some 25), .load (some 4) (.t 6), none, []⟩, ⟨(some 26), .call 101 [(.t 24), (.t 25)], none, [0, 1]⟩, ⟨(some 27), .mv (.t 7), none, []⟩, ⟨(some 28), .mv (.t 27), none, [3, 2]⟩, ⟨(some 29), .fld 3 (.t 6), (some (28, true)), [4]⟩, ⟨(some 30), .load none (.t 29), (some (28, true)), [5, 4]⟩, ⟨(some 31), .bin .eql (.t 30) (.v (.int .i64 0)), (some (28, true)), [6, 4]⟩, ⟨(some 32), .pick (.t 28) (.t 31) (.v (.bool false)), none, [4, 7]⟩, ⟨none, .store 9 (.t 4) (.t 26), none, [2, 4, 0, 1, 2]⟩, ⟨(some 5), .mv (.t 32), none, [8, 9, 0, 1, 2, 3, 4, 5, 6, 7, 8, 9]⟩]) (.ret))) (.seq (.reg false [⟨(some 34), .bin .eql (.t 20) (.v (.int .i64 7)), none, []⟩, ⟨(some 33), .mv (.t 34), none, [0]⟩]) (.cond (.t 33) (.seq (.reg false [⟨(some 35), .fld 2 (.t 6), none, []⟩, ⟨none, .store 1 (.t 35) (.v (.bool false)), none, [0]⟩]) (.seq (.reg false [⟨(some 36), .load (some 9) (.t 2), none, []⟩, ⟨(some 37), .load (some 4) (.t 6), none, []⟩, ⟨(some 38), .call 101 [(.t 36), (.t 37)], none, [0, 1]⟩, ⟨(some 39), .mv (.t 7), none, []⟩, ⟨(some 40), .un .not (.t 39), none, [3]⟩, ⟨none, .store 9 (.t 4) (.t 38), none, [2, 2, 0, 1, 2]⟩, ⟨(some 5), .mv (.t 40), none, [4, 5, 0, 1, 2, 3, 4, 5]⟩]) (.ret))) (.seq (.reg false [⟨(some 42), .bin .eql (.t 20) (.v (.int .i64 8)), none, []⟩, ⟨(some 41), .mv (.t 42), none, [0]⟩]) (.cond (.t 41) (.seq (.reg false [⟨(some 43), .fld 3 (.t 6), none, []⟩, ⟨(some 44), .load none (.t 43), none, [0]⟩, ⟨(some 45), .bin .add (.t 44) (.v (.int .i64 1)), none, [1]⟩, ⟨(some 46), .fld 3 (.t 6), none, [0, 1, 2]⟩, ⟨none, .store 1 (.t 46) (.t 45), none, [3, 2, 0, 1, 2]⟩]) (.seq (.reg false [⟨(some 47), .load (some 9) (.t 2), none, []⟩, ⟨(some 48), .load (some 4) (.t 6), none, []⟩, ⟨(some 49), .call 101 [(.t 47), (.t 48)], none, [0, 1]⟩, ⟨(some 50), .mv (.t 7), none, []⟩, ⟨none, .store 9 (.t 4) (.t 49), none, [2, 2, 0, 1, 2]⟩, ⟨(some 5), .mv (.t 50), none, [3, 4, 0, 1, 2, 3, 4]⟩]) (.ret))) (.seq (.reg false [⟨(some 52), .bin .eql (.t 20) (.v (.int .i64 9)), none, []⟩, ⟨(some 51), .mv (.t 52), none, [0]⟩]) (.cond (.t 51) (.seq (.reg false [⟨(some 53), .fld 3 (.t 6), none, []⟩, ⟨(some 54), .load none (.t 53), none, [0]⟩, ⟨(some 55), .bin .sub (.t 54) (.v (.int .i64 1)), none, [1]⟩, ⟨(some 56), .fld 3 (.t 6), none, [0, 1, 2]⟩, ⟨none, .store 1 (.t 56) (.t 55), none, [3, 2, 0, 1, 2]⟩]) (.seq (.reg true [⟨(some 57), .load (some 9) (.t 2), none, []⟩, ⟨(some 58), .load (some 4) (.t 6), none, []⟩, ⟨(some 59), .call 101 [(.t 57), (.t 58)], none, [0, 1]⟩, ⟨(some 60), .fld 3 (.t 6), none, []⟩, ⟨(some 61), .load none (.t 60), none, [3]⟩, ⟨(some 62), .bin .geq (.t 61) (.v (.int .i64 0)), none, [4]⟩, ⟨none, .store 9 (.t 4) (.t 59), none, [2, 2, 0, 1, 2]⟩, ⟨(some 5), .mv (.t 62), none, [5, 6, 0, 1, 2, 3, 4, 5, 6]⟩]) (.ret))) (.seq (.reg false [⟨(some 64), .bin .eql (.t 20) (.v (.int .i64 12)), none, []⟩, ⟨(some 63), .mv (.t 64), none, [0]⟩]) (.cond (.t 63) (.seq (.reg false [⟨(some 65), .load (some 9) (.t 2), none, []⟩, ⟨(some 66), .fld 2 (.t 3), none, []⟩, ⟨(some 67), .load none (.t 66), none, [1]⟩, ⟨(some 68), .fld 3 (.t 3), none, []⟩, ⟨(some 69), .load none (.t 68), none, [3]⟩, ⟨(some 70), .call 102 [(.t 65), (.t 67), (.t 69)], none, [0, 2, 4]⟩, ⟨(some 8), .mv (.t 70), none, [5, 5, 0, 1, 2, 3, 4, 5]⟩]) (.seq (.reg true [⟨(some 71), .bslice 98 2 [] 0 [], none, []⟩, ⟨(some 72), .fld 4 (.t 2), none, []⟩, ⟨(some 73), .load none (.t 72), none, [1]⟩, ⟨(some 74), .append 98 2 16 (.t 71) (.t 73), none, [0, 2]⟩, ⟨(some 75), .fld 2 (.t 3), none, []⟩, ⟨(some 76), .load none (.t 75), none, [4]⟩, ⟨(some 77), .fld 3 (.t 3), none, []⟩, ⟨(some 78), .load none (.t 77), none, [6]⟩, ⟨(some 79), .build [(.int .i64 0), (.int .i64 0)] [(0, 1, (.t 76)), (1, 1, (.t 78))], none, [5, 7]⟩, ⟨(some 80), .bslice 98 2 [(.int .i64 0), (.int .i64 0)] 1 [(0, 2, (.t 79))], none, [8]⟩, ⟨(some 81), .append 98 2 16 (.t 74) (.t 80), none, [3, 9, 3]⟩, ⟨(some 82), .fld 4 (.t 2), none, [0, 1, 2, 3, 4, 5, 6, 7, 8, 9, 10]⟩, ⟨none, .store 1 (.t 82) (.t 81), none, [11, 10, 10, 0, 1, 2, 3, 4, 5, 6, 7, 8, 9, 10]⟩]) (.seq (.reg false [⟨(some 83), .load (some 9) (.t 2), none, []⟩, ⟨(some 84), .mv (.t 8), none, []⟩, ⟨(some 85), .un .not (.t 84), none, [1]⟩, ⟨none, .store 9 (.t 4) (.t 83), none, [0, 0]⟩, ⟨(some 5), .mv (.t 85), none, [2, 3, 0, 1, 2, 3]⟩]) (.ret)))) (.seq (.reg false [⟨(some 87), .bin .eql (.t 20) (.v (.int .i64 13)), none, []⟩, ⟨(some 86), .mv (.t 87), none, [0]⟩]) (.cond (.t 86) (.seq (.reg true [⟨(some 88), .load (some 9) (.t 2), none, []⟩, ⟨(some 89), .load (some 9) (.t 2), none, []⟩, ⟨(some 90), .fld 2 (.t 3), none, []⟩, ⟨(some 91), .load none (.t 90), none, [2]⟩, ⟨(some 92), .fld 3 (.t 3), none, []⟩, ⟨(some 93), .load none (.t 92), none, [4]⟩, ⟨(some 94), .call 102 [(.t 89), (.t 91), (.t 93)], none, [1, 3, 5]⟩, ⟨none, .store 9 (.t 4) (.t 88), none, [0, 6, 0]⟩, ⟨(some 5), .mv (.t 94), none, [6, 7, 0, 1, 2, 3, 4, 5, 6, 7]⟩]) (.ret)) (.seq (.reg false [⟨(some 96), .bin .eql (.t 20) (.v (.int .i64 14)), none, []⟩, ⟨(some 95), .mv (.t 96), none, [0]⟩]) (.cond (.t 95) (.seq (.reg false [⟨(some 97), .fld 1 (.t 2), none, []⟩, ⟨(some 98), .load none (.t 97), none, [0]⟩, ⟨(some 9), .mv (.t 98), none, [1, 0, 1]⟩]) (.seq (.reg false [⟨(some 99), .fld 1 (.t 2), none, []⟩, ⟨(some 100), .load none (.t 99), none, [0]⟩, ⟨(some 101), .bin .add (.t 100) (.v (.int .i64 1)), none, [1]⟩, ⟨(some 102), .fld 1 (.t 2), none, [0, 1, 2]⟩, ⟨none, .store 1 (.t 102) (.t 101), none, [3, 2, 0, 1, 2]⟩]) (.seq (.reg true [⟨(some 103), .load (some 9) (.t 2), none, []⟩, ⟨(some 104), .fld 4 (.t 3), none, []⟩, ⟨(some 105), .load none (.t 104), none, [1]⟩, ⟨(some 106), .mv (.t 9), none, []⟩, ⟨(some 107), .bin .eql (.t 105) (.t 106), none, [2, 3]⟩, ⟨none, .store 9 (.t 4) (.t 103), none, [0, 0]⟩, ⟨(some 5), .mv (.t 107), none, [4, 5, 0, 1, 2, 3, 4, 5]⟩]) (.ret)))) (.skip))))))))))))))))) (.seq (.reg false [⟨(some 108), .load (some 9) (.t 2), none, []⟩, ⟨none, .store 9 (.t 4) (.t 108), none, [0, 0]⟩, ⟨(some 5), .mv (.v (.bool true)), none, [1, 0, 1]⟩]) (.ret)))))
def pr68 : List PR := [.c 4 (some 9), .t 5]
theorem bd68:Try.f68.body=some (Try.f68.body.getD .skip):=by kernel_rfl
theorem cp68:compC Try.prog Try.f68.ntmps eqsL (Try.f68.body.getD .skip)=some pc68:=by kernel_rfl
theorem sp68 [WInv] {env:Env} (hE:EnvOK Try.prog env) {R:List Pa→List Pa→Prop} (hR:∀ ps rs,R ps rs→ps.length≤109∧pwp env pc68 (fun e s=>(e=.normal∨e=.ret)∧s.res pr68=some rs) (St.init ps)):Spec Try.prog 68 R :=
 fn_sound hE eqsOK mixedOK Try.func68 bd68 cp68 (by kernel_rfl) (by kernel_rfl) (by kernel_rfl) hR
def pc96 : PC := .seq (.reg false [⟨(some 2), .box (.t 0), none, []⟩, ⟨(some 3), .box (.t 1), none, []⟩, ⟨(some 4), .new [(.int .i64 0), (.int .i64 0), (.slice none 0 0), (.slice none 0 0), (.slice none 0 0), (.slice none 0 0), (.int .i64 0), (.int .i64 0), (.int .i64 0)], none, []⟩]) (.seq (.reg false [⟨(some 6), .load (some 9) (.t 2), none, []⟩, ⟨(some 7), .fld 2 (.t 3), none, []⟩, ⟨(some 8), .load none (.t 7), none, [1]⟩, ⟨(some 9), .fld 5 (.t 3), none, []⟩, ⟨(some 10), .load none (.t 9), none, [3]⟩, ⟨(some 11), .call 97 [(.t 6), (.t 8), (.t 10)], none, [0, 2, 4]⟩, ⟨(some 5), .new [(.int .i64 0), (.int .i64 0), (.int .i64 0), (.int .i64 0), (.bool false)], none, []⟩, ⟨none, .store 5 (.t 5) (.t 11), none, [6, 5, 5, 0, 1, 2, 3, 4, 5, 6]⟩]) (.seq (.seq (.reg false [⟨(some 12), .fld 1 (.t 3), none, []⟩, ⟨(some 13), .load none (.t 12), none, [0]⟩]) (.block 0 (.seq (.reg false [⟨(some 16), .bin .eql (.t 13) (.v (.int .i64 15)), none, []⟩, ⟨(some 15), .mv (.t 16), none, [0]⟩]) (.cond (.t 15) (.reg false [⟨(some 17), .fld 2 (.t 5), none, []⟩, ⟨(some 18), .load none (.t 17), none, [0]⟩, ⟨(some 19), .bin .add (.t 18) (.v (.int .i64 1)), none, [1]⟩, ⟨(some 20), .fld 2 (.t 5), none, [0, 1, 2]⟩, ⟨none, .store 1 (.t 20) (.t 19), none, [3, 2, 0, 1, 2]⟩]) (.seq (.reg false [⟨(some 22), .bin .eql (.t 13) (.v (.int .i64 17)), none, []⟩, ⟨(some 21), .mv (.t 22), none, [0]⟩]) (.cond (.t 21) (.reg false [⟨(some 23), .fld 3 (.t 5), none, []⟩, ⟨(some 24), .load none (.t 23), none, [0]⟩, ⟨(some 25), .bin .add (.t 24) (.v (.int .i64 1)), none, [1]⟩, ⟨(some 26), .fld 3 (.t 5), none, [0, 1, 2]⟩, ⟨none, .store 1 (.t 26) (.t 25), none, [3, 2, 0, 1, 2]⟩]) (.seq (.reg false [⟨(some 14), .load (some 9) (.t 2), none, []⟩, ⟨none, .store 9 (.t 4) (.t 14), none, [0, 0]⟩]) (.ret)))))))) (.seq (.reg false [⟨(some 27), .load (some 9) (.t 2), none, []⟩, ⟨(some 28), .load (some 5) (.t 5), none, []⟩, ⟨(some 29), .call 99 [(.t 27), (.t 28)], none, [0, 1]⟩, ⟨none, .store 9 (.t 4) (.t 29), none, [2, 2, 0, 1, 2]⟩]) (.ret))))
def pr96 : List PR := [.c 4 (some 9)]
theorem bd96:Try.f96.body=some (Try.f96.body.getD .skip):=by kernel_rfl
theorem cp96:compC Try.prog Try.f96.ntmps eqsL (Try.f96.body.getD .skip)=some pc96:=by kernel_rfl
theorem sp96 [WInv] {env:Env} (hE:EnvOK Try.prog env) {R:List Pa→List Pa→Prop} (hR:∀ ps rs,R ps rs→ps.length≤30∧pwp env pc96 (fun e s=>(e=.normal∨e=.ret)∧s.res pr96=some rs) (St.init ps)):Spec Try.prog 96 R :=
 fn_sound hE eqsOK mixedOK Try.func96 bd96 cp96 (by kernel_rfl) (by kernel_rfl) (by kernel_rfl) hR
def pc97 : PC := .seq (.reg false [⟨(some 3), .box (.t 0), none, []⟩, ⟨(some 6), .new [(.int .i64 0), (.int .i64 0), (.int .i64 0), (.int .i64 0), (.bool false)], none, []⟩]) (.seq (.seq (.reg false [⟨(some 7), .mv (.v (.int .i64 0)), none, []⟩]) (.block 0 (.loop (.seq (.seq (.reg false [⟨(some 8), .mv (.t 7), none, []⟩, ⟨(some 9), .fld 2 (.t 3), none, []⟩, ⟨(some 10), .load none (.t 9), none, [1]⟩, ⟨(some 11), .len (.t 10), none, [2]⟩, ⟨(some 12), .bin .lss (.t 8) (.t 11), none, [0, 3]⟩]) (.cond (.t 12) (.skip) (.exit 0))) (.seq (.block 1 (.seq (.reg false [⟨(some 15), .fld 2 (.t 3), none, []⟩, ⟨(some 16), .load none (.t 15), none, [0]⟩, ⟨(some 17), .mv (.t 7), none, []⟩, ⟨(some 18), .ixs 5 (.t 16) (.t 17), none, [1, 2]⟩, ⟨(some 19), .fld 0 (.t 18), none, [3]⟩, ⟨(some 20), .load none (.t 19), none, [4]⟩, ⟨(some 21), .mv (.t 1), none, []⟩, ⟨(some 22), .bin .eql (.t 20) (.t 21), none, [5, 6]⟩]) (.cond (.t 22) (.seq (.reg false [⟨(some 23), .fld 2 (.t 3), none, []⟩, ⟨(some 24), .load none (.t 23), none, [0]⟩, ⟨(some 25), .mv (.t 7), none, []⟩, ⟨(some 26), .ixs 5 (.t 24) (.t 25), none, [1, 2]⟩, ⟨(some 27), .load (some 5) (.t 26), none, [3]⟩, ⟨none, .store 5 (.t 6) (.t 27), none, [4, 0, 1, 2, 3, 4]⟩]) (.ret)) (.skip)))) (.reg false [⟨(some 13), .mv (.t 7), none, []⟩, ⟨(some 14), .bin .add (.t 13) (.v (.int .i64 1)), none, [0]⟩, ⟨(some 7), .mv (.t 14), none, [1, 0, 1]⟩])))))) (.seq (.reg false [⟨(some 28), .mv (.t 1), none, []⟩, ⟨(some 29), .mv (.t 2), none, []⟩, ⟨(some 30), .build [(.int .i64 0), (.int .i64 0), (.int .i64 0), (.int .i64 0), (.bool false)] [(0, 1, (.t 28)), (1, 1, (.t 29))], none, [0, 1]⟩, ⟨none, .store 5 (.t 6) (.t 30), none, [2, 0, 1, 2]⟩]) (.ret)))
def pr97 : List PR := [.c 6 (some 5)]
abbrev ms97_0 : List Nat := [8, 9, 10, 11, 12, 15, 16, 17, 18, 19, 20, 21, 22, 23, 24, 25, 26, 27, 13, 14, 7]
abbrev os97_0 : List Nat := [6]
theorem bd97:Try.f97.body=some (Try.f97.body.getD .skip):=by kernel_rfl
theorem cp97:compC Try.prog Try.f97.ntmps eqsL (Try.f97.body.getD .skip)=some pc97:=by kernel_rfl
theorem sp97 [WInv] {env:Env} (hE:EnvOK Try.prog env) {R:List Pa→List Pa→Prop} (hR:∀ ps rs,R ps rs→ps.length≤31∧pwp env pc97 (fun e s=>(e=.normal∨e=.ret)∧s.res pr97=some rs) (St.init ps)):Spec Try.prog 97 R :=
 fn_sound hE eqsOK mixedOK Try.func97 bd97 cp97 (by kernel_rfl) (by kernel_rfl) (by kernel_rfl) hR
def pc98 : PC := .seq (.reg false [⟨(some 3), .box (.t 0), none, []⟩, ⟨(some 4), .box (.t 1), none, []⟩, ⟨(some 6), .new [(.int .i64 0), (.int .i64 0), (.slice none 0 0), (.slice none 0 0), (.slice none 0 0), (.slice none 0 0), (.int .i64 0), (.int .i64 0), (.int .i64 0)], none, []⟩, ⟨(some 7), .mv (.v (.bool false)), none, []⟩]) (.seq (.reg true [⟨(some 8), .mv (.t 2), none, []⟩, ⟨(some 9), .fld 2 (.t 4), none, []⟩, ⟨(some 10), .load none (.t 9), none, [1]⟩, ⟨(some 11), .fld 4 (.t 4), none, []⟩, ⟨(some 12), .load none (.t 11), none, [3]⟩, ⟨(some 13), .fld 5 (.t 4), none, []⟩, ⟨(some 14), .load none (.t 13), none, [5]⟩, ⟨(some 15), .fld 5 (.t 3), none, [0]⟩, ⟨none, .store 1 (.t 15) (.t 8), none, [7, 0, 0]⟩, ⟨(some 16), .fld 6 (.t 3), none, [0, 1, 2, 7, 8]⟩, ⟨none, .store 1 (.t 16) (.t 10), none, [9, 2, 8, 0, 1, 2, 7, 8]⟩, ⟨(some 17), .fld 7 (.t 3), none, [0, 1, 2, 3, 4, 7, 8, 9, 10]⟩, ⟨none, .store 1 (.t 17) (.t 12), none, [11, 4, 10, 0, 1, 2, 3, 4, 7, 8, 9, 10]⟩, ⟨(some 18), .fld 8 (.t 3), none, [0, 1, 2, 3, 4, 5, 6, 7, 8, 9, 10, 11, 12]⟩, ⟨none, .store 1 (.t 18) (.t 14), none, [13, 6, 12, 0, 1, 2, 3, 4, 5, 6, 7, 8, 9, 10, 11, 12]⟩]) (.seq (.reg false [⟨(some 19), .load (some 9) (.t 3), none, []⟩, ⟨(some 20), .load (some 9) (.t 4), none, []⟩, ⟨(some 21), .call 96 [(.t 19), (.t 20)], none, [0, 1]⟩, ⟨none, .store 9 (.t 6) (.t 21), none, [2, 2, 0, 1, 2]⟩, ⟨(some 7), .mv (.v (.bool true)), none, [3, 0, 1, 2, 3]⟩]) (.ret)))
def pr98 : List PR := [.c 6 (some 9), .t 7]
theorem bd98:Try.f98.body=some (Try.f98.body.getD .skip):=by kernel_rfl
theorem cp98:compC Try.prog Try.f98.ntmps eqsL (Try.f98.body.getD .skip)=some pc98:=by kernel_rfl
theorem sp98 [WInv] {env:Env} (hE:EnvOK Try.prog env) {R:List Pa→List Pa→Prop} (hR:∀ ps rs,R ps rs→ps.length≤22∧pwp env pc98 (fun e s=>(e=.normal∨e=.ret)∧s.res pr98=some rs) (St.init ps)):Spec Try.prog 98 R :=
 fn_sound hE eqsOK mixedOK Try.func98 bd98 cp98 (by kernel_rfl) (by kernel_rfl) (by kernel_rfl) hR
def pc99 : PC := .seq (.reg false [⟨(some 2), .box (.t 0), none, []⟩, ⟨(some 3), .box (.t 1), none, []⟩, ⟨(some 4), .new [(.int .i64 0), (.int .i64 0), (.slice none 0 0), (.slice none 0 0), (.slice none 0 0), (.slice none 0 0), (.int .i64 0), (.int .i64 0), (.int .i64 0)], none, []⟩]) (.seq (.reg false [⟨(some 5), .nilRow 146 5, none, []⟩]) (.seq (.seq (.reg false [⟨(some 6), .mv (.v (.int .i64 0)), none, []⟩]) (.block 0 (.loop (.seq (.seq (.reg false [⟨(some 7), .mv (.t 6), none, []⟩, ⟨(some 8), .fld 2 (.t 2), none, []⟩, ⟨(some 9), .load none (.t 8), none, [1]⟩, ⟨(some 10), .len (.t 9), none, [2]⟩, ⟨(some 11), .bin .lss (.t 7) (.t 10), none, [0, 3]⟩]) (.cond (.t 11) (.skip) (.exit 0))) (.seq (.block 1 (.seq (.reg true [⟨(some 14), .fld 2 (.t 2), none, []⟩, ⟨(some 15), .load none (.t 14), none, [0]⟩, ⟨(some 16), .mv (.t 6), none, []⟩, ⟨(some 17), .ixs 5 (.t 15) (.t 16), none, [1, 2]⟩, ⟨(some 18), .fld 0 (.t 17), none, [3]⟩, ⟨(some 19), .load none (.t 18), none, [4]⟩, ⟨(some 20), .fld 0 (.t 3), none, []⟩, ⟨(some 21), .load none (.t 20), none, [6]⟩, ⟨(some 22), .bin .neq (.t 19) (.t 21), none, [5, 7]⟩]) (.cond (.t 22) (.reg false [⟨(some 23), .mv (.t 5), none, []⟩, ⟨(some 24), .fld 2 (.t 2), none, []⟩, ⟨(some 25), .load none (.t 24), none, [1]⟩, ⟨(some 26), .mv (.t 6), none, []⟩, ⟨(some 27), .ixs 5 (.t 25) (.t 26), none, [2, 3]⟩, ⟨(some 28), .load (some 5) (.t 27), none, [4]⟩, ⟨(some 29), .bslice 146 5 [(.int .i64 0), (.int .i64 0), (.int .i64 0), (.int .i64 0), (.bool false)] 1 [(0, 5, (.t 28))], none, [5]⟩, ⟨(some 30), .append 146 5 40 (.t 23) (.t 29), none, [0, 6]⟩, ⟨(some 5), .mv (.t 30), none, [7, 7, 0, 1, 2, 3, 4, 5, 6, 7]⟩]) (.skip)))) (.reg false [⟨(some 12), .mv (.t 6), none, []⟩, ⟨(some 13), .bin .add (.t 12) (.v (.int .i64 1)), none, [0]⟩, ⟨(some 6), .mv (.t 13), none, [1, 0, 1]⟩])))))) (.seq (.reg false [⟨(some 31), .mv (.t 5), none, []⟩, ⟨(some 32), .load (some 5) (.t 3), none, []⟩, ⟨(some 33), .bslice 146 5 [(.int .i64 0), (.int .i64 0), (.int .i64 0), (.int .i64 0), (.bool false)] 1 [(0, 5, (.t 32))], none, [1]⟩, ⟨(some 34), .append 146 5 40 (.t 31) (.t 33), none, [0, 2]⟩, ⟨(some 35), .fld 2 (.t 2), none, [0, 1, 2, 3]⟩, ⟨none, .store 1 (.t 35) (.t 34), none, [4, 3, 3, 0, 1, 2, 3]⟩]) (.seq (.reg false [⟨(some 36), .load (some 9) (.t 2), none, []⟩, ⟨none, .store 9 (.t 4) (.t 36), none, [0, 0]⟩]) (.ret)))))
def pr99 : List PR := [.c 4 (some 9)]
abbrev ms99_0 : List Nat := [7, 8, 9, 10, 11, 14, 15, 16, 17, 18, 19, 20, 21, 22, 23, 24, 25, 26, 27, 28, 29, 30, 5, 12, 13, 6]
abbrev os99_0 : List Nat := [29, 5]
theorem bd99:Try.f99.body=some (Try.f99.body.getD .skip):=by kernel_rfl
theorem cp99:compC Try.prog Try.f99.ntmps eqsL (Try.f99.body.getD .skip)=some pc99:=by kernel_rfl
theorem sp99 [WInv] {env:Env} (hE:EnvOK Try.prog env) {R:List Pa→List Pa→Prop} (hR:∀ ps rs,R ps rs→ps.length≤37∧pwp env pc99 (fun e s=>(e=.normal∨e=.ret)∧s.res pr99=some rs) (St.init ps)):Spec Try.prog 99 R :=
 fn_sound hE eqsOK mixedOK Try.func99 bd99 cp99 (by kernel_rfl) (by kernel_rfl) (by kernel_rfl) hR
def pc100 : PC := .seq (.reg false [⟨(some 3), .box (.t 0), none, []⟩, ⟨(some 6), .new [(.int .i64 0), (.int .i64 0), (.bool false), (.int .i64 0)], none, []⟩]) (.seq (.seq (.reg false [⟨(some 7), .mv (.v (.int .i64 0)), none, []⟩]) (.block 0 (.loop (.seq (.seq (.reg false [⟨(some 8), .mv (.t 7), none, []⟩, ⟨(some 9), .fld 3 (.t 3), none, []⟩, ⟨(some 10), .load none (.t 9), none, [1]⟩, ⟨(some 11), .len (.t 10), none, [2]⟩, ⟨(some 12), .bin .lss (.t 8) (.t 11), none, [0, 3]⟩]) (.cond (.t 12) (.skip) (.exit 0))) (.seq (.block 1 (.seq (.reg false [⟨(some 15), .fld 3 (.t 3), none, []⟩, ⟨(some 16), .load none (.t 15), none, [0]⟩, ⟨(some 17), .mv (.t 7), none, []⟩, ⟨(some 18), .ixs 4 (.t 16) (.t 17), none, [1, 2]⟩, ⟨(some 19), .fld 0 (.t 18), none, [3]⟩, ⟨(some 20), .load none (.t 19), none, [4]⟩, ⟨(some 21), .mv (.t 1), none, []⟩, ⟨(some 22), .bin .eql (.t 20) (.t 21), none, [5, 6]⟩, ⟨(some 23), .mv (.t 22), none, [7]⟩, ⟨(some 24), .fld 3 (.t 3), (some (23, true)), [8]⟩, ⟨(some 25), .load none (.t 24), (some (23, true)), [9, 8]⟩, ⟨(some 26), .mv (.t 7), (some (23, true)), [8]⟩, ⟨(some 27), .ixs 4 (.t 25) (.t 26), (some (23, true)), [10, 11, 8]⟩, ⟨(some 28), .fld 1 (.t 27), (some (23, true)), [12, 8]⟩, ⟨(some 29), .load none (.t 28), (some (23, true)), [13, 8]⟩, ⟨(some 30), .mv (.t 2), (some (23, true)), [8]⟩, ⟨(some 31), .bin .eql (.t 29) (.t 30), (some (23, true)), [14, 15, 8]⟩, ⟨(some 32), .pick (.t 23) (.t 31) (.v (.bool false)), none, [8, 16]⟩]) (.cond (.t 32) (.seq (.reg false [⟨(some 33), .fld 3 (.t 3), none, []⟩, ⟨(some 34), .load none (.t 33), none, [0]⟩, ⟨(some 35), .mv (.t 7), none, []⟩, ⟨(some 36), .ixs 4 (.t 34) (.t 35), none, [1, 2]⟩, ⟨(some 37), .load (some 4) (.t 36), none, [3]⟩, ⟨none, .store 4 (.t 6) (.t 37), none, [4, 0, 1, 2, 3, 4]⟩]) (.ret)) (.skip)))) (.reg false [⟨(some 13), .mv (.t 7), none, []⟩, ⟨(some 14), .bin .add (.t 13) (.v (.int .i64 1)), none, [0]⟩, ⟨(some 7), .mv (.t 14), none, [1, 0, 1]⟩])))))) (.seq (.reg false [⟨(some 38), .mv (.t 1), none, []⟩, ⟨(some 39), .mv (.t 2), none, []⟩, ⟨(some 40), .build [(.int .i64 0), (.int .i64 0), (.bool false), (.int .i64 0)] [(0, 1, (.t 38)), (1, 1, (.t 39))], none, [0, 1]⟩, ⟨none, .store 4 (.t 6) (.t 40), none, [2, 0, 1, 2]⟩]) (.ret)))
def pr100 : List PR := [.c 6 (some 4)]
abbrev ms100_0 : List Nat := [8, 9, 10, 11, 12, 15, 16, 17, 18, 19, 20, 21, 22, 23, 24, 25, 26, 27, 28, 29, 30, 31, 32, 33, 34, 35, 36, 37, 13, 14, 7]
abbrev os100_0 : List Nat := [6]
theorem bd100:Try.f100.body=some (Try.f100.body.getD .skip):=by kernel_rfl
theorem cp100:compC Try.prog Try.f100.ntmps eqsL (Try.f100.body.getD .skip)=some pc100:=by kernel_rfl
theorem sp100 [WInv] {env:Env} (hE:EnvOK Try.prog env) {R:List Pa→List Pa→Prop} (hR:∀ ps rs,R ps rs→ps.length≤41∧pwp env pc100 (fun e s=>(e=.normal∨e=.ret)∧s.res pr100=some rs) (St.init ps)):Spec Try.prog 100 R :=
 fn_sound hE eqsOK mixedOK Try.func100 bd100 cp100 (by kernel_rfl) (by kernel_rfl) (by kernel_rfl) hR
def pc101 : PC := .seq (.reg false [⟨(some 2), .box (.t 0), none, []⟩, ⟨(some 3), .box (.t 1), none, []⟩, ⟨(some 4), .new [(.int .i64 0), (.int .i64 0), (.slice none 0 0), (.slice none 0 0), (.slice none 0 0), (.slice none 0 0), (.int .i64 0), (.int .i64 0), (.int .i64 0)], none, []⟩]) (.seq (.reg false [⟨(some 5), .nilRow 151 4, none, []⟩]) (.seq (.seq (.reg false [⟨(some 6), .mv (.v (.int .i64 0)), none, []⟩]) (.block 0 (.loop (.seq (.seq (.reg false [⟨(some 7), .mv (.t 6), none, []⟩, ⟨(some 8), .fld 3 (.t 2), none, []⟩, ⟨(some 9), .load none (.t 8), none, [1]⟩, ⟨(some 10), .len (.t 9), none, [2]⟩, ⟨(some 11), .bin .lss (.t 7) (.t 10), none, [0, 3]⟩]) (.cond (.t 11) (.skip) (.exit 0))) (.seq (.block 1 (.seq (.reg true [⟨(some 14), .fld 3 (.t 2), none, []⟩, ⟨(some 15), .load none (.t 14), none, [0]⟩, ⟨(some 16), .mv (.t 6), none, []⟩, ⟨(some 17), .ixs 4 (.t 15) (.t 16), none, [1, 2]⟩, ⟨(some 18), .fld 0 (.t 17), none, [3]⟩, ⟨(some 19), .load none (.t 18), none, [4]⟩, ⟨(some 20), .fld 0 (.t 3), none, []⟩, ⟨(some 21), .load none (.t 20), none, [6]⟩, ⟨(some 22), .bin .neq (.t 19) (.t 21), none, [5, 7]⟩, ⟨(some 23), .mv (.t 22), none, [8]⟩, ⟨(some 24), .fld 3 (.t 2), (some (23, false)), [9]⟩, ⟨(some 25), .load none (.t 24), (some (23, false)), [10, 9]⟩, ⟨(some 26), .mv (.t 6), (some (23, false)), [9]⟩, ⟨(some 27), .ixs 4 (.t 25) (.t 26), (some (23, false)), [11, 12, 9]⟩, ⟨(some 28), .fld 1 (.t 27), (some (23, false)), [13, 9]⟩, ⟨(some 29), .load none (.t 28), (some (23, false)), [14, 9]⟩, ⟨(some 30), .fld 1 (.t 3), (some (23, false)), [9]⟩, ⟨(some 31), .load none (.t 30), (some (23, false)), [16, 9]⟩, ⟨(some 32), .bin .neq (.t 29) (.t 31), (some (23, false)), [15, 17, 9]⟩, ⟨(some 33), .pick (.t 23) (.v (.bool true)) (.t 32), none, [9, 18]⟩]) (.cond (.t 33) (.reg false [⟨(some 34), .mv (.t 5), none, []⟩, ⟨(some 35), .fld 3 (.t 2), none, []⟩, ⟨(some 36), .load none (.t 35), none, [1]⟩, ⟨(some 37), .mv (.t 6), none, []⟩, ⟨(some 38), .ixs 4 (.t 36) (.t 37), none, [2, 3]⟩, ⟨(some 39), .load (some 4) (.t 38), none, [4]⟩, ⟨(some 40), .bslice 151 4 [(.int .i64 0), (.int .i64 0), (.bool false), (.int .i64 0)] 1 [(0, 4, (.t 39))], none, [5]⟩, ⟨(some 41), .append 151 4 32 (.t 34) (.t 40), none, [0, 6]⟩, ⟨(some 5), .mv (.t 41), none, [7, 7, 0, 1, 2, 3, 4, 5, 6, 7]⟩]) (.skip)))) (.reg false [⟨(some 12), .mv (.t 6), none, []⟩, ⟨(some 13), .bin .add (.t 12) (.v (.int .i64 1)), none, [0]⟩, ⟨(some 6), .mv (.t 13), none, [1, 0, 1]⟩])))))) (.seq (.reg false [⟨(some 42), .mv (.t 5), none, []⟩, ⟨(some 43), .load (some 4) (.t 3), none, []⟩, ⟨(some 44), .bslice 151 4 [(.int .i64 0), (.int .i64 0), (.bool false), (.int .i64 0)] 1 [(0, 4, (.t 43))], none, [1]⟩, ⟨(some 45), .append 151 4 32 (.t 42) (.t 44), none, [0, 2]⟩, ⟨(some 46), .fld 3 (.t 2), none, [0, 1, 2, 3]⟩, ⟨none, .store 1 (.t 46) (.t 45), none, [4, 3, 3, 0, 1, 2, 3]⟩]) (.seq (.reg false [⟨(some 47), .load (some 9) (.t 2), none, []⟩, ⟨none, .store 9 (.t 4) (.t 47), none, [0, 0]⟩]) (.ret)))))
def pr101 : List PR := [.c 4 (some 9)]
abbrev ms101_0 : List Nat := [7, 8, 9, 10, 11, 14, 15, 16, 17, 18, 19, 20, 21, 22, 23, 24, 25, 26, 27, 28, 29, 30, 31, 32, 33, 34, 35, 36, 37, 38, 39, 40, 41, 5, 12, 13, 6]
abbrev os101_0 : List Nat := [40, 5]
theorem bd101:Try.f101.body=some (Try.f101.body.getD .skip):=by kernel_rfl
theorem cp101:compC Try.prog Try.f101.ntmps eqsL (Try.f101.body.getD .skip)=some pc101:=by kernel_rfl
theorem sp101 [WInv] {env:Env} (hE:EnvOK Try.prog env) {R:List Pa→List Pa→Prop} (hR:∀ ps rs,R ps rs→ps.length≤48∧pwp env pc101 (fun e s=>(e=.normal∨e=.ret)∧s.res pr101=some rs) (St.init ps)):Spec Try.prog 101 R :=
 fn_sound hE eqsOK mixedOK Try.func101 bd101 cp101 (by kernel_rfl) (by kernel_rfl) (by kernel_rfl) hR
def pc102 : PC := .seq (.reg false [⟨(some 3), .box (.t 0), none, []⟩, ⟨(some 6), .mv (.v (.bool false)), none, []⟩]) (.seq (.seq (.reg false [⟨(some 7), .mv (.v (.int .i64 0)), none, []⟩]) (.block 0 (.loop (.seq (.seq (.reg false [⟨(some 8), .mv (.t 7), none, []⟩, ⟨(some 9), .fld 4 (.t 3), none, []⟩, ⟨(some 10), .load none (.t 9), none, [1]⟩, ⟨(some 11), .len (.t 10), none, [2]⟩, ⟨(some 12), .bin .lss (.t 8) (.t 11), none, [0, 3]⟩]) (.cond (.t 12) (.skip) (.exit 0))) (.seq (.block 1 (.seq (.reg false [⟨(some 15), .fld 4 (.t 3), none, []⟩, ⟨(some 16), .load none (.t 15), none, [0]⟩, ⟨(some 17), .mv (.t 7), none, []⟩, ⟨(some 18), .ixs 2 (.t 16) (.t 17), none, [1, 2]⟩, ⟨(some 19), .fld 0 (.t 18), none, [3]⟩, ⟨(some 20), .load none (.t 19), none, [4]⟩, ⟨(some 21), .mv (.t 1), none, []⟩, ⟨(some 22), .bin .eql (.t 20) (.t 21), none, [5, 6]⟩, ⟨(some 23), .mv (.t 22), none, [7]⟩, ⟨(some 24), .fld 4 (.t 3), (some (23, true)), [8]⟩, ⟨(some 25), .load none (.t 24), (some (23, true)), [9, 8]⟩, ⟨(some 26), .mv (.t 7), (some (23, true)), [8]⟩, ⟨(some 27), .ixs 2 (.t 25) (.t 26), (some (23, true)), [10, 11, 8]⟩, ⟨(some 28), .fld 1 (.t 27), (some (23, true)), [12, 8]⟩, ⟨(some 29), .load none (.t 28), (some (23, true)), [13, 8]⟩, ⟨(some 30), .mv (.t 2), (some (23, true)), [8]⟩, ⟨(some 31), .bin .eql (.t 29) (.t 30), (some (23, true)), [14, 15, 8]⟩, ⟨(some 32), .pick (.t 23) (.t 31) (.v (.bool false)), none, [8, 16]⟩]) (.cond (.t 32) (.seq (.reg false [⟨(some 6), .mv (.v (.bool true)), none, []⟩]) (.ret)) (.skip)))) (.reg false [⟨(some 13), .mv (.t 7), none, []⟩, ⟨(some 14), .bin .add (.t 13) (.v (.int .i64 1)), none, [0]⟩, ⟨(some 7), .mv (.t 14), none, [1, 0, 1]⟩])))))) (.seq (.reg false [⟨(some 6), .mv (.v (.bool false)), none, []⟩]) (.ret)))
def pr102 : List PR := [.t 6]
abbrev ms102_0 : List Nat := [8, 9, 10, 11, 12, 15, 16, 17, 18, 19, 20, 21, 22, 23, 24, 25, 26, 27, 28, 29, 30, 31, 32, 6, 13, 14, 7]
abbrev os102_0 : List Nat := []
theorem bd102:Try.f102.body=some (Try.f102.body.getD .skip):=by kernel_rfl
theorem cp102:compC Try.prog Try.f102.ntmps eqsL (Try.f102.body.getD .skip)=some pc102:=by kernel_rfl
theorem sp102 [WInv] {env:Env} (hE:EnvOK Try.prog env) {R:List Pa→List Pa→Prop} (hR:∀ ps rs,R ps rs→ps.length≤33∧pwp env pc102 (fun e s=>(e=.normal∨e=.ret)∧s.res pr102=some rs) (St.init ps)):Spec Try.prog 102 R :=
 fn_sound hE eqsOK mixedOK Try.func102 bd102 cp102 (by kernel_rfl) (by kernel_rfl) (by kernel_rfl) hR
def pc20 : PC := .seq (.reg false [⟨(some 0), .new [(.int .i64 0), (.int .i64 0), (.slice none 0 0), (.slice none 0 0), (.slice none 0 0), (.slice none 0 0), (.int .i64 0), (.int .i64 0), (.int .i64 0)], none, []⟩]) (.seq (.reg false [⟨(some 1), .build [(.int .i64 0), (.int .i64 0), (.slice none 0 0), (.slice none 0 0), (.slice none 0 0), (.slice none 0 0), (.int .i64 0), (.int .i64 0), (.int .i64 0)] [(1, 1, (.v (.int .i64 1)))], none, []⟩, ⟨none, .store 9 (.t 0) (.t 1), none, [0, 0]⟩]) (.ret))
def pr20 : List PR := [.c 0 (some 9)]
theorem bd20:Try.f20.body=some (Try.f20.body.getD .skip):=by kernel_rfl
theorem cp20:compC Try.prog Try.f20.ntmps eqsL (Try.f20.body.getD .skip)=some pc20:=by kernel_rfl
theorem sp20 [WInv] {env:Env} (hE:EnvOK Try.prog env) {R:List Pa→List Pa→Prop} (hR:∀ ps rs,R ps rs→ps.length≤2∧pwp env pc20 (fun e s=>(e=.normal∨e=.ret)∧s.res pr20=some rs) (St.init ps)):Spec Try.prog 20 R :=
 fn_sound hE eqsOK mixedOK Try.func20 bd20 cp20 (by kernel_rfl) (by kernel_rfl) (by kernel_rfl) hR
def pc64c0 : PC := .seq (.reg false [⟨(some 108), .fld 4 (.t 1), none, []⟩, ⟨(some 109), .load none (.t 108), none, [0]⟩, ⟨(some 110), .bin .eql (.t 109) (.v (.int .i64 0)), none, [1]⟩, ⟨(some 111), .mv (.t 110), none, [2]⟩, ⟨(some 112), .fld 5 (.t 1), (some (111, true)), [3]⟩, ⟨(some 113), .load none (.t 112), (some (111, true)), [4, 3]⟩, ⟨(some 114), .bin .eql (.t 113) (.v (.int .i64 0)), (some (111, true)), [5, 3]⟩, ⟨(some 115), .pick (.t 111) (.t 114) (.v (.bool false)), none, [3, 6]⟩, ⟨(some 2), .mv (.t 115), none, [7, 3, 0, 1, 2, 3, 4, 5, 6, 7]⟩]) (.ret)
def pc64c1 : PC := .seq (.reg false [⟨(some 56), .fld 2 (.t 1), none, []⟩, ⟨(some 57), .load none (.t 56), none, [0]⟩, ⟨(some 58), .bin .eql (.t 57) (.v (.int .i64 0)), none, [1]⟩, ⟨(some 59), .mv (.t 58), none, [2]⟩, ⟨(some 60), .fld 3 (.t 1), (some (59, true)), [3]⟩, ⟨(some 61), .load none (.t 60), (some (59, true)), [4, 3]⟩, ⟨(some 62), .bin .eql (.t 61) (.v (.int .i64 0)), (some (59, true)), [5, 3]⟩, ⟨(some 63), .pick (.t 59) (.t 62) (.v (.bool false)), none, [3, 6]⟩, ⟨(some 64), .mv (.t 63), none, [7, 3]⟩, ⟨(some 65), .fld 5 (.t 1), (some (64, true)), [8]⟩, ⟨(some 66), .load none (.t 65), (some (64, true)), [9, 8]⟩, ⟨(some 67), .bin .eql (.t 66) (.v (.int .i64 0)), (some (64, true)), [10, 8]⟩, ⟨(some 68), .pick (.t 64) (.t 67) (.v (.bool false)), none, [8, 11]⟩, ⟨(some 69), .mv (.t 68), none, [12, 8]⟩, ⟨(some 70), .fld 4 (.t 1), (some (69, true)), [13]⟩, ⟨(some 71), .load none (.t 70), (some (69, true)), [14, 13]⟩, ⟨(some 72), .bin .gtr (.t 71) (.v (.int .i64 0)), (some (69, true)), [15, 13]⟩, ⟨(some 73), .pick (.t 69) (.t 72) (.v (.bool false)), none, [13, 16]⟩, ⟨(some 74), .mv (.t 73), none, [17, 13]⟩, ⟨(some 75), .fld 4 (.t 1), (some (74, true)), [18]⟩, ⟨(some 76), .load none (.t 75), (some (74, true)), [19, 18]⟩, ⟨(some 77), .bin .lss (.t 76) (.v (.int .i64 8)), (some (74, true)), [20, 18]⟩, ⟨(some 78), .pick (.t 74) (.t 77) (.v (.bool false)), none, [18, 21]⟩, ⟨(some 2), .mv (.t 78), none, [22, 18, 0, 1, 2, 3, 4, 5, 6, 7, 8, 9, 10, 11, 12, 13, 14, 15, 16, 17, 18, 19, 20, 21, 22]⟩]) (.ret)
def pc64c2 : PC := .seq (.reg false [⟨(some 84), .fld 3 (.t 1), none, []⟩, ⟨(some 85), .load none (.t 84), none, [0]⟩, ⟨(some 86), .bin .eql (.t 85) (.v (.int .i64 0)), none, [1]⟩, ⟨(some 87), .mv (.t 86), none, [2]⟩, ⟨(some 88), .fld 5 (.t 1), (some (87, true)), [3]⟩, ⟨(some 89), .load none (.t 88), (some (87, true)), [4, 3]⟩, ⟨(some 90), .bin .leq (.t 89) (.v (.int .i64 64)), (some (87, true)), [5, 3]⟩, ⟨(some 91), .pick (.t 87) (.t 90) (.v (.bool false)), none, [3, 6]⟩, ⟨(some 2), .mv (.t 91), none, [7, 3, 0, 1, 2, 3, 4, 5, 6, 7]⟩]) (.ret)
def pc64c3 : PC := .seq (.reg false [⟨(some 95), .fld 3 (.t 1), none, []⟩, ⟨(some 96), .load none (.t 95), none, [0]⟩, ⟨(some 97), .bin .eql (.t 96) (.v (.int .i64 0)), none, [1]⟩, ⟨(some 98), .mv (.t 97), none, [2]⟩, ⟨(some 99), .fld 4 (.t 1), (some (98, true)), [3]⟩, ⟨(some 100), .load none (.t 99), (some (98, true)), [4, 3]⟩, ⟨(some 101), .bin .eql (.t 100) (.v (.int .i64 0)), (some (98, true)), [5, 3]⟩, ⟨(some 102), .pick (.t 98) (.t 101) (.v (.bool false)), none, [3, 6]⟩, ⟨(some 103), .mv (.t 102), none, [7, 3]⟩, ⟨(some 104), .fld 5 (.t 1), (some (103, true)), [8]⟩, ⟨(some 105), .load none (.t 104), (some (103, true)), [9, 8]⟩, ⟨(some 106), .bin .leq (.t 105) (.v (.int .i64 64)), (some (103, true)), [10, 8]⟩, ⟨(some 107), .pick (.t 103) (.t 106) (.v (.bool false)), none, [8, 11]⟩, ⟨(some 2), .mv (.t 107), none, [12, 8, 0, 1, 2, 3, 4, 5, 6, 7, 8, 9, 10, 11, 12]⟩]) (.ret)
def pc64c4 : PC := .seq (.seq (.reg false [⟨(some 93), .bin .eql (.t 53) (.v (.int .i64 19)), none, []⟩, ⟨(some 92), .mv (.t 93), none, [0]⟩]) (.cond (.t 92) (.skip) (.reg false [⟨(some 94), .bin .eql (.t 53) (.v (.int .i64 20)), none, []⟩, ⟨(some 92), .mv (.t 94), none, [0]⟩]))) (.cond (.t 92) (pc64c3) (.skip))
def pc64c5 : PC := .seq (.seq (.reg false [⟨(some 80), .bin .eql (.t 53) (.v (.int .i64 15)), none, []⟩, ⟨(some 79), .mv (.t 80), none, [0]⟩]) (.cond (.t 79) (.skip) (.seq (.reg false [⟨(some 81), .bin .eql (.t 53) (.v (.int .i64 16)), none, []⟩, ⟨(some 79), .mv (.t 81), none, [0]⟩]) (.cond (.t 79) (.skip) (.seq (.reg false [⟨(some 82), .bin .eql (.t 53) (.v (.int .i64 17)), none, []⟩, ⟨(some 79), .mv (.t 82), none, [0]⟩]) (.cond (.t 79) (.skip) (.reg false [⟨(some 83), .bin .eql (.t 53) (.v (.int .i64 18)), none, []⟩, ⟨(some 79), .mv (.t 83), none, [0]⟩]))))))) (.cond (.t 79) (pc64c2) (pc64c4))
def pc64c6 : PC := .seq (.reg false [⟨(some 52), .fld 1 (.t 1), none, []⟩, ⟨(some 53), .load none (.t 52), none, [0]⟩]) (.block 2 (.seq (.reg false [⟨(some 55), .bin .eql (.t 53) (.v (.int .i64 14)), none, []⟩, ⟨(some 54), .mv (.t 55), none, [0]⟩]) (.cond (.t 54) (pc64c1) (pc64c5))))
def pc64c7 : PC := .seq (pc64c6) (pc64c0)
def pc64c8 : PC := .seq (.seq (.reg false [⟨(some 4), .mv (.v (.int .i64 0)), none, []⟩]) (.block 0 (.loop (.seq (.seq (.reg false [⟨(some 34), .mv (.t 4), none, []⟩, ⟨(some 35), .mv (.t 3), none, []⟩, ⟨(some 36), .len (.t 35), none, [1]⟩, ⟨(some 37), .bin .lss (.t 34) (.t 36), none, [0, 2]⟩]) (.cond (.t 37) (.skip) (.exit 0))) (.seq (.block 1 (.seq (.reg false [⟨(some 40), .mv (.t 3), none, []⟩, ⟨(some 41), .mv (.t 4), none, []⟩, ⟨(some 42), .ixs 1 (.t 40) (.t 41), none, [0, 1]⟩, ⟨(some 43), .load none (.t 42), none, [2]⟩, ⟨(some 44), .bin .lss (.t 43) (.v (.int .i64 0)), none, [3]⟩, ⟨(some 45), .mv (.t 44), none, [4]⟩, ⟨(some 46), .mv (.t 3), (some (45, false)), [5]⟩, ⟨(some 47), .mv (.t 4), (some (45, false)), [5]⟩, ⟨(some 48), .ixs 1 (.t 46) (.t 47), (some (45, false)), [6, 7, 5]⟩, ⟨(some 49), .load none (.t 48), (some (45, false)), [8, 5]⟩, ⟨(some 50), .bin .gtr (.t 49) (.v (.int .i64 2147483647)), (some (45, false)), [9, 5]⟩, ⟨(some 51), .pick (.t 45) (.v (.bool true)) (.t 50), none, [5, 10]⟩]) (.cond (.t 51) (.seq (.reg false [⟨(some 2), .mv (.v (.bool false)), none, []⟩]) (.ret)) (.skip)))) (.reg false [⟨(some 38), .mv (.t 4), none, []⟩, ⟨(some 39), .bin .add (.t 38) (.v (.int .i64 1)), none, [0]⟩, ⟨(some 4), .mv (.t 39), none, [1, 0, 1]⟩])))))) (pc64c7)
def pc64c9 : PC := .seq (.reg false [⟨(some 19), .fld 2 (.t 1), none, []⟩, ⟨(some 20), .load none (.t 19), none, [0]⟩, ⟨(some 21), .fld 3 (.t 1), none, []⟩, ⟨(some 22), .load none (.t 21), none, [2]⟩, ⟨(some 23), .fld 4 (.t 1), none, []⟩, ⟨(some 24), .load none (.t 23), none, [4]⟩, ⟨(some 25), .fld 5 (.t 1), none, []⟩, ⟨(some 26), .load none (.t 25), none, [6]⟩, ⟨(some 27), .fld 6 (.t 1), none, []⟩, ⟨(some 28), .load none (.t 27), none, [8]⟩, ⟨(some 29), .fld 7 (.t 1), none, []⟩, ⟨(some 30), .load none (.t 29), none, [10]⟩, ⟨(some 31), .fld 8 (.t 1), none, []⟩, ⟨(some 32), .load none (.t 31), none, [12]⟩, ⟨(some 33), .bslice 3 1 [(.int .i64 0), (.int .i64 0), (.int .i64 0), (.int .i64 0), (.int .i64 0), (.int .i64 0), (.int .i64 0)] 7 [(0, 1, (.t 20)), (1, 1, (.t 22)), (2, 1, (.t 24)), (3, 1, (.t 26)), (4, 1, (.t 28)), (5, 1, (.t 30)), (6, 1, (.t 32))], none, [1, 3, 5, 7, 9, 11, 13]⟩, ⟨(some 3), .mv (.t 33), none, [14, 0, 1, 2, 3, 4, 5, 6, 7, 8, 9, 10, 11, 12, 13, 14]⟩]) (pc64c8)
def pc64 : PC := .seq (.reg false [⟨(some 1), .box (.t 0), none, []⟩, ⟨(some 2), .mv (.v (.bool false)), none, []⟩]) (.seq (.seq (.reg false [⟨(some 5), .fld 0 (.t 1), none, []⟩, ⟨(some 6), .load none (.t 5), none, [0]⟩, ⟨(some 7), .bin .lss (.t 6) (.v (.int .i64 0)), none, [1]⟩, ⟨(some 8), .mv (.t 7), none, [2]⟩, ⟨(some 9), .fld 0 (.t 1), (some (8, false)), [3]⟩, ⟨(some 10), .load none (.t 9), (some (8, false)), [4, 3]⟩, ⟨(some 11), .bin .geq (.t 10) (.v (.int .i64 8)), (some (8, false)), [5, 3]⟩, ⟨(some 12), .pick (.t 8) (.v (.bool true)) (.t 11), none, [3, 6]⟩, ⟨(some 13), .mv (.t 12), none, [7, 3]⟩, ⟨(some 14), .fld 1 (.t 1), (some (13, false)), [8]⟩, ⟨(some 15), .load none (.t 14), (some (13, false)), [9, 8]⟩, ⟨(some 16), .call 95 [(.t 15)], (some (13, false)), [10, 8, 8]⟩, ⟨(some 17), .bin .eql (.t 16) (.v (.string ⟨#[]⟩)), (some (13, false)), [11, 8]⟩, ⟨(some 18), .pick (.t 13) (.v (.bool true)) (.t 17), none, [8, 12]⟩]) (.cond (.t 18) (.seq (.reg false [⟨(some 2), .mv (.v (.bool false)), none, []⟩]) (.ret)) (.skip))) (pc64c9))
def pr64 : List PR := [.t 2]
abbrev ms64_0 : List Nat := [34, 35, 36, 37, 40, 41, 42, 43, 44, 45, 46, 47, 48, 49, 50, 51, 2, 38, 39, 4]
abbrev os64_0 : List Nat := []
theorem bd64:Try.f64.body=some (Try.f64.body.getD .skip):=by kernel_rfl
theorem cp64:compC Try.prog Try.f64.ntmps eqsL (Try.f64.body.getD .skip)=some pc64:=by kernel_rfl
theorem sp64 [WInv] {env:Env} (hE:EnvOK Try.prog env) {R:List Pa→List Pa→Prop} (hR:∀ ps rs,R ps rs→ps.length≤116∧pwp env pc64 (fun e s=>(e=.normal∨e=.ret)∧s.res pr64=some rs) (St.init ps)):Spec Try.prog 64 R :=
 fn_sound hE eqsOK mixedOK Try.func64 bd64 cp64 (by kernel_rfl) (by kernel_rfl) (by kernel_rfl) hR
def pc66 : PC := .seq (.reg false [⟨(some 2), .mv (.v (.bool false)), none, []⟩]) (.seq (.reg false [⟨(some 3), .mv (.t 0), none, []⟩, ⟨(some 4), .bin .geq (.t 3) (.v (.int .i64 15)), none, [0]⟩, ⟨(some 5), .mv (.t 4), none, [1]⟩, ⟨(some 6), .mv (.t 0), (some (5, true)), [2]⟩, ⟨(some 7), .bin .leq (.t 6) (.v (.int .i64 20)), (some (5, true)), [3, 2]⟩, ⟨(some 8), .pick (.t 5) (.t 7) (.v (.bool false)), none, [2, 4]⟩, ⟨(some 2), .mv (.t 8), none, [5, 2, 0, 1, 2, 3, 4, 5]⟩]) (.ret))
def pr66 : List PR := [.t 2]
theorem bd66:Try.f66.body=some (Try.f66.body.getD .skip):=by kernel_rfl
theorem cp66:compC Try.prog Try.f66.ntmps eqsL (Try.f66.body.getD .skip)=some pc66:=by kernel_rfl
theorem sp66 [WInv] {env:Env} (hE:EnvOK Try.prog env) {R:List Pa→List Pa→Prop} (hR:∀ ps rs,R ps rs→ps.length≤9∧pwp env pc66 (fun e s=>(e=.normal∨e=.ret)∧s.res pr66=some rs) (St.init ps)):Spec Try.prog 66 R :=
 fn_sound hE eqsOK mixedOK Try.func66 bd66 cp66 (by kernel_rfl) (by kernel_rfl) (by kernel_rfl) hR
def pc95 : PC := .seq (.reg false [⟨(some 2), .mv (.v (.string ⟨#[]⟩)), none, []⟩]) (.seq (.reg false [⟨(some 4), .bslice 9 1 [(.string ⟨#[]⟩), (.string ⟨#[]⟩), (.string ⟨#[]⟩), (.string ⟨#[]⟩), (.string ⟨#[]⟩), (.string ⟨#[]⟩), (.string ⟨#[]⟩), (.string ⟨#[]⟩), (.string ⟨#[]⟩), (.string ⟨#[]⟩), (.string ⟨#[]⟩), (.string ⟨#[]⟩), (.string ⟨#[]⟩), (.string ⟨#[]⟩), (.string ⟨#[]⟩), (.string ⟨#[]⟩), (.string ⟨#[]⟩), (.string ⟨#[]⟩), (.string ⟨#[]⟩), (.string ⟨#[]⟩), (.string ⟨#[]⟩)] 21 [(0, 1, (.v (.string ⟨#[]⟩))), (1, 1, (.v (.string ⟨#[114, 101, 97, 100]⟩))), (2, 1, (.v (.string ⟨#[119, 114, 105, 116, 101]⟩))), (3, 1, (.v (.string ⟨#[97, 116, 111, 109, 105, 99, 45, 114, 101, 97, 100]⟩))), (4, 1, (.v (.string ⟨#[97, 116, 111, 109, 105, 99, 45, 119, 114, 105, 116, 101]⟩))), (5, 1, (.v (.string ⟨#[97, 116, 111, 109, 105, 99, 45, 98, 111, 116, 104]⟩))), (6, 1, (.v (.string ⟨#[108, 111, 99, 107]⟩))), (7, 1, (.v (.string ⟨#[117, 110, 108, 111, 99, 107]⟩))), (8, 1, (.v (.string ⟨#[114, 108, 111, 99, 107]⟩))), (9, 1, (.v (.string ⟨#[114, 117, 110, 108, 111, 99, 107]⟩))), (10, 1, (.v (.string ⟨#[100, 111, 110, 101]⟩))), (11, 1, (.v (.string ⟨#[119, 97, 105, 116]⟩))), (12, 1, (.v (.string ⟨#[111, 110, 99, 101, 45, 101, 110, 100]⟩))), (13, 1, (.v (.string ⟨#[111, 110, 99, 101, 45, 115, 101, 101, 110]⟩))), (14, 1, (.v (.string ⟨#[103, 111]⟩))), (15, 1, (.v (.string ⟨#[115, 101, 110, 100, 45, 115, 116, 97, 114, 116]⟩))), (16, 1, (.v (.string ⟨#[115, 101, 110, 100, 45, 101, 110, 100]⟩))), (17, 1, (.v (.string ⟨#[114, 101, 99, 118, 45, 115, 116, 97, 114, 116]⟩))), (18, 1, (.v (.string ⟨#[114, 101, 99, 118, 45, 101, 110, 100]⟩))), (19, 1, (.v (.string ⟨#[99, 108, 111, 115, 101]⟩))), (20, 1, (.v (.string ⟨#[114, 101, 99, 118, 45, 99, 108, 111, 115, 101, 100]⟩)))], none, []⟩, ⟨(some 3), .mv (.t 4), none, [0, 0]⟩]) (.seq (.seq (.reg false [⟨(some 5), .mv (.t 0), none, []⟩, ⟨(some 6), .bin .lss (.t 5) (.v (.int .i64 1)), none, [0]⟩, ⟨(some 7), .mv (.t 6), none, [1]⟩, ⟨(some 8), .mv (.t 0), (some (7, false)), [2]⟩, ⟨(some 9), .bin .gtr (.t 8) (.v (.int .i64 20)), (some (7, false)), [3, 2]⟩, ⟨(some 10), .pick (.t 7) (.v (.bool true)) (.t 9), none, [2, 4]⟩]) (.cond (.t 10) (.seq (.reg false [⟨(some 2), .mv (.v (.string ⟨#[]⟩)), none, []⟩]) (.ret)) (.skip))) (.seq (.reg false [⟨(some 11), .mv (.t 3), none, []⟩, ⟨(some 12), .mv (.t 0), none, []⟩, ⟨(some 13), .ixs 1 (.t 11) (.t 12), none, [0, 1]⟩, ⟨(some 14), .load none (.t 13), none, [2]⟩, ⟨(some 2), .mv (.t 14), none, [3, 0, 1, 2, 3]⟩]) (.ret))))
def pr95 : List PR := [.t 2]
theorem bd95:Try.f95.body=some (Try.f95.body.getD .skip):=by kernel_rfl
theorem cp95:compC Try.prog Try.f95.ntmps eqsL (Try.f95.body.getD .skip)=some pc95:=by kernel_rfl
theorem sp95 [WInv] {env:Env} (hE:EnvOK Try.prog env) {R:List Pa→List Pa→Prop} (hR:∀ ps rs,R ps rs→ps.length≤15∧pwp env pc95 (fun e s=>(e=.normal∨e=.ret)∧s.res pr95=some rs) (St.init ps)):Spec Try.prog 95 R :=
 fn_sound hE eqsOK mixedOK Try.func95 bd95 cp95 (by kernel_rfl) (by kernel_rfl) (by kernel_rfl) hR
def pc3 : PC := .seq (.reg false [⟨(some 4), .mv (.v (.bool false)), none, []⟩]) (.seq (.seq (.reg false [⟨(some 21), .call 18 [], none, []⟩, ⟨(some 22), .un .not (.t 21), none, [0]⟩]) (.cond (.t 22) (.seq (.reg false [⟨(some 4), .mv (.v (.bool false)), none, []⟩]) (.ret)) (.skip))) (.seq (.seq (.reg false [⟨(some 23), .mv (.t 0), none, []⟩, ⟨(some 24), .len (.t 23), none, [0]⟩, ⟨(some 25), .mv (.t 1), none, []⟩, ⟨(some 26), .len (.t 25), none, [2]⟩, ⟨(some 27), .bin .add (.t 24) (.t 26), none, [1, 3]⟩, ⟨(some 28), .bin .gtr (.t 27) (.v (.int .i64 100)), none, [4]⟩]) (.cond (.t 28) (.seq (.reg false [⟨(some 4), .mv (.v (.bool true)), none, []⟩]) (.ret)) (.skip))) (.seq (.reg false [⟨(some 29), .call 19 [], none, []⟩, ⟨(some 5), .mv (.t 29), none, [0, 0, 0]⟩]) (.seq (.reg false [⟨(some 30), .call 20 [], none, []⟩, ⟨(some 6), .new [(.int .i64 0), (.int .i64 0), (.slice none 0 0), (.slice none 0 0), (.slice none 0 0), (.slice none 0 0), (.int .i64 0), (.int .i64 0), (.int .i64 0)], none, []⟩, ⟨none, .store 9 (.t 6) (.t 30), none, [1, 0, 0, 0, 1]⟩]) (.seq (.seq (.reg false [⟨(some 31), .mv (.t 0), none, []⟩, ⟨(some 32), .len (.t 31), none, [0]⟩, ⟨(some 33), .mv (.v (.int .i64 0)), none, []⟩]) (.block 0 (.loop (.seq (.reg false [⟨(some 34), .bin .lss (.t 33) (.t 32), none, []⟩]) (.seq (.cond (.t 34) (.skip) (.exit 0)) (.seq (.block 1 (.seq (.reg false [⟨(some 35), .ixs 9 (.t 31) (.t 33), none, []⟩, ⟨(some 36), .load (some 9) (.t 35), none, [0]⟩, ⟨(some 8), .new [(.int .i64 0), (.int .i64 0), (.int .i64 0), (.int .i64 0), (.int .i64 0), (.int .i64 0), (.int .i64 0), (.int .i64 0), (.int .i64 0)], none, []⟩, ⟨none, .store 9 (.t 8) (.t 36), none, [2, 1, 0, 1, 2]⟩]) (.seq (.reg false [⟨(some 37), .mv (.t 5), none, []⟩, ⟨(some 38), .load (some 9) (.t 8), none, []⟩, ⟨(some 39), .call 21 [(.t 37), (.t 38)], none, [0, 1]⟩]) (.reg false [⟨(some 41), .load (some 9) (.t 6), none, []⟩, ⟨(some 42), .load (some 9) (.t 8), none, []⟩, ⟨(some 43), .call 22 [(.t 41), (.t 42)], none, [0, 1]⟩, ⟨(some 40), .mv (.t 43), none, [2]⟩, ⟨(some 44), .ext (.t 40) 0, none, [3]⟩, ⟨(some 45), .ext (.t 40) 1, none, [3]⟩, ⟨none, .store 9 (.t 6) (.t 44), none, [4, 2, 0, 1, 2, 3, 4]⟩])))) (.reg false [⟨(some 46), .bin .add (.t 33) (.v (.int .i64 1)), none, []⟩, ⟨(some 33), .mv (.t 46), none, [0]⟩]))))))) (.seq (.reg false [⟨(some 47), .mv (.t 5), none, []⟩, ⟨(some 48), .call 23 [(.t 47)], none, [0]⟩, ⟨(some 49), .mv (.t 5), none, []⟩, ⟨(some 50), .call 23 [(.t 49)], none, [2, 1]⟩, ⟨(some 9), .mv (.t 48), none, [1, 3, 0, 1]⟩, ⟨(some 10), .mv (.t 50), none, [3, 4, 0, 1, 2, 3, 4]⟩]) (.seq (.reg false [⟨(some 51), .load (some 9) (.t 6), none, []⟩, ⟨(some 11), .new [(.int .i64 0), (.int .i64 0), (.slice none 0 0), (.slice none 0 0), (.slice none 0 0), (.slice none 0 0), (.int .i64 0), (.int .i64 0), (.int .i64 0)], none, []⟩, ⟨none, .store 9 (.t 11) (.t 51), none, [1, 0, 0, 1]⟩]) (.seq (.seq (.reg false [⟨(some 52), .mv (.t 1), none, []⟩, ⟨(some 53), .len (.t 52), none, [0]⟩, ⟨(some 54), .mv (.v (.int .i64 0)), none, []⟩]) (.block 2 (.loop (.seq (.reg false [⟨(some 55), .bin .lss (.t 54) (.t 53), none, []⟩]) (.seq (.cond (.t 55) (.skip) (.exit 2)) (.seq (.block 3 (.seq (.reg false [⟨(some 56), .ixs 9 (.t 52) (.t 54), none, []⟩, ⟨(some 57), .load (some 9) (.t 56), none, [0]⟩, ⟨(some 13), .new [(.int .i64 0), (.int .i64 0), (.int .i64 0), (.int .i64 0), (.int .i64 0), (.int .i64 0), (.int .i64 0), (.int .i64 0), (.int .i64 0)], none, []⟩, ⟨none, .store 9 (.t 13) (.t 57), none, [2, 1, 0, 1, 2]⟩]) (.seq (.reg false [⟨(some 59), .load (some 9) (.t 11), none, []⟩, ⟨(some 60), .load (some 9) (.t 13), none, []⟩, ⟨(some 61), .call 22 [(.t 59), (.t 60)], none, [0, 1]⟩, ⟨(some 58), .mv (.t 61), none, [2]⟩, ⟨(some 62), .ext (.t 58) 0, none, [3]⟩, ⟨(some 63), .ext (.t 58) 1, none, [3]⟩, ⟨(some 14), .new [(.int .i64 0), (.int .i64 0), (.slice none 0 0), (.slice none 0 0), (.slice none 0 0), (.slice none 0 0), (.int .i64 0), (.int .i64 0), (.int .i64 0)], none, []⟩, ⟨none, .store 9 (.t 14) (.t 62), none, [6, 4, 2, 0, 1, 2, 3, 4, 6]⟩, ⟨(some 15), .mv (.t 63), none, [5, 7, 0, 1, 2, 3, 4, 5, 6, 7]⟩]) (.seq (.seq (.reg false [⟨(some 64), .mv (.t 9), none, []⟩, ⟨(some 65), .load (some 9) (.t 13), none, []⟩, ⟨(some 66), .call 21 [(.t 64), (.t 65)], none, [0, 1]⟩, ⟨(some 67), .mv (.t 15), none, []⟩, ⟨(some 68), .eqb true (.t 66) (.t 67), none, [2, 3]⟩]) (.cond (.t 68) (.seq (.reg false [⟨(some 4), .mv (.v (.bool false)), none, []⟩]) (.ret)) (.skip))) (.reg false [⟨(some 69), .load (some 9) (.t 14), none, []⟩, ⟨none, .store 9 (.t 11) (.t 69), none, [0, 0]⟩]))))) (.reg false [⟨(some 70), .bin .add (.t 54) (.v (.int .i64 1)), none, []⟩, ⟨(some 54), .mv (.t 70), none, [0]⟩]))))))) (.seq (.seq (.reg true [⟨(some 71), .mv (.t 10), none, []⟩, ⟨(some 72), .call 24 [(.t 71)], none, [0]⟩, ⟨(some 73), .fld 1 (.t 6), none, []⟩, ⟨(some 74), .load none (.t 73), none, [2]⟩, ⟨(some 75), .bin .neq (.t 72) (.t 74), none, [1, 3]⟩, ⟨(some 76), .mv (.t 75), none, [4, 1]⟩, ⟨(some 77), .mv (.t 10), (some (76, false)), [5]⟩, ⟨(some 78), .call 25 [(.t 77)], (some (76, false)), [6, 5, 5]⟩, ⟨(some 79), .fld 5 (.t 6), (some (76, false)), [5]⟩, ⟨(some 80), .load none (.t 79), (some (76, false)), [8, 5]⟩, ⟨(some 81), .len (.t 80), (some (76, false)), [9, 5]⟩, ⟨(some 82), .bin .gtr (.t 81) (.v (.int .i64 0)), (some (76, false)), [10, 5]⟩, ⟨(some 83), .eqb true (.t 78) (.t 82), (some (76, false)), [7, 11, 5]⟩, ⟨(some 84), .pick (.t 76) (.v (.bool true)) (.t 83), none, [5, 12]⟩]) (.cond (.t 84) (.seq (.reg false [⟨(some 4), .mv (.v (.bool false)), none, []⟩]) (.ret)) (.skip))) (.seq (.seq (.reg false [⟨(some 85), .mv (.t 1), none, []⟩, ⟨(some 86), .len (.t 85), none, [0]⟩, ⟨(some 87), .mv (.v (.int .i64 0)), none, []⟩]) (.block 4 (.loop (.seq (.reg false [⟨(some 88), .bin .lss (.t 87) (.t 86), none, []⟩]) (.seq (.cond (.t 88) (.skip) (.exit 4)) (.seq (.block 5 (.seq (.reg false [⟨(some 89), .ixs 9 (.t 85) (.t 87), none, []⟩, ⟨(some 90), .load (some 9) (.t 89), none, [0]⟩, ⟨(some 17), .new [(.int .i64 0), (.int .i64 0), (.int .i64 0), (.int .i64 0), (.int .i64 0), (.int .i64 0), (.int .i64 0), (.int .i64 0), (.int .i64 0)], none, []⟩, ⟨none, .store 9 (.t 17) (.t 90), none, [2, 1, 0, 1, 2]⟩]) (.seq (.reg false [⟨(some 92), .load (some 9) (.t 6), none, []⟩, ⟨(some 93), .load (some 9) (.t 17), none, []⟩, ⟨(some 94), .call 22 [(.t 92), (.t 93)], none, [0, 1]⟩, ⟨(some 91), .mv (.t 94), none, [2]⟩, ⟨(some 95), .ext (.t 91) 0, none, [3]⟩, ⟨(some 96), .ext (.t 91) 1, none, [3]⟩, ⟨(some 18), .new [(.int .i64 0), (.int .i64 0), (.slice none 0 0), (.slice none 0 0), (.slice none 0 0), (.slice none 0 0), (.int .i64 0), (.int .i64 0), (.int .i64 0)], none, []⟩, ⟨none, .store 9 (.t 18) (.t 95), none, [6, 4, 2, 0, 1, 2, 3, 4, 6]⟩, ⟨(some 19), .mv (.t 96), none, [5, 7, 0, 1, 2, 3, 4, 5, 6, 7]⟩]) (.seq (.seq (.reg false [⟨(some 97), .mv (.t 5), none, []⟩, ⟨(some 98), .load (some 9) (.t 17), none, []⟩, ⟨(some 99), .call 21 [(.t 97), (.t 98)], none, [0, 1]⟩, ⟨(some 100), .mv (.t 19), none, []⟩, ⟨(some 101), .eqb true (.t 99) (.t 100), none, [2, 3]⟩, ⟨(some 102), .mv (.t 101), none, [4, 2]⟩, ⟨(some 103), .mv (.t 10), (some (102, false)), [5]⟩, ⟨(some 104), .load (some 9) (.t 17), (some (102, false)), [5]⟩, ⟨(some 105), .call 21 [(.t 103), (.t 104)], (some (102, false)), [6, 7, 5, 5]⟩, ⟨(some 106), .mv (.t 19), (some (102, false)), [5]⟩, ⟨(some 107), .eqb true (.t 105) (.t 106), (some (102, false)), [8, 9, 5]⟩, ⟨(some 108), .pick (.t 102) (.v (.bool true)) (.t 107), none, [5, 10]⟩]) (.cond (.t 108) (.seq (.reg false [⟨(some 4), .mv (.v (.bool false)), none, []⟩]) (.ret)) (.skip))) (.reg false [⟨(some 109), .load (some 9) (.t 18), none, []⟩, ⟨none, .store 9 (.t 6) (.t 109), none, [0, 0]⟩]))))) (.reg false [⟨(some 110), .bin .add (.t 87) (.v (.int .i64 1)), none, []⟩, ⟨(some 87), .mv (.t 110), none, [0]⟩]))))))) (.seq (.reg false [⟨(some 20), .mv (.v (.pointer none)), none, []⟩]) (.seq (.reg false [⟨(some 111), .mv (.t 20), none, []⟩, ⟨(some 112), .build [(.int .i64 0), (.int .i64 0), (.int .i64 0), (.int .i64 0), (.int .i64 0), (.int .i64 0), (.int .i64 0), (.int .i64 0), (.int .i64 0)] [(1, 1, (.v (.int .i64 1)))], none, []⟩, ⟨(some 113), .call 21 [(.t 111), (.t 112)], none, [0, 1]⟩, ⟨(some 114), .un .not (.t 113), none, [2]⟩, ⟨(some 115), .mv (.t 114), none, [3, 2]⟩, ⟨(some 116), .mv (.t 20), (some (115, true)), [4]⟩, ⟨(some 117), .call 25 [(.t 116)], (some (115, true)), [5, 4, 4]⟩, ⟨(some 118), .un .not (.t 117), (some (115, true)), [6, 4]⟩, ⟨(some 119), .pick (.t 115) (.t 118) (.v (.bool false)), none, [4, 7]⟩, ⟨(some 120), .mv (.t 119), none, [8, 6]⟩, ⟨(some 121), .mv (.t 20), (some (120, true)), [9]⟩, ⟨(some 122), .call 24 [(.t 121)], (some (120, true)), [10, 9, 9]⟩, ⟨(some 123), .bin .eql (.t 122) (.v (.int .i64 0)), (some (120, true)), [11, 9]⟩, ⟨(some 124), .pick (.t 120) (.t 123) (.v (.bool false)), none, [9, 12]⟩, ⟨(some 125), .mv (.t 124), none, [13, 11]⟩, ⟨(some 126), .mv (.t 20), (some (125, true)), [14]⟩, ⟨(some 127), .call 23 [(.t 126)], (some (125, true)), [15, 14, 14]⟩, ⟨(some 128), .pnil false (.t 127), (some (125, true)), [16, 14]⟩, ⟨(some 129), .pick (.t 125) (.t 128) (.v (.bool false)), none, [14, 17]⟩, ⟨(some 4), .mv (.t 129), none, [18, 16, 0, 1, 2, 3, 4, 5, 6, 7, 8, 9, 10, 11, 12, 13, 14, 15, 16, 17, 18]⟩]) (.ret)))))))))))))
def pr3 : List PR := [.t 4]
abbrev ms3_0 : List Nat := [34, 35, 36, 8, 37, 38, 39, 41, 42, 43, 40, 44, 45, 46, 33]
abbrev os3_0 : List Nat := [8, 6]
abbrev ms3_1 : List Nat := [55, 56, 57, 13, 59, 60, 61, 58, 62, 63, 14, 15, 64, 65, 66, 67, 68, 4, 69, 70, 54]
abbrev os3_1 : List Nat := [13, 14, 11]
abbrev ms3_2 : List Nat := [88, 89, 90, 17, 92, 93, 94, 91, 95, 96, 18, 19, 97, 98, 99, 100, 101, 102, 103, 104, 105, 106, 107, 108, 4, 109, 110, 87]
abbrev os3_2 : List Nat := [17, 18, 6]
theorem bd3:Try.f3.body=some (Try.f3.body.getD .skip):=by kernel_rfl
theorem cp3:compC Try.prog Try.f3.ntmps eqsL (Try.f3.body.getD .skip)=some pc3:=by kernel_rfl
theorem sp3 [WInv] {env:Env} (hE:EnvOK Try.prog env) {R:List Pa→List Pa→Prop} (hR:∀ ps rs,R ps rs→ps.length≤130∧pwp env pc3 (fun e s=>(e=.normal∨e=.ret)∧s.res pr3=some rs) (St.init ps)):Spec Try.prog 3 R :=
 fn_sound hE eqsOK mixedOK Try.func3 bd3 cp3 (by kernel_rfl) (by kernel_rfl) (by kernel_rfl) hR
end Go.Proofs.Ytffcpijeebagfaa
end
section
namespace Go.Proofs.Ytffcpijeebagfaa
open Go Go.RowKit
set_option maxRecDepth 100000
set_option maxHeartbeats 4000000
def R_channel (ps rs:List Pa):Prop:=∃ (s:RSt) (obj n:Int),ps=[s.pa,pI obj,pI n]∧s.chans.length≤1000000∧rs=[.agg (s.channel obj n).row]
theorem s_channel:Spec Try.prog 97 R_channel:=by
 refine sp97 EnvOK.e0 ?_;rintro ps rs ⟨s,obj,n,rfl,hlen,rfl⟩;refine ⟨by simp,?_⟩;unfold pc97;refine pwp_start ?_;simp only [↓evP,evB,stB,reduceIte,reduceCtorEq,Nat.reduceEqDiff,Nat.reduceAdd,Nat.reduceMul,Nat.reduceLeDiff,Nat.reduceLT,Nat.reduceSub,Nat.reduceBEq,RSt.pa,RSt.row];refine pwp_loopW ms97_0 os97_0 (fun m st=>∃ k:Nat,m=s.chans.length - k∧k≤s.chans.length∧(∀ i c,i < k→s.chans[i]? = some c→(c.obj == obj)=false)∧st.sl 7=aI k∧st.ob 6=.cells [.d (dI 0),.d (dI 0),.d (dI 0),.d (dI 0),.d (dB false)]∧st.gen 6=1) s.chans.length ?_ ?_
 ·exact ⟨0,rfl,Nat.zero_le _,fun i c hi=>absurd hi (Nat.not_lt_zero _),by simp only [stB,reduceIte,reduceCtorEq,Nat.reduceEqDiff,Nat.reduceAdd,Nat.reduceMul,Nat.reduceLeDiff,Nat.reduceLT,Nat.reduceSub,Nat.reduceBEq];rfl,by simp only [stB,reduceIte,reduceCtorEq,Nat.reduceEqDiff,Nat.reduceAdd,Nat.reduceMul,Nat.reduceLeDiff,Nat.reduceLT,Nat.reduceSub,Nat.reduceBEq],by simp only [stB,reduceIte,reduceCtorEq,Nat.reduceEqDiff,Nat.reduceAdd,Nat.reduceMul,Nat.reduceLeDiff,Nat.reduceLT,Nat.reduceSub,Nat.reduceBEq]⟩
 ·rintro m j ⟨k,rfl,hk,hno,h7,h6,g6⟩;simp only [stB,reduceIte,reduceCtorEq,seval] at h7 h6 g6
  rcases Nat.lt_or_ge k s.chans.length with hlt | hge
  ·obtain ⟨c,hc⟩:∃ c,s.chans[k]? = some c:=⟨_,List.getElem?_eq_getElem hlt⟩
   simp only [↓evP,evB,stB,reduceIte,reduceCtorEq,seval,h7,h6,g6,hc,RCh.row,pr97];refine ⟨fun _=>⟨fun he=>?_,fun he=>?_⟩,fun h=>absurd hlt (by omega)⟩
   ·unfold RSt.channel;rw [find_hit hno hc he];rfl
   ·exact ⟨_,by omega,(by repeat' (first | assumption | exact within_over.mpr trivial | exact Within.refl _ _ _ | (refine within_ap ?_ rfl rfl) | (refine within_ap0 ?_ rfl))),k+1,rfl,by omega,no_succ hno hc he,by simp only [stB,reduceIte,reduceCtorEq,seval,h7];rw [wrN (by omega)],by simp only [stB,reduceIte,reduceCtorEq,seval,h6],by simp only [stB,reduceIte,reduceCtorEq,seval,g6]⟩
  ·simp only [↓evP,evB,stB,reduceIte,reduceCtorEq,seval,h7,h6,g6,pr97];refine ⟨fun h=>absurd h (by omega),fun h=>?_⟩;unfold RSt.channel;rw [find_miss (fun i c hi hc=>hno i c (by omega) hc)];rfl
def R_setChannel (ps rs:List Pa):Prop:=∃ (s:RSt) (c:RCh),ps=[s.pa,.agg c.row]∧s.chans.length≤900000∧rs=[(s.setChannel c).pa]
theorem s_setChannel:Spec Try.prog 99 R_setChannel:=by
 refine sp99 EnvOK.e0 ?_;rintro ps rs ⟨s,c,rfl,hlen,rfl⟩;refine ⟨by simp,?_⟩;unfold pc99;refine pwp_start ?_;simp only [↓evP,evB,stB,reduceIte,reduceCtorEq,Nat.reduceEqDiff,Nat.reduceAdd,Nat.reduceMul,Nat.reduceLeDiff,Nat.reduceLT,Nat.reduceSub,Nat.reduceBEq,RSt.pa,RSt.row,RCh.row];refine pwp_loopW ms99_0 os99_0 (fun m st=>∃ k:Nat,m=s.chans.length - k∧k≤s.chans.length∧st.sl 6=aI k∧st.gen 5=1∧st.sl 5=.b (.one (.own 5 1 (((s.chans.take k).filter (fun d=>d.obj != c.obj)).map RCh.row)))∧st.ob 5=.row 146 5 ((s.chans.take k).filter (fun d=>d.obj != c.obj)).length) s.chans.length ?_ ?_
 ·exact ⟨0,rfl,Nat.zero_le _,by simp only [stB,reduceIte,reduceCtorEq,Nat.reduceEqDiff,Nat.reduceAdd,Nat.reduceMul,Nat.reduceLeDiff,Nat.reduceLT,Nat.reduceSub,Nat.reduceBEq];rfl,by simp only [stB,reduceIte,reduceCtorEq,Nat.reduceEqDiff,Nat.reduceAdd,Nat.reduceMul,Nat.reduceLeDiff,Nat.reduceLT,Nat.reduceSub,Nat.reduceBEq],by simp only [stB,reduceIte,reduceCtorEq,Nat.reduceEqDiff,Nat.reduceAdd,Nat.reduceMul,Nat.reduceLeDiff,Nat.reduceLT,Nat.reduceSub,Nat.reduceBEq,List.filter_nil],by simp only [stB,reduceIte,reduceCtorEq,Nat.reduceEqDiff,Nat.reduceAdd,Nat.reduceMul,Nat.reduceLeDiff,Nat.reduceLT,Nat.reduceSub,Nat.reduceBEq,List.filter_nil]⟩
 ·rintro m j ⟨k,rfl,hk,h6,g5,h5,o5⟩;simp only [stB,reduceIte,reduceCtorEq,seval] at h6 g5 h5 o5
  rcases Nat.lt_or_ge k s.chans.length with hlt | hge
  ·obtain ⟨d,hd⟩:∃ d,s.chans[k]? = some d:=⟨_,List.getElem?_eq_getElem hlt⟩
   have hb:((s.chans.take k).filter (fun d=>d.obj != c.obj)).length+1≤1000000:=by have:=filter_take_le s.chans (fun d=>d.obj != c.obj) k;omega
   simp only [↓evP,evB,stB,reduceIte,reduceCtorEq,seval,h6,g5,h5,o5,hd,RCh.row,hb];refine ⟨fun _=>⟨(by unfold Drw;kernel_rfl),fun he=>?_,fun he=>?_⟩,fun h=>absurd hlt (by omega)⟩
   ·exact ⟨_,by omega,(by repeat' (first | assumption | exact within_over.mpr trivial | exact Within.refl _ _ _ | (refine within_ap ?_ rfl rfl) | (refine within_ap0 ?_ rfl))),k+1,rfl,by omega,by simp only [stB,reduceIte,reduceCtorEq,seval,h6];rw [wrN (by omega)],by simp only [stB,reduceIte,reduceCtorEq,seval,g5],by simp only [stB,reduceIte,reduceCtorEq,seval,h5,filter_succ hd,he,List.map_append,RCh.row],by simp only [stB,reduceIte,reduceCtorEq,seval,o5,filter_succ hd,he,List.length_append]⟩
   ·exact ⟨_,by omega,(by repeat' (first | assumption | exact within_over.mpr trivial | exact Within.refl _ _ _ | (refine within_ap ?_ rfl rfl) | (refine within_ap0 ?_ rfl))),k+1,rfl,by omega,by simp only [stB,reduceIte,reduceCtorEq,seval,h6];rw [wrN (by omega)],by simp only [stB,reduceIte,reduceCtorEq,seval,g5],by simp [stB,reduceIte,reduceCtorEq,seval,h5,filter_succ hd,he],by simp [stB,reduceIte,reduceCtorEq,seval,o5,filter_succ hd,he]⟩
  ·have hkl:k=s.chans.length:=by omega
   subst hkl;rw [List.take_length] at h5 o5;have hb:(s.chans.filter (fun d=>d.obj != c.obj)).length+1≤1000000:=by have:=List.length_filter_le (fun d:RCh=>d.obj != c.obj) s.chans;omega
   simp only [↓evP,evB,stB,reduceIte,reduceCtorEq,seval,h6,g5,h5,o5,hb,pr99];refine ⟨fun h=>absurd h (by omega),fun _=>?_⟩;simp [RSt.setChannel,RCh.row,RSt.pa,RSt.row]
def R_lock (ps rs:List Pa):Prop:=∃ (s:RSt) (obj off:Int),ps=[s.pa,pI obj,pI off]∧s.locks.length≤1000000∧rs=[.agg (s.lock obj off).row]
theorem s_lock:Spec Try.prog 100 R_lock:=by
 refine sp100 EnvOK.e0 ?_;rintro ps rs ⟨s,obj,off,rfl,hlen,rfl⟩;refine ⟨by simp,?_⟩;unfold pc100;refine pwp_start ?_;simp only [↓evP,evB,stB,reduceIte,reduceCtorEq,Nat.reduceEqDiff,Nat.reduceAdd,Nat.reduceMul,Nat.reduceLeDiff,Nat.reduceLT,Nat.reduceSub,Nat.reduceBEq,RSt.pa,RSt.row];refine pwp_loopW ms100_0 os100_0 (fun m st=>∃ k:Nat,m=s.locks.length - k∧k≤s.locks.length∧(∀ i c,i < k→s.locks[i]? = some c→(c.obj == obj && c.off == off)=false)∧st.sl 7=aI k∧st.ob 6=.cells [.d (dI 0),.d (dI 0),.d (dB false),.d (dI 0)]∧st.gen 6=1) s.locks.length ?_ ?_
 ·exact ⟨0,rfl,Nat.zero_le _,fun i c hi=>absurd hi (Nat.not_lt_zero _),by simp only [stB,reduceIte,reduceCtorEq,Nat.reduceEqDiff,Nat.reduceAdd,Nat.reduceMul,Nat.reduceLeDiff,Nat.reduceLT,Nat.reduceSub,Nat.reduceBEq];rfl,by simp only [stB,reduceIte,reduceCtorEq,Nat.reduceEqDiff,Nat.reduceAdd,Nat.reduceMul,Nat.reduceLeDiff,Nat.reduceLT,Nat.reduceSub,Nat.reduceBEq],by simp only [stB,reduceIte,reduceCtorEq,Nat.reduceEqDiff,Nat.reduceAdd,Nat.reduceMul,Nat.reduceLeDiff,Nat.reduceLT,Nat.reduceSub,Nat.reduceBEq]⟩
 ·rintro m j ⟨k,rfl,hk,hno,h7,h6,g6⟩;simp only [stB,reduceIte,reduceCtorEq,seval] at h7 h6 g6
  rcases Nat.lt_or_ge k s.locks.length with hlt | hge
  ·obtain ⟨c,hc⟩:∃ c,s.locks[k]? = some c:=⟨_,List.getElem?_eq_getElem hlt⟩
   simp only [↓evP,evB,stB,reduceIte,reduceCtorEq,seval,h7,h6,g6,hc,RLk.row,pr100];refine ⟨fun _=>⟨fun e1=>⟨fun e2=>?_,fun e2=>?_⟩,fun e1=>?_⟩,fun h=>absurd hlt (by omega)⟩
   ·unfold RSt.lock;rw [find_hit hno hc (by rw [e1,e2];rfl)];rfl
   ·exact ⟨_,by omega,(by repeat' (first | assumption | exact within_over.mpr trivial | exact Within.refl _ _ _ | (refine within_ap ?_ rfl rfl) | (refine within_ap0 ?_ rfl))),k+1,rfl,by omega,no_succ hno hc (by rw [e2,Bool.and_false]),by simp only [stB,reduceIte,reduceCtorEq,seval,h7];rw [wrN (by omega)],by simp only [stB,reduceIte,reduceCtorEq,seval,h6],by simp only [stB,reduceIte,reduceCtorEq,seval,g6]⟩
   ·exact ⟨_,by omega,(by repeat' (first | assumption | exact within_over.mpr trivial | exact Within.refl _ _ _ | (refine within_ap ?_ rfl rfl) | (refine within_ap0 ?_ rfl))),k+1,rfl,by omega,no_succ hno hc (by rw [e1];rfl),by simp only [stB,reduceIte,reduceCtorEq,seval,h7];rw [wrN (by omega)],by simp only [stB,reduceIte,reduceCtorEq,seval,h6],by simp only [stB,reduceIte,reduceCtorEq,seval,g6]⟩
  ·simp only [↓evP,evB,stB,reduceIte,reduceCtorEq,seval,h7,h6,g6,pr100];refine ⟨fun h=>absurd h (by omega),fun h=>?_⟩;unfold RSt.lock;rw [find_miss (fun i c hi hc=>hno i c (by omega) hc)];rfl
def R_setLock (ps rs:List Pa):Prop:=∃ (s:RSt) (c:RLk),ps=[s.pa,.agg c.row]∧s.locks.length≤900000∧rs=[(s.setLock c).pa]
theorem s_setLock:Spec Try.prog 101 R_setLock:=by
 refine sp101 EnvOK.e0 ?_;rintro ps rs ⟨s,c,rfl,hlen,rfl⟩;refine ⟨by simp,?_⟩;unfold pc101;refine pwp_start ?_;simp only [↓evP,evB,stB,reduceIte,reduceCtorEq,Nat.reduceEqDiff,Nat.reduceAdd,Nat.reduceMul,Nat.reduceLeDiff,Nat.reduceLT,Nat.reduceSub,Nat.reduceBEq,RSt.pa,RSt.row,RLk.row];refine pwp_loopW ms101_0 os101_0 (fun m st=>∃ k:Nat,m=s.locks.length - k∧k≤s.locks.length∧st.sl 6=aI k∧st.gen 5=1∧st.sl 5=.b (.one (.own 5 1 (((s.locks.take k).filter (fun d=>d.obj != c.obj || d.off != c.off)).map RLk.row)))∧st.ob 5=.row 151 4 ((s.locks.take k).filter (fun d=>d.obj != c.obj || d.off != c.off)).length) s.locks.length ?_ ?_
 ·exact ⟨0,rfl,Nat.zero_le _,by simp only [stB,reduceIte,reduceCtorEq,Nat.reduceEqDiff,Nat.reduceAdd,Nat.reduceMul,Nat.reduceLeDiff,Nat.reduceLT,Nat.reduceSub,Nat.reduceBEq];rfl,by simp only [stB,reduceIte,reduceCtorEq,Nat.reduceEqDiff,Nat.reduceAdd,Nat.reduceMul,Nat.reduceLeDiff,Nat.reduceLT,Nat.reduceSub,Nat.reduceBEq],by simp only [stB,reduceIte,reduceCtorEq,Nat.reduceEqDiff,Nat.reduceAdd,Nat.reduceMul,Nat.reduceLeDiff,Nat.reduceLT,Nat.reduceSub,Nat.reduceBEq,List.filter_nil],by simp only [stB,reduceIte,reduceCtorEq,Nat.reduceEqDiff,Nat.reduceAdd,Nat.reduceMul,Nat.reduceLeDiff,Nat.reduceLT,Nat.reduceSub,Nat.reduceBEq,List.filter_nil]⟩
 ·rintro m j ⟨k,rfl,hk,h6,g5,h5,o5⟩;simp only [stB,reduceIte,reduceCtorEq,seval] at h6 g5 h5 o5
  rcases Nat.lt_or_ge k s.locks.length with hlt | hge
  ·obtain ⟨d,hd⟩:∃ d,s.locks[k]? = some d:=⟨_,List.getElem?_eq_getElem hlt⟩
   have hb:((s.locks.take k).filter (fun d=>d.obj != c.obj || d.off != c.off)).length+1≤1000000:=by have:=filter_take_le s.locks (fun d=>d.obj != c.obj || d.off != c.off) k;omega
   simp only [↓evP,evB,stB,reduceIte,reduceCtorEq,seval,h6,g5,h5,o5,hd,RLk.row,hb];refine ⟨fun _=>?_,fun h=>absurd hlt (by omega)⟩
   repeat' (first | apply And.intro | intro)
   all_goals first
    | (unfold Drw;kernel_rfl)
    | exact ⟨_,by omega,(by repeat' (first | assumption | exact within_over.mpr trivial | exact Within.refl _ _ _ | (refine within_ap ?_ rfl rfl) | (refine within_ap0 ?_ rfl))),k+1,rfl,by omega,by simp only [stB,reduceIte,reduceCtorEq,seval,h6];rw [wrN (by omega)],by simp only [stB,reduceIte,reduceCtorEq,seval,g5],by simp [stB,reduceIte,reduceCtorEq,seval,h5,filter_succ hd,RLk.row, *],by simp [stB,reduceIte,reduceCtorEq,seval,o5,filter_succ hd, *]⟩
    | skip
  ·have hkl:k=s.locks.length:=by omega
   subst hkl;rw [List.take_length] at h5 o5;have hb:(s.locks.filter (fun d=>d.obj != c.obj || d.off != c.off)).length+1≤1000000:=by have:=List.length_filter_le (fun d:RLk=>d.obj != c.obj || d.off != c.off) s.locks;omega
   simp only [↓evP,evB,stB,reduceIte,reduceCtorEq,seval,h6,g5,h5,o5,hb,pr101];refine ⟨fun h=>absurd h (by omega),fun _=>?_⟩;simp [RSt.setLock,RLk.row,RSt.pa,RSt.row]
def R_done (ps rs:List Pa):Prop:=∃ (s:RSt) (obj off:Int),ps=[s.pa,pI obj,pI off]∧s.done.length≤1000000∧rs=[pB (s.isDone obj off)]
theorem s_done:Spec Try.prog 102 R_done:=by
 refine sp102 EnvOK.e0 ?_;rintro ps rs ⟨s,obj,off,rfl,hlen,rfl⟩;refine ⟨by simp,?_⟩;unfold pc102;refine pwp_start ?_;simp only [↓evP,evB,stB,reduceIte,reduceCtorEq,Nat.reduceEqDiff,Nat.reduceAdd,Nat.reduceMul,Nat.reduceLeDiff,Nat.reduceLT,Nat.reduceSub,Nat.reduceBEq,RSt.pa,RSt.row];refine pwp_loopW ms102_0 os102_0 (fun m st=>∃ k:Nat,m=s.done.length - k∧k≤s.done.length∧(∀ i c,i < k→s.done[i]? = some c→(c.1 == obj && c.2 == off)=false)∧st.sl 7=aI k) s.done.length ?_ ?_
 ·exact ⟨0,rfl,Nat.zero_le _,fun i c hi=>absurd hi (Nat.not_lt_zero _),by simp only [stB,reduceIte,reduceCtorEq,Nat.reduceEqDiff,Nat.reduceAdd,Nat.reduceMul,Nat.reduceLeDiff,Nat.reduceLT,Nat.reduceSub,Nat.reduceBEq];rfl⟩
 ·rintro m j ⟨k,rfl,hk,hno,h7⟩;simp only [stB,reduceIte,reduceCtorEq,seval] at h7
  rcases Nat.lt_or_ge k s.done.length with hlt | hge
  ·obtain ⟨c,hc⟩:∃ c,s.done[k]? = some c:=⟨_,List.getElem?_eq_getElem hlt⟩
   simp only [↓evP,evB,stB,reduceIte,reduceCtorEq,seval,h7,hc,locRow,pr102];refine ⟨fun _=>⟨fun e1=>⟨fun e2=>?_,fun e2=>?_⟩,fun e1=>?_⟩,fun h=>absurd hlt (by omega)⟩
   ·unfold RSt.isDone;rw [List.any_eq_true.2 ⟨c,List.mem_of_getElem? hc,by rw [e1,e2];rfl⟩]
   ·exact ⟨_,by omega,(by repeat' (first | assumption | exact within_over.mpr trivial | exact Within.refl _ _ _ | (refine within_ap ?_ rfl rfl) | (refine within_ap0 ?_ rfl))),k+1,rfl,by omega,no_succ hno hc (by rw [e2,Bool.and_false]),by simp only [stB,reduceIte,reduceCtorEq,seval,h7];rw [wrN (by omega)]⟩
   ·exact ⟨_,by omega,(by repeat' (first | assumption | exact within_over.mpr trivial | exact Within.refl _ _ _ | (refine within_ap ?_ rfl rfl) | (refine within_ap0 ?_ rfl))),k+1,rfl,by omega,no_succ hno hc (by rw [e1];rfl),by simp only [stB,reduceIte,reduceCtorEq,seval,h7];rw [wrN (by omega)]⟩
  ·simp only [↓evP,evB,stB,reduceIte,reduceCtorEq,seval,h7,pr102];refine ⟨fun h=>absurd h (by omega),fun h=>?_⟩;unfold RSt.isDone;rw [any_miss (fun i c hi hc=>hno i c (by omega) hc)]
def env_counted:Env:=e1 97 R_channel (e1 99 R_setChannel e0)
theorem env_counted_ok:EnvOK Try.prog env_counted:=EnvOK.e1 s_channel (EnvOK.e1 s_setChannel EnvOK.e0)
theorem RSt.channel_bd {s:RSt} (h:s.ok) (obj n:Int):(0≤(s.channel obj n).sent∧(s.channel obj n).sent≤1000000)∧(0≤(s.channel obj n).recv∧(s.channel obj n).recv≤1000000):=by
 unfold RSt.channel
 cases hf:s.chans.find? (fun c=>c.obj == obj) with
 | none=>simp
 | some c=>exact h.ch.2 c (List.mem_of_find?_eq_some hf)
def R_counted (ps rs:List Pa):Prop:=∃ (s:RSt) (e:Ev),ps=[s.pa,e.pa]∧s.ok∧rs=[(s.counted e).pa]
theorem s_counted:Spec Try.prog 96 R_counted:=by
 refine sp96 env_counted_ok ?_;rintro ps rs ⟨s,e,rfl,hok,rfl⟩;refine ⟨by simp,?_⟩;obtain ⟨⟨c1,c2⟩,c3,c4⟩:=RSt.channel_bd hok e.obj e.n;unfold pc96;refine pwp_start ?_;simp only [↓evP,evB,stB,reduceIte,reduceCtorEq,seval,RSt.pa,RSt.row,Ev.pa,Ev.row];refine callOps_intro [.agg (s.channel e.obj e.n).row] ⟨s,e.obj,e.n,rfl,by have:=hok.ch.1;omega,rfl⟩ ?_
 simp only [↓evP,evB,stB,reduceIte,reduceCtorEq,seval,RCh.row,pr96];refine ⟨fun h15=>?_,fun h15=>⟨fun h17=>?_,fun h17=>?_⟩⟩
 ·rw [wr64 (by omega) (by omega)]
  refine callOps_intro [(s.setChannel { s.channel e.obj e.n with sent:=(s.channel e.obj e.n).sent+1 }).pa] ⟨s,{ s.channel e.obj e.n with sent:=(s.channel e.obj e.n).sent+1 },rfl,hok.ch.1,rfl⟩ ?_;simp only [↓evP,evB,stB,reduceIte,reduceCtorEq,seval,RSt.pa,RSt.row,pr96];unfold RSt.counted RCh.count;rw [if_pos (Or.inl (beq_iff_eq.1 h15)),if_pos (beq_iff_eq.1 h15)]
 ·rw [wr64 (by omega) (by omega)]
  refine callOps_intro [(s.setChannel { s.channel e.obj e.n with recv:=(s.channel e.obj e.n).recv+1 }).pa] ⟨s,{ s.channel e.obj e.n with recv:=(s.channel e.obj e.n).recv+1 },rfl,hok.ch.1,rfl⟩ ?_;simp only [↓evP,evB,stB,reduceIte,reduceCtorEq,seval,RSt.pa,RSt.row,pr96];unfold RSt.counted RCh.count;rw [if_pos (Or.inr (beq_iff_eq.1 h17)),if_neg (beq_eq_false_iff_ne.1 h15),if_pos (beq_iff_eq.1 h17)]
 ·unfold RSt.counted;rw [if_neg (fun h=>h.elim (beq_eq_false_iff_ne.1 h15) (beq_eq_false_iff_ne.1 h17))]
def R_begin (ps rs:List Pa):Prop:=∃ (s:RSt) (e:Ev) (next:List RWt),ps=[s.pa,e.pa,.one (.im (next.map RWt.row))]∧(s.ok∧next.length≤900000)∧rs=[(s.begin e next).pa,pB true]
def env_begin:Env:=e1 96 R_counted e0
theorem env_begin_ok:EnvOK Try.prog env_begin:=EnvOK.e1 s_counted EnvOK.e0
theorem s_begin:Spec Try.prog 98 R_begin:=by
 refine sp98 env_begin_ok ?_;rintro ps rs ⟨s,e,next,rfl,⟨hok,hn⟩,rfl⟩;refine ⟨by simp,?_⟩;unfold pc98;refine pwp_start ?_;simp only [↓evP,evB,stB,reduceIte,reduceCtorEq,seval,RSt.pa,RSt.row,Ev.pa,Ev.row];refine ⟨(by unfold Drw;kernel_rfl),?_⟩
 refine callOps_intro [(s.begin e next).pa] ⟨{ s with next:=next,obj:=e.obj,k:=e.k,n:=e.n },e,rfl,⟨hok.ct,hok.gr,hok.ch,hok.lk,hok.dn,hn⟩,rfl⟩ ?_;simp only [↓evP,evB,stB,reduceIte,reduceCtorEq,seval,RSt.pa,RSt.row,pr98]
def R_group (ps rs:List Pa):Prop:=∃ (s:RSt) (e:Ev),ps=[s.pa,e.pa]∧(s.ok∧s.next≠[])∧rs=[(s.groupR e).1.pa,pB (s.groupR e).2]
def env_group:Env:=e1 96 R_counted e0
theorem env_group_ok:EnvOK Try.prog env_group:=EnvOK.e1 s_counted EnvOK.e0
theorem group_tail {s:RSt} {e:Ev} {w:RWt} {rest:List RWt} (hok:s.ok) (hnx:s.next=w :: rest) (Q:Exit→St→Prop)
 (hQ:∀ st,st.res pr65=some [(RSt.counted { s with next:=rest.map (w.known e.g) } e).pa,pB true]→Q .ret st) (st:St)
 (h2:st.sl 2=.b (.one (.ptr 2 1 0))) (h3:st.sl 3=.b (.one (.ptr 3 1 0))) (h4:st.sl 4=.b (.one (.ptr 4 1 0))) (h6:st.sl 6=.b (.one (.ptr 6 1 0)))
 (g2:st.gen 2=1) (g3:st.gen 3=1) (g4:st.gen 4=1) (g6:st.gen 6=1) (g7:st.gen 7=0)
 (o2:st.ob 2=.cells (s.row.map .d)) (o3:st.ob 3=.cells (e.row.map .d)) (o4:st.ob 4=.cells [.d (dI 0),.d (dI 0),.d (.sc (.slice none 0 0)),.d (.sc (.slice none 0 0)),.d (.sc (.slice none 0 0)),.d (.sc (.slice none 0 0)),.d (dI 0),.d (dI 0),.d (dI 0)]) (o6:st.ob 6=.cells (w.row.map .d)) :
 pwp env_group pc65c2 (exS env_group [] Q) st:=by
 have hlen:=hok.nx;rw [hnx,List.length_cons] at hlen;simp only [RSt.row,Ev.row,RWt.row,hnx,List.map_cons,List.map_nil] at o2 o3 o4 o6;unfold pc65c2 pc65c1;simp only [↓evP,evB,stB,reduceIte,reduceCtorEq,Nat.reduceEqDiff,Nat.reduceAdd,Nat.reduceMul,Nat.reduceLeDiff,Nat.reduceLT,Nat.reduceSub,Nat.reduceBEq,h2,h3,h4,h6,g2,g3,g4,g6,g7,o2,o3,o4,o6];refine pwp_loopW ms65_0 os65_0 (fun m st=>∃ k:Nat,m=rest.length - k∧k≤rest.length∧st.sl 8=aI ((k+1:Nat):Int)∧st.gen 7=1∧st.sl 7=.b (.one (.own 7 1 ((rest.take k).map fun x=>(w.known e.g x).row)))∧st.ob 7=.row 143 3 k) rest.length ?_ ?_
 ·exact ⟨0,rfl,Nat.zero_le _,by simp only [stB,reduceIte,reduceCtorEq,Nat.reduceEqDiff,Nat.reduceAdd,Nat.reduceMul,Nat.reduceLeDiff,Nat.reduceLT,Nat.reduceSub,Nat.reduceBEq];rfl,by simp only [stB,reduceIte,reduceCtorEq,Nat.reduceEqDiff,Nat.reduceAdd,Nat.reduceMul,Nat.reduceLeDiff,Nat.reduceLT,Nat.reduceSub,Nat.reduceBEq,g7],by simp only [stB,reduceIte,reduceCtorEq,Nat.reduceEqDiff,Nat.reduceAdd,Nat.reduceMul,Nat.reduceLeDiff,Nat.reduceLT,Nat.reduceSub,Nat.reduceBEq,g7],by simp only [stB,reduceIte,reduceCtorEq,Nat.reduceEqDiff,Nat.reduceAdd,Nat.reduceMul,Nat.reduceLeDiff,Nat.reduceLT,Nat.reduceSub,Nat.reduceBEq]⟩
 ·rintro m j ⟨k,rfl,hk,h8,g7',h7,o7⟩;simp only [stB,reduceIte,reduceCtorEq,seval] at h8 g7' h7 o7
  rcases Nat.lt_or_ge k rest.length with hlt | hge
  ·obtain ⟨d,hd⟩:∃ d,rest[k]? = some d:=⟨_,List.getElem?_eq_getElem hlt⟩
   have hb:k+1≤1000000:=by omega
   have hb2:((k+1:Nat):Int) < ((rest.length+1:Nat):Int):=by omega
   have hb3:((k+1:Nat):Int)≥0:=by omega
   simp only [↓evP,evB,stB,reduceIte,reduceCtorEq,seval,h2,h3,h4,h6,g2,g3,g4,g6,o2,o3,o4,o6,h8,g7',h7,o7,hd,hb,hb2,hb3,RWt.row,List.length_take,Nat.min_eq_left hk]
   have hkn:∀ hw:w.g < 0,∀ hx:d.g < 0,w.known e.g d={ d with g:=e.g }:=fun hw hx=>if_pos ⟨hw,hx⟩
   have hkn2:¬ (w.g < 0∧d.g < 0)→w.known e.g d=d:=fun h=>if_neg h
   refine ⟨fun hw=>⟨fun hx=>?_,fun hx=>?_⟩,fun hw=>?_⟩
   ·exact ⟨_,by omega,(by repeat' (first | assumption | exact within_over.mpr trivial | exact Within.refl _ _ _ | (refine within_ap ?_ rfl rfl) | (refine within_ap0 ?_ rfl))),k+1,rfl,by omega,by simp only [stB,reduceIte,reduceCtorEq,seval,h8];rw [wrN (by omega)],by simp only [stB,reduceIte,reduceCtorEq,seval,g7'],by simp only [stB,reduceIte,reduceCtorEq,seval,h7,List.take_add_one,hd,Option.toList_some,List.map_append,hkn hw hx,RWt.row],by simp only [stB,reduceIte,reduceCtorEq,seval,o7]⟩
   ·exact ⟨_,by omega,(by repeat' (first | assumption | exact within_over.mpr trivial | exact Within.refl _ _ _ | (refine within_ap ?_ rfl rfl) | (refine within_ap0 ?_ rfl))),k+1,rfl,by omega,by simp only [stB,reduceIte,reduceCtorEq,seval,h8];rw [wrN (by omega)],by simp only [stB,reduceIte,reduceCtorEq,seval,g7'],by simp only [stB,reduceIte,reduceCtorEq,seval,h7,List.take_add_one,hd,Option.toList_some,List.map_append,hkn2 (fun h=>hx h.2),RWt.row],by simp only [stB,reduceIte,reduceCtorEq,seval,o7]⟩
   ·exact ⟨_,by omega,(by repeat' (first | assumption | exact within_over.mpr trivial | exact Within.refl _ _ _ | (refine within_ap ?_ rfl rfl) | (refine within_ap0 ?_ rfl))),k+1,rfl,by omega,by simp only [stB,reduceIte,reduceCtorEq,seval,h8];rw [wrN (by omega)],by simp only [stB,reduceIte,reduceCtorEq,seval,g7'],by simp only [stB,reduceIte,reduceCtorEq,seval,h7,List.take_add_one,hd,Option.toList_some,List.map_append,hkn2 (fun h=>hw h.1),RWt.row],by simp only [stB,reduceIte,reduceCtorEq,seval,o7]⟩
  ·have hkl:k=rest.length:=by omega
   subst hkl;rw [List.take_length] at h7;have hb2:¬ (((rest.length+1:Nat):Int) < ((rest.length+1:Nat):Int)):=by omega
   unfold pc65c0;simp only [↓evP,evB,stB,reduceIte,reduceCtorEq,seval,h2,h3,h4,h6,g2,g3,g4,g6,o2,o3,o4,o6,h8,g7',h7,o7,hb2]
   refine callOps_intro [(RSt.counted { s with next:=rest.map (w.known e.g) } e).pa] ⟨{ s with next:=rest.map (w.known e.g) },e,?_,⟨hok.ct,hok.gr,hok.ch,hok.lk,hok.dn,by simp;omega⟩,rfl⟩ ?_
   ·simp only [RSt.pa,RSt.row,Ev.pa,Ev.row,List.map_map];rfl
   ·simp only [↓evP,evB,stB,reduceIte,reduceCtorEq,seval,RSt.pa,RSt.row,h2,h3,h4,h6,g2,g3,g4,g6,o2,o3,o4,o6];refine hQ _ ?_;simp only [stB,reduceIte,reduceCtorEq,seval,pr65,RSt.pa,RSt.row,h2,h3,h4,h6,g2,g3,g4,g6,o2,o3,o4,o6]
theorem s_group:Spec Try.prog 65 R_group:=by
 refine sp65 env_group_ok ?_;rintro ps rs ⟨s,e,rfl,⟨hok,hn⟩,rfl⟩;refine ⟨by simp,?_⟩
 obtain ⟨w,rest,hnx⟩:∃ w rest,s.next=w :: rest:=by cases h:s.next with
  | nil=>exact absurd h hn
  | cons w l=>exact ⟨w,l,rfl⟩
 unfold pc65;refine pwp_start ?_;simp only [↓evP,evB,stB,reduceIte,reduceCtorEq,seval,RSt.pa,RSt.row,Ev.pa,Ev.row,hnx,RWt.row,Int.toNat_zero,Int.le_refl];refine pwp_fresh [2,3,4,5,6] [2,3,4,6,7] (fun st hs ho=>?_);simp only [stB,reduceIte,reduceCtorEq,seval] at hs ho;obtain ⟨h2,h3,h4,h5,h6⟩:=hs;obtain ⟨⟨g2,o2⟩,⟨g3,o3⟩,⟨g4,o4⟩,⟨g6,o6⟩,g7,o7⟩:=ho;unfold pc65c4 pc65c3
 cases hf:s.fits w e with
 | false =>
   have hg:s.groupR e=(s,false):=by unfold RSt.groupR;rw [hnx];dsimp only;rw [hf];rfl
   rw [hg];unfold RSt.fits at hf
   cases b1:(e.kind != w.kind) with
   | true=>simp only [↓evP,evB,stB,reduceIte,reduceCtorEq,seval,h2,h3,h4,h5,h6,g2,g3,g4,g6,o2,o3,o4,o6,RSt.pa,RSt.row,decide_true,decide_false,pr65,hnx,RWt.row,b1]
   | false =>
   cases b2:(e.obj != s.obj) with
   | true=>simp only [↓evP,evB,stB,reduceIte,reduceCtorEq,seval,h2,h3,h4,h5,h6,g2,g3,g4,g6,o2,o3,o4,o6,RSt.pa,RSt.row,decide_true,decide_false,pr65,hnx,RWt.row,b1,b2]
   | false =>
   cases b3:(e.k != s.k) with
   | true=>simp only [↓evP,evB,stB,reduceIte,reduceCtorEq,seval,h2,h3,h4,h5,h6,g2,g3,g4,g6,o2,o3,o4,o6,RSt.pa,RSt.row,decide_true,decide_false,pr65,hnx,RWt.row,b1,b2,b3]
   | false =>
   cases b4:(e.n != s.n) with
   | true=>simp only [↓evP,evB,stB,reduceIte,reduceCtorEq,seval,h2,h3,h4,h5,h6,g2,g3,g4,g6,o2,o3,o4,o6,RSt.pa,RSt.row,decide_true,decide_false,pr65,hnx,RWt.row,b1,b2,b3,b4]
   | false =>
   by_cases b5:w.g≥0
   ·have b6:¬ w.g < 0:=by omega
    cases b7:(e.g != w.g) with
    | true=>simp only [↓evP,evB,stB,reduceIte,reduceCtorEq,seval,h2,h3,h4,h5,h6,g2,g3,g4,g6,o2,o3,o4,o6,RSt.pa,RSt.row,decide_true,decide_false,pr65,hnx,RWt.row,b1,b2,b3,b4,b5,b6,b7]
    | false=>simp [b1,b2,b3,b4,b6,b7] at hf
   ·have b6:w.g < 0:=by omega
    cases b7:(e.g == w.not) with
    | true=>simp only [↓evP,evB,stB,reduceIte,reduceCtorEq,seval,h2,h3,h4,h5,h6,g2,g3,g4,g6,o2,o3,o4,o6,RSt.pa,RSt.row,decide_true,decide_false,pr65,hnx,RWt.row,b1,b2,b3,b4,b5,b6,b7]
    | false=>simp [b1,b2,b3,b4,b5,b6,b7] at hf
 | true =>
   have hg:s.groupR e=(RSt.counted { s with next:=rest.map (w.known e.g) } e,true):=by unfold RSt.groupR;rw [hnx];dsimp only;rw [hf];rfl
   rw [hg];unfold RSt.fits at hf;simp only [Bool.not_eq_true',Bool.or_eq_false_iff] at hf;obtain ⟨⟨b1,b2,b3,b4,b5⟩,b6⟩:=hf
   by_cases q:w.g≥0
   ·have q2:¬ w.g < 0:=by omega
    have b7:(e.g != w.g)=false:=by rw [decide_eq_true (show 0≤w.g from q)] at b5;simpa using b5
    simp only [↓evP,evB,stB,reduceIte,reduceCtorEq,seval,h2,h3,h4,h5,h6,g2,g3,g4,g6,o2,o3,o4,o6,decide_true,decide_false,b1,b2,b3,b4,q,q2,b7]
    exact group_tail hok hnx _ (fun st' h=>⟨.inr rfl,h⟩) _ (by simp only [stB,reduceIte,reduceCtorEq,seval,h2]) (by simp only [stB,reduceIte,reduceCtorEq,seval,h3]) (by simp only [stB,reduceIte,reduceCtorEq,seval,h4]) (by simp only [stB,reduceIte,reduceCtorEq,seval,h6]) (by simp only [stB,reduceIte,reduceCtorEq,seval,g2]) (by simp only [stB,reduceIte,reduceCtorEq,seval,g3]) (by simp only [stB,reduceIte,reduceCtorEq,seval,g4]) (by simp only [stB,reduceIte,reduceCtorEq,seval,g6]) (by simp only [stB,reduceIte,reduceCtorEq,seval,g7])
     (by simp only [stB,reduceIte,reduceCtorEq,seval,o2,RSt.row,hnx,RWt.row]) (by simp only [stB,reduceIte,reduceCtorEq,seval,o3,Ev.row]) (by simp only [stB,reduceIte,reduceCtorEq,seval,o4]) (by simp only [stB,reduceIte,reduceCtorEq,seval,o6,RWt.row])
   ·have q2:w.g < 0:=by omega
    have b7:(e.g == w.not)=false:=by rw [decide_eq_true q2] at b6;simpa using b6
    simp only [↓evP,evB,stB,reduceIte,reduceCtorEq,seval,h2,h3,h4,h5,h6,g2,g3,g4,g6,o2,o3,o4,o6,decide_true,decide_false,b1,b2,b3,b4,q,q2,b7]
    exact group_tail hok hnx _ (fun st' h=>⟨.inr rfl,h⟩) _ (by simp only [stB,reduceIte,reduceCtorEq,seval,h2]) (by simp only [stB,reduceIte,reduceCtorEq,seval,h3]) (by simp only [stB,reduceIte,reduceCtorEq,seval,h4]) (by simp only [stB,reduceIte,reduceCtorEq,seval,h6]) (by simp only [stB,reduceIte,reduceCtorEq,seval,g2]) (by simp only [stB,reduceIte,reduceCtorEq,seval,g3]) (by simp only [stB,reduceIte,reduceCtorEq,seval,g4]) (by simp only [stB,reduceIte,reduceCtorEq,seval,g6]) (by simp only [stB,reduceIte,reduceCtorEq,seval,g7])
     (by simp only [stB,reduceIte,reduceCtorEq,seval,o2,RSt.row,hnx,RWt.row]) (by simp only [stB,reduceIte,reduceCtorEq,seval,o3,Ev.row]) (by simp only [stB,reduceIte,reduceCtorEq,seval,o4]) (by simp only [stB,reduceIte,reduceCtorEq,seval,o6,RWt.row])
theorem bne_of {a b:Int} (h:(a == b)=false):¬ a=b:=beq_eq_false_iff_ne.1 h
theorem RSt.lock_bd {s:RSt} (h:s.ok) (obj off:Int):0≤(s.lock obj off).readers∧(s.lock obj off).readers≤1000000:=by
 unfold RSt.lock
 cases hf:s.locks.find? (fun c=>c.obj == obj && c.off == off) with
 | none=>simp
 | some c=>exact h.lk.2 c (List.mem_of_find?_eq_some hf)
def R_other (ps rs:List Pa):Prop:=∃ (s:RSt) (e:Ev),ps=[s.pa,e.pa]∧s.ok∧rs=[(s.otherR e).1.pa,pB (s.otherR e).2]
def env_other:Env:=e1 100 R_lock (e1 101 R_setLock (e1 102 R_done e0))
theorem env_other_ok:EnvOK Try.prog env_other:=EnvOK.e1 s_lock (EnvOK.e1 s_setLock (EnvOK.e1 s_done EnvOK.e0))
theorem s_other:Spec Try.prog 68 R_other:=by
 refine sp68 env_other_ok ?_;rintro ps rs ⟨s,e,rfl,hok,rfl⟩;refine ⟨by simp,?_⟩;obtain ⟨c3,c4⟩:=RSt.lock_bd hok e.obj e.off;unfold pc68;refine pwp_start ?_;simp only [↓evP,evB,stB,reduceIte,reduceCtorEq,seval,RSt.pa,RSt.row,Ev.pa,Ev.row];refine callOps_intro [.agg (s.lock e.obj e.off).row] ⟨s,e.obj,e.off,rfl,by have:=hok.lk.1;omega,rfl⟩ ?_
 cases k6:(e.kind == 6) with
 | true =>
   have hg:s.otherR e=(s.setLock { s.lock e.obj e.off with locked:=true },!(s.lock e.obj e.off).locked && (s.lock e.obj e.off).readers == 0):=by unfold RSt.otherR;rw [if_pos (beq_iff_eq.1 k6)]
   rw [hg];simp only [↓evP,evB,stB,reduceIte,reduceCtorEq,seval,RLk.row,pr68,k6]
   refine callD_intro [(s.setLock { s.lock e.obj e.off with locked:=true }).pa] ⟨s,{ s.lock e.obj e.off with locked:=true },rfl,hok.lk.1,rfl⟩ ?_
   cases b1:(s.lock e.obj e.off).locked with
   | true =>
     simp only [↓evP,evB,stB,reduceIte,reduceCtorEq,seval,RLk.row,pr68,k6,RSt.pa,RSt.row,b1]
     (unfold Drw;kernel_rfl)
   | false =>
     simp only [↓evP,evB,stB,reduceIte,reduceCtorEq,seval,RLk.row,pr68,k6,RSt.pa,RSt.row,b1]
     (unfold Drw;kernel_rfl)
 | false =>
 cases k7:(e.kind == 7) with
 | true =>
   have hg:s.otherR e=(s.setLock { s.lock e.obj e.off with locked:=false },(s.lock e.obj e.off).locked):=by unfold RSt.otherR;rw [if_neg (bne_of k6),if_pos (beq_iff_eq.1 k7)]
   rw [hg];simp only [↓evP,evB,stB,reduceIte,reduceCtorEq,seval,RLk.row,pr68,k6,k7]
   refine callOps_intro [(s.setLock { s.lock e.obj e.off with locked:=false }).pa] ⟨s,{ s.lock e.obj e.off with locked:=false },rfl,hok.lk.1,rfl⟩ ?_;simp only [↓evP,evB,stB,reduceIte,reduceCtorEq,seval,RLk.row,pr68,k6,k7,RSt.pa,RSt.row,Bool.not_not]
 | false =>
 cases k8:(e.kind == 8) with
 | true =>
   have hg:s.otherR e=(s.setLock { s.lock e.obj e.off with readers:=(s.lock e.obj e.off).readers+1 },!(s.lock e.obj e.off).locked):=by unfold RSt.otherR;rw [if_neg (bne_of k6),if_neg (bne_of k7),if_pos (beq_iff_eq.1 k8)]
   rw [hg];simp only [↓evP,evB,stB,reduceIte,reduceCtorEq,seval,RLk.row,pr68,k6,k7,k8];rw [wr64 (by omega) (by omega)]
   refine callOps_intro [(s.setLock { s.lock e.obj e.off with readers:=(s.lock e.obj e.off).readers+1 }).pa] ⟨s,{ s.lock e.obj e.off with readers:=(s.lock e.obj e.off).readers+1 },rfl,hok.lk.1,rfl⟩ ?_;simp only [↓evP,evB,stB,reduceIte,reduceCtorEq,seval,RLk.row,pr68,k6,k7,k8,RSt.pa,RSt.row]
 | false =>
 cases k9:(e.kind == 9) with
 | true =>
   have hg:s.otherR e=(s.setLock { s.lock e.obj e.off with readers:=(s.lock e.obj e.off).readers - 1 },decide (0≤(s.lock e.obj e.off).readers - 1)):=by unfold RSt.otherR;rw [if_neg (bne_of k6),if_neg (bne_of k7),if_neg (bne_of k8),if_pos (beq_iff_eq.1 k9)]
   rw [hg];simp only [↓evP,evB,stB,reduceIte,reduceCtorEq,seval,RLk.row,pr68,k6,k7,k8,k9];rw [wr64 (by omega) (by omega)]
   refine callD_intro [(s.setLock { s.lock e.obj e.off with readers:=(s.lock e.obj e.off).readers - 1 }).pa] ⟨s,{ s.lock e.obj e.off with readers:=(s.lock e.obj e.off).readers - 1 },rfl,hok.lk.1,rfl⟩ ?_;simp only [↓evP,evB,stB,reduceIte,reduceCtorEq,seval,RLk.row,pr68,k6,k7,k8,k9,RSt.pa,RSt.row]
   (unfold Drw;kernel_rfl)
 | false =>
 cases k12:(e.kind == 12) with
 | true =>
   have hg:s.otherR e=({ s with done:=s.done ++ [(e.obj,e.off)] },!s.isDone e.obj e.off):=by unfold RSt.otherR;rw [if_neg (bne_of k6),if_neg (bne_of k7),if_neg (bne_of k8),if_neg (bne_of k9),if_pos (beq_iff_eq.1 k12)]
   rw [hg];simp only [↓evP,evB,stB,reduceIte,reduceCtorEq,seval,RLk.row,pr68,k6,k7,k8,k9,k12];refine callOps_intro [pB (s.isDone e.obj e.off)] ⟨s,e.obj,e.off,rfl,by have:=hok.dn;omega,rfl⟩ ?_
   have hd1:s.done.length≤1000000:=by have:=hok.dn;omega
   have hd2:s.done.length+1≤1000000:=by have:=hok.dn;omega
   simp only [↓evP,evB,stB,reduceIte,reduceCtorEq,seval,RLk.row,pr68,k6,k7,k8,k9,k12,RSt.pa,RSt.row,rows_len (f:=locRow) (n:=2) (fun _=>rfl) s.done,hd1,hd2];refine ⟨(by unfold Drw;kernel_rfl),?_⟩
   simp only [↓evP,evB,stB,reduceIte,reduceCtorEq,seval,List.map_append,locRow,pr68]
 | false =>
 cases k13:(e.kind == 13) with
 | true =>
   have hg:s.otherR e=(s,s.isDone e.obj e.off):=by unfold RSt.otherR;rw [if_neg (bne_of k6),if_neg (bne_of k7),if_neg (bne_of k8),if_neg (bne_of k9),if_neg (bne_of k12),if_pos (beq_iff_eq.1 k13)]
   rw [hg];simp only [↓evP,evB,stB,reduceIte,reduceCtorEq,seval,RLk.row,pr68,k6,k7,k8,k9,k12,k13];refine callD_intro [pB (s.isDone e.obj e.off)] ⟨s,e.obj,e.off,rfl,by have:=hok.dn;omega,rfl⟩ ?_
   simp only [↓evP,evB,stB,reduceIte,reduceCtorEq,seval,RLk.row,pr68,k6,k7,k8,k9,k12,k13,RSt.pa,RSt.row]
   (unfold Drw;kernel_rfl)
 | false =>
 cases k14:(e.kind == 14) with
 | true =>
   have hg:s.otherR e=({ s with gor:=s.gor+1 },e.k == s.gor):=by unfold RSt.otherR;rw [if_neg (bne_of k6),if_neg (bne_of k7),if_neg (bne_of k8),if_neg (bne_of k9),if_neg (bne_of k12),if_neg (bne_of k13),if_pos (beq_iff_eq.1 k14)]
   rw [hg];simp only [↓evP,evB,stB,reduceIte,reduceCtorEq,seval,RLk.row,pr68,k6,k7,k8,k9,k12,k13,k14];rw [wr64 (by have:=hok.gr;omega) (by have:=hok.gr;omega)]
   simp only [RSt.pa,RSt.row];exact ⟨(by unfold Drw;kernel_rfl),trivial⟩
 | false =>
   have hg:s.otherR e=(s,true):=by unfold RSt.otherR;rw [if_neg (bne_of k6),if_neg (bne_of k7),if_neg (bne_of k8),if_neg (bne_of k9),if_neg (bne_of k12),if_neg (bne_of k13),if_neg (bne_of k14)]
   rw [hg];simp only [↓evP,evB,stB,reduceIte,reduceCtorEq,seval,RLk.row,pr68,k6,k7,k8,k9,k12,k13,k14,RSt.pa,RSt.row]
end Go.Proofs.Ytffcpijeebagfaa
end
