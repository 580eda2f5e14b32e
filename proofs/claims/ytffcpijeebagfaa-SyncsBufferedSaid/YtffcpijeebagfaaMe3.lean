/- How a plain reading is evaluated, step by step. -/
import Derived.Test.YtffcpijeebagfaaMe2
import Derived.IntWalk
import Derived.Below
set_option linter.unusedSimpArgs false
set_option linter.unusedVariables false
section
namespace Go.Proofs.Ytffcpijeebagfaa
open Go Go.RowKit
theorem nrfl {α:Sort _} {a b:α} (h:a=b):a=b:=h
section
variable {env:Env} {K:St→Prop} {is:List PI} {s:St} {d:Option Nat} {af:List Nat}
def contOps (env:Env) (K:St→Prop) (is:List PI) (s:St) (d:Option Nat) (o:Option (Av×Cg)):Prop:=withSome o fun p=>evalOps env is (s.ap d p.1 p.2) K
theorem contOps_some {v:Av} {ch:Cg}:contOps env K is s d (some (v,ch))=evalOps env is (s.ap d v ch) K:=nrfl rfl
def callOps (env:Env) (K:St→Prop) (is:List PI) (s:St) (d:Option Nat) (f:Nat) (o:Option (List Pa)):Prop:=withSome o fun ps=>(∃ rs,env.d f ps rs∧evalOps env is (s.ap d (resAv rs) .no) K)∨(∃ H rs,env.a f none ps H rs∧evalOps env is (s.ap d (newAv (d.getD 0) (s.gen (d.getD 0)+1) rs) (.new (d.getD 0) (.ab H))) K)
theorem callOps_intro {f:Nat} {ps:List Pa} (rs:List Pa) (h:env.d f ps rs) (k:evalOps env is (s.ap d (resAv rs) .no) K):callOps env K is s d f (some ps):=.inl ⟨rs,h,k⟩
def methOps (env:Env) (K:St→Prop) (is:List PI) (s:St) (d:Option Nat) (f o:Nat) (oh:Option HP) (oa:Option (List Pa)):Prop:=withSome oa fun ps=>withSome oh fun H =>
 (∃ H' rs,env.a f (some H) ps H' rs∧evalOps env is (s.ap d (resAv rs) (.ab o H')) K)∨(∃ H2,ps=[]∧env.c f H H2∧evalOps env is (s.ap d (.b (.one (.ab (d.getD 0) (s.gen (d.getD 0)+1)))) (.new (d.getD 0) (.ab H2))) K)
def mutOps (env:Env) (K:St→Prop) (is:List PI) (s:St) (d:Option Nat) (f o:Nat) (od:Option (List Dt)) (oa:Option (List Pa)):Prop:=withSome oa fun ps=>withSome od fun ds=>∃ ds' rs,env.m f ds ps ds' rs∧ds'.length=ds.length∧evalOps env is (s.ap d (resAv rs) (.wr o 0 (ds'.map .d))) K
def callR (env:Env) (K:St→Prop) (is:List PI) (s:St) (d:Option Nat) (f:Nat) (xs:List PX):Option (Nat×Nat)→Option (Nat×Nat)→Prop
 | some (o,g),_=>methOps env K is s d f o (s.abAt o g) (s.args xs.tail)
 | none,some (o,g)=>mutOps env K is s d f o (s.cellsAt o g) (s.args xs.tail)
 | none,none=>callOps env K is s d f (s.args xs)
theorem callR_none {f:Nat} {xs:List PX}:callR env K is s d f xs none none=callOps env K is s d f (s.args xs):=nrfl rfl
theorem callR_ptr {f o g:Nat} {xs:List PX}:callR env K is s d f xs none (some (o,g))=mutOps env K is s d f o (s.cellsAt o g) (s.args xs.tail):=nrfl rfl
theorem callR_some {f o g:Nat} {xs:List PX} {p:Option (Nat×Nat)}:callR env K is s d f xs (some (o,g)) p=methOps env K is s d f o (s.abAt o g) (s.args xs.tail):=nrfl rfl
theorem recv_nil:s.recv []=none:=nrfl rfl
theorem recv_cons {x:PX} {xs:List PX}:s.recv (x :: xs)=(s.ev x).abOf:=nrfl rfl
theorem prcv_nil:s.prcv []=none:=nrfl rfl
theorem prcv_cons {x:PX} {xs:List PX}:s.prcv (x :: xs)=(s.ev x).ptrOf:=nrfl rfl
theorem cellsAt_ob {o g:Nat}:s.cellsAt o g=if s.gen o=g then (match s.ob o with | .cells cs=>if cs.length≤1000000 then allSome (cs.map Cl.dt) else none | _=>none) else none:=nrfl rfl
theorem abAt_ob {o g:Nat}:s.abAt o g=if s.gen o=g then (match s.ob o with | .ab H=>some H | _=>none) else none:=nrfl rfl
theorem ap_genb {v:Av} {o:Nat} {H:HP}:(s.ap d v (.ab o H)).gen=s.gen:=nrfl rfl
theorem ap_obb {v:Av} {o:Nat} {H:HP}:(s.ap d v (.ab o H)).ob=up s.ob o (.ab H):=nrfl rfl
def guardOps (env:Env) (K:St→Prop) (is:List PI) (s:St) (d:Option Nat) (op:PO) (t:Nat) (want:Bool):Option (Option Bool)→Prop
 | none=>False
 | some none=>evalOps env is (s.ap d skp .no) K
 | some (some b)=>(b=want→evalOps env (⟨d,op,none,[]⟩ :: is) (s.ap (some t) (scAv (.bool want)) .no) K)∧(b=!want→evalOps env is ((s.ap (some t) (scAv (.bool !want)) .no).ap d skp .no) K)
theorem guardOps_skp {op:PO} {t:Nat} {want:Bool}:guardOps env K is s d op t want (some none)=evalOps env is (s.ap d skp .no) K:=nrfl rfl
theorem guardOps_some {op:PO} {t:Nat} {want b:Bool}:guardOps env K is s d op t want (some (some b))=((b=want→evalOps env (⟨d,op,none,[]⟩ :: is) (s.ap (some t) (scAv (.bool want)) .no) K)∧(b=!want→evalOps env is ((s.ap (some t) (scAv (.bool !want)) .no).ap d skp .no) K)):=nrfl rfl
theorem gd_boo {t:Nat} {b:Bool} (h:s.gd t=some (some b)):s.boo (.t t)=some b:=by
 unfold St.gd at h;split at h
 ·cases h
 ·rw [Option.map_eq_some_iff] at h;obtain ⟨c,hc,h⟩:=h;cases h;exact hc
theorem some_ne {b want:Bool}:(some b≠some want)↔b=!want:=by cases b <;> cases want <;> simp
theorem boo_self {t:Nat} {b:Bool} (h:s.boo (.t t)=some b):s.ap (some t) (scAv (.bool b)) .no=s:=by
 have h1:s.sl t=scAv (.bool b):=by
  unfold St.boo at h;split at h
  ·rename_i c hc;cases h;exact hc
  ·cases h
 have h2:up s.sl t (scAv (.bool b))=s.sl:=by
  funext x
  rw [up_at];split
  ·rename_i hx;rw [hx,h1]
  ·rfl
 show (⟨up s.sl t (scAv (.bool b)),s.gen,s.ob,s.nc⟩:St)=s
 rw [h2]
theorem evalOps_nil:evalOps env [] s K=K s:=nrfl rfl
theorem evalOps_fn {op:PO} (h:op.isCall=false):evalOps env (⟨d,op,none,af⟩ :: is) s K=contOps env K is s d (op.fn s (d.getD 0)):=by
 change PO.go env s (d.getD 0) (fun v ch=>evalOps env is (s.ap d v ch) K) op=_
 rw [PO.go_fn h];rfl
def callV (env:Env) (K:St→Prop) (is:List PI) (s:St) (d:Option Nat) (f:Nat) (xs:List PX):Option Unit→Prop
 | some _=>callR env K is s d f xs (s.recv xs) (s.prcv xs)
 | none=>False
theorem callV_some {f:Nat} {xs:List PX} {u:Unit}:callV env K is s d f xs (some u)=callR env K is s d f xs (s.recv xs) (s.prcv xs):=nrfl rfl
def ldgV (env:Env) (K:St→Prop) (is:List PI) (s:St) (d:Option Nat):Option Value→Prop
 | some v=>evalOps env is (s.ap d (scAv v) .no) K
 | none=>False
theorem ldgV_some {v:Value}:ldgV env K is s d (some v)=evalOps env is (s.ap d (scAv v) .no) K:=nrfl rfl
theorem fnIsSelf {f:Nat}:fnIs f (some (.func (.func f) #[] #[]))=some ():=fnIs_mk
theorem gAtPtr {g k:Nat}:gAt env (some (.pointer (some ⟨g,k,none⟩)))=env.t g k:=nrfl rfl
def halS (env:Env) (K:St→Prop) (is:List PI) (s:St) (d:Option Nat) (c:Nat) (k:HA):Prop:=halG s c (fun v ch=>evalOps env is (s.ap d v ch) K) k
theorem halS_new {c:Nat} {z:List Value} (b:Nat) (h:s.lay c b) (k:evalOps env is (s.ap d (.b (.one (.hv (.p b 0)))) (.hw (HBS+c) [(b,.cells (z.map fun v=>.d (.sc v)))])) K):halS env K is s d c (.new z):=⟨b,h,k⟩
theorem halS_box {c:Nat} {x:PX} {cs:List Cl} {hs:List Hc} (b:Nat) (h:s.lay c b) (h1:s.cs x=some cs) (h2:hcs cs=some hs) (k:evalOps env is (s.ap d (.b (.one (.hv (.p b 0)))) (.hw (HBS+c) [(b,.cells hs)])) K):halS env K is s d c (.box x) :=
 withSome_iff.2 ⟨hs,by rw [h1];exact h2,b,h,k⟩
theorem halS_map {c t:Nat} (b:Nat) (h:s.lay c b) (h1:Maps.Keyed Try.prog t) (k:evalOps env is (s.ap d (.b (.one (.hv (.m b)))) (.hw (HBS+c) [(b,.map t [] 0)])) K):halS env K is s d c (.map t):=⟨h1,b,h,k⟩
theorem halS_range {c t clock bm:Nat} {es:List (Value×Nat×Hw)} {m:PX} (b:Nat) (h:s.lay c b) (h1:s.cl m=.hv (.m bm)) (h2:s.hb bm=.map t es clock) (k:evalOps env is (s.ap d (.b (.one (.hv (.p b 0)))) (.hw (HBS+c) [(b,.iter bm clock [] clock)])) K):halS env K is s d c (.range m) :=
 withSome_iff.2 ⟨bm,by rw [h1];rfl,withSome_iff.2 ⟨clock,by rw [h2];rfl,b,h,k⟩⟩
def nextS (env:Env) (K:St→Prop) (is:List PI) (s:St) (d:Option Nat) (x:Cl):Prop:=nextG s x (fun v ch=>evalOps env is (s.ap d v ch) K)
theorem nextS_intro {r b since c0 t clock:Nat} {seen:List Nat} {es:List (Value×Nat×Hw)} (h1:s.hb r=.iter b since seen c0) (h2:s.hb b=.map t es clock) (h3:(∀ e ∈ es,e.2.1 < since)∧since≤c0∧since≤clock)
 (h4:(∀ e ∈ es,seen.contains e.2.1=true)→evalOps env is (s.ap d (.tup [bvB false]) .no) K)
 (h5:∀ e ∈ es,seen.contains e.2.1=false→evalOps env is (s.ap d (.tup [bvB true,valBv e.1,e.2.2.bv]) (.hw (HBS+s.nc r) [(r,.iter b since (seen ++ [e.2.1]) clock)])) K):nextS env K is s d (.hv (.p r 0)) :=
 withSome_iff.2 ⟨(b,since,seen,c0),by rw [h1];rfl,withSome_iff.2 ⟨(es,clock),by rw [h2];rfl,h3,h4,h5⟩⟩
def callHS (env:Env) (K:St→Prop) (is:List PI) (s:St) (d:Option Nat) (f:Nat) (oa:Option (List Hw)):Prop:=withSome oa fun az=>callHG env s (fun v ch=>evalOps env is (s.ap d v ch) K) f az
theorem callHS_intro {f:Nat} {az:List Hw} (hp':Nat→Hb) (rs:List Hw) (h:env.h f s.hb az hp' rs) (k:evalOps env is (s.ap d (resH rs) (.hall hp')) K):callHS env K is s d f (some az):=⟨hp',rs,h,k⟩
def callPS (env:Env) (K:St→Prop) (is:List PI) (s:St) (d:Option Nat) (f:Nat) (oa:Option (List Hw)):Prop:=withSome oa fun az=>callPG env s (fun v ch=>evalOps env is (s.ap d v ch) K) f az
theorem callPS_intro {f:Nat} {az:List Hw} (Post:(Nat→Hb)→List Hw→Prop) (h:env.p f s.hb az Post) (k:∀ hp' rs,Post hp' rs→evalOps env is (s.ap d (resH rs) (.hall hp')) K):callPS env K is s d f (some az):=⟨Post,h,k⟩
def callCS (env:Env) (K:St→Prop) (is:List PI) (s:St) (d:Option Nat) (f:Nat) (of:Option (List (Nat×Nat)×List (Nat×Nat))) (oa:Option (List Hw)):Prop:=withSome of fun p=>withSome oa fun az=>callHG env s (fun v ch=>evalOps env is (s.ap d v ch) K) f (hpsW p.1 ++ az ++ hpsW p.2)
theorem callCS_some {f:Nat} {az:List Hw} {a c:List (Nat×Nat)}:callCS env K is s d f (some (a,c)) (some az)=callHS env K is s d f (some (hpsW a ++ az ++ hpsW c)):=nrfl rfl
theorem fnOf_self {f:Nat} {a c:List (Nat×Nat)}:fnOf f (.hv (.f f a c))=some (a,c):=by simp [fnOf]
theorem hpsW_nil:hpsW []=[]:=nrfl rfl
theorem hpsW_cons {p:Nat×Nat} {l:List (Nat×Nat)}:hpsW (p :: l)=.one (.h (.p p.1 p.2)) :: hpsW l:=nrfl rfl
theorem hws_nil:s.hws []=some []:=nrfl rfl
theorem hws_cons {x:PX} {xs:List PX}:s.hws (x :: xs)=(match s.hw x with | some p=>(s.hws xs).map (p :: ·) | none=>none):=by
 unfold St.hws;simp only [List.map_cons];cases s.hw x <;> rfl
theorem hw_evq {x:PX}:s.hw x=(s.ev x).hw:=nrfl rfl
def opS (env:Env) (K:St→Prop) (is:List PI) (s:St) (d:Option Nat) (b:Bool) (op:PO):Prop:=match b with
 | true=>(match op with | .call f xs=>callR env K is s d f xs (s.recv xs) (s.prcv xs) | .callv x f xs=>callV env K is s d f xs (fnIs f (s.val x)) | .ldg x=>ldgV env K is s d (gAt env (s.val x)) | .hal c k=>halS env K is s d c k | .next x=>nextS env K is s d (s.cl x) | .callh f xs=>callHS env K is s d f (s.hws xs) | .callp f xs=>callPS env K is s d f (s.hws xs) | .callc x f xs=>callCS env K is s d f (fnOf f (s.cl x)) (s.hws xs) | _=>False)
 | false=>contOps env K is s d (op.fn s (d.getD 0))
theorem opS_false {op:PO}:opS env K is s d false op=contOps env K is s d (op.fn s (d.getD 0)):=nrfl rfl
theorem opS_true {f:Nat} {xs:List PX}:opS env K is s d true (.call f xs)=callR env K is s d f xs (s.recv xs) (s.prcv xs):=nrfl rfl
theorem opS_callv {x:PX} {f:Nat} {xs:List PX}:opS env K is s d true (.callv x f xs)=callV env K is s d f xs (fnIs f (s.val x)):=nrfl rfl
theorem opS_ldg {x:PX}:opS env K is s d true (.ldg x)=ldgV env K is s d (gAt env (s.val x)):=nrfl rfl
theorem opS_hal {c:Nat} {k:HA}:opS env K is s d true (.hal c k)=halS env K is s d c k:=nrfl rfl
theorem opS_next {x:PX}:opS env K is s d true (.next x)=nextS env K is s d (s.cl x):=nrfl rfl
theorem opS_callh {f:Nat} {xs:List PX}:opS env K is s d true (.callh f xs)=callHS env K is s d f (s.hws xs):=nrfl rfl
theorem opS_callp {f:Nat} {xs:List PX}:opS env K is s d true (.callp f xs)=callPS env K is s d f (s.hws xs):=nrfl rfl
theorem opS_callc {x:PX} {f:Nat} {xs:List PX}:opS env K is s d true (.callc x f xs)=callCS env K is s d f (fnOf f (s.cl x)) (s.hws xs):=nrfl rfl
theorem evalOps_op {op:PO}:evalOps env (⟨d,op,none,af⟩ :: is) s K=opS env K is s d op.isCall op:=by
 cases hc:op.isCall with
 | true =>
   cases op <;> first
    | (cases hc;done)
    | (rename_i f xs
       show callG env s (d.getD 0) (fun v ch=>evalOps env is (s.ap d v ch) K) f xs (s.recv xs) (s.prcv xs)=callR env K is s d f xs (s.recv xs) (s.prcv xs)
       cases s.recv xs <;> cases s.prcv xs <;> rfl)
    | (rename_i x f xs
       show withSome (fnIs f (s.val x)) (fun _=>callG env s (d.getD 0) (fun v ch=>evalOps env is (s.ap d v ch) K) f xs (s.recv xs) (s.prcv xs))=callV env K is s d f xs (fnIs f (s.val x))
       cases fnIs f (s.val x) with
       | none=>rfl
       | some _ =>
         show callG env s (d.getD 0) (fun v ch=>evalOps env is (s.ap d v ch) K) f xs (s.recv xs) (s.prcv xs)=callR env K is s d f xs (s.recv xs) (s.prcv xs)
         cases s.recv xs <;> cases s.prcv xs <;> rfl)
    | (rename_i x
       show withSome (gAt env (s.val x)) (fun v=>evalOps env is (s.ap d (scAv v) .no) K)=ldgV env K is s d (gAt env (s.val x))
       cases gAt env (s.val x) <;> rfl)
    | rfl
 | false=>rw [opS_false,evalOps_fn hc]
theorem evalOps_guard {op:PO} {t:Nat} {want:Bool}:evalOps env (⟨d,op,some (t,want),af⟩ :: is) s K=guardOps env K is s d op t want (s.gd t):=by
 change withSome (s.gd t) _=guardOps env K is s d op t want (s.gd t)
 cases h:s.gd t with
 | none=>rfl
 | some b =>
   cases b with
   | none=>exact propext ⟨fun k=>k.2 (by simp),fun k=>⟨fun e=>(by simp at e),fun _=>k⟩⟩
   | some b =>
     have hb:=boo_self (gd_boo h);rw [guardOps_some]
     show ((some b=some want→_)∧(some b≠some want→_))=_
     rw [some_ne,Option.some.injEq]
     congr 1
     ·apply propext
      refine forall_congr' fun he=>?_
      subst he;rw [hb];rfl
     ·apply propext
      refine forall_congr' fun he=>?_
      rw [←he,hb]
theorem evalOps_gT {op:PO} {t:Nat} {want:Bool} (h:s.gd t=some (some want)):evalOps env (⟨d,op,some (t,want),af⟩ :: is) s K=evalOps env (⟨d,op,none,[]⟩ :: is) s K:=by
 rw [evalOps_guard,h,guardOps_some,boo_self (gd_boo h)];exact propext ⟨fun k=>k.1 rfl,fun k=>⟨fun _=>k,fun e=>absurd e (by cases want <;> decide)⟩⟩
theorem evalOps_gF {op:PO} {t:Nat} {want:Bool} (h:s.gd t=some (some (!want))):evalOps env (⟨d,op,some (t,want),af⟩ :: is) s K=evalOps env is (s.ap d skp .no) K:=by
 rw [evalOps_guard,h,guardOps_some,boo_self (gd_boo h)];exact propext ⟨fun k=>k.2 rfl,fun k=>⟨fun e=>absurd e (by cases want <;> decide),fun _=>k⟩⟩
theorem evalOps_gS {op:PO} {t:Nat} {want:Bool} (h:s.gd t=some none):evalOps env (⟨d,op,some (t,want),af⟩ :: is) s K=evalOps env is (s.ap d skp .no) K:=by
 rw [evalOps_guard,h,guardOps_skp]
abbrev Ft:=List (List Rg×List Rg)
variable {KD:St→Ft→Prop} {acc:Ft}
def contD (env:Env) (K:St→Ft→Prop) (is:List PI) (s:St) (d:Option Nat) (acc:Ft) (rd:List Rg) (o:Option (Av×Cg)):Prop:=withSome o fun p=>evalD env is (s.ap d p.1 p.2) ((rd,p.2.wrs) :: acc) K
theorem contD_some {v:Av} {ch:Cg} {rd:List Rg}:contD env KD is s d acc rd (some (v,ch))=evalD env is (s.ap d v ch) ((rd,ch.wrs) :: acc) KD:=nrfl rfl
def callD (env:Env) (K:St→Ft→Prop) (is:List PI) (s:St) (d:Option Nat) (acc:Ft) (f:Nat) (o:Option (List Pa)):Prop:=withSome o fun ps =>
 (∃ rs,env.d f ps rs∧evalD env is (s.ap d (resAv rs) .no) (([(d.getD 0,big - 1,1)],[]) :: acc) K)∨(∃ H rs,env.a f none ps H rs∧evalD env is (s.ap d (newAv (d.getD 0) (s.gen (d.getD 0)+1) rs) (.new (d.getD 0) (.ab H))) (([(d.getD 0,big - 1,1)],[(d.getD 0,0,big)]) :: acc) K)
theorem callD_intro {f:Nat} {ps:List Pa} (rs:List Pa) (h:env.d f ps rs) (k:evalD env is (s.ap d (resAv rs) .no) (([(d.getD 0,big - 1,1)],[]) :: acc) KD):callD env KD is s d acc f (some ps):=.inl ⟨rs,h,k⟩
def methD (env:Env) (K:St→Ft→Prop) (is:List PI) (s:St) (d:Option Nat) (acc:Ft) (f o:Nat) (oh:Option HP) (oa:Option (List Pa)):Prop:=withSome oa fun ps=>withSome oh fun H =>
 (∃ H' rs,env.a f (some H) ps H' rs∧evalD env is (s.ap d (resAv rs) (.ab o H')) (([(o,0,big),(d.getD 0,big - 1,1)],[(o,0,big)]) :: acc) K) ∨
 (∃ H2,ps=[]∧env.c f H H2∧evalD env is (s.ap d (.b (.one (.ab (d.getD 0) (s.gen (d.getD 0)+1)))) (.new (d.getD 0) (.ab H2))) (([(o,0,big),(d.getD 0,big - 1,1)],[(d.getD 0,0,big)]) :: acc) K)
def mutD (env:Env) (K:St→Ft→Prop) (is:List PI) (s:St) (d:Option Nat) (acc:Ft) (f o:Nat) (od:Option (List Dt)) (oa:Option (List Pa)):Prop:=withSome oa fun ps=>withSome od fun ds=>∃ ds' rs,env.m f ds ps ds' rs∧ds'.length=ds.length∧evalD env is (s.ap d (resAv rs) (.wr o 0 (ds'.map .d))) (([(o,0,big),(d.getD 0,big - 1,1)],[(o,0,(ds'.map Cl.d).length)]) :: acc) K
def callRD (env:Env) (K:St→Ft→Prop) (is:List PI) (s:St) (d:Option Nat) (acc:Ft) (f:Nat) (xs:List PX):Option (Nat×Nat)→Option (Nat×Nat)→Prop
 | some (o,g),_=>methD env K is s d acc f o (s.abAt o g) (s.args xs.tail)
 | none,some (o,g)=>mutD env K is s d acc f o (s.cellsAt o g) (s.args xs.tail)
 | none,none=>callD env K is s d acc f (s.args xs)
theorem callRD_none {f:Nat} {xs:List PX}:callRD env KD is s d acc f xs none none=callD env KD is s d acc f (s.args xs):=nrfl rfl
theorem callRD_ptr {f o g:Nat} {xs:List PX}:callRD env KD is s d acc f xs none (some (o,g))=mutD env KD is s d acc f o (s.cellsAt o g) (s.args xs.tail):=nrfl rfl
theorem callRD_some {f o g:Nat} {xs:List PX} {p:Option (Nat×Nat)}:callRD env KD is s d acc f xs (some (o,g)) p=methD env KD is s d acc f o (s.abAt o g) (s.args xs.tail):=nrfl rfl
def goD (env:Env) (K:St→Ft→Prop) (is:List PI) (s:St) (d:Option Nat) (acc:Ft) (op:PO):Prop:=op.go env s (d.getD 0) fun v ch=>evalD env is (s.ap d v ch) ((op.rd s (d.getD 0),ch.wrs) :: acc) K
def guardD (env:Env) (K:St→Ft→Prop) (is:List PI) (s:St) (d:Option Nat) (acc:Ft) (op:PO) (t:Nat) (want:Bool):Option (Option Bool)→Prop
 | none=>False
 | some none=>evalD env is (s.ap d skp .no) ((op.rd s (d.getD 0),[]) :: acc) K
 | some (some b)=>(b=want→goD env K is (s.ap (some t) (scAv (.bool want)) .no) d acc op)∧(b=!want→evalD env is ((s.ap (some t) (scAv (.bool !want)) .no).ap d skp .no) ((op.rd s (d.getD 0),[]) :: acc) K)
theorem guardD_skp {op:PO} {t:Nat} {want:Bool}:guardD env KD is s d acc op t want (some none)=evalD env is (s.ap d skp .no) ((op.rd s (d.getD 0),[]) :: acc) KD:=nrfl rfl
theorem guardD_some {op:PO} {t:Nat} {want b:Bool}:guardD env KD is s d acc op t want (some (some b))=((b=want→goD env KD is (s.ap (some t) (scAv (.bool want)) .no) d acc op)∧(b=!want→evalD env is ((s.ap (some t) (scAv (.bool !want)) .no).ap d skp .no) ((op.rd s (d.getD 0),[]) :: acc) KD)):=nrfl rfl
theorem evalD_nil:evalD env [] s acc KD=KD s acc.reverse:=nrfl rfl
theorem goD_fn {op:PO} (h:op.isCall=false):goD env KD is s d acc op=contD env KD is s d acc (op.rd s (d.getD 0)) (op.fn s (d.getD 0)):=by
 unfold goD;rw [PO.go_fn h];rfl
def callVD (env:Env) (K:St→Ft→Prop) (is:List PI) (s:St) (d:Option Nat) (acc:Ft) (f:Nat) (xs:List PX):Option Unit→Prop
 | some _=>callRD env K is s d acc f xs (s.recv xs) (s.prcv xs)
 | none=>False
theorem callVD_some {f:Nat} {xs:List PX} {u:Unit}:callVD env KD is s d acc f xs (some u)=callRD env KD is s d acc f xs (s.recv xs) (s.prcv xs):=nrfl rfl
def ldgVD (env:Env) (K:St→Ft→Prop) (is:List PI) (s:St) (d:Option Nat) (acc:Ft):Option Value→Prop
 | some v=>evalD env is (s.ap d (scAv v) .no) (([],[]) :: acc) K
 | none=>False
theorem ldgVD_some {v:Value}:ldgVD env KD is s d acc (some v)=evalD env is (s.ap d (scAv v) .no) (([],[]) :: acc) KD:=nrfl rfl
def halD (env:Env) (K:St→Ft→Prop) (is:List PI) (s:St) (d:Option Nat) (acc:Ft) (c:Nat) (rd:List Rg) (k:HA):Prop:=halG s c (fun v ch=>evalD env is (s.ap d v ch) ((rd,ch.wrs) :: acc) K) k
theorem halD_new {c:Nat} {rd:List Rg} {z:List Value} (b:Nat) (h:s.lay c b) (k:evalD env is (s.ap d (.b (.one (.hv (.p b 0)))) (.hw (HBS+c) [(b,.cells (z.map fun v=>.d (.sc v)))])) ((rd,[(HBS+c,0,big)]) :: acc) KD):halD env KD is s d acc c rd (.new z):=⟨b,h,k⟩
theorem halD_mk {c sz bytes:Nat} {rd:List Rg} {z:List Value} {n m:PX} (l:Int) (b:Nat) (h:s.lay c b) (h1:s.int n=some l) (h2:s.int m=some l) (h3:0≤l∧l≤1000000∧bytes≤1000000) (k:evalD env is (s.ap d (.b (.one (.hv (.s b 0 l.toNat l.toNat)))) (.hw (HBS+c) [(b,.cells ((List.range (l.toNat * sz)).map fun i=>.d (.sc (z.getD (i % sz) undef))))])) ((rd,[(HBS+c,0,big)]) :: acc) KD):halD env KD is s d acc c rd (.mk sz bytes z n m) :=
 withSome_iff.2 ⟨l,h1,withSome_iff.2 ⟨l,h2,⟨h3.1,rfl,h3.2⟩,b,h,k⟩⟩
def callHD (env:Env) (K:St→Ft→Prop) (is:List PI) (s:St) (d:Option Nat) (acc:Ft) (f:Nat) (oa:Option (List Hw)):Prop:=withSome oa fun az=>callHG env s (fun v ch=>evalD env is (s.ap d v ch) (([(HALL,0,big)],ch.wrs) :: acc) K) f az
theorem callHD_intro {f:Nat} {az:List Hw} (hp':Nat→Hb) (rs:List Hw) (h:env.h f s.hb az hp' rs) (k:evalD env is (s.ap d (resH rs) (.hall hp')) (([(HALL,0,big)],[(HALL,0,big)]) :: acc) KD):callHD env KD is s d acc f (some az):=⟨hp',rs,h,k⟩
def callPD (env:Env) (K:St→Ft→Prop) (is:List PI) (s:St) (d:Option Nat) (acc:Ft) (f:Nat) (oa:Option (List Hw)):Prop:=withSome oa fun az=>callPG env s (fun v ch=>evalD env is (s.ap d v ch) (([],ch.wrs) :: acc) K) f az
def callCD (env:Env) (K:St→Ft→Prop) (is:List PI) (s:St) (d:Option Nat) (acc:Ft) (f:Nat) (of:Option (List (Nat×Nat)×List (Nat×Nat))) (oa:Option (List Hw)):Prop:=withSome of fun p=>withSome oa fun az=>callHG env s (fun v ch=>evalD env is (s.ap d v ch) (([(HALL,0,big)],ch.wrs) :: acc) K) f (hpsW p.1 ++ az ++ hpsW p.2)
theorem callCD_some {f:Nat} {az:List Hw} {a c:List (Nat×Nat)}:callCD env KD is s d acc f (some (a,c)) (some az)=callHD env KD is s d acc f (some (hpsW a ++ az ++ hpsW c)):=nrfl rfl
def nextD (env:Env) (K:St→Ft→Prop) (is:List PI) (s:St) (d:Option Nat) (acc:Ft) (x:Cl):Prop:=nextG s x (fun v ch=>evalD env is (s.ap d v ch) (([],ch.wrs) :: acc) K)
def opD (env:Env) (K:St→Ft→Prop) (is:List PI) (s:St) (d:Option Nat) (acc:Ft) (b:Bool) (op:PO):Prop:=match b with
 | true=>(match op with | .call f xs=>callRD env K is s d acc f xs (s.recv xs) (s.prcv xs) | .callv x f xs=>callVD env K is s d acc f xs (fnIs f (s.val x)) | .ldg x=>ldgVD env K is s d acc (gAt env (s.val x)) | .hal c k=>halD env K is s d acc c ((PO.hal c k).rd s (d.getD 0)) k | .next x=>nextD env K is s d acc (s.cl x) | .callh f xs=>callHD env K is s d acc f (s.hws xs) | .callp f xs=>callPD env K is s d acc f (s.hws xs) | .callc x f xs=>callCD env K is s d acc f (fnOf f (s.cl x)) (s.hws xs) | _=>False)
 | false=>contD env K is s d acc (op.rd s (d.getD 0)) (op.fn s (d.getD 0))
theorem opD_false {op:PO}:opD env KD is s d acc false op=contD env KD is s d acc (op.rd s (d.getD 0)) (op.fn s (d.getD 0)):=nrfl rfl
theorem opD_true {f:Nat} {xs:List PX}:opD env KD is s d acc true (.call f xs)=callRD env KD is s d acc f xs (s.recv xs) (s.prcv xs):=nrfl rfl
theorem opD_callv {x:PX} {f:Nat} {xs:List PX}:opD env KD is s d acc true (.callv x f xs)=callVD env KD is s d acc f xs (fnIs f (s.val x)):=nrfl rfl
theorem opD_ldg {x:PX}:opD env KD is s d acc true (.ldg x)=ldgVD env KD is s d acc (gAt env (s.val x)):=nrfl rfl
theorem opD_hal {c:Nat} {k:HA}:opD env KD is s d acc true (.hal c k)=halD env KD is s d acc c ((PO.hal c k).rd s (d.getD 0)) k:=nrfl rfl
theorem opD_callh {f:Nat} {xs:List PX}:opD env KD is s d acc true (.callh f xs)=callHD env KD is s d acc f (s.hws xs):=nrfl rfl
theorem opD_callc {x:PX} {f:Nat} {xs:List PX}:opD env KD is s d acc true (.callc x f xs)=callCD env KD is s d acc f (fnOf f (s.cl x)) (s.hws xs):=nrfl rfl
theorem goD_op {op:PO}:goD env KD is s d acc op=opD env KD is s d acc op.isCall op:=by
 cases hc:op.isCall with
 | true =>
   cases op <;> first
    | (cases hc;done)
    | (rename_i f xs
       show callG env s (d.getD 0) (fun v ch=>evalD env is (s.ap d v ch) (((PO.call f xs).rd s (d.getD 0),ch.wrs) :: acc) KD) f xs (s.recv xs) (s.prcv xs)=callRD env KD is s d acc f xs (s.recv xs) (s.prcv xs)
       have hrd:(PO.call f xs).rd s (d.getD 0)=match s.recv xs,s.prcv xs with | some p,_=>[(p.1,0,big),(d.getD 0,big - 1,1)] | none,some p=>[(p.1,0,big),(d.getD 0,big - 1,1)] | none,none=>[(d.getD 0,big - 1,1)]:=rfl
       rw [hrd];cases s.recv xs <;> cases s.prcv xs <;> rfl)
    | (rename_i x f xs
       show withSome (fnIs f (s.val x)) (fun _=>callG env s (d.getD 0) (fun v ch=>evalD env is (s.ap d v ch) (((PO.callv x f xs).rd s (d.getD 0),ch.wrs) :: acc) KD) f xs (s.recv xs) (s.prcv xs))=callVD env KD is s d acc f xs (fnIs f (s.val x))
       have hrd:(PO.callv x f xs).rd s (d.getD 0)=match s.recv xs,s.prcv xs with | some p,_=>[(p.1,0,big),(d.getD 0,big - 1,1)] | none,some p=>[(p.1,0,big),(d.getD 0,big - 1,1)] | none,none=>[(d.getD 0,big - 1,1)]:=rfl
       rw [hrd]
       cases fnIs f (s.val x) with
       | none=>rfl
       | some u =>
         show callG env s (d.getD 0) (fun v ch=>evalD env is (s.ap d v ch) ((match s.recv xs,s.prcv xs with | some p,_=>[(p.1,0,big),(d.getD 0,big - 1,1)] | none,some p=>[(p.1,0,big),(d.getD 0,big - 1,1)] | none,none=>[(d.getD 0,big - 1,1)],ch.wrs) :: acc) KD) f xs (s.recv xs) (s.prcv xs)=callRD env KD is s d acc f xs (s.recv xs) (s.prcv xs)
         cases s.recv xs <;> cases s.prcv xs <;> rfl)
    | (rename_i x
       show withSome (gAt env (s.val x)) (fun v=>evalD env is (s.ap d (scAv v) .no) (([],[]) :: acc) KD)=ldgVD env KD is s d acc (gAt env (s.val x))
       cases gAt env (s.val x) <;> rfl)
    | rfl
 | false=>rw [opD_false,goD_fn hc]
theorem evalD_plain {op:PO}:evalD env (⟨d,op,none,af⟩ :: is) s acc KD=goD env KD is s d acc op:=nrfl rfl
theorem evalD_guard {op:PO} {t:Nat} {want:Bool}:evalD env (⟨d,op,some (t,want),af⟩ :: is) s acc KD=guardD env KD is s d acc op t want (s.gd t):=by
 change withSome (s.gd t) _=guardD env KD is s d acc op t want (s.gd t)
 cases h:s.gd t with
 | none=>rfl
 | some b =>
   cases b with
   | none=>exact propext ⟨fun k=>k.2 (by simp),fun k=>⟨fun e=>(by simp at e),fun _=>k⟩⟩
   | some b =>
     have hb:=boo_self (gd_boo h);rw [guardD_some]
     show ((some b=some want→_)∧(some b≠some want→_))=_
     rw [some_ne,Option.some.injEq]
     congr 1
     ·apply propext
      refine forall_congr' fun he=>?_
      subst he;rw [hb];rfl
     ·apply propext
      refine forall_congr' fun he=>?_
      rw [←he,hb];rfl
theorem evalD_gT {op:PO} {t:Nat} {want:Bool} (h:s.gd t=some (some want)):evalD env (⟨d,op,some (t,want),af⟩ :: is) s acc KD=goD env KD is s d acc op:=by
 rw [evalD_guard,h,guardD_some,boo_self (gd_boo h)];exact propext ⟨fun k=>k.1 rfl,fun k=>⟨fun _=>k,fun e=>absurd e (by cases want <;> decide)⟩⟩
theorem evalD_gF {op:PO} {t:Nat} {want:Bool} (h:s.gd t=some (some (!want))):evalD env (⟨d,op,some (t,want),af⟩ :: is) s acc KD=evalD env is (s.ap d skp .no) ((op.rd s (d.getD 0),[]) :: acc) KD:=by
 rw [evalD_guard,h,guardD_some,boo_self (gd_boo h)];exact propext ⟨fun k=>k.2 rfl,fun k=>⟨fun e=>absurd e (by cases want <;> decide),fun _=>k⟩⟩
theorem evalD_gS {op:PO} {t:Nat} {want:Bool} (h:s.gd t=some none):evalD env (⟨d,op,some (t,want),af⟩ :: is) s acc KD=evalD env is (s.ap d skp .no) ((op.rd s (d.getD 0),[]) :: acc) KD:=by
 rw [evalD_guard,h,guardD_skp]
inductive It where
 | c (x:PC)
 | bl (id:Nat)
 | lp (I:Nat→St→Prop) (n:Nat)
def exS (env:Env):List It→(Exit→St→Prop)→Exit→St→Prop
 | [],Q,e,s=>Q e s
 | .c b :: k,Q,e,s=>match e with
   | .normal=>pwp env b (exS env k Q) s
   | e=>exS env k Q e s
 | .bl id :: k,Q,e,s=>match e with
   | .exit i=>if i=id then exS env k Q .normal s else exS env k Q (.exit i) s
   | e=>exS env k Q e s
 | .lp I n :: k,Q,e,s=>match e with
   | .normal=>∃ m,m < n∧I m s
   | e=>exS env k Q e s
variable {k:List It} {Q:Exit→St→Prop}
theorem exS_nil {e:Exit}:exS env [] Q e s=Q e s:=nrfl rfl
theorem exS_c {b:PC}:exS env (.c b :: k) Q .normal s=pwp env b (exS env k Q) s:=nrfl rfl
theorem exS_c_ret {b:PC}:exS env (.c b :: k) Q .ret s=exS env k Q .ret s:=nrfl rfl
theorem exS_c_exit {b:PC} {i:Nat}:exS env (.c b :: k) Q (.exit i) s=exS env k Q (.exit i) s:=nrfl rfl
theorem exS_bl {id:Nat}:exS env (.bl id :: k) Q .normal s=exS env k Q .normal s:=nrfl rfl
theorem exS_bl_ret {id:Nat}:exS env (.bl id :: k) Q .ret s=exS env k Q .ret s:=nrfl rfl
theorem exS_bl_exit {id i:Nat}:exS env (.bl id :: k) Q (.exit i) s=if i=id then exS env k Q .normal s else exS env k Q (.exit i) s:=nrfl rfl
theorem exS_lp_ret {I:Nat→St→Prop} {n:Nat}:exS env (.lp I n :: k) Q .ret s=exS env k Q .ret s:=nrfl rfl
theorem exS_lp_exit {I:Nat→St→Prop} {n i:Nat}:exS env (.lp I n :: k) Q (.exit i) s=exS env k Q (.exit i) s:=nrfl rfl
theorem pwp_start {c:PC} (h:pwp env c (exS env [] Q) s):pwp env c Q s:=h
theorem pwp_fresh {Q':Exit→St→Prop} {c:PC} (sls obs:List Nat) (h:∀ st:St,(∀ x,x ∈ sls→st.sl x=s.sl x)→(∀ o,o ∈ obs→st.gen o=s.gen o∧st.ob o=s.ob o)→pwp env c Q' st):pwp env c Q' s:=h s (fun _ _=>rfl) (fun _ _=>⟨rfl,rfl⟩)
theorem pwp_freshP {Q':Exit→St→Prop} {c:PC} (P:St→Prop) (hP:P s) (sls obs:List Nat) (h:∀ st:St,P st→(∀ x,x ∈ sls→st.sl x=s.sl x)→(∀ o,o ∈ obs→st.gen o=s.gen o∧st.ob o=s.ob o)→pwp env c Q' st):pwp env c Q' s:=h s hP (fun _ _=>rfl) (fun _ _=>⟨rfl,rfl⟩)
theorem pwp_skip:pwp env .skip (exS env k Q) s=exS env k Q .normal s:=nrfl rfl
theorem pwp_reg {ops:List PI}:pwp env (.reg false ops) (exS env k Q) s=evalOps env ops s (exS env k Q .normal):=nrfl rfl
def drawn (ops:List PI) (K:St→Prop) (s:St) (fts:Ft):Prop:=drawOk ops fts=true∧K s
def Drw (ops:List PI) (fts:Ft):Prop:=drawOk ops fts=true
theorem drawn_and {ops:List PI} {K:St→Prop} {fts:Ft}:drawn ops K s fts=(Drw ops fts∧K s):=nrfl rfl
theorem pwp_regD {ops:List PI}:pwp env (.reg true ops) (exS env k Q) s=evalD env ops s [] (drawn ops (exS env k Q .normal)):=nrfl rfl
theorem pwp_seq {a b:PC}:pwp env (.seq a b) (exS env k Q) s=pwp env a (exS env (.c b :: k) Q) s:=by
 show pwp env a _ s=_
 congr 1
def condS (env:Env) (a b:PC) (k:List It) (Q:Exit→St→Prop) (s:St) (o:Option Bool):Prop:=withSome o fun t=>(t=true→pwp env a (exS env k Q) s)∧(t=false→pwp env b (exS env k Q) s)
theorem condS_some {a b:PC} {t:Bool}:condS env a b k Q s (some t)=((t=true→pwp env a (exS env k Q) s)∧(t=false→pwp env b (exS env k Q) s)):=nrfl rfl
theorem pwp_cond {c:PX} {a b:PC}:pwp env (.cond c a b) (exS env k Q) s=condS env a b k Q s (s.boo c):=nrfl rfl
theorem pwp_block {id:Nat} {c:PC}:pwp env (.block id c) (exS env k Q) s=pwp env c (exS env (.bl id :: k) Q) s:=by
 show pwp env c _ s=_
 congr 1
theorem pwp_exit {id:Nat}:pwp env (.exit id) (exS env k Q) s=exS env k Q (.exit id) s:=nrfl rfl
theorem pwp_ret:pwp env .ret (exS env k Q) s=exS env k Q .ret s:=nrfl rfl
theorem pwp_loop {c:PC} (I:Nat→St→Prop) (n:Nat) (h0:I n s) (h:∀ n s,I n s→pwp env c (exS env (.lp I n :: k) Q) s):pwp env (.loop c) (exS env k Q) s:=by
 refine ⟨I,⟨n,h0⟩,fun n s hI=>?_⟩;have:=h n s hI
 have he:exS env (.lp I n :: k) Q=fun e s'=>match e with | .normal=>∃ m,m < n∧I m s' | e=>exS env k Q e s':=by
  funext e s'
  cases e <;> rfl
 rw [he] at this;exact this
theorem ap_sl {x:Nat} {v:Av} {ch:Cg}:(s.ap (some x) v ch).sl=up s.sl x v:=nrfl rfl
theorem ap_sl0 {v:Av} {ch:Cg}:(s.ap none v ch).sl=s.sl:=nrfl rfl
theorem ap_gen {v:Av}:(s.ap d v .no).gen=s.gen:=nrfl rfl
theorem ap_genw {v:Av} {o off:Nat} {cs:List Cl}:(s.ap d v (.wr o off cs)).gen=s.gen:=nrfl rfl
theorem ap_genr {v:Av} {o m:Nat}:(s.ap d v (.row o m)).gen=s.gen:=nrfl rfl
theorem ap_genn {v:Av} {o:Nat} {x:Ob}:(s.ap d v (.new o x)).gen=up s.gen o (s.gen o+1):=nrfl rfl
theorem ap_ob {v:Av}:(s.ap d v .no).ob=s.ob:=nrfl rfl
theorem ap_obw {v:Av} {o off:Nat} {cs:List Cl}:(s.ap d v (.wr o off cs)).ob=up s.ob o (wrF off cs (s.ob o)):=by
 rw [ap_eq];rfl
theorem ap_obr {v:Av} {o m:Nat}:(s.ap d v (.row o m)).ob=up s.ob o (rowF m (s.ob o)):=by
 rw [ap_eq];rfl
theorem ap_obn {v:Av} {o:Nat} {x:Ob}:(s.ap d v (.new o x)).ob=up s.ob o x:=nrfl rfl
theorem ap_nc {v:Av} {ch:Cg}:(s.ap d v ch).nc=s.nc:=nrfl rfl
theorem ap_genh {v:Av} {o:Nat} {l:List (Nat×Hb)}:(s.ap d v (.hw o l)).gen=s.gen:=nrfl rfl
theorem ap_gena {v:Av} {h:Nat→Hb}:(s.ap d v (.hall h)).gen=s.gen:=nrfl rfl
theorem ap_obh {v:Av} {c x:Nat} {l:List (Nat×Hb)} (hx:x < 1000000):(s.ap d v (.hw (HBS+c) l)).ob x=s.ob x:=by
 show up s.ob (HBS+c) _ x=_
 rw [up_at,if_neg (by unfold HBS;omega)]
theorem ap_oba {v:Av} {x:Nat} {h:Nat→Hb} (hx:x < 1000000):(s.ap d v (.hall h)).ob x=s.ob x:=by
 show (if HBS≤x then _ else _)=_
 rw [if_neg (by unfold HBS;omega)]
theorem hb_no {v:Av}:(s.ap d v .no).hb=s.hb:=nrfl rfl
theorem hb_new {v:Av} {o:Nat} {x:Ob} (h:o < 1000000):(s.ap d v (.new o x)).hb=s.hb:=by
 funext b
 exact hb_up (o:=o) (fun p hp=>by show up s.ob o x p=_;rw [up_at,if_neg hp]) (.inl (by unfold HBS;exact h)) b
theorem hb_wr {v:Av} {o off:Nat} {cs:List Cl} (h:o < 1000000):(s.ap d v (.wr o off cs)).hb=s.hb:=by
 funext b
 exact hb_up (o:=o) (fun p hp=>by rw [ap_obw,up_at,if_neg hp]) (.inl (by unfold HBS;exact h)) b
theorem hb_row {v:Av} {o m:Nat} (h:o < 1000000):(s.ap d v (.row o m)).hb=s.hb:=by
 funext b
 exact hb_up (o:=o) (fun p hp=>by rw [ap_obr,up_at,if_neg hp]) (.inl (by unfold HBS;exact h)) b
theorem hb_ab {v:Av} {o:Nat} {H:HP} (h:o < 1000000):(s.ap d v (.ab o H)).hb=s.hb:=by
 funext b
 exact hb_up (o:=o) (fun p hp=>by show up s.ob o (.ab H) p=_;rw [up_at,if_neg hp]) (.inl (by unfold HBS;exact h)) b
theorem upl_out {f g:Nat→Hb} {b:Nat}:∀ {l:List (Nat×Hb)},f b=g b→upl f l b=upl g l b
 | [],h=>h
 | (c,x) :: l,h=>by
   show upl (up f c x) l b=upl (up g c x) l b
   exact upl_out (l:=l) (by rw [up_at,up_at,h])
theorem upl_not {f:Nat→Hb} {b:Nat}:∀ {l:List (Nat×Hb)},(∀ p ∈ l,p.1≠b)→upl f l b=f b
 | [],_=>rfl
 | (c,x) :: l,h=>by
   show upl (up f c x) l b=f b
   rw [upl_not (fun p hp=>h p (by simp [hp])),up_at,if_neg (Ne.symm (h (c,x) (by simp)))]
theorem hb_hwl {v:Av} {c:Nat} {l:List (Nat×Hb)} (h:∀ p ∈ l,s.nc p.1=c):(s.ap d v (.hw (HBS+c) l)).hb=upl s.hb l:=by
 funext b
 show heapOf (up s.ob (HBS+c) (.hp (upl (heapOf (s.ob (HBS+c))) l)) (HBS+s.nc b)) b=upl s.hb l b
 rw [up_at]
 by_cases hb:s.nc b=c
 ·rw [if_pos (by rw [hb])];exact upl_out (show heapOf (s.ob (HBS+c)) b=heapOf (s.ob (HBS+s.nc b)) b by rw [hb])
 ·rw [if_neg (by omega),upl_not (fun p hp e=>hb (by rw [←e];exact h p hp))]
  rfl
theorem hb_hw1 {v:Av} {c b:Nat} {x:Hb} (h:s.nc b=c):(s.ap d v (.hw (HBS+c) [(b,x)])).hb=up s.hb b x:=hb_hwl (by simpa using h)
theorem hb_hw2 {v:Av} {c b b':Nat} {x x':Hb} (h:s.nc b=c) (h':s.nc b'=c):(s.ap d v (.hw (HBS+c) [(b,x),(b',x')])).hb=up (up s.hb b x) b' x':=hb_hwl (by simp [h,h'])
theorem hb_all {v:Av} {h:Nat→Hb}:(s.ap d v (.hall h)).hb=h:=hb_hall
def chLow:Cg→Bool
 | .new o _=>decide (o < 1000000)
 | .wr o _ _=>decide (o < 1000000)
 | .row o _=>decide (o < 1000000)
 | .ab o _=>decide (o < 1000000)
 | _=>true
def AllHp (s:St):Prop:=∀ c,isHp (s.ob (HBS+c))=true
theorem AllHp.ap {v:Av} {ch:Cg} (h:AllHp s) (hc:chLow ch=true):AllHp (s.ap d v ch):=fun c=>by
 have hHB:∀ o,decide (o < 1000000)=true→HBS+c≠o:=fun o ho=>by have:=of_decide_eq_true ho;unfold HBS;omega
 rw [ap_eq]
 show isHp (ch.oF s.nc s.ob (HBS+c))=true
 cases ch with
 | no=>exact h c
 | new o x=>simp only [Cg.oF,md,up_at,if_neg (hHB o hc)];exact h c
 | wr o off cs=>simp only [Cg.oF,md,up_at,if_neg (hHB o hc)];exact h c
 | row o m=>simp only [Cg.oF,md,up_at,if_neg (hHB o hc)];exact h c
 | ab o H=>simp only [Cg.oF,md,up_at,if_neg (hHB o hc)];exact h c
 | hw o l=>simp only [Cg.oF,md,up_at];split;rfl;exact h c
 | hall hp=>simp only [Cg.oF];rw [if_pos (Nat.le_add_right _ _)];rfl
theorem lay_of {c b:Nat} (h1:s.nc b=c) (h2:AllHp s) (h3:s.hb b=.no):s.lay c b:=⟨h1,h2 c,h3⟩
theorem AllHp.init {nc:Nat→Nat} {hp:Nat→Hb} {az:List Hw}:AllHp (St.initH nc hp az):=fun c=>by
 show isHp (if HBS≤HBS+c then _ else _)=true
 rw [if_pos (Nat.le_add_right _ _)];rfl
def initSlH:List Hw→Nat→Av
 | [],_=>.un
 | p :: _,0=>.b p.bv
 | _ :: r,n+1=>initSlH r n
theorem initH_sl (nc:Nat→Nat) (hp:Nat→Hb) (ps:List Hw) (x:Nat):(St.initH nc hp ps).sl x=initSlH ps x:=by
 show (match ps[x]? with | some p=>Av.b p.bv | none=>.un)=_
 induction ps generalizing x with
 | nil=>simp [initSlH]
 | cons p r ih =>
   cases x with
   | zero=>rfl
   | succ x=>rw [List.getElem?_cons_succ,ih x];rfl
theorem initH_gen {nc:Nat→Nat} {hp:Nat→Hb} {ps:List Hw} {x:Nat}:(St.initH nc hp ps).gen x=0:=nrfl rfl
theorem initH_ob {nc:Nat→Nat} {hp:Nat→Hb} {ps:List Hw} {x:Nat} (h:x < 1000000):(St.initH nc hp ps).ob x=.no:=by
 show (if HBS≤x then _ else _)=_
 rw [if_neg (by unfold HBS;omega)]
theorem initH_nc {nc:Nat→Nat} {hp:Nat→Hb} {ps:List Hw}:(St.initH nc hp ps).nc=nc:=nrfl rfl
theorem wrF_cells {off:Nat} {cs old:List Cl}:wrF off cs (.cells old)=.cells (wrAt old off cs):=nrfl rfl
theorem rowF_row {m E sz n:Nat}:rowF m (.row E sz n)=.row E sz m:=nrfl rfl
def initSl:List Pa→Nat→Av
 | [],_=>.un
 | p :: _,0=>.b p.bv
 | _ :: r,n+1=>initSl r n
theorem init_sl (ps:List Pa) (x:Nat):(St.init ps).sl x=initSl ps x:=by
 show (match ps[x]? with | some p=>Av.b p.bv | none=>.un)=_
 induction ps generalizing x with
 | nil=>simp [initSl]
 | cons p r ih =>
   cases x with
   | zero=>rfl
   | succ x=>rw [List.getElem?_cons_succ,ih x];rfl
theorem initM_sl0 {ds:List Dt} {ps:List Pa}:(St.initM ds ps).sl 0=.b (.one (.ptr 0 0 0)):=nrfl rfl
theorem initM_slS {ds:List Dt} {ps:List Pa} {x:Nat}:(St.initM ds ps).sl (x+1)=initSl ps x:=(init_sl ps x)
theorem initM_gen {ds:List Dt} {ps:List Pa} {x:Nat}:(St.initM ds ps).gen x=0:=nrfl rfl
theorem initM_ob0 {ds:List Dt} {ps:List Pa}:(St.initM ds ps).ob 0=.cells (ds.map .d):=nrfl rfl
theorem initM_obS {ds:List Dt} {ps:List Pa} {x:Nat}:(St.initM ds ps).ob (x+1)=.no:=nrfl rfl
theorem init_gen {ps:List Pa} {x:Nat}:(St.init ps).gen x=0:=nrfl rfl
theorem init_ob {ps:List Pa} {x:Nat}:(St.init ps).ob x=.no:=nrfl rfl
theorem ev_t {x:Nat}:s.ev (.t x)=s.sl x:=nrfl rfl
theorem ev_int {k:IntKind} {m:Int}:s.ev (.v (.int k m))=.b (.one (.d (.sc (.int k m)))):=nrfl rfl
theorem ev_bool {b:Bool}:s.ev (.v (.bool b))=.b (.one (.d (.sc (.bool b)))):=nrfl rfl
theorem ev_string {b:ByteArray}:s.ev (.v (.string b))=.b (.one (.d (.sc (.string b)))):=nrfl rfl
theorem ev_nil:s.ev (.v (.slice none 0 0))=.b (.one (.d (.sc (.slice none 0 0)))):=nrfl rfl
theorem ev_agg {l:Array Value}:s.ev (.v (.agg l))=.b (.agg (l.toList.map fun v=>.d (.sc v))):=nrfl rfl
theorem ev_ptr:s.ev (.v (.pointer none))=.b (.one (.d (.sc (.pointer none)))):=nrfl rfl
theorem args_nil:s.args []=some []:=nrfl rfl
theorem args_cons {x:PX} {xs:List PX}:s.args (x :: xs)=(match (s.ev x).pa with | some p=>(s.args xs).map (p :: ·) | none=>none):=by
 unfold St.args;simp only [List.map_cons];cases (s.ev x).pa <;> rfl
end
def Within (ms os:List Nat) (s0 st:St):Prop:=(∀ x,ms.contains x=false→st.sl x=s0.sl x)∧∀ o,os.contains o=false→st.gen o=s0.gen o∧st.ob o=s0.ob o
def over (ms os:List Nat) (s0 j:St):St:=⟨fun x=>bif ms.contains x then j.sl x else s0.sl x,fun o=>bif os.contains o then j.gen o else s0.gen o,fun o=>bif os.contains o then j.ob o else s0.ob o,j.nc⟩
theorem Within.refl (ms os:List Nat) (s:St):Within ms os s s:=⟨fun _ _=>rfl,fun _ _=>⟨rfl,rfl⟩⟩
theorem Within.over {ms os:List Nat} {s0 st:St} (h:Within ms os s0 st):∃ j,st=over ms os s0 j:=by
 refine ⟨st,?_⟩;obtain ⟨h1,h2⟩:=h
 have e1:st.sl=(Go.Proofs.Ytffcpijeebagfaa.over ms os s0 st).sl:=by
  funext x
  show st.sl x=bif ms.contains x then st.sl x else s0.sl x
  cases hx:ms.contains x with
  | true=>rfl
  | false=>exact h1 x hx
 have e2:st.gen=(Go.Proofs.Ytffcpijeebagfaa.over ms os s0 st).gen:=by
  funext x
  show st.gen x=bif os.contains x then st.gen x else s0.gen x
  cases hx:os.contains x with
  | true=>rfl
  | false=>exact (h2 x hx).1
 have e3:st.ob=(Go.Proofs.Ytffcpijeebagfaa.over ms os s0 st).ob:=by
  funext x
  show st.ob x=bif os.contains x then st.ob x else s0.ob x
  cases hx:os.contains x with
  | true=>rfl
  | false=>exact (h2 x hx).2
 show (⟨st.sl,st.gen,st.ob,st.nc⟩:St)=⟨(Go.Proofs.Ytffcpijeebagfaa.over ms os s0 st).sl,(Go.Proofs.Ytffcpijeebagfaa.over ms os s0 st).gen,(Go.Proofs.Ytffcpijeebagfaa.over ms os s0 st).ob,st.nc⟩
 rw [←e1,←e2,←e3]
theorem over_sl {ms os:List Nat} {s0 j:St} {x:Nat}:(over ms os s0 j).sl x=bif ms.contains x then j.sl x else s0.sl x:=nrfl rfl
theorem over_gen {ms os:List Nat} {s0 j:St} {x:Nat}:(over ms os s0 j).gen x=bif os.contains x then j.gen x else s0.gen x:=nrfl rfl
theorem over_ob {ms os:List Nat} {s0 j:St} {x:Nat}:(over ms os s0 j).ob x=bif os.contains x then j.ob x else s0.ob x:=nrfl rfl
theorem within_over {ms os:List Nat} {s0 j:St}:Within ms os s0 (over ms os s0 j)=True:=by
 apply propext
 refine ⟨fun _=>trivial,fun _=>⟨fun x hx=>?_,fun o ho=>⟨?_,?_⟩⟩⟩
 ·rw [over_sl,hx];rfl
 ·rw [over_gen,ho];rfl
 ·rw [over_ob,ho];rfl
def chIn (os:List Nat):Cg→Bool
 | .ab o _=>os.contains o
 | .no=>true
 | .new o _=>os.contains o
 | .wr o _ _=>os.contains o
 | .row o _=>os.contains o
 | .hw o _=>os.contains o
 | .hall _=>false
theorem Within.ap {ms os:List Nat} {s0 s:St} {d:Option Nat} {v:Av} {ch:Cg} (h:Within ms os s0 s) (hd:∀ x,d=some x→ms.contains x=true) (hc:chIn os ch=true):Within ms os s0 (s.ap d v ch):=by
 obtain ⟨h1,h2⟩:=h;rw [ap_eq];refine ⟨fun x hx=>?_,fun o ho=>?_⟩
 ·cases d with
  | none=>exact h1 x hx
  | some y =>
    show up s.sl y v x=_
    rw [up_at,if_neg]
    ·exact h1 x hx
    ·rintro rfl;rw [hd x rfl] at hx;cases hx
 ·have key:∀ y:Nat,os.contains y=true→o≠y:=by
   rintro y hy rfl;rw [hy] at ho;cases ho
  show ch.gF s.gen o=_∧ch.oF s.nc s.ob o=_
  cases ch with
  | no=>exact h2 o ho
  | new y x=>simp only [Cg.gF,Cg.oF,Go.Proofs.Ytffcpijeebagfaa.md,up_at,if_neg (key y hc)];exact h2 o ho
  | wr y off cs=>simp only [Cg.gF,Cg.oF,Go.Proofs.Ytffcpijeebagfaa.md,up_at,if_neg (key y hc)];exact h2 o ho
  | row y m=>simp only [Cg.gF,Cg.oF,Go.Proofs.Ytffcpijeebagfaa.md,up_at,if_neg (key y hc)];exact h2 o ho
  | ab y H=>simp only [Cg.gF,Cg.oF,Go.Proofs.Ytffcpijeebagfaa.md,up_at,if_neg (key y hc)];exact h2 o ho
  | hw y l=>simp only [Cg.gF,Cg.oF,Go.Proofs.Ytffcpijeebagfaa.md,up_at,if_neg (key y hc)];exact h2 o ho
  | hall h=>cases hc
theorem within_ap {ms os:List Nat} {s0 s:St} {x:Nat} {v:Av} {ch:Cg} (h:Within ms os s0 s) (hd:ms.contains x=true) (hc:chIn os ch=true):Within ms os s0 (s.ap (some x) v ch):=h.ap (fun y hy=>by cases hy;exact hd) hc
theorem within_ap0 {ms os:List Nat} {s0 s:St} {v:Av} {ch:Cg} (h:Within ms os s0 s) (hc:chIn os ch=true):Within ms os s0 (s.ap none v ch):=h.ap (fun y hy=>by cases hy) hc
theorem Within.trans {ms os:List Nat} {a b c:St} (h:Within ms os a b) (k:Within ms os b c):Within ms os a c :=
 ⟨fun x hx=>(k.1 x hx).trans (h.1 x hx),fun o ho=>⟨(k.2 o ho).1.trans (h.2 o ho).1,(k.2 o ho).2.trans (h.2 o ho).2⟩⟩
theorem pwp_loopW {env:Env} {k:List It} {Q:Exit→St→Prop} {s:St} {c:PC} (ms os:List Nat) (J:Nat→St→Prop) (m0:Nat) (h0:J m0 s)
 (h:∀ m j,J m (over ms os s j)→pwp env c (exS env (.lp (fun m st=>Within ms os s st∧J m st) m :: k) Q) (over ms os s j)):pwp env (.loop c) (exS env k Q) s :=
 pwp_loop (fun m st=>Within ms os s st∧J m st) m0 ⟨Within.refl _ _ _,h0⟩ (fun m st ⟨hW,hJ⟩=>by
  obtain ⟨j,rfl⟩:=hW.over;exact h m j hJ)
def WithinH (ms os:List Nat) (s0 st:St):Prop:=(∀ x,ms.contains x=false→st.sl x=s0.sl x)∧(∀ o,os.contains o=false→st.gen o=s0.gen o∧(o < 1000000→st.ob o=s0.ob o))∧st.nc=s0.nc∧AllHp st
def overH (ms os:List Nat) (s0 j:St):St:=⟨fun x=>bif ms.contains x then j.sl x else s0.sl x,fun o=>bif os.contains o then j.gen o else s0.gen o,fun o=>if o < 1000000 then (bif os.contains o then j.ob o else s0.ob o) else j.ob o,s0.nc⟩
theorem WithinH.refl (ms os:List Nat) {s:St} (h:AllHp s):WithinH ms os s s:=⟨fun _ _=>rfl,fun _ _=>⟨rfl,fun _=>rfl⟩,rfl,h⟩
theorem WithinH.over {ms os:List Nat} {s0 st:St} (h:WithinH ms os s0 st):st=overH ms os s0 st:=by
 obtain ⟨h1,h2,h3,_⟩:=h
 have e1:st.sl=(overH ms os s0 st).sl:=by
  funext x
  show st.sl x=bif ms.contains x then st.sl x else s0.sl x
  cases hx:ms.contains x with
  | true=>rfl
  | false=>exact h1 x hx
 have e2:st.gen=(overH ms os s0 st).gen:=by
  funext x
  show st.gen x=bif os.contains x then st.gen x else s0.gen x
  cases hx:os.contains x with
  | true=>rfl
  | false=>exact (h2 x hx).1
 have e3:st.ob=(overH ms os s0 st).ob:=by
  funext x
  show st.ob x=if x < 1000000 then (bif os.contains x then st.ob x else s0.ob x) else st.ob x
  split
  ·rename_i hlt
   cases hx:os.contains x with
   | true=>rfl
   | false=>exact (h2 x hx).2 hlt
  ·rfl
 have e4:st.nc=(overH ms os s0 st).nc:=h3
 show (⟨st.sl,st.gen,st.ob,st.nc⟩:St)=⟨(overH ms os s0 st).sl,(overH ms os s0 st).gen,(overH ms os s0 st).ob,(overH ms os s0 st).nc⟩
 rw [←e1,←e2,←e3,←e4]
theorem overH_sl {ms os:List Nat} {s0 j:St} {x:Nat}:(overH ms os s0 j).sl x=bif ms.contains x then j.sl x else s0.sl x:=nrfl rfl
theorem overH_gen {ms os:List Nat} {s0 j:St} {x:Nat}:(overH ms os s0 j).gen x=bif os.contains x then j.gen x else s0.gen x:=nrfl rfl
theorem overH_ob {ms os:List Nat} {s0 j:St} {x:Nat} (h:x < 1000000):(overH ms os s0 j).ob x=bif os.contains x then j.ob x else s0.ob x:=by
 show (if x < 1000000 then _ else _)=_
 rw [if_pos h]
theorem overH_nc {ms os:List Nat} {s0 j:St}:(overH ms os s0 j).nc=s0.nc:=nrfl rfl
theorem overH_hb {ms os:List Nat} {s0 j:St} (h:j.nc=s0.nc):(overH ms os s0 j).hb=j.hb:=by
 funext b
 show heapOf (if HBS+s0.nc b < 1000000 then _ else j.ob (HBS+s0.nc b)) b=heapOf (j.ob (HBS+j.nc b)) b
 rw [if_neg (by unfold HBS;omega),h]
theorem overH_hp {ms os:List Nat} {s0 j:St} (h:AllHp j):AllHp (overH ms os s0 j):=fun c=>by
 show isHp (if HBS+c < 1000000 then _ else j.ob (HBS+c))=true
 rw [if_neg (by unfold HBS;omega)];exact h c
def chInH (os:List Nat):Cg→Bool
 | .ab o _=>os.contains o && decide (o < 1000000)
 | .no=>true
 | .new o _=>os.contains o && decide (o < 1000000)
 | .wr o _ _=>os.contains o && decide (o < 1000000)
 | .row o _=>os.contains o && decide (o < 1000000)
 | .hw o _=>decide (1000000≤o)
 | .hall _=>true
theorem WithinH.ap {ms os:List Nat} {s0 s:St} {d:Option Nat} {v:Av} {ch:Cg} (h:WithinH ms os s0 s) (hd:∀ x,d=some x→ms.contains x=true) (hc:chInH os ch=true):WithinH ms os s0 (s.ap d v ch):=by
 obtain ⟨h1,h2,h3,h4⟩:=h;have hlow:chLow ch=true:=by cases ch <;> simp only [chInH,Bool.and_eq_true] at hc <;> first | rfl | exact hc.2
 have h4':=h4.ap (d:=d) (v:=v) hlow;rw [ap_eq] at h4' ⊢;refine ⟨fun x hx=>?_,fun o ho=>?_,h3,h4'⟩
 ·cases d with
  | none=>exact h1 x hx
  | some y =>
    show up s.sl y v x=_
    rw [up_at,if_neg]
    ·exact h1 x hx
    ·rintro rfl;rw [hd x rfl] at hx;cases hx
 ·have key:∀ y:Nat,os.contains y=true→o≠y:=by
   rintro y hy rfl;rw [hy] at ho;cases ho
  show ch.gF s.gen o=_∧(o < 1000000→ch.oF s.nc s.ob o=_)
  obtain ⟨g1,g2⟩:=h2 o ho
  cases ch with
  | no=>exact ⟨g1,g2⟩
  | new y x=>simp only [chInH,Bool.and_eq_true] at hc;simp only [Cg.gF,Cg.oF,Go.Proofs.Ytffcpijeebagfaa.md,up_at,if_neg (key y hc.1)];exact ⟨g1,g2⟩
  | wr y off cs=>simp only [chInH,Bool.and_eq_true] at hc;simp only [Cg.gF,Cg.oF,Go.Proofs.Ytffcpijeebagfaa.md,up_at,if_neg (key y hc.1)];exact ⟨g1,g2⟩
  | row y m=>simp only [chInH,Bool.and_eq_true] at hc;simp only [Cg.gF,Cg.oF,Go.Proofs.Ytffcpijeebagfaa.md,up_at,if_neg (key y hc.1)];exact ⟨g1,g2⟩
  | ab y H=>simp only [chInH,Bool.and_eq_true] at hc;simp only [Cg.gF,Cg.oF,Go.Proofs.Ytffcpijeebagfaa.md,up_at,if_neg (key y hc.1)];exact ⟨g1,g2⟩
  | hw y l =>
    have hy:=of_decide_eq_true hc;refine ⟨g1,fun hlt=>?_⟩;simp only [Cg.oF,Go.Proofs.Ytffcpijeebagfaa.md,up_at,if_neg (show o≠y by omega)];exact g2 hlt
  | hall hp =>
    refine ⟨g1,fun hlt=>?_⟩;simp only [Cg.oF];rw [if_neg (by unfold HBS;omega)];exact g2 hlt
theorem withinH_ap {ms os:List Nat} {s0 s:St} {x:Nat} {v:Av} {ch:Cg} (h:WithinH ms os s0 s) (hd:ms.contains x=true) (hc:chInH os ch=true):WithinH ms os s0 (s.ap (some x) v ch):=h.ap (fun y hy=>by cases hy;exact hd) hc
theorem withinH_ap0 {ms os:List Nat} {s0 s:St} {v:Av} {ch:Cg} (h:WithinH ms os s0 s) (hc:chInH os ch=true):WithinH ms os s0 (s.ap none v ch):=h.ap (fun y hy=>by cases hy) hc
theorem withinH_hw {os:List Nat} {c:Nat} {l:List (Nat×Hb)}:chInH os (.hw (HBS+c) l)=true:=by unfold chInH;exact decide_eq_true (by unfold HBS;omega)
theorem withinH_over {ms os:List Nat} {s0 j:St} (h:AllHp j):WithinH ms os s0 (overH ms os s0 j) :=
 ⟨fun x hx=>by rw [overH_sl,hx];rfl,fun o ho=>⟨by rw [overH_gen,ho];rfl,fun hlt=>by rw [overH_ob hlt,ho];rfl⟩,rfl,overH_hp h⟩
theorem pwp_loopH {env:Env} {k:List It} {Q:Exit→St→Prop} {s:St} {c:PC} (ms os:List Nat) (J:Nat→St→Prop) (m0:Nat) (hs:AllHp s) (h0:J m0 s)
 (h:∀ m j,j.nc=s.nc→AllHp j→J m (overH ms os s j)→pwp env c (exS env (.lp (fun m st=>WithinH ms os s st∧J m st) m :: k) Q) (overH ms os s j)):pwp env (.loop c) (exS env k Q) s :=
 pwp_loop (fun m st=>WithinH ms os s st∧J m st) m0 ⟨WithinH.refl _ _ hs,h0⟩ (fun m st ⟨hW,hJ⟩=>by
  have:=hW.over;rw [this] at hJ ⊢;exact h m st hW.2.2.1 hW.2.2.2 hJ)
theorem wr64 {x:Int} (h1:-9223372036854775808≤x) (h2:x≤9223372036854775807):IntKind.i64.wrap x=x:=IntWalk.i64_in x ⟨h1,h2⟩
theorem wrN {k:Nat} (h:k≤1000000000):IntKind.i64.wrap ((k:Int)+1)=((k+1:Nat):Int):=by
 rw [wr64 (by omega) (by omega)];omega
end Go.Proofs.Ytffcpijeebagfaa
end
section
namespace Go.Proofs.Ytffcpijeebagfaa
open Go Go.RowKit
set_option maxRecDepth 100000
def unN:Option Value→Option (Av×Cg)
 | some (.bool b)=>some (scAv (.bool !b),.no)
 | _=>none
def unG:Option Value→Option (Av×Cg)
 | some (.int k n)=>some (scAv (.int k (k.wrap (0 - n))),.no)
 | _=>none
def unX:Option Value→Option (Av×Cg)
 | some (.int k n)=>some (scAv (.int k (k.wrap (BitVec.ofInt k.bits (if k.signed then -1 else k.max) ^^^ BitVec.ofInt k.bits n).toNat)),.no)
 | _=>none
theorem fn_not {s:St} {d:Nat} {x:PX}:PO.fn s d (.un .not x)=unN (s.val x):=by
 cases h:s.val x with
 | none=>simp only [PO.fn,h,unN]
 | some v=>cases v <;> simp only [PO.fn,h,unN]
theorem fn_neg {s:St} {d:Nat} {x:PX}:PO.fn s d (.un .neg x)=unG (s.val x):=by
 cases h:s.val x with
 | none=>simp only [PO.fn,h,unG]
 | some v=>cases v <;> simp only [PO.fn,h,unG]
theorem fn_xor {s:St} {d:Nat} {x:PX}:PO.fn s d (.un .xor x)=unX (s.val x):=by
 cases h:s.val x with
 | none=>simp only [PO.fn,h,unX]
 | some v=>cases v <;> simp only [PO.fn,h,unX]
theorem evP:type_of% (
 And.intro @evalOps_gT <|
 And.intro @evalOps_gF <|
 And.intro @evalOps_gS <|
 And.intro @evalD_gT <|
 And.intro @evalD_gF <|
 And.intro @evalD_gS <|
 And.intro @pwp_skip <|
 And.intro @pwp_reg <|
 And.intro @pwp_regD <|
 And.intro @pwp_seq <|
 And.intro @pwp_cond <|
 And.intro @pwp_block <|
 And.intro @pwp_exit <|
 @pwp_ret) :=
 And.intro @evalOps_gT <|
 And.intro @evalOps_gF <|
 And.intro @evalOps_gS <|
 And.intro @evalD_gT <|
 And.intro @evalD_gF <|
 And.intro @evalD_gS <|
 And.intro @pwp_skip <|
 And.intro @pwp_reg <|
 And.intro @pwp_regD <|
 And.intro @pwp_seq <|
 And.intro @pwp_cond <|
 And.intro @pwp_block <|
 And.intro @pwp_exit <|
 @pwp_ret
theorem evB:type_of% (
 And.intro @guardOps_skp <|
 And.intro @guardD_skp <|
 And.intro @St.gd.eq_1 <|
 And.intro @isSkp.eq_1 <|
 And.intro @isSkp.eq_2 <|
 And.intro @isSkp.eq_3 <|
 And.intro @isSkp.eq_4 <|
 And.intro @skp.eq_1 <|
 And.intro @condS_some <|
 And.intro @exS_nil <|
 And.intro @exS_c <|
 And.intro @exS_c_ret <|
 And.intro @exS_c_exit <|
 And.intro @exS_bl <|
 And.intro @exS_bl_ret <|
 And.intro @exS_bl_exit <|
 And.intro @exS_lp_ret <|
 And.intro @exS_lp_exit <|
 And.intro @evalOps_nil <|
 And.intro @evalOps_op <|
 And.intro @opS_false <|
 And.intro @opS_true <|
 And.intro @evalOps_guard <|
 And.intro @contOps_some <|
 And.intro @guardOps_some <|
 And.intro @evalD_nil <|
 And.intro @drawn_and <|
 And.intro @List.reverse_cons.{0} <|
 And.intro @List.reverse_nil.{0} <|
 And.intro @evalD_plain <|
 And.intro @evalD_guard <|
 And.intro @goD_op <|
 And.intro @opD_false <|
 And.intro @opD_true <|
 And.intro @contD_some <|
 And.intro @guardD_some <|
 And.intro @callR_none <|
 And.intro @callR_some <|
 And.intro @callR_ptr <|
 And.intro @callRD_ptr <|
 And.intro @callRD_none <|
 And.intro @callRD_some <|
 And.intro @opS_callv <|
 And.intro @opS_ldg <|
 And.intro @opD_callv <|
 And.intro @opD_ldg <|
 And.intro @callV_some <|
 And.intro @ldgV_some <|
 And.intro @callVD_some <|
 And.intro @ldgVD_some <|
 And.intro @fnIsSelf <|
 And.intro @gAtPtr <|
 And.intro @opS_hal <|
 And.intro @opS_next <|
 And.intro @opS_callh <|
 And.intro @opS_callc <|
 And.intro @opS_callp <|
 And.intro @opD_hal <|
 And.intro @opD_callh <|
 And.intro @opD_callc <|
 And.intro @callCS_some <|
 And.intro @callCD_some <|
 And.intro @fnOf_self <|
 And.intro @hpsW_nil <|
 @hpsW_cons) :=
 And.intro @guardOps_skp <|
 And.intro @guardD_skp <|
 And.intro @St.gd.eq_1 <|
 And.intro @isSkp.eq_1 <|
 And.intro @isSkp.eq_2 <|
 And.intro @isSkp.eq_3 <|
 And.intro @isSkp.eq_4 <|
 And.intro @skp.eq_1 <|
 And.intro @condS_some <|
 And.intro @exS_nil <|
 And.intro @exS_c <|
 And.intro @exS_c_ret <|
 And.intro @exS_c_exit <|
 And.intro @exS_bl <|
 And.intro @exS_bl_ret <|
 And.intro @exS_bl_exit <|
 And.intro @exS_lp_ret <|
 And.intro @exS_lp_exit <|
 And.intro @evalOps_nil <|
 And.intro @evalOps_op <|
 And.intro @opS_false <|
 And.intro @opS_true <|
 And.intro @evalOps_guard <|
 And.intro @contOps_some <|
 And.intro @guardOps_some <|
 And.intro @evalD_nil <|
 And.intro @drawn_and <|
 And.intro @List.reverse_cons.{0} <|
 And.intro @List.reverse_nil.{0} <|
 And.intro @evalD_plain <|
 And.intro @evalD_guard <|
 And.intro @goD_op <|
 And.intro @opD_false <|
 And.intro @opD_true <|
 And.intro @contD_some <|
 And.intro @guardD_some <|
 And.intro @callR_none <|
 And.intro @callR_some <|
 And.intro @callR_ptr <|
 And.intro @callRD_ptr <|
 And.intro @callRD_none <|
 And.intro @callRD_some <|
 And.intro @opS_callv <|
 And.intro @opS_ldg <|
 And.intro @opD_callv <|
 And.intro @opD_ldg <|
 And.intro @callV_some <|
 And.intro @ldgV_some <|
 And.intro @callVD_some <|
 And.intro @ldgVD_some <|
 And.intro @fnIsSelf <|
 And.intro @gAtPtr <|
 And.intro @opS_hal <|
 And.intro @opS_next <|
 And.intro @opS_callh <|
 And.intro @opS_callc <|
 And.intro @opS_callp <|
 And.intro @opD_hal <|
 And.intro @opD_callh <|
 And.intro @opD_callc <|
 And.intro @callCS_some <|
 And.intro @callCD_some <|
 And.intro @fnOf_self <|
 And.intro @hpsW_nil <|
 @hpsW_cons
theorem stB:type_of% (
 And.intro @PO.isCall.eq_1 <|
 And.intro @PO.isCall.eq_2 <|
 And.intro @PO.isCall.eq_3 <|
 And.intro @PO.isCall.eq_4 <|
 And.intro @PO.isCall.eq_5 <|
 And.intro @PO.isCall.eq_6 <|
 And.intro @PO.isCall.eq_7 <|
 And.intro @PO.isCall.eq_8 <|
 And.intro @PO.isCall.eq_9 <|
 And.intro @PO.isCall.eq_10 <|
 And.intro @PO.isCall.eq_11 <|
 And.intro @PO.isCall.eq_12 <|
 And.intro @PO.isCall.eq_13 <|
 And.intro @PO.isCall.eq_14 <|
 And.intro @PO.isCall.eq_15 <|
 And.intro @PO.isCall.eq_16 <|
 And.intro @PO.isCall.eq_17 <|
 And.intro @PO.isCall.eq_18 <|
 And.intro @PO.isCall.eq_19 <|
 And.intro @PO.isCall.eq_20 <|
 And.intro @PO.isCall.eq_21 <|
 And.intro @PO.isCall.eq_22 <|
 And.intro @PO.isCall.eq_23 <|
 And.intro @PO.isCall.eq_24 <|
 And.intro @PO.isCall.eq_25 <|
 And.intro @PO.isCall.eq_26 <|
 And.intro @PO.isCall.eq_27 <|
 And.intro @PO.isCall.eq_28 <|
 And.intro @PO.isCall.eq_29 <|
 And.intro @PO.isCall.eq_30 <|
 And.intro @PO.isCall.eq_31 <|
 And.intro @PO.isCall.eq_32 <|
 And.intro @PO.isCall.eq_33 <|
 And.intro @PO.isCall.eq_34 <|
 And.intro @PO.isCall.eq_35 <|
 And.intro @PO.isCall.eq_36 <|
 And.intro @PO.isCall.eq_37 <|
 And.intro @PO.isCall.eq_38 <|
 And.intro @PO.isCall.eq_39 <|
 And.intro @PO.isCall.eq_40 <|
 And.intro @PO.isCall.eq_41 <|
 And.intro @PO.isCall.eq_42 <|
 And.intro @PO.isCall.eq_43 <|
 And.intro @PO.isCall.eq_44 <|
 And.intro @PO.isCall.eq_45 <|
 And.intro @PO.isCall.eq_46 <|
 And.intro @PO.isCall.eq_47 <|
 And.intro @PO.isCall.eq_48 <|
 And.intro @PO.isCall.eq_49 <|
 And.intro @PO.isCall.eq_50 <|
 And.intro @PO.isCall.eq_51 <|
 And.intro @PO.isCall.eq_52 <|
 And.intro @Option.getD_some.{0} <|
 And.intro @Option.getD_none.{0} <|
 And.intro @ap_sl <|
 And.intro @ap_sl0 <|
 And.intro @ap_gen <|
 And.intro @ap_genw <|
 And.intro @ap_genr <|
 And.intro @ap_genn <|
 And.intro @ap_ob <|
 And.intro @ap_obw <|
 And.intro @ap_obr <|
 And.intro @ap_obn <|
 And.intro @wrF_cells <|
 And.intro @rowF_row <|
 And.intro @init_sl <|
 And.intro @initSl.eq_1 <|
 And.intro @initSl.eq_2 <|
 And.intro @initSl.eq_3 <|
 And.intro @init_gen <|
 And.intro @init_ob <|
 And.intro @ev_t <|
 And.intro @ev_int <|
 And.intro @ev_bool <|
 And.intro @ev_string <|
 And.intro @ev_nil <|
 And.intro @ev_agg <|
 And.intro @ev_ptr <|
 And.intro @args_nil <|
 And.intro @args_cons <|
 And.intro @up_at <|
 And.intro @PO.fn.eq_1 <|
 And.intro @PO.fn.eq_2 <|
 And.intro @PO.fn.eq_3 <|
 And.intro @PO.fn.eq_4 <|
 And.intro @PO.fn.eq_5 <|
 And.intro @PO.fn.eq_6 <|
 And.intro @PO.fn.eq_7 <|
 And.intro @PO.fn.eq_8 <|
 And.intro @PO.fn.eq_9 <|
 And.intro @PO.fn.eq_10 <|
 And.intro @PO.fn.eq_11 <|
 And.intro @PO.fn.eq_12 <|
 And.intro @PO.fn.eq_13 <|
 And.intro @PO.fn.eq_14 <|
 And.intro @PO.fn.eq_15 <|
 And.intro @PO.fn.eq_16 <|
 And.intro @PO.fn.eq_17 <|
 And.intro @PO.fn.eq_18 <|
 And.intro @PO.fn.eq_23 <|
 And.intro @PO.fn.eq_24 <|
 And.intro @PO.fn.eq_25 <|
 And.intro @PO.fn.eq_26 <|
 And.intro @PO.fn.eq_27 <|
 And.intro @PO.fn.eq_28 <|
 And.intro @PO.fn.eq_29 <|
 And.intro @PO.fn.eq_30 <|
 And.intro @PO.fn.eq_31 <|
 And.intro @PO.fn.eq_32 <|
 And.intro @PO.fn.eq_33 <|
 And.intro @PO.fn.eq_34 <|
 And.intro @PO.fn.eq_35 <|
 And.intro @PO.fn.eq_36 <|
 And.intro @PO.fn.eq_37 <|
 And.intro @PO.fn.eq_38 <|
 And.intro @PO.fn.eq_39 <|
 And.intro @PO.fn.eq_40 <|
 And.intro @PO.fn.eq_41 <|
 And.intro @PO.fn.eq_42 <|
 And.intro @PO.fn.eq_43 <|
 And.intro @PO.fn.eq_44 <|
 And.intro @PO.fn.eq_45 <|
 And.intro @PO.fn.eq_46 <|
 And.intro @PO.fn.eq_47 <|
 And.intro @PO.fn.eq_48 <|
 And.intro @PO.fn.eq_49 <|
 And.intro @PO.fn.eq_50 <|
 And.intro @PO.fn.eq_51 <|
 And.intro @PO.fn.eq_52 <|
 And.intro @PO.fn.eq_53 <|
 And.intro @PO.fn.eq_54 <|
 And.intro @PO.fn.eq_55 <|
 And.intro @fn_not <|
 And.intro @fn_neg <|
 And.intro @fn_xor <|
 And.intro @unN.eq_1 <|
 And.intro @unG.eq_1 <|
 And.intro @unX.eq_1 <|
 And.intro @PO.rd.eq_1 <|
 And.intro @PO.rd.eq_2 <|
 And.intro @PO.rd.eq_3 <|
 And.intro @PO.rd.eq_4 <|
 And.intro @PO.rd.eq_5 <|
 And.intro @PO.rd.eq_6 <|
 And.intro @PO.rd.eq_7 <|
 And.intro @PO.rd.eq_8 <|
 And.intro @PO.rd.eq_9 <|
 And.intro @PO.rd.eq_10 <|
 And.intro @PO.rd.eq_11 <|
 And.intro @PO.rd.eq_12 <|
 And.intro @PO.rd.eq_13 <|
 And.intro @PO.rd.eq_14 <|
 And.intro @PO.rd.eq_15 <|
 And.intro @PO.rd.eq_16 <|
 And.intro @PO.rd.eq_17 <|
 And.intro @PO.rd.eq_18 <|
 And.intro @PO.rd.eq_19 <|
 And.intro @PO.rd.eq_20 <|
 And.intro @PO.rd.eq_21 <|
 And.intro @PO.rd.eq_22 <|
 And.intro @PO.rd.eq_23 <|
 And.intro @PO.rd.eq_24 <|
 And.intro @PO.rd.eq_25 <|
 And.intro @PO.rd.eq_26 <|
 And.intro @PO.rd.eq_27 <|
 And.intro @PO.rd.eq_28 <|
 And.intro @PO.rd.eq_29 <|
 And.intro @PO.rd.eq_30 <|
 And.intro @Cg.wrs.eq_1 <|
 And.intro @Cg.wrs.eq_2 <|
 And.intro @Cg.wrs.eq_3 <|
 And.intro @Cg.wrs.eq_4 <|
 And.intro @Cg.wrs.eq_5 <|
 And.intro @Cg.wrs.eq_6 <|
 And.intro @Cg.wrs.eq_7 <|
 And.intro @St.cl.eq_1 <|
 And.intro @St.val.eq_1 <|
 And.intro @St.int.eq_1 <|
 And.intro @St.boo.eq_1 <|
 And.intro @St.cs.eq_1 <|
 And.intro @St.parts.eq_1 <|
 And.intro @St.parts.eq_2 <|
 And.intro @scAv.eq_1 <|
 And.intro @Cl.rows.eq_1 <|
 And.intro @Cl.rows.eq_2 <|
 And.intro @Cl.rows.eq_3 <|
 And.intro @Cl.rows.eq_4 <|
 And.intro @Cl.rows.eq_5 <|
 And.intro @Cl.dt.eq_1 <|
 And.intro @Cl.dt.eq_2 <|
 And.intro @Cl.dt.eq_3 <|
 And.intro @Cl.dt.eq_4 <|
 And.intro @Cl.dt.eq_5 <|
 And.intro @Bv.pa.eq_1 <|
 And.intro @Bv.pa.eq_2 <|
 And.intro @Av.pa.eq_1 <|
 And.intro @Av.pa.eq_2 <|
 And.intro @Pa.bv.eq_1 <|
 And.intro @Pa.bv.eq_2 <|
 And.intro @resAv.eq_1 <|
 And.intro @resAv.eq_2 <|
 And.intro @resAv.eq_3 <|
 And.intro @allSome.eq_1 <|
 And.intro @allSome.eq_2 <|
 And.intro @allSome.eq_3 <|
 And.intro @mkAv.eq_1 <|
 And.intro @mkAv.eq_2 <|
 And.intro @wrAt.eq_1 <|
 And.intro @wrAt.eq_2 <|
 And.intro @wrAt.eq_3 <|
 And.intro @wrAt.eq_4 <|
 And.intro @splice.eq_1 <|
 And.intro @fillAll.eq_1 <|
 And.intro @fillAll.eq_2 <|
 And.intro @chunks.eq_1 <|
 And.intro @chunks.eq_2 <|
 And.intro @scBin.eq_1 <|
 And.intro @scBin.eq_2 <|
 And.intro @scBin.eq_3 <|
 And.intro @scBin.eq_4 <|
 And.intro @scBin.eq_5 <|
 And.intro @scBin.eq_6 <|
 And.intro @scBin.eq_7 <|
 And.intro @scBin.eq_8 <|
 And.intro @scBin.eq_9 <|
 And.intro @scBin.eq_10 <|
 And.intro @scBin.eq_11 <|
 And.intro @scBin.eq_12 <|
 And.intro @scBin.eq_13 <|
 And.intro @scBin.eq_14 <|
 And.intro @scBin.eq_15 <|
 And.intro @scBin.eq_16 <|
 And.intro @scBin.eq_17 <|
 And.intro @scBin.eq_18 <|
 And.intro @scBin.eq_19 <|
 And.intro @scBin.eq_20 <|
 And.intro @scBin.eq_21 <|
 And.intro @scBin.eq_22 <|
 And.intro @eqCl.eq_1 <|
 And.intro @eqCl.eq_2 <|
 And.intro @eqCl.eq_3 <|
 And.intro @eqCls.eq_1 <|
 And.intro @eqCls.eq_2 <|
 And.intro @eqCls.eq_3 <|
 And.intro @scMM.eq_1 <|
 And.intro @scMM.eq_2 <|
 And.intro @Option.map_some.{0,0} <|
 And.intro @Option.map_none.{0,0} <|
 And.intro @Option.bind_some.{0,0} <|
 And.intro @List.map_cons.{0,0} <|
 And.intro @List.map_nil.{0,0} <|
 And.intro @List.length_cons.{0} <|
 And.intro @List.length_nil.{0} <|
 And.intro @List.getElem?_cons_succ.{0} <|
 And.intro @List.getElem?_cons_zero.{0} <|
 And.intro @List.take_succ_cons.{0} <|
 And.intro @List.take_zero.{0} <|
 And.intro @List.drop_succ_cons.{0} <|
 And.intro @List.drop_zero.{0} <|
 And.intro @List.cons_append.{0} <|
 And.intro @List.nil_append.{0} <|
 And.intro @List.append_nil.{0} <|
 And.intro @if_true.{1} <|
 And.intro @if_false.{1} <|
 And.intro @ite_true.{1} <|
 And.intro @ite_false.{1} <|
 And.intro @ne_eq.{1} <|
 And.intro @not_true <|
 And.intro @not_false_eq_true <|
 And.intro @Nat.add_zero <|
 And.intro @Nat.zero_add <|
 And.intro @and_true <|
 And.intro @true_and <|
 And.intro @and_self <|
 And.intro @forall_const.{1} <|
 And.intro @forall_const.{0} <|
 And.intro @Bool.not_true <|
 And.intro @Bool.not_false <|
 And.intro @Nat.succ_eq_add_one <|
 And.intro @imp_false <|
 And.intro @false_imp_iff <|
 And.intro @forall_false <|
 And.intro @true_imp_iff <|
 And.intro @Bool.and_true <|
 And.intro @Bool.and_false <|
 And.intro @Bool.true_and <|
 And.intro @Bool.false_and <|
 And.intro @implies_true.{1} <|
 And.intro @implies_true.{0} <|
 And.intro @over_sl <|
 And.intro @over_gen <|
 And.intro @over_ob <|
 And.intro @List.contains_cons.{0} <|
 And.intro @List.contains_nil.{0} <|
 And.intro @Bool.or_false <|
 And.intro @Bool.or_true <|
 And.intro @Bool.false_or <|
 And.intro @Bool.true_or <|
 And.intro @cond_true.{1} <|
 And.intro @cond_false.{1} <|
 And.intro @Bool.cond_true.{0} <|
 And.intro @Bool.cond_false.{0} <|
 And.intro @Int.toNat_natCast <|
 And.intro @Int.natCast_nonneg <|
 And.intro @List.getElem?_map.{0,0} <|
 And.intro @List.length_map.{0,0} <|
 And.intro @List.mem_cons.{0} <|
 And.intro @List.not_mem_nil.{0} <|
 And.intro @forall_eq.{1} <|
 And.intro @forall_eq_or_imp.{1} <|
 And.intro @false_or <|
 And.intro @or_true <|
 And.intro @true_or <|
 And.intro @or_false <|
 And.intro @St.res.eq_1 <|
 And.intro @St.res1.eq_1 <|
 And.intro @St.res1.eq_2 <|
 And.intro @decide_eq_true_eq <|
 And.intro @decide_eq_false_iff_not <|
 And.intro @Cl.abOf.eq_1 <|
 And.intro @Cl.abOf.eq_2 <|
 And.intro @Cl.abOf.eq_3 <|
 And.intro @Cl.abOf.eq_4 <|
 And.intro @Cl.abOf.eq_5 <|
 And.intro @Cl.abOf.eq_6 <|
 And.intro @Cl.abOf.eq_7 <|
 And.intro @Cl.abOf.eq_8 <|
 And.intro @Cl.abOf.eq_9 <|
 And.intro @Bv.abOf.eq_1 <|
 And.intro @Bv.abOf.eq_2 <|
 And.intro @Av.abOf.eq_1 <|
 And.intro @Av.abOf.eq_2 <|
 And.intro @Av.abOf.eq_3 <|
 And.intro @recv_nil <|
 And.intro @recv_cons <|
 And.intro @abAt_ob <|
 And.intro @prcv_nil <|
 And.intro @prcv_cons <|
 And.intro @cellsAt_ob <|
 And.intro @Cl.ptrOf.eq_1 <|
 And.intro @Cl.ptrOf.eq_2 <|
 And.intro @Cl.ptrOf.eq_3 <|
 And.intro @Cl.ptrOf.eq_4 <|
 And.intro @Cl.ptrOf.eq_5 <|
 And.intro @Cl.ptrOf.eq_6 <|
 And.intro @Cl.ptrOf.eq_7 <|
 And.intro @Cl.ptrOf.eq_8 <|
 And.intro @Cl.ptrOf.eq_9 <|
 And.intro @Bv.ptrOf.eq_1 <|
 And.intro @Bv.ptrOf.eq_2 <|
 And.intro @Av.ptrOf.eq_1 <|
 And.intro @Av.ptrOf.eq_2 <|
 And.intro @Av.ptrOf.eq_3 <|
 And.intro @initM_sl0 <|
 And.intro @initM_slS <|
 And.intro @initM_gen <|
 And.intro @initM_ob0 <|
 And.intro @initM_obS <|
 And.intro @noSv.eq_1 <|
 And.intro @noSv.eq_2 <|
 And.intro @List.all_cons.{0} <|
 And.intro @List.all_nil.{0} <|
 And.intro @ap_genb <|
 And.intro @ap_obb <|
 And.intro @newAv.eq_1 <|
 And.intro @newAv.eq_2 <|
 And.intro @List.tail_cons.{0} <|
 And.intro @rowBytes.eq_1 <|
 And.intro @rowBytes.eq_2 <|
 And.intro @rowBytes.eq_3 <|
 And.intro @ap_nc <|
 And.intro @ap_genh <|
 And.intro @ap_gena <|
 And.intro @ap_obh <|
 And.intro @ap_oba <|
 And.intro @hb_no <|
 And.intro @hb_new <|
 And.intro @hb_wr <|
 And.intro @hb_row <|
 And.intro @hb_ab <|
 And.intro @hb_hw1 <|
 And.intro @hb_hw2 <|
 And.intro @hb_all <|
 And.intro @initH_sl <|
 And.intro @initSlH.eq_1 <|
 And.intro @initSlH.eq_2 <|
 And.intro @initSlH.eq_3 <|
 And.intro @initH_gen <|
 And.intro @initH_ob <|
 And.intro @initH_nc <|
 And.intro @initH_hb <|
 And.intro @overH_sl <|
 And.intro @overH_gen <|
 And.intro @overH_ob <|
 And.intro @overH_nc <|
 And.intro @overH_hb <|
 And.intro @St.key.eq_1 <|
 And.intro @scs.eq_1 <|
 And.intro @scs.eq_2 <|
 And.intro @scs.eq_3 <|
 And.intro @hw_evq <|
 And.intro @hws_nil <|
 And.intro @hws_cons <|
 And.intro @Bv.hw.eq_1 <|
 And.intro @Bv.hw.eq_2 <|
 And.intro @Av.hw.eq_1 <|
 And.intro @Av.hw.eq_2 <|
 And.intro @Cl.hc.eq_1 <|
 And.intro @Cl.hc.eq_2 <|
 And.intro @Cl.hc.eq_3 <|
 And.intro @Cl.hc.eq_4 <|
 And.intro @Cl.hc.eq_5 <|
 And.intro @Hc.cl.eq_1 <|
 And.intro @Hc.cl.eq_2 <|
 And.intro @Hw.bv.eq_1 <|
 And.intro @Hw.bv.eq_2 <|
 And.intro @hcs.eq_1 <|
 And.intro @valBv.eq_1 <|
 And.intro @valBv.eq_2 <|
 And.intro @resH.eq_1 <|
 And.intro @resH.eq_2 <|
 And.intro @resH.eq_3 <|
 And.intro @St.hps.eq_1 <|
 And.intro @St.hps.eq_2 <|
 And.intro @rdH.eq_1 <|
 And.intro @hwrAt.eq_1 <|
 And.intro @hwrAt.eq_2 <|
 And.intro @hwrAt.eq_3 <|
 And.intro @hwrAt.eq_4 <|
 And.intro @bvB.eq_1 <|
 And.intro @St.resHs.eq_1 <|
 And.intro @St.resH1.eq_1 <|
 @St.resH1.eq_2) :=
 And.intro @PO.isCall.eq_1 <|
 And.intro @PO.isCall.eq_2 <|
 And.intro @PO.isCall.eq_3 <|
 And.intro @PO.isCall.eq_4 <|
 And.intro @PO.isCall.eq_5 <|
 And.intro @PO.isCall.eq_6 <|
 And.intro @PO.isCall.eq_7 <|
 And.intro @PO.isCall.eq_8 <|
 And.intro @PO.isCall.eq_9 <|
 And.intro @PO.isCall.eq_10 <|
 And.intro @PO.isCall.eq_11 <|
 And.intro @PO.isCall.eq_12 <|
 And.intro @PO.isCall.eq_13 <|
 And.intro @PO.isCall.eq_14 <|
 And.intro @PO.isCall.eq_15 <|
 And.intro @PO.isCall.eq_16 <|
 And.intro @PO.isCall.eq_17 <|
 And.intro @PO.isCall.eq_18 <|
 And.intro @PO.isCall.eq_19 <|
 And.intro @PO.isCall.eq_20 <|
 And.intro @PO.isCall.eq_21 <|
 And.intro @PO.isCall.eq_22 <|
 And.intro @PO.isCall.eq_23 <|
 And.intro @PO.isCall.eq_24 <|
 And.intro @PO.isCall.eq_25 <|
 And.intro @PO.isCall.eq_26 <|
 And.intro @PO.isCall.eq_27 <|
 And.intro @PO.isCall.eq_28 <|
 And.intro @PO.isCall.eq_29 <|
 And.intro @PO.isCall.eq_30 <|
 And.intro @PO.isCall.eq_31 <|
 And.intro @PO.isCall.eq_32 <|
 And.intro @PO.isCall.eq_33 <|
 And.intro @PO.isCall.eq_34 <|
 And.intro @PO.isCall.eq_35 <|
 And.intro @PO.isCall.eq_36 <|
 And.intro @PO.isCall.eq_37 <|
 And.intro @PO.isCall.eq_38 <|
 And.intro @PO.isCall.eq_39 <|
 And.intro @PO.isCall.eq_40 <|
 And.intro @PO.isCall.eq_41 <|
 And.intro @PO.isCall.eq_42 <|
 And.intro @PO.isCall.eq_43 <|
 And.intro @PO.isCall.eq_44 <|
 And.intro @PO.isCall.eq_45 <|
 And.intro @PO.isCall.eq_46 <|
 And.intro @PO.isCall.eq_47 <|
 And.intro @PO.isCall.eq_48 <|
 And.intro @PO.isCall.eq_49 <|
 And.intro @PO.isCall.eq_50 <|
 And.intro @PO.isCall.eq_51 <|
 And.intro @PO.isCall.eq_52 <|
 And.intro @Option.getD_some.{0} <|
 And.intro @Option.getD_none.{0} <|
 And.intro @ap_sl <|
 And.intro @ap_sl0 <|
 And.intro @ap_gen <|
 And.intro @ap_genw <|
 And.intro @ap_genr <|
 And.intro @ap_genn <|
 And.intro @ap_ob <|
 And.intro @ap_obw <|
 And.intro @ap_obr <|
 And.intro @ap_obn <|
 And.intro @wrF_cells <|
 And.intro @rowF_row <|
 And.intro @init_sl <|
 And.intro @initSl.eq_1 <|
 And.intro @initSl.eq_2 <|
 And.intro @initSl.eq_3 <|
 And.intro @init_gen <|
 And.intro @init_ob <|
 And.intro @ev_t <|
 And.intro @ev_int <|
 And.intro @ev_bool <|
 And.intro @ev_string <|
 And.intro @ev_nil <|
 And.intro @ev_agg <|
 And.intro @ev_ptr <|
 And.intro @args_nil <|
 And.intro @args_cons <|
 And.intro @up_at <|
 And.intro @PO.fn.eq_1 <|
 And.intro @PO.fn.eq_2 <|
 And.intro @PO.fn.eq_3 <|
 And.intro @PO.fn.eq_4 <|
 And.intro @PO.fn.eq_5 <|
 And.intro @PO.fn.eq_6 <|
 And.intro @PO.fn.eq_7 <|
 And.intro @PO.fn.eq_8 <|
 And.intro @PO.fn.eq_9 <|
 And.intro @PO.fn.eq_10 <|
 And.intro @PO.fn.eq_11 <|
 And.intro @PO.fn.eq_12 <|
 And.intro @PO.fn.eq_13 <|
 And.intro @PO.fn.eq_14 <|
 And.intro @PO.fn.eq_15 <|
 And.intro @PO.fn.eq_16 <|
 And.intro @PO.fn.eq_17 <|
 And.intro @PO.fn.eq_18 <|
 And.intro @PO.fn.eq_23 <|
 And.intro @PO.fn.eq_24 <|
 And.intro @PO.fn.eq_25 <|
 And.intro @PO.fn.eq_26 <|
 And.intro @PO.fn.eq_27 <|
 And.intro @PO.fn.eq_28 <|
 And.intro @PO.fn.eq_29 <|
 And.intro @PO.fn.eq_30 <|
 And.intro @PO.fn.eq_31 <|
 And.intro @PO.fn.eq_32 <|
 And.intro @PO.fn.eq_33 <|
 And.intro @PO.fn.eq_34 <|
 And.intro @PO.fn.eq_35 <|
 And.intro @PO.fn.eq_36 <|
 And.intro @PO.fn.eq_37 <|
 And.intro @PO.fn.eq_38 <|
 And.intro @PO.fn.eq_39 <|
 And.intro @PO.fn.eq_40 <|
 And.intro @PO.fn.eq_41 <|
 And.intro @PO.fn.eq_42 <|
 And.intro @PO.fn.eq_43 <|
 And.intro @PO.fn.eq_44 <|
 And.intro @PO.fn.eq_45 <|
 And.intro @PO.fn.eq_46 <|
 And.intro @PO.fn.eq_47 <|
 And.intro @PO.fn.eq_48 <|
 And.intro @PO.fn.eq_49 <|
 And.intro @PO.fn.eq_50 <|
 And.intro @PO.fn.eq_51 <|
 And.intro @PO.fn.eq_52 <|
 And.intro @PO.fn.eq_53 <|
 And.intro @PO.fn.eq_54 <|
 And.intro @PO.fn.eq_55 <|
 And.intro @fn_not <|
 And.intro @fn_neg <|
 And.intro @fn_xor <|
 And.intro @unN.eq_1 <|
 And.intro @unG.eq_1 <|
 And.intro @unX.eq_1 <|
 And.intro @PO.rd.eq_1 <|
 And.intro @PO.rd.eq_2 <|
 And.intro @PO.rd.eq_3 <|
 And.intro @PO.rd.eq_4 <|
 And.intro @PO.rd.eq_5 <|
 And.intro @PO.rd.eq_6 <|
 And.intro @PO.rd.eq_7 <|
 And.intro @PO.rd.eq_8 <|
 And.intro @PO.rd.eq_9 <|
 And.intro @PO.rd.eq_10 <|
 And.intro @PO.rd.eq_11 <|
 And.intro @PO.rd.eq_12 <|
 And.intro @PO.rd.eq_13 <|
 And.intro @PO.rd.eq_14 <|
 And.intro @PO.rd.eq_15 <|
 And.intro @PO.rd.eq_16 <|
 And.intro @PO.rd.eq_17 <|
 And.intro @PO.rd.eq_18 <|
 And.intro @PO.rd.eq_19 <|
 And.intro @PO.rd.eq_20 <|
 And.intro @PO.rd.eq_21 <|
 And.intro @PO.rd.eq_22 <|
 And.intro @PO.rd.eq_23 <|
 And.intro @PO.rd.eq_24 <|
 And.intro @PO.rd.eq_25 <|
 And.intro @PO.rd.eq_26 <|
 And.intro @PO.rd.eq_27 <|
 And.intro @PO.rd.eq_28 <|
 And.intro @PO.rd.eq_29 <|
 And.intro @PO.rd.eq_30 <|
 And.intro @Cg.wrs.eq_1 <|
 And.intro @Cg.wrs.eq_2 <|
 And.intro @Cg.wrs.eq_3 <|
 And.intro @Cg.wrs.eq_4 <|
 And.intro @Cg.wrs.eq_5 <|
 And.intro @Cg.wrs.eq_6 <|
 And.intro @Cg.wrs.eq_7 <|
 And.intro @St.cl.eq_1 <|
 And.intro @St.val.eq_1 <|
 And.intro @St.int.eq_1 <|
 And.intro @St.boo.eq_1 <|
 And.intro @St.cs.eq_1 <|
 And.intro @St.parts.eq_1 <|
 And.intro @St.parts.eq_2 <|
 And.intro @scAv.eq_1 <|
 And.intro @Cl.rows.eq_1 <|
 And.intro @Cl.rows.eq_2 <|
 And.intro @Cl.rows.eq_3 <|
 And.intro @Cl.rows.eq_4 <|
 And.intro @Cl.rows.eq_5 <|
 And.intro @Cl.dt.eq_1 <|
 And.intro @Cl.dt.eq_2 <|
 And.intro @Cl.dt.eq_3 <|
 And.intro @Cl.dt.eq_4 <|
 And.intro @Cl.dt.eq_5 <|
 And.intro @Bv.pa.eq_1 <|
 And.intro @Bv.pa.eq_2 <|
 And.intro @Av.pa.eq_1 <|
 And.intro @Av.pa.eq_2 <|
 And.intro @Pa.bv.eq_1 <|
 And.intro @Pa.bv.eq_2 <|
 And.intro @resAv.eq_1 <|
 And.intro @resAv.eq_2 <|
 And.intro @resAv.eq_3 <|
 And.intro @allSome.eq_1 <|
 And.intro @allSome.eq_2 <|
 And.intro @allSome.eq_3 <|
 And.intro @mkAv.eq_1 <|
 And.intro @mkAv.eq_2 <|
 And.intro @wrAt.eq_1 <|
 And.intro @wrAt.eq_2 <|
 And.intro @wrAt.eq_3 <|
 And.intro @wrAt.eq_4 <|
 And.intro @splice.eq_1 <|
 And.intro @fillAll.eq_1 <|
 And.intro @fillAll.eq_2 <|
 And.intro @chunks.eq_1 <|
 And.intro @chunks.eq_2 <|
 And.intro @scBin.eq_1 <|
 And.intro @scBin.eq_2 <|
 And.intro @scBin.eq_3 <|
 And.intro @scBin.eq_4 <|
 And.intro @scBin.eq_5 <|
 And.intro @scBin.eq_6 <|
 And.intro @scBin.eq_7 <|
 And.intro @scBin.eq_8 <|
 And.intro @scBin.eq_9 <|
 And.intro @scBin.eq_10 <|
 And.intro @scBin.eq_11 <|
 And.intro @scBin.eq_12 <|
 And.intro @scBin.eq_13 <|
 And.intro @scBin.eq_14 <|
 And.intro @scBin.eq_15 <|
 And.intro @scBin.eq_16 <|
 And.intro @scBin.eq_17 <|
 And.intro @scBin.eq_18 <|
 And.intro @scBin.eq_19 <|
 And.intro @scBin.eq_20 <|
 And.intro @scBin.eq_21 <|
 And.intro @scBin.eq_22 <|
 And.intro @eqCl.eq_1 <|
 And.intro @eqCl.eq_2 <|
 And.intro @eqCl.eq_3 <|
 And.intro @eqCls.eq_1 <|
 And.intro @eqCls.eq_2 <|
 And.intro @eqCls.eq_3 <|
 And.intro @scMM.eq_1 <|
 And.intro @scMM.eq_2 <|
 And.intro @Option.map_some.{0,0} <|
 And.intro @Option.map_none.{0,0} <|
 And.intro @Option.bind_some.{0,0} <|
 And.intro @List.map_cons.{0,0} <|
 And.intro @List.map_nil.{0,0} <|
 And.intro @List.length_cons.{0} <|
 And.intro @List.length_nil.{0} <|
 And.intro @List.getElem?_cons_succ.{0} <|
 And.intro @List.getElem?_cons_zero.{0} <|
 And.intro @List.take_succ_cons.{0} <|
 And.intro @List.take_zero.{0} <|
 And.intro @List.drop_succ_cons.{0} <|
 And.intro @List.drop_zero.{0} <|
 And.intro @List.cons_append.{0} <|
 And.intro @List.nil_append.{0} <|
 And.intro @List.append_nil.{0} <|
 And.intro @if_true.{1} <|
 And.intro @if_false.{1} <|
 And.intro @ite_true.{1} <|
 And.intro @ite_false.{1} <|
 And.intro @ne_eq.{1} <|
 And.intro @not_true <|
 And.intro @not_false_eq_true <|
 And.intro @Nat.add_zero <|
 And.intro @Nat.zero_add <|
 And.intro @and_true <|
 And.intro @true_and <|
 And.intro @and_self <|
 And.intro @forall_const.{1} <|
 And.intro @forall_const.{0} <|
 And.intro @Bool.not_true <|
 And.intro @Bool.not_false <|
 And.intro @Nat.succ_eq_add_one <|
 And.intro @imp_false <|
 And.intro @false_imp_iff <|
 And.intro @forall_false <|
 And.intro @true_imp_iff <|
 And.intro @Bool.and_true <|
 And.intro @Bool.and_false <|
 And.intro @Bool.true_and <|
 And.intro @Bool.false_and <|
 And.intro @implies_true.{1} <|
 And.intro @implies_true.{0} <|
 And.intro @over_sl <|
 And.intro @over_gen <|
 And.intro @over_ob <|
 And.intro @List.contains_cons.{0} <|
 And.intro @List.contains_nil.{0} <|
 And.intro @Bool.or_false <|
 And.intro @Bool.or_true <|
 And.intro @Bool.false_or <|
 And.intro @Bool.true_or <|
 And.intro @cond_true.{1} <|
 And.intro @cond_false.{1} <|
 And.intro @Bool.cond_true.{0} <|
 And.intro @Bool.cond_false.{0} <|
 And.intro @Int.toNat_natCast <|
 And.intro @Int.natCast_nonneg <|
 And.intro @List.getElem?_map.{0,0} <|
 And.intro @List.length_map.{0,0} <|
 And.intro @List.mem_cons.{0} <|
 And.intro @List.not_mem_nil.{0} <|
 And.intro @forall_eq.{1} <|
 And.intro @forall_eq_or_imp.{1} <|
 And.intro @false_or <|
 And.intro @or_true <|
 And.intro @true_or <|
 And.intro @or_false <|
 And.intro @St.res.eq_1 <|
 And.intro @St.res1.eq_1 <|
 And.intro @St.res1.eq_2 <|
 And.intro @decide_eq_true_eq <|
 And.intro @decide_eq_false_iff_not <|
 And.intro @Cl.abOf.eq_1 <|
 And.intro @Cl.abOf.eq_2 <|
 And.intro @Cl.abOf.eq_3 <|
 And.intro @Cl.abOf.eq_4 <|
 And.intro @Cl.abOf.eq_5 <|
 And.intro @Cl.abOf.eq_6 <|
 And.intro @Cl.abOf.eq_7 <|
 And.intro @Cl.abOf.eq_8 <|
 And.intro @Cl.abOf.eq_9 <|
 And.intro @Bv.abOf.eq_1 <|
 And.intro @Bv.abOf.eq_2 <|
 And.intro @Av.abOf.eq_1 <|
 And.intro @Av.abOf.eq_2 <|
 And.intro @Av.abOf.eq_3 <|
 And.intro @recv_nil <|
 And.intro @recv_cons <|
 And.intro @abAt_ob <|
 And.intro @prcv_nil <|
 And.intro @prcv_cons <|
 And.intro @cellsAt_ob <|
 And.intro @Cl.ptrOf.eq_1 <|
 And.intro @Cl.ptrOf.eq_2 <|
 And.intro @Cl.ptrOf.eq_3 <|
 And.intro @Cl.ptrOf.eq_4 <|
 And.intro @Cl.ptrOf.eq_5 <|
 And.intro @Cl.ptrOf.eq_6 <|
 And.intro @Cl.ptrOf.eq_7 <|
 And.intro @Cl.ptrOf.eq_8 <|
 And.intro @Cl.ptrOf.eq_9 <|
 And.intro @Bv.ptrOf.eq_1 <|
 And.intro @Bv.ptrOf.eq_2 <|
 And.intro @Av.ptrOf.eq_1 <|
 And.intro @Av.ptrOf.eq_2 <|
 And.intro @Av.ptrOf.eq_3 <|
 And.intro @initM_sl0 <|
 And.intro @initM_slS <|
 And.intro @initM_gen <|
 And.intro @initM_ob0 <|
 And.intro @initM_obS <|
 And.intro @noSv.eq_1 <|
 And.intro @noSv.eq_2 <|
 And.intro @List.all_cons.{0} <|
 And.intro @List.all_nil.{0} <|
 And.intro @ap_genb <|
 And.intro @ap_obb <|
 And.intro @newAv.eq_1 <|
 And.intro @newAv.eq_2 <|
 And.intro @List.tail_cons.{0} <|
 And.intro @rowBytes.eq_1 <|
 And.intro @rowBytes.eq_2 <|
 And.intro @rowBytes.eq_3 <|
 And.intro @ap_nc <|
 And.intro @ap_genh <|
 And.intro @ap_gena <|
 And.intro @ap_obh <|
 And.intro @ap_oba <|
 And.intro @hb_no <|
 And.intro @hb_new <|
 And.intro @hb_wr <|
 And.intro @hb_row <|
 And.intro @hb_ab <|
 And.intro @hb_hw1 <|
 And.intro @hb_hw2 <|
 And.intro @hb_all <|
 And.intro @initH_sl <|
 And.intro @initSlH.eq_1 <|
 And.intro @initSlH.eq_2 <|
 And.intro @initSlH.eq_3 <|
 And.intro @initH_gen <|
 And.intro @initH_ob <|
 And.intro @initH_nc <|
 And.intro @initH_hb <|
 And.intro @overH_sl <|
 And.intro @overH_gen <|
 And.intro @overH_ob <|
 And.intro @overH_nc <|
 And.intro @overH_hb <|
 And.intro @St.key.eq_1 <|
 And.intro @scs.eq_1 <|
 And.intro @scs.eq_2 <|
 And.intro @scs.eq_3 <|
 And.intro @hw_evq <|
 And.intro @hws_nil <|
 And.intro @hws_cons <|
 And.intro @Bv.hw.eq_1 <|
 And.intro @Bv.hw.eq_2 <|
 And.intro @Av.hw.eq_1 <|
 And.intro @Av.hw.eq_2 <|
 And.intro @Cl.hc.eq_1 <|
 And.intro @Cl.hc.eq_2 <|
 And.intro @Cl.hc.eq_3 <|
 And.intro @Cl.hc.eq_4 <|
 And.intro @Cl.hc.eq_5 <|
 And.intro @Hc.cl.eq_1 <|
 And.intro @Hc.cl.eq_2 <|
 And.intro @Hw.bv.eq_1 <|
 And.intro @Hw.bv.eq_2 <|
 And.intro @hcs.eq_1 <|
 And.intro @valBv.eq_1 <|
 And.intro @valBv.eq_2 <|
 And.intro @resH.eq_1 <|
 And.intro @resH.eq_2 <|
 And.intro @resH.eq_3 <|
 And.intro @St.hps.eq_1 <|
 And.intro @St.hps.eq_2 <|
 And.intro @rdH.eq_1 <|
 And.intro @hwrAt.eq_1 <|
 And.intro @hwrAt.eq_2 <|
 And.intro @hwrAt.eq_3 <|
 And.intro @hwrAt.eq_4 <|
 And.intro @bvB.eq_1 <|
 And.intro @St.resHs.eq_1 <|
 And.intro @St.resH1.eq_1 <|
 @St.resH1.eq_2
end Go.Proofs.Ytffcpijeebagfaa
end
section
namespace Go.Proofs.Ytffcpijeebagfaa
open Go.RowKit
structure Ev where
 g:Int
 kind:Int
 obj:Int
 off:Int
 k:Int
 n:Int
 fn:Int
 pc:Int
 stack:Int
deriving DecidableEq,Inhabited
def I64 (x:Int):Prop:=-9223372036854775808≤x∧x≤9223372036854775807
def Ev.wf (e:Ev):Prop:=I64 e.g∧I64 e.kind∧I64 e.obj∧I64 e.off∧I64 e.k∧I64 e.n∧I64 e.fn∧I64 e.pc∧I64 e.stack
def Ev.cells (e:Ev):List Value:=[.int .i64 e.g,.int .i64 e.kind,.int .i64 e.obj,.int .i64 e.off,.int .i64 e.k,.int .i64 e.n,.int .i64 e.fn,.int .i64 e.pc,.int .i64 e.stack]
def Ev.val (e:Ev):Value:=.agg #[.int .i64 e.g,.int .i64 e.kind,.int .i64 e.obj,.int .i64 e.off,.int .i64 e.k,.int .i64 e.n,.int .i64 e.fn,.int .i64 e.pc,.int .i64 e.stack]
def numberedB (k:Int):Bool:=decide (15≤k∧k≤18)
def isKindB (k:Int):Bool:=decide (1≤k∧k≤20)
def chanB (k:Int):Bool:=decide (15≤k∧k≤20)
def rangeB (x:Int):Bool:=decide (0≤x∧x≤2147483647)
def Ev.rest (e:Ev):Bool :=
 if e.kind=14 then decide (e.obj=0∧e.off=0∧e.n=0∧1≤e.k∧e.k < 8)
 else if 15≤e.kind∧e.kind≤18 then decide (e.off=0∧e.n≤64)
 else if 19≤e.kind then decide (e.off=0∧e.n≤64∧e.k=0)
 else decide (e.k=0∧e.n=0)
def Ev.valid (e:Ev):Bool:=isKindB e.kind && decide (0≤e.g∧e.g < 8) &&
 (rangeB e.obj && rangeB e.off && rangeB e.k && rangeB e.n && rangeB e.fn && rangeB e.pc && rangeB e.stack) && e.rest
structure Ch where
 cap:Int
 sent:Int
 recv:Int
 closed:Bool
deriving DecidableEq,Inhabited
def ch0:Ch:=⟨0,0,0,false⟩
structure Mu where
 locked:Bool
 readers:Int
deriving DecidableEq,Inhabited
def mu0:Mu:=⟨false,0⟩
structure Grp where
 kinds:List Int
 obj:Int
 k:Int
 n:Int
 snd:Int
 rcv:Int
def grp0:Grp:=⟨[],0,0,0,0,0⟩
structure TS where
 events:Int
 gor:Int
 chans:Int→Option Ch
 mus:Int×Int→Option Mu
 done:Int×Int→Option Bool
 grp:Grp
def TS.new:TS:=⟨0,1,fun _=>none,fun _=>none,fun _=>none,grp0⟩
def upd {κ:Type} [DecidableEq κ] {α:Type} (f:κ→Option α) (x:κ) (v:α):κ→Option α:=fun y=>if y=x then some v else f y
theorem upd_same {κ:Type} [DecidableEq κ] {α:Type} (f:κ→Option α) (x:κ) (v:α):upd f x v x=some v:=if_pos rfl
theorem upd_other {κ:Type} [DecidableEq κ] {α:Type} (f:κ→Option α) {x y:κ} (v:α) (h:y≠x):upd f x v y=f y:=if_neg h
theorem upd_upd {κ:Type} [DecidableEq κ] {α:Type} (f:κ→Option α) (x:κ) (v u:α):upd (upd f x v) x u=upd f x u:=by
 funext y;unfold upd;split <;> rfl
def Ch.count (c:Ch) (kind:Int):Ch:=if kind=15 then { c with sent:=c.sent+1 } else if kind=17 then { c with recv:=c.recv+1 } else c
def TS.count (s:TS) (e:Ev):TS:={ s with chans:=upd s.chans e.obj (((s.chans e.obj).getD ch0).count e.kind) }
def sendsB (k:Int):Bool:=decide (k=15∨k=16)
def Grp.own (o:Grp) (kind:Int):Int:=if sendsB kind=true then o.snd else o.rcv
def Grp.other (o:Grp) (kind:Int):Int:=if sendsB kind=true then o.rcv else o.snd
def Grp.next (o:Grp) (e:Ev):Grp :=
 if sendsB e.kind=true then { o with kinds:=o.kinds.tail,snd:=e.g } else { o with kinds:=o.kinds.tail,rcv:=e.g }
def Grp.fits (o:Grp) (e:Ev):Bool :=
 decide (e.kind=o.kinds.headD 0∧e.obj=o.obj∧e.k=o.k∧e.n=o.n) && !(decide (o.own e.kind < 0∧e.g=o.other e.kind) || decide (0≤o.own e.kind∧e.g≠o.own e.kind))
def TS.proceed (s:TS) (e:Ev):Option TS :=
 if s.grp.fits e=true then some { s.count e with grp:=s.grp.next e } else none
def TS.chan (s:TS) (e:Ev):Ch:=match s.chans e.obj with
 | some c=>c
 | none=>{ ch0 with cap:=e.n }
def TS.start (s:TS) (e:Ev) (c:Ch) (kinds:List Int) (snd rcv:Int):TS :=
 { s with chans:=upd s.chans e.obj (c.count e.kind),grp:=⟨kinds,e.obj,e.k,e.n,snd,rcv⟩ }
def Ch.missing (c:Ch) (kind:Int) (alone:Bool):Option (List Int) :=
 if kind=15 then (if c.sent - c.recv < c.cap then some [16] else if c.cap=0∧alone=false then some [17,18,16] else none)
 else (if c.recv < c.sent then some [18] else if c.closed=false∧alone=false then some [15,18,16] else none)
def TS.operate (s:TS) (e:Ev):Option TS :=
 let c:=s.chan e
 if c.cap≠e.n then none
 else if e.kind=19 then (if c.closed=true then none else some { s with chans:=upd s.chans e.obj { c with closed:=true } })
 else if e.kind=20 then (if c.closed=true∧c.sent=c.recv then some s else none)
 else if e.kind=15 then (if c.closed=true∨e.k≠c.sent then none else (c.missing 15 (decide (s.gor=1))).map fun l=>s.start e c l e.g (-1))
 else if e.kind=17 then (if e.k≠c.recv then none else (c.missing 17 (decide (s.gor=1))).map fun l=>s.start e c l (-1) e.g)
 else none
def TS.mu (s:TS) (e:Ev):Mu:=(s.mus (e.obj,e.off)).getD mu0
def TS.simple (s:TS) (e:Ev):Option TS :=
 let m:=s.mu e
 let put (m:Mu):Option TS:=some { s with mus:=upd s.mus (e.obj,e.off) m }
 if e.kind=6 then (if m.locked=true∨0 < m.readers then none else put { m with locked:=true })
 else if e.kind=7 then (if m.locked=false then none else put { m with locked:=false })
 else if e.kind=8 then (if m.locked=true then none else put { m with readers:=m.readers+1 })
 else if e.kind=9 then (if m.readers=0 then none else put { m with readers:=m.readers - 1 })
 else if e.kind=12 then (if (s.done (e.obj,e.off)).getD false=true then none else some { s with done:=upd s.done (e.obj,e.off) true })
 else if e.kind=13 then (if (s.done (e.obj,e.off)).getD false=true then some s else none)
 else if e.kind=14 then (if e.k≠s.gor then none else some { s with gor:=s.gor+1 })
 else some s
def TS.isOpen (s:TS):Bool:=decide (0 < s.grp.kinds.length)
def TS.part (s:TS) (e:Ev):Option TS :=
 if s.isOpen=true then s.proceed e else if chanB e.kind=true then s.operate e else s.simple e
def TS.admits (s:TS) (e:Ev):Bool:=e.valid && decide (s.events < 5000) && decide (e.g < s.gor)
def TS.add (s:TS) (e:Ev):Option TS :=
 if s.admits e=true then (s.part e).map fun t=>{ t with events:=t.events+1 } else none
structure TS.wf (s:TS):Prop where
 ev:0≤s.events∧s.events≤5000
 gr:1≤s.gor∧s.gor≤8
 ch:∀ x c,s.chans x=some c→(0≤c.sent∧c.sent≤s.events)∧(0≤c.recv∧c.recv≤s.events)∧(0≤c.cap∧c.cap≤64)
 mu:∀ x m,s.mus x=some m→0≤m.readers∧m.readers≤s.events
 kd:s.grp.kinds.length≤3
theorem TS.wf_new:TS.new.wf:=⟨by decide,by decide,(fun _ _ h=>by cases h),(fun _ _ h=>by cases h),by decide⟩
theorem Ev.valid_n {e:Ev} (h:e.valid=true):0≤e.n∧e.n≤2147483647:=by
 simp only [Ev.valid,rangeB,Bool.and_eq_true,decide_eq_true_eq] at h;omega
theorem Ev.valid_k {e:Ev} (h:e.valid=true):0≤e.k∧e.k≤2147483647:=by
 simp only [Ev.valid,rangeB,Bool.and_eq_true,decide_eq_true_eq] at h;omega
theorem Ev.valid_obj {e:Ev} (h:e.valid=true):0≤e.obj∧e.obj≤2147483647:=by
 simp only [Ev.valid,rangeB,Bool.and_eq_true,decide_eq_true_eq] at h;omega
theorem Ev.valid_off {e:Ev} (h:e.valid=true):0≤e.off∧e.off≤2147483647:=by
 simp only [Ev.valid,rangeB,Bool.and_eq_true,decide_eq_true_eq] at h;omega
theorem Ev.valid_g {e:Ev} (h:e.valid=true):0≤e.g∧e.g < 8:=by
 simp only [Ev.valid,rangeB,Bool.and_eq_true,decide_eq_true_eq] at h;omega
theorem Ev.valid_kind {e:Ev} (h:e.valid=true):1≤e.kind∧e.kind≤20:=by
 simp only [Ev.valid,isKindB,Bool.and_eq_true,decide_eq_true_eq] at h;omega
theorem Ev.valid_cap {e:Ev} (h:e.valid=true) (hk:chanB e.kind=true):e.n≤64:=by
 simp only [Ev.valid,Ev.rest,Bool.and_eq_true] at h;simp only [chanB,decide_eq_true_eq] at hk;have h2:=h.2;rw [if_neg (by omega)] at h2;split at h2
 ·simp at h2;omega
 ·rw [if_pos (by omega)] at h2;simp at h2;omega
theorem Ev.valid_go {e:Ev} (h:e.valid=true) (hk:e.kind=14):1≤e.k∧e.k < 8:=by
 simp only [Ev.valid,Ev.rest,Bool.and_eq_true] at h;have h2:=h.2;rw [if_pos hk] at h2;simp at h2;omega
theorem Ch.count_bd {c:Ch} {B kind:Int} (h:(0≤c.sent∧c.sent≤B)∧(0≤c.recv∧c.recv≤B)∧(0≤c.cap∧c.cap≤64)) :
 (0≤(c.count kind).sent∧(c.count kind).sent≤B+1)∧(0≤(c.count kind).recv∧(c.count kind).recv≤B+1)∧(0≤(c.count kind).cap∧(c.count kind).cap≤64):=by
 unfold Ch.count;split
 ·dsimp only;omega
 ·split
  ·dsimp only;omega
  ·omega
theorem TS.chan_bd {s:TS} (h:s.wf) {e:Ev} (hv:e.valid=true) (hk:chanB e.kind=true) :
 (0≤(s.chan e).sent∧(s.chan e).sent≤s.events)∧(0≤(s.chan e).recv∧(s.chan e).recv≤s.events)∧(0≤(s.chan e).cap∧(s.chan e).cap≤64):=by
 unfold TS.chan;have h1:=h.ev;have h2:=Ev.valid_cap hv hk;have h3:=Ev.valid_n hv
 cases hc:s.chans e.obj with
 | none=>dsimp [ch0];omega
 | some c=>exact h.ch _ _ hc
theorem TS.mu_bd {s:TS} (h:s.wf) (e:Ev):0≤(s.mu e).readers∧(s.mu e).readers≤s.events:=by
 unfold TS.mu;have h1:=h.ev
 cases hc:s.mus (e.obj,e.off) with
 | none=>dsimp [mu0];omega
 | some m=>exact h.mu _ _ hc
theorem upd_all {κ:Type} [DecidableEq κ] {α:Type} {f:κ→Option α} {x:κ} {v:α} {p:α→Prop} (hf:∀ y c,f y=some c→p c) (hv:p v):∀ y c,upd f x v y=some c→p c:=by
 intro y c h;unfold upd at h;split at h
 ·cases h;exact hv
 ·exact hf y c h
theorem TS.part_wf {s t:TS} (h:s.wf) {e:Ev} (hv:e.valid=true) (hp:s.part e=some t) :
 t.events=s.events∧(1≤t.gor∧t.gor≤8)∧(∀ x c,t.chans x=some c→(0≤c.sent∧c.sent≤s.events+1)∧(0≤c.recv∧c.recv≤s.events+1)∧(0≤c.cap∧c.cap≤64)) ∧
  (∀ x m,t.mus x=some m→0≤m.readers∧m.readers≤s.events+1)∧t.grp.kinds.length≤3:=by
 have hch:∀ x c,s.chans x=some c→(0≤c.sent∧c.sent≤s.events+1)∧(0≤c.recv∧c.recv≤s.events+1)∧(0≤c.cap∧c.cap≤64):=fun x c hc=>by
  have:=h.ch x c hc;omega
 have hmu:∀ x m,s.mus x=some m→0≤m.readers∧m.readers≤s.events+1:=fun x m hm=>by
  have:=h.mu x m hm;omega
 have hgr:=h.gr;have hkd:=h.kd;have hev:=h.ev;unfold TS.part at hp;split at hp
 ·-- proceed
  unfold TS.proceed at hp;split at hp
  ·cases hp;refine ⟨rfl,hgr,?_,hmu,?_⟩
   ·refine upd_all hch (Ch.count_bd ?_)
    cases hc:s.chans e.obj with
    | none=>dsimp [ch0];omega
    | some c=>exact h.ch _ _ hc
   ·unfold Grp.next;split <;> (simp;omega)
  ·cases hp
 ·split at hp
  ·-- operate
   rename_i hk;have hb:=TS.chan_bd h hv hk;unfold TS.operate at hp;dsimp only at hp;split at hp
   ·cases hp
   split at hp
   ·split at hp
    ·cases hp
    ·cases hp;exact ⟨rfl,hgr,upd_all hch (by dsimp only;omega),hmu,hkd⟩
   split at hp
   ·split at hp
    ·cases hp;exact ⟨rfl,hgr,hch,hmu,hkd⟩
    ·cases hp
   split at hp
   ·split at hp
    ·cases hp
    ·simp only [Option.map_eq_some_iff] at hp;obtain ⟨l,hl,rfl⟩:=hp;refine ⟨rfl,hgr,upd_all hch (Ch.count_bd hb),hmu,?_⟩;unfold Ch.missing at hl;simp only [if_pos] at hl;split at hl
     ·cases hl;simp [TS.start]
     ·split at hl
      ·cases hl;simp [TS.start]
      ·cases hl
   split at hp
   ·split at hp
    ·cases hp
    ·simp only [Option.map_eq_some_iff] at hp;obtain ⟨l,hl,rfl⟩:=hp;refine ⟨rfl,hgr,upd_all hch (Ch.count_bd hb),hmu,?_⟩;unfold Ch.missing at hl;rw [if_neg (by decide)] at hl;split at hl
     ·cases hl;simp [TS.start]
     ·split at hl
      ·cases hl;simp [TS.start]
      ·cases hl
   ·cases hp
  ·-- simple
   have hm:=TS.mu_bd h e;unfold TS.simple at hp;dsimp only at hp;split at hp
   ·split at hp
    ·cases hp
    ·cases hp;exact ⟨rfl,hgr,hch,upd_all hmu (by dsimp only;omega),hkd⟩
   split at hp
   ·split at hp
    ·cases hp
    ·cases hp;exact ⟨rfl,hgr,hch,upd_all hmu (by dsimp only;omega),hkd⟩
   split at hp
   ·split at hp
    ·cases hp
    ·cases hp;exact ⟨rfl,hgr,hch,upd_all hmu (by dsimp only;omega),hkd⟩
   split at hp
   ·split at hp
    ·cases hp
    ·cases hp;exact ⟨rfl,hgr,hch,upd_all hmu (by dsimp only;omega),hkd⟩
   split at hp
   ·split at hp
    ·cases hp
    ·cases hp;exact ⟨rfl,hgr,hch,hmu,hkd⟩
   split at hp
   ·split at hp
    ·cases hp;exact ⟨rfl,hgr,hch,hmu,hkd⟩
    ·cases hp
   split at hp
   ·rename_i hgo;have:=Ev.valid_go hv hgo;split at hp
    ·cases hp
    ·cases hp;exact ⟨rfl,by dsimp only;omega,hch,hmu,hkd⟩
   ·cases hp;exact ⟨rfl,hgr,hch,hmu,hkd⟩
theorem TS.add_wf {s t:TS} (h:s.wf) {e:Ev} (ha:s.add e=some t):t.wf:=by
 unfold TS.add at ha;split at ha
 ·rename_i had;simp only [TS.admits,Bool.and_eq_true,decide_eq_true_eq] at had;simp only [Option.map_eq_some_iff] at ha;obtain ⟨u,hu,rfl⟩:=ha;obtain ⟨h1,h2,h3,h4,h5⟩:=TS.part_wf h had.1.1 hu;have hev:=h.ev;exact ⟨by dsimp only;omega,h2,fun x c hc=>by have:=h3 x c hc;dsimp only;omega,fun x m hm=>by have:=h4 x m hm;dsimp only;omega,h5⟩
 ·cases ha
section
variable {s:TS} {g kind obj off k en fn pc stack cap sent recv:Int} {closed:Bool}
 (hc:s.chan ⟨g,kind,obj,off,k,en,fn,pc,stack⟩=⟨cap,sent,recv,closed⟩)
include hc
theorem TS.op_eq:s.operate ⟨g,kind,obj,off,k,en,fn,pc,stack⟩ =
 if cap≠en then none
 else if kind=19 then (if closed=true then none else some { s with chans:=upd s.chans obj ⟨cap,sent,recv,true⟩ })
 else if kind=20 then (if closed=true∧sent=recv then some s else none)
 else if kind=15 then (if closed=true∨k≠sent then none else ((⟨cap,sent,recv,closed⟩:Ch).missing 15 (decide (s.gor=1))).map fun l=>s.start ⟨g,kind,obj,off,k,en,fn,pc,stack⟩ ⟨cap,sent,recv,closed⟩ l g (-1))
 else if kind=17 then (if k≠recv then none else ((⟨cap,sent,recv,closed⟩:Ch).missing 17 (decide (s.gor=1))).map fun l=>s.start ⟨g,kind,obj,off,k,en,fn,pc,stack⟩ ⟨cap,sent,recv,closed⟩ l (-1) g)
 else none:=by
 unfold TS.operate;rw [hc]
theorem TS.op_nA (h1:(cap != en)=true):s.operate ⟨g,kind,obj,off,k,en,fn,pc,stack⟩=none:=by
 rw [TS.op_eq hc];simp_all
theorem TS.op_nB (h1:(kind == 19)=true) (h2:closed=true):s.operate ⟨g,kind,obj,off,k,en,fn,pc,stack⟩=none:=by
 rw [TS.op_eq hc];simp_all
theorem TS.op_n20 (h1:(kind == 20)=true) (h2:¬closed=true):s.operate ⟨g,kind,obj,off,k,en,fn,pc,stack⟩=none:=by
 rw [TS.op_eq hc];simp_all
theorem TS.op_nD (h1:(kind == 15)=true) (h2:closed=true):s.operate ⟨g,kind,obj,off,k,en,fn,pc,stack⟩=none:=by
 rw [TS.op_eq hc];simp_all
theorem TS.op_nE (h1:(kind == 15)=true) (h2:(k != sent)=true):s.operate ⟨g,kind,obj,off,k,en,fn,pc,stack⟩=none:=by
 rw [TS.op_eq hc];simp_all
theorem TS.op_nF (h1:(kind == 15)=true) (h2:cap≤sent - recv) (h3:(!s.gor == 1)=false):s.operate ⟨g,kind,obj,off,k,en,fn,pc,stack⟩=none:=by
 rw [TS.op_eq hc];simp_all [Ch.missing];intros;omega
theorem TS.op_nG (h1:(kind == 15)=true) (h2:cap≤sent - recv) (h3:¬cap=0):s.operate ⟨g,kind,obj,off,k,en,fn,pc,stack⟩=none:=by
 rw [TS.op_eq hc];simp_all [Ch.missing];intros;omega
theorem TS.op_nH (h1:(kind == 17)=true) (h2:(k != recv)=true):s.operate ⟨g,kind,obj,off,k,en,fn,pc,stack⟩=none:=by
 rw [TS.op_eq hc];simp_all
theorem TS.op_nI (h1:(kind == 17)=true) (h2:sent≤recv) (h3:closed=true):s.operate ⟨g,kind,obj,off,k,en,fn,pc,stack⟩=none:=by
 have h4:¬ recv < sent:=by omega
 rw [TS.op_eq hc];simp_all [Ch.missing]
theorem TS.op_nJ (h1:(kind == 17)=true) (h2:sent≤recv) (h3:(!s.gor == 1)=false):s.operate ⟨g,kind,obj,off,k,en,fn,pc,stack⟩=none:=by
 have h4:¬ recv < sent:=by omega
 rw [TS.op_eq hc];simp_all [Ch.missing]
theorem TS.op_nK (h1:(kind == 19)=false) (h2:(kind == 20)=false) (h3:(kind == 15)=false) (h4:(kind == 17)=false):s.operate ⟨g,kind,obj,off,k,en,fn,pc,stack⟩=none:=by
 rw [TS.op_eq hc];simp_all
theorem TS.op_s19 (h0:(cap != en)=false) (h1:(kind == 19)=true) (h2:closed=false):s.operate ⟨g,kind,obj,off,k,en,fn,pc,stack⟩=some { s with chans:=upd s.chans obj ⟨cap,sent,recv,true⟩ }:=by
 rw [TS.op_eq hc];simp_all
theorem TS.op_s20 (h0:(cap != en)=false) (h1:(kind == 20)=true) (h2:closed=true):s.operate ⟨g,kind,obj,off,k,en,fn,pc,stack⟩=if sent=recv then some s else none:=by
 rw [TS.op_eq hc];simp_all
theorem TS.op_s15a (h0:(cap != en)=false) (h1:(kind == 15)=true) (h2:¬closed=true) (h3:(k != sent)=false) (h4:sent - recv < cap):s.operate ⟨g,kind,obj,off,k,en,fn,pc,stack⟩=some (s.start ⟨g,kind,obj,off,k,en,fn,pc,stack⟩ ⟨cap,sent,recv,closed⟩ [16] g (-1)):=by
 rw [TS.op_eq hc];simp_all [Ch.missing]
theorem TS.op_s15b (h0:(cap != en)=false) (h1:(kind == 15)=true) (h2:¬closed=true) (h3:(k != sent)=false) (h4:cap≤sent - recv) (h5:cap=0) (h6:(!s.gor == 1)=true):s.operate ⟨g,kind,obj,off,k,en,fn,pc,stack⟩=some (s.start ⟨g,kind,obj,off,k,en,fn,pc,stack⟩ ⟨cap,sent,recv,closed⟩ [17,18,16] g (-1)):=by
 have hm:(⟨cap,sent,recv,closed⟩:Ch).missing 15 (decide (s.gor=1))=some [17,18,16]:=by
  unfold Ch.missing;rw [if_pos rfl];dsimp only;rw [if_neg (by omega),if_pos ⟨h5,by simpa using h6⟩]
 rw [TS.op_eq hc,hm];simp_all
theorem TS.op_s17a (h0:(cap != en)=false) (h1:(kind == 17)=true) (h3:(k != recv)=false) (h4:recv < sent):s.operate ⟨g,kind,obj,off,k,en,fn,pc,stack⟩=some (s.start ⟨g,kind,obj,off,k,en,fn,pc,stack⟩ ⟨cap,sent,recv,closed⟩ [18] (-1) g):=by
 rw [TS.op_eq hc];simp_all [Ch.missing]
theorem TS.op_s17b (h0:(cap != en)=false) (h1:(kind == 17)=true) (h2:¬closed=true) (h3:(k != recv)=false) (h4:sent≤recv) (h6:(!s.gor == 1)=true):s.operate ⟨g,kind,obj,off,k,en,fn,pc,stack⟩=some (s.start ⟨g,kind,obj,off,k,en,fn,pc,stack⟩ ⟨cap,sent,recv,closed⟩ [15,18,16] (-1) g):=by
 have hm:(⟨cap,sent,recv,closed⟩:Ch).missing 17 (decide (s.gor=1))=some [15,18,16]:=by
  unfold Ch.missing;rw [if_neg (by decide)];dsimp only;rw [if_neg (by omega),if_pos ⟨by simpa using h2,by simpa using h6⟩]
 rw [TS.op_eq hc,hm];simp_all
end
end Go.Proofs.Ytffcpijeebagfaa
end
section
namespace Go.Proofs.Ytffcpijeebagfaa
def TS.steps (s:TS):List Ev→Option TS
 | []=>some s
 | e :: l=>(s.add e).bind fun t=>t.steps l
def TS.chk (s:TS):List Ev→Nat
 | []=>0
 | e :: l=>match s.add e with
   | some t=>t.chk l+1
   | none=>0
theorem TS.steps_append (s:TS) (l m:List Ev):s.steps (l ++ m)=(s.steps l).bind fun t=>t.steps m:=by
 induction l generalizing s with
 | nil=>rfl
 | cons e l ih =>
   simp only [List.cons_append,TS.steps]
   cases s.add e with
   | none=>rfl
   | some t=>simpa using ih t
theorem TS.steps_snoc (s:TS) (l:List Ev) (e:Ev):s.steps (l ++ [e])=(s.steps l).bind fun t=>t.add e:=by
 rw [TS.steps_append]
 congr 1
 funext t
 simp [TS.steps]
theorem TS.steps_take_succ {s:TS} {l:List Ev} {k:Nat} (h:k < l.length):s.steps (l.take (k+1))=(s.steps (l.take k)).bind fun t=>t.add l[k]:=by
 rw [List.take_succ_eq_append_getElem h,TS.steps_snoc]
theorem TS.chk_le (s:TS) (l:List Ev):s.chk l≤l.length:=by
 induction l generalizing s with
 | nil=>simp [TS.chk]
 | cons e l ih =>
   simp only [TS.chk];split
   ·rename_i t _;have:=ih t;simp;omega
   ·simp
theorem TS.steps_wf {s t:TS} (h:s.wf) {l:List Ev} (hs:s.steps l=some t):t.wf:=by
 induction l generalizing s with
 | nil=>simp [TS.steps] at hs;subst hs;exact h
 | cons e l ih =>
   simp only [TS.steps,Option.bind_eq_some_iff] at hs;obtain ⟨u,hu,hs⟩:=hs;exact ih (TS.add_wf h hu) hs
theorem TS.chk_of {s:TS} {l:List Ev} {k:Nat} (hk:k≤l.length) {t:TS} (hs:s.steps (l.take k)=some t) (hn:∀ e,l[k]? = some e→t.add e=none):s.chk l=k:=by
 induction l generalizing s k with
 | nil=>simp at hk;subst hk;rfl
 | cons e l ih =>
   cases k with
   | zero =>
     simp [TS.steps] at hs;subst hs;have:=hn e rfl;simp [TS.chk,this]
   | succ k =>
     simp only [List.take_succ_cons,TS.steps,Option.bind_eq_some_iff] at hs;obtain ⟨u,hu,hs⟩:=hs;simp only [TS.chk,hu];rw [ih (by simpa using hk) hs (fun e' he'=>hn e' (by simpa using he'))]
theorem TS.chk_steps (s:TS) (l:List Ev) {k:Nat} (hk:k≤s.chk l):∃ t,s.steps (l.take k)=some t:=by
 induction l generalizing s k with
 | nil=>simp [TS.chk] at hk;subst hk;exact ⟨s,rfl⟩
 | cons e l ih =>
   cases k with
   | zero=>exact ⟨s,rfl⟩
   | succ k =>
     simp only [TS.chk] at hk
     cases ha:s.add e with
     | none=>rw [ha] at hk;simp at hk
     | some u =>
       rw [ha] at hk;obtain ⟨t,ht⟩:=ih u (k:=k) (by simpa using hk);exact ⟨t,by simp [TS.steps,ha,ht]⟩
theorem TS.chk_take (s:TS) (l:List Ev) (k:Nat):s.chk (l.take k)=min (s.chk l) k:=by
 induction l generalizing s k with
 | nil=>simp [TS.chk]
 | cons e l ih =>
   cases k with
   | zero=>simp [TS.chk]
   | succ k =>
     simp only [List.take_succ_cons,TS.chk]
     cases s.add e with
     | none=>simp
     | some t=>simp only [ih];omega
def TS.wholeTo (s:TS) (l:List Ev):Nat→Nat
 | 0=>0
 | k+1=>match s.steps (l.take (k+1)) with
   | some t=>if t.isOpen=true then s.wholeTo l k else k+1
   | none=>s.wholeTo l k
theorem TS.wholeTo_le (s:TS) (l:List Ev) (k:Nat):s.wholeTo l k≤k:=by
 induction k with
 | zero=>simp [TS.wholeTo]
 | succ k ih =>
   simp only [TS.wholeTo];split
   ·split
    ·omega
    ·omega
   ·omega
def chk (l:List Ev):Nat:=TS.new.chk l
def wholeOf (l:List Ev):Nat:=TS.new.wholeTo l (chk l)
theorem flat_at (l:List Ev) (i:Nat) (e:Ev) (h:l[i]? = some e) (j:Nat) (x:Value) (hx:e.cells[j]? = some x):(l.flatMap Ev.cells)[i * 9+j]? = some x:=by
 have hlen:∀ e:Ev,e.cells.length=9:=fun _=>rfl
 have hj:j < 9:=by rw [←hlen e];exact (List.getElem?_eq_some_iff.1 hx).1
 induction l generalizing i with
 | nil=>cases h
 | cons a l ih =>
   rw [List.flatMap_cons]
   cases i with
   | zero =>
     simp at h;subst h;rw [List.getElem?_append_left (by rw [hlen];omega)]
     simpa using hx
   | succ i =>
     rw [List.getElem?_append_right (by rw [hlen];omega),hlen,show (i+1) * 9+j - 9=i * 9+j by omega]
     exact ih i (by simpa using h)
end Go.Proofs.Ytffcpijeebagfaa
end
section
namespace Go.Proofs.Ytffcpijeebagfaa
open Go Go.RowKit
instance:WInv:=⟨fun _=>True,fun _ _ _ _=>trivial⟩
abbrev dI (n:Int):Dt:=.sc (.int .i64 n)
abbrev dB (b:Bool):Dt:=.sc (.bool b)
abbrev aI (n:Int):Av:=.b (.one (.d (.sc (.int .i64 n))))
abbrev pI (n:Int):Pa:=.one (.sc (.int .i64 n))
abbrev pB (b:Bool):Pa:=.one (.sc (.bool b))
def Ev.row (e:Ev):List Dt:=[dI e.g,dI e.kind,dI e.obj,dI e.off,dI e.k,dI e.n,dI e.fn,dI e.pc,dI e.stack]
def Ev.pa (e:Ev):Pa:=.agg e.row
def evsD (l:List Ev):Dt:=.im (l.map Ev.row)
def evsPa (l:List Ev):Pa:=.one (evsD l)
structure RCh where
 obj:Int
 n:Int
 sent:Int
 recv:Int
 closed:Bool
def RCh.row (c:RCh):List Dt:=[dI c.obj,dI c.n,dI c.sent,dI c.recv,dB c.closed]
structure RLk where
 obj:Int
 off:Int
 locked:Bool
 readers:Int
def RLk.row (c:RLk):List Dt:=[dI c.obj,dI c.off,dB c.locked,dI c.readers]
def locRow (p:Int×Int):List Dt:=[dI p.1,dI p.2]
structure RWt where
 kind:Int
 g:Int
 not:Int
def RWt.row (c:RWt):List Dt:=[dI c.kind,dI c.g,dI c.not]
structure RSt where
 count:Int
 gor:Int
 chans:List RCh
 locks:List RLk
 done:List (Int×Int)
 next:List RWt
 obj:Int
 k:Int
 n:Int
def RSt.row (s:RSt):List Dt:=[dI s.count,dI s.gor,.im (s.chans.map RCh.row),.im (s.locks.map RLk.row),.im (s.done.map locRow),.im (s.next.map RWt.row),dI s.obj,dI s.k,dI s.n]
def RSt.pa (s:RSt):Pa:=.agg s.row
structure RSt.ok (s:RSt):Prop where
 ct:0≤s.count∧s.count≤1000000
 gr:0≤s.gor∧s.gor≤1000000
 ch:s.chans.length≤900000∧∀ c,c ∈ s.chans→(0≤c.sent∧c.sent≤1000000)∧(0≤c.recv∧c.recv≤1000000)
 lk:s.locks.length≤900000∧∀ c,c ∈ s.locks→0≤c.readers∧c.readers≤1000000
 dn:s.done.length≤900000
 nx:s.next.length≤900000
def RSt.new:RSt:=⟨0,1,[],[],[],[],0,0,0⟩
def RSt.channel (s:RSt) (obj n:Int):RCh:=(s.chans.find? (fun c=>c.obj == obj)).getD ⟨obj,n,0,0,false⟩
def RSt.setChannel (s:RSt) (c:RCh):RSt:={ s with chans:=s.chans.filter (fun d=>d.obj != c.obj) ++ [c] }
def RSt.lock (s:RSt) (obj off:Int):RLk:=(s.locks.find? (fun c=>c.obj == obj && c.off == off)).getD ⟨obj,off,false,0⟩
def RSt.setLock (s:RSt) (c:RLk):RSt:={ s with locks:=s.locks.filter (fun d=>d.obj != c.obj || d.off != c.off) ++ [c] }
def RSt.isDone (s:RSt) (obj off:Int):Bool:=s.done.any (fun c=>c.1 == obj && c.2 == off)
def RCh.count (c:RCh) (kind:Int):RCh:=if kind=15 then { c with sent:=c.sent+1 } else if kind=17 then { c with recv:=c.recv+1 } else c
def RSt.counted (s:RSt) (e:Ev):RSt:=if e.kind=15∨e.kind=17 then s.setChannel ((s.channel e.obj e.n).count e.kind) else s
def RSt.begin (s:RSt) (e:Ev) (next:List RWt):RSt:=RSt.counted { s with next:=next,obj:=e.obj,k:=e.k,n:=e.n } e
def RSt.fits (s:RSt) (w:RWt) (e:Ev):Bool:=!((e.kind != w.kind || (e.obj != s.obj || (e.k != s.k || (e.n != s.n || (decide (0≤w.g) && e.g != w.g))))) || (decide (w.g < 0) && e.g == w.not))
def RWt.known (w:RWt) (g:Int) (x:RWt):RWt:=if w.g < 0∧x.g < 0 then { x with g:=g } else x
def RSt.groupR (s:RSt) (e:Ev):RSt×Bool:=match s.next with
 | []=>(s,false)
 | w :: rest=>if s.fits w e=true then (RSt.counted { s with next:=rest.map (w.known e.g) } e,true) else (s,false)
def RSt.transferR (s:RSt) (e:Ev):RSt×Bool :=
 if (s.channel e.obj e.n).n≠e.n then (s,false)
 else if e.kind=15 then
  if e.k≠(s.channel e.obj e.n).sent then (s,false)
  else if (s.channel e.obj e.n).closed=true then (s,false)
  else if 0 < (s.channel e.obj e.n).n∧(s.channel e.obj e.n).sent - (s.channel e.obj e.n).recv < (s.channel e.obj e.n).n then (s.begin e [⟨16,e.g,0⟩],true)
  else if (s.channel e.obj e.n).n=0∧1 < s.gor then (s.begin e [⟨17, -1,e.g⟩,⟨18, -1,0⟩,⟨16,e.g,0⟩],true)
  else (s,false)
 else if e.kind=17 then
  if e.k≠(s.channel e.obj e.n).recv then (s,false)
  else if (s.channel e.obj e.n).recv < (s.channel e.obj e.n).sent then (s.begin e [⟨18,e.g,0⟩],true)
  else if (s.channel e.obj e.n).closed=false∧1 < s.gor then (s.begin e [⟨15, -1,e.g⟩,⟨18,e.g,0⟩,⟨16, -1,0⟩],true)
  else (s,false)
 else if e.kind=19 then
  if (s.channel e.obj e.n).closed=true then (s,false) else (s.setChannel { s.channel e.obj e.n with closed:=true },true)
 else if e.kind=20 then (s,(s.channel e.obj e.n).closed && (s.channel e.obj e.n).sent == (s.channel e.obj e.n).recv)
 else (s,false)
def RSt.otherR (s:RSt) (e:Ev):RSt×Bool :=
 if e.kind=6 then (s.setLock { s.lock e.obj e.off with locked:=true },!(s.lock e.obj e.off).locked && (s.lock e.obj e.off).readers == 0)
 else if e.kind=7 then (s.setLock { s.lock e.obj e.off with locked:=false },(s.lock e.obj e.off).locked)
 else if e.kind=8 then (s.setLock { s.lock e.obj e.off with readers:=(s.lock e.obj e.off).readers+1 },!(s.lock e.obj e.off).locked)
 else if e.kind=9 then (s.setLock { s.lock e.obj e.off with readers:=(s.lock e.obj e.off).readers - 1 },decide (0≤(s.lock e.obj e.off).readers - 1))
 else if e.kind=12 then ({ s with done:=s.done ++ [(e.obj,e.off)] },!s.isDone e.obj e.off)
 else if e.kind=13 then (s,s.isDone e.obj e.off)
 else if e.kind=14 then ({ s with gor:=s.gor+1 },e.k == s.gor)
 else (s,true)
def RSt.partR (s:RSt) (e:Ev):RSt×Bool:=if 0 < s.next.length then s.groupR e else if chanB e.kind=true then s.transferR e else s.otherR e
def RSt.admits (s:RSt) (e:Ev):Bool:=e.valid && decide (s.count < 5000) && decide (e.g < s.gor)
def RSt.addR (s:RSt) (e:Ev):RSt×Bool :=
 if s.admits e=true∧(s.partR e).2=true then ({ (s.partR e).1 with count:=(s.partR e).1.count+1 },true) else (s,false)
theorem find_hit {α:Type} {l:List α} {p:α→Bool} {k:Nat} {c:α} (hno:∀ i c,i < k→l[i]? = some c→p c=false) (hc:l[k]? = some c) (he:p c=true):l.find? p=some c:=by
 rw [List.find?_eq_some_iff_getElem];refine ⟨he,k,(List.getElem?_eq_some_iff.1 hc).1,(List.getElem?_eq_some_iff.1 hc).2,fun j hj=>?_⟩;have h1:=List.getElem?_eq_getElem (show j < l.length by have:=(List.getElem?_eq_some_iff.1 hc).1;omega)
 rw [hno j _ hj h1];rfl
theorem find_miss {α:Type} {l:List α} {p:α→Bool} (hno:∀ i c,i < l.length→l[i]? = some c→p c=false):l.find? p=none:=by
 rw [List.find?_eq_none];intro c hc;obtain ⟨i,hi,rfl⟩:=List.getElem_of_mem hc;rw [hno i _ hi (List.getElem?_eq_getElem hi)];decide
theorem no_succ {α:Type} {l:List α} {p:α→Bool} {k:Nat} {c:α} (hno:∀ i c,i < k→l[i]? = some c→p c=false) (hc:l[k]? = some c) (he:p c=false):∀ i c,i < k+1→l[i]? = some c→p c=false:=by
 intro i c' hi hc'
 rcases Nat.lt_or_eq_of_le (Nat.le_of_lt_succ hi) with h | h
 ·exact hno i c' h hc'
 ·subst h;rw [hc] at hc';cases hc';exact he
theorem any_miss {α:Type} {l:List α} {p:α→Bool} (hno:∀ i c,i < l.length→l[i]? = some c→p c=false):l.any p=false:=by
 rw [List.any_eq_false];intro c hc;obtain ⟨i,hi,rfl⟩:=List.getElem_of_mem hc;rw [hno i _ hi (List.getElem?_eq_getElem hi)];decide
theorem filter_succ {α:Type} {l:List α} {p:α→Bool} {k:Nat} {c:α} (hc:l[k]? = some c):(l.take (k+1)).filter p=(l.take k).filter p ++ (if p c=true then [c] else []):=by
 obtain ⟨hk,rfl⟩:=List.getElem?_eq_some_iff.1 hc;rw [List.take_succ_eq_append_getElem hk,List.filter_append]
 congr 1
 cases h:p l[k] <;> simp [h]
theorem filter_take_le {α:Type} (l:List α) (p:α→Bool) (k:Nat):((l.take k).filter p).length≤k :=
 Nat.le_trans (List.length_filter_le _ _) (List.length_take_le _ _)
theorem rows_len {α:Type} {f:α→List Dt} {n:Nat} (h:∀ x,(f x).length=n) (l:List α):(∀ r,r ∈ l.map f→r.length=n)=True:=by
 apply propext
 refine ⟨fun _=>trivial,fun _ r hr=>?_⟩;obtain ⟨x,_,rfl⟩:=List.mem_map.1 hr;exact h x
end Go.Proofs.Ytffcpijeebagfaa
end
section
namespace Go.Proofs.Ytffcpijeebagfaa
open Go
def RCh.conv (c:RCh):Ch:=⟨c.n,c.sent,c.recv,c.closed⟩
def RLk.conv (c:RLk):Mu:=⟨c.locked,c.readers⟩
inductive RelG:List RWt→List Int→Int→Int→Prop
 | none (a b:Int):RelG [] [] a b
 | snd (g b:Int) (h:0≤g):RelG [⟨16,g,0⟩] [16] g b
 | rcv (a g:Int) (h:0≤g):RelG [⟨18,g,0⟩] [18] a g
 | wait (g:Int) (h:0≤g):RelG [⟨17, -1,g⟩,⟨18, -1,0⟩,⟨16,g,0⟩] [17,18,16] g (-1)
 | ask (g:Int) (h:0≤g):RelG [⟨15, -1,g⟩,⟨18,g,0⟩,⟨16, -1,0⟩] [15,18,16] (-1) g
 | both (a b:Int) (h:0≤a) (k:0≤b):RelG [⟨18,b,0⟩,⟨16,a,0⟩] [18,16] a b
def asks (l:List Int):Int:=if l.headD 0=15 then 1 else if l.headD 0=17 then -1 else 0
structure Rel (r:RSt) (t:TS):Prop where
 ct:r.count=t.events
 gr:r.gor=t.gor
 ch:∀ x,t.chans x=(r.chans.find? (fun c=>c.obj == x)).map RCh.conv
 lk:∀ x y,t.mus (x,y)=(r.locks.find? (fun c=>c.obj == x && c.off == y)).map RLk.conv
 dn:∀ x y,(t.done (x,y)).getD false=r.isDone x y
 gp:RelG r.next t.grp.kinds t.grp.snd t.grp.rcv
 go:r.next≠[]→t.grp.obj=r.obj∧t.grp.k=r.k∧t.grp.n=r.n∧(t.chans r.obj).isSome=true
 bal:∀ x c,t.chans x=some c→c.recv≤c.sent+(if x=r.obj then asks t.grp.kinds else 0)
 clen:(r.chans.length:Int)≤r.count
 cbd:∀ c,c ∈ r.chans→(0≤c.sent∧c.sent≤r.count)∧(0≤c.recv∧c.recv≤r.count)
 llen:(r.locks.length:Int)≤r.count
 lbd:∀ c,c ∈ r.locks→0≤c.readers∧c.readers≤r.count
 dlen:(r.done.length:Int)≤r.count
theorem Rel.new:Rel RSt.new TS.new :=
 ⟨rfl,rfl,fun _=>rfl,fun _ _=>rfl,fun _ _=>rfl,.none _ _,fun h=>absurd rfl h,(fun _ _ h=>by cases h),(by decide),(fun _ h=>by cases h),(by decide),(fun _ h=>by cases h),(by decide)⟩
theorem RelG.len {l:List RWt} {k:List Int} {a b:Int} (h:RelG l k a b):l.length≤3:=by cases h <;> simp
theorem RelG.kinds {l:List RWt} {k:List Int} {a b:Int} (h:RelG l k a b):k=l.map (·.kind):=by cases h <;> rfl
theorem Rel.ok {r:RSt} {t:TS} (h:Rel r t) (hw:t.wf):r.ok:=by
 have h1:=hw.ev;have h2:=hw.gr;have h3:=h.gp.len;have h4:=h.ct;have h5:=h.gr;have h6:=h.clen;have h7:=h.llen;have h8:=h.dlen;refine ⟨by omega,by omega,⟨by omega,fun c hc=>?_⟩,⟨by omega,fun c hc=>?_⟩,by omega,by omega⟩
 ·have:=h.cbd c hc;omega
 ·have:=h.lbd c hc;omega
theorem find_set {α:Type} (l:List α) (p q:α→Bool) (c:α) (hc:p c=true→∀ d,d ∈ l→p d=true→q d=false) (hn:p c=false→∀ d,d ∈ l→p d=true→q d=true) :
 (l.filter q ++ [c]).find? p=if p c=true then some c else l.find? p:=by
 rw [List.find?_append]
 cases hp:p c with
 | true =>
   have h1:(l.filter q).find? p=none:=by
    rw [List.find?_eq_none];intro x hx h2;obtain ⟨h3,h4⟩:=List.mem_filter.1 hx;rw [hc hp x h3 h2] at h4;cases h4
   simp [h1,hp]
 | false =>
   have h1:(l.filter q).find? p=l.find? p:=by
    have hn':=hn hp;clear hn hc
    induction l with
    | nil=>rfl
    | cons a l ih =>
      have ih':=ih (fun d hd=>hn' d (List.mem_cons_of_mem _ hd));rw [List.filter_cons,List.find?_cons]
      cases hpa:p a with
      | true=>rw [if_pos (hn' a List.mem_cons_self hpa),List.find?_cons,hpa]
      | false =>
        cases hq:q a with
        | true=>rw [if_pos rfl,List.find?_cons,hpa];exact ih'
        | false=>rw [if_neg (by decide)];exact ih'
   simp [h1,hp]
theorem find_setChannel (r:RSt) (c:RCh) (x:Int):(r.setChannel c).chans.find? (fun d=>d.obj == x)=if c.obj=x then some c else r.chans.find? (fun d=>d.obj == x):=by
 have:=find_set r.chans (fun d=>d.obj == x) (fun d=>d.obj != c.obj) c (fun h d _ h2=>by simp at h h2 ⊢;rw [h,h2]) (fun h d _ h2=>by simp at h h2 ⊢;rw [h2];exact fun h3=>h h3.symm)
 simpa [RSt.setChannel] using this
theorem find_setLock (r:RSt) (c:RLk) (x y:Int):(r.setLock c).locks.find? (fun d=>d.obj == x && d.off == y)=if c.obj=x∧c.off=y then some c else r.locks.find? (fun d=>d.obj == x && d.off == y):=by
 have:=find_set r.locks (fun d=>d.obj == x && d.off == y) (fun d=>d.obj != c.obj || d.off != c.off) c
  (fun h d _ h2=>by simp at h h2 ⊢;rw [h.1,h.2,h2.1,h2.2];exact ⟨rfl,rfl⟩)
  (fun h d _ h2=>by simp at h h2 ⊢;rw [h2.1,h2.2];by_cases h3:c.obj=x
                    ·right;exact fun h4=>h h3 h4.symm
                    ·left;exact fun h4=>h3 h4.symm)
 simpa [RSt.setLock] using this
theorem Rel.channel {r:RSt} {t:TS} (h:Rel r t) (e:Ev):(r.channel e.obj e.n).conv=t.chan e∧(r.channel e.obj e.n).obj=e.obj:=by
 unfold RSt.channel TS.chan;rw [h.ch]
 cases hf:r.chans.find? (fun c=>c.obj == e.obj) with
 | none=>exact ⟨rfl,rfl⟩
 | some c=>exact ⟨rfl,by have:=List.find?_some hf;simpa using this⟩
theorem Rel.lock {r:RSt} {t:TS} (h:Rel r t) (e:Ev):(r.lock e.obj e.off).conv=t.mu e∧(r.lock e.obj e.off).obj=e.obj∧(r.lock e.obj e.off).off=e.off:=by
 unfold RSt.lock TS.mu;rw [h.lk]
 cases hf:r.locks.find? (fun c=>c.obj == e.obj && c.off == e.off) with
 | none=>exact ⟨rfl,rfl,rfl⟩
 | some c=>exact ⟨rfl,by have:=List.find?_some hf;simp at this;exact this.1,by have:=List.find?_some hf;simp at this;exact this.2⟩
theorem Rel.channel_bd {r:RSt} {t:TS} (h:Rel r t) (hc:0≤r.count) (obj n:Int):(0≤(r.channel obj n).sent∧(r.channel obj n).sent≤r.count)∧(0≤(r.channel obj n).recv∧(r.channel obj n).recv≤r.count):=by
 unfold RSt.channel
 cases hf:r.chans.find? (fun c=>c.obj == obj) with
 | none=>simp [hc]
 | some c=>exact h.cbd c (List.mem_of_find?_eq_some hf)
theorem Rel.lock_bd {r:RSt} {t:TS} (h:Rel r t) (hc:0≤r.count) (obj off:Int):0≤(r.lock obj off).readers∧(r.lock obj off).readers≤r.count:=by
 unfold RSt.lock
 cases hf:r.locks.find? (fun c=>c.obj == obj && c.off == off) with
 | none=>simp [hc]
 | some c=>exact h.lbd c (List.mem_of_find?_eq_some hf)
theorem RelG.nil_asks {l:List RWt} {k:List Int} {a b:Int} (h:RelG l k a b) (hl:l=[]):asks k=0:=by subst hl;cases h;rfl
theorem Rel.put {r:RSt} {t:TS} (h:Rel r t) (c:RCh) (hs:0≤c.sent∧c.sent≤r.count+1) (hr:0≤c.recv∧c.recv≤r.count+1) (nx:List RWt) (ob kk nn:Int) (o:Grp) (hg:RelG nx o.kinds o.snd o.rcv)
 (ho:nx≠[]→o.obj=ob∧o.k=kk∧o.n=nn∧ob=c.obj) (hb:c.recv≤c.sent+asks o.kinds) (hold:∀ x d,x≠c.obj→t.chans x=some d→d.recv≤d.sent) :
 Rel { r.setChannel c with next:=nx,obj:=ob,k:=kk,n:=nn,count:=r.count+1 } { t with chans:=upd t.chans c.obj c.conv,grp:=o,events:=t.events+1 }:=by
 refine ⟨by simp only [h.ct],h.gr,fun x=>?_,h.lk,h.dn,hg,fun hne=>?_,fun x d hd=>?_,?_,fun d hd=>?_,?_,fun d hd=>?_,?_⟩
 ·have h1:=find_setChannel r c x;dsimp only;rw [h1]
  by_cases hx:c.obj=x
  ·subst hx;rw [upd_same,if_pos rfl];rfl
  ·rw [upd_other _ _ (fun h2=>hx h2.symm),if_neg hx,h.ch]
 ·obtain ⟨h1,h2,h3,h4⟩:=ho hne;exact ⟨h1,h2,h3,by dsimp only;rw [h4,upd_same];rfl⟩
 ·dsimp only at hd ⊢
  by_cases hx:x=c.obj
  ·subst hx;rw [upd_same] at hd;cases hd
   by_cases hn:nx=[]
   ·rw [hg.nil_asks hn] at hb ⊢
    show c.recv≤c.sent+_
    split <;> omega
   ·rw [if_pos (ho hn).2.2.2.symm];exact hb
  ·rw [upd_other _ _ hx] at hd;have:=hold x d hx hd
   by_cases hn:nx=[]
   ·rw [hg.nil_asks hn];split <;> omega
   ·rw [if_neg (fun h2=>hx (h2.trans (ho hn).2.2.2))];omega
 ·have h1:=List.length_filter_le (fun d:RCh=>d.obj != c.obj) r.chans;have h2:=h.clen;simp only [RSt.setChannel,List.length_append,List.length_cons,List.length_nil];omega
 ·simp only [RSt.setChannel,List.mem_append,List.mem_filter,List.mem_singleton] at hd
  rcases hd with ⟨hd,_⟩ | rfl
  ·have:=h.cbd d hd;dsimp only;omega
  ·dsimp only;omega
 ·have:=h.llen;dsimp only [RSt.setChannel];omega
 ·have:=h.lbd d hd;dsimp only [RSt.setChannel];omega
 ·have:=h.dlen;dsimp only [RSt.setChannel];omega
theorem Rel.keep {r:RSt} {t:TS} (h:Rel r t) (nx:List RWt) (o:Grp) (hg:RelG nx o.kinds o.snd o.rcv) (ho:nx≠[]→o.obj=r.obj∧o.k=r.k∧o.n=r.n∧(t.chans r.obj).isSome=true) (ha:asks o.kinds=asks t.grp.kinds) :
 Rel { r with next:=nx,count:=r.count+1 } { t with grp:=o,events:=t.events+1 }:=by
 refine ⟨by simp only [h.ct],h.gr,h.ch,h.lk,h.dn,hg,ho,fun x d hd=>?_,?_,fun d hd=>?_,?_,fun d hd=>?_,?_⟩
 ·dsimp only;rw [ha];exact h.bal x d hd
 ·have:=h.clen;dsimp only;omega
 ·have:=h.cbd d hd;dsimp only;omega
 ·have:=h.llen;dsimp only;omega
 ·have:=h.lbd d hd;dsimp only;omega
 ·have:=h.dlen;dsimp only;omega
theorem Rel.putLock {r:RSt} {t:TS} (h:Rel r t) (c:RLk) (hr:0≤c.readers∧c.readers≤r.count+1) :
 Rel { r.setLock c with count:=r.count+1 } { t with mus:=upd t.mus (c.obj,c.off) c.conv,events:=t.events+1 }:=by
 refine ⟨by simp only [h.ct],h.gr,h.ch,fun x y=>?_,h.dn,h.gp,h.go,h.bal,?_,fun d hd=>?_,?_,fun d hd=>?_,?_⟩
 ·have h1:=find_setLock r c x y;dsimp only;rw [h1]
  by_cases hx:c.obj=x∧c.off=y
  ·obtain ⟨rfl,rfl⟩:=hx;rw [upd_same,if_pos ⟨rfl,rfl⟩];rfl
  ·rw [upd_other _ _ (fun h2=>hx (by cases h2;exact ⟨rfl,rfl⟩)),if_neg hx,h.lk]
 ·have:=h.clen;dsimp only [RSt.setLock];omega
 ·have:=h.cbd d hd;dsimp only [RSt.setLock];omega
 ·have h1:=List.length_filter_le (fun d:RLk=>d.obj != c.obj || d.off != c.off) r.locks;have h2:=h.llen;simp only [RSt.setLock,List.length_append,List.length_cons,List.length_nil];omega
 ·simp only [RSt.setLock,List.mem_append,List.mem_filter,List.mem_singleton] at hd
  rcases hd with ⟨hd,_⟩ | rfl
  ·have:=h.lbd d hd;dsimp only;omega
  ·dsimp only;omega
 ·have:=h.dlen;dsimp only [RSt.setLock];omega
def Ans (p:RSt×Bool) (o:Option TS):Prop:=match o with
 | some t'=>p.2=true∧Rel { p.1 with count:=p.1.count+1 } { t' with events:=t'.events+1 }
 | none=>p.2=false
theorem Rel.other {r:RSt} {t:TS} (h:Rel r t) (hc:0≤r.count) (e:Ev) (hn:r.next=[]):Ans (r.otherR e) (t.simple e):=by
 obtain ⟨hm,ho,hf⟩:=h.lock e;have hb:=h.lock_bd hc e.obj e.off;have hd:=h.dn e.obj e.off;unfold RSt.otherR TS.simple;rw [←hm,hd];clear hm;generalize r.lock e.obj e.off=m at ho hf hb ⊢;obtain ⟨mo,mf,ml,mr⟩:=m;dsimp only [RLk.conv] at ho hf hb ⊢;subst ho;subst hf
 have same:Rel { r with count:=r.count+1 } { t with events:=t.events+1 }:=Rel.keep h r.next t.grp h.gp h.go rfl
 by_cases k6:e.kind=6
 ·rw [if_pos k6,if_pos k6]
  by_cases hl:ml=true∨0 < mr
  ·rw [if_pos hl]
   show (!ml && mr == 0)=false
   rcases hl with rfl | hl
   ·rfl
   ·rw [beq_eq_false_iff_ne.2 (by omega),Bool.and_false]
  ·rw [if_neg hl];have h1:ml=false:=by cases ml <;> simp at hl ⊢
   have h2:mr=0:=by omega
   subst h1;subst h2;exact ⟨rfl,Rel.putLock h ⟨e.obj,e.off,true,0⟩ ⟨by dsimp only;omega,by dsimp only;omega⟩⟩
 rw [if_neg k6,if_neg k6]
 by_cases k7:e.kind=7
 ·rw [if_pos k7,if_pos k7]
  cases ml with
  | false=>rw [if_pos rfl];rfl
  | true=>rw [if_neg (by decide)];exact ⟨rfl,Rel.putLock h ⟨e.obj,e.off,false,mr⟩ ⟨hb.1,by dsimp only;omega⟩⟩
 rw [if_neg k7,if_neg k7]
 by_cases k8:e.kind=8
 ·rw [if_pos k8,if_pos k8]
  cases ml with
  | true=>rw [if_pos rfl];rfl
  | false=>rw [if_neg (by decide)];exact ⟨rfl,Rel.putLock h ⟨e.obj,e.off,false,mr+1⟩ ⟨by dsimp only;omega,by dsimp only;omega⟩⟩
 rw [if_neg k8,if_neg k8]
 by_cases k9:e.kind=9
 ·rw [if_pos k9,if_pos k9]
  by_cases hl:mr=0
  ·rw [if_pos hl];subst hl;rfl
  ·rw [if_neg hl];exact ⟨decide_eq_true (show 0≤mr - 1 by omega),Rel.putLock h ⟨e.obj,e.off,ml,mr - 1⟩ ⟨by dsimp only;omega,by dsimp only;omega⟩⟩
 rw [if_neg k9,if_neg k9]
 by_cases k12:e.kind=12
 ·rw [if_pos k12,if_pos k12]
  cases hdo:r.isDone e.obj e.off with
  | true=>rw [if_pos rfl];rfl
  | false =>
    rw [if_neg (by decide)];refine ⟨rfl,by simp only [h.ct],h.gr,h.ch,h.lk,fun x y=>?_,h.gp,h.go,h.bal,?_,fun d hd=>?_,?_,fun d hd=>?_,?_⟩
    ·unfold RSt.isDone;dsimp only;rw [List.any_append]
     by_cases hx:(x,y)=(e.obj,e.off)
     ·cases hx;rw [upd_same];simp
     ·rw [upd_other _ _ hx,h.dn]
      have:((e.obj == x) && (e.off == y))=false:=by
       rw [Bool.eq_false_iff];intro h2;simp only [Bool.and_eq_true,beq_iff_eq] at h2;exact hx (by rw [h2.1,h2.2])
      unfold RSt.isDone;simp [this]
    ·have:=h.clen;dsimp only;omega
    ·have:=h.cbd d hd;dsimp only;omega
    ·have:=h.llen;dsimp only;omega
    ·have:=h.lbd d hd;dsimp only;omega
    ·have:=h.dlen;simp only [List.length_append,List.length_cons,List.length_nil];omega
 rw [if_neg k12,if_neg k12]
 by_cases k13:e.kind=13
 ·rw [if_pos k13,if_pos k13]
  cases hdo:r.isDone e.obj e.off with
  | true=>rw [if_pos rfl];exact ⟨rfl,same⟩
  | false=>rw [if_neg (by decide)];rfl
 rw [if_neg k13,if_neg k13]
 by_cases k14:e.kind=14
 ·rw [if_pos k14,if_pos k14,h.gr]
  by_cases hk:e.k=t.gor
  ·rw [if_neg (fun h=>h hk)];refine ⟨beq_iff_eq.2 hk,by simp only [h.ct],?_,h.ch,h.lk,h.dn,h.gp,h.go,h.bal,?_,fun d hd=>?_,?_,fun d hd=>?_,?_⟩
   ·rfl
   ·have:=h.clen;dsimp only;omega
   ·have:=h.cbd d hd;dsimp only;omega
   ·have:=h.llen;dsimp only;omega
   ·have:=h.lbd d hd;dsimp only;omega
   ·have:=h.dlen;dsimp only;omega
  ·rw [if_pos hk];exact beq_eq_false_iff_ne.2 hk
 rw [if_neg k14,if_neg k14];exact ⟨rfl,same⟩
theorem fits_eq {r:RSt} {o:Grp} {w:RWt} {l:List RWt} {e:Ev} (hg:RelG (w :: l) o.kinds o.snd o.rcv) (h1:o.obj=r.obj) (h2:o.k=r.k) (h3:o.n=r.n):r.fits w e=o.fits e:=by
 obtain ⟨kinds,ob,k,n,snd,rcv⟩:=o;dsimp only at hg h1 h2 h3;subst h1;subst h2;subst h3;rw [Bool.eq_iff_iff];unfold RSt.fits Grp.fits Grp.own Grp.other sendsB;cases hg <;> (by_cases hk:e.kind=15∨e.kind=16) <;> simp [hk] <;> omega
theorem RelG.inv {w:RWt} {l:List RWt} {k:List Int} {a b:Int} (h:RelG (w :: l) k a b) :
 (w=⟨16,a,0⟩∧l=[]∧k=[16]∧0≤a)∨(w=⟨18,b,0⟩∧l=[]∧k=[18]∧0≤b)∨(w=⟨17, -1,a⟩∧l=[⟨18, -1,0⟩,⟨16,a,0⟩]∧k=[17,18,16]∧0≤a) ∨
 (w=⟨15, -1,b⟩∧l=[⟨18,b,0⟩,⟨16, -1,0⟩]∧k=[15,18,16]∧0≤b)∨(w=⟨18,b,0⟩∧l=[⟨16,a,0⟩]∧k=[18,16]∧0≤a∧0≤b):=by
 cases h with
 | snd g b h=>exact .inl ⟨rfl,rfl,rfl,h⟩
 | rcv a g h=>exact .inr (.inl ⟨rfl,rfl,rfl,h⟩)
 | wait g h=>exact .inr (.inr (.inl ⟨rfl,rfl,rfl,h⟩))
 | ask g h=>exact .inr (.inr (.inr (.inl ⟨rfl,rfl,rfl,h⟩)))
 | both a b h k=>exact .inr (.inr (.inr (.inr ⟨rfl,rfl,rfl,h,k⟩)))
theorem upd_id {κ:Type} [DecidableEq κ] {α:Type} {f:κ→Option α} {x:κ} {v:α} (h:f x=some v):upd f x v=f:=by
 funext y
 by_cases hy:y=x
 ·subst hy;rw [upd_same,h]
 ·rw [upd_other _ _ hy]
theorem TS.count_id {t:TS} {e:Ev} {c:Ch} (h:t.chans e.obj=some c) (h5:e.kind≠15) (h7:e.kind≠17):t.count e=t:=by
 unfold TS.count Ch.count;rw [h,Option.getD_some,if_neg h5,if_neg h7,upd_id h]
theorem Rel.group {r:RSt} {t:TS} (h:Rel r t) (e:Ev) (hv:0≤e.g) (hc:0≤r.count) (hn:r.next≠[]):Ans (r.groupR e) (t.proceed e):=by
 obtain ⟨h1,h2,h3,h4⟩:=h.go hn;obtain ⟨c,hc4⟩:=Option.isSome_iff_exists.1 h4;have hgp:=h.gp;unfold RSt.groupR TS.proceed
 cases hnx:r.next with
 | nil=>exact absurd hnx hn
 | cons w l =>
   rw [hnx] at hgp;dsimp only;rw [fits_eq hgp h1 h2 h3]
   cases hf:t.grp.fits e with
   | false=>rw [if_neg (by decide),if_neg (by decide)];rfl
   | true =>
     rw [if_pos rfl,if_pos rfl];have hfit:=hf;unfold Grp.fits at hfit;simp only [Bool.and_eq_true,decide_eq_true_eq,Bool.not_eq_true',Bool.or_eq_false_iff,decide_eq_false_iff_not] at hfit;obtain ⟨⟨f1,f2,f3,f4⟩,f5,f6⟩:=hfit;have hbal:=h.bal;have hob:e.obj=r.obj:=f2.trans h1;have hc5:t.chans e.obj=some c:=by rw [hob];exact hc4
     -- the channel of the group
     have hch:(r.channel e.obj e.n).conv=c∧(r.channel e.obj e.n).obj=e.obj:=by
      have h5:=h.channel e;unfold TS.chan at h5;rw [hc5] at h5;exact h5
     have hbd:=h.channel_bd hc e.obj e.n;generalize hd:r.channel e.obj e.n=d at hch hbd;obtain ⟨hcd,hdo⟩:=hch;refine ⟨rfl,?_⟩;dsimp only;unfold RSt.counted
     rcases hgp.inv with ⟨rfl,rfl,hk,g0⟩ | ⟨rfl,rfl,hk,g0⟩ | ⟨rfl,rfl,hk,g0⟩ | ⟨rfl,rfl,hk,g0⟩ | ⟨rfl,rfl,hk,g0,g1⟩
     ·have hek:e.kind=16:=by rw [f1,hk];rfl
      have hgn:t.grp.next e={ t.grp with kinds:=[],snd:=e.g }:=by unfold Grp.next sendsB;rw [if_pos (by simp [hek]),hk];rfl
      rw [if_neg (by omega),TS.count_id hc5 (by omega) (by omega),hgn];exact Rel.keep h [] _ (.none _ _) (fun h=>absurd rfl h) (by rw [hk];rfl)
     ·have hek:e.kind=18:=by rw [f1,hk];rfl
      have hgn:t.grp.next e={ t.grp with kinds:=[],rcv:=e.g }:=by unfold Grp.next sendsB;rw [if_neg (by simp [hek]),hk];rfl
      rw [if_neg (by omega),TS.count_id hc5 (by omega) (by omega),hgn];exact Rel.keep h [] _ (.none _ _) (fun h=>absurd rfl h) (by rw [hk];rfl)
     ·have hek:e.kind=17:=by rw [f1,hk];rfl
      have hgn:t.grp.next e={ t.grp with kinds:=[18,16],rcv:=e.g }:=by unfold Grp.next sendsB;rw [if_neg (by simp [hek]),hk];rfl
      have hb:=hbal _ _ hc4;rw [if_pos rfl,hk] at hb;rw [if_pos (.inr hek),hgn];have hb':c.recv≤c.sent+(-1):=hb
      have:=Rel.put h { d with recv:=d.recv+1 } (by dsimp only;omega) (by dsimp only;omega) [⟨18,e.g,0⟩,⟨16,t.grp.snd,0⟩] r.obj r.k r.n { t.grp with kinds:=[18,16],rcv:=e.g } (.both _ _ g0 hv)
       (fun _=>⟨h1,h2,h3,by show r.obj=d.obj;rw [hdo,hob]⟩) (by rw [←hcd] at hb';show d.recv+1≤d.sent+0;unfold RCh.conv at hb';dsimp only at hb';omega)
       (fun x y hx hy=>by have h6:=hbal x y hy;rw [if_neg (fun h7=>hx (by show x=d.obj;rw [h7,hdo,hob]))] at h6;omega)
      have hd2:RSt.channel { r with next:=List.map ((⟨17, -1,t.grp.snd⟩:RWt).known e.g) [⟨18, -1,0⟩,⟨16,t.grp.snd,0⟩] } e.obj e.n=d:=hd
      have hnx2:List.map ((⟨17, -1,t.grp.snd⟩:RWt).known e.g) [⟨18, -1,0⟩,⟨16,t.grp.snd,0⟩]=[⟨18,e.g,0⟩,⟨16,t.grp.snd,0⟩]:=by
       simp only [List.map_cons,List.map_nil,RWt.known];rw [if_pos (by decide),if_neg (fun h=>by omega)]
      have ht:t.count e={ t with chans:=upd t.chans d.obj ({ d with recv:=d.recv+1 }:RCh).conv }:=by
       unfold TS.count Ch.count;rw [hc5,hek,hdo,Option.getD_some,if_neg (by decide),if_pos rfl,←hcd];rfl
      rw [hd2,hnx2,ht];unfold RCh.count;rw [if_neg (by omega),if_pos hek];exact this
     ·have hek:e.kind=15:=by rw [f1,hk];rfl
      have hgn:t.grp.next e={ t.grp with kinds:=[18,16],snd:=e.g }:=by unfold Grp.next sendsB;rw [if_pos (by simp [hek]),hk];rfl
      have hb:=hbal _ _ hc4;rw [if_pos rfl,hk] at hb;rw [if_pos (.inl hek),hgn];have hb':c.recv≤c.sent+1:=hb
      have:=Rel.put h { d with sent:=d.sent+1 } (by dsimp only;omega) (by dsimp only;omega) [⟨18,t.grp.rcv,0⟩,⟨16,e.g,0⟩] r.obj r.k r.n { t.grp with kinds:=[18,16],snd:=e.g } (.both _ _ hv g0)
       (fun _=>⟨h1,h2,h3,by show r.obj=d.obj;rw [hdo,hob]⟩) (by rw [←hcd] at hb';show d.recv≤d.sent+1+0;unfold RCh.conv at hb';dsimp only at hb';omega)
       (fun x y hx hy=>by have h6:=hbal x y hy;rw [if_neg (fun h7=>hx (by show x=d.obj;rw [h7,hdo,hob]))] at h6;omega)
      have hd2:RSt.channel { r with next:=List.map ((⟨15, -1,t.grp.rcv⟩:RWt).known e.g) [⟨18,t.grp.rcv,0⟩,⟨16, -1,0⟩] } e.obj e.n=d:=hd
      have hnx2:List.map ((⟨15, -1,t.grp.rcv⟩:RWt).known e.g) [⟨18,t.grp.rcv,0⟩,⟨16, -1,0⟩]=[⟨18,t.grp.rcv,0⟩,⟨16,e.g,0⟩]:=by
       simp only [List.map_cons,List.map_nil,RWt.known];rw [if_neg (fun h=>by omega),if_pos (by decide)]
      have ht:t.count e={ t with chans:=upd t.chans d.obj ({ d with sent:=d.sent+1 }:RCh).conv }:=by
       unfold TS.count Ch.count;rw [hc5,hek,hdo,Option.getD_some,if_pos rfl,←hcd];rfl
      rw [hd2,hnx2,ht];unfold RCh.count;rw [if_pos hek];exact this
     ·have hek:e.kind=18:=by rw [f1,hk];rfl
      have hgn:t.grp.next e={ t.grp with kinds:=[16],rcv:=e.g }:=by unfold Grp.next sendsB;rw [if_neg (by simp [hek]),hk];rfl
      rw [if_neg (by omega),TS.count_id hc5 (by omega) (by omega),hgn]
      have hnx2:List.map ((⟨18,t.grp.rcv,0⟩:RWt).known e.g) [⟨16,t.grp.snd,0⟩]=[⟨16,t.grp.snd,0⟩]:=by
       simp only [List.map_cons,List.map_nil,RWt.known];rw [if_neg (fun h=>by omega)]
      rw [hnx2]
      exact Rel.keep h [⟨16,t.grp.snd,0⟩] { t.grp with kinds:=[16],rcv:=e.g } (.snd _ _ g0) (fun _=>⟨h1,h2,h3,h4⟩) (by rw [hk];rfl)
theorem set_count (r:RSt) (c:RCh):(r.setChannel c).count=r.count:=rfl
theorem Rel.transfer {r:RSt} {t:TS} (h:Rel r t) (e:Ev) (hv:0≤e.g) (hc:0≤r.count) (hgor:1≤r.gor) (hn:r.next=[]):Ans (r.transferR e) (t.operate e):=by
 obtain ⟨hm,ho⟩:=h.channel e;have hb:=h.channel_bd hc e.obj e.n;have hgr:=h.gr
 have hbal:∀ x c,t.chans x=some c→c.recv≤c.sent:=fun x c hx=>by
  have h1:=h.bal x c hx;have h2:=h.gp.nil_asks hn;rw [h2] at h1;split at h1 <;> omega
 have hbc:(r.channel e.obj e.n).recv≤(r.channel e.obj e.n).sent:=by
  have h1:=hm;unfold TS.chan at h1
  cases hc:t.chans e.obj with
  | none=>rw [hc] at h1;have h2:=congrArg Ch.recv h1;have h3:=congrArg Ch.sent h1;dsimp only [RCh.conv,ch0] at h2 h3;omega
  | some c=>rw [hc] at h1;have h4:=hbal _ _ hc;have h2:=congrArg Ch.recv h1;have h3:=congrArg Ch.sent h1;dsimp only [RCh.conv] at h2 h3;omega
 have hbegin:∀ (nx:List RWt),RSt.begin r e nx=if e.kind=15∨e.kind=17 then ({ r.setChannel ((r.channel e.obj e.n).count e.kind) with next:=nx,obj:=e.obj,k:=e.k,n:=e.n }:RSt) else { r with next:=nx,obj:=e.obj,k:=e.k,n:=e.n }:=fun nx=>by
  unfold RSt.begin RSt.counted;split <;> rfl
 unfold RSt.transferR TS.operate;simp only [hbegin];rw [←hm];clear hm hbegin;generalize r.channel e.obj e.n=d at ho hb hbc ⊢;dsimp only [RCh.conv,Ch.missing,TS.start]
 have put:∀ (c:RCh) (nx:List RWt) (o:Grp),c.obj=d.obj→(0≤c.sent∧c.sent≤r.count+1)→(0≤c.recv∧c.recv≤r.count+1)→RelG nx o.kinds o.snd o.rcv→(o.obj=e.obj∧o.k=e.k∧o.n=e.n)→c.recv≤c.sent+asks o.kinds →
  Rel { r.setChannel c with next:=nx,obj:=e.obj,k:=e.k,n:=e.n,count:=r.count+1 } { t with chans:=upd t.chans e.obj c.conv,grp:=o,events:=t.events+1 }:=fun c nx o h1 h2 h3 h4 h5 h6=>by
  have:=Rel.put h c h2 h3 nx e.obj e.k e.n o h4 (fun _=>⟨h5.1,h5.2.1,h5.2.2,by rw [h1,ho]⟩) h6 (fun x y _ hy=>hbal x y hy);rw [show c.obj=e.obj by rw [h1,ho]] at this;exact this
 by_cases q1:d.n=e.n
 case neg=>simp only [q1,ne_eq,not_true_eq_false,not_false_eq_true,if_true,if_false,reduceIte,Int.reduceEq,true_or,or_true,false_or,or_false,or_self,true_and,and_true,false_and,and_false,and_self,Option.map_some,Option.map_none,Bool.false_eq_true,reduceCtorEq,decide_eq_false_iff_not,Bool.true_and,Bool.false_and,Bool.true_eq_false];rfl
 simp only [q1,ne_eq,not_true_eq_false,not_false_eq_true,if_true,if_false,reduceIte,Int.reduceEq,true_or,or_true,false_or,or_false,or_self,true_and,and_true,false_and,and_false,and_self,Option.map_some,Option.map_none,Bool.false_eq_true,reduceCtorEq,decide_eq_false_iff_not,Bool.true_and,Bool.false_and,Bool.true_eq_false]
 by_cases k15:e.kind=15
 ·simp only [k15,ne_eq,not_true_eq_false,not_false_eq_true,if_true,if_false,reduceIte,Int.reduceEq,true_or,or_true,false_or,or_false,or_self,true_and,and_true,false_and,and_false,and_self,Option.map_some,Option.map_none,Bool.false_eq_true,reduceCtorEq,decide_eq_false_iff_not,Bool.true_and,Bool.false_and,Bool.true_eq_false,RCh.count,Ch.count]
  by_cases q2:e.k=d.sent
  case neg=>simp only [q2,ne_eq,not_true_eq_false,not_false_eq_true,if_true,if_false,reduceIte,Int.reduceEq,true_or,or_true,false_or,or_false,or_self,true_and,and_true,false_and,and_false,and_self,Option.map_some,Option.map_none,Bool.false_eq_true,reduceCtorEq,decide_eq_false_iff_not,Bool.true_and,Bool.false_and,Bool.true_eq_false];rfl
  simp only [q2,ne_eq,not_true_eq_false,not_false_eq_true,if_true,if_false,reduceIte,Int.reduceEq,true_or,or_true,false_or,or_false,or_self,true_and,and_true,false_and,and_false,and_self,Option.map_some,Option.map_none,Bool.false_eq_true,reduceCtorEq,decide_eq_false_iff_not,Bool.true_and,Bool.false_and,Bool.true_eq_false]
  cases q3:d.closed with
  | true=>simp only [ne_eq,not_true_eq_false,not_false_eq_true,if_true,if_false,reduceIte,Int.reduceEq,true_or,or_true,false_or,or_false,or_self,true_and,and_true,false_and,and_false,and_self,Option.map_some,Option.map_none,Bool.false_eq_true,reduceCtorEq,decide_eq_false_iff_not,Bool.true_and,Bool.false_and,Bool.true_eq_false];rfl
  | false =>
    simp only [ne_eq,not_true_eq_false,not_false_eq_true,if_true,if_false,reduceIte,Int.reduceEq,true_or,or_true,false_or,or_false,or_self,true_and,and_true,false_and,and_false,and_self,Option.map_some,Option.map_none,Bool.false_eq_true,reduceCtorEq,decide_eq_false_iff_not,Bool.true_and,Bool.false_and,Bool.true_eq_false]
    by_cases q4:d.sent - d.recv < e.n
    ·rw [if_pos ⟨by omega,q4⟩,if_pos q4];refine ⟨rfl,?_⟩
     have:=put { d with sent:=d.sent+1 } [⟨16,e.g,0⟩] ⟨[16],e.obj,e.k,e.n,e.g, -1⟩ rfl (by dsimp only;omega) (by dsimp only;omega) (.snd _ _ hv) ⟨rfl,rfl,rfl⟩ (by show d.recv≤d.sent+1+0;omega)
     simpa only [RCh.conv,set_count,q1,q2,q3] using this
    ·rw [if_neg (fun h=>q4 h.2),if_neg q4]
     by_cases q5:e.n=0∧¬ t.gor=1
     ·rw [if_pos ⟨q5.1,by omega⟩,if_pos q5];refine ⟨rfl,?_⟩
      have:=put { d with sent:=d.sent+1 } [⟨17, -1,e.g⟩,⟨18, -1,0⟩,⟨16,e.g,0⟩] ⟨[17,18,16],e.obj,e.k,e.n,e.g, -1⟩ rfl (by dsimp only;omega) (by dsimp only;omega) (.wait _ hv) ⟨rfl,rfl,rfl⟩ (by show d.recv≤d.sent+1+(-1);omega)
      simpa only [RCh.conv,set_count,q1,q2,q3] using this
     ·rw [if_neg (fun h=>q5 ⟨h.1,by omega⟩),if_neg q5];rfl
 simp only [k15,ne_eq,not_true_eq_false,not_false_eq_true,if_true,if_false,reduceIte,Int.reduceEq,true_or,or_true,false_or,or_false,or_self,true_and,and_true,false_and,and_false,and_self,Option.map_some,Option.map_none,Bool.false_eq_true,reduceCtorEq,decide_eq_false_iff_not,Bool.true_and,Bool.false_and,Bool.true_eq_false]
 by_cases k17:e.kind=17
 ·simp only [k17,ne_eq,not_true_eq_false,not_false_eq_true,if_true,if_false,reduceIte,Int.reduceEq,true_or,or_true,false_or,or_false,or_self,true_and,and_true,false_and,and_false,and_self,Option.map_some,Option.map_none,Bool.false_eq_true,reduceCtorEq,decide_eq_false_iff_not,Bool.true_and,Bool.false_and,Bool.true_eq_false,RCh.count,Ch.count]
  by_cases q2:e.k=d.recv
  case neg=>simp only [q2,ne_eq,not_true_eq_false,not_false_eq_true,if_true,if_false,reduceIte,Int.reduceEq,true_or,or_true,false_or,or_false,or_self,true_and,and_true,false_and,and_false,and_self,Option.map_some,Option.map_none,Bool.false_eq_true,reduceCtorEq,decide_eq_false_iff_not,Bool.true_and,Bool.false_and,Bool.true_eq_false];rfl
  simp only [q2,ne_eq,not_true_eq_false,not_false_eq_true,if_true,if_false,reduceIte,Int.reduceEq,true_or,or_true,false_or,or_false,or_self,true_and,and_true,false_and,and_false,and_self,Option.map_some,Option.map_none,Bool.false_eq_true,reduceCtorEq,decide_eq_false_iff_not,Bool.true_and,Bool.false_and,Bool.true_eq_false]
  by_cases q4:d.recv < d.sent
  ·rw [if_pos q4,if_pos q4];refine ⟨rfl,?_⟩
   have:=put { d with recv:=d.recv+1 } [⟨18,e.g,0⟩] ⟨[18],e.obj,e.k,e.n, -1,e.g⟩ rfl (by dsimp only;omega) (by dsimp only;omega) (.rcv _ _ hv) ⟨rfl,rfl,rfl⟩ (by show d.recv+1≤d.sent+0;omega)
   simpa only [RCh.conv,set_count,q1,q2] using this
  ·rw [if_neg q4,if_neg q4]
   by_cases q5:d.closed=false∧¬ t.gor=1
   ·rw [if_pos ⟨q5.1,by omega⟩,if_pos q5];refine ⟨rfl,?_⟩
    have:=put { d with recv:=d.recv+1 } [⟨15, -1,e.g⟩,⟨18,e.g,0⟩,⟨16, -1,0⟩] ⟨[15,18,16],e.obj,e.k,e.n, -1,e.g⟩ rfl (by dsimp only;omega) (by dsimp only;omega) (.ask _ hv) ⟨rfl,rfl,rfl⟩ (by show d.recv+1≤d.sent+1;omega)
    simpa only [RCh.conv,set_count,q1,q2] using this
   ·rw [if_neg (fun h=>q5 ⟨h.1,by omega⟩),if_neg q5];rfl
 simp only [k17,ne_eq,not_true_eq_false,not_false_eq_true,if_true,if_false,reduceIte,Int.reduceEq,true_or,or_true,false_or,or_false,or_self,true_and,and_true,false_and,and_false,and_self,Option.map_some,Option.map_none,Bool.false_eq_true,reduceCtorEq,decide_eq_false_iff_not,Bool.true_and,Bool.false_and,Bool.true_eq_false]
 by_cases k19:e.kind=19
 ·simp only [k19,ne_eq,not_true_eq_false,not_false_eq_true,if_true,if_false,reduceIte,Int.reduceEq,true_or,or_true,false_or,or_false,or_self,true_and,and_true,false_and,and_false,and_self,Option.map_some,Option.map_none,Bool.false_eq_true,reduceCtorEq,decide_eq_false_iff_not,Bool.true_and,Bool.false_and,Bool.true_eq_false]
  cases q3:d.closed with
  | true=>simp only [ne_eq,not_true_eq_false,not_false_eq_true,if_true,if_false,reduceIte,Int.reduceEq,true_or,or_true,false_or,or_false,or_self,true_and,and_true,false_and,and_false,and_self,Option.map_some,Option.map_none,Bool.false_eq_true,reduceCtorEq,decide_eq_false_iff_not,Bool.true_and,Bool.false_and,Bool.true_eq_false];rfl
  | false =>
    simp only [ne_eq,not_true_eq_false,not_false_eq_true,if_true,if_false,reduceIte,Int.reduceEq,true_or,or_true,false_or,or_false,or_self,true_and,and_true,false_and,and_false,and_self,Option.map_some,Option.map_none,Bool.false_eq_true,reduceCtorEq,decide_eq_false_iff_not,Bool.true_and,Bool.false_and,Bool.true_eq_false];refine ⟨rfl,?_⟩
    have h1:=Rel.put h { d with closed:=true } (by dsimp only;omega) (by dsimp only;omega) r.next r.obj r.k r.n t.grp h.gp (fun h2=>absurd hn h2) (by rw [h.gp.nil_asks hn];dsimp only;omega) (fun x y _ hy=>hbal x y hy)
    simp only [RCh.conv,q1,ho] at h1;rw [←q1,ho];rw [←q1] at h1;exact h1
 simp only [k19,ne_eq,not_true_eq_false,not_false_eq_true,if_true,if_false,reduceIte,Int.reduceEq,true_or,or_true,false_or,or_false,or_self,true_and,and_true,false_and,and_false,and_self,Option.map_some,Option.map_none,Bool.false_eq_true,reduceCtorEq,decide_eq_false_iff_not,Bool.true_and,Bool.false_and,Bool.true_eq_false]
 by_cases k20:e.kind=20
 ·simp only [k20,ne_eq,not_true_eq_false,not_false_eq_true,if_true,if_false,reduceIte,Int.reduceEq,true_or,or_true,false_or,or_false,or_self,true_and,and_true,false_and,and_false,and_self,Option.map_some,Option.map_none,Bool.false_eq_true,reduceCtorEq,decide_eq_false_iff_not,Bool.true_and,Bool.false_and,Bool.true_eq_false]
  show Ans (r,d.closed && d.sent == d.recv) (if d.closed=true∧d.sent=d.recv then some t else none)
  by_cases q4:d.closed=true∧d.sent=d.recv
  ·rw [if_pos q4];refine ⟨?_,Rel.keep h r.next t.grp h.gp h.go rfl⟩;dsimp only;rw [q4.1,beq_iff_eq.2 q4.2];rfl
  ·rw [if_neg q4]
   show (d.closed && d.sent == d.recv)=false
   rw [Bool.eq_false_iff];intro h1;simp only [Bool.and_eq_true,beq_iff_eq] at h1;exact q4 h1
 simp only [k20,ne_eq,not_true_eq_false,not_false_eq_true,if_true,if_false,reduceIte,Int.reduceEq,true_or,or_true,false_or,or_false,or_self,true_and,and_true,false_and,and_false,and_self,Option.map_some,Option.map_none,Bool.false_eq_true,reduceCtorEq,decide_eq_false_iff_not,Bool.true_and,Bool.false_and,Bool.true_eq_false];rfl
theorem Rel.step {r:RSt} {t:TS} (h:Rel r t) (hw:t.wf) (e:Ev):match t.add e with
 | some t'=>∃ r',r.addR e=(r',true)∧Rel r' t'
 | none=>r.addR e=(r,false):=by
 have had:r.admits e=t.admits e:=by unfold RSt.admits TS.admits;rw [h.ct,h.gr]
 unfold TS.add RSt.addR;rw [had]
 cases ha:t.admits e with
 | false=>simp
 | true =>
   have hv:e.valid=true:=by unfold TS.admits at ha;simp only [Bool.and_eq_true] at ha;exact ha.1.1
   have hg:=(Ev.valid_g hv).1;have hc:0≤r.count:=by rw [h.ct];exact hw.ev.1
   have hgr:1≤r.gor:=by rw [h.gr];exact hw.gr.1
   have hans:Ans (r.partR e) (t.part e):=by
    have hk:=h.gp.kinds
    by_cases hn:r.next=[]
    ·have h1:r.partR e=if chanB e.kind=true then r.transferR e else r.otherR e:=by unfold RSt.partR;rw [hn];exact if_neg (Nat.lt_irrefl 0)
     have h2:t.part e=if chanB e.kind=true then t.operate e else t.simple e:=by unfold TS.part TS.isOpen;rw [hk,hn];exact if_neg (by simp)
     rw [h1,h2]
     by_cases hch:chanB e.kind=true
     ·rw [if_pos hch,if_pos hch];exact h.transfer e hg hc hgr hn
     ·rw [if_neg hch,if_neg hch];exact h.other hc e hn
    ·have hpos:0 < r.next.length:=List.length_pos_iff.2 hn;have h1:r.partR e=r.groupR e:=by unfold RSt.partR;exact if_pos hpos
     have h2:t.part e=t.proceed e:=by unfold TS.part TS.isOpen;rw [hk,List.length_map];exact if_pos (decide_eq_true hpos)
     rw [h1,h2];exact h.group e hg hc hn
   rw [if_pos rfl];unfold Ans at hans
   cases hp:t.part e with
   | none =>
     rw [hp] at hans;rw [if_neg (by rw [hans];simp)]
     rfl
   | some t' =>
     rw [hp] at hans;rw [if_pos ⟨rfl,hans.1⟩];exact ⟨_,rfl,hans.2⟩
def TS.kok (t:TS):Prop:=t.isOpen=true→15≤t.grp.kinds.headD 0∧t.grp.kinds.headD 0≤18
theorem Rel.kok {r:RSt} {t:TS} (h:Rel r t):t.kok:=fun ho=>by
 have hg:=h.gp;unfold TS.isOpen at ho;generalize r.next=nx at hg;generalize t.grp.snd=sa at hg;generalize t.grp.rcv=sb at hg;generalize t.grp.kinds=ks at hg ho ⊢;cases hg <;> simp at ho ⊢
theorem add_cases {t u:TS} {e:Ev} (h:t.add e=some u):e.valid=true∧∃ v,{ v with events:=v.events+1 }=u∧((t.isOpen=true∧t.proceed e=some v)∨(t.isOpen=false∧chanB e.kind=true∧t.operate e=some v)∨(t.isOpen=false∧chanB e.kind=false∧t.simple e=some v)):=by
 unfold TS.add at h;split at h
 ·rename_i ha;simp only [Option.map_eq_some_iff] at h;obtain ⟨v,hv,rfl⟩:=h;unfold TS.admits at ha;simp only [Bool.and_eq_true] at ha;refine ⟨ha.1.1,v,rfl,?_⟩;unfold TS.part at hv;split at hv
  ·rename_i ho;exact .inl ⟨ho,hv⟩
  ·rename_i ho;have ho:t.isOpen=false:=by simpa using ho
   split at hv
   ·rename_i hc;exact .inr (.inl ⟨ho,hc,hv⟩)
   ·rename_i hc;exact .inr (.inr ⟨ho,by simpa using hc,hv⟩)
 ·cases h
theorem proceed_eq {t v:TS} {e:Ev} (h:t.proceed e=some v):t.grp.fits e=true∧v={ t.count e with grp:=t.grp.next e }:=by
 unfold TS.proceed at h;split at h
 ·rename_i hf;cases h;exact ⟨hf,rfl⟩
 ·cases h
def TS.locked (t:TS) (x:Int×Int):Bool:=((t.mus x).getD mu0).locked
def TS.w15 (t:TS) (x:Int):Int:=if x=t.grp.obj∧t.grp.kinds.headD 0=15 then 1 else 0
def TS.w17 (t:TS) (x:Int):Int:=if x=t.grp.obj∧t.grp.kinds.headD 0=17 then 1 else 0
structure TBal (t:TS):Prop where
 a:∀ x c,t.chans x=some c→c.sent+t.w15 x≤c.recv+c.cap+t.w17 x
 b:∀ x c,t.chans x=some c→c.recv+t.w17 x≤c.sent+t.w15 x
 op:t.isOpen=true→∃ c,t.chans t.grp.obj=some c∧c.cap=t.grp.n
theorem TBal.new:TBal TS.new:=⟨fun _ _ h=>(by cases h),fun _ _ h=>(by cases h),fun h=>(by cases h)⟩
def TS.sentOf (t:TS) (x:Int):Int:=((t.chans x).getD ch0).sent
def TS.recvOf (t:TS) (x:Int):Int:=((t.chans x).getD ch0).recv
structure TCnt (t u:TS) (e:Ev):Prop where
 s:∀ x,u.sentOf x=t.sentOf x+if e.obj=x∧e.kind=15 then 1 else 0
 r:∀ x,u.recvOf x=t.recvOf x+if e.obj=x∧e.kind=17 then 1 else 0
theorem count_sent (c:Ch) (k:Int):(c.count k).sent=c.sent+if k=15 then 1 else 0:=by
 unfold Ch.count;split
 ·rfl
 ·split <;> simp
theorem count_recv (c:Ch) (k:Int):(c.count k).recv=c.recv+if k=17 then 1 else 0:=by
 unfold Ch.count;split
 ·rename_i h;rw [if_neg (by omega)];simp
 ·split
  ·rfl
  ·simp
theorem count_cap (c:Ch) (k:Int):(c.count k).cap=c.cap:=by
 unfold Ch.count;split
 ·rfl
 ·split <;> rfl
theorem cnt_upd {t:TS} {e:Ev} {c:Ch} (hs:c.sent=t.sentOf e.obj) (hr:c.recv=t.recvOf e.obj) {v:TS} (hv:v.chans=upd t.chans e.obj (c.count e.kind)):TCnt t v e:=by
 refine ⟨fun x=>?_,fun x=>?_⟩
 ·unfold TS.sentOf;rw [hv]
  by_cases hx:x=e.obj
  ·subst hx;rw [upd_same];simp only [Option.getD_some];rw [count_sent,hs];unfold TS.sentOf;simp
  ·rw [upd_other _ _ hx,if_neg (fun h=>hx h.1.symm)];simp
 ·unfold TS.recvOf;rw [hv]
  by_cases hx:x=e.obj
  ·subst hx;rw [upd_same];simp only [Option.getD_some];rw [count_recv,hr];unfold TS.recvOf;simp
  ·rw [upd_other _ _ hx,if_neg (fun h=>hx h.1.symm)];simp
theorem cnt_same {t v:TS} {e:Ev} (h5:e.kind≠15) (h7:e.kind≠17) (hs:∀ x,v.sentOf x=t.sentOf x) (hr:∀ x,v.recvOf x=t.recvOf x):TCnt t v e :=
 ⟨fun x=>by rw [hs,if_neg (fun h=>h5 h.2)];simp,fun x=>by rw [hr,if_neg (fun h=>h7 h.2)];simp⟩
theorem chan_sent {t:TS} (e:Ev):(t.chan e).sent=t.sentOf e.obj∧(t.chan e).recv=t.recvOf e.obj:=by
 unfold TS.chan TS.sentOf TS.recvOf
 cases t.chans e.obj with
 | none=>exact ⟨rfl,rfl⟩
 | some c=>exact ⟨rfl,rfl⟩
theorem closed_w {r:RSt} {t:TS} (h:Rel r t) (ho:t.isOpen=false) (x:Int):t.w15 x=0∧t.w17 x=0:=by
 have hk:t.grp.kinds=[]:=by
  unfold TS.isOpen at ho
  cases hk:t.grp.kinds with
  | nil=>rfl
  | cons a l=>rw [hk] at ho;simp at ho
 unfold TS.w15 TS.w17;rw [hk];exact ⟨if_neg (fun h=>by simp at h),if_neg (fun h=>by simp at h)⟩
theorem chan_bal {r:RSt} {t:TS} (h:Rel r t) (hb:TBal t) (ho:t.isOpen=false) {e:Ev} (hn:0≤e.n):(t.chan e).sent≤(t.chan e).recv+(t.chan e).cap∧(t.chan e).recv≤(t.chan e).sent:=by
 unfold TS.chan
 cases hc:t.chans e.obj with
 | none=>exact ⟨by show (0:Int)≤0+e.n;omega,Int.le_refl _⟩
 | some c =>
   have h1:=hb.a _ _ hc;have h2:=hb.b _ _ hc;obtain ⟨w1,w2⟩:=closed_w h ho e.obj;rw [w1,w2] at h1 h2;dsimp only;exact ⟨by omega,by omega⟩
theorem bal_put {r:RSt} {t:TS} (h:Rel r t) (hb:TBal t) (ho:t.isOpen=false) {e:Ev} {c:Ch} {v:TS} (hv:v.chans=upd t.chans e.obj c) (hw:∀ x,x≠e.obj→v.w15 x=0∧v.w17 x=0)
 (ha:c.sent+v.w15 e.obj≤c.recv+c.cap+v.w17 e.obj) (hbb:c.recv+v.w17 e.obj≤c.sent+v.w15 e.obj) (hop:v.isOpen=true→v.grp.obj=e.obj∧c.cap=v.grp.n):TBal v:=by
 have oth:∀ x d,x≠e.obj→v.chans x=some d→d.sent≤d.recv+d.cap∧d.recv≤d.sent:=fun x d hx hd=>by
  rw [hv,upd_other _ _ hx] at hd;have h1:=hb.a _ _ hd;have h2:=hb.b _ _ hd;obtain ⟨w1,w2⟩:=closed_w h ho x;rw [w1,w2] at h1 h2;exact ⟨by omega,by omega⟩
 refine ⟨fun x d hd=>?_,fun x d hd=>?_,fun ho'=>?_⟩
 ·by_cases hx:x=e.obj
  ·subst hx;rw [hv,upd_same] at hd;cases hd;exact ha
  ·obtain ⟨w1,w2⟩:=hw x hx;have:=oth x d hx hd;omega
 ·by_cases hx:x=e.obj
  ·subst hx;rw [hv,upd_same] at hd;cases hd;exact hbb
  ·obtain ⟨w1,w2⟩:=hw x hx;have:=oth x d hx hd;omega
 ·obtain ⟨h1,h2⟩:=hop ho';exact ⟨c,by rw [h1,hv,upd_same],h2⟩
theorem bal_operate {r:RSt} {t:TS} (h:Rel r t) (hb:TBal t) (ho:t.isOpen=false) {e:Ev} (hn:0≤e.n) {v:TS} (hv:t.operate e=some v):TBal v∧TCnt t v e∧∃ c,v.chans e.obj=some c∧c.cap=e.n:=by
 have hcb:=chan_bal h hb ho hn;obtain ⟨hs,hr⟩:=chan_sent (t:=t) e;unfold TS.operate at hv;dsimp only at hv;split at hv
 ·cases hv
 rename_i hcap;have hcap:(t.chan e).cap=e.n:=by simpa using hcap
 have hstart:∀ ks a b,(ks.headD 0=15∨ks.headD 0=17∨(ks.headD 0≠15∧ks.headD 0≠17))→v=t.start e (t.chan e) ks a b →
  ((t.chan e).count e.kind).sent+(if ks.headD 0=15 then 1 else 0)≤((t.chan e).count e.kind).recv+(t.chan e).cap+(if ks.headD 0=17 then 1 else 0) →
  ((t.chan e).count e.kind).recv+(if ks.headD 0=17 then 1 else 0)≤((t.chan e).count e.kind).sent+(if ks.headD 0=15 then 1 else 0)→TBal v∧TCnt t v e∧∃ c,v.chans e.obj=some c∧c.cap=e.n:=fun ks a b _ hve h1 h2=>by
  subst hve
  have w1:(t.start e (t.chan e) ks a b).w15 e.obj=if ks.headD 0=15 then 1 else 0:=by
   show (if e.obj=e.obj∧ks.headD 0=15 then (1:Int) else 0)=_
   simp
  have w2:(t.start e (t.chan e) ks a b).w17 e.obj=if ks.headD 0=17 then 1 else 0:=by
   show (if e.obj=e.obj∧ks.headD 0=17 then (1:Int) else 0)=_
   simp
  refine ⟨bal_put (e:=e) h hb ho rfl (fun x hx=>⟨if_neg (fun hh=>hx hh.1),if_neg (fun hh=>hx hh.1)⟩) (by rw [w1,w2,count_cap];exact h1) (by rw [w1,w2];exact h2) (fun _=>⟨rfl,by rw [count_cap];exact hcap⟩),cnt_upd hs hr rfl,_,upd_same _ _ _,by rw [count_cap];exact hcap⟩
 split at hv
 ·rename_i k19;split at hv
  ·cases hv
  ·cases hv
   refine ⟨bal_put (e:=e) (c:={ t.chan e with closed:=true }) h hb ho rfl (fun x _=>closed_w h ho x) ?_ ?_ (fun ho'=>absurd (show t.isOpen=true from ho') (by rw [ho];decide)),cnt_same (by omega) (by omega) (fun x=>?_) (fun x=>?_),_,upd_same _ _ _,hcap⟩
   ·have:=closed_w h ho e.obj
    show (t.chan e).sent+t.w15 e.obj≤(t.chan e).recv+(t.chan e).cap+t.w17 e.obj
    omega
   ·have:=closed_w h ho e.obj
    show (t.chan e).recv+t.w17 e.obj≤(t.chan e).sent+t.w15 e.obj
    omega
   ·unfold TS.sentOf;dsimp only
    by_cases hx:x=e.obj
    ·subst hx;rw [upd_same];exact hs
    ·rw [upd_other _ _ hx]
   ·unfold TS.recvOf;dsimp only
    by_cases hx:x=e.obj
    ·subst hx;rw [upd_same];exact hr
    ·rw [upd_other _ _ hx]
 ·split at hv
  ·rename_i k20;split at hv
   ·rename_i hcl;cases hv;refine ⟨hb,cnt_same (by omega) (by omega) (fun _=>rfl) (fun _=>rfl),?_⟩
    cases hc:t.chans e.obj with
    | none=>unfold TS.chan at hcl;rw [hc] at hcl;cases hcl.1
    | some c=>exact ⟨c,rfl,by unfold TS.chan at hcap;rw [hc] at hcap;exact hcap⟩
   ·cases hv
  ·split at hv
   ·rename_i k15;split at hv
    ·cases hv
    ·simp only [Option.map_eq_some_iff] at hv;obtain ⟨ks,hm,rfl⟩:=hv;unfold Ch.missing at hm;rw [if_pos rfl] at hm;split at hm
     ·rename_i hlt;cases hm;exact hstart _ _ _ (by decide) rfl (by rw [count_sent,count_recv];simp [k15];omega) (by rw [count_sent,count_recv];simp [k15];omega)
     ·split at hm
      ·rename_i hc0;cases hm;exact hstart _ _ _ (by decide) rfl (by rw [count_sent,count_recv];simp [k15];omega) (by rw [count_sent,count_recv];simp [k15];omega)
      ·cases hm
   ·split at hv
    ·rename_i k17;split at hv
     ·cases hv
     ·simp only [Option.map_eq_some_iff] at hv;obtain ⟨ks,hm,rfl⟩:=hv;unfold Ch.missing at hm;rw [if_neg (by decide)] at hm;split at hm
      ·rename_i hlt;cases hm;exact hstart _ _ _ (by decide) rfl (by rw [count_sent,count_recv];simp [k17];omega) (by rw [count_sent,count_recv];simp [k17];omega)
      ·split at hm
       ·cases hm;exact hstart _ _ _ (by decide) rfl (by rw [count_sent,count_recv];simp [k17];omega) (by rw [count_sent,count_recv];simp [k17];omega)
       ·cases hm
    ·cases hv
theorem bal_simple {t:TS} (hb:TBal t) {e:Ev} (hk:chanB e.kind=false) {v:TS} (hv:t.simple e=some v):TBal v∧TCnt t v e:=by
 have hk':e.kind≠15∧e.kind≠17:=by
  unfold chanB at hk;simp only [decide_eq_false_iff_not] at hk;omega
 have h:v.chans=t.chans∧v.grp=t.grp:=by
  unfold TS.simple at hv;dsimp only at hv
  repeat' split at hv
  all_goals first
   | (cases hv;done)
   | (cases hv;exact ⟨rfl,rfl⟩)
 obtain ⟨h1,h2⟩:=h;have w15:∀ x,v.w15 x=t.w15 x:=fun x=>by unfold TS.w15;rw [h2]
 have w17:∀ x,v.w17 x=t.w17 x:=fun x=>by unfold TS.w17;rw [h2]
 refine ⟨⟨fun x c hc=>?_,fun x c hc=>?_,fun ho=>?_⟩,cnt_same hk'.1 hk'.2 (fun x=>by unfold TS.sentOf;rw [h1]) (fun x=>by unfold TS.recvOf;rw [h1])⟩
 ·rw [w15,w17];rw [h1] at hc;exact hb.a x c hc
 ·rw [w15,w17];rw [h1] at hc;exact hb.b x c hc
 ·rw [h1,h2];exact hb.op (by unfold TS.isOpen at ho ⊢;rw [h2] at ho;exact ho)
theorem bal_proceed {r:RSt} {t:TS} (h:Rel r t) (hb:TBal t) (ho:t.isOpen=true) {e:Ev} {v:TS} (hv:t.proceed e=some v):TBal v∧TCnt t v e∧∃ c,v.chans e.obj=some c∧c.cap=e.n:=by
 obtain ⟨hf,rfl⟩:=proceed_eq hv;unfold Grp.fits at hf;simp only [Bool.and_eq_true,decide_eq_true_eq] at hf;obtain ⟨⟨hk,hobj,hkk,hn⟩,_⟩:=hf;obtain ⟨c,hc,hcap⟩:=hb.op ho;have hgn:(t.grp.next e).obj=t.grp.obj∧(t.grp.next e).n=t.grp.n∧(t.grp.next e).kinds=t.grp.kinds.tail:=by unfold Grp.next;split <;> exact ⟨rfl,rfl,rfl⟩
 obtain ⟨g1,g2,g3⟩:=hgn;rw [←hobj] at hc;have hch:(t.count e).chans=upd t.chans e.obj (c.count e.kind):=by unfold TS.count;dsimp only;rw [hc];rfl
 have hh:(t.grp.kinds.headD 0=15∨t.grp.kinds.headD 0=16∨t.grp.kinds.headD 0=17∨t.grp.kinds.headD 0=18)∧t.grp.kinds.tail.headD 0≠15∧t.grp.kinds.tail.headD 0≠17:=by
  have hg:=h.gp;unfold TS.isOpen at ho;generalize r.next=nx at hg;generalize t.grp.snd=sa at hg;generalize t.grp.rcv=sb at hg;generalize t.grp.kinds=ks at hg ho ⊢;cases hg <;> simp at ho ⊢
 have hek:e.kind=15∨e.kind=16∨e.kind=17∨e.kind=18:=by rw [hk];exact hh.1
 have hA:=hb.a _ _ hc;have hB:=hb.b _ _ hc;have e15:t.w15 e.obj=if e.kind=15 then 1 else 0:=by unfold TS.w15;rw [hk];simp [hobj]
 have e17:t.w17 e.obj=if e.kind=17 then 1 else 0:=by unfold TS.w17;rw [hk];simp [hobj]
 rw [e15,e17] at hA hB
 have n15:∀ x,TS.w15 { t.count e with grp:=t.grp.next e } x=0:=fun x=>by unfold TS.w15;dsimp only;rw [g3];exact if_neg (fun hx=>hh.2.1 hx.2)
 have n17:∀ x,TS.w17 { t.count e with grp:=t.grp.next e } x=0:=fun x=>by unfold TS.w17;dsimp only;rw [g3];exact if_neg (fun hx=>hh.2.2 hx.2)
 have o15:∀ x,x≠e.obj→t.w15 x=0:=fun x hx=>if_neg (fun hh=>hx (by rw [hobj];exact hh.1))
 have o17:∀ x,x≠e.obj→t.w17 x=0:=fun x hx=>if_neg (fun hh=>hx (by rw [hobj];exact hh.1))
 refine ⟨⟨fun x d hd=>?_,fun x d hd=>?_,fun _=>?_⟩,cnt_upd (c:=c) (by unfold TS.sentOf;rw [hc];rfl) (by unfold TS.recvOf;rw [hc];rfl) hch,c.count e.kind,by show (t.count e).chans e.obj=_;rw [hch,upd_same],by rw [count_cap,hcap,hn]⟩
 ·rw [n15,n17];have hd:(t.count e).chans x=some d:=hd
  by_cases hx:x=e.obj
  ·subst hx;rw [hch,upd_same] at hd;cases hd;rw [count_sent,count_recv,count_cap]
   rcases hek with q | q | q | q <;> rw [q] at hA hB ⊢ <;> simp at hA hB ⊢ <;> omega
  ·rw [hch,upd_other _ _ hx] at hd;have:=hb.a _ _ hd;rw [o15 x hx,o17 x hx] at this;exact this
 ·rw [n15,n17];have hd:(t.count e).chans x=some d:=hd
  by_cases hx:x=e.obj
  ·subst hx;rw [hch,upd_same] at hd;cases hd;rw [count_sent,count_recv]
   rcases hek with q | q | q | q <;> rw [q] at hA hB ⊢ <;> simp at hA hB ⊢ <;> omega
  ·rw [hch,upd_other _ _ hx] at hd;have:=hb.b _ _ hd;rw [o15 x hx,o17 x hx] at this;exact this
 ·refine ⟨c.count e.kind,?_,?_⟩
  ·show (t.count e).chans (t.grp.next e).obj=_
   rw [g1,←hobj,hch,upd_same]
  ·rw [count_cap,hcap];show _=(t.grp.next e).n;rw [g2]
theorem bal_add {r:RSt} {t u:TS} (h:Rel r t) (hb:TBal t) {e:Ev} (ha:t.add e=some u):TBal u∧TCnt t u e∧(chanB e.kind=true→∃ c,u.chans e.obj=some c∧c.cap=e.n):=by
 obtain ⟨hv,v,rfl,hc⟩:=add_cases ha;have hn:=(Ev.valid_n hv).1
 have lift:TBal v→TBal { v with events:=v.events+1 }:=fun h=>⟨h.a,h.b,h.op⟩
 have liftc:TCnt t v e→TCnt t { v with events:=v.events+1 } e:=fun h=>⟨h.s,h.r⟩
 rcases hc with ⟨ho,hc⟩ | ⟨ho,hk,hc⟩ | ⟨ho,hk,hc⟩
 ·obtain ⟨h1,h2,h3⟩:=bal_proceed h hb ho hc;exact ⟨lift h1,liftc h2,fun _=>h3⟩
 ·obtain ⟨h1,h2,h3⟩:=bal_operate h hb ho hn hc;exact ⟨lift h1,liftc h2,fun _=>h3⟩
 ·obtain ⟨h1,h2⟩:=bal_simple hb hk hc;exact ⟨lift h1,liftc h2,fun h=>by rw [hk] at h;cases h⟩
abbrev Ck:=List Int
def ckZ:Ck:=List.replicate 8 0
def joinC (a b:Ck):Ck:=List.zipWith (fun x y=>if y > x then y else x) a b
def syncB (a b:Ev):Bool :=
 if a.obj≠b.obj then false
 else if a.off≠b.off then false
 else if b.kind=18 then a.kind == 15 && a.k == b.k
 else if b.kind=16 then a.kind == 17 && b.k == a.k+b.n
 else if b.kind=20 then a.kind == 19
 else if b.kind=6 then a.kind == 7 || a.kind == 9
 else if b.kind=8 then a.kind == 7
 else if b.kind=11 then a.kind == 10
 else if b.kind=13 then a.kind == 12
 else false
structure SSt where
 cur:List Ck
 birth:List Ck
 out:List Ck
def startC (s:SSt) (e:Ev):Ck:=if s.cur.getD e.g.toNat ckZ=ckZ then s.birth.getD e.g.toNat ckZ else s.cur.getD e.g.toNat ckZ
def atomB (f e:Ev):Bool:=f.obj == e.obj && (f.off == e.off && (f.kind == 4 || f.kind == 5))
def inStep (out:List Ck) (e f:Ev) (i:Nat) (p:Ck×Int):Ck×Int :=
 (if syncB f e=true then joinC p.1 (out.getD i ckZ) else p.1,if atomB f e=true then (i:Int) else p.2)
def inTo (l:List Ev) (out:List Ck) (e:Ev) (p:Ck×Int):Nat→Ck×Int
 | 0=>p
 | i+1=>inStep out e (l.getD i default) i (inTo l out e p i)
def atomE (e:Ev) (at_:Int):Bool:=decide (0≤at_) && (e.kind == 3 || e.kind == 5)
def finC (out:List Ck) (e:Ev) (p:Ck×Int):Ck :=
 let c:=if atomE e p.2=true then joinC p.1 (out.getD p.2.toNat ckZ) else p.1
 c.set e.g.toNat (c.getD e.g.toNat 0+1)
def clockAt (l:List Ev) (s:SSt) (e:Ev) (j:Nat):Ck:=finC s.out e (inTo l s.out e (startC s e, -1) j)
def SSt.step (l:List Ev) (s:SSt) (e:Ev) (j:Nat):SSt :=
 ⟨s.cur.set e.g.toNat (clockAt l s e j),if e.kind=14 then s.birth.set e.k.toNat (clockAt l s e j) else s.birth,s.out ++ [clockAt l s e j]⟩
def runTo (l:List Ev):Nat→SSt
 | 0=>⟨List.replicate 8 ckZ,List.replicate 8 ckZ,[]⟩
 | j+1=>(runTo l j).step l (l.getD j default) j
def stampsL (l:List Ev):List Ck:=(runTo l l.length).out
def COk (n:Int) (c:Ck):Prop:=c.length=8∧∀ x,x ∈ c→0≤x∧x≤n
theorem COk.z {n:Int} (h:0≤n):COk n ckZ:=⟨rfl,fun x hx=>by simp [ckZ] at hx;omega⟩
theorem COk.mono {n m:Int} (h:n≤m) {c:Ck} (hc:COk n c):COk m c:=⟨hc.1,fun x hx=>by have:=hc.2 x hx;omega⟩
theorem COk.join {n:Int} {a b:Ck} (ha:COk n a) (hb:COk n b):COk n (joinC a b):=by
 refine ⟨by unfold joinC;rw [List.length_zipWith,ha.1,hb.1];rfl,fun x hx=>?_⟩
 unfold joinC at hx;obtain ⟨i,hi⟩:=List.getElem?_of_mem hx;rw [List.getElem?_zipWith] at hi;split at hi
 ·rename_i u v hu hv;cases hi;have h1:=ha.2 u (List.mem_of_getElem? hu);have h2:=hb.2 v (List.mem_of_getElem? hv);split <;> omega
 ·cases hi
theorem COk.getD {n:Int} (h:0≤n) {l:List Ck} (hl:∀ c,c ∈ l→COk n c) (i:Nat):COk n (l.getD i ckZ):=by
 rw [List.getD_eq_getElem?_getD]
 cases hi:l[i]? with
 | none=>exact COk.z h
 | some c=>exact hl c (List.mem_of_getElem? hi)
theorem COk.tick {n:Int} {c:Ck} (hc:COk n c) (i:Nat):COk (n+1) (c.set i (c.getD i 0+1)):=by
 refine ⟨by rw [List.length_set];exact hc.1,fun x hx=>?_⟩
 rcases List.mem_or_eq_of_mem_set hx with h | h
 ·have:=hc.2 x h;omega
 ·subst h;rw [List.getD_eq_getElem?_getD]
  cases hi:c[i]? with
  | none =>
    have h8:=hc.1;have:=hc.2 (c[0]'(by omega)) (List.getElem_mem _);simp;omega
  | some y=>have:=hc.2 y (List.mem_of_getElem? hi);simp;omega
structure SOk (s:SSt) (j:Nat):Prop where
 cl:s.cur.length=8
 bl:s.birth.length=8
 ol:s.out.length=j
 cc:∀ c,c ∈ s.cur→COk j c
 bc:∀ c,c ∈ s.birth→COk j c
 oc:∀ c,c ∈ s.out→COk j c
theorem SOk.start {s:SSt} {j:Nat} (h:SOk s j) (e:Ev):COk j (startC s e):=by
 unfold startC;split
 ·exact COk.getD (by omega) h.bc _
 ·exact COk.getD (by omega) h.cc _
theorem SOk.inTo {s:SSt} {j:Nat} (h:SOk s j) (l:List Ev) (e:Ev) (i:Nat):COk j (inTo l s.out e (startC s e, -1) i).1∧-1≤(Go.Proofs.Ytffcpijeebagfaa.inTo l s.out e (startC s e, -1) i).2∧(Go.Proofs.Ytffcpijeebagfaa.inTo l s.out e (startC s e, -1) i).2 < i:=by
 induction i with
 | zero=>exact ⟨h.start e,by simp [Go.Proofs.Ytffcpijeebagfaa.inTo],by simp [Go.Proofs.Ytffcpijeebagfaa.inTo]⟩
 | succ i ih =>
   obtain ⟨h1,h2,h3⟩:=ih;simp only [Go.Proofs.Ytffcpijeebagfaa.inTo,inStep];refine ⟨?_,?_,?_⟩
   ·split
    ·exact h1.join (COk.getD (by omega) h.oc _)
    ·exact h1
   ·split <;> omega
   ·split <;> omega
theorem SOk.pre {s:SSt} {j:Nat} (h:SOk s j) (l:List Ev) (e:Ev):COk j (let p:=Go.Proofs.Ytffcpijeebagfaa.inTo l s.out e (startC s e, -1) j;if atomE e p.2=true then joinC p.1 (s.out.getD p.2.toNat ckZ) else p.1):=by
 dsimp only;split
 ·exact (h.inTo l e j).1.join (COk.getD (by omega) h.oc _)
 ·exact (h.inTo l e j).1
theorem SOk.clock {s:SSt} {j:Nat} (h:SOk s j) (l:List Ev) (e:Ev):COk ((j+1:Nat):Int) (clockAt l s e j):=by
 have:=(h.pre l e).tick e.g.toNat;unfold clockAt finC;exact this.mono (by omega)
theorem SOk.step {s:SSt} {j:Nat} (h:SOk s j) (l:List Ev) (e:Ev):SOk (s.step l e j) (j+1):=by
 have hc:=h.clock l e;have up:∀ c,COk (j:Int) c→COk ((j+1:Nat):Int) c:=fun c h=>h.mono (by omega)
 refine ⟨?_,?_,?_,fun c hm=>?_,fun c hm=>?_,fun c hm=>?_⟩
 ·simp [SSt.step,h.cl]
 ·simp only [SSt.step];split <;> simp [h.bl]
 ·simp [SSt.step,h.ol]
 ·rcases List.mem_or_eq_of_mem_set hm with hm | rfl
  ·exact up c (h.cc c hm)
  ·exact hc
 ·simp only [SSt.step] at hm;split at hm
  ·rcases List.mem_or_eq_of_mem_set hm with hm | rfl
   ·exact up c (h.bc c hm)
   ·exact hc
  ·exact up c (h.bc c hm)
 ·simp only [SSt.step,List.mem_append,List.mem_singleton] at hm
  rcases hm with hm | rfl
  ·exact up c (h.oc c hm)
  ·exact hc
theorem runTo_ok (l:List Ev) (j:Nat):SOk (runTo l j) j:=by
 induction j with
 | zero=>exact ⟨rfl,rfl,rfl,fun c hc=>by simp [runTo] at hc;subst hc;exact COk.z (by omega),fun c hc=>by simp [runTo] at hc;subst hc;exact COk.z (by omega),fun c hc=>by simp [runTo] at hc⟩
 | succ j ih=>exact ih.step l _
theorem stampsL_length (l:List Ev):(stampsL l).length=l.length:=(runTo_ok l l.length).ol
theorem stampsL_ok (l:List Ev):∀ c,c ∈ stampsL l→COk l.length c:=(runTo_ok l l.length).oc
theorem getD_join {a b:Ck} (ha:a.length=8) (hb:b.length=8) {k:Nat} (hk:k < 8):(joinC a b).getD k 0=if b.getD k 0 > a.getD k 0 then b.getD k 0 else a.getD k 0:=by
 obtain ⟨x,hx⟩:∃ x,a[k]? = some x:=⟨_,List.getElem?_eq_getElem (by omega)⟩
 obtain ⟨y,hy⟩:∃ y,b[k]? = some y:=⟨_,List.getElem?_eq_getElem (by omega)⟩
 simp only [List.getD_eq_getElem?_getD,joinC,List.getElem?_zipWith,hx,hy,Option.getD_some]
def SSt.dg (s:SSt) (k:Nat):Int:=(s.cur.getD k ckZ).getD k 0
structure Cnt (s:SSt):Prop where
 cc:∀ c,c ∈ s.cur→∀ k,k < 8→c.getD k 0≤s.dg k
 bc:∀ c,c ∈ s.birth→∀ k,k < 8→c.getD k 0≤s.dg k
 oc:∀ c,c ∈ s.out→∀ k,k < 8→c.getD k 0≤s.dg k
theorem ckZ_get (k:Nat):(ckZ.getD k 0)=0:=by
 unfold ckZ;rw [List.getD_eq_getElem?_getD,List.getElem?_replicate];split <;> rfl
theorem COk.get {n:Int} {c:Ck} (h:COk n c) (k:Nat):0≤c.getD k 0:=by
 rw [List.getD_eq_getElem?_getD]
 cases hk:c[k]? with
 | none=>exact Int.le_refl _
 | some x=>exact (h.2 x (List.mem_of_getElem? hk)).1
def preC (l:List Ev) (s:SSt) (e:Ev) (j:Nat):Ck :=
 if atomE e (inTo l s.out e (startC s e, -1) j).2=true then joinC (inTo l s.out e (startC s e, -1) j).1 (s.out.getD (inTo l s.out e (startC s e, -1) j).2.toNat ckZ) else (inTo l s.out e (startC s e, -1) j).1
theorem clockAt_eq (l:List Ev) (s:SSt) (e:Ev) (j:Nat):clockAt l s e j=(preC l s e j).set e.g.toNat ((preC l s e j).getD e.g.toNat 0+1):=rfl
theorem mem_getD {l:List Ck} {i:Nat} (h:i < l.length):l.getD i ckZ ∈ l:=by
 rw [List.getD_eq_getElem?_getD,List.getElem?_eq_getElem h];exact List.getElem_mem h
theorem getD_none {l:List Ck} {i:Nat} (h:l.length≤i):l.getD i ckZ=ckZ:=by rw [List.getD_eq_getElem?_getD,List.getElem?_eq_none h];rfl
section
variable {l:List Ev} {s:SSt} {e:Ev} {j:Nat}
theorem Cnt.start (h:Cnt s) (hok:SOk s j) (hg:e.g.toNat < 8) {k:Nat} (hk:k < 8):(s.cur.getD e.g.toNat ckZ).getD k 0≤(startC s e).getD k 0∧(startC s e).getD k 0≤s.dg k:=by
 have hm:=mem_getD (l:=s.cur) (i:=e.g.toNat) (by rw [hok.cl];exact hg)
 have hb:=mem_getD (l:=s.birth) (i:=e.g.toNat) (by rw [hok.bl];exact hg)
 unfold startC;split
 ·rename_i hz;rw [hz,ckZ_get];exact ⟨(hok.bc _ hb).get k,h.bc _ hb k hk⟩
 ·exact ⟨Int.le_refl _,h.cc _ hm k hk⟩
theorem out_le (h:Cnt s) (i:Nat) (hd:∀ k,k < 8→0≤s.dg k) {k:Nat} (hk:k < 8):(s.out.getD i ckZ).getD k 0≤s.dg k:=by
 rcases Nat.lt_or_ge i s.out.length with hi | hi
 ·exact h.oc _ (mem_getD hi) k hk
 ·rw [getD_none hi,ckZ_get];exact hd k hk
theorem out_len (hok:SOk s j) (i:Nat):(s.out.getD i ckZ).length=8:=by
 rcases Nat.lt_or_ge i s.out.length with hi | hi
 ·exact (hok.oc _ (mem_getD hi)).1
 ·rw [List.getD_eq_getElem?_getD,List.getElem?_eq_none hi];rfl
theorem dg_nonneg (hok:SOk s j) (k:Nat):0≤s.dg k:=by
 unfold SSt.dg
 rcases Nat.lt_or_ge k s.cur.length with hi | hi
 ·exact (hok.cc _ (mem_getD hi)).get k
 ·rw [getD_none hi,ckZ_get];exact Int.le_refl _
theorem Cnt.inTo (h:Cnt s) (hok:SOk s j) (hg:e.g.toNat < 8) (i:Nat) {k:Nat} (hk:k < 8):(startC s e).getD k 0≤(Go.Proofs.Ytffcpijeebagfaa.inTo l s.out e (startC s e, -1) i).1.getD k 0∧(Go.Proofs.Ytffcpijeebagfaa.inTo l s.out e (startC s e, -1) i).1.getD k 0≤s.dg k:=by
 induction i with
 | zero=>exact ⟨Int.le_refl _,(h.start hok hg hk).2⟩
 | succ i ih =>
   simp only [Go.Proofs.Ytffcpijeebagfaa.inTo,inStep];split
   ·rw [getD_join (hok.inTo l e i).1.1 (out_len hok i) hk];have:=out_le h i (fun k _=>dg_nonneg hok k) hk;split <;> omega
   ·exact ih
theorem Cnt.pre (h:Cnt s) (hok:SOk s j) (hg:e.g.toNat < 8) {k:Nat} (hk:k < 8):(startC s e).getD k 0≤(preC l s e j).getD k 0∧(preC l s e j).getD k 0≤s.dg k:=by
 have h1:=h.inTo (l:=l) hok hg j hk;unfold preC;split
 ·rw [getD_join (hok.inTo l e j).1.1 (out_len hok _) hk];have:=out_le h (Go.Proofs.Ytffcpijeebagfaa.inTo l s.out e (startC s e, -1) j).2.toNat (fun k _=>dg_nonneg hok k) hk;split <;> omega
 ·exact h1
theorem preC_len (hok:SOk s j):(preC l s e j).length=8:=(hok.pre l e).1
theorem Cnt.own (h:Cnt s) (hok:SOk s j) (hg:e.g.toNat < 8):(preC l s e j).getD e.g.toNat 0=s.dg e.g.toNat:=by
 have h1:=h.pre (l:=l) hok hg hg;have h2:=h.start hok hg hg (e:=e);have h3:(s.cur.getD e.g.toNat ckZ).getD e.g.toNat 0=s.dg e.g.toNat:=rfl;omega
theorem set_get {c:Ck} {i k:Nat} {x:Int} (hi:i < c.length):(c.set i x).getD k 0=if k=i then x else c.getD k 0:=by
 rw [List.getD_eq_getElem?_getD,List.getD_eq_getElem?_getD,List.getElem?_set]
 by_cases h:i=k
 ·subst h;rw [if_pos rfl,if_pos rfl,if_pos hi];rfl
 ·rw [if_neg h,if_neg (Ne.symm h)]
theorem Cnt.clock (h:Cnt s) (hok:SOk s j) (hg:e.g.toNat < 8):(clockAt l s e j).getD e.g.toNat 0=s.dg e.g.toNat+1∧∀ k,k < 8→(s.cur.getD e.g.toNat ckZ).getD k 0≤(clockAt l s e j).getD k 0∧(k≠e.g.toNat→(clockAt l s e j).getD k 0≤s.dg k):=by
 have hl:=preC_len (l:=l) (e:=e) hok;rw [clockAt_eq];refine ⟨by rw [set_get (by omega),if_pos rfl,h.own hok hg],fun k hk=>?_⟩;rw [set_get (by omega)];have h1:=h.pre (l:=l) hok hg hk;have h2:=h.start hok hg hk (e:=e)
 by_cases hkg:k=e.g.toNat
 ·rw [if_pos hkg];have:=h.own (l:=l) hok hg;subst hkg;exact ⟨by omega,fun hn=>absurd rfl hn⟩
 ·rw [if_neg hkg];exact ⟨by omega,fun _=>h1.2⟩
theorem Cnt.step (h:Cnt s) (hok:SOk s j) (hg:e.g.toNat < 8):Cnt (s.step l e j):=by
 have hcl:=hok.cl;obtain ⟨hc1,hc2⟩:=h.clock (l:=l) hok hg
 have hdg:∀ k,k < 8→(s.step l e j).dg k=if k=e.g.toNat then s.dg e.g.toNat+1 else s.dg k:=fun k hk=>by
  show ((s.cur.set e.g.toNat (clockAt l s e j)).getD k ckZ).getD k 0=_
  rw [List.getD_eq_getElem?_getD (l:=s.cur.set _ _),List.getElem?_set]
  by_cases hkg:e.g.toNat=k
  ·subst hkg;rw [if_pos rfl,if_pos (by omega),if_pos rfl];exact hc1
  ·rw [if_neg hkg,if_neg (Ne.symm hkg)]
   show (s.cur[k]?.getD ckZ).getD k 0=(s.cur.getD k ckZ).getD k 0
   rw [List.getD_eq_getElem?_getD (l:=s.cur)]
 have up:∀ k,k < 8→s.dg k≤(s.step l e j).dg k:=fun k hk=>by
  rw [hdg k hk];split
  ·rename_i h;rw [h];omega
  ·exact Int.le_refl _
 have hnew:∀ k,k < 8→(clockAt l s e j).getD k 0≤(s.step l e j).dg k:=fun k hk=>by
  rw [hdg k hk];split
  ·rename_i h;rw [h,hc1];exact Int.le_refl _
  ·rename_i h;exact (hc2 k hk).2 h
 refine ⟨fun c hm k hk=>?_,fun c hm k hk=>?_,fun c hm k hk=>?_⟩
 ·rcases List.mem_or_eq_of_mem_set hm with hm | rfl
  ·exact Int.le_trans (h.cc c hm k hk) (up k hk)
  ·exact hnew k hk
 ·simp only [SSt.step] at hm;split at hm
  ·rcases List.mem_or_eq_of_mem_set hm with hm | rfl
   ·exact Int.le_trans (h.bc c hm k hk) (up k hk)
   ·exact hnew k hk
  ·exact Int.le_trans (h.bc c hm k hk) (up k hk)
 ·simp only [SSt.step,List.mem_append,List.mem_singleton] at hm
  rcases hm with hm | rfl
  ·exact Int.le_trans (h.oc c hm k hk) (up k hk)
  ·exact hnew k hk
end
theorem runTo_cnt {l:List Ev} (hv:∀ e,e ∈ l→0≤e.g∧e.g < 8) {j:Nat} (hj:j≤l.length):Cnt (runTo l j):=by
 induction j with
 | zero =>
   have hz:∀ c,c ∈ List.replicate 8 ckZ→∀ k,k < 8→c.getD k 0≤(runTo l 0).dg k:=fun c hc k hk=>by
    simp at hc;subst hc;rw [ckZ_get];exact dg_nonneg (runTo_ok l 0) k
   exact ⟨hz,hz,fun c hc=>by simp [runTo] at hc⟩
 | succ j ih =>
   have he:=List.getElem?_eq_getElem (show j < l.length by omega);have hg:=hv (l.getD j default) (by rw [List.getD_eq_getElem?_getD,he];exact List.getElem_mem _)
   exact (ih (by omega)).step (runTo_ok l j) (by omega)
theorem out_prefix (l:List Ev) {i j:Nat} (h:i≤j):(runTo l j).out.take i=(runTo l i).out:=by
 induction j with
 | zero =>
   have:i=0:=by omega
   subst this;rfl
 | succ j ih =>
   rcases Nat.lt_or_eq_of_le h with h | h
   ·show ((runTo l j).out ++ [_]).take i=_
    rw [List.take_append_of_le_length (by rw [(runTo_ok l j).ol];omega)]
    exact ih (by omega)
   ·subst h;rw [List.take_of_length_le (by rw [(runTo_ok l (j+1)).ol];exact Nat.le_refl _)]
theorem stamps_at {l:List Ev} {i:Nat} {e:Ev} (he:l[i]? = some e):(stampsL l)[i]? = some (clockAt l (runTo l i) e i):=by
 have hi:=(List.getElem?_eq_some_iff.1 he).1;have hed:l.getD i default=e:=by rw [List.getD_eq_getElem?_getD,he];rfl
 have h1:=out_prefix l (i:=i+1) (j:=l.length) hi
 have h2:(runTo l (i+1)).out[i]? = some (clockAt l (runTo l i) e i):=by
  show ((runTo l i).out ++ [clockAt l (runTo l i) (l.getD i default) i])[i]? = _
  rw [hed,List.getElem?_append_right (by rw [(runTo_ok l i).ol];exact Nat.le_refl _),(runTo_ok l i).ol,Nat.sub_self];rfl
 rw [←h1,List.getElem?_take,if_pos (by omega)] at h2;exact h2
theorem Ev.valid_rg {e:Ev} (h:e.valid=true):(0≤e.g∧e.g < 8)∧(0≤e.k∧e.k≤2147483647)∧(0≤e.n∧e.n≤2147483647)∧(e.kind=14→0≤e.k∧e.k < 8):=by
 simp only [Ev.valid,rangeB,Bool.and_eq_true,decide_eq_true_eq] at h;refine ⟨by omega,by omega,by omega,fun hk=>?_⟩;have:=h.2;unfold Ev.rest at this;rw [if_pos hk] at this;simp only [decide_eq_true_eq] at this;omega
def evAt (l:List Ev) (i:Nat):Ev:=l.getD i default
theorem evAt_of {l:List Ev} {i:Nat} {e:Ev} (h:l[i]? = some e):evAt l i=e:=by unfold evAt;rw [List.getD_eq_getElem?_getD,h];rfl
theorem evAt_mem {l:List Ev} {i:Nat} (h:i < l.length):evAt l i ∈ l:=by
 rw [evAt_of (List.getElem?_eq_getElem h)];exact List.getElem_mem h
def Prog (l:List Ev) (i j:Nat):Prop:=(evAt l i).g=(evAt l j).g∧∀ k,i < k→k < j→(evAt l k).g≠(evAt l i).g
def First (l:List Ev) (j:Nat):Prop:=∀ k,k < j→(evAt l k).g≠(evAt l j).g
def Atom (l:List Ev) (i j:Nat):Prop:=∀ k,i < k→k < j→atomB (evAt l k) (evAt l j)=false
def Kinds (l:List Ev) (i j:Nat) (a b:Ev):Prop :=
 (a.kind=15∧b.kind=18∧b.k=a.k)∨(a.kind=17∧b.kind=16∧b.k=a.k+a.n)∨(a.kind=19∧b.kind=20)∨(a.kind=7∧(b.kind=6∨b.kind=8)) ∨
 (a.kind=9∧b.kind=6)∨(a.kind=10∧b.kind=11)∨(a.kind=12∧b.kind=13)∨((a.kind=4∨a.kind=5)∧(b.kind=3∨b.kind=5)∧Atom l i j)
def Syn (l:List Ev) (i j:Nat):Prop:=(evAt l i).obj=(evAt l j).obj∧(evAt l i).off=(evAt l j).off∧Kinds l i j (evAt l i) (evAt l j)
def GoE (l:List Ev) (i j:Nat):Prop:=(evAt l i).kind=14∧(evAt l i).k=(evAt l j).g∧First l j
def Imm (l:List Ev) (i j:Nat):Prop:=Prog l i j∨GoE l i j∨Syn l i j
inductive HB (l:List Ev):Nat→Nat→Prop
 | one {i j:Nat} (h:i < j) (hi:Imm l i j):HB l i j
 | step {i k j:Nat} (h:HB l i k) (hk:k < j) (hi:Imm l k j):HB l i j
def HBE (l:List Ev) (i j:Nat):Prop:=i=j∨HB l i j
theorem HB.lt {l:List Ev} {i j:Nat} (h:HB l i j):i < j:=by
 induction h with
 | one h _=>exact h
 | step _ hk _ ih=>omega
theorem HBE.le {l:List Ev} {i j:Nat} (h:HBE l i j):i≤j:=by
 rcases h with rfl | h
 ·exact Nat.le_refl _
 ·exact Nat.le_of_lt h.lt
theorem HB_iff {l:List Ev} {i j:Nat}:HB l i j↔∃ k,k < j∧Imm l k j∧HBE l i k:=by
 refine ⟨fun h=>?_,fun ⟨k,hk,hi,h⟩=>?_⟩
 ·cases h with
  | one h hi=>exact ⟨i,h,hi,.inl rfl⟩
  | step h hk hi=>exact ⟨_,hk,hi,.inr h⟩
 ·rcases h with rfl | h
  ·exact .one hk hi
  ·exact .step h hk hi
theorem HBE.trans {l:List Ev} {i k j:Nat} (h:HBE l i k) (h2:HB l k j):HB l i j:=by
 induction h2 with
 | one hk hi=>exact HB_iff.2 ⟨_,hk,hi,h⟩
 | step _ hk hi ih=>exact HB_iff.2 ⟨_,hk,hi,.inr ih⟩
def cntG (l:List Ev) (g:Int):Nat→Nat
 | 0=>0
 | n+1=>if (evAt l n).g=g then cntG l g n+1 else cntG l g n
def ord (l:List Ev) (i:Nat):Nat:=cntG l (evAt l i).g (i+1)
theorem ord_eq (l:List Ev) (i:Nat):ord l i=cntG l (evAt l i).g i+1:=by unfold ord;simp only [cntG];rw [if_pos trivial]
theorem cntG_mono {l:List Ev} {g:Int} {m n:Nat} (h:m≤n):cntG l g m≤cntG l g n:=by
 induction n with
 | zero=>have:m=0:=by omega
         subst this;exact Nat.le_refl _
 | succ n ih =>
   rcases Nat.lt_or_eq_of_le h with h | h
   ·have:=ih (by omega);simp only [cntG];split <;> omega
   ·subst h;exact Nat.le_refl _
theorem cntG_lt {l:List Ev} {g:Int} {p n:Nat} (h:p < n) (hp:(evAt l p).g=g):cntG l g p < cntG l g n:=by
 have:cntG l g (p+1)≤cntG l g n:=cntG_mono h;simp only [cntG] at this;rw [if_pos hp] at this;omega
theorem cntG_none {l:List Ev} {g:Int} {n:Nat} (h:∀ k,k < n→(evAt l k).g≠g):cntG l g n=0:=by
 induction n with
 | zero=>rfl
 | succ n ih=>simp only [cntG];rw [if_neg (h n (by omega))];exact ih (fun k hk=>h k (by omega))
theorem cntG_pos {l:List Ev} {g:Int} {n:Nat} (h:0 < cntG l g n):∃ p,p < n∧(evAt l p).g=g∧∀ k,p < k→k < n→(evAt l k).g≠g:=by
 induction n with
 | zero=>simp [cntG] at h
 | succ n ih =>
   by_cases hn:(evAt l n).g=g
   ·exact ⟨n,by omega,hn,fun k h1 h2=>by omega⟩
   ·simp only [cntG] at h;rw [if_neg hn] at h;obtain ⟨p,h1,h2,h3⟩:=ih h;refine ⟨p,by omega,h2,fun k hk1 hk2=>?_⟩
    rcases Nat.lt_or_eq_of_le (Nat.le_of_lt_succ hk2) with h4 | h4
    ·exact h3 k hk1 h4
    ·subst h4;exact hn
theorem HBE.prog {l:List Ev} {i j:Nat} (hij:i≤j) (hg:(evAt l i).g=(evAt l j).g):HBE l i j:=by
 induction j using Nat.strongRecOn with
 | ind j ih =>
   rcases Nat.lt_or_eq_of_le hij with h | h
   ·obtain ⟨p,h1,h2,h3⟩:=cntG_pos (l:=l) (g:=(evAt l j).g) (n:=j) (by have:=cntG_lt h hg;omega)
    have hip:i≤p:=by
     rcases Nat.lt_or_ge p i with h4 | h4
     ·exact absurd hg (h3 i h4 h)
     ·exact h4
    exact .inr (HB_iff.2 ⟨p,h1,.inl ⟨h2,fun k hk1 hk2=>by rw [h2];exact h3 k hk1 hk2⟩,ih p h1 hip (hg.trans h2.symm)⟩)
   ·exact .inl h
structure VL (l:List Ev):Prop where
 v:∀ e,e ∈ l→e.valid=true
 go:∀ p q,p < l.length→q < l.length→(evAt l p).kind=14→(evAt l q).kind=14→(evAt l p).k=(evAt l q).k→p=q
 cap:∀ p q,p < l.length→q < l.length→(evAt l p).kind=17→(evAt l q).kind=16→(evAt l p).obj=(evAt l q).obj→(evAt l p).n=(evAt l q).n
def stp (l:List Ev) (p:Nat):Ck:=(stampsL l).getD p ckZ
section
variable {l:List Ev} (V:VL l)
include V
theorem VL.g {i:Nat} (h:i < l.length):0≤(evAt l i).g∧(evAt l i).g < 8:=(Ev.valid_rg (V.v _ (evAt_mem h))).1
theorem VL.cnt {j:Nat} (h:j≤l.length):Cnt (runTo l j):=runTo_cnt (fun e he=>(Ev.valid_rg (V.v e he)).1) h
omit V in
theorem runTo_succ (l:List Ev) (j:Nat):runTo l (j+1)=(runTo l j).step l (evAt l j) j:=rfl
omit V in
theorem stp_at {j:Nat} (h:j < l.length):stp l j=clockAt l (runTo l j) (evAt l j) j:=by
 have he:l[j]? = some (evAt l j):=by rw [evAt_of (List.getElem?_eq_getElem h)];exact List.getElem?_eq_getElem h
 unfold stp;rw [List.getD_eq_getElem?_getD,stamps_at he];rfl
omit V in
theorem out_stp {p j:Nat} (h:p < j) (hj:j≤l.length):(runTo l j).out.getD p ckZ=stp l p:=by
 have h1:=out_prefix l hj;unfold stp stampsL;rw [←h1,List.getD_eq_getElem?_getD,List.getD_eq_getElem?_getD,List.getElem?_take,if_pos h]
omit V in
theorem stp_len {j:Nat}:(stp l j).length=8:=by
 unfold stp
 rcases Nat.lt_or_ge j (stampsL l).length with h | h
 ·exact (stampsL_ok l _ (mem_getD h)).1
 ·rw [getD_none h];rfl
theorem dg_cnt {j:Nat} (hj:j≤l.length) {g:Int} (h0:0≤g) (h8:g < 8):(runTo l j).dg g.toNat=(cntG l g j:Int):=by
 induction j with
 | zero =>
   have:∀ k,k < 8→(runTo l 0).dg k=0:=by
    intro k hk;unfold SSt.dg
    show ((List.replicate 8 ckZ).getD k ckZ).getD k 0=0
    rw [List.getD_eq_getElem?_getD (l:=List.replicate 8 ckZ),List.getElem?_replicate,if_pos hk];exact ckZ_get k
   rw [this _ (by omega)];rfl
 | succ j ih =>
   have hg:=V.g (i:=j) (by omega);have hc:=(V.cnt (j:=j) (by omega)).clock (l:=l) (e:=evAt l j) (runTo_ok l j) (by omega);have hcl:=(runTo_ok l j).cl;rw [runTo_succ]
   have:((runTo l j).step l (evAt l j) j).dg g.toNat=if g.toNat=(evAt l j).g.toNat then (runTo l j).dg (evAt l j).g.toNat+1 else (runTo l j).dg g.toNat:=by
    show (((runTo l j).cur.set (evAt l j).g.toNat (clockAt l (runTo l j) (evAt l j) j)).getD g.toNat ckZ).getD g.toNat 0=_
    rw [List.getD_eq_getElem?_getD (l:=(runTo l j).cur.set _ _),List.getElem?_set]
    by_cases hkg:(evAt l j).g.toNat=g.toNat
    ·rw [hkg,if_pos rfl,if_pos (by omega),if_pos rfl,←hkg];exact hc.1
    ·rw [if_neg hkg,if_neg (Ne.symm hkg)]
     show ((runTo l j).cur[g.toNat]?.getD ckZ).getD g.toNat 0=((runTo l j).cur.getD g.toNat ckZ).getD g.toNat 0
     rw [List.getD_eq_getElem?_getD (l:=(runTo l j).cur)]
   rw [this];simp only [cntG]
   by_cases hkg:(evAt l j).g=g
   ·subst hkg;rw [if_pos rfl,if_pos rfl,ih (by omega)];omega
   ·rw [if_neg (by omega),if_neg hkg,ih (by omega)]
theorem stp_own {j:Nat} (h:j < l.length):(stp l j).getD (evAt l j).g.toNat 0=(ord l j:Int):=by
 have hg:=V.g h;rw [stp_at h,((V.cnt (j:=j) (by omega)).clock (l:=l) (e:=evAt l j) (runTo_ok l j) (by omega)).1,dg_cnt V (by omega) hg.1 hg.2,ord_eq];omega
theorem stp_le {j:Nat} (h:j < l.length) {g:Int} (h0:0≤g) (h8:g < 8):(stp l j).getD g.toNat 0≤(cntG l g (j+1):Int):=by
 have h1:=V.cnt (j:=j+1) h;rw [←dg_cnt V (j:=j+1) h h0 h8,←out_stp (l:=l) (p:=j) (j:=j+1) (by omega) h];exact h1.oc _ (mem_getD (by rw [(runTo_ok l (j+1)).ol];omega)) _ (by omega)
omit V in
theorem stp_nonneg {j k:Nat}:0≤(stp l j).getD k 0:=by
 unfold stp
 rcases Nat.lt_or_ge j (stampsL l).length with h | h
 ·exact (stampsL_ok l _ (mem_getD h)).get k
 ·rw [getD_none h,ckZ_get];exact Int.le_refl _
omit V in
theorem getD_set {α:Type} {a:List α} {i k:Nat} {x d:α} (hi:i < a.length):(a.set i x).getD k d=if k=i then x else a.getD k d:=by
 rw [List.getD_eq_getElem?_getD,List.getD_eq_getElem?_getD,List.getElem?_set]
 by_cases h:i=k
 ·subst h;rw [if_pos rfl,if_pos rfl,if_pos hi];rfl
 ·rw [if_neg h,if_neg (Ne.symm h)]
theorem cur_last {j:Nat} (hj:j≤l.length) {g:Int} (h0:0≤g) (h8:g < 8):(cntG l g j=0→(runTo l j).cur.getD g.toNat ckZ=ckZ) ∧
 ∀ p,p < j→(evAt l p).g=g→(∀ k,p < k→k < j→(evAt l k).g≠g)→(runTo l j).cur.getD g.toNat ckZ=stp l p:=by
 induction j with
 | zero =>
   refine ⟨fun _=>?_,fun p hp=>by omega⟩
   show (List.replicate 8 ckZ).getD g.toNat ckZ=ckZ
   rw [List.getD_eq_getElem?_getD,List.getElem?_replicate,if_pos (by omega)];rfl
 | succ j ih =>
   obtain ⟨i1,i2⟩:=ih (by omega);have hg:=V.g (i:=j) (by omega);have hcl:=(runTo_ok l j).cl
   have hcur:(runTo l (j+1)).cur.getD g.toNat ckZ=if g.toNat=(evAt l j).g.toNat then stp l j else (runTo l j).cur.getD g.toNat ckZ:=by
    show ((runTo l j).cur.set (evAt l j).g.toNat (clockAt l (runTo l j) (evAt l j) j)).getD g.toNat ckZ=_
    rw [getD_set (by omega),stp_at (by omega)]
   rw [hcur];refine ⟨fun h=>?_,fun p hp h1 h2=>?_⟩
   ·simp only [cntG] at h
    by_cases hkg:(evAt l j).g=g
    ·rw [if_pos hkg] at h;omega
    ·rw [if_neg hkg] at h;rw [if_neg (by omega)];exact i1 h
   ·by_cases hkg:(evAt l j).g=g
    ·have:p=j:=by
      rcases Nat.lt_or_eq_of_le (Nat.le_of_lt_succ hp) with h3 | h3
      ·exact absurd hkg (h2 j h3 (by omega))
      ·exact h3
     subst this;rw [if_pos (by omega)]
    ·have:p≠j:=fun h=>hkg (h ▸ h1)
     rw [if_neg (by omega)];exact i2 p (by omega) h1 (fun k hk1 hk2=>h2 k hk1 (by omega))
theorem birth_last {j:Nat} (hj:j≤l.length) {g:Int} (h0:0≤g) (h8:g < 8):((∀ q,q < j→¬ ((evAt l q).kind=14∧(evAt l q).k=g))→(runTo l j).birth.getD g.toNat ckZ=ckZ) ∧
 ∀ q,q < j→(evAt l q).kind=14→(evAt l q).k=g→(runTo l j).birth.getD g.toNat ckZ=stp l q:=by
 induction j with
 | zero =>
   refine ⟨fun _=>?_,fun p hp=>by omega⟩
   show (List.replicate 8 ckZ).getD g.toNat ckZ=ckZ
   rw [List.getD_eq_getElem?_getD,List.getElem?_replicate,if_pos (by omega)];rfl
 | succ j ih =>
   obtain ⟨i1,i2⟩:=ih (by omega);have hbl:=(runTo_ok l j).bl;have hval:=V.v _ (evAt_mem (show j < l.length by omega))
   have hk:(evAt l j).kind=14→0≤(evAt l j).k∧(evAt l j).k < 8:=fun h=>by
    have:=(Ev.valid_rg hval).2.2.2;have h2:=this h;omega
   have hb:(runTo l (j+1)).birth.getD g.toNat ckZ=if (evAt l j).kind=14∧g.toNat=(evAt l j).k.toNat then stp l j else (runTo l j).birth.getD g.toNat ckZ:=by
    show (if (evAt l j).kind=14 then (runTo l j).birth.set (evAt l j).k.toNat (clockAt l (runTo l j) (evAt l j) j) else (runTo l j).birth).getD g.toNat ckZ=_
    by_cases h14:(evAt l j).kind=14
    ·have:=hk h14;rw [if_pos h14,getD_set (by omega),stp_at (by omega)]
     by_cases hgk:g.toNat=(evAt l j).k.toNat
     ·rw [if_pos hgk,if_pos ⟨h14,hgk⟩]
     ·rw [if_neg hgk,if_neg (fun h=>hgk h.2)]
    ·rw [if_neg h14,if_neg (fun h=>h14 h.1)]
   rw [hb];refine ⟨fun h=>?_,fun q hq h1 h2=>?_⟩
   ·rw [if_neg]
    ·exact i1 (fun q hq=>h q (by omega))
    ·rintro ⟨h3,h4⟩;have:=hk h3;exact h j (by omega) ⟨h3,by omega⟩
   ·by_cases hq':q=j
    ·subst hq';rw [if_pos ⟨h1,by omega⟩]
    ·rw [if_neg]
     ·exact i2 q (by omega) h1 h2
     ·rintro ⟨h3,h4⟩;have:=hk h3;exact hq' (V.go q j (by omega) (by omega) h1 h3 (by omega))
theorem start_iff {j:Nat} (h:j < l.length) {c:Int} (hc:1≤c) (k:Nat):c≤(startC (runTo l j) (evAt l j)).getD k 0↔∃ i,i < j∧(Prog l i j∨GoE l i j)∧c≤(stp l i).getD k 0:=by
 have hg:=V.g h;obtain ⟨c1,c2⟩:=cur_last V (j:=j) (by omega) hg.1 hg.2;obtain ⟨b1,b2⟩:=birth_last V (j:=j) (by omega) hg.1 hg.2
 by_cases hf:First l j
 ·have hz:=c1 (cntG_none hf);unfold startC;rw [if_pos hz]
  by_cases hq:∃ q,q < j∧(evAt l q).kind=14∧(evAt l q).k=(evAt l j).g
  ·obtain ⟨q,hq1,hq2,hq3⟩:=hq;rw [b2 q hq1 hq2 hq3];refine ⟨fun h2=>⟨q,hq1,.inr ⟨hq2,hq3,hf⟩,h2⟩,fun ⟨i,hi,hp,h2⟩=>?_⟩
   rcases hp with hp | hp
   ·exact absurd hp.1 (hf i hi)
   ·have:=V.go i q (by omega) (by omega) hp.1 hq2 (hp.2.1.trans hq3.symm);subst this;exact h2
  ·rw [b1 (fun q hq1 hq2=>hq ⟨q,hq1,hq2⟩),ckZ_get];refine ⟨fun h2=>by omega,fun ⟨i,hi,hp,h2⟩=>?_⟩
   rcases hp with hp | hp
   ·exact absurd hp.1 (hf i hi)
   ·exact absurd ⟨i,hi,hp.1,hp.2.1⟩ hq
 ·have hpos:0 < cntG l (evAt l j).g j:=by
   rcases Nat.eq_zero_or_pos (cntG l (evAt l j).g j) with h0 | h0
   ·exfalso
    apply hf
    intro k hk hkg;have:=cntG_lt hk hkg;omega
   ·exact h0
  obtain ⟨p,hp1,hp2,hp3⟩:=cntG_pos hpos;have hcur:=c2 p hp1 hp2 hp3
  have hnz:stp l p≠ckZ:=fun hz=>by
   have:=stp_own V (j:=p) (by omega);rw [hz,ckZ_get] at this;have:=ord_eq l p;omega
  unfold startC;rw [hcur,if_neg hnz];refine ⟨fun h2=>⟨p,hp1,.inl ⟨hp2,fun k hk1 hk2=>by rw [hp2];exact hp3 k hk1 hk2⟩,h2⟩,fun ⟨i,hi,hp,h2⟩=>?_⟩
  rcases hp with hp | hp
  ·have:i=p:=by
    rcases Nat.lt_trichotomy i p with h4 | h4 | h4
    ·exact absurd (hp2.trans hp.1.symm) (hp.2 p h4 hp1)
    ·exact h4
    ·exact absurd hp.1 (hp3 i h4 hi)
   subst this;exact h2
  ·exact absurd hp.2.2 hf
omit V in
theorem in_iff {j:Nat} (h:j < l.length) {c:Int} {k:Nat} (hk:k < 8) (n:Nat) (hn:n≤j) :
 (c≤(inTo l (runTo l j).out (evAt l j) (startC (runTo l j) (evAt l j), -1) n).1.getD k 0↔c≤(startC (runTo l j) (evAt l j)).getD k 0∨∃ i,i < n∧syncB (evAt l i) (evAt l j)=true∧c≤(stp l i).getD k 0):=by
 induction n with
 | zero=>simp only [inTo];exact ⟨.inl,fun h=>h.elim id (fun ⟨i,hi,_⟩=>by omega)⟩
 | succ n ih =>
   have ih:=ih (by omega);simp only [inTo,inStep];have he:l.getD n default=evAt l n:=rfl;rw [he]
   by_cases hs:syncB (evAt l n) (evAt l j)=true
   ·rw [if_pos hs,getD_join ((runTo_ok l j).inTo l (evAt l j) n).1.1 (out_len (runTo_ok l j) n) hk,out_stp (by omega) (by omega)]
    have hmax:(c≤if (stp l n).getD k 0 > (inTo l (runTo l j).out (evAt l j) (startC (runTo l j) (evAt l j), -1) n).1.getD k 0 then (stp l n).getD k 0 else (inTo l (runTo l j).out (evAt l j) (startC (runTo l j) (evAt l j), -1) n).1.getD k 0) ↔
     (c≤(inTo l (runTo l j).out (evAt l j) (startC (runTo l j) (evAt l j), -1) n).1.getD k 0∨c≤(stp l n).getD k 0):=by
     split <;> omega
    rw [hmax,ih];refine ⟨fun h2=>?_,fun h2=>?_⟩
    ·rcases h2 with (h2 | ⟨i,hi,h3⟩) | h2
     ·exact .inl h2
     ·exact .inr ⟨i,by omega,h3⟩
     ·exact .inr ⟨n,by omega,hs,h2⟩
    ·rcases h2 with h2 | ⟨i,hi,h3,h4⟩
     ·exact .inl (.inl h2)
     ·by_cases hin:i=n
      ·subst hin;exact .inr h4
      ·exact .inl (.inr ⟨i,by omega,h3,h4⟩)
   ·rw [if_neg hs,ih];refine ⟨fun h2=>?_,fun h2=>?_⟩
    ·rcases h2 with h2 | ⟨i,hi,h3⟩
     ·exact .inl h2
     ·exact .inr ⟨i,by omega,h3⟩
    ·rcases h2 with h2 | ⟨i,hi,h3,h4⟩
     ·exact .inl h2
     ·by_cases hin:i=n
      ·subst hin;exact absurd h3 hs
      ·exact .inr ⟨i,by omega,h3,h4⟩
omit V in
theorem at_in (out:List Ck) (e:Ev) (c:Ck) (n:Nat):((inTo l out e (c, -1) n).2=-1∧∀ k,k < n→atomB (evAt l k) e=false) ∨
 ∃ a:Nat,a < n∧(inTo l out e (c, -1) n).2=(a:Int)∧atomB (evAt l a) e=true∧∀ k,a < k→k < n→atomB (evAt l k) e=false:=by
 induction n with
 | zero=>exact .inl ⟨rfl,fun k hk=>by omega⟩
 | succ n ih =>
   simp only [inTo,inStep];have he:l.getD n default=evAt l n:=rfl;rw [he]
   cases hb:atomB (evAt l n) e with
   | true=>rw [if_pos rfl];exact .inr ⟨n,by omega,rfl,hb,fun k h1 h2=>by omega⟩
   | false =>
     rw [if_neg (by decide)];have ext:∀ k,k < n+1→k=n∨k < n:=fun k hk=>by omega
     rcases ih with ⟨h1,h2⟩ | ⟨a,h1,h2,h3,h4⟩
     ·exact .inl ⟨h1,fun k hk=>(ext k hk).elim (fun h=>h ▸ hb) (h2 k)⟩
     ·exact .inr ⟨a,by omega,h2,h3,fun k hk1 hk2=>(ext k hk2).elim (fun h=>h ▸ hb) (h4 k hk1)⟩
theorem sync_syn {i j:Nat} (hi:i < l.length) (hj:j < l.length):Syn l i j↔syncB (evAt l i) (evAt l j)=true∨(atomB (evAt l i) (evAt l j)=true∧((evAt l j).kind=3∨(evAt l j).kind=5)∧Atom l i j):=by
 have hcap:=V.cap i j hi hj;unfold Syn Kinds syncB atomB;generalize evAt l i=a at *;generalize evAt l j=b at *
 by_cases ho:a.obj=b.obj
 ·by_cases hf:a.off=b.off
  ·have hcap':a.kind=17→b.kind=16→a.n=b.n:=fun h1 h2=>hcap h1 h2 ho
   clear hcap;simp only [ho,hf,ne_eq,not_true_eq_false,if_false,true_and,beq_self_eq_true,Bool.true_and,Bool.or_eq_true,beq_iff_eq];generalize Atom l i j=P
   by_cases k18:b.kind=18
   ·rw [if_pos k18];simp only [Bool.and_eq_true,beq_iff_eq];refine ⟨fun h=>?_,fun h=>?_⟩
    ·rcases h with h | h | h | h | h | h | h | ⟨h1,h2,_⟩ <;> first | (left;omega) | (exfalso;omega)
    ·rcases h with h | ⟨h1,h2,_⟩
     ·first | (refine .inl ?_;omega) | (refine .inr (.inl ?_);omega) | (refine .inr (.inr (.inl ?_));omega) | (refine .inr (.inr (.inr (.inl ?_)));omega) | (refine .inr (.inr (.inr (.inr (.inl ?_))));omega) | (refine .inr (.inr (.inr (.inr (.inr (.inl ?_)))));omega) | (refine .inr (.inr (.inr (.inr (.inr (.inr (.inl ?_))))));omega)
     ·exfalso;omega
   by_cases k16:b.kind=16
   ·rw [if_neg k18,if_pos k16];simp only [Bool.and_eq_true,beq_iff_eq];refine ⟨fun h=>?_,fun h=>?_⟩
    ·rcases h with h | h | h | h | h | h | h | ⟨h1,h2,_⟩ <;> first | (left;omega) | (exfalso;omega)
    ·rcases h with h | ⟨h1,h2,_⟩
     ·first | (refine .inl ?_;omega) | (refine .inr (.inl ?_);omega) | (refine .inr (.inr (.inl ?_));omega) | (refine .inr (.inr (.inr (.inl ?_)));omega) | (refine .inr (.inr (.inr (.inr (.inl ?_))));omega) | (refine .inr (.inr (.inr (.inr (.inr (.inl ?_)))));omega) | (refine .inr (.inr (.inr (.inr (.inr (.inr (.inl ?_))))));omega)
     ·exfalso;omega
   by_cases k20:b.kind=20
   ·rw [if_neg k18,if_neg k16,if_pos k20];simp only [beq_iff_eq];refine ⟨fun h=>?_,fun h=>?_⟩
    ·rcases h with h | h | h | h | h | h | h | ⟨h1,h2,_⟩ <;> first | (left;omega) | (exfalso;omega)
    ·rcases h with h | ⟨h1,h2,_⟩
     ·first | (refine .inl ?_;omega) | (refine .inr (.inl ?_);omega) | (refine .inr (.inr (.inl ?_));omega) | (refine .inr (.inr (.inr (.inl ?_)));omega) | (refine .inr (.inr (.inr (.inr (.inl ?_))));omega) | (refine .inr (.inr (.inr (.inr (.inr (.inl ?_)))));omega) | (refine .inr (.inr (.inr (.inr (.inr (.inr (.inl ?_))))));omega)
     ·exfalso;omega
   by_cases k6:b.kind=6
   ·rw [if_neg k18,if_neg k16,if_neg k20,if_pos k6];simp only [Bool.or_eq_true,beq_iff_eq];refine ⟨fun h=>?_,fun h=>?_⟩
    ·rcases h with h | h | h | h | h | h | h | ⟨h1,h2,_⟩ <;> first | (left;omega) | (exfalso;omega)
    ·rcases h with h | ⟨h1,h2,_⟩
     ·(rcases h with h | h <;> first | (refine .inl ?_;omega) | (refine .inr (.inl ?_);omega) | (refine .inr (.inr (.inl ?_));omega) | (refine .inr (.inr (.inr (.inl ?_)));omega) | (refine .inr (.inr (.inr (.inr (.inl ?_))));omega) | (refine .inr (.inr (.inr (.inr (.inr (.inl ?_)))));omega) | (refine .inr (.inr (.inr (.inr (.inr (.inr (.inl ?_))))));omega))
     ·exfalso;omega
   by_cases k8:b.kind=8
   ·rw [if_neg k18,if_neg k16,if_neg k20,if_neg k6,if_pos k8];simp only [beq_iff_eq];refine ⟨fun h=>?_,fun h=>?_⟩
    ·rcases h with h | h | h | h | h | h | h | ⟨h1,h2,_⟩ <;> first | (left;omega) | (exfalso;omega)
    ·rcases h with h | ⟨h1,h2,_⟩
     ·first | (refine .inl ?_;omega) | (refine .inr (.inl ?_);omega) | (refine .inr (.inr (.inl ?_));omega) | (refine .inr (.inr (.inr (.inl ?_)));omega) | (refine .inr (.inr (.inr (.inr (.inl ?_))));omega) | (refine .inr (.inr (.inr (.inr (.inr (.inl ?_)))));omega) | (refine .inr (.inr (.inr (.inr (.inr (.inr (.inl ?_))))));omega)
     ·exfalso;omega
   by_cases k11:b.kind=11
   ·rw [if_neg k18,if_neg k16,if_neg k20,if_neg k6,if_neg k8,if_pos k11];simp only [beq_iff_eq];refine ⟨fun h=>?_,fun h=>?_⟩
    ·rcases h with h | h | h | h | h | h | h | ⟨h1,h2,_⟩ <;> first | (left;omega) | (exfalso;omega)
    ·rcases h with h | ⟨h1,h2,_⟩
     ·first | (refine .inl ?_;omega) | (refine .inr (.inl ?_);omega) | (refine .inr (.inr (.inl ?_));omega) | (refine .inr (.inr (.inr (.inl ?_)));omega) | (refine .inr (.inr (.inr (.inr (.inl ?_))));omega) | (refine .inr (.inr (.inr (.inr (.inr (.inl ?_)))));omega) | (refine .inr (.inr (.inr (.inr (.inr (.inr (.inl ?_))))));omega)
     ·exfalso;omega
   by_cases k13:b.kind=13
   ·rw [if_neg k18,if_neg k16,if_neg k20,if_neg k6,if_neg k8,if_neg k11,if_pos k13];simp only [beq_iff_eq];refine ⟨fun h=>?_,fun h=>?_⟩
    ·rcases h with h | h | h | h | h | h | h | ⟨h1,h2,_⟩ <;> first | (left;omega) | (exfalso;omega)
    ·rcases h with h | ⟨h1,h2,_⟩
     ·first | (refine .inl ?_;omega) | (refine .inr (.inl ?_);omega) | (refine .inr (.inr (.inl ?_));omega) | (refine .inr (.inr (.inr (.inl ?_)));omega) | (refine .inr (.inr (.inr (.inr (.inl ?_))));omega) | (refine .inr (.inr (.inr (.inr (.inr (.inl ?_)))));omega) | (refine .inr (.inr (.inr (.inr (.inr (.inr (.inl ?_))))));omega)
     ·exfalso;omega
   rw [if_neg k18,if_neg k16,if_neg k20,if_neg k6,if_neg k8,if_neg k11,if_neg k13];refine ⟨fun h=>?_,fun h=>?_⟩
   ·rcases h with h | h | h | h | h | h | h | ⟨h1,h2,h3⟩
    ·exfalso;omega
    ·exfalso;omega
    ·exfalso;omega
    ·exfalso;omega
    ·exfalso;omega
    ·exfalso;omega
    ·exfalso;omega
    ·exact .inr ⟨h1,h2,h3⟩
   ·rcases h with h | ⟨h1,h2,h3⟩
    ·cases h
    ·exact .inr (.inr (.inr (.inr (.inr (.inr (.inr ⟨h1,h2,h3⟩))))))
  ·simp [ho,hf]
 ·simp [ho]
theorem pre_iff {j:Nat} (h:j < l.length) {c:Int} (hc:1≤c) {k:Nat} (hk:k < 8):c≤(preC l (runTo l j) (evAt l j) j).getD k 0↔∃ i,i < j∧Imm l i j∧c≤(stp l i).getD k 0:=by
 have hin:=in_iff h (c:=c) hk j (Nat.le_refl j);rw [start_iff V h hc k] at hin;have hat:=at_in (l:=l) (runTo l j).out (evAt l j) (startC (runTo l j) (evAt l j)) j
 have hmain:c≤(preC l (runTo l j) (evAt l j) j).getD k 0↔c≤(inTo l (runTo l j).out (evAt l j) (startC (runTo l j) (evAt l j), -1) j).1.getD k 0 ∨
  ∃ i,i < j∧(atomB (evAt l i) (evAt l j)=true∧((evAt l j).kind=3∨(evAt l j).kind=5)∧Atom l i j)∧c≤(stp l i).getD k 0:=by
  unfold preC
  rcases hat with ⟨h1,h2⟩ | ⟨a,h1,h2,h3,h4⟩
  ·rw [h1,if_neg (by unfold atomE;simp)]
   refine ⟨.inl,fun h5=>h5.elim id (fun ⟨i,hi,h6,_⟩=>?_)⟩;rw [h2 i hi] at h6;exact absurd h6.1 (by decide)
  ·rw [h2]
   have huniq:∀ i,i < j→atomB (evAt l i) (evAt l j)=true→Atom l i j→i=a:=fun i hi h5 h6=>by
    rcases Nat.lt_trichotomy i a with h7 | h7 | h7
    ·rw [h6 a h7 h1] at h3;cases h3
    ·exact h7
    ·rw [h4 i h7 hi] at h5;cases h5
   by_cases hk35:(evAt l j).kind=3∨(evAt l j).kind=5
   ·have hE:atomE (evAt l j) (a:Int)=true:=by
     unfold atomE;simp only [Bool.and_eq_true,decide_eq_true_eq,Bool.or_eq_true,beq_iff_eq];exact ⟨by omega,hk35⟩
    rw [if_pos hE,getD_join ((runTo_ok l j).inTo l (evAt l j) j).1.1 (out_len (runTo_ok l j) _) hk,Int.toNat_natCast,out_stp h1 (by omega)];have hmax:∀ x y:Int,(c≤if y > x then y else x)↔(c≤x∨c≤y):=fun x y=>by split <;> omega
    rw [hmax];refine ⟨fun h5=>h5.elim .inl (fun h6=>.inr ⟨a,h1,⟨h3,hk35,h4⟩,h6⟩),fun h5=>h5.elim .inl (fun ⟨i,hi,⟨h6,_,h7⟩,h8⟩=>.inr ?_)⟩;have:=huniq i hi h6 h7;subst this;exact h8
   ·have hE:¬ atomE (evAt l j) (a:Int)=true:=by
     unfold atomE;simp only [Bool.and_eq_true,decide_eq_true_eq,Bool.or_eq_true,beq_iff_eq];exact fun h5=>hk35 h5.2
    rw [if_neg hE];exact ⟨.inl,fun h5=>h5.elim id (fun ⟨i,hi,h6,_⟩=>absurd h6.2.1 hk35)⟩
 rw [hmain,hin];refine ⟨fun h5=>?_,fun ⟨i,hi,him,h6⟩=>?_⟩
 ·rcases h5 with (⟨i,hi,hp,h6⟩ | ⟨i,hi,hs,h6⟩) | ⟨i,hi,hs,h6⟩
  ·exact ⟨i,hi,hp.elim .inl (fun h=>.inr (.inl h)),h6⟩
  ·exact ⟨i,hi,.inr (.inr ((sync_syn V (by omega) h).2 (.inl hs))),h6⟩
  ·exact ⟨i,hi,.inr (.inr ((sync_syn V (by omega) h).2 (.inr hs))),h6⟩
 ·rcases him with hp | hp | hs
  ·exact .inl (.inl ⟨i,hi,.inl hp,h6⟩)
  ·exact .inl (.inl ⟨i,hi,.inr hp,h6⟩)
  ·rcases (sync_syn V (by omega) h).1 hs with hs | hs
   ·exact .inl (.inr ⟨i,hi,hs,h6⟩)
   ·exact .inr ⟨i,hi,hs,h6⟩
theorem hb_iff {j:Nat} (h:j < l.length):∀ i,i < l.length→(HBE l i j↔(ord l i:Int)≤(stp l j).getD (evAt l i).g.toNat 0):=by
 induction j using Nat.strongRecOn with
 | ind j ih =>
   intro i hi;have hgi:=V.g hi;have hgj:=V.g h;have hoi:1≤(ord l i:Int):=by have:=ord_eq l i;omega
   have hlen:=preC_len (l:=l) (e:=evAt l j) (runTo_ok l j)
   by_cases hg:(evAt l i).g=(evAt l j).g
   ·rw [hg,stp_own V h];refine ⟨fun hb=>?_,fun ho=>?_⟩
    ·have:=hb.le;unfold ord;rw [hg];have:=cntG_mono (l:=l) (g:=(evAt l j).g) (show i+1≤j+1 by omega);omega
    ·rcases Nat.lt_or_ge j i with h1 | h1
     ·exfalso
      unfold ord at ho;rw [hg] at ho;have:=cntG_lt (l:=l) (g:=(evAt l j).g) (p:=i) (n:=i+1) (by omega) hg;have:=cntG_mono (l:=l) (g:=(evAt l j).g) (show j+1≤i by omega);omega
     ·exact HBE.prog h1 hg
   ·have hne:(evAt l i).g.toNat≠(evAt l j).g.toNat:=by omega
    rw [stp_at h,clockAt_eq,set_get (by omega),if_neg hne,pre_iff V h hoi (by omega)];have hij:i≠j:=fun h2=>hg (by rw [h2])
    have:HBE l i j↔HB l i j:=⟨fun h2=>h2.elim (fun h3=>absurd h3 hij) id,.inr⟩;rw [this,HB_iff];refine ⟨fun ⟨k,hk,h1,h2⟩=>⟨k,hk,h1,(ih k hk (by omega) i hi).1 h2⟩,fun ⟨k,hk,h1,h2⟩=>⟨k,hk,h1,(ih k hk (by omega) i hi).2 h2⟩⟩
end
open Classical in
noncomputable def cntHB (l:List Ev) (g:Int) (j:Nat):Nat→Nat
 | 0=>0
 | n+1=>if (evAt l n).g=g∧HBE l n j then cntHB l g j n+1 else cntHB l g j n
theorem cnt_hb {l:List Ev} (V:VL l) {j:Nat} (h:j < l.length) {g:Int} (h0:0≤g) (h8:g < 8) (n:Nat) (hn:n≤l.length):(cntHB l g j n:Int)=min ((stp l j).getD g.toNat 0) (cntG l g n:Int):=by
 have hnn:=stp_nonneg (l:=l) (j:=j) (k:=g.toNat)
 induction n with
 | zero=>simp only [cntHB,cntG];omega
 | succ n ih =>
   have ih:=ih (by omega);simp only [cntHB,cntG]
   by_cases hg:(evAt l n).g=g
   ·have hiff:=hb_iff V h n (by omega);have ho:=ord_eq l n;rw [hg] at hiff ho;rw [if_pos hg]
    by_cases hb:HBE l n j
    ·rw [if_pos ⟨hg,hb⟩];have:=hiff.1 hb;omega
    ·rw [if_neg (fun h=>hb h.2)];have:¬ (ord l n:Int)≤_:=fun h2=>hb (hiff.2 h2)
     omega
   ·rw [if_neg hg,if_neg (fun h=>hg h.1)];exact ih
theorem stp_cnt {l:List Ev} (V:VL l) {j:Nat} (h:j < l.length) {g:Int} (h0:0≤g) (h8:g < 8):(stp l j).getD g.toNat 0=(cntHB l g j (j+1):Int):=by
 rw [cnt_hb V h h0 h8 (j+1) h];have:=stp_le V h h0 h8;omega
theorem add_gor {r:RSt} {t u:TS} {e:Ev} (hr:Rel r t) (h:t.add e=some u):t.gor≤u.gor∧(e.kind=14→e.k=t.gor∧u.gor=t.gor+1):=by
 have hk:=hr.kok;obtain ⟨_,v,rfl,hv⟩:=add_cases h
 rcases hv with ⟨ho,hv⟩ | ⟨ho,hc,hv⟩ | ⟨ho,hc,hv⟩
 ·obtain ⟨hf,rfl⟩:=proceed_eq hv;have hkk:=hk ho;unfold Grp.fits at hf;simp only [Bool.and_eq_true,decide_eq_true_eq] at hf;have:=hf.1.1;exact ⟨Int.le_refl _,fun h14=>by omega⟩
 ·unfold chanB at hc;simp only [decide_eq_true_eq] at hc;refine ⟨?_,fun h14=>by omega⟩;unfold TS.operate at hv;dsimp only at hv
  repeat' split at hv
  all_goals first
   | (cases hv;done)
   | (cases hv;exact Int.le_refl _)
   | (simp only [Option.map_eq_some_iff] at hv;obtain ⟨ks,_,rfl⟩:=hv;exact Int.le_refl _)
 ·by_cases h14:e.kind=14
  ·unfold TS.simple at hv;dsimp only at hv;rw [if_neg (by omega),if_neg (by omega),if_neg (by omega),if_neg (by omega),if_neg (by omega),if_neg (by omega),if_pos h14] at hv;split at hv
   ·cases hv
   ·rename_i hne;cases hv;exact ⟨by dsimp only;omega,fun _=>⟨by omega,rfl⟩⟩
  ·refine ⟨?_,fun h=>absurd h h14⟩;unfold TS.simple at hv;dsimp only at hv
   repeat' split at hv
   all_goals first
    | (cases hv;done)
    | (cases hv;exact Int.le_refl _)
    | (exfalso;omega)
theorem cap_keep {t u:TS} {e:Ev} (h:t.add e=some u) {x:Int} {c:Ch} (hc:t.chans x=some c):∃ c',u.chans x=some c'∧c'.cap=c.cap:=by
 have hput:∀ c1:Ch,(e.obj=x→c1.cap=c.cap)→∃ c',upd t.chans e.obj c1 x=some c'∧c'.cap=c.cap:=fun c1 h1=>by
  by_cases hx:x=e.obj
  ·subst hx;exact ⟨c1,upd_same _ _ _,h1 rfl⟩
  ·exact ⟨c,by rw [upd_other _ _ hx];exact hc,rfl⟩
 obtain ⟨_,v,rfl,hv⟩:=add_cases h
 rcases hv with ⟨ho,hv⟩ | ⟨ho,hk,hv⟩ | ⟨ho,hk,hv⟩
 ·obtain ⟨hf,rfl⟩:=proceed_eq hv;refine hput _ (fun hx=>?_);subst hx;rw [count_cap,hc];rfl
 ·have hch:e.obj=x→(t.chan e).cap=c.cap:=fun hx=>by subst hx;unfold TS.chan;rw [hc]
  unfold TS.operate at hv;dsimp only at hv
  repeat' split at hv
  all_goals first
   | (cases hv;done)
   | (cases hv;exact ⟨c,hc,rfl⟩)
   | (cases hv;exact hput _ hch)
   | (simp only [Option.map_eq_some_iff] at hv;obtain ⟨ks,_,rfl⟩:=hv;exact hput _ (fun hx=>by rw [count_cap];exact hch hx))
 ·unfold TS.simple at hv;dsimp only at hv
  repeat' split at hv
  all_goals first
   | (cases hv;done)
   | (cases hv;exact ⟨c,hc,rfl⟩)
def tsAt (l:List Ev) (n:Nat):TS:=(TS.new.steps (l.take n)).getD TS.new
section
variable {l:List Ev} (hc:chk l=l.length)
include hc
theorem tsAt_steps {n:Nat} (hn:n≤l.length):TS.new.steps (l.take n)=some (tsAt l n):=by
 obtain ⟨u,hu⟩:=TS.chk_steps TS.new l (Nat.le_refl _);unfold chk at hc;rw [hc,List.take_length] at hu;rw [←List.take_append_drop n l,TS.steps_append,Option.bind_eq_some_iff] at hu;obtain ⟨t,ht,_⟩:=hu;unfold tsAt;rw [ht];rfl
theorem tsAt_succ {n:Nat} (hn:n < l.length):(tsAt l n).add (evAt l n)=some (tsAt l (n+1)):=by
 have h1:=tsAt_steps hc (n:=n) (by omega);have h2:=tsAt_steps hc (n:=n+1) hn;have he:l[n]? = some (evAt l n):=by rw [evAt_of (List.getElem?_eq_getElem hn)];exact List.getElem?_eq_getElem hn
 rw [List.take_add_one,he,TS.steps_append,h1] at h2;simp only [Option.toList_some,Option.bind_some,TS.steps] at h2
 cases ha:(tsAt l n).add (evAt l n) with
 | none=>rw [ha] at h2;cases h2
 | some u=>rw [ha] at h2;simpa using h2
theorem tsAt_good {n:Nat} (hn:n≤l.length):(∃ r,Rel r (tsAt l n))∧(tsAt l n).wf∧TBal (tsAt l n):=by
 induction n with
 | zero=>exact ⟨⟨_,Rel.new⟩,TS.wf_new,TBal.new⟩
 | succ n ih =>
   obtain ⟨⟨r,hr⟩,hw,hb⟩:=ih (by omega);have ha:=tsAt_succ hc (n:=n) hn;have hst:=hr.step hw (evAt l n);rw [ha] at hst;obtain ⟨r',_,hr'⟩:=hst;exact ⟨⟨r',hr'⟩,TS.add_wf hw ha,(bal_add hr hb ha).1⟩
theorem tsAt_gor {m n:Nat} (hmn:m≤n) (hn:n≤l.length):(tsAt l m).gor≤(tsAt l n).gor:=by
 induction n with
 | zero=>have:m=0:=by omega
         subst this;exact Int.le_refl _
 | succ n ih =>
   rcases Nat.lt_or_eq_of_le hmn with h | h
   ·obtain ⟨⟨r,hr⟩,_,_⟩:=tsAt_good hc (n:=n) (by omega);have h1:=(add_gor hr (tsAt_succ hc hn)).1;have h2:=ih (by omega) (by omega);omega
   ·subst h;exact Int.le_refl _
theorem tsAt_cap {m n:Nat} (hmn:m≤n) (hn:n≤l.length) {x:Int} {c:Ch} (h:(tsAt l m).chans x=some c):∃ c',(tsAt l n).chans x=some c'∧c'.cap=c.cap:=by
 induction n with
 | zero=>have:m=0:=by omega
         subst this;exact ⟨c,h,rfl⟩
 | succ n ih =>
   rcases Nat.lt_or_eq_of_le hmn with h1 | h1
   ·obtain ⟨c',h2,h3⟩:=ih (by omega) (by omega);obtain ⟨c'',h4,h5⟩:=cap_keep (tsAt_succ hc hn) h2;exact ⟨c'',h4,h5.trans h3⟩
   ·subst h1;exact ⟨c,h,rfl⟩
theorem chan_n {p q:Nat} (hpq:p≤q) (hq:q < l.length) (kp:chanB (evAt l p).kind=true) (kq:chanB (evAt l q).kind=true) (ho:(evAt l p).obj=(evAt l q).obj):(evAt l p).n=(evAt l q).n:=by
 have after:∀ n,n < l.length→chanB (evAt l n).kind=true→∃ c,(tsAt l (n+1)).chans (evAt l n).obj=some c∧c.cap=(evAt l n).n:=fun n hn hk=>by
  obtain ⟨⟨r,hr⟩,_,hb⟩:=tsAt_good hc (n:=n) (by omega);exact (bal_add hr hb (tsAt_succ hc hn)).2.2 hk
 obtain ⟨c,h1,h2⟩:=after p (by omega) kp;obtain ⟨d,h3,h4⟩:=after q hq kq;obtain ⟨c',h5,h6⟩:=tsAt_cap hc (m:=p+1) (n:=q+1) (by omega) hq h1;rw [ho,h3] at h5;cases h5;omega
theorem VL.of:VL l:=by
 refine ⟨?_,fun p q hp hq h1 h2 h3=>?_,fun p q hp hq h1 h2 h3=>?_⟩
 ·intro e he;obtain ⟨i,hi,rfl⟩:=List.getElem_of_mem he;have h1:=tsAt_succ hc hi;rw [evAt_of (List.getElem?_eq_getElem hi)] at h1;exact (add_cases h1).1
 ·have key:∀ p q,p < q→q < l.length→(evAt l p).kind=14→(evAt l q).kind=14→(evAt l p).k≠(evAt l q).k:=fun p q hpq hq h1 h2=>by
   obtain ⟨⟨r,hr⟩,_,_⟩:=tsAt_good hc (n:=p) (by omega);obtain ⟨⟨r',hr'⟩,_,_⟩:=tsAt_good hc (n:=q) (by omega);have a1:=(add_gor hr (tsAt_succ hc (by omega))).2 h1;have a2:=(add_gor hr' (tsAt_succ hc hq)).2 h2;have a3:=tsAt_gor hc (m:=p+1) (n:=q) hpq (by omega);omega
  rcases Nat.lt_trichotomy p q with h | h | h
  ·exact absurd h3 (key p q h hq h1 h2)
  ·exact h
  ·exact absurd h3.symm (key q p h hp h2 h1)
 ·have k1:chanB (evAt l p).kind=true:=by unfold chanB;simp [h1]
  have k2:chanB (evAt l q).kind=true:=by unfold chanB;simp [h2]
  rcases Nat.le_total p q with h | h
  ·exact chan_n hc h hq k1 k2 h3
  ·exact (chan_n hc h hp k2 k1 h3.symm).symm
end
structure GK (t:TS):Prop where
 a:t.isOpen=true→15 ∈ t.grp.kinds→t.sentOf t.grp.obj=t.grp.k
 b:t.isOpen=true→15 ∉ t.grp.kinds→16 ∈ t.grp.kinds→t.sentOf t.grp.obj=t.grp.k+1
 c:t.isOpen=true→17 ∈ t.grp.kinds→t.recvOf t.grp.obj=t.grp.k
 d:t.isOpen=true→17 ∉ t.grp.kinds→18 ∈ t.grp.kinds→t.recvOf t.grp.obj=t.grp.k+1
 sh:t.grp.kinds=[]∨t.grp.kinds=[16]∨t.grp.kinds=[17,18,16]∨t.grp.kinds=[18,16]∨t.grp.kinds=[18]∨t.grp.kinds=[15,18,16]
theorem GK.new:GK TS.new:=⟨fun h=>(by cases h),fun h=>(by cases h),fun h=>(by cases h),fun h=>(by cases h),.inl rfl⟩
theorem open_ne {t:TS} (h:t.isOpen=true):t.grp.kinds≠[]:=fun e=>by unfold TS.isOpen at h;rw [e] at h;cases h
theorem GK.proceed {t:TS} (h:GK t) (ho:t.isOpen=true) {e:Ev} {v:TS} (hc:TCnt t v e) (hv:t.proceed e=some v):GK v:=by
 unfold TS.proceed at hv;split at hv
 ·rename_i hf;cases hv;unfold Grp.fits at hf;simp only [Bool.and_eq_true,decide_eq_true_eq] at hf;obtain ⟨⟨hk,hobj,hek,hen⟩,_⟩:=hf;have hkinds:(t.grp.next e).kinds=t.grp.kinds.tail:=by unfold Grp.next;split <;> rfl
  have hgo:(t.grp.next e).obj=t.grp.obj:=by unfold Grp.next;split <;> rfl
  have hgk:(t.grp.next e).k=t.grp.k:=by unfold Grp.next;split <;> rfl
  have h1:=hc.s t.grp.obj;have h2:=hc.r t.grp.obj;have ha:=h.a ho;have hb:=h.b ho;have hcc:=h.c ho;have hd:=h.d ho
  have key:∀ ks,t.grp.kinds=ks→GK { t.count e with grp:=t.grp.next e }:=fun ks hks=>by
   rcases h.sh with q | q | q | q | q | q
   ·exact absurd q (open_ne ho)
   all_goals
    rw [q] at hk hkinds ha hb hcc hd;simp only [List.headD_cons,List.tail_cons] at hk hkinds;refine ⟨fun o m=>?_,fun o m1 m2=>?_,fun o m=>?_,fun o m1 m2=>?_,?_⟩
    all_goals first
     | (show (t.grp.next e).kinds=[]∨_;rw [hkinds];simp;done)
     | skip
    all_goals
     dsimp only at *;rw [hkinds] at *
     first
      | (exfalso;revert m;simp;done)
      | (exfalso;revert m2;simp;done)
      | (rw [hgo,hgk];simp [hk,hobj] at h1 h2 ha hb hcc hd ⊢;omega)
  exact key _ rfl
 ·cases hv
theorem GK.same {t v:TS} (h:GK t) (hg:v.grp=t.grp) (hs:∀ x,v.sentOf x=t.sentOf x) (hr:∀ x,v.recvOf x=t.recvOf x):GK v:=by
 have ho:v.isOpen=t.isOpen:=by unfold TS.isOpen;rw [hg]
 refine ⟨fun o m=>?_,fun o m1 m2=>?_,fun o m=>?_,fun o m1 m2=>?_,by rw [hg];exact h.sh⟩
 ·rw [hg] at m ⊢;rw [hs];exact h.a (ho ▸ o) m
 ·rw [hg] at m1 m2 ⊢;rw [hs];exact h.b (ho ▸ o) m1 m2
 ·rw [hg] at m ⊢;rw [hr];exact h.c (ho ▸ o) m
 ·rw [hg] at m1 m2 ⊢;rw [hr];exact h.d (ho ▸ o) m1 m2
theorem GK.shut {v:TS} (ho:v.isOpen=false) (hk:v.grp.kinds=[]):GK v :=
 ⟨fun o=>absurd o (by rw [ho];decide),fun o=>absurd o (by rw [ho];decide),fun o=>absurd o (by rw [ho];decide),fun o=>absurd o (by rw [ho];decide),.inl hk⟩
theorem GK.operate {r:RSt} {t:TS} (hr:Rel r t) (hb:TBal t) (hg:GK t) (ho:t.isOpen=false) {e:Ev} (hn:0≤e.n) {v:TS} (hv:t.operate e=some v) (hc:TCnt t v e):GK v:=by
 have hkn:t.grp.kinds=[]:=by
  unfold TS.isOpen at ho;have:=of_decide_eq_false ho;exact List.length_eq_zero_iff.1 (by omega)
 obtain ⟨hs,hrv⟩:=chan_sent (t:=t) e;obtain ⟨hbl1,hbl2⟩:=chan_bal hr hb ho hn;have h1:=hc.s e.obj;have h2:=hc.r e.obj;unfold TS.operate at hv;dsimp only at hv;split at hv
 ·cases hv
 split at hv
 ·split at hv
  ·cases hv
  ·cases hv;exact GK.shut (by unfold TS.isOpen;rw [show (_:TS).grp=t.grp from rfl,hkn];rfl) hkn
 split at hv
 ·split at hv
  ·cases hv;exact hg
  ·cases hv
 split at hv
 ·rename_i hk;split at hv
  ·cases hv
  rename_i hcond;rw [not_or] at hcond;have hek:e.k=(t.chan e).sent:=Classical.not_not.1 hcond.2;rw [Option.map_eq_some_iff] at hv;obtain ⟨ks,hms,rfl⟩:=hv;rw [if_pos ⟨rfl,hk⟩] at h1;rw [if_neg (fun q=>by have:=q.2;omega)] at h2
  unfold Ch.missing at hms;rw [if_pos rfl] at hms;split at hms
  ·cases hms;exact ⟨fun _ m=>by simp [TS.start] at m,fun _ _ _=>by show _=e.k+1;rw [show ((t.start e (t.chan e) [16] e.g (-1)).grp.obj)=e.obj from rfl,h1];omega,fun _ m=>by simp [TS.start] at m,fun _ _ m=>by simp [TS.start] at m,.inr (.inl rfl)⟩
  ·split at hms
   ·rename_i hlt hz;cases hms;exact ⟨fun _ m=>by simp [TS.start] at m,fun _ _ _=>by show _=e.k+1;rw [show ((t.start e (t.chan e) [17,18,16] e.g (-1)).grp.obj)=e.obj from rfl,h1];omega,fun _ _=>by show _=e.k;rw [show ((t.start e (t.chan e) [17,18,16] e.g (-1)).grp.obj)=e.obj from rfl,h2];omega,fun _ m _=>absurd (by simp [TS.start]) m,.inr (.inr (.inl rfl))⟩
   ·cases hms
 split at hv
 ·rename_i hk;split at hv
  ·cases hv
  rename_i hcond;have hek:e.k=(t.chan e).recv:=Classical.not_not.1 hcond;rw [Option.map_eq_some_iff] at hv;obtain ⟨ks,hms,rfl⟩:=hv;rw [if_neg (fun q=>by have:=q.2;omega)] at h1
  rw [if_pos ⟨rfl,hk⟩] at h2;unfold Ch.missing at hms;rw [if_neg (by decide)] at hms;split at hms
  ·cases hms;exact ⟨fun _ m=>by simp [TS.start] at m,fun _ _ m=>by simp [TS.start] at m,fun _ m=>by simp [TS.start] at m,fun _ _ _=>by show _=e.k+1;rw [show ((t.start e (t.chan e) [18] (-1) e.g).grp.obj)=e.obj from rfl,h2];omega,.inr (.inr (.inr (.inr (.inl rfl))))⟩
  ·split at hms
   ·cases hms;exact ⟨fun _ _=>by show _=e.k;rw [show ((t.start e (t.chan e) [15,18,16] (-1) e.g).grp.obj)=e.obj from rfl,h1];omega,fun _ m _=>absurd (by simp [TS.start]) m,fun _ m=>by simp [TS.start] at m,fun _ _ _=>by show _=e.k+1;rw [show ((t.start e (t.chan e) [15,18,16] (-1) e.g).grp.obj)=e.obj from rfl,h2];omega,.inr (.inr (.inr (.inr (.inr rfl))))⟩
   ·cases hms
 ·cases hv
theorem simple_grp {t:TS} {e:Ev} {v:TS} (hv:t.simple e=some v):v.grp=t.grp:=by
 unfold TS.simple at hv;dsimp only at hv
 repeat' split at hv
 all_goals first
  | (cases hv;done)
  | (cases hv;rfl)
theorem GK.add {r:RSt} {t u:TS} (h:Rel r t) (hb:TBal t) (hg:GK t) {e:Ev} (ha:t.add e=some u):GK u:=by
 obtain ⟨hv,v,rfl,hc⟩:=add_cases ha;have hn:=(Ev.valid_n hv).1
 have lift:GK v→GK { v with events:=v.events+1 }:=fun h=>⟨h.a,h.b,h.c,h.d,h.sh⟩
 rcases hc with ⟨ho,hc⟩ | ⟨ho,hk,hc⟩ | ⟨ho,hk,hc⟩
 ·exact lift (hg.proceed ho (bal_proceed h hb ho hc).2.1 hc)
 ·exact lift (hg.operate h hb ho hn hc (bal_operate h hb ho hn hc).2.1)
 ·refine lift (GK.shut ?_ ?_)
  ·unfold TS.isOpen;rw [simple_grp hc];exact ho
  ·rw [simple_grp hc];unfold TS.isOpen at ho;have:=of_decide_eq_false ho;exact List.length_eq_zero_iff.1 (by omega)
section
variable {l:List Ev} (hc:chk l=l.length)
include hc
theorem gk_at {n:Nat} (hn:n≤l.length):GK (tsAt l n):=by
 induction n with
 | zero=>exact GK.new
 | succ n ih =>
   obtain ⟨⟨r,hr⟩,hw,hb⟩:=tsAt_good hc (n:=n) (by omega);exact (ih (by omega)).add hr hb (tsAt_succ hc hn)
theorem cnt_at {j:Nat} (hj:j < l.length):TCnt (tsAt l j) (tsAt l (j+1)) (evAt l j):=by
 obtain ⟨⟨r,hr⟩,hw,hb⟩:=tsAt_good hc (n:=j) (by omega);exact (bal_add hr hb (tsAt_succ hc hj)).2.1
theorem at15 {j:Nat} (hj:j < l.length) (hk:(evAt l j).kind=15):(evAt l j).k=(tsAt l j).sentOf (evAt l j).obj:=by
 obtain ⟨⟨r,hr⟩,hw,hb⟩:=tsAt_good hc (n:=j) (by omega);obtain ⟨hv,v,_,hcs⟩:=add_cases (tsAt_succ hc hj);have hG:=gk_at hc (n:=j) (by omega)
 rcases hcs with ⟨ho,hp⟩ | ⟨ho,_,hp⟩ | ⟨ho,hcb,hp⟩
 ·unfold TS.proceed at hp;split at hp
  ·rename_i hf;unfold Grp.fits at hf;simp only [Bool.and_eq_true,decide_eq_true_eq] at hf;obtain ⟨⟨h1,h2,h3,h4⟩,_⟩:=hf;rw [h3,h2];refine (hG.a ho ?_).symm;rw [hk] at h1
   rcases hG.sh with q | q | q | q | q | q <;> rw [q] at h1 ⊢ <;> simp at h1 ⊢
  ·cases hp
 ·unfold TS.operate at hp;dsimp only at hp;rw [←(chan_sent (t:=tsAt l j) (evAt l j)).1];split at hp
  ·cases hp
  rw [if_neg (by rw [hk];decide),if_neg (by rw [hk];decide)] at hp
  split at hp
  ·cases hp
  ·rename_i hcond;rw [not_or] at hcond;exact Classical.not_not.1 hcond.2
 ·unfold chanB at hcb;have:=of_decide_eq_false hcb;omega
theorem at17 {j:Nat} (hj:j < l.length) (hk:(evAt l j).kind=17):(evAt l j).k=(tsAt l j).recvOf (evAt l j).obj:=by
 obtain ⟨⟨r,hr⟩,hw,hb⟩:=tsAt_good hc (n:=j) (by omega);obtain ⟨hv,v,_,hcs⟩:=add_cases (tsAt_succ hc hj);have hG:=gk_at hc (n:=j) (by omega)
 rcases hcs with ⟨ho,hp⟩ | ⟨ho,_,hp⟩ | ⟨ho,hcb,hp⟩
 ·unfold TS.proceed at hp;split at hp
  ·rename_i hf;unfold Grp.fits at hf;simp only [Bool.and_eq_true,decide_eq_true_eq] at hf;obtain ⟨⟨h1,h2,h3,h4⟩,_⟩:=hf;rw [h3,h2];refine (hG.c ho ?_).symm;rw [hk] at h1
   rcases hG.sh with q | q | q | q | q | q <;> rw [q] at h1 ⊢ <;> simp at h1 ⊢
  ·cases hp
 ·unfold TS.operate at hp;dsimp only at hp;rw [←(chan_sent (t:=tsAt l j) (evAt l j)).2];split at hp
  ·cases hp
  rw [if_neg (by rw [hk];decide),if_neg (by rw [hk];decide),if_neg (by rw [hk];decide)] at hp
  split at hp
  ·cases hp
  ·rename_i hcond;exact Classical.not_not.1 hcond
 ·unfold chanB at hcb;have:=of_decide_eq_false hcb;omega
theorem at_end {j:Nat} (hj:j < l.length) (hk:(evAt l j).kind=16∨(evAt l j).kind=18) :
 (tsAt l j).isOpen=true∧(evAt l j).kind=(tsAt l j).grp.kinds.headD 0∧(evAt l j).obj=(tsAt l j).grp.obj∧(evAt l j).k=(tsAt l j).grp.k∧(evAt l j).n=(tsAt l j).grp.n:=by
 obtain ⟨hv,v,_,hcs⟩:=add_cases (tsAt_succ hc hj)
 rcases hcs with ⟨ho,hp⟩ | ⟨ho,_,hp⟩ | ⟨ho,hcb,hp⟩
 ·unfold TS.proceed at hp;split at hp
  ·rename_i hf;unfold Grp.fits at hf;simp only [Bool.and_eq_true,decide_eq_true_eq] at hf;exact ⟨ho,hf.1⟩
  ·cases hp
 ·unfold TS.operate at hp;dsimp only at hp;split at hp
  ·cases hp
  rw [if_neg (by omega),if_neg (by omega),if_neg (by omega),if_neg (by omega)] at hp;cases hp
 ·unfold chanB at hcb;have:=of_decide_eq_false hcb;omega
theorem at18 {j:Nat} (hj:j < l.length) (hk:(evAt l j).kind=18):(evAt l j).k < (tsAt l j).sentOf (evAt l j).obj∧(tsAt l j).sentOf (evAt l j).obj≤(evAt l j).k+(evAt l j).n+1:=by
 obtain ⟨ho,h1,h2,h3,h4⟩:=at_end hc hj (.inr hk);obtain ⟨⟨r,hr⟩,hw,hb⟩:=tsAt_good hc (n:=j) (by omega);have hG:=gk_at hc (n:=j) (by omega);obtain ⟨c,hcc,hcap⟩:=hb.op ho;have ha:=hb.a _ _ hcc;have hbb:=hb.b _ _ hcc;have es:(tsAt l j).sentOf (tsAt l j).grp.obj=c.sent:=by unfold TS.sentOf;rw [hcc];rfl
 have er:(tsAt l j).recvOf (tsAt l j).grp.obj=c.recv:=by unfold TS.recvOf;rw [hcc];rfl
 rw [hk] at h1;have w1:(tsAt l j).w15 (tsAt l j).grp.obj=0:=if_neg (fun q=>by have:=q.2;omega)
 have w2:(tsAt l j).w17 (tsAt l j).grp.obj=0:=if_neg (fun q=>by have:=q.2;omega)
 have hd:=hG.d ho (by rcases hG.sh with q | q | q | q | q | q <;> rw [q] at h1 ⊢ <;> simp at h1 ⊢) (by rcases hG.sh with q | q | q | q | q | q <;> rw [q] at h1 ⊢ <;> simp at h1 ⊢)
 rw [h2,h3,h4,es];omega
theorem at16 {j:Nat} (hj:j < l.length) (hk:(evAt l j).kind=16):(evAt l j).k - (evAt l j).n < (tsAt l j).recvOf (evAt l j).obj∧(tsAt l j).recvOf (evAt l j).obj≤(evAt l j).k+1:=by
 obtain ⟨ho,h1,h2,h3,h4⟩:=at_end hc hj (.inl hk);obtain ⟨⟨r,hr⟩,hw,hb⟩:=tsAt_good hc (n:=j) (by omega);have hG:=gk_at hc (n:=j) (by omega);obtain ⟨c,hcc,hcap⟩:=hb.op ho;have ha:=hb.a _ _ hcc;have hbb:=hb.b _ _ hcc;have es:(tsAt l j).sentOf (tsAt l j).grp.obj=c.sent:=by unfold TS.sentOf;rw [hcc];rfl
 have er:(tsAt l j).recvOf (tsAt l j).grp.obj=c.recv:=by unfold TS.recvOf;rw [hcc];rfl
 rw [hk] at h1;have w1:(tsAt l j).w15 (tsAt l j).grp.obj=0:=if_neg (fun q=>by have:=q.2;omega)
 have w2:(tsAt l j).w17 (tsAt l j).grp.obj=0:=if_neg (fun q=>by have:=q.2;omega)
 have hd:=hG.b ho (by rcases hG.sh with q | q | q | q | q | q <;> rw [q] at h1 ⊢ <;> simp at h1 ⊢) (by rcases hG.sh with q | q | q | q | q | q <;> rw [q] at h1 ⊢ <;> simp at h1 ⊢)
 rw [h2,h3,h4,er];omega
theorem sent_ev {j:Nat} (hj:j≤l.length) {x:Int}:0≤(tsAt l j).sentOf x∧∀ K:Int,0≤K→K < (tsAt l j).sentOf x→∃ i,i < j∧(evAt l i).kind=15∧(evAt l i).obj=x∧(evAt l i).k=K:=by
 induction j with
 | zero=>exact ⟨Int.le_refl _,fun K h0 h1=>by rw [show (tsAt l 0).sentOf x=0 from rfl] at h1;omega⟩
 | succ j ih =>
   obtain ⟨ih0,ih⟩:=ih (by omega);have hs:=(cnt_at hc (j:=j) hj).s x;refine ⟨by rw [hs];split <;> omega,fun K h0 h1=>?_⟩
   rw [hs] at h1;split at h1
   ·rename_i hq
    by_cases hK:K < (tsAt l j).sentOf x
    ·obtain ⟨i,q1,q2⟩:=ih K h0 hK;exact ⟨i,by omega,q2⟩
    ·refine ⟨j,Nat.lt_succ_self _,hq.2,hq.1,?_⟩;rw [at15 hc hj hq.2,hq.1];omega
   ·obtain ⟨i,q1,q2⟩:=ih K h0 (by omega);exact ⟨i,by omega,q2⟩
theorem rcv_ev {j:Nat} (hj:j≤l.length) {x:Int}:0≤(tsAt l j).recvOf x∧∀ K:Int,0≤K→K < (tsAt l j).recvOf x→∃ i,i < j∧(evAt l i).kind=17∧(evAt l i).obj=x∧(evAt l i).k=K:=by
 induction j with
 | zero=>exact ⟨Int.le_refl _,fun K h0 h1=>by rw [show (tsAt l 0).recvOf x=0 from rfl] at h1;omega⟩
 | succ j ih =>
   obtain ⟨ih0,ih⟩:=ih (by omega);have hs:=(cnt_at hc (j:=j) hj).r x;refine ⟨by rw [hs];split <;> omega,fun K h0 h1=>?_⟩
   rw [hs] at h1;split at h1
   ·rename_i hq
    by_cases hK:K < (tsAt l j).recvOf x
    ·obtain ⟨i,q1,q2⟩:=ih K h0 hK;exact ⟨i,by omega,q2⟩
    ·refine ⟨j,Nat.lt_succ_self _,hq.2,hq.1,?_⟩;rw [at17 hc hj hq.2,hq.1];omega
   ·obtain ⟨i,q1,q2⟩:=ih K h0 (by omega);exact ⟨i,by omega,q2⟩
end
end Go.Proofs.Ytffcpijeebagfaa
end
