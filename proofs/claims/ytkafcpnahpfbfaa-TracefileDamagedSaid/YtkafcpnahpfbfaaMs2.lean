/- Maps of the heap: each operation does what its plain reading says. -/
import Derived.Test.YtkafcpnahpfbfaaMs1
import Derived.Maps.RangeRun
import Derived.Carry
import Derived.Maps.AppendAt
set_option linter.unusedSimpArgs false
set_option linter.unusedVariables false
section
namespace Go.Proofs.Ytkafcpnahpfbfaa
open Go Go.RowKit Go.ChangeMaps Go.MapKept
theorem lM:∀ {es:List (Value×Nat×Hw)} {k:Value},(∀ x ∈ es,x.1≠k)→fA es k=none
 | [],_,_=>rfl
 | x :: es,k,h=>by
   unfold fA;rw [if_neg (h x (by simp)),lM (fun y hy=>h y (by simp [hy]))]
theorem qx:∀ {es:List (Value×Nat×Hw)} {k:Value} {j:Nat} {x:Value×Nat×Hw},es[j]? = some x→x.1=k→(∀ i y,i < j→es[i]? = some y→y.1≠k)→fA es k=some x.2
 | [],_,j,x,h,_,_=>by simp at h
 | y :: es,k,0,x,h,hk,_=>by
   simp at h;subst h;unfold fA;rw [if_pos hk]
 | y :: es,k,j+1,x,h,hk,hf=>by
   unfold fA;rw [if_neg (hf 0 y (by omega) rfl)];exact qx (by simpa using h) hk (fun i z hi hz=>hf (i+1) z (by omega) (by simpa using hz))
theorem qU:∀ {es:List (Value×Nat×Hw)} {n:Nat} {k:Value} {u:Hw},(∀ x ∈ es,x.1≠k)→nW es n k u=es ++ [(k,n,u)]
 | [],_,_,_,_=>rfl
 | x :: es,n,k,u,h=>by
   unfold nW;rw [if_neg (h x (by simp)),qU (fun y hy=>h y (by simp [hy]))];rfl
theorem EL:∀ {es:List (Value×Nat×Hw)} {n:Nat} {k:Value} {u:Hw} {j:Nat} {x:Value×Nat×Hw},es[j]? = some x→x.1=k→(∀ i y,i < j→es[i]? = some y→y.1≠k)→nW es n k u=es.set j (x.1,x.2.1,u)
 | [],_,_,_,j,x,h,_,_=>by simp at h
 | y :: es,n,k,u,0,x,h,hk,_=>by
   simp at h;subst h;unfold nW;rw [if_pos hk];rfl
 | y :: es,n,k,u,j+1,x,h,hk,hf=>by
   unfold nW;rw [if_neg (hf 0 y (by omega) rfl),EL (by simpa using h) hk (fun i z hi hz=>hf (i+1) z (by omega) (by simpa using hz))];rfl
theorem wF:∀ {es:List (Value×Nat×Hw)} {k:Value},(∀ x ∈ es,x.1≠k)→I5 es k=es
 | [],_,_=>rfl
 | x :: es,k,h=>by
   unfold I5;rw [if_neg (h x (by simp)),wF (fun y hy=>h y (by simp [hy]))]
theorem EK:∀ {es:List (Value×Nat×Hw)} {k:Value} {j:Nat} {x:Value×Nat×Hw},es[j]? = some x→x.1=k→(∀ i y,i < j→es[i]? = some y→y.1≠k)→I5 es k=es.eraseIdx j
 | [],_,j,x,h,_,_=>by simp at h
 | y :: es,k,0,x,h,hk,_=>by
   simp at h;subst h;unfold I5;rw [if_pos hk];rfl
 | y :: es,k,j+1,x,h,hk,hf=>by
   unfold I5;rw [if_neg (hf 0 y (by omega) rfl),EK (by simpa using h) hk (fun i z hi hz=>hf (i+1) z (by omega) (by simpa using hz))];rfl
theorem wI:∀ {es:List (Value×Nat×Hw)} {st:Nat} {u:Hw},st ∈ es.map (·.2.1)→∃ j x,es[j]? = some x∧x.2.1=st∧(∀ i y,i < j→es[i]? = some y→y.2.1≠st)∧vU es st u=es.set j (x.1,x.2.1,u)
 | [],st,u,h=>by simp at h
 | (k,n,v) :: es,st,u,h=>by
   by_cases hn:n=st
   ·refine ⟨0,(k,n,v),rfl,hn,fun i y hi=>by omega,?_⟩;unfold vU;rw [if_pos hn];rfl
   ·have h':st ∈ es.map (·.2.1):=by simp at h ⊢;exact h.resolve_left (fun e=>hn e.symm)
    obtain ⟨j,x,h1,h2,h3,h4⟩:=wI (u:=u) h';refine ⟨j+1,x,by simpa using h1,h2,fun i y hi hy=>?_,?_⟩
    ·cases i with
     | zero=>simp at hy;subst hy;exact hn
     | succ i=>exact h3 i y (by omega) (by simpa using hy)
    ·unfold vU;rw [if_neg hn,h4];rfl
section
variable {w0:World} {S0:Nat→Nat} {n:Nat} {W:Wit} {s:St} {a:Act} {w:World}
variable {G:Nat→Nat} {O:Nat→Ob} {k clock:Nat} {es:List (Value×Nat×Hw)} {es':Array MapEntry}
theorem REs.get (h:REs W G O w k es es') {j:Nat} {y:MapEntry} (hy:es'.toList[j]? = some y):∃ x,es[j]? = some x∧y.key=x.1∧y.born=x.2.1∧RB W G O w x.2.2.bv y.val∧(keyOf Try.prog k x.1).isSome=true∧kOk x.1=true:=by
 have hlt:j < es.length:=by rw [h.1];have:=(List.getElem?_eq_some_iff.1 hy).1;simpa using this
 exact ⟨_,List.getElem?_eq_getElem hlt,h.2 j _ y (List.getElem?_eq_getElem hlt) hy⟩
theorem REs.get' (h:REs W G O w k es es') {j:Nat} {x:Value×Nat×Hw} (hx:es[j]? = some x):∃ y,es'.toList[j]? = some y∧y.key=x.1∧y.born=x.2.1∧RB W G O w x.2.2.bv y.val∧(keyOf Try.prog k x.1).isSome=true∧kOk x.1=true:=by
 have hlt:j < es'.toList.length:=by have:=(List.getElem?_eq_some_iff.1 hx).1;rw [h.1] at this;simpa using this
 exact ⟨_,List.getElem?_eq_getElem hlt,h.2 j x _ hx (List.getElem?_eq_getElem hlt)⟩
theorem REs.keys (h:REs W G O w k es es'):∀ e ∈ es'.toList,∃ l,keyOf Try.prog k e.key=some l:=fun e he=>by
 obtain ⟨j,hj⟩:=List.getElem?_of_mem he;obtain ⟨x,_,h2,_,_,h5,_⟩:=h.get hj;rw [h2];exact Option.isSome_iff_exists.1 h5
theorem qC (K:Maps.Keyed Try.prog k) (hr:REs W G O w k es es') (hst:Stamped es' clock) {key:Value} {kl:Lit} (hkey:keyOf Try.prog k key=some kl) (w':World) :
 ((Instr.findKey k key es'.toList).run Try.prog w'=.ok none w'∧(∀ e ∈ es'.toList,e.key≠key)∧∀ x ∈ es,x.1≠key) ∨
 ∃ j e x,(Instr.findKey k key es'.toList).run Try.prog w'=.ok (some (j,e.val)) w'∧es'.toList[j]? = some e∧es[j]? = some x∧e.key=key∧x.1=key∧e.born=x.2.1∧RB W G O w x.2.2.bv e.val∧(∀ i y,i < j→es[i]? = some y→y.1≠key):=by
 rcases K.find w' hkey es'.toList hr.keys with ⟨h1,h2⟩ | ⟨j,e,h1,h2,h3⟩
 ·refine .inl ⟨h1,h2,fun x hx=>?_⟩;obtain ⟨j,hj⟩:=List.getElem?_of_mem hx;obtain ⟨y,h4,h5,_⟩:=hr.get' hj;rw [←h5];exact h2 y (List.mem_of_getElem? h4)
 ·obtain ⟨x,h4,h5,h6,h7,_⟩:=hr.get h2;refine .inr ⟨j,e,x,h1,h2,h4,h3,by rw [←h5];exact h3,h6,h7,fun i y hi hy=>?_⟩
  obtain ⟨z,g1,g2,_⟩:=hr.get' hy;rw [←g2];intro hz;have hp:=((stamped_iff es' clock).1 hst).2.2;have hlt:=(List.getElem?_eq_some_iff.1 h2).1;have hlt1:=(List.getElem?_eq_some_iff.1 g1).1;have:=List.pairwise_iff_getElem.1 hp i j hlt1 hlt hi;rw [List.getElem?_eq_getElem hlt1] at g1;rw [List.getElem?_eq_getElem hlt] at h2;cases g1;cases h2;exact this (hz.trans h3.symm)
theorem mJ [Bor] (h:Sim w0 S0 n W s a w) {b k clock:Nat} {es:List (Value×Nat×Hw)} (hb:s.hb b=.map k es clock):Maps.Keyed Try.prog k∧(∃ es',w.heap[W.nm b]? = some (.map es' clock)∧Stamped es' clock∧REs W s.gen s.ob w k es es')∧W.lv b:=by
 obtain ⟨⟨h1,h2⟩,h3⟩:=pz h hb (by simp);exact ⟨h1,h2,h3⟩
theorem EC:∀ {cs:List Cl} {vs:List Value} {us:List Value},scs cs=some vs→RCs W G O w cs us→us=vs
 | [],vs,us,h,hr=>by
   simp [scs] at h;subst h;exact List.eq_nil_of_length_eq_zero hr.1.symm
 | c :: cs,vs,us,h,hr=>by
   unfold scs at h;split at h
   ·cases ‹c :: cs=[]›
   ·rename_i v r he;cases he;simp only [Option.map_eq_some_iff] at h;obtain ⟨vs',h1,rfl⟩:=h
    cases us with
    | nil=>exact absurd hr.1 (by simp)
    | cons u us =>
      have:=EC (us:=us) h1 ⟨by simpa using hr.1,fun i c u e1 e2=>hr.2 (i+1) c u (by simpa using e1) (by simpa using e2)⟩;rw [this];have h2:RD W.S w (.sc v) u:=hr.2 0 _ u rfl rfl;rw [(RD.fP h2).1]
   ·cases h
theorem zi [Bor] (h:Sim w0 S0 n W s a w) {xo:Operand} {x:PX} (hx:cX xo=some x) {v:Value} (hv:s.key x=some v):a.eval xo=v:=by
 have:=evX h hx;unfold St.key at hv;split at hv
 ·rename_i u heq;rw [heq] at this;cases hv;exact (RD.fP this).1
 ·rename_i cs heq;rw [heq] at this;simp only [Option.map_eq_some_iff] at hv;obtain ⟨vs,h1,rfl⟩:=hv;obtain ⟨arr,h2,h3⟩:=this;rw [h2,←EC h1 h3]
 ·cases hv
theorem O3:∀ {cs:List Cl} {vs us:List Value},scs cs=some vs→RCs W G O w cs us→vs.all Value.oneCell'=true:=fun h hr=>by
 have:=EC h hr;rw [←this];exact List.all_eq_true.2 fun v hv=>hr.one v hv
theorem key_ok [Bor] (h:Sim w0 S0 n W s a w) {xo:Operand} {x:PX} (hx:cX xo=some x) {v:Value} (hv:s.key x=some v):kOk v=true:=by
 have:=evX h hx;unfold St.key at hv;split at hv
 ·rename_i u heq;rw [heq] at this;cases hv;have h1:=(RD.fP this).2;cases v <;> first | exact h1 | (simp [Value.oneCell'] at h1)
 ·rename_i cs heq;rw [heq] at this;simp only [Option.map_eq_some_iff] at hv;obtain ⟨vs,h1,rfl⟩:=hv;obtain ⟨arr,h2,h3⟩:=this
  show vs.toArray.toList.all _=true
  simpa using O3 h1 h3
 ·cases hv
theorem RCs.hc {cs:List Cl} {hs:List Hc} {vs:List Value} (h:RCs W G O w cs vs) (he:aC (cs.map Cl.hc)=some hs):RCs W G O w (hs.map Hc.cl) vs:=RCs.hcs h he
theorem MR [Bor] (h:Sim w0 S0 n W s a w) {xo:Operand} {x:PX} (hx:cX xo=some x) {u:Hw} (hv:s.hw x=some u):RB W s.gen s.ob w u.bv (a.eval xo):=by
 have:=evX h hx;unfold St.hw Av.hw at hv;split at hv
 ·rename_i y heq;rw [heq] at this
  cases y with
  | one c =>
    simp only [Bv.hw,Option.map_eq_some_iff] at hv;obtain ⟨z,hz,rfl⟩:=hv;exact RC.hc this hz
  | agg cs =>
    simp only [Bv.hw,Option.map_eq_some_iff] at hv;obtain ⟨z,hz,rfl⟩:=hv;obtain ⟨arr,h1,h2⟩:=this;exact ⟨arr,h1,h2.hcs hz⟩
 ·cases hv
def zHw:Value→Option Hw
 | .agg arr=>if arr.toList.all Value.oneCell'=true then some (.agg (arr.toList.map fun v=>.d (.sc v))) else none
 | v=>if v.oneCell'=true then some (.one (.d (.sc v))) else none
theorem zy {z:Value} {u:Hw} (h:zHw z=some u):RB W G O w u.bv z:=by
 unfold zHw at h;split at h
 ·rename_i arr;split at h
  ·rename_i ha;cases h;refine ⟨arr,rfl,by simp,fun i c v h1 h2=>?_⟩;simp only [List.map_map,List.getElem?_map,h2,Option.map_some,Option.some.injEq,Function.comp] at h1;subst h1;exact RD.sc _ (List.all_eq_true.1 ha v (List.mem_of_getElem? h2))
  ·cases h
 ·split at h
  ·rename_i h1;cases h;exact RD.sc _ h1
  ·cases h
theorem vQ {e:TypeId} {i:TypeInfo} {z:Value} (hi:Try.prog.info? e=some i) (hz:i.zero=some z) (w:World):(zeroValue e).run Try.prog w=.ok z w:=by
 simp [zeroValue,typeInfo,hi,hz]
theorem ku [Bor] (h:Sim w0 S0 n W s a w) {xo:Operand} {x:PX} (hx:cX xo=some x) {v:Hv} (hc:s.cl x=.hv v):a.eval xo=rv W v∧NW W v:=by
 have:=dJ h hx hc (by simp);exact ⟨this.1,this.2.2⟩
variable {o:Oper}
theorem JU [Bor] (hd:∀ d,o.dst=some d→d < n) {t k e:TypeId} {ok:Bool} {i:TypeInfo} {z:Value} {zh:Hw} {mo xo:Operand} {m x:PX} (hop:o.op=.lookup t mo xo ok) (ht:Try.prog.underlying t=some (.map k e)) (hi:Try.prog.info? e=some i) (hz:i.zero=some z) (hzh:zHw z=some zh)
 (hm:cX mo=some m) (hx:cX xo=some x):Good Try.prog n o (.mlk k zh ok m x) :=
 .bJ hd fun w0 S0 W s a w v ch hs hf=>by
  simp only [PO.fn] at hf;split at hf
  ·rename_i b key hcm hkx;split at hf
   ·rename_i k' es clock hb;split at hf
    ·rename_i hcond;obtain ⟨rfl,hks⟩:=hcond;obtain ⟨kl,hkey⟩:=Option.isSome_iff_exists.1 hks;obtain ⟨K,⟨es',h1,hst,hr⟩,hlv⟩:=mJ hs hb;obtain ⟨em,_⟩:=ku hs hm hcm;have em':a.eval mo=.map (some (W.nm b)):=em;have ex:=zi hs hx hkx;have hzr:=vQ hi hz w;have hzr2:=vQ hi hz
     rcases qC K hr hst hkey w with ⟨f1,f2,f3⟩ | ⟨j,e0,x0,f1,f2,f3,f4,f5,f6,f7,f8⟩
     ·rw [lM f3] at hf;cases hf;refine ⟨rfl,if ok then .tuple #[z,.bool false] else z,?_,?_⟩
      ·cases ok <;> simp [execOp,hop,em',ex,Instr.lookup,run_underlying ht,MapKept.run_getObj_map h1,K.check w _ hkey,f1,hzr2,Result.andThen]
      ·cases ok with
       | false=>exact zy hzh
       | true =>
         refine ⟨#[z,.bool false],rfl,rfl,fun i x u e1 e2=>?_⟩
         match i with
         | 0=>simp at e1 e2;subst e1;subst e2;exact zy hzh
         | 1=>simp at e1 e2;subst e1;subst e2;exact RD.sc _ rfl
         | i+2=>simp at e1
     ·rw [qx f3 f5 f8] at hf;cases hf;refine ⟨rfl,if ok then .tuple #[e0.val,.bool true] else e0.val,?_,?_⟩
      ·cases ok <;> simp [execOp,hop,em',ex,Instr.lookup,run_underlying ht,MapKept.run_getObj_map h1,K.check w _ hkey,f1,Result.andThen]
      ·cases ok with
       | false=>exact f7
       | true =>
         refine ⟨#[e0.val,.bool true],rfl,rfl,fun i x u e1 e2=>?_⟩
         match i with
         | 0=>simp at e1 e2;subst e1;subst e2;exact f7
         | 1=>simp at e1 e2;subst e1;subst e2;exact RD.sc _ rfl
         | i+2=>simp at e1
    ·cases hf
   ·cases hf
  ·cases hf
theorem GR [Bor] (hd:∀ d,o.dst=some d→d < n) {t k e:TypeId} {mo:Operand} {m:PX} {c:Call} (hop:o.op=.call c) (hc:c.callee=.builtin .len) (ha:c.args=#[mo]) (hat:c.argTypes=#[t]) (ht:Try.prog.underlying t=some (.map k e)) (hm:cX mo=some m):Good Try.prog n o (.mlen m) :=
 .bJ hd fun w0 S0 W s a w v ch hs hf=>by
  simp only [PO.fn] at hf;split at hf
  ·rename_i b hcm;split at hf
   ·rename_i k' es clock hb;cases hf;obtain ⟨K,⟨es',h1,hst,hr⟩,hlv⟩:=mJ hs hb;obtain ⟨em,_⟩:=ku hs hm hcm;have em':a.eval mo=.map (some (W.nm b)):=em;refine ⟨rfl,.int .i64 es.length,bL hop hc Builtin.len_ (fun _ _ _ _=>rfl) ?_,RD.sc _ rfl⟩;rw [ha,hat];simp [Builtin.len_,run_underlying ht,goInt,em',MapKept.run_getObj_map h1,Result.andThen,hr.1]
   ·cases hf
  ·cases hf
theorem REs.push {u:Hw} {v:Value} {key:Value} (h:REs W G O w k es es') (hk:(keyOf Try.prog k key).isSome=true) (hko:kOk key=true) (hu:RB W G O w u.bv v) (c:Nat):REs W G O w k (es ++ [(key,c,u)]) (es'.push ⟨key,v,c⟩):=by
 refine ⟨by simp [h.1],fun i x y h1 h2=>?_⟩;have hl:=h.1;rw [Array.toList_push] at h2
 rcases Nat.lt_or_ge i es.length with hlt | hge
 ·rw [List.getElem?_append_left hlt] at h1;rw [List.getElem?_append_left (by simpa [←hl] using hlt)] at h2;exact h.2 i x y h1 h2
 ·rw [List.getElem?_append_right hge] at h1;rw [List.getElem?_append_right (by simpa [←hl] using hge)] at h2;have e1:es'.toList.length=es.length:=by simp [hl]
  rw [e1] at h2
  cases hi:i - es.length with
  | zero =>
    rw [hi] at h1 h2;simp at h1 h2;subst h1;subst h2;exact ⟨rfl,rfl,hu,hk,hko⟩
  | succ j=>rw [hi] at h1;simp at h1
theorem REs.set {u:Hw} {j:Nat} {x0:Value×Nat×Hw} (h:REs W G O w k es es') (hj:es[j]? = some x0) (f:MapEntry→MapEntry) (hf:∀ y,es'.toList[j]? = some y→(f y).key=x0.1∧(f y).born=x0.2.1∧RB W G O w u.bv (f y).val):REs W G O w k (es.set j (x0.1,x0.2.1,u)) (es'.modify j f):=by
 have hl:=h.1;have hjl:=(List.getElem?_eq_some_iff.1 hj).1;refine ⟨by simp [hl],fun i x y h1 h2=>?_⟩;rw [Array.getElem?_toList,Array.getElem?_modify] at h2;rw [List.getElem?_set] at h1
 by_cases hij:j=i
 ·subst hij;rw [if_pos rfl,if_pos hjl] at h1;rw [if_pos rfl] at h2;simp only [Option.some.injEq,Option.map_eq_some_iff] at h1 h2;subst h1;obtain ⟨y0,h3,rfl⟩:=h2;have h3':es'.toList[j]? = some y0:=by rw [Array.getElem?_toList];exact h3
  obtain ⟨q1,q2,q3⟩:=hf y0 h3';exact ⟨q1,q2,q3,(h.2 j x0 y0 hj h3').2.2.2⟩
 ·rw [if_neg hij] at h1 h2;exact h.2 i x y h1 (by rw [Array.getElem?_toList];exact h2)
theorem REs.erase {j:Nat} (h:REs W G O w k es es') (hj:j < es.length):REs W G O w k (es.eraseIdx j) (es'.eraseIdxIfInBounds j):=by
 have hl:=h.1
 have e1:(es'.eraseIdxIfInBounds j).toList=es'.toList.eraseIdx j:=by
  unfold Array.eraseIdxIfInBounds;rw [dif_pos (by omega)];simp
 have e2:(es'.eraseIdxIfInBounds j).size=es'.size - 1:=by
  rw [←Array.length_toList,e1,List.length_eraseIdx_of_lt (by simpa [←hl] using hj)];simp
 refine ⟨by rw [e2,List.length_eraseIdx_of_lt hj,hl],fun i x y h1 h2=>?_⟩;rw [e1] at h2;rw [List.getElem?_eraseIdx] at h1 h2;split at h1
 ·rename_i hlt;rw [if_pos hlt] at h2;exact h.2 i x y h1 h2
 ·rename_i hlt;rw [if_neg hlt] at h2;exact h.2 (i+1) x y h1 h2
theorem Sim.mE [Bor] (hs:Sim w0 S0 n W s a w) {b clock':Nat} {es2:List (Value×Nat×Hw)} {es2':Array MapEntry} (hb:s.hb b=.map k es clock) (h1:w.heap[W.nm b]? = some (.map es' clock)) {dst:Option Nat} (hd:∀ d,dst=some d→d < n) {v:Av} {rv:Value}
 (K:Maps.Keyed Try.prog k) (hst:Stamped es2' clock') (hr:∀ {G O w'},Fol W s.gen s.ob w W G O w'→REs W G O w' k es2 es2') (hv:∀ {G O w'},Fol W s.gen s.ob w W G O w'→RA W G O w' v rv) :
 Sim w0 S0 n W (s.ap dst v (.hw (HBS+s.nc b) [(b,.map k es2 clock')])) (a.put dst rv) (setBlock w (W.nm b) (.map es2' clock')):=by
 refine hs.turn hb (by simp) (y:=.map k es2 clock') (by simp) hd (fun _=>Iff.rfl) ⟨fun i hi=>heap_setBlock_other h1 _ (fun e=>hi (by subst e;rfl)),by simp [setBlock],rfl,rfl,rfl⟩ (fun hf=>?_) (fun hf=>hv hf)
 exact ⟨K,es2',heap_setBlock_same h1 _,hst,hr hf⟩
theorem wM {es':Array MapEntry} {clock:Nat} (hst:Stamped es' clock) {i j:Nat} {y z:MapEntry} (h1:es'.toList[i]? = some y) (h2:es'.toList[j]? = some z) (hb:y.born=z.born):i=j:=by
 have hp:=((stamped_iff es' clock).1 hst).2.1;have hp':=List.pairwise_map.1 hp;have l1:=(List.getElem?_eq_some_iff.1 h1).1;have l2:=(List.getElem?_eq_some_iff.1 h2).1;rw [List.getElem?_eq_getElem l1] at h1;rw [List.getElem?_eq_getElem l2] at h2;cases h1;cases h2
 rcases Nat.lt_trichotomy i j with h | h | h
 ·exact absurd hb (List.pairwise_iff_getElem.1 hp' i j l1 l2 h)
 ·exact h
 ·exact absurd hb.symm (List.pairwise_iff_getElem.1 hp' j i l2 l1 h)
theorem AU [Bor] (hd:o.dst=none) {t k e:TypeId} {mo xo vo:Operand} {m x v:PX} (hop:o.op=.mapUpdate t mo xo vo∨o.op=.insert t mo xo vo) (ht:Try.prog.underlying t=some (.map k e)) (hm:cX mo=some m) (hx:cX xo=some x) (hv:cX vo=some v):Good Try.prog n o (.mup k m x v):=by
 intro w0 S0 W s a w r ch hs hf;simp only [PO.fn] at hf;split at hf
 ·rename_i b key u hcm hkx huv;split at hf
  ·rename_i k' es clock hb;split at hf
   ·rename_i hcond;obtain ⟨rfl,hks⟩:=hcond;cases hf;obtain ⟨kl,hkey⟩:=Option.isSome_iff_exists.1 hks;obtain ⟨K,⟨es',h1,hst,hr⟩,hlv⟩:=mJ hs hb;obtain ⟨em,_⟩:=ku hs hm hcm;have em':a.eval mo=.map (some (W.nm b)):=em;have ex:=zi hs hx hkx;have eu:=MR hs hv huv;rw [hd]
    rcases qC K hr hst hkey w with ⟨f1,f2,f3⟩ | ⟨j,e0,x0,f1,f2,f3,f4,f5,f6,f7,f8⟩
    ·rw [lM f3,qU f3];refine ⟨W,undef,setBlock w (W.nm b) (.map (es'.push ⟨key,a.eval vo,clock⟩) (clock+1)),.inr ⟨?_,rfl⟩,hs.mE hb h1 (fun _ h=>by cases h) K (stamped_push hst f2) (fun hf=>(hr.fol hf).push hks (key_ok hs hx hkx) (RB.fol hf eu) clock) (fun _=>trivial)⟩
     rcases hop with hop | hop <;> simp [execOp,hop,em',ex,Instr.mapUpdate,run_underlying ht,MapKept.run_getObj_map h1,K.check w false hkey,f1,MapKept.run_setObj_map _ h1,Result.andThen,setBlock]
    ·rw [qx f3 f5 f8,EL f3 f5 f8];have hje:es'[j]? = some e0:=by rw [←Array.getElem?_toList];exact f2
     have hkeyf:∀ e',es'[j]? = some e'→({ e' with key:=key,val:=a.eval vo }:MapEntry).key=e'.key:=fun e' he'=>by rw [hje] at he';cases he';exact f4.symm
     refine ⟨W,undef,setBlock w (W.nm b) (.map (es'.modify j (fun e'=>{ e' with key:=key,val:=a.eval vo })) clock),.inr ⟨?_,rfl⟩,hs.mE hb h1 (fun _ h=>by cases h) K (stamped_modify hst _ _ (fun _ _=>rfl) (fun e' _ he'=>hkeyf e' he'))
      (fun hf=>(hr.fol hf).set f3 _ (fun y hy=>?_)) (fun _=>trivial)⟩
     ·rcases hop with hop | hop <;> simp [execOp,hop,em',ex,Instr.mapUpdate,run_underlying ht,MapKept.run_getObj_map h1,K.check w false hkey,f1,hje,f4,K.stays w hkey,MapKept.run_setObj_map _ h1,Result.andThen,setBlock]
     ·rw [f2] at hy;cases hy;exact ⟨f5.symm,f6,RB.fol hf eu⟩
   ·cases hf
  ·cases hf
 ·cases hf
theorem GK [Bor] (hd:∀ d,o.dst=some d→d < n) {t k e:TypeId} {mo xo:Operand} {m x:PX} {c:Call} (hop:o.op=.call c) (hc:c.callee=.builtin .delete) (ha:c.args=#[mo,xo]) (hat:c.argTypes=#[t,k]) (ht:Try.prog.underlying t=some (.map k e)) (hm:cX mo=some m) (hx:cX xo=some x):Good Try.prog n o (.mdel k m x):=by
 intro w0 S0 W s a w r ch hs hf;simp only [PO.fn] at hf;split at hf
 ·rename_i b key hcm hkx;split at hf
  ·rename_i k' es clock hb;split at hf
   ·rename_i hcond;obtain ⟨rfl,hks⟩:=hcond;cases hf;obtain ⟨kl,hkey⟩:=Option.isSome_iff_exists.1 hks;obtain ⟨K,⟨es',h1,hst,hr⟩,hlv⟩:=mJ hs hb;obtain ⟨em,_⟩:=ku hs hm hcm;have em':a.eval mo=.map (some (W.nm b)):=em;have ex:=zi hs hx hkx
    rcases qC K hr hst hkey w with ⟨f1,f2,f3⟩ | ⟨j,e0,x0,f1,f2,f3,f4,f5,f6,f7,f8⟩
    ·rw [wF f3];refine ⟨W,.tuple #[],setBlock w (W.nm b) (.map es' clock),.inl (bL hop hc Builtin.delete_ (fun _ _ _ _=>rfl) ?_),hs.mE hb h1 hd K hst (fun hf=>hr.fol hf) (fun _=>trivial)⟩;rw [ha,hat];simp [Builtin.delete_,em',ex,run_underlying ht,MapKept.run_getObj_map h1,K.check w _ hkey,f1,MapKept.run_setObj_map _ h1,Result.andThen,setBlock]
    ·rw [EK f3 f5 f8];have hjl:=(List.getElem?_eq_some_iff.1 f3).1;refine ⟨W,.tuple #[],setBlock w (W.nm b) (.map (es'.eraseIdxIfInBounds j) clock),.inl (bL hop hc Builtin.delete_ (fun _ _ _ _=>rfl) ?_),hs.mE hb h1 hd K (stamped_erase hst j) (fun hf=>(hr.fol hf).erase hjl) (fun _=>trivial)⟩;rw [ha,hat];simp [Builtin.delete_,em',ex,run_underlying ht,MapKept.run_getObj_map h1,K.check w _ hkey,f1,MapKept.run_setObj_map _ h1,Result.andThen,setBlock]
   ·cases hf
  ·cases hf
 ·cases hf
theorem Sz {x y:Bv} {u v:Value} (h1:RB W G O w x u) (h2:RB W G O w y v):RA W G O w (.tup [x,y]) (.tuple #[u,v]) :=
 ⟨#[u,v],rfl,rfl,fun i z t e1 e2=>by
  match i with
  | 0=>simp at e1 e2;subst e1;subst e2;exact h1
  | 1=>simp at e1 e2;subst e1;subst e2;exact h2
  | i+2=>simp at e1⟩
theorem GL [Bor] (hd:∀ d,o.dst=some d→d < n) {t k e:TypeId} {i:TypeInfo} {z:Value} {zh:Hw} {mo xo:Operand} {m x:PX} (hop:o.op=.mapEntry t mo xo) (ht:Try.prog.underlying t=some (.map k e)) (hi:Try.prog.info? e=some i) (hz:i.zero=some z) (hzh:zHw z=some zh)
 (hm:cX mo=some m) (hx:cX xo=some x):Good Try.prog n o (.ment k zh m x):=by
 intro w0 S0 W s a w r ch hs hf;simp only [PO.fn] at hf;split at hf
 ·rename_i b key hcm hkx;split at hf
  ·rename_i k' es clock hb;split at hf
   ·rename_i hcond;obtain ⟨rfl,hks⟩:=hcond;obtain ⟨kl,hkey⟩:=Option.isSome_iff_exists.1 hks;obtain ⟨K,⟨es',h1,hst,hr⟩,hlv⟩:=mJ hs hb;obtain ⟨em,_⟩:=ku hs hm hcm;have em':a.eval mo=.map (some (W.nm b)):=em;have ex:=zi hs hx hkx;have hzr:=vQ hi hz
    rcases qC K hr hst hkey w with ⟨f1,f2,f3⟩ | ⟨j,e0,x0,f1,f2,f3,f4,f5,f6,f7,f8⟩
    ·rw [lM f3] at hf;cases hf;rw [qU f3];refine ⟨W,.tuple #[z,.int .i64 clock],setBlock w (W.nm b) (.map (es'.push ⟨key,z,clock⟩) (clock+1)),.inl ?_,hs.mE hb h1 hd K (stamped_push hst f2) (fun hf=>(hr.fol hf).push hks (key_ok hs hx hkx) (zy hzh) clock) (fun hf=>Sz (zy hzh) (RD.sc _ rfl))⟩;simp [execOp,hop,em',ex,Instr.mapEntry,run_underlying ht,MapKept.run_getObj_map h1,K.check w false hkey,f1,hzr,MapKept.run_setObj_map _ h1,Result.andThen,setBlock,goInt]
    ·rw [qx f3 f5 f8] at hf;cases hf;have hje:es'[j]? = some e0:=by rw [←Array.getElem?_toList];exact f2
     have hmod:es'.modify j (fun e'=>{ e' with key:=key })=es':=by
      apply Array.ext_getElem?
      intro i;rw [Array.getElem?_modify];split
      ·rename_i he;subst he;rw [hje];simp only [Option.map_some,Option.some.injEq];cases e0;simp at f4;subst f4;rfl
      ·rfl
     have hb0:((es'[j]?).map (·.born)).getD 0=x0.2.1:=by rw [hje];exact f6
     refine ⟨W,.tuple #[e0.val,.int .i64 x0.2.1],setBlock w (W.nm b) (.map es' clock),.inl ?_,hs.mE hb h1 hd K hst (fun hf=>hr.fol hf) (fun hf=>Sz (RB.fol hf f7) (RD.sc _ rfl))⟩;simp [execOp,hop,em',ex,Instr.mapEntry,run_underlying ht,MapKept.run_getObj_map h1,K.check w false hkey,f1,hje,f4,f6,hmod,K.stays w hkey,MapKept.run_setObj_map _ h1,Result.andThen,setBlock,goInt]
   ·cases hf
  ·cases hf
 ·cases hf
theorem GN [Bor] (hd:o.dst=none) {t:TypeId} {mo xo vo:Operand} {m x v:PX} (hop:o.op=.entryStore t mo xo vo) (hm:cX mo=some m) (hx:cX xo=some x) (hv:cX vo=some v):Good Try.prog n o (.mest m x v):=by
 intro w0 S0 W s a w r ch hs hf;simp only [PO.fn] at hf;split at hf
 ·rename_i b st u hcm hkx huv;split at hf
  ·rename_i k es clock hb;split at hf
   ·rename_i hcond;obtain ⟨h0,hin⟩:=hcond;cases hf;obtain ⟨K,⟨es',h1,hst,hr⟩,hlv⟩:=mJ hs hb;obtain ⟨em,_⟩:=ku hs hm hcm;have em':a.eval mo=.map (some (W.nm b)):=em;obtain ⟨kk,ex⟩:=dN hs hx hkx;have eu:=MR hs hv huv;obtain ⟨j,x0,g1,g2,g3,g4⟩:=wI (u:=u) hin;obtain ⟨y0,q1,q2,q3,q4,q5⟩:=hr.get' g1;have hje:es'[j]? = some y0:=by rw [←Array.getElem?_toList];exact q1
    have hfi:es'.findIdx? (fun e=>(e.born:Int) == st)=some j:=by
     rw [Array.findIdx?_eq_some_iff_getElem];have hjl:=(Array.getElem?_eq_some_iff.1 hje).1;refine ⟨hjl,?_,fun i hi=>?_⟩
     ·rw [Array.getElem?_eq_getElem hjl] at hje;cases hje;rw [q3,g2];simp;omega
     ·simp only [Bool.not_eq_true,beq_eq_false_iff_ne,ne_eq];intro he;have hil:i < es'.size:=by omega
      have h5:es'.toList[i]? = some es'[i]:=by rw [Array.getElem?_toList];exact Array.getElem?_eq_getElem hil
      have:=wM hst h5 q1 (by rw [q3,g2];omega)
      omega
    rw [hd,g4]
    refine ⟨W,undef,setBlock w (W.nm b) (.map (es'.modify j (fun e'=>{ e' with val:=a.eval vo })) clock),.inr ⟨?_,rfl⟩,hs.mE hb h1 (fun _ h=>by cases h) K (stamped_modify hst _ _ (fun _ _=>rfl) (fun _ _ _=>rfl))
     (fun hf=>(hr.fol hf).set g1 _ (fun y hy=>?_)) (fun _=>trivial)⟩
    ·simp [execOp,hop,em',ex,Instr.entryStore,asInt,asIntOf,MapKept.run_getObj_map h1,hfi,MapKept.run_setObj_map _ h1,Result.andThen,setBlock]
    ·rw [q1] at hy;cases hy;exact ⟨q2,q3,RB.fol hf eu⟩
   ·cases hf
  ·cases hf
 ·cases hf
theorem Es [Bor] (h:Sim w0 S0 n W s a w):∀ (xo:List Operand) (xs:List PX) (l:List (Nat×Nat)),aC (xo.map cX)=some xs→s.hps xs=some l→xo.map a.eval=l.map (pV W)∧∀ p ∈ l,W.lv p.1
 | [],xs,l,h1,h2=>by
   simp [aC] at h1;subst h1;simp [St.hps] at h2;subst h2;exact ⟨rfl,fun p hp=>by cases hp⟩
 | y :: ys,xs,l,h1,h2=>by
   simp only [List.map_cons] at h1
   cases hy:cX y with
   | none=>rw [hy] at h1;simp [aC] at h1
   | some x =>
     rw [hy] at h1;simp only [aC,Option.map_eq_some_iff] at h1;obtain ⟨xs',hxs,rfl⟩:=h1;simp only [St.hps] at h2;split at h2
     ·rename_i b off l' hc hl;cases h2;obtain ⟨i1,i2⟩:=Es h ys xs' l' hxs hl;obtain ⟨e1,e2⟩:=ku h hy hc;refine ⟨by simp only [List.map_cons,i1,e1];rfl,fun p hp=>?_⟩
      rcases List.mem_cons.1 hp with rfl | hp
      ·exact e2
      ·exact i2 p hp
     ·cases h2
theorem JR [Bor] (hd:∀ d,o.dst=some d→d < n) {f:Nat} {fo co:Array Operand} {fx cx:List PX} (hop:o.op=.makeFunc (.func f) fo co) (hf1:aC (fo.toList.map cX)=some fx) (hc1:aC (co.toList.map cX)=some cx):Good Try.prog n o (.mkf f fx cx) :=
 .bJ hd fun w0 S0 W s a w v ch hs hf=>by
  simp only [PO.fn] at hf;split at hf
  ·rename_i la lc h1 h2;cases hf;obtain ⟨e1,q1⟩:=Es hs _ _ _ hf1 h1;obtain ⟨e2,q2⟩:=Es hs _ _ _ hc1 h2;have e1':fo.map a.eval=(la.map (pV W)).toArray:=by apply Array.ext';rw [Array.toList_map,e1]
   have e2':co.map a.eval=(lc.map (pV W)).toArray:=by apply Array.ext';rw [Array.toList_map,e2]
   refine ⟨rfl,.func (.func f) (la.map (pV W)).toArray (lc.map (pV W)).toArray,?_,rfl,rfl,q1,q2⟩;simp [execOp,hop,Instr.makeFunc,e1',e2']
  ·cases hf
theorem BH {v:Value} (h:kOk v=true):RB W G O w (sI v) v:=by
 unfold sI;split
 ·rename_i arr;refine ⟨arr,rfl,by simp,fun i c u e1 e2=>?_⟩;simp only [List.getElem?_map,e2,Option.map_some,Option.some.injEq] at e1;subst e1;exact RD.sc _ (List.all_eq_true.1 h u (List.mem_of_getElem? e2))
 ·rename_i hne;refine RD.sc _ ?_;cases v <;> first | exact h | exact absurd rfl (hne _)
theorem Dz [Bor] (hd:∀ d,o.dst=some d→d < n) {xo:Operand} {x:PX} (hop:o.op=.entry xo) (hx:cX xo=some x):Good Try.prog n o (.entry x) :=
 .bJ hd fun w0 S0 W s a w v ch hs hf=>by
  simp only [PO.fn] at hf;split at hf
  ·rename_i r hc;split at hf
   ·rename_i b since seen c0 hri;split at hf
    ·rename_i k es clock st hb hst0;split at hf
     ·rename_i hclk;subst hclk;simp only [Option.map_eq_some_iff,Prod.mk.injEq] at hf;obtain ⟨e,he,rfl,rfl⟩:=hf;obtain ⟨em,_⟩:=ku hs hx hc;have em':a.eval xo=.pointer (some ⟨W.nm r,0,none⟩):=em;obtain ⟨⟨_,hit⟩,_⟩:=pz hs hri (by simp);obtain ⟨K,⟨es',h1,hst,hr⟩,hlv⟩:=mJ hs hb;obtain ⟨j,hj⟩:=List.getElem?_of_mem (List.mem_of_find?_eq_some he);have hbe:e.2.1=st:=by have:=List.find?_some he;simpa using this
      obtain ⟨y,q1,q2,q3,q4,q5,q6⟩:=hr.get' hj
      have hf2:es'.find? (·.born == st)=some y:=by
       rw [←Array.find?_toList];rw [List.find?_eq_some_iff_getElem];have hjl:=(List.getElem?_eq_some_iff.1 q1).1;refine ⟨by rw [q3,hbe];simp,j,hjl,by rw [List.getElem?_eq_getElem hjl] at q1;exact Option.some.inj q1,fun i hi=>?_⟩
       simp only [Bool.not_eq_true',beq_eq_false_iff_ne,ne_eq];intro hb2;have hil:i < es'.toList.length:=by omega
       have:=wM hst (i:=i) (j:=j) (List.getElem?_eq_getElem hil) q1 (hb2.trans (q3.trans hbe).symm);omega
      have hback:seen.toArray.back? = some st:=by rw [List.back?_toArray];exact hst0
      refine ⟨rfl,.tuple #[y.key,y.val],?_,Sz (by rw [q2];exact BH q6) q4⟩
      simp [execOp,hop,em',Instr.entry,getObj,Sem.run,hit,h1,Result.andThen,hback,hf2]
     ·cases hf
    ·cases hf
   ·cases hf
  ·cases hf
theorem vZ {P:Program} (w:World) (dT sT ty elem:TypeId) {i:TypeInfo} (g o dLen dCap:Nat) (a:Addr) (sLen sCap:Nat) (cur:Array Value) (t:TypeId) (cs:List Value)
 (hu:P.underlying dT=some (.slice elem)) (hi:P.info? elem=some i) (hg:w.heap[g]? = some (.cells cur t (0,0))) (hn:cs.length=Nat.min sLen dLen * i.size)
 (hsrc:∀ j v,cs[j]? = some v→w.cell? (a.add j)=some v) (hfit:o+cs.length≤cur.size) (h1:∀ v ∈ cs,v.oneCell'=true) :
 (Builtin.copy_ #[dT,sT] ty #[.slice (some ⟨g,o,none⟩) dLen dCap,.slice (some a) sLen sCap]).run P w =
  .ok (goInt (Nat.min sLen dLen)) (w.setRow g (cur.toList.take o ++ cs ++ cur.toList.drop (o+cs.length)).toArray):=by
 have hl:=run_loadCells_list (P:=P) w a cs hsrc;have hst:=run_storeCells_at P g o t cs 0 cur w hg (by simpa using hfit) h1;simp [Builtin.copy_,run_underlying hu,Builtin.lenOf,Builtin.firstCells,sizeOf,typeInfo,hi,←hn,hl,hst]
theorem RCs.cut {cs:List Cl} {vs:List Value} (h:RCs W G O w cs vs) (p m:Nat):RCs W G O w ((cs.drop p).take m) ((vs.drop p).take m):=by
 refine ⟨by rw [List.length_take,List.length_take,List.length_drop,List.length_drop,h.1],fun i c u h1 h2=>?_⟩;rw [List.getElem?_take] at h1 h2;split at h1
 ·rename_i hi;rw [if_pos hi] at h2;rw [List.getElem?_drop] at h1 h2;exact h.2 _ _ _ h1 h2
 ·cases h1
theorem JI [Bor] (hd:∀ d,o.dst=some d→d < n) {t t' E:TypeId} {i:TypeInfo} {xo yo:Operand} {x y:PX} {c:Call} (hop:o.op=.call c) (hc:c.callee=.builtin .copy) (ha:c.args=#[xo,yo]) (hat:c.argTypes=#[t,t']) (ht:Try.prog.underlying t=some (.slice E)) (hi:Try.prog.info? E=some i)
 (hx:cX xo=some x) (hy:cX yo=some y):Good Try.prog n o (.cph i.size x y):=by
 intro w0 S0 W s a w v ch hs hf;simp only [PO.fn] at hf;split at hf
 ·rename_i b off ln cp b2 off2 ln2 cp2 hcx hcy;split at hf
  ·rename_i cs cs2 hb hb2;split at hf
   ·rename_i hcond;obtain ⟨g1,g2⟩:=hcond;cases hf;obtain ⟨ex,_⟩:=ku hs hx hcx;obtain ⟨ey,_⟩:=ku hs hy hcy;have ex':a.eval xo=.slice (some ⟨W.nm b,off,none⟩) ln cp:=ex;have ey':a.eval yo=.slice (some ⟨W.nm b2,off2,none⟩) ln2 cp2:=ey;obtain ⟨⟨arr,T,h4,h7⟩,hlv⟩:=pz hs hb (by simp);obtain ⟨⟨yA,T2,k4,k7⟩,hlv2⟩:=pz hs hb2 (by simp);obtain ⟨vals,hvals⟩:∃ l,(yA.toList.drop off2).take (Nat.min ln2 ln * i.size)=l:=⟨_,rfl⟩
    have hl1:cs.length=arr.size:=by have:=h7.1;rw [List.length_map,Array.length_toList] at this;exact this
    have hl2:cs2.length=yA.size:=by have:=k7.1;rw [List.length_map,Array.length_toList] at this;exact this
    have hvl:vals.length=Nat.min ln2 ln * i.size:=by rw [←hvals,List.length_take,List.length_drop,Array.length_toList];omega
    have hcut:∀ {W' G O w'},Fol W s.gen s.ob w W' G O w'→RCs W' G O w' (((cs2.drop off2).take (Nat.min ln2 ln * i.size)).map Hc.cl) vals:=fun hf=>by
     rw [←hvals,List.map_take,List.map_drop];exact (RCs.fol hf k7).cut _ _
    have hone:∀ v ∈ vals,v.oneCell'=true:=fun v hv=>k7.one v (List.mem_of_mem_drop (List.mem_of_mem_take (by rw [←hvals] at hv;exact hv)))
    have hsrc:∀ j v,vals[j]? = some v→w.cell? ((⟨W.nm b2,off2,none⟩:Addr).add j)=some v:=fun j v hj=>by
     have hadd:(⟨W.nm b2,off2,none⟩:Addr).add j=⟨W.nm b2,off2+j,none⟩:=by unfold Addr.add;split <;> simp_all
     rw [hadd];rw [←hvals,List.getElem?_take] at hj;split at hj
     ·rw [List.getElem?_drop,Array.getElem?_toList] at hj;simp [World.cell?,k4,hj]
     ·cases hj
    have hrun:=vZ (P:=Try.prog) w t t' o.type E (W.nm b) off ln cp ⟨W.nm b2,off2,none⟩ ln2 cp2 arr T vals ht hi h4 hvl hsrc (by omega) hone;obtain ⟨arr',harr'⟩:∃ arr',(arr.toList.take off ++ vals ++ arr.toList.drop (off+vals.length)).toArray=arr':=⟨_,rfl⟩
    rw [harr'] at hrun;have hal:arr'.toList=arr.toList.take off ++ vals ++ arr.toList.drop (off+vals.length):=by rw [←harr']
    have hrow:(w.setRow (W.nm b) arr').heap[W.nm b]? = some (.cells arr' T (0,0)):=setRow_heap w _ arr _ T (0,0) h4;have hoth:∀ k,k≠W.nm b→(w.setRow (W.nm b) arr').heap[k]? = w.heap[k]?:=fun k hk=>setRow_other w _ k _ hk
    refine ⟨W,goInt (Nat.min ln2 ln),w.setRow (W.nm b) arr',.inl (bL hop hc Builtin.copy_ (fun _ _ _ _=>rfl) (by rw [ha,hat];simp only [List.map_toArray,List.map_cons,List.map_nil,ex',ey'];exact hrun)),?_⟩
    refine hs.turn hb (by simp) (y:=.cells (iF cs off ((cs2.drop off2).take (Nat.min ln2 ln * i.size)))) (by simp) hd (fun k=>Iff.rfl) ⟨fun k hk=>hoth k (fun e=>hk (by subst e;rfl)),by simp,rfl,rfl,rfl⟩ (fun hf=>?_) (fun _=>RD.sc _ rfl)
    refine ⟨arr',T,hrow,?_⟩;rw [mZ,iZ _ _ _ (by rw [List.length_map,List.length_map,List.length_take,List.length_drop];omega),hal]
    exact (RCs.fol hf h7).splice (hcut hf) (by rw [hvl,Array.length_toList];omega)
   ·cases hf
  ·cases hf
 ·cases hf
end
section
variable {w0:World} {S0:Nat→Nat} {n:Nat} {W:Wit} {s:St} {a:Act} {w:World}
def Wit.lay (W:Wit) (b blk:Nat):Wit:={ W with nm:=up W.nm b blk,lv:=fun m=>m=b∨W.lv m,S:=up W.S blk 0 }
theorem lC [Bor] (hs:Sim w0 S0 n W s a w) {c b:Nat} (hl:s.lay c b):(∃ f,s.ob (HBS+c)=.hp f∧f b=.no)∧¬ W.lv b:=by
 obtain ⟨h1,h2,h3⟩:=hl;have hlv:¬ W.lv b:=fun h=>(hs.lv b).1 h h3
 refine ⟨?_,hlv⟩;unfold St.hb at h3;rw [h1] at h3
 cases hob:s.ob (HBS+c) with
 | hp f=>rw [hob] at h3;exact ⟨f,rfl,h3⟩
 | _=>rw [hob] at h2;cases h2
theorem Sim.lay [Bor] (hs:Sim w0 S0 n W s a w) {c b:Nat} (hl:s.lay c b) {x:Hb} (hx:x≠.no) {ob:Obj} {dst:Option Nat} (hd:∀ d,dst=some d→d < n) {v:Av} {rv':Value}
 (hc:∀ k,hcl (W.lay b w.heap.size) b x k↔w.heap.size=k) (hR:∀ {G O},Fol W s.gen s.ob w (W.lay b w.heap.size) G O (w.alloc ob)→RH (W.lay b w.heap.size) G O (w.alloc ob) b x)
 (hv:∀ {G O},Fol W s.gen s.ob w (W.lay b w.heap.size) G O (w.alloc ob)→RA (W.lay b w.heap.size) G O (w.alloc ob) v rv') :
 Sim w0 S0 n (W.lay b w.heap.size) (s.ap dst v (.hw (HBS+c) [(b,x)])) (a.put dst rv') (w.alloc ob):=by
 obtain ⟨⟨f,hob,hfb⟩,hnl⟩:=lC hs hl;have hro:=hs.ob (HBS+c);rw [hob] at hro;have hro:RP' w0.heap.size W s.gen s.ob w (HBS+c) f:=hro
 have hnm:∀ m,W.lv m→(W.lay b w.heap.size).lv m∧(W.lay b w.heap.size).nm m=W.nm m∧(W.lay b w.heap.size).nv m=W.nv m:=fun m hm=>by
  refine ⟨.inr hm,?_,rfl⟩
  show up W.nm b _ m=_
  rw [ay,if_neg (by rintro rfl;exact hnl hm)]
 have hS:∀ k,k < w.heap.size→(W.lay b w.heap.size).S k=W.S k:=fun k hk=>by
  show up W.S w.heap.size 0 k=_
  rw [ay,if_neg (by omega)]
 have hcl2:∀ m k,m≠b→(hcl (W.lay b w.heap.size) m (f m) k↔hcl W m (f m) k):=fun m k hm=>by
  cases hfm:f m with
  | no=>exact Iff.rfl
  | dead=>exact Iff.rfl
  | cells _=>show up W.nm b _ m=k↔_;rw [ay,if_neg hm];exact Iff.rfl
  | map _ _ _=>show up W.nm b _ m=k↔_;rw [ay,if_neg hm];exact Iff.rfl
  | vec _ _ _=>exact Iff.rfl
  | iter _ _ _ _=>show up W.nm b _ m=k↔_;rw [ay,if_neg hm];exact Iff.rfl
  | ab _=>exact Iff.rfl
 refine hs.part hob hd ⟨rfl,rfl,rfl,rfl,rfl⟩ hS hnm (fun _ _ _=>rfl) ⟨fun k hk _=>iK w _ k hk,by simp,rfl,rfl,rfl⟩ (fun hf=>?_) (fun k ⟨m,hm⟩=>?_) (fun m=>?_) (fun hf=>hv hf)
 ·show RP' _ _ _ _ _ _ (up f b x)
  refine ⟨fun m hn=>?_,fun m hn=>?_,fun m k hk=>?_,fun m=>?_,fun m m' k e1 e2=>?_⟩
  ·rw [ay] at hn;split at hn
   ·rename_i h;subst h;show HBS+W.nc m=_;rw [hs.nc,hl.1]
   ·exact hro.nc m hn
  ·rw [ay] at hn;split at hn
   ·rename_i h;exact .inl h
   ·exact .inr (hro.lv m hn)
  ·rw [ay] at hk;split at hk
   ·rename_i h;subst h;have:=(hc k).1 hk;subst this;refine ⟨.inl hs.below.size,?_,by simp⟩
    show up W.S w.heap.size 0 _=0
    rw [ay,if_pos rfl]
   ·rename_i h;obtain ⟨q1,q2,q3⟩:=hro.mine m k ((hcl2 m k h).1 hk);exact ⟨q1,by rw [hS k q3];exact q2,by simp;omega⟩
  ·rw [ay];split
   ·rename_i h;subst h;exact hR hf
   ·rename_i h
    by_cases hn:f m=.no
    ·rw [hn];trivial
    ·exact RH.fol hf (hro.at_ m) (fun _=>hro.lv m hn) rfl (fun k hk=>iK w _ k (hro.mine m k hk).2.2)
  ·rw [ay] at e1 e2
   by_cases h1:m=b
   ·by_cases h2:m'=b
    ·rw [h1,h2]
    ·rw [if_pos h1] at e1;rw [if_neg h2] at e2;rw [h1] at e1;have:=(hc k).1 e1;have:=(hro.mine m' k ((hcl2 m' k h2).1 e2)).2.2;omega
   ·rw [if_neg h1] at e1
    by_cases h2:m'=b
    ·rw [if_pos h2] at e2;rw [h2] at e2;have:=(hc k).1 e2;have:=(hro.mine m k ((hcl2 m k h1).1 e1)).2.2;omega
    ·rw [if_neg h2] at e2;exact hro.ex m m' k ((hcl2 m k h1).1 e1) ((hcl2 m' k h2).1 e2)
 ·have hm:hcl (W.lay b w.heap.size) m (up f b x m) k:=hm;rw [ay] at hm;split at hm
  ·rename_i h;subst h;exact .inr (Nat.le_of_eq ((hc k).1 hm))
  ·rename_i h;exact .inl ⟨m,(hcl2 m k h).1 hm⟩
 ·show (m=b∨W.lv m)↔(if s.nc m=c then up f b x m else s.hb m)≠.no
  rw [hs.lv m]
  by_cases h:m=b
  ·subst h;rw [if_pos hl.1,ay,if_pos rfl];exact ⟨fun _=>hx,fun _=>.inl rfl⟩
  ·by_cases h2:s.nc m=c
   ·rw [if_pos h2,ay,if_neg h];have:s.hb m=f m:=by unfold St.hb;rw [h2,hob];rfl
    rw [this];exact ⟨fun h3=>h3.resolve_left h,.inr⟩
   ·rw [if_neg h2];exact ⟨fun h3=>h3.resolve_left h,.inr⟩
theorem fO {b blk:Nat}:(W.lay b blk).nm b=blk:=by show up W.nm b blk b=blk;rw [ay,if_pos rfl]
theorem sV {b blk:Nat}:(W.lay b blk).lv b:=.inl rfl
theorem Je {P:Prop} {G:Nat→Nat} {O:Nat→Ob} {l:List Value} (h:∀ v ∈ l,v.oneCell'=true):RCs W G O w ((l.map fun v=>Hc.d (.sc v)).map Hc.cl) l:=by
 refine ⟨by simp,fun i c u e1 e2=>?_⟩;simp only [List.getElem?_map,e2,Option.map_some,Option.some.injEq] at e1;subst e1;exact RD.sc _ (h u (List.mem_of_getElem? e2))
theorem eH {P:Program} {o:Oper} {Q:Exit→Act→World→Prop} {K':Act→World→Prop} {rv':Value} {w':World} (h:(execOp a.eval o).run P w=.ok (.value rv') w') (hk:K' (a.put o.dst rv') w'):o.wp P a w K' Q:=by
 unfold Oper.wp;rw [h];exact hk
variable {o:Oper} {Q:Exit→Act→World→Prop} {K:Av→Cg→Prop} {K':Act→World→Prop}
theorem Pm [Bor] (hs:Sim w0 S0 n W s a w) (hd:∀ d,o.dst=some d→d < n) {t:TypeId} {i:TypeInfo} {z:Value} {c:Nat} (hop:o.op=.alloc t) (hi:Try.prog.info? t=some i) (hz:i.zero=some z) (hone:∀ v ∈ z.cells.toList,v.oneCell'=true)
 (hK:∀ v ch W' a' w',K v ch→Sim w0 S0 n W' (s.ap o.dst v ch) a' w'→K' a' w') (hg:rW s c K (.new z.cells.toList)):o.wp Try.prog a w K' Q:=by
 obtain ⟨b,hl,hk⟩:=hg;refine eH (rv':=.pointer (some ⟨w.heap.size,0,none⟩)) (w':=w.alloc (.cells z.cells t)) (by simp [execOp,hop,Instr.alloc,zeroValue,typeInfo,hi,hz,newVar,newRow]) (hK _ _ _ _ _ hk (hs.lay hl (by simp) hd (fun k=>by show (W.lay b w.heap.size).nm b=k↔_;rw [fO]) (fun hf=>⟨z.cells,t,by rw [fO];exact heap_alloc_new w _,Je (P:=True) hone⟩) (fun hf=>⟨by show _=Value.pointer (some ⟨(W.lay b w.heap.size).nm b,0,none⟩);rw [fO],rfl,sV⟩)))
theorem Pg [Bor] (hs:Sim w0 S0 n W s a w) (hd:∀ d,o.dst=some d→d < n) {t:TypeId} {xo:Operand} {x:PX} {c:Nat} (hop:o.op=.box t xo) (hx:cX xo=some x)
 (hK:∀ v ch W' a' w',K v ch→Sim w0 S0 n W' (s.ap o.dst v ch) a' w'→K' a' w') (hg:rW s c K (.box x)):o.wp Try.prog a w K' Q:=by
 obtain ⟨l,hl0,b,hl,hk⟩:=aj.1 hg;obtain ⟨cs,hcs,hh⟩:=Option.bind_eq_some_iff.1 hl0;have hr:=(yX hs hx hcs).hcs hh;refine eH (rv':=.pointer (some ⟨w.heap.size,0,none⟩)) (w':=w.alloc (.cells (a.eval xo).cells t)) (by simp [execOp,hop,Instr.box,newVar,newRow]) (hK _ _ _ _ _ hk (hs.lay hl (by simp) hd (fun k=>by show (W.lay b w.heap.size).nm b=k↔_;rw [fO]) (fun hf=>⟨_,t,by rw [fO];exact heap_alloc_new w _,RCs.fol hf hr⟩) (fun hf=>⟨by show _=Value.pointer (some ⟨(W.lay b w.heap.size).nm b,0,none⟩);rw [fO],rfl,sV⟩)))
theorem Si [Bor] (hs:Sim w0 S0 n W s a w) (hd:∀ d,o.dst=some d→d < n) {t E:TypeId} {i:TypeInfo} {z:Value} {lo co:Operand} {l m:PX} {c:Nat} (hop:o.op=.makeSlice t lo co) (ht:Try.prog.underlying t=some (.slice E)) (hi:Try.prog.info? E=some i) (hz:i.zero=some z) (hzs:z.cells.size=i.size) (hone:∀ v ∈ z.cells.toList,v.oneCell'=true)
 (hl:cX lo=some l) (hc:cX co=some m) (hK:∀ v ch W' a' w',K v ch→Sim w0 S0 n W' (s.ap o.dst v ch) a' w'→K' a' w') (hg:rW s c K (.mk i.size i.bytes z.cells.toList l m)):o.wp Try.prog a w K' Q:=by
 obtain ⟨lv,h1,hg⟩:=aj.1 hg;obtain ⟨cv,h2,⟨h0,rfl,hbd,hby⟩,b,hlay,hk⟩:=aj.1 hg;obtain ⟨kl,e1⟩:=dN hs hl h1;obtain ⟨kc,e2⟩:=dN hs hc h2
 have hbytes:(i.bytes:Int) * lv≤281474976710656:=by
  have h3:i.bytes * lv.toNat≤1000000 * 1000000:=Nat.mul_le_mul hby (by omega);have h4:(i.bytes:Int) * lv=((i.bytes * lv.toNat:Nat):Int):=by rw [Int.natCast_mul,Int.toNat_of_nonneg h0]
  omega
 have hr:=run_make (P:=Try.prog) w t E i z ht hi hz kl kc lv lv h0 (Int.le_refl _) hbytes (by omega);refine eH (rv':=.slice (some ⟨w.heap.size,0,none⟩) lv.toNat lv.toNat) (w':=w.alloc (.cells (madeCells z.cells (lv.toNat * i.size)) E)) (by simp only [execOp,hop,e1,e2,Sem.run_bind,hr,Result.andThen_ok,Sem.run_pure]) (hK _ _ _ _ _ hk (hs.lay hlay (by simp) hd (fun k=>by show (W.lay b w.heap.size).nm b=k↔_;rw [fO]) (fun hf=>?_) (fun hf=>⟨by show _=Value.slice (some ⟨(W.lay b w.heap.size).nm b,0,none⟩) lv.toNat lv.toNat;rw [fO],rfl,sV,Nat.le_refl _,by unfold maxLen;omega⟩)))
 refine ⟨_,E,by rw [fO];exact heap_alloc_new w _,by simp [size_madeCells],fun k c u h3 h4=>?_⟩
 have hk:=(List.getElem?_eq_some_iff.1 h3).1;simp only [List.map_map,List.length_map,List.length_range] at hk
 have hpos:0 < i.size:=by
  rcases Nat.eq_zero_or_pos i.size with h | h
  ·rw [h,Nat.mul_zero] at hk;omega
  ·exact h
 have hmod:k % i.size < z.cells.size:=by rw [hzs];exact Nat.mod_lt _ hpos
 rw [List.map_map,List.getElem?_map,List.getElem?_range hk] at h3;simp only [Option.map_some,Option.some.injEq,Function.comp] at h3;subst h3;simp only [madeCells,Array.toList_map,List.getElem?_map,Array.toList_range,List.getElem?_range hk,Option.map_some,Option.some.injEq] at h4;subst h4
 have he:z.cells.toList.getD (k % i.size) undef=z.cells[k % z.cells.size]!:=by
  rw [hzs,List.getD_eq_getElem?_getD,Array.getElem?_toList,getElem!_pos z.cells _ (by rw [←hzs] at hmod ⊢;exact hmod),Array.getElem?_eq_getElem hmod];rfl
 rw [he];refine RD.sc _ (hone _ ?_);rw [hzs,getElem!_pos z.cells _ hmod];exact Array.getElem_mem_toList hmod
theorem Pj [Bor] (hs:Sim w0 S0 n W s a w) (hd:∀ d,o.dst=some d→d < n) {t k:TypeId} {c:Nat} (hop:o.op=.makeMap t none)
 (hK:∀ v ch W' a' w',K v ch→Sim w0 S0 n W' (s.ap o.dst v ch) a' w'→K' a' w') (hg:rW s c K (.map k)):o.wp Try.prog a w K' Q:=by
 obtain ⟨hk0,b,hl,hk⟩:=hg;refine eH (rv':=.map (some w.heap.size)) (w':=w.alloc (.map #[] 0)) (by simp [execOp,hop,run_makeMap]) (hK _ _ _ _ _ hk (hs.lay hl (by simp) hd (fun k=>by show (W.lay b w.heap.size).nm b=k↔_;rw [fO]) (fun hf=>⟨hk0,#[],by rw [fO];exact heap_alloc_new w _,stamped_empty 0,rfl,fun i x y h=>by simp at h⟩) (fun hf=>⟨by show _=Value.map (some ((W.lay b w.heap.size).nm b));rw [fO],rfl,sV⟩)))
theorem Lp [Bor] (hs:Sim w0 S0 n W s a w) (hd:∀ d,o.dst=some d→d < n) {t k e:TypeId} {c:Nat} {xo:Operand} {x:PX} (hop:o.op=.makeMap t (some xo)) (ht:Try.prog.underlying t=some (.map k e)) (hx:cX xo=some x)
 (hK:∀ v ch W' a' w',K v ch→Sim w0 S0 n W' (s.ap o.dst v ch) a' w'→K' a' w') (hg:rW s c K (.mapn k x)):o.wp Try.prog a w K' Q:=by
 obtain ⟨m,hm,hk0,b,hl,hk⟩:=aj.1 hg;obtain ⟨kk,hkk⟩:=dN hs hx hm;refine eH (rv':=.map (some w.heap.size)) (w':=w.alloc (.map #[] 0)) (by simp [execOp,hop,Instr.makeMap,run_underlying ht,asInt,asIntOf,hkk]) (hK _ _ _ _ _ hk (hs.lay hl (by simp) hd (fun k=>by show (W.lay b w.heap.size).nm b=k↔_;rw [fO]) (fun hf=>⟨hk0,#[],by rw [fO];exact heap_alloc_new w _,stamped_empty 0,rfl,fun i x y h=>by simp at h⟩) (fun hf=>⟨by show _=Value.map (some ((W.lay b w.heap.size).nm b));rw [fO],rfl,sV⟩)))
theorem Ir [Bor] (hs:Sim w0 S0 n W s a w) (hd:∀ d,o.dst=some d→d < n) {t k e:TypeId} {mo:Operand} {m:PX} {c:Nat} (hop:o.op=.range t mo) (ht:Try.prog.underlying t=some (.map k e)) (hm:cX mo=some m)
 (hK:∀ v ch W' a' w',K v ch→Sim w0 S0 n W' (s.ap o.dst v ch) a' w'→K' a' w') (hg:rW s c K (.range m)):o.wp Try.prog a w K' Q:=by
 obtain ⟨bm,h1,hg⟩:=aj.1 hg;obtain ⟨clock,h2,b,hl,hk⟩:=aj.1 hg
 have hcm:s.cl m=.hv (.m bm):=by
  unfold mapOf at h1;split at h1
  ·rename_i b' he;cases h1;exact he
  ·cases h1
 obtain ⟨k',es,hbm⟩:∃ k' es,s.hb bm=.map k' es clock:=by
  unfold P9 at h2;split at h2
  ·rename_i k' es c' he;cases h2;exact ⟨k',es,he⟩
  ·cases h2
 obtain ⟨K0,⟨es',g1,hst,hr⟩,hlv⟩:=mJ hs hbm;obtain ⟨em,_⟩:=ku hs hm hcm;have em':a.eval mo=.map (some (W.nm bm)):=em;obtain ⟨_,hnl⟩:=lC hs hl;have hne:(W.lay b w.heap.size).nm bm=W.nm bm:=by show up W.nm b _ bm=_;rw [ay,if_neg (by rintro rfl;exact hnl hlv)]
 refine eH (rv':=.pointer (some ⟨w.heap.size,0,none⟩)) (w':=w.alloc (.mapIter (some (W.nm bm)) clock #[] clock)) (by simp [execOp,hop,em',run_range_map w t k e _ _ _ ht g1]) (hK _ _ _ _ _ hk (hs.lay hl (by simp) hd (fun k=>by show (W.lay b w.heap.size).nm b=k↔_;rw [fO]) (fun hf=>⟨.inr hlv,by rw [fO,hne];exact heap_alloc_new w _⟩) (fun hf=>⟨by show _=Value.pointer (some ⟨(W.lay b w.heap.size).nm b,0,none⟩);rw [fO],rfl,sV⟩)))
theorem Pn [Bor] (hs:Sim w0 S0 n W s a w) (hd:∀ d,o.dst=some d→d < n) {xo:Operand} {x:PX} (hop:o.op=.next xo false) (hx:cX xo=some x)
 (hK:∀ v ch W' a' w',K v ch→Sim w0 S0 n W' (s.ap o.dst v ch) a' w'→K' a' w') (hg:IV s (s.cl x) K):o.wp Try.prog a w K' Q:=by
 obtain ⟨r,h1,hg⟩:=aj.1 hg;obtain ⟨⟨b,since,seen,c0⟩,h2,hg⟩:=aj.1 hg;obtain ⟨⟨es,clock⟩,h3,hg⟩:=aj.1 hg;dsimp only at h3 hg;obtain ⟨⟨q1,q2,q3⟩,q4,q5⟩:=hg
 have hcx:s.cl x=.hv (.p r 0):=by
  unfold Md at h1;split at h1
  ·rename_i b' he;cases h1;exact he
  ·cases h1
 have hri:s.hb r=.iter b since seen c0:=by
  unfold iterAt at h2;split at h2
  ·rename_i he;cases h2;exact he
  ·cases h2
 obtain ⟨k',hbm⟩:∃ k',s.hb b=.map k' es clock:=by
  unfold Qa at h3;split at h3
  ·rename_i k' es c' he;cases h3;exact ⟨k',he⟩
  ·cases h3
 obtain ⟨K0,⟨es',g1,hst,hr⟩,hlv⟩:=mJ hs hbm;obtain ⟨em,_⟩:=ku hs hx hcx;have em':a.eval xo=.pointer (some ⟨W.nm r,0,none⟩):=em;obtain ⟨⟨_,hit⟩,hlr⟩:=pz hs hri (by simp)
 have hold:∀ y ∈ es'.toList,y.born < since:=fun y hy=>by
  obtain ⟨j,hj⟩:=List.getElem?_of_mem hy;obtain ⟨z,g2,_,g3,_⟩:=hr.get hj;rw [g3];exact q1 z (List.mem_of_getElem? g2)
 have hcont:∀ y:MapEntry,seen.toArray.contains y.born=seen.contains y.born:=fun y=>by simp
 rcases run_next_at (P:=Try.prog) w o.type (W.nm r) (W.nm b) since c0 seen.toArray es' clock hit g1 hold q2 with ⟨hz,hrun⟩ | ⟨y,hy,w1,hw1,hrun⟩
 ·refine eH (rv':=.tuple #[.bool false]) (w':=w) (by simp [execOp,hop,em',hrun]) (hK _ _ _ _ _ (q4 fun e he=>?_) (hs.put hd ⟨#[.bool false],rfl,rfl,fun i x u e1 e2=>by
   match i with
   | 0=>simp at e1 e2;subst e1;subst e2;exact RD.sc _ rfl
   | i+1=>simp at e1⟩))
  obtain ⟨j,hj⟩:=List.getElem?_of_mem he;obtain ⟨z,g2,_,g3,_⟩:=hr.get' hj
  have hnot:z ∉ (leftOf es' seen.toArray).toList:=by
   have:leftOf es' seen.toArray=#[]:=Array.eq_empty_of_size_eq_zero hz;rw [this];simp
  have hmem:=List.mem_of_getElem? g2;unfold leftOf at hnot;simp only [Array.toList_filter,List.mem_filter,not_and,Bool.not_eq_true',Bool.not_eq_false] at hnot;have:=hnot hmem;rw [g3] at this
  simpa using this
 ·unfold leftOf at hy;simp only [Array.toList_filter,List.mem_filter,Bool.not_eq_true'] at hy;obtain ⟨j,hj⟩:=List.getElem?_of_mem hy.1;obtain ⟨e,g2,g3,g4,g5,_,g6⟩:=hr.get hj;have hns:seen.contains e.2.1=false:=by rw [←g4,←hcont];exact hy.2
  have hk:=q5 e (List.mem_of_getElem? g2) hns
  have hs1:Sim w0 S0 n W s a w1:=by
   rcases hw1 with rfl | rfl
   ·exact hs
   ·exact hs.drew _
  have hheap:w1.heap=w.heap:=by rcases hw1 with rfl | rfl <;> rfl
  have hset:=heap_set (w:=w1) (r:=W.nm r) (o:=.mapIter (some (W.nm b)) since seen.toArray c0) (o':=.mapIter (some (W.nm b)) since (seen.toArray.push y.born) clock) (by rw [hheap];exact hit)
  refine eH (rv':=.tuple #[.bool true,y.key,y.val]) (w':=setBlock w1 (W.nm r) (.mapIter (some (W.nm b)) since (seen.toArray.push y.born) clock)) (by simp [execOp,hop,em',hrun]) (hK _ _ W _ _ hk ?_);refine hs1.turn hri (by simp) (y:=.iter b since (seen ++ [e.2.1]) clock) (by simp) hd (fun _=>Iff.rfl) ⟨fun i hi=>hset.2 i (fun e=>hi (by subst e;rfl)),by simp [setBlock],rfl,rfl,rfl⟩ (fun hf=>⟨hlv,?_⟩) (fun hf=>?_)
  ·show (w1.heap.setIfInBounds (W.nm r) _)[W.nm r]? = _
   rw [hset.1,←g4];simp
  ·have hk2:∀ G O w,RB W G O w (sI e.1) y.key:=fun _ _ _=>by rw [g3];exact BH g6
   have hv2:=RB.fol hf (show RB W s.gen s.ob w1 e.2.2.bv y.val from by rcases hw1 with rfl | rfl;exact g5;exact RB.fol (Fol.same (w:=w) (w':=w.drew) rfl) g5)
   refine ⟨#[.bool true,y.key,y.val],rfl,rfl,fun i x u e1 e2=>?_⟩
   match i with
   | 0=>simp at e1 e2;subst e1;subst e2;exact RD.sc _ rfl
   | 1=>simp at e1 e2;subst e1;subst e2;exact hk2 _ _ _
   | 2=>simp at e1 e2;subst e1;subst e2;exact hv2
   | i+3=>simp at e1
def Wit.mP (W:Wit) (b:Nat) (v':Value) (top:Nat):Wit:={ W with nm:=up W.nm b (v'.ownBlock.getD 0),nv:=up W.nv b v',lv:=fun m=>m=b∨W.lv m,S:=up W.S top 0 }
theorem rO {t E:Nat} {ei:TypeInfo} {ze:Value} (ht:Try.prog.underlying t=some (.slice E)) (hi:Try.prog.info? E=some ei) (hze:ei.zero=some ze) (hzs:ze.cells.size=ei.size) (hsz:0 < ei.size) (ty:TypeId)
 {v0:Value} {m:Nat} {xs:List Value} (hown:bI w 0 E ei.size v0 m xs) {A:Option Addr} {m2 cap2:Nat} {vs:List Value} (e3:vs.length=m2 * ei.size) (e4:∀ u ∈ vs,u.oneCell'=true)
 (e6:m2=0∨∃ b o,A=some ⟨b,o,none⟩∧∀ j u,vs[j]? = some u→w.cell? ⟨b,o+j,none⟩=some u) (hbd:m+m2≤1000000) (hby:ei.bytes≤1000000) :
 ∃ v' w',(Builtin.append_ #[t,t] ty #[v0,.slice A m2 cap2]).run Try.prog w=.ok v' w'∧bI w' 0 E ei.size v' (m+m2) (xs ++ vs) ∧
   w.grownBy w' v0.ownBlock∧(v'.ownBlock=v0.ownBlock∨v'.ownBlock=some w.heap.size):=by
 have hbytes:(m+m2) * ei.bytes≤140737488355328:=Nat.le_trans (Nat.mul_le_mul hbd hby) (by omega)
 rcases Nat.eq_zero_or_pos m2 with hz | hp
 ·subst hz;have hv0:vs=[]:=List.eq_nil_of_length_eq_zero (by rw [e3];simp)
  subst hv0
  obtain ⟨B,cap,hB,hBc⟩:∃ B cap,v0=.slice B m cap∧m≤cap:=by
   rcases hown.2 with ⟨h1,h2⟩ | ⟨g,cap,cur,fz,h1,_,_,h4,_⟩
   ·exact ⟨none,0,by rw [h1,h2],by omega⟩
   ·exact ⟨_,cap,h1,h4⟩
  refine ⟨v0,w,?_,by simpa using hown,⟨rfl,rfl,rfl,Nat.le_refl _,fun _ _ _=>rfl⟩,.inl rfl⟩;rw [hB];exact jf ht hi _ _ _ _ _ _ hBc w
 ·obtain ⟨b,off,rfl,e7⟩:∃ b o,A=some ⟨b,o,none⟩∧∀ j u,vs[j]? = some u→w.cell? ⟨b,o+j,none⟩=some u:=by
   rcases e6 with e6 | e6
   ·omega
   ·exact e6
  have hnv:∀ (j:Nat) u,vs[j]? = some u→w.cell? ((⟨b,off,none⟩:Addr).add j)=some u:=fun j u hj=>by rw [addr_add];exact e7 j u hj
  obtain ⟨v',w',h1,h2,h3,_,h5⟩:=oO (P:=Try.prog) w 0 t ty E ei ze ei.size ei.bytes ht hi hze rfl rfl hzs hsz v0 m xs hown ⟨b,off,none⟩ m2 cap2 vs e3 hnv e4 (by unfold maxLen;omega) hbytes (Nat.zero_le _)
  exact ⟨v',w',h1,h2,h3,h5⟩
theorem NQ {S:Nat→Nat} {w:World} {news:List (List Dt)} {vy:Value} {sz:Nat} (hy:RD S w (.im news) vy) (hnsz:∀ r,r ∈ news→r.length=sz):∃ (A:Option Addr) (cap2:Nat) (vs:List Value),vy=.slice A news.length cap2∧vs.length=news.length * sz∧(∀ u ∈ vs,u.oneCell'=true) ∧
 (news.length=0∨∃ b o,A=some ⟨b,o,none⟩∧∀ j u,vs[j]? = some u→w.cell? ⟨b,o+j,none⟩=some u)∧∀ i r j x,news[i]? = some r→r[j]? = some x→∃ u,vs[i * sz+j]? = some u∧RD S w x u:=by
 obtain ⟨A,cap2,vs,e0,e1,e2,e3,e4,e5,e6⟩:=hy.flat hnsz;refine ⟨A,cap2,vs,e0,e3,e4,?_,e5⟩
 rcases e6 with e6 | ⟨b,o,h1,h2⟩
 ·exact .inl (by rw [e6];rfl)
 ·exact .inr ⟨b,o,h1,fun j u hj=>(h2 j u hj).1⟩
theorem AL {W:Wit} {w:World} {b E sz:Nat} {rows:List (List Dt)} (h:I4 W w b E sz rows):∃ (A:Option Addr) (cap2:Nat) (vs:List Value),W.nv b=.slice A rows.length cap2∧vs.length=rows.length * sz∧(∀ u ∈ vs,u.oneCell'=true) ∧
 (rows.length=0∨∃ b o,A=some ⟨b,o,none⟩∧∀ j u,vs[j]? = some u→w.cell? ⟨b,o+j,none⟩=some u)∧∀ i r j x,rows[i]? = some r→r[j]? = some x→∃ u,vs[i * sz+j]? = some u∧RD W.S w x u:=by
 obtain ⟨xs,g1,g2,g3,_⟩:=h
 have hone:∀ u ∈ xs,u.oneCell'=true:=fun u hu=>by
  obtain ⟨k,hk,rfl⟩:=List.getElem_of_mem hu
  have hpos:0 < sz:=by
   rcases Nat.eq_zero_or_pos sz with h0 | h0
   ·rw [g1.1,h0,Nat.mul_zero] at hk;omega
   ·exact h0
  have hi:k / sz < rows.length:=by
   rw [Nat.div_lt_iff_lt_mul hpos];rw [g1.1] at hk;exact hk
  have hr:=List.getElem?_eq_getElem hi;have hj:k % sz < rows[k / sz].length:=by rw [g2 _ (List.getElem_mem _)];exact Nat.mod_lt _ hpos
  obtain ⟨u,q1,q2⟩:=g3 _ _ _ _ hr (List.getElem?_eq_getElem hj);have he:k / sz * sz+k % sz=k:=by rw [Nat.mul_comm];exact Nat.div_add_mod k sz
  rw [he,List.getElem?_eq_getElem hk] at q1;cases q1;exact q2.one
 rcases g1.2 with ⟨h1,h2⟩ | ⟨g,cap,cur,fz,h1,_,_,h4,_⟩
 ·exact ⟨none,0,xs,by rw [h1,h2],g1.1,hone,.inl h2,g3⟩
 ·refine ⟨_,cap,xs,h1,g1.1,hone,.inr ⟨g,0,rfl,fun j u hj=>?_⟩,g3⟩;have:=g1.cells (g:=g) (by rw [h1];rfl) j u hj
  rw [addr_add] at this;exact this
theorem KR {S:Nat→Nat} {sz:Nat} {rows news:List (List Dt)} {xs ys:List Value} (hxl:xs.length=rows.length * sz) (hr:∀ i r j x,rows[i]? = some r→r[j]? = some x→∃ u,xs[i * sz+j]? = some u∧RD S w x u)
 (hn:∀ i r j x,news[i]? = some r→r[j]? = some x→∃ u,ys[i * sz+j]? = some u∧RD S w x u):∀ i r j x,(rows ++ news)[i]? = some r→r[j]? = some x→∃ u,(xs ++ ys)[i * sz+j]? = some u∧RD S w x u:=by
 intro i r j x h1 h2
 by_cases hi:i < rows.length
 ·rw [List.getElem?_append_left hi] at h1;obtain ⟨u,h3,h4⟩:=hr i r j x h1 h2;exact ⟨u,by rw [List.getElem?_append_left (List.getElem?_eq_some_iff.1 h3).1];exact h3,h4⟩
 ·rw [List.getElem?_append_right (by omega)] at h1;obtain ⟨u,h3,h4⟩:=hn _ r j x h1 h2;refine ⟨u,?_,h4⟩
  have hge:xs.length≤i * sz+j:=by
   rw [hxl];exact Nat.le_trans (Nat.mul_le_mul_right _ (by omega)) (Nat.le_add_right _ _)
  rw [List.getElem?_append_right hge,hxl,show i * sz+j - rows.length * sz=(i - rows.length) * sz+j by
   rw [Nat.sub_mul];have:rows.length * sz≤i * sz:=Nat.mul_le_mul_right _ (by omega);omega]
  exact h3
def PV:Option Nat→List (Nat×Hb)
 | some o=>[(o,.dead)]
 | none=>[]
theorem Sim.vec [Bor] (hs:Sim w0 S0 n W s a w) {c b E sz:Nat} (hl:s.lay c b) {f:Nat→Hb} (hob:s.ob (HBS+c)=.hp f) {old:Option Nat} {v0 v':Value} {w':World} {rows:List (List Dt)} {xs:List Value} {dst:Option Nat} (hd:∀ d,dst=some d→d < n)
 (hold:(old=none∧v0.ownBlock=none)∨∃ o E' sz' rows',old=some o∧f o=.vec E' sz' rows'∧v0=W.nv o) (hown:bI w' 0 E sz v' rows.length xs) (hrs:∀ r ∈ rows,r.length=sz)
 (hrd:∀ i r j x,rows[i]? = some r→r[j]? = some x→∃ u,xs[i * sz+j]? = some u∧RD W.S w x u) (hg:w.grownBy w' v0.ownBlock) (hv:v'.ownBlock=v0.ownBlock∨v'.ownBlock=some w.heap.size) :
 Sim w0 S0 n (W.mP b v' w.heap.size) (s.ap dst (.b (.one (.hv (.v b)))) (.hw (HBS+c) (PV old ++ [(b,.vec E sz rows)]))) (a.put dst v') w':=by
 obtain ⟨⟨f',hob',hfb⟩,hnl⟩:=lC hs hl;rw [hob] at hob';cases hob';have hro:=hs.ob (HBS+c);rw [hob] at hro;have hro:RP' w0.heap.size W s.gen s.ob w (HBS+c) f:=hro
 have hnm:∀ m,W.lv m→(W.mP b v' w.heap.size).lv m∧(W.mP b v' w.heap.size).nm m=W.nm m∧(W.mP b v' w.heap.size).nv m=W.nv m:=fun m hm=>by
  have hne:m≠b:=by rintro rfl;exact hnl hm
  refine ⟨.inr hm,?_,?_⟩
  ·show up W.nm b _ m=_;rw [ay,if_neg hne]
  ·show up W.nv b _ m=_;rw [ay,if_neg hne]
 have hS:∀ k,k < w.heap.size→(W.mP b v' w.heap.size).S k=W.S k:=fun k hk=>by
  show up W.S w.heap.size 0 k=_
  rw [ay,if_neg (by omega)]
 have hnvb:(W.mP b v' w.heap.size).nv b=v':=by show up W.nv b v' b=v';rw [ay,if_pos rfl]
 have hnmb:(W.mP b v' w.heap.size).nm b=v'.ownBlock.getD 0:=by show up W.nm b _ b=_;rw [ay,if_pos rfl]
 have hcl2:∀ m k,m≠b→(hcl (W.mP b v' w.heap.size) m (f m) k↔hcl W m (f m) k):=fun m k hm=>by
  have e1:(W.mP b v' w.heap.size).nm m=W.nm m:=by show up W.nm b _ m=_;rw [ay,if_neg hm]
  have e2:(W.mP b v' w.heap.size).nv m=W.nv m:=by show up W.nv b _ m=_;rw [ay,if_neg hm]
  cases hfm:f m with
  | no=>exact Iff.rfl
  | dead=>exact Iff.rfl
  | cells _=>show (W.mP b v' w.heap.size).nm m=k↔_;rw [e1];exact Iff.rfl
  | map _ _ _=>show (W.mP b v' w.heap.size).nm m=k↔_;rw [e1];exact Iff.rfl
  | vec _ _ _=>show ((W.mP b v' w.heap.size).nv m).ownBlock=some k↔_;rw [e2];exact Iff.rfl
  | iter _ _ _ _=>show (W.mP b v' w.heap.size).nm m=k↔_;rw [e1];exact Iff.rfl
  | ab _=>exact Iff.rfl
 -- the old block belongs to the old vector alone
 have hold0:∀ k,v0.ownBlock=some k→∃ o,old=some o∧hcl W o (f o) k:=fun k hk=>by
  rcases hold with ⟨_,h⟩ | ⟨o,E',sz',rows',h1,h2,h3⟩
  ·rw [h] at hk;cases hk
  ·exact ⟨o,h1,by rw [h2];show (W.nv o).ownBlock=some k;rw [←h3];exact hk⟩
 obtain ⟨F,hF⟩:∃ F,upl f (PV old ++ [(b,.vec E sz rows)])=F:=⟨_,rfl⟩
 have hFb:F b=.vec E sz rows:=by
  rw [←hF]
  cases old with
  | none=>show up f b _ b=_;rw [ay,if_pos rfl]
  | some o=>show up (up f o .dead) b _ b=_;rw [ay,if_pos rfl]
 have hFo:∀ m,m≠b→(old=some m→F m=.dead)∧(old≠some m→F m=f m):=fun m hm=>by
  rw [←hF]
  cases old with
  | none=>exact ⟨(fun h=>by cases h),fun _=>by show up f b _ m=_;rw [ay,if_neg hm]⟩
  | some o =>
    refine ⟨fun h=>?_,fun h=>?_⟩
    ·cases h;show up (up f m .dead) b _ m=_;rw [ay,if_neg hm,ay,if_pos rfl]
    ·show up (up f o .dead) b _ m=_;rw [ay,if_neg hm,ay,if_neg (by rintro rfl;exact h rfl)]
 have hclF:∀ m k,m≠b→hcl (W.mP b v' w.heap.size) m (F m) k→old≠some m∧hcl W m (f m) k:=fun m k hm hk=>by
  by_cases ho:old=some m
  ·rw [(hFo m hm).1 ho] at hk;exact hk.elim
  ·rw [(hFo m hm).2 ho] at hk;exact ⟨ho,(hcl2 m k hm).1 hk⟩
 have hclb:∀ k,hcl (W.mP b v' w.heap.size) b (F b) k→v'.ownBlock=some k:=fun k hk=>by
  rw [hFb] at hk;have:((W.mP b v' w.heap.size).nv b).ownBlock=some k:=hk
  rwa [hnvb] at this
 have hlive:∀ m,W.lv m↔s.hb m≠.no:=hs.lv
 refine hs.part hob hd ⟨rfl,rfl,rfl,rfl,rfl⟩ hS hnm (fun _ _ _=>rfl) ⟨fun k hk hn=>hg.block k hk (fun e=>?_),hg.size,hg.os,hg.tape,hg.output⟩ (fun hf=>?_) (fun k ⟨m,hm⟩=>?_) (fun m=>?_) (fun hf=>?_)
 ·obtain ⟨o,h1,h2⟩:=hold0 k e.symm;exact hn ⟨o,h2⟩
 ·rw [hF] at hf ⊢;refine ⟨fun m hn=>?_,fun m hn=>?_,fun m k hk=>?_,fun m=>?_,fun m m' k e1 e2=>?_⟩
  ·by_cases h:m=b
   ·subst h;show HBS+W.nc m=_;rw [hs.nc,hl.1]
   ·by_cases ho:old=some m
    ·rcases hold with ⟨h1,_⟩ | ⟨o,E',sz',rows',h1,h2,h3⟩
     ·rw [h1] at ho;cases ho
     ·rw [h1] at ho;cases ho;exact hro.nc m (by rw [h2];simp)
    ·rw [(hFo m h).2 ho] at hn;exact hro.nc m hn
  ·by_cases h:m=b
   ·exact .inl h
   ·by_cases ho:old=some m
    ·rcases hold with ⟨h1,_⟩ | ⟨o,E',sz',rows',h1,h2,h3⟩
     ·rw [h1] at ho;cases ho
     ·rw [h1] at ho;cases ho;exact .inr (hro.lv m (by rw [h2];simp))
    ·rw [(hFo m h).2 ho] at hn;exact .inr (hro.lv m hn)
  ·by_cases h:m=b
   ·subst h;have hk':=hclb k hk
    rcases hv with h1 | h1
    ·rw [hk'] at h1;obtain ⟨o,_,h2⟩:=hold0 k h1.symm;obtain ⟨q1,q2,q3⟩:=hro.mine o k h2;exact ⟨q1,by rw [hS k q3];exact q2,Nat.lt_of_lt_of_le q3 hg.size⟩
    ·rw [hk'] at h1;cases h1;refine ⟨.inl hs.below.size,?_,?_⟩
     ·show up W.S w.heap.size 0 _=0
      rw [ay,if_pos rfl]
     ·exact (hown.lt _ hk').2
   ·obtain ⟨_,h2⟩:=hclF m k h hk;obtain ⟨q1,q2,q3⟩:=hro.mine m k h2;exact ⟨q1,by rw [hS k q3];exact q2,Nat.lt_of_lt_of_le q3 hg.size⟩
  ·by_cases h:m=b
   ·subst h;rw [hFb];refine ⟨xs,by rw [hnvb];exact hown,hrs,fun i r j x q1 q2=>?_,fun hne=>?_⟩
    ·obtain ⟨u,q3,q4⟩:=hrd i r j x q1 q2;exact ⟨u,q3,RD.ext hf.ext q4⟩
    ·rw [hnvb,hnmb]
     obtain ⟨g,cap,cur,fz,e1,_⟩:=oJ hown (by cases rows with | nil=>exact absurd rfl hne | cons _ _=>simp);rw [e1];rfl
   ·by_cases ho:old=some m
    ·rw [(hFo m h).1 ho];trivial
    ·rw [(hFo m h).2 ho]
     by_cases hn:f m=.no
     ·rw [hn];trivial
     ·refine RH.fol hf (hro.at_ m) (fun _=>hro.lv m hn) rfl (fun k hk=>hg.block k (hro.mine m k hk).2.2 (fun e=>?_));obtain ⟨o,h1,h2⟩:=hold0 k e.symm;have:=hro.ex o m k h2 hk;subst this;exact ho h1
  ·by_cases h1:m=b
   ·by_cases h2:m'=b
    ·rw [h1,h2]
    ·subst h1;have k1:=hclb k e1;obtain ⟨k2,k3⟩:=hclF m' k h2 e2
     rcases hv with h3 | h3
     ·rw [k1] at h3;obtain ⟨o,h4,h5⟩:=hold0 k h3.symm;have:=hro.ex o m' k h5 k3;subst this;exact absurd h4 k2
     ·rw [k1] at h3;cases h3;have:=(hro.mine m' _ k3).2.2;omega
   ·by_cases h2:m'=b
    ·subst h2;have k1:=hclb k e2;obtain ⟨k2,k3⟩:=hclF m k h1 e1
     rcases hv with h3 | h3
     ·rw [k1] at h3;obtain ⟨o,h4,h5⟩:=hold0 k h3.symm;have:=hro.ex o m k h5 k3;subst this;exact absurd h4 k2
     ·rw [k1] at h3;cases h3;have:=(hro.mine m _ k3).2.2;omega
    ·exact hro.ex m m' k (hclF m k h1 e1).2 (hclF m' k h2 e2).2
 ·rw [hF] at hm
  by_cases h:m=b
  ·subst h;have hk':=hclb k hm
   rcases hv with h1 | h1
   ·rw [hk'] at h1;obtain ⟨o,_,h2⟩:=hold0 k h1.symm;exact .inl ⟨o,h2⟩
   ·rw [hk'] at h1;cases h1;exact .inr (Nat.le_refl _)
  ·exact .inl ⟨m,(hclF m k h hm).2⟩
 ·rw [hF]
  show (m=b∨W.lv m)↔(if s.nc m=c then F m else s.hb m)≠.no
  rw [hs.lv m]
  by_cases h:m=b
  ·subst h;rw [if_pos hl.1,hFb];exact ⟨fun _=>by simp,fun _=>.inl rfl⟩
  ·by_cases h2:s.nc m=c
   ·rw [if_pos h2];have hfm:s.hb m=f m:=by unfold St.hb;rw [h2,hob];rfl
    rw [hfm]
    by_cases ho:old=some m
    ·rw [(hFo m h).1 ho]
     rcases hold with ⟨h1,_⟩ | ⟨o,E',sz',rows',h1,h3,_⟩
     ·rw [h1] at ho;cases ho
     ·rw [h1] at ho;cases ho;exact ⟨fun _=>by simp,fun _=>.inr (by rw [h3];simp)⟩
    ·rw [(hFo m h).2 ho];exact ⟨fun h3=>h3.resolve_left h,.inr⟩
   ·rw [if_neg h2];exact ⟨fun h3=>h3.resolve_left h,.inr⟩
 ·refine ⟨by rw [show rv (W.mP b v' w.heap.size) (.v b)=(W.mP b v' w.heap.size).nv b from rfl,hnvb],?_,.inl rfl⟩
  rcases hown.2 with ⟨h1,_⟩ | ⟨g,cap,cur,fz,h1,_⟩ <;> rw [h1] <;> rfl
end
end Go.Proofs.Ytkafcpnahpfbfaa
end
section
namespace Go.Proofs.Ytkafcpnahpfbfaa
open Go Go.RowKit
def RP (S:Nat→Nat) (w:World):Pa→Value→Prop
 | .one x,v=>RD S w x v
 | .agg xs,v=>∃ arr:Array Value,v=.agg arr∧xs.length=arr.size∧∀ (i:Nat) x u,xs[i]? = some x→arr[i]? = some u→RD S w x u
def RPs (S:Nat→Nat) (w:World) (ps:List Pa) (vs:Array Value):Prop:=ps.length=vs.size∧∀ (i:Nat) p u,ps[i]? = some p→vs[i]? = some u→RP S w p u
def RR (S:Nat→Nat) (w:World):List Pa→Value→Prop
 | [],_=>True
 | [p],v=>RP S w p v
 | ps,v=>∃ vs:Array Value,v=.tuple vs∧RPs S w ps vs
class bT where
 p:World→Prop
 keep:∀ w w':World,Below w.heap.size w w'→p w→p w'
def Spec [I:bT] (P:Program) (f:Nat) (R:List Pa→List Pa→Prop):Prop :=
 ∀ az rs,R az rs→∀ (S:Nat→Nat) (w:World) (vals:Array Value),I.p w→RPs S w az vals →
   Calls P f vals w fun e w'=>∃ v S',e=.returned v∧RR S' w' rs v∧Below w.heap.size w w'∧∀ b,b < w.heap.size→S' b=S b
def RN (S:Nat→Nat) (w:World) (adr:Value):List Pa→Value→Prop
 | [],v=>v=adr
 | rs,v=>∃ vs:Array Value,v=.tuple (#[adr] ++ vs)∧RPs S w rs vs
def IB [I:bT] (P:Program) (f:Nat) (R:Option HP→List Pa→HP→List Pa→Prop):Prop :=
 ∀ Ho az H' rs,R Ho az H' rs→∀ (S:Nat→Nat) (w:World) (vals:Array Value),I.p w→RPs S w az vals→match Ho with
   | some H=>∀ v fp,H.r w v fp→(∀ b,fp b→S b=0)→Calls P f (#[v] ++ vals) w fun e w'=>∃ u S' fp',e=.returned u∧RR S' w' rs u∧H'.r w' v fp'∧kL fp w w'∧(∀ b,fp' b→(fp b∨w.heap.size≤b)∧S' b=0)∧∀ b,b < w.heap.size→S' b=S b
   | none=>Calls P f vals w fun e w'=>∃ u S' adr fp',e=.returned u∧RN S' w' adr rs u∧adr.oneCell'=true∧H'.r w' adr fp'∧Below w.heap.size w w'∧(∀ b,fp' b→w.heap.size≤b∧S' b=0)∧∀ b,b < w.heap.size→S' b=S b
def IC [I:bT] (P:Program) (f:Nat) (R:HP→HP→Prop):Prop :=
 ∀ H H2,R H H2→∀ (w:World) (v:Value) (fp:Nat→Prop),I.p w→H.r w v fp→Calls P f #[v] w fun e w'=>∃ adr fp',e=.returned adr∧adr.oneCell'=true∧H2.r w' adr fp'∧Below w.heap.size w w'∧∀ b,fp' b→w.heap.size≤b
def RDs (S:Nat→Nat) (w:World) (ds:List Dt) (vs:List Value):Prop:=ds.length=vs.length∧∀ (i:Nat) x u,ds[i]? = some x→vs[i]? = some u→RD S w x u
def PE [I:bT] (P:Program) (f:Nat) (R:List Dt→List Pa→List Dt→List Pa→Prop):Prop :=
 ∀ ds az ds' rs,R ds az ds' rs→∀ (S:Nat→Nat) (w:World) (b:Nat) (arr:Array Value) (T:TypeId) (vals:Array Value),(∀ w',kL (·=b) w w'→I.p w')→w.heap[b]? = some (.cells arr T (0,0))→S b=0→RDs S w ds arr.toList→RPs S w az vals →
   Calls P f (#[.pointer (some ⟨b,0,none⟩)] ++ vals) w fun e w'=>∃ u S' arr' T',e=.returned u∧RR S' w' rs u∧w'.heap[b]? = some (.cells arr' T' (0,0))∧RDs S' w' ds' arr'.toList∧S' b=0∧kL (·=b) w w'∧∀ k,k < w.heap.size→S' k=S k
def G0:Nat→Nat:=fun _=>0
def O0:Nat→Ob:=fun _=>.no
structure RHp (W:Wit) (w:World) (hp:Nat→Hb):Prop where
 lv:∀ b,W.lv b↔hp b≠.no
 mine:∀ b k,hcl W b (hp b) k→W.S k=0∧k < w.heap.size
 at_:∀ b,RH W G0 O0 w b (hp b)
 ex:∀ b b' k,hcl W b (hp b) k→hcl W b' (hp b') k→b=b'
def RHw (W:Wit) (w:World) (x:Hw) (v:Value):Prop:=RB W G0 O0 w x.bv v
def mK (W:Wit) (w:World) (az:List Hw) (vs:Array Value):Prop:=az.length=vs.size∧∀ (i:Nat) x u,az[i]? = some x→vs[i]? = some u→RHw W w x u
def RRH (W:Wit) (w:World):List Hw→Value→Prop
 | [],_=>True
 | [x],v=>RHw W w x v
 | xs,v=>∃ vs:Array Value,v=.tuple vs∧mK W w xs vs
def dG (W:Wit) (hp:Nat→Hb) (k:Nat):Prop:=∃ b,hcl W b (hp b) k
def fK [I:bT] (P:Program) (f:Nat) (R:(Nat→Hb)→List Hw→(Nat→Hb)→List Hw→Prop):Prop :=
 ∀ hp az hp' rs,R hp az hp' rs→∀ (W:Wit) (w:World) (vals:Array Value),(∀ w',kL (dG W hp) w w'→I.p w')→RHp W w hp→mK W w az vals →
   Calls P f vals w fun e w'=>∃ u W',e=.returned u∧RRH W' w' rs u∧RHp W' w' hp'∧(∀ b,W.lv b→W'.lv b∧W'.nm b=W.nm b∧W'.nv b=W.nv b)∧kL (dG W hp) w w'∧(∀ k,dG W' hp' k→dG W hp k∨w.heap.size≤k)∧∀ k,k < w.heap.size→W'.S k=W.S k
def dY [I:bT] (P:Program) (f:Nat) (R:(Nat→Hb)→List Hw→((Nat→Hb)→List Hw→Prop)→Prop):Prop :=
 ∀ hp az Post,R hp az Post→∀ (W:Wit) (w:World) (vals:Array Value),(∀ w',kL (dG W hp) w w'→I.p w')→RHp W w hp→mK W w az vals →
   Calls P f vals w fun e w'=>∃ hp' rs,Post hp' rs∧∃ u W',e=.returned u∧RRH W' w' rs u∧RHp W' w' hp'∧(∀ b,W.lv b→W'.lv b∧W'.nm b=W.nm b∧W'.nv b=W.nv b)∧kL (dG W hp) w w'∧(∀ k,dG W' hp' k→dG W hp k∨w.heap.size≤k)∧∀ k,k < w.heap.size→W'.S k=W.S k
def yQ [I:bT] (P:Program) (f:Nat) (R:List Pa→Nat→Nat→List (List Dt)→Prop):Prop :=
 ∀ az E sz rows,R az E sz rows→∀ (S:Nat→Nat) (w:World) (vals:Array Value),I.p w→RPs S w az vals →
   Calls P f vals w fun e w'=>∃ v S' xs,e=.returned v∧RD S' w' (.im rows) v∧Below w.heap.size w w'∧(∀ b,b < w.heap.size→S' b=S b)∧bI w' w.heap.size E sz v rows.length xs∧(∀ r,r ∈ rows→r.length=sz)∧∀ g,v.ownBlock=some g→S' g≤rows.length * sz
structure aA [bT] (P:Program) (env:Env):Prop where
 prg:P=Try.prog
 d:∀ f,Spec P f (env.d f)
 a:∀ f,IB P f (env.a f)
 c:∀ f,IC P f (env.c f)
 t:∀ g k v,env.t g k=some v→v.oneCell'=true∧∀ w,bT.p w→w.cell? ⟨g,k,none⟩=some v
 m:∀ f,PE P f (env.m f)
 h:∀ f,fK P f (env.h f)
 p:∀ f,dY P f (env.p f)
 f:∀ f,yQ P f (env.f f)
def e0:Env:=⟨fun _ _ _=>False,fun _ _ _ _ _=>False,fun _ _ _=>False,fun _ _=>none,fun _ _ _ _ _=>False,fun _ _ _ _ _=>False,fun _ _ _ _=>False,fun _ _ _ _ _=>False⟩
def e1 (g:Nat) (R:List Pa→List Pa→Prop) (rest:Env):Env:=⟨fun f az rs=>if f=g then R az rs else rest.d f az rs,rest.a,rest.c,rest.t,rest.m,rest.h,rest.p,rest.f⟩
def a1 (g:Nat) (R:Option HP→List Pa→HP→List Pa→Prop) (rest:Env):Env:=⟨rest.d,fun f Ho az H rs=>if f=g then R Ho az H rs else rest.a f Ho az H rs,rest.c,rest.t,rest.m,rest.h,rest.p,rest.f⟩
def c1 (g:Nat) (R:HP→HP→Prop) (rest:Env):Env:=⟨rest.d,rest.a,fun f H H2=>if f=g then R H H2 else rest.c f H H2,rest.t,rest.m,rest.h,rest.p,rest.f⟩
def t1 (g:Nat) (vs:List Value) (rest:Env):Env:=⟨rest.d,rest.a,rest.c,fun h k=>if h=g then vs[k]? else rest.t h k,rest.m,rest.h,rest.p,rest.f⟩
def m1 (g:Nat) (R:List Dt→List Pa→List Dt→List Pa→Prop) (rest:Env):Env:=⟨rest.d,rest.a,rest.c,rest.t,fun f ds az ds' rs=>if f=g then R ds az ds' rs else rest.m f ds az ds' rs,rest.h,rest.p,rest.f⟩
def h1 (g:Nat) (R:(Nat→Hb)→List Hw→(Nat→Hb)→List Hw→Prop) (rest:Env):Env:=⟨rest.d,rest.a,rest.c,rest.t,rest.m,fun f hp az hp' rs=>if f=g then R hp az hp' rs else rest.h f hp az hp' rs,rest.p,rest.f⟩
def p1 (g:Nat) (R:(Nat→Hb)→List Hw→((Nat→Hb)→List Hw→Prop)→Prop) (rest:Env):Env:=⟨rest.d,rest.a,rest.c,rest.t,rest.m,rest.h,fun f hp az Post=>if f=g then R hp az Post else rest.p f hp az Post,rest.f⟩
def f1 (g:Nat) (R:List Pa→Nat→Nat→List (List Dt)→Prop) (rest:Env):Env:=⟨rest.d,rest.a,rest.c,rest.t,rest.m,rest.h,rest.p,fun f az E sz rows=>if f=g then R az E sz rows else rest.f f az E sz rows⟩
theorem aA.e0 [bT]:aA Try.prog e0:=⟨rfl,fun _ _ _ h=>h.elim,fun _ _ _ _ _ h=>h.elim,fun _ _ _ h=>h.elim,fun _ _ _ h=>(by cases h),fun _ _ _ _ _ h=>h.elim,fun _ _ _ _ _ h=>h.elim,fun _ _ _ _ h=>h.elim,fun _ _ _ _ _ h=>h.elim⟩
theorem aA.e1 [bT] {P:Program} {g:Nat} {R:List Pa→List Pa→Prop} {rest:Env} (h:Spec P g R) (hr:aA P rest):aA P (e1 g R rest):=by
 refine ⟨hr.prg,fun f az rs hR=>?_,hr.a,hr.c,hr.t,hr.m,hr.h,hr.p,hr.f⟩;unfold Go.Proofs.Ytkafcpnahpfbfaa.e1 at hR;dsimp only at hR;split at hR
 ·rename_i he;subst he;exact h az rs hR
 ·exact hr.d f az rs hR
theorem aA.a1 [bT] {P:Program} {g:Nat} {R:Option HP→List Pa→HP→List Pa→Prop} {rest:Env} (h:IB P g R) (hr:aA P rest):aA P (a1 g R rest):=by
 refine ⟨hr.prg,hr.d,fun f Ho az H rs hR=>?_,hr.c,hr.t,hr.m,hr.h,hr.p,hr.f⟩;unfold Go.Proofs.Ytkafcpnahpfbfaa.a1 at hR;dsimp only at hR;split at hR
 ·rename_i he;subst he;exact h Ho az H rs hR
 ·exact hr.a f Ho az H rs hR
theorem aA.m1 [bT] {P:Program} {g:Nat} {R:List Dt→List Pa→List Dt→List Pa→Prop} {rest:Env} (h:PE P g R) (hr:aA P rest):aA P (m1 g R rest):=by
 refine ⟨hr.prg,hr.d,hr.a,hr.c,hr.t,fun f ds az ds' rs hR=>?_,hr.h,hr.p,hr.f⟩;unfold Go.Proofs.Ytkafcpnahpfbfaa.m1 at hR;dsimp only at hR;split at hR
 ·rename_i he;subst he;exact h ds az ds' rs hR
 ·exact hr.m f ds az ds' rs hR
theorem aA.c1 [bT] {P:Program} {g:Nat} {R:HP→HP→Prop} {rest:Env} (h:IC P g R) (hr:aA P rest):aA P (c1 g R rest):=by
 refine ⟨hr.prg,hr.d,hr.a,fun f H H2 hR=>?_,hr.t,hr.m,hr.h,hr.p,hr.f⟩;unfold Go.Proofs.Ytkafcpnahpfbfaa.c1 at hR;dsimp only at hR;split at hR
 ·rename_i he;subst he;exact h H H2 hR
 ·exact hr.c f H H2 hR
theorem aA.f1 [bT] {P:Program} {g:Nat} {R:List Pa→Nat→Nat→List (List Dt)→Prop} {rest:Env} (h:yQ P g R) (hr:aA P rest):aA P (f1 g R rest):=by
 refine ⟨hr.prg,hr.d,hr.a,hr.c,hr.t,hr.m,hr.h,hr.p,fun f az E sz rows hR=>?_⟩;unfold Go.Proofs.Ytkafcpnahpfbfaa.f1 at hR;dsimp only at hR;split at hR
 ·rename_i he;subst he;exact h az E sz rows hR
 ·exact hr.f f az E sz rows hR
theorem aA.p1 [bT] {P:Program} {g:Nat} {R:(Nat→Hb)→List Hw→((Nat→Hb)→List Hw→Prop)→Prop} {rest:Env} (h:dY P g R) (hr:aA P rest):aA P (p1 g R rest):=by
 refine ⟨hr.prg,hr.d,hr.a,hr.c,hr.t,hr.m,hr.h,fun f hp az Post hR=>?_,hr.f⟩;unfold Go.Proofs.Ytkafcpnahpfbfaa.p1 at hR;dsimp only at hR;split at hR
 ·rename_i he;subst he;exact h hp az Post hR
 ·exact hr.p f hp az Post hR
theorem aA.h1 [bT] {P:Program} {g:Nat} {R:(Nat→Hb)→List Hw→(Nat→Hb)→List Hw→Prop} {rest:Env} (h:fK P g R) (hr:aA P rest):aA P (h1 g R rest):=by
 refine ⟨hr.prg,hr.d,hr.a,hr.c,hr.t,hr.m,fun f hp az hp' rs hR=>?_,hr.p,hr.f⟩;unfold Go.Proofs.Ytkafcpnahpfbfaa.h1 at hR;dsimp only at hR;split at hR
 ·rename_i he;subst he;exact h hp az hp' rs hR
 ·exact hr.h f hp az hp' rs hR
def MP (n:Nat):Option Nat→Bool
 | some d=>decide (d < n)
 | none=>true
theorem Jl {n:Nat} {x:Option Nat} (h:MP n x=true):∀ d,x=some d→d < n:=by
 rintro d rfl
 simpa [MP] using h
theorem aA.t1 [bT] {P:Program} {g:Nat} {vs:List Value} {rest:Env} (h1:∀ v,v ∈ vs→v.oneCell'=true) (h:∀ w,bT.p w→∀ k v,vs[k]? = some v→w.cell? ⟨g,k,none⟩=some v) (hr:aA P rest):aA P (t1 g vs rest):=by
 refine ⟨hr.prg,hr.d,hr.a,hr.c,fun b k v hv=>?_,hr.m,hr.h,hr.p,hr.f⟩;unfold Go.Proofs.Ytkafcpnahpfbfaa.t1 at hv;dsimp only at hv;split at hv
 ·rename_i he;subst he;exact ⟨h1 v (List.mem_of_getElem? hv),fun w hw=>h w hw k v hv⟩
 ·exact hr.t b k v hv
def SV:Op→Bool
 | .indexAddr _ (.global _) _=>true
 | _=>false
def flg (eqs:List (Nat×List Bool)) (k:Nat):Bool:=(eqs.lookup k).isSome
def wo (P:Program) (eqs:List (Nat×List Bool)) (o:Oper):Option PO:=match o.op with
 | .lookup t m x ok=>match P.underlying t,cX m,cX x with
   | some (.map k e),some m,some x=>match P.info? e with
     | some i=>(i.zero.bind zHw).map fun z=>.mlk k z ok m x
     | none=>none
   | _,_,_=>none
 | .mapUpdate t m x v=>match P.underlying t,cX m,cX x,cX v,o.dst with
   | some (.map k _),some m,some x,some v,none=>some (.mup k m x v)
   | _,_,_,_,_=>none
 | .insert t m x v=>match P.underlying t,cX m,cX x,cX v,o.dst with
   | some (.map k _),some m,some x,some v,none=>some (.mup k m x v)
   | _,_,_,_,_=>none
 | .mapEntry t m x=>match P.underlying t,cX m,cX x with
   | some (.map k e),some m,some x=>match P.info? e with
     | some i=>(i.zero.bind zHw).map fun z=>.ment k z m x
     | none=>none
   | _,_,_=>none
 | .entryStore _ m x v=>match cX m,cX x,cX v,o.dst with
   | some m,some x,some v,none=>some (.mest m x v)
   | _,_,_,_=>none
 | .makeFunc (.func f) a c=>match aC (a.toList.map cX),aC (c.toList.map cX) with
   | some a,some c=>some (.mkf f a c)
   | _,_=>none
 | .entry x=>(cX x).map .entry
 | .next x false=>(cX x).map .next
 | .range t m=>match P.underlying t,cX m,o.dst with
   | some (.map _ _),some m,some d=>some (.hal (d+1) (.range m))
   | _,_,_=>none
 | .makeMap t none=>match P.underlying t,o.dst with
   | some (.map k _),some d=>some (.hal (d+1) (.map k))
   | _,_=>none
 | .makeMap t (some x)=>match P.underlying t,cX x,o.dst with
   | some (.map k _),some x,some d=>some (.hal (d+1) (.mapn k x))
   | _,_,_=>none
 | .alloc t=>match P.info? t,o.dst with
   | some i,some d=>match i.zero with
     | some z=>if nV z.cells=true∧flg eqs (5000000+d)=true then some (.hal (d+1) (.new z.cells.toList)) else none
     | none=>none
   | _,_=>none
 | .box _ x=>match cX x,o.dst with
   | some x,some d=>if flg eqs (5000000+d)=true then some (.hal (d+1) (.box x)) else none
   | _,_=>none
 | .buildSlice t ln ps=>match P.underlying t,o.dst with
   | some (.slice E),some d=>match P.info? E with
     | some i=>match i.zero with
       | some z=>if (nV z.cells=true∧z.cells.size=i.size∧0 < i.size∧ln * i.size≤16777216)∧flg eqs (5000000+d)=true then
        (qh (fun k=>some (k * i.size,i.size)) ps.toList).map fun qs=>.hal (d+1) (.lit E i.size ((Array.range (ln * i.size)).map (z.cells[· % z.cells.size]!)).toList ln qs) else none
       | none=>none
     | none=>none
   | _,_=>none
 | .slice t x (some lo) none none=>match P.underlying t,cX x,cX lo,o.dst with
   | some (.slice E),some x,some lo,some d=>match P.info? E with
     | some i=>if flg eqs (5000000+d)=true then some (.hal (d+1) (.view i.size x lo)) else none
     | none=>none
   | _,_,_,_=>none
 | .makeSlice t l c=>match P.underlying t,cX l,cX c,o.dst with
   | some (.slice E),some l,some c,some d=>match P.info? E with
     | some i=>match i.zero with
       | some z=>if (nV z.cells=true∧z.cells.size=i.size)∧flg eqs (5000000+d)=true then some (.hal (d+1) (.mk i.size i.bytes z.cells.toList l c)) else none
       | none=>none
     | none=>none
   | _,_,_,_=>none
 | .call c=>match c.callee with
   | .builtin .delete=>match c.argTypes.toList,c.args.toList with
     | [t,k'],[m,x]=>match P.underlying t,cX m,cX x with
       | some (.map k _),some m,some x=>if k'=k then some (.mdel k m x) else none
       | _,_,_=>none
     | _,_=>none
   | .builtin .len=>match c.argTypes.toList,c.args.toList with
     | [t],[m]=>match P.underlying t,cX m with
       | some (.map _ _),some m=>some (.mlen m)
       | _,_=>none
     | _,_=>none
   | .builtin .append=>match c.argTypes.toList,c.args.toList with
     | [t,t'],[x,y]=>match P.underlying t,cX x,cX y,o.dst with
       | some (.slice E),some x,some y,some d=>match P.info? E with
         | some i=>match i.zero with
           | some z=>if (t=t'∧z.cells.size=i.size∧0 < i.size)∧flg eqs (5000000+d)=true then some (.hal (d+1) (.app E i.size i.bytes x y)) else none
           | none=>none
         | none=>none
       | _,_,_,_=>none
     | _,_=>none
   | .builtin .copy=>match c.argTypes.toList,c.args.toList with
     | [t,_],[x,y]=>match P.underlying t,cX x,cX y with
       | some (.slice E),some x,some y=>match P.info? E with
         | some i=>some (.cph i.size x y)
         | none=>none
       | _,_,_=>none
     | _,_=>none
   | .value (.func f)=>match P.funcs[f]? with
     | some fn => if (fn.name ≠ "runtime.NumGoroutine" ∧ fn.body.isSome = true) ∧ flg eqs (6000000 + f) = true then (aC (c.args.toList.map cX)).map (.callh f) else if (fn.name ≠ "runtime.NumGoroutine" ∧ fn.body.isSome = true) ∧ flg eqs (8000000 + f) = true then (aC (c.args.toList.map cX)).map (.callp f) else none
     | none=>none
   | .value (.tmp t)=>match eqs.lookup (7000000+t) with
     | some l=>match P.funcs[l.length]? with
       | some fn => if fn.name ≠ "runtime.NumGoroutine" ∧ fn.body.isSome = true then (aC (c.args.toList.map cX)).map (.callc (.t t) l.length) else none
       | none=>none
     | none=>none
   | _=>none
 | _=>none
def wu (P:Program) (eqs:List (Nat×List Bool)) (ops:Array Oper) (o:Oper):Option PO:=match o.op with
 | .load t (.tmp x)=>match szT P t with
   | some none=>if (ops.toList.any fun j=>j.dst == some x && SV j.op)=true then some (.ldg (.t x)) else none
   | _=>none
 | .indexAddr t (.global g) i=>match P.underlying t,cX i with
   | some (.array ln e),some i=>(P.info? e).map fun ei=>.ixg ln ei.size g i
   | _,_=>none
 | .assign (.func f)=>some (.mv (.v (.func (.func f) #[] #[])))
 | .call c=>match c.callee with
   | .value (.tmp t)=>match eqs.lookup (1048576+t) with
     | some l=>match P.funcs[l.length]? with
       | some fn => if fn.name ≠ "runtime.NumGoroutine" ∧ fn.body.isSome = true then (aC (c.args.toList.map cX)).map (.callv (.t t) l.length) else none
       | none=>none
     | none=>none
   | _=>none
 | _=>none
def yV (P:Program) (eqs:List (Nat×List Bool)) (ops:Array Oper) (o:Oper):Option PO:=match wo P eqs o with
 | some po=>some po
 | none=>match wu P eqs ops o with
   | some po=>some po
   | none=>fM P eqs o
def tY (P:Program) (n:Nat) (eqs:List (Nat×List Bool)) (ops:Array Oper) (o:Oper):Option PI :=
 match yV P eqs ops o with
 | some po=>if MP n o.dst=true then
  match o.guard with
  | none=>some { dst:=o.dst,op:=po,guard:=none,after:=o.after.toList.filterMap fun e=>if Region.binds .any e=true then some e.on else none }
  | some (g,want)=>match (ops[g]?).bind (·.dst) with
    | some t=>some { dst:=o.dst,op:=po,guard:=some (t,want),after:=o.after.toList.filterMap fun e=>if Region.binds .any e=true then some e.on else none }
    | none=>none
   else none
 | none=>none
def bD (P:Program) (n:Nat) (eqs:List (Nat×List Bool)):Code→Option PC
 | .skip=>some .skip
 | .region _ ops draw=>(aC (ops.toList.map (tY P n eqs ops))).map (.reg draw)
 | .seq a b=>match bD P n eqs a,bD P n eqs b with
   | some a,some b=>some (.seq a b)
   | _,_=>none
 | .cond c a b=>match cX c,bD P n eqs a,bD P n eqs b with
   | some c,some a,some b=>some (.cond c a b)
   | _,_,_=>none
 | .block id c=>(bD P n eqs c).map (.block id)
 | .loop c=>(bD P n eqs c).map .loop
 | .exit id=>some (.exit id)
 | .ret=>some .ret
 | .goto l=>some (.goto l)
 | .label _=>some .skip
 | _=>none
def yU (P:Program) (n:Nat) (eqs:List (Nat×List Bool)) (l:Nat):Code→Option PC
 | .seq a b=>match yU P n eqs l a with
   | some r=>(bD P n eqs b).map (.seq r)
   | none=>if (findLabel a l).isSome=true then none else yU P n eqs l b
 | .label l'=>if l' == l then some .skip else none
 | _=>none
def bY (P:Program) (n:Nat) (eqs:List (Nat×List Bool)):Code→Option PC
 | .scope c=>match bD P n eqs c,yU P n eqs 0 c with
   | some a,some r=>some (.scope 0 a r)
   | _,_=>none
 | .seq a b=>match bY P n eqs a,bY P n eqs b with
   | some a,some b=>some (.seq a b)
   | _,_=>none
 | c=>bD P n eqs c
theorem Cc {P:Program} {n:Nat} {eqs:List (Nat×List Bool)} {l:Nat}:∀ {c:Code} {r:PC},yU P n eqs l c=some r→∃ rest,findLabel c l=some rest∧bD P n eqs rest=some r:=by
 intro c
 induction c with
 | seq a b iha ihb =>
   intro r h;unfold yU at h;split at h
   ·rename_i r1 h1;obtain ⟨rest,h2,h3⟩:=iha h1;simp only [Option.map_eq_some_iff] at h;obtain ⟨rb,h4,rfl⟩:=h;refine ⟨.seq rest b,by simp [findLabel,h2],?_⟩;simp [bD,h3,h4]
   ·split at h
    ·cases h
    ·rename_i hn;obtain ⟨rest,h2,h3⟩:=ihb h;refine ⟨rest,?_,h3⟩
     have:findLabel a l=none:=by
      cases hf:findLabel a l with
      | none=>rfl
      | some x=>rw [hf] at hn;simp at hn
     simp [findLabel,this,h2]
 | label l' =>
   intro r h;unfold yU at h;split at h
   ·rename_i he;cases h;exact ⟨.skip,by simp [findLabel,he],by simp [bD]⟩
   ·cases h
 | _=>intro r h;cases h
section
variable {P:Program} {n:Nat} {w0:World} {S0:Nat→Nat} {W:Wit} {s:St} {a:Act} {w:World}
theorem RA.pa {G:Nat→Nat} {O:Nat→Ob} {v:Av} {p:Pa} {u:Value} (h:RA W G O w v u) (hp:v.pa=some p):RP W.S w p u:=by
 cases v with
 | un=>cases hp
 | tup xs=>cases hp
 | b x =>
   cases x with
   | one c =>
     simp only [Av.pa,Bv.pa,Option.map_eq_some_iff] at hp;obtain ⟨y,hy,rfl⟩:=hp;exact RC.dt h hy
   | agg cs =>
     simp only [Av.pa,Bv.pa,Option.map_eq_some_iff] at hp;obtain ⟨ys,hy,rfl⟩:=hp;obtain ⟨arr,h1,h2,h3⟩:=h;have h4:=eF _ _ hy;refine ⟨arr,h1,?_,fun i x u' h5 h6=>?_⟩
     ·have:=congrArg List.length h4;simp at this h2;omega
     ·have h7:=congrArg (·[i]?) h4;simp only [List.getElem?_map,h5,Option.map_some] at h7
      cases hc:cs[i]? with
      | none=>rw [hc] at h7;simp at h7
      | some c =>
        rw [hc] at h7;simp at h7;exact RC.dt (h3 i c u' hc (by simpa using h6)) h7
theorem RP.av {G:Nat→Nat} {O:Nat→Ob} {p:Pa} {u:Value} (h:RP W.S w p u):RB W G O w p.bv u:=by
 cases p with
 | one x=>exact h
 | agg xs =>
   obtain ⟨arr,h1,h2,h3⟩:=h;refine ⟨arr,h1,by simp [h2],fun i c u' h4 h5=>?_⟩;simp only [List.getElem?_map,Option.map_eq_some_iff] at h4;obtain ⟨x,hx,rfl⟩:=h4;exact h3 i x u' hx (by simpa using h5)
theorem RR.av {G:Nat→Nat} {O:Nat→Ob} {ps:List Pa} {u:Value} (h:RR W.S w ps u):RA W G O w (kT ps) u:=by
 match ps with
 | []=>trivial
 | [p]=>exact RP.av h
 | p :: q :: r =>
   obtain ⟨vs,h1,h2,h3⟩:=h;refine ⟨vs,h1,by simpa using h2,fun i x u' h4 h5=>?_⟩;have h4':((p :: q :: r).map Pa.bv)[i]? = some x:=h4;rw [List.getElem?_map,Option.map_eq_some_iff] at h4';obtain ⟨y,hy,rfl⟩:=h4';exact RP.av (h3 i y u' hy h5)
theorem Sim.called [Bor] (hs:Sim w0 S0 n W s a w) {S':Nat→Nat} {w':World} (hb:Below w.heap.size w w') (hS:∀ b,b < w.heap.size→S' b=W.S b) {dst:Option Nat} (hd:∀ d,dst=some d→d < n) {v:Av} {rv:Value}
 (hv:RA { W with S:=S' } s.gen s.ob w' v rv):Sim w0 S0 n { W with S:=S' } (s.ap dst v .no) (a.put dst rv) w':=by
 have hfol:Fol W s.gen s.ob w { W with S:=S' } s.gen s.ob w':=by
  refine ⟨fun b i h1 h2=>?_,fun _=>Nat.le_refl _,fun _ _=>rfl,fun o E sz k _ ho=>⟨k,ho,Nat.le_refl _,fun _=>rfl⟩,fun _ _=>rfl,fun _ h=>⟨h,rfl,rfl⟩,rfl⟩
  have hlt:b < w.heap.size:=by
   cases hcell:w.cell? ⟨b,i,none⟩ with
   | none=>rw [hcell] at h2;cases h2
   | some y =>
     rcases Nat.lt_or_ge b w.heap.size with h | h
     ·exact h
     ·simp [World.cell?,Array.getElem?_eq_none h] at hcell
  exact ⟨by show i < S' b;rw [hS b hlt];exact h1,by simp [World.cell?,hb.block b hlt]⟩
 refine hs.step hd hfol (.of (hb.mono hs.below.size)) (fun b hb2=>hS b (Nat.lt_of_lt_of_le hb2 hs.below.size)) hv (fun o=>?_) hs.ex hs.lv;exact RO.fol hfol (hs.ob o) rfl rfl rfl (fun _ _=>rfl) (fun b hb2=>⟨hb.block b (gX hs hb2).2,hS b (gX hs hb2).2⟩)
theorem cell_lt {w:World} {b i:Nat} (h:(w.cell? ⟨b,i,none⟩).isSome=true):b < w.heap.size:=by
 cases hcell:w.cell? ⟨b,i,none⟩ with
 | none=>rw [hcell] at h;cases h
 | some y =>
   rcases Nat.lt_or_ge b w.heap.size with h | h
   ·exact h
   ·simp [World.cell?,Array.getElem?_eq_none h] at hcell
theorem Sim.meth [Bor] (hs:Sim w0 S0 n W s a w) {o:Nat} {H H':HP} (ho:s.ob o=.ab H) {S':Nat→Nat} {fp':Nat→Prop} {w':World} (hb:kL (W.fp o) w w') (hr:H'.r w' (W.adr o) fp') (hfp:∀ b,fp' b→(W.fp o b∨w.heap.size≤b)∧S' b=0)
 (hS:∀ b,b < w.heap.size→S' b=W.S b) {dst:Option Nat} (hd:∀ d,dst=some d→d < n) {v:Av} {rv:Value} (hv:RA { W with S:=S',fp:=up W.fp o fp' } s.gen (up s.ob o (.ab H')) w' v rv) :
 Sim w0 S0 n { W with S:=S',fp:=up W.fp o fp' } (s.ap dst v (.ab o H')) (a.put dst rv) w':=by
 have hro:=hs.ob o;rw [ho] at hro;obtain ⟨_,hfo⟩:=hro;have hbs:=hs.below.size;have hclf:∀ b,W.fp o b→cl W o (s.ob o) b:=fun b h=>by rw [ho];exact h
 have hfol:Fol W s.gen s.ob w { W with S:=S',fp:=up W.fp o fp' } s.gen (up s.ob o (.ab H')) w':=by
  refine ⟨fun b i h1 h2=>?_,fun _=>Nat.le_refl _,fun _ _=>rfl,fun o' E sz k _ hk=>?_,fun _ _=>rfl,fun _ h=>⟨h,rfl,rfl⟩,rfl⟩
  ·have hlt:=cell_lt h2;have hnf:¬ W.fp o b:=fun h=>by rw [(hfo b h).2] at h1;omega
   exact ⟨by show i < S' b;rw [hS b hlt];exact h1,by simp [World.cell?,hb.block b hlt hnf]⟩
  ·rw [ay] at hk;split at hk
   ·cases hk
   ·exact ⟨k,hk,Nat.le_refl _,fun _=>rfl⟩
 refine hs.step hd hfol ⟨hb.os,hb.tape,hb.output,hb.size,fun b hb2 _=>hb.block b (by omega) (fun h=>by have:=(hfo b h).1;omega)⟩ (fun b hb2=>hS b (by omega)) hv (fun o'=>?_) (fun o1 o2 b h1 h2=>?_) (fun b=>(hs.lv b).trans (by rw [o8 (o:=o) (fun p hp=>by show up s.ob o _ p=_;rw [ay,if_neg hp]) (.inr ⟨by rw [ho];rfl,by show eU (up s.ob o (.ab H') o)=_;rw [ay,if_pos rfl];rfl⟩)]))
 ·show RO _ _ _ _ _ _ (up s.ob o (.ab H') o')
  rw [ay];split
  ·rename_i he;subst he;refine ⟨?_,fun b hb2=>?_⟩
   ·show H'.r w' (W.adr o') (up W.fp o' fp' o')
    rw [ay,if_pos rfl];exact hr
   ·have hb3:up W.fp o' fp' o' b:=hb2;rw [ay,if_pos rfl] at hb3;obtain ⟨h3,h4⟩:=hfp b hb3;exact ⟨h3.elim (fun h=>(hfo b h).1) (fun h=>by omega),h4⟩
  ·rename_i he;refine RO.fol hfol (hs.ob o') rfl rfl (by show up W.fp o fp' o'=_;rw [ay,if_neg he]) (fun _ _=>rfl) (fun b hb2=>?_)
   have hlt:=(gX hs hb2).2;exact ⟨hb.block b hlt (fun h=>he (hs.ex _ _ _ hb2 (hclf b h))),hS b hlt⟩
 ·have claim:∀ o' b,cl { W with S:=S',fp:=up W.fp o fp' } o' ((s.ap dst v (.ab o H')).ob o') b→(o'=o∧fp' b)∨(o'≠o∧cl W o' (s.ob o') b):=fun o' b h=>by
   have h':cl { W with S:=S',fp:=up W.fp o fp' } o' (up s.ob o (.ab H') o') b:=h;rw [ay] at h'
   by_cases he:o'=o
   ·rw [if_pos he] at h';subst he;have h2:up W.fp o' fp' o' b:=h';rw [ay,if_pos rfl] at h2;exact .inl ⟨rfl,h2⟩
   ·rw [if_neg he] at h';refine .inr ⟨he,?_⟩;generalize s.ob o'=y at h' ⊢
    cases y with
    | no=>exact h'
    | cells cs=>exact h'
    | row E sz m=>exact h'
    | ab H2=>have h2:up W.fp o fp' o' b:=h';rw [ay,if_neg he] at h2;exact h2
    | hp f=>exact h'
  rcases claim o1 b h1 with ⟨e1,g1⟩ | ⟨n1,g1⟩ <;> rcases claim o2 b h2 with ⟨e2,g2⟩ | ⟨n2,g2⟩
  ·rw [e1,e2]
  ·have hlt:=(gX hs g2).2
   rcases (hfp b g1).1 with h | h
   ·exact absurd (hs.ex _ _ _ g2 (hclf b h)) n2
   ·omega
  ·have hlt:=(gX hs g1).2
   rcases (hfp b g2).1 with h | h
   ·exact absurd (hs.ex _ _ _ g1 (hclf b h)) n1
   ·omega
  ·exact hs.ex _ _ _ g1 g2
theorem Sim.mut [Bor] (hs:Sim w0 S0 n W s a w) {o:Nat} {cs:List Cl} (ho:s.ob o=.cells cs) {S':Nat→Nat} {w':World} {ds':List Dt} {arr':Array Value} {T':TypeId} (hb:kL (·=W.blk o) w w') (hr:w'.heap[W.blk o]? = some (.cells arr' T' (0,0))) (hds:RDs S' w' ds' arr'.toList) (hl:ds'.length=cs.length)
 (h0:S' (W.blk o)=0) (hS:∀ b,b < w.heap.size→S' b=W.S b) {dst:Option Nat} (hd:∀ d,dst=some d→d < n) {v:Av} {rv:Value} (hv:RA { W with S:=S' } s.gen (up s.ob o (.cells (ds'.map .d))) w' v rv) :
 Sim w0 S0 n { W with S:=S' } (s.ap dst v (.wr o 0 (ds'.map .d))) (a.put dst rv) w':=by
 have hro:=hs.ob o;rw [ho] at hro;obtain ⟨arr,T,g1,g2,g3,g4⟩:=hro;have hbs:=hs.below.size
 have hap:(s.ap dst v (.wr o 0 (ds'.map .d))).ob=up s.ob o (.cells (ds'.map .d)):=by
  show up s.ob o _=_
  rw [ho]
  show up s.ob o (.cells (iC cs 0 (ds'.map .d)))=_
  have key:∀ (cs ds:List Cl),cs.length=ds.length→iC cs 0 ds=ds:=fun cs=>by
   induction cs with
   | nil=>intro ds h;cases ds with
     | nil=>rfl
     | cons d ds=>simp at h
   | cons c cs ih=>intro ds h;cases ds with
     | nil=>simp at h
     | cons d ds=>show d :: iC cs 0 ds=_;rw [ih ds (by simpa using h)]
  rw [key _ _ (by rw [List.length_map];exact hl.symm)]
 have hfol:Fol W s.gen s.ob w { W with S:=S' } s.gen (up s.ob o (.cells (ds'.map .d))) w':=by
  refine ⟨fun b i h1 h2=>?_,fun _=>Nat.le_refl _,fun _ _=>rfl,fun o' E sz k _ hk=>?_,fun _ _=>rfl,fun _ h=>⟨h,rfl,rfl⟩,rfl⟩
  ·have hlt:=cell_lt h2;have hne:b≠W.blk o:=by rintro rfl;rw [g3] at h1;omega
   exact ⟨by show i < S' b;rw [hS b hlt];exact h1,by simp [World.cell?,hb.block b hlt hne]⟩
  ·rw [ay] at hk;split at hk
   ·cases hk
   ·exact ⟨k,hk,Nat.le_refl _,fun _=>rfl⟩
 have hclo:cl W o (s.ob o) (W.blk o):=by rw [ho];rfl
 refine hs.step hd (by rw [hap];exact hfol) ⟨hb.os,hb.tape,hb.output,hb.size,fun b hb2 hnf=>hb.block b (by omega) (fun e=>by subst e;exact g2.elim (fun h=>by omega) hnf)⟩ (fun b hb2=>hS b (by omega)) (by rw [hap];exact hv) (fun o'=>?_) (fun o1 o2 b h1 h2=>?_) (fun b=>(hs.lv b).trans (by rw [o8 (o:=o) (fun p hp=>by rw [hap,ay,if_neg hp]) (.inr ⟨by rw [ho];rfl,by rw [hap,ay,if_pos rfl];rfl⟩)]))
 ·rw [hap]
  show RO _ _ _ _ _ _ (up s.ob o (.cells (ds'.map .d)) o')
  rw [ay];split
  ·rename_i he;subst he;refine ⟨arr',T',hr,g2,h0,?_⟩;refine ⟨by rw [List.length_map];exact hds.1,fun i c u e1 e2=>?_⟩
   rw [List.getElem?_map,Option.map_eq_some_iff] at e1;obtain ⟨x,hx,rfl⟩:=e1;exact hds.2 i x u hx e2
  ·rename_i he;refine RO.fol hfol (hs.ob o') rfl rfl rfl (fun _ _=>rfl) (fun b hb2=>?_);have hlt:=(gX hs hb2).2;exact ⟨hb.block b hlt (fun e=>he (by subst e;exact hs.ex _ _ _ hb2 hclo)),hS b hlt⟩
 ·have claim:∀ o' b,cl { W with S:=S' } o' ((s.ap dst v (.wr o 0 (ds'.map .d))).ob o') b→cl W o' (s.ob o') b:=fun o' b h=>by
   rw [hap] at h
   have h':cl { W with S:=S' } o' (up s.ob o (.cells (ds'.map .d)) o') b:=h;rw [ay] at h'
   by_cases he:o'=o
   ·rw [if_pos he] at h';subst he;rw [ho];exact h'
   ·rw [if_neg he] at h';generalize s.ob o'=y at h' ⊢
    cases y with
    | no=>exact h'
    | cells cs=>exact h'
    | row E sz m=>exact h'
    | ab H2=>exact h'
    | hp f=>exact h'
  exact hs.ex _ _ _ (claim o1 b h1) (claim o2 b h2)
theorem qW [Bor] (hs:Sim w0 S0 n W s a w) {dst:Option Nat} (hd:∀ d,dst=some d→d < n):dst.getD 0 < HBS:=by
 have:=hs.small;unfold gI at this;unfold HBS
 cases dst with
 | none=>simp
 | some d=>have:=hd d rfl;simp;omega
theorem Sim.made [Bor] (hs:Sim w0 S0 n W s a w) {d:Nat} (hdd:d < HBS) {H':HP} {S':Nat→Nat} {adr:Value} {fp':Nat→Prop} {w':World} (hb:Below w.heap.size w w') (hr:H'.r w' adr fp') (hfp:∀ b,fp' b→w.heap.size≤b∧S' b=0)
 (hS:∀ b,b < w.heap.size→S' b=W.S b) {dst:Option Nat} (hd:∀ d,dst=some d→d < n) {v:Av} {rv:Value} (hv:RA { W with S:=S',adr:=up W.adr d adr,fp:=up W.fp d fp' } (up s.gen d (s.gen d+1)) (up s.ob d (.ab H')) w' v rv) :
 Sim w0 S0 n { W with S:=S',adr:=up W.adr d adr,fp:=up W.fp d fp' } (s.ap dst v (.new d (.ab H'))) (a.put dst rv) w':=by
 have hbs:=hs.below.size
 have hfol:Fol W s.gen s.ob w { W with S:=S',adr:=up W.adr d adr,fp:=up W.fp d fp' } (up s.gen d (s.gen d+1)) (up s.ob d (.ab H')) w':=by
  refine ⟨fun b i h1 h2=>?_,fun o'=>?_,fun o' h=>rfl,fun o' E sz n' h h2=>?_,fun o' h=>?_,fun _ h=>⟨h,rfl,rfl⟩,rfl⟩
  ·have hlt:=cell_lt h2;exact ⟨by show i < S' b;rw [hS b hlt];exact h1,by simp [World.cell?,hb.block b hlt]⟩
  ·rw [ay];split <;> (try omega)
   rename_i h;rw [h];omega
  ·have:o'≠d:=by rintro rfl;rw [ay,if_pos rfl] at h;omega
   rw [ay,if_neg this] at h2;exact ⟨n',h2,Nat.le_refl _,fun _=>rfl⟩
  ·have:o'≠d:=by rintro rfl;rw [ay,if_pos rfl] at h;omega
   show up W.adr d adr o'=_
   rw [ay,if_neg this]
 refine hs.step hd hfol (.of (hb.mono hs.below.size)) (fun b hb2=>hS b (by omega)) hv (fun o'=>?_) (fun o1 o2 b h1 h2=>?_) (fun b=>(hs.lv b).trans (by rw [o8 (o:=d) (fun p hp=>by show up s.ob d _ p=_;rw [ay,if_neg hp]) (.inl hdd)]))
 ·show RO _ _ _ _ _ _ (up s.ob d (.ab H') o')
  rw [ay];split
  ·rename_i he;subst he;refine ⟨?_,fun b hb2=>?_⟩
   ·show H'.r w' (up W.adr o' adr o') (up W.fp o' fp' o')
    rw [ay,if_pos rfl,ay,if_pos rfl];exact hr
   ·have hb3:up W.fp o' fp' o' b:=hb2;rw [ay,if_pos rfl] at hb3;obtain ⟨h3,h4⟩:=hfp b hb3;exact ⟨by omega,h4⟩
  ·rename_i he;refine RO.fol hfol (hs.ob o') (by rw [ay,if_neg he]) rfl (by show up W.fp d fp' o'=_;rw [ay,if_neg he]) (fun _ _=>rfl) (fun b hb2=>?_)
   have hlt:=(gX hs hb2).2;exact ⟨hb.block b hlt,hS b hlt⟩
 ·have claim:∀ o' b,cl { W with S:=S',adr:=up W.adr d adr,fp:=up W.fp d fp' } o' ((s.ap dst v (.new d (.ab H'))).ob o') b→(o'=d∧w.heap.size≤b)∨(o'≠d∧cl W o' (s.ob o') b∧b < w.heap.size):=fun o' b h=>by
   have h':cl { W with S:=S',adr:=up W.adr d adr,fp:=up W.fp d fp' } o' (up s.ob d (.ab H') o') b:=h;rw [ay] at h'
   by_cases he:o'=d
   ·rw [if_pos he] at h';subst he;have h2:up W.fp o' fp' o' b:=h';rw [ay,if_pos rfl] at h2;exact .inl ⟨rfl,(hfp b h2).1⟩
   ·rw [if_neg he] at h'
    have:cl W o' (s.ob o') b:=by
     generalize s.ob o'=y at h' ⊢
     cases y with
     | no=>exact h'
     | cells cs=>exact h'
     | row E sz m=>exact h'
     | ab H2=>have h2:up W.fp d fp' o' b:=h';rw [ay,if_neg he] at h2;exact h2
     | hp f=>exact h'
    exact .inr ⟨he,this,(gX hs this).2⟩
  rcases claim o1 b h1 with ⟨e1,g1⟩ | ⟨n1,g1,l1⟩ <;> rcases claim o2 b h2 with ⟨e2,g2⟩ | ⟨n2,g2,l2⟩
  ·rw [e1,e2]
  ·omega
  ·omega
  ·exact hs.ex _ _ _ g1 g2
theorem Sim.S9 [Bor] (hs:Sim w0 S0 n W s a w) {d:Nat} (hdd:d < HBS) {E0 sz0 n0:Nat} {S':Nat→Nat} {adr:Value} {xs:List Value} {w':World} (hb:Below w.heap.size w w') (hr:bI w' w.heap.size E0 sz0 adr n0 xs) (hfp:∀ g,adr.ownBlock=some g→S' g≤n0 * sz0)
 (hS:∀ b,b < w.heap.size→S' b=W.S b) {dst:Option Nat} (hd:∀ d,dst=some d→d < n) {v:Av} {rv:Value} (hv:RA { W with S:=S',val:=up W.val d adr } (up s.gen d (s.gen d+1)) (up s.ob d (.row E0 sz0 n0)) w' v rv) :
 Sim w0 S0 n { W with S:=S',val:=up W.val d adr } (s.ap dst v (.new d (.row E0 sz0 n0))) (a.put dst rv) w':=by
 have hbs:=hs.below.size
 have hfol:Fol W s.gen s.ob w { W with S:=S',val:=up W.val d adr } (up s.gen d (s.gen d+1)) (up s.ob d (.row E0 sz0 n0)) w':=by
  refine ⟨fun b i h1 h2=>?_,fun o'=>?_,fun o' h=>rfl,fun o' E sz n' h h2=>?_,fun o' h=>?_,fun _ h=>⟨h,rfl,rfl⟩,rfl⟩
  ·have hlt:=cell_lt h2;exact ⟨by show i < S' b;rw [hS b hlt];exact h1,by simp [World.cell?,hb.block b hlt]⟩
  ·rw [ay];split <;> (try omega)
   rename_i h;rw [h];omega
  ·have:o'≠d:=by rintro rfl;rw [ay,if_pos rfl] at h;omega
   rw [ay,if_neg this] at h2;exact ⟨n',h2,Nat.le_refl _,fun _=>by show up W.val d adr o'=_;rw [ay,if_neg this]⟩
  ·rfl
 refine hs.step hd hfol (.of (hb.mono hs.below.size)) (fun b hb2=>hS b (by omega)) hv (fun o'=>?_) (fun o1 o2 b h1 h2=>?_) (fun b=>(hs.lv b).trans (by rw [o8 (o:=d) (fun p hp=>by show up s.ob d _ p=_;rw [ay,if_neg hp]) (.inl hdd)]))
 ·show RO _ _ _ _ _ _ (up s.ob d (.row E0 sz0 n0) o')
  rw [ay];split
  ·rename_i he;subst he;refine ⟨xs,?_,fun g hg=>?_⟩
   ·show bI w' _ _ _ (up W.val o' adr o') _ _
    rw [ay,if_pos rfl];exact hr.mono hbs
   ·have hg2:(up W.val o' adr o').ownBlock=some g:=hg;rw [ay,if_pos rfl] at hg2;exact hfp g hg2
  ·rename_i he;refine RO.fol hfol (hs.ob o') (by rw [ay,if_neg he]) (by show up W.val d adr o'=_;rw [ay,if_neg he]) rfl (fun _ _=>rfl) (fun b hb2=>?_)
   have hlt:=(gX hs hb2).2;exact ⟨hb.block b hlt,hS b hlt⟩
 ·have claim:∀ o' b,cl { W with S:=S',val:=up W.val d adr } o' ((s.ap dst v (.new d (.row E0 sz0 n0))).ob o') b→(o'=d∧w.heap.size≤b)∨(o'≠d∧cl W o' (s.ob o') b∧b < w.heap.size):=fun o' b h=>by
   have h':cl { W with S:=S',val:=up W.val d adr } o' (up s.ob d (.row E0 sz0 n0) o') b:=h;rw [ay] at h'
   by_cases he:o'=d
   ·rw [if_pos he] at h';subst he;have h2:(up W.val o' adr o').ownBlock=some b:=h';rw [ay,if_pos rfl] at h2;exact .inl ⟨rfl,(hr.lt b h2).1⟩
   ·rw [if_neg he] at h'
    have:cl W o' (s.ob o') b:=by
     generalize s.ob o'=y at h' ⊢
     cases y with
     | no=>exact h'
     | cells cs=>exact h'
     | row E sz m=>have h2:(up W.val d adr o').ownBlock=some b:=h';rw [ay,if_neg he] at h2;exact h2
     | ab H2=>exact h'
     | hp f=>exact h'
    exact .inr ⟨he,this,(gX hs this).2⟩
  rcases claim o1 b h1 with ⟨e1,g1⟩ | ⟨n1,g1,l1⟩ <;> rcases claim o2 b h2 with ⟨e2,g2⟩ | ⟨n2,g2,l2⟩
  ·rw [e1,e2]
  ·omega
  ·omega
  ·exact hs.ex _ _ _ g1 g2
theorem RN.av {G:Nat→Nat} {O:Nat→Ob} {d:Nat} {adr:Value} {S':Nat→Nat} {fp':Nat→Prop} (h1c:adr.oneCell'=true) {ps:List Pa} {u:Value} (h:RN S' w adr ps u):RA { W with S:=S',adr:=up W.adr d adr,fp:=up W.fp d fp' } (up G d (G d+1)) O w (zk d (G d+1) ps) u:=by
 have hab:RC { W with S:=S',adr:=up W.adr d adr,fp:=up W.fp d fp' } (up G d (G d+1)) O w (.ab d (G d+1)) adr:=by
  refine ⟨h1c,by rw [ay,if_pos rfl];exact Nat.le_refl _,fun _=>?_⟩
  show adr=up W.adr d adr d
  rw [ay,if_pos rfl]
 match ps with
 | [] =>
   have h':u=adr:=h;subst h';exact hab
 | p :: q =>
   obtain ⟨vs,h2,h3,h4⟩:=h;refine ⟨#[adr] ++ vs,h2,by simp at h3 ⊢;omega,fun i x u' h5 h6=>?_⟩
   cases i with
   | zero =>
     have h6':some adr=some u':=by rw [←h6,Array.getElem?_append_left (by simp)];rfl
     simp at h5;subst h5;cases h6';exact hab
   | succ i =>
     have h5':((p :: q).map Pa.bv)[i]? = some x:=by simpa using h5
     rw [List.getElem?_map,Option.map_eq_some_iff] at h5';obtain ⟨y,hy,rfl⟩:=h5'
     have h6':vs[i]? = some u':=by
      rw [Array.getElem?_append_right (by simp)] at h6
      simpa using h6
     exact RP.av (h4 i y u' hy h6')
theorem OL [Bor] (hs:Sim w0 S0 n W s a w) {y:Operand} {x:PX} (hx:cX y=some x) {o g:Nat} (hr:(s.ev x).kM=some (o,g)) {H:HP} (hH:s.yw o g=some H):a.eval y=W.adr o∧s.ob o=.ab H:=by
 unfold St.yw at hH;split at hH
 ·rename_i hg;split at hH
  ·rename_i H2 hob;cases hH;refine ⟨?_,hob⟩;have hev:=evX hs hx
   cases hv:s.ev x with
   | un=>rw [hv] at hr;cases hr
   | tup ys=>rw [hv] at hr;cases hr
   | b z =>
     rw [hv] at hr hev
     cases z with
     | agg cs=>cases hr
     | one c =>
       cases c <;> simp only [Av.kM,Bv.kM,Cl.kM] at hr <;> cases hr
       exact hev.2.2 hg.symm
  ·cases hH
 ·cases hH
theorem OG [Bor] (hs:Sim w0 S0 n W s a w) {y:Operand} {x:PX} (hx:cX y=some x) {o g:Nat} (hr:(s.ev x).fC=some (o,g)) {ds:List Dt} (hH:s.iH o g=some ds):a.eval y=.pointer (some ⟨W.blk o,0,none⟩)∧∃ cs,s.ob o=.cells cs∧aC (cs.map Cl.dt)=some ds:=by
 unfold St.iH at hH;split at hH
 ·rename_i hg;split at hH
  ·rename_i cs hob;split at hH
   case isFalse=>cases hH
   refine ⟨?_,cs,hob,hH⟩;have hev:=evX hs hx
   cases hv:s.ev x with
   | un=>rw [hv] at hr;cases hr
   | tup ys=>rw [hv] at hr;cases hr
   | b z =>
     rw [hv] at hr hev
     cases z with
     | agg cs=>cases hr
     | one c =>
       cases c with
       | ptr o2 g2 off2 =>
         simp only [Av.fC,Bv.fC,Cl.fC] at hr
         cases hz:off2 == 0 with
         | false=>rw [hz] at hr;cases hr
         | true =>
           rw [hz] at hr;cases hr;rw [beq_iff_eq.1 hz] at hev;exact hev.2.2 hg.symm
       | _=>simp only [Av.fC,Bv.fC,Cl.fC] at hr;cases hr
  ·cases hH
 ·cases hH
theorem RCs.dts {G:Nat→Nat} {O:Nat→Ob}:∀ {cs:List Cl} {vs:List Value} {ds:List Dt},RCs W G O w cs vs→aC (cs.map Cl.dt)=some ds→RDs W.S w ds vs∧ds.length=cs.length
 | [],vs,ds,h,h2=>by
   simp [aC] at h2;subst h2;exact ⟨⟨h.1,fun i x u h=>by simp at h⟩,rfl⟩
 | c :: cs,vs,ds,h,h2=>by
   cases vs with
   | nil=>exact absurd h.1 (by simp)
   | cons v vs =>
     simp only [List.map_cons] at h2
     cases hc:c.dt with
     | none=>rw [hc] at h2;simp [aC] at h2
     | some x =>
       rw [hc] at h2;simp only [aC,Option.map_eq_some_iff] at h2;obtain ⟨ds',h3,rfl⟩:=h2;obtain ⟨⟨i1,i2⟩,i3⟩:=RCs.dts (cs:=cs) (vs:=vs) ⟨by simpa using h.1,fun i c u e1 e2=>h.2 (i+1) c u (by simpa using e1) (by simpa using e2)⟩ h3;refine ⟨⟨by simp [i1],fun i y u e1 e2=>?_⟩,by simp [i3]⟩
       cases i with
       | zero=>simp at e1 e2;subst e1;subst e2;exact RC.dt (h.2 0 c v rfl rfl) hc
       | succ i=>exact i2 i y u (by simpa using e1) (by simpa using e2)
theorem yx [Bor] (hs:Sim w0 S0 n W s a w):∀ (xo:List Operand) (xs:List PX) (az:List Pa),aC (xo.map cX)=some xs→s.args xs=some az →
 az.length=xo.length∧∀ (i:Nat) p y,az[i]? = some p→xo[i]? = some y→RP W.S w p (a.eval y):=by
 intro xo
 induction xo with
 | nil =>
   intro xs az h1 h2;simp [aC] at h1;subst h1;simp [St.args,aC] at h2;subst h2;exact ⟨rfl,fun i p y h=>by simp at h⟩
 | cons y ys ih =>
   intro xs az h1 h2;simp only [List.map_cons] at h1
   cases hy:cX y with
   | none=>rw [hy] at h1;simp [aC] at h1
   | some x =>
     rw [hy] at h1;simp only [aC,Option.map_eq_some_iff] at h1;obtain ⟨xs',hxs,rfl⟩:=h1;simp only [St.args,List.map_cons] at h2
     cases hp:(s.ev x).pa with
     | none=>rw [hp] at h2;simp [aC] at h2
     | some p =>
       rw [hp] at h2;simp only [aC,Option.map_eq_some_iff] at h2;obtain ⟨az',has,rfl⟩:=h2;obtain ⟨h3,h4⟩:=ih xs' az' hxs has;refine ⟨by simp [h3],fun i q z e1 e2=>?_⟩
       cases i with
       | zero =>
         simp at e1 e2;subst e1;subst e2;exact RA.pa (evX hs hy) hp
       | succ i=>exact h4 i q z (by simpa using e1) (by simpa using e2)
theorem ER [Bor] [I:bT] {env:Env} (hE:aA P env) (hp:∀ w,iD w0.heap.size w0 w→I.p w) {o:Oper} {Q:Exit→Act→World→Prop} (hs:Sim w0 S0 n W s a w) (hd:∀ d,o.dst=some d→d < n) {c:Call} {f:Nat} {xs:List PX}
 (hrun:(execOp a.eval o).run P w=.ok (.enter f (c.args.map a.eval)) w) (hxs:aC (c.args.toList.map cX)=some xs)
 {K:Av→Cg→Prop} {K':Act→World→Prop} (hK:∀ v ch W' a' w',K v ch→Sim w0 S0 n W' (s.ap o.dst v ch) a' w'→K' a' w') (hg:jd env s (o.dst.getD 0) K f xs (s.recv xs) (s.eX xs)):o.wp P a w K' Q:=by
 unfold Oper.wp;rw [hrun];have hwi:=hp _ hs.below;have hg':jd env s (o.dst.getD 0) K f xs (s.recv xs) (s.eX xs):=hg
 cases hrc:s.recv xs with
 | none =>
  cases hpc:s.eX xs with
  | none =>
   rw [hrc,hpc] at hg';obtain ⟨az,h1,hg'⟩:=aj.1 hg';obtain ⟨h4,h5⟩:=yx hs _ _ _ hxs h1
   have hargs:RPs W.S w az (c.args.map a.eval):=⟨by simpa using h4,fun i p u e1 e2=>by
    rw [Array.getElem?_map,Option.map_eq_some_iff] at e2;obtain ⟨y,hy,rfl⟩:=e2;exact h5 i p y e1 (by simpa using hy)⟩
   rcases hg' with ⟨rs,h2,h3⟩ | ⟨H,rs,h2,h3⟩ | ⟨E,sz,rows,h2,h3⟩
   ·refine (hE.d f az rs h2 W.S w (c.args.map a.eval) hwi hargs).mono ?_;rintro e w' ⟨v,S',rfl,h6,h7,h8⟩
    exact hK _ _ _ _ _ h3 (hs.called h7 h8 hd (RR.av (W:={ W with S:=S' }) h6))
   ·refine (hE.a f none az H rs h2 W.S w (c.args.map a.eval) hwi hargs).mono ?_;rintro e w' ⟨u,S',adr,fp',rfl,h6,h7,h8,h9,h10,h11⟩;exact hK _ _ _ _ _ h3 (hs.made (qW hs hd) h9 h8 h10 h11 hd (RN.av h7 h6))
   ·refine (hE.f f az E sz rows h2 W.S w (c.args.map a.eval) hwi hargs).mono ?_;rintro e w' ⟨v,S',xs,rfl,h6,h7,h8,h9,h10,h11⟩;refine hK _ _ _ _ _ h3 (hs.S9 (qW hs hd) h7 h9 h11 h8 hd ?_);refine ⟨h6,by rw [ay,if_pos rfl];exact Nat.le_refl _,fun _ E' sz' n' hO=>?_⟩
    rw [ay,if_pos rfl] at hO;cases hO;exact ⟨h10,Nat.le_refl _,fun _=>by show v=up W.val _ v _;rw [ay,if_pos rfl]⟩
  | some og =>
   obtain ⟨ob,gg⟩:=og;rw [hrc,hpc] at hg';obtain ⟨az,h1,hg2⟩:=aj.1 hg';obtain ⟨ds,hds,ds',rs,h2,hdl,h3⟩:=aj.1 hg2
   cases hcl:c.args.toList with
   | nil =>
     rw [hcl] at hxs;simp only [List.map_nil,aC,Option.some.injEq] at hxs;rw [←hxs] at hpc;cases hpc
   | cons y ys =>
     rw [hcl] at hxs;simp only [List.map_cons] at hxs
     cases hy:cX y with
     | none=>rw [hy] at hxs;simp [aC] at hxs
     | some x =>
       rw [hy] at hxs;simp only [aC,Option.map_eq_some_iff] at hxs;obtain ⟨xs'',hxs'',rfl⟩:=hxs;obtain ⟨hadr,cs,hob,hcs⟩:=OG hs hy hpc hds;obtain ⟨h4,h5⟩:=yx hs ys xs'' az hxs'' h1
       have hvals:c.args.map a.eval=#[.pointer (some ⟨W.blk ob,0,none⟩)] ++ (ys.map a.eval).toArray:=by
        have:c.args=(y :: ys).toArray:=by rw [←hcl]
        rw [this];simp [hadr]
       have hargs:RPs W.S w az (ys.map a.eval).toArray:=⟨by simpa using h4,fun i p u e1 e2=>by
        simp only [List.getElem?_toArray,List.getElem?_map,Option.map_eq_some_iff] at e2;obtain ⟨z,hz,rfl⟩:=e2;exact h5 i p z e1 hz⟩
       have hro:=hs.ob ob;rw [hob] at hro;obtain ⟨arr,T,g1,g2,g3,g4⟩:=hro;obtain ⟨hrd,hrl⟩:=RCs.dts g4 hcs;have hbs:=hs.below.size;rw [hvals];refine (hE.m f ds az ds' rs h2 W.S w (W.blk ob) arr T _ (fun w2 hw2=>hp _ (hs.below.trans ⟨hw2.os,hw2.tape,hw2.output,hw2.size,fun k hk hnf=>hw2.block k (by omega) (fun e=>by subst e;exact g2.elim (fun h=>by omega) hnf)⟩)) g1 g3 hrd hargs).mono ?_
       rintro e w' ⟨u,S',arr',T',rfl,h6,h7,h8,h9,h10,h11⟩
       exact hK _ _ _ _ _ h3 (hs.mut hob h10 h7 h8 (by omega) h9 h11 hd (RR.av (W:={ W with S:=S' }) h6))
 | some og =>
   obtain ⟨ob,gg⟩:=og;rw [hrc] at hg';obtain ⟨az,h1,hg2⟩:=aj.1 hg';obtain ⟨H,hH,hg3⟩:=aj.1 hg2
   cases hcl:c.args.toList with
   | nil =>
     rw [hcl] at hxs;simp only [List.map_nil,aC,Option.some.injEq] at hxs;rw [←hxs] at hrc;cases hrc
   | cons y ys =>
     rw [hcl] at hxs;simp only [List.map_cons] at hxs
     cases hy:cX y with
     | none=>rw [hy] at hxs;simp [aC] at hxs
     | some x =>
       rw [hy] at hxs;simp only [aC,Option.map_eq_some_iff] at hxs;obtain ⟨xs'',hxs'',rfl⟩:=hxs;obtain ⟨hadr,hob⟩:=OL hs hy hrc hH;obtain ⟨h4,h5⟩:=yx hs ys xs'' az hxs'' h1
       have hvals:c.args.map a.eval=#[W.adr ob] ++ (ys.map a.eval).toArray:=by
        have:c.args=(y :: ys).toArray:=by rw [←hcl]
        rw [this];simp [hadr]
       have hargs:RPs W.S w az (ys.map a.eval).toArray:=⟨by simpa using h4,fun i p u e1 e2=>by
        simp only [List.getElem?_toArray,List.getElem?_map,Option.map_eq_some_iff] at e2;obtain ⟨z,hz,rfl⟩:=e2;exact h5 i p z e1 hz⟩
       have hro:=hs.ob ob;rw [hob] at hro;rw [hvals]
       rcases hg3 with ⟨H',rs,h2,h3⟩ | ⟨H2,has,h2,h3⟩
       ·refine (hE.a f (some H) az H' rs h2 W.S w _ hwi hargs (W.adr ob) (W.fp ob) hro.1 (fun b hb=>(hro.2 b hb).2)).mono ?_;rintro e w' ⟨u,S',fp',rfl,h6,h7,h8,h9,h10⟩
        exact hK _ _ _ _ _ h3 (hs.meth hob h8 h7 h9 h10 hd (RR.av (W:={ W with S:=S',fp:=up W.fp ob fp' }) h6))
       ·subst has;have hys:ys=[]:=List.eq_nil_of_length_eq_zero h4.symm;subst hys;refine (hE.c f H H2 h2 w (W.adr ob) (W.fp ob) hwi hro.1).mono ?_;rintro e w' ⟨adr,fp',rfl,h6,h7,h8,h9⟩;exact hK _ _ _ _ _ h3 (hs.made (qW hs hd) (S':=fun b=>if b < w.heap.size then W.S b else 0) h8 h7 (fun b hb=>⟨h9 b hb,if_neg (by have:=h9 b hb;omega)⟩) (fun b hb=>if_pos hb) hd (RN.av (ps:=[]) h6 rfl))
theorem yg {P:Program} {eqs:List (Nat×List Bool)} {o:Oper} (x:PX) (f:Nat) (xs:List PX):¬ fM P eqs o=some (.callv x f xs):=fun hpo=>by
 unfold fM oU at hpo
 (repeat' split at hpo) <;> (first | (cases hpo;done) | (simp only [Option.map_eq_some_iff] at hpo;obtain ⟨_,_,h⟩:=hpo;cases h) | (obtain ⟨_,h⟩:=fH hpo;cases h))
theorem Cj {P:Program} {eqs:List (Nat×List Bool)} {o:Oper} (x:PX):¬ fM P eqs o=some (.ldg x):=fun hpo=>by
 unfold fM oU at hpo
 (repeat' split at hpo) <;> (first | (cases hpo;done) | (simp only [Option.map_eq_some_iff] at hpo;obtain ⟨_,_,h⟩:=hpo;cases h) | (obtain ⟨_,h⟩:=fH hpo;cases h))
theorem Ci {P:Program} {eqs:List (Nat×List Bool)} {o:Oper} (c:Nat) (k:HA):¬ fM P eqs o=some (.hal c k):=fun hpo=>by
 unfold fM oU at hpo
 (repeat' split at hpo) <;> (first | (cases hpo;done) | (simp only [Option.map_eq_some_iff] at hpo;obtain ⟨_,_,h⟩:=hpo;cases h) | (obtain ⟨_,h⟩:=fH hpo;cases h))
theorem zJ {P:Program} {eqs:List (Nat×List Bool)} {o:Oper} (x:PX):¬ fM P eqs o=some (.next x):=fun hpo=>by
 unfold fM oU at hpo
 (repeat' split at hpo) <;> (first | (cases hpo;done) | (simp only [Option.map_eq_some_iff] at hpo;obtain ⟨_,_,h⟩:=hpo;cases h) | (obtain ⟨_,h⟩:=fH hpo;cases h))
theorem xZ {P:Program} {eqs:List (Nat×List Bool)} {o:Oper} (f:Nat) (xs:List PX):¬ fM P eqs o=some (.callh f xs):=fun hpo=>by
 unfold fM oU at hpo
 (repeat' split at hpo) <;> (first | (cases hpo;done) | (simp only [Option.map_eq_some_iff] at hpo;obtain ⟨_,_,h⟩:=hpo;cases h) | (obtain ⟨_,h⟩:=fH hpo;cases h))
theorem yc {P:Program} {eqs:List (Nat×List Bool)} {o:Oper} (f:Nat) (xs:List PX):¬ fM P eqs o=some (.callp f xs):=fun hpo=>by
 unfold fM oU at hpo
 (repeat' split at hpo) <;> (first | (cases hpo;done) | (simp only [Option.map_eq_some_iff] at hpo;obtain ⟨_,_,h⟩:=hpo;cases h) | (obtain ⟨_,h⟩:=fH hpo;cases h))
theorem xY {P:Program} {eqs:List (Nat×List Bool)} {o:Oper} (x:PX) (f:Nat) (xs:List PX):¬ fM P eqs o=some (.callc x f xs):=fun hpo=>by
 unfold fM oU at hpo
 (repeat' split at hpo) <;> (first | (cases hpo;done) | (simp only [Option.map_eq_some_iff] at hpo;obtain ⟨_,_,h⟩:=hpo;cases h) | (obtain ⟨_,h⟩:=fH hpo;cases h))
theorem JM [Bor] {o:Oper} (hd:∀ d,o.dst=some d→d < n) {t e ln g:Nat} {ei:TypeInfo} {io:Operand} {i:PX} (hop:o.op=.indexAddr t (.global g) io) (hu:P.underlying t=some (.array ln e)) (hi:P.info? e=some ei) (hix:cX io=some i):Good P n o (.ixg ln ei.size g i) :=
 .bJ hd fun w0 S0 W s a w v ch hs hf=>by
  simp only [PO.fn] at hf;split at hf
  ·rename_i k hk;split at hf
   ·rename_i hg;cases hf;obtain ⟨kk,hk⟩:=dN hs hix hk;refine ⟨rfl,.pointer (some ⟨g,k.toNat * ei.size,none⟩),?_,RD.sc _ rfl⟩;have he:a.eval (.global g)=.pointer (some ⟨g,0,none⟩):=rfl;simp [execOp,hop,Instr.indexAt,run_underlying hu,he,hk,asIntOf,Instr.sureAddr,hg.1,hg.2,sizeOf,typeInfo,hi,addr_add]
   ·cases hf
  ·cases hf
theorem JV [Bor] {o:Oper} (hd:∀ d,o.dst=some d→d < n) {f:Nat} (hop:o.op=.assign (.func f)):Good P n o (.mv (.v (.func (.func f) #[] #[]))) :=
 .bJ hd fun w0 S0 W s a w v ch hs hf=>by
  simp only [PO.fn] at hf;cases hf;refine ⟨rfl,.func (.func f) #[] #[],?_,?_⟩
  ·simp [execOp,hop,Act.eval]
  ·show RA _ _ _ _ (yC (.func (.func f) #[] #[])) _
   exact RD.sc _ rfl
theorem Cm [Bor] {eqs:List (Nat×List Bool)} {ops:Array Oper} {o:Oper} {po:PO} (hd:∀ d,o.dst=some d→d < n) (h:wu P eqs ops o=some po) (hnc:po.aT=false):Good P n o po:=by
 unfold wu at h;split at h
 ·(repeat' split at h) <;> first | (cases h;done) | (cases h;cases hnc)
 ·rename_i t g i hop;split at h
  ·rename_i ln e i' h1 h2;simp only [Option.map_eq_some_iff] at h;obtain ⟨ei,h3,rfl⟩:=h;exact JM hd hop h1 h3 h2
  ·cases h
 ·rename_i f hop;cases h;exact JV hd hop
 ·(repeat' split at h) <;> first | (cases h;done) | (simp only [Option.map_eq_some_iff] at h;obtain ⟨_,_,rfl⟩:=h;cases hnc)
 ·cases h
theorem KU {W W':Wit} (h1:W'.nm=W.nm) (h2:W'.nv=W.nv) (x:Hv):rv W' x=rv W x:=by
 have hp:pV W'=pV W:=by funext p;unfold pV;rw [h1]
 cases x with
 | p b off=>show Value.pointer (some ⟨W'.nm b,off,none⟩)=_;rw [h1];rfl
 | s b off ln cap=>show Value.slice (some ⟨W'.nm b,off,none⟩) ln cap=_;rw [h1];rfl
 | m b=>show Value.map (some (W'.nm b))=_;rw [h1];rfl
 | v b=>show W'.nv b=_;rw [h2];rfl
 | f f a c=>show Value.func (.func f) (a.map (pV W')).toArray (c.map (pV W')).toArray=_;rw [hp];rfl
theorem DR {W W':Wit} (h3:W'.lv=W.lv) (x:Hv):NW W' x↔NW W x:=by
 cases x <;> simp only [NW,h3]
theorem RC.indep {W W':Wit} (hS:W'.S=W.S) (h1:W'.nm=W.nm) (h2:W'.nv=W.nv) (h3:W'.lv=W.lv) {G G':Nat→Nat} {O O':Nat→Ob} {w:World} {c:Hc} {v:Value} (h:RC W G O w c.cl v):RC W' G' O' w c.cl v:=by
 cases c with
 | d x=>show RD W'.S w x v;rw [hS];exact h
 | h x =>
   obtain ⟨q1,q2,q3⟩:=h;exact ⟨by rw [KU h1 h2];exact q1,q2,(DR h3 x).2 q3⟩
theorem RCs.indep {W W':Wit} (hS:W'.S=W.S) (h1:W'.nm=W.nm) (h2:W'.nv=W.nv) (h3:W'.lv=W.lv) {G G':Nat→Nat} {O O':Nat→Ob} {w:World} {cs:List Hc} {vs:List Value} (h:RCs W G O w (cs.map Hc.cl) vs):RCs W' G' O' w (cs.map Hc.cl) vs :=
 ⟨h.1,fun i c u e1 e2=>by
  have e1':=e1;rw [List.getElem?_map,Option.map_eq_some_iff] at e1';obtain ⟨x,_,rfl⟩:=e1';exact RC.indep hS h1 h2 h3 (h.2 i _ u e1 e2)⟩
theorem RB.indep {W W':Wit} (hS:W'.S=W.S) (h1:W'.nm=W.nm) (h2:W'.nv=W.nv) (h3:W'.lv=W.lv) {G G':Nat→Nat} {O O':Nat→Ob} {w:World} {x:Hw} {v:Value} (h:RB W G O w x.bv v):RB W' G' O' w x.bv v:=by
 cases x with
 | one c=>exact RC.indep hS h1 h2 h3 h
 | agg cs=>obtain ⟨arr,q1,q2⟩:=h;exact ⟨arr,q1,RCs.indep hS h1 h2 h3 q2⟩
theorem RH.indep {W W':Wit} (hS:W'.S=W.S) (h1:W'.nm=W.nm) (h2:W'.nv=W.nv) (h3:W'.lv=W.lv) (h4:W'.hf=W.hf) {G G':Nat→Nat} {O O':Nat→Ob} {w:World} {b:Nat} {x:Hb} (h:RH W G O w b x):RH W' G' O' w b x:=by
 cases x with
 | no=>trivial
 | dead=>trivial
 | cells cs=>obtain ⟨arr,T,q1,q2⟩:=h;exact ⟨arr,T,by rw [h1];exact q1,RCs.indep hS h1 h2 h3 q2⟩
 | map k es clock =>
   obtain ⟨q1,es',q2,q3,q4⟩:=h;exact ⟨q1,es',by rw [h1];exact q2,q3,q4.1,fun i x y e1 e2=>by obtain ⟨r1,r2,r3,r4⟩:=q4.2 i x y e1 e2;exact ⟨r1,r2,RB.indep hS h1 h2 h3 r3,r4⟩⟩
 | vec E sz rows=>obtain ⟨xs,q1,q2,q3,q4⟩:=h;exact ⟨xs,by rw [h2];exact q1,q2,by rw [hS];exact q3,by rw [h1,h2];exact q4⟩
 | iter b' since seen c0=>obtain ⟨q1,q2⟩:=h;exact ⟨by rw [h3];exact q1,by rw [h1];exact q2⟩
 | ab H=>show H.r w (W'.nv b) (W'.hf b);rw [h2,h4];exact h
theorem hcl.indep {W W':Wit} (h1:W'.nm=W.nm) (h2:W'.nv=W.nv) (h4:W'.hf=W.hf) (b:Nat) (x:Hb) (k:Nat):hcl W' b x k↔hcl W b x k:=by
 cases x <;> simp only [hcl,h1,h2,h4]
theorem Sim.rhp [Bor] (hs:Sim w0 S0 n W s a w):RHp W w s.hb∧∀ b k,hcl W b (s.hb b) k→Mine w0.heap.size k∧∃ f,s.ob (HBS+s.nc b)=.hp f∧f b=s.hb b:=by
 have key:∀ b k,hcl W b (s.hb b) k→Mine w0.heap.size k∧W.S k=0∧k < w.heap.size∧∃ f,s.ob (HBS+s.nc b)=.hp f∧f b=s.hb b:=fun b k hk=>by
  have hne:s.hb b≠.no:=fun e=>by rw [e] at hk;exact hk
  obtain ⟨f,h1,h2,h3,h4⟩:=IK hs rfl hne;obtain ⟨q1,q2,q3⟩:=h3.mine b k (by rw [h2];exact hk)
  exact ⟨q1,q2,q3,f,h1,h2⟩
 refine ⟨⟨hs.lv,fun b k hk=>⟨(key b k hk).2.1,(key b k hk).2.2.1⟩,fun b=>?_,fun b b' k e1 e2=>?_⟩,fun b k hk=>⟨(key b k hk).1,(key b k hk).2.2.2⟩⟩
 ·by_cases hn:s.hb b=.no
  ·rw [hn];trivial
  ·exact RH.indep rfl rfl rfl rfl rfl (pz hs rfl hn).1
 ·obtain ⟨_,_,_,f,h1,h2⟩:=key b k e1;obtain ⟨_,_,_,f',h1',h2'⟩:=key b' k e2;have ho:HBS+s.nc b=HBS+s.nc b':=hs.ex _ _ k (by rw [h1];exact ⟨b,by rw [h2];exact e1⟩) (by rw [h1'];exact ⟨b',by rw [h2'];exact e2⟩)
  rw [←ho,h1] at h1';cases h1';have hro:=hs.ob (HBS+s.nc b);rw [h1] at hro;exact hro.ex b b' k (by rw [h2];exact e1) (by rw [h2'];exact e2)
theorem Fe {dst:Option Nat} {v:Av} {hp':Nat→Hb}:(s.ap dst v (.hall hp')).hb=hp':=by
 funext b
 show eU (if HBS≤HBS+s.nc b then _ else _) b=hp' b
 rw [if_pos (Nat.le_add_right _ _)]
 show (if HBS+s.nc b=HBS+s.nc b then hp' b else .no)=_
 rw [if_pos rfl]
theorem Sim.hall [Bor] (hs:Sim w0 S0 n W s a w) {hp':Nat→Hb} {W1:Wit} {w':World} (hr:RHp W1 w' hp') (hnm:∀ b,W.lv b→W1.lv b∧W1.nm b=W.nm b∧W1.nv b=W.nv b) (hb:kL (dG W s.hb) w w')
 (hk:∀ k,dG W1 hp' k→dG W s.hb k∨w.heap.size≤k) (hS:∀ k,k < w.heap.size→W1.S k=W.S k) {dst:Option Nat} (hd:∀ d,dst=some d→d < n) {v:Av} {rv':Value}
 (hv:RA { W with S:=W1.S,nm:=W1.nm,nv:=W1.nv,hf:=W1.hf,lv:=W1.lv } s.gen (s.ap dst v (.hall hp')).ob w' v rv') :
 Sim w0 S0 n { W with S:=W1.S,nm:=W1.nm,nv:=W1.nv,hf:=W1.hf,lv:=W1.lv } (s.ap dst v (.hall hp')) (a.put dst rv') w':=by
 obtain ⟨W2,hW2⟩:∃ W2:Wit,{ W with S:=W1.S,nm:=W1.nm,nv:=W1.nv,hf:=W1.hf,lv:=W1.lv }=W2:=⟨_,rfl⟩
 have e1:W2.S=W1.S∧W2.nm=W1.nm∧W2.nv=W1.nv∧W2.hf=W1.hf∧W2.lv=W1.lv:=by rw [←hW2];exact ⟨rfl,rfl,rfl,rfl,rfl⟩
 have e2:W2.blk=W.blk∧W2.val=W.val∧W2.adr=W.adr∧W2.fp=W.fp∧W2.nc=W.nc:=by rw [←hW2];exact ⟨rfl,rfl,rfl,rfl,rfl⟩
 rw [hW2] at hv ⊢;obtain ⟨hrp,hmine⟩:=hs.rhp;obtain ⟨O',hO'⟩:∃ O',(s.ap dst v (.hall hp')).ob=O':=⟨_,rfl⟩
 have hOlo:∀ o,o < HBS→O' o=s.ob o:=fun o ho=>by rw [←hO'];show (if HBS≤o then _ else _)=_;rw [if_neg (by omega)]
 have hOhi:∀ o,HBS≤o→O' o=.hp (fun b=>if HBS+s.nc b=o then hp' b else .no):=fun o ho=>by rw [←hO'];show (if HBS≤o then _ else _)=_;rw [if_pos ho]
 rw [hO'] at hv;have hfpS:∀ k,dG W s.hb k→W.S k=0:=fun k ⟨b,hb2⟩=>(hrp.mine b k hb2).1
 have hfol:Fol W s.gen s.ob w W2 s.gen O' w':=by
  refine ⟨fun b i h1 h2=>?_,fun _=>Nat.le_refl _,fun _ _=>by rw [e2.1],fun o E sz k _ hk2=>?_,fun _ _=>by rw [e2.2.2.1],fun b hb2=>?_,e2.2.2.2.2⟩
  ·have hlt:=cell_lt h2;have hnf:¬ dG W s.hb b:=fun h=>by rw [hfpS b h] at h1;omega
   exact ⟨by rw [e1.1,hS b hlt];exact h1,by simp [World.cell?,hb.block b hlt hnf]⟩
  ·rcases Nat.lt_or_ge o HBS with h | h
   ·rw [hOlo o h] at hk2;exact ⟨k,hk2,Nat.le_refl _,fun _=>by rw [e2.2.1]⟩
   ·rw [hOhi o h] at hk2;cases hk2
  ·rw [e1.2.1,e1.2.2.1,e1.2.2.2.2];exact hnm b hb2
 have hbs:=hs.below.size;have hcl2:∀ b x k,hcl W2 b x k↔hcl W1 b x k:=fun b x k=>hcl.indep e1.2.1 e1.2.2.1 e1.2.2.2.1 b x k
 have hpart:∀ o k,HBS≤o→cl W2 o (O' o) k→∃ b,HBS+s.nc b=o∧hcl W1 b (hp' b) k:=fun o k ho hk2=>by
  rw [hOhi o ho] at hk2;obtain ⟨b,hb2⟩:=hk2;dsimp only at hb2;split at hb2
  ·rename_i he;exact ⟨b,he,(hcl2 b _ k).1 hb2⟩
  ·exact hb2.elim
 have hlow:∀ o k,o < HBS→cl W2 o (O' o) k→cl W o (s.ob o) k:=fun o k ho hk2=>by
  rw [hOlo o ho] at hk2;have hro:=hs.ob o;generalize s.ob o=x at hk2 hro ⊢
  cases x with
  | no=>exact hk2
  | cells cs=>have h':W2.blk o=k:=hk2;rw [e2.1] at h';exact h'
  | row E sz m=>have h':(W2.val o).ownBlock=some k:=hk2;rw [e2.2.1] at h';exact h'
  | ab H=>have h':W2.fp o k:=hk2;rw [e2.2.2.2.1] at h';exact h'
  | hp g =>
    obtain ⟨m,hm⟩:=hk2;have hro':RP' w0.heap.size W s.gen s.ob w o g:=hro
    by_cases hn:g m=.no
    ·rw [hn] at hm;exact hm.elim
    ·have:=hro'.nc m hn;omega
 have hold:∀ o k,o < HBS→cl W o (s.ob o) k→¬ dG W s.hb k:=fun o k ho hc ⟨b,hb2⟩=>by
  obtain ⟨_,f,h1,h2⟩:=hmine b k hb2;have:=hs.ex o (HBS+s.nc b) k hc (by rw [h1];exact ⟨b,by rw [h2];exact hb2⟩)
  omega
 refine hs.step hd (by rw [hO'];exact hfol) ⟨hb.os,hb.tape,hb.output,hb.size,fun k hk2 hnf=>hb.block k (by omega) (fun ⟨b,hb2⟩=>(hmine b k hb2).1.elim (fun h=>by omega) hnf)⟩ (fun k hk2=>by rw [e1.1];exact hS k (by omega)) (by rw [hO'];exact hv) (fun o=>?_) (fun o1 o2 k c1 c2=>?_) (fun b=>?_)
 ·rw [hO']
  rcases Nat.lt_or_ge o HBS with h | h
  ·rw [hOlo o h];have hro:=hs.ob o
   have hunt:∀ b,cl W o (s.ob o) b→w'.heap[b]? = w.heap[b]?∧W2.S b=W.S b:=fun b hb2=>by
    have hlt:=(gX hs hb2).2;exact ⟨hb.block b hlt (hold o b h hb2),by rw [e1.1];exact hS b hlt⟩
   generalize hx:s.ob o=x at hro hunt ⊢
   cases x with
   | hp g =>
     have hro':RP' w0.heap.size W s.gen s.ob w o g:=hro
     have hg:∀ m,g m=.no:=fun m=>by
      cases hgm:g m with
      | no=>rfl
      | _=>exfalso;have:=hro'.nc m (by rw [hgm];simp);omega
     refine ⟨fun m hn=>absurd (hg m) hn,fun m hn=>absurd (hg m) hn,fun m k hk2=>?_,fun m=>by rw [hg m];trivial,fun m m' k h1 _=>?_⟩
     ·rw [hg m] at hk2;exact hk2.elim
     ·rw [hg m] at h1;exact h1.elim
   | _=>exact RO.Sr hfol hro rfl (by rw [e2.2.1]) (by rw [e2.2.2.2.1]) (fun g hg=>by cases hg) hunt
  ·rw [hOhi o h];refine ⟨fun b hn=>?_,fun b hn=>?_,fun b k hk2=>?_,fun b=>?_,fun b b' k h1 h2=>?_⟩
   ·split at hn
    ·rename_i he;rw [e2.2.2.2.2,hs.nc];exact he
    ·exact absurd rfl hn
   ·split at hn
    ·rw [e1.2.2.2.2];exact (hr.lv b).2 hn
    ·exact absurd rfl hn
   ·split at hk2
    ·have hk3:=(hcl2 b _ k).1 hk2;obtain ⟨q1,q2⟩:=hr.mine b k hk3;refine ⟨?_,by rw [e1.1];exact q1,q2⟩
     rcases hk k ⟨b,hk3⟩ with ⟨b0,hb0⟩ | hge
     ·exact (hmine b0 k hb0).1
     ·exact .inl (by omega)
    ·exact hk2.elim
   ·split
    ·exact RH.indep e1.1 e1.2.1 e1.2.2.1 e1.2.2.2.2 e1.2.2.2.1 (hr.at_ b)
    ·trivial
   ·split at h1
    ·split at h2
     ·exact hr.ex b b' k ((hcl2 b _ k).1 h1) ((hcl2 b' _ k).1 h2)
     ·exact h2.elim
    ·exact h1.elim
 ·rw [hO'] at c1 c2
  rcases Nat.lt_or_ge o1 HBS with h1 | h1 <;> rcases Nat.lt_or_ge o2 HBS with h2 | h2
  ·exact hs.ex _ _ _ (hlow o1 k h1 c1) (hlow o2 k h2 c2)
  ·exfalso
   have g1:=hlow o1 k h1 c1;obtain ⟨b,_,g2⟩:=hpart o2 k h2 c2
   rcases hk k ⟨b,g2⟩ with h | h
   ·exact hold o1 k h1 g1 h
   ·have:=(gX hs g1).2;omega
  ·exfalso
   have g1:=hlow o2 k h2 c2;obtain ⟨b,_,g2⟩:=hpart o1 k h1 c1
   rcases hk k ⟨b,g2⟩ with h | h
   ·exact hold o2 k h2 g1 h
   ·have:=(gX hs g1).2;omega
  ·obtain ⟨b,q1,q2⟩:=hpart o1 k h1 c1;obtain ⟨b',q3,q4⟩:=hpart o2 k h2 c2;have:=hr.ex b b' k q2 q4;subst this;rw [←q1,←q3]
 ·rw [Fe,e1.2.2.2.2];exact hr.lv b
theorem zf [Bor] (hs:Sim w0 S0 n W s a w):∀ (xo:List Operand) (xs:List PX) (az:List Hw),aC (xo.map cX)=some xs→s.hws xs=some az→mK W w az (xo.map a.eval).toArray
 | [],xs,az,h1,h2=>by
   simp [aC] at h1;subst h1;simp [St.hws,aC] at h2;subst h2;exact ⟨rfl,fun i x u h=>by simp at h⟩
 | y :: ys,xs,az,h1,h2=>by
   simp only [List.map_cons] at h1
   cases hy:cX y with
   | none=>rw [hy] at h1;simp [aC] at h1
   | some x =>
     rw [hy] at h1;simp only [aC,Option.map_eq_some_iff] at h1;obtain ⟨xs',hxs,rfl⟩:=h1;simp only [St.hws,List.map_cons] at h2
     cases hp:s.hw x with
     | none=>rw [hp] at h2;simp [aC] at h2
     | some p =>
       rw [hp] at h2;simp only [aC,Option.map_eq_some_iff] at h2;obtain ⟨az',has,rfl⟩:=h2;have ih:=zf hs ys xs' az' hxs has;refine ⟨by have:=ih.1;simp at this ⊢;exact this,fun i q z q1 q2=>?_⟩
       cases i with
       | zero=>simp at q1 q2;subst q1;subst q2;exact RB.indep rfl rfl rfl rfl (MR hs hy hp)
       | succ i=>exact ih.2 i q z (by simpa using q1) (by simpa using q2)
theorem mK.app {W:Wit} {w:World} {x y:List Hw} {u v:Array Value} (h1:mK W w x u) (h2:mK W w y v):mK W w (x ++ y) (u ++ v):=by
 refine ⟨by simp [h1.1,h2.1],fun i p z e1 e2=>?_⟩
 rcases Nat.lt_or_ge i x.length with h | h
 ·rw [List.getElem?_append_left h] at e1;rw [Array.getElem?_append_left (by rw [←h1.1];exact h)] at e2
  exact h1.2 i p z e1 e2
 ·rw [List.getElem?_append_right h] at e1;rw [Array.getElem?_append_right (by rw [←h1.1];exact h),←h1.1] at e2
  exact h2.2 _ p z e1 e2
theorem mK.ptrs {W:Wit} {w:World} {l:List (Nat×Nat)} (h:∀ p ∈ l,W.lv p.1):mK W w (rX l) (l.map (pV W)).toArray:=by
 refine ⟨by simp [rX],fun i x u e1 e2=>?_⟩;unfold rX at e1;rw [List.getElem?_map,Option.map_eq_some_iff] at e1;obtain ⟨p,hp,rfl⟩:=e1;rw [List.getElem?_toArray,List.getElem?_map,hp] at e2;cases e2;exact ⟨rfl,rfl,h p (List.mem_of_getElem? hp)⟩
theorem RRH.av {W W2:Wit} (e:W2.S=W.S∧W2.nm=W.nm∧W2.nv=W.nv∧W2.lv=W.lv) {G:Nat→Nat} {O:Nat→Ob} {w:World} {rs:List Hw} {u:Value} (h:RRH W w rs u):RA W2 G O w (yK rs) u:=by
 match rs with
 | []=>trivial
 | [x]=>exact RB.indep e.1 e.2.1 e.2.2.1 e.2.2.2 h
 | x :: y :: r =>
   obtain ⟨vs,h1,h2,h3⟩:=h;refine ⟨vs,h1,by simpa using h2,fun i z t e1 e2=>?_⟩;have e1':((x :: y :: r).map Hw.bv)[i]? = some z:=e1;rw [List.getElem?_map,Option.map_eq_some_iff] at e1';obtain ⟨q,hq,rfl⟩:=e1';exact RB.indep e.1 e.2.1 e.2.2.1 e.2.2.2 (h3 i q t hq e2)
theorem G6 [Bor] (hs:Sim w0 S0 n W s a w) (hall:∀ c,yH (s.ob (HBS+c))=true) (dst:Option Nat) (v:Av):s.ap dst v (.hall s.hb)=s.ap dst v .no:=by
 have:(s.ap dst v (.hall s.hb)).ob=s.ob:=by
  funext o
  show (if HBS≤o then _ else _)=_
  split
  ·rename_i ho;obtain ⟨c,rfl⟩:∃ c,o=HBS+c:=⟨o - HBS,by omega⟩
   have h1:=hall c;have h2:=hs.ob (HBS+c)
   cases hob:s.ob (HBS+c) with
   | hp f =>
     rw [hob] at h2;have h3:RP' w0.heap.size W s.gen s.ob w (HBS+c) f:=h2
     congr 1
     funext b
     split
     ·rename_i hb;have hb':s.nc b=c:=by omega
      show eU (s.ob (HBS+s.nc b)) b=f b
      rw [hb',hob];rfl
     ·rename_i hb
      cases hf:f b with
      | no=>rfl
      | _ =>
        exfalso
        have:=h3.nc b (by rw [hf];simp)
        rw [hs.nc] at this;exact hb this
   | _=>rw [hob] at h1;cases h1
  ·rfl
 show (⟨_,_,(s.ap dst v (.hall s.hb)).ob,_⟩:St)=⟨_,_,s.ob,_⟩
 rw [this]
theorem Am [Bor] [I:bT] {env:Env} (hE:aA P env) (hp:∀ w,iD w0.heap.size w0 w→I.p w) {o:Oper} {Q:Exit→Act→World→Prop} (hs:Sim w0 S0 n W s a w) (hd:∀ d,o.dst=some d→d < n) {f:Nat} {vals:Array Value} {az:List Hw}
 (hrun:(execOp a.eval o).run P w=.ok (.enter f vals) w) (haz:mK W w az vals) {K:Av→Cg→Prop} {K':Act→World→Prop} (hK:∀ v ch W' a' w',K v ch→Sim w0 S0 n W' (s.ap o.dst v ch) a' w'→K' a' w') (hg:qj env s K f az):o.wp P a w K' Q:=by
 obtain ⟨hp',rs,h1,h2⟩:=hg;obtain ⟨hrp,hmine⟩:=hs.rhp;unfold Oper.wp;rw [hrun];have hbs:=hs.below.size;refine (hE.h f s.hb az hp' rs h1 W w vals (fun w2 hw2=>hp _ (hs.below.trans ⟨hw2.os,hw2.tape,hw2.output,hw2.size,fun k hk hnf=>hw2.block k (by omega) (fun ⟨b,hb2⟩=>(hmine b k hb2).1.elim (fun h=>by omega) hnf)⟩)) hrp haz).mono ?_;rintro e w' ⟨u,W1,rfl,k1,k2,k3,k4,k5,k6⟩
 have hsim:=hs.hall k2 k3 k4 k5 k6 hd (RRH.av (W:=W1) (W2:={ W with S:=W1.S,nm:=W1.nm,nv:=W1.nv,hf:=W1.hf,lv:=W1.lv }) ⟨rfl,rfl,rfl,rfl⟩ k1)
 rcases h2 with h2 | ⟨rfl,hall,h2⟩
 ·exact hK _ _ _ _ _ h2 hsim
 ·rw [G6 hs hall] at hsim;exact hK _ _ _ _ _ h2 hsim
theorem Jd [Bor] [I:bT] {env:Env} (hE:aA P env) (hp:∀ w,iD w0.heap.size w0 w→I.p w) {o:Oper} {Q:Exit→Act→World→Prop} (hs:Sim w0 S0 n W s a w) (hd:∀ d,o.dst=some d→d < n) {f:Nat} {vals:Array Value} {az:List Hw}
 (hrun:(execOp a.eval o).run P w=.ok (.enter f vals) w) (haz:mK W w az vals) {K:Av→Cg→Prop} {K':Act→World→Prop} (hK:∀ v ch W' a' w',K v ch→Sim w0 S0 n W' (s.ap o.dst v ch) a' w'→K' a' w') (hg:yS env s K f az):o.wp P a w K' Q:=by
 obtain ⟨Post,h1,h2⟩:=hg;obtain ⟨hrp,hmine⟩:=hs.rhp;unfold Oper.wp;rw [hrun];have hbs:=hs.below.size;refine (hE.p f s.hb az Post h1 W w vals (fun w2 hw2=>hp _ (hs.below.trans ⟨hw2.os,hw2.tape,hw2.output,hw2.size,fun k hk hnf=>hw2.block k (by omega) (fun ⟨b,hb2⟩=>(hmine b k hb2).1.elim (fun h=>by omega) hnf)⟩)) hrp haz).mono ?_;rintro e w' ⟨hp',rs,hP,u,W1,rfl,k1,k2,k3,k4,k5,k6⟩
 exact hK _ _ _ _ _ (h2 hp' rs hP) (hs.hall k2 k3 k4 k5 k6 hd (RRH.av (W:=W1) (W2:={ W with S:=W1.S,nm:=W1.nm,nv:=W1.nv,hf:=W1.hf,lv:=W1.lv }) ⟨rfl,rfl,rfl,rfl⟩ k1))
theorem Cb [Bor] (hP:P=Try.prog) {eqs:List (Nat×List Bool)} {o:Oper} {po:PO} (hd:∀ d,o.dst=some d→d < n) (h:wo P eqs o=some po) (hnc:po.aT=false):Good P n o po:=by
 subst hP;unfold wo at h;split at h
 ·rename_i t m x ok hop;split at h
  ·rename_i k e m' x' h1 h2 h3;split at h
   ·rename_i i h4;simp only [Option.map_eq_some_iff,Option.bind_eq_some_iff] at h;obtain ⟨z,⟨zv,h5,h6⟩,rfl⟩:=h;exact JU hd hop h1 h4 h5 h6 h2 h3
   ·cases h
  ·cases h
 ·rename_i t m x v hop;split at h
  ·rename_i k e m' x' v' h1 h2 h3 h4 h5;cases h;exact AU h5 (.inl hop) h1 h2 h3 h4
  ·cases h
 ·rename_i t m x v hop;split at h
  ·rename_i k e m' x' v' h1 h2 h3 h4 h5;cases h;exact AU h5 (.inr hop) h1 h2 h3 h4
  ·cases h
 ·rename_i t m x hop;split at h
  ·rename_i k e m' x' h1 h2 h3;split at h
   ·rename_i i h4;simp only [Option.map_eq_some_iff,Option.bind_eq_some_iff] at h;obtain ⟨z,⟨zv,h5,h6⟩,rfl⟩:=h;exact GL hd hop h1 h4 h5 h6 h2 h3
   ·cases h
  ·cases h
 ·rename_i t m x v hop;split at h
  ·rename_i m' x' v' h2 h3 h4 h5;cases h;exact GN h5 hop h2 h3 h4
  ·cases h
 ·rename_i f fo co hop;split at h
  ·rename_i a c h1 h2;cases h;exact JR hd hop h1 h2
  ·cases h
 ·rename_i x hop;simp only [Option.map_eq_some_iff] at h;obtain ⟨x',hx,rfl⟩:=h;exact Dz hd hop hx
 ·simp only [Option.map_eq_some_iff] at h;obtain ⟨x',hx,rfl⟩:=h;cases hnc
 ·(repeat' split at h) <;> first | (cases h;done) | (cases h;cases hnc)
 ·(repeat' split at h) <;> first | (cases h;done) | (cases h;cases hnc)
 ·(repeat' split at h) <;> first | (cases h;done) | (cases h;cases hnc)
 ·(repeat' split at h) <;> first | (cases h;done) | (cases h;cases hnc)
 ·(repeat' split at h) <;> first | (cases h;done) | (cases h;cases hnc)
 ·(repeat' split at h) <;> first | (cases h;done) | (simp only [Option.map_eq_some_iff] at h;obtain ⟨_,_,rfl⟩:=h;cases hnc)
 ·(repeat' split at h) <;> first | (cases h;done) | (cases h;cases hnc)
 ·(repeat' split at h) <;> first | (cases h;done) | (cases h;cases hnc)
 ·rename_i c hop;split at h
  ·rename_i hc;split at h
   ·rename_i t k' m x h1 h2;split at h
    ·rename_i k e m' x' h3 h4 h5;split at h
     ·rename_i he;subst he;cases h;exact GK hd hop hc (yA h2) (yA h1) h3 h4 h5
     ·cases h
    ·cases h
   ·cases h
  ·rename_i hc;split at h
   ·rename_i t m h1 h2;split at h
    ·rename_i k e m' h3 h4;cases h;exact GR hd hop hc (arr1 h2) (arr1 h1) h3 h4
    ·cases h
   ·cases h
  ·(repeat' split at h) <;> first | (cases h;done) | (cases h;cases hnc)
  ·rename_i hc;split at h
   ·rename_i t t' x y h1 h2;split at h
    ·rename_i E x' y' h3 h4 h5;split at h
     ·rename_i i h6;cases h;exact JI hd hop hc (yA h2) (yA h1) h3 h6 h4 h5
     ·cases h
    ·cases h
   ·cases h
  ·(repeat' split at h) <;> first | (cases h;done) | (simp only [Option.map_eq_some_iff] at h;obtain ⟨_,_,rfl⟩:=h;cases hnc)
  ·(repeat' split at h) <;> first | (cases h;done) | (simp only [Option.map_eq_some_iff] at h;obtain ⟨_,_,rfl⟩:=h;cases hnc)
  ·cases h
 ·cases h
theorem O9 [Bor] {o:Oper} {Q:Exit→Act→World→Prop} {K:Av→Cg→Prop} {K':Act→World→Prop} (hs:Sim w0 S0 n W s a w) (hd:∀ d,o.dst=some d→d < n) {t E:TypeId} {i:TypeInfo} {z:Value} {xo yo:Operand} {x y:PX} {c:Nat} {cc:Call} (hop:o.op=.call cc) (hc:cc.callee=.builtin .append) (ha:cc.args=#[xo,yo]) (hat:cc.argTypes=#[t,t])
 (ht:Try.prog.underlying t=some (.slice E)) (hi:Try.prog.info? E=some i) (hz:i.zero=some z) (hzs:z.cells.size=i.size) (hsz:0 < i.size) (hx:cX xo=some x) (hy:cX yo=some y)
 (hK:∀ v ch W' a' w',K v ch→Sim w0 S0 n W' (s.ap o.dst v ch) a' w'→K' a' w') (hg:rW s c K (.app E i.size i.bytes x y)):o.wp Try.prog a w K' Q:=by
 obtain ⟨news,hn,hg⟩:=aj.1 hg
 obtain ⟨A,cap2,vs,e0,e3,e4,e6,e5⟩:∃ (A:Option Addr) (cap2:Nat) (vs:List Value),a.eval yo=.slice A news.length cap2∧vs.length=news.length * i.size∧(∀ u ∈ vs,u.oneCell'=true) ∧
  (news.length=0∨∃ b o,A=some ⟨b,o,none⟩∧∀ j u,vs[j]? = some u→w.cell? ⟨b,o+j,none⟩=some u)∧∀ k r j x,news[k]? = some r→r[j]? = some x→∃ u,vs[k * i.size+j]? = some u∧RD W.S w x u:=by
  have hq:(∀ r ∈ news,r.length=i.size):=by
   unfold appG at hg;split at hg
   ·exact hg.1.1
   ·obtain ⟨ao,h1,hg⟩:=aj.1 hg;obtain ⟨v,h2,⟨h3,h4,q1,_⟩,_⟩:=aj.1 hg;exact q1
  unfold St.jr zq at hn;split at hn
  ·rename_i b hcy;split at hn
   ·rename_i E2 sz2 rows2 hvec;cases hn;obtain ⟨h1,_⟩:=ku hs hy hcy;have h1':a.eval yo=W.nv b:=h1;obtain ⟨hv,_⟩:=qm hs hvec
    by_cases hsz2:sz2=i.size
    ·subst hsz2;rw [h1'];exact AL hv
    ·have h0:news=[]:=by
      obtain ⟨_,_,g2,_⟩:=hv
      cases news with
      | nil=>rfl
      | cons r rs=>exact absurd ((g2 r (by simp)).symm.trans (hq r (by simp))) hsz2
     subst h0;obtain ⟨A,cap2,vs,f0,f1,f2,f3,f4⟩:=AL hv;refine ⟨A,cap2,[],by rw [h1'];exact f0,by simp,⟨fun u hu=>(by cases hu),.inl rfl,fun k r j x hk=>(by simp at hk)⟩⟩
   ·cases hn
  ·exact NQ (jI hs hy hn) hq
 unfold appG at hg;split at hg
 ·rename_i hcx;obtain ⟨⟨q1,q2,q3⟩,b,hl,hk⟩:=hg;obtain ⟨⟨f,hob,hfb⟩,hnl⟩:=lC hs hl;have ex:a.eval xo=.slice none 0 0:=(RD.fP (dJ hs hx hcx (by simp))).1;obtain ⟨v',w',r1,r2,r5,r6⟩:=rO ht hi hz hzs hsz o.type (pW w 0 E i.size) (A:=A) (cap2:=cap2) e3 e4 e6 (by omega) q3;rw [List.nil_append,Nat.zero_add] at r2;refine eH (rv':=v') (w':=w') (bL hop hc Builtin.append_ (fun _ _ _ _=>rfl) (by rw [ha,hat];simpa [ex,e0] using r1)) (hK _ _ (W.mP b v' w.heap.size) _ _ hk (hs.vec hl hob (old:=none) hd (.inl ⟨rfl,rfl⟩) r2 q1 e5 r5 r6))
 ·obtain ⟨ao,h1,hg⟩:=aj.1 hg;obtain ⟨⟨E',sz',rows⟩,h2,⟨h3,h4,q1,q2,q3⟩,b,hl,hk⟩:=aj.1 hg;dsimp only at h3 h4 q2 hk;subst h3;subst h4
  have hcx:s.cl x=.hv (.v ao):=by
   unfold zx at h1;split at h1
   ·rename_i b' he;cases h1;exact he
   ·cases h1
  have hba:s.hb ao=.vec E' i.size rows:=by
   unfold IZ at h2;split at h2
   ·rename_i he;cases h2;exact he
   ·cases h2
  obtain ⟨⟨f,hob,hfb⟩,hnl⟩:=lC hs hl;have hfa:f ao=.vec E' i.size rows:=by rw [←hba];unfold St.hb;rw [hob];rfl
  obtain ⟨⟨xs,g1,g2,g3,g4⟩,hlva⟩:=qm hs hba;obtain ⟨ex,_⟩:=ku hs hx hcx;have ex':a.eval xo=W.nv ao:=ex;obtain ⟨v',w',r1,r2,r5,r6⟩:=rO ht hi hz hzs hsz o.type g1 (A:=A) (cap2:=cap2) e3 e4 e6 q2 q3;refine eH (rv':=v') (w':=w') (bL hop hc Builtin.append_ (fun _ _ _ _=>rfl) (by rw [ha,hat];simpa [ex',e0] using r1)) (hK _ _ (W.mP b v' w.heap.size) _ _ hk ?_)
  exact hs.vec hl hob (old:=some ao) hd (.inr ⟨ao,_,_,rows,rfl,hfa,rfl⟩) (by rw [List.length_append];exact r2) (fun r hr=>by
   rcases List.mem_append.1 hr with h | h
   ·exact g2 r h
   ·exact q1 r h) (KR g1.1 g3 e5) r5 r6
theorem Ph [Bor] {o:Oper} {Q:Exit→Act→World→Prop} {K:Av→Cg→Prop} {K':Act→World→Prop} (hs:Sim w0 S0 n W s a w) (hd:∀ d,o.dst=some d→d < n) {t E ln c:Nat} {ei:TypeInfo} {ze:Value} {ps:Array (Nat×Operand)} {qs:List (Nat×Nat×PX)} (hop:o.op=.buildSlice t ln ps)
 (ht:Try.prog.underlying t=some (.slice E)) (hi:Try.prog.info? E=some ei) (hze:ei.zero=some ze) (hzo:∀ v ∈ ze.cells.toList,v.oneCell'=true) (hzs:ze.cells.size=ei.size) (hsz:0 < ei.size) (hln:ln * ei.size≤16777216)
 (hl:ps.toList.length=qs.length) (hpl:∀ (j:Nat) i xo off k x,ps.toList[j]? = some (i,xo)→qs[j]? = some (off,k,x)→(some (i * ei.size,ei.size):Option (Nat×Nat))=some (off,k)∧cX xo=some x)
 (hK:∀ v ch W' a' w',K v ch→Sim w0 S0 n W' (s.ap o.dst v ch) a' w'→K' a' w') (hg:rW s c K (.lit E ei.size ((Array.range (ln * ei.size)).map (ze.cells[· % ze.cells.size]!)).toList ln qs)):o.wp Try.prog a w K' Q:=by
 obtain ⟨xs,hx,b,hlay,hk⟩:=aj.1 hg;simp only [Option.bind_eq_some_iff] at hx;obtain ⟨rs,hrs,cs,hcs,hxs⟩:=hx;obtain ⟨cells,rows,hch,hclen,hlnm,hrl,hrsz,hxr,hrun⟩:=rR hs hop ht hi hze hzo hzs hsz hln hl hpl hrs hcs hxs;obtain ⟨⟨f,hob,hfb⟩,hnl⟩:=lC hs hlay;rw [hch] at hk;refine eH hrun (hK _ _ (W.mP b (.slice (some ⟨w.heap.size,0,none⟩) ln ln) w.heap.size) _ _ hk ?_);refine hs.vec hlay hob (old:=none) (v0:=.slice none 0 0) (xs:=cells.toList) hd (.inl ⟨rfl,rfl⟩) ?_ hrsz hxr ⟨rfl,rfl,rfl,by simp,fun k hk2 _=>iK w _ k hk2⟩ (.inr rfl);rw [hrl];exact ⟨by simpa using hclen,.inr ⟨w.heap.size,ln,cells,(0,0),rfl,Nat.zero_le _,heap_alloc_new w _,Nat.le_refl _,by unfold maxLen;omega,hclen,by rw [List.take_of_length_le];simp [hclen],.inl rfl⟩⟩
theorem Lr [Bor] {o:Oper} {Q:Exit→Act→World→Prop} {K:Av→Cg→Prop} {K':Act→World→Prop} (hs:Sim w0 S0 n W s a w) (hd:∀ d,o.dst=some d→d < n) {t E c:Nat} {ei:TypeInfo} {xo lo:Operand} {x l:PX} (hop:o.op=.slice t xo (some lo) none none)
 (ht:Try.prog.underlying t=some (.slice E)) (hi:Try.prog.info? E=some ei) (hx:cX xo=some x) (hl:cX lo=some l)
 (hK:∀ v ch W' a' w',K v ch→Sim w0 S0 n W' (s.ap o.dst v ch) a' w'→K' a' w') (hg:rW s c K (.view ei.size x l)):o.wp Try.prog a w K' Q:=by
 obtain ⟨ao,h1,hg⟩:=aj.1 hg;obtain ⟨⟨E',sz',rows⟩,h2,hg⟩:=aj.1 hg;obtain ⟨m,h3,⟨h4,h5,h6⟩,hk⟩:=aj.1 hg;dsimp only at h4 h6 hk
 have hcx:s.cl x=.hv (.v ao):=by
  unfold zx at h1;split at h1
  ·rename_i b' he;cases h1;exact he
  ·cases h1
 have hba:s.hb ao=.vec E' sz' rows:=by
  unfold IZ at h2;split at h2
  ·rename_i he;cases h2;exact he
  ·cases h2
 subst h4;obtain ⟨⟨xs,g1,g2,g3,g4⟩,hlva⟩:=qm hs hba;obtain ⟨ex,_⟩:=ku hs hx hcx;have ex':a.eval xo=W.nv ao:=ex;obtain ⟨kk,hkk⟩:=dN hs hl h3;have hne:rows≠[]:=by rintro rfl;simp at h6;omega
 obtain ⟨g,cap,cur,fz,e1,e2,e3,e4,e5,e6,e7,e8⟩:=oJ g1 (by cases rows with | nil=>exact absurd rfl hne | cons _ _=>simp)
 have e9:g=W.nm ao:=by
  have:=g4 hne;rw [e1] at this
  simpa [Value.ownBlock] using this
 subst e9;obtain ⟨k,rfl⟩:∃ k:Nat,m=k:=⟨m.toNat,by omega⟩
 have hkl:k < rows.length:=by omega
 refine eH (rv':=.slice (some ⟨W.nm ao,k * ei.size,none⟩) (rows.length - k) (cap - k)) (w':=w) ?_ (hK _ _ W _ _ (hk (cap - k) (by simp;omega) (by omega)) (hs.put hd ⟨rfl,rfl,hlva,by simp;omega,by omega⟩))
 have hadd:(⟨W.nm ao,0,none⟩:Addr).add (k * ei.size)=⟨W.nm ao,k * ei.size,none⟩:=by rw [addr_add,Nat.zero_add]
 have hc1:¬ (k > rows.length):=by omega
 have hb:(Instr.sliceBounds true rows.length cap (some (Value.int kk (k:Int))) none none).run Try.prog w=.ok (k,rows.length,cap) w:=by
  have h7:(0:Int)≤(k:Int):=by omega
  have h8:(k:Int)≤(rows.length:Int):=by omega
  simp only [Instr.sliceBounds,Instr.sliceBound,asIntOf,Sem.run_bind,Sem.run_pure,Result.andThen_ok];rw [if_pos ⟨h7,h8⟩];simp
 have hm:¬ cap=k:=by omega
 simp only [execOp,hop,Option.map_none,Option.map_some];rw [ex',e1,hkk];simp [Instr.sliceAt,Instr.slice,run_underlying ht,sizeOf,typeInfo,hi,hb,hm,hadd]
theorem Jg [Bor] [I:bT] {env:Env} (hE:aA P env) (hp:∀ w,iD w0.heap.size w0 w→I.p w) {eqs:List (Nat×List Bool)} {o:Oper} {po:PO} {Q:Exit→Act→World→Prop} (hs:Sim w0 S0 n W s a w) (hd:∀ d,o.dst=some d→d < n)
 (h:wo P eqs o=some po) (hcall:po.aT=true) {K:Av→Cg→Prop} {K':Act→World→Prop} (hK:∀ v ch W' a' w',K v ch→Sim w0 S0 n W' (s.ap o.dst v ch) a' w'→K' a' w') (hg:po.go env s (o.dst.getD 0) K):o.wp P a w K' Q:=by
 have hP:=hE.prg;subst hP;unfold wo at h;split at h
 ·(repeat' split at h) <;> first | (cases h;done) | (simp only [Option.map_eq_some_iff,Option.bind_eq_some_iff] at h;obtain ⟨_,_,rfl⟩:=h;cases hcall)
 ·(repeat' split at h) <;> first | (cases h;done) | (cases h;cases hcall)
 ·(repeat' split at h) <;> first | (cases h;done) | (cases h;cases hcall)
 ·(repeat' split at h) <;> first | (cases h;done) | (simp only [Option.map_eq_some_iff,Option.bind_eq_some_iff] at h;obtain ⟨_,_,rfl⟩:=h;cases hcall)
 ·(repeat' split at h) <;> first | (cases h;done) | (cases h;cases hcall)
 ·(repeat' split at h) <;> first | (cases h;done) | (cases h;cases hcall)
 ·simp only [Option.map_eq_some_iff] at h;obtain ⟨_,_,rfl⟩:=h;cases hcall
 ·rename_i x hop;simp only [Option.map_eq_some_iff] at h;obtain ⟨x',hx,rfl⟩:=h;exact Pn hs hd hop hx hK hg
 ·rename_i t m hop;split at h
  ·rename_i k e m' d h1 h2 h3;cases h;exact Ir hs hd hop h1 h2 hK hg
  ·cases h
 ·rename_i t hop;split at h
  ·rename_i k e d h1 h2;cases h;exact Pj hs hd hop hK hg
  ·cases h
 ·rename_i t x hop;split at h
  ·rename_i k e x' d h1 h2 h3;cases h;exact Lp hs hd hop h1 h2 hK hg
  ·cases h
 ·rename_i t hop;split at h
  ·rename_i i d h1 h2;split at h
   ·rename_i z h3;split at h
    ·rename_i h4;cases h;exact Pm hs hd hop h1 h3 (gV h4.1) hK hg
    ·cases h
   ·cases h
  ·cases h
 ·rename_i t x hop;split at h
  ·rename_i x' d h1 h2;split at h
   ·cases h;exact Pg hs hd hop h1 hK hg
   ·cases h
  ·cases h
 ·rename_i t ln ps hop;split at h
  ·rename_i E d h1 h2;split at h
   ·rename_i i h3;split at h
    ·rename_i z h4;split at h
     ·rename_i hcond;simp only [Option.map_eq_some_iff] at h;obtain ⟨qs,h5,rfl⟩:=h;obtain ⟨h6,h7⟩:=lQ _ _ _ h5;exact Ph hs hd hop h1 h3 h4 (gV hcond.1.1) hcond.1.2.1 hcond.1.2.2.1 hcond.1.2.2.2 h6 h7 hK hg
     ·cases h
    ·cases h
   ·cases h
  ·cases h
 ·rename_i t x lo hop;split at h
  ·rename_i E x' lo' d h1 h2 h3 h4;split at h
   ·rename_i i h5;split at h
    ·cases h;exact Lr hs hd (c:=d+1) hop h1 h5 h2 h3 hK hg
    ·cases h
   ·cases h
  ·cases h
 ·rename_i t l c hop;split at h
  ·rename_i E l' c' d h1 h2 h3 h4;split at h
   ·rename_i i h5;split at h
    ·rename_i z h6;split at h
     ·rename_i h7;cases h;exact Si hs hd hop h1 h5 h6 h7.1.2 (gV h7.1.1) h2 h3 hK hg
     ·cases h
    ·cases h
   ·cases h
  ·cases h
 ·rename_i c hop;split at h
  ·(repeat' split at h) <;> first | (cases h;done) | (cases h;cases hcall)
  ·(repeat' split at h) <;> first | (cases h;done) | (cases h;cases hcall)
  ·rename_i hc;split at h
   ·rename_i t t' x y h1 h2;split at h
    ·rename_i E x' y' d h3 h4 h5 h6;split at h
     ·rename_i i h7;split at h
      ·rename_i z h8;split at h
       ·rename_i hcond;obtain ⟨⟨rfl,h9,h10⟩,_⟩:=hcond;cases h;exact O9 hs hd hop hc (yA h2) (yA h1) h3 h7 h8 h9 h10 h4 h5 hK hg
       ·cases h
      ·cases h
     ·cases h
    ·cases h
   ·cases h
  ·(repeat' split at h) <;> first | (cases h;done) | (cases h;cases hcall)
  ·rename_i f hcf;split at h
   ·rename_i fn hfn;split at h
    ·rename_i hcond;simp only [Option.map_eq_some_iff] at h;obtain ⟨xs,hxs,rfl⟩:=h;obtain ⟨az,haz,hg'⟩:=aj.1 hg
     have hrun:(execOp a.eval o).run Try.prog w=.ok (.enter f (c.args.map a.eval)) w:=by
      have hn:=hcond.1.1
      have hb2:fn.body≠none:=by
       intro hb;have:=hcond.1.2;rw [hb] at this;cases this
      simp [execOp,hop,resolve,hcf,Act.eval,Deferred.ofValue,invoke,callFunc,hfn,hn,hb2]
     have hra:=zf hs _ _ _ hxs haz
     have hra2:mK W w az (c.args.map a.eval):=by
      have e:(c.args.toList.map a.eval).toArray=c.args.map a.eval:=by apply Array.ext';simp
      rw [←e];exact hra
     exact Am hE hp hs hd hrun hra2 hK hg'
    ·split at h
     ·rename_i hcond;simp only [Option.map_eq_some_iff] at h;obtain ⟨xs,hxs,rfl⟩:=h;obtain ⟨az,haz,hg'⟩:=aj.1 hg
      have hrun:(execOp a.eval o).run Try.prog w=.ok (.enter f (c.args.map a.eval)) w:=by
       have hn:=hcond.1.1
       have hb2:fn.body≠none:=by
        intro hb;have:=hcond.1.2;rw [hb] at this;cases this
       simp [execOp,hop,resolve,hcf,Act.eval,Deferred.ofValue,invoke,callFunc,hfn,hn,hb2]
      have hra:=zf hs _ _ _ hxs haz
      have hra2:mK W w az (c.args.map a.eval):=by
       have e:(c.args.toList.map a.eval).toArray=c.args.map a.eval:=by apply Array.ext';simp
       rw [←e];exact hra
      exact Jd hE hp hs hd hrun hra2 hK hg'
     ·cases h
   ·cases h
  ·rename_i t hcf;split at h
   ·rename_i l hl;split at h
    ·rename_i fn hfn;split at h
     ·rename_i hcond;simp only [Option.map_eq_some_iff] at h;obtain ⟨xs,hxs,rfl⟩:=h;obtain ⟨⟨l1,l2⟩,hf,hg'⟩:=aj.1 hg;obtain ⟨az,haz,hg'⟩:=aj.1 hg'
      have hcl:s.cl (.t t)=.hv (.f l.length l1 l2):=by
       unfold E8 at hf;split at hf
       ·rename_i g a' c' he;split at hf
        ·rename_i hg0;cases hf;rw [he,hg0]
        ·cases hf
       ·cases hf
      obtain ⟨ef,q1,q2⟩:=ku hs (xo:=.tmp t) rfl hcl;have ef':a.eval (.tmp t)=.func (.func l.length) (l1.map (pV W)).toArray (l2.map (pV W)).toArray:=ef
      have hrun:(execOp a.eval o).run Try.prog w=.ok (.enter l.length ((l1.map (pV W)).toArray ++ c.args.map a.eval ++ (l2.map (pV W)).toArray)) w:=by
       have hn:=hcond.1
       have hb2:fn.body≠none:=by
        intro hb;have:=hcond.2;rw [hb] at this;cases this
       simp [execOp,hop,resolve,hcf,ef',Deferred.ofValue,invoke,callFunc,hfn,hn,hb2]
      have hra:=zf hs _ _ _ hxs haz
      have hra2:mK W w az (c.args.map a.eval):=by
       have e:(c.args.toList.map a.eval).toArray=c.args.map a.eval:=by apply Array.ext';simp
       rw [←e];exact hra
      exact Am hE hp hs hd hrun (((mK.ptrs q1).app hra2).app (mK.ptrs q2)) hK hg'
     ·cases h
    ·cases h
   ·cases h
  ·cases h
 ·cases h
theorem Ce [Bor] (hP:P=Try.prog) {eqs:List (Nat×List Bool)} (heq:∀ p,p ∈ eqs→EqT P p.1 p.2) {ops:Array Oper} {o:Oper} {po:PO} (hd:∀ d,o.dst=some d→d < n) (h:yV P eqs ops o=some po) (hnc:po.aT=false):Good P n o po:=by
 unfold yV at h
 cases hh:wo P eqs o with
 | some po'=>rw [hh] at h;cases h;exact Cb hP hd hh hnc
 | none =>
 rw [hh] at h
 cases hx:wu P eqs ops o with
 | some po'=>rw [hx] at h;cases h;exact Cm hd hx hnc
 | none=>rw [hx] at h;exact zI heq hd h hnc
theorem Jh [Bor] [I:bT] {env:Env} (hE:aA P env) (hp:∀ w,iD w0.heap.size w0 w→I.p w) {eqs:List (Nat×List Bool)} {ops:Array Oper} {o:Oper} {po:PO} {Q:Exit→Act→World→Prop} (hs:Sim w0 S0 n W s a w) (hd:∀ d,o.dst=some d→d < n)
 (h:wu P eqs ops o=some po) (hcall:po.aT=true) {K:Av→Cg→Prop} {K':Act→World→Prop} (hK:∀ v ch W' a' w',K v ch→Sim w0 S0 n W' (s.ap o.dst v ch) a' w'→K' a' w') (hg:po.go env s (o.dst.getD 0) K):o.wp P a w K' Q:=by
 unfold wu at h;split at h
 ·rename_i t x hop;split at h
  ·rename_i hsz;split at h
   ·cases h;obtain ⟨v,hv,hk⟩:=aj.1 hg;obtain ⟨d,i,hu,hi,hag⟩:=oL hsz;have hagg:kF d=false:=by cases hq:kF d <;> simp [hq] at hag ⊢
    unfold gAt at hv;split at hv
    ·rename_i g k hval;obtain ⟨hone,hcell⟩:=hE.t g k v hv;obtain ⟨ea,_⟩:=jD hs (xo:=.tmp x) rfl hval;have hw:=hcell w (hp _ hs.below)
     have hrun:(execOp a.eval o).run P w=.ok (.value v) w:=by
      have hag':=jB (P:=P) hu w;rw [hagg] at hag';simp [execOp,hop,Instr.loadAt,ea,Instr.sureAddr,loadVar,hag',hw]
     unfold Oper.wp;rw [hrun];exact hK _ _ _ _ _ hk (hs.put hd (RD.sc v hone))
    ·cases hv
   ·cases h
  ·cases h
 ·(repeat' split at h) <;> first | (cases h;done) | (simp only [Option.map_eq_some_iff] at h;obtain ⟨_,_,rfl⟩:=h;cases hcall)
 ·cases h;cases hcall
 ·rename_i c hop;split at h
  ·rename_i t hcf;split at h
   ·rename_i l hl;split at h
    ·rename_i fn hfn;split at h
     ·rename_i hcond;simp only [Option.map_eq_some_iff] at h;obtain ⟨xs,hxs,rfl⟩:=h;obtain ⟨_,hf,hg'⟩:=aj.1 hg
      have hfv:a.eval (.tmp t)=.func (.func l.length) #[] #[]:=by
       unfold tu at hf;split at hf
       ·rename_i gg aa bb hval;obtain ⟨ea,_⟩:=jD hs (xo:=.tmp t) rfl hval;split at hf
        ·rename_i hq;obtain ⟨rfl,h1,h2⟩:=hq;rw [ea,Array.size_eq_zero_iff.1 h1,Array.size_eq_zero_iff.1 h2]
        ·cases hf
       ·cases hf
      have hrun:(execOp a.eval o).run P w=.ok (.enter l.length (c.args.map a.eval)) w:=by
       have hn:=hcond.1
       have hb2:fn.body≠none:=by
        intro hb;have:=hcond.2;rw [hb] at this;cases this
       simp [execOp,hop,resolve,hcf,hfv,Deferred.ofValue,invoke,callFunc,hfn,hn,hb2]
      exact ER hE hp hs hd hrun hxs hK hg'
     ·cases h
    ·cases h
   ·cases h
  ·cases h
 ·cases h
theorem FE [Bor] [I:bT] {env:Env} (hE:aA P env) (hp:∀ w,iD w0.heap.size w0 w→I.p w) {eqs:List (Nat×List Bool)} (heq:∀ p,p ∈ eqs→EqT P p.1 p.2) {ops:Array Oper} {o:Oper} {i:PI} {idx:Nat} {Q:Exit→Act→World→Prop} (hi:ops[idx]? = some o) (hc:tY P n eqs ops o=some i) (hs:Sim w0 S0 n W s a w)
 {K:Av→Cg→Prop} (hgo:i.go env s K) {K':Act→World→Prop} (hK:∀ v ch W' a' w',K v ch→Sim w0 S0 n W' (s.ap i.dst v ch) a' w'→K' a' w'):wpOp P ops Q idx K' a w:=by
 unfold tY at hc;split at hc
 ·rename_i po hpo;split at hc
  ·rename_i hdst;have hd:=Jl hdst
   -- the operation itself
   have op:∀ K:Av→Cg→Prop,(∀ v ch W' a' w',K v ch→Sim w0 S0 n W' (s.ap o.dst v ch) a' w'→K' a' w')→po.go env s (o.dst.getD 0) K→o.wp P a w K' Q:=fun K hK hg=>by
    cases hcall:po.aT with
    | false =>
      have hg':∃ v ch,po.fn s (o.dst.getD 0)=some (v,ch)∧K v ch:=by
       have h1:aO (po.fn s (o.dst.getD 0)) (fun p=>K p.1 p.2):=by
        cases po <;> first | exact hg | cases hcall
       obtain ⟨⟨v,ch⟩,h2,h3⟩:=aj.1 h1;exact ⟨v,ch,h2,h3⟩
      obtain ⟨v,ch,h1,h2⟩:=hg';obtain ⟨W',rv,w',h3,h4⟩:=Ce hE.prg heq hd hpo hcall w0 S0 W s a w v ch hs h1;unfold Oper.wp
      rcases h3 with h3 | ⟨h3,rfl⟩
      ·rw [h3];exact hK v ch W' _ _ h2 h4
      ·rw [h3];exact hK v ch W' _ _ h2 h4
    | true =>
      cases hph:wo P eqs o with
      | some po' =>
        have hpe:po'=po:=by unfold yV at hpo;rw [hph] at hpo;simpa using hpo
        subst hpe;exact Jg hE hp hs hd hph hcall hK hg
      | none =>
      cases hpx:wu P eqs ops o with
      | some po' =>
        have hpe:po'=po:=by unfold yV at hpo;rw [hph,hpx] at hpo;simpa using hpo
        subst hpe;exact Jh hE hp hs hd hpx hcall hK hg
      | none =>
      have hpo:fM P eqs o=some po:=by unfold yV at hpo;rw [hph,hpx] at hpo;exact hpo
      cases po with
      | call f xs =>
        unfold fM at hpo;split at hpo
        case h_22 c hop =>
         split at hpo
         ·rename_i b hcb;unfold oU at hpo
          (repeat' split at hpo) <;> (first | (cases hpo;done) | (simp only [Option.map_eq_some_iff] at hpo;obtain ⟨_,_,h⟩:=hpo;cases h))
         ·rename_i f' hcf;split at hpo
          ·rename_i fn hfn;split at hpo
           ·rename_i hcond;simp only [Option.map_eq_some_iff] at hpo;obtain ⟨xs',hxs,heqc⟩:=hpo;cases heqc
            have hrun:(execOp a.eval o).run P w=.ok (.enter f (c.args.map a.eval)) w:=by
             have hn:=hcond.1
             have hb2:fn.body≠none:=by
              intro hb;have:=hcond.2;rw [hb] at this;cases this
             simp [execOp,hop,resolve,hcf,Act.eval,Deferred.ofValue,invoke,callFunc,hfn,hn,hb2]
            exact ER hE hp hs hd hrun hxs hK hg
           ·cases hpo
          ·cases hpo
         ·cases hpo
        all_goals first
         | (cases hpo;done)
         | ((repeat' split at hpo) <;> (first | (cases hpo;done) | (simp only [Option.map_eq_some_iff] at hpo;obtain ⟨_,_,h⟩:=hpo;cases h) | (obtain ⟨_,h⟩:=fH hpo;cases h)))
         | (simp only [Option.map_eq_some_iff] at hpo;obtain ⟨_,_,h⟩:=hpo;cases h)
      | callv x f xs=>exact absurd hpo (yg x f xs)
      | ldg x=>exact absurd hpo (Cj x)
      | hal c k=>exact absurd hpo (Ci c k)
      | next x=>exact absurd hpo (zJ x)
      | callh f xs=>exact absurd hpo (xZ f xs)
      | callp f xs=>exact absurd hpo (yc f xs)
      | callc x f xs=>exact absurd hpo (xY x f xs)
      | _=>cases hcall
   unfold wpOp;simp only [hi];split at hc
   ·rename_i hg;cases hc;have hw:Region.wanted o (yielded ops a.tmps)=true:=by simp [Region.wanted,hg]
    rw [if_pos hw];exact .inl (op K hK hgo)
   ·rename_i g want hg;split at hc
    ·rename_i t ht;cases hc;obtain ⟨b,hb,h1,h2⟩:=aj.1 hgo
     have hy:yielded ops a.tmps g=b:=by
      unfold St.gd at hb;split at hb
      ·rename_i hsk;cases hb;have h3:=hs.sl t
       have hslot:a.tmps.getD t undef=.tuple #[]:=by
        cases hv:s.sl t with
        | un=>rw [hv] at hsk;cases hsk
        | b x=>rw [hv] at hsk;cases hsk
        | tup xs =>
          cases xs with
          | cons x xs=>rw [hv] at hsk;cases hsk
          | nil =>
            rw [hv] at h3;obtain ⟨vs,e1,e2,_⟩:=h3;have:vs=#[]:=by apply Array.eq_empty_of_size_eq_zero;simpa using e2.symm
            rw [e1,this]
       unfold yielded;rw [ht];simp only [Option.bind_some]
       cases hq:a.tmps[t]? with
       | none=>rfl
       | some u=>simp [hq] at hslot;rw [hslot]
      ·rw [Option.map_eq_some_iff] at hb;obtain ⟨c,hc,rfl⟩:=hb
       have hslot:a.tmps.getD t undef=.bool c:=by
        have:=sN hs (xo:=.tmp t) (x:=.t t) rfl hc
        simpa [Act.eval] using this
       unfold yielded;rw [ht];simp only [Option.bind_some]
       cases hq:a.tmps[t]? with
       | none=>simp [hq,undef] at hslot
       | some u=>simp [hq] at hslot;rw [hslot]
     by_cases hbw:b=some want
     ·have hw:Region.wanted o (yielded ops a.tmps)=true:=by simp [Region.wanted,hg,hy,hbw]
      rw [if_pos hw];exact .inl (op K hK (h1 hbw))
     ·have hw:Region.wanted o (yielded ops a.tmps)=false:=by simp [Region.wanted,hg,hy,hbw]
      rw [if_neg (by rw [hw];decide)]
      exact hK _ _ _ _ _ (h2 hbw) (hs.put hd ⟨#[],rfl,rfl,fun i x u h=>by simp at h⟩)
    ·cases hc
  ·cases hc
 ·cases hc
end
section
variable {P:Program} {n:Nat} {w0:World} {S0:Nat→Nat}
theorem MH [Bor] [I:bT] {env:Env} (hE:aA P env) (hp:∀ w,iD w0.heap.size w0 w→I.p w) {eqs:List (Nat×List Bool)} (heq:∀ p,p ∈ eqs→EqT P p.1 p.2) {ops:Array Oper} {Q:Exit→Act→World→Prop} {K:St→Prop}
 (hK:∀ s W a w,K s→Sim w0 S0 n W s a w→Q .normal a w):∀ (is:List PI) (k:Nat) (W:Wit) (s:St) (a:Act) (w:World),(ops.toList.drop k).map (tY P n eqs ops)=is.map some→Sim w0 S0 n W s a w→aS env is s K →
  wpOps P ops Q (List.range' k is.length) a w:=by
 intro is
 induction is with
 | nil=>intro k W s a w _ hs h;exact hK s W a w h hs
 | cons i is ih =>
   intro k W s a w hm hs h
   have hlt:k < ops.toList.length:=by
    rcases Nat.lt_or_ge k ops.toList.length with h | h
    ·exact h
    ·rw [List.drop_eq_nil_of_le h] at hm;simp at hm
   rw [List.drop_eq_getElem_cons hlt] at hm;simp only [List.map_cons,List.cons.injEq] at hm;rw [List.length_cons,List.range'_succ,wpOps_cons];refine FE hE hp heq (by simp) hm.1 hs h (fun v ch W' a' w' h1 h2=>?_);exact ih (k+1) W' _ a' w' hm.2 h2 h1
end
theorem fU:∀ (cs:List Cl) (off:Nat) (ds:List Cl) (i:Nat),(iC cs off ds)[i]? = if off≤i∧i < off+ds.length∧i < cs.length then ds[i - off]? else cs[i]?
 | [],off,ds,i=>by simp [iC]
 | c :: cs,0,[],i=>by simp [iC]
 | c :: cs,0,d :: ds,i=>by
   simp only [iC]
   cases i with
   | zero=>simp
   | succ i =>
     rw [List.getElem?_cons_succ,fU cs 0 ds i]
     by_cases h:i < ds.length∧i < cs.length
     ·rw [if_pos ⟨by omega,by omega,h.2⟩,if_pos ⟨by omega,by simp;omega,by simp;exact h.2⟩]
      simp
     ·rw [if_neg (by intro h2;exact h ⟨by omega,h2.2.2⟩),if_neg (by intro h2;simp at h2;exact h ⟨by omega,h2.2⟩)]
      simp
 | c :: cs,k+1,ds,i=>by
   simp only [iC]
   cases i with
   | zero=>simp
   | succ i =>
     rw [List.getElem?_cons_succ,fU cs k ds i]
     by_cases h:k≤i∧i < k+ds.length∧i < cs.length
     ·rw [if_pos h,if_pos ⟨by omega,by omega,by simp;exact h.2.2⟩,show i+1 - (k+1)=i - k by omega]
     ·rw [if_neg h,if_neg (by intro h2;simp at h2;exact h ⟨h2.1,by omega,h2.2.2⟩)]
      simp
theorem iY (cs:List Cl) (off:Nat) (ds:List Cl):(iC cs off ds).length=cs.length:=by
 apply Nat.le_antisymm
 ·rcases Nat.lt_or_ge cs.length (iC cs off ds).length with h | h
  ·have h1:=List.getElem?_eq_getElem h;rw [fU,if_neg (by omega),List.getElem?_eq_none (Nat.le_refl _)] at h1;cases h1
  ·exact h
 ·rcases Nat.lt_or_ge (iC cs off ds).length cs.length with h | h
  ·have h1:(iC cs off ds)[(iC cs off ds).length]? = none:=List.getElem?_eq_none (Nat.le_refl _);rw [fU] at h1;split at h1
   ·rename_i h2;rw [List.getElem?_eq_getElem (by omega)] at h1;cases h1
   ·rw [List.getElem?_eq_getElem h] at h1;cases h1
  ·exact h
theorem Iu (cs:List Cl) {a b:Nat} {xs ys:List Cl} (h:a+xs.length≤b∨b+ys.length≤a):iC (iC cs a xs) b ys=iC (iC cs b ys) a xs:=by
 apply List.ext_getElem?
 intro i;rw [fU,fU,fU,fU,iY,iY]
 (repeat' split) <;> first | rfl | (exfalso;omega)
def dO:Ob→Ob→Nat→Nat→Prop
 | .cells cs,.cells ds,off,n=>cs.length=ds.length∧∀ i,off≤i→i < off+n→cs[i]? = ds[i]?
 | x,y,_,_=>x=y
theorem dO.refl (x:Ob) (off n:Nat):dO x x off n:=by cases x <;> simp [dO]
structure Agree (looks:List Nat) (rd:List Rg) (s t:St):Prop where
 sl:∀ x,x ∈ looks→s.sl x=t.sl x
 ob:∀ r,r ∈ rd→s.gen r.1=t.gen r.1∧dO (s.ob r.1) (t.ob r.1) r.2.1 r.2.2
 nc:s.nc=t.nc
 al:∀ r,r ∈ rd→r.1=gI→∀ o,gI≤o→s.ob o=t.ob o
theorem dO.heap {x y:Ob} {off n:Nat} (h:dO x y off n):eU x=eU y∧yH x=yH y:=by
 cases x <;> cases y <;> simp only [dO] at h <;> first | (cases h;done) | exact ⟨rfl,rfl⟩ | (cases h;exact ⟨rfl,rfl⟩)
section
variable {s t:St}
theorem dH {x:PX} (h:∀ y,y ∈ x.slots→s.sl y=t.sl y):s.ev x=t.ev x:=by
 cases x with
 | t n=>exact h n (by simp [PX.slots])
 | v c=>rfl
theorem bF {x:PX} (h:∀ y,y ∈ x.slots→s.sl y=t.sl y):s.cl x=t.cl x:=by unfold St.cl;rw [dH h]
theorem gG {x:PX} (h:∀ y,y ∈ x.slots→s.sl y=t.sl y):s.val x=t.val x:=by unfold St.val;rw [dH h]
theorem cZ {x:PX} (h:∀ y,y ∈ x.slots→s.sl y=t.sl y):s.int x=t.int x:=by unfold St.int;rw [dH h]
theorem nG {x:PX} (h:∀ y,y ∈ x.slots→s.sl y=t.sl y):s.boo x=t.boo x:=by unfold St.boo;rw [dH h]
theorem qA {x:PX} (h:∀ y,y ∈ x.slots→s.sl y=t.sl y):s.cs x=t.cs x:=by unfold St.cs;rw [dH h]
theorem kD:∀ (ps:List (Nat×Nat×PX)),(∀ y,y ∈ ps.flatMap (fun p=>p.2.2.slots)→s.sl y=t.sl y)→s.parts ps=t.parts ps
 | [],_=>rfl
 | (o,k,x) :: r,h=>by
   simp only [St.parts];rw [qA (x:=x) (fun y hy=>h y (by simp [hy])),kD r (fun y hy=>h y (by simp only [List.flatMap_cons,List.mem_append];exact .inr hy))]
theorem gW:∀ (xs:List PX),(∀ y,y ∈ xs.flatMap PX.slots→s.sl y=t.sl y)→s.args xs=t.args xs
 | [],_=>rfl
 | x :: r,h=>by
   have h1:=gW r (fun y hy=>h y (by simp only [List.flatMap_cons,List.mem_append];exact .inr hy))
   unfold St.args at h1 ⊢;simp only [List.map_cons];rw [dH (x:=x) (fun y hy=>h y (by simp only [List.flatMap_cons,List.mem_append];exact .inl hy))]
   cases (t.ev x).pa with
   | none=>rfl
   | some p=>simp only [aC,h1]
theorem uN (xs:List PX) (h:∀ y,y ∈ xs.flatMap PX.slots→s.sl y=t.sl y):s.recv xs=t.recv xs:=by
 cases xs with
 | nil=>rfl
 | cons x xs =>
   show (s.ev x).kM=(t.ev x).kM
   rw [dH (fun y hy=>h y (by simp only [List.flatMap_cons,List.mem_append];exact .inl hy))]
theorem tK {o g:Nat} {off n:Nat} (hg:s.gen o=t.gen o) (ho:dO (s.ob o) (t.ob o) off n):s.yw o g=t.yw o g:=by
 unfold St.yw;rw [hg];generalize s.ob o=x at *;generalize t.ob o=y at *;cases x <;> cases y <;> simp only [dO] at ho <;> first | (cases ho;done) | rfl | (cases ho;rfl)
theorem uM (xs:List PX) (h:∀ y,y ∈ xs.flatMap PX.slots→s.sl y=t.sl y):s.eX xs=t.eX xs:=by
 cases xs with
 | nil=>rfl
 | cons x xs =>
   show (s.ev x).fC=(t.ev x).fC
   rw [dH (fun y hy=>h y (by simp only [List.flatMap_cons,List.mem_append];exact .inl hy))]
theorem nY {o g:Nat} (hg:s.gen o=t.gen o) (ho:dO (s.ob o) (t.ob o) 0 big):s.iH o g=t.iH o g:=by
 unfold St.iH;rw [hg];generalize s.ob o=x at *;generalize t.ob o=y at *;cases x <;> cases y <;> simp only [dO] at ho <;> first | (cases ho;done) | rfl | skip
 rename_i cs ds;obtain ⟨h1,h2⟩:=ho
 by_cases hl:cs.length≤1000000
 ·have:cs=ds:=List.ext_getElem? fun i=>by
   rcases Nat.lt_or_ge i big with h | h
   ·exact h2 i (by omega) (by omega)
   ·unfold big at h;rw [List.getElem?_eq_none (by omega),List.getElem?_eq_none (by omega)]
  rw [this]
 ·simp only [hl,show ¬ ds.length≤1000000 by omega,if_false]
theorem uT:∀ (xs:List PX),(∀ y,y ∈ xs.flatMap PX.slots→s.sl y=t.sl y)→xs.map s.val=xs.map t.val
 | [],_=>rfl
 | x :: r,h=>by
   simp only [List.map_cons];rw [gG (x:=x) (fun y hy=>h y (by simp only [List.flatMap_cons,List.mem_append];exact .inl hy)),uT r (fun y hy=>h y (by simp only [List.flatMap_cons,List.mem_append];exact .inr hy))]
theorem jG {x:Option PX} (h:∀ y,y ∈ sW x→s.sl y=t.sl y):x.map s.int=x.map t.int:=by
 cases x with
 | none=>rfl
 | some x=>simp only [Option.map_some,cZ (x:=x) h]
theorem DX {k:Option Nat} {cs ds:List Cl} {off:Nat} (hl:cs.length=ds.length) (h:∀ i,off≤i→i < off+k.getD 1→cs[i]? = ds[i]?):ni k cs off=ni k ds off:=by
 cases k with
 | none=>simp only [ni];rw [h off (Nat.le_refl _) (by simp)]
 | some k =>
   simp only [ni,hl];split
   ·congr 3
    apply List.ext_getElem?
    intro i;rw [List.getElem?_take,List.getElem?_take];split
    ·rw [List.getElem?_drop,List.getElem?_drop];exact h _ (by omega) (by simp;omega)
    ·rfl
   ·rfl
theorem nO {x:PX} (h:∀ y,y ∈ x.slots→s.sl y=t.sl y):s.key x=t.key x:=by unfold St.key;rw [dH h]
theorem vK {x:PX} (h:∀ y,y ∈ x.slots→s.sl y=t.sl y):s.hw x=t.hw x:=by unfold St.hw;rw [dH h]
theorem rC:∀ (xs:List PX),(∀ y,y ∈ xs.flatMap PX.slots→s.sl y=t.sl y)→s.hws xs=t.hws xs
 | [],_=>rfl
 | x :: r,h=>by
   have h1:=rC r (fun y hy=>h y (by simp only [List.flatMap_cons,List.mem_append];exact .inr hy))
   unfold St.hws at h1 ⊢;simp only [List.map_cons];rw [vK (x:=x) (fun y hy=>h y (by simp only [List.flatMap_cons,List.mem_append];exact .inl hy))]
   cases t.hw x with
   | none=>rfl
   | some p=>simp only [aC,h1]
theorem ru:∀ (xs:List PX),(∀ y,y ∈ xs.flatMap PX.slots→s.sl y=t.sl y)→s.hps xs=t.hps xs
 | [],_=>rfl
 | x :: r,h=>by
   simp only [St.hps];rw [bF (x:=x) (fun y hy=>h y (by simp only [List.flatMap_cons,List.mem_append];exact .inl hy)),ru r (fun y hy=>h y (by simp only [List.flatMap_cons,List.mem_append];exact .inr hy))]
theorem dD {b:Nat} {off n:Nat} (hn:s.nc=t.nc) (h:dO (s.ob (HBS+s.nc b)) (t.ob (HBS+s.nc b)) off n):s.hb b=t.hb b:=by
 unfold St.hb;rw [←hn,h.heap.1]
theorem JD {po:PO} {d:Nat} (h:Agree po.slots (po.rd s d) s t):po.fn s d=po.fn t d:=by
 obtain ⟨hs,ho,hnc,hal⟩:=h;cases po <;> simp only [PO.slots,List.mem_append] at hs <;> simp only [PO.fn]
 case mv x=>rw [dH hs]
 case nilRow E sz=>rw [show s.gen d=t.gen d from (ho (d,big - 1,1) (by simp only [PO.rd,List.mem_singleton])).1]
 case pick c a b=>rw [nG (x:=c) (fun y hy=>hs y (.inl (.inl hy))),dH (x:=a) (fun y hy=>hs y (.inl (.inr hy))),dH (x:=b) (fun y hy=>hs y (.inr hy))]
 case box x=>rw [qA hs,show s.gen d=t.gen d from (ho (d,big - 1,1) (by simp only [PO.rd,List.mem_singleton])).1]
 case new z=>rw [show s.gen d=t.gen d from (ho (d,big - 1,1) (by simp only [PO.rd,List.mem_singleton])).1]
 case build z ps=>rw [kD ps hs]
 case bslice E sz z ln ps=>rw [kD ps hs,show s.gen d=t.gen d from (ho (d,big - 1,1) (by simp only [PO.rd,List.mem_singleton])).1]
 case load k a =>
  have hc:=bF (x:=a) hs;simp only [PO.rd] at ho;rw [←hc];split
  ·rename_i o g off heq;rw [heq] at ho;obtain ⟨h1,h2⟩:=ho _ (List.mem_singleton.2 rfl);dsimp only at h1 h2;rw [h1];split
   ·generalize s.ob o=x at h2 ⊢;generalize t.ob o=y at h2 ⊢;cases x <;> cases y <;> simp only [dO] at h2 <;> (try dsimp only) <;> first | rfl | (cases h2;done) | (rw [DX h2.1 h2.2]) | (rw [h2])
   ·rfl
  ·rfl
  ·rename_i b off heq;rw [heq] at ho;rw [dD hnc (ho (rdH s b) (List.mem_singleton.2 rfl)).2]
  ·rfl
 case store sz a x =>
  have hc:=bF (x:=a) (fun y hy=>hs y (.inl hy));have hx:=qA (x:=x) (fun y hy=>hs y (.inr hy));simp only [PO.rd] at ho;rw [←hc,←hx];split
  ·rename_i o g off nw heq hnw;rw [heq] at ho;obtain ⟨h1,h2⟩:=ho _ (List.mem_singleton.2 rfl);dsimp only at h1 h2;rw [h1];split
   ·generalize s.ob o=x at h2 ⊢;generalize t.ob o=y at h2 ⊢;cases x <;> cases y <;> simp only [dO] at h2 <;> (try dsimp only) <;> first | rfl | (cases h2;done) | (rw [h2.1]) | (rw [h2])
   ·rfl
  ·rename_i b off nw heq hnw;rw [heq] at ho;rw [dD hnc (ho (rdH s b) (List.mem_singleton.2 rfl)).2,hnc]
  ·rfl
 case fld off x =>
  have hc:=bF (x:=x) hs;simp only [PO.rd] at ho;rw [←hc];split
  ·rename_i o g k heq;rw [heq] at ho;rw [show s.gen o=t.gen o from (ho (o,big - 1,1) (by simp only [List.mem_singleton])).1]
  ·rfl
  ·rfl
  ·rfl
 case fldv off k x=>rw [dH hs]
 case ixa ln sz x i =>
  have hc:=bF (x:=x) (fun y hy=>hs y (.inl hy));have hi:=cZ (x:=i) (fun y hy=>hs y (.inr hy));simp only [PO.rd] at ho;rw [←hc,←hi];split
  ·rename_i o g off k heq hk;rw [heq] at ho;rw [show s.gen o=t.gen o from (ho (o,big - 1,1) (by simp only [List.mem_singleton])).1]
  ·rfl
  ·rfl
  ·rfl
 case ixs sz x i =>
  have hc:=bF (x:=x) (fun y hy=>hs y (.inl hy));have hi:=cZ (x:=i) (fun y hy=>hs y (.inr hy));simp only [PO.rd] at ho;rw [←hc,←hi];split
  ·split
   ·rename_i o g off ln cap sz2 heq;rw [heq] at ho;rw [show s.gen o=t.gen o from (ho (o,big - 1,1) (by simp only [List.mem_singleton])).1]
   ·rfl
   ·rename_i b heq;rw [heq] at ho;rw [dD hnc (ho (rdH s b) (List.mem_singleton.2 rfl)).2]
   ·rfl
  ·rfl
 case ixv ln sz k x i=>rw [dH (x:=x) (fun y hy=>hs y (.inl hy)),cZ (x:=i) (fun y hy=>hs y (.inr hy))]
 case ixstr x i=>rw [gG (x:=x) (fun y hy=>hs y (.inl hy)),cZ (x:=i) (fun y hy=>hs y (.inr hy))]
 case bin op x y=>rw [gG (x:=x) (fun y hy=>hs y (.inl hy)),gG (x:=y) (fun y hy=>hs y (.inr hy))]
 case eqb neg x y=>rw [nG (x:=x) (fun y hy=>hs y (.inl hy)),nG (x:=y) (fun y hy=>hs y (.inr hy))]
 case eqs neg m x y=>rw [dH (x:=x) (fun y hy=>hs y (.inl hy)),dH (x:=y) (fun y hy=>hs y (.inr hy))]
 case un op x=>rw [gG hs]
 case conv k x=>rw [cZ hs]
 case slc sz x lo hi=>rw [bF (x:=x) (fun y hy=>hs y (.inl (.inl hy))),jG (x:=lo) (fun y hy=>hs y (.inl (.inr hy))),jG (x:=hi) (fun y hy=>hs y (.inr hy))]
 case substr x lo hi=>rw [gG (x:=x) (fun y hy=>hs y (.inl (.inl hy))),jG (x:=lo) (fun y hy=>hs y (.inl (.inr hy))),jG (x:=hi) (fun y hy=>hs y (.inr hy))]
 case len x =>
  have hc:=bF (x:=x) hs;simp only [PO.rd] at ho;rw [←hc];split
  ·rfl
  ·rfl
  ·rename_i b heq;rw [heq] at ho;rw [dD hnc (ho (rdH s b) (List.mem_singleton.2 rfl)).2]
  ·rfl
 case strlen x=>rw [gG hs]
 case append E sz bytes x y =>
  have hc:=bF (x:=x) (fun y hy=>hs y (.inl hy));have hy:=bF (x:=y) (fun y hy=>hs y (.inr hy));simp only [PO.rd] at ho;rw [←hc,←hy];split
  ·rename_i o g rows news heq hnews;rw [heq] at ho;obtain ⟨h1,h2⟩:=ho _ (List.mem_singleton.2 rfl);dsimp only at h1 h2;rw [h1];split
   ·generalize s.ob o=x at h2 ⊢;generalize t.ob o=y at h2 ⊢;cases x <;> cases y <;> simp only [dO] at h2 <;> (try dsimp only) <;> first | rfl | (cases h2;done) | (cases h2;rfl)
   ·rfl
  ·rfl
  ·rename_i news heq hnews;rw [heq] at ho;rw [show s.gen d=t.gen d from (ho (d,big - 1,1) (List.mem_singleton.2 rfl)).1]
  ·rfl
 case stm x =>
  have hc:=bF (x:=x) hs;simp only [PO.rd] at ho;rw [←hc];split
  ·rename_i o g rows heq;rw [heq] at ho;obtain ⟨h1,h2⟩:=ho _ (List.mem_singleton.2 rfl);dsimp only at h1 h2;rw [h1];split
   ·generalize s.ob o=x at h2 ⊢;generalize t.ob o=y at h2 ⊢;cases x <;> cases y <;> simp only [dO] at h2 <;> (try dsimp only) <;> first | rfl | (cases h2;done) | (cases h2;rfl)
   ·rfl
  ·rename_i b heq;rw [heq] at ho;rw [dD hnc (ho (rdH s b) (List.mem_singleton.2 rfl)).2]
  ·rfl
 case mm big xs=>rw [uT xs hs]
 case ext x i=>rw [dH hs]
 case mk sz bytes z n c =>
  rw [cZ (x:=n) (fun y hy=>hs y (.inl hy)),cZ (x:=c) (fun y hy=>hs y (.inr hy))];rw [show s.gen d=t.gen d from (ho (d,big - 1,1) (by simp only [PO.rd,List.mem_singleton])).1]
 case slc3 sz x lo hi mx=>rw [bF (x:=x) (fun y hy=>hs y (.inl (.inl (.inl hy)))),jG (x:=lo) (fun y hy=>hs y (.inl (.inl (.inr hy)))),cZ (x:=hi) (fun y hy=>hs y (.inl (.inr hy))),cZ (x:=mx) (fun y hy=>hs y (.inr hy))]
 case sla ln sz x i =>
  have hc:=bF (x:=x) (fun y hy=>hs y (.inl hy));have hi:=cZ (x:=i) (fun y hy=>hs y (.inr hy));simp only [PO.rd] at ho;rw [←hc,←hi];split
  ·rename_i o g off k heq hk;rw [heq] at ho;rw [show s.gen o=t.gen o from (ho (o,big - 1,1) (by simp only [List.mem_singleton])).1]
  ·rfl
 case niq neg x=>rw [bF hs]
 case pnil neg x =>
  have hc:=bF (x:=x) hs;simp only [PO.rd] at ho;rw [←hc];split
  ·rfl
  ·rfl
  ·rename_i o g off heq;rw [heq] at ho;rw [show s.gen o=t.gen o from (ho (o,big - 1,1) (by simp only [List.mem_singleton])).1]
  ·rfl
  ·rfl
 case ixg ln sz g i=>rw [cZ (x:=i) hs]
 case bstr x=>rw [bF hs]
 case nilck x =>
  have hc:=bF (x:=x) hs;simp only [PO.rd] at ho;rw [←hc];split
  ·rename_i o g k heq;rw [heq] at ho;rw [show s.gen o=t.gen o from (ho (o,big - 1,1) (by simp only [List.mem_singleton])).1]
  ·rfl
  ·rfl
 case mlk k z ok m x =>
  have hc:=bF (x:=m) (fun y hy=>hs y (.inl hy));have hk:=nO (x:=x) (fun y hy=>hs y (.inr hy));simp only [PO.rd] at ho;rw [←hc,←hk];split
  ·rename_i b key heq hkx;rw [heq] at ho;rw [dD hnc (ho (rdH s b) (List.mem_singleton.2 rfl)).2]
  ·rfl
 case mup k m x v =>
  have hc:=bF (x:=m) (fun y hy=>hs y (.inl (.inl hy)));have hk:=nO (x:=x) (fun y hy=>hs y (.inl (.inr hy)));have hv:=vK (x:=v) (fun y hy=>hs y (.inr hy));simp only [PO.rd] at ho;rw [←hc,←hk,←hv];split
  ·rename_i b key u heq hkx hux;rw [heq] at ho;rw [dD hnc (ho (rdH s b) (List.mem_singleton.2 rfl)).2,hnc]
  ·rfl
 case mdel k m x =>
  have hc:=bF (x:=m) (fun y hy=>hs y (.inl hy));have hk:=nO (x:=x) (fun y hy=>hs y (.inr hy));simp only [PO.rd] at ho;rw [←hc,←hk];split
  ·rename_i b key heq hkx;rw [heq] at ho;rw [dD hnc (ho (rdH s b) (List.mem_singleton.2 rfl)).2,hnc]
  ·rfl
 case mlen m =>
  have hc:=bF (x:=m) hs;simp only [PO.rd] at ho;rw [←hc];split
  ·rename_i b heq;rw [heq] at ho;rw [dD hnc (ho (rdH s b) (List.mem_singleton.2 rfl)).2]
  ·rfl
 case ment k z m x =>
  have hc:=bF (x:=m) (fun y hy=>hs y (.inl hy));have hk:=nO (x:=x) (fun y hy=>hs y (.inr hy));simp only [PO.rd] at ho;rw [←hc,←hk];split
  ·rename_i b key heq hkx;rw [heq] at ho;rw [dD hnc (ho (rdH s b) (List.mem_singleton.2 rfl)).2,hnc]
  ·rfl
 case mest m x v =>
  have hc:=bF (x:=m) (fun y hy=>hs y (.inl (.inl hy)));have hk:=cZ (x:=x) (fun y hy=>hs y (.inl (.inr hy)));have hv:=vK (x:=v) (fun y hy=>hs y (.inr hy));simp only [PO.rd] at ho;rw [←hc,←hk,←hv];split
  ·rename_i b st u heq hkx hux;rw [heq] at ho;rw [dD hnc (ho (rdH s b) (List.mem_singleton.2 rfl)).2,hnc]
  ·rfl
 case cph sz x y =>
  have hc:=bF (x:=x) (fun z hz=>hs z (.inl hz));have hk:=bF (x:=y) (fun z hz=>hs z (.inr hz));simp only [PO.rd] at ho;rw [←hc,←hk];split
  ·rename_i b off ln cp b2 off2 ln2 cp2 heq heq2;rw [heq,heq2] at ho;rw [dD hnc (ho (rdH s b) (List.mem_cons_self ..)).2,dD hnc (ho (rdH s b2) (List.mem_cons_of_mem _ (List.mem_singleton.2 rfl))).2,hnc]
  ·rfl
 case mkf f a c=>rw [ru a (fun y hy=>hs y (.inl hy)),ru c (fun y hy=>hs y (.inr hy))]
 case entry x =>
  have hc:=bF (x:=x) hs;simp only [PO.rd] at ho;rw [←hc];split
  ·rename_i r heq;rw [heq] at ho
   have hr:s.hb r=t.hb r:=dD hnc (ho (rdH s r) (by
    show rdH s r ∈ (match s.hb r with | .iter b _ _ _=>[rdH s r,rdH s b] | _=>[rdH s r])
    split <;> simp)).2
   rw [←hr];split
   ·rename_i b since seen c0 hri
    rw [dD hnc (ho (rdH s b) (by show rdH s b ∈ (match s.hb r with | .iter b _ _ _=>[rdH s r,rdH s b] | _=>[rdH s r]);rw [hri];simp)).2]
   ·rfl
  ·rfl
theorem xu {c b:Nat} {off n:Nat} (hn:s.nc=t.nc) (h:dO (s.ob (HBS+c)) (t.ob (HBS+c)) off n):s.lay c b↔t.lay c b:=by
 unfold St.lay St.hb;rw [←hn,h.heap.2];constructor
 ·rintro ⟨h1,h2,h3⟩;refine ⟨h1,h2,?_⟩;rw [h1] at h3 ⊢;rw [←h.heap.1];exact h3
 ·rintro ⟨h1,h2,h3⟩;refine ⟨h1,h2,?_⟩;rw [h1] at h3 ⊢;rw [h.heap.1];exact h3
theorem G5 {c:Nat} {k:HA} {K:Av→Cg→Prop} {d:Nat} (h:Agree k.slots ((PO.hal c k).rd s d) s t):rW s c K k→rW t c K k:=by
 obtain ⟨hs,ho,hnc,hal⟩:=h
 have h0:(HBS+c,0,big) ∈ (PO.hal c k).rd s d:=by
  cases k <;> simp only [PO.rd,List.mem_singleton]
  ·split <;> simp
  ·simp
  ·simp
 have hl:∀ b,s.lay c b↔t.lay c b:=fun b=>xu hnc (ho _ h0).2
 cases k with
 | new z=>rintro ⟨b,h1,h2⟩;exact ⟨b,(hl b).1 h1,h2⟩
 | box x =>
   intro hg;obtain ⟨l,h1,b,h2,h3⟩:=aj.1 hg
   exact aj.2 ⟨l,by rw [←qA (x:=x) hs];exact h1,b,(hl b).1 h2,h3⟩
 | mk sz bytes z n m =>
   intro hg;obtain ⟨l,h1,hg⟩:=aj.1 hg;obtain ⟨l',h2,h3,b,h4,h5⟩:=aj.1 hg
   exact aj.2 ⟨l,by rw [←cZ (x:=n) (fun y hy=>hs y (List.mem_append_left _ hy))];exact h1,aj.2 ⟨l',by rw [←cZ (x:=m) (fun y hy=>hs y (List.mem_append_right _ hy))];exact h2,h3,b,(hl b).1 h4,h5⟩⟩
 | map k=>rintro ⟨h1,b,h2,h3⟩;exact ⟨h1,b,(hl b).1 h2,h3⟩
 | mapn k x =>
   intro hg;obtain ⟨l,h1,h2,b,h3,h4⟩:=aj.1 hg
   exact aj.2 ⟨l,by rw [←cZ (x:=x) hs];exact h1,h2,b,(hl b).1 h3,h4⟩
 | range m =>
   intro hg;obtain ⟨bm,h1,hg⟩:=aj.1 hg;obtain ⟨clock,h2,b,h3,h4⟩:=aj.1 hg
   have hcm:s.cl m=.hv (.m bm):=by
    unfold mapOf at h1;split at h1
    ·rename_i b' he;cases h1;exact he
    ·cases h1
   have hb:s.hb bm=t.hb bm:=dD hnc (ho (rdH s bm) (by simp only [PO.rd,hcm];simp)).2
   exact aj.2 ⟨bm,by rw [←bF (x:=m) hs];exact h1,aj.2 ⟨clock,by rw [←hb];exact h2,b,(hl b).1 h3,h4⟩⟩
 | lit E sz z ln ps =>
   intro hg;obtain ⟨xs,h1,b,h2,h3⟩:=aj.1 hg
   exact aj.2 ⟨xs,by rw [←kD ps hs];exact h1,b,(hl b).1 h2,h3⟩
 | view sz x lo =>
   intro hg;obtain ⟨ao,h1,hg⟩:=aj.1 hg;obtain ⟨v,h2,hg⟩:=aj.1 hg;obtain ⟨m,h3,h4,h5⟩:=aj.1 hg;have hx:s.cl x=t.cl x:=bF (x:=x) (fun z hz=>hs z (List.mem_append_left _ hz))
   have hcx:s.cl x=.hv (.v ao):=by
    unfold zx at h1;split at h1
    ·rename_i b' he;cases h1;exact he
    ·cases h1
   have hb:s.hb ao=t.hb ao:=dD hnc (ho (rdH s ao) (by simp only [PO.rd,hcx,rdV];simp)).2
   exact aj.2 ⟨ao,by rw [←hx];exact h1,aj.2 ⟨v,by rw [←hb];exact h2,aj.2 ⟨m,by rw [←cZ (x:=lo) (fun y hy=>hs y (List.mem_append_right _ hy))];exact h3,h4,h5⟩⟩⟩
 | app E sz bytes x y =>
   intro hg;obtain ⟨news,h1,hg⟩:=aj.1 hg;have hx:s.cl x=t.cl x:=bF (x:=x) (fun z hz=>hs z (List.mem_append_left _ hz));have hy:s.cl y=t.cl y:=bF (x:=y) (fun z hz=>hs z (List.mem_append_right _ hz))
   have hry:s.jr y=t.jr y:=by
    unfold St.jr;rw [←hy];unfold zq;split
    ·rename_i b hcy;rw [dD hnc (ho (rdH s b) (by simp only [PO.rd,hcy,rdV];simp)).2]
    ·rfl
   refine aj.2 ⟨news,by rw [←hry];exact h1,?_⟩
   rw [←hx];unfold appG at hg ⊢;split at hg
   ·obtain ⟨q,b,h2,h3⟩:=hg;exact ⟨q,b,(hl b).1 h2,h3⟩
   ·obtain ⟨ao,h2,hg⟩:=aj.1 hg;obtain ⟨v,h3,q,b,h4,h5⟩:=aj.1 hg
    have hcx:s.cl x=.hv (.v ao):=by
     unfold zx at h2;split at h2
     ·rename_i b' he;cases h2;exact he
     ·cases h2
    have hr:=(ho (rdH s ao) (by simp only [PO.rd,hcx,rdV];simp)).2
    have hb:s.hb ao=t.hb ao:=dD hnc hr
    refine aj.2 ⟨ao,h2,aj.2 ⟨v,by rw [←hb];exact h3,q,b,?_,?_⟩⟩
    ·rw [←hnc];exact (xu hnc hr).1 h4
    ·rw [←hnc];exact h5
theorem jZ (hn:s.nc=t.nc) (h:∀ o,gI≤o→s.ob o=t.ob o):s.hb=t.hb:=by
 funext b
 unfold St.hb;rw [←hn,h _ (by unfold gI HBS;omega)]
theorem JG {env:Env} {i:PI} {K:Av→Cg→Prop} (hdem:i.op.dem=false) (h:Agree i.looks (i.rd s) s t):i.go env s K→i.go env t K:=by
 have hop:i.op.go env s (i.dst.getD 0) K→i.op.go env t (i.dst.getD 0) K:=fun hg=>by
  have h1:∀ x,x ∈ i.op.slots→s.sl x=t.sl x:=fun x hx=>h.sl x (by unfold PI.looks;exact List.mem_append_left _ hx)
  cases hc:i.op with
  | call f xs =>
    rw [hc] at hg h1;have hr:=h.ob;unfold PI.rd at hr;rw [hc] at hr;have hrc:=uN xs h1;have hpc:=uM xs h1;have hg':jd env s (i.dst.getD 0) K f xs (s.recv xs) (s.eX xs):=hg
    show jd env t (i.dst.getD 0) K f xs (t.recv xs) (t.eX xs)
    simp only [PO.rd] at hr;rw [←hrc,←hpc]
    cases hre:s.recv xs with
    | none =>
     cases hpe:s.eX xs with
     | some p =>
      obtain ⟨o,g⟩:=p;rw [hre,hpe] at hg' hr;have hob:=hr (o,0,big) (by simp);obtain ⟨az,e1,e2⟩:=aj.1 hg';obtain ⟨ds,e3,e4⟩:=aj.1 e2
      refine aj.2 ⟨az,by rw [←gW xs.tail (fun y hy=>h1 y (by
       cases xs with
       | nil=>exact hy
       | cons z zs=>simp only [PO.slots,List.flatMap_cons,List.mem_append];exact .inr hy))];exact e1,?_⟩
      exact aj.2 ⟨ds,by rw [←nY hob.1 hob.2];exact e3,e4⟩
     | none =>
      rw [hre,hpe] at hg' hr;have hgd:=(hr (i.dst.getD 0,big - 1,1) (by simp)).1;obtain ⟨az,e1,e2⟩:=aj.1 hg'
      refine aj.2 ⟨az,by rw [←gW xs h1];exact e1,?_⟩
      rw [←show s.gen (i.dst.getD 0)=t.gen (i.dst.getD 0) from hgd];exact e2
    | some p =>
      obtain ⟨o,g⟩:=p;rw [hre] at hg' hr;have hr:∀ r,r ∈ [(o,0,big),(i.dst.getD 0,big - 1,1)]→s.gen r.1=t.gen r.1∧dO (s.ob r.1) (t.ob r.1) r.2.1 r.2.2:=by cases s.eX xs <;> exact hr
      have hgd:=(hr (i.dst.getD 0,big - 1,1) (by simp)).1;have hob:=hr (o,0,big) (by simp);obtain ⟨az,e1,e2⟩:=aj.1 hg';obtain ⟨H,e3,e4⟩:=aj.1 e2
      refine aj.2 ⟨az,by rw [←gW xs.tail (fun y hy=>h1 y (by
       cases xs with
       | nil=>exact hy
       | cons z zs=>simp only [PO.slots,List.flatMap_cons,List.mem_append];exact .inr hy))];exact e1,?_⟩
      refine aj.2 ⟨H,by rw [←tK hob.1 hob.2];exact e3,?_⟩
      rw [←show s.gen (i.dst.getD 0)=t.gen (i.dst.getD 0) from hgd];exact e4
  | callv xv f xs =>
    rw [hc] at hg h1;obtain ⟨u0,hu0,hg⟩:=aj.1 hg
    refine aj.2 ⟨u0,by rw [←gG (x:=xv) (fun y hy=>h1 y (List.mem_append_left _ hy))];exact hu0,?_⟩
    have h1:∀ x,x ∈ (PO.call f xs).slots→s.sl x=t.sl x:=fun x hx=>h1 x (List.mem_append_right _ hx)
    have hr:=h.ob;unfold PI.rd at hr;rw [hc] at hr;have hrc:=uN xs h1;have hpc:=uM xs h1;have hg':jd env s (i.dst.getD 0) K f xs (s.recv xs) (s.eX xs):=hg
    show jd env t (i.dst.getD 0) K f xs (t.recv xs) (t.eX xs)
    simp only [PO.rd] at hr;rw [←hrc,←hpc]
    cases hre:s.recv xs with
    | none =>
     cases hpe:s.eX xs with
     | some p =>
      obtain ⟨o,g⟩:=p;rw [hre,hpe] at hg' hr;have hob:=hr (o,0,big) (by simp);obtain ⟨az,e1,e2⟩:=aj.1 hg';obtain ⟨ds,e3,e4⟩:=aj.1 e2
      refine aj.2 ⟨az,by rw [←gW xs.tail (fun y hy=>h1 y (by
       cases xs with
       | nil=>exact hy
       | cons z zs=>simp only [PO.slots,List.flatMap_cons,List.mem_append];exact .inr hy))];exact e1,?_⟩
      exact aj.2 ⟨ds,by rw [←nY hob.1 hob.2];exact e3,e4⟩
     | none =>
      rw [hre,hpe] at hg' hr;have hgd:=(hr (i.dst.getD 0,big - 1,1) (by simp)).1;obtain ⟨az,e1,e2⟩:=aj.1 hg'
      refine aj.2 ⟨az,by rw [←gW xs h1];exact e1,?_⟩
      rw [←show s.gen (i.dst.getD 0)=t.gen (i.dst.getD 0) from hgd];exact e2
    | some p =>
      obtain ⟨o,g⟩:=p;rw [hre] at hg' hr;have hr:∀ r,r ∈ [(o,0,big),(i.dst.getD 0,big - 1,1)]→s.gen r.1=t.gen r.1∧dO (s.ob r.1) (t.ob r.1) r.2.1 r.2.2:=by cases s.eX xs <;> exact hr
      have hgd:=(hr (i.dst.getD 0,big - 1,1) (by simp)).1;have hob:=hr (o,0,big) (by simp);obtain ⟨az,e1,e2⟩:=aj.1 hg';obtain ⟨H,e3,e4⟩:=aj.1 e2
      refine aj.2 ⟨az,by rw [←gW xs.tail (fun y hy=>h1 y (by
       cases xs with
       | nil=>exact hy
       | cons z zs=>simp only [PO.slots,List.flatMap_cons,List.mem_append];exact .inr hy))];exact e1,?_⟩
      refine aj.2 ⟨H,by rw [←tK hob.1 hob.2];exact e3,?_⟩
      rw [←show s.gen (i.dst.getD 0)=t.gen (i.dst.getD 0) from hgd];exact e4
  | ldg x =>
    rw [hc] at hg h1;obtain ⟨v,hv,hk⟩:=aj.1 hg
    exact aj.2 ⟨v,by rw [←gG (x:=x) h1];exact hv,hk⟩
  | hal c k =>
    rw [hc] at hg h1;refine G5 (d:=i.dst.getD 0) ⟨h1,fun r hr=>h.ob r ?_,h.nc,fun r hr=>h.al r ?_⟩ hg <;> (unfold PI.rd;rw [hc];exact hr)
  | next x=>rw [hc] at hdem;cases hdem
  | callp f xs=>rw [hc] at hdem;cases hdem
  | callh f xs =>
    rw [hc] at hg h1;have ha:=h.al (gI,0,big) (by unfold PI.rd;rw [hc];simp [PO.rd]) rfl
    obtain ⟨az,e1,hp',rs,e2,e3⟩:=aj.1 hg
    exact aj.2 ⟨az,by rw [←rC xs h1];exact e1,hp',rs,by rw [←jZ h.nc ha];exact e2,e3.imp id (fun ⟨q1,q2,q3⟩=>⟨q1.trans (jZ h.nc ha),fun c=>by rw [←ha _ (by unfold gI HBS;omega)];exact q2 c,q3⟩)⟩
  | callc x f xs =>
    rw [hc] at hg h1;have ha:=h.al (gI,0,big) (by unfold PI.rd;rw [hc];simp [PO.rd]) rfl
    obtain ⟨p,e0,hg⟩:=aj.1 hg;obtain ⟨az,e1,hp',rs,e2,e3⟩:=aj.1 hg
    exact aj.2 ⟨p,by rw [←bF (x:=x) (fun y hy=>h1 y (List.mem_append_left _ hy))];exact e0,aj.2 ⟨az,by rw [←rC xs (fun y hy=>h1 y (List.mem_append_right _ hy))];exact e1,hp',rs,by rw [←jZ h.nc ha];exact e2,e3.imp id (fun ⟨q1,q2,q3⟩=>⟨q1.trans (jZ h.nc ha),fun c=>by rw [←ha _ (by unfold gI HBS;omega)];exact q2 c,q3⟩)⟩⟩
  | _ =>
    rw [hc,PO.y9 rfl] at hg;rw [PO.y9 rfl];obtain ⟨p,e1,e2⟩:=aj.1 hg
    refine aj.2 ⟨p,?_,e2⟩;rw [←e1];refine (JD ⟨fun x hx=>h1 x (by rw [hc];exact hx),fun r hr=>h.ob r ?_,h.nc,fun r hr=>h.al r ?_⟩).symm <;> (unfold PI.rd;rw [hc];exact hr)
 intro hg;unfold PI.go at hg ⊢
 cases hgd:i.guard with
 | none=>rw [hgd] at hg;exact hop hg
 | some p =>
   obtain ⟨x,want⟩:=p;rw [hgd] at hg;obtain ⟨b,e1,e2,e3⟩:=aj.1 hg
   refine aj.2 ⟨b,?_,fun hb=>hop (e2 hb),e3⟩;rw [←e1]
   have h1:=nG (x:=.t x) (fun y hy=>h.sl y (by
    unfold PI.looks;rw [hgd];exact List.mem_append_right _ hy))
   have h2:=h.sl x (by
    unfold PI.looks;rw [hgd];exact List.mem_append_right _ (List.mem_singleton.2 rfl))
   unfold St.gd;rw [h1,h2]
end
structure En where
 i:PI
 v:Av
 ch:Cg
 rd:List Rg
def St.en (s:St) (e:En):St:=s.ap e.i.dst e.v e.ch
def stF:List En→Nat→(Nat→Bool)→St→St
 | [],_,_,s=>s
 | e :: r,k,L,s=>stF r (k+1) L (cond (L k) (s.en e) s)
def Ag (e f:En):Prop:=sS e.i f.i e.ch.wrs f.rd f.ch.wrs=true∧sS f.i e.i f.ch.wrs e.rd e.ch.wrs=true
def HAp (a b:Rg):Prop:=(a.1=gI→b.1 < gI)∧(b.1=gI→a.1 < gI)
theorem DJ {a b:Rg}:Ep a b=true↔HAp a b:=by
 unfold Ep HAp
 by_cases h1:a.1=gI
 ·rw [if_pos h1];simp only [decide_eq_true_eq];exact ⟨fun h=>⟨fun _=>h,fun h2=>by omega⟩,fun h=>h.1 h1⟩
 ·rw [if_neg h1]
  by_cases h2:b.1=gI
  ·rw [if_pos h2];simp only [decide_eq_true_eq];exact ⟨fun h=>⟨fun h3=>absurd h3 h1,fun _=>h⟩,fun h=>h.2 h2⟩
  ·rw [if_neg h2];exact ⟨fun _=>⟨fun h3=>absurd h3 h1,fun h3=>absurd h3 h2⟩,fun _=>rfl⟩
def RAp (a b:Rg):Prop:=a.1≠b.1∨(a.2.2 < big∧b.2.2 < big∧(a.2.1+a.2.2≤b.2.1∨b.2.1+b.2.2≤a.2.1))
theorem sw {a b:Rg}:yL a b=true↔HAp a b∧RAp a b:=by
 unfold RAp;rw [←DJ];simp [yL,and_assoc]
theorem oK {xs ys:List Rg}:jP xs ys=true↔∀ x,x ∈ xs→∀ y,y ∈ ys→HAp x y∧RAp x y:=by
 unfold jP;rw [List.all_eq_true];constructor
 ·intro h x hx y hy;exact sw.1 (List.all_eq_true.1 (h x hx) y hy)
 ·intro h x hx;exact List.all_eq_true.2 fun y hy=>sw.2 (h x hx y hy)
theorem pX {xs ys:List Rg} (h:jP xs ys=true):∀ x,x ∈ xs→∀ y,y ∈ ys→x.1≠y.1∨(x.2.2 < big∧y.2.2 < big∧(x.2.1+x.2.2≤y.2.1∨y.2.1+y.2.2≤x.2.1)):=fun x hx y hy=>(oK.1 h x hx y hy).2
theorem uO {xs ys:List Rg} (h:jP xs ys=true):∀ x,x ∈ xs→∀ y,y ∈ ys→HAp x y:=fun x hx y hy=>(oK.1 h x hx y hy).1
theorem xC {d:Option Nat} {l:List Nat}:DZ d l=true↔∀ x,d=some x→x ∉ l:=by
 cases d with
 | none=>simp [DZ]
 | some d=>simp [DZ]
theorem FQ {α:Type} (f:Nat→α) {a b:Nat} (h:a≠b) (x y:α):up (up f a x) b y=up (up f b y) a x:=by
 funext z
 simp only [ay]
 (repeat' split) <;> first | rfl | (exfalso;omega)
def md {α:Type} (f:Nat→α) (a:Nat) (F:α→α):Nat→α:=up f a (F (f a))
theorem uH {α:Type} (f:Nat→α) {a b:Nat} (h:a≠b) (F G:α→α):md (md f a F) b G=md (md f b G) a F:=by
 have h1:md f a F b=f b:=by unfold md;rw [ay,if_neg (Ne.symm h)]
 have h2:md f b G a=f a:=by unfold md;rw [ay,if_neg h]
 show up (md f a F) b (G (md f a F b))=up (md f b G) a (F (md f b G a))
 rw [h1,h2];exact FQ f h _ _
theorem Fq {α:Type} (f:Nat→α) (a:Nat) (F G:α→α):md (md f a F) a G=md f a (fun x=>G (F x)):=by
 funext z
 unfold md;simp only [ay]
 by_cases h:z=a
 ·simp [h]
 ·simp [h]
def Cg.gF:Cg→(Nat→Nat)→Nat→Nat
 | .new o _,f=>md f o (·+1)
 | _,f=>f
def wrF (off:Nat) (cs:List Cl):Ob→Ob
 | .cells old=>.cells (iC old off cs)
 | x=>x
def OO (n:Nat):Ob→Ob
 | .row E sz _=>.row E sz n
 | x=>x
def Cg.oF (nc:Nat→Nat):Cg→(Nat→Ob)→Nat→Ob
 | .no,f=>f
 | .new o x,f=>md f o (fun _=>x)
 | .wr o off cs,f=>md f o (wrF off cs)
 | .row o n,f=>md f o (OO n)
 | .ab o H,f=>md f o (fun _=>.ab H)
 | .hw o l,f=>md f o (fun x=>.hp (upl (eU x) l))
 | .hall h,f=>fun o=>if HBS≤o then .hp (fun b=>if HBS+nc b=o then h b else .no) else f o
def dF (dst:Option Nat) (v:Av) (f:Nat→Av):Nat→Av:=match dst with
 | some d=>up f d v
 | none=>f
theorem sF (s:St) (dst:Option Nat) (v:Av) (ch:Cg):s.ap dst v ch=⟨dF dst v s.sl,ch.gF s.gen,ch.oF s.nc s.ob,s.nc⟩:=by
 cases ch <;> first
  | rfl
  | (simp only [St.ap,Cg.gF,Cg.oF,md,wrF,OO]
     congr 2
     (split <;> simp_all))
theorem Ls {a b:Nat} {xs ys:List Cl} (h:a+xs.length≤b∨b+ys.length≤a) (x:Ob):wrF b ys (wrF a xs x)=wrF a xs (wrF b ys x):=by
 cases x <;> try rfl
 simp only [wrF];rw [Iu _ h]
theorem jh (nc:Nat→Nat) (h:Nat→Hb) (f:Nat→Ob) {o:Nat} (ho:o < gI) (F:Ob→Ob):md ((Cg.hall h).oF nc f) o F=(Cg.hall h).oF nc (md f o F):=by
 have hb:o < HBS:=by unfold gI at ho;unfold HBS;omega
 funext z
 unfold md;simp only [Cg.oF,ay]
 by_cases hz:z=o
 ·subst hz;rw [if_pos rfl,if_neg (by omega),if_pos rfl,if_neg (by omega)]
 ·rw [if_neg hz,if_neg hz]
theorem Jf {c d:Cg} (h:jP c.wrs d.wrs=true) (nc:Nat→Nat) (G:Nat→Nat) (O:Nat→Ob):d.gF (c.gF G)=c.gF (d.gF G)∧d.oF nc (c.oF nc O)=c.oF nc (d.oF nc O):=by
 have hw:=pX h;have hx:=uO h;cases c <;> cases d <;> simp only [Cg.wrs] at hw hx <;> (try exact ⟨rfl,rfl⟩)
 case wr.wr a x xs b y ys =>
  have hh:=hw _ (List.mem_singleton.2 rfl) _ (List.mem_singleton.2 rfl);dsimp only at hh;simp only [Cg.gF,Cg.oF];refine ⟨trivial,?_⟩
  by_cases he:a=b
  ·subst he
   have hd:x+xs.length≤y∨y+ys.length≤x:=by
    rcases hh with hh | hh
    ·exact absurd rfl hh
    ·exact hh.2.2
   rw [Fq,Fq]
   congr 1
   funext z
   exact Ls hd z
  ·exact uH _ he _ _
 case hall.hall =>
  have:=(hx _ (List.mem_singleton.2 rfl) _ (List.mem_singleton.2 rfl)).1 rfl;dsimp only at this;omega
 case hall.new h' o x =>
  have ho:=(hx _ (List.mem_singleton.2 rfl) _ (List.mem_singleton.2 rfl)).1 rfl;exact ⟨rfl,jh nc h' O ho (fun _=>x)⟩
 case hall.wr h' o off cs =>
  have ho:=(hx _ (List.mem_singleton.2 rfl) _ (List.mem_singleton.2 rfl)).1 rfl;exact ⟨rfl,jh nc h' O ho _⟩
 case hall.row h' o k =>
  have ho:=(hx _ (List.mem_singleton.2 rfl) _ (List.mem_singleton.2 rfl)).1 rfl;exact ⟨rfl,jh nc h' O ho _⟩
 case hall.ab h' o H =>
  have ho:=(hx _ (List.mem_singleton.2 rfl) _ (List.mem_singleton.2 rfl)).1 rfl;exact ⟨rfl,jh nc h' O ho (fun _=>.ab H)⟩
 case hall.hw h' o l =>
  have ho:=(hx _ (List.mem_singleton.2 rfl) _ (List.mem_singleton.2 rfl)).1 rfl;exact ⟨rfl,jh nc h' O ho (fun x=>.hp (upl (eU x) l))⟩
 case new.hall o x h' =>
  have ho:=(hx _ (List.mem_singleton.2 rfl) _ (List.mem_singleton.2 rfl)).2 rfl;exact ⟨rfl,(jh nc h' O ho (fun _=>x)).symm⟩
 case wr.hall o off cs h' =>
  have ho:=(hx _ (List.mem_singleton.2 rfl) _ (List.mem_singleton.2 rfl)).2 rfl;exact ⟨rfl,(jh nc h' O ho _).symm⟩
 case row.hall o k h' =>
  have ho:=(hx _ (List.mem_singleton.2 rfl) _ (List.mem_singleton.2 rfl)).2 rfl;exact ⟨rfl,(jh nc h' O ho _).symm⟩
 case ab.hall o H h' =>
  have ho:=(hx _ (List.mem_singleton.2 rfl) _ (List.mem_singleton.2 rfl)).2 rfl;exact ⟨rfl,(jh nc h' O ho (fun _=>.ab H)).symm⟩
 case hw.hall o l h' =>
  have ho:=(hx _ (List.mem_singleton.2 rfl) _ (List.mem_singleton.2 rfl)).2 rfl;exact ⟨rfl,(jh nc h' O ho (fun x=>.hp (upl (eU x) l))).symm⟩
 all_goals
  have hh:=hw _ (List.mem_singleton.2 rfl) _ (List.mem_singleton.2 rfl);dsimp only at hh;simp only [Cg.gF,Cg.oF];have hne:=hh.resolve_right (fun h=>by have:=h.1;have:=h.2.1;omega)
  first
   | exact ⟨uH _ hne _ _,uH _ hne _ _⟩
   | exact ⟨trivial,uH _ hne _ _⟩
theorem Ag.symm {e f:En} (h:Ag e f):Ag f e:=⟨h.2,h.1⟩
theorem Ns {s:St} {e f:En} (h:Ag e f):(s.en e).en f=(s.en f).en e:=by
 obtain ⟨h1,h2⟩:=h;simp only [sS,Bool.and_eq_true] at h1 h2;obtain ⟨⟨⟨_,_⟩,hw⟩,hd⟩:=h1;have hd':=xC.1 hd;obtain ⟨hg,ho⟩:=Jf hw s.nc s.gen s.ob;unfold St.en;simp only [sF];rw [hg,ho]
 congr 1
 cases hd1:e.i.dst with
 | none=>rfl
 | some a =>
   cases hd2:f.i.dst with
   | none=>rfl
   | some b =>
     have hne:a≠b:=by
      have:=hd' a hd1;rw [hd2] at this
      simpa using this
     exact FQ _ hne _ _
theorem dO.md {x y:Ob} {off n:Nat} (h:dO x y off n):∀ F:Ob→Ob,(F=(fun _=>F x)∨(∃ a cs,F=wrF a cs)∨∃ k,F=OO k)→dO (F x) (F y) off n:=by
 intro F hF
 rcases hF with hF | ⟨a,cs,rfl⟩ | ⟨k,rfl⟩
 ·have:F y=F x:=by rw [hF]
  rw [this];exact dO.refl _ _ _
 ·cases x <;> cases y <;> simp only [dO] at h <;> first | (cases h;done) | skip
  ·exact dO.refl _ _ _
  ·refine ⟨by rw [iY,iY];exact h.1,fun i h1 h2=>?_⟩
   rw [fU,fU,h.1,h.2 i h1 h2]
  ·rw [h];exact dO.refl _ _ _
  ·rw [h];exact dO.refl _ _ _
  ·rw [h];exact dO.refl _ _ _
 ·cases x <;> cases y <;> simp only [dO] at h <;> first | (cases h;done) | skip
  ·exact dO.refl _ _ _
  ·exact ⟨h.1,h.2⟩
  ·rw [h];exact dO.refl _ _ _
  ·rw [h];exact dO.refl _ _ _
  ·rw [h];exact dO.refl _ _ _
theorem Agree.both {looks:List Nat} {rd:List Rg} {s t:St} (h:Agree looks rd s t) (e:En):Agree looks rd (s.en e) (t.en e):=by
 unfold St.en;rw [sF,sF]
 have key:∀ o off n,s.gen o=t.gen o→dO (s.ob o) (t.ob o) off n→e.ch.gF s.gen o=e.ch.gF t.gen o∧dO (e.ch.oF s.nc s.ob o) (e.ch.oF t.nc t.ob o) off n:=fun o off n h1 h2=>by
  cases e.ch with
  | no=>exact ⟨h1,h2⟩
  | new o' x =>
    simp only [Cg.gF,Cg.oF,Go.Proofs.Ytkafcpnahpfbfaa.md,ay]
    by_cases he:o=o'
    ·rw [if_pos he,if_pos he,if_pos he,if_pos he];rw [he] at h1;exact ⟨by rw [h1],dO.refl _ _ _⟩
    ·rw [if_neg he,if_neg he,if_neg he,if_neg he];exact ⟨h1,h2⟩
  | wr o' a cs =>
    simp only [Cg.gF,Cg.oF,Go.Proofs.Ytkafcpnahpfbfaa.md,ay];refine ⟨h1,?_⟩
    by_cases he:o=o'
    ·rw [if_pos he,if_pos he];rw [he] at h2;exact dO.md h2 _ (.inr (.inl ⟨a,cs,rfl⟩))
    ·rw [if_neg he,if_neg he];exact h2
  | row o' k =>
    simp only [Cg.gF,Cg.oF,Go.Proofs.Ytkafcpnahpfbfaa.md,ay];refine ⟨h1,?_⟩
    by_cases he:o=o'
    ·rw [if_pos he,if_pos he];rw [he] at h2;exact dO.md h2 _ (.inr (.inr ⟨k,rfl⟩))
    ·rw [if_neg he,if_neg he];exact h2
  | ab o' H =>
    simp only [Cg.gF,Cg.oF,Go.Proofs.Ytkafcpnahpfbfaa.md,ay];refine ⟨h1,?_⟩
    by_cases he:o=o'
    ·rw [if_pos he,if_pos he];exact dO.refl _ _ _
    ·rw [if_neg he,if_neg he];exact h2
  | hw o' l =>
    simp only [Cg.gF,Cg.oF,Go.Proofs.Ytkafcpnahpfbfaa.md,ay];refine ⟨h1,?_⟩
    by_cases he:o=o'
    ·rw [if_pos he,if_pos he];rw [he] at h2;rw [h2.heap.1];exact dO.refl _ _ _
    ·rw [if_neg he,if_neg he];exact h2
  | hall hp =>
    simp only [Cg.gF,Cg.oF];refine ⟨h1,?_⟩;rw [h.nc];split
    ·exact dO.refl _ _ _
    ·exact h2
 refine ⟨fun x hx=>?_,fun r hr=>?_,h.nc,fun r hr hr2 o ho=>?_⟩
 ·show dF _ _ s.sl x=dF _ _ t.sl x
  cases e.i.dst with
  | none=>exact h.sl x hx
  | some d =>
    show up s.sl d e.v x=up t.sl d e.v x
    rw [ay,ay,h.sl x hx]
 ·obtain ⟨h1,h2⟩:=h.ob r hr;exact key _ _ _ h1 h2
 ·have h3:=h.al r hr hr2 o ho
  show e.ch.oF s.nc s.ob o=e.ch.oF t.nc t.ob o
  cases e.ch with
  | no=>exact h3
  | hall hp=>simp only [Cg.oF];rw [h.nc,h3]
  | new o' x=>simp only [Cg.oF,Go.Proofs.Ytkafcpnahpfbfaa.md,ay];split <;> first | rfl | exact h3
  | wr o' a cs=>simp only [Cg.oF,Go.Proofs.Ytkafcpnahpfbfaa.md,ay];split <;> first | (rename_i he;rw [←he,h3]) | exact h3
  | row o' k=>simp only [Cg.oF,Go.Proofs.Ytkafcpnahpfbfaa.md,ay];split <;> first | (rename_i he;rw [←he,h3]) | exact h3
  | ab o' H=>simp only [Cg.oF,Go.Proofs.Ytkafcpnahpfbfaa.md,ay];split <;> first | rfl | exact h3
  | hw o' l=>simp only [Cg.oF,Go.Proofs.Ytkafcpnahpfbfaa.md,ay];split <;> first | (rename_i he;rw [←he,h3]) | exact h3
theorem Agree.refl (looks:List Nat) (rd:List Rg) (s:St):Agree looks rd s s:=⟨fun _ _=>rfl,fun _ _=>⟨rfl,dO.refl _ _ _⟩,rfl,fun _ _ _ _ _=>rfl⟩
theorem dO.symm {x y:Ob} {off n:Nat} (h:dO x y off n):dO y x off n:=by
 cases x <;> cases y <;> simp only [dO] at h ⊢ <;> first | (cases h;done) | exact h.symm | exact ⟨h.1.symm,fun i a b=>(h.2 i a b).symm⟩ | skip
theorem dO.trans {x y z:Ob} {off n:Nat} (h:dO x y off n) (k:dO y z off n):dO x z off n:=by
 cases x <;> cases y <;> simp only [dO] at h <;> first | (cases h;done) | skip
 ·exact k
 ·cases z <;> simp only [dO] at k ⊢ <;> first | (cases k;done) | exact ⟨h.1.trans k.1,fun i a b=>(h.2 i a b).trans (k.2 i a b)⟩
 ·rw [h];exact k
 ·rw [h];exact k
 ·rw [h];exact k
theorem Agree.symm {looks:List Nat} {rd:List Rg} {s t:St} (h:Agree looks rd s t):Agree looks rd t s:=⟨fun x hx=>(h.sl x hx).symm,fun r hr=>⟨(h.ob r hr).1.symm,(h.ob r hr).2.symm⟩,h.nc.symm,fun r hr hr2 o ho=>(h.al r hr hr2 o ho).symm⟩
theorem Agree.trans {looks:List Nat} {rd:List Rg} {s t u:St} (h:Agree looks rd s t) (k:Agree looks rd t u):Agree looks rd s u :=
 ⟨fun x hx=>(h.sl x hx).trans (k.sl x hx),fun r hr=>⟨(h.ob r hr).1.trans (k.ob r hr).1,(h.ob r hr).2.trans (k.ob r hr).2⟩,h.nc.trans k.nc,fun r hr hr2 o ho=>(h.al r hr hr2 o ho).trans (k.al r hr hr2 o ho)⟩
theorem Agree.skip {s:St} {e f:En} (h:Ag e f):Agree f.i.looks f.rd s (s.en e):=by
 obtain ⟨h1,_⟩:=h;simp only [sS,Bool.and_eq_true] at h1;obtain ⟨⟨⟨hl,hr⟩,_⟩,_⟩:=h1;have hl':=xC.1 hl;have hr':=pX hr;have hh':=uO hr;unfold St.en;rw [sF];refine ⟨fun x hx=>?_,fun r hrr=>?_,rfl,fun r hrr hr2 o ho=>?_⟩
 ·show s.sl x=dF _ _ s.sl x
  cases hd:e.i.dst with
  | none=>rfl
  | some d =>
    show _=up s.sl d e.v x
    rw [ay,if_neg];rintro rfl;exact hl' x hd hx
 ·show s.gen r.1=e.ch.gF s.gen r.1∧dO (s.ob r.1) (e.ch.oF s.nc s.ob r.1) _ _
  have one:∀ o,(∀ y,y ∈ e.ch.wrs→y=(o,0,big))→(o,0,big) ∈ e.ch.wrs→o≠r.1:=fun o _ hm=>by
   exact (hr' _ hm r hrr).resolve_right (fun h=>by have:=h.1;dsimp only at this;omega)
  cases hc:e.ch with
  | no=>exact ⟨rfl,dO.refl _ _ _⟩
  | new o x =>
    have hne:=one o (by rw [hc];simp [Cg.wrs]) (by rw [hc];simp [Cg.wrs])
    simp only [Cg.gF,Cg.oF,Go.Proofs.Ytkafcpnahpfbfaa.md,ay,if_neg (Ne.symm hne)];exact ⟨trivial,dO.refl _ _ _⟩
  | row o k =>
    have hne:=one o (by rw [hc];simp [Cg.wrs]) (by rw [hc];simp [Cg.wrs])
    simp only [Cg.gF,Cg.oF,Go.Proofs.Ytkafcpnahpfbfaa.md,ay,if_neg (Ne.symm hne)];exact ⟨trivial,dO.refl _ _ _⟩
  | ab o H =>
    have hne:=one o (by rw [hc];simp [Cg.wrs]) (by rw [hc];simp [Cg.wrs])
    simp only [Cg.gF,Cg.oF,Go.Proofs.Ytkafcpnahpfbfaa.md,ay,if_neg (Ne.symm hne)];exact ⟨trivial,dO.refl _ _ _⟩
  | hw o l =>
    have hne:=one o (by rw [hc];simp [Cg.wrs]) (by rw [hc];simp [Cg.wrs])
    simp only [Cg.gF,Cg.oF,Go.Proofs.Ytkafcpnahpfbfaa.md,ay,if_neg (Ne.symm hne)];exact ⟨trivial,dO.refl _ _ _⟩
  | hall hp =>
    have hlt:=(hh' (gI,0,big) (by rw [hc];simp [Cg.wrs]) r hrr).1 rfl
    have hlt2:¬ HBS≤r.1:=by unfold gI at hlt;unfold HBS;omega
    simp only [Cg.gF,Cg.oF,if_neg hlt2];exact ⟨trivial,dO.refl _ _ _⟩
  | wr o a cs =>
    rw [hc] at hr';have hh:=hr' _ (List.mem_singleton.2 rfl) r hrr;dsimp only at hh;simp only [Cg.gF,Cg.oF,Go.Proofs.Ytkafcpnahpfbfaa.md,ay];refine ⟨trivial,?_⟩
    by_cases he:r.1=o
    ·rw [if_pos he,he];have hd:=(hh.resolve_left (by rw [he];exact fun h=>h rfl)).2.2
     cases s.ob o with
     | cells old =>
       refine ⟨(iY _ _ _).symm,fun i h1 h2=>?_⟩;rw [fU,if_neg];rintro ⟨h3,h4,h5⟩;omega
     | no=>exact dO.refl _ _ _
     | row _ _ _=>exact dO.refl _ _ _
     | ab _=>exact dO.refl _ _ _
     | hp _=>exact dO.refl _ _ _
    ·rw [if_neg he];exact dO.refl _ _ _
 ·show s.ob o=e.ch.oF s.nc s.ob o
  have lt:∀ x n m,(x,n,m) ∈ e.ch.wrs→x < gI:=fun x n m hm=>(hh' _ hm r hrr).2 hr2
  cases hc:e.ch with
  | no=>rfl
  | hall hp =>
    have:=(hh' (gI,0,big) (by rw [hc];simp [Cg.wrs]) r hrr).1 rfl
    omega
  | new o' x=>have:=lt o' 0 big (by rw [hc];simp [Cg.wrs]);simp only [Cg.oF,Go.Proofs.Ytkafcpnahpfbfaa.md,ay];rw [if_neg (by omega)]
  | wr o' a cs=>have:=lt o' a cs.length (by rw [hc];simp [Cg.wrs]);simp only [Cg.oF,Go.Proofs.Ytkafcpnahpfbfaa.md,ay];rw [if_neg (by omega)]
  | row o' k=>have:=lt o' 0 big (by rw [hc];simp [Cg.wrs]);simp only [Cg.oF,Go.Proofs.Ytkafcpnahpfbfaa.md,ay];rw [if_neg (by omega)]
  | ab o' H=>have:=lt o' 0 big (by rw [hc];simp [Cg.wrs]);simp only [Cg.oF,Go.Proofs.Ytkafcpnahpfbfaa.md,ay];rw [if_neg (by omega)]
  | hw o' l=>have:=lt o' 0 big (by rw [hc];simp [Cg.wrs]);simp only [Cg.oF,Go.Proofs.Ytkafcpnahpfbfaa.md,ay];rw [if_neg (by omega)]
theorem FM:∀ (es:List En) (k:Nat) (L:Nat→Bool) (j:Nat) (e:En) (s:St),k≤j→es[j - k]? = some e→L j=false →
 (∀ (i:Nat) f,j < i→es[i - k]? = some f→L i=true→Ag e f)→stF es k (fun i=>if i=j then true else L i) s=(stF es k L s).en e
 | [],k,L,j,e,s,hk,he,_,_=>by simp at he
 | f :: r,k,L,j,e,s,hk,he,hL,hi=>by
   by_cases hkj:k=j
   ·subst hkj;simp at he;subst he
    -- behind it nothing is set anew;it moves to the end
    have mv:∀ (r:List En) (k':Nat) (s:St),k < k'→(∀ (i:Nat) g,k < i→r[i - k']? = some g→k'≤i→L i=true→Ag f g)→stF r k' (fun i=>if i=k then true else L i) (s.en f)=(stF r k' L s).en f:=by
     intro r
     induction r with
     | nil=>intro k' s _ _;rfl
     | cons g r ih =>
       intro k' s hkk hg
       show stF r (k'+1) _ (cond (if k'=k then true else L k') ((s.en f).en g) (s.en f))=(stF r (k'+1) L (cond (L k') (s.en g) s)).en f
       rw [if_neg (show ¬ k'=k by omega)]
       cases hL':L k' with
       | true =>
         simp only [cond];rw [Ns (hg k' g hkk (by simp) (Nat.le_refl _) hL')]
         exact ih (k'+1) _ (by omega) (fun i g' h1 h2 h3 h4=>hg i g' h1 (by
          rw [show i - k'=(i - (k'+1))+1 by omega,List.getElem?_cons_succ];exact h2) (by omega) h4)
       | false =>
         simp only [cond]
         exact ih (k'+1) _ (by omega) (fun i g' h1 h2 h3 h4=>hg i g' h1 (by
          rw [show i - k'=(i - (k'+1))+1 by omega,List.getElem?_cons_succ];exact h2) (by omega) h4)
    simp only [stF,if_true,hL,cond]
    exact mv r (k+1) s (by omega) (fun i g h1 h2 h3 h4=>hi i g h1 (by
     rw [show i - k=(i - (k+1))+1 by omega,List.getElem?_cons_succ];exact h2) h4)
   ·show stF r (k+1) _ (cond (if k=j then true else L k) (s.en f) s)=(stF r (k+1) L (cond (L k) (s.en f) s)).en e
    rw [if_neg hkj]
    exact FM r (k+1) L j e _ (by omega) (by
     rw [show j - k=(j - (k+1))+1 by omega,List.getElem?_cons_succ] at he;exact he) hL (fun i g h1 h2 h3=>hi i g h1 (by
     rw [show i - k=(i - (k+1))+1 by omega,List.getElem?_cons_succ];exact h2) h3)
theorem xR {j:En}:∀ (es:List En) (k:Nat) (L M:Nat→Bool) (s t:St),Agree j.i.looks j.rd s t →
 (∀ (i:Nat) e,k≤i→es[i - k]? = some e→L i=M i∨Ag e j)→Agree j.i.looks j.rd (stF es k L s) (stF es k M t)
 | [],_,_,_,_,_,h,_=>h
 | e :: r,k,L,M,s,t,h,hi=>by
   simp only [stF]
   refine xR r (k+1) L M _ _ ?_ (fun i e' h1 h2=>hi i e' (by omega) (by
    rw [show i - k=(i - (k+1))+1 by omega,List.getElem?_cons_succ];exact h2))
   rcases hi k e (Nat.le_refl _) (by simp) with he | he
   ·rw [he];cases M k
    ·exact h
    ·exact h.both e
   ·cases L k <;> cases M k
    ·exact h
    ·exact h.trans (Agree.skip he)
    ·exact (Agree.skip he).symm.trans h
    ·exact h.both e
theorem yM:∀ (es:List En) (k m:Nat) (s:St),stF es k (fun i=>decide (i < m)) s=(es.take (m - k)).foldl St.en s
 | [],k,m,s=>by simp [stF]
 | e :: r,k,m,s=>by
   show stF r (k+1) _ (cond (decide (k < m)) (s.en e) s)=_
   rw [yM r (k+1) m]
   by_cases h:k < m
   ·rw [decide_eq_true h,show m - k=(m - (k+1))+1 by omega];rfl
   ·rw [decide_eq_false h,show m - k=0 by omega,show m - (k+1)=0 by omega];rfl
theorem QL {env:Env} {i:PI} {s:St} {K:Av→Cg→Prop} (hdem:i.op.dem=false) (h:i.go env s K):∃ v ch,i.go env s (fun v' ch'=>v'=v∧ch'=ch)∧K v ch:=by
 have hop:∀ K:Av→Cg→Prop,i.op.go env s (i.dst.getD 0) K→∃ v ch,i.op.go env s (i.dst.getD 0) (fun v' ch'=>v'=v∧ch'=ch)∧K v ch:=fun K hg=>by
  cases hc:i.op with
  | call f xs =>
    rw [hc] at hg;have hg':jd env s (i.dst.getD 0) K f xs (s.recv xs) (s.eX xs):=hg
    show ∃ v ch,jd env s (i.dst.getD 0) (fun v' ch'=>v'=v∧ch'=ch) f xs (s.recv xs) (s.eX xs)∧K v ch
    cases hre:s.recv xs with
    | none =>
     cases hpe:s.eX xs with
     | some p =>
      obtain ⟨o,g⟩:=p;rw [hre,hpe] at hg';obtain ⟨az,e1,e2⟩:=aj.1 hg';obtain ⟨ds,e3,ds',rs,e4,e5,e6⟩:=aj.1 e2;exact ⟨_,_,aj.2 ⟨az,e1,aj.2 ⟨ds,e3,ds',rs,e4,e5,rfl,rfl⟩⟩,e6⟩
     | none =>
      rw [hre,hpe] at hg';obtain ⟨az,e1,e2⟩:=aj.1 hg'
      rcases e2 with ⟨rs,e2,e3⟩ | ⟨H,rs,e2,e3⟩ | ⟨E,sz,rows,e2,e3⟩
      ·exact ⟨_,_,aj.2 ⟨az,e1,.inl ⟨rs,e2,rfl,rfl⟩⟩,e3⟩
      ·exact ⟨_,_,aj.2 ⟨az,e1,.inr (.inl ⟨H,rs,e2,rfl,rfl⟩)⟩,e3⟩
      ·exact ⟨_,_,aj.2 ⟨az,e1,.inr (.inr ⟨E,sz,rows,e2,rfl,rfl⟩)⟩,e3⟩
    | some p =>
      obtain ⟨o,g⟩:=p;rw [hre] at hg';obtain ⟨az,e1,e2⟩:=aj.1 hg';obtain ⟨H,e3,e4⟩:=aj.1 e2
      rcases e4 with ⟨H',rs,e5,e6⟩ | ⟨H2,e0,e5,e6⟩
      ·exact ⟨_,_,aj.2 ⟨az,e1,aj.2 ⟨H,e3,.inl ⟨H',rs,e5,rfl,rfl⟩⟩⟩,e6⟩
      ·exact ⟨_,_,aj.2 ⟨az,e1,aj.2 ⟨H,e3,.inr ⟨H2,e0,e5,rfl,rfl⟩⟩⟩,e6⟩
  | callv xv f xs =>
    rw [hc] at hg;obtain ⟨u0,hu0,hg⟩:=aj.1 hg
    suffices hh:∃ v ch,jd env s (i.dst.getD 0) (fun v' ch'=>v'=v∧ch'=ch) f xs (s.recv xs) (s.eX xs)∧K v ch by
     obtain ⟨v,ch,h1,h2⟩:=hh;exact ⟨v,ch,aj.2 ⟨u0,hu0,h1⟩,h2⟩
    have hg':jd env s (i.dst.getD 0) K f xs (s.recv xs) (s.eX xs):=hg
    show ∃ v ch,jd env s (i.dst.getD 0) (fun v' ch'=>v'=v∧ch'=ch) f xs (s.recv xs) (s.eX xs)∧K v ch
    cases hre:s.recv xs with
    | none =>
     cases hpe:s.eX xs with
     | some p =>
      obtain ⟨o,g⟩:=p;rw [hre,hpe] at hg';obtain ⟨az,e1,e2⟩:=aj.1 hg';obtain ⟨ds,e3,ds',rs,e4,e5,e6⟩:=aj.1 e2;exact ⟨_,_,aj.2 ⟨az,e1,aj.2 ⟨ds,e3,ds',rs,e4,e5,rfl,rfl⟩⟩,e6⟩
     | none =>
      rw [hre,hpe] at hg';obtain ⟨az,e1,e2⟩:=aj.1 hg'
      rcases e2 with ⟨rs,e2,e3⟩ | ⟨H,rs,e2,e3⟩ | ⟨E,sz,rows,e2,e3⟩
      ·exact ⟨_,_,aj.2 ⟨az,e1,.inl ⟨rs,e2,rfl,rfl⟩⟩,e3⟩
      ·exact ⟨_,_,aj.2 ⟨az,e1,.inr (.inl ⟨H,rs,e2,rfl,rfl⟩)⟩,e3⟩
      ·exact ⟨_,_,aj.2 ⟨az,e1,.inr (.inr ⟨E,sz,rows,e2,rfl,rfl⟩)⟩,e3⟩
    | some p =>
      obtain ⟨o,g⟩:=p;rw [hre] at hg';obtain ⟨az,e1,e2⟩:=aj.1 hg';obtain ⟨H,e3,e4⟩:=aj.1 e2
      rcases e4 with ⟨H',rs,e5,e6⟩ | ⟨H2,e0,e5,e6⟩
      ·exact ⟨_,_,aj.2 ⟨az,e1,aj.2 ⟨H,e3,.inl ⟨H',rs,e5,rfl,rfl⟩⟩⟩,e6⟩
      ·exact ⟨_,_,aj.2 ⟨az,e1,aj.2 ⟨H,e3,.inr ⟨H2,e0,e5,rfl,rfl⟩⟩⟩,e6⟩
  | ldg x =>
    rw [hc] at hg;obtain ⟨v,hv,hk⟩:=aj.1 hg;exact ⟨_,_,aj.2 ⟨v,hv,rfl,rfl⟩,hk⟩
  | hal c k =>
    rw [hc] at hg;have hg':rW s c K k:=hg
    show ∃ v ch,rW s c (fun v' ch'=>v'=v∧ch'=ch) k∧K v ch
    cases k with
    | new z=>obtain ⟨b,h1,h2⟩:=hg';exact ⟨_,_,⟨b,h1,rfl,rfl⟩,h2⟩
    | box x=>obtain ⟨l,h0,b,h1,h2⟩:=aj.1 hg';exact ⟨_,_,aj.2 ⟨l,h0,b,h1,rfl,rfl⟩,h2⟩
    | mk sz bytes z n m =>
      obtain ⟨l,h0,hg'⟩:=aj.1 hg';obtain ⟨l',h1,h2,b,h3,h4⟩:=aj.1 hg';exact ⟨_,_,aj.2 ⟨l,h0,aj.2 ⟨l',h1,h2,b,h3,rfl,rfl⟩⟩,h4⟩
    | map k=>obtain ⟨h0,b,h1,h2⟩:=hg';exact ⟨_,_,⟨h0,b,h1,rfl,rfl⟩,h2⟩
    | mapn k x=>obtain ⟨l,h0,h1,b,h2,h3⟩:=aj.1 hg';exact ⟨_,_,aj.2 ⟨l,h0,h1,b,h2,rfl,rfl⟩,h3⟩
    | range m =>
      obtain ⟨bm,h0,hg'⟩:=aj.1 hg';obtain ⟨clock,h1,b,h2,h3⟩:=aj.1 hg';exact ⟨_,_,aj.2 ⟨bm,h0,aj.2 ⟨clock,h1,b,h2,rfl,rfl⟩⟩,h3⟩
    | lit E sz z ln ps=>obtain ⟨xs,h0,b,h1,h2⟩:=aj.1 hg';exact ⟨_,_,aj.2 ⟨xs,h0,b,h1,rfl,rfl⟩,h2⟩
    | view sz x lo=>rw [hc] at hdem;cases hdem
    | app E sz bytes x y =>
      obtain ⟨news,h0,hg'⟩:=aj.1 hg'
      suffices hh:∃ v ch,appG s c E sz bytes news (fun v' ch'=>v'=v∧ch'=ch) (s.cl x)∧K v ch by
       obtain ⟨v,ch,h1,h2⟩:=hh;exact ⟨v,ch,aj.2 ⟨news,h0,h1⟩,h2⟩
      unfold appG at hg' ⊢;split at hg'
      ·obtain ⟨q,b,h1,h2⟩:=hg';exact ⟨_,_,⟨q,b,h1,rfl,rfl⟩,h2⟩
      ·obtain ⟨a,h1,hg'⟩:=aj.1 hg';obtain ⟨v,h2,q,b,h3,h4⟩:=aj.1 hg';exact ⟨_,_,aj.2 ⟨a,h1,aj.2 ⟨v,h2,q,b,h3,rfl,rfl⟩⟩,h4⟩
  | next x=>rw [hc] at hdem;cases hdem
  | callp f xs=>rw [hc] at hdem;cases hdem
  | callh f xs =>
    rw [hc] at hg;obtain ⟨az,h1,hp',rs,h2,h3⟩:=aj.1 hg
    rcases h3 with h3 | ⟨q1,q2,h3⟩
    ·exact ⟨_,_,aj.2 ⟨az,h1,hp',rs,h2,.inl ⟨rfl,rfl⟩⟩,h3⟩
    ·exact ⟨_,_,aj.2 ⟨az,h1,hp',rs,h2,.inr ⟨q1,q2,rfl,rfl⟩⟩,h3⟩
  | callc x f xs =>
    rw [hc] at hg;obtain ⟨p,h0,hg⟩:=aj.1 hg;obtain ⟨az,h1,hp',rs,h2,h3⟩:=aj.1 hg
    rcases h3 with h3 | ⟨q1,q2,h3⟩
    ·exact ⟨_,_,aj.2 ⟨p,h0,aj.2 ⟨az,h1,hp',rs,h2,.inl ⟨rfl,rfl⟩⟩⟩,h3⟩
    ·exact ⟨_,_,aj.2 ⟨p,h0,aj.2 ⟨az,h1,hp',rs,h2,.inr ⟨q1,q2,rfl,rfl⟩⟩⟩,h3⟩
  | _ =>
    rw [hc,PO.y9 rfl] at hg;obtain ⟨⟨v,ch⟩,e1,e2⟩:=aj.1 hg
    exact ⟨v,ch,by rw [PO.y9 rfl];exact aj.2 ⟨(v,ch),e1,rfl,rfl⟩,e2⟩
 unfold PI.go at h ⊢
 cases hg:i.guard with
 | none=>rw [hg] at h;exact hop K h
 | some p =>
   obtain ⟨t,want⟩:=p;rw [hg] at h;obtain ⟨b,e1,e2,e3⟩:=aj.1 h
   by_cases hb:b=some want
   ·obtain ⟨v,ch,e4,e5⟩:=hop K (e2 hb);exact ⟨v,ch,aj.2 ⟨b,e1,fun _=>e4,fun h=>absurd hb h⟩,e5⟩
   ·exact ⟨skp,.no,aj.2 ⟨b,e1,fun h=>absurd h hb,fun _=>⟨rfl,rfl⟩⟩,e3 hb⟩
theorem wS {env:Env}:∀ (is:List PI) (s:St) (acc:List (List Rg×List Rg)) (K:St→List (List Rg×List Rg)→Prop),(∀ i ∈ is,i.op.dem=false)→dw env is s acc K →
 ∃ es:List En,es.map (·.i)=is∧(∀ (j:Nat) e,es[j]? = some e→e.i.go env ((es.take j).foldl St.en s) (fun v ch=>v=e.v∧ch=e.ch)∧e.rd=e.i.rd ((es.take j).foldl St.en s)) ∧
   K (es.foldl St.en s) (acc.reverse ++ es.map fun e=>(e.rd,e.ch.wrs))
 | [],s,acc,K,_,h=>⟨[],rfl,fun j e h=>by simp at h,by simpa [dw] using h⟩
 | i :: is,s,acc,K,hd,h=>by
   obtain ⟨v,ch,h1,h2⟩:=QL (hd i (by simp)) h;obtain ⟨es,h3,h4,h5⟩:=wS is _ _ K (fun j hj=>hd j (by simp [hj])) h2;refine ⟨⟨i,v,ch,i.rd s⟩ :: es,by simp [h3],fun j e he=>?_,?_⟩
   ·cases j with
    | zero=>simp at he;subst he;exact ⟨h1,rfl⟩
    | succ j=>exact h4 j e (by simpa using he)
   ·have h6:=h5;simp only [List.reverse_cons,List.append_assoc,List.singleton_append] at h6;exact h6
def Closed (is:List PI) (L:Nat→Bool):Prop:=∀ (k:Nat) i,is[k]? = some i→L k=true→∀ e,e ∈ i.after→L e=true
theorem AQ (acc:List Nat):∀ (l:List Nat) (m x:Nat),(l.foldl (fun m e=>m ||| (1 <<< e) ||| acc.getD e 0) m).testBit x=true→m.testBit x=true∨∃ e,e ∈ l∧(x=e∨(acc.getD e 0).testBit x=true)
 | [],m,x,h=>.inl h
 | e :: l,m,x,h=>by
   rcases AQ acc l _ x h with h1 | ⟨e',h1,h2⟩
   ·simp only [Nat.testBit_or,Bool.or_eq_true,Nat.one_shiftLeft,Nat.testBit_two_pow] at h1
    rcases h1 with (h1 | h1) | h1
    ·exact .inl h1
    ·exact .inr ⟨e,by simp,.inl (by simpa [eq_comm] using h1)⟩
    ·exact .inr ⟨e,by simp,.inr h1⟩
   ·exact .inr ⟨e',by simp [h1],h2⟩
theorem vM (is:List PI) {L:Nat→Bool} (hL:Closed is L):∀ (r:List PI) (acc:List Nat),r=is.drop acc.length →
 (∀ (j:Nat) i x,is[j]? = some i→(acc.getD j 0).testBit x=true→(∀ e,e ∈ i.after→L e=true)→L x=true) →
 ∀ (j:Nat) i x,is[j]? = some i→((masks acc r).getD j 0).testBit x=true→(∀ e,e ∈ i.after→L e=true)→L x=true
 | [],acc,_,h=>h
 | p :: r,acc,hr,h=>by
   simp only [masks]
   have hp:is[acc.length]? = some p:=by
    have:=congrArg (·[0]?) hr
    simpa using this.symm
   refine vM is hL r _ (by
    have:=congrArg List.tail hr
    simpa using this) (fun j i x hj hb ha=>?_)
   by_cases hlt:j < acc.length
   ·refine h j i x hj ?_ ha;rw [List.getD_eq_getElem?_getD,List.getElem?_append_left hlt] at hb
    rwa [List.getD_eq_getElem?_getD]
   ·by_cases he:j=acc.length
    ·subst he;rw [hp] at hj;cases hj;rw [List.getD_eq_getElem?_getD,List.getElem?_append_right (Nat.le_refl _)] at hb;simp only [Nat.sub_self,List.getElem?_cons_zero,Option.getD_some] at hb
     rcases AQ acc _ _ _ hb with h1 | ⟨e,h1,h2⟩
     ·simp at h1
     ·rcases h2 with rfl | h2
      ·exact ha _ h1
      ·cases hee:is[e]? with
       | none =>
         have:acc.getD e 0=0:=by
          rw [List.getD_eq_getElem?_getD];have h3:=List.getElem?_eq_none_iff.1 hee;have h4:=(List.getElem?_eq_some_iff.1 hp).1;rw [List.getElem?_eq_none (by omega)];rfl
         rw [this] at h2;simp at h2
       | some i'=>exact h e i' x hee h2 (hL e i' hee (ha e h1))
    ·have hge:acc.length+1≤j:=by omega
     rw [List.getD_eq_getElem?_getD,List.getElem?_eq_none (by simp;omega)] at hb
     simp at hb
def Eh (is:List PI):Bool:=(is.all fun i=>!i.op.dem) && is.zipIdx.all fun p=>p.1.after.all fun e=>decide (e < p.2)
theorem xA {P:Program} {n:Nat} {eqs:List (Nat×List Bool)} {ops:Array Oper} {o:Oper} {i:PI} (h:tY P n eqs ops o=some i):i.after=o.after.toList.filterMap fun e=>if Region.binds .any e=true then some e.on else none:=by
 unfold tY at h;split at h
 ·split at h
  ·split at h
   ·cases h;rfl
   ·split at h
    ·cases h;rfl
    ·cases h
  ·cases h
 ·cases h
section
variable {P:Program} {n:Nat} {w0:World} {S0:Nat→Nat}
theorem CK [Bor] [I:bT] {env:Env} (hE:aA P env) (hp:∀ w,iD w0.heap.size w0 w→I.p w) {eqs:List (Nat×List Bool)} (heq:∀ p,p ∈ eqs→EqT P p.1 p.2) (hm:P.follows .mixedOrders=true) {ops:Array Oper} {is:List PI} (hc:ops.toList.map (tY P n eqs ops)=is.map some) {Q:Exit→Act→World→Prop} {K:St→Prop}
 (hK:∀ s W a w,K s→Sim w0 S0 n W s a w→Q .normal a w) {W:Wit} {s:St} {a:Act} {w:World} (hs:Sim w0 S0 n W s a w) (hback:Eh is=true) (hev:dw env is s [] fun s' fts=>vW is fts=true∧K s') (id:Nat):(Code.region id ops true).wp P Q a w:=by
 unfold Eh at hback;rw [Bool.and_eq_true] at hback;obtain ⟨hdem,hback⟩:=hback;have hdem:∀ i ∈ is,i.op.dem=false:=fun i hi=>by simpa using List.all_eq_true.1 hdem i hi
 obtain ⟨es,hes,hgo,hdraw,hfin⟩:=wS is s [] _ hdem hev;simp only [List.reverse_nil,List.nil_append] at hdraw;have hlen:es.length=is.length:=by rw [←hes];simp
 have hlen2:ops.size=is.length:=by
  have:=congrArg List.length hc;simpa using this
 have hei:∀ (j:Nat) e,es[j]? = some e→is[j]? = some e.i:=fun j e h=>by rw [←hes,List.getElem?_map,h];rfl
 have hoi:∀ (j:Nat) i,is[j]? = some i→∃ o,ops[j]? = some o∧tY P n eqs ops o=some i:=fun j i h=>by
  have h1:=congrArg (·[j]?) hc;simp only [List.getElem?_map,h,Option.map_some] at h1
  cases ho:ops[j]? with
  | none=>rw [Array.getElem?_toList,ho] at h1;simp at h1
  | some o=>rw [Array.getElem?_toList,ho] at h1;simp at h1;exact ⟨o,rfl,h1⟩
 -- what is not ordered is apart
 have hind:∀ (i j:Nat) e f,i < j→es[i]? = some e→es[j]? = some f→((masks [] is).getD j 0).testBit i=false→Ag e f:=fun i j e f hij he hf hb=>by
  unfold vW at hdraw;have h1:=List.all_eq_true.1 hdraw j (List.mem_range.2 (by rw [←hlen];exact (List.getElem?_eq_some_iff.1 hf).1))
  have h2:=List.all_eq_true.1 h1 i (List.mem_range.2 hij);rw [hb,Bool.false_or,hei i e he,hei j f hf,List.getElem?_map,List.getElem?_map,he,hf] at h2;simp only [Option.map_some,Bool.and_eq_true] at h2;exact h2
 refine wp_region_any hm ?_
 have main:∀ (fuel:Nat) (listed:Array Bool) (R:List Nat) (W:Wit) (a:Act) (w:World),listed.size=ops.size→Closed is (fun k=>listed.getD k false)→R.length=fuel→(∀ j,j < ops.size→listed.getD j false=false→j ∈ R) →
  Sim w0 S0 n W (stF es 0 (fun k=>listed.getD k false) s) a w→wpAny P .any ops Q fuel listed a w:=by
  intro fuel
  -- if nothing is left,all is done
  have done:∀ (listed:Array Bool) (W:Wit) (a:Act) (w:World),(∀ j,j < ops.size→listed.getD j false=true)→Sim w0 S0 n W (stF es 0 (fun k=>listed.getD k false) s) a w→Q .normal a w:=fun listed W a w hall hsim=>by
   refine hK _ W a w hfin ?_
   have h1:stF es 0 (fun k=>listed.getD k false) s=stF es 0 (fun k=>decide (k < es.length)) s:=by
    have:∀ (r:List En) (k:Nat) (s:St),k+r.length≤es.length→stF r k (fun k=>listed.getD k false) s=stF r k (fun k=>decide (k < es.length)) s:=by
     intro r
     induction r with
     | nil=>intro k s _;rfl
     | cons e r ih =>
       intro k s hk;simp only [List.length_cons] at hk
       show stF r (k+1) _ (cond (listed.getD k false) (s.en e) s)=stF r (k+1) _ (cond (decide (k < es.length)) (s.en e) s)
       rw [hall k (by omega),decide_eq_true (show k < es.length by omega)];exact ih (k+1) _ (by omega)
    exact this es 0 s (by omega)
   rw [h1,yM] at hsim
   simpa using hsim
  have stuck:∀ (listed:Array Bool),listed.size=ops.size→Region.ready .any ops listed=[]→∀ j,j < ops.size→listed.getD j false=true:=fun listed hsz hr=>by
   intro j
   induction j using Nat.strongRecOn with
   | _ j ih =>
     intro hj
     cases hb:listed.getD j false with
     | true=>rfl
     | false =>
       exfalso
       have:j ∈ Region.ready .any ops listed:=by
        rw [mem_ready];obtain ⟨o,ho,hco⟩:=hoi j _ (List.getElem?_eq_getElem (by omega));refine ⟨by rw [Array.getD_eq_getD_getElem?] at hb ⊢;rw [Array.getElem?_eq_getElem (by omega)] at hb ⊢;simpa using hb,o,ho,fun e he hbind=>?_⟩
        have hmem:e.on ∈ is[j].after:=by
         rw [xA hco];exact List.mem_filterMap.2 ⟨e,by simpa using he,by rw [if_pos hbind]⟩
        have hlt:e.on < j:=by
         have h1:=List.all_eq_true.1 hback (is[j],j) (by
          rw [List.mk_mem_zipIdx_iff_getElem?];exact List.getElem?_eq_getElem (by omega))
         simpa using List.all_eq_true.1 h1 _ hmem
        exact ih e.on hlt (by omega)
       rw [hr] at this;cases this
  induction fuel with
  | zero =>
    intro listed R W a w hsz _ hR hall hsim;have hR0:R=[]:=List.eq_nil_of_length_eq_zero hR;subst hR0
    have hall':∀ j,j < ops.size→listed.getD j false=true:=fun j hj=>by
     cases hb:listed.getD j false with
     | true=>rfl
     | false=>exact absurd (hall j hj hb) (by simp)
    refine ⟨?_,done listed W a w hall' hsim⟩
    apply List.eq_nil_iff_forall_not_mem.2
    intro j hj;obtain ⟨h1,o,ho,_⟩:=mem_ready.1 hj;have hlt:=(Array.getElem?_eq_some_iff.1 ho).1;have h2:=hall' j hlt;rw [Array.getD_eq_getD_getElem?,Array.getElem?_eq_getElem (by omega)] at h1 h2;simp at h1 h2;rw [h1] at h2;cases h2
  | succ fuel ih =>
    intro listed R W a w hsz hcl hR hall hsim;refine ⟨fun hr=>done listed W a w (stuck listed hsz hr) hsim,fun j hj=>?_⟩;obtain ⟨h1,o,ho,hpre⟩:=mem_ready.1 hj;have hlt:=(Array.getElem?_eq_some_iff.1 ho).1
    have hLj:listed.getD j false=false:=by
     rw [Array.getD_eq_getD_getElem?,Array.getElem?_eq_getElem (by omega)] at h1 ⊢
     simpa using h1
    obtain ⟨e,he⟩:∃ e,es[j]? = some e:=⟨_,List.getElem?_eq_getElem (by omega)⟩
    have hij:=hei j e he;obtain ⟨o',ho',hco⟩:=hoi j _ hij;rw [ho] at ho';cases ho'
    have hafter:∀ x,x ∈ e.i.after→listed.getD x false=true:=fun x hx=>by
     rw [xA hco] at hx;obtain ⟨ed,h2,h3⟩:=List.mem_filterMap.1 hx;split at h3
     ·rename_i hb;cases h3;exact hpre ed (by simpa using h2) hb
     ·cases h3
    -- what the other entries do to this one
    have happart:∀ (i:Nat) f,es[i]? = some f→i≠j→listed.getD i false≠decide (i < j)→Ag f e:=fun i f hf hne hL=>by
     rcases Nat.lt_or_ge i j with hij2 | hij2
     ·rw [decide_eq_true hij2] at hL
      cases hb:((masks [] is).getD j 0).testBit i with
      | false=>exact hind i j f e hij2 hf he hb
      | true =>
        exfalso
        have:=vM is hcl is [] rfl (fun j i x _ h=>by simp at h) j e.i i hij hb hafter;exact hL this
     ·have hgt:j < i:=by omega
      rw [decide_eq_false (by omega)] at hL
      have hLi:listed.getD i false=true:=by
       cases h:listed.getD i false with
       | true=>rfl
       | false=>exact absurd h hL
      cases hb:((masks [] is).getD i 0).testBit j with
      | false=>exact (hind j i e f hgt he hf hb).symm
      | true =>
        exfalso
        have:=vM is hcl is [] rfl (fun j i x _ h=>by simp at h) i f.i j (hei i f hf) hb (hcl i f.i (hei i f hf) hLi);rw [hLj] at this;cases this
    obtain ⟨hg,hrd⟩:=hgo j e he
    have hagree:Agree e.i.looks e.rd ((es.take j).foldl St.en s) (stF es 0 (fun k=>listed.getD k false) s):=by
     have h2:=yM es 0 j s;simp only [Nat.sub_zero] at h2;rw [←h2];refine xR es 0 _ _ s s (Agree.refl _ _ _) (fun i f _ hf=>?_);rw [Nat.sub_zero] at hf
     by_cases hij2:i=j
     ·subst hij2;exact .inl (by rw [hLj];simp)
     ·by_cases hL:decide (i < j)=listed.getD i false
      ·exact .inl hL
      ·exact .inr (happart i f hf hij2 (fun h=>hL h.symm))
    rw [hrd] at hagree;refine FE hE hp heq ho hco hsim (JG (hdem e.i (List.mem_of_getElem? hij)) hagree hg) (fun v ch W' a' w' hv hsim'=>?_);obtain ⟨rfl,rfl⟩:=hv
    have hset:=FM es 0 (fun k=>listed.getD k false) j e s (Nat.zero_le _) (by rw [Nat.sub_zero];exact he) hLj (fun i f hij2 hf hL=>by
     rw [Nat.sub_zero] at hf;exact (happart i f hf (by omega) (by rw [hL,decide_eq_false (by omega)];decide)).symm)
    have hfl:(fun k=>(listed.setIfInBounds j true).getD k false)=fun i=>if i=j then true else listed.getD i false:=by
     funext i
     rw [Array.getD_eq_getD_getElem?,Array.getElem?_setIfInBounds]
     by_cases hi:j=i
     ·subst hi;simp [hsz,hlt]
     ·rw [if_neg hi,if_neg (Ne.symm hi),Array.getD_eq_getD_getElem?]
    refine ih (listed.setIfInBounds j true) (R.erase j) W' a' w' (by simpa using hsz) ?_ ?_ ?_ ?_
    ·intro k i hk hL x hx;rw [hfl] at hL ⊢;dsimp only at hL ⊢;split
     ·rfl
     ·split at hL
      ·rename_i hkj;subst hkj;rw [hij] at hk;cases hk;exact hafter x hx
      ·exact hcl k i hk hL x hx
    ·rw [List.length_erase_of_mem (hall j hlt hLj),hR];rfl
    ·intro i hi hL
     have hne:i≠j:=by
      rintro rfl;have:=congrFun hfl i;rw [this,if_pos rfl] at hL;cases hL
     have:=congrFun hfl i;rw [this,if_neg hne] at hL;exact (List.mem_erase_of_ne hne).2 (hall i hi hL)
    ·rw [hfl,hset];exact hsim'
 have hfl0:(fun k=>(Array.replicate ops.size false).getD k false)=fun _=>false:=by
  funext k
  rw [Array.getD_eq_getD_getElem?,Array.getElem?_replicate];split <;> rfl
 have hst0:∀ (r:List En) (k:Nat) (s:St),stF r k (fun _=>false) s=s:=by
  intro r
  induction r with
  | nil=>intro k s;rfl
  | cons e r ih=>intro k s;exact ih (k+1) s
 refine main ops.size _ (List.range ops.size) W a _ (by simp) ?_ (by simp) (fun j hj _=>List.mem_range.2 hj) ?_
 ·intro k i _ hL;rw [hfl0] at hL;cases hL
 ·rw [hfl0,hst0];exact hs.drew _
end
end Go.Proofs.Ytkafcpnahpfbfaa
end
