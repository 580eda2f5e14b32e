/- The document's answer: which traces can be stored; the file of a trace. -/
import Derived.Test.YtkafcpnahpfbfaaMs4
import Derived.RangeFuncNested
import Derived.RangeFuncCalls
import Derived.RangeFuncWrites
import Derived.LoopIn
import Derived.DeepKeys5
import Derived.Maps.OwnSet
import Derived.Deep.Draws
import Derived.Below
import Derived.Test.YtkafcpnahpfbfaaRows
import Derived.WalkKit
import Derived.WalkSpells
import Derived.Outline
import Derived.Handy
import Derived.Deep.Light
import Derived.Lib.Hide
set_option linter.unusedSimpArgs false
set_option linter.unusedVariables false
section
namespace Go.Proofs.Ytkafcpnahpfbfaa
open Go Go.RowKit
set_option maxRecDepth 1000000
set_option maxHeartbeats 4000000
def dQ (es:List Ev) (d:Dep):Prop:=d.val∧(∀ s ∈ d.st,s.1≤2147483647∧s.2≤2147483647)∧∀ e ∈ es,e.valid=true∧e.stack < d.st.length
open Classical in
noncomputable def wB (es:List Ev) (d:Dep):Bool:=decide (dQ es d)
open Classical in
theorem jm {es:List Ev} {d:Dep} (h:¬ dQ es d):wB es d=false:=by unfold wB;exact decide_eq_false h
open Classical in
theorem nU {es:List Ev} {d:Dep} (h:dQ es d):wB es d=true:=by unfold wB;exact decide_eq_true h
theorem dQ.ok {es:List Ev} {d:Dep} (h:dQ es d) (hl:d.st.length≤1000) (he:es.length≤1000):rJ d es:=by
 obtain ⟨⟨h1,h2⟩,h3,h4⟩:=h;refine ⟨⟨h1,by omega,fun x hx=>?_,fun p hp=>?_⟩,hl,he,h4⟩
 ·obtain ⟨i,hi,rfl⟩:=List.getElem_of_mem hx;have:=(h2 i (by omega)).1.1;have e:fB d i=d.pr[i]:=by unfold fB;rw [List.getD_eq_getElem?_getD,List.getElem?_eq_getElem hi];rfl
  rw [e] at this;omega
 ·obtain ⟨i,hi,rfl⟩:=List.getElem_of_mem hp;have:=(h2 i hi).1.2;have e:dX d i=d.st[i]:=by unfold dX;rw [List.getD_eq_getElem?_getD,List.getElem?_eq_getElem hi];rfl
  rw [e] at this;have q:=h3 _ hp;omega
theorem tQ (k:Nat) (c:List Nat):(bK k c).length≤14+c.length:=by
 unfold bK aX fG;have:=bO c.length;simp only [List.length_append,List.length_cons,List.length_nil];omega
theorem kZ {es:List Ev} {d:Dep} (h:rJ d es):∀ b ∈ aZ d es,b.length≤30014:=by
 intro b hb
 rcases List.mem_append.1 hb with q | q
 ·obtain ⟨k,_,rfl⟩:=List.mem_map.1 q;have:=tQ 66 (jF d es k);have:=kU h k
  show (bK 66 (jF d es k)).length≤_
  omega
 ·rw [List.mem_singleton.1 q];have:=tQ 69 (oz d es);have:=mV h;omega
theorem jv (d:Dep) (es:List Ev):(aZ d es).length=dW es+1:=by unfold aZ;rw [List.length_append,List.length_map,List.length_range];rfl
def LW (ps rs:List Pa):Prop:=∃ (es:List Ev) (d:Dep),ps=[iA es d]∧(es.length≤1000∧d.st.length≤1000∧d.pr.length≤1000)∧rs=[pB (wB es d)]
noncomputable def Jw:Env:=e1 34 Lx (e1 35 wE (e1 20 qo e0))
theorem CZ:aA Try.prog Jw:=aA.e1 O1 (aA.e1 Il (aA.e1 vO aA.e0))
theorem R4:Spec Try.prog 17 LW:=by
 refine sp17 CZ ?_;rintro ps rs ⟨es,d,rfl,⟨l1,l2,l3⟩,rfl⟩;refine ⟨by simp,?_⟩;unfold pc17
 with_reducible refine aQ ?_
 have m1:(d.st.map aW).length=d.st.length:=List.length_map ..;have m2:(es.map Ev.row).length=es.length:=List.length_map ..;simp only [↓evP,evB,stB,Nat.reduceEqDiff,Nat.reduceAdd,Nat.reduceLeDiff,iA,cK];refine aF [pB (sZ d)] (by exact ⟨d,rfl,⟨by omega,by omega⟩,rfl⟩) ?_
 by_cases hv:d.val
 ·have b1:¬ ((es.length:Int) > 5000):=by omega
  rw [qB hv];simp only [↓evP,evB,stB,reduceCtorEq,Nat.reduceEqDiff,m2,b1,decide_false];refine gy [1,2,3] [1] (fun S hs ho=>?_);simp only [stB,Nat.reduceEqDiff] at hs ho;obtain ⟨q1,q2,q3⟩:=hs;obtain ⟨g1,o1⟩:=ho;refine bS ms17_0 os17_0 (fun m st=>∃ i:Nat,m=d.st.length - i∧i≤d.st.length∧st.sl 3=aI i∧∀ s ∈ d.st.take i,s.1≤2147483647∧s.2≤2147483647) d.st.length ?_ ?_
  ·exact ⟨0,rfl,Nat.zero_le _,q3,fun x q=>by cases q⟩
  rintro m z ⟨i,rfl,hi,h3,hal⟩;simp only [stB,Nat.reduceBEq] at h3
  rcases Nat.lt_or_ge i d.st.length with hlt | hge
  ·have ga:d.st[i]? = some (d.st[i]):=List.getElem?_eq_getElem hlt;generalize d.st[i]=x at ga;obtain ⟨x1,x2⟩:=x;have hmem:(x1,x2) ∈ d.st:=List.mem_of_getElem? ga;have ilt:(i:Int) < (d.st.length:Int):=by omega
   have w3:IntKind.i64.wrap ((i:Int)+1)=((i+1:Nat):Int):=by rw [dP (by omega) (by omega)];omega
   by_cases c1:x1 > 2147483647
   ·rw [jm fun h=>by have:=(h.2.1 _ hmem).1;dsimp only at this;omega]
    simp only [↓evP,evB,stB,reduceCtorEq,Nat.reduceEqDiff,Nat.reduceAdd,Nat.reduceBEq,q1,g1,o1,h3,m1,ilt,ga,aW,c1,decide_true,pr17]
    first | done | rfl
   by_cases c2:x2 > 2147483647
   ·rw [jm fun h=>by have:=(h.2.1 _ hmem).2;dsimp only at this;omega]
    simp only [↓evP,evB,stB,reduceCtorEq,Nat.reduceEqDiff,Nat.reduceAdd,Nat.reduceBEq,q1,g1,o1,h3,m1,ilt,ga,aW,c1,c2,decide_true,decide_false,pr17]
    first | done | rfl
   simp only [↓evP,evB,stB,reduceCtorEq,Nat.reduceEqDiff,Nat.reduceAdd,Nat.reduceBEq,q1,g1,o1,h3,m1,ilt,ga,aW,c1,c2,decide_true,decide_false]
   exact ⟨_,by omega,(by repeat' (first | assumption | exact bg.mpr trivial | exact Within.refl _ _ _ | (refine bC ?_ rfl rfl) | (refine aY ?_ rfl))),i+1,rfl,hlt,by simp only [stB,Nat.reduceEqDiff,Nat.reduceBEq,h3,w3],fun s hs=>by
    rw [take_at ga] at hs
    rcases List.mem_append.1 hs with q | q
    ·exact hal s q
    ·rw [List.mem_singleton.1 q];exact ⟨by dsimp only;omega,by dsimp only;omega⟩⟩
  have hie:i=d.st.length:=by omega
  subst hie;rw [List.take_length] at hal;have ilt:¬ (d.st.length:Int) < (d.st.length:Int):=by omega
  simp only [↓evP,evB,stB,reduceCtorEq,Nat.reduceEqDiff,Nat.reduceBEq,q1,g1,o1,h3,m1,ilt,decide_false];refine gy [1,2,4] [1] (fun T hs2 ho2=>?_);simp only [stB,Nat.reduceEqDiff,Nat.reduceBEq,q1,q2,g1,o1] at hs2 ho2;obtain ⟨p1,p2,p4⟩:=hs2;obtain ⟨u1,v1⟩:=ho2;refine bS ms17_1 os17_1 (fun m st=>∃ i:Nat,m=es.length - i∧i≤es.length∧st.sl 4=aI i∧∀ e ∈ es.take i,e.valid=true∧e.stack < d.st.length) es.length ?_ ?_
  ·exact ⟨0,rfl,Nat.zero_le _,p4,fun x q=>by cases q⟩
  rintro m z2 ⟨i,rfl,hi,h4,hal2⟩;simp only [stB,Nat.reduceBEq] at h4
  rcases Nat.lt_or_ge i es.length with hlt | hge
  ·have ga:es[i]? = some (es[i]):=List.getElem?_eq_getElem hlt;generalize es[i]=x at ga;have hmem:x ∈ es:=List.mem_of_getElem? ga;have ilt:(i:Int) < (es.length:Int):=by omega
   have w3:IntKind.i64.wrap ((i:Int)+1)=((i+1:Nat):Int):=by rw [dP (by omega) (by omega)];omega
   simp only [↓evP,evB,stB,reduceCtorEq,Nat.reduceEqDiff,Nat.reduceAdd,Nat.reduceLeDiff,Nat.reduceBEq,p1,u1,v1,h4,m2,ilt,ga,Ev.row,decide_true];refine iW [pB x.valid] (by exact ⟨x,rfl,rfl⟩) ?_
   cases hxv:x.valid with
   | false =>
     rw [jm fun h=>by have:=(h.2.2 _ hmem).1;rw [hxv] at this;cases this]
     simp only [↓evP,evB,stB,reduceCtorEq,Nat.reduceEqDiff,Nat.reduceBEq,p1,h4,pr17]
     first | done | exact (by unfold Drw;refine Eq.trans (b:=true) ?_ rfl;kernel_rfl) | exact ⟨(by unfold Drw;refine Eq.trans (b:=true) ?_ rfl;kernel_rfl),rfl⟩
   | true =>
     by_cases c2:x.stack≥(d.st.length:Int)
     ·rw [jm fun h=>by have:=(h.2.2 _ hmem).2;omega]
      simp only [↓evP,evB,stB,reduceCtorEq,Nat.reduceEqDiff,Nat.reduceAdd,Nat.reduceBEq,p1,u1,v1,h4,m1,ga,Ev.row,c2,decide_true,pr17]
      first | done | exact (by unfold Drw;refine Eq.trans (b:=true) ?_ rfl;kernel_rfl) | exact ⟨(by unfold Drw;refine Eq.trans (b:=true) ?_ rfl;kernel_rfl),rfl⟩
     ·simp only [↓evP,evB,stB,reduceCtorEq,Nat.reduceEqDiff,Nat.reduceAdd,Nat.reduceBEq,p1,u1,v1,h4,m1,ga,Ev.row,c2,decide_false];refine ⟨(by unfold Drw;refine Eq.trans (b:=true) ?_ rfl;kernel_rfl),?_⟩
      exact ⟨_,by omega,(by repeat' (first | assumption | exact bg.mpr trivial | exact Within.refl _ _ _ | (refine bC ?_ rfl rfl) | (refine aY ?_ rfl))),i+1,rfl,hlt,by simp only [stB,Nat.reduceEqDiff,Nat.reduceBEq,h4,w3],fun s hs=>by
       rw [take_at ga] at hs
       rcases List.mem_append.1 hs with q | q
       ·exact hal2 s q
       ·rw [List.mem_singleton.1 q];exact ⟨hxv,by omega⟩⟩
  have hie:i=es.length:=by omega
  subst hie;rw [List.take_length] at hal2;have hS:dQ es d:=⟨hv,hal,hal2⟩;have ok:=hS.ok l2 l1;rw [nU hS];have ilt:¬ (es.length:Int) < (es.length:Int):=by omega
  simp only [↓evP,evB,stB,reduceCtorEq,Nat.reduceEqDiff,Nat.reduceAdd,Nat.reduceLeDiff,Nat.reduceBEq,p1,u1,v1,h4,m2,ilt,decide_false];refine aF [.one (.im (kG (aZ d es)))] (by exact ⟨es,d,rfl,ok,rfl⟩) ?_;have hbl:=jL (aZ d es);have hbn:=jv d es;have hnb:dW es≤1000:=by unfold dW;omega
  simp only [↓evP,evB,stB,Nat.reduceEqDiff,Nat.reduceBEq];refine gy [2,5,6] [] (fun U hs3 _=>?_);simp only [stB,Nat.reduceEqDiff,Nat.reduceBEq,p2] at hs3;obtain ⟨r2,r5,r6⟩:=hs3;refine bS ms17_2 os17_2 (fun m st=>∃ i:Nat,m=(aZ d es).length - i∧i≤(aZ d es).length∧st.sl 6=aI i) (aZ d es).length ?_ ?_
  ·exact ⟨0,rfl,Nat.zero_le _,r6⟩
  rintro m z3 ⟨i,rfl,hi,h6⟩;simp only [stB,Nat.reduceBEq] at h6
  rcases Nat.lt_or_ge i (aZ d es).length with hlt | hge
  ·have ga:(aZ d es)[i]? = some ((aZ d es)[i]):=List.getElem?_eq_getElem hlt;generalize (aZ d es)[i]=x at ga;have hxl:=kZ ok x (List.mem_of_getElem? ga);have gr:(kG (aZ d es))[i]? = some [.im (byR x)]:=by unfold kG;rw [List.getElem?_map,ga];rfl
   have hxr:=aV x;have ilt:(i:Int) < ((aZ d es).length:Int):=by omega
   have c1:¬ ((x.length:Int) > 1048584):=by omega
   have w3:IntKind.i64.wrap ((i:Int)+1)=((i+1:Nat):Int):=by rw [dP (by omega) (by omega)];omega
   simp only [↓evP,evB,stB,reduceCtorEq,Nat.reduceEqDiff,Nat.reduceBEq,r5,h6,hbl,ilt,gr,hxr,c1,decide_true,decide_false]
   exact ⟨_,by omega,(by repeat' (first | assumption | exact bg.mpr trivial | exact Within.refl _ _ _ | (refine bC ?_ rfl rfl) | (refine aY ?_ rfl))),i+1,rfl,hlt,by simp only [stB,Nat.reduceEqDiff,Nat.reduceBEq,h6,w3]⟩
  have hie:i=(aZ d es).length:=by omega
  subst hie;have ilt:¬ ((aZ d es).length:Int) < ((aZ d es).length:Int):=by omega
  simp only [↓evP,evB,stB,reduceCtorEq,Nat.reduceEqDiff,Nat.reduceBEq,r5,h6,hbl,ilt,decide_false,pr17]
  first | done | rfl
 ·rw [ou hv,jm fun h=>hv h.1];simp only [↓evP,evB,stB,reduceCtorEq,Nat.reduceEqDiff,pr17]
  first | done | rfl
def cu (es:List Ev) (d:Dep):List Nat:=bQ ++ (aZ d es).flatten
theorem Jb (a b:List Nat):byR a ++ byR b=byR (a ++ b):=(List.map_append ..).symm
theorem qD {l:List (List Nat)} {c:Nat} (h:∀ b ∈ l,b.length≤c):l.flatten.length≤c * l.length:=by
 induction l with
 | nil=>exact Nat.zero_le _
 | cons x l ih =>
   rw [List.flatten_cons,List.length_append,List.length_cons,Nat.mul_succ];have:=h x (List.mem_cons_self ..);have:=ih fun b hb=>h b (List.mem_cons_of_mem _ hb)
   omega
theorem Gu {es:List Ev} {d:Dep} (h:rJ d es) (he:es.length≤320) (k:Nat):(bQ ++ ((aZ d es).take k).flatten).length≤700000:=by
 have hb:=jv d es;have h1:=qD (l:=(aZ d es).take k) (c:=30014) fun b q=>kZ h b (lD q)
 have h2:((aZ d es).take k).length≤21:=by
  rw [List.length_take,hb];unfold dW;omega
 have h3:=Nat.mul_le_mul_left 30014 h2;rw [List.length_append];have:bQ.length=8:=rfl;omega
open Classical in
noncomputable def y7 (es:List Ev) (d:Dep):List Pa:=if dQ es d then [dL (cu es d),pI 0] else [dL [],pI 1]
open Classical in
theorem kV {es:List Ev} {d:Dep} (h:dQ es d):y7 es d=[dL (cu es d),pI 0]:=by unfold y7;exact if_pos h
open Classical in
theorem uZ {es:List Ev} {d:Dep} (h:¬ dQ es d):y7 es d=[dL [],pI 1]:=by unfold y7;exact if_neg h
def LG (ps rs:List Pa):Prop:=∃ (es:List Ev) (d:Dep),ps=[iA es d]∧(es.length≤320∧d.st.length≤1000∧d.pr.length≤1000)∧rs=y7 es d
noncomputable def Js:Env:=f1 21 EI (e1 17 LW (e1 20 qo e0))
theorem CW:aA Try.prog Js:=aA.f1 OV (aA.e1 R4 (aA.e1 vO aA.e0))
theorem RI:Spec Try.prog 13 LG:=by
 refine sp13 CW ?_;rintro ps rs ⟨es,d,rfl,⟨l1,l2,l3⟩,rfl⟩;refine ⟨by simp,?_⟩;unfold pc13
 with_reducible refine aQ ?_
 simp only [↓evP,evB,stB,Nat.reduceEqDiff,Nat.reduceAdd,Nat.reduceLeDiff,iA,cK];refine aF [pB (wB es d)] (by exact ⟨es,d,rfl,⟨by omega,l2,l3⟩,rfl⟩) ?_
 by_cases hS:dQ es d
 ·have ok:=hS.ok l2 (by omega);rw [nU hS,kV hS];simp only [↓evP,evB,stB,reduceCtorEq,Nat.reduceEqDiff,Nat.reduceAdd];refine jT (byR bQ) (E:=5) (sz:=1) (by exact ⟨rfl,rfl,rfl,rfl⟩) ?_;have hh:=aV bQ;simp only [↓evP,evB,stB,Nat.reduceEqDiff,Nat.reduceAdd,Nat.reduceLeDiff,hh];refine aF [.one (.im (kG (aZ d es)))] (by exact ⟨es,d,rfl,ok,rfl⟩) ?_;have hbl:=jL (aZ d es);have hbn:=jv d es;have hnb:dW es≤1000:=by unfold dW;omega
  simp only [↓evP,evB,stB,Nat.reduceEqDiff];refine gy [2,3,4,5,6] [10] (fun U hs ho=>?_);simp only [stB,Nat.reduceEqDiff] at hs ho;obtain ⟨r2,r3,r4,r5,r6⟩:=hs;obtain ⟨g10,o10⟩:=ho;refine bS ms13_0 (10 :: os13_0) (fun m st=>∃ i:Nat,m=(aZ d es).length - i∧i≤(aZ d es).length∧st.sl 6=aI i∧st.sl 4=.b (.one (.own 10 1 (byR (bQ ++ ((aZ d es).take i).flatten))))∧st.gen 10=1∧st.ob 10=.row 5 1 (bQ ++ ((aZ d es).take i).flatten).length) (aZ d es).length ?_ ?_
  ·exact ⟨0,rfl,Nat.zero_le _,r6,by rw [r4];rfl,g10,by rw [o10];rfl⟩
  rintro m z3 ⟨i,rfl,hi,h6,h4,hg,ho⟩;simp only [stB,Nat.reduceBEq] at h6 h4 hg ho;have hfl:=Gu ok l1 i;have hfr:=aV (bQ ++ ((aZ d es).take i).flatten)
  rcases Nat.lt_or_ge i (aZ d es).length with hlt | hge
  ·have ga:(aZ d es)[i]? = some ((aZ d es)[i]):=List.getElem?_eq_getElem hlt;generalize (aZ d es)[i]=x at ga;have hxl:=kZ ok x (List.mem_of_getElem? ga);have gr:(kG (aZ d es))[i]? = some [.im (byR x)]:=by unfold kG;rw [List.getElem?_map,ga];rfl
   have hxr:=aV x;have ilt:(i:Int) < ((aZ d es).length:Int):=by omega
   have w3:IntKind.i64.wrap ((i:Int)+1)=((i+1:Nat):Int):=by rw [dP (by omega) (by omega)];omega
   have hnx:bQ ++ ((aZ d es).take (i+1)).flatten=bQ ++ ((aZ d es).take i).flatten ++ x:=by rw [take_at ga,List.flatten_append,List.append_assoc];simp
   obtain ⟨F,hF⟩:∃ F,bQ ++ ((aZ d es).take i).flatten=F:=⟨_,rfl⟩
   rw [hF] at hnx hfl hfr h4 ho;have gF:F.length+x.length≤1000000:=by omega
   have ax:=dR x;simp only [↓evP,evB,stB,reduceCtorEq,Nat.reduceEqDiff,Nat.reduceLeDiff,Nat.reduceBEq,r5,h6,h4,hg,ho,hbl,ilt,gr,hxr,hfr,Jb,gF,ax,decide_true]
   exact ⟨_,by omega,(by repeat' (first | assumption | exact bg.mpr trivial | exact Within.refl _ _ _ | (refine bC ?_ rfl rfl) | (refine aY ?_ rfl))),i+1,rfl,hlt,by simp only [stB,Nat.reduceEqDiff,Nat.reduceBEq,h6,w3],by simp only [stB,Nat.reduceEqDiff,Nat.reduceBEq];rw [hnx],by simp only [stB,Nat.reduceBEq,hg],by simp only [stB,Nat.reduceBEq,ho];rw [hnx,List.length_append]⟩
  have hie:i=(aZ d es).length:=by omega
  subst hie;have ilt:¬ ((aZ d es).length:Int) < ((aZ d es).length:Int):=by omega
  rw [List.take_length] at h4 ho hfl hfr;simp only [↓evP,evB,stB,reduceCtorEq,Nat.reduceEqDiff,Nat.reduceBEq,r3,r5,h6,h4,hbl,ilt,decide_false,cu,dL,pr13]
  first | done | rfl
 ·rw [jm hS,uZ hS];simp only [↓evP,evB,stB,reduceCtorEq,Nat.reduceEqDiff,Nat.reduceAdd,dL,pr13]
  first | done | rfl
end Go.Proofs.Ytkafcpnahpfbfaa
end
section
namespace Go.Proofs.Ytkafcpnahpfbfaa
open Go Go.RowKit
section
def kI:Pa→Hw
 | .one x=>.one (.d x)
 | .agg xs=>.agg (xs.map .d)
theorem OD (p:Pa):(kI p).bv=p.bv:=by
 cases p with
 | one x=>rfl
 | agg xs =>
   show Bv.agg ((xs.map Hc.d).map Hc.cl)=.agg (xs.map Cl.d)
   rw [List.map_map];rfl
theorem kR {W:Wit} {w:World} {p:Pa} {v:Value}:RHw W w (kI p) v↔RP W.S w p v:=by
 unfold RHw;rw [OD]
 cases p with
 | one x=>exact Iff.rfl
 | agg xs =>
   constructor
   ·rintro ⟨arr,h1,h2,h3⟩;refine ⟨arr,h1,by simpa using h2,fun i x u e1 e2=>h3 i (.d x) u (by rw [List.getElem?_map,e1];rfl) (by rw [Array.getElem?_toList];exact e2)⟩
   ·rintro ⟨arr,h1,h2,h3⟩;refine ⟨arr,h1,by simpa using h2,fun i c u e1 e2=>?_⟩;rw [List.getElem?_map,Option.map_eq_some_iff] at e1;obtain ⟨x,hx,rfl⟩:=e1;exact h3 i x u hx (by rw [Array.getElem?_toList] at e2;exact e2)
theorem IX {W:Wit} {w:World} {ps:List Pa} {vals:Array Value}:mK W w (ps.map kI) vals↔RPs W.S w ps vals:=by
 constructor
 ·rintro ⟨h1,h2⟩;exact ⟨by simpa using h1,fun i p u e1 e2=>kR.1 (h2 i _ u (by rw [List.getElem?_map,e1];rfl) e2)⟩
 ·rintro ⟨h1,h2⟩;refine ⟨by simpa using h1,fun i p u e1 e2=>?_⟩;rw [List.getElem?_map,Option.map_eq_some_iff] at e1;obtain ⟨x,hx,rfl⟩:=e1;exact kR.2 (h2 i x u hx e2)
theorem TP {W:Wit} {w:World} {rs:List Pa} {u:Value}:RRH W w (rs.map kI) u↔RR W.S w rs u:=by
 match rs with
 | []=>exact Iff.rfl
 | [p]=>exact kR
 | p :: q :: r =>
   constructor
   ·rintro ⟨vs,h1,h2⟩;exact ⟨vs,h1,IX.1 h2⟩
   ·rintro ⟨vs,h1,h2⟩;exact ⟨vs,h1,IX.2 h2⟩
theorem RHp.upd {W W':Wit} {w w':World} {hp:Nat→Hb} (h:RHp W w hp) (hf:Fol W G0 O0 w W' G0 O0 w') {b:Nat} {x:Hb} (hx:x≠.no) (hlv:∀ m,W'.lv m↔m=b∨W.lv m) (hhf:∀ m,m≠b→W'.hf m=W.hf m)
 (hS:∀ k,k < w.heap.size→W'.S k=W.S k) (hsz:w.heap.size≤w'.heap.size) (hbl:∀ m,m≠b→∀ k,hcl W m (hp m) k→w'.heap[k]? = w.heap[k]?) (hn:RH W' G0 O0 w' b x)
 (hm:∀ k,hcl W' b x k→W'.S k=0∧k < w'.heap.size∧∀ m,m≠b→¬ hcl W m (hp m) k):RHp W' w' (up hp b x):=by
 have hat:∀ m,m≠b→up hp b x m=hp m:=fun m hm2=>by rw [ay,if_neg hm2]
 have hself:up hp b x b=x:=by rw [ay,if_pos rfl]
 have hc:∀ m,m≠b→∀ k,hcl W' m (up hp b x m) k↔hcl W m (hp m) k:=fun m hm2 k=>by
  rw [hat m hm2];exact hcl.fol hf (fun hne=>(h.lv m).2 hne) (hhf m hm2) k
 refine ⟨fun m=>?_,fun m k hk=>?_,fun m=>?_,fun m m' k e1 e2=>?_⟩
 ·rw [hlv]
  by_cases hmb:m=b
  ·subst hmb;rw [hself];exact ⟨fun _=>hx,fun _=>.inl rfl⟩
  ·rw [hat m hmb,←h.lv m];exact ⟨fun q=>q.resolve_left hmb,.inr⟩
 ·by_cases hmb:m=b
  ·subst hmb;rw [hself] at hk;exact ⟨(hm k hk).1,(hm k hk).2.1⟩
  ·obtain ⟨q1,q2⟩:=h.mine m k ((hc m hmb k).1 hk);exact ⟨by rw [hS k q2];exact q1,by omega⟩
 ·by_cases hmb:m=b
  ·subst hmb;rw [hself];exact hn
  ·rw [hat m hmb];exact RH.fol hf (h.at_ m) (fun hne=>(h.lv m).2 hne) (hhf m hmb) (hbl m hmb)
 ·by_cases hmb:m=b
  ·by_cases hmb':m'=b
   ·rw [hmb,hmb']
   ·subst hmb;rw [hself] at e1;exact absurd ((hc m' hmb' k).1 e2) ((hm k e1).2.2 m' hmb')
  ·by_cases hmb':m'=b
   ·subst hmb';rw [hself] at e2;exact absurd ((hc m hmb k).1 e1) ((hm k e2).2.2 m hmb)
   ·exact h.ex m m' k ((hc m hmb k).1 e1) ((hc m' hmb' k).1 e2)
theorem Fg {W:Wit} {w:World} {b:Nat} {az:List Hw} {vals:Array Value} (h:mK W w (.one (.h (.v b)) :: az) vals):W.lv b∧∃ vals':Array Value,vals=#[W.nv b] ++ vals'∧mK W w az vals':=by
 obtain ⟨h1,h2⟩:=h;have hpos:0 < vals.size:=by rw [←h1];simp
 have h0:=h2 0 _ vals[0] rfl (Array.getElem?_eq_getElem hpos);obtain ⟨e1,e2,e3⟩:vals[0]=rv W (.v b)∧_∧W.lv b:=h0;refine ⟨e3,vals.extract 1 vals.size,?_,?_,fun i x u q1 q2=>h2 (i+1) x u q1 ?_⟩
 ·apply Array.ext'
  have:vals.toList≠[]:=fun hn=>by
   have h3:=congrArg List.length hn;rw [Array.length_toList] at h3;have h4:vals.size=0:=h3;omega
  obtain ⟨y,ys,hy⟩:=List.exists_cons_of_ne_nil this;have hv:vals=(y :: ys).toArray:=by apply Array.ext';simpa using hy
  subst hv;have:y=W.nv b:=e1;subst this;simp
 ·simp;simp at h1;omega
 ·rw [Array.getElem?_extract] at q2;split at q2
  ·rw [←q2,Nat.add_comm]
  ·cases q2
theorem lZ {W:Wit} {w w':World} {fp:Nat→Prop} {S':Nat→Nat} (h:kL fp w w') (h0:∀ b,fp b→W.S b=0) (hS:∀ b,b < w.heap.size→S' b=W.S b):Ext W.S S' w w':=fun b i h1 h2=>by
 have hlt:=cell_lt h2;have hnf:¬ fp b:=fun q=>by rw [h0 b q] at h1;omega
 exact ⟨by rw [hS b hlt];exact h1,by simp [World.cell?,h.block b hlt hnf]⟩
variable {P:Program} {f:Nat}
theorem IB.toH [I:bT] {R:Option HP→List Pa→HP→List Pa→Prop} (h:IB P f R):fK P f (fun hp az hp' rs=>∃ b H ps H' rs',az=.one (.h (.v b)) :: ps.map kI∧hp b=.ab H∧R (some H) ps H' rs'∧hp'=up hp b (.ab H')∧rs=rs'.map kI):=by
 rintro hp az hp' rs ⟨b,H,ps,H',rs',rfl,hb,hR,rfl,rfl⟩ W w vals hI hrp hvals;obtain ⟨hlb,vals',rfl,hv'⟩:=Fg hvals;have hat:H.r w (W.nv b) (W.hf b):=by have:=hrp.at_ b;rw [hb] at this;exact this
 have hmine:∀ k,W.hf b k→W.S k=0∧k < w.heap.size:=fun k hk=>hrp.mine b k (by rw [hb];exact hk)
 refine (h _ _ _ _ hR W.S w vals' (hI w ⟨rfl,rfl,rfl,Nat.le_refl _,fun _ _ _=>rfl⟩) (IX.1 hv') (W.nv b) (W.hf b) hat (fun k hk=>(hmine k hk).1)).mono ?_;rintro e w' ⟨u,S',fp',rfl,q1,q2,q3,q4,q5⟩
 obtain ⟨W',hW'⟩:∃ W':Wit,{ W with S:=S',hf:=up W.hf b fp' }=W':=⟨_,rfl⟩
 have e1:W'.S=S':=by rw [←hW']
 have e2:W'.nm=W.nm∧W'.nv=W.nv∧W'.lv=W.lv:=by rw [←hW'];exact ⟨rfl,rfl,rfl⟩
 have e3:W'.hf=up W.hf b fp':=by rw [←hW']
 have hfol:Fol W G0 O0 w W' G0 O0 w':=⟨by rw [e1];exact lZ q3 (fun k hk=>(hmine k hk).1) q5,fun _=>Nat.le_refl _,fun _ _=>by rw [←hW'],fun o E sz n' _ ho=>(by cases ho),fun _ _=>by rw [←hW'],fun m hm=>⟨by rw [e2.2.2];exact hm,by rw [e2.1],by rw [e2.2.1]⟩,by rw [←hW']⟩
 have hsub:∀ k,W.hf b k→dG W hp k:=fun k hk=>⟨b,by rw [hb];exact hk⟩
 have hrp':RHp W' w' (up hp b (.ab H')):=by
  refine hrp.upd hfol (by simp) (fun m=>?_) (fun m hm=>by rw [e3,ay,if_neg hm]) (fun k hk=>by rw [e1];exact q5 k hk) q3.size (fun m hm k hk=>?_) ?_ (fun k hk=>?_)
  ·rw [e2.2.2];exact ⟨.inr,fun q=>q.elim (fun q=>by rw [q];exact hlb) id⟩
  ·have:=(hrp.mine m k hk).2;refine q3.block k this (fun hf2=>hm (hrp.ex m b k hk (by rw [hb];exact hf2)))
  ·show H'.r w' (W'.nv b) (W'.hf b)
   rw [e2.2.1,e3,ay,if_pos rfl];exact q2
  ·have hk':W'.hf b k:=hk;rw [e3,ay,if_pos rfl] at hk';obtain ⟨r1,r2⟩:=q4 k hk';refine ⟨by rw [e1];exact r2,H'.lt _ _ _ _ q2 hk',fun m hm hk2=>?_⟩
   rcases r1 with r1 | r1
   ·exact hm (hrp.ex m b k hk2 (by rw [hb];exact r1))
   ·have:=(hrp.mine m k hk2).2;omega
 refine ⟨u,W',rfl,TP.2 (by rw [e1];exact q1),hrp',fun m hm=>⟨by rw [e2.2.2];exact hm,by rw [e2.1],by rw [e2.2.1]⟩,⟨q3.os,q3.tape,q3.output,q3.size,fun k hk hn=>q3.block k hk (fun q=>hn (hsub k q))⟩,fun k hk=>?_,fun k hk=>by rw [e1];exact q5 k hk⟩
 obtain ⟨m,hm⟩:=hk
 by_cases hmb:m=b
 ·subst hmb;rw [ay,if_pos rfl] at hm;have hk':W'.hf m k:=hm;rw [e3,ay,if_pos rfl] at hk';exact (q4 k hk').1.imp (hsub k) id
 ·rw [ay,if_neg hmb] at hm;refine .inl ⟨m,(hcl.fol hfol (fun hne=>(hrp.lv m).2 hne) (by rw [e3,ay,if_neg hmb]) k).1 hm⟩
theorem N9 {W:Wit} {w w':World} {hp:Nat→Hb} {b:Nat} {H:HP} {S':Nat→Nat} {adr:Value} {fp':Nat→Prop} (hrp:RHp W w hp) (hb:hp b=.no) (hone:adr.oneCell'=true) (hr:H.r w' adr fp') (hbe:Below w.heap.size w w') (hfp:∀ k,fp' k→w.heap.size≤k∧S' k=0) (hS:∀ k,k < w.heap.size→S' k=W.S k)
 {W':Wit} (hW':W'={ W with S:=S',nv:=up W.nv b adr,hf:=up W.hf b fp',lv:=fun m=>m=b∨W.lv m }) :
 RHp W' w' (up hp b (.ab H))∧(∀ m,W.lv m→W'.lv m∧W'.nm m=W.nm m∧W'.nv m=W.nv m)∧kL (dG W hp) w w'∧(∀ k,dG W' (up hp b (.ab H)) k→dG W hp k∨w.heap.size≤k)∧(∀ k,k < w.heap.size→W'.S k=W.S k)∧RHw W' w' (.one (.h (.v b))) adr:=by
 have hnl:¬ W.lv b:=fun q=>(hrp.lv b).1 q hb
 have hne:∀ m,W.lv m→m≠b:=fun m hm e=>hnl (e ▸ hm)
 have e1:W'.S=S':=by rw [hW']
 have hnm:∀ m,W.lv m→W'.lv m∧W'.nm m=W.nm m∧W'.nv m=W.nv m:=fun m hm=>by
  rw [hW'];exact ⟨.inr hm,rfl,by show up W.nv b adr m=_;rw [ay,if_neg (hne m hm)]⟩
 have hfol:Fol W G0 O0 w W' G0 O0 w':=⟨by
  rw [e1];exact lZ (fp:=fun _=>False) ⟨hbe.os,hbe.tape,hbe.output,hbe.size,fun k hk _=>hbe.block k hk⟩ (fun _ q=>q.elim) hS,fun _=>Nat.le_refl _,fun _ _=>by rw [hW'],fun o E sz n' _ ho=>(by cases ho),fun _ _=>by rw [hW'],hnm,by rw [hW']⟩
 have ehf:W'.hf=up W.hf b fp':=by rw [hW']
 have env':W'.nv b=adr:=by rw [hW'];show up W.nv b adr b=_;rw [ay,if_pos rfl]
 have hself:W'.hf b=fp':=by rw [ehf,ay,if_pos rfl]
 refine ⟨hrp.upd hfol (by simp) (fun m=>by rw [hW']) (fun m hm=>by rw [ehf,ay,if_neg hm]) (fun k hk=>by rw [e1];exact hS k hk) hbe.size (fun m hm k hk=>hbe.block k (hrp.mine m k hk).2) ?_ (fun k hk=>?_),hnm,⟨hbe.os,hbe.tape,hbe.output,hbe.size,fun k hk _=>hbe.block k hk⟩,fun k ⟨m,hm⟩=>?_,fun k hk=>by rw [e1];exact hS k hk,?_⟩
 ·show H.r w' (W'.nv b) (W'.hf b)
  rw [env',hself];exact hr
 ·have hk':W'.hf b k:=hk;rw [hself] at hk';refine ⟨by rw [e1];exact (hfp k hk').2,H.lt _ _ _ _ hr hk',fun m hm hk2=>?_⟩
  have:=(hrp.mine m k hk2).2;have:=(hfp k hk').1;omega
 ·by_cases hmb:m=b
  ·subst hmb;rw [ay,if_pos rfl] at hm;have hk':W'.hf m k:=hm;rw [hself] at hk';exact .inr (hfp k hk').1
  ·rw [ay,if_neg hmb] at hm;exact .inl ⟨m,(hcl.fol hfol (fun hne=>(hrp.lv m).2 hne) (by rw [ehf,ay,if_neg hmb]) k).1 hm⟩
 ·refine ⟨env'.symm,hone,?_⟩
  show W'.lv b
  rw [hW'];exact .inl rfl
theorem IC.toH [I:bT] {R:HP→HP→Prop} (h:IC P f R):fK P f (fun hp az hp' rs=>∃ b H b2 H2,az=[.one (.h (.v b))]∧hp b=.ab H∧hp b2=.no∧R H H2∧hp'=up hp b2 (.ab H2)∧rs=[.one (.h (.v b2))]):=by
 rintro hp az hp' rs ⟨b,H,b2,H2,rfl,hb,hb2,hR,rfl,rfl⟩ W w vals hI hrp hvals;obtain ⟨hlb,vals',rfl,hv'⟩:=Fg hvals
 have hz:vals'=#[]:=by
  have:=hv'.1;simp at this;exact Array.size_eq_zero_iff.1 this.symm
 subst hz;have hat:H.r w (W.nv b) (W.hf b):=by have:=hrp.at_ b;rw [hb] at this;exact this
 refine (h _ _ hR w (W.nv b) (W.hf b) (hI w ⟨rfl,rfl,rfl,Nat.le_refl _,fun _ _ _=>rfl⟩) hat).mono ?_;rintro e w' ⟨adr,fp',rfl,q2,q3,q4,q5⟩;obtain ⟨r1,r2,r3,r4,r5,r6⟩:=N9 (S':=fun k=>if k < w.heap.size then W.S k else 0) hrp hb2 q2 q3 q4 (fun k hk=>⟨q5 k hk,if_neg (by have:=q5 k hk;omega)⟩) (fun k hk=>if_pos hk) rfl
 exact ⟨adr,_,rfl,r6,r1,r2,r3,r4,r5⟩
end
end Go.Proofs.Ytkafcpnahpfbfaa
end
section
namespace Go.Proofs.Ytkafcpnahpfbfaa
open Go Go.RowKit
set_option maxRecDepth 100000
section
variable {P:Program} {n:Nat} {w0:World} {S0:Nat→Nat}
theorem O8 (l m:Nat) {o:Oper} {a:Act} {w:World} {next next':Act→World→Prop} {Q:Exit→Act→World→Prop} (hnd:∀ c,o.op≠.defer c) (hQ:¬ LetsOut Q) (hn:∀ a w,next a w→next' a w) (h:o.wp P a w next Q):o.wpIn (Fence.wide.inRound l) m P a w next' Q:=by
 refine ⟨fun _ _=>trivial,?_⟩;rw [Fence.inRound_round,Oper.semAt_eq _ _ _ hnd];unfold Oper.wp at h;generalize (execOp a.eval o).run P w=r at h ⊢
 cases r with
 | ok x w' =>
   cases x with
   | value v=>exact hn _ _ h
   | skip=>exact hn _ _ h
   | defer d=>exact hn _ _ h
   | enter f args =>
     refine ⟨fun h2=>(by cases h2),CallsIn.inRound l (callsIn_wide.2 (Calls.mono h (fun e w2 he=>?_)))⟩
     cases e with
     | returned v=>exact hn _ _ he
     | panicked ch=>exact he
     | outgrown=>exact he
   | row r args =>
     refine ⟨fun h2=>(by cases h2),?_⟩;intro c cs _;obtain ⟨v,w2,h1,h2⟩:=h c cs;exact ⟨v,w2,hn _ _ h1,stepsIn_wide.2 h2⟩
   | _=>exact h.elim
 | halt s w' =>
   cases s with
   | panic v=>exact h
   | _=>exact h.elim
theorem nC (l m:Nat) {ops:Array Oper} {Q:Exit→Act→World→Prop} (hnd:∀ o ∈ ops.toList,∀ c,o.op≠.defer c) (hQ:¬ LetsOut Q):∀ (is:List Nat) (a:Act) (w:World),wpOps P ops Q is a w→wpOpsIn (Fence.wide.inRound l) m P ops Q is a w
 | [],_,_,h=>h
 | i :: rest,a,w,h=>by
   unfold wpOps at h;unfold wpOpsIn
   cases ho:ops[i]? with
   | none=>simp only [ho] at h ⊢;exact nC l m hnd hQ rest a w h
   | some o =>
     simp only [ho] at h ⊢;split at h
     ·rename_i hw;rw [if_pos hw]
      rcases h with h | ⟨_,h⟩
      ·exact O8 l m (hnd o (by rw [Array.mem_toList_iff];exact Array.mem_of_getElem? ho)) hQ (fun a w=>nC l m hnd hQ rest a w) h
      ·exact absurd h hQ
     ·rename_i hw;rw [if_neg hw];exact ⟨fun _ _=>trivial,nC l m hnd hQ rest _ w h⟩
def iM:Code→Bool
 | .region _ ops draw=>!draw && ops.toList.all fun o=>match o.op with | .defer _=>false | _=>true
 | .seq a b=>iM a && iM b
 | .cond _ a b=>iM a && iM b
 | .block _ c=>iM c
 | .loop c=>iM c
 | _=>true
theorem yu {F:Fence} {m:Nat} {Q:Exit→Act→World→Prop} {a:Act} {w:World} {c:Code} (I:Nat→Act→World→Prop) (h0:∃ n,I n a w)
 (round:∀ n a w,I n a w→c.wpIn F m P (Exit.then (fun a' w'=>∃ m,m < n∧I m a' w') Q) a w):(Code.loop c).wpIn F m P Q a w:=by
 classical
 let μ:Act→World→Nat:=fun a w=>if h:∃ n,I n a w then Classical.choose (exists_least _ h) else 0
 have hμ:∀ a w (h:∃ n,I n a w),I (μ a w) a w∧∀ m,I m a w→μ a w≤m:=fun a w h=>by
  have h1:μ a w=Classical.choose (exists_least _ h):=dif_pos h;rw [h1];exact Classical.choose_spec (exists_least _ h)
 refine wpIn_loop (fun a w=>∃ n,I n a w) μ h0 (fun a w h=>?_);refine wpIn_mono (round _ a w (hμ a w h).1) (fun e a' w' he=>?_)
 cases e with
 | normal =>
   obtain ⟨m,hlt,hm⟩:=he;exact ⟨⟨m,hm⟩,Nat.lt_of_le_of_lt ((hμ a' w' ⟨m,hm⟩).2 m hm) hlt⟩
 | _=>exact he
theorem xX [Bor] [I:bT] (l m:Nat) {env:Env} (hE:aA P env) (hp:∀ w,iD w0.heap.size w0 w→I.p w) {eqs:List (Nat×List Bool)} (heq:∀ p,p ∈ eqs→EqT P p.1 p.2):∀ (c:Code) (pc:PC),bD P n eqs c=some pc→iM c=true →
 ∀ (Q:Exit→St→Prop),(∀ s,¬ Q .outgrown s)→∀ (W:Wit) (s:St) (a:Act) (w:World),pwp env pc Q s→Sim w0 S0 n W s a w→c.wpIn (Fence.wide.inRound l) m P (fun e a' w'=>∃ W' s',Sim w0 S0 n W' s' a' w'∧Q e s') a w:=by
 intro c
 induction c with
 | skip=>intro pc hc _ Q _ W s a w h hs;simp [bD] at hc;subst hc;exact wpIn_skip ⟨W,s,hs,h⟩
 | region id ops draw =>
   intro pc hc hb Q hQ W s a w h hs;simp only [bD,Option.map_eq_some_iff] at hc;obtain ⟨is,his,rfl⟩:=hc;have hmap:=eF _ _ his;simp only [iM,Bool.and_eq_true,Bool.not_eq_true',List.all_eq_true] at hb;obtain ⟨rfl,hnd⟩:=hb;refine wpIn_region ?_;have hlen:is.length=ops.size:=by have:=congrArg List.length hmap;simp at this;omega
   have:=MH hE hp heq (ops:=ops) (Q:=fun e a' w'=>∃ W' s',Sim w0 S0 n W' s' a' w'∧Q e s') (K:=Q .normal) (fun s W a w h1 h2=>⟨W,s,h2,h1⟩) is 0 W s a w (by simpa using hmap) hs h;rw [hlen] at this;rw [List.range_eq_range'];refine nC l m (fun o ho c he=>?_) ?_ _ _ _ this
   ·have:=hnd o ho;rw [he] at this;cases this
   ·rintro ⟨a0,w0',W',s',_,hq⟩;exact hQ _ hq
 | seq x y ihx ihy =>
   intro pc hc hb Q hQ W s a w h hs;simp only [bD] at hc;split at hc
   ·rename_i px py hx hy;cases hc;simp only [iM,Bool.and_eq_true] at hb
    refine wpIn_seq (wpIn_mono (ihx px hx hb.1 (fun e s'=>match e with | .normal=>pwp env py Q s' | e=>Q e s') (fun s h=>hQ s h) W s a w h hs) (fun e a' w' he=>?_));obtain ⟨W',s',hs',hq⟩:=he
    cases e with
    | normal=>exact ihy py hy hb.2 Q hQ W' s' a' w' hq hs'
    | _=>exact ⟨W',s',hs',hq⟩
   ·cases hc
 | cond co x y ihx ihy =>
   intro pc hc hb Q hQ W s a w h hs;simp only [bD] at hc;split at hc
   ·rename_i pcn px py hcn hx hy;cases hc;simp only [iM,Bool.and_eq_true] at hb;obtain ⟨t,ht,h1,h2⟩:=aj.1 h;exact wpIn_cond_split (sN hs hcn ht) (fun he=>ihx px hx hb.1 Q hQ W s a w (h1 he) hs) (fun he=>ihy py hy hb.2 Q hQ W s a w (h2 he) hs)
   ·cases hc
 | block id x ih =>
   intro pc hc hb Q hQ W s a w h hs;simp only [bD,Option.map_eq_some_iff] at hc;obtain ⟨px,hx,rfl⟩:=hc
   refine wpIn_block (wpIn_mono (ih px hx hb (fun e s'=>match e with | .exit i=>if i=id then Q .normal s' else Q (.exit i) s' | e=>Q e s') (fun s h=>hQ s h) W s a w h hs) (fun e a' w' he=>?_));obtain ⟨W',s',hs',hq⟩:=he
   cases e with
   | exit i =>
     by_cases hi:i=id
     ·simp only [hi,if_true] at hq;simp only [Exit.inBlock,hi,if_true];exact ⟨W',s',hs',hq⟩
     ·simp only [hi,if_false] at hq;simp only [Exit.inBlock,hi,if_false];exact ⟨W',s',hs',hq⟩
   | _=>exact ⟨W',s',hs',hq⟩
 | loop x ih =>
   intro pc hc hb Q hQ W s a w h hs;simp only [bD,Option.map_eq_some_iff] at hc;obtain ⟨px,hx,rfl⟩:=hc;obtain ⟨J,⟨k,hk⟩,hr⟩:=h;refine yu (fun k a w=>∃ W s,Sim w0 S0 n W s a w∧J k s) ⟨k,W,s,hs,hk⟩ (fun k a w h=>?_);obtain ⟨W,s,hs,hI⟩:=h
   refine wpIn_mono (ih px hx hb (fun e s'=>match e with | .normal=>∃ m,m < k∧J m s' | e=>Q e s') (fun s h=>hQ s h) W s a w (hr k s hI) hs) (fun e a' w' he=>?_);obtain ⟨W',s',hs',hq⟩:=he
   cases e with
   | normal =>
     obtain ⟨m,hlt,hm⟩:=hq;exact ⟨m,hlt,W',s',hs',hm⟩
   | _=>exact ⟨W',s',hs',hq⟩
 | exit id=>intro pc hc _ Q _ W s a w h hs;simp [bD] at hc;subst hc;exact wpIn_exit ⟨W,s,hs,h⟩
 | ret=>intro pc hc _ Q _ W s a w h hs;simp [bD] at hc;subst hc;exact wpIn_ret ⟨W,s,hs,h⟩
 | rangeFunc=>intro pc hc;simp [bD] at hc
 | scope=>intro pc hc;simp [bD] at hc
 | label=>intro pc hc _ Q _ W s a w h hs;simp [bD] at hc;subst hc;exact wpIn_label ⟨W,s,hs,h⟩
 | goto=>intro pc hc _ Q _ W s a w h hs;simp [bD] at hc;subst hc;exact wpIn_goto ⟨W,s,hs,h⟩
 | refuse=>intro pc hc;simp [bD] at hc
end
def St.kC (nc:Nat→Nat) (hp:Nat→Hb) (sl:Nat→Av):St:=⟨sl,fun _=>0,(St.eG nc hp []).ob,nc⟩
theorem jN (nc:Nat→Nat) (hp:Nat→Hb) (sl:Nat→Av):(St.kC nc hp sl).hb=hp:=qJ nc hp []
structure Piece (W:Wit) (w:World) (hp:Nat→Hb) (n:Nat) (df:List Deferred) (s':St) (W':Wit) (a':Act) (w':World):Prop where
 rhp:RHp W' w' s'.hb
 sl:∀ x p,(s'.sl x).hw=some p→RHw W' w' p (a'.tmps.getD x undef)
 len:a'.tmps.size=n
 dfs:a'.defers=df
 keep:∀ b,W.lv b→W'.lv b∧W'.nm b=W.nm b∧W'.nv b=W.nv b
 but:kL (dG W hp) w w'
 fp:∀ k,dG W' s'.hb k→dG W hp k∨w.heap.size≤k
 S:∀ k,k < w.heap.size→W'.S k=W.S k
section
variable {P:Program} {n:Nat}
def BN (W:Wit) (w:World) (sl:Nat→Av) (a:Act):Prop:=∀ x,sl x=.un∨∃ p:Hw,sl x=.b p.bv∧RHw W w p (a.tmps.getD x undef)
theorem uK {W:Wit} {w:World} {hp:Nat→Hb} {a:Act} {sl:Nat→Av} (nc:Nat→Nat) (hrp:RHp W w hp) (hlen:a.tmps.size=n) (hsm:Nat.ble n gI=true) (hsl:BN W w sl a) :
 @Sim ⟨none,dG W hp,W.lv,W.nm,W.nv,a.defers⟩ w W.S n { W with nc:=nc,blk:=fun _=>0,val:=fun _=>undef,adr:=fun _=>undef,fp:=fun _ _=>False } (St.kC nc hp sl) a w:=by
 letI:Bor:=⟨none,dG W hp,W.lv,W.nm,W.nv,a.defers⟩
 have hfpB:∀ k,Bor.fp k↔dG W hp k:=fun k=>⟨fun h=>h.elim (fun h=>by cases h) id,.inr⟩
 obtain ⟨W0,hW0⟩:∃ W0:Wit,{ W with nc:=nc,blk:=fun _=>0,val:=fun _=>undef,adr:=fun _=>undef,fp:=fun _ _=>False }=W0:=⟨_,rfl⟩
 have hcl0:∀ o b,cl W0 o ((St.kC nc hp sl).ob o) b→HBS≤o∧∃ m,HBS+nc m=o∧hcl W m (hp m) b:=fun o b h=>by
  have h':cl W0 o (if HBS≤o then .hp (fun b=>if HBS+nc b=o then hp b else .no) else .no) b:=h;split at h'
  ·rename_i ho;obtain ⟨m,hm2⟩:=h';dsimp only at hm2;split at hm2
   ·rename_i he;exact ⟨ho,m,he,(hcl.indep (W:=W) (by rw [←hW0]) (by rw [←hW0]) (by rw [←hW0]) m (hp m) b).1 hm2⟩
   ·exact hm2.elim
  ·exact h'.elim
 rw [hW0];refine ⟨iD.refl _ _,fun b _=>by rw [←hW0],hlen,rfl,fun x=>?_,fun o=>?_,fun o o' b h h'=>?_,(fun b h=>by cases h),by rw [←hW0];rfl,fun b=>by rw [jN,←hW0];exact hrp.lv b,Nat.le_of_ble_eq_true hsm,fun b hb2=>by rw [←hW0];exact ⟨hb2,rfl,rfl⟩⟩
 ·show RA W0 _ _ w (sl x) _
  rcases hsl x with h | ⟨p,h,hr⟩
  ·rw [h];trivial
  ·rw [h];exact RB.indep (W:=W) (by rw [←hW0]) (by rw [←hW0]) (by rw [←hW0]) (by rw [←hW0]) hr
 ·show RO _ _ _ _ _ _ (if HBS≤o then .hp (fun b=>if HBS+nc b=o then hp b else .no) else .no)
  split
  ·rename_i ho;rw [←hW0];exact hrp.yJ nc [] ho (fun k hk=>(hfpB k).2 hk)
  ·trivial
 ·obtain ⟨_,m,h1,h2⟩:=hcl0 o b h;obtain ⟨_,m',h3,h4⟩:=hcl0 o' b h';have:=hrp.ex m m' b h2 h4;subst this;rw [←h1,←h3]
theorem xK {W:Wit} {w:World} {hp:Nat→Hb} {df:List Deferred} {W':Wit} {s':St} {a':Act} {w':World} (hs':@Sim ⟨none,dG W hp,W.lv,W.nm,W.nv,df⟩ w W.S n W' s' a' w'):Piece W w hp n df s' W' a' w':=by
 letI:Bor:=⟨none,dG W hp,W.lv,W.nm,W.nv,df⟩
 have hfpB:∀ k,Bor.fp k↔dG W hp k:=fun k=>⟨fun h=>h.elim (fun h=>by cases h) id,.inr⟩
 obtain ⟨hrp',hmine'⟩:=hs'.rhp;refine ⟨hrp',fun x p hx=>?_,hs'.len,hs'.dfs,hs'.nm0,⟨hs'.below.os,hs'.below.tape,hs'.below.output,hs'.below.size,fun k hk hne=>hs'.below.block k hk (fun e=>hne ((hfpB k).1 e))⟩,fun k ⟨b,hk⟩=>?_,hs'.s0⟩
 ·exact RB.indep rfl rfl rfl rfl (IL (n:=n) (w0:=w) (S0:=W.S) (a:=a') (hs'.sl x) hx)
 ·obtain ⟨hmk,_⟩:=hmine' b k hk
  rcases hmk with h | h
  ·exact .inr h
  ·exact .inl ((hfpB k).1 h)
theorem vY [I:bT] (l m:Nat) {env:Env} (hE:aA P env) {eqs:List (Nat×List Bool)} (heq:∀ p,p ∈ eqs→EqT P p.1 p.2) {c:Code} {pc:PC} (hc:bD P n eqs c=some pc) (hnd:iM c=true) (hsm:Nat.ble n gI=true)
 {W:Wit} {w:World} {hp:Nat→Hb} {a:Act} {sl:Nat→Av} (nc:Nat→Nat) {Q:Exit→St→Prop} (hQ:∀ s,¬ Q .outgrown s) (h:pwp env pc Q (St.kC nc hp sl)) (hI:∀ w',kL (dG W hp) w w'→I.p w') (hrp:RHp W w hp) (hlen:a.tmps.size=n) (hsl:BN W w sl a) :
 c.wpIn (Fence.wide.inRound l) m P (fun e a' w'=>∃ s' W',Q e s'∧Piece W w hp n a.defers s' W' a' w') a w:=by
 letI:Bor:=⟨none,dG W hp,W.lv,W.nm,W.nv,a.defers⟩
 have hfpB:∀ k,Bor.fp k↔dG W hp k:=fun k=>⟨fun h=>h.elim (fun h=>by cases h) id,.inr⟩
 refine wpIn_mono (xX l m hE (fun w2 h2=>hI w2 ⟨h2.os,h2.tape,h2.output,h2.size,fun k hk hne=>h2.block k hk (fun e=>hne ((hfpB k).1 e))⟩) heq c pc hc hnd _ hQ _ _ _ _ h (uK nc hrp hlen hsm hsl)) (fun e a' w' he=>?_);obtain ⟨W',s',hs',hq⟩:=he;exact ⟨s',W',hq,xK hs'⟩
theorem Piece.ext {W:Wit} {w:World} {hp:Nat→Hb} {df:List Deferred} {s':St} {W':Wit} {a':Act} {w':World} (h:Piece W w hp n df s' W' a' w') (hrp:RHp W w hp):Ext W.S W'.S w w':=fun b i h1 h2=>by
 exact lZ h.but (fun k ⟨m,hm⟩=>(hrp.mine m k hm).1) h.S b i h1 h2
end
def Hc.pa (hp:Nat→Hb):Hc→Option Dt
 | .d (.sc (.slice none 0 0))=>some (.im [])
 | .d x=>some x
 | .h (.v b)=>match hp b with
   | .vec _ _ rows=>some (.im rows)
   | _=>none
 | .h _=>none
def Hw.pa (hp:Nat→Hb):Hw→Option Pa
 | .one c=>(c.pa hp).map .one
 | .agg cs=>(aC (cs.map (Hc.pa hp))).map .agg
theorem rH [I:bT] {P:Program} {f:Nat} {R':(Nat→Hb)→List Hw→((Nat→Hb)→List Hw→Prop)→Prop} (h:dY P f R') {R:List Pa→List Pa→Prop}
 (hR:∀ az rs,R az rs→∃ Post,R' (fun _=>.no) (az.map kI) Post∧∀ hp' rs',Post hp' rs'→rs'.map (Hw.pa hp')=rs.map some):Spec P f R:=by
 intro az rs has S w vals hwi hvals;obtain ⟨Post,h1,h2⟩:=hR az rs has;have hW:RHp (W00 (fun _=>0) S) w (fun _=>.no):=⟨fun b=>⟨fun h=>h.elim,fun h=>h rfl⟩,fun b k hk=>hk.elim,fun _=>trivial,fun b b' k hk=>hk.elim⟩;have hno:∀ k,¬ dG (W00 (fun _=>0) S) (fun _=>.no) k:=fun k ⟨b,hb⟩=>hb
 have hbelow:∀ w',kL (dG (W00 (fun _=>0) S) (fun _=>.no)) w w'→Below w.heap.size w w':=fun w' hb=>⟨hb.os,hb.tape,hb.output,hb.size,fun k hk=>hb.block k hk (hno k)⟩
 refine Calls.mono (h _ _ _ h1 (W00 (fun _=>0) S) w vals (fun w' hb=>I.keep _ _ (hbelow w' hb) hwi) hW ⟨by simpa using hvals.1,fun i x u e1 e2=>?_⟩) ?_
 ·simp only [List.getElem?_map,Option.map_eq_some_iff] at e1;obtain ⟨p,e3,rfl⟩:=e1;exact kR.2 (hvals.2 i p u e3 e2)
 ·rintro e w' ⟨hp',rs',hP,u,W',rfl,hrr,hrp,hkeep,hbut,hfp,hS⟩;have hmap:=h2 hp' rs' hP
  obtain ⟨S',hS'⟩:∃ S':Nat→Nat,(fun b=>if b < w.heap.size then W'.S b else W'.S b+(match w'.heap[b]? with | some (.cells arr _ _)=>arr.size | _=>0))=S':=⟨_,rfl⟩
  have hle:∀ b,W'.S b≤S' b:=fun b=>by rw [←hS'];dsimp only;split <;> omega
  have hext:Ext W'.S S' w' w':=fun b i hi _=>⟨Nat.lt_of_lt_of_le hi (hle b),rfl⟩
  have hdt:∀ (c:Hc) (x:Dt) (v:Value),c.pa hp'=some x→RC W' G0 O0 w' c.cl v→RD S' w' x v:=fun c x v hx hc=>by
   unfold Hc.pa at hx;split at hx
   ·cases hx;have h3:RD W'.S w' (.sc (.slice none 0 0)) v:=hc;cases h3;exact .emp none 0 (by unfold maxLen;omega)
   ·cases hx;exact RD.ext hext hc
   ·rename_i b;split at hx
    ·rename_i E sz rows hvec;cases hx;obtain ⟨h3,_,h4⟩:=hc;have h3':v=W'.nv b:=h3;have h5:=hrp.at_ b;rw [hvec] at h5;obtain ⟨xs,g1,g2,g3,g4⟩:=h5;subst h3'
     rcases g1.2 with ⟨q1,q2⟩ | ⟨g,cap,cur,fz,q1,q2,q3,q4,q5,q6,q7,_⟩
     ·have:rows=[]:=List.eq_nil_of_length_eq_zero q2;subst this;rw [q1];exact .emp none 0 (by unfold maxLen;omega)
     ·rw [q1]
      have hge:w.heap.size≤g:=by
       rcases hfp g ⟨b,by rw [hvec];show (W'.nv b).ownBlock=some g;rw [q1];rfl⟩ with h | h
       ·exact absurd h (hno g)
       ·exact h
      have hSg:cur.size≤S' g:=by
       rw [←hS'];dsimp only;rw [if_neg (by omega),q3];dsimp only;omega
      refine RD.block (vs:=xs) (sz:=sz) (b:=g) (o:=0) g2 g1.1 (fun j u hj=>?_) q4 q5 (fun i r j x e1 e2=>?_)
      ·have hj2:=(List.getElem?_eq_some_iff.1 hj).1
       have hlt:j < cur.size:=by
        have:xs.length≤cur.size:=by
         have h9:(cur.toList.take (rows.length * sz)).length≤cur.toList.length:=by rw [List.length_take];exact Nat.min_le_right _ _
         rw [q7] at h9;rw [Array.length_toList] at h9;exact h9
        omega
       refine ⟨?_,by show 0+j < S' g;exact Nat.lt_of_lt_of_le (by omega) hSg⟩
       have:=g1.cells (g:=g) (by rw [q1];rfl) j u hj
       rw [addr_add] at this;exact this
      ·obtain ⟨u,e3,e4⟩:=g3 i r j x e1 e2;exact ⟨u,e3,RD.ext hext e4⟩
    ·cases hx
   ·cases hx
  have hpa:∀ (x:Hw) (p:Pa) (v:Value),x.pa hp'=some p→RHw W' w' x v→RP S' w' p v:=fun x p v hx hc=>by
   cases x with
   | one c =>
     simp only [Hw.pa,Option.map_eq_some_iff] at hx;obtain ⟨y,hy,rfl⟩:=hx;exact hdt c y v hy hc
   | agg cs =>
     simp only [Hw.pa,Option.map_eq_some_iff] at hx;obtain ⟨ys,hy,rfl⟩:=hx;obtain ⟨arr,e1,e2,e3⟩:=hc;have h4:=eF _ _ hy;have h5:=congrArg List.length h4;simp only [List.length_map] at h5 e2;refine ⟨arr,e1,by simp at e2;omega,fun i x u q1 q2=>?_⟩
     have h6:=congrArg (·[i]?) h4;simp only [List.getElem?_map,q1,Option.map_some] at h6
     cases hci:cs[i]? with
     | none=>rw [hci] at h6;simp at h6
     | some c =>
       rw [hci] at h6;simp at h6;exact hdt c x u h6 (e3 i c.cl u (by rw [List.getElem?_map,hci];rfl) (by simpa using q2))
  refine ⟨u,S',rfl,?_,hbelow w' hbut,fun b hb=>by rw [←hS'];dsimp only;rw [if_pos hb];exact hS b hb⟩
  have hlen:rs'.length=rs.length:=by have:=congrArg List.length hmap;simpa using this
  have hget:∀ (i:Nat) x p,rs'[i]? = some x→rs[i]? = some p→x.pa hp'=some p:=fun i x p e1 e2=>by
   have:=congrArg (·[i]?) hmap
   simpa [List.getElem?_map,e1,e2] using this
  match rs',rs,hlen,hget,hrr with
  | [],[],_,_,_=>trivial
  | [x],[p],_,hg,hrr=>exact hpa x p u (hg 0 x p rfl rfl) hrr
  | x :: y :: r,p :: q :: t,hl,hg,hrr =>
    obtain ⟨vs,e1,e2,e3⟩:=hrr;refine ⟨vs,e1,by rw [←e2];exact hl.symm,fun i p' u' q1 q2=>?_⟩
    have hi:i < (x :: y :: r).length:=by rw [hl];exact (List.getElem?_eq_some_iff.1 q1).1
    exact hpa _ p' u' (hg i _ p' (List.getElem?_eq_getElem hi) q1) (e3 i _ u' (List.getElem?_eq_getElem hi) q2)
def bW:Code→List Code
 | .seq a b=>bW a ++ bW b
 | c=>[c]
def lH:List Code→Code
 | []=>.skip
 | c :: l=>.seq c (lH l)
def Ew:Code→Code
 | .block _ (.rangeFunc _ _ _ b)=>b
 | _=>.skip
section
variable {P:Program} {n:Nat} {w0:World} {S0:Nat→Nat}
def wpL (P:Program) (Q:Exit→Act→World→Prop):List Code→Act→World→Prop
 | [],a,w=>Q .normal a w
 | c :: l,a,w=>c.wp P (fun e a' w'=>match e with | .normal=>wpL P Q l a' w' | e=>Q e a' w') a w
theorem then_eq {K:Act→World→Prop} {Q:Exit→Act→World→Prop}:(fun e a' w'=>match e with | .normal=>K a' w' | e=>Q e a' w')=Exit.then K Q:=by
 funext e a w
 cases e <;> rfl
theorem Lm {Q:Exit→Act→World→Prop}:∀ (c:Code) (l:List Code) (a:Act) (w:World),wpL P Q (bW c ++ l) a w→c.wp P (fun e a' w'=>match e with | .normal=>wpL P Q l a' w' | e=>Q e a' w') a w:=by
 intro c
 induction c with
 | seq x y ihx ihy =>
   intro l a w h;unfold bW at h;rw [List.append_assoc] at h;rw [then_eq];refine wp_seq (wp_mono (ihx _ a w h) (fun e a' w' he=>?_))
   cases e with
   | normal =>
     have:=ihy l a' w' he;rw [then_eq] at this;exact this
   | _=>exact he
 | _=>intro l a w h;exact h
theorem uU {Q:Exit→Act→World→Prop} {c:Code} {a:Act} {w:World} (h:wpL P Q (bW c) a w):c.wp P Q a w:=by
 refine wp_mono (Lm c [] a w (by rw [List.append_nil];exact h)) (fun e a' w' he=>?_)
 cases e <;> exact he
theorem rV [Bor] [I:bT] {env:Env} (hE:aA P env) (hp:∀ w,iD w0.heap.size w0 w→I.p w) {eqs:List (Nat×List Bool)} (heq:∀ p,p ∈ eqs→EqT P p.1 p.2) (hm:P.follows .mixedOrders=true) {l2:List Code} {Q2:Exit→Act→World→Prop}:∀ (l:List Code) (pc:PC),bD P n eqs (lH l)=some pc→backs pc=true →
 ∀ (Q:Exit→St→Prop),(∀ e W s a w,Sim w0 S0 n W s a w→Q e s→match e with | .normal=>wpL P Q2 l2 a w | e=>Q2 e a w)→∀ (W:Wit) (s:St) (a:Act) (w:World),pwp env pc Q s→Sim w0 S0 n W s a w→wpL P Q2 (l ++ l2) a w
 | [],pc,hc,_,Q,hK,W,s,a,w,h,hs=>by
   simp [lH,bD] at hc;subst hc;exact hK .normal W s a w hs h
 | c :: l,pc,hc,hb,Q,hK,W,s,a,w,h,hs=>by
   simp only [lH,bD] at hc;split at hc
   ·rename_i px py hx hy;cases hc;simp only [backs,Bool.and_eq_true] at hb;refine wp_mono (jU hE hp heq hm c px hx hb.1 _ W s a w h hs) (fun e a' w' he=>?_);obtain ⟨W',s',hs',hq⟩:=he
    cases e with
    | normal=>exact rV hE hp heq hm l py hy hb.2 Q hK W' s' a' w' hq hs'
    | _=>exact hK _ W' s' a' w' hs' hq
   ·cases hc
theorem iB [I:bT] {env:Env} (hE:aA P env) {eqs:List (Nat×List Bool)} (heq:∀ p,p ∈ eqs→EqT P p.1 p.2) (hm:P.follows .mixedOrders=true) {l l2:List Code} {pc:PC} (hc:bD P n eqs (lH l)=some pc) (hback:backs pc=true) (hsm:Nat.ble n gI=true)
 {W:Wit} {w:World} {hp:Nat→Hb} {a:Act} {sl:Nat→Av} (nc:Nat→Nat) {Q:Exit→St→Prop} (h:pwp env pc Q (St.kC nc hp sl)) (hI:∀ w',kL (dG W hp) w w'→I.p w') (hrp:RHp W w hp) (hlen:a.tmps.size=n) (hsl:BN W w sl a)
 {Q2:Exit→Act→World→Prop} (hK:∀ e s' W' a' w',Q e s'→Piece W w hp n a.defers s' W' a' w'→match e with | .normal=>wpL P Q2 l2 a' w' | e=>Q2 e a' w'):wpL P Q2 (l ++ l2) a w:=by
 letI:Bor:=⟨none,dG W hp,W.lv,W.nm,W.nv,a.defers⟩
 have hfpB:∀ k,Bor.fp k↔dG W hp k:=fun k=>⟨fun h=>h.elim (fun h=>by cases h) id,.inr⟩
 exact rV hE (fun w2 h2=>hI w2 ⟨h2.os,h2.tape,h2.output,h2.size,fun k hk hne=>h2.block k hk (fun e=>hne ((hfpB k).1 e))⟩) heq hm l pc hc hback Q (fun e W' s' a' w' hs' hq=>hK e s' W' a' w' hq (xK hs')) _ _ _ _ h (uK nc hrp hlen hsm hsl)
end
def pcw45 : PC := .seq (.reg false [⟨(some 4), .nilRow 5 1, none, []⟩]) (.seq (.block 0 (.loop (.seq (.seq (.reg false [⟨(some 5), .mv (.t 1), none, []⟩, ⟨(some 6), .bin .geq (.t 5) (.v (.int .i64 128)), none, [0]⟩]) (.cond (.t 6) (.skip) (.exit 0))) (.seq (.block 1 (.reg false [⟨(some 9), .mv (.t 0), none, []⟩, ⟨(some 10), .mv (.t 1), none, []⟩, ⟨(some 11), .bin .rem (.t 10) (.v (.int .i64 128)), none, [1]⟩, ⟨(some 12), .bin .add (.t 11) (.v (.int .i64 128)), none, [2]⟩, ⟨(some 13), .conv .u8 (.t 12), none, [3]⟩, ⟨(some 14), .bslice 5 1 [(.int .u8 0)] 1 [(0, 1, (.t 13))], none, [4]⟩, ⟨(some 15), .hal 16 (.app 5 1 1 (.t 9) (.t 14)), none, [0, 5]⟩, ⟨(some 0), .mv (.t 15), none, [6, 6, 0, 1, 2, 3, 4, 5, 6]⟩])) (.reg false [⟨(some 7), .mv (.t 1), none, []⟩, ⟨(some 8), .bin .quo (.t 7) (.v (.int .i64 128)), none, [0]⟩, ⟨(some 1), .mv (.t 8), none, [1, 0, 1]⟩]))))) (.seq (.reg false [⟨(some 16), .mv (.t 0), none, []⟩, ⟨(some 17), .mv (.t 1), none, []⟩, ⟨(some 18), .conv .u8 (.t 17), none, [1]⟩, ⟨(some 19), .bslice 5 1 [(.int .u8 0)] 1 [(0, 1, (.t 18))], none, [2]⟩, ⟨(some 20), .hal 21 (.app 5 1 1 (.t 16) (.t 19)), none, [0, 3]⟩, ⟨(some 4), .mv (.t 20), none, [4, 4, 0, 1, 2, 3, 4]⟩]) (.ret)))
def prw45 : List PR := [.t 4]
abbrev msw45_0 : List Nat := [5, 6, 9, 10, 11, 12, 13, 14, 15, 0, 7, 8, 1]
abbrev osw45_0 : List Nat := [14]
def flw45 : List (Nat × List Bool) := [(5000015, List.replicate 1 false), (5000020, List.replicate 1 false)]
theorem bdw45:Try.f45.body=some (Try.f45.body.getD .skip):=by kernel_rfl
theorem cpw45:bY Try.prog Try.f45.ntmps (fJ ++ flw45) (Try.f45.body.getD .skip)=some pcw45:=by kernel_rfl
theorem spw45 [bT] {env:Env} (hE:aA Try.prog env) {R:(Nat→Hb)→List Hw→(Nat→Hb)→List Hw→Prop} (hR:∀ hp az hp' rs,R hp az hp' rs→az.length≤21∧∃ nc,pwp env pcw45 (fun e s=>(e=.normal∨e=.ret)∧s.gP prw45=some rs∧s.hb=hp') (St.eG nc hp az)):fK Try.prog 45 R :=
 iR hE (mO bZ (by kernel_rfl)) bA Try.func45 bdw45 cpw45 (by kernel_rfl) (by kernel_rfl) (by kernel_rfl) hR
def pcw46 : PC := .seq (.reg false [⟨(some 4), .nilRow 5 1, none, []⟩]) (.seq (.reg false [⟨(some 6), .mv (.t 1), none, []⟩, ⟨(some 7), .callh 56 [(.t 6)], none, [0]⟩, ⟨(some 5), .mv (.t 7), none, [1, 1, 0, 1]⟩]) (.seq (.reg false [⟨(some 8), .mv (.t 0), none, []⟩, ⟨(some 9), .mv (.t 5), none, []⟩, ⟨(some 10), .bin .shr (.t 9) (.v (.int .u64 24)), none, [1]⟩, ⟨(some 11), .conv .u8 (.t 10), none, [2]⟩, ⟨(some 12), .mv (.t 5), none, []⟩, ⟨(some 13), .bin .shr (.t 12) (.v (.int .u64 16)), none, [4]⟩, ⟨(some 14), .conv .u8 (.t 13), none, [5]⟩, ⟨(some 15), .mv (.t 5), none, []⟩, ⟨(some 16), .bin .shr (.t 15) (.v (.int .u64 8)), none, [7]⟩, ⟨(some 17), .conv .u8 (.t 16), none, [8]⟩, ⟨(some 18), .mv (.t 5), none, []⟩, ⟨(some 19), .conv .u8 (.t 18), none, [10]⟩, ⟨(some 20), .bslice 5 1 [(.int .u8 0), (.int .u8 0), (.int .u8 0), (.int .u8 0)] 4 [(0, 1, (.t 11)), (1, 1, (.t 14)), (2, 1, (.t 17)), (3, 1, (.t 19))], none, [3, 6, 9, 11]⟩, ⟨(some 21), .hal 22 (.app 5 1 1 (.t 8) (.t 20)), none, [0, 12]⟩, ⟨(some 4), .mv (.t 21), none, [13, 13, 0, 1, 2, 3, 4, 5, 6, 7, 8, 9, 10, 11, 12, 13]⟩]) (.ret)))
def prw46 : List PR := [.t 4]
def flw46 : List (Nat × List Bool) := [(5000021, List.replicate 1 false), (6000056, List.replicate 1 false)]
theorem bdw46:Try.f46.body=some (Try.f46.body.getD .skip):=by kernel_rfl
theorem cpw46:bY Try.prog Try.f46.ntmps (fJ ++ flw46) (Try.f46.body.getD .skip)=some pcw46:=by kernel_rfl
theorem spw46 [bT] {env:Env} (hE:aA Try.prog env) {R:(Nat→Hb)→List Hw→(Nat→Hb)→List Hw→Prop} (hR:∀ hp az hp' rs,R hp az hp' rs→az.length≤22∧∃ nc,pwp env pcw46 (fun e s=>(e=.normal∨e=.ret)∧s.gP prw46=some rs∧s.hb=hp') (St.eG nc hp az)):fK Try.prog 46 R :=
 iR hE (mO bZ (by kernel_rfl)) bA Try.func46 bdw46 cpw46 (by kernel_rfl) (by kernel_rfl) (by kernel_rfl) hR
def pcw56 : PC := .seq (.reg false [⟨(some 2), .mv (.v (.int .u32 0)), none, []⟩]) (.seq (.reg false [⟨(some 3), .mv (.v (.int .u32 4294967295)), none, []⟩]) (.seq (.seq (.reg false [⟨(some 7), .mv (.t 0), none, []⟩, ⟨(some 8), .len (.t 7), none, [0]⟩, ⟨(some 9), .mv (.v (.int .i64 0)), none, []⟩]) (.block 0 (.loop (.seq (.reg false [⟨(some 10), .bin .lss (.t 9) (.t 8), none, []⟩]) (.seq (.cond (.t 10) (.skip) (.exit 0)) (.seq (.block 1 (.seq (.reg false [⟨(some 11), .ixs 1 (.t 7) (.t 9), none, []⟩, ⟨(some 12), .load none (.t 11), none, [0]⟩, ⟨(some 5), .mv (.t 12), none, [1, 0, 1]⟩]) (.seq (.reg false [⟨(some 13), .mv (.t 3), none, []⟩, ⟨(some 14), .mv (.t 5), none, []⟩, ⟨(some 15), .conv .u32 (.t 14), none, [1]⟩, ⟨(some 16), .bin .xor (.t 13) (.t 15), none, [0, 2]⟩, ⟨(some 3), .mv (.t 16), none, [3, 0, 1, 2, 3]⟩]) (.seq (.reg false [⟨(some 17), .mv (.v (.int .i64 0)), none, []⟩]) (.block 2 (.loop (.seq (.reg false [⟨(some 18), .bin .lss (.t 17) (.v (.int .i64 8)), none, []⟩]) (.seq (.cond (.t 18) (.skip) (.exit 2)) (.seq (.block 3 (.seq (.reg false [⟨(some 19), .mv (.t 3), none, []⟩, ⟨(some 20), .bin .and (.t 19) (.v (.int .u32 1)), none, [0]⟩, ⟨(some 6), .mv (.t 20), none, [1, 0, 1]⟩]) (.seq (.reg false [⟨(some 21), .mv (.t 3), none, []⟩, ⟨(some 22), .bin .shr (.t 21) (.v (.int .u64 1)), none, [0]⟩, ⟨(some 3), .mv (.t 22), none, [1, 0, 1]⟩]) (.seq (.reg false [⟨(some 23), .mv (.t 6), none, []⟩, ⟨(some 24), .bin .eql (.t 23) (.v (.int .u32 1)), none, [0]⟩]) (.cond (.t 24) (.reg false [⟨(some 25), .mv (.t 3), none, []⟩, ⟨(some 26), .bin .xor (.t 25) (.v (.int .u32 3988292384)), none, [0]⟩, ⟨(some 3), .mv (.t 26), none, [1, 0, 1]⟩]) (.skip)))))) (.reg false [⟨(some 27), .bin .add (.t 17) (.v (.int .i64 1)), none, []⟩, ⟨(some 17), .mv (.t 27), none, [0]⟩])))))))))) (.reg false [⟨(some 28), .bin .add (.t 9) (.v (.int .i64 1)), none, []⟩, ⟨(some 9), .mv (.t 28), none, [0]⟩]))))))) (.seq (.reg false [⟨(some 29), .mv (.t 3), none, []⟩, ⟨(some 30), .un .xor (.t 29), none, [0]⟩, ⟨(some 2), .mv (.t 30), none, [1, 0, 1]⟩]) (.ret))))
def prw56 : List PR := [.t 2]
abbrev msw56_0 : List Nat := [10, 11, 12, 5, 13, 14, 15, 16, 3, 17, 18, 19, 20, 6, 21, 22, 23, 24, 25, 26, 27, 28, 9]
abbrev osw56_0 : List Nat := []
abbrev msw56_1 : List Nat := [18, 19, 20, 6, 21, 22, 3, 23, 24, 25, 26, 27, 17]
abbrev osw56_1 : List Nat := []
def flw56 : List (Nat × List Bool) := []
theorem bdw56:Try.f56.body=some (Try.f56.body.getD .skip):=by kernel_rfl
theorem cpw56:bY Try.prog Try.f56.ntmps (fJ ++ flw56) (Try.f56.body.getD .skip)=some pcw56:=by kernel_rfl
theorem spw56 [bT] {env:Env} (hE:aA Try.prog env) {R:(Nat→Hb)→List Hw→(Nat→Hb)→List Hw→Prop} (hR:∀ hp az hp' rs,R hp az hp' rs→az.length≤31∧∃ nc,pwp env pcw56 (fun e s=>(e=.normal∨e=.ret)∧s.gP prw56=some rs∧s.hb=hp') (St.eG nc hp az)):fK Try.prog 56 R :=
 iR hE (mO bZ (by kernel_rfl)) bA Try.func56 bdw56 cpw56 (by kernel_rfl) (by kernel_rfl) (by kernel_rfl) hR
def pcw48 : PC := .seq (.reg false [⟨(some 2), .new [(.pointer none), (.pointer none), (.pointer none), (.pointer none), (.pointer none), (.pointer none), (.pointer none), (.pointer none), (.pointer none)], none, []⟩]) (.seq (.reg true [⟨(some 3), .mv (.t 0), none, []⟩, ⟨(some 4), .nilck (.t 3), none, [0]⟩, ⟨(some 5), .fld 0 (.t 4), none, [1]⟩, ⟨(some 6), .mv (.t 0), none, []⟩, ⟨(some 7), .nilck (.t 6), none, [3]⟩, ⟨(some 8), .fld 1 (.t 7), none, [4]⟩, ⟨(some 9), .mv (.t 0), none, []⟩, ⟨(some 10), .nilck (.t 9), none, [6]⟩, ⟨(some 11), .fld 2 (.t 10), none, [7]⟩, ⟨(some 12), .mv (.t 0), none, []⟩, ⟨(some 13), .nilck (.t 12), none, [9]⟩, ⟨(some 14), .fld 3 (.t 13), none, [10]⟩, ⟨(some 15), .mv (.t 0), none, []⟩, ⟨(some 16), .nilck (.t 15), none, [12]⟩, ⟨(some 17), .fld 4 (.t 16), none, [13]⟩, ⟨(some 18), .mv (.t 0), none, []⟩, ⟨(some 19), .nilck (.t 18), none, [15]⟩, ⟨(some 20), .fld 5 (.t 19), none, [16]⟩, ⟨(some 21), .mv (.t 0), none, []⟩, ⟨(some 22), .nilck (.t 21), none, [18]⟩, ⟨(some 23), .fld 6 (.t 22), none, [19]⟩, ⟨(some 24), .mv (.t 0), none, []⟩, ⟨(some 25), .nilck (.t 24), none, [21]⟩, ⟨(some 26), .fld 7 (.t 25), none, [22]⟩, ⟨(some 27), .mv (.t 0), none, []⟩, ⟨(some 28), .nilck (.t 27), none, [24]⟩, ⟨(some 29), .fld 8 (.t 28), none, [25]⟩, ⟨(some 30), .build [(.pointer none), (.pointer none), (.pointer none), (.pointer none), (.pointer none), (.pointer none), (.pointer none), (.pointer none), (.pointer none)] [(0, 1, (.t 5)), (1, 1, (.t 8)), (2, 1, (.t 11)), (3, 1, (.t 14)), (4, 1, (.t 17)), (5, 1, (.t 20)), (6, 1, (.t 23)), (7, 1, (.t 26)), (8, 1, (.t 29))], none, [2, 5, 8, 11, 14, 17, 20, 23, 26]⟩, ⟨none, .store 9 (.t 2) (.t 30), none, [27, 0, 1, 2, 3, 4, 5, 6, 7, 8, 9, 10, 11, 12, 13, 14, 15, 16, 17, 18, 19, 20, 21, 22, 23, 24, 25, 26, 27]⟩]) (.ret))
def prw48 : List PR := [.c 2 (some 9)]
def flw48 : List (Nat × List Bool) := []
theorem bdw48:Try.f48.body=some (Try.f48.body.getD .skip):=by kernel_rfl
theorem cpw48:bY Try.prog Try.f48.ntmps (fJ ++ flw48) (Try.f48.body.getD .skip)=some pcw48:=by kernel_rfl
theorem spw48 [bT] {env:Env} (hE:aA Try.prog env) {R:(Nat→Hb)→List Hw→(Nat→Hb)→List Hw→Prop} (hR:∀ hp az hp' rs,R hp az hp' rs→az.length≤31∧∃ nc,pwp env pcw48 (fun e s=>(e=.normal∨e=.ret)∧s.gP prw48=some rs∧s.hb=hp') (St.eG nc hp az)):fK Try.prog 48 R :=
 iR hE (mO bZ (by kernel_rfl)) bA Try.func48 bdw48 cpw48 (by kernel_rfl) (by kernel_rfl) (by kernel_rfl) hR
def pcw29 : PC := .reg false [⟨(some 4), .mv (.t 0), none, []⟩, ⟨(some 5), .mv (.t 0), none, []⟩, ⟨(some 6), .nilck (.t 5), none, [1]⟩, ⟨(some 7), .fld 0 (.t 6), none, [2]⟩, ⟨(some 8), .load none (.t 7), none, [3]⟩, ⟨(some 9), .mv (.t 1), none, []⟩, ⟨(some 10), .callh 45 [(.t 8), (.t 9)], none, [4, 5]⟩, ⟨(some 11), .nilck (.t 4), none, [0, 0, 1, 2, 3, 4, 5, 6]⟩, ⟨(some 12), .fld 0 (.t 11), none, [7, 0, 1, 2, 3, 4, 5, 6]⟩, ⟨none, .store 1 (.t 12) (.t 10), none, [8, 6, 6, 0, 1, 2, 3, 4, 5, 6]⟩]
def prw29 : List PR := []
def flw29 : List (Nat × List Bool) := [(6000045, List.replicate 1 false)]
theorem bdw29:Try.f29.body=some (Try.f29.body.getD .skip):=by kernel_rfl
theorem cpw29:bY Try.prog Try.f29.ntmps (fJ ++ flw29) (Try.f29.body.getD .skip)=some pcw29:=by kernel_rfl
theorem sqw29 [bT] {env:Env} (hE:aA Try.prog env) {R:(Nat→Hb)→List Hw→((Nat→Hb)→List Hw→Prop)→Prop} (hR:∀ hp az Post,R hp az Post→az.length≤13∧∃ nc,pwp env pcw29 (fun e s=>(e=.normal∨e=.ret)∧∃ hp' rs,s.gP prw29=some rs∧(∀ b,hp' b=s.hb b∨(hp' b=.dead∧s.hb b≠.no))∧Post hp' rs) (St.eG nc hp az)):dY Try.prog 29 R :=
 eP hE (mO bZ (by kernel_rfl)) bA Try.func29 bdw29 cpw29 (by kernel_rfl) (by kernel_rfl) (by kernel_rfl) hR
def pcw28 : PC := .seq (.reg false [⟨(some 5), .box (.t 1), none, []⟩]) (.seq (.reg false [⟨(some 9), .mv (.t 0), none, []⟩, ⟨(some 10), .mv (.t 3), none, []⟩, ⟨(some 11), .mv (.t 2), none, []⟩, ⟨(some 12), .bin .sub (.t 10) (.t 11), none, [1, 2]⟩, ⟨(some 13), .callp 29 [(.t 9), (.t 12)], none, [0, 3]⟩]) (.seq (.reg false [⟨(some 14), .mv (.t 2), none, []⟩, ⟨(some 8), .mv (.t 14), none, [0, 0]⟩]) (.block 0 (.loop (.seq (.seq (.reg false [⟨(some 15), .mv (.t 8), none, []⟩, ⟨(some 16), .mv (.t 3), none, []⟩, ⟨(some 17), .bin .lss (.t 15) (.t 16), none, [0, 1]⟩]) (.cond (.t 17) (.skip) (.exit 0))) (.seq (.block 1 (.seq (.reg false [⟨(some 20), .mv (.t 0), none, []⟩, ⟨(some 21), .fld 1 (.t 5), none, []⟩, ⟨(some 22), .load none (.t 21), none, [1]⟩, ⟨(some 23), .mv (.t 8), none, []⟩, ⟨(some 24), .ixs 1 (.t 22) (.t 23), none, [2, 3]⟩, ⟨(some 25), .load none (.t 24), none, [4]⟩, ⟨(some 26), .bin .add (.t 25) (.v (.int .i64 1)), none, [5]⟩, ⟨(some 27), .callp 29 [(.t 20), (.t 26)], none, [0, 6]⟩]) (.seq (.reg false [⟨(some 28), .mv (.t 0), none, []⟩, ⟨(some 29), .fld 0 (.t 5), none, []⟩, ⟨(some 30), .load none (.t 29), none, [1]⟩, ⟨(some 31), .mv (.t 8), none, []⟩, ⟨(some 32), .ixs 2 (.t 30) (.t 31), none, [2, 3]⟩, ⟨(some 33), .fld 0 (.t 32), none, [4]⟩, ⟨(some 34), .load none (.t 33), none, [5]⟩, ⟨(some 35), .callp 29 [(.t 28), (.t 34)], none, [0, 6]⟩]) (.reg false [⟨(some 36), .mv (.t 0), none, []⟩, ⟨(some 37), .fld 0 (.t 5), none, []⟩, ⟨(some 38), .load none (.t 37), none, [1]⟩, ⟨(some 39), .mv (.t 8), none, []⟩, ⟨(some 40), .ixs 2 (.t 38) (.t 39), none, [2, 3]⟩, ⟨(some 41), .fld 1 (.t 40), none, [4]⟩, ⟨(some 42), .load none (.t 41), none, [5]⟩, ⟨(some 43), .callp 29 [(.t 36), (.t 42)], none, [0, 6]⟩])))) (.reg false [⟨(some 18), .mv (.t 8), none, []⟩, ⟨(some 19), .bin .add (.t 18) (.v (.int .i64 1)), none, [0]⟩, ⟨(some 8), .mv (.t 19), none, [1, 0, 1]⟩])))))))
def prw28 : List PR := []
abbrev msw28_0 : List Nat := [15, 16, 17, 20, 21, 22, 23, 24, 25, 26, 27, 28, 29, 30, 31, 32, 33, 34, 35, 36, 37, 38, 39, 40, 41, 42, 43, 18, 19, 8]
abbrev osw28_0 : List Nat := []
def flw28 : List (Nat × List Bool) := [(8000029, List.replicate 1 false)]
theorem bdw28:Try.f28.body=some (Try.f28.body.getD .skip):=by kernel_rfl
theorem cpw28:bY Try.prog Try.f28.ntmps (fJ ++ flw28) (Try.f28.body.getD .skip)=some pcw28:=by kernel_rfl
theorem sqw28 [bT] {env:Env} (hE:aA Try.prog env) {R:(Nat→Hb)→List Hw→((Nat→Hb)→List Hw→Prop)→Prop} (hR:∀ hp az Post,R hp az Post→az.length≤44∧∃ nc,pwp env pcw28 (fun e s=>(e=.normal∨e=.ret)∧∃ hp' rs,s.gP prw28=some rs∧(∀ b,hp' b=s.hb b∨(hp' b=.dead∧s.hb b≠.no))∧Post hp' rs) (St.eG nc hp az)):dY Try.prog 28 R :=
 eP hE (mO bZ (by kernel_rfl)) bA Try.func28 bdw28 cpw28 (by kernel_rfl) (by kernel_rfl) (by kernel_rfl) hR
def pcw30 : PC := .seq (.reg false [⟨(some 3), .hal 4 (.box (.t 1)), none, []⟩]) (.seq (.reg false [⟨(some 8), .mv (.t 0), none, []⟩, ⟨(some 9), .nilck (.t 8), none, [0]⟩, ⟨(some 10), .fld 1 (.t 9), none, [1]⟩, ⟨(some 11), .callh 48 [(.t 10)], none, [2]⟩, ⟨(some 4), .new [(.pointer none), (.pointer none), (.pointer none), (.pointer none), (.pointer none), (.pointer none), (.pointer none), (.pointer none), (.pointer none)], none, []⟩, ⟨none, .store 9 (.t 4) (.t 11), none, [4, 3, 3, 0, 1, 2, 3, 4]⟩]) (.seq (.seq (.reg false [⟨(some 12), .callh 48 [(.t 3)], none, []⟩, ⟨(some 13), .mv (.v (.int .i64 0)), none, []⟩]) (.block 0 (.loop (.seq (.reg false [⟨(some 14), .bin .lss (.t 13) (.v (.int .i64 9)), none, []⟩]) (.seq (.cond (.t 14) (.skip) (.exit 0)) (.seq (.block 1 (.seq (.reg false [⟨(some 15), .mv (.t 13), none, []⟩, ⟨(some 16), .ixv 9 1 none (.t 12) (.t 13), none, []⟩, ⟨(some 5), .mv (.t 15), none, [0, 0, 1]⟩, ⟨(some 6), .mv (.t 16), none, [1, 2, 0, 1, 2]⟩]) (.seq (.reg true [⟨(some 17), .mv (.t 6), none, []⟩, ⟨(some 18), .nilck (.t 17), none, [0]⟩, ⟨(some 19), .load none (.t 18), none, [1]⟩, ⟨(some 20), .mv (.t 5), none, []⟩, ⟨(some 21), .ixa 9 1 (.t 4) (.t 20), none, [3]⟩, ⟨(some 22), .load none (.t 21), none, [4]⟩, ⟨(some 23), .nilck (.t 22), none, [5]⟩, ⟨(some 24), .load none (.t 23), none, [6]⟩, ⟨(some 25), .bin .sub (.t 19) (.t 24), none, [2, 7]⟩, ⟨(some 7), .mv (.t 25), none, [8, 0, 1, 2, 3, 4, 5, 6, 7, 8]⟩]) (.seq (.reg false [⟨(some 26), .mv (.t 7), none, []⟩, ⟨(some 27), .bin .lss (.t 26) (.v (.int .i64 0)), none, [0]⟩]) (.cond (.t 27) (.reg false [⟨(some 28), .mv (.t 0), none, []⟩, ⟨(some 29), .mv (.t 7), none, []⟩, ⟨(some 30), .bin .mul (.v (.int .i64 (-2))) (.t 29), none, [1]⟩, ⟨(some 31), .bin .sub (.t 30) (.v (.int .i64 1)), none, [2]⟩, ⟨(some 32), .callp 29 [(.t 28), (.t 31)], none, [0, 3]⟩]) (.reg false [⟨(some 33), .mv (.t 0), none, []⟩, ⟨(some 34), .mv (.t 7), none, []⟩, ⟨(some 35), .bin .mul (.v (.int .i64 2)) (.t 34), none, [1]⟩, ⟨(some 36), .callp 29 [(.t 33), (.t 35)], none, [0, 2]⟩])))))) (.reg false [⟨(some 37), .bin .add (.t 13) (.v (.int .i64 1)), none, []⟩, ⟨(some 13), .mv (.t 37), none, [0]⟩]))))))) (.reg false [⟨(some 38), .mv (.t 0), none, []⟩, ⟨(some 39), .load (some 9) (.t 3), none, []⟩, ⟨(some 40), .nilck (.t 38), none, [0, 0, 1]⟩, ⟨(some 41), .fld 1 (.t 40), none, [2, 0, 1]⟩, ⟨none, .store 9 (.t 41) (.t 39), none, [3, 1, 0, 1]⟩])))
def prw30 : List PR := []
abbrev msw30_0 : List Nat := [14, 15, 16, 5, 6, 17, 18, 19, 20, 21, 22, 23, 24, 25, 7, 26, 27, 28, 29, 30, 31, 32, 33, 34, 35, 36, 37, 13]
abbrev osw30_0 : List Nat := []
def flw30 : List (Nat × List Bool) := [(5000003, List.replicate 1 false), (6000048, List.replicate 1 false), (8000029, List.replicate 1 false)]
theorem bdw30:Try.f30.body=some (Try.f30.body.getD .skip):=by kernel_rfl
theorem cpw30:bY Try.prog Try.f30.ntmps (fJ ++ flw30) (Try.f30.body.getD .skip)=some pcw30:=by kernel_rfl
theorem sqw30 [bT] {env:Env} (hE:aA Try.prog env) {R:(Nat→Hb)→List Hw→((Nat→Hb)→List Hw→Prop)→Prop} (hR:∀ hp az Post,R hp az Post→az.length≤42∧∃ nc,pwp env pcw30 (fun e s=>(e=.normal∨e=.ret)∧∃ hp' rs,s.gP prw30=some rs∧(∀ b,hp' b=s.hb b∨(hp' b=.dead∧s.hb b≠.no))∧Post hp' rs) (St.eG nc hp az)):dY Try.prog 30 R :=
 eP hE (mO bZ (by kernel_rfl)) bA Try.func30 bdw30 cpw30 (by kernel_rfl) (by kernel_rfl) (by kernel_rfl) hR
def pcw25 : PC := .seq (.reg false [⟨(some 6), .nilRow 5 1, none, []⟩]) (.seq (.reg false [⟨(some 8), .mv (.t 1), none, []⟩, ⟨(some 9), .len (.t 8), none, [0]⟩, ⟨(some 7), .mv (.t 9), none, [1, 0, 1]⟩]) (.seq (.reg true [⟨(some 10), .mv (.t 1), none, []⟩, ⟨(some 11), .mv (.t 2), none, []⟩, ⟨(some 12), .bslice 5 1 [(.int .u8 0)] 1 [(0, 1, (.t 11))], none, [1]⟩, ⟨(some 13), .hal 14 (.app 5 1 1 (.t 10) (.t 12)), none, [0, 2]⟩, ⟨(some 14), .mv (.t 0), none, []⟩, ⟨(some 15), .nilck (.t 14), none, [4]⟩, ⟨(some 16), .fld 0 (.t 15), none, [5]⟩, ⟨(some 17), .load none (.t 16), none, [6]⟩, ⟨(some 18), .len (.t 17), none, [7]⟩, ⟨(some 19), .callh 45 [(.t 13), (.t 18)], none, [3, 8, 3]⟩, ⟨(some 1), .mv (.t 19), none, [9, 9, 0, 1, 2, 3, 4, 5, 6, 7, 8, 9]⟩]) (.seq (.reg false [⟨(some 20), .mv (.t 1), none, []⟩, ⟨(some 21), .mv (.t 0), none, []⟩, ⟨(some 22), .nilck (.t 21), none, [1]⟩, ⟨(some 23), .fld 0 (.t 22), none, [2]⟩, ⟨(some 24), .load none (.t 23), none, [3]⟩, ⟨(some 25), .hal 26 (.app 5 1 1 (.t 20) (.t 24)), none, [0, 4]⟩, ⟨(some 1), .mv (.t 25), none, [5, 5, 0, 1, 2, 3, 4, 5]⟩]) (.seq (.reg false [⟨(some 26), .mv (.t 0), none, []⟩, ⟨(some 27), .nilck (.t 26), none, [0, 0]⟩, ⟨(some 28), .fld 0 (.t 27), none, [1, 0]⟩, ⟨none, .store 1 (.t 28) (.v (.slice none 0 0)), none, [2, 0]⟩]) (.seq (.reg false [⟨(some 29), .mv (.t 1), none, []⟩, ⟨(some 30), .mv (.t 1), none, []⟩, ⟨(some 31), .mv (.t 7), none, []⟩, ⟨(some 32), .hal 33 (.view 1 (.t 30) (.t 31)), none, [1, 2]⟩, ⟨(some 33), .callh 46 [(.t 29), (.t 32)], none, [0, 3]⟩, ⟨(some 6), .mv (.t 33), none, [4, 4, 0, 1, 2, 3, 4]⟩]) (.ret))))))
def prw25 : List PR := [.t 6]
def flw25 : List (Nat × List Bool) := [(5000013, List.replicate 1 false), (5000025, List.replicate 1 false), (5000032, List.replicate 1 false), (6000045, List.replicate 1 false), (6000046, List.replicate 1 false)]
theorem bdw25:Try.f25.body=some (Try.f25.body.getD .skip):=by kernel_rfl
theorem cpw25:bY Try.prog Try.f25.ntmps (fJ ++ flw25) (Try.f25.body.getD .skip)=some pcw25:=by kernel_rfl
theorem spw25 [bT] {env:Env} (hE:aA Try.prog env) {R:(Nat→Hb)→List Hw→(Nat→Hb)→List Hw→Prop} (hR:∀ hp az hp' rs,R hp az hp' rs→az.length≤34∧∃ nc,pwp env pcw25 (fun e s=>(e=.normal∨e=.ret)∧s.gP prw25=some rs∧s.hb=hp') (St.eG nc hp az)):fK Try.prog 25 R :=
 iR hE (mO bZ (by kernel_rfl)) bA Try.func25 bdw25 cpw25 (by kernel_rfl) (by kernel_rfl) (by kernel_rfl) hR
def pcw41 : PC := .seq (.reg false [⟨(some 1), .box (.t 0), none, []⟩, ⟨(some 2), .mv (.v (.map none)), none, []⟩]) (.seq (.seq (.reg false [⟨(some 9), .fld 0 (.t 1), none, []⟩, ⟨(some 10), .load none (.t 9), none, [0]⟩, ⟨(some 11), .len (.t 10), none, [1]⟩, ⟨(some 12), .fld 1 (.t 1), none, []⟩, ⟨(some 13), .load none (.t 12), none, [3]⟩, ⟨(some 14), .len (.t 13), none, [4]⟩, ⟨(some 15), .bin .neq (.t 11) (.t 14), none, [2, 5]⟩]) (.cond (.t 15) (.seq (.reg false [⟨(some 2), .mv (.v (.map none)), none, []⟩]) (.ret)) (.skip))) (.seq (.reg false [⟨(some 16), .fld 0 (.t 1), none, []⟩, ⟨(some 17), .load none (.t 16), none, [0]⟩, ⟨(some 18), .len (.t 17), none, [1]⟩, ⟨(some 19), .hal 20 (.mapn 104 (.t 18)), none, [2]⟩, ⟨(some 3), .mv (.t 19), none, [3, 0, 1, 2, 3]⟩]) (.seq (.seq (.reg false [⟨(some 20), .fld 0 (.t 1), none, []⟩, ⟨(some 21), .load none (.t 20), none, [0]⟩, ⟨(some 22), .len (.t 21), none, [1]⟩, ⟨(some 23), .mv (.v (.int .i64 0)), none, []⟩]) (.block 0 (.loop (.seq (.reg false [⟨(some 24), .bin .lss (.t 23) (.t 22), none, []⟩]) (.seq (.cond (.t 24) (.skip) (.exit 0)) (.seq (.block 1 (.seq (.reg false [⟨(some 25), .mv (.t 23), none, []⟩, ⟨(some 26), .ixs 2 (.t 21) (.t 23), none, []⟩, ⟨(some 27), .load (some 2) (.t 26), none, [1]⟩, ⟨(some 5), .new [(.int .i64 0), (.int .i64 0)], none, []⟩, ⟨(some 4), .mv (.t 25), none, [0, 0, 1, 2, 3]⟩, ⟨none, .store 2 (.t 5) (.t 27), none, [3, 2, 4, 0, 1, 2, 3, 4]⟩]) (.seq (.reg true [⟨(some 28), .fld 1 (.t 1), none, []⟩, ⟨(some 29), .load none (.t 28), none, [0]⟩, ⟨(some 30), .mv (.t 4), none, []⟩, ⟨(some 31), .ixs 1 (.t 29) (.t 30), none, [1, 2]⟩, ⟨(some 32), .load none (.t 31), none, [3]⟩, ⟨(some 33), .load (some 2) (.t 5), none, []⟩, ⟨(some 34), .build [(.int .i64 0), (.int .i64 0), (.int .i64 0)] [(0, 1, (.t 32)), (1, 2, (.t 33))], none, [4, 5]⟩, ⟨(some 6), .new [(.int .i64 0), (.int .i64 0), (.int .i64 0)], none, []⟩, ⟨none, .store 3 (.t 6) (.t 34), none, [7, 6, 0, 1, 2, 3, 4, 5, 6, 7]⟩]) (.seq (.seq (.reg false [⟨(some 36), .mv (.t 3), none, []⟩, ⟨(some 37), .load (some 3) (.t 6), none, []⟩, ⟨(some 38), .mlk 104 (.one (.d (.sc (.int .i64 0)))) true (.t 36) (.t 37), none, [0, 1]⟩, ⟨(some 35), .mv (.t 38), none, [2]⟩, ⟨(some 39), .ext (.t 35) 0, none, [3]⟩, ⟨(some 40), .ext (.t 35) 1, none, [3]⟩, ⟨(some 7), .mv (.t 39), none, [4, 0, 1, 2, 3, 4]⟩, ⟨(some 8), .mv (.t 40), none, [5, 6, 0, 1, 2, 3, 4, 5, 6]⟩]) (.seq (.reg false [⟨(some 41), .mv (.t 8), none, []⟩, ⟨(some 42), .mv (.t 41), none, [0]⟩, ⟨(some 43), .fld 0 (.t 6), (some (42, false)), [1]⟩, ⟨(some 44), .load none (.t 43), (some (42, false)), [2, 1]⟩, ⟨(some 45), .bin .lss (.t 44) (.v (.int .i64 (-1))), (some (42, false)), [3, 1]⟩, ⟨(some 46), .pick (.t 42) (.v (.bool true)) (.t 45), none, [1, 4]⟩, ⟨(some 47), .mv (.t 46), none, [5, 1]⟩, ⟨(some 48), .fld 0 (.t 6), (some (47, false)), [6]⟩, ⟨(some 49), .load none (.t 48), (some (47, false)), [7, 6]⟩, ⟨(some 50), .mv (.t 4), (some (47, false)), [6]⟩, ⟨(some 51), .bin .geq (.t 49) (.t 50), (some (47, false)), [8, 9, 6]⟩, ⟨(some 52), .pick (.t 47) (.v (.bool true)) (.t 51), none, [6, 10]⟩, ⟨(some 53), .mv (.t 52), none, [11, 6]⟩, ⟨(some 54), .load (some 2) (.t 5), (some (53, false)), [12]⟩, ⟨(some 55), .call 55 [(.t 54)], (some (53, false)), [13, 12, 12]⟩, ⟨(some 56), .un .not (.t 55), (some (53, false)), [14, 12]⟩, ⟨(some 57), .pick (.t 53) (.v (.bool true)) (.t 56), none, [12, 15]⟩]) (.cond (.t 57) (.seq (.reg false [⟨(some 2), .mv (.v (.map none)), none, []⟩]) (.ret)) (.skip)))) (.reg false [⟨(some 58), .mv (.t 3), none, []⟩, ⟨(some 59), .load (some 3) (.t 6), none, []⟩, ⟨(some 60), .mv (.t 4), none, []⟩, ⟨none, .mup 104 (.t 58) (.t 59) (.t 60), none, [0, 1, 2, 0, 1, 2]⟩]))))) (.reg false [⟨(some 61), .bin .add (.t 23) (.v (.int .i64 1)), none, []⟩, ⟨(some 23), .mv (.t 61), none, [0]⟩]))))))) (.seq (.reg false [⟨(some 62), .mv (.t 3), none, []⟩, ⟨(some 2), .mv (.t 62), none, [0, 0]⟩]) (.ret)))))
def prw41 : List PR := [.t 2]
abbrev msw41_0 : List Nat := [24, 25, 26, 27, 5, 4, 28, 29, 30, 31, 32, 33, 34, 6, 36, 37, 38, 35, 39, 40, 7, 8, 41, 42, 43, 44, 45, 46, 47, 48, 49, 50, 51, 52, 53, 54, 55, 56, 57, 2, 58, 59, 60, 61, 23]
abbrev osw41_0 : List Nat := [5, 6]
def flw41 : List (Nat × List Bool) := []
theorem bdw41:Try.f41.body=some (Try.f41.body.getD .skip):=by kernel_rfl
theorem cpw41:bY Try.prog Try.f41.ntmps (fJ ++ flw41) (Try.f41.body.getD .skip)=some pcw41:=by kernel_rfl
theorem sqw41 [bT] {env:Env} (hE:aA Try.prog env) {R:(Nat→Hb)→List Hw→((Nat→Hb)→List Hw→Prop)→Prop} (hR:∀ hp az Post,R hp az Post→az.length≤63∧∃ nc,pwp env pcw41 (fun e s=>(e=.normal∨e=.ret)∧∃ hp' rs,s.gP prw41=some rs∧(∀ b,hp' b=s.hb b∨(hp' b=.dead∧s.hb b≠.no))∧Post hp' rs) (St.eG nc hp az)):dY Try.prog 41 R :=
 eP hE (mO bZ (by kernel_rfl)) bA Try.func41 bdw41 cpw41 (by kernel_rfl) (by kernel_rfl) (by kernel_rfl) hR
def pcw12Ac0 : PC := .seq (.reg false [⟨(some 62), .mv (.t 4), none, []⟩, ⟨(some 63), .un .not (.t 62), none, [0]⟩]) (.seq (.cond (.t 63) (.seq (.reg false [⟨(some 2), .nilRow 5 1, none, []⟩, ⟨(some 3), .mv (.v (.int .i64 1)), none, [0, 0]⟩]) (.ret)) (.skip)) (.seq (.reg false [⟨(some 9), .hal 10 (.new [(.slice none 0 0), (.int .i64 0), (.int .i64 0), (.int .i64 0), (.int .i64 0), (.int .i64 0), (.int .i64 0), (.int .i64 0), (.int .i64 0), (.int .i64 0)]), none, []⟩]) (.seq (.reg false [⟨(some 64), .hal 65 (.lit 5 1 [(.int .u8 0), (.int .u8 0), (.int .u8 0), (.int .u8 0), (.int .u8 0), (.int .u8 0), (.int .u8 0), (.int .u8 0)] 8 [(0, 1, (.v (.int .u8 73))), (1, 1, (.v (.int .u8 84))), (2, 1, (.v (.int .u8 82))), (3, 1, (.v (.int .u8 65))), (4, 1, (.v (.int .u8 67))), (5, 1, (.v (.int .u8 69))), (6, 1, (.v (.int .u8 49))), (7, 1, (.v (.int .u8 10)))]), none, []⟩, ⟨(some 65), .stm (.t 64), none, [0]⟩, ⟨(some 10), .hal 11 (.new [(.slice none 0 0)]), none, []⟩, ⟨none, .store 1 (.t 10) (.t 65), none, [2, 1, 0, 1, 2]⟩]) (.seq (.reg false [⟨(some 66), .mkf 25 [(.t 9)] [], none, []⟩, ⟨(some 11), .hal 12 (.new [.nilFunc]), none, []⟩, ⟨none, .store 1 (.t 11) (.t 66), none, [1, 0, 0, 1]⟩]) (.seq (.reg false [⟨(some 12), .hal 13 (.new [(.int .i64 0)]), none, []⟩, ⟨none, .store 1 (.t 12) (.v (.int .i64 0)), none, [0, 0]⟩]) (.skip))))))
def pcw12A : PC := .seq (.reg false [⟨(some 1), .hal 2 (.box (.t 0)), none, []⟩, ⟨(some 2), .nilRow 5 1, none, []⟩, ⟨(some 3), .mv (.v (.int .i64 0)), none, [1]⟩]) (.seq (.reg false [⟨(some 17), .fld 1 (.t 1), none, []⟩, ⟨(some 18), .load (some 2) (.t 17), none, [0]⟩, ⟨(some 19), .call 22 [(.t 18)], none, [1]⟩, ⟨(some 20), .mv (.t 19), none, [2, 2]⟩, ⟨(some 21), .fld 0 (.t 1), (some (20, true)), [3]⟩, ⟨(some 22), .load none (.t 21), (some (20, true)), [4, 3]⟩, ⟨(some 23), .len (.t 22), (some (20, true)), [5, 3]⟩, ⟨(some 24), .bin .leq (.t 23) (.v (.int .i64 5000)), (some (20, true)), [6, 3]⟩, ⟨(some 25), .pick (.t 20) (.t 24) (.v (.bool false)), none, [3, 7]⟩, ⟨(some 4), .mv (.t 25), none, [8, 3, 0, 1, 2, 3, 4, 5, 6, 7, 8]⟩]) (.seq (.reg false [⟨(some 26), .fld 1 (.t 1), none, []⟩, ⟨(some 27), .fld 0 (.t 26), none, [0]⟩, ⟨(some 28), .load none (.t 27), none, [1]⟩, ⟨(some 29), .len (.t 28), none, [2]⟩, ⟨(some 30), .mv (.v (.int .i64 0)), none, []⟩]) (.seq (.block 0 (.loop (.seq (.reg false [⟨(some 31), .bin .lss (.t 30) (.t 29), none, []⟩]) (.seq (.cond (.t 31) (.skip) (.exit 0)) (.seq (.block 1 (.seq (.reg false [⟨(some 32), .ixs 2 (.t 28) (.t 30), none, []⟩, ⟨(some 33), .load (some 2) (.t 32), none, [0]⟩, ⟨(some 6), .new [(.int .i64 0), (.int .i64 0)], none, []⟩, ⟨none, .store 2 (.t 6) (.t 33), none, [2, 1, 0, 1, 2]⟩]) (.reg false [⟨(some 34), .mv (.t 4), none, []⟩, ⟨(some 35), .mv (.t 34), none, [0]⟩, ⟨(some 36), .load (some 2) (.t 6), (some (35, true)), [1]⟩, ⟨(some 37), .call 23 [(.t 36)], (some (35, true)), [2, 1, 1]⟩, ⟨(some 38), .pick (.t 35) (.t 37) (.v (.bool false)), none, [1, 3]⟩, ⟨(some 4), .mv (.t 38), none, [4, 3, 0, 1, 2, 3, 4]⟩]))) (.reg false [⟨(some 39), .bin .add (.t 30) (.v (.int .i64 1)), none, []⟩, ⟨(some 30), .mv (.t 39), none, [0]⟩])))))) (.seq (.reg false [⟨(some 40), .fld 0 (.t 1), none, []⟩, ⟨(some 41), .load none (.t 40), none, [0]⟩, ⟨(some 42), .len (.t 41), none, [1]⟩, ⟨(some 43), .mv (.v (.int .i64 0)), none, []⟩]) (.seq (.block 2 (.loop (.seq (.reg false [⟨(some 44), .bin .lss (.t 43) (.t 42), none, []⟩]) (.seq (.cond (.t 44) (.skip) (.exit 2)) (.seq (.block 3 (.seq (.reg false [⟨(some 45), .ixs 9 (.t 41) (.t 43), none, []⟩, ⟨(some 46), .load (some 9) (.t 45), none, [0]⟩, ⟨(some 8), .new [(.int .i64 0), (.int .i64 0), (.int .i64 0), (.int .i64 0), (.int .i64 0), (.int .i64 0), (.int .i64 0), (.int .i64 0), (.int .i64 0)], none, []⟩, ⟨none, .store 9 (.t 8) (.t 46), none, [2, 1, 0, 1, 2]⟩]) (.reg false [⟨(some 47), .mv (.t 4), none, []⟩, ⟨(some 48), .mv (.t 47), none, [0]⟩, ⟨(some 49), .load (some 9) (.t 8), (some (48, true)), [1]⟩, ⟨(some 50), .call 24 [(.t 49)], (some (48, true)), [2, 1, 1]⟩, ⟨(some 51), .pick (.t 48) (.t 50) (.v (.bool false)), none, [1, 3]⟩, ⟨(some 52), .mv (.t 51), none, [4, 3]⟩, ⟨(some 53), .fld 8 (.t 8), (some (52, true)), [5]⟩, ⟨(some 54), .load none (.t 53), (some (52, true)), [6, 5]⟩, ⟨(some 55), .fld 1 (.t 1), (some (52, true)), [5]⟩, ⟨(some 56), .fld 0 (.t 55), (some (52, true)), [8, 5]⟩, ⟨(some 57), .load none (.t 56), (some (52, true)), [9, 5]⟩, ⟨(some 58), .len (.t 57), (some (52, true)), [10, 5]⟩, ⟨(some 59), .bin .lss (.t 54) (.t 58), (some (52, true)), [7, 11, 5]⟩, ⟨(some 60), .pick (.t 52) (.t 59) (.v (.bool false)), none, [5, 12]⟩, ⟨(some 4), .mv (.t 60), none, [13, 5, 0, 1, 2, 3, 4, 5, 6, 7, 8, 9, 10, 11, 12, 13]⟩]))) (.reg false [⟨(some 61), .bin .add (.t 43) (.v (.int .i64 1)), none, []⟩, ⟨(some 43), .mv (.t 61), none, [0]⟩])))))) (pcw12Ac0))))))
abbrev msw12A_0 : List Nat := [31, 32, 33, 6, 34, 35, 36, 37, 38, 4, 39, 30]
abbrev osw12A_0 : List Nat := [6]
abbrev msw12A_1 : List Nat := [44, 45, 46, 8, 47, 48, 49, 50, 51, 52, 53, 54, 55, 56, 57, 58, 59, 60, 4, 61, 43]
abbrev osw12A_1 : List Nat := [8]
def flw12A : List (Nat × List Bool) := [(5000001, List.replicate 1 false), (5000009, List.replicate 1 false), (5000064, List.replicate 1 false), (5000010, List.replicate 1 false), (5000011, List.replicate 1 false), (5000012, List.replicate 1 false)]
theorem cpw12A:bD Try.prog Try.f12.ntmps (fJ ++ flw12A) (lH (((bW (Try.f12.body.getD .skip)).drop 0).take 12))=some pcw12A:=by kernel_rfl
def pcw12B : PC := .block 5 (.seq (.reg false [⟨(some 71), .load none (.t 12), none, []⟩, ⟨(some 72), .mv (.t 13), none, []⟩, ⟨(some 73), .call 27 [(.t 71), (.t 72)], none, [0, 1]⟩, ⟨(some 14), .mv (.t 73), none, [2, 2, 0, 1, 2]⟩]) (.seq (.reg false [⟨(some 74), .fld 1 (.t 1), none, []⟩, ⟨(some 75), .load (some 2) (.t 74), none, [0]⟩, ⟨(some 76), .load none (.t 12), none, []⟩, ⟨(some 77), .mv (.t 14), none, []⟩, ⟨(some 78), .callp 28 [(.t 9), (.t 75), (.t 76), (.t 77)], none, [1, 2, 3]⟩]) (.seq (.reg false [⟨(some 79), .mv (.t 13), none, []⟩, ⟨(some 80), .len (.t 79), none, [0]⟩, ⟨(some 81), .callp 29 [(.t 9), (.t 80)], none, [1]⟩]) (.seq (.seq (.reg false [⟨(some 82), .mv (.t 13), none, []⟩, ⟨(some 83), .len (.t 82), none, [0]⟩, ⟨(some 84), .mv (.v (.int .i64 0)), none, []⟩]) (.block 6 (.loop (.seq (.reg false [⟨(some 85), .bin .lss (.t 84) (.t 83), none, []⟩]) (.seq (.cond (.t 85) (.skip) (.exit 6)) (.seq (.block 7 (.seq (.reg false [⟨(some 86), .ixs 9 (.t 82) (.t 84), none, []⟩, ⟨(some 87), .load (some 9) (.t 86), none, [0]⟩, ⟨(some 16), .new [(.int .i64 0), (.int .i64 0), (.int .i64 0), (.int .i64 0), (.int .i64 0), (.int .i64 0), (.int .i64 0), (.int .i64 0), (.int .i64 0)], none, []⟩, ⟨none, .store 9 (.t 16) (.t 87), none, [2, 1, 0, 1, 2]⟩]) (.reg false [⟨(some 88), .load (some 9) (.t 16), none, []⟩, ⟨(some 89), .callp 30 [(.t 9), (.t 88)], none, [0]⟩]))) (.reg false [⟨(some 90), .bin .add (.t 84) (.v (.int .i64 1)), none, []⟩, ⟨(some 84), .mv (.t 90), none, [0]⟩]))))))) (.seq (.reg false [⟨(some 91), .load none (.t 11), none, []⟩, ⟨(some 92), .load none (.t 10), none, []⟩, ⟨(some 93), .callc (.t 91) 25 [(.t 92), (.v (.int .u8 66))], none, [0, 1]⟩, ⟨none, .store 1 (.t 10) (.t 93), none, [2, 2, 0, 1, 2]⟩]) (.reg false [⟨(some 94), .mv (.t 14), none, []⟩, ⟨none, .store 1 (.t 12) (.t 94), none, [0, 0]⟩]))))))
abbrev msw12B_0 : List Nat := [85, 86, 87, 16, 88, 89, 90, 84]
abbrev osw12B_0 : List Nat := [16]
def flw12B : List (Nat × List Bool) := [(8000028, List.replicate 1 false), (8000029, List.replicate 1 false), (8000030, List.replicate 1 false), (7000091, List.replicate 25 false)]
theorem cpw12B:bD Try.prog Try.f12.ntmps (fJ ++ flw12B) (Ew (((bW (Try.f12.body.getD .skip))[13]?).getD .skip))=some pcw12B:=by kernel_rfl
def pcw12Z : PC := .seq (.reg false [⟨(some 95), .fld 1 (.t 1), none, []⟩, ⟨(some 96), .load (some 2) (.t 95), none, [0]⟩, ⟨(some 97), .load none (.t 12), none, []⟩, ⟨(some 98), .fld 1 (.t 1), none, []⟩, ⟨(some 99), .fld 0 (.t 98), none, [3]⟩, ⟨(some 100), .load none (.t 99), none, [4]⟩, ⟨(some 101), .len (.t 100), none, [5]⟩, ⟨(some 102), .callp 28 [(.t 9), (.t 96), (.t 97), (.t 101)], none, [1, 2, 6]⟩]) (.seq (.reg false [⟨(some 103), .fld 0 (.t 1), none, []⟩, ⟨(some 104), .load none (.t 103), none, [0]⟩, ⟨(some 105), .len (.t 104), none, [1]⟩, ⟨(some 106), .callp 29 [(.t 9), (.t 105)], none, [2]⟩]) (.seq (.reg false [⟨(some 107), .fld 0 (.t 9), none, []⟩, ⟨(some 108), .load none (.t 107), none, [0]⟩, ⟨(some 109), .len (.t 108), none, [1]⟩, ⟨(some 110), .bin .gtr (.t 109) (.v (.int .i64 1048576)), none, [2]⟩]) (.seq (.cond (.t 110) (.seq (.reg false [⟨(some 2), .nilRow 5 1, none, []⟩, ⟨(some 3), .mv (.v (.int .i64 1)), none, [0, 0]⟩]) (.ret)) (.skip)) (.seq (.reg false [⟨(some 111), .load none (.t 11), none, []⟩, ⟨(some 112), .load none (.t 10), none, []⟩, ⟨(some 113), .callc (.t 111) 25 [(.t 112), (.v (.int .u8 69))], none, [0, 1]⟩, ⟨(some 2), .mv (.t 113), none, [2, 2, 0, 1, 2]⟩, ⟨(some 3), .mv (.v (.int .i64 0)), none, [3, 0, 1, 2, 3]⟩]) (.seq (.ret) (.skip))))))
def flw12Z : List (Nat × List Bool) := [(8000028, List.replicate 1 false), (8000029, List.replicate 1 false), (7000111, List.replicate 25 false)]
theorem cpw12Z:bD Try.prog Try.f12.ntmps (fJ ++ flw12Z) (lH (((bW (Try.f12.body.getD .skip)).drop 14).take 6))=some pcw12Z:=by kernel_rfl
end Go.Proofs.Ytkafcpnahpfbfaa
end
section
namespace Go.Proofs.Ytkafcpnahpfbfaa
open Go Go.RowKit
set_option maxRecDepth 1000000
set_option maxHeartbeats 4000000
abbrev hI (n:Int):Hc:=.d (dI n)
abbrev hP (b off:Nat):Hc:=.h (.p b off)
def nD (hp:Nat→Hb) (N:Nat):Prop:=∀ b,N≤b→hp b=.no
def vC:Option Nat→Hc
 | none=>.d (.sc (.slice none 0 0))
 | some b=>.h (.v b)
def qw (hp:Nat→Hb) (N:Nat) (bs:List Nat):Option Nat→Prop
 | none=>bs=[]
 | some b=>hp b=.vec 5 1 (byR bs)∧b < N
def jK (hp:Nat→Hb) (x:Option Nat) (N j:Nat) (bs:List Nat):Nat→Hb:=match j with
 | 0=>hp
 | j+1=>fun b=>if b=N+j then .vec 5 1 (byR bs) else if x=some b∨(N≤b∧b < N+j) then .dead else hp b
def oN (x:Option Nat) (N:Nat):Nat→Option Nat
 | 0=>x
 | j+1=>some (N+j)
theorem jE {hp:Nat→Hb} {x:Option Nat} {N j:Nat} {bs:List Nat} (hx:∀ b,x=some b→b < N) (hf:nD hp N):nD (jK hp x N j bs) (N+j):=by
 intro b hb
 cases j with
 | zero=>exact hf b hb
 | succ j =>
   show (if b=N+j then _ else _)=_
   rw [if_neg (by omega),if_neg (by rintro (h | h);have:=hx b h;omega;omega)]
   exact hf b (by omega)
theorem jo {hp:Nat→Hb} {x:Option Nat} {N j:Nat} {bs:List Nat} {b:Nat} (hb:b < N) (hne:x≠some b):jK hp x N j bs b=hp b:=by
 cases j with
 | zero=>rfl
 | succ j =>
   show (if b=N+j then _ else _)=_
   rw [if_neg (by omega),if_neg (by rintro (h | h);exact hne h;omega)]
theorem iG {hp:Nat→Hb} {x:Option Nat} {N j:Nat} {bs:List Nat}:jK hp x N (j+1) bs (N+j)=.vec 5 1 (byR bs):=if_pos rfl
theorem FW {h:Nat→Hb} {a b:Nat} {x y:Hb} (m:Nat):upl h [(a,x),(b,y)] m=if m=b then y else if m=a then x else h m:=by
 show up (up h a x) b y m=_
 rw [ay];split
 ·rfl
 ·rw [ay]
theorem yN {h:Nat→Hb} {b:Nat} {y:Hb} (m:Nat):upl h [(b,y)] m=if m=b then y else h m:=by
 show up h b y m=_
 rw [ay]
theorem PS {s:St} {X:PX} {x:Option Nat} (h:s.cl X=(vC x).cl):(x=none∧s.cl X=.d (.sc (.slice none 0 0)))∨∃ b,x=some b∧s.cl X=.hv (.v b):=by
 cases x with
 | none=>exact .inl ⟨rfl,h⟩
 | some b=>exact .inr ⟨b,rfl,h⟩
theorem IY {env:Env} {K:St→Prop} {is:List PI} {s:St} {d:Nat} {c c0:Nat} {X Y:PX} {hp:Nat→Hb} {x:Option Nat} {N j:Nat} {bs news:List Nat}
 (hX:s.cl X=(vC (oN x N j)).cl) (hb:s.hb=jK hp x N j bs) (hx:j=0→qw hp N bs x) (hxl:∀ b,x=some b→b < N) (hf:nD hp N) (hn1:s.nc (N+j)=c) (hn2:∀ b,oN x N j=some b→s.nc b=c) (hc:x=none→j=0→c0=c) (hY:s.jr Y=some (byR news)) (hl:bs.length+news.length≤1000000) (ha:aH s)
 (k:∀ l:List (Nat×Hb),(s.ap (some d) (.b (.one (.hv (.v (N+j))))) (.hw (HBS+c) l)).hb=jK hp x N (j+1) (bs ++ news)→aS env is (s.ap (some d) (.b (.one (.hv (.v (N+j))))) (.hw (HBS+c) l)) K):vX env K is s (some d) c0 (.app 5 1 1 X Y):=by
 have hna:=dR news;have hnl:=aV news;have hbl:=aV bs;have hfree:s.hb (N+j)=.no:=by rw [hb];exact jE hxl hf _ (Nat.le_refl _)
 rcases PS hX with ⟨h1,h2⟩ | ⟨b,h1,h2⟩
 ·-- a nil slice
  have hj:j=0:=by
   cases j with
   | zero=>rfl
   | succ j=>cases h1
  subst hj;have hx0:x=none:=h1;subst hx0;have hbs:bs=[]:=hx rfl;subst hbs;refine DL (N+0) (dU (by rw [hn1,hc rfl rfl]) ha hfree) h2 hY ⟨by rw [hna];trivial,by rw [hnl];simpa using hl,by omega⟩ ?_
  rw [hc rfl rfl];refine k _ ?_;rw [mH (by rintro p hp;rw [List.mem_singleton.1 hp];exact hn1)]
  funext m
  rw [yN,hb]
  show _=(if m=N+0 then Hb.vec 5 1 (byR ([] ++ news)) else if (none:Option Nat)=some m∨(N≤m∧m < N+0) then Hb.dead else hp m)
  rw [List.nil_append]
  by_cases hm:m=N+0
  ·rw [if_pos hm,if_pos hm]
  ·rw [if_neg hm,if_neg hm,if_neg (by rintro (h | h);cases h;omega)];rfl
 ·have hvec:s.hb b=.vec 5 1 (byR bs):=by
   rw [hb]
   cases j with
   | zero =>
     have hxb:x=some b:=h1;have:=hx rfl;rw [hxb] at this;exact this.1
   | succ j =>
     have:N+j=b:=by simpa [oN] using h1
     rw [←this];exact iG
  refine GX (N+j) (dU (by rw [hn1,hn2 b h1]) ha hfree) h2 hvec hY ⟨by rw [hna];trivial,by rw [hbl,hnl];exact hl,by omega⟩ ?_
  rw [hn2 b h1];refine k _ ?_
  rw [mH (by rintro p hp;rcases List.mem_cons.1 hp with rfl | hp;exact hn2 b h1;rw [List.mem_singleton.1 hp];exact hn1)]
  funext m
  rw [FW,hb,gZ]
  show _=(if m=N+j then Hb.vec 5 1 (byR (bs ++ news)) else if x=some m∨(N≤m∧m < N+j) then Hb.dead else hp m)
  by_cases hm:m=N+j
  ·rw [if_pos hm,if_pos hm]
  ·rw [if_neg hm,if_neg hm]
   cases j with
   | zero =>
     have hxb:x=some b:=h1
     by_cases hmb:m=b
     ·rw [if_pos hmb,if_pos (.inl (by rw [hxb,hmb]))]
     ·rw [if_neg hmb,if_neg (by rintro (h | h);rw [hxb] at h;exact hmb (by cases h;rfl);omega)];rfl
   | succ j =>
     have hbb:N+j=b:=by simpa [oN] using h1
     by_cases hmb:m=b
     ·rw [if_pos hmb,if_pos (.inr (by omega))]
     ·rw [if_neg hmb]
      show (if m=N+j then _ else _)=_
      rw [if_neg (by omega)]
      by_cases hq:x=some m∨(N≤m∧m < N+j)
      ·rw [if_pos hq,if_pos (by rcases hq with h | h;exact .inl h;exact .inr (by omega))]
      ·rw [if_neg hq,if_neg (by rintro (h | h);exact hq (.inl h);exact hq (.inr (by omega)))]
theorem xW {hp:Nat→Hb} {x:Option Nat} {N j k:Nat} {b1 b2:List Nat} (hj:0 < j) (hk:0 < k):jK (jK hp x N j b1) (oN x N j) (N+j) k b2=jK hp x N (j+k) b2:=by
 obtain ⟨j,rfl⟩:∃ i,j=i+1:=⟨j - 1,by omega⟩
 obtain ⟨k,rfl⟩:∃ i,k=i+1:=⟨k - 1,by omega⟩
 funext m
 show (if m=N+(j+1)+k then Hb.vec 5 1 (byR b2) else if (some (N+j):Option Nat)=some m∨(N+(j+1)≤m∧m < N+(j+1)+k) then Hb.dead else if m=N+j then Hb.vec 5 1 (byR b1) else if x=some m∨(N≤m∧m < N+j) then Hb.dead else hp m)=(if m=N+(j+1+k) then Hb.vec 5 1 (byR b2) else if x=some m∨(N≤m∧m < N+(j+1+k)) then Hb.dead else hp m)
 by_cases h1:m=N+(j+1)+k
 ·have g1:m=N+(j+1+k):=by omega
  rw [if_pos h1,if_pos g1]
 ·have g1:¬ m=N+(j+1+k):=by omega
  rw [if_neg h1,if_neg g1]
  by_cases h2:(some (N+j):Option Nat)=some m∨(N+(j+1)≤m∧m < N+(j+1)+k)
  ·have g2:x=some m∨(N≤m∧m < N+(j+1+k)):=by
    rcases h2 with h2 | h2
    ·have:N+j=m:=by simpa using h2
     exact .inr (by omega)
    ·exact .inr (by omega)
   rw [if_pos h2,if_pos g2]
  ·have g2:¬ m=N+j:=fun q=>h2 (.inl (by rw [q]))
   rw [if_neg h2,if_neg g2]
   by_cases h3:x=some m∨(N≤m∧m < N+j)
   ·have g3:x=some m∨(N≤m∧m < N+(j+1+k)):=by
     rcases h3 with h3 | h3
     ·exact .inl h3
     ·exact .inr (by omega)
    rw [if_pos h3,if_pos g3]
   ·have g3:¬ (x=some m∨(N≤m∧m < N+(j+1+k))):=by
     rintro (q | q)
     ·exact h3 (.inl q)
     ·by_cases q3:m < N+j
      ·exact h3 (.inr ⟨q.1,q3⟩)
      ·exact h2 (.inr (by omega))
    rw [if_neg h3,if_neg g3]
def bHw (x:Option Nat):Hw:=.one (vC x)
def BL (hp:Nat→Hb) (az:List Hw) (hp':Nat→Hb) (rs:List Hw):Prop:=∃ (x:Option Nat) (n N:Nat) (bs:List Nat),az=[bHw x,.one (hI n)]∧(qw hp N bs x∧nD hp N∧n≤9223372036854775807∧bs.length≤900000)∧hp'=jK hp x N (bn n).length (bs ++ bn n)∧rs=[bHw (oN x N (bn n).length)]
theorem jR {hp:Nat→Hb} {N:Nat} {bs:List Nat} {x:Option Nat} (h:qw hp N bs x):∀ b,x=some b→b < N:=by
 rintro b rfl;exact h.2
theorem Bj:∀ f n,0 < (kH f n).length
 | 0,_=>Nat.one_pos
 | f+1,n=>by unfold kH;split <;> simp
theorem Qe:fK Try.prog 45 BL:=by
 refine spw45 aA.e0 ?_;rintro hp az hp' rs ⟨x,n,N,bs,rfl,⟨hv,hN,hn,hbl⟩,rfl,rfl⟩;have hxl:=jR hv
 obtain ⟨c,hc16,hc21⟩:∃ c:Nat,(x=none→128≤n→16=c)∧(x=none→¬ 128≤n→21=c):=by
  by_cases h:128≤n
  ·exact ⟨16,fun _ _=>rfl,fun _ q=>absurd h q⟩
  ·exact ⟨21,fun _ q=>absurd q h,fun _ _=>rfl⟩
 refine ⟨by simp,fun _=>c,?_⟩;unfold pcw45
 with_reducible refine aQ ?_
 simp only [↓evP,evB,stB,bHw];refine dA msw45_0 osw45_0 (fun f st=>∃ (m:Nat) (acc:List Nat),m≤n∧m < 128 * 128 ^ f∧acc.length+f=8∧bn n=acc ++ kH f m∧st.sl 1=aI m∧st.sl 0=.b (.one (vC (oN x N acc.length)).cl)∧st.hb=jK hp x N acc.length (bs ++ acc)∧(acc≠[]→128≤n)) 8 (by repeat' (first | exact aH.init | assumption | exact aN (by assumption) | (refine aH.ap ?_ rfl))) ?_ ?_
 ·exact ⟨n,[],Nat.le_refl _,by omega,rfl,rfl,by simp only [stB,Nat.reduceEqDiff];first | done | rfl,by simp only [stB,reduceCtorEq];first | done | rfl,by simp only [stB,Nat.reduceLT];first | done | rfl,fun h=>absurd rfl h⟩
 rintro f j hjn hja ⟨m,acc,hmn,hmf,hal,hnum,h1,h0,hh,hne⟩;simp only [stB,reduceCtorEq,Nat.reduceEqDiff,Nat.reduceBEq,hjn] at h1 h0 hh;have hxl:=jR hv;have hbacc:acc.length≤8:=by omega
 have hv0:acc.length=0→qw hp N (bs ++ acc) x:=fun h=>by
  have:acc=[]:=List.eq_nil_of_length_eq_zero h;rw [this,List.append_nil];exact hv
 by_cases hm:128≤m
 ·cases f with
  | zero=>omega
  | succ f =>
    unfold kH at hnum;rw [if_pos hm] at hnum;have hge:(m:Int)≥128:=by omega
    have i0:((128:Int)=0)=False:=by simp
    have e1:(m:Int).tmod 128=((m % 128:Nat):Int):=by rw [Int.tmod_eq_emod_of_nonneg (by omega)];omega
    have e2:(m:Int).tdiv 128=((m / 128:Nat):Int):=by rw [Int.tdiv_eq_ediv_of_nonneg (by omega)];omega
    have e4:IntKind.i64.wrap (((m % 128:Nat):Int)+128)=((m % 128+128:Nat):Int):=by rw [dP (by omega) (by omega)];omega
    have e5:IntKind.u8.wrap ((m % 128+128:Nat):Int)=((m % 128+128:Nat):Int):=w8 (by omega);have e6:IntKind.i64.wrap ((m / 128:Nat):Int)=((m / 128:Nat):Int):=dP (by omega) (by omega);simp only [↓evP,evB,stB,reduceCtorEq,Nat.reduceEqDiff,Nat.reduceLeDiff,Nat.reduceBEq,h1,h0,hge,i0,e1,e4,e5,decide_true];refine IY (hp:=hp) (x:=x) (N:=N) (j:=acc.length) (bs:=bs ++ acc) (news:=[m % 128+128]) (c:=c) (by simp only [stB,Nat.reduceEqDiff,Nat.reduceBEq]) (by simp only [stB,Nat.reduceLT,hjn,hh]) hv0 hxl hN (by simp only [stB]) (fun b _=>by simp only [stB]) (fun q _=>hc16 q (by omega)) (jQ (by simp only [stB,Nat.reduceEqDiff,Nat.reduceBEq];rfl)) (by rw [List.length_append];simp;omega) (by repeat' (first | exact aH.init | assumption | exact aN (by assumption) | (refine aH.ap ?_ rfl))) (fun l hl=>?_)
    simp only [↓evP,evB,stB,reduceCtorEq,Nat.reduceEqDiff,Nat.reduceBEq,h1,e2,e6,i0]
    refine ⟨f,by omega,(by repeat' (first | assumption | exact aP (by assumption) | (refine aJ ?_ rfl rfl) | (refine aD ?_ rfl) | (refine aJ ?_ rfl aK) | (refine aD ?_ aK))),m / 128,acc ++ [m % 128+128],by omega,by rw [Nat.pow_succ] at hmf;omega,by rw [List.length_append];show acc.length+1+f=8;omega,by rw [hnum,List.append_assoc];rfl,by simp only [stB,reduceCtorEq,Nat.reduceEqDiff,Nat.reduceBEq],?_,?_,fun _=>by omega⟩
    ·simp only [stB,reduceCtorEq,Nat.reduceBEq];rw [List.length_append];rfl
    ·simp only [stB,hl];rw [List.length_append,List.append_assoc];rfl
 ·have hge:¬ (m:Int)≥128:=by omega
  have hf:kH f m=[m]:=by cases f <;> simp [kH,hm]
  have e5:IntKind.u8.wrap (m:Int)=(m:Int):=w8 (by omega);rw [hf] at hnum;have hnl:(bn n).length=acc.length+1:=by rw [hnum,List.length_append];rfl
  simp only [↓evP,evB,stB,reduceCtorEq,Nat.reduceEqDiff,Nat.reduceLeDiff,Nat.reduceBEq,h1,h0,hge,e5,decide_false]
  refine IY (hp:=hp) (x:=x) (N:=N) (j:=acc.length) (bs:=bs ++ acc) (news:=[m]) (c:=c) (by simp only [stB,Nat.reduceEqDiff,Nat.reduceBEq]) (by simp only [stB,Nat.reduceLT,hjn,hh]) hv0 hxl hN (by simp only [stB]) (fun b _=>by simp only [stB]) (fun q q2=>by
   have:acc=[]:=List.eq_nil_of_length_eq_zero q2;rw [this] at hnum;refine hc21 q (fun h128=>?_);unfold bn kH at hnum;rw [if_pos h128] at hnum;simp at hnum;have:=Bj 7 (n / 128);rw [hnum.2] at this;simp at this) (jQ (by simp only [stB,Nat.reduceEqDiff,Nat.reduceBEq];rfl)) (by rw [List.length_append];simp;omega) (by repeat' (first | exact aH.init | assumption | exact aN (by assumption) | (refine aH.ap ?_ rfl))) (fun l hl=>?_)
  simp only [↓evP,evB,stB,reduceCtorEq,Nat.reduceEqDiff,Nat.reduceBEq,prw45];refine ⟨?_,?_⟩
  ·rw [hnl];rfl
  ·rw [hl,hnl,hnum,List.append_assoc]
theorem MV (x:Option Nat):(vC x).cl.hc=some (vC x):=by cases x <;> rfl
theorem iq:∀ cs:List Hc,iF cs 0 []=cs
 | []=>rfl
 | _ :: _=>rfl
structure WAt (hp:Nat→Hb) (bw N:Nat) (l:Ev) (bs:List Nat) (x:Option Nat):Prop where
 h:hp bw=.cells (vC x :: l.row.map .d)
 v:qw hp N bs x
 ne:x≠some bw
 lt:bw < N
 fr:nD hp N
structure nE (hp:Nat→Hb) (bw N:Nat) (x:Option Nat) (h:Nat→Hb) (N':Nat) (x':Option Nat):Prop where
 le:N≤N'
 nx:∀ b,x'=some b→x=some b∨N≤b
 out:∀ b,b < N→b≠bw→x≠some b→h b=hp b
theorem nE.refl (hp:Nat→Hb) (bw N:Nat) (x:Option Nat):nE hp bw N x hp N x:=⟨Nat.le_refl _,fun _ h=>.inl h,fun _ _ _ _=>rfl⟩
theorem nE.trans {hp h h2:Nat→Hb} {bw N N' N2:Nat} {x x' x2:Option Nat} (a:nE hp bw N x h N' x') (b:nE h bw N' x' h2 N2 x2):nE hp bw N x h2 N2 x2:=by
 have:=a.le;have:=b.le;refine ⟨by omega,fun k hk=>?_,fun k h1 h2 h3=>?_⟩
 ·rcases b.nx k hk with q | q
  ·exact a.nx k q
  ·exact .inr (by omega)
 ·rw [b.out k (by omega) h2 (fun q=>(a.nx k q).elim h3 (fun q=>by omega)),a.out k h1 h2 h3]
def IE (hp:Nat→Hb) (bw N:Nat) (x:Option Nat) (l:Ev) (bs:List Nat) (h:Nat→Hb):Prop:=∃ N' x',WAt h bw N' l bs x'∧nE hp bw N x h N' x'
def yP (hp:Nat→Hb) (az:List Hw) (Post:(Nat→Hb)→List Hw→Prop):Prop:=∃ (bw N:Nat) (x:Option Nat) (l:Ev) (bs:List Nat) (n:Nat),az=[.one (hP bw 0),.one (hI n)]∧(WAt hp bw N l bs x∧n≤9223372036854775807∧bs.length≤900000)∧Post=fun h r=>r=[]∧IE hp bw N x l (bs ++ bn n) h
theorem Ll {x:Option Nat} {N j:Nat} (hj:0 < j):oN x N j=some (N+(j - 1)):=by
 cases j with
 | zero=>omega
 | succ j=>rfl
theorem jk (n:Nat):0 < (bn n).length:=Bj 8 n
theorem bB {α:Type} {f:Nat→α} {a:Nat} {v:α} {b:Nat} (h:b≠a):up f a v b=f b:=by rw [ay,if_neg h]
theorem dK {α:Type} {f:Nat→α} {a:Nat} {v:α}:up f a v a=v:=by rw [ay,if_pos rfl]
theorem WAt.put {hp:Nat→Hb} {bw N:Nat} {l:Ev} {bs bs':List Nat} {x:Option Nat} (h:WAt hp bw N l bs x) {k:Nat} (hk:0 < k) :
 IE hp bw N x l bs' (up (jK hp x N k bs') bw (.cells (vC (oN x N k) :: l.row.map .d))):=by
 obtain ⟨j,rfl⟩:∃ j,k=j+1:=⟨k - 1,by omega⟩
 have hlt:=h.lt;have hxl:=jR h.v;refine ⟨N+(j+1),oN x N (j+1),⟨dK,⟨?_,by omega⟩,?_,by omega,fun b hb=>?_⟩,by omega,fun b hb=>?_,fun b h1 h2 h3=>?_⟩
 ·rw [bB (by omega)];exact iG
 ·intro q;have:N+j=bw:=by simpa [oN] using q
  omega
 ·rw [bB (by omega)];exact jE hxl h.fr b hb
 ·have:N+j=b:=by simpa [oN] using hb
  exact .inr (by omega)
 ·rw [bB h2];exact jo h1 h3
theorem Ez:dY Try.prog 29 yP:=by
 refine sqw29 (show aA Try.prog (h1 45 BL e0) from aA.h1 Qe aA.e0) ?_;rintro hp az Post ⟨bw,N,x,l,bs,n,rfl,⟨hW,hn,hbl⟩,rfl⟩;refine ⟨by simp,fun _=>1,?_⟩;have h0:=hW.h;have hcx:=MV x;obtain ⟨h1,hh1⟩:∃ h1,jK hp x N (bn n).length (bs ++ bn n)=h1:=⟨_,rfl⟩
 have h0':h1 bw=.cells (vC x :: l.row.map .d):=by rw [←hh1,jo hW.lt hW.ne];exact h0
 have hcx2:=MV (oN x N (bn n).length);unfold pcw29
 with_reducible refine aQ ?_
 simp only [↓evP,evB,stB,reduceCtorEq,Nat.reduceEqDiff,h0,hcx];refine bM h1 [bHw (oN x N (bn n).length)] (by simp only [stB];exact ⟨x,n,N,bs,rfl,⟨hW.v,hW.fr,hn,hbl⟩,hh1.symm,rfl⟩) ?_
 simp only [evB,stB,reduceCtorEq,Nat.reduceEqDiff,Nat.reduceLeDiff,h0',hcx2,bHw,iq,prw29];have hp2:=hW.put (bs':=bs ++ bn n) (jk n);rw [hh1] at hp2;exact ⟨_,[],rfl,fun b=>.inl (ay _ _ _ _),rfl,hp2⟩
def LY (hp:Nat→Hb) (az:List Hw) (Post:(Nat→Hb)→List Hw→Prop):Prop:=∃ (bw N:Nat) (x:Option Nat) (l:Ev) (bs:List Nat) (d:Dep) (a b:Nat),az=[.one (hP bw 0),kI d.pa,.one (hI a),.one (hI b)]∧(WAt hp bw N l bs x∧bs.length≤400000∧d.ok∧a≤b∧b≤d.st.length)∧Post=fun h r=>r=[]∧IE hp bw N x l (bs ++ qQ d a b) h
theorem R6:dY Try.prog 28 LY:=by
 refine sqw28 (show aA Try.prog (p1 29 yP e0) from aA.p1 Ez aA.e0) ?_;rintro hp az Post ⟨bw,N,x,l,bs,d,a,b,rfl,⟨hW,hbl,hd,hab,hb⟩,rfl⟩;refine ⟨by simp,fun _=>1,?_⟩;have hle:=hd.le;unfold pcw28
 with_reducible refine aQ ?_
 have w0:IntKind.i64.wrap ((b:Int) - (a:Int))=((b - a:Nat):Int):=by rw [dP (by omega) (by omega)];omega
 simp only [↓evP,evB,stB,reduceCtorEq,Nat.reduceEqDiff,kI,Dep.pa,Dep.row,w0];refine bH _ (by simp only [stB,Nat.reduceLT];exact ⟨bw,N,x,l,bs,b - a,rfl,⟨hW,by omega,by omega⟩,rfl⟩) ?_
 rintro h1 r ⟨rfl,N1,x1,hW1,hS1⟩;have hnl:=bO (b - a);simp only [↓evP,evB,stB,Nat.reduceEqDiff];refine dA msw28_0 osw28_0 (fun m st=>∃ k N2 x2,m=(b - a) - k∧k≤b - a∧st.sl 8=aI ((a+k:Nat):Int)∧WAt st.hb bw N2 l (bs ++ (bn (b - a) ++ mM d a k)) x2∧nE hp bw N x st.hb N2 x2) (b - a) (by repeat' (first | exact aH.init | assumption | exact aN (by assumption) | (refine aH.ap ?_ rfl))) ?_ ?_
 ·refine ⟨0,N1,x1,rfl,Nat.zero_le _,by simp only [stB,Nat.reduceEqDiff];first | done | rfl,?_,?_⟩
  ·simp only [stB];rw [show mM d a 0=[] from rfl,List.append_nil];exact hW1
  ·simp only [stB];exact hS1
 rintro m j hjn hja ⟨k,N2,x2,rfl,hk,h8,hW2,hS2⟩;simp only [stB,Nat.reduceEqDiff,Nat.reduceBEq,hjn] at h8 hW2 hS2;obtain ⟨H2,hH2⟩:∃ H2,j.hb=H2:=⟨_,rfl⟩
 rcases Nat.lt_or_ge k (b - a) with hlt | hge
 ·have hi:a+k < d.st.length:=by omega
  have hi2:a+k < d.pr.length:=by have:=hd.len;omega
  have klt:((a+k:Nat):Int) < (b:Int):=by omega
  have k0:(0:Int)≤((a+k:Nat):Int):=by omega
  have gp:d.pr[a+k]? = some (fB d (a+k)):=by unfold fB;rw [List.getD_eq_getElem?_getD,List.getElem?_eq_getElem hi2];rfl
  have gs:d.st[a+k]? = some (dX d (a+k)):=by unfold dX;rw [List.getD_eq_getElem?_getD,List.getElem?_eq_getElem hi];rfl
  have bp:=hd.pr _ (List.mem_of_getElem? gp);have bs2:=hd.st _ (List.mem_of_getElem? gs);have hsu:=nJ d a k;have hfl:=vg d a k;unfold mG at hsu;generalize fB d (a+k)=p at *;generalize dX d (a+k)=s at *;obtain ⟨s1,s2⟩:=s;dsimp only at hsu bs2;have w1:IntKind.i64.wrap (p+1)=((p+1).toNat:Int):=by rw [dP (by omega) (by omega)];omega
  have e1:s1=(s1.toNat:Int):=by omega
  have e2:s2=(s2.toNat:Int):=by omega
  have w2:IntKind.i64.wrap (((a+k:Nat):Int)+1)=((a+(k+1):Nat):Int):=by rw [dP (by omega) (by omega)];omega
  obtain ⟨B,hB⟩:∃ B,bs ++ (bn (b - a) ++ mM d a k)=B:=⟨_,rfl⟩
  have hBl:B.length≤400009+27 * k:=by rw [←hB,List.length_append,List.length_append];omega
  rw [hB] at hW2;have l1:=bO (p+1).toNat;have l2:=bO s1.toNat;simp only [↓evP,evB,stB,reduceCtorEq,Nat.reduceEqDiff,Nat.reduceLT,Nat.reduceBEq,h8,klt,k0,gp,w1,decide_true];refine bH _ (by simp only [stB,hjn];exact ⟨bw,N2,x2,l,B,(p+1).toNat,rfl,⟨hW2,by omega,by omega⟩,rfl⟩) ?_
  rintro h3 r ⟨rfl,N3,x3,hW3,hS3⟩;simp only [↓evP,evB,stB,reduceCtorEq,Nat.reduceEqDiff,Nat.reduceAdd,Nat.reduceLT,Nat.reduceBEq,h8,k0,gs,aW];refine bH _ (by simp only [stB];exact ⟨bw,N3,x3,l,_,s1.toNat,by rw [←e1],⟨hW3,by omega,by rw [List.length_append];omega⟩,rfl⟩) ?_
  rintro h4 r ⟨rfl,N4,x4,hW4,hS4⟩;simp only [↓evP,evB,stB,reduceCtorEq,Nat.reduceEqDiff,Nat.reduceAdd,Nat.reduceLT,Nat.reduceBEq,h8,k0,gs,aW];refine bH _ (by simp only [stB];exact ⟨bw,N4,x4,l,_,s2.toNat,by rw [←e2],⟨hW4,by omega,by rw [List.length_append,List.length_append];omega⟩,rfl⟩) ?_
  rintro h5 r ⟨rfl,N5,x5,hW5,hS5⟩;simp only [↓evP,evB,stB,Nat.reduceEqDiff,Nat.reduceBEq,h8]
  refine ⟨_,by omega,(by repeat' (first | assumption | exact aP (by assumption) | (refine aJ ?_ rfl rfl) | (refine aD ?_ rfl) | (refine aJ ?_ rfl aK) | (refine aD ?_ aK))),k+1,N5,x5,rfl,hlt,by simp only [stB,Nat.reduceEqDiff,Nat.reduceBEq,h8,w2],?_,?_⟩
  ·simp only [stB]
   have:bs ++ (bn (b - a) ++ mM d a (k+1))=B ++ bn (p+1).toNat ++ bn s1.toNat ++ bn s2.toNat:=by
    rw [hsu,←hB];simp only [List.append_assoc]
   rw [this];exact hW5
  ·simp only [stB];exact hS2.trans (hS3.trans (hS4.trans hS5))
 ·have hke:k=b - a:=by omega
  have klt:¬ ((a+k:Nat):Int) < (b:Int):=by omega
  simp only [↓evP,evB,stB,reduceCtorEq,Nat.reduceEqDiff,Nat.reduceLT,Nat.reduceBEq,h8,klt,decide_false,prw28];rw [hke] at hW2;refine ⟨j.hb,[],rfl,fun b=>.inl ?_,rfl,N2,x2,hW2,hS2⟩;rw [vN (by simp only [stB,hjn])]
theorem QV:Maps.Keyed Try.prog 104:=Maps.Keyed.of_law (deep_law_gate (by kernel_rfl) (of_decide_eq_true (by kernel_rfl)) (of_decide_eq_true (by kernel_rfl)) (by kernel_rfl) (by kernel_rfl))
def gJ (x:Int):Prop:=-9223372036854775808≤x∧x≤9223372036854775807
theorem gJ.wf {x:Int} (h:gJ x):(Lit.int .i64 x).wf=true:=by
 simp [Lit.wf,IntKind.min,IntKind.max,IntKind.signed,IntKind.bits];exact ⟨h.1,by have:=h.2;omega⟩
theorem sU (d:Nat) {a:Int} (h:gJ a):Try.prog.keyLits (d+1) 3 [.int .i64 a]=some [.int .i64 a]:=by
 simp [Program.keyLits,Try.underlying3,h.wf]
theorem N7 (d:Nat) {a b:Int} (ha:gJ a) (hb:gJ b):Try.prog.keyLits (d+2) 50 [.int .i64 a,.int .i64 b]=some [.int .i64 a,.int .i64 b]:=by
 have hc:Try.prog.cellsOf 50=2:=by kernel_rfl
 have hi:Try.prog.cellsOf 3=1:=by kernel_rfl
 unfold Program.keyLits;rw [Try.underlying50];dsimp only;rw [if_pos ⟨by simp [hc],by kernel_rfl⟩];simp [hi,sU d ha,sU d hb]
theorem QX (d:Nat) {k a b:Int} (hk:gJ k) (ha:gJ a) (hb:gJ b):Try.prog.keyLits (d+3) 104 [.int .i64 k,.int .i64 a,.int .i64 b]=some [.int .i64 k,.int .i64 a,.int .i64 b]:=by
 have hc:Try.prog.cellsOf 104=3:=by kernel_rfl
 have hl:Try.prog.cellsOf 50=2:=by kernel_rfl
 have hi:Try.prog.cellsOf 3=1:=by kernel_rfl
 unfold Program.keyLits;rw [Try.underlying104];dsimp only;rw [if_pos ⟨by simp [hc],by kernel_rfl⟩];simp [hi,hl,sU (d+1) hk,N7 d ha hb]
def mW (k x y:Int):Value:=.agg #[.int .i64 k,.int .i64 x,.int .i64 y]
theorem vk {k x y k' x' y':Int}:mW k x y=mW k' x' y'↔k=k'∧x=x'∧y=y':=by unfold mW;simp
theorem Hq {k a b:Int} (hk:gJ k) (ha:gJ a) (hb:gJ b):(keyOf Try.prog 104 (.agg #[.int .i64 k,.int .i64 a,.int .i64 b])).isSome=true:=by
 obtain ⟨d,hd⟩:∃ d,Try.prog.types.size+1=d+3:=⟨Try.prog.types.size - 2,by have:2≤Try.prog.types.size:=of_decide_eq_true (by kernel_rfl);omega⟩
 have h1:Try.prog.keyType 104=true:=by kernel_rfl
 have hc:Try.prog.cellsOf 104=3:=by kernel_rfl
 unfold keyOf;rw [Try.underlying104];dsimp only;rw [if_pos (by simp [h1,Value.formed,Try.underlying104,hc]),hd];simp only [Value.cells];rw [QX d hk ha hb];rfl
theorem uW {es:List (Value×Nat×Hw)} {k:Value}:fA es k=none↔k ∉ es.map (·.1):=by
 induction es with
 | nil=>simp [fA]
 | cons e es ih =>
   obtain ⟨x,r⟩:=e;unfold fA
   by_cases h:x=k
   ·rw [if_pos h];simp [h]
   ·rw [if_neg h,ih,List.map_cons,List.mem_cons,not_or];exact ⟨fun q=>⟨fun e=>h e.symm,q⟩,fun q=>q.2⟩
theorem wH {es:List (Value×Nat×Hw)} {n:Nat} {k:Value} {v:Hw}:(nW es n k v).map (·.1)=match fA es k with | some _=>es.map (·.1) | none=>es.map (·.1) ++ [k]:=by
 induction es with
 | nil=>simp [nW,fA]
 | cons e es ih =>
   obtain ⟨x,r⟩:=e;unfold nW fA
   by_cases h:x=k
   ·rw [if_pos h,if_pos h];simp
   ·rw [if_neg h,if_neg h,List.map_cons,ih];cases fA es k <;> simp
def Dep.key (d:Dep) (i:Nat):Value:=mW (fB d i) (dX d i).1 (dX d i).2
theorem Dep.Fp {d:Dep} {k i:Nat}:d.key k=d.key i↔d.dup k i:=by
 unfold Dep.key Dep.dup;rw [vk];exact ⟨fun h=>⟨Prod.ext h.2.1 h.2.2,h.1⟩,fun h=>⟨h.2,by rw [h.1],by rw [h.1]⟩⟩
structure Dep.gJ (d:Dep):Prop where
 st:∀ p ∈ d.st,Proofs.Ytkafcpnahpfbfaa.gJ p.1∧Proofs.Ytkafcpnahpfbfaa.gJ p.2
 pr:∀ x ∈ d.pr,Proofs.Ytkafcpnahpfbfaa.gJ x
theorem zu {α:Type} {f:Nat→α} {a:Nat} {v u:α}:up (up f a v) a u=up f a u:=by
 funext b;unfold up;split <;> rfl
def MF:Hw:=.one (.d (.sc (.map none)))
def Ql (hp:Nat→Hb) (az:List Hw) (Post:(Nat→Hb)→List Hw→Prop):Prop:=∃ (N:Nat) (d:Dep),az=[kI d.pa]∧(nD hp N∧(d.st.length≤1000000∧d.pr.length≤1000000)∧d.gJ)∧Post=fun _ r=>(d.val→∃ b,r=[.one (.h (.m b))])∧(¬ d.val→r=[MF])
theorem Ry:dY Try.prog 41 Ql:=by
 refine sqw41 (show aA Try.prog (e1 55 LV e0) from aA.e1 R3 aA.e0) ?_;rintro hp az Post ⟨N,d,rfl,⟨hf,⟨l1,l2⟩,h64⟩,rfl⟩;refine ⟨by simp,fun _=>20,?_⟩;have m1:(d.st.map aW).length=d.st.length:=List.length_map ..;have m2:(d.pr.map fun x=>[dI x]).length=d.pr.length:=List.length_map ..;unfold pcw41
 with_reducible refine aQ ?_
 by_cases hlen:d.st.length=d.pr.length
 ·have b0:((d.st.length:Int) != (d.pr.length:Int))=false:=by rw [hlen];simp
  simp only [↓evP,evB,stB,reduceCtorEq,Nat.reduceEqDiff,Nat.reduceLT,kI,Dep.pa,Dep.row,m1,m2,b0];refine GY (d.st.length:Int) N (dU (by simp only [stB]) (by (repeat' (first | exact aH.init | assumption | (refine aH.ap ?_ rfl)))) (by simp only [stB,Nat.reduceLT];exact hf N (Nat.le_refl _))) (by simp only [stB,Nat.reduceEqDiff]) QV ?_
  simp only [↓evP,evB,stB,Nat.reduceEqDiff,Nat.reduceLT,m1];refine dA msw41_0 osw41_0 (fun m st=>∃ k es cl,m=d.st.length - k∧k≤d.st.length∧st.sl 23=aI k∧st.hb=up hp N (.map 104 es cl)∧(∀ x,x ∈ es.map (·.1)↔∃ i,i < k∧d.key i=x)∧∀ x,x < k→d.good x∧∀ y,y < x→¬ d.dup y x) d.st.length (by repeat' (first | exact aH.init | assumption | exact aN (by assumption) | (refine aH.ap ?_ rfl))) ?_ ?_
  ·exact ⟨0,[],0,rfl,Nat.zero_le _,by simp only [stB,Nat.reduceEqDiff];first | done | rfl,by simp only [stB,Nat.reduceLT];first | done | rfl,fun x=>by simp,fun x q=>absurd q (Nat.not_lt_zero _)⟩
  rintro m j hjn hja ⟨k,es,cl,rfl,hk,h23,hhb,hes,hal⟩;simp only [stB,Nat.reduceEqDiff,Nat.reduceBEq,hjn] at h23 hhb;have hmap:j.hb N=.map 104 es cl:=by rw [hhb];exact dK
  rcases Nat.lt_or_ge k d.st.length with hlt | hge
  ·have klt:(k:Int) < (d.st.length:Int):=by omega
   have k0:(0:Int)≤(k:Int):=by omega
   have gp:d.pr[k]? = some (fB d k):=by unfold fB;rw [List.getD_eq_getElem?_getD,List.getElem?_eq_getElem (by omega)];rfl
   have gs:d.st[k]? = some (dX d k):=by unfold dX;rw [List.getD_eq_getElem?_getD,List.getElem?_eq_getElem hlt];rfl
   have w3:IntKind.i64.wrap ((k:Int)+1)=((k+1:Nat):Int):=by rw [dP (by omega) (by omega)];omega
   have ip:=h64.pr _ (List.mem_of_getElem? gp);have is:=h64.st _ (List.mem_of_getElem? gs);have hkd:d.key k=.agg #[.int .i64 (fB d k),.int .i64 (dX d k).1,.int .i64 (dX d k).2]:=rfl;have hbad:¬ d.good k→¬ d.val:=fun h q=>h (q.2 k hlt).1
   have hgood:d.good k↔(-1≤fB d k∧fB d k < (k:Int))∧0≤(dX d k).1∧0≤(dX d k).2:=Iff.rfl;generalize fB d k=p at gp ip hkd hgood;generalize dX d k=s at gs is hkd hgood;obtain ⟨s1,s2⟩:=s;dsimp only at hkd hgood is;have hkey:=Hq ip is.1 is.2;simp only [↓evP,evB,stB,reduceCtorEq,Nat.reduceEqDiff,Nat.reduceAdd,Nat.reduceLeDiff,Nat.reduceLT,Nat.reduceBEq,h23,klt,k0,gp,gs,hkey,aW,decide_true];refine ⟨(by unfold Drw;refine Eq.trans (b:=true) ?_ rfl;kernel_rfl),?_⟩
   cases hlk:fA es (.agg #[.int .i64 p,.int .i64 s1,.int .i64 s2]) with
   | some r =>
     have hnv:¬ d.val:=fun q=>by
      have h1:d.key k ∈ es.map (·.1):=by
       rw [hkd];refine Classical.byContradiction fun h=>?_
       rw [uW.2 h] at hlk;cases hlk
      obtain ⟨i,hi,he⟩:=(hes _).1 h1;exact (q.2 k hlt).2 i hi (Dep.Fp.1 he)
     simp only [↓evP,evB,stB,reduceCtorEq,Nat.reduceEqDiff,Nat.reduceAdd,Nat.reduceLeDiff,Nat.reduceLT,Nat.reduceBEq,h23,hjn,hmap,hkey,hlk,prw41];refine ⟨_,[MF],rfl,fun b=>.inl rfl,fun h=>absurd h hnv,fun _=>rfl⟩
   | none =>
     have hfresh:∀ y,y < k→¬ d.dup y k:=fun y hy q=>by
      have h1:=uW.1 hlk;rw [←hkd] at h1;exact h1 ((hes _).2 ⟨y,hy,Dep.Fp.2 q⟩)
     by_cases c1:p < -1
     ·have hnv:=hbad fun h=>by have:=(hgood.1 h).1.1;omega
      simp only [↓evP,evB,stB,reduceCtorEq,Nat.reduceEqDiff,Nat.reduceAdd,Nat.reduceLeDiff,Nat.reduceLT,Nat.reduceBEq,h23,hjn,hmap,hkey,hlk,c1,decide_true,prw41];refine ⟨_,[MF],rfl,fun b=>.inl rfl,fun h=>absurd h hnv,fun _=>rfl⟩
     by_cases c2:p≥(k:Int)
     ·have hnv:=hbad fun h=>by have:=(hgood.1 h).1.2;omega
      simp only [↓evP,evB,stB,reduceCtorEq,Nat.reduceEqDiff,Nat.reduceAdd,Nat.reduceLeDiff,Nat.reduceLT,Nat.reduceBEq,h23,hjn,hmap,hkey,hlk,c1,c2,decide_true,decide_false,prw41];refine ⟨_,[MF],rfl,fun b=>.inl rfl,fun h=>absurd h hnv,fun _=>rfl⟩
     simp only [↓evP,evB,stB,reduceCtorEq,Nat.reduceEqDiff,Nat.reduceAdd,Nat.reduceLeDiff,Nat.reduceLT,Nat.reduceBEq,hjn,hmap,hlk,c1,c2,decide_false];refine aF [pB (decide (s1≥0) && decide (s2≥0))] (by exact ⟨(s1,s2),rfl,rfl⟩) ?_
     cases hpr:(decide (s1≥0) && decide (s2≥0)) with
     | false =>
       have hnv:=hbad fun h=>by
        have:=(hgood.1 h).2;rw [decide_eq_true this.1,decide_eq_true this.2] at hpr;cases hpr
       simp only [↓evP,evB,stB,reduceCtorEq,Nat.reduceEqDiff,Nat.reduceAdd,Nat.reduceLeDiff,Nat.reduceLT,Nat.reduceBEq,h23,hjn,hmap,hkey,hlk,prw41];refine ⟨_,[MF],rfl,fun b=>.inl rfl,fun h=>absurd h hnv,fun _=>rfl⟩
     | true =>
       rw [Bool.and_eq_true] at hpr;have hpr1:=of_decide_eq_true hpr.1;have hpr2:=of_decide_eq_true hpr.2;simp only [↓evP,evB,stB,reduceCtorEq,Nat.reduceEqDiff,Nat.reduceAdd,Nat.reduceLeDiff,Nat.reduceLT,Nat.reduceBEq,h23,hjn,hmap,hkey,hlk]
       refine ⟨_,by omega,(by repeat' (first | assumption | exact aP (by assumption) | (refine aJ ?_ rfl rfl) | (refine aD ?_ rfl) | (refine aJ ?_ rfl aK) | (refine aD ?_ aK))),k+1,_,_,rfl,hlt,by simp only [stB,Nat.reduceEqDiff,Nat.reduceBEq,h23,w3],by funext b;simp only [stB,Nat.reduceLT,hjn,hhb];exact congrFun zu b,fun x=>?_,fun x hx=>?_⟩
       ·rw [wH,hlk]
        show x ∈ es.map (·.1) ++ [_]↔_
        rw [List.mem_append,hes,List.mem_singleton,←hkd];refine ⟨fun h=>h.elim (fun ⟨i,hi,e⟩=>⟨i,by omega,e⟩) (fun e=>⟨k,by omega,e.symm⟩),fun ⟨i,hi,e⟩=>?_⟩
        rcases Nat.lt_or_ge i k with q | q
        ·exact .inl ⟨i,q,e⟩
        ·have:i=k:=by omega
         subst this;exact .inr e.symm
       ·rcases Nat.lt_or_ge x k with q | q
        ·exact hal x q
        ·have:x=k:=by omega
         subst this;exact ⟨hgood.2 ⟨⟨by omega,by omega⟩,hpr1,hpr2⟩,hfresh⟩
  ·have hke:k=d.st.length:=by omega
   subst hke;have klt:¬ (d.st.length:Int) < (d.st.length:Int):=by omega
   have hval:d.val:=⟨hlen,hal⟩;simp only [↓evP,evB,stB,reduceCtorEq,Nat.reduceEqDiff,Nat.reduceBEq,h23,klt,decide_false,prw41];refine ⟨_,[.one (.h (.m N))],rfl,fun b=>.inl rfl,fun _=>⟨N,rfl⟩,fun h=>absurd hval h⟩
 ·have b0:((d.st.length:Int) != (d.pr.length:Int))=true:=by rw [bne_iff_ne];omega
  simp only [↓evP,evB,stB,reduceCtorEq,Nat.reduceEqDiff,Nat.reduceLT,kI,Dep.pa,Dep.row,m1,m2,b0,prw41];exact ⟨_,[MF],rfl,fun b=>.inl rfl,fun h=>absurd h.1 hlen,fun _=>rfl⟩
end Go.Proofs.Ytkafcpnahpfbfaa
end
section
namespace Go.Proofs.Ytkafcpnahpfbfaa
open Go.RowKit Go.Maps
structure But (L:List Nat) (w w':World):Prop where
 os:w'.os=w.os
 tape:w'.tape=w.tape
 output:w'.output=w.output
 size:w.heap.size≤w'.heap.size
 block:∀ k,k < w.heap.size→k ∉ L→w'.heap[k]? = w.heap[k]?
theorem But.refl (L:List Nat) (w:World):But L w w:=⟨rfl,rfl,rfl,Nat.le_refl _,fun _ _ _=>rfl⟩
theorem But.trans {L:List Nat} {a b c:World} (h:But L a b) (k:But L b c):But L a c :=
 ⟨k.os.trans h.os,k.tape.trans h.tape,k.output.trans h.output,Nat.le_trans h.size k.size,fun i hi hn=>(k.block i (Nat.lt_of_lt_of_le hi h.size) hn).trans (h.block i hi hn)⟩
theorem But.mono {L L':List Nat} {a b:World} (h:But L a b) (hs:∀ x ∈ L,x ∈ L'∨a.heap.size≤x):But L' a b :=
 ⟨h.os,h.tape,h.output,h.size,fun i hi hn=>h.block i hi (fun hm=>by rcases hs i hm with h1 | h1;exact hn h1;omega)⟩
theorem But.drew {L:List Nat} {a b:World} (h:But L a b):But L a b.drew:=⟨h.os,h.tape,h.output,h.size,h.block⟩
theorem But.alloc {L:List Nat} {a b:World} (h:But L a b) (o:Obj):But L a (b.alloc o) :=
 h.trans ⟨rfl,rfl,rfl,by simp,fun k hk _=>Below.heap_alloc _ _ _ hk⟩
theorem But.below {L:List Nat} {a b c:World} (h:But L a b) (hb:Below b.heap.size b c):But L a c :=
 h.trans ⟨hb.os,hb.tape,hb.output,hb.size,fun k hk _=>hb.block k hk⟩
theorem But.grown {L:List Nat} {a b c:World} (h:But L a b) {g:Nat} (hg:b.grownBy c (some g)) (hL:g ∈ L∨a.heap.size≤g):But L a c :=
 ⟨hg.os.trans h.os,hg.tape.trans h.tape,hg.output.trans h.output,Nat.le_trans h.size hg.size,fun k hk hn =>
  (hg.block k (Nat.lt_of_lt_of_le hk h.size) (by rintro he;cases he;rcases hL with h1 | h1;exact hn h1;omega)).trans (h.block k hk hn)⟩
theorem But.cell {L:List Nat} {w w':World} (h:But L w w') {p:Addr} (hp:p.block < w.heap.size) (hL:p.block ∉ L):w'.cell? p=w.cell? p:=World.cell?_of_block (w:=w) (h.block p.block hp hL)
def MQ (v:Value):Option (DataW Value×List MemPlace):=some (.held v,[])
structure Pq (P:Program) (k:TypeId) {κ:Type} (kv:κ→Value) (ok:κ→Prop):Prop where
 keyed:Keyed P k
 reads:∀ x,ok x→∃ l,keyOf P k (kv x)=some l
 inj:∀ x y,kv x=kv y→x=y
def MapOf {κ:Type} (kv:κ→Value) (w:World) (P:Program) (k:TypeId) (b n:Nat) (f:κ→Option Value):Prop :=
 ∃ D,w.ownsMap P k MQ b n D∧∀ x l,keyOf P k (kv x)=some l→D.atKey l .nil=(match f x with | some v=>.held v | none=>.nil)
section
variable {κ:Type} [DecidableEq κ] {kv:κ→Value} {ok:κ→Prop}
variable {P:Program} {k e t:TypeId} {w w':World} {b n:Nat} {f:κ→Option Value}
omit [DecidableEq κ] in
theorem MapOf.made (w:World) (P:Program) (k:TypeId):MapOf kv (w.alloc (.map #[] 0)) P k w.heap.size 0 (fun _=>none) :=
 ⟨_,World.ownsMap_made w P k MQ,fun _ _ _=>rfl⟩
omit [DecidableEq κ] in
theorem MapOf.lt (h:MapOf kv w P k b n f):b < w.heap.size:=let ⟨_,h,_⟩:=h;h.lt
omit [DecidableEq κ] in
theorem MapOf.keep (h:MapOf kv w P k b n f) (hb:w'.heap[b]? = w.heap[b]?):MapOf kv w' P k b n f :=
 let ⟨D,⟨es,cl,h1,h2⟩,h3⟩:=h
 ⟨D,⟨es,cl,hb.trans h1,h2⟩,h3⟩
omit [DecidableEq κ] in
theorem MapOf.but {L:List Nat} (h:MapOf kv w P k b n f) (hb:But L w w') (hL:b ∉ L):MapOf kv w' P k b n f:=h.keep (hb.block b h.lt hL)
omit [DecidableEq κ] in
theorem MapOf.mono (h:MapOf kv w P k b n f) {n':Nat} (hn:n≤n'):MapOf kv w P k b n' f :=
 let ⟨D,h1,h3⟩:=h
 ⟨D,h1.mono hn,h3⟩
omit [DecidableEq κ] in
theorem MapOf.alloc (h:MapOf kv w P k b n f) (o:Obj):MapOf kv (w.alloc o) P k b n f:=h.keep (Below.heap_alloc _ _ _ h.lt)
omit [DecidableEq κ] in
theorem MapOf.congr (h:MapOf kv w P k b n f) {g:κ→Option Value} (hg:∀ x,f x=g x):MapOf kv w P k b n g:=by
 have:f=g:=funext hg
 rwa [this] at h
omit [DecidableEq κ] in
theorem MapOf.look (h:MapOf kv w P k b n f) (K:Pq P k kv ok) (ht:P.underlying t=some (.map k e)) {z:Value} (hz:∀ w,(zeroValue e).run P w=.ok z w) (x:κ) (hx:ok x) :
 (Instr.lookup t (.map (some b)) (kv x) false).run P w=.ok ((f x).getD z) w:=by
 obtain ⟨D,⟨es,clock,hb,F,_,rfl⟩,hf⟩:=h;obtain ⟨kl,hkey⟩:=K.reads x hx;have h3:=hf x kl hkey
 rcases Maps.fit_look false K.keyed ht (hz w) hb F hkey with ⟨hrun,_,hat⟩ | ⟨e0,y,_,_,hrun,hRv,hat,_⟩
 ·rw [hat] at h3
  cases hfk:f x with
  | none=>simpa using hrun
  | some v=>rw [hfk] at h3;cases h3
 ·rw [hat] at h3;simp only [MQ,Option.some.injEq] at hRv;subst hRv
  cases hfk:f x with
  | none=>rw [hfk] at h3;cases h3
  | some v=>rw [hfk] at h3;simp only [DataW.held.injEq] at h3;subst h3;simpa using hrun
theorem MapOf.put (h:MapOf kv w P k b n f) (K:Pq P k kv ok) (ht:P.underlying t=some (.map k e)) (hn:n < maxLen) (x:κ) (hx:ok x) (v:Value) :
 ∃ w',(Instr.mapUpdate t (.map (some b)) (kv x) v).run P w=.ok () w'∧MapOf kv w' P k b (n+1) (upd f x v)∧w.grownBy w' (some b):=by
 obtain ⟨D,hown,hf⟩:=h;obtain ⟨kl,hkey⟩:=K.reads x hx;obtain ⟨w',hrun,h1,h2⟩:=hown.update K.keyed ht hn hkey (val:=v) (d:=.held v) (ps:=[]) rfl;refine ⟨w',hrun,⟨_,h1,fun y l hy=>?_⟩,h2⟩;unfold upd
 by_cases hyx:y=x
 ·subst hyx;rw [hkey] at hy;cases hy;rw [if_pos rfl,atKey_put_same hown.isMap (K.keyed.key hkey)]
 ·rw [if_neg hyx]
  have hne:l≠kl:=by
   rintro rfl;exact hyx (K.inj _ _ (K.keyed.inj hy hkey))
  rw [atKey_put_other hne];exact hf y l hy
theorem Pq.int {P:Program} {k:TypeId} (hk:P.underlying k=some (.int .i64)):Pq P k (fun x:Int=>Value.int .i64 x) (fun x=>(Lit.int .i64 x).wf=true) :=
 ⟨int_keyed hk,fun x hx=>⟨_,keyOf_int_mk hk hx⟩,fun x y h=>by injection h⟩
end
end Go.Proofs.Ytkafcpnahpfbfaa
end
section
namespace Go.Proofs.Ytkafcpnahpfbfaa
open Go.RowKit
theorem qL {a b:Bool} (h:a=b):Ending.returned (.bool a)=.returned (.bool b):=by rw [h]
theorem pU (k:Int) (w:World):Calls Try.prog 44 #[.int .i64 k] w fun e w'=>e=.returned (.bool (nR k))∧w=w':=by
 go_enter Try.func44,Try.ntmps44
 go_wp2
 all_goals (go_ret;refine ⟨qL ?_,rfl⟩;simp [nR];omega)
theorem DU (k:Int) (w:World):Calls Try.prog 42 #[.int .i64 k] w fun e w'=>e=.returned (.bool (iL k))∧w=w':=by
 go_enter Try.func42,Try.ntmps42
 go_wp2
 all_goals (go_ret;refine ⟨qL ?_,rfl⟩;simp [iL];omega)
theorem zG (k:Int) (w:World):Calls Try.prog 43 #[.int .i64 k] w fun e w'=>e=.returned (.bool (II k))∧w=w':=by
 go_enter Try.func43,Try.ntmps43
 go_wp2_with ((go_at_call 44;refine (pU _ _).mono ?_;rintro e w' ⟨rfl,rfl⟩))
 all_goals (go_ret;refine ⟨qL ?_,rfl⟩;unfold nR at *;unfold II;simp only [decide_eq_true_eq] at *;rw [Bool.eq_iff_iff];simp;omega)
theorem Ua (x0 x1 x2 x3 x4 x5 x6:Value) :
 (∀ w,(Instr.index 82 (.agg #[x0,x1,x2,x3,x4,x5,x6]) (.int .i64 0)).run Try.prog w=.ok x0 w)∧(∀ w,(Instr.index 82 (.agg #[x0,x1,x2,x3,x4,x5,x6]) (.int .i64 1)).run Try.prog w=.ok x1 w) ∧
 (∀ w,(Instr.index 82 (.agg #[x0,x1,x2,x3,x4,x5,x6]) (.int .i64 2)).run Try.prog w=.ok x2 w)∧(∀ w,(Instr.index 82 (.agg #[x0,x1,x2,x3,x4,x5,x6]) (.int .i64 3)).run Try.prog w=.ok x3 w) ∧
 (∀ w,(Instr.index 82 (.agg #[x0,x1,x2,x3,x4,x5,x6]) (.int .i64 4)).run Try.prog w=.ok x4 w)∧(∀ w,(Instr.index 82 (.agg #[x0,x1,x2,x3,x4,x5,x6]) (.int .i64 5)).run Try.prog w=.ok x5 w) ∧
 (∀ w,(Instr.index 82 (.agg #[x0,x1,x2,x3,x4,x5,x6]) (.int .i64 6)).run Try.prog w=.ok x6 w) :=
 ⟨fun _=>by kernel_rfl,fun _=>by kernel_rfl,fun _=>by kernel_rfl,fun _=>by kernel_rfl,fun _=>by kernel_rfl,fun _=>by kernel_rfl,fun _=>by kernel_rfl⟩
set_option maxHeartbeats 4000000 in
set_option maxRecDepth 100000 in
theorem Di (e:Ev) (w:World):Calls Try.prog 24 #[e.val] w fun r w'=>r=.returned (.bool e.valid)∧Below w.heap.size w w':=by
 obtain ⟨g,kind,obj,off,k,n,fn,pc,stack⟩:=e;unfold Ev.val;obtain ⟨i0,i1,i2,i3,i4,i5,i6⟩:=Ua (.int .i64 obj) (.int .i64 off) (.int .i64 k) (.int .i64 n) (.int .i64 fn) (.int .i64 pc) (.int .i64 stack)
 go_enter Try.func24,Try.ntmps24
 go_wp2_with (first | (go_at_call 42;refine (DU _ _).mono ?_;rintro e w' ⟨rfl,rfl⟩))
 all_goals try (refine wp_loop_rounds 8 ?_)
 all_goals try (repeat any_goals (rw [rounds_succ];go_wp2_with (first | (go_at_call 44;refine (pU _ _).mono ?_;rintro e w' ⟨rfl,rfl⟩) | (go_at_call 43;refine (zG _ _).mono ?_;rintro e w' ⟨rfl,rfl⟩))))
 all_goals (go_ret;refine ⟨qL ?_,(Below.refl _ _).alloc (Nat.le_refl _) _⟩)
 all_goals (simp only [iL,II,nR,decide_eq_true_eq,beq_iff_eq,beq_eq_false_iff_ne,ne_eq,decide_eq_false_iff_not] at *)
 all_goals (unfold Ev.valid Ev.rest;rw [Bool.eq_iff_iff];simp only [iL,fF,Bool.and_eq_true,decide_eq_true_eq,Bool.ite_eq_true_distrib,Bool.false_eq_true,false_iff,true_iff,beq_iff_eq,Bool.or_eq_true])
 all_goals clear i0 i1 i2 i3 i4 i5 i6
 all_goals go_light
 all_goals first | omega | (split <;> omega) | (split <;> first | omega | (split <;> omega)) | (split <;> first | omega | (split <;> first | omega | (split <;> omega)))
end Go.Proofs.Ytkafcpnahpfbfaa
end
section
namespace Go.Proofs.Ytkafcpnahpfbfaa
open Go Go.RowKit
def World.cellsOf (w:World) (b:Nat):Nat:=match w.heap[b]? with
 | some (.cells arr _ _)=>arr.size
 | _=>0
theorem BX {w:World} (b i:Nat) (h:(w.cell? ⟨b,i,none⟩).isSome=true):i < World.cellsOf w b:=by
 unfold World.cellsOf;unfold World.cell? at h
 cases hb:w.heap[b]? with
 | none=>simp [hb] at h
 | some x =>
   cases x with
   | cells arr T fr=>simp only [hb] at h;simpa using h
   | _=>simp [hb] at h
theorem RPs.nth {S:Nat→Nat} {w:World} {ps:List Pa} {vs:Array Value} (h:RPs S w ps vs) {i:Nat} {p:Pa} (hp:ps[i]? = some p):∃ u,vs[i]? = some u∧RP S w p u:=by
 have hi:i < vs.size:=by rw [←h.1];exact (List.getElem?_eq_some_iff.1 hp).1
 exact ⟨vs[i],Array.getElem?_eq_getElem hi,h.2 i p _ hp (Array.getElem?_eq_getElem hi)⟩
theorem RPs.one {S:Nat→Nat} {w:World} {p:Pa} {vs:Array Value} (h:RPs S w [p] vs):∃ u,vs=#[u]∧RP S w p u:=by
 obtain ⟨u,h1,h2⟩:=h.nth (i:=0) rfl;refine ⟨u,?_,h2⟩;have h3:=h.1
 apply Array.ext_getElem?
 intro j
 match j with
 | 0=>simpa using h1
 | j+1=>rw [Array.getElem?_eq_none (by simp at h3;omega),Array.getElem?_eq_none (by simp)]
theorem RPs.two {S:Nat→Nat} {w:World} {p q:Pa} {vs:Array Value} (h:RPs S w [p,q] vs):∃ u v,vs=#[u,v]∧RP S w p u∧RP S w q v:=by
 obtain ⟨u,h1,h2⟩:=h.nth (i:=0) rfl;obtain ⟨v,h3,h4⟩:=h.nth (i:=1) rfl;refine ⟨u,v,?_,h2,h4⟩;have h5:=h.1
 apply Array.ext_getElem?
 intro j
 match j with
 | 0=>simpa using h1
 | 1=>simpa using h3
 | j+2=>rw [Array.getElem?_eq_none (by simp at h5;omega),Array.getElem?_eq_none (by simp)]
theorem RPs.nil {S:Nat→Nat} {w:World} {vs:Array Value} (h:RPs S w [] vs):vs=#[]:=by
 have h3:=h.1
 apply Array.ext_getElem?
 intro j;rw [Array.getElem?_eq_none (by simp at h3;omega),Array.getElem?_eq_none (by simp)]
theorem RPs.mk1 {S:Nat→Nat} {w:World} {p:Pa} {u:Value} (h:RP S w p u):RPs S w [p] #[u]:=⟨rfl,fun i q v h1 h2=>by
 match i with
 | 0=>cases h1;simp at h2;subst h2;exact h
 | i+1=>simp at h1⟩
theorem RPs.mk3 {S:Nat→Nat} {w:World} {p q r:Pa} {u v x:Value} (h:RP S w p u) (k:RP S w q v) (m:RP S w r x):RPs S w [p,q,r] #[u,v,x]:=⟨rfl,fun i o y h1 h2=>by
 match i with
 | 0=>cases h1;simp at h2;subst h2;exact h
 | 1=>cases h1;simp at h2;subst h2;exact k
 | 2=>cases h1;simp at h2;subst h2;exact m
 | i+3=>simp at h1⟩
theorem RP.int {S:Nat→Nat} {w:World} {n:Int} {u:Value} (h:RP S w (pI n) u):u=.int .i64 n:=(RD.fP h).1
theorem RP.Et {S:Nat→Nat} {w:World} (n:Bool):RP S w (pB n) (.bool n):=.sc _ rfl
theorem RP.bool {S:Nat→Nat} {w:World} {n:Bool} {u:Value} (h:RP S w (pB n) u):u=.bool n:=(RD.fP h).1
theorem RP.flat {S:Nat→Nat} {w:World} {vs:List Value} {u:Value} (h:RP S w (.agg (vs.map Dt.sc)) u):u=.agg vs.toArray:=by
 obtain ⟨arr,rfl,h2,h3⟩:=h
 congr 1
 apply Array.ext_getElem?
 intro j;simp only [List.getElem?_toArray];rw [List.length_map] at h2
 cases hj:vs[j]? with
 | none=>rw [Array.getElem?_eq_none];rw [List.getElem?_eq_none_iff] at hj;omega
 | some x =>
   have hlt:j < arr.size:=by have:=(List.getElem?_eq_some_iff.1 hj).1;omega
   rw [Array.getElem?_eq_getElem hlt,(RD.fP (h3 j (.sc x) arr[j] (by rw [List.getElem?_map,hj];rfl) (Array.getElem?_eq_getElem hlt))).1]
theorem RP.QZ {S:Nat→Nat} {w:World} {vs:List Value} (h:∀ u,u ∈ vs→u.oneCell'=true):RP S w (.agg (vs.map Dt.sc)) (.agg vs.toArray):=by
 refine ⟨_,rfl,by simp,fun i x u h1 h2=>?_⟩;rw [List.getElem?_map,Option.map_eq_some_iff] at h1;obtain ⟨y,hy,rfl⟩:=h1;simp [hy] at h2;subst h2;exact .sc _ (h y (List.mem_of_getElem? hy))
end Go.Proofs.Ytkafcpnahpfbfaa
end
section
namespace Go.Proofs.Ytkafcpnahpfbfaa
open Go Go.RowKit
set_option maxRecDepth 1000000
set_option maxHeartbeats 4000000
theorem CO {d:Dep} (hl:d.st.length≤1000000∧d.pr.length≤1000000) (h64:d.gJ) {S:Nat→Nat} {w:World} {vals:Array Value} (hv:RPs S w [d.pa] vals) :
 Calls Try.prog 41 vals w fun e w'=>∃ m,e=.returned (.map m)∧m.isSome=sZ d∧Below w.heap.size w w':=by
 have hW:RHp (W00 (fun _=>0) S) w (fun _=>.no):=⟨fun b=>⟨fun h=>h.elim,fun h=>h rfl⟩,fun b k hk=>hk.elim,fun _=>trivial,fun b b' k hk=>hk.elim⟩;have hno:∀ k,¬ dG (W00 (fun _=>0) S) (fun _=>.no) k:=fun k ⟨b,hb⟩=>hb
 have hbelow:∀ w',kL (dG (W00 (fun _=>0) S) (fun _=>.no)) w w'→Below w.heap.size w w':=fun w' hb=>⟨hb.os,hb.tape,hb.output,hb.size,fun k hk=>hb.block k hk (hno k)⟩
 refine Calls.mono (Ry _ _ _ ⟨0,d,rfl,⟨fun _ _=>rfl,hl,h64⟩,rfl⟩ (W00 (fun _=>0) S) w vals (fun _ _=>trivial) hW ⟨by simpa using hv.1,fun i x u e1 e2=>?_⟩) ?_
 ·cases i with
  | zero =>
    cases e1;exact kR.2 (hv.2 0 d.pa u rfl e2)
  | succ i=>simp at e1
 ·rintro e w' ⟨hp',rs',⟨h1,h2⟩,u,W',rfl,hrr,hrp,hkeep,hbut,hfp,hS⟩
  by_cases hd:d.val
  ·obtain ⟨b,rfl⟩:=h1 hd;rw [qB hd];have hu:u=.map (some (W'.nm b)):=hrr.1;exact ⟨_,by rw [hu],rfl,hbelow w' hbut⟩
  ·obtain rfl:=h2 hd;rw [ou hd];have hu:RD W'.S w' (.sc (.map none)) u:=hrr;cases hu;exact ⟨none,rfl,rfl,hbelow w' hbut⟩
theorem wK {S:Nat→Nat} {w w':World} (h:Below w.heap.size w w'):Ext S S w w':=fun b i h1 h2=>by
 refine ⟨h1,?_⟩
 have hb:b < w.heap.size:=by
  refine Classical.byContradiction fun q=>?_
  unfold World.cell? at h2;rw [Array.getElem?_eq_none (show w.heap.size≤b by omega)] at h2;simp at h2
 unfold World.cell?;rw [h.block b hb]
def LC (ps rs:List Pa):Prop:=∃ d:Dep,ps=[d.pa]∧((d.st.length≤1000000∧d.pr.length≤1000000)∧d.gJ)∧rs=[pB (sZ d)]
theorem Rz:Spec Try.prog 22 LC:=by
 rintro ps rs ⟨d,rfl,⟨hl,h64⟩,rfl⟩ S w vals _ hv;obtain ⟨u,rfl,h1⟩:=hv.one
 have hc:Calls Try.prog 22 #[u] w fun r w'=>r=.returned (.bool (sZ d))∧Below w.heap.size w w':=by
  have qT:∀ (w:World) (r:Option Nat),(binOp .neq 79 (.map r) (.map none)).run Try.prog w=.ok (.bool (!r.isNone)) w:=fun w r=>run_neq_map_nil w _ _ _ r Try.underlying79
  go_enter Try.func22,Try.ntmps22
  obtain ⟨arr,rfl,h2,h3⟩:=h1;have hsz:arr.size=2:=h2.symm
  obtain ⟨a,b,rfl⟩:∃ a b,arr=#[a,b]:=by
   refine ⟨arr[0]'(by rw [hsz];decide),arr[1]'(by rw [hsz];decide),?_⟩
   apply Array.ext
   ·exact hsz
   ·intro i g1 g2;have:i < 2:=by simpa using g2
    match i,this with
    | 0,_=>rfl
    | 1,_=>rfl
  have h4:=h3 0 _ a rfl rfl;have h5:=h3 1 _ b rfl rfl;have ho:∀ o,RP S (w.alloc o) d.pa (.agg #[a,b]):=fun o=>RP.ext (wK ((Below.refl w.heap.size w).alloc (Nat.le_refl _) o)) ⟨_,rfl,h2,h3⟩
  go_wp2_with ((go_at_call 41;refine (CO hl h64 (S:=S) (RPs.mk1 (ho _))).mono ?_;rintro e w' ⟨m,rfl,hm,hb⟩;cases m))
  all_goals go_wp2
  all_goals go_ret
  ·exact ⟨by rw [←hm];rfl,Below.trans ((Below.refl w.heap.size w).alloc (Nat.le_refl _) _) (hb.mono (by simp))⟩
  ·exact ⟨by rw [←hm];rfl,Below.trans ((Below.refl w.heap.size w).alloc (Nat.le_refl _) _) (hb.mono (by simp))⟩
 refine hc.mono ?_;rintro r w' ⟨rfl,h4⟩;exact ⟨_,S,rfl,RP.Et _,h4,fun _ _=>rfl⟩
def qp (ps rs:List Pa):Prop:=∃ e:Ev,ps=[e.pa]∧rs=[pB e.valid]
theorem xP:Spec Try.prog 24 qp:=by
 rintro ps rs ⟨e,rfl,rfl⟩ S w vals _ hv;obtain ⟨u,rfl,h1⟩:=hv.one;obtain rfl:u=e.val:=RP.flat (vs:=e.cells) h1;refine (Di e w).mono ?_;rintro r w' ⟨rfl,hb⟩;exact ⟨_,S,rfl,RP.Et _,hb,fun _ _=>rfl⟩
def uz (b off:Nat):Hw:=.agg [hP b off,hP b (off+1),hP b (off+2),hP b (off+3),hP b (off+4),hP b (off+5),hP b (off+6),hP b (off+7),hP b (off+8)]
def Ec (hp:Nat→Hb) (az:List Hw) (hp':Nat→Hb) (rs:List Hw):Prop:=∃ b off:Nat,az=[.one (hP b off)]∧hp'=hp∧rs=[uz b off]
theorem ML:fK Try.prog 48 Ec:=by
 refine spw48 aA.e0 ?_;rintro hp az hp' rs ⟨b,off,rfl,rfl,rfl⟩;refine ⟨by simp,fun _=>1,?_⟩;unfold pcw48
 with_reducible refine aQ ?_
 simp only [↓evP,evB,stB,reduceCtorEq,Nat.reduceEqDiff,Nat.reduceAdd,Nat.reduceLeDiff,Nat.reduceLT];refine ⟨(by unfold Drw;refine Eq.trans (b:=true) ?_ rfl;kernel_rfl),?_⟩
 simp only [stB,Nat.reduceEqDiff,Nat.reduceAdd,Nat.reduceLeDiff,Nat.reduceLT,prw48,uz]
 first | done | exact ⟨rfl,rfl⟩ | rfl
theorem L9 (e:Ev):e.row=e.fl.map dI:=rfl
theorem sO (e:Ev):e.fl.length=9:=rfl
theorem nine {α:Type} {f:Nat→α} {i:Nat} (h:i < 9):[f 0,f 1,f 2,f 3,f 4,f 5,f 6,f 7,f 8][i]? = some (f i):=by
 match i,h with
 | 0,_=>rfl
 | 1,_=>rfl
 | 2,_=>rfl
 | 3,_=>rfl
 | 4,_=>rfl
 | 5,_=>rfl
 | 6,_=>rfl
 | 7,_=>rfl
 | 8,_=>rfl
def PD (hp:Nat→Hb) (az:List Hw) (Post:(Nat→Hb)→List Hw→Prop):Prop:=∃ (bw N:Nat) (x:Option Nat) (l:Ev) (bs:List Nat) (e:Ev),az=[.one (hP bw 0),kI e.pa]∧(WAt hp bw N l bs x∧bs.length≤500000∧evG l∧evG e)∧Post=fun h r=>r=[]∧IE hp bw N x e (bs ++ pO l e) h
theorem TF:dY Try.prog 30 PD:=by
 refine sqw30 (show aA Try.prog (p1 29 yP (h1 48 Ec e0)) from aA.p1 Ez (aA.h1 ML aA.e0)) ?_;rintro hp az Post ⟨bw,N,x,l,bs,e,rfl,⟨hW,hbl,hlg,heg⟩,rfl⟩;refine ⟨by simp,fun _=>4,?_⟩;have hwlt:=hW.lt;have hxl:=jR hW.v;obtain ⟨H1,hH1⟩:∃ H1,up hp N (.cells (e.row.map .d))=H1:=⟨_,rfl⟩
 have h1N:H1 N=.cells (e.row.map .d):=by rw [←hH1];exact dK
 have hW1:WAt H1 bw (N+1) l bs x:=by
  rw [←hH1];refine ⟨by rw [bB (by omega)];exact hW.h,?_,hW.ne,by omega,fun b hb=>by rw [bB (by omega)];exact hW.fr b (by omega)⟩
  cases x with
  | none=>exact hW.v
  | some b=>exact ⟨by rw [bB (by have:=hxl b rfl;omega)];exact hW.v.1,by have:=hxl b rfl;omega⟩
 have hS1:nE hp bw N x H1 (N+1) x:=⟨by omega,fun _ q=>.inl q,fun b h1 _ _=>by rw [←hH1];exact bB (by omega)⟩
 unfold pcw30
 with_reducible refine aQ ?_
 simp only [↓evP,evB,stB,kI,Ev.pa,Ev.row];refine mY N (dU (by simp only [stB]) (by repeat' (first | exact aH.init | assumption | exact aN (by assumption) | (refine aH.ap ?_ rfl))) (by simp only [stB];exact hW.fr N (Nat.le_refl _))) (by simp only [stB];rfl) (by simp only [stB];rfl) ?_
 have hH1':up hp N (.cells [.d (dI e.g),.d (dI e.kind),.d (dI e.obj),.d (dI e.off),.d (dI e.k),.d (dI e.n),.d (dI e.fn),.d (dI e.pc),.d (dI e.stack)])=H1:=by rw [←hH1];rfl
 simp only [↓evP,evB,stB,reduceCtorEq,Nat.reduceEqDiff];refine bM H1 [uz bw 1] (by simp only [stB,hH1'];exact ⟨bw,1,rfl,rfl,rfl⟩) ?_
 simp only [↓evP,evB,stB,Nat.reduceEqDiff,Nat.reduceAdd,Nat.reduceLeDiff,Nat.reduceLT,uz];refine bM H1 [uz N 0] (by simp only [stB,Nat.reduceLT];exact ⟨N,0,rfl,rfl,rfl⟩) ?_
 simp only [↓evP,evB,stB,uz];obtain ⟨V,hV⟩:∃ V,List.zipWith (fun x y=>x - y) e.fl l.fl=V:=⟨_,rfl⟩
 have hVl:V.length=9:=by rw [←hV];simp [Ev.fl]
 have hevt:pO l e=V.flatMap dZ:=by unfold pO;rw [hV]
 have hq:∀ (xs:List Int),(xs.flatMap dZ).length≤9 * xs.length:=fun xs=>by
  induction xs with
  | nil=>exact Nat.le_refl _
  | cons x xs ih =>
    rw [List.flatMap_cons,List.length_append,List.length_cons];have:(dZ x).length≤9:=bO _;omega
 refine dA msw30_0 osw30_0 (fun m st=>∃ i N2 x2,m=9 - i∧i≤9∧st.sl 13=aI (i:Int)∧WAt st.hb bw N2 l (bs ++ (V.take i).flatMap dZ) x2∧nE H1 bw (N+1) x st.hb N2 x2) 9 (by repeat' (first | exact aH.init | assumption | exact aN (by assumption) | (refine aH.ap ?_ rfl))) ?_ ?_
 ·refine ⟨0,N+1,x,rfl,Nat.zero_le _,by simp only [stB,Nat.reduceEqDiff];first | done | rfl,?_,?_⟩
  ·simp only [stB];exact hW1
  ·simp only [stB];exact nE.refl _ _ _ _
 rintro m j hjn hja ⟨i,N2,x2,rfl,hi,h13,hW2,hS2⟩;simp only [stB,Nat.reduceEqDiff,Nat.reduceBEq,hjn] at h13 hW2 hS2;obtain ⟨H2,hH2⟩:∃ H2,j.hb=H2:=⟨_,rfl⟩
 rw [hH2] at hW2 hS2
 have h2N:H2 N=.cells (e.row.map .d):=by
  rw [hS2.out N (by omega) (by omega) (fun q=>by have:=hxl N q;omega)];exact h1N
 have h2w:=hW2.h
 rcases Nat.lt_or_ge i 9 with hi9 | hi9
 ·obtain ⟨u,hu⟩:∃ u,e.fl[i]? = some u:=⟨_,List.getElem?_eq_getElem (by rw [sO];omega)⟩
  obtain ⟨v,hv⟩:∃ v,l.fl[i]? = some v:=⟨_,List.getElem?_eq_getElem (by rw [sO];omega)⟩
  have hub:=heg u (List.mem_of_getElem? hu);have hvb:=hlg v (List.mem_of_getElem? hv);have gu:e.row[i]? = some (dI u):=by rw [L9,List.getElem?_map,hu];rfl
  have gv:l.row[i]? = some (dI v):=by rw [L9,List.getElem?_map,hv];rfl
  have g1:=nine (f:=fun k=>Cl.hv (.p N k)) hi9;have g2:=nine (f:=fun k=>Cl.hv (.p bw (k+1))) hi9;simp only [Nat.reduceAdd] at g2;have hVx:V[i]? = some (u - v):=by rw [←hV,List.getElem?_zipWith,hu,hv]
  have hVs:(V.take (i+1)).flatMap dZ=(V.take i).flatMap dZ ++ dZ (u - v):=by
   rw [take_at hVx,List.flatMap_append,List.flatMap_cons,List.flatMap_nil,List.append_nil]
  obtain ⟨B,hB⟩:∃ B,bs ++ (V.take i).flatMap dZ=B:=⟨_,rfl⟩
  have hBl:B.length≤600000:=by
   rw [←hB,List.length_append];have:=hq (V.take i);rw [List.length_take] at this;omega
  rw [hB] at hW2;have lt4:(i:Int) < 9:=by omega
  have i0:(0:Int)≤(i:Int):=by omega
  have hl9:((9:Nat):Int)=9:=rfl;have w5:IntKind.i64.wrap (u - v)=u - v:=dP (by omega) (by omega);have w6:IntKind.i64.wrap ((i:Int)+1)=((i+1:Nat):Int):=by rw [dP (by omega) (by omega)];omega
  have hfin:∀ h3 N3 x3,WAt h3 bw N3 l (B ++ dZ (u - v)) x3→WAt h3 bw N3 l (bs ++ (V.take (i+1)).flatMap dZ) x3:=fun h3 N3 x3 h=>by
   rw [hVs,←List.append_assoc,hB];exact h
  simp only [↓evP,evB,stB,reduceCtorEq,Nat.reduceEqDiff,Nat.reduceLT,Nat.reduceBEq,h13,hjn,hH2,h2N,h2w,lt4,i0,hl9,Nat.mul_one,g1,g2,gu,gv,w5,decide_true];refine ⟨(by unfold Drw;refine Eq.trans (b:=true) ?_ rfl;kernel_rfl),?_⟩
  by_cases hneg:u - v < 0
  ·have hdn:((jV (u - v):Nat):Int)=-2 * (u - v) - 1:=by unfold jV;rw [if_pos hneg];omega
   have w7:IntKind.i64.wrap (-2 * (u - v))=-2 * (u - v):=dP (by omega) (by omega);have w8:IntKind.i64.wrap (-2 * (u - v) - 1)=((jV (u - v):Nat):Int):=by rw [hdn];exact dP (by omega) (by omega)
   simp only [stB,hneg,w7,w8,decide_true];refine bH _ (by simp only [stB,hjn,hH2];exact ⟨bw,N2,x2,l,B,jV (u - v),rfl,⟨hW2,by omega,by omega⟩,rfl⟩) ?_
   rintro h3 r ⟨rfl,N3,x3,hW3,hS3⟩;simp only [↓evP,evB,stB,Nat.reduceEqDiff,Nat.reduceBEq,h13,w6]
   refine ⟨_,by omega,(by repeat' (first | assumption | exact aP (by assumption) | (refine aJ ?_ rfl rfl) | (refine aD ?_ rfl) | (refine aJ ?_ rfl aK) | (refine aD ?_ aK))),i+1,N3,x3,rfl,hi9,by simp only [stB,Nat.reduceEqDiff,Nat.reduceBEq],?_,?_⟩
   ·simp only [stB];exact hfin _ _ _ hW3
   ·simp only [stB];exact hS2.trans hS3
  ·have hdn:((jV (u - v):Nat):Int)=2 * (u - v):=by unfold jV;rw [if_neg hneg];omega
   have w7:IntKind.i64.wrap (2 * (u - v))=((jV (u - v):Nat):Int):=by rw [hdn];exact dP (by omega) (by omega)
   simp only [stB,hneg,w7,decide_false];refine bH _ (by simp only [stB,hjn,hH2];exact ⟨bw,N2,x2,l,B,jV (u - v),rfl,⟨hW2,by omega,by omega⟩,rfl⟩) ?_
   rintro h3 r ⟨rfl,N3,x3,hW3,hS3⟩;simp only [↓evP,evB,stB,Nat.reduceEqDiff,Nat.reduceBEq,h13,w6]
   refine ⟨_,by omega,(by repeat' (first | assumption | exact aP (by assumption) | (refine aJ ?_ rfl rfl) | (refine aD ?_ rfl) | (refine aJ ?_ rfl aK) | (refine aD ?_ aK))),i+1,N3,x3,rfl,hi9,by simp only [stB,Nat.reduceEqDiff,Nat.reduceBEq],?_,?_⟩
   ·simp only [stB];exact hfin _ _ _ hW3
   ·simp only [stB];exact hS2.trans hS3
 ·have hie:i=9:=by omega
  subst hie;have hVt:V.take 9=V:=List.take_of_length_le (by omega);rw [hVt,←hevt] at hW2;have lt4:((9:Int) < 9)=False:=by simp
  have hl9:((9:Nat):Int)=9:=rfl;have h2w:=hW2.h;simp only [Ev.row,List.map_cons,List.map_nil] at h2N h2w;have hcx:=MV x2;simp only [↓evP,evB,stB,reduceCtorEq,Nat.reduceEqDiff,Nat.reduceAdd,Nat.reduceLeDiff,Nat.reduceSub,Nat.reduceBEq,h13,hjn,hH2,h2N,h2w,lt4,hl9,decide_false];refine ⟨up H2 bw (.cells (vC x2 :: e.row.map .d)),[],rfl,fun b=>.inl ?_,rfl,N2,x2,⟨dK,?_,hW2.ne,hW2.lt,fun b hb=>by rw [bB (by have:=hW2.lt;omega)];exact hW2.fr b hb⟩,?_⟩
  ·rw [ay];first | done | rfl
  ·have:=hW2.v
   cases x2 with
   | none=>exact this
   | some b=>exact ⟨by rw [bB (fun q=>hW2.ne (by rw [q]))];exact this.1,this.2⟩
  ·exact hS1.trans (hS2.trans ⟨Nat.le_refl _,fun b q=>.inl q,fun b _ q _=>bB q⟩)
theorem PG {m:Nat} (hm:m≤4294967295):IntKind.u32.wrap (((BitVec.ofInt IntKind.u32.bits (m:Int) &&& BitVec.ofInt IntKind.u32.bits 1).toNat:Nat):Int)=((m % 2:Nat):Int):=by
 have e:(BitVec.ofInt IntKind.u32.bits (m:Int) &&& BitVec.ofInt IntKind.u32.bits 1).toNat=m % 2:=by
  have h1:(BitVec.ofInt IntKind.u32.bits (1:Int)).toNat=1:=by decide
  rw [BitVec.toNat_and,h1,Nat.and_one_is_mod,BitVec.toNat_ofInt]
  have:((m:Int) % ((2 ^ IntKind.u32.bits:Nat):Int)).toNat=m:=by
   rw [show ((2 ^ IntKind.u32.bits:Nat):Int)=4294967296 from by decide];omega
  rw [this]
 rw [e];exact w32 (by omega)
theorem fd1 (n:Nat):Int.fdiv (n:Int) (2 ^ (min (Int.toNat 1) IntKind.u32.bits))=((n / 2:Nat):Int):=by
 show Int.fdiv (n:Int) 2=_
 rw [Int.fdiv_eq_ediv_of_nonneg _ (by decide)];omega
theorem Jc (l:List Nat):(byR l).flatten=l.map fun (x:Nat)=>Dt.sc (.int .u8 (x:Int)):=by
 induction l with
 | nil=>rfl
 | cons x l ih=>show _ :: (byR l).flatten=_;rw [ih];rfl
theorem F5 {l:List Nat} {i x:Nat} (h:l[i]? = some x):(byR l).flatten[i]? = some (.sc (.int .u8 (x:Int))):=by
 rw [Jc,List.getElem?_map,h];rfl
abbrev hU (n:Nat):Hc:=.d (.sc (.int .u32 (n:Int)))
def Qk (ps rs:List Pa):Prop:=∃ l:List Nat,ps=[dL l]∧(l.length≤1000000∧∀ x ∈ l,x≤255)∧rs=[.one (.sc (.int .u32 (crc l:Int)))]
def Qj (hp:Nat→Hb) (az:List Hw) (hp':Nat→Hb) (rs:List Hw):Prop:=∃ (b o cap:Nat) (B l:List Nat),az=[.one (.h (.s b o l.length cap))]∧(hp b=.vec 5 1 (byR B)∧l=B.drop o∧l.length≤1000000∧∀ x ∈ l,x≤255)∧hp'=hp∧rs=[.one (hU (crc l))]
theorem Rx:Spec Try.prog 56 Qk:=by
 refine sp56 aA.e0 ?_;rintro ps rs ⟨l,rfl,⟨hl,hb⟩,rfl⟩;refine ⟨by simp,?_⟩;unfold pc56
 with_reducible refine aQ ?_
 have hbl:=aV l;simp only [↓evP,evB,stB,reduceCtorEq,Nat.reduceEqDiff,dL,hbl];refine bS ms56_0 os56_0 (fun m st=>∃ k:Nat,m=l.length - k∧k≤l.length∧st.sl 9=aI k∧st.sl 3=aU (kN 4294967295 (l.take k))) l.length ?_ ?_
 ·exact ⟨0,rfl,Nat.zero_le _,by simp only [stB,Nat.reduceEqDiff];first | done | rfl,by simp only [stB,Nat.reduceEqDiff];first | done | rfl⟩
 rintro m z ⟨k,rfl,hk,h4,h3⟩;simp only [stB,Nat.reduceEqDiff,Nat.reduceBEq] at h4 h3;have hc0:kN 4294967295 (l.take k)≤4294967295:=qO (by decide) fun x hx=>hb x (List.mem_of_mem_take hx)
 rcases Nat.lt_or_ge k l.length with hlt | hge
 ·obtain ⟨x,hx⟩:∃ x,l[k]? = some x:=⟨_,List.getElem?_eq_getElem hlt⟩
  have hx8:=hb x (List.mem_of_getElem? hx);have hgx:=EP hx;have klt:(k:Int) < (l.length:Int):=by omega
  have k0:(0:Int)≤(k:Int):=by omega
  have wx:IntKind.u32.wrap (x:Int)=(x:Int):=w32 (by omega);have wc:=x32 hc0 (show x≤4294967295 by omega)
  have hsu:kN 4294967295 (l.take (k+1))=oq (kN 4294967295 (l.take k) ^^^ x) 8:=by
   rw [List.take_add_one,hx,mU];rfl
  have hc1:=lI hc0 (show x≤4294967295 by omega);generalize kN 4294967295 (l.take k)=c at *;simp only [↓evP,evB,stB,reduceCtorEq,Nat.reduceEqDiff,Nat.reduceBEq,h4,h3,klt,k0,hgx,wx,wc,decide_true];obtain ⟨d,hd⟩:∃ d,c ^^^ x=d:=⟨_,rfl⟩
  rw [hd] at hsu hc1;rw [hd];refine bS ms56_1 os56_1 (fun m st=>∃ i:Nat,m=8 - i∧i≤8∧st.sl 17=aI i∧st.sl 3=aU (oq d i)) 8 ?_ ?_
  ·exact ⟨0,rfl,Nat.zero_le _,by simp only [stB,Nat.reduceEqDiff,Nat.reduceBEq];first | done | rfl,by simp only [stB,Nat.reduceEqDiff,Nat.reduceBEq];first | done | rfl⟩
  rintro m2 z2 ⟨i,rfl,hi,h5,h3'⟩;simp only [stB,Nat.reduceEqDiff,Nat.reduceBEq] at h5 h3'
  rcases Nat.lt_or_ge i 8 with hi8 | hi8
  ·have hcb:=iI hc1 i;have hcs:oq d (i+1)=wO (oq d i):=rfl;generalize oq d i=b' at *;have ilt:(i:Int) < 8:=by omega
   have t1:=PG hcb;have t3:=fd1 b';have n1:¬ ((1:Int) < 0):=by decide
   have t4:=x32 (m:=b' / 2) (n:=3988292384) (by omega) (by decide);unfold wO at hcs
   by_cases hb1:b' % 2=1
   ·have e1:(((b' % 2:Nat):Int) == 1)=true:=by rw [hb1];rfl
    rw [if_pos hb1] at hcs;simp only [↓evP,evB,stB,reduceCtorEq,Nat.reduceEqDiff,Nat.reduceBEq,h4,h3,h5,h3',ilt,n1,t1,t3,e1,decide_true];rw [show (3988292384:Int)=((3988292384:Nat):Int) from rfl,t4]
    exact ⟨_,by omega,(by repeat' (first | assumption | exact bg.mpr trivial | exact Within.refl _ _ _ | (refine bC ?_ rfl rfl) | (refine aY ?_ rfl))),i+1,rfl,hi8,by simp only [stB,Nat.reduceEqDiff,Nat.reduceBEq,h5];rw [wrN (by omega)],by simp only [stB,Nat.reduceEqDiff,Nat.reduceBEq];rw [hcs]⟩
   ·have e1:(((b' % 2:Nat):Int) == 1)=false:=by
     rw [beq_eq_false_iff_ne];omega
    rw [if_neg hb1] at hcs;simp only [↓evP,evB,stB,reduceCtorEq,Nat.reduceEqDiff,Nat.reduceBEq,h4,h3,h5,h3',ilt,n1,t1,t3,e1,decide_true]
    exact ⟨_,by omega,(by repeat' (first | assumption | exact bg.mpr trivial | exact Within.refl _ _ _ | (refine bC ?_ rfl rfl) | (refine aY ?_ rfl))),i+1,rfl,hi8,by simp only [stB,Nat.reduceEqDiff,Nat.reduceBEq,h5];rw [wrN (by omega)],by simp only [stB,Nat.reduceEqDiff,Nat.reduceBEq];rw [hcs]⟩
  ·have hie:i=8:=by omega
   subst hie;have ilt:¬ ((8:Nat):Int) < 8:=by omega
   simp only [↓evP,evB,stB,reduceCtorEq,Nat.reduceEqDiff,Nat.reduceSub,Nat.reduceBEq,h4,h3,h5,h3',ilt,decide_false]
   exact ⟨_,by omega,(by repeat' (first | assumption | exact bg.mpr trivial | exact Within.refl _ _ _ | (refine bC ?_ rfl rfl) | (refine aY ?_ rfl) | (refine iU ?_ rfl rfl))),k+1,rfl,hlt,by simp only [stB,Nat.reduceEqDiff,Nat.reduceBEq,h4];rw [wrN (by omega)],by simp only [stB,Nat.reduceEqDiff,Nat.reduceBEq,h3'];rw [hsu]⟩
 ·have hke:k=l.length:=by omega
  have klt:¬ (k:Int) < (l.length:Int):=by omega
  rw [hke,List.take_length] at h3 hc0;have wc:=x32 (m:=4294967295) (by decide) hc0;have hcr:4294967295 ^^^ kN 4294967295 l=crc l:=Nat.xor_comm _ _;rw [hcr] at wc;have hmx:(IntKind.u32.max:Int)=((4294967295:Nat):Int):=rfl;have hsg:IntKind.u32.signed=false:=rfl;simp only [↓evP,evB,stB,reduceCtorEq,Nat.reduceEqDiff,Nat.reduceBEq,h4,h3,klt,hsg,hmx,wc,pr56,Bool.false_eq_true,decide_false]
  first | done | rfl
theorem Rw:fK Try.prog 56 Qj:=by
 refine spw56 aA.e0 ?_;rintro hp az hp' rs ⟨b,o,cap,B,l,rfl,⟨hB,hlB,hl,hb⟩,rfl,rfl⟩;refine ⟨by simp,fun _=>1,?_⟩;unfold pcw56
 with_reducible refine aQ ?_
 have hbl:=aV l;simp only [↓evP,evB,stB,reduceCtorEq,Nat.reduceEqDiff];refine dA msw56_0 osw56_0 (fun m st=>∃ k:Nat,m=l.length - k∧k≤l.length∧st.sl 9=aI k∧st.sl 3=aU (kN 4294967295 (l.take k))∧st.hb=hp') l.length (by repeat' (first | exact aH.init | assumption | exact aN (by assumption) | (refine aH.ap ?_ rfl))) ?_ ?_
 ·exact ⟨0,rfl,Nat.zero_le _,by simp only [stB,Nat.reduceEqDiff];first | done | rfl,by simp only [stB,Nat.reduceEqDiff];first | done | rfl,by simp only [stB];first | done | rfl⟩
 rintro m z hjn hja ⟨k,rfl,hk,h4,h3,hh⟩;simp only [stB,Nat.reduceEqDiff,Nat.reduceBEq,hjn] at h4 h3 hh;have hc0:kN 4294967295 (l.take k)≤4294967295:=qO (by decide) fun x hx=>hb x (List.mem_of_mem_take hx)
 rcases Nat.lt_or_ge k l.length with hlt | hge
 ·obtain ⟨x,hx⟩:∃ x,l[k]? = some x:=⟨_,List.getElem?_eq_getElem hlt⟩
  have hx8:=hb x (List.mem_of_getElem? hx);have hgx:=F5 (show B[o+k]? = some x by rw [hlB,List.getElem?_drop] at hx;exact hx)
  have klt:(k:Int) < (l.length:Int):=by omega
  have k0:(0:Int)≤(k:Int):=by omega
  have wx:IntKind.u32.wrap (x:Int)=(x:Int):=w32 (by omega);have wc:=x32 hc0 (show x≤4294967295 by omega)
  have hsu:kN 4294967295 (l.take (k+1))=oq (kN 4294967295 (l.take k) ^^^ x) 8:=by
   rw [List.take_add_one,hx,mU];rfl
  have hc1:=lI hc0 (show x≤4294967295 by omega);generalize kN 4294967295 (l.take k)=c at *;simp only [↓evP,evB,stB,reduceCtorEq,Nat.reduceEqDiff,Nat.reduceBEq,h4,h3,hjn,hh,hB,klt,k0,hgx,wx,wc,Nat.mul_one,decide_true];obtain ⟨d,hd⟩:∃ d,c ^^^ x=d:=⟨_,rfl⟩
  rw [hd] at hsu hc1;rw [hd];refine dA msw56_1 osw56_1 (fun m st=>∃ i:Nat,m=8 - i∧i≤8∧st.sl 17=aI i∧st.sl 3=aU (oq d i)∧st.hb=hp') 8 (by repeat' (first | exact aH.init | assumption | exact aN (by assumption) | (refine aH.ap ?_ rfl))) ?_ ?_
  ·exact ⟨0,rfl,Nat.zero_le _,by simp only [stB,Nat.reduceEqDiff,Nat.reduceBEq];first | done | rfl,by simp only [stB,Nat.reduceEqDiff,Nat.reduceBEq];first | done | rfl,by simp only [stB,hjn,hh];first | done | rfl⟩
  rintro m2 z2 hjn2 hja2 ⟨i,rfl,hi,h5,h3',hh2⟩;simp only [stB,Nat.reduceEqDiff,Nat.reduceBEq,hjn2] at h5 h3' hh2
  rcases Nat.lt_or_ge i 8 with hi8 | hi8
  ·have hcb:=iI hc1 i;have hcs:oq d (i+1)=wO (oq d i):=rfl;generalize oq d i=b' at *;have ilt:(i:Int) < 8:=by omega
   have t1:=PG hcb;have t3:=fd1 b';have n1:¬ ((1:Int) < 0):=by decide
   have t4:=x32 (m:=b' / 2) (n:=3988292384) (by omega) (by decide);unfold wO at hcs
   by_cases hb1:b' % 2=1
   ·have e1:(((b' % 2:Nat):Int) == 1)=true:=by rw [hb1];rfl
    rw [if_pos hb1] at hcs;simp only [↓evP,evB,stB,reduceCtorEq,Nat.reduceEqDiff,Nat.reduceBEq,h4,h3,h5,h3',hjn2,hh2,ilt,n1,t1,t3,e1,decide_true];rw [show (3988292384:Int)=((3988292384:Nat):Int) from rfl,t4]
    exact ⟨_,by omega,(by repeat' (first | assumption | exact aP (by assumption) | (refine aJ ?_ rfl rfl) | (refine aD ?_ rfl) | (refine aJ ?_ rfl aK) | (refine aD ?_ aK))),i+1,rfl,hi8,by simp only [stB,Nat.reduceEqDiff,Nat.reduceBEq,h5];rw [wrN (by omega)],by simp only [stB,Nat.reduceEqDiff,Nat.reduceBEq];rw [hcs],by simp only [stB,hjn2,hh2];first | done | rfl⟩
   ·have e1:(((b' % 2:Nat):Int) == 1)=false:=by
     rw [beq_eq_false_iff_ne];omega
    rw [if_neg hb1] at hcs;simp only [↓evP,evB,stB,reduceCtorEq,Nat.reduceEqDiff,Nat.reduceBEq,h4,h3,h5,h3',hjn2,hh2,ilt,n1,t1,t3,e1,decide_true]
    exact ⟨_,by omega,(by repeat' (first | assumption | exact aP (by assumption) | (refine aJ ?_ rfl rfl) | (refine aD ?_ rfl) | (refine aJ ?_ rfl aK) | (refine aD ?_ aK))),i+1,rfl,hi8,by simp only [stB,Nat.reduceEqDiff,Nat.reduceBEq,h5];rw [wrN (by omega)],by simp only [stB,Nat.reduceEqDiff,Nat.reduceBEq];rw [hcs],by simp only [stB,hjn2,hh2];first | done | rfl⟩
  ·have hie:i=8:=by omega
   subst hie;have ilt:¬ ((8:Nat):Int) < 8:=by omega
   simp only [↓evP,evB,stB,reduceCtorEq,Nat.reduceEqDiff,Nat.reduceSub,Nat.reduceBEq,h4,h3,h5,h3',hjn2,hh2,ilt,decide_false]
   exact ⟨_,by omega,(by repeat' (first | assumption | exact aP (by assumption) | (refine aJ ?_ rfl rfl) | (refine aD ?_ rfl) | (refine aJ ?_ rfl aK) | (refine aD ?_ aK) | (refine bV.in' ?_ (aP (by assumption)) rfl rfl))),k+1,rfl,hlt,by simp only [stB,Nat.reduceEqDiff,Nat.reduceBEq,h4];rw [wrN (by omega)],by simp only [stB,Nat.reduceEqDiff,Nat.reduceBEq,h3'];rw [hsu],by simp only [stB,hjn2,hh2];first | done | rfl⟩
 ·have hke:k=l.length:=by omega
  have klt:¬ (k:Int) < (l.length:Int):=by omega
  rw [hke,List.take_length] at h3 hc0;have wc:=x32 (m:=4294967295) (by decide) hc0;have hcr:4294967295 ^^^ kN 4294967295 l=crc l:=Nat.xor_comm _ _;rw [hcr] at wc;have hmx:(IntKind.u32.max:Int)=((4294967295:Nat):Int):=rfl;have hsg:IntKind.u32.signed=false:=rfl;simp only [↓evP,evB,stB,reduceCtorEq,Nat.reduceEqDiff,Nat.reduceBEq,h4,h3,hjn,hh,klt,hsg,hmx,wc,prw56,Bool.false_eq_true,decide_false]
  first | done | exact ⟨rfl,rfl⟩ | rfl
theorem Spec.toH [I:bT] {P:Program} {f:Nat} {R:List Pa→List Pa→Prop} (h:Spec P f R):fK P f (fun hp az hp' rs=>∃ ps rs',az=ps.map kI∧R ps rs'∧hp'=hp∧rs=rs'.map kI):=by
 rintro hp az hp' rs ⟨ps,rs',rfl,hR,rfl,rfl⟩ W w vals hI hrp hvals;have hw:I.p w:=hI w ⟨rfl,rfl,rfl,Nat.le_refl _,fun _ _ _=>rfl⟩;refine Calls.mono (h ps rs' hR W.S w vals hw (IX.1 hvals)) ?_;rintro e w' ⟨v,S',rfl,hrr,hb,hS⟩;have hext:Ext W.S S' w w':=lZ (fp:=fun _=>False) ⟨hb.os,hb.tape,hb.output,hb.size,fun k hk _=>hb.block k hk⟩ (fun _ q=>q.elim) hS
 have hfol:Fol W G0 O0 w { W with S:=S' } G0 O0 w':=⟨hext,fun _=>Nat.le_refl _,fun _ _=>rfl,fun o E sz k _ ho=>⟨k,ho,Nat.le_refl _,fun _=>rfl⟩,fun _ _=>rfl,fun _ h=>⟨h,rfl,rfl⟩,rfl⟩
 refine ⟨v,{ W with S:=S' },rfl,TP.2 hrr,⟨hrp.lv,fun b k hk=>?_,fun b=>?_,hrp.ex⟩,fun b hl=>⟨hl,rfl,rfl⟩,⟨hb.os,hb.tape,hb.output,hb.size,fun k hk _=>hb.block k hk⟩,fun k hk=>.inl hk,hS⟩
 ·obtain ⟨q1,q2⟩:=hrp.mine b k hk;exact ⟨(hS k q2).trans q1,Nat.lt_of_lt_of_le q2 hb.size⟩
 ·exact RH.fol hfol (hrp.at_ b) (fun hn=>(hrp.lv b).2 hn) rfl (fun k hk=>hb.block k (hrp.mine b k hk).2)
theorem fK.or [I:bT] {P:Program} {f:Nat} {R R':(Nat→Hb)→List Hw→(Nat→Hb)→List Hw→Prop} (h:fK P f R) (h':fK P f R'):fK P f (fun hp az hp' rs=>R hp az hp' rs∨R' hp az hp' rs) :=
 fun hp az hp' rs hr=>hr.elim (h hp az hp' rs) (h' hp az hp' rs)
def Px (hp:Nat→Hb) (l:List Nat) (c:Hc):Prop:=(∃ (b o cap:Nat) (B:List Nat),c=.h (.s b o l.length cap)∧hp b=.vec 5 1 (byR B)∧l=B.drop o)∨c=.d (.im (byR l))
def Lu (hp:Nat→Hb) (az:List Hw) (hp':Nat→Hb) (rs:List Hw):Prop:=∃ (c:Hc) (l:List Nat),az=[.one c]∧(Px hp l c∧l.length≤1000000∧∀ x ∈ l,x≤255)∧hp'=hp∧rs=[.one (hU (crc l))]
theorem Ru:fK Try.prog 56 Lu:=by
 rintro hp az hp' rs ⟨c,l,rfl,⟨hc,hl,hb⟩,rfl,rfl⟩
 rcases hc with ⟨b,o,cap,B,rfl,h1,h2⟩ | rfl
 ·exact Rw _ _ _ _ ⟨b,o,cap,B,l,rfl,⟨h1,h2,hl,hb⟩,rfl,rfl⟩
 ·exact (Spec.toH Rx) _ _ _ _ ⟨[dL l],_,rfl,⟨l,rfl,⟨hl,hb⟩,rfl⟩,rfl,rfl⟩
def vS (hp:Nat→Hb) (az:List Hw) (hp':Nat→Hb) (rs:List Hw):Prop:=∃ (x:Option Nat) (N:Nat) (bs l:List Nat) (c:Hc),az=[bHw x,.one c]∧(qw hp N bs x∧nD hp N∧bs.length≤990000∧Px hp l c∧l.length≤1000000∧∀ x ∈ l,x≤255)∧hp'=jK hp x N 1 (bs ++ fG l)∧rs=[bHw (some N)]
theorem Px.hc {hp:Nat→Hb} {l:List Nat} {c:Hc} (h:Px hp l c):c.cl.hc=some c:=by
 rcases h with ⟨b,o,cap,B,rfl,_⟩ | rfl <;> rfl
theorem MK:fK Try.prog 46 vS:=by
 refine spw46 (show aA Try.prog (h1 56 Lu e0) from aA.h1 Ru aA.e0) ?_;rintro hp az hp' rs ⟨x,N,bs,l,c,rfl,⟨hv,hN,hbl,hc,hl,hb⟩,rfl,rfl⟩;refine ⟨by simp,fun _=>22,?_⟩;have hcc:=hc.hc;have n1:¬ ((24:Int) < 0):=by decide
 have n2:¬ ((16:Int) < 0):=by decide
 have n3:¬ ((8:Int) < 0):=by decide
 unfold pcw46
 with_reducible refine aQ ?_
 simp only [↓evP,evB,stB,Nat.reduceEqDiff,bHw,hcc];refine bM hp [.one (hU (crc l))] (by simp only [stB,Nat.reduceLT];exact ⟨c,l,rfl,⟨hc,hl,hb⟩,rfl,rfl⟩) ?_
 simp only [↓evP,evB,stB,reduceCtorEq,Nat.reduceEqDiff,Nat.reduceAdd,Nat.reduceLeDiff,n1,n2,n3,TM,TK,fd8,w8m];refine IY (hp:=hp) (x:=x) (N:=N) (j:=0) (bs:=bs) (news:=fG l) (c:=22) (by simp only [stB,Nat.reduceEqDiff];rfl) (by simp only [stB,Nat.reduceLT];rfl) (fun _=>hv) (jR hv) hN (by simp only [stB]) (fun b _=>by simp only [stB]) (fun _ _=>rfl) (jQ (by simp only [stB,Nat.reduceEqDiff];rfl)) (by show bs.length+4≤_;omega) (by repeat' (first | exact aH.init | assumption | exact aN (by assumption) | (refine aH.ap ?_ rfl))) (fun L hL=>?_)
 simp only [↓evP,evB,stB,reduceCtorEq,Nat.reduceEqDiff,prw46];exact ⟨rfl,hL⟩
theorem TG {env:Env} {KD:St→Ft→Prop} {acc:Ft} {rd:List Rg} {is:List PI} {s:St} {d:Nat} {c c0:Nat} {X Y:PX} {hp:Nat→Hb} {x:Option Nat} {N j:Nat} {bs news:List Nat}
 (hX:s.cl X=(vC (oN x N j)).cl) (hb:s.hb=jK hp x N j bs) (hx:j=0→qw hp N bs x) (hxl:∀ b,x=some b→b < N) (hf:nD hp N) (hn1:s.nc (N+j)=c) (hn2:∀ b,oN x N j=some b→s.nc b=c) (hc:x=none→j=0→c0=c) (hY:s.jr Y=some (byR news)) (hl:bs.length+news.length≤1000000) (ha:aH s)
 (k:∀ l:List (Nat×Hb),(s.ap (some d) (.b (.one (.hv (.v (N+j))))) (.hw (HBS+c) l)).hb=jK hp x N (j+1) (bs ++ news)→dw env is (s.ap (some d) (.b (.one (.hv (.v (N+j))))) (.hw (HBS+c) l)) ((rd,[(HBS+c,0,big)]) :: acc) KD):Mc env KD is s (some d) acc c0 rd (.app 5 1 1 X Y):=by
 have hna:=dR news;have hnl:=aV news;have hbl:=aV bs;have hfree:s.hb (N+j)=.no:=by rw [hb];exact jE hxl hf _ (Nat.le_refl _)
 rcases PS hX with ⟨h1,h2⟩ | ⟨b,h1,h2⟩
 ·-- a nil slice
  have hj:j=0:=by
   cases j with
   | zero=>rfl
   | succ j=>cases h1
  subst hj;have hx0:x=none:=h1;subst hx0;have hbs:bs=[]:=hx rfl;subst hbs;refine DK (N+0) (dU (by rw [hn1,hc rfl rfl]) ha hfree) h2 hY ⟨by rw [hna];trivial,by rw [hnl];simpa using hl,by omega⟩ ?_
  rw [hc rfl rfl];refine k _ ?_;rw [mH (by rintro p hp;rw [List.mem_singleton.1 hp];exact hn1)]
  funext m
  rw [yN,hb]
  show _=(if m=N+0 then Hb.vec 5 1 (byR ([] ++ news)) else if (none:Option Nat)=some m∨(N≤m∧m < N+0) then Hb.dead else hp m)
  rw [List.nil_append]
  by_cases hm:m=N+0
  ·rw [if_pos hm,if_pos hm]
  ·rw [if_neg hm,if_neg hm,if_neg (by rintro (h | h);cases h;omega)];rfl
 ·have hvec:s.hb b=.vec 5 1 (byR bs):=by
   rw [hb]
   cases j with
   | zero =>
     have hxb:x=some b:=h1;have:=hx rfl;rw [hxb] at this;exact this.1
   | succ j =>
     have:N+j=b:=by simpa [oN] using h1
     rw [←this];exact iG
  refine nK (N+j) (dU (by rw [hn1,hn2 b h1]) ha hfree) h2 hvec hY ⟨by rw [hna];trivial,by rw [hbl,hnl];exact hl,by omega⟩ ?_
  rw [hn2 b h1];refine k _ ?_
  rw [mH (by rintro p hp;rcases List.mem_cons.1 hp with rfl | hp;exact hn2 b h1;rw [List.mem_singleton.1 hp];exact hn1)]
  funext m
  rw [FW,hb,gZ]
  show _=(if m=N+j then Hb.vec 5 1 (byR (bs ++ news)) else if x=some m∨(N≤m∧m < N+j) then Hb.dead else hp m)
  by_cases hm:m=N+j
  ·rw [if_pos hm,if_pos hm]
  ·rw [if_neg hm,if_neg hm]
   cases j with
   | zero =>
     have hxb:x=some b:=h1
     by_cases hmb:m=b
     ·rw [if_pos hmb,if_pos (.inl (by rw [hxb,hmb]))]
     ·rw [if_neg hmb,if_neg (by rintro (h | h);rw [hxb] at h;exact hmb (by cases h;rfl);omega)];rfl
   | succ j =>
     have hbb:N+j=b:=by simpa [oN] using h1
     by_cases hmb:m=b
     ·rw [if_pos hmb,if_pos (.inr (by omega))]
     ·rw [if_neg hmb]
      show (if m=N+j then _ else _)=_
      rw [if_neg (by omega)]
      by_cases hq:x=some m∨(N≤m∧m < N+j)
      ·rw [if_pos hq,if_pos (by rcases hq with h | h;exact .inl h;exact .inr (by omega))]
      ·rw [if_neg hq,if_neg (by rintro (h | h);exact hq (.inl h);exact hq (.inr (by omega)))]
def oQ (hp:Nat→Hb) (bw bf N:Nat) (l:Ev) (F C:List Nat) (kind:Nat):Nat→Hb :=
 up (jK hp (some bf) N ((bn C.length).length+3) (F ++ bK kind C)) bw (.cells (vC none :: l.row.map .d))
def pJ (N:Nat) (C:List Nat):Nat:=N+((bn C.length).length+2)
def LX (hp:Nat→Hb) (az:List Hw) (hp':Nat→Hb) (rs:List Hw):Prop:=∃ (bw bf N:Nat) (x:Option Nat) (l:Ev) (F C:List Nat) (kind:Nat),az=[.one (hP bw 0),.one (.h (.v bf)),.one (.d (.sc (.int .u8 (kind:Int))))] ∧
 (WAt hp bw N l C x∧(hp bf=.vec 5 1 (byR F)∧bf < N∧bf≠bw∧x≠some bf)∧F.length≤400000∧C.length≤400000∧kind≤255∧∀ y ∈ C,y≤255)∧hp'=oQ hp bw bf N l F C kind∧rs=[.one (.h (.v (pJ N C)))]
def dh:PC→PC
 | .seq _ b=>b
 | c=>c
theorem O7 {hp:Nat→Hb} {y:Option Nat} {M j b:Nat} {bs:List Nat} {c:Hb} (hb:b < M) (hy:y≠some b):jK (up hp b c) y M j bs=up (jK hp y M j bs) b c:=by
 cases j with
 | zero=>rfl
 | succ j =>
   funext m
   show (if m=M+j then Hb.vec 5 1 (byR bs) else if y=some m∨(M≤m∧m < M+j) then Hb.dead else up hp b c m)=up (jK hp y M (j+1) bs) b c m
   by_cases hm:m=b
   ·subst hm;rw [dK,dK,if_neg (by omega),if_neg (by rintro (q | q);exact hy q;omega)]
   ·rw [bB hm,bB hm];rfl
theorem KQ {s:St} {Y:PX} {x:Option Nat} {N:Nat} {C:List Nat} (h:s.cl Y=(vC x).cl) (hv:qw s.hb N C x):s.jr Y=some (byR C):=by
 cases x with
 | none =>
   have:C=[]:=hv;subst this;exact jQ (by rw [h];rfl)
 | some b=>exact OQ h hv.1
noncomputable def qR:Env:=h1 45 BL (h1 46 vS e0)
theorem Ja {hp:Nat→Hb} {bw bf N:Nat} {x:Option Nat} {l:Ev} {F C:List Nat} {kind:Nat} (hW:WAt hp bw N l C x) (hf:hp bf=.vec 5 1 (byR F)) (hfl:bf < N) (hfw:bf≠bw) (hfx:x≠some bf) (hFl:F.length≤400000) (hCl:C.length≤400000) (hk:kind≤255) (hCb:∀ y ∈ C,y≤255)
 {Q:Exit→St→Prop} (st:St) (s0:st.sl 0=.b (.one (.hv (.p bw 0)))) (s1:st.sl 1=.b (.one (.hv (.v (N+(bn C.length).length))))) (s7:st.sl 7=aI (F.length:Int)) (sh:st.hb=jK hp (some bf) N ((bn C.length).length+1) (F ++ [kind] ++ bn C.length))
 (sn:st.nc=fun b=>if b=bf∨N≤b then 2 else 1) (sa:aH st) (hQ:∀ s':St,s'.sl 6=.b (.one (.hv (.v (pJ N C))))→s'.hb=oQ hp bw bf N l F C kind→Q .ret s') :
 pwp qR (dh (dh (dh pcw25))) (exS qR [] Q) st:=by
 have hwl:=hW.lt;have h0:=hW.h;have hxl:=jR hW.v;obtain ⟨k,hkn⟩:∃ k,(bn C.length).length=k:=⟨_,rfl⟩
 have hkp:0 < k:=by rw [←hkn];exact jk _
 have hkl:k≤9:=by rw [←hkn];exact bO _
 rw [hkn] at s1 sh;have hbf:∀ b,(some bf:Option Nat)=some b→b < N:=fun b q=>by cases q;exact hfl
 have hne:(some bf:Option Nat)≠some bw:=fun q=>hfw (by cases q;rfl)
 obtain ⟨H2,hH2⟩:∃ H2,jK hp (some bf) N (k+1) (F ++ [kind] ++ bn C.length)=H2:=⟨_,rfl⟩
 rw [hH2] at sh;have h2w:H2 bw=.cells (vC x :: l.row.map .d):=by rw [←hH2,jo hwl hne];exact h0
 have h2x:qw H2 N C x:=by
  have:=hW.v
  cases x with
  | none=>exact this
  | some b=>exact ⟨by rw [←hH2,jo this.2 (fun q=>hfx (by cases q;rfl))];exact this.1,this.2⟩
 have n1:N+k=bf∨N≤N+k:=.inr (by omega);have n2:N+(k+1)=bf∨N≤N+(k+1):=.inr (by omega);have lF:(F ++ [kind] ++ bn C.length).length=F.length+1+k:=by rw [List.length_append,List.length_append,hkn];rfl
 show pwp qR (dh (dh (dh pcw25))) _ _
 unfold pcw25;simp only [dh];simp only [↓evP,evB,stB,reduceCtorEq,Nat.reduceEqDiff,s0,s1,sh,h2w]
 refine IY (hp:=hp) (x:=some bf) (N:=N) (j:=k+1) (bs:=F ++ [kind] ++ bn C.length) (news:=C) (c:=2) (by simp only [stB,Nat.reduceEqDiff];rfl) (by simp only [stB,sh,hH2]) (fun q=>by omega) hbf hW.fr (by simp only [stB,sn,n2]) (fun b q=>by
  have:N+k=b:=by simpa [oN] using q
  subst this;simp only [stB,sn,n1]) (fun q=>by cases q) (KQ (x:=x) (N:=N) (by simp only [stB,Nat.reduceEqDiff]) (by simp only [stB,sh];exact h2x)) (by rw [lF];omega) (by repeat' (first | exact aH.init | assumption | exact aN (by assumption) | (refine aH.ap ?_ rfl))) (fun L hL=>?_)
 have hG:F ++ [kind] ++ bn C.length ++ C=F ++ aX kind C:=by
  unfold aX;simp only [List.append_assoc,List.cons_append,List.nil_append]
 rw [hG] at hL;obtain ⟨H3,hH3⟩:∃ H3,jK hp (some bf) N (k+1+1) (F ++ aX kind C)=H3:=⟨_,rfl⟩
 rw [hH3] at hL;have h3w:H3 bw=.cells (vC x :: l.row.map .d):=by rw [←hH3,jo hwl hne];exact h0
 have hbl:(aX kind C).length=1+k+C.length:=by
  unfold aX;rw [List.length_cons,List.length_append,hkn];omega
 have hlen:(F ++ aX kind C).length=F.length+(1+k+C.length):=by rw [List.length_append,hbl]
 have hrl:=aV (F ++ aX kind C);have hw':IntKind.i64.wrap 0=0:=rfl;obtain ⟨H4,hH4⟩:∃ H4,up H3 bw (.cells (vC none :: l.row.map .d))=H4:=⟨_,rfl⟩
 have h4c:H4 (N+(k+1))=.vec 5 1 (byR (F ++ aX kind C)):=by
  rw [←hH4,bB (by omega),←hH3];exact iG
 have h4f:nD H4 (N+(k+2)):=by
  intro b hb;rw [←hH4,bB (by omega),←hH3];exact jE hbf hW.fr b (by omega)
 simp only [↓evP,evB,stB,reduceCtorEq,Nat.reduceEqDiff,Nat.reduceLeDiff,s0,s1,s7,hL,h3w,iq]
 refine GZ (a:=N+(k+1)) (E:=5) (rows:=byR (F ++ aX kind C)) F.length (by simp only [stB,Nat.reduceEqDiff]) (by
  simp only [stB,hL];rw [if_neg (by omega),←hH3];exact iG) (by simp only [stB,Nat.reduceEqDiff]) (by rw [hrl,hlen];omega) (fun cap hc1 hc2=>?_)
 have hvl:(byR (F ++ aX kind C)).length - F.length=(aX kind C).length:=by rw [hrl,hlen,hbl];omega
 rw [hvl];have hfun:up H3 bw (Hb.cells (.d (.sc (.slice none 0 0)) :: l.row.map .d))=H4:=hH4;simp only [evB,stB,Nat.reduceEqDiff,Nat.mul_one];have hbb:∀ y ∈ aX kind C,y≤255:=jS hk hCb (by omega)
 have hsum:F ++ aX kind C ++ fG (aX kind C)=F ++ bK kind C:=by unfold bK;rw [List.append_assoc]
 have hfin:jK H4 (some (N+(k+1))) (N+(k+2)) 1 (F ++ bK kind C)=oQ hp bw bf N l F C kind:=by
  rw [←hH4,O7 (by omega) (fun q=>absurd (Option.some.inj q) (by omega)),←hH3];have:=xW (hp:=hp) (x:=some bf) (N:=N) (j:=k+2) (k:=1) (b1:=F ++ aX kind C) (b2:=F ++ bK kind C) (by omega) (by omega);rw [show oN (some bf) N (k+2)=some (N+(k+1)) from rfl] at this;rw [this];unfold oQ;rw [hkn]
 refine bM (oQ hp bw bf N l F C kind) [bHw (some (N+(k+2)))] (by
  simp only [stB,hL];rw [hfun];exact ⟨some (N+(k+1)),N+(k+2),F ++ aX kind C,aX kind C,_,rfl,⟨⟨h4c,by omega⟩,h4f,by rw [hlen];omega,.inl ⟨N+(k+1),F.length,cap,_,rfl,h4c,by rw [List.drop_left]⟩,by rw [hbl];omega,hbb⟩,by rw [hsum];exact hfin.symm,rfl⟩) ?_
 simp only [↓evP,evB,stB,Nat.reduceEqDiff,bHw];refine hQ _ ?_ ?_
 ·simp only [stB,Nat.reduceEqDiff];unfold pJ;rw [hkn];rfl
 ·simp only [stB]
theorem R5:fK Try.prog 25 LX:=by
 refine spw25 (show aA Try.prog (h1 45 BL (h1 46 vS e0)) from aA.h1 Qe (aA.h1 MK aA.e0)) ?_;rintro hp az hp' rs ⟨bw,bf,N,x,l,F,C,kind,rfl,⟨hW,⟨hf,hfl,hfw,hfx⟩,hFl,hCl,hk,hCb⟩,rfl,rfl⟩;refine ⟨by simp,fun b=>if b=bf∨N≤b then 2 else 1,?_⟩;have hwl:=hW.lt;have h0:=hW.h;have hxl:=jR hW.v;have cF:=aV F;have nw:¬ (bw=bf∨N≤bw):=by omega
 have nf:bf=bf∨N≤bf:=.inl rfl;have nN:N=bf∨N≤N:=.inr (Nat.le_refl _);obtain ⟨k,hkn⟩:∃ k,(bn C.length).length=k:=⟨_,rfl⟩
 have hkp:0 < k:=by rw [←hkn];exact jk _
 have hkl:k≤9:=by rw [←hkn];exact bO _
 have g1:F.length+1≤1000000:=by omega
 unfold pcw25
 with_reducible refine aQ ?_
 simp only [↓evP,evB,stB,Nat.reduceEqDiff,Nat.reduceLeDiff,Nat.reduceLT,hf,cF];refine TG (hp:=hp) (x:=some bf) (N:=N) (j:=0) (bs:=F) (news:=[kind]) (c:=2) (by simp only [stB,Nat.reduceEqDiff];rfl) (by simp only [stB,Nat.reduceLT];rfl) (fun _=>⟨hf,hfl⟩) (fun b q=>by cases q;exact hfl) hW.fr (by simp only [stB,nN]) (fun b q=>by cases q;simp only [stB]) (fun q=>by cases q) (jQ (by simp only [stB,Nat.reduceEqDiff];rfl)) (by show F.length+1≤_;omega) (by repeat' (first | exact aH.init | assumption | exact aN (by assumption) | (refine aH.ap ?_ rfl))) (fun L hL=>?_)
 obtain ⟨H1,hH1⟩:∃ H1,jK hp (some bf) N (0+1) (F ++ [kind])=H1:=⟨_,rfl⟩
 rw [hH1] at hL;simp only [Nat.add_zero] at hL;have hne:(some bf:Option Nat)≠some bw:=fun q=>hfw (by cases q;rfl)
 have h1w:H1 bw=.cells (vC x :: l.row.map .d):=by rw [←hH1,jo hwl hne];exact h0
 have h1N:H1 N=.vec 5 1 (byR (F ++ [kind])):=by rw [←hH1];exact iG (j:=0)
 have h1f:nD H1 (N+1):=by rw [←hH1];exact jE (fun b q=>by cases q;exact hfl) hW.fr
 have h1x:qw H1 N C x:=by
  have:=hW.v
  cases x with
  | none=>exact this
  | some b=>exact ⟨by rw [←hH1,jo this.2 (fun q=>hfx (by cases q;rfl))];exact this.1,this.2⟩
 have fin:∀ (st:St),st.sl 0=.b (.one (.hv (.p bw 0)))→st.sl 1=.b (.one (.hv (.v (N+(bn C.length).length))))→st.sl 7=aI (F.length:Int)→st.hb=jK hp (some bf) N ((bn C.length).length+1) (F ++ [kind] ++ bn C.length)→(st.nc=fun b=>if b=bf∨N≤b then 2 else 1)→aH st →
  pwp qR (dh (dh (dh pcw25))) (exS qR [] (fun e s=>(e=.normal∨e=.ret)∧s.gP prw25=some [.one (.h (.v (pJ N C)))]∧s.hb=oQ hp bw bf N l F C kind)) st:=fun st a1 a2 a3 a4 a5 a6 =>
  Ja hW hf hfl hfw hfx hFl hCl hk hCb st a1 a2 a3 a4 a5 a6 (fun s' b1 b2=>⟨.inr rfl,by simp only [stB,prw25,b1],b2⟩)
 have hap:BL H1 [bHw (some N),.one (hI (C.length:Nat))] (jK hp (some bf) N ((bn C.length).length+1) (F ++ [kind] ++ bn C.length)) [bHw (some (N+(bn C.length).length))]:=by
  refine ⟨some N,C.length,N+1,F ++ [kind],rfl,⟨⟨h1N,by omega⟩,h1f,by omega,by rw [List.length_append];show F.length+1≤_;omega⟩,?_,?_⟩
  ·have:=xW (hp:=hp) (x:=some bf) (N:=N) (j:=0+1) (k:=(bn C.length).length) (b1:=F ++ [kind]) (b2:=F ++ [kind] ++ bn C.length) (by omega) (jk _);rw [hH1] at this;rw [show (bn C.length).length+1=0+1+(bn C.length).length from by omega];exact this.symm
  ·rw [Ll (jk _)];have:=jk C.length
   congr 3
   omega
 generalize hK:exS _ _ _ Exit.normal=KK
 cases x with
 | none =>
   have hC0:C=[]:=h1x;have e0:(C.length:Int)=0:=by rw [hC0];rfl
   rw [e0] at hap;simp only [vC] at h1w;simp only [evB,stB,reduceCtorEq,Nat.reduceEqDiff,hL,h1w];refine lJ (jK hp (some bf) N ((bn C.length).length+1) (F ++ [kind] ++ bn C.length)) [bHw (some (N+(bn C.length).length))] (by simp only [stB,hL];exact hap) ?_
   simp only [evB,stB,Nat.reduceEqDiff,bHw,vC];refine ⟨?_,?_⟩
   ·simp only [nw,if_false];exact (by unfold Drw;refine Eq.trans (b:=true) ?_ rfl;kernel_rfl)
   ·rw [←hK,Dk];refine fin _ ?_ ?_ ?_ ?_ ?_ ?_
    ·simp only [stB,reduceCtorEq]
    ·simp only [stB,Nat.reduceEqDiff]
    ·simp only [stB,Nat.reduceEqDiff]
    ·simp only [stB]
    ·simp only [stB]
    ·exact (by repeat' (first | exact aH.init | assumption | exact aN (by assumption) | (refine aH.ap ?_ rfl)))
 | some b =>
   have hbN:¬ (b=bf∨N≤b):=by
    have:=h1x.2;rintro (q | q)
    ·exact hfx (by rw [q])
    ·omega
   have hvb:=h1x.1;have cC:=aV C;simp only [vC] at h1w;simp only [evB,stB,reduceCtorEq,Nat.reduceEqDiff,hL,h1w,hvb,cC];refine lJ (jK hp (some bf) N ((bn C.length).length+1) (F ++ [kind] ++ bn C.length)) [bHw (some (N+(bn C.length).length))] (by simp only [stB,hL];exact hap) ?_
   simp only [evB,stB,Nat.reduceEqDiff,bHw,vC];refine ⟨?_,?_⟩
   ·simp only [nw,hbN,if_false];exact (by unfold Drw;refine Eq.trans (b:=true) ?_ rfl;kernel_rfl)
   ·rw [←hK,Dk];refine fin _ ?_ ?_ ?_ ?_ ?_ ?_
    ·simp only [stB,reduceCtorEq]
    ·simp only [stB,Nat.reduceEqDiff]
    ·simp only [stB,Nat.reduceEqDiff]
    ·simp only [stB]
    ·simp only [stB]
    ·exact (by repeat' (first | exact aH.init | assumption | exact aN (by assumption) | (refine aH.ap ?_ rfl)))
end Go.Proofs.Ytkafcpnahpfbfaa
end
