/- Chapter 31: Encode of the program on data; awake, large; the first law. -/
import Derived.Test.YtkafcpnahpfbfaaMs6
set_option linter.unusedSimpArgs false
set_option linter.unusedVariables false
section
namespace Go.Proofs.Ytkafcpnahpfbfaa
open Go Go.RowKit
set_option maxRecDepth 1000000
set_option maxHeartbeats 4000000
def LD (ps rs:List Pa):Prop:=∃ (es:List Ev) (d:Dep),ps=[iA es d]∧(es.length≤80∧(d.st.length≤1000∧d.pr.length≤1000)∧d.gJ)∧rs=y7 es d
theorem RF:Spec Try.prog 12 LD:=rH RG (by
 rintro az rs ⟨es,d,rfl,⟨h1,h2,h3⟩,rfl⟩;refine ⟨_,⟨es,d,rfl,⟨fun _=>rfl,h1,h2,h3⟩,rfl⟩,?_⟩;rintro hp' rs' ⟨hy,hn⟩
 by_cases hS:dQ es d
 ·obtain ⟨b,rfl,hb⟩:=hy hS;rw [kV hS];simp only [List.map_cons,List.map_nil,Hw.pa,Hc.pa,hb,Option.map_some,dL]
 ·rw [hn hS,uZ hS];rfl)
def lgB (es:List Ev) (d:Dep):Bool:=decide (80 < es.length) || decide (60 < d.st.length) || decide (60 < d.pr.length)
def TJ (ps rs:List Pa):Prop:=∃ (es:List Ev) (d:Dep),ps=[iA es d]∧rs=[pB (lgB es d)]
theorem Ud:Spec Try.prog 11 TJ:=by
 refine sp11 aA.e0 ?_;rintro ps rs ⟨es,d,rfl,rfl⟩;refine ⟨by simp,?_⟩;have m1:(d.st.map aW).length=d.st.length:=List.length_map ..;have m2:(es.map Ev.row).length=es.length:=List.length_map ..;have m3:(d.pr.map fun x=>[dI x]).length=d.pr.length:=List.length_map ..;unfold pc11
 with_reducible refine aQ ?_
 by_cases c1:80 < es.length
 ·have i1:((es.length:Int) > 80):=by omega
  have hl:lgB es d=true:=by unfold lgB;simp [c1]
  rw [hl];simp only [↓evP,evB,stB,reduceCtorEq,Nat.reduceEqDiff,iA,cK,Pa.bv,m2,i1,decide_true,pr11]
 have i1:¬ ((es.length:Int) > 80):=by omega
 by_cases c2:60 < d.st.length
 ·have i2:((d.st.length:Int) > 60):=by omega
  have hl:lgB es d=true:=by unfold lgB;simp [c2]
  rw [hl];simp only [↓evP,evB,stB,reduceCtorEq,Nat.reduceEqDiff,iA,cK,Pa.bv,m1,m2,i1,i2,decide_true,decide_false,pr11]
 have i2:¬ ((d.st.length:Int) > 60):=by omega
 by_cases c3:60 < d.pr.length
 ·have i3:((d.pr.length:Int) > 60):=by omega
  have hl:lgB es d=true:=by unfold lgB;simp [c3]
  rw [hl];simp only [↓evP,evB,stB,reduceCtorEq,Nat.reduceEqDiff,Nat.reduceAdd,iA,cK,Pa.bv,m1,m2,m3,i1,i2,i3,decide_true,decide_false,pr11]
 have i3:¬ ((d.pr.length:Int) > 60):=by omega
 have hl:lgB es d=false:=by unfold lgB;simp [c1,c2,c3]
 rw [hl];simp only [↓evP,evB,stB,reduceCtorEq,Nat.reduceEqDiff,Nat.reduceAdd,iA,cK,Pa.bv,m1,m2,m3,i1,i2,i3,decide_false,pr11]
theorem lK:∀ l:List Nat,dV (byR l)=some (l.map fun x:Nat=>(x:Int))
 | []=>rfl
 | x :: l=>by
   show (dV (byR l)).map _=_
   rw [lK l];rfl
def aw0:List Nat:=cu [] ⟨[],[]⟩
def wJ:List Ev:=[⟨0,1,0,0,0,0,0,0,0⟩]
def rP:Dep:=⟨[(0,0)],[-1]⟩
theorem SE:dQ [] ⟨[],[]⟩:=⟨⟨rfl,fun i h=>absurd h (Nat.not_lt_zero _)⟩,fun s hs=>(by cases hs),fun e he=>(by cases he)⟩
theorem SG:dQ wJ rP:=by
 refine ⟨⟨rfl,fun i h=>?_⟩,fun s hs=>?_,fun e he=>?_⟩
 ·have:i=0:=by have:rP.st.length=1:=rfl;omega
  subst this;refine ⟨?_,fun k h=>absurd h (Nat.not_lt_zero _)⟩;unfold Dep.good;decide
 ·simp only [rP,List.mem_cons,List.not_mem_nil,or_false] at hs;subst hs;decide
 ·simp only [wJ,List.mem_cons,List.not_mem_nil,or_false] at he;subst he;decide
theorem SF:aw0.length=16∧aw0.take 12=[73,84,82,65,67,69,49,10,69,2,0,0]:=by
 constructor <;> kernel_rfl
theorem SH:24 < (cu wJ rP).length∧((cu wJ rP).take 24).drop 8=[66,14,1,0,0,0,1,0,2,0,0,0,0,0,0,0]∧(cu wJ rP).length≤1000:=by
 refine ⟨?_,by kernel_rfl,?_⟩ <;> decide +kernel
theorem Qt:rP.gJ:=by
 refine ⟨fun p h=>?_,fun p h=>?_⟩
 ·simp only [rP,List.mem_cons,List.not_mem_nil,or_false] at h;subst h;unfold gJ;decide
 ·simp only [rP,List.mem_cons,List.not_mem_nil,or_false] at h;subst h;unfold gJ;decide
def Py (ps rs:List Pa):Prop:=ps=[]∧rs=[pB true]
noncomputable def NC:Env:=e1 12 LD e0
theorem Gj:aA Try.prog NC:=aA.e1 RF aA.e0
theorem TB:Spec Try.prog 10 Py:=by
 refine sp10 Gj ?_;rintro ps rs ⟨rfl,rfl⟩;refine ⟨by simp,?_⟩;obtain ⟨v1,v2⟩:=SF;obtain ⟨u1,u2,u3⟩:=SH;unfold pc10
 with_reducible refine aQ ?_
 simp only [↓evP,evB,stB,reduceCtorEq,Nat.reduceAdd,Nat.reduceBEq];refine aF [dL aw0,pI 0] (by exact ⟨[],⟨[],[]⟩,rfl,⟨by decide,by decide,⟨fun p h=>(by cases h),fun p h=>(by cases h)⟩⟩,(kV SE).symm⟩) ?_;simp only [↓evP,evB,stB,reduceCtorEq,Nat.reduceEqDiff,Nat.reduceAdd,Nat.reduceLeDiff,Nat.reduceBEq,dL];refine aF [dL (cu wJ rP),pI 0] (by exact ⟨wJ,rP,rfl,⟨by decide,by decide,Qt⟩,(kV SG).symm⟩) ?_;have g0:((byR aw0).length:Int)=16:=by rw [aV,v1];rfl
 have g1:((byR (cu wJ rP)).length:Int) > 24:=by rw [aV];omega
 have g2:24≤((byR (cu wJ rP)).length:Int):=by omega
 have a0:=dR aw0;have a1:=dR (cu wJ rP)
 have b0:dV (List.take 12 (byR aw0))=some [73,84,82,65,67,69,49,10,69,2,0,0]:=by
  show dV (List.take 12 (List.map _ aw0))=_
  rw [←List.map_take,v2];rfl
 have b1:dV (List.drop 8 (List.take 24 (byR (cu wJ rP))))=some [66,14,1,0,0,0,1,0,2,0,0,0,0,0,0,0]:=by
  show dV (List.drop 8 (List.take 24 (List.map _ (cu wJ rP))))=_
  rw [←List.map_take,←List.map_drop,u2];rfl
 have c0:gU [73,84,82,65,67,69,49,10,69,2,0,0]=⟨#[73,84,82,65,67,69,49,10,69,2,0,0]⟩:=by kernel_rfl
 have c1:gU [66,14,1,0,0,0,1,0,2,0,0,0,0,0,0,0]=⟨#[66,14,1,0,0,0,1,0,2,0,0,0,0,0,0,0]⟩:=by kernel_rfl
 simp only [↓evP,evB,stB,reduceIte,reduceCtorEq,seval,dL,g0,g1,g2,a0,a1,b0,b1,c0,c1,decide_true];simp only [stB,reduceIte,seval,pr10]
theorem Ig {k:Nat} {b:List Nat} {f:Fl} (h:f.en=true):nT (k+1) b f=((if b=[] then 0 else 8),f,b):=by
 show (if f.en=true then _ else _)=_
 rw [if_pos h]
theorem xO {k e:Nat} {b:List Nat} {f:Fl} (h:f.en=false) (he:(pK b f).1=e) (h0:e≠0):nT (k+1) b f=(e,f,b):=by
 show (if f.en=true then _ else _)=_
 rw [if_neg (by rw [h];simp),if_neg (by rw [he];exact h0),he]
theorem Bt {k:Nat} {b r:List Nat} {f g:Fl} (h:f.en=false) (he:pK b f=(0,g,r)):nT (k+1) b f=nT k r g:=by
 show (if f.en=true then _ else _)=_
 rw [if_neg (by rw [h];simp),if_pos (by rw [he]),he]
theorem nX (ns:List Int):(gU ns).toList=ns.map fun n=>UInt8.ofNat n.toNat:=by
 have gen:∀ (ns:List Int) (r:ByteArray),(ns.foldl (fun r n=>r.push (UInt8.ofNat n.toNat)) r).data.toList=r.data.toList ++ ns.map fun n=>UInt8.ofNat n.toNat:=by
  intro ns
  induction ns with
  | nil=>intro r;simp
  | cons n ns ih =>
    intro r;rw [List.foldl_cons,ih]
    show (r.data.push (UInt8.ofNat n.toNat)).toList ++ _=_
    simp
 rw [ByteArray.toList_eq];unfold gU;rw [gen];rfl
theorem bytes_beq {l m:List Nat} (hl:∀ x ∈ l,x≤255) (hm:∀ x ∈ m,x≤255):((gU (l.map fun x:Nat=>(x:Int))).toList == (gU (m.map fun x:Nat=>(x:Int))).toList)=decide (l=m):=by
 rw [nX,nX,List.map_map,List.map_map,Bool.eq_iff_iff,beq_iff_eq,decide_eq_true_eq];refine ⟨fun h=>?_,fun h=>by rw [h]⟩;have hlen:l.length=m.length:=by have:=congrArg List.length h;simpa using this
 apply List.ext_getElem hlen
 intro i h1 h2;have h3:=congrArg (·[i]?) h;simp only [List.getElem?_map,List.getElem?_eq_getElem h1,List.getElem?_eq_getElem h2,Option.map_some,Function.comp,Int.toNat_natCast,Option.some.injEq] at h3;have h4:=hl _ (List.getElem_mem h1);have h5:=hm _ (List.getElem_mem h2);have h6:=congrArg UInt8.toNat h3;simp only [UInt8.toNat_ofNat'] at h6;omega
def yY (E:Nat×(Fl×List Nat)):List Pa:=if E.1=0 then [iA E.2.1.es E.2.1.d,pI (0:Nat)] else [iA [] ⟨[],[]⟩,pI (E.1:Nat)]
def zn (bs:List Nat) (E:Nat×(Fl×List Nat)):List Pa:=[iA E.2.1.es E.2.1.d,pI ((bs.length - E.2.2.length:Nat):Int)]
theorem FH:∀ (f g:Nat) (fst:Bool) (n0 p n:Nat) (t:List Nat),n < 128 ^ (f+1)→f≤g→(fst=false→n≠0)→n0+n * p≤4294967295→rdF (f+1) fst n0 p (kH g n ++ t)=(some (n0+n * p),t)
 | f,g,fst,n0,p,n,t,hn,hg,hf,hb=>by
   by_cases h:128≤n
   ·cases f with
    | zero=>simp at hn;omega
    | succ f =>
      cases g with
      | zero=>omega
      | succ g =>
        have hm:n / 128 < 128 ^ (f+1):=by
         rw [Nat.pow_succ] at hn;omega
        have hdm:n % 128 * p+n / 128 * (p * 128)=n * p:=by
         have h1:n / 128 * (p * 128)=128 * (n / 128) * p:=by
          rw [Nat.mul_comm p 128,←Nat.mul_assoc,Nat.mul_comm (n / 128) 128]
         rw [h1,←Nat.add_mul,Nat.mod_add_div]
        have:=FH f g false (n0+n % 128 * p) (p * 128) (n / 128) t hm (by omega) (fun _=>by omega) (by omega);unfold kH;rw [if_pos h]
        show (if n % 128+128 < 128 then _ else rdF (f+1) false (n0+(n % 128+128) % 128 * p) (p * 128) (kH g (n / 128) ++ t))=_
        rw [if_neg (by omega),show (n % 128+128) % 128=n % 128 by omega,this];rw [Nat.add_assoc,hdm]
   ·have hl:kH g n=[n]:=by cases g <;> simp [kH,h]
    rw [hl]
    show (if n < 128 then _ else _)=_
    have hno:¬ ((n=0∧fst=false)∨4294967295 < n0+n * p):=by
     rintro (⟨q1,q2⟩ | q)
     ·exact hf q2 q1
     ·omega
    rw [if_pos (by omega),if_neg hno];rfl
theorem KM {n:Nat} (h:n≤4294967295) (t:List Nat):rdF 5 true 0 1 (bn n ++ t)=(some n,t):=by
 have:=FH 4 8 true 0 1 n t (Nat.lt_of_le_of_lt h (by decide)) (by decide) (fun q=>by cases q) (by omega);rw [Nat.zero_add,Nat.mul_one] at this;exact this
theorem iw {n:Nat} (h:n≤4294967295) (t:List Nat):bN ⟨bn n ++ t,false⟩=(n,⟨t,false⟩):=by
 unfold bN;rw [if_neg (by simp)];dsimp only;rw [KM h]
theorem FB {g n:Nat} (h:128≤n):kH (g+1) n=(n % 128+128) :: kH g (n / 128):=by
 show (if 128≤n then _ else _)=_
 rw [if_pos h]
theorem yI {g n:Nat} (h:n < 128):kH g n=[n]:=by
 cases g with
 | zero=>rfl
 | succ g=>unfold kH;rw [if_neg (by omega)]
theorem CP (d:Dep) (a k:Nat):mM d a (k+1)=mG d a ++ mM d (a+1) k:=by
 unfold mM;rw [List.range_succ_eq_map,List.flatMap_cons,List.flatMap_map]
 congr 1
 show _=List.flatMap _ _
 congr 1
 funext i
 rw [show a+Nat.succ i=a+1+i by omega]
def dTk (d:Dep) (a:Nat):Dep:=⟨d.st.take a,d.pr.take a⟩
theorem yD {d:Dep} {a:Nat} (h:a≤d.st.length):(dTk d a).st.length=a:=by
 show (d.st.take a).length=a
 rw [List.length_take];omega
theorem O4 {d:Dep} {a i:Nat} (h:i < a):dX (dTk d a) i=dX d i:=by
 unfold dX dTk;simp only [List.getD_eq_getElem?_getD];rw [List.getElem?_take_of_lt h]
theorem OE {d:Dep} {a i:Nat} (h:i < a):fB (dTk d a) i=fB d i:=by
 unfold fB dTk;simp only [List.getD_eq_getElem?_getD];rw [List.getElem?_take_of_lt h]
theorem Jj {d:Dep} {a:Nat} (h:a < d.st.length) (hl:d.st.length=d.pr.length):eB (dTk d a) (fB d a) (dX d a)=dTk d (a+1):=by
 unfold eB dTk dX fB;simp only [List.getD_eq_getElem?_getD];rw [List.take_add_one,List.take_add_one,List.getElem?_eq_getElem h,List.getElem?_eq_getElem (by omega)];rfl
theorem Ro {d:Dep} (hv:d.val) (hs:∀ s ∈ d.st,s.1≤2147483647∧s.2≤2147483647) {a:Nat} (h:a < d.st.length):okE (dTk d a) (fB d a) (dX d a):=by
 obtain ⟨⟨⟨g1,g2⟩,g3,g4⟩,hd⟩:=hv.2 a h
 have hst:dX d a ∈ d.st:=by
  unfold dX;rw [List.getD_eq_getElem?_getD,List.getElem?_eq_getElem h];exact List.getElem_mem _
 have hl:=yD (d:=d) (a:=a) (by omega);refine ⟨⟨by rw [hl];exact g2,mX.2 fun x hx q=>?_⟩,hs _ hst⟩
 rw [hl] at hx;obtain ⟨q1,q2⟩:=q;rw [O4 hx] at q1;rw [OE hx] at q2;exact hd x hx ⟨q1,q2⟩
theorem Lh {d:Dep} (hv:d.val) (hs:∀ s ∈ d.st,s.1≤2147483647∧s.2≤2147483647) {a:Nat} (h:a < d.st.length) (hd:d.st.length≤1000000) (t:List Nat):jJ ⟨mG d a ++ t,false⟩=((fB d a,dX d a),⟨t,false⟩):=by
 obtain ⟨⟨⟨g1,g2⟩,g3,g4⟩,_⟩:=hv.2 a h
 have hst:dX d a ∈ d.st:=by
  unfold dX;rw [List.getD_eq_getElem?_getD,List.getElem?_eq_getElem h];exact List.getElem_mem _
 obtain ⟨b1,b2⟩:=hs _ hst;unfold jJ mG;dsimp only;rw [List.append_assoc,List.append_assoc,iw (by omega)];dsimp only;rw [iw (by omega)];dsimp only;rw [iw (by omega)];have e1:(((fB d a+1).toNat:Nat):Int) - 1=fB d a:=by omega
 have e2:(((dX d a).1.toNat:Nat):Int)=(dX d a).1:=by omega
 have e3:(((dX d a).2.toNat:Nat):Int)=(dX d a).2:=by omega
 dsimp only;rw [e1,e2,e3]
theorem Nz {d:Dep} (hv:d.val) (hs:∀ s ∈ d.st,s.1≤2147483647∧s.2≤2147483647) (hd:d.st.length≤1000000) (t:List Nat):∀ (k a:Nat),a+k≤d.st.length→kQ k (dTk d a) ⟨mM d a k ++ t,false⟩=(dTk d (a+k),⟨t,false⟩):=by
 intro k
 induction k with
 | zero=>intro a h;rfl
 | succ k ih =>
   intro a h;have hal:a < d.st.length:=by omega
   unfold kQ;rw [CP,List.append_assoc,Lh hv hs hal hd];dsimp only;rw [if_neg (by simp),if_neg (by rw [not_or,Classical.not_not];exact ⟨by simp,Ro hv hs hal⟩),Jj hal hv.1,ih (a+1) (by omega),show a+1+k=a+(k+1) by omega]
theorem CJ (d:Int):ug (jV d)=d:=by
 unfold ug jV;split <;> split <;> omega
theorem E5 (t:List Nat):∀ (e l:List Int),e.length=l.length→(∀ v ∈ List.zipWith (fun x y=>x - y) e l,jV v≤4294967295)→pQ l ⟨(List.zipWith (fun x y=>x - y) e l).flatMap dZ ++ t,false⟩=(e,⟨t,false⟩)
 | [],[],_,_=>rfl
 | x :: e,y :: l,h,hb=>by
   have h1:e.length=l.length:=by simpa using h
   rw [List.zipWith_cons_cons] at hb ⊢;have hb0:=hb (x - y) (List.mem_cons_self ..);have hn:bN ⟨dZ (x - y) ++ ((List.zipWith (fun x y=>x - y) e l).flatMap dZ ++ t),false⟩=(jV (x - y),⟨(List.zipWith (fun x y=>x - y) e l).flatMap dZ ++ t,false⟩):=iw hb0 _;unfold pQ;rw [List.flatMap_cons,List.append_assoc,hn];dsimp only;rw [E5 t e l h1 (fun v hv=>hb v (List.mem_cons_of_mem _ hv)),CJ]
   show ((y+(x - y)) :: e,_)=_
   rw [show y+(x - y)=x by omega]
theorem ND (e:Ev):Az e.fl=e:=rfl
theorem NJ {l e:Ev} (hl:evG l) (he:evG e) (t:List Nat):pQ l.fl ⟨pO l e ++ t,false⟩=(e.fl,⟨t,false⟩):=by
 refine E5 t e.fl l.fl rfl fun v hv=>?_
 obtain ⟨i,hi,rfl⟩:=List.getElem_of_mem hv;rw [List.getElem_zipWith];have h1:=he (e.fl[i]'(by simp at hi;omega)) (List.getElem_mem _)
 have h2:=hl (l.fl[i]'(by simp at hi;omega)) (List.getElem_mem _)
 unfold jV;split <;> omega
theorem EY (D:Dep) (t:List Nat):∀ (evs:List Ev) (l:Ev),evG l→(∀ e ∈ evs,e.valid=true∧e.stack < (D.st.length:Int))→EU evs.length l D ⟨eY l evs ++ t,false⟩=some (evs,⟨t,false⟩)
 | [],_,_,_=>rfl
 | e :: evs,l,hl,hv=>by
   obtain ⟨h1,h2⟩:=hv e (List.mem_cons_self ..);have he:evG e:=uy h1
   have hb:eY l (e :: evs) ++ t=pO l e ++ (eY e evs ++ t):=by
    show pO l e ++ eY e evs ++ t=_
    rw [List.append_assoc]
   rw [List.length_cons,hb];unfold EU;rw [NJ hl he];dsimp only;rw [ND,if_neg (by rintro (q | q | q);cases q;rw [h1] at q;cases q;exact q h2),EY D t evs e he fun x hx=>hv x (List.mem_cons_of_mem _ hx)]
   rfl
theorem Nh {kind:Nat} {C t:List Nat} {f:Fl} (hk:kind=66∨kind=69) (hC:C.length≤1048576):pK (bK kind C ++ t) f=(match yB kind C f with
 | none=>(8,f,bK kind C ++ t)
 | some g=>(0,g,t)):=by
 have hb:bK kind C ++ t=kind :: (bn C.length ++ (C ++ (fG (aX kind C) ++ t))):=by
  unfold bK
  show (aX kind C ++ fG (aX kind C)) ++ t=_
  rw [show aX kind C=kind :: (bn C.length ++ C) from rfl];simp only [List.cons_append,List.append_assoc]
 rw [hb];unfold pK;dsimp only;rw [if_neg (by omega),iw (by omega)];dsimp only;have hs4:(fG (aX kind C)).length=4:=rfl
 have h1:¬ (false=true∨1048576 < C.length∨(C ++ (fG (aX kind C) ++ t)).length < C.length+4):=by
  rintro (q | q | q)
  ·cases q
  ·omega
  ·rw [List.length_append,List.length_append,hs4] at q;omega
 rw [if_neg h1]
 have h2:(List.drop C.length (C ++ (fG (aX kind C) ++ t))).take 4=fG (aX kind C):=by
  rw [List.drop_left,←hs4,List.take_left]
 have h3:List.take ((kind :: (bn C.length ++ (C ++ (fG (aX kind C) ++ t)))).length - (C ++ (fG (aX kind C) ++ t)).length+C.length) (kind :: (bn C.length ++ (C ++ (fG (aX kind C) ++ t))))=aX kind C:=by
  have e1:(kind :: (bn C.length ++ (C ++ (fG (aX kind C) ++ t)))).length - (C ++ (fG (aX kind C) ++ t)).length+C.length=(aX kind C).length:=by
   unfold aX;simp only [List.length_cons,List.length_append];omega
  have e2:kind :: (bn C.length ++ (C ++ (fG (aX kind C) ++ t)))=aX kind C ++ (fG (aX kind C) ++ t):=by
   show _=(kind :: (bn C.length ++ C)) ++ _
   simp only [List.cons_append,List.append_assoc]
  rw [e1,e2,List.take_left]
 rw [h2,h3,if_neg (fun q=>q rfl),List.take_left]
 cases yB kind C f with
 | none=>rfl
 | some g =>
   dsimp only
   have e4:List.drop (C.length+4) (C ++ (fG (aX kind C) ++ t))=t:=by
    rw [←List.drop_drop,List.drop_left,←hs4,List.drop_left]
   rw [e4]
def vnt (bs:List Nat):Nat×Nat:=match rdF 5 true 0 1 bs with
 | (some v,r)=>(v,bs.length - r.length)
 | (none,_)=>(0,0)
def sJ (E:Nat×Nat):List Pa:=[pI (E.1:Nat),pI (E.2:Nat)]
def Iz (ps rs:List Pa):Prop:=∃ bs:List Nat,ps=[dL bs]∧(bs.length≤400000∧∀ x ∈ bs,x≤255)∧rs=sJ (vnt bs)
theorem and7 {x:Nat} (h:x≤255):IntKind.u8.wrap (((BitVec.ofInt IntKind.u8.bits (x:Int) &&& BitVec.ofInt IntKind.u8.bits 127).toNat:Nat):Int)=((x % 128:Nat):Int):=by
 have H:∀ y:Fin 256,IntKind.u8.wrap (((BitVec.ofInt IntKind.u8.bits (y.val:Int) &&& BitVec.ofInt IntKind.u8.bits 127).toNat:Nat):Int)=((y.val % 128:Nat):Int):=by decide
 exact H ⟨x,by omega⟩
theorem Uf {k x:Nat} (hk:k≤4) (hx:x≤127):IntKind.i64.wrap ((x:Int) * 2 ^ (min (7 * k) IntKind.i64.bits))=((x * 128 ^ k:Nat):Int):=by
 have e:min (7 * k) IntKind.i64.bits=7 * k:=by
  show min (7 * k) 64=7 * k
  omega
 rw [e]
 have e2:(2:Int) ^ (7 * k)=((128 ^ k:Nat):Int):=by
  rw [Int.pow_mul]
  norm_cast
 have hb:128 ^ k≤128 ^ 4:=Nat.pow_le_pow_right (by decide) hk;have hm:x * 128 ^ k≤127 * 128 ^ 4:=Nat.mul_le_mul hx hb;have hm':x * 128 ^ k≤34091302912:=hm;rw [e2,show ((x:Int) * ((128 ^ k:Nat):Int))=((x * 128 ^ k:Nat):Int) by rw [Int.natCast_mul],dP (by omega) (by omega)]
theorem Qg:Spec Try.prog 58 Iz:=by
 refine sp58 aA.e0 ?_;rintro ps rs ⟨bs,rfl,⟨hbl,hby⟩,rfl⟩;refine ⟨by simp,?_⟩;have hbr:=aV bs;have hba:=dR bs;obtain ⟨E,hE⟩:∃ E,vnt bs=E:=⟨_,rfl⟩
 rw [hE];obtain ⟨w,hw⟩:∃ w,min bs.length 5=w:=⟨_,rfl⟩
 have hmm:D6 false (.int .i64 (bs.length:Int)) (.int .i64 5)=some (.int .i64 (w:Int)):=by
  show some (Value.int .i64 (if (5:Int) < (bs.length:Int) then 5 else (bs.length:Int)))=_
  congr 2
  omega
 have w0:(0:Int)≤(w:Int):=by omega
 have hwl:(w:Int)≤(bs.length:Int):=by omega
 have htk:List.take w (byR bs)=byR (bs.take w):=by unfold byR;rw [List.map_take]
 have htl:(bs.take w).length=w:=by rw [List.length_take];omega
 have htr:=aV (bs.take w);rw [htl] at htr;unfold pc58
 with_reducible refine aQ ?_
 simp only [↓evP,evB,stB,reduceIte,reduceCtorEq,seval,dL,hbr,List.foldl_cons,List.foldl_nil,hmm,w0,hwl,htk,htr,hba];refine bS ms58_0 os58_0 (fun m st=>∃ (k v:Nat),m=6 - k∧k≤w∧st.sl 13=aI k∧st.sl 4=aI v∧v≤34359738367∧(v < 128 ^ k)∧rdF 5 true 0 1 bs=rdF (5 - k) (decide (k=0)) v (128 ^ k) (bs.drop k)) 6 ?_ ?_
 ·exact ⟨0,0,rfl,by omega,by simp only [stB,Nat.reduceEqDiff];first | done | rfl,by simp only [stB,Nat.reduceEqDiff];first | done | rfl,by decide,by decide,rfl⟩
 rintro m z ⟨k,v,rfl,hk,h13,h4,hv,hvp,hM⟩;simp only [stB,Nat.reduceEqDiff,Nat.reduceBEq] at h13 h4;have hw5:w≤5:=by omega
 have hwb:w≤bs.length:=by omega
 rcases Nat.lt_or_ge k w with hkw | hkw
 ·have hk4:k≤4:=by omega
  have kw:(k:Int) < (w:Int):=by omega
  have k0:(0:Int)≤(k:Int):=by omega
  obtain ⟨x,hx⟩:∃ x,bs[k]? = some x:=⟨_,List.getElem?_eq_getElem (by omega)⟩
  have hxb:x≤255:=hby x (List.mem_of_getElem? hx)
  have hgx:(byR (bs.take w))[k]? = some [.sc (.int .u8 (x:Int))]:=by
   unfold byR;rw [List.getElem?_map,List.getElem?_take_of_lt hkw,hx];rfl
  have hdr:bs.drop k=x :: bs.drop (k+1):=by
   rw [List.drop_eq_getElem_cons (by omega)]
   congr 1
   rw [List.getElem?_eq_getElem (by omega)] at hx;exact Option.some.inj hx
  have q1:=and7 hxb;have q2:=Uf (x:=x % 128) hk4 (by omega);have q3:IntKind.i64.wrap (7 * (k:Int))=((7 * k:Nat):Int):=by rw [dP (by omega) (by omega)];omega
  have q4:IntKind.i64.wrap (((x % 128:Nat):Int))=((x % 128:Nat):Int):=dP (by omega) (by omega);have hp4:128 ^ k≤128 ^ 4:=Nat.pow_le_pow_right (by decide) hk4;have hpm:x % 128 * 128 ^ k≤127 * 128 ^ k:=Nat.mul_le_mul_right _ (by omega);have hp4':128 ^ k≤268435456:=hp4;have q5:IntKind.i64.wrap ((v:Int)+((x % 128 * 128 ^ k:Nat):Int))=((v+x % 128 * 128 ^ k:Nat):Int):=by rw [dP (by omega) (by omega)];omega
  have q6:IntKind.i64.wrap ((k:Int)+1)=((k+1:Nat):Int):=by rw [dP (by omega) (by omega)];omega
  have q7:¬ ((7 * k:Nat):Int) < 0:=by omega
  obtain ⟨f,hf⟩:∃ f,5 - k=f+1:=⟨4 - k,by omega⟩
  have hf2:5 - (k+1)=f:=by omega
  rw [hdr,hf] at hM;have hst:rdF (f+1) (decide (k=0)) v (128 ^ k) (x :: bs.drop (k+1))=(if x < 128 then ((if (x=0∧decide (k=0)=false)∨4294967295 < v+x * 128 ^ k then none else some (v+x * 128 ^ k)),bs.drop (k+1)) else rdF f false (v+x % 128 * 128 ^ k) (128 ^ k * 128) (bs.drop (k+1))):=rfl;rw [hst] at hM
  rcases Nat.lt_or_ge x 128 with hx8 | hx8
  ·have e8:¬ (x:Int)≥128:=by omega
   have hmod:x % 128=x:=Nat.mod_eq_of_lt hx8;rw [if_pos hx8] at hM;rw [hmod] at q1 q2 q4 q5;have hlen:bs.length - (bs.drop (k+1)).length=k+1:=by rw [List.length_drop];omega
   by_cases hg:v+x * 128 ^ k > 4294967295
   ·rw [if_pos (.inr hg)] at hM;have hEE:E=(0,0):=by rw [←hE];unfold vnt;rw [hM]
    have gg:((v+x * 128 ^ k:Nat):Int) > 4294967295:=by omega
    simp only [↓evP,evB,stB,reduceIte,reduceCtorEq,seval,h13,h4,kw,k0,hgx,q1,q2,q3,q4,q5,q6,q7,e8,gg,decide_true,decide_false,hEE,sJ,pr58]
   ·have gg:¬ ((v+x * 128 ^ k:Nat):Int) > 4294967295:=by omega
    by_cases hz:k > 0∧x=0
    ·obtain ⟨hk1,hx0⟩:=hz;have xx:((x:Int) == 0)=true:=by rw [beq_iff_eq];omega
     rw [if_pos (.inl ⟨hx0,by simp;omega⟩)] at hM
     have hEE:E=(0,0):=by rw [←hE];unfold vnt;rw [hM]
     have kk:(k:Int) > 0:=by omega
     simp only [↓evP,evB,stB,reduceIte,reduceCtorEq,seval,h13,h4,kw,k0,hgx,q1,q2,q3,q4,q5,q6,q7,e8,gg,kk,xx,decide_true,decide_false,hEE,sJ,pr58]
    ·have hno:¬ ((x=0∧decide (k=0)=false)∨4294967295 < v+x * 128 ^ k):=by
      rintro (⟨q,q'⟩ | q)
      ·have:k≠0:=by simpa using q'
       exact hz ⟨by omega,q⟩
      ·exact hg q
     rw [if_neg hno] at hM;have hEE:E=(v+x * 128 ^ k,k+1):=by rw [←hE];unfold vnt;rw [hM];dsimp only;rw [hlen]
     by_cases kk:(k:Int) > 0
     ·have xx:((x:Int) == 0)=false:=by rw [beq_eq_false_iff_ne];intro q;exact hz ⟨by omega,by omega⟩
      simp only [↓evP,evB,stB,reduceIte,reduceCtorEq,seval,h13,h4,kw,k0,hgx,q1,q2,q3,q4,q5,q6,q7,e8,gg,kk,xx,decide_true,decide_false,hEE,sJ,pr58]
     ·simp only [↓evP,evB,stB,reduceIte,reduceCtorEq,seval,h13,h4,kw,k0,hgx,q1,q2,q3,q4,q5,q6,q7,e8,gg,kk,decide_true,decide_false,hEE,sJ,pr58]
  ·have e8:(x:Int)≥128:=by omega
   rw [if_neg (by omega)] at hM;simp only [↓evP,evB,stB,reduceIte,reduceCtorEq,seval,h13,h4,kw,k0,hgx,q1,q2,q3,q4,q5,q6,q7,e8,decide_true]
   refine ⟨_,by omega,(by repeat' (first | assumption | exact bg.mpr trivial | exact Within.refl _ _ _ | (refine bC ?_ rfl rfl) | (refine aY ?_ rfl))),k+1,v+x % 128 * 128 ^ k,rfl,by omega,by simp only [stB,Nat.reduceEqDiff,Nat.reduceBEq],by simp only [stB,Nat.reduceEqDiff,Nat.reduceBEq],by omega,by rw [Nat.pow_succ];omega,?_⟩
   rw [hM,hf2,Nat.pow_succ,show decide (k+1=0)=false by simp]
 ·have hkw':k=w:=by omega
  have kw:¬ (k:Int) < (w:Int):=by omega
  have hEE:E=(0,0):=by
   rw [←hE];unfold vnt;rw [hM]
   rcases Nat.lt_or_ge w 5 with h5 | h5
   ·have:bs.drop k=[]:=List.drop_eq_nil_of_le (by omega);rw [this];obtain ⟨f,hf⟩:∃ f,5 - k=f+1:=⟨4 - k,by omega⟩
    rw [hf];rfl
   ·rw [show 5 - k=0 by omega];rfl
  simp only [↓evP,evB,stB,reduceIte,reduceCtorEq,seval,h13,kw,decide_false,hEE,sJ,pr58]
theorem Spec.TT [I:bT] {P:Program} {f:Nat} {R:List Pa→List Pa→Prop} (h:Spec P f R):fK P f (fun hp az hp' rs=>∃ ps v,az.map (Hw.pa hp)=ps.map some∧R ps [.one (.sc v)]∧hp'=hp∧rs=[.one (.d (.sc v))]):=by
 rintro hp az hp' rs ⟨ps,v,hps,hR,rfl,rfl⟩ W w vals hI hrp hvals;have hw:I.p w:=hI w ⟨rfl,rfl,rfl,Nat.le_refl _,fun _ _ _=>rfl⟩
 obtain ⟨S',hS'⟩:∃ S':Nat→Nat,(fun b=>W.S b+(match w.heap[b]? with | some (.cells arr _ _)=>arr.size | _=>0))=S':=⟨_,rfl⟩
 have hle:∀ b,W.S b≤S' b:=fun b=>by rw [←hS'];dsimp only;omega
 have hext:Ext W.S S' w w:=fun b i hi _=>⟨Nat.lt_of_lt_of_le hi (hle b),rfl⟩
 have hdt:∀ (c:Hc) (x:Dt) (v:Value),c.pa hp'=some x→RC W G0 O0 w c.cl v→RD S' w x v:=fun c x v hx hc=>by
  unfold Hc.pa at hx;split at hx
  ·cases hx;have h3:RD W.S w (.sc (.slice none 0 0)) v:=hc;cases h3;exact .emp none 0 (by unfold maxLen;omega)
  ·cases hx;exact RD.ext hext hc
  ·rename_i b;split at hx
   ·rename_i E sz rows hvec;cases hx;obtain ⟨h3,_,h4⟩:=hc;have h3':v=W.nv b:=h3;have h5:=hrp.at_ b;rw [hvec] at h5;obtain ⟨xs,g1,g2,g3,g4⟩:=h5;subst h3'
    rcases g1.2 with ⟨q1,q2⟩ | ⟨g,cap,cur,fz,q1,q2,q3,q4,q5,q6,q7,_⟩
    ·have:rows=[]:=List.eq_nil_of_length_eq_zero q2;subst this;rw [q1];exact .emp none 0 (by unfold maxLen;omega)
    ·rw [q1]
     have hSg:cur.size≤S' g:=by
      rw [←hS'];dsimp only;rw [q3];dsimp only;omega
     refine RD.block (vs:=xs) (sz:=sz) (b:=g) (o:=0) g2 g1.1 (fun j u hj=>?_) q4 q5 (fun i r j x e1 e2=>?_)
     ·have hj2:=(List.getElem?_eq_some_iff.1 hj).1
      have hlt:j < cur.size:=by
       have:xs.length≤cur.size:=by
        have h9:(cur.toList.take (rows.length * sz)).length≤cur.toList.length:=by rw [List.length_take];exact Nat.min_le_right _ _
        rw [q7] at h9;rw [Array.length_toList] at h9;exact h9
       omega
      refine ⟨?_,by show 0+j < S' g;exact Nat.lt_of_lt_of_le (by omega) hSg⟩
      have:=g1.cells (g:=g) (by rw [q1];rfl) j u hj
      rw [addr_add] at this;exact this
     ·obtain ⟨u,e3,e4⟩:=g3 i r j x e1 e2;exact ⟨u,e3,RD.ext hext e4⟩
   ·cases hx
  ·cases hx
 have hpa:∀ (x:Hw) (p:Pa) (v:Value),x.pa hp'=some p→RHw W w x v→RP S' w p v:=fun x p v hx hc=>by
  cases x with
  | one c =>
    simp only [Hw.pa,Option.map_eq_some_iff] at hx;obtain ⟨y,hy,rfl⟩:=hx;exact hdt c y v hy hc
  | agg cs =>
    simp only [Hw.pa,Option.map_eq_some_iff] at hx;obtain ⟨ys,hy,rfl⟩:=hx;obtain ⟨arr,e1,e2,e3⟩:=hc;have h4:=eF _ _ hy;have h5:=congrArg List.length h4;simp only [List.length_map] at h5 e2;refine ⟨arr,e1,by simp at e2;omega,fun i x u q1 q2=>?_⟩
    have h6:=congrArg (·[i]?) h4;simp only [List.getElem?_map,q1,Option.map_some] at h6
    cases hci:cs[i]? with
    | none=>rw [hci] at h6;simp at h6
    | some c =>
      rw [hci] at h6;simp at h6;exact hdt c x u h6 (e3 i c.cl u (by rw [List.getElem?_map,hci];rfl) (by simpa using q2))
 have hlen:az.length=ps.length:=by have:=congrArg List.length hps;simpa using this
 have hargs:RPs S' w ps vals:=⟨by rw [←hlen];exact hvals.1,fun i p u e1 e2=>by
  cases haz:az[i]? with
  | none =>
    rw [List.getElem?_eq_none_iff] at haz;have:=(List.getElem?_eq_some_iff.1 e1).1;omega
  | some x =>
    have h6:=congrArg (·[i]?) hps;simp only [List.getElem?_map,haz,e1,Option.map_some,Option.some.injEq] at h6;exact hpa x p u h6 (hvals.2 i x u haz e2)⟩
 refine Calls.mono (h ps _ hR S' w vals hw hargs) ?_;rintro e w' ⟨u,S2,rfl,hrr,hb,hS⟩;have hext2:Ext W.S W.S w w':=lZ (fp:=fun _=>False) ⟨hb.os,hb.tape,hb.output,hb.size,fun k hk _=>hb.block k hk⟩ (fun _ q=>q.elim) (fun _ _=>rfl);have hfol:Fol W G0 O0 w W G0 O0 w':=⟨hext2,fun _=>Nat.le_refl _,fun _ _=>rfl,fun o E sz k _ ho=>⟨k,ho,Nat.le_refl _,fun _=>rfl⟩,fun _ _=>rfl,fun _ h=>⟨h,rfl,rfl⟩,rfl⟩;have hsc:RD S2 w' (.sc v) u:=hrr;have hsc2:RD W.S w' (.sc v) u:=by cases hsc;exact .sc _ ‹_›
 refine ⟨u,W,rfl,hsc2,⟨hrp.lv,fun b k hk=>?_,fun b=>?_,hrp.ex⟩,fun b hl=>⟨hl,rfl,rfl⟩,⟨hb.os,hb.tape,hb.output,hb.size,fun k hk _=>hb.block k hk⟩,fun k hk=>.inl hk,fun _ _=>rfl⟩
 ·obtain ⟨q1,q2⟩:=hrp.mine b k hk;exact ⟨q1,Nat.lt_of_lt_of_le q2 hb.size⟩
 ·exact RH.fol hfol (hrp.at_ b) (fun hn=>(hrp.lv b).2 hn) rfl (fun k hk=>hb.block k (hrp.mine b k hk).2)
end Go.Proofs.Ytkafcpnahpfbfaa
end
section
namespace Go.Proofs.Ytkafcpnahpfbfaa
open Go Go.RowKit
set_option maxRecDepth 100000
def pcp60 : PC := .seq (.reg false [⟨(some 2), .mv (.v (.int .i64 0)), none, []⟩]) (.seq (.reg false [⟨(some 6), .mv (.t 0), none, []⟩, ⟨(some 7), .nilck (.t 6), none, [0]⟩, ⟨(some 8), .fld 0 (.t 7), none, [1]⟩, ⟨(some 9), .load none (.t 8), none, [2]⟩, ⟨(some 10), .call 58 [(.t 9)], none, [3]⟩, ⟨(some 5), .mv (.t 10), none, [4]⟩, ⟨(some 11), .ext (.t 5) 0, none, [5]⟩, ⟨(some 12), .ext (.t 5) 1, none, [5]⟩, ⟨(some 3), .mv (.t 11), none, [6, 4, 0, 1, 2, 3, 4, 5, 6]⟩, ⟨(some 4), .mv (.t 12), none, [7, 8, 0, 1, 2, 3, 4, 5, 6, 7, 8]⟩]) (.seq (.reg false [⟨(some 13), .mv (.t 0), none, []⟩, ⟨(some 14), .mv (.t 0), none, []⟩, ⟨(some 15), .nilck (.t 14), none, [1]⟩, ⟨(some 16), .fld 1 (.t 15), none, [2]⟩, ⟨(some 17), .load none (.t 16), none, [3]⟩, ⟨(some 18), .mv (.t 17), none, [4]⟩, ⟨(some 19), .mv (.t 4), (some (18, false)), [5]⟩, ⟨(some 20), .bin .eql (.t 19) (.v (.int .i64 0)), (some (18, false)), [6, 5]⟩, ⟨(some 21), .pick (.t 18) (.v (.bool true)) (.t 20), none, [5, 7]⟩, ⟨(some 22), .nilck (.t 13), none, [0, 0, 1, 2, 3, 4, 5, 6, 7, 8]⟩, ⟨(some 23), .fld 1 (.t 22), none, [9, 0, 1, 2, 3, 4, 5, 6, 7, 8]⟩, ⟨none, .store 1 (.t 23) (.t 21), none, [10, 8, 5, 0, 1, 2, 3, 4, 5, 6, 7, 8]⟩]) (.seq (.reg false [⟨(some 24), .mv (.t 0), none, []⟩, ⟨(some 25), .mv (.t 0), none, []⟩, ⟨(some 26), .nilck (.t 25), none, [1]⟩, ⟨(some 27), .fld 0 (.t 26), none, [2]⟩, ⟨(some 28), .load none (.t 27), none, [3]⟩, ⟨(some 29), .mv (.t 4), none, []⟩, ⟨(some 30), .slc 1 (.t 28) (some (.t 29)) none, none, [4, 5]⟩, ⟨(some 31), .nilck (.t 24), none, [0, 0, 1, 2, 3, 4, 5, 6]⟩, ⟨(some 32), .fld 0 (.t 31), none, [7, 0, 1, 2, 3, 4, 5, 6]⟩, ⟨none, .store 1 (.t 32) (.t 30), none, [8, 6, 0, 1, 2, 3, 4, 5, 6]⟩]) (.seq (.reg false [⟨(some 33), .mv (.t 3), none, []⟩, ⟨(some 2), .mv (.t 33), none, [0, 0]⟩]) (.ret)))))
def prp60 : List PR := [.t 2]
def flp60 : List (Nat × List Bool) := []
theorem bdp60:Try.f60.body=some (Try.f60.body.getD .skip):=by kernel_rfl
theorem cpp60:bY Try.prog Try.f60.ntmps (fJ ++ flp60) (Try.f60.body.getD .skip)=some pcp60:=by kernel_rfl
theorem spp60 [bT] {env:Env} (hE:aA Try.prog env) {R:(Nat→Hb)→List Hw→(Nat→Hb)→List Hw→Prop} (hR:∀ hp az hp' rs,R hp az hp' rs→az.length≤34∧∃ nc,pwp env pcp60 (fun e s=>(e=.normal∨e=.ret)∧s.gP prp60=some rs∧s.hb=hp') (St.eG nc hp az)):fK Try.prog 60 R :=
 iR hE (mO bZ (by kernel_rfl)) bA Try.func60 bdp60 cpp60 (by kernel_rfl) (by kernel_rfl) (by kernel_rfl) hR
def pcp59 : PC := .seq (.reg false [⟨(some 4), .mv (.v (.bool false)), none, []⟩]) (.seq (.reg false [⟨(some 10), .mv (.t 0), none, []⟩, ⟨(some 11), .callh 60 [(.t 10)], none, [0]⟩, ⟨(some 5), .mv (.t 11), none, [1, 1, 0, 1]⟩]) (.seq (.seq (.reg false [⟨(some 6), .mv (.v (.int .i64 0)), none, []⟩]) (.block 0 (.loop (.seq (.seq (.reg false [⟨(some 12), .mv (.t 6), none, []⟩, ⟨(some 13), .mv (.t 5), none, []⟩, ⟨(some 14), .bin .lss (.t 12) (.t 13), none, [0, 1]⟩, ⟨(some 15), .mv (.t 14), none, [2]⟩, ⟨(some 16), .mv (.t 0), (some (15, true)), [3]⟩, ⟨(some 17), .nilck (.t 16), (some (15, true)), [4, 3]⟩, ⟨(some 18), .fld 1 (.t 17), (some (15, true)), [5, 3]⟩, ⟨(some 19), .load none (.t 18), (some (15, true)), [6, 3]⟩, ⟨(some 20), .un .not (.t 19), (some (15, true)), [7, 3]⟩, ⟨(some 21), .pick (.t 15) (.t 20) (.v (.bool false)), none, [3, 8]⟩]) (.cond (.t 21) (.skip) (.exit 0))) (.seq (.block 1 (.seq (.reg false [⟨(some 7), .new [(.int .i64 0), (.int .i64 0), (.int .i64 0)], none, []⟩]) (.seq (.seq (.reg false [⟨(some 24), .mv (.v (.int .i64 0)), none, []⟩]) (.block 2 (.loop (.seq (.reg false [⟨(some 25), .bin .lss (.t 24) (.v (.int .i64 3)), none, []⟩]) (.seq (.cond (.t 25) (.skip) (.exit 2)) (.seq (.block 3 (.seq (.reg false [⟨(some 26), .mv (.t 24), none, []⟩, ⟨(some 8), .mv (.t 26), none, [0, 0]⟩]) (.reg false [⟨(some 27), .mv (.t 8), none, []⟩, ⟨(some 28), .mv (.t 0), none, []⟩, ⟨(some 29), .callh 60 [(.t 28)], none, [1]⟩, ⟨(some 30), .ixa 3 1 (.t 7) (.t 27), none, [0, 0, 1, 2]⟩, ⟨none, .store 1 (.t 30) (.t 29), none, [3, 2, 2, 0, 1, 2]⟩]))) (.reg false [⟨(some 31), .bin .add (.t 24) (.v (.int .i64 1)), none, []⟩, ⟨(some 24), .mv (.t 31), none, [0]⟩]))))))) (.seq (.reg false [⟨(some 32), .ixa 3 1 (.t 7) (.v (.int .i64 1)), none, []⟩, ⟨(some 33), .load none (.t 32), none, [0]⟩, ⟨(some 34), .ixa 3 1 (.t 7) (.v (.int .i64 2)), none, []⟩, ⟨(some 35), .load none (.t 34), none, [2]⟩, ⟨(some 36), .build [(.int .i64 0), (.int .i64 0)] [(0, 1, (.t 33)), (1, 1, (.t 35))], none, [1, 3]⟩, ⟨(some 9), .new [(.int .i64 0), (.int .i64 0)], none, []⟩, ⟨none, .store 2 (.t 9) (.t 36), none, [5, 4, 0, 1, 2, 3, 4, 5]⟩]) (.seq (.seq (.reg true [⟨(some 37), .mv (.t 0), none, []⟩, ⟨(some 38), .nilck (.t 37), none, [0]⟩, ⟨(some 39), .fld 1 (.t 38), none, [1]⟩, ⟨(some 40), .load none (.t 39), none, [2]⟩, ⟨(some 41), .mv (.t 40), none, [3]⟩, ⟨(some 42), .ixa 3 1 (.t 7) (.v (.int .i64 0)), (some (41, false)), [4]⟩, ⟨(some 43), .load none (.t 42), (some (41, false)), [5, 4]⟩, ⟨(some 44), .mv (.t 1), (some (41, false)), [4]⟩, ⟨(some 45), .nilck (.t 44), (some (41, false)), [7, 4]⟩, ⟨(some 46), .fld 2 (.t 45), (some (41, false)), [8, 4]⟩, ⟨(some 47), .fld 1 (.t 46), (some (41, false)), [9, 4]⟩, ⟨(some 48), .fld 0 (.t 47), (some (41, false)), [10, 4]⟩, ⟨(some 49), .load none (.t 48), (some (41, false)), [11, 4]⟩, ⟨(some 50), .len (.t 49), (some (41, false)), [12, 4]⟩, ⟨(some 51), .mv (.t 0), (some (41, false)), [4]⟩, ⟨(some 52), .nilck (.t 51), (some (41, false)), [14, 4]⟩, ⟨(some 53), .fld 2 (.t 52), (some (41, false)), [15, 4]⟩, ⟨(some 54), .fld 1 (.t 53), (some (41, false)), [16, 4]⟩, ⟨(some 55), .fld 0 (.t 54), (some (41, false)), [17, 4]⟩, ⟨(some 56), .load none (.t 55), (some (41, false)), [18, 4]⟩, ⟨(some 57), .len (.t 56), (some (41, false)), [19, 4]⟩, ⟨(some 58), .bin .add (.t 50) (.t 57), (some (41, false)), [13, 20, 4]⟩, ⟨(some 59), .bin .gtr (.t 43) (.t 58), (some (41, false)), [6, 21, 4]⟩, ⟨(some 60), .pick (.t 41) (.v (.bool true)) (.t 59), none, [4, 22]⟩, ⟨(some 61), .mv (.t 60), none, [23, 4]⟩, ⟨(some 62), .load (some 2) (.t 9), (some (61, false)), [24]⟩, ⟨(some 63), .call 23 [(.t 62)], (some (61, false)), [25, 24, 24]⟩, ⟨(some 64), .un .not (.t 63), (some (61, false)), [26, 24]⟩, ⟨(some 65), .pick (.t 61) (.v (.bool true)) (.t 64), none, [24, 27]⟩, ⟨(some 66), .mv (.t 65), none, [28, 26]⟩, ⟨(some 67), .mv (.t 1), (some (66, false)), [29]⟩, ⟨(some 68), .nilck (.t 67), (some (66, false)), [30, 29]⟩, ⟨(some 69), .fld 5 (.t 68), (some (66, false)), [31, 29]⟩, ⟨(some 70), .load none (.t 69), (some (66, false)), [32, 29]⟩, ⟨(some 71), .load (some 3) (.t 7), (some (66, false)), [29]⟩, ⟨(some 72), .mlk 113 (.one (.d (.sc (.bool false)))) false (.t 70) (.t 71), (some (66, false)), [33, 34, 29]⟩, ⟨(some 73), .pick (.t 66) (.v (.bool true)) (.t 72), none, [29, 35]⟩, ⟨(some 74), .mv (.t 73), none, [36, 29]⟩, ⟨(some 75), .mv (.t 0), (some (74, false)), [37]⟩, ⟨(some 76), .nilck (.t 75), (some (74, false)), [38, 37]⟩, ⟨(some 77), .fld 5 (.t 76), (some (74, false)), [39, 37]⟩, ⟨(some 78), .load none (.t 77), (some (74, false)), [40, 37]⟩, ⟨(some 79), .load (some 3) (.t 7), (some (74, false)), [37]⟩, ⟨(some 80), .mlk 113 (.one (.d (.sc (.bool false)))) false (.t 78) (.t 79), (some (74, false)), [41, 42, 37]⟩, ⟨(some 81), .pick (.t 74) (.v (.bool true)) (.t 80), none, [37, 43]⟩]) (.cond (.t 81) (.seq (.reg false [⟨(some 4), .mv (.v (.bool false)), none, []⟩]) (.ret)) (.skip))) (.seq (.reg true [⟨(some 82), .mv (.t 0), none, []⟩, ⟨(some 83), .nilck (.t 82), none, [0]⟩, ⟨(some 84), .fld 5 (.t 83), none, [1]⟩, ⟨(some 85), .load none (.t 84), none, [2]⟩, ⟨(some 86), .load (some 3) (.t 7), none, []⟩, ⟨none, .mup 113 (.t 85) (.t 86) (.v (.bool true)), none, [3, 4, 0, 1, 2, 3, 4]⟩]) (.seq (.reg true [⟨(some 87), .mv (.t 0), none, []⟩, ⟨(some 88), .mv (.t 0), none, []⟩, ⟨(some 89), .nilck (.t 88), none, [1]⟩, ⟨(some 90), .fld 2 (.t 89), none, [2]⟩, ⟨(some 91), .fld 1 (.t 90), none, [3]⟩, ⟨(some 92), .fld 0 (.t 91), none, [4]⟩, ⟨(some 93), .load none (.t 92), none, [5]⟩, ⟨(some 94), .load (some 2) (.t 9), none, []⟩, ⟨(some 95), .bslice 50 2 [(.int .i64 0), (.int .i64 0)] 1 [(0, 2, (.t 94))], none, [7]⟩, ⟨(some 96), .hal 97 (.app 50 2 16 (.t 93) (.t 95)), none, [6, 8]⟩, ⟨(some 97), .nilck (.t 87), none, [0, 0, 1, 2, 3, 4, 5, 6, 7, 8, 9]⟩, ⟨(some 98), .fld 2 (.t 97), none, [10, 0, 1, 2, 3, 4, 5, 6, 7, 8, 9]⟩, ⟨(some 99), .fld 1 (.t 98), none, [11, 0, 1, 2, 3, 4, 5, 6, 7, 8, 9]⟩, ⟨(some 100), .fld 0 (.t 99), none, [12, 0, 1, 2, 3, 4, 5, 6, 7, 8, 9]⟩, ⟨none, .store 1 (.t 100) (.t 96), none, [13, 9, 9, 0, 1, 2, 3, 4, 5, 6, 7, 8, 9]⟩]) (.reg true [⟨(some 101), .mv (.t 0), none, []⟩, ⟨(some 102), .mv (.t 0), none, []⟩, ⟨(some 103), .nilck (.t 102), none, [1]⟩, ⟨(some 104), .fld 2 (.t 103), none, [2]⟩, ⟨(some 105), .fld 1 (.t 104), none, [3]⟩, ⟨(some 106), .fld 1 (.t 105), none, [4]⟩, ⟨(some 107), .load none (.t 106), none, [5]⟩, ⟨(some 108), .ixa 3 1 (.t 7) (.v (.int .i64 0)), none, []⟩, ⟨(some 109), .load none (.t 108), none, [7]⟩, ⟨(some 110), .bin .sub (.t 109) (.v (.int .i64 1)), none, [8]⟩, ⟨(some 111), .bslice 3 1 [(.int .i64 0)] 1 [(0, 1, (.t 110))], none, [9]⟩, ⟨(some 112), .hal 113 (.app 3 1 8 (.t 107) (.t 111)), none, [6, 10]⟩, ⟨(some 113), .nilck (.t 101), none, [0, 0, 1, 2, 3, 4, 5, 6, 7, 8, 9, 10, 11]⟩, ⟨(some 114), .fld 2 (.t 113), none, [12, 0, 1, 2, 3, 4, 5, 6, 7, 8, 9, 10, 11]⟩, ⟨(some 115), .fld 1 (.t 114), none, [13, 0, 1, 2, 3, 4, 5, 6, 7, 8, 9, 10, 11]⟩, ⟨(some 116), .fld 1 (.t 115), none, [14, 0, 1, 2, 3, 4, 5, 6, 7, 8, 9, 10, 11]⟩, ⟨none, .store 1 (.t 116) (.t 112), none, [15, 11, 11, 0, 1, 2, 3, 4, 5, 6, 7, 8, 9, 10, 11]⟩])))))))) (.reg false [⟨(some 22), .mv (.t 6), none, []⟩, ⟨(some 23), .bin .add (.t 22) (.v (.int .i64 1)), none, [0]⟩, ⟨(some 6), .mv (.t 23), none, [1, 0, 1]⟩])))))) (.seq (.reg false [⟨(some 117), .mv (.t 0), none, []⟩, ⟨(some 118), .nilck (.t 117), none, [0]⟩, ⟨(some 119), .fld 1 (.t 118), none, [1]⟩, ⟨(some 120), .load none (.t 119), none, [2]⟩, ⟨(some 121), .un .not (.t 120), none, [3]⟩, ⟨(some 4), .mv (.t 121), none, [4, 0, 1, 2, 3, 4]⟩]) (.ret))))
def prp59 : List PR := [.t 4]
abbrev msp59_0 : List Nat := [12, 13, 14, 15, 16, 17, 18, 19, 20, 21, 7, 24, 25, 26, 8, 27, 28, 29, 30, 31, 32, 33, 34, 35, 36, 9, 37, 38, 39, 40, 41, 42, 43, 44, 45, 46, 47, 48, 49, 50, 51, 52, 53, 54, 55, 56, 57, 58, 59, 60, 61, 62, 63, 64, 65, 66, 67, 68, 69, 70, 71, 72, 73, 74, 75, 76, 77, 78, 79, 80, 81, 4, 82, 83, 84, 85, 86, 87, 88, 89, 90, 91, 92, 93, 94, 95, 96, 97, 98, 99, 100, 101, 102, 103, 104, 105, 106, 107, 108, 109, 110, 111, 112, 113, 114, 115, 116, 22, 23, 6]
abbrev osp59_0 : List Nat := [7, 9, 95, 0, 111]
abbrev msp59_1 : List Nat := [25, 26, 8, 27, 28, 29, 30, 31, 24]
abbrev osp59_1 : List Nat := [7]
def flp59 : List (Nat × List Bool) := [(5000096, List.replicate 1 false), (5000112, List.replicate 1 false), (6000060, List.replicate 1 false)]
theorem bdp59:Try.f59.body=some (Try.f59.body.getD .skip):=by kernel_rfl
theorem cpp59:bY Try.prog Try.f59.ntmps (fJ ++ flp59) (Try.f59.body.getD .skip)=some pcp59:=by kernel_rfl
theorem sqp59 [bT] {env:Env} (hE:aA Try.prog env) {R:(Nat→Hb)→List Hw→((Nat→Hb)→List Hw→Prop)→Prop} (hR:∀ hp az Post,R hp az Post→az.length≤122∧∃ nc,pwp env pcp59 (fun e s=>(e=.normal∨e=.ret)∧∃ hp' rs,s.gP prp59=some rs∧(∀ b,hp' b=s.hb b∨(hp' b=.dead∧s.hb b≠.no))∧Post hp' rs) (St.eG nc hp az)):dY Try.prog 59 R :=
 eP hE (mO bZ (by kernel_rfl)) bA Try.func59 bdp59 cpp59 (by kernel_rfl) (by kernel_rfl) (by kernel_rfl) hR
def pcp61 : PC := .seq (.reg false [⟨(some 6), .mv (.v (.bool false)), none, []⟩]) (.seq (.seq (.reg false [⟨(some 11), .mv (.t 1), none, []⟩, ⟨(some 12), .nilck (.t 11), none, [0]⟩, ⟨(some 13), .fld 15 (.t 12), none, [1]⟩, ⟨(some 14), .load none (.t 13), none, [2]⟩, ⟨(some 15), .mv (.t 14), none, [3]⟩, ⟨(some 16), .mv (.t 2), (some (15, false)), [4]⟩, ⟨(some 17), .bin .lss (.t 16) (.v (.int .i64 1)), (some (15, false)), [5, 4]⟩, ⟨(some 18), .pick (.t 15) (.v (.bool true)) (.t 17), none, [4, 6]⟩, ⟨(some 19), .mv (.t 18), none, [7, 4]⟩, ⟨(some 20), .mv (.t 2), (some (19, false)), [8]⟩, ⟨(some 21), .bin .gtr (.t 20) (.v (.int .i64 16)), (some (19, false)), [9, 8]⟩, ⟨(some 22), .pick (.t 19) (.v (.bool true)) (.t 21), none, [8, 10]⟩, ⟨(some 23), .mv (.t 22), none, [11, 8]⟩, ⟨(some 24), .mv (.t 1), (some (23, false)), [12]⟩, ⟨(some 25), .nilck (.t 24), (some (23, false)), [13, 12]⟩, ⟨(some 26), .fld 2 (.t 25), (some (23, false)), [14, 12]⟩, ⟨(some 27), .fld 0 (.t 26), (some (23, false)), [15, 12]⟩, ⟨(some 28), .load none (.t 27), (some (23, false)), [16, 12]⟩, ⟨(some 29), .len (.t 28), (some (23, false)), [17, 12]⟩, ⟨(some 30), .mv (.t 2), (some (23, false)), [12]⟩, ⟨(some 31), .bin .add (.t 29) (.t 30), (some (23, false)), [18, 19, 12]⟩, ⟨(some 32), .bin .gtr (.t 31) (.v (.int .i64 5000)), (some (23, false)), [20, 12]⟩, ⟨(some 33), .pick (.t 23) (.v (.bool true)) (.t 32), none, [12, 21]⟩]) (.cond (.t 33) (.seq (.reg false [⟨(some 6), .mv (.v (.bool false)), none, []⟩]) (.ret)) (.skip))) (.seq (.seq (.reg false [⟨(some 34), .mv (.t 2), none, []⟩, ⟨(some 35), .mv (.v (.int .i64 0)), none, []⟩]) (.block 0 (.loop (.seq (.reg false [⟨(some 36), .bin .lss (.t 35) (.t 34), none, []⟩]) (.seq (.cond (.t 36) (.skip) (.exit 0)) (.seq (.block 1 (.seq (.seq (.reg false [⟨(some 37), .mv (.t 0), none, []⟩, ⟨(some 38), .nilck (.t 37), none, [0]⟩, ⟨(some 39), .fld 6 (.t 38), none, [1]⟩, ⟨(some 40), .callh 48 [(.t 39)], none, [2]⟩, ⟨(some 41), .mv (.v (.int .i64 0)), none, []⟩]) (.block 2 (.loop (.seq (.reg false [⟨(some 42), .bin .lss (.t 41) (.v (.int .i64 9)), none, []⟩]) (.seq (.cond (.t 42) (.skip) (.exit 2)) (.seq (.block 3 (.seq (.reg false [⟨(some 43), .ixv 9 1 none (.t 40) (.t 41), none, []⟩, ⟨(some 8), .mv (.t 43), none, [0, 0]⟩]) (.seq (.reg false [⟨(some 44), .mv (.t 0), none, []⟩, ⟨(some 45), .callh 60 [(.t 44)], none, [0]⟩, ⟨(some 9), .mv (.t 45), none, [1, 1, 0, 1]⟩]) (.seq (.reg false [⟨(some 46), .mv (.t 9), none, []⟩, ⟨(some 47), .bin .rem (.t 46) (.v (.int .i64 2)), none, [0]⟩, ⟨(some 48), .bin .eql (.t 47) (.v (.int .i64 0)), none, [1]⟩]) (.cond (.t 48) (.reg false [⟨(some 49), .mv (.t 8), none, []⟩, ⟨(some 50), .nilck (.t 49), none, [0]⟩, ⟨(some 51), .load none (.t 50), none, [1]⟩, ⟨(some 52), .mv (.t 9), none, []⟩, ⟨(some 53), .bin .quo (.t 52) (.v (.int .i64 2)), none, [3]⟩, ⟨(some 54), .bin .add (.t 51) (.t 53), none, [2, 4]⟩, ⟨(some 55), .nilck (.t 49), none, [0, 0, 1, 2, 3, 4, 5]⟩, ⟨none, .store 1 (.t 55) (.t 54), none, [6, 5, 0, 1, 2, 3, 4, 5]⟩]) (.reg false [⟨(some 56), .mv (.t 8), none, []⟩, ⟨(some 57), .nilck (.t 56), none, [0]⟩, ⟨(some 58), .load none (.t 57), none, [1]⟩, ⟨(some 59), .mv (.t 9), none, []⟩, ⟨(some 60), .bin .quo (.t 59) (.v (.int .i64 2)), none, [3]⟩, ⟨(some 61), .bin .add (.t 60) (.v (.int .i64 1)), none, [4]⟩, ⟨(some 62), .bin .sub (.t 58) (.t 61), none, [2, 5]⟩, ⟨(some 63), .nilck (.t 56), none, [0, 0, 1, 2, 3, 4, 5, 6]⟩, ⟨none, .store 1 (.t 63) (.t 62), none, [7, 6, 0, 1, 2, 3, 4, 5, 6]⟩])))))) (.reg false [⟨(some 64), .bin .add (.t 41) (.v (.int .i64 1)), none, []⟩, ⟨(some 41), .mv (.t 64), none, [0]⟩]))))))) (.seq (.seq (.reg false [⟨(some 65), .mv (.t 0), none, []⟩, ⟨(some 66), .nilck (.t 65), none, [0]⟩, ⟨(some 67), .fld 1 (.t 66), none, [1]⟩, ⟨(some 68), .load none (.t 67), none, [2]⟩, ⟨(some 69), .mv (.t 68), none, [3]⟩, ⟨(some 70), .mv (.t 0), (some (69, false)), [4]⟩, ⟨(some 71), .nilck (.t 70), (some (69, false)), [5, 4]⟩, ⟨(some 72), .fld 6 (.t 71), (some (69, false)), [6, 4]⟩, ⟨(some 73), .load (some 9) (.t 72), (some (69, false)), [7, 4]⟩, ⟨(some 74), .call 24 [(.t 73)], (some (69, false)), [8, 4, 4]⟩, ⟨(some 75), .un .not (.t 74), (some (69, false)), [9, 4]⟩, ⟨(some 76), .pick (.t 69) (.v (.bool true)) (.t 75), none, [4, 10]⟩]) (.cond (.t 76) (.seq (.reg false [⟨(some 6), .mv (.v (.bool false)), none, []⟩]) (.ret)) (.skip))) (.reg true [⟨(some 77), .mv (.t 0), none, []⟩, ⟨(some 78), .mv (.t 0), none, []⟩, ⟨(some 79), .nilck (.t 78), none, [1]⟩, ⟨(some 80), .fld 2 (.t 79), none, [2]⟩, ⟨(some 81), .fld 0 (.t 80), none, [3]⟩, ⟨(some 82), .load none (.t 81), none, [4]⟩, ⟨(some 83), .mv (.t 0), none, []⟩, ⟨(some 84), .nilck (.t 83), none, [6]⟩, ⟨(some 85), .fld 6 (.t 84), none, [7]⟩, ⟨(some 86), .load (some 9) (.t 85), none, [8]⟩, ⟨(some 87), .bslice 42 9 [(.int .i64 0), (.int .i64 0), (.int .i64 0), (.int .i64 0), (.int .i64 0), (.int .i64 0), (.int .i64 0), (.int .i64 0), (.int .i64 0)] 1 [(0, 9, (.t 86))], none, [9]⟩, ⟨(some 88), .hal 89 (.app 42 9 72 (.t 82) (.t 87)), none, [5, 10]⟩, ⟨(some 89), .nilck (.t 77), none, [0, 0, 1, 2, 3, 4, 5, 6, 7, 8, 9, 10, 11]⟩, ⟨(some 90), .fld 2 (.t 89), none, [12, 0, 1, 2, 3, 4, 5, 6, 7, 8, 9, 10, 11]⟩, ⟨(some 91), .fld 0 (.t 90), none, [13, 0, 1, 2, 3, 4, 5, 6, 7, 8, 9, 10, 11]⟩, ⟨none, .store 1 (.t 91) (.t 88), none, [14, 11, 11, 0, 1, 2, 3, 4, 5, 6, 7, 8, 9, 10, 11]⟩])))) (.reg false [⟨(some 92), .bin .add (.t 35) (.v (.int .i64 1)), none, []⟩, ⟨(some 35), .mv (.t 92), none, [0]⟩]))))))) (.seq (.reg false [⟨(some 93), .mv (.t 1), none, []⟩, ⟨(some 94), .nilck (.t 93), none, [0]⟩, ⟨(some 95), .fld 2 (.t 94), none, [1]⟩, ⟨(some 96), .fld 1 (.t 95), none, [2]⟩, ⟨(some 97), .fld 0 (.t 96), none, [3]⟩, ⟨(some 98), .load none (.t 97), none, [4]⟩, ⟨(some 99), .len (.t 98), none, [5]⟩, ⟨(some 10), .mv (.t 99), none, [6, 0, 1, 2, 3, 4, 5, 6]⟩]) (.seq (.reg true [⟨(some 100), .mv (.t 10), none, []⟩, ⟨(some 101), .mv (.t 0), none, []⟩, ⟨(some 102), .nilck (.t 101), none, [1]⟩, ⟨(some 103), .fld 2 (.t 102), none, [2]⟩, ⟨(some 104), .fld 0 (.t 103), none, [3]⟩, ⟨(some 105), .load none (.t 104), none, [4]⟩, ⟨(some 106), .callh 27 [(.t 100), (.t 105)], none, [0, 5]⟩, ⟨(some 107), .mv (.t 10), none, []⟩, ⟨(some 108), .mv (.t 0), none, []⟩, ⟨(some 109), .nilck (.t 108), none, [8]⟩, ⟨(some 110), .fld 2 (.t 109), none, [9]⟩, ⟨(some 111), .fld 1 (.t 110), none, [10]⟩, ⟨(some 112), .fld 0 (.t 111), none, [11]⟩, ⟨(some 113), .load none (.t 112), none, [12]⟩, ⟨(some 114), .len (.t 113), none, [13]⟩, ⟨(some 115), .bin .add (.t 107) (.t 114), none, [7, 14]⟩, ⟨(some 116), .bin .eql (.t 106) (.t 115), none, [6, 15]⟩, ⟨(some 6), .mv (.t 116), none, [16, 6, 0, 1, 2, 3, 4, 5, 6, 7, 8, 9, 10, 11, 12, 13, 14, 15, 16]⟩]) (.ret)))))
def prp61 : List PR := [.t 6]
abbrev msp61_0 : List Nat := [36, 37, 38, 39, 40, 41, 42, 43, 8, 44, 45, 9, 46, 47, 48, 49, 50, 51, 52, 53, 54, 55, 56, 57, 58, 59, 60, 61, 62, 63, 64, 65, 66, 67, 68, 69, 70, 71, 72, 73, 74, 75, 76, 6, 77, 78, 79, 80, 81, 82, 83, 84, 85, 86, 87, 88, 89, 90, 91, 92, 35]
abbrev osp61_0 : List Nat := [8, 87, 0]
abbrev msp61_1 : List Nat := [42, 43, 8, 44, 45, 9, 46, 47, 48, 49, 50, 51, 52, 53, 54, 55, 56, 57, 58, 59, 60, 61, 62, 63, 64, 41]
abbrev osp61_1 : List Nat := [8]
def flp61 : List (Nat × List Bool) := [(5000088, List.replicate 1 false), (6000060, List.replicate 1 false), (6000048, List.replicate 1 false), (6000027, List.replicate 1 false)]
theorem bdp61:Try.f61.body=some (Try.f61.body.getD .skip):=by kernel_rfl
theorem cpp61:bY Try.prog Try.f61.ntmps (fJ ++ flp61) (Try.f61.body.getD .skip)=some pcp61:=by kernel_rfl
theorem sqp61 [bT] {env:Env} (hE:aA Try.prog env) {R:(Nat→Hb)→List Hw→((Nat→Hb)→List Hw→Prop)→Prop} (hR:∀ hp az Post,R hp az Post→az.length≤117∧∃ nc,pwp env pcp61 (fun e s=>(e=.normal∨e=.ret)∧∃ hp' rs,s.gP prp61=some rs∧(∀ b,hp' b=s.hb b∨(hp' b=.dead∧s.hb b≠.no))∧Post hp' rs) (St.eG nc hp az)):dY Try.prog 61 R :=
 eP hE (mO bZ (by kernel_rfl)) bA Try.func61 bdp61 cpp61 (by kernel_rfl) (by kernel_rfl) (by kernel_rfl) hR
def pcp50 : PC := .seq (.reg false [⟨(some 2), .mv (.v (.int .i64 0)), none, []⟩]) (.scope 0 (.seq (.reg false [⟨(some 3), .mv (.v (.int .u8 0)), none, []⟩]) (.seq (.reg false [⟨(some 4), .mv (.v (.int .i64 0)), none, []⟩, ⟨(some 5), .mv (.v (.int .i64 0)), none, [0]⟩, ⟨(some 6), .mv (.v (.int .i64 0)), none, [1]⟩, ⟨(some 7), .mv (.v (.int .i64 0)), none, [2]⟩]) (.seq (.reg false [⟨(some 12), .hal 13 (.map 113), none, []⟩, ⟨(some 13), .mv (.t 0), none, []⟩, ⟨(some 14), .nilck (.t 13), none, [1]⟩, ⟨(some 15), .fld 6 (.t 14), none, [2]⟩, ⟨(some 16), .load (some 9) (.t 15), none, [3]⟩, ⟨(some 17), .build [(.slice none 0 0), (.bool false), (.slice none 0 0), (.slice none 0 0), (.slice none 0 0), (.map none), (.int .i64 0), (.int .i64 0), (.int .i64 0), (.int .i64 0), (.int .i64 0), (.int .i64 0), (.int .i64 0), (.int .i64 0), (.int .i64 0)] [(5, 1, (.t 12)), (6, 9, (.t 16))], none, [0, 4]⟩, ⟨(some 18), .hal 19 (.box (.t 17)), none, [5]⟩, ⟨(some 8), .mv (.t 18), none, [6, 0, 1, 2, 3, 4, 5, 6]⟩]) (.seq (.reg false [⟨(some 9), .mv (.v (.int .i64 8)), none, []⟩]) (.seq (.reg true [⟨(some 19), .mv (.t 0), none, []⟩, ⟨(some 20), .nilck (.t 19), none, [0]⟩, ⟨(some 21), .fld 0 (.t 20), none, [1]⟩, ⟨(some 22), .load none (.t 21), none, [2]⟩, ⟨(some 23), .mv (.t 0), none, []⟩, ⟨(some 24), .nilck (.t 23), none, [4]⟩, ⟨(some 25), .fld 1 (.t 24), none, [5]⟩, ⟨(some 26), .load none (.t 25), none, [6]⟩, ⟨(some 27), .slc 1 (.t 22) (some (.t 26)) none, none, [3, 7]⟩, ⟨(some 10), .mv (.t 27), none, [8, 0, 1, 2, 3, 4, 5, 6, 7, 8]⟩]) (.seq (.seq (.reg false [⟨(some 28), .mv (.t 10), none, []⟩, ⟨(some 29), .len (.t 28), none, [0]⟩, ⟨(some 30), .bin .eql (.t 29) (.v (.int .i64 0)), none, [1]⟩, ⟨(some 31), .mv (.t 30), none, [2]⟩, ⟨(some 32), .mv (.t 10), (some (31, false)), [3]⟩, ⟨(some 33), .ixs 1 (.t 32) (.v (.int .i64 0)), (some (31, false)), [4, 3]⟩, ⟨(some 34), .load none (.t 33), (some (31, false)), [5, 3]⟩, ⟨(some 35), .bin .neq (.t 34) (.v (.int .u8 66)), (some (31, false)), [6, 3]⟩, ⟨(some 36), .mv (.t 35), (some (31, false)), [7, 3, 3]⟩, ⟨(some 37), .mv (.t 10), (some (36, true)), [8]⟩, ⟨(some 38), .ixs 1 (.t 37) (.v (.int .i64 0)), (some (36, true)), [9, 8]⟩, ⟨(some 39), .load none (.t 38), (some (36, true)), [10, 8]⟩, ⟨(some 40), .bin .neq (.t 39) (.v (.int .u8 69)), (some (36, true)), [11, 8]⟩, ⟨(some 41), .pick (.t 36) (.t 40) (.v (.bool false)), (some (31, false)), [8, 12, 3]⟩, ⟨(some 42), .pick (.t 31) (.v (.bool true)) (.t 41), none, [3, 13]⟩]) (.cond (.t 42) (.goto 0) (.skip))) (.seq (.reg false [⟨(some 43), .mv (.t 10), none, []⟩, ⟨(some 44), .ixs 1 (.t 43) (.v (.int .i64 0)), none, [0]⟩, ⟨(some 45), .load none (.t 44), none, [1]⟩, ⟨(some 3), .mv (.t 45), none, [2, 0, 1, 2]⟩]) (.seq (.reg false [⟨(some 47), .mv (.t 10), none, []⟩, ⟨(some 48), .slc 1 (.t 47) (some (.v (.int .i64 1))) none, none, [0]⟩, ⟨(some 49), .call 58 [(.t 48)], none, [1]⟩, ⟨(some 46), .mv (.t 49), none, [2]⟩, ⟨(some 50), .ext (.t 46) 0, none, [3]⟩, ⟨(some 51), .ext (.t 46) 1, none, [3]⟩, ⟨(some 4), .mv (.t 50), none, [4, 2, 0, 1, 2, 3, 4]⟩, ⟨(some 5), .mv (.t 51), none, [5, 6, 0, 1, 2, 3, 4, 5, 6]⟩]) (.seq (.reg false [⟨(some 52), .mv (.t 5), none, []⟩, ⟨(some 53), .bin .add (.v (.int .i64 1)) (.t 52), none, [0]⟩, ⟨(some 54), .mv (.t 4), none, []⟩, ⟨(some 55), .bin .add (.t 53) (.t 54), none, [1, 2]⟩, ⟨(some 7), .mv (.t 55), none, [3, 0, 1, 2, 3]⟩]) (.seq (.seq (.reg false [⟨(some 56), .mv (.t 5), none, []⟩, ⟨(some 57), .bin .eql (.t 56) (.v (.int .i64 0)), none, [0]⟩, ⟨(some 58), .mv (.t 57), none, [1]⟩, ⟨(some 59), .mv (.t 4), (some (58, false)), [2]⟩, ⟨(some 60), .bin .gtr (.t 59) (.v (.int .i64 1048576)), (some (58, false)), [3, 2]⟩, ⟨(some 61), .pick (.t 58) (.v (.bool true)) (.t 60), none, [2, 4]⟩, ⟨(some 62), .mv (.t 61), none, [5, 2]⟩, ⟨(some 63), .mv (.t 10), (some (62, false)), [6]⟩, ⟨(some 64), .len (.t 63), (some (62, false)), [7, 6]⟩, ⟨(some 65), .mv (.t 7), (some (62, false)), [6]⟩, ⟨(some 66), .bin .add (.t 65) (.v (.int .i64 4)), (some (62, false)), [9, 6]⟩, ⟨(some 67), .bin .lss (.t 64) (.t 66), (some (62, false)), [8, 10, 6]⟩, ⟨(some 68), .pick (.t 62) (.v (.bool true)) (.t 67), none, [6, 11]⟩]) (.cond (.t 68) (.goto 0) (.skip))) (.seq (.seq (.reg true [⟨(some 69), .mv (.t 10), none, []⟩, ⟨(some 70), .mv (.t 7), none, []⟩, ⟨(some 71), .slc 1 (.t 69) none (some (.t 70)), none, [0, 1]⟩, ⟨(some 72), .callh 46 [(.v (.slice none 0 0)), (.t 71)], none, [2]⟩, ⟨(some 73), .mv (.t 10), none, []⟩, ⟨(some 74), .mv (.t 7), none, []⟩, ⟨(some 75), .mv (.t 7), none, []⟩, ⟨(some 76), .bin .add (.t 75) (.v (.int .i64 4)), none, [6]⟩, ⟨(some 77), .slc 1 (.t 73) (some (.t 74)) (some (.t 76)), none, [4, 5, 7]⟩, ⟨(some 78), .callh 57 [(.t 72), (.t 77)], none, [3, 8, 3]⟩, ⟨(some 79), .un .not (.t 78), none, [9]⟩]) (.cond (.t 79) (.seq (.reg false [⟨(some 9), .mv (.v (.int .i64 9)), none, []⟩]) (.goto 0)) (.skip))) (.seq (.reg false [⟨(some 80), .mv (.t 8), none, []⟩, ⟨(some 81), .mv (.t 10), none, []⟩, ⟨(some 82), .mv (.t 5), none, []⟩, ⟨(some 83), .bin .add (.v (.int .i64 1)) (.t 82), none, [2]⟩, ⟨(some 84), .mv (.t 7), none, []⟩, ⟨(some 85), .slc 1 (.t 81) (some (.t 83)) (some (.t 84)), none, [1, 3, 4]⟩, ⟨(some 86), .nilck (.t 80), none, [0, 0, 1, 2, 3, 4, 5]⟩, ⟨(some 87), .fld 0 (.t 86), none, [6, 0, 1, 2, 3, 4, 5]⟩, ⟨none, .store 1 (.t 87) (.t 85), none, [7, 5, 0, 1, 2, 3, 4, 5]⟩]) (.seq (.seq (.reg false [⟨(some 88), .mv (.t 8), none, []⟩, ⟨(some 89), .mv (.t 0), none, []⟩, ⟨(some 90), .callp 59 [(.t 88), (.t 89)], none, [0, 1]⟩, ⟨(some 91), .un .not (.t 90), none, [2]⟩]) (.cond (.t 91) (.goto 0) (.skip))) (.seq (.reg false [⟨(some 92), .mv (.t 8), none, []⟩, ⟨(some 93), .callh 60 [(.t 92)], none, [0]⟩, ⟨(some 6), .mv (.t 93), none, [1, 1, 0, 1]⟩]) (.seq (.seq (.reg false [⟨(some 94), .mv (.t 8), none, []⟩, ⟨(some 95), .nilck (.t 94), none, [0]⟩, ⟨(some 96), .fld 1 (.t 95), none, [1]⟩, ⟨(some 97), .load none (.t 96), none, [2]⟩, ⟨(some 98), .mv (.t 97), none, [3]⟩, ⟨(some 99), .mv (.t 3), (some (98, false)), [4]⟩, ⟨(some 100), .bin .eql (.t 99) (.v (.int .u8 69)), (some (98, false)), [5, 4]⟩, ⟨(some 101), .mv (.t 100), (some (98, false)), [6, 4, 4]⟩, ⟨(some 102), .mv (.t 6), (some (101, true)), [7]⟩, ⟨(some 103), .mv (.t 0), (some (101, true)), [7]⟩, ⟨(some 104), .nilck (.t 103), (some (101, true)), [9, 7]⟩, ⟨(some 105), .fld 2 (.t 104), (some (101, true)), [10, 7]⟩, ⟨(some 106), .fld 0 (.t 105), (some (101, true)), [11, 7]⟩, ⟨(some 107), .load none (.t 106), (some (101, true)), [12, 7]⟩, ⟨(some 108), .len (.t 107), (some (101, true)), [13, 7]⟩, ⟨(some 109), .bin .neq (.t 102) (.t 108), (some (101, true)), [8, 14, 7]⟩, ⟨(some 110), .pick (.t 101) (.t 109) (.v (.bool false)), (some (98, false)), [7, 15, 4]⟩, ⟨(some 111), .pick (.t 98) (.v (.bool true)) (.t 110), none, [4, 16]⟩, ⟨(some 112), .mv (.t 111), none, [17, 7]⟩, ⟨(some 113), .mv (.t 3), (some (112, false)), [18]⟩, ⟨(some 114), .bin .eql (.t 113) (.v (.int .u8 66)), (some (112, false)), [19, 18]⟩, ⟨(some 115), .mv (.t 114), (some (112, false)), [20, 18, 18]⟩, ⟨(some 116), .mv (.t 8), (some (115, true)), [21]⟩, ⟨(some 117), .mv (.t 0), (some (115, true)), [21]⟩, ⟨(some 118), .mv (.t 6), (some (115, true)), [21]⟩, ⟨(some 119), .callp 61 [(.t 116), (.t 117), (.t 118)], (some (115, true)), [22, 23, 24, 21, 21]⟩, ⟨(some 120), .un .not (.t 119), (some (115, true)), [25, 21]⟩, ⟨(some 121), .pick (.t 115) (.t 120) (.v (.bool false)), (some (112, false)), [21, 26, 18]⟩, ⟨(some 122), .pick (.t 112) (.v (.bool true)) (.t 121), none, [18, 27]⟩, ⟨(some 123), .mv (.t 122), none, [28, 25]⟩, ⟨(some 124), .mv (.t 8), (some (123, false)), [29]⟩, ⟨(some 125), .nilck (.t 124), (some (123, false)), [30, 29]⟩, ⟨(some 126), .fld 0 (.t 125), (some (123, false)), [31, 29]⟩, ⟨(some 127), .load none (.t 126), (some (123, false)), [32, 29]⟩, ⟨(some 128), .len (.t 127), (some (123, false)), [33, 29]⟩, ⟨(some 129), .bin .gtr (.t 128) (.v (.int .i64 0)), (some (123, false)), [34, 29]⟩, ⟨(some 130), .pick (.t 123) (.v (.bool true)) (.t 129), none, [29, 35]⟩]) (.cond (.t 130) (.goto 0) (.skip))) (.seq (.reg false [⟨(some 131), .mv (.t 0), none, []⟩, ⟨(some 132), .mv (.t 3), none, []⟩, ⟨(some 133), .bin .eql (.t 132) (.v (.int .u8 66)), none, [1]⟩, ⟨(some 134), .mv (.t 133), none, [2]⟩, ⟨(some 135), .mv (.t 6), (some (134, true)), [3]⟩, ⟨(some 136), .bin .lss (.t 135) (.v (.int .i64 16)), (some (134, true)), [4, 3]⟩, ⟨(some 137), .pick (.t 134) (.t 136) (.v (.bool false)), none, [3, 5]⟩, ⟨(some 138), .nilck (.t 131), none, [0, 0, 1, 2, 3, 4, 5, 6]⟩, ⟨(some 139), .fld 15 (.t 138), none, [7, 0, 1, 2, 3, 4, 5, 6]⟩, ⟨none, .store 1 (.t 139) (.t 137), none, [8, 6, 3, 0, 1, 2, 3, 4, 5, 6]⟩]) (.seq (.reg false [⟨(some 140), .mv (.t 0), none, []⟩, ⟨(some 141), .nilck (.t 140), none, [0]⟩, ⟨(some 142), .fld 1 (.t 141), none, [1]⟩, ⟨(some 143), .load none (.t 142), none, [2]⟩, ⟨(some 144), .mv (.t 7), none, []⟩, ⟨(some 145), .bin .add (.t 144) (.v (.int .i64 4)), none, [4]⟩, ⟨(some 146), .bin .add (.t 143) (.t 145), none, [3, 5]⟩, ⟨(some 147), .nilck (.t 140), none, [0, 0, 1, 2, 3, 4, 5, 6]⟩, ⟨(some 148), .fld 1 (.t 147), none, [7, 0, 1, 2, 3, 4, 5, 6]⟩, ⟨none, .store 1 (.t 148) (.t 146), none, [8, 6, 0, 1, 2, 3, 4, 5, 6]⟩]) (.seq (.reg true [⟨(some 149), .mv (.t 0), none, []⟩, ⟨(some 150), .mv (.t 0), none, []⟩, ⟨(some 151), .nilck (.t 150), none, [1]⟩, ⟨(some 152), .fld 2 (.t 151), none, [2]⟩, ⟨(some 153), .fld 1 (.t 152), none, [3]⟩, ⟨(some 154), .fld 0 (.t 153), none, [4]⟩, ⟨(some 155), .load none (.t 154), none, [5]⟩, ⟨(some 156), .mv (.t 8), none, []⟩, ⟨(some 157), .nilck (.t 156), none, [7]⟩, ⟨(some 158), .fld 2 (.t 157), none, [8]⟩, ⟨(some 159), .fld 1 (.t 158), none, [9]⟩, ⟨(some 160), .fld 0 (.t 159), none, [10]⟩, ⟨(some 161), .load none (.t 160), none, [11]⟩, ⟨(some 162), .hal 163 (.app 50 2 16 (.t 155) (.t 161)), none, [6, 12]⟩, ⟨(some 163), .nilck (.t 149), none, [0, 0, 1, 2, 3, 4, 5, 6, 7, 8, 9, 10, 11, 12, 13]⟩, ⟨(some 164), .fld 2 (.t 163), none, [14, 0, 1, 2, 3, 4, 5, 6, 7, 8, 9, 10, 11, 12, 13]⟩, ⟨(some 165), .fld 1 (.t 164), none, [15, 0, 1, 2, 3, 4, 5, 6, 7, 8, 9, 10, 11, 12, 13]⟩, ⟨(some 166), .fld 0 (.t 165), none, [16, 0, 1, 2, 3, 4, 5, 6, 7, 8, 9, 10, 11, 12, 13]⟩, ⟨none, .store 1 (.t 166) (.t 162), none, [17, 13, 13, 0, 1, 2, 3, 4, 5, 6, 7, 8, 9, 10, 11, 12, 13]⟩]) (.seq (.reg true [⟨(some 167), .mv (.t 0), none, []⟩, ⟨(some 168), .mv (.t 0), none, []⟩, ⟨(some 169), .nilck (.t 168), none, [1]⟩, ⟨(some 170), .fld 2 (.t 169), none, [2]⟩, ⟨(some 171), .fld 1 (.t 170), none, [3]⟩, ⟨(some 172), .fld 1 (.t 171), none, [4]⟩, ⟨(some 173), .load none (.t 172), none, [5]⟩, ⟨(some 174), .mv (.t 8), none, []⟩, ⟨(some 175), .nilck (.t 174), none, [7]⟩, ⟨(some 176), .fld 2 (.t 175), none, [8]⟩, ⟨(some 177), .fld 1 (.t 176), none, [9]⟩, ⟨(some 178), .fld 1 (.t 177), none, [10]⟩, ⟨(some 179), .load none (.t 178), none, [11]⟩, ⟨(some 180), .hal 181 (.app 3 1 8 (.t 173) (.t 179)), none, [6, 12]⟩, ⟨(some 181), .nilck (.t 167), none, [0, 0, 1, 2, 3, 4, 5, 6, 7, 8, 9, 10, 11, 12, 13]⟩, ⟨(some 182), .fld 2 (.t 181), none, [14, 0, 1, 2, 3, 4, 5, 6, 7, 8, 9, 10, 11, 12, 13]⟩, ⟨(some 183), .fld 1 (.t 182), none, [15, 0, 1, 2, 3, 4, 5, 6, 7, 8, 9, 10, 11, 12, 13]⟩, ⟨(some 184), .fld 1 (.t 183), none, [16, 0, 1, 2, 3, 4, 5, 6, 7, 8, 9, 10, 11, 12, 13]⟩, ⟨none, .store 1 (.t 184) (.t 180), none, [17, 13, 13, 0, 1, 2, 3, 4, 5, 6, 7, 8, 9, 10, 11, 12, 13]⟩]) (.seq (.reg true [⟨(some 185), .mv (.t 0), none, []⟩, ⟨(some 186), .mv (.t 0), none, []⟩, ⟨(some 187), .nilck (.t 186), none, [1]⟩, ⟨(some 188), .fld 2 (.t 187), none, [2]⟩, ⟨(some 189), .fld 0 (.t 188), none, [3]⟩, ⟨(some 190), .load none (.t 189), none, [4]⟩, ⟨(some 191), .mv (.t 8), none, []⟩, ⟨(some 192), .nilck (.t 191), none, [6]⟩, ⟨(some 193), .fld 2 (.t 192), none, [7]⟩, ⟨(some 194), .fld 0 (.t 193), none, [8]⟩, ⟨(some 195), .load none (.t 194), none, [9]⟩, ⟨(some 196), .hal 197 (.app 42 9 72 (.t 190) (.t 195)), none, [5, 10]⟩, ⟨(some 197), .nilck (.t 185), none, [0, 0, 1, 2, 3, 4, 5, 6, 7, 8, 9, 10, 11]⟩, ⟨(some 198), .fld 2 (.t 197), none, [12, 0, 1, 2, 3, 4, 5, 6, 7, 8, 9, 10, 11]⟩, ⟨(some 199), .fld 0 (.t 198), none, [13, 0, 1, 2, 3, 4, 5, 6, 7, 8, 9, 10, 11]⟩, ⟨none, .store 1 (.t 199) (.t 196), none, [14, 11, 11, 0, 1, 2, 3, 4, 5, 6, 7, 8, 9, 10, 11]⟩]) (.seq (.seq (.reg false [⟨(some 200), .mv (.t 8), none, []⟩, ⟨(some 201), .nilck (.t 200), none, [0]⟩, ⟨(some 202), .fld 5 (.t 201), none, [1]⟩, ⟨(some 203), .load none (.t 202), none, [2]⟩, ⟨(some 204), .hal 205 (.range (.t 203)), none, [3]⟩]) (.block 0 (.loop (.seq (.reg false [⟨(some 205), .next (.t 204), none, []⟩, ⟨(some 206), .ext (.t 205) 0, none, [0]⟩]) (.seq (.cond (.t 206) (.skip) (.exit 0)) (.block 1 (.seq (.reg false [⟨(some 207), .entry (.t 204), none, []⟩, ⟨(some 208), .ext (.t 207) 0, none, [0]⟩, ⟨(some 11), .new [(.int .i64 0), (.int .i64 0), (.int .i64 0)], none, []⟩, ⟨none, .store 3 (.t 11) (.t 208), none, [2, 1, 0, 1, 2]⟩]) (.reg true [⟨(some 209), .mv (.t 0), none, []⟩, ⟨(some 210), .nilck (.t 209), none, [0]⟩, ⟨(some 211), .fld 5 (.t 210), none, [1]⟩, ⟨(some 212), .load none (.t 211), none, [2]⟩, ⟨(some 213), .load (some 3) (.t 11), none, []⟩, ⟨none, .mup 113 (.t 212) (.t 213) (.v (.bool true)), none, [3, 4, 0, 1, 2, 3, 4]⟩])))))))) (.seq (.reg false [⟨(some 214), .mv (.t 0), none, []⟩, ⟨(some 215), .mv (.t 0), none, []⟩, ⟨(some 216), .mv (.t 8), none, []⟩, ⟨(some 217), .nilck (.t 216), none, [2]⟩, ⟨(some 218), .fld 6 (.t 217), none, [3]⟩, ⟨(some 219), .load (some 9) (.t 218), none, [4]⟩, ⟨(some 220), .mv (.t 3), none, []⟩, ⟨(some 221), .bin .eql (.t 220) (.v (.int .u8 69)), none, [6]⟩, ⟨(some 222), .nilck (.t 214), none, [0, 0, 2, 3, 4, 5]⟩, ⟨(some 223), .fld 6 (.t 222), none, [8, 0, 2, 3, 4, 5]⟩, ⟨none, .store 9 (.t 223) (.t 219), none, [9, 5, 0, 2, 3, 4, 5]⟩, ⟨(some 224), .nilck (.t 215), none, [1, 0, 1, 2, 3, 4, 5, 6, 7, 8, 9, 10]⟩, ⟨(some 225), .fld 16 (.t 224), none, [11, 0, 1, 2, 3, 4, 5, 6, 7, 8, 9, 10]⟩, ⟨none, .store 1 (.t 225) (.t 221), none, [12, 7, 10, 0, 1, 2, 3, 4, 5, 6, 7, 8, 9, 10]⟩]) (.seq (.seq (.reg false [⟨(some 2), .mv (.v (.int .i64 0)), none, []⟩]) (.ret)) (.seq (.skip) (.seq (.reg false [⟨(some 226), .mv (.t 9), none, []⟩, ⟨(some 2), .mv (.t 226), none, [0, 0]⟩]) (.ret)))))))))))))))))))))))))) (.seq (.skip) (.seq (.reg false [⟨(some 226), .mv (.t 9), none, []⟩, ⟨(some 2), .mv (.t 226), none, [0, 0]⟩]) (.ret))))
def prp50 : List PR := [.t 2]
abbrev msp50_0 : List Nat := [205, 206, 207, 208, 11, 209, 210, 211, 212, 213]
abbrev osp50_0 : List Nat := [11]
def flp50 : List (Nat × List Bool) := [(5000012, List.replicate 1 false), (5000018, List.replicate 1 false), (5000162, List.replicate 1 false), (5000180, List.replicate 1 false), (5000196, List.replicate 1 false), (6000060, List.replicate 1 false), (8000059, List.replicate 1 false), (8000061, List.replicate 1 false), (6000046, List.replicate 1 false), (6000057, List.replicate 1 false)]
theorem bdp50:Try.f50.body=some (Try.f50.body.getD .skip):=by kernel_rfl
theorem cpp50:bY Try.prog Try.f50.ntmps (fJ ++ flp50) (Try.f50.body.getD .skip)=some pcp50:=by kernel_rfl
theorem sqp50 [bT] {env:Env} (hE:aA Try.prog env) {R:(Nat→Hb)→List Hw→((Nat→Hb)→List Hw→Prop)→Prop} (hR:∀ hp az Post,R hp az Post→az.length≤227∧∃ nc,pwp env pcp50 (fun e s=>(e=.normal∨e=.ret)∧∃ hp' rs,s.gP prp50=some rs∧(∀ b,hp' b=s.hb b∨(hp' b=.dead∧s.hb b≠.no))∧Post hp' rs) (St.eG nc hp az)):dY Try.prog 50 R :=
 eP hE (mO bZ (by kernel_rfl)) bA Try.func50 bdp50 cpp50 (by kernel_rfl) (by kernel_rfl) (by kernel_rfl) hR
def pcp31 : PC := .seq (.reg false [⟨(some 2), .mv (.v (.pointer none)), none, []⟩, ⟨(some 3), .mv (.v (.int .i64 0)), none, [0]⟩]) (.seq (.seq (.reg false [⟨(some 6), .mv (.t 0), none, []⟩, ⟨(some 7), .bslice 5 1 [(.int .u8 0), (.int .u8 0), (.int .u8 0), (.int .u8 0), (.int .u8 0), (.int .u8 0), (.int .u8 0), (.int .u8 0)] 8 [(0, 1, (.v (.int .u8 73))), (1, 1, (.v (.int .u8 84))), (2, 1, (.v (.int .u8 82))), (3, 1, (.v (.int .u8 65))), (4, 1, (.v (.int .u8 67))), (5, 1, (.v (.int .u8 69))), (6, 1, (.v (.int .u8 49))), (7, 1, (.v (.int .u8 10)))], none, []⟩, ⟨(some 8), .stm (.t 7), none, [1]⟩, ⟨(some 9), .call 49 [(.t 6), (.t 8)], none, [0, 2]⟩, ⟨(some 10), .un .not (.t 9), none, [3]⟩]) (.cond (.t 10) (.seq (.reg false [⟨(some 2), .mv (.v (.pointer none)), none, []⟩, ⟨(some 3), .mv (.v (.int .i64 8)), none, [0, 0]⟩]) (.ret)) (.skip))) (.seq (.reg false [⟨(some 11), .mv (.t 0), none, []⟩, ⟨(some 12), .hal 13 (.map 113), none, []⟩, ⟨(some 13), .build [(.slice none 0 0), (.int .i64 0), (.slice none 0 0), (.slice none 0 0), (.slice none 0 0), (.map none), (.int .i64 0), (.int .i64 0), (.int .i64 0), (.int .i64 0), (.int .i64 0), (.int .i64 0), (.int .i64 0), (.int .i64 0), (.int .i64 0), (.bool false), (.bool false)] [(0, 1, (.t 11)), (1, 1, (.v (.int .i64 8))), (5, 1, (.t 12))], none, [0, 1]⟩, ⟨(some 14), .hal 15 (.box (.t 13)), none, [2]⟩, ⟨(some 4), .mv (.t 14), none, [3, 0, 1, 2, 3]⟩]) (.seq (.block 0 (.loop (.seq (.seq (.reg false [⟨(some 15), .mv (.t 4), none, []⟩, ⟨(some 16), .nilck (.t 15), none, [0]⟩, ⟨(some 17), .fld 16 (.t 16), none, [1]⟩, ⟨(some 18), .load none (.t 17), none, [2]⟩, ⟨(some 19), .un .not (.t 18), none, [3]⟩]) (.cond (.t 19) (.skip) (.exit 0))) (.block 1 (.seq (.reg false [⟨(some 20), .mv (.t 4), none, []⟩, ⟨(some 21), .callp 50 [(.t 20)], none, [0]⟩, ⟨(some 5), .mv (.t 21), none, [1, 1, 0, 1]⟩]) (.seq (.reg false [⟨(some 22), .mv (.t 5), none, []⟩, ⟨(some 23), .bin .neq (.t 22) (.v (.int .i64 0)), none, [0]⟩]) (.cond (.t 23) (.seq (.reg false [⟨(some 24), .mv (.t 4), none, []⟩, ⟨(some 25), .mv (.t 5), none, []⟩, ⟨(some 2), .mv (.t 24), none, [0, 0]⟩, ⟨(some 3), .mv (.t 25), none, [1, 2, 0, 1, 2]⟩]) (.ret)) (.skip)))))))) (.seq (.reg false [⟨(some 26), .mv (.t 4), none, []⟩, ⟨(some 2), .mv (.t 26), none, [0, 0]⟩, ⟨(some 3), .mv (.v (.int .i64 0)), none, [1, 0, 1]⟩]) (.ret)))))
def prp31 : List PR := [.t 2, .t 3]
abbrev msp31_0 : List Nat := [15, 16, 17, 18, 19, 20, 21, 5, 22, 23, 24, 25, 2, 3]
abbrev osp31_0 : List Nat := []
def flp31 : List (Nat × List Bool) := [(5000012, List.replicate 1 false), (5000014, List.replicate 1 false), (8000050, List.replicate 1 false)]
theorem bdp31:Try.f31.body=some (Try.f31.body.getD .skip):=by kernel_rfl
theorem cpp31:bY Try.prog Try.f31.ntmps (fJ ++ flp31) (Try.f31.body.getD .skip)=some pcp31:=by kernel_rfl
theorem sqp31 [bT] {env:Env} (hE:aA Try.prog env) {R:(Nat→Hb)→List Hw→((Nat→Hb)→List Hw→Prop)→Prop} (hR:∀ hp az Post,R hp az Post→az.length≤27∧∃ nc,pwp env pcp31 (fun e s=>(e=.normal∨e=.ret)∧∃ hp' rs,s.gP prp31=some rs∧(∀ b,hp' b=s.hb b∨(hp' b=.dead∧s.hb b≠.no))∧Post hp' rs) (St.eG nc hp az)):dY Try.prog 31 R :=
 eP hE (mO bZ (by kernel_rfl)) bA Try.func31 bdp31 cpp31 (by kernel_rfl) (by kernel_rfl) (by kernel_rfl) hR
def pcp18 : PC := .seq (.reg false [⟨(some 2), .new [(.slice none 0 0), (.slice none 0 0), (.slice none 0 0)], none, []⟩, ⟨(some 3), .mv (.v (.int .i64 0)), none, []⟩]) (.seq (.reg false [⟨(some 7), .mv (.t 0), none, []⟩, ⟨(some 8), .callp 31 [(.t 7)], none, [0]⟩, ⟨(some 6), .mv (.t 8), none, [1]⟩, ⟨(some 9), .ext (.t 6) 0, none, [2]⟩, ⟨(some 10), .ext (.t 6) 1, none, [2]⟩, ⟨(some 4), .mv (.t 9), none, [3, 1, 0, 1, 2, 3]⟩, ⟨(some 5), .mv (.t 10), none, [4, 5, 0, 1, 2, 3, 4, 5]⟩]) (.seq (.seq (.reg false [⟨(some 11), .mv (.t 5), none, []⟩, ⟨(some 12), .bin .eql (.t 11) (.v (.int .i64 0)), none, [0]⟩, ⟨(some 13), .mv (.t 12), none, [1]⟩, ⟨(some 14), .mv (.t 4), (some (13, true)), [2]⟩, ⟨(some 15), .nilck (.t 14), (some (13, true)), [3, 2]⟩, ⟨(some 16), .fld 1 (.t 15), (some (13, true)), [4, 2]⟩, ⟨(some 17), .load none (.t 16), (some (13, true)), [5, 2]⟩, ⟨(some 18), .mv (.t 0), (some (13, true)), [2]⟩, ⟨(some 19), .len (.t 18), (some (13, true)), [7, 2]⟩, ⟨(some 20), .bin .lss (.t 17) (.t 19), (some (13, true)), [6, 8, 2]⟩, ⟨(some 21), .pick (.t 13) (.t 20) (.v (.bool false)), none, [2, 9]⟩]) (.cond (.t 21) (.reg false [⟨(some 5), .mv (.v (.int .i64 8)), none, []⟩]) (.skip))) (.seq (.seq (.reg false [⟨(some 22), .mv (.t 5), none, []⟩, ⟨(some 23), .bin .neq (.t 22) (.v (.int .i64 0)), none, [0]⟩]) (.cond (.t 23) (.seq (.reg false [⟨(some 24), .build [(.slice none 0 0), (.slice none 0 0), (.slice none 0 0)] [], none, []⟩, ⟨(some 25), .mv (.t 5), none, []⟩, ⟨none, .store 3 (.t 2) (.t 24), none, [0, 0]⟩, ⟨(some 3), .mv (.t 25), none, [1, 2, 0, 1, 2]⟩]) (.ret)) (.skip))) (.seq (.reg false [⟨(some 26), .mv (.t 4), none, []⟩, ⟨(some 27), .nilck (.t 26), none, [0]⟩, ⟨(some 28), .fld 2 (.t 27), none, [1]⟩, ⟨(some 29), .load (some 3) (.t 28), none, [2]⟩, ⟨none, .store 3 (.t 2) (.t 29), none, [3, 0, 1, 2, 3]⟩, ⟨(some 3), .mv (.v (.int .i64 0)), none, [4, 0, 1, 2, 3, 4]⟩]) (.ret)))))
def prp18 : List PR := [.c 2 (some 3), .t 3]
def flp18 : List (Nat × List Bool) := [(8000031, List.replicate 1 false)]
theorem bdp18:Try.f18.body=some (Try.f18.body.getD .skip):=by kernel_rfl
theorem cpp18:bY Try.prog Try.f18.ntmps (fJ ++ flp18) (Try.f18.body.getD .skip)=some pcp18:=by kernel_rfl
theorem sqp18 [bT] {env:Env} (hE:aA Try.prog env) {R:(Nat→Hb)→List Hw→((Nat→Hb)→List Hw→Prop)→Prop} (hR:∀ hp az Post,R hp az Post→az.length≤30∧∃ nc,pwp env pcp18 (fun e s=>(e=.normal∨e=.ret)∧∃ hp' rs,s.gP prp18=some rs∧(∀ b,hp' b=s.hb b∨(hp' b=.dead∧s.hb b≠.no))∧Post hp' rs) (St.eG nc hp az)):dY Try.prog 18 R :=
 eP hE (mO bZ (by kernel_rfl)) bA Try.func18 bdp18 cpp18 (by kernel_rfl) (by kernel_rfl) (by kernel_rfl) hR
def pcp14 : PC := .seq (.reg false [⟨(some 2), .new [(.slice none 0 0), (.slice none 0 0), (.slice none 0 0)], none, []⟩, ⟨(some 3), .mv (.v (.int .i64 0)), none, []⟩]) (.seq (.reg false [⟨(some 7), .mv (.t 0), none, []⟩, ⟨(some 8), .callp 31 [(.t 7)], none, [0]⟩, ⟨(some 6), .mv (.t 8), none, [1]⟩, ⟨(some 9), .ext (.t 6) 0, none, [2]⟩, ⟨(some 10), .ext (.t 6) 1, none, [2]⟩, ⟨(some 4), .mv (.t 9), none, [3, 1, 0, 1, 2, 3]⟩, ⟨(some 5), .mv (.t 10), none, [4, 5, 0, 1, 2, 3, 4, 5]⟩]) (.seq (.seq (.reg false [⟨(some 11), .mv (.t 4), none, []⟩, ⟨(some 12), .pnil false (.t 11), none, [0]⟩]) (.cond (.t 12) (.seq (.reg false [⟨(some 13), .build [(.slice none 0 0), (.slice none 0 0), (.slice none 0 0)] [], none, []⟩, ⟨none, .store 3 (.t 2) (.t 13), none, [0, 0]⟩, ⟨(some 3), .mv (.v (.int .i64 0)), none, [1, 0, 1]⟩]) (.ret)) (.skip))) (.seq (.reg true [⟨(some 14), .mv (.t 4), none, []⟩, ⟨(some 15), .nilck (.t 14), none, [0]⟩, ⟨(some 16), .fld 2 (.t 15), none, [1]⟩, ⟨(some 17), .load (some 3) (.t 16), none, [2]⟩, ⟨(some 18), .mv (.t 4), none, []⟩, ⟨(some 19), .nilck (.t 18), none, [4]⟩, ⟨(some 20), .fld 1 (.t 19), none, [5]⟩, ⟨(some 21), .load none (.t 20), none, [6]⟩, ⟨none, .store 3 (.t 2) (.t 17), none, [3, 0, 1, 2, 3]⟩, ⟨(some 3), .mv (.t 21), none, [7, 8, 0, 1, 2, 3, 4, 5, 6, 7, 8]⟩]) (.ret))))
def prp14 : List PR := [.c 2 (some 3), .t 3]
def flp14 : List (Nat × List Bool) := [(8000031, List.replicate 1 false)]
theorem bdp14:Try.f14.body=some (Try.f14.body.getD .skip):=by kernel_rfl
theorem cpp14:bY Try.prog Try.f14.ntmps (fJ ++ flp14) (Try.f14.body.getD .skip)=some pcp14:=by kernel_rfl
theorem sqp14 [bT] {env:Env} (hE:aA Try.prog env) {R:(Nat→Hb)→List Hw→((Nat→Hb)→List Hw→Prop)→Prop} (hR:∀ hp az Post,R hp az Post→az.length≤22∧∃ nc,pwp env pcp14 (fun e s=>(e=.normal∨e=.ret)∧∃ hp' rs,s.gP prp14=some rs∧(∀ b,hp' b=s.hb b∨(hp' b=.dead∧s.hb b≠.no))∧Post hp' rs) (St.eG nc hp az)):dY Try.prog 14 R :=
 eP hE (mO bZ (by kernel_rfl)) bA Try.func14 bdp14 cpp14 (by kernel_rfl) (by kernel_rfl) (by kernel_rfl) hR
end Go.Proofs.Ytkafcpnahpfbfaa
end
section
namespace Go.Proofs.Ytkafcpnahpfbfaa
open Go Go.RowKit
set_option maxRecDepth 1000000
set_option maxHeartbeats 4000000
def bU (s:Rs):Nat×Rs:=match rdF 5 true 0 1 s.rest with
 | (some v,r)=>(v,⟨r,s.bad⟩)
 | (none,_)=>(0,⟨s.rest,true⟩)
theorem ny (s:Rs):(bU s).1=(vnt s.rest).1∧(bU s).2.rest=s.rest.drop (vnt s.rest).2∧(bU s).2.bad=(s.bad || decide ((vnt s.rest).2=0))∧(vnt s.rest).2≤s.rest.length:=by
 unfold bU vnt;have h1:=Eu 5 true 0 1 s.rest;obtain ⟨o,r,hq⟩:∃ o r,rdF 5 true 0 1 s.rest=(o,r):=⟨_,_,rfl⟩
 rw [hq] at h1 ⊢
 cases o with
 | some v =>
   have h2:=zl 5 true 0 1 s.rest v (by rw [hq]);rw [hq] at h2;dsimp only at h1 h2 ⊢;have:=h1.length_le;refine ⟨rfl,(Ld h1).symm,?_,by omega⟩;rw [decide_eq_false (by omega),Bool.or_false]
 | none=>exact ⟨rfl,rfl,by simp,by simp⟩
theorem qK (s:Rs):(bU s).2.rest <:+ s.rest:=by rw [(ny s).2.1];exact List.drop_suffix _ _
theorem mD (s:Rs):(bU s).1≤4294967295:=by
 unfold bU;split <;> rename_i h
 ·exact (zl 5 true 0 1 s.rest _ (by rw [h])).1
 ·exact Nat.zero_le _
theorem iy {s:Rs} (h:(bU s).2.bad=false):s.bad=false∧bN s=bU s:=by
 have hb:s.bad=false:=by
  have:=(ny s).2.2.1;rw [h] at this
  cases hs:s.bad with
  | false=>rfl
  | true=>rw [hs] at this;simp at this
 refine ⟨hb,?_⟩;unfold bN bU at *;rw [if_neg (by rw [hb];simp)]
 split at h
 ·rename_i h2;rw [h2,hb]
 ·cases h
theorem jO {s:Rs} (h:(bU s).2.bad=true):(bN s).2.bad=true:=by
 unfold bN bU at *
 by_cases hb:s.bad=true
 ·rw [if_pos hb];exact hb
 ·rw [if_neg hb];split at h
  ·exact absurd h hb
  ·rename_i r h2;rw [h2]
def rsH (s:Rs) (tl:List Hc):Hb:=.cells (.d (.im (byR s.rest)) :: .d (.sc (.bool s.bad)) :: tl)
def vT (hp:Nat→Hb) (az:List Hw) (hp':Nat→Hb) (rs:List Hw):Prop:=∃ (bp:Nat) (s:Rs) (tl:List Hc),az=[.one (hP bp 0)]∧(hp bp=rsH s tl∧s.rest.length≤400000∧∀ x ∈ s.rest,x≤255)∧hp'=up hp bp (rsH (bU s).2 tl)∧rs=[.one (hI (bU s).1)]
theorem Ey:fK Try.prog 60 vT:=by
 refine spp60 (show aA Try.prog (e1 58 Iz e0) from aA.e1 Qg aA.e0) ?_;rintro hp az hp' rs ⟨bp,s,tl,rfl,⟨hc,hl,hb⟩,rfl,rfl⟩;refine ⟨by simp,fun _=>1,?_⟩;obtain ⟨h1,h2,h3,h4⟩:=ny s;obtain ⟨E,hE⟩:∃ E,vnt s.rest=E:=⟨_,rfl⟩
 rw [hE] at h1 h2 h3 h4;obtain ⟨PN,hPN⟩:∃ PN,bU s=PN:=⟨_,rfl⟩
 rw [hPN] at h1 h2 h3 ⊢;obtain ⟨v,⟨r2,b2⟩⟩:=PN;obtain ⟨ev,en⟩:=E;obtain ⟨rest,bad⟩:=s;dsimp only at h1 h2 h3 h4 hE hl hb hc;have hbr:=aV rest;have hba:=dR rest;have hdr:List.drop en (byR rest)=byR (rest.drop en):=by unfold byR;rw [List.map_drop]
 have l1:(en:Int)≤(rest.length:Int):=by omega
 have l0:(0:Int)≤(en:Int):=by omega
 unfold rsH at hc;dsimp only at hc;unfold pcp60
 with_reducible refine aQ ?_
 simp only [↓evP,evB,stB,reduceCtorEq,Nat.reduceEqDiff,hc];refine aF (sJ (ev,en)) (by exact ⟨rest,rfl,⟨hl,hb⟩,by rw [hE]⟩) ?_;have hll:(rest.length:Int)≤(rest.length:Int):=Int.le_refl _;have htk:List.take rest.length (byR rest)=byR rest:=List.take_of_length_le (by rw [hbr];exact Nat.le_refl _)
 subst h2;subst h1
 cases bad with
 | true =>
   have hb2:b2=true:=h3;subst hb2;simp only [↓evP,evB,stB,reduceCtorEq,Nat.reduceEqDiff,Nat.reduceAdd,Nat.reduceLeDiff,hc,hbr,hba,hdr,l1,l0,hll,htk,sJ,prp60,iq,zu,rsH]
 | false =>
   have he:((en:Int) == 0)=b2:=by
    rw [h3,Bool.false_or,Bool.eq_iff_iff,beq_iff_eq,decide_eq_true_eq];omega
   simp only [↓evP,evB,stB,reduceCtorEq,Nat.reduceEqDiff,Nat.reduceAdd,Nat.reduceLeDiff,hc,hbr,hba,hdr,l1,l0,hll,htk,he,sJ,prp60,iq,zu,rsH]
theorem Me:Maps.Keyed Try.prog 113:=Maps.Keyed.of_law (deep_law_gate (by kernel_rfl) (of_decide_eq_true (by kernel_rfl)) (of_decide_eq_true (by kernel_rfl)) (by kernel_rfl) (by kernel_rfl))
theorem QW (d:Nat) {k a b:Int} (hk:gJ k) (ha:gJ a) (hb:gJ b):Try.prog.keyLits (d+2) 113 [.int .i64 k,.int .i64 a,.int .i64 b]=some [.int .i64 k,.int .i64 a,.int .i64 b]:=by
 have hc:Try.prog.cellsOf 113=3:=by kernel_rfl
 have hi:Try.prog.cellsOf 3=1:=by kernel_rfl
 unfold Program.keyLits;rw [Try.underlying113];dsimp only;rw [if_pos (by rw [hc];rfl)]
 simp [hi,List.range_succ,sU d hk,sU d ha,sU d hb]
theorem xq {k a b:Int} (hk:gJ k) (ha:gJ a) (hb:gJ b):(keyOf Try.prog 113 (.agg #[.int .i64 k,.int .i64 a,.int .i64 b])).isSome=true:=by
 obtain ⟨d,hd⟩:∃ d,Try.prog.types.size+1=d+2:=⟨Try.prog.types.size - 1,by have:2≤Try.prog.types.size:=of_decide_eq_true (by kernel_rfl);omega⟩
 have h1:Try.prog.keyType 113=true:=by kernel_rfl
 have hc:Try.prog.cellsOf 113=3:=by kernel_rfl
 unfold keyOf;rw [Try.underlying113];dsimp only;rw [if_pos (by simp [h1,Value.formed,Try.underlying113,hc]),hd];simp only [Value.cells];rw [QW d hk ha hb];rfl
def trW:Hw:=.one (.d (.sc (.bool true)))
structure Kn (es:List (Value×Nat×Hw)) (cl:Nat) (T:Value→Prop):Prop where
 v:∀ e ∈ es,e.2.2=trW
 k:∀ x,x ∈ es.map (·.1)↔T x
 c:∀ e ∈ es,e.2.1 < cl
 u:(es.map (·.2.1)).Nodup
theorem Kn.nil:Kn [] 0 (fun _=>False):=⟨fun e h=>(by cases h),fun x=>by simp,fun e h=>(by cases h),List.nodup_nil⟩
theorem EM {n:Nat} {k:Value} {w:Hw}:∀ es:List (Value×Nat×Hw),(nW es n k w).map (·.2.1)=(match fA es k with | some _=>es.map (·.2.1) | none=>es.map (·.2.1) ++ [n])
 | []=>rfl
 | (x,r) :: es=>by
   unfold nW fA
   by_cases hx:x=k
   ·rw [if_pos hx,if_pos hx];rfl
   ·rw [if_neg hx,if_neg hx,List.map_cons,EM es];cases fA es k <;> rfl
theorem uw {es:List (Value×Nat×Hw)} (hn:(es.map (·.2.1)).Nodup) {e:Value×Nat×Hw} (he:e ∈ es):es.find? (·.2.1 == e.2.1)=some e:=by
 induction es with
 | nil=>cases he
 | cons x es ih =>
   rw [List.map_cons,List.nodup_cons] at hn;rw [List.find?_cons]
   rcases List.mem_cons.1 he with rfl | he
   ·simp
   ·have hne:(x.2.1 == e.2.1)=false:=by
     rw [beq_eq_false_iff_ne];intro q;exact hn.1 (q ▸ List.mem_map.2 ⟨e,he,rfl⟩)
    rw [hne];exact ih hn.2 he
theorem wG:∀ {es:List (Value×Nat×Hw)} {k:Value} {r:Nat×Hw},fA es k=some r→(k,r) ∈ es
 | (x,r') :: es,k,r,h=>by
   unfold fA at h
   by_cases hx:x=k
   ·rw [if_pos hx] at h;cases h;rw [hx];exact List.mem_cons_self ..
   ·rw [if_neg hx] at h;exact List.mem_cons_of_mem _ (wG h)
theorem Kn.look {es:List (Value×Nat×Hw)} {cl:Nat} {T:Value→Prop} (h:Kn es cl T) (x:Value):(T x∧∃ n,fA es x=some (n,trW))∨(¬ T x∧fA es x=none):=by
 cases hq:fA es x with
 | none=>exact .inr ⟨fun q=>uW.1 hq ((h.k x).2 q),rfl⟩
 | some r =>
   have h1:=wG hq;refine .inl ⟨(h.k x).1 (List.mem_map.2 ⟨_,h1,rfl⟩),r.1,?_⟩;have:=h.v _ h1;dsimp only at this;rw [←this]
theorem uX {P:Nat×Hw→Prop} {n:Nat} {k:Value} {w:Hw}:∀ {es:List (Value×Nat×Hw)},(∀ e ∈ es,P e.2)→P (n,w)→(∀ m u,P (m,u)→P (m,w))→∀ e ∈ nW es n k w,P e.2
 | [],_,h2,_,e,he=>by
   unfold nW at he;rw [List.mem_singleton.1 he];exact h2
 | (x,r) :: es,h1,h2,h3,e,he=>by
   unfold nW at he;split at he
   ·rcases List.mem_cons.1 he with q | q
    ·rw [q];exact h3 _ r.2 (h1 (x,r) (List.mem_cons_self ..))
    ·exact h1 e (List.mem_cons_of_mem _ q)
   ·rcases List.mem_cons.1 he with q | q
    ·rw [q];exact h1 (x,r) (List.mem_cons_self ..)
    ·exact uX (fun e h=>h1 e (List.mem_cons_of_mem _ h)) h2 h3 e q
theorem Kn.put {es:List (Value×Nat×Hw)} {cl:Nat} {T:Value→Prop} (h:Kn es cl T) (x:Value):Kn (nW es cl x trW) (match fA es x with | some _=>cl | none=>cl+1) (fun y=>T y∨y=x):=by
 refine ⟨uX (P:=fun e=>e.2=trW) h.v rfl (fun _ _ _=>rfl),fun y=>?_,?_,?_⟩
 ·rw [wH]
  rcases h.look x with ⟨h1,n,h2⟩ | ⟨h1,h2⟩
  ·rw [h2];dsimp only;rw [h.k];exact ⟨.inl,fun q=>q.elim id (fun e=>e ▸ h1)⟩
  ·rw [h2];dsimp only;rw [List.mem_append,h.k,List.mem_singleton]
 ·rcases h.look x with ⟨h1,n,h2⟩ | ⟨h1,h2⟩
  ·rw [h2];dsimp only
   have:∀ es:List (Value×Nat×Hw),(∀ e ∈ es,e.2.1 < cl)→(∃ r,fA es x=some r)→∀ e ∈ nW es cl x trW,e.2.1 < cl:=by
    intro es
    induction es with
    | nil=>rintro _ ⟨r,hr⟩;cases hr
    | cons e0 es ih =>
      obtain ⟨y,r⟩:=e0;intro hall hr e he;unfold nW at he;unfold fA at hr
      by_cases hy:y=x
      ·rw [if_pos hy] at he
       rcases List.mem_cons.1 he with q | q
       ·rw [q];exact hall (y,r) (List.mem_cons_self ..)
       ·exact hall e (List.mem_cons_of_mem _ q)
      ·rw [if_neg hy] at he hr
       rcases List.mem_cons.1 he with q | q
       ·rw [q];exact hall (y,r) (List.mem_cons_self ..)
       ·exact ih (fun e h=>hall e (List.mem_cons_of_mem _ h)) hr e q
   exact this es h.c ⟨_,h2⟩
  ·rw [h2];dsimp only;exact uX (P:=fun e=>e.1 < cl+1) (fun e he=>Nat.lt_succ_of_lt (h.c e he)) (Nat.lt_succ_self _) (fun _ _ q=>q)
 ·rw [EM]
  rcases h.look x with ⟨h1,n,h2⟩ | ⟨h1,h2⟩
  ·rw [h2];exact h.u
  ·rw [h2];dsimp only;rw [List.nodup_append];refine ⟨h.u,by simp,fun a ha b hb=>?_⟩;rw [List.mem_singleton.1 hb];obtain ⟨e,he,rfl⟩:=List.mem_map.1 ha;have:=h.c e he;omega
def r9 (d:Dep) (i:Nat):Value:=mW (fB d i+1) (dX d i).1 (dX d i).2
def KnD (d:Dep) (a b:Nat) (x:Value):Prop:=∃ i,a≤i∧i < b∧r9 d i=x
def D7 (s:Rs):Nat×Rs:=bU s
def I7 (s:Rs):Nat×Rs:=bU (bU s).2
def BG (s:Rs):Nat×Rs:=bU (bU (bU s).2).2
theorem R9 {s:Rs} (h:(BG s).2.bad=false):s.bad=false∧jJ s=((((D7 s).1:Int) - 1,(((I7 s).1:Int),((BG s).1:Int))),(BG s).2):=by
 unfold BG at h;obtain ⟨h1,h2⟩:=iy h;obtain ⟨h3,h4⟩:=iy h1;obtain ⟨h5,h6⟩:=iy h3;refine ⟨h5,?_⟩;unfold jJ D7 I7 BG;dsimp only;rw [h6,h4,h2]
theorem nQ {s:Rs} (h:s.bad=true):(bN s).2.bad=true:=by rw [Ku h];exact h
theorem O5 {s:Rs} (h:(BG s).2.bad=true):(jJ s).2.bad=true:=by
 unfold BG at h;unfold jJ;dsimp only
 cases h2:(bU (bU s).2).2.bad with
 | false =>
   obtain ⟨h3,h4⟩:=iy h2;obtain ⟨h5,h6⟩:=iy h3;rw [h6,h4];exact jO h
 | true =>
   refine nQ ?_
   cases h3:(bU s).2.bad with
   | false =>
     obtain ⟨_,h6⟩:=iy h3;rw [h6];exact jO h2
   | true=>exact nQ (jO h3)
structure Iy (hp hp2:Nat→Hb) (c i b E sz:Nat):Prop where
 hc:∃ cs,hp c=.cells cs∧cs[i]? = some (.d (.sc (.slice none 0 0)))∧hp2 c=.cells (cs.set i (.h (.v b)))
 hb:hp b=.no∧hp2 b=.vec E sz []
 ho:∀ x,x≠c→x≠b→hp2 x=hp x
theorem RHp.nil {W:Wit} {w:World} {hp hp2:Nat→Hb} {c i b E sz:Nat} (hr:RHp W w hp) (h:Iy hp hp2 c i b E sz):∃ W2:Wit,RHp W2 w hp2∧W2.S=W.S∧(∀ x,W.lv x→W2.lv x∧W2.nm x=W.nm x∧W2.nv x=W.nv x)∧(∀ k,dG W2 hp2 k↔dG W hp k)∧∀ az vals,mK W w az vals→mK W2 w az vals:=by
 obtain ⟨⟨cs,hc1,hc2,hc3⟩,⟨hb1,hb2⟩,ho⟩:=h;have hcb:c≠b:=fun q=>by rw [q,hb1] at hc1;cases hc1
 have hnl:¬ W.lv b:=fun q=>(hr.lv b).1 q hb1
 obtain ⟨W2,hW2⟩:∃ W2:Wit,({ W with nv:=up W.nv b (.slice none 0 0),lv:=fun x=>W.lv x∨x=b }:Wit)=W2:=⟨_,rfl⟩
 have eS:W2.S=W.S:=by rw [←hW2]
 have enm:W2.nm=W.nm:=by rw [←hW2]
 have ehf:W2.hf=W.hf:=by rw [←hW2]
 have env':∀ x,x≠b→W2.nv x=W.nv x:=fun x hx=>by rw [←hW2];exact bB hx
 have env2:W2.nv b=.slice none 0 0:=by rw [←hW2];exact dK
 have elv:∀ x,W2.lv x↔W.lv x∨x=b:=fun x=>by rw [←hW2]
 have hkeep:∀ x,W.lv x→W2.lv x∧W2.nm x=W.nm x∧W2.nv x=W.nv x:=fun x hx=>⟨(elv x).2 (.inl hx),by rw [enm],env' x (fun q=>hnl (q ▸ hx))⟩
 have hfol:Fol W G0 O0 w W2 G0 O0 w:=⟨fun k j h1 _=>⟨by rw [eS];exact h1,rfl⟩,fun _=>Nat.le_refl _,fun _ _=>by rw [←hW2],fun o E' sz' k _ ho'=>⟨k,ho',Nat.le_refl _,fun _=>by rw [←hW2]⟩,fun _ _=>by rw [←hW2],hkeep,by rw [←hW2]⟩
 have hcl2:∀ x k,hcl W2 x (hp2 x) k↔hcl W x (hp x) k:=fun x k=>by
  by_cases hxb:x=b
  ·rw [hxb,hb1,hb2]
   show (W2.nv b).ownBlock=some k↔False
   rw [env2];exact ⟨fun q=>(by cases q),fun q=>q.elim⟩
  ·by_cases hxc:x=c
   ·rw [hxc,hc1,hc3]
    show W2.nm c=k↔W.nm c=k
    rw [enm]
   ·rw [ho x hxc hxb]
    cases hp x with
    | no=>exact Iff.rfl
    | dead=>exact Iff.rfl
    | cells cs=>show W2.nm x=k↔W.nm x=k;rw [enm]
    | map k es cl=>show W2.nm x=_↔W.nm x=_;rw [enm]
    | vec E sz rows=>show (W2.nv x).ownBlock=_↔(W.nv x).ownBlock=_;rw [env' x hxb]
    | iter a b c d=>show W2.nm x=_↔W.nm x=_;rw [enm]
    | ab H=>show W2.hf x _↔W.hf x _;rw [ehf]
 refine ⟨W2,⟨fun x=>?_,fun x k hk=>?_,fun x=>?_,fun x y k h1 h2=>hr.ex x y k ((hcl2 x k).1 h1) ((hcl2 y k).1 h2)⟩,eS,hkeep,fun k=>⟨fun ⟨x,hx⟩=>⟨x,(hcl2 x k).1 hx⟩,fun ⟨x,hx⟩=>⟨x,(hcl2 x k).2 hx⟩⟩,fun az vals ⟨q1,q2⟩=>⟨q1,fun j x u e1 e2=>RB.fol hfol (q2 j x u e1 e2)⟩⟩
 ·rw [elv]
  by_cases hxb:x=b
  ·rw [hxb,hb2];exact ⟨fun _ q=>(by cases q),fun _=>.inr rfl⟩
  ·by_cases hxc:x=c
   ·rw [hxc,hc3];exact ⟨fun _ q=>(by cases q),fun _=>.inl ((hr.lv c).2 (by rw [hc1];intro q;cases q))⟩
   ·rw [ho x hxc hxb,hr.lv x];exact ⟨fun q=>q.elim id (fun e=>absurd e hxb),.inl⟩
 ·rw [eS];exact hr.mine x k ((hcl2 x k).1 hk)
 ·by_cases hxb:x=b
  ·rw [hxb,hb2];exact ⟨[],⟨by simp,.inl ⟨env2,rfl⟩⟩,fun r h=>(by cases h),fun i r j x e1 _=>(by simp at e1),fun q=>absurd rfl q⟩
  ·by_cases hxc:x=c
   ·rw [hxc,hc3];have h0:=hr.at_ c;rw [hc1] at h0;obtain ⟨arr,T,e1,e2⟩:=RH.fol hfol h0 (fun _=>(hr.lv c).2 (by rw [hc1];intro q;cases q)) (by rw [ehf]) (fun _ _=>rfl)
    refine ⟨arr,T,e1,?_⟩;obtain ⟨e3,e4⟩:=e2;refine ⟨by rw [List.length_map,List.length_set];rw [List.length_map] at e3;exact e3,fun j c' u g1 g2=>?_⟩
    rw [List.getElem?_map,List.getElem?_set] at g1
    by_cases hij:i=j
    ·subst hij;have hlt:i < cs.length:=(List.getElem?_eq_some_iff.1 hc2).1;rw [if_pos rfl,if_pos hlt] at g1
     have hq:c'=.hv (.v b):=by
      simp only [Option.map_some,Option.some.injEq] at g1;exact g1.symm
     have h9:=e4 i (.d (.sc (.slice none 0 0))) u (by rw [List.getElem?_map,hc2];rfl) g2
     have hu:RD W2.S w (.sc (.slice none 0 0)) u:=h9;cases hu;rw [hq];exact ⟨env2.symm,rfl,(elv b).2 (.inr rfl)⟩
    ·rw [if_neg hij] at g1;exact e4 j c' u (by rw [List.getElem?_map];exact g1) g2
   ·rw [ho x hxc hxb];exact RH.fol hfol (hr.at_ x) (fun q=>(hr.lv x).2 q) (by rw [ehf]) (fun _ _=>rfl)
theorem dY.nil [I:bT] {P:Program} {f:Nat} {R:(Nat→Hb)→List Hw→((Nat→Hb)→List Hw→Prop)→Prop} (h:dY P f R):dY P f (fun hp az Post=>∃ hp2 c i b E sz,Iy hp hp2 c i b E sz∧R hp2 az Post):=by
 rintro hp az Post ⟨hp2,c,i,b,E,sz,hn,hR⟩ W w vals hI hrp hvals;obtain ⟨W2,h1,h2,h3,h4,h5⟩:=hrp.nil hn;have hbut:∀ w w',kL (dG W2 hp2) w w'↔kL (dG W hp) w w':=fun w w'=>⟨fun q=>⟨q.os,q.tape,q.output,q.size,fun k hk hne=>q.block k hk (fun e=>hne ((h4 k).1 e))⟩,fun q=>⟨q.os,q.tape,q.output,q.size,fun k hk hne=>q.block k hk (fun e=>hne ((h4 k).2 e))⟩⟩
 refine Calls.mono (h hp2 az Post hR W2 w vals (fun w' q=>hI w' ((hbut w w').1 q)) h1 (h5 _ _ hvals)) ?_;rintro e w' ⟨hp',rs,hP,u,W',rfl,g1,g2,g3,g4,g5,g6⟩
 exact ⟨hp',rs,hP,u,W',rfl,g1,g2,fun x hx=>by
  obtain ⟨a1,a2,a3⟩:=h3 x hx;obtain ⟨b1,b2,b3⟩:=g3 x a1;exact ⟨b1,b2.trans a2,b3.trans a3⟩,(hbut w w').1 g4,fun k hk=>(g5 k hk).imp ((h4 k).1) id,fun k hk=>by rw [g6 k hk,h2]⟩
end Go.Proofs.Ytkafcpnahpfbfaa
end
