/- Detectors on the heap: awake of chapter 38. -/
import Derived.Test.YtffcpijeebagfaaMo9
import Derived.OpenShut
set_option linter.unusedSimpArgs false
set_option linter.unusedVariables false
section
namespace Go.Proofs.Ytffcpijeebagfaa
open Go Go.RowKit
set_option maxRecDepth 100000
set_option maxHeartbeats 4000000
def uP (l:List Ev) (j:Nat):List Nat:=(List.range j).filter fun i=>iq (ay l i) (ay l j) && decide ((stp l j).getD (ay l i).g.toNat 0 < (ord l i:Int))
theorem vX {l:List Ev} (hc:chk l=l.length) {j:Nat} (hj:j < l.length):bC l j j=uP l j:=by
 unfold bC uP
 apply List.filter_congr
 intro i hi;exact rO hc (List.mem_range.1 hi) hj
def UN (l:List Ev) (k i:Nat):Bool:=(List.range (cu l k).gor.toNat).all fun h=>decide ((h:Int)=(ay l i).g) || decide ((ord l i:Int)≤(qA l h k).getD (ay l i).g.toNat 0)
theorem Vq (l:List Ev) (k i:Nat):setB l k i=UN l k i:=by
 rw [Bool.eq_iff_iff,mI];unfold UN;rw [List.all_eq_true];constructor
 ·intro h x hx;rw [List.mem_range] at hx
  by_cases q:(x:Int)=(ay l i).g
  ·rw [decide_eq_true q];rfl
  ·rw [decide_eq_false q,decide_eq_true (h x (by omega) q)];rfl
 ·intro h x hx q;have:=h x (List.mem_range.2 (by omega));rw [decide_eq_false q,Bool.false_or,decide_eq_true_iff] at this;exact this
def KE (l:List Ev) (k:Nat):List Nat:=(List.range k).filter fun i=>jD (ay l i).kind && !UN l k i
theorem OE (l:List Ev) (k:Nat):live l k=KE l k:=by
 unfold live KE;simp only [Vq]
def evD:List Ev:=[⟨0,14,0,0,1,0,0,0,0⟩,⟨0,2,1,0,0,0,0,0,0⟩,⟨1,2,1,0,0,0,0,0,0⟩,⟨1,1,1,0,0,0,0,0,0⟩]
theorem Gx:chk evD=evD.length:=by decide
theorem raD:uP evD 0=[]∧uP evD 1=[]∧uP evD 2=[1]∧uP evD 3=[1]:=by decide
theorem liD:(KE evD 2).length=1∧(KE evD 4).length=3:=by decide
theorem mD {l:List Ev} (hc:chk l=l.length) (hl:l.length≤900) {k:Nat} (hk:k < l.length) {hp:Nat→Hb} {bd N S:Nat} (h:iZ hp bd N S (l.take k)) (hS:S≤90000) :
 ∃ Post,DT hp [hP bd 0,evW (ay l k)] Post∧∀ hp' rs,Post hp' rs→(∃ N',iZ hp' bd N' (S+2) (l.take (k+1)))∧rs=[.one (.d (.im (bX ((bC l k k).map fun (i:Nat)=>(i:Int))))),.one (hI 0)]:=by
 have hkl:(l.take k).length=k:=List.length_take_of_le (by omega);have hn:=(qZ hk).2 (oZ hc (by omega));obtain ⟨w1,w2,w3,_⟩:=yC hk hn;refine ⟨_,⟨bd,N,S,l.take k,ay l k,rfl,h,⟨oZ hc (by omega),by omega,hS⟩,rfl⟩,?_⟩;rintro hp' rs ⟨N',hD,rfl⟩;rw [w1] at hD;exact ⟨⟨N',hD⟩,by rw [w2,w3,qH hc (by omega) (by omega)]⟩
def xY (hp:Nat→Hb) (az:List Hw) (Post:(Nat→Hb)→List Hw→Prop):Prop:=∃ N,az=[]∧Free hp N∧Post=fun h r=>(∃ N',Free h N')∧r=[.one (.d (dB true))]
noncomputable def Ll:Env:=h1 52 Ap (h1 50 Aq (p1 51 DT e0))
theorem Eo:aG Try.prog Ll:=.h1 OL (.h1 OM (.p1 O7 .e0))
theorem JW:jI Try.prog 45 xY:=by
 refine sqd45 Eo ?_;rintro hp az Post ⟨N,rfl,hN,rfl⟩;refine ⟨by simp,fun _=>1,?_⟩;obtain ⟨hp1,bd,N1,hR1,hD1⟩:=CR hN;obtain ⟨r0,r1,r2,r3⟩:=raD;obtain ⟨l2,l4⟩:=liD;have hlen:evD.length≤900:=by decide
 obtain ⟨P0,hP0,hQ0⟩:=mD Gx hlen (k:=0) (by decide) hD1 (by omega);unfold pcd45;refine aH ?_;simp only [↓evP,evB,stB];refine aN hp1 [hP bd 0] (by simp only [stB];exact hR1) ?_
 simp only [↓evP,evB,stB,reduceCtorEq,Nat.reduceEqDiff,Nat.reduceAdd,Nat.reduceLeDiff];refine dW P0 (by simp only [stB];exact hP0) ?_
 intro hp2 rs hq2;obtain ⟨⟨N2,hD2⟩,rfl⟩:=hQ0 _ _ hq2;rw [vX Gx (by decide),r0];obtain ⟨P1,hP1,hQ1⟩:=mD Gx hlen (k:=1) (by decide) hD2 (by omega);simp only [↓evP,evB,stB,reduceCtorEq,Nat.reduceEqDiff,Nat.reduceAdd,Nat.reduceLeDiff];refine dW P1 (by simp only [stB];exact hP1) ?_
 intro hp3 rs hq3;obtain ⟨⟨N3,hD3⟩,rfl⟩:=hQ1 _ _ hq3;rw [vX Gx (by decide),r1];obtain ⟨hp4,hR4,hD4⟩:=qY hD3 (by decide)
 have hv2:(live (evD.take (1+1)) (evD.take (1+1)).length).length=1:=by
  rw [OE];decide
 rw [hv2] at hR4;simp only [↓evP,evB,stB,reduceCtorEq,Nat.reduceEqDiff];refine aN hp4 [.one (hI (1:Nat))] (by simp only [stB];exact hR4) ?_
 obtain ⟨P2,hP2,hQ2⟩:=mD Gx hlen (k:=2) (by decide) hD4 (by omega);simp only [↓evP,evB,stB,reduceCtorEq,Nat.reduceEqDiff,Nat.reduceAdd,Nat.reduceLeDiff];refine dW P2 (by simp only [stB];exact hP2) ?_
 intro hp5 rs hq5;obtain ⟨⟨N5,hD5⟩,rfl⟩:=hQ2 _ _ hq5;rw [vX Gx (by decide),r2];obtain ⟨P3,hP3,hQ3⟩:=mD Gx hlen (k:=3) (by decide) hD5 (by omega);simp only [↓evP,evB,stB,reduceCtorEq,Nat.reduceEqDiff,Nat.reduceAdd,Nat.reduceLeDiff];refine dW P3 (by simp only [stB];exact hP3) ?_
 intro hp6 rs hq6;obtain ⟨⟨N6,hD6⟩,rfl⟩:=hQ3 _ _ hq6;rw [vX Gx (by decide),r3];obtain ⟨hp7,hR7,hD7⟩:=qY hD6 (by decide)
 have hv4:(live (evD.take (3+1)) (evD.take (3+1)).length).length=3:=by
  rw [OE];decide
 rw [hv4] at hR7;have t1:((0:Int) == 0)=true:=rfl;have t2:(((1:Nat):Int) == 1)=true:=rfl;have t3:(((3:Nat):Int) == 3)=true:=rfl;have t4:(((0:Nat):Int) == 0)=true:=rfl;have t5:(0:Int)≤0:=Int.le_refl _;have t6:([[dI ((1:Nat):Int)]]:List (List Dt))[Int.toNat 0]? = some [dI ((1:Nat):Int)]:=rfl;simp only [↓evP,evB,stB,reduceCtorEq,Nat.reduceEqDiff,bX,t1,t2,t4,t5,t6];refine aN hp7 [.one (hI (3:Nat))] (by simp only [stB];exact hR7) ?_
 simp only [↓evP,evB,stB,reduceCtorEq,Nat.reduceEqDiff,t3,prd45];exact ⟨hp7,_,rfl,fun b=>.inl rfl,⟨_,hD7.free⟩,rfl⟩
theorem Nk {l:List Ev} (hc:chk l=l.length):vW l=bS l l.length:=if_pos hc
noncomputable def Oh (ps rs:List Pa):Prop:=∃ (l:List Ev) (e:Ev),ps=[AV l,e.pa]∧l.length≤900∧rs=[AV (pK l e),.one (.im (bX (zZ l e))),pI (mg l e)]
def Lm:Env:=e1 64 sN (e1 27 qR (e1 73 zJ (e1 85 mF e0)))
open Classical in
theorem Uu:Spec Try.prog 49 Oh:=by
 refine sp49 (show aG Try.prog Lm from aG.e1 yY (aG.e1 xu (aG.e1 H6 (aG.e1 HY aG.e0)))) ?_;rintro ps rs ⟨l,e,rfl,hl,rfl⟩;refine ⟨by simp,?_⟩;unfold pc49;refine aH ?_;simp only [↓evP,evB,stB,reduceIte,seval,AV,l9,Ev.pa,Ev.row];refine aC [pB e.valid] ⟨e,rfl,rfl⟩ ?_
 cases hv:e.valid with
 | false =>
   have hn:¬ okN l e:=fun q=>by have:=q.1;rw [hv] at this;cases this
   have e1:pK l e=l:=if_neg hn;have e2:zZ l e=[]:=if_neg hn;have e3:mg l e=1:=by unfold mg;rw [if_neg hn,if_neg (by rw [hv];decide)]
   simp only [↓evP,evB,stB,reduceIte,reduceCtorEq,seval,e1,e2,e3,pr49]
   first | done | rfl | exact ⟨(by unfold Drw;refine Eq.trans (b:=true) ?_ rfl;kernel_rfl),rfl⟩
 | true =>
   have hall:=xq (f:=Ev.row) (n:=9) (fun _=>rfl) l;have htk:(l.map Ev.row).take l.length=l.map Ev.row:=List.take_of_length_le (by rw [List.length_map];exact Nat.le_refl _)
   have hmap:l.map Ev.row ++ [[dI e.g,dI e.kind,dI e.obj,dI e.off,dI e.k,dI e.n,dI e.fn,dI e.pc,dI e.stack]]=(l ++ [e]).map Ev.row:=by rw [List.map_append];rfl
   have hl0:l.length≤1000000:=by omega
   have hle:(l ++ [e]).length=l.length+1:=by rw [List.length_append];rfl
   have hl1:l.length+1≤1000000:=by omega
   simp only [↓evP,evB,stB,reduceIte,reduceCtorEq,seval,hall,hl0,hl1,hmap];refine ⟨(by unfold Drw;refine Eq.trans (b:=true) ?_ rfl;kernel_rfl),?_⟩
   refine aC [pB (decide (chk (l ++ [e])=(l ++ [e]).length))] ⟨l ++ [e],rfl,by rw [hle];exact hl1,rfl⟩ ?_
   by_cases hc:chk (l ++ [e])=(l ++ [e]).length
   ·have hn:okN l e:=⟨hv,hc⟩;have e1:pK l e=l ++ [e]:=if_pos hn;have e2:zZ l e=(bC (l ++ [e]) l.length l.length).map fun (i:Nat)=>(i:Int):=if_pos hn
    have e3:mg l e=0:=if_pos hn;rw [e1,e2,e3];have V:=VL.of hc;obtain ⟨L,hL⟩:∃ L,l ++ [e]=L:=⟨_,rfl⟩
    obtain ⟨n,hn2⟩:∃ n,l.length=n:=⟨_,rfl⟩
    rw [hn2] at hl hl0 hl1 hle;rw [hL] at hc V hle hmap;rw [hL,hn2];have hw:IntKind.i64.wrap (((n+1:Nat):Int) - 1)=(n:Int):=by rw [pY (by omega) (by omega)];omega
    rw [hle] at hc;simp only [↓evP,evB,stB,reduceIte,reduceCtorEq,seval,hc,hle,hw,decide_true];refine aC [Fg L] ⟨L,rfl,⟨by omega,V.v⟩,rfl⟩ ?_;simp only [↓evP,evB,stB,reduceIte,seval,Fg];refine dZ ms49_0 os49_0 (fun m st=>∃ i:Nat,m=n - i∧i≤n∧st.sl 11=aI i∧st.sl 10=.b (.one (.own 10 1 (bX ((bC L n i).map fun (i:Nat)=>(i:Int)))))∧st.gen 10=1∧st.ob 10=.row 3 1 (bC L n i).length) n ?_ ?_
    ·exact ⟨0,rfl,Nat.zero_le _,by simp only [stB,reduceIte,seval];first | done | rfl,by simp only [stB,reduceIte,seval];first | done | rfl,by simp only [stB,reduceIte,seval],by simp only [stB,reduceIte,seval];first | done | rfl⟩
    rintro m z ⟨i,rfl,hi,h11,h10,g10,o10⟩;simp only [stB,reduceIte,seval] at h11 h10 g10 o10
    rcases Nat.lt_or_ge i n with hij | hij
    ·have hij':(i:Int) < (n:Int):=by omega
     have hi0:(0:Int)≤(i:Int):=by omega
     have hj0:(0:Int)≤(n:Int):=by omega
     have ei:=jW (l:=L) (i:=i) (by omega);have ej:=jW (l:=L) (i:=n) (by omega);have r1:=oM (n:=L.length) (i:=i) (by omega);have r2:=oM (n:=L.length) (i:=n) (by omega);have hal:=lJ L n i;have hsucc:=qG L n i;simp only [↓evP,evB,stB,reduceCtorEq,Nat.reduceEqDiff,Nat.reduceAdd,Nat.reduceLeDiff,Nat.reduceBEq,h11,h10,hij',hi0,hj0,ei,ej,Ev.row];refine bQ [pB (iq (ay L i) (ay L n))] (by exact mF.mk _ _) ?_;have hb:nK L i n=(iq (ay L i) (ay L n) && !decide (HB L i n)):=rfl
     cases hcf:iq (ay L i) (ay L n) with
     | false =>
       rw [hb,hcf,Bool.false_and,if_neg (by decide),List.append_nil] at hsucc;simp only [↓evP,evB,stB,reduceCtorEq,Nat.reduceEqDiff,Nat.reduceLeDiff,Nat.reduceBEq,h11,h10,g10,o10];refine ⟨(by unfold Drw;refine Eq.trans (b:=true) ?_ rfl;kernel_rfl),?_⟩
       exact ⟨_,by omega,(by repeat' (first | assumption | exact aW.mpr trivial | exact Within.refl _ _ _ | (refine bH ?_ rfl rfl) | (refine bg ?_ rfl))),i+1,rfl,by omega,by simp only [stB,Nat.reduceEqDiff,Nat.reduceBEq,h11];rw [wrN (by omega)],by simp only [stB,Nat.reduceEqDiff,Nat.reduceBEq,h10,hsucc],by simp only [stB,Nat.reduceEqDiff,Nat.reduceBEq,g10],by simp only [stB,Nat.reduceEqDiff,Nat.reduceBEq,o10,hsucc]⟩
     | true =>
       rw [hb,hcf,Bool.true_and] at hsucc
       by_cases hh:HB L i n
       ·have hd:decide (HB L i n)=true:=decide_eq_true hh;rw [hd,if_neg (by decide),List.append_nil] at hsucc;simp only [↓evP,evB,stB,reduceCtorEq,Nat.reduceEqDiff,Nat.reduceLeDiff,Nat.reduceBEq,h11,h10,g10,o10,hi0,hj0,r1,r2,pO,hd];refine ⟨(by unfold Drw;refine Eq.trans (b:=true) ?_ rfl;kernel_rfl),?_⟩
        exact ⟨_,by omega,(by repeat' (first | assumption | exact aW.mpr trivial | exact Within.refl _ _ _ | (refine bH ?_ rfl rfl) | (refine bg ?_ rfl))),i+1,rfl,by omega,by simp only [stB,Nat.reduceEqDiff,Nat.reduceBEq,h11];rw [wrN (by omega)],by simp only [stB,Nat.reduceEqDiff,Nat.reduceBEq,h10,hsucc],by simp only [stB,Nat.reduceEqDiff,Nat.reduceBEq,g10],by simp only [stB,Nat.reduceEqDiff,Nat.reduceBEq,o10,hsucc]⟩
       ·have hd:decide (HB L i n)=false:=decide_eq_false hh;rw [hd,if_pos (by decide)] at hsucc;have hb1:(bC L n i).length≤999999:=by omega
        have hb2:(bX ((bC L n i).map fun (i:Nat)=>(i:Int))).length=(bC L n i).length:=by unfold bX;rw [List.length_map,List.length_map]
        have hs3:bX ((bC L n (i+1)).map fun (i:Nat)=>(i:Int))=bX ((bC L n i).map fun (i:Nat)=>(i:Int)) ++ [[.sc (.int .i64 i)]]:=by unfold bX;rw [hsucc,List.map_append,List.map_append];rfl
        have hs4:(bC L n (i+1)).length=(bC L n i).length+1:=by rw [hsucc,List.length_append];rfl
        simp only [↓evP,evB,stB,reduceCtorEq,Nat.reduceEqDiff,Nat.reduceLeDiff,Nat.reduceBEq,h11,h10,g10,o10,hi0,hj0,r1,r2,pO,hd,hb1,hb2];refine ⟨(by unfold Drw;refine Eq.trans (b:=true) ?_ rfl;kernel_rfl),?_⟩
        exact ⟨_,by omega,(by repeat' (first | assumption | exact aW.mpr trivial | exact Within.refl _ _ _ | (refine bH ?_ rfl rfl) | (refine bg ?_ rfl))),i+1,rfl,by omega,by simp only [stB,Nat.reduceEqDiff,Nat.reduceBEq,h11];rw [wrN (by omega)],by simp only [stB,Nat.reduceEqDiff,Nat.reduceBEq];rw [hs3],by simp only [stB,Nat.reduceEqDiff,Nat.reduceBEq,g10],by simp only [stB,Nat.reduceEqDiff,Nat.reduceBEq,o10];rw [hs4];first | done | rfl⟩
    ·have hij':¬ (i:Int) < (n:Int):=by omega
     have hie:i=n:=by omega
     subst hie;simp only [↓evP,evB,stB,reduceCtorEq,Nat.reduceEqDiff,Nat.reduceLeDiff,Nat.reduceBEq,h11,h10,hij',decide_false,pr49]
     first | done | rfl | exact ⟨(by unfold Drw;refine Eq.trans (b:=true) ?_ rfl;kernel_rfl),rfl⟩
   ·have hn:¬ okN l e:=fun q=>hc q.2
    have e1:pK l e=l:=if_neg hn;have e2:zZ l e=[]:=if_neg hn;have e3:mg l e=11:=by unfold mg;rw [if_neg hn,if_pos hv]
    simp only [↓evP,evB,stB,reduceIte,reduceCtorEq,seval,hc,e1,e2,e3,decide_false,pr49]
    first | done | rfl | exact ⟨(by unfold Drw;refine Eq.trans (b:=true) ?_ rfl;kernel_rfl),rfl⟩
theorem Fb {l:List Ev} {a:Nat}:∀ p ∈ bS l a,p.2 < a:=by
 intro p hp;unfold bS at hp;obtain ⟨j,hj,hm⟩:=List.mem_flatMap.1 hp;obtain ⟨i,_,rfl⟩:=List.mem_map.1 hm;exact List.mem_range.1 hj
def Gl (hp:Nat→Hb) (az:List Hw) (Post:(Nat→Hb)→List Hw→Prop):Prop:=∃ (l:List Ev) (e:Ev) (n:Int),az=[jr (jc l),jr e.pa,jr (pI n)]∧hp=Z37∧Post=fun _ r=>r=[.one (.d (dB true))]
def N9 (ps rs:List Pa):Prop:=∃ (l:List Ev) (e:Ev) (n:Int),ps=[jc l,e.pa,pI n]∧rs=[pB true]
theorem UW {f:Nat} (h:jI Try.prog f Gl):Spec Try.prog f N9:=by
 rintro ps rs ⟨l,e,n,rfl,rfl⟩;exact h.toS _ _ ⟨_,⟨l,e,n,rfl,rfl,rfl⟩,fun hp' rs' q=>q⟩
def GA (A:List (Nat×Nat)) (j:Nat):Nat:=(A.filter fun p=>p.2 == j).length
theorem Iw {A:List (Nat×Nat)} {i j:Nat} {p:Nat×Nat} (h:A[i]? = some p):GA (A.take (i+1)) j=GA (A.take i) j+if (p.2 == j)=true then 1 else 0:=by
 unfold GA;rw [List.take_add_one,h,List.filter_append,List.length_append]
 congr 1
 show (List.filter _ [p]).length=_
 rw [List.filter_cons];split <;> rfl
theorem D9 {l:List Ev} {j:Nat}:GA (bS l (j+1)) j=(bC l j j).length:=by
 unfold GA
 rw [gW,List.filter_append,List.filter_eq_nil_iff.2 (fun p hp=>by have:=Fb p hp;simp;omega),List.nil_append,List.filter_eq_self.2 (fun p hp=>by
  obtain ⟨i,_,rfl⟩:=List.mem_map.1 hp;simp),List.length_map]
theorem PV {A:List (Nat×Nat)} {i j:Nat}:GA (A.take i) j≤i:=by
 have h1:GA (A.take i) j≤(A.take i).length:=List.length_filter_le _ _;rw [List.length_take] at h1;omega
noncomputable def IL:Env:=p1 45 xY (p1 46 NZ (p1 51 DT (h1 50 Aq (e1 27 qR (e1 49 Oh (e1 48 sK e0))))))
theorem Bo:aG Try.prog IL:=.p1 JW (.p1 Um (.p1 O7 (.h1 OM (.e1 xu (.e1 Uu (.e1 JZ .e0))))))
theorem NC:jI Try.prog 12 Gl:=by
 refine sqd12 Bo ?_;rintro hp az Post ⟨l,e,n,rfl,rfl,rfl⟩;refine ⟨by simp,fun _=>1,?_⟩;unfold pcd12;refine aH ?_;simp only [↓evP,evB,stB,jr,jc,l9,Ev.pa,Ev.row];refine dW _ (by simp only [stB,Nat.reduceLT];exact ⟨0,rfl,KQ,rfl⟩) ?_
 rintro hp1 rs1 ⟨⟨N1,hF1⟩,rfl⟩
 by_cases q1:(l.length:Int) > 40
 ·simp only [↓evP,evB,stB,reduceCtorEq,Nat.reduceEqDiff,q1,decide_true,prd12];exact ⟨_,_,rfl,fun b=>.inl rfl,rfl⟩
 have hl9:l.length≤900:=by omega
 have hlen6:l.length≤1000000:=by omega
 simp only [↓evP,evB,stB,reduceCtorEq,Nat.reduceEqDiff,q1,decide_false];refine aC [pB (decide (chk l=l.length))] ⟨l,rfl,hlen6,rfl⟩ ?_
 by_cases hc:chk l=l.length
 ·by_cases q2:n < 0
  ·simp only [↓evP,evB,stB,reduceCtorEq,Nat.reduceEqDiff,q2,hc,decide_true,prd12];exact ⟨_,_,rfl,fun b=>.inl rfl,rfl⟩
  by_cases q3:n > (l.length:Int)
  ·simp only [↓evP,evB,stB,reduceCtorEq,Nat.reduceEqDiff,q2,q3,hc,decide_true,decide_false,prd12];exact ⟨_,_,rfl,fun b=>.inl rfl,rfl⟩
  obtain ⟨a,rfl⟩:=Int.eq_ofNat_of_zero_le (show 0≤n by omega);have ha:a≤l.length:=by omega
  have ha0:(0:Int)≤(a:Int):=by omega
  have ha1:(a:Int)≤(l.length:Int):=by omega
  have hall:=xq (f:=Ev.row) (n:=9) (fun _=>rfl) l;have htk:(l.map Ev.row).take a=(l.take a).map Ev.row:=(List.map_take ..).symm;have hdr:((l.map Ev.row).take l.length).drop a=(l.drop a).map Ev.row:=by rw [List.take_of_length_le (by rw [List.length_map];exact Nat.le_refl _)];exact (List.map_drop ..).symm
  have hcp:=oZ hc ha;have hlp:(l.take a).length=a:=by rw [List.length_take];omega
  have hld:(l.drop a).length=l.length - a:=List.length_drop;obtain ⟨M,hM⟩:∃ M,l.take a=M:=⟨_,rfl⟩
  have hcM:chk M=M.length:=by rw [←hM];exact hcp
  have hlM:M.length=a:=by rw [←hM];exact hlp
  simp only [↓evP,evB,stB,reduceCtorEq,Nat.reduceEqDiff,q2,q3,hc,decide_true,decide_false,ha0,ha1,hall,htk,hM,Int.le_refl,Int.toNat_zero];refine dW _ (by simp only [stB];exact ⟨M,N1,rfl,hF1,⟨hcM,by omega⟩,rfl⟩) ?_
  rintro hp2 rs2 ⟨bd,N2,hD2,rfl⟩;rw [hlM] at hD2;simp only [↓evP,evB,stB,reduceCtorEq,Nat.reduceEqDiff,Nat.reduceAdd,Nat.reduceLeDiff,Nat.reduceLT,ha0,ha1,hall,htk,hM,Int.le_refl,Int.toNat_zero];refine aC [AV (pK M e),.one (.im (bX (zZ M e))),pI (mg M e)] ⟨M,e,rfl,by omega,rfl⟩ ?_
  by_cases hn:okN M e
  ·have h3:mg M e=0:=if_pos hn;have t0:((0:Int) == 0)=true:=rfl;rw [h3];simp only [↓evP,evB,stB,reduceCtorEq,Nat.reduceEqDiff,Nat.reduceLeDiff,Nat.reduceLT,AV,l9,pI,t0,prd12];exact ⟨_,_,rfl,fun b=>.inl rfl,rfl⟩
  have h1:pK M e=M:=if_neg hn;have h2:zZ M e=[]:=if_neg hn;have h3:(mg M e == 0)=false:=by unfold mg;rw [if_neg hn];split <;> decide
  obtain ⟨hp3,hR3,hD3⟩:=qY hD2 (by omega);rw [h1,h2];obtain ⟨W,hW⟩:∃ W,(live M M.length).length=W:=⟨_,rfl⟩
  rw [hW] at hR3;obtain ⟨E,hE⟩:∃ E,mg M e=E:=⟨_,rfl⟩
  rw [hE] at h3;rw [hE];simp only [↓evP,evB,stB,reduceCtorEq,Nat.reduceEqDiff,Nat.reduceLeDiff,Nat.reduceLT,AV,l9,pI,h3];refine aN hp3 [.one (hI (W:Int))] (by simp only [stB,Nat.reduceLT];exact hR3) ?_
  simp only [↓evP,evB,stB,Nat.reduceEqDiff,Nat.reduceAdd,Nat.reduceLeDiff,Nat.reduceLT];refine dW _ (by simp only [stB];exact ⟨bd,N2+13,2 * a,M,e,rfl,hD3,⟨hcM,by omega,by omega⟩,rfl⟩) ?_
  rintro hp4 rs4 ⟨N4,hD4,rfl⟩;rw [h1] at hD4;rw [h2,hE];obtain ⟨hp5,hR5,hD5⟩:=qY hD4 (by omega);rw [hW] at hR5;have z0:(bX []).length=0:=rfl;have z1:(((0:Nat):Int) != 0)=false:=rfl;simp only [↓evP,evB,stB,reduceCtorEq,Nat.reduceEqDiff,z0,z1,bne_self_eq_false];refine aN hp5 [.one (hI (W:Int))] (by simp only [stB];exact hR5) ?_
  rw [←hM] at hD5;simp only [↓evP,evB,stB,reduceCtorEq,Nat.reduceEqDiff,bne_self_eq_false,ha0,ha1,hall,hdr,hld,Int.le_refl];refine iD msd12_0 osd12_0 (fun m st=>∃ k N',m=(l.length - a) - k∧k≤l.length - a∧st.sl 91=aI k∧iZ st.hb bd N' (2 * a+2+2 * k) (l.take (a+k))) (l.length - a) (by repeat' (first | exact aF.init | (refine aF.ap ?_ rfl))) ?_ ?_
  ·exact ⟨0,_,rfl,Nat.zero_le _,by simp only [stB,Nat.reduceEqDiff];first | done | rfl,by simp only [stB,Nat.reduceMul];exact hD5⟩
  rintro m j hjn hja ⟨k,N6,rfl,hk,h91,hD⟩;simp only [stB,Nat.reduceEqDiff,Nat.reduceBEq,hjn] at h91 hD
  rcases Nat.lt_or_ge k (l.length - a) with hlt | hge
  ·have hak:a+k < l.length:=by omega
   have hle:(l.drop a)[k]? = some (ay l (a+k)):=by rw [List.getElem?_drop];exact jW hak
   obtain ⟨P,hP,hQ⟩:=mD hc hl9 hak hD (by omega);have klt:(k:Int) < ((l.length - a:Nat):Int):=by omega
   have k0:(0:Int)≤(k:Int):=by omega
   have hz:((0:Int) != 0)=false:=rfl;have w1:IntKind.i64.wrap ((a:Int)+(k:Int))=((a+k:Nat):Int):=by rw [pY (by omega) (by omega)];rfl
   have w2:IntKind.i64.wrap (((a+k:Nat):Int)+1)=((a+k+1:Nat):Int):=wrN (by omega);have k1:(0:Int)≤((a+k+1:Nat):Int):=by omega
   have k2:((a+k+1:Nat):Int)≤(l.length:Int):=by omega
   have htk2:(l.map Ev.row).take (a+k+1)=(l.take (a+k+1)).map Ev.row:=(List.map_take ..).symm;have hcp2:=oZ hc (n:=a+k+1) hak;have hlp2:(l.take (a+k+1)).length=a+k+1:=by rw [List.length_take];omega
   have hrt:vW (l.take (a+k+1))=bS l (a+k+1):=by rw [Nk hcp2,hlp2,qI hc hak (Nat.le_refl _)]
   have hRr:sK [jc (l.take (a+k+1))] [r9 (bS l (a+k+1))]:=⟨_,rfl,by omega,by rw [hrt]⟩;have hcj:=D9 (l:=l) (j:=a+k)
   have hAl:(bS l (a+k+1)).length≤1000000:=by
    have:=nW l (a+k+1);have:(a+k+1) * (a+k+1)≤900 * 900:=Nat.mul_le_mul (by omega) (by omega);omega
   obtain ⟨ev,hev⟩:∃ ev,ay l (a+k)=ev:=⟨_,rfl⟩
   rw [hev] at hle hP;simp only [↓evP,evB,stB,reduceCtorEq,Nat.reduceEqDiff,Nat.reduceAdd,Nat.reduceLeDiff,Nat.reduceLT,Nat.reduceBEq,h91,klt,decide_true,hle,k0,Ev.row];refine dW P (by simp only [stB,Nat.reduceLT,hjn];exact hP) ?_
   intro hp6 rs hq;obtain ⟨⟨N7,hD7⟩,rfl⟩:=hQ _ _ hq;generalize bC l (a+k) (a+k)=xs at *;generalize bS l (a+k+1)=A at *;have hil:(bX (xs.map fun (i:Nat)=>(i:Int))).length=xs.length:=by unfold bX;rw [List.length_map,List.length_map]
   have hA3:(A.map rZ).length=A.length:=List.length_map ..;simp only [↓evP,evB,stB,reduceCtorEq,Nat.reduceEqDiff,Nat.reduceBEq,hz,w1,w2,k1,k2,hall,htk2,Int.le_refl,Int.toNat_zero];refine aC [r9 A] (by exact hRr) ?_;simp only [↓evP,evB,stB,Nat.reduceEqDiff,Nat.reduceBEq,r9,hA3];refine iD msd12_1 osd12_1 (fun m st=>∃ i:Nat,m=A.length - i∧i≤A.length∧st.sl 112=aI i∧st.sl 19=aI (GA (A.take i) (a+k):Nat)∧st.hb=hp6) A.length (by repeat' (first | exact iP hja | (refine aF.ap ?_ rfl))) ?_ ?_
   ·exact ⟨0,rfl,Nat.zero_le _,by simp only [stB,Nat.reduceEqDiff,Nat.reduceBEq];first | done | rfl,by simp only [stB,Nat.reduceEqDiff,Nat.reduceBEq];first | done | rfl,by simp only [stB]⟩
   rintro m2 j2 hjn2 hja2 ⟨i,rfl,hi,h112,h19,hh2⟩;simp only [stB,Nat.reduceEqDiff,Nat.reduceBEq,hjn2] at h112 h19 hh2
   rcases Nat.lt_or_ge i A.length with hix | hix
   ·obtain ⟨p,hp⟩:∃ p,A[i]? = some p:=⟨_,List.getElem?_eq_getElem hix⟩
    have hpi:(A.map rZ)[i]? = some [dI p.1,dI p.2]:=by rw [List.getElem?_map,hp];rfl
    have ilt:(i:Int) < (A.length:Int):=by omega
    have i0:(0:Int)≤(i:Int):=by omega
    have hct:=Iw (j:=a+k) hp;have hcl:=PV (A:=A) (i:=i) (j:=a+k)
    cases b:(p.2 == a+k) with
    | true =>
      have b':((p.2:Int) == ((a+k:Nat):Int))=true:=by
       have:=eq_of_beq b;rw [this];simp
      rw [b,if_pos rfl] at hct;simp only [↓evP,evB,stB,reduceCtorEq,Nat.reduceEqDiff,Nat.reduceAdd,Nat.reduceLeDiff,Nat.reduceLT,Nat.reduceBEq,h91,h112,h19,ilt,i0,hpi,w1,b',decide_true]
      exact ⟨_,by omega,(by repeat' (first | assumption | exact bJ hja2 | (refine bA ?_ rfl rfl) | (refine aZ ?_ rfl) | (refine bA ?_ rfl bB) | (refine aZ ?_ bB))),i+1,rfl,hix,by simp only [stB,Nat.reduceEqDiff,Nat.reduceBEq,h112];rw [wrN (by omega)],by simp only [stB,Nat.reduceEqDiff,Nat.reduceBEq,h19];rw [wrN (by omega),hct],by simp only [stB,Nat.reduceLT,hh2,hjn2]⟩
    | false =>
      have b':((p.2:Int) == ((a+k:Nat):Int))=false:=by
       rw [beq_eq_false_iff_ne] at b ⊢;omega
      rw [b,if_neg (by decide)] at hct;simp only [↓evP,evB,stB,reduceCtorEq,Nat.reduceEqDiff,Nat.reduceAdd,Nat.reduceLeDiff,Nat.reduceLT,Nat.reduceBEq,h91,h112,h19,ilt,i0,hpi,w1,b',decide_true]
      exact ⟨_,by omega,(by repeat' (first | assumption | exact bJ hja2 | (refine bA ?_ rfl rfl) | (refine aZ ?_ rfl) | (refine bA ?_ rfl bB) | (refine aZ ?_ bB))),i+1,rfl,hix,by simp only [stB,Nat.reduceEqDiff,Nat.reduceBEq,h112];rw [wrN (by omega)],by simp only [stB,Nat.reduceEqDiff,Nat.reduceBEq,h19];rw [hct];first | done | rfl,by simp only [stB,Nat.reduceLT,hh2,hjn2]⟩
   ·have ilt:¬ (i:Int) < (A.length:Int):=by omega
    have hie:i=A.length:=by omega
    rw [hie,List.take_length,hcj] at h19;simp only [↓evP,evB,stB,reduceCtorEq,Nat.reduceEqDiff,Nat.reduceBEq,h91,h112,h19,ilt,hil,bne_self_eq_false,decide_false]
    exact ⟨_,by omega,(by repeat' (first | assumption | exact bJ hja | (refine bA ?_ rfl rfl) | (refine aZ ?_ rfl) | (refine bA ?_ rfl bB) | (refine aZ ?_ bB) | (refine eB.in' ?_ (bJ hja2) rfl rfl))),k+1,N7,rfl,hlt,by simp only [stB,Nat.reduceEqDiff,Nat.reduceBEq,h91];rw [wrN (by omega)],by simp only [stB,hh2,hjn2];exact hD7⟩
  ·have klt:¬ (k:Int) < ((l.length - a:Nat):Int):=by omega
   simp only [↓evP,evB,stB,reduceCtorEq,Nat.reduceEqDiff,Nat.reduceBEq,h91,klt,decide_false,prd12];exact ⟨_,_,rfl,fun b=>.inl rfl,rfl⟩
 ·simp only [↓evP,evB,stB,reduceCtorEq,Nat.reduceEqDiff,hc,decide_false,prd12];exact ⟨_,_,rfl,fun b=>.inl rfl,rfl⟩
end Go.Proofs.Ytffcpijeebagfaa
end
section
namespace Go.Proofs.Ytffcpijeebagfaa
open Go Go.RowKit Go.WideShapes Go.ChangeShapes Go.Deep
theorem pX {H:Type} {enc:TypeId×Value→H} {P:Program} (hl:laidOutB P=true) {W W':World} (hb:Below W.heap.size W W') :
 ∀ {ts:List TypeId} {vs:List Value} {ds:List (DataW H)} {ps:List MemPlace},(ts.all fun t=>P.readableRec t && decide (t < P.types.size))=true→DataW.TrodAll enc P W 0 (fun _=>true) true ts vs ds ps→DataW.TrodAll enc P W' 0 (fun b=>decide (b < W.heap.size)) true ts vs ds ps
 | [],vs,ds,ps,_,h=>by obtain ⟨rfl,rfl,rfl⟩:=trodAll_nil h;exact trodAll_mk0
 | t :: ts,vs,ds,ps,ht,h=>by
   obtain ⟨v,vs',d,ds',p,q,rfl,rfl,rfl,h1,h2⟩:=trodAll_cons h;simp only [List.all_cons,Bool.and_eq_true,decide_eq_true_eq] at ht;have lt:∀ x ∈ p,x.block < W.heap.size:=by obtain ⟨m,hm⟩:=h1;exact DataW.trod_lt m _ _ _ hm
   exact trodAll_cons_mk (Below.trod hl ht.1.1 ht.1.2 h1 hb lt) (pX hl hb (by rw [Bool.eq_iff_iff] at *;simpa using ht.2) h2)
theorem JH {H:Type} {enc:TypeId×Value→H} {P:Program} {w:World} {r:Reach} {b0 base:Nat} {spare:Nat→Bool} {held:Bool} {t:TypeId} {fs:Array Field} (ht:P.underlying t=some (.struct fs)) (hone:oneCellFields P fs=true) (hC:P.cellsOf t=fs.size)
 {tI:TypeId} (hI:P.underlying tI=some (.int .i64)) (hint0:fs.toList.all (fun f=>f.type == tI)=true) {n:Nat} (hn:fs.size=n) {v:Value} {d:DataW H} {ps:List MemPlace} (hv:Value.okWide P w r b0 t v) (h:DataW.Trod enc P w base spare held t v d ps) :
 ∃ l:List Int,l.length=n∧v=.agg (l.map (Value.int .i64)).toArray∧∀ x,x ∈ l→-9223372036854775808≤x∧x≤9223372036854775807:=by
 have hint:∀ (i:Nat) (f:Field),fs[i]? = some f→P.underlying f.type=some (.int .i64):=fun i f hf=>by
  have h1:=List.all_eq_true.1 hint0 f (List.mem_of_getElem? (i:=i) (by simpa using hf));rw [beq_iff_eq.1 h1];exact hI
 subst hn;obtain ⟨cs,rfl,hcs⟩:=okWide_struct ht hv;obtain ⟨fuel,hf⟩:=h;obtain ⟨xs,n,_,_,hl,hlen,hfs⟩:=DataW.trod_struct ht hf
 have key:∀ i,∃ x:Int,i < fs.size→cs[i]? = some (.int .i64 x)∧-9223372036854775808≤x∧x≤9223372036854775807:=by
  intro i
  by_cases hi:i < fs.size
  ·have hfi:fs[i]? = some fs[i]:=Array.getElem?_eq_getElem hi;obtain ⟨ho,hk⟩:=hone_of hone i _ hfi;have h1:=hfs i _ hfi;rw [ho,hk] at h1;have hic:i < cs.size:=by omega
   have hone':((Value.agg cs).cells.toList.drop i).take 1=[cs[i]'hic]:=by
    show (cs.toList.drop i).take 1=_
    rw [List.drop_eq_getElem_cons (by simpa using hic)];simp
   rw [hone'] at h1;have hxs:xs[i]? = some (xs[i]'(by omega)):=List.getElem?_eq_getElem _;rw [hxs] at h1;obtain ⟨x,hx,hw⟩:=dw (hint i _ hfi) h1;exact ⟨x,fun _=>⟨by rw [Array.getElem?_eq_getElem hic,hx],iB hw⟩⟩
  ·exact ⟨0,fun h=>absurd h hi⟩
 obtain ⟨g,hg⟩:=Classical.skolem.1 key;refine ⟨(List.range fs.size).map g,by simp,?_,fun x hx=>?_⟩
 ·congr 1
  apply Array.ext_getElem?
  intro i;simp only [List.getElem?_toArray,List.getElem?_map]
  rcases Nat.lt_or_ge i fs.size with hi | hi
  ·rw [(hg i hi).1,List.getElem?_range hi];rfl
  ·rw [Array.getElem?_eq_none (by omega),List.getElem?_eq_none (by simpa using hi)];rfl
 ·simp only [List.mem_map,List.mem_range] at hx;obtain ⟨i,hi,rfl⟩:=hx;exact (hg i hi).2
theorem Jt {l:List Int} (h:l.length=9):∃ e:Ev,l.map (Value.int .i64)=e.cells:=by
 match l,h with
 | [a,b,c,d,e,f,g,i,j],_=>exact ⟨⟨a,b,c,d,e,f,g,i,j⟩,rfl⟩
theorem Spec.true [I:dH] {P:Program} {f:Nat} {R:List Pa→List Pa→Prop} (hs:Spec P f R) {ps:List Pa} (hR:R ps [pB true]) {S:Nat→Nat} {w:World} {vals:Array Value} (hw:I.p w) (hv:RPs S w ps vals) :
 Calls P f vals w fun e w'=>e=.returned (.bool true)∧Below w.heap.size w w':=by
 refine (hs ps _ hR S w vals hw hv).mono ?_;rintro e w' ⟨v,S',rfl,h1,h2,_⟩;exact ⟨by rw [RP.bool h1],h2⟩
theorem Ev.Jz (e:Ev) (u:Value) (h:u ∈ e.cells):u.oneCell'=true:=by
 simp only [Ev.cells,List.mem_cons,List.not_mem_nil,or_false] at h
 rcases h with rfl | rfl | rfl | rfl | rfl | rfl | rfl | rfl | rfl <;> rfl
end Go.Proofs.Ytffcpijeebagfaa
end
