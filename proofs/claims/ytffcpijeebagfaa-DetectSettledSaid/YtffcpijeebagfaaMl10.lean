/- Detectors on the heap: awake of chapter 38. -/
import Derived.Test.YtffcpijeebagfaaMl9
import Derived.OpenShut
set_option linter.unusedSimpArgs false
set_option linter.unusedVariables false
section
namespace Go.Proofs.Ytffcpijeebagfaa
open Go Go.RowKit
set_option maxRecDepth 100000
set_option maxHeartbeats 4000000
def uN (l:List Ev) (j:Nat):List Nat:=(List.range j).filter fun i=>jQ (ay l i) (ay l j) && decide ((stp l j).getD (ay l i).g.toNat 0 < (ord l i:Int))
theorem vY {l:List Ev} (hc:chk l=l.length) {j:Nat} (hj:j < l.length):dM l j j=uN l j:=by
 unfold dM uN
 apply List.filter_congr
 intro i hi;exact rJ hc (List.mem_range.1 hi) hj
def Vg (l:List Ev) (k i:Nat):Bool:=(List.range (bZ l k).gor.toNat).all fun h=>decide ((h:Int)=(ay l i).g) || decide ((ord l i:Int)≤(jP l h k).getD (ay l i).g.toNat 0)
theorem VU (l:List Ev) (k i:Nat):setB l k i=Vg l k i:=by
 rw [Bool.eq_iff_iff,kH];unfold Vg;rw [List.all_eq_true];constructor
 ·intro h x hx;rw [List.mem_range] at hx
  by_cases q:(x:Int)=(ay l i).g
  ·rw [decide_eq_true q];rfl
  ·rw [decide_eq_false q,decide_eq_true (h x (by omega) q)];rfl
 ·intro h x hx q;have:=h x (List.mem_range.2 (by omega));rw [decide_eq_false q,Bool.false_or,decide_eq_true_iff] at this;exact this
def KL (l:List Ev) (k:Nat):List Nat:=(List.range k).filter fun i=>jH (ay l i).kind && !Vg l k i
theorem OW (l:List Ev) (k:Nat):live l k=KL l k:=by
 unfold live KL;simp only [VU]
def evD:List Ev:=[⟨0,14,0,0,1,0,0,0,0⟩,⟨0,2,1,0,0,0,0,0,0⟩,⟨1,2,1,0,0,0,0,0,0⟩,⟨1,1,1,0,0,0,0,0,0⟩]
theorem GY:chk evD=evD.length:=by decide
theorem raD:uN evD 0=[]∧uN evD 1=[]∧uN evD 2=[1]∧uN evD 3=[1]:=by decide
theorem liD:(KL evD 2).length=1∧(KL evD 4).length=3:=by decide
theorem kR {l:List Ev} (hc:chk l=l.length) (hl:l.length≤900) {k:Nat} (hk:k < l.length) {hp:Nat→Hb} {bd N S:Nat} (h:iQ hp bd N S (l.take k)) (hS:S≤90000) :
 ∃ Post,AU hp [hP bd 0,evW (ay l k)] Post∧∀ hp' rs,Post hp' rs→(∃ N',iQ hp' bd N' (S+2) (l.take (k+1)))∧rs=[.one (.d (.im (dX ((dM l k k).map fun (i:Nat)=>(i:Int))))),.one (hI 0)]:=by
 have hkl:(l.take k).length=k:=List.length_take_of_le (by omega);have hn:=(qX hk).2 (pK hc (by omega));obtain ⟨w1,w2,w3,_⟩:=yJ hk hn;refine ⟨_,⟨bd,N,S,l.take k,ay l k,rfl,h,⟨pK hc (by omega),by omega,hS⟩,rfl⟩,?_⟩;rintro hp' rs ⟨N',hD,rfl⟩;rw [w1] at hD;exact ⟨⟨N',hD⟩,by rw [w2,w3,qG hc (by omega) (by omega)]⟩
def sF (hp:Nat→Hb) (az:List Hw) (Post:(Nat→Hb)→List Hw→Prop):Prop:=∃ N,az=[]∧Free hp N∧Post=fun h r=>(∃ N',Free h N')∧r=[.one (.d (dB true))]
noncomputable def LH:Env:=h1 52 xJ (h1 50 AR (p1 51 AU e0))
theorem EK:aD Try.prog LH:=.h1 Gt (.h1 O3 (.p1 KR .e0))
theorem zl:je Try.prog 45 sF:=by
 refine sqd45 EK ?_;rintro hp az Post ⟨N,rfl,hN,rfl⟩;refine ⟨by simp,fun _=>1,?_⟩;obtain ⟨hp1,bd,N1,hR1,hD1⟩:=wX hN;obtain ⟨r0,r1,r2,r3⟩:=raD;obtain ⟨l2,l4⟩:=liD;have hlen:evD.length≤900:=by decide
 obtain ⟨P0,hP0,hQ0⟩:=kR GY hlen (k:=0) (by decide) hD1 (by omega);unfold pcd45;refine aH ?_;simp only [↓evP,evB,stB];refine aO hp1 [hP bd 0] (by simp only [stB];exact hR1) ?_
 simp only [↓evP,evB,stB,reduceCtorEq,Nat.reduceEqDiff,Nat.reduceAdd,Nat.reduceLeDiff];refine dP P0 (by simp only [stB];exact hP0) ?_
 intro hp2 rs hq2;obtain ⟨⟨N2,hD2⟩,rfl⟩:=hQ0 _ _ hq2;rw [vY GY (by decide),r0];obtain ⟨P1,hP1,hQ1⟩:=kR GY hlen (k:=1) (by decide) hD2 (by omega);simp only [↓evP,evB,stB,reduceCtorEq,Nat.reduceEqDiff,Nat.reduceAdd,Nat.reduceLeDiff];refine dP P1 (by simp only [stB];exact hP1) ?_
 intro hp3 rs hq3;obtain ⟨⟨N3,hD3⟩,rfl⟩:=hQ1 _ _ hq3;rw [vY GY (by decide),r1];obtain ⟨hp4,hR4,hD4⟩:=wY hD3 (by decide)
 have hv2:(live (evD.take (1+1)) (evD.take (1+1)).length).length=1:=by
  rw [OW];decide
 rw [hv2] at hR4;simp only [↓evP,evB,stB,reduceCtorEq,Nat.reduceEqDiff];refine aO hp4 [.one (hI (1:Nat))] (by simp only [stB];exact hR4) ?_
 obtain ⟨P2,hP2,hQ2⟩:=kR GY hlen (k:=2) (by decide) hD4 (by omega);simp only [↓evP,evB,stB,reduceCtorEq,Nat.reduceEqDiff,Nat.reduceAdd,Nat.reduceLeDiff];refine dP P2 (by simp only [stB];exact hP2) ?_
 intro hp5 rs hq5;obtain ⟨⟨N5,hD5⟩,rfl⟩:=hQ2 _ _ hq5;rw [vY GY (by decide),r2];obtain ⟨P3,hP3,hQ3⟩:=kR GY hlen (k:=3) (by decide) hD5 (by omega);simp only [↓evP,evB,stB,reduceCtorEq,Nat.reduceEqDiff,Nat.reduceAdd,Nat.reduceLeDiff];refine dP P3 (by simp only [stB];exact hP3) ?_
 intro hp6 rs hq6;obtain ⟨⟨N6,hD6⟩,rfl⟩:=hQ3 _ _ hq6;rw [vY GY (by decide),r3];obtain ⟨hp7,hR7,hD7⟩:=wY hD6 (by decide)
 have hv4:(live (evD.take (3+1)) (evD.take (3+1)).length).length=3:=by
  rw [OW];decide
 rw [hv4] at hR7;have t1:((0:Int) == 0)=true:=rfl;have t2:(((1:Nat):Int) == 1)=true:=rfl;have t3:(((3:Nat):Int) == 3)=true:=rfl;have t4:(((0:Nat):Int) == 0)=true:=rfl;have t5:(0:Int)≤0:=Int.le_refl _;have t6:([[dI ((1:Nat):Int)]]:List (List Dt))[Int.toNat 0]? = some [dI ((1:Nat):Int)]:=rfl;simp only [↓evP,evB,stB,reduceCtorEq,Nat.reduceEqDiff,dX,t1,t2,t4,t5,t6];refine aO hp7 [.one (hI (3:Nat))] (by simp only [stB];exact hR7) ?_
 simp only [↓evP,evB,stB,reduceCtorEq,Nat.reduceEqDiff,t3,prd45];exact ⟨hp7,_,rfl,fun b=>.inl rfl,⟨_,hD7.free⟩,rfl⟩
def AV (ps rs:List Pa):Prop:=∃ (l:List Ev) (i:Nat),ps=[rR l,pI (i:Int)]∧(chk l=l.length∧l.length≤1000∧i < l.length)∧rs=[pB (setB l l.length i)]
def LK:Env:=e1 41 SA (e1 39 Sz e0)
theorem O6:Spec Try.prog 54 AV:=by
 refine sp54 (show aD Try.prog LK from aD.e1 VT (aD.e1 VR aD.e0)) ?_;rintro ps rs ⟨l,i,rfl,⟨hc,hl,hi⟩,rfl⟩;refine ⟨by simp,?_⟩;have ei:=jd hi;have V:=VL.of hc;have hgi:=V.g hi;have g0:0≤(ay l i).g:=hgi.1;have g7:(ay l i).g < ((8:Nat):Int):=hgi.2;have i0:(0:Int)≤(i:Int):=by omega
 have hgg:=Qs hc;have hwf:=(dS hc (Nat.le_refl l.length)).2.1.gr;obtain ⟨G,hG⟩:∃ G:Nat,(bZ l l.length).gor=(G:Int):=⟨(bZ l l.length).gor.toNat,by omega⟩
 unfold pc54;refine aH ?_;simp only [↓evP,evB,stB,reduceIte,seval,rR,lu,pI,ei,i0,Ev.row];refine cZ ms54_0 os54_0 (fun m st=>∃ k:Nat,m=i+1 - k∧k≤i+1∧st.sl 8=aI k∧st.sl 7=aI (iY l (ay l i).g k)) (i+1) ?_ ?_
 ·exact ⟨0,rfl,Nat.zero_le _,by simp only [stB,reduceIte,seval];first | done | rfl,by simp only [stB,reduceIte,seval];first | done | rfl⟩
 rintro m j ⟨k,rfl,hk,h8,h7⟩;simp only [stB,reduceIte,seval] at h8 h7
 rcases Nat.lt_or_ge k (i+1) with hlt | hge
 ·have kle:(k:Int)≤(i:Int):=by omega
  have k0:(0:Int)≤(k:Int):=by omega
  have ek:=jd (l:=l) (i:=k) (by omega);have hcs:iY l (ay l i).g (k+1)=if (ay l k).g=(ay l i).g then iY l (ay l i).g k+1 else iY l (ay l i).g k:=rfl
  have hcl:=Ag (l:=l) (ay l i).g k
  cases b:((ay l k).g == (ay l i).g) with
  | true =>
    rw [if_pos (eq_of_beq b)] at hcs;simp only [↓evP,evB,stB,reduceIte,reduceCtorEq,seval,h8,h7,kle,k0,ek,Ev.row,b,decide_true]
    exact ⟨_,by omega,(by repeat' (first | assumption | exact aN.mpr trivial | exact Within.refl _ _ _ | (refine bg ?_ rfl rfl) | (refine aS ?_ rfl))),k+1,rfl,hlt,by simp only [stB,reduceIte,seval];rw [wrN (by omega)],by simp only [stB,reduceIte,seval];rw [wrN (by omega),hcs]⟩
  | false =>
    rw [if_neg (fun q=>by rw [q] at b;simp at b)] at hcs
    simp only [↓evP,evB,stB,reduceIte,reduceCtorEq,seval,h8,h7,kle,k0,ek,Ev.row,b,decide_true]
    exact ⟨_,by omega,(by repeat' (first | assumption | exact aN.mpr trivial | exact Within.refl _ _ _ | (refine bg ?_ rfl rfl) | (refine aS ?_ rfl))),k+1,rfl,hlt,by simp only [stB,reduceIte,seval];rw [wrN (by omega)],by simp only [stB,reduceIte,seval,h7];rw [hcs]⟩
 have hki:k=i+1:=by omega
 have kle:¬ (k:Int)≤(i:Int):=by omega
 rw [hki,show iY l (ay l i).g (i+1)=ord l i from rfl] at h7;simp only [↓evP,evB,stB,reduceIte,reduceCtorEq,seval,h8,kle,decide_false];refine cZ ms54_1 os54_1 (fun m st=>∃ h:Nat,m=G - h∧h≤G∧st.sl 9=aI h∧∀ x:Nat,x < h→(x:Int)≠(ay l i).g→(ord l i:Int)≤(jP l x l.length).getD (ay l i).g.toNat 0) G ?_ ?_
 ·exact ⟨0,rfl,Nat.zero_le _,by simp only [stB,reduceIte,seval];first | done | rfl,fun x q=>absurd q (Nat.not_lt_zero _)⟩
 rintro m2 j2 ⟨h,rfl,hh,h9,hal⟩;simp only [stB,reduceIte,seval] at h9;simp only [↓evP,evB,stB,reduceIte,seval,h9];refine aB [pI (yh l)] ⟨l,rfl,by omega,rfl⟩ ?_;rw [hgg,hG]
 rcases Nat.lt_or_ge h G with hlt | hge
 ·have hlt':(h:Int) < (G:Int):=by omega
  by_cases hne:(h:Int)=(ay l i).g
  ·have b:((h:Int) != (ay l i).g)=false:=by rw [hne];simp
   simp only [↓evP,evB,stB,reduceIte,reduceCtorEq,seval,h9,hlt',pI,b,decide_true]
   first | refine ⟨(by unfold Drw;refine Eq.trans (b:=true) ?_ rfl;kernel_rfl),?_⟩ | skip
   exact ⟨_,by omega,(by repeat' (first | assumption | exact aN.mpr trivial | exact Within.refl _ _ _ | (refine bg ?_ rfl rfl) | (refine aS ?_ rfl))),h+1,rfl,hlt,by simp only [stB,reduceIte,seval];rw [wrN (by omega)],fun x q1 q2=>hal x (by omega) q2⟩
  ·have b:((h:Int) != (ay l i).g)=true:=by simp;omega
   have n1:=Lp (l:=l) (j:=l.length) (h:Int)
   have hcr:(kM (jP l (h:Int) l.length))[(ay l i).g.toNat]? = some (dI ((jP l (h:Int) l.length).getD (ay l i).g.toNat 0)):=by
    unfold kM;rw [List.getElem?_map,get_some n1 (k:=(ay l i).g.toNat) (by omega)];rfl
   simp only [↓evP,evB,stB,reduceIte,reduceCtorEq,seval,h9,hlt',pI,b,decide_true];refine aB [jJ (jP l (h:Int) l.length)] ⟨l,(h:Int),rfl,⟨hc,hl⟩,rfl⟩ ?_
   by_cases hq:(jP l (h:Int) l.length).getD (ay l i).g.toNat 0 < (ord l i:Int)
   ·simp only [↓evP,evB,stB,reduceIte,reduceCtorEq,seval,h9,h7,jJ,g0,hgi.2,hcr,Nat.mul_one,hq,decide_true,pr54]
    have hs:setB l l.length i=false:=by
     cases hs:setB l l.length i with
     | false=>rfl
     | true =>
       have:=kH.1 hs h (by omega) hne;omega
    first | (refine ⟨(by unfold Drw;refine Eq.trans (b:=true) ?_ rfl;kernel_rfl),?_⟩;rw [hs];first | done | rfl) | (rw [hs];first | done | rfl)
   ·simp only [↓evP,evB,stB,reduceIte,reduceCtorEq,seval,h9,h7,jJ,g0,hgi.2,hcr,Nat.mul_one,hq,decide_false]
    first | refine ⟨(by unfold Drw;refine Eq.trans (b:=true) ?_ rfl;kernel_rfl),?_⟩ | skip
    exact ⟨_,by omega,(by repeat' (first | assumption | exact aN.mpr trivial | exact Within.refl _ _ _ | (refine bg ?_ rfl rfl) | (refine aS ?_ rfl))),h+1,rfl,hlt,by simp only [stB,reduceIte,seval];rw [wrN (by omega)],fun x q1 q2=>by
     rcases Nat.lt_or_ge x h with q | q
     ·exact hal x q q2
     ·have:x=h:=by omega
      subst this;omega⟩
 ·have hlt':¬ (h:Int) < (G:Int):=by omega
  have hs:setB l l.length i=true:=kH.2 fun x q1 q2=>hal x (by omega) q2
  simp only [↓evP,evB,stB,reduceIte,reduceCtorEq,seval,h9,hlt',pI,decide_false,pr54];rw [hs];first | done | rfl
noncomputable def Rt (l:List Ev) (k:Nat):Nat:=((List.range k).filter fun i=>jH (ay l i).kind && !setB l l.length i).length
theorem JZ (l:List Ev) (k:Nat):Rt l (k+1)=Rt l k+if (jH (ay l k).kind && !setB l l.length k)=true then 1 else 0:=by
 unfold Rt;rw [List.range_succ,List.filter_append,List.length_append]
 congr 1
 rw [List.filter_cons];split <;> rfl
theorem Ru (l:List Ev) (k:Nat):Rt l k≤k:=by
 have:=List.length_filter_le (fun i=>jH (ay l i).kind && !setB l l.length i) (List.range k);rw [List.length_range] at this;exact this
def F7 (ps rs:List Pa):Prop:=∃ l:List Ev,ps=[rR l]∧(chk l=l.length∧l.length≤1000)∧rs=[pI ((live l l.length).length:Nat)]
theorem U0:Spec Try.prog 53 F7:=by
 refine sp53 (show aD Try.prog (e1 89 (yu jH) (e1 54 AV e0)) from aD.e1 J8 (aD.e1 O6 aD.e0)) ?_;rintro ps rs ⟨l,rfl,⟨hc,hl⟩,rfl⟩;refine ⟨by simp,?_⟩;unfold pc53;refine aH ?_;simp only [↓evP,evB,stB,seval,rR,lu,pI];refine cZ ms53_0 os53_0 (fun m st=>∃ k:Nat,m=l.length - k∧k≤l.length∧st.sl 4=aI k∧st.sl 3=aI (Rt l k:Nat)) l.length ?_ ?_
 ·exact ⟨0,rfl,Nat.zero_le _,by simp only [stB,reduceIte,seval];first | done | rfl,by simp only [stB,reduceIte,seval];first | done | rfl⟩
 rintro m j ⟨k,rfl,hk,h4,h3⟩;simp only [stB,reduceIte,seval] at h4 h3
 rcases Nat.lt_or_ge k l.length with hlt | hge
 ·have klt:(k:Int) < (l.length:Int):=by omega
  have k0:(0:Int)≤(k:Int):=by omega
  have ek:=jd hlt;have hsu:=JZ l k;have hle:=Ru l k;simp only [↓evP,evB,stB,reduceIte,reduceCtorEq,seval,h4,h3,klt,k0,ek,Ev.row,decide_true];refine aB [pB (jH (ay l k).kind)] (by exact yu.mk _) ?_
  cases hm:jH (ay l k).kind with
  | false =>
    rw [hm,Bool.false_and,if_neg (by decide)] at hsu;simp only [↓evP,evB,stB,reduceIte,reduceCtorEq,seval,h4,h3]
    first | refine ⟨(by unfold Drw;refine Eq.trans (b:=true) ?_ rfl;kernel_rfl),?_⟩ | skip
    exact ⟨_,by omega,(by repeat' (first | assumption | exact aN.mpr trivial | exact Within.refl _ _ _ | (refine bg ?_ rfl rfl) | (refine aS ?_ rfl))),k+1,rfl,hlt,by simp only [stB,reduceIte,seval];rw [wrN (by omega)],by simp only [stB,reduceIte,seval,h3];rw [hsu];rfl⟩
  | true =>
    simp only [↓evP,evB,stB,reduceIte,reduceCtorEq,seval,h4];refine aB [pB (setB l l.length k)] ⟨l,k,rfl,⟨hc,hl,hlt⟩,rfl⟩ ?_
    cases hs:setB l l.length k with
    | true =>
      rw [hm,hs,if_neg (by decide)] at hsu;simp only [↓evP,evB,stB,reduceIte,reduceCtorEq,seval,h4,h3]
      first | refine ⟨(by unfold Drw;refine Eq.trans (b:=true) ?_ rfl;kernel_rfl),?_⟩ | skip
      exact ⟨_,by omega,(by repeat' (first | assumption | exact aN.mpr trivial | exact Within.refl _ _ _ | (refine bg ?_ rfl rfl) | (refine aS ?_ rfl))),k+1,rfl,hlt,by simp only [stB,reduceIte,seval];rw [wrN (by omega)],by simp only [stB,reduceIte,seval,h3];rw [hsu];rfl⟩
    | false =>
      rw [hm,hs,if_pos (by decide)] at hsu;simp only [↓evP,evB,stB,reduceIte,reduceCtorEq,seval,h4,h3]
      first | refine ⟨(by unfold Drw;refine Eq.trans (b:=true) ?_ rfl;kernel_rfl),?_⟩ | skip
      exact ⟨_,by omega,(by repeat' (first | assumption | exact aN.mpr trivial | exact Within.refl _ _ _ | (refine bg ?_ rfl rfl) | (refine aS ?_ rfl))),k+1,rfl,hlt,by simp only [stB,reduceIte,seval];rw [wrN (by omega)],by simp only [stB,reduceIte,seval];rw [wrN (by omega),hsu]⟩
 ·have hke:k=l.length:=by omega
  have klt:¬ (k:Int) < (l.length:Int):=by omega
  rw [hke] at h3;simp only [↓evP,evB,stB,reduceIte,reduceCtorEq,seval,h4,h3,klt,decide_false,pr53]
  first | done | rfl
noncomputable def I7:Env:=p1 45 sF (h1 52 xJ (h1 50 AR (p1 51 AU (e1 27 ou (e1 53 F7 e0)))))
theorem BJ:aD Try.prog I7:=.p1 zl (.h1 Gt (.h1 O3 (.p1 KR (.e1 rP (.e1 U0 .e0)))))
theorem NT:je Try.prog 13 GD:=by
 refine sqd13 BJ ?_;rintro hp az Post ⟨l,rfl,rfl,hmax,rfl⟩;refine ⟨by simp,fun _=>1,?_⟩;unfold pcd13;refine aH ?_;simp only [↓evP,evB,stB,ji,fV,lu];refine dP _ (by simp only [stB];exact ⟨0,rfl,C8,rfl⟩) ?_
 rintro hp1 rs1 ⟨⟨N1,hF1⟩,rfl⟩
 by_cases q1:(l.length:Int) > 20
 ·simp only [↓evP,evB,stB,reduceCtorEq,Nat.reduceEqDiff,q1,decide_true,prd13];exact ⟨_,_,rfl,fun b=>.inl rfl,rfl⟩
 have hl9:l.length≤900:=by omega
 have hlen6:l.length≤1000000:=by omega
 simp only [↓evP,evB,stB,reduceCtorEq,Nat.reduceEqDiff,q1,decide_false];refine aB [pB (decide (chk l=l.length))] ⟨l,rfl,hlen6,rfl⟩ ?_
 by_cases hc:chk l=l.length
 ·obtain ⟨hp2,bd,N2,hR2,hD2⟩:=wX hF1;simp only [↓evP,evB,stB,reduceCtorEq,Nat.reduceEqDiff,hc,decide_true];refine aO hp2 [hP bd 0] (by simp only [stB];exact hR2) ?_
  simp only [↓evP,evB,stB,reduceCtorEq,Nat.reduceEqDiff];refine gJ msd13_0 osd13_0 (fun m st=>∃ k N',m=l.length - k∧k≤l.length∧st.sl 21=aI k∧iQ st.hb bd N' (2 * k) (l.take k)) l.length (by repeat' (first | exact aG.init | (refine aG.ap ?_ rfl))) ?_ ?_
  ·exact ⟨0,N2,rfl,Nat.zero_le _,by simp only [stB,Nat.reduceEqDiff];first | done | rfl,by simp only [stB,Nat.reduceMul];exact hD2⟩
  rintro m j hjn hja ⟨k,N3,rfl,hk,h21,hD⟩;simp only [stB,Nat.reduceEqDiff,Nat.reduceBEq,hjn] at h21 hD
  rcases Nat.lt_or_ge k l.length with hlt | hge
  ·have hle:=jd hlt;obtain ⟨P,hP,hQ⟩:=kR hc hl9 hlt hD (by omega);have klt:(k:Int) < (l.length:Int):=by omega
   have k0:(0:Int)≤(k:Int):=by omega
   have k1:(0:Int)≤((k+1:Nat):Int):=by omega
   have k2:((k+1:Nat):Int)≤(l.length:Int):=by omega
   have hwk:IntKind.i64.wrap ((k:Int)+1)=((k+1:Nat):Int):=wrN (by omega);have hall:=xC (f:=Ev.row) (n:=9) (fun _=>rfl) l;have htk:(l.map Ev.row).take (k+1)=(l.take (k+1)).map Ev.row:=(List.map_take ..).symm;have hcp:=pK hc (n:=k+1) hlt;have hlp:(l.take (k+1)).length=k+1:=by rw [List.length_take];omega
   have hz:((0:Int) != 0)=false:=rfl;obtain ⟨e,he⟩:∃ e,ay l k=e:=⟨_,rfl⟩
   rw [he] at hle hP;simp only [↓evP,evB,stB,reduceCtorEq,Nat.reduceEqDiff,Nat.reduceAdd,Nat.reduceLeDiff,Nat.reduceLT,Nat.reduceBEq,h21,klt,decide_true,hle,k0,Ev.row];refine dP P (by simp only [stB,Nat.reduceLT,hjn];exact hP) ?_
   intro hp3 rs hq;obtain ⟨⟨N4,hD3⟩,rfl⟩:=hQ _ _ hq;obtain ⟨hp4,hR4,hD4⟩:=wY hD3 (by omega);have hrr:F7 [rR (l.take (k+1))] [pI ((live (l.take (k+1)) (l.take (k+1)).length).length:Nat)]:=⟨_,rfl,⟨hcp,by omega⟩,rfl⟩;generalize (live (l.take (k+1)) (l.take (k+1)).length).length=W at *;simp only [↓evP,evB,stB,reduceCtorEq,Nat.reduceEqDiff,Nat.reduceBEq,hz];refine kL hp4 [.one (hI (W:Int))] (by simp only [stB];exact hR4) ?_
   simp only [evB,stB,reduceCtorEq,Nat.reduceEqDiff,Nat.reduceLeDiff,Nat.reduceBEq,hwk,k1,k2,hall,htk,Int.le_refl,Int.toNat_zero];refine bP [pI (W:Int)] (by exact hrr) ?_;simp only [↓evP,evB,stB,reduceCtorEq,Nat.reduceEqDiff,Nat.reduceBEq,h21,pI,bne_self_eq_false];refine ⟨(by unfold Drw;refine Eq.trans (b:=true) ?_ rfl;kernel_rfl),?_⟩
   exact ⟨_,by omega,(by repeat' (first | assumption | exact bK hja | (refine bq ?_ rfl rfl) | (refine aW ?_ rfl) | (refine bq ?_ rfl bA) | (refine aW ?_ bA))),k+1,_,rfl,hlt,by simp only [stB,Nat.reduceEqDiff,Nat.reduceBEq,h21];rw [wrN (by omega)],by simp only [stB];exact hD4⟩
  ·have klt:¬ (k:Int) < (l.length:Int):=by omega
   simp only [↓evP,evB,stB,reduceCtorEq,Nat.reduceEqDiff,Nat.reduceBEq,h21,klt,decide_false,prd13];exact ⟨_,_,rfl,fun b=>.inl rfl,rfl⟩
 ·simp only [↓evP,evB,stB,reduceCtorEq,Nat.reduceEqDiff,hc,decide_false,prd13];exact ⟨_,_,rfl,fun b=>.inl rfl,rfl⟩
end Go.Proofs.Ytffcpijeebagfaa
end
section
namespace Go.Proofs.Ytffcpijeebagfaa
open Go Go.RowKit Go.WideShapes Go.ChangeShapes Go.Deep
theorem mg {H:Type} {enc:TypeId×Value→H} {P:Program} (hl:laidOutB P=true) {W W':World} (hb:Below W.heap.size W W') :
 ∀ {ts:List TypeId} {vs:List Value} {ds:List (DataW H)} {ps:List MemPlace},(ts.all fun t=>P.readableRec t && decide (t < P.types.size))=true→DataW.TrodAll enc P W 0 (fun _=>true) true ts vs ds ps→DataW.TrodAll enc P W' 0 (fun b=>decide (b < W.heap.size)) true ts vs ds ps
 | [],vs,ds,ps,_,h=>by obtain ⟨rfl,rfl,rfl⟩:=trodAll_nil h;exact trodAll_mk0
 | t :: ts,vs,ds,ps,ht,h=>by
   obtain ⟨v,vs',d,ds',p,q,rfl,rfl,rfl,h1,h2⟩:=trodAll_cons h;simp only [List.all_cons,Bool.and_eq_true,decide_eq_true_eq] at ht;have lt:∀ x ∈ p,x.block < W.heap.size:=by obtain ⟨m,hm⟩:=h1;exact DataW.trod_lt m _ _ _ hm
   exact trodAll_cons_mk (Below.trod hl ht.1.1 ht.1.2 h1 hb lt) (mg hl hb (by rw [Bool.eq_iff_iff] at *;simpa using ht.2) h2)
theorem Spec.true [I:cK] {P:Program} {f:Nat} {R:List Pa→List Pa→Prop} (hs:Spec P f R) {ps:List Pa} (hR:R ps [pB true]) {S:Nat→Nat} {w:World} {vals:Array Value} (hw:I.p w) (hv:RPs S w ps vals) :
 Calls P f vals w fun e w'=>e=.returned (.bool true)∧Below w.heap.size w w':=by
 refine (hs ps _ hR S w vals hw hv).mono ?_;rintro e w' ⟨v,S',rfl,h1,h2,_⟩;exact ⟨by rw [RP.bool h1],h2⟩
end Go.Proofs.Ytffcpijeebagfaa
end
section
namespace Go.Proofs.Ytffcpijeebagfaa
open Go Go.RowKit
set_option maxRecDepth 100000
set_option maxHeartbeats 4000000
theorem CK {l:List Ev} (hc:chk l=l.length) (hl:l.length≤1000) {a j x:Nat} (haj:a≤j) (hj:j < l.length) (hx:x ∈ dM l j j) (hxa:x < a):setB (l.take a) a x=false:=by
 obtain ⟨h1,h2⟩:=List.mem_filter.1 hx;rw [List.mem_range] at h1;rw [zu (by omega) (Nat.le_refl _) hxa]
 cases hs:setB l a x with
 | false=>rfl
 | true =>
   have:=NV hc hl hxa haj (by omega) hs;rw [(y9 hc hl h1 hj h2).2] at this;cases this
noncomputable def I8:Env:=p1 45 sF (p1 46 Om (p1 51 AU (e1 27 ou (e1 54 AV e0))))
theorem BK:aD Try.prog I8:=.p1 zl (.p1 UO (.p1 KR (.e1 rP (.e1 O6 .e0))))
theorem NU:je Try.prog 14 GA:=by
 refine sqd14 BK ?_;rintro hp az Post ⟨l,n,rfl,rfl,rfl⟩;refine ⟨by simp,fun _=>1,?_⟩;unfold pcd14;refine aH ?_;simp only [↓evP,evB,stB,ji,fV,lu];refine dP _ (by simp only [stB];exact ⟨0,rfl,C8,rfl⟩) ?_
 rintro hp1 rs1 ⟨⟨N1,hF1⟩,rfl⟩
 by_cases q1:(l.length:Int) > 24
 ·simp only [↓evP,evB,stB,reduceCtorEq,Nat.reduceEqDiff,q1,decide_true,prd14];exact ⟨_,_,rfl,fun b=>.inl rfl,rfl⟩
 have hl9:l.length≤900:=by omega
 have hlen6:l.length≤1000000:=by omega
 simp only [↓evP,evB,stB,reduceCtorEq,Nat.reduceEqDiff,q1,decide_false];refine aB [pB (decide (chk l=l.length))] ⟨l,rfl,hlen6,rfl⟩ ?_
 by_cases hc:chk l=l.length
 ·by_cases q2:n < 0
  ·simp only [↓evP,evB,stB,reduceCtorEq,Nat.reduceEqDiff,q2,hc,decide_true,prd14];exact ⟨_,_,rfl,fun b=>.inl rfl,rfl⟩
  by_cases q3:n > (l.length:Int)
  ·simp only [↓evP,evB,stB,reduceCtorEq,Nat.reduceEqDiff,q2,q3,hc,decide_true,decide_false,prd14];exact ⟨_,_,rfl,fun b=>.inl rfl,rfl⟩
  obtain ⟨a,rfl⟩:=Int.eq_ofNat_of_zero_le (show 0≤n by omega);have ha:a≤l.length:=by omega
  have ha0:(0:Int)≤(a:Int):=by omega
  have ha1:(a:Int)≤(l.length:Int):=by omega
  have hall:=xC (f:=Ev.row) (n:=9) (fun _=>rfl) l;have htk:(l.map Ev.row).take a=(l.take a).map Ev.row:=(List.map_take ..).symm;have hdr:((l.map Ev.row).take l.length).drop a=(l.drop a).map Ev.row:=by rw [List.take_of_length_le (by rw [List.length_map];exact Nat.le_refl _)];exact (List.map_drop ..).symm
  have hcp:=pK hc ha;have hlp:(l.take a).length=a:=by rw [List.length_take];omega
  have hld:(l.drop a).length=l.length - a:=List.length_drop;obtain ⟨M,hM⟩:∃ M,l.take a=M:=⟨_,rfl⟩
  have hcM:chk M=M.length:=by rw [←hM];exact hcp
  have hlM:M.length=a:=by rw [←hM];exact hlp
  simp only [↓evP,evB,stB,reduceCtorEq,Nat.reduceEqDiff,Nat.reduceLeDiff,Nat.reduceLT,q2,q3,hc,decide_true,decide_false,ha0,ha1,hall,htk,hM,Int.le_refl,Int.toNat_zero];refine dP _ (by simp only [stB,Nat.reduceLT];exact ⟨M,N1,rfl,hF1,⟨hcM,by omega⟩,rfl⟩) ?_
  rintro hp2 rs2 ⟨bd,N2,hD2,rfl⟩;rw [hlM,←hM] at hD2;simp only [↓evP,evB,stB,reduceCtorEq,Nat.reduceEqDiff,ha0,ha1,hall,hdr,hld,Int.le_refl];refine gJ msd14_0 osd14_0 (fun m st=>∃ k N',m=(l.length - a) - k∧k≤l.length - a∧st.sl 53=aI k∧iQ st.hb bd N' (2 * (a+k)) (l.take (a+k))) (l.length - a) (by repeat' (first | exact aG.init | (refine aG.ap ?_ rfl))) ?_ ?_
  ·exact ⟨0,N2,rfl,Nat.zero_le _,by simp only [stB,Nat.reduceEqDiff];first | done | rfl,by simp only [stB];exact hD2⟩
  rintro m j hjn hja ⟨k,N3,rfl,hk,h53,hD⟩;simp only [stB,Nat.reduceEqDiff,Nat.reduceBEq,hjn] at h53 hD
  rcases Nat.lt_or_ge k (l.length - a) with hlt | hge
  ·have hak:a+k < l.length:=by omega
   have hle:(l.drop a)[k]? = some (ay l (a+k)):=by rw [List.getElem?_drop];exact jd hak
   obtain ⟨P,hP,hQ⟩:=kR hc hl9 hak hD (by omega);have klt:(k:Int) < ((l.length - a:Nat):Int):=by omega
   have k0:(0:Int)≤(k:Int):=by omega
   have hz:((0:Int) != 0)=false:=rfl
   have hun:∀ x,x ∈ dM l (a+k) (a+k)→x < a→setB M M.length x=false:=fun x hx hxa=>by
    rw [hlM,←hM];exact CK hc (by omega) (by omega) hak hx hxa
   have hrl:=oq l (a+k) (a+k);obtain ⟨e,he⟩:∃ e,ay l (a+k)=e:=⟨_,rfl⟩
   rw [he] at hle hP;simp only [↓evP,evB,stB,reduceCtorEq,Nat.reduceEqDiff,Nat.reduceAdd,Nat.reduceLeDiff,Nat.reduceLT,Nat.reduceBEq,h53,klt,decide_true,hle,k0,Ev.row];refine dP P (by simp only [stB,Nat.reduceLT,hjn];exact hP) ?_
   intro hp3 rs hq;obtain ⟨⟨N4,hD3⟩,rfl⟩:=hQ _ _ hq;generalize dM l (a+k) (a+k)=xs at *;have hil:(dX (xs.map fun (i:Nat)=>(i:Int))).length=xs.length:=by unfold dX;rw [List.length_map,List.length_map]
   simp only [↓evP,evB,stB,reduceCtorEq,Nat.reduceEqDiff,Nat.reduceBEq,hz,hil];refine gJ msd14_1 osd14_1 (fun m st=>∃ i:Nat,m=xs.length - i∧i≤xs.length∧st.sl 67=aI i∧st.hb=hp3) xs.length (by repeat' (first | exact iM hja | (refine aG.ap ?_ rfl))) ?_ ?_
   ·exact ⟨0,rfl,Nat.zero_le _,by simp only [stB,Nat.reduceEqDiff,Nat.reduceBEq];first | done | rfl,by simp only [stB]⟩
   rintro m2 j2 hjn2 hja2 ⟨i,rfl,hi,h67,hh2⟩;simp only [stB,Nat.reduceEqDiff,Nat.reduceBEq,hjn2] at h67 hh2
   rcases Nat.lt_or_ge i xs.length with hix | hix
   ·obtain ⟨x,hx⟩:∃ x,xs[i]? = some x:=⟨_,List.getElem?_eq_getElem hix⟩
    have hxi:(dX (xs.map fun (i:Nat)=>(i:Int)))[i]? = some [dI (x:Int)]:=by unfold dX;rw [List.getElem?_map,List.getElem?_map,hx];rfl
    have ilt:(i:Int) < (xs.length:Int):=by omega
    have i0:(0:Int)≤(i:Int):=by omega
    by_cases hxa:x < a
    ·have hxa':(x:Int) < (a:Int):=by omega
     have hr:AV [rR M,pI (x:Int)] [pB false]:=⟨M,x,rfl,⟨hcM,by omega,by omega⟩,by rw [hun x (List.mem_of_getElem? hx) hxa]⟩;simp only [↓evP,evB,stB,reduceCtorEq,Nat.reduceEqDiff,Nat.reduceLeDiff,Nat.reduceLT,Nat.reduceBEq,h67,ilt,i0,hxi,hxa',decide_true];refine aB [pB false] (by exact hr) ?_;simp only [↓evP,evB,stB,reduceCtorEq,Nat.reduceEqDiff,Nat.reduceBEq,h67]
     first | refine ⟨(by unfold Drw;refine Eq.trans (b:=true) ?_ rfl;kernel_rfl),?_⟩ | skip
     exact ⟨_,by omega,(by repeat' (first | assumption | exact bK hja2 | (refine bq ?_ rfl rfl) | (refine aW ?_ rfl) | (refine bq ?_ rfl bA) | (refine aW ?_ bA))),i+1,rfl,hix,by simp only [stB,Nat.reduceEqDiff,Nat.reduceBEq,h67];rw [wrN (by omega)],by simp only [stB,hh2,hjn2]⟩
    ·have hxa':¬ (x:Int) < (a:Int):=by omega
     simp only [↓evP,evB,stB,reduceCtorEq,Nat.reduceEqDiff,Nat.reduceBEq,h67,ilt,i0,hxi,hxa',decide_true,decide_false]
     first | refine ⟨(by unfold Drw;refine Eq.trans (b:=true) ?_ rfl;kernel_rfl),?_⟩ | skip
     exact ⟨_,by omega,(by repeat' (first | assumption | exact bK hja2 | (refine bq ?_ rfl rfl) | (refine aW ?_ rfl) | (refine bq ?_ rfl bA) | (refine aW ?_ bA))),i+1,rfl,hix,by simp only [stB,Nat.reduceEqDiff,Nat.reduceBEq,h67];rw [wrN (by omega)],by simp only [stB,hh2,hjn2]⟩
   ·have ilt:¬ (i:Int) < (xs.length:Int):=by omega
    simp only [↓evP,evB,stB,reduceCtorEq,Nat.reduceEqDiff,Nat.reduceBEq,h53,h67,ilt,decide_false]
    exact ⟨_,by omega,(by repeat' (first | assumption | exact bK hja | (refine bq ?_ rfl rfl) | (refine aW ?_ rfl) | (refine bq ?_ rfl bA) | (refine aW ?_ bA) | (refine eB.in' ?_ (bK hja2) rfl rfl))),k+1,N4,rfl,hlt,by simp only [stB,Nat.reduceEqDiff,Nat.reduceBEq,h53];rw [wrN (by omega)],by simp only [stB,hh2,hjn2];exact hD3⟩
  ·have klt:¬ (k:Int) < ((l.length - a:Nat):Int):=by omega
   simp only [↓evP,evB,stB,reduceCtorEq,Nat.reduceEqDiff,Nat.reduceBEq,h53,klt,decide_false,prd14];exact ⟨_,_,rfl,fun b=>.inl rfl,rfl⟩
 ·simp only [↓evP,evB,stB,reduceCtorEq,Nat.reduceEqDiff,hc,decide_false,prd14];exact ⟨_,_,rfl,fun b=>.inl rfl,rfl⟩
end Go.Proofs.Ytffcpijeebagfaa
end
