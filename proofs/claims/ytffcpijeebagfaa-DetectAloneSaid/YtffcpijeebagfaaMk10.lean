/- Detectors on the heap: awake of chapter 38. -/
import Derived.Test.YtffcpijeebagfaaMk9
import Derived.OpenShut
set_option linter.unusedSimpArgs false
set_option linter.unusedVariables false
section
namespace Go.Proofs.Ytffcpijeebagfaa
open Go Go.RowKit
set_option maxRecDepth 100000
set_option maxHeartbeats 4000000
def uW (l:List Ev) (j:Nat):List Nat:=(List.range j).filter fun i=>iE (ay l i) (ay l j) && decide ((stp l j).getD (ay l i).g.toNat 0 < (ord l i:Int))
theorem wE {l:List Ev} (hc:chk l=l.length) {j:Nat} (hj:j < l.length):bK l j j=uW l j:=by
 unfold bK uW
 apply List.filter_congr
 intro i hi;exact rV hc (List.mem_range.1 hi) hj
def U5 (l:List Ev) (k i:Nat):Bool:=(List.range (cK l k).gor.toNat).all fun h=>decide ((h:Int)=(ay l i).g) || decide ((ord l i:Int)≤(qF l h k).getD (ay l i).g.toNat 0)
theorem VD (l:List Ev) (k i:Nat):setB l k i=U5 l k i:=by
 rw [Bool.eq_iff_iff,mP];unfold U5;rw [List.all_eq_true];constructor
 ·intro h x hx;rw [List.mem_range] at hx
  by_cases q:(x:Int)=(ay l i).g
  ·rw [decide_eq_true q];rfl
  ·rw [decide_eq_false q,decide_eq_true (h x (by omega) q)];rfl
 ·intro h x hx q;have:=h x (List.mem_range.2 (by omega));rw [decide_eq_false q,Bool.false_or,decide_eq_true_iff] at this;exact this
def KW (l:List Ev) (k:Nat):List Nat:=(List.range k).filter fun i=>jC (ay l i).kind && !U5 l k i
theorem OU (l:List Ev) (k:Nat):live l k=KW l k:=by
 unfold live KW;simp only [VD]
def evD:List Ev:=[⟨0,14,0,0,1,0,0,0,0⟩,⟨0,2,1,0,0,0,0,0,0⟩,⟨1,2,1,0,0,0,0,0,0⟩,⟨1,1,1,0,0,0,0,0,0⟩]
theorem G7:chk evD=evD.length:=by decide
theorem raD:uW evD 0=[]∧uW evD 1=[]∧uW evD 2=[1]∧uW evD 3=[1]:=by decide
theorem liD:(KW evD 2).length=1∧(KW evD 4).length=3:=by decide
theorem oW {l:List Ev} (hc:chk l=l.length) (hl:l.length≤900) {k:Nat} (hk:k < l.length) {hp:Nat→Hb} {bd N S:Nat} (h:jh hp bd N S (l.take k)) (hS:S≤90000) :
 ∃ Post,Ec hp [hP bd 0,evW (ay l k)] Post∧∀ hp' rs,Post hp' rs→(∃ N',jh hp' bd N' (S+2) (l.take (k+1)))∧rs=[.one (.d (.im (dW ((bK l k k).map fun (i:Nat)=>(i:Int))))),.one (hI 0)]:=by
 have hkl:(l.take k).length=k:=List.length_take_of_le (by omega);have hn:=(oD hk).2 (sF hc (by omega));obtain ⟨w1,w2,w3,_⟩:=tu hk hn;refine ⟨_,⟨bd,N,S,l.take k,ay l k,rfl,h,⟨sF hc (by omega),by omega,hS⟩,rfl⟩,?_⟩;rintro hp' rs ⟨N',hD,rfl⟩;rw [w1] at hD;exact ⟨⟨N',hD⟩,by rw [w2,w3,qL hc (by omega) (by omega)]⟩
def mF (hp:Nat→Hb) (az:List Hw) (Post:(Nat→Hb)→List Hw→Prop):Prop:=∃ N,az=[]∧Free hp N∧Post=fun h r=>(∃ N',Free h N')∧r=[.one (.d (dB true))]
noncomputable def LK:Env:=h1 52 xO (h1 50 F9 (p1 51 Ec e0))
theorem EJ:aG Try.prog LK:=.h1 Gy (.h1 UF (.p1 Pq .e0))
theorem oZ:iw Try.prog 45 mF:=by
 refine sqd45 EJ ?_;rintro hp az Post ⟨N,rfl,hN,rfl⟩;refine ⟨by simp,fun _=>1,?_⟩;obtain ⟨hp1,bd,N1,hR1,hD1⟩:=xk hN;obtain ⟨r0,r1,r2,r3⟩:=raD;obtain ⟨l2,l4⟩:=liD;have hlen:evD.length≤900:=by decide
 obtain ⟨P0,hP0,hQ0⟩:=oW G7 hlen (k:=0) (by decide) hD1 (by omega);unfold pcd45;refine aH ?_;simp only [↓evP,evB,stB];refine aO hp1 [hP bd 0] (by simp only [stB];exact hR1) ?_
 simp only [↓evP,evB,stB,reduceCtorEq,Nat.reduceEqDiff,Nat.reduceAdd,Nat.reduceLeDiff];refine bP P0 (by simp only [stB];exact hP0) ?_
 intro hp2 rs hq2;obtain ⟨⟨N2,hD2⟩,rfl⟩:=hQ0 _ _ hq2;rw [wE G7 (by decide),r0];obtain ⟨P1,hP1,hQ1⟩:=oW G7 hlen (k:=1) (by decide) hD2 (by omega);simp only [↓evP,evB,stB,reduceCtorEq,Nat.reduceEqDiff,Nat.reduceAdd,Nat.reduceLeDiff];refine bP P1 (by simp only [stB];exact hP1) ?_
 intro hp3 rs hq3;obtain ⟨⟨N3,hD3⟩,rfl⟩:=hQ1 _ _ hq3;rw [wE G7 (by decide),r1];obtain ⟨hp4,hR4,hD4⟩:=Dh hD3 (by decide)
 have hv2:(live (evD.take (1+1)) (evD.take (1+1)).length).length=1:=by
  rw [OU];decide
 rw [hv2] at hR4;simp only [↓evP,evB,stB,reduceCtorEq,Nat.reduceEqDiff];refine aO hp4 [.one (hI (1:Nat))] (by simp only [stB];exact hR4) ?_
 obtain ⟨P2,hP2,hQ2⟩:=oW G7 hlen (k:=2) (by decide) hD4 (by omega);simp only [↓evP,evB,stB,reduceCtorEq,Nat.reduceEqDiff,Nat.reduceAdd,Nat.reduceLeDiff];refine bP P2 (by simp only [stB];exact hP2) ?_
 intro hp5 rs hq5;obtain ⟨⟨N5,hD5⟩,rfl⟩:=hQ2 _ _ hq5;rw [wE G7 (by decide),r2];obtain ⟨P3,hP3,hQ3⟩:=oW G7 hlen (k:=3) (by decide) hD5 (by omega);simp only [↓evP,evB,stB,reduceCtorEq,Nat.reduceEqDiff,Nat.reduceAdd,Nat.reduceLeDiff];refine bP P3 (by simp only [stB];exact hP3) ?_
 intro hp6 rs hq6;obtain ⟨⟨N6,hD6⟩,rfl⟩:=hQ3 _ _ hq6;rw [wE G7 (by decide),r3];obtain ⟨hp7,hR7,hD7⟩:=Dh hD6 (by decide)
 have hv4:(live (evD.take (3+1)) (evD.take (3+1)).length).length=3:=by
  rw [OU];decide
 rw [hv4] at hR7;have t1:((0:Int) == 0)=true:=rfl;have t2:(((1:Nat):Int) == 1)=true:=rfl;have t3:(((3:Nat):Int) == 3)=true:=rfl;have t4:(((0:Nat):Int) == 0)=true:=rfl;have t5:(0:Int)≤0:=Int.le_refl _;have t6:([[dI ((1:Nat):Int)]]:List (List Dt))[Int.toNat 0]? = some [dI ((1:Nat):Int)]:=rfl;simp only [↓evP,evB,stB,reduceCtorEq,Nat.reduceEqDiff,dW,t1,t2,t4,t5,t6];refine aO hp7 [.one (hI (3:Nat))] (by simp only [stB];exact hR7) ?_
 simp only [↓evP,evB,stB,reduceCtorEq,Nat.reduceEqDiff,t3,prd45];exact ⟨hp7,_,rfl,fun b=>.inl rfl,⟨_,hD7.free⟩,rfl⟩
theorem rW {l:List Ev} (hc:chk l=l.length):jD l=bL l l.length:=if_pos hc
theorem xH {l:List Ev} (hl:l.length≤900):(bL l l.length).length≤1000000:=by
 have:=lU l l.length;have:l.length * l.length≤900 * 900:=Nat.mul_le_mul hl hl;omega
noncomputable def Je:Env:=p1 45 mF (p1 46 Oo (e1 27 mK (e1 48 sV (e1 47 zZ e0))))
theorem BI:aG Try.prog Je:=.p1 oZ (.p1 UD (.e1 oK (.e1 zq (.e1 Iq .e0))))
theorem NS:iw Try.prog 11 zY:=by
 refine sqd11 BI ?_;rintro hp az Post ⟨l,rfl,rfl,hmax,rfl⟩;refine ⟨by simp,fun _=>1,?_⟩;unfold pcd11;refine aH ?_;simp only [↓evP,evB,stB,iU,fH,mI];refine bP _ (by simp only [stB];exact ⟨0,rfl,ru,rfl⟩) ?_
 rintro hp1 rs1 ⟨⟨N1,hF1⟩,rfl⟩
 by_cases q1:(l.length:Int) > 40
 ·simp only [↓evP,evB,stB,reduceCtorEq,Nat.reduceEqDiff,q1,decide_true,prd11];exact ⟨_,_,rfl,fun b=>.inl rfl,rfl⟩
 have hl9:l.length≤900:=by omega
 have hlen6:l.length≤1000000:=by omega
 simp only [↓evP,evB,stB,reduceCtorEq,Nat.reduceEqDiff,q1,decide_false];refine aB [pB (decide (chk l=l.length))] ⟨l,rfl,hlen6,rfl⟩ ?_
 by_cases hc:chk l=l.length
 ·simp only [↓evP,evB,stB,reduceCtorEq,Nat.reduceEqDiff,hc,decide_true];refine bP _ (by simp only [stB];exact ⟨l,N1,rfl,hF1,⟨hc,hl9⟩,rfl⟩) ?_
  rintro hp2 rs2 ⟨bd,N2,hD,rfl⟩;simp only [↓evP,evB,stB,reduceCtorEq,Nat.reduceEqDiff];refine aB [lu (jD l)] ⟨l,rfl,hl9,rfl⟩ ?_;rw [rW hc];simp only [↓evP,evB,stB,reduceCtorEq,Nat.reduceEqDiff,lu];refine aB [pB true] ⟨bL l l.length,rfl,xH hl9,rfl⟩ ?_;simp only [↓evP,evB,stB,reduceCtorEq,Nat.reduceEqDiff,prd11];exact ⟨_,_,rfl,fun b=>.inl rfl,rfl⟩
 ·simp only [↓evP,evB,stB,reduceCtorEq,Nat.reduceEqDiff,hc,decide_false,prd11];exact ⟨_,_,rfl,fun b=>.inl rfl,rfl⟩
noncomputable def Jh:Env:=p1 45 mF (p1 55 qZ (e1 27 mK (e1 48 sV (e1 47 zZ e0))))
theorem BK:aG Try.prog Jh:=.p1 oZ (.p1 xI (.e1 oK (.e1 zq (.e1 Iq .e0))))
theorem NV:iw Try.prog 15 zY:=by
 refine sqd15 BK ?_;rintro hp az Post ⟨l,rfl,rfl,hmax,rfl⟩;refine ⟨by simp,fun _=>1,?_⟩;unfold pcd15;refine aH ?_;simp only [↓evP,evB,stB,iU,fH,mI];refine bP _ (by simp only [stB];exact ⟨0,rfl,ru,rfl⟩) ?_
 rintro hp1 rs1 ⟨⟨N1,hF1⟩,rfl⟩
 by_cases q1:(l.length:Int) > 40
 ·simp only [↓evP,evB,stB,reduceCtorEq,Nat.reduceEqDiff,q1,decide_true,prd15];exact ⟨_,_,rfl,fun b=>.inl rfl,rfl⟩
 have hl9:l.length≤900:=by omega
 have hlen6:l.length≤1000000:=by omega
 simp only [↓evP,evB,stB,reduceCtorEq,Nat.reduceEqDiff,q1,decide_false];refine bP _ (by simp only [stB];exact ⟨l,N1,rfl,hF1,hl9,rfl⟩) ?_
 rintro hp2 rs2 ⟨⟨N2,hF2⟩,rfl⟩
 by_cases hc:chk l=l.length
 ·rw [if_pos hc];have t1:((0:Int) == 0)=true:=rfl;simp only [↓evP,evB,stB,reduceCtorEq,Nat.reduceEqDiff];refine aB [pB (decide (chk l=l.length))] ⟨l,rfl,hlen6,rfl⟩ ?_;simp only [↓evP,evB,stB,reduceCtorEq,Nat.reduceEqDiff,hc,t1,decide_true];refine aB [lu (jD l)] ⟨l,rfl,hl9,rfl⟩ ?_;rw [rW hc];simp only [↓evP,evB,stB,reduceCtorEq,Nat.reduceEqDiff,lu];refine aB [pB true] ⟨bL l l.length,rfl,xH hl9,rfl⟩ ?_;simp only [↓evP,evB,stB,reduceCtorEq,Nat.reduceEqDiff,prd15];exact ⟨_,_,rfl,fun b=>.inl rfl,rfl⟩
 ·rw [if_neg hc,show jD l=[] from if_neg hc];have t1:((1:Int) == 1)=true:=rfl;have t2:(bS []).length=0:=rfl;have t3:(((0:Nat):Int) == 0)=true:=rfl;simp only [↓evP,evB,stB,reduceCtorEq,Nat.reduceEqDiff];refine aB [pB (decide (chk l=l.length))] ⟨l,rfl,hlen6,rfl⟩ ?_;simp only [↓evP,evB,stB,reduceCtorEq,Nat.reduceEqDiff,hc,t1,t2,t3,decide_false,prd15];exact ⟨_,_,rfl,fun b=>.inl rfl,rfl⟩
end Go.Proofs.Ytffcpijeebagfaa
end
section
namespace Go.Proofs.Ytffcpijeebagfaa
open Go Go.RowKit Go.WideShapes Go.ChangeShapes Go.Deep
theorem jg {H:Type} {enc:TypeId×Value→H} {P:Program} (hl:laidOutB P=true) {W W':World} (hb:Below W.heap.size W W') :
 ∀ {ts:List TypeId} {vs:List Value} {ds:List (DataW H)} {ps:List MemPlace},(ts.all fun t=>P.readableRec t && decide (t < P.types.size))=true→DataW.TrodAll enc P W 0 (fun _=>true) true ts vs ds ps→DataW.TrodAll enc P W' 0 (fun b=>decide (b < W.heap.size)) true ts vs ds ps
 | [],vs,ds,ps,_,h=>by obtain ⟨rfl,rfl,rfl⟩:=trodAll_nil h;exact trodAll_mk0
 | t :: ts,vs,ds,ps,ht,h=>by
   obtain ⟨v,vs',d,ds',p,q,rfl,rfl,rfl,h1,h2⟩:=trodAll_cons h;simp only [List.all_cons,Bool.and_eq_true,decide_eq_true_eq] at ht;have lt:∀ x ∈ p,x.block < W.heap.size:=by obtain ⟨m,hm⟩:=h1;exact DataW.trod_lt m _ _ _ hm
   exact trodAll_cons_mk (Below.trod hl ht.1.1 ht.1.2 h1 hb lt) (jg hl hb (by rw [Bool.eq_iff_iff] at *;simpa using ht.2) h2)
theorem Spec.true [I:dh] {P:Program} {f:Nat} {R:List Pa→List Pa→Prop} (hs:Spec P f R) {ps:List Pa} (hR:R ps [pB true]) {S:Nat→Nat} {w:World} {vals:Array Value} (hw:I.p w) (hv:RPs S w ps vals) :
 Calls P f vals w fun e w'=>e=.returned (.bool true)∧Below w.heap.size w w':=by
 refine (hs ps _ hR S w vals hw hv).mono ?_;rintro e w' ⟨v,S',rfl,h1,h2,_⟩;exact ⟨by rw [RP.bool h1],h2⟩
end Go.Proofs.Ytffcpijeebagfaa
end
section
namespace Go.Proofs.Ytffcpijeebagfaa
open Go Go.RowKit
set_option maxRecDepth 100000
set_option maxHeartbeats 4000000
theorem FJ {l:List Ev} {a:Nat}:∀ p ∈ bL l a,p.2 < a:=by
 intro p hp;unfold bL at hp;obtain ⟨j,hj,hm⟩:=List.mem_flatMap.1 hp;obtain ⟨i,_,rfl⟩:=List.mem_map.1 hm;exact List.mem_range.1 hj
theorem yc {l:List Ev} {a n:Nat} (h:a≤n):∃ B,bL l n=bL l a ++ B∧∀ p ∈ B,a≤p.2:=by
 induction n with
 | zero =>
   have:a=0:=by omega
   subst this;exact ⟨[],rfl,fun p q=>(by cases q)⟩
 | succ n ih =>
   rcases Nat.lt_or_ge n a with q | q
   ·have:a=n+1:=by omega
    subst this;exact ⟨[],(List.append_nil _).symm,fun p q=>(by cases q)⟩
   ·obtain ⟨B,h1,h2⟩:=ih q;refine ⟨B ++ (bK l n n).map fun i=>(i,n),by rw [iq,h1,List.append_assoc],fun p hp=>?_⟩
    rcases List.mem_append.1 hp with r | r
    ·exact h2 p r
    ·obtain ⟨i,_,rfl⟩:=List.mem_map.1 r;exact q
theorem qM {A:List (Nat×Nat)} {i:Nat} {p:Nat×Nat} (h:A[i]? = some p):(bS A)[i]? = some [dI p.1,dI p.2]:=by
 unfold bS;rw [List.getElem?_map,h];rfl
noncomputable def Jg:Env:=p1 45 mF (p1 55 qZ (e1 27 mK e0))
theorem BJ:aG Try.prog Jg:=.p1 oZ (.p1 xI (.e1 oK .e0))
theorem NU:iw Try.prog 16 zX:=by
 refine sqd16 BJ ?_;rintro hp az Post ⟨l,n,rfl,rfl,rfl⟩;refine ⟨by simp,fun _=>1,?_⟩;unfold pcd16;refine aH ?_;simp only [↓evP,evB,stB,iU,fH,mI];refine bP _ (by simp only [stB];exact ⟨0,rfl,ru,rfl⟩) ?_
 rintro hp1 rs1 ⟨⟨N1,hF1⟩,rfl⟩
 by_cases q1:(l.length:Int) > 40
 ·simp only [↓evP,evB,stB,reduceCtorEq,Nat.reduceEqDiff,q1,decide_true,prd16];exact ⟨_,_,rfl,fun b=>.inl rfl,rfl⟩
 have hl9:l.length≤900:=by omega
 have hlen6:l.length≤1000000:=by omega
 simp only [↓evP,evB,stB,reduceCtorEq,Nat.reduceEqDiff,q1,decide_false];refine aB [pB (decide (chk l=l.length))] ⟨l,rfl,hlen6,rfl⟩ ?_
 by_cases hc:chk l=l.length
 ·by_cases q2:n < 0
  ·simp only [↓evP,evB,stB,reduceCtorEq,Nat.reduceEqDiff,q2,hc,decide_true,prd16];exact ⟨_,_,rfl,fun b=>.inl rfl,rfl⟩
  by_cases q3:n > (l.length:Int)
  ·simp only [↓evP,evB,stB,reduceCtorEq,Nat.reduceEqDiff,q2,q3,hc,decide_true,decide_false,prd16];exact ⟨_,_,rfl,fun b=>.inl rfl,rfl⟩
  obtain ⟨a,rfl⟩:=Int.eq_ofNat_of_zero_le (show 0≤n by omega);have ha:a≤l.length:=by omega
  have ha0:(0:Int)≤(a:Int):=by omega
  have ha1:(a:Int)≤(l.length:Int):=by omega
  have hall:=DT (f:=Ev.row) (n:=9) (fun _=>rfl) l;have htk:(l.map Ev.row).take a=(l.take a).map Ev.row:=(List.map_take ..).symm;have hcp:=sF hc ha;have hlp:(l.take a).length=a:=by rw [List.length_take];omega
  obtain ⟨M,hM⟩:∃ M,l.take a=M:=⟨_,rfl⟩
  simp only [↓evP,evB,stB,reduceCtorEq,Nat.reduceEqDiff,q2,q3,hc,decide_true,decide_false];refine bP _ (by simp only [stB];exact ⟨l,N1,rfl,hF1,hl9,rfl⟩) ?_
  rintro hp2 rs2 ⟨⟨N2,hF2⟩,rfl⟩;rw [if_pos hc,rW hc];simp only [↓evP,evB,stB,reduceCtorEq,Nat.reduceEqDiff,ha0,ha1,hall,htk,hM,Int.le_refl,Int.toNat_zero];refine bP _ (by simp only [stB];exact ⟨M,N2,rfl,hF2,by rw [←hM,hlp];omega,rfl⟩) ?_
  rintro hp3 rs3 ⟨⟨N3,hF3⟩,rfl⟩;have hcM:chk M=M.length:=by rw [←hM];exact hcp
  have hMr:jD M=bL l a:=by rw [rW hcM,←hM,hlp,qN hc ha (Nat.le_refl _)]
  rw [if_pos hcM,hMr];obtain ⟨B,hB,hB2⟩:=yc (l:=l) ha;have hA2:=FJ (l:=l) (a:=a);have hbl:=xH hl9;rw [hB,List.length_append] at hbl;rw [hB];generalize bL l a=A at *;have z0:((0:Int) != 0)=false:=rfl;have b1:(!true == true)=false:=rfl;have b2:(!false == false)=false:=rfl;have lA:(bS A).length=A.length:=List.length_map ..;have lAB:(bS (A ++ B)).length=A.length+B.length:=by unfold bS;rw [List.length_map,List.length_append]
  have q4:¬ ((A.length:Int) > ((A.length+B.length:Nat):Int)):=by omega
  simp only [↓evP,evB,stB,reduceCtorEq,Nat.reduceEqDiff,z0,lA,lAB,q4,decide_false];refine gq msd16_0 osd16_0 (fun m st=>∃ k:Nat,m=(A.length+B.length) - k∧k≤A.length+B.length∧st.sl 58=aI k) (A.length+B.length) (by repeat' (first | exact aD.init | (refine aD.ap ?_ rfl))) ?_ ?_
  ·exact ⟨0,rfl,Nat.zero_le _,by simp only [stB,Nat.reduceEqDiff];rfl⟩
  rintro m j hjn hja ⟨k,rfl,hk,h58⟩;simp only [stB,Nat.reduceEqDiff,Nat.reduceBEq] at h58
  rcases Nat.lt_or_ge k (A.length+B.length) with hlt | hge
  ·have klt:(k:Int) < ((A.length+B.length:Nat):Int):=by omega
   have k0:(0:Int)≤(k:Int):=by omega
   obtain ⟨p,hp⟩:∃ p,(A ++ B)[k]? = some p:=⟨_,List.getElem?_eq_getElem (by rw [List.length_append];exact hlt)⟩
   have hpr:=qM hp;have e1:((p.1:Int) == (p.1:Int))=true:=by simp
   have e2:((p.2:Int) == (p.2:Int))=true:=by simp
   rcases Nat.lt_or_ge k A.length with hkA | hkA
   ·have hpA:A[k]? = some p:=by rw [←hp,List.getElem?_append_left hkA]
    have hprA:=qM hpA;have p2:(p.2:Int) < (a:Int):=by have:=hA2 p (List.mem_of_getElem? hpA);omega
    have kA:(k:Int) < (A.length:Int):=by omega
    simp only [↓evP,evB,stB,reduceCtorEq,Nat.reduceEqDiff,Nat.reduceAdd,Nat.reduceLeDiff,Nat.reduceLT,Nat.reduceBEq,h58,klt,k0,hpr,hprA,lA,p2,kA,kX,EN,e1,e2,b1,decide_true];refine ⟨(by unfold Drw;refine Eq.trans (b:=true) ?_ rfl;kernel_rfl),?_⟩
    exact ⟨_,by omega,(by repeat' (first | assumption | exact bC hja | (refine aQ ?_ rfl rfl) | (refine aN ?_ rfl) | (refine aQ ?_ rfl aS) | (refine aN ?_ aS))),k+1,rfl,hlt,by simp only [stB,Nat.reduceEqDiff,Nat.reduceBEq,h58];rw [wrN (by omega)]⟩
   ·have hpB:B[k - A.length]? = some p:=by rw [←hp,List.getElem?_append_right hkA]
    have p2:¬ (p.2:Int) < (a:Int):=by have:=hB2 p (List.mem_of_getElem? hpB);omega
    have kA:¬ (k:Int) < (A.length:Int):=by omega
    simp only [↓evP,evB,stB,reduceCtorEq,Nat.reduceEqDiff,Nat.reduceAdd,Nat.reduceLeDiff,Nat.reduceLT,Nat.reduceBEq,h58,klt,k0,hpr,lA,p2,kA,b2,decide_true,decide_false];refine ⟨(by unfold Drw;refine Eq.trans (b:=true) ?_ rfl;kernel_rfl),?_⟩
    exact ⟨_,by omega,(by repeat' (first | assumption | exact bC hja | (refine aQ ?_ rfl rfl) | (refine aN ?_ rfl) | (refine aQ ?_ rfl aS) | (refine aN ?_ aS))),k+1,rfl,hlt,by simp only [stB,Nat.reduceEqDiff,Nat.reduceBEq,h58];rw [wrN (by omega)]⟩
  ·have klt:¬ (k:Int) < ((A.length+B.length:Nat):Int):=by omega
   simp only [↓evP,evB,stB,reduceCtorEq,Nat.reduceEqDiff,Nat.reduceBEq,h58,klt,decide_false,prd16];exact ⟨_,_,rfl,fun b=>.inl rfl,rfl⟩
 ·simp only [↓evP,evB,stB,reduceCtorEq,Nat.reduceEqDiff,hc,decide_false,prd16];exact ⟨_,_,rfl,fun b=>.inl rfl,rfl⟩
def alB (g:Int) (e:Ev):Bool:=(e.g == g) || ((e.kind != 1) && (e.kind != 2))
def iC (g:Int) (l:List Ev):List Ev:=l.filter (alB g)
theorem Eh {g:Int} {l:List Ev} {k:Nat} {e:Ev} (h:l[k]? = some e):iC g (l.take (k+1))=iC g (l.take k) ++ if alB g e=true then [e] else []:=by
 unfold iC;rw [List.take_add_one,h,List.filter_append]
 congr 1
 show List.filter _ [e]=_
 rw [List.filter_cons];split <;> rfl
theorem Ef {g:Int} {l:List Ev} {i j:Nat} (hi:i < (iC g l).length) (hj:j < (iC g l).length):iE (ay (iC g l) i) (ay (iC g l) j)=false:=by
 have key:∀ i,i < (iC g l).length→jC (ay (iC g l) i).kind=true→(ay (iC g l) i).g=g:=fun i hi hm=>by
  have h1:=List.mem_of_getElem? (lG hi);have h2:=(List.mem_filter.1 h1).2;unfold alB at h2;unfold jC at hm;simp only [Bool.or_eq_true,Bool.and_eq_true,beq_iff_eq,bne_iff_ne,ne_eq,decide_eq_true_eq] at h2 hm
  rcases h2 with q | q
  ·exact q
  ·omega
 cases h:iE (ay (iC g l) i) (ay (iC g l) j) with
 | false=>rfl
 | true =>
   unfold iE at h;simp only [Bool.and_eq_true,bne_iff_ne,ne_eq] at h;obtain ⟨h1,h2,h3,_⟩:=h;exact absurd ((key i hi h1).trans (key j hj h2).symm) h3
theorem Bn {g:Int} {l:List Ev}:jD (iC g l)=[]:=by
 unfold jD;split
 ·unfold bL;rw [List.flatMap_eq_nil_iff];intro j hj;rw [List.mem_range] at hj;rw [List.map_eq_nil_iff];unfold bK;rw [List.filter_eq_nil_iff];intro i hi;rw [List.mem_range] at hi;unfold nS;rw [Ef (by omega) hj];simp
 ·rfl
noncomputable def Jc:Env:=p1 45 mF (p1 55 qZ (e1 27 mK e0))
theorem BH:aG Try.prog Jc:=.p1 oZ (.p1 xI (.e1 oK .e0))
theorem NR:iw Try.prog 17 zX:=by
 refine sqd17 BH ?_;rintro hp az Post ⟨l,g,rfl,rfl,rfl⟩;refine ⟨by simp,fun _=>1,?_⟩;unfold pcd17;refine aH ?_;simp only [↓evP,evB,stB,iU,fH,mI];refine bP _ (by simp only [stB];exact ⟨0,rfl,ru,rfl⟩) ?_
 rintro hp1 rs1 ⟨⟨N1,hF1⟩,rfl⟩
 by_cases q1:(l.length:Int) > 60
 ·simp only [↓evP,evB,stB,reduceCtorEq,Nat.reduceEqDiff,q1,decide_true,prd17];exact ⟨_,_,rfl,fun b=>.inl rfl,rfl⟩
 have hl9:l.length≤900:=by omega
 simp only [↓evP,evB,stB,reduceCtorEq,Nat.reduceEqDiff,q1,decide_false];refine gq msd17_0 osd17_0 (fun m st=>∃ k:Nat,m=l.length - k∧k≤l.length∧st.sl 17=aI k∧st.sl 5=.b (.one (.own 5 1 ((iC g (l.take k)).map Ev.row)))∧st.gen 5=1∧st.ob 5=.row 34 9 (iC g (l.take k)).length∧st.hb=hp1) l.length (by repeat' (first | exact aD.init | (refine aD.ap ?_ rfl))) ?_ ?_
 ·exact ⟨0,rfl,Nat.zero_le _,by simp only [stB,Nat.reduceEqDiff];rfl,by simp only [stB,Nat.reduceEqDiff];rfl,by simp only [stB],by simp only [stB,Nat.reduceLT];rfl,by simp only [stB,Nat.reduceLT]⟩
 rintro m j hjn hja ⟨k,rfl,hk,h17,h5,g5,o5,hh⟩;simp only [stB,Nat.reduceEqDiff,Nat.reduceLT,Nat.reduceBEq,hjn] at h17 h5 g5 o5 hh
 rcases Nat.lt_or_ge k l.length with hlt | hge
 ·obtain ⟨e,he⟩:∃ e,l[k]? = some e:=⟨_,List.getElem?_eq_getElem hlt⟩
  have hst:=Eh (g:=g) he;have klt:(k:Int) < (l.length:Int):=by omega
  have k0:(0:Int)≤(k:Int):=by omega
  have hAl:(iC g (l.take k)).length≤999999:=by
   have:(iC g (l.take k)).length≤(l.take k).length:=List.length_filter_le _ _;rw [List.length_take] at this;omega
  generalize iC g (l.take k)=A at *;have hA2:(A ++ [e]).map Ev.row=A.map Ev.row ++ [[dI e.g,dI e.kind,dI e.obj,dI e.off,dI e.k,dI e.n,dI e.fn,dI e.pc,dI e.stack]]:=by rw [List.map_append];rfl
  have hA3:(A.map Ev.row).length=A.length:=List.length_map ..;have hA4:(A ++ [e]).length=A.length+1:=by rw [List.length_append];rfl
  unfold alB at hst
  cases b0:(e.g == g) with
  | true =>
    rw [b0,Bool.true_or,if_pos rfl] at hst;simp only [↓evP,evB,stB,reduceCtorEq,Nat.reduceEqDiff,Nat.reduceAdd,Nat.reduceLeDiff,Nat.reduceLT,Nat.reduceBEq,h17,h5,g5,o5,klt,k0,he,Ev.row,b0,hAl,hA3,decide_true]
    first | refine ⟨(by unfold Drw;refine Eq.trans (b:=true) ?_ rfl;kernel_rfl),?_⟩ | skip
    exact ⟨_,by omega,(by repeat' (first | assumption | exact bC hja | (refine aQ ?_ rfl rfl) | (refine aN ?_ rfl) | (refine aQ ?_ rfl aS) | (refine aN ?_ aS))),k+1,rfl,hlt,by simp only [stB,Nat.reduceEqDiff,Nat.reduceBEq,h17];rw [wrN (by omega)],by simp only [stB,Nat.reduceEqDiff,Nat.reduceBEq];rw [hst,hA2],by simp only [stB,Nat.reduceEqDiff,Nat.reduceBEq,g5],by simp only [stB,Nat.reduceEqDiff,Nat.reduceLT,Nat.reduceBEq,o5];rw [hst,hA4];first | done | rfl,by simp only [stB,Nat.reduceLT,hh,hjn]⟩
  | false =>
    rw [b0,Bool.false_or] at hst
    cases b1:(e.kind != 1) with
    | false =>
      rw [b1,Bool.false_and,if_neg (by decide),List.append_nil] at hst;simp only [↓evP,evB,stB,reduceCtorEq,Nat.reduceEqDiff,Nat.reduceAdd,Nat.reduceLeDiff,Nat.reduceLT,Nat.reduceBEq,h17,h5,g5,o5,klt,k0,he,Ev.row,b0,b1,hAl,hA3,decide_true]
      first | refine ⟨(by unfold Drw;refine Eq.trans (b:=true) ?_ rfl;kernel_rfl),?_⟩ | skip
      exact ⟨_,by omega,(by repeat' (first | assumption | exact bC hja | (refine aQ ?_ rfl rfl) | (refine aN ?_ rfl) | (refine aQ ?_ rfl aS) | (refine aN ?_ aS))),k+1,rfl,hlt,by simp only [stB,Nat.reduceEqDiff,Nat.reduceBEq,h17];rw [wrN (by omega)],by simp only [stB,Nat.reduceEqDiff,Nat.reduceBEq,h5];rw [hst],by simp only [stB,Nat.reduceEqDiff,Nat.reduceBEq,g5],by simp only [stB,Nat.reduceEqDiff,Nat.reduceLT,Nat.reduceBEq,o5];rw [hst],by simp only [stB,Nat.reduceLT,hh,hjn]⟩
    | true =>
      cases b2:(e.kind != 2) with
      | true =>
        rw [b1,b2,if_pos (by decide)] at hst;simp only [↓evP,evB,stB,reduceCtorEq,Nat.reduceEqDiff,Nat.reduceAdd,Nat.reduceLeDiff,Nat.reduceLT,Nat.reduceBEq,h17,h5,g5,o5,klt,k0,he,Ev.row,b0,b1,b2,hAl,hA3,decide_true]
        first | refine ⟨(by unfold Drw;refine Eq.trans (b:=true) ?_ rfl;kernel_rfl),?_⟩ | skip
        exact ⟨_,by omega,(by repeat' (first | assumption | exact bC hja | (refine aQ ?_ rfl rfl) | (refine aN ?_ rfl) | (refine aQ ?_ rfl aS) | (refine aN ?_ aS))),k+1,rfl,hlt,by simp only [stB,Nat.reduceEqDiff,Nat.reduceBEq,h17];rw [wrN (by omega)],by simp only [stB,Nat.reduceEqDiff,Nat.reduceBEq];rw [hst,hA2],by simp only [stB,Nat.reduceEqDiff,Nat.reduceBEq,g5],by simp only [stB,Nat.reduceEqDiff,Nat.reduceLT,Nat.reduceBEq,o5];rw [hst,hA4];first | done | rfl,by simp only [stB,Nat.reduceLT,hh,hjn]⟩
      | false =>
        rw [b1,b2,if_neg (by decide),List.append_nil] at hst;simp only [↓evP,evB,stB,reduceCtorEq,Nat.reduceEqDiff,Nat.reduceAdd,Nat.reduceLeDiff,Nat.reduceLT,Nat.reduceBEq,h17,h5,g5,o5,klt,k0,he,Ev.row,b0,b1,b2,hAl,hA3,decide_true]
        first | refine ⟨(by unfold Drw;refine Eq.trans (b:=true) ?_ rfl;kernel_rfl),?_⟩ | skip
        exact ⟨_,by omega,(by repeat' (first | assumption | exact bC hja | (refine aQ ?_ rfl rfl) | (refine aN ?_ rfl) | (refine aQ ?_ rfl aS) | (refine aN ?_ aS))),k+1,rfl,hlt,by simp only [stB,Nat.reduceEqDiff,Nat.reduceBEq,h17];rw [wrN (by omega)],by simp only [stB,Nat.reduceEqDiff,Nat.reduceBEq,h5];rw [hst],by simp only [stB,Nat.reduceEqDiff,Nat.reduceBEq,g5],by simp only [stB,Nat.reduceEqDiff,Nat.reduceLT,Nat.reduceBEq,o5];rw [hst],by simp only [stB,Nat.reduceLT,hh,hjn]⟩
 ·have hke:k=l.length:=by omega
  have klt:¬ (k:Int) < (l.length:Int):=by omega
  rw [hke,List.take_length] at h5 o5;have hAl:(iC g l).length≤900:=Nat.le_trans (List.length_filter_le _ _) hl9;have hra:=Bn (g:=g) (l:=l);generalize iC g l=A at *;have hF:Free j.hb N1:=by rw [hh];exact hF1
  have hA3:(A.map Ev.row).length=A.length:=List.length_map ..;simp only [↓evP,evB,stB,reduceCtorEq,Nat.reduceEqDiff,Nat.reduceBEq,h17,h5,klt,decide_false];refine bP _ (by simp only [stB,hjn];exact ⟨A,N1,rfl,hF,hAl,rfl⟩) ?_
  rintro hp2 rs2 ⟨⟨N2,hF2⟩,rfl⟩;rw [hra];have r0:(bS []).length=0:=rfl;have t0:(((0:Nat):Int) == 0)=true:=rfl
  by_cases hc:chk A=A.length
  ·have t1:((0:Int) == 0)=true:=rfl;have t2:(true == true)=true:=rfl;rw [if_pos hc];simp only [↓evP,evB,stB,reduceCtorEq,Nat.reduceEqDiff,Nat.reduceBEq,h5,r0,t0,t1];refine aB [pB (decide (chk A=A.length))] ⟨A,rfl,by omega,rfl⟩ ?_;simp only [↓evP,evB,stB,reduceCtorEq,Nat.reduceEqDiff,Nat.reduceBEq,hc,t2,decide_true,prd17];exact ⟨_,_,rfl,fun b=>.inl rfl,rfl⟩
  ·have t1:((1:Int) == 0)=false:=rfl;have t2:(false == false)=true:=rfl;rw [if_neg hc];simp only [↓evP,evB,stB,reduceCtorEq,Nat.reduceEqDiff,Nat.reduceBEq,h5,r0,t0,t1];refine aB [pB (decide (chk A=A.length))] ⟨A,rfl,by omega,rfl⟩ ?_;simp only [↓evP,evB,stB,reduceCtorEq,Nat.reduceEqDiff,Nat.reduceBEq,hc,t2,decide_false,prd17];exact ⟨_,_,rfl,fun b=>.inl rfl,rfl⟩
end Go.Proofs.Ytffcpijeebagfaa
end
