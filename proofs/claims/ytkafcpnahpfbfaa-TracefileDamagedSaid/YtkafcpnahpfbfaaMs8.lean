/- The program's reader: the entries of a piece. -/
import Derived.Test.YtkafcpnahpfbfaaMs7
set_option linter.unusedSimpArgs false
set_option linter.unusedVariables false
section
namespace Go.Proofs.Ytkafcpnahpfbfaa
open Go Go.RowKit
set_option maxRecDepth 1000000
set_option maxHeartbeats 4000000
def iE (bs:List Nat) (at_:Int) (ye ys yp bR:Nat) (l:Ev) (sh en:Bool):Hb:=.cells (.d (.im (byR bs)) :: .d (dI at_) :: .h (.v ye) :: .h (.v ys) :: .h (.v yp) :: .h (.m bR) :: (l.row.map .d ++ [.d (.sc (.bool sh)),.d (.sc (.bool en))]))
def stR (d:Dep) (a:Nat):List (List Dt):=(d.st.drop a).map aW
def prR (d:Dep) (a:Nat):List (List Dt):=(d.pr.drop a).map fun x=>[dI x]
def ptl (xe xs xp bk:Nat) (l:Ev):List Hc:=.h (.v xe) :: .h (.v xs) :: .h (.v xp) :: .h (.m bk) :: l.row.map .d
structure EAt (hp H:Nat→Hb) (N N' bp bk x0 p0 xe a xs xp:Nat) (l:Ev) (s:Rs) (d:Dep):Prop where
 h:H bp=rsH s (ptl xe xs xp bk l)
 st:H xs=.vec 50 2 (stR d a)
 pr:H xp=.vec 3 1 (prR d a)
 k:∃ es cl,H bk=.map 113 es cl∧Kn es cl (KnD d a d.st.length)
 ne:xs≠bp∧xs≠bk∧xp≠bp∧xp≠bk∧xs≠xp∧xs < N'∧xp < N'∧N≤N'
 o:∀ b,b < N→b≠bp→b≠bk→b≠x0→b≠p0→H b=hp b
 f:∀ b,N'≤b→H b=.no
 nx:(xs=x0∨N≤xs)∧(xp=p0∨N≤xp)
def iJ (s:Rs) (d:Dep):Dep×Rs:=kQ (bN s).1 d (bN s).2
structure TI (hp:Nat→Hb) (N bp br bk bR x0 p0 xe ye ys yp:Nat) (bs body:List Nat) (at_:Int) (lr:Ev) (sh en:Bool) (l:Ev) (d:Dep):Prop where
 lt:bp < N∧br < N∧bk < N∧bR < N∧bp≠bk∧bp≠br∧bp≠bR∧bk≠br∧bk≠bR
 lt2:br≠x0∧br≠p0∧bR≠x0∧bR≠p0∧ys < N∧ys≠bp∧ys≠bk∧ys≠x0∧ys≠p0
 r:hp br=iE bs at_ ye ys yp bR lr sh en
 rs:hp ys=.vec 50 2 (d.st.map aW)
 rk:∃ es cl,hp bR=.map 113 es cl∧Kn es cl (KnD d 0 d.st.length)
 p:EAt hp hp N N bp bk x0 p0 xe d.st.length x0 p0 l ⟨body,false⟩ d
 v:d.val
 dl:d.st.length≤400000
 bl:body.length≤400000
 by_:∀ x ∈ body,x≤255
def Ee (hp:Nat→Hb) (az:List Hw) (Post:(Nat→Hb)→List Hw→Prop):Prop:=∃ (N bp br bk bR x0 p0 xe ye ys yp:Nat) (bs body:List Nat) (at_:Int) (lr:Ev) (sh en:Bool) (l:Ev) (d:Dep),
 az=[.one (hP bp 0),.one (hP br 0)]∧TI hp N bp br bk bR x0 p0 xe ye ys yp bs body at_ lr sh en l d ∧
 Post=fun h r=>r=[.one (.d (.sc (.bool (!(iJ ⟨body,false⟩ d).2.bad))))]∧(∀ b,b < N→b≠bp→b≠bk→b≠x0→b≠p0→h b=hp b)∧((iJ ⟨body,false⟩ d).2.bad=false→∃ N' xs xp,EAt hp h N N' bp bk x0 p0 xe d.st.length xs xp l (iJ ⟨body,false⟩ d).2 (iJ ⟨body,false⟩ d).1)
theorem FT {α:Type} {f:Nat→α} {a:Nat} {v:α} (h:f a=v):up f a v=f:=by
 funext b;rw [ay];split
 ·rename_i q;rw [q,h]
 ·rfl
theorem I8 {D:Dep} {p:Int} {s:Int×Int} {a:Nat} (hl:D.st.length=D.pr.length) (ha:a≤D.st.length):KnD (eB D p s) a (eB D p s).st.length=fun y=>KnD D a D.st.length y∨y=mW (p+1) s.1 s.2:=by
 have hlen:(eB D p s).st.length=D.st.length+1:=by simp [eB]
 have hold:∀ i,i < D.st.length→r9 (eB D p s) i=r9 D i:=fun i hi=>by
  unfold r9;rw [jC hi,jA (by omega)]
 have hnew:r9 (eB D p s) D.st.length=mW (p+1) s.1 s.2:=by
  unfold r9 dX fB eB;simp only [List.getD_eq_getElem?_getD];rw [List.getElem?_append_right (Nat.le_refl _),List.getElem?_append_right (by omega),Nat.sub_self,hl,Nat.sub_self];rfl
 funext y
 rw [hlen];refine propext ⟨fun ⟨i,h1,h2,h3⟩=>?_,fun h=>?_⟩
 ·rcases Nat.lt_or_ge i D.st.length with q | q
  ·exact .inl ⟨i,h1,q,by rw [←hold i q];exact h3⟩
  ·have:i=D.st.length:=by omega
   rw [this,hnew] at h3;exact .inr h3.symm
 ·rcases h with ⟨i,h1,h2,h3⟩ | rfl
  ·exact ⟨i,h1,by omega,by rw [hold i h2];exact h3⟩
  ·exact ⟨_,ha,Nat.lt_succ_self _,hnew⟩
theorem EAt.next {hp H H2:Nat→Hb} {N N' bp bk x0 p0 xe a xs xp:Nat} {l:Ev} {S T:Rs} {D:Dep} {p:Int} {s:Int×Int} {es:List (Value×Nat×Hw)} {cl:Nat} (hA:EAt hp H N N' bp bk x0 p0 xe a xs xp l S D) (hlt:bp < N∧bk < N) (hl:D.st.length=D.pr.length) (ha:a≤D.st.length) (hK:Kn es cl (KnD D a D.st.length))
 (h1:H2 bp=rsH T (ptl xe N' (N'+1) bk l)) (h2:H2 N'=.vec 50 2 (stR D a ++ [aW s])) (h3:H2 (N'+1)=.vec 3 1 (prR D a ++ [[dI p]]))
 (h4:H2 bk=.map 113 (nW es cl (mW (p+1) s.1 s.2) trW) (match fA es (mW (p+1) s.1 s.2) with | some _=>cl | none=>cl+1)) (h5:∀ b,b < N→b≠bp→b≠bk→b≠x0→b≠p0→H2 b=hp b) (h6:∀ b,N'+2≤b→H2 b=.no):EAt hp H2 N (N'+2) bp bk x0 p0 xe a N' (N'+1) l T (eB D p s):=by
 have e1:stR (eB D p s) a=stR D a ++ [aW s]:=by
  unfold stR eB;rw [List.drop_append_of_le_length ha,List.map_append];rfl
 have e2:prR (eB D p s) a=prR D a ++ [[dI p]]:=by
  unfold prR eB;rw [List.drop_append_of_le_length (by omega),List.map_append];rfl
 have hne:=hA.ne;refine ⟨h1,?_,?_,⟨_,_,h4,?_⟩,by omega,h5,h6,by omega⟩
 ·rw [e1];exact h2
 ·rw [e2];exact h3
 ·rw [I8 hl ha];exact hK.put _
noncomputable def Ju:Env:=h1 60 vT (e1 23 tJ e0)
theorem RX:dY Try.prog 59 Ee:=by
 refine sqp59 (show aA Try.prog Ju from aA.h1 Ey (aA.e1 FJ aA.e0)) ?_;rintro hp az Post ⟨N,bp,br,bk,bR,x0,p0,xe,ye,ys,yp,bs,body,at_,lr,sh,en,l,d,rfl,hP,rfl⟩;refine ⟨by simp,fun _=>1,?_⟩;obtain ⟨hlt,hlt2,hr,hrs,⟨esR,clR,hbR,hKR⟩,hp0,hv,hdl,hbl,hby⟩:=hP;obtain ⟨l1,l2,l3,l4,l5,l6,l7,l8,l9⟩:=hlt;obtain ⟨m1,m2,m3,m4,m5,m6,m7,m8,m9⟩:=hlt2;obtain ⟨E,hE⟩:∃ E,iJ ⟨body,false⟩ d=E:=⟨_,rfl⟩
 rw [hE];have hh:=hp0.h;have hne0:=hp0.ne;unfold pcp59
 with_reducible refine aQ ?_
 simp only [↓evP,evB,stB,reduceCtorEq,Nat.reduceEqDiff];refine bM (up hp bp (rsH (bU ⟨body,false⟩).2 (ptl xe x0 p0 bk l))) [.one (hI (bU ⟨body,false⟩).1)] (by simp only [stB];exact ⟨bp,⟨body,false⟩,ptl xe x0 p0 bk l,rfl,⟨hh,hbl,hby⟩,rfl,rfl⟩) ?_
 obtain ⟨cnt,hcnt⟩:∃ c,(bU ⟨body,false⟩).1=c:=⟨_,rfl⟩
 obtain ⟨S0,hS0⟩:∃ S,(bU ⟨body,false⟩).2=S:=⟨_,rfl⟩
 have hcb:cnt≤4294967295:=by rw [←hcnt];exact mD _
 have hS0s:S0.rest <:+ body:=by rw [←hS0];exact qK _
 rw [hcnt,hS0]
 have hE0:(S0.bad=false→kQ cnt d S0=E)∧(S0.bad=true→E.2.bad=true):=by
  refine ⟨fun q=>?_,fun q=>?_⟩
  ·obtain ⟨_,h2⟩:=iy (s:=⟨body,false⟩) (by rw [hS0];exact q)
   rw [←hE];unfold iJ;rw [h2,hcnt,hS0]
  ·have h2:=jO (s:=⟨body,false⟩) (by rw [hS0];exact q)
   rw [←hE];unfold iJ;generalize bN ⟨body,false⟩=M at h2 ⊢;obtain ⟨n,M⟩:=M
   cases n with
   | zero=>exact h2
   | succ n=>unfold kQ;rw [if_pos h2];exact h2
 simp only [↓evP,evB,stB,Nat.reduceEqDiff];refine dA msp59_0 osp59_0 (fun m st=>∃ (j N' xs xp:Nat) (S:Rs) (D:Dep),m=cnt - j∧j≤cnt∧st.sl 6=aI j∧EAt hp st.hb N N' bp bk x0 p0 xe d.st.length xs xp l S D∧((S.bad=false→kQ (cnt - j) D S=E)∧(S.bad=true→E.2.bad=true))∧S.rest <:+ body∧D.val∧D.st.length=d.st.length+j∧(∀ i,i < d.st.length→r9 D i=r9 d i)∧3 * j+S.rest.length≤body.length) cnt (by repeat' (first | exact aH.init | assumption | exact aN (by assumption) | (refine aH.ap ?_ rfl))) ?_ ?_
 ·refine ⟨0,N,x0,p0,S0,d,rfl,Nat.zero_le _,by simp only [stB,Nat.reduceEqDiff];first | done | rfl,?_,hE0,hS0s,hv,rfl,fun _ _=>rfl,by have:=hS0s.length_le;omega⟩
  simp only [stB];obtain ⟨es,cl,q1,q2⟩:=hp0.k;exact ⟨dK,by rw [bB (by omega)];exact hp0.st,by rw [bB (by omega)];exact hp0.pr,⟨es,cl,by rw [bB (Ne.symm l5)];exact q1,q2⟩,hne0,fun b _ h2 _ _ _=>bB h2,fun b hb=>by rw [bB (by omega)];exact hp0.f b hb,⟨.inl rfl,.inl rfl⟩⟩
 rintro m z hzn hza ⟨j,N',xs,xp,S,D,rfl,hj,h6,hA,hES,hSs,hDv,hDl,hDk,hjl⟩;simp only [stB,Nat.reduceEqDiff,Nat.reduceBEq,hzn] at h6 hA;obtain ⟨H,hH⟩:∃ H,z.hb=H:=⟨_,rfl⟩
 rw [hH] at hA;have hAh:=hA.h;obtain ⟨n1,n2,n3,n4,n5,n6,n7,n8⟩:=hA.ne;have hzh:z.hb bp=rsH S (ptl xe xs xp bk l):=by rw [hH];exact hAh
 simp only [rsH] at hzh
 by_cases hjc:j < cnt
 ·have jc:(j:Int) < (cnt:Int):=by omega
  cases hSb:S.bad with
  | true =>
    have hEb:=hES.2 hSb;simp only [↓evP,evB,stB,reduceCtorEq,Nat.reduceEqDiff,Nat.reduceBEq,h6,jc,hzn,hzh,hSb,decide_true,prp59];refine ⟨_,_,rfl,fun b=>.inl rfl,by rw [hEb];rfl,fun b h1 h2 h3 h4 h5=>?_,fun q=>by rw [hEb] at q;cases q⟩
    simp only [hH];exact hA.o b h1 h2 h3 h4 h5
  | false =>
    have hEe:=hES.1 hSb;obtain ⟨TL,hTL⟩:∃ TL,ptl xe xs xp bk l=TL:=⟨_,rfl⟩
    rw [hTL] at hzh hAh;have hrl:=hSs.length_le;simp only [↓evP,evB,stB,reduceCtorEq,Nat.reduceEqDiff,Nat.reduceBEq,h6,jc,hzn,hzh,hSb,decide_true]
    refine dA msp59_1 osp59_1 (fun m st=>∃ (i:Nat) (T:Rs) (a b c:Nat),m=3 - i∧st.sl 24=aI i∧(st.gen 7=z.gen 7+1∧st.ob 7=.cells [.d (dI a),.d (dI b),.d (dI c)])∧st.hb=up H bp (rsH T TL)∧T.rest <:+ S.rest∧((i=0∧T=S∧a=0∧b=0∧c=0)∨(i=1∧T=(D7 S).2∧a=(D7 S).1∧b=0∧c=0)∨(i=2∧T=(I7 S).2∧a=(D7 S).1∧b=(I7 S).1∧c=0)∨(i=3∧T=(BG S).2∧a=(D7 S).1∧b=(I7 S).1∧c=(BG S).1))) 3 (by repeat' (first | with_reducible exact aN hza | (refine aH.ap ?_ rfl))) ?_ ?_
    ·refine ⟨0,S,0,0,0,rfl,by simp only [stB,Nat.reduceEqDiff,Nat.reduceBEq];first | done | rfl,⟨by simp only [stB,Nat.reduceBEq],by simp only [stB,Nat.reduceLT,Nat.reduceBEq];first | done | rfl⟩,?_,List.suffix_refl _,.inl ⟨rfl,rfl,rfl,rfl,rfl⟩⟩
     simp only [stB,Nat.reduceLT,hzn,hH];exact (FT hAh).symm
    rintro m2 y hyn hya ⟨i,T,a,b,c,rfl,h24,⟨h7g,h7⟩,hyb,hTs,hcase⟩;simp only [stB,Nat.reduceEqDiff,Nat.reduceLT,Nat.reduceBEq,hyn] at h24 h7g h7 hyb;have hTl:=hTs.length_le;have hTb:∀ x ∈ T.rest,x≤255:=fun x hx=>hby x (hSs.subset (hTs.subset hx))
    have hyh:y.hb bp=rsH T TL:=by rw [hyb];exact dK
    have hstep:vT (up H bp (rsH T TL)) [.one (hP bp 0)] (up H bp (rsH (bU T).2 TL)) [.one (hI (bU T).1)]:=⟨bp,T,TL,rfl,⟨dK,by omega,hTb⟩,zu.symm,rfl⟩;have hnx:(bU T).2.rest <:+ S.rest:=(qK T).trans hTs
    rcases hcase with ⟨rfl,hT,rfl,rfl,rfl⟩ | ⟨rfl,hT,rfl,rfl,rfl⟩ | ⟨rfl,hT,rfl,rfl,rfl⟩ | ⟨rfl,hT,rfl,rfl,rfl⟩
    ·have h24:y.sl 24=aI 0:=h24;have c3:(0:Int) < 3:=by decide
     have w3:IntKind.i64.wrap ((0:Int)+1)=1:=by decide
     have z0:(0:Int)≤0:=by decide
     have d3:(0:Int) < ((3:Nat):Int):=by decide
     have tN:Int.toNat 0=0:=rfl;simp only [↓evP,evB,stB,reduceCtorEq,Nat.reduceEqDiff,Nat.reduceSub,Nat.reduceBEq,h24,c3,hyn,decide_true];refine bM (up H bp (rsH (bU T).2 TL)) [.one (hI (bU T).1)] (by simp only [stB,hyn,hyb];exact hstep) ?_
     simp only [↓evP,evB,stB,Nat.reduceEqDiff,Nat.reduceAdd,Nat.reduceMul,Nat.reduceLeDiff,Nat.reduceLT,Nat.reduceBEq,h24,h7g,h7,z0,d3,tN]
     refine ⟨_,by omega,(by repeat' (first | assumption | exact aP (by assumption) | (refine aJ ?_ rfl rfl) | (refine aD ?_ rfl) | (refine aJ ?_ rfl aK) | (refine aD ?_ aK))),1,(bU T).2,(bU T).1,0,0,rfl,by simp only [stB,Nat.reduceEqDiff,Nat.reduceBEq,h24,w3];first | done | rfl,⟨by simp only [stB,Nat.reduceBEq,h7g],by simp only [stB,Nat.reduceLT,Nat.reduceBEq,h7];first | done | rfl⟩,by simp only [stB,Nat.reduceLT],hnx,.inr (.inl ⟨rfl,by rw [hT];rfl,by rw [hT];rfl,rfl,rfl⟩)⟩
    ·have h24:y.sl 24=aI 1:=h24;have c3:(1:Int) < 3:=by decide
     have w3:IntKind.i64.wrap ((1:Int)+1)=2:=by decide
     have z0:(0:Int)≤1:=by decide
     have d3:(1:Int) < ((3:Nat):Int):=by decide
     have tN:Int.toNat 1=1:=rfl;simp only [↓evP,evB,stB,reduceCtorEq,Nat.reduceEqDiff,Nat.reduceSub,Nat.reduceBEq,h24,c3,z0,hyn,decide_true];refine bM (up H bp (rsH (bU T).2 TL)) [.one (hI (bU T).1)] (by simp only [stB,hyn,hyb];exact hstep) ?_
     simp only [↓evP,evB,stB,Nat.reduceEqDiff,Nat.reduceAdd,Nat.reduceMul,Nat.reduceLeDiff,Nat.reduceLT,Nat.reduceBEq,h24,h7g,h7,z0,d3,tN]
     refine ⟨_,by omega,(by repeat' (first | assumption | exact aP (by assumption) | (refine aJ ?_ rfl rfl) | (refine aD ?_ rfl) | (refine aJ ?_ rfl aK) | (refine aD ?_ aK))),2,(bU T).2,(D7 S).1,(bU T).1,0,rfl,by simp only [stB,Nat.reduceEqDiff,Nat.reduceBEq,h24,w3];first | done | rfl,⟨by simp only [stB,Nat.reduceBEq,h7g],by simp only [stB,Nat.reduceLT,Nat.reduceBEq,h7];first | done | rfl⟩,by simp only [stB,Nat.reduceLT],hnx,.inr (.inr (.inl ⟨rfl,by rw [hT];rfl,rfl,by rw [hT];rfl,rfl⟩))⟩
    ·have h24:y.sl 24=aI 2:=h24;have c3:(2:Int) < 3:=by decide
     have w3:IntKind.i64.wrap ((2:Int)+1)=3:=by decide
     have z0:(0:Int)≤2:=by decide
     have d3:(2:Int) < ((3:Nat):Int):=by decide
     have tN:Int.toNat 2=2:=rfl;simp only [↓evP,evB,stB,reduceCtorEq,Nat.reduceEqDiff,Nat.reduceSub,Nat.reduceBEq,h24,c3,hyn,decide_true];refine bM (up H bp (rsH (bU T).2 TL)) [.one (hI (bU T).1)] (by simp only [stB,hyn,hyb];exact hstep) ?_
     simp only [↓evP,evB,stB,Nat.reduceEqDiff,Nat.reduceAdd,Nat.reduceMul,Nat.reduceLeDiff,Nat.reduceLT,Nat.reduceBEq,h24,h7g,h7,z0,d3,tN]
     refine ⟨_,by omega,(by repeat' (first | assumption | exact aP (by assumption) | (refine aJ ?_ rfl rfl) | (refine aD ?_ rfl) | (refine aJ ?_ rfl aK) | (refine aD ?_ aK))),3,(bU T).2,(D7 S).1,(I7 S).1,(bU T).1,rfl,by simp only [stB,Nat.reduceEqDiff,Nat.reduceBEq,h24,w3];first | done | rfl,⟨by simp only [stB,Nat.reduceBEq,h7g],by simp only [stB,Nat.reduceLT,Nat.reduceBEq,h7];first | done | rfl⟩,by simp only [stB,Nat.reduceLT],hnx,.inr (.inr (.inr ⟨rfl,by rw [hT];rfl,rfl,rfl,by rw [hT];rfl⟩))⟩
    ·have h24:y.sl 24=aI 3:=h24;have c3:¬ (3:Int) < 3:=by decide
     have hyo:∀ b,b < N→b≠bp→b≠bk→b≠x0→b≠p0→y.hb b=hp b:=fun b h1 h2 h3 h4 h5=>by rw [hyb,bB h2];exact hA.o b h1 h2 h3 h4 h5
     obtain ⟨es,cl,hbk,hKn⟩:=hA.k;have hyr:y.hb br=iE bs at_ ye ys yp bR lr sh en:=(hyo br l2 (Ne.symm l6) (Ne.symm l8) m1 m2).trans hr;have hyk:y.hb bk=.map 113 es cl:=by rw [hyb,bB (Ne.symm l5)];exact hbk
     have hyR:y.hb bR=.map 113 esR clR:=(hyo bR l4 (Ne.symm l7) (Ne.symm l9) m3 m4).trans hbR;have hyy:y.hb ys=.vec 50 2 (d.st.map aW):=(hyo ys m5 m6 m7 m8 m9).trans hrs;have hyx:y.hb xs=.vec 50 2 (stR D d.st.length):=by rw [hyb,bB n1];exact hA.st
     have hyx1:y.hb xp=.vec 3 1 (prR D d.st.length):=by rw [hyb,bB n3];exact hA.pr
     rw [←hTL] at hyh;obtain ⟨T1,hT1⟩:∃ v,(D7 S).1=v:=⟨_,rfl⟩
     obtain ⟨T2,hT2⟩:∃ v,(I7 S).1=v:=⟨_,rfl⟩
     obtain ⟨T3,hT3⟩:∃ v,(BG S).1=v:=⟨_,rfl⟩
     have b1:T1≤4294967295:=by rw [←hT1];exact mD _
     have b2:T2≤4294967295:=by rw [←hT2];exact mD _
     have b3:T3≤4294967295:=by rw [←hT3];exact mD _
     rw [hT1,hT2,hT3] at h7;obtain ⟨k,hk⟩:∃ k,cnt - j=k+1:=⟨cnt - j - 1,by omega⟩
     rw [hk] at hEe;unfold kQ at hEe;rw [if_neg (by rw [hSb];simp)] at hEe
     have ha1:(1:Int) < ((3:Nat):Int):=by decide
     have ha2:(2:Int) < ((3:Nat):Int):=by decide
     have ha0:(0:Int) < ((3:Nat):Int):=by decide
     have hb1:(0:Int)≤1:=by decide
     have hb2:(0:Int)≤2:=by decide
     have hb0:(0:Int)≤0:=by decide
     have t1:Int.toNat 1=1:=rfl;have t2:Int.toNat 2=2:=rfl;have t0:Int.toNat 0=0:=rfl;have hfin:E.2.bad=true→(∀ b,b < N→b≠bp→b≠bk→b≠x0→b≠p0→y.hb b=hp b)∧(E.2.bad=false→∃ N' xs xp,EAt hp y.hb N N' bp bk x0 p0 xe d.st.length xs xp l E.2 E.1):=fun q=>⟨hyo,fun q'=>by rw [q] at q';cases q'⟩
     simp only [rsH,ptl] at hyh;simp only [iE] at hyr
     cases hTb:T.bad with
     | true =>
       have hEb:E.2.bad=true:=by
        rw [if_pos (.inl (O5 (by rw [←hT];exact hTb)))] at hEe
        rw [←hEe]
       simp only [↓evP,evB,stB,reduceCtorEq,Nat.reduceEqDiff,Nat.reduceAdd,Nat.reduceMul,Nat.reduceLeDiff,Nat.reduceLT,Nat.reduceSub,Nat.reduceBEq,h24,h7g,h7,c3,hyn,hyh,hTb,ha1,ha2,hb1,hb2,t1,t2,decide_false];refine ⟨(by unfold Drw;refine Eq.trans (b:=true) ?_ rfl;kernel_rfl),?_⟩
       simp only [stB,Nat.reduceEqDiff,Nat.reduceBEq,prp59];obtain ⟨q1,q2⟩:=hfin hEb;exact ⟨_,_,rfl,fun b=>.inl rfl,by rw [hEb];rfl,q1,q2⟩
     | false =>
       obtain ⟨hSb',htri⟩:=R9 (s:=S) (by rw [←hT];exact hTb)
       rw [htri,hT1,hT2,hT3,←hT] at hEe;dsimp only at hEe;have hTbF:¬ T.bad=true:=by rw [hTb];simp
       have hEf:¬ okE D ((T1:Int) - 1) ((T2:Int),(T3:Int))→E.2.bad=true:=fun q=>by
        rw [if_pos (.inr q)] at hEe;rw [←hEe]
       have hkey:=xq (k:=(T1:Int)) (a:=(T2:Int)) (b:=(T3:Int)) ⟨by omega,by omega⟩ ⟨by omega,by omega⟩ ⟨by omega,by omega⟩
       have hks:∀ i,r9 D i=mW (T1:Int) (T2:Int) (T3:Int)→eqE D ((T1:Int) - 1) ((T2:Int),(T3:Int)) i:=fun i q=>by
        unfold r9 at q;rw [vk] at q;exact ⟨Prod.ext q.2.1 q.2.2,by omega⟩
       have hek:∀ i,eqE D ((T1:Int) - 1) ((T2:Int),(T3:Int)) i→r9 D i=mW (T1:Int) (T2:Int) (T3:Int):=fun i q=>by
        unfold r9;rw [vk,q.1,q.2];exact ⟨by omega,rfl,rfl⟩
       have hlX:(stR D d.st.length).length=j:=by unfold stR;rw [List.length_map,List.length_drop];omega
       have hlY:(d.st.map aW).length=d.st.length:=List.length_map ..;obtain ⟨q,hq⟩:∃ q,(decide ((T2:Int)≤2147483647) && decide ((T3:Int)≤2147483647))=q:=⟨_,rfl⟩
       have hsto:tJ [.agg (aW ((T2:Int),(T3:Int)))] [pB q]:=⟨((T2:Int),(T3:Int)),rfl,by rw [hq]⟩;have hfr0:y.hb N'=.no:=by rw [hyb,bB (by omega)];exact hA.f _ (Nat.le_refl _)
       have hfr1:y.hb (N'+1)=.no:=by rw [hyb,bB (by omega)];exact hA.f _ (by omega)
       have hlP:(prR D d.st.length).length=j:=by unfold prR;rw [List.length_map,List.length_drop];have:=hDv.1;omega
       have wsub:IntKind.i64.wrap ((T1:Int) - 1)=(T1:Int) - 1:=dP (by omega) (by omega);have wj:IntKind.i64.wrap ((j:Int)+1)=((j+1:Nat):Int):=by rw [dP (by omega) (by omega)];omega
       have hTlt:T.rest.length+3≤S.rest.length:=by have:=FP (s:=S) (by rw [htri,←hT];exact hTb);rw [htri,←hT] at this;exact this
       have wl:IntKind.i64.wrap (((d.st.length:Nat):Int)+((j:Nat):Int))=((d.st.length+j:Nat):Int):=by rw [dP (by omega) (by omega)];omega
       have nd01:¬ bp=bk:=by omega
       have nd02:¬ bp=xs:=by omega
       have nd03:¬ bp=xp:=by omega
       have nd04:¬ bp=N':=by omega
       have nd05:¬ bp=N'+1:=by omega
       have nd10:¬ bk=bp:=by omega
       have nd12:¬ bk=xs:=by omega
       have nd13:¬ bk=xp:=by omega
       have nd14:¬ bk=N':=by omega
       have nd15:¬ bk=N'+1:=by omega
       have nd20:¬ xs=bp:=by omega
       have nd21:¬ xs=bk:=by omega
       have nd23:¬ xs=xp:=by omega
       have nd24:¬ xs=N':=by omega
       have nd25:¬ xs=N'+1:=by omega
       have nd30:¬ xp=bp:=by omega
       have nd31:¬ xp=bk:=by omega
       have nd32:¬ xp=xs:=by omega
       have nd34:¬ xp=N':=by omega
       have nd35:¬ xp=N'+1:=by omega
       have nd40:¬ N'=bp:=by omega
       have nd41:¬ N'=bk:=by omega
       have nd42:¬ N'=xs:=by omega
       have nd43:¬ N'=xp:=by omega
       have nd45:¬ N'=N'+1:=by omega
       have nd50:¬ N'+1=bp:=by omega
       have nd51:¬ N'+1=bk:=by omega
       have nd52:¬ N'+1=xs:=by omega
       have nd53:¬ N'+1=xp:=by omega
       have nd54:¬ N'+1=N':=by omega
       by_cases c1:(T1:Int) > ((d.st.length+j:Nat):Int)
       ·have hEb:=hEf fun q=>by have:=q.1.1;omega
        simp only [↓evP,evB,stB,reduceCtorEq,Nat.reduceEqDiff,Nat.reduceAdd,Nat.reduceMul,Nat.reduceLeDiff,Nat.reduceLT,Nat.reduceSub,Nat.reduceBEq,h24,h7g,h7,c3,hyn,hyh,hyr,hyk,hyy,hyx,hTb,hlX,hlY,wl,hkey,ha0,ha1,ha2,hb0,hb1,hb2,t0,t1,t2,decide_true,decide_false,c1];refine ⟨(by unfold Drw;refine Eq.trans (b:=true) ?_ rfl;kernel_rfl),?_⟩
        simp only [stB,Nat.reduceEqDiff,Nat.reduceBEq,prp59];obtain ⟨q1,q2⟩:=hfin hEb;exact ⟨_,_,rfl,fun b=>.inl rfl,by rw [hEb];rfl,q1,q2⟩
       simp only [↓evP,evB,stB,reduceCtorEq,Nat.reduceEqDiff,Nat.reduceAdd,Nat.reduceMul,Nat.reduceLeDiff,Nat.reduceLT,Nat.reduceSub,Nat.reduceBEq,h24,h7g,h7,c3,hyn,hyh,hyr,hyy,hyx,hTb,hlX,hlY,wl,ha0,ha1,ha2,hb0,hb1,hb2,t0,t1,t2,decide_false,c1];refine iW [pB q] (by exact hsto) ?_
       cases q with
       | false =>
         have hEb:=hEf fun q'=>by
          have h1:(T2:Int)≤2147483647:=q'.2.1;have h2:(T3:Int)≤2147483647:=q'.2.2;rw [decide_eq_true h1,decide_eq_true h2] at hq;cases hq
         simp only [↓evP,evB,stB,reduceCtorEq,Nat.reduceEqDiff,Nat.reduceAdd,Nat.reduceLeDiff,Nat.reduceLT,Nat.reduceBEq,h7g,h7,hyn,hyh,hyk,hTb,hkey];refine ⟨(by unfold Drw;refine Eq.trans (b:=true) ?_ rfl;kernel_rfl),?_⟩
         simp only [stB,Nat.reduceEqDiff,Nat.reduceBEq,prp59];obtain ⟨q1,q2⟩:=hfin hEb;exact ⟨_,_,rfl,fun b=>.inl rfl,by rw [hEb];rfl,q1,q2⟩
       | true =>
         rcases hKR.look (mW (T1:Int) (T2:Int) (T3:Int)) with ⟨k1,v1,e1⟩ | ⟨k1,e1⟩
         ·have hEb:=hEf fun q'=>by
           obtain ⟨i,_,hi,he⟩:=k1;rw [←hDk i hi] at he;exact mX.1 q'.1.2 i (by omega) (hks i he)
          unfold mW at e1;simp only [↓evP,evB,stB,reduceCtorEq,Nat.reduceEqDiff,Nat.reduceAdd,Nat.reduceLeDiff,Nat.reduceLT,Nat.reduceBEq,h7g,h7,hyn,hyh,hyr,hyk,hyR,hTb,hkey,e1,trW];refine ⟨(by unfold Drw;refine Eq.trans (b:=true) ?_ rfl;kernel_rfl),?_⟩
          simp only [stB,Nat.reduceEqDiff,Nat.reduceBEq,prp59];obtain ⟨q1,q2⟩:=hfin hEb;exact ⟨_,_,rfl,fun b=>.inl rfl,by rw [hEb];rfl,q1,q2⟩
         ·rcases hKn.look (mW (T1:Int) (T2:Int) (T3:Int)) with ⟨k2,v2,e2⟩ | ⟨k2,e2⟩
          ·have hEb:=hEf fun q'=>by
            obtain ⟨i,_,hi,he⟩:=k2;exact mX.1 q'.1.2 i hi (hks i he)
           unfold mW at e1 e2;simp only [↓evP,evB,stB,reduceCtorEq,Nat.reduceEqDiff,Nat.reduceAdd,Nat.reduceLeDiff,Nat.reduceLT,Nat.reduceBEq,h7g,h7,hyn,hyh,hyr,hyk,hyR,hTb,hkey,e1,e2,trW];refine ⟨(by unfold Drw;refine Eq.trans (b:=true) ?_ rfl;kernel_rfl),?_⟩
           simp only [stB,Nat.reduceEqDiff,Nat.reduceBEq,prp59];obtain ⟨q1,q2⟩:=hfin hEb;exact ⟨_,_,rfl,fun b=>.inl rfl,by rw [hEb];rfl,q1,q2⟩
          ·have hok:okE D ((T1:Int) - 1) ((T2:Int),(T3:Int)):=by
            rw [Bool.and_eq_true] at hq;refine ⟨⟨by omega,mX.2 fun x hx he=>?_⟩,of_decide_eq_true hq.1,of_decide_eq_true hq.2⟩
            rcases Nat.lt_or_ge x d.st.length with h | h
            ·exact k1 ⟨x,Nat.zero_le _,h,by rw [←hDk x h];exact hek x he⟩
            ·exact k2 ⟨x,h,hx,hek x he⟩
           have e2':=e2;unfold mW at e1 e2;simp only [↓evP,evB,stB,reduceCtorEq,Nat.reduceEqDiff,Nat.reduceAdd,Nat.reduceLeDiff,Nat.reduceLT,Nat.reduceBEq,h7g,h7,hyn,hyh,hyr,hyk,hyR,hTb,hkey,e1,e2,nd01];refine ⟨(by unfold Drw;refine Eq.trans (b:=true) ?_ rfl;kernel_rfl),?_⟩
           refine ⟨(by unfold Drw;refine Eq.trans (b:=true) ?_ rfl;kernel_rfl),?_⟩
           refine vJ (a:=xs) (rows:=stR D d.st.length) (news:=[aW ((T2:Int),(T3:Int))]) N' (dU (by simp only [stB]) (by repeat' (first | with_reducible exact aN hya | (refine aH.ap ?_ rfl))) (by simp only [stB,Nat.reduceLT,hyn,nd41,hfr0])) (by simp only [stB,Nat.reduceEqDiff,Nat.reduceBEq]) (by simp only [stB,Nat.reduceLT,hyn,nd21,hyx]) (by simp only [stB,Nat.reduceEqDiff,Nat.reduceBEq];first | done | rfl) ⟨fun r hr=>by rw [List.mem_singleton.1 hr];rfl,by rw [hlX];show j+1≤_;omega,by decide⟩ ?_
           simp only [↓evP,evB,stB,reduceCtorEq,Nat.reduceEqDiff,Nat.reduceAdd,Nat.reduceMul,Nat.reduceLeDiff,Nat.reduceLT,Nat.reduceBEq,h7g,h7,hyn,hyh,hTb,ha0,hb0,t0,nd01,nd02,nd04];refine ⟨(by unfold Drw;refine Eq.trans (b:=true) ?_ rfl;kernel_rfl),?_⟩
           refine vJ (a:=xp) (rows:=prR D d.st.length) (news:=[[dI ((T1:Int) - 1)]]) (N'+1) (dU (by simp only [stB]) (by repeat' (first | with_reducible exact aN hya | (refine aH.ap ?_ rfl))) (by simp only [stB,Nat.reduceLT,hyn,nd50,nd51,nd52,nd54,hfr1])) (by simp only [stB,Nat.reduceEqDiff,Nat.reduceBEq]) (by simp only [stB,Nat.reduceLT,hyn,nd30,nd31,nd32,nd34,hyx1]) (by simp only [stB,Nat.reduceEqDiff,Nat.reduceBEq,wsub];first | done | rfl) ⟨fun r hr=>by rw [List.mem_singleton.1 hr];rfl,by rw [hlP];show j+1≤_;omega,by decide⟩ ?_
           simp only [↓evP,evB,stB,Nat.reduceEqDiff,Nat.reduceAdd,Nat.reduceLeDiff,Nat.reduceLT,Nat.reduceBEq,h6,wj,hyn,hyh,hTb,nd01,nd02,nd03,nd04,nd05];refine ⟨(by unfold Drw;refine Eq.trans (b:=true) ?_ rfl;kernel_rfl),?_⟩
           refine ⟨_,by omega,(by repeat' (first | assumption | exact aP (by assumption) | (refine aJ ?_ rfl rfl) | (refine aD ?_ rfl) | (refine aJ ?_ rfl aK) | (refine aD ?_ aK) | (refine bV.in' ?_ (aP (by assumption)) rfl rfl))),j+1,N'+2,N',N'+1,T,eB D ((T1:Int) - 1) ((T2:Int),(T3:Int)),rfl,by omega,by simp only [stB,Nat.reduceEqDiff,Nat.reduceBEq,h6];first | done | rfl,?_,⟨fun _=>?_,fun q'=>absurd q' hTbF⟩,(hTs.trans hSs),BD hDv hok.1 (by omega) (by show (0:Int)≤(T2:Int);omega) (by show (0:Int)≤(T3:Int);omega),by simp [eB];omega,?_,by omega⟩
           ·refine hA.next ⟨l1,l3⟩ hDv.1 (by omega) hKn ?_ ?_ ?_ ?_ ?_ ?_
            ·simp only [stB,Nat.reduceLT,hyn,nd01,nd02,nd03,nd04,nd05,hyh,hTb,rsH,ptl]
             first | done | rfl
            ·simp only [stB,Nat.reduceLT,hyn,nd40,nd41,nd42,nd43,nd45]
            ·simp only [stB,Nat.reduceLT,hyn,nd50,nd51,nd52,nd53,nd54]
            ·simp only [stB,Nat.reduceLT,hyn,nd10,nd12,nd13,nd14,nd15];rw [show (T1:Int) - 1+1=(T1:Int) by omega,e2'];rfl
            ·intro b h1 h2 h3 h4 h5;have u1:¬ b=xs:=fun e=>hA.nx.1.elim (fun q=>h4 (e.trans q)) (fun q=>by omega)
             have u2:¬ b=xp:=fun e=>hA.nx.2.elim (fun q=>h5 (e.trans q)) (fun q=>by omega)
             have u3:¬ b=N':=by omega
             have u4:¬ b=N'+1:=by omega
             simp only [stB,Nat.reduceLT,hyn,h2,h3,u1,u2,u3,u4]
             first | exact hyo b h1 h2 h3 h4 h5 | (trace_state;sorry)
            ·intro b h1;have u1:¬ b=xs:=by omega
             have u2:¬ b=xp:=by omega
             have u3:¬ b=N':=by omega
             have u4:¬ b=N'+1:=by omega
             have u5:¬ b=bp:=by omega
             have u6:¬ b=bk:=by omega
             have u7:y.hb b=.no:=by rw [hyb,bB u5];exact hA.f _ (by omega)
             simp only [stB,Nat.reduceLT,hyn,u1,u2,u3,u4,u5,u6]
             first | exact u7 | (trace_state;sorry)
           ·rw [if_neg (fun q'=>q'.elim hTbF (fun q'=>q' hok))] at hEe;rw [show cnt - (j+1)=k by omega];exact hEe
           ·intro i hi;rw [←hDk i hi];unfold r9;rw [jC (by omega),jA (by have:=hDv.1;omega)]
 ·have jc:¬ (j:Int) < (cnt:Int):=by omega
  have hjc2:j=cnt:=by omega
  simp only [↓evP,evB,stB,reduceCtorEq,Nat.reduceEqDiff,Nat.reduceBEq,h6,jc,hzn,hzh,decide_false,prp59];refine ⟨_,_,rfl,fun b=>.inl rfl,?_,fun b h1 h2 h3 h4 h5=>?_,fun q=>?_⟩
  ·cases hSb:S.bad with
   | true=>rw [hES.2 hSb]
   | false =>
     have:=hES.1 hSb;rw [hjc2,Nat.sub_self] at this;rw [←this]
     show [Hw.one (Hc.d (Dt.sc (.bool (!false))))]=[Hw.one (Hc.d (Dt.sc (.bool (!S.bad))))]
     rw [hSb]
  ·simp only [hH];exact hA.o b h1 h2 h3 h4 h5
  ·have hSb:S.bad=false:=by
    cases hSb:S.bad with
    | false=>rfl
    | true=>rw [hES.2 hSb] at q;cases q
   have:=hES.1 hSb;rw [hjc2,Nat.sub_self] at this;refine ⟨N',xs,xp,?_⟩;rw [←this];simp only [hH];exact hA
end Go.Proofs.Ytkafcpnahpfbfaa
end
