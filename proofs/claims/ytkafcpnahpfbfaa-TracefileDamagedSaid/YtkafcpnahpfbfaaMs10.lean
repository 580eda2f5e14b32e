/- The program's reader: a block, the begin of the walk. -/
import Derived.Test.YtkafcpnahpfbfaaMs9
set_option linter.unusedSimpArgs false
set_option linter.unusedVariables false
section
namespace Go.Proofs.Ytkafcpnahpfbfaa
open Go Go.RowKit
set_option maxRecDepth 1000000
set_option maxHeartbeats 4000000
def ncN (N:Nat):Nat→Nat:=fun x=>if x=N then 13 else if x=N+1 then 19 else if x=N+2 then 205 else 1
theorem Rn {st:St} {v:NV} {Post:(Nat→Hb)→List Hw→Prop} (h:NF st v) (L:Ev) (hF:v.F=L.fl) (hb:v.kind=66∨v.kind=69) (ha:0≤v.at_∧v.at_≤1000000∧v.ed≤1000000000) (hs:(∀ r ∈ v.XS,r.length=2)∧v.YS.length+v.XS.length≤1000000) (hq:(∀ r ∈ v.XP,r.length=1)∧v.YP.length+v.XP.length≤1000000) (he:(∀ r ∈ v.XE,r.length=9)∧v.YE.length+v.XE.length≤1000000)
 {TR T2:Value→Prop} (hKR:Kn v.eR v.cR TR) (hK2:Kn v.e2 v.c2 T2) (hkey:∀ x,T2 x→TH x)
 (hP:∀ h' eR' cR' v',Kn eR' cR' (fun x=>TR x∨T2 x)→v'={ v with sh:=decide (v.kind=66) && decide (v.c < 16),at_:=v.at_+((v.ed+4:Nat):Int),ys:=v.M,YS:=v.YS ++ v.XS,yp:=v.M+1,YP:=v.YP ++ v.XP,ye:=v.M+1+1,YE:=v.YE ++ v.XE,M:=v.M+1+1+1,eR:=eR',cR:=cR',lr:=L,en:=decide (v.kind=69) }→NN v'→NH h' v'→Post h' [.one (hI 0)]):pwp aG (tl 15 nxB) (exS aG [.sc 0 nxH] (QN Post)) st:=by
 refine Tm h hb fun T1 g1=>?_
 refine Tn g1 ha fun T2 g2=>?_
 refine Tq g2 hs fun T3 g3=>?_
 refine Tt g3 hq fun T4 g4=>?_
 refine Tv g4 he fun T5 g5=>?_
 refine Tz g5 hKR hK2 hkey fun T6 eR' cR' hKn g6=>?_
 refine TA g6 L hF hb fun h' g7=>?_
 have nn:=g6.nn;exact hP h' eR' cR' _ hKn rfl ⟨nn.n1,nn.n2,nn.n3,nn.n4,nn.n5,nn.n6,nn.n7,nn.n8,nn.n9,nn.c1,nn.c2,nn.c3⟩ g7
theorem uJ {st:St} {Post:(Nat→Hb)→List Hw→Prop} {e:Int} (h9:st.sl 9=aI e) (hP:Post st.hb [.one (hI e)]):pwp aG nxH (exS aG [.ng] (QN Post)) st:=by
 unfold nxH;simp only [Qh,dh,pcp50];simp only [↓evP,evB,stB,reduceCtorEq,Nat.reduceEqDiff,h9,QN,prp50];exact ⟨_,_,rfl,fun b=>.inl rfl,hP⟩
def tC (hp:Nat→Hb) (N:Nat) (lr:Ev):Nat→Hb:=up (up hp N (.map 113 [] 0)) (N+1) (.cells (.d (.sc (.slice none 0 0)) :: .d (.sc (.bool false)) :: .d (.sc (.slice none 0 0)) :: .d (.sc (.slice none 0 0)) :: .d (.sc (.slice none 0 0)) :: .h (.m N) :: flC lr.fl))
structure NA (T:St) (H:Nat→Hb) (N br:Nat) (kind:Nat) (r:List Nat):Prop where
 t0:T.sl 0=.b (.one (.hv (.p br 0)))
 t3:T.sl 3=.b (.one (.d (.sc (.int .u8 (kind:Int)))))
 t4:T.sl 4=aI ((vnt r).1:Int)
 t5:T.sl 5=aI ((vnt r).2:Int)
 t7:T.sl 7=aI ((1+(vnt r).2+(vnt r).1:Nat):Int)
 t8:T.sl 8=.b (.one (.hv (.p (N+1) 0)))
 t9:T.sl 9=aI 8
 t10:T.sl 10=.b (.one (.d (.im (byR (kind :: r)))))
 hnc:T.nc=ncN N
 hal:aH T
 hH:T.hb=H
theorem Uc {hp:Nat→Hb} {N br ye ys yp bR a:Nat} {bs:List Nat} {lr:Ev} {sh en:Bool} {es:List Ev} {d:Dep} {Post:(Nat→Hb)→List Hw→Prop} (hR:Aj hp N br bR ye ys yp bs (a:Int) lr sh en es d) (ha:a≤bs.length) (hbl:bs.length≤400000) (hby:∀ x ∈ bs,x≤255)
 (hF:(bs.drop a=[]∨(∃ kind r,bs.drop a=kind :: r∧((kind≠66∧kind≠69)∨(vnt r).2=0∨1048576 < (vnt r).1∨(kind :: r).length < 1+(vnt r).2+(vnt r).1+4)))→∀ h:Nat→Hb,(∀ b,b < N→h b=hp b)→Post h [.one (hI 8)])
 (hK:∀ T kind r,bs.drop a=kind :: r→(kind=66∨kind=69)→((vnt r).2≠0∧(vnt r).1≤1048576∧1+(vnt r).2+(vnt r).1+4≤(kind :: r).length)→NA T (tC hp N lr) N br kind r→pwp aG (tl 10 nxB) (exS aG [.sc 0 nxH] (QN Post)) T) :
 pwp aG pcp50 (exS aG [] (QN Post)) (St.eG (ncN N) hp [.one (hP br 0)]):=by
 obtain ⟨hh,he,hs,hq,hk,⟨l1,l2,l3,l4,l5⟩,hne,hf⟩:=hR;have hN0:=hf N (Nat.le_refl _);have hN1:=hf (N+1) (by omega);have hfail:∀ (T:St),T.sl 9=aI 8→T.hb=tC hp N lr→(bs.drop a=[]∨(∃ kind r,bs.drop a=kind :: r∧((kind≠66∧kind≠69)∨(vnt r).2=0∨1048576 < (vnt r).1∨(kind :: r).length < 1+(vnt r).2+(vnt r).1+4)))→pwp aG nxH (exS aG [.ng] (QN Post)) T:=fun T h9 hT hc=>uJ h9 (hF hc T.hb fun b hb=>by rw [hT];unfold tC;rw [bB (by omega),bB (by omega)])
 rw [Q5,show nxB=tl 0 nxB from rfl,Q7,Q8,Q9,Rb,Rf,Rh,Ri,Rj,Rk,Rl];generalize tl 10 nxB=rest at hK ⊢;generalize nxH=hnd at hK hfail ⊢;obtain ⟨nc,hnc⟩:∃ nc,ncN N=nc:=⟨_,rfl⟩
 have c1:nc br=1:=by rw [←hnc];unfold ncN;rw [if_neg (by omega),if_neg (by omega),if_neg (by omega)]
 have c2:nc N=13:=by rw [←hnc];unfold ncN;rw [if_pos rfl]
 have c3:nc (N+1)=19:=by rw [←hnc];unfold ncN;rw [if_neg (by omega),if_pos rfl]
 rw [hnc];simp only [nxB,tl,hd,xQ,dh,pcp50];simp only [iE,Ev.row,List.map_cons,List.map_nil,List.cons_append,List.nil_append] at hh;simp only [↓evP,evB,stB];refine AY N (dU (by simp only [stB,c2]) (by repeat' (first | exact aH.init | assumption | exact aN (by assumption) | (refine aH.ap ?_ rfl))) (by simp only [stB,hN0])) Me ?_;have o1:¬ br=N:=by omega
 have o2:¬ br=N+1:=by omega
 have o3:¬ N+1=N:=by omega
 have o4:¬ N=N+1:=by omega
 simp only [evB,stB,reduceCtorEq,Nat.reduceEqDiff,Nat.reduceAdd,Nat.reduceLeDiff,Nat.reduceBEq,c2,o1,hh];refine mY (N+1) (dU (by simp only [stB,c3]) (by repeat' (first | exact aH.init | assumption | exact aN (by assumption) | (refine aH.ap ?_ rfl))) (by simp only [stB,c2,o3,hN1])) (by simp only [stB,Nat.reduceEqDiff];rfl) (by simp only [stB];rfl) ?_
 obtain ⟨b,hb⟩:∃ b,bs.drop a=b:=⟨_,rfl⟩
 rw [hb] at hfail;have hbr:=aV bs;have hba:=dR bs;have htk:List.take bs.length (byR bs)=byR bs:=List.take_of_length_le (by rw [hbr];exact Nat.le_refl _)
 have hdr:List.drop a (byR bs)=byR b:=by rw [←hb];unfold byR;rw [List.map_drop]
 have hbl2:=aV b;have hba2:=dR b;have x1:(a:Int)≤(bs.length:Int):=by omega
 have x2:(0:Int)≤(a:Int):=by omega
 have x3:(bs.length:Int)≤(bs.length:Int):=Int.le_refl _;have hpie:∀ T:St,T.hb=up (up hp N (.map 113 [] 0)) (N+1) (.cells [.d (.sc (.slice none 0 0)),.d (.sc (.bool false)),.d (.sc (.slice none 0 0)),.d (.sc (.slice none 0 0)),.d (.sc (.slice none 0 0)),.h (.m N),.d (dI lr.g),.d (dI lr.kind),.d (dI lr.obj),.d (dI lr.off),.d (dI lr.k),.d (dI lr.n),.d (dI lr.fn),.d (dI lr.pc),.d (dI lr.stack)])→T.hb=tC hp N lr:=fun T q=>q
 cases b with
 | nil =>
   have z0:(((0:Nat):Int) == 0)=true:=rfl;simp only [↓evP,evB,stB,reduceCtorEq,Nat.reduceEqDiff,c1,c2,c3,o1,o2,hh,hbr,hba,htk,hdr,hbl2,x1,x2,x3,z0];refine ⟨(by unfold Drw;refine Eq.trans (b:=true) ?_ rfl;kernel_rfl),?_⟩
   refine hfail _ ?_ (hpie _ ?_) (.inl rfl)
   ·simp only [stB,Nat.reduceEqDiff]
   ·simp only [stB,c2,c3];first | done | rfl
 | cons kind r =>
   have hkb:kind≤255:=hby kind (List.mem_of_mem_drop (show kind ∈ bs.drop a from by rw [hb];exact List.mem_cons_self ..))
   have hbr2:∀ x ∈ r,x≤255:=fun x hx=>hby x (List.mem_of_mem_drop (show x ∈ bs.drop a from by rw [hb];exact List.mem_cons_of_mem _ hx))
   have hrl:r.length≤400000:=by
    have:=congrArg List.length hb;rw [List.length_drop,List.length_cons] at this;omega
   have g0:(byR (kind :: r))[0]? = some [.sc (.int .u8 (kind:Int))]:=rfl;have z1:(((r.length+1:Nat):Int) == 0)=false:=by rw [beq_eq_false_iff_ne];omega
   have z2:Int.toNat 0=0:=rfl;have z3:(0:Int)≤0:=by decide
   by_cases k1:kind=66∨kind=69
   ·have hkk:(((kind:Int) != 66)=false)∨(((kind:Int) != 66)=true∧((kind:Int) != 69)=false):=by
     rcases k1 with k | k
     ·exact .inl (by rw [k];rfl)
     ·exact .inr ⟨by rw [k];rfl,by rw [k];rfl⟩
    obtain ⟨⟨vn,sz⟩,hV⟩:∃ V,vnt r=V:=⟨_,rfl⟩
    have hfail2:∀ (T:St),T.sl 9=aI 8→T.hb=tC hp N lr→(sz=0∨1048576 < vn∨(kind :: r).length < 1+sz+vn+4)→pwp aG hnd (exS aG [.ng] (QN Post)) T:=fun T q1 q2 q3=>hfail T q1 q2 (.inr ⟨kind,r,rfl,.inr (by rw [hV];exact q3)⟩)
    obtain ⟨hv1,hv2⟩:vn≤4294967295∧sz≤r.length:=by
     have q:=ny ⟨r,false⟩;have q2:=mD ⟨r,false⟩;rw [hV] at q;dsimp only at q;exact ⟨by rw [←q.1];exact q2,q.2.2.2⟩
    have hK:=fun T=>hK T kind r hb k1
    rw [hV] at hK;have w1:IntKind.i64.wrap (1+(sz:Int))=((1+sz:Nat):Int):=by rw [dP (by omega) (by omega)];omega
    have w2:IntKind.i64.wrap (((1+sz:Nat):Int)+(vn:Int))=((1+sz+vn:Nat):Int):=by rw [dP (by omega) (by omega)];omega
    have w3:IntKind.i64.wrap (((1+sz+vn:Nat):Int)+4)=((1+sz+vn+4:Nat):Int):=by rw [dP (by omega) (by omega)];omega
    have hvp:Iz [dL r] [pI (vn:Nat),pI (sz:Nat)]:=⟨r,rfl,⟨hrl,hbr2⟩,by rw [hV];rfl⟩
    have y1:(1:Int)≤((r.length+1:Nat):Int):=by omega
    have y2:(0:Int)≤1:=by decide
    have y3:((r.length+1:Nat):Int)≤((r.length+1:Nat):Int):=Int.le_refl _;have htk2:List.take (r.length+1) (byR (kind :: r))=byR (kind :: r):=List.take_of_length_le (by rw [hbl2,List.length_cons];exact Nat.le_refl _)
    have hdr2:List.drop 1 (byR (kind :: r))=byR r:=rfl
    rcases hkk with hk1 | ⟨hk1,hk2⟩
    ·simp only [↓evP,evB,stB,reduceCtorEq,Nat.reduceEqDiff,c1,c2,c3,o1,o2,hh,hbr,hba,htk,hdr,hbl2,x1,x2,x3,z1,z2,z3,g0,hk1];refine ⟨(by unfold Drw;refine Eq.trans (b:=true) ?_ rfl;kernel_rfl),?_⟩
     simp only [evB,stB,Nat.reduceEqDiff,hba2,htk2,y1,y2,y3];refine aF [pI (vn:Nat),pI (sz:Nat)] (by exact hvp) ?_
     by_cases s0:sz=0
     ·have u0:((sz:Int) == 0)=true:=by rw [s0];rfl
      simp only [↓evP,evB,stB,reduceCtorEq,Nat.reduceEqDiff,w1,w2,u0];exact hfail2 _ (by simp only [stB,Nat.reduceEqDiff]) (hpie _ (by simp only [stB,c2,c3];first | done | rfl)) (.inl s0)
     have u0:((sz:Int) == 0)=false:=by rw [beq_eq_false_iff_ne];omega
     by_cases s1:(vn:Int) > 1048576
     ·simp only [↓evP,evB,stB,reduceCtorEq,Nat.reduceEqDiff,w1,w2,decide_true,u0,s1];exact hfail2 _ (by simp only [stB,Nat.reduceEqDiff]) (hpie _ (by simp only [stB,c2,c3];first | done | rfl)) (.inr (.inl (by omega)))
     by_cases s2:((r.length+1:Nat):Int) < ((1+sz+vn+4:Nat):Int)
     ·simp only [↓evP,evB,stB,reduceCtorEq,Nat.reduceEqDiff,hbl2,w1,w2,w3,decide_true,decide_false,u0,s1,s2];exact hfail2 _ (by simp only [stB,Nat.reduceEqDiff]) (hpie _ (by simp only [stB,c2,c3];first | done | rfl)) (.inr (.inr (by rw [List.length_cons];omega)))
     simp only [↓evP,evB,stB,reduceCtorEq,Nat.reduceEqDiff,hbl2,w1,w2,w3,decide_false,u0,s1,s2];refine hK _ ⟨s0,by omega,by rw [List.length_cons];omega⟩ ⟨by simp only [stB,reduceCtorEq],by simp only [stB,Nat.reduceEqDiff],by simp only [stB,Nat.reduceEqDiff,hV],by simp only [stB,Nat.reduceEqDiff,hV],by simp only [stB,Nat.reduceEqDiff,hV],by simp only [stB,Nat.reduceEqDiff],by simp only [stB,Nat.reduceEqDiff],by simp only [stB,Nat.reduceEqDiff],by simp only [stB,hnc],(by repeat' (first | exact aH.init | assumption | exact aN (by assumption) | (refine aH.ap ?_ rfl))),hpie _ (by simp only [stB,c2,c3];first | done | rfl)⟩
    ·simp only [↓evP,evB,stB,reduceCtorEq,Nat.reduceEqDiff,c1,c2,c3,o1,o2,hh,hbr,hba,htk,hdr,hbl2,x1,x2,x3,z1,z2,z3,g0,hk1,hk2];refine ⟨(by unfold Drw;refine Eq.trans (b:=true) ?_ rfl;kernel_rfl),?_⟩
     simp only [evB,stB,Nat.reduceEqDiff,hba2,htk2,y1,y2,y3];refine aF [pI (vn:Nat),pI (sz:Nat)] (by exact hvp) ?_
     by_cases s0:sz=0
     ·have u0:((sz:Int) == 0)=true:=by rw [s0];rfl
      simp only [↓evP,evB,stB,reduceCtorEq,Nat.reduceEqDiff,w1,w2,u0];exact hfail2 _ (by simp only [stB,Nat.reduceEqDiff]) (hpie _ (by simp only [stB,c2,c3];first | done | rfl)) (.inl s0)
     have u0:((sz:Int) == 0)=false:=by rw [beq_eq_false_iff_ne];omega
     by_cases s1:(vn:Int) > 1048576
     ·simp only [↓evP,evB,stB,reduceCtorEq,Nat.reduceEqDiff,w1,w2,decide_true,u0,s1];exact hfail2 _ (by simp only [stB,Nat.reduceEqDiff]) (hpie _ (by simp only [stB,c2,c3];first | done | rfl)) (.inr (.inl (by omega)))
     by_cases s2:((r.length+1:Nat):Int) < ((1+sz+vn+4:Nat):Int)
     ·simp only [↓evP,evB,stB,reduceCtorEq,Nat.reduceEqDiff,hbl2,w1,w2,w3,decide_true,decide_false,u0,s1,s2];exact hfail2 _ (by simp only [stB,Nat.reduceEqDiff]) (hpie _ (by simp only [stB,c2,c3];first | done | rfl)) (.inr (.inr (by rw [List.length_cons];omega)))
     simp only [↓evP,evB,stB,reduceCtorEq,Nat.reduceEqDiff,hbl2,w1,w2,w3,decide_false,u0,s1,s2];refine hK _ ⟨s0,by omega,by rw [List.length_cons];omega⟩ ⟨by simp only [stB,reduceCtorEq],by simp only [stB,Nat.reduceEqDiff],by simp only [stB,Nat.reduceEqDiff,hV],by simp only [stB,Nat.reduceEqDiff,hV],by simp only [stB,Nat.reduceEqDiff,hV],by simp only [stB,Nat.reduceEqDiff],by simp only [stB,Nat.reduceEqDiff],by simp only [stB,Nat.reduceEqDiff],by simp only [stB,hnc],(by repeat' (first | exact aH.init | assumption | exact aN (by assumption) | (refine aH.ap ?_ rfl))),hpie _ (by simp only [stB,c2,c3];first | done | rfl)⟩
   ·have k2:((kind:Int) != 66)=true:=by rw [bne_iff_ne];omega
    have k3:((kind:Int) != 69)=true:=by rw [bne_iff_ne];omega
    simp only [↓evP,evB,stB,reduceCtorEq,Nat.reduceEqDiff,c1,c2,c3,o1,o2,hh,hbr,hba,htk,hdr,hbl2,x1,x2,x3,z1,z2,z3,g0,k2,k3];refine ⟨(by unfold Drw;refine Eq.trans (b:=true) ?_ rfl;kernel_rfl),?_⟩
    exact hfail _ (by simp only [stB,Nat.reduceEqDiff]) (hpie _ (by simp only [stB,c2,c3];first | done | rfl)) (.inr ⟨kind,r,rfl,.inl ⟨by omega,by omega⟩⟩)
def kY:Hc:=.d (.sc (.slice none 0 0))
structure NB (T:St) (hp:Nat→Hb) (N br:Nat) (lr:Ev) (kind ed:Nat) (body:List Nat):Prop where
 t0:T.sl 0=.b (.one (.hv (.p br 0)))
 t3:T.sl 3=.b (.one (.d (.sc (.int .u8 (kind:Int)))))
 t7:T.sl 7=aI (ed:Int)
 t8:T.sl 8=.b (.one (.hv (.p (N+1) 0)))
 t9:T.sl 9=aI 8
 hnc:T.nc=ncN N
 hal:aH T
 hk:T.hb N=.map 113 [] 0
 hq:T.hb (N+1)=.cells (.d (.im (byR body)) :: .d (.sc (.bool false)) :: kY :: kY :: kY :: .h (.m N) :: flC lr.fl)
 ho:∀ b,b < N→T.hb b=hp b
 hf:∀ b,(N+2≤b∧b≤N+5)∨N+7≤b→T.hb b=.no
theorem Tf {T:St} {hp:Nat→Hb} {N br:Nat} {lr:Ev} {kind:Nat} {r:List Nat} {Post:(Nat→Hb)→List Hw→Prop} (h:NA T (tC hp N lr) N br kind r) (hf:∀ b,N≤b→hp b=.no) (hbr:br < N) (hby:∀ x ∈ kind :: r,x≤255) (hl:(kind :: r).length≤400000) (hv:1+(vnt r).2+(vnt r).1+4≤(kind :: r).length)
 (hF:fG ((kind :: r).take (1+(vnt r).2+(vnt r).1))≠((kind :: r).drop (1+(vnt r).2+(vnt r).1)).take 4→∀ h:Nat→Hb,(∀ b,b < N→h b=hp b)→Post h [.one (hI 9)])
 (hK:fG ((kind :: r).take (1+(vnt r).2+(vnt r).1))=((kind :: r).drop (1+(vnt r).2+(vnt r).1)).take 4→∀ T,NB T hp N br lr kind (1+(vnt r).2+(vnt r).1) (sG (kind :: r) r)→pwp aG (tl 12 nxB) (exS aG [.sc 0 nxH] (QN Post)) T) :
 pwp aG (tl 10 nxB) (exS aG [.sc 0 nxH] (QN Post)) T:=by
 unfold sG at hK;obtain ⟨t0,t3,t4,t5,t7,t8,t9,t10,hnc,hal,hH⟩:=h;obtain ⟨⟨vn,sz⟩,hV⟩:∃ V,vnt r=V:=⟨_,rfl⟩
 rw [hV] at t4 t5 t7 hv hF hK;dsimp only at t4 t5 t7 hv hF hK;obtain ⟨b,hb⟩:∃ b,kind :: r=b:=⟨_,rfl⟩
 rw [hb] at t10 hby hl hv hF hK;have hfail:∀ (T:St),T.sl 9=aI 9→(∀ b,b < N→T.hb b=hp b)→fG (b.take (1+sz+vn))≠(b.drop (1+sz+vn)).take 4→pwp aG nxH (exS aG [.ng] (QN Post)) T:=fun T h9 hT hc=>uJ h9 (hF hc T.hb hT)
 rw [Oe,Og];generalize tl 12 nxB=rest at hK ⊢;generalize nxH=hnd at hK hfail ⊢;obtain ⟨nc,hnc2⟩:∃ nc,ncN N=nc:=⟨_,rfl⟩
 have c1:nc br=1:=by rw [←hnc2];unfold ncN;rw [if_neg (by omega),if_neg (by omega),if_neg (by omega)]
 have c3:nc (N+1)=19:=by rw [←hnc2];unfold ncN;rw [if_neg (by omega),if_pos rfl]
 rw [hnc2] at hnc;simp only [nxB,tl,hd,xQ,dh,pcp50];obtain ⟨ed,hed⟩:∃ ed,1+sz+vn=ed:=⟨_,rfl⟩
 rw [hed] at t7 hv hF hK hfail;have hbl:=aV b;have hba:=dR b;have e1:(ed:Int)≤(b.length:Int):=by omega
 have e0:(0:Int)≤(ed:Int):=by omega
 have e2:IntKind.i64.wrap ((ed:Int)+4)=((ed+4:Nat):Int):=by rw [dP (by omega) (by omega)];omega
 have e3:((ed+4:Nat):Int)≤(b.length:Int):=by omega
 have e4:(ed:Int)≤((ed+4:Nat):Int):=by omega
 have e5:(0:Int)≤0:=by decide
 have htk:List.take ed (byR b)=byR (b.take ed):=by unfold byR;rw [List.map_take]
 have htk4:List.drop ed (List.take (ed+4) (byR b))=byR ((b.drop ed).take 4):=by
  unfold byR;rw [←List.map_take,←List.map_drop,List.drop_take,Nat.add_sub_cancel_left]
 have hf6:nD (tC hp N lr) (N+6):=fun b hb=>by unfold tC;rw [bB (by omega),bB (by omega)];exact hf b (by omega)
 obtain ⟨H3,hH3⟩:∃ H3,jK (tC hp N lr) none (N+6) 1 ([] ++ fG (b.take ed))=H3:=⟨_,rfl⟩
 have hH36:H3 (N+6)=.vec 5 1 (byR (fG (b.take ed))):=by rw [←hH3];exact iG
 have hH3o:∀ x,x≠N+6→H3 x=tC hp N lr x:=fun x hx=>by
  rw [←hH3]
  show (if x=N+6+0 then _ else if (none:Option Nat)=some x∨(N+6≤x∧x < N+6+0) then _ else _)=_
  rw [if_neg hx,if_neg (by rintro (q | q);cases q;omega)]
 have hasum:vS (tC hp N lr) [.one (.d (.sc (.slice none 0 0))),.one (.d (.im (byR (b.take ed))))] H3 [.one (.h (.v (N+6)))]:=⟨none,N+6,[],b.take ed,.d (.im (byR (b.take ed))),rfl,⟨rfl,hf6,by decide,.inr rfl,by rw [List.length_take];omega,fun x hx=>hby x (List.mem_of_mem_take hx)⟩,hH3.symm,rfl⟩
 have hsb:∀ x ∈ fG (b.take ed),x≤255:=fun x hx=>by
  unfold fG at hx;simp only [List.mem_cons,List.not_mem_nil,or_false] at hx;omega
 have hbeq:HvR BM H3 [.one (.h (.v (N+6))),.one (.d (.im (byR ((b.drop ed).take 4))))] H3 [.one (.d (.sc (.bool (decide (fG (b.take ed)=(b.drop ed).take 4)))))]:=⟨[dL (fG (b.take ed)),dL ((b.drop ed).take 4)],.bool (decide (fG (b.take ed)=(b.drop ed).take 4)),by simp [Hw.pa,Hc.pa,hH36,dL],⟨_,_,rfl,⟨hsb,fun x hx=>hby x (List.mem_of_mem_drop (List.mem_of_mem_take hx))⟩,rfl⟩,rfl,rfl⟩;simp only [↓evP,evB,stB,Nat.reduceEqDiff,t7,t10,hbl,hba,e1,e0,e5,htk];refine lJ H3 [.one (.h (.v (N+6)))] (by simp only [stB,hH];exact hasum) ?_
 simp only [evB,stB,Nat.reduceEqDiff,t7,t10,hbl,hba,e0,e2,e3,e4,htk4];refine rU [.one (.d (.sc (.bool (decide (fG (b.take ed)=(b.drop ed).take 4)))))] (by simp only [stB];exact hbeq) (by repeat' (first | exact aH.init | assumption | exact aN (by assumption) | (refine aH.ap ?_ rfl))) ?_
 have hold:∀ x,x < N→H3 x=hp x:=fun x hx=>by
  rw [hH3o x (by omega)];unfold tC;rw [bB (by omega),bB (by omega)]
 by_cases hs:fG (b.take ed)=(b.drop ed).take 4
 ·have hd1:decide (fG (b.take ed)=(b.drop ed).take 4)=true:=decide_eq_true hs;have hbo:List.drop (1+sz) (List.take ed (byR b))=byR ((b.take ed).drop (1+sz)):=by unfold byR;rw [List.map_drop,List.map_take]
  have h3p:H3 (N+1)=.cells (.d (.sc (.slice none 0 0)) :: .d (.sc (.bool false)) :: .d (.sc (.slice none 0 0)) :: .d (.sc (.slice none 0 0)) :: .d (.sc (.slice none 0 0)) :: .h (.m N) :: flC lr.fl):=by
   rw [hH3o _ (by omega)];unfold tC;exact dK
  have w1:IntKind.i64.wrap (1+(sz:Int))=((1+sz:Nat):Int):=by rw [dP (by omega) (by omega)];omega
  have y1:((1+sz:Nat):Int)≤(ed:Int):=by omega
  have y0:(0:Int)≤((1+sz:Nat):Int):=by omega
  rw [htk] at hbo;simp only [↓evP,evB,stB,reduceCtorEq,Nat.reduceEqDiff,Nat.reduceLeDiff,hd1,t5,t7,t8,t10,hnc,c3,hbl,hba,e1,htk,hbo,h3p,w1,y1,y0,iq];refine ⟨(by unfold Drw;refine Eq.trans (b:=true) ?_ rfl;kernel_rfl),?_⟩
  refine hK hs _ ⟨by simp only [stB,reduceCtorEq,t0],by simp only [stB,Nat.reduceEqDiff,t3],by simp only [stB,Nat.reduceEqDiff,t7],by simp only [stB,Nat.reduceEqDiff,t8],by simp only [stB,Nat.reduceEqDiff,t9],by simp only [stB,hnc,hnc2],(by repeat' (first | exact aH.init | assumption | exact aN (by assumption) | (refine aH.ap ?_ rfl))),?_,?_,fun x hx=>?_,fun x hx=>?_⟩
  ·have o1:¬ N=N+1:=by omega
   simp only [stB,hnc,c3,o1];rw [hH3o _ (by omega)];unfold tC;rw [bB (by omega)];exact dK
  ·simp only [stB,hnc,c3];rfl
  ·have o1:¬ x=N+1:=by omega
   simp only [stB,hnc,c3,o1];exact hold x hx
  ·have o1:¬ x=N+1:=by omega
   simp only [stB,hnc,c3,o1];rw [hH3o x (by omega)];unfold tC;rw [bB (by omega),bB (by omega)];exact hf x (by omega)
 ·have hd1:decide (fG (b.take ed)=(b.drop ed).take 4)=false:=decide_eq_false hs;simp only [↓evP,evB,stB,reduceCtorEq,Nat.reduceEqDiff,hd1,t5,t7,t8,t10,hbl,hba,e1,htk];refine ⟨(by unfold Drw;refine Eq.trans (b:=true) ?_ rfl;kernel_rfl),?_⟩
  exact hfail _ (by simp only [stB,Nat.reduceEqDiff]) (fun x hx=>by simp only [stB];exact hold x hx) hs
theorem lG {hp:Nat→Hb} {c i b E sz:Nat} {cs:List Hc} (h1:hp c=.cells cs) (h2:cs[i]? = some kY) (h3:hp b=.no) (hcb:b≠c):Iy hp (up (up hp b (.vec E sz [])) c (.cells (cs.set i (.h (.v b))))) c i b E sz :=
 ⟨⟨cs,h1,h2,dK⟩,⟨h3,by rw [bB hcb];exact dK⟩,fun x hx1 hx2=>by rw [bB hx1,bB hx2]⟩
structure NT (T:St) (hp:Nat→Hb) (N br:Nat) (lr:Ev) (kind ed c:Nat) (d D:Dep) (S:Rs) (N' xs xp:Nat):Prop where
 t0:T.sl 0=.b (.one (.hv (.p br 0)))
 t3:T.sl 3=.b (.one (.d (.sc (.int .u8 (kind:Int)))))
 t6:T.sl 6=aI (c:Int)
 t7:T.sl 7=aI (ed:Int)
 t8:T.sl 8=.b (.one (.hv (.p (N+1) 0)))
 t9:T.sl 9=aI 8
 hnc:T.nc=ncN N
 hal:aH T
 hq:T.hb (N+1)=rsH S (ptl (N+5) xs xp N lr)
 hs:T.hb xs=.vec 50 2 (stR D d.st.length)
 hr:T.hb xp=.vec 3 1 (prR D d.st.length)
 k:∃ es cl,T.hb N=.map 113 es cl∧Kn es cl (KnD D d.st.length D.st.length)
 he:T.hb (N+5)=.vec 42 9 []
 hi:T.hb (N+2)=.no
 ho:∀ b,b < N→T.hb b=hp b
 hf:∀ b,N'≤b→T.hb b=.no
 nx:(xs=N+3∨N+7≤xs)∧(xp=N+4∨N+7≤xp)∧xs≠xp∧xs < N'∧xp < N'∧N+7≤N'
theorem Ti {T:St} {hp:Nat→Hb} {N br ye ys yp bR a:Nat} {bs:List Nat} {lr:Ev} {sh en:Bool} {es:List Ev} {d:Dep} {kind ed:Nat} {body:List Nat} {Post:(Nat→Hb)→List Hw→Prop} (h:NB T hp N br lr kind ed body) (hR:Aj hp N br bR ye ys yp bs (a:Int) lr sh en es d) (hdv:d.val) (hdl:d.st.length≤400000) (hbl:body.length≤400000) (hby:∀ x ∈ body,x≤255)
 (hF:(iJ ⟨body,false⟩ d).2.bad=true→∀ h:Nat→Hb,(∀ b,b < N→h b=hp b)→Post h [.one (hI 8)])
 (hK:(iJ ⟨body,false⟩ d).2.bad=false→∀ T N' xs xp,NT T hp N br lr kind ed (bU (iJ ⟨body,false⟩ d).2).1 d (iJ ⟨body,false⟩ d).1 (bU (iJ ⟨body,false⟩ d).2).2 N' xs xp→pwp aG (tl 14 nxB) (exS aG [.sc 0 nxH] (QN Post)) T) :
 pwp aG (tl 12 nxB) (exS aG [.sc 0 nxH] (QN Post)) T:=by
 obtain ⟨t0,t3,t7,t8,t9,hnc,hal,hk,hq,ho,hf⟩:=h;obtain ⟨rh,re,rs,rq,rk,⟨l1,l2,l3,l4,l5⟩,⟨n1,n2,n3,n4,n5,n6,n7,n8,n9,n10⟩,rf⟩:=hR;obtain ⟨E,hE⟩:∃ E,iJ ⟨body,false⟩ d=E:=⟨_,rfl⟩
 have hEs:E.2.rest <:+ body:=by
  rw [←hE];unfold iJ;exact (vB _ _ _).trans (jl ⟨body,false⟩)
 rw [hE] at hF hK;have hfail:∀ (T:St),T.sl 9=aI 8→(∀ b,b < N→T.hb b=hp b)→E.2.bad=true→pwp aG nxH (exS aG [.ng] (QN Post)) T:=fun T h9 hT hc=>uJ h9 (hF hc T.hb hT)
 rw [Oh,Oi];generalize tl 14 nxB=rest at hK ⊢;generalize nxH=hnd at hK hfail ⊢;simp only [nxB,tl,hd,xQ,dh,pcp50]
 -- the nil slices of the piece become handles
 have u1:=lG (i:=2) (b:=N+5) (E:=42) (sz:=9) hq rfl (hf _ (by omega)) (by omega);obtain ⟨H1,hH1⟩:∃ H1,up (up T.hb (N+5) (.vec 42 9 [])) (N+1) (.cells ((.d (.im (byR body)) :: .d (.sc (.bool false)) :: kY :: kY :: kY :: .h (.m N) :: flC lr.fl:List Hc).set 2 (.h (.v (N+5)))))=H1:=⟨_,rfl⟩
 rw [hH1] at u1;have v1:H1 (N+1)=.cells (.d (.im (byR body)) :: .d (.sc (.bool false)) :: .h (.v (N+5)) :: kY :: kY :: .h (.m N) :: flC lr.fl):=by rw [←hH1];exact dK
 have w1:∀ x,x≠N+5→x≠N+1→H1 x=T.hb x:=fun x h1 h2=>u1.ho x h2 h1
 have x1:H1 (N+5)=.vec 42 9 []:=u1.hb.2;have u2:=lG (i:=3) (b:=N+3) (E:=50) (sz:=2) v1 rfl ((w1 _ (by omega) (by omega)).trans (hf _ (by omega))) (by omega);obtain ⟨H2,hH2⟩:∃ H2,up (up H1 (N+3) (.vec 50 2 [])) (N+1) (.cells ((.d (.im (byR body)) :: .d (.sc (.bool false)) :: .h (.v (N+5)) :: kY :: kY :: .h (.m N) :: flC lr.fl:List Hc).set 3 (.h (.v (N+3)))))=H2:=⟨_,rfl⟩
 rw [hH2] at u2;have v2:H2 (N+1)=.cells (.d (.im (byR body)) :: .d (.sc (.bool false)) :: .h (.v (N+5)) :: .h (.v (N+3)) :: kY :: .h (.m N) :: flC lr.fl):=by rw [←hH2];exact dK
 have w2:∀ x,x≠N+3→x≠N+1→H2 x=H1 x:=fun x h1 h2=>u2.ho x h2 h1
 have x2:H2 (N+3)=.vec 50 2 []:=u2.hb.2;have u3:=lG (i:=4) (b:=N+4) (E:=3) (sz:=1) v2 rfl ((w2 _ (by omega) (by omega)).trans ((w1 _ (by omega) (by omega)).trans (hf _ (by omega)))) (by omega);obtain ⟨H3,hH3⟩:∃ H3,up (up H2 (N+4) (.vec 3 1 [])) (N+1) (.cells ((.d (.im (byR body)) :: .d (.sc (.bool false)) :: .h (.v (N+5)) :: .h (.v (N+3)) :: kY :: .h (.m N) :: flC lr.fl:List Hc).set 4 (.h (.v (N+4)))))=H3:=⟨_,rfl⟩
 rw [hH3] at u3;have v3:H3 (N+1)=rsH ⟨body,false⟩ (ptl (N+5) (N+3) (N+4) N lr):=by rw [←hH3];exact dK
 have w3:∀ x,x≠N+4→x≠N+1→H3 x=H2 x:=fun x h1 h2=>u3.ho x h2 h1
 have x3:H3 (N+4)=.vec 3 1 []:=u3.hb.2;have y3:H3 (N+3)=.vec 50 2 []:=(w3 _ (by omega) (by omega)).trans x2;have y5:H3 (N+5)=.vec 42 9 []:=(w3 _ (by omega) (by omega)).trans ((w2 _ (by omega) (by omega)).trans x1);have y0:∀ x,x≠N+1→x≠N+3→x≠N+4→x≠N+5→H3 x=T.hb x:=fun x h1 h3 h4 h5=>(w3 x h4 h1).trans ((w2 x h3 h1).trans (w1 x h5 h1))
 have yo:∀ x,x < N→H3 x=hp x:=fun x hx=>(y0 x (by omega) (by omega) (by omega) (by omega)).trans (ho x hx)
 have hst0:stR d d.st.length=[]:=by unfold stR;rw [List.drop_length];rfl
 have hpr0:prR d d.st.length=[]:=by unfold prR;rw [List.drop_of_length_le (by have:=hdv.1;omega)];rfl
 have hkn0:KnD d d.st.length d.st.length=fun _=>False:=by
  funext x
  exact eq_false fun ⟨i,h1,h2,_⟩=>by omega
 have hP:TI H3 (N+7) (N+1) br N bR (N+3) (N+4) (N+5) ye ys yp bs body (a:Int) lr sh en lr d:=by
  refine ⟨by omega,by omega,(yo _ l1).trans rh,(yo _ l4).trans rs,?_,⟨v3,by rw [hst0];exact y3,by rw [hpr0];exact x3,?_,by omega,fun _ _ _ _ _ _=>rfl,fun b hb=>?_,.inl rfl,.inl rfl⟩,hdv,hdl,hbl,hby⟩
  ·obtain ⟨es',cl',q1,q2⟩:=rk;exact ⟨es',cl',(yo _ l2).trans q1,q2⟩
  ·refine ⟨[],0,(y0 _ (by omega) (by omega) (by omega) (by omega)).trans hk,?_⟩;rw [hkn0];exact Kn.nil
  ·exact (y0 b (by omega) (by omega) (by omega) (by omega)).trans (hf b (by omega))
 simp only [↓evP,evB,stB,reduceCtorEq,Nat.reduceEqDiff,t0,t8];refine bH _ (by simp only [stB];exact ⟨H1,N+1,2,N+5,42,9,u1,H2,N+1,3,N+3,50,2,u2,H3,N+1,4,N+4,3,1,u3,N+7,N+1,br,N,bR,N+3,N+4,N+5,ye,ys,yp,bs,body,(a:Int),lr,sh,en,lr,d,rfl,hP,rfl⟩) ?_
 rw [hE];rintro h' rs' ⟨rfl,hfr,hEA⟩;have hold:∀ x,x < N→h' x=hp x:=fun x hx=>(hfr x (by omega) (by omega) (by omega) (by omega) (by omega)).trans (yo x hx)
 cases hbad:E.2.bad with
 | true =>
   simp only [↓evP,evB,stB,reduceCtorEq,Nat.reduceEqDiff,t8];exact hfail _ (by simp only [stB,Nat.reduceEqDiff,t9]) (fun x hx=>by simp only [stB];exact hold x hx) hbad
 | false =>
   obtain ⟨N',xs,xp,hA⟩:=hEA hbad;obtain ⟨D,S⟩:=E;dsimp only at hA hbad hK hEs;obtain ⟨ah,as2,ap,ak,⟨b1,b2,b3,b4,b5,b6,b7,b8⟩,ao,af,⟨g1,g2⟩⟩:=hA;have hSl:=hEs.length_le;have hSb:∀ x ∈ S.rest,x≤255:=fun x hx=>hby x (hEs.subset hx)
   simp only [↓evP,evB,stB,reduceCtorEq,Nat.reduceEqDiff,t8];refine bM (up h' (N+1) (rsH (bU S).2 (ptl (N+5) xs xp N lr))) [.one (hI (bU S).1)] (by simp only [stB];exact ⟨N+1,S,ptl (N+5) xs xp N lr,rfl,⟨ah,by omega,hSb⟩,rfl,rfl⟩) ?_
   simp only [evB,stB,Nat.reduceEqDiff];obtain ⟨esA,clA,k1,k2⟩:=ak;refine hK hbad _ N' xs xp ⟨by simp only [stB,reduceCtorEq,t0],by simp only [stB,Nat.reduceEqDiff,t3],by simp only [stB,Nat.reduceEqDiff],by simp only [stB,Nat.reduceEqDiff,t7],by simp only [stB,Nat.reduceEqDiff,t8],by simp only [stB,Nat.reduceEqDiff,t9],by simp only [stB,hnc],(by repeat' (first | exact aH.init | assumption | exact aN (by assumption) | (refine aH.ap ?_ rfl))),?_,?_,?_,⟨esA,clA,?_,k2⟩,?_,?_,fun x hx=>?_,fun x hx=>?_,by omega⟩
   ·simp only [stB]
   ·have o1:¬ xs=N+1:=by omega
    simp only [stB,o1];exact as2
   ·have o1:¬ xp=N+1:=by omega
    simp only [stB,o1];exact ap
   ·have o1:¬ N=N+1:=by omega
    simp only [stB,o1];exact k1
   ·have o1:¬ N+5=N+1:=by omega
    simp only [stB,o1];exact (hfr _ (by omega) (by omega) (by omega) (by omega) (by omega)).trans y5
   ·have o1:¬ N+2=N+1:=by omega
    simp only [stB,o1];exact (hfr _ (by omega) (by omega) (by omega) (by omega) (by omega)).trans ((y0 _ (by omega) (by omega) (by omega) (by omega)).trans (hf _ (by omega)))
   ·have o1:¬ x=N+1:=by omega
    simp only [stB,o1];exact hold x hx
   ·have o1:¬ x=N+1:=by omega
    simp only [stB,o1];exact af x hx
end Go.Proofs.Ytkafcpnahpfbfaa
end
