/- The program's reader: a block: its last test. -/
import Derived.Test.YtkafcpnahpfbfaaMs10
set_option linter.unusedSimpArgs false
set_option linter.unusedVariables false
section
namespace Go.Proofs.Ytkafcpnahpfbfaa
open Go Go.RowKit
set_option maxRecDepth 1000000
set_option maxHeartbeats 4000000
def uQ (sh:Bool) (n:Nat) (a m:Nat) (l:Ev) (kind c:Nat) (S:Rs):Option (List Ev×Rs) :=
 if S.bad=true then none else
 if kind=69 then (if c≠n then none else if S.rest≠[] then none else some ([],S))
 else match nS sh n a m c l S with
  | none=>none
  | some (evs,s)=>if s.rest≠[] then none else some (evs,s)
def nvN (N br ye ys yp bR xs xp x1 M:Nat) (bs:List Nat) (at_:Int) (lr:Ev) (sh en:Bool) (es:List Ev) (d D:Dep) (evs:List Ev) (S:Rs) (eR:List (Value×Nat×Hw)) (cR:Nat) (e2:List (Value×Nat×Hw)) (c2:Nat) (kind c ed:Nat):NV :=
 ⟨br,ye,ys,yp,bR,N,N+1,N+2,x1,xs,xp,M,ncN N,bs,at_,lr,sh,en,es.map Ev.row,d.st.map aW,d.pr.map fun x=>[dI x],evs.map Ev.row,stR D d.st.length,prR D d.st.length,S,(lst lr evs).fl,eR,cR,e2,c2,kind,c,ed⟩
theorem MG {N br ye ys yp bR xs xp x1 M:Nat} {bs:List Nat} {at_:Int} {lr:Ev} {sh en:Bool} {es:List Ev} {d D:Dep} {evs:List Ev} {S:Rs} {eR:List (Value×Nat×Hw)} {cR:Nat} {e2:List (Value×Nat×Hw)} {c2:Nat} {kind c ed:Nat}
 (hlt:br < N∧bR < N∧ye < N∧ys < N∧yp < N) (hne:br≠bR∧br≠ye∧br≠ys∧br≠yp∧bR≠ye∧bR≠ys∧bR≠yp∧ye≠ys∧ye≠yp∧ys≠yp) (h1:N+3≤xs∧N+3≤xp∧N+3≤x1) (h2:xs≠xp∧x1≠xs∧x1≠xp) (h3:xs < M∧xp < M∧x1 < M∧N+3≤M):NN (nvN N br ye ys yp bR xs xp x1 M bs at_ lr sh en es d D evs S eR cR e2 c2 kind c ed):=by
 obtain ⟨l1,l2,l3,l4,l5⟩:=hlt;obtain ⟨n1,n2,n3,n4,n5,n6,n7,n8,n9,n10⟩:=hne;have hlo:∀ b,b < N→ncN N b=1:=fun b hb=>by unfold ncN;rw [if_neg (by omega),if_neg (by omega),if_neg (by omega)]
 have hhi:∀ b,N+3≤b→ncN N b=1:=fun b hb=>by unfold ncN;rw [if_neg (by omega),if_neg (by omega),if_neg (by omega)]
 unfold nvN;refine ⟨?_,?_,?_,?_,?_,?_,?_,?_,?_,⟨hlo _ l1,hlo _ l3,hlo _ l4,hlo _ l5,hlo _ l2,hhi _ h1.2.2,hhi _ h1.1,hhi _ h1.2.1⟩,⟨?_,?_,?_⟩,fun b hb=>hhi b (Nat.le_trans h3.2.2.2 hb)⟩
 all_goals dsimp only
 ·exact ⟨n2,n3,n4,n1,by omega,by omega,by omega,by omega,by omega,by omega,by omega⟩
 ·exact ⟨n8,n9,Ne.symm n5,by omega,by omega,by omega,by omega,by omega,by omega,by omega⟩
 ·exact ⟨n10,Ne.symm n6,by omega,by omega,by omega,by omega,by omega,by omega,by omega⟩
 ·exact ⟨Ne.symm n7,by omega,by omega,by omega,by omega,by omega,by omega,by omega⟩
 ·exact ⟨by omega,by omega,by omega,by omega,by omega,by omega,by omega⟩
 ·exact ⟨by omega,by omega,by omega,by omega,by omega,by omega⟩
 ·exact ⟨by omega,by omega,by omega,by omega,by omega⟩
 ·exact ⟨by omega,by omega,by omega,by omega⟩
 ·exact ⟨by omega,by omega,by omega⟩
 ·unfold ncN;rw [if_pos rfl]
 ·unfold ncN;rw [if_neg (by omega),if_pos rfl]
 ·unfold ncN;rw [if_neg (by omega),if_neg (by omega),if_pos rfl]
theorem Tj {T:St} {hp:Nat→Hb} {N br ye ys yp bR a:Nat} {bs:List Nat} {lr:Ev} {sh en:Bool} {es:List Ev} {d D:Dep} {kind ed c:Nat} {S:Rs} {N' xs xp:Nat} {Post:(Nat→Hb)→List Hw→Prop} (h:NT T hp N br lr kind ed c d D S N' xs xp) (hR:Aj hp N br bR ye ys yp bs (a:Int) lr sh en es d) (hb:kind=66∨kind=69) (hdl:d.st.length≤D.st.length∧D.st.length≤400000) (hSl:S.rest.length≤400000) (hSb:∀ x ∈ S.rest,x≤255) (hel:es.length≤5000) (hlg:evG lr) (hcl:c≤4294967295)
 (hF:uQ sh es.length d.st.length (D.st.length - d.st.length) lr kind c S=none→∀ h:Nat→Hb,(∀ b,b < N→h b=hp b)→Post h [.one (hI 8)])
 (hK:∀ evs s' T x1 M eR cR e2 c2,uQ sh es.length d.st.length (D.st.length - d.st.length) lr kind c S=some (evs,s')→Kn eR cR (KnD d 0 d.st.length)→Kn e2 c2 (KnD D d.st.length D.st.length)→NF T (nvN N br ye ys yp bR xs xp x1 M bs (a:Int) lr sh en es d D evs s' eR cR e2 c2 kind c ed)→pwp aG (tl 15 nxB) (exS aG [.sc 0 nxH] (QN Post)) T) :
 pwp aG (tl 14 nxB) (exS aG [.sc 0 nxH] (QN Post)) T:=by
 obtain ⟨t0,t3,t6,t7,t8,t9,hnc,hal,hq,hs,hr,⟨e2,c2,hk,hk2⟩,he,hi,ho,hf,⟨b1,b2,b3,b4,b5,b6⟩⟩:=h;obtain ⟨rh,re,rs,rq,⟨eR,cR,rk,rk2⟩,⟨l1,l2,l3,l4,l5⟩,hne,rf⟩:=hR;have hne':=hne;obtain ⟨n1,n2,n3,n4,n5,n6,n7,n8,n9,n10⟩:=hne';have hqr:=(ho br l1).trans rh;have hqe:=(ho ye l3).trans re;have hqs:=(ho ys l4).trans rs;have hqp:=(ho yp l5).trans rq;have hqk:=(ho bR l2).trans rk;have hqr':=hqr;unfold iE at hqr';have hq':=hq;simp only [rsH,ptl] at hq';have hesl:(es.map Ev.row).length=es.length:=List.length_map ..;have hrl:=aV S.rest;have hRl:(stR D d.st.length).length=D.st.length - d.st.length:=by unfold stR;rw [List.length_map,List.length_drop]
 have hQl:(d.st.map aW).length=d.st.length:=List.length_map ..;obtain ⟨X,hX⟩:∃ X,uQ sh es.length d.st.length (D.st.length - d.st.length) lr kind c S=X:=⟨_,rfl⟩
 rw [hX] at hF hK;have hfail:∀ (T:St),T.sl 9=aI 8→(∀ b,b < N→T.hb b=hp b)→X=none→pwp aG nxH (exS aG [.ng] (QN Post)) T:=fun T h9 hT hc=>uJ h9 (hF hc T.hb hT)
 rw [Oj];generalize tl 15 nxB=rest at hK ⊢;generalize nxH=hnd at hK hfail ⊢;simp only [nxB,tl,hd,xQ,dh,pcp50];unfold uQ at hX
 cases hbad:S.bad with
 | true =>
   rw [if_pos hbad] at hX;rw [hbad] at hq';simp only [↓evP,evB,stB,reduceCtorEq,Nat.reduceEqDiff,t8,hq'];exact hfail _ (by simp only [stB,Nat.reduceEqDiff,t9]) (fun x hx=>by simp only [stB];exact ho x hx) hX.symm
 | false =>
 rw [if_neg (by rw [hbad];simp)] at hX
 rw [hbad] at hq'
 rcases hb with hb | hb
 ·-- a data block
  rw [if_neg (by omega)] at hX;have k1:((kind:Int) == 69)=false:=by rw [hb];rfl
  have k2:((kind:Int) == 66)=true:=by rw [hb];rfl
  obtain ⟨o,ho2⟩:∃ o,nS sh es.length d.st.length (D.st.length - d.st.length) c lr S=o:=⟨_,rfl⟩
  rw [ho2] at hX;have hP:PEv T.hb N' (N+1) br N bR (N+5) xs xp ye ys yp bs (a:Int) lr sh en lr S es (d.st.map aW) (stR D d.st.length) c:=⟨by omega,by omega,hq,hqr,he,hs,hqe,hqs,hf,⟨hSl,hSb,hbad⟩,⟨hlg,hel,by rw [hQl];omega,by rw [hRl];omega,hcl⟩⟩
  simp only [↓evP,evB,stB,reduceCtorEq,Nat.reduceEqDiff,t0,t3,t6,t8,hq',k1,k2];refine bH _ (by simp only [stB];exact ⟨N',N+1,br,N,bR,N+5,xs,xp,ye,ys,yp,bs,(a:Int),lr,sh,en,lr,S,es,d.st.map aW,stR D d.st.length,c,rfl,hP,rfl⟩) ?_
  rw [hRl,hQl,ho2];rintro h' rs' ⟨rfl,hfr,hV⟩;have hold:∀ x,x < N→h' x=hp x:=fun x hx=>(hfr x (by omega) (by omega) (by omega)).trans (ho x hx)
  cases o with
  | none =>
    dsimp only [Option.isSome];simp only [↓evP,evB,stB,reduceCtorEq,Nat.reduceEqDiff];exact hfail _ (by simp only [stB,Nat.reduceEqDiff,t9]) (fun x hx=>by simp only [stB];exact hold x hx) hX.symm
  | some p =>
    obtain ⟨evs,s'⟩:=p;obtain ⟨M,x1,hA⟩:=hV evs s' rfl;obtain ⟨vh,ve,⟨u1,u2,u3⟩,ux,uo,uf⟩:=hA;have vh':=vh;simp only [rsH,pq] at vh';have hrl':=aV s'.rest;dsimp only [Option.isSome] at hX ⊢
    by_cases hrest:s'.rest=[]
    ·have g0:¬ (((0:Nat):Int) > 0):=by decide
     have hrl0:(byR s'.rest).length=0:=by rw [hrl',hrest];rfl
     rw [if_neg (fun q=>q hrest)] at hX;simp only [↓evP,evB,stB,reduceCtorEq,Nat.reduceEqDiff,t8,vh',hrl0,g0];have hfe:∀ x,x < N'→x≠N+1→x≠N+5→h' x=T.hb x:=hfr
     refine hK evs s' _ x1 M eR cR e2 c2 hX.symm rk2 hk2 ⟨by simp only [stB,reduceCtorEq,t0,nvN],by simp only [stB,Nat.reduceEqDiff,t3,nvN],by simp only [stB,Nat.reduceEqDiff,t6,nvN],by simp only [stB,Nat.reduceEqDiff,t7,nvN],by simp only [stB,Nat.reduceEqDiff,t8,nvN],by simp only [stB,hnc,nvN],(by repeat' (first | exact aH.init | assumption | exact aN (by assumption) | (refine aH.ap ?_ rfl))),?_,?_,?_,MG ⟨l1,l2,l3,l4,l5⟩ hne (by omega) (by omega) (by omega)⟩
     ·simp only [stB];exact ⟨(hfe br (by omega) (by omega) (by omega)).trans hqr,vh,(hfe ye (by omega) (by omega) (by omega)).trans hqe,(hfe ys (by omega) (by omega) (by omega)).trans hqs,(hfe yp (by omega) (by omega) (by omega)).trans hqp,ve,(hfe xs (by omega) (by omega) (by omega)).trans hs,(hfe xp (by omega) (by omega) (by omega)).trans hr,(hfe bR (by omega) (by omega) (by omega)).trans hqk,uf⟩
     ·simp only [stB];exact (hfe N (by omega) (by omega) (by omega)).trans hk
     ·simp only [stB];exact (hfe (N+2) (by omega) (by omega) (by omega)).trans hi
    ·have g0:(((byR s'.rest).length:Nat):Int) > 0:=by rw [hrl'];have:=List.length_pos_iff.2 hrest;omega
     rw [if_pos hrest] at hX;simp only [↓evP,evB,stB,reduceCtorEq,Nat.reduceEqDiff,t8,vh',g0];exact hfail _ (by simp only [stB,Nat.reduceEqDiff,t9]) (fun x hx=>by simp only [stB];exact hold x hx) hX.symm
 ·-- the last block
  rw [if_pos hb] at hX;have k1:((kind:Int) == 69)=true:=by rw [hb];rfl
  have k2:((kind:Int) == 66)=false:=by rw [hb];rfl
  by_cases hc:c=es.length
  ·have k3:((c:Int) != (es.length:Int))=false:=by rw [bne_eq_false_iff_eq,hc]
   rw [if_neg (fun q=>q hc)] at hX
   by_cases hrest:S.rest=[]
   ·have g0:¬ (((0:Nat):Int) > 0):=by decide
    have hrl0:(byR S.rest).length=0:=by rw [hrl,hrest];rfl
    rw [if_neg (fun q=>q hrest)] at hX;simp only [↓evP,evB,stB,reduceCtorEq,Nat.reduceEqDiff,t0,t3,t6,t8,hq',hqr',hqe,hesl,k1,k2,k3,hrl0,g0];refine hK [] S _ (N+5) N' eR cR e2 c2 hX.symm rk2 hk2 ⟨by simp only [stB,reduceCtorEq,t0,nvN],by simp only [stB,Nat.reduceEqDiff,t3,nvN],by simp only [stB,Nat.reduceEqDiff,t6,nvN],by simp only [stB,Nat.reduceEqDiff,t7,nvN],by simp only [stB,Nat.reduceEqDiff,t8,nvN],by simp only [stB,hnc,nvN],(by repeat' (first | exact aH.init | assumption | exact aN (by assumption) | (refine aH.ap ?_ rfl))),?_,?_,?_,MG ⟨l1,l2,l3,l4,l5⟩ hne (by omega) (by omega) (by omega)⟩
    ·simp only [stB];exact ⟨hqr,hq,hqe,hqs,hqp,he,hs,hr,hqk,hf⟩
    ·simp only [stB];exact hk
    ·simp only [stB];exact hi
   ·have g0:(S.rest.length:Int) > 0:=by have:=List.length_pos_iff.2 hrest;omega
    rw [if_pos hrest] at hX;simp only [↓evP,evB,stB,reduceCtorEq,Nat.reduceEqDiff,t0,t3,t6,t8,hq',hqr',hqe,hesl,k1,k2,k3,hrl,g0];exact hfail _ (by simp only [stB,Nat.reduceEqDiff,t9]) (fun x hx=>by simp only [stB];exact ho x hx) hX.symm
  ·have k3:((c:Int) != (es.length:Int))=true:=by rw [bne_iff_ne];omega
   rw [if_pos hc] at hX;simp only [↓evP,evB,stB,reduceCtorEq,Nat.reduceEqDiff,t0,t3,t6,t8,hq',hqr',hqe,hesl,k1,k3];exact hfail _ (by simp only [stB,Nat.reduceEqDiff,t9]) (fun x hx=>by simp only [stB];exact ho x hx) hX.symm
end Go.Proofs.Ytkafcpnahpfbfaa
end
