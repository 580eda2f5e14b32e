/- The format of trace files, as the document gives it: the function that lists the blocks of a trace. -/
import Derived.Test.YtkafcpnahpfbfaaMn3
set_option linter.unusedSimpArgs false
set_option linter.unusedVariables false
section
namespace Go.Proofs.Ytkafcpnahpfbfaa
open Go Go.RowKit
set_option maxRecDepth 1000000
set_option maxHeartbeats 4000000
noncomputable def Ea:Env:=f1 36 FW (e1 37 nO (e1 39 vW (e1 40 rH (e1 38 vY e0))))
theorem yw:ay Try.prog Ea:=ay.f1 Kv (ay.e1 qH (ay.e1 FE (ay.e1 CY (ay.e1 FH ay.e0))))
def qK (ps rs:List Pa):Prop:=∃ (es:List Ev) (d:Dep),ps=[gY es d]∧qW d es∧rs=[.one (.im (pU (bJ d es)))]
theorem xw:Spec Try.prog 20 qK:=by
 refine sp20 yw ?_;rintro ps rs ⟨es,d,rfl,ok,rfl⟩;refine ⟨by simp,?_⟩;unfold pc20
 with_reducible refine aH ?_
 have m1:(d.st.map aJ).length=d.st.length:=List.length_map ..;have m2:(es.map Ev.row).length=es.length:=List.length_map ..;have hel:=ok.el;have hdl:=ok.len;simp only [↓evP,evB,stB,reduceIte,reduceCtorEq,Nat.reduceEqDiff,Nat.reduceAdd,Nat.reduceMul,Nat.reduceLeDiff,Nat.reduceLT,Nat.reduceSub,Nat.reduceBEq,gY,bU,pr20];refine dX [1,3,4,5,6] [1,3,4] (fun S hs ho=>?_);simp only [stB,reduceIte,reduceCtorEq,Nat.reduceEqDiff,Nat.reduceAdd,Nat.reduceMul,Nat.reduceLeDiff,Nat.reduceLT,Nat.reduceSub,Nat.reduceBEq] at hs ho;obtain ⟨q1,q3,q4,q5,q6⟩:=hs;obtain ⟨⟨g1,o1⟩,⟨g3,o3⟩,g4,o4⟩:=ho
 refine bH ms20_0 (49 :: os20_0) (fun m st=>∃ k:Nat,m=dS es - k∧k≤dS es∧st.sl 6=aI ((16 * k:Nat):Int)∧st.sl 5=aI ((bn (es.take (16 * k)) 0:Nat):Int)∧st.sl 3=.b (.one (.own 3 1 (pU ((List.range k).map (ny d es)))))∧st.gen 3=1∧st.ob 3=.row 31 1 k∧st.gen 4=1∧st.ob 4=.cells ((lst ev0 (es.take (16 * k))).row.map .d)) (dS es) ?_ ?_
 ·exact ⟨0,rfl,Nat.zero_le _,q6,q5,q3,g3,o3,g4,o4⟩
 rintro m z ⟨k,rfl,hk,h6,h5,h3,hg3,ho3,hg4,ho4⟩;simp only [stB,reduceIte,reduceCtorEq,Nat.reduceEqDiff,Nat.reduceAdd,Nat.reduceMul,Nat.reduceLeDiff,Nat.reduceLT,Nat.reduceSub,Nat.reduceBEq] at h6 h5 h3 hg3 ho3 hg4 ho4
 rcases Nat.lt_or_ge k (dS es) with hlt | hge
 ·have hkl:16 * k < es.length:=by unfold dS at hlt;omega
  have lt1:((16 * k:Nat):Int) < (es.length:Int):=by omega
  have w1:IntKind.i64.wrap (((16 * k:Nat):Int)+16)=((16 * k+16:Nat):Int):=by rw [fE (by omega) (by omega)];omega
  obtain ⟨c,hc⟩:∃ c,min (16 * k+16) es.length=16 * k+c:=⟨min (16 * k+16) es.length - 16 * k,by omega⟩
  have hmin:(if (es.length:Int) < ((16 * k+16:Nat):Int) then (es.length:Int) else ((16 * k+16:Nat):Int))=((16 * k+c:Nat):Int):=by split <;> omega
  have hc16:c≤16:=by omega
  have hcl:16 * k+c≤es.length:=by omega
  simp only [↓evP,evB,stB,reduceIte,reduceCtorEq,Nat.reduceEqDiff,Nat.reduceAdd,Nat.reduceMul,Nat.reduceLeDiff,Nat.reduceLT,Nat.reduceSub,Nat.reduceBEq,q1,q4,g1,o1,h6,h5,h3,hg3,ho3,hg4,ho4,m2,lt1,w1,List.foldl_cons,List.foldl_nil,hmin,decide_true,if_true]
  refine iL (fun st=>Within ms20_0 (49 :: os20_0) S st) (by repeat' (first | assumption | exact aP.mpr trivial | exact Within.refl _ _ _ | (refine aT ?_ rfl rfl) | (refine aO ?_ rfl))) [1,3,4,5,6,7,8,9] [1,3,4] (fun S3 hw3 hs3 ho3'=>?_);simp only [stB,reduceIte,reduceCtorEq,Nat.reduceEqDiff,Nat.reduceAdd,Nat.reduceMul,Nat.reduceLeDiff,Nat.reduceLT,Nat.reduceSub,Nat.reduceBEq,q1,q4,g1,o1,h6,h5,h3,hg3,ho3,hg4,ho4] at hs3 ho3';obtain ⟨a1,a3,a4,a5,a6,a7,a8,a9⟩:=hs3;obtain ⟨⟨bg1,bo1⟩,⟨bg3,bo3⟩,bg4,bo4⟩:=ho3';have hn0:=ok.need (16 * k);refine bH ms20_1 os20_1 (fun m st=>∃ j:Nat,m=c - j∧j≤c∧st.sl 9=aI ((16 * k+j:Nat):Int)∧st.sl 8=aI ((bn (es.take (16 * k+j)) 0:Nat):Int)) c ?_ ?_
  ·exact ⟨0,rfl,Nat.zero_le _,a9,a8⟩
  rintro m2' z2 ⟨j,rfl,hj,h9,h8⟩;simp only [stB,reduceIte,reduceCtorEq,Nat.reduceEqDiff,Nat.reduceAdd,Nat.reduceMul,Nat.reduceLeDiff,Nat.reduceLT,Nat.reduceSub,Nat.reduceBEq] at h9 h8
  rcases Nat.lt_or_ge j c with hjc | hjc
  ·have hi:16 * k+j < es.length:=by omega
   have ge:es[16 * k+j]? = some (es[16 * k+j]):=List.getElem?_eq_getElem hi;generalize es[16 * k+j]=e at ge;have hev:=ok.ev e (List.mem_of_getElem? ge);have hst:=yT hev.1 e.stack (by simp [Ev.fl]);have lt2:((16 * k+j:Nat):Int) < ((16 * k+c:Nat):Int):=by omega
   have i0:(0:Int)≤((16 * k+j:Nat):Int):=by omega
   have w2:IntKind.i64.wrap (e.stack+1)=e.stack+1:=fE (by omega) (by omega);have w3:IntKind.i64.wrap (((16 * k+j:Nat):Int)+1)=((16 * k+(j+1):Nat):Int):=by rw [fE (by omega) (by omega)];omega
   have hne:bn (es.take (16 * k+(j+1))) 0=max (bn (es.take (16 * k+j)) 0) (e.stack+1).toNat:=by
    rw [show 16 * k+(j+1)=16 * k+j+1 from rfl,take_at ge,iD];rfl
   have hmax:(if e.stack+1 > ((bn (es.take (16 * k+j)) 0:Nat):Int) then e.stack+1 else ((bn (es.take (16 * k+j)) 0:Nat):Int))=((bn (es.take (16 * k+(j+1))) 0:Nat):Int):=by
    rw [hne];split <;> omega
   simp only [↓evP,evB,stB,reduceIte,reduceCtorEq,Nat.reduceEqDiff,Nat.reduceAdd,Nat.reduceMul,Nat.reduceLeDiff,Nat.reduceLT,Nat.reduceSub,Nat.reduceBEq,a1,a7,bg1,bo1,h9,h8,ge,lt2,i0,w2,List.foldl_cons,List.foldl_nil,hmax,Ev.row,decide_true,if_true]
   exact ⟨_,by omega,(by repeat' (first | assumption | exact aP.mpr trivial | exact Within.refl _ _ _ | (refine aT ?_ rfl rfl) | (refine aO ?_ rfl))),j+1,rfl,hjc,by simp only [stB,reduceIte,reduceCtorEq,Nat.reduceEqDiff,Nat.reduceAdd,Nat.reduceMul,Nat.reduceLeDiff,Nat.reduceLT,Nat.reduceSub,Nat.reduceBEq,h9,w3],by simp only [stB,reduceIte,reduceCtorEq,Nat.reduceEqDiff,Nat.reduceAdd,Nat.reduceMul,Nat.reduceLeDiff,Nat.reduceLT,Nat.reduceSub,Nat.reduceBEq];first | done | rw [hmax]⟩
  have hje:j=c:=by omega
  subst hje;have lt2:¬ ((16 * k+j:Nat):Int) < ((16 * k+j:Nat):Int):=by omega
  simp only [↓evP,evB,stB,reduceIte,reduceCtorEq,Nat.reduceEqDiff,Nat.reduceAdd,Nat.reduceMul,Nat.reduceLeDiff,Nat.reduceLT,Nat.reduceSub,Nat.reduceBEq,a1,a7,bg1,bo1,a5,h9,h8,lt2,decide_false];have hn1:=ok.need (16 * k+j)
  have hnn:bn (es.take (16 * k)) 0≤bn (es.take (16 * k+j)) 0:=by
   rw [←fV es (16 * k) j,iD];exact nJ _ _
  refine iU (byR (oQ d (bn (es.take (16 * k)) 0) (bn (es.take (16 * k+j)) 0))) (E:=5) (sz:=1) (by exact ⟨d,_,_,rfl,⟨ok.dk,hnn,hn1⟩,rfl,rfl,rfl⟩) ?_;obtain ⟨B0,hB0⟩:∃ B0,oQ d (bn (es.take (16 * k)) 0) (bn (es.take (16 * k+j)) 0)=B0:=⟨_,rfl⟩
  have hB0l:B0.length≤27009:=by
   have:=gK d (bn (es.take (16 * k)) 0) (bn (es.take (16 * k+j)) 0);rw [hB0] at this;omega
  have cB0:=aY B0;have w4:IntKind.i64.wrap (((16 * k+j:Nat):Int) - ((16 * k:Nat):Int))=(j:Int):=by rw [fE (by omega) (by omega)];omega
  rw [hB0];simp only [↓evP,evB,stB,reduceIte,reduceCtorEq,Nat.reduceEqDiff,Nat.reduceAdd,Nat.reduceMul,Nat.reduceLeDiff,Nat.reduceLT,Nat.reduceSub,Nat.reduceBEq,a1,a5,a6,a7,a8,h9,h8,bg1,bo1,cB0,w4];refine aC [dM (aS j)] (by exact ⟨j,rfl,by omega,rfl⟩) ?_;have c1:=aY (aS j);have al1:=eB (aS j);have l1:=bD j;have g5:B0.length+(aS j).length≤1000000:=by omega
  simp only [↓evP,evB,stB,reduceIte,reduceCtorEq,Nat.reduceEqDiff,Nat.reduceAdd,Nat.reduceMul,Nat.reduceLeDiff,Nat.reduceLT,Nat.reduceSub,Nat.reduceBEq,a1,a5,a6,a7,a8,h9,h8,bg1,bo1,cB0,dM,c1,al1,g5];obtain ⟨l,hl⟩:∃ l,lst ev0 (es.take (16 * k))=l:=⟨_,rfl⟩
  have hlg:evG l:=by rw [←hl];exact uN Dp fun e he=>(ok.ev e (kF he)).1
  rw [hl] at bo4;simp only [Ev.row,List.map_cons,List.map_nil] at bo4
  refine iL (fun st=>Within ms20_0 (49 :: os20_0) S st) (by repeat' (first | exact fT hw3 rfl rfl | (refine aT ?_ rfl rfl) | (refine aO ?_ rfl))) [1,3,4,5,6,7,10,11] [1,3,4,49] (fun S4 hw4 hs4 ho4'=>?_);simp only [stB,reduceIte,reduceCtorEq,Nat.reduceEqDiff,Nat.reduceAdd,Nat.reduceMul,Nat.reduceLeDiff,Nat.reduceLT,Nat.reduceSub,Nat.reduceBEq,a1,a3,a4,a5,a6,a7,a8,h9,h8,bg1,bo1,bg3,bo3,bg4,bo4] at hs4 ho4';clear hw3 a1 a3 a4 a5 a6 a7 a8 a9 h9 h8 bg1 bo1 bg3 bo3 bg4 bo4 h6 h5 h3 hg3 ho3 hg4 ho4;obtain ⟨a1,a3,a4,a5,a6,a7,a10,a11⟩:=hs4;obtain ⟨⟨bg1,bo1⟩,⟨bg3,bo3⟩,⟨bg4,bo4⟩,bg49,bo49⟩:=ho4';obtain ⟨G,hG⟩:∃ G,S3.gen 49+1=G:=⟨_,rfl⟩
  obtain ⟨B1,hB1⟩:∃ B1,B0 ++ aS j=B1:=⟨_,rfl⟩
  have hB1l:B1.length=B0.length+(aS j).length:=by rw [←hB1,List.length_append]
  rw [hG,fA,hB1] at a10;rw [hG] at bg49;rw [←hB1l] at bo49;refine bH ms20_2 (49 :: os20_2) (fun m st=>∃ i:Nat,m=j - i∧i≤j∧st.sl 11=aI ((16 * k+i:Nat):Int)∧st.sl 10=.b (.one (.own 49 G (byR (B1 ++ eF l (bF es (16 * k) i)))))∧st.gen 49=G∧st.ob 49=.row 5 1 (B1 ++ eF l (bF es (16 * k) i)).length∧st.gen 4=1∧st.ob 4=.cells ((lst l (bF es (16 * k) i)).row.map .d)) j ?_ ?_
  ·exact ⟨0,rfl,Nat.zero_le _,a11,by rw [a10,show eF l (bF es (16 * k) 0)=[] from rfl,List.append_nil],bg49,by rw [bo49,show eF l (bF es (16 * k) 0)=[] from rfl,List.append_nil],bg4,bo4⟩
  rintro m3' z3 ⟨i,rfl,hi,h11,h10,hg49,ho49,hg4,ho4⟩;simp only [stB,reduceIte,reduceCtorEq,Nat.reduceEqDiff,Nat.reduceAdd,Nat.reduceMul,Nat.reduceLeDiff,Nat.reduceLT,Nat.reduceSub,Nat.reduceBEq] at h11 h10 hg49 ho49 hg4 ho4
  rcases Nat.lt_or_ge i j with hij | hij
  ·have hil:16 * k+i < es.length:=by omega
   have ge:es[16 * k+i]? = some (es[16 * k+i]):=List.getElem?_eq_getElem hil;generalize es[16 * k+i]=e at ge;have hev:=(ok.ev e (List.mem_of_getElem? ge)).1;have heg:evG e:=yT hev
   have hx1:bF es (16 * k) (i+1)=bF es (16 * k) i ++ [e]:=by
    unfold bF;refine take_at ?_;rw [List.getElem?_drop];exact ge
   obtain ⟨l',hl'⟩:∃ l',lst l (bF es (16 * k) i)=l':=⟨_,rfl⟩
   have hlg':evG l':=by rw [←hl'];exact uN hlg fun e he=>(ok.ev e (oH he)).1
   have hx2:eF l (bF es (16 * k) (i+1))=eF l (bF es (16 * k) i) ++ pX l' e:=by
    rw [hx1,oq,hl',rZ]
   have hx3:lst l (bF es (16 * k) (i+1))=e:=by rw [hx1,qB];rfl
   have hx4:=jr (bF es (16 * k) i) l;have hx5:=fU es (16 * k) i;rw [hl'] at ho4;simp only [Ev.row,List.map_cons,List.map_nil] at ho4;obtain ⟨B2,hB2⟩:∃ B2,B1 ++ eF l (bF es (16 * k) i)=B2:=⟨_,rfl⟩
   have hB2l:B2.length≤40000:=by rw [←hB2,List.length_append];omega
   rw [hB2] at h10 ho49;have lt3:((16 * k+i:Nat):Int) < ((16 * k+j:Nat):Int):=by omega
   have i0:(0:Int)≤((16 * k+i:Nat):Int):=by omega
   have w3:IntKind.i64.wrap (((16 * k+i:Nat):Int)+1)=((16 * k+(i+1):Nat):Int):=by rw [fE (by omega) (by omega)];omega
   simp only [↓evP,evB,stB,reduceIte,reduceCtorEq,Nat.reduceEqDiff,Nat.reduceAdd,Nat.reduceMul,Nat.reduceLeDiff,Nat.reduceLT,Nat.reduceSub,Nat.reduceBEq,a1,a4,a7,bg1,bo1,h11,h10,hg49,ho49,hg4,ho4,ge,lt3,i0,Ev.row,decide_true];refine iT [.one (.im (inR e.fl))] (by exact ⟨e,rfl,rfl⟩) ?_;simp only [↓evP,evB,stB,reduceIte,reduceCtorEq,Nat.reduceEqDiff,Nat.reduceAdd,Nat.reduceMul,Nat.reduceLeDiff,Nat.reduceLT,Nat.reduceSub,Nat.reduceBEq,a1,a4,a7,bg1,bo1,h11,h10,hg49,ho49,hg4,ho4,ge,lt3,i0,Ev.row,decide_true];refine iT [.one (.im (inR l'.fl))] (by exact ⟨l',rfl,rfl⟩) ?_;simp only [↓evP,evB,stB,reduceIte,reduceCtorEq,Nat.reduceEqDiff,Nat.reduceAdd,Nat.reduceMul,Nat.reduceLeDiff,Nat.reduceLT,Nat.reduceSub,Nat.reduceBEq,a1,a4,a7,bg1,bo1,h11,h10,hg49,ho49,hg4,ho4,ge,lt3,i0,Ev.row,decide_true];refine ⟨(by unfold Drw;refine Eq.trans (b:=true) ?_ rfl;kernel_rfl),?_⟩
   refine iL (fun st=>Within ms20_2 (49 :: os20_2) S4 st) (by repeat' (first | assumption | exact aP.mpr trivial | exact Within.refl _ _ _ | (refine aT ?_ rfl rfl) | (refine aO ?_ rfl))) [1,4,7,10,11,12,13,14] [1,4,49] (fun S5 hw5 hs5 ho5=>?_);simp only [stB,reduceIte,reduceCtorEq,Nat.reduceEqDiff,Nat.reduceAdd,Nat.reduceMul,Nat.reduceLeDiff,Nat.reduceLT,Nat.reduceSub,Nat.reduceBEq,a1,a4,a7,bg1,bo1,h11,h10,hg49,ho49,hg4,ho4] at hs5 ho5;obtain ⟨b1,b4,b7,b10,b11,b12,b13,b14⟩:=hs5;obtain ⟨⟨cg1,co1⟩,⟨cg4,co4⟩,cg49,co49⟩:=ho5;clear h11 h10 hg49 ho49 hg4 ho4;obtain ⟨V,hV⟩:∃ V,List.zipWith (fun x y=>x - y) e.fl l'.fl=V:=⟨_,rfl⟩
   have hVl:V.length=9:=by rw [←hV];simp [Ev.fl]
   have hevt:pX l' e=V.flatMap dG:=by unfold pX;rw [hV]
   have f1:=aY B2;have n1:(inR e.fl).length=9:=rfl;have n2:(inR l'.fl).length=9:=rfl;refine bH ms20_3 (49 :: os20_3) (fun m st=>∃ x:Nat,m=9 - x∧x≤9∧st.sl 14=aI (x:Int)∧st.sl 10=.b (.one (.own 49 G (byR (B2 ++ (V.take x).flatMap dG))))∧st.gen 49=G∧st.ob 49=.row 5 1 (B2 ++ (V.take x).flatMap dG).length) 9 ?_ ?_
   ·exact ⟨0,rfl,Nat.zero_le _,b14,by rw [b10];simp,cg49,by rw [co49];simp⟩
   rintro m4' z4 ⟨x,rfl,hx,h14,h10,hg49,ho49⟩;simp only [stB,reduceIte,reduceCtorEq,Nat.reduceEqDiff,Nat.reduceAdd,Nat.reduceMul,Nat.reduceLeDiff,Nat.reduceLT,Nat.reduceSub,Nat.reduceBEq] at h14 h10 hg49 ho49
   rcases Nat.lt_or_ge x 9 with hx9 | hx9
   ·obtain ⟨u,hu⟩:∃ u,e.fl[x]? = some u:=⟨_,List.getElem?_eq_getElem (by simp [Ev.fl];omega)⟩
    obtain ⟨v,hv⟩:∃ v,l'.fl[x]? = some v:=⟨_,List.getElem?_eq_getElem (by simp [Ev.fl];omega)⟩
    have hub:=heg u (List.mem_of_getElem? hu);have hvb:=hlg' v (List.mem_of_getElem? hv);have gu:(inR e.fl)[x]? = some [dI u]:=by unfold inR;rw [List.getElem?_map,hu];rfl
    have gv:(inR l'.fl)[x]? = some [dI v]:=by unfold inR;rw [List.getElem?_map,hv];rfl
    have hVx:V[x]? = some (u - v):=by rw [←hV,List.getElem?_zipWith,hu,hv]
    have hVs:(V.take (x+1)).flatMap dG=(V.take x).flatMap dG ++ dG (u - v):=by
     rw [take_at hVx,List.flatMap_append,List.flatMap_cons,List.flatMap_nil,List.append_nil]
    obtain ⟨B3,hB3⟩:∃ B3,B2 ++ (V.take x).flatMap dG=B3:=⟨_,rfl⟩
    have hB3l:B3.length≤50000:=by
     have:(V.take x).flatMap dG=pX l' e→True:=fun _=>trivial
     rw [←hB3,List.length_append]
     have hq:∀ (xs:List Int),(xs.flatMap dG).length≤9 * xs.length:=fun xs=>by
      induction xs with
      | nil=>exact Nat.le_refl _
      | cons x xs ih =>
        rw [List.flatMap_cons,List.length_append,List.length_cons];have:(dG x).length≤9:=bD _;omega
     have:=hq (V.take x);rw [List.length_take] at this;omega
    rw [hB3] at h10 ho49;have lt4:(x:Int) < 9:=by omega
    have x0:(0:Int)≤(x:Int):=by omega
    have w5:IntKind.i64.wrap (u - v)=u - v:=fE (by omega) (by omega);have w6:IntKind.i64.wrap ((x:Int)+1)=((x+1:Nat):Int):=by rw [fE (by omega) (by omega)];omega
    have f3:=aY B3;have dl:(dG (u - v)).length≤9:=bD _;have dl2:=aY (dG (u - v));have da:=eB (dG (u - v));have g6:B3.length+(dG (u - v)).length≤1000000:=by omega
    have hl9:((9:Nat):Int)=9:=rfl;simp only [↓evP,evB,stB,reduceIte,reduceCtorEq,Nat.reduceEqDiff,Nat.reduceAdd,Nat.reduceMul,Nat.reduceLeDiff,Nat.reduceLT,Nat.reduceSub,Nat.reduceBEq,b7,b12,b13,h14,h10,hg49,ho49,n1,n2,hl9,lt4,x0,gu,gv,w5,decide_true];refine iT [dM (dG (u - v))] (by exact ⟨u - v,rfl,by omega,rfl⟩) ?_;simp only [↓evP,evB,stB,reduceIte,reduceCtorEq,Nat.reduceEqDiff,Nat.reduceAdd,Nat.reduceMul,Nat.reduceLeDiff,Nat.reduceLT,Nat.reduceSub,Nat.reduceBEq,b7,b12,b13,h14,h10,hg49,ho49,n1,n2,hl9,lt4,x0,gu,gv,w5,dM,f3,dl2,da,g6,decide_true];refine ⟨(by unfold Drw;refine Eq.trans (b:=true) ?_ rfl;kernel_rfl),?_⟩
    exact ⟨_,by omega,(by repeat' (first | assumption | exact aP.mpr trivial | exact Within.refl _ _ _ | (refine aT ?_ rfl rfl) | (refine aO ?_ rfl))),x+1,rfl,hx9,by simp only [stB,reduceIte,reduceCtorEq,Nat.reduceEqDiff,Nat.reduceAdd,Nat.reduceMul,Nat.reduceLeDiff,Nat.reduceLT,Nat.reduceSub,Nat.reduceBEq,h14,w6],by simp only [stB,reduceIte,reduceCtorEq,Nat.reduceEqDiff,Nat.reduceAdd,Nat.reduceMul,Nat.reduceLeDiff,Nat.reduceLT,Nat.reduceSub,Nat.reduceBEq];rw [hVs,←List.append_assoc,hB3,fA],by simp only [stB,reduceIte,reduceCtorEq,Nat.reduceEqDiff,Nat.reduceAdd,Nat.reduceMul,Nat.reduceLeDiff,Nat.reduceLT,Nat.reduceSub,Nat.reduceBEq,hg49],by simp only [stB,reduceIte,reduceCtorEq,Nat.reduceEqDiff,Nat.reduceAdd,Nat.reduceMul,Nat.reduceLeDiff,Nat.reduceLT,Nat.reduceSub,Nat.reduceBEq,ho49,jD];rw [hVs,←List.append_assoc,hB3,List.length_append]⟩
   ·have hxe:x=9:=by omega
    subst hxe;have hVt:V.take 9=V:=List.take_of_length_le (by omega);rw [hVt,←hevt] at h10 ho49;have lt4:((9:Int) < 9)=False:=by simp
    have hl9:((9:Nat):Int)=9:=rfl;simp only [↓evP,evB,stB,reduceIte,reduceCtorEq,Nat.reduceEqDiff,Nat.reduceAdd,Nat.reduceMul,Nat.reduceLeDiff,Nat.reduceLT,Nat.reduceSub,Nat.reduceBEq,b1,b4,b7,b11,b12,h14,h10,hg49,ho49,n1,hl9,lt4,cg1,co1,cg4,co4,ge,i0,Ev.row,decide_false]
    refine ⟨_,by omega,(by repeat' (first | exact fT hw5 rfl rfl | (refine aT ?_ rfl rfl) | (refine aO ?_ rfl))),i+1,rfl,hij,?_,?_,?_,?_,?_,?_⟩
    ·simp only [stB,reduceIte,reduceCtorEq,Nat.reduceEqDiff,Nat.reduceAdd,Nat.reduceMul,Nat.reduceLeDiff,Nat.reduceLT,Nat.reduceSub,Nat.reduceBEq,b11,w3]
    ·simp only [stB,reduceIte,reduceCtorEq,Nat.reduceEqDiff,Nat.reduceAdd,Nat.reduceMul,Nat.reduceLeDiff,Nat.reduceLT,Nat.reduceSub,Nat.reduceBEq,h10];rw [hx2,←List.append_assoc,hB2]
    ·simp only [stB,reduceIte,reduceCtorEq,Nat.reduceEqDiff,Nat.reduceAdd,Nat.reduceMul,Nat.reduceLeDiff,Nat.reduceLT,Nat.reduceSub,Nat.reduceBEq,hg49]
    ·simp only [stB,reduceIte,reduceCtorEq,Nat.reduceEqDiff,Nat.reduceAdd,Nat.reduceMul,Nat.reduceLeDiff,Nat.reduceLT,Nat.reduceSub,Nat.reduceBEq,ho49];rw [hx2,←List.append_assoc,hB2]
    ·simp only [stB,reduceIte,reduceCtorEq,Nat.reduceEqDiff,Nat.reduceAdd,Nat.reduceMul,Nat.reduceLeDiff,Nat.reduceLT,Nat.reduceSub,Nat.reduceBEq,cg4]
    ·simp only [stB,reduceIte,reduceCtorEq,Nat.reduceEqDiff,Nat.reduceAdd,Nat.reduceMul,Nat.reduceLeDiff,Nat.reduceLT,Nat.reduceSub,Nat.reduceBEq,co4,sW,hx3,Ev.row];first | done | rfl
  ·have hie:i=j:=by omega
   subst hie;have lt3:¬ ((16 * k+i:Nat):Int) < ((16 * k+i:Nat):Int):=by omega
   have hev16:bF es (16 * k) 16=bF es (16 * k) i:=by
    unfold bF;rw [List.take_eq_take_iff,List.length_drop];omega
   have hevl:(bF es (16 * k) i).length=i:=by rw [fU];omega
   have htk:es.take (16 * k+16)=es.take (16 * k+i):=by
    rw [List.take_eq_take_iff];omega
   have hC:B1 ++ eF l (bF es (16 * k) i)=kN d es k:=by
    unfold kN;rw [hev16,hevl,htk,hl,←hB1,←hB0,List.append_assoc]
   have hlast:lst l (bF es (16 * k) i)=lst ev0 (es.take (16 * (k+1))):=by
    rw [←hl,←qB,fV,show 16 * (k+1)=16 * k+16 from rfl,htk]
   rw [hC] at h10 ho49;rw [hlast] at ho4;have hbl:=rR ok k;have hby:=yg ok k;simp only [↓evP,evB,stB,reduceIte,reduceCtorEq,Nat.reduceEqDiff,Nat.reduceAdd,Nat.reduceMul,Nat.reduceLeDiff,Nat.reduceLT,Nat.reduceSub,Nat.reduceBEq,a1,a3,a4,a7,bg3,bo3,h11,h10,hg49,ho49,lt3,decide_false];refine aC [dM (bO 66 (kN d es k))] (by exact ⟨66,_,rfl,⟨by omega,by omega,hby⟩,rfl⟩) ?_;have r1:(pU ((List.range k).map (ny d es))).length=k:=by rw [mY,List.length_map,List.length_range]
   have r2:k+1≤1000000:=by unfold dS at hk;omega
   have r3:(List.range (k+1)).map (ny d es)=(List.range k).map (ny d es) ++ [bO 66 (kN d es k)]:=by
    rw [List.range_succ,List.map_append];rfl
   simp only [↓evP,evB,stB,reduceIte,reduceCtorEq,Nat.reduceEqDiff,Nat.reduceAdd,Nat.reduceMul,Nat.reduceLeDiff,Nat.reduceLT,Nat.reduceSub,Nat.reduceBEq,a1,a3,a4,a5,a6,a7,bg3,bo3,h11,h10,hg49,ho49,lt3,dM,r1,r2,decide_false]
   refine ⟨_,by omega,(by repeat' (first | exact fT hw4 rfl rfl | (refine aT ?_ rfl rfl) | (refine aO ?_ rfl))),k+1,rfl,hlt,?_,?_,?_,?_,?_,?_,?_⟩
   ·simp only [stB,reduceIte,reduceCtorEq,Nat.reduceEqDiff,Nat.reduceAdd,Nat.reduceMul,Nat.reduceLeDiff,Nat.reduceLT,Nat.reduceSub,Nat.reduceBEq,a6,w1];first | done | rfl
   ·simp only [stB,reduceIte,reduceCtorEq,Nat.reduceEqDiff,Nat.reduceAdd,Nat.reduceMul,Nat.reduceLeDiff,Nat.reduceLT,Nat.reduceSub,Nat.reduceBEq,a5];rw [show 16 * (k+1)=16 * k+16 from rfl,htk]
   ·simp only [stB,reduceIte,reduceCtorEq,Nat.reduceEqDiff,Nat.reduceAdd,Nat.reduceMul,Nat.reduceLeDiff,Nat.reduceLT,Nat.reduceSub,Nat.reduceBEq,a3];rw [r3];unfold pU;rw [List.map_append];first | done | rfl
   ·simp only [stB,reduceIte,reduceCtorEq,Nat.reduceEqDiff,Nat.reduceAdd,Nat.reduceMul,Nat.reduceLeDiff,Nat.reduceLT,Nat.reduceSub,Nat.reduceBEq,bg3]
   ·simp only [stB,reduceIte,reduceCtorEq,Nat.reduceEqDiff,Nat.reduceAdd,Nat.reduceMul,Nat.reduceLeDiff,Nat.reduceLT,Nat.reduceSub,Nat.reduceBEq,bo3,jD];first | done | rfl
   ·simp only [stB,reduceIte,reduceCtorEq,Nat.reduceEqDiff,Nat.reduceAdd,Nat.reduceMul,Nat.reduceLeDiff,Nat.reduceLT,Nat.reduceSub,Nat.reduceBEq,hg4]
   ·simp only [stB,reduceIte,reduceCtorEq,Nat.reduceEqDiff,Nat.reduceAdd,Nat.reduceMul,Nat.reduceLeDiff,Nat.reduceLT,Nat.reduceSub,Nat.reduceBEq,ho4]
 ·have hke:k=dS es:=by omega
  have htk:es.take (16 * k)=es:=List.take_of_length_le (by rw [hke];unfold dS;omega)
  have lt1:¬ ((16 * k:Nat):Int) < (es.length:Int):=by rw [hke];unfold dS;omega
  rw [htk] at h5;have hn0:=ok.need es.length;rw [List.take_length] at hn0;simp only [↓evP,evB,stB,reduceIte,reduceCtorEq,Nat.reduceEqDiff,Nat.reduceAdd,Nat.reduceMul,Nat.reduceLeDiff,Nat.reduceLT,Nat.reduceSub,Nat.reduceBEq,q1,g1,o1,h6,h5,h3,hg3,ho3,m1,m2,lt1,decide_false];refine iU (byR (oQ d (bn es 0) d.st.length)) (E:=5) (sz:=1) (by exact ⟨d,_,_,rfl,⟨ok.dk,hn0,Nat.le_refl _⟩,rfl,rfl,rfl⟩) ?_;have hB0l:=gK d (bn es 0) d.st.length;obtain ⟨B0,hB0⟩:∃ B0,oQ d (bn es 0) d.st.length=B0:=⟨_,rfl⟩
  rw [hB0] at hB0l;have cB0:=aY B0;rw [hB0];simp only [↓evP,evB,stB,reduceIte,reduceCtorEq,Nat.reduceEqDiff,Nat.reduceAdd,Nat.reduceMul,Nat.reduceLeDiff,Nat.reduceLT,Nat.reduceSub,Nat.reduceBEq,q1,g1,o1,h6,h5,h3,hg3,ho3,m1,m2,lt1,cB0,decide_false];refine aC [dM (aS es.length)] (by exact ⟨es.length,rfl,by omega,rfl⟩) ?_;have c1:=aY (aS es.length);have al1:=eB (aS es.length);have l1:=bD es.length;have g5:B0.length+(aS es.length).length≤1000000:=by omega
  have hC:byR B0 ++ byR (aS es.length)=byR (lW d es):=by rw [fA];unfold lW;rw [hB0]
  simp only [↓evP,evB,stB,reduceIte,reduceCtorEq,Nat.reduceEqDiff,Nat.reduceAdd,Nat.reduceMul,Nat.reduceLeDiff,Nat.reduceLT,Nat.reduceSub,Nat.reduceBEq,q1,g1,o1,h6,h5,h3,hg3,ho3,m1,m2,lt1,cB0,dM,c1,al1,g5,hC,decide_false];have hbl:=qN ok;have hby:=rW ok;refine aC [dM (bO 69 (lW d es))] (by exact ⟨69,_,rfl,⟨by omega,by omega,hby⟩,rfl⟩) ?_;have r1:(pU ((List.range k).map (ny d es))).length=k:=by rw [mY,List.length_map,List.length_range]
  have r2:k+1≤1000000:=by rw [hke];unfold dS;omega
  have r3:pU ((List.range k).map (ny d es)) ++ [[.im (byR (bO 69 (lW d es)))]]=pU (bJ d es):=by
   unfold bJ pU;rw [List.map_append,hke];rfl
  simp only [↓evP,evB,stB,reduceIte,reduceCtorEq,Nat.reduceEqDiff,Nat.reduceAdd,Nat.reduceMul,Nat.reduceLeDiff,Nat.reduceLT,Nat.reduceSub,Nat.reduceBEq,q1,g1,o1,h6,h5,h3,hg3,ho3,m1,m2,lt1,cB0,dM,c1,al1,g5,hC,r1,r2,r3,pr20,decide_false]
  first | done | rfl
end Go.Proofs.Ytkafcpnahpfbfaa
end
section
namespace Go.Proofs.Ytkafcpnahpfbfaa
open Go Go.RowKit
set_option maxRecDepth 100000
set_option maxHeartbeats 4000000
def Dep.good (d:Dep) (i:Nat):Prop:=(-1≤iw d i∧iw d i < (i:Int))∧0≤(fZ d i).1∧0≤(fZ d i).2
def Dep.dup (d:Dep) (k i:Nat):Prop:=fZ d k=fZ d i∧iw d k=iw d i
def Dep.val (d:Dep):Prop:=d.st.length=d.pr.length∧∀ i,i < d.st.length→d.good i∧∀ k,k < i→¬ d.dup k i
open Classical in
noncomputable def pW (d:Dep):Bool:=decide d.val
open Classical in
theorem lg {d:Dep} (h:¬ d.val):pW d=false:=by unfold pW;exact decide_eq_false h
open Classical in
theorem nA {d:Dep} (h:d.val):pW d=true:=by unfold pW;exact decide_eq_true h
def FT (ps rs:List Pa):Prop:=∃ d:Dep,ps=[d.pa]∧(d.st.length≤1000000∧d.pr.length≤1000000)∧rs=[pB (pW d)]
theorem Iu:Spec Try.prog 34 FT:=by
 refine sp34 ay.e0 ?_;rintro ps rs ⟨d,rfl,⟨hl1,hl2⟩,rfl⟩;refine ⟨by simp,?_⟩;unfold pc34
 with_reducible refine aH ?_
 have m1:(d.st.map aJ).length=d.st.length:=List.length_map ..;have m2:(d.pr.map fun x=>[dI x]).length=d.pr.length:=List.length_map ..
 by_cases hlen:d.st.length=d.pr.length
 ·have b0:((d.st.length:Int) != (d.pr.length:Int))=false:=by rw [hlen];simp
  simp only [↓evP,evB,stB,reduceIte,reduceCtorEq,Nat.reduceEqDiff,Nat.reduceAdd,Nat.reduceMul,Nat.reduceLeDiff,Nat.reduceLT,Nat.reduceSub,Nat.reduceBEq,Dep.pa,Dep.row,m1,m2,b0];refine dX [0,1,2,3] [1] (fun S hs ho=>?_);simp only [stB,reduceIte,reduceCtorEq,Nat.reduceEqDiff,Nat.reduceAdd,Nat.reduceMul,Nat.reduceLeDiff,Nat.reduceLT,Nat.reduceSub,Nat.reduceBEq] at hs ho;obtain ⟨q0,q1,q2,q3⟩:=hs;obtain ⟨r1,t1⟩:=ho;refine bH ms34_0 os34_0 (fun m st=>∃ i:Nat,m=d.st.length - i∧i≤d.st.length∧st.sl 3=aI i∧∀ x,x < i→d.good x∧∀ k,k < x→¬ d.dup k x) d.st.length ?_ ?_
  ·exact ⟨0,rfl,Nat.zero_le _,q3,fun x q=>absurd q (Nat.not_lt_zero _)⟩
  rintro m z ⟨i,rfl,hi,h3,hal⟩;simp only [stB,reduceIte,reduceCtorEq,Nat.reduceEqDiff,Nat.reduceAdd,Nat.reduceMul,Nat.reduceLeDiff,Nat.reduceLT,Nat.reduceSub,Nat.reduceBEq] at h3
  rcases Nat.lt_or_ge i d.st.length with hlt | hge
  ·have gp:d.pr[i]? = some (iw d i):=by unfold iw;rw [List.getD_eq_getElem?_getD,List.getElem?_eq_getElem (by omega)];rfl
   have gs:d.st[i]? = some (fZ d i):=by unfold fZ;rw [List.getD_eq_getElem?_getD,List.getElem?_eq_getElem hlt];rfl
   have ilt:(i:Int) < (d.st.length:Int):=by omega
   have i0:(0:Int)≤(i:Int):=by omega
   have hbad:¬ d.good i→pW d=false:=fun h=>lg fun q=>h (q.2 i hlt).1
   obtain ⟨⟨s1,s2⟩,hs⟩:∃ s,fZ d i=s:=⟨_,rfl⟩
   rw [hs] at gs
   by_cases c1:iw d i < -1
   ·rw [hbad fun h=>by have:=h.1.1;omega]
    simp only [↓evP,evB,stB,reduceIte,reduceCtorEq,Nat.reduceEqDiff,Nat.reduceAdd,Nat.reduceMul,Nat.reduceLeDiff,Nat.reduceLT,Nat.reduceSub,Nat.reduceBEq,q0,q1,r1,t1,h3,m1,m2,ilt,i0,gp,gs,c1,aJ,decide_true,pr34]
    first | done | rfl
   by_cases c2:iw d i≥(i:Int)
   ·rw [hbad fun h=>by have:=h.1.2;omega]
    simp only [↓evP,evB,stB,reduceIte,reduceCtorEq,Nat.reduceEqDiff,Nat.reduceAdd,Nat.reduceMul,Nat.reduceLeDiff,Nat.reduceLT,Nat.reduceSub,Nat.reduceBEq,q0,q1,r1,t1,h3,m1,m2,ilt,i0,gp,gs,c1,c2,aJ,decide_true,decide_false,pr34]
    first | done | rfl
   by_cases c3:s1 < 0
   ·rw [hbad fun h=>by have:=h.2.1;rw [hs] at this;dsimp only at this;omega]
    simp only [↓evP,evB,stB,reduceIte,reduceCtorEq,Nat.reduceEqDiff,Nat.reduceAdd,Nat.reduceMul,Nat.reduceLeDiff,Nat.reduceLT,Nat.reduceSub,Nat.reduceBEq,q0,q1,r1,t1,h3,m1,m2,ilt,i0,gp,gs,c1,c2,c3,aJ,decide_true,decide_false,pr34]
    first | done | rfl
   by_cases c4:s2 < 0
   ·rw [hbad fun h=>by have:=h.2.2;rw [hs] at this;dsimp only at this;omega]
    simp only [↓evP,evB,stB,reduceIte,reduceCtorEq,Nat.reduceEqDiff,Nat.reduceAdd,Nat.reduceMul,Nat.reduceLeDiff,Nat.reduceLT,Nat.reduceSub,Nat.reduceBEq,q0,q1,r1,t1,h3,m1,m2,ilt,i0,gp,gs,c1,c2,c3,c4,aJ,decide_true,decide_false,pr34]
    first | done | rfl
   have hgood:d.good i:=⟨⟨by omega,by omega⟩,by rw [hs];dsimp only;omega,by rw [hs];dsimp only;omega⟩
   simp only [↓evP,evB,stB,reduceIte,reduceCtorEq,Nat.reduceEqDiff,Nat.reduceAdd,Nat.reduceMul,Nat.reduceLeDiff,Nat.reduceLT,Nat.reduceSub,Nat.reduceBEq,q0,q1,r1,t1,h3,m1,m2,ilt,i0,gp,gs,c1,c2,c3,c4,aJ,decide_true,decide_false]
   refine iL (fun st=>Within ms34_0 os34_0 S st) (by repeat' (first | assumption | exact aP.mpr trivial | exact Within.refl _ _ _ | (refine aT ?_ rfl rfl) | (refine aO ?_ rfl))) [0,1,3,4] [1] (fun T hwT hs2 ho2=>?_);simp only [stB,reduceIte,reduceCtorEq,Nat.reduceEqDiff,Nat.reduceAdd,Nat.reduceMul,Nat.reduceLeDiff,Nat.reduceLT,Nat.reduceSub,Nat.reduceBEq,q0,q1,r1,t1,h3] at hs2 ho2;obtain ⟨p0,p1,p3,p4⟩:=hs2;obtain ⟨v1,v2⟩:=ho2;refine bH ms34_1 os34_1 (fun m st=>∃ k:Nat,m=i - k∧k≤i∧st.sl 4=aI k∧∀ x,x < k→¬ d.dup x i) i ?_ ?_
   ·exact ⟨0,rfl,Nat.zero_le _,p4,fun x q=>absurd q (Nat.not_lt_zero _)⟩
   rintro m2 z2 ⟨k,rfl,hk,h4,hno⟩;simp only [stB,reduceIte,reduceCtorEq,Nat.reduceEqDiff,Nat.reduceAdd,Nat.reduceMul,Nat.reduceLeDiff,Nat.reduceLT,Nat.reduceSub,Nat.reduceBEq] at h4
   rcases Nat.lt_or_ge k i with hki | hki
   ·have gp2:d.pr[k]? = some (iw d k):=by unfold iw;rw [List.getD_eq_getElem?_getD,List.getElem?_eq_getElem (by omega)];rfl
    have gs2:d.st[k]? = some (fZ d k):=by unfold fZ;rw [List.getD_eq_getElem?_getD,List.getElem?_eq_getElem (by omega)];rfl
    have kli:(k:Int) < (i:Int):=by omega
    have k0:(0:Int)≤(k:Int):=by omega
    obtain ⟨⟨u1,u2⟩,hu⟩:∃ u,fZ d k=u:=⟨_,rfl⟩
    rw [hu] at gs2
    have hnext:¬ d.dup k i→∀ x,x < k+1→¬ d.dup x i:=fun h x hx=>by
     rcases Nat.lt_or_ge x k with q | q
     ·exact hno x q
     ·have:x=k:=by omega
      subst this;exact h
    cases b1:(u1 == s1) with
    | false =>
      have hd:¬ d.dup k i:=fun h=>by
       have:=h.1;rw [hu,hs] at this;cases this;simp at b1
      simp only [↓evP,evB,stB,reduceIte,reduceCtorEq,Nat.reduceEqDiff,Nat.reduceAdd,Nat.reduceMul,Nat.reduceLeDiff,Nat.reduceLT,Nat.reduceSub,Nat.reduceBEq,p0,p1,p3,v1,v2,h4,kli,k0,i0,gp,gs,gp2,gs2,aJ,gG,ug,b1,Bool.false_and,decide_true];refine ⟨(by unfold Drw;refine Eq.trans (b:=true) ?_ rfl;kernel_rfl),?_⟩
      exact ⟨_,by omega,(by repeat' (first | assumption | exact aP.mpr trivial | exact Within.refl _ _ _ | (refine aT ?_ rfl rfl) | (refine aO ?_ rfl))),k+1,rfl,hki,by simp only [stB,reduceIte,reduceCtorEq,Nat.reduceEqDiff,Nat.reduceAdd,Nat.reduceMul,Nat.reduceLeDiff,Nat.reduceLT,Nat.reduceSub,Nat.reduceBEq,h4];rw [wrN (by omega)],hnext hd⟩
    | true =>
      cases b2:(u2 == s2) with
      | false =>
        have hd:¬ d.dup k i:=fun h=>by
         have:=h.1;rw [hu,hs] at this;cases this;simp at b2
        simp only [↓evP,evB,stB,reduceIte,reduceCtorEq,Nat.reduceEqDiff,Nat.reduceAdd,Nat.reduceMul,Nat.reduceLeDiff,Nat.reduceLT,Nat.reduceSub,Nat.reduceBEq,p0,p1,p3,v1,v2,h4,kli,k0,i0,gp,gs,gp2,gs2,aJ,gG,ug,b1,b2,Bool.false_and,Bool.true_and,decide_true];refine ⟨(by unfold Drw;refine Eq.trans (b:=true) ?_ rfl;kernel_rfl),?_⟩
        exact ⟨_,by omega,(by repeat' (first | assumption | exact aP.mpr trivial | exact Within.refl _ _ _ | (refine aT ?_ rfl rfl) | (refine aO ?_ rfl))),k+1,rfl,hki,by simp only [stB,reduceIte,reduceCtorEq,Nat.reduceEqDiff,Nat.reduceAdd,Nat.reduceMul,Nat.reduceLeDiff,Nat.reduceLT,Nat.reduceSub,Nat.reduceBEq,h4];rw [wrN (by omega)],hnext hd⟩
      | true =>
        cases b3:(iw d k == iw d i) with
        | false =>
          have hd:¬ d.dup k i:=fun h=>by
           have:=h.2;rw [this] at b3;simp at b3
          simp only [↓evP,evB,stB,reduceIte,reduceCtorEq,Nat.reduceEqDiff,Nat.reduceAdd,Nat.reduceMul,Nat.reduceLeDiff,Nat.reduceLT,Nat.reduceSub,Nat.reduceBEq,p0,p1,p3,v1,v2,h4,kli,k0,i0,gp,gs,gp2,gs2,aJ,gG,ug,b1,b2,b3,Bool.true_and,decide_true];refine ⟨(by unfold Drw;refine Eq.trans (b:=true) ?_ rfl;kernel_rfl),?_⟩
          exact ⟨_,by omega,(by repeat' (first | assumption | exact aP.mpr trivial | exact Within.refl _ _ _ | (refine aT ?_ rfl rfl) | (refine aO ?_ rfl))),k+1,rfl,hki,by simp only [stB,reduceIte,reduceCtorEq,Nat.reduceEqDiff,Nat.reduceAdd,Nat.reduceMul,Nat.reduceLeDiff,Nat.reduceLT,Nat.reduceSub,Nat.reduceBEq,h4];rw [wrN (by omega)],hnext hd⟩
        | true =>
          have hd:d.dup k i:=⟨by rw [hu,hs,eq_of_beq b1,eq_of_beq b2],eq_of_beq b3⟩;rw [lg fun q=>(q.2 i hlt).2 k hki hd];simp only [↓evP,evB,stB,reduceIte,reduceCtorEq,Nat.reduceEqDiff,Nat.reduceAdd,Nat.reduceMul,Nat.reduceLeDiff,Nat.reduceLT,Nat.reduceSub,Nat.reduceBEq,p0,p1,p3,v1,v2,h4,kli,k0,i0,gp,gs,gp2,gs2,aJ,gG,ug,b1,b2,b3,Bool.true_and,decide_true,pr34]
          first | done | exact ⟨(by unfold Drw;refine Eq.trans (b:=true) ?_ rfl;kernel_rfl),rfl⟩ | rfl
   ·have hke:k=i:=by omega
    subst hke;have kli:¬ (k:Int) < (k:Int):=by omega
    simp only [↓evP,evB,stB,reduceIte,reduceCtorEq,Nat.reduceEqDiff,Nat.reduceAdd,Nat.reduceMul,Nat.reduceLeDiff,Nat.reduceLT,Nat.reduceSub,Nat.reduceBEq,p0,p1,p3,v1,v2,h4,kli,decide_false]
    exact ⟨_,by omega,(by repeat' (first | exact fT hwT rfl rfl | (refine aT ?_ rfl rfl) | (refine aO ?_ rfl))),k+1,rfl,by omega,by simp only [stB,reduceIte,reduceCtorEq,Nat.reduceEqDiff,Nat.reduceAdd,Nat.reduceMul,Nat.reduceLeDiff,Nat.reduceLT,Nat.reduceSub,Nat.reduceBEq,p3];rw [wrN (by omega)],fun x hx=>by
     rcases Nat.lt_or_ge x k with q | q
     ·exact hal x q
     ·have:x=k:=by omega
      subst this;exact ⟨hgood,hno⟩⟩
  ·have hie:i=d.st.length:=by omega
   have ilt:¬ (i:Int) < (d.st.length:Int):=by omega
   have hv:pW d=true:=nA ⟨hlen,fun x hx=>hal x (by omega)⟩;rw [hv];simp only [↓evP,evB,stB,reduceIte,reduceCtorEq,Nat.reduceEqDiff,Nat.reduceAdd,Nat.reduceMul,Nat.reduceLeDiff,Nat.reduceLT,Nat.reduceSub,Nat.reduceBEq,q0,q1,r1,t1,h3,m1,m2,ilt,decide_false,pr34]
   first | done | rfl
 ·have b0:((d.st.length:Int) != (d.pr.length:Int))=true:=by
   rw [bne_iff_ne];omega
  rw [lg fun h=>hlen h.1];simp only [↓evP,evB,stB,reduceIte,reduceCtorEq,Nat.reduceEqDiff,Nat.reduceAdd,Nat.reduceMul,Nat.reduceLeDiff,Nat.reduceLT,Nat.reduceSub,Nat.reduceBEq,Dep.pa,Dep.row,m1,m2,b0,pr34]
  first | done | rfl
def iB:List ByteArray:=[⟨#[]⟩,⟨#[114,101,97,100]⟩,⟨#[119,114,105,116,101]⟩,⟨#[97,116,111,109,105,99,45,114,101,97,100]⟩,⟨#[97,116,111,109,105,99,45,119,114,105,116,101]⟩,⟨#[97,116,111,109,105,99,45,98,111,116,104]⟩,⟨#[108,111,99,107]⟩,⟨#[117,110,108,111,99,107]⟩,⟨#[114,108,111,99,107]⟩,⟨#[114,117,110,108,111,99,107]⟩,⟨#[100,111,110,101]⟩,⟨#[119,97,105,116]⟩,⟨#[111,110,99,101,45,101,110,100]⟩,⟨#[111,110,99,101,45,115,101,101,110]⟩,⟨#[103,111]⟩,⟨#[115,101,110,100,45,115,116,97,114,116]⟩,⟨#[115,101,110,100,45,101,110,100]⟩,⟨#[114,101,99,118,45,115,116,97,114,116]⟩,⟨#[114,101,99,118,45,101,110,100]⟩,⟨#[99,108,111,115,101]⟩,⟨#[114,101,99,118,45,99,108,111,115,101,100]⟩]
def FY (ps rs:List Pa):Prop:=∃ k:Int,ps=[pI k]∧∃ s,rs=[.one (.sc (.string s))]∧s=(if k < 1∨20 < k then ⟨#[]⟩ else (iB[k.toNat]?).getD ⟨#[]⟩)
theorem Ky:Spec Try.prog 54 FY:=by
 refine sp54 ay.e0 ?_;rintro ps rs ⟨k,rfl,s,rfl,hs⟩;refine ⟨by simp,?_⟩;unfold pc54;refine aH ?_
 by_cases h1:k < 1
 ·rw [if_pos (.inl h1)] at hs;subst hs;simp only [↓evP,evB,stB,reduceIte,reduceCtorEq,seval,h1,pr54]
 by_cases h2:k > 20
 ·rw [if_pos (.inr h2)] at hs;subst hs;simp only [↓evP,evB,stB,reduceIte,reduceCtorEq,seval,h1,h2,decide_true,decide_false,pr54]
 rw [if_neg (fun h=>h.elim h1 h2)] at hs;obtain ⟨m,rfl⟩:=Int.eq_ofNat_of_zero_le (show 0≤k by omega);obtain ⟨u,hu⟩:∃ u,iB[m]? = some u:=⟨_,List.getElem?_eq_getElem (by show m < 21;omega)⟩
 rw [Int.toNat_natCast,hu,Option.getD_some] at hs;subst hs;have hrow:(iB.map fun x=>[Dt.sc (.string x)])[m]? = some [.sc (.string s)]:=by rw [List.getElem?_map,hu];rfl
 unfold iB at hrow;simp only [List.map_cons,List.map_nil] at hrow;simp only [↓evP,evB,stB,reduceIte,reduceCtorEq,seval,h1,h2,decide_true,decide_false,hrow,pr54]
def rJ (ps rs:List Pa):Prop:=∃ e:Ev,ps=[e.pa]∧rs=[pB e.valid]
def bR:Env:=e1 54 FY e0
theorem p8:ay Try.prog bR:=ay.e1 Ky ay.e0
theorem zy {e:Ev} (hr:0≤e.k) (Q:Exit→St→Prop)
 (hQ:∀ st,st.res pr35=some [pB (decide (e.obj=0∧e.off=0∧e.n=0∧1≤e.k∧e.k < 8))]→Q .ret st) (st:St)
 (h1:st.sl 1=.b (.one (.ptr 1 1 0))) (g1:st.gen 1=1) (o1:st.ob 1=.cells (e.row.map .d)) :
 pwp bR pc35c1 (exS bR [It.bl 2,It.c pc35c0] Q) st:=by
 simp only [Ev.row,List.map_cons,List.map_nil] at o1;unfold pc35c1;simp only [↓evP,evB,stB,reduceIte,reduceCtorEq,Nat.reduceEqDiff,Nat.reduceAdd,Nat.reduceMul,Nat.reduceLeDiff,Nat.reduceLT,Nat.reduceSub,Nat.reduceBEq,h1,g1,o1]
 repeat' (first | apply And.intro | intro)
 all_goals (refine hQ _ ?_;simp only [stB,reduceIte,reduceCtorEq,Nat.reduceEqDiff,Nat.reduceAdd,Nat.reduceMul,Nat.reduceLeDiff,Nat.reduceLT,Nat.reduceSub,Nat.reduceBEq,pr35];refine congrArg (fun b=>some [pB b]) (Bool.eq_iff_iff.2 ?_);simp only [beq_iff_eq,beq_eq_false_iff_ne,ne_eq,decide_eq_true_eq,decide_eq_false_iff_not,Bool.false_eq_true,reduceCtorEq,false_iff,true_iff,iff_false,iff_true] at *;omega)
theorem jR {e:Ev} (hr:0≤e.k) (Q:Exit→St→Prop)
 (hQ:∀ st,st.res pr35=some [pB (decide (e.off=0∧e.n≤64))]→Q .ret st) (st:St)
 (h1:st.sl 1=.b (.one (.ptr 1 1 0))) (g1:st.gen 1=1) (o1:st.ob 1=.cells (e.row.map .d)) :
 pwp bR pc35c2 (exS bR [It.bl 2,It.c pc35c0] Q) st:=by
 simp only [Ev.row,List.map_cons,List.map_nil] at o1;unfold pc35c2;simp only [↓evP,evB,stB,reduceIte,reduceCtorEq,Nat.reduceEqDiff,Nat.reduceAdd,Nat.reduceMul,Nat.reduceLeDiff,Nat.reduceLT,Nat.reduceSub,Nat.reduceBEq,h1,g1,o1]
 repeat' (first | apply And.intro | intro)
 all_goals (refine hQ _ ?_;simp only [stB,reduceIte,reduceCtorEq,Nat.reduceEqDiff,Nat.reduceAdd,Nat.reduceMul,Nat.reduceLeDiff,Nat.reduceLT,Nat.reduceSub,Nat.reduceBEq,pr35];refine congrArg (fun b=>some [pB b]) (Bool.eq_iff_iff.2 ?_);simp only [beq_iff_eq,beq_eq_false_iff_ne,ne_eq,decide_eq_true_eq,decide_eq_false_iff_not,Bool.false_eq_true,reduceCtorEq,false_iff,true_iff,iff_false,iff_true] at *;omega)
theorem qI {e:Ev} (hr:0≤e.k) (Q:Exit→St→Prop)
 (hQ:∀ st,st.res pr35=some [pB (decide (e.off=0∧e.n≤64∧e.k=0))]→Q .ret st) (st:St)
 (h1:st.sl 1=.b (.one (.ptr 1 1 0))) (g1:st.gen 1=1) (o1:st.ob 1=.cells (e.row.map .d)) :
 pwp bR pc35c3 (exS bR [It.bl 2,It.c pc35c0] Q) st:=by
 simp only [Ev.row,List.map_cons,List.map_nil] at o1;unfold pc35c3;simp only [↓evP,evB,stB,reduceIte,reduceCtorEq,Nat.reduceEqDiff,Nat.reduceAdd,Nat.reduceMul,Nat.reduceLeDiff,Nat.reduceLT,Nat.reduceSub,Nat.reduceBEq,h1,g1,o1]
 repeat' (first | apply And.intro | intro)
 all_goals (refine hQ _ ?_;simp only [stB,reduceIte,reduceCtorEq,Nat.reduceEqDiff,Nat.reduceAdd,Nat.reduceMul,Nat.reduceLeDiff,Nat.reduceLT,Nat.reduceSub,Nat.reduceBEq,pr35];refine congrArg (fun b=>some [pB b]) (Bool.eq_iff_iff.2 ?_);simp only [beq_iff_eq,beq_eq_false_iff_ne,ne_eq,decide_eq_true_eq,decide_eq_false_iff_not,Bool.false_eq_true,reduceCtorEq,false_iff,true_iff,iff_false,iff_true] at *;omega)
theorem zx {e:Ev} (hr:0≤e.k) (Q:Exit→St→Prop)
 (hQ:∀ st,st.res pr35=some [pB (decide (e.k=0∧e.n=0))]→Q .ret st) (st:St)
 (h1:st.sl 1=.b (.one (.ptr 1 1 0))) (g1:st.gen 1=1) (o1:st.ob 1=.cells (e.row.map .d)) :
 pwp bR pc35c0 (exS bR [] Q) st:=by
 simp only [Ev.row,List.map_cons,List.map_nil] at o1;unfold pc35c0;simp only [↓evP,evB,stB,reduceIte,reduceCtorEq,Nat.reduceEqDiff,Nat.reduceAdd,Nat.reduceMul,Nat.reduceLeDiff,Nat.reduceLT,Nat.reduceSub,Nat.reduceBEq,h1,g1,o1]
 repeat' (first | apply And.intro | intro)
 all_goals (refine hQ _ ?_;simp only [stB,reduceIte,reduceCtorEq,Nat.reduceEqDiff,Nat.reduceAdd,Nat.reduceMul,Nat.reduceLeDiff,Nat.reduceLT,Nat.reduceSub,Nat.reduceBEq,pr35];refine congrArg (fun b=>some [pB b]) (Bool.eq_iff_iff.2 ?_);simp only [beq_iff_eq,beq_eq_false_iff_ne,ne_eq,decide_eq_true_eq,decide_eq_false_iff_not,Bool.false_eq_true,reduceCtorEq,false_iff,true_iff,iff_false,iff_true] at *;omega)
theorem tN {e:Ev} (hk:1≤e.kind) (hk2:e.kind≤20) (hr:dN e.k=true) (Q:Exit→St→Prop)
 (hQ:∀ st,st.res pr35=some [pB e.rest]→Q .ret st) (st:St)
 (h1:st.sl 1=.b (.one (.ptr 1 1 0))) (g1:st.gen 1=1) (o1:st.ob 1=.cells (e.row.map .d)) :
 pwp bR pc35c7 (exS bR [] Q) st:=by
 have o1':=o1;simp only [Ev.row,List.map_cons,List.map_nil] at o1;have hr':0≤e.k:=by unfold dN at hr;simp at hr;omega
 unfold pc35c7 pc35c6
 cases k14:(e.kind == 14) with
 | true =>
   simp only [↓evP,evB,stB,reduceIte,reduceCtorEq,Nat.reduceEqDiff,Nat.reduceAdd,Nat.reduceMul,Nat.reduceLeDiff,Nat.reduceLT,Nat.reduceSub,Nat.reduceBEq,h1,g1,o1,k14];have hre:e.rest=decide (e.obj=0∧e.off=0∧e.n=0∧1≤e.k∧e.k < 8):=by unfold Ev.rest;rw [if_pos (beq_iff_eq.1 k14)]
   rw [hre] at hQ;exact zy hr' Q hQ _ (by simp only [stB,reduceIte,reduceCtorEq,Nat.reduceEqDiff,Nat.reduceAdd,Nat.reduceMul,Nat.reduceLeDiff,Nat.reduceLT,Nat.reduceSub,Nat.reduceBEq,h1]) (by simp only [stB,reduceIte,reduceCtorEq,Nat.reduceEqDiff,Nat.reduceAdd,Nat.reduceMul,Nat.reduceLeDiff,Nat.reduceLT,Nat.reduceSub,Nat.reduceBEq,g1]) (by simp only [stB,reduceIte,reduceCtorEq,Nat.reduceEqDiff,Nat.reduceAdd,Nat.reduceMul,Nat.reduceLeDiff,Nat.reduceLT,Nat.reduceSub,Nat.reduceBEq,o1,Ev.row])
 | false =>
 have n14:=beq_eq_false_iff_ne.1 k14
 cases k15:(e.kind == 15) with
 | true =>
   simp only [↓evP,evB,stB,reduceIte,reduceCtorEq,Nat.reduceEqDiff,Nat.reduceAdd,Nat.reduceMul,Nat.reduceLeDiff,Nat.reduceLT,Nat.reduceSub,Nat.reduceBEq,h1,g1,o1,k14];unfold pc35c5;simp only [↓evP,evB,stB,reduceIte,reduceCtorEq,Nat.reduceEqDiff,Nat.reduceAdd,Nat.reduceMul,Nat.reduceLeDiff,Nat.reduceLT,Nat.reduceSub,Nat.reduceBEq,h1,g1,o1,k14,k15];have hre:e.rest=decide (e.off=0∧e.n≤64):=by unfold Ev.rest;rw [if_neg n14,if_pos (by have:=beq_iff_eq.1 k15;omega)]
   rw [hre] at hQ;exact jR hr' Q hQ _ (by simp only [stB,reduceIte,reduceCtorEq,Nat.reduceEqDiff,Nat.reduceAdd,Nat.reduceMul,Nat.reduceLeDiff,Nat.reduceLT,Nat.reduceSub,Nat.reduceBEq,h1]) (by simp only [stB,reduceIte,reduceCtorEq,Nat.reduceEqDiff,Nat.reduceAdd,Nat.reduceMul,Nat.reduceLeDiff,Nat.reduceLT,Nat.reduceSub,Nat.reduceBEq,g1]) (by simp only [stB,reduceIte,reduceCtorEq,Nat.reduceEqDiff,Nat.reduceAdd,Nat.reduceMul,Nat.reduceLeDiff,Nat.reduceLT,Nat.reduceSub,Nat.reduceBEq,o1,Ev.row])
 | false =>
 have n15:=beq_eq_false_iff_ne.1 k15
 cases k16:(e.kind == 16) with
 | true =>
   simp only [↓evP,evB,stB,reduceIte,reduceCtorEq,Nat.reduceEqDiff,Nat.reduceAdd,Nat.reduceMul,Nat.reduceLeDiff,Nat.reduceLT,Nat.reduceSub,Nat.reduceBEq,h1,g1,o1,k14];unfold pc35c5;simp only [↓evP,evB,stB,reduceIte,reduceCtorEq,Nat.reduceEqDiff,Nat.reduceAdd,Nat.reduceMul,Nat.reduceLeDiff,Nat.reduceLT,Nat.reduceSub,Nat.reduceBEq,h1,g1,o1,k14,k15,k16];have hre:e.rest=decide (e.off=0∧e.n≤64):=by unfold Ev.rest;rw [if_neg n14,if_pos (by have:=beq_iff_eq.1 k16;omega)]
   rw [hre] at hQ;exact jR hr' Q hQ _ (by simp only [stB,reduceIte,reduceCtorEq,Nat.reduceEqDiff,Nat.reduceAdd,Nat.reduceMul,Nat.reduceLeDiff,Nat.reduceLT,Nat.reduceSub,Nat.reduceBEq,h1]) (by simp only [stB,reduceIte,reduceCtorEq,Nat.reduceEqDiff,Nat.reduceAdd,Nat.reduceMul,Nat.reduceLeDiff,Nat.reduceLT,Nat.reduceSub,Nat.reduceBEq,g1]) (by simp only [stB,reduceIte,reduceCtorEq,Nat.reduceEqDiff,Nat.reduceAdd,Nat.reduceMul,Nat.reduceLeDiff,Nat.reduceLT,Nat.reduceSub,Nat.reduceBEq,o1,Ev.row])
 | false =>
 have n16:=beq_eq_false_iff_ne.1 k16
 cases k17:(e.kind == 17) with
 | true =>
   simp only [↓evP,evB,stB,reduceIte,reduceCtorEq,Nat.reduceEqDiff,Nat.reduceAdd,Nat.reduceMul,Nat.reduceLeDiff,Nat.reduceLT,Nat.reduceSub,Nat.reduceBEq,h1,g1,o1,k14];unfold pc35c5;simp only [↓evP,evB,stB,reduceIte,reduceCtorEq,Nat.reduceEqDiff,Nat.reduceAdd,Nat.reduceMul,Nat.reduceLeDiff,Nat.reduceLT,Nat.reduceSub,Nat.reduceBEq,h1,g1,o1,k14,k15,k16,k17];have hre:e.rest=decide (e.off=0∧e.n≤64):=by unfold Ev.rest;rw [if_neg n14,if_pos (by have:=beq_iff_eq.1 k17;omega)]
   rw [hre] at hQ;exact jR hr' Q hQ _ (by simp only [stB,reduceIte,reduceCtorEq,Nat.reduceEqDiff,Nat.reduceAdd,Nat.reduceMul,Nat.reduceLeDiff,Nat.reduceLT,Nat.reduceSub,Nat.reduceBEq,h1]) (by simp only [stB,reduceIte,reduceCtorEq,Nat.reduceEqDiff,Nat.reduceAdd,Nat.reduceMul,Nat.reduceLeDiff,Nat.reduceLT,Nat.reduceSub,Nat.reduceBEq,g1]) (by simp only [stB,reduceIte,reduceCtorEq,Nat.reduceEqDiff,Nat.reduceAdd,Nat.reduceMul,Nat.reduceLeDiff,Nat.reduceLT,Nat.reduceSub,Nat.reduceBEq,o1,Ev.row])
 | false =>
 have n17:=beq_eq_false_iff_ne.1 k17
 cases k18:(e.kind == 18) with
 | true =>
   simp only [↓evP,evB,stB,reduceIte,reduceCtorEq,Nat.reduceEqDiff,Nat.reduceAdd,Nat.reduceMul,Nat.reduceLeDiff,Nat.reduceLT,Nat.reduceSub,Nat.reduceBEq,h1,g1,o1,k14];unfold pc35c5;simp only [↓evP,evB,stB,reduceIte,reduceCtorEq,Nat.reduceEqDiff,Nat.reduceAdd,Nat.reduceMul,Nat.reduceLeDiff,Nat.reduceLT,Nat.reduceSub,Nat.reduceBEq,h1,g1,o1,k14,k15,k16,k17,k18];have hre:e.rest=decide (e.off=0∧e.n≤64):=by unfold Ev.rest;rw [if_neg n14,if_pos (by have:=beq_iff_eq.1 k18;omega)]
   rw [hre] at hQ;exact jR hr' Q hQ _ (by simp only [stB,reduceIte,reduceCtorEq,Nat.reduceEqDiff,Nat.reduceAdd,Nat.reduceMul,Nat.reduceLeDiff,Nat.reduceLT,Nat.reduceSub,Nat.reduceBEq,h1]) (by simp only [stB,reduceIte,reduceCtorEq,Nat.reduceEqDiff,Nat.reduceAdd,Nat.reduceMul,Nat.reduceLeDiff,Nat.reduceLT,Nat.reduceSub,Nat.reduceBEq,g1]) (by simp only [stB,reduceIte,reduceCtorEq,Nat.reduceEqDiff,Nat.reduceAdd,Nat.reduceMul,Nat.reduceLeDiff,Nat.reduceLT,Nat.reduceSub,Nat.reduceBEq,o1,Ev.row])
 | false =>
 have n18:=beq_eq_false_iff_ne.1 k18
 cases k19:(e.kind == 19) with
 | true =>
   simp only [↓evP,evB,stB,reduceIte,reduceCtorEq,Nat.reduceEqDiff,Nat.reduceAdd,Nat.reduceMul,Nat.reduceLeDiff,Nat.reduceLT,Nat.reduceSub,Nat.reduceBEq,h1,g1,o1,k14];unfold pc35c5;simp only [↓evP,evB,stB,reduceIte,reduceCtorEq,Nat.reduceEqDiff,Nat.reduceAdd,Nat.reduceMul,Nat.reduceLeDiff,Nat.reduceLT,Nat.reduceSub,Nat.reduceBEq,h1,g1,o1,k14,k15,k16,k17,k18];unfold pc35c4;simp only [↓evP,evB,stB,reduceIte,reduceCtorEq,Nat.reduceEqDiff,Nat.reduceAdd,Nat.reduceMul,Nat.reduceLeDiff,Nat.reduceLT,Nat.reduceSub,Nat.reduceBEq,h1,g1,o1,k14,k15,k16,k17,k18,k19];have hre:e.rest=decide (e.off=0∧e.n≤64∧e.k=0):=by unfold Ev.rest;rw [if_neg n14,if_neg (by omega),if_pos (by have:=beq_iff_eq.1 k19;omega)]
   rw [hre] at hQ;exact qI hr' Q hQ _ (by simp only [stB,reduceIte,reduceCtorEq,Nat.reduceEqDiff,Nat.reduceAdd,Nat.reduceMul,Nat.reduceLeDiff,Nat.reduceLT,Nat.reduceSub,Nat.reduceBEq,h1]) (by simp only [stB,reduceIte,reduceCtorEq,Nat.reduceEqDiff,Nat.reduceAdd,Nat.reduceMul,Nat.reduceLeDiff,Nat.reduceLT,Nat.reduceSub,Nat.reduceBEq,g1]) (by simp only [stB,reduceIte,reduceCtorEq,Nat.reduceEqDiff,Nat.reduceAdd,Nat.reduceMul,Nat.reduceLeDiff,Nat.reduceLT,Nat.reduceSub,Nat.reduceBEq,o1,Ev.row])
 | false =>
 have n19:=beq_eq_false_iff_ne.1 k19
 cases k20:(e.kind == 20) with
 | true =>
   simp only [↓evP,evB,stB,reduceIte,reduceCtorEq,Nat.reduceEqDiff,Nat.reduceAdd,Nat.reduceMul,Nat.reduceLeDiff,Nat.reduceLT,Nat.reduceSub,Nat.reduceBEq,h1,g1,o1,k14];unfold pc35c5;simp only [↓evP,evB,stB,reduceIte,reduceCtorEq,Nat.reduceEqDiff,Nat.reduceAdd,Nat.reduceMul,Nat.reduceLeDiff,Nat.reduceLT,Nat.reduceSub,Nat.reduceBEq,h1,g1,o1,k14,k15,k16,k17,k18];unfold pc35c4;simp only [↓evP,evB,stB,reduceIte,reduceCtorEq,Nat.reduceEqDiff,Nat.reduceAdd,Nat.reduceMul,Nat.reduceLeDiff,Nat.reduceLT,Nat.reduceSub,Nat.reduceBEq,h1,g1,o1,k14,k15,k16,k17,k18,k19,k20];have hre:e.rest=decide (e.off=0∧e.n≤64∧e.k=0):=by unfold Ev.rest;rw [if_neg n14,if_neg (by omega),if_pos (by have:=beq_iff_eq.1 k20;omega)]
   rw [hre] at hQ;exact qI hr' Q hQ _ (by simp only [stB,reduceIte,reduceCtorEq,Nat.reduceEqDiff,Nat.reduceAdd,Nat.reduceMul,Nat.reduceLeDiff,Nat.reduceLT,Nat.reduceSub,Nat.reduceBEq,h1]) (by simp only [stB,reduceIte,reduceCtorEq,Nat.reduceEqDiff,Nat.reduceAdd,Nat.reduceMul,Nat.reduceLeDiff,Nat.reduceLT,Nat.reduceSub,Nat.reduceBEq,g1]) (by simp only [stB,reduceIte,reduceCtorEq,Nat.reduceEqDiff,Nat.reduceAdd,Nat.reduceMul,Nat.reduceLeDiff,Nat.reduceLT,Nat.reduceSub,Nat.reduceBEq,o1,Ev.row])
 | false =>
 have n20:=beq_eq_false_iff_ne.1 k20;simp only [↓evP,evB,stB,reduceIte,reduceCtorEq,Nat.reduceEqDiff,Nat.reduceAdd,Nat.reduceMul,Nat.reduceLeDiff,Nat.reduceLT,Nat.reduceSub,Nat.reduceBEq,h1,g1,o1,k14];unfold pc35c5;simp only [↓evP,evB,stB,reduceIte,reduceCtorEq,Nat.reduceEqDiff,Nat.reduceAdd,Nat.reduceMul,Nat.reduceLeDiff,Nat.reduceLT,Nat.reduceSub,Nat.reduceBEq,h1,g1,o1,k14,k15,k16,k17,k18];unfold pc35c4;simp only [↓evP,evB,stB,reduceIte,reduceCtorEq,Nat.reduceEqDiff,Nat.reduceAdd,Nat.reduceMul,Nat.reduceLeDiff,Nat.reduceLT,Nat.reduceSub,Nat.reduceBEq,h1,g1,o1,k14,k15,k16,k17,k18,k19,k20];have hre:e.rest=decide (e.k=0∧e.n=0):=by unfold Ev.rest;rw [if_neg n14,if_neg (by omega),if_neg (by omega)]
 rw [hre] at hQ;exact zx hr' Q hQ _ (by simp only [stB,reduceIte,reduceCtorEq,Nat.reduceEqDiff,Nat.reduceAdd,Nat.reduceMul,Nat.reduceLeDiff,Nat.reduceLT,Nat.reduceSub,Nat.reduceBEq,h1]) (by simp only [stB,reduceIte,reduceCtorEq,Nat.reduceEqDiff,Nat.reduceAdd,Nat.reduceMul,Nat.reduceLeDiff,Nat.reduceLT,Nat.reduceSub,Nat.reduceBEq,g1]) (by simp only [stB,reduceIte,reduceCtorEq,Nat.reduceEqDiff,Nat.reduceAdd,Nat.reduceMul,Nat.reduceLeDiff,Nat.reduceLT,Nat.reduceSub,Nat.reduceBEq,o1,Ev.row])
theorem GK (bs:ByteArray):∀ n i r,bs.size - i=n→ByteArray.toList.loop bs i r=r.reverse ++ bs.data.toList.drop i:=by
 intro n
 induction n with
 | zero =>
   intro i r h;unfold ByteArray.toList.loop;rw [if_neg (by omega),List.drop_eq_nil_of_le (by show bs.data.toList.length≤i;rw [Array.length_toList];show bs.size≤i;omega),List.append_nil]
 | succ n ih =>
   intro i r h;have hi:i < bs.data.toList.length:=by rw [Array.length_toList];show i < bs.size;omega
   unfold ByteArray.toList.loop;rw [if_pos (by omega),ih (i+1) _ (by omega),List.drop_eq_getElem_cons hi,List.reverse_cons,List.append_assoc]
   congr 1
   show bs.get! i :: _=_
   congr 1
   show bs.data[i]! = _
   rw [getElem!_pos bs.data i (by simpa using hi)];rfl
theorem nV (bs:ByteArray):bs.toList=bs.data.toList:=by
 unfold ByteArray.toList;rw [GK bs _ 0 [] rfl];rfl
def Ev.fields (e:Ev):List Int:=[e.obj,e.off,e.k,e.n,e.fn,e.pc,e.stack]
def Dv (k:Int):ByteArray:=if k < 1∨20 < k then ⟨#[]⟩ else (iB[k.toNat]?).getD ⟨#[]⟩
theorem o7 (k:Int):((Dv k).toList == (⟨#[]⟩:ByteArray).toList)=!fK k:=by
 unfold Dv fK
 by_cases h:k < 1∨20 < k
 ·rw [if_pos h,decide_eq_false (by omega),nV];decide
 ·rw [if_neg h,decide_eq_true (by omega)];obtain ⟨m,rfl⟩:=Int.eq_ofNat_of_zero_le (show 0≤k by omega);rw [Int.toNat_natCast];have:∀ m:Fin 21,1≤m.val→(((iB[m.val]?).getD ⟨#[]⟩).data.toList == (⟨#[]⟩:ByteArray).data.toList)=false:=by decide +kernel
  rw [nV,nV];exact this ⟨m,by omega⟩ (by show 1≤m;omega)
theorem Ev.valid_eq (e:Ev):e.valid=(fK e.kind && decide (0≤e.g∧e.g < 8) && e.fields.all dN && e.rest):=by
 unfold Ev.valid Ev.fields;simp only [List.all_cons,List.all_nil,Bool.and_true,Bool.and_assoc]
theorem C8:Spec Try.prog 35 rJ:=by
 refine sp35 p8 ?_;rintro ps rs ⟨e,rfl,rfl⟩;refine ⟨by simp,?_⟩;unfold pc35;refine aH ?_
 by_cases q1:e.g < 0
 ·have hv:e.valid=false:=by rw [Ev.valid_eq,decide_eq_false (show ¬ (0≤e.g∧e.g < 8) by omega)];simp
  simp only [↓evP,evB,stB,reduceIte,reduceCtorEq,Nat.reduceEqDiff,Nat.reduceAdd,Nat.reduceMul,Nat.reduceLeDiff,Nat.reduceLT,Nat.reduceSub,Nat.reduceBEq,Ev.pa,Ev.row,q1,decide_true,decide_false,hv,pr35]
 by_cases q2:e.g≥8
 ·have hv:e.valid=false:=by rw [Ev.valid_eq,decide_eq_false (show ¬ (0≤e.g∧e.g < 8) by omega)];simp
  simp only [↓evP,evB,stB,reduceIte,reduceCtorEq,Nat.reduceEqDiff,Nat.reduceAdd,Nat.reduceMul,Nat.reduceLeDiff,Nat.reduceLT,Nat.reduceSub,Nat.reduceBEq,Ev.pa,Ev.row,q1,q2,decide_true,decide_false,hv,pr35]
 have hg:decide (0≤e.g∧e.g < 8)=true:=decide_eq_true (by omega);simp only [↓evP,evB,stB,reduceIte,reduceCtorEq,Nat.reduceEqDiff,Nat.reduceAdd,Nat.reduceMul,Nat.reduceLeDiff,Nat.reduceLT,Nat.reduceSub,Nat.reduceBEq,Ev.pa,Ev.row,q1,q2,decide_true,decide_false];refine aC [.one (.sc (.string (Dv e.kind)))] ⟨e.kind,rfl,Dv e.kind,rfl,rfl⟩ ?_
 cases hk:fK e.kind with
 | false =>
   have hv:e.valid=false:=by rw [Ev.valid_eq,hk];rfl
   simp only [↓evP,evB,stB,reduceIte,reduceCtorEq,Nat.reduceEqDiff,Nat.reduceAdd,Nat.reduceMul,Nat.reduceLeDiff,Nat.reduceLT,Nat.reduceSub,Nat.reduceBEq,o7,hk,hv,pr35]
 | true =>
   simp only [↓evP,evB,stB,reduceIte,reduceCtorEq,Nat.reduceEqDiff,Nat.reduceAdd,Nat.reduceMul,Nat.reduceLeDiff,Nat.reduceLT,Nat.reduceSub,Nat.reduceBEq,o7,hk];refine dX [1] [1] (fun st hs ho=>?_);simp only [stB,reduceIte,reduceCtorEq,Nat.reduceEqDiff,Nat.reduceAdd,Nat.reduceMul,Nat.reduceLeDiff,Nat.reduceLT,Nat.reduceSub,Nat.reduceBEq] at hs ho;obtain ⟨g1,o1⟩:=ho;unfold pc35c9;simp only [↓evP,evB,stB,reduceIte,reduceCtorEq,Nat.reduceEqDiff,Nat.reduceAdd,Nat.reduceMul,Nat.reduceLeDiff,Nat.reduceLT,Nat.reduceSub,Nat.reduceBEq,hs,g1,o1];refine dX [1,3] [1,33] (fun st' hs' ho'=>?_);simp only [stB,reduceIte,reduceCtorEq,Nat.reduceEqDiff,Nat.reduceAdd,Nat.reduceMul,Nat.reduceLeDiff,Nat.reduceLT,Nat.reduceSub,Nat.reduceBEq,hs,g1,o1] at hs' ho';clear hs g1 o1;obtain ⟨h1,h3⟩:=hs';obtain ⟨⟨g1,o1⟩,g33,o33⟩:=ho';unfold pc35c8
   simp only [↓evP,evB,stB,reduceIte,reduceCtorEq,Nat.reduceEqDiff,Nat.reduceAdd,Nat.reduceMul,Nat.reduceLeDiff,Nat.reduceLT,Nat.reduceSub,Nat.reduceBEq,h1,h3,g1,o1,g33,o33];refine bH ms35_0 os35_0 (fun m st=>∃ k:Nat,m=7 - k∧k≤7∧(e.fields.take k).all dN=true∧st.sl 4=aI k) 7 ?_ ?_
   ·exact ⟨0,rfl,by omega,rfl,by simp only [stB,reduceIte,reduceCtorEq,Nat.reduceEqDiff,Nat.reduceAdd,Nat.reduceMul,Nat.reduceLeDiff,Nat.reduceLT,Nat.reduceSub,Nat.reduceBEq];rfl⟩
   ·rintro m j ⟨k,rfl,hk7,hall,h4⟩;simp only [stB,reduceIte,reduceCtorEq,Nat.reduceEqDiff,Nat.reduceAdd,Nat.reduceMul,Nat.reduceLeDiff,Nat.reduceLT,Nat.reduceSub,Nat.reduceBEq] at h4
    rcases Nat.lt_or_ge k 7 with hlt | hge
    ·obtain ⟨x,hx⟩:∃ x,e.fields[k]? = some x:=⟨_,List.getElem?_eq_getElem (show k < e.fields.length from hlt)⟩
     have hrow:(e.fields.map fun x=>[dI x])[k]? = some [dI x]:=by rw [List.getElem?_map,hx];rfl
     unfold Ev.fields at hrow;simp only [List.map_cons,List.map_nil] at hrow;have hl7:(k:Int) < ((7:Nat):Int):=by omega
     have hmem:x ∈ e.fields:=List.mem_of_getElem? hx
     by_cases x1:x < 0
     ·have hv:e.valid=false:=by
       rw [Ev.valid_eq,(by rw [List.all_eq_false];exact ⟨x,hmem,by unfold dN;rw [decide_eq_false (by omega)];decide⟩:e.fields.all dN=false)];simp
      simp only [↓evP,evB,stB,reduceIte,reduceCtorEq,Nat.reduceEqDiff,Nat.reduceAdd,Nat.reduceMul,Nat.reduceLeDiff,Nat.reduceLT,Nat.reduceSub,Nat.reduceBEq,h1,h3,g1,o1,h4,g33,o33,hrow,hl7,x1,decide_true,decide_false,hv,pr35]
     by_cases x2:x > 2147483647
     ·have hv:e.valid=false:=by
       rw [Ev.valid_eq,(by rw [List.all_eq_false];exact ⟨x,hmem,by unfold dN;rw [decide_eq_false (by omega)];decide⟩:e.fields.all dN=false)];simp
      simp only [↓evP,evB,stB,reduceIte,reduceCtorEq,Nat.reduceEqDiff,Nat.reduceAdd,Nat.reduceMul,Nat.reduceLeDiff,Nat.reduceLT,Nat.reduceSub,Nat.reduceBEq,h1,h3,g1,o1,h4,g33,o33,hrow,hl7,x1,x2,decide_true,decide_false,hv,pr35]
     simp only [↓evP,evB,stB,reduceIte,reduceCtorEq,Nat.reduceEqDiff,Nat.reduceAdd,Nat.reduceMul,Nat.reduceLeDiff,Nat.reduceLT,Nat.reduceSub,Nat.reduceBEq,h1,h3,g1,o1,h4,g33,o33,hrow,hl7,x1,x2,decide_true,decide_false]
     exact ⟨_,by omega,(by repeat' (first | assumption | exact aP.mpr trivial | exact Within.refl _ _ _ | (refine aT ?_ rfl rfl) | (refine aO ?_ rfl))),k+1,rfl,by omega,by rw [List.take_add_one,hx,List.all_append,hall];simp only [Option.toList_some,List.all_cons,List.all_nil];unfold dN;rw [decide_eq_true (by omega)];rfl,by simp only [stB,reduceIte,reduceCtorEq,Nat.reduceEqDiff,Nat.reduceAdd,Nat.reduceMul,Nat.reduceLeDiff,Nat.reduceLT,Nat.reduceSub,Nat.reduceBEq,h4];rw [wrN (by omega)]⟩
    ·have hk77:k=7:=by omega
     subst hk77;have hl7:¬ ((7:Nat):Int) < ((7:Nat):Int):=by omega
     simp only [↓evP,evB,stB,reduceIte,reduceCtorEq,Nat.reduceEqDiff,Nat.reduceAdd,Nat.reduceMul,Nat.reduceLeDiff,Nat.reduceLT,Nat.reduceSub,Nat.reduceBEq,h1,h3,g1,o1,h4,g33,o33,hl7];have hall':e.fields.all dN=true:=hall;have hk':=hk;unfold fK at hk';have hv:e.valid=e.rest:=by rw [Ev.valid_eq,hk,hg,hall'];rfl
     have hrk:dN e.k=true:=List.all_eq_true.1 hall' _ (by unfold Ev.fields;simp)
     rw [hv];exact tN (of_decide_eq_true hk').1 (of_decide_eq_true hk').2 hrk _ (fun st'' h=>⟨.inr rfl,h⟩) _ (by simp only [stB,reduceIte,reduceCtorEq,Nat.reduceEqDiff,Nat.reduceAdd,Nat.reduceMul,Nat.reduceLeDiff,Nat.reduceLT,Nat.reduceSub,Nat.reduceBEq,h1]) (by simp only [stB,reduceIte,reduceCtorEq,Nat.reduceEqDiff,Nat.reduceAdd,Nat.reduceMul,Nat.reduceLeDiff,Nat.reduceLT,Nat.reduceSub,Nat.reduceBEq,g1]) (by simp only [stB,reduceIte,reduceCtorEq,Nat.reduceEqDiff,Nat.reduceAdd,Nat.reduceMul,Nat.reduceLeDiff,Nat.reduceLT,Nat.reduceSub,Nat.reduceBEq,o1,Ev.row])
end Go.Proofs.Ytkafcpnahpfbfaa
end
section
namespace Go.Proofs.Ytkafcpnahpfbfaa
open Go Go.RowKit
set_option maxRecDepth 1000000
set_option maxHeartbeats 4000000
def zT (ps rs:List Pa):Prop:=∃ (n:Nat) (es:List Ev),ps=[pI n,.one (.im (es.map Ev.row))]∧(es.length≤5000∧n≤2147483648∧∀ e ∈ es,evG e)∧rs=[pI (bn es n:Nat)]
theorem Io:Spec Try.prog 27 zT:=by
 refine sp27 ay.e0 ?_;rintro ps rs ⟨n,es,rfl,⟨hl,hn,hev⟩,rfl⟩;refine ⟨by simp,?_⟩;unfold pc27
 with_reducible refine aH ?_
 have m2:(es.map Ev.row).length=es.length:=List.length_map ..;simp only [↓evP,evB,stB,reduceIte,reduceCtorEq,Nat.reduceEqDiff,Nat.reduceAdd,Nat.reduceMul,Nat.reduceLeDiff,Nat.reduceLT,Nat.reduceSub,Nat.reduceBEq,m2,pr27];refine bH ms27_0 os27_0 (fun m st=>∃ k:Nat,m=es.length - k∧k≤es.length∧st.sl 9=aI k∧st.sl 0=aI (bn (es.take k) n:Nat)) es.length ?_ ?_
 ·exact ⟨0,rfl,Nat.zero_le _,by simp only [stB,reduceIte,reduceCtorEq,Nat.reduceEqDiff,Nat.reduceAdd,Nat.reduceMul,Nat.reduceLeDiff,Nat.reduceLT,Nat.reduceSub,Nat.reduceBEq];rfl,by simp only [stB,reduceIte,reduceCtorEq,Nat.reduceEqDiff,Nat.reduceAdd,Nat.reduceMul,Nat.reduceLeDiff,Nat.reduceLT,Nat.reduceSub,Nat.reduceBEq];rfl⟩
 rintro m z ⟨k,rfl,hk,h9,h0⟩;simp only [stB,reduceIte,reduceCtorEq,Nat.reduceEqDiff,Nat.reduceAdd,Nat.reduceMul,Nat.reduceLeDiff,Nat.reduceLT,Nat.reduceSub,Nat.reduceBEq] at h9 h0
 rcases Nat.lt_or_ge k es.length with hlt | hge
 ·have ge:es[k]? = some (es[k]):=List.getElem?_eq_getElem hlt;generalize es[k]=e at ge;have hst:=hev e (List.mem_of_getElem? ge) e.stack (by simp [Ev.fl]);have lt2:(k:Int) < (es.length:Int):=by omega
  have w2:IntKind.i64.wrap (e.stack+1)=e.stack+1:=fE (by omega) (by omega);have w3:IntKind.i64.wrap ((k:Int)+1)=((k+1:Nat):Int):=by rw [fE (by omega) (by omega)];omega
  have hne:bn (es.take (k+1)) n=max (bn (es.take k) n) (e.stack+1).toNat:=by
   rw [take_at ge,iD];rfl
  have hmax:(if e.stack+1 > ((bn (es.take k) n:Nat):Int) then e.stack+1 else ((bn (es.take k) n:Nat):Int))=((bn (es.take (k+1)) n:Nat):Int):=by
   rw [hne];split <;> omega
  simp only [↓evP,evB,stB,reduceIte,reduceCtorEq,Nat.reduceEqDiff,Nat.reduceAdd,Nat.reduceMul,Nat.reduceLeDiff,Nat.reduceLT,Nat.reduceSub,Nat.reduceBEq,h9,h0,m2,ge,lt2,w2,List.foldl_cons,List.foldl_nil,hmax,Ev.row,decide_true,if_true]
  exact ⟨_,by omega,(by repeat' (first | assumption | exact aP.mpr trivial | exact Within.refl _ _ _ | (refine aT ?_ rfl rfl) | (refine aO ?_ rfl))),k+1,rfl,hlt,by simp only [stB,reduceIte,reduceCtorEq,Nat.reduceEqDiff,Nat.reduceAdd,Nat.reduceMul,Nat.reduceLeDiff,Nat.reduceLT,Nat.reduceSub,Nat.reduceBEq,h9,w3],by simp only [stB,reduceIte,reduceCtorEq,Nat.reduceEqDiff,Nat.reduceAdd,Nat.reduceMul,Nat.reduceLeDiff,Nat.reduceLT,Nat.reduceSub,Nat.reduceBEq];first | done | rw [hmax]⟩
 ·have hke:k=es.length:=by omega
  subst hke;have lt2:¬ (es.length:Int) < (es.length:Int):=by omega
  rw [List.take_length] at h0;simp only [↓evP,evB,stB,reduceIte,reduceCtorEq,Nat.reduceEqDiff,Nat.reduceAdd,Nat.reduceMul,Nat.reduceLeDiff,Nat.reduceLT,Nat.reduceSub,Nat.reduceBEq,h9,h0,m2,lt2,decide_false,pr27]
  first | done | rfl
def zX (ps rs:List Pa):Prop:=∃ s:Int×Int,ps=[.agg (aJ s)]∧rs=[pB (decide (s.1≤2147483647) && decide (s.2≤2147483647))]
theorem Iw:Spec Try.prog 23 zX:=by
 refine sp23 ay.e0 ?_;rintro ps rs ⟨s,rfl,rfl⟩;refine ⟨by simp,?_⟩;unfold pc23
 with_reducible refine aH ?_
 by_cases h1:s.1≤2147483647
 ·simp only [↓evP,evB,stB,reduceIte,reduceCtorEq,Nat.reduceEqDiff,Nat.reduceAdd,Nat.reduceMul,Nat.reduceLeDiff,Nat.reduceLT,Nat.reduceSub,Nat.reduceBEq,aJ,h1,decide_true,pr23]
  first | done | rfl
 ·simp only [↓evP,evB,stB,reduceIte,reduceCtorEq,Nat.reduceEqDiff,Nat.reduceAdd,Nat.reduceMul,Nat.reduceLeDiff,Nat.reduceLT,Nat.reduceSub,Nat.reduceBEq,aJ,h1,decide_false,pr23]
  first | done | rfl
def F5 (ps rs:List Pa):Prop:=∃ s:Int×Int,ps=[.agg (aJ s)]∧rs=[pB (decide (s.1≥0) && decide (s.2≥0))]
theorem KA:Spec Try.prog 55 F5:=by
 refine sp55 ay.e0 ?_;rintro ps rs ⟨s,rfl,rfl⟩;refine ⟨by simp,?_⟩;unfold pc55
 with_reducible refine aH ?_
 by_cases h1:s.1≥0
 ·simp only [↓evP,evB,stB,reduceIte,reduceCtorEq,Nat.reduceEqDiff,Nat.reduceAdd,Nat.reduceMul,Nat.reduceLeDiff,Nat.reduceLT,Nat.reduceSub,Nat.reduceBEq,aJ,h1,decide_true,pr55]
  first | done | rfl
 ·simp only [↓evP,evB,stB,reduceIte,reduceCtorEq,Nat.reduceEqDiff,Nat.reduceAdd,Nat.reduceMul,Nat.reduceLeDiff,Nat.reduceLT,Nat.reduceSub,Nat.reduceBEq,aJ,h1,decide_false,pr55]
  first | done | rfl
def eY:List Nat:=[73,84,82,65,67,69,49,10]
def zW (ps:List Pa) (E sz:Nat) (rows:List (List Dt)):Prop:=ps=[]∧E=5∧sz=1∧rows=byR eY
theorem Ir:uw Try.prog 21 zW:=by
 refine lY ay.e0 cK bA Try.func21 bd21 cp21 (by kernel_rfl) (by kernel_rfl) (t:=0) (by kernel_rfl) ?_;rintro ps E sz rows ⟨rfl,rfl,rfl,rfl⟩;refine ⟨by simp,?_⟩;unfold pc21
 with_reducible refine aH ?_
 simp only [↓evP,evB,stB,reduceIte,reduceCtorEq,Nat.reduceEqDiff,Nat.reduceAdd,Nat.reduceMul,Nat.reduceLeDiff,Nat.reduceLT,Nat.reduceSub,Nat.reduceBEq,byR,eY]
 first | done | (unfold St.Ij;simp only [stB,reduceIte,reduceCtorEq,Nat.reduceEqDiff,Nat.reduceAdd,Nat.reduceMul,Nat.reduceLeDiff,Nat.reduceLT,Nat.reduceSub,Nat.reduceBEq];first | done | rfl) | rfl
end Go.Proofs.Ytkafcpnahpfbfaa
end
