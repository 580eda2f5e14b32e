/- The document's answer for chapter 37, on valid lists: contracts about data. -/
import Derived.Test.YtffcpijeebagfaaMc11
import Derived.OpenShut
set_option linter.unusedSimpArgs false
set_option linter.unusedVariables false
section
namespace Go.Proofs.Ytffcpijeebagfaa
open Go Go.RowKit
set_option maxRecDepth 100000
set_option maxHeartbeats 4000000
def tabPa (l:List Ev):Pa:=.agg [evsD l]
def R_class (ps rs:List Pa):Prop:=∃ k:Int,ps=[pI k]∧rs=[pI (clsOf k)]
theorem s_class:Spec Try.prog 83 R_class:=by
 refine sp83 EnvOK.e0 ?_;rintro ps rs ⟨k,rfl,rfl⟩;refine ⟨by simp,?_⟩;unfold pc83;refine pwp_start ?_;simp only [↓evP,evB,stB,reduceIte,reduceCtorEq,seval,pI];unfold clsOf
 by_cases h7:k=7
 ·subst h7;simp only [↓evP,evB,stB,reduceIte,reduceCtorEq,seval,pI,beq_self_eq_true,pr83,true_or,or_true,if_true]
 have b7:(k == 7)=false:=beq_eq_false_iff_ne.2 h7
 by_cases h9:k=9
 ·subst h9;simp only [↓evP,evB,stB,reduceIte,reduceCtorEq,seval,pI,b7,beq_self_eq_true,pr83,true_or,or_true,if_true]
 have b9:(k == 9)=false:=beq_eq_false_iff_ne.2 h9;rw [if_neg (by omega)]
 by_cases h10:k=10
 ·subst h10;simp only [↓evP,evB,stB,reduceIte,reduceCtorEq,seval,pI,b7,b9,beq_self_eq_true,pr83,true_or,or_true,if_true]
 have b10:(k == 10)=false:=beq_eq_false_iff_ne.2 h10;rw [if_neg h10]
 by_cases h12:k=12
 ·subst h12;simp only [↓evP,evB,stB,reduceIte,reduceCtorEq,seval,pI,b7,b9,b10,beq_self_eq_true,pr83,true_or,or_true,if_true]
 have b12:(k == 12)=false:=beq_eq_false_iff_ne.2 h12;rw [if_neg h12]
 by_cases h4:k=4
 ·subst h4;simp only [↓evP,evB,stB,reduceIte,reduceCtorEq,seval,pI,b7,b9,b10,b12,beq_self_eq_true,pr83,true_or,or_true,if_true]
 have b4:(k == 4)=false:=beq_eq_false_iff_ne.2 h4
 by_cases h5:k=5
 ·subst h5;simp only [↓evP,evB,stB,reduceIte,reduceCtorEq,seval,pI,b7,b9,b10,b12,b4,beq_self_eq_true,pr83,true_or,or_true,if_true]
 have b5:(k == 5)=false:=beq_eq_false_iff_ne.2 h5;rw [if_neg (by omega)]
 by_cases h15:k=15
 ·subst h15;simp only [↓evP,evB,stB,reduceIte,reduceCtorEq,seval,pI,b7,b9,b10,b12,b4,b5,beq_self_eq_true,pr83,true_or,or_true,if_true]
 have b15:(k == 15)=false:=beq_eq_false_iff_ne.2 h15
 by_cases h17:k=17
 ·subst h17;simp only [↓evP,evB,stB,reduceIte,reduceCtorEq,seval,pI,b7,b9,b10,b12,b4,b5,b15,beq_self_eq_true,pr83,true_or,or_true,if_true]
 have b17:(k == 17)=false:=beq_eq_false_iff_ne.2 h17
 by_cases h19:k=19
 ·subst h19;simp only [↓evP,evB,stB,reduceIte,reduceCtorEq,seval,pI,b7,b9,b10,b12,b4,b5,b15,b17,beq_self_eq_true,pr83,true_or,or_true,if_true]
 have b19:(k == 19)=false:=beq_eq_false_iff_ne.2 h19;rw [if_neg (by omega)];simp only [↓evP,evB,stB,reduceIte,reduceCtorEq,seval,pI,b7,b9,b10,b12,b4,b5,b15,b17,b19,pr83]
theorem gor_tab {l:List Ev} (hc:chk l=l.length):gorOf l=(tsAt l l.length).gor:=by
 have hR:∀ k,k≤l.length→∃ r t,RAt l k r t:=fun k=>by
  induction k with
  | zero=>intro _;exact ⟨_,_,RAt.zero l⟩
  | succ k ih =>
    intro hk;obtain ⟨r,t,h⟩:=ih (by omega)
    rcases h.step (evAt_get (l:=l) (i:=k) (by omega)) with ⟨r',t',_,_,h'⟩ | ⟨_,h2,_⟩
    ·exact ⟨r',t',h'⟩
    ·omega
 obtain ⟨r,t,h⟩:=hR l.length (Nat.le_refl _);unfold gorOf;rw [if_pos hc,h.all.2,h.rl.gr];have h1:=tsAt_steps hc (n:=l.length) (Nat.le_refl _);have h2:=h.st;rw [h1] at h2;cases h2;rfl
def R_rtG (ps rs:List Pa):Prop:=∃ l:List Ev,ps=[tabPa l]∧l.length≤1000000∧rs=[pI (gorOf l)]
theorem s_rtG:Spec Try.prog 41 R_rtG:=by
 refine sp41 (show EnvOK Try.prog (e1 82 R_rgor e0) from EnvOK.e1 s_rgor EnvOK.e0) ?_;rintro ps rs ⟨l,rfl,hl,rfl⟩;refine ⟨by simp,?_⟩;unfold pc41;refine pwp_start ?_;simp only [↓evP,evB,stB,reduceIte,reduceCtorEq,seval,tabPa,evsD];refine callOps_intro [pI (gorOf l)] ⟨l,rfl,hl,rfl⟩ ?_;simp only [↓evP,evB,stB,reduceIte,reduceCtorEq,seval,pI,pr41]
def R_rtC (ps rs:List Pa):Prop:=∃ (l:List Ev) (g:Int),ps=[tabPa l,pI g]∧(chk l=l.length∧l.length≤1000)∧rs=[ckPa (clkR l g l.length)]
theorem s_rtC:Spec Try.prog 39 R_rtC:=by
 refine sp39 (show EnvOK Try.prog (e1 29 R_Stamps e0) from EnvOK.e1 s_rStamps EnvOK.e0) ?_;rintro ps rs ⟨l,g,rfl,⟨hc,hl⟩,rfl⟩;refine ⟨by simp,?_⟩;unfold pc39;refine pwp_start ?_;simp only [↓evP,evB,stB,reduceIte,reduceCtorEq,seval,tabPa,evsD,pI];refine callOps_intro [cksPa (stOf l),pI (errOf l)] ⟨l,rfl,by omega,rfl⟩ ?_;have hs:stOf l=stampsL l:=by unfold stOf;rw [if_pos hc]
 have he1:errOf l=0:=by unfold errOf;rw [if_pos hc]
 rw [hs,he1];have hw0:IntKind.i64.wrap ((l.length:Int) - 1)=(l.length:Int) - 1:=wr64 (by omega) (by omega);simp only [↓evP,evB,stB,reduceIte,reduceCtorEq,seval,cksPa,pI,hw0];refine pwp_loopW ms39_0 os39_0 (fun m st=>m≤l.length∧st.sl 7=aI ((m:Int) - 1)∧clkR l g l.length=clkR l g m∧st.gen 4=1∧st.ob 4=.cells [.d (.sc (.int .i64 0)),.d (.sc (.int .i64 0)),.d (.sc (.int .i64 0)),.d (.sc (.int .i64 0)),.d (.sc (.int .i64 0)),.d (.sc (.int .i64 0)),.d (.sc (.int .i64 0)),.d (.sc (.int .i64 0))]) l.length ?_ ?_
 ·exact ⟨Nat.le_refl _,by simp only [stB,reduceIte,reduceCtorEq,seval],rfl,by simp only [stB,reduceIte,reduceCtorEq,seval],by simp only [stB,reduceIte,reduceCtorEq,seval]⟩
 ·rintro m j ⟨hm,h7,hk,g4,o4⟩;simp only [stB,reduceIte,reduceCtorEq,seval] at h7 g4 o4
  cases m with
  | zero =>
    have n0:¬ ((0:Nat):Int) - 1≥0:=by omega
    simp only [↓evP,evB,stB,reduceIte,reduceCtorEq,seval,h7,g4,o4,n0,decide_false,pr39];exact congrArg (fun c=>some [ckPa c]) hk.symm
  | succ i =>
    have hi:i < l.length:=by omega
    have ei:=evAt_get hi;have si:=stp_get (l:=l) hi;have hx:((i+1:Nat):Int) - 1=(i:Int):=by omega
    rw [hx] at h7;have i0:(0:Int)≤(i:Int):=by omega
    have ige:(i:Int)≥0:=by omega
    have hw:IntKind.i64.wrap ((i:Int) - 1)=(i:Int) - 1:=wr64 (by omega) (by omega);have e1:(ckRow (stp l i)).length=8:=by unfold ckRow;rw [List.length_map,stp_len]
    obtain ⟨d1,d2⟩:=ckLd (stp_len (l:=l) (j:=i));have k1:(ckCells (stp l i)).length=8:=by rw [ckCells_length,stp_len]
    have k3:8≤(ckCells (stp l i)).length:=by omega
    have v1:=wr_new8 (stp_len (l:=l) (j:=i))
    cases b1:((evAt l i).g == g) with
    | true =>
      have hres:clkR l g l.length=stp l i:=hk.trans (if_pos (.inl (eq_of_beq b1)));rw [hres];simp only [↓evP,evB,stB,reduceIte,reduceCtorEq,seval,h7,g4,o4,i0,ige,ei,si,Ev.row,e1,d1,d2,k1,k3,b1,ckRow_cells,decide_true,v1,ckCells_dt,pr39];rfl
    | false =>
      cases b2:((evAt l i).kind == 14) with
      | true =>
        cases b3:((evAt l i).k == g) with
        | true =>
          have hres:clkR l g l.length=stp l i:=hk.trans (if_pos (.inr ⟨eq_of_beq b2,eq_of_beq b3⟩));rw [hres];simp only [↓evP,evB,stB,reduceIte,reduceCtorEq,seval,h7,g4,o4,i0,ige,ei,si,Ev.row,e1,d1,d2,k1,k3,ckRow_cells,decide_true,v1,hw,b1,b2,b3,ckCells_dt,pr39];rfl
        | false =>
          have hres:clkR l g l.length=clkR l g i:=hk.trans (if_neg (fun q=>q.elim (fun q=>by rw [q] at b1;simp at b1) (fun q=>by rw [q.2] at b3;simp at b3)))
          simp only [↓evP,evB,stB,reduceIte,reduceCtorEq,seval,h7,g4,o4,i0,ige,ei,si,Ev.row,e1,d1,d2,k1,k3,ckRow_cells,decide_true,v1,hw,b1,b2,b3]
          exact ⟨i,by omega,(by repeat' (first | assumption | exact within_over.mpr trivial | exact Within.refl _ _ _ | (refine within_ap ?_ rfl rfl) | (refine within_ap0 ?_ rfl))),by omega,by simp only [stB,reduceIte,reduceCtorEq,seval],hres,by simp only [stB,reduceIte,reduceCtorEq,seval,g4],by simp only [stB,reduceIte,reduceCtorEq,seval,o4]⟩
      | false =>
        have hres:clkR l g l.length=clkR l g i:=hk.trans (if_neg (fun q=>q.elim (fun q=>by rw [q] at b1;simp at b1) (fun q=>by rw [q.1] at b2;simp at b2)))
        simp only [↓evP,evB,stB,reduceIte,reduceCtorEq,seval,h7,g4,o4,i0,ige,ei,si,Ev.row,e1,d1,d2,k1,k3,ckRow_cells,decide_true,v1,hw,b1,b2]
        exact ⟨i,by omega,(by repeat' (first | assumption | exact within_over.mpr trivial | exact Within.refl _ _ _ | (refine within_ap ?_ rfl rfl) | (refine within_ap0 ?_ rfl))),by omega,by simp only [stB,reduceIte,reduceCtorEq,seval],hres,by simp only [stB,reduceIte,reduceCtorEq,seval,g4],by simp only [stB,reduceIte,reduceCtorEq,seval,o4]⟩
def okN (l:List Ev) (e:Ev):Prop:=e.valid=true∧chk (l ++ [e])=(l ++ [e]).length
instance (l:List Ev) (e:Ev):Decidable (okN l e):=inferInstanceAs (Decidable (_∧_))
def nxtL (l:List Ev) (e:Ev):List Ev:=if okN l e then l ++ [e] else l
def nxtC (l:List Ev) (e:Ev):Ck:=if okN l e then stp (l ++ [e]) l.length else ckZ
def nxtE (l:List Ev) (e:Ev):Int:=if okN l e then 0 else if e.valid=true then 11 else 1
def R_rtA (ps rs:List Pa):Prop:=∃ (l:List Ev) (e:Ev),ps=[tabPa l,e.pa]∧l.length≤1000∧rs=[tabPa (nxtL l e),ckPa (nxtC l e),pI (nxtE l e)]
theorem s_rtA:Spec Try.prog 38 R_rtA:=by
 refine sp38 (show EnvOK Try.prog (e1 64 R_valid20 (e1 29 R_Stamps e0)) from EnvOK.e1 s_valid20 (EnvOK.e1 s_rStamps EnvOK.e0)) ?_;rintro ps rs ⟨l,e,rfl,hl,rfl⟩;refine ⟨by simp,?_⟩;unfold pc38;refine pwp_start ?_;simp only [↓evP,evB,stB,reduceIte,reduceCtorEq,seval,tabPa,evsD,Ev.pa,Ev.row];refine callOps_intro [pB e.valid] ⟨e,rfl,rfl⟩ ?_
 cases hv:e.valid with
 | false =>
   have hn:¬ okN l e:=fun q=>by have:=q.1;rw [hv] at this;cases this
   have e1:nxtL l e=l:=if_neg hn;have e2:nxtC l e=ckZ:=if_neg hn;have e3:nxtE l e=1:=by unfold nxtE;rw [if_neg hn,if_neg (by rw [hv];decide)]
   simp only [↓evP,evB,stB,reduceIte,reduceCtorEq,seval,tabPa,evsD,e1,e2,e3,pr38];rfl
 | true =>
   have hall:=rows_len (f:=Ev.row) (n:=9) (fun _=>rfl) l;have htk:(l.map Ev.row).take l.length=l.map Ev.row:=List.take_of_length_le (by rw [List.length_map];exact Nat.le_refl _)
   have hmap:l.map Ev.row ++ [[dI e.g,dI e.kind,dI e.obj,dI e.off,dI e.k,dI e.n,dI e.fn,dI e.pc,dI e.stack]]=(l ++ [e]).map Ev.row:=by rw [List.map_append];rfl
   have hl0:l.length≤1000000:=by omega
   have hle:(l ++ [e]).length=l.length+1:=by rw [List.length_append];rfl
   have hl1:l.length+1≤1000000:=by omega
   simp only [↓evP,evB,stB,reduceIte,reduceCtorEq,seval,evsD,Ev.row,hall,htk,hl0,hl1,hmap];refine ⟨(by unfold Drw;refine Eq.trans (b:=true) ?_ rfl;kernel_rfl),?_⟩
   refine callOps_intro [cksPa (stOf (l ++ [e])),pI (errOf (l ++ [e]))] ⟨l ++ [e],rfl,by rw [hle];exact hl1,rfl⟩ ?_
   by_cases hc:chk (l ++ [e])=(l ++ [e]).length
   ·have hn:okN l e:=⟨hv,hc⟩;have e1:nxtL l e=l ++ [e]:=if_pos hn;have e2:nxtC l e=stp (l ++ [e]) l.length:=if_pos hn;have e3:nxtE l e=0:=if_pos hn;have hs:stOf (l ++ [e])=stampsL (l ++ [e]):=by unfold stOf;rw [if_pos hc]
    have he1:errOf (l ++ [e])=0:=by unfold errOf;rw [if_pos hc]
    rw [hs,he1];have hsl:=stampsL_length (l ++ [e]);rw [hle] at hsl;have hw:IntKind.i64.wrap (((l.length+1:Nat):Int) - 1)=(l.length:Int):=by rw [wr64 (by omega) (by omega)];omega
    have i0:(0:Int)≤(l.length:Int):=by omega
    have si:=stp_get (l:=l ++ [e]) (i:=l.length) (by omega);have r8:(ckRow (stp (l ++ [e]) l.length)).length=8:=by unfold ckRow;rw [List.length_map,stp_len]
    obtain ⟨d1,d2⟩:=ckLd (stp_len (l:=l ++ [e]) (j:=l.length));have k1:(ckCells (stp (l ++ [e]) l.length)).length=8:=by rw [ckCells_length,stp_len]
    have k3:8≤(ckCells (stp (l ++ [e]) l.length)).length:=by omega
    have v1:=wr_new8 (stp_len (l:=l ++ [e]) (j:=l.length));simp only [↓evP,evB,stB,reduceIte,reduceCtorEq,seval,cksPa,pI,hsl,hw,i0,si,r8,d1,d2,k1,k3,v1,ckRow_cells,ckCells_dt,hmap,bne_self_eq_false,pr38];exact ⟨(by unfold Drw;refine Eq.trans (b:=true) ?_ rfl;kernel_rfl),by rw [e1,e2,e3];rfl⟩
   ·have hn:¬ okN l e:=fun q=>hc q.2
    have e1:nxtL l e=l:=if_neg hn;have e2:nxtC l e=ckZ:=if_neg hn;have e3:nxtE l e=11:=by unfold nxtE;rw [if_neg hn,if_pos hv]
    have hs:stOf (l ++ [e])=[]:=by unfold stOf;rw [if_neg hc]
    have he1:errOf (l ++ [e])=1:=by unfold errOf;rw [if_neg hc]
    rw [hs,he1];simp only [↓evP,evB,stB,reduceIte,reduceCtorEq,seval,cksPa,pI,tabPa,evsD,e1,e2,e3,pr38];rfl
theorem freshD_succ (l:List Ev) (i k:Nat):freshD l i (k+1)=(freshD l i k && decide (triOf (evAt l k)≠triOf (evAt l i))):=by
 unfold freshD;rw [Bool.and_assoc]
 congr 1
 rw [←Bool.decide_and,decide_eq_decide];refine ⟨fun h=>⟨fun m hm=>h m (by omega),h k (by omega)⟩,fun ⟨h1,h2⟩ m hm=>?_⟩
 rcases Nat.lt_or_eq_of_le (Nat.le_of_lt_succ hm) with q | q
 ·exact h1 m q
 ·rw [q];exact h2
theorem tri_ne {a b:Ev}:decide (triOf a≠triOf b)=((clsOf a.kind != clsOf b.kind) || ((a.obj != b.obj) || (a.off != b.off))):=by
 rw [Bool.eq_iff_iff];unfold triOf;simp only [decide_eq_true_eq,Bool.or_eq_true,bne_iff_ne,ne_eq,Prod.mk.injEq];omega
theorem objC_le (l:List Ev) (i:Nat):objC l i≤i:=by
 induction i with
 | zero=>exact Nat.le_refl _
 | succ i ih=>unfold objC;split <;> omega
def R_rtO (ps rs:List Pa):Prop:=∃ l:List Ev,ps=[tabPa l]∧l.length≤1000∧rs=[pI (objC l l.length)]
theorem s_rtO:Spec Try.prog 43 R_rtO:=by
 refine sp43 (show EnvOK Try.prog (e1 83 R_class e0) from EnvOK.e1 s_class EnvOK.e0) ?_;rintro ps rs ⟨l,rfl,hl,rfl⟩;refine ⟨by simp,?_⟩;unfold pc43;refine pwp_start ?_;simp only [↓evP,evB,stB,reduceIte,reduceCtorEq,seval,tabPa,evsD];refine pwp_fresh [1,3,4] [1] (fun S hs ho=>?_);simp only [stB,reduceIte,reduceCtorEq,seval] at hs ho;obtain ⟨q1,q3,q4⟩:=hs;obtain ⟨r1,t1⟩:=ho;refine pwp_loopW ms43_0 os43_0 (fun m st=>∃ i:Nat,m=l.length - i∧i≤l.length∧st.sl 4=aI i∧st.sl 3=aI (objC l i)) l.length ?_ ?_
 ·exact ⟨0,rfl,Nat.zero_le _,q4,q3⟩
 ·rintro m z ⟨i,rfl,hi,h4,h3⟩;simp only [stB,reduceIte,reduceCtorEq,seval] at h4 h3
  rcases Nat.lt_or_ge i l.length with hlt | hge
  ·have hlt':(i:Int) < (l.length:Int):=by omega
   have i0:(0:Int)≤(i:Int):=by omega
   have ei:=evAt_get hlt;simp only [↓evP,evB,stB,reduceIte,reduceCtorEq,seval,q1,r1,t1,h4,h3,hlt',i0,ei,Ev.row,decide_true];refine callOps_intro [pI (clsOf (evAt l i).kind)] ⟨_,rfl,rfl⟩ ?_
   have hf0:decide (clsOf (evAt l i).kind > 0)=freshD l i 0:=by
    unfold freshD;simp
   simp only [↓evP,evB,stB,reduceIte,reduceCtorEq,seval,pI,q1,r1,t1,h4,h3,hf0]
   refine pwp_freshP (fun st=>Within ms43_0 os43_0 S st) (by repeat' (first | assumption | exact within_over.mpr trivial | exact Within.refl _ _ _ | (refine within_ap ?_ rfl rfl) | (refine within_ap0 ?_ rfl))) [1,3,4,5,6,7] [1] (fun T hwT hs2 ho2=>?_);simp only [stB,reduceIte,reduceCtorEq,seval,q1,r1,t1,h4,h3] at hs2 ho2;obtain ⟨p1,p3,p4,p5,p6,p7⟩:=hs2;obtain ⟨r1',t1'⟩:=ho2;refine pwp_loopW ms43_1 os43_1 (fun m st=>∃ k:Nat,m=i - k∧k≤i∧st.sl 7=aI k∧st.sl 6=.b (.one (.d (dB (freshD l i k))))) i ?_ ?_
   ·exact ⟨0,rfl,Nat.zero_le _,p7,p6⟩
   ·rintro m2 z2 ⟨k,rfl,hk,h7,h6⟩;simp only [stB,reduceIte,reduceCtorEq,seval] at h7 h6
    rcases Nat.lt_or_ge k i with hki | hki
    ·have hki':(k:Int) < (i:Int):=by omega
     have k0:(0:Int)≤(k:Int):=by omega
     have ek:=evAt_get (l:=l) (i:=k) (by omega);have hst:=freshD_succ l i k;rw [tri_ne] at hst
     cases hb:freshD l i k with
     | false =>
       rw [hb] at h6 hst;simp only [↓evP,evB,stB,reduceIte,reduceCtorEq,seval,p1,p3,p4,p5,r1',t1',h7,h6,hki',k0,ek,ei,i0,Ev.row,decide_true];refine ⟨(by unfold Drw;kernel_rfl),?_⟩
       exact ⟨_,by omega,(by repeat' (first | assumption | exact within_over.mpr trivial | exact Within.refl _ _ _ | (refine within_ap ?_ rfl rfl) | (refine within_ap0 ?_ rfl))),k+1,rfl,hki,by simp only [stB,reduceIte,reduceCtorEq,Nat.reduceEqDiff,Nat.reduceAdd,Nat.reduceMul,Nat.reduceLeDiff,Nat.reduceLT,Nat.reduceSub,Nat.reduceBEq,h7];rw [wrN (by omega)],by (simp only [stB,reduceIte,reduceCtorEq,seval,hst];try rfl)⟩
     | true =>
       rw [hb] at h6 hst;simp only [↓evP,evB,stB,reduceIte,reduceCtorEq,seval,p1,p3,p4,p5,r1',t1',h7,h6,hki',k0,ek,ei,i0,Ev.row,decide_true];refine callD_intro [pI (clsOf (evAt l k).kind)] ⟨_,rfl,rfl⟩ ?_
       cases b1:(clsOf (evAt l k).kind != clsOf (evAt l i).kind) with
       | true =>
         rw [b1] at hst;simp only [↓evP,evB,stB,reduceIte,reduceCtorEq,seval,pI,p1,p3,p4,p5,r1',t1',h7,h6,k0,ek,ei,i0,Ev.row,b1];refine ⟨(by unfold Drw;kernel_rfl),?_⟩
         exact ⟨_,by omega,(by repeat' (first | assumption | exact within_over.mpr trivial | exact Within.refl _ _ _ | (refine within_ap ?_ rfl rfl) | (refine within_ap0 ?_ rfl))),k+1,rfl,hki,by simp only [stB,reduceIte,reduceCtorEq,Nat.reduceEqDiff,Nat.reduceAdd,Nat.reduceMul,Nat.reduceLeDiff,Nat.reduceLT,Nat.reduceSub,Nat.reduceBEq,h7];rw [wrN (by omega)],by (simp only [stB,reduceIte,reduceCtorEq,seval,hst];try rfl)⟩
       | false =>
         cases b2:((evAt l k).obj != (evAt l i).obj) with
         | true =>
           rw [b1,b2] at hst;simp only [↓evP,evB,stB,reduceIte,reduceCtorEq,seval,pI,p1,p3,p4,p5,r1',t1',h7,h6,k0,ek,ei,i0,Ev.row,b1,b2];refine ⟨(by unfold Drw;kernel_rfl),?_⟩
           exact ⟨_,by omega,(by repeat' (first | assumption | exact within_over.mpr trivial | exact Within.refl _ _ _ | (refine within_ap ?_ rfl rfl) | (refine within_ap0 ?_ rfl))),k+1,rfl,hki,by simp only [stB,reduceIte,reduceCtorEq,Nat.reduceEqDiff,Nat.reduceAdd,Nat.reduceMul,Nat.reduceLeDiff,Nat.reduceLT,Nat.reduceSub,Nat.reduceBEq,h7];rw [wrN (by omega)],by (simp only [stB,reduceIte,reduceCtorEq,seval,hst];try rfl)⟩
         | false =>
           rw [b1,b2] at hst;simp only [↓evP,evB,stB,reduceIte,reduceCtorEq,seval,pI,p1,p3,p4,p5,r1',t1',h7,h6,k0,ek,ei,i0,Ev.row,b1,b2];refine ⟨(by unfold Drw;kernel_rfl),?_⟩
           exact ⟨_,by omega,(by repeat' (first | assumption | exact within_over.mpr trivial | exact Within.refl _ _ _ | (refine within_ap ?_ rfl rfl) | (refine within_ap0 ?_ rfl))),k+1,rfl,hki,by simp only [stB,reduceIte,reduceCtorEq,Nat.reduceEqDiff,Nat.reduceAdd,Nat.reduceMul,Nat.reduceLeDiff,Nat.reduceLT,Nat.reduceSub,Nat.reduceBEq,h7];rw [wrN (by omega)],by (simp only [stB,reduceIte,reduceCtorEq,seval,hst];try rfl)⟩
    ·have hki2:k=i:=by omega
     subst hki2;have hki':¬ (k:Int) < (k:Int):=by omega
     have hoc:=objC_le l k
     cases hb:freshD l k k with
     | true =>
       rw [hb] at h6;have ho1:objC l (k+1)=objC l k+1:=by show objC l k+(if freshD l k k=true then 1 else 0)=_;rw [if_pos hb]
       simp only [↓evP,evB,stB,reduceIte,reduceCtorEq,seval,p1,p3,p4,p5,r1',t1',h7,h6,hki',decide_false]
       exact ⟨_,by omega,(by repeat' (first | assumption | exact within_over.mpr trivial | (refine within_ap ?_ rfl rfl) | (refine within_ap0 ?_ rfl) | refine within_in ?_ (by decide) (by decide))),k+1,rfl,hlt,by simp only [stB,reduceIte,reduceCtorEq,Nat.reduceEqDiff,Nat.reduceAdd,Nat.reduceMul,Nat.reduceLeDiff,Nat.reduceLT,Nat.reduceSub,Nat.reduceBEq,p4];rw [wrN (by omega)],by simp only [stB,reduceIte,reduceCtorEq,Nat.reduceEqDiff,Nat.reduceAdd,Nat.reduceMul,Nat.reduceLeDiff,Nat.reduceLT,Nat.reduceSub,Nat.reduceBEq,p3,ho1];rw [wrN (by omega)]⟩
     | false =>
       rw [hb] at h6;have ho1:objC l (k+1)=objC l k:=by show objC l k+(if freshD l k k=true then 1 else 0)=_;rw [if_neg (by rw [hb];decide)];rfl
       simp only [↓evP,evB,stB,reduceIte,reduceCtorEq,seval,p1,p3,p4,p5,r1',t1',h7,h6,hki',decide_false]
       exact ⟨_,by omega,(by repeat' (first | assumption | exact within_over.mpr trivial | (refine within_ap ?_ rfl rfl) | (refine within_ap0 ?_ rfl) | refine within_in ?_ (by decide) (by decide))),k+1,rfl,hlt,by simp only [stB,reduceIte,reduceCtorEq,Nat.reduceEqDiff,Nat.reduceAdd,Nat.reduceMul,Nat.reduceLeDiff,Nat.reduceLT,Nat.reduceSub,Nat.reduceBEq,p4];rw [wrN (by omega)],by simp only [stB,reduceIte,reduceCtorEq,Nat.reduceEqDiff,Nat.reduceAdd,Nat.reduceMul,Nat.reduceLeDiff,Nat.reduceLT,Nat.reduceSub,Nat.reduceBEq,p3,ho1]⟩
  ·have hil:i=l.length:=by omega
   subst hil;have hlt':¬ (l.length:Int) < (l.length:Int):=by omega
   simp only [↓evP,evB,stB,reduceIte,reduceCtorEq,seval,q1,r1,t1,h4,h3,hlt',decide_false,pr43]
section
variable {l:List Ev} {n:Nat}
theorem evAt_take {i:Nat} (h:i < n):evAt (l.take n) i=evAt l i:=by
 unfold evAt;rw [List.getD_eq_getElem?_getD,List.getD_eq_getElem?_getD,List.getElem?_take,if_pos h]
theorem stp_take (hn:n≤l.length) {i:Nat} (h:i < n):stp (l.take n) i=stp l i:=by
 unfold stp;rw [stampsL_take l hn,List.getD_eq_getElem?_getD,List.getD_eq_getElem?_getD,List.getElem?_take,if_pos h]
theorem clkR_take (hn:n≤l.length) (g:Int) {j:Nat} (h:j≤n):clkR (l.take n) g j=clkR l g j:=by
 induction j with
 | zero=>rfl
 | succ j ih=>unfold clkR;rw [evAt_take h,stp_take hn h,ih (by omega)]
theorem freshD_take {i k:Nat} (hi:i < n) (hk:k≤n):freshD (l.take n) i k=freshD l i k:=by
 unfold freshD;rw [evAt_take hi]
 congr 1
 rw [decide_eq_decide];exact ⟨fun h m hm=>by have:=h m hm;rw [evAt_take (by omega)] at this;exact this,fun h m hm=>by rw [evAt_take (by omega)];exact h m hm⟩
theorem objC_take {j:Nat} (h:j≤n):objC (l.take n) j=objC l j:=by
 induction j with
 | zero=>rfl
 | succ j ih =>
   show objC (l.take n) j+(if freshD (l.take n) j j=true then 1 else 0)=objC l j+(if freshD l j j=true then 1 else 0)
   rw [freshD_take h (by omega),ih (by omega)]
theorem tsAt_take {j:Nat} (h:j≤n):tsAt (l.take n) j=tsAt l j:=by
 unfold tsAt;rw [List.take_take,Nat.min_eq_left h]
theorem chk_pre (hc:chk l=l.length) (hn:n≤l.length):chk (l.take n)=(l.take n).length:=by
 rw [List.length_take];unfold chk at hc ⊢;rw [TS.chk_take,hc];omega
end
def env_clk37:Env:=p1 26 R_awake37 (h1 34 R_tnew (h1 36 R_adv (h1 35 R_tclk (h1 40 R_tgor (h1 42 R_objH (e1 27 R_rvalid (e1 39 R_rtC (e1 41 R_rtG (e1 43 R_rtO e0)))))))))
theorem envOK_clk37:EnvOK Try.prog env_clk37:=.p1 s_awake37 (.h1 s_tnew (.h1 s_adv (.h1 s_tclk (.h1 s_tgor (.h1 s_objH (.e1 s_rvalid (.e1 s_rtC (.e1 s_rtG (.e1 s_rtO .e0)))))))))
theorem s_sclk37:SpecP Try.prog 9 R_num37:=by
 refine sql9 envOK_clk37 ?_;rintro hp az Post ⟨l,g,rfl,rfl,rfl⟩;refine ⟨by simp,fun _=>1,?_⟩;unfold pcl9;refine pwp_start ?_;simp only [↓evP,evB,stB,reduceIte,reduceCtorEq,seval,paHw,evsPa,evsD,pI];refine callPS_intro _ (by simp only [stB,reduceIte,reduceCtorEq,seval];exact ⟨0,rfl,Z37_free,rfl⟩) ?_
 rintro hp0 rs1 ⟨⟨D0,N,hL0⟩,rfl⟩
 by_cases q1:(l.length:Int) > 30
 ·simp only [↓evP,evB,stB,reduceIte,reduceCtorEq,seval,q1,decide_true,decide_false,prl9];exact ⟨_,_,rfl,fun b=>.inl rfl,rfl⟩
 have hlen:l.length≤1000:=by omega
 have hlen6:l.length≤1000000:=by omega
 simp only [↓evP,evB,stB,reduceIte,reduceCtorEq,seval,q1,decide_true,decide_false];refine callOps_intro [pB (decide (chk l=l.length))] ⟨l,rfl,hlen6,rfl⟩ ?_
 by_cases hc:chk l=l.length
 ·have hN:=hL0.free;obtain ⟨hp1,t1,D1,hR1,hT1,⟨a1,a2,a3⟩,hL1⟩:=new_run hN;simp only [↓evP,evB,stB,reduceIte,reduceCtorEq,seval,q1,hc,decide_true,decide_false];refine callHS_intro hp1 [hP (N+5) 0] (by simp only [stB,reduceIte,reduceCtorEq,seval];exact hR1) ?_
  simp only [↓evP,evB,stB,reduceIte,reduceCtorEq,seval];refine pwp_loopH msl9_0 osl9_0 (fun m st=>∃ k b D N' t,m=l.length - k∧k≤l.length∧st.sl 24=aI k∧b=N+5∧TabAt st.hb b D t∧(t.p=tabTo l k∧t.st=tsAt l k∧t.sn≤2 * k)∧Left hp0 (fun _=>False) N st.hb D N') l.length (by (repeat' (first | exact AllHp.init | assumption | (refine AllHp.ap ?_ rfl)))) ?_ ?_
  ·exact ⟨0,N+5,D1,N+6,t1,rfl,Nat.zero_le _,by simp only [stB,reduceIte,reduceCtorEq,Nat.reduceEqDiff,Nat.reduceAdd,Nat.reduceMul,Nat.reduceLeDiff,Nat.reduceLT,Nat.reduceSub,Nat.reduceBEq];rfl,rfl,by simp only [stB,reduceIte,reduceCtorEq,seval];exact hT1,⟨a1,a2,by rw [a3];exact Nat.zero_le _⟩,by simp only [stB,reduceIte,reduceCtorEq,seval];exact hL1⟩
  rintro m j hjn hja ⟨k,b,D,N',t,rfl,hk,h14,rfl,hT,⟨e1,e2,e3⟩,hL⟩;simp only [stB,reduceIte,reduceCtorEq,Nat.reduceEqDiff,Nat.reduceAdd,Nat.reduceMul,Nat.reduceLeDiff,Nat.reduceLT,Nat.reduceSub,Nat.reduceBEq,hjn] at h14 hT hL
  rcases Nat.lt_or_ge k l.length with hlt | hge
  ·have hle:=evAt_get hlt;obtain ⟨hp2,D2,t2,hR2,hT2,⟨f1,f2,f3⟩,hL2⟩:=adv_valid hc hlen hlt hT hL.lt hL.free e1 e2 e3;have c3:=clk_run hT2 g;have c4:=clk_run hT2 (evAt l k).g;have c5:=gor_run hT2;obtain ⟨c6,hT3⟩:=obj_valid hc hlen hlt hT2 hL2.lt hL2.free f1;have hL3:=obj_left hL2.free hL2.lt;rw [f1,clock_eq hc hlen hlt] at c3 c4;rw [f2] at c5;generalize up hp2 (N'+80+20) .dead=hp3 at c6 hT3 hL3;have hcp:=chk_pre hc (n:=k+1) hlt;have hlp:(l.take (k+1)).length=k+1:=by rw [List.length_take];omega
   have p1:∀ g,clkR (l.take (k+1)) g (l.take (k+1)).length=clkR l g (k+1):=fun g=>by rw [hlp,clkR_take hlt g (Nat.le_refl _)]
   have p2:gorOf (l.take (k+1))=(tsAt l (k+1)).gor:=by rw [gor_tab hcp,hlp,tsAt_take (Nat.le_refl _)]
   have p3:objC (l.take (k+1)) (l.take (k+1)).length=objC l (k+1):=by rw [hlp,objC_take (Nat.le_refl _)]
   have n1:=stp_len (l:=l) (j:=k);have n2:=clkR_len (l:=l) (j:=k+1) g;have n3:=clkR_len (l:=l) (j:=k+1) (evAt l k).g;have r1:R_rtC [tabPa (l.take (k+1)),pI g] [ckPa (clkR l g (k+1))]:=⟨l.take (k+1),g,rfl,⟨hcp,by rw [hlp];omega⟩,by rw [p1]⟩
   have r2:R_rtC [tabPa (l.take (k+1)),pI (evAt l k).g] [ckPa (clkR l (evAt l k).g (k+1))]:=⟨l.take (k+1),_,rfl,⟨hcp,by rw [hlp];omega⟩,by rw [p1]⟩
   have r3:R_rtG [tabPa (l.take (k+1))] [pI (tsAt l (k+1)).gor]:=⟨l.take (k+1),rfl,by rw [hlp];omega,by rw [p2]⟩
   have r4:R_rtO [tabPa (l.take (k+1))] [pI (objC l (k+1))]:=⟨l.take (k+1),rfl,by rw [hlp];omega,by rw [p3]⟩
   generalize clkR l g (k+1)=A at *;generalize clkR l (evAt l k).g (k+1)=B at *;generalize (tsAt l (k+1)).gor=G at *;generalize objC l (k+1)=O at *;obtain ⟨S,hS⟩:∃ S,stp l k=S:=⟨_,rfl⟩
   rw [hS] at hR2 n1;have klt:(k:Int) < (l.length:Int):=by omega
   have k0:(0:Int)≤(k:Int):=by omega
   have k1:(0:Int)≤((k+1:Nat):Int):=by omega
   have k2:((k+1:Nat):Int)≤(l.length:Int):=by omega
   have hwk:IntKind.i64.wrap ((k:Int)+1)=((k+1:Nat):Int):=wrN (by omega);have hall:=rows_len (f:=Ev.row) (n:=9) (fun _=>rfl) l;have htk:(l.map Ev.row).take (k+1)=(l.take (k+1)).map Ev.row:=(List.map_take ..).symm;obtain ⟨y1,y2⟩:=ckLd n1;obtain ⟨y3,y4⟩:=ckLd n2;obtain ⟨y5,y6⟩:=ckLd n3;have z1:(ckCells S).length=8:=by rw [ckCells_length,n1]
   have z2:(ckCells A).length=8:=by rw [ckCells_length,n2]
   have z3:(ckCells B).length=8:=by rw [ckCells_length,n3]
   have v1:=wr_new8 n1
   have heA:eqCls [false,false,false,false,false,false,false,false] (ckCells A) (ckCells A)=some true:=by
    have:=eqCls_ck (a:=A) (b:=A) rfl;rw [n2,decide_eq_true rfl] at this;exact this
   have heB:eqCls [false,false,false,false,false,false,false,false] (ckCells B) (ckCells B)=some true:=by
    have:=eqCls_ck (a:=B) (b:=B) rfl;rw [n3,decide_eq_true rfl] at this;exact this
   simp only [↓evP,evB,stB,reduceIte,reduceCtorEq,Nat.reduceEqDiff,Nat.reduceAdd,Nat.reduceMul,Nat.reduceLeDiff,Nat.reduceLT,Nat.reduceSub,Nat.reduceBEq,h14,klt,decide_true,hle,k0,Ev.row];refine callHS_intro hp2 [ckHw S,.one (hI 0)] (by simp only [stB,reduceIte,reduceCtorEq,seval,hjn];exact hR2) ?_
   simp only [↓evP,evB,stB,reduceIte,reduceCtorEq,Nat.reduceEqDiff,Nat.reduceAdd,Nat.reduceMul,Nat.reduceLeDiff,Nat.reduceLT,Nat.reduceSub,Nat.reduceBEq,h14,ckHw,ckH_cl,y1,y2,z1,v1,bne_self_eq_false,hwk,k1,k2,hall,htk,Int.le_refl,Int.toNat_zero];refine callHD_intro hp2 [ckHw A] (by simp only [stB,reduceIte,reduceCtorEq,seval,hjn];exact c3) ?_
   simp only [↓evP,evB,stB,reduceIte,reduceCtorEq,Nat.reduceEqDiff,Nat.reduceAdd,Nat.reduceMul,Nat.reduceLeDiff,Nat.reduceLT,Nat.reduceSub,Nat.reduceBEq,h14,Ev.row,ckHw,ckH_cl,ckPa,pI,ckRow_cells,y3,y4,y5,y6,z2,z3,heA,heB,bne_self_eq_false];refine callD_intro [ckPa A] (by exact r1) ?_;simp only [↓evP,evB,stB,reduceIte,reduceCtorEq,Nat.reduceEqDiff,Nat.reduceAdd,Nat.reduceMul,Nat.reduceLeDiff,Nat.reduceLT,Nat.reduceSub,Nat.reduceBEq,h14,Ev.row,ckHw,ckH_cl,ckPa,pI,ckRow_cells,y3,y4,y5,y6,z2,z3,heA,heB,bne_self_eq_false];refine callHD_intro hp2 [ckHw B] (by simp only [stB,reduceIte,reduceCtorEq,seval,hjn];exact c4) ?_
   simp only [↓evP,evB,stB,reduceIte,reduceCtorEq,Nat.reduceEqDiff,Nat.reduceAdd,Nat.reduceMul,Nat.reduceLeDiff,Nat.reduceLT,Nat.reduceSub,Nat.reduceBEq,h14,Ev.row,ckHw,ckH_cl,ckPa,pI,ckRow_cells,y3,y4,y5,y6,z2,z3,heA,heB,bne_self_eq_false];refine callD_intro [ckPa B] (by exact r2) ?_;simp only [↓evP,evB,stB,reduceIte,reduceCtorEq,Nat.reduceEqDiff,Nat.reduceAdd,Nat.reduceMul,Nat.reduceLeDiff,Nat.reduceLT,Nat.reduceSub,Nat.reduceBEq,h14,Ev.row,ckHw,ckH_cl,ckPa,pI,ckRow_cells,y3,y4,y5,y6,z2,z3,heA,heB,bne_self_eq_false];refine callHD_intro hp2 [.one (hI G)] (by simp only [stB,reduceIte,reduceCtorEq,seval,hjn];exact c5) ?_
   simp only [↓evP,evB,stB,reduceIte,reduceCtorEq,Nat.reduceEqDiff,Nat.reduceAdd,Nat.reduceMul,Nat.reduceLeDiff,Nat.reduceLT,Nat.reduceSub,Nat.reduceBEq,h14,Ev.row,ckHw,ckH_cl,ckPa,pI,ckRow_cells,y3,y4,y5,y6,z2,z3,heA,heB,bne_self_eq_false];refine callD_intro [pI G] (by exact r3) ?_;simp only [↓evP,evB,stB,reduceIte,reduceCtorEq,Nat.reduceEqDiff,Nat.reduceAdd,Nat.reduceMul,Nat.reduceLeDiff,Nat.reduceLT,Nat.reduceSub,Nat.reduceBEq,h14,Ev.row,ckHw,ckH_cl,ckPa,pI,ckRow_cells,y3,y4,y5,y6,z2,z3,heA,heB,bne_self_eq_false];refine callHD_intro hp3 [.one (hI O)] (by simp only [stB,reduceIte,reduceCtorEq,seval,hjn];exact c6) ?_
   simp only [↓evP,evB,stB,reduceIte,reduceCtorEq,Nat.reduceEqDiff,Nat.reduceAdd,Nat.reduceMul,Nat.reduceLeDiff,Nat.reduceLT,Nat.reduceSub,Nat.reduceBEq,h14,Ev.row,ckHw,ckH_cl,ckPa,pI,ckRow_cells,y3,y4,y5,y6,z2,z3,heA,heB,bne_self_eq_false];refine callD_intro [pI O] (by exact r4) ?_;simp only [↓evP,evB,stB,reduceIte,reduceCtorEq,Nat.reduceEqDiff,Nat.reduceAdd,Nat.reduceMul,Nat.reduceLeDiff,Nat.reduceLT,Nat.reduceSub,Nat.reduceBEq,h14,Ev.row,ckHw,ckH_cl,ckPa,pI,ckRow_cells,y3,y4,y5,y6,z2,z3,heA,heB,bne_self_eq_false];refine ⟨(by unfold Drw;refine Eq.trans (b:=true) ?_ rfl;kernel_rfl),?_⟩
   exact ⟨l.length - (k+1),by omega,(by repeat' (first | assumption | exact withinH_over hja | (refine withinH_ap ?_ rfl rfl) | (refine withinH_ap0 ?_ rfl))),k+1,N+5,D2,N'+80+21,t2,rfl,hlt,by simp only [stB,reduceIte,reduceCtorEq,Nat.reduceEqDiff,Nat.reduceAdd,Nat.reduceMul,Nat.reduceLeDiff,Nat.reduceLT,Nat.reduceSub,Nat.reduceBEq,h14];rw [wrN (by omega)],rfl,by simp only [stB,reduceIte,reduceCtorEq,seval];exact hT3,⟨f1,f2,f3⟩,by simp only [stB,reduceIte,reduceCtorEq,seval];exact hL.trans (hL2.trans hL3)⟩
  ·have hkl:k=l.length:=by omega
   have klt:¬ (k:Int) < (l.length:Int):=by omega
   simp only [↓evP,evB,stB,reduceIte,reduceCtorEq,Nat.reduceEqDiff,Nat.reduceAdd,Nat.reduceMul,Nat.reduceLeDiff,Nat.reduceLT,Nat.reduceSub,Nat.reduceBEq,h14,klt,decide_false,prl9];exact ⟨_,_,rfl,fun b=>.inl rfl,rfl⟩
 ·simp only [↓evP,evB,stB,reduceIte,reduceCtorEq,seval,q1,hc,decide_true,decide_false,prl9];exact ⟨_,_,rfl,fun b=>.inl rfl,rfl⟩
theorem tabTo_take {l:List Ev} {n j:Nat} (h:j≤n):tabTo (l.take n) j=tabTo l j:=by
 induction j with
 | zero=>rfl
 | succ j ih=>unfold tabTo;rw [evAt_take h,ih (by omega)]
theorem tabTo_app {l:List Ev} {e:Ev}:tabTo (l ++ [e]) l.length=tabTo l l.length:=by
 rw [←tabTo_take (l:=l ++ [e]) (n:=l.length) (Nat.le_refl _),List.take_left'];rfl
theorem tsAt_app {l:List Ev} {e:Ev}:tsAt (l ++ [e]) l.length=tsAt l l.length:=by
 unfold tsAt;rw [List.take_left' rfl,List.take_of_length_le (Nat.le_refl _)]
theorem evAt_app {l:List Ev} {e:Ev}:evAt (l ++ [e]) l.length=e:=by
 unfold evAt;rw [List.getD_eq_getElem?_getD,List.getElem?_append_right (Nat.le_refl _),Nat.sub_self];rfl
theorem chk_app {l:List Ev} (hc:chk l=l.length) (e:Ev):chk (l ++ [e])=(l ++ [e]).length↔((tsAt l l.length).add e).isSome=true:=by
 have hs:=tsAt_steps hc (n:=l.length) (Nat.le_refl _);rw [List.take_of_length_le (Nat.le_refl _)] at hs;have hlen:(l ++ [e]).length=l.length+1:=by rw [List.length_append];rfl
 cases ha:(tsAt l l.length).add e with
 | none =>
   have:chk (l ++ [e])=l.length:=by
    unfold chk;refine TS.chk_of (by omega) (by rw [List.take_left' rfl];exact hs) fun e' he'=>?_
    rw [List.getElem?_append_right (Nat.le_refl _),Nat.sub_self] at he';cases he';exact ha
   rw [this,hlen];exact ⟨fun h=>by omega,fun h=>by cases h⟩
 | some u =>
   have:chk (l ++ [e])=l.length+1:=by
    unfold chk;refine TS.chk_of (t:=u) (by omega) (by rw [List.take_of_length_le (by omega),TS.steps_snoc,hs];exact ha) fun e' he'=>?_
    rw [List.getElem?_eq_none (by omega)] at he';cases he'
   rw [this,hlen];exact ⟨fun _=>rfl,fun _=>rfl⟩
theorem adv_any {l:List Ev} (hc:chk l=l.length) (hl:l.length≤900) (e:Ev) {hp:Nat→Hb} {b0 N:Nat} {D:Nat→Prop} {t:TabL} (h:TabAt hp b0 D t) (hD:∀ b,D b→b < N) (hN:Free hp N) (h1:t.p=tabTo l l.length) (h2:t.st=tsAt l l.length) (h3:t.sn≤2 * l.length) :
 chk (nxtL l e)=(nxtL l e).length∧(nxtL l e).length≤l.length+1∧∃ hp' D' t' N',R_adv hp [hP b0 0,evW e] hp' [ckHw (nxtC l e),.one (hI (nxtE l e))]∧TabAt hp' b0 D' t'∧(t'.p=tabTo (nxtL l e) (nxtL l e).length∧t'.st=tsAt (nxtL l e) (nxtL l e).length∧t'.sn≤2 * (l.length+1))∧Left hp D N hp' D' N':=by
 have hlen:(l ++ [e]).length=l.length+1:=by rw [List.length_append];rfl
 by_cases hn:okN l e
 ·obtain ⟨hv,hc2⟩:=hn;have hn:okN l e:=⟨hv,hc2⟩;rw [show nxtL l e=l ++ [e] from if_pos hn,show nxtC l e=stp (l ++ [e]) l.length from if_pos hn,show nxtE l e=0 from if_pos hn];obtain ⟨hp',D',t',r1,r2,⟨r3,r4,r5⟩,r6⟩:=adv_valid hc2 (by omega) (k:=l.length) (by omega) h hD hN (by rw [tabTo_app];exact h1) (by rw [tsAt_app];exact h2) h3
  rw [evAt_app] at r1;exact ⟨hc2,by omega,hp',D',t',_,r1,r2,⟨by rw [hlen];exact r3,by rw [hlen];exact r4,r5⟩,r6⟩
 ·rw [show nxtL l e=l from if_neg hn,show nxtC l e=ckZ from if_neg hn]
  cases hv:e.valid with
  | false =>
    rw [show nxtE l e=1 from by unfold nxtE;rw [if_neg hn,if_neg (by rw [hv];decide)]]
    obtain ⟨hp',r1,r2,r3⟩:=adv_bad (e:=e) h hD hN hv;exact ⟨hc,by omega,hp',D,t,_,r1,r2,⟨h1,h2,by omega⟩,r3⟩
  | true =>
    rw [show nxtE l e=11 from by unfold nxtE;rw [if_neg hn,if_pos hv]]
    have ha:(tsAt l l.length).add e=none:=by
     cases ha:(tsAt l l.length).add e with
     | none=>rfl
     | some u=>exact absurd ⟨hv,(chk_app hc e).2 (by rw [ha];rfl)⟩ hn
    obtain ⟨hp',t',r1,r2,⟨r3,r4,r5⟩,r6⟩:=adv_no (e:=e) h hD hN (by rw [h2];exact (tsAt_good hc (Nat.le_refl _)).2.1) (by omega) hv (by rw [h2];exact ha)
    exact ⟨hc,by omega,hp',D,t',_,r1,r2,⟨by rw [r3];exact h1,by rw [r4];exact h2,by omega⟩,r6⟩
def R_err37 (hp:Nat→Hb) (az:List Hw) (Post:(Nat→Hb)→List Hw→Prop):Prop:=∃ (l:List Ev) (e:Ev),az=[paHw (evsPa l),paHw e.pa]∧hp=Z37∧Post=fun _ r=>r=[.one (.d (dB true))]
def R_errS (ps rs:List Pa):Prop:=∃ (l:List Ev) (e:Ev),ps=[evsPa l,e.pa]∧rs=[pB true]
theorem err37 {f:Nat} (h:SpecP Try.prog f R_err37):Spec Try.prog f R_errS:=by
 rintro ps rs ⟨l,e,rfl,rfl⟩;exact h.toS _ _ ⟨_,⟨l,e,rfl,rfl,rfl⟩,fun hp' rs' q=>q⟩
def env_err37:Env:=p1 26 R_awake37 (p1 28 R_play (h1 36 R_adv (h1 35 R_tclk (h1 40 R_tgor (h1 42 R_objH (e1 27 R_rvalid (e1 38 R_rtA (e1 39 R_rtC (e1 41 R_rtG (e1 43 R_rtO e0))))))))))
theorem envOK_err37:EnvOK Try.prog env_err37:=.p1 s_awake37 (.p1 s_play (.h1 s_adv (.h1 s_tclk (.h1 s_tgor (.h1 s_objH (.e1 s_rvalid (.e1 s_rtA (.e1 s_rtC (.e1 s_rtG (.e1 s_rtO .e0))))))))))
theorem s_serr37:SpecP Try.prog 8 R_err37:=by
 refine sql8 envOK_err37 ?_;rintro hp az Post ⟨l,e,rfl,rfl,rfl⟩;refine ⟨by simp,fun _=>1,?_⟩;unfold pcl8;refine pwp_start ?_;simp only [↓evP,evB,stB,reduceIte,reduceCtorEq,Nat.reduceEqDiff,Nat.reduceAdd,Nat.reduceMul,Nat.reduceLeDiff,Nat.reduceLT,Nat.reduceSub,Nat.reduceBEq,paHw,evsPa,evsD,Ev.pa,Ev.row,List.map_cons,List.map_nil];refine callPS_intro _ (by simp only [stB,reduceIte,reduceCtorEq,seval];exact ⟨0,rfl,Z37_free,rfl⟩) ?_
 rintro hp0 rs1 ⟨⟨D0,N,hL0⟩,rfl⟩
 by_cases q1:(l.length:Int) > 40
 ·simp only [↓evP,evB,stB,reduceIte,reduceCtorEq,Nat.reduceEqDiff,Nat.reduceAdd,Nat.reduceMul,Nat.reduceLeDiff,Nat.reduceLT,Nat.reduceSub,Nat.reduceBEq,q1,decide_true,decide_false,prl8];exact ⟨_,_,rfl,fun b=>.inl rfl,rfl⟩
 have hlen:l.length≤900:=by omega
 have hlen6:l.length≤1000000:=by omega
 simp only [↓evP,evB,stB,reduceIte,reduceCtorEq,Nat.reduceEqDiff,Nat.reduceAdd,Nat.reduceMul,Nat.reduceLeDiff,Nat.reduceLT,Nat.reduceSub,Nat.reduceBEq,q1,decide_true,decide_false];refine callOps_intro [pB (decide (chk l=l.length))] ⟨l,rfl,hlen6,rfl⟩ ?_
 by_cases hc:chk l=l.length
 ·simp only [↓evP,evB,stB,reduceIte,reduceCtorEq,Nat.reduceEqDiff,Nat.reduceAdd,Nat.reduceMul,Nat.reduceLeDiff,Nat.reduceLT,Nat.reduceSub,Nat.reduceBEq,q1,hc,decide_true,decide_false];refine callPS_intro _ (by simp only [stB,reduceIte,reduceCtorEq,seval];exact ⟨l,N,rfl,hL0.free,plays_valid hc (by omega),rfl⟩) ?_
  intro hp2 rs2 hq;obtain ⟨b,D2,N2,t,hT,⟨e1,e2,e3⟩,hL2,rfl⟩:=played_valid hc (by omega) hq;obtain ⟨hM,hMl,hp3,D3,t3,N3,hR3,hT3,⟨f1,f2,f3⟩,hL3⟩:=adv_any hc hlen e hT hL2.lt hL2.free e1 e2 e3;have rA:R_rtA [tabPa l,e.pa] [tabPa (nxtL l e),ckPa (nxtC l e),pI (nxtE l e)]:=⟨l,e,rfl,by omega,rfl⟩;have n1:(nxtC l e).length=8:=by unfold nxtC;split;exact stp_len;rfl
  generalize nxtL l e=M at *;generalize nxtC l e=C at *;generalize nxtE l e=E at *;obtain ⟨y1,y2⟩:=ckLd n1;have z1:(ckCells C).length=8:=by rw [ckCells_length,n1]
  have v1:=wr_new8 n1
  have heC:eqCls [false,false,false,false,false,false,false,false] (ckCells C) (ckCells C)=some true:=by
   have:=eqCls_ck (a:=C) (b:=C) rfl;rw [n1,decide_eq_true rfl] at this;exact this
  simp only [↓evP,evB,stB,reduceIte,reduceCtorEq,Nat.reduceEqDiff,Nat.reduceAdd,Nat.reduceMul,Nat.reduceLeDiff,Nat.reduceLT,Nat.reduceSub,Nat.reduceBEq,q1,hc,decide_true,decide_false];refine callOps_intro [tabPa M,ckPa C,pI E] (by exact rA) ?_;simp only [↓evP,evB,stB,reduceIte,reduceCtorEq,Nat.reduceEqDiff,Nat.reduceAdd,Nat.reduceMul,Nat.reduceLeDiff,Nat.reduceLT,Nat.reduceSub,Nat.reduceBEq,tabPa,evsD,ckPa,pI,ckRow_cells,y1,y2,z1,v1,Ev.row];refine callHS_intro hp3 [ckHw C,.one (hI E)] (by simp only [stB,reduceIte,reduceCtorEq,seval];exact hR3) ?_
  simp only [↓evP,evB,stB,reduceIte,reduceCtorEq,Nat.reduceEqDiff,Nat.reduceAdd,Nat.reduceMul,Nat.reduceLeDiff,Nat.reduceLT,Nat.reduceSub,Nat.reduceBEq,ckHw,ckH_cl,y1,y2,z1,v1,heC,bne_self_eq_false,Ev.row];refine pwp_loopH msl8_0 osl8_0 (fun m st=>∃ k:Nat,m=8 - k∧k≤8∧st.sl 58=aI k∧st.hb=hp3) 8 (by (repeat' (first | exact AllHp.init | assumption | (refine AllHp.ap ?_ rfl)))) ?_ ?_
  ·exact ⟨0,rfl,Nat.zero_le _,by simp only [stB,reduceIte,reduceCtorEq,Nat.reduceEqDiff,Nat.reduceAdd,Nat.reduceMul,Nat.reduceLeDiff,Nat.reduceLT,Nat.reduceSub,Nat.reduceBEq];rfl,by simp only [stB,reduceIte,reduceCtorEq,seval]⟩
  rintro m j hjn hja ⟨k,rfl,hk,h14,hh⟩;simp only [stB,reduceIte,reduceCtorEq,Nat.reduceEqDiff,Nat.reduceAdd,Nat.reduceMul,Nat.reduceLeDiff,Nat.reduceLT,Nat.reduceSub,Nat.reduceBEq,hjn] at h14 hh
  rcases Nat.lt_or_ge k 8 with hlt | hge
  ·have c3:=clk_run hT3 (k:Int);rw [f1,clock_eq hM (by omega) (Nat.le_refl _)] at c3;have rC:R_rtC [tabPa M,pI (k:Int)] [ckPa (clkR M (k:Int) M.length)]:=⟨M,k,rfl,⟨hM,by omega⟩,rfl⟩;have n2:=clkR_len (l:=M) (j:=M.length) (k:Int);generalize clkR M (k:Int) M.length=A at *;obtain ⟨y3,y4⟩:=ckLd n2;have z2:(ckCells A).length=8:=by rw [ckCells_length,n2]
   have heA:eqCls [false,false,false,false,false,false,false,false] (ckCells A) (ckCells A)=some true:=by
    have:=eqCls_ck (a:=A) (b:=A) rfl;rw [n2,decide_eq_true rfl] at this;exact this
   have klt:(k:Int) < 8:=by omega
   simp only [↓evP,evB,stB,reduceIte,reduceCtorEq,Nat.reduceEqDiff,Nat.reduceAdd,Nat.reduceMul,Nat.reduceLeDiff,Nat.reduceLT,Nat.reduceSub,Nat.reduceBEq,h14,hh,klt,decide_true];refine callHD_intro hp3 [ckHw A] (by simp only [stB,reduceIte,reduceCtorEq,seval,hjn,hh];exact c3) ?_
   simp only [↓evP,evB,stB,reduceIte,reduceCtorEq,Nat.reduceEqDiff,Nat.reduceAdd,Nat.reduceMul,Nat.reduceLeDiff,Nat.reduceLT,Nat.reduceSub,Nat.reduceBEq,h14,hh,ckHw,ckH_cl,y3,y4,z2,pI];refine callD_intro [ckPa A] (by exact rC) ?_;simp only [↓evP,evB,stB,reduceIte,reduceCtorEq,Nat.reduceEqDiff,Nat.reduceAdd,Nat.reduceMul,Nat.reduceLeDiff,Nat.reduceLT,Nat.reduceSub,Nat.reduceBEq,h14,hh,ckHw,ckH_cl,ckPa,ckRow_cells,y3,y4,z2,heA];refine ⟨(by unfold Drw;refine Eq.trans (b:=true) ?_ rfl;kernel_rfl),?_⟩
   exact ⟨8 - (k+1),by omega,(by repeat' (first | assumption | exact withinH_over hja | (refine withinH_ap ?_ rfl rfl) | (refine withinH_ap0 ?_ rfl))),k+1,rfl,hlt,by simp only [stB,reduceIte,reduceCtorEq,Nat.reduceEqDiff,Nat.reduceAdd,Nat.reduceMul,Nat.reduceLeDiff,Nat.reduceLT,Nat.reduceSub,Nat.reduceBEq,h14];rw [wrN (by omega)],by simp only [stB,reduceIte,reduceCtorEq,seval,hh]⟩
  ·have hk8:k=8:=by omega
   subst hk8;have klt:¬ ((8:Nat):Int) < 8:=by omega
   have c5:=gor_run hT3;rw [f2] at c5;have rG:R_rtG [tabPa M] [pI (tsAt M M.length).gor]:=⟨M,rfl,by omega,by rw [gor_tab hM]⟩;have rO:R_rtO [tabPa M] [pI (objC M M.length)]:=⟨M,rfl,by omega,rfl⟩;obtain ⟨c6,hT4⟩:=obj_valid hM (by omega) (Nat.le_refl _) hT3 hL3.lt hL3.free f1;generalize (tsAt M M.length).gor=G at *;generalize objC M M.length=O at *;simp only [↓evP,evB,stB,reduceIte,reduceCtorEq,Nat.reduceEqDiff,Nat.reduceAdd,Nat.reduceMul,Nat.reduceLeDiff,Nat.reduceLT,Nat.reduceSub,Nat.reduceBEq,h14,hh,klt,decide_false];refine callHD_intro hp3 [.one (hI G)] (by simp only [stB,reduceIte,reduceCtorEq,seval,hjn,hh];exact c5) ?_
   simp only [↓evP,evB,stB,reduceIte,reduceCtorEq,Nat.reduceEqDiff,Nat.reduceAdd,Nat.reduceMul,Nat.reduceLeDiff,Nat.reduceLT,Nat.reduceSub,Nat.reduceBEq,h14,hh,pI];refine callD_intro [pI G] (by exact rG) ?_;simp only [↓evP,evB,stB,reduceIte,reduceCtorEq,Nat.reduceEqDiff,Nat.reduceAdd,Nat.reduceMul,Nat.reduceLeDiff,Nat.reduceLT,Nat.reduceSub,Nat.reduceBEq,h14,hh,pI,beq_self_eq_true];refine callHD_intro _ [.one (hI O)] (by simp only [stB,reduceIte,reduceCtorEq,seval,hjn,hh];exact c6) ?_
   simp only [↓evP,evB,stB,reduceIte,reduceCtorEq,Nat.reduceEqDiff,Nat.reduceAdd,Nat.reduceMul,Nat.reduceLeDiff,Nat.reduceLT,Nat.reduceSub,Nat.reduceBEq,h14,hh,pI,beq_self_eq_true];refine callD_intro [pI O] (by exact rO) ?_;simp only [↓evP,evB,stB,reduceIte,reduceCtorEq,Nat.reduceEqDiff,Nat.reduceAdd,Nat.reduceMul,Nat.reduceLeDiff,Nat.reduceLT,Nat.reduceSub,Nat.reduceBEq,h14,hh,pI,beq_self_eq_true,prl8];refine ⟨(by unfold Drw;refine Eq.trans (b:=true) ?_ rfl;kernel_rfl),?_⟩
   exact ⟨_,_,rfl,fun b=>.inl rfl,rfl⟩
 ·simp only [↓evP,evB,stB,reduceIte,reduceCtorEq,Nat.reduceEqDiff,Nat.reduceAdd,Nat.reduceMul,Nat.reduceLeDiff,Nat.reduceLT,Nat.reduceSub,Nat.reduceBEq,q1,hc,decide_true,decide_false,prl8];exact ⟨_,_,rfl,fun b=>.inl rfl,rfl⟩
end Go.Proofs.Ytffcpijeebagfaa
end
section
namespace Go.Proofs.Ytffcpijeebagfaa
open Go Go.RowKit Go.WideShapes Go.ChangeShapes Go.Deep
theorem trodAll_below {H:Type} {enc:TypeId×Value→H} {P:Program} (hl:laidOutB P=true) {W W':World} (hb:Below W.heap.size W W') :
 ∀ {ts:List TypeId} {vs:List Value} {ds:List (DataW H)} {ps:List MemPlace},(ts.all fun t=>P.readableRec t && decide (t < P.types.size))=true→DataW.TrodAll enc P W 0 (fun _=>true) true ts vs ds ps→DataW.TrodAll enc P W' 0 (fun b=>decide (b < W.heap.size)) true ts vs ds ps
 | [],vs,ds,ps,_,h=>by obtain ⟨rfl,rfl,rfl⟩:=trodAll_nil h;exact trodAll_mk0
 | t :: ts,vs,ds,ps,ht,h=>by
   obtain ⟨v,vs',d,ds',p,q,rfl,rfl,rfl,h1,h2⟩:=trodAll_cons h;simp only [List.all_cons,Bool.and_eq_true,decide_eq_true_eq] at ht;have lt:∀ x ∈ p,x.block < W.heap.size:=by obtain ⟨m,hm⟩:=h1;exact DataW.trod_lt m _ _ _ hm
   exact trodAll_cons_mk (Below.trod hl ht.1.1 ht.1.2 h1 hb lt) (trodAll_below hl hb (by rw [Bool.eq_iff_iff] at *;simpa using ht.2) h2)
theorem open_flat {H:Type} {enc:TypeId×Value→H} {P:Program} {w:World} {r:Reach} {b0 base:Nat} {spare:Nat→Bool} {held:Bool} {t:TypeId} {fs:Array Field} (ht:P.underlying t=some (.struct fs)) (hone:oneCellFields P fs=true) (hC:P.cellsOf t=fs.size)
 {tI:TypeId} (hI:P.underlying tI=some (.int .i64)) (hint0:fs.toList.all (fun f=>f.type == tI)=true) {n:Nat} (hn:fs.size=n) {v:Value} {d:DataW H} {ps:List MemPlace} (hv:Value.okWide P w r b0 t v) (h:DataW.Trod enc P w base spare held t v d ps) :
 ∃ l:List Int,l.length=n∧v=.agg (l.map (Value.int .i64)).toArray∧∀ x,x ∈ l→-9223372036854775808≤x∧x≤9223372036854775807:=by
 have hint:∀ (i:Nat) (f:Field),fs[i]? = some f→P.underlying f.type=some (.int .i64):=fun i f hf=>by
  have h1:=List.all_eq_true.1 hint0 f (List.mem_of_getElem? (i:=i) (by simpa using hf));rw [beq_iff_eq.1 h1];exact hI
 subst hn;obtain ⟨cs,rfl,hcs⟩:=okWide_struct ht hv;obtain ⟨fuel,hf⟩:=h;obtain ⟨xs,n,_,_,hl,hlen,hfs⟩:=DataW.trod_struct ht hf
 have key:∀ i,∃ x:Int,i < fs.size→cs[i]? = some (.int .i64 x)∧-9223372036854775808≤x∧x≤9223372036854775807:=by
  intro i
  by_cases hi:i < fs.size
  ·have hfi:fs[i]? = some fs[i]:=Array.getElem?_eq_getElem hi;obtain ⟨ho,hk⟩:=hone_of hone i _ hfi;have h1:=hfs i _ hfi;rw [ho,hk] at h1;have hic:i < cs.size:=by omega
   have hone':((Value.agg cs).cells.toList.drop i).take 1=[cs[i]'hic]:=by
    show (cs.toList.drop i).take 1=_
    rw [List.drop_eq_getElem_cons (by simpa using hic)];simp
   rw [hone'] at h1;have hxs:xs[i]? = some (xs[i]'(by omega)):=List.getElem?_eq_getElem _;rw [hxs] at h1;obtain ⟨x,hx,hw⟩:=trod_int_field (hint i _ hfi) h1;exact ⟨x,fun _=>⟨by rw [Array.getElem?_eq_getElem hic,hx],i64_of_wf hw⟩⟩
  ·exact ⟨0,fun h=>absurd h hi⟩
 obtain ⟨g,hg⟩:=Classical.skolem.1 key;refine ⟨(List.range fs.size).map g,by simp,?_,fun x hx=>?_⟩
 ·congr 1
  apply Array.ext_getElem?
  intro i;simp only [List.getElem?_toArray,List.getElem?_map]
  rcases Nat.lt_or_ge i fs.size with hi | hi
  ·rw [(hg i hi).1,List.getElem?_range hi];rfl
  ·rw [Array.getElem?_eq_none (by omega),List.getElem?_eq_none (by simpa using hi)];rfl
 ·simp only [List.mem_map,List.mem_range] at hx;obtain ⟨i,hi,rfl⟩:=hx;exact (hg i hi).2
theorem list_nine {l:List Int} (h:l.length=9):∃ e:Ev,l.map (Value.int .i64)=e.cells:=by
 match l,h with
 | [a,b,c,d,e,f,g,i,j],_=>exact ⟨⟨a,b,c,d,e,f,g,i,j⟩,rfl⟩
theorem Spec.true [I:WInv] {P:Program} {f:Nat} {R:List Pa→List Pa→Prop} (hs:Spec P f R) {ps:List Pa} (hR:R ps [pB true]) {S:Nat→Nat} {w:World} {vals:Array Value} (hw:I.p w) (hv:RPs S w ps vals) :
 Calls P f vals w fun e w'=>e=.returned (.bool true)∧Below w.heap.size w w':=by
 refine (hs ps _ hR S w vals hw hv).mono ?_;rintro e w' ⟨v,S',rfl,h1,h2,_⟩;exact ⟨by rw [RP.bool h1],h2⟩
theorem Ev.one_cells (e:Ev) (u:Value) (h:u ∈ e.cells):u.oneCell'=true:=by
 simp only [Ev.cells,List.mem_cons,List.not_mem_nil,or_false] at h
 rcases h with rfl | rfl | rfl | rfl | rfl | rfl | rfl | rfl | rfl <;> rfl
end Go.Proofs.Ytffcpijeebagfaa
end
