/- The document's answer for chapter 37, on valid lists: contracts about data. -/
import Derived.Test.YtffcpijeebagfaaMf8
import Derived.OpenShut
set_option linter.unusedSimpArgs false
set_option linter.unusedVariables false
section
namespace Go.Proofs.Ytffcpijeebagfaa
open Go Go.RowKit
set_option maxRecDepth 100000
set_option maxHeartbeats 4000000
def tabPa (l:List Ev):Pa:=.agg [evsD l]
def R_rtC (ps rs:List Pa):Prop:=∃ (l:List Ev) (g:Int),ps=[tabPa l,pI g]∧(chk l=l.length∧l.length≤1000)∧rs=[ckPa (clkR l g l.length)]
theorem s_rtC:Spec Try.prog 39 R_rtC:=by
 refine sp39 (show EnvOK Try.prog (e1 29 R_Stamps e0) from EnvOK.e1 s_rStamps EnvOK.e0) ?_;rintro ps rs ⟨l,g,rfl,⟨hc,hl⟩,rfl⟩;refine ⟨by simp,?_⟩;unfold pc39;refine pwp_start ?_;simp only [↓evP,evB,stB,reduceIte,reduceCtorEq,seval,tabPa,evsD,pI];refine callOps_intro [cksPa (stOf l),pI (errOf l)] ⟨l,rfl,by omega,rfl⟩ ?_;have hs:stOf l=stampsL l:=by unfold stOf;rw [if_pos hc]
 have he1:errOf l=0:=by unfold errOf;rw [if_pos hc]
 rw [hs,he1];have hw0:IntKind.i64.wrap ((l.length:Int) - 1)=(l.length:Int) - 1:=wr64 (by omega) (by omega);simp only [↓evP,evB,stB,reduceIte,reduceCtorEq,seval,cksPa,pI,hw0];refine pwp_loopW ms39_0 os39_0 (fun m st=>m≤l.length∧st.sl 7=aI ((m:Int) - 1)∧clkR l g l.length=clkR l g m∧st.gen 4=1∧st.ob 4=.cells [.d (.sc (.int .i64 0)),.d (.sc (.int .i64 0)),.d (.sc (.int .i64 0)),.d (.sc (.int .i64 0)),.d (.sc (.int .i64 0)),.d (.sc (.int .i64 0)),.d (.sc (.int .i64 0)),.d (.sc (.int .i64 0))]) l.length ?_ ?_
 ·exact ⟨Nat.le_refl _,by simp only [stB,reduceIte,reduceCtorEq,seval],rfl,by simp only [stB,reduceIte,reduceCtorEq,seval],by simp only [stB,reduceIte,reduceCtorEq,seval]⟩
 ·rintro m j ⟨hm,h7,hk,g4,o4⟩;simp only [stB,reduceIte,reduceCtorEq,seval] at h7 g4 o4
  cases m with
  | zero =>
    have n0:¬ ((0:Nat):Int) - 1≥0:=by omega
    simp only [↓evP,evB,stB,reduceIte,reduceCtorEq,seval,h7,g4,o4,n0,decide_false,pr39];exact congrArg (fun c=>some [ckPa c]) hk.symm
  | succ i =>
    have hi:i < l.length:=by omega
    have ei:=evAt_get hi;have si:=stp_get (l:=l) hi;have hx:((i+1:Nat):Int) - 1=(i:Int):=by omega
    rw [hx] at h7;have i0:(0:Int)≤(i:Int):=by omega
    have ige:(i:Int)≥0:=by omega
    have hw:IntKind.i64.wrap ((i:Int) - 1)=(i:Int) - 1:=wr64 (by omega) (by omega);have e1:(ckRow (stp l i)).length=8:=by unfold ckRow;rw [List.length_map,stp_len]
    obtain ⟨d1,d2⟩:=ckLd (stp_len (l:=l) (j:=i));have k1:(ckCells (stp l i)).length=8:=by rw [ckCells_length,stp_len]
    have k3:8≤(ckCells (stp l i)).length:=by omega
    have v1:=wr_new8 (stp_len (l:=l) (j:=i))
    cases b1:((evAt l i).g == g) with
    | true =>
      have hres:clkR l g l.length=stp l i:=hk.trans (if_pos (.inl (eq_of_beq b1)));rw [hres];simp only [↓evP,evB,stB,reduceIte,reduceCtorEq,seval,h7,g4,o4,i0,ige,ei,si,Ev.row,e1,d1,d2,k1,k3,b1,ckRow_cells,decide_true,v1,ckCells_dt,pr39];rfl
    | false =>
      cases b2:((evAt l i).kind == 14) with
      | true =>
        cases b3:((evAt l i).k == g) with
        | true =>
          have hres:clkR l g l.length=stp l i:=hk.trans (if_pos (.inr ⟨eq_of_beq b2,eq_of_beq b3⟩));rw [hres];simp only [↓evP,evB,stB,reduceIte,reduceCtorEq,seval,h7,g4,o4,i0,ige,ei,si,Ev.row,e1,d1,d2,k1,k3,ckRow_cells,decide_true,v1,hw,b1,b2,b3,ckCells_dt,pr39];rfl
        | false =>
          have hres:clkR l g l.length=clkR l g i:=hk.trans (if_neg (fun q=>q.elim (fun q=>by rw [q] at b1;simp at b1) (fun q=>by rw [q.2] at b3;simp at b3)))
          simp only [↓evP,evB,stB,reduceIte,reduceCtorEq,seval,h7,g4,o4,i0,ige,ei,si,Ev.row,e1,d1,d2,k1,k3,ckRow_cells,decide_true,v1,hw,b1,b2,b3]
          exact ⟨i,by omega,(by repeat' (first | assumption | exact within_over.mpr trivial | exact Within.refl _ _ _ | (refine within_ap ?_ rfl rfl) | (refine within_ap0 ?_ rfl))),by omega,by simp only [stB,reduceIte,reduceCtorEq,seval],hres,by simp only [stB,reduceIte,reduceCtorEq,seval,g4],by simp only [stB,reduceIte,reduceCtorEq,seval,o4]⟩
      | false =>
        have hres:clkR l g l.length=clkR l g i:=hk.trans (if_neg (fun q=>q.elim (fun q=>by rw [q] at b1;simp at b1) (fun q=>by rw [q.1] at b2;simp at b2)))
        simp only [↓evP,evB,stB,reduceIte,reduceCtorEq,seval,h7,g4,o4,i0,ige,ei,si,Ev.row,e1,d1,d2,k1,k3,ckRow_cells,decide_true,v1,hw,b1,b2]
        exact ⟨i,by omega,(by repeat' (first | assumption | exact within_over.mpr trivial | exact Within.refl _ _ _ | (refine within_ap ?_ rfl rfl) | (refine within_ap0 ?_ rfl))),by omega,by simp only [stB,reduceIte,reduceCtorEq,seval],hres,by simp only [stB,reduceIte,reduceCtorEq,seval,g4],by simp only [stB,reduceIte,reduceCtorEq,seval,o4]⟩
def okN (l:List Ev) (e:Ev):Prop:=e.valid=true∧chk (l ++ [e])=(l ++ [e]).length
instance (l:List Ev) (e:Ev):Decidable (okN l e):=inferInstanceAs (Decidable (_∧_))
section
variable {l:List Ev} {n:Nat}
theorem evAt_take {i:Nat} (h:i < n):evAt (l.take n) i=evAt l i:=by
 unfold evAt;rw [List.getD_eq_getElem?_getD,List.getD_eq_getElem?_getD,List.getElem?_take,if_pos h]
theorem tsAt_take {j:Nat} (h:j≤n):tsAt (l.take n) j=tsAt l j:=by
 unfold tsAt;rw [List.take_take,Nat.min_eq_left h]
theorem chk_pre (hc:chk l=l.length) (hn:n≤l.length):chk (l.take n)=(l.take n).length:=by
 rw [List.length_take];unfold chk at hc ⊢;rw [TS.chk_take,hc];omega
end
theorem tabTo_take {l:List Ev} {n j:Nat} (h:j≤n):tabTo (l.take n) j=tabTo l j:=by
 induction j with
 | zero=>rfl
 | succ j ih=>unfold tabTo;rw [evAt_take h,ih (by omega)]
abbrev nilH:Hw:=.one (.d (.sc (.pointer none)))
theorem adv_nil {hp:Nat→Hb} {N:Nat} (hN:Free hp N) (e:Ev):∃ hp',R_adv hp [nilH,evW e] hp' [ckHw ckZ,.one (hI 11)]∧hp'=up hp (N+2) (.cells [.d (.sc (.pointer none))]):=by
 refine ⟨_,?_,rfl⟩;obtain ⟨nc,hnc⟩:∃ nc,nc=ncN N:=⟨_,rfl⟩
 have n2:nc (N+2)=3:=by rw [hnc];exact ncN_new
 refine ⟨by simp [ntt36],nc,?_⟩;unfold pct36;refine pwp_start ?_;simp only [↓evP,evB,stB,reduceIte,reduceCtorEq,seval,evW,paHw,Ev.pa,Ev.row];refine halS_box (cs:=[.d (.sc (.pointer none))]) (hs:=[.d (.sc (.pointer none))]) (N+2) (lay_of (by simp only [stB,reduceIte,reduceCtorEq,seval,n2]) (by (repeat' (first | exact AllHp.init | assumption | (refine AllHp.ap ?_ rfl)))) (by simp only [stB,reduceIte,reduceCtorEq,seval];exact hN.at_ 2)) (by simp only [stB,reduceIte,reduceCtorEq,seval]) (by simp only [stB,reduceIte,reduceCtorEq,seval]) ?_
 simp only [↓evP,evB,stB,reduceIte,reduceCtorEq,Nat.reduceEqDiff,Nat.reduceAdd,Nat.reduceMul,Nat.reduceLeDiff,Nat.reduceLT,Nat.reduceSub,Nat.reduceBEq,n2,prt36,ckHw,ckH,ckZ];rfl
theorem gor_nil {hp:Nat→Hb}:R_tgor hp [nilH] hp [.one (hI 0)]:=by
 refine ⟨by simp [ntt40],fun _=>1,?_⟩;unfold pct40;refine pwp_start ?_;simp only [↓evP,evB,stB,reduceIte,reduceCtorEq,Nat.reduceEqDiff,Nat.reduceAdd,Nat.reduceMul,Nat.reduceLeDiff,Nat.reduceLT,Nat.reduceSub,Nat.reduceBEq,prt40]
def R_objN (hp:Nat→Hb) (az:List Hw) (hp':Nat→Hb) (rs:List Hw):Prop:=az=[nilH]∧hp'=hp∧rs=[.one (hI 0)]
theorem s_objN:SpecH Try.prog 42 R_objN:=by
 refine spt42 .e0 ?_;rintro hp az hp' rs ⟨rfl,rfl,rfl⟩;refine ⟨by simp,fun _=>1,?_⟩;unfold pct42;refine pwp_start ?_;simp only [↓evP,evB,stB,reduceIte,reduceCtorEq,Nat.reduceEqDiff,Nat.reduceAdd,Nat.reduceMul,Nat.reduceLeDiff,Nat.reduceLT,Nat.reduceSub,Nat.reduceBEq,prt42]
def R_clnN (hp:Nat→Hb) (az:List Hw) (Post:(Nat→Hb)→List Hw→Prop):Prop:=az=[nilH]∧Post=fun h r=>h=hp∧r=[nilH]
theorem s_clnN:SpecP Try.prog 44 R_clnN:=by
 refine sqt44 envOK_cln ?_;rintro hp az Post ⟨rfl,rfl⟩;refine ⟨by simp,fun _=>1,?_⟩;unfold pct44;refine pwp_start ?_;simp only [↓evP,evB,stB,reduceIte,reduceCtorEq,Nat.reduceEqDiff,Nat.reduceAdd,Nat.reduceMul,Nat.reduceLeDiff,Nat.reduceLT,Nat.reduceSub,Nat.reduceBEq,prt44];exact ⟨_,_,rfl,fun b=>.inl rfl,rfl,rfl⟩
theorem rings_ok {l:List Ev} (hc:chk l=l.length) (hl:l.length≤1000) {k:Nat} (hk:k≤l.length) {hp:Nat→Hb} {b0:Nat} {D:Nat→Prop} {t:TabL} (h:TabAt hp b0 D t) (h1:t.p=tabTo l k) :
 ∀ o b1 b2 l1 l2,t.g o=some (b1,b2,l1,l2)→l1.length≤1000∧in64 o:=by
 intro o b1 b2 l1 l2 hg;have hT:TInv l k t.p:=by rw [h1];exact tab_inv hc (by omega) hk
 have hp1:t.p.g o=some (l1,l2):=by show (t.g o).map (·.2.2)=_;rw [hg];rfl
 obtain ⟨i,hi,hkd,ho⟩:=(hT.gs o).1 (by rw [hp1];rfl)
 have hil:i < l.length:=by omega
 have he:=evIn (val_at hc hil);have hn:=he.n
 have hcb:chanB (evAt l i).kind=true:=by unfold chanB;rcases hkd with q | q <;> rw [q] <;> decide
 have:=(hT.gn o _ hp1 i hil hcb ho).1;refine ⟨?_,by rw [←ho];exact he.obj⟩
 dsimp only at this;omega
theorem Left.aside {hp hp':Nat→Hb} {D D':Nat→Prop} {N N':Nat} (h:Left hp D N hp' D' N') {bc:Nat} {Dc:Nat→Prop} {tc:TabL} (hT:TabAt hp bc Dc tc) (hlt:∀ b,Dc b→b < N) (hd:∀ b,Dc b→¬ D b):TabAt hp' bc Dc tc∧(∀ b,Dc b→b < N')∧∀ b,Dc b→¬ D' b :=
 ⟨hT.frame fun b hb=>h.out b (hd b hb) (hlt b hb),fun b hb=>Nat.lt_of_lt_of_le (hlt b hb) h.le,fun b hb q=>(h.new b q).elim (hd b hb) (fun q=>by have:=hlt b hb;omega)⟩
theorem wrA {a k:Nat} (h:a+k≤1000000):IntKind.i64.wrap ((a:Int)+(k:Int))=((a+k:Nat):Int):=by
 rw [wr64 (by omega) (by omega)];omega
def R_cln37 (hp:Nat→Hb) (az:List Hw) (Post:(Nat→Hb)→List Hw→Prop):Prop:=∃ (l:List Ev) (n:Int),az=[paHw (evsPa l),.one (hI n)]∧hp=Z37∧Post=fun _ r=>r=[.one (.d (dB true))]
theorem SpecP.or {P:Program} {f:Nat} {R1 R2:(Nat→Hb)→List Hw→((Nat→Hb)→List Hw→Prop)→Prop} (h1:SpecP P f R1) (h2:SpecP P f R2):SpecP P f (fun hp az Post=>R1 hp az Post∨R2 hp az Post):=by
 rintro hp az Post (h | h)
 ·exact h1 _ _ _ h
 ·exact h2 _ _ _ h
def R_clnB (hp:Nat→Hb) (az:List Hw) (Post:(Nat→Hb)→List Hw→Prop):Prop:=R_tcln hp az Post∨R_clnN hp az Post
def env_cl37:Env:=p1 26 R_awake37 (p1 28 R_play (p1 44 R_clnB (h1 36 R_adv (h1 35 R_tclk (h1 40 R_tgor (h1 42 R_objN (e1 27 R_rvalid (e1 29 R_Stamps (e1 39 R_rtC e0)))))))))
theorem envOK_cl37:EnvOK Try.prog env_cl37:=.p1 s_awake37 (.p1 s_play (.p1 (s_tcln.or s_clnN) (.h1 s_adv (.h1 s_tclk (.h1 s_tgor (.h1 s_objN (.e1 s_rvalid (.e1 s_rStamps (.e1 s_rtC .e0)))))))))
theorem s_scl37:SpecP Try.prog 10 R_cln37:=by
 refine sql10 envOK_cl37 ?_;rintro hp az Post ⟨l,n,rfl,rfl,rfl⟩;refine ⟨by simp,fun _=>1,?_⟩;unfold pcl10;refine pwp_start ?_;simp only [↓evP,evB,stB,reduceIte,reduceCtorEq,Nat.reduceEqDiff,Nat.reduceAdd,Nat.reduceMul,Nat.reduceLeDiff,Nat.reduceLT,Nat.reduceSub,Nat.reduceBEq,paHw,evsPa,evsD];refine callPS_intro _ (by simp only [stB,reduceIte,reduceCtorEq,seval];exact ⟨0,rfl,Z37_free,rfl⟩) ?_
 rintro hp0 rs1 ⟨⟨D0,N0,hL0⟩,rfl⟩
 by_cases q1:(l.length:Int) > 40
 ·simp only [↓evP,evB,stB,reduceIte,reduceCtorEq,Nat.reduceEqDiff,Nat.reduceAdd,Nat.reduceMul,Nat.reduceLeDiff,Nat.reduceLT,Nat.reduceSub,Nat.reduceBEq,q1,decide_true,decide_false,prl10];exact ⟨_,_,rfl,fun b=>.inl rfl,rfl⟩
 have hlen:l.length≤1000:=by omega
 have hlen6:l.length≤1000000:=by omega
 simp only [↓evP,evB,stB,reduceIte,reduceCtorEq,Nat.reduceEqDiff,Nat.reduceAdd,Nat.reduceMul,Nat.reduceLeDiff,Nat.reduceLT,Nat.reduceSub,Nat.reduceBEq,q1,decide_true,decide_false];refine callOps_intro [pB (decide (chk l=l.length))] ⟨l,rfl,hlen6,rfl⟩ ?_
 by_cases hc:chk l=l.length
 ·by_cases q2:n < 0
  ·simp only [↓evP,evB,stB,reduceIte,reduceCtorEq,Nat.reduceEqDiff,Nat.reduceAdd,Nat.reduceMul,Nat.reduceLeDiff,Nat.reduceLT,Nat.reduceSub,Nat.reduceBEq,q1,q2,hc,decide_true,decide_false,prl10];exact ⟨_,_,rfl,fun b=>.inl rfl,rfl⟩
  by_cases q3:n > (l.length:Int)
  ·simp only [↓evP,evB,stB,reduceIte,reduceCtorEq,Nat.reduceEqDiff,Nat.reduceAdd,Nat.reduceMul,Nat.reduceLeDiff,Nat.reduceLT,Nat.reduceSub,Nat.reduceBEq,q1,q2,q3,hc,decide_true,decide_false,prl10];exact ⟨_,_,rfl,fun b=>.inl rfl,rfl⟩
  obtain ⟨a,rfl⟩:=Int.eq_ofNat_of_zero_le (show 0≤n by omega);have ha:a≤l.length:=by omega
  have ha0:(0:Int)≤(a:Int):=by omega
  have ha1:(a:Int)≤(l.length:Int):=by omega
  have hall:=rows_len (f:=Ev.row) (n:=9) (fun _=>rfl) l;have htk:(l.map Ev.row).take a=(l.take a).map Ev.row:=(List.map_take ..).symm;have hdr:((l.map Ev.row).take l.length).drop a=(l.drop a).map Ev.row:=by rw [List.take_of_length_le (by rw [List.length_map];exact Nat.le_refl _)];exact (List.map_drop ..).symm
  have hcp:=chk_pre hc ha;have hlp:(l.take a).length=a:=by rw [List.length_take];omega
  have hld:(l.drop a).length=l.length - a:=List.length_drop;obtain ⟨M,hM⟩:∃ M,l.take a=M:=⟨_,rfl⟩
  simp only [↓evP,evB,stB,reduceIte,reduceCtorEq,Nat.reduceEqDiff,Nat.reduceAdd,Nat.reduceMul,Nat.reduceLeDiff,Nat.reduceLT,Nat.reduceSub,Nat.reduceBEq,q1,q2,q3,hc,decide_true,decide_false,ha0,ha1,hall,htk,hM,Int.le_refl,Int.toNat_zero,Int.toNat_natCast,List.length_map,List.drop_zero];refine callPS_intro _ (by simp only [stB,reduceIte,reduceCtorEq,seval];exact ⟨M,N0,rfl,hL0.free,plays_valid (by rw [←hM];exact hcp) (by rw [←hM,hlp];omega),rfl⟩) ?_
  intro hp2 rs2 hq;obtain ⟨b,D2,N2,t,hT,⟨e1,e2,e3⟩,hL2,rfl⟩:=played_valid (by rw [←hM];exact hcp) (by rw [←hM,hlp];omega) hq
  have f1:t.p=tabTo l a:=by rw [e1,←hM,hlp,tabTo_take (Nat.le_refl _)]
  have f2:t.st=tsAt l a:=by rw [e2,←hM,hlp,tsAt_take (Nat.le_refl _)]
  have f3:t.sn≤2 * a:=by rw [←hM,hlp] at e3;exact e3
  have hro:=rings_ok hc hlen ha hT f1;have hwf:t.st.wf:=by rw [f2];exact (tsAt_good hc ha).2.1
  simp only [↓evP,evB,stB,reduceIte,reduceCtorEq,Nat.reduceEqDiff,Nat.reduceAdd,Nat.reduceMul,Nat.reduceLeDiff,Nat.reduceLT,Nat.reduceSub,Nat.reduceBEq,decide_true,decide_false];refine callPS_intro _ (by simp only [stB,reduceIte,reduceCtorEq,seval];exact .inl ⟨b,N2,D2,t,rfl,hT,hL2.lt,hL2.free,⟨hwf,hro⟩,rfl⟩) ?_
  rintro hp3 rs3 ⟨D3,u,N3,rfl,hU,⟨g1,g2,g3,_,_⟩,hL3⟩;have hT3:TabAt hp3 b D2 t:=hT.frame fun b hb=>hL3.out b (fun q=>q.elim) (hL2.lt b hb)
  simp only [↓evP,evB,stB,reduceIte,reduceCtorEq,Nat.reduceEqDiff,Nat.reduceAdd,Nat.reduceMul,Nat.reduceLeDiff,Nat.reduceLT,Nat.reduceSub,Nat.reduceBEq];refine callOps_intro [cksPa (stOf l),pI (errOf l)] ⟨l,rfl,hlen6,rfl⟩ ?_;have hs:stOf l=stampsL l:=by unfold stOf;rw [if_pos hc]
  have he1:errOf l=0:=by unfold errOf;rw [if_pos hc]
  have hsl:=stampsL_length l
  have hrl:∀ r ∈ rowsOf (stampsL l),r.length=8:=fun r hr=>by
   obtain ⟨c,hcm,rfl⟩:=List.mem_map.1 hr;unfold ckRow;rw [List.length_map];exact (stampsL_ok l c hcm).1
  rw [hs,he1];have hww:l.length≤1000000:=hlen6;simp only [↓evP,evB,stB,reduceIte,reduceCtorEq,Nat.reduceEqDiff,Nat.reduceAdd,Nat.reduceMul,Nat.reduceLeDiff,Nat.reduceLT,Nat.reduceSub,Nat.reduceBEq,cksPa,ha0,ha1,hall,hdr,hld,Int.le_refl,Int.toNat_zero,Int.toNat_natCast,List.length_map,List.drop_zero];refine pwp_loopH msl10_0 osl10_0 (fun m st=>∃ k D t' N',m=(l.length - a) - k∧k≤l.length - a∧st.sl 66=aI k∧TabAt st.hb b D t'∧(t'.p=tabTo l (a+k)∧t'.st=tsAt l (a+k)∧t'.sn≤2 * (a+k))∧(TabAt st.hb (N2+3) D3 u∧(∀ x,D3 x→x < N')∧∀ x,D3 x→¬ D x)∧(∀ x,D x→x < N')∧Free st.hb N') (l.length - a) (by (repeat' (first | exact AllHp.init | assumption | (refine AllHp.ap ?_ rfl)))) ?_ ?_
  ·exact ⟨0,D2,t,N3,rfl,Nat.zero_le _,by simp only [stB,reduceIte,reduceCtorEq,Nat.reduceEqDiff,Nat.reduceAdd,Nat.reduceMul,Nat.reduceLeDiff,Nat.reduceLT,Nat.reduceSub,Nat.reduceBEq];rfl,by simp only [stB,reduceIte,reduceCtorEq,Nat.reduceEqDiff,Nat.reduceAdd,Nat.reduceMul,Nat.reduceLeDiff,Nat.reduceLT,Nat.reduceSub,Nat.reduceBEq];exact hT3,⟨f1,f2,f3⟩,⟨by simp only [stB,reduceIte,reduceCtorEq,Nat.reduceEqDiff,Nat.reduceAdd,Nat.reduceMul,Nat.reduceLeDiff,Nat.reduceLT,Nat.reduceSub,Nat.reduceBEq];exact hU,hL3.lt,fun x q=>by
    have:=hL2.lt x
    rcases hL3.new x q with q2 | q2
    ·exact q2.elim
    ·exact fun q3=>by have:=this q3;omega⟩,fun x q=>Nat.lt_of_lt_of_le (hL2.lt x q) hL3.le,by simp only [stB,reduceIte,reduceCtorEq,Nat.reduceEqDiff,Nat.reduceAdd,Nat.reduceMul,Nat.reduceLeDiff,Nat.reduceLT,Nat.reduceSub,Nat.reduceBEq];exact hL3.free⟩
  rintro m j hjn hja ⟨k,D,t',N',rfl,hk,h66,hT',⟨p1,p2,p3⟩,⟨hU',hU2,hU3⟩,hlt,hfr⟩;simp only [stB,reduceIte,reduceCtorEq,Nat.reduceEqDiff,Nat.reduceAdd,Nat.reduceMul,Nat.reduceLeDiff,Nat.reduceLT,Nat.reduceSub,Nat.reduceBEq,hjn] at h66 hT' hU' hfr
  rcases Nat.lt_or_ge k (l.length - a) with hkl | hge
  ·have hak:a+k < l.length:=by omega
   have hle:(l.drop a)[k]? = some (evAt l (a+k)):=by rw [List.getElem?_drop];exact evAt_get hak
   obtain ⟨hp5,D5,t5,hR5,hT5,⟨r1,r2,r3⟩,hL5⟩:=adv_valid hc hlen hak hT' hlt hfr p1 p2 p3;obtain ⟨hU4,hU5,hU6⟩:=hL5.aside hU' hU2 hU3;have n1:=stp_len (l:=l) (j:=a+k);obtain ⟨S,hS⟩:∃ S,stp l (a+k)=S:=⟨_,rfl⟩
   have r4:(stampsL l)[a+k]? = some S:=by rw [←hS];exact stp_get hak
   rw [hS] at hR5 n1;obtain ⟨y1,y2⟩:=ckLd n1;have z1:(ckCells S).length=8:=by rw [ckCells_length,n1]
   have v1:=wr_new8 n1
   have heS:eqCls [false,false,false,false,false,false,false,false] (ckCells S) (ckCells S)=some true:=by
    have:=eqCls_ck (a:=S) (b:=S) rfl;rw [n1,decide_eq_true rfl] at this;exact this
   have klt:(k:Int) < ((l.length - a:Nat):Int):=by omega
   have k0:(0:Int)≤(k:Int):=by omega
   have k1:(0:Int)≤((a+k:Nat):Int):=by omega
   have hw:=wrA (a:=a) (k:=k) (by omega);simp only [↓evP,evB,stB,reduceIte,reduceCtorEq,Nat.reduceEqDiff,Nat.reduceAdd,Nat.reduceMul,Nat.reduceLeDiff,Nat.reduceLT,Nat.reduceSub,Nat.reduceBEq,h66,klt,decide_true,hle,k0,Ev.row];refine callHS_intro hp5 [ckHw S,.one (hI 0)] (by simp only [stB,reduceIte,reduceCtorEq,Nat.reduceEqDiff,Nat.reduceAdd,Nat.reduceMul,Nat.reduceLeDiff,Nat.reduceLT,Nat.reduceSub,Nat.reduceBEq,hjn];exact hR5) ?_
   have rl:(ckRow S).length=8:=by unfold ckRow;rw [List.length_map,n1]
   simp only [↓evP,evB,stB,reduceIte,reduceCtorEq,Nat.reduceEqDiff,Nat.reduceAdd,Nat.reduceMul,Nat.reduceLeDiff,Nat.reduceLT,Nat.reduceSub,Nat.reduceBEq,h66,ckHw,ckH_cl,y1,y2,z1,v1,bne_self_eq_false,hw,k1,r4,ckRow_cells,heS,rl];refine ⟨(by unfold Drw;refine Eq.trans (b:=true) ?_ rfl;kernel_rfl),?_⟩
   exact ⟨(l.length - a) - (k+1),by omega,(by repeat' (first | assumption | exact withinH_over hja | (refine withinH_ap ?_ rfl rfl) | (refine withinH_ap0 ?_ rfl))),k+1,D5,t5,N'+80,rfl,by omega,by simp only [stB,reduceIte,reduceCtorEq,Nat.reduceEqDiff,Nat.reduceAdd,Nat.reduceMul,Nat.reduceLeDiff,Nat.reduceLT,Nat.reduceSub,Nat.reduceBEq,h66];rw [wrN (by omega)],by simp only [stB,reduceIte,reduceCtorEq,Nat.reduceEqDiff,Nat.reduceAdd,Nat.reduceMul,Nat.reduceLeDiff,Nat.reduceLT,Nat.reduceSub,Nat.reduceBEq];exact hT5,⟨r1,r2,r3⟩,⟨by simp only [stB,reduceIte,reduceCtorEq,Nat.reduceEqDiff,Nat.reduceAdd,Nat.reduceMul,Nat.reduceLeDiff,Nat.reduceLT,Nat.reduceSub,Nat.reduceBEq];exact hU4,hU5,hU6⟩,hL5.lt,by simp only [stB,reduceIte,reduceCtorEq,Nat.reduceEqDiff,Nat.reduceAdd,Nat.reduceMul,Nat.reduceLeDiff,Nat.reduceLT,Nat.reduceSub,Nat.reduceBEq];exact hL5.free⟩
  have hke:k=l.length - a:=by omega
  have klt:¬ (k:Int) < ((l.length - a:Nat):Int):=by omega
  have hkl:a+k=l.length:=by omega
  rw [hkl] at p1 p2 p3;have hwu:u.st.wf:=by rw [g2];exact hwf
  have hru:=rings_ok hc hlen ha hU' (g1.trans f1);simp only [↓evP,evB,stB,reduceIte,reduceCtorEq,Nat.reduceEqDiff,Nat.reduceAdd,Nat.reduceMul,Nat.reduceLeDiff,Nat.reduceLT,Nat.reduceSub,Nat.reduceBEq,h66,klt,decide_false];refine callPS_intro _ (by simp only [stB,reduceIte,reduceCtorEq,Nat.reduceEqDiff,Nat.reduceAdd,Nat.reduceMul,Nat.reduceLeDiff,Nat.reduceLT,Nat.reduceSub,Nat.reduceBEq,hjn];exact .inl ⟨N2+3,N',D3,u,rfl,hU',hU2,hfr,⟨hwu,hru⟩,rfl⟩) ?_
  rintro hp6 rs6 ⟨D6,v,N6,rfl,hV,⟨w1,w2,w3,_,_⟩,hL6⟩;have hT6:TabAt hp6 b D t':=hT'.frame fun b hb=>hL6.out b (fun q=>q.elim) (hlt b hb)
  have hU6:TabAt hp6 (N2+3) D3 u:=hU'.frame fun b hb=>hL6.out b (fun q=>q.elim) (hU2 b hb)
  simp only [↓evP,evB,stB,reduceIte,reduceCtorEq,Nat.reduceEqDiff,Nat.reduceAdd,Nat.reduceMul,Nat.reduceLeDiff,Nat.reduceLT,Nat.reduceSub,Nat.reduceBEq,h66,ha0,ha1,hall,hdr,hld,Int.le_refl,Int.toNat_zero,Int.toNat_natCast,List.length_map,List.drop_zero];refine pwp_loopH msl10_1 osl10_1 (fun m st=>∃ k E c' N4,m=(l.length - a) - k∧k≤l.length - a∧st.sl 96=aI k∧TabAt st.hb (N2+3) E c'∧(c'.p=tabTo l (a+k)∧c'.st=tsAt l (a+k)∧c'.sn≤2 * (a+k))∧(TabAt st.hb b D t'∧(∀ x,D x→x < N4)∧∀ x,D x→¬ E x)∧(TabAt st.hb (N'+3) D6 v∧(∀ x,D6 x→x < N4)∧∀ x,D6 x→¬ E x)∧(∀ x,E x→x < N4)∧Free st.hb N4) (l.length - a) (by repeat' (first | exact overH_hp hja | (refine AllHp.ap ?_ rfl))) ?_ ?_
  ·exact ⟨0,D3,u,N6,rfl,Nat.zero_le _,by simp only [stB,reduceIte,reduceCtorEq,Nat.reduceEqDiff,Nat.reduceAdd,Nat.reduceMul,Nat.reduceLeDiff,Nat.reduceLT,Nat.reduceSub,Nat.reduceBEq];rfl,by simp only [stB,reduceIte,reduceCtorEq,Nat.reduceEqDiff,Nat.reduceAdd,Nat.reduceMul,Nat.reduceLeDiff,Nat.reduceLT,Nat.reduceSub,Nat.reduceBEq];exact hU6,⟨g1.trans f1,g2.trans f2,by rw [g3];exact f3⟩,⟨by simp only [stB,reduceIte,reduceCtorEq,Nat.reduceEqDiff,Nat.reduceAdd,Nat.reduceMul,Nat.reduceLeDiff,Nat.reduceLT,Nat.reduceSub,Nat.reduceBEq];exact hT6,fun x q=>Nat.lt_of_lt_of_le (hlt x q) hL6.le,fun x q q2=>hU3 x q2 q⟩,⟨by simp only [stB,reduceIte,reduceCtorEq,Nat.reduceEqDiff,Nat.reduceAdd,Nat.reduceMul,Nat.reduceLeDiff,Nat.reduceLT,Nat.reduceSub,Nat.reduceBEq];exact hV,hL6.lt,fun x q=>by
    rcases hL6.new x q with q2 | q2
    ·exact q2.elim
    ·exact fun q3=>by have:=hU2 x q3;omega⟩,fun x q=>Nat.lt_of_lt_of_le (hU2 x q) hL6.le,by simp only [stB,reduceIte,reduceCtorEq,Nat.reduceEqDiff,Nat.reduceAdd,Nat.reduceMul,Nat.reduceLeDiff,Nat.reduceLT,Nat.reduceSub,Nat.reduceBEq];exact hL6.free⟩
  clear hT' hU' hT6 hU6 hfr hV;rintro m j2 hjn2 hja2 ⟨k2,E,c',N4,rfl,hk2,h96,hC,⟨p4,p5,p6⟩,⟨hT',hT7,hT8⟩,⟨hV,hV2,hV3⟩,hlt4,hfr⟩;simp only [stB,reduceIte,reduceCtorEq,Nat.reduceEqDiff,Nat.reduceAdd,Nat.reduceMul,Nat.reduceLeDiff,Nat.reduceLT,Nat.reduceSub,Nat.reduceBEq,hjn,hjn2] at h96 hC hT' hV hfr
  rcases Nat.lt_or_ge k2 (l.length - a) with hkl2 | hge2
  ·have hak:a+k2 < l.length:=by omega
   have hle:(l.drop a)[k2]? = some (evAt l (a+k2)):=by rw [List.getElem?_drop];exact evAt_get hak
   obtain ⟨hp5,D5,t5,hR5,hT5,⟨r1,r2,r3⟩,hL5⟩:=adv_valid hc hlen hak hC hlt4 hfr p4 p5 p6;obtain ⟨hU4,hU5,hU6⟩:=hL5.aside hT' hT7 hT8;obtain ⟨hV4,hV5,hV6⟩:=hL5.aside hV hV2 hV3;have n1:=stp_len (l:=l) (j:=a+k2);obtain ⟨S,hS⟩:∃ S,stp l (a+k2)=S:=⟨_,rfl⟩
   have r4:(stampsL l)[a+k2]? = some S:=by rw [←hS];exact stp_get hak
   rw [hS] at hR5 n1;obtain ⟨y1,y2⟩:=ckLd n1;have z1:(ckCells S).length=8:=by rw [ckCells_length,n1]
   have v1:=wr_new8 n1
   have heS:eqCls [false,false,false,false,false,false,false,false] (ckCells S) (ckCells S)=some true:=by
    have:=eqCls_ck (a:=S) (b:=S) rfl;rw [n1,decide_eq_true rfl] at this;exact this
   have klt:(k2:Int) < ((l.length - a:Nat):Int):=by omega
   have k0:(0:Int)≤(k2:Int):=by omega
   have k1:(0:Int)≤((a+k2:Nat):Int):=by omega
   have hw:=wrA (a:=a) (k:=k2) (by omega);simp only [↓evP,evB,stB,reduceIte,reduceCtorEq,Nat.reduceEqDiff,Nat.reduceAdd,Nat.reduceMul,Nat.reduceLeDiff,Nat.reduceLT,Nat.reduceSub,Nat.reduceBEq,h66,h96,klt,decide_true,hle,k0,Ev.row];refine callHS_intro hp5 [ckHw S,.one (hI 0)] (by simp only [stB,reduceIte,reduceCtorEq,Nat.reduceEqDiff,Nat.reduceAdd,Nat.reduceMul,Nat.reduceLeDiff,Nat.reduceLT,Nat.reduceSub,Nat.reduceBEq,hjn,hjn2];exact hR5) ?_
   have rl:(ckRow S).length=8:=by unfold ckRow;rw [List.length_map,n1]
   simp only [↓evP,evB,stB,reduceIte,reduceCtorEq,Nat.reduceEqDiff,Nat.reduceAdd,Nat.reduceMul,Nat.reduceLeDiff,Nat.reduceLT,Nat.reduceSub,Nat.reduceBEq,h96,ckHw,ckH_cl,y1,y2,z1,v1,bne_self_eq_false,hw,k1,r4,ckRow_cells,heS,rl];refine ⟨(by unfold Drw;refine Eq.trans (b:=true) ?_ rfl;kernel_rfl),?_⟩
   exact ⟨(l.length - a) - (k2+1),by omega,(by repeat' (first | assumption | exact withinH_over hja2 | (refine withinH_ap ?_ rfl rfl) | (refine withinH_ap0 ?_ rfl))),k2+1,D5,t5,N4+80,rfl,by omega,by simp only [stB,reduceIte,reduceCtorEq,Nat.reduceEqDiff,Nat.reduceAdd,Nat.reduceMul,Nat.reduceLeDiff,Nat.reduceLT,Nat.reduceSub,Nat.reduceBEq,h96];rw [wrN (by omega)],by simp only [stB,reduceIte,reduceCtorEq,Nat.reduceEqDiff,Nat.reduceAdd,Nat.reduceMul,Nat.reduceLeDiff,Nat.reduceLT,Nat.reduceSub,Nat.reduceBEq];exact hT5,⟨r1,r2,r3⟩,⟨by simp only [stB,reduceIte,reduceCtorEq,Nat.reduceEqDiff,Nat.reduceAdd,Nat.reduceMul,Nat.reduceLeDiff,Nat.reduceLT,Nat.reduceSub,Nat.reduceBEq];exact hU4,hU5,hU6⟩,⟨by simp only [stB,reduceIte,reduceCtorEq,Nat.reduceEqDiff,Nat.reduceAdd,Nat.reduceMul,Nat.reduceLeDiff,Nat.reduceLT,Nat.reduceSub,Nat.reduceBEq];exact hV4,hV5,hV6⟩,hL5.lt,by simp only [stB,reduceIte,reduceCtorEq,Nat.reduceEqDiff,Nat.reduceAdd,Nat.reduceMul,Nat.reduceLeDiff,Nat.reduceLT,Nat.reduceSub,Nat.reduceBEq];exact hL5.free⟩
  have hke2:k2=l.length - a:=by omega
  have klt2:¬ (k2:Int) < ((l.length - a:Nat):Int):=by omega
  have hkl2:a+k2=l.length:=by omega
  rw [hkl2] at p4 p5 p6;simp only [↓evP,evB,stB,reduceIte,reduceCtorEq,Nat.reduceEqDiff,Nat.reduceAdd,Nat.reduceMul,Nat.reduceLeDiff,Nat.reduceLT,Nat.reduceSub,Nat.reduceBEq,h96,klt2,decide_false,ha0,ha1,hall,htk,hM,Int.le_refl,Int.toNat_zero,Int.toNat_natCast,List.length_map,List.drop_zero];refine pwp_loopH msl10_2 osl10_2 (fun m st=>∃ k:Nat,m=8 - k∧k≤8∧st.sl 124=aI k∧st.hb=j2.hb) 8 (by repeat' (first | exact overH_hp hja2 | (refine AllHp.ap ?_ rfl))) ?_ ?_
  ·exact ⟨0,rfl,Nat.zero_le _,by simp only [stB,reduceIte,reduceCtorEq,Nat.reduceEqDiff,Nat.reduceAdd,Nat.reduceMul,Nat.reduceLeDiff,Nat.reduceLT,Nat.reduceSub,Nat.reduceBEq];rfl,by simp only [stB,reduceIte,reduceCtorEq,Nat.reduceEqDiff,Nat.reduceAdd,Nat.reduceMul,Nat.reduceLeDiff,Nat.reduceLT,Nat.reduceSub,Nat.reduceBEq,hjn,hjn2]⟩
  rintro m j3 hjn3 hja3 ⟨k3,rfl,hk3,h124,hh⟩;simp only [stB,reduceIte,reduceCtorEq,Nat.reduceEqDiff,Nat.reduceAdd,Nat.reduceMul,Nat.reduceLeDiff,Nat.reduceLT,Nat.reduceSub,Nat.reduceBEq,hjn,hjn2,hjn3] at h124 hh
  rcases Nat.lt_or_ge k3 8 with hlt3 | hge3
  ·have c3:=clk_run hV (k3:Int);have c4:=clk_run hT' (k3:Int);have c5:=clk_run hC (k3:Int);have hMc:chk M=M.length:=by rw [←hM];exact hcp
   have hMl:M.length≤1000:=by rw [←hM,hlp];omega
   rw [w1,g1,e1,clock_eq hMc hMl (Nat.le_refl _)] at c3;rw [p1,clock_eq hc hlen (Nat.le_refl _)] at c4;rw [p4,clock_eq hc hlen (Nat.le_refl _)] at c5;have rC:R_rtC [tabPa M,pI (k3:Int)] [ckPa (clkR M (k3:Int) M.length)]:=⟨M,k3,rfl,⟨hMc,by omega⟩,rfl⟩;have n2:=clkR_len (l:=M) (j:=M.length) (k3:Int);have n3:=clkR_len (l:=l) (j:=l.length) (k3:Int);generalize clkR M (k3:Int) M.length=A at *;generalize clkR l (k3:Int) l.length=B at *;obtain ⟨y3,y4⟩:=ckLd n2;obtain ⟨y5,y6⟩:=ckLd n3;have z2:(ckCells A).length=8:=by rw [ckCells_length,n2]
   have z3:(ckCells B).length=8:=by rw [ckCells_length,n3]
   have heA:eqCls [false,false,false,false,false,false,false,false] (ckCells A) (ckCells A)=some true:=by
    have:=eqCls_ck (a:=A) (b:=A) rfl;rw [n2,decide_eq_true rfl] at this;exact this
   have heB:eqCls [false,false,false,false,false,false,false,false] (ckCells B) (ckCells B)=some true:=by
    have:=eqCls_ck (a:=B) (b:=B) rfl;rw [n3,decide_eq_true rfl] at this;exact this
   have klt:(k3:Int) < 8:=by omega
   simp only [↓evP,evB,stB,reduceIte,reduceCtorEq,Nat.reduceEqDiff,Nat.reduceAdd,Nat.reduceMul,Nat.reduceLeDiff,Nat.reduceLT,Nat.reduceSub,Nat.reduceBEq,h124,hh,klt,decide_true];refine callHD_intro j2.hb [ckHw A] (by simp only [stB,reduceIte,reduceCtorEq,Nat.reduceEqDiff,Nat.reduceAdd,Nat.reduceMul,Nat.reduceLeDiff,Nat.reduceLT,Nat.reduceSub,Nat.reduceBEq,hjn,hjn2,hjn3,hh];exact c3) ?_
   simp only [↓evP,evB,stB,reduceIte,reduceCtorEq,Nat.reduceEqDiff,Nat.reduceAdd,Nat.reduceMul,Nat.reduceLeDiff,Nat.reduceLT,Nat.reduceSub,Nat.reduceBEq,h124,hh,ckHw,ckH_cl,y3,y4,z2,pI];refine callD_intro [ckPa A] (by exact rC) ?_;simp only [↓evP,evB,stB,reduceIte,reduceCtorEq,Nat.reduceEqDiff,Nat.reduceAdd,Nat.reduceMul,Nat.reduceLeDiff,Nat.reduceLT,Nat.reduceSub,Nat.reduceBEq,h124,hh,ckHw,ckH_cl,ckPa,ckRow_cells,y3,y4,z2,heA];refine callHD_intro j2.hb [ckHw B] (by simp only [stB,reduceIte,reduceCtorEq,Nat.reduceEqDiff,Nat.reduceAdd,Nat.reduceMul,Nat.reduceLeDiff,Nat.reduceLT,Nat.reduceSub,Nat.reduceBEq,hjn,hjn2,hjn3,hh];exact c4) ?_
   simp only [↓evP,evB,stB,reduceIte,reduceCtorEq,Nat.reduceEqDiff,Nat.reduceAdd,Nat.reduceMul,Nat.reduceLeDiff,Nat.reduceLT,Nat.reduceSub,Nat.reduceBEq,h124,hh,ckHw,ckH_cl,ckPa,ckRow_cells,y5,y6,z3,heB];refine callHD_intro j2.hb [ckHw B] (by simp only [stB,reduceIte,reduceCtorEq,Nat.reduceEqDiff,Nat.reduceAdd,Nat.reduceMul,Nat.reduceLeDiff,Nat.reduceLT,Nat.reduceSub,Nat.reduceBEq,hjn,hjn2,hjn3,hh];exact c5) ?_
   simp only [↓evP,evB,stB,reduceIte,reduceCtorEq,Nat.reduceEqDiff,Nat.reduceAdd,Nat.reduceMul,Nat.reduceLeDiff,Nat.reduceLT,Nat.reduceSub,Nat.reduceBEq,h124,hh,ckHw,ckH_cl,ckPa,ckRow_cells,y5,y6,z3,heB];refine ⟨(by unfold Drw;refine Eq.trans (b:=true) ?_ rfl;kernel_rfl),?_⟩
   exact ⟨8 - (k3+1),by omega,(by repeat' (first | assumption | exact withinH_over hja3 | (refine withinH_ap ?_ rfl rfl) | (refine withinH_ap0 ?_ rfl))),k3+1,rfl,hlt3,by simp only [stB,reduceIte,reduceCtorEq,Nat.reduceEqDiff,Nat.reduceAdd,Nat.reduceMul,Nat.reduceLeDiff,Nat.reduceLT,Nat.reduceSub,Nat.reduceBEq,h124];rw [wrN (by omega)],by simp only [stB,reduceIte,reduceCtorEq,Nat.reduceEqDiff,Nat.reduceAdd,Nat.reduceMul,Nat.reduceLeDiff,Nat.reduceLT,Nat.reduceSub,Nat.reduceBEq,hh]⟩
  have hk8:k3=8:=by omega
  subst hk8;have klt:¬ ((8:Nat):Int) < 8:=by omega
  have hss:(rowsOf (stampsL M)).length=a:=by unfold rowsOf;rw [List.length_map,stampsL_length,←hM,hlp]
  obtain ⟨hp7,hR7,hh7⟩:=adv_nil hfr ⟨0,1,0,0,0,0,0,0,0⟩;simp only [↓evP,evB,stB,reduceIte,reduceCtorEq,Nat.reduceEqDiff,Nat.reduceAdd,Nat.reduceMul,Nat.reduceLeDiff,Nat.reduceLT,Nat.reduceSub,Nat.reduceBEq,h124,hh,klt,decide_false];refine callHS_intro hp7 [ckHw ckZ,.one (hI 11)] (by simp only [stB,reduceIte,reduceCtorEq,Nat.reduceEqDiff,Nat.reduceAdd,Nat.reduceMul,Nat.reduceLeDiff,Nat.reduceLT,Nat.reduceSub,Nat.reduceBEq,hjn,hjn2,hjn3,hh];exact hR7) ?_
  have lz:(ckCells ckZ).length=8:=rfl;have vz:=wr_new8 (c:=ckZ) rfl;simp only [↓evP,evB,stB,reduceIte,reduceCtorEq,Nat.reduceEqDiff,Nat.reduceAdd,Nat.reduceMul,Nat.reduceLeDiff,Nat.reduceLT,Nat.reduceSub,Nat.reduceBEq,ckHw,ckH_cl,hss,lz,vz,beq_self_eq_true];refine callPS_intro _ (by simp only [stB,reduceIte,reduceCtorEq,Nat.reduceEqDiff,Nat.reduceAdd,Nat.reduceMul,Nat.reduceLeDiff,Nat.reduceLT,Nat.reduceSub,Nat.reduceBEq,hjn,hjn2,hjn3];exact .inr ⟨rfl,rfl⟩) ?_
  rintro hp8 rs8 ⟨rfl,rfl⟩;simp only [↓evP,evB,stB,reduceIte,reduceCtorEq,Nat.reduceEqDiff,Nat.reduceAdd,Nat.reduceMul,Nat.reduceLeDiff,Nat.reduceLT,Nat.reduceSub,Nat.reduceBEq];refine callHS_intro hp8 [.one (hI 0)] (by simp only [stB,reduceIte,reduceCtorEq,Nat.reduceEqDiff,Nat.reduceAdd,Nat.reduceMul,Nat.reduceLeDiff,Nat.reduceLT,Nat.reduceSub,Nat.reduceBEq];exact ⟨rfl,rfl,rfl⟩) ?_
  simp only [↓evP,evB,stB,reduceIte,reduceCtorEq,Nat.reduceEqDiff,Nat.reduceAdd,Nat.reduceMul,Nat.reduceLeDiff,Nat.reduceLT,Nat.reduceSub,Nat.reduceBEq,beq_self_eq_true];refine callHS_intro hp8 [.one (hI 0)] (by simp only [stB,reduceIte,reduceCtorEq,Nat.reduceEqDiff,Nat.reduceAdd,Nat.reduceMul,Nat.reduceLeDiff,Nat.reduceLT,Nat.reduceSub,Nat.reduceBEq];exact gor_nil) ?_
  simp only [↓evP,evB,stB,reduceIte,reduceCtorEq,Nat.reduceEqDiff,Nat.reduceAdd,Nat.reduceMul,Nat.reduceLeDiff,Nat.reduceLT,Nat.reduceSub,Nat.reduceBEq,beq_self_eq_true,prl10];exact ⟨_,_,rfl,fun b=>.inl rfl,rfl⟩
 ·simp only [↓evP,evB,stB,reduceIte,reduceCtorEq,Nat.reduceEqDiff,Nat.reduceAdd,Nat.reduceMul,Nat.reduceLeDiff,Nat.reduceLT,Nat.reduceSub,Nat.reduceBEq,q1,hc,decide_true,decide_false,prl10];exact ⟨_,_,rfl,fun b=>.inl rfl,rfl⟩
end Go.Proofs.Ytffcpijeebagfaa
end
section
namespace Go.Proofs.Ytffcpijeebagfaa
open Go Go.RowKit Go.WideShapes Go.ChangeShapes Go.Deep
theorem trodAll_below {H:Type} {enc:TypeId×Value→H} {P:Program} (hl:laidOutB P=true) {W W':World} (hb:Below W.heap.size W W') :
 ∀ {ts:List TypeId} {vs:List Value} {ds:List (DataW H)} {ps:List MemPlace},(ts.all fun t=>P.readableRec t && decide (t < P.types.size))=true→DataW.TrodAll enc P W 0 (fun _=>true) true ts vs ds ps→DataW.TrodAll enc P W' 0 (fun b=>decide (b < W.heap.size)) true ts vs ds ps
 | [],vs,ds,ps,_,h=>by obtain ⟨rfl,rfl,rfl⟩:=trodAll_nil h;exact trodAll_mk0
 | t :: ts,vs,ds,ps,ht,h=>by
   obtain ⟨v,vs',d,ds',p,q,rfl,rfl,rfl,h1,h2⟩:=trodAll_cons h;simp only [List.all_cons,Bool.and_eq_true,decide_eq_true_eq] at ht;have lt:∀ x ∈ p,x.block < W.heap.size:=by obtain ⟨m,hm⟩:=h1;exact DataW.trod_lt m _ _ _ hm
   exact trodAll_cons_mk (Below.trod hl ht.1.1 ht.1.2 h1 hb lt) (trodAll_below hl hb (by rw [Bool.eq_iff_iff] at *;simpa using ht.2) h2)
theorem Spec.true [I:WInv] {P:Program} {f:Nat} {R:List Pa→List Pa→Prop} (hs:Spec P f R) {ps:List Pa} (hR:R ps [pB true]) {S:Nat→Nat} {w:World} {vals:Array Value} (hw:I.p w) (hv:RPs S w ps vals) :
 Calls P f vals w fun e w'=>e=.returned (.bool true)∧Below w.heap.size w w':=by
 refine (hs ps _ hR S w vals hw hv).mono ?_;rintro e w' ⟨v,S',rfl,h1,h2,_⟩;exact ⟨by rw [RP.bool h1],h2⟩
end Go.Proofs.Ytffcpijeebagfaa
end
