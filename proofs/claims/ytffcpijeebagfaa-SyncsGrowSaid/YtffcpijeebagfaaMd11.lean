/- The reference of chapter 30: Add. -/
import Derived.Test.YtffcpijeebagfaaMd10
import Derived.OpenShut
set_option linter.unusedSimpArgs false
set_option linter.unusedVariables false
section
namespace Go.Proofs.Ytffcpijeebagfaa
open Go Go.RowKit
set_option maxRecDepth 100000
set_option maxHeartbeats 4000000
theorem RSt.counted_count (s:RSt) (e:Ev):(s.counted e).count=s.count:=by
 unfold RSt.counted RSt.setChannel;split <;> rfl
theorem RSt.partR_count (s:RSt) (e:Ev):(s.partR e).1.count=s.count:=by
 unfold RSt.partR RSt.groupR RSt.transferR RSt.otherR RSt.begin RSt.setChannel RSt.setLock
 repeat' split
 all_goals first | rfl | (rw [RSt.counted_count])
def R_Add (ps rs:List Pa):Prop:=∃ (s:RSt) (e:Ev),ps=[s.pa,e.pa]∧s.ok∧rs=[(s.addR e).1.pa,pB (s.addR e).2]
def env_Add:Env:=e1 64 R_valid20 (e1 66 R_channel20 (e1 65 R_group (e1 67 R_transfer (e1 68 R_other e0))))
theorem env_Add_ok:EnvOK Try.prog env_Add:=EnvOK.e1 s_valid20 (EnvOK.e1 s_channel20 (EnvOK.e1 s_group (EnvOK.e1 s_transfer (EnvOK.e1 s_other EnvOK.e0))))
theorem s_Add:Spec Try.prog 22 R_Add:=by
 refine sp22 env_Add_ok ?_;rintro ps rs ⟨s,e,rfl,hok,rfl⟩;refine ⟨by simp,?_⟩;unfold pc22;refine pwp_start ?_;simp only [↓evP,evB,stB,reduceIte,reduceCtorEq,seval,RSt.pa,RSt.row,Ev.pa,Ev.row];refine callOps_intro [pB e.valid] ⟨e,rfl,rfl⟩ ?_
 cases hv:e.valid with
 | false =>
   have ha:s.addR e=(s,false):=by unfold RSt.addR RSt.admits;rw [hv];rfl
   rw [ha];simp only [↓evP,evB,stB,reduceIte,reduceCtorEq,seval,hv,RSt.pa,RSt.row,pr22]
 | true =>
 by_cases b1:s.count≥5000
 ·have ha:s.addR e=(s,false):=by unfold RSt.addR RSt.admits;rw [decide_eq_false (show ¬ s.count < 5000 by omega)];simp
  rw [ha];simp only [↓evP,evB,stB,reduceIte,reduceCtorEq,seval,hv,b1,decide_true,decide_false,RSt.pa,RSt.row,pr22]
 by_cases b2:e.g≥s.gor
 ·have ha:s.addR e=(s,false):=by unfold RSt.addR RSt.admits;rw [decide_eq_false (show ¬ e.g < s.gor by omega)];simp
  rw [ha];simp only [↓evP,evB,stB,reduceIte,reduceCtorEq,seval,hv,b1,b2,decide_true,decide_false,RSt.pa,RSt.row,pr22]
 have had:s.admits e=true:=by unfold RSt.admits;rw [hv,decide_eq_true (show s.count < 5000 by omega),decide_eq_true (show e.g < s.gor by omega)];rfl
 have hcnt:=RSt.partR_count s e;have hc0:=hok.ct
 have ha:s.addR e=if (s.partR e).2=true then ({ (s.partR e).1 with count:=(s.partR e).1.count+1 },true) else (s,false):=by
  unfold RSt.addR
  by_cases h:(s.partR e).2=true
  ·rw [if_pos ⟨had,h⟩,if_pos h]
  ·rw [if_neg (fun h'=>h h'.2),if_neg h]
 rw [ha];clear ha
 by_cases b3:s.next.length > 0
 ·have hpart:s.partR e=s.groupR e:=if_pos b3;have b3':(s.next.length:Int) > 0:=by omega
  rw [hpart] at hcnt ⊢;simp only [↓evP,evB,stB,reduceIte,reduceCtorEq,seval,hv,b1,b2,b3',decide_true,decide_false];refine callOps_intro [(s.groupR e).1.pa,pB (s.groupR e).2] ⟨s,e,rfl,⟨hok,fun h=>by rw [h] at b3;exact absurd b3 (by decide)⟩,rfl⟩ ?_
  generalize s.groupR e=tr at *;obtain ⟨u,b⟩:=tr;have hw:IntKind.i64.wrap (u.count+1)=u.count+1:=wr64 (by simp only at hcnt;omega) (by simp only at hcnt;omega)
  cases b with
  | true =>
    simp only [↓evP,evB,stB,reduceIte,reduceCtorEq,seval,hv,b1,b2,b3',decide_true,decide_false,RSt.pa,RSt.row,hw,pr22]
  | false =>
    simp only [↓evP,evB,stB,reduceIte,reduceCtorEq,seval,hv,b1,b2,b3',decide_true,decide_false,RSt.pa,RSt.row,hw,pr22]
 ·have b3':¬ (s.next.length:Int) > 0:=by omega
  simp only [↓evP,evB,stB,reduceIte,reduceCtorEq,seval,hv,b1,b2,b3',decide_true,decide_false];refine callOps_intro [pB (chanB e.kind)] ⟨e.kind,rfl,rfl⟩ ?_
  cases b4:chanB e.kind with
  | true =>
    have hpart:s.partR e=s.transferR e:=(if_neg b3).trans (if_pos b4);rw [hpart] at hcnt ⊢;simp only [↓evP,evB,stB,reduceIte,reduceCtorEq,seval,hv,b1,b2,b3',b4,decide_true,decide_false];refine callOps_intro [(s.transferR e).1.pa,pB (s.transferR e).2] ⟨s,e,rfl,hok,rfl⟩ ?_;generalize s.transferR e=tr at *;obtain ⟨u,b⟩:=tr;have hw:IntKind.i64.wrap (u.count+1)=u.count+1:=wr64 (by simp only at hcnt;omega) (by simp only at hcnt;omega)
    cases b with
    | true =>
      simp only [↓evP,evB,stB,reduceIte,reduceCtorEq,seval,hv,b1,b2,b3',b4,decide_true,decide_false,RSt.pa,RSt.row,hw,pr22]
    | false =>
      simp only [↓evP,evB,stB,reduceIte,reduceCtorEq,seval,hv,b1,b2,b3',b4,decide_true,decide_false,RSt.pa,RSt.row,hw,pr22]
  | false =>
    have hpart:s.partR e=s.otherR e:=(if_neg b3).trans (if_neg (by rw [b4];decide))
    rw [hpart] at hcnt ⊢;simp only [↓evP,evB,stB,reduceIte,reduceCtorEq,seval,hv,b1,b2,b3',b4,decide_true,decide_false];refine callOps_intro [(s.otherR e).1.pa,pB (s.otherR e).2] ⟨s,e,rfl,hok,rfl⟩ ?_;generalize s.otherR e=tr at *;obtain ⟨u,b⟩:=tr;have hw:IntKind.i64.wrap (u.count+1)=u.count+1:=wr64 (by simp only at hcnt;omega) (by simp only at hcnt;omega)
    cases b with
    | true =>
      simp only [↓evP,evB,stB,reduceIte,reduceCtorEq,seval,hv,b1,b2,b3',b4,decide_true,decide_false,RSt.pa,RSt.row,hw,pr22]
    | false =>
      simp only [↓evP,evB,stB,reduceIte,reduceCtorEq,seval,hv,b1,b2,b3',b4,decide_true,decide_false,RSt.pa,RSt.row,hw,pr22]
end Go.Proofs.Ytffcpijeebagfaa
end
section
namespace Go.Proofs.Ytffcpijeebagfaa
open Go
def RSt.aft (r:RSt):List Ev→RSt
 | []=>r
 | e :: l=>if (r.addR e).2=true then (r.addR e).1.aft l else r
structure RAt (l:List Ev) (k:Nat) (r:RSt) (t:TS):Prop where
 le:k≤l.length
 st:TS.new.steps (l.take k)=some t
 rl:Rel r t
 af:RSt.new.aft l=r.aft (l.drop k)
theorem RAt.zero (l:List Ev):RAt l 0 RSt.new TS.new:=⟨Nat.zero_le _,rfl,Rel.new,rfl⟩
theorem RAt.wf {l:List Ev} {k:Nat} {r:RSt} {t:TS} (h:RAt l k r t):t.wf:=TS.steps_wf TS.wf_new h.st
theorem RAt.ok {l:List Ev} {k:Nat} {r:RSt} {t:TS} (h:RAt l k r t):r.ok:=h.rl.ok h.wf
theorem RAt.step {l:List Ev} {k:Nat} {r:RSt} {t:TS} (h:RAt l k r t) {e:Ev} (he:l[k]? = some e) :
 (∃ r' t',r.addR e=(r',true)∧t.add e=some t'∧RAt l (k+1) r' t')∨(r.addR e=(r,false)∧chk l=k∧RSt.new.aft l=r):=by
 obtain ⟨hk,hx⟩:=List.getElem?_eq_some_iff.1 he;have hs:=h.rl.step h.wf e;have hd:l.drop k=e :: l.drop (k+1):=by rw [List.drop_eq_getElem_cons hk,hx]
 cases ha:t.add e with
 | some t' =>
   rw [ha] at hs;obtain ⟨r',h1,h2⟩:=hs;refine .inl ⟨r',t',h1,rfl,hk,?_,h2,?_⟩
   ·rw [TS.steps_take_succ hk,h.st,hx];exact ha
   ·rw [h.af,hd,RSt.aft,h1];rfl
 | none =>
   rw [ha] at hs;refine .inr ⟨hs,TS.chk_of h.le h.st (fun e' he'=>?_),?_⟩
   ·rw [he] at he';cases he';exact ha
   ·rw [h.af,hd,RSt.aft,hs];rfl
theorem RAt.all {l:List Ev} {r:RSt} {t:TS} (h:RAt l l.length r t):chk l=l.length∧RSt.new.aft l=r:=by
 refine ⟨TS.chk_of (Nat.le_refl _) h.st (fun e he=>?_),?_⟩
 ·rw [List.getElem?_eq_none (Nat.le_refl _)] at he;cases he
 ·rw [h.af,List.drop_length];rfl
theorem Rel.open_next {r:RSt} {t:TS} (h:Rel r t):t.isOpen=decide (0 < r.next.length):=by
 unfold TS.isOpen;rw [h.gp.kinds,List.length_map]
theorem RAt.whole {l:List Ev} {k:Nat} {r:RSt} {t:TS} (h:RAt l (k+1) r t):TS.new.wholeTo l (k+1)=if r.next.length=0 then k+1 else TS.new.wholeTo l k:=by
 simp only [TS.wholeTo,h.st];rw [h.rl.open_next]
 by_cases hn:r.next.length=0
 ·rw [if_pos hn,if_neg (by rw [hn];decide)]
 ·rw [if_neg hn,if_pos (decide_eq_true (by omega))]
end Go.Proofs.Ytffcpijeebagfaa
end
section
namespace Go.Proofs.Ytffcpijeebagfaa
open Go Go.RowKit
set_option maxRecDepth 100000
set_option maxHeartbeats 4000000
def R_rnew (ps rs:List Pa):Prop:=ps=[]∧rs=[RSt.new.pa]
theorem s_rnew:Spec Try.prog 20 R_rnew:=by
 refine sp20 EnvOK.e0 ?_;rintro ps rs ⟨rfl,rfl⟩;refine ⟨by simp,?_⟩;unfold pc20;refine pwp_start ?_;simp only [↓evP,evB,stB,reduceIte,reduceCtorEq,seval,RSt.pa,RSt.row,RSt.new,pr20]
def env_walk:Env:=e1 20 R_rnew (e1 22 R_Add e0)
theorem env_walk_ok:EnvOK Try.prog env_walk:=EnvOK.e1 s_rnew (EnvOK.e1 s_Add EnvOK.e0)
def R_rcheck (ps rs:List Pa):Prop:=∃ l:List Ev,ps=[evsPa l]∧l.length≤1000000∧rs=[pI (chk l),pB (decide (chk l=l.length))]
theorem s_rcheck:Spec Try.prog 72 R_rcheck:=by
 refine sp72 env_walk_ok ?_;rintro ps rs ⟨l,rfl,hlen,rfl⟩;refine ⟨by simp,?_⟩;unfold pc72;refine pwp_start ?_;simp only [↓evP,evB,stB,reduceIte,reduceCtorEq,seval,evsPa,evsD];refine callOps_intro [RSt.new.pa] ⟨rfl,rfl⟩ ?_;simp only [↓evP,evB,stB,reduceIte,reduceCtorEq,Nat.reduceEqDiff,Nat.reduceAdd,Nat.reduceMul,Nat.reduceLeDiff,Nat.reduceLT,Nat.reduceSub,Nat.reduceBEq,RSt.pa,RSt.row];refine pwp_loopW ms72_0 os72_0 (fun m st=>∃ k:Nat,∃ r t,m=l.length - k∧RAt l k r t∧st.sl 5=aI k∧st.gen 4=1∧st.ob 4=.cells (r.row.map .d)) l.length ?_ ?_
 ·exact ⟨0,_,_,rfl,RAt.zero l,by simp only [stB,reduceIte,reduceCtorEq,Nat.reduceEqDiff,Nat.reduceAdd,Nat.reduceMul,Nat.reduceLeDiff,Nat.reduceLT,Nat.reduceSub,Nat.reduceBEq];rfl,by simp only [stB,reduceIte,reduceCtorEq,Nat.reduceEqDiff,Nat.reduceAdd,Nat.reduceMul,Nat.reduceLeDiff,Nat.reduceLT,Nat.reduceSub,Nat.reduceBEq],by simp only [stB,reduceIte,reduceCtorEq,Nat.reduceEqDiff,Nat.reduceAdd,Nat.reduceMul,Nat.reduceLeDiff,Nat.reduceLT,Nat.reduceSub,Nat.reduceBEq,RSt.row]⟩
 ·rintro m j ⟨k,r,t,rfl,hat,h5,g4,o4⟩;simp only [stB,reduceIte,reduceCtorEq,seval,RSt.row] at h5 g4 o4;have hk:=hat.le
  rcases Nat.lt_or_ge k l.length with hlt | hge
  ·obtain ⟨e,he⟩:∃ e,l[k]? = some e:=⟨_,List.getElem?_eq_getElem hlt⟩
   have hlt':(k:Int) < (l.length:Int):=by omega
   simp only [↓evP,evB,stB,reduceIte,reduceCtorEq,seval,h5,g4,o4,he,hlt',Ev.row];refine callD_intro [(r.addR e).1.pa,pB (r.addR e).2] ⟨r,e,rfl,hat.ok,rfl⟩ ?_
   rcases hat.step he with ⟨r',t',h1,_,hat'⟩ | ⟨h1,hc,haf⟩
   ·rw [h1];simp only [↓evP,evB,stB,reduceIte,reduceCtorEq,seval,h5,g4,o4,he,RSt.pa,RSt.row];refine ⟨(by unfold Drw;kernel_rfl),?_⟩
    exact ⟨_,by omega,(by repeat' (first | assumption | exact within_over.mpr trivial | exact Within.refl _ _ _ | (refine within_ap ?_ rfl rfl) | (refine within_ap0 ?_ rfl))),k+1,r',t',rfl,hat',by simp only [stB,reduceIte,reduceCtorEq,seval,h5];rw [wrN (by omega)],by simp only [stB,reduceIte,reduceCtorEq,seval,g4],by simp only [stB,reduceIte,reduceCtorEq,seval,o4,RSt.row]⟩
   ·rw [h1];simp only [↓evP,evB,stB,reduceIte,reduceCtorEq,seval,h5,g4,o4,he,RSt.pa,RSt.row,pr72];refine ⟨(by unfold Drw;kernel_rfl),?_⟩
    rw [hc,decide_eq_false (by omega)]
  ·have hkl:k=l.length:=by omega
   subst hkl;have hlt':¬ (l.length:Int) < (l.length:Int):=by omega
   simp only [↓evP,evB,stB,reduceIte,reduceCtorEq,seval,h5,g4,o4,hlt',RSt.pa,RSt.row,pr72];rw [hat.all.1,decide_eq_true rfl]
def R_rvalid (ps rs:List Pa):Prop:=∃ l:List Ev,ps=[evsPa l]∧l.length≤1000000∧rs=[pB (decide (chk l=l.length))]
def env_rvalid:Env:=e1 72 R_rcheck e0
theorem s_rvalid:Spec Try.prog 27 R_rvalid:=by
 refine sp27 (show EnvOK Try.prog env_rvalid from EnvOK.e1 s_rcheck EnvOK.e0) ?_;rintro ps rs ⟨l,rfl,hlen,rfl⟩;refine ⟨by simp,?_⟩;unfold pc27;refine pwp_start ?_;simp only [↓evP,evB,stB,reduceIte,reduceCtorEq,seval,evsPa,evsD];refine callOps_intro [pI (chk l),pB (decide (chk l=l.length))] ⟨l,rfl,hlen,rfl⟩ ?_;simp only [↓evP,evB,stB,reduceIte,reduceCtorEq,seval,pr27]
def stOf (l:List Ev):List Ck:=if chk l=l.length then stampsL l else []
def errOf (l:List Ev):Int:=if chk l=l.length then 0 else 1
def R_Stamps (ps rs:List Pa):Prop:=∃ l:List Ev,ps=[evsPa l]∧l.length≤1000000∧rs=[cksPa (stOf l),pI (errOf l)]
end Go.Proofs.Ytffcpijeebagfaa
end
section
namespace Go.Proofs.Ytffcpijeebagfaa
open Go Go.RowKit
set_option maxRecDepth 100000
set_option maxHeartbeats 4000000
open Classical
noncomputable def relRow (l:List Ev) (n i:Nat):List Dt:=[.im ((List.range n).map fun j=>[dB (decide (HB l i j))])]
noncomputable def relPa (l:List Ev):Pa:=.one (.im ((List.range l.length).map (relRow l l.length)))
def R_rel34 (ps rs:List Pa):Prop:=∃ l:List Ev,ps=[evsPa l]∧(l.length≤1000000∧∀ e,e ∈ l→e.valid=true)∧rs=[relPa l]
theorem s_rel34:Spec Try.prog 73 R_rel34:=by
 rintro ps rs ⟨l,rfl,⟨hlen,hv⟩,rfl⟩ S w vals _ hvl;obtain ⟨u,rfl,h1⟩:=hvl.one;refine (rel_walk w S u l h1 hlen hv).mono ?_;rintro e w' ⟨rfl,hG⟩;refine ⟨_,fun b=>if b < w.heap.size then S b else l.length,rfl,?_,hG.bel,fun b hb=>if_pos hb⟩
 show RD _ w' _ _
 have hrow:∀ i,i < l.length→RD (fun b=>if b < w.heap.size then S b else l.length) w' (.im ((List.range l.length).map fun j=>[dB (decide (HB l i j))])) (.slice (some ⟨w.heap.size+1+i,0,none⟩) l.length l.length):=fun i hi=>by
  have hl:l.length=((List.range l.length).map fun j=>[dB (decide (HB l i j))]).length:=by simp
  conv=>rhs;rw [show (Value.slice (some ⟨w.heap.size+1+i,0,none⟩) l.length l.length)=.slice (some ⟨w.heap.size+1+i,0,none⟩) ((List.range l.length).map fun j=>[dB (decide (HB l i j))]).length l.length by rw [←hl]]
  refine RD.im _ 1 _ 0 l.length (fun j _=>.bool (decide (HB l i j))) (by rw [←hl];exact Nat.le_refl _) (by unfold maxLen;omega) ?_ ?_ ?_
  ·intro r hr;obtain ⟨x,_,rfl⟩:=List.mem_map.1 hr;rfl
  ·intro j k hj hk;rw [←hl] at hj;have h0:0+(j * 1+k)=j:=by omega
   rw [h0];refine ⟨(hG.row i hi).cell hj,?_⟩;rw [if_neg (by omega)];exact hj
  ·intro j r k x hr hx;rw [List.getElem?_map,Option.map_eq_some_iff] at hr;obtain ⟨j',hj',rfl⟩:=hr
   have hjj:j'=j:=by
    have hjl:=(List.getElem?_eq_some_iff.1 hj').1;rw [List.length_range] at hjl;rw [List.getElem?_range hjl] at hj';cases hj';rfl
   subst hjj
   match k,hx with
   | 0,hx=>simp at hx;subst hx;exact .sc _ rfl
 have hl:l.length=((List.range l.length).map (relRow l l.length)).length:=by simp
 conv=>rhs;rw [show (Value.slice (some ⟨w.heap.size,0,none⟩) l.length l.length)=.slice (some ⟨w.heap.size,0,none⟩) ((List.range l.length).map (relRow l l.length)).length l.length by rw [←hl]]
 refine RD.im _ 1 _ 0 l.length (fun i _=>.slice (some ⟨w.heap.size+1+i,0,none⟩) l.length l.length) (by rw [←hl];exact Nat.le_refl _) (by unfold maxLen;omega) ?_ ?_ ?_
 ·intro r hr;obtain ⟨x,_,rfl⟩:=List.mem_map.1 hr;rfl
 ·intro j k hj hk;rw [←hl] at hj;have h0:0+(j * 1+k)=j:=by omega
  rw [h0];refine ⟨hG.head hj,?_⟩;rw [if_neg (by omega)];exact hj
 ·intro j r k x hr hx;rw [List.getElem?_map,Option.map_eq_some_iff] at hr;obtain ⟨j',hj',rfl⟩:=hr;have hjl:=(List.getElem?_eq_some_iff.1 hj').1;rw [List.length_range] at hjl
  have hjj:j'=j:=by
   rw [List.getElem?_range hjl] at hj';cases hj';rfl
  subst hjj
  match k,hx with
  | 0,hx=>simp [relRow] at hx;subst hx;exact hrow _ hjl
noncomputable def cntC (l:List Ev) (j n:Nat):Ck:=(List.range 8).map fun (g:Nat)=>(cntHB l (g:Int) j n:Int)
theorem cntC_len (l:List Ev) (j n:Nat):(cntC l j n).length=8:=by simp [cntC]
theorem cntC_get (l:List Ev) (j n:Nat) {g:Nat} (h:g < 8):(cntC l j n)[g]? = some (cntHB l (g:Int) j n:Int):=by
 unfold cntC;rw [List.getElem?_map,List.getElem?_range h];rfl
theorem cntHB_le (l:List Ev) (g:Int) (j n:Nat):cntHB l g j n≤n:=by
 induction n with
 | zero=>exact Nat.le_refl _
 | succ n ih=>simp only [cntHB];split <;> omega
theorem cntC_zero (l:List Ev) (j:Nat):cntC l j 0=ckZ:=by
 unfold cntC ckZ;rfl
theorem cntC_hit {l:List Ev} {j n:Nat} (h0:0≤(evAt l n).g) (h8:(evAt l n).g < 8) (hb:HBE l n j):(cntC l j n).set (evAt l n).g.toNat ((cntHB l (evAt l n).g j n:Int)+1)=cntC l j (n+1):=by
 apply List.ext_getElem?
 intro g;rw [List.getElem?_set]
 by_cases hg:g < 8
 ·rw [cntC_get l j (n+1) hg,cntC_get l j n hg];simp only [cntHB]
  by_cases he:(evAt l n).g.toNat=g
  ·have he':(evAt l n).g=(g:Int):=by omega
   rw [if_pos he,if_pos (by rw [cntC_len];omega),if_pos ⟨he',hb⟩,he'];rfl
  ·rw [if_neg he,if_neg (fun h=>he (by omega))]
 ·rw [List.getElem?_eq_none (by rw [cntC_len];omega),List.getElem?_eq_none (by rw [cntC_len];omega)]
  split
  ·split <;> first | rfl | (rename_i h1 h2;rw [cntC_len] at h2;omega)
  ·rfl
theorem cntC_miss {l:List Ev} {j n:Nat} (hb:¬ HBE l n j):cntC l j n=cntC l j (n+1):=by
 unfold cntC
 apply List.map_congr_left
 intro g _;simp only [cntHB];rw [if_neg (fun h=>hb h.2)]
theorem cntC_stp {l:List Ev} (V:VL l) {j:Nat} (h:j < l.length):cntC l j (j+1)=stp l j:=by
 apply List.ext_getElem?
 intro g
 by_cases hg:g < 8
 ·rw [cntC_get l j (j+1) hg];have:=stp_cnt V h (g:=(g:Int)) (by omega) (by omega);rw [Int.toNat_natCast] at this;rw [←this,List.getD_eq_getElem?_getD,List.getElem?_eq_getElem (by rw [stp_len];omega)];rfl
 ·rw [List.getElem?_eq_none (by rw [cntC_len];omega),List.getElem?_eq_none (by rw [stp_len];omega)]
theorem stamps_succ {l:List Ev} {j:Nat} (h:j < l.length):(stampsL l).take (j+1)=(stampsL l).take j ++ [stp l j]:=by
 rw [List.take_add_one]
 congr 1
 unfold stp;rw [List.getD_eq_getElem?_getD,List.getElem?_eq_getElem (by rw [stampsL_length];exact h)];rfl
end Go.Proofs.Ytffcpijeebagfaa
end
section
namespace Go.Proofs.Ytffcpijeebagfaa
open Go Go.RowKit
set_option maxRecDepth 100000
set_option maxHeartbeats 4000000
theorem within_in {ms os ms' os':List Nat} {s0 b j:St} (h:Within ms os s0 b) (hm:ms'.all (fun x=>ms.contains x)=true) (ho:os'.all (fun x=>os.contains x)=true):Within ms os s0 (over ms' os' b j):=by
 have h1:∀ x,ms.contains x=false→ms'.contains x=false:=fun x hx=>by
  cases hc:ms'.contains x with
  | false=>rfl
  | true=>rw [List.all_eq_true] at hm;rw [hm x (by simpa using hc)] at hx;cases hx
 have h2:∀ x,os.contains x=false→os'.contains x=false:=fun x hx=>by
  cases hc:os'.contains x with
  | false=>rfl
  | true=>rw [List.all_eq_true] at ho;rw [ho x (by simpa using hc)] at hx;cases hx
 refine ⟨fun x hx=>?_,fun o hx=>⟨?_,?_⟩⟩
 ·rw [over_sl,h1 x hx];exact h.1 x hx
 ·rw [over_gen,h2 o hx];exact (h.2 o hx).1
 ·rw [over_ob,h2 o hx];exact (h.2 o hx).2
def All8 (cs:List Ck):Prop:=∀ c,c ∈ cs→c.length=8
theorem All8.set {cs:List Ck} (h:All8 cs) {i:Nat} {d:Ck} (hd:d.length=8):All8 (cs.set i d):=fun c hc=>by
 rcases List.mem_or_eq_of_mem_set hc with hc | rfl
 ·exact h c hc
 ·exact hd
theorem All8.app {a b:List Ck} (ha:All8 a) (hb:All8 b):All8 (a ++ b):=fun c hc=>by
 rcases List.mem_append.1 hc with h | h
 ·exact ha c h
 ·exact hb c h
theorem eqCls_ck {a b:Ck} (h:a.length=b.length):eqCls (List.replicate a.length false) (ckCells a) (ckCells b)=some (decide (a=b)):=by
 induction a generalizing b with
 | nil =>
   cases b with
   | nil=>rfl
   | cons y b=>simp at h
 | cons x a ih =>
   cases b with
   | nil=>simp at h
   | cons y b =>
     have h2:=ih (b:=b) (by simpa using h);rw [List.length_cons,List.replicate_succ]
     show (match eqCl false (.d (dI x)) (.d (dI y)),eqCls (List.replicate a.length false) (ckCells a) (ckCells b) with | some p,some q=>some (p && q) | _,_=>none)=_
     rw [h2]
     show some ((x == y) && decide (a=b))=_
     congr 1
     rw [Bool.eq_iff_iff];simp
end Go.Proofs.Ytffcpijeebagfaa
end
section
namespace Go.Proofs.Ytffcpijeebagfaa
open Go Go.RowKit
set_option maxRecDepth 100000
set_option maxHeartbeats 4000000
open Classical
theorem range_get {n i:Nat} (h:i < n):(List.range n)[i]? = some i:=List.getElem?_range h
def env_rStamps:Env:=e1 27 R_rvalid (e1 73 R_rel34 e0)
theorem s_rStamps:Spec Try.prog 29 R_Stamps:=by
 refine sp29 (show EnvOK Try.prog env_rStamps from EnvOK.e1 s_rvalid (EnvOK.e1 s_rel34 EnvOK.e0)) ?_;rintro ps rs ⟨l,rfl,hlen,rfl⟩;refine ⟨by simp,?_⟩;unfold pc29;refine pwp_start ?_;simp only [↓evP,evB,stB,reduceIte,reduceCtorEq,seval,evsPa,evsD];refine callOps_intro [pB (decide (chk l=l.length))] ⟨l,rfl,hlen,rfl⟩ ?_;unfold stOf errOf
 by_cases hc:chk l=l.length
 ·have V:=VL.of hc;rw [if_pos hc,if_pos hc,decide_eq_true hc];simp only [↓evP,evB,stB,reduceIte,reduceCtorEq,seval];refine callOps_intro [relPa l] ⟨l,rfl,⟨hlen,V.v⟩,rfl⟩ ?_;simp only [↓evP,evB,stB,reduceIte,reduceCtorEq,seval,relPa];refine pwp_fresh [0,4,5,6] [5] (fun S hs ho=>?_);simp only [stB,reduceIte,reduceCtorEq,seval] at hs ho;obtain ⟨q0,q4,q5,q6⟩:=hs;obtain ⟨r5,t5⟩:=ho;refine pwp_loopW ms29_0 os29_0 (fun m st=>∃ j:Nat,m=l.length - j∧j≤l.length∧st.sl 6=aI j∧st.sl 5=.b (.one (.own 5 1 (((stampsL l).take j).map ckRow)))∧st.gen 5=1∧st.ob 5=.row 53 8 j) l.length ?_ ?_
  ·exact ⟨0,rfl,Nat.zero_le _,q6,q5,r5,t5⟩
  ·rintro m z ⟨j,rfl,hj,h6,h5,g5,o5⟩;simp only [stB,reduceIte,reduceCtorEq,seval] at h6 h5 g5 o5
   rcases Nat.lt_or_ge j l.length with hlt | hge
   ·have hlt':(j:Int) < (l.length:Int):=by omega
    have hj0:(0:Int)≤(j:Int):=by omega
    simp only [↓evP,evB,stB,reduceIte,reduceCtorEq,seval,q0,q4,h6,h5,g5,o5,hlt']
    refine pwp_freshP (fun st=>Within ms29_0 os29_0 S st) (by repeat' (first | assumption | exact within_over.mpr trivial | exact Within.refl _ _ _ | (refine within_ap ?_ rfl rfl) | (refine within_ap0 ?_ rfl))) [0,4,5,6,7,8] [5,7] (fun T hwT hs2 ho2=>?_);simp only [stB,reduceIte,reduceCtorEq,seval,q0,q4,h6,h5,g5,o5] at hs2 ho2;obtain ⟨p0,p4,p5,p6,p7,p8⟩:=hs2;obtain ⟨⟨r5',t5'⟩,r7,t7⟩:=ho2;rw [←r7] at p7;clear r7;refine pwp_loopW ms29_1 os29_1 (fun m st=>∃ i:Nat,m=j+1 - i∧i≤j+1∧st.sl 8=aI i∧st.gen 7=T.gen 7∧st.ob 7=.cells (ckCells (cntC l j i))) (j+1) ?_ ?_
    ·exact ⟨0,rfl,Nat.zero_le _,p8,rfl,by rw [t7,cntC_zero];rfl⟩
    ·rintro m2 z2 ⟨i,rfl,hi,h8,g7,o7⟩;simp only [stB,reduceIte,reduceCtorEq,seval] at h8 g7 o7;have r2:=range_get hlt
     rcases Nat.lt_or_ge j i with hij | hij
     ·have hi':i=j+1:=by omega
      subst hi';have hle:¬ ((j+1:Nat):Int)≤(j:Int):=by omega
      rw [cntC_stp V hlt] at o7;have c8:=stp_len (l:=l) (j:=j);have e1:(ckCells (stp l j)).length=8:=by rw [ckCells_length,c8]
      have e2:8≤(ckCells (stp l j)).length:=by omega
      have e3:(ckCells (stp l j)).take 8=ckCells (stp l j):=List.take_of_length_le (by omega);have e4:(ckRow (stp l j)).take 8=ckRow (stp l j):=List.take_of_length_le (by unfold ckRow;rw [List.length_map];omega)
      have e5:(ckRow (stp l j)).length=8:=by unfold ckRow;rw [List.length_map,c8]
      have e6:((stampsL l).take j).length=j:=by rw [List.length_take,stampsL_length];omega
      have e7:((stampsL l).take j).map ckRow ++ [ckRow (stp l j)]=((stampsL l).take (j+1)).map ckRow:=by rw [stamps_succ hlt,List.map_append];rfl
      have e8:j+1≤1000000:=by omega
      simp only [↓evP,evB,stB,reduceIte,reduceCtorEq,seval,p0,p4,p5,p6,p7,h8,r5',t5',g7,o7,hle,e1,e2,e3,e4,e5,e6,e7,e8,ckCells_dt,Nat.reduceLeDiff]
      exact ⟨_,by omega,(by repeat' (first | assumption | exact within_over.mpr trivial | (refine within_ap ?_ rfl rfl) | (refine within_ap0 ?_ rfl) | refine within_in ?_ (by decide) (by decide))),j+1,rfl,hlt,by simp only [stB,reduceIte,reduceCtorEq,seval,p6];rw [wrN (by omega)],by simp only [stB,reduceIte,reduceCtorEq,seval],by simp only [stB,reduceIte,reduceCtorEq,seval,r5'],by simp only [stB,reduceIte,reduceCtorEq,seval,t5']⟩
     ·have hle:(i:Int)≤(j:Int):=by omega
      have hi0:(0:Int)≤(i:Int):=by omega
      have r1:=range_get (show i < l.length by omega);have ei:=evAt_some (l:=l) (i:=i) (by omega);have hg:=V.g (i:=i) (by omega);have hg0:=hg.1;have hg8:(evAt l i).g < ((8:Nat):Int):=hg.2;have f1:=ckCells_get _ _ _ (cntC_get l j i (g:=(evAt l i).g.toNat) (by omega));rw [Int.toNat_of_nonneg hg0] at f1;have f2:(evAt l i).g.toNat+1≤(ckCells (cntC l j i)).length:=by rw [ckCells_length,cntC_len];omega
      have hcl:=cntHB_le l (evAt l i).g j i;have hw:IntKind.i64.wrap ((cntHB l (evAt l i).g j i:Int)+1)=(cntHB l (evAt l i).g j i:Int)+1:=wr64 (by omega) (by omega)
      by_cases hb:HBE l i j
      ·have f3:=(ckCells_set (cntC l j i) (evAt l i).g.toNat ((cntHB l (evAt l i).g j i:Int)+1) (by rw [cntC_len];omega)).trans (congrArg ckCells (cntC_hit hg0 hg.2 hb))
       cases hq:((i:Int) == (j:Int)) with
       | true =>
         simp only [↓evP,evB,stB,reduceIte,reduceCtorEq,Nat.reduceEqDiff,Nat.reduceAdd,Nat.reduceMul,Nat.reduceLeDiff,Nat.reduceLT,Nat.reduceSub,Nat.reduceBEq,p0,p4,p5,p6,p7,h8,r5',t5',g7,o7,hle,hq,hi0,hj0,ei,Ev.row,hg0,hg8,f1,f2,f3,hw,Nat.mul_one]
         exact ⟨_,by omega,(by repeat' (first | assumption | exact within_over.mpr trivial | exact Within.refl _ _ _ | (refine within_ap ?_ rfl rfl) | (refine within_ap0 ?_ rfl))),i+1,rfl,by omega,by simp only [stB,reduceIte,reduceCtorEq,Nat.reduceEqDiff,Nat.reduceAdd,Nat.reduceMul,Nat.reduceLeDiff,Nat.reduceLT,Nat.reduceSub,Nat.reduceBEq,h8];rw [wrN (by omega)],by simp only [stB,reduceIte,reduceCtorEq,Nat.reduceEqDiff,Nat.reduceAdd,Nat.reduceMul,Nat.reduceLeDiff,Nat.reduceLT,Nat.reduceSub,Nat.reduceBEq,g7],by simp only [stB,reduceIte,reduceCtorEq,Nat.reduceEqDiff,Nat.reduceAdd,Nat.reduceMul,Nat.reduceLeDiff,Nat.reduceLT,Nat.reduceSub,Nat.reduceBEq,o7,f3]⟩
       | false =>
         have hd:decide (HB l i j)=true:=decide_eq_true (hb.elim (fun h=>by subst h;simp at hq) id)
         simp only [↓evP,evB,stB,reduceIte,reduceCtorEq,Nat.reduceEqDiff,Nat.reduceAdd,Nat.reduceMul,Nat.reduceLeDiff,Nat.reduceLT,Nat.reduceSub,Nat.reduceBEq,p0,p4,p5,p6,p7,h8,r5',t5',g7,o7,hle,hq,hi0,hj0,r1,r2,relRow,hd,ei,Ev.row,hg0,hg8,f1,f2,f3,hw,Nat.mul_one]
         exact ⟨_,by omega,(by repeat' (first | assumption | exact within_over.mpr trivial | exact Within.refl _ _ _ | (refine within_ap ?_ rfl rfl) | (refine within_ap0 ?_ rfl))),i+1,rfl,by omega,by simp only [stB,reduceIte,reduceCtorEq,Nat.reduceEqDiff,Nat.reduceAdd,Nat.reduceMul,Nat.reduceLeDiff,Nat.reduceLT,Nat.reduceSub,Nat.reduceBEq,h8];rw [wrN (by omega)],by simp only [stB,reduceIte,reduceCtorEq,Nat.reduceEqDiff,Nat.reduceAdd,Nat.reduceMul,Nat.reduceLeDiff,Nat.reduceLT,Nat.reduceSub,Nat.reduceBEq,g7],by simp only [stB,reduceIte,reduceCtorEq,Nat.reduceEqDiff,Nat.reduceAdd,Nat.reduceMul,Nat.reduceLeDiff,Nat.reduceLT,Nat.reduceSub,Nat.reduceBEq,o7,f3]⟩
      ·have hq:((i:Int) == (j:Int))=false:=by
        rw [beq_eq_false_iff_ne];intro h;exact hb (.inl (by omega))
       have hd:decide (HB l i j)=false:=decide_eq_false (fun h=>hb (.inr h));have f3:=cntC_miss hb;simp only [↓evP,evB,stB,reduceIte,reduceCtorEq,seval,p0,p4,p5,p6,p7,h8,r5',t5',g7,o7,hle,hq,hi0,hj0,r1,r2,relRow,hd]
       exact ⟨_,by omega,(by repeat' (first | assumption | exact within_over.mpr trivial | exact Within.refl _ _ _ | (refine within_ap ?_ rfl rfl) | (refine within_ap0 ?_ rfl))),i+1,rfl,by omega,by simp only [stB,reduceIte,reduceCtorEq,seval,h8];rw [wrN (by omega)],by simp only [stB,reduceIte,reduceCtorEq,seval,g7],by simp only [stB,reduceIte,reduceCtorEq,seval,o7];rw [←f3]⟩
   ·have hjl:j=l.length:=by omega
    subst hjl;have hlt':¬ (l.length:Int) < (l.length:Int):=by omega
    have e6:(stampsL l).take l.length=stampsL l:=List.take_of_length_le (by rw [stampsL_length];exact Nat.le_refl _)
    simp only [↓evP,evB,stB,reduceIte,reduceCtorEq,seval,q0,q4,h6,h5,g5,o5,hlt',e6,cksPa,pr29]
 ·rw [if_neg hc,if_neg hc,decide_eq_false hc];simp only [↓evP,evB,stB,reduceIte,reduceCtorEq,seval,cksPa,pr29]
end Go.Proofs.Ytffcpijeebagfaa
end
section
namespace Go.Proofs.Ytffcpijeebagfaa
open Go Go.RowKit
set_option maxRecDepth 100000
set_option maxHeartbeats 4000000
def R_same35 (ps rs:List Pa):Prop:=∃ l:List Ck,ps=[cksPa l,cksPa l]∧(l.length≤1000000∧∀ c,c ∈ l→c.length=8)∧rs=[pB true]
theorem s_same35:Spec Try.prog 30 R_same35:=by
 refine sp30 EnvOK.e0 ?_;rintro ps rs ⟨l,rfl,⟨hlen,h8⟩,rfl⟩;refine ⟨by simp,?_⟩;unfold pc30;refine pwp_start ?_;simp only [↓evP,evB,stB,reduceIte,reduceCtorEq,Nat.reduceEqDiff,Nat.reduceAdd,Nat.reduceMul,Nat.reduceLeDiff,Nat.reduceLT,Nat.reduceSub,Nat.reduceBEq,cksPa,bne_self_eq_false,reduceCtorEq];refine pwp_loopW ms30_0 os30_0 (fun m st=>∃ k:Nat,m=l.length - k∧k≤l.length∧st.sl 5=aI k) l.length ?_ ?_
 ·exact ⟨0,rfl,Nat.zero_le _,by simp only [stB,reduceIte,reduceCtorEq,Nat.reduceEqDiff,Nat.reduceAdd,Nat.reduceMul,Nat.reduceLeDiff,Nat.reduceLT,Nat.reduceSub,Nat.reduceBEq];rfl⟩
 ·rintro m j ⟨k,rfl,hk,h5⟩;simp only [stB,reduceIte,reduceCtorEq,seval] at h5
  rcases Nat.lt_or_ge k l.length with hlt | hge
  ·obtain ⟨c,hc⟩:∃ c,l[k]? = some c:=⟨_,List.getElem?_eq_getElem hlt⟩
   have hcl:=h8 c (List.mem_of_getElem? hc);have e1:(ckRow c).length=8:=by unfold ckRow;rw [List.length_map,hcl]
   have e2:(ckCells c).length=8:=by rw [ckCells_length,hcl]
   have e3:8≤(ckCells c).length:=by omega
   have e4:(ckCells c).take 8=ckCells c:=List.take_of_length_le (by omega)
   have e5:eqCls [false,false,false,false,false,false,false,false] (ckCells c) (ckCells c)=some true:=by
    have:=eqCls_ck (a:=c) (b:=c) rfl;rw [hcl,decide_eq_true rfl] at this;exact this
   have hlt':(k:Int) < (l.length:Int):=by omega
   simp only [↓evP,evB,stB,reduceIte,reduceCtorEq,seval,h5,hc,hlt',e1,e2,e3,e4,e5,ckRow_cells];refine ⟨(by unfold Drw;kernel_rfl),?_⟩
   exact ⟨_,by omega,(by repeat' (first | assumption | exact within_over.mpr trivial | exact Within.refl _ _ _ | (refine within_ap ?_ rfl rfl) | (refine within_ap0 ?_ rfl))),k+1,rfl,by omega,by simp only [stB,reduceIte,reduceCtorEq,seval,h5];rw [wrN (by omega)]⟩
  ·simp only [↓evP,evB,stB,reduceIte,reduceCtorEq,seval,h5,pr30];exact fun h=>absurd h (by omega)
theorem get_some {c:Ck} (h:c.length=8) {k:Nat} (hk:k < 8):c[k]? = some (c.getD k 0):=by
 rw [List.getD_eq_getElem?_getD,List.getElem?_eq_getElem (by omega)];rfl
def Z37:Nat→Hb:=fun _=>.no
theorem Z37_free:Free Z37 0:=fun _ _=>rfl
def R_one37 (hp:Nat→Hb) (az:List Hw) (Post:(Nat→Hb)→List Hw→Prop):Prop:=∃ l:List Ev,az=[paHw (evsPa l)]∧hp=Z37∧l.length≤9223372036854775807∧Post=fun _ r=>r=[.one (.d (dB true))]
def R_oneS (ps rs:List Pa):Prop:=∃ l:List Ev,ps=[evsPa l]∧l.length≤9223372036854775807∧rs=[pB true]
theorem one37 {f:Nat} (h:SpecP Try.prog f R_one37):Spec Try.prog f R_oneS:=by
 rintro ps rs ⟨l,rfl,hl,rfl⟩;exact h.toS _ _ ⟨_,⟨l,rfl,rfl,hl,rfl⟩,fun hp' rs' q=>q⟩
def env_st37:Env:=p1 26 R_awake37 (p1 28 R_play (e1 27 R_rvalid (e1 29 R_Stamps (e1 30 R_same35 e0))))
theorem envOK_st37:EnvOK Try.prog env_st37:=.p1 s_awake37 (.p1 s_play (.e1 s_rvalid (.e1 s_rStamps (.e1 s_same35 .e0))))
theorem s_sst37:SpecP Try.prog 4 R_one37:=by
 refine sql4 envOK_st37 ?_;rintro hp az Post ⟨l,rfl,rfl,hmax,rfl⟩;refine ⟨by simp,fun _=>1,?_⟩;unfold pcl4;refine pwp_start ?_;simp only [↓evP,evB,stB,reduceIte,reduceCtorEq,seval,paHw,evsPa,evsD];refine callPS_intro _ (by simp only [stB,reduceIte,reduceCtorEq,seval];exact ⟨0,rfl,Z37_free,rfl⟩) ?_
 rintro hp1 rs1 ⟨⟨D1,N1,hL1⟩,rfl⟩
 by_cases q1:(l.length:Int) > 40
 ·simp only [↓evP,evB,stB,reduceIte,reduceCtorEq,seval,q1,decide_true,decide_false,prl4];exact ⟨_,_,rfl,fun b=>.inl rfl,rfl⟩
 have hlen:l.length≤1000:=by omega
 have hlen6:l.length≤1000000:=by omega
 simp only [↓evP,evB,stB,reduceIte,reduceCtorEq,seval,q1,decide_true,decide_false];refine callOps_intro [pB (decide (chk l=l.length))] ⟨l,rfl,hlen6,rfl⟩ ?_
 by_cases hc:chk l=l.length
 ·simp only [↓evP,evB,stB,reduceIte,reduceCtorEq,seval,q1,hc,decide_true,decide_false];refine callPS_intro _ (by simp only [stB,reduceIte,reduceCtorEq,seval];exact ⟨l,N1,rfl,hL1.free,plays_valid hc hlen,rfl⟩) ?_
  intro hp2 rs2 hq;obtain ⟨b,D2,N2,t,hT,⟨e1,e2,e3⟩,hL2,rfl⟩:=played_valid hc hlen hq;simp only [↓evP,evB,stB,reduceIte,reduceCtorEq,seval,q1,hc,decide_true,decide_false];refine callOps_intro [cksPa (stOf l),pI (errOf l)] ⟨l,rfl,hlen6,rfl⟩ ?_;have hs:stOf l=stampsL l:=by unfold stOf;rw [if_pos hc]
  have he1:errOf l=0:=by unfold errOf;rw [if_pos hc]
  have hsl:=stampsL_length l;rw [hs,he1];simp only [↓evP,evB,stB,reduceIte,reduceCtorEq,seval,cksPa,beq_self_eq_true];refine callOps_intro [pB true] ⟨stampsL l,rfl,⟨by omega,fun c hm=>(stampsL_ok l c hm).1⟩,rfl⟩ ?_;simp only [↓evP,evB,stB,reduceIte,reduceCtorEq,seval,prl4];exact ⟨_,_,rfl,fun b=>.inl rfl,rfl⟩
 ·simp only [↓evP,evB,stB,reduceIte,reduceCtorEq,seval,q1,hc,decide_true,decide_false,prl4];exact ⟨_,_,rfl,fun b=>.inl rfl,rfl⟩
end Go.Proofs.Ytffcpijeebagfaa
end
section
namespace Go.Proofs.Ytffcpijeebagfaa
open Go Go.RowKit Go.WideShapes Go.ChangeShapes Go.Deep
theorem trodAll_below {H:Type} {enc:TypeId×Value→H} {P:Program} (hl:laidOutB P=true) {W W':World} (hb:Below W.heap.size W W') :
 ∀ {ts:List TypeId} {vs:List Value} {ds:List (DataW H)} {ps:List MemPlace},(ts.all fun t=>P.readableRec t && decide (t < P.types.size))=true→DataW.TrodAll enc P W 0 (fun _=>true) true ts vs ds ps→DataW.TrodAll enc P W' 0 (fun b=>decide (b < W.heap.size)) true ts vs ds ps
 | [],vs,ds,ps,_,h=>by obtain ⟨rfl,rfl,rfl⟩:=trodAll_nil h;exact trodAll_mk0
 | t :: ts,vs,ds,ps,ht,h=>by
   obtain ⟨v,vs',d,ds',p,q,rfl,rfl,rfl,h1,h2⟩:=trodAll_cons h;simp only [List.all_cons,Bool.and_eq_true,decide_eq_true_eq] at ht;have lt:∀ x ∈ p,x.block < W.heap.size:=by obtain ⟨m,hm⟩:=h1;exact DataW.trod_lt m _ _ _ hm
   exact trodAll_cons_mk (Below.trod hl ht.1.1 ht.1.2 h1 hb lt) (trodAll_below hl hb (by rw [Bool.eq_iff_iff] at *;simpa using ht.2) h2)
theorem Spec.true [I:WInv] {P:Program} {f:Nat} {R:List Pa→List Pa→Prop} (hs:Spec P f R) {ps:List Pa} (hR:R ps [pB true]) {S:Nat→Nat} {w:World} {vals:Array Value} (hw:I.p w) (hv:RPs S w ps vals) :
 Calls P f vals w fun e w'=>e=.returned (.bool true)∧Below w.heap.size w w':=by
 refine (hs ps _ hR S w vals hw hv).mono ?_;rintro e w' ⟨v,S',rfl,h1,h2,_⟩;exact ⟨by rw [RP.bool h1],h2⟩
end Go.Proofs.Ytffcpijeebagfaa
end
section
namespace Go.Proofs.Ytffcpijeebagfaa
open Go Go.RowKit
set_option maxRecDepth 100000
set_option maxHeartbeats 4000000
open Classical
noncomputable def befB (l:List Ev) (i j:Int):Bool:=decide (chk l=l.length∧0≤i∧i < l.length∧0≤j∧j < l.length∧HB l i.toNat j.toNat)
def R_before (ps rs:List Pa):Prop:=∃ (l:List Ev) (i j:Int),ps=[evsPa l,pI i,pI j]∧l.length≤1000000∧rs=[pB (befB l i j)]
def env_rBefore:Env:=e1 27 R_rvalid (e1 73 R_rel34 e0)
theorem s_rBefore:Spec Try.prog 33 R_before:=by
 refine sp33 (show EnvOK Try.prog env_rBefore from EnvOK.e1 s_rvalid (EnvOK.e1 s_rel34 EnvOK.e0)) ?_;rintro ps rs ⟨l,i,j,rfl,hlen,rfl⟩;refine ⟨by simp,?_⟩;unfold pc33;refine pwp_start ?_;simp only [↓evP,evB,stB,reduceIte,reduceCtorEq,seval,evsPa,evsD];refine callOps_intro [pB (decide (chk l=l.length))] ⟨l,rfl,hlen,rfl⟩ ?_
 by_cases hc:chk l=l.length
 ·rw [decide_eq_true hc]
  by_cases q1:i < 0
  ·have hf:befB l i j=false:=decide_eq_false (fun h=>by omega);simp only [↓evP,evB,stB,reduceIte,reduceCtorEq,seval,q1,hf,decide_true,pr33]
  by_cases q2:j < 0
  ·have hf:befB l i j=false:=decide_eq_false (fun h=>by omega);simp only [↓evP,evB,stB,reduceIte,reduceCtorEq,seval,q1,q2,hf,decide_true,decide_false,pr33]
  by_cases q3:i≥(l.length:Int)
  ·have hf:befB l i j=false:=decide_eq_false (fun h=>by omega);simp only [↓evP,evB,stB,reduceIte,reduceCtorEq,seval,q1,q2,q3,hf,decide_true,decide_false,pr33]
  by_cases q4:j≥(l.length:Int)
  ·have hf:befB l i j=false:=decide_eq_false (fun h=>by omega);simp only [↓evP,evB,stB,reduceIte,reduceCtorEq,seval,q1,q2,q3,q4,hf,decide_true,decide_false,pr33]
  simp only [↓evP,evB,stB,reduceIte,reduceCtorEq,seval,q1,q2,q3,q4,decide_true,decide_false];refine callOps_intro [relPa l] ⟨l,rfl,⟨hlen,(VL.of hc).v⟩,rfl⟩ ?_;have hi0:0≤i:=by omega
  have hj0:0≤j:=by omega
  have r1:=range_get (show i.toNat < l.length by omega);have r2:=range_get (show j.toNat < l.length by omega)
  have hf:befB l i j=decide (HB l i.toNat j.toNat):=by
   unfold befB;rw [decide_eq_decide];exact ⟨fun h=>h.2.2.2.2.2,fun h=>⟨hc,by omega,by omega,by omega,by omega,h⟩⟩
  simp only [↓evP,evB,stB,reduceIte,reduceCtorEq,seval,relPa,hi0,hj0,r1,r2,relRow,hf,pr33]
 ·have hf:befB l i j=false:=decide_eq_false (fun h=>hc h.1);rw [decide_eq_false hc];simp only [↓evP,evB,stB,reduceIte,reduceCtorEq,seval,hf,pr33]
theorem hb_stp {l:List Ev} (hc:chk l=l.length) {i j:Nat} (hi:i < l.length) (hj:j < l.length) (hij:i≠j):HB l i j↔(stp l i).getD (evAt l i).g.toNat 0≤(stp l j).getD (evAt l i).g.toNat 0:=by
 have V:=VL.of hc;rw [stp_own V hi,←hb_iff V hj i hi];exact ⟨.inr,fun h=>h.elim (fun h=>absurd h hij) id⟩
theorem befB_nat {l:List Ev} (hc:chk l=l.length) {i j:Nat} (hi:i < l.length) (hj:j < l.length):befB l i j=decide (HB l i j):=by
 unfold befB;rw [decide_eq_decide];exact ⟨fun h=>h.2.2.2.2.2,fun h=>⟨hc,by omega,by omega,by omega,by omega,h⟩⟩
theorem stp_ne {l:List Ev} (hc:chk l=l.length) {i j:Nat} (hi:i < l.length) (hj:j < l.length) (hij:i≠j):stp l i≠stp l j:=fun h=>by
 have h1:=(hb_stp hc hi hj hij).2 (by rw [h];exact Int.le_refl _)
 have h2:=(hb_stp hc hj hi (Ne.symm hij)).2 (by rw [h];exact Int.le_refl _)
 have:=h1.lt;have:=h2.lt;omega
def R_two37 (hp:Nat→Hb) (az:List Hw) (Post:(Nat→Hb)→List Hw→Prop):Prop:=∃ (l:List Ev) (i j:Int),az=[paHw (evsPa l),paHw (pI i),paHw (pI j)]∧hp=Z37∧Post=fun _ r=>r=[.one (.d (dB true))]
def R_twoS (ps rs:List Pa):Prop:=∃ (l:List Ev) (i j:Int),ps=[evsPa l,pI i,pI j]∧rs=[pB true]
theorem two37 {f:Nat} (h:SpecP Try.prog f R_two37):Spec Try.prog f R_twoS:=by
 rintro ps rs ⟨l,i,j,rfl,rfl⟩;exact h.toS _ _ ⟨_,⟨l,i,j,rfl,rfl,rfl⟩,fun hp' rs' q=>q⟩
def env_dec37:Env:=p1 26 R_awake37 (p1 28 R_play (e1 27 R_rvalid (e1 33 R_before e0)))
theorem envOK_dec37:EnvOK Try.prog env_dec37:=.p1 s_awake37 (.p1 s_play (.e1 s_rvalid (.e1 s_rBefore .e0)))
theorem s_sdec37:SpecP Try.prog 6 R_two37:=by
 refine sql6 envOK_dec37 ?_;rintro hp az Post ⟨l,i,j,rfl,rfl,rfl⟩;refine ⟨by simp,fun _=>1,?_⟩;unfold pcl6;refine pwp_start ?_;simp only [↓evP,evB,stB,reduceIte,reduceCtorEq,seval,paHw,evsPa,evsD,pI];refine callPS_intro _ (by simp only [stB,reduceIte,reduceCtorEq,seval];exact ⟨0,rfl,Z37_free,rfl⟩) ?_
 rintro hp1 rs1 ⟨⟨D1,N1,hL1⟩,rfl⟩
 by_cases q1:(l.length:Int) > 40
 ·simp only [↓evP,evB,stB,reduceIte,reduceCtorEq,seval,q1,decide_true,decide_false,prl6];exact ⟨_,_,rfl,fun b=>.inl rfl,rfl⟩
 have hlen:l.length≤1000:=by omega
 have hlen6:l.length≤1000000:=by omega
 simp only [↓evP,evB,stB,reduceIte,reduceCtorEq,seval,q1,decide_true,decide_false];refine callOps_intro [pB (decide (chk l=l.length))] ⟨l,rfl,hlen6,rfl⟩ ?_
 by_cases hc:chk l=l.length
 ·by_cases q2:i < 0
  ·simp only [↓evP,evB,stB,reduceIte,reduceCtorEq,seval,q1,q2,hc,decide_true,decide_false,prl6];exact ⟨_,_,rfl,fun b=>.inl rfl,rfl⟩
  by_cases q3:i≥j
  ·simp only [↓evP,evB,stB,reduceIte,reduceCtorEq,seval,q1,q2,q3,hc,decide_true,decide_false,prl6];exact ⟨_,_,rfl,fun b=>.inl rfl,rfl⟩
  by_cases q4:j≥(l.length:Int)
  ·simp only [↓evP,evB,stB,reduceIte,reduceCtorEq,seval,q1,q2,q3,q4,hc,decide_true,decide_false,prl6];exact ⟨_,_,rfl,fun b=>.inl rfl,rfl⟩
  simp only [↓evP,evB,stB,reduceIte,reduceCtorEq,seval,q1,q2,q3,q4,hc,decide_true,decide_false];refine callPS_intro _ (by simp only [stB,reduceIte,reduceCtorEq,seval];exact ⟨l,N1,rfl,hL1.free,plays_valid hc hlen,rfl⟩) ?_
  intro hp2 rs2 hq;obtain ⟨b,D2,N2,t,hT,⟨e1,e2,e3⟩,hL2,rfl⟩:=played_valid hc hlen hq;obtain ⟨a,rfl⟩:=Int.eq_ofNat_of_zero_le (show 0≤i by omega);obtain ⟨c,rfl⟩:=Int.eq_ofNat_of_zero_le (show 0≤j by omega);have ha:a < l.length:=by omega
  have hcl:c < l.length:=by omega
  have ha0:(0:Int)≤(a:Int):=by omega
  have hc0:(0:Int)≤(c:Int):=by omega
  have V:=VL.of hc;have hg:=V.g ha;have hg0:=hg.1;have hg8:(evAt l a).g < ((8:Nat):Int):=hg.2;have ei:=evAt_get ha;have s1:=stp_get (l:=l) ha;have s2:=stp_get (l:=l) hcl;have e1:(ckRow (stp l a)).length=8:=by unfold ckRow;rw [List.length_map,stp_len]
  have e2:(ckRow (stp l c)).length=8:=by unfold ckRow;rw [List.length_map,stp_len]
  have c1:=ckCells_get _ _ _ (get_some (stp_len (l:=l) (j:=a)) (k:=(evAt l a).g.toNat) (by omega));have c2:=ckCells_get _ _ _ (get_some (stp_len (l:=l) (j:=c)) (k:=(evAt l a).g.toNat) (by omega));have r1:(rowsOf (stampsL l))[a]? = some (ckRow (stp l a)):=by unfold rowsOf;rw [List.getElem?_map,s1];rfl
  have r2:(rowsOf (stampsL l))[c]? = some (ckRow (stp l c)):=by unfold rowsOf;rw [List.getElem?_map,s2];rfl
  obtain ⟨d1,d2⟩:=ckLd (stp_len (l:=l) (j:=a));obtain ⟨d3,d4⟩:=ckLd (stp_len (l:=l) (j:=c));simp only [↓evP,evB,stB,reduceIte,reduceCtorEq,Nat.reduceEqDiff,Nat.reduceAdd,Nat.reduceMul,Nat.reduceLeDiff,Nat.reduceLT,Nat.reduceSub,Nat.reduceBEq,q1,q2,q3,q4,hc,decide_true,decide_false,ha0,ei,Ev.row];refine callD_intro [pB (befB l a c)] ⟨l,a,c,rfl,hlen6,rfl⟩ ?_;have hne:stp l a≠stp l c:=stp_ne hc ha hcl (by omega)
  have hle:befB l a c=decide ((stp l c).getD (evAt l a).g.toNat 0≥(stp l a).getD (evAt l a).g.toNat 0):=by
   rw [befB_nat hc ha hcl,decide_eq_decide];exact hb_stp hc ha hcl (by omega)
  have k1:(ckCells (stp l a)).length=8:=by rw [ckCells_length,stp_len]
  have k2:(ckCells (stp l c)).length=8:=by rw [ckCells_length,stp_len]
  have k3:8≤(ckCells (stp l a)).length:=by omega
  have k4:8≤(ckCells (stp l c)).length:=by omega
  have k5:eqCls [false,false,false,false,false,false,false,false] (ckCells (stp l a)) (ckCells (stp l c))=some false:=by
   have:=eqCls_ck (a:=stp l a) (b:=stp l c) (by rw [stp_len,stp_len]);rw [stp_len,decide_eq_false hne] at this;exact this
  simp only [↓evP,evB,stB,reduceIte,reduceCtorEq,Nat.reduceEqDiff,Nat.reduceAdd,Nat.reduceMul,Nat.reduceLeDiff,Nat.reduceLT,Nat.reduceSub,Nat.reduceBEq,ha0,hc0,hg0,hg8,r1,r2,e1,e2,c1,c2,d1,d2,d3,d4,k1,k2,k3,k4,k5,ckRow_cells,Nat.mul_one,hle,beq_self_eq_true];refine ⟨(by unfold Drw;refine Eq.trans (b:=true) ?_ rfl;kernel_rfl),?_⟩
  simp only [↓evP,evB,stB,reduceIte,reduceCtorEq,Nat.reduceEqDiff,Nat.reduceAdd,Nat.reduceMul,Nat.reduceLeDiff,Nat.reduceLT,Nat.reduceSub,Nat.reduceBEq,prl6];exact ⟨_,_,rfl,fun b=>.inl rfl,rfl⟩
 ·simp only [↓evP,evB,stB,reduceIte,reduceCtorEq,seval,q1,hc,decide_true,decide_false,prl6];exact ⟨_,_,rfl,fun b=>.inl rfl,rfl⟩
end Go.Proofs.Ytffcpijeebagfaa
end
section
namespace Go.Proofs.Ytffcpijeebagfaa
open Go Go.RowKit
set_option maxRecDepth 100000
set_option maxHeartbeats 4000000
theorem fin_ck {p:TabP} {e:Ev} {c:Ck} (hcl:p.ck.length=8) (hg:0≤e.g∧e.g < 8) (h14:e.kind=14→1≤e.k∧e.k < 8) {g:Int} (h0:0≤g) (h8:g < 8) :
 (p.fin e c).ck.getD g.toNat ckZ=if g=e.g then c else if e.kind=14∧g=e.k then c else p.ck.getD g.toNat ckZ:=by
 unfold TabP.fin;dsimp only;rw [rel_ck]
 by_cases k14:e.kind=14
 ·rw [if_pos k14];have:=h14 k14;rw [getD_set (by rw [List.length_set];omega)]
  by_cases hgg:g=e.g
  ·rw [if_pos hgg,if_pos (by omega)]
  ·rw [if_neg hgg,if_neg (by omega),getD_set (by omega)]
   by_cases hgk:g=e.k
   ·rw [if_pos (by omega),if_pos ⟨k14,hgk⟩]
   ·rw [if_neg (by omega),if_neg (fun q=>hgk q.2)]
 ·rw [if_neg k14];rw [getD_set (by omega)]
  by_cases hgg:g=e.g
  ·rw [if_pos hgg,if_pos (by omega)]
  ·rw [if_neg hgg,if_neg (by omega),if_neg (fun q=>k14 q.1)]
def clkR (l:List Ev) (g:Int):Nat→Ck
 | 0=>ckZ
 | j+1=>if (evAt l j).g=g∨((evAt l j).kind=14∧(evAt l j).k=g) then stp l j else clkR l g j
section
variable {l:List Ev} (hc:chk l=l.length) (hl:l.length≤1000)
include hc hl
theorem clock_eq {j:Nat} (hj:j≤l.length) (g:Int):(tabTo l j).clock g=clkR l g j:=by
 induction j with
 | zero =>
   show TabP.clock _ g=ckZ
   unfold TabP.clock;split
   ·show (List.replicate 8 ckZ).getD g.toNat ckZ=ckZ
    rw [List.getD_eq_getElem?_getD,List.getElem?_replicate];split <;> rfl
   ·rfl
 | succ j ih =>
   have hlt:j < l.length:=hj;have hT:=tab_inv hc (show l.length≤1000000 by omega) (j:=j) (by omega);have hg:=Ev.valid_g (val_at hc hlt);have hk:=fun q=>Ev.valid_go (val_at hc hlt) q
   have e1:tabTo l (j+1)=(tabTo l j).fin (evAt l j) (stp l j):=(adv_stp hc (by omega) hlt hT).2;have ih:=ih (by omega);unfold clkR;unfold TabP.clock at ih ⊢
   by_cases hr:0≤g∧g < 8
   ·rw [if_pos hr] at ih ⊢;rw [e1,fin_ck hT.cl hg hk hr.1 hr.2]
    by_cases q1:g=(evAt l j).g
    ·rw [if_pos q1,if_pos (.inl q1.symm)]
    ·rw [if_neg q1]
     by_cases q2:(evAt l j).kind=14∧g=(evAt l j).k
     ·rw [if_pos q2,if_pos (.inr ⟨q2.1,q2.2.symm⟩)]
     ·rw [if_neg q2,if_neg (fun q=>q.elim (fun q=>q1 q.symm) (fun q=>q2 ⟨q.1,q.2.symm⟩)),ih]
   ·rw [if_neg hr] at ih ⊢;rw [if_neg,ih];rintro (q | ⟨q,q2⟩)
    ·omega
    ·have:=hk q;omega
theorem clk_start {j:Nat} (hj:j < l.length):clkR l (evAt l j).g j=startC (runTo l j) (evAt l j):=by
 have hg:=Ev.valid_g (val_at hc hj);rw [←clock_eq hc hl (Nat.le_of_lt hj)];unfold TabP.clock;rw [if_pos hg,(tab_inv hc (by omega) (Nat.le_of_lt hj)).ck _ hg.1 hg.2];rfl
omit hl in
theorem start_le {j:Nat} (hj:j < l.length):(∀ k,k < 8→(startC (runTo l j) (evAt l j)).getD k 0≤(stp l j).getD k 0)∧(stp l j).getD (evAt l j).g.toNat 0=(startC (runTo l j) (evAt l j)).getD (evAt l j).g.toNat 0+1:=by
 have V:=VL.of hc;have hg:=V.g hj;have hok:=runTo_ok l j;have hcn:=V.cnt (j:=j) (by omega);have h1:=hcn.start hok (e:=evAt l j) (by omega) (k:=(evAt l j).g.toNat) (by omega);have h3:((runTo l j).cur.getD (evAt l j).g.toNat ckZ).getD (evAt l j).g.toNat 0=(runTo l j).dg (evAt l j).g.toNat:=rfl;have h4:=(hcn.clock (l:=l) (e:=evAt l j) hok (by omega)).1;rw [←stp_at hj] at h4;refine ⟨fun k hk=>?_,by omega⟩
 by_cases hkg:k=(evAt l j).g.toNat
 ·rw [hkg];omega
 ·rw [stp_at hj,clockAt_eq,set_get (by rw [preC_len hok];omega),if_neg hkg]
  exact (hcn.pre (l:=l) hok (e:=evAt l j) (by omega) hk).1
omit hl hc in
theorem clkR_len {j:Nat} (g:Int):(clkR l g j).length=8:=by
 induction j with
 | zero=>rfl
 | succ j ih=>unfold clkR;split;exact stp_len;exact ih
theorem clk_mono {j:Nat} (hj:j < l.length) (g:Int):∀ k,k < 8→(clkR l g j).getD k 0≤(clkR l g (j+1)).getD k 0:=by
 intro k hk;have V:=VL.of hc
 show _≤(if (evAt l j).g=g∨((evAt l j).kind=14∧(evAt l j).k=g) then stp l j else clkR l g j).getD k 0
 split
 ·rename_i h
  by_cases h1:(evAt l j).g=g
  ·rw [←h1,clk_start hc hl hj];exact (start_le hc hj).1 k hk
  ·have h2:=h.resolve_left h1
   have hz:clkR l g j=ckZ:=by
    have hn:=go_new hc hj h2.1
    have:∀ i,i≤j→clkR l g i=ckZ:=fun i=>by
     induction i with
     | zero=>intro _;rfl
     | succ i ih =>
       intro hi;unfold clkR;rw [if_neg,ih (by omega)];rintro (q | ⟨q,q2⟩)
       ·have:=cntG_lt (l:=l) (g:=g) (p:=i) (n:=j) (by omega) q;rw [h2.2] at hn;omega
       ·have:=V.go i j (by omega) hj q h2.1 (q2.trans h2.2.symm);omega
    exact this j (Nat.le_refl j)
   rw [hz,ckZ_get];exact stp_nonneg
 ·exact Int.le_refl _
end
def R_leqT (ps rs:List Pa):Prop:=∃ a b:Ck,ps=[ckPa a,ckPa b]∧(a.length=8∧b.length=8)∧(∀ k,k < 8→a.getD k 0≤b.getD k 0)∧rs=[pB true]
theorem s_leqT:Spec Try.prog 37 R_leqT:=by
 refine sp37 EnvOK.e0 ?_;rintro ps rs ⟨a,b,rfl,⟨ha,hb⟩,hle,rfl⟩;refine ⟨by simp,?_⟩;unfold pc37;refine pwp_start ?_;simp only [↓evP,evB,stB,reduceIte,reduceCtorEq,Nat.reduceEqDiff,Nat.reduceAdd,Nat.reduceMul,Nat.reduceLeDiff,Nat.reduceLT,Nat.reduceSub,Nat.reduceBEq,ckPa,ckRow_cells];refine pwp_loopW ms37_0 os37_0 (fun m st=>∃ k:Nat,m=8 - k∧k≤8∧st.sl 5=aI k) 8 ?_ ?_
 ·exact ⟨0,rfl,Nat.zero_le _,by simp only [stB,reduceIte,reduceCtorEq,Nat.reduceEqDiff,Nat.reduceAdd,Nat.reduceMul,Nat.reduceLeDiff,Nat.reduceLT,Nat.reduceSub,Nat.reduceBEq];rfl⟩
 ·rintro m j ⟨k,rfl,hk,h6⟩;simp only [stB,reduceIte,reduceCtorEq,seval] at h6
  rcases Nat.lt_or_ge k 8 with hlt | hge
  ·have hlt':(k:Int) < 8:=by omega
   have h0:(0:Int)≤(k:Int):=by omega
   have hlt8:(k:Int) < ((8:Nat):Int):=by omega
   have e1:=ckCells_get _ _ _ (get_some ha hlt);have e2:=ckCells_get _ _ _ (get_some hb hlt);have hcc:¬ a.getD k 0 > b.getD k 0:=by have:=hle k hlt;omega
   simp only [↓evP,evB,stB,reduceIte,reduceCtorEq,seval,h6,hlt',hlt8,h0,e1,e2,hcc,decide_true,decide_false,Nat.mul_one];refine ⟨(by unfold Drw;kernel_rfl),?_⟩
   exact ⟨_,by omega,(by repeat' (first | assumption | exact within_over.mpr trivial | exact Within.refl _ _ _ | (refine within_ap ?_ rfl rfl) | (refine within_ap0 ?_ rfl))),k+1,rfl,by omega,by simp only [stB,reduceIte,reduceCtorEq,seval,h6];rw [wrN (by omega)]⟩
  ·have hk8:k=8:=by omega
   subst hk8;have hlt':¬ ((8:Nat):Int) < 8:=by omega
   simp only [↓evP,evB,stB,reduceIte,reduceCtorEq,seval,h6,hlt',pr37]
def R_num37 (hp:Nat→Hb) (az:List Hw) (Post:(Nat→Hb)→List Hw→Prop):Prop:=∃ (l:List Ev) (g:Int),az=[paHw (evsPa l),paHw (pI g)]∧hp=Z37∧Post=fun _ r=>r=[.one (.d (dB true))]
def R_numS (ps rs:List Pa):Prop:=∃ (l:List Ev) (g:Int),ps=[evsPa l,pI g]∧rs=[pB true]
theorem num37 {f:Nat} (h:SpecP Try.prog f R_num37):Spec Try.prog f R_numS:=by
 rintro ps rs ⟨l,g,rfl,rfl⟩;exact h.toS _ _ ⟨_,⟨l,g,rfl,rfl,rfl⟩,fun hp' rs' q=>q⟩
def env_gr37:Env:=p1 26 R_awake37 (h1 34 R_tnew (h1 36 R_adv (h1 35 R_tclk (e1 27 R_rvalid (e1 37 R_leqT e0)))))
theorem envOK_gr37:EnvOK Try.prog env_gr37:=.p1 s_awake37 (.h1 s_tnew (.h1 s_adv (.h1 s_tclk (.e1 s_rvalid (.e1 s_leqT .e0)))))
theorem s_sgr37:SpecP Try.prog 7 R_num37:=by
 refine sql7 envOK_gr37 ?_;rintro hp az Post ⟨l,g,rfl,rfl,rfl⟩;refine ⟨by simp,fun _=>1,?_⟩;unfold pcl7;refine pwp_start ?_;simp only [↓evP,evB,stB,reduceIte,reduceCtorEq,seval,paHw,evsPa,evsD,pI];refine callPS_intro _ (by simp only [stB,reduceIte,reduceCtorEq,seval];exact ⟨0,rfl,Z37_free,rfl⟩) ?_
 rintro hp0 rs1 ⟨⟨D0,N,hL0⟩,rfl⟩
 by_cases q1:(l.length:Int) > 40
 ·simp only [↓evP,evB,stB,reduceIte,reduceCtorEq,seval,q1,decide_true,decide_false,prl7];exact ⟨_,_,rfl,fun b=>.inl rfl,rfl⟩
 have hlen:l.length≤1000:=by omega
 have hlen6:l.length≤1000000:=by omega
 simp only [↓evP,evB,stB,reduceIte,reduceCtorEq,seval,q1,decide_true,decide_false];refine callOps_intro [pB (decide (chk l=l.length))] ⟨l,rfl,hlen6,rfl⟩ ?_
 by_cases hc:chk l=l.length
 ·have hN:=hL0.free;obtain ⟨hp1,t1,D1,hR1,hT1,⟨a1,a2,a3⟩,hL1⟩:=new_run hN;simp only [↓evP,evB,stB,reduceIte,reduceCtorEq,seval,q1,hc,decide_true,decide_false];refine callHS_intro hp1 [hP (N+5) 0] (by simp only [stB,reduceIte,reduceCtorEq,seval];exact hR1) ?_
  simp only [↓evP,evB,stB,reduceIte,reduceCtorEq,Nat.reduceEqDiff,Nat.reduceAdd,Nat.reduceMul,Nat.reduceLeDiff,Nat.reduceLT,Nat.reduceSub,Nat.reduceBEq];refine pwp_loopH msl7_0 osl7_0 (fun m st=>∃ k b D N' t,m=l.length - k∧k≤l.length∧st.sl 25=aI k∧b=N+5∧TabAt st.hb b D t∧(t.p=tabTo l k∧t.st=tsAt l k∧t.sn≤2 * k)∧Left hp0 (fun _=>False) N st.hb D N') l.length (by (repeat' (first | exact AllHp.init | assumption | (refine AllHp.ap ?_ rfl)))) ?_ ?_
  ·exact ⟨0,N+5,D1,N+6,t1,rfl,Nat.zero_le _,by simp only [stB,reduceIte,reduceCtorEq,Nat.reduceEqDiff,Nat.reduceAdd,Nat.reduceMul,Nat.reduceLeDiff,Nat.reduceLT,Nat.reduceSub,Nat.reduceBEq];rfl,rfl,by simp only [stB,reduceIte,reduceCtorEq,Nat.reduceEqDiff,Nat.reduceAdd,Nat.reduceMul,Nat.reduceLeDiff,Nat.reduceLT,Nat.reduceSub,Nat.reduceBEq];exact hT1,⟨a1,a2,by rw [a3];exact Nat.zero_le _⟩,by simp only [stB,reduceIte,reduceCtorEq,Nat.reduceEqDiff,Nat.reduceAdd,Nat.reduceMul,Nat.reduceLeDiff,Nat.reduceLT,Nat.reduceSub,Nat.reduceBEq];exact hL1⟩
  rintro m j hjn hja ⟨k,b,D,N',t,rfl,hk,h14,rfl,hT,⟨e1,e2,e3⟩,hL⟩;simp only [stB,reduceIte,reduceCtorEq,seval,hjn] at h14 hT hL
  rcases Nat.lt_or_ge k l.length with hlt | hge
  ·have hle:=evAt_get hlt;obtain ⟨hp2,D2,t2,hR2,hT2,⟨f1,f2,f3⟩,hL2⟩:=adv_valid hc hlen hlt hT hL.lt hL.free e1 e2 e3;have c1:=clk_run hT g;have c2:=clk_run hT (evAt l k).g;have c3:=clk_run hT2 g;have c4:=clk_run hT2 (evAt l k).g;rw [e1,clock_eq hc hlen hk] at c1 c2;rw [f1,clock_eq hc hlen hlt] at c3 c4;have hst:=clk_start hc hlen hlt;have hcg:clkR l (evAt l k).g (k+1)=stp l k:=if_pos (.inl rfl);rw [hst] at c2;rw [hcg] at c4;have hm1:=clk_mono hc hlen hlt g;have hm2:=(start_le hc hlt).1;have hm3:=(start_le hc hlt).2;have n1:=clkR_len (l:=l) (j:=k) g;have n2:=clkR_len (l:=l) (j:=k+1) g;have n3:(startC (runTo l k) (evAt l k)).length=8:=((runTo_ok l k).start (evAt l k)).1;have n4:=stp_len (l:=l) (j:=k);have hg:=Ev.valid_g (val_at hc hlt);have g0:=hg.1;have g8:(evAt l k).g < ((8:Nat):Int):=hg.2;have w0:=(((runTo_ok l k).start (evAt l k)).get (evAt l k).g.toNat)
   have w1:(startC (runTo l k) (evAt l k)).getD (evAt l k).g.toNat 0≤1000000:=by
    have h1:=((runTo_ok l k).start (evAt l k)).2 _ (List.mem_of_getElem? (get_some n3 (k:=(evAt l k).g.toNat) (by omega)));omega
   have x1:=ckCells_get _ _ _ (get_some n4 (k:=(evAt l k).g.toNat) (by omega));have x2:=ckCells_get _ _ _ (get_some n3 (k:=(evAt l k).g.toNat) (by omega));generalize clkR l g k=A at *;generalize clkR l g (k+1)=B at *;generalize startC (runTo l k) (evAt l k)=C at *;obtain ⟨S,hS⟩:∃ S,stp l k=S:=⟨_,rfl⟩
   rw [hS] at hR2 c4 hm2 hm3 n4 x1;have klt:(k:Int) < (l.length:Int):=by omega
   have k0:(0:Int)≤(k:Int):=by omega
   obtain ⟨y1,y2⟩:=ckLd n1;obtain ⟨y3,y4⟩:=ckLd n2;obtain ⟨y5,y6⟩:=ckLd n3;obtain ⟨y7,y8⟩:=ckLd n4;have z1:(ckCells A).length=8:=by rw [ckCells_length,n1]
   have z2:(ckCells B).length=8:=by rw [ckCells_length,n2]
   have z3:(ckCells C).length=8:=by rw [ckCells_length,n3]
   have z4:(ckCells S).length=8:=by rw [ckCells_length,n4]
   have v1:=wr_new8 n1;have v2:=wr_new8 n2;have v3:=wr_new8 n3;have v4:=wr_new8 n4
   have he8:eqCls [false,false,false,false,false,false,false,false] (ckCells S) (ckCells S)=some true:=by
    have:=eqCls_ck (a:=S) (b:=S) rfl;rw [n4,decide_eq_true rfl] at this;exact this
   have hw:IntKind.i64.wrap (C.getD (evAt l k).g.toNat 0+1)=S.getD (evAt l k).g.toNat 0:=by rw [hm3,wr64 (by omega) (by omega)]
   simp only [↓evP,evB,stB,reduceIte,reduceCtorEq,seval,h14,klt,decide_true,hle,k0,Ev.row];refine callHD_intro j.hb [ckHw A] (by simp only [stB,reduceIte,reduceCtorEq,seval,hjn];exact c1) ?_
   simp only [↓evP,evB,stB,reduceIte,reduceCtorEq,seval,h14,klt,decide_true,hle,k0,Ev.row,y1,y2,y3,y4,y5,y6,y7,y8,z1,z2,z3,z4,v1,v2,v3,v4,ckHw,ckH_cl,ckCells_dt,ckRow_cells,ckPa,x1,x2,g0,g8,he8,hw,Nat.mul_one,bne_self_eq_false,Bool.not_true];refine callHD_intro j.hb [ckHw C] (by simp only [stB,reduceIte,reduceCtorEq,seval,hjn];exact c2) ?_
   simp only [↓evP,evB,stB,reduceIte,reduceCtorEq,seval,h14,klt,decide_true,hle,k0,Ev.row,y1,y2,y3,y4,y5,y6,y7,y8,z1,z2,z3,z4,v1,v2,v3,v4,ckHw,ckH_cl,ckCells_dt,ckRow_cells,ckPa,x1,x2,g0,g8,he8,hw,Nat.mul_one,bne_self_eq_false,Bool.not_true];refine ⟨(by unfold Drw;refine Eq.trans (b:=true) ?_ rfl;kernel_rfl),?_⟩
   refine callHS_intro hp2 [ckHw S,.one (hI 0)] (by simp only [stB,reduceIte,reduceCtorEq,seval,hjn];exact hR2) ?_
   simp only [↓evP,evB,stB,reduceIte,reduceCtorEq,seval,h14,klt,decide_true,hle,k0,Ev.row,y1,y2,y3,y4,y5,y6,y7,y8,z1,z2,z3,z4,v1,v2,v3,v4,ckHw,ckH_cl,ckCells_dt,ckRow_cells,ckPa,x1,x2,g0,g8,he8,hw,Nat.mul_one,bne_self_eq_false,Bool.not_true];refine callHD_intro hp2 [ckHw B] (by simp only [stB,reduceIte,reduceCtorEq,seval,hjn];exact c3) ?_
   simp only [↓evP,evB,stB,reduceIte,reduceCtorEq,seval,h14,klt,decide_true,hle,k0,Ev.row,y1,y2,y3,y4,y5,y6,y7,y8,z1,z2,z3,z4,v1,v2,v3,v4,ckHw,ckH_cl,ckCells_dt,ckRow_cells,ckPa,x1,x2,g0,g8,he8,hw,Nat.mul_one,bne_self_eq_false,Bool.not_true];refine callD_intro [pB true] (by exact ⟨A,B,rfl,⟨n1,n2⟩,hm1,rfl⟩) ?_;simp only [↓evP,evB,stB,reduceIte,reduceCtorEq,seval,h14,klt,decide_true,hle,k0,Ev.row,y1,y2,y3,y4,y5,y6,y7,y8,z1,z2,z3,z4,v1,v2,v3,v4,ckHw,ckH_cl,ckCells_dt,ckRow_cells,ckPa,x1,x2,g0,g8,he8,hw,Nat.mul_one,bne_self_eq_false,Bool.not_true];refine callD_intro [pB true] (by exact ⟨C,S,rfl,⟨n3,n4⟩,hm2,rfl⟩) ?_
   simp only [↓evP,evB,stB,reduceIte,reduceCtorEq,Nat.reduceEqDiff,Nat.reduceAdd,Nat.reduceMul,Nat.reduceLeDiff,Nat.reduceLT,Nat.reduceSub,Nat.reduceBEq,h14,klt,decide_true,hle,k0,Ev.row,y1,y2,y3,y4,y5,y6,y7,y8,z1,z2,z3,z4,v1,v2,v3,v4,ckHw,ckH_cl,ckCells_dt,ckRow_cells,ckPa,x1,x2,g0,g8,he8,hw,Nat.mul_one,bne_self_eq_false,Bool.not_true];refine callHD_intro hp2 [ckHw S] (by simp only [stB,reduceIte,reduceCtorEq,Nat.reduceEqDiff,Nat.reduceAdd,Nat.reduceMul,Nat.reduceLeDiff,Nat.reduceLT,Nat.reduceSub,Nat.reduceBEq,hjn];exact c4) ?_
   simp only [↓evP,evB,stB,reduceIte,reduceCtorEq,seval,h14,klt,decide_true,hle,k0,Ev.row,y1,y2,y3,y4,y5,y6,y7,y8,z1,z2,z3,z4,v1,v2,v3,v4,ckHw,ckH_cl,ckCells_dt,ckRow_cells,ckPa,x1,x2,g0,g8,he8,hw,Nat.mul_one,bne_self_eq_false,Bool.not_true];refine ⟨(by unfold Drw;refine Eq.trans (b:=true) ?_ rfl;kernel_rfl),?_⟩
   exact ⟨l.length - (k+1),by omega,(by repeat' (first | assumption | exact withinH_over hja | (refine withinH_ap ?_ rfl rfl) | (refine withinH_ap0 ?_ rfl))),k+1,N+5,D2,N'+80,t2,rfl,hlt,by simp only [stB,reduceIte,reduceCtorEq,seval,h14];rw [wrN (by omega)],rfl,by simp only [stB,reduceIte,reduceCtorEq,seval];exact hT2,⟨f1,f2,f3⟩,by simp only [stB,reduceIte,reduceCtorEq,seval];exact hL.trans hL2⟩
  ·have hkl:k=l.length:=by omega
   have klt:¬ (k:Int) < (l.length:Int):=by omega
   simp only [↓evP,evB,stB,reduceIte,reduceCtorEq,seval,h14,klt,decide_false,prl7];exact ⟨_,_,rfl,fun b=>.inl rfl,rfl⟩
 ·simp only [↓evP,evB,stB,reduceIte,reduceCtorEq,seval,q1,hc,decide_true,decide_false,prl7];exact ⟨_,_,rfl,fun b=>.inl rfl,rfl⟩
end Go.Proofs.Ytffcpijeebagfaa
end
