/- The reference of chapter 30 on lists: New, Check, Valid, After, Whole, Goroutines. -/
import Derived.Test.YtffcpijeebagfaaMe10
import Derived.OpenShut
set_option linter.unusedSimpArgs false
set_option linter.unusedVariables false
section
namespace Go.Proofs.Ytffcpijeebagfaa
open Go Go.RowKit
set_option maxRecDepth 100000
set_option maxHeartbeats 4000000
def R_rnew (ps rs:List Pa):Prop:=ps=[]∧rs=[RSt.new.pa]
theorem s_rnew:Spec Try.prog 20 R_rnew:=by
 refine sp20 EnvOK.e0 ?_;rintro ps rs ⟨rfl,rfl⟩;refine ⟨by simp,?_⟩;unfold pc20;refine pwp_start ?_;simp only [↓evP,evB,stB,reduceIte,reduceCtorEq,seval,RSt.pa,RSt.row,RSt.new,pr20]
def env_walk:Env:=e1 20 R_rnew (e1 22 R_Add e0)
theorem env_walk_ok:EnvOK Try.prog env_walk:=EnvOK.e1 s_rnew (EnvOK.e1 s_Add EnvOK.e0)
def R_rcheck (ps rs:List Pa):Prop:=∃ l:List Ev,ps=[evsPa l]∧l.length≤1000000∧rs=[pI (chk l),pB (decide (chk l=l.length))]
theorem s_rcheck:Spec Try.prog 72 R_rcheck:=by
 refine sp72 env_walk_ok ?_;rintro ps rs ⟨l,rfl,hlen,rfl⟩;refine ⟨by simp,?_⟩;unfold pc72;refine pwp_start ?_;simp only [↓evP,evB,stB,reduceIte,reduceCtorEq,seval,evsPa,evsD];refine callOps_intro [RSt.new.pa] ⟨rfl,rfl⟩ ?_;simp only [↓evP,evB,stB,reduceIte,reduceCtorEq,Nat.reduceEqDiff,Nat.reduceAdd,Nat.reduceMul,Nat.reduceLeDiff,Nat.reduceLT,Nat.reduceSub,Nat.reduceBEq,RSt.pa,RSt.row];refine pwp_loopW ms72_0 os72_0 (fun m st=>∃ k:Nat,∃ r t,m=l.length - k∧RAt l k r t∧st.sl 5=aI k∧st.gen 4=1∧st.ob 4=.cells (r.row.map .d)) l.length ?_ ?_
 ·exact ⟨0,_,_,rfl,RAt.zero l,by simp only [stB,reduceIte,reduceCtorEq,Nat.reduceEqDiff,Nat.reduceAdd,Nat.reduceMul,Nat.reduceLeDiff,Nat.reduceLT,Nat.reduceSub,Nat.reduceBEq];rfl,by simp only [stB,reduceIte,reduceCtorEq,Nat.reduceEqDiff,Nat.reduceAdd,Nat.reduceMul,Nat.reduceLeDiff,Nat.reduceLT,Nat.reduceSub,Nat.reduceBEq],by simp only [stB,reduceIte,reduceCtorEq,Nat.reduceEqDiff,Nat.reduceAdd,Nat.reduceMul,Nat.reduceLeDiff,Nat.reduceLT,Nat.reduceSub,Nat.reduceBEq,RSt.row]⟩
 ·rintro m j ⟨k,r,t,rfl,hat,h5,g4,o4⟩;simp only [stB,reduceIte,reduceCtorEq,seval,RSt.row] at h5 g4 o4;have hk:=hat.le
  rcases Nat.lt_or_ge k l.length with hlt | hge
  ·obtain ⟨e,he⟩:∃ e,l[k]? = some e:=⟨_,List.getElem?_eq_getElem hlt⟩
   have hlt':(k:Int) < (l.length:Int):=by omega
   simp only [↓evP,evB,stB,reduceIte,reduceCtorEq,seval,h5,g4,o4,he,hlt',Ev.row];refine callD_intro [(r.addR e).1.pa,pB (r.addR e).2] ⟨r,e,rfl,hat.ok,rfl⟩ ?_
   rcases hat.step he with ⟨r',t',h1,_,hat'⟩ | ⟨h1,hc,haf⟩
   ·rw [h1];simp only [↓evP,evB,stB,reduceIte,reduceCtorEq,seval,h5,g4,o4,he,RSt.pa,RSt.row];refine ⟨(by unfold Drw;kernel_rfl),?_⟩
    exact ⟨_,by omega,(by repeat' (first | assumption | exact within_over.mpr trivial | exact Within.refl _ _ _ | (refine within_ap ?_ rfl rfl) | (refine within_ap0 ?_ rfl))),k+1,r',t',rfl,hat',by simp only [stB,reduceIte,reduceCtorEq,seval,h5];rw [wrN (by omega)],by simp only [stB,reduceIte,reduceCtorEq,seval,g4],by simp only [stB,reduceIte,reduceCtorEq,seval,o4,RSt.row]⟩
   ·rw [h1];simp only [↓evP,evB,stB,reduceIte,reduceCtorEq,seval,h5,g4,o4,he,RSt.pa,RSt.row,pr72];refine ⟨(by unfold Drw;kernel_rfl),?_⟩
    rw [hc,decide_eq_false (by omega)]
  ·have hkl:k=l.length:=by omega
   subst hkl;have hlt':¬ (l.length:Int) < (l.length:Int):=by omega
   simp only [↓evP,evB,stB,reduceIte,reduceCtorEq,seval,h5,g4,o4,hlt',RSt.pa,RSt.row,pr72];rw [hat.all.1,decide_eq_true rfl]
def R_rwhole (ps rs:List Pa):Prop:=∃ l:List Ev,ps=[evsPa l]∧l.length≤1000000∧rs=[pI (wholeOf l)]
theorem s_rwhole:Spec Try.prog 32 R_rwhole:=by
 refine sp32 env_walk_ok ?_;rintro ps rs ⟨l,rfl,hlen,rfl⟩;refine ⟨by simp,?_⟩;unfold pc32;refine pwp_start ?_;simp only [↓evP,evB,stB,reduceIte,reduceCtorEq,seval,evsPa,evsD];refine callOps_intro [RSt.new.pa] ⟨rfl,rfl⟩ ?_;simp only [↓evP,evB,stB,reduceIte,reduceCtorEq,Nat.reduceEqDiff,Nat.reduceAdd,Nat.reduceMul,Nat.reduceLeDiff,Nat.reduceLT,Nat.reduceSub,Nat.reduceBEq,RSt.pa,RSt.row];refine pwp_loopW ms32_0 os32_0 (fun m st=>∃ k:Nat,∃ r t,m=l.length - k∧RAt l k r t∧st.sl 5=aI k∧st.gen 3=1∧st.ob 3=.cells (r.row.map .d)∧st.sl 4=aI (TS.new.wholeTo l k)) l.length ?_ ?_
 ·exact ⟨0,_,_,rfl,RAt.zero l,by simp only [stB,reduceIte,reduceCtorEq,Nat.reduceEqDiff,Nat.reduceAdd,Nat.reduceMul,Nat.reduceLeDiff,Nat.reduceLT,Nat.reduceSub,Nat.reduceBEq];rfl,by simp only [stB,reduceIte,reduceCtorEq,Nat.reduceEqDiff,Nat.reduceAdd,Nat.reduceMul,Nat.reduceLeDiff,Nat.reduceLT,Nat.reduceSub,Nat.reduceBEq],by simp only [stB,reduceIte,reduceCtorEq,Nat.reduceEqDiff,Nat.reduceAdd,Nat.reduceMul,Nat.reduceLeDiff,Nat.reduceLT,Nat.reduceSub,Nat.reduceBEq,RSt.row],by simp only [stB,reduceIte,reduceCtorEq,Nat.reduceEqDiff,Nat.reduceAdd,Nat.reduceMul,Nat.reduceLeDiff,Nat.reduceLT,Nat.reduceSub,Nat.reduceBEq];rfl⟩
 ·rintro m j ⟨k,r,t,rfl,hat,h5,g4,o4,hwh⟩;simp only [stB,reduceIte,reduceCtorEq,seval,RSt.row] at h5 g4 o4 hwh;have hk:=hat.le
  rcases Nat.lt_or_ge k l.length with hlt | hge
  ·obtain ⟨e,he⟩:∃ e,l[k]? = some e:=⟨_,List.getElem?_eq_getElem hlt⟩
   have hlt':(k:Int) < (l.length:Int):=by omega
   simp only [↓evP,evB,stB,reduceIte,reduceCtorEq,seval,h5,g4,o4,he,hlt',hwh,Ev.row];refine callD_intro [(r.addR e).1.pa,pB (r.addR e).2] ⟨r,e,rfl,hat.ok,rfl⟩ ?_
   rcases hat.step he with ⟨r',t',h1,_,hat'⟩ | ⟨h1,hc,haf⟩
   ·rw [h1]
    by_cases hn:r'.next.length=0
    ·have hw:TS.new.wholeTo l (k+1)=k+1:=by rw [hat'.whole,if_pos hn]
     have hn':((r'.next.length:Int) == 0)=true:=by simp [hn]
     simp only [↓evP,evB,stB,reduceIte,reduceCtorEq,seval,h5,g4,o4,he,RSt.pa,RSt.row,hn'];refine ⟨(by unfold Drw;kernel_rfl),?_⟩
     exact ⟨_,by omega,(by repeat' (first | assumption | exact within_over.mpr trivial | exact Within.refl _ _ _ | (refine within_ap ?_ rfl rfl) | (refine within_ap0 ?_ rfl))),k+1,r',t',rfl,hat',by simp only [stB,reduceIte,reduceCtorEq,seval,h5];rw [wrN (by omega)],by simp only [stB,reduceIte,reduceCtorEq,seval,g4],by simp only [stB,reduceIte,reduceCtorEq,seval,o4,RSt.row],by simp only [stB,reduceIte,reduceCtorEq,seval,hw];rw [wrN (by omega)]⟩
    ·have hw:TS.new.wholeTo l (k+1)=TS.new.wholeTo l k:=by rw [hat'.whole,if_neg hn]
     have hn':((r'.next.length:Int) == 0)=false:=beq_eq_false_iff_ne.2 (by omega);simp only [↓evP,evB,stB,reduceIte,reduceCtorEq,seval,h5,g4,o4,he,RSt.pa,RSt.row,hn'];refine ⟨(by unfold Drw;kernel_rfl),?_⟩
     exact ⟨_,by omega,(by repeat' (first | assumption | exact within_over.mpr trivial | exact Within.refl _ _ _ | (refine within_ap ?_ rfl rfl) | (refine within_ap0 ?_ rfl))),k+1,r',t',rfl,hat',by simp only [stB,reduceIte,reduceCtorEq,seval,h5];rw [wrN (by omega)],by simp only [stB,reduceIte,reduceCtorEq,seval,g4],by simp only [stB,reduceIte,reduceCtorEq,seval,o4,RSt.row],by simp only [stB,reduceIte,reduceCtorEq,seval,hw,hwh]⟩
   ·rw [h1];simp only [↓evP,evB,stB,reduceIte,reduceCtorEq,seval,h5,g4,o4,he,hwh,RSt.pa,RSt.row,pr32];refine ⟨(by unfold Drw;kernel_rfl),?_⟩
    unfold wholeOf;rw [hc]
  ·have hkl:k=l.length:=by omega
   subst hkl;have hlt':¬ (l.length:Int) < (l.length:Int):=by omega
   simp only [↓evP,evB,stB,reduceIte,reduceCtorEq,seval,h5,g4,o4,hlt',hwh,RSt.pa,RSt.row,pr32];unfold wholeOf;rw [hat.all.1]
def R_rvalid (ps rs:List Pa):Prop:=∃ l:List Ev,ps=[evsPa l]∧l.length≤1000000∧rs=[pB (decide (chk l=l.length))]
def env_rvalid:Env:=e1 72 R_rcheck e0
theorem s_rvalid:Spec Try.prog 27 R_rvalid:=by
 refine sp27 (show EnvOK Try.prog env_rvalid from EnvOK.e1 s_rcheck EnvOK.e0) ?_;rintro ps rs ⟨l,rfl,hlen,rfl⟩;refine ⟨by simp,?_⟩;unfold pc27;refine pwp_start ?_;simp only [↓evP,evB,stB,reduceIte,reduceCtorEq,seval,evsPa,evsD];refine callOps_intro [pI (chk l),pB (decide (chk l=l.length))] ⟨l,rfl,hlen,rfl⟩ ?_;simp only [↓evP,evB,stB,reduceIte,reduceCtorEq,seval,pr27]
def stOf (l:List Ev):List Ck:=if chk l=l.length then stampsL l else []
def errOf (l:List Ev):Int:=if chk l=l.length then 0 else 1
def R_Stamps (ps rs:List Pa):Prop:=∃ l:List Ev,ps=[evsPa l]∧l.length≤1000000∧rs=[cksPa (stOf l),pI (errOf l)]
end Go.Proofs.Ytffcpijeebagfaa
end
section
namespace Go.Proofs.Ytffcpijeebagfaa
open Go Go.RowKit
set_option maxRecDepth 100000
set_option maxHeartbeats 4000000
open Classical
noncomputable def relRow (l:List Ev) (n i:Nat):List Dt:=[.im ((List.range n).map fun j=>[dB (decide (HB l i j))])]
noncomputable def relPa (l:List Ev):Pa:=.one (.im ((List.range l.length).map (relRow l l.length)))
def R_rel34 (ps rs:List Pa):Prop:=∃ l:List Ev,ps=[evsPa l]∧(l.length≤1000000∧∀ e,e ∈ l→e.valid=true)∧rs=[relPa l]
theorem s_rel34:Spec Try.prog 73 R_rel34:=by
 rintro ps rs ⟨l,rfl,⟨hlen,hv⟩,rfl⟩ S w vals _ hvl;obtain ⟨u,rfl,h1⟩:=hvl.one;refine (rel_walk w S u l h1 hlen hv).mono ?_;rintro e w' ⟨rfl,hG⟩;refine ⟨_,fun b=>if b < w.heap.size then S b else l.length,rfl,?_,hG.bel,fun b hb=>if_pos hb⟩
 show RD _ w' _ _
 have hrow:∀ i,i < l.length→RD (fun b=>if b < w.heap.size then S b else l.length) w' (.im ((List.range l.length).map fun j=>[dB (decide (HB l i j))])) (.slice (some ⟨w.heap.size+1+i,0,none⟩) l.length l.length):=fun i hi=>by
  have hl:l.length=((List.range l.length).map fun j=>[dB (decide (HB l i j))]).length:=by simp
  conv=>rhs;rw [show (Value.slice (some ⟨w.heap.size+1+i,0,none⟩) l.length l.length)=.slice (some ⟨w.heap.size+1+i,0,none⟩) ((List.range l.length).map fun j=>[dB (decide (HB l i j))]).length l.length by rw [←hl]]
  refine RD.im _ 1 _ 0 l.length (fun j _=>.bool (decide (HB l i j))) (by rw [←hl];exact Nat.le_refl _) (by unfold maxLen;omega) ?_ ?_ ?_
  ·intro r hr;obtain ⟨x,_,rfl⟩:=List.mem_map.1 hr;rfl
  ·intro j k hj hk;rw [←hl] at hj;have h0:0+(j * 1+k)=j:=by omega
   rw [h0];refine ⟨(hG.row i hi).cell hj,?_⟩;rw [if_neg (by omega)];exact hj
  ·intro j r k x hr hx;rw [List.getElem?_map,Option.map_eq_some_iff] at hr;obtain ⟨j',hj',rfl⟩:=hr
   have hjj:j'=j:=by
    have hjl:=(List.getElem?_eq_some_iff.1 hj').1;rw [List.length_range] at hjl;rw [List.getElem?_range hjl] at hj';cases hj';rfl
   subst hjj
   match k,hx with
   | 0,hx=>simp at hx;subst hx;exact .sc _ rfl
 have hl:l.length=((List.range l.length).map (relRow l l.length)).length:=by simp
 conv=>rhs;rw [show (Value.slice (some ⟨w.heap.size,0,none⟩) l.length l.length)=.slice (some ⟨w.heap.size,0,none⟩) ((List.range l.length).map (relRow l l.length)).length l.length by rw [←hl]]
 refine RD.im _ 1 _ 0 l.length (fun i _=>.slice (some ⟨w.heap.size+1+i,0,none⟩) l.length l.length) (by rw [←hl];exact Nat.le_refl _) (by unfold maxLen;omega) ?_ ?_ ?_
 ·intro r hr;obtain ⟨x,_,rfl⟩:=List.mem_map.1 hr;rfl
 ·intro j k hj hk;rw [←hl] at hj;have h0:0+(j * 1+k)=j:=by omega
  rw [h0];refine ⟨hG.head hj,?_⟩;rw [if_neg (by omega)];exact hj
 ·intro j r k x hr hx;rw [List.getElem?_map,Option.map_eq_some_iff] at hr;obtain ⟨j',hj',rfl⟩:=hr;have hjl:=(List.getElem?_eq_some_iff.1 hj').1;rw [List.length_range] at hjl
  have hjj:j'=j:=by
   rw [List.getElem?_range hjl] at hj';cases hj';rfl
  subst hjj
  match k,hx with
  | 0,hx=>simp [relRow] at hx;subst hx;exact hrow _ hjl
noncomputable def cntC (l:List Ev) (j n:Nat):Ck:=(List.range 8).map fun (g:Nat)=>(cntHB l (g:Int) j n:Int)
theorem cntC_len (l:List Ev) (j n:Nat):(cntC l j n).length=8:=by simp [cntC]
theorem cntC_get (l:List Ev) (j n:Nat) {g:Nat} (h:g < 8):(cntC l j n)[g]? = some (cntHB l (g:Int) j n:Int):=by
 unfold cntC;rw [List.getElem?_map,List.getElem?_range h];rfl
theorem cntHB_le (l:List Ev) (g:Int) (j n:Nat):cntHB l g j n≤n:=by
 induction n with
 | zero=>exact Nat.le_refl _
 | succ n ih=>simp only [cntHB];split <;> omega
theorem cntC_zero (l:List Ev) (j:Nat):cntC l j 0=ckZ:=by
 unfold cntC ckZ;rfl
theorem cntC_hit {l:List Ev} {j n:Nat} (h0:0≤(evAt l n).g) (h8:(evAt l n).g < 8) (hb:HBE l n j):(cntC l j n).set (evAt l n).g.toNat ((cntHB l (evAt l n).g j n:Int)+1)=cntC l j (n+1):=by
 apply List.ext_getElem?
 intro g;rw [List.getElem?_set]
 by_cases hg:g < 8
 ·rw [cntC_get l j (n+1) hg,cntC_get l j n hg];simp only [cntHB]
  by_cases he:(evAt l n).g.toNat=g
  ·have he':(evAt l n).g=(g:Int):=by omega
   rw [if_pos he,if_pos (by rw [cntC_len];omega),if_pos ⟨he',hb⟩,he'];rfl
  ·rw [if_neg he,if_neg (fun h=>he (by omega))]
 ·rw [List.getElem?_eq_none (by rw [cntC_len];omega),List.getElem?_eq_none (by rw [cntC_len];omega)]
  split
  ·split <;> first | rfl | (rename_i h1 h2;rw [cntC_len] at h2;omega)
  ·rfl
theorem cntC_miss {l:List Ev} {j n:Nat} (hb:¬ HBE l n j):cntC l j n=cntC l j (n+1):=by
 unfold cntC
 apply List.map_congr_left
 intro g _;simp only [cntHB];rw [if_neg (fun h=>hb h.2)]
theorem cntC_stp {l:List Ev} (V:VL l) {j:Nat} (h:j < l.length):cntC l j (j+1)=stp l j:=by
 apply List.ext_getElem?
 intro g
 by_cases hg:g < 8
 ·rw [cntC_get l j (j+1) hg];have:=stp_cnt V h (g:=(g:Int)) (by omega) (by omega);rw [Int.toNat_natCast] at this;rw [←this,List.getD_eq_getElem?_getD,List.getElem?_eq_getElem (by rw [stp_len];omega)];rfl
 ·rw [List.getElem?_eq_none (by rw [cntC_len];omega),List.getElem?_eq_none (by rw [stp_len];omega)]
theorem stamps_succ {l:List Ev} {j:Nat} (h:j < l.length):(stampsL l).take (j+1)=(stampsL l).take j ++ [stp l j]:=by
 rw [List.take_add_one]
 congr 1
 unfold stp;rw [List.getD_eq_getElem?_getD,List.getElem?_eq_getElem (by rw [stampsL_length];exact h)];rfl
end Go.Proofs.Ytffcpijeebagfaa
end
section
namespace Go.Proofs.Ytffcpijeebagfaa
open Go Go.RowKit
set_option maxRecDepth 100000
set_option maxHeartbeats 4000000
theorem within_in {ms os ms' os':List Nat} {s0 b j:St} (h:Within ms os s0 b) (hm:ms'.all (fun x=>ms.contains x)=true) (ho:os'.all (fun x=>os.contains x)=true):Within ms os s0 (over ms' os' b j):=by
 have h1:∀ x,ms.contains x=false→ms'.contains x=false:=fun x hx=>by
  cases hc:ms'.contains x with
  | false=>rfl
  | true=>rw [List.all_eq_true] at hm;rw [hm x (by simpa using hc)] at hx;cases hx
 have h2:∀ x,os.contains x=false→os'.contains x=false:=fun x hx=>by
  cases hc:os'.contains x with
  | false=>rfl
  | true=>rw [List.all_eq_true] at ho;rw [ho x (by simpa using hc)] at hx;cases hx
 refine ⟨fun x hx=>?_,fun o hx=>⟨?_,?_⟩⟩
 ·rw [over_sl,h1 x hx];exact h.1 x hx
 ·rw [over_gen,h2 o hx];exact (h.2 o hx).1
 ·rw [over_ob,h2 o hx];exact (h.2 o hx).2
def All8 (cs:List Ck):Prop:=∀ c,c ∈ cs→c.length=8
theorem All8.set {cs:List Ck} (h:All8 cs) {i:Nat} {d:Ck} (hd:d.length=8):All8 (cs.set i d):=fun c hc=>by
 rcases List.mem_or_eq_of_mem_set hc with hc | rfl
 ·exact h c hc
 ·exact hd
theorem All8.rep (n:Nat):All8 (List.replicate n ckZ):=fun c hc=>by simp at hc;rw [hc.2];rfl
theorem All8.app {a b:List Ck} (ha:All8 a) (hb:All8 b):All8 (a ++ b):=fun c hc=>by
 rcases List.mem_append.1 hc with h | h
 ·exact ha c h
 ·exact hb c h
theorem eqCls_ck {a b:Ck} (h:a.length=b.length):eqCls (List.replicate a.length false) (ckCells a) (ckCells b)=some (decide (a=b)):=by
 induction a generalizing b with
 | nil =>
   cases b with
   | nil=>rfl
   | cons y b=>simp at h
 | cons x a ih =>
   cases b with
   | nil=>simp at h
   | cons y b =>
     have h2:=ih (b:=b) (by simpa using h);rw [List.length_cons,List.replicate_succ]
     show (match eqCl false (.d (dI x)) (.d (dI y)),eqCls (List.replicate a.length false) (ckCells a) (ckCells b) with | some p,some q=>some (p && q) | _,_=>none)=_
     rw [h2]
     show some ((x == y) && decide (a=b))=_
     congr 1
     rw [Bool.eq_iff_iff];simp
end Go.Proofs.Ytffcpijeebagfaa
end
section
namespace Go.Proofs.Ytffcpijeebagfaa
open Go Go.RowKit
set_option maxRecDepth 100000
set_option maxHeartbeats 4000000
open Classical
theorem range_get {n i:Nat} (h:i < n):(List.range n)[i]? = some i:=List.getElem?_range h
def env_rStamps:Env:=e1 27 R_rvalid (e1 73 R_rel34 e0)
theorem s_rStamps:Spec Try.prog 29 R_Stamps:=by
 refine sp29 (show EnvOK Try.prog env_rStamps from EnvOK.e1 s_rvalid (EnvOK.e1 s_rel34 EnvOK.e0)) ?_;rintro ps rs ⟨l,rfl,hlen,rfl⟩;refine ⟨by simp,?_⟩;unfold pc29;refine pwp_start ?_;simp only [↓evP,evB,stB,reduceIte,reduceCtorEq,seval,evsPa,evsD];refine callOps_intro [pB (decide (chk l=l.length))] ⟨l,rfl,hlen,rfl⟩ ?_;unfold stOf errOf
 by_cases hc:chk l=l.length
 ·have V:=VL.of hc;rw [if_pos hc,if_pos hc,decide_eq_true hc];simp only [↓evP,evB,stB,reduceIte,reduceCtorEq,seval];refine callOps_intro [relPa l] ⟨l,rfl,⟨hlen,V.v⟩,rfl⟩ ?_;simp only [↓evP,evB,stB,reduceIte,reduceCtorEq,seval,relPa];refine pwp_fresh [0,4,5,6] [5] (fun S hs ho=>?_);simp only [stB,reduceIte,reduceCtorEq,seval] at hs ho;obtain ⟨q0,q4,q5,q6⟩:=hs;obtain ⟨r5,t5⟩:=ho;refine pwp_loopW ms29_0 os29_0 (fun m st=>∃ j:Nat,m=l.length - j∧j≤l.length∧st.sl 6=aI j∧st.sl 5=.b (.one (.own 5 1 (((stampsL l).take j).map ckRow)))∧st.gen 5=1∧st.ob 5=.row 53 8 j) l.length ?_ ?_
  ·exact ⟨0,rfl,Nat.zero_le _,q6,q5,r5,t5⟩
  ·rintro m z ⟨j,rfl,hj,h6,h5,g5,o5⟩;simp only [stB,reduceIte,reduceCtorEq,seval] at h6 h5 g5 o5
   rcases Nat.lt_or_ge j l.length with hlt | hge
   ·have hlt':(j:Int) < (l.length:Int):=by omega
    have hj0:(0:Int)≤(j:Int):=by omega
    simp only [↓evP,evB,stB,reduceIte,reduceCtorEq,seval,q0,q4,h6,h5,g5,o5,hlt']
    refine pwp_freshP (fun st=>Within ms29_0 os29_0 S st) (by repeat' (first | assumption | exact within_over.mpr trivial | exact Within.refl _ _ _ | (refine within_ap ?_ rfl rfl) | (refine within_ap0 ?_ rfl))) [0,4,5,6,7,8] [5,7] (fun T hwT hs2 ho2=>?_);simp only [stB,reduceIte,reduceCtorEq,seval,q0,q4,h6,h5,g5,o5] at hs2 ho2;obtain ⟨p0,p4,p5,p6,p7,p8⟩:=hs2;obtain ⟨⟨r5',t5'⟩,r7,t7⟩:=ho2;rw [←r7] at p7;clear r7;refine pwp_loopW ms29_1 os29_1 (fun m st=>∃ i:Nat,m=j+1 - i∧i≤j+1∧st.sl 8=aI i∧st.gen 7=T.gen 7∧st.ob 7=.cells (ckCells (cntC l j i))) (j+1) ?_ ?_
    ·exact ⟨0,rfl,Nat.zero_le _,p8,rfl,by rw [t7,cntC_zero];rfl⟩
    ·rintro m2 z2 ⟨i,rfl,hi,h8,g7,o7⟩;simp only [stB,reduceIte,reduceCtorEq,seval] at h8 g7 o7;have r2:=range_get hlt
     rcases Nat.lt_or_ge j i with hij | hij
     ·have hi':i=j+1:=by omega
      subst hi';have hle:¬ ((j+1:Nat):Int)≤(j:Int):=by omega
      rw [cntC_stp V hlt] at o7;have c8:=stp_len (l:=l) (j:=j);have e1:(ckCells (stp l j)).length=8:=by rw [ckCells_length,c8]
      have e2:8≤(ckCells (stp l j)).length:=by omega
      have e3:(ckCells (stp l j)).take 8=ckCells (stp l j):=List.take_of_length_le (by omega);have e4:(ckRow (stp l j)).take 8=ckRow (stp l j):=List.take_of_length_le (by unfold ckRow;rw [List.length_map];omega)
      have e5:(ckRow (stp l j)).length=8:=by unfold ckRow;rw [List.length_map,c8]
      have e6:((stampsL l).take j).length=j:=by rw [List.length_take,stampsL_length];omega
      have e7:((stampsL l).take j).map ckRow ++ [ckRow (stp l j)]=((stampsL l).take (j+1)).map ckRow:=by rw [stamps_succ hlt,List.map_append];rfl
      have e8:j+1≤1000000:=by omega
      simp only [↓evP,evB,stB,reduceIte,reduceCtorEq,seval,p0,p4,p5,p6,p7,h8,r5',t5',g7,o7,hle,e1,e2,e3,e4,e5,e6,e7,e8,ckCells_dt,Nat.reduceLeDiff]
      exact ⟨_,by omega,(by repeat' (first | assumption | exact within_over.mpr trivial | (refine within_ap ?_ rfl rfl) | (refine within_ap0 ?_ rfl) | refine within_in ?_ (by decide) (by decide))),j+1,rfl,hlt,by simp only [stB,reduceIte,reduceCtorEq,seval,p6];rw [wrN (by omega)],by simp only [stB,reduceIte,reduceCtorEq,seval],by simp only [stB,reduceIte,reduceCtorEq,seval,r5'],by simp only [stB,reduceIte,reduceCtorEq,seval,t5']⟩
     ·have hle:(i:Int)≤(j:Int):=by omega
      have hi0:(0:Int)≤(i:Int):=by omega
      have r1:=range_get (show i < l.length by omega);have ei:=evAt_some (l:=l) (i:=i) (by omega);have hg:=V.g (i:=i) (by omega);have hg0:=hg.1;have hg8:(evAt l i).g < ((8:Nat):Int):=hg.2;have f1:=ckCells_get _ _ _ (cntC_get l j i (g:=(evAt l i).g.toNat) (by omega));rw [Int.toNat_of_nonneg hg0] at f1;have f2:(evAt l i).g.toNat+1≤(ckCells (cntC l j i)).length:=by rw [ckCells_length,cntC_len];omega
      have hcl:=cntHB_le l (evAt l i).g j i;have hw:IntKind.i64.wrap ((cntHB l (evAt l i).g j i:Int)+1)=(cntHB l (evAt l i).g j i:Int)+1:=wr64 (by omega) (by omega)
      by_cases hb:HBE l i j
      ·have f3:=(ckCells_set (cntC l j i) (evAt l i).g.toNat ((cntHB l (evAt l i).g j i:Int)+1) (by rw [cntC_len];omega)).trans (congrArg ckCells (cntC_hit hg0 hg.2 hb))
       cases hq:((i:Int) == (j:Int)) with
       | true =>
         simp only [↓evP,evB,stB,reduceIte,reduceCtorEq,Nat.reduceEqDiff,Nat.reduceAdd,Nat.reduceMul,Nat.reduceLeDiff,Nat.reduceLT,Nat.reduceSub,Nat.reduceBEq,p0,p4,p5,p6,p7,h8,r5',t5',g7,o7,hle,hq,hi0,hj0,ei,Ev.row,hg0,hg8,f1,f2,f3,hw,Nat.mul_one]
         exact ⟨_,by omega,(by repeat' (first | assumption | exact within_over.mpr trivial | exact Within.refl _ _ _ | (refine within_ap ?_ rfl rfl) | (refine within_ap0 ?_ rfl))),i+1,rfl,by omega,by simp only [stB,reduceIte,reduceCtorEq,Nat.reduceEqDiff,Nat.reduceAdd,Nat.reduceMul,Nat.reduceLeDiff,Nat.reduceLT,Nat.reduceSub,Nat.reduceBEq,h8];rw [wrN (by omega)],by simp only [stB,reduceIte,reduceCtorEq,Nat.reduceEqDiff,Nat.reduceAdd,Nat.reduceMul,Nat.reduceLeDiff,Nat.reduceLT,Nat.reduceSub,Nat.reduceBEq,g7],by simp only [stB,reduceIte,reduceCtorEq,Nat.reduceEqDiff,Nat.reduceAdd,Nat.reduceMul,Nat.reduceLeDiff,Nat.reduceLT,Nat.reduceSub,Nat.reduceBEq,o7,f3]⟩
       | false =>
         have hd:decide (HB l i j)=true:=decide_eq_true (hb.elim (fun h=>by subst h;simp at hq) id)
         simp only [↓evP,evB,stB,reduceIte,reduceCtorEq,Nat.reduceEqDiff,Nat.reduceAdd,Nat.reduceMul,Nat.reduceLeDiff,Nat.reduceLT,Nat.reduceSub,Nat.reduceBEq,p0,p4,p5,p6,p7,h8,r5',t5',g7,o7,hle,hq,hi0,hj0,r1,r2,relRow,hd,ei,Ev.row,hg0,hg8,f1,f2,f3,hw,Nat.mul_one]
         exact ⟨_,by omega,(by repeat' (first | assumption | exact within_over.mpr trivial | exact Within.refl _ _ _ | (refine within_ap ?_ rfl rfl) | (refine within_ap0 ?_ rfl))),i+1,rfl,by omega,by simp only [stB,reduceIte,reduceCtorEq,Nat.reduceEqDiff,Nat.reduceAdd,Nat.reduceMul,Nat.reduceLeDiff,Nat.reduceLT,Nat.reduceSub,Nat.reduceBEq,h8];rw [wrN (by omega)],by simp only [stB,reduceIte,reduceCtorEq,Nat.reduceEqDiff,Nat.reduceAdd,Nat.reduceMul,Nat.reduceLeDiff,Nat.reduceLT,Nat.reduceSub,Nat.reduceBEq,g7],by simp only [stB,reduceIte,reduceCtorEq,Nat.reduceEqDiff,Nat.reduceAdd,Nat.reduceMul,Nat.reduceLeDiff,Nat.reduceLT,Nat.reduceSub,Nat.reduceBEq,o7,f3]⟩
      ·have hq:((i:Int) == (j:Int))=false:=by
        rw [beq_eq_false_iff_ne];intro h;exact hb (.inl (by omega))
       have hd:decide (HB l i j)=false:=decide_eq_false (fun h=>hb (.inr h));have f3:=cntC_miss hb;simp only [↓evP,evB,stB,reduceIte,reduceCtorEq,seval,p0,p4,p5,p6,p7,h8,r5',t5',g7,o7,hle,hq,hi0,hj0,r1,r2,relRow,hd]
       exact ⟨_,by omega,(by repeat' (first | assumption | exact within_over.mpr trivial | exact Within.refl _ _ _ | (refine within_ap ?_ rfl rfl) | (refine within_ap0 ?_ rfl))),i+1,rfl,by omega,by simp only [stB,reduceIte,reduceCtorEq,seval,h8];rw [wrN (by omega)],by simp only [stB,reduceIte,reduceCtorEq,seval,g7],by simp only [stB,reduceIte,reduceCtorEq,seval,o7];rw [←f3]⟩
   ·have hjl:j=l.length:=by omega
    subst hjl;have hlt':¬ (l.length:Int) < (l.length:Int):=by omega
    have e6:(stampsL l).take l.length=stampsL l:=List.take_of_length_le (by rw [stampsL_length];exact Nat.le_refl _)
    simp only [↓evP,evB,stB,reduceIte,reduceCtorEq,seval,q0,q4,h6,h5,g5,o5,hlt',e6,cksPa,pr29]
 ·rw [if_neg hc,if_neg hc,decide_eq_false hc];simp only [↓evP,evB,stB,reduceIte,reduceCtorEq,seval,cksPa,pr29]
end Go.Proofs.Ytffcpijeebagfaa
end
section
namespace Go.Proofs.Ytffcpijeebagfaa
open Go Go.RowKit
set_option maxRecDepth 100000
set_option maxHeartbeats 4000000
def R_same35 (ps rs:List Pa):Prop:=∃ l:List Ck,ps=[cksPa l,cksPa l]∧(l.length≤1000000∧∀ c,c ∈ l→c.length=8)∧rs=[pB true]
theorem s_same35:Spec Try.prog 30 R_same35:=by
 refine sp30 EnvOK.e0 ?_;rintro ps rs ⟨l,rfl,⟨hlen,h8⟩,rfl⟩;refine ⟨by simp,?_⟩;unfold pc30;refine pwp_start ?_;simp only [↓evP,evB,stB,reduceIte,reduceCtorEq,Nat.reduceEqDiff,Nat.reduceAdd,Nat.reduceMul,Nat.reduceLeDiff,Nat.reduceLT,Nat.reduceSub,Nat.reduceBEq,cksPa,bne_self_eq_false,reduceCtorEq];refine pwp_loopW ms30_0 os30_0 (fun m st=>∃ k:Nat,m=l.length - k∧k≤l.length∧st.sl 5=aI k) l.length ?_ ?_
 ·exact ⟨0,rfl,Nat.zero_le _,by simp only [stB,reduceIte,reduceCtorEq,Nat.reduceEqDiff,Nat.reduceAdd,Nat.reduceMul,Nat.reduceLeDiff,Nat.reduceLT,Nat.reduceSub,Nat.reduceBEq];rfl⟩
 ·rintro m j ⟨k,rfl,hk,h5⟩;simp only [stB,reduceIte,reduceCtorEq,seval] at h5
  rcases Nat.lt_or_ge k l.length with hlt | hge
  ·obtain ⟨c,hc⟩:∃ c,l[k]? = some c:=⟨_,List.getElem?_eq_getElem hlt⟩
   have hcl:=h8 c (List.mem_of_getElem? hc);have e1:(ckRow c).length=8:=by unfold ckRow;rw [List.length_map,hcl]
   have e2:(ckCells c).length=8:=by rw [ckCells_length,hcl]
   have e3:8≤(ckCells c).length:=by omega
   have e4:(ckCells c).take 8=ckCells c:=List.take_of_length_le (by omega)
   have e5:eqCls [false,false,false,false,false,false,false,false] (ckCells c) (ckCells c)=some true:=by
    have:=eqCls_ck (a:=c) (b:=c) rfl;rw [hcl,decide_eq_true rfl] at this;exact this
   have hlt':(k:Int) < (l.length:Int):=by omega
   simp only [↓evP,evB,stB,reduceIte,reduceCtorEq,seval,h5,hc,hlt',e1,e2,e3,e4,e5,ckRow_cells];refine ⟨(by unfold Drw;kernel_rfl),?_⟩
   exact ⟨_,by omega,(by repeat' (first | assumption | exact within_over.mpr trivial | exact Within.refl _ _ _ | (refine within_ap ?_ rfl rfl) | (refine within_ap0 ?_ rfl))),k+1,rfl,by omega,by simp only [stB,reduceIte,reduceCtorEq,seval,h5];rw [wrN (by omega)]⟩
  ·simp only [↓evP,evB,stB,reduceIte,reduceCtorEq,seval,h5,pr30];exact fun h=>absurd h (by omega)
def Z37:Nat→Hb:=fun _=>.no
theorem Z37_free:Free Z37 0:=fun _ _=>rfl
def R_one37 (hp:Nat→Hb) (az:List Hw) (Post:(Nat→Hb)→List Hw→Prop):Prop:=∃ l:List Ev,az=[paHw (evsPa l)]∧hp=Z37∧l.length≤9223372036854775807∧Post=fun _ r=>r=[.one (.d (dB true))]
def R_oneS (ps rs:List Pa):Prop:=∃ l:List Ev,ps=[evsPa l]∧l.length≤9223372036854775807∧rs=[pB true]
theorem one37 {f:Nat} (h:SpecP Try.prog f R_one37):Spec Try.prog f R_oneS:=by
 rintro ps rs ⟨l,rfl,hl,rfl⟩;exact h.toS _ _ ⟨_,⟨l,rfl,rfl,hl,rfl⟩,fun hp' rs' q=>q⟩
end Go.Proofs.Ytffcpijeebagfaa
end
section
namespace Go.Proofs.Ytffcpijeebagfaa
open Go Go.RowKit
set_option maxRecDepth 100000
def pch74c0 : PC := .seq (.reg false [⟨(some 173), .fld 2 (.t 12), none, []⟩, ⟨(some 174), .load none (.t 173), none, [0]⟩, ⟨(some 17), .mv (.t 174), none, [1, 0, 1]⟩]) (.seq (.reg true [⟨(some 175), .load (some 9) (.t 7), none, []⟩, ⟨(some 176), .mv (.t 17), none, []⟩, ⟨(some 177), .call 106 [(.t 175), (.v (.int .i64 15)), (.t 176)], none, [0, 1]⟩, ⟨(some 178), .load (some 9) (.t 7), none, []⟩, ⟨(some 179), .mv (.t 17), none, []⟩, ⟨(some 180), .call 106 [(.t 178), (.v (.int .i64 16)), (.t 179)], none, [3, 4, 2]⟩, ⟨(some 181), .bslice 34 9 [(.int .i64 0), (.int .i64 0), (.int .i64 0), (.int .i64 0), (.int .i64 0), (.int .i64 0), (.int .i64 0), (.int .i64 0), (.int .i64 0), (.int .i64 0), (.int .i64 0), (.int .i64 0), (.int .i64 0), (.int .i64 0), (.int .i64 0), (.int .i64 0), (.int .i64 0), (.int .i64 0)] 2 [(0, 9, (.t 177)), (9, 9, (.t 180))], none, [2, 5]⟩, ⟨(some 18), .mv (.t 181), none, [6, 5, 0, 1, 2, 3, 4, 5, 6]⟩]) (.seq (.reg true [⟨(some 182), .load (some 9) (.t 7), none, []⟩, ⟨(some 183), .mv (.t 17), none, []⟩, ⟨(some 184), .call 106 [(.t 182), (.v (.int .i64 15)), (.t 183)], none, [0, 1]⟩, ⟨(some 185), .load (some 9) (.t 13), none, []⟩, ⟨(some 186), .mv (.t 17), none, []⟩, ⟨(some 187), .call 106 [(.t 185), (.v (.int .i64 17)), (.t 186)], none, [3, 4, 2]⟩, ⟨(some 188), .load (some 9) (.t 13), none, []⟩, ⟨(some 189), .mv (.t 17), none, []⟩, ⟨(some 190), .call 106 [(.t 188), (.v (.int .i64 18)), (.t 189)], none, [6, 7, 5]⟩, ⟨(some 191), .load (some 9) (.t 7), none, []⟩, ⟨(some 192), .mv (.t 17), none, []⟩, ⟨(some 193), .call 106 [(.t 191), (.v (.int .i64 16)), (.t 192)], none, [9, 10, 8]⟩, ⟨(some 194), .bslice 34 9 [(.int .i64 0), (.int .i64 0), (.int .i64 0), (.int .i64 0), (.int .i64 0), (.int .i64 0), (.int .i64 0), (.int .i64 0), (.int .i64 0), (.int .i64 0), (.int .i64 0), (.int .i64 0), (.int .i64 0), (.int .i64 0), (.int .i64 0), (.int .i64 0), (.int .i64 0), (.int .i64 0), (.int .i64 0), (.int .i64 0), (.int .i64 0), (.int .i64 0), (.int .i64 0), (.int .i64 0), (.int .i64 0), (.int .i64 0), (.int .i64 0), (.int .i64 0), (.int .i64 0), (.int .i64 0), (.int .i64 0), (.int .i64 0), (.int .i64 0), (.int .i64 0), (.int .i64 0), (.int .i64 0)] 4 [(0, 9, (.t 184)), (9, 9, (.t 187)), (18, 9, (.t 190)), (27, 9, (.t 193))], none, [2, 5, 8, 11]⟩, ⟨(some 19), .mv (.t 194), none, [12, 11, 0, 1, 2, 3, 4, 5, 6, 7, 8, 9, 10, 11, 12]⟩]) (.seq (.reg false [⟨(some 195), .mv (.t 18), none, []⟩, ⟨(some 196), .mv (.t 19), none, []⟩, ⟨(some 197), .bslice 22 1 [(.slice none 0 0), (.slice none 0 0)] 2 [(0, 1, (.t 195)), (1, 1, (.t 196))], none, [0, 1]⟩, ⟨(some 6), .mv (.t 197), none, [2, 0, 1, 2]⟩]) (.ret))))
def pch74c1 : PC := .seq (.reg false [⟨(some 148), .fld 3 (.t 12), none, []⟩, ⟨(some 149), .load none (.t 148), none, [0]⟩, ⟨(some 14), .mv (.t 149), none, [1, 0, 1]⟩]) (.seq (.reg true [⟨(some 150), .load (some 9) (.t 7), none, []⟩, ⟨(some 151), .mv (.t 14), none, []⟩, ⟨(some 152), .call 106 [(.t 150), (.v (.int .i64 17)), (.t 151)], none, [0, 1]⟩, ⟨(some 153), .load (some 9) (.t 7), none, []⟩, ⟨(some 154), .mv (.t 14), none, []⟩, ⟨(some 155), .call 106 [(.t 153), (.v (.int .i64 18)), (.t 154)], none, [3, 4, 2]⟩, ⟨(some 156), .bslice 34 9 [(.int .i64 0), (.int .i64 0), (.int .i64 0), (.int .i64 0), (.int .i64 0), (.int .i64 0), (.int .i64 0), (.int .i64 0), (.int .i64 0), (.int .i64 0), (.int .i64 0), (.int .i64 0), (.int .i64 0), (.int .i64 0), (.int .i64 0), (.int .i64 0), (.int .i64 0), (.int .i64 0)] 2 [(0, 9, (.t 152)), (9, 9, (.t 155))], none, [2, 5]⟩, ⟨(some 15), .mv (.t 156), none, [6, 5, 0, 1, 2, 3, 4, 5, 6]⟩]) (.seq (.reg true [⟨(some 157), .load (some 9) (.t 7), none, []⟩, ⟨(some 158), .mv (.t 14), none, []⟩, ⟨(some 159), .call 106 [(.t 157), (.v (.int .i64 17)), (.t 158)], none, [0, 1]⟩, ⟨(some 160), .load (some 9) (.t 13), none, []⟩, ⟨(some 161), .mv (.t 14), none, []⟩, ⟨(some 162), .call 106 [(.t 160), (.v (.int .i64 15)), (.t 161)], none, [3, 4, 2]⟩, ⟨(some 163), .load (some 9) (.t 7), none, []⟩, ⟨(some 164), .mv (.t 14), none, []⟩, ⟨(some 165), .call 106 [(.t 163), (.v (.int .i64 18)), (.t 164)], none, [6, 7, 5]⟩, ⟨(some 166), .load (some 9) (.t 13), none, []⟩, ⟨(some 167), .mv (.t 14), none, []⟩, ⟨(some 168), .call 106 [(.t 166), (.v (.int .i64 16)), (.t 167)], none, [9, 10, 8]⟩, ⟨(some 169), .bslice 34 9 [(.int .i64 0), (.int .i64 0), (.int .i64 0), (.int .i64 0), (.int .i64 0), (.int .i64 0), (.int .i64 0), (.int .i64 0), (.int .i64 0), (.int .i64 0), (.int .i64 0), (.int .i64 0), (.int .i64 0), (.int .i64 0), (.int .i64 0), (.int .i64 0), (.int .i64 0), (.int .i64 0), (.int .i64 0), (.int .i64 0), (.int .i64 0), (.int .i64 0), (.int .i64 0), (.int .i64 0), (.int .i64 0), (.int .i64 0), (.int .i64 0), (.int .i64 0), (.int .i64 0), (.int .i64 0), (.int .i64 0), (.int .i64 0), (.int .i64 0), (.int .i64 0), (.int .i64 0), (.int .i64 0)] 4 [(0, 9, (.t 159)), (9, 9, (.t 162)), (18, 9, (.t 165)), (27, 9, (.t 168))], none, [2, 5, 8, 11]⟩, ⟨(some 16), .mv (.t 169), none, [12, 11, 0, 1, 2, 3, 4, 5, 6, 7, 8, 9, 10, 11, 12]⟩]) (.seq (.reg false [⟨(some 170), .mv (.t 15), none, []⟩, ⟨(some 171), .mv (.t 16), none, []⟩, ⟨(some 172), .bslice 22 1 [(.slice none 0 0), (.slice none 0 0)] 2 [(0, 1, (.t 170)), (1, 1, (.t 171))], none, [0, 1]⟩, ⟨(some 6), .mv (.t 172), none, [2, 0, 1, 2]⟩]) (.ret))))
def pch74c2 : PC := .seq (.reg false [⟨(some 146), .mv (.t 9), none, []⟩, ⟨(some 147), .bin .geq (.t 146) (.v (.int .i64 17)), none, [0]⟩]) (.cond (.t 147) (pch74c1) (.skip))
def pch74c3 : PC := .seq (pch74c2) (pch74c0)
def pch74c4 : PC := .seq (.reg true [⟨(some 129), .mv (.t 2), none, []⟩, ⟨(some 130), .bin .add (.t 129) (.v (.int .i64 1)), none, [0]⟩, ⟨(some 131), .fld 4 (.t 4), none, []⟩, ⟨(some 132), .load none (.t 131), none, [2]⟩, ⟨(some 133), .fld 1 (.t 3), none, []⟩, ⟨(some 134), .load none (.t 133), none, [4]⟩, ⟨(some 135), .bin .sub (.t 134) (.v (.int .i64 1)), none, [5]⟩, ⟨(some 136), .call 75 [(.t 132), (.t 135)], none, [3, 6]⟩, ⟨(some 137), .bin .add (.t 130) (.t 136), none, [1, 7]⟩, ⟨(some 138), .fld 1 (.t 3), none, []⟩, ⟨(some 139), .load none (.t 138), none, [9]⟩, ⟨(some 140), .bin .rem (.t 137) (.t 139), none, [8, 10]⟩, ⟨(some 141), .fld 0 (.t 13), none, [0, 1, 2, 3, 4, 5, 6, 7, 8, 9, 10, 11]⟩, ⟨none, .store 1 (.t 141) (.t 140), none, [12, 11, 7, 0, 1, 2, 3, 4, 5, 6, 7, 8, 9, 10, 11]⟩]) (.reg false [⟨(some 142), .fld 7 (.t 13), none, []⟩, ⟨(some 143), .load none (.t 142), none, [0]⟩, ⟨(some 144), .bin .add (.t 143) (.v (.int .i64 1)), none, [1]⟩, ⟨(some 145), .fld 7 (.t 13), none, [0, 1, 2]⟩, ⟨none, .store 1 (.t 145) (.t 144), none, [3, 2, 0, 1, 2]⟩])
def pch74c5 : PC := .seq (.reg true [⟨(some 104), .load (some 9) (.t 3), none, []⟩, ⟨(some 105), .mv (.t 8), none, []⟩, ⟨(some 106), .call 75 [(.t 105), (.v (.int .i64 3))], none, [1]⟩, ⟨(some 107), .bin .add (.v (.int .i64 30)) (.t 106), none, [2]⟩, ⟨(some 108), .mv (.t 8), none, []⟩, ⟨(some 109), .call 75 [(.t 108), (.v (.int .i64 3))], none, [4, 2]⟩, ⟨(some 110), .call 97 [(.t 104), (.t 107), (.t 109)], none, [0, 3, 5, 5]⟩, ⟨(some 12), .new [(.int .i64 0), (.int .i64 0), (.int .i64 0), (.int .i64 0), (.bool false)], none, []⟩, ⟨none, .store 5 (.t 12) (.t 110), none, [7, 6, 6, 0, 1, 2, 3, 4, 5, 6, 7]⟩]) (.seq (.reg false [⟨(some 111), .fld 1 (.t 12), none, []⟩, ⟨(some 112), .load none (.t 111), none, [0]⟩, ⟨(some 113), .fld 5 (.t 7), none, [0, 1]⟩, ⟨none, .store 1 (.t 113) (.t 112), none, [2, 1, 0, 1]⟩]) (.seq (.seq (.reg false [⟨(some 114), .mv (.t 9), none, []⟩, ⟨(some 115), .bin .geq (.t 114) (.v (.int .i64 19)), none, [0]⟩]) (.cond (.t 115) (.seq (.reg false [⟨(some 116), .load (some 9) (.t 7), none, []⟩, ⟨(some 117), .mv (.t 9), none, []⟩, ⟨(some 118), .fld 0 (.t 12), none, []⟩, ⟨(some 119), .load none (.t 118), none, [2]⟩, ⟨(some 120), .call 105 [(.t 116), (.t 117), (.t 119), (.v (.int .i64 0))], none, [0, 1, 3]⟩, ⟨(some 121), .bslice 22 1 [(.slice none 0 0)] 1 [(0, 1, (.t 120))], none, [4]⟩, ⟨(some 6), .mv (.t 121), none, [5, 4, 0, 1, 2, 3, 4, 5]⟩]) (.ret)) (.skip))) (.seq (.reg false [⟨(some 122), .fld 0 (.t 12), none, []⟩, ⟨(some 123), .load none (.t 122), none, [0]⟩, ⟨(some 124), .fld 2 (.t 7), none, [0, 1]⟩, ⟨none, .store 1 (.t 124) (.t 123), none, [2, 1, 0, 1]⟩]) (.seq (.reg false [⟨(some 125), .load (some 9) (.t 7), none, []⟩, ⟨(some 13), .new [(.int .i64 0), (.int .i64 0), (.int .i64 0), (.int .i64 0), (.int .i64 0), (.int .i64 0), (.int .i64 0), (.int .i64 0), (.int .i64 0)], none, []⟩, ⟨none, .store 9 (.t 13) (.t 125), none, [1, 0, 0, 1]⟩]) (.seq (.seq (.reg false [⟨(some 126), .fld 1 (.t 3), none, []⟩, ⟨(some 127), .load none (.t 126), none, [0]⟩, ⟨(some 128), .bin .gtr (.t 127) (.v (.int .i64 1)), none, [1]⟩]) (.cond (.t 128) (pch74c4) (.skip))) (pch74c3))))))
def pch74c6 : PC := .seq (.reg true [⟨(some 42), .load (some 9) (.t 7), none, []⟩, ⟨(some 43), .mv (.t 9), none, []⟩, ⟨(some 44), .mv (.t 8), none, []⟩, ⟨(some 45), .fld 3 (.t 4), none, []⟩, ⟨(some 46), .load none (.t 45), none, [3]⟩, ⟨(some 47), .call 75 [(.t 46), (.v (.int .i64 2))], none, [4]⟩, ⟨(some 48), .call 105 [(.t 42), (.t 43), (.t 44), (.t 47)], none, [0, 1, 2, 5, 5]⟩, ⟨(some 49), .bslice 22 1 [(.slice none 0 0)] 1 [(0, 1, (.t 48))], none, [6]⟩, ⟨(some 6), .mv (.t 49), none, [7, 6, 0, 1, 2, 3, 4, 5, 6, 7]⟩]) (.ret)
def pch74c7 : PC := .seq (.reg true [⟨(some 54), .load (some 9) (.t 7), none, []⟩, ⟨(some 55), .mv (.t 9), none, []⟩, ⟨(some 56), .mv (.t 8), none, []⟩, ⟨(some 57), .call 75 [(.t 56), (.v (.int .i64 2))], none, [2]⟩, ⟨(some 58), .bin .add (.v (.int .i64 6)) (.t 57), none, [3]⟩, ⟨(some 59), .call 105 [(.t 54), (.t 55), (.t 58), (.v (.int .i64 0))], none, [0, 1, 4, 3]⟩, ⟨(some 60), .bslice 22 1 [(.slice none 0 0)] 1 [(0, 1, (.t 59))], none, [5]⟩, ⟨(some 6), .mv (.t 60), none, [6, 5, 0, 1, 2, 3, 4, 5, 6]⟩]) (.ret)
def pch74c8 : PC := .seq (.reg false [⟨(some 66), .mv (.t 8), none, []⟩, ⟨(some 67), .call 75 [(.t 66), (.v (.int .i64 2))], none, [0]⟩, ⟨(some 68), .bin .add (.v (.int .i64 10)) (.t 67), none, [1]⟩, ⟨(some 10), .mv (.t 68), none, [2, 1, 0, 1, 2]⟩]) (.seq (.reg true [⟨(some 69), .load (some 9) (.t 7), none, []⟩, ⟨(some 70), .mv (.t 9), none, []⟩, ⟨(some 71), .mv (.t 10), none, []⟩, ⟨(some 72), .call 105 [(.t 69), (.t 70), (.t 71), (.v (.int .i64 0))], none, [0, 1, 2]⟩, ⟨(some 73), .load (some 9) (.t 7), none, []⟩, ⟨(some 74), .mv (.t 10), none, []⟩, ⟨(some 75), .call 105 [(.t 73), (.v (.int .i64 7)), (.t 74), (.v (.int .i64 0))], none, [4, 5, 3]⟩, ⟨(some 76), .load (some 9) (.t 7), none, []⟩, ⟨(some 77), .mv (.t 10), none, []⟩, ⟨(some 78), .call 105 [(.t 76), (.v (.int .i64 9)), (.t 77), (.v (.int .i64 0))], none, [7, 8, 6]⟩, ⟨(some 79), .bslice 22 1 [(.slice none 0 0), (.slice none 0 0), (.slice none 0 0)] 3 [(0, 1, (.t 72)), (1, 1, (.t 75)), (2, 1, (.t 78))], none, [3, 6, 9]⟩, ⟨(some 6), .mv (.t 79), none, [10, 9, 0, 1, 2, 3, 4, 5, 6, 7, 8, 9, 10]⟩]) (.ret))
def pch74c9 : PC := .seq (.reg false [⟨(some 83), .mv (.t 8), none, []⟩, ⟨(some 84), .call 75 [(.t 83), (.v (.int .i64 2))], none, [0]⟩, ⟨(some 85), .bin .add (.v (.int .i64 20)) (.t 84), none, [1]⟩, ⟨(some 11), .mv (.t 85), none, [2, 1, 0, 1, 2]⟩]) (.seq (.reg true [⟨(some 86), .load (some 9) (.t 7), none, []⟩, ⟨(some 87), .mv (.t 9), none, []⟩, ⟨(some 88), .mv (.t 11), none, []⟩, ⟨(some 89), .call 105 [(.t 86), (.t 87), (.t 88), (.v (.int .i64 0))], none, [0, 1, 2]⟩, ⟨(some 90), .load (some 9) (.t 7), none, []⟩, ⟨(some 91), .mv (.t 9), none, []⟩, ⟨(some 92), .bin .sub (.v (.int .i64 25)) (.t 91), none, [5]⟩, ⟨(some 93), .mv (.t 11), none, []⟩, ⟨(some 94), .call 105 [(.t 90), (.t 92), (.t 93), (.v (.int .i64 0))], none, [4, 6, 7, 3]⟩, ⟨(some 95), .bslice 22 1 [(.slice none 0 0), (.slice none 0 0)] 2 [(0, 1, (.t 89)), (1, 1, (.t 94))], none, [3, 8]⟩, ⟨(some 6), .mv (.t 95), none, [9, 8, 0, 1, 2, 3, 4, 5, 6, 7, 8, 9]⟩]) (.ret))
def pch74c10 : PC := .seq (.reg false [⟨(some 98), .fld 1 (.t 3), none, []⟩, ⟨(some 99), .load none (.t 98), none, [0]⟩, ⟨(some 100), .fld 4 (.t 7), none, [0, 1]⟩, ⟨none, .store 1 (.t 100) (.t 99), none, [2, 1, 0, 1]⟩]) (.seq (.reg false [⟨(some 101), .load (some 9) (.t 7), none, []⟩, ⟨(some 102), .call 105 [(.t 101), (.v (.int .i64 14)), (.v (.int .i64 0)), (.v (.int .i64 0))], none, [0]⟩, ⟨(some 103), .bslice 22 1 [(.slice none 0 0)] 1 [(0, 1, (.t 102))], none, [1]⟩, ⟨(some 6), .mv (.t 103), none, [2, 1, 0, 1, 2]⟩]) (.ret))
def pch74c11 : PC := .seq (.reg false [⟨(some 97), .bin .eql (.t 36) (.v (.int .i64 14)), none, []⟩, ⟨(some 96), .mv (.t 97), none, [0]⟩]) (.cond (.t 96) (pch74c10) (.skip))
def pch74c12 : PC := .seq (.seq (.reg false [⟨(some 81), .bin .eql (.t 36) (.v (.int .i64 12)), none, []⟩, ⟨(some 80), .mv (.t 81), none, [0]⟩]) (.cond (.t 80) (.skip) (.reg false [⟨(some 82), .bin .eql (.t 36) (.v (.int .i64 13)), none, []⟩, ⟨(some 80), .mv (.t 82), none, [0]⟩]))) (.cond (.t 80) (pch74c9) (pch74c11))
def pch74c13 : PC := .seq (.seq (.reg false [⟨(some 62), .bin .eql (.t 36) (.v (.int .i64 6)), none, []⟩, ⟨(some 61), .mv (.t 62), none, [0]⟩]) (.cond (.t 61) (.skip) (.seq (.reg false [⟨(some 63), .bin .eql (.t 36) (.v (.int .i64 7)), none, []⟩, ⟨(some 61), .mv (.t 63), none, [0]⟩]) (.cond (.t 61) (.skip) (.seq (.reg false [⟨(some 64), .bin .eql (.t 36) (.v (.int .i64 8)), none, []⟩, ⟨(some 61), .mv (.t 64), none, [0]⟩]) (.cond (.t 61) (.skip) (.reg false [⟨(some 65), .bin .eql (.t 36) (.v (.int .i64 9)), none, []⟩, ⟨(some 61), .mv (.t 65), none, [0]⟩]))))))) (.cond (.t 61) (pch74c8) (pch74c12))
def pch74c14 : PC := .seq (.seq (.reg false [⟨(some 51), .bin .eql (.t 36) (.v (.int .i64 3)), none, []⟩, ⟨(some 50), .mv (.t 51), none, [0]⟩]) (.cond (.t 50) (.skip) (.seq (.reg false [⟨(some 52), .bin .eql (.t 36) (.v (.int .i64 4)), none, []⟩, ⟨(some 50), .mv (.t 52), none, [0]⟩]) (.cond (.t 50) (.skip) (.reg false [⟨(some 53), .bin .eql (.t 36) (.v (.int .i64 5)), none, []⟩, ⟨(some 50), .mv (.t 53), none, [0]⟩]))))) (.cond (.t 50) (pch74c7) (pch74c13))
def pch74c15 : PC := .seq (.reg false [⟨(some 36), .mv (.t 9), none, []⟩]) (.block 0 (.seq (.seq (.reg false [⟨(some 38), .bin .eql (.t 36) (.v (.int .i64 1)), none, []⟩, ⟨(some 37), .mv (.t 38), none, [0]⟩]) (.cond (.t 37) (.skip) (.seq (.reg false [⟨(some 39), .bin .eql (.t 36) (.v (.int .i64 2)), none, []⟩, ⟨(some 37), .mv (.t 39), none, [0]⟩]) (.cond (.t 37) (.skip) (.seq (.reg false [⟨(some 40), .bin .eql (.t 36) (.v (.int .i64 10)), none, []⟩, ⟨(some 37), .mv (.t 40), none, [0]⟩]) (.cond (.t 37) (.skip) (.reg false [⟨(some 41), .bin .eql (.t 36) (.v (.int .i64 11)), none, []⟩, ⟨(some 37), .mv (.t 41), none, [0]⟩]))))))) (.cond (.t 37) (pch74c6) (pch74c14))))
def pch74 : PC := .seq (.reg false [⟨(some 3), .box (.t 0), none, []⟩, ⟨(some 4), .box (.t 1), none, []⟩, ⟨(some 6), .nilRow 22 1, none, []⟩]) (.seq (.reg true [⟨(some 20), .mv (.t 2), none, []⟩, ⟨(some 21), .fld 6 (.t 4), none, []⟩, ⟨(some 22), .load none (.t 21), none, [1]⟩, ⟨(some 23), .call 75 [(.t 22), (.v (.int .i64 3))], none, [2]⟩, ⟨(some 24), .fld 7 (.t 4), none, []⟩, ⟨(some 25), .load none (.t 24), none, [4]⟩, ⟨(some 26), .call 75 [(.t 25), (.v (.int .i64 5))], none, [5, 3]⟩, ⟨(some 27), .build [(.int .i64 0), (.int .i64 0), (.int .i64 0), (.int .i64 0), (.int .i64 0), (.int .i64 0), (.int .i64 0), (.int .i64 0), (.int .i64 0)] [(0, 1, (.t 20)), (6, 1, (.t 23)), (7, 1, (.t 26))], none, [0, 3, 6]⟩, ⟨(some 7), .new [(.int .i64 0), (.int .i64 0), (.int .i64 0), (.int .i64 0), (.int .i64 0), (.int .i64 0), (.int .i64 0), (.int .i64 0), (.int .i64 0)], none, []⟩, ⟨none, .store 9 (.t 7) (.t 27), none, [8, 7, 6, 0, 1, 2, 3, 4, 5, 6, 7, 8]⟩]) (.seq (.reg true [⟨(some 28), .fld 2 (.t 4), none, []⟩, ⟨(some 29), .load none (.t 28), none, [0]⟩, ⟨(some 30), .call 75 [(.t 29), (.v (.int .i64 4))], none, [1]⟩, ⟨(some 31), .fld 1 (.t 4), none, []⟩, ⟨(some 32), .load none (.t 31), none, [3]⟩, ⟨(some 33), .call 75 [(.t 32), (.v (.int .i64 20))], none, [4, 2]⟩, ⟨(some 8), .mv (.t 30), none, [2, 5, 0, 1, 2]⟩, ⟨(some 9), .mv (.t 33), none, [5, 6, 0, 1, 2, 3, 4, 5, 6]⟩]) (.seq (.seq (.reg false [⟨(some 34), .mv (.t 9), none, []⟩, ⟨(some 35), .bin .eql (.t 34) (.v (.int .i64 0)), none, [0]⟩]) (.cond (.t 35) (.reg false [⟨(some 9), .mv (.v (.int .i64 20)), none, []⟩]) (.skip))) (.seq (pch74c15) (pch74c5)))))
def prh74 : List PR := [.t 6]
theorem bdh74:Try.f74.body=some (Try.f74.body.getD .skip):=by kernel_rfl
theorem cph74:compC Try.prog Try.f74.ntmps eqsL (Try.f74.body.getD .skip)=some pch74:=by kernel_rfl
theorem sph74 [WInv] {env:Env} (hE:EnvOK Try.prog env) {R:List Pa→List Pa→Prop} (hR:∀ ps rs,R ps rs→ps.length≤198∧pwp env pch74 (fun e s=>(e=.normal∨e=.ret)∧s.res prh74=some rs) (St.init ps)):Spec Try.prog 74 R :=
 fn_sound hE eqsOK mixedOK Try.func74 bdh74 cph74 (by kernel_rfl) (by kernel_rfl) (by kernel_rfl) hR
end Go.Proofs.Ytffcpijeebagfaa
end
section
namespace Go.Proofs.Ytffcpijeebagfaa
open Go
def gmod (x n:Int):Int:=(x.tmod n+n).tmod n
theorem tmod_bd (x:Int) {n:Int} (h:0 < n):-n < x.tmod n∧x.tmod n < n:=by
 refine ⟨?_,Int.tmod_lt_of_pos _ h⟩;have h1:=Int.tmod_lt_of_pos (-x) h;rw [Int.neg_tmod] at h1;omega
theorem gmod_bd (x:Int) {n:Int} (h:0 < n):0≤gmod x n∧gmod x n < n:=by
 have h1:=tmod_bd x h;exact ⟨Int.tmod_nonneg n (by omega),Int.tmod_lt_of_pos _ h⟩
def oneE (x:Ev) (kind obj off:Int):List Ev:=[{ x with kind:=kind,obj:=obj,off:=off }]
def partE (x:Ev) (kind k:Int):Ev:={ x with kind:=kind,k:=k }
def baseE (e:Ev) (g:Int):Ev:=⟨g,0,0,0,0,0,gmod e.fn 3,gmod e.pc 5,0⟩
def chosen (e:Ev):Int:=if gmod e.kind 20=0 then 20 else gmod e.kind 20
def cellE (e:Ev):Int:=gmod e.obj 4
def RSt.chanE (s:RSt) (e:Ev):RCh:=s.channel (30+gmod (cellE e) 3) (gmod (cellE e) 3)
def otherE (s:RSt) (e:Ev) (g:Int) (x:Ev):Ev:=if s.gor > 1 then { x with g:=(g+1+gmod e.k (s.gor - 1)).tmod s.gor,pc:=x.pc+1 } else x
def RSt.cands (s:RSt) (e:Ev) (g:Int):List (List Ev) :=
 let x:=baseE e g
 let ch:=chosen e
 if ch=1∨ch=2∨ch=10∨ch=11 then [oneE x ch (cellE e) (gmod e.off 2)]
 else if ch=3∨ch=4∨ch=5 then [oneE x ch (6+gmod (cellE e) 2) 0]
 else if ch=6∨ch=7∨ch=8∨ch=9 then [oneE x ch (10+gmod (cellE e) 2) 0,oneE x 7 (10+gmod (cellE e) 2) 0,oneE x 9 (10+gmod (cellE e) 2) 0]
 else if ch=12∨ch=13 then [oneE x ch (20+gmod (cellE e) 2) 0,oneE x (25 - ch) (20+gmod (cellE e) 2) 0]
 else if ch=14 then [oneE { x with k:=s.gor } 14 0 0]
 else
  let c:=s.chanE e
  let x1:Ev:={ x with n:=c.n }
  if ch≥19 then [oneE x1 ch c.obj 0]
  else
   let x2:Ev:={ x1 with obj:=c.obj }
   let y:=otherE s e g x2
   if ch≥17 then [[partE x2 17 c.recv,partE x2 18 c.recv],[partE x2 17 c.recv,partE y 15 c.recv,partE x2 18 c.recv,partE y 16 c.recv]]
   else [[partE x2 15 c.sent,partE x2 16 c.sent],[partE x2 15 c.sent,partE y 17 c.sent,partE y 18 c.sent,partE x2 16 c.sent]]
theorem RSt.cands_le (s:RSt) (e:Ev) (g:Int):(s.cands e g).length≤3∧∀ c,c ∈ s.cands e g→c.length≤4:=by
 unfold RSt.cands;dsimp only
 repeat' split
 all_goals (refine ⟨by simp,fun c hc=>?_⟩;simp only [List.mem_cons,List.not_mem_nil,or_false] at hc)
 all_goals (first | (rcases hc with rfl | rfl | rfl <;> simp [oneE]) | (rcases hc with rfl | rfl <;> simp [oneE]) | (subst hc;simp [oneE]))
def RSt.adds (s:RSt):List Ev→RSt×Bool
 | []=>(s,(s.next.length:Int) == 0)
 | e :: l=>if (s.addR e).2=true then (s.addR e).1.adds l else (s,false)
def RSt.take1 (s:RSt) (out:List Ev):List (List Ev)→RSt×List Ev
 | []=>(s,out)
 | c :: cs=>if (s.adds c).2=true then ((s.adds c).1,out ++ c) else s.take1 out cs
def RSt.rep (s:RSt) (out:List Ev):List Ev→List Ev
 | []=>out
 | e :: raw=>if out.length < 76 then (s.take1 out (s.cands e (gmod e.g s.gor))).1.rep (s.take1 out (s.cands e (gmod e.g s.gor))).2 raw else out
def repairL (raw:List Ev):List Ev:=RSt.new.rep [] raw
structure Whl (s:RSt) (out:List Ev):Prop where
 st:∃ t,TS.new.steps out=some t∧Rel s t
 nx:s.next=[]
theorem Whl.new:Whl RSt.new []:=⟨⟨_,rfl,Rel.new⟩,rfl⟩
theorem Whl.ok {s:RSt} {out:List Ev} (h:Whl s out):s.ok:=by
 obtain ⟨⟨t,h1,h2⟩,_⟩:=h;exact h2.ok (TS.steps_wf TS.wf_new h1)
theorem Whl.gor {s:RSt} {out:List Ev} (h:Whl s out):1≤s.gor∧s.gor≤8:=by
 obtain ⟨⟨t,h1,h2⟩,_⟩:=h;rw [h2.gr];exact (TS.steps_wf TS.wf_new h1).gr
structure Mid (s:RSt) (out:List Ev):Prop where
 st:∃ t,TS.new.steps out=some t∧Rel s t
theorem Mid.ok {s:RSt} {out:List Ev} (h:Mid s out):s.ok:=by
 obtain ⟨t,h1,h2⟩:=h.st;exact h2.ok (TS.steps_wf TS.wf_new h1)
theorem Mid.step {s:RSt} {out:List Ev} (h:Mid s out) {e:Ev} (he:(s.addR e).2=true):Mid (s.addR e).1 (out ++ [e]):=by
 obtain ⟨t,h1,h2⟩:=h.st;have hs:=h2.step (TS.steps_wf TS.wf_new h1) e
 cases ha:t.add e with
 | some t' =>
   rw [ha] at hs;obtain ⟨r',h3,h4⟩:=hs;exact ⟨t',by rw [TS.steps_snoc,h1];exact ha,by rw [h3];exact h4⟩
 | none =>
   rw [ha] at hs;rw [show s.addR e=(s,false) from hs] at he;cases he
theorem Mid.adds {s:RSt} {out:List Ev} (h:Mid s out) (c:List Ev) (hc:(s.adds c).2=true):Whl (s.adds c).1 (out ++ c):=by
 induction c generalizing s out with
 | nil =>
   simp only [RSt.adds,beq_iff_eq] at hc;exact ⟨by rw [List.append_nil];exact h.st,List.length_eq_zero_iff.1 (by simp only [RSt.adds];omega)⟩
 | cons e c ih =>
   simp only [RSt.adds] at hc ⊢
   by_cases he:(s.addR e).2=true
   ·rw [if_pos he] at hc ⊢;have:=ih (h.step he) hc
    rwa [List.append_assoc] at this
   ·rw [if_neg he] at hc;cases hc
theorem Whl.take1 {s:RSt} {out:List Ev} (h:Whl s out) (cs:List (List Ev)) (hcs:∀ c,c ∈ cs→c.length≤4) :
 Whl (s.take1 out cs).1 (s.take1 out cs).2∧(s.take1 out cs).2.length≤out.length+4:=by
 induction cs with
 | nil=>exact ⟨h,by simp [RSt.take1]⟩
 | cons c cs ih =>
   simp only [RSt.take1]
   by_cases hc:(s.adds c).2=true
   ·rw [if_pos hc];refine ⟨Mid.adds ⟨h.st⟩ c hc,?_⟩;have:=hcs c (by simp);rw [List.length_append];omega
   ·rw [if_neg hc];exact ih (fun c' h'=>hcs c' (by simp [h']))
theorem Whl.rep {s:RSt} {out:List Ev} (h:Whl s out) (hl:out.length≤80) (raw:List Ev):∃ s',Whl s' (s.rep out raw)∧(s.rep out raw).length≤80:=by
 induction raw generalizing s out with
 | nil=>exact ⟨s,h,hl⟩
 | cons e raw ih =>
   simp only [RSt.rep]
   by_cases hc:out.length < 76
   ·rw [if_pos hc];have h1:=h.take1 (s.cands e (gmod e.g s.gor)) (s.cands_le e _).2;exact ih h1.1 (by have:=h1.2;omega)
   ·rw [if_neg hc];exact ⟨s,h,hl⟩
theorem repair_good (raw:List Ev):∃ s,Whl s (repairL raw)∧(repairL raw).length≤80:=Whl.new.rep (by decide) raw
theorem Whl.chk {s:RSt} {out:List Ev} (h:Whl s out):chk out=out.length:=by
 obtain ⟨t,h1,_⟩:=h.st;exact TS.chk_of (Nat.le_refl _) (by rw [List.take_length];exact h1) (fun e he=>by rw [List.getElem?_eq_none (Nat.le_refl _)] at he;cases he)
theorem Whl.whole {s:RSt} {out:List Ev} (h:Whl s out):wholeOf out=out.length:=by
 have hc:=h.chk;obtain ⟨t,h1,h2⟩:=h.st;unfold wholeOf;rw [hc]
 cases hn:out.length with
 | zero=>simp [TS.wholeTo]
 | succ n =>
   have ht:out.take (n+1)=out:=by rw [←hn,List.take_length]
   simp only [TS.wholeTo,ht,h1];rw [h2.open_next,h.nx];rfl
end Go.Proofs.Ytffcpijeebagfaa
end
section
namespace Go.Proofs.Ytffcpijeebagfaa
open Go Go.RowKit
set_option maxRecDepth 100000
set_option maxHeartbeats 4000000
def R_mod (ps rs:List Pa):Prop:=∃ x n:Int,ps=[pI x,pI n]∧(1≤n∧n≤1000000)∧rs=[pI (gmod x n)]
theorem s_mod:Spec Try.prog 75 R_mod:=by
 refine sp75 EnvOK.e0 ?_;rintro ps rs ⟨x,n,rfl,hn,rfl⟩;refine ⟨by simp,?_⟩;have hb:=tmod_bd x (n:=n) (by omega);have hn0:n≠0:=by omega
 have hw:IntKind.i64.wrap (x.tmod n+n)=x.tmod n+n:=wr64 (by omega) (by omega);unfold pc75;refine pwp_start ?_;simp only [↓evP,evB,stB,reduceIte,reduceCtorEq,seval,hn0,hw,pr75];rfl
def R_one (ps rs:List Pa):Prop:=∃ (x:Ev) (k a b:Int),ps=[x.pa,pI k,pI a,pI b]∧rs=[evsPa (oneE x k a b)]
theorem s_one:Spec Try.prog 105 R_one:=by
 refine sp105 EnvOK.e0 ?_;rintro ps rs ⟨x,k,a,b,rfl,rfl⟩;refine ⟨by simp,?_⟩;unfold pc105;refine pwp_start ?_;simp only [↓evP,evB,stB,reduceIte,reduceCtorEq,seval,Ev.pa,Ev.row,evsPa,evsD,oneE,pr105]
def R_part (ps rs:List Pa):Prop:=∃ (x:Ev) (k a:Int),ps=[x.pa,pI k,pI a]∧rs=[(partE x k a).pa]
theorem s_part:Spec Try.prog 106 R_part:=by
 refine sp106 EnvOK.e0 ?_;rintro ps rs ⟨x,k,a,rfl,rfl⟩;refine ⟨by simp,?_⟩;unfold pc106;refine pwp_start ?_;simp only [↓evP,evB,stB,reduceIte,reduceCtorEq,seval,Ev.pa,Ev.row,partE,pr106]
def candsPa (l:List (List Ev)):Pa:=.one (.im (l.map fun c=>[evsD c]))
def R_try (ps rs:List Pa):Prop:=∃ (s:RSt) (e:Ev) (g:Int),ps=[s.pa,e.pa,pI g]∧(s.chans.length≤1000000∧1≤s.gor∧s.gor≤8∧0≤g∧g < 8)∧rs=[candsPa (s.cands e g)]
def env_try:Env:=e1 75 R_mod (e1 105 R_one (e1 97 R_channel (e1 106 R_part e0)))
theorem env_try_ok:EnvOK Try.prog env_try:=EnvOK.e1 s_mod (EnvOK.e1 s_one (EnvOK.e1 s_channel (EnvOK.e1 s_part EnvOK.e0)))
structure TryAt (s:RSt) (e:Ev) (g:Int) (x:Ev) (st:St):Prop where
 h2:st.sl 2=aI g
 h3:st.sl 3=.b (.one (.ptr 3 1 0))
 h4:st.sl 4=.b (.one (.ptr 4 1 0))
 h7:st.sl 7=.b (.one (.ptr 7 1 0))
 h8:st.sl 8=aI (cellE e)
 h9:st.sl 9=aI (chosen e)
 g3:st.gen 3=1
 g4:st.gen 4=1
 g7:st.gen 7=1
 o3:st.ob 3=.cells (s.row.map .d)
 o4:st.ob 4=.cells (e.row.map .d)
 o7:st.ob 7=.cells (x.row.map .d)
theorem try_c6 {s:RSt} {e:Ev} {g:Int} {x:Ev} (Q:Exit→St→Prop)
 (hQ:∀ st,st.res prh74=some [candsPa ([oneE x (chosen e) (cellE e) (gmod e.off 2)])]→Q .ret st) (st:St) (ha:TryAt s e g x st) :
 pwp env_try pch74c6 (exS env_try [It.bl 0,It.c pch74c5] Q) st:=by
 obtain ⟨h2,h3,h4,h7,h8,h9,g3,g4,g7,o3,o4,o7⟩:=ha;simp only [RSt.row,Ev.row,List.map_cons,List.map_nil] at o3 o4 o7;unfold pch74c6;simp only [↓evP,evB,stB,reduceIte,reduceCtorEq,seval,h2,h3,h4,h7,h8,h9,g3,g4,g7,o3,o4,o7];refine callD_intro [pI (gmod e.off 2)] ⟨_,_,rfl,by decide,rfl⟩ ?_
 try simp only [↓evP,evB,stB,reduceIte,reduceCtorEq,seval,h2,h3,h4,h7,h8,h9,g3,g4,g7,o3,o4,o7]
 refine callD_intro [evsPa (oneE x (chosen e) (cellE e) (gmod e.off 2))] ⟨x,_,_,_,rfl,rfl⟩ ?_;simp only [evsPa,evsD,oneE,Ev.row,List.map_cons,List.map_nil]
 try simp only [↓evP,evB,stB,reduceIte,reduceCtorEq,seval,h2,h3,h4,h7,h8,h9,g3,g4,g7,o3,o4,o7]
 refine ⟨(by unfold Drw;kernel_rfl),?_⟩
 refine hQ _ ?_;simp only [stB,reduceIte,reduceCtorEq,seval,prh74,g3,g4,g7,o3,o4,o7,candsPa,evsD,oneE,partE,Ev.row,List.map_cons,List.map_nil]
theorem try_c7 {s:RSt} {e:Ev} {g:Int} {x:Ev} (Q:Exit→St→Prop)
 (hQ:∀ st,st.res prh74=some [candsPa ([oneE x (chosen e) (6+gmod (cellE e) 2) 0])]→Q .ret st) (st:St) (ha:TryAt s e g x st) :
 pwp env_try pch74c7 (exS env_try [It.bl 0,It.c pch74c5] Q) st:=by
 obtain ⟨h2,h3,h4,h7,h8,h9,g3,g4,g7,o3,o4,o7⟩:=ha;simp only [RSt.row,Ev.row,List.map_cons,List.map_nil] at o3 o4 o7;unfold pch74c7;simp only [↓evP,evB,stB,reduceIte,reduceCtorEq,seval,h2,h3,h4,h7,h8,h9,g3,g4,g7,o3,o4,o7];refine callD_intro [pI (gmod (cellE e) 2)] ⟨_,_,rfl,by decide,rfl⟩ ?_;simp only [↓evP,evB,stB,reduceIte,reduceCtorEq,seval,h2,h3,h4,h7,h8,h9,g3,g4,g7,o3,o4,o7];rw [wr64 (by have:=gmod_bd (cellE e) (n:=2) (by decide);omega) (by have:=gmod_bd (cellE e) (n:=2) (by decide);omega)]
 try simp only [↓evP,evB,stB,reduceIte,reduceCtorEq,seval,h2,h3,h4,h7,h8,h9,g3,g4,g7,o3,o4,o7]
 refine callD_intro [evsPa (oneE x (chosen e) (6+gmod (cellE e) 2) 0)] ⟨x,_,_,_,rfl,rfl⟩ ?_;simp only [evsPa,evsD,oneE,Ev.row,List.map_cons,List.map_nil]
 try simp only [↓evP,evB,stB,reduceIte,reduceCtorEq,seval,h2,h3,h4,h7,h8,h9,g3,g4,g7,o3,o4,o7]
 refine ⟨(by unfold Drw;kernel_rfl),?_⟩
 refine hQ _ ?_;simp only [stB,reduceIte,reduceCtorEq,seval,prh74,g3,g4,g7,o3,o4,o7,candsPa,evsD,oneE,partE,Ev.row,List.map_cons,List.map_nil]
theorem try_c8 {s:RSt} {e:Ev} {g:Int} {x:Ev} (Q:Exit→St→Prop)
 (hQ:∀ st,st.res prh74=some [candsPa ([oneE x (chosen e) (10+gmod (cellE e) 2) 0,oneE x 7 (10+gmod (cellE e) 2) 0,oneE x 9 (10+gmod (cellE e) 2) 0])]→Q .ret st) (st:St) (ha:TryAt s e g x st) :
 pwp env_try pch74c8 (exS env_try [It.bl 0,It.c pch74c5] Q) st:=by
 obtain ⟨h2,h3,h4,h7,h8,h9,g3,g4,g7,o3,o4,o7⟩:=ha;simp only [RSt.row,Ev.row,List.map_cons,List.map_nil] at o3 o4 o7;unfold pch74c8;simp only [↓evP,evB,stB,reduceIte,reduceCtorEq,seval,h2,h3,h4,h7,h8,h9,g3,g4,g7,o3,o4,o7];refine callOps_intro [pI (gmod (cellE e) 2)] ⟨_,_,rfl,by decide,rfl⟩ ?_;simp only [↓evP,evB,stB,reduceIte,reduceCtorEq,seval,h2,h3,h4,h7,h8,h9,g3,g4,g7,o3,o4,o7];rw [wr64 (by have:=gmod_bd (cellE e) (n:=2) (by decide);omega) (by have:=gmod_bd (cellE e) (n:=2) (by decide);omega)]
 try simp only [↓evP,evB,stB,reduceIte,reduceCtorEq,seval,h2,h3,h4,h7,h8,h9,g3,g4,g7,o3,o4,o7]
 refine callD_intro [evsPa (oneE x (chosen e) (10+gmod (cellE e) 2) 0)] ⟨x,_,_,_,rfl,rfl⟩ ?_;simp only [evsPa,evsD,oneE,Ev.row,List.map_cons,List.map_nil]
 try simp only [↓evP,evB,stB,reduceIte,reduceCtorEq,seval,h2,h3,h4,h7,h8,h9,g3,g4,g7,o3,o4,o7]
 refine callD_intro [evsPa (oneE x 7 (10+gmod (cellE e) 2) 0)] ⟨x,_,_,_,rfl,rfl⟩ ?_;simp only [evsPa,evsD,oneE,Ev.row,List.map_cons,List.map_nil]
 try simp only [↓evP,evB,stB,reduceIte,reduceCtorEq,seval,h2,h3,h4,h7,h8,h9,g3,g4,g7,o3,o4,o7]
 refine callD_intro [evsPa (oneE x 9 (10+gmod (cellE e) 2) 0)] ⟨x,_,_,_,rfl,rfl⟩ ?_;simp only [evsPa,evsD,oneE,Ev.row,List.map_cons,List.map_nil]
 try simp only [↓evP,evB,stB,reduceIte,reduceCtorEq,seval,h2,h3,h4,h7,h8,h9,g3,g4,g7,o3,o4,o7]
 refine ⟨(by unfold Drw;kernel_rfl),?_⟩
 refine hQ _ ?_;simp only [stB,reduceIte,reduceCtorEq,seval,prh74,g3,g4,g7,o3,o4,o7,candsPa,evsD,oneE,partE,Ev.row,List.map_cons,List.map_nil]
theorem try_c9 {s:RSt} {e:Ev} {g:Int} {x:Ev} (hch:0≤chosen e∧chosen e≤20) (Q:Exit→St→Prop)
 (hQ:∀ st,st.res prh74=some [candsPa ([oneE x (chosen e) (20+gmod (cellE e) 2) 0,oneE x (25 - chosen e) (20+gmod (cellE e) 2) 0])]→Q .ret st) (st:St) (ha:TryAt s e g x st) :
 pwp env_try pch74c9 (exS env_try [It.bl 0,It.c pch74c5] Q) st:=by
 obtain ⟨h2,h3,h4,h7,h8,h9,g3,g4,g7,o3,o4,o7⟩:=ha;simp only [RSt.row,Ev.row,List.map_cons,List.map_nil] at o3 o4 o7;unfold pch74c9;simp only [↓evP,evB,stB,reduceIte,reduceCtorEq,seval,h2,h3,h4,h7,h8,h9,g3,g4,g7,o3,o4,o7];refine callOps_intro [pI (gmod (cellE e) 2)] ⟨_,_,rfl,by decide,rfl⟩ ?_;simp only [↓evP,evB,stB,reduceIte,reduceCtorEq,seval,h2,h3,h4,h7,h8,h9,g3,g4,g7,o3,o4,o7];rw [wr64 (by have:=gmod_bd (cellE e) (n:=2) (by decide);omega) (by have:=gmod_bd (cellE e) (n:=2) (by decide);omega)]
 have hw:IntKind.i64.wrap (25 - chosen e)=25 - chosen e:=wr64 (by omega) (by omega)
 try simp only [↓evP,evB,stB,reduceIte,reduceCtorEq,seval,h2,h3,h4,h7,h8,h9,g3,g4,g7,o3,o4,o7]
 refine callD_intro [evsPa (oneE x (chosen e) (20+gmod (cellE e) 2) 0)] ⟨x,_,_,_,rfl,rfl⟩ ?_;simp only [evsPa,evsD,oneE,Ev.row,List.map_cons,List.map_nil]
 try simp only [↓evP,evB,stB,reduceIte,reduceCtorEq,seval,h2,h3,h4,h7,h8,h9,g3,g4,g7,o3,o4,o7]
 rw [hw];refine callD_intro [evsPa (oneE x (25 - chosen e) (20+gmod (cellE e) 2) 0)] ⟨x,_,_,_,rfl,rfl⟩ ?_;simp only [evsPa,evsD,oneE,Ev.row,List.map_cons,List.map_nil]
 try simp only [↓evP,evB,stB,reduceIte,reduceCtorEq,seval,h2,h3,h4,h7,h8,h9,g3,g4,g7,o3,o4,o7]
 refine ⟨(by unfold Drw;kernel_rfl),?_⟩
 refine hQ _ ?_;simp only [stB,reduceIte,reduceCtorEq,seval,prh74,g3,g4,g7,o3,o4,o7,candsPa,evsD,oneE,partE,Ev.row,List.map_cons,List.map_nil]
theorem try_c1 {s:RSt} {e:Ev} {g:Int} {x y:Ev} {c:RCh} (Q:Exit→St→Prop)
 (hQ:∀ st,st.res prh74=some [candsPa [[partE x 17 c.recv,partE x 18 c.recv],[partE x 17 c.recv,partE y 15 c.recv,partE x 18 c.recv,partE y 16 c.recv]]]→Q .ret st) (st:St) (ha:TryAt s e g x st) (h12:st.sl 12=.b (.one (.ptr 12 1 0))) (h13:st.sl 13=.b (.one (.ptr 13 1 0))) (g12:st.gen 12=1) (g13:st.gen 13=1) (o12:st.ob 12=.cells (c.row.map .d)) (o13:st.ob 13=.cells (y.row.map .d)) :
 pwp env_try pch74c1 (exS env_try [It.c pch74c0] Q) st:=by
 obtain ⟨h2,h3,h4,h7,h8,h9,g3,g4,g7,o3,o4,o7⟩:=ha;simp only [RSt.row,Ev.row,List.map_cons,List.map_nil] at o3 o4 o7;simp only [RCh.row,Ev.row,List.map_cons,List.map_nil] at o12 o13;unfold pch74c1;simp only [↓evP,evB,stB,reduceIte,reduceCtorEq,seval,h2,h3,h4,h7,h8,h9,g3,g4,g7,o3,o4,o7,h12,h13,g12,g13,o12,o13];refine callD_intro [(partE x 17 c.recv).pa] ⟨x,_,_,rfl,rfl⟩ ?_;simp only [Ev.pa,partE,Ev.row];simp only [↓evP,evB,stB,reduceIte,reduceCtorEq,seval,h2,h3,h4,h7,h8,h9,g3,g4,g7,o3,o4,o7,h12,h13,g12,g13,o12,o13];refine callD_intro [(partE x 18 c.recv).pa] ⟨x,_,_,rfl,rfl⟩ ?_;simp only [Ev.pa,partE,Ev.row];simp only [↓evP,evB,stB,reduceIte,reduceCtorEq,seval,h2,h3,h4,h7,h8,h9,g3,g4,g7,o3,o4,o7,h12,h13,g12,g13,o12,o13];refine ⟨(by unfold Drw;kernel_rfl),?_⟩
 refine callD_intro [(partE x 17 c.recv).pa] ⟨x,_,_,rfl,rfl⟩ ?_;simp only [Ev.pa,partE,Ev.row];simp only [↓evP,evB,stB,reduceIte,reduceCtorEq,seval,h2,h3,h4,h7,h8,h9,g3,g4,g7,o3,o4,o7,h12,h13,g12,g13,o12,o13];refine callD_intro [(partE y 15 c.recv).pa] ⟨y,_,_,rfl,rfl⟩ ?_;simp only [Ev.pa,partE,Ev.row];simp only [↓evP,evB,stB,reduceIte,reduceCtorEq,seval,h2,h3,h4,h7,h8,h9,g3,g4,g7,o3,o4,o7,h12,h13,g12,g13,o12,o13];refine callD_intro [(partE x 18 c.recv).pa] ⟨x,_,_,rfl,rfl⟩ ?_;simp only [Ev.pa,partE,Ev.row];simp only [↓evP,evB,stB,reduceIte,reduceCtorEq,seval,h2,h3,h4,h7,h8,h9,g3,g4,g7,o3,o4,o7,h12,h13,g12,g13,o12,o13];refine callD_intro [(partE y 16 c.recv).pa] ⟨y,_,_,rfl,rfl⟩ ?_;simp only [Ev.pa,partE,Ev.row];simp only [↓evP,evB,stB,reduceIte,reduceCtorEq,seval,h2,h3,h4,h7,h8,h9,g3,g4,g7,o3,o4,o7,h12,h13,g12,g13,o12,o13];refine ⟨(by unfold Drw;kernel_rfl),?_⟩
 refine hQ _ ?_;simp only [stB,reduceIte,reduceCtorEq,seval,prh74,g3,g4,g7,o3,o4,o7,candsPa,evsD,oneE,partE,Ev.row,List.map_cons,List.map_nil]
theorem try_c0 {s:RSt} {e:Ev} {g:Int} {x y:Ev} {c:RCh} (Q:Exit→St→Prop)
 (hQ:∀ st,st.res prh74=some [candsPa [[partE x 15 c.sent,partE x 16 c.sent],[partE x 15 c.sent,partE y 17 c.sent,partE y 18 c.sent,partE x 16 c.sent]]]→Q .ret st) (st:St) (ha:TryAt s e g x st) (h12:st.sl 12=.b (.one (.ptr 12 1 0))) (h13:st.sl 13=.b (.one (.ptr 13 1 0))) (g12:st.gen 12=1) (g13:st.gen 13=1) (o12:st.ob 12=.cells (c.row.map .d)) (o13:st.ob 13=.cells (y.row.map .d)) :
 pwp env_try pch74c0 (exS env_try [] Q) st:=by
 obtain ⟨h2,h3,h4,h7,h8,h9,g3,g4,g7,o3,o4,o7⟩:=ha;simp only [RSt.row,Ev.row,List.map_cons,List.map_nil] at o3 o4 o7;simp only [RCh.row,Ev.row,List.map_cons,List.map_nil] at o12 o13;unfold pch74c0;simp only [↓evP,evB,stB,reduceIte,reduceCtorEq,seval,h2,h3,h4,h7,h8,h9,g3,g4,g7,o3,o4,o7,h12,h13,g12,g13,o12,o13];refine callD_intro [(partE x 15 c.sent).pa] ⟨x,_,_,rfl,rfl⟩ ?_;simp only [Ev.pa,partE,Ev.row];simp only [↓evP,evB,stB,reduceIte,reduceCtorEq,seval,h2,h3,h4,h7,h8,h9,g3,g4,g7,o3,o4,o7,h12,h13,g12,g13,o12,o13];refine callD_intro [(partE x 16 c.sent).pa] ⟨x,_,_,rfl,rfl⟩ ?_;simp only [Ev.pa,partE,Ev.row];simp only [↓evP,evB,stB,reduceIte,reduceCtorEq,seval,h2,h3,h4,h7,h8,h9,g3,g4,g7,o3,o4,o7,h12,h13,g12,g13,o12,o13];refine ⟨(by unfold Drw;kernel_rfl),?_⟩
 refine callD_intro [(partE x 15 c.sent).pa] ⟨x,_,_,rfl,rfl⟩ ?_;simp only [Ev.pa,partE,Ev.row];simp only [↓evP,evB,stB,reduceIte,reduceCtorEq,seval,h2,h3,h4,h7,h8,h9,g3,g4,g7,o3,o4,o7,h12,h13,g12,g13,o12,o13];refine callD_intro [(partE y 17 c.sent).pa] ⟨y,_,_,rfl,rfl⟩ ?_;simp only [Ev.pa,partE,Ev.row];simp only [↓evP,evB,stB,reduceIte,reduceCtorEq,seval,h2,h3,h4,h7,h8,h9,g3,g4,g7,o3,o4,o7,h12,h13,g12,g13,o12,o13];refine callD_intro [(partE y 18 c.sent).pa] ⟨y,_,_,rfl,rfl⟩ ?_;simp only [Ev.pa,partE,Ev.row];simp only [↓evP,evB,stB,reduceIte,reduceCtorEq,seval,h2,h3,h4,h7,h8,h9,g3,g4,g7,o3,o4,o7,h12,h13,g12,g13,o12,o13];refine callD_intro [(partE x 16 c.sent).pa] ⟨x,_,_,rfl,rfl⟩ ?_;simp only [Ev.pa,partE,Ev.row];simp only [↓evP,evB,stB,reduceIte,reduceCtorEq,seval,h2,h3,h4,h7,h8,h9,g3,g4,g7,o3,o4,o7,h12,h13,g12,g13,o12,o13];refine ⟨(by unfold Drw;kernel_rfl),?_⟩
 refine hQ _ ?_;simp only [stB,reduceIte,reduceCtorEq,seval,prh74,g3,g4,g7,o3,o4,o7,candsPa,evsD,oneE,partE,Ev.row,List.map_cons,List.map_nil]
def RSt.candsT (s:RSt) (e:Ev) (g:Int):List (List Ev) :=
 let x:=baseE e g
 let ch:=chosen e
 let c:=s.chanE e
 let x1:Ev:={ x with n:=c.n }
 if ch≥19 then [oneE x1 ch c.obj 0]
 else
  let x2:Ev:={ x1 with obj:=c.obj }
  let y:=otherE s e g x2
  if ch≥17 then [[partE x2 17 c.recv,partE x2 18 c.recv],[partE x2 17 c.recv,partE y 15 c.recv,partE x2 18 c.recv,partE y 16 c.recv]]
  else [[partE x2 15 c.sent,partE x2 16 c.sent],[partE x2 15 c.sent,partE y 17 c.sent,partE y 18 c.sent,partE x2 16 c.sent]]
theorem wr30 (x:Int):IntKind.i64.wrap (30+gmod x 3)=30+gmod x 3:=by
 have:=gmod_bd x (n:=3) (by decide);exact wr64 (by omega) (by omega)
theorem try_c3 {s:RSt} {e:Ev} {g:Int} {x y:Ev} {c:RCh} (Q:Exit→St→Prop)
 (hQ:∀ st,st.res prh74=some [candsPa (if chosen e≥17 then [[partE x 17 c.recv,partE x 18 c.recv],[partE x 17 c.recv,partE y 15 c.recv,partE x 18 c.recv,partE y 16 c.recv]]
  else [[partE x 15 c.sent,partE x 16 c.sent],[partE x 15 c.sent,partE y 17 c.sent,partE y 18 c.sent,partE x 16 c.sent]])]→Q .ret st) (st:St) (ha:TryAt s e g x st) (h12:st.sl 12=.b (.one (.ptr 12 1 0))) (h13:st.sl 13=.b (.one (.ptr 13 1 0))) (g12:st.gen 12=1) (g13:st.gen 13=1) (o12:st.ob 12=.cells (c.row.map .d)) (o13:st.ob 13=.cells (y.row.map .d)) :
 pwp env_try pch74c3 (exS env_try [] Q) st:=by
 have ha':=ha;have o12':=o12;have o13':=o13;obtain ⟨h2,h3,h4,h7,h8,h9,g3,g4,g7,o3,o4,o7⟩:=ha';unfold pch74c3
 by_cases h17:chosen e≥17
 ·rw [if_pos h17] at hQ;simp only [↓evP,evB,stB,reduceIte,reduceCtorEq,seval];unfold pch74c2;simp only [↓evP,evB,stB,reduceIte,reduceCtorEq,seval,h9,h17,decide_true,decide_false]
  exact try_c1 (s:=s) (e:=e) (g:=g) (x:=x) (y:=y) Q hQ _ ⟨by simp only [stB,reduceIte,reduceCtorEq,seval,h2],by simp only [stB,reduceIte,reduceCtorEq,seval,h3],by simp only [stB,reduceIte,reduceCtorEq,seval,h4],by simp only [stB,reduceIte,reduceCtorEq,seval,h7],by simp only [stB,reduceIte,reduceCtorEq,seval,h8],by simp only [stB,reduceIte,reduceCtorEq,seval,h9],by simp only [stB,reduceIte,reduceCtorEq,seval,g3],by simp only [stB,reduceIte,reduceCtorEq,seval,g4],by simp only [stB,reduceIte,reduceCtorEq,seval,g7],by simp only [stB,reduceIte,reduceCtorEq,seval,o3],by simp only [stB,reduceIte,reduceCtorEq,seval,o4],by simp only [stB,reduceIte,reduceCtorEq,seval,o7]⟩ (by simp only [stB,reduceIte,reduceCtorEq,seval,h12]) (by simp only [stB,reduceIte,reduceCtorEq,seval,h13]) (by simp only [stB,reduceIte,reduceCtorEq,seval,g12]) (by simp only [stB,reduceIte,reduceCtorEq,seval,g13]) (by simp only [stB,reduceIte,reduceCtorEq,seval,o12]) (by simp only [stB,reduceIte,reduceCtorEq,seval,o13])
 ·rw [if_neg h17] at hQ;simp only [↓evP,evB,stB,reduceIte,reduceCtorEq,seval];unfold pch74c2;simp only [↓evP,evB,stB,reduceIte,reduceCtorEq,seval,h9,h17,decide_true,decide_false]
  exact try_c0 (s:=s) (e:=e) (g:=g) (x:=x) (y:=y) Q hQ _ ⟨by simp only [stB,reduceIte,reduceCtorEq,seval,h2],by simp only [stB,reduceIte,reduceCtorEq,seval,h3],by simp only [stB,reduceIte,reduceCtorEq,seval,h4],by simp only [stB,reduceIte,reduceCtorEq,seval,h7],by simp only [stB,reduceIte,reduceCtorEq,seval,h8],by simp only [stB,reduceIte,reduceCtorEq,seval,h9],by simp only [stB,reduceIte,reduceCtorEq,seval,g3],by simp only [stB,reduceIte,reduceCtorEq,seval,g4],by simp only [stB,reduceIte,reduceCtorEq,seval,g7],by simp only [stB,reduceIte,reduceCtorEq,seval,o3],by simp only [stB,reduceIte,reduceCtorEq,seval,o4],by simp only [stB,reduceIte,reduceCtorEq,seval,o7]⟩ (by simp only [stB,reduceIte,reduceCtorEq,seval,h12]) (by simp only [stB,reduceIte,reduceCtorEq,seval,h13]) (by simp only [stB,reduceIte,reduceCtorEq,seval,g12]) (by simp only [stB,reduceIte,reduceCtorEq,seval,g13]) (by simp only [stB,reduceIte,reduceCtorEq,seval,o12]) (by simp only [stB,reduceIte,reduceCtorEq,seval,o13])
theorem try_c5 {s:RSt} {e:Ev} {g:Int} (hl:s.chans.length≤1000000) (hs:1≤s.gor∧s.gor≤8) (hg:0≤g∧g < 8) (Q:Exit→St→Prop)
 (hQ:∀ st,st.res prh74=some [candsPa (s.candsT e g)]→Q .ret st) (st:St) (ha:TryAt s e g (baseE e g) st) (g12:st.gen 12=0) (g13:st.gen 13=0) :
 pwp env_try pch74c5 (exS env_try [] Q) st:=by
 obtain ⟨h2,h3,h4,h7,h8,h9,g3,g4,g7,o3,o4,o7⟩:=ha;simp only [RSt.row,Ev.row,List.map_cons,List.map_nil] at o3 o4 o7;unfold pch74c5;simp only [↓evP,evB,stB,reduceIte,reduceCtorEq,seval,h2,h3,h4,h7,h8,h9,g3,g4,g7,o3,o4,o7];refine callD_intro [pI (gmod (cellE e) 3)] ⟨_,_,rfl,by decide,rfl⟩ ?_;simp only [↓evP,evB,stB,reduceIte,reduceCtorEq,seval,h2,h3,h4,h7,h8,h9,g3,g4,g7,o3,o4,o7];rw [wr30];refine callD_intro [pI (gmod (cellE e) 3)] ⟨_,_,rfl,by decide,rfl⟩ ?_;simp only [↓evP,evB,stB,reduceIte,reduceCtorEq,seval,h2,h3,h4,h7,h8,h9,g3,g4,g7,o3,o4,o7];refine callD_intro [.agg (s.chanE e).row] ⟨s,_,_,rfl,hl,rfl⟩ ?_;simp only [RSt.candsT] at hQ;generalize hc:s.chanE e=c at *;simp only [RCh.row]
 by_cases h19:chosen e≥19
 ·simp only [h19,if_true] at hQ;simp only [↓evP,evB,stB,reduceIte,reduceCtorEq,seval,h2,h3,h4,h7,h8,h9,g3,g4,g7,o3,o4,o7,h19,decide_true,decide_false];refine ⟨(by unfold Drw;kernel_rfl),?_⟩
  refine callOps_intro [evsPa (oneE { baseE e g with n:=c.n } (chosen e) c.obj 0)] ⟨{ baseE e g with n:=c.n },_,_,_,rfl,rfl⟩ ?_;simp only [evsPa,evsD,oneE,Ev.row,List.map_cons,List.map_nil];simp only [↓evP,evB,stB,reduceIte,reduceCtorEq,seval,h2,h3,h4,h7,h8,h9,g3,g4,g7,o3,o4,o7];refine hQ _ ?_;simp only [stB,reduceIte,reduceCtorEq,seval,prh74,g3,g4,g7,o3,o4,o7,candsPa,evsD,oneE,partE,Ev.row,List.map_cons,List.map_nil]
 ·simp only [h19,if_false] at hQ
  by_cases h1:s.gor > 1
  ·simp only [↓evP,evB,stB,reduceIte,reduceCtorEq,seval,h2,h3,h4,h7,h8,h9,g3,g4,g7,o3,o4,o7,h19,h1,decide_true,decide_false];refine ⟨(by unfold Drw;kernel_rfl),?_⟩
   unfold pch74c4;have hm1:IntKind.i64.wrap (s.gor - 1)=s.gor - 1:=wr64 (by omega) (by omega);have hb:=gmod_bd e.k (n:=s.gor - 1) (by omega);have hg1:IntKind.i64.wrap (g+1)=g+1:=wr64 (by omega) (by omega);have hg2:IntKind.i64.wrap (g+1+gmod e.k (s.gor - 1))=g+1+gmod e.k (s.gor - 1):=wr64 (by omega) (by omega);have hg0:s.gor≠0:=by omega
   simp only [↓evP,evB,stB,reduceIte,reduceCtorEq,seval,h2,h3,h4,h7,h8,h9,g3,g4,g7,o3,o4,o7,hm1,hg1];refine callD_intro [pI (gmod e.k (s.gor - 1))] ⟨_,_,rfl,⟨by omega,by omega⟩,rfl⟩ ?_;have hpc:=gmod_bd e.pc (n:=5) (by decide);have hw5:IntKind.i64.wrap ((baseE e g).pc+1)=(baseE e g).pc+1:=wr64 (by simp only [baseE];omega) (by simp only [baseE];omega)
   simp only [↓evP,evB,stB,reduceIte,reduceCtorEq,seval,h2,h3,h4,h7,h8,h9,g3,g4,g7,o3,o4,o7,hm1,hg1,hg2,hg0,hw5];refine ⟨(by unfold Drw;kernel_rfl),?_⟩
   refine try_c3 (s:=s) (e:=e) (g:=g) (x:={ baseE e g with n:=c.n,obj:=c.obj }) (y:={ baseE e g with n:=c.n,obj:=c.obj,g:=(g+1+gmod e.k (s.gor - 1)).tmod s.gor,pc:=(baseE e g).pc+1 }) (c:=c) Q ?_ _ ⟨by simp only [stB,reduceIte,reduceCtorEq,seval,h2],by simp only [stB,reduceIte,reduceCtorEq,seval,h3],by simp only [stB,reduceIte,reduceCtorEq,seval,h4],by simp only [stB,reduceIte,reduceCtorEq,seval,h7],by simp only [stB,reduceIte,reduceCtorEq,seval,h8],by simp only [stB,reduceIte,reduceCtorEq,seval,h9],by simp only [stB,reduceIte,reduceCtorEq,seval,g3],by simp only [stB,reduceIte,reduceCtorEq,seval,g4],by simp only [stB,reduceIte,reduceCtorEq,seval,g7],by simp only [stB,reduceIte,reduceCtorEq,seval,o3,RSt.row],by simp only [stB,reduceIte,reduceCtorEq,seval,o4,Ev.row],by simp only [stB,reduceIte,reduceCtorEq,seval,o7,Ev.row]⟩ (by simp only [stB,reduceIte,reduceCtorEq,seval,g12]) (by simp only [stB,reduceIte,reduceCtorEq,seval,g13]) (by simp only [stB,reduceIte,reduceCtorEq,seval,g12]) (by simp only [stB,reduceIte,reduceCtorEq,seval,g13]) (by simp only [stB,reduceIte,reduceCtorEq,seval,RCh.row]) (by simp only [stB,reduceIte,reduceCtorEq,seval,Ev.row])
   intro st' h;refine hQ st' ?_;rw [h];simp only [otherE,if_pos h1]
  ·simp only [↓evP,evB,stB,reduceIte,reduceCtorEq,seval,h2,h3,h4,h7,h8,h9,g3,g4,g7,o3,o4,o7,h19,h1,decide_true,decide_false];refine ⟨(by unfold Drw;kernel_rfl),?_⟩
   refine try_c3 (s:=s) (e:=e) (g:=g) (x:={ baseE e g with n:=c.n,obj:=c.obj }) (y:={ baseE e g with n:=c.n,obj:=c.obj }) (c:=c) Q ?_ _ ⟨by simp only [stB,reduceIte,reduceCtorEq,seval,h2],by simp only [stB,reduceIte,reduceCtorEq,seval,h3],by simp only [stB,reduceIte,reduceCtorEq,seval,h4],by simp only [stB,reduceIte,reduceCtorEq,seval,h7],by simp only [stB,reduceIte,reduceCtorEq,seval,h8],by simp only [stB,reduceIte,reduceCtorEq,seval,h9],by simp only [stB,reduceIte,reduceCtorEq,seval,g3],by simp only [stB,reduceIte,reduceCtorEq,seval,g4],by simp only [stB,reduceIte,reduceCtorEq,seval,g7],by simp only [stB,reduceIte,reduceCtorEq,seval,o3,RSt.row],by simp only [stB,reduceIte,reduceCtorEq,seval,o4,Ev.row],by simp only [stB,reduceIte,reduceCtorEq,seval,o7,Ev.row]⟩ (by simp only [stB,reduceIte,reduceCtorEq,seval,g12]) (by simp only [stB,reduceIte,reduceCtorEq,seval,g13]) (by simp only [stB,reduceIte,reduceCtorEq,seval,g12]) (by simp only [stB,reduceIte,reduceCtorEq,seval,g13]) (by simp only [stB,reduceIte,reduceCtorEq,seval,RCh.row]) (by simp only [stB,reduceIte,reduceCtorEq,seval,Ev.row])
   intro st' h;refine hQ st' ?_;rw [h];simp only [otherE,if_neg h1]
theorem s_try:Spec Try.prog 74 R_try:=by
 refine sph74 env_try_ok ?_;rintro ps rs ⟨s,e,g,rfl,⟨hl,hs1,hs2,hg1,hg2⟩,rfl⟩;refine ⟨by simp,?_⟩;unfold pch74;refine pwp_start ?_;simp only [↓evP,evB,stB,reduceIte,reduceCtorEq,seval,RSt.pa,RSt.row,Ev.pa,Ev.row];refine callD_intro [pI (gmod e.fn 3)] ⟨_,_,rfl,by decide,rfl⟩ ?_;simp only [↓evP,evB,stB,reduceIte,reduceCtorEq,seval];refine callD_intro [pI (gmod e.pc 5)] ⟨_,_,rfl,by decide,rfl⟩ ?_;simp only [↓evP,evB,stB,reduceIte,reduceCtorEq,seval];refine ⟨(by unfold Drw;kernel_rfl),?_⟩
 refine callD_intro [pI (gmod e.obj 4)] ⟨_,_,rfl,by decide,rfl⟩ ?_;simp only [↓evP,evB,stB,reduceIte,reduceCtorEq,seval];refine callD_intro [pI (gmod e.kind 20)] ⟨_,_,rfl,by decide,rfl⟩ ?_;have hkb:=gmod_bd e.kind (n:=20) (by decide);have hcb:1≤chosen e∧chosen e≤20:=by unfold chosen;split <;> omega
 suffices hmain:∀ st:St,TryAt s e g (baseE e g) st→st.gen 12=0→st.gen 13=0→∀ Q:Exit→St→Prop,(∀ st,st.res prh74=some [candsPa (s.cands e g)]→Q .ret st)→pwp env_try pch74c15 (exS env_try [It.c pch74c5] Q) st by
  cases k0:(gmod e.kind 20 == 0) with
  | true =>
    have hc:chosen e=20:=by unfold chosen;rw [if_pos (beq_iff_eq.1 k0)]
    simp only [↓evP,evB,stB,reduceIte,reduceCtorEq,seval,k0];refine ⟨(by unfold Drw;kernel_rfl),?_⟩
    refine hmain _ ⟨by simp only [stB,reduceIte,reduceCtorEq,seval],by simp only [stB,reduceIte,reduceCtorEq,seval],by simp only [stB,reduceIte,reduceCtorEq,seval],by simp only [stB,reduceIte,reduceCtorEq,seval],by simp only [stB,reduceIte,reduceCtorEq,seval,cellE],by simp only [stB,reduceIte,reduceCtorEq,seval,hc],by simp only [stB,reduceIte,reduceCtorEq,seval],by simp only [stB,reduceIte,reduceCtorEq,seval],by simp only [stB,reduceIte,reduceCtorEq,seval],by simp only [stB,reduceIte,reduceCtorEq,seval,RSt.row],by simp only [stB,reduceIte,reduceCtorEq,seval,Ev.row],by simp only [stB,reduceIte,reduceCtorEq,seval,Ev.row,baseE]⟩ (by simp only [stB,reduceIte,reduceCtorEq,seval]) (by simp only [stB,reduceIte,reduceCtorEq,seval]) _ (fun st h=>⟨.inr rfl,h⟩)
  | false =>
    have hc:chosen e=gmod e.kind 20:=by unfold chosen;rw [if_neg (beq_eq_false_iff_ne.1 k0)]
    simp only [↓evP,evB,stB,reduceIte,reduceCtorEq,seval,k0];refine ⟨(by unfold Drw;kernel_rfl),?_⟩
    refine hmain _ ⟨by simp only [stB,reduceIte,reduceCtorEq,seval],by simp only [stB,reduceIte,reduceCtorEq,seval],by simp only [stB,reduceIte,reduceCtorEq,seval],by simp only [stB,reduceIte,reduceCtorEq,seval],by simp only [stB,reduceIte,reduceCtorEq,seval,cellE],by simp only [stB,reduceIte,reduceCtorEq,seval,hc],by simp only [stB,reduceIte,reduceCtorEq,seval],by simp only [stB,reduceIte,reduceCtorEq,seval],by simp only [stB,reduceIte,reduceCtorEq,seval],by simp only [stB,reduceIte,reduceCtorEq,seval,RSt.row],by simp only [stB,reduceIte,reduceCtorEq,seval,Ev.row],by simp only [stB,reduceIte,reduceCtorEq,seval,Ev.row,baseE]⟩ (by simp only [stB,reduceIte,reduceCtorEq,seval]) (by simp only [stB,reduceIte,reduceCtorEq,seval]) _ (fun st h=>⟨.inr rfl,h⟩)
 intro st ha g12 g13 Q hQ;have ha':=ha;obtain ⟨h2,h3,h4,h7,h8,h9,g3,g4,g7,o3,o4,o7⟩:=ha';simp only [RSt.row,Ev.row,List.map_cons,List.map_nil] at o3 o4 o7;unfold pch74c15
 cases k1:(chosen e == 1) with
 | true =>
   have hL:s.cands e g=_:=rfl
   conv at hL=>rhs;unfold RSt.cands
   have q:=beq_iff_eq.1 k1;simp only [↓evP,evB,stB,reduceIte,reduceCtorEq,seval,h2,h3,h4,h7,h8,h9,g3,g4,g7,o3,o4,o7,k1];dsimp only at hL;rw [if_pos (by omega)] at hL;rw [hL] at hQ;exact try_c6 (s:=s) (e:=e) (g:=g) (x:=baseE e g) Q hQ _ ⟨by simp only [stB,reduceIte,reduceCtorEq,seval,h2],by simp only [stB,reduceIte,reduceCtorEq,seval,h3],by simp only [stB,reduceIte,reduceCtorEq,seval,h4],by simp only [stB,reduceIte,reduceCtorEq,seval,h7],by simp only [stB,reduceIte,reduceCtorEq,seval,h8],by simp only [stB,reduceIte,reduceCtorEq,seval,h9],by simp only [stB,reduceIte,reduceCtorEq,seval,g3],by simp only [stB,reduceIte,reduceCtorEq,seval,g4],by simp only [stB,reduceIte,reduceCtorEq,seval,g7],by simp only [stB,reduceIte,reduceCtorEq,seval,o3,RSt.row],by simp only [stB,reduceIte,reduceCtorEq,seval,o4,Ev.row],by simp only [stB,reduceIte,reduceCtorEq,seval,o7,Ev.row]⟩
 | false =>
 have n1:=beq_eq_false_iff_ne.1 k1
 cases k2:(chosen e == 2) with
 | true =>
   have hL:s.cands e g=_:=rfl
   conv at hL=>rhs;unfold RSt.cands
   have q:=beq_iff_eq.1 k2;simp only [↓evP,evB,stB,reduceIte,reduceCtorEq,seval,h2,h3,h4,h7,h8,h9,g3,g4,g7,o3,o4,o7,k1,k2];dsimp only at hL;rw [if_pos (by omega)] at hL;rw [hL] at hQ;exact try_c6 (s:=s) (e:=e) (g:=g) (x:=baseE e g) Q hQ _ ⟨by simp only [stB,reduceIte,reduceCtorEq,seval,h2],by simp only [stB,reduceIte,reduceCtorEq,seval,h3],by simp only [stB,reduceIte,reduceCtorEq,seval,h4],by simp only [stB,reduceIte,reduceCtorEq,seval,h7],by simp only [stB,reduceIte,reduceCtorEq,seval,h8],by simp only [stB,reduceIte,reduceCtorEq,seval,h9],by simp only [stB,reduceIte,reduceCtorEq,seval,g3],by simp only [stB,reduceIte,reduceCtorEq,seval,g4],by simp only [stB,reduceIte,reduceCtorEq,seval,g7],by simp only [stB,reduceIte,reduceCtorEq,seval,o3,RSt.row],by simp only [stB,reduceIte,reduceCtorEq,seval,o4,Ev.row],by simp only [stB,reduceIte,reduceCtorEq,seval,o7,Ev.row]⟩
 | false =>
 have n2:=beq_eq_false_iff_ne.1 k2
 cases k10:(chosen e == 10) with
 | true =>
   have hL:s.cands e g=_:=rfl
   conv at hL=>rhs;unfold RSt.cands
   have q:=beq_iff_eq.1 k10;simp only [↓evP,evB,stB,reduceIte,reduceCtorEq,seval,h2,h3,h4,h7,h8,h9,g3,g4,g7,o3,o4,o7,k1,k2,k10];dsimp only at hL;rw [if_pos (by omega)] at hL;rw [hL] at hQ;exact try_c6 (s:=s) (e:=e) (g:=g) (x:=baseE e g) Q hQ _ ⟨by simp only [stB,reduceIte,reduceCtorEq,seval,h2],by simp only [stB,reduceIte,reduceCtorEq,seval,h3],by simp only [stB,reduceIte,reduceCtorEq,seval,h4],by simp only [stB,reduceIte,reduceCtorEq,seval,h7],by simp only [stB,reduceIte,reduceCtorEq,seval,h8],by simp only [stB,reduceIte,reduceCtorEq,seval,h9],by simp only [stB,reduceIte,reduceCtorEq,seval,g3],by simp only [stB,reduceIte,reduceCtorEq,seval,g4],by simp only [stB,reduceIte,reduceCtorEq,seval,g7],by simp only [stB,reduceIte,reduceCtorEq,seval,o3,RSt.row],by simp only [stB,reduceIte,reduceCtorEq,seval,o4,Ev.row],by simp only [stB,reduceIte,reduceCtorEq,seval,o7,Ev.row]⟩
 | false =>
 have n10:=beq_eq_false_iff_ne.1 k10
 cases k11:(chosen e == 11) with
 | true =>
   have hL:s.cands e g=_:=rfl
   conv at hL=>rhs;unfold RSt.cands
   have q:=beq_iff_eq.1 k11;simp only [↓evP,evB,stB,reduceIte,reduceCtorEq,seval,h2,h3,h4,h7,h8,h9,g3,g4,g7,o3,o4,o7,k1,k2,k10,k11];dsimp only at hL;rw [if_pos (by omega)] at hL;rw [hL] at hQ;exact try_c6 (s:=s) (e:=e) (g:=g) (x:=baseE e g) Q hQ _ ⟨by simp only [stB,reduceIte,reduceCtorEq,seval,h2],by simp only [stB,reduceIte,reduceCtorEq,seval,h3],by simp only [stB,reduceIte,reduceCtorEq,seval,h4],by simp only [stB,reduceIte,reduceCtorEq,seval,h7],by simp only [stB,reduceIte,reduceCtorEq,seval,h8],by simp only [stB,reduceIte,reduceCtorEq,seval,h9],by simp only [stB,reduceIte,reduceCtorEq,seval,g3],by simp only [stB,reduceIte,reduceCtorEq,seval,g4],by simp only [stB,reduceIte,reduceCtorEq,seval,g7],by simp only [stB,reduceIte,reduceCtorEq,seval,o3,RSt.row],by simp only [stB,reduceIte,reduceCtorEq,seval,o4,Ev.row],by simp only [stB,reduceIte,reduceCtorEq,seval,o7,Ev.row]⟩
 | false =>
 have n11:=beq_eq_false_iff_ne.1 k11
 cases k3:(chosen e == 3) with
 | true =>
   have hL:s.cands e g=_:=rfl
   conv at hL=>rhs;unfold RSt.cands
   have q:=beq_iff_eq.1 k3;simp only [↓evP,evB,stB,reduceIte,reduceCtorEq,seval,h2,h3,h4,h7,h8,h9,g3,g4,g7,o3,o4,o7,k1,k2,k10,k11];unfold pch74c14;simp only [↓evP,evB,stB,reduceIte,reduceCtorEq,seval,h2,h3,h4,h7,h8,h9,g3,g4,g7,o3,o4,o7,k3];dsimp only at hL;rw [if_neg (by omega),if_pos (by omega)] at hL;rw [hL] at hQ
   exact try_c7 (s:=s) (e:=e) (g:=g) (x:=baseE e g) Q hQ _ ⟨by simp only [stB,reduceIte,reduceCtorEq,seval,h2],by simp only [stB,reduceIte,reduceCtorEq,seval,h3],by simp only [stB,reduceIte,reduceCtorEq,seval,h4],by simp only [stB,reduceIte,reduceCtorEq,seval,h7],by simp only [stB,reduceIte,reduceCtorEq,seval,h8],by simp only [stB,reduceIte,reduceCtorEq,seval,h9],by simp only [stB,reduceIte,reduceCtorEq,seval,g3],by simp only [stB,reduceIte,reduceCtorEq,seval,g4],by simp only [stB,reduceIte,reduceCtorEq,seval,g7],by simp only [stB,reduceIte,reduceCtorEq,seval,o3,RSt.row],by simp only [stB,reduceIte,reduceCtorEq,seval,o4,Ev.row],by simp only [stB,reduceIte,reduceCtorEq,seval,o7,Ev.row]⟩
 | false =>
 have n3:=beq_eq_false_iff_ne.1 k3
 cases k4:(chosen e == 4) with
 | true =>
   have hL:s.cands e g=_:=rfl
   conv at hL=>rhs;unfold RSt.cands
   have q:=beq_iff_eq.1 k4;simp only [↓evP,evB,stB,reduceIte,reduceCtorEq,seval,h2,h3,h4,h7,h8,h9,g3,g4,g7,o3,o4,o7,k1,k2,k10,k11];unfold pch74c14;simp only [↓evP,evB,stB,reduceIte,reduceCtorEq,seval,h2,h3,h4,h7,h8,h9,g3,g4,g7,o3,o4,o7,k3,k4];dsimp only at hL;rw [if_neg (by omega),if_pos (by omega)] at hL;rw [hL] at hQ
   exact try_c7 (s:=s) (e:=e) (g:=g) (x:=baseE e g) Q hQ _ ⟨by simp only [stB,reduceIte,reduceCtorEq,seval,h2],by simp only [stB,reduceIte,reduceCtorEq,seval,h3],by simp only [stB,reduceIte,reduceCtorEq,seval,h4],by simp only [stB,reduceIte,reduceCtorEq,seval,h7],by simp only [stB,reduceIte,reduceCtorEq,seval,h8],by simp only [stB,reduceIte,reduceCtorEq,seval,h9],by simp only [stB,reduceIte,reduceCtorEq,seval,g3],by simp only [stB,reduceIte,reduceCtorEq,seval,g4],by simp only [stB,reduceIte,reduceCtorEq,seval,g7],by simp only [stB,reduceIte,reduceCtorEq,seval,o3,RSt.row],by simp only [stB,reduceIte,reduceCtorEq,seval,o4,Ev.row],by simp only [stB,reduceIte,reduceCtorEq,seval,o7,Ev.row]⟩
 | false =>
 have n4:=beq_eq_false_iff_ne.1 k4
 cases k5:(chosen e == 5) with
 | true =>
   have hL:s.cands e g=_:=rfl
   conv at hL=>rhs;unfold RSt.cands
   have q:=beq_iff_eq.1 k5;simp only [↓evP,evB,stB,reduceIte,reduceCtorEq,seval,h2,h3,h4,h7,h8,h9,g3,g4,g7,o3,o4,o7,k1,k2,k10,k11];unfold pch74c14;simp only [↓evP,evB,stB,reduceIte,reduceCtorEq,seval,h2,h3,h4,h7,h8,h9,g3,g4,g7,o3,o4,o7,k3,k4,k5];dsimp only at hL;rw [if_neg (by omega),if_pos (by omega)] at hL;rw [hL] at hQ
   exact try_c7 (s:=s) (e:=e) (g:=g) (x:=baseE e g) Q hQ _ ⟨by simp only [stB,reduceIte,reduceCtorEq,seval,h2],by simp only [stB,reduceIte,reduceCtorEq,seval,h3],by simp only [stB,reduceIte,reduceCtorEq,seval,h4],by simp only [stB,reduceIte,reduceCtorEq,seval,h7],by simp only [stB,reduceIte,reduceCtorEq,seval,h8],by simp only [stB,reduceIte,reduceCtorEq,seval,h9],by simp only [stB,reduceIte,reduceCtorEq,seval,g3],by simp only [stB,reduceIte,reduceCtorEq,seval,g4],by simp only [stB,reduceIte,reduceCtorEq,seval,g7],by simp only [stB,reduceIte,reduceCtorEq,seval,o3,RSt.row],by simp only [stB,reduceIte,reduceCtorEq,seval,o4,Ev.row],by simp only [stB,reduceIte,reduceCtorEq,seval,o7,Ev.row]⟩
 | false =>
 have n5:=beq_eq_false_iff_ne.1 k5
 cases k6:(chosen e == 6) with
 | true =>
   have hL:s.cands e g=_:=rfl
   conv at hL=>rhs;unfold RSt.cands
   have q:=beq_iff_eq.1 k6;simp only [↓evP,evB,stB,reduceIte,reduceCtorEq,seval,h2,h3,h4,h7,h8,h9,g3,g4,g7,o3,o4,o7,k1,k2,k10,k11];unfold pch74c14;simp only [↓evP,evB,stB,reduceIte,reduceCtorEq,seval,h2,h3,h4,h7,h8,h9,g3,g4,g7,o3,o4,o7,k3,k4,k5];unfold pch74c13;simp only [↓evP,evB,stB,reduceIte,reduceCtorEq,seval,h2,h3,h4,h7,h8,h9,g3,g4,g7,o3,o4,o7,k6];dsimp only at hL;rw [if_neg (by omega),if_neg (by omega),if_pos (by omega)] at hL;rw [hL] at hQ
   exact try_c8 (s:=s) (e:=e) (g:=g) (x:=baseE e g) Q hQ _ ⟨by simp only [stB,reduceIte,reduceCtorEq,seval,h2],by simp only [stB,reduceIte,reduceCtorEq,seval,h3],by simp only [stB,reduceIte,reduceCtorEq,seval,h4],by simp only [stB,reduceIte,reduceCtorEq,seval,h7],by simp only [stB,reduceIte,reduceCtorEq,seval,h8],by simp only [stB,reduceIte,reduceCtorEq,seval,h9],by simp only [stB,reduceIte,reduceCtorEq,seval,g3],by simp only [stB,reduceIte,reduceCtorEq,seval,g4],by simp only [stB,reduceIte,reduceCtorEq,seval,g7],by simp only [stB,reduceIte,reduceCtorEq,seval,o3,RSt.row],by simp only [stB,reduceIte,reduceCtorEq,seval,o4,Ev.row],by simp only [stB,reduceIte,reduceCtorEq,seval,o7,Ev.row]⟩
 | false =>
 have n6:=beq_eq_false_iff_ne.1 k6
 cases k7:(chosen e == 7) with
 | true =>
   have hL:s.cands e g=_:=rfl
   conv at hL=>rhs;unfold RSt.cands
   have q:=beq_iff_eq.1 k7;simp only [↓evP,evB,stB,reduceIte,reduceCtorEq,seval,h2,h3,h4,h7,h8,h9,g3,g4,g7,o3,o4,o7,k1,k2,k10,k11];unfold pch74c14;simp only [↓evP,evB,stB,reduceIte,reduceCtorEq,seval,h2,h3,h4,h7,h8,h9,g3,g4,g7,o3,o4,o7,k3,k4,k5];unfold pch74c13;simp only [↓evP,evB,stB,reduceIte,reduceCtorEq,seval,h2,h3,h4,h7,h8,h9,g3,g4,g7,o3,o4,o7,k6,k7];dsimp only at hL;rw [if_neg (by omega),if_neg (by omega),if_pos (by omega)] at hL;rw [hL] at hQ
   exact try_c8 (s:=s) (e:=e) (g:=g) (x:=baseE e g) Q hQ _ ⟨by simp only [stB,reduceIte,reduceCtorEq,seval,h2],by simp only [stB,reduceIte,reduceCtorEq,seval,h3],by simp only [stB,reduceIte,reduceCtorEq,seval,h4],by simp only [stB,reduceIte,reduceCtorEq,seval,h7],by simp only [stB,reduceIte,reduceCtorEq,seval,h8],by simp only [stB,reduceIte,reduceCtorEq,seval,h9],by simp only [stB,reduceIte,reduceCtorEq,seval,g3],by simp only [stB,reduceIte,reduceCtorEq,seval,g4],by simp only [stB,reduceIte,reduceCtorEq,seval,g7],by simp only [stB,reduceIte,reduceCtorEq,seval,o3,RSt.row],by simp only [stB,reduceIte,reduceCtorEq,seval,o4,Ev.row],by simp only [stB,reduceIte,reduceCtorEq,seval,o7,Ev.row]⟩
 | false =>
 have n7:=beq_eq_false_iff_ne.1 k7
 cases k8:(chosen e == 8) with
 | true =>
   have hL:s.cands e g=_:=rfl
   conv at hL=>rhs;unfold RSt.cands
   have q:=beq_iff_eq.1 k8;simp only [↓evP,evB,stB,reduceIte,reduceCtorEq,seval,h2,h3,h4,h7,h8,h9,g3,g4,g7,o3,o4,o7,k1,k2,k10,k11];unfold pch74c14;simp only [↓evP,evB,stB,reduceIte,reduceCtorEq,seval,h2,h3,h4,h7,h8,h9,g3,g4,g7,o3,o4,o7,k3,k4,k5];unfold pch74c13;simp only [↓evP,evB,stB,reduceIte,reduceCtorEq,seval,h2,h3,h4,h7,h8,h9,g3,g4,g7,o3,o4,o7,k6,k7,k8];dsimp only at hL;rw [if_neg (by omega),if_neg (by omega),if_pos (by omega)] at hL;rw [hL] at hQ
   exact try_c8 (s:=s) (e:=e) (g:=g) (x:=baseE e g) Q hQ _ ⟨by simp only [stB,reduceIte,reduceCtorEq,seval,h2],by simp only [stB,reduceIte,reduceCtorEq,seval,h3],by simp only [stB,reduceIte,reduceCtorEq,seval,h4],by simp only [stB,reduceIte,reduceCtorEq,seval,h7],by simp only [stB,reduceIte,reduceCtorEq,seval,h8],by simp only [stB,reduceIte,reduceCtorEq,seval,h9],by simp only [stB,reduceIte,reduceCtorEq,seval,g3],by simp only [stB,reduceIte,reduceCtorEq,seval,g4],by simp only [stB,reduceIte,reduceCtorEq,seval,g7],by simp only [stB,reduceIte,reduceCtorEq,seval,o3,RSt.row],by simp only [stB,reduceIte,reduceCtorEq,seval,o4,Ev.row],by simp only [stB,reduceIte,reduceCtorEq,seval,o7,Ev.row]⟩
 | false =>
 have n8:=beq_eq_false_iff_ne.1 k8
 cases k9:(chosen e == 9) with
 | true =>
   have hL:s.cands e g=_:=rfl
   conv at hL=>rhs;unfold RSt.cands
   have q:=beq_iff_eq.1 k9;simp only [↓evP,evB,stB,reduceIte,reduceCtorEq,seval,h2,h3,h4,h7,h8,h9,g3,g4,g7,o3,o4,o7,k1,k2,k10,k11];unfold pch74c14;simp only [↓evP,evB,stB,reduceIte,reduceCtorEq,seval,h2,h3,h4,h7,h8,h9,g3,g4,g7,o3,o4,o7,k3,k4,k5];unfold pch74c13;simp only [↓evP,evB,stB,reduceIte,reduceCtorEq,seval,h2,h3,h4,h7,h8,h9,g3,g4,g7,o3,o4,o7,k6,k7,k8,k9];dsimp only at hL;rw [if_neg (by omega),if_neg (by omega),if_pos (by omega)] at hL;rw [hL] at hQ
   exact try_c8 (s:=s) (e:=e) (g:=g) (x:=baseE e g) Q hQ _ ⟨by simp only [stB,reduceIte,reduceCtorEq,seval,h2],by simp only [stB,reduceIte,reduceCtorEq,seval,h3],by simp only [stB,reduceIte,reduceCtorEq,seval,h4],by simp only [stB,reduceIte,reduceCtorEq,seval,h7],by simp only [stB,reduceIte,reduceCtorEq,seval,h8],by simp only [stB,reduceIte,reduceCtorEq,seval,h9],by simp only [stB,reduceIte,reduceCtorEq,seval,g3],by simp only [stB,reduceIte,reduceCtorEq,seval,g4],by simp only [stB,reduceIte,reduceCtorEq,seval,g7],by simp only [stB,reduceIte,reduceCtorEq,seval,o3,RSt.row],by simp only [stB,reduceIte,reduceCtorEq,seval,o4,Ev.row],by simp only [stB,reduceIte,reduceCtorEq,seval,o7,Ev.row]⟩
 | false =>
 have n9:=beq_eq_false_iff_ne.1 k9
 cases k12:(chosen e == 12) with
 | true =>
   have hL:s.cands e g=_:=rfl
   conv at hL=>rhs;unfold RSt.cands
   have q:=beq_iff_eq.1 k12;simp only [↓evP,evB,stB,reduceIte,reduceCtorEq,seval,h2,h3,h4,h7,h8,h9,g3,g4,g7,o3,o4,o7,k1,k2,k10,k11];unfold pch74c14;simp only [↓evP,evB,stB,reduceIte,reduceCtorEq,seval,h2,h3,h4,h7,h8,h9,g3,g4,g7,o3,o4,o7,k3,k4,k5];unfold pch74c13;simp only [↓evP,evB,stB,reduceIte,reduceCtorEq,seval,h2,h3,h4,h7,h8,h9,g3,g4,g7,o3,o4,o7,k6,k7,k8,k9];unfold pch74c12;simp only [↓evP,evB,stB,reduceIte,reduceCtorEq,seval,h2,h3,h4,h7,h8,h9,g3,g4,g7,o3,o4,o7,k12];dsimp only at hL;rw [if_neg (by omega),if_neg (by omega),if_neg (by omega),if_pos (by omega)] at hL;rw [hL] at hQ
   exact try_c9 (s:=s) (e:=e) (g:=g) (x:=baseE e g) ⟨by omega,by omega⟩ Q hQ _ ⟨by simp only [stB,reduceIte,reduceCtorEq,seval,h2],by simp only [stB,reduceIte,reduceCtorEq,seval,h3],by simp only [stB,reduceIte,reduceCtorEq,seval,h4],by simp only [stB,reduceIte,reduceCtorEq,seval,h7],by simp only [stB,reduceIte,reduceCtorEq,seval,h8],by simp only [stB,reduceIte,reduceCtorEq,seval,h9],by simp only [stB,reduceIte,reduceCtorEq,seval,g3],by simp only [stB,reduceIte,reduceCtorEq,seval,g4],by simp only [stB,reduceIte,reduceCtorEq,seval,g7],by simp only [stB,reduceIte,reduceCtorEq,seval,o3,RSt.row],by simp only [stB,reduceIte,reduceCtorEq,seval,o4,Ev.row],by simp only [stB,reduceIte,reduceCtorEq,seval,o7,Ev.row]⟩
 | false =>
 have n12:=beq_eq_false_iff_ne.1 k12
 cases k13:(chosen e == 13) with
 | true =>
   have hL:s.cands e g=_:=rfl
   conv at hL=>rhs;unfold RSt.cands
   have q:=beq_iff_eq.1 k13;simp only [↓evP,evB,stB,reduceIte,reduceCtorEq,seval,h2,h3,h4,h7,h8,h9,g3,g4,g7,o3,o4,o7,k1,k2,k10,k11];unfold pch74c14;simp only [↓evP,evB,stB,reduceIte,reduceCtorEq,seval,h2,h3,h4,h7,h8,h9,g3,g4,g7,o3,o4,o7,k3,k4,k5];unfold pch74c13;simp only [↓evP,evB,stB,reduceIte,reduceCtorEq,seval,h2,h3,h4,h7,h8,h9,g3,g4,g7,o3,o4,o7,k6,k7,k8,k9];unfold pch74c12;simp only [↓evP,evB,stB,reduceIte,reduceCtorEq,seval,h2,h3,h4,h7,h8,h9,g3,g4,g7,o3,o4,o7,k12,k13];dsimp only at hL;rw [if_neg (by omega),if_neg (by omega),if_neg (by omega),if_pos (by omega)] at hL;rw [hL] at hQ
   exact try_c9 (s:=s) (e:=e) (g:=g) (x:=baseE e g) ⟨by omega,by omega⟩ Q hQ _ ⟨by simp only [stB,reduceIte,reduceCtorEq,seval,h2],by simp only [stB,reduceIte,reduceCtorEq,seval,h3],by simp only [stB,reduceIte,reduceCtorEq,seval,h4],by simp only [stB,reduceIte,reduceCtorEq,seval,h7],by simp only [stB,reduceIte,reduceCtorEq,seval,h8],by simp only [stB,reduceIte,reduceCtorEq,seval,h9],by simp only [stB,reduceIte,reduceCtorEq,seval,g3],by simp only [stB,reduceIte,reduceCtorEq,seval,g4],by simp only [stB,reduceIte,reduceCtorEq,seval,g7],by simp only [stB,reduceIte,reduceCtorEq,seval,o3,RSt.row],by simp only [stB,reduceIte,reduceCtorEq,seval,o4,Ev.row],by simp only [stB,reduceIte,reduceCtorEq,seval,o7,Ev.row]⟩
 | false =>
 have n13:=beq_eq_false_iff_ne.1 k13
 cases k14:(chosen e == 14) with
 | true =>
   have hL:s.cands e g=_:=rfl
   conv at hL=>rhs;unfold RSt.cands
   have q:=beq_iff_eq.1 k14;simp only [↓evP,evB,stB,reduceIte,reduceCtorEq,seval,h2,h3,h4,h7,h8,h9,g3,g4,g7,o3,o4,o7,k1,k2,k10,k11];unfold pch74c14;simp only [↓evP,evB,stB,reduceIte,reduceCtorEq,seval,h2,h3,h4,h7,h8,h9,g3,g4,g7,o3,o4,o7,k3,k4,k5];unfold pch74c13;simp only [↓evP,evB,stB,reduceIte,reduceCtorEq,seval,h2,h3,h4,h7,h8,h9,g3,g4,g7,o3,o4,o7,k6,k7,k8,k9];unfold pch74c12;simp only [↓evP,evB,stB,reduceIte,reduceCtorEq,seval,h2,h3,h4,h7,h8,h9,g3,g4,g7,o3,o4,o7,k12,k13];unfold pch74c11;simp only [↓evP,evB,stB,reduceIte,reduceCtorEq,seval,h2,h3,h4,h7,h8,h9,g3,g4,g7,o3,o4,o7,k14];unfold pch74c10;simp only [↓evP,evB,stB,reduceIte,reduceCtorEq,seval,h2,h3,h4,h7,h8,h9,g3,g4,g7,o3,o4,o7];dsimp only at hL;rw [if_neg (by omega),if_neg (by omega),if_neg (by omega),if_neg (by omega),if_pos (by omega)] at hL;rw [hL] at hQ
   refine callOps_intro [evsPa (oneE { baseE e g with k:=s.gor } 14 0 0)] ⟨{ baseE e g with k:=s.gor },_,_,_,rfl,rfl⟩ ?_;simp only [evsPa,evsD,oneE,Ev.row,List.map_cons,List.map_nil];simp only [↓evP,evB,stB,reduceIte,reduceCtorEq,seval,h2,h3,h4,h7,h8,h9,g3,g4,g7,o3,o4,o7];refine hQ _ ?_;simp only [stB,reduceIte,reduceCtorEq,seval,prh74,g3,g4,g7,o3,o4,o7,candsPa,evsD,oneE,partE,Ev.row,List.map_cons,List.map_nil]
 | false =>
   have n14:=beq_eq_false_iff_ne.1 k14
   have hL:s.cands e g=s.candsT e g:=by
    unfold RSt.cands RSt.candsT;dsimp only;rw [if_neg (by omega),if_neg (by omega),if_neg (by omega),if_neg (by omega),if_neg (by omega)]
   rw [hL] at hQ;simp only [↓evP,evB,stB,reduceIte,reduceCtorEq,seval,h2,h3,h4,h7,h8,h9,g3,g4,g7,o3,o4,o7,k1,k2,k10,k11];unfold pch74c14;simp only [↓evP,evB,stB,reduceIte,reduceCtorEq,seval,h2,h3,h4,h7,h8,h9,g3,g4,g7,o3,o4,o7,k3,k4,k5];unfold pch74c13;simp only [↓evP,evB,stB,reduceIte,reduceCtorEq,seval,h2,h3,h4,h7,h8,h9,g3,g4,g7,o3,o4,o7,k6,k7,k8,k9];unfold pch74c12;simp only [↓evP,evB,stB,reduceIte,reduceCtorEq,seval,h2,h3,h4,h7,h8,h9,g3,g4,g7,o3,o4,o7,k12,k13];unfold pch74c11;simp only [↓evP,evB,stB,reduceIte,reduceCtorEq,seval,h2,h3,h4,h7,h8,h9,g3,g4,g7,o3,o4,o7,k14]
   exact try_c5 hl ⟨hs1,hs2⟩ ⟨hg1,hg2⟩ Q hQ _ ⟨by simp only [stB,reduceIte,reduceCtorEq,seval,h2],by simp only [stB,reduceIte,reduceCtorEq,seval,h3],by simp only [stB,reduceIte,reduceCtorEq,seval,h4],by simp only [stB,reduceIte,reduceCtorEq,seval,h7],by simp only [stB,reduceIte,reduceCtorEq,seval,h8],by simp only [stB,reduceIte,reduceCtorEq,seval,h9],by simp only [stB,reduceIte,reduceCtorEq,seval,g3],by simp only [stB,reduceIte,reduceCtorEq,seval,g4],by simp only [stB,reduceIte,reduceCtorEq,seval,g7],by simp only [stB,reduceIte,reduceCtorEq,seval,o3,RSt.row],by simp only [stB,reduceIte,reduceCtorEq,seval,o4,Ev.row],by simp only [stB,reduceIte,reduceCtorEq,seval,o7,Ev.row]⟩ (by simp only [stB,reduceIte,reduceCtorEq,seval,g12]) (by simp only [stB,reduceIte,reduceCtorEq,seval,g13])
theorem wrL {k:Nat} (h:k≤9223372036854775806):IntKind.i64.wrap ((k:Int)+1)=((k+1:Nat):Int):=by
 rw [wr64 (by omega) (by omega)];omega
def R_adds (ps rs:List Pa):Prop:=∃ (s:RSt) (c:List Ev),ps=[s.pa,evsPa c]∧((∃ out,Mid s out)∧c.length≤1000000)∧rs=[(s.adds c).1.pa,pB (s.adds c).2]
def env_adds:Env:=e1 22 R_Add e0
theorem s_adds:Spec Try.prog 76 R_adds:=by
 refine sp76 (show EnvOK Try.prog env_adds from EnvOK.e1 s_Add EnvOK.e0) ?_;rintro ps rs ⟨s,c,rfl,⟨⟨out,hm⟩,hlen⟩,rfl⟩;refine ⟨by simp,?_⟩;unfold pc76;refine pwp_start ?_;simp only [↓evP,evB,stB,reduceIte,reduceCtorEq,Nat.reduceEqDiff,Nat.reduceAdd,Nat.reduceMul,Nat.reduceLeDiff,Nat.reduceLT,Nat.reduceSub,Nat.reduceBEq,evsPa,evsD,RSt.pa,RSt.row];refine pwp_loopW ms76_0 os76_0 (fun m st=>∃ k:Nat,∃ r out',m=c.length - k∧k≤c.length∧Mid r out'∧s.adds c=r.adds (c.drop k)∧st.sl 6=aI k∧st.gen 2=1∧st.ob 2=.cells (r.row.map .d)∧st.gen 4=1∧st.ob 4=.cells [.d (dI 0),.d (dI 0),.d (.sc (.slice none 0 0)),.d (.sc (.slice none 0 0)),.d (.sc (.slice none 0 0)),.d (.sc (.slice none 0 0)),.d (dI 0),.d (dI 0),.d (dI 0)]) c.length ?_ ?_
 ·exact ⟨0,s,out,rfl,Nat.zero_le _,hm,rfl,by simp only [stB,reduceIte,reduceCtorEq,Nat.reduceEqDiff,Nat.reduceAdd,Nat.reduceMul,Nat.reduceLeDiff,Nat.reduceLT,Nat.reduceSub,Nat.reduceBEq];rfl,by simp only [stB,reduceIte,reduceCtorEq,Nat.reduceEqDiff,Nat.reduceAdd,Nat.reduceMul,Nat.reduceLeDiff,Nat.reduceLT,Nat.reduceSub,Nat.reduceBEq],by simp only [stB,reduceIte,reduceCtorEq,Nat.reduceEqDiff,Nat.reduceAdd,Nat.reduceMul,Nat.reduceLeDiff,Nat.reduceLT,Nat.reduceSub,Nat.reduceBEq,RSt.row],by simp only [stB,reduceIte,reduceCtorEq,Nat.reduceEqDiff,Nat.reduceAdd,Nat.reduceMul,Nat.reduceLeDiff,Nat.reduceLT,Nat.reduceSub,Nat.reduceBEq],by simp only [stB,reduceIte,reduceCtorEq,Nat.reduceEqDiff,Nat.reduceAdd,Nat.reduceMul,Nat.reduceLeDiff,Nat.reduceLT,Nat.reduceSub,Nat.reduceBEq]⟩
 ·rintro m j ⟨k,r,out',rfl,hk,hmr,hse,h6,g2,o2,g4,o4⟩;simp only [stB,reduceIte,reduceCtorEq,seval,RSt.row] at h6 g2 o2 g4 o4
  rcases Nat.lt_or_ge k c.length with hlt | hge
  ·obtain ⟨e,he⟩:∃ e,c[k]? = some e:=⟨_,List.getElem?_eq_getElem hlt⟩
   have hd:c.drop k=e :: c.drop (k+1):=by rw [List.drop_eq_getElem_cons hlt];congr 1;rw [List.getElem?_eq_getElem hlt] at he;exact Option.some.inj he
   have hlt':(k:Int) < (c.length:Int):=by omega
   simp only [↓evP,evB,stB,reduceIte,reduceCtorEq,seval,h6,g2,o2,g4,o4,he,hlt',Ev.row];refine callD_intro [(r.addR e).1.pa,pB (r.addR e).2] ⟨r,e,rfl,hmr.ok,rfl⟩ ?_
   cases hb:(r.addR e).2 with
   | true =>
     simp only [↓evP,evB,stB,reduceIte,reduceCtorEq,seval,h6,g2,o2,g4,o4,RSt.pa,RSt.row];refine ⟨(by unfold Drw;kernel_rfl),?_⟩
     exact ⟨_,by omega,(by repeat' (first | assumption | exact within_over.mpr trivial | exact Within.refl _ _ _ | (refine within_ap ?_ rfl rfl) | (refine within_ap0 ?_ rfl))),k+1,(r.addR e).1,out' ++ [e],rfl,hlt,hmr.step hb,by rw [hse,hd,RSt.adds,if_pos hb],by simp only [stB,reduceIte,reduceCtorEq,seval,h6];rw [wrN (by omega)],by simp only [stB,reduceIte,reduceCtorEq,seval,g2],by simp only [stB,reduceIte,reduceCtorEq,seval,o2,RSt.row],by simp only [stB,reduceIte,reduceCtorEq,seval,g4],by simp only [stB,reduceIte,reduceCtorEq,seval,o4]⟩
   | false =>
     simp only [↓evP,evB,stB,reduceIte,reduceCtorEq,seval,h6,g2,o2,g4,o4,RSt.pa,RSt.row,pr76];refine ⟨(by unfold Drw;kernel_rfl),?_⟩
     rw [hse,hd,RSt.adds,if_neg (by rw [hb];decide)]
  ·have hkl:k=c.length:=by omega
   subst hkl;rw [List.drop_length] at hse;have hlt':¬ (c.length:Int) < (c.length:Int):=by omega
   simp only [↓evP,evB,stB,reduceIte,reduceCtorEq,seval,h6,g2,o2,g4,o4,hlt',pr76];refine ⟨(by unfold Drw;kernel_rfl),?_⟩
   rw [hse];rfl
def R_repair (ps rs:List Pa):Prop:=∃ raw:List Ev,ps=[evsPa raw]∧raw.length≤9223372036854775807∧rs=[evsPa (repairL raw)]
def env_repair:Env:=e1 20 R_rnew (e1 75 R_mod (e1 74 R_try (e1 76 R_adds e0)))
theorem env_repair_ok:EnvOK Try.prog env_repair:=EnvOK.e1 s_rnew (EnvOK.e1 s_mod (EnvOK.e1 s_try (EnvOK.e1 s_adds EnvOK.e0)))
theorem s_repair:Spec Try.prog 31 R_repair:=by
 refine sp31 env_repair_ok ?_;rintro ps rs ⟨raw,rfl,hlen,rfl⟩;refine ⟨by simp,?_⟩;unfold pc31;refine pwp_start ?_;simp only [↓evP,evB,stB,reduceIte,reduceCtorEq,seval,evsPa,evsD];refine callOps_intro [RSt.new.pa] ⟨rfl,rfl⟩ ?_;simp only [↓evP,evB,stB,reduceIte,reduceCtorEq,Nat.reduceEqDiff,Nat.reduceAdd,Nat.reduceMul,Nat.reduceLeDiff,Nat.reduceLT,Nat.reduceSub,Nat.reduceBEq,RSt.pa,RSt.row];refine pwp_loopW ms31_0 os31_0 (fun m st=>∃ k:Nat,∃ s out,m=raw.length - k∧k≤raw.length∧Whl s out∧out.length≤80∧repairL raw=s.rep out (raw.drop k)∧st.sl 5=aI k∧st.gen 3=1∧st.ob 3=.cells (s.row.map .d)∧st.gen 4=1∧st.sl 4=.b (.one (.own 4 1 (out.map Ev.row)))∧st.ob 4=.row 34 9 out.length) raw.length ?_ ?_
 ·exact ⟨0,RSt.new,[],rfl,Nat.zero_le _,Whl.new,by decide,rfl,by simp only [stB,reduceIte,reduceCtorEq,Nat.reduceEqDiff,Nat.reduceAdd,Nat.reduceMul,Nat.reduceLeDiff,Nat.reduceLT,Nat.reduceSub,Nat.reduceBEq];rfl,by simp only [stB,reduceIte,reduceCtorEq,Nat.reduceEqDiff,Nat.reduceAdd,Nat.reduceMul,Nat.reduceLeDiff,Nat.reduceLT,Nat.reduceSub,Nat.reduceBEq],by simp only [stB,reduceIte,reduceCtorEq,Nat.reduceEqDiff,Nat.reduceAdd,Nat.reduceMul,Nat.reduceLeDiff,Nat.reduceLT,Nat.reduceSub,Nat.reduceBEq,RSt.row],by simp only [stB,reduceIte,reduceCtorEq,Nat.reduceEqDiff,Nat.reduceAdd,Nat.reduceMul,Nat.reduceLeDiff,Nat.reduceLT,Nat.reduceSub,Nat.reduceBEq],by simp only [stB,reduceIte,reduceCtorEq,Nat.reduceEqDiff,Nat.reduceAdd,Nat.reduceMul,Nat.reduceLeDiff,Nat.reduceLT,Nat.reduceSub,Nat.reduceBEq],by simp only [stB,reduceIte,reduceCtorEq,Nat.reduceEqDiff,Nat.reduceAdd,Nat.reduceMul,Nat.reduceLeDiff,Nat.reduceLT,Nat.reduceSub,Nat.reduceBEq]⟩
 ·rintro m j ⟨k,s,out,rfl,hk,hwl,hol,hrep,h5,g3,o3,g4,h4,o4⟩;simp only [stB,reduceIte,reduceCtorEq,seval,RSt.row] at h5 g3 o3 g4 h4 o4
  rcases Nat.lt_or_ge k raw.length with hlt | hge
  ·obtain ⟨e,he⟩:∃ e,raw[k]? = some e:=⟨_,List.getElem?_eq_getElem hlt⟩
   have hd:raw.drop k=e :: raw.drop (k+1):=by rw [List.drop_eq_getElem_cons hlt];congr 1;rw [List.getElem?_eq_getElem hlt] at he;exact Option.some.inj he
   have hlt':(k:Int) < (raw.length:Int):=by omega
   by_cases ho:out.length < 76
   ·have ho':(out.length:Int) < 76:=by omega
    have hgor:=hwl.gor;have hgb:=gmod_bd e.g (n:=s.gor) (by omega);simp only [↓evP,evB,stB,reduceIte,reduceCtorEq,seval,h5,g3,o3,g4,h4,o4,he,hlt',ho',decide_true,decide_false,Ev.row];refine callD_intro [pI (gmod e.g s.gor)] ⟨_,_,rfl,⟨by omega,by omega⟩,rfl⟩ ?_;simp only [↓evP,evB,stB,reduceIte,reduceCtorEq,seval,h5,g3,o3,g4,h4,o4,he];refine callD_intro [candsPa (s.cands e (gmod e.g s.gor))] ⟨s,e,_,rfl,⟨by have:=hwl.ok.ch.1;omega,by omega,by omega,by omega,by omega⟩,rfl⟩ ?_
    have hcl:=s.cands_le e (gmod e.g s.gor);have hstep:s.rep out (raw.drop k)=(s.take1 out (s.cands e (gmod e.g s.gor))).1.rep (s.take1 out (s.cands e (gmod e.g s.gor))).2 (raw.drop (k+1)):=by rw [hd,RSt.rep,if_pos ho]
    have hwt:=hwl.take1 (s.cands e (gmod e.g s.gor)) hcl.2;generalize hL:s.cands e (gmod e.g s.gor)=L at *;simp only [↓evP,evB,stB,reduceIte,reduceCtorEq,Nat.reduceEqDiff,Nat.reduceAdd,Nat.reduceMul,Nat.reduceLeDiff,Nat.reduceLT,Nat.reduceSub,Nat.reduceBEq,h5,g3,o3,g4,h4,o4,candsPa];refine ⟨(by unfold Drw;kernel_rfl),?_⟩
    refine pwp_loopW ms31_1 os31_1 (fun m st=>∃ q:Nat,m=L.length - q∧q≤L.length∧s.take1 out L=s.take1 out (L.drop q)∧st.sl 7=aI q∧st.gen 3=1∧st.ob 3=.cells (s.row.map .d)∧st.gen 4=1∧st.sl 4=.b (.one (.own 4 1 (out.map Ev.row)))∧st.ob 4=.row 34 9 out.length) L.length ?_ ?_
    ·exact ⟨0,rfl,Nat.zero_le _,rfl,by simp only [stB,reduceIte,reduceCtorEq,Nat.reduceEqDiff,Nat.reduceAdd,Nat.reduceMul,Nat.reduceLeDiff,Nat.reduceLT,Nat.reduceSub,Nat.reduceBEq];rfl,by simp only [stB,reduceIte,reduceCtorEq,Nat.reduceEqDiff,Nat.reduceAdd,Nat.reduceMul,Nat.reduceLeDiff,Nat.reduceLT,Nat.reduceSub,Nat.reduceBEq,g3],by simp only [stB,reduceIte,reduceCtorEq,Nat.reduceEqDiff,Nat.reduceAdd,Nat.reduceMul,Nat.reduceLeDiff,Nat.reduceLT,Nat.reduceSub,Nat.reduceBEq,o3,RSt.row],by simp only [stB,reduceIte,reduceCtorEq,Nat.reduceEqDiff,Nat.reduceAdd,Nat.reduceMul,Nat.reduceLeDiff,Nat.reduceLT,Nat.reduceSub,Nat.reduceBEq,g4],by simp only [stB,reduceIte,reduceCtorEq,Nat.reduceEqDiff,Nat.reduceAdd,Nat.reduceMul,Nat.reduceLeDiff,Nat.reduceLT,Nat.reduceSub,Nat.reduceBEq,h4],by simp only [stB,reduceIte,reduceCtorEq,Nat.reduceEqDiff,Nat.reduceAdd,Nat.reduceMul,Nat.reduceLeDiff,Nat.reduceLT,Nat.reduceSub,Nat.reduceBEq,o4]⟩
    ·rintro m2 j2 ⟨q,rfl,hq,hte,h7,g3',o3',g4',h4',o4'⟩;simp only [stB,reduceIte,reduceCtorEq,seval,RSt.row] at h7 g3' o3' g4' h4' o4'
     rcases Nat.lt_or_ge q L.length with hqlt | hqge
     ·obtain ⟨c,hc⟩:∃ c,L[q]? = some c:=⟨_,List.getElem?_eq_getElem hqlt⟩
      have hqd:L.drop q=c :: L.drop (q+1):=by rw [List.drop_eq_getElem_cons hqlt];congr 1;rw [List.getElem?_eq_getElem hqlt] at hc;exact Option.some.inj hc
      have hcl4:=hcl.2 c (List.mem_of_getElem? hc);have hqlt':(q:Int) < (L.length:Int):=by omega
      simp only [↓evP,evB,stB,reduceIte,reduceCtorEq,seval,h5,h7,g3',o3',g4',h4',o4',hc,hqlt',evsD];refine callD_intro [(s.adds c).1.pa,pB (s.adds c).2] ⟨s,c,rfl,⟨⟨out,⟨hwl.st⟩⟩,by omega⟩,rfl⟩ ?_
      cases hb:(s.adds c).2 with
      | true =>
        have hL1:(out.map Ev.row).length+(c.map Ev.row).length≤1000000:=by rw [List.length_map,List.length_map];omega
        have hL2:out.length+c.length≤1000000:=by omega
        simp only [↓evP,evB,stB,reduceIte,reduceCtorEq,seval,h5,h7,g3',o3',g4',h4',o4',hc,RSt.pa,RSt.row,rows_len (f:=Ev.row) (n:=9) (fun _=>rfl) c,hL1,hL2];have ht1:s.take1 out L=((s.adds c).1,out ++ c):=by rw [hte,hqd,RSt.take1,if_pos hb]
        rw [ht1] at hwt hstep;refine ⟨(by unfold Drw;kernel_rfl),?_⟩
        exact ⟨_,by omega,(by repeat' (first | assumption | exact within_over.mpr trivial | (refine within_ap ?_ rfl rfl) | (refine within_ap0 ?_ rfl) | refine within_in ?_ (by decide) (by decide))),k+1,(s.adds c).1,out ++ c,rfl,hlt,hwt.1,by rw [List.length_append];omega,by rw [hrep,hstep],by simp only [stB,reduceIte,reduceCtorEq,seval,h5];rw [wrL (by omega)],by simp only [stB,reduceIte,reduceCtorEq,seval,g3'],by simp only [stB,reduceIte,reduceCtorEq,seval,o3',RSt.row],by simp only [stB,reduceIte,reduceCtorEq,seval,g4'],by simp only [stB,reduceIte,reduceCtorEq,seval,h4',List.map_append],by simp only [stB,reduceIte,reduceCtorEq,seval,o4',List.length_append,List.length_map]⟩
      | false =>
        simp only [↓evP,evB,stB,reduceIte,reduceCtorEq,seval,h5,h7,g3',o3',g4',h4',o4',RSt.pa,RSt.row];refine ⟨(by unfold Drw;kernel_rfl),?_⟩
        exact ⟨_,by omega,(by repeat' (first | assumption | exact within_over.mpr trivial | exact Within.refl _ _ _ | (refine within_ap ?_ rfl rfl) | (refine within_ap0 ?_ rfl))),q+1,rfl,hqlt,by rw [hte,hqd,RSt.take1,if_neg (by rw [hb];decide)],by simp only [stB,reduceIte,reduceCtorEq,seval,h7];rw [wrN (by omega)],by simp only [stB,reduceIte,reduceCtorEq,seval,g3'],by simp only [stB,reduceIte,reduceCtorEq,seval,o3',RSt.row],by simp only [stB,reduceIte,reduceCtorEq,seval,g4'],by simp only [stB,reduceIte,reduceCtorEq,seval,h4'],by simp only [stB,reduceIte,reduceCtorEq,seval,o4']⟩
     ·have hql:q=L.length:=by omega
      subst hql;have hqlt':¬ (L.length:Int) < (L.length:Int):=by omega
      rw [List.drop_length] at hte;simp only [↓evP,evB,stB,reduceIte,reduceCtorEq,seval,h5,h7,g3',o3',g4',h4',o4',hqlt'];have ht1:s.take1 out L=(s,out):=by rw [hte];rfl
      rw [ht1] at hwt hstep
      exact ⟨_,by omega,(by repeat' (first | assumption | exact within_over.mpr trivial | (refine within_ap ?_ rfl rfl) | (refine within_ap0 ?_ rfl) | refine within_in ?_ (by decide) (by decide))),k+1,s,out,rfl,hlt,hwl,hol,by rw [hrep,hstep],by simp only [stB,reduceIte,reduceCtorEq,seval,h5];rw [wrL (by omega)],by simp only [stB,reduceIte,reduceCtorEq,seval,g3'],by simp only [stB,reduceIte,reduceCtorEq,seval,o3',RSt.row],by simp only [stB,reduceIte,reduceCtorEq,seval,g4'],by simp only [stB,reduceIte,reduceCtorEq,seval,h4'],by simp only [stB,reduceIte,reduceCtorEq,seval,o4']⟩
   ·have ho':¬ (out.length:Int) < 76:=by omega
    simp only [↓evP,evB,stB,reduceIte,reduceCtorEq,seval,h5,g3,o3,g4,h4,o4,hlt',ho',decide_true,decide_false,pr31];rw [hrep,hd,RSt.rep,if_neg ho]
  ·have hkl:k=raw.length:=by omega
   subst hkl;rw [List.drop_length] at hrep;have hlt':¬ (raw.length:Int) < (raw.length:Int):=by omega
   simp only [↓evP,evB,stB,reduceIte,reduceCtorEq,seval,h5,g3,o3,g4,h4,o4,hlt',pr31];rw [hrep];rfl
def env_bf37:Env:=p1 26 R_awake37 (p1 28 R_play (e1 27 R_rvalid (e1 29 R_Stamps (e1 30 R_same35 (e1 31 R_repair (e1 32 R_rwhole e0))))))
theorem envOK_bf37:EnvOK Try.prog env_bf37:=.p1 s_awake37 (.p1 s_play (.e1 s_rvalid (.e1 s_rStamps (.e1 s_same35 (.e1 s_repair (.e1 s_rwhole .e0))))))
theorem s_sbuf37:SpecP Try.prog 5 R_one37:=by
 refine sql5 envOK_bf37 ?_;rintro hp az Post ⟨raw,rfl,rfl,hmax,rfl⟩;refine ⟨by simp,fun _=>1,?_⟩;obtain ⟨s,hw,hl80⟩:=repair_good raw;have hrc:=hw.chk;unfold pcl5;refine pwp_start ?_;simp only [↓evP,evB,stB,reduceIte,reduceCtorEq,seval,paHw,evsPa,evsD];refine callPS_intro _ (by simp only [stB,reduceIte,reduceCtorEq,seval];exact ⟨0,rfl,Z37_free,rfl⟩) ?_
 rintro hp1 rs1 ⟨⟨D1,N1,hL1⟩,rfl⟩;simp only [↓evP,evB,stB,reduceIte,reduceCtorEq,seval];refine callOps_intro [evsPa (repairL raw)] ⟨raw,rfl,hmax,rfl⟩ ?_;generalize repairL raw=l at *
 by_cases q1:(l.length:Int) > 40
 ·have hall:=rows_len (f:=Ev.row) (n:=9) (fun _=>rfl) l;have h40:(40:Int)≤(l.length:Int):=by omega
  have htk:(l.map Ev.row).take 40=(l.take 40).map Ev.row:=(List.map_take ..).symm;have ht6:(l.take 40).length≤1000000:=by rw [List.length_take];omega
  simp only [↓evP,evB,stB,reduceIte,reduceCtorEq,seval,evsPa,evsD,q1,decide_true,decide_false,hall,h40,htk,Int.le_refl,Int.toNat_zero,Int.reduceLE,Int.reduceToNat];refine callOps_intro [pI (wholeOf (l.take 40))] ⟨l.take 40,rfl,ht6,rfl⟩ ?_;obtain ⟨k,hk⟩:∃ k,wholeOf (l.take 40)=k:=⟨_,rfl⟩
  have hk40:k≤40:=by
   have h1:=TS.wholeTo_le TS.new (l.take 40) (chk (l.take 40));have h2:=TS.chk_le TS.new (l.take 40);have h3:(l.take 40).length≤40:=by rw [List.length_take];omega
   unfold wholeOf at hk;unfold chk at hk h1;omega
  rw [hk];have k0:(0:Int)≤(k:Int):=by omega
  have k1:(k:Int)≤(l.length:Int):=by omega
  have htk2:(l.map Ev.row).take k=(l.take k).map Ev.row:=(List.map_take ..).symm;have hmk:(l.take k).length=k:=by rw [List.length_take];omega
  simp only [↓evP,evB,stB,reduceIte,reduceCtorEq,seval,q1,k0,k1,hall,htk2,Int.le_refl,Int.toNat_zero];obtain ⟨m,hm⟩:∃ m,l.take k=m:=⟨_,rfl⟩
  have hc:chk m=m.length:=by rw [←hm,hmk];unfold chk at hrc ⊢;rw [TS.chk_take,hrc];omega
  rw [hm];have hlen:m.length≤1000:=by rw [←hm,hmk];omega
  have hlen6:m.length≤1000000:=by omega
  refine callPS_intro _ (by simp only [stB,reduceIte,reduceCtorEq,seval];exact ⟨m,N1,rfl,hL1.free,plays_valid hc hlen,rfl⟩) ?_
  intro hp2 rs2 hq;obtain ⟨b,D2,N2,t,hT,⟨e1,e2,e3⟩,hL2,rfl⟩:=played_valid hc hlen hq;simp only [↓evP,evB,stB,reduceIte,reduceCtorEq,seval,q1,hc,decide_true,decide_false];refine callOps_intro [cksPa (stOf m),pI (errOf m)] ⟨m,rfl,hlen6,rfl⟩ ?_;have hs:stOf m=stampsL m:=by unfold stOf;rw [if_pos hc]
  have he1:errOf m=0:=by unfold errOf;rw [if_pos hc]
  have hsl:=stampsL_length m;rw [hs,he1];simp only [↓evP,evB,stB,reduceIte,reduceCtorEq,seval,cksPa,beq_self_eq_true];refine callOps_intro [pB true] ⟨stampsL m,rfl,⟨by omega,fun c hm=>(stampsL_ok m c hm).1⟩,rfl⟩ ?_;simp only [↓evP,evB,stB,reduceIte,reduceCtorEq,seval,prl5];exact ⟨_,_,rfl,fun b=>.inl rfl,rfl⟩
 ·have hlen:l.length≤1000:=by omega
  have hlen6:l.length≤1000000:=by omega
  have hc:=hrc;simp only [↓evP,evB,stB,reduceIte,reduceCtorEq,seval,evsPa,evsD,q1,decide_true,decide_false];refine callPS_intro _ (by simp only [stB,reduceIte,reduceCtorEq,seval];exact ⟨l,N1,rfl,hL1.free,plays_valid hc hlen,rfl⟩) ?_
  intro hp2 rs2 hq;obtain ⟨b,D2,N2,t,hT,⟨e1,e2,e3⟩,hL2,rfl⟩:=played_valid hc hlen hq;simp only [↓evP,evB,stB,reduceIte,reduceCtorEq,seval,q1,hc,decide_true,decide_false];refine callOps_intro [cksPa (stOf l),pI (errOf l)] ⟨l,rfl,hlen6,rfl⟩ ?_;have hs:stOf l=stampsL l:=by unfold stOf;rw [if_pos hc]
  have he1:errOf l=0:=by unfold errOf;rw [if_pos hc]
  have hsl:=stampsL_length l;rw [hs,he1];simp only [↓evP,evB,stB,reduceIte,reduceCtorEq,seval,cksPa,beq_self_eq_true];refine callOps_intro [pB true] ⟨stampsL l,rfl,⟨by omega,fun c hm=>(stampsL_ok l c hm).1⟩,rfl⟩ ?_;simp only [↓evP,evB,stB,reduceIte,reduceCtorEq,seval,prl5];exact ⟨_,_,rfl,fun b=>.inl rfl,rfl⟩
end Go.Proofs.Ytffcpijeebagfaa
end
section
namespace Go.Proofs.Ytffcpijeebagfaa
open Go Go.RowKit Go.WideShapes Go.ChangeShapes Go.Deep
theorem trodAll_below {H:Type} {enc:TypeId×Value→H} {P:Program} (hl:laidOutB P=true) {W W':World} (hb:Below W.heap.size W W') :
 ∀ {ts:List TypeId} {vs:List Value} {ds:List (DataW H)} {ps:List MemPlace},(ts.all fun t=>P.readableRec t && decide (t < P.types.size))=true→DataW.TrodAll enc P W 0 (fun _=>true) true ts vs ds ps→DataW.TrodAll enc P W' 0 (fun b=>decide (b < W.heap.size)) true ts vs ds ps
 | [],vs,ds,ps,_,h=>by obtain ⟨rfl,rfl,rfl⟩:=trodAll_nil h;exact trodAll_mk0
 | t :: ts,vs,ds,ps,ht,h=>by
   obtain ⟨v,vs',d,ds',p,q,rfl,rfl,rfl,h1,h2⟩:=trodAll_cons h;simp only [List.all_cons,Bool.and_eq_true,decide_eq_true_eq] at ht;have lt:∀ x ∈ p,x.block < W.heap.size:=by obtain ⟨m,hm⟩:=h1;exact DataW.trod_lt m _ _ _ hm
   exact trodAll_cons_mk (Below.trod hl ht.1.1 ht.1.2 h1 hb lt) (trodAll_below hl hb (by rw [Bool.eq_iff_iff] at *;simpa using ht.2) h2)
theorem Spec.true [I:WInv] {P:Program} {f:Nat} {R:List Pa→List Pa→Prop} (hs:Spec P f R) {ps:List Pa} (hR:R ps [pB true]) {S:Nat→Nat} {w:World} {vals:Array Value} (hw:I.p w) (hv:RPs S w ps vals) :
 Calls P f vals w fun e w'=>e=.returned (.bool true)∧Below w.heap.size w w':=by
 refine (hs ps _ hR S w vals hw hv).mono ?_;rintro e w' ⟨v,S',rfl,h1,h2,_⟩;exact ⟨by rw [RP.bool h1],h2⟩
end Go.Proofs.Ytffcpijeebagfaa
end
