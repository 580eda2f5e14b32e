/- The writer: Encode up to its loop. -/
import Derived.Test.YtkafcpnahpfbfaaMs5
set_option linter.unusedSimpArgs false
set_option linter.unusedVariables false
section
namespace Go.Proofs.Ytkafcpnahpfbfaa
open Go Go.RowKit
set_option maxRecDepth 1000000
set_option maxHeartbeats 4000000
def siB (s:Int×Int):Bool:=decide (s.1≤2147483647) && decide (s.2≤2147483647)
def evK (d:Dep) (e:Ev):Bool:=e.valid && decide (e.stack < (d.st.length:Int))
theorem Lc (es:List Ev) (d:Dep):wB es d=(sZ d && d.st.all siB && es.all (evK d)):=by
 rw [Bool.eq_iff_iff];constructor
 ·intro h;have hS:dQ es d:=Classical.byContradiction fun q=>by rw [jm q] at h;cases h
  obtain ⟨h1,h2,h3⟩:=hS;rw [qB h1,Bool.true_and,Bool.and_eq_true,List.all_eq_true,List.all_eq_true];refine ⟨fun s hs=>?_,fun e he=>?_⟩
  ·unfold siB;rw [decide_eq_true (h2 s hs).1,decide_eq_true (h2 s hs).2];rfl
  ·unfold evK;rw [(h3 e he).1,decide_eq_true (h3 e he).2];rfl
 ·intro h;rw [Bool.and_eq_true,Bool.and_eq_true,List.all_eq_true,List.all_eq_true] at h;obtain ⟨⟨h1,h2⟩,h3⟩:=h;have hv:d.val:=Classical.byContradiction fun q=>by rw [ou q] at h1;cases h1
  refine nU ⟨hv,fun s hs=>?_,fun e he=>?_⟩
  ·have:=h2 s hs;unfold siB at this;rw [Bool.and_eq_true] at this;exact ⟨of_decide_eq_true this.1,of_decide_eq_true this.2⟩
  ·have:=h3 e he;unfold evK at this;rw [Bool.and_eq_true] at this;exact ⟨this.1,of_decide_eq_true this.2⟩
def slA (es:List Ev) (d:Dep) (x:Nat):Av:=if x=0 then .b (iA es d).bv else .un
noncomputable def jM:Env:=e1 22 LC (e1 23 tJ (e1 24 qp e0))
theorem CR:aA Try.prog jM:=aA.e1 Rz (aA.e1 FJ (aA.e1 xP aA.e0))
def hpA (es:List Ev) (d:Dep):Nat→Hb:=fun b =>
 if b=2 then .cells ((cK es d).map .d) else if b=10 then .cells (vC none :: ev0.row.map .d) else if b=65 then .vec 5 1 (byR bQ) else if b=11 then .cells [.h (.v 65)]
 else if b=12 then .cells [.h (.f 25 [(10,0)] [])] else if b=13 then .cells [hI 0] else .no
structure Po (es:List Ev) (d:Dep) (st:St):Prop where
 s1:st.sl 1=.b (.one (.hv (.p 2 0)))
 s9:st.sl 9=.b (.one (.hv (.p 10 0)))
 s10:st.sl 10=.b (.one (.hv (.p 11 0)))
 s11:st.sl 11=.b (.one (.hv (.p 12 0)))
 s12:st.sl 12=.b (.one (.hv (.p 13 0)))
 hb:st.hb=hpA es d
theorem nM {nc:Nat→Nat} {hp:Nat→Hb} {sl:Nat→Av}:aH (St.kC nc hp sl):=fun c=>by
 show yH (if HBS≤HBS+c then _ else _)=true
 rw [if_pos (Nat.le_add_right _ _)];rfl
def Qc:PC:=match pcw12A with
 | .seq _ (.seq _ r)=>r
 | _=>.skip
def hp1 (es:List Ev) (d:Dep):Nat→Hb:=up (fun _=>.no) 2 (.cells ((cK es d).map .d))
theorem Ak {α:Type} {f:α→Bool} {l:List α} {i:Nat} {x:α} (h:l[i]? = some x):(l.take (i+1)).all f=((l.take i).all f && f x):=by
 rw [take_at h,List.all_append];simp
theorem Nu {Q:Exit→St→Prop} (hno:∀ st:St,(st.sl 2).hw=some (.one (.d (.im [])))→(st.sl 3).hw=some (.one (hI 1))→Q .ret st) {st:St} (s4:st.sl 4=aB false):pwp jM pcw12Ac0 (exS jM [] Q) st:=by
 unfold pcw12Ac0;simp only [↓evP,evB,stB,reduceCtorEq,Nat.reduceEqDiff,s4];exact hno _ (by simp only [stB,Nat.reduceEqDiff];first | done | rfl) (by simp only [stB,Nat.reduceEqDiff];first | done | rfl)
theorem Jm {es:List Ev} {d:Dep} {Q:Exit→St→Prop} (hS:dQ es d) (hyes:dQ es d→∀ st,Po es d st→Q .normal st)
 {st:St} (s1:st.sl 1=.b (.one (.hv (.p 2 0)))) (s4:st.sl 4=aB true) (hb:st.hb=hp1 es d) (inc:st.nc=fun b=>b) (ia:aH st):pwp jM pcw12Ac0 (exS jM [] Q) st:=by
 have n10:hp1 es d 10=.no:=rfl;have n65:hp1 es d 65=.no:=rfl;have n11:hp1 es d 11=.no:=rfl;have n12:hp1 es d 12=.no:=rfl;have n13:hp1 es d 13=.no:=rfl;unfold pcw12Ac0;simp only [↓evP,evB,stB,reduceCtorEq,Nat.reduceEqDiff,s4];refine qI 10 (dU (by simp only [stB,inc]) (by repeat' (first | exact aH.init | assumption | exact aN (by assumption) | (refine aH.ap ?_ rfl))) (by simp only [stB,hb,n10])) ?_;simp only [↓evP,evB,stB];refine AX 65 (dU (by simp only [stB,inc]) (by repeat' (first | exact aH.init | assumption | exact aN (by assumption) | (refine aH.ap ?_ rfl))) (by simp only [stB,Nat.reduceEqDiff,inc,hb,n65])) rfl rfl rfl ?_;simp only [evB,stB,Nat.reduceEqDiff,Nat.reduceAdd,Nat.reduceLT,inc]
 refine qI 11 (dU (by simp only [stB,inc]) (by repeat' (first | exact aH.init | assumption | exact aN (by assumption) | (refine aH.ap ?_ rfl))) (by simp only [stB,Nat.reduceEqDiff,inc,hb,n11])) ?_;simp only [↓evP,evB,stB,Nat.reduceEqDiff,Nat.reduceLeDiff,inc];refine qI 12 (dU (by simp only [stB,inc]) (by repeat' (first | exact aH.init | assumption | exact aN (by assumption) | (refine aH.ap ?_ rfl))) (by simp only [stB,Nat.reduceEqDiff,inc,hb,n12])) ?_;simp only [↓evP,evB,stB,Nat.reduceEqDiff,Nat.reduceLeDiff,inc];refine qI 13 (dU (by simp only [stB,inc]) (by repeat' (first | exact aH.init | assumption | exact aN (by assumption) | (refine aH.ap ?_ rfl))) (by simp only [stB,Nat.reduceEqDiff,inc,hb,n13])) ?_;simp only [↓evP,evB,stB,Nat.reduceEqDiff,Nat.reduceLeDiff,inc]
 refine hyes hS _ ⟨by simp only [stB,Nat.reduceEqDiff,s1],by simp only [stB,Nat.reduceEqDiff],by simp only [stB,Nat.reduceEqDiff],by simp only [stB,Nat.reduceEqDiff],by simp only [stB,Nat.reduceEqDiff],?_⟩
 iterate 8 (rw [mH (by rintro p hp;rw [List.mem_singleton.1 hp];simp only [stB,inc])];try simp only [stB])
 rw [hb]
 funext b
 simp only [yN];unfold hpA
 by_cases b13:b=13
 ·subst b13;rfl
 by_cases b12:b=12
 ·subst b12;rfl
 by_cases b11:b=11
 ·subst b11;rfl
 by_cases b65:b=65
 ·subst b65;rfl
 by_cases b10:b=10
 ·subst b10;rfl
 simp only [b13,b12,b11,b65,b10,if_false]
 first | done | rfl
theorem wQ {es:List Ev} {d:Dep} (hel:es.length≤1000) (hl:d.st.length≤1000000∧d.pr.length≤1000000) {Q:Exit→St→Prop} (hno:¬ dQ es d→∀ st:St,(st.sl 2).hw=some (.one (.d (.im [])))→(st.sl 3).hw=some (.one (hI 1))→Q .ret st) (hyes:dQ es d→∀ st,Po es d st→Q .normal st)
 {st:St} {v:Bool} (hv:sZ d=v) (s1:st.sl 1=.b (.one (.hv (.p 2 0)))) (s4:st.sl 4=aB v) (hb:st.hb=hp1 es d) (inc:st.nc=fun b=>b) (ia:aH st):pwp jM Qc Q st:=by
 have m1:(d.st.map aW).length=d.st.length:=List.length_map ..;have m2:(es.map Ev.row).length=es.length:=List.length_map ..;have hb2:st.hb 2=.cells ((cK es d).map .d):=by rw [hb];exact dK
 simp only [cK,List.map_cons,List.map_nil] at hb2;unfold Qc pcw12A
 with_reducible refine aQ ?_
 simp only [↓evP,evB,stB,Nat.reduceEqDiff,s1,hb2,m1];refine dA msw12A_0 osw12A_0 (fun m t=>∃ i:Nat,m=d.st.length - i∧i≤d.st.length∧t.sl 30=aI i∧t.sl 4=aB (v && (d.st.take i).all siB)∧t.hb=hp1 es d) d.st.length (by repeat' (first | exact aH.init | assumption | exact aN (by assumption) | (refine aH.ap ?_ rfl))) ?_ ?_
 ·exact ⟨0,rfl,Nat.zero_le _,by simp only [stB,Nat.reduceEqDiff];first | done | rfl,by simp only [stB,Nat.reduceEqDiff,s4];first | done | rw [show (d.st.take 0).all siB=true from rfl,Bool.and_true],by simp only [stB,hb]⟩
 rintro m j hjn hja ⟨i,rfl,hi,h30,h4,hjb⟩;simp only [stB,Nat.reduceEqDiff,Nat.reduceBEq,hjn] at h30 h4 hjb
 rcases Nat.lt_or_ge i d.st.length with hlt | hge
 ·have ga:d.st[i]? = some (d.st[i]):=List.getElem?_eq_getElem hlt;generalize d.st[i]=x at ga;have hat:=Ak (f:=siB) ga;have ilt:(i:Int) < (d.st.length:Int):=by omega
  have i0:(0:Int)≤(i:Int):=by omega
  have w3:IntKind.i64.wrap ((i:Int)+1)=((i+1:Nat):Int):=by rw [dP (by omega) (by omega)];omega
  cases hcur:(v && (d.st.take i).all siB) with
  | false =>
    rw [hcur] at h4;simp only [↓evP,evB,stB,reduceCtorEq,Nat.reduceEqDiff,Nat.reduceAdd,Nat.reduceLeDiff,Nat.reduceLT,Nat.reduceBEq,s1,h30,h4,ilt,i0,ga,aW,decide_true]
    exact ⟨_,by omega,(by repeat' (first | assumption | exact aP (by assumption) | (refine aJ ?_ rfl rfl) | (refine aD ?_ rfl) | (refine aJ ?_ rfl aK) | (refine aD ?_ aK))),i+1,rfl,hlt,by simp only [stB,Nat.reduceEqDiff,Nat.reduceBEq,h30,w3],by simp only [stB,Nat.reduceEqDiff,Nat.reduceBEq,h4];rw [hat,←Bool.and_assoc,hcur];rfl,by simp only [stB,Nat.reduceLT,hjn,hjb]⟩
  | true =>
    rw [hcur] at h4;simp only [↓evP,evB,stB,reduceCtorEq,Nat.reduceEqDiff,Nat.reduceAdd,Nat.reduceLeDiff,Nat.reduceLT,Nat.reduceBEq,s1,h30,h4,ilt,i0,ga,aW,decide_true];refine aF [pB (siB x)] (by exact ⟨x,rfl,rfl⟩) ?_;simp only [↓evP,evB,stB,Nat.reduceEqDiff,Nat.reduceBEq,h30]
    exact ⟨_,by omega,(by repeat' (first | assumption | exact aP (by assumption) | (refine aJ ?_ rfl rfl) | (refine aD ?_ rfl) | (refine aJ ?_ rfl aK) | (refine aD ?_ aK))),i+1,rfl,hlt,by simp only [stB,Nat.reduceEqDiff,Nat.reduceBEq,h30,w3],by simp only [stB,Nat.reduceEqDiff,Nat.reduceBEq,h4];rw [hat,←Bool.and_assoc,hcur,Bool.true_and],by simp only [stB,Nat.reduceLT,hjn,hjb]⟩
 have hie:i=d.st.length:=by omega
 subst hie;rw [List.take_length] at h4;obtain ⟨v2,hv2⟩:∃ v2,(v && d.st.all siB)=v2:=⟨_,rfl⟩
 rw [hv2] at h4;have ilt:¬ (d.st.length:Int) < (d.st.length:Int):=by omega
 have hjb2:j.hb 2=.cells ((cK es d).map .d):=by rw [hjb];exact dK
 simp only [cK,List.map_cons,List.map_nil] at hjb2;simp only [↓evP,evB,stB,reduceCtorEq,Nat.reduceEqDiff,Nat.reduceBEq,s1,h30,hjn,hjb2,m2,ilt,decide_false];refine dA msw12A_1 osw12A_1 (fun m t=>∃ i:Nat,m=es.length - i∧i≤es.length∧t.sl 43=aI i∧t.sl 4=aB (v2 && (es.take i).all (evK d))∧t.hb=hp1 es d) es.length (by repeat' (first | exact aH.init | assumption | exact aN (by assumption) | (refine aH.ap ?_ rfl))) ?_ ?_
 ·exact ⟨0,rfl,Nat.zero_le _,by simp only [stB,Nat.reduceEqDiff,Nat.reduceBEq];first | done | rfl,by simp only [stB,Nat.reduceEqDiff,Nat.reduceBEq,h4];first | done | rw [show (es.take 0).all (evK d)=true from rfl,Bool.and_true],by simp only [stB,hjn,hjb]⟩
 rintro m q hqn hqa ⟨i,rfl,hi,h43,h4',hqb⟩;simp only [stB,Nat.reduceEqDiff,Nat.reduceBEq,hqn] at h43 h4' hqb;have hqb2:q.hb 2=.cells ((cK es d).map .d):=by rw [hqb];exact dK
 simp only [cK,List.map_cons,List.map_nil] at hqb2
 rcases Nat.lt_or_ge i es.length with hlt | hge
 ·have ga:es[i]? = some (es[i]):=List.getElem?_eq_getElem hlt;generalize es[i]=x at ga;have hat:=Ak (f:=evK d) ga;have ilt:(i:Int) < (es.length:Int):=by omega
  have i0:(0:Int)≤(i:Int):=by omega
  have w3:IntKind.i64.wrap ((i:Int)+1)=((i+1:Nat):Int):=by rw [dP (by omega) (by omega)];omega
  cases hcur:(v2 && (es.take i).all (evK d)) with
  | false =>
    rw [hcur] at h4';simp only [↓evP,evB,stB,reduceCtorEq,Nat.reduceEqDiff,Nat.reduceAdd,Nat.reduceLeDiff,Nat.reduceLT,Nat.reduceBEq,h43,h4',ilt,i0,ga,Ev.row,decide_true]
    exact ⟨_,by omega,(by repeat' (first | assumption | exact aP (by assumption) | (refine aJ ?_ rfl rfl) | (refine aD ?_ rfl) | (refine aJ ?_ rfl aK) | (refine aD ?_ aK))),i+1,rfl,hlt,by simp only [stB,Nat.reduceEqDiff,Nat.reduceBEq,h43,w3],by simp only [stB,Nat.reduceEqDiff,Nat.reduceBEq,h4'];rw [hat,←Bool.and_assoc,hcur];rfl,by simp only [stB,Nat.reduceLT,hqn,hqb]⟩
  | true =>
    rw [hcur] at h4';simp only [↓evP,evB,stB,reduceCtorEq,Nat.reduceEqDiff,Nat.reduceAdd,Nat.reduceLeDiff,Nat.reduceLT,Nat.reduceBEq,h43,h4',ilt,i0,ga,Ev.row,decide_true];refine aF [pB x.valid] (by exact ⟨x,rfl,rfl⟩) ?_
    cases hxv:x.valid with
    | false =>
      simp only [↓evP,evB,stB,reduceCtorEq,Nat.reduceEqDiff,Nat.reduceBEq,h43]
      exact ⟨_,by omega,(by repeat' (first | assumption | exact aP (by assumption) | (refine aJ ?_ rfl rfl) | (refine aD ?_ rfl) | (refine aJ ?_ rfl aK) | (refine aD ?_ aK))),i+1,rfl,hlt,by simp only [stB,Nat.reduceEqDiff,Nat.reduceBEq,h43,w3],by simp only [stB,Nat.reduceEqDiff,Nat.reduceBEq,h4'];rw [hat,←Bool.and_assoc,hcur,Bool.true_and,evK,hxv];rfl,by simp only [stB,Nat.reduceLT,hqn,hqb]⟩
    | true =>
      simp only [↓evP,evB,stB,reduceCtorEq,Nat.reduceEqDiff,Nat.reduceLT,Nat.reduceBEq,s1,h43,hqn,hqb2,m1]
      exact ⟨_,by omega,(by repeat' (first | assumption | exact aP (by assumption) | (refine aJ ?_ rfl rfl) | (refine aD ?_ rfl) | (refine aJ ?_ rfl aK) | (refine aD ?_ aK))),i+1,rfl,hlt,by simp only [stB,Nat.reduceEqDiff,Nat.reduceBEq,h43,w3],by simp only [stB,Nat.reduceEqDiff,Nat.reduceBEq,h4'];rw [hat,←Bool.and_assoc,hcur,Bool.true_and,evK,hxv];rfl,by simp only [stB,Nat.reduceLT,hqn,hqb]⟩
 have hie:i=es.length:=by omega
 subst hie;rw [List.take_length,←hv2,←hv,←Lc] at h4';have ilt2:¬ (es.length:Int) < (es.length:Int):=by omega
 by_cases hS:dQ es d
 ·rw [nU hS] at h4';simp only [↓evP,evB,stB,reduceCtorEq,Nat.reduceEqDiff,Nat.reduceBEq,h43,ilt2,decide_false];exact Jm hS hyes (by simp only [stB,Nat.reduceEqDiff,Nat.reduceBEq,s1]) (by simp only [stB,Nat.reduceEqDiff,Nat.reduceBEq,h4']) (by simp only [stB,hqn,hqb]) (by simp only [stB,inc]) (by repeat' (first | exact aH.init | assumption | exact aN (by assumption) | (refine aH.ap ?_ rfl)))
 ·rw [jm hS] at h4';simp only [↓evP,evB,stB,reduceCtorEq,Nat.reduceEqDiff,Nat.reduceBEq,h43,ilt2,decide_false];exact Nu (hno hS) (by simp only [stB,Nat.reduceEqDiff,Nat.reduceBEq,h4'])
theorem TU {es:List Ev} {d:Dep} (hel:es.length≤1000) (hl:d.st.length≤1000000∧d.pr.length≤1000000) (h64:d.gJ) {Q:Exit→St→Prop} (hno:¬ dQ es d→∀ st:St,(st.sl 2).hw=some (.one (.d (.im [])))→(st.sl 3).hw=some (.one (hI 1))→Q .ret st) (hyes:dQ es d→∀ st,Po es d st→Q .normal st) :
 pwp jM pcw12A Q (St.kC (fun b=>b) (fun _=>.no) (slA es d)):=by
 have m1:(d.st.map aW).length=d.st.length:=List.length_map ..;have m2:(es.map Ev.row).length=es.length:=List.length_map ..;obtain ⟨I,hI⟩:∃ I,St.kC (fun b=>b) (fun _=>.no) (slA es d)=I:=⟨_,rfl⟩
 have i0:I.sl 0=.b (iA es d).bv:=by rw [←hI];rfl
 have ig:∀ o,I.gen o=0:=fun o=>by rw [←hI];rfl
 have ih:I.hb=fun _=>.no:=by rw [←hI];exact jN _ _ _
 have inc:I.nc=fun b=>b:=by rw [←hI];rfl
 have ia:aH I:=by rw [←hI];exact nM
 rw [hI];clear hI;unfold pcw12A
 with_reducible refine aQ ?_
 simp only [↓evP,evB,stB];refine mY (cs:=(cK es d).map .d) (hs:=(cK es d).map .d) 2 (dU (by simp only [inc]) (by repeat' (first | exact aH.init | assumption | exact aN (by assumption) | (refine aH.ap ?_ rfl))) (by simp only [ih])) (by simp only [stB,i0,iA,cK,Pa.bv];first | done | rfl) (by simp only [cK,List.map_cons,List.map_nil];first | done | rfl) ?_
 simp only [↓evP,evB,stB,Nat.reduceEqDiff,Nat.reduceAdd,Nat.reduceLeDiff,Nat.reduceLT,ih,inc,cK];refine aF [pB (sZ d)] (by exact ⟨d,rfl,⟨hl,h64⟩,rfl⟩) ?_;have b1:(es.length:Int)≤5000:=by omega
 have hv:∃ v,sZ d=v:=⟨_,rfl⟩
 obtain ⟨v,hv⟩:=hv;have hc:∀ b:Bool,(if b=true then true else false)=b:=fun b=>by cases b <;> rfl
 generalize hK:exS _ _ _ Exit.normal=KK
 cases v with
 | true =>
   rw [hv];simp only [↓evP,evB,stB,reduceCtorEq,Nat.reduceEqDiff,Nat.reduceLT,ih,inc,m2,b1,decide_true];rw [←hK,Dk];exact wQ hel hl hno hyes hv (by simp only [stB,Nat.reduceEqDiff]) (by simp only [stB,Nat.reduceEqDiff]) (by simp only [stB,Nat.reduceLT];rw [mH (by rintro p hp;rw [List.mem_singleton.1 hp];simp only [inc]),ih];rfl) (by simp only [stB,inc]) (by repeat' (first | exact aH.init | assumption | exact aN (by assumption) | (refine aH.ap ?_ rfl)))
 | false =>
   rw [hv];simp only [↓evP,evB,stB,reduceCtorEq,Nat.reduceEqDiff];rw [←hK,Dk];exact wQ hel hl hno hyes hv (by simp only [stB,Nat.reduceEqDiff]) (by simp only [stB,Nat.reduceEqDiff]) (by simp only [stB,Nat.reduceLT];rw [mH (by rintro p hp;rw [List.mem_singleton.1 hp];simp only [inc]),ih];rfl) (by simp only [stB,inc]) (by repeat' (first | exact aH.init | assumption | exact aN (by assumption) | (refine aH.ap ?_ rfl)))
def jX (es:List Ev) (d:Dep) (k:Nat):List Nat:=bQ ++ ((List.range k).map (fQ d es)).flatten
structure oP (es:List Ev) (d:Dep) (E:List Ev) (F:List Nat) (hp:Nat→Hb) (N bf:Nat):Prop where
 w:WAt hp 10 N (lst ev0 E) [] none
 h2:hp 2=.cells ((cK es d).map .d)
 h11:hp 11=.cells [.h (.v bf)]
 h12:hp 12=.cells [.h (.f 25 [(10,0)] [])]
 h13:hp 13=.cells [hI (bq E 0:Nat)]
 hf:hp bf=.vec 5 1 (byR F)
 lt:bf < N∧13 < N∧bf≠10
abbrev BJ (es:List Ev) (d:Dep) (k:Nat) (hp:Nat→Hb) (N bf:Nat):Prop:=oP es d (es.take (16 * k)) (jX es d k) hp N bf
def iO (d:Dep) (E cs:List Ev):List Nat:=qQ d (bq E 0) (bq (E ++ cs) 0) ++ (bn cs.length ++ eY (lst ev0 E) cs)
theorem Nr (d:Dep) (es:List Ev) (k:Nat):iO d (es.take (16 * k)) (bP es (16 * k) 16)=jF d es k:=by
 unfold iO jF;rw [gY]
def gK (d:Dep) (l:List Ev):Prop:=∀ e ∈ l,e.valid=true∧e.stack < (d.st.length:Int)
theorem gK.app {d:Dep} {a b:List Ev} (ha:gK d a) (hb:gK d b):gK d (a ++ b):=fun e h=>(List.mem_append.1 h).elim (ha e) (hb e)
theorem gK.need {d:Dep} {l:List Ev} (h:gK d l):bq l 0≤d.st.length:=Ba h (Nat.zero_le _)
theorem wP {d:Dep} {E cs:List Ev} (hl:d.st.length≤1000) (he:gK d E) (hc:gK d cs) (hn:cs.length≤16):(iO d E cs).length≤30000:=by
 unfold iO;rw [List.length_append,List.length_append];have h1:=jg d (bq E 0) (bq (E ++ cs) 0);have h2:=(he.app hc).need;have h4:=bO cs.length;have h5:=kW cs (lst ev0 E);omega
theorem CG {d:Dep} {E cs:List Ev} (hd:d.ok) (he:gK d E) (hc:gK d cs) (hn:cs.length≤16):∀ x ∈ iO d E cs,x≤255:=by
 have h2:=(he.app hc).need;refine jw (qX hd ?_ h2) (jw (fZ (by omega)) (oZ (uG y8 fun e h=>(he e h).1) fun e h=>(hc e h).1));rw [iV];exact nk _ _
theorem J3 (es:List Ev) (d:Dep):BJ es d 0 (hpA es d) 66 65:=by
 refine ⟨⟨rfl,rfl,(fun h=>by cases h),by decide,fun b hb=>?_⟩,rfl,rfl,rfl,rfl,rfl,by decide⟩;unfold hpA;rw [if_neg (by omega),if_neg (by omega),if_neg (by omega),if_neg (by omega),if_neg (by omega),if_neg (by omega)]
def slB (x:Nat):Av:=if x=1 then .b (.one (.hv (.p 2 0))) else if x=9 then .b (.one (.hv (.p 10 0))) else if x=10 then .b (.one (.hv (.p 11 0))) else if x=11 then .b (.one (.hv (.p 12 0))) else if x=12 then .b (.one (.hv (.p 13 0))) else .un
noncomputable def vF:Env:=h1 25 LX (p1 28 LY (p1 29 yP e0))
theorem uj:aA Try.prog vF:=aA.h1 R5 (aA.p1 R6 (aA.p1 Ez aA.e0))
theorem Gv (es:List Ev) (d:Dep):jX es d (dW es) ++ bK 69 (oz d es)=cu es d:=by
 unfold jX cu aZ;rw [List.flatten_append,List.append_assoc];simp
theorem Gw {es:List Ev} {d:Dep} (ok:rJ d es) (he:es.length≤80) (k:Nat) (hk:k≤dW es):(jX es d k).length≤400000:=by
 have h1:=qD (l:=(List.range k).map (fQ d es)) (c:=30014) fun b q=>kZ ok b (by
  obtain ⟨i,hi,rfl⟩:=List.mem_map.1 q;exact List.mem_append_left _ (List.mem_map.2 ⟨i,List.mem_range.2 (by have:=List.mem_range.1 hi;omega),rfl⟩))
 rw [List.length_map,List.length_range] at h1;have h2:k≤5:=by unfold dW at hk;omega
 have h3:=Nat.mul_le_mul_left 30014 h2;unfold jX;rw [List.length_append];have:bQ.length=8:=rfl;omega
theorem encZ {es:List Ev} {d:Dep} {hp:Nat→Hb} {N bf:Nat} (ok:rJ d es) (he:es.length≤80) (hL:BJ es d (dW es) hp N bf) {Q:Exit→St→Prop} (hQ:∀ (st:St) (b:Nat),(st.sl 2).hw=some (.one (.h (.v b)))→st.hb b=.vec 5 1 (byR (cu es d))→(st.sl 3).hw=some (.one (hI 0))→Q .ret st) :
 pwp vF pcw12Z Q (St.kC (fun _=>1) hp slB):=by
 have m1:(d.st.map aW).length=d.st.length:=List.length_map ..;have m2:(es.map Ev.row).length=es.length:=List.length_map ..;obtain ⟨I,hI⟩:∃ I,St.kC (fun _=>1) hp slB=I:=⟨_,rfl⟩
 have i1:I.sl 1=.b (.one (.hv (.p 2 0))):=by rw [←hI];rfl
 have i9:I.sl 9=.b (.one (.hv (.p 10 0))):=by rw [←hI];rfl
 have i10:I.sl 10=.b (.one (.hv (.p 11 0))):=by rw [←hI];rfl
 have i11:I.sl 11=.b (.one (.hv (.p 12 0))):=by rw [←hI];rfl
 have i12:I.sl 12=.b (.one (.hv (.p 13 0))):=by rw [←hI];rfl
 have ih:I.hb=hp:=by rw [←hI];exact jN _ _ _
 have ia:aH I:=by rw [←hI];exact nM
 rw [hI];clear hI;have h2:=hL.h2;have h13:=hL.h13;simp only [cK,List.map_cons,List.map_nil] at h2;have htk:es.take (16 * dW es)=es:=List.take_of_length_le (by unfold dW;omega)
 rw [htk] at h13;have hn:=ok.need es.length;rw [List.take_length] at hn;unfold pcw12Z
 with_reducible refine aQ ?_
 simp only [↓evP,evB,stB,Nat.reduceEqDiff,Nat.reduceAdd,Nat.reduceLeDiff,i1,i9,i12,ih,h2,h13,m1];refine bH _ (by simp only [stB,ih];exact ⟨10,N,none,_,[],d,bq es 0,d.st.length,rfl,⟨hL.w,by simp,ok.dk,hn,Nat.le_refl _⟩,rfl⟩) ?_
 rintro h3 r ⟨rfl,N3,x3,hW3,hS3⟩;have g2:h3 2=hp 2:=hS3.out 2 (by have:=hL.lt;omega) (by decide) (by simp)
 rw [h2] at g2;simp only [↓evP,evB,stB,Nat.reduceEqDiff,i1,i9,g2,m2];refine bH _ (by simp only [stB];exact ⟨10,N3,x3,_,_,es.length,rfl,⟨hW3,by omega,by have:=jg d (bq es 0) d.st.length;have:=ok.len;simp only [List.nil_append];omega⟩,rfl⟩) ?_
 rintro h4 r ⟨rfl,N4,x4,hW4,hS4⟩;have hC:([] ++ qQ d (bq es 0) d.st.length ++ bn es.length:List Nat)=oz d es:=rfl;rw [hC] at hW4;have hS:=hS3.trans hS4;have hlt:=hL.lt
 obtain ⟨v,hv⟩:∃ v,x4=some v:=by
  cases x4 with
  | some v=>exact ⟨v,rfl⟩
  | none =>
    have h0:oz d es=[]:=hW4.v;have:=jk es.length;rw [←hC] at h0;have:=congrArg List.length h0;rw [List.length_append,List.length_nil] at this;omega
 subst hv;have hvv:=hW4.v;have hw:=hW4.h;have hbig:=mV ok;have g11:h4 11=.cells [.h (.v bf)]:=(hS.out 11 (by omega) (by decide) (by simp)).trans hL.h11;have g12:h4 12=.cells [.h (.f 25 [(10,0)] [])]:=(hS.out 12 (by omega) (by decide) (by simp)).trans hL.h12;have gbf:h4 bf=.vec 5 1 (byR (jX es d (dW es))):=(hS.out bf hlt.1 hlt.2.2 (by simp)).trans hL.hf
 have hvb:v≠bf:=by
  intro q
  rcases hS.nx v rfl with h | h
  ·cases h
  ·have:=hlt.1;omega
 have hle:=hS.le;have cl:=aV (oz d es);have big:¬ (((oz d es).length:Int) > 1048576):=by omega
 have hv1:=hvv.1;simp only [↓evP,evB,stB,reduceCtorEq,Nat.reduceEqDiff,i9,i10,i11,hw,hv1,vC,cl,big,g11,g12,decide_false];refine bM (oQ h4 10 bf N4 (lst ev0 (es.take (16 * dW es))) (jX es d (dW es)) (oz d es) 69) [.one (.h (.v (pJ N4 (oz d es))))] (by simp only [stB];exact ⟨10,bf,N4,some v,_,jX es d (dW es),oz d es,69,rfl,⟨hW4,⟨gbf,by omega,hlt.2.2,fun q=>hvb (Option.some.inj q)⟩,Gw ok he _ (Nat.le_refl _),by omega,by decide,nI ok⟩,rfl,rfl⟩) ?_
 simp only [↓evP,evB,stB,Nat.reduceEqDiff];refine hQ _ (pJ N4 (oz d es)) (by simp only [stB,Nat.reduceEqDiff];first | done | rfl) ?_ (by simp only [stB,Nat.reduceEqDiff];first | done | rfl)
 simp only [stB];have hne:pJ N4 (oz d es)≠10:=by unfold pJ;omega
 show up _ _ _ _=_
 rw [bB hne,←Gv];exact iG
def slC (cs:List Ev) (x:Nat):Av:=if x=13 then .b (.one (.d (.im (cs.map Ev.row)))) else slB x
noncomputable def Ar:Env:=p1 30 PD (e1 27 qM vF)
theorem CU:aA Try.prog Ar:=aA.p1 TF (aA.e1 FI uj)
theorem MB:∀ {es:List Ev} {l:Ev},evG l→(∀ e ∈ es,evG e)→evG (lst l es)
 | [],_,h,_=>h
 | e :: es,_,_,h=>MB (es:=es) (h e (List.mem_cons_self ..)) fun x hx=>h x (List.mem_cons_of_mem _ hx)
theorem TV {es:List Ev} {d:Dep} {hp:Nat→Hb} {N bf:Nat} {E cs:List Ev} {F:List Nat} (hdk:d.ok) (hl:d.st.length≤1000) (hE:gK d E) (hC:gK d cs) (hcl:cs.length≤16) (hF:F.length≤400000) (hL:oP es d E F hp N bf) {Q:Exit→St→Prop}
 (hQ:∀ (st:St) (N' bf':Nat),oP es d (E ++ cs) (F ++ bK 66 (iO d E cs)) st.hb N' bf'→Q .normal st) :
 pwp Ar pcw12B Q (St.kC (fun _=>1) hp (slC cs)):=by
 have m1:(d.st.map aW).length=d.st.length:=List.length_map ..;obtain ⟨I,hI⟩:∃ I,St.kC (fun _=>1) hp (slC cs)=I:=⟨_,rfl⟩
 have i1:I.sl 1=.b (.one (.hv (.p 2 0))):=by rw [←hI];rfl
 have i9:I.sl 9=.b (.one (.hv (.p 10 0))):=by rw [←hI];rfl
 have i10:I.sl 10=.b (.one (.hv (.p 11 0))):=by rw [←hI];rfl
 have i11:I.sl 11=.b (.one (.hv (.p 12 0))):=by rw [←hI];rfl
 have i12:I.sl 12=.b (.one (.hv (.p 13 0))):=by rw [←hI];rfl
 have i13:I.sl 13=.b (.one (.d (.im (cs.map Ev.row)))):=by rw [←hI];rfl
 have ih:I.hb=hp:=by rw [←hI];exact jN _ _ _
 have ia:aH I:=by rw [←hI];exact nM
 rw [hI];clear hI;have hcg:∀ e ∈ cs,evG e:=fun e h=>uy (hC e h).1
 have m2:(cs.map Ev.row).length=cs.length:=List.length_map ..;have h2:=hL.h2;have h13:=hL.h13;simp only [cK,List.map_cons,List.map_nil] at h2;have hn0:=hE.need;have hn1:=(hE.app hC).need;have hneed:bq cs (bq E 0)=bq (E ++ cs) 0:=by rw [←iV]
 have hnn:bq E 0≤bq (E ++ cs) 0:=by rw [←hneed];exact nk _ _
 unfold pcw12B
 with_reducible refine aQ ?_
 simp only [↓evP,evB,stB,Nat.reduceEqDiff,i12,i13,ih,h13];refine aF [pI (bq (E ++ cs) 0:Nat)] (by exact ⟨_,cs,rfl,⟨by omega,by omega,hcg⟩,by rw [hneed]⟩) ?_;simp only [↓evP,evB,stB,Nat.reduceEqDiff,Nat.reduceAdd,Nat.reduceLeDiff,i1,i9,i12,ih,h2,h13];refine bH _ (by simp only [stB,ih];exact ⟨10,N,none,_,[],d,_,_,rfl,⟨hL.w,by simp,hdk,hnn,hn1⟩,rfl⟩) ?_
 rintro h3 r ⟨rfl,N3,x3,hW3,hS3⟩;simp only [↓evP,evB,stB,Nat.reduceEqDiff,i9,i13,m2];refine bH _ (by simp only [stB];exact ⟨10,N3,x3,_,_,cs.length,rfl,⟨hW3,by omega,by have:=jg d (bq E 0) (bq (E ++ cs) 0);simp only [List.nil_append];omega⟩,rfl⟩) ?_
 rintro h4 r ⟨rfl,N4,x4,hW4,hS4⟩;simp only [↓evP,evB,stB,Nat.reduceEqDiff,i13,m2];obtain ⟨l0,hl0⟩:∃ l0,lst ev0 E=l0:=⟨_,rfl⟩
 have hl0g:evG l0:=by rw [←hl0];exact uG y8 fun e h=>(hE e h).1
 have hl1:lst l0 cs=lst ev0 (E ++ cs):=by rw [oH,hl0]
 rw [hl0] at hW4;have hS:=hS3.trans hS4;obtain ⟨B0,hB0⟩:∃ B0,([] ++ qQ d (bq E 0) (bq (E ++ cs) 0) ++ bn cs.length:List Nat)=B0:=⟨_,rfl⟩
 have hB0l:B0.length≤28000:=by
  rw [←hB0];have:=jg d (bq E 0) (bq (E ++ cs) 0);have:=bO cs.length;simp only [List.nil_append,List.length_append];omega
 rw [hB0] at hW4;refine dA msw12B_0 osw12B_0 (fun m t=>∃ i N2 x2,m=cs.length - i∧i≤cs.length∧t.sl 84=aI i∧WAt t.hb 10 N2 (lst l0 (cs.take i)) (B0 ++ eY l0 (cs.take i)) x2∧nE hp 10 N none t.hb N2 x2) cs.length (by repeat' (first | exact aH.init | assumption | exact aN (by assumption) | (refine aH.ap ?_ rfl))) ?_ ?_
 ·exact ⟨0,N4,x4,rfl,Nat.zero_le _,by simp only [stB,Nat.reduceEqDiff];first | done | rfl,by simp only [stB];rw [show eY l0 []=[] from rfl,List.append_nil];exact hW4,by simp only [stB];exact hS⟩
 rintro m j hjn hja ⟨i,N5,x5,rfl,hi,h84,hW5,hS5⟩;simp only [stB,Nat.reduceEqDiff,Nat.reduceBEq,hjn] at h84 hW5 hS5
 rcases Nat.lt_or_ge i cs.length with hlt | hge
 ·have ga:cs[i]? = some (cs[i]):=List.getElem?_eq_getElem hlt;generalize cs[i]=e at ga;have heg:=hcg e (List.mem_of_getElem? ga);have hlg:evG (lst l0 (cs.take i)):=MB hl0g fun x h=>hcg x (lD h)
  have ilt:(i:Int) < (cs.length:Int):=by omega
  have i0:(0:Int)≤(i:Int):=by omega
  have w3:IntKind.i64.wrap ((i:Int)+1)=((i+1:Nat):Int):=by rw [dP (by omega) (by omega)];omega
  have hev:=kW (cs.take i) l0;rw [List.length_take] at hev;simp only [↓evP,evB,stB,reduceCtorEq,Nat.reduceEqDiff,Nat.reduceAdd,Nat.reduceLeDiff,Nat.reduceLT,Nat.reduceBEq,i9,h84,ilt,i0,ga,Ev.row,decide_true];refine bH _ (by simp only [stB,Nat.reduceLT,hjn];exact ⟨10,N5,x5,_,_,e,rfl,⟨hW5,by rw [List.length_append];omega,hlg,heg⟩,rfl⟩) ?_
  rintro h6 r ⟨rfl,N6,x6,hW6,hS6⟩;simp only [↓evP,evB,stB,Nat.reduceEqDiff,Nat.reduceBEq,h84]
  exact ⟨_,by omega,(by repeat' (first | assumption | exact aP (by assumption) | (refine aJ ?_ rfl rfl) | (refine aD ?_ rfl) | (refine aJ ?_ rfl aK) | (refine aD ?_ aK))),i+1,N6,x6,rfl,hlt,by simp only [stB,Nat.reduceEqDiff,Nat.reduceBEq,h84,w3],by simp only [stB];rw [take_at ga,oH,qZ,wU,N8,←List.append_assoc];exact hW6,by simp only [stB];exact hS5.trans hS6⟩
 have hie:i=cs.length:=by omega
 subst hie;rw [List.take_length] at hW5;have ilt:¬ (cs.length:Int) < (cs.length:Int):=by omega
 have hD:B0 ++ eY l0 cs=iO d E cs:=by
  unfold iO;rw [←hB0,hl0,List.nil_append,List.append_assoc]
 rw [hD,hl1] at hW5;have hbig:=wP hl hE hC hcl;have hbyte:=CG hdk hE hC hcl;obtain ⟨C,hCe⟩:∃ C,iO d E cs=C:=⟨_,rfl⟩
 rw [hCe] at hW5 hbig hbyte hQ;have hlt:=hL.lt;obtain ⟨h5,hh5⟩:∃ h5,j.hb=h5:=⟨_,rfl⟩
 rw [hh5] at hW5 hS5;have hle:=hS5.le;have g2:h5 2=.cells ((cK es d).map .d):=(hS5.out 2 (by omega) (by decide) (by simp)).trans hL.h2;have g11:h5 11=.cells [.h (.v bf)]:=(hS5.out 11 (by omega) (by decide) (by simp)).trans hL.h11;have g12:h5 12=.cells [.h (.f 25 [(10,0)] [])]:=(hS5.out 12 (by omega) (by decide) (by simp)).trans hL.h12;have g13:h5 13=.cells [hI (bq E 0:Nat)]:=(hS5.out 13 (by omega) (by decide) (by simp)).trans hL.h13;have gbf:h5 bf=.vec 5 1 (byR F):=(hS5.out bf hlt.1 hlt.2.2 (by simp)).trans hL.hf
 have hvb:x5≠some bf:=by
  intro q
  rcases hS5.nx bf q with h | h
  ·cases h
  ·have:=hlt.1;omega
 have n2:bf≠2:=by rintro rfl;rw [g2] at gbf;cases gbf
 have n11:bf≠11:=by rintro rfl;rw [g11] at gbf;cases gbf
 have n12:bf≠12:=by rintro rfl;rw [g12] at gbf;cases gbf
 have n13:bf≠13:=by rintro rfl;rw [g13] at gbf;cases gbf
 simp only [↓evP,evB,stB,reduceCtorEq,Nat.reduceEqDiff,Nat.reduceBEq,i10,i11,h84,hjn,hh5,ilt,g11,g12,decide_false];obtain ⟨h6,hh6⟩:∃ h6,oQ h5 10 bf N5 (lst ev0 (E ++ cs)) F C 66=h6:=⟨_,rfl⟩
 have hkp:=jk C.length
 have o:∀ b,b < N5→b≠bf→b≠10→h6 b=h5 b:=fun b h1 h2 h3=>by
  rw [←hh6];unfold oQ;rw [bB h3];exact jo h1 (fun q=>h2 (Option.some.inj q).symm)
 have k2:h6 2=.cells ((cK es d).map .d):=(o 2 (by omega) n2.symm (by decide)).trans g2;have k11:h6 11=.cells [.h (.v bf)]:=(o 11 (by omega) n11.symm (by decide)).trans g11;have k12:h6 12=.cells [.h (.f 25 [(10,0)] [])]:=(o 12 (by omega) n12.symm (by decide)).trans g12;have k13:h6 13=.cells [hI (bq E 0:Nat)]:=(o 13 (by omega) n13.symm (by decide)).trans g13;have k10:h6 10=.cells (vC none :: (lst ev0 (E ++ cs)).row.map .d):=by rw [←hh6];exact dK
 have hbk:pJ N5 C < N5+((bn C.length).length+3):=by unfold pJ;omega
 have hbk2:N5≤pJ N5 C:=by unfold pJ;omega
 have kb:h6 (pJ N5 C)=.vec 5 1 (byR (F ++ bK 66 C)):=by
  rw [←hh6];unfold oQ;rw [bB (by omega)];exact iG
 have kf:nD h6 (N5+((bn C.length).length+3)):=by
  intro b hb;rw [←hh6];unfold oQ;rw [bB (by omega)];exact jE (fun b q=>by cases q;omega) hW5.fr b hb
 refine bM h6 [.one (.h (.v (pJ N5 C)))] (by simp only [stB,hjn,hh5];exact ⟨10,bf,N5,x5,_,F,C,66,rfl,⟨hW5,⟨gbf,by omega,hlt.2.2,hvb⟩,hF,by omega,by decide,hbyte⟩,hh6.symm,rfl⟩) ?_
 have hcv:(Cl.hv (.v (pJ N5 C))).hc=some (.h (.v (pJ N5 C))):=rfl;have n1113:¬ (13:Nat)=11:=by decide
 have o13:up h6 11 (.cells [.h (.v (pJ N5 C))]) 13=.cells [hI (bq E 0:Nat)]:=(bB (by decide)).trans k13;simp only [↓evP,evB,stB,Nat.reduceEqDiff,Nat.reduceLeDiff,Nat.reduceBEq,i10,i12,k11,k13,iq];refine hQ _ (N5+((bn C.length).length+3)) (pJ N5 C) ?_;simp only [stB];have u10:∀ {x y:Hb} {b:Nat},b≠13→b≠11→up (up h6 11 x) 13 y b=h6 b:=fun h1 h2=>by rw [bB h1,bB h2]
 refine ⟨⟨?_,rfl,(fun h=>by cases h),by omega,fun b hb=>?_⟩,?_,?_,?_,?_,?_,by omega,by omega,by omega⟩
 ·exact (u10 (by decide) (by decide)).trans k10
 ·exact (u10 (by omega) (by omega)).trans (kf b hb)
 ·exact (u10 (by decide) (by decide)).trans k2
 ·exact (bB (by decide)).trans dK
 ·exact (u10 (by decide) (by decide)).trans k12
 ·exact dK
 ·exact (u10 (by omega) (by omega)).trans kb
structure Tr (W:Wit) (w:World) (hp:Nat→Hb) (W':Wit) (w':World) (hp':Nat→Hb):Prop where
 rhp:RHp W' w' hp'
 keep:∀ m,W.lv m→W'.lv m∧W'.nm m=W.nm m∧W'.nv m=W.nv m
 but:kL (dG W hp) w w'
 fp:∀ k,dG W' hp' k→dG W hp k∨w.heap.size≤k
 S:∀ k,k < w.heap.size→W'.S k=W.S k
theorem Tr.refl {W:Wit} {w:World} {hp:Nat→Hb} (h:RHp W w hp):Tr W w hp W w hp:=⟨h,fun _ h=>⟨h,rfl,rfl⟩,⟨rfl,rfl,rfl,Nat.le_refl _,fun _ _ _=>rfl⟩,fun _ h=>.inl h,fun _ _=>rfl⟩
theorem Tr.trans {W W1 W2:Wit} {w w1 w2:World} {hp h1 h2:Nat→Hb} (a:Tr W w hp W1 w1 h1) (b:Tr W1 w1 h1 W2 w2 h2):Tr W w hp W2 w2 h2:=by
 have hsz:=a.but.size;refine ⟨b.rhp,fun m hm=>?_,⟨b.but.os.trans a.but.os,b.but.tape.trans a.but.tape,b.but.output.trans a.but.output,Nat.le_trans a.but.size b.but.size,fun k hk hn=>?_⟩,fun k hk=>?_,fun k hk=>?_⟩
 ·obtain ⟨p1,p2,p3⟩:=a.keep m hm;obtain ⟨q1,q2,q3⟩:=b.keep m p1;exact ⟨q1,q2.trans p2,q3.trans p3⟩
 ·rw [b.but.block k (by omega) (fun q=>(a.fp k q).elim hn (fun q=>by omega)),a.but.block k hk hn]
 ·rcases b.fp k hk with q | q
  ·exact a.fp k q
  ·exact .inr (by omega)
 ·rw [b.S k (by omega),a.S k hk]
theorem Tr.ext {W W':Wit} {w w':World} {hp hp':Nat→Hb} (h:Tr W w hp W' w' hp') (hr:RHp W w hp):Ext W.S W'.S w w' :=
 lZ h.but (fun k ⟨m,hm⟩=>(hr.mine m k hm).1) h.S
theorem Piece.tr {n:Nat} {W:Wit} {w:World} {hp:Nat→Hb} {df:List Deferred} {s':St} {W':Wit} {a':Act} {w':World} (h:Piece W w hp n df s' W' a' w'):Tr W w hp W' w' s'.hb:=⟨h.rhp,h.keep,h.but,h.fp,h.S⟩
theorem Tr.drop {W W':Wit} {w w':World} {hp hp' h2:Nat→Hb} (h:Tr W w hp W' w' hp') (hd:∀ b,h2 b=hp' b∨(h2 b=.dead∧hp' b≠.no)):Tr W w hp W' w' h2:=by
 refine ⟨h.rhp.dead hd,h.keep,h.but,fun k ⟨b,hb⟩=>h.fp k ⟨b,?_⟩,h.S⟩
 rcases hd b with q | q
 ·rw [←q];exact hb
 ·rw [q.1] at hb;exact hb.elim
def p9 (hp:Nat→Hb):Prop:=∀ b,hp b=.no∨hp b=.dead∨(∃ cs,hp b=.cells cs)∨∃ E sz rows,hp b=.vec E sz rows
theorem p9.obj {W:Wit} {w:World} {hp:Nat→Hb} (h:p9 hp) (hr:RHp W w hp) {k:Nat} (hk:dG W hp k):∃ o:Obj,w.heap[k]? = some o∧o.isCells=true:=by
 obtain ⟨b,hb⟩:=hk;have hat:=hr.at_ b
 rcases h b with q | q | ⟨cs,q⟩ | ⟨E,sz,rows,q⟩
 ·rw [q] at hb;exact hb.elim
 ·rw [q] at hb;exact hb.elim
 ·rw [q] at hb hat;have hb':W.nm b=k:=hb;obtain ⟨arr,T,h1,_⟩:=hat;rw [hb'] at h1;exact ⟨_,h1,rfl⟩
 ·rw [q] at hb hat;have hb':(W.nv b).ownBlock=some k:=hb;obtain ⟨xs,g1,_⟩:=hat
  rcases g1.2 with ⟨q1,_⟩ | ⟨g,cap,cur,fz,q1,q2,q3,_⟩
  ·rw [q1] at hb';cases hb'
  ·rw [q1] at hb';have:g=k:=Option.some.inj hb';rw [this] at q3;exact ⟨_,q3,rfl⟩
theorem Fol.stay {W:Wit} {w w':World} (he:Ext W.S W.S w w'):Fol W G0 O0 w W G0 O0 w':=⟨he,fun _=>Nat.le_refl _,fun _ _=>rfl,fun o E sz n' _ ho=>(by cases ho),fun _ _=>rfl,fun _ h=>⟨h,rfl,rfl⟩,rfl⟩
theorem RHp.stay {W:Wit} {w w':World} {hp:Nat→Hb} (h:RHp W w hp) (hsz:w.heap.size≤w'.heap.size) (hb:∀ k,dG W hp k→w'.heap[k]? = w.heap[k]?) (he:Ext W.S W.S w w'):RHp W w' hp :=
 ⟨h.lv,fun b k hk=>⟨(h.mine b k hk).1,Nat.lt_of_lt_of_le (h.mine b k hk).2 hsz⟩,fun b=>RH.fol (Fol.stay he) (h.at_ b) (fun hne=>(h.lv b).2 hne) rfl (fun k hk=>hb k ⟨b,hk⟩),h.ex⟩
theorem q9 {S:Nat→Nat} {w w':World} {row:Option Nat} (hg:w.grownBy w' row) (hr:∀ r,row=some r→∃ o:Obj,w.heap[r]? = some o∧o.isCells=false):Ext S S w w':=fun b i h1 h2=>by
 refine ⟨h1,?_⟩;have hlt:=cell_lt h2
 have hne:some b≠row:=fun e=>by
  obtain ⟨o,ho,hc⟩:=hr b e.symm;unfold World.cell? at h2;rw [ho] at h2;cases o <;> first | (cases hc;done) | (simp at h2;done)
 unfold World.cell?;rw [hg.block b hlt hne]
theorem Tr.grown {W W':Wit} {w w' w2:World} {hp hp':Nat→Hb} (h:Tr W w hp W' w' hp') (hp1:p9 hp') {row:Option Nat} (hg:w'.grownBy w2 row) (hr:∀ r,row=some r→w.heap.size≤r∧∃ o:Obj,w'.heap[r]? = some o∧o.isCells=false):Tr W w hp W' w2 hp':=by
 have hsz:=h.but.size;have hgs:=hg.size;refine ⟨h.rhp.stay hgs (fun k hk=>?_) (q9 hg fun r e=>(hr r e).2),h.keep,⟨hg.os.trans h.but.os,hg.tape.trans h.but.tape,hg.output.trans h.but.output,Nat.le_trans hsz hgs,fun k hk hn=>?_⟩,h.fp,h.S⟩
 ·obtain ⟨o,ho,hc⟩:=hp1.obj h.rhp hk;refine hg.block k (Array.getElem?_eq_some_iff.1 ho).1 (fun e=>?_);obtain ⟨_,o2,ho2,hc2⟩:=hr k e.symm;rw [ho] at ho2;cases ho2;rw [hc] at hc2;cases hc2
 ·rw [hg.block k (by omega) (fun e=>by have:=(hr k e.symm).1;omega)]
  exact h.but.block k hk hn
theorem EO {W:Wit} {w:World} {hp:Nat→Hb} {b2:Nat} {c:Hc} {v:Value} {T:TypeId} (hrp:RHp W w hp) (hb2:hp b2=.no) (hc:RC W G0 O0 w c.cl v) :
 Tr W w hp (W.lay b2 w.heap.size) (w.alloc (.cells #[v] T)) (up hp b2 (.cells [c]))∧(W.lay b2 w.heap.size).lv b2∧(W.lay b2 w.heap.size).nm b2=w.heap.size:=by
 obtain ⟨W',hW'⟩:∃ W',W.lay b2 w.heap.size=W':=⟨_,rfl⟩
 have hnl:¬ W.lv b2:=fun q=>(hrp.lv b2).1 q hb2
 have hne:∀ m,W.lv m→m≠b2:=fun m hm e=>hnl (e ▸ hm)
 have hbe:Below w.heap.size w (w.alloc (.cells #[v] T)):=(Below.refl _ w).alloc (Nat.le_refl _) _;have hS:∀ k',k' < w.heap.size→W'.S k'=W.S k':=fun k' hk=>by rw [←hW'];show up W.S _ 0 k'=_;rw [ay,if_neg (by omega)]
 have hnm:∀ m,W.lv m→W'.lv m∧W'.nm m=W.nm m∧W'.nv m=W.nv m:=fun m hm=>by
  rw [←hW'];exact ⟨.inr hm,by show up W.nm b2 _ m=_;rw [ay,if_neg (hne m hm)],rfl⟩
 have hfol:Fol W G0 O0 w W' G0 O0 (w.alloc (.cells #[v] T)):=⟨
  lZ (fp:=fun _=>False) ⟨hbe.os,hbe.tape,hbe.output,hbe.size,fun k hk _=>hbe.block k hk⟩ (fun _ q=>q.elim) hS,fun _=>Nat.le_refl _,fun _ _=>by rw [←hW'];rfl,fun o E sz n' _ ho=>(by cases ho),fun _ _=>by rw [←hW'];rfl,hnm,by rw [←hW'];rfl⟩
 have enm:W'.nm b2=w.heap.size:=by rw [←hW'];exact fO
 have ehf:W'.hf=W.hf:=by rw [←hW'];rfl
 have hnew:(w.alloc (.cells #[v] T)).heap[w.heap.size]? = some (.cells #[v] T (0,0)):=World.alloc_heap_new w _;rw [hW'];refine ⟨⟨hrp.upd hfol (by simp) (fun m=>by rw [←hW'];exact Iff.rfl) (fun m _=>by rw [ehf]) hS hbe.size (fun m hm k' hk=>hbe.block k' (hrp.mine m k' hk).2) ?_ (fun k' hk=>?_),hnm,⟨hbe.os,hbe.tape,hbe.output,hbe.size,fun k hk _=>hbe.block k hk⟩,fun k' ⟨m,hm⟩=>?_,hS⟩,?_,enm⟩
 ·refine ⟨#[v],T,by rw [enm];exact hnew,rfl,fun i c' u h1 h2=>?_⟩
  cases i with
  | zero=>cases h1;cases h2;exact hc.fol hfol
  | succ i=>simp at h1
 ·have hk':W'.nm b2=k':=hk;rw [enm] at hk';subst hk';refine ⟨by rw [←hW'];show up W.S _ 0 _=_;rw [ay,if_pos rfl],by simp,fun m hm hk2=>?_⟩
  have:=(hrp.mine m _ hk2).2;omega
 ·by_cases hmb:m=b2
  ·subst hmb;rw [ay,if_pos rfl] at hm;have hk':W'.nm m=k':=hm;rw [enm] at hk';exact .inr (by omega)
  ·rw [ay,if_neg hmb] at hm;exact .inl ⟨m,(hcl.fol hfol (fun hne=>(hrp.lv m).2 hne) (by rw [ehf]) k').1 hm⟩
 ·rw [←hW'];exact .inl rfl
theorem Nj {w:World} {v:Value} (hv:v.oneCell'=true) :
 Calls Try.prog 26 #[v,.int .i64 16] w fun e w'=>e=.returned (.func (.func 47) #[] #[.pointer (some ⟨w.heap.size,0,none⟩),.pointer (some ⟨w.heap.size+1,0,none⟩)])∧w'=(w.alloc (.cells #[v] 22)).alloc (.cells #[.int .i64 16] 3):=by
 go_enter Try.func26,Try.ntmps26
 go_wp2
 all_goals go_ret
 all_goals exact ⟨rfl,rfl⟩
def EG (hp:Nat→Hb) (az:List Hw) (hp':Nat→Hb) (rs:List Hw):Prop:=∃ (rows:List (List Dt)) (b2 b3:Nat),az=[.one (.d (.im rows)),.one (hI 16)]∧(hp b2=.no∧hp b3=.no∧b2≠b3)∧hp'=up (up hp b2 (.cells [.d (.im rows)])) b3 (.cells [hI 16])∧rs=[.one (.h (.f 47 [] [(b2,0),(b3,0)]))]
theorem OT:fK Try.prog 26 EG:=by
 rintro hp az hp' rs ⟨rows,b2,b3,rfl,⟨hb2,hb3,hne⟩,rfl,rfl⟩ W w vals _ hrp hvals
 obtain ⟨v,hv1,hv2,hva⟩:∃ v,RC W G0 O0 w (.d (.im rows)) v∧v.oneCell'=true∧vals=#[v,.int .i64 16]:=by
  obtain ⟨q1,q2⟩:=hvals;have h2:vals.size=2:=q1.symm
  obtain ⟨x,y,rfl⟩:∃ x y,vals=#[x,y]:=by
   refine ⟨vals[0]'(by omega),vals[1]'(by omega),?_⟩
   apply Array.ext
   ·exact h2
   ·intro i g1 g2;have:i < 2:=by simpa using g2
    match i,this with
    | 0,_=>rfl
    | 1,_=>rfl
  have e1:RC W G0 O0 w (.d (.im rows)) x:=q2 0 _ x rfl rfl;have e2:RD W.S w (.sc (.int .i64 16)) y:=q2 1 _ y rfl rfl;cases e2;exact ⟨x,e1,RC.one e1,rfl⟩
 rw [hva];refine (Nj hv2).mono ?_;rintro e w' ⟨rfl,rfl⟩;obtain ⟨t1,l1,n1⟩:=EO (T:=22) hrp hb2 (c:=.d (.im rows)) hv1;have hb3':up hp b2 (.cells [.d (.im rows)]) b3=.no:=by rw [ay,if_neg (fun e=>hne e.symm)];exact hb3
 obtain ⟨t2,l2,n2⟩:=EO (T:=3) t1.rhp hb3' (c:=hI 16) (v:=.int .i64 16) (.sc _ rfl);have t3:=t1.trans t2;obtain ⟨k1,k2,k3⟩:=t2.keep b2 l1;refine ⟨_,_,rfl,⟨?_,rfl,fun p hp=>by simp at hp,fun p hp=>?_⟩,t3.rhp,t3.keep,t3.but,t3.fp,t3.S⟩
 ·show _=Value.func (.func _) #[] #[.pointer (some ⟨_,0,none⟩),.pointer (some ⟨_,0,none⟩)]
  rw [k2,n1,n2,World.size_alloc]
 ·simp only [List.mem_cons,List.not_mem_nil,or_false] at hp
  rcases hp with rfl | rfl
  ·exact k1
  ·exact l2
theorem Tr.alloc {W:Wit} {w:World} {hp:Nat→Hb} (h:RHp W w hp) (o:Obj):Tr W w hp W (w.alloc o) hp:=by
 have hb:Below w.heap.size w (w.alloc o):=(Below.refl _ w).alloc (Nat.le_refl _) o;exact ⟨h.stay hb.size (fun k ⟨m,hm⟩=>hb.block k (h.mine m k hm).2) (wK hb),fun _ h=>⟨h,rfl,rfl⟩,⟨hb.os,hb.tape,hb.output,hb.size,fun k hk _=>hb.block k hk⟩,fun _ h=>.inl h,fun _ _=>rfl⟩
structure Fl where
 es:List Ev
 d:Dep
 ns:List Nat
 en:Bool
def Fl.row (f:Fl):List Dt:=[.im (f.es.map Ev.row),.im (f.d.st.map aW),.im (f.d.pr.map fun x=>[dI x]),.im (f.ns.map fun n=>[dI (n:Nat)]),.sc (.bool f.en)]
def Fl.pa (f:Fl):Pa:=.agg f.row
def fl0 : Fl := ⟨[], ⟨[], []⟩, [], false⟩
def pQ:List Int→Rs→List Int×Rs
 | [],s=>([],s)
 | x :: xs,s=>((x+ug (bN s).1) :: (pQ xs (bN s).2).1,(pQ xs (bN s).2).2)
theorem AO:∀ (a:List Int) (s:Rs),(pQ a s).2.rest <:+ s.rest
 | [],_=>List.suffix_refl _
 | _ :: a,s=>(AO a (bN s).2).trans (jl s)
def Az:List Int→Ev
 | [a,b,c,d,e,f,g,i,j]=>⟨a,b,c,d,e,f,g,i,j⟩
 | _=>ev0
def EU:Nat→Ev→Dep→Rs→Option (List Ev×Rs)
 | 0,_,_,s=>some ([],s)
 | k+1,l,d,s=>if (pQ l.fl s).2.bad=true∨(Az (pQ l.fl s).1).valid=false∨¬ (Az (pQ l.fl s).1).stack < (d.st.length:Int) then none else
   (EU k (Az (pQ l.fl s).1) d (pQ l.fl s).2).map fun p=>(Az (pQ l.fl s).1 :: p.1,p.2)
def grM (es:List Ev):Int:=es.foldl (fun m e=>max m e.stack) (-1)
def kJ (f:Fl):Prop:=∃ n,f.ns.getLast? = some n∧n≠16
def mQ (b:List Nat) (d:Dep):Dep×(Nat×Rs):=((kQ (bN ⟨b,false⟩).1 d (bN ⟨b,false⟩).2).1,bN (kQ (bN ⟨b,false⟩).1 d (bN ⟨b,false⟩).2).2)
open Classical in
noncomputable def yB (kind:Nat) (b:List Nat) (f:Fl):Option Fl :=
 if kind=69 then (if (mQ b f.d).2.2.bad=true∨(mQ b f.d).2.2.rest≠[]∨(mQ b f.d).2.1≠f.es.length then none else some ⟨f.es,(mQ b f.d).1,f.ns,true⟩)
 else if (mQ b f.d).2.2.bad=true∨(mQ b f.d).2.1 < 1∨16 < (mQ b f.d).2.1∨kJ f∨5000 < f.es.length+(mQ b f.d).2.1 then none
 else match EU (mQ b f.d).2.1 (lst ev0 f.es) (mQ b f.d).1 (mQ b f.d).2.2 with
  | none=>none
  | some (evs,s)=>if s.rest≠[]∨(f.d.st.length < (mQ b f.d).1.st.length∧grM evs≠((mQ b f.d).1.st.length:Int) - 1) then none else some ⟨f.es ++ evs,(mQ b f.d).1,f.ns ++ [(mQ b f.d).2.1],f.en⟩
theorem vB:∀ (k:Nat) (d:Dep) (s:Rs),(kQ k d s).2.rest <:+ s.rest
 | 0,_,_=>List.suffix_refl _
 | k+1,d,s=>by
   unfold kQ;split
   ·exact List.suffix_refl _
   ·split
    ·exact vP s
    ·exact (vB k _ _).trans (vP s)
theorem vD:∀ (k:Nat) (d:Dep) (s:Rs),d.val→(kQ k d s).1.val∧(kQ k d s).1.st.length+(kQ k d s).2.rest.length≤d.st.length+s.rest.length
 | 0,_,_,h=>⟨h,Nat.le_refl _⟩
 | k+1,d,s,h=>by
   have hs:=(vP s).length_le;unfold kQ;split
   ·exact ⟨h,Nat.le_refl _⟩
   ·split
    ·exact ⟨h,by dsimp only;omega⟩
    ·rename_i hq;rw [not_or,Classical.not_not] at hq;have hb:(jJ s).2.bad=false:=by simpa using hq.1
     have hl:=FP hb;have h2:=BD h hq.2.1 (by show (-1:Int)≤(((bN s).1:Int) - 1);omega) (by show (0:Int)≤((bN (bN s).2).1:Int);omega) (by show (0:Int)≤((bN (bN (bN s).2).2).1:Int);omega)
     obtain ⟨h3,h4⟩:=vD k _ (jJ s).2 h2;refine ⟨h3,?_⟩;have:(eB d (jJ s).1.1 (jJ s).1.2).st.length=d.st.length+1:=by simp [eB]
     omega
theorem xk:∀ (cs:List Hc) (k:Nat) (x:Hc),iF cs k [x]=cs.set k x
 | [],_,_=>rfl
 | c :: cs,0,x=>by show x :: iF cs 0 []=_;rw [iq];rfl
 | c :: cs,k+1,x=>by show c :: iF cs k [x]=_;rw [xk cs k x];rfl
theorem Fl.hw (g:Fl) (hp:Nat→Hb):Hw.pa hp (kI g.pa)=some g.pa:=rfl
noncomputable def pK (b:List Nat) (f:Fl):Nat×(Fl×List Nat):=match b with
 | []=>(8,f,[])
 | kind :: r=>if kind≠66∧kind≠69 then (8,f,kind :: r) else
   if (bN ⟨r,false⟩).2.bad=true∨1048576 < (bN ⟨r,false⟩).1∨(bN ⟨r,false⟩).2.rest.length < (bN ⟨r,false⟩).1+4 then (8,f,kind :: r) else
   if ((bN ⟨r,false⟩).2.rest.drop (bN ⟨r,false⟩).1).take 4≠fG ((kind :: r).take ((kind :: r).length - (bN ⟨r,false⟩).2.rest.length+(bN ⟨r,false⟩).1)) then (9,f,kind :: r) else
   match yB kind ((bN ⟨r,false⟩).2.rest.take (bN ⟨r,false⟩).1) f with
   | none=>(8,f,kind :: r)
   | some g=>(0,g,(bN ⟨r,false⟩).2.rest.drop ((bN ⟨r,false⟩).1+4))
noncomputable def nT:Nat→List Nat→Fl→Nat×(Fl×List Nat)
 | 0,b,f=>(8,f,b)
 | k+1,b,f=>if f.en=true then ((if b=[] then 0 else 8),f,b) else
   if (pK b f).1=0 then nT k (pK b f).2.2 (pK b f).2.1 else ((pK b f).1,f,b)
noncomputable def kE (bs:List Nat):Nat×(Fl×List Nat):=if bs.take 8≠bQ then (8,fl0,bs) else nT (bs.length+1) (bs.drop 8) fl0
structure FlI (f:Fl):Prop where
 d:f.d.val
 sb:∀ s ∈ f.d.st,s.1≤2147483647∧s.2≤2147483647
 ev:gK f.d f.es
 el:f.es.length≤5000
theorem fl0_i:FlI fl0:=⟨⟨rfl,fun i h=>absurd h (Nat.not_lt_zero _)⟩,fun s h=>(by cases h),fun e h=>(by cases h),by decide⟩
theorem FlI.g {f:Fl} (h:FlI f):evG (lst ev0 f.es):=uG y8 fun e he=>(h.ev e he).1
theorem yE:∀ (k:Nat) (d:Dep) (s:Rs),(∀ s ∈ d.st,s.1≤2147483647∧s.2≤2147483647)→∀ s' ∈ (kQ k d s).1.st,s'.1≤2147483647∧s'.2≤2147483647
 | 0,_,_,h=>h
 | k+1,d,s,h=>by
   unfold kQ;split
   ·exact h
   ·split
    ·exact h
    ·rename_i hq;rw [not_or,Classical.not_not] at hq;refine yE k _ _ fun x hx=>?_
     have hx:x ∈ d.st ++ [(jJ s).1.2]:=hx
     rcases List.mem_append.1 hx with q | q
     ·exact h x q
     ·rw [List.mem_singleton.1 q];exact hq.2.2
theorem vw (k:Nat) (d:Dep) (s:Rs):d.st.length≤(kQ k d s).1.st.length:=by
 induction k generalizing d s with
 | zero=>exact Nat.le_refl _
 | succ k ih =>
   unfold kQ;split
   ·exact Nat.le_refl _
   ·split
    ·exact Nat.le_refl _
    ·have:=ih (eB d (jJ s).1.1 (jJ s).1.2) (jJ s).2;have h2:(eB d (jJ s).1.1 (jJ s).1.2).st.length=d.st.length+1:=by simp [eB]
     omega
theorem EW:∀ (k:Nat) (l:Ev) (d:Dep) (s:Rs) (evs:List Ev) (s':Rs),EU k l d s=some (evs,s')→gK d evs∧evs.length=k∧s'.rest <:+ s.rest
 | 0,_,_,s,evs,s',h=>by
   cases h;exact ⟨fun e he=>(by cases he),rfl,List.suffix_refl _⟩
 | k+1,l,d,s,evs,s',h=>by
   unfold EU at h;split at h
   ·cases h
   ·rename_i hq;rw [not_or,not_or,Classical.not_not] at hq;rw [Option.map_eq_some_iff] at h;obtain ⟨⟨e2,s2⟩,h1,h2⟩:=h;cases h2;obtain ⟨h3,h4,h5⟩:=EW k _ d _ e2 s2 h1;refine ⟨fun e he=>?_,by rw [List.length_cons,h4],h5.trans (AO _ s)⟩
    rcases List.mem_cons.1 he with rfl | he
    ·exact ⟨by simpa using hq.2.1,hq.2.2⟩
    ·exact h3 e he
theorem Nk {kind:Nat} {b:List Nat} {f g:Fl} (hi:FlI f) (h:yB kind b f=some g):FlI g∧g.d.st.length≤f.d.st.length+b.length∧g.ns.length≤f.ns.length+1∧f.d.st.length≤g.d.st.length:=by
 obtain ⟨⟨D,c,C⟩,hH⟩:∃ H,mQ b f.d=H:=⟨_,rfl⟩
 have hD:D=(kQ (bN ⟨b,false⟩).1 f.d (bN ⟨b,false⟩).2).1:=by
  have:=congrArg Prod.fst hH;exact this.symm
 obtain ⟨v1,v2⟩:=vD (bN ⟨b,false⟩).1 f.d (bN ⟨b,false⟩).2 hi.d;have v3:=yE (bN ⟨b,false⟩).1 f.d (bN ⟨b,false⟩).2 hi.sb;have v4:=vw (bN ⟨b,false⟩).1 f.d (bN ⟨b,false⟩).2;rw [←hD] at v1 v2 v3 v4;have hb2:=(jl ⟨b,false⟩).length_le;dsimp only at hb2;have hev:gK D f.es:=fun e he=>⟨(hi.ev e he).1,by have:=(hi.ev e he).2;omega⟩
 unfold yB at h;rw [hH] at h;dsimp only at h;split at h
 ·split at h
  ·cases h
  ·cases h;exact ⟨⟨v1,v3,hev,hi.el⟩,by dsimp only;omega,Nat.le_succ _,v4⟩
 ·split at h
  ·cases h
  ·rename_i hq;simp only [not_or] at hq;split at h
   ·cases h
   ·rename_i evs s he;obtain ⟨h3,h4,_⟩:=EW _ _ _ _ _ _ he;split at h
    ·cases h
    ·cases h;refine ⟨⟨v1,v3,hev.app h3,?_⟩,by dsimp only;omega,by dsimp only;rw [List.length_append];exact Nat.le_refl _,v4⟩
     dsimp only;rw [List.length_append,h4];have:=hq.2.2.2.2;omega
theorem Nc {b r:List Nat} {f g:Fl} (hi:FlI f) (h:pK b f=(0,g,r)):FlI g∧r <:+ b∧r.length+6≤b.length∧g.d.st.length+r.length≤f.d.st.length+b.length∧g.ns.length≤f.ns.length+1∧f.d.st.length≤g.d.st.length:=by
 cases b with
 | nil=>unfold pK at h;cases h
 | cons kind t =>
   unfold pK at h;dsimp only at h;split at h
   ·cases h
   ·split at h
    ·cases h
    ·rename_i hq;simp only [not_or] at hq;have hb:(bN ⟨t,false⟩).2.bad=false:=by simpa using hq.1
     have hl:=(uI hb).1;have hs:=jl ⟨t,false⟩;dsimp only at hl hs;split at h
     ·cases h
     ·split at h
      ·cases h
      ·rename_i g' hc;cases h;obtain ⟨c1,c2,c3,c4⟩:=Nk hi hc;have e1:((bN ⟨t,false⟩).2.rest.drop ((bN ⟨t,false⟩).1+4)).length=(bN ⟨t,false⟩).2.rest.length - ((bN ⟨t,false⟩).1+4):=List.length_drop;have e2:((bN ⟨t,false⟩).2.rest.take (bN ⟨t,false⟩).1).length≤(bN ⟨t,false⟩).1:=by rw [List.length_take];exact Nat.min_le_left _ _
       have hne:1≤(bN ⟨t,false⟩).1:=by
        refine Classical.byContradiction fun q=>?_
        have q0:(bN ⟨t,false⟩).1=0:=by omega
        rw [q0] at hc
        have:yB kind ((bN ⟨t,false⟩).2.rest.take 0) f=none:=by
         rw [List.take_zero];have e0:bN ⟨[],false⟩=(0,⟨[],true⟩):=rfl
         have:mQ [] f.d=(f.d,(0,⟨[],true⟩)):=by
          unfold mQ;rw [e0]
          show (f.d,bN ⟨[],true⟩)=_
          rfl
         unfold yB;rw [this];simp
        rw [this] at hc;cases hc
       refine ⟨c1,(List.drop_suffix _ _).trans (hs.trans (List.suffix_cons _ _)),?_,?_,c3,c4⟩
       ·rw [e1,List.length_cons];omega
       ·rw [e1,List.length_cons];omega
end Go.Proofs.Ytkafcpnahpfbfaa
end
section
namespace Go.Proofs.Ytkafcpnahpfbfaa
open Go Go.RowKit
set_option maxRecDepth 100000
def pcc12C : PC := .seq (.reg false [⟨(some 67), .fld 0 (.t 1), none, []⟩, ⟨(some 68), .load none (.t 67), none, [0]⟩, ⟨(some 69), .callh 26 [(.t 68), (.v (.int .i64 16))], none, [1]⟩]) (.skip)
def flc12C : List (Nat × List Bool) := [(6000026, List.replicate 1 false)]
theorem cpc12C:bD Try.prog Try.f12.ntmps (fJ ++ flc12C) (lH (((bW (Try.f12.body.getD .skip)).drop 12).take 1))=some pcc12C:=by kernel_rfl
end Go.Proofs.Ytkafcpnahpfbfaa
end
section
namespace Go.Proofs.Ytkafcpnahpfbfaa
open Go Go.RowKit
set_option maxRecDepth 1000000
set_option maxHeartbeats 4000000
noncomputable def Au:Env:=h1 26 EG e0
theorem CV:aA Try.prog Au:=aA.h1 OT aA.e0
abbrev xg (es:List Ev) (d:Dep):Nat→Hb:=up (up (hpA es d) 70 (.cells [.d (.im (es.map Ev.row))])) 71 (.cells [hI 16])
theorem TW {es:List Ev} {d:Dep} {Q:Exit→St→Prop} (hQ:∀ st:St,(st.sl 69).hw=some (.one (.h (.f 47 [] [(70,0),(71,0)])))→(∀ x,x=1∨x=9∨x=10∨x=11∨x=12→st.sl x=slB x)→st.hb=xg es d→Q .normal st) :
 pwp Au pcc12C Q (St.kC (fun _=>1) (hpA es d) slB):=by
 obtain ⟨I,hI⟩:∃ I,St.kC (fun _=>1) (hpA es d) slB=I:=⟨_,rfl⟩
 have i1:I.sl 1=.b (.one (.hv (.p 2 0))):=by rw [←hI];rfl
 have is:∀ x,I.sl x=slB x:=fun x=>by rw [←hI];rfl
 have ih:I.hb=hpA es d:=by rw [←hI];exact jN _ _ _
 rw [hI];clear hI;have h2:hpA es d 2=.cells ((cK es d).map .d):=rfl;simp only [cK,List.map_cons,List.map_nil] at h2;unfold pcc12C
 with_reducible refine aQ ?_
 simp only [↓evP,evB,stB,Nat.reduceEqDiff,i1,ih,h2];refine bM (xg es d) [.one (.h (.f 47 [] [(70,0),(71,0)]))] (by simp only [stB,ih];exact ⟨_,70,71,rfl,⟨rfl,rfl,by decide⟩,rfl,rfl⟩) ?_
 simp only [↓evP,evB,stB];refine hQ _ (by simp only [stB,Nat.reduceEqDiff];first | done | rfl) (fun x hx=>?_) (by simp only [stB])
 rcases hx with rfl | rfl | rfl | rfl | rfl <;> simp only [stB,Nat.reduceEqDiff,is]
noncomputable def Qd:Code→Code
 | .block _ (.rangeFunc _ _ a _)=>a
 | _=>.skip
noncomputable abbrev kP:Code:=Try.f12.body.getD .skip
noncomputable abbrev mg:Code:=((bW kP)[13]?).getD .skip
theorem SK:mg=.block 4 (.rangeFunc (.tmp 69) #[70] (Qd mg) (Ew mg)):=by kernel_rfl
theorem Qw:∃ o:Oper,Qd mg=.region 19 #[o] false∧o.dst=some 13∧o.op=.assign (.tmp 70)∧o.guard=none:=⟨_,rfl,rfl,rfl,rfl⟩
theorem Nv:bW kP=((bW kP).drop 0).take 12 ++ (((bW kP).drop 12).take 1 ++ (mg :: ((bW kP).drop 14).take 6)):=by kernel_rfl
def mI (bf b:Nat):Prop:=b=2∨b=10∨b=11∨b=12∨b=13∨b=bf
open Classical in
noncomputable def lU (L:Nat→Prop) (hp:Nat→Hb):Nat→Hb:=fun b=>if L b then hp b else match hp b with
 | .no=>.no
 | _=>.dead
theorem ji {L:Nat→Prop} {hp:Nat→Hb} {b:Nat} (h:L b):lU L hp b=hp b:=if_pos h
theorem Kq {L:Nat→Prop} {hp:Nat→Hb} {b:Nat} (h:hp b=.no):lU L hp b=.no:=by
 unfold lU;rw [h];split <;> rfl
theorem lu {L:Nat→Prop} {hp:Nat→Hb} (b:Nat):lU L hp b=hp b∨(lU L hp b=.dead∧hp b≠.no):=by
 unfold lU;split
 ·exact .inl rfl
 ·cases h:hp b <;> first | exact .inl rfl | exact .inr ⟨rfl,fun q=>by cases q⟩
theorem rZ {L:Nat→Prop} {hp:Nat→Hb} (h:∀ b,L b→(∃ cs,hp b=.cells cs)∨∃ E sz rows,hp b=.vec E sz rows):p9 (lU L hp):=by
 intro b
 by_cases hb:L b
 ·rw [ji hb]
  rcases h b hb with q | q
  ·exact .inr (.inr (.inl q))
  ·exact .inr (.inr (.inr q))
 ·unfold lU;rw [if_neg hb];cases hp b <;> first | exact .inl rfl | exact .inr (.inl rfl)
theorem oP.drop {es:List Ev} {d:Dep} {E:List Ev} {F:List Nat} {hp:Nat→Hb} {N bf:Nat} (h:oP es d E F hp N bf):p9 (lU (mI bf) hp)∧oP es d E F (lU (mI bf) hp) N bf:=by
 have l2:mI bf 2:=.inl rfl;have l10:mI bf 10:=.inr (.inl rfl);have l11:mI bf 11:=.inr (.inr (.inl rfl));have l12:mI bf 12:=.inr (.inr (.inr (.inl rfl)));have l13:mI bf 13:=.inr (.inr (.inr (.inr (.inl rfl))));have lf:mI bf bf:=.inr (.inr (.inr (.inr (.inr rfl))));refine ⟨rZ fun b hb=>?_,⟨⟨by rw [ji l10];exact h.w.h,h.w.v,h.w.ne,h.w.lt,fun b hb=>Kq (h.w.fr b hb)⟩,by rw [ji l2];exact h.h2,by rw [ji l11];exact h.h11,by rw [ji l12];exact h.h12,by rw [ji l13];exact h.h13,by rw [ji lf];exact h.hf,h.lt⟩⟩
 rcases hb with rfl | rfl | rfl | rfl | rfl | rfl
 ·exact .inl ⟨_,h.h2⟩
 ·exact .inl ⟨_,h.w.h⟩
 ·exact .inl ⟨_,h.h11⟩
 ·exact .inl ⟨_,h.h12⟩
 ·exact .inl ⟨_,h.h13⟩
 ·exact .inr ⟨_,_,_,h.hf⟩
def LI (W0:Wit) (w0:World) (hp0:Nat→Hb) (es:List Ev) (d:Dep) (v:Value) (k2 k3:Nat) (Wn:Wit) (E:List Ev) (F:List Nat) (w:World):Prop:=∃ (W:Wit) (hp:Nat→Hb) (N bf:Nat),
 Tr W0 w0 hp0 W w hp∧p9 hp∧oP es d E F hp N bf∧(∀ b,b=2∨b=10∨b=11∨b=12∨b=13→W.nm b=Wn.nm b)∧(¬ dG W hp k2∧¬ dG W hp k3∧k2 < w.heap.size∧k3 < w.heap.size)∧RD W.S w (.im (es.map Ev.row)) v
theorem LI.grown {W0:Wit} {w0:World} {hp0:Nat→Hb} {es:List Ev} {d:Dep} {v:Value} {k2 k3:Nat} {Wn:Wit} {E:List Ev} {F:List Nat} {w w':World} (h:LI W0 w0 hp0 es d v k2 k3 Wn E F w) {row:Option Nat} (hg:w.grownBy w' row) (hr:∀ r,row=some r→w0.heap.size≤r∧∃ o:Obj,w.heap[r]? = some o∧o.isCells=false):LI W0 w0 hp0 es d v k2 k3 Wn E F w':=by
 obtain ⟨W,hp,N,bf,h1,h2,h3,h4,h5,h6⟩:=h;exact ⟨W,hp,N,bf,h1.grown h2 hg hr,h2,h3,h4,⟨h5.1,h5.2.1,Nat.lt_of_lt_of_le h5.2.2.1 hg.size,Nat.lt_of_lt_of_le h5.2.2.2 hg.size⟩,RD.ext (q9 hg fun r e=>(hr r e).2) h6⟩
structure SlE (Wn:Wit) (a:Act):Prop where
 len:a.tmps.size=Try.f12.ntmps
 s1:a.tmps.getD 1 undef=.pointer (some ⟨Wn.nm 2,0,none⟩)
 s9:a.tmps.getD 9 undef=.pointer (some ⟨Wn.nm 10,0,none⟩)
 s10:a.tmps.getD 10 undef=.pointer (some ⟨Wn.nm 11,0,none⟩)
 s11:a.tmps.getD 11 undef=.pointer (some ⟨Wn.nm 12,0,none⟩)
 s12:a.tmps.getD 12 undef=.pointer (some ⟨Wn.nm 13,0,none⟩)
theorem SlE.ok {Wn W:Wit} {w:World} {hp:Nat→Hb} {a:Act} {es:List Ev} {d:Dep} {E:List Ev} {F:List Nat} {N bf:Nat} (h:SlE Wn a) (hr:RHp W w hp) (hL:oP es d E F hp N bf) (hn:∀ b,b=2∨b=10∨b=11∨b=12∨b=13→W.nm b=Wn.nm b):BN W w slB a:=by
 have hp1:∀ b,hp b≠.no→(b=2∨b=10∨b=11∨b=12∨b=13)→RHw W w (.one (.h (.p b 0))) (.pointer (some ⟨Wn.nm b,0,none⟩)):=fun b hb hm=>⟨by rw [←hn b hm];rfl,rfl,(hr.lv b).2 hb⟩
 intro x;unfold slB
 by_cases x1:x=1
 ·subst x1;exact .inr ⟨.one (.h (.p 2 0)),rfl,by rw [h.s1];exact hp1 2 (by rw [hL.h2];simp) (by decide)⟩
 by_cases x9:x=9
 ·subst x9;exact .inr ⟨.one (.h (.p 10 0)),rfl,by rw [h.s9];exact hp1 10 (by rw [hL.w.h];simp) (by decide)⟩
 by_cases x10:x=10
 ·subst x10;exact .inr ⟨.one (.h (.p 11 0)),rfl,by rw [h.s10];exact hp1 11 (by rw [hL.h11];simp) (by decide)⟩
 by_cases x11:x=11
 ·subst x11;exact .inr ⟨.one (.h (.p 12 0)),rfl,by rw [h.s11];exact hp1 12 (by rw [hL.h12];simp) (by decide)⟩
 by_cases x12:x=12
 ·subst x12;exact .inr ⟨.one (.h (.p 13 0)),rfl,by rw [h.s12];exact hp1 13 (by rw [hL.h13];simp) (by decide)⟩
 rw [if_neg x1,if_neg x9,if_neg x10,if_neg x11,if_neg x12];exact .inl rfl
theorem Gi {W0:Wit} {w0:World} {hp0:Nat→Hb} {es:List Ev} {d:Dep} {v:Value} {k2 k3:Nat} {Wn:Wit} {E cs:List Ev} {F:List Nat} {w:World} (h:LI W0 w0 hp0 es d v k2 k3 Wn E F w)
 (hdk:d.ok) (hl:d.st.length≤1000) (hE:gK d E) (hC:gK d cs) (hcl:cs.length≤16) (hF:F.length≤400000) {a:Act} (ha:SlE Wn a) (h13:∀ S w',RD S w' (.im (es.map Ev.row)) v→RD S w' (.im (cs.map Ev.row)) (a.tmps.getD 13 undef)) (l m B:Nat) :
 (Ew mg).wpIn (Fence.wide.inRound l) m Try.prog (fun e _ w'=>e=.normal∧KeepsFrom B w w'∧Kp2 k2 k3 w w'∧LI W0 w0 hp0 es d v k2 k3 Wn (E ++ cs) (F ++ bK 66 (iO d E cs)) w') a w:=by
 obtain ⟨W,hp,N,bf,ht,hpl,hL,hnm,⟨n2,n3,z2,z3⟩,hrd⟩:=h;have hr:=ht.rhp
 have hsl:BN W w (slC cs) a:=by
  intro x;unfold slC
  by_cases x13:x=13
  ·subst x13;exact .inr ⟨.one (.d (.im (cs.map Ev.row))),rfl,h13 _ _ hrd⟩
  ·rw [if_neg x13];exact ha.ok hr hL hnm x
 refine wpIn_mono (vY (n:=Try.f12.ntmps) l m CU (mO bZ (by kernel_rfl)) cpw12B (by kernel_rfl) (by kernel_rfl) (fun _=>1) (Q:=fun e st=>e=.normal∧∃ N' bf',oP es d (E ++ cs) (F ++ bK 66 (iO d E cs)) st.hb N' bf') (fun s q=>by cases q.1) (TV hdk hl hE hC hcl hF hL fun st N' bf' q=>⟨rfl,N',bf',q⟩) (fun _ _=>trivial) hr ha.len hsl) ?_;rintro e a' w' ⟨s',W',⟨rfl,N',bf',hL'⟩,hp'⟩;have hT:=hp'.tr;obtain ⟨pl,hLd⟩:=hL'.drop;refine ⟨rfl,⟨hT.but.size,fun k o hB hk ho=>?_⟩,⟨hT.but.block _ z2 n2,hT.but.block _ z3 n3⟩,W',_,N',bf',(ht.trans hT).drop lu,pl,hLd,fun b hb=>?_,⟨fun q=>?_,fun q=>?_,Nat.lt_of_lt_of_le z2 hT.but.size,Nat.lt_of_lt_of_le z3 hT.but.size⟩,RD.ext (hT.ext hr) hrd⟩
 ·rw [hT.but.block k (Array.getElem?_eq_some_iff.1 hk).1 (fun q=>?_)]
  ·exact hk
  ·obtain ⟨o2,ho2,hc2⟩:=hpl.obj hr q;rw [hk] at ho2;cases ho2;rw [ho] at hc2;cases hc2
 ·rw [(hT.keep b ((hr.lv b).2 ?_)).2.1]
  ·exact hnm b hb
  ·rcases hb with rfl | rfl | rfl | rfl | rfl
   ·rw [hL.h2];simp
   ·rw [hL.w.h];simp
   ·rw [hL.h11];simp
   ·rw [hL.h12];simp
   ·rw [hL.h13];simp
 ·rcases (hT.drop lu).fp k2 q with q | q
  ·exact n2 q
  ·omega
 ·rcases (hT.drop lu).fp k3 q with q | q
  ·exact n3 q
  ·omega
def stN (es:List Ev) (d:Dep) (l:List Nat):List Ev×List Nat:=l.foldl (fun p k=>(p.1 ++ bP es (16 * k) 16,p.2 ++ bK 66 (iO d p.1 (bP es (16 * k) 16)))) ([],bQ)
theorem FN (es:List Ev) (d:Dep) (l:List Nat) (k:Nat):stN es d (l ++ [k])=((stN es d l).1 ++ bP es (16 * k) 16,(stN es d l).2 ++ bK 66 (iO d (stN es d l).1 (bP es (16 * k) 16))):=by
 unfold stN;rw [List.foldl_append];rfl
theorem xU (es:List Ev) (d:Dep):∀ k,stN es d (List.range k)=(es.take (16 * k),jX es d k)
 | 0=>by
   show (([]:List Ev),bQ)=_
   unfold jX;simp
 | k+1=>by
   rw [List.range_succ,FN,xU es d k]
   show (es.take (16 * k) ++ bP es (16 * k) 16,jX es d k ++ bK 66 (iO d (es.take (16 * k)) (bP es (16 * k) 16)))=_
   rw [Nr,gY];unfold jX;rw [List.range_succ,List.map_append,List.flatten_append];simp [fQ,List.append_assoc,Nat.mul_add]
theorem AA {es:List Ev} {d:Dep} (h:gK d es) (i n:Nat):gK d (bP es i n):=fun e he=>h e (nP he)
theorem R7 {es:List Ev} {d:Dep} (h:gK d es) (hl:d.st.length≤1000) (l:List Nat):gK d (stN es d l).1∧(stN es d l).2.length≤8+30014 * l.length:=by
 have gen:∀ (l:List Nat) (p:List Ev×List Nat),gK d p.1→gK d (l.foldl (fun p k=>(p.1 ++ bP es (16 * k) 16,p.2 ++ bK 66 (iO d p.1 (bP es (16 * k) 16)))) p).1∧(l.foldl (fun p k=>(p.1 ++ bP es (16 * k) 16,p.2 ++ bK 66 (iO d p.1 (bP es (16 * k) 16)))) p).2.length≤p.2.length+30014 * l.length:=by
  intro l
  induction l with
  | nil=>exact fun p hp=>⟨hp,Nat.le_refl _⟩
  | cons k l ih =>
    intro p hp;have hc:=AA h (16 * k) 16;obtain ⟨h1,h2⟩:=ih (p.1 ++ bP es (16 * k) 16,p.2 ++ bK 66 (iO d p.1 (bP es (16 * k) 16))) (hp.app hc);refine ⟨h1,Nat.le_trans h2 ?_⟩;have h3:=wP hl hp hc (by rw [fV];omega)
    have h4:(bK 66 (iO d p.1 (bP es (16 * k) 16))).length≤(iO d p.1 (bP es (16 * k) 16)).length+14:=by
     unfold bK aX;rw [List.length_append,List.length_cons,List.length_append];have:=bO (iO d p.1 (bP es (16 * k) 16)).length;have:∀ x,(fG x).length=4:=fun x=>rfl
     rw [this];omega
    rw [List.length_append,List.length_cons];omega
 obtain ⟨h1,h2⟩:=gen l ([],bQ) (fun e he=>by cases he);exact ⟨h1,h2⟩
def Qm (hp:Nat→Hb) (az:List Hw) (Post:(Nat→Hb)→List Hw→Prop):Prop:=∃ (es:List Ev) (d:Dep),az=[kI (iA es d)]∧((∀ b,hp b=.no)∧es.length≤80∧(d.st.length≤1000∧d.pr.length≤1000)∧d.gJ) ∧
 Post=fun h r=>(dQ es d→∃ b,r=[.one (.h (.v b)),.one (hI 0)]∧h b=.vec 5 1 (byR (cu es d)))∧(¬ dQ es d→r=[.one (.d (.im [])),.one (hI 1)])
theorem MJ {W0 W':Wit} {w0 w':World} {hp0 hp':Nat→Hb} {x y:Hw} {u v:Value} (ht:Tr W0 w0 hp0 W' w' hp') (hx:RHw W' w' x u) (hy:RHw W' w' y v) :
 ∃ r W'',Ending.returned (.tuple #[u,v])=.returned r∧RRH W'' w' [x,y] r∧RHp W'' w' hp'∧(∀ b,W0.lv b→W''.lv b∧W''.nm b=W0.nm b∧W''.nv b=W0.nv b)∧kL (dG W0 hp0) w0 w'∧(∀ k,dG W'' hp' k→dG W0 hp0 k∨w0.heap.size≤k)∧∀ k,k < w0.heap.size→W''.S k=W0.S k:=by
 refine ⟨_,W',rfl,⟨#[u,v],rfl,rfl,fun i p q h1 h2=>?_⟩,ht.rhp,ht.keep,ht.but,ht.fp,ht.S⟩
 match i with
 | 0=>cases h1;cases h2;exact hx
 | 1=>cases h1;cases h2;exact hy
 | i+2=>simp at h1
theorem P8 (es:List Ev) (d:Dep):oP es d [] bQ (hpA es d) 66 65:=by
 have:=J3 es d;have e1:es.take (16 * 0)=[]:=by simp
 have e2:jX es d 0=bQ:=by unfold jX;simp
 unfold BJ at this;rw [e1,e2] at this;exact this
theorem SY (es:List Ev) (d:Dep):oP es d [] bQ (xg es d) 72 65:=by
 have h:=P8 es d;have o:∀ b,b≠70→b≠71→xg es d b=hpA es d b:=fun b h1 h2=>by unfold xg;rw [bB h2,bB h1]
 exact ⟨⟨(o 10 (by decide) (by decide)).trans h.w.h,rfl,(fun h=>by cases h),by decide,fun b hb=>(o b (by omega) (by omega)).trans (h.w.fr b (by omega))⟩,(o 2 (by decide) (by decide)).trans h.h2,(o 11 (by decide) (by decide)).trans h.h11,(o 12 (by decide) (by decide)).trans h.h12,(o 13 (by decide) (by decide)).trans h.h13,(o 65 (by decide) (by decide)).trans h.hf,by decide⟩
theorem SlE.of {n:Nat} {W W':Wit} {w w':World} {hp:Nat→Hb} {df:List Deferred} {s':St} {a':Act} (hn:n=Try.f12.ntmps) (h:Piece W w hp n df s' W' a' w') (hs:∀ x,x=1∨x=9∨x=10∨x=11∨x=12→s'.sl x=slB x):SlE W' a':=by
 subst hn
 have g:∀ x b,(x=1∨x=9∨x=10∨x=11∨x=12)→slB x=.b (.one (.hv (.p b 0)))→a'.tmps.getD x undef=.pointer (some ⟨W'.nm b,0,none⟩):=fun x b hx hb=>by
  have:=h.sl x (.one (.h (.p b 0))) (by rw [hs x hx,hb];rfl)
  exact this.1
 exact ⟨h.len,g 1 2 (by decide) rfl,g 9 10 (by decide) rfl,g 10 11 (by decide) rfl,g 11 12 (by decide) rfl,g 12 13 (by decide) rfl⟩
def qP (W0:Wit) (w0:World) (es:List Ev) (d:Dep):Ending→World→Prop:=fun e w'=>∃ hp' rs,((dQ es d→∃ b,rs=[.one (.h (.v b)),.one (hI 0)]∧hp' b=.vec 5 1 (byR (cu es d)))∧(¬ dQ es d→rs=[.one (.d (.im [])),.one (hI 1)])) ∧
 ∃ u W',e=.returned u∧RRH W' w' rs u∧RHp W' w' hp'∧(∀ b,W0.lv b→W'.lv b∧W'.nm b=W0.nm b∧W'.nv b=W0.nv b)∧kL (dG W0 (fun _=>.no)) w0 w'∧(∀ k,dG W' hp' k→dG W0 (fun _=>.no) k∨w0.heap.size≤k)∧∀ k,k < w0.heap.size→W'.S k=W0.S k
theorem Jo {W0 Wn:Wit} {w0 w:World} {es:List Ev} {d:Dep} {v:Value} {k2 k3:Nat} (hS:dQ es d) (ok:rJ d es) (he:es.length≤80) {a:Act} (ha:SlE Wn a) {D:Nat} (hI:LI W0 w0 (fun _=>.no) es d v k2 k3 Wn es (jX es d (dW es)) w) (hD:w0.heap.size≤D) (hK:w.heap[D]? = some (.deferred (some []))) :
 wpL Try.prog (bodyPostM Fence.wide 3 Try.prog Try.f12 (qP W0 w0 es d)) (((bW kP).drop 14).take 6) { a with defers:={ target:=.collected D,args:=#[] } :: [] } w:=by
 obtain ⟨W,hp,N,bf,ht,hpl,hL,hnm,_,_⟩:=hI;have hr:=ht.rhp;have htk:es.take (16 * dW es)=es:=List.take_of_length_le (by unfold dW;omega)
 have hL2:BJ es d (dW es) hp N bf:=by
  unfold BJ;rw [htk];exact hL
 have hsl:BN W w slB { a with defers:={ target:=.collected D,args:=#[] } :: [] }:=SlE.ok (Wn:=Wn) ⟨ha.len,ha.s1,ha.s9,ha.s10,ha.s11,ha.s12⟩ hr hL hnm
 have:=iB (P:=Try.prog) (n:=Try.f12.ntmps) (l2:=[]) (a:={ a with defers:={ target:=.collected D,args:=#[] } :: [] }) uj (mO bZ (by kernel_rfl)) bA cpw12Z (by kernel_rfl) (by kernel_rfl) (fun _=>1) (Q:=fun e st=>e=.ret∧∃ b,(st.sl 2).hw=some (.one (.h (.v b)))∧st.hb b=.vec 5 1 (byR (cu es d))∧(st.sl 3).hw=some (.one (hI 0)))
  (encZ ok he hL2 (fun st b q1 q2 q3=>⟨rfl,b,q1,q2,q3⟩)) (fun _ _=>trivial) hr ha.len hsl (Q2:=bodyPostM Fence.wide 3 Try.prog Try.f12 (qP W0 w0 es d)) ?_
 ·rw [List.append_nil] at this;exact this
 rintro e s3 W3 a3 w3 ⟨rfl,b,q2,qb,q3⟩ hp3;have hT:=ht.trans hp3.tr
 have hpl3:p9 (lU (fun x=>x=b) s3.hb):=rZ fun x hx=>by
  subst hx;exact .inr ⟨_,_,_,qb⟩
 have hT2:=hT.drop (h2:=lU (fun x=>x=b) s3.hb) lu
 have hDn:¬ dG W hp D:=fun q=>by
  obtain ⟨o,ho,hc⟩:=hpl.obj hr q;rw [hK] at ho;cases ho;cases hc
 have hK3:w3.heap[D]? = some (.deferred (some [])):=(hp3.but.block D (Array.getElem?_eq_some_iff.1 hK).1 hDn).trans hK;have hg:=grownBy_putObj' w3 D (.deferred none);have hT3:=hT2.grown hpl3 hg (fun r e=>by cases e;exact ⟨hD,_,hK3,rfl⟩)
 have hx:=q9 (S:=W3.S) hg (fun r e=>by cases e;exact ⟨_,hK3,rfl⟩)
 have f2:=RB.fol (Fol.stay hx) (hp3.sl 2 _ q2);have f3:=RB.fol (Fol.stay hx) (hp3.sl 3 _ q3)
 show LeavesInM Fence.wide 3 Try.prog Try.f12 a3.tmps (qP W0 w0 es d) a3.defers .returning w3
 rw [hp3.dfs];refine ⟨by simp,.inl ⟨D,_,rfl,run_takeDeferred hK3,?_⟩⟩;refine ⟨_,results_tmp2 rfl _ _ _,?_⟩;obtain ⟨r,W'',r1,r2⟩:=MJ hT3 f2 f3;exact ⟨_,_,⟨fun _=>⟨b,rfl,(ji (L:=fun x=>x=b) rfl).trans qb⟩,fun q=>absurd hS q⟩,r,W'',r1,r2⟩
theorem SL (tv:Value) (n:Nat):(#[tv] ++ Array.replicate n undef).getD 0 undef=tv:=by
 simp [Array.getD]
theorem Nw (tv:Value):(#[tv] ++ Array.replicate (Try.f12.ntmps - (#[tv]:Array Value).size) undef).size=Try.f12.ntmps:=by
 rw [Try.ntmps12];simp
theorem kX {t:Array Value} {i j k:Nat} {u v w:Value} (h1:i≠k) (h2:j≠k):((t.setIfInBounds i u).setIfInBounds j v).getD k w=t.getD k w:=by
 simp only [Array.getD_eq_getD_getElem?,Array.getElem?_setIfInBounds];rw [if_neg h2,if_neg h1]
theorem wZ {t:Array Value} {j:Nat} {v w:Value} (h:j < t.size):(t.setIfInBounds j v).getD j w=v:=by
 simp [Array.getD_eq_getD_getElem?,h]
def fv {m:Nat} (l:List (Fin m)):List Nat:=l.map fun x=>x.1
theorem Ny {es:List Ev} {d:Dep} {W0:Wit} {w0:World} {tv:Value} (he:es.length≤80) (hl:d.st.length≤1000∧d.pr.length≤1000) (h64:d.gJ) (hrp:RHp W0 w0 (fun _=>.no)) (htv:RHw W0 w0 (kI (iA es d)) tv) :
 wpL Try.prog (bodyPostM Fence.wide 3 Try.prog Try.f12 (qP W0 w0 es d)) (bW kP) { tmps:=#[tv] ++ Array.replicate (Try.f12.ntmps - (#[tv]:Array Value).size) undef,defers:=[] } w0:=by
 rw [Nv]
 have hsl0:BN W0 w0 (slA es d) { tmps:=#[tv] ++ Array.replicate (Try.f12.ntmps - (#[tv]:Array Value).size) undef,defers:=[] }:=by
  intro x;unfold slA
  by_cases x0:x=0
  ·subst x0;exact .inr ⟨kI (iA es d),rfl,by rw [SL];exact htv⟩
  ·rw [if_neg x0];exact .inl rfl
 have hlen0:=Nw tv;obtain ⟨a0,ha0⟩:∃ a0:Act,{ tmps:=#[tv] ++ Array.replicate (Try.f12.ntmps - (#[tv]:Array Value).size) undef,defers:=[] }=a0:=⟨_,rfl⟩
 have hd0:a0.defers=[]:=by rw [←ha0]
 have hlen1:a0.tmps.size=Try.f12.ntmps:=by rw [←ha0];exact hlen0
 rw [ha0] at hsl0 ⊢;clear hlen0 ha0
 refine iB (P:=Try.prog) (n:=Try.f12.ntmps) (a:=a0) CR (mO bZ (by kernel_rfl)) bA cpw12A (by kernel_rfl) (by kernel_rfl) (fun b=>b)
  (Q:=fun e st=>(e=.ret∧¬ dQ es d∧(st.sl 2).hw=some (.one (.d (.im [])))∧(st.sl 3).hw=some (.one (hI 1)))∨(e=.normal∧dQ es d∧Po es d st)) (TU (by omega) ⟨by omega,by omega⟩ h64 (fun hn st h2 h3=>.inl ⟨rfl,hn,h2,h3⟩) (fun hS st h=>.inr ⟨rfl,hS,h⟩)) (fun _ _=>trivial) hrp hlen1 hsl0 ?_
 rintro e s1 W1 a1 w1 (⟨rfl,hns,q2,q3⟩ | ⟨rfl,hS,hES⟩) hp1
 ·show LeavesInM Fence.wide 3 Try.prog Try.f12 a1.tmps _ a1.defers .returning w1
  rw [hp1.dfs,hd0];refine ⟨_,results_tmp2 rfl _ _ _,?_⟩;obtain ⟨r,W'',r1,r2⟩:=MJ hp1.tr (hp1.sl 2 _ q2) (hp1.sl 3 _ q3);exact ⟨_,_,⟨fun q=>absurd q hns,fun _=>rfl⟩,r,W'',r1,r2⟩
 have ok:=hS.ok hl.1 (by omega);have hE:gK d es:=fun e he=>ok.ev e he
 have hsE:∀ x,x=1∨x=9∨x=10∨x=11∨x=12→s1.sl x=slB x:=fun x hx=>by
  rcases hx with rfl | rfl | rfl | rfl | rfl
  ·exact hES.s1
  ·exact hES.s9
  ·exact hES.s10
  ·exact hES.s11
  ·exact hES.s12
 have hE1:=SlE.of rfl hp1 hsE;have hT1:=hp1.tr;rw [hES.hb] at hT1
 refine iB (P:=Try.prog) (n:=Try.f12.ntmps) (a:=a1) CV (mO bZ (by kernel_rfl)) bA cpc12C (by kernel_rfl) (by kernel_rfl) (fun _=>1)
  (Q:=fun e st=>e=.normal∧(st.sl 69).hw=some (.one (.h (.f 47 [] [(70,0),(71,0)])))∧(∀ x,x=1∨x=9∨x=10∨x=11∨x=12→st.sl x=slB x)∧st.hb=xg es d) (TW fun st h1 h2 h3=>⟨rfl,h1,h2,h3⟩) (fun _ _=>trivial) hT1.rhp hp1.len (hE1.ok hT1.rhp (P8 es d) fun _ _=>rfl) ?_
 rintro e s2 W2 a2 w2 ⟨rfl,h69,hs2,hb2⟩ hp2;have hE2:=SlE.of rfl hp2 hs2;have hT2:=hT1.trans hp2.tr;rw [hb2] at hT2;have hdf:a2.defers=[]:=hp2.dfs.trans (hp1.dfs.trans hd0);have hr2:=hT2.rhp
 obtain ⟨arr,T,g1,g2⟩:RH W2 G0 O0 w2 70 (.cells [.d (.im (es.map Ev.row))]):=by
  have:=hr2.at_ 70
  rwa [show xg es d 70=.cells [.d (.im (es.map Ev.row))] from rfl] at this
 obtain ⟨v,rfl⟩:∃ v,arr=#[v]:=Array.size_eq_one_iff.1 (by simpa using g2.1.symm)
 have hrd:RD W2.S w2 (.im (es.map Ev.row)) v:=g2.2 0 _ v rfl rfl
 obtain ⟨arr3,T3,g3,g4⟩:RH W2 G0 O0 w2 71 (.cells [hI 16]):=by
  have:=hr2.at_ 71
  rwa [show xg es d 71=.cells [hI 16] from rfl] at this
 obtain ⟨v3,rfl⟩:∃ v3,arr3=#[v3]:=Array.size_eq_one_iff.1 (by simpa using g4.1.symm)
 obtain rfl:v3=.int .i64 16:=by
  have:RD W2.S w2 (.sc (.int .i64 16)) v3:=g4.2 0 _ v3 rfl rfl;cases this;rfl
 obtain ⟨k2,hk2⟩:∃ k2,W2.nm 70=k2:=⟨_,rfl⟩
 obtain ⟨k3,hk3⟩:∃ k3,W2.nm 71=k3:=⟨_,rfl⟩
 rw [hk2] at g1;rw [hk3] at g3;have z2:k2 < w2.heap.size:=(Array.getElem?_eq_some_iff.1 g1).1;have z3:k3 < w2.heap.size:=(Array.getElem?_eq_some_iff.1 g3).1;have c2:w2.cell? ⟨k2,0,none⟩=some v:=by unfold World.cell?;rw [g1];rfl
 have c3:w2.cell? ⟨k3,0,none⟩=some (.int .i64 16):=by unfold World.cell?;rw [g3];rfl
 have hg:a2.tmps.getD 69 undef=.func (.func 47) #[] #[.pointer (some ⟨k2,0,none⟩),.pointer (some ⟨k3,0,none⟩)]:=by
  have:=(hp2.sl 69 _ h69).1;rw [this,←hk2,←hk3];rfl
 obtain ⟨pl,hLd⟩:=(SY es d).drop
 have hnf:∀ b k,¬ mI 65 b→W2.nm b=k→(∃ cs,xg es d b=.cells cs)→¬ dG W2 (lU (mI 65) (xg es d)) k:=by
  rintro b k hb rfl ⟨cs,hcs⟩ ⟨m,hm⟩
  have hm2:hcl W2 m (xg es d m) (W2.nm b):=by
   rcases lu (L:=mI 65) (hp:=xg es d) m with q | q
   ·rw [q] at hm;exact hm
   ·rw [q.1] at hm;exact hm.elim
  have:=hr2.ex b m _ (by rw [hcs];rfl) hm2
  subst this;unfold lU at hm;rw [if_neg hb,hcs] at hm;exact hm
 have hLI:LI W0 w0 (fun _=>.no) es d v k2 k3 W2 [] bQ w2:=⟨W2,_,72,65,hT2.drop lu,pl,hLd,fun _ _=>rfl,⟨hnf 70 k2 (by unfold mI;decide) hk2 ⟨_,rfl⟩,hnf 71 k3 (by unfold mI;decide) hk3 ⟨_,rfl⟩,z2,z3⟩,hrd⟩
 obtain ⟨enc,henc,hstops⟩:=zH (n:=2) (by decide) (by omega) hrd c2 c3 z2 z3
 show mg.wp Try.prog _ a2 w2
 rw [SK];refine (wpIn_wide (n:=3)).1 (wpIn_block ?_);have hsz02:=hT2.but.size
 refine wpIn_rangeFunc_ownG (n:=3) rfl (by decide) (gf:=47) (lb:=#[.pointer (some ⟨k2,0,none⟩),.pointer (some ⟨k3,0,none⟩)]) hg trivial (enters_of Try.func47 (by kernel_rfl) rfl) hstops Kp2.t (kpb z2 z3) (Below.refl _ _) (fun _=>rfl)
  (fun (pre:List (Fin (dW es))) W=>LI W0 w0 (fun _=>.no) es d v k2 k3 W2 (stN es d (fv pre)).1 (stN es d (fv pre)).2 W) (fun _ _ _=>False)
  (fun s A B row hs hg2 hr=>hs.grown hg2 fun r e=>⟨Nat.le_trans hsz02 (hr r e).1,(hr r e).2⟩) (fun _ _ _ _ _ hs _ _=>hs) hLI
  (fun x=>{ tmps:=(a2.tmps.setIfInBounds 70 (enc x)).setIfInBounds 13 (enc x),defers:=[] }) ?assign ?body ?done ?stop
 case assign =>
  intro l x W K hK;obtain ⟨o,ho,h1,h2,h3⟩:=Qw;rw [ho];obtain ⟨dst,op,ty,pos,after,guard⟩:=o;dsimp only at h1 h2 h3;subst h1 h2 h3;have hz:(#[70]:Array Tmp).zip #[enc x]=#[(70,enc x)]:=by simp
  rw [hz];simp only [List.foldl_toArray',List.foldl_cons,List.foldl_nil,List.size_toArray,List.length_cons,List.length_nil];have hget:(a2.tmps.setIfInBounds 70 (enc x)).getD 70 undef=enc x:=wZ (by simp [hE2.len] <;> decide)
  refine wpIn_region (nC l _ (fun o ho c he=>?_) (fun h=>?_) _ _ _ ?_)
  ·simp at ho;subst ho;cases he
  ·obtain ⟨_,_,h⟩:=h;exact h
  ·show wpOps _ _ _ [0] _ _
   unfold wpOps
   show (if _ then _ else _)
   rw [if_pos (show Region.wanted _ _=true from rfl)];refine .inl ?_;unfold Oper.wp
   show Oper.upon _ _ _ _ _ (.ok (.value ((a2.tmps.setIfInBounds 70 (enc x)).getD 70 undef)) W)
   rw [hget];exact hK
 case body =>
  intro l pre x W hIp hlt;obtain ⟨e1,e2⟩:=R7 hE hl.1 (fv pre);have e3:(fv pre).length=pre.length:=List.length_map ..;rw [e3] at e2;have hm5:dW es≤5:=by unfold dW;omega
  refine wpIn_mono (Gi hIp ok.dk hl.1 e1 (AA hE (16 * x.1) 16) (by rw [fV];omega) (by omega) (a:=_) ⟨?_,?_,?_,?_,?_,?_⟩ (fun S w' h=>?_) l _ w2.heap.size) ?_
  ·simp [hE2.len]
  ·rw [kX (by decide) (by decide)];exact hE2.s1
  ·rw [kX (by decide) (by decide)];exact hE2.s9
  ·rw [kX (by decide) (by decide)];exact hE2.s10
  ·rw [kX (by decide) (by decide)];exact hE2.s11
  ·rw [kX (by decide) (by decide)];exact hE2.s12
  ·have:((a2.tmps.setIfInBounds 70 (enc x)).setIfInBounds 13 (enc x)).getD 13 undef=enc x:=wZ (by simp [hE2.len] <;> decide)
   rw [this];exact henc x S w' h
  ·rintro e a' W' ⟨rfl,h1,h2,h3⟩;refine ⟨h1,h2,?_⟩;have:fv (pre ++ [x])=fv pre ++ [x.1]:=List.map_append ..
   show LI W0 w0 _ es d v k2 k3 W2 (stN es d (fv (pre ++ [x]))).1 (stN es d (fv (pre ++ [x]))).2 W'
   rw [this,FN];exact h3
 case done =>
  intro D xs W hD hxs hIx hK;have hxs2:fv xs=List.range (dW es):=hxs;have hIx:LI W0 w0 (fun _=>.no) es d v k2 k3 W2 (stN es d (fv xs)).1 (stN es d (fv xs)).2 W:=hIx;rw [hxs2,xU] at hIx;have hIx:LI W0 w0 (fun _=>.no) es d v k2 k3 W2 (es.take (16 * dW es)) (jX es d (dW es)) W:=hIx;have htk:es.take (16 * dW es)=es:=List.take_of_length_le (by unfold dW;omega)
  rw [htk] at hIx;have:=Jo hS ok he hE2 hIx (Nat.le_trans hsz02 hD) hK;rw [hdf];exact this
 case stop =>
  intro D c pre W _ _ h _;exact h.elim
theorem RG:dY Try.prog 12 Qm:=by
 rintro hp az Post ⟨es,d,rfl,⟨hno,he,hl,h64⟩,rfl⟩ W0 w0 vals hI hrp hvals;obtain rfl:hp=fun _=>.no:=funext hno
 have hb:Try.f12.body=some kP:=by kernel_rfl
 obtain ⟨tv,htv,rfl⟩:∃ tv,RHw W0 w0 (kI (iA es d)) tv∧vals=#[tv]:=by
  obtain ⟨q1,q2⟩:=hvals;obtain ⟨v,rfl⟩:∃ v,vals=#[v]:=Array.size_eq_one_iff.1 (by simpa using q1.symm)
  exact ⟨v,q2 0 _ v rfl rfl,rfl⟩
 have h1:=(wpIn_wide (n:=3)).2 (uU (Ny he hl h64 hrp htv));have h2:CallsIn Fence.wide 3 Try.prog 12 #[tv] w0 (qP W0 w0 es d):=callsIn_of_wp_marks Try.func12 hb trivial h1 rfl;exact callsIn_wide.1 h2
end Go.Proofs.Ytkafcpnahpfbfaa
end
