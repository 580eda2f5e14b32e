/- The reference of chapter 30: transfer. -/
import Derived.Test.YtffcpijeebagfaaMl7
set_option linter.unusedSimpArgs false
set_option linter.unusedVariables false
section
namespace Go.Proofs.Ytffcpijeebagfaa
open Go Go.RowKit
set_option maxRecDepth 100000
set_option maxHeartbeats 4000000
def uY (ps rs:List Pa):Prop:=∃ (s:RSt) (e:Ev),ps=[s.pa,e.pa]∧s.ok∧rs=[(s.fA e).1.pa,pB (s.fA e).2]
def zN:Env:=e1 97 sG (e1 99 mV (e1 98 Gy e0))
theorem uw:aD Try.prog zN:=aD.e1 zn (aD.e1 qJ (aD.e1 Rx aD.e0))
theorem Gh {a b:Int} (h:(a != b)=true):a≠b:=bne_iff_ne.1 h
theorem bne_eq {a b:Int} (h:(a != b)=false):a=b:=by simpa using h
theorem gQ {a b:Int} (h:(a == b)=false):¬ a=b:=beq_eq_false_iff_ne.1 h
theorem FP:Spec Try.prog 67 uY:=by
 refine sp67 uw ?_;rintro ps rs ⟨s,e,rfl,hok,rfl⟩;refine ⟨by simp,?_⟩;have hbd:=RSt.kY hok e.obj e.n;have hch:=hok.ch.1;unfold pc67;refine aH ?_;simp only [↓evP,evB,stB,reduceIte,seval,RSt.pa,RSt.row,Ev.pa,Ev.row];refine aB [.agg (s.channel e.obj e.n).row] ⟨s,e.obj,e.n,rfl,by omega,rfl⟩ ?_;have ht:s.fA e=s.fA e:=rfl
 conv at ht=>rhs;unfold RSt.fA
 generalize s.channel e.obj e.n=c at *;obtain ⟨⟨c1,c2⟩,c3,c4⟩:=hbd;have hw:IntKind.i64.wrap (c.sent - c.recv)=c.sent - c.recv:=oL (by omega) (by omega)
 cases a0:(c.n != e.n) with
 | true =>
   rw [ht,if_pos (Gh a0)];simp only [↓evP,evB,stB,reduceIte,reduceCtorEq,seval,RCh.row,pr67,a0]
 | false =>
 simp only [↓evP,evB,stB,reduceIte,reduceCtorEq,seval,RCh.row,pr67,a0];refine mO [2,3,4,6,7] [2,3,4,6] (fun st hs ho=>?_);simp only [stB,reduceIte,seval] at hs ho;obtain ⟨h2,h3,h4,h6,h7⟩:=hs;obtain ⟨⟨g2,o2⟩,⟨g3,o3⟩,⟨g4,o4⟩,⟨g6,o6⟩⟩:=ho
 cases k15:(e.kind == 15) with
 | true =>
   cases a1:(e.k != c.sent) with
   | true =>
     rw [ht,if_neg (fun h=>h (bne_eq a0)),if_pos (beq_iff_eq.1 k15),if_pos (Gh a1)];unfold pc67c2 pc67c1 pc67c0;simp only [↓evP,evB,stB,reduceIte,reduceCtorEq,seval,h2,h3,h4,h6,h7,g2,g3,g4,g6,o2,o3,o4,o6,k15,a1]
   | false =>
   cases a2:c.closed with
   | true =>
     rw [ht,if_neg (fun h=>h (bne_eq a0)),if_pos (beq_iff_eq.1 k15),if_neg (fun h=>h (bne_eq a1)),if_pos a2];unfold pc67c2 pc67c1 pc67c0;simp only [↓evP,evB,stB,reduceIte,reduceCtorEq,seval,h2,h3,h4,h6,h7,g2,g3,g4,g6,o2,o3,o4,o6,k15,a1,a2]
   | false =>
   by_cases b1:c.n > 0
   ·have b3:(c.n == 0)=false:=beq_eq_false_iff_ne.2 (by omega)
    by_cases b2:c.sent - c.recv < c.n
    ·
      rw [ht,if_neg (fun h=>h (bne_eq a0)),if_pos (beq_iff_eq.1 k15),if_neg (fun h=>h (bne_eq a1)),if_neg (fun h=>Bool.noConfusion (a2.symm.trans h)),if_pos ⟨b1,b2⟩];unfold pc67c2 pc67c1 pc67c0;simp only [↓evP,evB,stB,reduceIte,reduceCtorEq,seval,decide_true,h2,h3,h4,h6,h7,g2,g3,g4,g6,o2,o3,o4,o6,k15,a1,a2,b1,b2,b3,hw];refine aB [(s.begin e [⟨16,e.g,0⟩]).pa,pB true] ⟨s,e,[⟨16,e.g,0⟩],rfl,⟨hok,by simp⟩,rfl⟩ ?_;simp only [↓evP,evB,stB,reduceIte,reduceCtorEq,seval,h4,g4,o4,RSt.pa,RSt.row]
    ·
      rw [ht,if_neg (fun h=>h (bne_eq a0)),if_pos (beq_iff_eq.1 k15),if_neg (fun h=>h (bne_eq a1)),if_neg (fun h=>Bool.noConfusion (a2.symm.trans h)),if_neg (fun h=>b2 h.2),if_neg (fun h=>gQ b3 h.1)];unfold pc67c2 pc67c1 pc67c0;simp only [↓evP,evB,stB,reduceIte,reduceCtorEq,seval,decide_true,decide_false,h2,h3,h4,h6,h7,g2,g3,g4,g6,o2,o3,o4,o6,k15,a1,a2,b1,b2,b3,hw]
   ·cases b3:(c.n == 0) with
    | true =>
      by_cases b4:s.gor > 1
      ·
        rw [ht,if_neg (fun h=>h (bne_eq a0)),if_pos (beq_iff_eq.1 k15),if_neg (fun h=>h (bne_eq a1)),if_neg (fun h=>Bool.noConfusion (a2.symm.trans h)),if_neg (fun h=>b1 h.1),if_pos ⟨beq_iff_eq.1 b3,b4⟩];unfold pc67c2 pc67c1 pc67c0;simp only [↓evP,evB,stB,reduceIte,reduceCtorEq,seval,decide_true,decide_false,h2,h3,h4,h6,h7,g2,g3,g4,g6,o2,o3,o4,o6,k15,a1,a2,b1,b3,b4];refine aB [(s.begin e [⟨17, -1,e.g⟩,⟨18, -1,0⟩,⟨16,e.g,0⟩]).pa,pB true] ⟨s,e,[⟨17, -1,e.g⟩,⟨18, -1,0⟩,⟨16,e.g,0⟩],rfl,⟨hok,by simp⟩,rfl⟩ ?_;simp only [↓evP,evB,stB,reduceIte,reduceCtorEq,seval,h4,g4,o4,RSt.pa,RSt.row]
      ·
        rw [ht,if_neg (fun h=>h (bne_eq a0)),if_pos (beq_iff_eq.1 k15),if_neg (fun h=>h (bne_eq a1)),if_neg (fun h=>Bool.noConfusion (a2.symm.trans h)),if_neg (fun h=>b1 h.1),if_neg (fun h=>b4 h.2)];unfold pc67c2 pc67c1 pc67c0;simp only [↓evP,evB,stB,reduceIte,reduceCtorEq,seval,decide_false,h2,h3,h4,h6,h7,g2,g3,g4,g6,o2,o3,o4,o6,k15,a1,a2,b1,b3,b4]
    | false =>
      rw [ht,if_neg (fun h=>h (bne_eq a0)),if_pos (beq_iff_eq.1 k15),if_neg (fun h=>h (bne_eq a1)),if_neg (fun h=>Bool.noConfusion (a2.symm.trans h)),if_neg (fun h=>b1 h.1),if_neg (fun h=>gQ b3 h.1)];unfold pc67c2 pc67c1 pc67c0;simp only [↓evP,evB,stB,reduceIte,reduceCtorEq,seval,decide_false,h2,h3,h4,h6,h7,g2,g3,g4,g6,o2,o3,o4,o6,k15,a1,a2,b1,b3]
 | false =>
 cases k17:(e.kind == 17) with
 | true =>
   cases a1:(e.k != c.recv) with
   | true =>
     rw [ht,if_neg (fun h=>h (bne_eq a0)),if_neg (gQ k15),if_pos (beq_iff_eq.1 k17),if_pos (Gh a1)];unfold pc67c2 pc67c1 pc67c0;simp only [↓evP,evB,stB,reduceIte,reduceCtorEq,seval,h2,h3,h4,h6,h7,g2,g3,g4,g6,o2,o3,o4,o6,k15,k17,a1]
   | false =>
   by_cases b1:c.sent > c.recv
   ·
     rw [ht,if_neg (fun h=>h (bne_eq a0)),if_neg (gQ k15),if_pos (beq_iff_eq.1 k17),if_neg (fun h=>h (bne_eq a1)),if_pos b1];unfold pc67c2 pc67c1 pc67c0;simp only [↓evP,evB,stB,reduceIte,reduceCtorEq,seval,decide_true,h2,h3,h4,h6,h7,g2,g3,g4,g6,o2,o3,o4,o6,k15,k17,a1,b1];refine aB [(s.begin e [⟨18,e.g,0⟩]).pa,pB true] ⟨s,e,[⟨18,e.g,0⟩],rfl,⟨hok,by simp⟩,rfl⟩ ?_;simp only [↓evP,evB,stB,reduceIte,reduceCtorEq,seval,h4,g4,o4,RSt.pa,RSt.row]
   ·
     cases a2:c.closed with
     | true =>
       rw [ht,if_neg (fun h=>h (bne_eq a0)),if_neg (gQ k15),if_pos (beq_iff_eq.1 k17),if_neg (fun h=>h (bne_eq a1)),if_neg (fun h=>b1 h),if_neg (fun h=>Bool.noConfusion (a2.symm.trans h.1))];unfold pc67c2 pc67c1 pc67c0;simp only [↓evP,evB,stB,reduceIte,reduceCtorEq,seval,decide_false,h2,h3,h4,h6,h7,g2,g3,g4,g6,o2,o3,o4,o6,k15,k17,a1,a2,b1]
     | false =>
       by_cases b4:s.gor > 1
       ·
         rw [ht,if_neg (fun h=>h (bne_eq a0)),if_neg (gQ k15),if_pos (beq_iff_eq.1 k17),if_neg (fun h=>h (bne_eq a1)),if_neg (fun h=>b1 h),if_pos ⟨a2,b4⟩];unfold pc67c2 pc67c1 pc67c0;simp only [↓evP,evB,stB,reduceIte,reduceCtorEq,seval,decide_true,decide_false,h2,h3,h4,h6,h7,g2,g3,g4,g6,o2,o3,o4,o6,k15,k17,a1,a2,b1,b4];refine aB [(s.begin e [⟨15, -1,e.g⟩,⟨18,e.g,0⟩,⟨16, -1,0⟩]).pa,pB true] ⟨s,e,[⟨15, -1,e.g⟩,⟨18,e.g,0⟩,⟨16, -1,0⟩],rfl,⟨hok,by simp⟩,rfl⟩ ?_;simp only [↓evP,evB,stB,reduceIte,reduceCtorEq,seval,h4,g4,o4,RSt.pa,RSt.row]
       ·
         rw [ht,if_neg (fun h=>h (bne_eq a0)),if_neg (gQ k15),if_pos (beq_iff_eq.1 k17),if_neg (fun h=>h (bne_eq a1)),if_neg (fun h=>b1 h),if_neg (fun h=>b4 h.2)];unfold pc67c2 pc67c1 pc67c0;simp only [↓evP,evB,stB,reduceIte,reduceCtorEq,seval,decide_false,h2,h3,h4,h6,h7,g2,g3,g4,g6,o2,o3,o4,o6,k15,k17,a1,a2,b1,b4]
 | false =>
 cases k19:(e.kind == 19) with
 | true =>
   cases a2:c.closed with
   | true =>
     rw [ht,if_neg (fun h=>h (bne_eq a0)),if_neg (gQ k15),if_neg (gQ k17),if_pos (beq_iff_eq.1 k19),if_pos a2];unfold pc67c2 pc67c1 pc67c0;simp only [↓evP,evB,stB,reduceIte,reduceCtorEq,seval,h2,h3,h4,h6,h7,g2,g3,g4,g6,o2,o3,o4,o6,k15,k17,k19,a2]
   | false =>
     rw [ht,if_neg (fun h=>h (bne_eq a0)),if_neg (gQ k15),if_neg (gQ k17),if_pos (beq_iff_eq.1 k19),if_neg (fun h=>Bool.noConfusion (a2.symm.trans h))];unfold pc67c2 pc67c1 pc67c0;simp only [↓evP,evB,stB,reduceIte,reduceCtorEq,seval,h2,h3,h4,h6,h7,g2,g3,g4,g6,o2,o3,o4,o6,k15,k17,k19,a2]
     refine aB [(s.bM { c with closed:=true }).pa] ⟨s,{ c with closed:=true },rfl,hok.ch.1,rfl⟩ ?_;simp only [↓evP,evB,stB,reduceIte,reduceCtorEq,seval,h4,g4,o4,o6,a2,RSt.pa,RSt.row]
 | false =>
 cases k20:(e.kind == 20) with
 | true =>
   cases a2:c.closed with
   | true =>
     rw [ht,if_neg (fun h=>h (bne_eq a0)),if_neg (gQ k15),if_neg (gQ k17),if_neg (gQ k19),if_pos (beq_iff_eq.1 k20)];unfold pc67c2 pc67c1 pc67c0;simp only [↓evP,evB,stB,reduceIte,reduceCtorEq,seval,h2,h3,h4,h6,h7,g2,g3,g4,g6,o2,o3,o4,o6,k15,k17,k19,k20,a2]
     (unfold Drw;kernel_rfl)
   | false =>
     rw [ht,if_neg (fun h=>h (bne_eq a0)),if_neg (gQ k15),if_neg (gQ k17),if_neg (gQ k19),if_pos (beq_iff_eq.1 k20)];unfold pc67c2 pc67c1 pc67c0;simp only [↓evP,evB,stB,reduceIte,reduceCtorEq,seval,h2,h3,h4,h6,h7,g2,g3,g4,g6,o2,o3,o4,o6,k15,k17,k19,k20,a2]
     (unfold Drw;kernel_rfl)
 | false =>
   rw [ht,if_neg (fun h=>h (bne_eq a0)),if_neg (gQ k15),if_neg (gQ k17),if_neg (gQ k19),if_neg (gQ k20)];unfold pc67c2 pc67c1 pc67c0;simp only [↓evP,evB,stB,reduceIte,reduceCtorEq,seval,h2,h3,h4,h6,h7,g2,g3,g4,g6,o2,o3,o4,o6,k15,k17,k19,k20]
def tu (ps rs:List Pa):Prop:=∃ k:Int,ps=[pI k]∧rs=[pB (dL k)]
theorem CQ:Spec Try.prog 66 tu:=by
 refine sp66 aD.e0 ?_;rintro ps rs ⟨k,rfl,rfl⟩;refine ⟨by simp,?_⟩;unfold pc66;refine aH ?_;simp only [↓evP,evB,stB,reduceIte,reduceCtorEq,seval,pr66];refine ⟨fun h=>?_,fun h=>?_⟩
 ·unfold dL;rw [decide_eq_decide.2 (show (15≤k∧k≤20)↔k≤20 from ⟨fun h=>h.2,fun h2=>⟨h,h2⟩⟩)]
 ·unfold dL;rw [decide_eq_false (fun h2=>h h2.1)]
def kQ:List ByteArray:=[⟨#[]⟩,⟨#[114,101,97,100]⟩,⟨#[119,114,105,116,101]⟩,⟨#[97,116,111,109,105,99,45,114,101,97,100]⟩,⟨#[97,116,111,109,105,99,45,119,114,105,116,101]⟩,⟨#[97,116,111,109,105,99,45,98,111,116,104]⟩,⟨#[108,111,99,107]⟩,⟨#[117,110,108,111,99,107]⟩,⟨#[114,108,111,99,107]⟩,⟨#[114,117,110,108,111,99,107]⟩,⟨#[100,111,110,101]⟩,⟨#[119,97,105,116]⟩,⟨#[111,110,99,101,45,101,110,100]⟩,⟨#[111,110,99,101,45,115,101,101,110]⟩,⟨#[103,111]⟩,⟨#[115,101,110,100,45,115,116,97,114,116]⟩,⟨#[115,101,110,100,45,101,110,100]⟩,⟨#[114,101,99,118,45,115,116,97,114,116]⟩,⟨#[114,101,99,118,45,101,110,100]⟩,⟨#[99,108,111,115,101]⟩,⟨#[114,101,99,118,45,99,108,111,115,101,100]⟩]
def Ot (ps rs:List Pa):Prop:=∃ k:Int,ps=[pI k]∧∃ s,rs=[.one (.sc (.string s))]∧s=(if k < 1∨20 < k then ⟨#[]⟩ else (kQ[k.toNat]?).getD ⟨#[]⟩)
theorem UU:Spec Try.prog 95 Ot:=by
 refine sp95 aD.e0 ?_;rintro ps rs ⟨k,rfl,s,rfl,hs⟩;refine ⟨by simp,?_⟩;unfold pc95;refine aH ?_
 by_cases h1:k < 1
 ·rw [if_pos (.inl h1)] at hs;subst hs;simp only [↓evP,evB,stB,reduceIte,reduceCtorEq,seval,h1,pr95]
 by_cases h2:k > 20
 ·rw [if_pos (.inr h2)] at hs;subst hs;simp only [↓evP,evB,stB,reduceIte,reduceCtorEq,seval,h1,h2,decide_true,decide_false,pr95]
 rw [if_neg (fun h=>h.elim h1 h2)] at hs;obtain ⟨m,rfl⟩:=Int.eq_ofNat_of_zero_le (show 0≤k by omega);obtain ⟨u,hu⟩:∃ u,kQ[m]? = some u:=⟨_,List.getElem?_eq_getElem (by show m < 21;omega)⟩
 rw [Int.toNat_natCast,hu,Option.getD_some] at hs;subst hs;have hrow:(kQ.map fun x=>[Dt.sc (.string x)])[m]? = some [.sc (.string s)]:=by rw [List.getElem?_map,hu];rfl
 unfold kQ at hrow;simp only [List.map_cons,List.map_nil] at hrow;simp only [↓evP,evB,stB,reduceIte,reduceCtorEq,seval,h1,h2,decide_false,hrow,pr95]
def yx (ps rs:List Pa):Prop:=∃ e:Ev,ps=[e.pa]∧rs=[pB e.valid]
def eH:Env:=e1 95 Ot e0
theorem uV:aD Try.prog eH:=aD.e1 UU aD.e0
theorem FY {e:Ev} (hr:0≤e.k) (Q:Exit→St→Prop)
 (hQ:∀ st,st.res pr64=some [pB (decide (e.obj=0∧e.off=0∧e.n=0∧1≤e.k∧e.k < 8))]→Q .ret st) (st:St)
 (h1:st.sl 1=.b (.one (.ptr 1 1 0))) (g1:st.gen 1=1) (o1:st.ob 1=.cells (e.row.map .d)) :
 pwp eH pc64c1 (exS eH [It.bl 2,It.c pc64c0] Q) st:=by
 simp only [Ev.row,List.map_cons,List.map_nil] at o1;unfold pc64c1;simp only [↓evP,evB,stB,reduceCtorEq,Nat.reduceEqDiff,h1,g1,o1]
 repeat' (first | apply And.intro | intro)
 all_goals (refine hQ _ ?_;simp only [stB,Nat.reduceEqDiff,pr64];refine congrArg (fun b=>some [pB b]) (Bool.eq_iff_iff.2 ?_);simp only [beq_iff_eq,beq_eq_false_iff_ne,ne_eq,decide_eq_true_eq,Bool.false_eq_true,false_iff] at *;omega)
theorem nJ {e:Ev} (hr:0≤e.k) (Q:Exit→St→Prop)
 (hQ:∀ st,st.res pr64=some [pB (decide (e.off=0∧e.n≤64))]→Q .ret st) (st:St)
 (h1:st.sl 1=.b (.one (.ptr 1 1 0))) (g1:st.gen 1=1) (o1:st.ob 1=.cells (e.row.map .d)) :
 pwp eH pc64c2 (exS eH [It.bl 2,It.c pc64c0] Q) st:=by
 simp only [Ev.row,List.map_cons,List.map_nil] at o1;unfold pc64c2;simp only [↓evP,evB,stB,reduceCtorEq,Nat.reduceEqDiff,h1,g1,o1]
 repeat' (first | apply And.intro | intro)
 all_goals (refine hQ _ ?_;simp only [stB,Nat.reduceEqDiff,pr64];refine congrArg (fun b=>some [pB b]) (Bool.eq_iff_iff.2 ?_);simp only [beq_iff_eq,beq_eq_false_iff_ne,ne_eq,decide_eq_true_eq,Bool.false_eq_true,false_iff] at *;omega)
theorem wM {e:Ev} (hr:0≤e.k) (Q:Exit→St→Prop)
 (hQ:∀ st,st.res pr64=some [pB (decide (e.off=0∧e.n≤64∧e.k=0))]→Q .ret st) (st:St)
 (h1:st.sl 1=.b (.one (.ptr 1 1 0))) (g1:st.gen 1=1) (o1:st.ob 1=.cells (e.row.map .d)) :
 pwp eH pc64c3 (exS eH [It.bl 2,It.c pc64c0] Q) st:=by
 simp only [Ev.row,List.map_cons,List.map_nil] at o1;unfold pc64c3;simp only [↓evP,evB,stB,reduceCtorEq,Nat.reduceEqDiff,h1,g1,o1]
 repeat' (first | apply And.intro | intro)
 all_goals (refine hQ _ ?_;simp only [stB,Nat.reduceEqDiff,pr64];refine congrArg (fun b=>some [pB b]) (Bool.eq_iff_iff.2 ?_);simp only [beq_iff_eq,beq_eq_false_iff_ne,ne_eq,decide_eq_true_eq,Bool.false_eq_true,false_iff] at *;omega)
theorem FX {e:Ev} (hr:0≤e.k) (Q:Exit→St→Prop)
 (hQ:∀ st,st.res pr64=some [pB (decide (e.k=0∧e.n=0))]→Q .ret st) (st:St)
 (h1:st.sl 1=.b (.one (.ptr 1 1 0))) (g1:st.gen 1=1) (o1:st.ob 1=.cells (e.row.map .d)) :
 pwp eH pc64c0 (exS eH [] Q) st:=by
 simp only [Ev.row,List.map_cons,List.map_nil] at o1;unfold pc64c0;simp only [↓evP,evB,stB,reduceCtorEq,Nat.reduceEqDiff,h1,g1,o1]
 repeat' (first | apply And.intro | intro)
 all_goals (refine hQ _ ?_;simp only [stB,Nat.reduceEqDiff,pr64];refine congrArg (fun b=>some [pB b]) (Bool.eq_iff_iff.2 ?_);simp only [beq_iff_eq,beq_eq_false_iff_ne,ne_eq,decide_eq_true_eq,Bool.false_eq_true,false_iff] at *;omega)
theorem zU {e:Ev} (hk:1≤e.kind) (hk2:e.kind≤20) (hr:fH e.k=true) (Q:Exit→St→Prop)
 (hQ:∀ st,st.res pr64=some [pB e.rest]→Q .ret st) (st:St)
 (h1:st.sl 1=.b (.one (.ptr 1 1 0))) (g1:st.gen 1=1) (o1:st.ob 1=.cells (e.row.map .d)) :
 pwp eH pc64c7 (exS eH [] Q) st:=by
 have o1':=o1;simp only [Ev.row,List.map_cons,List.map_nil] at o1;have hr':0≤e.k:=by unfold fH at hr;simp at hr;omega
 unfold pc64c7 pc64c6
 cases k14:(e.kind == 14) with
 | true =>
   simp only [↓evP,evB,stB,reduceCtorEq,Nat.reduceEqDiff,h1,g1,o1,k14];have hre:e.rest=decide (e.obj=0∧e.off=0∧e.n=0∧1≤e.k∧e.k < 8):=by unfold Ev.rest;rw [if_pos (beq_iff_eq.1 k14)]
   rw [hre] at hQ;exact FY hr' Q hQ _ (by simp only [stB,Nat.reduceEqDiff,h1]) (by simp only [stB,g1]) (by simp only [stB,o1,Ev.row])
 | false =>
 have n14:=beq_eq_false_iff_ne.1 k14
 cases k15:(e.kind == 15) with
 | true =>
   simp only [↓evP,evB,stB,reduceCtorEq,Nat.reduceEqDiff,h1,g1,o1,k14];unfold pc64c5;simp only [↓evP,evB,stB,reduceCtorEq,Nat.reduceEqDiff,k15];have hre:e.rest=decide (e.off=0∧e.n≤64):=by unfold Ev.rest;rw [if_neg n14,if_pos (by have:=beq_iff_eq.1 k15;omega)]
   rw [hre] at hQ;exact nJ hr' Q hQ _ (by simp only [stB,Nat.reduceEqDiff,h1]) (by simp only [stB,g1]) (by simp only [stB,o1,Ev.row])
 | false =>
 have n15:=beq_eq_false_iff_ne.1 k15
 cases k16:(e.kind == 16) with
 | true =>
   simp only [↓evP,evB,stB,reduceCtorEq,Nat.reduceEqDiff,h1,g1,o1,k14];unfold pc64c5;simp only [↓evP,evB,stB,reduceCtorEq,Nat.reduceEqDiff,k15,k16];have hre:e.rest=decide (e.off=0∧e.n≤64):=by unfold Ev.rest;rw [if_neg n14,if_pos (by have:=beq_iff_eq.1 k16;omega)]
   rw [hre] at hQ;exact nJ hr' Q hQ _ (by simp only [stB,Nat.reduceEqDiff,h1]) (by simp only [stB,g1]) (by simp only [stB,o1,Ev.row])
 | false =>
 have n16:=beq_eq_false_iff_ne.1 k16
 cases k17:(e.kind == 17) with
 | true =>
   simp only [↓evP,evB,stB,reduceCtorEq,Nat.reduceEqDiff,h1,g1,o1,k14];unfold pc64c5;simp only [↓evP,evB,stB,reduceCtorEq,Nat.reduceEqDiff,k15,k16,k17];have hre:e.rest=decide (e.off=0∧e.n≤64):=by unfold Ev.rest;rw [if_neg n14,if_pos (by have:=beq_iff_eq.1 k17;omega)]
   rw [hre] at hQ;exact nJ hr' Q hQ _ (by simp only [stB,Nat.reduceEqDiff,h1]) (by simp only [stB,g1]) (by simp only [stB,o1,Ev.row])
 | false =>
 have n17:=beq_eq_false_iff_ne.1 k17
 cases k18:(e.kind == 18) with
 | true =>
   simp only [↓evP,evB,stB,reduceCtorEq,Nat.reduceEqDiff,h1,g1,o1,k14];unfold pc64c5;simp only [↓evP,evB,stB,reduceCtorEq,Nat.reduceEqDiff,k15,k16,k17,k18];have hre:e.rest=decide (e.off=0∧e.n≤64):=by unfold Ev.rest;rw [if_neg n14,if_pos (by have:=beq_iff_eq.1 k18;omega)]
   rw [hre] at hQ;exact nJ hr' Q hQ _ (by simp only [stB,Nat.reduceEqDiff,h1]) (by simp only [stB,g1]) (by simp only [stB,o1,Ev.row])
 | false =>
 have n18:=beq_eq_false_iff_ne.1 k18
 cases k19:(e.kind == 19) with
 | true =>
   simp only [↓evP,evB,stB,reduceCtorEq,Nat.reduceEqDiff,h1,g1,o1,k14];unfold pc64c5;simp only [↓evP,evB,stB,reduceCtorEq,Nat.reduceEqDiff,k15,k16,k17,k18];unfold pc64c4;simp only [↓evP,evB,stB,reduceCtorEq,Nat.reduceEqDiff,k19];have hre:e.rest=decide (e.off=0∧e.n≤64∧e.k=0):=by unfold Ev.rest;rw [if_neg n14,if_neg (by omega),if_pos (by have:=beq_iff_eq.1 k19;omega)]
   rw [hre] at hQ;exact wM hr' Q hQ _ (by simp only [stB,Nat.reduceEqDiff,h1]) (by simp only [stB,g1]) (by simp only [stB,o1,Ev.row])
 | false =>
 have n19:=beq_eq_false_iff_ne.1 k19
 cases k20:(e.kind == 20) with
 | true =>
   simp only [↓evP,evB,stB,reduceCtorEq,Nat.reduceEqDiff,h1,g1,o1,k14];unfold pc64c5;simp only [↓evP,evB,stB,reduceCtorEq,Nat.reduceEqDiff,k15,k16,k17,k18];unfold pc64c4;simp only [↓evP,evB,stB,reduceCtorEq,Nat.reduceEqDiff,k19,k20];have hre:e.rest=decide (e.off=0∧e.n≤64∧e.k=0):=by unfold Ev.rest;rw [if_neg n14,if_neg (by omega),if_pos (by have:=beq_iff_eq.1 k20;omega)]
   rw [hre] at hQ;exact wM hr' Q hQ _ (by simp only [stB,Nat.reduceEqDiff,h1]) (by simp only [stB,g1]) (by simp only [stB,o1,Ev.row])
 | false =>
 have n20:=beq_eq_false_iff_ne.1 k20;simp only [↓evP,evB,stB,reduceCtorEq,Nat.reduceEqDiff,h1,g1,o1,k14];unfold pc64c5;simp only [↓evP,evB,stB,reduceCtorEq,Nat.reduceEqDiff,k15,k16,k17,k18];unfold pc64c4;simp only [↓evP,evB,stB,reduceCtorEq,Nat.reduceEqDiff,k19,k20];have hre:e.rest=decide (e.k=0∧e.n=0):=by unfold Ev.rest;rw [if_neg n14,if_neg (by omega),if_neg (by omega)]
 rw [hre] at hQ;exact FX hr' Q hQ _ (by simp only [stB,Nat.reduceEqDiff,h1]) (by simp only [stB,g1]) (by simp only [stB,o1,Ev.row])
theorem P9 (bs:ByteArray):∀ n i r,bs.size - i=n→ByteArray.toList.loop bs i r=r.reverse ++ bs.data.toList.drop i:=by
 intro n
 induction n with
 | zero =>
   intro i r h;unfold ByteArray.toList.loop;rw [if_neg (by omega),List.drop_eq_nil_of_le (by show bs.data.toList.length≤i;rw [Array.length_toList];show bs.size≤i;omega),List.append_nil]
 | succ n ih =>
   intro i r h;have hi:i < bs.data.toList.length:=by rw [Array.length_toList];show i < bs.size;omega
   unfold ByteArray.toList.loop;rw [if_pos (by omega),ih (i+1) _ (by omega),List.drop_eq_getElem_cons hi,List.reverse_cons,List.append_assoc]
   congr 1
   show bs.get! i :: _=_
   congr 1
   show bs.data[i]! = _
   rw [getElem!_pos bs.data i (by simpa using hi)];rfl
theorem sJ (bs:ByteArray):bs.toList=bs.data.toList:=by
 unfold ByteArray.toList;rw [P9 bs _ 0 [] rfl];rfl
def Ev.fields (e:Ev):List Int:=[e.obj,e.off,e.k,e.n,e.fn,e.pc,e.stack]
def KI (k:Int):ByteArray:=if k < 1∨20 < k then ⟨#[]⟩ else (kQ[k.toNat]?).getD ⟨#[]⟩
theorem tV (k:Int):((KI k).toList == (⟨#[]⟩:ByteArray).toList)=!jM k:=by
 unfold KI jM
 by_cases h:k < 1∨20 < k
 ·rw [if_pos h,decide_eq_false (by omega),sJ];decide
 ·rw [if_neg h,decide_eq_true (by omega)];obtain ⟨m,rfl⟩:=Int.eq_ofNat_of_zero_le (show 0≤k by omega);rw [Int.toNat_natCast];have:∀ m:Fin 21,1≤m.val→(((kQ[m.val]?).getD ⟨#[]⟩).data.toList == (⟨#[]⟩:ByteArray).data.toList)=false:=by decide +kernel
  rw [sJ,sJ];exact this ⟨m,by omega⟩ (by show 1≤m;omega)
theorem Ev.valid_eq (e:Ev):e.valid=(jM e.kind && decide (0≤e.g∧e.g < 8) && e.fields.all fH && e.rest):=by
 unfold Ev.valid Ev.fields;simp only [List.all_cons,List.all_nil,Bool.and_true,Bool.and_assoc]
theorem Ko:Spec Try.prog 64 yx:=by
 refine sp64 uV ?_;rintro ps rs ⟨e,rfl,rfl⟩;refine ⟨by simp,?_⟩;unfold pc64;refine aH ?_
 by_cases q1:e.g < 0
 ·have hv:e.valid=false:=by rw [Ev.valid_eq,decide_eq_false (show ¬ (0≤e.g∧e.g < 8) by omega)];simp
  simp only [↓evP,evB,stB,reduceCtorEq,Nat.reduceEqDiff,Ev.pa,Ev.row,q1,decide_true,hv,pr64]
 by_cases q2:e.g≥8
 ·have hv:e.valid=false:=by rw [Ev.valid_eq,decide_eq_false (show ¬ (0≤e.g∧e.g < 8) by omega)];simp
  simp only [↓evP,evB,stB,reduceCtorEq,Nat.reduceEqDiff,Ev.pa,Ev.row,q1,q2,decide_true,decide_false,hv,pr64]
 have hg:decide (0≤e.g∧e.g < 8)=true:=decide_eq_true (by omega);simp only [↓evP,evB,stB,reduceCtorEq,Nat.reduceEqDiff,Ev.pa,Ev.row,q1,q2,decide_false];refine aB [.one (.sc (.string (KI e.kind)))] ⟨e.kind,rfl,KI e.kind,rfl,rfl⟩ ?_
 cases hk:jM e.kind with
 | false =>
   have hv:e.valid=false:=by rw [Ev.valid_eq,hk];rfl
   simp only [↓evP,evB,stB,reduceCtorEq,Nat.reduceEqDiff,tV,hk,hv,pr64]
 | true =>
   simp only [↓evP,evB,stB,reduceCtorEq,Nat.reduceEqDiff,tV,hk];refine mO [1] [1] (fun st hs ho=>?_);simp only [stB,Nat.reduceEqDiff] at hs ho;obtain ⟨g1,o1⟩:=ho;unfold pc64c9;simp only [↓evP,evB,stB,Nat.reduceEqDiff,Nat.reduceAdd,Nat.reduceLeDiff,hs,g1,o1];refine mO [1,3] [1,33] (fun st' hs' ho'=>?_);simp only [stB,Nat.reduceEqDiff,hs,g1,o1] at hs' ho';clear hs g1 o1;obtain ⟨h1,h3⟩:=hs';obtain ⟨⟨g1,o1⟩,g33,o33⟩:=ho';unfold pc64c8;simp only [↓evP,evB,stB];refine cZ ms64_0 os64_0 (fun m st=>∃ k:Nat,m=7 - k∧k≤7∧(e.fields.take k).all fH=true∧st.sl 4=aI k) 7 ?_ ?_
   ·exact ⟨0,rfl,by omega,rfl,by simp only [stB];rfl⟩
   ·rintro m j ⟨k,rfl,hk7,hall,h4⟩;simp only [stB,Nat.reduceBEq] at h4
    rcases Nat.lt_or_ge k 7 with hlt | hge
    ·obtain ⟨x,hx⟩:∃ x,e.fields[k]? = some x:=⟨_,List.getElem?_eq_getElem (show k < e.fields.length from hlt)⟩
     have hrow:(e.fields.map fun x=>[dI x])[k]? = some [dI x]:=by rw [List.getElem?_map,hx];rfl
     unfold Ev.fields at hrow;simp only [List.map_cons,List.map_nil] at hrow;have hl7:(k:Int) < ((7:Nat):Int):=by omega
     have hmem:x ∈ e.fields:=List.mem_of_getElem? hx
     by_cases x1:x < 0
     ·have hv:e.valid=false:=by
       rw [Ev.valid_eq,(by rw [List.all_eq_false];exact ⟨x,hmem,by unfold fH;rw [decide_eq_false (by omega)];decide⟩:e.fields.all fH=false)];simp
      simp only [↓evP,evB,stB,reduceCtorEq,Nat.reduceEqDiff,Nat.reduceAdd,Nat.reduceBEq,h3,h4,hrow,hl7,x1,decide_true,hv,pr64]
     by_cases x2:x > 2147483647
     ·have hv:e.valid=false:=by
       rw [Ev.valid_eq,(by rw [List.all_eq_false];exact ⟨x,hmem,by unfold fH;rw [decide_eq_false (by omega)];decide⟩:e.fields.all fH=false)];simp
      simp only [↓evP,evB,stB,reduceCtorEq,Nat.reduceEqDiff,Nat.reduceAdd,Nat.reduceBEq,h3,h4,hrow,hl7,x1,x2,decide_true,decide_false,hv,pr64]
     simp only [↓evP,evB,stB,reduceCtorEq,Nat.reduceEqDiff,Nat.reduceAdd,Nat.reduceBEq,h3,h4,hrow,hl7,x1,x2,decide_true,decide_false]
     exact ⟨_,by omega,(by repeat' (first | assumption | exact aN.mpr trivial | exact Within.refl _ _ _ | (refine bg ?_ rfl rfl) | (refine aS ?_ rfl))),k+1,rfl,by omega,by rw [List.take_add_one,hx,List.all_append,hall];simp only [Option.toList_some,List.all_cons,List.all_nil];unfold fH;rw [decide_eq_true (by omega)];rfl,by simp only [stB,Nat.reduceEqDiff,Nat.reduceBEq,h4];rw [wrN (by omega)]⟩
    ·have hk77:k=7:=by omega
     subst hk77;have hl7:¬ ((7:Nat):Int) < ((7:Nat):Int):=by omega
     simp only [↓evP,evB,stB,reduceCtorEq,Nat.reduceEqDiff,Nat.reduceAdd,Nat.reduceSub,Nat.reduceBEq,h3,h4,hl7];have hall':e.fields.all fH=true:=hall;have hk':=hk;unfold jM at hk';have hv:e.valid=e.rest:=by rw [Ev.valid_eq,hk,hg,hall'];rfl
     have hrk:fH e.k=true:=List.all_eq_true.1 hall' _ (by unfold Ev.fields;simp)
     rw [hv];exact zU (of_decide_eq_true hk').1 (of_decide_eq_true hk').2 hrk _ (fun st'' h=>⟨.inr rfl,h⟩) _ (by simp only [stB,Nat.reduceEqDiff,Nat.reduceBEq,h1]) (by simp only [stB,g1]) (by simp only [stB,o1,Ev.row])
theorem RSt.xP (s:RSt) (e:Ev):(s.counted e).count=s.count:=by
 unfold RSt.counted RSt.bM;split <;> rfl
theorem RSt.CB (s:RSt) (e:Ev):(s.lG e).1.count=s.count:=by
 unfold RSt.lG RSt.jF RSt.fA RSt.eY RSt.begin RSt.bM RSt.dN
 repeat' split
 all_goals first | rfl | (rw [RSt.xP])
def Sv (ps rs:List Pa):Prop:=∃ (s:RSt) (e:Ev),ps=[s.pa,e.pa]∧s.ok∧rs=[(s.oz e).1.pa,pB (s.oz e).2]
def Qg:Env:=e1 64 yx (e1 66 tu (e1 65 Gz (e1 67 uY (e1 68 GH e0))))
theorem EM:aD Try.prog Qg:=aD.e1 Ko (aD.e1 CQ (aD.e1 RF (aD.e1 FP (aD.e1 RI aD.e0))))
theorem VK:Spec Try.prog 22 Sv:=by
 refine sp22 EM ?_;rintro ps rs ⟨s,e,rfl,hok,rfl⟩;refine ⟨by simp,?_⟩;unfold pc22;refine aH ?_;simp only [↓evP,evB,stB,reduceIte,seval,RSt.pa,RSt.row,Ev.pa,Ev.row];refine aB [pB e.valid] ⟨e,rfl,rfl⟩ ?_
 cases hv:e.valid with
 | false =>
   have ha:s.oz e=(s,false):=by unfold RSt.oz RSt.admits;rw [hv];rfl
   rw [ha];simp only [↓evP,evB,stB,reduceIte,reduceCtorEq,seval,pr22]
 | true =>
 by_cases b1:s.count≥5000
 ·have ha:s.oz e=(s,false):=by unfold RSt.oz RSt.admits;rw [decide_eq_false (show ¬ s.count < 5000 by omega)];simp
  rw [ha];simp only [↓evP,evB,stB,reduceIte,reduceCtorEq,seval,b1,decide_true,pr22]
 by_cases b2:e.g≥s.gor
 ·have ha:s.oz e=(s,false):=by unfold RSt.oz RSt.admits;rw [decide_eq_false (show ¬ e.g < s.gor by omega)];simp
  rw [ha];simp only [↓evP,evB,stB,reduceIte,reduceCtorEq,seval,b1,b2,decide_true,decide_false,pr22]
 have had:s.admits e=true:=by unfold RSt.admits;rw [hv,decide_eq_true (show s.count < 5000 by omega),decide_eq_true (show e.g < s.gor by omega)];rfl
 have hcnt:=RSt.CB s e;have hc0:=hok.ct
 have ha:s.oz e=if (s.lG e).2=true then ({ (s.lG e).1 with count:=(s.lG e).1.count+1 },true) else (s,false):=by
  unfold RSt.oz
  by_cases h:(s.lG e).2=true
  ·rw [if_pos ⟨had,h⟩,if_pos h]
  ·rw [if_neg (fun h'=>h h'.2),if_neg h]
 rw [ha];clear ha
 by_cases b3:s.next.length > 0
 ·have hpart:s.lG e=s.jF e:=if_pos b3;have b3':(s.next.length:Int) > 0:=by omega
  rw [hpart] at hcnt ⊢;simp only [↓evP,evB,stB,reduceIte,reduceCtorEq,seval,b1,b2,b3',decide_true,decide_false];refine aB [(s.jF e).1.pa,pB (s.jF e).2] ⟨s,e,rfl,⟨hok,fun h=>by rw [h] at b3;exact absurd b3 (by decide)⟩,rfl⟩ ?_
  generalize s.jF e=tr at *;obtain ⟨u,b⟩:=tr;have hw:IntKind.i64.wrap (u.count+1)=u.count+1:=oL (by simp only at hcnt;omega) (by simp only at hcnt;omega)
  cases b with
  | true =>
    simp only [↓evP,evB,stB,reduceIte,reduceCtorEq,seval,RSt.pa,RSt.row,hw,pr22]
  | false =>
    simp only [↓evP,evB,stB,reduceIte,reduceCtorEq,seval,RSt.pa,RSt.row,hw,pr22]
 ·have b3':¬ (s.next.length:Int) > 0:=by omega
  simp only [↓evP,evB,stB,reduceIte,reduceCtorEq,seval,b1,b2,b3',decide_false];refine aB [pB (dL e.kind)] ⟨e.kind,rfl,rfl⟩ ?_
  cases b4:dL e.kind with
  | true =>
    have hpart:s.lG e=s.fA e:=(if_neg b3).trans (if_pos b4);rw [hpart] at hcnt ⊢;simp only [↓evP,evB,stB,reduceIte,reduceCtorEq,seval];refine aB [(s.fA e).1.pa,pB (s.fA e).2] ⟨s,e,rfl,hok,rfl⟩ ?_;generalize s.fA e=tr at *;obtain ⟨u,b⟩:=tr;have hw:IntKind.i64.wrap (u.count+1)=u.count+1:=oL (by simp only at hcnt;omega) (by simp only at hcnt;omega)
    cases b with
    | true =>
      simp only [↓evP,evB,stB,reduceIte,reduceCtorEq,seval,RSt.pa,RSt.row,hw,pr22]
    | false =>
      simp only [↓evP,evB,stB,reduceIte,reduceCtorEq,seval,RSt.pa,RSt.row,hw,pr22]
  | false =>
    have hpart:s.lG e=s.eY e:=(if_neg b3).trans (if_neg (by rw [b4];decide))
    rw [hpart] at hcnt ⊢;simp only [↓evP,evB,stB,reduceIte,reduceCtorEq,seval];refine aB [(s.eY e).1.pa,pB (s.eY e).2] ⟨s,e,rfl,hok,rfl⟩ ?_;generalize s.eY e=tr at *;obtain ⟨u,b⟩:=tr;have hw:IntKind.i64.wrap (u.count+1)=u.count+1:=oL (by simp only at hcnt;omega) (by simp only at hcnt;omega)
    cases b with
    | true =>
      simp only [↓evP,evB,stB,reduceIte,reduceCtorEq,seval,RSt.pa,RSt.row,hw,pr22]
    | false =>
      simp only [↓evP,evB,stB,reduceIte,reduceCtorEq,seval,RSt.pa,RSt.row,hw,pr22]
end Go.Proofs.Ytffcpijeebagfaa
end
section
namespace Go.Proofs.Ytffcpijeebagfaa
open Go
def RSt.aft (r:RSt):List Ev→RSt
 | []=>r
 | e :: l=>if (r.oz e).2=true then (r.oz e).1.aft l else r
structure RAt (l:List Ev) (k:Nat) (r:RSt) (t:TS):Prop where
 le:k≤l.length
 st:TS.new.steps (l.take k)=some t
 rl:Rel r t
 af:RSt.new.aft l=r.aft (l.drop k)
theorem RAt.zero (l:List Ev):RAt l 0 RSt.new TS.new:=⟨Nat.zero_le _,rfl,Rel.new,rfl⟩
theorem RAt.wf {l:List Ev} {k:Nat} {r:RSt} {t:TS} (h:RAt l k r t):t.wf:=TS.NZ TS.O9 h.st
theorem RAt.ok {l:List Ev} {k:Nat} {r:RSt} {t:TS} (h:RAt l k r t):r.ok:=h.rl.ok h.wf
theorem RAt.step {l:List Ev} {k:Nat} {r:RSt} {t:TS} (h:RAt l k r t) {e:Ev} (he:l[k]? = some e) :
 (∃ r' t',r.oz e=(r',true)∧t.add e=some t'∧RAt l (k+1) r' t')∨(r.oz e=(r,false)∧chk l=k∧RSt.new.aft l=r):=by
 obtain ⟨hk,hx⟩:=List.getElem?_eq_some_iff.1 he;have hs:=h.rl.step h.wf e;have hd:l.drop k=e :: l.drop (k+1):=by rw [List.drop_eq_getElem_cons hk,hx]
 cases ha:t.add e with
 | some t' =>
   rw [ha] at hs;obtain ⟨r',h1,h2⟩:=hs;refine .inl ⟨r',t',h1,rfl,hk,?_,h2,?_⟩
   ·rw [TS.uD hk,h.st,hx];exact ha
   ·rw [h.af,hd,RSt.aft,h1];rfl
 | none =>
   rw [ha] at hs;refine .inr ⟨hs,TS.A8 h.le h.st (fun e' he'=>?_),?_⟩
   ·rw [he] at he';cases he';exact ha
   ·rw [h.af,hd,RSt.aft,hs];rfl
theorem RAt.all {l:List Ev} {r:RSt} {t:TS} (h:RAt l l.length r t):chk l=l.length∧RSt.new.aft l=r:=by
 refine ⟨TS.A8 (Nat.le_refl _) h.st (fun e he=>?_),?_⟩
 ·rw [List.getElem?_eq_none (Nat.le_refl _)] at he;cases he
 ·rw [h.af,List.drop_length];rfl
theorem Rel.JQ {r:RSt} {t:TS} (h:Rel r t):t.isOpen=decide (0 < r.next.length):=by
 unfold TS.isOpen;rw [h.gp.kinds,List.length_map]
theorem RAt.whole {l:List Ev} {k:Nat} {r:RSt} {t:TS} (h:RAt l (k+1) r t):TS.new.sD l (k+1)=if r.next.length=0 then k+1 else TS.new.sD l k:=by
 simp only [TS.sD,h.st];rw [h.rl.JQ]
 by_cases hn:r.next.length=0
 ·rw [if_pos hn,if_neg (by rw [hn];decide)]
 ·rw [if_neg hn,if_pos (decide_eq_true (by omega))]
end Go.Proofs.Ytffcpijeebagfaa
end
section
namespace Go.Proofs.Ytffcpijeebagfaa
open Go Go.RowKit
set_option maxRecDepth 100000
set_option maxHeartbeats 4000000
def Oz (ps rs:List Pa):Prop:=ps=[]∧rs=[RSt.new.pa]
theorem UZ:Spec Try.prog 20 Oz:=by
 refine sp20 aD.e0 ?_;rintro ps rs ⟨rfl,rfl⟩;refine ⟨by simp,?_⟩;unfold pc20;refine aH ?_;simp only [↓evP,evB,stB,reduceIte,reduceCtorEq,seval,RSt.pa,RSt.row,RSt.new,pr20]
def LM:Env:=e1 20 Oz (e1 22 Sv e0)
theorem tN:aD Try.prog LM:=aD.e1 UZ (aD.e1 VK aD.e0)
def CZ (ps rs:List Pa):Prop:=∃ l:List Ev,ps=[fV l]∧l.length≤1000000∧rs=[pI (chk l),pB (decide (chk l=l.length))]
theorem NR:Spec Try.prog 72 CZ:=by
 refine sp72 tN ?_;rintro ps rs ⟨l,rfl,hlen,rfl⟩;refine ⟨by simp,?_⟩;unfold pc72;refine aH ?_;simp only [↓evP,evB,stB,seval,fV,lu];refine aB [RSt.new.pa] ⟨rfl,rfl⟩ ?_;simp only [↓evP,evB,stB,Nat.reduceEqDiff,Nat.reduceAdd,Nat.reduceLeDiff,RSt.pa,RSt.row];refine cZ ms72_0 os72_0 (fun m st=>∃ k:Nat,∃ r t,m=l.length - k∧RAt l k r t∧st.sl 5=aI k∧st.gen 4=1∧st.ob 4=.cells (r.row.map .d)) l.length ?_ ?_
 ·exact ⟨0,_,_,rfl,RAt.zero l,by simp only [stB,Nat.reduceEqDiff];rfl,by simp only [stB],by simp only [stB,RSt.row]⟩
 ·rintro m j ⟨k,r,t,rfl,hat,h5,g4,o4⟩;simp only [stB,reduceIte,seval,RSt.row] at h5 g4 o4;have hk:=hat.le
  rcases Nat.lt_or_ge k l.length with hlt | hge
  ·obtain ⟨e,he⟩:∃ e,l[k]? = some e:=⟨_,List.getElem?_eq_getElem hlt⟩
   have hlt':(k:Int) < (l.length:Int):=by omega
   simp only [↓evP,evB,stB,reduceIte,reduceCtorEq,seval,h5,g4,o4,he,hlt',Ev.row];refine bP [(r.oz e).1.pa,pB (r.oz e).2] ⟨r,e,rfl,hat.ok,rfl⟩ ?_
   rcases hat.step he with ⟨r',t',h1,_,hat'⟩ | ⟨h1,hc,haf⟩
   ·rw [h1];simp only [↓evP,evB,stB,reduceIte,reduceCtorEq,seval,h5,g4,o4,RSt.pa,RSt.row];refine ⟨(by unfold Drw;kernel_rfl),?_⟩
    exact ⟨_,by omega,(by repeat' (first | assumption | exact aN.mpr trivial | exact Within.refl _ _ _ | (refine bg ?_ rfl rfl) | (refine aS ?_ rfl))),k+1,r',t',rfl,hat',by simp only [stB,reduceIte,seval];rw [wrN (by omega)],by simp only [stB,reduceIte,seval,g4],by simp only [stB,reduceIte,seval,o4]⟩
   ·rw [h1];simp only [↓evP,evB,stB,reduceIte,reduceCtorEq,seval,h5,g4,o4,RSt.pa,RSt.row,pr72];refine ⟨(by unfold Drw;kernel_rfl),?_⟩
    rw [hc,decide_eq_false (by omega)]
  ·have hkl:k=l.length:=by omega
   subst hkl;have hlt':¬ (l.length:Int) < (l.length:Int):=by omega
   simp only [↓evP,evB,stB,reduceIte,reduceCtorEq,seval,h5,g4,o4,hlt',RSt.row,pr72];rw [hat.all.1,decide_eq_true rfl]
def CY (ps rs:List Pa):Prop:=∃ l:List Ev,ps=[fV l]∧l.length≤1000000∧rs=[(RSt.new.aft l).pa]
theorem NQ:Spec Try.prog 108 CY:=by
 refine sp108 tN ?_;rintro ps rs ⟨l,rfl,hlen,rfl⟩;refine ⟨by simp,?_⟩;unfold pc108;refine aH ?_;simp only [↓evP,evB,stB,seval,fV,lu];refine aB [RSt.new.pa] ⟨rfl,rfl⟩ ?_;simp only [↓evP,evB,stB,Nat.reduceEqDiff,Nat.reduceAdd,Nat.reduceLeDiff,RSt.pa,RSt.row];refine cZ ms108_0 os108_0 (fun m st=>∃ k:Nat,∃ r t,m=l.length - k∧RAt l k r t∧st.sl 4=aI k∧st.gen 3=1∧st.ob 3=.cells (r.row.map .d)∧st.gen 2=1∧st.ob 2=.cells [.d (dI 0),.d (dI 0),.d (.sc (.slice none 0 0)),.d (.sc (.slice none 0 0)),.d (.sc (.slice none 0 0)),.d (.sc (.slice none 0 0)),.d (dI 0),.d (dI 0),.d (dI 0)]) l.length ?_ ?_
 ·exact ⟨0,_,_,rfl,RAt.zero l,by simp only [stB,Nat.reduceEqDiff];rfl,by simp only [stB,Nat.reduceEqDiff],by simp only [stB,Nat.reduceEqDiff,RSt.row],by simp only [stB,Nat.reduceEqDiff],by simp only [stB,Nat.reduceEqDiff]⟩
 ·rintro m j ⟨k,r,t,rfl,hat,h5,g4,o4,g2,o2⟩;simp only [stB,reduceIte,seval,RSt.row] at h5 g4 o4 g2 o2;have hk:=hat.le
  rcases Nat.lt_or_ge k l.length with hlt | hge
  ·obtain ⟨e,he⟩:∃ e,l[k]? = some e:=⟨_,List.getElem?_eq_getElem hlt⟩
   have hlt':(k:Int) < (l.length:Int):=by omega
   simp only [↓evP,evB,stB,reduceIte,reduceCtorEq,seval,h5,g4,o4,he,hlt',g2,o2,Ev.row];refine bP [(r.oz e).1.pa,pB (r.oz e).2] ⟨r,e,rfl,hat.ok,rfl⟩ ?_
   rcases hat.step he with ⟨r',t',h1,_,hat'⟩ | ⟨h1,hc,haf⟩
   ·rw [h1];simp only [↓evP,evB,stB,reduceIte,reduceCtorEq,seval,h5,g4,o4,RSt.pa,RSt.row];refine ⟨(by unfold Drw;kernel_rfl),?_⟩
    exact ⟨_,by omega,(by repeat' (first | assumption | exact aN.mpr trivial | exact Within.refl _ _ _ | (refine bg ?_ rfl rfl) | (refine aS ?_ rfl))),k+1,r',t',rfl,hat',by simp only [stB,reduceIte,seval];rw [wrN (by omega)],by simp only [stB,reduceIte,seval,g4],by simp only [stB,reduceIte,seval,o4],by simp only [stB,reduceIte,seval,g2],by simp only [stB,reduceIte,seval,o2]⟩
   ·rw [h1];simp only [↓evP,evB,stB,reduceIte,reduceCtorEq,seval,h5,g4,o4,g2,o2,RSt.pa,RSt.row,pr108];refine ⟨(by unfold Drw;kernel_rfl),?_⟩
    rw [haf]
  ·have hkl:k=l.length:=by omega
   subst hkl;have hlt':¬ (l.length:Int) < (l.length:Int):=by omega
   simp only [↓evP,evB,stB,reduceIte,reduceCtorEq,seval,h5,g4,o4,hlt',g2,o2,RSt.row,pr108];rw [hat.all.2]
def ou (ps rs:List Pa):Prop:=∃ l:List Ev,ps=[fV l]∧l.length≤1000000∧rs=[pB (decide (chk l=l.length))]
def EN:Env:=e1 72 CZ e0
theorem rP:Spec Try.prog 27 ou:=by
 refine sp27 (show aD Try.prog EN from aD.e1 NR aD.e0) ?_;rintro ps rs ⟨l,rfl,hlen,rfl⟩;refine ⟨by simp,?_⟩;unfold pc27;refine aH ?_;simp only [↓evP,evB,stB,reduceIte,reduceCtorEq,seval,fV,lu];refine aB [pI (chk l),pB (decide (chk l=l.length))] ⟨l,rfl,hlen,rfl⟩ ?_;simp only [↓evP,evB,stB,reduceIte,reduceCtorEq,seval,pr27]
def yh (l:List Ev):Int:=if chk l=l.length then (RSt.new.aft l).gor else 0
def Oy (ps rs:List Pa):Prop:=∃ l:List Ev,ps=[fV l]∧l.length≤1000000∧rs=[pI (yh l)]
def LJ:Env:=e1 27 ou (e1 108 CY e0)
theorem UY:Spec Try.prog 82 Oy:=by
 refine sp82 (show aD Try.prog LJ from aD.e1 rP (aD.e1 NQ aD.e0)) ?_;rintro ps rs ⟨l,rfl,hlen,rfl⟩;refine ⟨by simp,?_⟩;unfold pc82;refine aH ?_;simp only [↓evP,evB,stB,reduceIte,reduceCtorEq,seval,fV,lu];refine aB [pB (decide (chk l=l.length))] ⟨l,rfl,hlen,rfl⟩ ?_;unfold yh
 by_cases h:chk l=l.length
 ·simp only [↓evP,evB,stB,reduceIte,reduceCtorEq,seval,h,decide_true];refine aB [(RSt.new.aft l).pa] ⟨l,rfl,hlen,rfl⟩ ?_;simp only [↓evP,evB,stB,reduceIte,reduceCtorEq,seval,RSt.pa,RSt.row,pr82]
 ·simp only [↓evP,evB,stB,reduceIte,reduceCtorEq,seval,h,decide_false,pr82]
theorem CS {s t:TS} {l:List Ev} (h:s.steps l=some t):∀ e,e ∈ l→e.valid=true:=by
 induction l generalizing s with
 | nil=>intro e he;simp at he
 | cons a l ih =>
   intro e he;simp only [TS.steps,Option.bind_eq_some_iff] at h;obtain ⟨u,hu,hs⟩:=h
   rcases List.mem_cons.1 he with rfl | he
   ·unfold TS.add at hu;split at hu
    ·rename_i ha;unfold TS.admits at ha;simp only [Bool.and_eq_true] at ha;exact ha.1.1
    ·cases hu
   ·exact ih hs e he
theorem IC {l:List Ev} (h:chk l=l.length):∀ e,e ∈ l→e.valid=true:=by
 obtain ⟨t,ht⟩:=TS.yE TS.new l (Nat.le_refl _);unfold chk at h;rw [h,List.take_length] at ht;exact CS ht
def RX (l:List Ev):List Ck:=if chk l=l.length then eF l else []
def errOf (l:List Ev):Int:=if chk l=l.length then 0 else 1
def CV (ps rs:List Pa):Prop:=∃ l:List Ev,ps=[fV l]∧l.length≤1000000∧rs=[Eu (RX l),pI (errOf l)]
end Go.Proofs.Ytffcpijeebagfaa
end
section
namespace Go.Proofs.Ytffcpijeebagfaa
open Go Go.RowKit
set_option maxRecDepth 100000
set_option maxHeartbeats 4000000
open Classical
noncomputable def uO (l:List Ev) (n i:Nat):List Dt:=[.im ((List.range n).map fun j=>[dB (decide (HB l i j))])]
noncomputable def Pz (l:List Ev):Pa:=.one (.im ((List.range l.length).map (uO l l.length)))
def GI (ps rs:List Pa):Prop:=∃ l:List Ev,ps=[fV l]∧(l.length≤1000000∧∀ e,e ∈ l→e.valid=true)∧rs=[Pz l]
theorem RJ:Spec Try.prog 73 GI:=by
 rintro ps rs ⟨l,rfl,⟨hlen,hv⟩,rfl⟩ S w vals _ hvl;obtain ⟨u,rfl,h1⟩:=hvl.one;refine (NG w S u l h1 hlen hv).mono ?_;rintro e w' ⟨rfl,hG⟩;refine ⟨_,fun b=>if b < w.heap.size then S b else l.length,rfl,?_,hG.bel,fun b hb=>if_pos hb⟩
 show RD _ w' _ _
 have hrow:∀ i,i < l.length→RD (fun b=>if b < w.heap.size then S b else l.length) w' (.im ((List.range l.length).map fun j=>[dB (decide (HB l i j))])) (.slice (some ⟨w.heap.size+1+i,0,none⟩) l.length l.length):=fun i hi=>by
  have hl:l.length=((List.range l.length).map fun j=>[dB (decide (HB l i j))]).length:=by simp
  conv=>rhs;rw [show (Value.slice (some ⟨w.heap.size+1+i,0,none⟩) l.length l.length)=.slice (some ⟨w.heap.size+1+i,0,none⟩) ((List.range l.length).map fun j=>[dB (decide (HB l i j))]).length l.length by rw [←hl]]
  refine RD.im _ 1 _ 0 l.length (fun j _=>.bool (decide (HB l i j))) (by rw [←hl];exact Nat.le_refl _) (by unfold maxLen;omega) ?_ ?_ ?_
  ·intro r hr;obtain ⟨x,_,rfl⟩:=List.mem_map.1 hr;rfl
  ·intro j k hj hk;rw [←hl] at hj;have h0:0+(j * 1+k)=j:=by omega
   rw [h0];refine ⟨(hG.row i hi).cell hj,?_⟩;rw [if_neg (by omega)];exact hj
  ·intro j r k x hr hx;rw [List.getElem?_map,Option.map_eq_some_iff] at hr;obtain ⟨j',hj',rfl⟩:=hr
   have hjj:j'=j:=by
    have hjl:=(List.getElem?_eq_some_iff.1 hj').1;rw [List.length_range] at hjl;rw [List.getElem?_range hjl] at hj';cases hj';rfl
   subst hjj
   match k,hx with
   | 0,hx=>simp at hx;subst hx;exact .sc _ rfl
 have hl:l.length=((List.range l.length).map (uO l l.length)).length:=by simp
 conv=>rhs;rw [show (Value.slice (some ⟨w.heap.size,0,none⟩) l.length l.length)=.slice (some ⟨w.heap.size,0,none⟩) ((List.range l.length).map (uO l l.length)).length l.length by rw [←hl]]
 refine RD.im _ 1 _ 0 l.length (fun i _=>.slice (some ⟨w.heap.size+1+i,0,none⟩) l.length l.length) (by rw [←hl];exact Nat.le_refl _) (by unfold maxLen;omega) ?_ ?_ ?_
 ·intro r hr;obtain ⟨x,_,rfl⟩:=List.mem_map.1 hr;rfl
 ·intro j k hj hk;rw [←hl] at hj;have h0:0+(j * 1+k)=j:=by omega
  rw [h0];refine ⟨hG.head hj,?_⟩;rw [if_neg (by omega)];exact hj
 ·intro j r k x hr hx;rw [List.getElem?_map,Option.map_eq_some_iff] at hr;obtain ⟨j',hj',rfl⟩:=hr;have hjl:=(List.getElem?_eq_some_iff.1 hj').1;rw [List.length_range] at hjl
  have hjj:j'=j:=by
   rw [List.getElem?_range hjl] at hj';cases hj';rfl
  subst hjj
  match k,hx with
  | 0,hx=>simp [uO] at hx;subst hx;exact hrow _ hjl
noncomputable def uS (l:List Ev) (j n:Nat):Ck:=(List.range 8).map fun (g:Nat)=>(lU l (g:Int) j n:Int)
theorem lM (l:List Ev) (j n:Nat):(uS l j n).length=8:=by simp [uS]
theorem qV (l:List Ev) (j n:Nat) {g:Nat} (h:g < 8):(uS l j n)[g]? = some (lU l (g:Int) j n:Int):=by
 unfold uS;rw [List.getElem?_map,List.getElem?_range h];rfl
theorem Lu (l:List Ev) (g:Int) (j n:Nat):lU l g j n≤n:=by
 induction n with
 | zero=>exact Nat.le_refl _
 | succ n ih=>simp only [lU];split <;> omega
theorem IJ (l:List Ev) (j:Nat):uS l j 0=ckZ:=by
 unfold uS ckZ;rfl
theorem Lr {l:List Ev} {j n:Nat} (h0:0≤(ay l n).g) (h8:(ay l n).g < 8) (hb:HBE l n j):(uS l j n).set (ay l n).g.toNat ((lU l (ay l n).g j n:Int)+1)=uS l j (n+1):=by
 apply List.ext_getElem?
 intro g;rw [List.getElem?_set]
 by_cases hg:g < 8
 ·rw [qV l j (n+1) hg,qV l j n hg];simp only [lU]
  by_cases he:(ay l n).g.toNat=g
  ·have he':(ay l n).g=(g:Int):=by omega
   rw [if_pos he,if_pos (by rw [lM];omega),if_pos ⟨he',hb⟩,he'];rfl
  ·rw [if_neg he,if_neg (fun h=>he (by omega))]
 ·rw [List.getElem?_eq_none (by rw [lM];omega),List.getElem?_eq_none (by rw [lM];omega)]
  split
  ·split <;> first | rfl | (rename_i h1 h2;rw [lM] at h2;omega)
  ·rfl
theorem II {l:List Ev} {j n:Nat} (hb:¬ HBE l n j):uS l j n=uS l j (n+1):=by
 unfold uS
 apply List.map_congr_left
 intro g _;simp only [lU];rw [if_neg (fun h=>hb h.2)]
theorem Ls {l:List Ev} (V:VL l) {j:Nat} (h:j < l.length):uS l j (j+1)=stp l j:=by
 apply List.ext_getElem?
 intro g
 by_cases hg:g < 8
 ·rw [qV l j (j+1) hg];have:=RY V h (g:=(g:Int)) (by omega) (by omega);rw [Int.toNat_natCast] at this;rw [←this,List.getD_eq_getElem?_getD,List.getElem?_eq_getElem (by rw [iZ];omega)];rfl
 ·rw [List.getElem?_eq_none (by rw [lM];omega),List.getElem?_eq_none (by rw [iZ];omega)]
theorem CR {l:List Ev} {j:Nat} (h:j < l.length):(eF l).take (j+1)=(eF l).take j ++ [stp l j]:=by
 rw [List.take_add_one]
 congr 1
 unfold stp;rw [List.getD_eq_getElem?_getD,List.getElem?_eq_getElem (by rw [jE];exact h)];rfl
end Go.Proofs.Ytffcpijeebagfaa
end
section
namespace Go.Proofs.Ytffcpijeebagfaa
open Go Go.RowKit
set_option maxRecDepth 100000
set_option maxHeartbeats 4000000
theorem Kv {ms os ms' os':List Nat} {s0 b j:St} (h:Within ms os s0 b) (hm:ms'.all (fun x=>ms.contains x)=true) (ho:os'.all (fun x=>os.contains x)=true):Within ms os s0 (over ms' os' b j):=by
 have h1:∀ x,ms.contains x=false→ms'.contains x=false:=fun x hx=>by
  cases hc:ms'.contains x with
  | false=>rfl
  | true=>rw [List.all_eq_true] at hm;rw [hm x (by simpa using hc)] at hx;cases hx
 have h2:∀ x,os.contains x=false→os'.contains x=false:=fun x hx=>by
  cases hc:os'.contains x with
  | false=>rfl
  | true=>rw [List.all_eq_true] at ho;rw [ho x (by simpa using hc)] at hx;cases hx
 refine ⟨fun x hx=>?_,fun o hx=>⟨?_,?_⟩⟩
 ·rw [Ar,h1 x hx];exact h.1 x hx
 ·rw [xB,h2 o hx];exact (h.2 o hx).1
 ·rw [Aq,h2 o hx];exact (h.2 o hx).2
def KU (cs:List Ck):Prop:=∀ c,c ∈ cs→c.length=8
theorem KU.set {cs:List Ck} (h:KU cs) {i:Nat} {d:Ck} (hd:d.length=8):KU (cs.set i d):=fun c hc=>by
 rcases List.mem_or_eq_of_mem_set hc with hc | rfl
 ·exact h c hc
 ·exact hd
theorem KU.app {a b:List Ck} (ha:KU a) (hb:KU b):KU (a ++ b):=fun c hc=>by
 rcases List.mem_append.1 hc with h | h
 ·exact ha c h
 ·exact hb c h
end Go.Proofs.Ytffcpijeebagfaa
end
section
namespace Go.Proofs.Ytffcpijeebagfaa
open Go Go.RowKit
set_option maxRecDepth 100000
set_option maxHeartbeats 4000000
open Classical
theorem za {n i:Nat} (h:i < n):(List.range n)[i]? = some i:=List.getElem?_range h
def BM:Env:=e1 27 ou (e1 73 GI e0)
theorem J7:Spec Try.prog 29 CV:=by
 refine sp29 (show aD Try.prog BM from aD.e1 rP (aD.e1 RJ aD.e0)) ?_;rintro ps rs ⟨l,rfl,hlen,rfl⟩;refine ⟨by simp,?_⟩;unfold pc29;refine aH ?_;simp only [↓evP,evB,stB,reduceIte,reduceCtorEq,seval,fV,lu];refine aB [pB (decide (chk l=l.length))] ⟨l,rfl,hlen,rfl⟩ ?_;unfold RX errOf
 by_cases hc:chk l=l.length
 ·have V:=VL.of hc;rw [if_pos hc,if_pos hc,decide_eq_true hc];simp only [↓evP,evB,stB,reduceIte,reduceCtorEq,seval];refine aB [Pz l] ⟨l,rfl,⟨hlen,V.v⟩,rfl⟩ ?_;simp only [↓evP,evB,stB,reduceIte,seval,Pz];refine mO [0,4,5,6] [5] (fun S hs ho=>?_);simp only [stB,reduceIte,reduceCtorEq,seval] at hs ho;obtain ⟨q0,q4,q5,q6⟩:=hs;obtain ⟨r5,t5⟩:=ho;refine cZ ms29_0 os29_0 (fun m st=>∃ j:Nat,m=l.length - j∧j≤l.length∧st.sl 6=aI j∧st.sl 5=.b (.one (.own 5 1 (((eF l).take j).map kM)))∧st.gen 5=1∧st.ob 5=.row 53 8 j) l.length ?_ ?_
  ·exact ⟨0,rfl,Nat.zero_le _,q6,q5,r5,t5⟩
  ·rintro m z ⟨j,rfl,hj,h6,h5,g5,o5⟩;simp only [stB,seval] at h6 h5 g5 o5
   rcases Nat.lt_or_ge j l.length with hlt | hge
   ·have hlt':(j:Int) < (l.length:Int):=by omega
    have hj0:(0:Int)≤(j:Int):=by omega
    simp only [↓evP,evB,stB,reduceIte,reduceCtorEq,seval,q0,h6,h5,hlt']
    refine FI (fun st=>Within ms29_0 os29_0 S st) (by repeat' (first | assumption | exact aN.mpr trivial | exact Within.refl _ _ _ | (refine bg ?_ rfl rfl) | (refine aS ?_ rfl))) [0,4,5,6,7,8] [5,7] (fun T hwT hs2 ho2=>?_);simp only [stB,reduceIte,reduceCtorEq,seval,q0,q4,h6,h5,g5,o5] at hs2 ho2;obtain ⟨p0,p4,p5,p6,p7,p8⟩:=hs2;obtain ⟨⟨r5',t5'⟩,r7,t7⟩:=ho2;rw [←r7] at p7;clear r7;refine cZ ms29_1 os29_1 (fun m st=>∃ i:Nat,m=j+1 - i∧i≤j+1∧st.sl 8=aI i∧st.gen 7=T.gen 7∧st.ob 7=.cells (aK (uS l j i))) (j+1) ?_ ?_
    ·exact ⟨0,rfl,Nat.zero_le _,p8,rfl,by rw [t7,IJ];rfl⟩
    ·rintro m2 z2 ⟨i,rfl,hi,h8,g7,o7⟩;simp only [stB,seval] at h8 g7 o7;have r2:=za hlt
     rcases Nat.lt_or_ge j i with hij | hij
     ·have hi':i=j+1:=by omega
      subst hi';have hle:¬ ((j+1:Nat):Int)≤(j:Int):=by omega
      rw [Ls V hlt] at o7;have c8:=iZ (l:=l) (j:=j);have e1:(aK (stp l j)).length=8:=by rw [aJ,c8]
      have e2:8≤(aK (stp l j)).length:=by omega
      have e3:(aK (stp l j)).take 8=aK (stp l j):=List.take_of_length_le (by omega);have e4:(kM (stp l j)).take 8=kM (stp l j):=List.take_of_length_le (by unfold kM;rw [List.length_map];omega)
      have e5:(kM (stp l j)).length=8:=by unfold kM;rw [List.length_map,c8]
      have e6:((eF l).take j).length=j:=by rw [List.length_take,jE];omega
      have e7:((eF l).take j).map kM ++ [kM (stp l j)]=((eF l).take (j+1)).map kM:=by rw [CR hlt,List.map_append];rfl
      have e8:j+1≤1000000:=by omega
      simp only [↓evP,evB,stB,reduceIte,reduceCtorEq,seval,p0,p4,p5,p6,p7,h8,r5',t5',g7,o7,hle,e1,e3,e4,e5,e6,e7,e8,bY,Nat.reduceLeDiff]
      exact ⟨_,by omega,(by repeat' (first | assumption | exact aN.mpr trivial | (refine bg ?_ rfl rfl) | (refine aS ?_ rfl) | refine Kv ?_ (by decide) (by decide))),j+1,rfl,hlt,by simp only [stB,reduceIte,seval];rw [wrN (by omega)],by simp only [stB,reduceIte,seval],by simp only [stB,reduceIte,seval,r5'],by simp only [stB,reduceIte,seval,t5']⟩
     ·have hle:(i:Int)≤(j:Int):=by omega
      have hi0:(0:Int)≤(i:Int):=by omega
      have r1:=za (show i < l.length by omega);have ei:=iB (l:=l) (i:=i) (by omega);have hg:=V.g (i:=i) (by omega);have hg0:=hg.1;have hg8:(ay l i).g < ((8:Nat):Int):=hg.2;have f1:=gW _ _ _ (qV l j i (g:=(ay l i).g.toNat) (by omega));rw [Int.toNat_of_nonneg hg0] at f1;have f2:(ay l i).g.toNat+1≤(aK (uS l j i)).length:=by rw [aJ,lM];omega
      have hcl:=Lu l (ay l i).g j i;have hw:IntKind.i64.wrap ((lU l (ay l i).g j i:Int)+1)=(lU l (ay l i).g j i:Int)+1:=oL (by omega) (by omega)
      by_cases hb:HBE l i j
      ·have f3:=(nY (uS l j i) (ay l i).g.toNat ((lU l (ay l i).g j i:Int)+1) (by rw [lM];omega)).trans (congrArg aK (Lr hg0 hg.2 hb))
       cases hq:((i:Int) == (j:Int)) with
       | true =>
         simp only [↓evP,evB,stB,reduceCtorEq,Nat.reduceEqDiff,Nat.reduceAdd,Nat.reduceBEq,p0,p5,p6,p7,h8,g7,o7,hle,hq,hi0,ei,Ev.row,hg0,hg8,f1,f2,hw,Nat.mul_one]
         exact ⟨_,by omega,(by repeat' (first | assumption | exact aN.mpr trivial | exact Within.refl _ _ _ | (refine bg ?_ rfl rfl) | (refine aS ?_ rfl))),i+1,rfl,by omega,by simp only [stB,Nat.reduceEqDiff,Nat.reduceBEq,h8];rw [wrN (by omega)],by simp only [stB,Nat.reduceBEq,g7],by simp only [stB,Nat.reduceBEq,o7,f3]⟩
       | false =>
         have hd:decide (HB l i j)=true:=decide_eq_true (hb.elim (fun h=>by subst h;simp at hq) id)
         simp only [↓evP,evB,stB,reduceCtorEq,Nat.reduceEqDiff,Nat.reduceAdd,Nat.reduceBEq,p0,p4,p5,p6,p7,h8,g7,o7,hle,hq,hi0,hj0,r1,r2,uO,hd,ei,Ev.row,hg0,hg8,f1,f2,hw,Nat.mul_one]
         exact ⟨_,by omega,(by repeat' (first | assumption | exact aN.mpr trivial | exact Within.refl _ _ _ | (refine bg ?_ rfl rfl) | (refine aS ?_ rfl))),i+1,rfl,by omega,by simp only [stB,Nat.reduceEqDiff,Nat.reduceBEq,h8];rw [wrN (by omega)],by simp only [stB,Nat.reduceBEq,g7],by simp only [stB,Nat.reduceBEq,o7,f3]⟩
      ·have hq:((i:Int) == (j:Int))=false:=by
        rw [beq_eq_false_iff_ne];intro h;exact hb (.inl (by omega))
       have hd:decide (HB l i j)=false:=decide_eq_false (fun h=>hb (.inr h));have f3:=II hb;simp only [↓evP,evB,stB,reduceIte,reduceCtorEq,seval,p0,p4,p5,p6,p7,h8,g7,o7,hle,hq,hi0,hj0,r1,r2,uO,hd]
       exact ⟨_,by omega,(by repeat' (first | assumption | exact aN.mpr trivial | exact Within.refl _ _ _ | (refine bg ?_ rfl rfl) | (refine aS ?_ rfl))),i+1,rfl,by omega,by simp only [stB,reduceIte,seval];rw [wrN (by omega)],by simp only [stB,seval,g7],by simp only [stB,seval,o7];rw [←f3]⟩
   ·have hjl:j=l.length:=by omega
    subst hjl;have hlt':¬ (l.length:Int) < (l.length:Int):=by omega
    have e6:(eF l).take l.length=eF l:=List.take_of_length_le (by rw [jE];exact Nat.le_refl _)
    simp only [↓evP,evB,stB,reduceIte,reduceCtorEq,seval,q0,h6,h5,hlt',e6,Eu,pr29]
 ·rw [if_neg hc,if_neg hc,decide_eq_false hc];simp only [↓evP,evB,stB,reduceIte,reduceCtorEq,seval,Eu,pr29]
end Go.Proofs.Ytffcpijeebagfaa
end
section
namespace Go.Proofs.Ytffcpijeebagfaa
open Go Go.RowKit
set_option maxRecDepth 100000
set_option maxHeartbeats 4000000
theorem get_some {c:Ck} (h:c.length=8) {k:Nat} (hk:k < 8):c[k]? = some (c.getD k 0):=by
 rw [List.getD_eq_getElem?_getD,List.getElem?_eq_getElem (by omega)];rfl
def Z37:Nat→Hb:=fun _=>.no
theorem C8:Free Z37 0:=fun _ _=>rfl
def GD (hp:Nat→Hb) (az:List Hw) (Post:(Nat→Hb)→List Hw→Prop):Prop:=∃ l:List Ev,az=[ji (fV l)]∧hp=Z37∧l.length≤9223372036854775807∧Post=fun _ r=>r=[.one (.d (dB true))]
def Ov (ps rs:List Pa):Prop:=∃ l:List Ev,ps=[fV l]∧l.length≤9223372036854775807∧rs=[pB true]
theorem Vu {f:Nat} (h:je Try.prog f GD):Spec Try.prog f Ov:=by
 rintro ps rs ⟨l,rfl,hl,rfl⟩;exact h.toS _ _ ⟨_,⟨l,rfl,rfl,hl,rfl⟩,fun hp' rs' q=>q⟩
end Go.Proofs.Ytffcpijeebagfaa
end
section
namespace Go.Proofs.Ytffcpijeebagfaa
open Go Go.RowKit
set_option maxRecDepth 100000
set_option maxHeartbeats 4000000
open Classical
theorem OO {l:List Ev} (hc:chk l=l.length) {i j:Nat} (hi:i < l.length) (hj:j < l.length) (hij:i≠j):HB l i j↔(stp l i).getD (ay l i).g.toNat 0≤(stp l j).getD (ay l i).g.toNat 0:=by
 have V:=VL.of hc;rw [lI V hi,←hb_iff V hj i hi];exact ⟨.inr,fun h=>h.elim (fun h=>absurd h hij) id⟩
end Go.Proofs.Ytffcpijeebagfaa
end
section
namespace Go.Proofs.Ytffcpijeebagfaa
open Go Go.RowKit
set_option maxRecDepth 100000
set_option maxHeartbeats 4000000
def yu (b:Int→Bool) (ps rs:List Pa):Prop:=∃ k:Int,ps=[pI k]∧rs=[pB (b k)]
theorem yu.mk {b:Int→Bool} (k:Int):yu b [pI k] [pB (b k)]:=⟨k,rfl,rfl⟩
theorem Ii {a b:Bool} (h:a=b):(some [Pa.one (Dt.sc (.bool a))]:Option (List Pa))=some [pB b]:=by rw [h]
theorem DW:Spec Try.prog 86 (yu jH):=by
 refine sp86 (aD.e0) ?_;rintro ps rs ⟨k,rfl,rfl⟩;refine ⟨by simp,?_⟩;unfold pc86;refine aH ?_;simp only [↓evP,evB,stB,reduceIte,reduceCtorEq,seval,pr86]
 repeat' (first | apply And.intro | intro)
 all_goals (try simp only [beq_iff_eq,beq_eq_false_iff_ne,ne_eq] at *)
 all_goals (refine Ii (Bool.eq_iff_iff.2 ?_);simp only [jH,decide_eq_true_eq,beq_iff_eq,true_iff];omega)
theorem J8:Spec Try.prog 89 (yu jH):=by
 refine sp89 (aD.e0) ?_;rintro ps rs ⟨k,rfl,rfl⟩;refine ⟨by simp,?_⟩;unfold pc89;refine aH ?_;simp only [↓evP,evB,stB,reduceIte,reduceCtorEq,seval,pr89]
 repeat' (first | apply And.intro | intro)
 all_goals (try simp only [beq_iff_eq,beq_eq_false_iff_ne,ne_eq] at *)
 all_goals (refine Ii (Bool.eq_iff_iff.2 ?_);simp only [jH,decide_eq_true_eq,beq_iff_eq,true_iff];omega)
def jQ (a b:Ev):Bool:=jH a.kind && (jH b.kind && ((a.g != b.g) && ((a.obj == b.obj) && ((a.off == b.off) && ((a.kind == 2) || (b.kind == 2))))))
def xI (ps rs:List Pa):Prop:=∃ a b:Ev,ps=[a.pa,b.pa]∧rs=[pB (jQ a b)]
theorem xI.mk (a b:Ev):xI [a.pa,b.pa] [pB (jQ a b)]:=⟨a,b,rfl,rfl⟩
theorem M9 {a b:Int} (ha:jH a=true) (hb:jH b=true):((if b > a then b else a) == 2)=((a == 2) || (b == 2)):=by
 unfold jH at ha hb;rw [decide_eq_true_eq] at ha hb
 rcases ha with rfl | rfl <;> rcases hb with rfl | rfl <;> rfl
theorem UN:Spec Try.prog 87 xI:=by
 refine sp87 (aD.e1 DW aD.e0) ?_;rintro ps rs ⟨a,b,rfl,rfl⟩;refine ⟨by simp,?_⟩;have hc:jQ a b=(jH a.kind && (jH b.kind && ((a.g != b.g) && ((a.obj == b.obj) && ((a.off == b.off) && ((a.kind == 2) || (b.kind == 2))))))):=rfl;generalize jQ a b=C at *;unfold pc87;refine aH ?_;simp only [↓evP,evB,stB,reduceIte,seval,Ev.pa,Ev.row];refine aB [pB (jH a.kind)] (by exact yu.mk a.kind) ?_
 cases h1:jH a.kind with
 | false =>
   rw [h1] at hc;simp only [Bool.false_and] at hc;subst hc;simp only [↓evP,evB,stB,reduceIte,reduceCtorEq,seval,pr87]
 | true =>
 simp only [↓evP,evB,stB,reduceIte,reduceCtorEq,seval];refine aB [pB (jH b.kind)] (by exact yu.mk b.kind) ?_
 cases h2:jH b.kind with
 | false =>
   rw [h1,h2] at hc;simp only [Bool.false_and,Bool.true_and] at hc;subst hc;simp only [↓evP,evB,stB,reduceIte,reduceCtorEq,seval,pr87]
 | true =>
 rw [h1,h2] at hc;simp only [Bool.true_and] at hc
 cases h3:a.g != b.g with
 | false =>
   rw [h3] at hc;simp only [Bool.false_and] at hc;subst hc;simp only [↓evP,evB,stB,reduceIte,reduceCtorEq,seval,h3,pr87]
 | true =>
 cases h4:a.obj == b.obj with
 | false =>
   rw [h3,h4] at hc;simp only [Bool.false_and,Bool.true_and] at hc;subst hc;simp only [↓evP,evB,stB,reduceIte,reduceCtorEq,seval,h3,h4,pr87]
 | true =>
 cases h5:a.off == b.off with
 | false =>
   rw [h3,h4,h5] at hc;simp only [Bool.false_and,Bool.true_and] at hc;subst hc;simp only [↓evP,evB,stB,reduceIte,reduceCtorEq,seval,h3,h4,h5,pr87]
 | true =>
 rw [h3,h4,h5] at hc;simp only [Bool.true_and] at hc;have hm:=M9 h1 h2;rw [←hc] at hm;simp only [↓evP,evB,stB,reduceIte,reduceCtorEq,seval,h3,h4,h5,hm,FQ,List.foldl_cons,List.foldl_nil,pr87]
open Classical in
noncomputable def uz (l:List Ev) (i j:Nat):Bool:=jQ (ay l i) (ay l j) && !decide (HB l i j)
noncomputable def dM (l:List Ev) (j i:Nat):List Nat:=(List.range i).filter fun i=>uz l i j
noncomputable def jA (l:List Ev) (j:Nat):List (Nat×Nat):=(List.range j).flatMap fun j=>(dM l j j).map fun i=>(i,j)
def Rk (p:Nat×Nat):List Dt:=[dI p.1,dI p.2]
theorem kP (l:List Ev) (j:Nat):jA l (j+1)=jA l j ++ (dM l j j).map fun i=>(i,j):=by
 unfold jA;rw [List.range_succ,List.flatMap_append];simp
theorem oq (l:List Ev) (j i:Nat):(dM l j i).length≤i:=by
 have:=List.length_filter_le (fun i=>uz l i j) (List.range i);rw [List.length_range] at this;exact this
theorem CJ (l:List Ev) (j:Nat):(jA l j).length≤j * j:=by
 induction j with
 | zero=>exact Nat.le_refl _
 | succ j ih =>
   rw [kP,List.length_append,List.length_map];have:=oq l j j;rw [Nat.succ_mul,Nat.mul_succ];omega
def lN (rs:List (Nat×Nat)):List (List Dt):=rs.map Rk
theorem TP {p:bX} {e:Ev} {c:Ck} (hcl:p.ck.length=8) (hg:0≤e.g∧e.g < 8) (h14:e.kind=14→1≤e.k∧e.k < 8) {g:Int} (h0:0≤g) (h8:g < 8) :
 (p.fin e c).ck.getD g.toNat ckZ=if g=e.g then c else if e.kind=14∧g=e.k then c else p.ck.getD g.toNat ckZ:=by
 unfold bX.fin;dsimp only;rw [O1]
 by_cases k14:e.kind=14
 ·rw [if_pos k14];have:=h14 k14;rw [iL (by rw [List.length_set];omega)]
  by_cases hgg:g=e.g
  ·rw [if_pos hgg,if_pos (by omega)]
  ·rw [if_neg hgg,if_neg (by omega),iL (by omega)]
   by_cases hgk:g=e.k
   ·rw [if_pos (by omega),if_pos ⟨k14,hgk⟩]
   ·rw [if_neg (by omega),if_neg (fun q=>hgk q.2)]
 ·rw [if_neg k14];rw [iL (by omega)]
  by_cases hgg:g=e.g
  ·rw [if_pos hgg,if_pos (by omega)]
  ·rw [if_neg hgg,if_neg (by omega),if_neg (fun q=>k14 q.1)]
def jP (l:List Ev) (g:Int):Nat→Ck
 | 0=>ckZ
 | j+1=>if (ay l j).g=g∨((ay l j).kind=14∧(ay l j).k=g) then stp l j else jP l g j
section
variable {l:List Ev} (hc:chk l=l.length) (hl:l.length≤1000)
include hc hl
theorem wS {j:Nat} (hj:j≤l.length) (g:Int):(jU l j).clock g=jP l g j:=by
 induction j with
 | zero =>
   show bX.clock _ g=ckZ
   unfold bX.clock;split
   ·show (List.replicate 8 ckZ).getD g.toNat ckZ=ckZ
    rw [List.getD_eq_getElem?_getD,List.getElem?_replicate];split <;> rfl
   ·rfl
 | succ j ih =>
   have hlt:j < l.length:=hj;have hT:=wH hc (show l.length≤1000000 by omega) (j:=j) (by omega);have hg:=Ev.wO (mU hc hlt);have hk:=fun q=>Ev.rV (mU hc hlt) q
   have e1:jU l (j+1)=(jU l j).fin (ay l j) (stp l j):=(zY hc (by omega) hlt hT).2;have ih:=ih (by omega);unfold jP;unfold bX.clock at ih ⊢
   by_cases hr:0≤g∧g < 8
   ·rw [if_pos hr] at ih ⊢;rw [e1,TP hT.cl hg hk hr.1 hr.2]
    by_cases q1:g=(ay l j).g
    ·rw [if_pos q1,if_pos (.inl q1.symm)]
    ·rw [if_neg q1]
     by_cases q2:(ay l j).kind=14∧g=(ay l j).k
     ·rw [if_pos q2,if_pos (.inr ⟨q2.1,q2.2.symm⟩)]
     ·rw [if_neg q2,if_neg (fun q=>q.elim (fun q=>q1 q.symm) (fun q=>q2 ⟨q.1,q.2.symm⟩)),ih]
   ·rw [if_neg hr] at ih ⊢;rw [if_neg,ih];rintro (q | ⟨q,q2⟩)
    ·omega
    ·have:=hk q;omega
theorem IE {j:Nat} (hj:j < l.length):jP l (ay l j).g j=bR (aZ l j) (ay l j):=by
 have hg:=Ev.wO (mU hc hj);rw [←wS hc hl (Nat.le_of_lt hj)];unfold bX.clock;rw [if_pos hg,(wH hc (by omega) (Nat.le_of_lt hj)).ck _ hg.1 hg.2];rfl
omit hl in
theorem NY {j:Nat} (hj:j < l.length):(∀ k,k < 8→(bR (aZ l j) (ay l j)).getD k 0≤(stp l j).getD k 0)∧(stp l j).getD (ay l j).g.toNat 0=(bR (aZ l j) (ay l j)).getD (ay l j).g.toNat 0+1:=by
 have V:=VL.of hc;have hg:=V.g hj;have hok:=cu l j;have hcn:=V.cnt (j:=j) (by omega);have h1:=hcn.start hok (e:=ay l j) (by omega) (k:=(ay l j).g.toNat) (by omega);have h3:((aZ l j).cur.getD (ay l j).g.toNat ckZ).getD (ay l j).g.toNat 0=(aZ l j).dg (ay l j).g.toNat:=rfl;have h4:=(hcn.clock (l:=l) (e:=ay l j) hok (by omega)).1;rw [←nR hj] at h4;refine ⟨fun k hk=>?_,by omega⟩
 by_cases hkg:k=(ay l j).g.toNat
 ·rw [hkg];omega
 ·rw [nR hj,ny,qb (by rw [rH hok];omega),if_neg hkg]
  exact (hcn.pre (l:=l) hok (e:=ay l j) (by omega) hk).1
omit hl hc in
theorem Lp {j:Nat} (g:Int):(jP l g j).length=8:=by
 induction j with
 | zero=>rfl
 | succ j ih=>unfold jP;split;exact iZ;exact ih
theorem wR {j:Nat} (hj:j < l.length) (g:Int):∀ k,k < 8→(jP l g j).getD k 0≤(jP l g (j+1)).getD k 0:=by
 intro k hk;have V:=VL.of hc
 show _≤(if (ay l j).g=g∨((ay l j).kind=14∧(ay l j).k=g) then stp l j else jP l g j).getD k 0
 split
 ·rename_i h
  by_cases h1:(ay l j).g=g
  ·rw [←h1,IE hc hl hj];exact (NY hc hj).1 k hk
  ·have h2:=h.resolve_left h1
   have hz:jP l g j=ckZ:=by
    have hn:=OI hc hj h2.1
    have:∀ i,i≤j→jP l g i=ckZ:=fun i=>by
     induction i with
     | zero=>intro _;rfl
     | succ i ih =>
       intro hi;unfold jP;rw [if_neg,ih (by omega)];rintro (q | ⟨q,q2⟩)
       ·have:=vF (l:=l) (g:=g) (p:=i) (n:=j) (by omega) q;rw [h2.2] at hn;omega
       ·have:=V.go i j (by omega) hj q h2.1 (q2.trans h2.2.symm);omega
    exact this j (Nat.le_refl j)
   rw [hz,jK];exact wG
 ·exact Int.le_refl _
end
end Go.Proofs.Ytffcpijeebagfaa
end
section
namespace Go.Proofs.Ytffcpijeebagfaa
open Go
theorem Jp {t u:TS} {e:Ev} (h:t.add e=some u) (hk:e.kind≠14):u.gor=t.gor:=by
 unfold TS.add at h;split at h
 ·rw [Option.map_eq_some_iff] at h;obtain ⟨v,hv,rfl⟩:=h
  show v.gor=t.gor
  unfold TS.part at hv;split at hv
  ·unfold TS.proceed at hv;split at hv
   ·cases hv;rfl
   ·cases hv
  ·split at hv
   ·unfold TS.operate at hv;dsimp only at hv
    repeat' split at hv
    all_goals first
     | (cases hv;done)
     | (cases hv;rfl)
     | (simp only [Option.map_eq_some_iff] at hv;obtain ⟨ks,_,rfl⟩:=hv;rfl)
   ·unfold TS.simple at hv;dsimp only at hv;rw [if_neg hk] at hv
    repeat' split at hv
    all_goals first
     | (cases hv;done)
     | (cases hv;rfl)
 ·cases h
open Classical in
noncomputable def setB (l:List Ev) (k i:Nat):Bool:=decide (∀ h:Nat,(h:Int) < (bZ l k).gor→(h:Int)≠(ay l i).g→(ord l i:Int)≤(jP l h k).getD (ay l i).g.toNat 0)
open Classical in
theorem kH {l:List Ev} {k i:Nat}:setB l k i=true↔∀ h:Nat,(h:Int) < (bZ l k).gor→(h:Int)≠(ay l i).g→(ord l i:Int)≤(jP l h k).getD (ay l i).g.toNat 0:=decide_eq_true_iff
section
variable {l:List Ev} (hc:chk l=l.length) (hl:l.length≤1000)
include hc hl
omit hc hl in
theorem GZ {k:Nat}:jP l (ay l k).g (k+1)=stp l k:=if_pos (.inl rfl)
omit hl in
theorem UD {i k:Nat} (hik:i < k) (hk:k < l.length) (hg:(ay l k).g=(ay l i).g):(ord l i:Int)≤(stp l k).getD (ay l i).g.toNat 0:=by
 have V:=VL.of hc;have h1:=lI V hk;rw [hg] at h1;rw [h1]
 have:ord l i≤ord l k:=by
  unfold ord;rw [hg];exact mM (by omega)
 omega
theorem DY {i k:Nat} (hik:i < k) (hk:k < l.length) (h:setB l k i=true):setB l (k+1) i=true:=by
 rw [kH] at h ⊢;have V:=VL.of hc;have hgi:=V.g (i:=i) (by omega);intro x hx hne;have hs:=dh hc hk
 rcases Int.lt_or_le (x:Int) (bZ l k).gor with hlt | hge
 ·exact Int.le_trans (h x hlt hne) (wR hc hl hk x _ (by omega))
 ·have h14:(ay l k).kind=14:=by
   by_cases q:(ay l k).kind=14
   ·exact q
   ·have:=Jp hs q;omega
  have hR:∃ r,Rel r (bZ l k):=by
   have hR:∀ k,k≤l.length→∃ r t,RAt l k r t:=fun k=>by
    induction k with
    | zero=>intro _;exact ⟨_,_,RAt.zero l⟩
    | succ k ih =>
      intro hk;obtain ⟨r,t,h⟩:=ih (by omega)
      rcases h.step (jd (l:=l) (i:=k) (by omega)) with ⟨r',t',_,_,h'⟩ | ⟨_,h2,_⟩
      ·exact ⟨r',t',h'⟩
      ·omega
   obtain ⟨r,t,hr⟩:=hR k (by omega);have h1:=lJ hc (n:=k) (by omega);have h2:=hr.st;rw [h1] at h2;cases h2;exact ⟨r,hr.rl⟩
  obtain ⟨r,hr⟩:=hR;obtain ⟨g1,g2⟩:=(rX hr hs).2 h14;have hxk:(ay l k).k=(x:Int):=by omega
  have hcl:jP l x (k+1)=stp l k:=if_pos (.inr ⟨h14,hxk⟩);rw [hcl]
  by_cases hg:(ay l k).g=(ay l i).g
  ·exact UD hc hik hk hg
  ·have hgk:=V.g hk;have hgl:=vk hs;have:=h (ay l k).g.toNat (by omega) (by omega);rw [Int.toNat_of_nonneg hgk.1] at this;rw [←GZ (l:=l) (k:=k)];exact Int.le_trans this (wR hc hl hk _ _ (by omega))
theorem NV {i k m:Nat} (hik:i < k) (hkm:k≤m) (hm:m≤l.length) (h:setB l k i=true):setB l m i=true:=by
 induction m with
 | zero=>have:k=0:=by omega
         subst this;exact h
 | succ m ih =>
   rcases Nat.lt_or_ge m k with q | q
   ·have:k=m+1:=by omega
    subst this;exact h
   ·exact DY hc hl (by omega) (by omega) (ih q (by omega))
theorem U7 {i j:Nat} (hij:i < j) (hj:j < l.length) (hg:(ay l i).g≠(ay l j).g) (h:setB l j i=true):HB l i j:=by
 have V:=VL.of hc;have hgi:=V.g (i:=i) (by omega);have hgj:=V.g hj;have hs:=dh hc hj;have hgl:=vk hs;rw [OO hc (by omega) hj (by omega),lI V (by omega)];have:=kH.1 h (ay l j).g.toNat (by omega) (by omega);rw [Int.toNat_of_nonneg hgj.1] at this;rw [←GZ (l:=l) (k:=j)];exact Int.le_trans this (wR hc hl hj _ _ (by omega))
open Classical in
theorem y9 {i j:Nat} (hij:i < j) (hj:j < l.length) (h:uz l i j=true):jH (ay l i).kind=true∧setB l j i=false:=by
 unfold uz jQ at h;simp only [Bool.and_eq_true,Bool.not_eq_true',bne_iff_ne,ne_eq,decide_eq_false_iff_not] at h;obtain ⟨⟨h1,h2,h3,_⟩,h4⟩:=h;refine ⟨h1,?_⟩
 cases hs:setB l j i with
 | false=>rfl
 | true=>exact absurd (U7 hc hl hij hj h3 hs) h4
omit hl in
open Classical in
theorem rJ {i j:Nat} (hij:i < j) (hj:j < l.length):uz l i j=(jQ (ay l i) (ay l j) && decide ((stp l j).getD (ay l i).g.toNat 0 < (ord l i:Int))):=by
 have V:=VL.of hc;have h:=OO hc (i:=i) (j:=j) (by omega) hj (by omega);rw [lI V (by omega)] at h;unfold uz
 congr 1
 rw [Bool.eq_iff_iff,Bool.not_eq_true',decide_eq_false_iff_not,decide_eq_true_eq,h];omega
end
noncomputable def live (l:List Ev) (k:Nat):List Nat:=(List.range k).filter fun i=>jH (ay l i).kind && !setB l k i
noncomputable def vP (l:List Ev) (k:Nat):List Nat:=live l k ++ if jH (ay l k).kind=true then [k] else []
section
variable {l:List Ev} (hc:chk l=l.length) (hl:l.length≤1000)
include hc hl
theorem JE {k:Nat} (hk:k < l.length):(vP l k).filter (fun i=>!setB l (k+1) i)=live l (k+1):=by
 unfold vP live;rw [List.filter_append,List.filter_filter,List.range_succ,List.filter_append]
 congr 1
 ·apply List.filter_congr
  intro i hi;rw [List.mem_range] at hi
  cases h1:jH (ay l i).kind with
  | false=>simp
  | true =>
    cases h2:setB l (k+1) i with
    | true=>simp
    | false =>
      cases h3:setB l k i with
      | true=>have:=DY hc hl hi hk h3;rw [h2] at this;cases this
      | false=>rfl
 ·cases h1:jH (ay l k).kind with
  | false=>simp [h1]
  | true=>cases h2:setB l (k+1) k <;> simp [h1,h2]
theorem FJ {j:Nat} (hj:j < l.length):(live l j).filter (fun i=>jQ (ay l i) (ay l j) && decide ((stp l j).getD (ay l i).g.toNat 0 < (ord l i:Int)))=dM l j j:=by
 unfold live dM;rw [List.filter_filter]
 apply List.filter_congr
 intro i hi;rw [List.mem_range] at hi;rw [←rJ hc hi hj]
 cases h:uz l i j with
 | false=>rfl
 | true =>
   obtain ⟨h1,h2⟩:=y9 hc hl hi hj h;rw [h1,h2];rfl
end
end Go.Proofs.Ytffcpijeebagfaa
end
section
namespace Go.Proofs.Ytffcpijeebagfaa
open Go Go.RowKit
set_option maxRecDepth 100000
set_option maxHeartbeats 4000000
def GA (hp:Nat→Hb) (az:List Hw) (Post:(Nat→Hb)→List Hw→Prop):Prop:=∃ (l:List Ev) (g:Int),az=[ji (fV l),ji (pI g)]∧hp=Z37∧Post=fun _ r=>r=[.one (.d (dB true))]
def Ou (ps rs:List Pa):Prop:=∃ (l:List Ev) (g:Int),ps=[fV l,pI g]∧rs=[pB true]
theorem Vt {f:Nat} (h:je Try.prog f GA):Spec Try.prog f Ou:=by
 rintro ps rs ⟨l,g,rfl,rfl⟩;exact h.toS _ _ ⟨_,⟨l,g,rfl,rfl,rfl⟩,fun hp' rs' q=>q⟩
end Go.Proofs.Ytffcpijeebagfaa
end
