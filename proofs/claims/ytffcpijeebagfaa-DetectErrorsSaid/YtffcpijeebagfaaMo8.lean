/- The reference of chapter 30: transfer. -/
import Derived.Test.YtffcpijeebagfaaMo7
set_option linter.unusedSimpArgs false
set_option linter.unusedVariables false
section
namespace Go.Proofs.Ytffcpijeebagfaa
open Go Go.RowKit
set_option maxRecDepth 100000
set_option maxHeartbeats 4000000
def uZ (ps rs:List Pa):Prop:=∃ (s:RSt) (e:Ev),ps=[s.pa,e.pa]∧s.ok∧rs=[(s.fA e).1.pa,pB (s.fA e).2]
def zC:Env:=e1 97 sI (e1 99 mK (e1 98 Gj e0))
theorem uz:aG Try.prog zC:=aG.e1 yV (aG.e1 qL (aG.e1 Q5 aG.e0))
theorem FV {a b:Int} (h:(a != b)=true):a≠b:=bne_iff_ne.1 h
theorem bne_eq {a b:Int} (h:(a != b)=false):a=b:=by simpa using h
theorem gJ {a b:Int} (h:(a == b)=false):¬ a=b:=beq_eq_false_iff_ne.1 h
theorem Fv:Spec Try.prog 67 uZ:=by
 refine sp67 uz ?_;rintro ps rs ⟨s,e,rfl,hok,rfl⟩;refine ⟨by simp,?_⟩;have hbd:=RSt.kR hok e.obj e.n;have hch:=hok.ch.1;unfold pc67;refine aH ?_;simp only [↓evP,evB,stB,reduceIte,seval,RSt.pa,RSt.row,Ev.pa,Ev.row];refine aC [.agg (s.channel e.obj e.n).row] ⟨s,e.obj,e.n,rfl,by omega,rfl⟩ ?_;have ht:s.fA e=s.fA e:=rfl
 conv at ht=>rhs;unfold RSt.fA
 generalize s.channel e.obj e.n=c at *;obtain ⟨⟨c1,c2⟩,c3,c4⟩:=hbd;have hw:IntKind.i64.wrap (c.sent - c.recv)=c.sent - c.recv:=pY (by omega) (by omega)
 cases a0:(c.n != e.n) with
 | true =>
   rw [ht,if_pos (FV a0)];simp only [↓evP,evB,stB,reduceIte,reduceCtorEq,seval,RCh.row,pr67,a0]
 | false =>
 simp only [↓evP,evB,stB,reduceIte,reduceCtorEq,seval,RCh.row,pr67,a0];refine mE [2,3,4,6,7] [2,3,4,6] (fun st hs ho=>?_);simp only [stB,reduceIte,seval] at hs ho;obtain ⟨h2,h3,h4,h6,h7⟩:=hs;obtain ⟨⟨g2,o2⟩,⟨g3,o3⟩,⟨g4,o4⟩,⟨g6,o6⟩⟩:=ho
 cases k15:(e.kind == 15) with
 | true =>
   cases a1:(e.k != c.sent) with
   | true =>
     rw [ht,if_neg (fun h=>h (bne_eq a0)),if_pos (beq_iff_eq.1 k15),if_pos (FV a1)];unfold pc67c2 pc67c1 pc67c0;simp only [↓evP,evB,stB,reduceIte,reduceCtorEq,seval,h2,h3,h4,h6,h7,g2,g3,g4,g6,o2,o3,o4,o6,k15,a1]
   | false =>
   cases a2:c.closed with
   | true =>
     rw [ht,if_neg (fun h=>h (bne_eq a0)),if_pos (beq_iff_eq.1 k15),if_neg (fun h=>h (bne_eq a1)),if_pos a2];unfold pc67c2 pc67c1 pc67c0;simp only [↓evP,evB,stB,reduceIte,reduceCtorEq,seval,h2,h3,h4,h6,h7,g2,g3,g4,g6,o2,o3,o4,o6,k15,a1,a2]
   | false =>
   by_cases b1:c.n > 0
   ·have b3:(c.n == 0)=false:=beq_eq_false_iff_ne.2 (by omega)
    by_cases b2:c.sent - c.recv < c.n
    ·
      rw [ht,if_neg (fun h=>h (bne_eq a0)),if_pos (beq_iff_eq.1 k15),if_neg (fun h=>h (bne_eq a1)),if_neg (fun h=>Bool.noConfusion (a2.symm.trans h)),if_pos ⟨b1,b2⟩];unfold pc67c2 pc67c1 pc67c0;simp only [↓evP,evB,stB,reduceIte,reduceCtorEq,seval,decide_true,h2,h3,h4,h6,h7,g2,g3,g4,g6,o2,o3,o4,o6,k15,a1,a2,b1,b2,b3,hw];refine aC [(s.begin e [⟨16,e.g,0⟩]).pa,pB true] ⟨s,e,[⟨16,e.g,0⟩],rfl,⟨hok,by simp⟩,rfl⟩ ?_;simp only [↓evP,evB,stB,reduceIte,reduceCtorEq,seval,h4,g4,o4,RSt.pa,RSt.row]
    ·
      rw [ht,if_neg (fun h=>h (bne_eq a0)),if_pos (beq_iff_eq.1 k15),if_neg (fun h=>h (bne_eq a1)),if_neg (fun h=>Bool.noConfusion (a2.symm.trans h)),if_neg (fun h=>b2 h.2),if_neg (fun h=>gJ b3 h.1)];unfold pc67c2 pc67c1 pc67c0;simp only [↓evP,evB,stB,reduceIte,reduceCtorEq,seval,decide_true,decide_false,h2,h3,h4,h6,h7,g2,g3,g4,g6,o2,o3,o4,o6,k15,a1,a2,b1,b2,b3,hw]
   ·cases b3:(c.n == 0) with
    | true =>
      by_cases b4:s.gor > 1
      ·
        rw [ht,if_neg (fun h=>h (bne_eq a0)),if_pos (beq_iff_eq.1 k15),if_neg (fun h=>h (bne_eq a1)),if_neg (fun h=>Bool.noConfusion (a2.symm.trans h)),if_neg (fun h=>b1 h.1),if_pos ⟨beq_iff_eq.1 b3,b4⟩];unfold pc67c2 pc67c1 pc67c0;simp only [↓evP,evB,stB,reduceIte,reduceCtorEq,seval,decide_true,decide_false,h2,h3,h4,h6,h7,g2,g3,g4,g6,o2,o3,o4,o6,k15,a1,a2,b1,b3,b4];refine aC [(s.begin e [⟨17, -1,e.g⟩,⟨18, -1,0⟩,⟨16,e.g,0⟩]).pa,pB true] ⟨s,e,[⟨17, -1,e.g⟩,⟨18, -1,0⟩,⟨16,e.g,0⟩],rfl,⟨hok,by simp⟩,rfl⟩ ?_;simp only [↓evP,evB,stB,reduceIte,reduceCtorEq,seval,h4,g4,o4,RSt.pa,RSt.row]
      ·
        rw [ht,if_neg (fun h=>h (bne_eq a0)),if_pos (beq_iff_eq.1 k15),if_neg (fun h=>h (bne_eq a1)),if_neg (fun h=>Bool.noConfusion (a2.symm.trans h)),if_neg (fun h=>b1 h.1),if_neg (fun h=>b4 h.2)];unfold pc67c2 pc67c1 pc67c0;simp only [↓evP,evB,stB,reduceIte,reduceCtorEq,seval,decide_false,h2,h3,h4,h6,h7,g2,g3,g4,g6,o2,o3,o4,o6,k15,a1,a2,b1,b3,b4]
    | false =>
      rw [ht,if_neg (fun h=>h (bne_eq a0)),if_pos (beq_iff_eq.1 k15),if_neg (fun h=>h (bne_eq a1)),if_neg (fun h=>Bool.noConfusion (a2.symm.trans h)),if_neg (fun h=>b1 h.1),if_neg (fun h=>gJ b3 h.1)];unfold pc67c2 pc67c1 pc67c0;simp only [↓evP,evB,stB,reduceIte,reduceCtorEq,seval,decide_false,h2,h3,h4,h6,h7,g2,g3,g4,g6,o2,o3,o4,o6,k15,a1,a2,b1,b3]
 | false =>
 cases k17:(e.kind == 17) with
 | true =>
   cases a1:(e.k != c.recv) with
   | true =>
     rw [ht,if_neg (fun h=>h (bne_eq a0)),if_neg (gJ k15),if_pos (beq_iff_eq.1 k17),if_pos (FV a1)];unfold pc67c2 pc67c1 pc67c0;simp only [↓evP,evB,stB,reduceIte,reduceCtorEq,seval,h2,h3,h4,h6,h7,g2,g3,g4,g6,o2,o3,o4,o6,k15,k17,a1]
   | false =>
   by_cases b1:c.sent > c.recv
   ·
     rw [ht,if_neg (fun h=>h (bne_eq a0)),if_neg (gJ k15),if_pos (beq_iff_eq.1 k17),if_neg (fun h=>h (bne_eq a1)),if_pos b1];unfold pc67c2 pc67c1 pc67c0;simp only [↓evP,evB,stB,reduceIte,reduceCtorEq,seval,decide_true,h2,h3,h4,h6,h7,g2,g3,g4,g6,o2,o3,o4,o6,k15,k17,a1,b1];refine aC [(s.begin e [⟨18,e.g,0⟩]).pa,pB true] ⟨s,e,[⟨18,e.g,0⟩],rfl,⟨hok,by simp⟩,rfl⟩ ?_;simp only [↓evP,evB,stB,reduceIte,reduceCtorEq,seval,h4,g4,o4,RSt.pa,RSt.row]
   ·
     cases a2:c.closed with
     | true =>
       rw [ht,if_neg (fun h=>h (bne_eq a0)),if_neg (gJ k15),if_pos (beq_iff_eq.1 k17),if_neg (fun h=>h (bne_eq a1)),if_neg (fun h=>b1 h),if_neg (fun h=>Bool.noConfusion (a2.symm.trans h.1))];unfold pc67c2 pc67c1 pc67c0;simp only [↓evP,evB,stB,reduceIte,reduceCtorEq,seval,decide_false,h2,h3,h4,h6,h7,g2,g3,g4,g6,o2,o3,o4,o6,k15,k17,a1,a2,b1]
     | false =>
       by_cases b4:s.gor > 1
       ·
         rw [ht,if_neg (fun h=>h (bne_eq a0)),if_neg (gJ k15),if_pos (beq_iff_eq.1 k17),if_neg (fun h=>h (bne_eq a1)),if_neg (fun h=>b1 h),if_pos ⟨a2,b4⟩];unfold pc67c2 pc67c1 pc67c0;simp only [↓evP,evB,stB,reduceIte,reduceCtorEq,seval,decide_true,decide_false,h2,h3,h4,h6,h7,g2,g3,g4,g6,o2,o3,o4,o6,k15,k17,a1,a2,b1,b4];refine aC [(s.begin e [⟨15, -1,e.g⟩,⟨18,e.g,0⟩,⟨16, -1,0⟩]).pa,pB true] ⟨s,e,[⟨15, -1,e.g⟩,⟨18,e.g,0⟩,⟨16, -1,0⟩],rfl,⟨hok,by simp⟩,rfl⟩ ?_;simp only [↓evP,evB,stB,reduceIte,reduceCtorEq,seval,h4,g4,o4,RSt.pa,RSt.row]
       ·
         rw [ht,if_neg (fun h=>h (bne_eq a0)),if_neg (gJ k15),if_pos (beq_iff_eq.1 k17),if_neg (fun h=>h (bne_eq a1)),if_neg (fun h=>b1 h),if_neg (fun h=>b4 h.2)];unfold pc67c2 pc67c1 pc67c0;simp only [↓evP,evB,stB,reduceIte,reduceCtorEq,seval,decide_false,h2,h3,h4,h6,h7,g2,g3,g4,g6,o2,o3,o4,o6,k15,k17,a1,a2,b1,b4]
 | false =>
 cases k19:(e.kind == 19) with
 | true =>
   cases a2:c.closed with
   | true =>
     rw [ht,if_neg (fun h=>h (bne_eq a0)),if_neg (gJ k15),if_neg (gJ k17),if_pos (beq_iff_eq.1 k19),if_pos a2];unfold pc67c2 pc67c1 pc67c0;simp only [↓evP,evB,stB,reduceIte,reduceCtorEq,seval,h2,h3,h4,h6,h7,g2,g3,g4,g6,o2,o3,o4,o6,k15,k17,k19,a2]
   | false =>
     rw [ht,if_neg (fun h=>h (bne_eq a0)),if_neg (gJ k15),if_neg (gJ k17),if_pos (beq_iff_eq.1 k19),if_neg (fun h=>Bool.noConfusion (a2.symm.trans h))];unfold pc67c2 pc67c1 pc67c0;simp only [↓evP,evB,stB,reduceIte,reduceCtorEq,seval,h2,h3,h4,h6,h7,g2,g3,g4,g6,o2,o3,o4,o6,k15,k17,k19,a2]
     refine aC [(s.bN { c with closed:=true }).pa] ⟨s,{ c with closed:=true },rfl,hok.ch.1,rfl⟩ ?_;simp only [↓evP,evB,stB,reduceIte,reduceCtorEq,seval,h4,g4,o4,o6,a2,RSt.pa,RSt.row]
 | false =>
 cases k20:(e.kind == 20) with
 | true =>
   cases a2:c.closed with
   | true =>
     rw [ht,if_neg (fun h=>h (bne_eq a0)),if_neg (gJ k15),if_neg (gJ k17),if_neg (gJ k19),if_pos (beq_iff_eq.1 k20)];unfold pc67c2 pc67c1 pc67c0;simp only [↓evP,evB,stB,reduceIte,reduceCtorEq,seval,h2,h3,h4,h6,h7,g2,g3,g4,g6,o2,o3,o4,o6,k15,k17,k19,k20,a2]
     (unfold Drw;kernel_rfl)
   | false =>
     rw [ht,if_neg (fun h=>h (bne_eq a0)),if_neg (gJ k15),if_neg (gJ k17),if_neg (gJ k19),if_pos (beq_iff_eq.1 k20)];unfold pc67c2 pc67c1 pc67c0;simp only [↓evP,evB,stB,reduceIte,reduceCtorEq,seval,h2,h3,h4,h6,h7,g2,g3,g4,g6,o2,o3,o4,o6,k15,k17,k19,k20,a2]
     (unfold Drw;kernel_rfl)
 | false =>
   rw [ht,if_neg (fun h=>h (bne_eq a0)),if_neg (gJ k15),if_neg (gJ k17),if_neg (gJ k19),if_neg (gJ k20)];unfold pc67c2 pc67c1 pc67c0;simp only [↓evP,evB,stB,reduceIte,reduceCtorEq,seval,h2,h3,h4,h6,h7,g2,g3,g4,g6,o2,o3,o4,o6,k15,k17,k19,k20]
def tK (ps rs:List Pa):Prop:=∃ k:Int,ps=[pI k]∧rs=[pB (dL k)]
theorem Cb:Spec Try.prog 66 tK:=by
 refine sp66 aG.e0 ?_;rintro ps rs ⟨k,rfl,rfl⟩;refine ⟨by simp,?_⟩;unfold pc66;refine aH ?_;simp only [↓evP,evB,stB,reduceIte,reduceCtorEq,seval,pr66];refine ⟨fun h=>?_,fun h=>?_⟩
 ·unfold dL;rw [decide_eq_decide.2 (show (15≤k∧k≤20)↔k≤20 from ⟨fun h=>h.2,fun h2=>⟨h,h2⟩⟩)]
 ·unfold dL;rw [decide_eq_false (fun h2=>h h2.1)]
def kJ:List ByteArray:=[⟨#[]⟩,⟨#[114,101,97,100]⟩,⟨#[119,114,105,116,101]⟩,⟨#[97,116,111,109,105,99,45,114,101,97,100]⟩,⟨#[97,116,111,109,105,99,45,119,114,105,116,101]⟩,⟨#[97,116,111,109,105,99,45,98,111,116,104]⟩,⟨#[108,111,99,107]⟩,⟨#[117,110,108,111,99,107]⟩,⟨#[114,108,111,99,107]⟩,⟨#[114,117,110,108,111,99,107]⟩,⟨#[100,111,110,101]⟩,⟨#[119,97,105,116]⟩,⟨#[111,110,99,101,45,101,110,100]⟩,⟨#[111,110,99,101,45,115,101,101,110]⟩,⟨#[103,111]⟩,⟨#[115,101,110,100,45,115,116,97,114,116]⟩,⟨#[115,101,110,100,45,101,110,100]⟩,⟨#[114,101,99,118,45,115,116,97,114,116]⟩,⟨#[114,101,99,118,45,101,110,100]⟩,⟨#[99,108,111,115,101]⟩,⟨#[114,101,99,118,45,99,108,111,115,101,100]⟩]
def Oc (ps rs:List Pa):Prop:=∃ k:Int,ps=[pI k]∧∃ s,rs=[.one (.sc (.string s))]∧s=(if k < 1∨20 < k then ⟨#[]⟩ else (kJ[k.toNat]?).getD ⟨#[]⟩)
theorem Ur:Spec Try.prog 95 Oc:=by
 refine sp95 aG.e0 ?_;rintro ps rs ⟨k,rfl,s,rfl,hs⟩;refine ⟨by simp,?_⟩;unfold pc95;refine aH ?_
 by_cases h1:k < 1
 ·rw [if_pos (.inl h1)] at hs;subst hs;simp only [↓evP,evB,stB,reduceIte,reduceCtorEq,seval,h1,pr95]
 by_cases h2:k > 20
 ·rw [if_pos (.inr h2)] at hs;subst hs;simp only [↓evP,evB,stB,reduceIte,reduceCtorEq,seval,h1,h2,decide_true,decide_false,pr95]
 rw [if_neg (fun h=>h.elim h1 h2)] at hs;obtain ⟨m,rfl⟩:=Int.eq_ofNat_of_zero_le (show 0≤k by omega);obtain ⟨u,hu⟩:∃ u,kJ[m]? = some u:=⟨_,List.getElem?_eq_getElem (by show m < 21;omega)⟩
 rw [Int.toNat_natCast,hu,Option.getD_some] at hs;subst hs;have hrow:(kJ.map fun x=>[Dt.sc (.string x)])[m]? = some [.sc (.string s)]:=by rw [List.getElem?_map,hu];rfl
 unfold kJ at hrow;simp only [List.map_cons,List.map_nil] at hrow;simp only [↓evP,evB,stB,reduceIte,reduceCtorEq,seval,h1,h2,decide_false,hrow,pr95]
def sN (ps rs:List Pa):Prop:=∃ e:Ev,ps=[e.pa]∧rs=[pB e.valid]
def eH:Env:=e1 95 Oc e0
theorem uW:aG Try.prog eH:=aG.e1 Ur aG.e0
theorem FJ {e:Ev} (hr:0≤e.k) (Q:Exit→St→Prop)
 (hQ:∀ st,st.res pr64=some [pB (decide (e.obj=0∧e.off=0∧e.n=0∧1≤e.k∧e.k < 8))]→Q .ret st) (st:St)
 (h1:st.sl 1=.b (.one (.ptr 1 1 0))) (g1:st.gen 1=1) (o1:st.ob 1=.cells (e.row.map .d)) :
 pwp eH pc64c1 (exS eH [It.bl 2,It.c pc64c0] Q) st:=by
 simp only [Ev.row,List.map_cons,List.map_nil] at o1;unfold pc64c1;simp only [↓evP,evB,stB,reduceCtorEq,Nat.reduceEqDiff,h1,g1,o1]
 repeat' (first | apply And.intro | intro)
 all_goals (refine hQ _ ?_;simp only [stB,Nat.reduceEqDiff,pr64];refine congrArg (fun b=>some [pB b]) (Bool.eq_iff_iff.2 ?_);simp only [beq_iff_eq,beq_eq_false_iff_ne,ne_eq,decide_eq_true_eq,Bool.false_eq_true,false_iff] at *;omega)
theorem nE {e:Ev} (hr:0≤e.k) (Q:Exit→St→Prop)
 (hQ:∀ st,st.res pr64=some [pB (decide (e.off=0∧e.n≤64))]→Q .ret st) (st:St)
 (h1:st.sl 1=.b (.one (.ptr 1 1 0))) (g1:st.gen 1=1) (o1:st.ob 1=.cells (e.row.map .d)) :
 pwp eH pc64c2 (exS eH [It.bl 2,It.c pc64c0] Q) st:=by
 simp only [Ev.row,List.map_cons,List.map_nil] at o1;unfold pc64c2;simp only [↓evP,evB,stB,reduceCtorEq,Nat.reduceEqDiff,h1,g1,o1]
 repeat' (first | apply And.intro | intro)
 all_goals (refine hQ _ ?_;simp only [stB,Nat.reduceEqDiff,pr64];refine congrArg (fun b=>some [pB b]) (Bool.eq_iff_iff.2 ?_);simp only [beq_iff_eq,beq_eq_false_iff_ne,ne_eq,decide_eq_true_eq,Bool.false_eq_true,false_iff] at *;omega)
theorem wK {e:Ev} (hr:0≤e.k) (Q:Exit→St→Prop)
 (hQ:∀ st,st.res pr64=some [pB (decide (e.off=0∧e.n≤64∧e.k=0))]→Q .ret st) (st:St)
 (h1:st.sl 1=.b (.one (.ptr 1 1 0))) (g1:st.gen 1=1) (o1:st.ob 1=.cells (e.row.map .d)) :
 pwp eH pc64c3 (exS eH [It.bl 2,It.c pc64c0] Q) st:=by
 simp only [Ev.row,List.map_cons,List.map_nil] at o1;unfold pc64c3;simp only [↓evP,evB,stB,reduceCtorEq,Nat.reduceEqDiff,h1,g1,o1]
 repeat' (first | apply And.intro | intro)
 all_goals (refine hQ _ ?_;simp only [stB,Nat.reduceEqDiff,pr64];refine congrArg (fun b=>some [pB b]) (Bool.eq_iff_iff.2 ?_);simp only [beq_iff_eq,beq_eq_false_iff_ne,ne_eq,decide_eq_true_eq,Bool.false_eq_true,false_iff] at *;omega)
theorem FI {e:Ev} (hr:0≤e.k) (Q:Exit→St→Prop)
 (hQ:∀ st,st.res pr64=some [pB (decide (e.k=0∧e.n=0))]→Q .ret st) (st:St)
 (h1:st.sl 1=.b (.one (.ptr 1 1 0))) (g1:st.gen 1=1) (o1:st.ob 1=.cells (e.row.map .d)) :
 pwp eH pc64c0 (exS eH [] Q) st:=by
 simp only [Ev.row,List.map_cons,List.map_nil] at o1;unfold pc64c0;simp only [↓evP,evB,stB,reduceCtorEq,Nat.reduceEqDiff,h1,g1,o1]
 repeat' (first | apply And.intro | intro)
 all_goals (refine hQ _ ?_;simp only [stB,Nat.reduceEqDiff,pr64];refine congrArg (fun b=>some [pB b]) (Bool.eq_iff_iff.2 ?_);simp only [beq_iff_eq,beq_eq_false_iff_ne,ne_eq,decide_eq_true_eq,Bool.false_eq_true,false_iff] at *;omega)
theorem zH {e:Ev} (hk:1≤e.kind) (hk2:e.kind≤20) (hr:fH e.k=true) (Q:Exit→St→Prop)
 (hQ:∀ st,st.res pr64=some [pB e.rest]→Q .ret st) (st:St)
 (h1:st.sl 1=.b (.one (.ptr 1 1 0))) (g1:st.gen 1=1) (o1:st.ob 1=.cells (e.row.map .d)) :
 pwp eH pc64c7 (exS eH [] Q) st:=by
 have o1':=o1;simp only [Ev.row,List.map_cons,List.map_nil] at o1;have hr':0≤e.k:=by unfold fH at hr;simp at hr;omega
 unfold pc64c7 pc64c6
 cases k14:(e.kind == 14) with
 | true =>
   simp only [↓evP,evB,stB,reduceCtorEq,Nat.reduceEqDiff,h1,g1,o1,k14];have hre:e.rest=decide (e.obj=0∧e.off=0∧e.n=0∧1≤e.k∧e.k < 8):=by unfold Ev.rest;rw [if_pos (beq_iff_eq.1 k14)]
   rw [hre] at hQ;exact FJ hr' Q hQ _ (by simp only [stB,Nat.reduceEqDiff,h1]) (by simp only [stB,g1]) (by simp only [stB,o1,Ev.row])
 | false =>
 have n14:=beq_eq_false_iff_ne.1 k14
 cases k15:(e.kind == 15) with
 | true =>
   simp only [↓evP,evB,stB,reduceCtorEq,Nat.reduceEqDiff,h1,g1,o1,k14];unfold pc64c5;simp only [↓evP,evB,stB,reduceCtorEq,Nat.reduceEqDiff,k15];have hre:e.rest=decide (e.off=0∧e.n≤64):=by unfold Ev.rest;rw [if_neg n14,if_pos (by have:=beq_iff_eq.1 k15;omega)]
   rw [hre] at hQ;exact nE hr' Q hQ _ (by simp only [stB,Nat.reduceEqDiff,h1]) (by simp only [stB,g1]) (by simp only [stB,o1,Ev.row])
 | false =>
 have n15:=beq_eq_false_iff_ne.1 k15
 cases k16:(e.kind == 16) with
 | true =>
   simp only [↓evP,evB,stB,reduceCtorEq,Nat.reduceEqDiff,h1,g1,o1,k14];unfold pc64c5;simp only [↓evP,evB,stB,reduceCtorEq,Nat.reduceEqDiff,k15,k16];have hre:e.rest=decide (e.off=0∧e.n≤64):=by unfold Ev.rest;rw [if_neg n14,if_pos (by have:=beq_iff_eq.1 k16;omega)]
   rw [hre] at hQ;exact nE hr' Q hQ _ (by simp only [stB,Nat.reduceEqDiff,h1]) (by simp only [stB,g1]) (by simp only [stB,o1,Ev.row])
 | false =>
 have n16:=beq_eq_false_iff_ne.1 k16
 cases k17:(e.kind == 17) with
 | true =>
   simp only [↓evP,evB,stB,reduceCtorEq,Nat.reduceEqDiff,h1,g1,o1,k14];unfold pc64c5;simp only [↓evP,evB,stB,reduceCtorEq,Nat.reduceEqDiff,k15,k16,k17];have hre:e.rest=decide (e.off=0∧e.n≤64):=by unfold Ev.rest;rw [if_neg n14,if_pos (by have:=beq_iff_eq.1 k17;omega)]
   rw [hre] at hQ;exact nE hr' Q hQ _ (by simp only [stB,Nat.reduceEqDiff,h1]) (by simp only [stB,g1]) (by simp only [stB,o1,Ev.row])
 | false =>
 have n17:=beq_eq_false_iff_ne.1 k17
 cases k18:(e.kind == 18) with
 | true =>
   simp only [↓evP,evB,stB,reduceCtorEq,Nat.reduceEqDiff,h1,g1,o1,k14];unfold pc64c5;simp only [↓evP,evB,stB,reduceCtorEq,Nat.reduceEqDiff,k15,k16,k17,k18];have hre:e.rest=decide (e.off=0∧e.n≤64):=by unfold Ev.rest;rw [if_neg n14,if_pos (by have:=beq_iff_eq.1 k18;omega)]
   rw [hre] at hQ;exact nE hr' Q hQ _ (by simp only [stB,Nat.reduceEqDiff,h1]) (by simp only [stB,g1]) (by simp only [stB,o1,Ev.row])
 | false =>
 have n18:=beq_eq_false_iff_ne.1 k18
 cases k19:(e.kind == 19) with
 | true =>
   simp only [↓evP,evB,stB,reduceCtorEq,Nat.reduceEqDiff,h1,g1,o1,k14];unfold pc64c5;simp only [↓evP,evB,stB,reduceCtorEq,Nat.reduceEqDiff,k15,k16,k17,k18];unfold pc64c4;simp only [↓evP,evB,stB,reduceCtorEq,Nat.reduceEqDiff,k19];have hre:e.rest=decide (e.off=0∧e.n≤64∧e.k=0):=by unfold Ev.rest;rw [if_neg n14,if_neg (by omega),if_pos (by have:=beq_iff_eq.1 k19;omega)]
   rw [hre] at hQ;exact wK hr' Q hQ _ (by simp only [stB,Nat.reduceEqDiff,h1]) (by simp only [stB,g1]) (by simp only [stB,o1,Ev.row])
 | false =>
 have n19:=beq_eq_false_iff_ne.1 k19
 cases k20:(e.kind == 20) with
 | true =>
   simp only [↓evP,evB,stB,reduceCtorEq,Nat.reduceEqDiff,h1,g1,o1,k14];unfold pc64c5;simp only [↓evP,evB,stB,reduceCtorEq,Nat.reduceEqDiff,k15,k16,k17,k18];unfold pc64c4;simp only [↓evP,evB,stB,reduceCtorEq,Nat.reduceEqDiff,k19,k20];have hre:e.rest=decide (e.off=0∧e.n≤64∧e.k=0):=by unfold Ev.rest;rw [if_neg n14,if_neg (by omega),if_pos (by have:=beq_iff_eq.1 k20;omega)]
   rw [hre] at hQ;exact wK hr' Q hQ _ (by simp only [stB,Nat.reduceEqDiff,h1]) (by simp only [stB,g1]) (by simp only [stB,o1,Ev.row])
 | false =>
 have n20:=beq_eq_false_iff_ne.1 k20;simp only [↓evP,evB,stB,reduceCtorEq,Nat.reduceEqDiff,h1,g1,o1,k14];unfold pc64c5;simp only [↓evP,evB,stB,reduceCtorEq,Nat.reduceEqDiff,k15,k16,k17,k18];unfold pc64c4;simp only [↓evP,evB,stB,reduceCtorEq,Nat.reduceEqDiff,k19,k20];have hre:e.rest=decide (e.k=0∧e.n=0):=by unfold Ev.rest;rw [if_neg n14,if_neg (by omega),if_neg (by omega)]
 rw [hre] at hQ;exact FI hr' Q hQ _ (by simp only [stB,Nat.reduceEqDiff,h1]) (by simp only [stB,g1]) (by simp only [stB,o1,Ev.row])
theorem PG (bs:ByteArray):∀ n i r,bs.size - i=n→ByteArray.toList.loop bs i r=r.reverse ++ bs.data.toList.drop i:=by
 intro n
 induction n with
 | zero =>
   intro i r h;unfold ByteArray.toList.loop;rw [if_neg (by omega),List.drop_eq_nil_of_le (by show bs.data.toList.length≤i;rw [Array.length_toList];show bs.size≤i;omega),List.append_nil]
 | succ n ih =>
   intro i r h;have hi:i < bs.data.toList.length:=by rw [Array.length_toList];show i < bs.size;omega
   unfold ByteArray.toList.loop;rw [if_pos (by omega),ih (i+1) _ (by omega),List.drop_eq_getElem_cons hi,List.reverse_cons,List.append_assoc]
   congr 1
   show bs.get! i :: _=_
   congr 1
   show bs.data[i]! = _
   rw [getElem!_pos bs.data i (by simpa using hi)];rfl
theorem sQ (bs:ByteArray):bs.toList=bs.data.toList:=by
 unfold ByteArray.toList;rw [PG bs _ 0 [] rfl];rfl
def Ev.fields (e:Ev):List Int:=[e.obj,e.off,e.k,e.n,e.fn,e.pc,e.stack]
def KA (k:Int):ByteArray:=if k < 1∨20 < k then ⟨#[]⟩ else (kJ[k.toNat]?).getD ⟨#[]⟩
theorem tZ (k:Int):((KA k).toList == (⟨#[]⟩:ByteArray).toList)=!jH k:=by
 unfold KA jH
 by_cases h:k < 1∨20 < k
 ·rw [if_pos h,decide_eq_false (by omega),sQ];decide
 ·rw [if_neg h,decide_eq_true (by omega)];obtain ⟨m,rfl⟩:=Int.eq_ofNat_of_zero_le (show 0≤k by omega);rw [Int.toNat_natCast];have:∀ m:Fin 21,1≤m.val→(((kJ[m.val]?).getD ⟨#[]⟩).data.toList == (⟨#[]⟩:ByteArray).data.toList)=false:=by decide +kernel
  rw [sQ,sQ];exact this ⟨m,by omega⟩ (by show 1≤m;omega)
theorem Ev.valid_eq (e:Ev):e.valid=(jH e.kind && decide (0≤e.g∧e.g < 8) && e.fields.all fH && e.rest):=by
 unfold Ev.valid Ev.fields;simp only [List.all_cons,List.all_nil,Bool.and_true,Bool.and_assoc]
theorem yY:Spec Try.prog 64 sN:=by
 refine sp64 uW ?_;rintro ps rs ⟨e,rfl,rfl⟩;refine ⟨by simp,?_⟩;unfold pc64;refine aH ?_
 by_cases q1:e.g < 0
 ·have hv:e.valid=false:=by rw [Ev.valid_eq,decide_eq_false (show ¬ (0≤e.g∧e.g < 8) by omega)];simp
  simp only [↓evP,evB,stB,reduceCtorEq,Nat.reduceEqDiff,Ev.pa,Ev.row,q1,decide_true,hv,pr64]
 by_cases q2:e.g≥8
 ·have hv:e.valid=false:=by rw [Ev.valid_eq,decide_eq_false (show ¬ (0≤e.g∧e.g < 8) by omega)];simp
  simp only [↓evP,evB,stB,reduceCtorEq,Nat.reduceEqDiff,Ev.pa,Ev.row,q1,q2,decide_true,decide_false,hv,pr64]
 have hg:decide (0≤e.g∧e.g < 8)=true:=decide_eq_true (by omega);simp only [↓evP,evB,stB,reduceCtorEq,Nat.reduceEqDiff,Ev.pa,Ev.row,q1,q2,decide_false];refine aC [.one (.sc (.string (KA e.kind)))] ⟨e.kind,rfl,KA e.kind,rfl,rfl⟩ ?_
 cases hk:jH e.kind with
 | false =>
   have hv:e.valid=false:=by rw [Ev.valid_eq,hk];rfl
   simp only [↓evP,evB,stB,reduceCtorEq,Nat.reduceEqDiff,tZ,hk,hv,pr64]
 | true =>
   simp only [↓evP,evB,stB,reduceCtorEq,Nat.reduceEqDiff,tZ,hk];refine mE [1] [1] (fun st hs ho=>?_);simp only [stB,Nat.reduceEqDiff] at hs ho;obtain ⟨g1,o1⟩:=ho;unfold pc64c9;simp only [↓evP,evB,stB,Nat.reduceEqDiff,Nat.reduceAdd,Nat.reduceLeDiff,hs,g1,o1];refine mE [1,3] [1,33] (fun st' hs' ho'=>?_);simp only [stB,Nat.reduceEqDiff,hs,g1,o1] at hs' ho';clear hs g1 o1;obtain ⟨h1,h3⟩:=hs';obtain ⟨⟨g1,o1⟩,g33,o33⟩:=ho';unfold pc64c8;simp only [↓evP,evB,stB];refine dZ ms64_0 os64_0 (fun m st=>∃ k:Nat,m=7 - k∧k≤7∧(e.fields.take k).all fH=true∧st.sl 4=aI k) 7 ?_ ?_
   ·exact ⟨0,rfl,by omega,rfl,by simp only [stB];rfl⟩
   ·rintro m j ⟨k,rfl,hk7,hall,h4⟩;simp only [stB,Nat.reduceBEq] at h4
    rcases Nat.lt_or_ge k 7 with hlt | hge
    ·obtain ⟨x,hx⟩:∃ x,e.fields[k]? = some x:=⟨_,List.getElem?_eq_getElem (show k < e.fields.length from hlt)⟩
     have hrow:(e.fields.map fun x=>[dI x])[k]? = some [dI x]:=by rw [List.getElem?_map,hx];rfl
     unfold Ev.fields at hrow;simp only [List.map_cons,List.map_nil] at hrow;have hl7:(k:Int) < ((7:Nat):Int):=by omega
     have hmem:x ∈ e.fields:=List.mem_of_getElem? hx
     by_cases x1:x < 0
     ·have hv:e.valid=false:=by
       rw [Ev.valid_eq,(by rw [List.all_eq_false];exact ⟨x,hmem,by unfold fH;rw [decide_eq_false (by omega)];decide⟩:e.fields.all fH=false)];simp
      simp only [↓evP,evB,stB,reduceCtorEq,Nat.reduceEqDiff,Nat.reduceAdd,Nat.reduceBEq,h3,h4,hrow,hl7,x1,decide_true,hv,pr64]
     by_cases x2:x > 2147483647
     ·have hv:e.valid=false:=by
       rw [Ev.valid_eq,(by rw [List.all_eq_false];exact ⟨x,hmem,by unfold fH;rw [decide_eq_false (by omega)];decide⟩:e.fields.all fH=false)];simp
      simp only [↓evP,evB,stB,reduceCtorEq,Nat.reduceEqDiff,Nat.reduceAdd,Nat.reduceBEq,h3,h4,hrow,hl7,x1,x2,decide_true,decide_false,hv,pr64]
     simp only [↓evP,evB,stB,reduceCtorEq,Nat.reduceEqDiff,Nat.reduceAdd,Nat.reduceBEq,h3,h4,hrow,hl7,x1,x2,decide_true,decide_false]
     exact ⟨_,by omega,(by repeat' (first | assumption | exact aW.mpr trivial | exact Within.refl _ _ _ | (refine bH ?_ rfl rfl) | (refine bg ?_ rfl))),k+1,rfl,by omega,by rw [List.take_add_one,hx,List.all_append,hall];simp only [Option.toList_some,List.all_cons,List.all_nil];unfold fH;rw [decide_eq_true (by omega)];rfl,by simp only [stB,Nat.reduceEqDiff,Nat.reduceBEq,h4];rw [wrN (by omega)]⟩
    ·have hk77:k=7:=by omega
     subst hk77;have hl7:¬ ((7:Nat):Int) < ((7:Nat):Int):=by omega
     simp only [↓evP,evB,stB,reduceCtorEq,Nat.reduceEqDiff,Nat.reduceAdd,Nat.reduceSub,Nat.reduceBEq,h3,h4,hl7];have hall':e.fields.all fH=true:=hall;have hk':=hk;unfold jH at hk';have hv:e.valid=e.rest:=by rw [Ev.valid_eq,hk,hg,hall'];rfl
     have hrk:fH e.k=true:=List.all_eq_true.1 hall' _ (by unfold Ev.fields;simp)
     rw [hv];exact zH (of_decide_eq_true hk').1 (of_decide_eq_true hk').2 hrk _ (fun st'' h=>⟨.inr rfl,h⟩) _ (by simp only [stB,Nat.reduceEqDiff,Nat.reduceBEq,h1]) (by simp only [stB,g1]) (by simp only [stB,o1,Ev.row])
theorem RSt.xH (s:RSt) (e:Ev):(s.counted e).count=s.count:=by
 unfold RSt.counted RSt.bN;split <;> rfl
theorem RSt.BQ (s:RSt) (e:Ev):(s.kY e).1.count=s.count:=by
 unfold RSt.kY RSt.jB RSt.fA RSt.eY RSt.begin RSt.bN RSt.dM
 repeat' split
 all_goals first | rfl | (rw [RSt.xH])
def RI (ps rs:List Pa):Prop:=∃ (s:RSt) (e:Ev),ps=[s.pa,e.pa]∧s.ok∧rs=[(s.qc e).1.pa,pB (s.qc e).2]
def PZ:Env:=e1 64 sN (e1 66 tK (e1 65 Gm (e1 67 uZ (e1 68 Gn e0))))
theorem Es:aG Try.prog PZ:=aG.e1 yY (aG.e1 Cb (aG.e1 Q9 (aG.e1 Fv (aG.e1 Rf aG.e0))))
theorem Vl:Spec Try.prog 22 RI:=by
 refine sp22 Es ?_;rintro ps rs ⟨s,e,rfl,hok,rfl⟩;refine ⟨by simp,?_⟩;unfold pc22;refine aH ?_;simp only [↓evP,evB,stB,reduceIte,seval,RSt.pa,RSt.row,Ev.pa,Ev.row];refine aC [pB e.valid] ⟨e,rfl,rfl⟩ ?_
 cases hv:e.valid with
 | false =>
   have ha:s.qc e=(s,false):=by unfold RSt.qc RSt.admits;rw [hv];rfl
   rw [ha];simp only [↓evP,evB,stB,reduceIte,reduceCtorEq,seval,pr22]
 | true =>
 by_cases b1:s.count≥5000
 ·have ha:s.qc e=(s,false):=by unfold RSt.qc RSt.admits;rw [decide_eq_false (show ¬ s.count < 5000 by omega)];simp
  rw [ha];simp only [↓evP,evB,stB,reduceIte,reduceCtorEq,seval,b1,decide_true,pr22]
 by_cases b2:e.g≥s.gor
 ·have ha:s.qc e=(s,false):=by unfold RSt.qc RSt.admits;rw [decide_eq_false (show ¬ e.g < s.gor by omega)];simp
  rw [ha];simp only [↓evP,evB,stB,reduceIte,reduceCtorEq,seval,b1,b2,decide_true,decide_false,pr22]
 have had:s.admits e=true:=by unfold RSt.admits;rw [hv,decide_eq_true (show s.count < 5000 by omega),decide_eq_true (show e.g < s.gor by omega)];rfl
 have hcnt:=RSt.BQ s e;have hc0:=hok.ct
 have ha:s.qc e=if (s.kY e).2=true then ({ (s.kY e).1 with count:=(s.kY e).1.count+1 },true) else (s,false):=by
  unfold RSt.qc
  by_cases h:(s.kY e).2=true
  ·rw [if_pos ⟨had,h⟩,if_pos h]
  ·rw [if_neg (fun h'=>h h'.2),if_neg h]
 rw [ha];clear ha
 by_cases b3:s.next.length > 0
 ·have hpart:s.kY e=s.jB e:=if_pos b3;have b3':(s.next.length:Int) > 0:=by omega
  rw [hpart] at hcnt ⊢;simp only [↓evP,evB,stB,reduceIte,reduceCtorEq,seval,b1,b2,b3',decide_true,decide_false];refine aC [(s.jB e).1.pa,pB (s.jB e).2] ⟨s,e,rfl,⟨hok,fun h=>by rw [h] at b3;exact absurd b3 (by decide)⟩,rfl⟩ ?_
  generalize s.jB e=tr at *;obtain ⟨u,b⟩:=tr;have hw:IntKind.i64.wrap (u.count+1)=u.count+1:=pY (by simp only at hcnt;omega) (by simp only at hcnt;omega)
  cases b with
  | true =>
    simp only [↓evP,evB,stB,reduceIte,reduceCtorEq,seval,RSt.pa,RSt.row,hw,pr22]
  | false =>
    simp only [↓evP,evB,stB,reduceIte,reduceCtorEq,seval,RSt.pa,RSt.row,hw,pr22]
 ·have b3':¬ (s.next.length:Int) > 0:=by omega
  simp only [↓evP,evB,stB,reduceIte,reduceCtorEq,seval,b1,b2,b3',decide_false];refine aC [pB (dL e.kind)] ⟨e.kind,rfl,rfl⟩ ?_
  cases b4:dL e.kind with
  | true =>
    have hpart:s.kY e=s.fA e:=(if_neg b3).trans (if_pos b4);rw [hpart] at hcnt ⊢;simp only [↓evP,evB,stB,reduceIte,reduceCtorEq,seval];refine aC [(s.fA e).1.pa,pB (s.fA e).2] ⟨s,e,rfl,hok,rfl⟩ ?_;generalize s.fA e=tr at *;obtain ⟨u,b⟩:=tr;have hw:IntKind.i64.wrap (u.count+1)=u.count+1:=pY (by simp only at hcnt;omega) (by simp only at hcnt;omega)
    cases b with
    | true =>
      simp only [↓evP,evB,stB,reduceIte,reduceCtorEq,seval,RSt.pa,RSt.row,hw,pr22]
    | false =>
      simp only [↓evP,evB,stB,reduceIte,reduceCtorEq,seval,RSt.pa,RSt.row,hw,pr22]
  | false =>
    have hpart:s.kY e=s.eY e:=(if_neg b3).trans (if_neg (by rw [b4];decide))
    rw [hpart] at hcnt ⊢;simp only [↓evP,evB,stB,reduceIte,reduceCtorEq,seval];refine aC [(s.eY e).1.pa,pB (s.eY e).2] ⟨s,e,rfl,hok,rfl⟩ ?_;generalize s.eY e=tr at *;obtain ⟨u,b⟩:=tr;have hw:IntKind.i64.wrap (u.count+1)=u.count+1:=pY (by simp only at hcnt;omega) (by simp only at hcnt;omega)
    cases b with
    | true =>
      simp only [↓evP,evB,stB,reduceIte,reduceCtorEq,seval,RSt.pa,RSt.row,hw,pr22]
    | false =>
      simp only [↓evP,evB,stB,reduceIte,reduceCtorEq,seval,RSt.pa,RSt.row,hw,pr22]
end Go.Proofs.Ytffcpijeebagfaa
end
section
namespace Go.Proofs.Ytffcpijeebagfaa
open Go
def RSt.aft (r:RSt):List Ev→RSt
 | []=>r
 | e :: l=>if (r.qc e).2=true then (r.qc e).1.aft l else r
structure RAt (l:List Ev) (k:Nat) (r:RSt) (t:TS):Prop where
 le:k≤l.length
 st:TS.new.steps (l.take k)=some t
 rl:Rel r t
 af:RSt.new.aft l=r.aft (l.drop k)
theorem RAt.zero (l:List Ev):RAt l 0 RSt.new TS.new:=⟨Nat.zero_le _,rfl,Rel.new,rfl⟩
theorem RAt.wf {l:List Ev} {k:Nat} {r:RSt} {t:TS} (h:RAt l k r t):t.wf:=TS.NJ TS.OU h.st
theorem RAt.ok {l:List Ev} {k:Nat} {r:RSt} {t:TS} (h:RAt l k r t):r.ok:=h.rl.ok h.wf
theorem RAt.step {l:List Ev} {k:Nat} {r:RSt} {t:TS} (h:RAt l k r t) {e:Ev} (he:l[k]? = some e) :
 (∃ r' t',r.qc e=(r',true)∧t.add e=some t'∧RAt l (k+1) r' t')∨(r.qc e=(r,false)∧chk l=k∧RSt.new.aft l=r):=by
 obtain ⟨hk,hx⟩:=List.getElem?_eq_some_iff.1 he;have hs:=h.rl.step h.wf e;have hd:l.drop k=e :: l.drop (k+1):=by rw [List.drop_eq_getElem_cons hk,hx]
 cases ha:t.add e with
 | some t' =>
   rw [ha] at hs;obtain ⟨r',h1,h2⟩:=hs;refine .inl ⟨r',t',h1,rfl,hk,?_,h2,?_⟩
   ·rw [TS.uE hk,h.st,hx];exact ha
   ·rw [h.af,hd,RSt.aft,h1];rfl
 | none =>
   rw [ha] at hs;refine .inr ⟨hs,TS.Az h.le h.st (fun e' he'=>?_),?_⟩
   ·rw [he] at he';cases he';exact ha
   ·rw [h.af,hd,RSt.aft,hs];rfl
theorem RAt.all {l:List Ev} {r:RSt} {t:TS} (h:RAt l l.length r t):chk l=l.length∧RSt.new.aft l=r:=by
 refine ⟨TS.Az (Nat.le_refl _) h.st (fun e he=>?_),?_⟩
 ·rw [List.getElem?_eq_none (Nat.le_refl _)] at he;cases he
 ·rw [h.af,List.drop_length];rfl
theorem Rel.JI {r:RSt} {t:TS} (h:Rel r t):t.isOpen=decide (0 < r.next.length):=by
 unfold TS.isOpen;rw [h.gp.kinds,List.length_map]
theorem RAt.whole {l:List Ev} {k:Nat} {r:RSt} {t:TS} (h:RAt l (k+1) r t):TS.new.sH l (k+1)=if r.next.length=0 then k+1 else TS.new.sH l k:=by
 simp only [TS.sH,h.st];rw [h.rl.JI]
 by_cases hn:r.next.length=0
 ·rw [if_pos hn,if_neg (by rw [hn];decide)]
 ·rw [if_neg hn,if_pos (decide_eq_true (by omega))]
end Go.Proofs.Ytffcpijeebagfaa
end
section
namespace Go.Proofs.Ytffcpijeebagfaa
open Go Go.RowKit
set_option maxRecDepth 100000
set_option maxHeartbeats 4000000
def Og (ps rs:List Pa):Prop:=ps=[]∧rs=[RSt.new.pa]
theorem Ut:Spec Try.prog 20 Og:=by
 refine sp20 aG.e0 ?_;rintro ps rs ⟨rfl,rfl⟩;refine ⟨by simp,?_⟩;unfold pc20;refine aH ?_;simp only [↓evP,evB,stB,reduceIte,reduceCtorEq,seval,RSt.pa,RSt.row,RSt.new,pr20]
def Lp:Env:=e1 20 Og (e1 22 RI e0)
theorem Bt:aG Try.prog Lp:=aG.e1 Ut (aG.e1 Vl aG.e0)
def Cm (ps rs:List Pa):Prop:=∃ l:List Ev,ps=[jc l]∧l.length≤1000000∧rs=[pI (chk l),pB (decide (chk l=l.length))]
theorem Nz:Spec Try.prog 72 Cm:=by
 refine sp72 Bt ?_;rintro ps rs ⟨l,rfl,hlen,rfl⟩;refine ⟨by simp,?_⟩;unfold pc72;refine aH ?_;simp only [↓evP,evB,stB,seval,jc,l9];refine aC [RSt.new.pa] ⟨rfl,rfl⟩ ?_;simp only [↓evP,evB,stB,Nat.reduceEqDiff,Nat.reduceAdd,Nat.reduceLeDiff,RSt.pa,RSt.row];refine dZ ms72_0 os72_0 (fun m st=>∃ k:Nat,∃ r t,m=l.length - k∧RAt l k r t∧st.sl 5=aI k∧st.gen 4=1∧st.ob 4=.cells (r.row.map .d)) l.length ?_ ?_
 ·exact ⟨0,_,_,rfl,RAt.zero l,by simp only [stB,Nat.reduceEqDiff];rfl,by simp only [stB],by simp only [stB,RSt.row]⟩
 ·rintro m j ⟨k,r,t,rfl,hat,h5,g4,o4⟩;simp only [stB,reduceIte,seval,RSt.row] at h5 g4 o4;have hk:=hat.le
  rcases Nat.lt_or_ge k l.length with hlt | hge
  ·obtain ⟨e,he⟩:∃ e,l[k]? = some e:=⟨_,List.getElem?_eq_getElem hlt⟩
   have hlt':(k:Int) < (l.length:Int):=by omega
   simp only [↓evP,evB,stB,reduceIte,reduceCtorEq,seval,h5,g4,o4,he,hlt',Ev.row];refine bQ [(r.qc e).1.pa,pB (r.qc e).2] ⟨r,e,rfl,hat.ok,rfl⟩ ?_
   rcases hat.step he with ⟨r',t',h1,_,hat'⟩ | ⟨h1,hc,haf⟩
   ·rw [h1];simp only [↓evP,evB,stB,reduceIte,reduceCtorEq,seval,h5,g4,o4,RSt.pa,RSt.row];refine ⟨(by unfold Drw;kernel_rfl),?_⟩
    exact ⟨_,by omega,(by repeat' (first | assumption | exact aW.mpr trivial | exact Within.refl _ _ _ | (refine bH ?_ rfl rfl) | (refine bg ?_ rfl))),k+1,r',t',rfl,hat',by simp only [stB,reduceIte,seval];rw [wrN (by omega)],by simp only [stB,reduceIte,seval,g4],by simp only [stB,reduceIte,seval,o4]⟩
   ·rw [h1];simp only [↓evP,evB,stB,reduceIte,reduceCtorEq,seval,h5,g4,o4,RSt.pa,RSt.row,pr72];refine ⟨(by unfold Drw;kernel_rfl),?_⟩
    rw [hc,decide_eq_false (by omega)]
  ·have hkl:k=l.length:=by omega
   subst hkl;have hlt':¬ (l.length:Int) < (l.length:Int):=by omega
   simp only [↓evP,evB,stB,reduceIte,reduceCtorEq,seval,h5,g4,o4,hlt',RSt.row,pr72];rw [hat.all.1,decide_eq_true rfl]
def qR (ps rs:List Pa):Prop:=∃ l:List Ev,ps=[jc l]∧l.length≤1000000∧rs=[pB (decide (chk l=l.length))]
def Et:Env:=e1 72 Cm e0
theorem xu:Spec Try.prog 27 qR:=by
 refine sp27 (show aG Try.prog Et from aG.e1 Nz aG.e0) ?_;rintro ps rs ⟨l,rfl,hlen,rfl⟩;refine ⟨by simp,?_⟩;unfold pc27;refine aH ?_;simp only [↓evP,evB,stB,reduceIte,reduceCtorEq,seval,jc,l9];refine aC [pI (chk l),pB (decide (chk l=l.length))] ⟨l,rfl,hlen,rfl⟩ ?_;simp only [↓evP,evB,stB,reduceIte,reduceCtorEq,seval,pr27]
theorem Cc {s t:TS} {l:List Ev} (h:s.steps l=some t):∀ e,e ∈ l→e.valid=true:=by
 induction l generalizing s with
 | nil=>intro e he;simp at he
 | cons a l ih =>
   intro e he;simp only [TS.steps,Option.bind_eq_some_iff] at h;obtain ⟨u,hu,hs⟩:=h
   rcases List.mem_cons.1 he with rfl | he
   ·unfold TS.add at hu;split at hu
    ·rename_i ha;unfold TS.admits at ha;simp only [Bool.and_eq_true] at ha;exact ha.1.1
    ·cases hu
   ·exact ih hs e he
theorem Ip {l:List Ev} (h:chk l=l.length):∀ e,e ∈ l→e.valid=true:=by
 obtain ⟨t,ht⟩:=TS.yu TS.new l (Nat.le_refl _);unfold chk at h;rw [h,List.take_length] at ht;exact Cc ht
end Go.Proofs.Ytffcpijeebagfaa
end
section
namespace Go.Proofs.Ytffcpijeebagfaa
open Go Go.RowKit
set_option maxRecDepth 100000
set_option maxHeartbeats 4000000
open Classical
noncomputable def pO (l:List Ev) (n i:Nat):List Dt:=[.im ((List.range n).map fun j=>[dB (decide (HB l i j))])]
noncomputable def Fg (l:List Ev):Pa:=.one (.im ((List.range l.length).map (pO l l.length)))
def zJ (ps rs:List Pa):Prop:=∃ l:List Ev,ps=[jc l]∧(l.length≤1000000∧∀ e,e ∈ l→e.valid=true)∧rs=[Fg l]
theorem H6:Spec Try.prog 73 zJ:=by
 rintro ps rs ⟨l,rfl,⟨hlen,hv⟩,rfl⟩ S w vals _ hvl;obtain ⟨u,rfl,h1⟩:=hvl.one;refine (Nq w S u l h1 hlen hv).mono ?_;rintro e w' ⟨rfl,hG⟩;refine ⟨_,fun b=>if b < w.heap.size then S b else l.length,rfl,?_,hG.bel,fun b hb=>if_pos hb⟩
 show RD _ w' _ _
 have hrow:∀ i,i < l.length→RD (fun b=>if b < w.heap.size then S b else l.length) w' (.im ((List.range l.length).map fun j=>[dB (decide (HB l i j))])) (.slice (some ⟨w.heap.size+1+i,0,none⟩) l.length l.length):=fun i hi=>by
  have hl:l.length=((List.range l.length).map fun j=>[dB (decide (HB l i j))]).length:=by simp
  conv=>rhs;rw [show (Value.slice (some ⟨w.heap.size+1+i,0,none⟩) l.length l.length)=.slice (some ⟨w.heap.size+1+i,0,none⟩) ((List.range l.length).map fun j=>[dB (decide (HB l i j))]).length l.length by rw [←hl]]
  refine RD.im _ 1 _ 0 l.length (fun j _=>.bool (decide (HB l i j))) (by rw [←hl];exact Nat.le_refl _) (by unfold maxLen;omega) ?_ ?_ ?_
  ·intro r hr;obtain ⟨x,_,rfl⟩:=List.mem_map.1 hr;rfl
  ·intro j k hj hk;rw [←hl] at hj;have h0:0+(j * 1+k)=j:=by omega
   rw [h0];refine ⟨(hG.row i hi).cell hj,?_⟩;rw [if_neg (by omega)];exact hj
  ·intro j r k x hr hx;rw [List.getElem?_map,Option.map_eq_some_iff] at hr;obtain ⟨j',hj',rfl⟩:=hr
   have hjj:j'=j:=by
    have hjl:=(List.getElem?_eq_some_iff.1 hj').1;rw [List.length_range] at hjl;rw [List.getElem?_range hjl] at hj';cases hj';rfl
   subst hjj
   match k,hx with
   | 0,hx=>simp at hx;subst hx;exact .sc _ rfl
 have hl:l.length=((List.range l.length).map (pO l l.length)).length:=by simp
 conv=>rhs;rw [show (Value.slice (some ⟨w.heap.size,0,none⟩) l.length l.length)=.slice (some ⟨w.heap.size,0,none⟩) ((List.range l.length).map (pO l l.length)).length l.length by rw [←hl]]
 refine RD.im _ 1 _ 0 l.length (fun i _=>.slice (some ⟨w.heap.size+1+i,0,none⟩) l.length l.length) (by rw [←hl];exact Nat.le_refl _) (by unfold maxLen;omega) ?_ ?_ ?_
 ·intro r hr;obtain ⟨x,_,rfl⟩:=List.mem_map.1 hr;rfl
 ·intro j k hj hk;rw [←hl] at hj;have h0:0+(j * 1+k)=j:=by omega
  rw [h0];refine ⟨hG.head hj,?_⟩;rw [if_neg (by omega)];exact hj
 ·intro j r k x hr hx;rw [List.getElem?_map,Option.map_eq_some_iff] at hr;obtain ⟨j',hj',rfl⟩:=hr;have hjl:=(List.getElem?_eq_some_iff.1 hj').1;rw [List.length_range] at hjl
  have hjj:j'=j:=by
   rw [List.getElem?_range hjl] at hj';cases hj';rfl
  subst hjj
  match k,hx with
  | 0,hx=>simp [pO] at hx;subst hx;exact hrow _ hjl
end Go.Proofs.Ytffcpijeebagfaa
end
section
namespace Go.Proofs.Ytffcpijeebagfaa
open Go Go.RowKit
set_option maxRecDepth 100000
set_option maxHeartbeats 4000000
def KM (cs:List Ck):Prop:=∀ c,c ∈ cs→c.length=8
theorem KM.set {cs:List Ck} (h:KM cs) {i:Nat} {d:Ck} (hd:d.length=8):KM (cs.set i d):=fun c hc=>by
 rcases List.mem_or_eq_of_mem_set hc with hc | rfl
 ·exact h c hc
 ·exact hd
theorem KM.app {a b:List Ck} (ha:KM a) (hb:KM b):KM (a ++ b):=fun c hc=>by
 rcases List.mem_append.1 hc with h | h
 ·exact ha c h
 ·exact hb c h
end Go.Proofs.Ytffcpijeebagfaa
end
section
namespace Go.Proofs.Ytffcpijeebagfaa
open Go Go.RowKit
set_option maxRecDepth 100000
set_option maxHeartbeats 4000000
open Classical
theorem oM {n i:Nat} (h:i < n):(List.range n)[i]? = some i:=List.getElem?_range h
end Go.Proofs.Ytffcpijeebagfaa
end
section
namespace Go.Proofs.Ytffcpijeebagfaa
open Go Go.RowKit
set_option maxRecDepth 100000
set_option maxHeartbeats 4000000
theorem get_some {c:Ck} (h:c.length=8) {k:Nat} (hk:k < 8):c[k]? = some (c.getD k 0):=by
 rw [List.getD_eq_getElem?_getD,List.getElem?_eq_getElem (by omega)];rfl
def Z37:Nat→Hb:=fun _=>.no
theorem KQ:Free Z37 0:=fun _ _=>rfl
end Go.Proofs.Ytffcpijeebagfaa
end
section
namespace Go.Proofs.Ytffcpijeebagfaa
open Go Go.RowKit
set_option maxRecDepth 100000
set_option maxHeartbeats 4000000
open Classical
theorem Oz {l:List Ev} (hc:chk l=l.length) {i j:Nat} (hi:i < l.length) (hj:j < l.length) (hij:i≠j):HB l i j↔(stp l i).getD (ay l i).g.toNat 0≤(stp l j).getD (ay l i).g.toNat 0:=by
 have V:=VL.of hc;rw [lq V hi,←hb_iff V hj i hi];exact ⟨.inr,fun h=>h.elim (fun h=>absurd h hij) id⟩
end Go.Proofs.Ytffcpijeebagfaa
end
section
namespace Go.Proofs.Ytffcpijeebagfaa
open Go Go.RowKit
set_option maxRecDepth 100000
set_option maxHeartbeats 4000000
def x9 (b:Int→Bool) (ps rs:List Pa):Prop:=∃ k:Int,ps=[pI k]∧rs=[pB (b k)]
theorem x9.mk {b:Int→Bool} (k:Int):x9 b [pI k] [pB (b k)]:=⟨k,rfl,rfl⟩
theorem H8 {a b:Bool} (h:a=b):(some [Pa.one (Dt.sc (.bool a))]:Option (List Pa))=some [pB b]:=by rw [h]
theorem Dw:Spec Try.prog 86 (x9 jD):=by
 refine sp86 (aG.e0) ?_;rintro ps rs ⟨k,rfl,rfl⟩;refine ⟨by simp,?_⟩;unfold pc86;refine aH ?_;simp only [↓evP,evB,stB,reduceIte,reduceCtorEq,seval,pr86]
 repeat' (first | apply And.intro | intro)
 all_goals (try simp only [beq_iff_eq,beq_eq_false_iff_ne,ne_eq] at *)
 all_goals (refine H8 (Bool.eq_iff_iff.2 ?_);simp only [jD,decide_eq_true_eq,beq_iff_eq,true_iff];omega)
theorem J2:Spec Try.prog 89 (x9 jD):=by
 refine sp89 (aG.e0) ?_;rintro ps rs ⟨k,rfl,rfl⟩;refine ⟨by simp,?_⟩;unfold pc89;refine aH ?_;simp only [↓evP,evB,stB,reduceIte,reduceCtorEq,seval,pr89]
 repeat' (first | apply And.intro | intro)
 all_goals (try simp only [beq_iff_eq,beq_eq_false_iff_ne,ne_eq] at *)
 all_goals (refine H8 (Bool.eq_iff_iff.2 ?_);simp only [jD,decide_eq_true_eq,beq_iff_eq,true_iff];omega)
def iq (a b:Ev):Bool:=jD a.kind && (jD b.kind && ((a.g != b.g) && ((a.obj == b.obj) && ((a.off == b.off) && ((a.kind == 2) || (b.kind == 2))))))
def mF (ps rs:List Pa):Prop:=∃ a b:Ev,ps=[a.pa,b.pa]∧rs=[pB (iq a b)]
theorem mF.mk (a b:Ev):mF [a.pa,b.pa] [pB (iq a b)]:=⟨a,b,rfl,rfl⟩
theorem MR {a b:Int} (ha:jD a=true) (hb:jD b=true):((if b > a then b else a) == 2)=((a == 2) || (b == 2)):=by
 unfold jD at ha hb;rw [decide_eq_true_eq] at ha hb
 rcases ha with rfl | rfl <;> rcases hb with rfl | rfl <;> rfl
theorem Ul:Spec Try.prog 87 mF:=by
 refine sp87 (aG.e1 Dw aG.e0) ?_;rintro ps rs ⟨a,b,rfl,rfl⟩;refine ⟨by simp,?_⟩;have hc:iq a b=(jD a.kind && (jD b.kind && ((a.g != b.g) && ((a.obj == b.obj) && ((a.off == b.off) && ((a.kind == 2) || (b.kind == 2))))))):=rfl;generalize iq a b=C at *;unfold pc87;refine aH ?_;simp only [↓evP,evB,stB,reduceIte,seval,Ev.pa,Ev.row];refine aC [pB (jD a.kind)] (by exact x9.mk a.kind) ?_
 cases h1:jD a.kind with
 | false =>
   rw [h1] at hc;simp only [Bool.false_and] at hc;subst hc;simp only [↓evP,evB,stB,reduceIte,reduceCtorEq,seval,pr87]
 | true =>
 simp only [↓evP,evB,stB,reduceIte,reduceCtorEq,seval];refine aC [pB (jD b.kind)] (by exact x9.mk b.kind) ?_
 cases h2:jD b.kind with
 | false =>
   rw [h1,h2] at hc;simp only [Bool.false_and,Bool.true_and] at hc;subst hc;simp only [↓evP,evB,stB,reduceIte,reduceCtorEq,seval,pr87]
 | true =>
 rw [h1,h2] at hc;simp only [Bool.true_and] at hc
 cases h3:a.g != b.g with
 | false =>
   rw [h3] at hc;simp only [Bool.false_and] at hc;subst hc;simp only [↓evP,evB,stB,reduceIte,reduceCtorEq,seval,h3,pr87]
 | true =>
 cases h4:a.obj == b.obj with
 | false =>
   rw [h3,h4] at hc;simp only [Bool.false_and,Bool.true_and] at hc;subst hc;simp only [↓evP,evB,stB,reduceIte,reduceCtorEq,seval,h3,h4,pr87]
 | true =>
 cases h5:a.off == b.off with
 | false =>
   rw [h3,h4,h5] at hc;simp only [Bool.false_and,Bool.true_and] at hc;subst hc;simp only [↓evP,evB,stB,reduceIte,reduceCtorEq,seval,h3,h4,h5,pr87]
 | true =>
 rw [h3,h4,h5] at hc;simp only [Bool.true_and] at hc;have hm:=MR h1 h2;rw [←hc] at hm;simp only [↓evP,evB,stB,reduceIte,reduceCtorEq,seval,h3,h4,h5,hm,Fz,List.foldl_cons,List.foldl_nil,pr87]
theorem HY:Spec Try.prog 85 mF:=by
 refine sp85 (aG.e1 J2 aG.e0) ?_;rintro ps rs ⟨a,b,rfl,rfl⟩;refine ⟨by simp,?_⟩;have hc:iq a b=(jD a.kind && (jD b.kind && ((a.g != b.g) && ((a.obj == b.obj) && ((a.off == b.off) && ((a.kind == 2) || (b.kind == 2))))))):=rfl;generalize iq a b=C at *;unfold pc85;refine aH ?_;simp only [↓evP,evB,stB,reduceIte,seval,Ev.pa,Ev.row];refine aC [pB (jD a.kind)] (by exact x9.mk a.kind) ?_
 cases h1:jD a.kind with
 | false =>
   rw [h1] at hc;simp only [Bool.false_and] at hc;subst hc;simp only [↓evP,evB,stB,reduceIte,reduceCtorEq,seval,pr85]
 | true =>
 simp only [↓evP,evB,stB,reduceIte,reduceCtorEq,seval];refine aC [pB (jD b.kind)] (by exact x9.mk b.kind) ?_
 cases h2:jD b.kind with
 | false =>
   rw [h1,h2] at hc;simp only [Bool.false_and,Bool.true_and] at hc;subst hc;simp only [↓evP,evB,stB,reduceIte,reduceCtorEq,seval,pr85]
 | true =>
 rw [h1,h2] at hc;simp only [Bool.true_and] at hc
 cases h3:a.g != b.g with
 | false =>
   rw [h3] at hc;simp only [Bool.false_and] at hc;subst hc;simp only [↓evP,evB,stB,reduceIte,reduceCtorEq,seval,h3,pr85]
 | true =>
 cases h4:a.obj == b.obj with
 | false =>
   rw [h3,h4] at hc;simp only [Bool.false_and,Bool.true_and] at hc;subst hc;simp only [↓evP,evB,stB,reduceIte,reduceCtorEq,seval,h3,h4,pr85]
 | true =>
 cases h5:a.off == b.off with
 | false =>
   rw [h3,h4,h5] at hc;simp only [Bool.false_and,Bool.true_and] at hc;subst hc;simp only [↓evP,evB,stB,reduceIte,reduceCtorEq,seval,h3,h4,h5,pr85]
 | true =>
 rw [h3,h4,h5] at hc;simp only [Bool.true_and] at hc
 cases h6:a.kind == 2 with
 | true =>
   rw [h6] at hc;simp only [Bool.true_or] at hc;subst hc;simp only [↓evP,evB,stB,reduceIte,reduceCtorEq,seval,h3,h4,h5,h6,pr85]
 | false =>
   rw [h6] at hc;simp only [Bool.false_or] at hc;subst hc;simp only [↓evP,evB,stB,reduceIte,reduceCtorEq,seval,h3,h4,h5,h6,pr85]
open Classical in
noncomputable def nK (l:List Ev) (i j:Nat):Bool:=iq (ay l i) (ay l j) && !decide (HB l i j)
noncomputable def bC (l:List Ev) (j i:Nat):List Nat:=(List.range i).filter fun i=>nK l i j
noncomputable def bS (l:List Ev) (j:Nat):List (Nat×Nat):=(List.range j).flatMap fun j=>(bC l j j).map fun i=>(i,j)
def rZ (p:Nat×Nat):List Dt:=[dI p.1,dI p.2]
def r9 (rs:List (Nat×Nat)):Pa:=.one (.im (rs.map rZ))
noncomputable def vW (l:List Ev):List (Nat×Nat):=if chk l=l.length then bS l l.length else []
def sK (ps rs:List Pa):Prop:=∃ l:List Ev,ps=[jc l]∧l.length≤900∧rs=[r9 (vW l)]
theorem gW (l:List Ev) (j:Nat):bS l (j+1)=bS l j ++ (bC l j j).map fun i=>(i,j):=by
 unfold bS;rw [List.range_succ,List.flatMap_append];simp
theorem qG (l:List Ev) (j i:Nat):bC l j (i+1)=bC l j i ++ if nK l i j=true then [i] else []:=by
 unfold bC;rw [List.range_succ,List.filter_append]
 congr 1
 cases h:nK l i j <;> simp [h]
theorem lJ (l:List Ev) (j i:Nat):(bC l j i).length≤i:=by
 have:=List.length_filter_le (fun i=>nK l i j) (List.range i);rw [List.length_range] at this;exact this
theorem nW (l:List Ev) (j:Nat):(bS l j).length≤j * j:=by
 induction j with
 | zero=>exact Nat.le_refl _
 | succ j ih =>
   rw [gW,List.length_append,List.length_map];have:=lJ l j j;rw [Nat.succ_mul,Nat.mul_succ];omega
def gP (rs:List (Nat×Nat)):List (List Dt):=rs.map rZ
def Br:Env:=e1 27 qR (e1 73 zJ (e1 85 mF e0))
theorem FL {ms os ms' os':List Nat} {s0 b j:St} (h:Within ms os s0 b) (hm:ms'.all (fun x=>ms.contains x)=true) (ho:os'.all (fun x=>os.contains x)=true):Within ms os s0 (over ms' os' b j):=by
 have sub:∀ {l l':List Nat},l'.all (fun x=>l.contains x)=true→∀ x,l.contains x=false→l'.contains x=false:=fun {l l'} hl x hx=>by
  cases h2:l'.contains x with
  | false=>rfl
  | true =>
    have:=List.all_eq_true.1 hl x (by simpa using h2);rw [hx] at this;cases this
 have k:Within ms' os' b (over ms' os' b j):=aW.mpr trivial;exact ⟨fun x hx=>(k.1 x (sub hm x hx)).trans (h.1 x hx),fun o ho2=>⟨(k.2 o (sub ho o ho2)).1.trans (h.2 o ho2).1,(k.2 o (sub ho o ho2)).2.trans (h.2 o ho2).2⟩⟩
open Classical in
theorem JZ:Spec Try.prog 48 sK:=by
 refine sp48 (show aG Try.prog Br from aG.e1 xu (aG.e1 H6 (aG.e1 HY aG.e0))) ?_;rintro ps rs ⟨l,rfl,hlen,rfl⟩;refine ⟨by simp,?_⟩;unfold pc48;refine aH ?_;simp only [↓evP,evB,stB,reduceCtorEq,Nat.reduceEqDiff,jc,l9];refine aC [pB (decide (chk l=l.length))] ⟨l,rfl,by omega,rfl⟩ ?_;unfold vW
 by_cases hc:chk l=l.length
 ·have V:=VL.of hc;rw [if_pos hc,decide_eq_true hc];simp only [↓evP,evB,stB,reduceCtorEq,Nat.reduceEqDiff,Nat.reduceAdd];refine aC [Fg l] ⟨l,rfl,⟨by omega,V.v⟩,rfl⟩ ?_;simp only [↓evP,evB,stB,Nat.reduceEqDiff,Fg];refine mE [0,3,4,5] [4] (fun S hs ho=>?_);simp only [stB,reduceCtorEq,Nat.reduceEqDiff] at hs ho;obtain ⟨q0,q3,q4,q5⟩:=hs;obtain ⟨r4,t4⟩:=ho;refine dZ ms48_0 os48_0 (fun m st=>∃ j:Nat,m=l.length - j∧j≤l.length∧st.sl 5=aI j∧st.sl 4=.b (.one (.own 4 1 (gP (bS l j))))∧st.gen 4=1∧st.ob 4=.row 78 2 (bS l j).length) l.length ?_ ?_
  ·exact ⟨0,rfl,Nat.zero_le _,q5,q4,r4,t4⟩
  rintro m z ⟨j,rfl,hj,h5,h4,g4,o4⟩;simp only [stB,seval] at h5 h4 g4 o4
  rcases Nat.lt_or_ge j l.length with hlt | hge
  ·have hlt':(j:Int) < (l.length:Int):=by omega
   have hj0:(0:Int)≤(j:Int):=by omega
   simp only [↓evP,evB,stB,reduceCtorEq,Nat.reduceEqDiff,Nat.reduceBEq,q0,h5,h4,hlt']
   refine Fa (fun st=>Within ms48_0 os48_0 S st) (by repeat' (first | assumption | exact aW.mpr trivial | exact Within.refl _ _ _ | (refine bH ?_ rfl rfl) | (refine bg ?_ rfl))) [0,3,4,5,6] [4] (fun T hwT hs2 ho2=>?_);simp only [stB,reduceCtorEq,Nat.reduceEqDiff,Nat.reduceBEq,q0,q3,h5,h4,g4,o4] at hs2 ho2;obtain ⟨p0,p3,p4,p5,p6⟩:=hs2;obtain ⟨r4',t4'⟩:=ho2;rw [←r4'] at p4
   have hjj:j * j+j≤900 * 901:=by
    have:j≤899:=by omega
    calc j * j+j=j * (j+1):=by rw [Nat.mul_add,Nat.mul_one]
     _≤900 * 901:=Nat.mul_le_mul (by omega) (by omega)
   have hrl:=nW l j;refine dZ ms48_1 os48_1 (fun m st=>∃ i:Nat,m=j - i∧i≤j∧st.sl 6=aI i∧st.sl 4=.b (.one (.own 4 (T.gen 4) (gP (bS l j ++ (bC l j i).map fun i=>(i,j)))))∧st.gen 4=T.gen 4∧st.ob 4=.row 78 2 (bS l j ++ (bC l j i).map fun i=>(i,j)).length) j ?_ ?_
   ·refine ⟨0,rfl,Nat.zero_le _,p6,?_,rfl,?_⟩
    ·rw [p4];simp [bC]
    ·rw [t4'];simp [bC]
   rintro m2 z2 ⟨i,rfl,hi,h6,h4',g4',o4'⟩;simp only [stB,Nat.reduceBEq] at h6 h4' g4' o4'
   rcases Nat.lt_or_ge i j with hij | hij
   ·have hij':(i:Int) < (j:Int):=by omega
    have hi0:(0:Int)≤(i:Int):=by omega
    have ei:=jW (l:=l) (i:=i) (by omega);have ej:=jW (l:=l) (i:=j) hlt;have r1:=oM (n:=l.length) (i:=i) (by omega);have r2:=oM (n:=l.length) (i:=j) hlt;have hal:=lJ l j i;have hsucc:=qG l j i;simp only [↓evP,evB,stB,reduceCtorEq,Nat.reduceEqDiff,Nat.reduceAdd,Nat.reduceLeDiff,Nat.reduceBEq,p0,p5,h6,h4',hij',hi0,hj0,ei,ej,Ev.row];refine bQ [pB (iq (ay l i) (ay l j))] (by exact mF.mk _ _) ?_;have hb:nK l i j=(iq (ay l i) (ay l j) && !decide (HB l i j)):=rfl;have hrow:rZ (i,j)=[dI i,dI j]:=rfl
    cases hcf:iq (ay l i) (ay l j) with
    | false =>
      rw [hb,hcf,Bool.false_and,if_neg (by decide),List.append_nil] at hsucc;simp only [↓evP,evB,stB,reduceCtorEq,Nat.reduceEqDiff,Nat.reduceAdd,Nat.reduceLeDiff,Nat.reduceBEq,p5,h6,h4',g4',o4'];refine ⟨(by unfold Drw;refine Eq.trans (b:=true) ?_ rfl;kernel_rfl),?_⟩
      exact ⟨_,by omega,(by repeat' (first | assumption | exact aW.mpr trivial | exact Within.refl _ _ _ | (refine bH ?_ rfl rfl) | (refine bg ?_ rfl))),i+1,rfl,by omega,by simp only [stB,Nat.reduceEqDiff,Nat.reduceBEq,h6];rw [wrN (by omega)],by simp only [stB,Nat.reduceEqDiff,Nat.reduceBEq,h4',hsucc],by simp only [stB,Nat.reduceBEq,g4'],by simp only [stB,Nat.reduceBEq,o4',hsucc]⟩
    | true =>
      rw [hb,hcf,Bool.true_and] at hsucc
      by_cases hh:HB l i j
      ·have hd:decide (HB l i j)=true:=decide_eq_true hh;rw [hd,if_neg (by decide),List.append_nil] at hsucc;simp only [↓evP,evB,stB,reduceCtorEq,Nat.reduceEqDiff,Nat.reduceAdd,Nat.reduceLeDiff,Nat.reduceBEq,p3,p5,h6,h4',g4',o4',hi0,hj0,r1,r2,pO,hd];refine ⟨(by unfold Drw;refine Eq.trans (b:=true) ?_ rfl;kernel_rfl),?_⟩
       exact ⟨_,by omega,(by repeat' (first | assumption | exact aW.mpr trivial | exact Within.refl _ _ _ | (refine bH ?_ rfl rfl) | (refine bg ?_ rfl))),i+1,rfl,by omega,by simp only [stB,Nat.reduceEqDiff,Nat.reduceBEq,h6];rw [wrN (by omega)],by simp only [stB,Nat.reduceEqDiff,Nat.reduceBEq,h4',hsucc],by simp only [stB,Nat.reduceBEq,g4'],by simp only [stB,Nat.reduceBEq,o4',hsucc]⟩
      ·have hd:decide (HB l i j)=false:=decide_eq_false hh;rw [hd,if_pos (by decide)] at hsucc;simp only [↓evP,evB,stB,reduceCtorEq,Nat.reduceEqDiff,Nat.reduceAdd,Nat.reduceLeDiff,Nat.reduceBEq,p3,p5,h6,h4',g4',o4',hi0,hj0,r1,r2,pO,hd];refine ⟨(by unfold Drw;refine Eq.trans (b:=true) ?_ rfl;kernel_rfl),?_⟩
       have hb1:(bS l j ++ (bC l j i).map fun i=>(i,j)).length≤999999:=by
        rw [List.length_append,List.length_map];omega
       have hb2:(gP (bS l j ++ (bC l j i).map fun i=>(i,j))).length=(bS l j ++ (bC l j i).map fun i=>(i,j)).length:=List.length_map ..;have hs2:(bS l j ++ (bC l j (i+1)).map fun i=>(i,j))=(bS l j ++ (bC l j i).map fun i=>(i,j)) ++ [(i,j)]:=by rw [hsucc,List.map_append,List.append_assoc];rfl
       obtain ⟨A,hA⟩:∃ A,(bS l j ++ (bC l j i).map fun i=>(i,j))=A:=⟨_,rfl⟩
       rw [hA] at hb1 hb2 hs2 h4' o4';have hs3:gP (A ++ [(i,j)])=gP A ++ [[.sc (.int .i64 i),.sc (.int .i64 j)]]:=by unfold gP;rw [List.map_append];rfl
       simp only [↓evP,evB,stB,Nat.reduceEqDiff,Nat.reduceBEq,h6,hb1,hb2,hA]
       exact ⟨_,by omega,(by repeat' (first | assumption | exact aW.mpr trivial | exact Within.refl _ _ _ | (refine bH ?_ rfl rfl) | (refine bg ?_ rfl))),i+1,rfl,by omega,by simp only [stB,Nat.reduceEqDiff,Nat.reduceBEq,h6];rw [wrN (by omega)],by simp only [stB,Nat.reduceEqDiff,Nat.reduceBEq];rw [hs2,hs3],by simp only [stB,Nat.reduceEqDiff,Nat.reduceBEq,g4'],by simp only [stB,Nat.reduceEqDiff,Nat.reduceBEq,o4'];rw [hs2,List.length_append];rfl⟩
   ·have hij':¬ (i:Int) < (j:Int):=by omega
    have hie:i=j:=by omega
    subst hie;simp only [↓evP,evB,stB,reduceCtorEq,Nat.reduceEqDiff,Nat.reduceBEq,p0,p5,h6,h4',hij']
    exact ⟨_,by omega,(by repeat' (first | exact FL hwT rfl rfl | (refine bH ?_ rfl rfl) | (refine bg ?_ rfl))),i+1,rfl,by omega,by simp only [stB,Nat.reduceEqDiff,Nat.reduceBEq,p5];rw [wrN (by omega)],by simp only [stB,Nat.reduceEqDiff,Nat.reduceBEq,h4',gW,r4'],by simp only [stB,Nat.reduceBEq,g4',r4'],by simp only [stB,Nat.reduceBEq,o4',gW]⟩
  ·have hje:j=l.length:=by omega
   have hlt':¬ (j:Int) < (l.length:Int):=by omega
   simp only [↓evP,evB,stB,reduceCtorEq,Nat.reduceEqDiff,Nat.reduceBEq,q0,h5,h4,hlt',pr48];rw [hje];rfl
 ·rw [if_neg hc,decide_eq_false hc];simp only [↓evP,evB,stB,reduceCtorEq,Nat.reduceEqDiff,Nat.reduceAdd,pr48,r9]
theorem Ta {p:bZ} {e:Ev} {c:Ck} (hcl:p.ck.length=8) (hg:0≤e.g∧e.g < 8) (h14:e.kind=14→1≤e.k∧e.k < 8) {g:Int} (h0:0≤g) (h8:g < 8) :
 (p.fin e c).ck.getD g.toNat ckZ=if g=e.g then c else if e.kind=14∧g=e.k then c else p.ck.getD g.toNat ckZ:=by
 unfold bZ.fin;dsimp only;rw [OJ]
 by_cases k14:e.kind=14
 ·rw [if_pos k14];have:=h14 k14;rw [iO (by rw [List.length_set];omega)]
  by_cases hgg:g=e.g
  ·rw [if_pos hgg,if_pos (by omega)]
  ·rw [if_neg hgg,if_neg (by omega),iO (by omega)]
   by_cases hgk:g=e.k
   ·rw [if_pos (by omega),if_pos ⟨k14,hgk⟩]
   ·rw [if_neg (by omega),if_neg (fun q=>hgk q.2)]
 ·rw [if_neg k14];rw [iO (by omega)]
  by_cases hgg:g=e.g
  ·rw [if_pos hgg,if_pos (by omega)]
  ·rw [if_neg hgg,if_neg (by omega),if_neg (fun q=>k14 q.1)]
def qA (l:List Ev) (g:Int):Nat→Ck
 | 0=>ckZ
 | j+1=>if (ay l j).g=g∨((ay l j).kind=14∧(ay l j).k=g) then stp l j else qA l g j
section
variable {l:List Ev} (hc:chk l=l.length) (hl:l.length≤1000)
include hc hl
theorem wQ {j:Nat} (hj:j≤l.length) (g:Int):(jP l j).clock g=qA l g j:=by
 induction j with
 | zero =>
   show bZ.clock _ g=ckZ
   unfold bZ.clock;split
   ·show (List.replicate 8 ckZ).getD g.toNat ckZ=ckZ
    rw [List.getD_eq_getElem?_getD,List.getElem?_replicate];split <;> rfl
   ·rfl
 | succ j ih =>
   have hlt:j < l.length:=hj;have hT:=wF hc (show l.length≤1000000 by omega) (j:=j) (by omega);have hg:=Ev.wL (mJ hc hlt);have hk:=fun q=>Ev.rV (mJ hc hlt) q
   have e1:jP l (j+1)=(jP l j).fin (ay l j) (stp l j):=(zM hc (by omega) hlt hT).2;have ih:=ih (by omega);unfold qA;unfold bZ.clock at ih ⊢
   by_cases hr:0≤g∧g < 8
   ·rw [if_pos hr] at ih ⊢;rw [e1,Ta hT.cl hg hk hr.1 hr.2]
    by_cases q1:g=(ay l j).g
    ·rw [if_pos q1,if_pos (.inl q1.symm)]
    ·rw [if_neg q1]
     by_cases q2:(ay l j).kind=14∧g=(ay l j).k
     ·rw [if_pos q2,if_pos (.inr ⟨q2.1,q2.2.symm⟩)]
     ·rw [if_neg q2,if_neg (fun q=>q.elim (fun q=>q1 q.symm) (fun q=>q2 ⟨q.1,q.2.symm⟩)),ih]
   ·rw [if_neg hr] at ih ⊢;rw [if_neg,ih];rintro (q | ⟨q,q2⟩)
    ·omega
    ·have:=hk q;omega
theorem Iq {j:Nat} (hj:j < l.length):qA l (ay l j).g j=bT (aX l j) (ay l j):=by
 have hg:=Ev.wL (mJ hc hj);rw [←wQ hc hl (Nat.le_of_lt hj)];unfold bZ.clock;rw [if_pos hg,(wF hc (by omega) (Nat.le_of_lt hj)).ck _ hg.1 hg.2];rfl
omit hl in
theorem NI {j:Nat} (hj:j < l.length):(∀ k,k < 8→(bT (aX l j) (ay l j)).getD k 0≤(stp l j).getD k 0)∧(stp l j).getD (ay l j).g.toNat 0=(bT (aX l j) (ay l j)).getD (ay l j).g.toNat 0+1:=by
 have V:=VL.of hc;have hg:=V.g hj;have hok:=dh l j;have hcn:=V.cnt (j:=j) (by omega);have h1:=hcn.start hok (e:=ay l j) (by omega) (k:=(ay l j).g.toNat) (by omega);have h3:((aX l j).cur.getD (ay l j).g.toNat ckZ).getD (ay l j).g.toNat 0=(aX l j).dg (ay l j).g.toNat:=rfl;have h4:=(hcn.clock (l:=l) (e:=ay l j) hok (by omega)).1;rw [←nM hj] at h4;refine ⟨fun k hk=>?_,by omega⟩
 by_cases hkg:k=(ay l j).g.toNat
 ·rw [hkg];omega
 ·rw [nM hj,mY,pU (by rw [rM hok];omega),if_neg hkg]
  exact (hcn.pre (l:=l) hok (e:=ay l j) (by omega) hk).1
theorem wP {j:Nat} (hj:j < l.length) (g:Int):∀ k,k < 8→(qA l g j).getD k 0≤(qA l g (j+1)).getD k 0:=by
 intro k hk;have V:=VL.of hc
 show _≤(if (ay l j).g=g∨((ay l j).kind=14∧(ay l j).k=g) then stp l j else qA l g j).getD k 0
 split
 ·rename_i h
  by_cases h1:(ay l j).g=g
  ·rw [←h1,Iq hc hl hj];exact (NI hc hj).1 k hk
  ·have h2:=h.resolve_left h1
   have hz:qA l g j=ckZ:=by
    have hn:=Ou hc hj h2.1
    have:∀ i,i≤j→qA l g i=ckZ:=fun i=>by
     induction i with
     | zero=>intro _;rfl
     | succ i ih =>
       intro hi;unfold qA;rw [if_neg,ih (by omega)];rintro (q | ⟨q,q2⟩)
       ·have:=vF (l:=l) (g:=g) (p:=i) (n:=j) (by omega) q;rw [h2.2] at hn;omega
       ·have:=V.go i j (by omega) hj q h2.1 (q2.trans h2.2.symm);omega
    exact this j (Nat.le_refl j)
   rw [hz,jF];exact FC
 ·exact Int.le_refl _
end
end Go.Proofs.Ytffcpijeebagfaa
end
section
namespace Go.Proofs.Ytffcpijeebagfaa
open Go
theorem Je {t u:TS} {e:Ev} (h:t.add e=some u) (hk:e.kind≠14):u.gor=t.gor:=by
 unfold TS.add at h;split at h
 ·rw [Option.map_eq_some_iff] at h;obtain ⟨v,hv,rfl⟩:=h
  show v.gor=t.gor
  unfold TS.part at hv;split at hv
  ·unfold TS.proceed at hv;split at hv
   ·cases hv;rfl
   ·cases hv
  ·split at hv
   ·unfold TS.operate at hv;dsimp only at hv
    repeat' split at hv
    all_goals first
     | (cases hv;done)
     | (cases hv;rfl)
     | (simp only [Option.map_eq_some_iff] at hv;obtain ⟨ks,_,rfl⟩:=hv;rfl)
   ·unfold TS.simple at hv;dsimp only at hv;rw [if_neg hk] at hv
    repeat' split at hv
    all_goals first
     | (cases hv;done)
     | (cases hv;rfl)
 ·cases h
open Classical in
noncomputable def setB (l:List Ev) (k i:Nat):Bool:=decide (∀ h:Nat,(h:Int) < (cu l k).gor→(h:Int)≠(ay l i).g→(ord l i:Int)≤(qA l h k).getD (ay l i).g.toNat 0)
open Classical in
theorem mI {l:List Ev} {k i:Nat}:setB l k i=true↔∀ h:Nat,(h:Int) < (cu l k).gor→(h:Int)≠(ay l i).g→(ord l i:Int)≤(qA l h k).getD (ay l i).g.toNat 0:=decide_eq_true_iff
section
variable {l:List Ev} (hc:chk l=l.length) (hl:l.length≤1000)
include hc hl
omit hc hl in
theorem Gy {k:Nat}:qA l (ay l k).g (k+1)=stp l k:=if_pos (.inl rfl)
omit hl in
theorem Uc {i k:Nat} (hik:i < k) (hk:k < l.length) (hg:(ay l k).g=(ay l i).g):(ord l i:Int)≤(stp l k).getD (ay l i).g.toNat 0:=by
 have V:=VL.of hc;have h1:=lq V hk;rw [hg] at h1;rw [h1]
 have:ord l i≤ord l k:=by
  unfold ord;rw [hg];exact l7 (by omega)
 omega
theorem NG {i k:Nat} (hik:i < k) (hk:k < l.length) (h:setB l k i=true):setB l (k+1) i=true:=by
 rw [mI] at h ⊢;have V:=VL.of hc;have hgi:=V.g (i:=i) (by omega);intro x hx hne;have hs:=cK hc hk
 rcases Int.lt_or_le (x:Int) (cu l k).gor with hlt | hge
 ·exact Int.le_trans (h x hlt hne) (wP hc hl hk x _ (by omega))
 ·have h14:(ay l k).kind=14:=by
   by_cases q:(ay l k).kind=14
   ·exact q
   ·have:=Je hs q;omega
  have hR:∃ r,Rel r (cu l k):=by
   have hR:∀ k,k≤l.length→∃ r t,RAt l k r t:=fun k=>by
    induction k with
    | zero=>intro _;exact ⟨_,_,RAt.zero l⟩
    | succ k ih =>
      intro hk;obtain ⟨r,t,h⟩:=ih (by omega)
      rcases h.step (jW (l:=l) (i:=k) (by omega)) with ⟨r',t',_,_,h'⟩ | ⟨_,h2,_⟩
      ·exact ⟨r',t',h'⟩
      ·omega
   obtain ⟨r,t,hr⟩:=hR k (by omega);have h1:=nC hc (n:=k) (by omega);have h2:=hr.st;rw [h1] at h2;cases h2;exact ⟨r,hr.rl⟩
  obtain ⟨r,hr⟩:=hR;obtain ⟨g1,g2⟩:=(rX hr hs).2 h14;have hxk:(ay l k).k=(x:Int):=by omega
  have hcl:qA l x (k+1)=stp l k:=if_pos (.inr ⟨h14,hxk⟩);rw [hcl]
  by_cases hg:(ay l k).g=(ay l i).g
  ·exact Uc hc hik hk hg
  ·have hgk:=V.g hk;have hgl:=vw hs;have:=h (ay l k).g.toNat (by omega) (by omega);rw [Int.toNat_of_nonneg hgk.1] at this;rw [←Gy (l:=l) (k:=k)];exact Int.le_trans this (wP hc hl hk _ _ (by omega))
theorem UD {i j:Nat} (hij:i < j) (hj:j < l.length) (hg:(ay l i).g≠(ay l j).g) (h:setB l j i=true):HB l i j:=by
 have V:=VL.of hc;have hgi:=V.g (i:=i) (by omega);have hgj:=V.g hj;have hs:=cK hc hj;have hgl:=vw hs;rw [Oz hc (by omega) hj (by omega),lq V (by omega)];have:=mI.1 h (ay l j).g.toNat (by omega) (by omega);rw [Int.toNat_of_nonneg hgj.1] at this;rw [←Gy (l:=l) (k:=j)];exact Int.le_trans this (wP hc hl hj _ _ (by omega))
open Classical in
theorem JN {i j:Nat} (hij:i < j) (hj:j < l.length) (h:nK l i j=true):jD (ay l i).kind=true∧setB l j i=false:=by
 unfold nK iq at h;simp only [Bool.and_eq_true,Bool.not_eq_true',bne_iff_ne,ne_eq,decide_eq_false_iff_not] at h;obtain ⟨⟨h1,h2,h3,_⟩,h4⟩:=h;refine ⟨h1,?_⟩
 cases hs:setB l j i with
 | false=>rfl
 | true=>exact absurd (UD hc hl hij hj h3 hs) h4
omit hl in
open Classical in
theorem rO {i j:Nat} (hij:i < j) (hj:j < l.length):nK l i j=(iq (ay l i) (ay l j) && decide ((stp l j).getD (ay l i).g.toNat 0 < (ord l i:Int))):=by
 have V:=VL.of hc;have h:=Oz hc (i:=i) (j:=j) (by omega) hj (by omega);rw [lq V (by omega)] at h;unfold nK
 congr 1
 rw [Bool.eq_iff_iff,Bool.not_eq_true',decide_eq_false_iff_not,decide_eq_true_eq,h];omega
end
noncomputable def live (l:List Ev) (k:Nat):List Nat:=(List.range k).filter fun i=>jD (ay l i).kind && !setB l k i
noncomputable def vP (l:List Ev) (k:Nat):List Nat:=live l k ++ if jD (ay l k).kind=true then [k] else []
section
variable {l:List Ev} (hc:chk l=l.length) (hl:l.length≤1000)
include hc hl
theorem Ju {k:Nat} (hk:k < l.length):(vP l k).filter (fun i=>!setB l (k+1) i)=live l (k+1):=by
 unfold vP live;rw [List.filter_append,List.filter_filter,List.range_succ,List.filter_append]
 congr 1
 ·apply List.filter_congr
  intro i hi;rw [List.mem_range] at hi
  cases h1:jD (ay l i).kind with
  | false=>simp
  | true =>
    cases h2:setB l (k+1) i with
    | true=>simp
    | false =>
      cases h3:setB l k i with
      | true=>have:=NG hc hl hi hk h3;rw [h2] at this;cases this
      | false=>rfl
 ·cases h1:jD (ay l k).kind with
  | false=>simp [h1]
  | true=>cases h2:setB l (k+1) k <;> simp [h1,h2]
theorem Fe {j:Nat} (hj:j < l.length):(live l j).filter (fun i=>iq (ay l i) (ay l j) && decide ((stp l j).getD (ay l i).g.toNat 0 < (ord l i:Int)))=bC l j j:=by
 unfold live bC;rw [List.filter_filter]
 apply List.filter_congr
 intro i hi;rw [List.mem_range] at hi;rw [←rO hc hi hj]
 cases h:nK l i j with
 | false=>rfl
 | true =>
   obtain ⟨h1,h2⟩:=JN hc hl hi hj h;rw [h1,h2];rfl
end
end Go.Proofs.Ytffcpijeebagfaa
end
