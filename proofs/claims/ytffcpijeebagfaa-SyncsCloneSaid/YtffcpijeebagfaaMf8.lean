/- The reference of chapter 30: transfer. -/
import Derived.Test.YtffcpijeebagfaaMf7
set_option linter.unusedSimpArgs false
set_option linter.unusedVariables false
section
namespace Go.Proofs.Ytffcpijeebagfaa
open Go Go.RowKit
set_option maxRecDepth 100000
set_option maxHeartbeats 4000000
def R_transfer (ps rs:List Pa):Prop:=∃ (s:RSt) (e:Ev),ps=[s.pa,e.pa]∧s.ok∧rs=[(s.transferR e).1.pa,pB (s.transferR e).2]
def env_transfer:Env:=e1 97 R_channel (e1 99 R_setChannel (e1 98 R_begin e0))
theorem env_transfer_ok:EnvOK Try.prog env_transfer:=EnvOK.e1 s_channel (EnvOK.e1 s_setChannel (EnvOK.e1 s_begin EnvOK.e0))
theorem bne_ne {a b:Int} (h:(a != b)=true):a≠b:=bne_iff_ne.1 h
theorem bne_eq {a b:Int} (h:(a != b)=false):a=b:=by simpa using h
theorem beq_ne {a b:Int} (h:(a == b)=false):¬ a=b:=beq_eq_false_iff_ne.1 h
theorem s_transfer:Spec Try.prog 67 R_transfer:=by
 refine sp67 env_transfer_ok ?_;rintro ps rs ⟨s,e,rfl,hok,rfl⟩;refine ⟨by simp,?_⟩;have hbd:=RSt.channel_bd hok e.obj e.n;have hch:=hok.ch.1;unfold pc67;refine pwp_start ?_;simp only [↓evP,evB,stB,reduceIte,reduceCtorEq,seval,RSt.pa,RSt.row,Ev.pa,Ev.row];refine callOps_intro [.agg (s.channel e.obj e.n).row] ⟨s,e.obj,e.n,rfl,by omega,rfl⟩ ?_;have ht:s.transferR e=s.transferR e:=rfl
 conv at ht=>rhs;unfold RSt.transferR
 generalize s.channel e.obj e.n=c at *;obtain ⟨⟨c1,c2⟩,c3,c4⟩:=hbd;have hw:IntKind.i64.wrap (c.sent - c.recv)=c.sent - c.recv:=wr64 (by omega) (by omega)
 cases a0:(c.n != e.n) with
 | true =>
   rw [ht,if_pos (bne_ne a0)];simp only [↓evP,evB,stB,reduceIte,reduceCtorEq,seval,RCh.row,pr67,decide_true,decide_false,a0,RSt.pa,RSt.row]
 | false =>
 simp only [↓evP,evB,stB,reduceIte,reduceCtorEq,seval,RCh.row,pr67,decide_true,decide_false,a0];refine pwp_fresh [2,3,4,6,7] [2,3,4,6] (fun st hs ho=>?_);simp only [stB,reduceIte,reduceCtorEq,seval] at hs ho;obtain ⟨h2,h3,h4,h6,h7⟩:=hs;obtain ⟨⟨g2,o2⟩,⟨g3,o3⟩,⟨g4,o4⟩,⟨g6,o6⟩⟩:=ho
 cases k15:(e.kind == 15) with
 | true =>
   cases a1:(e.k != c.sent) with
   | true =>
     rw [ht,if_neg (fun h=>h (bne_eq a0)),if_pos (beq_iff_eq.1 k15),if_pos (bne_ne a1)];unfold pc67c2 pc67c1 pc67c0;simp only [↓evP,evB,stB,reduceIte,reduceCtorEq,seval,RCh.row,pr67,decide_true,decide_false,h2,h3,h4,h6,h7,g2,g3,g4,g6,o2,o3,o4,o6,k15,a1,RSt.pa,RSt.row]
   | false =>
   cases a2:c.closed with
   | true =>
     rw [ht,if_neg (fun h=>h (bne_eq a0)),if_pos (beq_iff_eq.1 k15),if_neg (fun h=>h (bne_eq a1)),if_pos a2];unfold pc67c2 pc67c1 pc67c0;simp only [↓evP,evB,stB,reduceIte,reduceCtorEq,seval,RCh.row,pr67,decide_true,decide_false,h2,h3,h4,h6,h7,g2,g3,g4,g6,o2,o3,o4,o6,k15,a1,a2,RSt.pa,RSt.row]
   | false =>
   by_cases b1:c.n > 0
   ·have b3:(c.n == 0)=false:=beq_eq_false_iff_ne.2 (by omega)
    by_cases b2:c.sent - c.recv < c.n
    ·
      rw [ht,if_neg (fun h=>h (bne_eq a0)),if_pos (beq_iff_eq.1 k15),if_neg (fun h=>h (bne_eq a1)),if_neg (fun h=>Bool.noConfusion (a2.symm.trans h)),if_pos ⟨b1,b2⟩];unfold pc67c2 pc67c1 pc67c0;simp only [↓evP,evB,stB,reduceIte,reduceCtorEq,seval,RCh.row,pr67,decide_true,decide_false,h2,h3,h4,h6,h7,g2,g3,g4,g6,o2,o3,o4,o6,k15,a1,a2,b1,b2,b3,hw];refine callOps_intro [(s.begin e [⟨16,e.g,0⟩]).pa,pB true] ⟨s,e,[⟨16,e.g,0⟩],rfl,⟨hok,by simp⟩,rfl⟩ ?_;simp only [↓evP,evB,stB,reduceIte,reduceCtorEq,seval,RCh.row,pr67,decide_true,decide_false,h2,h3,h4,h6,h7,g2,g3,g4,g6,o2,o3,o4,o6,k15,a1,a2,b1,b2,b3,hw,RSt.pa,RSt.row]
    ·
      rw [ht,if_neg (fun h=>h (bne_eq a0)),if_pos (beq_iff_eq.1 k15),if_neg (fun h=>h (bne_eq a1)),if_neg (fun h=>Bool.noConfusion (a2.symm.trans h)),if_neg (fun h=>b2 h.2),if_neg (fun h=>beq_ne b3 h.1)];unfold pc67c2 pc67c1 pc67c0;simp only [↓evP,evB,stB,reduceIte,reduceCtorEq,seval,RCh.row,pr67,decide_true,decide_false,h2,h3,h4,h6,h7,g2,g3,g4,g6,o2,o3,o4,o6,k15,a1,a2,b1,b2,b3,hw,RSt.pa,RSt.row]
   ·cases b3:(c.n == 0) with
    | true =>
      by_cases b4:s.gor > 1
      ·
        rw [ht,if_neg (fun h=>h (bne_eq a0)),if_pos (beq_iff_eq.1 k15),if_neg (fun h=>h (bne_eq a1)),if_neg (fun h=>Bool.noConfusion (a2.symm.trans h)),if_neg (fun h=>b1 h.1),if_pos ⟨beq_iff_eq.1 b3,b4⟩];unfold pc67c2 pc67c1 pc67c0;simp only [↓evP,evB,stB,reduceIte,reduceCtorEq,seval,RCh.row,pr67,decide_true,decide_false,h2,h3,h4,h6,h7,g2,g3,g4,g6,o2,o3,o4,o6,k15,a1,a2,b1,b3,b4];refine callOps_intro [(s.begin e [⟨17, -1,e.g⟩,⟨18, -1,0⟩,⟨16,e.g,0⟩]).pa,pB true] ⟨s,e,[⟨17, -1,e.g⟩,⟨18, -1,0⟩,⟨16,e.g,0⟩],rfl,⟨hok,by simp⟩,rfl⟩ ?_;simp only [↓evP,evB,stB,reduceIte,reduceCtorEq,seval,RCh.row,pr67,decide_true,decide_false,h2,h3,h4,h6,h7,g2,g3,g4,g6,o2,o3,o4,o6,k15,a1,a2,b1,b3,b4,RSt.pa,RSt.row]
      ·
        rw [ht,if_neg (fun h=>h (bne_eq a0)),if_pos (beq_iff_eq.1 k15),if_neg (fun h=>h (bne_eq a1)),if_neg (fun h=>Bool.noConfusion (a2.symm.trans h)),if_neg (fun h=>b1 h.1),if_neg (fun h=>b4 h.2)];unfold pc67c2 pc67c1 pc67c0;simp only [↓evP,evB,stB,reduceIte,reduceCtorEq,seval,RCh.row,pr67,decide_true,decide_false,h2,h3,h4,h6,h7,g2,g3,g4,g6,o2,o3,o4,o6,k15,a1,a2,b1,b3,b4,RSt.pa,RSt.row]
    | false =>
      rw [ht,if_neg (fun h=>h (bne_eq a0)),if_pos (beq_iff_eq.1 k15),if_neg (fun h=>h (bne_eq a1)),if_neg (fun h=>Bool.noConfusion (a2.symm.trans h)),if_neg (fun h=>b1 h.1),if_neg (fun h=>beq_ne b3 h.1)];unfold pc67c2 pc67c1 pc67c0;simp only [↓evP,evB,stB,reduceIte,reduceCtorEq,seval,RCh.row,pr67,decide_true,decide_false,h2,h3,h4,h6,h7,g2,g3,g4,g6,o2,o3,o4,o6,k15,a1,a2,b1,b3,RSt.pa,RSt.row]
 | false =>
 cases k17:(e.kind == 17) with
 | true =>
   cases a1:(e.k != c.recv) with
   | true =>
     rw [ht,if_neg (fun h=>h (bne_eq a0)),if_neg (beq_ne k15),if_pos (beq_iff_eq.1 k17),if_pos (bne_ne a1)];unfold pc67c2 pc67c1 pc67c0;simp only [↓evP,evB,stB,reduceIte,reduceCtorEq,seval,RCh.row,pr67,decide_true,decide_false,h2,h3,h4,h6,h7,g2,g3,g4,g6,o2,o3,o4,o6,k15,k17,a1,RSt.pa,RSt.row]
   | false =>
   by_cases b1:c.sent > c.recv
   ·
     rw [ht,if_neg (fun h=>h (bne_eq a0)),if_neg (beq_ne k15),if_pos (beq_iff_eq.1 k17),if_neg (fun h=>h (bne_eq a1)),if_pos b1];unfold pc67c2 pc67c1 pc67c0;simp only [↓evP,evB,stB,reduceIte,reduceCtorEq,seval,RCh.row,pr67,decide_true,decide_false,h2,h3,h4,h6,h7,g2,g3,g4,g6,o2,o3,o4,o6,k15,k17,a1,b1];refine callOps_intro [(s.begin e [⟨18,e.g,0⟩]).pa,pB true] ⟨s,e,[⟨18,e.g,0⟩],rfl,⟨hok,by simp⟩,rfl⟩ ?_;simp only [↓evP,evB,stB,reduceIte,reduceCtorEq,seval,RCh.row,pr67,decide_true,decide_false,h2,h3,h4,h6,h7,g2,g3,g4,g6,o2,o3,o4,o6,k15,k17,a1,b1,RSt.pa,RSt.row]
   ·
     cases a2:c.closed with
     | true =>
       rw [ht,if_neg (fun h=>h (bne_eq a0)),if_neg (beq_ne k15),if_pos (beq_iff_eq.1 k17),if_neg (fun h=>h (bne_eq a1)),if_neg (fun h=>b1 h),if_neg (fun h=>Bool.noConfusion (a2.symm.trans h.1))];unfold pc67c2 pc67c1 pc67c0;simp only [↓evP,evB,stB,reduceIte,reduceCtorEq,seval,RCh.row,pr67,decide_true,decide_false,h2,h3,h4,h6,h7,g2,g3,g4,g6,o2,o3,o4,o6,k15,k17,a1,a2,b1,RSt.pa,RSt.row]
     | false =>
       by_cases b4:s.gor > 1
       ·
         rw [ht,if_neg (fun h=>h (bne_eq a0)),if_neg (beq_ne k15),if_pos (beq_iff_eq.1 k17),if_neg (fun h=>h (bne_eq a1)),if_neg (fun h=>b1 h),if_pos ⟨a2,b4⟩];unfold pc67c2 pc67c1 pc67c0;simp only [↓evP,evB,stB,reduceIte,reduceCtorEq,seval,RCh.row,pr67,decide_true,decide_false,h2,h3,h4,h6,h7,g2,g3,g4,g6,o2,o3,o4,o6,k15,k17,a1,a2,b1,b4];refine callOps_intro [(s.begin e [⟨15, -1,e.g⟩,⟨18,e.g,0⟩,⟨16, -1,0⟩]).pa,pB true] ⟨s,e,[⟨15, -1,e.g⟩,⟨18,e.g,0⟩,⟨16, -1,0⟩],rfl,⟨hok,by simp⟩,rfl⟩ ?_;simp only [↓evP,evB,stB,reduceIte,reduceCtorEq,seval,RCh.row,pr67,decide_true,decide_false,h2,h3,h4,h6,h7,g2,g3,g4,g6,o2,o3,o4,o6,k15,k17,a1,a2,b1,b4,RSt.pa,RSt.row]
       ·
         rw [ht,if_neg (fun h=>h (bne_eq a0)),if_neg (beq_ne k15),if_pos (beq_iff_eq.1 k17),if_neg (fun h=>h (bne_eq a1)),if_neg (fun h=>b1 h),if_neg (fun h=>b4 h.2)];unfold pc67c2 pc67c1 pc67c0;simp only [↓evP,evB,stB,reduceIte,reduceCtorEq,seval,RCh.row,pr67,decide_true,decide_false,h2,h3,h4,h6,h7,g2,g3,g4,g6,o2,o3,o4,o6,k15,k17,a1,a2,b1,b4,RSt.pa,RSt.row]
 | false =>
 cases k19:(e.kind == 19) with
 | true =>
   cases a2:c.closed with
   | true =>
     rw [ht,if_neg (fun h=>h (bne_eq a0)),if_neg (beq_ne k15),if_neg (beq_ne k17),if_pos (beq_iff_eq.1 k19),if_pos a2];unfold pc67c2 pc67c1 pc67c0;simp only [↓evP,evB,stB,reduceIte,reduceCtorEq,seval,RCh.row,pr67,decide_true,decide_false,h2,h3,h4,h6,h7,g2,g3,g4,g6,o2,o3,o4,o6,k15,k17,k19,a2,RSt.pa,RSt.row]
   | false =>
     rw [ht,if_neg (fun h=>h (bne_eq a0)),if_neg (beq_ne k15),if_neg (beq_ne k17),if_pos (beq_iff_eq.1 k19),if_neg (fun h=>Bool.noConfusion (a2.symm.trans h))];unfold pc67c2 pc67c1 pc67c0;simp only [↓evP,evB,stB,reduceIte,reduceCtorEq,seval,RCh.row,pr67,decide_true,decide_false,h2,h3,h4,h6,h7,g2,g3,g4,g6,o2,o3,o4,o6,k15,k17,k19,a2]
     refine callOps_intro [(s.setChannel { c with closed:=true }).pa] ⟨s,{ c with closed:=true },rfl,hok.ch.1,rfl⟩ ?_;simp only [↓evP,evB,stB,reduceIte,reduceCtorEq,seval,RCh.row,pr67,decide_true,decide_false,h2,h3,h4,h6,h7,g2,g3,g4,g6,o2,o3,o4,o6,k15,k17,k19,a2,RSt.pa,RSt.row]
 | false =>
 cases k20:(e.kind == 20) with
 | true =>
   cases a2:c.closed with
   | true =>
     rw [ht,if_neg (fun h=>h (bne_eq a0)),if_neg (beq_ne k15),if_neg (beq_ne k17),if_neg (beq_ne k19),if_pos (beq_iff_eq.1 k20)];unfold pc67c2 pc67c1 pc67c0;simp only [↓evP,evB,stB,reduceIte,reduceCtorEq,seval,RCh.row,pr67,decide_true,decide_false,h2,h3,h4,h6,h7,g2,g3,g4,g6,o2,o3,o4,o6,k15,k17,k19,k20,a2,RSt.pa,RSt.row]
     (unfold Drw;kernel_rfl)
   | false =>
     rw [ht,if_neg (fun h=>h (bne_eq a0)),if_neg (beq_ne k15),if_neg (beq_ne k17),if_neg (beq_ne k19),if_pos (beq_iff_eq.1 k20)];unfold pc67c2 pc67c1 pc67c0;simp only [↓evP,evB,stB,reduceIte,reduceCtorEq,seval,RCh.row,pr67,decide_true,decide_false,h2,h3,h4,h6,h7,g2,g3,g4,g6,o2,o3,o4,o6,k15,k17,k19,k20,a2,RSt.pa,RSt.row]
     (unfold Drw;kernel_rfl)
 | false =>
   rw [ht,if_neg (fun h=>h (bne_eq a0)),if_neg (beq_ne k15),if_neg (beq_ne k17),if_neg (beq_ne k19),if_neg (beq_ne k20)];unfold pc67c2 pc67c1 pc67c0;simp only [↓evP,evB,stB,reduceIte,reduceCtorEq,seval,RCh.row,pr67,decide_true,decide_false,h2,h3,h4,h6,h7,g2,g3,g4,g6,o2,o3,o4,o6,k15,k17,k19,k20,RSt.pa,RSt.row]
def R_channel20 (ps rs:List Pa):Prop:=∃ k:Int,ps=[pI k]∧rs=[pB (chanB k)]
theorem s_channel20:Spec Try.prog 66 R_channel20:=by
 refine sp66 EnvOK.e0 ?_;rintro ps rs ⟨k,rfl,rfl⟩;refine ⟨by simp,?_⟩;unfold pc66;refine pwp_start ?_;simp only [↓evP,evB,stB,reduceIte,reduceCtorEq,seval,pr66];refine ⟨fun h=>?_,fun h=>?_⟩
 ·unfold chanB;rw [decide_eq_decide.2 (show (15≤k∧k≤20)↔k≤20 from ⟨fun h=>h.2,fun h2=>⟨h,h2⟩⟩)]
 ·unfold chanB;rw [decide_eq_false (fun h2=>h h2.1)]
def kindNames:List ByteArray:=[⟨#[]⟩,⟨#[114,101,97,100]⟩,⟨#[119,114,105,116,101]⟩,⟨#[97,116,111,109,105,99,45,114,101,97,100]⟩,⟨#[97,116,111,109,105,99,45,119,114,105,116,101]⟩,⟨#[97,116,111,109,105,99,45,98,111,116,104]⟩,⟨#[108,111,99,107]⟩,⟨#[117,110,108,111,99,107]⟩,⟨#[114,108,111,99,107]⟩,⟨#[114,117,110,108,111,99,107]⟩,⟨#[100,111,110,101]⟩,⟨#[119,97,105,116]⟩,⟨#[111,110,99,101,45,101,110,100]⟩,⟨#[111,110,99,101,45,115,101,101,110]⟩,⟨#[103,111]⟩,⟨#[115,101,110,100,45,115,116,97,114,116]⟩,⟨#[115,101,110,100,45,101,110,100]⟩,⟨#[114,101,99,118,45,115,116,97,114,116]⟩,⟨#[114,101,99,118,45,101,110,100]⟩,⟨#[99,108,111,115,101]⟩,⟨#[114,101,99,118,45,99,108,111,115,101,100]⟩]
def R_name (ps rs:List Pa):Prop:=∃ k:Int,ps=[pI k]∧∃ s,rs=[.one (.sc (.string s))]∧s=(if k < 1∨20 < k then ⟨#[]⟩ else (kindNames[k.toNat]?).getD ⟨#[]⟩)
theorem s_name:Spec Try.prog 95 R_name:=by
 refine sp95 EnvOK.e0 ?_;rintro ps rs ⟨k,rfl,s,rfl,hs⟩;refine ⟨by simp,?_⟩;unfold pc95;refine pwp_start ?_
 by_cases h1:k < 1
 ·rw [if_pos (.inl h1)] at hs;subst hs;simp only [↓evP,evB,stB,reduceIte,reduceCtorEq,seval,h1,pr95]
 by_cases h2:k > 20
 ·rw [if_pos (.inr h2)] at hs;subst hs;simp only [↓evP,evB,stB,reduceIte,reduceCtorEq,seval,h1,h2,decide_true,decide_false,pr95]
 rw [if_neg (fun h=>h.elim h1 h2)] at hs;obtain ⟨m,rfl⟩:=Int.eq_ofNat_of_zero_le (show 0≤k by omega);obtain ⟨u,hu⟩:∃ u,kindNames[m]? = some u:=⟨_,List.getElem?_eq_getElem (by show m < 21;omega)⟩
 rw [Int.toNat_natCast,hu,Option.getD_some] at hs;subst hs;have hrow:(kindNames.map fun x=>[Dt.sc (.string x)])[m]? = some [.sc (.string s)]:=by rw [List.getElem?_map,hu];rfl
 unfold kindNames at hrow;simp only [List.map_cons,List.map_nil] at hrow;simp only [↓evP,evB,stB,reduceIte,reduceCtorEq,seval,h1,h2,decide_true,decide_false,hrow,pr95]
def R_valid20 (ps rs:List Pa):Prop:=∃ e:Ev,ps=[e.pa]∧rs=[pB e.valid]
def env_valid20:Env:=e1 95 R_name e0
theorem env_valid20_ok:EnvOK Try.prog env_valid20:=EnvOK.e1 s_name EnvOK.e0
theorem valid20_c1 {e:Ev} (hr:0≤e.k) (Q:Exit→St→Prop)
 (hQ:∀ st,st.res pr64=some [pB (decide (e.obj=0∧e.off=0∧e.n=0∧1≤e.k∧e.k < 8))]→Q .ret st) (st:St)
 (h1:st.sl 1=.b (.one (.ptr 1 1 0))) (g1:st.gen 1=1) (o1:st.ob 1=.cells (e.row.map .d)) :
 pwp env_valid20 pc64c1 (exS env_valid20 [It.bl 2,It.c pc64c0] Q) st:=by
 simp only [Ev.row,List.map_cons,List.map_nil] at o1;unfold pc64c1;simp only [↓evP,evB,stB,reduceIte,reduceCtorEq,Nat.reduceEqDiff,Nat.reduceAdd,Nat.reduceMul,Nat.reduceLeDiff,Nat.reduceLT,Nat.reduceSub,Nat.reduceBEq,h1,g1,o1]
 repeat' (first | apply And.intro | intro)
 all_goals (refine hQ _ ?_;simp only [stB,reduceIte,reduceCtorEq,Nat.reduceEqDiff,Nat.reduceAdd,Nat.reduceMul,Nat.reduceLeDiff,Nat.reduceLT,Nat.reduceSub,Nat.reduceBEq,pr64];refine congrArg (fun b=>some [pB b]) (Bool.eq_iff_iff.2 ?_);simp only [beq_iff_eq,beq_eq_false_iff_ne,ne_eq,decide_eq_true_eq,decide_eq_false_iff_not,Bool.false_eq_true,reduceCtorEq,false_iff,true_iff,iff_false,iff_true] at *;omega)
theorem valid20_c2 {e:Ev} (hr:0≤e.k) (Q:Exit→St→Prop)
 (hQ:∀ st,st.res pr64=some [pB (decide (e.off=0∧e.n≤64))]→Q .ret st) (st:St)
 (h1:st.sl 1=.b (.one (.ptr 1 1 0))) (g1:st.gen 1=1) (o1:st.ob 1=.cells (e.row.map .d)) :
 pwp env_valid20 pc64c2 (exS env_valid20 [It.bl 2,It.c pc64c0] Q) st:=by
 simp only [Ev.row,List.map_cons,List.map_nil] at o1;unfold pc64c2;simp only [↓evP,evB,stB,reduceIte,reduceCtorEq,Nat.reduceEqDiff,Nat.reduceAdd,Nat.reduceMul,Nat.reduceLeDiff,Nat.reduceLT,Nat.reduceSub,Nat.reduceBEq,h1,g1,o1]
 repeat' (first | apply And.intro | intro)
 all_goals (refine hQ _ ?_;simp only [stB,reduceIte,reduceCtorEq,Nat.reduceEqDiff,Nat.reduceAdd,Nat.reduceMul,Nat.reduceLeDiff,Nat.reduceLT,Nat.reduceSub,Nat.reduceBEq,pr64];refine congrArg (fun b=>some [pB b]) (Bool.eq_iff_iff.2 ?_);simp only [beq_iff_eq,beq_eq_false_iff_ne,ne_eq,decide_eq_true_eq,decide_eq_false_iff_not,Bool.false_eq_true,reduceCtorEq,false_iff,true_iff,iff_false,iff_true] at *;omega)
theorem valid20_c3 {e:Ev} (hr:0≤e.k) (Q:Exit→St→Prop)
 (hQ:∀ st,st.res pr64=some [pB (decide (e.off=0∧e.n≤64∧e.k=0))]→Q .ret st) (st:St)
 (h1:st.sl 1=.b (.one (.ptr 1 1 0))) (g1:st.gen 1=1) (o1:st.ob 1=.cells (e.row.map .d)) :
 pwp env_valid20 pc64c3 (exS env_valid20 [It.bl 2,It.c pc64c0] Q) st:=by
 simp only [Ev.row,List.map_cons,List.map_nil] at o1;unfold pc64c3;simp only [↓evP,evB,stB,reduceIte,reduceCtorEq,Nat.reduceEqDiff,Nat.reduceAdd,Nat.reduceMul,Nat.reduceLeDiff,Nat.reduceLT,Nat.reduceSub,Nat.reduceBEq,h1,g1,o1]
 repeat' (first | apply And.intro | intro)
 all_goals (refine hQ _ ?_;simp only [stB,reduceIte,reduceCtorEq,Nat.reduceEqDiff,Nat.reduceAdd,Nat.reduceMul,Nat.reduceLeDiff,Nat.reduceLT,Nat.reduceSub,Nat.reduceBEq,pr64];refine congrArg (fun b=>some [pB b]) (Bool.eq_iff_iff.2 ?_);simp only [beq_iff_eq,beq_eq_false_iff_ne,ne_eq,decide_eq_true_eq,decide_eq_false_iff_not,Bool.false_eq_true,reduceCtorEq,false_iff,true_iff,iff_false,iff_true] at *;omega)
theorem valid20_c0 {e:Ev} (hr:0≤e.k) (Q:Exit→St→Prop)
 (hQ:∀ st,st.res pr64=some [pB (decide (e.k=0∧e.n=0))]→Q .ret st) (st:St)
 (h1:st.sl 1=.b (.one (.ptr 1 1 0))) (g1:st.gen 1=1) (o1:st.ob 1=.cells (e.row.map .d)) :
 pwp env_valid20 pc64c0 (exS env_valid20 [] Q) st:=by
 simp only [Ev.row,List.map_cons,List.map_nil] at o1;unfold pc64c0;simp only [↓evP,evB,stB,reduceIte,reduceCtorEq,Nat.reduceEqDiff,Nat.reduceAdd,Nat.reduceMul,Nat.reduceLeDiff,Nat.reduceLT,Nat.reduceSub,Nat.reduceBEq,h1,g1,o1]
 repeat' (first | apply And.intro | intro)
 all_goals (refine hQ _ ?_;simp only [stB,reduceIte,reduceCtorEq,Nat.reduceEqDiff,Nat.reduceAdd,Nat.reduceMul,Nat.reduceLeDiff,Nat.reduceLT,Nat.reduceSub,Nat.reduceBEq,pr64];refine congrArg (fun b=>some [pB b]) (Bool.eq_iff_iff.2 ?_);simp only [beq_iff_eq,beq_eq_false_iff_ne,ne_eq,decide_eq_true_eq,decide_eq_false_iff_not,Bool.false_eq_true,reduceCtorEq,false_iff,true_iff,iff_false,iff_true] at *;omega)
theorem valid20_tail {e:Ev} (hk:1≤e.kind) (hk2:e.kind≤20) (hr:rangeB e.k=true) (Q:Exit→St→Prop)
 (hQ:∀ st,st.res pr64=some [pB e.rest]→Q .ret st) (st:St)
 (h1:st.sl 1=.b (.one (.ptr 1 1 0))) (g1:st.gen 1=1) (o1:st.ob 1=.cells (e.row.map .d)) :
 pwp env_valid20 pc64c7 (exS env_valid20 [] Q) st:=by
 have o1':=o1;simp only [Ev.row,List.map_cons,List.map_nil] at o1;have hr':0≤e.k:=by unfold rangeB at hr;simp at hr;omega
 unfold pc64c7 pc64c6
 cases k14:(e.kind == 14) with
 | true =>
   simp only [↓evP,evB,stB,reduceIte,reduceCtorEq,Nat.reduceEqDiff,Nat.reduceAdd,Nat.reduceMul,Nat.reduceLeDiff,Nat.reduceLT,Nat.reduceSub,Nat.reduceBEq,h1,g1,o1,k14];have hre:e.rest=decide (e.obj=0∧e.off=0∧e.n=0∧1≤e.k∧e.k < 8):=by unfold Ev.rest;rw [if_pos (beq_iff_eq.1 k14)]
   rw [hre] at hQ;exact valid20_c1 hr' Q hQ _ (by simp only [stB,reduceIte,reduceCtorEq,Nat.reduceEqDiff,Nat.reduceAdd,Nat.reduceMul,Nat.reduceLeDiff,Nat.reduceLT,Nat.reduceSub,Nat.reduceBEq,h1]) (by simp only [stB,reduceIte,reduceCtorEq,Nat.reduceEqDiff,Nat.reduceAdd,Nat.reduceMul,Nat.reduceLeDiff,Nat.reduceLT,Nat.reduceSub,Nat.reduceBEq,g1]) (by simp only [stB,reduceIte,reduceCtorEq,Nat.reduceEqDiff,Nat.reduceAdd,Nat.reduceMul,Nat.reduceLeDiff,Nat.reduceLT,Nat.reduceSub,Nat.reduceBEq,o1,Ev.row])
 | false =>
 have n14:=beq_eq_false_iff_ne.1 k14
 cases k15:(e.kind == 15) with
 | true =>
   simp only [↓evP,evB,stB,reduceIte,reduceCtorEq,Nat.reduceEqDiff,Nat.reduceAdd,Nat.reduceMul,Nat.reduceLeDiff,Nat.reduceLT,Nat.reduceSub,Nat.reduceBEq,h1,g1,o1,k14];unfold pc64c5;simp only [↓evP,evB,stB,reduceIte,reduceCtorEq,Nat.reduceEqDiff,Nat.reduceAdd,Nat.reduceMul,Nat.reduceLeDiff,Nat.reduceLT,Nat.reduceSub,Nat.reduceBEq,h1,g1,o1,k14,k15];have hre:e.rest=decide (e.off=0∧e.n≤64):=by unfold Ev.rest;rw [if_neg n14,if_pos (by have:=beq_iff_eq.1 k15;omega)]
   rw [hre] at hQ;exact valid20_c2 hr' Q hQ _ (by simp only [stB,reduceIte,reduceCtorEq,Nat.reduceEqDiff,Nat.reduceAdd,Nat.reduceMul,Nat.reduceLeDiff,Nat.reduceLT,Nat.reduceSub,Nat.reduceBEq,h1]) (by simp only [stB,reduceIte,reduceCtorEq,Nat.reduceEqDiff,Nat.reduceAdd,Nat.reduceMul,Nat.reduceLeDiff,Nat.reduceLT,Nat.reduceSub,Nat.reduceBEq,g1]) (by simp only [stB,reduceIte,reduceCtorEq,Nat.reduceEqDiff,Nat.reduceAdd,Nat.reduceMul,Nat.reduceLeDiff,Nat.reduceLT,Nat.reduceSub,Nat.reduceBEq,o1,Ev.row])
 | false =>
 have n15:=beq_eq_false_iff_ne.1 k15
 cases k16:(e.kind == 16) with
 | true =>
   simp only [↓evP,evB,stB,reduceIte,reduceCtorEq,Nat.reduceEqDiff,Nat.reduceAdd,Nat.reduceMul,Nat.reduceLeDiff,Nat.reduceLT,Nat.reduceSub,Nat.reduceBEq,h1,g1,o1,k14];unfold pc64c5;simp only [↓evP,evB,stB,reduceIte,reduceCtorEq,Nat.reduceEqDiff,Nat.reduceAdd,Nat.reduceMul,Nat.reduceLeDiff,Nat.reduceLT,Nat.reduceSub,Nat.reduceBEq,h1,g1,o1,k14,k15,k16];have hre:e.rest=decide (e.off=0∧e.n≤64):=by unfold Ev.rest;rw [if_neg n14,if_pos (by have:=beq_iff_eq.1 k16;omega)]
   rw [hre] at hQ;exact valid20_c2 hr' Q hQ _ (by simp only [stB,reduceIte,reduceCtorEq,Nat.reduceEqDiff,Nat.reduceAdd,Nat.reduceMul,Nat.reduceLeDiff,Nat.reduceLT,Nat.reduceSub,Nat.reduceBEq,h1]) (by simp only [stB,reduceIte,reduceCtorEq,Nat.reduceEqDiff,Nat.reduceAdd,Nat.reduceMul,Nat.reduceLeDiff,Nat.reduceLT,Nat.reduceSub,Nat.reduceBEq,g1]) (by simp only [stB,reduceIte,reduceCtorEq,Nat.reduceEqDiff,Nat.reduceAdd,Nat.reduceMul,Nat.reduceLeDiff,Nat.reduceLT,Nat.reduceSub,Nat.reduceBEq,o1,Ev.row])
 | false =>
 have n16:=beq_eq_false_iff_ne.1 k16
 cases k17:(e.kind == 17) with
 | true =>
   simp only [↓evP,evB,stB,reduceIte,reduceCtorEq,Nat.reduceEqDiff,Nat.reduceAdd,Nat.reduceMul,Nat.reduceLeDiff,Nat.reduceLT,Nat.reduceSub,Nat.reduceBEq,h1,g1,o1,k14];unfold pc64c5;simp only [↓evP,evB,stB,reduceIte,reduceCtorEq,Nat.reduceEqDiff,Nat.reduceAdd,Nat.reduceMul,Nat.reduceLeDiff,Nat.reduceLT,Nat.reduceSub,Nat.reduceBEq,h1,g1,o1,k14,k15,k16,k17];have hre:e.rest=decide (e.off=0∧e.n≤64):=by unfold Ev.rest;rw [if_neg n14,if_pos (by have:=beq_iff_eq.1 k17;omega)]
   rw [hre] at hQ;exact valid20_c2 hr' Q hQ _ (by simp only [stB,reduceIte,reduceCtorEq,Nat.reduceEqDiff,Nat.reduceAdd,Nat.reduceMul,Nat.reduceLeDiff,Nat.reduceLT,Nat.reduceSub,Nat.reduceBEq,h1]) (by simp only [stB,reduceIte,reduceCtorEq,Nat.reduceEqDiff,Nat.reduceAdd,Nat.reduceMul,Nat.reduceLeDiff,Nat.reduceLT,Nat.reduceSub,Nat.reduceBEq,g1]) (by simp only [stB,reduceIte,reduceCtorEq,Nat.reduceEqDiff,Nat.reduceAdd,Nat.reduceMul,Nat.reduceLeDiff,Nat.reduceLT,Nat.reduceSub,Nat.reduceBEq,o1,Ev.row])
 | false =>
 have n17:=beq_eq_false_iff_ne.1 k17
 cases k18:(e.kind == 18) with
 | true =>
   simp only [↓evP,evB,stB,reduceIte,reduceCtorEq,Nat.reduceEqDiff,Nat.reduceAdd,Nat.reduceMul,Nat.reduceLeDiff,Nat.reduceLT,Nat.reduceSub,Nat.reduceBEq,h1,g1,o1,k14];unfold pc64c5;simp only [↓evP,evB,stB,reduceIte,reduceCtorEq,Nat.reduceEqDiff,Nat.reduceAdd,Nat.reduceMul,Nat.reduceLeDiff,Nat.reduceLT,Nat.reduceSub,Nat.reduceBEq,h1,g1,o1,k14,k15,k16,k17,k18];have hre:e.rest=decide (e.off=0∧e.n≤64):=by unfold Ev.rest;rw [if_neg n14,if_pos (by have:=beq_iff_eq.1 k18;omega)]
   rw [hre] at hQ;exact valid20_c2 hr' Q hQ _ (by simp only [stB,reduceIte,reduceCtorEq,Nat.reduceEqDiff,Nat.reduceAdd,Nat.reduceMul,Nat.reduceLeDiff,Nat.reduceLT,Nat.reduceSub,Nat.reduceBEq,h1]) (by simp only [stB,reduceIte,reduceCtorEq,Nat.reduceEqDiff,Nat.reduceAdd,Nat.reduceMul,Nat.reduceLeDiff,Nat.reduceLT,Nat.reduceSub,Nat.reduceBEq,g1]) (by simp only [stB,reduceIte,reduceCtorEq,Nat.reduceEqDiff,Nat.reduceAdd,Nat.reduceMul,Nat.reduceLeDiff,Nat.reduceLT,Nat.reduceSub,Nat.reduceBEq,o1,Ev.row])
 | false =>
 have n18:=beq_eq_false_iff_ne.1 k18
 cases k19:(e.kind == 19) with
 | true =>
   simp only [↓evP,evB,stB,reduceIte,reduceCtorEq,Nat.reduceEqDiff,Nat.reduceAdd,Nat.reduceMul,Nat.reduceLeDiff,Nat.reduceLT,Nat.reduceSub,Nat.reduceBEq,h1,g1,o1,k14];unfold pc64c5;simp only [↓evP,evB,stB,reduceIte,reduceCtorEq,Nat.reduceEqDiff,Nat.reduceAdd,Nat.reduceMul,Nat.reduceLeDiff,Nat.reduceLT,Nat.reduceSub,Nat.reduceBEq,h1,g1,o1,k14,k15,k16,k17,k18];unfold pc64c4;simp only [↓evP,evB,stB,reduceIte,reduceCtorEq,Nat.reduceEqDiff,Nat.reduceAdd,Nat.reduceMul,Nat.reduceLeDiff,Nat.reduceLT,Nat.reduceSub,Nat.reduceBEq,h1,g1,o1,k14,k15,k16,k17,k18,k19];have hre:e.rest=decide (e.off=0∧e.n≤64∧e.k=0):=by unfold Ev.rest;rw [if_neg n14,if_neg (by omega),if_pos (by have:=beq_iff_eq.1 k19;omega)]
   rw [hre] at hQ;exact valid20_c3 hr' Q hQ _ (by simp only [stB,reduceIte,reduceCtorEq,Nat.reduceEqDiff,Nat.reduceAdd,Nat.reduceMul,Nat.reduceLeDiff,Nat.reduceLT,Nat.reduceSub,Nat.reduceBEq,h1]) (by simp only [stB,reduceIte,reduceCtorEq,Nat.reduceEqDiff,Nat.reduceAdd,Nat.reduceMul,Nat.reduceLeDiff,Nat.reduceLT,Nat.reduceSub,Nat.reduceBEq,g1]) (by simp only [stB,reduceIte,reduceCtorEq,Nat.reduceEqDiff,Nat.reduceAdd,Nat.reduceMul,Nat.reduceLeDiff,Nat.reduceLT,Nat.reduceSub,Nat.reduceBEq,o1,Ev.row])
 | false =>
 have n19:=beq_eq_false_iff_ne.1 k19
 cases k20:(e.kind == 20) with
 | true =>
   simp only [↓evP,evB,stB,reduceIte,reduceCtorEq,Nat.reduceEqDiff,Nat.reduceAdd,Nat.reduceMul,Nat.reduceLeDiff,Nat.reduceLT,Nat.reduceSub,Nat.reduceBEq,h1,g1,o1,k14];unfold pc64c5;simp only [↓evP,evB,stB,reduceIte,reduceCtorEq,Nat.reduceEqDiff,Nat.reduceAdd,Nat.reduceMul,Nat.reduceLeDiff,Nat.reduceLT,Nat.reduceSub,Nat.reduceBEq,h1,g1,o1,k14,k15,k16,k17,k18];unfold pc64c4;simp only [↓evP,evB,stB,reduceIte,reduceCtorEq,Nat.reduceEqDiff,Nat.reduceAdd,Nat.reduceMul,Nat.reduceLeDiff,Nat.reduceLT,Nat.reduceSub,Nat.reduceBEq,h1,g1,o1,k14,k15,k16,k17,k18,k19,k20];have hre:e.rest=decide (e.off=0∧e.n≤64∧e.k=0):=by unfold Ev.rest;rw [if_neg n14,if_neg (by omega),if_pos (by have:=beq_iff_eq.1 k20;omega)]
   rw [hre] at hQ;exact valid20_c3 hr' Q hQ _ (by simp only [stB,reduceIte,reduceCtorEq,Nat.reduceEqDiff,Nat.reduceAdd,Nat.reduceMul,Nat.reduceLeDiff,Nat.reduceLT,Nat.reduceSub,Nat.reduceBEq,h1]) (by simp only [stB,reduceIte,reduceCtorEq,Nat.reduceEqDiff,Nat.reduceAdd,Nat.reduceMul,Nat.reduceLeDiff,Nat.reduceLT,Nat.reduceSub,Nat.reduceBEq,g1]) (by simp only [stB,reduceIte,reduceCtorEq,Nat.reduceEqDiff,Nat.reduceAdd,Nat.reduceMul,Nat.reduceLeDiff,Nat.reduceLT,Nat.reduceSub,Nat.reduceBEq,o1,Ev.row])
 | false =>
 have n20:=beq_eq_false_iff_ne.1 k20;simp only [↓evP,evB,stB,reduceIte,reduceCtorEq,Nat.reduceEqDiff,Nat.reduceAdd,Nat.reduceMul,Nat.reduceLeDiff,Nat.reduceLT,Nat.reduceSub,Nat.reduceBEq,h1,g1,o1,k14];unfold pc64c5;simp only [↓evP,evB,stB,reduceIte,reduceCtorEq,Nat.reduceEqDiff,Nat.reduceAdd,Nat.reduceMul,Nat.reduceLeDiff,Nat.reduceLT,Nat.reduceSub,Nat.reduceBEq,h1,g1,o1,k14,k15,k16,k17,k18];unfold pc64c4;simp only [↓evP,evB,stB,reduceIte,reduceCtorEq,Nat.reduceEqDiff,Nat.reduceAdd,Nat.reduceMul,Nat.reduceLeDiff,Nat.reduceLT,Nat.reduceSub,Nat.reduceBEq,h1,g1,o1,k14,k15,k16,k17,k18,k19,k20];have hre:e.rest=decide (e.k=0∧e.n=0):=by unfold Ev.rest;rw [if_neg n14,if_neg (by omega),if_neg (by omega)]
 rw [hre] at hQ;exact valid20_c0 hr' Q hQ _ (by simp only [stB,reduceIte,reduceCtorEq,Nat.reduceEqDiff,Nat.reduceAdd,Nat.reduceMul,Nat.reduceLeDiff,Nat.reduceLT,Nat.reduceSub,Nat.reduceBEq,h1]) (by simp only [stB,reduceIte,reduceCtorEq,Nat.reduceEqDiff,Nat.reduceAdd,Nat.reduceMul,Nat.reduceLeDiff,Nat.reduceLT,Nat.reduceSub,Nat.reduceBEq,g1]) (by simp only [stB,reduceIte,reduceCtorEq,Nat.reduceEqDiff,Nat.reduceAdd,Nat.reduceMul,Nat.reduceLeDiff,Nat.reduceLT,Nat.reduceSub,Nat.reduceBEq,o1,Ev.row])
theorem ba_loop (bs:ByteArray):∀ n i r,bs.size - i=n→ByteArray.toList.loop bs i r=r.reverse ++ bs.data.toList.drop i:=by
 intro n
 induction n with
 | zero =>
   intro i r h;unfold ByteArray.toList.loop;rw [if_neg (by omega),List.drop_eq_nil_of_le (by show bs.data.toList.length≤i;rw [Array.length_toList];show bs.size≤i;omega),List.append_nil]
 | succ n ih =>
   intro i r h;have hi:i < bs.data.toList.length:=by rw [Array.length_toList];show i < bs.size;omega
   unfold ByteArray.toList.loop;rw [if_pos (by omega),ih (i+1) _ (by omega),List.drop_eq_getElem_cons hi,List.reverse_cons,List.append_assoc]
   congr 1
   show bs.get! i :: _=_
   congr 1
   show bs.data[i]! = _
   rw [getElem!_pos bs.data i (by simpa using hi)];rfl
theorem ba_toList (bs:ByteArray):bs.toList=bs.data.toList:=by
 unfold ByteArray.toList;rw [ba_loop bs _ 0 [] rfl];rfl
def Ev.fields (e:Ev):List Int:=[e.obj,e.off,e.k,e.n,e.fn,e.pc,e.stack]
def kname (k:Int):ByteArray:=if k < 1∨20 < k then ⟨#[]⟩ else (kindNames[k.toNat]?).getD ⟨#[]⟩
theorem kname_empty (k:Int):((kname k).toList == (⟨#[]⟩:ByteArray).toList)=!isKindB k:=by
 unfold kname isKindB
 by_cases h:k < 1∨20 < k
 ·rw [if_pos h,decide_eq_false (by omega),ba_toList];decide
 ·rw [if_neg h,decide_eq_true (by omega)];obtain ⟨m,rfl⟩:=Int.eq_ofNat_of_zero_le (show 0≤k by omega);rw [Int.toNat_natCast];have:∀ m:Fin 21,1≤m.val→(((kindNames[m.val]?).getD ⟨#[]⟩).data.toList == (⟨#[]⟩:ByteArray).data.toList)=false:=by decide +kernel
  rw [ba_toList,ba_toList];exact this ⟨m,by omega⟩ (by show 1≤m;omega)
theorem Ev.valid_eq (e:Ev):e.valid=(isKindB e.kind && decide (0≤e.g∧e.g < 8) && e.fields.all rangeB && e.rest):=by
 unfold Ev.valid Ev.fields;simp only [List.all_cons,List.all_nil,Bool.and_true,Bool.and_assoc]
theorem s_valid20:Spec Try.prog 64 R_valid20:=by
 refine sp64 env_valid20_ok ?_;rintro ps rs ⟨e,rfl,rfl⟩;refine ⟨by simp,?_⟩;unfold pc64;refine pwp_start ?_
 by_cases q1:e.g < 0
 ·have hv:e.valid=false:=by rw [Ev.valid_eq,decide_eq_false (show ¬ (0≤e.g∧e.g < 8) by omega)];simp
  simp only [↓evP,evB,stB,reduceIte,reduceCtorEq,Nat.reduceEqDiff,Nat.reduceAdd,Nat.reduceMul,Nat.reduceLeDiff,Nat.reduceLT,Nat.reduceSub,Nat.reduceBEq,Ev.pa,Ev.row,q1,decide_true,decide_false,hv,pr64]
 by_cases q2:e.g≥8
 ·have hv:e.valid=false:=by rw [Ev.valid_eq,decide_eq_false (show ¬ (0≤e.g∧e.g < 8) by omega)];simp
  simp only [↓evP,evB,stB,reduceIte,reduceCtorEq,Nat.reduceEqDiff,Nat.reduceAdd,Nat.reduceMul,Nat.reduceLeDiff,Nat.reduceLT,Nat.reduceSub,Nat.reduceBEq,Ev.pa,Ev.row,q1,q2,decide_true,decide_false,hv,pr64]
 have hg:decide (0≤e.g∧e.g < 8)=true:=decide_eq_true (by omega);simp only [↓evP,evB,stB,reduceIte,reduceCtorEq,Nat.reduceEqDiff,Nat.reduceAdd,Nat.reduceMul,Nat.reduceLeDiff,Nat.reduceLT,Nat.reduceSub,Nat.reduceBEq,Ev.pa,Ev.row,q1,q2,decide_true,decide_false];refine callOps_intro [.one (.sc (.string (kname e.kind)))] ⟨e.kind,rfl,kname e.kind,rfl,rfl⟩ ?_
 cases hk:isKindB e.kind with
 | false =>
   have hv:e.valid=false:=by rw [Ev.valid_eq,hk];rfl
   simp only [↓evP,evB,stB,reduceIte,reduceCtorEq,Nat.reduceEqDiff,Nat.reduceAdd,Nat.reduceMul,Nat.reduceLeDiff,Nat.reduceLT,Nat.reduceSub,Nat.reduceBEq,kname_empty,hk,hv,pr64]
 | true =>
   simp only [↓evP,evB,stB,reduceIte,reduceCtorEq,Nat.reduceEqDiff,Nat.reduceAdd,Nat.reduceMul,Nat.reduceLeDiff,Nat.reduceLT,Nat.reduceSub,Nat.reduceBEq,kname_empty,hk];refine pwp_fresh [1] [1] (fun st hs ho=>?_);simp only [stB,reduceIte,reduceCtorEq,Nat.reduceEqDiff,Nat.reduceAdd,Nat.reduceMul,Nat.reduceLeDiff,Nat.reduceLT,Nat.reduceSub,Nat.reduceBEq] at hs ho;obtain ⟨g1,o1⟩:=ho;unfold pc64c9;simp only [↓evP,evB,stB,reduceIte,reduceCtorEq,Nat.reduceEqDiff,Nat.reduceAdd,Nat.reduceMul,Nat.reduceLeDiff,Nat.reduceLT,Nat.reduceSub,Nat.reduceBEq,hs,g1,o1];refine pwp_fresh [1,3] [1,33] (fun st' hs' ho'=>?_);simp only [stB,reduceIte,reduceCtorEq,Nat.reduceEqDiff,Nat.reduceAdd,Nat.reduceMul,Nat.reduceLeDiff,Nat.reduceLT,Nat.reduceSub,Nat.reduceBEq,hs,g1,o1] at hs' ho';clear hs g1 o1;obtain ⟨h1,h3⟩:=hs';obtain ⟨⟨g1,o1⟩,g33,o33⟩:=ho';unfold pc64c8
   simp only [↓evP,evB,stB,reduceIte,reduceCtorEq,Nat.reduceEqDiff,Nat.reduceAdd,Nat.reduceMul,Nat.reduceLeDiff,Nat.reduceLT,Nat.reduceSub,Nat.reduceBEq,h1,h3,g1,o1,g33,o33];refine pwp_loopW ms64_0 os64_0 (fun m st=>∃ k:Nat,m=7 - k∧k≤7∧(e.fields.take k).all rangeB=true∧st.sl 4=aI k) 7 ?_ ?_
   ·exact ⟨0,rfl,by omega,rfl,by simp only [stB,reduceIte,reduceCtorEq,Nat.reduceEqDiff,Nat.reduceAdd,Nat.reduceMul,Nat.reduceLeDiff,Nat.reduceLT,Nat.reduceSub,Nat.reduceBEq];rfl⟩
   ·rintro m j ⟨k,rfl,hk7,hall,h4⟩;simp only [stB,reduceIte,reduceCtorEq,Nat.reduceEqDiff,Nat.reduceAdd,Nat.reduceMul,Nat.reduceLeDiff,Nat.reduceLT,Nat.reduceSub,Nat.reduceBEq] at h4
    rcases Nat.lt_or_ge k 7 with hlt | hge
    ·obtain ⟨x,hx⟩:∃ x,e.fields[k]? = some x:=⟨_,List.getElem?_eq_getElem (show k < e.fields.length from hlt)⟩
     have hrow:(e.fields.map fun x=>[dI x])[k]? = some [dI x]:=by rw [List.getElem?_map,hx];rfl
     unfold Ev.fields at hrow;simp only [List.map_cons,List.map_nil] at hrow;have hl7:(k:Int) < ((7:Nat):Int):=by omega
     have hmem:x ∈ e.fields:=List.mem_of_getElem? hx
     by_cases x1:x < 0
     ·have hv:e.valid=false:=by
       rw [Ev.valid_eq,(by rw [List.all_eq_false];exact ⟨x,hmem,by unfold rangeB;rw [decide_eq_false (by omega)];decide⟩:e.fields.all rangeB=false)];simp
      simp only [↓evP,evB,stB,reduceIte,reduceCtorEq,Nat.reduceEqDiff,Nat.reduceAdd,Nat.reduceMul,Nat.reduceLeDiff,Nat.reduceLT,Nat.reduceSub,Nat.reduceBEq,h1,h3,g1,o1,h4,g33,o33,hrow,hl7,x1,decide_true,decide_false,hv,pr64]
     by_cases x2:x > 2147483647
     ·have hv:e.valid=false:=by
       rw [Ev.valid_eq,(by rw [List.all_eq_false];exact ⟨x,hmem,by unfold rangeB;rw [decide_eq_false (by omega)];decide⟩:e.fields.all rangeB=false)];simp
      simp only [↓evP,evB,stB,reduceIte,reduceCtorEq,Nat.reduceEqDiff,Nat.reduceAdd,Nat.reduceMul,Nat.reduceLeDiff,Nat.reduceLT,Nat.reduceSub,Nat.reduceBEq,h1,h3,g1,o1,h4,g33,o33,hrow,hl7,x1,x2,decide_true,decide_false,hv,pr64]
     simp only [↓evP,evB,stB,reduceIte,reduceCtorEq,Nat.reduceEqDiff,Nat.reduceAdd,Nat.reduceMul,Nat.reduceLeDiff,Nat.reduceLT,Nat.reduceSub,Nat.reduceBEq,h1,h3,g1,o1,h4,g33,o33,hrow,hl7,x1,x2,decide_true,decide_false]
     exact ⟨_,by omega,(by repeat' (first | assumption | exact within_over.mpr trivial | exact Within.refl _ _ _ | (refine within_ap ?_ rfl rfl) | (refine within_ap0 ?_ rfl))),k+1,rfl,by omega,by rw [List.take_add_one,hx,List.all_append,hall];simp only [Option.toList_some,List.all_cons,List.all_nil];unfold rangeB;rw [decide_eq_true (by omega)];rfl,by simp only [stB,reduceIte,reduceCtorEq,Nat.reduceEqDiff,Nat.reduceAdd,Nat.reduceMul,Nat.reduceLeDiff,Nat.reduceLT,Nat.reduceSub,Nat.reduceBEq,h4];rw [wrN (by omega)]⟩
    ·have hk77:k=7:=by omega
     subst hk77;have hl7:¬ ((7:Nat):Int) < ((7:Nat):Int):=by omega
     simp only [↓evP,evB,stB,reduceIte,reduceCtorEq,Nat.reduceEqDiff,Nat.reduceAdd,Nat.reduceMul,Nat.reduceLeDiff,Nat.reduceLT,Nat.reduceSub,Nat.reduceBEq,h1,h3,g1,o1,h4,g33,o33,hl7];have hall':e.fields.all rangeB=true:=hall;have hk':=hk;unfold isKindB at hk';have hv:e.valid=e.rest:=by rw [Ev.valid_eq,hk,hg,hall'];rfl
     have hrk:rangeB e.k=true:=List.all_eq_true.1 hall' _ (by unfold Ev.fields;simp)
     rw [hv];exact valid20_tail (of_decide_eq_true hk').1 (of_decide_eq_true hk').2 hrk _ (fun st'' h=>⟨.inr rfl,h⟩) _ (by simp only [stB,reduceIte,reduceCtorEq,Nat.reduceEqDiff,Nat.reduceAdd,Nat.reduceMul,Nat.reduceLeDiff,Nat.reduceLT,Nat.reduceSub,Nat.reduceBEq,h1]) (by simp only [stB,reduceIte,reduceCtorEq,Nat.reduceEqDiff,Nat.reduceAdd,Nat.reduceMul,Nat.reduceLeDiff,Nat.reduceLT,Nat.reduceSub,Nat.reduceBEq,g1]) (by simp only [stB,reduceIte,reduceCtorEq,Nat.reduceEqDiff,Nat.reduceAdd,Nat.reduceMul,Nat.reduceLeDiff,Nat.reduceLT,Nat.reduceSub,Nat.reduceBEq,o1,Ev.row])
theorem RSt.counted_count (s:RSt) (e:Ev):(s.counted e).count=s.count:=by
 unfold RSt.counted RSt.setChannel;split <;> rfl
theorem RSt.partR_count (s:RSt) (e:Ev):(s.partR e).1.count=s.count:=by
 unfold RSt.partR RSt.groupR RSt.transferR RSt.otherR RSt.begin RSt.setChannel RSt.setLock
 repeat' split
 all_goals first | rfl | (rw [RSt.counted_count])
def R_Add (ps rs:List Pa):Prop:=∃ (s:RSt) (e:Ev),ps=[s.pa,e.pa]∧s.ok∧rs=[(s.addR e).1.pa,pB (s.addR e).2]
def env_Add:Env:=e1 64 R_valid20 (e1 66 R_channel20 (e1 65 R_group (e1 67 R_transfer (e1 68 R_other e0))))
theorem env_Add_ok:EnvOK Try.prog env_Add:=EnvOK.e1 s_valid20 (EnvOK.e1 s_channel20 (EnvOK.e1 s_group (EnvOK.e1 s_transfer (EnvOK.e1 s_other EnvOK.e0))))
theorem s_Add:Spec Try.prog 22 R_Add:=by
 refine sp22 env_Add_ok ?_;rintro ps rs ⟨s,e,rfl,hok,rfl⟩;refine ⟨by simp,?_⟩;unfold pc22;refine pwp_start ?_;simp only [↓evP,evB,stB,reduceIte,reduceCtorEq,seval,RSt.pa,RSt.row,Ev.pa,Ev.row];refine callOps_intro [pB e.valid] ⟨e,rfl,rfl⟩ ?_
 cases hv:e.valid with
 | false =>
   have ha:s.addR e=(s,false):=by unfold RSt.addR RSt.admits;rw [hv];rfl
   rw [ha];simp only [↓evP,evB,stB,reduceIte,reduceCtorEq,seval,hv,RSt.pa,RSt.row,pr22]
 | true =>
 by_cases b1:s.count≥5000
 ·have ha:s.addR e=(s,false):=by unfold RSt.addR RSt.admits;rw [decide_eq_false (show ¬ s.count < 5000 by omega)];simp
  rw [ha];simp only [↓evP,evB,stB,reduceIte,reduceCtorEq,seval,hv,b1,decide_true,decide_false,RSt.pa,RSt.row,pr22]
 by_cases b2:e.g≥s.gor
 ·have ha:s.addR e=(s,false):=by unfold RSt.addR RSt.admits;rw [decide_eq_false (show ¬ e.g < s.gor by omega)];simp
  rw [ha];simp only [↓evP,evB,stB,reduceIte,reduceCtorEq,seval,hv,b1,b2,decide_true,decide_false,RSt.pa,RSt.row,pr22]
 have had:s.admits e=true:=by unfold RSt.admits;rw [hv,decide_eq_true (show s.count < 5000 by omega),decide_eq_true (show e.g < s.gor by omega)];rfl
 have hcnt:=RSt.partR_count s e;have hc0:=hok.ct
 have ha:s.addR e=if (s.partR e).2=true then ({ (s.partR e).1 with count:=(s.partR e).1.count+1 },true) else (s,false):=by
  unfold RSt.addR
  by_cases h:(s.partR e).2=true
  ·rw [if_pos ⟨had,h⟩,if_pos h]
  ·rw [if_neg (fun h'=>h h'.2),if_neg h]
 rw [ha];clear ha
 by_cases b3:s.next.length > 0
 ·have hpart:s.partR e=s.groupR e:=if_pos b3;have b3':(s.next.length:Int) > 0:=by omega
  rw [hpart] at hcnt ⊢;simp only [↓evP,evB,stB,reduceIte,reduceCtorEq,seval,hv,b1,b2,b3',decide_true,decide_false];refine callOps_intro [(s.groupR e).1.pa,pB (s.groupR e).2] ⟨s,e,rfl,⟨hok,fun h=>by rw [h] at b3;exact absurd b3 (by decide)⟩,rfl⟩ ?_
  generalize s.groupR e=tr at *;obtain ⟨u,b⟩:=tr;have hw:IntKind.i64.wrap (u.count+1)=u.count+1:=wr64 (by simp only at hcnt;omega) (by simp only at hcnt;omega)
  cases b with
  | true =>
    simp only [↓evP,evB,stB,reduceIte,reduceCtorEq,seval,hv,b1,b2,b3',decide_true,decide_false,RSt.pa,RSt.row,hw,pr22]
  | false =>
    simp only [↓evP,evB,stB,reduceIte,reduceCtorEq,seval,hv,b1,b2,b3',decide_true,decide_false,RSt.pa,RSt.row,hw,pr22]
 ·have b3':¬ (s.next.length:Int) > 0:=by omega
  simp only [↓evP,evB,stB,reduceIte,reduceCtorEq,seval,hv,b1,b2,b3',decide_true,decide_false];refine callOps_intro [pB (chanB e.kind)] ⟨e.kind,rfl,rfl⟩ ?_
  cases b4:chanB e.kind with
  | true =>
    have hpart:s.partR e=s.transferR e:=(if_neg b3).trans (if_pos b4);rw [hpart] at hcnt ⊢;simp only [↓evP,evB,stB,reduceIte,reduceCtorEq,seval,hv,b1,b2,b3',b4,decide_true,decide_false];refine callOps_intro [(s.transferR e).1.pa,pB (s.transferR e).2] ⟨s,e,rfl,hok,rfl⟩ ?_;generalize s.transferR e=tr at *;obtain ⟨u,b⟩:=tr;have hw:IntKind.i64.wrap (u.count+1)=u.count+1:=wr64 (by simp only at hcnt;omega) (by simp only at hcnt;omega)
    cases b with
    | true =>
      simp only [↓evP,evB,stB,reduceIte,reduceCtorEq,seval,hv,b1,b2,b3',b4,decide_true,decide_false,RSt.pa,RSt.row,hw,pr22]
    | false =>
      simp only [↓evP,evB,stB,reduceIte,reduceCtorEq,seval,hv,b1,b2,b3',b4,decide_true,decide_false,RSt.pa,RSt.row,hw,pr22]
  | false =>
    have hpart:s.partR e=s.otherR e:=(if_neg b3).trans (if_neg (by rw [b4];decide))
    rw [hpart] at hcnt ⊢;simp only [↓evP,evB,stB,reduceIte,reduceCtorEq,seval,hv,b1,b2,b3',b4,decide_true,decide_false];refine callOps_intro [(s.otherR e).1.pa,pB (s.otherR e).2] ⟨s,e,rfl,hok,rfl⟩ ?_;generalize s.otherR e=tr at *;obtain ⟨u,b⟩:=tr;have hw:IntKind.i64.wrap (u.count+1)=u.count+1:=wr64 (by simp only at hcnt;omega) (by simp only at hcnt;omega)
    cases b with
    | true =>
      simp only [↓evP,evB,stB,reduceIte,reduceCtorEq,seval,hv,b1,b2,b3',b4,decide_true,decide_false,RSt.pa,RSt.row,hw,pr22]
    | false =>
      simp only [↓evP,evB,stB,reduceIte,reduceCtorEq,seval,hv,b1,b2,b3',b4,decide_true,decide_false,RSt.pa,RSt.row,hw,pr22]
end Go.Proofs.Ytffcpijeebagfaa
end
section
namespace Go.Proofs.Ytffcpijeebagfaa
open Go
def RSt.aft (r:RSt):List Ev→RSt
 | []=>r
 | e :: l=>if (r.addR e).2=true then (r.addR e).1.aft l else r
structure RAt (l:List Ev) (k:Nat) (r:RSt) (t:TS):Prop where
 le:k≤l.length
 st:TS.new.steps (l.take k)=some t
 rl:Rel r t
 af:RSt.new.aft l=r.aft (l.drop k)
theorem RAt.zero (l:List Ev):RAt l 0 RSt.new TS.new:=⟨Nat.zero_le _,rfl,Rel.new,rfl⟩
theorem RAt.wf {l:List Ev} {k:Nat} {r:RSt} {t:TS} (h:RAt l k r t):t.wf:=TS.steps_wf TS.wf_new h.st
theorem RAt.ok {l:List Ev} {k:Nat} {r:RSt} {t:TS} (h:RAt l k r t):r.ok:=h.rl.ok h.wf
theorem RAt.step {l:List Ev} {k:Nat} {r:RSt} {t:TS} (h:RAt l k r t) {e:Ev} (he:l[k]? = some e) :
 (∃ r' t',r.addR e=(r',true)∧t.add e=some t'∧RAt l (k+1) r' t')∨(r.addR e=(r,false)∧chk l=k∧RSt.new.aft l=r):=by
 obtain ⟨hk,hx⟩:=List.getElem?_eq_some_iff.1 he;have hs:=h.rl.step h.wf e;have hd:l.drop k=e :: l.drop (k+1):=by rw [List.drop_eq_getElem_cons hk,hx]
 cases ha:t.add e with
 | some t' =>
   rw [ha] at hs;obtain ⟨r',h1,h2⟩:=hs;refine .inl ⟨r',t',h1,rfl,hk,?_,h2,?_⟩
   ·rw [TS.steps_take_succ hk,h.st,hx];exact ha
   ·rw [h.af,hd,RSt.aft,h1];rfl
 | none =>
   rw [ha] at hs;refine .inr ⟨hs,TS.chk_of h.le h.st (fun e' he'=>?_),?_⟩
   ·rw [he] at he';cases he';exact ha
   ·rw [h.af,hd,RSt.aft,hs];rfl
theorem RAt.all {l:List Ev} {r:RSt} {t:TS} (h:RAt l l.length r t):chk l=l.length∧RSt.new.aft l=r:=by
 refine ⟨TS.chk_of (Nat.le_refl _) h.st (fun e he=>?_),?_⟩
 ·rw [List.getElem?_eq_none (Nat.le_refl _)] at he;cases he
 ·rw [h.af,List.drop_length];rfl
theorem Rel.open_next {r:RSt} {t:TS} (h:Rel r t):t.isOpen=decide (0 < r.next.length):=by
 unfold TS.isOpen;rw [h.gp.kinds,List.length_map]
theorem RAt.whole {l:List Ev} {k:Nat} {r:RSt} {t:TS} (h:RAt l (k+1) r t):TS.new.wholeTo l (k+1)=if r.next.length=0 then k+1 else TS.new.wholeTo l k:=by
 simp only [TS.wholeTo,h.st];rw [h.rl.open_next]
 by_cases hn:r.next.length=0
 ·rw [if_pos hn,if_neg (by rw [hn];decide)]
 ·rw [if_neg hn,if_pos (decide_eq_true (by omega))]
end Go.Proofs.Ytffcpijeebagfaa
end
section
namespace Go.Proofs.Ytffcpijeebagfaa
open Go Go.RowKit
set_option maxRecDepth 100000
set_option maxHeartbeats 4000000
def R_rnew (ps rs:List Pa):Prop:=ps=[]∧rs=[RSt.new.pa]
theorem s_rnew:Spec Try.prog 20 R_rnew:=by
 refine sp20 EnvOK.e0 ?_;rintro ps rs ⟨rfl,rfl⟩;refine ⟨by simp,?_⟩;unfold pc20;refine pwp_start ?_;simp only [↓evP,evB,stB,reduceIte,reduceCtorEq,seval,RSt.pa,RSt.row,RSt.new,pr20]
def env_walk:Env:=e1 20 R_rnew (e1 22 R_Add e0)
theorem env_walk_ok:EnvOK Try.prog env_walk:=EnvOK.e1 s_rnew (EnvOK.e1 s_Add EnvOK.e0)
def R_rcheck (ps rs:List Pa):Prop:=∃ l:List Ev,ps=[evsPa l]∧l.length≤1000000∧rs=[pI (chk l),pB (decide (chk l=l.length))]
theorem s_rcheck:Spec Try.prog 72 R_rcheck:=by
 refine sp72 env_walk_ok ?_;rintro ps rs ⟨l,rfl,hlen,rfl⟩;refine ⟨by simp,?_⟩;unfold pc72;refine pwp_start ?_;simp only [↓evP,evB,stB,reduceIte,reduceCtorEq,seval,evsPa,evsD];refine callOps_intro [RSt.new.pa] ⟨rfl,rfl⟩ ?_;simp only [↓evP,evB,stB,reduceIte,reduceCtorEq,Nat.reduceEqDiff,Nat.reduceAdd,Nat.reduceMul,Nat.reduceLeDiff,Nat.reduceLT,Nat.reduceSub,Nat.reduceBEq,RSt.pa,RSt.row];refine pwp_loopW ms72_0 os72_0 (fun m st=>∃ k:Nat,∃ r t,m=l.length - k∧RAt l k r t∧st.sl 5=aI k∧st.gen 4=1∧st.ob 4=.cells (r.row.map .d)) l.length ?_ ?_
 ·exact ⟨0,_,_,rfl,RAt.zero l,by simp only [stB,reduceIte,reduceCtorEq,Nat.reduceEqDiff,Nat.reduceAdd,Nat.reduceMul,Nat.reduceLeDiff,Nat.reduceLT,Nat.reduceSub,Nat.reduceBEq];rfl,by simp only [stB,reduceIte,reduceCtorEq,Nat.reduceEqDiff,Nat.reduceAdd,Nat.reduceMul,Nat.reduceLeDiff,Nat.reduceLT,Nat.reduceSub,Nat.reduceBEq],by simp only [stB,reduceIte,reduceCtorEq,Nat.reduceEqDiff,Nat.reduceAdd,Nat.reduceMul,Nat.reduceLeDiff,Nat.reduceLT,Nat.reduceSub,Nat.reduceBEq,RSt.row]⟩
 ·rintro m j ⟨k,r,t,rfl,hat,h5,g4,o4⟩;simp only [stB,reduceIte,reduceCtorEq,seval,RSt.row] at h5 g4 o4;have hk:=hat.le
  rcases Nat.lt_or_ge k l.length with hlt | hge
  ·obtain ⟨e,he⟩:∃ e,l[k]? = some e:=⟨_,List.getElem?_eq_getElem hlt⟩
   have hlt':(k:Int) < (l.length:Int):=by omega
   simp only [↓evP,evB,stB,reduceIte,reduceCtorEq,seval,h5,g4,o4,he,hlt',Ev.row];refine callD_intro [(r.addR e).1.pa,pB (r.addR e).2] ⟨r,e,rfl,hat.ok,rfl⟩ ?_
   rcases hat.step he with ⟨r',t',h1,_,hat'⟩ | ⟨h1,hc,haf⟩
   ·rw [h1];simp only [↓evP,evB,stB,reduceIte,reduceCtorEq,seval,h5,g4,o4,he,RSt.pa,RSt.row];refine ⟨(by unfold Drw;kernel_rfl),?_⟩
    exact ⟨_,by omega,(by repeat' (first | assumption | exact within_over.mpr trivial | exact Within.refl _ _ _ | (refine within_ap ?_ rfl rfl) | (refine within_ap0 ?_ rfl))),k+1,r',t',rfl,hat',by simp only [stB,reduceIte,reduceCtorEq,seval,h5];rw [wrN (by omega)],by simp only [stB,reduceIte,reduceCtorEq,seval,g4],by simp only [stB,reduceIte,reduceCtorEq,seval,o4,RSt.row]⟩
   ·rw [h1];simp only [↓evP,evB,stB,reduceIte,reduceCtorEq,seval,h5,g4,o4,he,RSt.pa,RSt.row,pr72];refine ⟨(by unfold Drw;kernel_rfl),?_⟩
    rw [hc,decide_eq_false (by omega)]
  ·have hkl:k=l.length:=by omega
   subst hkl;have hlt':¬ (l.length:Int) < (l.length:Int):=by omega
   simp only [↓evP,evB,stB,reduceIte,reduceCtorEq,seval,h5,g4,o4,hlt',RSt.pa,RSt.row,pr72];rw [hat.all.1,decide_eq_true rfl]
def R_rvalid (ps rs:List Pa):Prop:=∃ l:List Ev,ps=[evsPa l]∧l.length≤1000000∧rs=[pB (decide (chk l=l.length))]
def env_rvalid:Env:=e1 72 R_rcheck e0
theorem s_rvalid:Spec Try.prog 27 R_rvalid:=by
 refine sp27 (show EnvOK Try.prog env_rvalid from EnvOK.e1 s_rcheck EnvOK.e0) ?_;rintro ps rs ⟨l,rfl,hlen,rfl⟩;refine ⟨by simp,?_⟩;unfold pc27;refine pwp_start ?_;simp only [↓evP,evB,stB,reduceIte,reduceCtorEq,seval,evsPa,evsD];refine callOps_intro [pI (chk l),pB (decide (chk l=l.length))] ⟨l,rfl,hlen,rfl⟩ ?_;simp only [↓evP,evB,stB,reduceIte,reduceCtorEq,seval,pr27]
def stOf (l:List Ev):List Ck:=if chk l=l.length then stampsL l else []
def errOf (l:List Ev):Int:=if chk l=l.length then 0 else 1
def R_Stamps (ps rs:List Pa):Prop:=∃ l:List Ev,ps=[evsPa l]∧l.length≤1000000∧rs=[cksPa (stOf l),pI (errOf l)]
end Go.Proofs.Ytffcpijeebagfaa
end
section
namespace Go.Proofs.Ytffcpijeebagfaa
open Go Go.RowKit
set_option maxRecDepth 100000
set_option maxHeartbeats 4000000
open Classical
noncomputable def relRow (l:List Ev) (n i:Nat):List Dt:=[.im ((List.range n).map fun j=>[dB (decide (HB l i j))])]
noncomputable def relPa (l:List Ev):Pa:=.one (.im ((List.range l.length).map (relRow l l.length)))
def R_rel34 (ps rs:List Pa):Prop:=∃ l:List Ev,ps=[evsPa l]∧(l.length≤1000000∧∀ e,e ∈ l→e.valid=true)∧rs=[relPa l]
theorem s_rel34:Spec Try.prog 73 R_rel34:=by
 rintro ps rs ⟨l,rfl,⟨hlen,hv⟩,rfl⟩ S w vals _ hvl;obtain ⟨u,rfl,h1⟩:=hvl.one;refine (rel_walk w S u l h1 hlen hv).mono ?_;rintro e w' ⟨rfl,hG⟩;refine ⟨_,fun b=>if b < w.heap.size then S b else l.length,rfl,?_,hG.bel,fun b hb=>if_pos hb⟩
 show RD _ w' _ _
 have hrow:∀ i,i < l.length→RD (fun b=>if b < w.heap.size then S b else l.length) w' (.im ((List.range l.length).map fun j=>[dB (decide (HB l i j))])) (.slice (some ⟨w.heap.size+1+i,0,none⟩) l.length l.length):=fun i hi=>by
  have hl:l.length=((List.range l.length).map fun j=>[dB (decide (HB l i j))]).length:=by simp
  conv=>rhs;rw [show (Value.slice (some ⟨w.heap.size+1+i,0,none⟩) l.length l.length)=.slice (some ⟨w.heap.size+1+i,0,none⟩) ((List.range l.length).map fun j=>[dB (decide (HB l i j))]).length l.length by rw [←hl]]
  refine RD.im _ 1 _ 0 l.length (fun j _=>.bool (decide (HB l i j))) (by rw [←hl];exact Nat.le_refl _) (by unfold maxLen;omega) ?_ ?_ ?_
  ·intro r hr;obtain ⟨x,_,rfl⟩:=List.mem_map.1 hr;rfl
  ·intro j k hj hk;rw [←hl] at hj;have h0:0+(j * 1+k)=j:=by omega
   rw [h0];refine ⟨(hG.row i hi).cell hj,?_⟩;rw [if_neg (by omega)];exact hj
  ·intro j r k x hr hx;rw [List.getElem?_map,Option.map_eq_some_iff] at hr;obtain ⟨j',hj',rfl⟩:=hr
   have hjj:j'=j:=by
    have hjl:=(List.getElem?_eq_some_iff.1 hj').1;rw [List.length_range] at hjl;rw [List.getElem?_range hjl] at hj';cases hj';rfl
   subst hjj
   match k,hx with
   | 0,hx=>simp at hx;subst hx;exact .sc _ rfl
 have hl:l.length=((List.range l.length).map (relRow l l.length)).length:=by simp
 conv=>rhs;rw [show (Value.slice (some ⟨w.heap.size,0,none⟩) l.length l.length)=.slice (some ⟨w.heap.size,0,none⟩) ((List.range l.length).map (relRow l l.length)).length l.length by rw [←hl]]
 refine RD.im _ 1 _ 0 l.length (fun i _=>.slice (some ⟨w.heap.size+1+i,0,none⟩) l.length l.length) (by rw [←hl];exact Nat.le_refl _) (by unfold maxLen;omega) ?_ ?_ ?_
 ·intro r hr;obtain ⟨x,_,rfl⟩:=List.mem_map.1 hr;rfl
 ·intro j k hj hk;rw [←hl] at hj;have h0:0+(j * 1+k)=j:=by omega
  rw [h0];refine ⟨hG.head hj,?_⟩;rw [if_neg (by omega)];exact hj
 ·intro j r k x hr hx;rw [List.getElem?_map,Option.map_eq_some_iff] at hr;obtain ⟨j',hj',rfl⟩:=hr;have hjl:=(List.getElem?_eq_some_iff.1 hj').1;rw [List.length_range] at hjl
  have hjj:j'=j:=by
   rw [List.getElem?_range hjl] at hj';cases hj';rfl
  subst hjj
  match k,hx with
  | 0,hx=>simp [relRow] at hx;subst hx;exact hrow _ hjl
noncomputable def cntC (l:List Ev) (j n:Nat):Ck:=(List.range 8).map fun (g:Nat)=>(cntHB l (g:Int) j n:Int)
theorem cntC_len (l:List Ev) (j n:Nat):(cntC l j n).length=8:=by simp [cntC]
theorem cntC_get (l:List Ev) (j n:Nat) {g:Nat} (h:g < 8):(cntC l j n)[g]? = some (cntHB l (g:Int) j n:Int):=by
 unfold cntC;rw [List.getElem?_map,List.getElem?_range h];rfl
theorem cntHB_le (l:List Ev) (g:Int) (j n:Nat):cntHB l g j n≤n:=by
 induction n with
 | zero=>exact Nat.le_refl _
 | succ n ih=>simp only [cntHB];split <;> omega
theorem cntC_zero (l:List Ev) (j:Nat):cntC l j 0=ckZ:=by
 unfold cntC ckZ;rfl
theorem cntC_hit {l:List Ev} {j n:Nat} (h0:0≤(evAt l n).g) (h8:(evAt l n).g < 8) (hb:HBE l n j):(cntC l j n).set (evAt l n).g.toNat ((cntHB l (evAt l n).g j n:Int)+1)=cntC l j (n+1):=by
 apply List.ext_getElem?
 intro g;rw [List.getElem?_set]
 by_cases hg:g < 8
 ·rw [cntC_get l j (n+1) hg,cntC_get l j n hg];simp only [cntHB]
  by_cases he:(evAt l n).g.toNat=g
  ·have he':(evAt l n).g=(g:Int):=by omega
   rw [if_pos he,if_pos (by rw [cntC_len];omega),if_pos ⟨he',hb⟩,he'];rfl
  ·rw [if_neg he,if_neg (fun h=>he (by omega))]
 ·rw [List.getElem?_eq_none (by rw [cntC_len];omega),List.getElem?_eq_none (by rw [cntC_len];omega)]
  split
  ·split <;> first | rfl | (rename_i h1 h2;rw [cntC_len] at h2;omega)
  ·rfl
theorem cntC_miss {l:List Ev} {j n:Nat} (hb:¬ HBE l n j):cntC l j n=cntC l j (n+1):=by
 unfold cntC
 apply List.map_congr_left
 intro g _;simp only [cntHB];rw [if_neg (fun h=>hb h.2)]
theorem cntC_stp {l:List Ev} (V:VL l) {j:Nat} (h:j < l.length):cntC l j (j+1)=stp l j:=by
 apply List.ext_getElem?
 intro g
 by_cases hg:g < 8
 ·rw [cntC_get l j (j+1) hg];have:=stp_cnt V h (g:=(g:Int)) (by omega) (by omega);rw [Int.toNat_natCast] at this;rw [←this,List.getD_eq_getElem?_getD,List.getElem?_eq_getElem (by rw [stp_len];omega)];rfl
 ·rw [List.getElem?_eq_none (by rw [cntC_len];omega),List.getElem?_eq_none (by rw [stp_len];omega)]
theorem stamps_succ {l:List Ev} {j:Nat} (h:j < l.length):(stampsL l).take (j+1)=(stampsL l).take j ++ [stp l j]:=by
 rw [List.take_add_one]
 congr 1
 unfold stp;rw [List.getD_eq_getElem?_getD,List.getElem?_eq_getElem (by rw [stampsL_length];exact h)];rfl
end Go.Proofs.Ytffcpijeebagfaa
end
section
namespace Go.Proofs.Ytffcpijeebagfaa
open Go Go.RowKit
set_option maxRecDepth 100000
set_option maxHeartbeats 4000000
theorem within_in {ms os ms' os':List Nat} {s0 b j:St} (h:Within ms os s0 b) (hm:ms'.all (fun x=>ms.contains x)=true) (ho:os'.all (fun x=>os.contains x)=true):Within ms os s0 (over ms' os' b j):=by
 have h1:∀ x,ms.contains x=false→ms'.contains x=false:=fun x hx=>by
  cases hc:ms'.contains x with
  | false=>rfl
  | true=>rw [List.all_eq_true] at hm;rw [hm x (by simpa using hc)] at hx;cases hx
 have h2:∀ x,os.contains x=false→os'.contains x=false:=fun x hx=>by
  cases hc:os'.contains x with
  | false=>rfl
  | true=>rw [List.all_eq_true] at ho;rw [ho x (by simpa using hc)] at hx;cases hx
 refine ⟨fun x hx=>?_,fun o hx=>⟨?_,?_⟩⟩
 ·rw [over_sl,h1 x hx];exact h.1 x hx
 ·rw [over_gen,h2 o hx];exact (h.2 o hx).1
 ·rw [over_ob,h2 o hx];exact (h.2 o hx).2
def All8 (cs:List Ck):Prop:=∀ c,c ∈ cs→c.length=8
theorem All8.set {cs:List Ck} (h:All8 cs) {i:Nat} {d:Ck} (hd:d.length=8):All8 (cs.set i d):=fun c hc=>by
 rcases List.mem_or_eq_of_mem_set hc with hc | rfl
 ·exact h c hc
 ·exact hd
theorem All8.app {a b:List Ck} (ha:All8 a) (hb:All8 b):All8 (a ++ b):=fun c hc=>by
 rcases List.mem_append.1 hc with h | h
 ·exact ha c h
 ·exact hb c h
theorem eqCls_ck {a b:Ck} (h:a.length=b.length):eqCls (List.replicate a.length false) (ckCells a) (ckCells b)=some (decide (a=b)):=by
 induction a generalizing b with
 | nil =>
   cases b with
   | nil=>rfl
   | cons y b=>simp at h
 | cons x a ih =>
   cases b with
   | nil=>simp at h
   | cons y b =>
     have h2:=ih (b:=b) (by simpa using h);rw [List.length_cons,List.replicate_succ]
     show (match eqCl false (.d (dI x)) (.d (dI y)),eqCls (List.replicate a.length false) (ckCells a) (ckCells b) with | some p,some q=>some (p && q) | _,_=>none)=_
     rw [h2]
     show some ((x == y) && decide (a=b))=_
     congr 1
     rw [Bool.eq_iff_iff];simp
end Go.Proofs.Ytffcpijeebagfaa
end
section
namespace Go.Proofs.Ytffcpijeebagfaa
open Go Go.RowKit
set_option maxRecDepth 100000
set_option maxHeartbeats 4000000
open Classical
theorem range_get {n i:Nat} (h:i < n):(List.range n)[i]? = some i:=List.getElem?_range h
def env_rStamps:Env:=e1 27 R_rvalid (e1 73 R_rel34 e0)
theorem s_rStamps:Spec Try.prog 29 R_Stamps:=by
 refine sp29 (show EnvOK Try.prog env_rStamps from EnvOK.e1 s_rvalid (EnvOK.e1 s_rel34 EnvOK.e0)) ?_;rintro ps rs ⟨l,rfl,hlen,rfl⟩;refine ⟨by simp,?_⟩;unfold pc29;refine pwp_start ?_;simp only [↓evP,evB,stB,reduceIte,reduceCtorEq,seval,evsPa,evsD];refine callOps_intro [pB (decide (chk l=l.length))] ⟨l,rfl,hlen,rfl⟩ ?_;unfold stOf errOf
 by_cases hc:chk l=l.length
 ·have V:=VL.of hc;rw [if_pos hc,if_pos hc,decide_eq_true hc];simp only [↓evP,evB,stB,reduceIte,reduceCtorEq,seval];refine callOps_intro [relPa l] ⟨l,rfl,⟨hlen,V.v⟩,rfl⟩ ?_;simp only [↓evP,evB,stB,reduceIte,reduceCtorEq,seval,relPa];refine pwp_fresh [0,4,5,6] [5] (fun S hs ho=>?_);simp only [stB,reduceIte,reduceCtorEq,seval] at hs ho;obtain ⟨q0,q4,q5,q6⟩:=hs;obtain ⟨r5,t5⟩:=ho;refine pwp_loopW ms29_0 os29_0 (fun m st=>∃ j:Nat,m=l.length - j∧j≤l.length∧st.sl 6=aI j∧st.sl 5=.b (.one (.own 5 1 (((stampsL l).take j).map ckRow)))∧st.gen 5=1∧st.ob 5=.row 53 8 j) l.length ?_ ?_
  ·exact ⟨0,rfl,Nat.zero_le _,q6,q5,r5,t5⟩
  ·rintro m z ⟨j,rfl,hj,h6,h5,g5,o5⟩;simp only [stB,reduceIte,reduceCtorEq,seval] at h6 h5 g5 o5
   rcases Nat.lt_or_ge j l.length with hlt | hge
   ·have hlt':(j:Int) < (l.length:Int):=by omega
    have hj0:(0:Int)≤(j:Int):=by omega
    simp only [↓evP,evB,stB,reduceIte,reduceCtorEq,seval,q0,q4,h6,h5,g5,o5,hlt']
    refine pwp_freshP (fun st=>Within ms29_0 os29_0 S st) (by repeat' (first | assumption | exact within_over.mpr trivial | exact Within.refl _ _ _ | (refine within_ap ?_ rfl rfl) | (refine within_ap0 ?_ rfl))) [0,4,5,6,7,8] [5,7] (fun T hwT hs2 ho2=>?_);simp only [stB,reduceIte,reduceCtorEq,seval,q0,q4,h6,h5,g5,o5] at hs2 ho2;obtain ⟨p0,p4,p5,p6,p7,p8⟩:=hs2;obtain ⟨⟨r5',t5'⟩,r7,t7⟩:=ho2;rw [←r7] at p7;clear r7;refine pwp_loopW ms29_1 os29_1 (fun m st=>∃ i:Nat,m=j+1 - i∧i≤j+1∧st.sl 8=aI i∧st.gen 7=T.gen 7∧st.ob 7=.cells (ckCells (cntC l j i))) (j+1) ?_ ?_
    ·exact ⟨0,rfl,Nat.zero_le _,p8,rfl,by rw [t7,cntC_zero];rfl⟩
    ·rintro m2 z2 ⟨i,rfl,hi,h8,g7,o7⟩;simp only [stB,reduceIte,reduceCtorEq,seval] at h8 g7 o7;have r2:=range_get hlt
     rcases Nat.lt_or_ge j i with hij | hij
     ·have hi':i=j+1:=by omega
      subst hi';have hle:¬ ((j+1:Nat):Int)≤(j:Int):=by omega
      rw [cntC_stp V hlt] at o7;have c8:=stp_len (l:=l) (j:=j);have e1:(ckCells (stp l j)).length=8:=by rw [ckCells_length,c8]
      have e2:8≤(ckCells (stp l j)).length:=by omega
      have e3:(ckCells (stp l j)).take 8=ckCells (stp l j):=List.take_of_length_le (by omega);have e4:(ckRow (stp l j)).take 8=ckRow (stp l j):=List.take_of_length_le (by unfold ckRow;rw [List.length_map];omega)
      have e5:(ckRow (stp l j)).length=8:=by unfold ckRow;rw [List.length_map,c8]
      have e6:((stampsL l).take j).length=j:=by rw [List.length_take,stampsL_length];omega
      have e7:((stampsL l).take j).map ckRow ++ [ckRow (stp l j)]=((stampsL l).take (j+1)).map ckRow:=by rw [stamps_succ hlt,List.map_append];rfl
      have e8:j+1≤1000000:=by omega
      simp only [↓evP,evB,stB,reduceIte,reduceCtorEq,seval,p0,p4,p5,p6,p7,h8,r5',t5',g7,o7,hle,e1,e2,e3,e4,e5,e6,e7,e8,ckCells_dt,Nat.reduceLeDiff]
      exact ⟨_,by omega,(by repeat' (first | assumption | exact within_over.mpr trivial | (refine within_ap ?_ rfl rfl) | (refine within_ap0 ?_ rfl) | refine within_in ?_ (by decide) (by decide))),j+1,rfl,hlt,by simp only [stB,reduceIte,reduceCtorEq,seval,p6];rw [wrN (by omega)],by simp only [stB,reduceIte,reduceCtorEq,seval],by simp only [stB,reduceIte,reduceCtorEq,seval,r5'],by simp only [stB,reduceIte,reduceCtorEq,seval,t5']⟩
     ·have hle:(i:Int)≤(j:Int):=by omega
      have hi0:(0:Int)≤(i:Int):=by omega
      have r1:=range_get (show i < l.length by omega);have ei:=evAt_some (l:=l) (i:=i) (by omega);have hg:=V.g (i:=i) (by omega);have hg0:=hg.1;have hg8:(evAt l i).g < ((8:Nat):Int):=hg.2;have f1:=ckCells_get _ _ _ (cntC_get l j i (g:=(evAt l i).g.toNat) (by omega));rw [Int.toNat_of_nonneg hg0] at f1;have f2:(evAt l i).g.toNat+1≤(ckCells (cntC l j i)).length:=by rw [ckCells_length,cntC_len];omega
      have hcl:=cntHB_le l (evAt l i).g j i;have hw:IntKind.i64.wrap ((cntHB l (evAt l i).g j i:Int)+1)=(cntHB l (evAt l i).g j i:Int)+1:=wr64 (by omega) (by omega)
      by_cases hb:HBE l i j
      ·have f3:=(ckCells_set (cntC l j i) (evAt l i).g.toNat ((cntHB l (evAt l i).g j i:Int)+1) (by rw [cntC_len];omega)).trans (congrArg ckCells (cntC_hit hg0 hg.2 hb))
       cases hq:((i:Int) == (j:Int)) with
       | true =>
         simp only [↓evP,evB,stB,reduceIte,reduceCtorEq,Nat.reduceEqDiff,Nat.reduceAdd,Nat.reduceMul,Nat.reduceLeDiff,Nat.reduceLT,Nat.reduceSub,Nat.reduceBEq,p0,p4,p5,p6,p7,h8,r5',t5',g7,o7,hle,hq,hi0,hj0,ei,Ev.row,hg0,hg8,f1,f2,f3,hw,Nat.mul_one]
         exact ⟨_,by omega,(by repeat' (first | assumption | exact within_over.mpr trivial | exact Within.refl _ _ _ | (refine within_ap ?_ rfl rfl) | (refine within_ap0 ?_ rfl))),i+1,rfl,by omega,by simp only [stB,reduceIte,reduceCtorEq,Nat.reduceEqDiff,Nat.reduceAdd,Nat.reduceMul,Nat.reduceLeDiff,Nat.reduceLT,Nat.reduceSub,Nat.reduceBEq,h8];rw [wrN (by omega)],by simp only [stB,reduceIte,reduceCtorEq,Nat.reduceEqDiff,Nat.reduceAdd,Nat.reduceMul,Nat.reduceLeDiff,Nat.reduceLT,Nat.reduceSub,Nat.reduceBEq,g7],by simp only [stB,reduceIte,reduceCtorEq,Nat.reduceEqDiff,Nat.reduceAdd,Nat.reduceMul,Nat.reduceLeDiff,Nat.reduceLT,Nat.reduceSub,Nat.reduceBEq,o7,f3]⟩
       | false =>
         have hd:decide (HB l i j)=true:=decide_eq_true (hb.elim (fun h=>by subst h;simp at hq) id)
         simp only [↓evP,evB,stB,reduceIte,reduceCtorEq,Nat.reduceEqDiff,Nat.reduceAdd,Nat.reduceMul,Nat.reduceLeDiff,Nat.reduceLT,Nat.reduceSub,Nat.reduceBEq,p0,p4,p5,p6,p7,h8,r5',t5',g7,o7,hle,hq,hi0,hj0,r1,r2,relRow,hd,ei,Ev.row,hg0,hg8,f1,f2,f3,hw,Nat.mul_one]
         exact ⟨_,by omega,(by repeat' (first | assumption | exact within_over.mpr trivial | exact Within.refl _ _ _ | (refine within_ap ?_ rfl rfl) | (refine within_ap0 ?_ rfl))),i+1,rfl,by omega,by simp only [stB,reduceIte,reduceCtorEq,Nat.reduceEqDiff,Nat.reduceAdd,Nat.reduceMul,Nat.reduceLeDiff,Nat.reduceLT,Nat.reduceSub,Nat.reduceBEq,h8];rw [wrN (by omega)],by simp only [stB,reduceIte,reduceCtorEq,Nat.reduceEqDiff,Nat.reduceAdd,Nat.reduceMul,Nat.reduceLeDiff,Nat.reduceLT,Nat.reduceSub,Nat.reduceBEq,g7],by simp only [stB,reduceIte,reduceCtorEq,Nat.reduceEqDiff,Nat.reduceAdd,Nat.reduceMul,Nat.reduceLeDiff,Nat.reduceLT,Nat.reduceSub,Nat.reduceBEq,o7,f3]⟩
      ·have hq:((i:Int) == (j:Int))=false:=by
        rw [beq_eq_false_iff_ne];intro h;exact hb (.inl (by omega))
       have hd:decide (HB l i j)=false:=decide_eq_false (fun h=>hb (.inr h));have f3:=cntC_miss hb;simp only [↓evP,evB,stB,reduceIte,reduceCtorEq,seval,p0,p4,p5,p6,p7,h8,r5',t5',g7,o7,hle,hq,hi0,hj0,r1,r2,relRow,hd]
       exact ⟨_,by omega,(by repeat' (first | assumption | exact within_over.mpr trivial | exact Within.refl _ _ _ | (refine within_ap ?_ rfl rfl) | (refine within_ap0 ?_ rfl))),i+1,rfl,by omega,by simp only [stB,reduceIte,reduceCtorEq,seval,h8];rw [wrN (by omega)],by simp only [stB,reduceIte,reduceCtorEq,seval,g7],by simp only [stB,reduceIte,reduceCtorEq,seval,o7];rw [←f3]⟩
   ·have hjl:j=l.length:=by omega
    subst hjl;have hlt':¬ (l.length:Int) < (l.length:Int):=by omega
    have e6:(stampsL l).take l.length=stampsL l:=List.take_of_length_le (by rw [stampsL_length];exact Nat.le_refl _)
    simp only [↓evP,evB,stB,reduceIte,reduceCtorEq,seval,q0,q4,h6,h5,g5,o5,hlt',e6,cksPa,pr29]
 ·rw [if_neg hc,if_neg hc,decide_eq_false hc];simp only [↓evP,evB,stB,reduceIte,reduceCtorEq,seval,cksPa,pr29]
end Go.Proofs.Ytffcpijeebagfaa
end
section
namespace Go.Proofs.Ytffcpijeebagfaa
open Go Go.RowKit
set_option maxRecDepth 100000
set_option maxHeartbeats 4000000
def Z37:Nat→Hb:=fun _=>.no
theorem Z37_free:Free Z37 0:=fun _ _=>rfl
theorem fin_ck {p:TabP} {e:Ev} {c:Ck} (hcl:p.ck.length=8) (hg:0≤e.g∧e.g < 8) (h14:e.kind=14→1≤e.k∧e.k < 8) {g:Int} (h0:0≤g) (h8:g < 8) :
 (p.fin e c).ck.getD g.toNat ckZ=if g=e.g then c else if e.kind=14∧g=e.k then c else p.ck.getD g.toNat ckZ:=by
 unfold TabP.fin;dsimp only;rw [rel_ck]
 by_cases k14:e.kind=14
 ·rw [if_pos k14];have:=h14 k14;rw [getD_set (by rw [List.length_set];omega)]
  by_cases hgg:g=e.g
  ·rw [if_pos hgg,if_pos (by omega)]
  ·rw [if_neg hgg,if_neg (by omega),getD_set (by omega)]
   by_cases hgk:g=e.k
   ·rw [if_pos (by omega),if_pos ⟨k14,hgk⟩]
   ·rw [if_neg (by omega),if_neg (fun q=>hgk q.2)]
 ·rw [if_neg k14];rw [getD_set (by omega)]
  by_cases hgg:g=e.g
  ·rw [if_pos hgg,if_pos (by omega)]
  ·rw [if_neg hgg,if_neg (by omega),if_neg (fun q=>k14 q.1)]
def clkR (l:List Ev) (g:Int):Nat→Ck
 | 0=>ckZ
 | j+1=>if (evAt l j).g=g∨((evAt l j).kind=14∧(evAt l j).k=g) then stp l j else clkR l g j
section
variable {l:List Ev} (hc:chk l=l.length) (hl:l.length≤1000)
include hc hl
theorem clock_eq {j:Nat} (hj:j≤l.length) (g:Int):(tabTo l j).clock g=clkR l g j:=by
 induction j with
 | zero =>
   show TabP.clock _ g=ckZ
   unfold TabP.clock;split
   ·show (List.replicate 8 ckZ).getD g.toNat ckZ=ckZ
    rw [List.getD_eq_getElem?_getD,List.getElem?_replicate];split <;> rfl
   ·rfl
 | succ j ih =>
   have hlt:j < l.length:=hj;have hT:=tab_inv hc (show l.length≤1000000 by omega) (j:=j) (by omega);have hg:=Ev.valid_g (val_at hc hlt);have hk:=fun q=>Ev.valid_go (val_at hc hlt) q
   have e1:tabTo l (j+1)=(tabTo l j).fin (evAt l j) (stp l j):=(adv_stp hc (by omega) hlt hT).2;have ih:=ih (by omega);unfold clkR;unfold TabP.clock at ih ⊢
   by_cases hr:0≤g∧g < 8
   ·rw [if_pos hr] at ih ⊢;rw [e1,fin_ck hT.cl hg hk hr.1 hr.2]
    by_cases q1:g=(evAt l j).g
    ·rw [if_pos q1,if_pos (.inl q1.symm)]
    ·rw [if_neg q1]
     by_cases q2:(evAt l j).kind=14∧g=(evAt l j).k
     ·rw [if_pos q2,if_pos (.inr ⟨q2.1,q2.2.symm⟩)]
     ·rw [if_neg q2,if_neg (fun q=>q.elim (fun q=>q1 q.symm) (fun q=>q2 ⟨q.1,q.2.symm⟩)),ih]
   ·rw [if_neg hr] at ih ⊢;rw [if_neg,ih];rintro (q | ⟨q,q2⟩)
    ·omega
    ·have:=hk q;omega
omit hl hc in
theorem clkR_len {j:Nat} (g:Int):(clkR l g j).length=8:=by
 induction j with
 | zero=>rfl
 | succ j ih=>unfold clkR;split;exact stp_len;exact ih
end
def R_num37 (hp:Nat→Hb) (az:List Hw) (Post:(Nat→Hb)→List Hw→Prop):Prop:=∃ (l:List Ev) (g:Int),az=[paHw (evsPa l),paHw (pI g)]∧hp=Z37∧Post=fun _ r=>r=[.one (.d (dB true))]
def R_numS (ps rs:List Pa):Prop:=∃ (l:List Ev) (g:Int),ps=[evsPa l,pI g]∧rs=[pB true]
theorem num37 {f:Nat} (h:SpecP Try.prog f R_num37):Spec Try.prog f R_numS:=by
 rintro ps rs ⟨l,g,rfl,rfl⟩;exact h.toS _ _ ⟨_,⟨l,g,rfl,rfl,rfl⟩,fun hp' rs' q=>q⟩
end Go.Proofs.Ytffcpijeebagfaa
end
