/- The reference of chapter 30: transfer. -/
import Derived.Test.YtffcpijeebagfaaMt6
set_option linter.unusedSimpArgs false
set_option linter.unusedVariables false
section
namespace Go.Proofs.Ytffcpijeebagfaa
open Go Go.RowKit
set_option maxRecDepth 100000
set_option maxHeartbeats 4000000
def R_transfer (ps rs:List Pa):Prop:=∃ (s:RSt) (e:Ev),ps=[s.pa,e.pa]∧s.ok∧rs=[(s.transferR e).1.pa,pB (s.transferR e).2]
def env_transfer:Env:=e1 97 R_channel (e1 99 R_setChannel (e1 98 R_begin e0))
theorem env_transfer_ok:EnvOK Try.prog env_transfer:=EnvOK.e1 s_channel (EnvOK.e1 s_setChannel (EnvOK.e1 s_begin EnvOK.e0))
theorem bne_ne {a b:Int} (h:(a != b)=true):a≠b:=bne_iff_ne.1 h
theorem bne_eq {a b:Int} (h:(a != b)=false):a=b:=by simpa using h
theorem beq_ne {a b:Int} (h:(a == b)=false):¬ a=b:=beq_eq_false_iff_ne.1 h
theorem s_transfer:Spec Try.prog 67 R_transfer:=by
 refine sp67 env_transfer_ok ?_;rintro ps rs ⟨s,e,rfl,hok,rfl⟩;refine ⟨by simp,?_⟩;have hbd:=RSt.channel_bd hok e.obj e.n;have hch:=hok.ch.1;unfold pc67;refine pwp_start ?_;simp only [↓evP,evB,stB,reduceIte,reduceCtorEq,seval,RSt.pa,RSt.row,Ev.pa,Ev.row];refine callOps_intro [.agg (s.channel e.obj e.n).row] ⟨s,e.obj,e.n,rfl,by omega,rfl⟩ ?_;have ht:s.transferR e=s.transferR e:=rfl
 conv at ht=>rhs;unfold RSt.transferR
 generalize s.channel e.obj e.n=c at *;obtain ⟨⟨c1,c2⟩,c3,c4⟩:=hbd;have hw:IntKind.i64.wrap (c.sent - c.recv)=c.sent - c.recv:=wr64 (by omega) (by omega)
 cases a0:(c.n != e.n) with
 | true =>
   rw [ht,if_pos (bne_ne a0)];simp only [↓evP,evB,stB,reduceIte,reduceCtorEq,seval,RCh.row,pr67,decide_true,decide_false,a0,RSt.pa,RSt.row]
 | false =>
 simp only [↓evP,evB,stB,reduceIte,reduceCtorEq,seval,RCh.row,pr67,decide_true,decide_false,a0];refine pwp_fresh [2,3,4,6,7] [2,3,4,6] (fun st hs ho=>?_);simp only [stB,reduceIte,reduceCtorEq,seval] at hs ho;obtain ⟨h2,h3,h4,h6,h7⟩:=hs;obtain ⟨⟨g2,o2⟩,⟨g3,o3⟩,⟨g4,o4⟩,⟨g6,o6⟩⟩:=ho
 cases k15:(e.kind == 15) with
 | true =>
   cases a1:(e.k != c.sent) with
   | true =>
     rw [ht,if_neg (fun h=>h (bne_eq a0)),if_pos (beq_iff_eq.1 k15),if_pos (bne_ne a1)];unfold pc67c2 pc67c1 pc67c0;simp only [↓evP,evB,stB,reduceIte,reduceCtorEq,seval,RCh.row,pr67,decide_true,decide_false,h2,h3,h4,h6,h7,g2,g3,g4,g6,o2,o3,o4,o6,k15,a1,RSt.pa,RSt.row]
   | false =>
   cases a2:c.closed with
   | true =>
     rw [ht,if_neg (fun h=>h (bne_eq a0)),if_pos (beq_iff_eq.1 k15),if_neg (fun h=>h (bne_eq a1)),if_pos a2];unfold pc67c2 pc67c1 pc67c0;simp only [↓evP,evB,stB,reduceIte,reduceCtorEq,seval,RCh.row,pr67,decide_true,decide_false,h2,h3,h4,h6,h7,g2,g3,g4,g6,o2,o3,o4,o6,k15,a1,a2,RSt.pa,RSt.row]
   | false =>
   by_cases b1:c.n > 0
   ·have b3:(c.n == 0)=false:=beq_eq_false_iff_ne.2 (by omega)
    by_cases b2:c.sent - c.recv < c.n
    ·
      rw [ht,if_neg (fun h=>h (bne_eq a0)),if_pos (beq_iff_eq.1 k15),if_neg (fun h=>h (bne_eq a1)),if_neg (fun h=>Bool.noConfusion (a2.symm.trans h)),if_pos ⟨b1,b2⟩];unfold pc67c2 pc67c1 pc67c0;simp only [↓evP,evB,stB,reduceIte,reduceCtorEq,seval,RCh.row,pr67,decide_true,decide_false,h2,h3,h4,h6,h7,g2,g3,g4,g6,o2,o3,o4,o6,k15,a1,a2,b1,b2,b3,hw];refine callOps_intro [(s.begin e [⟨16,e.g,0⟩]).pa,pB true] ⟨s,e,[⟨16,e.g,0⟩],rfl,⟨hok,by simp⟩,rfl⟩ ?_;simp only [↓evP,evB,stB,reduceIte,reduceCtorEq,seval,RCh.row,pr67,decide_true,decide_false,h2,h3,h4,h6,h7,g2,g3,g4,g6,o2,o3,o4,o6,k15,a1,a2,b1,b2,b3,hw,RSt.pa,RSt.row]
    ·
      rw [ht,if_neg (fun h=>h (bne_eq a0)),if_pos (beq_iff_eq.1 k15),if_neg (fun h=>h (bne_eq a1)),if_neg (fun h=>Bool.noConfusion (a2.symm.trans h)),if_neg (fun h=>b2 h.2),if_neg (fun h=>beq_ne b3 h.1)];unfold pc67c2 pc67c1 pc67c0;simp only [↓evP,evB,stB,reduceIte,reduceCtorEq,seval,RCh.row,pr67,decide_true,decide_false,h2,h3,h4,h6,h7,g2,g3,g4,g6,o2,o3,o4,o6,k15,a1,a2,b1,b2,b3,hw,RSt.pa,RSt.row]
   ·cases b3:(c.n == 0) with
    | true =>
      by_cases b4:s.gor > 1
      ·
        rw [ht,if_neg (fun h=>h (bne_eq a0)),if_pos (beq_iff_eq.1 k15),if_neg (fun h=>h (bne_eq a1)),if_neg (fun h=>Bool.noConfusion (a2.symm.trans h)),if_neg (fun h=>b1 h.1),if_pos ⟨beq_iff_eq.1 b3,b4⟩];unfold pc67c2 pc67c1 pc67c0;simp only [↓evP,evB,stB,reduceIte,reduceCtorEq,seval,RCh.row,pr67,decide_true,decide_false,h2,h3,h4,h6,h7,g2,g3,g4,g6,o2,o3,o4,o6,k15,a1,a2,b1,b3,b4];refine callOps_intro [(s.begin e [⟨17, -1,e.g⟩,⟨18, -1,0⟩,⟨16,e.g,0⟩]).pa,pB true] ⟨s,e,[⟨17, -1,e.g⟩,⟨18, -1,0⟩,⟨16,e.g,0⟩],rfl,⟨hok,by simp⟩,rfl⟩ ?_;simp only [↓evP,evB,stB,reduceIte,reduceCtorEq,seval,RCh.row,pr67,decide_true,decide_false,h2,h3,h4,h6,h7,g2,g3,g4,g6,o2,o3,o4,o6,k15,a1,a2,b1,b3,b4,RSt.pa,RSt.row]
      ·
        rw [ht,if_neg (fun h=>h (bne_eq a0)),if_pos (beq_iff_eq.1 k15),if_neg (fun h=>h (bne_eq a1)),if_neg (fun h=>Bool.noConfusion (a2.symm.trans h)),if_neg (fun h=>b1 h.1),if_neg (fun h=>b4 h.2)];unfold pc67c2 pc67c1 pc67c0;simp only [↓evP,evB,stB,reduceIte,reduceCtorEq,seval,RCh.row,pr67,decide_true,decide_false,h2,h3,h4,h6,h7,g2,g3,g4,g6,o2,o3,o4,o6,k15,a1,a2,b1,b3,b4,RSt.pa,RSt.row]
    | false =>
      rw [ht,if_neg (fun h=>h (bne_eq a0)),if_pos (beq_iff_eq.1 k15),if_neg (fun h=>h (bne_eq a1)),if_neg (fun h=>Bool.noConfusion (a2.symm.trans h)),if_neg (fun h=>b1 h.1),if_neg (fun h=>beq_ne b3 h.1)];unfold pc67c2 pc67c1 pc67c0;simp only [↓evP,evB,stB,reduceIte,reduceCtorEq,seval,RCh.row,pr67,decide_true,decide_false,h2,h3,h4,h6,h7,g2,g3,g4,g6,o2,o3,o4,o6,k15,a1,a2,b1,b3,RSt.pa,RSt.row]
 | false =>
 cases k17:(e.kind == 17) with
 | true =>
   cases a1:(e.k != c.recv) with
   | true =>
     rw [ht,if_neg (fun h=>h (bne_eq a0)),if_neg (beq_ne k15),if_pos (beq_iff_eq.1 k17),if_pos (bne_ne a1)];unfold pc67c2 pc67c1 pc67c0;simp only [↓evP,evB,stB,reduceIte,reduceCtorEq,seval,RCh.row,pr67,decide_true,decide_false,h2,h3,h4,h6,h7,g2,g3,g4,g6,o2,o3,o4,o6,k15,k17,a1,RSt.pa,RSt.row]
   | false =>
   by_cases b1:c.sent > c.recv
   ·
     rw [ht,if_neg (fun h=>h (bne_eq a0)),if_neg (beq_ne k15),if_pos (beq_iff_eq.1 k17),if_neg (fun h=>h (bne_eq a1)),if_pos b1];unfold pc67c2 pc67c1 pc67c0;simp only [↓evP,evB,stB,reduceIte,reduceCtorEq,seval,RCh.row,pr67,decide_true,decide_false,h2,h3,h4,h6,h7,g2,g3,g4,g6,o2,o3,o4,o6,k15,k17,a1,b1];refine callOps_intro [(s.begin e [⟨18,e.g,0⟩]).pa,pB true] ⟨s,e,[⟨18,e.g,0⟩],rfl,⟨hok,by simp⟩,rfl⟩ ?_;simp only [↓evP,evB,stB,reduceIte,reduceCtorEq,seval,RCh.row,pr67,decide_true,decide_false,h2,h3,h4,h6,h7,g2,g3,g4,g6,o2,o3,o4,o6,k15,k17,a1,b1,RSt.pa,RSt.row]
   ·
     cases a2:c.closed with
     | true =>
       rw [ht,if_neg (fun h=>h (bne_eq a0)),if_neg (beq_ne k15),if_pos (beq_iff_eq.1 k17),if_neg (fun h=>h (bne_eq a1)),if_neg (fun h=>b1 h),if_neg (fun h=>Bool.noConfusion (a2.symm.trans h.1))];unfold pc67c2 pc67c1 pc67c0;simp only [↓evP,evB,stB,reduceIte,reduceCtorEq,seval,RCh.row,pr67,decide_true,decide_false,h2,h3,h4,h6,h7,g2,g3,g4,g6,o2,o3,o4,o6,k15,k17,a1,a2,b1,RSt.pa,RSt.row]
     | false =>
       by_cases b4:s.gor > 1
       ·
         rw [ht,if_neg (fun h=>h (bne_eq a0)),if_neg (beq_ne k15),if_pos (beq_iff_eq.1 k17),if_neg (fun h=>h (bne_eq a1)),if_neg (fun h=>b1 h),if_pos ⟨a2,b4⟩];unfold pc67c2 pc67c1 pc67c0;simp only [↓evP,evB,stB,reduceIte,reduceCtorEq,seval,RCh.row,pr67,decide_true,decide_false,h2,h3,h4,h6,h7,g2,g3,g4,g6,o2,o3,o4,o6,k15,k17,a1,a2,b1,b4];refine callOps_intro [(s.begin e [⟨15, -1,e.g⟩,⟨18,e.g,0⟩,⟨16, -1,0⟩]).pa,pB true] ⟨s,e,[⟨15, -1,e.g⟩,⟨18,e.g,0⟩,⟨16, -1,0⟩],rfl,⟨hok,by simp⟩,rfl⟩ ?_;simp only [↓evP,evB,stB,reduceIte,reduceCtorEq,seval,RCh.row,pr67,decide_true,decide_false,h2,h3,h4,h6,h7,g2,g3,g4,g6,o2,o3,o4,o6,k15,k17,a1,a2,b1,b4,RSt.pa,RSt.row]
       ·
         rw [ht,if_neg (fun h=>h (bne_eq a0)),if_neg (beq_ne k15),if_pos (beq_iff_eq.1 k17),if_neg (fun h=>h (bne_eq a1)),if_neg (fun h=>b1 h),if_neg (fun h=>b4 h.2)];unfold pc67c2 pc67c1 pc67c0;simp only [↓evP,evB,stB,reduceIte,reduceCtorEq,seval,RCh.row,pr67,decide_true,decide_false,h2,h3,h4,h6,h7,g2,g3,g4,g6,o2,o3,o4,o6,k15,k17,a1,a2,b1,b4,RSt.pa,RSt.row]
 | false =>
 cases k19:(e.kind == 19) with
 | true =>
   cases a2:c.closed with
   | true =>
     rw [ht,if_neg (fun h=>h (bne_eq a0)),if_neg (beq_ne k15),if_neg (beq_ne k17),if_pos (beq_iff_eq.1 k19),if_pos a2];unfold pc67c2 pc67c1 pc67c0;simp only [↓evP,evB,stB,reduceIte,reduceCtorEq,seval,RCh.row,pr67,decide_true,decide_false,h2,h3,h4,h6,h7,g2,g3,g4,g6,o2,o3,o4,o6,k15,k17,k19,a2,RSt.pa,RSt.row]
   | false =>
     rw [ht,if_neg (fun h=>h (bne_eq a0)),if_neg (beq_ne k15),if_neg (beq_ne k17),if_pos (beq_iff_eq.1 k19),if_neg (fun h=>Bool.noConfusion (a2.symm.trans h))];unfold pc67c2 pc67c1 pc67c0;simp only [↓evP,evB,stB,reduceIte,reduceCtorEq,seval,RCh.row,pr67,decide_true,decide_false,h2,h3,h4,h6,h7,g2,g3,g4,g6,o2,o3,o4,o6,k15,k17,k19,a2]
     refine callOps_intro [(s.setChannel { c with closed:=true }).pa] ⟨s,{ c with closed:=true },rfl,hok.ch.1,rfl⟩ ?_;simp only [↓evP,evB,stB,reduceIte,reduceCtorEq,seval,RCh.row,pr67,decide_true,decide_false,h2,h3,h4,h6,h7,g2,g3,g4,g6,o2,o3,o4,o6,k15,k17,k19,a2,RSt.pa,RSt.row]
 | false =>
 cases k20:(e.kind == 20) with
 | true =>
   cases a2:c.closed with
   | true =>
     rw [ht,if_neg (fun h=>h (bne_eq a0)),if_neg (beq_ne k15),if_neg (beq_ne k17),if_neg (beq_ne k19),if_pos (beq_iff_eq.1 k20)];unfold pc67c2 pc67c1 pc67c0;simp only [↓evP,evB,stB,reduceIte,reduceCtorEq,seval,RCh.row,pr67,decide_true,decide_false,h2,h3,h4,h6,h7,g2,g3,g4,g6,o2,o3,o4,o6,k15,k17,k19,k20,a2,RSt.pa,RSt.row]
     (unfold Drw;kernel_rfl)
   | false =>
     rw [ht,if_neg (fun h=>h (bne_eq a0)),if_neg (beq_ne k15),if_neg (beq_ne k17),if_neg (beq_ne k19),if_pos (beq_iff_eq.1 k20)];unfold pc67c2 pc67c1 pc67c0;simp only [↓evP,evB,stB,reduceIte,reduceCtorEq,seval,RCh.row,pr67,decide_true,decide_false,h2,h3,h4,h6,h7,g2,g3,g4,g6,o2,o3,o4,o6,k15,k17,k19,k20,a2,RSt.pa,RSt.row]
     (unfold Drw;kernel_rfl)
 | false =>
   rw [ht,if_neg (fun h=>h (bne_eq a0)),if_neg (beq_ne k15),if_neg (beq_ne k17),if_neg (beq_ne k19),if_neg (beq_ne k20)];unfold pc67c2 pc67c1 pc67c0;simp only [↓evP,evB,stB,reduceIte,reduceCtorEq,seval,RCh.row,pr67,decide_true,decide_false,h2,h3,h4,h6,h7,g2,g3,g4,g6,o2,o3,o4,o6,k15,k17,k19,k20,RSt.pa,RSt.row]
def R_channel20 (ps rs:List Pa):Prop:=∃ k:Int,ps=[pI k]∧rs=[pB (chanB k)]
theorem s_channel20:Spec Try.prog 66 R_channel20:=by
 refine sp66 EnvOK.e0 ?_;rintro ps rs ⟨k,rfl,rfl⟩;refine ⟨by simp,?_⟩;unfold pc66;refine pwp_start ?_;simp only [↓evP,evB,stB,reduceIte,reduceCtorEq,seval,pr66];refine ⟨fun h=>?_,fun h=>?_⟩
 ·unfold chanB;rw [decide_eq_decide.2 (show (15≤k∧k≤20)↔k≤20 from ⟨fun h=>h.2,fun h2=>⟨h,h2⟩⟩)]
 ·unfold chanB;rw [decide_eq_false (fun h2=>h h2.1)]
def kindNames:List ByteArray:=[⟨#[]⟩,⟨#[114,101,97,100]⟩,⟨#[119,114,105,116,101]⟩,⟨#[97,116,111,109,105,99,45,114,101,97,100]⟩,⟨#[97,116,111,109,105,99,45,119,114,105,116,101]⟩,⟨#[97,116,111,109,105,99,45,98,111,116,104]⟩,⟨#[108,111,99,107]⟩,⟨#[117,110,108,111,99,107]⟩,⟨#[114,108,111,99,107]⟩,⟨#[114,117,110,108,111,99,107]⟩,⟨#[100,111,110,101]⟩,⟨#[119,97,105,116]⟩,⟨#[111,110,99,101,45,101,110,100]⟩,⟨#[111,110,99,101,45,115,101,101,110]⟩,⟨#[103,111]⟩,⟨#[115,101,110,100,45,115,116,97,114,116]⟩,⟨#[115,101,110,100,45,101,110,100]⟩,⟨#[114,101,99,118,45,115,116,97,114,116]⟩,⟨#[114,101,99,118,45,101,110,100]⟩,⟨#[99,108,111,115,101]⟩,⟨#[114,101,99,118,45,99,108,111,115,101,100]⟩]
def R_name (ps rs:List Pa):Prop:=∃ k:Int,ps=[pI k]∧∃ s,rs=[.one (.sc (.string s))]∧s=(if k < 1∨20 < k then ⟨#[]⟩ else (kindNames[k.toNat]?).getD ⟨#[]⟩)
theorem s_name:Spec Try.prog 95 R_name:=by
 refine sp95 EnvOK.e0 ?_;rintro ps rs ⟨k,rfl,s,rfl,hs⟩;refine ⟨by simp,?_⟩;unfold pc95;refine pwp_start ?_
 by_cases h1:k < 1
 ·rw [if_pos (.inl h1)] at hs;subst hs;simp only [↓evP,evB,stB,reduceIte,reduceCtorEq,seval,h1,pr95]
 by_cases h2:k > 20
 ·rw [if_pos (.inr h2)] at hs;subst hs;simp only [↓evP,evB,stB,reduceIte,reduceCtorEq,seval,h1,h2,decide_true,decide_false,pr95]
 rw [if_neg (fun h=>h.elim h1 h2)] at hs;obtain ⟨m,rfl⟩:=Int.eq_ofNat_of_zero_le (show 0≤k by omega);obtain ⟨u,hu⟩:∃ u,kindNames[m]? = some u:=⟨_,List.getElem?_eq_getElem (by show m < 21;omega)⟩
 rw [Int.toNat_natCast,hu,Option.getD_some] at hs;subst hs;have hrow:(kindNames.map fun x=>[Dt.sc (.string x)])[m]? = some [.sc (.string s)]:=by rw [List.getElem?_map,hu];rfl
 unfold kindNames at hrow;simp only [List.map_cons,List.map_nil] at hrow;simp only [↓evP,evB,stB,reduceIte,reduceCtorEq,seval,h1,h2,decide_true,decide_false,hrow,pr95]
def R_valid20 (ps rs:List Pa):Prop:=∃ e:Ev,ps=[e.pa]∧rs=[pB e.valid]
def env_valid20:Env:=e1 95 R_name e0
theorem env_valid20_ok:EnvOK Try.prog env_valid20:=EnvOK.e1 s_name EnvOK.e0
theorem valid20_c1 {e:Ev} (hr:0≤e.k) (Q:Exit→St→Prop)
 (hQ:∀ st,st.res pr64=some [pB (decide (e.obj=0∧e.off=0∧e.n=0∧1≤e.k∧e.k < 8))]→Q .ret st) (st:St)
 (h1:st.sl 1=.b (.one (.ptr 1 1 0))) (g1:st.gen 1=1) (o1:st.ob 1=.cells (e.row.map .d)) :
 pwp env_valid20 pc64c1 (exS env_valid20 [It.bl 2,It.c pc64c0] Q) st:=by
 simp only [Ev.row,List.map_cons,List.map_nil] at o1;unfold pc64c1;simp only [↓evP,evB,stB,reduceIte,reduceCtorEq,Nat.reduceEqDiff,Nat.reduceAdd,Nat.reduceMul,Nat.reduceLeDiff,Nat.reduceLT,Nat.reduceSub,Nat.reduceBEq,h1,g1,o1]
 repeat' (first | apply And.intro | intro)
 all_goals (refine hQ _ ?_;simp only [stB,reduceIte,reduceCtorEq,Nat.reduceEqDiff,Nat.reduceAdd,Nat.reduceMul,Nat.reduceLeDiff,Nat.reduceLT,Nat.reduceSub,Nat.reduceBEq,pr64];refine congrArg (fun b=>some [pB b]) (Bool.eq_iff_iff.2 ?_);simp only [beq_iff_eq,beq_eq_false_iff_ne,ne_eq,decide_eq_true_eq,decide_eq_false_iff_not,Bool.false_eq_true,reduceCtorEq,false_iff,true_iff,iff_false,iff_true] at *;omega)
theorem valid20_c2 {e:Ev} (hr:0≤e.k) (Q:Exit→St→Prop)
 (hQ:∀ st,st.res pr64=some [pB (decide (e.off=0∧e.n≤64))]→Q .ret st) (st:St)
 (h1:st.sl 1=.b (.one (.ptr 1 1 0))) (g1:st.gen 1=1) (o1:st.ob 1=.cells (e.row.map .d)) :
 pwp env_valid20 pc64c2 (exS env_valid20 [It.bl 2,It.c pc64c0] Q) st:=by
 simp only [Ev.row,List.map_cons,List.map_nil] at o1;unfold pc64c2;simp only [↓evP,evB,stB,reduceIte,reduceCtorEq,Nat.reduceEqDiff,Nat.reduceAdd,Nat.reduceMul,Nat.reduceLeDiff,Nat.reduceLT,Nat.reduceSub,Nat.reduceBEq,h1,g1,o1]
 repeat' (first | apply And.intro | intro)
 all_goals (refine hQ _ ?_;simp only [stB,reduceIte,reduceCtorEq,Nat.reduceEqDiff,Nat.reduceAdd,Nat.reduceMul,Nat.reduceLeDiff,Nat.reduceLT,Nat.reduceSub,Nat.reduceBEq,pr64];refine congrArg (fun b=>some [pB b]) (Bool.eq_iff_iff.2 ?_);simp only [beq_iff_eq,beq_eq_false_iff_ne,ne_eq,decide_eq_true_eq,decide_eq_false_iff_not,Bool.false_eq_true,reduceCtorEq,false_iff,true_iff,iff_false,iff_true] at *;omega)
theorem valid20_c3 {e:Ev} (hr:0≤e.k) (Q:Exit→St→Prop)
 (hQ:∀ st,st.res pr64=some [pB (decide (e.off=0∧e.n≤64∧e.k=0))]→Q .ret st) (st:St)
 (h1:st.sl 1=.b (.one (.ptr 1 1 0))) (g1:st.gen 1=1) (o1:st.ob 1=.cells (e.row.map .d)) :
 pwp env_valid20 pc64c3 (exS env_valid20 [It.bl 2,It.c pc64c0] Q) st:=by
 simp only [Ev.row,List.map_cons,List.map_nil] at o1;unfold pc64c3;simp only [↓evP,evB,stB,reduceIte,reduceCtorEq,Nat.reduceEqDiff,Nat.reduceAdd,Nat.reduceMul,Nat.reduceLeDiff,Nat.reduceLT,Nat.reduceSub,Nat.reduceBEq,h1,g1,o1]
 repeat' (first | apply And.intro | intro)
 all_goals (refine hQ _ ?_;simp only [stB,reduceIte,reduceCtorEq,Nat.reduceEqDiff,Nat.reduceAdd,Nat.reduceMul,Nat.reduceLeDiff,Nat.reduceLT,Nat.reduceSub,Nat.reduceBEq,pr64];refine congrArg (fun b=>some [pB b]) (Bool.eq_iff_iff.2 ?_);simp only [beq_iff_eq,beq_eq_false_iff_ne,ne_eq,decide_eq_true_eq,decide_eq_false_iff_not,Bool.false_eq_true,reduceCtorEq,false_iff,true_iff,iff_false,iff_true] at *;omega)
theorem valid20_c0 {e:Ev} (hr:0≤e.k) (Q:Exit→St→Prop)
 (hQ:∀ st,st.res pr64=some [pB (decide (e.k=0∧e.n=0))]→Q .ret st) (st:St)
 (h1:st.sl 1=.b (.one (.ptr 1 1 0))) (g1:st.gen 1=1) (o1:st.ob 1=.cells (e.row.map .d)) :
 pwp env_valid20 pc64c0 (exS env_valid20 [] Q) st:=by
 simp only [Ev.row,List.map_cons,List.map_nil] at o1;unfold pc64c0;simp only [↓evP,evB,stB,reduceIte,reduceCtorEq,Nat.reduceEqDiff,Nat.reduceAdd,Nat.reduceMul,Nat.reduceLeDiff,Nat.reduceLT,Nat.reduceSub,Nat.reduceBEq,h1,g1,o1]
 repeat' (first | apply And.intro | intro)
 all_goals (refine hQ _ ?_;simp only [stB,reduceIte,reduceCtorEq,Nat.reduceEqDiff,Nat.reduceAdd,Nat.reduceMul,Nat.reduceLeDiff,Nat.reduceLT,Nat.reduceSub,Nat.reduceBEq,pr64];refine congrArg (fun b=>some [pB b]) (Bool.eq_iff_iff.2 ?_);simp only [beq_iff_eq,beq_eq_false_iff_ne,ne_eq,decide_eq_true_eq,decide_eq_false_iff_not,Bool.false_eq_true,reduceCtorEq,false_iff,true_iff,iff_false,iff_true] at *;omega)
theorem valid20_tail {e:Ev} (hk:1≤e.kind) (hk2:e.kind≤20) (hr:rangeB e.k=true) (Q:Exit→St→Prop)
 (hQ:∀ st,st.res pr64=some [pB e.rest]→Q .ret st) (st:St)
 (h1:st.sl 1=.b (.one (.ptr 1 1 0))) (g1:st.gen 1=1) (o1:st.ob 1=.cells (e.row.map .d)) :
 pwp env_valid20 pc64c7 (exS env_valid20 [] Q) st:=by
 have o1':=o1;simp only [Ev.row,List.map_cons,List.map_nil] at o1;have hr':0≤e.k:=by unfold rangeB at hr;simp at hr;omega
 unfold pc64c7 pc64c6
 cases k14:(e.kind == 14) with
 | true =>
   simp only [↓evP,evB,stB,reduceIte,reduceCtorEq,Nat.reduceEqDiff,Nat.reduceAdd,Nat.reduceMul,Nat.reduceLeDiff,Nat.reduceLT,Nat.reduceSub,Nat.reduceBEq,h1,g1,o1,k14];have hre:e.rest=decide (e.obj=0∧e.off=0∧e.n=0∧1≤e.k∧e.k < 8):=by unfold Ev.rest;rw [if_pos (beq_iff_eq.1 k14)]
   rw [hre] at hQ;exact valid20_c1 hr' Q hQ _ (by simp only [stB,reduceIte,reduceCtorEq,Nat.reduceEqDiff,Nat.reduceAdd,Nat.reduceMul,Nat.reduceLeDiff,Nat.reduceLT,Nat.reduceSub,Nat.reduceBEq,h1]) (by simp only [stB,reduceIte,reduceCtorEq,Nat.reduceEqDiff,Nat.reduceAdd,Nat.reduceMul,Nat.reduceLeDiff,Nat.reduceLT,Nat.reduceSub,Nat.reduceBEq,g1]) (by simp only [stB,reduceIte,reduceCtorEq,Nat.reduceEqDiff,Nat.reduceAdd,Nat.reduceMul,Nat.reduceLeDiff,Nat.reduceLT,Nat.reduceSub,Nat.reduceBEq,o1,Ev.row])
 | false =>
 have n14:=beq_eq_false_iff_ne.1 k14
 cases k15:(e.kind == 15) with
 | true =>
   simp only [↓evP,evB,stB,reduceIte,reduceCtorEq,Nat.reduceEqDiff,Nat.reduceAdd,Nat.reduceMul,Nat.reduceLeDiff,Nat.reduceLT,Nat.reduceSub,Nat.reduceBEq,h1,g1,o1,k14];unfold pc64c5;simp only [↓evP,evB,stB,reduceIte,reduceCtorEq,Nat.reduceEqDiff,Nat.reduceAdd,Nat.reduceMul,Nat.reduceLeDiff,Nat.reduceLT,Nat.reduceSub,Nat.reduceBEq,h1,g1,o1,k14,k15];have hre:e.rest=decide (e.off=0∧e.n≤64):=by unfold Ev.rest;rw [if_neg n14,if_pos (by have:=beq_iff_eq.1 k15;omega)]
   rw [hre] at hQ;exact valid20_c2 hr' Q hQ _ (by simp only [stB,reduceIte,reduceCtorEq,Nat.reduceEqDiff,Nat.reduceAdd,Nat.reduceMul,Nat.reduceLeDiff,Nat.reduceLT,Nat.reduceSub,Nat.reduceBEq,h1]) (by simp only [stB,reduceIte,reduceCtorEq,Nat.reduceEqDiff,Nat.reduceAdd,Nat.reduceMul,Nat.reduceLeDiff,Nat.reduceLT,Nat.reduceSub,Nat.reduceBEq,g1]) (by simp only [stB,reduceIte,reduceCtorEq,Nat.reduceEqDiff,Nat.reduceAdd,Nat.reduceMul,Nat.reduceLeDiff,Nat.reduceLT,Nat.reduceSub,Nat.reduceBEq,o1,Ev.row])
 | false =>
 have n15:=beq_eq_false_iff_ne.1 k15
 cases k16:(e.kind == 16) with
 | true =>
   simp only [↓evP,evB,stB,reduceIte,reduceCtorEq,Nat.reduceEqDiff,Nat.reduceAdd,Nat.reduceMul,Nat.reduceLeDiff,Nat.reduceLT,Nat.reduceSub,Nat.reduceBEq,h1,g1,o1,k14];unfold pc64c5;simp only [↓evP,evB,stB,reduceIte,reduceCtorEq,Nat.reduceEqDiff,Nat.reduceAdd,Nat.reduceMul,Nat.reduceLeDiff,Nat.reduceLT,Nat.reduceSub,Nat.reduceBEq,h1,g1,o1,k14,k15,k16];have hre:e.rest=decide (e.off=0∧e.n≤64):=by unfold Ev.rest;rw [if_neg n14,if_pos (by have:=beq_iff_eq.1 k16;omega)]
   rw [hre] at hQ;exact valid20_c2 hr' Q hQ _ (by simp only [stB,reduceIte,reduceCtorEq,Nat.reduceEqDiff,Nat.reduceAdd,Nat.reduceMul,Nat.reduceLeDiff,Nat.reduceLT,Nat.reduceSub,Nat.reduceBEq,h1]) (by simp only [stB,reduceIte,reduceCtorEq,Nat.reduceEqDiff,Nat.reduceAdd,Nat.reduceMul,Nat.reduceLeDiff,Nat.reduceLT,Nat.reduceSub,Nat.reduceBEq,g1]) (by simp only [stB,reduceIte,reduceCtorEq,Nat.reduceEqDiff,Nat.reduceAdd,Nat.reduceMul,Nat.reduceLeDiff,Nat.reduceLT,Nat.reduceSub,Nat.reduceBEq,o1,Ev.row])
 | false =>
 have n16:=beq_eq_false_iff_ne.1 k16
 cases k17:(e.kind == 17) with
 | true =>
   simp only [↓evP,evB,stB,reduceIte,reduceCtorEq,Nat.reduceEqDiff,Nat.reduceAdd,Nat.reduceMul,Nat.reduceLeDiff,Nat.reduceLT,Nat.reduceSub,Nat.reduceBEq,h1,g1,o1,k14];unfold pc64c5;simp only [↓evP,evB,stB,reduceIte,reduceCtorEq,Nat.reduceEqDiff,Nat.reduceAdd,Nat.reduceMul,Nat.reduceLeDiff,Nat.reduceLT,Nat.reduceSub,Nat.reduceBEq,h1,g1,o1,k14,k15,k16,k17];have hre:e.rest=decide (e.off=0∧e.n≤64):=by unfold Ev.rest;rw [if_neg n14,if_pos (by have:=beq_iff_eq.1 k17;omega)]
   rw [hre] at hQ;exact valid20_c2 hr' Q hQ _ (by simp only [stB,reduceIte,reduceCtorEq,Nat.reduceEqDiff,Nat.reduceAdd,Nat.reduceMul,Nat.reduceLeDiff,Nat.reduceLT,Nat.reduceSub,Nat.reduceBEq,h1]) (by simp only [stB,reduceIte,reduceCtorEq,Nat.reduceEqDiff,Nat.reduceAdd,Nat.reduceMul,Nat.reduceLeDiff,Nat.reduceLT,Nat.reduceSub,Nat.reduceBEq,g1]) (by simp only [stB,reduceIte,reduceCtorEq,Nat.reduceEqDiff,Nat.reduceAdd,Nat.reduceMul,Nat.reduceLeDiff,Nat.reduceLT,Nat.reduceSub,Nat.reduceBEq,o1,Ev.row])
 | false =>
 have n17:=beq_eq_false_iff_ne.1 k17
 cases k18:(e.kind == 18) with
 | true =>
   simp only [↓evP,evB,stB,reduceIte,reduceCtorEq,Nat.reduceEqDiff,Nat.reduceAdd,Nat.reduceMul,Nat.reduceLeDiff,Nat.reduceLT,Nat.reduceSub,Nat.reduceBEq,h1,g1,o1,k14];unfold pc64c5;simp only [↓evP,evB,stB,reduceIte,reduceCtorEq,Nat.reduceEqDiff,Nat.reduceAdd,Nat.reduceMul,Nat.reduceLeDiff,Nat.reduceLT,Nat.reduceSub,Nat.reduceBEq,h1,g1,o1,k14,k15,k16,k17,k18];have hre:e.rest=decide (e.off=0∧e.n≤64):=by unfold Ev.rest;rw [if_neg n14,if_pos (by have:=beq_iff_eq.1 k18;omega)]
   rw [hre] at hQ;exact valid20_c2 hr' Q hQ _ (by simp only [stB,reduceIte,reduceCtorEq,Nat.reduceEqDiff,Nat.reduceAdd,Nat.reduceMul,Nat.reduceLeDiff,Nat.reduceLT,Nat.reduceSub,Nat.reduceBEq,h1]) (by simp only [stB,reduceIte,reduceCtorEq,Nat.reduceEqDiff,Nat.reduceAdd,Nat.reduceMul,Nat.reduceLeDiff,Nat.reduceLT,Nat.reduceSub,Nat.reduceBEq,g1]) (by simp only [stB,reduceIte,reduceCtorEq,Nat.reduceEqDiff,Nat.reduceAdd,Nat.reduceMul,Nat.reduceLeDiff,Nat.reduceLT,Nat.reduceSub,Nat.reduceBEq,o1,Ev.row])
 | false =>
 have n18:=beq_eq_false_iff_ne.1 k18
 cases k19:(e.kind == 19) with
 | true =>
   simp only [↓evP,evB,stB,reduceIte,reduceCtorEq,Nat.reduceEqDiff,Nat.reduceAdd,Nat.reduceMul,Nat.reduceLeDiff,Nat.reduceLT,Nat.reduceSub,Nat.reduceBEq,h1,g1,o1,k14];unfold pc64c5;simp only [↓evP,evB,stB,reduceIte,reduceCtorEq,Nat.reduceEqDiff,Nat.reduceAdd,Nat.reduceMul,Nat.reduceLeDiff,Nat.reduceLT,Nat.reduceSub,Nat.reduceBEq,h1,g1,o1,k14,k15,k16,k17,k18];unfold pc64c4;simp only [↓evP,evB,stB,reduceIte,reduceCtorEq,Nat.reduceEqDiff,Nat.reduceAdd,Nat.reduceMul,Nat.reduceLeDiff,Nat.reduceLT,Nat.reduceSub,Nat.reduceBEq,h1,g1,o1,k14,k15,k16,k17,k18,k19];have hre:e.rest=decide (e.off=0∧e.n≤64∧e.k=0):=by unfold Ev.rest;rw [if_neg n14,if_neg (by omega),if_pos (by have:=beq_iff_eq.1 k19;omega)]
   rw [hre] at hQ;exact valid20_c3 hr' Q hQ _ (by simp only [stB,reduceIte,reduceCtorEq,Nat.reduceEqDiff,Nat.reduceAdd,Nat.reduceMul,Nat.reduceLeDiff,Nat.reduceLT,Nat.reduceSub,Nat.reduceBEq,h1]) (by simp only [stB,reduceIte,reduceCtorEq,Nat.reduceEqDiff,Nat.reduceAdd,Nat.reduceMul,Nat.reduceLeDiff,Nat.reduceLT,Nat.reduceSub,Nat.reduceBEq,g1]) (by simp only [stB,reduceIte,reduceCtorEq,Nat.reduceEqDiff,Nat.reduceAdd,Nat.reduceMul,Nat.reduceLeDiff,Nat.reduceLT,Nat.reduceSub,Nat.reduceBEq,o1,Ev.row])
 | false =>
 have n19:=beq_eq_false_iff_ne.1 k19
 cases k20:(e.kind == 20) with
 | true =>
   simp only [↓evP,evB,stB,reduceIte,reduceCtorEq,Nat.reduceEqDiff,Nat.reduceAdd,Nat.reduceMul,Nat.reduceLeDiff,Nat.reduceLT,Nat.reduceSub,Nat.reduceBEq,h1,g1,o1,k14];unfold pc64c5;simp only [↓evP,evB,stB,reduceIte,reduceCtorEq,Nat.reduceEqDiff,Nat.reduceAdd,Nat.reduceMul,Nat.reduceLeDiff,Nat.reduceLT,Nat.reduceSub,Nat.reduceBEq,h1,g1,o1,k14,k15,k16,k17,k18];unfold pc64c4;simp only [↓evP,evB,stB,reduceIte,reduceCtorEq,Nat.reduceEqDiff,Nat.reduceAdd,Nat.reduceMul,Nat.reduceLeDiff,Nat.reduceLT,Nat.reduceSub,Nat.reduceBEq,h1,g1,o1,k14,k15,k16,k17,k18,k19,k20];have hre:e.rest=decide (e.off=0∧e.n≤64∧e.k=0):=by unfold Ev.rest;rw [if_neg n14,if_neg (by omega),if_pos (by have:=beq_iff_eq.1 k20;omega)]
   rw [hre] at hQ;exact valid20_c3 hr' Q hQ _ (by simp only [stB,reduceIte,reduceCtorEq,Nat.reduceEqDiff,Nat.reduceAdd,Nat.reduceMul,Nat.reduceLeDiff,Nat.reduceLT,Nat.reduceSub,Nat.reduceBEq,h1]) (by simp only [stB,reduceIte,reduceCtorEq,Nat.reduceEqDiff,Nat.reduceAdd,Nat.reduceMul,Nat.reduceLeDiff,Nat.reduceLT,Nat.reduceSub,Nat.reduceBEq,g1]) (by simp only [stB,reduceIte,reduceCtorEq,Nat.reduceEqDiff,Nat.reduceAdd,Nat.reduceMul,Nat.reduceLeDiff,Nat.reduceLT,Nat.reduceSub,Nat.reduceBEq,o1,Ev.row])
 | false =>
 have n20:=beq_eq_false_iff_ne.1 k20;simp only [↓evP,evB,stB,reduceIte,reduceCtorEq,Nat.reduceEqDiff,Nat.reduceAdd,Nat.reduceMul,Nat.reduceLeDiff,Nat.reduceLT,Nat.reduceSub,Nat.reduceBEq,h1,g1,o1,k14];unfold pc64c5;simp only [↓evP,evB,stB,reduceIte,reduceCtorEq,Nat.reduceEqDiff,Nat.reduceAdd,Nat.reduceMul,Nat.reduceLeDiff,Nat.reduceLT,Nat.reduceSub,Nat.reduceBEq,h1,g1,o1,k14,k15,k16,k17,k18];unfold pc64c4;simp only [↓evP,evB,stB,reduceIte,reduceCtorEq,Nat.reduceEqDiff,Nat.reduceAdd,Nat.reduceMul,Nat.reduceLeDiff,Nat.reduceLT,Nat.reduceSub,Nat.reduceBEq,h1,g1,o1,k14,k15,k16,k17,k18,k19,k20];have hre:e.rest=decide (e.k=0∧e.n=0):=by unfold Ev.rest;rw [if_neg n14,if_neg (by omega),if_neg (by omega)]
 rw [hre] at hQ;exact valid20_c0 hr' Q hQ _ (by simp only [stB,reduceIte,reduceCtorEq,Nat.reduceEqDiff,Nat.reduceAdd,Nat.reduceMul,Nat.reduceLeDiff,Nat.reduceLT,Nat.reduceSub,Nat.reduceBEq,h1]) (by simp only [stB,reduceIte,reduceCtorEq,Nat.reduceEqDiff,Nat.reduceAdd,Nat.reduceMul,Nat.reduceLeDiff,Nat.reduceLT,Nat.reduceSub,Nat.reduceBEq,g1]) (by simp only [stB,reduceIte,reduceCtorEq,Nat.reduceEqDiff,Nat.reduceAdd,Nat.reduceMul,Nat.reduceLeDiff,Nat.reduceLT,Nat.reduceSub,Nat.reduceBEq,o1,Ev.row])
theorem ba_loop (bs:ByteArray):∀ n i r,bs.size - i=n→ByteArray.toList.loop bs i r=r.reverse ++ bs.data.toList.drop i:=by
 intro n
 induction n with
 | zero =>
   intro i r h;unfold ByteArray.toList.loop;rw [if_neg (by omega),List.drop_eq_nil_of_le (by show bs.data.toList.length≤i;rw [Array.length_toList];show bs.size≤i;omega),List.append_nil]
 | succ n ih =>
   intro i r h;have hi:i < bs.data.toList.length:=by rw [Array.length_toList];show i < bs.size;omega
   unfold ByteArray.toList.loop;rw [if_pos (by omega),ih (i+1) _ (by omega),List.drop_eq_getElem_cons hi,List.reverse_cons,List.append_assoc]
   congr 1
   show bs.get! i :: _=_
   congr 1
   show bs.data[i]! = _
   rw [getElem!_pos bs.data i (by simpa using hi)];rfl
theorem ba_toList (bs:ByteArray):bs.toList=bs.data.toList:=by
 unfold ByteArray.toList;rw [ba_loop bs _ 0 [] rfl];rfl
def Ev.fields (e:Ev):List Int:=[e.obj,e.off,e.k,e.n,e.fn,e.pc,e.stack]
def kname (k:Int):ByteArray:=if k < 1∨20 < k then ⟨#[]⟩ else (kindNames[k.toNat]?).getD ⟨#[]⟩
theorem kname_empty (k:Int):((kname k).toList == (⟨#[]⟩:ByteArray).toList)=!isKindB k:=by
 unfold kname isKindB
 by_cases h:k < 1∨20 < k
 ·rw [if_pos h,decide_eq_false (by omega),ba_toList];decide
 ·rw [if_neg h,decide_eq_true (by omega)];obtain ⟨m,rfl⟩:=Int.eq_ofNat_of_zero_le (show 0≤k by omega);rw [Int.toNat_natCast];have:∀ m:Fin 21,1≤m.val→(((kindNames[m.val]?).getD ⟨#[]⟩).data.toList == (⟨#[]⟩:ByteArray).data.toList)=false:=by decide +kernel
  rw [ba_toList,ba_toList];exact this ⟨m,by omega⟩ (by show 1≤m;omega)
theorem Ev.valid_eq (e:Ev):e.valid=(isKindB e.kind && decide (0≤e.g∧e.g < 8) && e.fields.all rangeB && e.rest):=by
 unfold Ev.valid Ev.fields;simp only [List.all_cons,List.all_nil,Bool.and_true,Bool.and_assoc]
theorem s_valid20:Spec Try.prog 64 R_valid20:=by
 refine sp64 env_valid20_ok ?_;rintro ps rs ⟨e,rfl,rfl⟩;refine ⟨by simp,?_⟩;unfold pc64;refine pwp_start ?_
 by_cases q1:e.g < 0
 ·have hv:e.valid=false:=by rw [Ev.valid_eq,decide_eq_false (show ¬ (0≤e.g∧e.g < 8) by omega)];simp
  simp only [↓evP,evB,stB,reduceIte,reduceCtorEq,Nat.reduceEqDiff,Nat.reduceAdd,Nat.reduceMul,Nat.reduceLeDiff,Nat.reduceLT,Nat.reduceSub,Nat.reduceBEq,Ev.pa,Ev.row,q1,decide_true,decide_false,hv,pr64]
 by_cases q2:e.g≥8
 ·have hv:e.valid=false:=by rw [Ev.valid_eq,decide_eq_false (show ¬ (0≤e.g∧e.g < 8) by omega)];simp
  simp only [↓evP,evB,stB,reduceIte,reduceCtorEq,Nat.reduceEqDiff,Nat.reduceAdd,Nat.reduceMul,Nat.reduceLeDiff,Nat.reduceLT,Nat.reduceSub,Nat.reduceBEq,Ev.pa,Ev.row,q1,q2,decide_true,decide_false,hv,pr64]
 have hg:decide (0≤e.g∧e.g < 8)=true:=decide_eq_true (by omega);simp only [↓evP,evB,stB,reduceIte,reduceCtorEq,Nat.reduceEqDiff,Nat.reduceAdd,Nat.reduceMul,Nat.reduceLeDiff,Nat.reduceLT,Nat.reduceSub,Nat.reduceBEq,Ev.pa,Ev.row,q1,q2,decide_true,decide_false];refine callOps_intro [.one (.sc (.string (kname e.kind)))] ⟨e.kind,rfl,kname e.kind,rfl,rfl⟩ ?_
 cases hk:isKindB e.kind with
 | false =>
   have hv:e.valid=false:=by rw [Ev.valid_eq,hk];rfl
   simp only [↓evP,evB,stB,reduceIte,reduceCtorEq,Nat.reduceEqDiff,Nat.reduceAdd,Nat.reduceMul,Nat.reduceLeDiff,Nat.reduceLT,Nat.reduceSub,Nat.reduceBEq,kname_empty,hk,hv,pr64]
 | true =>
   simp only [↓evP,evB,stB,reduceIte,reduceCtorEq,Nat.reduceEqDiff,Nat.reduceAdd,Nat.reduceMul,Nat.reduceLeDiff,Nat.reduceLT,Nat.reduceSub,Nat.reduceBEq,kname_empty,hk];refine pwp_fresh [1] [1] (fun st hs ho=>?_);simp only [stB,reduceIte,reduceCtorEq,Nat.reduceEqDiff,Nat.reduceAdd,Nat.reduceMul,Nat.reduceLeDiff,Nat.reduceLT,Nat.reduceSub,Nat.reduceBEq] at hs ho;obtain ⟨g1,o1⟩:=ho;unfold pc64c9;simp only [↓evP,evB,stB,reduceIte,reduceCtorEq,Nat.reduceEqDiff,Nat.reduceAdd,Nat.reduceMul,Nat.reduceLeDiff,Nat.reduceLT,Nat.reduceSub,Nat.reduceBEq,hs,g1,o1];refine pwp_fresh [1,3] [1,33] (fun st' hs' ho'=>?_);simp only [stB,reduceIte,reduceCtorEq,Nat.reduceEqDiff,Nat.reduceAdd,Nat.reduceMul,Nat.reduceLeDiff,Nat.reduceLT,Nat.reduceSub,Nat.reduceBEq,hs,g1,o1] at hs' ho';clear hs g1 o1;obtain ⟨h1,h3⟩:=hs';obtain ⟨⟨g1,o1⟩,g33,o33⟩:=ho';unfold pc64c8
   simp only [↓evP,evB,stB,reduceIte,reduceCtorEq,Nat.reduceEqDiff,Nat.reduceAdd,Nat.reduceMul,Nat.reduceLeDiff,Nat.reduceLT,Nat.reduceSub,Nat.reduceBEq,h1,h3,g1,o1,g33,o33];refine pwp_loopW ms64_0 os64_0 (fun m st=>∃ k:Nat,m=7 - k∧k≤7∧(e.fields.take k).all rangeB=true∧st.sl 4=aI k) 7 ?_ ?_
   ·exact ⟨0,rfl,by omega,rfl,by simp only [stB,reduceIte,reduceCtorEq,Nat.reduceEqDiff,Nat.reduceAdd,Nat.reduceMul,Nat.reduceLeDiff,Nat.reduceLT,Nat.reduceSub,Nat.reduceBEq];rfl⟩
   ·rintro m j ⟨k,rfl,hk7,hall,h4⟩;simp only [stB,reduceIte,reduceCtorEq,Nat.reduceEqDiff,Nat.reduceAdd,Nat.reduceMul,Nat.reduceLeDiff,Nat.reduceLT,Nat.reduceSub,Nat.reduceBEq] at h4
    rcases Nat.lt_or_ge k 7 with hlt | hge
    ·obtain ⟨x,hx⟩:∃ x,e.fields[k]? = some x:=⟨_,List.getElem?_eq_getElem (show k < e.fields.length from hlt)⟩
     have hrow:(e.fields.map fun x=>[dI x])[k]? = some [dI x]:=by rw [List.getElem?_map,hx];rfl
     unfold Ev.fields at hrow;simp only [List.map_cons,List.map_nil] at hrow;have hl7:(k:Int) < ((7:Nat):Int):=by omega
     have hmem:x ∈ e.fields:=List.mem_of_getElem? hx
     by_cases x1:x < 0
     ·have hv:e.valid=false:=by
       rw [Ev.valid_eq,(by rw [List.all_eq_false];exact ⟨x,hmem,by unfold rangeB;rw [decide_eq_false (by omega)];decide⟩:e.fields.all rangeB=false)];simp
      simp only [↓evP,evB,stB,reduceIte,reduceCtorEq,Nat.reduceEqDiff,Nat.reduceAdd,Nat.reduceMul,Nat.reduceLeDiff,Nat.reduceLT,Nat.reduceSub,Nat.reduceBEq,h1,h3,g1,o1,h4,g33,o33,hrow,hl7,x1,decide_true,decide_false,hv,pr64]
     by_cases x2:x > 2147483647
     ·have hv:e.valid=false:=by
       rw [Ev.valid_eq,(by rw [List.all_eq_false];exact ⟨x,hmem,by unfold rangeB;rw [decide_eq_false (by omega)];decide⟩:e.fields.all rangeB=false)];simp
      simp only [↓evP,evB,stB,reduceIte,reduceCtorEq,Nat.reduceEqDiff,Nat.reduceAdd,Nat.reduceMul,Nat.reduceLeDiff,Nat.reduceLT,Nat.reduceSub,Nat.reduceBEq,h1,h3,g1,o1,h4,g33,o33,hrow,hl7,x1,x2,decide_true,decide_false,hv,pr64]
     simp only [↓evP,evB,stB,reduceIte,reduceCtorEq,Nat.reduceEqDiff,Nat.reduceAdd,Nat.reduceMul,Nat.reduceLeDiff,Nat.reduceLT,Nat.reduceSub,Nat.reduceBEq,h1,h3,g1,o1,h4,g33,o33,hrow,hl7,x1,x2,decide_true,decide_false]
     exact ⟨_,by omega,(by repeat' (first | assumption | exact within_over.mpr trivial | exact Within.refl _ _ _ | (refine within_ap ?_ rfl rfl) | (refine within_ap0 ?_ rfl))),k+1,rfl,by omega,by rw [List.take_add_one,hx,List.all_append,hall];simp only [Option.toList_some,List.all_cons,List.all_nil];unfold rangeB;rw [decide_eq_true (by omega)];rfl,by simp only [stB,reduceIte,reduceCtorEq,Nat.reduceEqDiff,Nat.reduceAdd,Nat.reduceMul,Nat.reduceLeDiff,Nat.reduceLT,Nat.reduceSub,Nat.reduceBEq,h4];rw [wrN (by omega)]⟩
    ·have hk77:k=7:=by omega
     subst hk77;have hl7:¬ ((7:Nat):Int) < ((7:Nat):Int):=by omega
     simp only [↓evP,evB,stB,reduceIte,reduceCtorEq,Nat.reduceEqDiff,Nat.reduceAdd,Nat.reduceMul,Nat.reduceLeDiff,Nat.reduceLT,Nat.reduceSub,Nat.reduceBEq,h1,h3,g1,o1,h4,g33,o33,hl7];have hall':e.fields.all rangeB=true:=hall;have hk':=hk;unfold isKindB at hk';have hv:e.valid=e.rest:=by rw [Ev.valid_eq,hk,hg,hall'];rfl
     have hrk:rangeB e.k=true:=List.all_eq_true.1 hall' _ (by unfold Ev.fields;simp)
     rw [hv];exact valid20_tail (of_decide_eq_true hk').1 (of_decide_eq_true hk').2 hrk _ (fun st'' h=>⟨.inr rfl,h⟩) _ (by simp only [stB,reduceIte,reduceCtorEq,Nat.reduceEqDiff,Nat.reduceAdd,Nat.reduceMul,Nat.reduceLeDiff,Nat.reduceLT,Nat.reduceSub,Nat.reduceBEq,h1]) (by simp only [stB,reduceIte,reduceCtorEq,Nat.reduceEqDiff,Nat.reduceAdd,Nat.reduceMul,Nat.reduceLeDiff,Nat.reduceLT,Nat.reduceSub,Nat.reduceBEq,g1]) (by simp only [stB,reduceIte,reduceCtorEq,Nat.reduceEqDiff,Nat.reduceAdd,Nat.reduceMul,Nat.reduceLeDiff,Nat.reduceLT,Nat.reduceSub,Nat.reduceBEq,o1,Ev.row])
theorem RSt.counted_count (s:RSt) (e:Ev):(s.counted e).count=s.count:=by
 unfold RSt.counted RSt.setChannel;split <;> rfl
theorem RSt.partR_count (s:RSt) (e:Ev):(s.partR e).1.count=s.count:=by
 unfold RSt.partR RSt.groupR RSt.transferR RSt.otherR RSt.begin RSt.setChannel RSt.setLock
 repeat' split
 all_goals first | rfl | (rw [RSt.counted_count])
def R_Add (ps rs:List Pa):Prop:=∃ (s:RSt) (e:Ev),ps=[s.pa,e.pa]∧s.ok∧rs=[(s.addR e).1.pa,pB (s.addR e).2]
def env_Add:Env:=e1 64 R_valid20 (e1 66 R_channel20 (e1 65 R_group (e1 67 R_transfer (e1 68 R_other e0))))
theorem env_Add_ok:EnvOK Try.prog env_Add:=EnvOK.e1 s_valid20 (EnvOK.e1 s_channel20 (EnvOK.e1 s_group (EnvOK.e1 s_transfer (EnvOK.e1 s_other EnvOK.e0))))
theorem s_Add:Spec Try.prog 22 R_Add:=by
 refine sp22 env_Add_ok ?_;rintro ps rs ⟨s,e,rfl,hok,rfl⟩;refine ⟨by simp,?_⟩;unfold pc22;refine pwp_start ?_;simp only [↓evP,evB,stB,reduceIte,reduceCtorEq,seval,RSt.pa,RSt.row,Ev.pa,Ev.row];refine callOps_intro [pB e.valid] ⟨e,rfl,rfl⟩ ?_
 cases hv:e.valid with
 | false =>
   have ha:s.addR e=(s,false):=by unfold RSt.addR RSt.admits;rw [hv];rfl
   rw [ha];simp only [↓evP,evB,stB,reduceIte,reduceCtorEq,seval,hv,RSt.pa,RSt.row,pr22]
 | true =>
 by_cases b1:s.count≥5000
 ·have ha:s.addR e=(s,false):=by unfold RSt.addR RSt.admits;rw [decide_eq_false (show ¬ s.count < 5000 by omega)];simp
  rw [ha];simp only [↓evP,evB,stB,reduceIte,reduceCtorEq,seval,hv,b1,decide_true,decide_false,RSt.pa,RSt.row,pr22]
 by_cases b2:e.g≥s.gor
 ·have ha:s.addR e=(s,false):=by unfold RSt.addR RSt.admits;rw [decide_eq_false (show ¬ e.g < s.gor by omega)];simp
  rw [ha];simp only [↓evP,evB,stB,reduceIte,reduceCtorEq,seval,hv,b1,b2,decide_true,decide_false,RSt.pa,RSt.row,pr22]
 have had:s.admits e=true:=by unfold RSt.admits;rw [hv,decide_eq_true (show s.count < 5000 by omega),decide_eq_true (show e.g < s.gor by omega)];rfl
 have hcnt:=RSt.partR_count s e;have hc0:=hok.ct
 have ha:s.addR e=if (s.partR e).2=true then ({ (s.partR e).1 with count:=(s.partR e).1.count+1 },true) else (s,false):=by
  unfold RSt.addR
  by_cases h:(s.partR e).2=true
  ·rw [if_pos ⟨had,h⟩,if_pos h]
  ·rw [if_neg (fun h'=>h h'.2),if_neg h]
 rw [ha];clear ha
 by_cases b3:s.next.length > 0
 ·have hpart:s.partR e=s.groupR e:=if_pos b3;have b3':(s.next.length:Int) > 0:=by omega
  rw [hpart] at hcnt ⊢;simp only [↓evP,evB,stB,reduceIte,reduceCtorEq,seval,hv,b1,b2,b3',decide_true,decide_false];refine callOps_intro [(s.groupR e).1.pa,pB (s.groupR e).2] ⟨s,e,rfl,⟨hok,fun h=>by rw [h] at b3;exact absurd b3 (by decide)⟩,rfl⟩ ?_
  generalize s.groupR e=tr at *;obtain ⟨u,b⟩:=tr;have hw:IntKind.i64.wrap (u.count+1)=u.count+1:=wr64 (by simp only at hcnt;omega) (by simp only at hcnt;omega)
  cases b with
  | true =>
    simp only [↓evP,evB,stB,reduceIte,reduceCtorEq,seval,hv,b1,b2,b3',decide_true,decide_false,RSt.pa,RSt.row,hw,pr22]
  | false =>
    simp only [↓evP,evB,stB,reduceIte,reduceCtorEq,seval,hv,b1,b2,b3',decide_true,decide_false,RSt.pa,RSt.row,hw,pr22]
 ·have b3':¬ (s.next.length:Int) > 0:=by omega
  simp only [↓evP,evB,stB,reduceIte,reduceCtorEq,seval,hv,b1,b2,b3',decide_true,decide_false];refine callOps_intro [pB (chanB e.kind)] ⟨e.kind,rfl,rfl⟩ ?_
  cases b4:chanB e.kind with
  | true =>
    have hpart:s.partR e=s.transferR e:=(if_neg b3).trans (if_pos b4);rw [hpart] at hcnt ⊢;simp only [↓evP,evB,stB,reduceIte,reduceCtorEq,seval,hv,b1,b2,b3',b4,decide_true,decide_false];refine callOps_intro [(s.transferR e).1.pa,pB (s.transferR e).2] ⟨s,e,rfl,hok,rfl⟩ ?_;generalize s.transferR e=tr at *;obtain ⟨u,b⟩:=tr;have hw:IntKind.i64.wrap (u.count+1)=u.count+1:=wr64 (by simp only at hcnt;omega) (by simp only at hcnt;omega)
    cases b with
    | true =>
      simp only [↓evP,evB,stB,reduceIte,reduceCtorEq,seval,hv,b1,b2,b3',b4,decide_true,decide_false,RSt.pa,RSt.row,hw,pr22]
    | false =>
      simp only [↓evP,evB,stB,reduceIte,reduceCtorEq,seval,hv,b1,b2,b3',b4,decide_true,decide_false,RSt.pa,RSt.row,hw,pr22]
  | false =>
    have hpart:s.partR e=s.otherR e:=(if_neg b3).trans (if_neg (by rw [b4];decide))
    rw [hpart] at hcnt ⊢;simp only [↓evP,evB,stB,reduceIte,reduceCtorEq,seval,hv,b1,b2,b3',b4,decide_true,decide_false];refine callOps_intro [(s.otherR e).1.pa,pB (s.otherR e).2] ⟨s,e,rfl,hok,rfl⟩ ?_;generalize s.otherR e=tr at *;obtain ⟨u,b⟩:=tr;have hw:IntKind.i64.wrap (u.count+1)=u.count+1:=wr64 (by simp only at hcnt;omega) (by simp only at hcnt;omega)
    cases b with
    | true =>
      simp only [↓evP,evB,stB,reduceIte,reduceCtorEq,seval,hv,b1,b2,b3',b4,decide_true,decide_false,RSt.pa,RSt.row,hw,pr22]
    | false =>
      simp only [↓evP,evB,stB,reduceIte,reduceCtorEq,seval,hv,b1,b2,b3',b4,decide_true,decide_false,RSt.pa,RSt.row,hw,pr22]
end Go.Proofs.Ytffcpijeebagfaa
end
section
namespace Go.Proofs.Ytffcpijeebagfaa
open Go
def RCh.conv (c:RCh):Ch:=⟨c.n,c.sent,c.recv,c.closed⟩
def RLk.conv (c:RLk):Mu:=⟨c.locked,c.readers⟩
inductive RelG:List RWt→List Int→Int→Int→Prop
 | none (a b:Int):RelG [] [] a b
 | snd (g b:Int) (h:0≤g):RelG [⟨16,g,0⟩] [16] g b
 | rcv (a g:Int) (h:0≤g):RelG [⟨18,g,0⟩] [18] a g
 | wait (g:Int) (h:0≤g):RelG [⟨17, -1,g⟩,⟨18, -1,0⟩,⟨16,g,0⟩] [17,18,16] g (-1)
 | ask (g:Int) (h:0≤g):RelG [⟨15, -1,g⟩,⟨18,g,0⟩,⟨16, -1,0⟩] [15,18,16] (-1) g
 | both (a b:Int) (h:0≤a) (k:0≤b):RelG [⟨18,b,0⟩,⟨16,a,0⟩] [18,16] a b
def asks (l:List Int):Int:=if l.headD 0=15 then 1 else if l.headD 0=17 then -1 else 0
structure Rel (r:RSt) (t:TS):Prop where
 ct:r.count=t.events
 gr:r.gor=t.gor
 ch:∀ x,t.chans x=(r.chans.find? (fun c=>c.obj == x)).map RCh.conv
 lk:∀ x y,t.mus (x,y)=(r.locks.find? (fun c=>c.obj == x && c.off == y)).map RLk.conv
 dn:∀ x y,(t.done (x,y)).getD false=r.isDone x y
 gp:RelG r.next t.grp.kinds t.grp.snd t.grp.rcv
 go:r.next≠[]→t.grp.obj=r.obj∧t.grp.k=r.k∧t.grp.n=r.n∧(t.chans r.obj).isSome=true
 bal:∀ x c,t.chans x=some c→c.recv≤c.sent+(if x=r.obj then asks t.grp.kinds else 0)
 clen:(r.chans.length:Int)≤r.count
 cbd:∀ c,c ∈ r.chans→(0≤c.sent∧c.sent≤r.count)∧(0≤c.recv∧c.recv≤r.count)
 llen:(r.locks.length:Int)≤r.count
 lbd:∀ c,c ∈ r.locks→0≤c.readers∧c.readers≤r.count
 dlen:(r.done.length:Int)≤r.count
theorem Rel.new:Rel RSt.new TS.new :=
 ⟨rfl,rfl,fun _=>rfl,fun _ _=>rfl,fun _ _=>rfl,.none _ _,fun h=>absurd rfl h,(fun _ _ h=>by cases h),(by decide),(fun _ h=>by cases h),(by decide),(fun _ h=>by cases h),(by decide)⟩
theorem RelG.len {l:List RWt} {k:List Int} {a b:Int} (h:RelG l k a b):l.length≤3:=by cases h <;> simp
theorem RelG.kinds {l:List RWt} {k:List Int} {a b:Int} (h:RelG l k a b):k=l.map (·.kind):=by cases h <;> rfl
theorem Rel.ok {r:RSt} {t:TS} (h:Rel r t) (hw:t.wf):r.ok:=by
 have h1:=hw.ev;have h2:=hw.gr;have h3:=h.gp.len;have h4:=h.ct;have h5:=h.gr;have h6:=h.clen;have h7:=h.llen;have h8:=h.dlen;refine ⟨by omega,by omega,⟨by omega,fun c hc=>?_⟩,⟨by omega,fun c hc=>?_⟩,by omega,by omega⟩
 ·have:=h.cbd c hc;omega
 ·have:=h.lbd c hc;omega
theorem find_set {α:Type} (l:List α) (p q:α→Bool) (c:α) (hc:p c=true→∀ d,d ∈ l→p d=true→q d=false) (hn:p c=false→∀ d,d ∈ l→p d=true→q d=true) :
 (l.filter q ++ [c]).find? p=if p c=true then some c else l.find? p:=by
 rw [List.find?_append]
 cases hp:p c with
 | true =>
   have h1:(l.filter q).find? p=none:=by
    rw [List.find?_eq_none];intro x hx h2;obtain ⟨h3,h4⟩:=List.mem_filter.1 hx;rw [hc hp x h3 h2] at h4;cases h4
   simp [h1,hp]
 | false =>
   have h1:(l.filter q).find? p=l.find? p:=by
    have hn':=hn hp;clear hn hc
    induction l with
    | nil=>rfl
    | cons a l ih =>
      have ih':=ih (fun d hd=>hn' d (List.mem_cons_of_mem _ hd));rw [List.filter_cons,List.find?_cons]
      cases hpa:p a with
      | true=>rw [if_pos (hn' a List.mem_cons_self hpa),List.find?_cons,hpa]
      | false =>
        cases hq:q a with
        | true=>rw [if_pos rfl,List.find?_cons,hpa];exact ih'
        | false=>rw [if_neg (by decide)];exact ih'
   simp [h1,hp]
theorem find_setChannel (r:RSt) (c:RCh) (x:Int):(r.setChannel c).chans.find? (fun d=>d.obj == x)=if c.obj=x then some c else r.chans.find? (fun d=>d.obj == x):=by
 have:=find_set r.chans (fun d=>d.obj == x) (fun d=>d.obj != c.obj) c (fun h d _ h2=>by simp at h h2 ⊢;rw [h,h2]) (fun h d _ h2=>by simp at h h2 ⊢;rw [h2];exact fun h3=>h h3.symm)
 simpa [RSt.setChannel] using this
theorem find_setLock (r:RSt) (c:RLk) (x y:Int):(r.setLock c).locks.find? (fun d=>d.obj == x && d.off == y)=if c.obj=x∧c.off=y then some c else r.locks.find? (fun d=>d.obj == x && d.off == y):=by
 have:=find_set r.locks (fun d=>d.obj == x && d.off == y) (fun d=>d.obj != c.obj || d.off != c.off) c
  (fun h d _ h2=>by simp at h h2 ⊢;rw [h.1,h.2,h2.1,h2.2];exact ⟨rfl,rfl⟩)
  (fun h d _ h2=>by simp at h h2 ⊢;rw [h2.1,h2.2];by_cases h3:c.obj=x
                    ·right;exact fun h4=>h h3 h4.symm
                    ·left;exact fun h4=>h3 h4.symm)
 simpa [RSt.setLock] using this
theorem Rel.channel {r:RSt} {t:TS} (h:Rel r t) (e:Ev):(r.channel e.obj e.n).conv=t.chan e∧(r.channel e.obj e.n).obj=e.obj:=by
 unfold RSt.channel TS.chan;rw [h.ch]
 cases hf:r.chans.find? (fun c=>c.obj == e.obj) with
 | none=>exact ⟨rfl,rfl⟩
 | some c=>exact ⟨rfl,by have:=List.find?_some hf;simpa using this⟩
theorem Rel.lock {r:RSt} {t:TS} (h:Rel r t) (e:Ev):(r.lock e.obj e.off).conv=t.mu e∧(r.lock e.obj e.off).obj=e.obj∧(r.lock e.obj e.off).off=e.off:=by
 unfold RSt.lock TS.mu;rw [h.lk]
 cases hf:r.locks.find? (fun c=>c.obj == e.obj && c.off == e.off) with
 | none=>exact ⟨rfl,rfl,rfl⟩
 | some c=>exact ⟨rfl,by have:=List.find?_some hf;simp at this;exact this.1,by have:=List.find?_some hf;simp at this;exact this.2⟩
theorem Rel.channel_bd {r:RSt} {t:TS} (h:Rel r t) (hc:0≤r.count) (obj n:Int):(0≤(r.channel obj n).sent∧(r.channel obj n).sent≤r.count)∧(0≤(r.channel obj n).recv∧(r.channel obj n).recv≤r.count):=by
 unfold RSt.channel
 cases hf:r.chans.find? (fun c=>c.obj == obj) with
 | none=>simp [hc]
 | some c=>exact h.cbd c (List.mem_of_find?_eq_some hf)
theorem Rel.lock_bd {r:RSt} {t:TS} (h:Rel r t) (hc:0≤r.count) (obj off:Int):0≤(r.lock obj off).readers∧(r.lock obj off).readers≤r.count:=by
 unfold RSt.lock
 cases hf:r.locks.find? (fun c=>c.obj == obj && c.off == off) with
 | none=>simp [hc]
 | some c=>exact h.lbd c (List.mem_of_find?_eq_some hf)
theorem RelG.nil_asks {l:List RWt} {k:List Int} {a b:Int} (h:RelG l k a b) (hl:l=[]):asks k=0:=by subst hl;cases h;rfl
theorem Rel.put {r:RSt} {t:TS} (h:Rel r t) (c:RCh) (hs:0≤c.sent∧c.sent≤r.count+1) (hr:0≤c.recv∧c.recv≤r.count+1) (nx:List RWt) (ob kk nn:Int) (o:Grp) (hg:RelG nx o.kinds o.snd o.rcv)
 (ho:nx≠[]→o.obj=ob∧o.k=kk∧o.n=nn∧ob=c.obj) (hb:c.recv≤c.sent+asks o.kinds) (hold:∀ x d,x≠c.obj→t.chans x=some d→d.recv≤d.sent) :
 Rel { r.setChannel c with next:=nx,obj:=ob,k:=kk,n:=nn,count:=r.count+1 } { t with chans:=upd t.chans c.obj c.conv,grp:=o,events:=t.events+1 }:=by
 refine ⟨by simp only [h.ct],h.gr,fun x=>?_,h.lk,h.dn,hg,fun hne=>?_,fun x d hd=>?_,?_,fun d hd=>?_,?_,fun d hd=>?_,?_⟩
 ·have h1:=find_setChannel r c x;dsimp only;rw [h1]
  by_cases hx:c.obj=x
  ·subst hx;rw [upd_same,if_pos rfl];rfl
  ·rw [upd_other _ _ (fun h2=>hx h2.symm),if_neg hx,h.ch]
 ·obtain ⟨h1,h2,h3,h4⟩:=ho hne;exact ⟨h1,h2,h3,by dsimp only;rw [h4,upd_same];rfl⟩
 ·dsimp only at hd ⊢
  by_cases hx:x=c.obj
  ·subst hx;rw [upd_same] at hd;cases hd
   by_cases hn:nx=[]
   ·rw [hg.nil_asks hn] at hb ⊢
    show c.recv≤c.sent+_
    split <;> omega
   ·rw [if_pos (ho hn).2.2.2.symm];exact hb
  ·rw [upd_other _ _ hx] at hd;have:=hold x d hx hd
   by_cases hn:nx=[]
   ·rw [hg.nil_asks hn];split <;> omega
   ·rw [if_neg (fun h2=>hx (h2.trans (ho hn).2.2.2))];omega
 ·have h1:=List.length_filter_le (fun d:RCh=>d.obj != c.obj) r.chans;have h2:=h.clen;simp only [RSt.setChannel,List.length_append,List.length_cons,List.length_nil];omega
 ·simp only [RSt.setChannel,List.mem_append,List.mem_filter,List.mem_singleton] at hd
  rcases hd with ⟨hd,_⟩ | rfl
  ·have:=h.cbd d hd;dsimp only;omega
  ·dsimp only;omega
 ·have:=h.llen;dsimp only [RSt.setChannel];omega
 ·have:=h.lbd d hd;dsimp only [RSt.setChannel];omega
 ·have:=h.dlen;dsimp only [RSt.setChannel];omega
theorem Rel.keep {r:RSt} {t:TS} (h:Rel r t) (nx:List RWt) (o:Grp) (hg:RelG nx o.kinds o.snd o.rcv) (ho:nx≠[]→o.obj=r.obj∧o.k=r.k∧o.n=r.n∧(t.chans r.obj).isSome=true) (ha:asks o.kinds=asks t.grp.kinds) :
 Rel { r with next:=nx,count:=r.count+1 } { t with grp:=o,events:=t.events+1 }:=by
 refine ⟨by simp only [h.ct],h.gr,h.ch,h.lk,h.dn,hg,ho,fun x d hd=>?_,?_,fun d hd=>?_,?_,fun d hd=>?_,?_⟩
 ·dsimp only;rw [ha];exact h.bal x d hd
 ·have:=h.clen;dsimp only;omega
 ·have:=h.cbd d hd;dsimp only;omega
 ·have:=h.llen;dsimp only;omega
 ·have:=h.lbd d hd;dsimp only;omega
 ·have:=h.dlen;dsimp only;omega
theorem Rel.putLock {r:RSt} {t:TS} (h:Rel r t) (c:RLk) (hr:0≤c.readers∧c.readers≤r.count+1) :
 Rel { r.setLock c with count:=r.count+1 } { t with mus:=upd t.mus (c.obj,c.off) c.conv,events:=t.events+1 }:=by
 refine ⟨by simp only [h.ct],h.gr,h.ch,fun x y=>?_,h.dn,h.gp,h.go,h.bal,?_,fun d hd=>?_,?_,fun d hd=>?_,?_⟩
 ·have h1:=find_setLock r c x y;dsimp only;rw [h1]
  by_cases hx:c.obj=x∧c.off=y
  ·obtain ⟨rfl,rfl⟩:=hx;rw [upd_same,if_pos ⟨rfl,rfl⟩];rfl
  ·rw [upd_other _ _ (fun h2=>hx (by cases h2;exact ⟨rfl,rfl⟩)),if_neg hx,h.lk]
 ·have:=h.clen;dsimp only [RSt.setLock];omega
 ·have:=h.cbd d hd;dsimp only [RSt.setLock];omega
 ·have h1:=List.length_filter_le (fun d:RLk=>d.obj != c.obj || d.off != c.off) r.locks;have h2:=h.llen;simp only [RSt.setLock,List.length_append,List.length_cons,List.length_nil];omega
 ·simp only [RSt.setLock,List.mem_append,List.mem_filter,List.mem_singleton] at hd
  rcases hd with ⟨hd,_⟩ | rfl
  ·have:=h.lbd d hd;dsimp only;omega
  ·dsimp only;omega
 ·have:=h.dlen;dsimp only [RSt.setLock];omega
def Ans (p:RSt×Bool) (o:Option TS):Prop:=match o with
 | some t'=>p.2=true∧Rel { p.1 with count:=p.1.count+1 } { t' with events:=t'.events+1 }
 | none=>p.2=false
theorem Rel.other {r:RSt} {t:TS} (h:Rel r t) (hc:0≤r.count) (e:Ev) (hn:r.next=[]):Ans (r.otherR e) (t.simple e):=by
 obtain ⟨hm,ho,hf⟩:=h.lock e;have hb:=h.lock_bd hc e.obj e.off;have hd:=h.dn e.obj e.off;unfold RSt.otherR TS.simple;rw [←hm,hd];clear hm;generalize r.lock e.obj e.off=m at ho hf hb ⊢;obtain ⟨mo,mf,ml,mr⟩:=m;dsimp only [RLk.conv] at ho hf hb ⊢;subst ho;subst hf
 have same:Rel { r with count:=r.count+1 } { t with events:=t.events+1 }:=Rel.keep h r.next t.grp h.gp h.go rfl
 by_cases k6:e.kind=6
 ·rw [if_pos k6,if_pos k6]
  by_cases hl:ml=true∨0 < mr
  ·rw [if_pos hl]
   show (!ml && mr == 0)=false
   rcases hl with rfl | hl
   ·rfl
   ·rw [beq_eq_false_iff_ne.2 (by omega),Bool.and_false]
  ·rw [if_neg hl];have h1:ml=false:=by cases ml <;> simp at hl ⊢
   have h2:mr=0:=by omega
   subst h1;subst h2;exact ⟨rfl,Rel.putLock h ⟨e.obj,e.off,true,0⟩ ⟨by dsimp only;omega,by dsimp only;omega⟩⟩
 rw [if_neg k6,if_neg k6]
 by_cases k7:e.kind=7
 ·rw [if_pos k7,if_pos k7]
  cases ml with
  | false=>rw [if_pos rfl];rfl
  | true=>rw [if_neg (by decide)];exact ⟨rfl,Rel.putLock h ⟨e.obj,e.off,false,mr⟩ ⟨hb.1,by dsimp only;omega⟩⟩
 rw [if_neg k7,if_neg k7]
 by_cases k8:e.kind=8
 ·rw [if_pos k8,if_pos k8]
  cases ml with
  | true=>rw [if_pos rfl];rfl
  | false=>rw [if_neg (by decide)];exact ⟨rfl,Rel.putLock h ⟨e.obj,e.off,false,mr+1⟩ ⟨by dsimp only;omega,by dsimp only;omega⟩⟩
 rw [if_neg k8,if_neg k8]
 by_cases k9:e.kind=9
 ·rw [if_pos k9,if_pos k9]
  by_cases hl:mr=0
  ·rw [if_pos hl];subst hl;rfl
  ·rw [if_neg hl];exact ⟨decide_eq_true (show 0≤mr - 1 by omega),Rel.putLock h ⟨e.obj,e.off,ml,mr - 1⟩ ⟨by dsimp only;omega,by dsimp only;omega⟩⟩
 rw [if_neg k9,if_neg k9]
 by_cases k12:e.kind=12
 ·rw [if_pos k12,if_pos k12]
  cases hdo:r.isDone e.obj e.off with
  | true=>rw [if_pos rfl];rfl
  | false =>
    rw [if_neg (by decide)];refine ⟨rfl,by simp only [h.ct],h.gr,h.ch,h.lk,fun x y=>?_,h.gp,h.go,h.bal,?_,fun d hd=>?_,?_,fun d hd=>?_,?_⟩
    ·unfold RSt.isDone;dsimp only;rw [List.any_append]
     by_cases hx:(x,y)=(e.obj,e.off)
     ·cases hx;rw [upd_same];simp
     ·rw [upd_other _ _ hx,h.dn]
      have:((e.obj == x) && (e.off == y))=false:=by
       rw [Bool.eq_false_iff];intro h2;simp only [Bool.and_eq_true,beq_iff_eq] at h2;exact hx (by rw [h2.1,h2.2])
      unfold RSt.isDone;simp [this]
    ·have:=h.clen;dsimp only;omega
    ·have:=h.cbd d hd;dsimp only;omega
    ·have:=h.llen;dsimp only;omega
    ·have:=h.lbd d hd;dsimp only;omega
    ·have:=h.dlen;simp only [List.length_append,List.length_cons,List.length_nil];omega
 rw [if_neg k12,if_neg k12]
 by_cases k13:e.kind=13
 ·rw [if_pos k13,if_pos k13]
  cases hdo:r.isDone e.obj e.off with
  | true=>rw [if_pos rfl];exact ⟨rfl,same⟩
  | false=>rw [if_neg (by decide)];rfl
 rw [if_neg k13,if_neg k13]
 by_cases k14:e.kind=14
 ·rw [if_pos k14,if_pos k14,h.gr]
  by_cases hk:e.k=t.gor
  ·rw [if_neg (fun h=>h hk)];refine ⟨beq_iff_eq.2 hk,by simp only [h.ct],?_,h.ch,h.lk,h.dn,h.gp,h.go,h.bal,?_,fun d hd=>?_,?_,fun d hd=>?_,?_⟩
   ·rfl
   ·have:=h.clen;dsimp only;omega
   ·have:=h.cbd d hd;dsimp only;omega
   ·have:=h.llen;dsimp only;omega
   ·have:=h.lbd d hd;dsimp only;omega
   ·have:=h.dlen;dsimp only;omega
  ·rw [if_pos hk];exact beq_eq_false_iff_ne.2 hk
 rw [if_neg k14,if_neg k14];exact ⟨rfl,same⟩
theorem fits_eq {r:RSt} {o:Grp} {w:RWt} {l:List RWt} {e:Ev} (hg:RelG (w :: l) o.kinds o.snd o.rcv) (h1:o.obj=r.obj) (h2:o.k=r.k) (h3:o.n=r.n):r.fits w e=o.fits e:=by
 obtain ⟨kinds,ob,k,n,snd,rcv⟩:=o;dsimp only at hg h1 h2 h3;subst h1;subst h2;subst h3;rw [Bool.eq_iff_iff];unfold RSt.fits Grp.fits Grp.own Grp.other sendsB;cases hg <;> (by_cases hk:e.kind=15∨e.kind=16) <;> simp [hk] <;> omega
theorem RelG.inv {w:RWt} {l:List RWt} {k:List Int} {a b:Int} (h:RelG (w :: l) k a b) :
 (w=⟨16,a,0⟩∧l=[]∧k=[16]∧0≤a)∨(w=⟨18,b,0⟩∧l=[]∧k=[18]∧0≤b)∨(w=⟨17, -1,a⟩∧l=[⟨18, -1,0⟩,⟨16,a,0⟩]∧k=[17,18,16]∧0≤a) ∨
 (w=⟨15, -1,b⟩∧l=[⟨18,b,0⟩,⟨16, -1,0⟩]∧k=[15,18,16]∧0≤b)∨(w=⟨18,b,0⟩∧l=[⟨16,a,0⟩]∧k=[18,16]∧0≤a∧0≤b):=by
 cases h with
 | snd g b h=>exact .inl ⟨rfl,rfl,rfl,h⟩
 | rcv a g h=>exact .inr (.inl ⟨rfl,rfl,rfl,h⟩)
 | wait g h=>exact .inr (.inr (.inl ⟨rfl,rfl,rfl,h⟩))
 | ask g h=>exact .inr (.inr (.inr (.inl ⟨rfl,rfl,rfl,h⟩)))
 | both a b h k=>exact .inr (.inr (.inr (.inr ⟨rfl,rfl,rfl,h,k⟩)))
theorem upd_id {κ:Type} [DecidableEq κ] {α:Type} {f:κ→Option α} {x:κ} {v:α} (h:f x=some v):upd f x v=f:=by
 funext y
 by_cases hy:y=x
 ·subst hy;rw [upd_same,h]
 ·rw [upd_other _ _ hy]
theorem TS.count_id {t:TS} {e:Ev} {c:Ch} (h:t.chans e.obj=some c) (h5:e.kind≠15) (h7:e.kind≠17):t.count e=t:=by
 unfold TS.count Ch.count;rw [h,Option.getD_some,if_neg h5,if_neg h7,upd_id h]
theorem Rel.group {r:RSt} {t:TS} (h:Rel r t) (e:Ev) (hv:0≤e.g) (hc:0≤r.count) (hn:r.next≠[]):Ans (r.groupR e) (t.proceed e):=by
 obtain ⟨h1,h2,h3,h4⟩:=h.go hn;obtain ⟨c,hc4⟩:=Option.isSome_iff_exists.1 h4;have hgp:=h.gp;unfold RSt.groupR TS.proceed
 cases hnx:r.next with
 | nil=>exact absurd hnx hn
 | cons w l =>
   rw [hnx] at hgp;dsimp only;rw [fits_eq hgp h1 h2 h3]
   cases hf:t.grp.fits e with
   | false=>rw [if_neg (by decide),if_neg (by decide)];rfl
   | true =>
     rw [if_pos rfl,if_pos rfl];have hfit:=hf;unfold Grp.fits at hfit;simp only [Bool.and_eq_true,decide_eq_true_eq,Bool.not_eq_true',Bool.or_eq_false_iff,decide_eq_false_iff_not] at hfit;obtain ⟨⟨f1,f2,f3,f4⟩,f5,f6⟩:=hfit;have hbal:=h.bal;have hob:e.obj=r.obj:=f2.trans h1;have hc5:t.chans e.obj=some c:=by rw [hob];exact hc4
     -- the channel of the group
     have hch:(r.channel e.obj e.n).conv=c∧(r.channel e.obj e.n).obj=e.obj:=by
      have h5:=h.channel e;unfold TS.chan at h5;rw [hc5] at h5;exact h5
     have hbd:=h.channel_bd hc e.obj e.n;generalize hd:r.channel e.obj e.n=d at hch hbd;obtain ⟨hcd,hdo⟩:=hch;refine ⟨rfl,?_⟩;dsimp only;unfold RSt.counted
     rcases hgp.inv with ⟨rfl,rfl,hk,g0⟩ | ⟨rfl,rfl,hk,g0⟩ | ⟨rfl,rfl,hk,g0⟩ | ⟨rfl,rfl,hk,g0⟩ | ⟨rfl,rfl,hk,g0,g1⟩
     ·have hek:e.kind=16:=by rw [f1,hk];rfl
      have hgn:t.grp.next e={ t.grp with kinds:=[],snd:=e.g }:=by unfold Grp.next sendsB;rw [if_pos (by simp [hek]),hk];rfl
      rw [if_neg (by omega),TS.count_id hc5 (by omega) (by omega),hgn];exact Rel.keep h [] _ (.none _ _) (fun h=>absurd rfl h) (by rw [hk];rfl)
     ·have hek:e.kind=18:=by rw [f1,hk];rfl
      have hgn:t.grp.next e={ t.grp with kinds:=[],rcv:=e.g }:=by unfold Grp.next sendsB;rw [if_neg (by simp [hek]),hk];rfl
      rw [if_neg (by omega),TS.count_id hc5 (by omega) (by omega),hgn];exact Rel.keep h [] _ (.none _ _) (fun h=>absurd rfl h) (by rw [hk];rfl)
     ·have hek:e.kind=17:=by rw [f1,hk];rfl
      have hgn:t.grp.next e={ t.grp with kinds:=[18,16],rcv:=e.g }:=by unfold Grp.next sendsB;rw [if_neg (by simp [hek]),hk];rfl
      have hb:=hbal _ _ hc4;rw [if_pos rfl,hk] at hb;rw [if_pos (.inr hek),hgn];have hb':c.recv≤c.sent+(-1):=hb
      have:=Rel.put h { d with recv:=d.recv+1 } (by dsimp only;omega) (by dsimp only;omega) [⟨18,e.g,0⟩,⟨16,t.grp.snd,0⟩] r.obj r.k r.n { t.grp with kinds:=[18,16],rcv:=e.g } (.both _ _ g0 hv)
       (fun _=>⟨h1,h2,h3,by show r.obj=d.obj;rw [hdo,hob]⟩) (by rw [←hcd] at hb';show d.recv+1≤d.sent+0;unfold RCh.conv at hb';dsimp only at hb';omega)
       (fun x y hx hy=>by have h6:=hbal x y hy;rw [if_neg (fun h7=>hx (by show x=d.obj;rw [h7,hdo,hob]))] at h6;omega)
      have hd2:RSt.channel { r with next:=List.map ((⟨17, -1,t.grp.snd⟩:RWt).known e.g) [⟨18, -1,0⟩,⟨16,t.grp.snd,0⟩] } e.obj e.n=d:=hd
      have hnx2:List.map ((⟨17, -1,t.grp.snd⟩:RWt).known e.g) [⟨18, -1,0⟩,⟨16,t.grp.snd,0⟩]=[⟨18,e.g,0⟩,⟨16,t.grp.snd,0⟩]:=by
       simp only [List.map_cons,List.map_nil,RWt.known];rw [if_pos (by decide),if_neg (fun h=>by omega)]
      have ht:t.count e={ t with chans:=upd t.chans d.obj ({ d with recv:=d.recv+1 }:RCh).conv }:=by
       unfold TS.count Ch.count;rw [hc5,hek,hdo,Option.getD_some,if_neg (by decide),if_pos rfl,←hcd];rfl
      rw [hd2,hnx2,ht];unfold RCh.count;rw [if_neg (by omega),if_pos hek];exact this
     ·have hek:e.kind=15:=by rw [f1,hk];rfl
      have hgn:t.grp.next e={ t.grp with kinds:=[18,16],snd:=e.g }:=by unfold Grp.next sendsB;rw [if_pos (by simp [hek]),hk];rfl
      have hb:=hbal _ _ hc4;rw [if_pos rfl,hk] at hb;rw [if_pos (.inl hek),hgn];have hb':c.recv≤c.sent+1:=hb
      have:=Rel.put h { d with sent:=d.sent+1 } (by dsimp only;omega) (by dsimp only;omega) [⟨18,t.grp.rcv,0⟩,⟨16,e.g,0⟩] r.obj r.k r.n { t.grp with kinds:=[18,16],snd:=e.g } (.both _ _ hv g0)
       (fun _=>⟨h1,h2,h3,by show r.obj=d.obj;rw [hdo,hob]⟩) (by rw [←hcd] at hb';show d.recv≤d.sent+1+0;unfold RCh.conv at hb';dsimp only at hb';omega)
       (fun x y hx hy=>by have h6:=hbal x y hy;rw [if_neg (fun h7=>hx (by show x=d.obj;rw [h7,hdo,hob]))] at h6;omega)
      have hd2:RSt.channel { r with next:=List.map ((⟨15, -1,t.grp.rcv⟩:RWt).known e.g) [⟨18,t.grp.rcv,0⟩,⟨16, -1,0⟩] } e.obj e.n=d:=hd
      have hnx2:List.map ((⟨15, -1,t.grp.rcv⟩:RWt).known e.g) [⟨18,t.grp.rcv,0⟩,⟨16, -1,0⟩]=[⟨18,t.grp.rcv,0⟩,⟨16,e.g,0⟩]:=by
       simp only [List.map_cons,List.map_nil,RWt.known];rw [if_neg (fun h=>by omega),if_pos (by decide)]
      have ht:t.count e={ t with chans:=upd t.chans d.obj ({ d with sent:=d.sent+1 }:RCh).conv }:=by
       unfold TS.count Ch.count;rw [hc5,hek,hdo,Option.getD_some,if_pos rfl,←hcd];rfl
      rw [hd2,hnx2,ht];unfold RCh.count;rw [if_pos hek];exact this
     ·have hek:e.kind=18:=by rw [f1,hk];rfl
      have hgn:t.grp.next e={ t.grp with kinds:=[16],rcv:=e.g }:=by unfold Grp.next sendsB;rw [if_neg (by simp [hek]),hk];rfl
      rw [if_neg (by omega),TS.count_id hc5 (by omega) (by omega),hgn]
      have hnx2:List.map ((⟨18,t.grp.rcv,0⟩:RWt).known e.g) [⟨16,t.grp.snd,0⟩]=[⟨16,t.grp.snd,0⟩]:=by
       simp only [List.map_cons,List.map_nil,RWt.known];rw [if_neg (fun h=>by omega)]
      rw [hnx2]
      exact Rel.keep h [⟨16,t.grp.snd,0⟩] { t.grp with kinds:=[16],rcv:=e.g } (.snd _ _ g0) (fun _=>⟨h1,h2,h3,h4⟩) (by rw [hk];rfl)
theorem set_count (r:RSt) (c:RCh):(r.setChannel c).count=r.count:=rfl
theorem Rel.transfer {r:RSt} {t:TS} (h:Rel r t) (e:Ev) (hv:0≤e.g) (hc:0≤r.count) (hgor:1≤r.gor) (hn:r.next=[]):Ans (r.transferR e) (t.operate e):=by
 obtain ⟨hm,ho⟩:=h.channel e;have hb:=h.channel_bd hc e.obj e.n;have hgr:=h.gr
 have hbal:∀ x c,t.chans x=some c→c.recv≤c.sent:=fun x c hx=>by
  have h1:=h.bal x c hx;have h2:=h.gp.nil_asks hn;rw [h2] at h1;split at h1 <;> omega
 have hbc:(r.channel e.obj e.n).recv≤(r.channel e.obj e.n).sent:=by
  have h1:=hm;unfold TS.chan at h1
  cases hc:t.chans e.obj with
  | none=>rw [hc] at h1;have h2:=congrArg Ch.recv h1;have h3:=congrArg Ch.sent h1;dsimp only [RCh.conv,ch0] at h2 h3;omega
  | some c=>rw [hc] at h1;have h4:=hbal _ _ hc;have h2:=congrArg Ch.recv h1;have h3:=congrArg Ch.sent h1;dsimp only [RCh.conv] at h2 h3;omega
 have hbegin:∀ (nx:List RWt),RSt.begin r e nx=if e.kind=15∨e.kind=17 then ({ r.setChannel ((r.channel e.obj e.n).count e.kind) with next:=nx,obj:=e.obj,k:=e.k,n:=e.n }:RSt) else { r with next:=nx,obj:=e.obj,k:=e.k,n:=e.n }:=fun nx=>by
  unfold RSt.begin RSt.counted;split <;> rfl
 unfold RSt.transferR TS.operate;simp only [hbegin];rw [←hm];clear hm hbegin;generalize r.channel e.obj e.n=d at ho hb hbc ⊢;dsimp only [RCh.conv,Ch.missing,TS.start]
 have put:∀ (c:RCh) (nx:List RWt) (o:Grp),c.obj=d.obj→(0≤c.sent∧c.sent≤r.count+1)→(0≤c.recv∧c.recv≤r.count+1)→RelG nx o.kinds o.snd o.rcv→(o.obj=e.obj∧o.k=e.k∧o.n=e.n)→c.recv≤c.sent+asks o.kinds →
  Rel { r.setChannel c with next:=nx,obj:=e.obj,k:=e.k,n:=e.n,count:=r.count+1 } { t with chans:=upd t.chans e.obj c.conv,grp:=o,events:=t.events+1 }:=fun c nx o h1 h2 h3 h4 h5 h6=>by
  have:=Rel.put h c h2 h3 nx e.obj e.k e.n o h4 (fun _=>⟨h5.1,h5.2.1,h5.2.2,by rw [h1,ho]⟩) h6 (fun x y _ hy=>hbal x y hy);rw [show c.obj=e.obj by rw [h1,ho]] at this;exact this
 by_cases q1:d.n=e.n
 case neg=>simp only [q1,ne_eq,not_true_eq_false,not_false_eq_true,if_true,if_false,reduceIte,Int.reduceEq,true_or,or_true,false_or,or_false,or_self,true_and,and_true,false_and,and_false,and_self,Option.map_some,Option.map_none,Bool.false_eq_true,reduceCtorEq,decide_eq_false_iff_not,Bool.true_and,Bool.false_and,Bool.true_eq_false];rfl
 simp only [q1,ne_eq,not_true_eq_false,not_false_eq_true,if_true,if_false,reduceIte,Int.reduceEq,true_or,or_true,false_or,or_false,or_self,true_and,and_true,false_and,and_false,and_self,Option.map_some,Option.map_none,Bool.false_eq_true,reduceCtorEq,decide_eq_false_iff_not,Bool.true_and,Bool.false_and,Bool.true_eq_false]
 by_cases k15:e.kind=15
 ·simp only [k15,ne_eq,not_true_eq_false,not_false_eq_true,if_true,if_false,reduceIte,Int.reduceEq,true_or,or_true,false_or,or_false,or_self,true_and,and_true,false_and,and_false,and_self,Option.map_some,Option.map_none,Bool.false_eq_true,reduceCtorEq,decide_eq_false_iff_not,Bool.true_and,Bool.false_and,Bool.true_eq_false,RCh.count,Ch.count]
  by_cases q2:e.k=d.sent
  case neg=>simp only [q2,ne_eq,not_true_eq_false,not_false_eq_true,if_true,if_false,reduceIte,Int.reduceEq,true_or,or_true,false_or,or_false,or_self,true_and,and_true,false_and,and_false,and_self,Option.map_some,Option.map_none,Bool.false_eq_true,reduceCtorEq,decide_eq_false_iff_not,Bool.true_and,Bool.false_and,Bool.true_eq_false];rfl
  simp only [q2,ne_eq,not_true_eq_false,not_false_eq_true,if_true,if_false,reduceIte,Int.reduceEq,true_or,or_true,false_or,or_false,or_self,true_and,and_true,false_and,and_false,and_self,Option.map_some,Option.map_none,Bool.false_eq_true,reduceCtorEq,decide_eq_false_iff_not,Bool.true_and,Bool.false_and,Bool.true_eq_false]
  cases q3:d.closed with
  | true=>simp only [ne_eq,not_true_eq_false,not_false_eq_true,if_true,if_false,reduceIte,Int.reduceEq,true_or,or_true,false_or,or_false,or_self,true_and,and_true,false_and,and_false,and_self,Option.map_some,Option.map_none,Bool.false_eq_true,reduceCtorEq,decide_eq_false_iff_not,Bool.true_and,Bool.false_and,Bool.true_eq_false];rfl
  | false =>
    simp only [ne_eq,not_true_eq_false,not_false_eq_true,if_true,if_false,reduceIte,Int.reduceEq,true_or,or_true,false_or,or_false,or_self,true_and,and_true,false_and,and_false,and_self,Option.map_some,Option.map_none,Bool.false_eq_true,reduceCtorEq,decide_eq_false_iff_not,Bool.true_and,Bool.false_and,Bool.true_eq_false]
    by_cases q4:d.sent - d.recv < e.n
    ·rw [if_pos ⟨by omega,q4⟩,if_pos q4];refine ⟨rfl,?_⟩
     have:=put { d with sent:=d.sent+1 } [⟨16,e.g,0⟩] ⟨[16],e.obj,e.k,e.n,e.g, -1⟩ rfl (by dsimp only;omega) (by dsimp only;omega) (.snd _ _ hv) ⟨rfl,rfl,rfl⟩ (by show d.recv≤d.sent+1+0;omega)
     simpa only [RCh.conv,set_count,q1,q2,q3] using this
    ·rw [if_neg (fun h=>q4 h.2),if_neg q4]
     by_cases q5:e.n=0∧¬ t.gor=1
     ·rw [if_pos ⟨q5.1,by omega⟩,if_pos q5];refine ⟨rfl,?_⟩
      have:=put { d with sent:=d.sent+1 } [⟨17, -1,e.g⟩,⟨18, -1,0⟩,⟨16,e.g,0⟩] ⟨[17,18,16],e.obj,e.k,e.n,e.g, -1⟩ rfl (by dsimp only;omega) (by dsimp only;omega) (.wait _ hv) ⟨rfl,rfl,rfl⟩ (by show d.recv≤d.sent+1+(-1);omega)
      simpa only [RCh.conv,set_count,q1,q2,q3] using this
     ·rw [if_neg (fun h=>q5 ⟨h.1,by omega⟩),if_neg q5];rfl
 simp only [k15,ne_eq,not_true_eq_false,not_false_eq_true,if_true,if_false,reduceIte,Int.reduceEq,true_or,or_true,false_or,or_false,or_self,true_and,and_true,false_and,and_false,and_self,Option.map_some,Option.map_none,Bool.false_eq_true,reduceCtorEq,decide_eq_false_iff_not,Bool.true_and,Bool.false_and,Bool.true_eq_false]
 by_cases k17:e.kind=17
 ·simp only [k17,ne_eq,not_true_eq_false,not_false_eq_true,if_true,if_false,reduceIte,Int.reduceEq,true_or,or_true,false_or,or_false,or_self,true_and,and_true,false_and,and_false,and_self,Option.map_some,Option.map_none,Bool.false_eq_true,reduceCtorEq,decide_eq_false_iff_not,Bool.true_and,Bool.false_and,Bool.true_eq_false,RCh.count,Ch.count]
  by_cases q2:e.k=d.recv
  case neg=>simp only [q2,ne_eq,not_true_eq_false,not_false_eq_true,if_true,if_false,reduceIte,Int.reduceEq,true_or,or_true,false_or,or_false,or_self,true_and,and_true,false_and,and_false,and_self,Option.map_some,Option.map_none,Bool.false_eq_true,reduceCtorEq,decide_eq_false_iff_not,Bool.true_and,Bool.false_and,Bool.true_eq_false];rfl
  simp only [q2,ne_eq,not_true_eq_false,not_false_eq_true,if_true,if_false,reduceIte,Int.reduceEq,true_or,or_true,false_or,or_false,or_self,true_and,and_true,false_and,and_false,and_self,Option.map_some,Option.map_none,Bool.false_eq_true,reduceCtorEq,decide_eq_false_iff_not,Bool.true_and,Bool.false_and,Bool.true_eq_false]
  by_cases q4:d.recv < d.sent
  ·rw [if_pos q4,if_pos q4];refine ⟨rfl,?_⟩
   have:=put { d with recv:=d.recv+1 } [⟨18,e.g,0⟩] ⟨[18],e.obj,e.k,e.n, -1,e.g⟩ rfl (by dsimp only;omega) (by dsimp only;omega) (.rcv _ _ hv) ⟨rfl,rfl,rfl⟩ (by show d.recv+1≤d.sent+0;omega)
   simpa only [RCh.conv,set_count,q1,q2] using this
  ·rw [if_neg q4,if_neg q4]
   by_cases q5:d.closed=false∧¬ t.gor=1
   ·rw [if_pos ⟨q5.1,by omega⟩,if_pos q5];refine ⟨rfl,?_⟩
    have:=put { d with recv:=d.recv+1 } [⟨15, -1,e.g⟩,⟨18,e.g,0⟩,⟨16, -1,0⟩] ⟨[15,18,16],e.obj,e.k,e.n, -1,e.g⟩ rfl (by dsimp only;omega) (by dsimp only;omega) (.ask _ hv) ⟨rfl,rfl,rfl⟩ (by show d.recv+1≤d.sent+1;omega)
    simpa only [RCh.conv,set_count,q1,q2] using this
   ·rw [if_neg (fun h=>q5 ⟨h.1,by omega⟩),if_neg q5];rfl
 simp only [k17,ne_eq,not_true_eq_false,not_false_eq_true,if_true,if_false,reduceIte,Int.reduceEq,true_or,or_true,false_or,or_false,or_self,true_and,and_true,false_and,and_false,and_self,Option.map_some,Option.map_none,Bool.false_eq_true,reduceCtorEq,decide_eq_false_iff_not,Bool.true_and,Bool.false_and,Bool.true_eq_false]
 by_cases k19:e.kind=19
 ·simp only [k19,ne_eq,not_true_eq_false,not_false_eq_true,if_true,if_false,reduceIte,Int.reduceEq,true_or,or_true,false_or,or_false,or_self,true_and,and_true,false_and,and_false,and_self,Option.map_some,Option.map_none,Bool.false_eq_true,reduceCtorEq,decide_eq_false_iff_not,Bool.true_and,Bool.false_and,Bool.true_eq_false]
  cases q3:d.closed with
  | true=>simp only [ne_eq,not_true_eq_false,not_false_eq_true,if_true,if_false,reduceIte,Int.reduceEq,true_or,or_true,false_or,or_false,or_self,true_and,and_true,false_and,and_false,and_self,Option.map_some,Option.map_none,Bool.false_eq_true,reduceCtorEq,decide_eq_false_iff_not,Bool.true_and,Bool.false_and,Bool.true_eq_false];rfl
  | false =>
    simp only [ne_eq,not_true_eq_false,not_false_eq_true,if_true,if_false,reduceIte,Int.reduceEq,true_or,or_true,false_or,or_false,or_self,true_and,and_true,false_and,and_false,and_self,Option.map_some,Option.map_none,Bool.false_eq_true,reduceCtorEq,decide_eq_false_iff_not,Bool.true_and,Bool.false_and,Bool.true_eq_false];refine ⟨rfl,?_⟩
    have h1:=Rel.put h { d with closed:=true } (by dsimp only;omega) (by dsimp only;omega) r.next r.obj r.k r.n t.grp h.gp (fun h2=>absurd hn h2) (by rw [h.gp.nil_asks hn];dsimp only;omega) (fun x y _ hy=>hbal x y hy)
    simp only [RCh.conv,q1,ho] at h1;rw [←q1,ho];rw [←q1] at h1;exact h1
 simp only [k19,ne_eq,not_true_eq_false,not_false_eq_true,if_true,if_false,reduceIte,Int.reduceEq,true_or,or_true,false_or,or_false,or_self,true_and,and_true,false_and,and_false,and_self,Option.map_some,Option.map_none,Bool.false_eq_true,reduceCtorEq,decide_eq_false_iff_not,Bool.true_and,Bool.false_and,Bool.true_eq_false]
 by_cases k20:e.kind=20
 ·simp only [k20,ne_eq,not_true_eq_false,not_false_eq_true,if_true,if_false,reduceIte,Int.reduceEq,true_or,or_true,false_or,or_false,or_self,true_and,and_true,false_and,and_false,and_self,Option.map_some,Option.map_none,Bool.false_eq_true,reduceCtorEq,decide_eq_false_iff_not,Bool.true_and,Bool.false_and,Bool.true_eq_false]
  show Ans (r,d.closed && d.sent == d.recv) (if d.closed=true∧d.sent=d.recv then some t else none)
  by_cases q4:d.closed=true∧d.sent=d.recv
  ·rw [if_pos q4];refine ⟨?_,Rel.keep h r.next t.grp h.gp h.go rfl⟩;dsimp only;rw [q4.1,beq_iff_eq.2 q4.2];rfl
  ·rw [if_neg q4]
   show (d.closed && d.sent == d.recv)=false
   rw [Bool.eq_false_iff];intro h1;simp only [Bool.and_eq_true,beq_iff_eq] at h1;exact q4 h1
 simp only [k20,ne_eq,not_true_eq_false,not_false_eq_true,if_true,if_false,reduceIte,Int.reduceEq,true_or,or_true,false_or,or_false,or_self,true_and,and_true,false_and,and_false,and_self,Option.map_some,Option.map_none,Bool.false_eq_true,reduceCtorEq,decide_eq_false_iff_not,Bool.true_and,Bool.false_and,Bool.true_eq_false];rfl
theorem Rel.step {r:RSt} {t:TS} (h:Rel r t) (hw:t.wf) (e:Ev):match t.add e with
 | some t'=>∃ r',r.addR e=(r',true)∧Rel r' t'
 | none=>r.addR e=(r,false):=by
 have had:r.admits e=t.admits e:=by unfold RSt.admits TS.admits;rw [h.ct,h.gr]
 unfold TS.add RSt.addR;rw [had]
 cases ha:t.admits e with
 | false=>simp
 | true =>
   have hv:e.valid=true:=by unfold TS.admits at ha;simp only [Bool.and_eq_true] at ha;exact ha.1.1
   have hg:=(Ev.valid_g hv).1;have hc:0≤r.count:=by rw [h.ct];exact hw.ev.1
   have hgr:1≤r.gor:=by rw [h.gr];exact hw.gr.1
   have hans:Ans (r.partR e) (t.part e):=by
    have hk:=h.gp.kinds
    by_cases hn:r.next=[]
    ·have h1:r.partR e=if chanB e.kind=true then r.transferR e else r.otherR e:=by unfold RSt.partR;rw [hn];exact if_neg (Nat.lt_irrefl 0)
     have h2:t.part e=if chanB e.kind=true then t.operate e else t.simple e:=by unfold TS.part TS.isOpen;rw [hk,hn];exact if_neg (by simp)
     rw [h1,h2]
     by_cases hch:chanB e.kind=true
     ·rw [if_pos hch,if_pos hch];exact h.transfer e hg hc hgr hn
     ·rw [if_neg hch,if_neg hch];exact h.other hc e hn
    ·have hpos:0 < r.next.length:=List.length_pos_iff.2 hn;have h1:r.partR e=r.groupR e:=by unfold RSt.partR;exact if_pos hpos
     have h2:t.part e=t.proceed e:=by unfold TS.part TS.isOpen;rw [hk,List.length_map];exact if_pos (decide_eq_true hpos)
     rw [h1,h2];exact h.group e hg hc hn
   rw [if_pos rfl];unfold Ans at hans
   cases hp:t.part e with
   | none =>
     rw [hp] at hans;rw [if_neg (by rw [hans];simp)]
     rfl
   | some t' =>
     rw [hp] at hans;rw [if_pos ⟨rfl,hans.1⟩];exact ⟨_,rfl,hans.2⟩
def RSt.aft (r:RSt):List Ev→RSt
 | []=>r
 | e :: l=>if (r.addR e).2=true then (r.addR e).1.aft l else r
structure RAt (l:List Ev) (k:Nat) (r:RSt) (t:TS):Prop where
 le:k≤l.length
 st:TS.new.steps (l.take k)=some t
 rl:Rel r t
 af:RSt.new.aft l=r.aft (l.drop k)
theorem RAt.zero (l:List Ev):RAt l 0 RSt.new TS.new:=⟨Nat.zero_le _,rfl,Rel.new,rfl⟩
theorem RAt.wf {l:List Ev} {k:Nat} {r:RSt} {t:TS} (h:RAt l k r t):t.wf:=TS.steps_wf TS.wf_new h.st
theorem RAt.ok {l:List Ev} {k:Nat} {r:RSt} {t:TS} (h:RAt l k r t):r.ok:=h.rl.ok h.wf
theorem RAt.step {l:List Ev} {k:Nat} {r:RSt} {t:TS} (h:RAt l k r t) {e:Ev} (he:l[k]? = some e) :
 (∃ r' t',r.addR e=(r',true)∧t.add e=some t'∧RAt l (k+1) r' t')∨(r.addR e=(r,false)∧chk l=k∧RSt.new.aft l=r):=by
 obtain ⟨hk,hx⟩:=List.getElem?_eq_some_iff.1 he;have hs:=h.rl.step h.wf e;have hd:l.drop k=e :: l.drop (k+1):=by rw [List.drop_eq_getElem_cons hk,hx]
 cases ha:t.add e with
 | some t' =>
   rw [ha] at hs;obtain ⟨r',h1,h2⟩:=hs;refine .inl ⟨r',t',h1,rfl,hk,?_,h2,?_⟩
   ·rw [TS.steps_take_succ hk,h.st,hx];exact ha
   ·rw [h.af,hd,RSt.aft,h1];rfl
 | none =>
   rw [ha] at hs;refine .inr ⟨hs,TS.chk_of h.le h.st (fun e' he'=>?_),?_⟩
   ·rw [he] at he';cases he';exact ha
   ·rw [h.af,hd,RSt.aft,hs];rfl
theorem RAt.all {l:List Ev} {r:RSt} {t:TS} (h:RAt l l.length r t):chk l=l.length∧RSt.new.aft l=r:=by
 refine ⟨TS.chk_of (Nat.le_refl _) h.st (fun e he=>?_),?_⟩
 ·rw [List.getElem?_eq_none (Nat.le_refl _)] at he;cases he
 ·rw [h.af,List.drop_length];rfl
theorem Rel.open_next {r:RSt} {t:TS} (h:Rel r t):t.isOpen=decide (0 < r.next.length):=by
 unfold TS.isOpen;rw [h.gp.kinds,List.length_map]
theorem RAt.whole {l:List Ev} {k:Nat} {r:RSt} {t:TS} (h:RAt l (k+1) r t):TS.new.wholeTo l (k+1)=if r.next.length=0 then k+1 else TS.new.wholeTo l k:=by
 simp only [TS.wholeTo,h.st];rw [h.rl.open_next]
 by_cases hn:r.next.length=0
 ·rw [if_pos hn,if_neg (by rw [hn];decide)]
 ·rw [if_neg hn,if_pos (decide_eq_true (by omega))]
end Go.Proofs.Ytffcpijeebagfaa
end
