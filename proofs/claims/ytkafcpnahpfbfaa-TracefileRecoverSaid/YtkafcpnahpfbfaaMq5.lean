/- The reference of chapter 20: Name, Valid, Channel. -/
import Derived.Test.YtkafcpnahpfbfaaMq4
import Derived.RangeFuncNested
import Derived.RangeFuncCalls
import Derived.RangeFuncWrites
import Derived.LoopIn
import Derived.DeepKeys5
import Derived.Maps.OwnSet
import Derived.Deep.Draws
import Derived.Below
set_option linter.unusedSimpArgs false
set_option linter.unusedVariables false
section
namespace Go.Proofs.Ytkafcpnahpfbfaa
open Go Go.RowKit
set_option maxRecDepth 100000
set_option maxHeartbeats 4000000
def jS:List ByteArray:=[⟨#[]⟩,⟨#[114,101,97,100]⟩,⟨#[119,114,105,116,101]⟩,⟨#[97,116,111,109,105,99,45,114,101,97,100]⟩,⟨#[97,116,111,109,105,99,45,119,114,105,116,101]⟩,⟨#[97,116,111,109,105,99,45,98,111,116,104]⟩,⟨#[108,111,99,107]⟩,⟨#[117,110,108,111,99,107]⟩,⟨#[114,108,111,99,107]⟩,⟨#[114,117,110,108,111,99,107]⟩,⟨#[100,111,110,101]⟩,⟨#[119,97,105,116]⟩,⟨#[111,110,99,101,45,101,110,100]⟩,⟨#[111,110,99,101,45,115,101,101,110]⟩,⟨#[103,111]⟩,⟨#[115,101,110,100,45,115,116,97,114,116]⟩,⟨#[115,101,110,100,45,101,110,100]⟩,⟨#[114,101,99,118,45,115,116,97,114,116]⟩,⟨#[114,101,99,118,45,101,110,100]⟩,⟨#[99,108,111,115,101]⟩,⟨#[114,101,99,118,45,99,108,111,115,101,100]⟩]
def N7 (ps rs:List Pa):Prop:=∃ k:Int,ps=[pI k]∧∃ s,rs=[.one (.sc (.string s))]∧s=(if k < 1∨20 < k then ⟨#[]⟩ else (jS[k.toNat]?).getD ⟨#[]⟩)
theorem Ux:Spec Try.prog 54 N7:=by
 refine sp54 aA.e0 ?_;rintro ps rs ⟨k,rfl,s,rfl,hs⟩;refine ⟨by simp,?_⟩;unfold pc54;refine aJ ?_
 by_cases h1:k < 1
 ·rw [if_pos (.inl h1)] at hs;subst hs;simp only [↓evP,evB,stB,reduceIte,reduceCtorEq,seval,h1,pr54]
 by_cases h2:k > 20
 ·rw [if_pos (.inr h2)] at hs;subst hs;simp only [↓evP,evB,stB,reduceIte,reduceCtorEq,seval,h1,h2,decide_true,decide_false,pr54]
 rw [if_neg (fun h=>h.elim h1 h2)] at hs;obtain ⟨m,rfl⟩:=Int.eq_ofNat_of_zero_le (show 0≤k by omega);obtain ⟨u,hu⟩:∃ u,jS[m]? = some u:=⟨_,List.getElem?_eq_getElem (by show m < 21;omega)⟩
 rw [Int.toNat_natCast,hu,Option.getD_some] at hs;subst hs;have hrow:(jS.map fun x=>[Dt.sc (.string x)])[m]? = some [.sc (.string s)]:=by rw [List.getElem?_map,hu];rfl
 unfold jS at hrow;simp only [List.map_cons,List.map_nil] at hrow;simp only [↓evP,evB,stB,reduceIte,reduceCtorEq,seval,h1,h2,decide_false,hrow,pr54]
def oC (ps rs:List Pa):Prop:=∃ e:Ev,ps=[e.pa]∧rs=[pB e.valid]
def dQ:Env:=e1 54 N7 e0
theorem uY:aA Try.prog dQ:=aA.e1 Ux aA.e0
theorem Fq {e:Ev} (hr:0≤e.k) (Q:Exit→St→Prop)
 (hQ:∀ st,st.res pr35=some [pB (decide (e.obj=0∧e.off=0∧e.n=0∧1≤e.k∧e.k < 8))]→Q .ret st) (st:St)
 (h1:st.sl 1=.b (.one (.ptr 1 1 0))) (g1:st.gen 1=1) (o1:st.ob 1=.cells (e.row.map .d)) :
 pwp dQ pc35c1 (exS dQ [It.bl 2,It.c pc35c0] Q) st:=by
 simp only [Ev.row,List.map_cons,List.map_nil] at o1;unfold pc35c1;simp only [↓evP,evB,stB,reduceCtorEq,Nat.reduceEqDiff,h1,g1,o1]
 repeat' (first | apply And.intro | intro)
 all_goals (refine hQ _ ?_;simp only [stB,Nat.reduceEqDiff,pr35];refine congrArg (fun b=>some [pB b]) (Bool.eq_iff_iff.2 ?_);simp only [beq_iff_eq,beq_eq_false_iff_ne,ne_eq,decide_eq_true_eq,Bool.false_eq_true,false_iff] at *;omega)
theorem mV {e:Ev} (hr:0≤e.k) (Q:Exit→St→Prop)
 (hQ:∀ st,st.res pr35=some [pB (decide (e.off=0∧e.n≤64))]→Q .ret st) (st:St)
 (h1:st.sl 1=.b (.one (.ptr 1 1 0))) (g1:st.gen 1=1) (o1:st.ob 1=.cells (e.row.map .d)) :
 pwp dQ pc35c2 (exS dQ [It.bl 2,It.c pc35c0] Q) st:=by
 simp only [Ev.row,List.map_cons,List.map_nil] at o1;unfold pc35c2;simp only [↓evP,evB,stB,reduceCtorEq,Nat.reduceEqDiff,h1,g1,o1]
 repeat' (first | apply And.intro | intro)
 all_goals (refine hQ _ ?_;simp only [stB,Nat.reduceEqDiff,pr35];refine congrArg (fun b=>some [pB b]) (Bool.eq_iff_iff.2 ?_);simp only [beq_iff_eq,beq_eq_false_iff_ne,ne_eq,decide_eq_true_eq,Bool.false_eq_true,false_iff] at *;omega)
theorem wH {e:Ev} (hr:0≤e.k) (Q:Exit→St→Prop)
 (hQ:∀ st,st.res pr35=some [pB (decide (e.off=0∧e.n≤64∧e.k=0))]→Q .ret st) (st:St)
 (h1:st.sl 1=.b (.one (.ptr 1 1 0))) (g1:st.gen 1=1) (o1:st.ob 1=.cells (e.row.map .d)) :
 pwp dQ pc35c3 (exS dQ [It.bl 2,It.c pc35c0] Q) st:=by
 simp only [Ev.row,List.map_cons,List.map_nil] at o1;unfold pc35c3;simp only [↓evP,evB,stB,reduceCtorEq,Nat.reduceEqDiff,h1,g1,o1]
 repeat' (first | apply And.intro | intro)
 all_goals (refine hQ _ ?_;simp only [stB,Nat.reduceEqDiff,pr35];refine congrArg (fun b=>some [pB b]) (Bool.eq_iff_iff.2 ?_);simp only [beq_iff_eq,beq_eq_false_iff_ne,ne_eq,decide_eq_true_eq,Bool.false_eq_true,false_iff] at *;omega)
theorem Fp {e:Ev} (hr:0≤e.k) (Q:Exit→St→Prop)
 (hQ:∀ st,st.res pr35=some [pB (decide (e.k=0∧e.n=0))]→Q .ret st) (st:St)
 (h1:st.sl 1=.b (.one (.ptr 1 1 0))) (g1:st.gen 1=1) (o1:st.ob 1=.cells (e.row.map .d)) :
 pwp dQ pc35c0 (exS dQ [] Q) st:=by
 simp only [Ev.row,List.map_cons,List.map_nil] at o1;unfold pc35c0;simp only [↓evP,evB,stB,reduceCtorEq,Nat.reduceEqDiff,h1,g1,o1]
 repeat' (first | apply And.intro | intro)
 all_goals (refine hQ _ ?_;simp only [stB,Nat.reduceEqDiff,pr35];refine congrArg (fun b=>some [pB b]) (Bool.eq_iff_iff.2 ?_);simp only [beq_iff_eq,beq_eq_false_iff_ne,ne_eq,decide_eq_true_eq,Bool.false_eq_true,false_iff] at *;omega)
theorem zq {e:Ev} (hk:1≤e.kind) (hk2:e.kind≤20) (hr:gG e.k=true) (Q:Exit→St→Prop)
 (hQ:∀ st,st.res pr35=some [pB e.rest]→Q .ret st) (st:St)
 (h1:st.sl 1=.b (.one (.ptr 1 1 0))) (g1:st.gen 1=1) (o1:st.ob 1=.cells (e.row.map .d)) :
 pwp dQ pc35c7 (exS dQ [] Q) st:=by
 have o1':=o1;simp only [Ev.row,List.map_cons,List.map_nil] at o1;have hr':0≤e.k:=by unfold gG at hr;simp at hr;omega
 unfold pc35c7 pc35c6
 cases k14:(e.kind == 14) with
 | true =>
   simp only [↓evP,evB,stB,reduceCtorEq,Nat.reduceEqDiff,h1,g1,o1,k14];have hre:e.rest=decide (e.obj=0∧e.off=0∧e.n=0∧1≤e.k∧e.k < 8):=by unfold Ev.rest;rw [if_pos (beq_iff_eq.1 k14)]
   rw [hre] at hQ;exact Fq hr' Q hQ _ (by simp only [stB,Nat.reduceEqDiff,h1]) (by simp only [stB,g1]) (by simp only [stB,o1,Ev.row])
 | false =>
 have n14:=beq_eq_false_iff_ne.1 k14
 cases k15:(e.kind == 15) with
 | true =>
   simp only [↓evP,evB,stB,reduceCtorEq,Nat.reduceEqDiff,h1,g1,o1,k14];unfold pc35c5;simp only [↓evP,evB,stB,reduceCtorEq,Nat.reduceEqDiff,k15];have hre:e.rest=decide (e.off=0∧e.n≤64):=by unfold Ev.rest;rw [if_neg n14,if_pos (by have:=beq_iff_eq.1 k15;omega)]
   rw [hre] at hQ;exact mV hr' Q hQ _ (by simp only [stB,Nat.reduceEqDiff,h1]) (by simp only [stB,g1]) (by simp only [stB,o1,Ev.row])
 | false =>
 have n15:=beq_eq_false_iff_ne.1 k15
 cases k16:(e.kind == 16) with
 | true =>
   simp only [↓evP,evB,stB,reduceCtorEq,Nat.reduceEqDiff,h1,g1,o1,k14];unfold pc35c5;simp only [↓evP,evB,stB,reduceCtorEq,Nat.reduceEqDiff,k15,k16];have hre:e.rest=decide (e.off=0∧e.n≤64):=by unfold Ev.rest;rw [if_neg n14,if_pos (by have:=beq_iff_eq.1 k16;omega)]
   rw [hre] at hQ;exact mV hr' Q hQ _ (by simp only [stB,Nat.reduceEqDiff,h1]) (by simp only [stB,g1]) (by simp only [stB,o1,Ev.row])
 | false =>
 have n16:=beq_eq_false_iff_ne.1 k16
 cases k17:(e.kind == 17) with
 | true =>
   simp only [↓evP,evB,stB,reduceCtorEq,Nat.reduceEqDiff,h1,g1,o1,k14];unfold pc35c5;simp only [↓evP,evB,stB,reduceCtorEq,Nat.reduceEqDiff,k15,k16,k17];have hre:e.rest=decide (e.off=0∧e.n≤64):=by unfold Ev.rest;rw [if_neg n14,if_pos (by have:=beq_iff_eq.1 k17;omega)]
   rw [hre] at hQ;exact mV hr' Q hQ _ (by simp only [stB,Nat.reduceEqDiff,h1]) (by simp only [stB,g1]) (by simp only [stB,o1,Ev.row])
 | false =>
 have n17:=beq_eq_false_iff_ne.1 k17
 cases k18:(e.kind == 18) with
 | true =>
   simp only [↓evP,evB,stB,reduceCtorEq,Nat.reduceEqDiff,h1,g1,o1,k14];unfold pc35c5;simp only [↓evP,evB,stB,reduceCtorEq,Nat.reduceEqDiff,k15,k16,k17,k18];have hre:e.rest=decide (e.off=0∧e.n≤64):=by unfold Ev.rest;rw [if_neg n14,if_pos (by have:=beq_iff_eq.1 k18;omega)]
   rw [hre] at hQ;exact mV hr' Q hQ _ (by simp only [stB,Nat.reduceEqDiff,h1]) (by simp only [stB,g1]) (by simp only [stB,o1,Ev.row])
 | false =>
 have n18:=beq_eq_false_iff_ne.1 k18
 cases k19:(e.kind == 19) with
 | true =>
   simp only [↓evP,evB,stB,reduceCtorEq,Nat.reduceEqDiff,h1,g1,o1,k14];unfold pc35c5;simp only [↓evP,evB,stB,reduceCtorEq,Nat.reduceEqDiff,k15,k16,k17,k18];unfold pc35c4;simp only [↓evP,evB,stB,reduceCtorEq,Nat.reduceEqDiff,k19];have hre:e.rest=decide (e.off=0∧e.n≤64∧e.k=0):=by unfold Ev.rest;rw [if_neg n14,if_neg (by omega),if_pos (by have:=beq_iff_eq.1 k19;omega)]
   rw [hre] at hQ;exact wH hr' Q hQ _ (by simp only [stB,Nat.reduceEqDiff,h1]) (by simp only [stB,g1]) (by simp only [stB,o1,Ev.row])
 | false =>
 have n19:=beq_eq_false_iff_ne.1 k19
 cases k20:(e.kind == 20) with
 | true =>
   simp only [↓evP,evB,stB,reduceCtorEq,Nat.reduceEqDiff,h1,g1,o1,k14];unfold pc35c5;simp only [↓evP,evB,stB,reduceCtorEq,Nat.reduceEqDiff,k15,k16,k17,k18];unfold pc35c4;simp only [↓evP,evB,stB,reduceCtorEq,Nat.reduceEqDiff,k19,k20];have hre:e.rest=decide (e.off=0∧e.n≤64∧e.k=0):=by unfold Ev.rest;rw [if_neg n14,if_neg (by omega),if_pos (by have:=beq_iff_eq.1 k20;omega)]
   rw [hre] at hQ;exact wH hr' Q hQ _ (by simp only [stB,Nat.reduceEqDiff,h1]) (by simp only [stB,g1]) (by simp only [stB,o1,Ev.row])
 | false =>
 have n20:=beq_eq_false_iff_ne.1 k20;simp only [↓evP,evB,stB,reduceCtorEq,Nat.reduceEqDiff,h1,g1,o1,k14];unfold pc35c5;simp only [↓evP,evB,stB,reduceCtorEq,Nat.reduceEqDiff,k15,k16,k17,k18];unfold pc35c4;simp only [↓evP,evB,stB,reduceCtorEq,Nat.reduceEqDiff,k19,k20];have hre:e.rest=decide (e.k=0∧e.n=0):=by unfold Ev.rest;rw [if_neg n14,if_neg (by omega),if_neg (by omega)]
 rw [hre] at hQ;exact Fp hr' Q hQ _ (by simp only [stB,Nat.reduceEqDiff,h1]) (by simp only [stB,g1]) (by simp only [stB,o1,Ev.row])
theorem O8 (bs:ByteArray):∀ n i r,bs.size - i=n→ByteArray.toList.loop bs i r=r.reverse ++ bs.data.toList.drop i:=by
 intro n
 induction n with
 | zero =>
   intro i r h;unfold ByteArray.toList.loop;rw [if_neg (by omega),List.drop_eq_nil_of_le (by show bs.data.toList.length≤i;rw [Array.length_toList];show bs.size≤i;omega),List.append_nil]
 | succ n ih =>
   intro i r h;have hi:i < bs.data.toList.length:=by rw [Array.length_toList];show i < bs.size;omega
   unfold ByteArray.toList.loop;rw [if_pos (by omega),ih (i+1) _ (by omega),List.drop_eq_getElem_cons hi,List.reverse_cons,List.append_assoc]
   congr 1
   show bs.get! i :: _=_
   congr 1
   show bs.data[i]! = _
   rw [getElem!_pos bs.data i (by simpa using hi)];rfl
theorem sD (bs:ByteArray):bs.toList=bs.data.toList:=by
 unfold ByteArray.toList;rw [O8 bs _ 0 [] rfl];rfl
def Ev.fields (e:Ev):List Int:=[e.obj,e.off,e.k,e.n,e.fn,e.pc,e.stack]
def JZ (k:Int):ByteArray:=if k < 1∨20 < k then ⟨#[]⟩ else (jS[k.toNat]?).getD ⟨#[]⟩
theorem um (k:Int):((JZ k).toList == (⟨#[]⟩:ByteArray).toList)=!iW k:=by
 unfold JZ iW
 by_cases h:k < 1∨20 < k
 ·rw [if_pos h,decide_eq_false (by omega),sD];decide
 ·rw [if_neg h,decide_eq_true (by omega)];obtain ⟨m,rfl⟩:=Int.eq_ofNat_of_zero_le (show 0≤k by omega);rw [Int.toNat_natCast];have:∀ m:Fin 21,1≤m.val→(((jS[m.val]?).getD ⟨#[]⟩).data.toList == (⟨#[]⟩:ByteArray).data.toList)=false:=by decide +kernel
  rw [sD,sD];exact this ⟨m,by omega⟩ (by show 1≤m;omega)
theorem Ev.valid_eq (e:Ev):e.valid=(iW e.kind && decide (0≤e.g∧e.g < 8) && e.fields.all gG && e.rest):=by
 unfold Ev.valid Ev.fields;simp only [List.all_cons,List.all_nil,Bool.and_true,Bool.and_assoc]
theorem yX:Spec Try.prog 35 oC:=by
 refine sp35 uY ?_;rintro ps rs ⟨e,rfl,rfl⟩;refine ⟨by simp,?_⟩;unfold pc35;refine aJ ?_
 by_cases q1:e.g < 0
 ·have hv:e.valid=false:=by rw [Ev.valid_eq,decide_eq_false (show ¬ (0≤e.g∧e.g < 8) by omega)];simp
  simp only [↓evP,evB,stB,reduceCtorEq,Nat.reduceEqDiff,Ev.pa,Ev.row,q1,decide_true,hv,pr35]
 by_cases q2:e.g≥8
 ·have hv:e.valid=false:=by rw [Ev.valid_eq,decide_eq_false (show ¬ (0≤e.g∧e.g < 8) by omega)];simp
  simp only [↓evP,evB,stB,reduceCtorEq,Nat.reduceEqDiff,Ev.pa,Ev.row,q1,q2,decide_true,decide_false,hv,pr35]
 have hg:decide (0≤e.g∧e.g < 8)=true:=decide_eq_true (by omega);simp only [↓evP,evB,stB,reduceCtorEq,Nat.reduceEqDiff,Ev.pa,Ev.row,q1,q2,decide_false];refine aC [.one (.sc (.string (JZ e.kind)))] ⟨e.kind,rfl,JZ e.kind,rfl,rfl⟩ ?_
 cases hk:iW e.kind with
 | false =>
   have hv:e.valid=false:=by rw [Ev.valid_eq,hk];rfl
   simp only [↓evP,evB,stB,reduceCtorEq,Nat.reduceEqDiff,um,hk,hv,pr35]
 | true =>
   simp only [↓evP,evB,stB,reduceCtorEq,Nat.reduceEqDiff,um,hk];refine dP [1] [1] (fun st hs ho=>?_);simp only [stB,Nat.reduceEqDiff] at hs ho;obtain ⟨g1,o1⟩:=ho;unfold pc35c9;simp only [↓evP,evB,stB,Nat.reduceEqDiff,Nat.reduceAdd,Nat.reduceLeDiff,hs,g1,o1];refine dP [1,3] [1,33] (fun st' hs' ho'=>?_);simp only [stB,Nat.reduceEqDiff,hs,g1,o1] at hs' ho';clear hs g1 o1;obtain ⟨h1,h3⟩:=hs';obtain ⟨⟨g1,o1⟩,g33,o33⟩:=ho';unfold pc35c8;simp only [↓evP,evB,stB];refine bH ms35_0 os35_0 (fun m st=>∃ k:Nat,m=7 - k∧k≤7∧(e.fields.take k).all gG=true∧st.sl 4=aI k) 7 ?_ ?_
   ·exact ⟨0,rfl,by omega,rfl,by simp only [stB];rfl⟩
   ·rintro m j ⟨k,rfl,hk7,hall,h4⟩;simp only [stB,Nat.reduceBEq] at h4
    rcases Nat.lt_or_ge k 7 with hlt | hge
    ·obtain ⟨x,hx⟩:∃ x,e.fields[k]? = some x:=⟨_,List.getElem?_eq_getElem (show k < e.fields.length from hlt)⟩
     have hrow:(e.fields.map fun x=>[dI x])[k]? = some [dI x]:=by rw [List.getElem?_map,hx];rfl
     unfold Ev.fields at hrow;simp only [List.map_cons,List.map_nil] at hrow;have hl7:(k:Int) < ((7:Nat):Int):=by omega
     have hmem:x ∈ e.fields:=List.mem_of_getElem? hx
     by_cases x1:x < 0
     ·have hv:e.valid=false:=by
       rw [Ev.valid_eq,(by rw [List.all_eq_false];exact ⟨x,hmem,by unfold gG;rw [decide_eq_false (by omega)];decide⟩:e.fields.all gG=false)];simp
      simp only [↓evP,evB,stB,reduceCtorEq,Nat.reduceEqDiff,Nat.reduceAdd,Nat.reduceBEq,h3,h4,hrow,hl7,x1,decide_true,hv,pr35]
     by_cases x2:x > 2147483647
     ·have hv:e.valid=false:=by
       rw [Ev.valid_eq,(by rw [List.all_eq_false];exact ⟨x,hmem,by unfold gG;rw [decide_eq_false (by omega)];decide⟩:e.fields.all gG=false)];simp
      simp only [↓evP,evB,stB,reduceCtorEq,Nat.reduceEqDiff,Nat.reduceAdd,Nat.reduceBEq,h3,h4,hrow,hl7,x1,x2,decide_true,decide_false,hv,pr35]
     simp only [↓evP,evB,stB,reduceCtorEq,Nat.reduceEqDiff,Nat.reduceAdd,Nat.reduceBEq,h3,h4,hrow,hl7,x1,x2,decide_true,decide_false]
     exact ⟨_,by omega,(by repeat' (first | assumption | exact aV.mpr trivial | exact Within.refl _ _ _ | (refine bg ?_ rfl rfl) | (refine aW ?_ rfl))),k+1,rfl,by omega,by rw [List.take_add_one,hx,List.all_append,hall];simp only [Option.toList_some,List.all_cons,List.all_nil];unfold gG;rw [decide_eq_true (by omega)];rfl,by simp only [stB,Nat.reduceEqDiff,Nat.reduceBEq,h4];rw [wrN (by omega)]⟩
    ·have hk77:k=7:=by omega
     subst hk77;have hl7:¬ ((7:Nat):Int) < ((7:Nat):Int):=by omega
     simp only [↓evP,evB,stB,reduceCtorEq,Nat.reduceEqDiff,Nat.reduceAdd,Nat.reduceSub,Nat.reduceBEq,h3,h4,hl7];have hall':e.fields.all gG=true:=hall;have hk':=hk;unfold iW at hk';have hv:e.valid=e.rest:=by rw [Ev.valid_eq,hk,hg,hall'];rfl
     have hrk:gG e.k=true:=List.all_eq_true.1 hall' _ (by unfold Ev.fields;simp)
     rw [hv];exact zq (of_decide_eq_true hk').1 (of_decide_eq_true hk').2 hrk _ (fun st'' h=>⟨.inr rfl,h⟩) _ (by simp only [stB,Nat.reduceEqDiff,Nat.reduceBEq,h1]) (by simp only [stB,g1]) (by simp only [stB,o1,Ev.row])
end Go.Proofs.Ytkafcpnahpfbfaa
end
section
namespace Go.Proofs.Ytkafcpnahpfbfaa
open Go Go.RowKit
set_option maxRecDepth 1000000
set_option maxHeartbeats 4000000
def rU (ps rs:List Pa):Prop:=∃ (n:Nat) (es:List Ev),ps=[pI n,.one (.im (es.map Ev.row))]∧(es.length≤5000∧n≤2147483648∧∀ e ∈ es,evG e)∧rs=[pI (bA es n:Nat)]
theorem CG:∀ {es:List Ev} {n:Nat},(∀ e ∈ es,evG e)→n≤2147483648→bA es n≤2147483648
 | [],_,_,h=>h
 | e :: es,n,h,hn=>by
   refine CG (es:=es) (fun x hx=>h x (List.mem_cons_of_mem _ hx)) ?_;have:=h e (List.mem_cons_self ..) e.stack (by simp [Ev.fl])
   show max n (e.stack+1).toNat≤_
   omega
theorem G5:Spec Try.prog 27 rU:=by
 refine sp27 aA.e0 ?_;rintro ps rs ⟨n,es,rfl,⟨hl,hn,hev⟩,rfl⟩;refine ⟨by simp,?_⟩;unfold pc27
 with_reducible refine aJ ?_
 have m2:(es.map Ev.row).length=es.length:=List.length_map ..;simp only [↓evP,evB,stB,Nat.reduceEqDiff,m2,pr27];refine bH ms27_0 os27_0 (fun m st=>∃ k:Nat,m=es.length - k∧k≤es.length∧st.sl 9=aI k∧st.sl 0=aI (bA (es.take k) n:Nat)) es.length ?_ ?_
 ·exact ⟨0,rfl,Nat.zero_le _,by simp only [stB,Nat.reduceEqDiff];rfl,by simp only [stB,reduceCtorEq];rfl⟩
 rintro m z ⟨k,rfl,hk,h9,h0⟩;simp only [stB,reduceCtorEq,Nat.reduceEqDiff,Nat.reduceBEq] at h9 h0
 rcases Nat.lt_or_ge k es.length with hlt | hge
 ·have ge:es[k]? = some (es[k]):=List.getElem?_eq_getElem hlt;generalize es[k]=e at ge;have hst:=hev e (List.mem_of_getElem? ge) e.stack (by simp [Ev.fl]);have lt2:(k:Int) < (es.length:Int):=by omega
  have w2:IntKind.i64.wrap (e.stack+1)=e.stack+1:=bY (by omega) (by omega);have w3:IntKind.i64.wrap ((k:Int)+1)=((k+1:Nat):Int):=by rw [bY (by omega) (by omega)];omega
  have hne:bA (es.take (k+1)) n=max (bA (es.take k) n) (e.stack+1).toNat:=by
   rw [take_at ge,iA];rfl
  have hmax:(if e.stack+1 > ((bA (es.take k) n:Nat):Int) then e.stack+1 else ((bA (es.take k) n:Nat):Int))=((bA (es.take (k+1)) n:Nat):Int):=by
   rw [hne];split <;> omega
  simp only [↓evP,evB,stB,reduceCtorEq,Nat.reduceEqDiff,Nat.reduceAdd,Nat.reduceLeDiff,Nat.reduceBEq,h9,h0,ge,lt2,w2,List.foldl_cons,List.foldl_nil,hmax,Ev.row,decide_true]
  exact ⟨_,by omega,(by repeat' (first | assumption | exact aV.mpr trivial | exact Within.refl _ _ _ | (refine bg ?_ rfl rfl) | (refine aW ?_ rfl))),k+1,rfl,hlt,by simp only [stB,reduceCtorEq,Nat.reduceEqDiff,Nat.reduceBEq,h9,w3],by simp only [stB,reduceCtorEq,Nat.reduceBEq];first | done | rw [hmax]⟩
 ·have hke:k=es.length:=by omega
  subst hke;have lt2:¬ (es.length:Int) < (es.length:Int):=by omega
  rw [List.take_length] at h0;simp only [↓evP,evB,stB,reduceCtorEq,Nat.reduceEqDiff,Nat.reduceBEq,h9,h0,lt2,decide_false]
  first | done | rfl
def uZ (ps rs:List Pa):Prop:=∃ s:Int×Int,ps=[.agg (aQ s)]∧rs=[pB (decide (s.1≤2147483647) && decide (s.2≤2147483647))]
theorem G8:Spec Try.prog 23 uZ:=by
 refine sp23 aA.e0 ?_;rintro ps rs ⟨s,rfl,rfl⟩;refine ⟨by simp,?_⟩;unfold pc23
 with_reducible refine aJ ?_
 by_cases h1:s.1≤2147483647
 ·simp only [↓evP,evB,stB,reduceCtorEq,Nat.reduceEqDiff,aQ,h1,decide_true,pr23]
  first | done | rfl
 ·simp only [↓evP,evB,stB,reduceCtorEq,Nat.reduceEqDiff,aQ,h1,decide_false,pr23]
  first | done | rfl
def Oa (ps rs:List Pa):Prop:=∃ s:Int×Int,ps=[.agg (aQ s)]∧rs=[pB (decide (s.1≥0) && decide (s.2≥0))]
theorem UC:Spec Try.prog 55 Oa:=by
 refine sp55 aA.e0 ?_;rintro ps rs ⟨s,rfl,rfl⟩;refine ⟨by simp,?_⟩;unfold pc55
 with_reducible refine aJ ?_
 by_cases h1:s.1≥0
 ·simp only [↓evP,evB,stB,reduceCtorEq,Nat.reduceEqDiff,aQ,h1,decide_true,pr55]
  first | done | rfl
 ·simp only [↓evP,evB,stB,reduceCtorEq,Nat.reduceEqDiff,aQ,h1,decide_false,pr55]
  first | done | rfl
def bW:List Nat:=[73,84,82,65,67,69,49,10]
def NZ (ps rs:List Pa):Prop:=ps=[]∧rs=[cu bW]
theorem Uw:Spec Try.prog 21 NZ:=by
 refine sp21 aA.e0 ?_;rintro ps rs ⟨rfl,rfl⟩;refine ⟨by simp,?_⟩;unfold pc21
 with_reducible refine aJ ?_
 simp only [↓evP,evB,stB,reduceCtorEq,Nat.reduceEqDiff,Nat.reduceAdd,Nat.reduceLeDiff,Nat.reduceLT,pr21,cu,byR,bW]
 first | done | rfl
def sameD (a b:Dep):Bool:=decide (a.st=b.st∧a.pr=b.pr)
theorem oq {a b:Dep} (h:¬ (a.st=b.st∧a.pr=b.pr)):sameD a b=false:=decide_eq_false h
theorem yY {a b:Dep} (h:a.st=b.st∧a.pr=b.pr):sameD a b=true:=decide_eq_true h
theorem OQ {α:Type} {l m:List α} (hl:l.length=m.length) (h:∀ k,k < l.length→l[k]? = m[k]?):l=m:=by
 refine List.ext_getElem? fun k=>?_
 rcases Nat.lt_or_ge k l.length with q | q
 ·exact h k q
 ·rw [List.getElem?_eq_none q,List.getElem?_eq_none (by omega)]
def Gj (ps rs:List Pa):Prop:=∃ a b:Dep,ps=[a.pa,b.pa]∧(a.st.length≤1000000∧a.pr.length≤1000000∧b.st.length≤1000000∧b.pr.length≤1000000)∧rs=[pB (sameD a b)]
theorem Q0:Spec Try.prog 33 Gj:=by
 refine sp33 aA.e0 ?_;rintro ps rs ⟨a,b,rfl,⟨l1,l2,l3,l4⟩,rfl⟩;refine ⟨by simp,?_⟩;unfold pc33
 with_reducible refine aJ ?_
 have m1:(a.st.map aQ).length=a.st.length:=List.length_map ..;have m2:(a.pr.map fun x=>[dI x]).length=a.pr.length:=List.length_map ..;have m3:(b.st.map aQ).length=b.st.length:=List.length_map ..;have m4:(b.pr.map fun x=>[dI x]).length=b.pr.length:=List.length_map ..
 by_cases c1:a.st.length=b.st.length
 ·have b1:((a.st.length:Int) != (b.st.length:Int))=false:=by rw [c1];simp
  by_cases c2:a.pr.length=b.pr.length
  ·have b2:((a.pr.length:Int) != (b.pr.length:Int))=false:=by rw [c2];simp
   simp only [↓evP,evB,stB,reduceCtorEq,Nat.reduceEqDiff,Dep.pa,Dep.row,m1,m2,m3,m4,b1,b2];refine dP [2,3,4,5] [2,3] (fun S hs ho=>?_);simp only [stB,Nat.reduceEqDiff] at hs ho;obtain ⟨q2,q3,q4,q5⟩:=hs;obtain ⟨⟨g2,o2⟩,g3,o3⟩:=ho;refine bH ms33_0 os33_0 (fun m st=>∃ i:Nat,m=a.st.length - i∧i≤a.st.length∧st.sl 5=aI i∧∀ x,x < i→a.st[x]? = b.st[x]?) a.st.length ?_ ?_
   ·exact ⟨0,rfl,Nat.zero_le _,q5,fun x q=>absurd q (Nat.not_lt_zero _)⟩
   rintro m z ⟨i,rfl,hi,h5,hal⟩;simp only [stB,Nat.reduceBEq] at h5
   rcases Nat.lt_or_ge i a.st.length with hlt | hge
   ·have ga:a.st[i]? = some (a.st[i]):=List.getElem?_eq_getElem hlt;have gb:b.st[i]? = some (b.st[i]'(by omega)):=List.getElem?_eq_getElem (by omega);generalize a.st[i]=x at ga;generalize b.st[i]'(by omega)=y at gb;obtain ⟨x1,x2⟩:=x;obtain ⟨y1,y2⟩:=y;have ilt:(i:Int) < (a.st.length:Int):=by omega
    have w3:IntKind.i64.wrap ((i:Int)+1)=((i+1:Nat):Int):=by rw [bY (by omega) (by omega)];omega
    have hno:¬ (x1=y1∧x2=y2)→sameD a b=false:=fun h=>oq fun q=>h (by
     have e:=q.1;rw [e,gb] at ga;cases ga;exact ⟨rfl,rfl⟩)
    cases e1:(x1 == y1) with
    | false =>
      rw [hno fun h=>by rw [h.1] at e1;simp at e1]
      simp only [↓evP,evB,stB,reduceCtorEq,Nat.reduceEqDiff,Nat.reduceAdd,Nat.reduceLeDiff,Nat.reduceBEq,q2,q3,g2,g3,o2,o3,h5,m1,ilt,ga,gb,aQ,gJ,qH,e1,decide_true,pr33]
      first | done | exact ⟨(by unfold Drw;refine Eq.trans (b:=true) ?_ rfl;kernel_rfl),rfl⟩ | rfl
    | true =>
      cases e2:(x2 == y2) with
      | false =>
        rw [hno fun h=>by rw [h.2] at e2;simp at e2]
        simp only [↓evP,evB,stB,reduceCtorEq,Nat.reduceEqDiff,Nat.reduceAdd,Nat.reduceLeDiff,Nat.reduceBEq,q2,q3,g2,g3,o2,o3,h5,m1,ilt,ga,gb,aQ,gJ,qH,e1,e2,decide_true,pr33]
        first | done | exact ⟨(by unfold Drw;refine Eq.trans (b:=true) ?_ rfl;kernel_rfl),rfl⟩ | rfl
      | true =>
        simp only [↓evP,evB,stB,reduceCtorEq,Nat.reduceEqDiff,Nat.reduceAdd,Nat.reduceLeDiff,Nat.reduceBEq,q2,q3,g2,g3,o2,o3,h5,m1,ilt,ga,gb,aQ,gJ,qH,e1,e2,decide_true];refine ⟨(by unfold Drw;refine Eq.trans (b:=true) ?_ rfl;kernel_rfl),?_⟩
        exact ⟨_,by omega,(by repeat' (first | assumption | exact aV.mpr trivial | exact Within.refl _ _ _ | (refine bg ?_ rfl rfl) | (refine aW ?_ rfl))),i+1,rfl,hlt,by simp only [stB,Nat.reduceEqDiff,Nat.reduceBEq,h5,w3],fun k hk=>by
         rcases Nat.lt_or_ge k i with q | q
         ·exact hal k q
         ·have:k=i:=by omega
          subst this;rw [ga,gb,eq_of_beq e1,eq_of_beq e2]⟩
   ·have hie:i=a.st.length:=by omega
    subst hie;have ilt:¬ (a.st.length:Int) < (a.st.length:Int):=by omega
    have hst:=OQ c1 hal;simp only [↓evP,evB,stB,reduceCtorEq,Nat.reduceEqDiff,Nat.reduceBEq,q2,g2,o2,h5,m1,ilt,decide_false];refine dP [2,3,6] [2,3] (fun T hs2 ho2=>?_);simp only [stB,Nat.reduceEqDiff,Nat.reduceBEq,q2,q3,g2,g3,o2,o3] at hs2 ho2;obtain ⟨p2,p3,p6⟩:=hs2;obtain ⟨⟨u2,v2⟩,u3,v3⟩:=ho2;refine bH ms33_1 os33_1 (fun m st=>∃ i:Nat,m=a.pr.length - i∧i≤a.pr.length∧st.sl 6=aI i∧∀ x,x < i→a.pr[x]? = b.pr[x]?) a.pr.length ?_ ?_
    ·exact ⟨0,rfl,Nat.zero_le _,p6,fun x q=>absurd q (Nat.not_lt_zero _)⟩
    rintro m z ⟨i,rfl,hi,h6,hal2⟩;simp only [stB,Nat.reduceBEq] at h6
    rcases Nat.lt_or_ge i a.pr.length with hlt | hge
    ·have ga:a.pr[i]? = some (a.pr[i]):=List.getElem?_eq_getElem hlt;have gb:b.pr[i]? = some (b.pr[i]'(by omega)):=List.getElem?_eq_getElem (by omega);generalize a.pr[i]=x at ga;generalize b.pr[i]'(by omega)=y at gb;have ilt:(i:Int) < (a.pr.length:Int):=by omega
     have w3:IntKind.i64.wrap ((i:Int)+1)=((i+1:Nat):Int):=by rw [bY (by omega) (by omega)];omega
     have hno:¬ (x=y)→sameD a b=false:=fun h=>oq fun q=>h (by
      have e:=q.2;rw [e,gb] at ga;cases ga;rfl)
     cases e1:(x != y) with
     | true =>
       rw [hno fun h=>by rw [h] at e1;simp at e1]
       simp only [↓evP,evB,stB,reduceCtorEq,Nat.reduceEqDiff,Nat.reduceBEq,p2,p3,u2,u3,v2,v3,h6,m2,ilt,ga,gb,e1,decide_true,pr33]
       first | done | exact ⟨(by unfold Drw;refine Eq.trans (b:=true) ?_ rfl;kernel_rfl),rfl⟩ | rfl
     | false =>
       simp only [↓evP,evB,stB,reduceCtorEq,Nat.reduceEqDiff,Nat.reduceBEq,p2,p3,u2,u3,v2,v3,h6,m2,ilt,ga,gb,e1,decide_true];refine ⟨(by unfold Drw;refine Eq.trans (b:=true) ?_ rfl;kernel_rfl),?_⟩
       exact ⟨_,by omega,(by repeat' (first | assumption | exact aV.mpr trivial | exact Within.refl _ _ _ | (refine bg ?_ rfl rfl) | (refine aW ?_ rfl))),i+1,rfl,hlt,by simp only [stB,Nat.reduceEqDiff,Nat.reduceBEq,h6,w3],fun k hk=>by
        rcases Nat.lt_or_ge k i with q | q
        ·exact hal2 k q
        ·have:k=i:=by omega
         subst this;rw [ga,gb];simpa using e1⟩
    ·have hie:i=a.pr.length:=by omega
     subst hie;have ilt:¬ (a.pr.length:Int) < (a.pr.length:Int):=by omega
     rw [yY ⟨hst,OQ c2 hal2⟩];simp only [↓evP,evB,stB,reduceCtorEq,Nat.reduceEqDiff,Nat.reduceBEq,p2,u2,v2,h6,m2,ilt,decide_false,pr33]
     first | done | rfl
  ·have b2:((a.pr.length:Int) != (b.pr.length:Int))=true:=by rw [bne_iff_ne];omega
   rw [oq fun h=>c2 (by rw [h.2])];simp only [↓evP,evB,stB,reduceCtorEq,Nat.reduceEqDiff,Dep.pa,Dep.row,m1,m2,m3,m4,b1,b2,pr33]
   first | done | rfl
 ·have b1:((a.st.length:Int) != (b.st.length:Int))=true:=by rw [bne_iff_ne];omega
  rw [oq fun h=>c1 (by rw [h.1])];simp only [↓evP,evB,stB,reduceCtorEq,Nat.reduceEqDiff,Dep.pa,Dep.row,m1,m3,b1,pr33]
  first | done | rfl
theorem Ev.VQ {a b:Ev} (h1:a.g=b.g) (h2:a.kind=b.kind) (h3:a.obj=b.obj) (h4:a.off=b.off) (h5:a.k=b.k) (h6:a.n=b.n) (h7:a.fn=b.fn) (h8:a.pc=b.pc) (h9:a.stack=b.stack):a=b:=by
 cases a;cases b;dsimp only at *;subst h1;subst h2;subst h3;subst h4;subst h5;subst h6;subst h7;subst h8;subst h9;rfl
theorem Ta {a b:Ev} (h:a≠b):gJ [false,false,false,false,false,false,false,false,false] (a.row.map .d) (b.row.map .d)=some false:=by
 show some ((a.g == b.g) && ((a.kind == b.kind) && ((a.obj == b.obj) && ((a.off == b.off) && ((a.k == b.k) && ((a.n == b.n) && ((a.fn == b.fn) && ((a.pc == b.pc) && ((a.stack == b.stack) && true)))))))))=some false
 refine congrArg some ?_;rw [Bool.eq_false_iff];intro q;simp only [Bool.and_eq_true,beq_iff_eq] at q;obtain ⟨h1,h2,h3,h4,h5,h6,h7,h8,h9,_⟩:=q;exact h (Ev.VQ h1 h2 h3 h4 h5 h6 h7 h8 h9)
theorem PU (a:Ev):gJ [false,false,false,false,false,false,false,false,false] (a.row.map .d) (a.row.map .d)=some true:=by
 show some ((a.g == a.g) && ((a.kind == a.kind) && ((a.obj == a.obj) && ((a.off == a.off) && ((a.k == a.k) && ((a.n == a.n) && ((a.fn == a.fn) && ((a.pc == a.pc) && ((a.stack == a.stack) && true)))))))))=some true
 simp
open Classical in
noncomputable def qD (es:List Ev) (d:Dep) (es':List Ev) (d':Dep):Bool:=decide (es=es'∧d.st=d'.st∧d.pr=d'.pr)
open Classical in
theorem xw {es es':List Ev} {d d':Dep} (h:¬ (es=es'∧d.st=d'.st∧d.pr=d'.pr)):qD es d es' d'=false:=by unfold qD;exact decide_eq_false h
open Classical in
theorem jw {es es':List Ev} {d d':Dep} (h:es=es'∧d.st=d'.st∧d.pr=d'.pr):qD es d es' d'=true:=by unfold qD;exact decide_eq_true h
def rW (ps rs:List Pa):Prop:=∃ (es:List Ev) (a:Dep) (es':List Ev) (b:Dep),ps=[eH es a,eH es' b]∧(es.length≤1000000∧es'.length≤1000000∧a.st.length≤1000000∧a.pr.length≤1000000∧b.st.length≤1000000∧b.pr.length≤1000000)∧rs=[pB (qD es a es' b)]
theorem wC:Spec Try.prog 16 rW:=by
 refine sp16 (show aA Try.prog (e1 33 Gj e0) from aA.e1 Q0 aA.e0) ?_;rintro ps rs ⟨es,a,fs,b,rfl,⟨k1,k2,l1,l2,l3,l4⟩,rfl⟩;refine ⟨by simp,?_⟩;unfold pc16
 with_reducible refine aJ ?_
 have m1:(es.map Ev.row).length=es.length:=List.length_map ..;have m2:(fs.map Ev.row).length=fs.length:=List.length_map ..
 by_cases c1:es.length=fs.length
 ·have b1:((es.length:Int) != (fs.length:Int))=false:=by rw [c1];simp
  simp only [↓evP,evB,stB,reduceCtorEq,Nat.reduceEqDiff,Nat.reduceAdd,Nat.reduceLeDiff,eH,dA,m1,m2,b1];refine aC [pB (sameD a b)] (by exact ⟨a,b,rfl,⟨l1,l2,l3,l4⟩,rfl⟩) ?_
  by_cases c2:a.st=b.st∧a.pr=b.pr
  ·rw [yY c2];simp only [↓evP,evB,stB,reduceCtorEq,Nat.reduceEqDiff];refine dP [2,3,4,5] [2,3] (fun S hs ho=>?_);simp only [stB,Nat.reduceEqDiff] at hs ho;obtain ⟨q2,q3,q4,q5⟩:=hs;obtain ⟨⟨g2,o2⟩,g3,o3⟩:=ho;refine bH ms16_0 os16_0 (fun m st=>∃ i:Nat,m=es.length - i∧i≤es.length∧st.sl 5=aI i∧∀ x,x < i→es[x]? = fs[x]?) es.length ?_ ?_
   ·exact ⟨0,rfl,Nat.zero_le _,q5,fun x q=>absurd q (Nat.not_lt_zero _)⟩
   rintro m z ⟨i,rfl,hi,h5,hal⟩;simp only [stB,Nat.reduceBEq] at h5
   rcases Nat.lt_or_ge i es.length with hlt | hge
   ·have ga:es[i]? = some (es[i]):=List.getElem?_eq_getElem hlt;have gb:fs[i]? = some (fs[i]'(by omega)):=List.getElem?_eq_getElem (by omega);generalize es[i]=x at ga;generalize fs[i]'(by omega)=y at gb;have ilt:(i:Int) < (es.length:Int):=by omega
    have w3:IntKind.i64.wrap ((i:Int)+1)=((i+1:Nat):Int):=by rw [bY (by omega) (by omega)];omega
    by_cases e1:x=y
    ·subst e1;have e2:=PU x;simp only [Ev.row,List.map_cons,List.map_nil] at e2;simp only [↓evP,evB,stB,reduceCtorEq,Nat.reduceEqDiff,Nat.reduceAdd,Nat.reduceLeDiff,Nat.reduceBEq,q2,q3,g2,g3,o2,o3,h5,m1,ilt,ga,gb,Ev.row,e2,decide_true];refine ⟨(by unfold Drw;refine Eq.trans (b:=true) ?_ rfl;kernel_rfl),?_⟩
     exact ⟨_,by omega,(by repeat' (first | assumption | exact aV.mpr trivial | exact Within.refl _ _ _ | (refine bg ?_ rfl rfl) | (refine aW ?_ rfl))),i+1,rfl,hlt,by simp only [stB,Nat.reduceEqDiff,Nat.reduceBEq,h5,w3],fun k hk=>by
      rcases Nat.lt_or_ge k i with q | q
      ·exact hal k q
      ·have:k=i:=by omega
       subst this;rw [ga,gb]⟩
    ·have e2:=Ta e1;simp only [Ev.row,List.map_cons,List.map_nil] at e2;rw [xw fun h=>e1 (by have:=h.1;rw [this,gb] at ga;cases ga;rfl)]
     simp only [↓evP,evB,stB,reduceCtorEq,Nat.reduceEqDiff,Nat.reduceAdd,Nat.reduceLeDiff,Nat.reduceBEq,q2,q3,g2,g3,o2,o3,h5,m1,ilt,ga,gb,Ev.row,e2,decide_true,pr16]
     first | done | exact ⟨(by unfold Drw;refine Eq.trans (b:=true) ?_ rfl;kernel_rfl),rfl⟩ | rfl
   ·have hie:i=es.length:=by omega
    subst hie;have ilt:¬ (es.length:Int) < (es.length:Int):=by omega
    rw [jw ⟨OQ c1 hal,c2⟩];simp only [↓evP,evB,stB,reduceCtorEq,Nat.reduceEqDiff,Nat.reduceBEq,q2,g2,o2,h5,m1,ilt,decide_false,pr16]
    first | done | rfl
  ·rw [oq c2,xw fun h=>c2 h.2];simp only [↓evP,evB,stB,reduceCtorEq,Nat.reduceEqDiff,pr16]
   first | done | rfl
 ·have b1:((es.length:Int) != (fs.length:Int))=true:=by rw [bne_iff_ne];omega
  rw [xw fun h=>c1 (by rw [h.1])];simp only [↓evP,evB,stB,reduceCtorEq,Nat.reduceEqDiff,eH,dA,m1,m2,b1,pr16]
  first | done | rfl
def Gh (ps:List Pa) (E sz:Nat) (rows:List (List Dt)):Prop:=ps=[]∧E=5∧sz=1∧rows=byR bW
theorem QU:zY Try.prog 21 Gh:=by
 refine qw aA.e0 bT aX Try.func21 bd21 cp21 (by kernel_rfl) (by kernel_rfl) (t:=0) (by kernel_rfl) ?_;rintro ps E sz rows ⟨rfl,rfl,rfl,rfl⟩;refine ⟨by simp,?_⟩;unfold pc21
 with_reducible refine aJ ?_
 simp only [↓evP,evB,stB,reduceCtorEq,Nat.reduceEqDiff,Nat.reduceAdd,Nat.reduceLeDiff,Nat.reduceLT,byR,bW]
 first | done | (unfold St.QM;simp only [stB,reduceCtorEq,Nat.reduceAdd];first | done | rfl) | rfl
def eP (es:List Ev) (d:Dep):Prop:=d.val∧(∀ s ∈ d.st,s.1≤2147483647∧s.2≤2147483647)∧∀ e ∈ es,e.valid=true∧e.stack < d.st.length
open Classical in
noncomputable def wE (es:List Ev) (d:Dep):Bool:=decide (eP es d)
open Classical in
theorem jJ {es:List Ev} {d:Dep} (h:¬ eP es d):wE es d=false:=by unfold wE;exact decide_eq_false h
open Classical in
theorem lJ {es:List Ev} {d:Dep} (h:eP es d):wE es d=true:=by unfold wE;exact decide_eq_true h
theorem eP.ok {es:List Ev} {d:Dep} (h:eP es d) (hl:d.st.length≤1000) (he:es.length≤1000):tu d es:=by
 obtain ⟨⟨h1,h2⟩,h3,h4⟩:=h;refine ⟨⟨h1,by omega,fun x hx=>?_,fun p hp=>?_⟩,hl,he,h4⟩
 ·obtain ⟨i,hi,rfl⟩:=List.getElem_of_mem hx;have:=(h2 i (by omega)).1.1;have e:fH d i=d.pr[i]:=by unfold fH;rw [List.getD_eq_getElem?_getD,List.getElem?_eq_getElem hi];rfl
  rw [e] at this;omega
 ·obtain ⟨i,hi,rfl⟩:=List.getElem_of_mem hp;have:=(h2 i hi).1.2;have e:dS d i=d.st[i]:=by unfold dS;rw [List.getD_eq_getElem?_getD,List.getElem?_eq_getElem hi];rfl
  rw [e] at this;have q:=h3 _ hp;omega
theorem vk (k:Nat) (c:List Nat):(bM k c).length≤14+c.length:=by
 unfold bM bB fT;have:=bU c.length;simp only [List.length_append,List.length_cons,List.length_nil];omega
theorem nJ {es:List Ev} {d:Dep} (h:tu d es):∀ b ∈ bX d es,b.length≤30014:=by
 intro b hb
 rcases List.mem_append.1 hb with q | q
 ·obtain ⟨k,_,rfl⟩:=List.mem_map.1 q;have:=vk 66 (jZ d es k);have:=oK h k
  show (bM 66 (jZ d es k)).length≤_
  omega
 ·rw [List.mem_singleton.1 q];have:=vk 69 (jM d es);have:=nM h;omega
theorem oG (d:Dep) (es:List Ev):(bX d es).length=dL es+1:=by unfold bX;rw [List.length_append,List.length_map,List.length_range];rfl
def FM (ps rs:List Pa):Prop:=∃ (es:List Ev) (d:Dep),ps=[eH es d]∧(es.length≤1000∧d.st.length≤1000∧d.pr.length≤1000)∧rs=[pB (wE es d)]
noncomputable def Ll:Env:=e1 34 FC (e1 35 oC (e1 20 wJ e0))
theorem Ej:aA Try.prog Ll:=aA.e1 G7 (aA.e1 yX (aA.e1 Df aA.e0))
theorem OL:Spec Try.prog 17 FM:=by
 refine sp17 Ej ?_;rintro ps rs ⟨es,d,rfl,⟨l1,l2,l3⟩,rfl⟩;refine ⟨by simp,?_⟩;unfold pc17
 with_reducible refine aJ ?_
 have m1:(d.st.map aQ).length=d.st.length:=List.length_map ..;have m2:(es.map Ev.row).length=es.length:=List.length_map ..;simp only [↓evP,evB,stB,Nat.reduceEqDiff,Nat.reduceAdd,Nat.reduceLeDiff,eH,dA];refine aC [pB (tX d)] (by exact ⟨d,rfl,⟨by omega,by omega⟩,rfl⟩) ?_
 by_cases hv:d.val
 ·have b1:¬ ((es.length:Int) > 5000):=by omega
  rw [nK hv];simp only [↓evP,evB,stB,reduceCtorEq,Nat.reduceEqDiff,m2,b1,decide_false];refine dP [1,2,3] [1] (fun S hs ho=>?_);simp only [stB,Nat.reduceEqDiff] at hs ho;obtain ⟨q1,q2,q3⟩:=hs;obtain ⟨g1,o1⟩:=ho;refine bH ms17_0 os17_0 (fun m st=>∃ i:Nat,m=d.st.length - i∧i≤d.st.length∧st.sl 3=aI i∧∀ s ∈ d.st.take i,s.1≤2147483647∧s.2≤2147483647) d.st.length ?_ ?_
  ·exact ⟨0,rfl,Nat.zero_le _,q3,fun x q=>by cases q⟩
  rintro m z ⟨i,rfl,hi,h3,hal⟩;simp only [stB,Nat.reduceBEq] at h3
  rcases Nat.lt_or_ge i d.st.length with hlt | hge
  ·have ga:d.st[i]? = some (d.st[i]):=List.getElem?_eq_getElem hlt;generalize d.st[i]=x at ga;obtain ⟨x1,x2⟩:=x;have hmem:(x1,x2) ∈ d.st:=List.mem_of_getElem? ga;have ilt:(i:Int) < (d.st.length:Int):=by omega
   have w3:IntKind.i64.wrap ((i:Int)+1)=((i+1:Nat):Int):=by rw [bY (by omega) (by omega)];omega
   by_cases c1:x1 > 2147483647
   ·rw [jJ fun h=>by have:=(h.2.1 _ hmem).1;dsimp only at this;omega]
    simp only [↓evP,evB,stB,reduceCtorEq,Nat.reduceEqDiff,Nat.reduceAdd,Nat.reduceBEq,q1,g1,o1,h3,m1,ilt,ga,aQ,c1,decide_true,pr17]
    first | done | rfl
   by_cases c2:x2 > 2147483647
   ·rw [jJ fun h=>by have:=(h.2.1 _ hmem).2;dsimp only at this;omega]
    simp only [↓evP,evB,stB,reduceCtorEq,Nat.reduceEqDiff,Nat.reduceAdd,Nat.reduceBEq,q1,g1,o1,h3,m1,ilt,ga,aQ,c1,c2,decide_true,decide_false,pr17]
    first | done | rfl
   simp only [↓evP,evB,stB,reduceCtorEq,Nat.reduceEqDiff,Nat.reduceAdd,Nat.reduceBEq,q1,g1,o1,h3,m1,ilt,ga,aQ,c1,c2,decide_true,decide_false]
   exact ⟨_,by omega,(by repeat' (first | assumption | exact aV.mpr trivial | exact Within.refl _ _ _ | (refine bg ?_ rfl rfl) | (refine aW ?_ rfl))),i+1,rfl,hlt,by simp only [stB,Nat.reduceEqDiff,Nat.reduceBEq,h3,w3],fun s hs=>by
    rw [take_at ga] at hs
    rcases List.mem_append.1 hs with q | q
    ·exact hal s q
    ·rw [List.mem_singleton.1 q];exact ⟨by dsimp only;omega,by dsimp only;omega⟩⟩
  have hie:i=d.st.length:=by omega
  subst hie;rw [List.take_length] at hal;have ilt:¬ (d.st.length:Int) < (d.st.length:Int):=by omega
  simp only [↓evP,evB,stB,reduceCtorEq,Nat.reduceEqDiff,Nat.reduceBEq,q1,g1,o1,h3,m1,ilt,decide_false];refine dP [1,2,4] [1] (fun T hs2 ho2=>?_);simp only [stB,Nat.reduceEqDiff,Nat.reduceBEq,q1,q2,g1,o1] at hs2 ho2;obtain ⟨p1,p2,p4⟩:=hs2;obtain ⟨u1,v1⟩:=ho2;refine bH ms17_1 os17_1 (fun m st=>∃ i:Nat,m=es.length - i∧i≤es.length∧st.sl 4=aI i∧∀ e ∈ es.take i,e.valid=true∧e.stack < d.st.length) es.length ?_ ?_
  ·exact ⟨0,rfl,Nat.zero_le _,p4,fun x q=>by cases q⟩
  rintro m z2 ⟨i,rfl,hi,h4,hal2⟩;simp only [stB,Nat.reduceBEq] at h4
  rcases Nat.lt_or_ge i es.length with hlt | hge
  ·have ga:es[i]? = some (es[i]):=List.getElem?_eq_getElem hlt;generalize es[i]=x at ga;have hmem:x ∈ es:=List.mem_of_getElem? ga;have ilt:(i:Int) < (es.length:Int):=by omega
   have w3:IntKind.i64.wrap ((i:Int)+1)=((i+1:Nat):Int):=by rw [bY (by omega) (by omega)];omega
   simp only [↓evP,evB,stB,reduceCtorEq,Nat.reduceEqDiff,Nat.reduceAdd,Nat.reduceLeDiff,Nat.reduceBEq,p1,u1,v1,h4,m2,ilt,ga,Ev.row,decide_true];refine fP [pB x.valid] (by exact ⟨x,rfl,rfl⟩) ?_
   cases hxv:x.valid with
   | false =>
     rw [jJ fun h=>by have:=(h.2.2 _ hmem).1;rw [hxv] at this;cases this]
     simp only [↓evP,evB,stB,reduceCtorEq,Nat.reduceEqDiff,Nat.reduceBEq,p1,h4,pr17]
     first | done | exact (by unfold Drw;refine Eq.trans (b:=true) ?_ rfl;kernel_rfl) | exact ⟨(by unfold Drw;refine Eq.trans (b:=true) ?_ rfl;kernel_rfl),rfl⟩
   | true =>
     by_cases c2:x.stack≥(d.st.length:Int)
     ·rw [jJ fun h=>by have:=(h.2.2 _ hmem).2;omega]
      simp only [↓evP,evB,stB,reduceCtorEq,Nat.reduceEqDiff,Nat.reduceAdd,Nat.reduceBEq,p1,u1,v1,h4,m1,ga,Ev.row,c2,decide_true,pr17]
      first | done | exact (by unfold Drw;refine Eq.trans (b:=true) ?_ rfl;kernel_rfl) | exact ⟨(by unfold Drw;refine Eq.trans (b:=true) ?_ rfl;kernel_rfl),rfl⟩
     ·simp only [↓evP,evB,stB,reduceCtorEq,Nat.reduceEqDiff,Nat.reduceAdd,Nat.reduceBEq,p1,u1,v1,h4,m1,ga,Ev.row,c2,decide_false];refine ⟨(by unfold Drw;refine Eq.trans (b:=true) ?_ rfl;kernel_rfl),?_⟩
      exact ⟨_,by omega,(by repeat' (first | assumption | exact aV.mpr trivial | exact Within.refl _ _ _ | (refine bg ?_ rfl rfl) | (refine aW ?_ rfl))),i+1,rfl,hlt,by simp only [stB,Nat.reduceEqDiff,Nat.reduceBEq,h4,w3],fun s hs=>by
       rw [take_at ga] at hs
       rcases List.mem_append.1 hs with q | q
       ·exact hal2 s q
       ·rw [List.mem_singleton.1 q];exact ⟨hxv,by omega⟩⟩
  have hie:i=es.length:=by omega
  subst hie;rw [List.take_length] at hal2;have hS:eP es d:=⟨hv,hal,hal2⟩;have ok:=hS.ok l2 l1;rw [lJ hS];have ilt:¬ (es.length:Int) < (es.length:Int):=by omega
  simp only [↓evP,evB,stB,reduceCtorEq,Nat.reduceEqDiff,Nat.reduceAdd,Nat.reduceLeDiff,Nat.reduceBEq,p1,u1,v1,h4,m2,ilt,decide_false];refine aC [.one (.im (uT (bX d es)))] (by exact ⟨es,d,rfl,ok,rfl⟩) ?_;have hbl:=qZ (bX d es);have hbn:=oG d es;have hnb:dL es≤1000:=by unfold dL;omega
  simp only [↓evP,evB,stB,Nat.reduceEqDiff,Nat.reduceBEq];refine dP [2,5,6] [] (fun U hs3 _=>?_);simp only [stB,Nat.reduceEqDiff,Nat.reduceBEq,p2] at hs3;obtain ⟨r2,r5,r6⟩:=hs3;refine bH ms17_2 os17_2 (fun m st=>∃ i:Nat,m=(bX d es).length - i∧i≤(bX d es).length∧st.sl 6=aI i) (bX d es).length ?_ ?_
  ·exact ⟨0,rfl,Nat.zero_le _,r6⟩
  rintro m z3 ⟨i,rfl,hi,h6⟩;simp only [stB,Nat.reduceBEq] at h6
  rcases Nat.lt_or_ge i (bX d es).length with hlt | hge
  ·have ga:(bX d es)[i]? = some ((bX d es)[i]):=List.getElem?_eq_getElem hlt;generalize (bX d es)[i]=x at ga;have hxl:=nJ ok x (List.mem_of_getElem? ga);have gr:(uT (bX d es))[i]? = some [.im (byR x)]:=by unfold uT;rw [List.getElem?_map,ga];rfl
   have hxr:=aY x;have ilt:(i:Int) < ((bX d es).length:Int):=by omega
   have c1:¬ ((x.length:Int) > 1048584):=by omega
   have w3:IntKind.i64.wrap ((i:Int)+1)=((i+1:Nat):Int):=by rw [bY (by omega) (by omega)];omega
   simp only [↓evP,evB,stB,reduceCtorEq,Nat.reduceEqDiff,Nat.reduceBEq,r5,h6,hbl,ilt,gr,hxr,c1,decide_true,decide_false]
   exact ⟨_,by omega,(by repeat' (first | assumption | exact aV.mpr trivial | exact Within.refl _ _ _ | (refine bg ?_ rfl rfl) | (refine aW ?_ rfl))),i+1,rfl,hlt,by simp only [stB,Nat.reduceEqDiff,Nat.reduceBEq,h6,w3]⟩
  have hie:i=(bX d es).length:=by omega
  subst hie;have ilt:¬ ((bX d es).length:Int) < ((bX d es).length:Int):=by omega
  simp only [↓evP,evB,stB,reduceCtorEq,Nat.reduceEqDiff,Nat.reduceBEq,r5,h6,hbl,ilt,decide_false,pr17]
  first | done | rfl
 ·rw [pJ hv,jJ fun h=>hv h.1];simp only [↓evP,evB,stB,reduceCtorEq,Nat.reduceEqDiff,pr17]
  first | done | rfl
def gK (es:List Ev) (d:Dep):List Nat:=bW ++ (bX d es).flatten
theorem KC (a b:List Nat):byR a ++ byR b=byR (a ++ b):=(List.map_append ..).symm
theorem wU {l:List (List Nat)} {c:Nat} (h:∀ b ∈ l,b.length≤c):l.flatten.length≤c * l.length:=by
 induction l with
 | nil=>exact Nat.zero_le _
 | cons x l ih =>
   rw [List.flatten_cons,List.length_append,List.length_cons,Nat.mul_succ];have:=h x (List.mem_cons_self ..);have:=ih fun b hb=>h b (List.mem_cons_of_mem _ hb)
   omega
theorem Iw {es:List Ev} {d:Dep} (h:tu d es) (he:es.length≤320) (k:Nat):(bW ++ ((bX d es).take k).flatten).length≤700000:=by
 have hb:=oG d es;have h1:=wU (l:=(bX d es).take k) (c:=30014) fun b q=>nJ h b (lS q)
 have h2:((bX d es).take k).length≤21:=by
  rw [List.length_take,hb];unfold dL;omega
 have h3:=Nat.mul_le_mul_left 30014 h2;rw [List.length_append];have:bW.length=8:=rfl;omega
open Classical in
noncomputable def Af (es:List Ev) (d:Dep):List Pa:=if eP es d then [cu (gK es d),pI 0] else [cu [],pI 1]
open Classical in
theorem jR {es:List Ev} {d:Dep} (h:eP es d):Af es d=[cu (gK es d),pI 0]:=by unfold Af;exact if_pos h
open Classical in
theorem wO {es:List Ev} {d:Dep} (h:¬ eP es d):Af es d=[cu [],pI 1]:=by unfold Af;exact if_neg h
def NW (ps rs:List Pa):Prop:=∃ (es:List Ev) (d:Dep),ps=[eH es d]∧(es.length≤320∧d.st.length≤1000∧d.pr.length≤1000)∧rs=Af es d
noncomputable def KY:Env:=f1 21 Gh (e1 17 FM (e1 20 wJ e0))
theorem Ec:aA Try.prog KY:=aA.f1 QU (aA.e1 OL (aA.e1 Df aA.e0))
theorem Ut:Spec Try.prog 13 NW:=by
 refine sp13 Ec ?_;rintro ps rs ⟨es,d,rfl,⟨l1,l2,l3⟩,rfl⟩;refine ⟨by simp,?_⟩;unfold pc13
 with_reducible refine aJ ?_
 simp only [↓evP,evB,stB,Nat.reduceEqDiff,Nat.reduceAdd,Nat.reduceLeDiff,eH,dA];refine aC [pB (wE es d)] (by exact ⟨es,d,rfl,⟨by omega,l2,l3⟩,rfl⟩) ?_
 by_cases hS:eP es d
 ·have ok:=hS.ok l2 (by omega);rw [lJ hS,jR hS];simp only [↓evP,evB,stB,reduceCtorEq,Nat.reduceEqDiff,Nat.reduceAdd];refine kN (byR bW) (E:=5) (sz:=1) (by exact ⟨rfl,rfl,rfl,rfl⟩) ?_;have hh:=aY bW;simp only [↓evP,evB,stB,Nat.reduceEqDiff,Nat.reduceAdd,Nat.reduceLeDiff,hh];refine aC [.one (.im (uT (bX d es)))] (by exact ⟨es,d,rfl,ok,rfl⟩) ?_;have hbl:=qZ (bX d es);have hbn:=oG d es;have hnb:dL es≤1000:=by unfold dL;omega
  simp only [↓evP,evB,stB,Nat.reduceEqDiff];refine dP [2,3,4,5,6] [10] (fun U hs ho=>?_);simp only [stB,Nat.reduceEqDiff] at hs ho;obtain ⟨r2,r3,r4,r5,r6⟩:=hs;obtain ⟨g10,o10⟩:=ho;refine bH ms13_0 (10 :: os13_0) (fun m st=>∃ i:Nat,m=(bX d es).length - i∧i≤(bX d es).length∧st.sl 6=aI i∧st.sl 4=.b (.one (.own 10 1 (byR (bW ++ ((bX d es).take i).flatten))))∧st.gen 10=1∧st.ob 10=.row 5 1 (bW ++ ((bX d es).take i).flatten).length) (bX d es).length ?_ ?_
  ·exact ⟨0,rfl,Nat.zero_le _,r6,by rw [r4];rfl,g10,by rw [o10];rfl⟩
  rintro m z3 ⟨i,rfl,hi,h6,h4,hg,ho⟩;simp only [stB,Nat.reduceBEq] at h6 h4 hg ho;have hfl:=Iw ok l1 i;have hfr:=aY (bW ++ ((bX d es).take i).flatten)
  rcases Nat.lt_or_ge i (bX d es).length with hlt | hge
  ·have ga:(bX d es)[i]? = some ((bX d es)[i]):=List.getElem?_eq_getElem hlt;generalize (bX d es)[i]=x at ga;have hxl:=nJ ok x (List.mem_of_getElem? ga);have gr:(uT (bX d es))[i]? = some [.im (byR x)]:=by unfold uT;rw [List.getElem?_map,ga];rfl
   have hxr:=aY x;have ilt:(i:Int) < ((bX d es).length:Int):=by omega
   have w3:IntKind.i64.wrap ((i:Int)+1)=((i+1:Nat):Int):=by rw [bY (by omega) (by omega)];omega
   have hnx:bW ++ ((bX d es).take (i+1)).flatten=bW ++ ((bX d es).take i).flatten ++ x:=by rw [take_at ga,List.flatten_append,List.append_assoc];simp
   obtain ⟨F,hF⟩:∃ F,bW ++ ((bX d es).take i).flatten=F:=⟨_,rfl⟩
   rw [hF] at hnx hfl hfr h4 ho;have gF:F.length+x.length≤1000000:=by omega
   have ax:=dZ x;simp only [↓evP,evB,stB,reduceCtorEq,Nat.reduceEqDiff,Nat.reduceLeDiff,Nat.reduceBEq,r5,h6,h4,hg,ho,hbl,ilt,gr,hxr,hfr,KC,gF,ax,decide_true]
   exact ⟨_,by omega,(by repeat' (first | assumption | exact aV.mpr trivial | exact Within.refl _ _ _ | (refine bg ?_ rfl rfl) | (refine aW ?_ rfl))),i+1,rfl,hlt,by simp only [stB,Nat.reduceEqDiff,Nat.reduceBEq,h6,w3],by simp only [stB,Nat.reduceEqDiff,Nat.reduceBEq];rw [hnx],by simp only [stB,Nat.reduceBEq,hg],by simp only [stB,Nat.reduceBEq,ho];rw [hnx,List.length_append]⟩
  have hie:i=(bX d es).length:=by omega
  subst hie;have ilt:¬ ((bX d es).length:Int) < ((bX d es).length:Int):=by omega
  rw [List.take_length] at h4 ho hfl hfr;simp only [↓evP,evB,stB,reduceCtorEq,Nat.reduceEqDiff,Nat.reduceBEq,r3,r5,h6,h4,hbl,ilt,decide_false,gK,cu,pr13]
  first | done | rfl
 ·rw [jJ hS,wO hS];simp only [↓evP,evB,stB,reduceCtorEq,Nat.reduceEqDiff,Nat.reduceAdd,cu,pr13]
  first | done | rfl
end Go.Proofs.Ytkafcpnahpfbfaa
end
section
namespace Go.Proofs.Ytkafcpnahpfbfaa
open Go Go.RowKit
section
def iq:Pa→Hw
 | .one x=>.one (.d x)
 | .agg xs=>.agg (xs.map .d)
theorem QD (p:Pa):(iq p).bv=p.bv:=by
 cases p with
 | one x=>rfl
 | agg xs =>
   show Bv.agg ((xs.map Hc.d).map Hc.cl)=.agg (xs.map Cl.d)
   rw [List.map_map];rfl
theorem pX {W:Wit} {w:World} {p:Pa} {v:Value}:RHw W w (iq p) v↔RP W.S w p v:=by
 unfold RHw;rw [QD]
 cases p with
 | one x=>exact Iff.rfl
 | agg xs =>
   constructor
   ·rintro ⟨arr,h1,h2,h3⟩;refine ⟨arr,h1,by simpa using h2,fun i x u e1 e2=>h3 i (.d x) u (by rw [List.getElem?_map,e1];rfl) (by rw [Array.getElem?_toList];exact e2)⟩
   ·rintro ⟨arr,h1,h2,h3⟩;refine ⟨arr,h1,by simpa using h2,fun i c u e1 e2=>?_⟩;rw [List.getElem?_map,Option.map_eq_some_iff] at e1;obtain ⟨x,hx,rfl⟩:=e1;exact h3 i x u hx (by rw [Array.getElem?_toList] at e2;exact e2)
theorem J5 {W:Wit} {w:World} {ps:List Pa} {vals:Array Value}:nE W w (ps.map iq) vals↔RPs W.S w ps vals:=by
 constructor
 ·rintro ⟨h1,h2⟩;exact ⟨by simpa using h1,fun i p u e1 e2=>pX.1 (h2 i _ u (by rw [List.getElem?_map,e1];rfl) e2)⟩
 ·rintro ⟨h1,h2⟩;refine ⟨by simpa using h1,fun i p u e1 e2=>?_⟩;rw [List.getElem?_map,Option.map_eq_some_iff] at e1;obtain ⟨x,hx,rfl⟩:=e1;exact pX.2 (h2 i x u hx e2)
theorem VH {W:Wit} {w:World} {rs:List Pa} {u:Value}:RRH W w (rs.map iq) u↔RR W.S w rs u:=by
 match rs with
 | []=>exact Iff.rfl
 | [p]=>exact pX
 | p :: q :: r =>
   constructor
   ·rintro ⟨vs,h1,h2⟩;exact ⟨vs,h1,J5.1 h2⟩
   ·rintro ⟨vs,h1,h2⟩;exact ⟨vs,h1,J5.2 h2⟩
theorem RHp.upd {W W':Wit} {w w':World} {hp:Nat→Hb} (h:RHp W w hp) (hf:Fol W G0 O0 w W' G0 O0 w') {b:Nat} {x:Hb} (hx:x≠.no) (hlv:∀ m,W'.lv m↔m=b∨W.lv m) (hhf:∀ m,m≠b→W'.hf m=W.hf m)
 (hS:∀ k,k < w.heap.size→W'.S k=W.S k) (hsz:w.heap.size≤w'.heap.size) (hbl:∀ m,m≠b→∀ k,hcl W m (hp m) k→w'.heap[k]? = w.heap[k]?) (hn:RH W' G0 O0 w' b x)
 (hm:∀ k,hcl W' b x k→W'.S k=0∧k < w'.heap.size∧∀ m,m≠b→¬ hcl W m (hp m) k):RHp W' w' (up hp b x):=by
 have hat:∀ m,m≠b→up hp b x m=hp m:=fun m hm2=>by rw [ay,if_neg hm2]
 have hself:up hp b x b=x:=by rw [ay,if_pos rfl]
 have hc:∀ m,m≠b→∀ k,hcl W' m (up hp b x m) k↔hcl W m (hp m) k:=fun m hm2 k=>by
  rw [hat m hm2];exact hcl.fol hf (fun hne=>(h.lv m).2 hne) (hhf m hm2) k
 refine ⟨fun m=>?_,fun m k hk=>?_,fun m=>?_,fun m m' k e1 e2=>?_⟩
 ·rw [hlv]
  by_cases hmb:m=b
  ·subst hmb;rw [hself];exact ⟨fun _=>hx,fun _=>.inl rfl⟩
  ·rw [hat m hmb,←h.lv m];exact ⟨fun q=>q.resolve_left hmb,.inr⟩
 ·by_cases hmb:m=b
  ·subst hmb;rw [hself] at hk;exact ⟨(hm k hk).1,(hm k hk).2.1⟩
  ·obtain ⟨q1,q2⟩:=h.mine m k ((hc m hmb k).1 hk);exact ⟨by rw [hS k q2];exact q1,by omega⟩
 ·by_cases hmb:m=b
  ·subst hmb;rw [hself];exact hn
  ·rw [hat m hmb];exact RH.fol hf (h.at_ m) (fun hne=>(h.lv m).2 hne) (hhf m hmb) (hbl m hmb)
 ·by_cases hmb:m=b
  ·by_cases hmb':m'=b
   ·rw [hmb,hmb']
   ·subst hmb;rw [hself] at e1;exact absurd ((hc m' hmb' k).1 e2) ((hm k e1).2.2 m' hmb')
  ·by_cases hmb':m'=b
   ·subst hmb';rw [hself] at e2;exact absurd ((hc m hmb k).1 e1) ((hm k e2).2.2 m hmb)
   ·exact h.ex m m' k ((hc m hmb k).1 e1) ((hc m' hmb' k).1 e2)
theorem GI {W:Wit} {w:World} {b:Nat} {az:List Hw} {vals:Array Value} (h:nE W w (.one (.h (.v b)) :: az) vals):W.lv b∧∃ vals':Array Value,vals=#[W.nv b] ++ vals'∧nE W w az vals':=by
 obtain ⟨h1,h2⟩:=h;have hpos:0 < vals.size:=by rw [←h1];simp
 have h0:=h2 0 _ vals[0] rfl (Array.getElem?_eq_getElem hpos);obtain ⟨e1,e2,e3⟩:vals[0]=rv W (.v b)∧_∧W.lv b:=h0;refine ⟨e3,vals.extract 1 vals.size,?_,?_,fun i x u q1 q2=>h2 (i+1) x u q1 ?_⟩
 ·apply Array.ext'
  have:vals.toList≠[]:=fun hn=>by
   have h3:=congrArg List.length hn;rw [Array.length_toList] at h3;have h4:vals.size=0:=h3;omega
  obtain ⟨y,ys,hy⟩:=List.exists_cons_of_ne_nil this;have hv:vals=(y :: ys).toArray:=by apply Array.ext';simpa using hy
  subst hv;have:y=W.nv b:=e1;subst this;simp
 ·simp;simp at h1;omega
 ·rw [Array.getElem?_extract] at q2;split at q2
  ·rw [←q2,Nat.add_comm]
  ·cases q2
theorem kZ {W:Wit} {w w':World} {fp:Nat→Prop} {S':Nat→Nat} (h:kK fp w w') (h0:∀ b,fp b→W.S b=0) (hS:∀ b,b < w.heap.size→S' b=W.S b):Ext W.S S' w w':=fun b i h1 h2=>by
 have hlt:=cell_lt h2;have hnf:¬ fp b:=fun q=>by rw [h0 b q] at h1;omega
 exact ⟨by rw [hS b hlt];exact h1,by simp [World.cell?,h.block b hlt hnf]⟩
variable {P:Program} {f:Nat}
theorem JO.toH [I:bS] {R:Option HP→List Pa→HP→List Pa→Prop} (h:JO P f R):gI P f (fun hp az hp' rs=>∃ b H ps H' rs',az=.one (.h (.v b)) :: ps.map iq∧hp b=.ab H∧R (some H) ps H' rs'∧hp'=up hp b (.ab H')∧rs=rs'.map iq):=by
 rintro hp az hp' rs ⟨b,H,ps,H',rs',rfl,hb,hR,rfl,rfl⟩ W w vals hI hrp hvals;obtain ⟨hlb,vals',rfl,hv'⟩:=GI hvals;have hat:H.r w (W.nv b) (W.hf b):=by have:=hrp.at_ b;rw [hb] at this;exact this
 have hmine:∀ k,W.hf b k→W.S k=0∧k < w.heap.size:=fun k hk=>hrp.mine b k (by rw [hb];exact hk)
 refine (h _ _ _ _ hR W.S w vals' (hI w ⟨rfl,rfl,rfl,Nat.le_refl _,fun _ _ _=>rfl⟩) (J5.1 hv') (W.nv b) (W.hf b) hat (fun k hk=>(hmine k hk).1)).mono ?_;rintro e w' ⟨u,S',fp',rfl,q1,q2,q3,q4,q5⟩
 obtain ⟨W',hW'⟩:∃ W':Wit,{ W with S:=S',hf:=up W.hf b fp' }=W':=⟨_,rfl⟩
 have e1:W'.S=S':=by rw [←hW']
 have e2:W'.nm=W.nm∧W'.nv=W.nv∧W'.lv=W.lv:=by rw [←hW'];exact ⟨rfl,rfl,rfl⟩
 have e3:W'.hf=up W.hf b fp':=by rw [←hW']
 have hfol:Fol W G0 O0 w W' G0 O0 w':=⟨by rw [e1];exact kZ q3 (fun k hk=>(hmine k hk).1) q5,fun _=>Nat.le_refl _,fun _ _=>by rw [←hW'],fun o E sz n' _ ho=>(by cases ho),fun _ _=>by rw [←hW'],fun m hm=>⟨by rw [e2.2.2];exact hm,by rw [e2.1],by rw [e2.2.1]⟩,by rw [←hW']⟩
 have hsub:∀ k,W.hf b k→dK W hp k:=fun k hk=>⟨b,by rw [hb];exact hk⟩
 have hrp':RHp W' w' (up hp b (.ab H')):=by
  refine hrp.upd hfol (by simp) (fun m=>?_) (fun m hm=>by rw [e3,ay,if_neg hm]) (fun k hk=>by rw [e1];exact q5 k hk) q3.size (fun m hm k hk=>?_) ?_ (fun k hk=>?_)
  ·rw [e2.2.2];exact ⟨.inr,fun q=>q.elim (fun q=>by rw [q];exact hlb) id⟩
  ·have:=(hrp.mine m k hk).2;refine q3.block k this (fun hf2=>hm (hrp.ex m b k hk (by rw [hb];exact hf2)))
  ·show H'.r w' (W'.nv b) (W'.hf b)
   rw [e2.2.1,e3,ay,if_pos rfl];exact q2
  ·have hk':W'.hf b k:=hk;rw [e3,ay,if_pos rfl] at hk';obtain ⟨r1,r2⟩:=q4 k hk';refine ⟨by rw [e1];exact r2,H'.lt _ _ _ _ q2 hk',fun m hm hk2=>?_⟩
   rcases r1 with r1 | r1
   ·exact hm (hrp.ex m b k hk2 (by rw [hb];exact r1))
   ·have:=(hrp.mine m k hk2).2;omega
 refine ⟨u,W',rfl,VH.2 (by rw [e1];exact q1),hrp',fun m hm=>⟨by rw [e2.2.2];exact hm,by rw [e2.1],by rw [e2.2.1]⟩,⟨q3.os,q3.tape,q3.output,q3.size,fun k hk hn=>q3.block k hk (fun q=>hn (hsub k q))⟩,fun k hk=>?_,fun k hk=>by rw [e1];exact q5 k hk⟩
 obtain ⟨m,hm⟩:=hk
 by_cases hmb:m=b
 ·subst hmb;rw [ay,if_pos rfl] at hm;have hk':W'.hf m k:=hm;rw [e3,ay,if_pos rfl] at hk';exact (q4 k hk').1.imp (hsub k) id
 ·rw [ay,if_neg hmb] at hm;refine .inl ⟨m,(hcl.fol hfol (fun hne=>(hrp.lv m).2 hne) (by rw [e3,ay,if_neg hmb]) k).1 hm⟩
theorem Qg {W:Wit} {w w':World} {hp:Nat→Hb} {b:Nat} {H:HP} {S':Nat→Nat} {adr:Value} {fp':Nat→Prop} (hrp:RHp W w hp) (hb:hp b=.no) (hone:adr.oneCell'=true) (hr:H.r w' adr fp') (hbe:Below w.heap.size w w') (hfp:∀ k,fp' k→w.heap.size≤k∧S' k=0) (hS:∀ k,k < w.heap.size→S' k=W.S k)
 {W':Wit} (hW':W'={ W with S:=S',nv:=up W.nv b adr,hf:=up W.hf b fp',lv:=fun m=>m=b∨W.lv m }) :
 RHp W' w' (up hp b (.ab H))∧(∀ m,W.lv m→W'.lv m∧W'.nm m=W.nm m∧W'.nv m=W.nv m)∧kK (dK W hp) w w'∧(∀ k,dK W' (up hp b (.ab H)) k→dK W hp k∨w.heap.size≤k)∧(∀ k,k < w.heap.size→W'.S k=W.S k)∧RHw W' w' (.one (.h (.v b))) adr:=by
 have hnl:¬ W.lv b:=fun q=>(hrp.lv b).1 q hb
 have hne:∀ m,W.lv m→m≠b:=fun m hm e=>hnl (e ▸ hm)
 have e1:W'.S=S':=by rw [hW']
 have hnm:∀ m,W.lv m→W'.lv m∧W'.nm m=W.nm m∧W'.nv m=W.nv m:=fun m hm=>by
  rw [hW'];exact ⟨.inr hm,rfl,by show up W.nv b adr m=_;rw [ay,if_neg (hne m hm)]⟩
 have hfol:Fol W G0 O0 w W' G0 O0 w':=⟨by
  rw [e1];exact kZ (fp:=fun _=>False) ⟨hbe.os,hbe.tape,hbe.output,hbe.size,fun k hk _=>hbe.block k hk⟩ (fun _ q=>q.elim) hS,fun _=>Nat.le_refl _,fun _ _=>by rw [hW'],fun o E sz n' _ ho=>(by cases ho),fun _ _=>by rw [hW'],hnm,by rw [hW']⟩
 have ehf:W'.hf=up W.hf b fp':=by rw [hW']
 have env':W'.nv b=adr:=by rw [hW'];show up W.nv b adr b=_;rw [ay,if_pos rfl]
 have hself:W'.hf b=fp':=by rw [ehf,ay,if_pos rfl]
 refine ⟨hrp.upd hfol (by simp) (fun m=>by rw [hW']) (fun m hm=>by rw [ehf,ay,if_neg hm]) (fun k hk=>by rw [e1];exact hS k hk) hbe.size (fun m hm k hk=>hbe.block k (hrp.mine m k hk).2) ?_ (fun k hk=>?_),hnm,⟨hbe.os,hbe.tape,hbe.output,hbe.size,fun k hk _=>hbe.block k hk⟩,fun k ⟨m,hm⟩=>?_,fun k hk=>by rw [e1];exact hS k hk,?_⟩
 ·show H.r w' (W'.nv b) (W'.hf b)
  rw [env',hself];exact hr
 ·have hk':W'.hf b k:=hk;rw [hself] at hk';refine ⟨by rw [e1];exact (hfp k hk').2,H.lt _ _ _ _ hr hk',fun m hm hk2=>?_⟩
  have:=(hrp.mine m k hk2).2;have:=(hfp k hk').1;omega
 ·by_cases hmb:m=b
  ·subst hmb;rw [ay,if_pos rfl] at hm;have hk':W'.hf m k:=hm;rw [hself] at hk';exact .inr (hfp k hk').1
  ·rw [ay,if_neg hmb] at hm;exact .inl ⟨m,(hcl.fol hfol (fun hne=>(hrp.lv m).2 hne) (by rw [ehf,ay,if_neg hmb]) k).1 hm⟩
 ·refine ⟨env'.symm,hone,?_⟩
  show W'.lv b
  rw [hW'];exact .inl rfl
theorem JQ.toH [I:bS] {R:HP→HP→Prop} (h:JQ P f R):gI P f (fun hp az hp' rs=>∃ b H b2 H2,az=[.one (.h (.v b))]∧hp b=.ab H∧hp b2=.no∧R H H2∧hp'=up hp b2 (.ab H2)∧rs=[.one (.h (.v b2))]):=by
 rintro hp az hp' rs ⟨b,H,b2,H2,rfl,hb,hb2,hR,rfl,rfl⟩ W w vals hI hrp hvals;obtain ⟨hlb,vals',rfl,hv'⟩:=GI hvals
 have hz:vals'=#[]:=by
  have:=hv'.1;simp at this;exact Array.size_eq_zero_iff.1 this.symm
 subst hz;have hat:H.r w (W.nv b) (W.hf b):=by have:=hrp.at_ b;rw [hb] at this;exact this
 refine (h _ _ hR w (W.nv b) (W.hf b) (hI w ⟨rfl,rfl,rfl,Nat.le_refl _,fun _ _ _=>rfl⟩) hat).mono ?_;rintro e w' ⟨adr,fp',rfl,q2,q3,q4,q5⟩;obtain ⟨r1,r2,r3,r4,r5,r6⟩:=Qg (S':=fun k=>if k < w.heap.size then W.S k else 0) hrp hb2 q2 q3 q4 (fun k hk=>⟨q5 k hk,if_neg (by have:=q5 k hk;omega)⟩) (fun k hk=>if_pos hk) rfl
 exact ⟨adr,_,rfl,r6,r1,r2,r3,r4,r5⟩
end
end Go.Proofs.Ytkafcpnahpfbfaa
end
section
namespace Go.Proofs.Ytkafcpnahpfbfaa
open Go Go.RowKit
set_option maxRecDepth 100000
section
variable {P:Program} {n:Nat} {w0:World} {S0:Nat→Nat}
theorem Rf (l m:Nat) {o:Oper} {a:Act} {w:World} {next next':Act→World→Prop} {Q:Exit→Act→World→Prop} (hnd:∀ c,o.op≠.defer c) (hQ:¬ LetsOut Q) (hn:∀ a w,next a w→next' a w) (h:o.wp P a w next Q):o.wpIn (Fence.wide.inRound l) m P a w next' Q:=by
 refine ⟨fun _ _=>trivial,?_⟩;rw [Fence.inRound_round,Oper.semAt_eq _ _ _ hnd];unfold Oper.wp at h;generalize (execOp a.eval o).run P w=r at h ⊢
 cases r with
 | ok x w' =>
   cases x with
   | value v=>exact hn _ _ h
   | skip=>exact hn _ _ h
   | defer d=>exact hn _ _ h
   | enter f args =>
     refine ⟨fun h2=>(by cases h2),CallsIn.inRound l (callsIn_wide.2 (Calls.mono h (fun e w2 he=>?_)))⟩
     cases e with
     | returned v=>exact hn _ _ he
     | panicked ch=>exact he
     | outgrown=>exact he
   | row r args =>
     refine ⟨fun h2=>(by cases h2),?_⟩;intro c cs _;obtain ⟨v,w2,h1,h2⟩:=h c cs;exact ⟨v,w2,hn _ _ h1,stepsIn_wide.2 h2⟩
   | _=>exact h.elim
 | halt s w' =>
   cases s with
   | panic v=>exact h
   | _=>exact h.elim
theorem ou (l m:Nat) {ops:Array Oper} {Q:Exit→Act→World→Prop} (hnd:∀ o ∈ ops.toList,∀ c,o.op≠.defer c) (hQ:¬ LetsOut Q):∀ (is:List Nat) (a:Act) (w:World),wpOps P ops Q is a w→wpOpsIn (Fence.wide.inRound l) m P ops Q is a w
 | [],_,_,h=>h
 | i :: rest,a,w,h=>by
   unfold wpOps at h;unfold wpOpsIn
   cases ho:ops[i]? with
   | none=>simp only [ho] at h ⊢;exact ou l m hnd hQ rest a w h
   | some o =>
     simp only [ho] at h ⊢;split at h
     ·rename_i hw;rw [if_pos hw]
      rcases h with h | ⟨_,h⟩
      ·exact Rf l m (hnd o (by rw [Array.mem_toList_iff];exact Array.mem_of_getElem? ho)) hQ (fun a w=>ou l m hnd hQ rest a w) h
      ·exact absurd h hQ
     ·rename_i hw;rw [if_neg hw];exact ⟨fun _ _=>trivial,ou l m hnd hQ rest _ w h⟩
def iY:Code→Bool
 | .region _ ops draw=>!draw && ops.toList.all fun o=>match o.op with | .defer _=>false | _=>true
 | .seq a b=>iY a && iY b
 | .cond _ a b=>iY a && iY b
 | .block _ c=>iY c
 | .loop c=>iY c
 | _=>true
theorem zu {F:Fence} {m:Nat} {Q:Exit→Act→World→Prop} {a:Act} {w:World} {c:Code} (I:Nat→Act→World→Prop) (h0:∃ n,I n a w)
 (round:∀ n a w,I n a w→c.wpIn F m P (Exit.then (fun a' w'=>∃ m,m < n∧I m a' w') Q) a w):(Code.loop c).wpIn F m P Q a w:=by
 classical
 let μ:Act→World→Nat:=fun a w=>if h:∃ n,I n a w then Classical.choose (exists_least _ h) else 0
 have hμ:∀ a w (h:∃ n,I n a w),I (μ a w) a w∧∀ m,I m a w→μ a w≤m:=fun a w h=>by
  have h1:μ a w=Classical.choose (exists_least _ h):=dif_pos h;rw [h1];exact Classical.choose_spec (exists_least _ h)
 refine wpIn_loop (fun a w=>∃ n,I n a w) μ h0 (fun a w h=>?_);refine wpIn_mono (round _ a w (hμ a w h).1) (fun e a' w' he=>?_)
 cases e with
 | normal =>
   obtain ⟨m,hlt,hm⟩:=he;exact ⟨⟨m,hm⟩,Nat.lt_of_le_of_lt ((hμ a' w' ⟨m,hm⟩).2 m hm) hlt⟩
 | _=>exact he
theorem za [Bor] [I:bS] (l m:Nat) {env:Env} (hE:aA P env) (hp:∀ w,iL w0.heap.size w0 w→I.p w) {eqs:List (Nat×List Bool)} (heq:∀ p,p ∈ eqs→EqT P p.1 p.2):∀ (c:Code) (pc:PC),bI P n eqs c=some pc→iY c=true →
 ∀ (Q:Exit→St→Prop),(∀ s,¬ Q .outgrown s)→∀ (W:Wit) (s:St) (a:Act) (w:World),pwp env pc Q s→Sim w0 S0 n W s a w→c.wpIn (Fence.wide.inRound l) m P (fun e a' w'=>∃ W' s',Sim w0 S0 n W' s' a' w'∧Q e s') a w:=by
 intro c
 induction c with
 | skip=>intro pc hc _ Q _ W s a w h hs;simp [bI] at hc;subst hc;exact wpIn_skip ⟨W,s,hs,h⟩
 | region id ops draw =>
   intro pc hc hb Q hQ W s a w h hs;simp only [bI,Option.map_eq_some_iff] at hc;obtain ⟨is,his,rfl⟩:=hc;have hmap:=fB _ _ his;simp only [iY,Bool.and_eq_true,Bool.not_eq_true',List.all_eq_true] at hb;obtain ⟨rfl,hnd⟩:=hb;refine wpIn_region ?_;have hlen:is.length=ops.size:=by have:=congrArg List.length hmap;simp at this;omega
   have:=OB hE hp heq (ops:=ops) (Q:=fun e a' w'=>∃ W' s',Sim w0 S0 n W' s' a' w'∧Q e s') (K:=Q .normal) (fun s W a w h1 h2=>⟨W,s,h2,h1⟩) is 0 W s a w (by simpa using hmap) hs h;rw [hlen] at this;rw [List.range_eq_range'];refine ou l m (fun o ho c he=>?_) ?_ _ _ _ this
   ·have:=hnd o ho;rw [he] at this;cases this
   ·rintro ⟨a0,w0',W',s',_,hq⟩;exact hQ _ hq
 | seq x y ihx ihy =>
   intro pc hc hb Q hQ W s a w h hs;simp only [bI] at hc;split at hc
   ·rename_i px py hx hy;cases hc;simp only [iY,Bool.and_eq_true] at hb
    refine wpIn_seq (wpIn_mono (ihx px hx hb.1 (fun e s'=>match e with | .normal=>pwp env py Q s' | e=>Q e s') (fun s h=>hQ s h) W s a w h hs) (fun e a' w' he=>?_));obtain ⟨W',s',hs',hq⟩:=he
    cases e with
    | normal=>exact ihy py hy hb.2 Q hQ W' s' a' w' hq hs'
    | _=>exact ⟨W',s',hs',hq⟩
   ·cases hc
 | cond co x y ihx ihy =>
   intro pc hc hb Q hQ W s a w h hs;simp only [bI] at hc;split at hc
   ·rename_i pcn px py hcn hx hy;cases hc;simp only [iY,Bool.and_eq_true] at hb;obtain ⟨t,ht,h1,h2⟩:=aj.1 h;exact wpIn_cond_split (uK hs hcn ht) (fun he=>ihx px hx hb.1 Q hQ W s a w (h1 he) hs) (fun he=>ihy py hy hb.2 Q hQ W s a w (h2 he) hs)
   ·cases hc
 | block id x ih =>
   intro pc hc hb Q hQ W s a w h hs;simp only [bI,Option.map_eq_some_iff] at hc;obtain ⟨px,hx,rfl⟩:=hc
   refine wpIn_block (wpIn_mono (ih px hx hb (fun e s'=>match e with | .exit i=>if i=id then Q .normal s' else Q (.exit i) s' | e=>Q e s') (fun s h=>hQ s h) W s a w h hs) (fun e a' w' he=>?_));obtain ⟨W',s',hs',hq⟩:=he
   cases e with
   | exit i =>
     by_cases hi:i=id
     ·simp only [hi,if_true] at hq;simp only [Exit.inBlock,hi,if_true];exact ⟨W',s',hs',hq⟩
     ·simp only [hi,if_false] at hq;simp only [Exit.inBlock,hi,if_false];exact ⟨W',s',hs',hq⟩
   | _=>exact ⟨W',s',hs',hq⟩
 | loop x ih =>
   intro pc hc hb Q hQ W s a w h hs;simp only [bI,Option.map_eq_some_iff] at hc;obtain ⟨px,hx,rfl⟩:=hc;obtain ⟨J,⟨k,hk⟩,hr⟩:=h;refine zu (fun k a w=>∃ W s,Sim w0 S0 n W s a w∧J k s) ⟨k,W,s,hs,hk⟩ (fun k a w h=>?_);obtain ⟨W,s,hs,hI⟩:=h
   refine wpIn_mono (ih px hx hb (fun e s'=>match e with | .normal=>∃ m,m < k∧J m s' | e=>Q e s') (fun s h=>hQ s h) W s a w (hr k s hI) hs) (fun e a' w' he=>?_);obtain ⟨W',s',hs',hq⟩:=he
   cases e with
   | normal =>
     obtain ⟨m,hlt,hm⟩:=hq;exact ⟨m,hlt,W',s',hs',hm⟩
   | _=>exact ⟨W',s',hs',hq⟩
 | exit id=>intro pc hc _ Q _ W s a w h hs;simp [bI] at hc;subst hc;exact wpIn_exit ⟨W,s,hs,h⟩
 | ret=>intro pc hc _ Q _ W s a w h hs;simp [bI] at hc;subst hc;exact wpIn_ret ⟨W,s,hs,h⟩
 | rangeFunc=>intro pc hc;simp [bI] at hc
 | scope=>intro pc hc;simp [bI] at hc
 | label=>intro pc hc _ Q _ W s a w h hs;simp [bI] at hc;subst hc;exact wpIn_label ⟨W,s,hs,h⟩
 | goto=>intro pc hc _ Q _ W s a w h hs;simp [bI] at hc;subst hc;exact wpIn_goto ⟨W,s,hs,h⟩
 | refuse=>intro pc hc;simp [bI] at hc
end
def St.mM (nc:Nat→Nat) (hp:Nat→Hb) (sl:Nat→Av):St:=⟨sl,fun _=>0,(St.fA nc hp []).ob,nc⟩
theorem nV (nc:Nat→Nat) (hp:Nat→Hb) (sl:Nat→Av):(St.mM nc hp sl).hb=hp:=rO nc hp []
structure Piece (W:Wit) (w:World) (hp:Nat→Hb) (n:Nat) (df:List Deferred) (s':St) (W':Wit) (a':Act) (w':World):Prop where
 rhp:RHp W' w' s'.hb
 sl:∀ x p,(s'.sl x).hw=some p→RHw W' w' p (a'.tmps.getD x undef)
 len:a'.tmps.size=n
 dfs:a'.defers=df
 keep:∀ b,W.lv b→W'.lv b∧W'.nm b=W.nm b∧W'.nv b=W.nv b
 but:kK (dK W hp) w w'
 fp:∀ k,dK W' s'.hb k→dK W hp k∨w.heap.size≤k
 S:∀ k,k < w.heap.size→W'.S k=W.S k
section
variable {P:Program} {n:Nat}
def Kq (W:Wit) (w:World) (sl:Nat→Av) (a:Act):Prop:=∀ x,sl x=.un∨∃ p:Hw,sl x=.b p.bv∧RHw W w p (a.tmps.getD x undef)
theorem vY {W:Wit} {w:World} {hp:Nat→Hb} {a:Act} {sl:Nat→Av} (nc:Nat→Nat) (hrp:RHp W w hp) (hlen:a.tmps.size=n) (hsm:Nat.ble n gZ=true) (hsl:Kq W w sl a) :
 @Sim ⟨none,dK W hp,W.lv,W.nm,W.nv,a.defers⟩ w W.S n { W with nc:=nc,blk:=fun _=>0,val:=fun _=>undef,adr:=fun _=>undef,fp:=fun _ _=>False } (St.mM nc hp sl) a w:=by
 letI:Bor:=⟨none,dK W hp,W.lv,W.nm,W.nv,a.defers⟩
 have hfpB:∀ k,Bor.fp k↔dK W hp k:=fun k=>⟨fun h=>h.elim (fun h=>by cases h) id,.inr⟩
 obtain ⟨W0,hW0⟩:∃ W0:Wit,{ W with nc:=nc,blk:=fun _=>0,val:=fun _=>undef,adr:=fun _=>undef,fp:=fun _ _=>False }=W0:=⟨_,rfl⟩
 have hcl0:∀ o b,cl W0 o ((St.mM nc hp sl).ob o) b→HBS≤o∧∃ m,HBS+nc m=o∧hcl W m (hp m) b:=fun o b h=>by
  have h':cl W0 o (if HBS≤o then .hp (fun b=>if HBS+nc b=o then hp b else .no) else .no) b:=h;split at h'
  ·rename_i ho;obtain ⟨m,hm2⟩:=h';dsimp only at hm2;split at hm2
   ·rename_i he;exact ⟨ho,m,he,(hcl.indep (W:=W) (by rw [←hW0]) (by rw [←hW0]) (by rw [←hW0]) m (hp m) b).1 hm2⟩
   ·exact hm2.elim
  ·exact h'.elim
 rw [hW0];refine ⟨iL.refl _ _,fun b _=>by rw [←hW0],hlen,rfl,fun x=>?_,fun o=>?_,fun o o' b h h'=>?_,(fun b h=>by cases h),by rw [←hW0];rfl,fun b=>by rw [nV,←hW0];exact hrp.lv b,Nat.le_of_ble_eq_true hsm,fun b hb2=>by rw [←hW0];exact ⟨hb2,rfl,rfl⟩⟩
 ·show RA W0 _ _ w (sl x) _
  rcases hsl x with h | ⟨p,h,hr⟩
  ·rw [h];trivial
  ·rw [h];exact RB.indep (W:=W) (by rw [←hW0]) (by rw [←hW0]) (by rw [←hW0]) (by rw [←hW0]) hr
 ·show RO _ _ _ _ _ _ (if HBS≤o then .hp (fun b=>if HBS+nc b=o then hp b else .no) else .no)
  split
  ·rename_i ho;rw [←hW0];exact hrp.zM nc [] ho (fun k hk=>(hfpB k).2 hk)
  ·trivial
 ·obtain ⟨_,m,h1,h2⟩:=hcl0 o b h;obtain ⟨_,m',h3,h4⟩:=hcl0 o' b h';have:=hrp.ex m m' b h2 h4;subst this;rw [←h1,←h3]
theorem yT {W:Wit} {w:World} {hp:Nat→Hb} {df:List Deferred} {W':Wit} {s':St} {a':Act} {w':World} (hs':@Sim ⟨none,dK W hp,W.lv,W.nm,W.nv,df⟩ w W.S n W' s' a' w'):Piece W w hp n df s' W' a' w':=by
 letI:Bor:=⟨none,dK W hp,W.lv,W.nm,W.nv,df⟩
 have hfpB:∀ k,Bor.fp k↔dK W hp k:=fun k=>⟨fun h=>h.elim (fun h=>by cases h) id,.inr⟩
 obtain ⟨hrp',hmine'⟩:=hs'.rhp;refine ⟨hrp',fun x p hx=>?_,hs'.len,hs'.dfs,hs'.nm0,⟨hs'.below.os,hs'.below.tape,hs'.below.output,hs'.below.size,fun k hk hne=>hs'.below.block k hk (fun e=>hne ((hfpB k).1 e))⟩,fun k ⟨b,hk⟩=>?_,hs'.s0⟩
 ·exact RB.indep rfl rfl rfl rfl (JY (n:=n) (w0:=w) (S0:=W.S) (a:=a') (hs'.sl x) hx)
 ·obtain ⟨hmk,_⟩:=hmine' b k hk
  rcases hmk with h | h
  ·exact .inr h
  ·exact .inl ((hfpB k).1 h)
theorem xJ [I:bS] (l m:Nat) {env:Env} (hE:aA P env) {eqs:List (Nat×List Bool)} (heq:∀ p,p ∈ eqs→EqT P p.1 p.2) {c:Code} {pc:PC} (hc:bI P n eqs c=some pc) (hnd:iY c=true) (hsm:Nat.ble n gZ=true)
 {W:Wit} {w:World} {hp:Nat→Hb} {a:Act} {sl:Nat→Av} (nc:Nat→Nat) {Q:Exit→St→Prop} (hQ:∀ s,¬ Q .outgrown s) (h:pwp env pc Q (St.mM nc hp sl)) (hI:∀ w',kK (dK W hp) w w'→I.p w') (hrp:RHp W w hp) (hlen:a.tmps.size=n) (hsl:Kq W w sl a) :
 c.wpIn (Fence.wide.inRound l) m P (fun e a' w'=>∃ s' W',Q e s'∧Piece W w hp n a.defers s' W' a' w') a w:=by
 letI:Bor:=⟨none,dK W hp,W.lv,W.nm,W.nv,a.defers⟩
 have hfpB:∀ k,Bor.fp k↔dK W hp k:=fun k=>⟨fun h=>h.elim (fun h=>by cases h) id,.inr⟩
 refine wpIn_mono (za l m hE (fun w2 h2=>hI w2 ⟨h2.os,h2.tape,h2.output,h2.size,fun k hk hne=>h2.block k hk (fun e=>hne ((hfpB k).1 e))⟩) heq c pc hc hnd _ hQ _ _ _ _ h (vY nc hrp hlen hsm hsl)) (fun e a' w' he=>?_);obtain ⟨W',s',hs',hq⟩:=he;exact ⟨s',W',hq,yT hs'⟩
theorem Piece.ext {W:Wit} {w:World} {hp:Nat→Hb} {df:List Deferred} {s':St} {W':Wit} {a':Act} {w':World} (h:Piece W w hp n df s' W' a' w') (hrp:RHp W w hp):Ext W.S W'.S w w':=fun b i h1 h2=>by
 exact kZ h.but (fun k ⟨m,hm⟩=>(hrp.mine m k hm).1) h.S b i h1 h2
end
def Hc.pa (hp:Nat→Hb):Hc→Option Dt
 | .d (.sc (.slice none 0 0))=>some (.im [])
 | .d x=>some x
 | .h (.v b)=>match hp b with
   | .vec _ _ rows=>some (.im rows)
   | _=>none
 | .h _=>none
def Hw.pa (hp:Nat→Hb):Hw→Option Pa
 | .one c=>(c.pa hp).map .one
 | .agg cs=>(aD (cs.map (Hc.pa hp))).map .agg
theorem o7 [I:bS] {P:Program} {f:Nat} {R':(Nat→Hb)→List Hw→((Nat→Hb)→List Hw→Prop)→Prop} (h:dY P f R') {R:List Pa→List Pa→Prop}
 (hR:∀ az rs,R az rs→∃ Post,R' (fun _=>.no) (az.map iq) Post∧∀ hp' rs',Post hp' rs'→rs'.map (Hw.pa hp')=rs.map some):Spec P f R:=by
 intro az rs has S w vals hwi hvals;obtain ⟨Post,h1,h2⟩:=hR az rs has;have hW:RHp (W00 (fun _=>0) S) w (fun _=>.no):=⟨fun b=>⟨fun h=>h.elim,fun h=>h rfl⟩,fun b k hk=>hk.elim,fun _=>trivial,fun b b' k hk=>hk.elim⟩;have hno:∀ k,¬ dK (W00 (fun _=>0) S) (fun _=>.no) k:=fun k ⟨b,hb⟩=>hb
 have hbelow:∀ w',kK (dK (W00 (fun _=>0) S) (fun _=>.no)) w w'→Below w.heap.size w w':=fun w' hb=>⟨hb.os,hb.tape,hb.output,hb.size,fun k hk=>hb.block k hk (hno k)⟩
 refine Calls.mono (h _ _ _ h1 (W00 (fun _=>0) S) w vals (fun w' hb=>I.keep _ _ (hbelow w' hb) hwi) hW ⟨by simpa using hvals.1,fun i x u e1 e2=>?_⟩) ?_
 ·simp only [List.getElem?_map,Option.map_eq_some_iff] at e1;obtain ⟨p,e3,rfl⟩:=e1;exact pX.2 (hvals.2 i p u e3 e2)
 ·rintro e w' ⟨hp',rs',hP,u,W',rfl,hrr,hrp,hkeep,hbut,hfp,hS⟩;have hmap:=h2 hp' rs' hP
  obtain ⟨S',hS'⟩:∃ S':Nat→Nat,(fun b=>if b < w.heap.size then W'.S b else W'.S b+(match w'.heap[b]? with | some (.cells arr _ _)=>arr.size | _=>0))=S':=⟨_,rfl⟩
  have hle:∀ b,W'.S b≤S' b:=fun b=>by rw [←hS'];dsimp only;split <;> omega
  have hext:Ext W'.S S' w' w':=fun b i hi _=>⟨Nat.lt_of_lt_of_le hi (hle b),rfl⟩
  have hdt:∀ (c:Hc) (x:Dt) (v:Value),c.pa hp'=some x→RC W' G0 O0 w' c.cl v→RD S' w' x v:=fun c x v hx hc=>by
   unfold Hc.pa at hx;split at hx
   ·cases hx;have h3:RD W'.S w' (.sc (.slice none 0 0)) v:=hc;cases h3;exact .emp none 0 (by unfold maxLen;omega)
   ·cases hx;exact RD.ext hext hc
   ·rename_i b;split at hx
    ·rename_i E sz rows hvec;cases hx;obtain ⟨h3,_,h4⟩:=hc;have h3':v=W'.nv b:=h3;have h5:=hrp.at_ b;rw [hvec] at h5;obtain ⟨xs,g1,g2,g3,g4⟩:=h5;subst h3'
     rcases g1.2 with ⟨q1,q2⟩ | ⟨g,cap,cur,fz,q1,q2,q3,q4,q5,q6,q7,_⟩
     ·have:rows=[]:=List.eq_nil_of_length_eq_zero q2;subst this;rw [q1];exact .emp none 0 (by unfold maxLen;omega)
     ·rw [q1]
      have hge:w.heap.size≤g:=by
       rcases hfp g ⟨b,by rw [hvec];show (W'.nv b).ownBlock=some g;rw [q1];rfl⟩ with h | h
       ·exact absurd h (hno g)
       ·exact h
      have hSg:cur.size≤S' g:=by
       rw [←hS'];dsimp only;rw [if_neg (by omega),q3];dsimp only;omega
      refine RD.block (vs:=xs) (sz:=sz) (b:=g) (o:=0) g2 g1.1 (fun j u hj=>?_) q4 q5 (fun i r j x e1 e2=>?_)
      ·have hj2:=(List.getElem?_eq_some_iff.1 hj).1
       have hlt:j < cur.size:=by
        have:xs.length≤cur.size:=by
         have h9:(cur.toList.take (rows.length * sz)).length≤cur.toList.length:=by rw [List.length_take];exact Nat.min_le_right _ _
         rw [q7] at h9;rw [Array.length_toList] at h9;exact h9
        omega
       refine ⟨?_,by show 0+j < S' g;exact Nat.lt_of_lt_of_le (by omega) hSg⟩
       have:=g1.cells (g:=g) (by rw [q1];rfl) j u hj
       rw [addr_add] at this;exact this
      ·obtain ⟨u,e3,e4⟩:=g3 i r j x e1 e2;exact ⟨u,e3,RD.ext hext e4⟩
    ·cases hx
   ·cases hx
  have hpa:∀ (x:Hw) (p:Pa) (v:Value),x.pa hp'=some p→RHw W' w' x v→RP S' w' p v:=fun x p v hx hc=>by
   cases x with
   | one c =>
     simp only [Hw.pa,Option.map_eq_some_iff] at hx;obtain ⟨y,hy,rfl⟩:=hx;exact hdt c y v hy hc
   | agg cs =>
     simp only [Hw.pa,Option.map_eq_some_iff] at hx;obtain ⟨ys,hy,rfl⟩:=hx;obtain ⟨arr,e1,e2,e3⟩:=hc;have h4:=fB _ _ hy;have h5:=congrArg List.length h4;simp only [List.length_map] at h5 e2;refine ⟨arr,e1,by simp at e2;omega,fun i x u q1 q2=>?_⟩
     have h6:=congrArg (·[i]?) h4;simp only [List.getElem?_map,q1,Option.map_some] at h6
     cases hci:cs[i]? with
     | none=>rw [hci] at h6;simp at h6
     | some c =>
       rw [hci] at h6;simp at h6;exact hdt c x u h6 (e3 i c.cl u (by rw [List.getElem?_map,hci];rfl) (by simpa using q2))
  refine ⟨u,S',rfl,?_,hbelow w' hbut,fun b hb=>by rw [←hS'];dsimp only;rw [if_pos hb];exact hS b hb⟩
  have hlen:rs'.length=rs.length:=by have:=congrArg List.length hmap;simpa using this
  have hget:∀ (i:Nat) x p,rs'[i]? = some x→rs[i]? = some p→x.pa hp'=some p:=fun i x p e1 e2=>by
   have:=congrArg (·[i]?) hmap
   simpa [List.getElem?_map,e1,e2] using this
  match rs',rs,hlen,hget,hrr with
  | [],[],_,_,_=>trivial
  | [x],[p],_,hg,hrr=>exact hpa x p u (hg 0 x p rfl rfl) hrr
  | x :: y :: r,p :: q :: t,hl,hg,hrr =>
    obtain ⟨vs,e1,e2,e3⟩:=hrr;refine ⟨vs,e1,by rw [←e2];exact hl.symm,fun i p' u' q1 q2=>?_⟩
    have hi:i < (x :: y :: r).length:=by rw [hl];exact (List.getElem?_eq_some_iff.1 q1).1
    exact hpa _ p' u' (hg i _ p' (List.getElem?_eq_getElem hi) q1) (e3 i _ u' (List.getElem?_eq_getElem hi) q2)
def eF:Code→List Code
 | .seq a b=>eF a ++ eF b
 | c=>[c]
def qg:List Code→Code
 | []=>.skip
 | c :: l=>.seq c (qg l)
def F5:Code→Code
 | .block _ (.rangeFunc _ _ _ b)=>b
 | _=>.skip
section
variable {P:Program} {n:Nat} {w0:World} {S0:Nat→Nat}
def wpL (P:Program) (Q:Exit→Act→World→Prop):List Code→Act→World→Prop
 | [],a,w=>Q .normal a w
 | c :: l,a,w=>c.wp P (fun e a' w'=>match e with | .normal=>wpL P Q l a' w' | e=>Q e a' w') a w
theorem then_eq {K:Act→World→Prop} {Q:Exit→Act→World→Prop}:(fun e a' w'=>match e with | .normal=>K a' w' | e=>Q e a' w')=Exit.then K Q:=by
 funext e a w
 cases e <;> rfl
theorem NK {Q:Exit→Act→World→Prop}:∀ (c:Code) (l:List Code) (a:Act) (w:World),wpL P Q (eF c ++ l) a w→c.wp P (fun e a' w'=>match e with | .normal=>wpL P Q l a' w' | e=>Q e a' w') a w:=by
 intro c
 induction c with
 | seq x y ihx ihy =>
   intro l a w h;unfold eF at h;rw [List.append_assoc] at h;rw [then_eq];refine wp_seq (wp_mono (ihx _ a w h) (fun e a' w' he=>?_))
   cases e with
   | normal =>
     have:=ihy l a' w' he;rw [then_eq] at this;exact this
   | _=>exact he
 | _=>intro l a w h;exact h
theorem Fz {Q:Exit→Act→World→Prop} {c:Code} {a:Act} {w:World} (h:wpL P Q (eF c) a w):c.wp P Q a w:=by
 refine wp_mono (NK c [] a w (by rw [List.append_nil];exact h)) (fun e a' w' he=>?_)
 cases e <;> exact he
theorem tV [Bor] [I:bS] {env:Env} (hE:aA P env) (hp:∀ w,iL w0.heap.size w0 w→I.p w) {eqs:List (Nat×List Bool)} (heq:∀ p,p ∈ eqs→EqT P p.1 p.2) (hm:P.follows .mixedOrders=true) {l2:List Code} {Q2:Exit→Act→World→Prop}:∀ (l:List Code) (pc:PC),bI P n eqs (qg l)=some pc→backs pc=true →
 ∀ (Q:Exit→St→Prop),(∀ e W s a w,Sim w0 S0 n W s a w→Q e s→match e with | .normal=>wpL P Q2 l2 a w | e=>Q2 e a w)→∀ (W:Wit) (s:St) (a:Act) (w:World),pwp env pc Q s→Sim w0 S0 n W s a w→wpL P Q2 (l ++ l2) a w
 | [],pc,hc,_,Q,hK,W,s,a,w,h,hs=>by
   simp [qg,bI] at hc;subst hc;exact hK .normal W s a w hs h
 | c :: l,pc,hc,hb,Q,hK,W,s,a,w,h,hs=>by
   simp only [qg,bI] at hc;split at hc
   ·rename_i px py hx hy;cases hc;simp only [backs,Bool.and_eq_true] at hb;refine wp_mono (kP hE hp heq hm c px hx hb.1 _ W s a w h hs) (fun e a' w' he=>?_);obtain ⟨W',s',hs',hq⟩:=he
    cases e with
    | normal=>exact tV hE hp heq hm l py hy hb.2 Q hK W' s' a' w' hq hs'
    | _=>exact hK _ W' s' a' w' hs' hq
   ·cases hc
theorem lZ [I:bS] {env:Env} (hE:aA P env) {eqs:List (Nat×List Bool)} (heq:∀ p,p ∈ eqs→EqT P p.1 p.2) (hm:P.follows .mixedOrders=true) {l l2:List Code} {pc:PC} (hc:bI P n eqs (qg l)=some pc) (hback:backs pc=true) (hsm:Nat.ble n gZ=true)
 {W:Wit} {w:World} {hp:Nat→Hb} {a:Act} {sl:Nat→Av} (nc:Nat→Nat) {Q:Exit→St→Prop} (h:pwp env pc Q (St.mM nc hp sl)) (hI:∀ w',kK (dK W hp) w w'→I.p w') (hrp:RHp W w hp) (hlen:a.tmps.size=n) (hsl:Kq W w sl a)
 {Q2:Exit→Act→World→Prop} (hK:∀ e s' W' a' w',Q e s'→Piece W w hp n a.defers s' W' a' w'→match e with | .normal=>wpL P Q2 l2 a' w' | e=>Q2 e a' w'):wpL P Q2 (l ++ l2) a w:=by
 letI:Bor:=⟨none,dK W hp,W.lv,W.nm,W.nv,a.defers⟩
 have hfpB:∀ k,Bor.fp k↔dK W hp k:=fun k=>⟨fun h=>h.elim (fun h=>by cases h) id,.inr⟩
 exact tV hE (fun w2 h2=>hI w2 ⟨h2.os,h2.tape,h2.output,h2.size,fun k hk hne=>h2.block k hk (fun e=>hne ((hfpB k).1 e))⟩) heq hm l pc hc hback Q (fun e W' s' a' w' hs' hq=>hK e s' W' a' w' hq (yT hs')) _ _ _ _ h (vY nc hrp hlen hsm hsl)
end
def pcw45 : PC := .seq (.reg false [⟨(some 4), .nilRow 5 1, none, []⟩]) (.seq (.block 0 (.loop (.seq (.seq (.reg false [⟨(some 5), .mv (.t 1), none, []⟩, ⟨(some 6), .bin .geq (.t 5) (.v (.int .i64 128)), none, [0]⟩]) (.cond (.t 6) (.skip) (.exit 0))) (.seq (.block 1 (.reg false [⟨(some 9), .mv (.t 0), none, []⟩, ⟨(some 10), .mv (.t 1), none, []⟩, ⟨(some 11), .bin .rem (.t 10) (.v (.int .i64 128)), none, [1]⟩, ⟨(some 12), .bin .add (.t 11) (.v (.int .i64 128)), none, [2]⟩, ⟨(some 13), .conv .u8 (.t 12), none, [3]⟩, ⟨(some 14), .bslice 5 1 [(.int .u8 0)] 1 [(0, 1, (.t 13))], none, [4]⟩, ⟨(some 15), .hal 16 (.app 5 1 1 (.t 9) (.t 14)), none, [0, 5]⟩, ⟨(some 0), .mv (.t 15), none, [6, 6, 0, 1, 2, 3, 4, 5, 6]⟩])) (.reg false [⟨(some 7), .mv (.t 1), none, []⟩, ⟨(some 8), .bin .quo (.t 7) (.v (.int .i64 128)), none, [0]⟩, ⟨(some 1), .mv (.t 8), none, [1, 0, 1]⟩]))))) (.seq (.reg false [⟨(some 16), .mv (.t 0), none, []⟩, ⟨(some 17), .mv (.t 1), none, []⟩, ⟨(some 18), .conv .u8 (.t 17), none, [1]⟩, ⟨(some 19), .bslice 5 1 [(.int .u8 0)] 1 [(0, 1, (.t 18))], none, [2]⟩, ⟨(some 20), .hal 21 (.app 5 1 1 (.t 16) (.t 19)), none, [0, 3]⟩, ⟨(some 4), .mv (.t 20), none, [4, 4, 0, 1, 2, 3, 4]⟩]) (.ret)))
def prw45 : List PR := [.t 4]
abbrev msw45_0 : List Nat := [5, 6, 9, 10, 11, 12, 13, 14, 15, 0, 7, 8, 1]
abbrev osw45_0 : List Nat := [14]
def flw45 : List (Nat × List Bool) := [(5000015, List.replicate 1 false), (5000020, List.replicate 1 false)]
theorem bdw45:Try.f45.body=some (Try.f45.body.getD .skip):=by kernel_rfl
theorem cpw45:bN Try.prog Try.f45.ntmps (eU ++ flw45) (Try.f45.body.getD .skip)=some pcw45:=by kernel_rfl
theorem spw45 [bS] {env:Env} (hE:aA Try.prog env) {R:(Nat→Hb)→List Hw→(Nat→Hb)→List Hw→Prop} (hR:∀ hp az hp' rs,R hp az hp' rs→az.length≤21∧∃ nc,pwp env pcw45 (fun e s=>(e=.normal∨e=.ret)∧s.gW prw45=some rs∧s.hb=hp') (St.fA nc hp az)):gI Try.prog 45 R :=
 jk hE (nR bT (by kernel_rfl)) aX Try.func45 bdw45 cpw45 (by kernel_rfl) (by kernel_rfl) (by kernel_rfl) hR
def pcw46 : PC := .seq (.reg false [⟨(some 4), .nilRow 5 1, none, []⟩]) (.seq (.reg false [⟨(some 6), .mv (.t 1), none, []⟩, ⟨(some 7), .callh 56 [(.t 6)], none, [0]⟩, ⟨(some 5), .mv (.t 7), none, [1, 1, 0, 1]⟩]) (.seq (.reg false [⟨(some 8), .mv (.t 0), none, []⟩, ⟨(some 9), .mv (.t 5), none, []⟩, ⟨(some 10), .bin .shr (.t 9) (.v (.int .u64 24)), none, [1]⟩, ⟨(some 11), .conv .u8 (.t 10), none, [2]⟩, ⟨(some 12), .mv (.t 5), none, []⟩, ⟨(some 13), .bin .shr (.t 12) (.v (.int .u64 16)), none, [4]⟩, ⟨(some 14), .conv .u8 (.t 13), none, [5]⟩, ⟨(some 15), .mv (.t 5), none, []⟩, ⟨(some 16), .bin .shr (.t 15) (.v (.int .u64 8)), none, [7]⟩, ⟨(some 17), .conv .u8 (.t 16), none, [8]⟩, ⟨(some 18), .mv (.t 5), none, []⟩, ⟨(some 19), .conv .u8 (.t 18), none, [10]⟩, ⟨(some 20), .bslice 5 1 [(.int .u8 0), (.int .u8 0), (.int .u8 0), (.int .u8 0)] 4 [(0, 1, (.t 11)), (1, 1, (.t 14)), (2, 1, (.t 17)), (3, 1, (.t 19))], none, [3, 6, 9, 11]⟩, ⟨(some 21), .hal 22 (.app 5 1 1 (.t 8) (.t 20)), none, [0, 12]⟩, ⟨(some 4), .mv (.t 21), none, [13, 13, 0, 1, 2, 3, 4, 5, 6, 7, 8, 9, 10, 11, 12, 13]⟩]) (.ret)))
def prw46 : List PR := [.t 4]
def flw46 : List (Nat × List Bool) := [(5000021, List.replicate 1 false), (6000056, List.replicate 1 false)]
theorem bdw46:Try.f46.body=some (Try.f46.body.getD .skip):=by kernel_rfl
theorem cpw46:bN Try.prog Try.f46.ntmps (eU ++ flw46) (Try.f46.body.getD .skip)=some pcw46:=by kernel_rfl
theorem spw46 [bS] {env:Env} (hE:aA Try.prog env) {R:(Nat→Hb)→List Hw→(Nat→Hb)→List Hw→Prop} (hR:∀ hp az hp' rs,R hp az hp' rs→az.length≤22∧∃ nc,pwp env pcw46 (fun e s=>(e=.normal∨e=.ret)∧s.gW prw46=some rs∧s.hb=hp') (St.fA nc hp az)):gI Try.prog 46 R :=
 jk hE (nR bT (by kernel_rfl)) aX Try.func46 bdw46 cpw46 (by kernel_rfl) (by kernel_rfl) (by kernel_rfl) hR
def pcw56 : PC := .seq (.reg false [⟨(some 2), .mv (.v (.int .u32 0)), none, []⟩]) (.seq (.reg false [⟨(some 3), .mv (.v (.int .u32 4294967295)), none, []⟩]) (.seq (.seq (.reg false [⟨(some 7), .mv (.t 0), none, []⟩, ⟨(some 8), .len (.t 7), none, [0]⟩, ⟨(some 9), .mv (.v (.int .i64 0)), none, []⟩]) (.block 0 (.loop (.seq (.reg false [⟨(some 10), .bin .lss (.t 9) (.t 8), none, []⟩]) (.seq (.cond (.t 10) (.skip) (.exit 0)) (.seq (.block 1 (.seq (.reg false [⟨(some 11), .ixs 1 (.t 7) (.t 9), none, []⟩, ⟨(some 12), .load none (.t 11), none, [0]⟩, ⟨(some 5), .mv (.t 12), none, [1, 0, 1]⟩]) (.seq (.reg false [⟨(some 13), .mv (.t 3), none, []⟩, ⟨(some 14), .mv (.t 5), none, []⟩, ⟨(some 15), .conv .u32 (.t 14), none, [1]⟩, ⟨(some 16), .bin .xor (.t 13) (.t 15), none, [0, 2]⟩, ⟨(some 3), .mv (.t 16), none, [3, 0, 1, 2, 3]⟩]) (.seq (.reg false [⟨(some 17), .mv (.v (.int .i64 0)), none, []⟩]) (.block 2 (.loop (.seq (.reg false [⟨(some 18), .bin .lss (.t 17) (.v (.int .i64 8)), none, []⟩]) (.seq (.cond (.t 18) (.skip) (.exit 2)) (.seq (.block 3 (.seq (.reg false [⟨(some 19), .mv (.t 3), none, []⟩, ⟨(some 20), .bin .and (.t 19) (.v (.int .u32 1)), none, [0]⟩, ⟨(some 6), .mv (.t 20), none, [1, 0, 1]⟩]) (.seq (.reg false [⟨(some 21), .mv (.t 3), none, []⟩, ⟨(some 22), .bin .shr (.t 21) (.v (.int .u64 1)), none, [0]⟩, ⟨(some 3), .mv (.t 22), none, [1, 0, 1]⟩]) (.seq (.reg false [⟨(some 23), .mv (.t 6), none, []⟩, ⟨(some 24), .bin .eql (.t 23) (.v (.int .u32 1)), none, [0]⟩]) (.cond (.t 24) (.reg false [⟨(some 25), .mv (.t 3), none, []⟩, ⟨(some 26), .bin .xor (.t 25) (.v (.int .u32 3988292384)), none, [0]⟩, ⟨(some 3), .mv (.t 26), none, [1, 0, 1]⟩]) (.skip)))))) (.reg false [⟨(some 27), .bin .add (.t 17) (.v (.int .i64 1)), none, []⟩, ⟨(some 17), .mv (.t 27), none, [0]⟩])))))))))) (.reg false [⟨(some 28), .bin .add (.t 9) (.v (.int .i64 1)), none, []⟩, ⟨(some 9), .mv (.t 28), none, [0]⟩]))))))) (.seq (.reg false [⟨(some 29), .mv (.t 3), none, []⟩, ⟨(some 30), .un .xor (.t 29), none, [0]⟩, ⟨(some 2), .mv (.t 30), none, [1, 0, 1]⟩]) (.ret))))
def prw56 : List PR := [.t 2]
abbrev msw56_0 : List Nat := [10, 11, 12, 5, 13, 14, 15, 16, 3, 17, 18, 19, 20, 6, 21, 22, 23, 24, 25, 26, 27, 28, 9]
abbrev osw56_0 : List Nat := []
abbrev msw56_1 : List Nat := [18, 19, 20, 6, 21, 22, 3, 23, 24, 25, 26, 27, 17]
abbrev osw56_1 : List Nat := []
def flw56 : List (Nat × List Bool) := []
theorem bdw56:Try.f56.body=some (Try.f56.body.getD .skip):=by kernel_rfl
theorem cpw56:bN Try.prog Try.f56.ntmps (eU ++ flw56) (Try.f56.body.getD .skip)=some pcw56:=by kernel_rfl
theorem spw56 [bS] {env:Env} (hE:aA Try.prog env) {R:(Nat→Hb)→List Hw→(Nat→Hb)→List Hw→Prop} (hR:∀ hp az hp' rs,R hp az hp' rs→az.length≤31∧∃ nc,pwp env pcw56 (fun e s=>(e=.normal∨e=.ret)∧s.gW prw56=some rs∧s.hb=hp') (St.fA nc hp az)):gI Try.prog 56 R :=
 jk hE (nR bT (by kernel_rfl)) aX Try.func56 bdw56 cpw56 (by kernel_rfl) (by kernel_rfl) (by kernel_rfl) hR
def pcw48 : PC := .seq (.reg false [⟨(some 2), .new [(.pointer none), (.pointer none), (.pointer none), (.pointer none), (.pointer none), (.pointer none), (.pointer none), (.pointer none), (.pointer none)], none, []⟩]) (.seq (.reg true [⟨(some 3), .mv (.t 0), none, []⟩, ⟨(some 4), .nilck (.t 3), none, [0]⟩, ⟨(some 5), .fld 0 (.t 4), none, [1]⟩, ⟨(some 6), .mv (.t 0), none, []⟩, ⟨(some 7), .nilck (.t 6), none, [3]⟩, ⟨(some 8), .fld 1 (.t 7), none, [4]⟩, ⟨(some 9), .mv (.t 0), none, []⟩, ⟨(some 10), .nilck (.t 9), none, [6]⟩, ⟨(some 11), .fld 2 (.t 10), none, [7]⟩, ⟨(some 12), .mv (.t 0), none, []⟩, ⟨(some 13), .nilck (.t 12), none, [9]⟩, ⟨(some 14), .fld 3 (.t 13), none, [10]⟩, ⟨(some 15), .mv (.t 0), none, []⟩, ⟨(some 16), .nilck (.t 15), none, [12]⟩, ⟨(some 17), .fld 4 (.t 16), none, [13]⟩, ⟨(some 18), .mv (.t 0), none, []⟩, ⟨(some 19), .nilck (.t 18), none, [15]⟩, ⟨(some 20), .fld 5 (.t 19), none, [16]⟩, ⟨(some 21), .mv (.t 0), none, []⟩, ⟨(some 22), .nilck (.t 21), none, [18]⟩, ⟨(some 23), .fld 6 (.t 22), none, [19]⟩, ⟨(some 24), .mv (.t 0), none, []⟩, ⟨(some 25), .nilck (.t 24), none, [21]⟩, ⟨(some 26), .fld 7 (.t 25), none, [22]⟩, ⟨(some 27), .mv (.t 0), none, []⟩, ⟨(some 28), .nilck (.t 27), none, [24]⟩, ⟨(some 29), .fld 8 (.t 28), none, [25]⟩, ⟨(some 30), .build [(.pointer none), (.pointer none), (.pointer none), (.pointer none), (.pointer none), (.pointer none), (.pointer none), (.pointer none), (.pointer none)] [(0, 1, (.t 5)), (1, 1, (.t 8)), (2, 1, (.t 11)), (3, 1, (.t 14)), (4, 1, (.t 17)), (5, 1, (.t 20)), (6, 1, (.t 23)), (7, 1, (.t 26)), (8, 1, (.t 29))], none, [2, 5, 8, 11, 14, 17, 20, 23, 26]⟩, ⟨none, .store 9 (.t 2) (.t 30), none, [27, 0, 1, 2, 3, 4, 5, 6, 7, 8, 9, 10, 11, 12, 13, 14, 15, 16, 17, 18, 19, 20, 21, 22, 23, 24, 25, 26, 27]⟩]) (.ret))
def prw48 : List PR := [.c 2 (some 9)]
def flw48 : List (Nat × List Bool) := []
theorem bdw48:Try.f48.body=some (Try.f48.body.getD .skip):=by kernel_rfl
theorem cpw48:bN Try.prog Try.f48.ntmps (eU ++ flw48) (Try.f48.body.getD .skip)=some pcw48:=by kernel_rfl
theorem spw48 [bS] {env:Env} (hE:aA Try.prog env) {R:(Nat→Hb)→List Hw→(Nat→Hb)→List Hw→Prop} (hR:∀ hp az hp' rs,R hp az hp' rs→az.length≤31∧∃ nc,pwp env pcw48 (fun e s=>(e=.normal∨e=.ret)∧s.gW prw48=some rs∧s.hb=hp') (St.fA nc hp az)):gI Try.prog 48 R :=
 jk hE (nR bT (by kernel_rfl)) aX Try.func48 bdw48 cpw48 (by kernel_rfl) (by kernel_rfl) (by kernel_rfl) hR
def pcw29 : PC := .reg false [⟨(some 4), .mv (.t 0), none, []⟩, ⟨(some 5), .mv (.t 0), none, []⟩, ⟨(some 6), .nilck (.t 5), none, [1]⟩, ⟨(some 7), .fld 0 (.t 6), none, [2]⟩, ⟨(some 8), .load none (.t 7), none, [3]⟩, ⟨(some 9), .mv (.t 1), none, []⟩, ⟨(some 10), .callh 45 [(.t 8), (.t 9)], none, [4, 5]⟩, ⟨(some 11), .nilck (.t 4), none, [0, 0, 1, 2, 3, 4, 5, 6]⟩, ⟨(some 12), .fld 0 (.t 11), none, [7, 0, 1, 2, 3, 4, 5, 6]⟩, ⟨none, .store 1 (.t 12) (.t 10), none, [8, 6, 6, 0, 1, 2, 3, 4, 5, 6]⟩]
def prw29 : List PR := []
def flw29 : List (Nat × List Bool) := [(6000045, List.replicate 1 false)]
theorem bdw29:Try.f29.body=some (Try.f29.body.getD .skip):=by kernel_rfl
theorem cpw29:bN Try.prog Try.f29.ntmps (eU ++ flw29) (Try.f29.body.getD .skip)=some pcw29:=by kernel_rfl
theorem sqw29 [bS] {env:Env} (hE:aA Try.prog env) {R:(Nat→Hb)→List Hw→((Nat→Hb)→List Hw→Prop)→Prop} (hR:∀ hp az Post,R hp az Post→az.length≤13∧∃ nc,pwp env pcw29 (fun e s=>(e=.normal∨e=.ret)∧∃ hp' rs,s.gW prw29=some rs∧(∀ b,hp' b=s.hb b∨(hp' b=.dead∧s.hb b≠.no))∧Post hp' rs) (St.fA nc hp az)):dY Try.prog 29 R :=
 eX hE (nR bT (by kernel_rfl)) aX Try.func29 bdw29 cpw29 (by kernel_rfl) (by kernel_rfl) (by kernel_rfl) hR
def pcw28 : PC := .seq (.reg false [⟨(some 5), .box (.t 1), none, []⟩]) (.seq (.reg false [⟨(some 9), .mv (.t 0), none, []⟩, ⟨(some 10), .mv (.t 3), none, []⟩, ⟨(some 11), .mv (.t 2), none, []⟩, ⟨(some 12), .bin .sub (.t 10) (.t 11), none, [1, 2]⟩, ⟨(some 13), .callp 29 [(.t 9), (.t 12)], none, [0, 3]⟩]) (.seq (.reg false [⟨(some 14), .mv (.t 2), none, []⟩, ⟨(some 8), .mv (.t 14), none, [0, 0]⟩]) (.block 0 (.loop (.seq (.seq (.reg false [⟨(some 15), .mv (.t 8), none, []⟩, ⟨(some 16), .mv (.t 3), none, []⟩, ⟨(some 17), .bin .lss (.t 15) (.t 16), none, [0, 1]⟩]) (.cond (.t 17) (.skip) (.exit 0))) (.seq (.block 1 (.seq (.reg false [⟨(some 20), .mv (.t 0), none, []⟩, ⟨(some 21), .fld 1 (.t 5), none, []⟩, ⟨(some 22), .load none (.t 21), none, [1]⟩, ⟨(some 23), .mv (.t 8), none, []⟩, ⟨(some 24), .ixs 1 (.t 22) (.t 23), none, [2, 3]⟩, ⟨(some 25), .load none (.t 24), none, [4]⟩, ⟨(some 26), .bin .add (.t 25) (.v (.int .i64 1)), none, [5]⟩, ⟨(some 27), .callp 29 [(.t 20), (.t 26)], none, [0, 6]⟩]) (.seq (.reg false [⟨(some 28), .mv (.t 0), none, []⟩, ⟨(some 29), .fld 0 (.t 5), none, []⟩, ⟨(some 30), .load none (.t 29), none, [1]⟩, ⟨(some 31), .mv (.t 8), none, []⟩, ⟨(some 32), .ixs 2 (.t 30) (.t 31), none, [2, 3]⟩, ⟨(some 33), .fld 0 (.t 32), none, [4]⟩, ⟨(some 34), .load none (.t 33), none, [5]⟩, ⟨(some 35), .callp 29 [(.t 28), (.t 34)], none, [0, 6]⟩]) (.reg false [⟨(some 36), .mv (.t 0), none, []⟩, ⟨(some 37), .fld 0 (.t 5), none, []⟩, ⟨(some 38), .load none (.t 37), none, [1]⟩, ⟨(some 39), .mv (.t 8), none, []⟩, ⟨(some 40), .ixs 2 (.t 38) (.t 39), none, [2, 3]⟩, ⟨(some 41), .fld 1 (.t 40), none, [4]⟩, ⟨(some 42), .load none (.t 41), none, [5]⟩, ⟨(some 43), .callp 29 [(.t 36), (.t 42)], none, [0, 6]⟩])))) (.reg false [⟨(some 18), .mv (.t 8), none, []⟩, ⟨(some 19), .bin .add (.t 18) (.v (.int .i64 1)), none, [0]⟩, ⟨(some 8), .mv (.t 19), none, [1, 0, 1]⟩])))))))
def prw28 : List PR := []
abbrev msw28_0 : List Nat := [15, 16, 17, 20, 21, 22, 23, 24, 25, 26, 27, 28, 29, 30, 31, 32, 33, 34, 35, 36, 37, 38, 39, 40, 41, 42, 43, 18, 19, 8]
abbrev osw28_0 : List Nat := []
def flw28 : List (Nat × List Bool) := [(8000029, List.replicate 1 false)]
theorem bdw28:Try.f28.body=some (Try.f28.body.getD .skip):=by kernel_rfl
theorem cpw28:bN Try.prog Try.f28.ntmps (eU ++ flw28) (Try.f28.body.getD .skip)=some pcw28:=by kernel_rfl
theorem sqw28 [bS] {env:Env} (hE:aA Try.prog env) {R:(Nat→Hb)→List Hw→((Nat→Hb)→List Hw→Prop)→Prop} (hR:∀ hp az Post,R hp az Post→az.length≤44∧∃ nc,pwp env pcw28 (fun e s=>(e=.normal∨e=.ret)∧∃ hp' rs,s.gW prw28=some rs∧(∀ b,hp' b=s.hb b∨(hp' b=.dead∧s.hb b≠.no))∧Post hp' rs) (St.fA nc hp az)):dY Try.prog 28 R :=
 eX hE (nR bT (by kernel_rfl)) aX Try.func28 bdw28 cpw28 (by kernel_rfl) (by kernel_rfl) (by kernel_rfl) hR
def pcw30 : PC := .seq (.reg false [⟨(some 3), .hal 4 (.box (.t 1)), none, []⟩]) (.seq (.reg false [⟨(some 8), .mv (.t 0), none, []⟩, ⟨(some 9), .nilck (.t 8), none, [0]⟩, ⟨(some 10), .fld 1 (.t 9), none, [1]⟩, ⟨(some 11), .callh 48 [(.t 10)], none, [2]⟩, ⟨(some 4), .new [(.pointer none), (.pointer none), (.pointer none), (.pointer none), (.pointer none), (.pointer none), (.pointer none), (.pointer none), (.pointer none)], none, []⟩, ⟨none, .store 9 (.t 4) (.t 11), none, [4, 3, 3, 0, 1, 2, 3, 4]⟩]) (.seq (.seq (.reg false [⟨(some 12), .callh 48 [(.t 3)], none, []⟩, ⟨(some 13), .mv (.v (.int .i64 0)), none, []⟩]) (.block 0 (.loop (.seq (.reg false [⟨(some 14), .bin .lss (.t 13) (.v (.int .i64 9)), none, []⟩]) (.seq (.cond (.t 14) (.skip) (.exit 0)) (.seq (.block 1 (.seq (.reg false [⟨(some 15), .mv (.t 13), none, []⟩, ⟨(some 16), .ixv 9 1 none (.t 12) (.t 13), none, []⟩, ⟨(some 5), .mv (.t 15), none, [0, 0, 1]⟩, ⟨(some 6), .mv (.t 16), none, [1, 2, 0, 1, 2]⟩]) (.seq (.reg true [⟨(some 17), .mv (.t 6), none, []⟩, ⟨(some 18), .nilck (.t 17), none, [0]⟩, ⟨(some 19), .load none (.t 18), none, [1]⟩, ⟨(some 20), .mv (.t 5), none, []⟩, ⟨(some 21), .ixa 9 1 (.t 4) (.t 20), none, [3]⟩, ⟨(some 22), .load none (.t 21), none, [4]⟩, ⟨(some 23), .nilck (.t 22), none, [5]⟩, ⟨(some 24), .load none (.t 23), none, [6]⟩, ⟨(some 25), .bin .sub (.t 19) (.t 24), none, [2, 7]⟩, ⟨(some 7), .mv (.t 25), none, [8, 0, 1, 2, 3, 4, 5, 6, 7, 8]⟩]) (.seq (.reg false [⟨(some 26), .mv (.t 7), none, []⟩, ⟨(some 27), .bin .lss (.t 26) (.v (.int .i64 0)), none, [0]⟩]) (.cond (.t 27) (.reg false [⟨(some 28), .mv (.t 0), none, []⟩, ⟨(some 29), .mv (.t 7), none, []⟩, ⟨(some 30), .bin .mul (.v (.int .i64 (-2))) (.t 29), none, [1]⟩, ⟨(some 31), .bin .sub (.t 30) (.v (.int .i64 1)), none, [2]⟩, ⟨(some 32), .callp 29 [(.t 28), (.t 31)], none, [0, 3]⟩]) (.reg false [⟨(some 33), .mv (.t 0), none, []⟩, ⟨(some 34), .mv (.t 7), none, []⟩, ⟨(some 35), .bin .mul (.v (.int .i64 2)) (.t 34), none, [1]⟩, ⟨(some 36), .callp 29 [(.t 33), (.t 35)], none, [0, 2]⟩])))))) (.reg false [⟨(some 37), .bin .add (.t 13) (.v (.int .i64 1)), none, []⟩, ⟨(some 13), .mv (.t 37), none, [0]⟩]))))))) (.reg false [⟨(some 38), .mv (.t 0), none, []⟩, ⟨(some 39), .load (some 9) (.t 3), none, []⟩, ⟨(some 40), .nilck (.t 38), none, [0, 0, 1]⟩, ⟨(some 41), .fld 1 (.t 40), none, [2, 0, 1]⟩, ⟨none, .store 9 (.t 41) (.t 39), none, [3, 1, 0, 1]⟩])))
def prw30 : List PR := []
abbrev msw30_0 : List Nat := [14, 15, 16, 5, 6, 17, 18, 19, 20, 21, 22, 23, 24, 25, 7, 26, 27, 28, 29, 30, 31, 32, 33, 34, 35, 36, 37, 13]
abbrev osw30_0 : List Nat := []
def flw30 : List (Nat × List Bool) := [(5000003, List.replicate 1 false), (6000048, List.replicate 1 false), (8000029, List.replicate 1 false)]
theorem bdw30:Try.f30.body=some (Try.f30.body.getD .skip):=by kernel_rfl
theorem cpw30:bN Try.prog Try.f30.ntmps (eU ++ flw30) (Try.f30.body.getD .skip)=some pcw30:=by kernel_rfl
theorem sqw30 [bS] {env:Env} (hE:aA Try.prog env) {R:(Nat→Hb)→List Hw→((Nat→Hb)→List Hw→Prop)→Prop} (hR:∀ hp az Post,R hp az Post→az.length≤42∧∃ nc,pwp env pcw30 (fun e s=>(e=.normal∨e=.ret)∧∃ hp' rs,s.gW prw30=some rs∧(∀ b,hp' b=s.hb b∨(hp' b=.dead∧s.hb b≠.no))∧Post hp' rs) (St.fA nc hp az)):dY Try.prog 30 R :=
 eX hE (nR bT (by kernel_rfl)) aX Try.func30 bdw30 cpw30 (by kernel_rfl) (by kernel_rfl) (by kernel_rfl) hR
def pcw25 : PC := .seq (.reg false [⟨(some 6), .nilRow 5 1, none, []⟩]) (.seq (.reg false [⟨(some 8), .mv (.t 1), none, []⟩, ⟨(some 9), .len (.t 8), none, [0]⟩, ⟨(some 7), .mv (.t 9), none, [1, 0, 1]⟩]) (.seq (.reg true [⟨(some 10), .mv (.t 1), none, []⟩, ⟨(some 11), .mv (.t 2), none, []⟩, ⟨(some 12), .bslice 5 1 [(.int .u8 0)] 1 [(0, 1, (.t 11))], none, [1]⟩, ⟨(some 13), .hal 14 (.app 5 1 1 (.t 10) (.t 12)), none, [0, 2]⟩, ⟨(some 14), .mv (.t 0), none, []⟩, ⟨(some 15), .nilck (.t 14), none, [4]⟩, ⟨(some 16), .fld 0 (.t 15), none, [5]⟩, ⟨(some 17), .load none (.t 16), none, [6]⟩, ⟨(some 18), .len (.t 17), none, [7]⟩, ⟨(some 19), .callh 45 [(.t 13), (.t 18)], none, [3, 8, 3]⟩, ⟨(some 1), .mv (.t 19), none, [9, 9, 0, 1, 2, 3, 4, 5, 6, 7, 8, 9]⟩]) (.seq (.reg false [⟨(some 20), .mv (.t 1), none, []⟩, ⟨(some 21), .mv (.t 0), none, []⟩, ⟨(some 22), .nilck (.t 21), none, [1]⟩, ⟨(some 23), .fld 0 (.t 22), none, [2]⟩, ⟨(some 24), .load none (.t 23), none, [3]⟩, ⟨(some 25), .hal 26 (.app 5 1 1 (.t 20) (.t 24)), none, [0, 4]⟩, ⟨(some 1), .mv (.t 25), none, [5, 5, 0, 1, 2, 3, 4, 5]⟩]) (.seq (.reg false [⟨(some 26), .mv (.t 0), none, []⟩, ⟨(some 27), .nilck (.t 26), none, [0, 0]⟩, ⟨(some 28), .fld 0 (.t 27), none, [1, 0]⟩, ⟨none, .store 1 (.t 28) (.v (.slice none 0 0)), none, [2, 0]⟩]) (.seq (.reg false [⟨(some 29), .mv (.t 1), none, []⟩, ⟨(some 30), .mv (.t 1), none, []⟩, ⟨(some 31), .mv (.t 7), none, []⟩, ⟨(some 32), .hal 33 (.view 1 (.t 30) (.t 31)), none, [1, 2]⟩, ⟨(some 33), .callh 46 [(.t 29), (.t 32)], none, [0, 3]⟩, ⟨(some 6), .mv (.t 33), none, [4, 4, 0, 1, 2, 3, 4]⟩]) (.ret))))))
def prw25 : List PR := [.t 6]
def flw25 : List (Nat × List Bool) := [(5000013, List.replicate 1 false), (5000025, List.replicate 1 false), (5000032, List.replicate 1 false), (6000045, List.replicate 1 false), (6000046, List.replicate 1 false)]
theorem bdw25:Try.f25.body=some (Try.f25.body.getD .skip):=by kernel_rfl
theorem cpw25:bN Try.prog Try.f25.ntmps (eU ++ flw25) (Try.f25.body.getD .skip)=some pcw25:=by kernel_rfl
theorem spw25 [bS] {env:Env} (hE:aA Try.prog env) {R:(Nat→Hb)→List Hw→(Nat→Hb)→List Hw→Prop} (hR:∀ hp az hp' rs,R hp az hp' rs→az.length≤34∧∃ nc,pwp env pcw25 (fun e s=>(e=.normal∨e=.ret)∧s.gW prw25=some rs∧s.hb=hp') (St.fA nc hp az)):gI Try.prog 25 R :=
 jk hE (nR bT (by kernel_rfl)) aX Try.func25 bdw25 cpw25 (by kernel_rfl) (by kernel_rfl) (by kernel_rfl) hR
def pcw41 : PC := .seq (.reg false [⟨(some 1), .box (.t 0), none, []⟩, ⟨(some 2), .mv (.v (.map none)), none, []⟩]) (.seq (.seq (.reg false [⟨(some 9), .fld 0 (.t 1), none, []⟩, ⟨(some 10), .load none (.t 9), none, [0]⟩, ⟨(some 11), .len (.t 10), none, [1]⟩, ⟨(some 12), .fld 1 (.t 1), none, []⟩, ⟨(some 13), .load none (.t 12), none, [3]⟩, ⟨(some 14), .len (.t 13), none, [4]⟩, ⟨(some 15), .bin .neq (.t 11) (.t 14), none, [2, 5]⟩]) (.cond (.t 15) (.seq (.reg false [⟨(some 2), .mv (.v (.map none)), none, []⟩]) (.ret)) (.skip))) (.seq (.reg false [⟨(some 16), .fld 0 (.t 1), none, []⟩, ⟨(some 17), .load none (.t 16), none, [0]⟩, ⟨(some 18), .len (.t 17), none, [1]⟩, ⟨(some 19), .hal 20 (.mapn 104 (.t 18)), none, [2]⟩, ⟨(some 3), .mv (.t 19), none, [3, 0, 1, 2, 3]⟩]) (.seq (.seq (.reg false [⟨(some 20), .fld 0 (.t 1), none, []⟩, ⟨(some 21), .load none (.t 20), none, [0]⟩, ⟨(some 22), .len (.t 21), none, [1]⟩, ⟨(some 23), .mv (.v (.int .i64 0)), none, []⟩]) (.block 0 (.loop (.seq (.reg false [⟨(some 24), .bin .lss (.t 23) (.t 22), none, []⟩]) (.seq (.cond (.t 24) (.skip) (.exit 0)) (.seq (.block 1 (.seq (.reg false [⟨(some 25), .mv (.t 23), none, []⟩, ⟨(some 26), .ixs 2 (.t 21) (.t 23), none, []⟩, ⟨(some 27), .load (some 2) (.t 26), none, [1]⟩, ⟨(some 5), .new [(.int .i64 0), (.int .i64 0)], none, []⟩, ⟨(some 4), .mv (.t 25), none, [0, 0, 1, 2, 3]⟩, ⟨none, .store 2 (.t 5) (.t 27), none, [3, 2, 4, 0, 1, 2, 3, 4]⟩]) (.seq (.reg true [⟨(some 28), .fld 1 (.t 1), none, []⟩, ⟨(some 29), .load none (.t 28), none, [0]⟩, ⟨(some 30), .mv (.t 4), none, []⟩, ⟨(some 31), .ixs 1 (.t 29) (.t 30), none, [1, 2]⟩, ⟨(some 32), .load none (.t 31), none, [3]⟩, ⟨(some 33), .load (some 2) (.t 5), none, []⟩, ⟨(some 34), .build [(.int .i64 0), (.int .i64 0), (.int .i64 0)] [(0, 1, (.t 32)), (1, 2, (.t 33))], none, [4, 5]⟩, ⟨(some 6), .new [(.int .i64 0), (.int .i64 0), (.int .i64 0)], none, []⟩, ⟨none, .store 3 (.t 6) (.t 34), none, [7, 6, 0, 1, 2, 3, 4, 5, 6, 7]⟩]) (.seq (.seq (.reg false [⟨(some 36), .mv (.t 3), none, []⟩, ⟨(some 37), .load (some 3) (.t 6), none, []⟩, ⟨(some 38), .mlk 104 (.one (.d (.sc (.int .i64 0)))) true (.t 36) (.t 37), none, [0, 1]⟩, ⟨(some 35), .mv (.t 38), none, [2]⟩, ⟨(some 39), .ext (.t 35) 0, none, [3]⟩, ⟨(some 40), .ext (.t 35) 1, none, [3]⟩, ⟨(some 7), .mv (.t 39), none, [4, 0, 1, 2, 3, 4]⟩, ⟨(some 8), .mv (.t 40), none, [5, 6, 0, 1, 2, 3, 4, 5, 6]⟩]) (.seq (.reg false [⟨(some 41), .mv (.t 8), none, []⟩, ⟨(some 42), .mv (.t 41), none, [0]⟩, ⟨(some 43), .fld 0 (.t 6), (some (42, false)), [1]⟩, ⟨(some 44), .load none (.t 43), (some (42, false)), [2, 1]⟩, ⟨(some 45), .bin .lss (.t 44) (.v (.int .i64 (-1))), (some (42, false)), [3, 1]⟩, ⟨(some 46), .pick (.t 42) (.v (.bool true)) (.t 45), none, [1, 4]⟩, ⟨(some 47), .mv (.t 46), none, [5, 1]⟩, ⟨(some 48), .fld 0 (.t 6), (some (47, false)), [6]⟩, ⟨(some 49), .load none (.t 48), (some (47, false)), [7, 6]⟩, ⟨(some 50), .mv (.t 4), (some (47, false)), [6]⟩, ⟨(some 51), .bin .geq (.t 49) (.t 50), (some (47, false)), [8, 9, 6]⟩, ⟨(some 52), .pick (.t 47) (.v (.bool true)) (.t 51), none, [6, 10]⟩, ⟨(some 53), .mv (.t 52), none, [11, 6]⟩, ⟨(some 54), .load (some 2) (.t 5), (some (53, false)), [12]⟩, ⟨(some 55), .call 55 [(.t 54)], (some (53, false)), [13, 12, 12]⟩, ⟨(some 56), .un .not (.t 55), (some (53, false)), [14, 12]⟩, ⟨(some 57), .pick (.t 53) (.v (.bool true)) (.t 56), none, [12, 15]⟩]) (.cond (.t 57) (.seq (.reg false [⟨(some 2), .mv (.v (.map none)), none, []⟩]) (.ret)) (.skip)))) (.reg false [⟨(some 58), .mv (.t 3), none, []⟩, ⟨(some 59), .load (some 3) (.t 6), none, []⟩, ⟨(some 60), .mv (.t 4), none, []⟩, ⟨none, .mup 104 (.t 58) (.t 59) (.t 60), none, [0, 1, 2, 0, 1, 2]⟩]))))) (.reg false [⟨(some 61), .bin .add (.t 23) (.v (.int .i64 1)), none, []⟩, ⟨(some 23), .mv (.t 61), none, [0]⟩]))))))) (.seq (.reg false [⟨(some 62), .mv (.t 3), none, []⟩, ⟨(some 2), .mv (.t 62), none, [0, 0]⟩]) (.ret)))))
def prw41 : List PR := [.t 2]
abbrev msw41_0 : List Nat := [24, 25, 26, 27, 5, 4, 28, 29, 30, 31, 32, 33, 34, 6, 36, 37, 38, 35, 39, 40, 7, 8, 41, 42, 43, 44, 45, 46, 47, 48, 49, 50, 51, 52, 53, 54, 55, 56, 57, 2, 58, 59, 60, 61, 23]
abbrev osw41_0 : List Nat := [5, 6]
def flw41 : List (Nat × List Bool) := []
theorem bdw41:Try.f41.body=some (Try.f41.body.getD .skip):=by kernel_rfl
theorem cpw41:bN Try.prog Try.f41.ntmps (eU ++ flw41) (Try.f41.body.getD .skip)=some pcw41:=by kernel_rfl
theorem sqw41 [bS] {env:Env} (hE:aA Try.prog env) {R:(Nat→Hb)→List Hw→((Nat→Hb)→List Hw→Prop)→Prop} (hR:∀ hp az Post,R hp az Post→az.length≤63∧∃ nc,pwp env pcw41 (fun e s=>(e=.normal∨e=.ret)∧∃ hp' rs,s.gW prw41=some rs∧(∀ b,hp' b=s.hb b∨(hp' b=.dead∧s.hb b≠.no))∧Post hp' rs) (St.fA nc hp az)):dY Try.prog 41 R :=
 eX hE (nR bT (by kernel_rfl)) aX Try.func41 bdw41 cpw41 (by kernel_rfl) (by kernel_rfl) (by kernel_rfl) hR
def pcw12Ac0 : PC := .seq (.reg false [⟨(some 62), .mv (.t 4), none, []⟩, ⟨(some 63), .un .not (.t 62), none, [0]⟩]) (.seq (.cond (.t 63) (.seq (.reg false [⟨(some 2), .nilRow 5 1, none, []⟩, ⟨(some 3), .mv (.v (.int .i64 1)), none, [0, 0]⟩]) (.ret)) (.skip)) (.seq (.reg false [⟨(some 9), .hal 10 (.new [(.slice none 0 0), (.int .i64 0), (.int .i64 0), (.int .i64 0), (.int .i64 0), (.int .i64 0), (.int .i64 0), (.int .i64 0), (.int .i64 0), (.int .i64 0)]), none, []⟩]) (.seq (.reg false [⟨(some 64), .hal 65 (.lit 5 1 [(.int .u8 0), (.int .u8 0), (.int .u8 0), (.int .u8 0), (.int .u8 0), (.int .u8 0), (.int .u8 0), (.int .u8 0)] 8 [(0, 1, (.v (.int .u8 73))), (1, 1, (.v (.int .u8 84))), (2, 1, (.v (.int .u8 82))), (3, 1, (.v (.int .u8 65))), (4, 1, (.v (.int .u8 67))), (5, 1, (.v (.int .u8 69))), (6, 1, (.v (.int .u8 49))), (7, 1, (.v (.int .u8 10)))]), none, []⟩, ⟨(some 65), .stm (.t 64), none, [0]⟩, ⟨(some 10), .hal 11 (.new [(.slice none 0 0)]), none, []⟩, ⟨none, .store 1 (.t 10) (.t 65), none, [2, 1, 0, 1, 2]⟩]) (.seq (.reg false [⟨(some 66), .mkf 25 [(.t 9)] [], none, []⟩, ⟨(some 11), .hal 12 (.new [.nilFunc]), none, []⟩, ⟨none, .store 1 (.t 11) (.t 66), none, [1, 0, 0, 1]⟩]) (.seq (.reg false [⟨(some 12), .hal 13 (.new [(.int .i64 0)]), none, []⟩, ⟨none, .store 1 (.t 12) (.v (.int .i64 0)), none, [0, 0]⟩]) (.skip))))))
def pcw12A : PC := .seq (.reg false [⟨(some 1), .hal 2 (.box (.t 0)), none, []⟩, ⟨(some 2), .nilRow 5 1, none, []⟩, ⟨(some 3), .mv (.v (.int .i64 0)), none, [1]⟩]) (.seq (.reg false [⟨(some 17), .fld 1 (.t 1), none, []⟩, ⟨(some 18), .load (some 2) (.t 17), none, [0]⟩, ⟨(some 19), .call 22 [(.t 18)], none, [1]⟩, ⟨(some 20), .mv (.t 19), none, [2, 2]⟩, ⟨(some 21), .fld 0 (.t 1), (some (20, true)), [3]⟩, ⟨(some 22), .load none (.t 21), (some (20, true)), [4, 3]⟩, ⟨(some 23), .len (.t 22), (some (20, true)), [5, 3]⟩, ⟨(some 24), .bin .leq (.t 23) (.v (.int .i64 5000)), (some (20, true)), [6, 3]⟩, ⟨(some 25), .pick (.t 20) (.t 24) (.v (.bool false)), none, [3, 7]⟩, ⟨(some 4), .mv (.t 25), none, [8, 3, 0, 1, 2, 3, 4, 5, 6, 7, 8]⟩]) (.seq (.reg false [⟨(some 26), .fld 1 (.t 1), none, []⟩, ⟨(some 27), .fld 0 (.t 26), none, [0]⟩, ⟨(some 28), .load none (.t 27), none, [1]⟩, ⟨(some 29), .len (.t 28), none, [2]⟩, ⟨(some 30), .mv (.v (.int .i64 0)), none, []⟩]) (.seq (.block 0 (.loop (.seq (.reg false [⟨(some 31), .bin .lss (.t 30) (.t 29), none, []⟩]) (.seq (.cond (.t 31) (.skip) (.exit 0)) (.seq (.block 1 (.seq (.reg false [⟨(some 32), .ixs 2 (.t 28) (.t 30), none, []⟩, ⟨(some 33), .load (some 2) (.t 32), none, [0]⟩, ⟨(some 6), .new [(.int .i64 0), (.int .i64 0)], none, []⟩, ⟨none, .store 2 (.t 6) (.t 33), none, [2, 1, 0, 1, 2]⟩]) (.reg false [⟨(some 34), .mv (.t 4), none, []⟩, ⟨(some 35), .mv (.t 34), none, [0]⟩, ⟨(some 36), .load (some 2) (.t 6), (some (35, true)), [1]⟩, ⟨(some 37), .call 23 [(.t 36)], (some (35, true)), [2, 1, 1]⟩, ⟨(some 38), .pick (.t 35) (.t 37) (.v (.bool false)), none, [1, 3]⟩, ⟨(some 4), .mv (.t 38), none, [4, 3, 0, 1, 2, 3, 4]⟩]))) (.reg false [⟨(some 39), .bin .add (.t 30) (.v (.int .i64 1)), none, []⟩, ⟨(some 30), .mv (.t 39), none, [0]⟩])))))) (.seq (.reg false [⟨(some 40), .fld 0 (.t 1), none, []⟩, ⟨(some 41), .load none (.t 40), none, [0]⟩, ⟨(some 42), .len (.t 41), none, [1]⟩, ⟨(some 43), .mv (.v (.int .i64 0)), none, []⟩]) (.seq (.block 2 (.loop (.seq (.reg false [⟨(some 44), .bin .lss (.t 43) (.t 42), none, []⟩]) (.seq (.cond (.t 44) (.skip) (.exit 2)) (.seq (.block 3 (.seq (.reg false [⟨(some 45), .ixs 9 (.t 41) (.t 43), none, []⟩, ⟨(some 46), .load (some 9) (.t 45), none, [0]⟩, ⟨(some 8), .new [(.int .i64 0), (.int .i64 0), (.int .i64 0), (.int .i64 0), (.int .i64 0), (.int .i64 0), (.int .i64 0), (.int .i64 0), (.int .i64 0)], none, []⟩, ⟨none, .store 9 (.t 8) (.t 46), none, [2, 1, 0, 1, 2]⟩]) (.reg false [⟨(some 47), .mv (.t 4), none, []⟩, ⟨(some 48), .mv (.t 47), none, [0]⟩, ⟨(some 49), .load (some 9) (.t 8), (some (48, true)), [1]⟩, ⟨(some 50), .call 24 [(.t 49)], (some (48, true)), [2, 1, 1]⟩, ⟨(some 51), .pick (.t 48) (.t 50) (.v (.bool false)), none, [1, 3]⟩, ⟨(some 52), .mv (.t 51), none, [4, 3]⟩, ⟨(some 53), .fld 8 (.t 8), (some (52, true)), [5]⟩, ⟨(some 54), .load none (.t 53), (some (52, true)), [6, 5]⟩, ⟨(some 55), .fld 1 (.t 1), (some (52, true)), [5]⟩, ⟨(some 56), .fld 0 (.t 55), (some (52, true)), [8, 5]⟩, ⟨(some 57), .load none (.t 56), (some (52, true)), [9, 5]⟩, ⟨(some 58), .len (.t 57), (some (52, true)), [10, 5]⟩, ⟨(some 59), .bin .lss (.t 54) (.t 58), (some (52, true)), [7, 11, 5]⟩, ⟨(some 60), .pick (.t 52) (.t 59) (.v (.bool false)), none, [5, 12]⟩, ⟨(some 4), .mv (.t 60), none, [13, 5, 0, 1, 2, 3, 4, 5, 6, 7, 8, 9, 10, 11, 12, 13]⟩]))) (.reg false [⟨(some 61), .bin .add (.t 43) (.v (.int .i64 1)), none, []⟩, ⟨(some 43), .mv (.t 61), none, [0]⟩])))))) (pcw12Ac0))))))
abbrev msw12A_0 : List Nat := [31, 32, 33, 6, 34, 35, 36, 37, 38, 4, 39, 30]
abbrev osw12A_0 : List Nat := [6]
abbrev msw12A_1 : List Nat := [44, 45, 46, 8, 47, 48, 49, 50, 51, 52, 53, 54, 55, 56, 57, 58, 59, 60, 4, 61, 43]
abbrev osw12A_1 : List Nat := [8]
def flw12A : List (Nat × List Bool) := [(5000001, List.replicate 1 false), (5000009, List.replicate 1 false), (5000064, List.replicate 1 false), (5000010, List.replicate 1 false), (5000011, List.replicate 1 false), (5000012, List.replicate 1 false)]
theorem cpw12A:bI Try.prog Try.f12.ntmps (eU ++ flw12A) (qg (((eF (Try.f12.body.getD .skip)).drop 0).take 12))=some pcw12A:=by kernel_rfl
def pcw12B : PC := .block 5 (.seq (.reg false [⟨(some 71), .load none (.t 12), none, []⟩, ⟨(some 72), .mv (.t 13), none, []⟩, ⟨(some 73), .call 27 [(.t 71), (.t 72)], none, [0, 1]⟩, ⟨(some 14), .mv (.t 73), none, [2, 2, 0, 1, 2]⟩]) (.seq (.reg false [⟨(some 74), .fld 1 (.t 1), none, []⟩, ⟨(some 75), .load (some 2) (.t 74), none, [0]⟩, ⟨(some 76), .load none (.t 12), none, []⟩, ⟨(some 77), .mv (.t 14), none, []⟩, ⟨(some 78), .callp 28 [(.t 9), (.t 75), (.t 76), (.t 77)], none, [1, 2, 3]⟩]) (.seq (.reg false [⟨(some 79), .mv (.t 13), none, []⟩, ⟨(some 80), .len (.t 79), none, [0]⟩, ⟨(some 81), .callp 29 [(.t 9), (.t 80)], none, [1]⟩]) (.seq (.seq (.reg false [⟨(some 82), .mv (.t 13), none, []⟩, ⟨(some 83), .len (.t 82), none, [0]⟩, ⟨(some 84), .mv (.v (.int .i64 0)), none, []⟩]) (.block 6 (.loop (.seq (.reg false [⟨(some 85), .bin .lss (.t 84) (.t 83), none, []⟩]) (.seq (.cond (.t 85) (.skip) (.exit 6)) (.seq (.block 7 (.seq (.reg false [⟨(some 86), .ixs 9 (.t 82) (.t 84), none, []⟩, ⟨(some 87), .load (some 9) (.t 86), none, [0]⟩, ⟨(some 16), .new [(.int .i64 0), (.int .i64 0), (.int .i64 0), (.int .i64 0), (.int .i64 0), (.int .i64 0), (.int .i64 0), (.int .i64 0), (.int .i64 0)], none, []⟩, ⟨none, .store 9 (.t 16) (.t 87), none, [2, 1, 0, 1, 2]⟩]) (.reg false [⟨(some 88), .load (some 9) (.t 16), none, []⟩, ⟨(some 89), .callp 30 [(.t 9), (.t 88)], none, [0]⟩]))) (.reg false [⟨(some 90), .bin .add (.t 84) (.v (.int .i64 1)), none, []⟩, ⟨(some 84), .mv (.t 90), none, [0]⟩]))))))) (.seq (.reg false [⟨(some 91), .load none (.t 11), none, []⟩, ⟨(some 92), .load none (.t 10), none, []⟩, ⟨(some 93), .callc (.t 91) 25 [(.t 92), (.v (.int .u8 66))], none, [0, 1]⟩, ⟨none, .store 1 (.t 10) (.t 93), none, [2, 2, 0, 1, 2]⟩]) (.reg false [⟨(some 94), .mv (.t 14), none, []⟩, ⟨none, .store 1 (.t 12) (.t 94), none, [0, 0]⟩]))))))
abbrev msw12B_0 : List Nat := [85, 86, 87, 16, 88, 89, 90, 84]
abbrev osw12B_0 : List Nat := [16]
def flw12B : List (Nat × List Bool) := [(8000028, List.replicate 1 false), (8000029, List.replicate 1 false), (8000030, List.replicate 1 false), (7000091, List.replicate 25 false)]
theorem cpw12B:bI Try.prog Try.f12.ntmps (eU ++ flw12B) (F5 (((eF (Try.f12.body.getD .skip))[13]?).getD .skip))=some pcw12B:=by kernel_rfl
def pcw12Z : PC := .seq (.reg false [⟨(some 95), .fld 1 (.t 1), none, []⟩, ⟨(some 96), .load (some 2) (.t 95), none, [0]⟩, ⟨(some 97), .load none (.t 12), none, []⟩, ⟨(some 98), .fld 1 (.t 1), none, []⟩, ⟨(some 99), .fld 0 (.t 98), none, [3]⟩, ⟨(some 100), .load none (.t 99), none, [4]⟩, ⟨(some 101), .len (.t 100), none, [5]⟩, ⟨(some 102), .callp 28 [(.t 9), (.t 96), (.t 97), (.t 101)], none, [1, 2, 6]⟩]) (.seq (.reg false [⟨(some 103), .fld 0 (.t 1), none, []⟩, ⟨(some 104), .load none (.t 103), none, [0]⟩, ⟨(some 105), .len (.t 104), none, [1]⟩, ⟨(some 106), .callp 29 [(.t 9), (.t 105)], none, [2]⟩]) (.seq (.reg false [⟨(some 107), .fld 0 (.t 9), none, []⟩, ⟨(some 108), .load none (.t 107), none, [0]⟩, ⟨(some 109), .len (.t 108), none, [1]⟩, ⟨(some 110), .bin .gtr (.t 109) (.v (.int .i64 1048576)), none, [2]⟩]) (.seq (.cond (.t 110) (.seq (.reg false [⟨(some 2), .nilRow 5 1, none, []⟩, ⟨(some 3), .mv (.v (.int .i64 1)), none, [0, 0]⟩]) (.ret)) (.skip)) (.seq (.reg false [⟨(some 111), .load none (.t 11), none, []⟩, ⟨(some 112), .load none (.t 10), none, []⟩, ⟨(some 113), .callc (.t 111) 25 [(.t 112), (.v (.int .u8 69))], none, [0, 1]⟩, ⟨(some 2), .mv (.t 113), none, [2, 2, 0, 1, 2]⟩, ⟨(some 3), .mv (.v (.int .i64 0)), none, [3, 0, 1, 2, 3]⟩]) (.seq (.ret) (.skip))))))
def flw12Z : List (Nat × List Bool) := [(8000028, List.replicate 1 false), (8000029, List.replicate 1 false), (7000111, List.replicate 25 false)]
theorem cpw12Z:bI Try.prog Try.f12.ntmps (eU ++ flw12Z) (qg (((eF (Try.f12.body.getD .skip)).drop 14).take 6))=some pcw12Z:=by kernel_rfl
end Go.Proofs.Ytkafcpnahpfbfaa
end
section
namespace Go.Proofs.Ytkafcpnahpfbfaa
open Go Go.RowKit
set_option maxRecDepth 1000000
set_option maxHeartbeats 4000000
abbrev hI (n:Int):Hc:=.d (dI n)
abbrev hP (b off:Nat):Hc:=.h (.p b off)
def oz (hp:Nat→Hb) (N:Nat):Prop:=∀ b,N≤b→hp b=.no
def vC:Option Nat→Hc
 | none=>.d (.sc (.slice none 0 0))
 | some b=>.h (.v b)
def qX (hp:Nat→Hb) (N:Nat) (bs:List Nat):Option Nat→Prop
 | none=>bs=[]
 | some b=>hp b=.vec 5 1 (byR bs)∧b < N
def kF (hp:Nat→Hb) (x:Option Nat) (N j:Nat) (bs:List Nat):Nat→Hb:=match j with
 | 0=>hp
 | j+1=>fun b=>if b=N+j then .vec 5 1 (byR bs) else if x=some b∨(N≤b∧b < N+j) then .dead else hp b
def qh (x:Option Nat) (N:Nat):Nat→Option Nat
 | 0=>x
 | j+1=>some (N+j)
theorem jX {hp:Nat→Hb} {x:Option Nat} {N j:Nat} {bs:List Nat} (hx:∀ b,x=some b→b < N) (hf:oz hp N):oz (kF hp x N j bs) (N+j):=by
 intro b hb
 cases j with
 | zero=>exact hf b hb
 | succ j =>
   show (if b=N+j then _ else _)=_
   rw [if_neg (by omega),if_neg (by rintro (h | h);have:=hx b h;omega;omega)]
   exact hf b (by omega)
theorem jL {hp:Nat→Hb} {x:Option Nat} {N j:Nat} {bs:List Nat} {b:Nat} (hb:b < N) (hne:x≠some b):kF hp x N j bs b=hp b:=by
 cases j with
 | zero=>rfl
 | succ j =>
   show (if b=N+j then _ else _)=_
   rw [if_neg (by omega),if_neg (by rintro (h | h);exact hne h;omega)]
theorem iT {hp:Nat→Hb} {x:Option Nat} {N j:Nat} {bs:List Nat}:kF hp x N (j+1) bs (N+j)=.vec 5 1 (byR bs):=if_pos rfl
theorem Ht {h:Nat→Hb} {a b:Nat} {x y:Hb} (m:Nat):upl h [(a,x),(b,y)] m=if m=b then y else if m=a then x else h m:=by
 show up (up h a x) b y m=_
 rw [ay];split
 ·rfl
 ·rw [ay]
theorem zS {h:Nat→Hb} {b:Nat} {y:Hb} (m:Nat):upl h [(b,y)] m=if m=b then y else h m:=by
 show up h b y m=_
 rw [ay]
theorem RJ {s:St} {X:PX} {x:Option Nat} (h:s.cl X=(vC x).cl):(x=none∧s.cl X=.d (.sc (.slice none 0 0)))∨∃ b,x=some b∧s.cl X=.hv (.v b):=by
 cases x with
 | none=>exact .inl ⟨rfl,h⟩
 | some b=>exact .inr ⟨b,rfl,h⟩
theorem J8 {env:Env} {K:St→Prop} {is:List PI} {s:St} {d:Nat} {c c0:Nat} {X Y:PX} {hp:Nat→Hb} {x:Option Nat} {N j:Nat} {bs news:List Nat}
 (hX:s.cl X=(vC (qh x N j)).cl) (hb:s.hb=kF hp x N j bs) (hx:j=0→qX hp N bs x) (hxl:∀ b,x=some b→b < N) (hf:oz hp N) (hn1:s.nc (N+j)=c) (hn2:∀ b,qh x N j=some b→s.nc b=c) (hc:x=none→j=0→c0=c) (hY:s.jO Y=some (byR news)) (hl:bs.length+news.length≤1000000) (ha:aG s)
 (k:∀ l:List (Nat×Hb),(s.ap (some d) (.b (.one (.hv (.v (N+j))))) (.hw (HBS+c) l)).hb=kF hp x N (j+1) (bs ++ news)→aZ env is (s.ap (some d) (.b (.one (.hv (.v (N+j))))) (.hw (HBS+c) l)) K):yG env K is s (some d) c0 (.app 5 1 1 X Y):=by
 have hna:=dZ news;have hnl:=aY news;have hbl:=aY bs;have hfree:s.hb (N+j)=.no:=by rw [hb];exact jX hxl hf _ (Nat.le_refl _)
 rcases RJ hX with ⟨h1,h2⟩ | ⟨b,h1,h2⟩
 ·-- a nil slice
  have hj:j=0:=by
   cases j with
   | zero=>rfl
   | succ j=>cases h1
  subst hj;have hx0:x=none:=h1;subst hx0;have hbs:bs=[]:=hx rfl;subst hbs;refine ET (N+0) (fG (by rw [hn1,hc rfl rfl]) ha hfree) h2 hY ⟨by rw [hna];trivial,by rw [hnl];simpa using hl,by omega⟩ ?_
  rw [hc rfl rfl];refine k _ ?_;rw [nA (by rintro p hp;rw [List.mem_singleton.1 hp];exact hn1)]
  funext m
  rw [zS,hb]
  show _=(if m=N+0 then Hb.vec 5 1 (byR ([] ++ news)) else if (none:Option Nat)=some m∨(N≤m∧m < N+0) then Hb.dead else hp m)
  rw [List.nil_append]
  by_cases hm:m=N+0
  ·rw [if_pos hm,if_pos hm]
  ·rw [if_neg hm,if_neg hm,if_neg (by rintro (h | h);cases h;omega)];rfl
 ·have hvec:s.hb b=.vec 5 1 (byR bs):=by
   rw [hb]
   cases j with
   | zero =>
     have hxb:x=some b:=h1;have:=hx rfl;rw [hxb] at this;exact this.1
   | succ j =>
     have:N+j=b:=by simpa [qh] using h1
     rw [←this];exact iT
  refine I5 (N+j) (fG (by rw [hn1,hn2 b h1]) ha hfree) h2 hvec hY ⟨by rw [hna];trivial,by rw [hbl,hnl];exact hl,by omega⟩ ?_
  rw [hn2 b h1];refine k _ ?_
  rw [nA (by rintro p hp;rcases List.mem_cons.1 hp with rfl | hp;exact hn2 b h1;rw [List.mem_singleton.1 hp];exact hn1)]
  funext m
  rw [Ht,hb,iM]
  show _=(if m=N+j then Hb.vec 5 1 (byR (bs ++ news)) else if x=some m∨(N≤m∧m < N+j) then Hb.dead else hp m)
  by_cases hm:m=N+j
  ·rw [if_pos hm,if_pos hm]
  ·rw [if_neg hm,if_neg hm]
   cases j with
   | zero =>
     have hxb:x=some b:=h1
     by_cases hmb:m=b
     ·rw [if_pos hmb,if_pos (.inl (by rw [hxb,hmb]))]
     ·rw [if_neg hmb,if_neg (by rintro (h | h);rw [hxb] at h;exact hmb (by cases h;rfl);omega)];rfl
   | succ j =>
     have hbb:N+j=b:=by simpa [qh] using h1
     by_cases hmb:m=b
     ·rw [if_pos hmb,if_pos (.inr (by omega))]
     ·rw [if_neg hmb]
      show (if m=N+j then _ else _)=_
      rw [if_neg (by omega)]
      by_cases hq:x=some m∨(N≤m∧m < N+j)
      ·rw [if_pos hq,if_pos (by rcases hq with h | h;exact .inl h;exact .inr (by omega))]
      ·rw [if_neg hq,if_neg (by rintro (h | h);exact hq (.inl h);exact hq (.inr (by omega)))]
theorem y9 {hp:Nat→Hb} {x:Option Nat} {N j k:Nat} {b1 b2:List Nat} (hj:0 < j) (hk:0 < k):kF (kF hp x N j b1) (qh x N j) (N+j) k b2=kF hp x N (j+k) b2:=by
 obtain ⟨j,rfl⟩:∃ i,j=i+1:=⟨j - 1,by omega⟩
 obtain ⟨k,rfl⟩:∃ i,k=i+1:=⟨k - 1,by omega⟩
 funext m
 show (if m=N+(j+1)+k then Hb.vec 5 1 (byR b2) else if (some (N+j):Option Nat)=some m∨(N+(j+1)≤m∧m < N+(j+1)+k) then Hb.dead else if m=N+j then Hb.vec 5 1 (byR b1) else if x=some m∨(N≤m∧m < N+j) then Hb.dead else hp m)=(if m=N+(j+1+k) then Hb.vec 5 1 (byR b2) else if x=some m∨(N≤m∧m < N+(j+1+k)) then Hb.dead else hp m)
 by_cases h1:m=N+(j+1)+k
 ·have g1:m=N+(j+1+k):=by omega
  rw [if_pos h1,if_pos g1]
 ·have g1:¬ m=N+(j+1+k):=by omega
  rw [if_neg h1,if_neg g1]
  by_cases h2:(some (N+j):Option Nat)=some m∨(N+(j+1)≤m∧m < N+(j+1)+k)
  ·have g2:x=some m∨(N≤m∧m < N+(j+1+k)):=by
    rcases h2 with h2 | h2
    ·have:N+j=m:=by simpa using h2
     exact .inr (by omega)
    ·exact .inr (by omega)
   rw [if_pos h2,if_pos g2]
  ·have g2:¬ m=N+j:=fun q=>h2 (.inl (by rw [q]))
   rw [if_neg h2,if_neg g2]
   by_cases h3:x=some m∨(N≤m∧m < N+j)
   ·have g3:x=some m∨(N≤m∧m < N+(j+1+k)):=by
     rcases h3 with h3 | h3
     ·exact .inl h3
     ·exact .inr (by omega)
    rw [if_pos h3,if_pos g3]
   ·have g3:¬ (x=some m∨(N≤m∧m < N+(j+1+k))):=by
     rintro (q | q)
     ·exact h3 (.inl q)
     ·by_cases q3:m < N+j
      ·exact h3 (.inr ⟨q.1,q3⟩)
      ·exact h2 (.inr (by omega))
    rw [if_neg h3,if_neg g3]
def bHw (x:Option Nat):Hw:=.one (vC x)
def Dn (hp:Nat→Hb) (az:List Hw) (hp':Nat→Hb) (rs:List Hw):Prop:=∃ (x:Option Nat) (n N:Nat) (bs:List Nat),az=[bHw x,.one (hI n)]∧(qX hp N bs x∧oz hp N∧n≤9223372036854775807∧bs.length≤900000)∧hp'=kF hp x N (bq n).length (bs ++ bq n)∧rs=[bHw (qh x N (bq n).length)]
theorem kJ {hp:Nat→Hb} {N:Nat} {bs:List Nat} {x:Option Nat} (h:qX hp N bs x):∀ b,x=some b→b < N:=by
 rintro b rfl;exact h.2
theorem CR:∀ f n,0 < (kM f n).length
 | 0,_=>Nat.one_pos
 | f+1,n=>by unfold kM;split <;> simp
theorem Sm:gI Try.prog 45 Dn:=by
 refine spw45 aA.e0 ?_;rintro hp az hp' rs ⟨x,n,N,bs,rfl,⟨hv,hN,hn,hbl⟩,rfl,rfl⟩;have hxl:=kJ hv
 obtain ⟨c,hc16,hc21⟩:∃ c:Nat,(x=none→128≤n→16=c)∧(x=none→¬ 128≤n→21=c):=by
  by_cases h:128≤n
  ·exact ⟨16,fun _ _=>rfl,fun _ q=>absurd h q⟩
  ·exact ⟨21,fun _ q=>absurd q h,fun _ _=>rfl⟩
 refine ⟨by simp,fun _=>c,?_⟩;unfold pcw45
 with_reducible refine aJ ?_
 simp only [↓evP,evB,stB,bHw];refine dG msw45_0 osw45_0 (fun f st=>∃ (m:Nat) (acc:List Nat),m≤n∧m < 128 * 128 ^ f∧acc.length+f=8∧bq n=acc ++ kM f m∧st.sl 1=aI m∧st.sl 0=.b (.one (vC (qh x N acc.length)).cl)∧st.hb=kF hp x N acc.length (bs ++ acc)∧(acc≠[]→128≤n)) 8 (by repeat' (first | exact aG.init | assumption | exact aO (by assumption) | (refine aG.ap ?_ rfl))) ?_ ?_
 ·exact ⟨n,[],Nat.le_refl _,by omega,rfl,rfl,by simp only [stB,Nat.reduceEqDiff];first | done | rfl,by simp only [stB,reduceCtorEq];first | done | rfl,by simp only [stB,Nat.reduceLT];first | done | rfl,fun h=>absurd rfl h⟩
 rintro f j hjn hja ⟨m,acc,hmn,hmf,hal,hnum,h1,h0,hh,hne⟩;simp only [stB,reduceCtorEq,Nat.reduceEqDiff,Nat.reduceBEq,hjn] at h1 h0 hh;have hxl:=kJ hv;have hbacc:acc.length≤8:=by omega
 have hv0:acc.length=0→qX hp N (bs ++ acc) x:=fun h=>by
  have:acc=[]:=List.eq_nil_of_length_eq_zero h;rw [this,List.append_nil];exact hv
 by_cases hm:128≤m
 ·cases f with
  | zero=>omega
  | succ f =>
    unfold kM at hnum;rw [if_pos hm] at hnum;have hge:(m:Int)≥128:=by omega
    have i0:((128:Int)=0)=False:=by simp
    have e1:(m:Int).tmod 128=((m % 128:Nat):Int):=by rw [Int.tmod_eq_emod_of_nonneg (by omega)];omega
    have e2:(m:Int).tdiv 128=((m / 128:Nat):Int):=by rw [Int.tdiv_eq_ediv_of_nonneg (by omega)];omega
    have e4:IntKind.i64.wrap (((m % 128:Nat):Int)+128)=((m % 128+128:Nat):Int):=by rw [bY (by omega) (by omega)];omega
    have e5:IntKind.u8.wrap ((m % 128+128:Nat):Int)=((m % 128+128:Nat):Int):=w8 (by omega);have e6:IntKind.i64.wrap ((m / 128:Nat):Int)=((m / 128:Nat):Int):=bY (by omega) (by omega);simp only [↓evP,evB,stB,reduceCtorEq,Nat.reduceEqDiff,Nat.reduceLeDiff,Nat.reduceBEq,h1,h0,hge,i0,e1,e4,e5,decide_true];refine J8 (hp:=hp) (x:=x) (N:=N) (j:=acc.length) (bs:=bs ++ acc) (news:=[m % 128+128]) (c:=c) (by simp only [stB,Nat.reduceEqDiff,Nat.reduceBEq]) (by simp only [stB,Nat.reduceLT,hjn,hh]) hv0 hxl hN (by simp only [stB]) (fun b _=>by simp only [stB]) (fun q _=>hc16 q (by omega)) (lV (by simp only [stB,Nat.reduceEqDiff,Nat.reduceBEq];rfl)) (by rw [List.length_append];simp;omega) (by repeat' (first | exact aG.init | assumption | exact aO (by assumption) | (refine aG.ap ?_ rfl))) (fun l hl=>?_)
    simp only [↓evP,evB,stB,reduceCtorEq,Nat.reduceEqDiff,Nat.reduceBEq,h1,e2,e6,i0]
    refine ⟨f,by omega,(by repeat' (first | assumption | exact aT (by assumption) | (refine aK ?_ rfl rfl) | (refine aF ?_ rfl) | (refine aK ?_ rfl aN) | (refine aF ?_ aN))),m / 128,acc ++ [m % 128+128],by omega,by rw [Nat.pow_succ] at hmf;omega,by rw [List.length_append];show acc.length+1+f=8;omega,by rw [hnum,List.append_assoc];rfl,by simp only [stB,reduceCtorEq,Nat.reduceEqDiff,Nat.reduceBEq],?_,?_,fun _=>by omega⟩
    ·simp only [stB,reduceCtorEq,Nat.reduceBEq];rw [List.length_append];rfl
    ·simp only [stB,hl];rw [List.length_append,List.append_assoc];rfl
 ·have hge:¬ (m:Int)≥128:=by omega
  have hf:kM f m=[m]:=by cases f <;> simp [kM,hm]
  have e5:IntKind.u8.wrap (m:Int)=(m:Int):=w8 (by omega);rw [hf] at hnum;have hnl:(bq n).length=acc.length+1:=by rw [hnum,List.length_append];rfl
  simp only [↓evP,evB,stB,reduceCtorEq,Nat.reduceEqDiff,Nat.reduceLeDiff,Nat.reduceBEq,h1,h0,hge,e5,decide_false]
  refine J8 (hp:=hp) (x:=x) (N:=N) (j:=acc.length) (bs:=bs ++ acc) (news:=[m]) (c:=c) (by simp only [stB,Nat.reduceEqDiff,Nat.reduceBEq]) (by simp only [stB,Nat.reduceLT,hjn,hh]) hv0 hxl hN (by simp only [stB]) (fun b _=>by simp only [stB]) (fun q q2=>by
   have:acc=[]:=List.eq_nil_of_length_eq_zero q2;rw [this] at hnum;refine hc21 q (fun h128=>?_);unfold bq kM at hnum;rw [if_pos h128] at hnum;simp at hnum;have:=CR 7 (n / 128);rw [hnum.2] at this;simp at this) (lV (by simp only [stB,Nat.reduceEqDiff,Nat.reduceBEq];rfl)) (by rw [List.length_append];simp;omega) (by repeat' (first | exact aG.init | assumption | exact aO (by assumption) | (refine aG.ap ?_ rfl))) (fun l hl=>?_)
  simp only [↓evP,evB,stB,reduceCtorEq,Nat.reduceEqDiff,Nat.reduceBEq,prw45];refine ⟨?_,?_⟩
  ·rw [hnl];rfl
  ·rw [hl,hnl,hnum,List.append_assoc]
theorem OW (x:Option Nat):(vC x).cl.hc=some (vC x):=by cases x <;> rfl
theorem jr:∀ cs:List Hc,iR cs 0 []=cs
 | []=>rfl
 | _ :: _=>rfl
structure WAt (hp:Nat→Hb) (bw N:Nat) (l:Ev) (bs:List Nat) (x:Option Nat):Prop where
 h:hp bw=.cells (vC x :: l.row.map .d)
 v:qX hp N bs x
 ne:x≠some bw
 lt:bw < N
 fr:oz hp N
structure oD (hp:Nat→Hb) (bw N:Nat) (x:Option Nat) (h:Nat→Hb) (N':Nat) (x':Option Nat):Prop where
 le:N≤N'
 nx:∀ b,x'=some b→x=some b∨N≤b
 out:∀ b,b < N→b≠bw→x≠some b→h b=hp b
theorem oD.refl (hp:Nat→Hb) (bw N:Nat) (x:Option Nat):oD hp bw N x hp N x:=⟨Nat.le_refl _,fun _ h=>.inl h,fun _ _ _ _=>rfl⟩
theorem oD.trans {hp h h2:Nat→Hb} {bw N N' N2:Nat} {x x' x2:Option Nat} (a:oD hp bw N x h N' x') (b:oD h bw N' x' h2 N2 x2):oD hp bw N x h2 N2 x2:=by
 have:=a.le;have:=b.le;refine ⟨by omega,fun k hk=>?_,fun k h1 h2 h3=>?_⟩
 ·rcases b.nx k hk with q | q
  ·exact a.nx k q
  ·exact .inr (by omega)
 ·rw [b.out k (by omega) h2 (fun q=>(a.nx k q).elim h3 (fun q=>by omega)),a.out k h1 h2 h3]
def JR (hp:Nat→Hb) (bw N:Nat) (x:Option Nat) (l:Ev) (bs:List Nat) (h:Nat→Hb):Prop:=∃ N' x',WAt h bw N' l bs x'∧oD hp bw N x h N' x'
def zX (hp:Nat→Hb) (az:List Hw) (Post:(Nat→Hb)→List Hw→Prop):Prop:=∃ (bw N:Nat) (x:Option Nat) (l:Ev) (bs:List Nat) (n:Nat),az=[.one (hP bw 0),.one (hI n)]∧(WAt hp bw N l bs x∧n≤9223372036854775807∧bs.length≤900000)∧Post=fun h r=>r=[]∧JR hp bw N x l (bs ++ bq n) h
theorem NJ {x:Option Nat} {N j:Nat} (hj:0 < j):qh x N j=some (N+(j - 1)):=by
 cases j with
 | zero=>omega
 | succ j=>rfl
theorem jI (n:Nat):0 < (bq n).length:=CR 8 n
theorem bF {α:Type} {f:Nat→α} {a:Nat} {v:α} {b:Nat} (h:b≠a):up f a v b=f b:=by rw [ay,if_neg h]
theorem dX {α:Type} {f:Nat→α} {a:Nat} {v:α}:up f a v a=v:=by rw [ay,if_pos rfl]
theorem WAt.put {hp:Nat→Hb} {bw N:Nat} {l:Ev} {bs bs':List Nat} {x:Option Nat} (h:WAt hp bw N l bs x) {k:Nat} (hk:0 < k) :
 JR hp bw N x l bs' (up (kF hp x N k bs') bw (.cells (vC (qh x N k) :: l.row.map .d))):=by
 obtain ⟨j,rfl⟩:∃ j,k=j+1:=⟨k - 1,by omega⟩
 have hlt:=h.lt;have hxl:=kJ h.v;refine ⟨N+(j+1),qh x N (j+1),⟨dX,⟨?_,by omega⟩,?_,by omega,fun b hb=>?_⟩,by omega,fun b hb=>?_,fun b h1 h2 h3=>?_⟩
 ·rw [bF (by omega)];exact iT
 ·intro q;have:N+j=bw:=by simpa [qh] using q
  omega
 ·rw [bF (by omega)];exact jX hxl h.fr b hb
 ·have:N+j=b:=by simpa [qh] using hb
  exact .inr (by omega)
 ·rw [bF h2];exact jL h1 h3
theorem F8:dY Try.prog 29 zX:=by
 refine sqw29 (show aA Try.prog (h1 45 Dn e0) from aA.h1 Sm aA.e0) ?_;rintro hp az Post ⟨bw,N,x,l,bs,n,rfl,⟨hW,hn,hbl⟩,rfl⟩;refine ⟨by simp,fun _=>1,?_⟩;have h0:=hW.h;have hcx:=OW x;obtain ⟨h1,hh1⟩:∃ h1,kF hp x N (bq n).length (bs ++ bq n)=h1:=⟨_,rfl⟩
 have h0':h1 bw=.cells (vC x :: l.row.map .d):=by rw [←hh1,jL hW.lt hW.ne];exact h0
 have hcx2:=OW (qh x N (bq n).length);unfold pcw29
 with_reducible refine aJ ?_
 simp only [↓evP,evB,stB,reduceCtorEq,Nat.reduceEqDiff,h0,hcx];refine bK h1 [bHw (qh x N (bq n).length)] (by simp only [stB];exact ⟨x,n,N,bs,rfl,⟨hW.v,hW.fr,hn,hbl⟩,hh1.symm,rfl⟩) ?_
 simp only [evB,stB,reduceCtorEq,Nat.reduceEqDiff,Nat.reduceLeDiff,h0',hcx2,bHw,jr,prw29];have hp2:=hW.put (bs':=bs ++ bq n) (jI n);rw [hh1] at hp2;exact ⟨_,[],rfl,fun b=>.inl (ay _ _ _ _),rfl,hp2⟩
def Oj (hp:Nat→Hb) (az:List Hw) (Post:(Nat→Hb)→List Hw→Prop):Prop:=∃ (bw N:Nat) (x:Option Nat) (l:Ev) (bs:List Nat) (d:Dep) (a b:Nat),az=[.one (hP bw 0),iq d.pa,.one (hI a),.one (hI b)]∧(WAt hp bw N l bs x∧bs.length≤400000∧d.ok∧a≤b∧b≤d.st.length)∧Post=fun h r=>r=[]∧JR hp bw N x l (bs ++ mH d a b) h
theorem UM:dY Try.prog 28 Oj:=by
 refine sqw28 (show aA Try.prog (p1 29 zX e0) from aA.p1 F8 aA.e0) ?_;rintro hp az Post ⟨bw,N,x,l,bs,d,a,b,rfl,⟨hW,hbl,hd,hab,hb⟩,rfl⟩;refine ⟨by simp,fun _=>1,?_⟩;have hle:=hd.le;unfold pcw28
 with_reducible refine aJ ?_
 have w0:IntKind.i64.wrap ((b:Int) - (a:Int))=((b - a:Nat):Int):=by rw [bY (by omega) (by omega)];omega
 simp only [↓evP,evB,stB,reduceCtorEq,Nat.reduceEqDiff,iq,Dep.pa,Dep.row,w0];refine bL _ (by simp only [stB,Nat.reduceLT];exact ⟨bw,N,x,l,bs,b - a,rfl,⟨hW,by omega,by omega⟩,rfl⟩) ?_
 rintro h1 r ⟨rfl,N1,x1,hW1,hS1⟩;have hnl:=bU (b - a);simp only [↓evP,evB,stB,Nat.reduceEqDiff];refine dG msw28_0 osw28_0 (fun m st=>∃ k N2 x2,m=(b - a) - k∧k≤b - a∧st.sl 8=aI ((a+k:Nat):Int)∧WAt st.hb bw N2 l (bs ++ (bq (b - a) ++ lu d a k)) x2∧oD hp bw N x st.hb N2 x2) (b - a) (by repeat' (first | exact aG.init | assumption | exact aO (by assumption) | (refine aG.ap ?_ rfl))) ?_ ?_
 ·refine ⟨0,N1,x1,rfl,Nat.zero_le _,by simp only [stB,Nat.reduceEqDiff];first | done | rfl,?_,?_⟩
  ·simp only [stB];rw [show lu d a 0=[] from rfl,List.append_nil];exact hW1
  ·simp only [stB];exact hS1
 rintro m j hjn hja ⟨k,N2,x2,rfl,hk,h8,hW2,hS2⟩;simp only [stB,Nat.reduceEqDiff,Nat.reduceBEq,hjn] at h8 hW2 hS2;obtain ⟨H2,hH2⟩:∃ H2,j.hb=H2:=⟨_,rfl⟩
 rcases Nat.lt_or_ge k (b - a) with hlt | hge
 ·have hi:a+k < d.st.length:=by omega
  have hi2:a+k < d.pr.length:=by have:=hd.len;omega
  have klt:((a+k:Nat):Int) < (b:Int):=by omega
  have k0:(0:Int)≤((a+k:Nat):Int):=by omega
  have gp:d.pr[a+k]? = some (fH d (a+k)):=by unfold fH;rw [List.getD_eq_getElem?_getD,List.getElem?_eq_getElem hi2];rfl
  have gs:d.st[a+k]? = some (dS d (a+k)):=by unfold dS;rw [List.getD_eq_getElem?_getD,List.getElem?_eq_getElem hi];rfl
  have bp:=hd.pr _ (List.mem_of_getElem? gp);have bs2:=hd.st _ (List.mem_of_getElem? gs);have hsu:=oL d a k;have hfl:=wP d a k;unfold jg at hsu;generalize fH d (a+k)=p at *;generalize dS d (a+k)=s at *;obtain ⟨s1,s2⟩:=s;dsimp only at hsu bs2;have w1:IntKind.i64.wrap (p+1)=((p+1).toNat:Int):=by rw [bY (by omega) (by omega)];omega
  have e1:s1=(s1.toNat:Int):=by omega
  have e2:s2=(s2.toNat:Int):=by omega
  have w2:IntKind.i64.wrap (((a+k:Nat):Int)+1)=((a+(k+1):Nat):Int):=by rw [bY (by omega) (by omega)];omega
  obtain ⟨B,hB⟩:∃ B,bs ++ (bq (b - a) ++ lu d a k)=B:=⟨_,rfl⟩
  have hBl:B.length≤400009+27 * k:=by rw [←hB,List.length_append,List.length_append];omega
  rw [hB] at hW2;have l1:=bU (p+1).toNat;have l2:=bU s1.toNat;simp only [↓evP,evB,stB,reduceCtorEq,Nat.reduceEqDiff,Nat.reduceLT,Nat.reduceBEq,h8,klt,k0,gp,w1,decide_true];refine bL _ (by simp only [stB,hjn];exact ⟨bw,N2,x2,l,B,(p+1).toNat,rfl,⟨hW2,by omega,by omega⟩,rfl⟩) ?_
  rintro h3 r ⟨rfl,N3,x3,hW3,hS3⟩;simp only [↓evP,evB,stB,reduceCtorEq,Nat.reduceEqDiff,Nat.reduceAdd,Nat.reduceLT,Nat.reduceBEq,h8,k0,gs,aQ];refine bL _ (by simp only [stB];exact ⟨bw,N3,x3,l,_,s1.toNat,by rw [←e1],⟨hW3,by omega,by rw [List.length_append];omega⟩,rfl⟩) ?_
  rintro h4 r ⟨rfl,N4,x4,hW4,hS4⟩;simp only [↓evP,evB,stB,reduceCtorEq,Nat.reduceEqDiff,Nat.reduceAdd,Nat.reduceLT,Nat.reduceBEq,h8,k0,gs,aQ];refine bL _ (by simp only [stB];exact ⟨bw,N4,x4,l,_,s2.toNat,by rw [←e2],⟨hW4,by omega,by rw [List.length_append,List.length_append];omega⟩,rfl⟩) ?_
  rintro h5 r ⟨rfl,N5,x5,hW5,hS5⟩;simp only [↓evP,evB,stB,Nat.reduceEqDiff,Nat.reduceBEq,h8]
  refine ⟨_,by omega,(by repeat' (first | assumption | exact aT (by assumption) | (refine aK ?_ rfl rfl) | (refine aF ?_ rfl) | (refine aK ?_ rfl aN) | (refine aF ?_ aN))),k+1,N5,x5,rfl,hlt,by simp only [stB,Nat.reduceEqDiff,Nat.reduceBEq,h8,w2],?_,?_⟩
  ·simp only [stB]
   have:bs ++ (bq (b - a) ++ lu d a (k+1))=B ++ bq (p+1).toNat ++ bq s1.toNat ++ bq s2.toNat:=by
    rw [hsu,←hB];simp only [List.append_assoc]
   rw [this];exact hW5
  ·simp only [stB];exact hS2.trans (hS3.trans (hS4.trans hS5))
 ·have hke:k=b - a:=by omega
  have klt:¬ ((a+k:Nat):Int) < (b:Int):=by omega
  simp only [↓evP,evB,stB,reduceCtorEq,Nat.reduceEqDiff,Nat.reduceLT,Nat.reduceBEq,h8,klt,decide_false,prw28];rw [hke] at hW2;refine ⟨j.hb,[],rfl,fun b=>.inl ?_,rfl,N2,x2,hW2,hS2⟩;rw [xu (by simp only [stB,hjn])]
theorem TN:Maps.Keyed Try.prog 104:=Maps.Keyed.of_law (deep_law_gate (by kernel_rfl) (of_decide_eq_true (by kernel_rfl)) (of_decide_eq_true (by kernel_rfl)) (by kernel_rfl) (by kernel_rfl))
def iE (x:Int):Prop:=-9223372036854775808≤x∧x≤9223372036854775807
theorem iE.wf {x:Int} (h:iE x):(Lit.int .i64 x).wf=true:=by
 simp [Lit.wf,IntKind.min,IntKind.max,IntKind.signed,IntKind.bits];exact ⟨h.1,by have:=h.2;omega⟩
theorem uP (d:Nat) {a:Int} (h:iE a):Try.prog.keyLits (d+1) 3 [.int .i64 a]=some [.int .i64 a]:=by
 simp [Program.keyLits,Try.underlying3,h.wf]
theorem Qe (d:Nat) {a b:Int} (ha:iE a) (hb:iE b):Try.prog.keyLits (d+2) 50 [.int .i64 a,.int .i64 b]=some [.int .i64 a,.int .i64 b]:=by
 have hc:Try.prog.cellsOf 50=2:=by kernel_rfl
 have hi:Try.prog.cellsOf 3=1:=by kernel_rfl
 unfold Program.keyLits;rw [Try.underlying50];dsimp only;rw [if_pos ⟨by simp [hc],by kernel_rfl⟩];simp [hi,uP d ha,uP d hb]
theorem TQ (d:Nat) {k a b:Int} (hk:iE k) (ha:iE a) (hb:iE b):Try.prog.keyLits (d+3) 104 [.int .i64 k,.int .i64 a,.int .i64 b]=some [.int .i64 k,.int .i64 a,.int .i64 b]:=by
 have hc:Try.prog.cellsOf 104=3:=by kernel_rfl
 have hl:Try.prog.cellsOf 50=2:=by kernel_rfl
 have hi:Try.prog.cellsOf 3=1:=by kernel_rfl
 unfold Program.keyLits;rw [Try.underlying104];dsimp only;rw [if_pos ⟨by simp [hc],by kernel_rfl⟩];simp [hi,hl,uP (d+1) hk,Qe d ha hb]
def nO (k x y:Int):Value:=.agg #[.int .i64 k,.int .i64 x,.int .i64 y]
theorem wQ {k x y k' x' y':Int}:nO k x y=nO k' x' y'↔k=k'∧x=x'∧y=y':=by unfold nO;simp
theorem Ji {k a b:Int} (hk:iE k) (ha:iE a) (hb:iE b):(keyOf Try.prog 104 (.agg #[.int .i64 k,.int .i64 a,.int .i64 b])).isSome=true:=by
 obtain ⟨d,hd⟩:∃ d,Try.prog.types.size+1=d+3:=⟨Try.prog.types.size - 2,by have:2≤Try.prog.types.size:=of_decide_eq_true (by kernel_rfl);omega⟩
 have h1:Try.prog.keyType 104=true:=by kernel_rfl
 have hc:Try.prog.cellsOf 104=3:=by kernel_rfl
 unfold keyOf;rw [Try.underlying104];dsimp only;rw [if_pos (by simp [h1,Value.formed,Try.underlying104,hc]),hd];simp only [Value.cells];rw [TQ d hk ha hb];rfl
theorem wK {es:List (Value×Nat×Hw)} {k:Value}:fU es k=none↔k ∉ es.map (·.1):=by
 induction es with
 | nil=>simp [fU]
 | cons e es ih =>
   obtain ⟨x,r⟩:=e;unfold fU
   by_cases h:x=k
   ·rw [if_pos h];simp [h]
   ·rw [if_neg h,ih,List.map_cons,List.mem_cons,not_or];exact ⟨fun q=>⟨fun e=>h e.symm,q⟩,fun q=>q.2⟩
theorem xY {es:List (Value×Nat×Hw)} {n:Nat} {k:Value} {v:Hw}:(o9 es n k v).map (·.1)=match fU es k with | some _=>es.map (·.1) | none=>es.map (·.1) ++ [k]:=by
 induction es with
 | nil=>simp [o9,fU]
 | cons e es ih =>
   obtain ⟨x,r⟩:=e;unfold o9 fU
   by_cases h:x=k
   ·rw [if_pos h,if_pos h];simp
   ·rw [if_neg h,if_neg h,List.map_cons,ih];cases fU es k <;> simp
def Dep.key (d:Dep) (i:Nat):Value:=nO (fH d i) (dS d i).1 (dS d i).2
theorem Dep.GL {d:Dep} {k i:Nat}:d.key k=d.key i↔d.dup k i:=by
 unfold Dep.key Dep.dup;rw [wQ];exact ⟨fun h=>⟨Prod.ext h.2.1 h.2.2,h.1⟩,fun h=>⟨h.2,by rw [h.1],by rw [h.1]⟩⟩
structure Dep.iE (d:Dep):Prop where
 st:∀ p ∈ d.st,Proofs.Ytkafcpnahpfbfaa.iE p.1∧Proofs.Ytkafcpnahpfbfaa.iE p.2
 pr:∀ x ∈ d.pr,Proofs.Ytkafcpnahpfbfaa.iE x
theorem Az {α:Type} {f:Nat→α} {a:Nat} {v u:α}:up (up f a v) a u=up f a u:=by
 funext b;unfold up;split <;> rfl
def Oz:Hw:=.one (.d (.sc (.map none)))
def SF (hp:Nat→Hb) (az:List Hw) (Post:(Nat→Hb)→List Hw→Prop):Prop:=∃ (N:Nat) (d:Dep),az=[iq d.pa]∧(oz hp N∧(d.st.length≤1000000∧d.pr.length≤1000000)∧d.iE)∧Post=fun _ r=>(d.val→∃ b,r=[.one (.h (.m b))])∧(¬ d.val→r=[Oz])
theorem Uo:dY Try.prog 41 SF:=by
 refine sqw41 (show aA Try.prog (e1 55 Oa e0) from aA.e1 UC aA.e0) ?_;rintro hp az Post ⟨N,d,rfl,⟨hf,⟨l1,l2⟩,h64⟩,rfl⟩;refine ⟨by simp,fun _=>20,?_⟩;have m1:(d.st.map aQ).length=d.st.length:=List.length_map ..;have m2:(d.pr.map fun x=>[dI x]).length=d.pr.length:=List.length_map ..;unfold pcw41
 with_reducible refine aJ ?_
 by_cases hlen:d.st.length=d.pr.length
 ·have b0:((d.st.length:Int) != (d.pr.length:Int))=false:=by rw [hlen];simp
  simp only [↓evP,evB,stB,reduceCtorEq,Nat.reduceEqDiff,Nat.reduceLT,iq,Dep.pa,Dep.row,m1,m2,b0];refine I7 (d.st.length:Int) N (fG (by simp only [stB]) (by (repeat' (first | exact aG.init | assumption | (refine aG.ap ?_ rfl)))) (by simp only [stB,Nat.reduceLT];exact hf N (Nat.le_refl _))) (by simp only [stB,Nat.reduceEqDiff]) TN ?_
  simp only [↓evP,evB,stB,Nat.reduceEqDiff,Nat.reduceLT,m1];refine dG msw41_0 osw41_0 (fun m st=>∃ k es cl,m=d.st.length - k∧k≤d.st.length∧st.sl 23=aI k∧st.hb=up hp N (.map 104 es cl)∧(∀ x,x ∈ es.map (·.1)↔∃ i,i < k∧d.key i=x)∧∀ x,x < k→d.good x∧∀ y,y < x→¬ d.dup y x) d.st.length (by repeat' (first | exact aG.init | assumption | exact aO (by assumption) | (refine aG.ap ?_ rfl))) ?_ ?_
  ·exact ⟨0,[],0,rfl,Nat.zero_le _,by simp only [stB,Nat.reduceEqDiff];first | done | rfl,by simp only [stB,Nat.reduceLT];first | done | rfl,fun x=>by simp,fun x q=>absurd q (Nat.not_lt_zero _)⟩
  rintro m j hjn hja ⟨k,es,cl,rfl,hk,h23,hhb,hes,hal⟩;simp only [stB,Nat.reduceEqDiff,Nat.reduceBEq,hjn] at h23 hhb;have hmap:j.hb N=.map 104 es cl:=by rw [hhb];exact dX
  rcases Nat.lt_or_ge k d.st.length with hlt | hge
  ·have klt:(k:Int) < (d.st.length:Int):=by omega
   have k0:(0:Int)≤(k:Int):=by omega
   have gp:d.pr[k]? = some (fH d k):=by unfold fH;rw [List.getD_eq_getElem?_getD,List.getElem?_eq_getElem (by omega)];rfl
   have gs:d.st[k]? = some (dS d k):=by unfold dS;rw [List.getD_eq_getElem?_getD,List.getElem?_eq_getElem hlt];rfl
   have w3:IntKind.i64.wrap ((k:Int)+1)=((k+1:Nat):Int):=by rw [bY (by omega) (by omega)];omega
   have ip:=h64.pr _ (List.mem_of_getElem? gp);have is:=h64.st _ (List.mem_of_getElem? gs);have hkd:d.key k=.agg #[.int .i64 (fH d k),.int .i64 (dS d k).1,.int .i64 (dS d k).2]:=rfl;have hbad:¬ d.good k→¬ d.val:=fun h q=>h (q.2 k hlt).1
   have hgood:d.good k↔(-1≤fH d k∧fH d k < (k:Int))∧0≤(dS d k).1∧0≤(dS d k).2:=Iff.rfl;generalize fH d k=p at gp ip hkd hgood;generalize dS d k=s at gs is hkd hgood;obtain ⟨s1,s2⟩:=s;dsimp only at hkd hgood is;have hkey:=Ji ip is.1 is.2;simp only [↓evP,evB,stB,reduceCtorEq,Nat.reduceEqDiff,Nat.reduceAdd,Nat.reduceLeDiff,Nat.reduceLT,Nat.reduceBEq,h23,klt,k0,gp,gs,hkey,aQ,decide_true];refine ⟨(by unfold Drw;refine Eq.trans (b:=true) ?_ rfl;kernel_rfl),?_⟩
   cases hlk:fU es (.agg #[.int .i64 p,.int .i64 s1,.int .i64 s2]) with
   | some r =>
     have hnv:¬ d.val:=fun q=>by
      have h1:d.key k ∈ es.map (·.1):=by
       rw [hkd];refine Classical.byContradiction fun h=>?_
       rw [wK.2 h] at hlk;cases hlk
      obtain ⟨i,hi,he⟩:=(hes _).1 h1;exact (q.2 k hlt).2 i hi (Dep.GL.1 he)
     simp only [↓evP,evB,stB,reduceCtorEq,Nat.reduceEqDiff,Nat.reduceAdd,Nat.reduceLeDiff,Nat.reduceLT,Nat.reduceBEq,h23,hjn,hmap,hkey,hlk,prw41];refine ⟨_,[Oz],rfl,fun b=>.inl rfl,fun h=>absurd h hnv,fun _=>rfl⟩
   | none =>
     have hfresh:∀ y,y < k→¬ d.dup y k:=fun y hy q=>by
      have h1:=wK.1 hlk;rw [←hkd] at h1;exact h1 ((hes _).2 ⟨y,hy,Dep.GL.2 q⟩)
     by_cases c1:p < -1
     ·have hnv:=hbad fun h=>by have:=(hgood.1 h).1.1;omega
      simp only [↓evP,evB,stB,reduceCtorEq,Nat.reduceEqDiff,Nat.reduceAdd,Nat.reduceLeDiff,Nat.reduceLT,Nat.reduceBEq,h23,hjn,hmap,hkey,hlk,c1,decide_true,prw41];refine ⟨_,[Oz],rfl,fun b=>.inl rfl,fun h=>absurd h hnv,fun _=>rfl⟩
     by_cases c2:p≥(k:Int)
     ·have hnv:=hbad fun h=>by have:=(hgood.1 h).1.2;omega
      simp only [↓evP,evB,stB,reduceCtorEq,Nat.reduceEqDiff,Nat.reduceAdd,Nat.reduceLeDiff,Nat.reduceLT,Nat.reduceBEq,h23,hjn,hmap,hkey,hlk,c1,c2,decide_true,decide_false,prw41];refine ⟨_,[Oz],rfl,fun b=>.inl rfl,fun h=>absurd h hnv,fun _=>rfl⟩
     simp only [↓evP,evB,stB,reduceCtorEq,Nat.reduceEqDiff,Nat.reduceAdd,Nat.reduceLeDiff,Nat.reduceLT,Nat.reduceBEq,hjn,hmap,hlk,c1,c2,decide_false];refine aC [pB (decide (s1≥0) && decide (s2≥0))] (by exact ⟨(s1,s2),rfl,rfl⟩) ?_
     cases hpr:(decide (s1≥0) && decide (s2≥0)) with
     | false =>
       have hnv:=hbad fun h=>by
        have:=(hgood.1 h).2;rw [decide_eq_true this.1,decide_eq_true this.2] at hpr;cases hpr
       simp only [↓evP,evB,stB,reduceCtorEq,Nat.reduceEqDiff,Nat.reduceAdd,Nat.reduceLeDiff,Nat.reduceLT,Nat.reduceBEq,h23,hjn,hmap,hkey,hlk,prw41];refine ⟨_,[Oz],rfl,fun b=>.inl rfl,fun h=>absurd h hnv,fun _=>rfl⟩
     | true =>
       rw [Bool.and_eq_true] at hpr;have hpr1:=of_decide_eq_true hpr.1;have hpr2:=of_decide_eq_true hpr.2;simp only [↓evP,evB,stB,reduceCtorEq,Nat.reduceEqDiff,Nat.reduceAdd,Nat.reduceLeDiff,Nat.reduceLT,Nat.reduceBEq,h23,hjn,hmap,hkey,hlk]
       refine ⟨_,by omega,(by repeat' (first | assumption | exact aT (by assumption) | (refine aK ?_ rfl rfl) | (refine aF ?_ rfl) | (refine aK ?_ rfl aN) | (refine aF ?_ aN))),k+1,_,_,rfl,hlt,by simp only [stB,Nat.reduceEqDiff,Nat.reduceBEq,h23,w3],by funext b;simp only [stB,Nat.reduceLT,hjn,hhb];exact congrFun Az b,fun x=>?_,fun x hx=>?_⟩
       ·rw [xY,hlk]
        show x ∈ es.map (·.1) ++ [_]↔_
        rw [List.mem_append,hes,List.mem_singleton,←hkd];refine ⟨fun h=>h.elim (fun ⟨i,hi,e⟩=>⟨i,by omega,e⟩) (fun e=>⟨k,by omega,e.symm⟩),fun ⟨i,hi,e⟩=>?_⟩
        rcases Nat.lt_or_ge i k with q | q
        ·exact .inl ⟨i,q,e⟩
        ·have:i=k:=by omega
         subst this;exact .inr e.symm
       ·rcases Nat.lt_or_ge x k with q | q
        ·exact hal x q
        ·have:x=k:=by omega
         subst this;exact ⟨hgood.2 ⟨⟨by omega,by omega⟩,hpr1,hpr2⟩,hfresh⟩
  ·have hke:k=d.st.length:=by omega
   subst hke;have klt:¬ (d.st.length:Int) < (d.st.length:Int):=by omega
   have hval:d.val:=⟨hlen,hal⟩;simp only [↓evP,evB,stB,reduceCtorEq,Nat.reduceEqDiff,Nat.reduceBEq,h23,klt,decide_false,prw41];refine ⟨_,[.one (.h (.m N))],rfl,fun b=>.inl rfl,fun _=>⟨N,rfl⟩,fun h=>absurd hval h⟩
 ·have b0:((d.st.length:Int) != (d.pr.length:Int))=true:=by rw [bne_iff_ne];omega
  simp only [↓evP,evB,stB,reduceCtorEq,Nat.reduceEqDiff,Nat.reduceLT,iq,Dep.pa,Dep.row,m1,m2,b0,prw41];exact ⟨_,[Oz],rfl,fun b=>.inl rfl,fun h=>absurd h.1 hlen,fun _=>rfl⟩
end Go.Proofs.Ytkafcpnahpfbfaa
end
section
namespace Go.Proofs.Ytkafcpnahpfbfaa
open Go.RowKit Go.Maps
structure But (L:List Nat) (w w':World):Prop where
 os:w'.os=w.os
 tape:w'.tape=w.tape
 output:w'.output=w.output
 size:w.heap.size≤w'.heap.size
 block:∀ k,k < w.heap.size→k ∉ L→w'.heap[k]? = w.heap[k]?
theorem But.refl (L:List Nat) (w:World):But L w w:=⟨rfl,rfl,rfl,Nat.le_refl _,fun _ _ _=>rfl⟩
theorem But.trans {L:List Nat} {a b c:World} (h:But L a b) (k:But L b c):But L a c :=
 ⟨k.os.trans h.os,k.tape.trans h.tape,k.output.trans h.output,Nat.le_trans h.size k.size,fun i hi hn=>(k.block i (Nat.lt_of_lt_of_le hi h.size) hn).trans (h.block i hi hn)⟩
theorem But.mono {L L':List Nat} {a b:World} (h:But L a b) (hs:∀ x ∈ L,x ∈ L'∨a.heap.size≤x):But L' a b :=
 ⟨h.os,h.tape,h.output,h.size,fun i hi hn=>h.block i hi (fun hm=>by rcases hs i hm with h1 | h1;exact hn h1;omega)⟩
theorem But.drew {L:List Nat} {a b:World} (h:But L a b):But L a b.drew:=⟨h.os,h.tape,h.output,h.size,h.block⟩
theorem But.alloc {L:List Nat} {a b:World} (h:But L a b) (o:Obj):But L a (b.alloc o) :=
 h.trans ⟨rfl,rfl,rfl,by simp,fun k hk _=>Below.heap_alloc _ _ _ hk⟩
theorem But.below {L:List Nat} {a b c:World} (h:But L a b) (hb:Below b.heap.size b c):But L a c :=
 h.trans ⟨hb.os,hb.tape,hb.output,hb.size,fun k hk _=>hb.block k hk⟩
theorem But.grown {L:List Nat} {a b c:World} (h:But L a b) {g:Nat} (hg:b.grownBy c (some g)) (hL:g ∈ L∨a.heap.size≤g):But L a c :=
 ⟨hg.os.trans h.os,hg.tape.trans h.tape,hg.output.trans h.output,Nat.le_trans h.size hg.size,fun k hk hn =>
  (hg.block k (Nat.lt_of_lt_of_le hk h.size) (by rintro he;cases he;rcases hL with h1 | h1;exact hn h1;omega)).trans (h.block k hk hn)⟩
theorem But.cell {L:List Nat} {w w':World} (h:But L w w') {p:Addr} (hp:p.block < w.heap.size) (hL:p.block ∉ L):w'.cell? p=w.cell? p:=World.cell?_of_block (w:=w) (h.block p.block hp hL)
def OT (v:Value):Option (DataW Value×List MemPlace):=some (.held v,[])
structure Rq (P:Program) (k:TypeId) {κ:Type} (kv:κ→Value) (ok:κ→Prop):Prop where
 keyed:Keyed P k
 reads:∀ x,ok x→∃ l,keyOf P k (kv x)=some l
 inj:∀ x y,kv x=kv y→x=y
def MapOf {κ:Type} (kv:κ→Value) (w:World) (P:Program) (k:TypeId) (b n:Nat) (f:κ→Option Value):Prop :=
 ∃ D,w.ownsMap P k OT b n D∧∀ x l,keyOf P k (kv x)=some l→D.atKey l .nil=(match f x with | some v=>.held v | none=>.nil)
section
variable {κ:Type} [DecidableEq κ] {kv:κ→Value} {ok:κ→Prop}
variable {P:Program} {k e t:TypeId} {w w':World} {b n:Nat} {f:κ→Option Value}
omit [DecidableEq κ] in
theorem MapOf.made (w:World) (P:Program) (k:TypeId):MapOf kv (w.alloc (.map #[] 0)) P k w.heap.size 0 (fun _=>none) :=
 ⟨_,World.ownsMap_made w P k OT,fun _ _ _=>rfl⟩
omit [DecidableEq κ] in
theorem MapOf.lt (h:MapOf kv w P k b n f):b < w.heap.size:=let ⟨_,h,_⟩:=h;h.lt
omit [DecidableEq κ] in
theorem MapOf.keep (h:MapOf kv w P k b n f) (hb:w'.heap[b]? = w.heap[b]?):MapOf kv w' P k b n f :=
 let ⟨D,⟨es,cl,h1,h2⟩,h3⟩:=h
 ⟨D,⟨es,cl,hb.trans h1,h2⟩,h3⟩
omit [DecidableEq κ] in
theorem MapOf.but {L:List Nat} (h:MapOf kv w P k b n f) (hb:But L w w') (hL:b ∉ L):MapOf kv w' P k b n f:=h.keep (hb.block b h.lt hL)
omit [DecidableEq κ] in
theorem MapOf.mono (h:MapOf kv w P k b n f) {n':Nat} (hn:n≤n'):MapOf kv w P k b n' f :=
 let ⟨D,h1,h3⟩:=h
 ⟨D,h1.mono hn,h3⟩
omit [DecidableEq κ] in
theorem MapOf.alloc (h:MapOf kv w P k b n f) (o:Obj):MapOf kv (w.alloc o) P k b n f:=h.keep (Below.heap_alloc _ _ _ h.lt)
omit [DecidableEq κ] in
theorem MapOf.congr (h:MapOf kv w P k b n f) {g:κ→Option Value} (hg:∀ x,f x=g x):MapOf kv w P k b n g:=by
 have:f=g:=funext hg
 rwa [this] at h
omit [DecidableEq κ] in
theorem MapOf.look (h:MapOf kv w P k b n f) (K:Rq P k kv ok) (ht:P.underlying t=some (.map k e)) {z:Value} (hz:∀ w,(zeroValue e).run P w=.ok z w) (x:κ) (hx:ok x) :
 (Instr.lookup t (.map (some b)) (kv x) false).run P w=.ok ((f x).getD z) w:=by
 obtain ⟨D,⟨es,clock,hb,F,_,rfl⟩,hf⟩:=h;obtain ⟨kl,hkey⟩:=K.reads x hx;have h3:=hf x kl hkey
 rcases Maps.fit_look false K.keyed ht (hz w) hb F hkey with ⟨hrun,_,hat⟩ | ⟨e0,y,_,_,hrun,hRv,hat,_⟩
 ·rw [hat] at h3
  cases hfk:f x with
  | none=>simpa using hrun
  | some v=>rw [hfk] at h3;cases h3
 ·rw [hat] at h3;simp only [OT,Option.some.injEq] at hRv;subst hRv
  cases hfk:f x with
  | none=>rw [hfk] at h3;cases h3
  | some v=>rw [hfk] at h3;simp only [DataW.held.injEq] at h3;subst h3;simpa using hrun
theorem MapOf.put (h:MapOf kv w P k b n f) (K:Rq P k kv ok) (ht:P.underlying t=some (.map k e)) (hn:n < maxLen) (x:κ) (hx:ok x) (v:Value) :
 ∃ w',(Instr.mapUpdate t (.map (some b)) (kv x) v).run P w=.ok () w'∧MapOf kv w' P k b (n+1) (upd f x v)∧w.grownBy w' (some b):=by
 obtain ⟨D,hown,hf⟩:=h;obtain ⟨kl,hkey⟩:=K.reads x hx;obtain ⟨w',hrun,h1,h2⟩:=hown.update K.keyed ht hn hkey (val:=v) (d:=.held v) (ps:=[]) rfl;refine ⟨w',hrun,⟨_,h1,fun y l hy=>?_⟩,h2⟩;unfold upd
 by_cases hyx:y=x
 ·subst hyx;rw [hkey] at hy;cases hy;rw [if_pos rfl,atKey_put_same hown.isMap (K.keyed.key hkey)]
 ·rw [if_neg hyx]
  have hne:l≠kl:=by
   rintro rfl;exact hyx (K.inj _ _ (K.keyed.inj hy hkey))
  rw [atKey_put_other hne];exact hf y l hy
theorem Rq.int {P:Program} {k:TypeId} (hk:P.underlying k=some (.int .i64)):Rq P k (fun x:Int=>Value.int .i64 x) (fun x=>(Lit.int .i64 x).wf=true) :=
 ⟨int_keyed hk,fun x hx=>⟨_,keyOf_int_mk hk hx⟩,fun x y h=>by injection h⟩
end
end Go.Proofs.Ytkafcpnahpfbfaa
end
