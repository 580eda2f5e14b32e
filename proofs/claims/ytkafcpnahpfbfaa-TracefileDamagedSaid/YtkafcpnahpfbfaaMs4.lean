/- The document's answer for depots: Valid. -/
import Derived.Test.YtkafcpnahpfbfaaMs3
import Derived.RangeFuncBox
import Derived.RangeFuncLeaves
import Derived.RangeFuncWrites
import Derived.Shelf.Abstract
import Derived.WalkKit
import Derived.OwnWalkIn
import Derived.TacticsInMore
import Derived.LoopNIn
import Derived.LoopIn
set_option linter.unusedSimpArgs false
set_option linter.unusedVariables false
section
namespace Go.Proofs.Ytkafcpnahpfbfaa
open Go Go.RowKit
set_option maxRecDepth 100000
set_option maxHeartbeats 4000000
def Dep.good (d:Dep) (i:Nat):Prop:=(-1≤fB d i∧fB d i < (i:Int))∧0≤(dX d i).1∧0≤(dX d i).2
def Dep.dup (d:Dep) (k i:Nat):Prop:=dX d k=dX d i∧fB d k=fB d i
def Dep.val (d:Dep):Prop:=d.st.length=d.pr.length∧∀ i,i < d.st.length→d.good i∧∀ k,k < i→¬ d.dup k i
open Classical in
noncomputable def sZ (d:Dep):Bool:=decide d.val
open Classical in
theorem ou {d:Dep} (h:¬ d.val):sZ d=false:=by unfold sZ;exact decide_eq_false h
open Classical in
theorem qB {d:Dep} (h:d.val):sZ d=true:=by unfold sZ;exact decide_eq_true h
def Lx (ps rs:List Pa):Prop:=∃ d:Dep,ps=[d.pa]∧(d.st.length≤1000000∧d.pr.length≤1000000)∧rs=[pB (sZ d)]
theorem O1:Spec Try.prog 34 Lx:=by
 refine sp34 aA.e0 ?_;rintro ps rs ⟨d,rfl,⟨hl1,hl2⟩,rfl⟩;refine ⟨by simp,?_⟩;unfold pc34
 with_reducible refine aQ ?_
 have m1:(d.st.map aW).length=d.st.length:=List.length_map ..;have m2:(d.pr.map fun x=>[dI x]).length=d.pr.length:=List.length_map ..
 by_cases hlen:d.st.length=d.pr.length
 ·have b0:((d.st.length:Int) != (d.pr.length:Int))=false:=by rw [hlen];simp
  simp only [↓evP,evB,stB,reduceCtorEq,Nat.reduceEqDiff,Dep.pa,Dep.row,m1,m2,b0];refine gy [0,1,2,3] [1] (fun S hs ho=>?_);simp only [stB,reduceCtorEq,Nat.reduceEqDiff] at hs ho;obtain ⟨q0,q1,q2,q3⟩:=hs;obtain ⟨r1,t1⟩:=ho;refine bS ms34_0 os34_0 (fun m st=>∃ i:Nat,m=d.st.length - i∧i≤d.st.length∧st.sl 3=aI i∧∀ x,x < i→d.good x∧∀ k,k < x→¬ d.dup k x) d.st.length ?_ ?_
  ·exact ⟨0,rfl,Nat.zero_le _,q3,fun x q=>absurd q (Nat.not_lt_zero _)⟩
  rintro m z ⟨i,rfl,hi,h3,hal⟩;simp only [stB,Nat.reduceBEq] at h3
  rcases Nat.lt_or_ge i d.st.length with hlt | hge
  ·have gp:d.pr[i]? = some (fB d i):=by unfold fB;rw [List.getD_eq_getElem?_getD,List.getElem?_eq_getElem (by omega)];rfl
   have gs:d.st[i]? = some (dX d i):=by unfold dX;rw [List.getD_eq_getElem?_getD,List.getElem?_eq_getElem hlt];rfl
   have ilt:(i:Int) < (d.st.length:Int):=by omega
   have i0:(0:Int)≤(i:Int):=by omega
   have hbad:¬ d.good i→sZ d=false:=fun h=>ou fun q=>h (q.2 i hlt).1
   obtain ⟨⟨s1,s2⟩,hs⟩:∃ s,dX d i=s:=⟨_,rfl⟩
   rw [hs] at gs
   by_cases c1:fB d i < -1
   ·rw [hbad fun h=>by have:=h.1.1;omega]
    simp only [↓evP,evB,stB,reduceCtorEq,Nat.reduceEqDiff,Nat.reduceBEq,q1,r1,t1,h3,m1,ilt,i0,gp,c1,decide_true,pr34]
    first | done | rfl
   by_cases c2:fB d i≥(i:Int)
   ·rw [hbad fun h=>by have:=h.1.2;omega]
    simp only [↓evP,evB,stB,reduceCtorEq,Nat.reduceEqDiff,Nat.reduceBEq,q1,r1,t1,h3,m1,ilt,i0,gp,c1,c2,decide_true,decide_false,pr34]
    first | done | rfl
   by_cases c3:s1 < 0
   ·rw [hbad fun h=>by have:=h.2.1;rw [hs] at this;dsimp only at this;omega]
    simp only [↓evP,evB,stB,reduceCtorEq,Nat.reduceEqDiff,Nat.reduceAdd,Nat.reduceBEq,q1,r1,t1,h3,m1,ilt,i0,gp,gs,c1,c2,c3,aW,decide_true,decide_false,pr34]
    first | done | rfl
   by_cases c4:s2 < 0
   ·rw [hbad fun h=>by have:=h.2.2;rw [hs] at this;dsimp only at this;omega]
    simp only [↓evP,evB,stB,reduceCtorEq,Nat.reduceEqDiff,Nat.reduceAdd,Nat.reduceBEq,q1,r1,t1,h3,m1,ilt,i0,gp,gs,c1,c2,c3,c4,aW,decide_true,decide_false,pr34]
    first | done | rfl
   have hgood:d.good i:=⟨⟨by omega,by omega⟩,by rw [hs];dsimp only;omega,by rw [hs];dsimp only;omega⟩
   simp only [↓evP,evB,stB,reduceCtorEq,Nat.reduceEqDiff,Nat.reduceAdd,Nat.reduceBEq,q1,r1,t1,h3,m1,ilt,i0,gp,gs,c1,c2,c3,c4,aW,decide_true,decide_false]
   refine jH (fun st=>Within ms34_0 os34_0 S st) (by repeat' (first | assumption | exact bg.mpr trivial | exact Within.refl _ _ _ | (refine bC ?_ rfl rfl) | (refine aY ?_ rfl))) [0,1,3,4] [1] (fun T hwT hs2 ho2=>?_);simp only [stB,reduceCtorEq,Nat.reduceEqDiff,Nat.reduceBEq,q0,q1,r1,t1,h3] at hs2 ho2;obtain ⟨p0,p1,p3,p4⟩:=hs2;obtain ⟨v1,v2⟩:=ho2;refine bS ms34_1 os34_1 (fun m st=>∃ k:Nat,m=i - k∧k≤i∧st.sl 4=aI k∧∀ x,x < k→¬ d.dup x i) i ?_ ?_
   ·exact ⟨0,rfl,Nat.zero_le _,p4,fun x q=>absurd q (Nat.not_lt_zero _)⟩
   rintro m2 z2 ⟨k,rfl,hk,h4,hno⟩;simp only [stB,Nat.reduceBEq] at h4
   rcases Nat.lt_or_ge k i with hki | hki
   ·have gp2:d.pr[k]? = some (fB d k):=by unfold fB;rw [List.getD_eq_getElem?_getD,List.getElem?_eq_getElem (by omega)];rfl
    have gs2:d.st[k]? = some (dX d k):=by unfold dX;rw [List.getD_eq_getElem?_getD,List.getElem?_eq_getElem (by omega)];rfl
    have kli:(k:Int) < (i:Int):=by omega
    have k0:(0:Int)≤(k:Int):=by omega
    obtain ⟨⟨u1,u2⟩,hu⟩:∃ u,dX d k=u:=⟨_,rfl⟩
    rw [hu] at gs2
    have hnext:¬ d.dup k i→∀ x,x < k+1→¬ d.dup x i:=fun h x hx=>by
     rcases Nat.lt_or_ge x k with q | q
     ·exact hno x q
     ·have:x=k:=by omega
      subst this;exact h
    cases b1:(u1 == s1) with
    | false =>
      have hd:¬ d.dup k i:=fun h=>by
       have:=h.1;rw [hu,hs] at this;cases this;simp at b1
      simp only [↓evP,evB,stB,reduceCtorEq,Nat.reduceEqDiff,Nat.reduceAdd,Nat.reduceLeDiff,Nat.reduceBEq,p1,p3,v1,v2,h4,kli,k0,i0,gs,gs2,aW,je,yF,b1,decide_true];refine ⟨(by unfold Drw;refine Eq.trans (b:=true) ?_ rfl;kernel_rfl),?_⟩
      exact ⟨_,by omega,(by repeat' (first | assumption | exact bg.mpr trivial | exact Within.refl _ _ _ | (refine bC ?_ rfl rfl) | (refine aY ?_ rfl))),k+1,rfl,hki,by simp only [stB,Nat.reduceEqDiff,Nat.reduceBEq,h4];rw [wrN (by omega)],hnext hd⟩
    | true =>
      cases b2:(u2 == s2) with
      | false =>
        have hd:¬ d.dup k i:=fun h=>by
         have:=h.1;rw [hu,hs] at this;cases this;simp at b2
        simp only [↓evP,evB,stB,reduceCtorEq,Nat.reduceEqDiff,Nat.reduceAdd,Nat.reduceLeDiff,Nat.reduceBEq,p1,p3,v1,v2,h4,kli,k0,i0,gs,gs2,aW,je,yF,b1,b2,decide_true];refine ⟨(by unfold Drw;refine Eq.trans (b:=true) ?_ rfl;kernel_rfl),?_⟩
        exact ⟨_,by omega,(by repeat' (first | assumption | exact bg.mpr trivial | exact Within.refl _ _ _ | (refine bC ?_ rfl rfl) | (refine aY ?_ rfl))),k+1,rfl,hki,by simp only [stB,Nat.reduceEqDiff,Nat.reduceBEq,h4];rw [wrN (by omega)],hnext hd⟩
      | true =>
        cases b3:(fB d k == fB d i) with
        | false =>
          have hd:¬ d.dup k i:=fun h=>by
           have:=h.2;rw [this] at b3;simp at b3
          simp only [↓evP,evB,stB,reduceCtorEq,Nat.reduceEqDiff,Nat.reduceAdd,Nat.reduceLeDiff,Nat.reduceBEq,p1,p3,v1,v2,h4,kli,k0,i0,gp,gs,gp2,gs2,aW,je,yF,b1,b2,b3,decide_true];refine ⟨(by unfold Drw;refine Eq.trans (b:=true) ?_ rfl;kernel_rfl),?_⟩
          exact ⟨_,by omega,(by repeat' (first | assumption | exact bg.mpr trivial | exact Within.refl _ _ _ | (refine bC ?_ rfl rfl) | (refine aY ?_ rfl))),k+1,rfl,hki,by simp only [stB,Nat.reduceEqDiff,Nat.reduceBEq,h4];rw [wrN (by omega)],hnext hd⟩
        | true =>
          have hd:d.dup k i:=⟨by rw [hu,hs,eq_of_beq b1,eq_of_beq b2],eq_of_beq b3⟩;rw [ou fun q=>(q.2 i hlt).2 k hki hd];simp only [↓evP,evB,stB,reduceCtorEq,Nat.reduceEqDiff,Nat.reduceAdd,Nat.reduceLeDiff,Nat.reduceBEq,p1,p3,v1,v2,h4,kli,k0,i0,gp,gs,gp2,gs2,aW,je,yF,b1,b2,b3,decide_true,pr34]
          first | done | exact ⟨(by unfold Drw;refine Eq.trans (b:=true) ?_ rfl;kernel_rfl),rfl⟩ | rfl
   ·have hke:k=i:=by omega
    subst hke;have kli:¬ (k:Int) < (k:Int):=by omega
    simp only [↓evP,evB,stB,reduceCtorEq,Nat.reduceEqDiff,Nat.reduceBEq,p1,p3,v1,v2,h4,kli,decide_false]
    exact ⟨_,by omega,(by repeat' (first | exact iU hwT rfl rfl | (refine bC ?_ rfl rfl) | (refine aY ?_ rfl))),k+1,rfl,by omega,by simp only [stB,Nat.reduceEqDiff,Nat.reduceBEq,p3];rw [wrN (by omega)],fun x hx=>by
     rcases Nat.lt_or_ge x k with q | q
     ·exact hal x q
     ·have:x=k:=by omega
      subst this;exact ⟨hgood,hno⟩⟩
  ·have hie:i=d.st.length:=by omega
   have ilt:¬ (i:Int) < (d.st.length:Int):=by omega
   have hv:sZ d=true:=qB ⟨hlen,fun x hx=>hal x (by omega)⟩;rw [hv];simp only [↓evP,evB,stB,reduceCtorEq,Nat.reduceEqDiff,Nat.reduceBEq,q1,r1,t1,h3,m1,ilt,decide_false,pr34]
   first | done | rfl
 ·have b0:((d.st.length:Int) != (d.pr.length:Int))=true:=by
   rw [bne_iff_ne];omega
  rw [ou fun h=>hlen h.1];simp only [↓evP,evB,stB,reduceCtorEq,Nat.reduceEqDiff,Dep.pa,Dep.row,m1,m2,b0,pr34]
  first | done | rfl
end Go.Proofs.Ytkafcpnahpfbfaa
end
section
namespace Go.Proofs.Ytkafcpnahpfbfaa
open Go Go.RowKit
set_option maxRecDepth 1000000
set_option maxHeartbeats 4000000
def ug (n:Nat):Int:=if n % 2=1 then -(((n+1) / 2:Nat):Int) else ((n / 2:Nat):Int)
def eqE (d:Dep) (p:Int) (s:Int×Int) (i:Nat):Prop:=dX d i=s∧fB d i=p
instance (d:Dep) (p:Int) (s:Int×Int) (i:Nat):Decidable (eqE d p s i):=inferInstanceAs (Decidable (_∧_))
def fE (d:Dep) (p:Int) (s:Int×Int):Nat→Nat→Nat
 | 0,i=>i
 | k+1,i=>if eqE d p s i then i else fE d p s k (i+1)
def Sv (d:Dep) (p:Int) (s:Int×Int):Nat:=fE d p s d.st.length 0
def eB (d:Dep) (p:Int) (s:Int×Int):Dep:=⟨d.st ++ [s],d.pr ++ [p]⟩
theorem PZ (d:Dep) (p:Int) (s:Int×Int):∀ k i,fE d p s k i=i+k↔∀ x,i≤x→x < i+k→¬ eqE d p s x
 | 0,i=>⟨fun _ x h1 h2=>by omega,fun _=>rfl⟩
 | k+1,i=>by
   unfold fE
   by_cases h:eqE d p s i
   ·rw [if_pos h];exact ⟨fun q=>by omega,fun q=>absurd h (q i (Nat.le_refl _) (by omega))⟩
   ·rw [if_neg h,show i+(k+1)=i+1+k by omega,PZ d p s k (i+1)];refine ⟨fun q x h1 h2=>?_,fun q x h1 h2=>q x (by omega) h2⟩
    rcases Nat.eq_or_lt_of_le h1 with rfl | h3
    ·exact h
    ·exact q x h3 h2
theorem mX {d:Dep} {p:Int} {s:Int×Int}:Sv d p s=d.st.length↔∀ x,x < d.st.length→¬ eqE d p s x:=by
 have:=PZ d p s d.st.length 0;unfold Sv;rw [Nat.zero_add] at this;rw [this];exact ⟨fun q x hx=>q x (Nat.zero_le _) hx,fun q x _ hx=>q x hx⟩
def newE (d:Dep) (p:Int) (s:Int×Int):Prop:=p < (d.st.length:Int)∧Sv d p s=d.st.length
instance (d:Dep) (p:Int) (s:Int×Int):Decidable (newE d p s):=inferInstanceAs (Decidable (_∧_))
def okE (d:Dep) (p:Int) (s:Int×Int):Prop:=newE d p s∧s.1≤2147483647∧s.2≤2147483647
instance (d:Dep) (p:Int) (s:Int×Int):Decidable (okE d p s):=inferInstanceAs (Decidable (_∧_∧_))
def jJ (s:Rs):(Int×(Int×Int))×Rs :=
 let n1:=bN s
 let n2:=bN n1.2
 let n3:=bN n2.2
 (((n1.1:Int) - 1,((n2.1:Int),(n3.1:Int))),n3.2)
def kQ:Nat→Dep→Rs→Dep×Rs
 | 0,d,s=>(d,s)
 | k+1,d,s=>if s.bad=true then (d,s) else
   if (jJ s).2.bad=true∨¬ okE d (jJ s).1.1 (jJ s).1.2 then (d,⟨(jJ s).2.rest,true⟩) else kQ k (eB d (jJ s).1.1 (jJ s).1.2) (jJ s).2
theorem jC {d:Dep} {p:Int} {s:Int×Int} {i:Nat} (h:i < d.st.length):dX (eB d p s) i=dX d i:=by
 unfold dX eB;simp only [List.getD_eq_getElem?_getD];rw [List.getElem?_append_left h]
theorem jA {d:Dep} {p:Int} {s:Int×Int} {i:Nat} (h:i < d.pr.length):fB (eB d p s) i=fB d i:=by
 unfold fB eB;simp only [List.getD_eq_getElem?_getD];rw [List.getElem?_append_left h]
theorem BD {d:Dep} {p:Int} {s:Int×Int} (h:d.val) (hn:newE d p s) (hp:-1≤p) (h1:0≤s.1) (h2:0≤s.2):(eB d p s).val:=by
 obtain ⟨hl,hv⟩:=h;have e1:dX (eB d p s) d.st.length=s:=by unfold dX eB;simp
 have e2:fB (eB d p s) d.st.length=p:=by unfold fB eB;rw [hl];simp
 refine ⟨by unfold eB;simp [hl],fun i hi=>?_⟩
 have hi':i < d.st.length+1:=by simpa [eB] using hi
 rcases Nat.lt_or_ge i d.st.length with hlt | hge
 ·obtain ⟨g,hd⟩:=hv i hlt;refine ⟨?_,fun k hk hq=>hd k hk ?_⟩
  ·unfold Dep.good at g ⊢;rw [jC hlt,jA (by omega)];exact g
  ·unfold Dep.dup at hq ⊢;rw [jC hlt,jA (by omega),jC (by omega),jA (by omega)] at hq;exact hq
 ·have:i=d.st.length:=by omega
  subst this;refine ⟨?_,fun k hk hq=>?_⟩
  ·unfold Dep.good;rw [e1,e2];exact ⟨⟨hp,hn.1⟩,h1,h2⟩
  ·unfold Dep.dup at hq;rw [e1,e2,jC hk,jA (by omega)] at hq;exact (mX.1 hn.2) k hk hq
theorem vP (s:Rs):(jJ s).2.rest <:+ s.rest:=(jl _).trans ((jl _).trans (jl s))
theorem Ku {s:Rs} (h:s.bad=true):(bN s).2=s:=by unfold bN;rw [if_pos h]
theorem FP {s:Rs} (h:(jJ s).2.bad=false):(jJ s).2.rest.length+3≤s.rest.length:=by
 have h3:=uI (s:=(bN (bN s).2).2) h;have h2:=uI h3.2;have h1:=uI h2.2
 show (bN (bN (bN s).2).2).2.rest.length+3≤_
 omega
end Go.Proofs.Ytkafcpnahpfbfaa
end
section
namespace Go.Proofs.Ytkafcpnahpfbfaa
open Go Go.RowKit Go.Shelf
set_option maxRecDepth 1000000
set_option maxHeartbeats 4000000
attribute [local go_sem] Oper.semAt_some
def Eo (b o n k:Nat):Value:=.slice (some ⟨b,o+16 * k * 9,none⟩) (min 16 (n - 16 * k)) (min 16 (n - 16 * k))
def Kp2 (k2 k3:Nat) (W W':World):Prop:=W'.heap[k2]? = W.heap[k2]?∧W'.heap[k3]? = W.heap[k3]?
theorem Kp2.t {k2 k3:Nat} {A B C:World} (h:Kp2 k2 k3 A B) (k:Kp2 k2 k3 B C):Kp2 k2 k3 A C:=⟨k.1.trans h.1,k.2.trans h.2⟩
theorem Kp2.SI {k2 k3:Nat} {A B:World} (h:Kp2 k2 k3 A B):B.cell? ⟨k2,0,none⟩=A.cell? ⟨k2,0,none⟩:=by
 unfold World.cell?;rw [h.1]
theorem Kp2.PK {k2 k3:Nat} {A B:World} (h:Kp2 k2 k3 A B):B.cell? ⟨k3,0,none⟩=A.cell? ⟨k3,0,none⟩:=by
 unfold World.cell?;rw [h.2]
theorem F8 (F:Fence) (hFw:F=Fence.wide) (n:Nat) (hf:F.fn 47) (hro:F.round=none) (hn:1≤n) (l k2 k3 b o len cap m:Nat) (hlen:len≤1000) (hcap:len≤cap) (hcm:cap≤maxLen) (hm:m=(len+15) / 16) (J Jx:List (Fin m)→World→Prop)
 (hY:∀ pre x W,J pre W→pre.length < m→YieldAt F (n - 1) Try.prog l #[Eo b o len x.1] W fun e W' =>
  (e=.returned (.bool true)∧J (pre ++ [x]) W'∧Kp2 k2 k3 W W')∨(e=.returned (.bool false)∧Jx (pre ++ [x]) W'))
 (hJd:∀ pre W,J pre W→J pre W.drew)
 (W:World) (h2:W.cell? ⟨k2,0,none⟩=some (.slice (some ⟨b,o,none⟩) len cap)) (h3:W.cell? ⟨k3,0,none⟩=some (.int .i64 16)) (h0:J [] W) :
 CallsIn F n Try.prog 47 #[.func (.yield l) #[] #[],.pointer (some ⟨k2,0,none⟩),.pointer (some ⟨k3,0,none⟩)] W fun e W'=>(∃ v,e=.returned v) ∧
  ((∃ ys,ys.map (·.1)=List.range m∧J ys W')∨(∃ pre,True∧Jx pre W')):=by
 refine callsIn_of_wp Try.func47 rfl hf ?_ hro;simp only [Try.ntmps47,List.size_toArray,List.length_cons,List.length_nil,Nat.reduceAdd,Nat.reduceSub,Array.replicate_succ,Array.replicate_zero,List.push_toArray,List.append_toArray,List.nil_append,List.cons_append]
 gi_wp2
 gi_loopw [4] (fun i wr=>∃ (k:Nat) (ys:List (Fin m)),k≤m∧ys.map (·.1)=List.range k∧i=.int .i64 ((16 * k:Nat):Int)∧J ys wr∧Kp2 k2 k3 W wr)
  (fun i _=>len+16 - (intOf i).toNat)
 case atStart=>exact ⟨0,[],Nat.zero_le _,rfl,rfl,h0,⟨rfl,rfl⟩⟩
 case round =>
  obtain ⟨k,ys,hk,hys,rfl,hJs,hkp⟩:=hrel;have h2':=hkp.SI.trans h2;have h3':=hkp.PK.trans h3
  by_cases hlt:k < m
  ·obtain ⟨fn,tmps,assign,body,hy,hR⟩:=hY ys ⟨k,hlt⟩ wr.drew (hJd _ _ hJs) (by have:=congrArg List.length hys;simp at this;omega)
   dsimp only [Eo] at hy;have hkl:16 * k < len:=by omega
   gi_wp2
   subst hFw;refine wpIn_wide.2 ?_
   go_region
   have hif:(if ((len - 16 * k:Nat):Int) < 16 then ((len - 16 * k:Nat):Int) else 16)=((min 16 (len - 16 * k):Nat):Int):=by split <;> omega
   simp only [hif];obtain ⟨q,hq⟩:∃ q,min 16 (len - 16 * k)=q:=⟨_,rfl⟩
   rw [hq] at hy ⊢;have hq1:16 * k+q≤len:=by omega
   have h2d:wr.drew.cell? ⟨k2,0,none⟩=some (.slice (some ⟨b,o,none⟩) len cap):=h2'
   have hwq:IntKind.i64.wrap (((16 * k:Nat):Int)+(q:Int))=((16 * k+q:Nat):Int):=by
    rw [IntKind.wrap_i64] <;> omega
   gi_wp2
   refine hR.mono ?_;rintro e W3 (⟨rfl,hJ3,hk3⟩ | ⟨rfl,hJx3⟩)
   ·have h33:W3.cell? ⟨k3,0,none⟩=some (.int .i64 16):=hk3.PK.trans h3'
    have hw16:IntKind.i64.wrap (((16 * k:Nat):Int)+16)=((16 * (k+1):Nat):Int):=by
     rw [IntKind.wrap_i64] <;> omega
    gi_wp2
    go_roundw
    case rel=>exact ⟨k+1,ys ++ [⟨k,hlt⟩],by omega,by rw [List.map_append,hys,List.range_succ];rfl,by simp;omega,hJ3,hkp.t hk3⟩
    case measure=>simp [intOf];omega
   ·gi_wp2
    refine bodyPost_ret (results_none rfl _ _ _) rfl ?_;exact ⟨⟨_,rfl⟩,.inr ⟨_,trivial,hJx3⟩⟩
  ·obtain rfl:k=m:=by omega
   gi_wp2
   go_end0
   exact ⟨⟨_,rfl⟩,.inl ⟨_,hys,hJs⟩⟩
theorem kpb {k2 k3:Nat} {w:World} (h2:k2 < w.heap.size) (h3:k3 < w.heap.size) (W:World) (l:Nat) (o o':Obj) (hl:w.heap.size≤l) (_:W.heap[l]? = some o) (_:o.isCells=false) (_:o.isWalk=false):Kp2 k2 k3 W (W.putObj l o') :=
 ⟨World.putObj_heap_other (by omega),World.putObj_heap_other (by omega)⟩
theorem F7 (F:Fence) (n:Nat) (hf:F.fn 47) (hro:F.round=none) (l k2 k3:Nat) (A:Option Addr) (cap:Nat) {α:Type} (J:List α→World→Prop)
 (W:World) (h2:W.cell? ⟨k2,0,none⟩=some (.slice A 0 cap)) (h0:J [] W) :
 CallsIn F n Try.prog 47 #[.func (.yield l) #[] #[],.pointer (some ⟨k2,0,none⟩),.pointer (some ⟨k3,0,none⟩)] W fun e W'=>(∃ v,e=.returned v)∧J [] W':=by
 refine callsIn_of_wp Try.func47 rfl hf ?_ hro;simp only [Try.ntmps47,List.size_toArray,List.length_cons,List.length_nil,Nat.reduceAdd,Nat.reduceSub,Array.replicate_succ,Array.replicate_zero,List.push_toArray,List.append_toArray,List.nil_append,List.cons_append]
 gi_wp2
 gi_loopw [4] (fun i wr=>i=.int .i64 0∧J [] wr∧wr.cell? ⟨k2,0,none⟩=some (.slice A 0 cap)) (fun _ _=>0)
 case atStart=>exact ⟨rfl,h0,h2⟩
 case round =>
  obtain ⟨rfl,hJs,h2'⟩:=hrel
  gi_wp2
  go_end0
  exact ⟨⟨_,rfl⟩,hJs⟩
theorem zH {S:Nat→Nat} {es:List Ev} {v:Value} {k2 k3:Nat} {w:World} (n:Nat) (hn:1≤n) (hel:es.length≤1000) (hv:RD S w (.im (es.map Ev.row)) v) (h2:w.cell? ⟨k2,0,none⟩=some v) (h3:w.cell? ⟨k3,0,none⟩=some (.int .i64 16)) (hk2:k2 < w.heap.size) (hk3:k3 < w.heap.size) :
 ∃ enc:Fin (dW es)→Value,(∀ x S' w',RD S' w' (.im (es.map Ev.row)) v→RD S' w' (.im ((bP es (16 * x.1) 16).map Ev.row)) (enc x)) ∧
   SeqStopsK Fence.wide n Try.prog 47 #[.pointer (some ⟨k2,0,none⟩),.pointer (some ⟨k3,0,none⟩)] (fun x=>#[enc x]) (Kp2 k2 k3) (fun ys=>ys.map (·.1)=List.range (dW es)) (fun _=>True) (dW es) w:=by
 by_cases he:es=[]
 ·subst he
  have hA:∃ A c,v=.slice A 0 c:=by
   cases hv with
   | emp A c h=>exact ⟨A,c,rfl⟩
   | im rows sz b o cap f=>exact ⟨_,_,rfl⟩
  obtain ⟨A,c,rfl⟩:=hA;refine ⟨fun _=>undef,fun x=>absurd x.2 (by show ¬ x.1 < (0+15) / 16;omega),fun l J Jx W hW _ _ hY h0=>?_⟩
  have h2':=(hW.cell (p:=⟨k2,0,none⟩) hk2).trans h2;exact (F7 Fence.wide n trivial rfl l k2 k3 A c J W h2' h0).mono fun e W' ⟨he,hj⟩=>⟨he,.inl ⟨[],rfl,hj⟩⟩
 ·have hpos:0 < es.length:=List.length_pos_iff.2 he
  have hA:∃ b o cap,v=.slice (some ⟨b,o,none⟩) es.length cap∧es.length≤cap∧cap≤maxLen:=by
   generalize hr:es.map Ev.row=rows at hv;have hl:rows.length=es.length:=by rw [←hr,List.length_map]
   cases hv with
   | emp A c h=>simp at hl;omega
   | im rows sz b o cap f hc hm=>exact ⟨b,o,cap,by rw [hl],by omega,hm⟩
  obtain ⟨b,o,cap,rfl,hc1,hc2⟩:=hA;refine ⟨fun x=>Eo b o es.length x.1,fun x S' w' h=>?_,fun l J Jx W hW hJ _ hY h0=>?_⟩
  ·generalize hr:es.map Ev.row=rows at h;have hl:rows.length=es.length:=by rw [←hr,List.length_map]
   have hx:=x.2;unfold dW at hx
   have hrows:(bP es (16 * x.1) 16).map Ev.row=(rows.drop (16 * x.1)).take 16:=by
    rw [←hr];unfold bP;rw [List.map_take,List.map_drop]
   have hln:((bP es (16 * x.1) 16).map Ev.row).length=min 16 (es.length - 16 * x.1):=by rw [List.length_map,fV]
   show RD S' w' _ (.slice (some ⟨b,o+16 * x.1 * 9,none⟩) (min 16 (es.length - 16 * x.1)) (min 16 (es.length - 16 * x.1)))
   rw [←hln];rw [hl.symm] at hc1
   have hget:∀ i,i < min 16 (es.length - 16 * x.1)→((bP es (16 * x.1) 16).map Ev.row)[i]? = rows[16 * x.1+i]?:=fun i hi=>by
    rw [hrows,List.getElem?_take,if_pos (by omega),List.getElem?_drop]
   generalize hE:(bP es (16 * x.1) 16).map Ev.row=R at hln hget;generalize hL:es.length=L at h
   cases h with
   | emp A c h=>simp at hl;omega
   | im _ sz _ _ _ f hc hm hsz hcell hd =>
     have hsz9:sz=9:=by
      have h9:∀ r ∈ rows,r.length=9:=by
       rw [←hr];intro r h;obtain ⟨e,_,rfl⟩:=List.mem_map.1 h;rfl
      have hm0:rows[0]'(by omega) ∈ rows:=List.getElem_mem _;exact (hsz _ hm0).symm.trans (h9 _ hm0)
     subst hsz9;refine .im R 9 b (o+16 * x.1 * 9) R.length (fun i j=>f (16 * x.1+i) j) (Nat.le_refl _) (by rw [hln];unfold maxLen at *;omega) (fun r hm=>?_) (fun i j hi hj=>?_) (fun i r j y h1 h2=>?_)
     ·obtain ⟨i,hi⟩:=List.mem_iff_getElem?.1 hm;have hlt:=(List.getElem?_eq_some_iff.1 hi).1;rw [hln] at hlt;rw [hget i hlt] at hi;exact hsz r (List.mem_of_getElem? hi)
     ·rw [hln] at hi;have:=hcell (16 * x.1+i) j (by omega) hj;have e:o+((16 * x.1+i) * 9+j)=o+16 * x.1 * 9+(i * 9+j):=by omega
      rw [e] at this;exact this
     ·have hlt:=(List.getElem?_eq_some_iff.1 h1).1;rw [hln] at hlt;rw [hget i hlt] at h1;exact hd _ r j y h1 h2
  ·have h2':=(hW.cell (p:=⟨k2,0,none⟩) hk2).trans h2;have h3':=(hW.cell (p:=⟨k3,0,none⟩) hk3).trans h3;exact F8 Fence.wide rfl n trivial rfl hn l k2 k3 b o es.length cap (dW es) hel hc1 hc2 rfl J Jx hY (fun pre W h=>hJ pre W W.drew none h ⟨rfl,rfl,rfl,Nat.le_refl _,fun _ _ _=>rfl⟩ (fun r e=>by cases e)) W h2' h3' h0
end Go.Proofs.Ytkafcpnahpfbfaa
end
section
namespace Go.Proofs.Ytkafcpnahpfbfaa
open Go Go.RowKit
set_option maxRecDepth 1000000
set_option maxHeartbeats 4000000
noncomputable def Jr:Env:=f1 36 LH (e1 37 qN (e1 39 Ah (e1 40 wC (e1 38 Ai e0))))
theorem CQ:aA Try.prog Jr:=aA.f1 RJ (aA.e1 uP (aA.e1 KX (aA.e1 Ik (aA.e1 KY aA.e0))))
def qo (ps rs:List Pa):Prop:=∃ (es:List Ev) (d:Dep),ps=[iA es d]∧rJ d es∧rs=[.one (.im (kG (aZ d es)))]
theorem vO:Spec Try.prog 20 qo:=by
 refine sp20 CQ ?_;rintro ps rs ⟨es,d,rfl,ok,rfl⟩;refine ⟨by simp,?_⟩;unfold pc20
 with_reducible refine aQ ?_
 have m1:(d.st.map aW).length=d.st.length:=List.length_map ..;have m2:(es.map Ev.row).length=es.length:=List.length_map ..;have hel:=ok.el;have hdl:=ok.len;simp only [↓evP,evB,stB,Nat.reduceEqDiff,iA,cK,pr20];refine gy [1,3,4,5,6] [1,3,4] (fun S hs ho=>?_);simp only [stB,Nat.reduceEqDiff] at hs ho;obtain ⟨q1,q3,q4,q5,q6⟩:=hs;obtain ⟨⟨g1,o1⟩,⟨g3,o3⟩,g4,o4⟩:=ho;refine bS ms20_0 (49 :: os20_0) (fun m st=>∃ k:Nat,m=dW es - k∧k≤dW es∧st.sl 6=aI ((16 * k:Nat):Int)∧st.sl 5=aI ((bq (es.take (16 * k)) 0:Nat):Int)∧st.sl 3=.b (.one (.own 3 1 (kG ((List.range k).map (fQ d es)))))∧st.gen 3=1∧st.ob 3=.row 31 1 k∧st.gen 4=1∧st.ob 4=.cells ((lst ev0 (es.take (16 * k))).row.map .d)) (dW es) ?_ ?_
 ·exact ⟨0,rfl,Nat.zero_le _,q6,q5,q3,g3,o3,g4,o4⟩
 rintro m z ⟨k,rfl,hk,h6,h5,h3,hg3,ho3,hg4,ho4⟩;simp only [stB,Nat.reduceBEq] at h6 h5 h3 hg3 ho3 hg4 ho4
 rcases Nat.lt_or_ge k (dW es) with hlt | hge
 ·have hkl:16 * k < es.length:=by unfold dW at hlt;omega
  have lt1:((16 * k:Nat):Int) < (es.length:Int):=by omega
  have w1:IntKind.i64.wrap (((16 * k:Nat):Int)+16)=((16 * k+16:Nat):Int):=by rw [dP (by omega) (by omega)];omega
  obtain ⟨c,hc⟩:∃ c,min (16 * k+16) es.length=16 * k+c:=⟨min (16 * k+16) es.length - 16 * k,by omega⟩
  have hmin:(if (es.length:Int) < ((16 * k+16:Nat):Int) then (es.length:Int) else ((16 * k+16:Nat):Int))=((16 * k+c:Nat):Int):=by split <;> omega
  have hc16:c≤16:=by omega
  have hcl:16 * k+c≤es.length:=by omega
  simp only [↓evP,evB,stB,reduceCtorEq,Nat.reduceEqDiff,Nat.reduceAdd,Nat.reduceLeDiff,Nat.reduceBEq,q1,g1,o1,h6,h5,m2,lt1,w1,List.foldl_cons,List.foldl_nil,hmin,decide_true]
  refine jH (fun st=>Within ms20_0 (49 :: os20_0) S st) (by repeat' (first | assumption | exact bg.mpr trivial | exact Within.refl _ _ _ | (refine bC ?_ rfl rfl) | (refine aY ?_ rfl))) [1,3,4,5,6,7,8,9] [1,3,4] (fun S3 hw3 hs3 ho3'=>?_);simp only [stB,Nat.reduceEqDiff,Nat.reduceBEq,q1,q4,g1,o1,h6,h5,h3,hg3,ho3,hg4,ho4] at hs3 ho3';obtain ⟨a1,a3,a4,a5,a6,a7,a8,a9⟩:=hs3;obtain ⟨⟨bg1,bo1⟩,⟨bg3,bo3⟩,bg4,bo4⟩:=ho3';have hn0:=ok.need (16 * k);refine bS ms20_1 os20_1 (fun m st=>∃ j:Nat,m=c - j∧j≤c∧st.sl 9=aI ((16 * k+j:Nat):Int)∧st.sl 8=aI ((bq (es.take (16 * k+j)) 0:Nat):Int)) c ?_ ?_
  ·exact ⟨0,rfl,Nat.zero_le _,a9,a8⟩
  rintro m2' z2 ⟨j,rfl,hj,h9,h8⟩;simp only [stB,Nat.reduceBEq] at h9 h8
  rcases Nat.lt_or_ge j c with hjc | hjc
  ·have hi:16 * k+j < es.length:=by omega
   have ge:es[16 * k+j]? = some (es[16 * k+j]):=List.getElem?_eq_getElem hi;generalize es[16 * k+j]=e at ge;have hev:=ok.ev e (List.mem_of_getElem? ge);have hst:=uy hev.1 e.stack (by simp [Ev.fl]);have lt2:((16 * k+j:Nat):Int) < ((16 * k+c:Nat):Int):=by omega
   have i0:(0:Int)≤((16 * k+j:Nat):Int):=by omega
   have w2:IntKind.i64.wrap (e.stack+1)=e.stack+1:=dP (by omega) (by omega);have w3:IntKind.i64.wrap (((16 * k+j:Nat):Int)+1)=((16 * k+(j+1):Nat):Int):=by rw [dP (by omega) (by omega)];omega
   have hne:bq (es.take (16 * k+(j+1))) 0=max (bq (es.take (16 * k+j)) 0) (e.stack+1).toNat:=by
    rw [show 16 * k+(j+1)=16 * k+j+1 from rfl,take_at ge,iV];rfl
   have hmax:(if e.stack+1 > ((bq (es.take (16 * k+j)) 0:Nat):Int) then e.stack+1 else ((bq (es.take (16 * k+j)) 0:Nat):Int))=((bq (es.take (16 * k+(j+1))) 0:Nat):Int):=by
    rw [hne];split <;> omega
   simp only [↓evP,evB,stB,reduceCtorEq,Nat.reduceEqDiff,Nat.reduceAdd,Nat.reduceLeDiff,Nat.reduceBEq,a1,a7,bg1,bo1,h9,h8,ge,lt2,i0,w2,List.foldl_cons,List.foldl_nil,hmax,Ev.row,decide_true]
   exact ⟨_,by omega,(by repeat' (first | assumption | exact bg.mpr trivial | exact Within.refl _ _ _ | (refine bC ?_ rfl rfl) | (refine aY ?_ rfl))),j+1,rfl,hjc,by simp only [stB,Nat.reduceEqDiff,Nat.reduceBEq,h9,w3],by simp only [stB,Nat.reduceEqDiff,Nat.reduceBEq];first | done | rw [hmax]⟩
  have hje:j=c:=by omega
  subst hje;have lt2:¬ ((16 * k+j:Nat):Int) < ((16 * k+j:Nat):Int):=by omega
  simp only [↓evP,evB,stB,reduceCtorEq,Nat.reduceEqDiff,Nat.reduceAdd,Nat.reduceLeDiff,Nat.reduceBEq,a1,a7,bg1,bo1,a5,h9,h8,lt2,decide_false];have hn1:=ok.need (16 * k+j)
  have hnn:bq (es.take (16 * k)) 0≤bq (es.take (16 * k+j)) 0:=by
   rw [←gY es (16 * k) j,iV];exact nk _ _
  refine jT (byR (qQ d (bq (es.take (16 * k)) 0) (bq (es.take (16 * k+j)) 0))) (E:=5) (sz:=1) (by exact ⟨d,_,_,rfl,⟨ok.dk,hnn,hn1⟩,rfl,rfl,rfl⟩) ?_;obtain ⟨B0,hB0⟩:∃ B0,qQ d (bq (es.take (16 * k)) 0) (bq (es.take (16 * k+j)) 0)=B0:=⟨_,rfl⟩
  have hB0l:B0.length≤27009:=by
   have:=jg d (bq (es.take (16 * k)) 0) (bq (es.take (16 * k+j)) 0);rw [hB0] at this;omega
  have cB0:=aV B0;have w4:IntKind.i64.wrap (((16 * k+j:Nat):Int) - ((16 * k:Nat):Int))=(j:Int):=by rw [dP (by omega) (by omega)];omega
  rw [hB0];simp only [↓evP,evB,stB,Nat.reduceEqDiff,Nat.reduceBEq,a6,a7,a8,h8,cB0,w4];refine aF [dL (bn j)] (by exact ⟨j,rfl,by omega,rfl⟩) ?_;have c1:=aV (bn j);have al1:=dR (bn j);have l1:=bO j;have g5:B0.length+(bn j).length≤1000000:=by omega
  simp only [↓evP,evB,stB,Nat.reduceEqDiff,Nat.reduceLeDiff,Nat.reduceBEq,a6,cB0,dL,c1,al1,g5];obtain ⟨l,hl⟩:∃ l,lst ev0 (es.take (16 * k))=l:=⟨_,rfl⟩
  have hlg:evG l:=by rw [←hl];exact uG y8 fun e he=>(ok.ev e (lD he)).1
  rw [hl] at bo4;simp only [Ev.row,List.map_cons,List.map_nil] at bo4
  refine jH (fun st=>Within ms20_0 (49 :: os20_0) S st) (by repeat' (first | exact iU hw3 rfl rfl | (refine bC ?_ rfl rfl) | (refine aY ?_ rfl))) [1,3,4,5,6,7,10,11] [1,3,4,49] (fun S4 hw4 hs4 ho4'=>?_);simp only [stB,Nat.reduceEqDiff,Nat.reduceBEq,a1,a3,a4,a5,a6,a7,bg1,bo1,bg3,bo3,bg4,bo4] at hs4 ho4';clear hw3 a1 a3 a4 a5 a6 a7 a8 a9 h9 h8 bg1 bo1 bg3 bo3 bg4 bo4 h6 h5 h3 hg3 ho3 hg4 ho4;obtain ⟨a1,a3,a4,a5,a6,a7,a10,a11⟩:=hs4;obtain ⟨⟨bg1,bo1⟩,⟨bg3,bo3⟩,⟨bg4,bo4⟩,bg49,bo49⟩:=ho4';obtain ⟨G,hG⟩:∃ G,S3.gen 49+1=G:=⟨_,rfl⟩
  obtain ⟨B1,hB1⟩:∃ B1,B0 ++ bn j=B1:=⟨_,rfl⟩
  have hB1l:B1.length=B0.length+(bn j).length:=by rw [←hB1,List.length_append]
  rw [hG,gZ,hB1] at a10;rw [hG] at bg49;rw [←hB1l] at bo49;refine bS ms20_2 (49 :: os20_2) (fun m st=>∃ i:Nat,m=j - i∧i≤j∧st.sl 11=aI ((16 * k+i:Nat):Int)∧st.sl 10=.b (.one (.own 49 G (byR (B1 ++ eY l (bP es (16 * k) i)))))∧st.gen 49=G∧st.ob 49=.row 5 1 (B1 ++ eY l (bP es (16 * k) i)).length∧st.gen 4=1∧st.ob 4=.cells ((lst l (bP es (16 * k) i)).row.map .d)) j ?_ ?_
  ·exact ⟨0,rfl,Nat.zero_le _,a11,by rw [a10,show eY l (bP es (16 * k) 0)=[] from rfl,List.append_nil],bg49,by rw [bo49,show eY l (bP es (16 * k) 0)=[] from rfl,List.append_nil],bg4,bo4⟩
  rintro m3' z3 ⟨i,rfl,hi,h11,h10,hg49,ho49,hg4,ho4⟩;simp only [stB,Nat.reduceBEq] at h11 h10 hg49 ho49 hg4 ho4
  rcases Nat.lt_or_ge i j with hij | hij
  ·have hil:16 * k+i < es.length:=by omega
   have ge:es[16 * k+i]? = some (es[16 * k+i]):=List.getElem?_eq_getElem hil;generalize es[16 * k+i]=e at ge;have hev:=(ok.ev e (List.mem_of_getElem? ge)).1;have heg:evG e:=uy hev
   have hx1:bP es (16 * k) (i+1)=bP es (16 * k) i ++ [e]:=by
    unfold bP;refine take_at ?_;rw [List.getElem?_drop];exact ge
   obtain ⟨l',hl'⟩:∃ l',lst l (bP es (16 * k) i)=l':=⟨_,rfl⟩
   have hlg':evG l':=by rw [←hl'];exact uG hlg fun e he=>(ok.ev e (nP he)).1
   have hx2:eY l (bP es (16 * k) (i+1))=eY l (bP es (16 * k) i) ++ pO l' e:=by
    rw [hx1,qZ,hl',wU]
   have hx3:lst l (bP es (16 * k) (i+1))=e:=by rw [hx1,oH];rfl
   have hx4:=kW (bP es (16 * k) i) l;have hx5:=fV es (16 * k) i;rw [hl'] at ho4;simp only [Ev.row,List.map_cons,List.map_nil] at ho4;obtain ⟨B2,hB2⟩:∃ B2,B1 ++ eY l (bP es (16 * k) i)=B2:=⟨_,rfl⟩
   have hB2l:B2.length≤40000:=by rw [←hB2,List.length_append];omega
   rw [hB2] at h10 ho49;have lt3:((16 * k+i:Nat):Int) < ((16 * k+j:Nat):Int):=by omega
   have i0:(0:Int)≤((16 * k+i:Nat):Int):=by omega
   have w3:IntKind.i64.wrap (((16 * k+i:Nat):Int)+1)=((16 * k+(i+1):Nat):Int):=by rw [dP (by omega) (by omega)];omega
   simp only [↓evP,evB,stB,reduceCtorEq,Nat.reduceEqDiff,Nat.reduceAdd,Nat.reduceLeDiff,Nat.reduceBEq,a1,a7,bg1,bo1,h11,h10,ge,lt3,i0,Ev.row,decide_true];refine iW [.one (.im (inR e.fl))] (by exact ⟨e,rfl,rfl⟩) ?_;simp only [evB,stB,Nat.reduceEqDiff,Nat.reduceAdd,Nat.reduceLeDiff,Nat.reduceBEq,a4,hg4,ho4];refine iW [.one (.im (inR l'.fl))] (by exact ⟨l',rfl,rfl⟩) ?_;simp only [↓evP,evB,stB,Nat.reduceEqDiff,Nat.reduceBEq];refine ⟨(by unfold Drw;refine Eq.trans (b:=true) ?_ rfl;kernel_rfl),?_⟩
   refine jH (fun st=>Within ms20_2 (49 :: os20_2) S4 st) (by repeat' (first | assumption | exact bg.mpr trivial | exact Within.refl _ _ _ | (refine bC ?_ rfl rfl) | (refine aY ?_ rfl))) [1,4,7,10,11,12,13,14] [1,4,49] (fun S5 hw5 hs5 ho5=>?_);simp only [stB,Nat.reduceEqDiff,Nat.reduceBEq,a1,a4,a7,bg1,bo1,h11,h10,hg49,ho49,hg4,ho4] at hs5 ho5;obtain ⟨b1,b4,b7,b10,b11,b12,b13,b14⟩:=hs5;obtain ⟨⟨cg1,co1⟩,⟨cg4,co4⟩,cg49,co49⟩:=ho5;clear h11 h10 hg49 ho49 hg4 ho4;obtain ⟨V,hV⟩:∃ V,List.zipWith (fun x y=>x - y) e.fl l'.fl=V:=⟨_,rfl⟩
   have hVl:V.length=9:=by rw [←hV];simp [Ev.fl]
   have hevt:pO l' e=V.flatMap dZ:=by unfold pO;rw [hV]
   have f1:=aV B2;have n1:(inR e.fl).length=9:=rfl;have n2:(inR l'.fl).length=9:=rfl;refine bS ms20_3 (49 :: os20_3) (fun m st=>∃ x:Nat,m=9 - x∧x≤9∧st.sl 14=aI (x:Int)∧st.sl 10=.b (.one (.own 49 G (byR (B2 ++ (V.take x).flatMap dZ))))∧st.gen 49=G∧st.ob 49=.row 5 1 (B2 ++ (V.take x).flatMap dZ).length) 9 ?_ ?_
   ·exact ⟨0,rfl,Nat.zero_le _,b14,by rw [b10];simp,cg49,by rw [co49];simp⟩
   rintro m4' z4 ⟨x,rfl,hx,h14,h10,hg49,ho49⟩;simp only [stB,Nat.reduceBEq] at h14 h10 hg49 ho49
   rcases Nat.lt_or_ge x 9 with hx9 | hx9
   ·obtain ⟨u,hu⟩:∃ u,e.fl[x]? = some u:=⟨_,List.getElem?_eq_getElem (by simp [Ev.fl];omega)⟩
    obtain ⟨v,hv⟩:∃ v,l'.fl[x]? = some v:=⟨_,List.getElem?_eq_getElem (by simp [Ev.fl];omega)⟩
    have hub:=heg u (List.mem_of_getElem? hu);have hvb:=hlg' v (List.mem_of_getElem? hv);have gu:(inR e.fl)[x]? = some [dI u]:=by unfold inR;rw [List.getElem?_map,hu];rfl
    have gv:(inR l'.fl)[x]? = some [dI v]:=by unfold inR;rw [List.getElem?_map,hv];rfl
    have hVx:V[x]? = some (u - v):=by rw [←hV,List.getElem?_zipWith,hu,hv]
    have hVs:(V.take (x+1)).flatMap dZ=(V.take x).flatMap dZ ++ dZ (u - v):=by
     rw [take_at hVx,List.flatMap_append,List.flatMap_cons,List.flatMap_nil,List.append_nil]
    obtain ⟨B3,hB3⟩:∃ B3,B2 ++ (V.take x).flatMap dZ=B3:=⟨_,rfl⟩
    have hB3l:B3.length≤50000:=by
     have:(V.take x).flatMap dZ=pO l' e→True:=fun _=>trivial
     rw [←hB3,List.length_append]
     have hq:∀ (xs:List Int),(xs.flatMap dZ).length≤9 * xs.length:=fun xs=>by
      induction xs with
      | nil=>exact Nat.le_refl _
      | cons x xs ih =>
        rw [List.flatMap_cons,List.length_append,List.length_cons];have:(dZ x).length≤9:=bO _;omega
     have:=hq (V.take x);rw [List.length_take] at this;omega
    rw [hB3] at h10 ho49;have lt4:(x:Int) < 9:=by omega
    have x0:(0:Int)≤(x:Int):=by omega
    have w5:IntKind.i64.wrap (u - v)=u - v:=dP (by omega) (by omega);have w6:IntKind.i64.wrap ((x:Int)+1)=((x+1:Nat):Int):=by rw [dP (by omega) (by omega)];omega
    have f3:=aV B3;have dl:(dZ (u - v)).length≤9:=bO _;have dl2:=aV (dZ (u - v));have da:=dR (dZ (u - v));have g6:B3.length+(dZ (u - v)).length≤1000000:=by omega
    have hl9:((9:Nat):Int)=9:=rfl;simp only [↓evP,evB,stB,reduceCtorEq,Nat.reduceEqDiff,Nat.reduceBEq,b12,b13,h14,h10,n1,hl9,lt4,x0,gu,gv,w5,decide_true];refine iW [dL (dZ (u - v))] (by exact ⟨u - v,rfl,by omega,rfl⟩) ?_;simp only [↓evP,evB,stB,Nat.reduceEqDiff,Nat.reduceLeDiff,Nat.reduceBEq,h14,hg49,ho49,dL,f3,dl2,da,g6];refine ⟨(by unfold Drw;refine Eq.trans (b:=true) ?_ rfl;kernel_rfl),?_⟩
    exact ⟨_,by omega,(by repeat' (first | assumption | exact bg.mpr trivial | exact Within.refl _ _ _ | (refine bC ?_ rfl rfl) | (refine aY ?_ rfl))),x+1,rfl,hx9,by simp only [stB,Nat.reduceEqDiff,Nat.reduceBEq,h14,w6],by simp only [stB,Nat.reduceEqDiff,Nat.reduceBEq];rw [hVs,←List.append_assoc,hB3,gZ],by simp only [stB,Nat.reduceBEq,hg49],by simp only [stB,Nat.reduceBEq,ho49];rw [hVs,←List.append_assoc,hB3,List.length_append]⟩
   ·have hxe:x=9:=by omega
    subst hxe;have hVt:V.take 9=V:=List.take_of_length_le (by omega);rw [hVt,←hevt] at h10 ho49;have lt4:((9:Int) < 9)=False:=by simp
    have hl9:((9:Nat):Int)=9:=rfl;simp only [↓evP,evB,stB,reduceCtorEq,Nat.reduceEqDiff,Nat.reduceAdd,Nat.reduceLeDiff,Nat.reduceSub,Nat.reduceBEq,b1,b4,b11,b12,h14,h10,n1,hl9,lt4,cg1,co1,cg4,co4,ge,i0,Ev.row,decide_false]
    refine ⟨_,by omega,(by repeat' (first | exact iU hw5 rfl rfl | (refine bC ?_ rfl rfl) | (refine aY ?_ rfl))),i+1,rfl,hij,?_,?_,?_,?_,?_,?_⟩
    ·simp only [stB,Nat.reduceEqDiff,Nat.reduceBEq,b11,w3]
    ·simp only [stB,Nat.reduceEqDiff,Nat.reduceBEq,h10];rw [hx2,←List.append_assoc,hB2]
    ·simp only [stB,Nat.reduceBEq,hg49]
    ·simp only [stB,Nat.reduceEqDiff,Nat.reduceBEq,ho49];rw [hx2,←List.append_assoc,hB2]
    ·simp only [stB,Nat.reduceBEq,cg4]
    ·simp only [stB,Nat.reduceBEq,co4,hx3];first | done | rfl
  ·have hie:i=j:=by omega
   subst hie;have lt3:¬ ((16 * k+i:Nat):Int) < ((16 * k+i:Nat):Int):=by omega
   have hev16:bP es (16 * k) 16=bP es (16 * k) i:=by
    unfold bP;rw [List.take_eq_take_iff,List.length_drop];omega
   have hevl:(bP es (16 * k) i).length=i:=by rw [fV];omega
   have htk:es.take (16 * k+16)=es.take (16 * k+i):=by
    rw [List.take_eq_take_iff];omega
   have hC:B1 ++ eY l (bP es (16 * k) i)=jF d es k:=by
    unfold jF;rw [hev16,hevl,htk,hl,←hB1,←hB0,List.append_assoc]
   have hlast:lst l (bP es (16 * k) i)=lst ev0 (es.take (16 * (k+1))):=by
    rw [←hl,←oH,gY,show 16 * (k+1)=16 * k+16 from rfl,htk]
   rw [hC] at h10 ho49;rw [hlast] at ho4;have hbl:=kU ok k;have hby:=oW ok k;simp only [↓evP,evB,stB,reduceCtorEq,Nat.reduceEqDiff,Nat.reduceBEq,a1,a3,a7,h11,h10,lt3,decide_false];refine aF [dL (bK 66 (jF d es k))] (by exact ⟨66,_,rfl,⟨by omega,by omega,hby⟩,rfl⟩) ?_;have r1:(kG ((List.range k).map (fQ d es))).length=k:=by rw [jL,List.length_map,List.length_range]
   have r2:k+1≤1000000:=by unfold dW at hk;omega
   have r3:(List.range (k+1)).map (fQ d es)=(List.range k).map (fQ d es) ++ [bK 66 (jF d es k)]:=by
    rw [List.range_succ,List.map_append];rfl
   simp only [↓evP,evB,stB,Nat.reduceEqDiff,Nat.reduceLeDiff,Nat.reduceBEq,a6,bg3,bo3,dL,r1,r2]
   refine ⟨_,by omega,(by repeat' (first | exact iU hw4 rfl rfl | (refine bC ?_ rfl rfl) | (refine aY ?_ rfl))),k+1,rfl,hlt,?_,?_,?_,?_,?_,?_,?_⟩
   ·simp only [stB,Nat.reduceEqDiff,Nat.reduceBEq,a6,w1];first | done | rfl
   ·simp only [stB,Nat.reduceEqDiff,Nat.reduceBEq,a5];rw [show 16 * (k+1)=16 * k+16 from rfl,htk]
   ·simp only [stB,Nat.reduceEqDiff,Nat.reduceBEq,a3];rw [r3];unfold kG;rw [List.map_append];first | done | rfl
   ·simp only [stB,Nat.reduceEqDiff,Nat.reduceBEq,bg3]
   ·simp only [stB,Nat.reduceEqDiff,Nat.reduceBEq,bo3];first | done | rfl
   ·simp only [stB,Nat.reduceEqDiff,Nat.reduceBEq,hg4]
   ·simp only [stB,Nat.reduceEqDiff,Nat.reduceBEq,ho4]
 ·have hke:k=dW es:=by omega
  have htk:es.take (16 * k)=es:=List.take_of_length_le (by rw [hke];unfold dW;omega)
  have lt1:¬ ((16 * k:Nat):Int) < (es.length:Int):=by rw [hke];unfold dW;omega
  rw [htk] at h5;have hn0:=ok.need es.length;rw [List.take_length] at hn0;simp only [↓evP,evB,stB,reduceCtorEq,Nat.reduceEqDiff,Nat.reduceAdd,Nat.reduceLeDiff,Nat.reduceBEq,q1,g1,o1,h6,h5,m1,m2,lt1,decide_false];refine jT (byR (qQ d (bq es 0) d.st.length)) (E:=5) (sz:=1) (by exact ⟨d,_,_,rfl,⟨ok.dk,hn0,Nat.le_refl _⟩,rfl,rfl,rfl⟩) ?_;have hB0l:=jg d (bq es 0) d.st.length;obtain ⟨B0,hB0⟩:∃ B0,qQ d (bq es 0) d.st.length=B0:=⟨_,rfl⟩
  rw [hB0] at hB0l;have cB0:=aV B0;rw [hB0];simp only [↓evP,evB,stB,Nat.reduceEqDiff,Nat.reduceBEq,q1,g1,o1,h3,m2,cB0];refine aF [dL (bn es.length)] (by exact ⟨es.length,rfl,by omega,rfl⟩) ?_;have c1:=aV (bn es.length);have al1:=dR (bn es.length);have l1:=bO es.length;have g5:B0.length+(bn es.length).length≤1000000:=by omega
  have hC:byR B0 ++ byR (bn es.length)=byR (oz d es):=by rw [gZ];unfold oz;rw [hB0]
  simp only [evB,stB,Nat.reduceEqDiff,Nat.reduceLeDiff,Nat.reduceBEq,cB0,dL,c1,al1,g5,hC];have hbl:=mV ok;have hby:=nI ok;refine aF [dL (bK 69 (oz d es))] (by exact ⟨69,_,rfl,⟨by omega,by omega,hby⟩,rfl⟩) ?_;have r1:(kG ((List.range k).map (fQ d es))).length=k:=by rw [jL,List.length_map,List.length_range]
  have r2:k+1≤1000000:=by rw [hke];unfold dW;omega
  have r3:kG ((List.range k).map (fQ d es)) ++ [[.im (byR (bK 69 (oz d es)))]]=kG (aZ d es):=by
   unfold aZ kG;rw [List.map_append,hke];rfl
  simp only [↓evP,evB,stB,reduceCtorEq,Nat.reduceEqDiff,Nat.reduceLeDiff,Nat.reduceBEq,hg3,ho3,dL,r1,r2,r3]
  first | done | rfl
end Go.Proofs.Ytkafcpnahpfbfaa
end
section
namespace Go.Proofs.Ytkafcpnahpfbfaa
open Go Go.RowKit
set_option maxRecDepth 100000
set_option maxHeartbeats 4000000
def jy:List ByteArray:=[⟨#[]⟩,⟨#[114,101,97,100]⟩,⟨#[119,114,105,116,101]⟩,⟨#[97,116,111,109,105,99,45,114,101,97,100]⟩,⟨#[97,116,111,109,105,99,45,119,114,105,116,101]⟩,⟨#[97,116,111,109,105,99,45,98,111,116,104]⟩,⟨#[108,111,99,107]⟩,⟨#[117,110,108,111,99,107]⟩,⟨#[114,108,111,99,107]⟩,⟨#[114,117,110,108,111,99,107]⟩,⟨#[100,111,110,101]⟩,⟨#[119,97,105,116]⟩,⟨#[111,110,99,101,45,101,110,100]⟩,⟨#[111,110,99,101,45,115,101,101,110]⟩,⟨#[103,111]⟩,⟨#[115,101,110,100,45,115,116,97,114,116]⟩,⟨#[115,101,110,100,45,101,110,100]⟩,⟨#[114,101,99,118,45,115,116,97,114,116]⟩,⟨#[114,101,99,118,45,101,110,100]⟩,⟨#[99,108,111,115,101]⟩,⟨#[114,101,99,118,45,99,108,111,115,101,100]⟩]
def LK (ps rs:List Pa):Prop:=∃ k:Int,ps=[pI k]∧∃ s,rs=[.one (.sc (.string s))]∧s=(if k < 1∨20 < k then ⟨#[]⟩ else (jy[k.toNat]?).getD ⟨#[]⟩)
theorem RS:Spec Try.prog 54 LK:=by
 refine sp54 aA.e0 ?_;rintro ps rs ⟨k,rfl,s,rfl,hs⟩;refine ⟨by simp,?_⟩;unfold pc54;refine aQ ?_
 by_cases h1:k < 1
 ·rw [if_pos (.inl h1)] at hs;subst hs;simp only [↓evP,evB,stB,reduceIte,reduceCtorEq,seval,h1,pr54]
 by_cases h2:k > 20
 ·rw [if_pos (.inr h2)] at hs;subst hs;simp only [↓evP,evB,stB,reduceIte,reduceCtorEq,seval,h1,h2,decide_true,decide_false,pr54]
 rw [if_neg (fun h=>h.elim h1 h2)] at hs;obtain ⟨m,rfl⟩:=Int.eq_ofNat_of_zero_le (show 0≤k by omega);obtain ⟨u,hu⟩:∃ u,jy[m]? = some u:=⟨_,List.getElem?_eq_getElem (by show m < 21;omega)⟩
 rw [Int.toNat_natCast,hu,Option.getD_some] at hs;subst hs;have hrow:(jy.map fun x=>[Dt.sc (.string x)])[m]? = some [.sc (.string s)]:=by rw [List.getElem?_map,hu];rfl
 unfold jy at hrow;simp only [List.map_cons,List.map_nil] at hrow;simp only [↓evP,evB,stB,reduceIte,reduceCtorEq,seval,h1,h2,decide_false,hrow,pr54]
def wE (ps rs:List Pa):Prop:=∃ e:Ev,ps=[e.pa]∧rs=[pB e.valid]
def dM:Env:=e1 54 LK e0
theorem tH:aA Try.prog dM:=aA.e1 RS aA.e0
theorem D9 {e:Ev} (hr:0≤e.k) (Q:Exit→St→Prop)
 (hQ:∀ st,st.res pr35=some [pB (decide (e.obj=0∧e.off=0∧e.n=0∧1≤e.k∧e.k < 8))]→Q .ret st) (st:St)
 (h1:st.sl 1=.b (.one (.ptr 1 1 0))) (g1:st.gen 1=1) (o1:st.ob 1=.cells (e.row.map .d)) :
 pwp dM pc35c1 (exS dM [It.bl 2,It.c pc35c0] Q) st:=by
 simp only [Ev.row,List.map_cons,List.map_nil] at o1;unfold pc35c1;simp only [↓evP,evB,stB,reduceCtorEq,Nat.reduceEqDiff,h1,g1,o1]
 repeat' (first | apply And.intro | intro)
 all_goals (refine hQ _ ?_;simp only [stB,Nat.reduceEqDiff,pr35];refine congrArg (fun b=>some [pB b]) (Bool.eq_iff_iff.2 ?_);simp only [beq_iff_eq,beq_eq_false_iff_ne,ne_eq,decide_eq_true_eq,Bool.false_eq_true,false_iff] at *;omega)
theorem lY {e:Ev} (hr:0≤e.k) (Q:Exit→St→Prop)
 (hQ:∀ st,st.res pr35=some [pB (decide (e.off=0∧e.n≤64))]→Q .ret st) (st:St)
 (h1:st.sl 1=.b (.one (.ptr 1 1 0))) (g1:st.gen 1=1) (o1:st.ob 1=.cells (e.row.map .d)) :
 pwp dM pc35c2 (exS dM [It.bl 2,It.c pc35c0] Q) st:=by
 simp only [Ev.row,List.map_cons,List.map_nil] at o1;unfold pc35c2;simp only [↓evP,evB,stB,reduceCtorEq,Nat.reduceEqDiff,h1,g1,o1]
 repeat' (first | apply And.intro | intro)
 all_goals (refine hQ _ ?_;simp only [stB,Nat.reduceEqDiff,pr35];refine congrArg (fun b=>some [pB b]) (Bool.eq_iff_iff.2 ?_);simp only [beq_iff_eq,beq_eq_false_iff_ne,ne_eq,decide_eq_true_eq,Bool.false_eq_true,false_iff] at *;omega)
theorem uS {e:Ev} (hr:0≤e.k) (Q:Exit→St→Prop)
 (hQ:∀ st,st.res pr35=some [pB (decide (e.off=0∧e.n≤64∧e.k=0))]→Q .ret st) (st:St)
 (h1:st.sl 1=.b (.one (.ptr 1 1 0))) (g1:st.gen 1=1) (o1:st.ob 1=.cells (e.row.map .d)) :
 pwp dM pc35c3 (exS dM [It.bl 2,It.c pc35c0] Q) st:=by
 simp only [Ev.row,List.map_cons,List.map_nil] at o1;unfold pc35c3;simp only [↓evP,evB,stB,reduceCtorEq,Nat.reduceEqDiff,h1,g1,o1]
 repeat' (first | apply And.intro | intro)
 all_goals (refine hQ _ ?_;simp only [stB,Nat.reduceEqDiff,pr35];refine congrArg (fun b=>some [pB b]) (Bool.eq_iff_iff.2 ?_);simp only [beq_iff_eq,beq_eq_false_iff_ne,ne_eq,decide_eq_true_eq,Bool.false_eq_true,false_iff] at *;omega)
theorem D8 {e:Ev} (hr:0≤e.k) (Q:Exit→St→Prop)
 (hQ:∀ st,st.res pr35=some [pB (decide (e.k=0∧e.n=0))]→Q .ret st) (st:St)
 (h1:st.sl 1=.b (.one (.ptr 1 1 0))) (g1:st.gen 1=1) (o1:st.ob 1=.cells (e.row.map .d)) :
 pwp dM pc35c0 (exS dM [] Q) st:=by
 simp only [Ev.row,List.map_cons,List.map_nil] at o1;unfold pc35c0;simp only [↓evP,evB,stB,reduceCtorEq,Nat.reduceEqDiff,h1,g1,o1]
 repeat' (first | apply And.intro | intro)
 all_goals (refine hQ _ ?_;simp only [stB,Nat.reduceEqDiff,pr35];refine congrArg (fun b=>some [pB b]) (Bool.eq_iff_iff.2 ?_);simp only [beq_iff_eq,beq_eq_false_iff_ne,ne_eq,decide_eq_true_eq,Bool.false_eq_true,false_iff] at *;omega)
theorem yt {e:Ev} (hk:1≤e.kind) (hk2:e.kind≤20) (hr:fF e.k=true) (Q:Exit→St→Prop)
 (hQ:∀ st,st.res pr35=some [pB e.rest]→Q .ret st) (st:St)
 (h1:st.sl 1=.b (.one (.ptr 1 1 0))) (g1:st.gen 1=1) (o1:st.ob 1=.cells (e.row.map .d)) :
 pwp dM pc35c7 (exS dM [] Q) st:=by
 have o1':=o1;simp only [Ev.row,List.map_cons,List.map_nil] at o1;have hr':0≤e.k:=by unfold fF at hr;simp at hr;omega
 unfold pc35c7 pc35c6
 cases k14:(e.kind == 14) with
 | true =>
   simp only [↓evP,evB,stB,reduceCtorEq,Nat.reduceEqDiff,h1,g1,o1,k14];have hre:e.rest=decide (e.obj=0∧e.off=0∧e.n=0∧1≤e.k∧e.k < 8):=by unfold Ev.rest;rw [if_pos (beq_iff_eq.1 k14)]
   rw [hre] at hQ;exact D9 hr' Q hQ _ (by simp only [stB,Nat.reduceEqDiff,h1]) (by simp only [stB,g1]) (by simp only [stB,o1,Ev.row])
 | false =>
 have n14:=beq_eq_false_iff_ne.1 k14
 cases k15:(e.kind == 15) with
 | true =>
   simp only [↓evP,evB,stB,reduceCtorEq,Nat.reduceEqDiff,h1,g1,o1,k14];unfold pc35c5;simp only [↓evP,evB,stB,reduceCtorEq,Nat.reduceEqDiff,k15];have hre:e.rest=decide (e.off=0∧e.n≤64):=by unfold Ev.rest;rw [if_neg n14,if_pos (by have:=beq_iff_eq.1 k15;omega)]
   rw [hre] at hQ;exact lY hr' Q hQ _ (by simp only [stB,Nat.reduceEqDiff,h1]) (by simp only [stB,g1]) (by simp only [stB,o1,Ev.row])
 | false =>
 have n15:=beq_eq_false_iff_ne.1 k15
 cases k16:(e.kind == 16) with
 | true =>
   simp only [↓evP,evB,stB,reduceCtorEq,Nat.reduceEqDiff,h1,g1,o1,k14];unfold pc35c5;simp only [↓evP,evB,stB,reduceCtorEq,Nat.reduceEqDiff,k15,k16];have hre:e.rest=decide (e.off=0∧e.n≤64):=by unfold Ev.rest;rw [if_neg n14,if_pos (by have:=beq_iff_eq.1 k16;omega)]
   rw [hre] at hQ;exact lY hr' Q hQ _ (by simp only [stB,Nat.reduceEqDiff,h1]) (by simp only [stB,g1]) (by simp only [stB,o1,Ev.row])
 | false =>
 have n16:=beq_eq_false_iff_ne.1 k16
 cases k17:(e.kind == 17) with
 | true =>
   simp only [↓evP,evB,stB,reduceCtorEq,Nat.reduceEqDiff,h1,g1,o1,k14];unfold pc35c5;simp only [↓evP,evB,stB,reduceCtorEq,Nat.reduceEqDiff,k15,k16,k17];have hre:e.rest=decide (e.off=0∧e.n≤64):=by unfold Ev.rest;rw [if_neg n14,if_pos (by have:=beq_iff_eq.1 k17;omega)]
   rw [hre] at hQ;exact lY hr' Q hQ _ (by simp only [stB,Nat.reduceEqDiff,h1]) (by simp only [stB,g1]) (by simp only [stB,o1,Ev.row])
 | false =>
 have n17:=beq_eq_false_iff_ne.1 k17
 cases k18:(e.kind == 18) with
 | true =>
   simp only [↓evP,evB,stB,reduceCtorEq,Nat.reduceEqDiff,h1,g1,o1,k14];unfold pc35c5;simp only [↓evP,evB,stB,reduceCtorEq,Nat.reduceEqDiff,k15,k16,k17,k18];have hre:e.rest=decide (e.off=0∧e.n≤64):=by unfold Ev.rest;rw [if_neg n14,if_pos (by have:=beq_iff_eq.1 k18;omega)]
   rw [hre] at hQ;exact lY hr' Q hQ _ (by simp only [stB,Nat.reduceEqDiff,h1]) (by simp only [stB,g1]) (by simp only [stB,o1,Ev.row])
 | false =>
 have n18:=beq_eq_false_iff_ne.1 k18
 cases k19:(e.kind == 19) with
 | true =>
   simp only [↓evP,evB,stB,reduceCtorEq,Nat.reduceEqDiff,h1,g1,o1,k14];unfold pc35c5;simp only [↓evP,evB,stB,reduceCtorEq,Nat.reduceEqDiff,k15,k16,k17,k18];unfold pc35c4;simp only [↓evP,evB,stB,reduceCtorEq,Nat.reduceEqDiff,k19];have hre:e.rest=decide (e.off=0∧e.n≤64∧e.k=0):=by unfold Ev.rest;rw [if_neg n14,if_neg (by omega),if_pos (by have:=beq_iff_eq.1 k19;omega)]
   rw [hre] at hQ;exact uS hr' Q hQ _ (by simp only [stB,Nat.reduceEqDiff,h1]) (by simp only [stB,g1]) (by simp only [stB,o1,Ev.row])
 | false =>
 have n19:=beq_eq_false_iff_ne.1 k19
 cases k20:(e.kind == 20) with
 | true =>
   simp only [↓evP,evB,stB,reduceCtorEq,Nat.reduceEqDiff,h1,g1,o1,k14];unfold pc35c5;simp only [↓evP,evB,stB,reduceCtorEq,Nat.reduceEqDiff,k15,k16,k17,k18];unfold pc35c4;simp only [↓evP,evB,stB,reduceCtorEq,Nat.reduceEqDiff,k19,k20];have hre:e.rest=decide (e.off=0∧e.n≤64∧e.k=0):=by unfold Ev.rest;rw [if_neg n14,if_neg (by omega),if_pos (by have:=beq_iff_eq.1 k20;omega)]
   rw [hre] at hQ;exact uS hr' Q hQ _ (by simp only [stB,Nat.reduceEqDiff,h1]) (by simp only [stB,g1]) (by simp only [stB,o1,Ev.row])
 | false =>
 have n20:=beq_eq_false_iff_ne.1 k20;simp only [↓evP,evB,stB,reduceCtorEq,Nat.reduceEqDiff,h1,g1,o1,k14];unfold pc35c5;simp only [↓evP,evB,stB,reduceCtorEq,Nat.reduceEqDiff,k15,k16,k17,k18];unfold pc35c4;simp only [↓evP,evB,stB,reduceCtorEq,Nat.reduceEqDiff,k19,k20];have hre:e.rest=decide (e.k=0∧e.n=0):=by unfold Ev.rest;rw [if_neg n14,if_neg (by omega),if_neg (by omega)]
 rw [hre] at hQ;exact D8 hr' Q hQ _ (by simp only [stB,Nat.reduceEqDiff,h1]) (by simp only [stB,g1]) (by simp only [stB,o1,Ev.row])
theorem Nb (bs:ByteArray):∀ n i r,bs.size - i=n→ByteArray.toList.loop bs i r=r.reverse ++ bs.data.toList.drop i:=by
 intro n
 induction n with
 | zero =>
   intro i r h;unfold ByteArray.toList.loop;rw [if_neg (by omega),List.drop_eq_nil_of_le (by show bs.data.toList.length≤i;rw [Array.length_toList];show bs.size≤i;omega),List.append_nil]
 | succ n ih =>
   intro i r h;have hi:i < bs.data.toList.length:=by rw [Array.length_toList];show i < bs.size;omega
   unfold ByteArray.toList.loop;rw [if_pos (by omega),ih (i+1) _ (by omega),List.drop_eq_getElem_cons hi,List.reverse_cons,List.append_assoc]
   congr 1
   show bs.get! i :: _=_
   congr 1
   show bs.data[i]! = _
   rw [getElem!_pos bs.data i (by simpa using hi)];rfl
theorem qV (bs:ByteArray):bs.toList=bs.data.toList:=by
 unfold ByteArray.toList;rw [Nb bs _ 0 [] rfl];rfl
def Ev.fields (e:Ev):List Int:=[e.obj,e.off,e.k,e.n,e.fn,e.pc,e.stack]
def IQ (k:Int):ByteArray:=if k < 1∨20 < k then ⟨#[]⟩ else (jy[k.toNat]?).getD ⟨#[]⟩
theorem su (k:Int):((IQ k).toList == (⟨#[]⟩:ByteArray).toList)=!iL k:=by
 unfold IQ iL
 by_cases h:k < 1∨20 < k
 ·rw [if_pos h,decide_eq_false (by omega),qV];decide
 ·rw [if_neg h,decide_eq_true (by omega)];obtain ⟨m,rfl⟩:=Int.eq_ofNat_of_zero_le (show 0≤k by omega);rw [Int.toNat_natCast];have:∀ m:Fin 21,1≤m.val→(((jy[m.val]?).getD ⟨#[]⟩).data.toList == (⟨#[]⟩:ByteArray).data.toList)=false:=by decide +kernel
  rw [qV,qV];exact this ⟨m,by omega⟩ (by show 1≤m;omega)
theorem Ev.valid_eq (e:Ev):e.valid=(iL e.kind && decide (0≤e.g∧e.g < 8) && e.fields.all fF && e.rest):=by
 unfold Ev.valid Ev.fields;simp only [List.all_cons,List.all_nil,Bool.and_true,Bool.and_assoc]
theorem Il:Spec Try.prog 35 wE:=by
 refine sp35 tH ?_;rintro ps rs ⟨e,rfl,rfl⟩;refine ⟨by simp,?_⟩;unfold pc35;refine aQ ?_
 by_cases q1:e.g < 0
 ·have hv:e.valid=false:=by rw [Ev.valid_eq,decide_eq_false (show ¬ (0≤e.g∧e.g < 8) by omega)];simp
  simp only [↓evP,evB,stB,reduceCtorEq,Nat.reduceEqDiff,Ev.pa,Ev.row,q1,decide_true,hv,pr35]
 by_cases q2:e.g≥8
 ·have hv:e.valid=false:=by rw [Ev.valid_eq,decide_eq_false (show ¬ (0≤e.g∧e.g < 8) by omega)];simp
  simp only [↓evP,evB,stB,reduceCtorEq,Nat.reduceEqDiff,Ev.pa,Ev.row,q1,q2,decide_true,decide_false,hv,pr35]
 have hg:decide (0≤e.g∧e.g < 8)=true:=decide_eq_true (by omega);simp only [↓evP,evB,stB,reduceCtorEq,Nat.reduceEqDiff,Ev.pa,Ev.row,q1,q2,decide_false];refine aF [.one (.sc (.string (IQ e.kind)))] ⟨e.kind,rfl,IQ e.kind,rfl,rfl⟩ ?_
 cases hk:iL e.kind with
 | false =>
   have hv:e.valid=false:=by rw [Ev.valid_eq,hk];rfl
   simp only [↓evP,evB,stB,reduceCtorEq,Nat.reduceEqDiff,su,hk,hv,pr35]
 | true =>
   simp only [↓evP,evB,stB,reduceCtorEq,Nat.reduceEqDiff,su,hk];refine gy [1] [1] (fun st hs ho=>?_);simp only [stB,Nat.reduceEqDiff] at hs ho;obtain ⟨g1,o1⟩:=ho;unfold pc35c9;simp only [↓evP,evB,stB,Nat.reduceEqDiff,Nat.reduceAdd,Nat.reduceLeDiff,hs,g1,o1];refine gy [1,3] [1,33] (fun st' hs' ho'=>?_);simp only [stB,Nat.reduceEqDiff,hs,g1,o1] at hs' ho';clear hs g1 o1;obtain ⟨h1,h3⟩:=hs';obtain ⟨⟨g1,o1⟩,g33,o33⟩:=ho';unfold pc35c8;simp only [↓evP,evB,stB];refine bS ms35_0 os35_0 (fun m st=>∃ k:Nat,m=7 - k∧k≤7∧(e.fields.take k).all fF=true∧st.sl 4=aI k) 7 ?_ ?_
   ·exact ⟨0,rfl,by omega,rfl,by simp only [stB];rfl⟩
   ·rintro m j ⟨k,rfl,hk7,hall,h4⟩;simp only [stB,Nat.reduceBEq] at h4
    rcases Nat.lt_or_ge k 7 with hlt | hge
    ·obtain ⟨x,hx⟩:∃ x,e.fields[k]? = some x:=⟨_,List.getElem?_eq_getElem (show k < e.fields.length from hlt)⟩
     have hrow:(e.fields.map fun x=>[dI x])[k]? = some [dI x]:=by rw [List.getElem?_map,hx];rfl
     unfold Ev.fields at hrow;simp only [List.map_cons,List.map_nil] at hrow;have hl7:(k:Int) < ((7:Nat):Int):=by omega
     have hmem:x ∈ e.fields:=List.mem_of_getElem? hx
     by_cases x1:x < 0
     ·have hv:e.valid=false:=by
       rw [Ev.valid_eq,(by rw [List.all_eq_false];exact ⟨x,hmem,by unfold fF;rw [decide_eq_false (by omega)];decide⟩:e.fields.all fF=false)];simp
      simp only [↓evP,evB,stB,reduceCtorEq,Nat.reduceEqDiff,Nat.reduceAdd,Nat.reduceBEq,h3,h4,hrow,hl7,x1,decide_true,hv,pr35]
     by_cases x2:x > 2147483647
     ·have hv:e.valid=false:=by
       rw [Ev.valid_eq,(by rw [List.all_eq_false];exact ⟨x,hmem,by unfold fF;rw [decide_eq_false (by omega)];decide⟩:e.fields.all fF=false)];simp
      simp only [↓evP,evB,stB,reduceCtorEq,Nat.reduceEqDiff,Nat.reduceAdd,Nat.reduceBEq,h3,h4,hrow,hl7,x1,x2,decide_true,decide_false,hv,pr35]
     simp only [↓evP,evB,stB,reduceCtorEq,Nat.reduceEqDiff,Nat.reduceAdd,Nat.reduceBEq,h3,h4,hrow,hl7,x1,x2,decide_true,decide_false]
     exact ⟨_,by omega,(by repeat' (first | assumption | exact bg.mpr trivial | exact Within.refl _ _ _ | (refine bC ?_ rfl rfl) | (refine aY ?_ rfl))),k+1,rfl,by omega,by rw [List.take_add_one,hx,List.all_append,hall];simp only [Option.toList_some,List.all_cons,List.all_nil];unfold fF;rw [decide_eq_true (by omega)];rfl,by simp only [stB,Nat.reduceEqDiff,Nat.reduceBEq,h4];rw [wrN (by omega)]⟩
    ·have hk77:k=7:=by omega
     subst hk77;have hl7:¬ ((7:Nat):Int) < ((7:Nat):Int):=by omega
     simp only [↓evP,evB,stB,reduceCtorEq,Nat.reduceEqDiff,Nat.reduceAdd,Nat.reduceSub,Nat.reduceBEq,h3,h4,hl7];have hall':e.fields.all fF=true:=hall;have hk':=hk;unfold iL at hk';have hv:e.valid=e.rest:=by rw [Ev.valid_eq,hk,hg,hall'];rfl
     have hrk:fF e.k=true:=List.all_eq_true.1 hall' _ (by unfold Ev.fields;simp)
     rw [hv];exact yt (of_decide_eq_true hk').1 (of_decide_eq_true hk').2 hrk _ (fun st'' h=>⟨.inr rfl,h⟩) _ (by simp only [stB,Nat.reduceEqDiff,Nat.reduceBEq,h1]) (by simp only [stB,g1]) (by simp only [stB,o1,Ev.row])
end Go.Proofs.Ytkafcpnahpfbfaa
end
section
namespace Go.Proofs.Ytkafcpnahpfbfaa
open Go Go.RowKit
set_option maxRecDepth 1000000
set_option maxHeartbeats 4000000
def qM (ps rs:List Pa):Prop:=∃ (n:Nat) (es:List Ev),ps=[pI n,.one (.im (es.map Ev.row))]∧(es.length≤5000∧n≤2147483648∧∀ e ∈ es,evG e)∧rs=[pI (bq es n:Nat)]
theorem A8:∀ {es:List Ev} {n:Nat},(∀ e ∈ es,evG e)→n≤2147483648→bq es n≤2147483648
 | [],_,_,h=>h
 | e :: es,n,h,hn=>by
   refine A8 (es:=es) (fun x hx=>h x (List.mem_cons_of_mem _ hx)) ?_;have:=h e (List.mem_cons_self ..) e.stack (by simp [Ev.fl])
   show max n (e.stack+1).toNat≤_
   omega
theorem FI:Spec Try.prog 27 qM:=by
 refine sp27 aA.e0 ?_;rintro ps rs ⟨n,es,rfl,⟨hl,hn,hev⟩,rfl⟩;refine ⟨by simp,?_⟩;unfold pc27
 with_reducible refine aQ ?_
 have m2:(es.map Ev.row).length=es.length:=List.length_map ..;simp only [↓evP,evB,stB,Nat.reduceEqDiff,m2,pr27];refine bS ms27_0 os27_0 (fun m st=>∃ k:Nat,m=es.length - k∧k≤es.length∧st.sl 9=aI k∧st.sl 0=aI (bq (es.take k) n:Nat)) es.length ?_ ?_
 ·exact ⟨0,rfl,Nat.zero_le _,by simp only [stB,Nat.reduceEqDiff];rfl,by simp only [stB,reduceCtorEq];rfl⟩
 rintro m z ⟨k,rfl,hk,h9,h0⟩;simp only [stB,reduceCtorEq,Nat.reduceEqDiff,Nat.reduceBEq] at h9 h0
 rcases Nat.lt_or_ge k es.length with hlt | hge
 ·have ge:es[k]? = some (es[k]):=List.getElem?_eq_getElem hlt;generalize es[k]=e at ge;have hst:=hev e (List.mem_of_getElem? ge) e.stack (by simp [Ev.fl]);have lt2:(k:Int) < (es.length:Int):=by omega
  have w2:IntKind.i64.wrap (e.stack+1)=e.stack+1:=dP (by omega) (by omega);have w3:IntKind.i64.wrap ((k:Int)+1)=((k+1:Nat):Int):=by rw [dP (by omega) (by omega)];omega
  have hne:bq (es.take (k+1)) n=max (bq (es.take k) n) (e.stack+1).toNat:=by
   rw [take_at ge,iV];rfl
  have hmax:(if e.stack+1 > ((bq (es.take k) n:Nat):Int) then e.stack+1 else ((bq (es.take k) n:Nat):Int))=((bq (es.take (k+1)) n:Nat):Int):=by
   rw [hne];split <;> omega
  simp only [↓evP,evB,stB,reduceCtorEq,Nat.reduceEqDiff,Nat.reduceAdd,Nat.reduceLeDiff,Nat.reduceBEq,h9,h0,ge,lt2,w2,List.foldl_cons,List.foldl_nil,hmax,Ev.row,decide_true]
  exact ⟨_,by omega,(by repeat' (first | assumption | exact bg.mpr trivial | exact Within.refl _ _ _ | (refine bC ?_ rfl rfl) | (refine aY ?_ rfl))),k+1,rfl,hlt,by simp only [stB,reduceCtorEq,Nat.reduceEqDiff,Nat.reduceBEq,h9,w3],by simp only [stB,reduceCtorEq,Nat.reduceBEq];first | done | rw [hmax]⟩
 ·have hke:k=es.length:=by omega
  subst hke;have lt2:¬ (es.length:Int) < (es.length:Int):=by omega
  rw [List.take_length] at h0;simp only [↓evP,evB,stB,reduceCtorEq,Nat.reduceEqDiff,Nat.reduceBEq,h9,h0,lt2,decide_false]
  first | done | rfl
def tJ (ps rs:List Pa):Prop:=∃ s:Int×Int,ps=[.agg (aW s)]∧rs=[pB (decide (s.1≤2147483647) && decide (s.2≤2147483647))]
theorem FJ:Spec Try.prog 23 tJ:=by
 refine sp23 aA.e0 ?_;rintro ps rs ⟨s,rfl,rfl⟩;refine ⟨by simp,?_⟩;unfold pc23
 with_reducible refine aQ ?_
 by_cases h1:s.1≤2147483647
 ·simp only [↓evP,evB,stB,reduceCtorEq,Nat.reduceEqDiff,aW,h1,decide_true,pr23]
  first | done | rfl
 ·simp only [↓evP,evB,stB,reduceCtorEq,Nat.reduceEqDiff,aW,h1,decide_false,pr23]
  first | done | rfl
def LV (ps rs:List Pa):Prop:=∃ s:Int×Int,ps=[.agg (aW s)]∧rs=[pB (decide (s.1≥0) && decide (s.2≥0))]
theorem R3:Spec Try.prog 55 LV:=by
 refine sp55 aA.e0 ?_;rintro ps rs ⟨s,rfl,rfl⟩;refine ⟨by simp,?_⟩;unfold pc55
 with_reducible refine aQ ?_
 by_cases h1:s.1≥0
 ·simp only [↓evP,evB,stB,reduceCtorEq,Nat.reduceEqDiff,aW,h1,decide_true,pr55]
  first | done | rfl
 ·simp only [↓evP,evB,stB,reduceCtorEq,Nat.reduceEqDiff,aW,h1,decide_false,pr55]
  first | done | rfl
def bQ:List Nat:=[73,84,82,65,67,69,49,10]
def LJ (ps rs:List Pa):Prop:=ps=[]∧rs=[dL bQ]
theorem RQ:Spec Try.prog 21 LJ:=by
 refine sp21 aA.e0 ?_;rintro ps rs ⟨rfl,rfl⟩;refine ⟨by simp,?_⟩;unfold pc21
 with_reducible refine aQ ?_
 simp only [↓evP,evB,stB,reduceCtorEq,Nat.reduceEqDiff,Nat.reduceAdd,Nat.reduceLeDiff,Nat.reduceLT,pr21,dL,byR,bQ]
 first | done | rfl
def EI (ps:List Pa) (E sz:Nat) (rows:List (List Dt)):Prop:=ps=[]∧E=5∧sz=1∧rows=byR bQ
theorem OV:yQ Try.prog 21 EI:=by
 refine o7 aA.e0 bZ bA Try.func21 bd21 cp21 (by kernel_rfl) (by kernel_rfl) (t:=0) (by kernel_rfl) ?_;rintro ps E sz rows ⟨rfl,rfl,rfl,rfl⟩;refine ⟨by simp,?_⟩;unfold pc21
 with_reducible refine aQ ?_
 simp only [↓evP,evB,stB,reduceCtorEq,Nat.reduceEqDiff,Nat.reduceAdd,Nat.reduceLeDiff,Nat.reduceLT,byR,bQ]
 first | done | (unfold St.OM;simp only [stB,reduceCtorEq,Nat.reduceAdd];first | done | rfl) | rfl
end Go.Proofs.Ytkafcpnahpfbfaa
end
