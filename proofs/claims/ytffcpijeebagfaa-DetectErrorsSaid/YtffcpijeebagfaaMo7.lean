/- Tables along a valid list: what their clocks are; no program in sight. -/
import Derived.Test.YtffcpijeebagfaaMo6
import Derived.OwnWalk
import Derived.LoopTactic
import Derived.Deep.OwnRows
import Derived.Deep.LoopGhost
set_option linter.unusedSimpArgs false
set_option linter.unusedVariables false
section
namespace Go.Proofs.Ytffcpijeebagfaa
open Go
def jP (l:List Ev):Nat→bZ
 | 0=>.new
 | j+1=>((jP l j).adv (ay l j)).2
structure Ups (l:List Ev) (j:Nat) (P:Nat→Prop) (x:Ck):Prop where
 len:x.length=8
 up:∀ c:Int,1≤c→∀ k,k < 8→(c≤x.getD k 0↔∃ i,i < j∧P i∧c≤(stp l i).getD k 0)
section
variable {l:List Ev} {j:Nat} {P Q:Nat→Prop} {x y:Ck}
theorem Ups.zero (h:∀ i,i < j→¬ P i):Ups l j P ckZ :=
 ⟨rfl,fun c hc k _=>by rw [jF];exact ⟨fun h=>by omega,fun ⟨i,hi,hp,_⟩=>absurd hp (h i hi)⟩⟩
theorem Ups.one {a:Nat} (ha:a < j) (h:∀ i,i < j→(P i↔i=a)):Ups l j P (stp l a) :=
 ⟨sF,fun c _ k _=>⟨fun q=>⟨a,ha,(h a ha).2 rfl,q⟩,fun ⟨i,hi,hp,q⟩=>by rw [(h i hi).1 hp] at q;exact q⟩⟩
theorem Ups.succ (h:Ups l j P x) (hn:¬ P j) (hq:∀ i,i < j→(Q i↔P i)) (hj:¬ Q j):Ups l (j+1) Q x :=
 ⟨h.len,fun c hc k hk=>(h.up c hc k hk).trans ⟨fun ⟨i,hi,hp,q⟩=>⟨i,by omega,(hq i hi).2 hp,q⟩,fun ⟨i,hi,hp,q⟩=>by
  rcases Nat.lt_or_eq_of_le (Nat.le_of_lt_succ hi) with h1 | h1
  ·exact ⟨i,h1,(hq i h1).1 hp,q⟩
  ·rw [h1] at hp;exact absurd hp hj⟩⟩
theorem max_le (c:Int) {a b:Ck} (ha:a.length=8) (hb:b.length=8) {k:Nat} (hk:k < 8):c≤(aQ a b).getD k 0↔c≤a.getD k 0∨c≤b.getD k 0:=by
 rw [getD_join ha hb hk];split <;> omega
theorem Ups.snoc (h:Ups l j P x) (hj:P j):Ups l (j+1) P (aQ x (stp l j)) :=
 ⟨bI h.len sF,fun c hc k hk=>by
  rw [max_le c h.len sF hk,h.up c hc k hk];refine ⟨fun q=>q.elim (fun ⟨i,hi,hp,q⟩=>⟨i,by omega,hp,q⟩) (fun q=>⟨j,by omega,hj,q⟩),fun ⟨i,hi,hp,q⟩=>?_⟩
  rcases Nat.lt_or_eq_of_le (Nat.le_of_lt_succ hi) with h1 | h1
  ·exact .inl ⟨i,h1,hp,q⟩
  ·rw [h1] at q;exact .inr q⟩
end
def Dq (k:Int):Option Int:=if k=7 then some 0 else if k=9 then some 1 else if k=10 then some 2 else if k=12 then some 3 else if k=19 then some 5 else none
def InF (l:List Ev) (k x y:Int) (i:Nat):Prop:=Dq (ay l i).kind=some k∧(ay l i).obj=x∧(ay l i).off=y
def InB (l:List Ev) (x y:Int) (i:Nat):Prop:=((ay l i).kind=4∨(ay l i).kind=5)∧(ay l i).obj=x∧(ay l i).off=y
def InA (l:List Ev) (j:Nat) (x y:Int) (i:Nat):Prop:=InB l x y i∧∀ m,i < m→m < j→¬ InB l x y m
def mU (l:List Ev) (j:Nat) (kd:Int) (cnt:TS→Int→Int) (o:Int) (s:List Ck):Prop :=
 ∀ i,i < j→(ay l i).kind=kd→(ay l i).obj=o→cnt (cu l j) o≤(ay l i).k+(s.length:Int)→s.getD (dV (ay l i).k s) ckZ=stp l i
structure DU (l:List Ev) (j:Nat) (p:bZ):Prop where
 cl:p.ck.length=8
 ck:∀ g:Int,0≤g→g < 8→p.ck.getD g.toNat ckZ=if (aX l j).cur.getD g.toNat ckZ=ckZ then (aX l j).birth.getD g.toNat ckZ else (aX l j).cur.getD g.toNat ckZ
 f:∀ k x y,k≠4→Ups l j (InF l k x y) ((p.f k x y).getD ckZ)
 fs:∀ k x y,k≠4→((p.f k x y).isSome=true↔∃ i,i < j∧InF l k x y i)
 f4:∀ x y,Ups l j (InA l j x y) ((p.f 4 x y).getD ckZ)
 f4s:∀ x y,(p.f 4 x y).isSome=true↔∃ i,i < j∧InB l x y i
 gs:∀ o,(p.g o).isSome=true↔∃ i,i < j∧((ay l i).kind=15∨(ay l i).kind=17)∧(ay l i).obj=o
 gn:∀ o v,p.g o=some v→∀ i,i < l.length→dL (ay l i).kind=true→(ay l i).obj=o→v.1.length=((ay l i).n+1).toNat∧v.2.length=((ay l i).n+1).toNat
 g1:∀ o v,p.g o=some v→mU l j 15 TS.dG o v.1
 g2:∀ o v,p.g o=some v→mU l j 17 TS.dD o v.2
theorem NR (l:List Ev):DU l 0 .new:=by
 refine ⟨rfl,fun g h0 h8=>?_,fun k x y _=>Ups.zero (fun i hi=>by omega),fun k x y _=>⟨fun h=>(by cases h),fun ⟨i,hi,_⟩=>by omega⟩,fun x y=>Ups.zero (fun i hi=>by omega),fun x y=>⟨fun h=>(by cases h),fun ⟨i,hi,_⟩=>by omega⟩,fun o=>⟨fun h=>(by cases h),fun ⟨i,hi,_⟩=>by omega⟩,fun o v h=>(by cases h),fun o v h=>(by cases h),fun o v h=>(by cases h)⟩
 show (List.replicate 8 ckZ).getD g.toNat ckZ=if (List.replicate 8 ckZ).getD g.toNat ckZ=ckZ then (List.replicate 8 ckZ).getD g.toNat ckZ else (List.replicate 8 ckZ).getD g.toNat ckZ
 split <;> rfl
theorem Aj {k:Int} {s:List Ck} (hk:0≤k):dV k s=(k % (s.length:Int)).toNat:=by
 unfold dV;rw [Int.tmod_eq_emod_of_nonneg hk]
theorem Rk {k:Int} {s:List Ck} (hk:0≤k) (hs:0 < s.length):dV k s < s.length:=by
 rw [Aj hk];have:=Int.emod_lt_of_pos k (show (0:Int) < (s.length:Int) by omega);have:=Int.emod_nonneg k (show (s.length:Int)≠0 by omega);omega
theorem slot_ne {a b:Int} {s:List Ck} (ha:0≤a) (hab:a < b) (hb:b < a+(s.length:Int)):dV a s≠dV b s:=by
 rw [Aj ha,Aj (by omega)];have h0:(s.length:Int)≠0:=by omega
 have h1:=Int.emod_nonneg a h0;have h2:=Int.emod_nonneg b h0;intro h;have h3:a % (s.length:Int)=b % (s.length:Int):=by omega
 have h4:(s.length:Int) ∣ b - a:=Int.dvd_of_emod_eq_zero (by rw [Int.sub_emod,h3,Int.sub_self];exact Int.zero_emod _)
 have:=Int.le_of_dvd (by omega) h4;omega
theorem vw {t u:TS} {e:Ev} (h:t.add e=some u):e.g < t.gor:=by
 unfold TS.add at h;split at h
 ·rename_i ha;unfold TS.admits at ha;simp only [Bool.and_eq_true,decide_eq_true_eq] at ha;exact ha.2
 ·cases h
section
variable {l:List Ev} (hc:chk l=l.length)
include hc
theorem Ou {j:Nat} (hj:j < l.length) (hk:(ay l j).kind=14):jQ l (ay l j).k j=0∧(ay l j).k≠(ay l j).g:=by
 obtain ⟨⟨r,hr⟩,_,_⟩:=d9 hc (n:=j) (by omega);have h1:=((rX hr (cK hc hj)).2 hk).1;refine ⟨yx (fun i hi=>?_),?_⟩
 ·have h2:=vw (cK hc (n:=i) (by omega));have h3:=DI hc (m:=i) (n:=j) (by omega) (by omega);omega
 ·have:=vw (cK hc hj);omega
theorem yZ {i j:Nat} (hij:i≤j) (hj:j≤l.length) (o:Int):(cu l i).dG o≤(cu l j).dG o∧(cu l i).dD o≤(cu l j).dD o:=by
 induction j with
 | zero=>have:i=0:=by omega
         subst this;exact ⟨Int.le_refl _,Int.le_refl _⟩
 | succ j ih =>
   rcases Nat.lt_or_eq_of_le hij with h | h
   ·obtain ⟨h1,h2⟩:=ih (by omega) (by omega);have h3:=(pz hc (j:=j) hj).s o;have h4:=(pz hc (j:=j) hj).r o;refine ⟨?_,?_⟩
    ·rw [h3];split <;> omega
    ·rw [h4];split <;> omega
   ·subst h;exact ⟨Int.le_refl _,Int.le_refl _⟩
theorem Ai {i j:Nat} (hij:i < j) (hj:j≤l.length) (hk:(ay l i).kind=15):(ay l i).k < (cu l j).dG (ay l i).obj:=by
 have h1:=Oq hc (j:=i) (by omega) hk;have h2:=(pz hc (j:=i) (by omega)).s (ay l i).obj;rw [if_pos ⟨rfl,hk⟩] at h2;have h3:=(yZ hc (i:=i+1) (j:=j) hij hj (ay l i).obj).1;omega
theorem Ae {i j:Nat} (hij:i < j) (hj:j≤l.length) (hk:(ay l i).kind=17):(ay l i).k < (cu l j).dD (ay l i).obj:=by
 have h1:=Ot hc (j:=i) (by omega) hk;have h2:=(pz hc (j:=i) (by omega)).r (ay l i).obj;rw [if_pos ⟨rfl,hk⟩] at h2;have h3:=(yZ hc (i:=i+1) (j:=j) hij hj (ay l i).obj).2;omega
end
theorem ku {k m:Int}:Dq k=some m↔(k=7∧m=0)∨(k=9∧m=1)∨(k=10∧m=2)∨(k=12∧m=3)∨(k=19∧m=5):=by
 unfold Dq
 by_cases k7:k=7
 ·rw [if_pos k7,Option.some.injEq];omega
 by_cases k9:k=9
 ·rw [if_neg k7,if_pos k9,Option.some.injEq];omega
 by_cases k10:k=10
 ·rw [if_neg k7,if_neg k9,if_pos k10,Option.some.injEq];omega
 by_cases k12:k=12
 ·rw [if_neg k7,if_neg k9,if_neg k10,if_pos k12,Option.some.injEq];omega
 by_cases k19:k=19
 ·rw [if_neg k7,if_neg k9,if_neg k10,if_neg k12,if_pos k19,Option.some.injEq];omega
 rw [if_neg k7,if_neg k9,if_neg k10,if_neg k12,if_neg k19];exact ⟨fun h=>(by cases h),fun h=>by omega⟩
structure xB (l:List Ev) (j:Nat) (P:Nat→Prop) (c r:Ck):Prop where
 len:r.length=8
 ge:∀ c0:Int,∀ k,k < 8→c0≤c.getD k 0→c0≤r.getD k 0
 up:∀ c0:Int,1≤c0→∀ k,k < 8→(c0≤r.getD k 0↔c0≤c.getD k 0∨∃ i,i < j∧P i∧c0≤(stp l i).getD k 0)
section
variable {l:List Ev} {j:Nat} {P Q:Nat→Prop} {c r y:Ck}
theorem xB.nil (hcl:c.length=8) (h:∀ i,i < j→¬ P i):xB l j P c c :=
 ⟨hcl,fun _ _ _ h=>h,fun c0 _ k _=>⟨.inl,fun q=>q.elim id (fun ⟨i,hi,hp,_⟩=>absurd hp (h i hi))⟩⟩
theorem xB.join (h:xB l j P c r) (hy:Ups l j Q y):xB l j (fun i=>P i∨Q i) c (aQ r y) :=
 ⟨bI h.len hy.len,fun c0 k hk q=>(max_le c0 h.len hy.len hk).2 (.inl (h.ge c0 k hk q)),fun c0 hc0 k hk=>by
  rw [max_le c0 h.len hy.len hk,h.up c0 hc0 k hk,hy.up c0 hc0 k hk];refine ⟨fun q=>?_,fun q=>?_⟩
  ·rcases q with (q | ⟨i,hi,hp,q⟩) | ⟨i,hi,hp,q⟩
   ·exact .inl q
   ·exact .inr ⟨i,hi,.inl hp,q⟩
   ·exact .inr ⟨i,hi,.inr hp,q⟩
  ·rcases q with q | ⟨i,hi,hp | hp,q⟩
   ·exact .inl (.inl q)
   ·exact .inl (.inr ⟨i,hi,hp,q⟩)
   ·exact .inr ⟨i,hi,hp,q⟩⟩
theorem xB.congr (h:xB l j P c r) (hq:∀ i,i < j→(Q i↔P i)):xB l j Q c r :=
 ⟨h.len,h.ge,fun c0 hc0 k hk=>(h.up c0 hc0 k hk).trans ⟨fun q=>q.imp id (fun ⟨i,hi,hp,q⟩=>⟨i,hi,(hq i hi).2 hp,q⟩),fun q=>q.imp id (fun ⟨i,hi,hp,q⟩=>⟨i,hi,(hq i hi).1 hp,q⟩)⟩⟩
end
theorem Sl {e:Ev} (hv:e.valid=true) (hk:15≤e.kind):e.off=0:=by
 have hk2:=Ev.FK hv;simp only [Ev.valid,Ev.rest,Bool.and_eq_true] at hv;have h2:=hv.2;rw [if_neg (by omega)] at h2;split at h2
 ·exact (of_decide_eq_true h2).1
 ·rw [if_pos (by omega)] at h2;exact (of_decide_eq_true h2).1
theorem Qk {l:List Ev} {i j:Nat}:InB l (ay l j).obj (ay l j).off i↔kQ (ay l i) (ay l j)=true:=by
 unfold InB kQ;simp only [Bool.and_eq_true,Bool.or_eq_true,beq_iff_eq];exact ⟨fun ⟨h1,h2,h3⟩=>⟨h2,h3,h1⟩,fun ⟨h2,h3,h1⟩=>⟨h1,h2,h3⟩⟩
section
variable {l:List Ev} (hc:chk l=l.length)
include hc
theorem mJ {j:Nat} (hj:j < l.length):(ay l j).valid=true:=(iT (cK hc hj)).1
omit hc in
theorem uQ {j:Nat} {p:bZ} (h:DU l j p) {m:Int} (hm:m≠4):Ups l j (InF l m (ay l j).obj (ay l j).off) (p.at_ m (ay l j)):=h.f m _ _ hm
theorem JR {j:Nat} (hj:j < l.length) {p:bZ} (h:DU l j p) (hk:dL (ay l j).kind=true) :
 ((p.ringAt (ay l j)).1.length=((ay l j).n+1).toNat∧(p.ringAt (ay l j)).2.length=((ay l j).n+1).toNat) ∧
 (∀ i,i < l.length→dL (ay l i).kind=true→(ay l i).obj=(ay l j).obj→(p.ringAt (ay l j)).1.length=((ay l i).n+1).toNat∧(p.ringAt (ay l j)).2.length=((ay l i).n+1).toNat) ∧
 mU l j 15 TS.dG (ay l j).obj (p.ringAt (ay l j)).1∧mU l j 17 TS.dD (ay l j).obj (p.ringAt (ay l j)).2:=by
 unfold bZ.ringAt
 cases hg:p.g (ay l j).obj with
 | some v =>
   rw [Option.getD_some];exact ⟨h.gn _ _ hg j hj hk rfl,h.gn _ _ hg,h.g1 _ _ hg,h.g2 _ _ hg⟩
 | none =>
   have hn:∀ i,i < j→((ay l i).kind=15∨(ay l i).kind=17)→(ay l i).obj≠(ay l j).obj:=fun i hi h1 h2=>by
    have:=(h.gs (ay l j).obj).2 ⟨i,hi,h1,h2⟩;rw [hg] at this;cases this
   rw [Option.getD_none];have rl:∀ n,(bD n).length=n:=fun n=>List.length_replicate
   refine ⟨⟨rl _,rl _⟩,fun i hi hki ho=>?_,fun i hi h1 h2=>absurd h2 (hn i hi (.inl h1)),fun i hi h1 h2=>absurd h2 (hn i hi (.inr h1))⟩
   have hnn:(ay l i).n=(ay l j).n:=by
    rcases Nat.le_total i j with q | q
    ·exact uJ hc q hj hki hk ho
    ·exact (uJ hc q hi hk hki ho.symm).symm
   rw [hnn];exact ⟨rl _,rl _⟩
theorem Pm {j:Nat} (hj:j < l.length) {p:bZ} (h:DU l j p) {c:Ck} (hcl:c.length=8) :
 (p.acq (ay l j) c).2=p∧xB l j (fun i=>Syn l i j) c (p.acq (ay l j) c).1:=by
 have hv:=mJ hc hj;have no:xB l j (fun _=>False) c c:=xB.nil hcl (fun _ _=>id);have inf:∀ {m:Int} {i:Nat},InF l m (ay l j).obj (ay l j).off i↔Dq (ay l i).kind=some m∧(ay l i).obj=(ay l j).obj∧(ay l i).off=(ay l j).off:=Iff.rfl
 unfold bZ.acq
 by_cases k6:(ay l j).kind=6
 ·rw [if_pos k6];refine ⟨rfl,((no.join (uQ h (m:=0) (by decide))).join (uQ h (m:=1) (by decide))).congr fun i hi=>?_⟩;rw [inf,inf,ku,ku];unfold Syn Kinds;generalize Atom l i j=A;refine ⟨fun ⟨h1,h2,h3⟩=>?_,fun h3=>?_⟩
  ·rcases h3 with h3 | h3 | h3 | h3 | h3 | h3 | h3 | ⟨h3,h4,_⟩ <;> omega
  ·rcases h3 with (h3 | ⟨h3,h1,h2⟩) | ⟨h3,h1,h2⟩
   ·exact h3.elim
   ·exact ⟨h1,h2,.inr (.inr (.inr (.inl (by omega))))⟩
   ·exact ⟨h1,h2,.inr (.inr (.inr (.inr (.inl (by omega)))))⟩
 rw [if_neg k6]
 by_cases k8:(ay l j).kind=8
 ·rw [if_pos k8];refine ⟨rfl,(no.join (uQ h (m:=0) (by decide))).congr fun i hi=>?_⟩;rw [inf,ku];unfold Syn Kinds;generalize Atom l i j=A;refine ⟨fun ⟨h1,h2,h3⟩=>?_,fun h3=>?_⟩
  ·rcases h3 with h3 | h3 | h3 | h3 | h3 | h3 | h3 | ⟨h3,h4,_⟩ <;> omega
  ·rcases h3 with h3 | ⟨h3,h1,h2⟩
   ·exact h3.elim
   ·exact ⟨h1,h2,.inr (.inr (.inr (.inl (by omega))))⟩
 rw [if_neg k8]
 by_cases k11:(ay l j).kind=11
 ·rw [if_pos k11];refine ⟨rfl,(no.join (uQ h (m:=2) (by decide))).congr fun i hi=>?_⟩;rw [inf,ku];unfold Syn Kinds;generalize Atom l i j=A;refine ⟨fun ⟨h1,h2,h3⟩=>?_,fun h3=>?_⟩
  ·rcases h3 with h3 | h3 | h3 | h3 | h3 | h3 | h3 | ⟨h3,h4,_⟩ <;> omega
  ·rcases h3 with h3 | ⟨h3,h1,h2⟩
   ·exact h3.elim
   ·exact ⟨h1,h2,.inr (.inr (.inr (.inr (.inr (.inl (by omega))))))⟩
 rw [if_neg k11]
 by_cases k13:(ay l j).kind=13
 ·rw [if_pos k13];refine ⟨rfl,(no.join (uQ h (m:=3) (by decide))).congr fun i hi=>?_⟩;rw [inf,ku];unfold Syn Kinds;generalize Atom l i j=A;refine ⟨fun ⟨h1,h2,h3⟩=>?_,fun h3=>?_⟩
  ·rcases h3 with h3 | h3 | h3 | h3 | h3 | h3 | h3 | ⟨h3,h4,_⟩ <;> omega
  ·rcases h3 with h3 | ⟨h3,h1,h2⟩
   ·exact h3.elim
   ·exact ⟨h1,h2,.inr (.inr (.inr (.inr (.inr (.inr (.inl (by omega)))))))⟩
 rw [if_neg k13]
 by_cases k35:(ay l j).kind=3∨(ay l j).kind=5
 ·rw [if_pos k35];refine ⟨rfl,(no.join (h.f4 (ay l j).obj (ay l j).off)).congr fun i hi=>?_⟩
  have hA:InA l j (ay l j).obj (ay l j).off i↔InB l (ay l j).obj (ay l j).off i∧Atom l i j:=by
   unfold InA Atom;refine and_congr_right fun _=>forall_congr' fun m=>forall_congr' fun _=>forall_congr' fun _=>?_
   rw [Qk,Bool.not_eq_true]
  rw [hA];unfold Syn Kinds InB;refine ⟨fun ⟨h1,h2,h3⟩=>?_,fun h3=>?_⟩
  ·rcases h3 with h3 | h3 | h3 | h3 | h3 | h3 | h3 | ⟨h3,h4,h5⟩
   ·exfalso;omega
   ·exfalso;omega
   ·exfalso;omega
   ·exfalso;omega
   ·exfalso;omega
   ·exfalso;omega
   ·exfalso;omega
   ·exact .inr ⟨⟨h3,h1,h2⟩,h5⟩
  ·rcases h3 with h3 | ⟨⟨h3,h1,h2⟩,h5⟩
   ·exact h3.elim
   ·exact ⟨h1,h2,.inr (.inr (.inr (.inr (.inr (.inr (.inr ⟨h3,k35,h5⟩))))))⟩
 rw [if_neg k35];rw [not_or] at k35
 by_cases k20:(ay l j).kind=20
 ·rw [if_pos k20];refine ⟨rfl,(no.join (uQ h (m:=5) (by decide))).congr fun i hi=>?_⟩;rw [inf,ku];unfold Syn Kinds;generalize Atom l i j=A;refine ⟨fun ⟨h1,h2,h3⟩=>?_,fun h3=>?_⟩
  ·rcases h3 with h3 | h3 | h3 | h3 | h3 | h3 | h3 | ⟨h3,h4,_⟩ <;> omega
  ·rcases h3 with h3 | ⟨h3,h1,h2⟩
   ·exact h3.elim
   ·exact ⟨h1,h2,.inr (.inr (.inl (by omega)))⟩
 rw [if_neg k20]
 by_cases k18:(ay l j).kind=18
 ·rw [if_pos k18];have hcb:dL (ay l j).kind=true:=by unfold dL;rw [k18];decide
  have hK:=(Ev.sG hv).1;have hN:=(Ev.nH hv).1;obtain ⟨b1,b2⟩:=VJ hc hj k18;obtain ⟨i0,hi0,i1,i2,i3⟩:=(Rj hc (j:=j) (by omega) (x:=(ay l j).obj)).2 _ hK b1;obtain ⟨v,hg⟩:=Option.isSome_iff_exists.1 ((h.gs (ay l j).obj).2 ⟨i0,hi0,.inl i1,i2⟩);have hr:p.ringAt (ay l j)=v:=by unfold bZ.ringAt;rw [hg];rfl
  have hl:=(h.gn _ _ hg j hj hcb rfl).1;have hs:=h.g1 _ _ hg i0 hi0 i1 i2 (by rw [i3,hl];omega)
  rw [i3] at hs;rw [hr,tJ hg,hs];refine ⟨rfl,(no.join (Ups.one (P:=fun i=>Syn l i j) hi0 fun i hi=>?_)).congr fun i hi=>⟨.inr,fun q=>q.elim False.elim id⟩⟩;refine ⟨fun ⟨h1,h2,h3⟩=>?_,fun q=>?_⟩
  ·have h4:(ay l i).kind=15∧(ay l j).k=(ay l i).k:=by
    unfold Kinds at h3
    revert h3
    generalize Atom l i j=A;intro h3
    rcases h3 with h3 | h3 | h3 | h3 | h3 | h3 | h3 | ⟨h3,h4,_⟩ <;> omega
   rcases Nat.lt_trichotomy i i0 with q | q | q
   ·have:=Ai hc q (by omega) h4.1;have:=Oq hc (j:=i0) (by omega) i1;rw [h1,←i2] at *;omega
   ·exact q
   ·have:=Ai hc q (by omega) i1;have:=Oq hc (j:=i) (by omega) h4.1;rw [h1,←i2] at *;omega
  ·subst q;exact ⟨i2,(Sl (mJ hc (by omega)) (by omega)).trans (Sl hv (by omega)).symm,.inl ⟨i1,k18,i3.symm⟩⟩
 rw [if_neg k18]
 by_cases k16:(ay l j).kind=16
 ·rw [if_pos k16];have hcb:dL (ay l j).kind=true:=by unfold dL;rw [k16];decide
  have hN:=(Ev.nH hv).1
  have syn:∀ i,i < j→Syn l i j→(ay l i).kind=17∧(ay l j).k=(ay l i).k+(ay l j).n∧(ay l i).obj=(ay l j).obj:=fun i hi ⟨h1,h2,h3⟩=>by
   have h4:(ay l i).kind=17∧(ay l j).k=(ay l i).k+(ay l i).n:=by
    unfold Kinds at h3
    revert h3
    generalize Atom l i j=A;intro h3
    rcases h3 with h3 | h3 | h3 | h3 | h3 | h3 | h3 | ⟨h3,h4,_⟩ <;> omega
   have h5:=uJ hc (p:=i) (q:=j) (by omega) hj (by unfold dL;rw [h4.1];decide) hcb h1
   exact ⟨h4.1,by omega,h1⟩
  by_cases kn:0≤(ay l j).k - (ay l j).n
  ·rw [if_pos kn];obtain ⟨b1,b2⟩:=at16 hc hj k16;obtain ⟨i0,hi0,i1,i2,i3⟩:=(Ue hc (j:=j) (by omega) (x:=(ay l j).obj)).2 _ kn b1;obtain ⟨v,hg⟩:=Option.isSome_iff_exists.1 ((h.gs (ay l j).obj).2 ⟨i0,hi0,.inr i1,i2⟩);have hr:p.ringAt (ay l j)=v:=by unfold bZ.ringAt;rw [hg];rfl
   have hl:=(h.gn _ _ hg j hj hcb rfl).2;have hs:=h.g2 _ _ hg i0 hi0 i1 i2 (by rw [i3,hl];omega)
   rw [i3] at hs;rw [hr,tJ hg,hs];refine ⟨rfl,(no.join (Ups.one (P:=fun i=>Syn l i j) hi0 fun i hi=>?_)).congr fun i hi=>⟨.inr,fun q=>q.elim False.elim id⟩⟩;refine ⟨fun hsy=>?_,fun q=>?_⟩
   ·obtain ⟨h3,h4,h1⟩:=syn i hi hsy
    rcases Nat.lt_trichotomy i i0 with q | q | q
    ·have:=Ae hc q (by omega) h3;have:=Ot hc (j:=i0) (by omega) i1;rw [h1,←i2] at *;omega
    ·exact q
    ·have:=Ae hc q (by omega) i1;have:=Ot hc (j:=i) (by omega) h3;rw [h1,←i2] at *;omega
   ·subst q;have h5:=uJ hc (p:=i) (q:=j) (by omega) hj (by unfold dL;rw [i1];decide) hcb i2
    exact ⟨i2,(Sl (mJ hc (by omega)) (by omega)).trans (Sl hv (by omega)).symm,.inr (.inl ⟨i1,k16,by omega⟩)⟩
  ·rw [if_neg kn];refine ⟨rfl,xB.nil hcl fun i hi hsy=>?_⟩;obtain ⟨h3,h4,h1⟩:=syn i hi hsy;have:=(Ev.sG (mJ hc (j:=i) (by omega))).1;omega
 rw [if_neg k16];refine ⟨rfl,xB.nil hcl fun i hi ⟨h1,h2,h3⟩=>?_⟩
 revert h3
 unfold Kinds;generalize Atom l i j=A;intro h3
 rcases h3 with h3 | h3 | h3 | h3 | h3 | h3 | h3 | ⟨h3,h4,_⟩ <;> omega
end
section
variable {p:bZ} {e:Ev} {c:Ck}
theorem OJ:(p.rel e c).ck=if e.kind=14 then p.ck.set e.k.toNat c else p.ck:=by
 unfold bZ.rel
 by_cases h:e.kind=14
 ·rw [if_pos h,if_pos h]
 ·rw [if_neg h,if_neg h]
  repeat' split
  all_goals rfl
theorem KI:(p.rel e c).f=match Dq e.kind with
 | some m=>FH p.f m e.obj e.off (aQ ((p.f m e.obj e.off).getD ckZ) c)
 | none=>if e.kind=4∨e.kind=5 then FH p.f 4 e.obj e.off c else p.f:=by
 unfold bZ.rel Dq
 by_cases k14:e.kind=14
 ·have:¬ (e.kind=4∨e.kind=5):=by omega
  rw [if_pos k14,if_neg (by omega),if_neg (by omega),if_neg (by omega),if_neg (by omega),if_neg (by omega)];dsimp only;rw [if_neg this]
 rw [if_neg k14]
 by_cases k7:e.kind=7
 ·rw [if_pos k7,if_pos k7];rfl
 rw [if_neg k7,if_neg k7]
 by_cases k9:e.kind=9
 ·rw [if_pos k9,if_pos k9];rfl
 rw [if_neg k9,if_neg k9]
 by_cases k10:e.kind=10
 ·rw [if_pos k10,if_pos k10];rfl
 rw [if_neg k10,if_neg k10]
 by_cases k12:e.kind=12
 ·rw [if_pos k12,if_pos k12];rfl
 rw [if_neg k12,if_neg k12]
 by_cases k19:e.kind=19
 ·rw [if_pos k19,if_pos k19];rfl
 rw [if_neg k19,if_neg k19];dsimp only
 by_cases k45:e.kind=4∨e.kind=5
 ·rw [if_pos k45,if_pos k45]
 rw [if_neg k45,if_neg k45]
 repeat' split
 all_goals rfl
theorem KJ:(p.rel e c).g=if e.kind=15 then wJ p.g e.obj ((p.ringAt e).1.set (dV e.k (p.ringAt e).1) c,(p.ringAt e).2)
 else if e.kind=17 then wJ p.g e.obj ((p.ringAt e).1,(p.ringAt e).2.set (dV e.k (p.ringAt e).2) c) else p.g:=by
 unfold bZ.rel
 by_cases k15:e.kind=15
 ·rw [if_neg (by omega),if_neg (by omega),if_neg (by omega),if_neg (by omega),if_neg (by omega),if_neg (by omega),if_neg (by omega),if_pos k15,if_pos k15]
 rw [if_neg k15,if_neg k15]
 by_cases k17:e.kind=17
 ·rw [if_neg (by omega),if_neg (by omega),if_neg (by omega),if_neg (by omega),if_neg (by omega),if_neg (by omega),if_neg (by omega),if_pos k17,if_pos k17]
 rw [if_neg k17,if_neg k17]
 repeat' split
 all_goals rfl
end
theorem Ib {f:Int→Int→Int→Option Ck} {k x y:Int} {c:Ck}:FH f k x y c k x y=some c:=if_pos ⟨rfl,rfl,rfl⟩
theorem wI {f:Int→Int→Int→Option Ck} {k x y k' x' y':Int} {c:Ck} (h:¬ (k'=k∧x'=x∧y'=y)):FH f k x y c k' x' y'=f k' x' y':=if_neg h
theorem jO {l:List Ev} {j:Nat} {kd o:Int} {cnt:TS→Int→Int} {s:List Ck} (h:mU l j kd cnt o s) (hn:¬ ((ay l j).kind=kd∧(ay l j).obj=o)) (hcn:cnt (cu l (j+1)) o=cnt (cu l j) o):mU l (j+1) kd cnt o s:=by
 intro i hi h1 h2 h3
 rcases Nat.lt_or_eq_of_le (Nat.le_of_lt_succ hi) with q | q
 ·exact h i q h1 h2 (by rw [←hcn];exact h3)
 ·rw [q] at h1 h2;exact absurd ⟨h1,h2⟩ hn
theorem yS {l:List Ev} {j:Nat} {kd o:Int} {cnt:TS→Int→Int} {s:List Ck} (h:mU l j kd cnt o s) (hk:(ay l j).kind=kd) (ho:(ay l j).obj=o) (hcn:cnt (cu l (j+1)) o=cnt (cu l j) o+1)
 (hs:0 < s.length) (hkj:(ay l j).k=cnt (cu l j) o) (h0:∀ i,i≤j→(ay l i).kind=kd→0≤(ay l i).k) (hlt:∀ i,i < j→(ay l i).kind=kd→(ay l i).obj=o→(ay l i).k < (ay l j).k):mU l (j+1) kd cnt o (s.set (dV (ay l j).k s) (stp l j)):=by
 intro i hi h1 h2 h3;have hsl:∀ k x y,dV k (s.set x y)=dV k s:=fun k x y=>by unfold dV;rw [List.length_set]
 rw [List.length_set] at h3;rw [hsl,iO (Rk (h0 j (Nat.le_refl j) hk) hs)]
 rcases Nat.lt_or_eq_of_le (Nat.le_of_lt_succ hi) with q | q
 ·rw [if_neg (slot_ne (h0 i (by omega) h1) (hlt i q h1 h2) (by omega))];exact h i q h1 h2 (by omega)
 ·rw [q,if_pos rfl]
section
variable {l:List Ev} (hc:chk l=l.length)
include hc
theorem NQ {j:Nat} (hj:j < l.length) {p:bZ} (h:DU l j p):DU l (j+1) (p.fin (ay l j) (stp l j)):=by
 have V:=VL.of hc;have hv:=mJ hc hj;have hg:=V.g hj;have h14:=fun q=>Ev.rV hv q
 obtain ⟨cl,ck⟩:(p.fin (ay l j) (stp l j)).ck.length=8∧∀ g:Int,0≤g→g < 8→(p.fin (ay l j) (stp l j)).ck.getD g.toNat ckZ=if g=(ay l j).g then stp l j else if (ay l j).kind=14∧g=(ay l j).k then stp l j else p.ck.getD g.toNat ckZ:=by
  unfold bZ.fin;dsimp only;rw [OJ];have hcl:=h.cl
  by_cases k14:(ay l j).kind=14
  ·rw [if_pos k14];have:=h14 k14;refine ⟨by rw [List.length_set,List.length_set];exact hcl,fun g h0 h8=>?_⟩
   rw [iO (by rw [List.length_set];omega)]
   by_cases hgg:g=(ay l j).g
   ·rw [if_pos hgg,if_pos (by omega)]
   ·rw [if_neg hgg,if_neg (by omega),iO (by omega)]
    by_cases hgk:g=(ay l j).k
    ·rw [if_pos (by omega),if_pos ⟨k14,hgk⟩]
    ·rw [if_neg (by omega),if_neg (fun q=>hgk q.2)]
  ·rw [if_neg k14];refine ⟨by rw [List.length_set];exact hcl,fun g h0 h8=>?_⟩
   rw [iO (by omega)]
   by_cases hgg:g=(ay l j).g
   ·rw [if_pos hgg,if_pos (by omega)]
   ·rw [if_neg hgg,if_neg (by omega),if_neg (fun q=>k14 q.1)]
 have hf:∀ k x y,(p.fin (ay l j) (stp l j)).f k x y=(p.rel (ay l j) (stp l j)).f k x y:=fun _ _ _=>rfl
 have hG:∀ o,(p.fin (ay l j) (stp l j)).g o=(p.rel (ay l j) (stp l j)).g o:=fun _=>rfl
 have fin:∀ k x y,k≠4→InF l k x y j→(p.fin (ay l j) (stp l j)).f k x y=some (aQ ((p.f k x y).getD ckZ) (stp l j)):=fun k x y _ ⟨h1,h2,h3⟩=>by
  rw [hf,KI,h1];dsimp only;rw [h2,h3,Ib]
 have fno:∀ k x y,k≠4→¬ InF l k x y j→(p.fin (ay l j) (stp l j)).f k x y=p.f k x y:=fun k x y k4 hn=>by
  rw [hf,KI]
  cases hr:Dq (ay l j).kind with
  | some m=>dsimp only;rw [wI (fun ⟨q1,q2,q3⟩=>hn ⟨by rw [hr,q1],q2.symm,q3.symm⟩)]
  | none=>dsimp only;split
          ·rw [wI (fun q=>k4 q.1)]
          ·rfl
 have fin4:∀ x y,InB l x y j→(p.fin (ay l j) (stp l j)).f 4 x y=some (stp l j):=fun x y ⟨h1,h2,h3⟩=>by
  have hr:Dq (ay l j).kind=none:=by
   cases hr:Dq (ay l j).kind with
   | none=>rfl
   | some m=>rw [ku] at hr;omega
  rw [hf,KI,hr];dsimp only;rw [if_pos h1,h2,h3,Ib]
 have fno4:∀ x y,¬ InB l x y j→(p.fin (ay l j) (stp l j)).f 4 x y=p.f 4 x y:=fun x y hn=>by
  rw [hf,KI]
  cases hr:Dq (ay l j).kind with
  | some m=>dsimp only;rw [wI (fun ⟨q1,q2,q3⟩=>by rw [ku] at hr;omega)]
  | none=>dsimp only;split
          ·rename_i k45;rw [wI (fun ⟨_,q2,q3⟩=>hn ⟨k45,q2.symm,q3.symm⟩)]
          ·rfl
 have cs:=(pz hc hj).s;have cr:=(pz hc hj).r
 have ex:∀ {R:Nat→Prop},(∃ i,i < j+1∧R i)↔(∃ i,i < j∧R i)∨R j:=fun {R}=>⟨fun ⟨i,hi,hr⟩=>by
  rcases Nat.lt_or_eq_of_le (Nat.le_of_lt_succ hi) with q | q
  ·exact .inl ⟨i,q,hr⟩
  ·rw [q] at hr;exact .inr hr,fun q=>q.elim (fun ⟨i,hi,hr⟩=>⟨i,by omega,hr⟩) (fun hr=>⟨j,by omega,hr⟩)⟩
 -- the rings
 obtain ⟨gs,gn,g1,g2⟩:(∀ o,((p.fin (ay l j) (stp l j)).g o).isSome=true↔∃ i,i < j+1∧((ay l i).kind=15∨(ay l i).kind=17)∧(ay l i).obj=o) ∧
  (∀ o v,(p.fin (ay l j) (stp l j)).g o=some v→∀ i,i < l.length→dL (ay l i).kind=true→(ay l i).obj=o→v.1.length=((ay l i).n+1).toNat∧v.2.length=((ay l i).n+1).toNat) ∧
  (∀ o v,(p.fin (ay l j) (stp l j)).g o=some v→mU l (j+1) 15 TS.dG o v.1)∧(∀ o v,(p.fin (ay l j) (stp l j)).g o=some v→mU l (j+1) 17 TS.dD o v.2):=by
  by_cases k57:(ay l j).kind=15∨(ay l j).kind=17
  ·have hcb:dL (ay l j).kind=true:=by unfold dL;rcases k57 with q | q <;> rw [q] <;> decide
   obtain ⟨⟨r1,r2⟩,r3,r4,r5⟩:=JR hc hj h hcb;have hn:=Ev.nH hv
   have other:∀ o,o≠(ay l j).obj→(p.fin (ay l j) (stp l j)).g o=p.g o:=fun o ho=>by
    rw [hG,KJ];split
    ·exact if_neg ho
    ·split
     ·exact if_neg ho
     ·rfl
   have keep:∀ o v,o≠(ay l j).obj→p.g o=some v→mU l (j+1) 15 TS.dG o v.1∧mU l (j+1) 17 TS.dD o v.2:=fun o v ho hp =>
    ⟨jO (h.g1 o v hp) (fun q=>ho q.2.symm) (by rw [cs,if_neg (fun q=>ho q.1.symm)];omega),jO (h.g2 o v hp) (fun q=>ho q.2.symm) (by rw [cr,if_neg (fun q=>ho q.1.symm)];omega)⟩
   obtain ⟨v0,e0,l1,l2,p1,p2⟩:∃ v,(p.fin (ay l j) (stp l j)).g (ay l j).obj=some v∧v.1.length=(p.ringAt (ay l j)).1.length∧v.2.length=(p.ringAt (ay l j)).2.length∧mU l (j+1) 15 TS.dG (ay l j).obj v.1∧mU l (j+1) 17 TS.dD (ay l j).obj v.2:=by
    rcases k57 with k15 | k17
    ·refine ⟨((p.ringAt (ay l j)).1.set (dV (ay l j).k (p.ringAt (ay l j)).1) (stp l j),(p.ringAt (ay l j)).2),by rw [hG,KJ,if_pos k15];exact if_pos rfl,by rw [List.length_set],rfl,?_,?_⟩
     ·exact yS r4 k15 rfl (by rw [cs,if_pos ⟨rfl,k15⟩]) (by omega) (Oq hc hj k15) (fun i hi _=>(Ev.sG (mJ hc (by omega))).1) (fun i hi q1 q2=>by
       have:=Ai hc hi (by omega) q1;rw [q2] at this;rw [Oq hc hj k15];exact this)
     ·exact jO r5 (fun q=>by omega) (by rw [cr,if_neg (fun q=>by omega)];omega)
    ·refine ⟨((p.ringAt (ay l j)).1,(p.ringAt (ay l j)).2.set (dV (ay l j).k (p.ringAt (ay l j)).2) (stp l j)),by rw [hG,KJ,if_neg (by omega),if_pos k17];exact if_pos rfl,rfl,by rw [List.length_set],?_,?_⟩
     ·exact jO r4 (fun q=>by omega) (by rw [cs,if_neg (fun q=>by omega)];omega)
     ·exact yS r5 k17 rfl (by rw [cr,if_pos ⟨rfl,k17⟩]) (by omega) (Ot hc hj k17) (fun i hi _=>(Ev.sG (mJ hc (by omega))).1) (fun i hi q1 q2=>by
       have:=Ae hc hi (by omega) q1;rw [q2] at this;rw [Ot hc hj k17];exact this)
   refine ⟨fun o=>?_,fun o v hp=>?_,fun o v hp=>?_,fun o v hp=>?_⟩
   ·rw [ex]
    by_cases ho:o=(ay l j).obj
    ·subst ho;rw [e0];exact ⟨fun _=>.inr ⟨k57,rfl⟩,fun _=>rfl⟩
    ·rw [other o ho,h.gs o];exact ⟨.inl,fun q=>q.elim id (fun q=>absurd q.2.symm ho)⟩
   ·by_cases ho:o=(ay l j).obj
    ·subst ho;rw [e0] at hp;cases hp;rw [l1,l2];exact r3
    ·rw [other o ho] at hp;exact h.gn o v hp
   ·by_cases ho:o=(ay l j).obj
    ·subst ho;rw [e0] at hp;cases hp;exact p1
    ·rw [other o ho] at hp;exact (keep o v ho hp).1
   ·by_cases ho:o=(ay l j).obj
    ·subst ho;rw [e0] at hp;cases hp;exact p2
    ·rw [other o ho] at hp;exact (keep o v ho hp).2
  ·have same:∀ o,(p.fin (ay l j) (stp l j)).g o=p.g o:=fun o=>by
    rw [hG,KJ,if_neg (fun q=>k57 (.inl q)),if_neg (fun q=>k57 (.inr q))]
   refine ⟨fun o=>?_,fun o v hp=>?_,fun o v hp=>?_,fun o v hp=>?_⟩
   ·rw [ex,same,h.gs o];exact ⟨.inl,fun q=>q.elim id (fun q=>absurd q.1 k57)⟩
   ·rw [same] at hp;exact h.gn o v hp
   ·rw [same] at hp;exact jO (h.g1 o v hp) (fun q=>k57 (.inl q.1)) (by rw [cs,if_neg (fun q=>k57 (.inl q.2))];omega)
   ·rw [same] at hp;exact jO (h.g2 o v hp) (fun q=>k57 (.inr q.1)) (by rw [cr,if_neg (fun q=>k57 (.inr q.2))];omega)
 refine ⟨cl,fun g h0 h8=>?_,fun k x y k4=>?_,fun k x y k4=>?_,fun x y=>?_,fun x y=>?_,gs,gn,g1,g2⟩
 ·rw [ck g h0 h8];have hok:=dh l j;have hcl:=hok.cl;have hbl:=hok.bl
  have e1:(aX l (j+1)).cur.getD g.toNat ckZ=if g=(ay l j).g then stp l j else (aX l j).cur.getD g.toNat ckZ:=by
   show ((aX l j).cur.set (ay l j).g.toNat (dU l (aX l j) (ay l j) j)).getD g.toNat ckZ=_
   rw [iO (by omega),nM hj]
   by_cases hgg:g=(ay l j).g
   ·rw [if_pos hgg,if_pos (by omega)]
   ·rw [if_neg hgg,if_neg (by omega)]
  have e2:(aX l (j+1)).birth.getD g.toNat ckZ=if (ay l j).kind=14∧g=(ay l j).k then stp l j else (aX l j).birth.getD g.toNat ckZ:=by
   show (if (ay l j).kind=14 then (aX l j).birth.set (ay l j).k.toNat (dU l (aX l j) (ay l j) j) else (aX l j).birth).getD g.toNat ckZ=_
   by_cases k14:(ay l j).kind=14
   ·have:=h14 k14;rw [if_pos k14,iO (by omega),nM hj]
    by_cases hgk:g=(ay l j).k
    ·rw [if_pos (by omega),if_pos ⟨k14,hgk⟩]
    ·rw [if_neg (by omega),if_neg (fun q=>hgk q.2)]
   ·rw [if_neg k14,if_neg (fun q=>k14 q.1)]
  rw [e1,e2]
  have hnz:stp l j≠ckZ:=fun hz=>by
   have:=lq V hj;rw [hz,jF] at this;have:=uN l j;omega
  by_cases hgg:g=(ay l j).g
  ·rw [if_pos hgg,if_pos hgg,if_neg hnz]
  ·rw [if_neg hgg,if_neg hgg]
   by_cases hgk:(ay l j).kind=14∧g=(ay l j).k
   ·rw [if_pos hgk,if_pos hgk];have h1:=(Ou hc hj hgk.1).1;have h2:=(CQ V (j:=j) (by omega) h0 h8).1 (by rw [hgk.2];exact h1)
    rw [if_pos h2]
   ·rw [if_neg hgk,if_neg hgk];exact h.ck g h0 h8
 ·by_cases hq:InF l k x y j
  ·rw [fin k x y k4 hq];exact (h.f k x y k4).snoc hq
  ·rw [fno k x y k4 hq];exact (h.f k x y k4).succ hq (fun i hi=>Iff.rfl) hq
 ·rw [ex]
  by_cases hq:InF l k x y j
  ·rw [fin k x y k4 hq];exact ⟨fun _=>.inr hq,fun _=>rfl⟩
  ·rw [fno k x y k4 hq,h.fs k x y k4];exact ⟨.inl,fun q=>q.elim id (fun q=>absurd q hq)⟩
 ·by_cases hq:InB l x y j
  ·rw [fin4 x y hq];refine Ups.one (Nat.lt_succ_self j) (fun i hi=>⟨fun ⟨q1,q2⟩=>?_,fun q=>?_⟩)
   ·rcases Nat.lt_or_eq_of_le (Nat.le_of_lt_succ hi) with q | q
    ·exact absurd hq (q2 j q (Nat.lt_succ_self j))
    ·exact q
   ·subst q;exact ⟨hq,fun m h1 h2=>by omega⟩
  ·rw [fno4 x y hq];refine (h.f4 x y).succ (fun q=>hq q.1) (fun i hi=>?_) (fun q=>hq q.1);refine and_congr_right fun _=>⟨fun q m h1 h2=>q m h1 (by omega),fun q m h1 h2=>?_⟩
   rcases Nat.lt_or_eq_of_le (Nat.le_of_lt_succ h2) with h3 | h3
   ·exact q m h1 h3
   ·rw [h3];exact hq
 ·rw [ex]
  by_cases hq:InB l x y j
  ·rw [fin4 x y hq];exact ⟨fun _=>.inr hq,fun _=>rfl⟩
  ·rw [fno4 x y hq,h.f4s x y];exact ⟨.inl,fun q=>q.elim id (fun q=>absurd q hq)⟩
omit hc in
theorem SQ {a b:Ck} (ha:a.length=8) (hb:b.length=8) (h:∀ k,k < 8→a.getD k 0=b.getD k 0):a=b:=by
 apply List.ext_getElem (by omega)
 intro k h1 h2;have:=h k (by omega);rw [List.getD_eq_getElem?_getD,List.getD_eq_getElem?_getD,List.getElem?_eq_getElem h1,List.getElem?_eq_getElem h2] at this;exact this
omit hc in
theorem Gz (g:Int) (n:Nat):jQ l g n≤n:=by
 induction n with
 | zero=>exact Nat.le_refl _
 | succ n ih=>simp only [jQ];split <;> omega
theorem zM (hl:l.length≤1000000) {j:Nat} (hj:j < l.length) {p:bZ} (h:DU l j p):(p.adv (ay l j)).1=stp l j∧(p.adv (ay l j)).2=p.fin (ay l j) (stp l j):=by
 have V:=VL.of hc;have hg:=V.g hj;have hok:=dh l j;have hcn:=V.cnt (j:=j) (by omega);have hstart:p.ck.getD (ay l j).g.toNat ckZ=bT (aX l j) (ay l j):=(h.ck _ hg.1 hg.2).trans rfl;have sl:(bT (aX l j) (ay l j)).length=8:=(hok.start (ay l j)).1
 have hdg:(bT (aX l j) (ay l j)).getD (ay l j).g.toNat 0=(jQ l (ay l j).g j:Int):=by
  have h1:=hcn.start hok (e:=ay l j) (by omega) (k:=(ay l j).g.toNat) (by omega);have h2:=FZ V (j:=j) (by omega) hg.1 hg.2;have h3:((aX l j).cur.getD (ay l j).g.toNat ckZ).getD (ay l j).g.toNat 0=(aX l j).dg (ay l j).g.toNat:=rfl;omega
 have hcb:=Gz (l:=l) (ay l j).g j
 have htick:iH (bT (aX l j) (ay l j)) (ay l j).g=(bT (aX l j) (ay l j)).set (ay l j).g.toNat ((jQ l (ay l j).g j:Int)+1):=by
  unfold iH;rw [if_pos ⟨hg.1,hg.2,by rw [hdg];omega⟩,hdg]
 obtain ⟨a1,a2⟩:=Pm hc hj h (c:=iH (bT (aX l j) (ay l j)) (ay l j).g) (by rw [qM];exact sl)
 have key:(p.acq (ay l j) (iH (bT (aX l j) (ay l j)) (ay l j).g)).1=stp l j:=by
  refine SQ a2.len sF fun k hk=>?_
  have ge:=fun c0=>a2.ge c0 k hk
  have up:=fun c0 hc0=>a2.up c0 hc0 k hk
  rw [htick,pU (by omega)] at ge up;rw [←htick] at ge up;generalize (p.acq (ay l j) (iH (bT (aX l j) (ay l j)) (ay l j).g)).1.getD k 0=R at ge up ⊢
  by_cases hkg:k=(ay l j).g.toNat
  ·rw [if_pos hkg] at ge up;rw [hkg,lq V hj,uN];have h1:=ge _ (Int.le_refl _);have h2:=(up R (by omega)).1 (Int.le_refl _)
   rcases h2 with h2 | ⟨i,hi,_,h2⟩
   ·omega
   ·rw [hkg] at h2;have h3:=UG V (j:=i) (by omega) hg.1 hg.2;have h4:=l7 (l:=l) (g:=(ay l j).g) (show i+1≤j by omega);omega
  ·rw [if_neg hkg] at ge up;have hnn:=(hok.start (ay l j)).get k;have hR:=ge _ (Int.le_refl _);rw [nM hj,mY,pU (by rw [rM hok];omega),if_neg hkg]
   have hpre:=fun c0 hc0=>Hz V hj (c:=c0) hc0 hk
   have hst:=fun c0 hc0=>za V hj (c:=c0) hc0 k
   have hP:0≤(xO l (aX l j) (ay l j) j).getD k 0:=(hok.pre l (ay l j)).get k
   have iff:∀ c0:Int,1≤c0→(c0≤R↔c0≤(xO l (aX l j) (ay l j) j).getD k 0):=fun c0 hc0=>by
    rw [up c0 hc0,hpre c0 hc0,hst c0 hc0];refine ⟨fun q=>?_,fun ⟨i,hi,him,q⟩=>?_⟩
    ·rcases q with ⟨i,hi,hp,q⟩ | ⟨i,hi,hp,q⟩
     ·exact ⟨i,hi,hp.elim .inl (fun q=>.inr (.inl q)),q⟩
     ·exact ⟨i,hi,.inr (.inr hp),q⟩
    ·rcases him with hp | hp | hp
     ·exact .inl ⟨i,hi,.inl hp,q⟩
     ·exact .inl ⟨i,hi,.inr hp,q⟩
     ·exact .inr ⟨i,hi,hp,q⟩
   generalize (xO l (aX l j) (ay l j) j).getD k 0=S at *
   rcases Int.lt_or_le R S with q | q
   ·have:=(iff S (by omega)).2 (Int.le_refl _);omega
   ·rcases Int.lt_or_le S R with q2 | q2
    ·have:=(iff R (by omega)).1 (Int.le_refl _);omega
    ·omega
 unfold bZ.adv;rw [hstart];dsimp only;rw [key,a1];exact ⟨rfl,rfl⟩
theorem wF (hl:l.length≤1000000) {j:Nat} (hj:j≤l.length):DU l j (jP l j):=by
 induction j with
 | zero=>exact NR l
 | succ j ih =>
   have h:=ih (by omega)
   show DU l (j+1) ((jP l j).adv (ay l j)).2
   rw [(zM hc hl hj h).2];exact NQ hc hj h
theorem Rn (hl:l.length≤1000000) {j:Nat} (hj:j < l.length):((jP l j).adv (ay l j)).1=stp l j:=(zM hc hl hj (wF hc hl (by omega))).1
end
end Go.Proofs.Ytffcpijeebagfaa
end
section
namespace Go.Proofs.Ytffcpijeebagfaa
open Go Go.RowKit
set_option maxRecDepth 100000
theorem jW {l:List Ev} {i:Nat} (h:i < l.length):l[i]? = some (ay l i):=by
 rw [pF (List.getElem?_eq_getElem h)];exact List.getElem?_eq_getElem h
section
variable {l:List Ev} (hc:chk l=l.length) (hl:l.length≤1000)
include hc hl
theorem UH {k:Nat} (hk:k≤l.length):∀ c ∈ (jP l k).ck,RG c∧c.length=8:=by
 have h:=wF hc (by omega) hk;have hok:=dh l k;intro c hm;obtain ⟨g,hg,rfl⟩:=List.getElem_of_mem hm;have h8:g < 8:=by have:=h.cl;omega
 have he:=h.ck (g:Int) (by omega) (by omega);rw [Int.toNat_natCast,List.getD_eq_getElem?_getD,List.getElem?_eq_getElem hg,Option.getD_some] at he
 have hb:COk (k:Int) ((jP l k).ck[g]):=by
  rw [he];split
  ·exact COk.getD (by omega) hok.bc _
  ·exact COk.getD (by omega) hok.cc _
 exact ⟨fun x hx=>by have:=hb.2 x hx;omega,hb.1⟩
end
section
variable {hp:Nat→Hb} {b0:Nat} {D:Nat→Prop} {t:mV} (h:TabAt hp b0 D t)
include h
end
end Go.Proofs.Ytffcpijeebagfaa
end
section
namespace Go.Proofs.Ytffcpijeebagfaa
open Go Go.RowKit
set_option maxRecDepth 100000
set_option maxHeartbeats 4000000
open Classical
theorem iU {l:List Ev} {i:Nat} (h:i < l.length):l[i]? = some (ay l i):=by
 rw [pF (List.getElem?_eq_getElem h)];exact List.getElem?_eq_getElem h
def Cj (ps rs:List Pa):Prop:=∃ (l:List Ev) (i j:Nat),ps=[jc l,pI i,pI j]∧(i < l.length∧j < l.length∧i < j∧l.length≤1000000)∧rs=[pB (decide (Prog l i j))]
theorem Ny:Spec Try.prog 111 Cj:=by
 refine sp111 aG.e0 ?_;rintro ps rs ⟨l,i,j,rfl,⟨hi,hj,hij,hlen⟩,rfl⟩;refine ⟨by simp,?_⟩;have ei:=iU hi;have ej:=iU hj;have hi0:(0:Int)≤(i:Int):=by omega
 have hj0:(0:Int)≤(j:Int):=by omega
 have hw:IntKind.i64.wrap ((i:Int)+1)=((i+1:Nat):Int):=wrN (by omega);unfold pc111;refine aH ?_
 cases q:((ay l i).g != (ay l j).g) with
 | true =>
   have hd:decide (Prog l i j)=false:=decide_eq_false (fun h=>(bne_iff_ne.1 q) h.1);simp only [↓evP,evB,stB,reduceIte,reduceCtorEq,seval,jc,l9,hi0,hj0,ei,ej,Ev.row,q,hd,pr111];exact (by unfold Drw;kernel_rfl)
 | false =>
   have hg:(ay l i).g=(ay l j).g:=by rw [bne_eq_false_iff_eq] at q;exact q
   simp only [↓evP,evB,stB,reduceIte,reduceCtorEq,seval,jc,l9,hi0,hj0,ei,ej,Ev.row,q,hw];refine ⟨(by unfold Drw;kernel_rfl),?_⟩
   refine dZ ms111_0 os111_0 (fun m st=>∃ k:Nat,m=j - k∧i < k∧k≤j∧(∀ x,i < x→x < k→(ay l x).g≠(ay l i).g)∧st.sl 7=aI k) (j - (i+1)) ?_ ?_
   ·exact ⟨i+1,rfl,by omega,by omega,fun x h1 h2=>by omega,by simp only [stB,reduceIte,seval]⟩
   ·rintro m z ⟨k,rfl,hik,hk,hno,h7⟩;simp only [stB,reduceIte,seval] at h7
    rcases Nat.lt_or_ge k j with hlt | hge
    ·have ek:=iU (l:=l) (i:=k) (by omega);have hlt':(k:Int) < (j:Int):=by omega
     have hk0:(0:Int)≤(k:Int):=by omega
     cases q2:((ay l k).g == (ay l i).g) with
     | true =>
       have hd:decide (Prog l i j)=false:=decide_eq_false (fun h=>h.2 k hik hlt (beq_iff_eq.1 q2));simp only [↓evP,evB,stB,reduceIte,reduceCtorEq,seval,h7,hlt',hk0,hi0,ek,ei,Ev.row,q2,hd,pr111];exact (by unfold Drw;kernel_rfl)
     | false =>
       simp only [↓evP,evB,stB,reduceIte,reduceCtorEq,seval,h7,hlt',hk0,hi0,ek,ei,Ev.row,q2];refine ⟨(by unfold Drw;kernel_rfl),?_⟩
       refine ⟨_,?_,(by repeat' (first | assumption | exact aW.mpr trivial | exact Within.refl _ _ _ | (refine bH ?_ rfl rfl) | (refine bg ?_ rfl))),k+1,rfl,by omega,hlt,fun x h1 h2=>?_,by simp only [stB,reduceIte,seval];rw [wrN (by omega)]⟩
       ·omega
       ·rcases Nat.lt_or_eq_of_le (Nat.le_of_lt_succ h2) with h3 | h3
        ·exact hno x h1 h3
        ·subst h3;exact beq_eq_false_iff_ne.1 q2
    ·have hkj:k=j:=by omega
     subst hkj;have hlt':¬ (k:Int) < (k:Int):=by omega
     have hd:decide (Prog l i k)=true:=decide_eq_true ⟨hg,hno⟩;simp only [↓evP,evB,stB,reduceIte,reduceCtorEq,seval,h7,hlt',hd,pr111]
def xZ (ps rs:List Pa):Prop:=∃ (l:List Ev) (j:Nat),ps=[jc l,pI j]∧(j < l.length∧l.length≤1000000)∧rs=[pB (decide (First l j))]
theorem JY:Spec Try.prog 112 xZ:=by
 refine sp112 aG.e0 ?_;rintro ps rs ⟨l,j,rfl,⟨hj,hlen⟩,rfl⟩;refine ⟨by simp,?_⟩;have ej:=iU hj;have hj0:(0:Int)≤(j:Int):=by omega
 unfold pc112;refine aH ?_;simp only [↓evP,evB,stB,jc,l9];refine dZ ms112_0 os112_0 (fun m st=>∃ k:Nat,m=j - k∧k≤j∧(∀ x,x < k→(ay l x).g≠(ay l j).g)∧st.sl 5=aI k) j ?_ ?_
 ·exact ⟨0,rfl,Nat.zero_le _,fun x h=>by omega,by simp only [stB,Nat.reduceEqDiff];rfl⟩
 ·rintro m z ⟨k,rfl,hk,hno,h7⟩;simp only [stB,reduceIte,seval] at h7
  rcases Nat.lt_or_ge k j with hlt | hge
  ·have ek:=iU (l:=l) (i:=k) (by omega);have hlt':(k:Int) < (j:Int):=by omega
   have hk0:(0:Int)≤(k:Int):=by omega
   cases q2:((ay l k).g == (ay l j).g) with
   | true =>
     have hd:decide (First l j)=false:=decide_eq_false (fun h=>h k hlt (beq_iff_eq.1 q2));simp only [↓evP,evB,stB,reduceIte,reduceCtorEq,seval,h7,hlt',hk0,hj0,ek,ej,Ev.row,q2,hd,pr112];exact (by unfold Drw;kernel_rfl)
   | false =>
     simp only [↓evP,evB,stB,reduceIte,reduceCtorEq,seval,h7,hlt',hk0,hj0,ek,ej,Ev.row,q2];refine ⟨(by unfold Drw;kernel_rfl),?_⟩
     refine ⟨_,?_,(by repeat' (first | assumption | exact aW.mpr trivial | exact Within.refl _ _ _ | (refine bH ?_ rfl rfl) | (refine bg ?_ rfl))),k+1,rfl,hlt,fun x h2=>?_,by simp only [stB,reduceIte,seval];rw [wrN (by omega)]⟩
     ·omega
     ·rcases Nat.lt_or_eq_of_le (Nat.le_of_lt_succ h2) with h3 | h3
      ·exact hno x h3
      ·subst h3;exact beq_eq_false_iff_ne.1 q2
  ·have hkj:k=j:=by omega
   subst hkj;have hlt':¬ (k:Int) < (k:Int):=by omega
   have hd:decide (First l k)=true:=decide_eq_true hno;simp only [↓evP,evB,stB,reduceIte,reduceCtorEq,seval,h7,hlt',hd,pr112]
def uY (ps rs:List Pa):Prop:=∃ (l:List Ev) (i j:Nat),ps=[jc l,pI i,pI j]∧(i < l.length∧j < l.length∧i < j∧l.length≤1000000)∧rs=[pB (decide (Atom l i j))]
theorem Fq:Spec Try.prog 113 uY:=by
 refine sp113 aG.e0 ?_;rintro ps rs ⟨l,i,j,rfl,⟨hi,hj,hij,hlen⟩,rfl⟩;refine ⟨by simp,?_⟩;have ej:=iU hj;have hj0:(0:Int)≤(j:Int):=by omega
 have hw:IntKind.i64.wrap ((i:Int)+1)=((i+1:Nat):Int):=wrN (by omega);unfold pc113;refine aH ?_;simp only [↓evP,evB,stB,reduceIte,seval,jc,l9,hw];refine dZ ms113_0 os113_0 (fun m st=>∃ k:Nat,m=j - k∧i < k∧k≤j∧(∀ x,i < x→x < k→kQ (ay l x) (ay l j)=false)∧st.sl 7=aI k) (j - (i+1)) ?_ ?_
 ·exact ⟨i+1,rfl,by omega,by omega,fun x h1 h2=>by omega,by simp only [stB,reduceIte,seval]⟩
 ·rintro m z ⟨k,rfl,hik,hk,hno,h7⟩;simp only [stB,reduceIte,seval] at h7
  rcases Nat.lt_or_ge k j with hlt | hge
  ·have ek:=iU (l:=l) (i:=k) (by omega);have hlt':(k:Int) < (j:Int):=by omega
   have hk0:(0:Int)≤(k:Int):=by omega
   have hat:kQ (ay l k) (ay l j)=kQ (ay l k) (ay l j):=rfl
   conv at hat=>rhs;unfold kQ
   have hit:kQ (ay l k) (ay l j)=true→decide (Atom l i j)=false:=fun h=>decide_eq_false (fun h2=>by rw [h2 k hik hlt] at h;cases h)
   cases k4:((ay l k).kind == 4) with
   | true =>
     cases qo:((ay l k).obj == (ay l j).obj) with
     | false =>
       simp only [k4,qo,Bool.false_and,Bool.and_true,Bool.true_or] at hat;simp only [↓evP,evB,stB,reduceIte,reduceCtorEq,seval,h7,hlt',hk0,hj0,ek,ej,Ev.row,k4,qo];refine ⟨(by unfold Drw;kernel_rfl),?_⟩
       refine ⟨_,?_,(by repeat' (first | assumption | exact aW.mpr trivial | exact Within.refl _ _ _ | (refine bH ?_ rfl rfl) | (refine bg ?_ rfl))),k+1,rfl,by omega,hlt,fun x h1 h2=>?_,by simp only [stB,reduceIte,seval];rw [wrN (by omega)]⟩
       ·omega
       ·rcases Nat.lt_or_eq_of_le (Nat.le_of_lt_succ h2) with h3 | h3
        ·exact hno x h1 h3
        ·subst h3;exact hat
     | true =>
     cases qf:((ay l k).off == (ay l j).off) with
     | false =>
       simp only [k4,qo,qf,Bool.and_true,Bool.and_false,Bool.true_or] at hat;simp only [↓evP,evB,stB,reduceIte,reduceCtorEq,seval,h7,hlt',hk0,hj0,ek,ej,Ev.row,k4,qo,qf];refine ⟨(by unfold Drw;kernel_rfl),?_⟩
       refine ⟨_,?_,(by repeat' (first | assumption | exact aW.mpr trivial | exact Within.refl _ _ _ | (refine bH ?_ rfl rfl) | (refine bg ?_ rfl))),k+1,rfl,by omega,hlt,fun x h1 h2=>?_,by simp only [stB,reduceIte,seval];rw [wrN (by omega)]⟩
       ·omega
       ·rcases Nat.lt_or_eq_of_le (Nat.le_of_lt_succ h2) with h3 | h3
        ·exact hno x h1 h3
        ·subst h3;exact hat
     | true =>
       simp only [k4,qo,qf,Bool.and_true,Bool.true_or] at hat;have hd:=hit hat;simp only [↓evP,evB,stB,reduceIte,reduceCtorEq,seval,h7,hlt',hk0,hj0,ek,ej,Ev.row,k4,qo,qf,hd,pr113];exact (by unfold Drw;kernel_rfl)
   | false =>
   cases k5:((ay l k).kind == 5) with
   | true =>
     cases qo:((ay l k).obj == (ay l j).obj) with
     | false =>
       simp only [k4,k5,qo,Bool.false_and,Bool.and_true,Bool.or_true] at hat;simp only [↓evP,evB,stB,reduceIte,reduceCtorEq,seval,h7,hlt',hk0,hj0,ek,ej,Ev.row,k4,k5,qo];refine ⟨(by unfold Drw;kernel_rfl),?_⟩
       refine ⟨_,?_,(by repeat' (first | assumption | exact aW.mpr trivial | exact Within.refl _ _ _ | (refine bH ?_ rfl rfl) | (refine bg ?_ rfl))),k+1,rfl,by omega,hlt,fun x h1 h2=>?_,by simp only [stB,reduceIte,seval];rw [wrN (by omega)]⟩
       ·omega
       ·rcases Nat.lt_or_eq_of_le (Nat.le_of_lt_succ h2) with h3 | h3
        ·exact hno x h1 h3
        ·subst h3;exact hat
     | true =>
     cases qf:((ay l k).off == (ay l j).off) with
     | false =>
       simp only [k4,k5,qo,qf,Bool.and_true,Bool.and_false,Bool.or_true] at hat;simp only [↓evP,evB,stB,reduceIte,reduceCtorEq,seval,h7,hlt',hk0,hj0,ek,ej,Ev.row,k4,k5,qo,qf];refine ⟨(by unfold Drw;kernel_rfl),?_⟩
       refine ⟨_,?_,(by repeat' (first | assumption | exact aW.mpr trivial | exact Within.refl _ _ _ | (refine bH ?_ rfl rfl) | (refine bg ?_ rfl))),k+1,rfl,by omega,hlt,fun x h1 h2=>?_,by simp only [stB,reduceIte,seval];rw [wrN (by omega)]⟩
       ·omega
       ·rcases Nat.lt_or_eq_of_le (Nat.le_of_lt_succ h2) with h3 | h3
        ·exact hno x h1 h3
        ·subst h3;exact hat
     | true =>
       simp only [k4,k5,qo,qf,Bool.and_true,Bool.or_true] at hat;have hd:=hit hat;simp only [↓evP,evB,stB,reduceIte,reduceCtorEq,seval,h7,hlt',hk0,hj0,ek,ej,Ev.row,k4,k5,qo,qf,hd,pr113];exact (by unfold Drw;kernel_rfl)
   | false =>
     simp only [k4,k5,Bool.and_false,Bool.or_false] at hat;simp only [↓evP,evB,stB,reduceIte,reduceCtorEq,seval,h7,hlt',hk0,ek,Ev.row,k4,k5];refine ⟨(by unfold Drw;kernel_rfl),?_⟩
     refine ⟨_,?_,(by repeat' (first | assumption | exact aW.mpr trivial | exact Within.refl _ _ _ | (refine bH ?_ rfl rfl) | (refine bg ?_ rfl))),k+1,rfl,by omega,hlt,fun x h1 h2=>?_,by simp only [stB,reduceIte,seval];rw [wrN (by omega)]⟩
     ·omega
     ·rcases Nat.lt_or_eq_of_le (Nat.le_of_lt_succ h2) with h3 | h3
      ·exact hno x h1 h3
      ·subst h3;exact hat
  ·have hkj:k=j:=by omega
   subst hkj;have hlt':¬ (k:Int) < (k:Int):=by omega
   have hd:decide (Atom l i k)=true:=decide_eq_true hno;simp only [↓evP,evB,stB,reduceIte,reduceCtorEq,seval,h7,hlt',hd,pr113]
noncomputable def R5 (P F A:Prop) (a b:Ev):Bool :=
 if P then true
 else if a.kind=14∧a.k=b.g∧F then true
 else if a.obj≠b.obj then false
 else if a.off≠b.off then false
 else if a.kind=15 then b.kind == 18 && b.k == a.k
 else if a.kind=17 then b.kind == 16 && b.k == a.k+a.n
 else if a.kind=19 then b.kind == 20
 else if a.kind=7 then b.kind == 6 || b.kind == 8
 else if a.kind=9 then b.kind == 6
 else if a.kind=10 then b.kind == 11
 else if a.kind=12 then b.kind == 13
 else if a.kind=4∨a.kind=5 then (b.kind == 3 || b.kind == 5) && decide A
 else false
theorem Qj (l:List Ev) (i j:Nat):Imm l i j↔R5 (Prog l i j) (First l j) (Atom l i j) (ay l i) (ay l j)=true:=by
 unfold Imm GoE Syn Kinds R5;generalize ay l i=a;generalize ay l j=b;generalize Prog l i j=P;generalize First l j=F;generalize Atom l i j=A
 by_cases hP:P
 ·rw [if_pos hP];exact iff_of_true (.inl hP) rfl
 rw [if_neg hP]
 by_cases hG:a.kind=14∧a.k=b.g∧F
 ·rw [if_pos hG];exact iff_of_true (.inr (.inl hG)) rfl
 rw [if_neg hG]
 by_cases ho:a.obj=b.obj
 ·by_cases hf:a.off=b.off
  ·rw [if_neg (fun h=>h ho),if_neg (fun h=>h hf)]
   by_cases k15:a.kind=15
   ·rw [if_pos k15];simp only [Bool.and_eq_true,beq_iff_eq];refine ⟨fun h=>?_,fun h=>.inr (.inr ⟨ho,hf,.inl ?_⟩)⟩
    ·rcases h with h | h | ⟨_,_,h⟩
     ·exact absurd h hP
     ·exact absurd h hG
     ·rcases h with h | h | h | h | h | h | h | ⟨h1,_⟩ <;> omega
    ·omega
   by_cases k17:a.kind=17
   ·rw [if_neg k15,if_pos k17];simp only [Bool.and_eq_true,beq_iff_eq];refine ⟨fun h=>?_,fun h=>.inr (.inr ⟨ho,hf,.inr (.inl ?_)⟩)⟩
    ·rcases h with h | h | ⟨_,_,h⟩
     ·exact absurd h hP
     ·exact absurd h hG
     ·rcases h with h | h | h | h | h | h | h | ⟨h1,_⟩ <;> omega
    ·omega
   by_cases k19:a.kind=19
   ·rw [if_neg k15,if_neg k17,if_pos k19];simp only [beq_iff_eq];refine ⟨fun h=>?_,fun h=>.inr (.inr ⟨ho,hf,.inr (.inr (.inl ?_))⟩)⟩
    ·rcases h with h | h | ⟨_,_,h⟩
     ·exact absurd h hP
     ·exact absurd h hG
     ·rcases h with h | h | h | h | h | h | h | ⟨h1,_⟩ <;> omega
    ·omega
   by_cases k7:a.kind=7
   ·rw [if_neg k15,if_neg k17,if_neg k19,if_pos k7];simp only [Bool.or_eq_true,beq_iff_eq];refine ⟨fun h=>?_,fun h=>.inr (.inr ⟨ho,hf,.inr (.inr (.inr (.inl ?_)))⟩)⟩
    ·rcases h with h | h | ⟨_,_,h⟩
     ·exact absurd h hP
     ·exact absurd h hG
     ·rcases h with h | h | h | h | h | h | h | ⟨h1,_⟩ <;> omega
    ·omega
   by_cases k9:a.kind=9
   ·rw [if_neg k15,if_neg k17,if_neg k19,if_neg k7,if_pos k9];simp only [beq_iff_eq];refine ⟨fun h=>?_,fun h=>.inr (.inr ⟨ho,hf,.inr (.inr (.inr (.inr (.inl ?_))))⟩)⟩
    ·rcases h with h | h | ⟨_,_,h⟩
     ·exact absurd h hP
     ·exact absurd h hG
     ·rcases h with h | h | h | h | h | h | h | ⟨h1,_⟩ <;> omega
    ·omega
   by_cases k10:a.kind=10
   ·rw [if_neg k15,if_neg k17,if_neg k19,if_neg k7,if_neg k9,if_pos k10];simp only [beq_iff_eq];refine ⟨fun h=>?_,fun h=>.inr (.inr ⟨ho,hf,.inr (.inr (.inr (.inr (.inr (.inl ?_)))))⟩)⟩
    ·rcases h with h | h | ⟨_,_,h⟩
     ·exact absurd h hP
     ·exact absurd h hG
     ·rcases h with h | h | h | h | h | h | h | ⟨h1,_⟩ <;> omega
    ·omega
   by_cases k12:a.kind=12
   ·rw [if_neg k15,if_neg k17,if_neg k19,if_neg k7,if_neg k9,if_neg k10,if_pos k12];simp only [beq_iff_eq];refine ⟨fun h=>?_,fun h=>.inr (.inr ⟨ho,hf,.inr (.inr (.inr (.inr (.inr (.inr (.inl ?_))))))⟩)⟩
    ·rcases h with h | h | ⟨_,_,h⟩
     ·exact absurd h hP
     ·exact absurd h hG
     ·rcases h with h | h | h | h | h | h | h | ⟨h1,_⟩ <;> omega
    ·omega
   by_cases k45:a.kind=4∨a.kind=5
   ·rw [if_neg k15,if_neg k17,if_neg k19,if_neg k7,if_neg k9,if_neg k10,if_neg k12,if_pos k45];simp only [Bool.and_eq_true,Bool.or_eq_true,beq_iff_eq,decide_eq_true_eq];refine ⟨fun h=>?_,fun h=>.inr (.inr ⟨ho,hf,.inr (.inr (.inr (.inr (.inr (.inr (.inr ⟨k45,h⟩))))))⟩)⟩
    rcases h with h | h | ⟨_,_,h⟩
    ·exact absurd h hP
    ·exact absurd h hG
    ·rcases h with h | h | h | h | h | h | h | ⟨_,h2⟩
     ·omega
     ·omega
     ·omega
     ·omega
     ·omega
     ·omega
     ·omega
     ·exact h2
   ·rw [if_neg k15,if_neg k17,if_neg k19,if_neg k7,if_neg k9,if_neg k10,if_neg k12,if_neg k45];refine ⟨fun h=>?_,fun h=>by cases h⟩
    rcases h with h | h | ⟨_,_,h⟩
    ·exact absurd h hP
    ·exact absurd h hG
    ·rcases h with h | h | h | h | h | h | h | ⟨h1,_⟩ <;> omega
  ·rw [if_neg (fun h=>h ho),if_pos hf];exact iff_of_false (fun h=>h.elim hP (fun h=>h.elim hG (fun h=>hf h.2.1))) (by decide)
 ·rw [if_pos ho];exact iff_of_false (fun h=>h.elim hP (fun h=>h.elim hG (fun h=>ho h.1))) (by decide)
theorem TB (l:List Ev) (i j:Nat):decide (Imm l i j)=R5 (Prog l i j) (First l j) (Atom l i j) (ay l i) (ay l j):=by
 rw [Bool.eq_iff_iff,decide_eq_true_eq];exact Qj l i j
end Go.Proofs.Ytffcpijeebagfaa
end
section
namespace Go.Proofs.Ytffcpijeebagfaa
open Go Go.RowKit
set_option maxRecDepth 100000
def pci104c0 : PC := .seq (.reg false [⟨(some 54), .fld 1 (.t 8), none, []⟩, ⟨(some 55), .load none (.t 54), none, [0]⟩, ⟨(some 56), .bin .eql (.t 55) (.v (.int .i64 18)), none, [1]⟩, ⟨(some 57), .mv (.t 56), none, [2]⟩, ⟨(some 58), .fld 4 (.t 8), (some (57, true)), [3]⟩, ⟨(some 59), .load none (.t 58), (some (57, true)), [4, 3]⟩, ⟨(some 60), .fld 4 (.t 7), (some (57, true)), [3]⟩, ⟨(some 61), .load none (.t 60), (some (57, true)), [6, 3]⟩, ⟨(some 62), .bin .eql (.t 59) (.t 61), (some (57, true)), [5, 7, 3]⟩, ⟨(some 63), .pick (.t 57) (.t 62) (.v (.bool false)), none, [3, 8]⟩, ⟨(some 6), .mv (.t 63), none, [9, 3, 0, 1, 2, 3, 4, 5, 6, 7, 8, 9]⟩]) (.ret)
def pci104c1 : PC := .seq (.reg false [⟨(some 66), .fld 1 (.t 8), none, []⟩, ⟨(some 67), .load none (.t 66), none, [0]⟩, ⟨(some 68), .bin .eql (.t 67) (.v (.int .i64 16)), none, [1]⟩, ⟨(some 69), .mv (.t 68), none, [2]⟩, ⟨(some 70), .fld 4 (.t 8), (some (69, true)), [3]⟩, ⟨(some 71), .load none (.t 70), (some (69, true)), [4, 3]⟩, ⟨(some 72), .fld 4 (.t 7), (some (69, true)), [3]⟩, ⟨(some 73), .load none (.t 72), (some (69, true)), [6, 3]⟩, ⟨(some 74), .fld 5 (.t 7), (some (69, true)), [3]⟩, ⟨(some 75), .load none (.t 74), (some (69, true)), [8, 3]⟩, ⟨(some 76), .bin .add (.t 73) (.t 75), (some (69, true)), [7, 9, 3]⟩, ⟨(some 77), .bin .eql (.t 71) (.t 76), (some (69, true)), [5, 10, 3]⟩, ⟨(some 78), .pick (.t 69) (.t 77) (.v (.bool false)), none, [3, 11]⟩, ⟨(some 6), .mv (.t 78), none, [12, 3, 0, 1, 2, 3, 4, 5, 6, 7, 8, 9, 10, 11, 12]⟩]) (.ret)
def pci104c2 : PC := .seq (.reg false [⟨(some 86), .fld 1 (.t 8), none, []⟩, ⟨(some 87), .load none (.t 86), none, [0]⟩, ⟨(some 88), .bin .eql (.t 87) (.v (.int .i64 6)), none, [1]⟩, ⟨(some 89), .mv (.t 88), none, [2]⟩, ⟨(some 90), .fld 1 (.t 8), (some (89, false)), [3]⟩, ⟨(some 91), .load none (.t 90), (some (89, false)), [4, 3]⟩, ⟨(some 92), .bin .eql (.t 91) (.v (.int .i64 8)), (some (89, false)), [5, 3]⟩, ⟨(some 93), .pick (.t 89) (.v (.bool true)) (.t 92), none, [3, 6]⟩, ⟨(some 6), .mv (.t 93), none, [7, 3, 0, 1, 2, 3, 4, 5, 6, 7]⟩]) (.ret)
def pci104c3 : PC := .seq (.reg false [⟨(some 112), .fld 1 (.t 8), none, []⟩, ⟨(some 113), .load none (.t 112), none, [0]⟩, ⟨(some 114), .bin .eql (.t 113) (.v (.int .i64 3)), none, [1]⟩, ⟨(some 115), .mv (.t 114), none, [2]⟩, ⟨(some 116), .fld 1 (.t 8), (some (115, false)), [3]⟩, ⟨(some 117), .load none (.t 116), (some (115, false)), [4, 3]⟩, ⟨(some 118), .bin .eql (.t 117) (.v (.int .i64 5)), (some (115, false)), [5, 3]⟩, ⟨(some 119), .pick (.t 115) (.v (.bool true)) (.t 118), none, [3, 6]⟩, ⟨(some 120), .mv (.t 119), none, [7, 3]⟩, ⟨(some 121), .mv (.t 0), (some (120, true)), [8]⟩, ⟨(some 122), .mv (.t 1), (some (120, true)), [8]⟩, ⟨(some 123), .mv (.t 2), (some (120, true)), [8]⟩, ⟨(some 124), .call 113 [(.t 121), (.t 122), (.t 123)], (some (120, true)), [9, 10, 11, 8, 8]⟩, ⟨(some 125), .pick (.t 120) (.t 124) (.v (.bool false)), none, [8, 12]⟩, ⟨(some 6), .mv (.t 125), none, [13, 12, 0, 1, 2, 3, 4, 5, 6, 7, 8, 9, 10, 11, 12, 13]⟩]) (.ret)
def pci104c4 : PC := .seq (.seq (.reg false [⟨(some 110), .bin .eql (.t 51) (.v (.int .i64 4)), none, []⟩, ⟨(some 109), .mv (.t 110), none, [0]⟩]) (.cond (.t 109) (.skip) (.reg false [⟨(some 111), .bin .eql (.t 51) (.v (.int .i64 5)), none, []⟩, ⟨(some 109), .mv (.t 111), none, [0]⟩]))) (.cond (.t 109) (pci104c3) (.skip))
def pci104c5 : PC := .seq (.reg false [⟨(some 105), .bin .eql (.t 51) (.v (.int .i64 12)), none, []⟩, ⟨(some 104), .mv (.t 105), none, [0]⟩]) (.cond (.t 104) (.seq (.reg false [⟨(some 106), .fld 1 (.t 8), none, []⟩, ⟨(some 107), .load none (.t 106), none, [0]⟩, ⟨(some 108), .bin .eql (.t 107) (.v (.int .i64 13)), none, [1]⟩, ⟨(some 6), .mv (.t 108), none, [2, 0, 1, 2]⟩]) (.ret)) (pci104c4))
def pci104c6 : PC := .seq (.reg false [⟨(some 100), .bin .eql (.t 51) (.v (.int .i64 10)), none, []⟩, ⟨(some 99), .mv (.t 100), none, [0]⟩]) (.cond (.t 99) (.seq (.reg false [⟨(some 101), .fld 1 (.t 8), none, []⟩, ⟨(some 102), .load none (.t 101), none, [0]⟩, ⟨(some 103), .bin .eql (.t 102) (.v (.int .i64 11)), none, [1]⟩, ⟨(some 6), .mv (.t 103), none, [2, 0, 1, 2]⟩]) (.ret)) (pci104c5))
def pci104c7 : PC := .seq (.reg false [⟨(some 95), .bin .eql (.t 51) (.v (.int .i64 9)), none, []⟩, ⟨(some 94), .mv (.t 95), none, [0]⟩]) (.cond (.t 94) (.seq (.reg false [⟨(some 96), .fld 1 (.t 8), none, []⟩, ⟨(some 97), .load none (.t 96), none, [0]⟩, ⟨(some 98), .bin .eql (.t 97) (.v (.int .i64 6)), none, [1]⟩, ⟨(some 6), .mv (.t 98), none, [2, 0, 1, 2]⟩]) (.ret)) (pci104c6))
def pci104c8 : PC := .seq (.reg false [⟨(some 85), .bin .eql (.t 51) (.v (.int .i64 7)), none, []⟩, ⟨(some 84), .mv (.t 85), none, [0]⟩]) (.cond (.t 84) (pci104c2) (pci104c7))
def pci104c9 : PC := .seq (.reg false [⟨(some 80), .bin .eql (.t 51) (.v (.int .i64 19)), none, []⟩, ⟨(some 79), .mv (.t 80), none, [0]⟩]) (.cond (.t 79) (.seq (.reg false [⟨(some 81), .fld 1 (.t 8), none, []⟩, ⟨(some 82), .load none (.t 81), none, [0]⟩, ⟨(some 83), .bin .eql (.t 82) (.v (.int .i64 20)), none, [1]⟩, ⟨(some 6), .mv (.t 83), none, [2, 0, 1, 2]⟩]) (.ret)) (pci104c8))
def pci104c10 : PC := .seq (.reg false [⟨(some 65), .bin .eql (.t 51) (.v (.int .i64 17)), none, []⟩, ⟨(some 64), .mv (.t 65), none, [0]⟩]) (.cond (.t 64) (pci104c1) (pci104c9))
def pci104c11 : PC := .seq (.reg false [⟨(some 50), .fld 1 (.t 7), none, []⟩, ⟨(some 51), .load none (.t 50), none, [0]⟩]) (.block 0 (.seq (.reg false [⟨(some 53), .bin .eql (.t 51) (.v (.int .i64 15)), none, []⟩, ⟨(some 52), .mv (.t 53), none, [0]⟩]) (.cond (.t 52) (pci104c0) (pci104c10))))
def pci104c12 : PC := .seq (.seq (.reg false [⟨(some 38), .fld 2 (.t 7), none, []⟩, ⟨(some 39), .load none (.t 38), none, [0]⟩, ⟨(some 40), .fld 2 (.t 8), none, []⟩, ⟨(some 41), .load none (.t 40), none, [2]⟩, ⟨(some 42), .bin .neq (.t 39) (.t 41), none, [1, 3]⟩, ⟨(some 43), .mv (.t 42), none, [4]⟩, ⟨(some 44), .fld 3 (.t 7), (some (43, false)), [5]⟩, ⟨(some 45), .load none (.t 44), (some (43, false)), [6, 5]⟩, ⟨(some 46), .fld 3 (.t 8), (some (43, false)), [5]⟩, ⟨(some 47), .load none (.t 46), (some (43, false)), [8, 5]⟩, ⟨(some 48), .bin .neq (.t 45) (.t 47), (some (43, false)), [7, 9, 5]⟩, ⟨(some 49), .pick (.t 43) (.v (.bool true)) (.t 48), none, [5, 10]⟩]) (.cond (.t 49) (.seq (.reg false [⟨(some 6), .mv (.v (.bool false)), none, []⟩]) (.ret)) (.skip))) (.seq (pci104c11) (.seq (.reg false [⟨(some 6), .mv (.v (.bool false)), none, []⟩]) (.ret)))
def pci104 : PC := .seq (.reg false [⟨(some 6), .mv (.v (.bool false)), none, []⟩]) (.seq (.reg false [⟨(some 9), .mv (.t 0), none, []⟩, ⟨(some 10), .mv (.t 1), none, []⟩, ⟨(some 11), .ixs 9 (.t 9) (.t 10), none, [0, 1]⟩, ⟨(some 12), .load (some 9) (.t 11), none, [2]⟩, ⟨(some 7), .new [(.int .i64 0), (.int .i64 0), (.int .i64 0), (.int .i64 0), (.int .i64 0), (.int .i64 0), (.int .i64 0), (.int .i64 0), (.int .i64 0)], none, []⟩, ⟨none, .store 9 (.t 7) (.t 12), none, [4, 3, 0, 1, 2, 3, 4]⟩]) (.seq (.reg false [⟨(some 13), .mv (.t 0), none, []⟩, ⟨(some 14), .mv (.t 2), none, []⟩, ⟨(some 15), .ixs 9 (.t 13) (.t 14), none, [0, 1]⟩, ⟨(some 16), .load (some 9) (.t 15), none, [2]⟩, ⟨(some 8), .new [(.int .i64 0), (.int .i64 0), (.int .i64 0), (.int .i64 0), (.int .i64 0), (.int .i64 0), (.int .i64 0), (.int .i64 0), (.int .i64 0)], none, []⟩, ⟨none, .store 9 (.t 8) (.t 16), none, [4, 3, 0, 1, 2, 3, 4]⟩]) (.seq (.seq (.reg false [⟨(some 17), .mv (.t 0), none, []⟩, ⟨(some 18), .mv (.t 1), none, []⟩, ⟨(some 19), .mv (.t 2), none, []⟩, ⟨(some 20), .call 111 [(.t 17), (.t 18), (.t 19)], none, [0, 1, 2]⟩, ⟨(some 21), .mv (.t 20), none, [3, 3]⟩, ⟨(some 22), .fld 1 (.t 7), (some (21, false)), [4]⟩, ⟨(some 23), .load none (.t 22), (some (21, false)), [5, 4]⟩, ⟨(some 24), .bin .eql (.t 23) (.v (.int .i64 14)), (some (21, false)), [6, 4]⟩, ⟨(some 25), .mv (.t 24), (some (21, false)), [7, 4, 4]⟩, ⟨(some 26), .fld 4 (.t 7), (some (25, true)), [8]⟩, ⟨(some 27), .load none (.t 26), (some (25, true)), [9, 8]⟩, ⟨(some 28), .fld 0 (.t 8), (some (25, true)), [8]⟩, ⟨(some 29), .load none (.t 28), (some (25, true)), [11, 8]⟩, ⟨(some 30), .bin .eql (.t 27) (.t 29), (some (25, true)), [10, 12, 8]⟩, ⟨(some 31), .pick (.t 25) (.t 30) (.v (.bool false)), (some (21, false)), [8, 13, 4]⟩, ⟨(some 32), .mv (.t 31), (some (21, false)), [14, 8, 4]⟩, ⟨(some 33), .mv (.t 0), (some (32, true)), [15]⟩, ⟨(some 34), .mv (.t 2), (some (32, true)), [15]⟩, ⟨(some 35), .call 112 [(.t 33), (.t 34)], (some (32, true)), [16, 17, 15, 15]⟩, ⟨(some 36), .pick (.t 32) (.t 35) (.v (.bool false)), (some (21, false)), [15, 18, 4]⟩, ⟨(some 37), .pick (.t 21) (.v (.bool true)) (.t 36), none, [4, 19]⟩]) (.cond (.t 37) (.seq (.reg false [⟨(some 6), .mv (.v (.bool true)), none, []⟩]) (.ret)) (.skip))) (pci104c12))))
def pri104 : List PR := [.t 6]
theorem bdi104:Try.f104.body=some (Try.f104.body.getD .skip):=by kernel_rfl
theorem cpi104:bK Try.prog Try.f104.ntmps iE (Try.f104.body.getD .skip)=some pci104:=by kernel_rfl
theorem spi104 [dH] {env:Env} (hE:aG Try.prog env) {R:List Pa→List Pa→Prop} (hR:∀ ps rs,R ps rs→ps.length≤126∧pwp env pci104 (fun e s=>(e=.normal∨e=.ret)∧s.res pri104=some rs) (St.init ps)):Spec Try.prog 104 R :=
 bM hE dO bF Try.func104 bdi104 cpi104 (by kernel_rfl) (by kernel_rfl) (by kernel_rfl) hR
end Go.Proofs.Ytffcpijeebagfaa
end
section
namespace Go.Proofs.Ytffcpijeebagfaa
open Go Go.RowKit
set_option maxRecDepth 100000
set_option maxHeartbeats 4000000
open Classical
def Ph (ps rs:List Pa):Prop:=∃ (l:List Ev) (i j:Nat),ps=[jc l,pI i,pI j]∧(i < l.length∧j < l.length∧i < j∧l.length≤1000000∧(0≤(ay l i).k∧(ay l i).k≤2147483647∧0≤(ay l i).n∧(ay l i).n≤2147483647))∧rs=[pB (decide (Imm l i j))]
def sV:Env:=e1 111 Cj (e1 112 xZ (e1 113 uY e0))
theorem zA:aG Try.prog sV:=aG.e1 Ny (aG.e1 JY (aG.e1 Fq aG.e0))
theorem F7 {l:List Ev} {i j:Nat} (hi:i < l.length) (hj:j < l.length) (hij:i < j) (hlen:l.length≤1000000) {a b:Ev} (hw:IntKind.i64.wrap (a.k+a.n)=a.k+a.n) (hs:decide (Imm l i j)=(if a.obj≠b.obj then false
 else if a.off≠b.off then false
 else if a.kind=15 then b.kind == 18 && b.k == a.k
 else if a.kind=17 then b.kind == 16 && b.k == a.k+a.n
 else if a.kind=19 then b.kind == 20
 else if a.kind=7 then b.kind == 6 || b.kind == 8
 else if a.kind=9 then b.kind == 6
 else if a.kind=10 then b.kind == 11
 else if a.kind=12 then b.kind == 13
 else if a.kind=4∨a.kind=5 then (b.kind == 3 || b.kind == 5) && decide (Atom l i j)
 else false)) (Q:Exit→St→Prop) (hQ:∀ st,st.res pri104=some [pB (decide (Imm l i j))]→Q .ret st) (st:St)
 (h0:st.sl 0=.b (.one (.d (l9 l)))) (h1:st.sl 1=aI i) (h2:st.sl 2=aI j) (h7:st.sl 7=.b (.one (.ptr 7 1 0))) (h8:st.sl 8=.b (.one (.ptr 8 1 0))) (g7:st.gen 7=1) (g8:st.gen 8=1) (o7:st.ob 7=.cells (a.row.map .d)) (o8:st.ob 8=.cells (b.row.map .d)) :
  pwp sV pci104c12 (exS sV [] Q) st:=by
 unfold pci104c12 pci104c11 pci104c10 pci104c9 pci104c8 pci104c7 pci104c6 pci104c5 pci104c4 pci104c3 pci104c2 pci104c1 pci104c0;simp only [l9] at h0;simp only [Ev.row,List.map_cons,List.map_nil] at o7 o8
 cases qo:(a.obj != b.obj) with
 | true =>
   rw [if_pos (bne_iff_ne.1 qo)] at hs;simp only [↓evP,evB,stB,reduceIte,reduceCtorEq,seval,h0,h1,h2,h7,h8,g7,g8,o7,o8,qo];exact hQ _ (by simp only [stB,reduceIte,seval,hs,pri104])
 | false =>
 rw [if_neg (fun h=>by rw [bne_iff_ne.2 h] at qo;cases qo)] at hs
 cases qf:(a.off != b.off) with
 | true =>
   rw [if_pos (bne_iff_ne.1 qf)] at hs;simp only [↓evP,evB,stB,reduceIte,reduceCtorEq,seval,h0,h1,h2,h7,h8,g7,g8,o7,o8,qo,qf];exact hQ _ (by simp only [stB,reduceIte,seval,hs,pri104])
 | false =>
 rw [if_neg (fun h=>by rw [bne_iff_ne.2 h] at qf;cases qf)] at hs
 cases k15:(a.kind == 15) with
 | true =>
   rw [if_pos (beq_iff_eq.1 k15)] at hs
   cases c1:(b.kind == 18) with
   | false =>
     rw [c1,Bool.false_and] at hs;simp only [↓evP,evB,stB,reduceIte,reduceCtorEq,seval,h0,h1,h2,h7,h8,g7,g8,o7,o8,qo,qf,k15,c1];exact hQ _ (by simp only [stB,reduceIte,seval,hs,pri104])
   | true =>
     rw [c1,Bool.true_and] at hs;simp only [↓evP,evB,stB,reduceIte,reduceCtorEq,seval,h0,h1,h2,h7,h8,g7,g8,o7,o8,qo,qf,k15,c1,hw];exact hQ _ (by simp only [stB,reduceIte,seval,hs,pri104])
 | false =>
 rw [if_neg (beq_eq_false_iff_ne.1 k15)] at hs
 cases k17:(a.kind == 17) with
 | true =>
   rw [if_pos (beq_iff_eq.1 k17)] at hs
   cases c1:(b.kind == 16) with
   | false =>
     rw [c1,Bool.false_and] at hs;simp only [↓evP,evB,stB,reduceIte,reduceCtorEq,seval,h0,h1,h2,h7,h8,g7,g8,o7,o8,qo,qf,k15,k17,c1];exact hQ _ (by simp only [stB,reduceIte,seval,hs,pri104])
   | true =>
     rw [c1,Bool.true_and] at hs;simp only [↓evP,evB,stB,reduceIte,reduceCtorEq,seval,h0,h1,h2,h7,h8,g7,g8,o7,o8,qo,qf,k15,k17,c1,hw];exact hQ _ (by simp only [stB,reduceIte,seval,hs,pri104])
 | false =>
 rw [if_neg (beq_eq_false_iff_ne.1 k17)] at hs
 cases k19:(a.kind == 19) with
 | true =>
   rw [if_pos (beq_iff_eq.1 k19)] at hs;simp only [↓evP,evB,stB,reduceIte,reduceCtorEq,seval,h0,h1,h2,h7,h8,g7,g8,o7,o8,qo,qf,k15,k17,k19];exact hQ _ (by simp only [stB,reduceIte,seval,hs,pri104])
 | false =>
 rw [if_neg (beq_eq_false_iff_ne.1 k19)] at hs
 cases k7:(a.kind == 7) with
 | true =>
   rw [if_pos (beq_iff_eq.1 k7)] at hs
   cases c1:(b.kind == 6) with
   | true =>
     rw [c1,Bool.true_or] at hs;simp only [↓evP,evB,stB,reduceIte,reduceCtorEq,seval,h0,h1,h2,h7,h8,g7,g8,o7,o8,qo,qf,k15,k17,k19,k7,c1];exact hQ _ (by simp only [stB,reduceIte,seval,hs,pri104])
   | false =>
     rw [c1,Bool.false_or] at hs;simp only [↓evP,evB,stB,reduceIte,reduceCtorEq,seval,h0,h1,h2,h7,h8,g7,g8,o7,o8,qo,qf,k15,k17,k19,k7,c1];exact hQ _ (by simp only [stB,reduceIte,seval,hs,pri104])
 | false =>
 rw [if_neg (beq_eq_false_iff_ne.1 k7)] at hs
 cases k9:(a.kind == 9) with
 | true =>
   rw [if_pos (beq_iff_eq.1 k9)] at hs;simp only [↓evP,evB,stB,reduceIte,reduceCtorEq,seval,h0,h1,h2,h7,h8,g7,g8,o7,o8,qo,qf,k15,k17,k19,k7,k9];exact hQ _ (by simp only [stB,reduceIte,seval,hs,pri104])
 | false =>
 rw [if_neg (beq_eq_false_iff_ne.1 k9)] at hs
 cases k10:(a.kind == 10) with
 | true =>
   rw [if_pos (beq_iff_eq.1 k10)] at hs;simp only [↓evP,evB,stB,reduceIte,reduceCtorEq,seval,h0,h1,h2,h7,h8,g7,g8,o7,o8,qo,qf,k15,k17,k19,k7,k9,k10];exact hQ _ (by simp only [stB,reduceIte,seval,hs,pri104])
 | false =>
 rw [if_neg (beq_eq_false_iff_ne.1 k10)] at hs
 cases k12:(a.kind == 12) with
 | true =>
   rw [if_pos (beq_iff_eq.1 k12)] at hs;simp only [↓evP,evB,stB,reduceIte,reduceCtorEq,seval,h0,h1,h2,h7,h8,g7,g8,o7,o8,qo,qf,k15,k17,k19,k7,k9,k10,k12];exact hQ _ (by simp only [stB,reduceIte,seval,hs,pri104])
 | false =>
 rw [if_neg (beq_eq_false_iff_ne.1 k12)] at hs
 cases k4:(a.kind == 4) with
 | true =>
   rw [if_pos (.inl (beq_iff_eq.1 k4))] at hs
   cases c3:(b.kind == 3) with
   | true =>
     rw [c3,Bool.true_or,Bool.true_and] at hs;simp only [↓evP,evB,stB,reduceIte,reduceCtorEq,seval,h0,h1,h2,h7,h8,g7,g8,o7,o8,qo,qf,k15,k17,k19,k7,k9,k10,k12,k4,c3];refine aC [pB (decide (Atom l i j))] ⟨l,i,j,rfl,⟨hi,hj,hij,hlen⟩,rfl⟩ ?_;simp only [↓evP,evB,stB,reduceIte,seval];exact hQ _ (by simp only [stB,reduceIte,seval,hs,pri104])
   | false =>
   cases c5:(b.kind == 5) with
   | true =>
     rw [c3,c5,Bool.false_or,Bool.true_and] at hs;simp only [↓evP,evB,stB,reduceIte,reduceCtorEq,seval,h0,h1,h2,h7,h8,g7,g8,o7,o8,qo,qf,k15,k17,k19,k7,k9,k10,k12,k4,c3,c5];refine aC [pB (decide (Atom l i j))] ⟨l,i,j,rfl,⟨hi,hj,hij,hlen⟩,rfl⟩ ?_;simp only [↓evP,evB,stB,reduceIte,seval];exact hQ _ (by simp only [stB,reduceIte,seval,hs,pri104])
   | false =>
     rw [c3,c5,Bool.false_or,Bool.false_and] at hs;simp only [↓evP,evB,stB,reduceIte,reduceCtorEq,seval,h7,h8,g7,g8,o7,o8,qo,qf,k15,k17,k19,k7,k9,k10,k12,k4,c3,c5];exact hQ _ (by simp only [stB,reduceIte,seval,hs,pri104])
 | false =>
 cases k5:(a.kind == 5) with
 | true =>
   rw [if_pos (.inr (beq_iff_eq.1 k5))] at hs
   cases c3:(b.kind == 3) with
   | true =>
     rw [c3,Bool.true_or,Bool.true_and] at hs;simp only [↓evP,evB,stB,reduceIte,reduceCtorEq,seval,h0,h1,h2,h7,h8,g7,g8,o7,o8,qo,qf,k15,k17,k19,k7,k9,k10,k12,k4,k5,c3];refine aC [pB (decide (Atom l i j))] ⟨l,i,j,rfl,⟨hi,hj,hij,hlen⟩,rfl⟩ ?_;simp only [↓evP,evB,stB,reduceIte,seval];exact hQ _ (by simp only [stB,reduceIte,seval,hs,pri104])
   | false =>
   cases c5:(b.kind == 5) with
   | true =>
     rw [c3,c5,Bool.false_or,Bool.true_and] at hs;simp only [↓evP,evB,stB,reduceIte,reduceCtorEq,seval,h0,h1,h2,h7,h8,g7,g8,o7,o8,qo,qf,k15,k17,k19,k7,k9,k10,k12,k4,k5,c3,c5];refine aC [pB (decide (Atom l i j))] ⟨l,i,j,rfl,⟨hi,hj,hij,hlen⟩,rfl⟩ ?_;simp only [↓evP,evB,stB,reduceIte,seval];exact hQ _ (by simp only [stB,reduceIte,seval,hs,pri104])
   | false =>
     rw [c3,c5,Bool.false_or,Bool.false_and] at hs;simp only [↓evP,evB,stB,reduceIte,reduceCtorEq,seval,h7,h8,g7,g8,o7,o8,qo,qf,k15,k17,k19,k7,k9,k10,k12,k4,k5,c3,c5];exact hQ _ (by simp only [stB,reduceIte,seval,hs,pri104])
 | false =>
   rw [if_neg (fun h=>h.elim (beq_eq_false_iff_ne.1 k4) (beq_eq_false_iff_ne.1 k5))] at hs;simp only [↓evP,evB,stB,reduceIte,reduceCtorEq,seval,h0,h1,h2,h7,h8,g7,g8,o7,o8,qo,qf,k15,k17,k19,k7,k9,k10,k12,k4,k5];exact hQ _ (by simp only [stB,reduceIte,seval,hs,pri104])
theorem Rb:Spec Try.prog 104 Ph:=by
 refine spi104 zA ?_;rintro ps rs ⟨l,i,j,rfl,⟨hi,hj,hij,hlen,hk0,hk1,hn0,hn1⟩,rfl⟩;refine ⟨by simp,?_⟩;have ei:=iU hi;have ej:=iU hj;have hi0:(0:Int)≤(i:Int):=by omega
 have hj0:(0:Int)≤(j:Int):=by omega
 have hs:=TB l i j;unfold R5 at hs;generalize hea:ay l i=a at *;generalize heb:ay l j=b at *;have hw:IntKind.i64.wrap (a.k+a.n)=a.k+a.n:=pY (by omega) (by omega);have hQ:∀ st:St,st.res pri104=some [pB (decide (Imm l i j))]→(fun e s'=>(e=Exit.normal∨e=.ret)∧s'.res pri104=some [pB (decide (Imm l i j))]) .ret st:=fun st h=>⟨.inr rfl,h⟩
 unfold pci104;refine aH ?_;simp only [↓evP,evB,stB,reduceIte,reduceCtorEq,seval,jc,l9,hi0,hj0,ei,ej,Ev.row];refine aC [pB (decide (Prog l i j))] ⟨l,i,j,rfl,⟨hi,hj,hij,hlen⟩,rfl⟩ ?_
 by_cases hP:Prog l i j
 ·rw [if_pos hP] at hs;rw [decide_eq_true hP];simp only [↓evP,evB,stB,reduceIte,reduceCtorEq,seval,hs,pri104]
 rw [if_neg hP] at hs;rw [decide_eq_false hP]
 cases g14:(a.kind == 14) with
 | false =>
   rw [if_neg (fun h=>beq_eq_false_iff_ne.1 g14 h.1)] at hs;simp only [↓evP,evB,stB,reduceIte,reduceCtorEq,seval,g14];exact F7 hi hj hij hlen hw hs _ hQ _ (by simp only [stB,reduceIte,reduceCtorEq,seval,l9]) (by simp only [stB,reduceIte,seval]) (by simp only [stB,reduceIte,seval]) (by simp only [stB,reduceIte,seval]) (by simp only [stB,reduceIte,seval]) (by simp only [stB,reduceIte,seval]) (by simp only [stB,reduceIte,seval]) (by simp only [stB,reduceIte,seval];rfl) (by simp only [stB,reduceIte,seval];rfl)
 | true =>
 cases gk:(a.k == b.g) with
 | false =>
   rw [if_neg (fun h=>beq_eq_false_iff_ne.1 gk h.2.1)] at hs;simp only [↓evP,evB,stB,reduceIte,reduceCtorEq,seval,g14,gk];exact F7 hi hj hij hlen hw hs _ hQ _ (by simp only [stB,reduceIte,reduceCtorEq,seval,l9]) (by simp only [stB,reduceIte,seval]) (by simp only [stB,reduceIte,seval]) (by simp only [stB,reduceIte,seval]) (by simp only [stB,reduceIte,seval]) (by simp only [stB,reduceIte,seval]) (by simp only [stB,reduceIte,seval]) (by simp only [stB,reduceIte,seval];rfl) (by simp only [stB,reduceIte,seval];rfl)
 | true =>
   simp only [↓evP,evB,stB,reduceIte,reduceCtorEq,seval,g14,gk];refine aC [pB (decide (First l j))] ⟨l,j,rfl,⟨hj,hlen⟩,rfl⟩ ?_
   by_cases hF:First l j
   ·rw [if_pos ⟨beq_iff_eq.1 g14,beq_iff_eq.1 gk,hF⟩] at hs;rw [decide_eq_true hF];simp only [↓evP,evB,stB,reduceIte,reduceCtorEq,seval,hs,pri104]
   rw [if_neg (fun h=>hF h.2.2)] at hs;rw [decide_eq_false hF];simp only [↓evP,evB,stB,reduceIte,reduceCtorEq,seval];exact F7 hi hj hij hlen hw hs _ hQ _ (by simp only [stB,reduceIte,reduceCtorEq,seval,l9]) (by simp only [stB,reduceIte,seval]) (by simp only [stB,reduceIte,seval]) (by simp only [stB,reduceIte,seval]) (by simp only [stB,reduceIte,seval]) (by simp only [stB,reduceIte,seval]) (by simp only [stB,reduceIte,seval]) (by simp only [stB,reduceIte,seval];rfl) (by simp only [stB,reduceIte,seval];rfl)
end Go.Proofs.Ytffcpijeebagfaa
end
section
namespace Go.Proofs.Ytffcpijeebagfaa
open Go Go.RowKit Go.Deep
open Classical
theorem Try.BL:(Try.prog.info? 104).map (fun i=>(i.zero,i.size,i.bytes))=some (some (.slice none 0 0),1,24):=by kernel_rfl
theorem Try.Jj:(Try.prog.info? 4).map (fun i=>(i.zero,i.size,i.bytes))=some (some (.bool false),1,1):=by kernel_rfl
theorem RD.bel {S:Nat→Nat} {w w':World} (hb:Below w.heap.size w w') {x:Dt} {v:Value} (h:RD S w x v):RD S w' x v:=by
 refine RD.ext (S:=S) (w:=w) (fun b i hi hc=>⟨hi,hb.cell ?_⟩) h
 show b < w.heap.size
 rcases Nat.lt_or_ge b w.heap.size with h1 | h1
 ·exact h1
 ·unfold World.cell? at hc;rw [Array.getElem?_eq_none h1] at hc;cases hc
def OT (N n k:Nat):Nat→Value:=fun i=>if i < k then .slice (some ⟨N+1+i,0,none⟩) n n else .slice none 0 0
structure DR (w wr:World) (n k:Nat):Prop where
 bel:Below w.heap.size w wr
 size:wr.heap.size=w.heap.size+1+k
 top:wr.rowIs w.heap.size 104 n (OT w.heap.size n k)
 row:∀ i,i < k→wr.rowIs (w.heap.size+1+i) 4 n (fun _=>.bool false)
structure kP (w wr:World) (n:Nat) (M:Nat→Nat→Prop):Prop where
 bel:Below w.heap.size w wr
 size:w.heap.size+1+n≤wr.heap.size
 top:wr.rowIs w.heap.size 104 n (OT w.heap.size n n)
 row:∀ i,i < n→wr.rowIs (w.heap.size+1+i) 4 n (fun j=>.bool (decide (M i j)))
theorem BK (w:World) (n:Nat):DR w (w.alloc (.cells (madeCells #[.slice none 0 0] n) 104)) n 0 :=
 ⟨(Below.refl _ _).alloc (Nat.le_refl _) _,by simp,(World.rowIs_made w _ n 104).congr (fun j _=>by simp [OT]),fun j hj=>absurd hj (Nat.not_lt_zero _)⟩
theorem EM {w wr:World} {n k:Nat} (h:DR w wr n k) :
 DR w ((wr.alloc (.cells (madeCells #[.bool false] n) 4)).setCell ⟨w.heap.size,k,none⟩ (.slice (some ⟨w.heap.size+1+k,0,none⟩) n n)) n (k+1):=by
 have hnew:=World.rowIs_made wr (.bool false) n 4;rw [h.size] at hnew;refine ⟨(h.bel.alloc (by rw [h.size];omega) _).setCell (Nat.le_refl _) _,by simp [h.size];omega,((h.top.alloc _).set k _).congr (fun j _=>?_),fun i hi=>?_⟩
 ·simp only [OT]
  by_cases e:j=k
  ·subst e;simp
  ·rw [if_neg e]
   by_cases hlt:j < k
   ·rw [if_pos hlt,if_pos (by omega)]
   ·rw [if_neg hlt,if_neg (by omega)]
 ·rcases Nat.lt_or_eq_of_le (Nat.le_of_lt_succ hi) with h1 | h1
  ·exact ((h.row i h1).alloc _).setOther (by show w.heap.size+1+i≠w.heap.size;omega) _
  ·subst h1;exact hnew.setOther (by show w.heap.size+1+i≠w.heap.size;omega) _
theorem Md {w wr:World} {n:Nat} (h:DR w wr n n) {M:Nat→Nat→Prop} (hM:∀ x y,¬ M x y):kP w wr n M :=
 ⟨h.bel,by rw [h.size];exact Nat.le_refl _,h.top,fun i hi=>(h.row i hi).congr (fun j _=>by rw [decide_eq_false (hM i j)])⟩
theorem kP.below {w wr w':World} {n:Nat} {M:Nat→Nat→Prop} (h:kP w wr n M) (hb:Below wr.heap.size wr w'):kP w w' n M :=
 ⟨h.bel.trans (hb.mono h.bel.size),Nat.le_trans h.size hb.size,h.top.of_block (hb.block _ h.top.lt),fun i hi=>(h.row i hi).of_block (hb.block _ (h.row i hi).lt)⟩
theorem kP.congr {w wr:World} {n:Nat} {M M':Nat→Nat→Prop} (h:kP w wr n M) (hM:∀ x y,x < n→y < n→(M x y↔M' x y)):kP w wr n M' :=
 ⟨h.bel,h.size,h.top,fun i hi=>(h.row i hi).congr (fun j hj=>by rw [decide_eq_decide.2 (hM i j hi hj)])⟩
theorem kP.set {w wr:World} {n:Nat} {M:Nat→Nat→Prop} (h:kP w wr n M) (a c:Nat):kP w (wr.setCell ⟨w.heap.size+1+a,c,none⟩ (.bool true)) n (fun x y=>(x=a∧y=c)∨M x y):=by
 refine ⟨h.bel.setCell (by show w.heap.size≤w.heap.size+1+a;omega) _,by simpa using h.size,h.top.setOther (by show w.heap.size≠w.heap.size+1+a;omega) _,fun i hi=>?_⟩
 by_cases hia:i=a
 ·subst hia;refine ((h.row i hi).set c _).congr (fun j _=>?_)
  by_cases hj:j=c
  ·rw [if_pos hj];exact congrArg Value.bool (@decide_eq_true _ (propDecidable _) (.inl ⟨rfl,hj⟩)).symm
  ·rw [if_neg hj];exact congrArg (fun p=>Value.bool (@decide p (propDecidable p))) (propext (⟨.inr,fun h=>h.elim (fun h=>absurd h.2 hj) id⟩:M i j↔(i=i∧j=c)∨M i j))
 ·refine ((h.row i hi).setOther (by show w.heap.size+1+i≠w.heap.size+1+a;omega) _).congr (fun j _=>?_)
  exact congrArg (fun p=>Value.bool (@decide p (propDecidable p))) (propext (⟨.inr,fun h=>h.elim (fun h=>absurd h.1 hia) id⟩:M i j↔(i=a∧j=c)∨M i j))
theorem kP.head {w wr:World} {n:Nat} {M:Nat→Nat→Prop} (h:kP w wr n M) {i:Nat} (hi:i < n):wr.cell? ⟨w.heap.size,i,none⟩=some (.slice (some ⟨w.heap.size+1+i,0,none⟩) n n):=by
 have:=h.top.cell hi
 simpa [OT,hi] using this
section
variable (l:List Ev)
def mA (j:Nat) (x y:Nat):Prop:=y < j∧HB l x y
def mB (j m:Nat) (x y:Nat):Prop:=(y < j∧HB l x y)∨(y=j∧∃ k,m≤k∧k < j∧Imm l k j∧HBE l x k)
def mC (j i k:Nat) (x y:Nat):Prop:=mB l j (i+1) x y∨(y=j∧(x=i∨(x < k∧HB l x i)))
variable {l}
theorem MP {j x y:Nat}:mA l j x y↔mB l j j x y:=⟨.inl,fun h=>h.elim id (fun ⟨_,k,h1,h2,_⟩=>by omega)⟩
theorem Qq {j i x y:Nat} (hn:¬ Imm l i j):mB l j (i+1) x y↔mB l j i x y:=by
 refine ⟨fun h=>h.imp id (fun ⟨h1,k,h2,h3⟩=>⟨h1,k,by omega,h3⟩),fun h=>h.imp id (fun ⟨h1,k,h2,h3,h4,h5⟩=>⟨h1,k,?_,h3,h4,h5⟩)⟩
 rcases Nat.lt_or_eq_of_le h2 with h6 | h6
 ·exact h6
 ·subst h6;exact absurd h4 hn
theorem MQ {j i x y:Nat}:((x=i∧y=j)∨mB l j (i+1) x y)↔mC l j i 0 x y :=
 ⟨fun h=>h.elim (fun ⟨h1,h2⟩=>.inr ⟨h2,.inl h1⟩) .inl,fun h=>h.elim .inr (fun ⟨h1,h2⟩=>h2.elim (fun h3=>.inl ⟨h3,h1⟩) (fun h3=>by omega))⟩
theorem G8 {j i k:Nat} (hij:i < j):mC l j i k k i↔HB l k i:=by
 refine ⟨fun h=>?_,fun h=>.inl (.inl ⟨hij,h⟩)⟩
 rcases h with (h | ⟨h,_⟩) | ⟨h,_⟩
 ·exact h.2
 ·omega
 ·omega
theorem TM {j i k x y:Nat} (hk:HB l k i):((x=k∧y=j)∨mC l j i k x y)↔mC l j i (k+1) x y:=by
 refine ⟨fun h=>?_,fun h=>?_⟩
 ·rcases h with ⟨rfl,h2⟩ | h | ⟨h1,h | h⟩
  ·exact .inr ⟨h2,.inr ⟨by omega,hk⟩⟩
  ·exact .inl h
  ·exact .inr ⟨h1,.inl h⟩
  ·exact .inr ⟨h1,.inr ⟨by omega,h.2⟩⟩
 ·rcases h with h | ⟨h1,h | h⟩
  ·exact .inr (.inl h)
  ·exact .inr (.inr ⟨h1,.inl h⟩)
  ·by_cases hx:x=k
   ·exact .inl ⟨hx,h1⟩
   ·exact .inr (.inr ⟨h1,.inr ⟨by omega,h.2⟩⟩)
theorem Qr {j i k x y:Nat} (hk:¬ HB l k i):mC l j i k x y↔mC l j i (k+1) x y:=by
 refine ⟨fun h=>?_,fun h=>?_⟩
 ·rcases h with h | ⟨h1,h | h⟩
  ·exact .inl h
  ·exact .inr ⟨h1,.inl h⟩
  ·exact .inr ⟨h1,.inr ⟨by omega,h.2⟩⟩
 ·rcases h with h | ⟨h1,h | h⟩
  ·exact .inl h
  ·exact .inr ⟨h1,.inl h⟩
  ·by_cases hx:x=k
   ·subst hx;exact absurd h.2 hk
   ·exact .inr ⟨h1,.inr ⟨by omega,h.2⟩⟩
theorem TL {j i x y:Nat} (hij:i < j) (hi:Imm l i j):mC l j i i x y↔mB l j i x y:=by
 refine ⟨fun h=>?_,fun h=>?_⟩
 ·rcases h with (h | ⟨h1,k,h2,h3⟩) | ⟨h1,h | h⟩
  ·exact .inl h
  ·exact .inr ⟨h1,k,by omega,h3⟩
  ·exact .inr ⟨h1,i,Nat.le_refl _,hij,hi,.inl h⟩
  ·exact .inr ⟨h1,i,Nat.le_refl _,hij,hi,.inr h.2⟩
 ·rcases h with h | ⟨h1,k,h2,h3,h4,h5⟩
  ·exact .inl (.inl h)
  ·rcases Nat.lt_or_eq_of_le h2 with h6 | h6
   ·exact .inl (.inr ⟨h1,k,h6,h3,h4,h5⟩)
   ·subst h6;exact .inr ⟨h1,h5.elim .inl (fun h7=>.inr ⟨h7.lt,h7⟩)⟩
theorem TK {j x y:Nat}:mB l j 0 x y↔mA l (j+1) x y:=by
 refine ⟨fun h=>?_,fun h=>?_⟩
 ·rcases h with h | ⟨h1,k,_,h3,h4,h5⟩
  ·exact ⟨by omega,h.2⟩
  ·subst h1;exact ⟨by omega,uF.2 ⟨k,h3,h4,h5⟩⟩
 ·rcases Nat.lt_or_eq_of_le (Nat.le_of_lt_succ h.1) with h1 | h1
  ·exact .inl ⟨h1,h.2⟩
  ·subst h1;obtain ⟨k,h3,h4,h5⟩:=uF.1 h.2;exact .inr ⟨rfl,k,Nat.zero_le _,h3,h4,h5⟩
end
set_option maxRecDepth 100000 in
set_option maxHeartbeats 4000000 in
theorem Nq (w:World) (S:Nat→Nat) (v:Value) (l:List Ev) (hv:RD S w (l9 l) v) (hl:l.length≤1000000) (hval:∀ e,e ∈ l→e.valid=true) :
 Calls Try.prog 73 #[v] w fun e w'=>e=.returned (.slice (some ⟨w.heap.size,0,none⟩) l.length l.length)∧kP w w' l.length (HB l):=by
 have hlen:=hv.len;rw [List.length_map] at hlen;obtain ⟨A,c,rfl,hc,hm⟩:=hlen
 have HI0:∀ (wr:World) (i j:Nat),Below w.heap.size w wr→i < l.length→j < l.length→i < j→Calls Try.prog 104 #[.slice A l.length c,.int .i64 i,.int .i64 j] wr (fun e w'=>e=.returned (.bool (decide (Imm l i j)))∧Below wr.heap.size wr w'):=by
  intro wr i j hb hi hj hij;have hr:=Ev.rW (hval _ (wV hi));have:=Rb _ _ ⟨l,i,j,rfl,⟨hi,hj,hij,hl,hr.2.1.1,hr.2.1.2,hr.2.2.1.1,hr.2.2.1.2⟩,rfl⟩ S wr #[.slice A l.length c,.int .i64 i,.int .i64 j] trivial (RPs.mk3 (hv.bel hb) (RP.mkInt _) (RP.mkInt _));refine this.mono ?_;rintro e w' ⟨v,S',rfl,h1,h2,_⟩;exact ⟨by rw [RP.bool h1],h2⟩
 have HI:=Lib.hid HI0;clear HI0 hv hval;have hmk1:=run_make_row' (P:=Try.prog) 102 104 (.slice none 0 0) 24 Try.underlying102 Try.BL rfl .i64 .i64 l.length (by omega) (by omega)
 go_enter Try.func73,Try.ntmps73
 go_wp2
 go_loopg [4] l.length (fun g i wr=>∃ k:Nat,k≤l.length∧g=l.length - k∧i=.int .i64 k∧DR w wr l.length k)
 case atStart=>exact ⟨0,Nat.zero_le _,rfl,rfl,BK _ _⟩
 case round =>
  obtain ⟨k,hk,rfl,rfl,hG⟩:=hrel;have hsize:=hG.size;have hmk2:=run_make_row' (P:=Try.prog) 104 4 (.bool false) 1 Try.underlying104 Try.Jj rfl .i64 .i64 l.length (by omega) (by omega);have hst1:k < l.length→∀ o,(wr.alloc o).cell? ⟨w.heap.size,k,none⟩=some (OT w.heap.size l.length k k):=fun h o=>(hG.top.alloc o).cell h
  have hst2:∀ o,(wr.alloc o).frozen? ⟨w.heap.size,k,none⟩=false:=fun o=>(hG.top.alloc o).frozen k
  clear hmk1
  go_wp2
  ·have hk':k < l.length:=by assumption
   have hS:=EM hG
   go_roundg (l.length - (k+1))
   case measure=>omega
   case rel=>exact ⟨k+1,by omega,rfl,by go_num,hS⟩
  ·have hkl:k=l.length:=by omega
   subst hkl;have hM0:kP w wr l.length (mA l 0):=Md hG (fun x y h=>Nat.not_lt_zero _ h.1);clear hmk2 hst1 hst2 hsize hG;simp only [Nat.lt_irrefl,decide_false]
   go_loopg [5] l.length (fun g i wr=>∃ j:Nat,j≤l.length∧g=l.length - j∧i=.int .i64 j∧kP w wr l.length (mA l j))
   case atStart=>exact ⟨0,Nat.zero_le _,rfl,rfl,hM0⟩
   case round =>
    obtain ⟨j,hj,rfl,rfl,hM⟩:=hrel;clear hM0
    by_cases hjl:j < l.length
    ·go_wp2
     go_loopg [6] j (fun g i wr=>((g=0∧i=.int .i64 (-1))∨(∃ m:Nat,g=m+1∧i=.int .i64 m))∧g≤j∧kP w wr l.length (mB l j g))
     case atStart =>
      refine ⟨?_,Nat.le_refl _,hM.congr (fun x y _ _=>MP)⟩
      rcases j with _ | j
      ·exact .inl ⟨rfl,by first | rfl | go_num⟩
      ·exact .inr ⟨j,rfl,by go_num⟩
     case round =>
      obtain ⟨hg,hgj,hB⟩:=hrel
      rcases hg with ⟨rfl,rfl⟩ | ⟨i,rfl,rfl⟩
      ·go_wp2
       have hE:=hB.congr (fun x y _ _=>TK)
       go_roundg (l.length - (j+1))
       case measure=>omega
       case rel=>exact ⟨j+1,by omega,rfl,by go_num,hE⟩
      ·have hi0:(0:Int)≤(i:Int):=by omega
       have hCall:=HI.out wr i j hB.bel (by omega) hjl (by omega)
       by_cases him:Imm l i j
       ·rw [decide_eq_true him] at hCall;have HC:=Lib.hid hCall;clear hCall
        go_wp2_with (go_at_call 104;refine HC.out.mono ?_;rintro e w1 ⟨rfl,hb1⟩
                     have hB1:=hB.below hb1;have q1:=hB1.head (i:=i) (by omega);have q2:=(hB1.row i (by omega)).cell hjl;have q3:=(hB1.row i (by omega)).frozen j;have hij:(j:Int) < (l.length:Int):=by omega
                     have hil:(i:Int) < (l.length:Int):=by omega
                     have hS1:=(hB1.set i j).congr (fun x y _ _=>MQ);clear hB hb1 HC)
        clear hB1 q1 q2 q3
        go_loopg [7] i (fun g x wr=>∃ k:Nat,k≤i∧g=i - k∧x=.int .i64 k∧kP w wr l.length (mC l j i k))
        case atStart=>exact ⟨0,Nat.zero_le _,rfl,rfl,hS1⟩
        case round =>
         obtain ⟨k,hk2,rfl,rfl,hC⟩:=hrel;clear hS1
         by_cases hki:k < i
         ·have hk0:(0:Int)≤(k:Int):=by omega
          have hkl:(k:Int) < (l.length:Int):=by omega
          have q1:=hC.head (i:=k) (by omega);have q2:=(hC.row k (by omega)).cell (i:=i) (by omega);have q4:=(hC.row k (by omega)).cell (i:=j) hjl;have q3:=(hC.row k (by omega)).frozen j
          skip
          by_cases hhb:HB l k i
          ·rw [decide_eq_true ((G8 (by omega)).2 hhb)] at q2;have hS2:=(hC.set k j).congr (fun x y _ _=>TM hhb)
           go_wp2
           clear q1 q2 q3 q4
           go_roundg (i - (k+1))
           case measure=>omega
           case rel=>exact ⟨k+1,by omega,rfl,by go_num,hS2⟩
          ·rw [decide_eq_false (fun h=>hhb ((G8 (by omega)).1 h))] at q2;have hS2:=hC.congr (fun x y _ _=>Qr hhb)
           go_wp2
           clear q1 q2 q3 q4
           go_roundg (i - (k+1))
           case measure=>omega
           case rel=>exact ⟨k+1,by omega,rfl,by go_num,hS2⟩
         ·have hki':k=i:=by omega
          subst hki';have hE:=hC.congr (fun x y _ _=>TL (by omega) him)
          go_wp2
          go_roundg k
          case measure=>omega
          case rel =>
           refine ⟨?_,by omega,hE⟩
           rcases k with _ | k
           ·exact .inl ⟨rfl,by first | rfl | go_num⟩
           ·exact .inr ⟨k,rfl,by go_num⟩
       ·rw [decide_eq_false him] at hCall;have HC:=Lib.hid hCall;clear hCall
        go_wp2_with (go_at_call 104;refine HC.out.mono ?_;rintro e w1 ⟨rfl,hb1⟩
                     have hS1:=(hB.below hb1).congr (fun x y _ _=>Qq him);clear hB hb1 HC)
        go_roundg i
        case measure=>omega
        case rel =>
         refine ⟨?_,by omega,hS1⟩
         rcases i with _ | i
         ·exact .inl ⟨rfl,by first | rfl | go_num⟩
         ·exact .inr ⟨i,rfl,by go_num⟩
    ·have hjl':j=l.length:=by omega
     subst hjl'
     go_wp2
     go_ret
     exact ⟨rfl,hM.congr (fun x y _ hy=>⟨fun h=>h.2,fun h=>⟨hy,h⟩⟩)⟩
end Go.Proofs.Ytffcpijeebagfaa
end
section
namespace Go.Proofs.Ytffcpijeebagfaa
open Go Go.RowKit
set_option maxRecDepth 100000
set_option maxHeartbeats 4000000
def sI (ps rs:List Pa):Prop:=∃ (s:RSt) (obj n:Int),ps=[s.pa,pI obj,pI n]∧s.chans.length≤1000000∧rs=[.agg (s.channel obj n).row]
theorem yV:Spec Try.prog 97 sI:=by
 refine sp97 aG.e0 ?_;rintro ps rs ⟨s,obj,n,rfl,hlen,rfl⟩;refine ⟨by simp,?_⟩;unfold pc97;refine aH ?_;simp only [↓evP,evB,stB,Nat.reduceEqDiff,RSt.pa,RSt.row];refine dZ ms97_0 os97_0 (fun m st=>∃ k:Nat,m=s.chans.length - k∧k≤s.chans.length∧(∀ i c,i < k→s.chans[i]? = some c→(c.obj == obj)=false)∧st.sl 7=aI k∧st.ob 6=.cells [.d (dI 0),.d (dI 0),.d (dI 0),.d (dI 0),.d (dB false)]∧st.gen 6=1) s.chans.length ?_ ?_
 ·exact ⟨0,rfl,Nat.zero_le _,fun i c hi=>absurd hi (Nat.not_lt_zero _),by simp only [stB,Nat.reduceEqDiff];rfl,by simp only [stB,Nat.reduceEqDiff],by simp only [stB,Nat.reduceEqDiff]⟩
 ·rintro m j ⟨k,rfl,hk,hno,h7,h6,g6⟩;simp only [stB,reduceIte,seval] at h7 h6 g6
  rcases Nat.lt_or_ge k s.chans.length with hlt | hge
  ·obtain ⟨c,hc⟩:∃ c,s.chans[k]? = some c:=⟨_,List.getElem?_eq_getElem hlt⟩
   simp only [↓evP,evB,stB,reduceIte,reduceCtorEq,seval,h7,h6,g6,hc,RCh.row,pr97];refine ⟨fun _=>⟨fun he=>?_,fun he=>?_⟩,fun h=>absurd hlt (by omega)⟩
   ·unfold RSt.channel;rw [CV hno hc he];rfl
   ·exact ⟨_,by omega,(by repeat' (first | assumption | exact aW.mpr trivial | exact Within.refl _ _ _ | (refine bH ?_ rfl rfl) | (refine bg ?_ rfl))),k+1,rfl,by omega,rY hno hc he,by simp only [stB,reduceIte,seval];rw [wrN (by omega)],by simp only [stB,reduceIte,seval,h6],by simp only [stB,reduceIte,seval,g6]⟩
  ·simp only [↓evP,evB,stB,reduceIte,reduceCtorEq,seval,h7,h6,g6,pr97];refine ⟨fun h=>absurd h (by omega),fun h=>?_⟩;unfold RSt.channel;rw [yF (fun i c hi hc=>hno i c (by omega) hc)];rfl
def mK (ps rs:List Pa):Prop:=∃ (s:RSt) (c:RCh),ps=[s.pa,.agg c.row]∧s.chans.length≤900000∧rs=[(s.bN c).pa]
theorem qL:Spec Try.prog 99 mK:=by
 refine sp99 aG.e0 ?_;rintro ps rs ⟨s,c,rfl,hlen,rfl⟩;refine ⟨by simp,?_⟩;unfold pc99;refine aH ?_;simp only [↓evP,evB,stB,Nat.reduceEqDiff,RSt.pa,RSt.row,RCh.row];refine dZ ms99_0 os99_0 (fun m st=>∃ k:Nat,m=s.chans.length - k∧k≤s.chans.length∧st.sl 6=aI k∧st.gen 5=1∧st.sl 5=.b (.one (.own 5 1 (((s.chans.take k).filter (fun d=>d.obj != c.obj)).map RCh.row)))∧st.ob 5=.row 146 5 ((s.chans.take k).filter (fun d=>d.obj != c.obj)).length) s.chans.length ?_ ?_
 ·exact ⟨0,rfl,Nat.zero_le _,by simp only [stB,Nat.reduceEqDiff];rfl,by simp only [stB,Nat.reduceEqDiff],by simp only [stB,Nat.reduceEqDiff,List.filter_nil],by simp only [stB,Nat.reduceEqDiff,List.filter_nil]⟩
 ·rintro m j ⟨k,rfl,hk,h6,g5,h5,o5⟩;simp only [stB,reduceIte,seval] at h6 g5 h5 o5
  rcases Nat.lt_or_ge k s.chans.length with hlt | hge
  ·obtain ⟨d,hd⟩:∃ d,s.chans[k]? = some d:=⟨_,List.getElem?_eq_getElem hlt⟩
   have hb:((s.chans.take k).filter (fun d=>d.obj != c.obj)).length+1≤1000000:=by have:=nQ s.chans (fun d=>d.obj != c.obj) k;omega
   simp only [↓evP,evB,stB,reduceIte,reduceCtorEq,seval,h6,g5,h5,o5,hd,RCh.row,hb];refine ⟨fun _=>⟨(by unfold Drw;kernel_rfl),fun he=>?_,fun he=>?_⟩,fun h=>absurd hlt (by omega)⟩
   ·exact ⟨_,by omega,(by repeat' (first | assumption | exact aW.mpr trivial | exact Within.refl _ _ _ | (refine bH ?_ rfl rfl) | (refine bg ?_ rfl))),k+1,rfl,by omega,by simp only [stB,reduceIte,seval];rw [wrN (by omega)],by simp only [stB,reduceIte,seval,g5],by simp only [stB,reduceIte,seval,ji hd,he,List.map_append,RCh.row],by simp only [stB,reduceIte,seval,o5,ji hd,he,List.length_append]⟩
   ·exact ⟨_,by omega,(by repeat' (first | assumption | exact aW.mpr trivial | exact Within.refl _ _ _ | (refine bH ?_ rfl rfl) | (refine bg ?_ rfl))),k+1,rfl,by omega,by simp only [stB,reduceIte,seval];rw [wrN (by omega)],by simp only [stB,reduceIte,seval,g5],by simp [stB,reduceIte,seval,h5,ji hd,he],by simp [stB,reduceIte,seval,o5,ji hd,he]⟩
  ·have hkl:k=s.chans.length:=by omega
   subst hkl;rw [List.take_length] at h5 o5;have hb:(s.chans.filter (fun d=>d.obj != c.obj)).length+1≤1000000:=by have:=List.length_filter_le (fun d:RCh=>d.obj != c.obj) s.chans;omega
   simp only [↓evP,evB,stB,reduceIte,reduceCtorEq,seval,h6,g5,h5,o5,hb,pr99];refine ⟨fun h=>absurd h (by omega),fun _=>?_⟩;simp [RSt.bN,RCh.row]
def Oa (ps rs:List Pa):Prop:=∃ (s:RSt) (obj off:Int),ps=[s.pa,pI obj,pI off]∧s.locks.length≤1000000∧rs=[.agg (s.lock obj off).row]
theorem Uo:Spec Try.prog 100 Oa:=by
 refine sp100 aG.e0 ?_;rintro ps rs ⟨s,obj,off,rfl,hlen,rfl⟩;refine ⟨by simp,?_⟩;unfold pc100;refine aH ?_;simp only [↓evP,evB,stB,Nat.reduceEqDiff,RSt.pa,RSt.row];refine dZ ms100_0 os100_0 (fun m st=>∃ k:Nat,m=s.locks.length - k∧k≤s.locks.length∧(∀ i c,i < k→s.locks[i]? = some c→(c.obj == obj && c.off == off)=false)∧st.sl 7=aI k∧st.ob 6=.cells [.d (dI 0),.d (dI 0),.d (dB false),.d (dI 0)]∧st.gen 6=1) s.locks.length ?_ ?_
 ·exact ⟨0,rfl,Nat.zero_le _,fun i c hi=>absurd hi (Nat.not_lt_zero _),by simp only [stB,Nat.reduceEqDiff];rfl,by simp only [stB,Nat.reduceEqDiff],by simp only [stB,Nat.reduceEqDiff]⟩
 ·rintro m j ⟨k,rfl,hk,hno,h7,h6,g6⟩;simp only [stB,reduceIte,seval] at h7 h6 g6
  rcases Nat.lt_or_ge k s.locks.length with hlt | hge
  ·obtain ⟨c,hc⟩:∃ c,s.locks[k]? = some c:=⟨_,List.getElem?_eq_getElem hlt⟩
   simp only [↓evP,evB,stB,reduceIte,reduceCtorEq,seval,h7,h6,g6,hc,RLk.row,pr100];refine ⟨fun _=>⟨fun e1=>⟨fun e2=>?_,fun e2=>?_⟩,fun e1=>?_⟩,fun h=>absurd hlt (by omega)⟩
   ·unfold RSt.lock;rw [CV hno hc (by rw [e1,e2];rfl)];rfl
   ·exact ⟨_,by omega,(by repeat' (first | assumption | exact aW.mpr trivial | exact Within.refl _ _ _ | (refine bH ?_ rfl rfl) | (refine bg ?_ rfl))),k+1,rfl,by omega,rY hno hc (by rw [e2,Bool.and_false]),by simp only [stB,reduceIte,seval];rw [wrN (by omega)],by simp only [stB,reduceIte,seval,h6],by simp only [stB,reduceIte,seval,g6]⟩
   ·exact ⟨_,by omega,(by repeat' (first | assumption | exact aW.mpr trivial | exact Within.refl _ _ _ | (refine bH ?_ rfl rfl) | (refine bg ?_ rfl))),k+1,rfl,by omega,rY hno hc (by rw [e1];rfl),by simp only [stB,reduceIte,seval];rw [wrN (by omega)],by simp only [stB,reduceIte,seval,h6],by simp only [stB,reduceIte,seval,g6]⟩
  ·simp only [↓evP,evB,stB,reduceIte,reduceCtorEq,seval,h7,h6,g6,pr100];refine ⟨fun h=>absurd h (by omega),fun h=>?_⟩;unfold RSt.lock;rw [yF (fun i c hi hc=>hno i c (by omega) hc)];rfl
def yc (ps rs:List Pa):Prop:=∃ (s:RSt) (c:RLk),ps=[s.pa,.agg c.row]∧s.locks.length≤900000∧rs=[(s.dM c).pa]
theorem J3:Spec Try.prog 101 yc:=by
 refine sp101 aG.e0 ?_;rintro ps rs ⟨s,c,rfl,hlen,rfl⟩;refine ⟨by simp,?_⟩;unfold pc101;refine aH ?_;simp only [↓evP,evB,stB,Nat.reduceEqDiff,RSt.pa,RSt.row,RLk.row];refine dZ ms101_0 os101_0 (fun m st=>∃ k:Nat,m=s.locks.length - k∧k≤s.locks.length∧st.sl 6=aI k∧st.gen 5=1∧st.sl 5=.b (.one (.own 5 1 (((s.locks.take k).filter (fun d=>d.obj != c.obj || d.off != c.off)).map RLk.row)))∧st.ob 5=.row 151 4 ((s.locks.take k).filter (fun d=>d.obj != c.obj || d.off != c.off)).length) s.locks.length ?_ ?_
 ·exact ⟨0,rfl,Nat.zero_le _,by simp only [stB,Nat.reduceEqDiff];rfl,by simp only [stB,Nat.reduceEqDiff],by simp only [stB,Nat.reduceEqDiff,List.filter_nil],by simp only [stB,Nat.reduceEqDiff,List.filter_nil]⟩
 ·rintro m j ⟨k,rfl,hk,h6,g5,h5,o5⟩;simp only [stB,reduceIte,seval] at h6 g5 h5 o5
  rcases Nat.lt_or_ge k s.locks.length with hlt | hge
  ·obtain ⟨d,hd⟩:∃ d,s.locks[k]? = some d:=⟨_,List.getElem?_eq_getElem hlt⟩
   have hb:((s.locks.take k).filter (fun d=>d.obj != c.obj || d.off != c.off)).length+1≤1000000:=by have:=nQ s.locks (fun d=>d.obj != c.obj || d.off != c.off) k;omega
   simp only [↓evP,evB,stB,reduceIte,reduceCtorEq,seval,h6,g5,h5,o5,hd,RLk.row,hb];refine ⟨fun _=>?_,fun h=>absurd hlt (by omega)⟩
   repeat' (first | apply And.intro | intro)
   all_goals first
    | (unfold Drw;kernel_rfl)
    | exact ⟨_,by omega,(by repeat' (first | assumption | exact aW.mpr trivial | exact Within.refl _ _ _ | (refine bH ?_ rfl rfl) | (refine bg ?_ rfl))),k+1,rfl,by omega,by simp only [stB,reduceIte,seval];rw [wrN (by omega)],by simp only [stB,reduceIte,seval,g5],by simp [stB,reduceIte,seval,ji hd,RLk.row, *],by simp [stB,reduceIte,seval,ji hd, *]⟩
    | skip
  ·have hkl:k=s.locks.length:=by omega
   subst hkl;rw [List.take_length] at h5 o5;have hb:(s.locks.filter (fun d=>d.obj != c.obj || d.off != c.off)).length+1≤1000000:=by have:=List.length_filter_le (fun d:RLk=>d.obj != c.obj || d.off != c.off) s.locks;omega
   simp only [↓evP,evB,stB,reduceIte,reduceCtorEq,seval,h6,g5,h5,o5,hb,pr101];refine ⟨fun h=>absurd h (by omega),fun _=>?_⟩;simp [RSt.dM,RLk.row]
def N8 (ps rs:List Pa):Prop:=∃ (s:RSt) (obj off:Int),ps=[s.pa,pI obj,pI off]∧s.done.length≤1000000∧rs=[pB (s.isDone obj off)]
theorem Un:Spec Try.prog 102 N8:=by
 refine sp102 aG.e0 ?_;rintro ps rs ⟨s,obj,off,rfl,hlen,rfl⟩;refine ⟨by simp,?_⟩;unfold pc102;refine aH ?_;simp only [↓evP,evB,stB,RSt.pa,RSt.row];refine dZ ms102_0 os102_0 (fun m st=>∃ k:Nat,m=s.done.length - k∧k≤s.done.length∧(∀ i c,i < k→s.done[i]? = some c→(c.1 == obj && c.2 == off)=false)∧st.sl 7=aI k) s.done.length ?_ ?_
 ·exact ⟨0,rfl,Nat.zero_le _,fun i c hi=>absurd hi (Nat.not_lt_zero _),by simp only [stB,Nat.reduceEqDiff];rfl⟩
 ·rintro m j ⟨k,rfl,hk,hno,h7⟩;simp only [stB,reduceIte,seval] at h7
  rcases Nat.lt_or_ge k s.done.length with hlt | hge
  ·obtain ⟨c,hc⟩:∃ c,s.done[k]? = some c:=⟨_,List.getElem?_eq_getElem hlt⟩
   simp only [↓evP,evB,stB,reduceIte,reduceCtorEq,seval,h7,hc,AQ,pr102];refine ⟨fun _=>⟨fun e1=>⟨fun e2=>?_,fun e2=>?_⟩,fun e1=>?_⟩,fun h=>absurd hlt (by omega)⟩
   ·unfold RSt.isDone;rw [List.any_eq_true.2 ⟨c,List.mem_of_getElem? hc,by rw [e1,e2];rfl⟩]
   ·exact ⟨_,by omega,(by repeat' (first | assumption | exact aW.mpr trivial | exact Within.refl _ _ _ | (refine bH ?_ rfl rfl) | (refine bg ?_ rfl))),k+1,rfl,by omega,rY hno hc (by rw [e2,Bool.and_false]),by simp only [stB,reduceIte,seval];rw [wrN (by omega)]⟩
   ·exact ⟨_,by omega,(by repeat' (first | assumption | exact aW.mpr trivial | exact Within.refl _ _ _ | (refine bH ?_ rfl rfl) | (refine bg ?_ rfl))),k+1,rfl,by omega,rY hno hc (by rw [e1];rfl),by simp only [stB,reduceIte,seval];rw [wrN (by omega)]⟩
  ·simp only [↓evP,evB,stB,reduceIte,reduceCtorEq,seval,h7,pr102];refine ⟨fun h=>absurd h (by omega),fun h=>?_⟩;unfold RSt.isDone;rw [KT (fun i c hi hc=>hno i c (by omega) hc)]
def Bq:Env:=e1 97 sI (e1 99 mK e0)
theorem uV:aG Try.prog Bq:=aG.e1 yV (aG.e1 qL aG.e0)
theorem RSt.kR {s:RSt} (h:s.ok) (obj n:Int):(0≤(s.channel obj n).sent∧(s.channel obj n).sent≤1000000)∧(0≤(s.channel obj n).recv∧(s.channel obj n).recv≤1000000):=by
 unfold RSt.channel
 cases hf:s.chans.find? (fun c=>c.obj == obj) with
 | none=>simp
 | some c=>exact h.ch.2 c (List.mem_of_find?_eq_some hf)
def sJ (ps rs:List Pa):Prop:=∃ (s:RSt) (e:Ev),ps=[s.pa,e.pa]∧s.ok∧rs=[(s.counted e).pa]
theorem yX:Spec Try.prog 96 sJ:=by
 refine sp96 uV ?_;rintro ps rs ⟨s,e,rfl,hok,rfl⟩;refine ⟨by simp,?_⟩;obtain ⟨⟨c1,c2⟩,c3,c4⟩:=RSt.kR hok e.obj e.n;unfold pc96;refine aH ?_;simp only [↓evP,evB,stB,reduceIte,seval,RSt.pa,RSt.row,Ev.pa,Ev.row];refine aC [.agg (s.channel e.obj e.n).row] ⟨s,e.obj,e.n,rfl,by have:=hok.ch.1;omega,rfl⟩ ?_
 simp only [↓evP,evB,stB,reduceIte,reduceCtorEq,seval,RCh.row,pr96];refine ⟨fun h15=>?_,fun h15=>⟨fun h17=>?_,fun h17=>?_⟩⟩
 ·rw [pY (by omega) (by omega)]
  refine aC [(s.bN { s.channel e.obj e.n with sent:=(s.channel e.obj e.n).sent+1 }).pa] ⟨s,{ s.channel e.obj e.n with sent:=(s.channel e.obj e.n).sent+1 },rfl,hok.ch.1,rfl⟩ ?_;simp only [↓evP,evB,stB,reduceIte,reduceCtorEq,seval,RSt.pa,RSt.row];unfold RSt.counted RCh.count;rw [if_pos (Or.inl (beq_iff_eq.1 h15)),if_pos (beq_iff_eq.1 h15)]
 ·rw [pY (by omega) (by omega)]
  refine aC [(s.bN { s.channel e.obj e.n with recv:=(s.channel e.obj e.n).recv+1 }).pa] ⟨s,{ s.channel e.obj e.n with recv:=(s.channel e.obj e.n).recv+1 },rfl,hok.ch.1,rfl⟩ ?_;simp only [↓evP,evB,stB,reduceIte,reduceCtorEq,seval,RSt.pa,RSt.row];unfold RSt.counted RCh.count;rw [if_pos (Or.inr (beq_iff_eq.1 h17)),if_neg (beq_eq_false_iff_ne.1 h15),if_pos (beq_iff_eq.1 h17)]
 ·unfold RSt.counted;rw [if_neg (fun h=>h.elim (beq_eq_false_iff_ne.1 h15) (beq_eq_false_iff_ne.1 h17))]
def Gj (ps rs:List Pa):Prop:=∃ (s:RSt) (e:Ev) (next:List RWt),ps=[s.pa,e.pa,.one (.im (next.map RWt.row))]∧(s.ok∧next.length≤900000)∧rs=[(s.begin e next).pa,pB true]
def IK:Env:=e1 96 sJ e0
theorem zx:aG Try.prog IK:=aG.e1 yX aG.e0
theorem Q5:Spec Try.prog 98 Gj:=by
 refine sp98 zx ?_;rintro ps rs ⟨s,e,next,rfl,⟨hok,hn⟩,rfl⟩;refine ⟨by simp,?_⟩;unfold pc98;refine aH ?_;simp only [↓evP,evB,stB,reduceIte,seval,RSt.pa,RSt.row,Ev.pa,Ev.row];refine ⟨(by unfold Drw;kernel_rfl),?_⟩
 refine aC [(s.begin e next).pa] ⟨{ s with next:=next,obj:=e.obj,k:=e.k,n:=e.n },e,rfl,⟨hok.ct,hok.gr,hok.ch,hok.lk,hok.dn,hn⟩,rfl⟩ ?_;simp only [↓evP,evB,stB,reduceIte,reduceCtorEq,seval,RSt.pa,RSt.row,pr98]
def Gm (ps rs:List Pa):Prop:=∃ (s:RSt) (e:Ev),ps=[s.pa,e.pa]∧(s.ok∧s.next≠[])∧rs=[(s.jB e).1.pa,pB (s.jB e).2]
def sU:Env:=e1 96 sJ e0
theorem zy:aG Try.prog sU:=aG.e1 yX aG.e0
theorem vJ {s:RSt} {e:Ev} {w:RWt} {rest:List RWt} (hok:s.ok) (hnx:s.next=w :: rest) (Q:Exit→St→Prop)
 (hQ:∀ st,st.res pr65=some [(RSt.counted { s with next:=rest.map (w.known e.g) } e).pa,pB true]→Q .ret st) (st:St)
 (h2:st.sl 2=.b (.one (.ptr 2 1 0))) (h3:st.sl 3=.b (.one (.ptr 3 1 0))) (h4:st.sl 4=.b (.one (.ptr 4 1 0))) (h6:st.sl 6=.b (.one (.ptr 6 1 0)))
 (g2:st.gen 2=1) (g3:st.gen 3=1) (g4:st.gen 4=1) (g6:st.gen 6=1) (g7:st.gen 7=0)
 (o2:st.ob 2=.cells (s.row.map .d)) (o3:st.ob 3=.cells (e.row.map .d)) (o4:st.ob 4=.cells [.d (dI 0),.d (dI 0),.d (.sc (.slice none 0 0)),.d (.sc (.slice none 0 0)),.d (.sc (.slice none 0 0)),.d (.sc (.slice none 0 0)),.d (dI 0),.d (dI 0),.d (dI 0)]) (o6:st.ob 6=.cells (w.row.map .d)) :
 pwp sU pc65c2 (exS sU [] Q) st:=by
 have hlen:=hok.nx;rw [hnx,List.length_cons] at hlen;simp only [RSt.row,Ev.row,RWt.row,hnx,List.map_cons,List.map_nil] at o2 o3 o4 o6;unfold pc65c2 pc65c1;simp only [↓evP,evB,stB,g7];refine dZ ms65_0 os65_0 (fun m st=>∃ k:Nat,m=rest.length - k∧k≤rest.length∧st.sl 8=aI ((k+1:Nat):Int)∧st.gen 7=1∧st.sl 7=.b (.one (.own 7 1 ((rest.take k).map fun x=>(w.known e.g x).row)))∧st.ob 7=.row 143 3 k) rest.length ?_ ?_
 ·exact ⟨0,rfl,Nat.zero_le _,by simp only [stB,Nat.reduceEqDiff];rfl,by simp only [stB,g7],by simp only [stB,Nat.reduceEqDiff],by simp only [stB]⟩
 ·rintro m j ⟨k,rfl,hk,h8,g7',h7,o7⟩;simp only [stB,reduceIte,seval] at h8 g7' h7 o7
  rcases Nat.lt_or_ge k rest.length with hlt | hge
  ·obtain ⟨d,hd⟩:∃ d,rest[k]? = some d:=⟨_,List.getElem?_eq_getElem hlt⟩
   have hb:k+1≤1000000:=by omega
   have hb2:((k+1:Nat):Int) < ((rest.length+1:Nat):Int):=by omega
   have hb3:((k+1:Nat):Int)≥0:=by omega
   simp only [↓evP,evB,stB,reduceIte,reduceCtorEq,seval,h2,h3,h6,g2,g3,g6,o2,o3,o6,h8,g7',h7,o7,hd,hb,hb2,hb3,RWt.row,List.length_take,Nat.min_eq_left hk]
   have hkn:∀ hw:w.g < 0,∀ hx:d.g < 0,w.known e.g d={ d with g:=e.g }:=fun hw hx=>if_pos ⟨hw,hx⟩
   have hkn2:¬ (w.g < 0∧d.g < 0)→w.known e.g d=d:=fun h=>if_neg h
   refine ⟨fun hw=>⟨fun hx=>?_,fun hx=>?_⟩,fun hw=>?_⟩
   ·exact ⟨_,by omega,(by repeat' (first | assumption | exact aW.mpr trivial | exact Within.refl _ _ _ | (refine bH ?_ rfl rfl) | (refine bg ?_ rfl))),k+1,rfl,by omega,by simp only [stB,reduceIte,seval];rw [wrN (by omega)],by simp only [stB,reduceIte,seval,g7'],by simp only [stB,reduceIte,seval,List.take_add_one,hd,Option.toList_some,List.map_append,hkn hw hx],by simp only [stB,reduceIte,seval,o7]⟩
   ·exact ⟨_,by omega,(by repeat' (first | assumption | exact aW.mpr trivial | exact Within.refl _ _ _ | (refine bH ?_ rfl rfl) | (refine bg ?_ rfl))),k+1,rfl,by omega,by simp only [stB,reduceIte,seval];rw [wrN (by omega)],by simp only [stB,reduceIte,seval,g7'],by simp only [stB,reduceIte,seval,List.take_add_one,hd,Option.toList_some,List.map_append,hkn2 (fun h=>hx h.2)],by simp only [stB,reduceIte,seval,o7]⟩
   ·exact ⟨_,by omega,(by repeat' (first | assumption | exact aW.mpr trivial | exact Within.refl _ _ _ | (refine bH ?_ rfl rfl) | (refine bg ?_ rfl))),k+1,rfl,by omega,by simp only [stB,reduceIte,seval];rw [wrN (by omega)],by simp only [stB,reduceIte,seval,g7'],by simp only [stB,reduceIte,seval,List.take_add_one,hd,Option.toList_some,List.map_append,hkn2 (fun h=>hw h.1)],by simp only [stB,reduceIte,seval,o7]⟩
  ·have hkl:k=rest.length:=by omega
   subst hkl;rw [List.take_length] at h7;have hb2:¬ (((rest.length+1:Nat):Int) < ((rest.length+1:Nat):Int)):=by omega
   unfold pc65c0;simp only [↓evP,evB,stB,reduceIte,seval,h2,h3,g2,g3,o2,o3,h8,h7,hb2]
   refine aC [(RSt.counted { s with next:=rest.map (w.known e.g) } e).pa] ⟨{ s with next:=rest.map (w.known e.g) },e,?_,⟨hok.ct,hok.gr,hok.ch,hok.lk,hok.dn,by simp;omega⟩,rfl⟩ ?_
   ·simp only [RSt.pa,RSt.row,Ev.pa,Ev.row,List.map_map];rfl
   ·simp only [↓evP,evB,stB,reduceIte,seval,RSt.pa,RSt.row,h4,g4,o2,o4];refine hQ _ ?_;simp only [stB,reduceIte,seval,pr65,RSt.pa,RSt.row,h4,g4,o2,o4]
theorem Q9:Spec Try.prog 65 Gm:=by
 refine sp65 zy ?_;rintro ps rs ⟨s,e,rfl,⟨hok,hn⟩,rfl⟩;refine ⟨by simp,?_⟩
 obtain ⟨w,rest,hnx⟩:∃ w rest,s.next=w :: rest:=by cases h:s.next with
  | nil=>exact absurd h hn
  | cons w l=>exact ⟨w,l,rfl⟩
 unfold pc65;refine aH ?_;simp only [↓evP,evB,stB,reduceIte,seval,RSt.pa,RSt.row,Ev.pa,Ev.row,hnx,RWt.row,Int.toNat_zero,Int.le_refl];refine mE [2,3,4,5,6] [2,3,4,6,7] (fun st hs ho=>?_);simp only [stB,reduceIte,seval] at hs ho;obtain ⟨h2,h3,h4,h5,h6⟩:=hs;obtain ⟨⟨g2,o2⟩,⟨g3,o3⟩,⟨g4,o4⟩,⟨g6,o6⟩,g7,o7⟩:=ho;unfold pc65c4 pc65c3
 cases hf:s.fits w e with
 | false =>
   have hg:s.jB e=(s,false):=by unfold RSt.jB;rw [hnx];dsimp only;rw [hf];rfl
   rw [hg];unfold RSt.fits at hf
   cases b1:(e.kind != w.kind) with
   | true=>simp only [↓evP,evB,stB,reduceIte,reduceCtorEq,seval,h2,h3,h4,h6,g2,g3,g4,g6,o2,o3,o4,o6,pr65,hnx,RWt.row,b1]
   | false =>
   cases b2:(e.obj != s.obj) with
   | true=>simp only [↓evP,evB,stB,reduceIte,reduceCtorEq,seval,h2,h3,h4,h6,g2,g3,g4,g6,o2,o3,o4,o6,pr65,hnx,RWt.row,b1,b2]
   | false =>
   cases b3:(e.k != s.k) with
   | true=>simp only [↓evP,evB,stB,reduceIte,reduceCtorEq,seval,h2,h3,h4,h6,g2,g3,g4,g6,o2,o3,o4,o6,pr65,hnx,RWt.row,b1,b2,b3]
   | false =>
   cases b4:(e.n != s.n) with
   | true=>simp only [↓evP,evB,stB,reduceIte,reduceCtorEq,seval,h2,h3,h4,h6,g2,g3,g4,g6,o2,o3,o4,o6,pr65,hnx,RWt.row,b1,b2,b3,b4]
   | false =>
   by_cases b5:w.g≥0
   ·have b6:¬ w.g < 0:=by omega
    cases b7:(e.g != w.g) with
    | true=>simp only [↓evP,evB,stB,reduceIte,reduceCtorEq,seval,h2,h3,h4,h6,g2,g3,g4,g6,o2,o3,o4,o6,decide_true,pr65,hnx,RWt.row,b1,b2,b3,b4,b5,b7]
    | false=>simp [b1,b2,b3,b4,b6,b7] at hf
   ·have b6:w.g < 0:=by omega
    cases b7:(e.g == w.not) with
    | true=>simp only [↓evP,evB,stB,reduceIte,reduceCtorEq,seval,h2,h3,h4,h6,g2,g3,g4,g6,o2,o3,o4,o6,decide_true,decide_false,pr65,hnx,RWt.row,b1,b2,b3,b4,b5,b6,b7]
    | false=>simp [b1,b2,b3,b4,b5,b6,b7] at hf
 | true =>
   have hg:s.jB e=(RSt.counted { s with next:=rest.map (w.known e.g) } e,true):=by unfold RSt.jB;rw [hnx];dsimp only;rw [hf];rfl
   rw [hg];unfold RSt.fits at hf;simp only [Bool.not_eq_true',Bool.or_eq_false_iff] at hf;obtain ⟨⟨b1,b2,b3,b4,b5⟩,b6⟩:=hf
   by_cases q:w.g≥0
   ·have q2:¬ w.g < 0:=by omega
    have b7:(e.g != w.g)=false:=by rw [decide_eq_true (show 0≤w.g from q)] at b5;simpa using b5
    simp only [↓evP,evB,stB,reduceIte,reduceCtorEq,seval,h2,h3,h4,h6,g2,g3,g4,g6,o2,o3,o4,o6,decide_true,decide_false,b1,b2,b3,b4,q,q2,b7]
    exact vJ hok hnx _ (fun st' h=>⟨.inr rfl,h⟩) _ (by simp only [stB,reduceIte,seval,h2]) (by simp only [stB,reduceIte,seval,h3]) (by simp only [stB,reduceIte,seval,h4]) (by simp only [stB,reduceIte,seval,h6]) (by simp only [stB,seval,g2]) (by simp only [stB,seval,g3]) (by simp only [stB,seval,g4]) (by simp only [stB,seval,g6]) (by simp only [stB,seval,g7])
     (by simp only [stB,seval,o2,RSt.row,hnx,RWt.row]) (by simp only [stB,seval,o3,Ev.row]) (by simp only [stB,seval,o4]) (by simp only [stB,seval,o6,RWt.row])
   ·have q2:w.g < 0:=by omega
    have b7:(e.g == w.not)=false:=by rw [decide_eq_true q2] at b6;simpa using b6
    simp only [↓evP,evB,stB,reduceIte,reduceCtorEq,seval,h2,h3,h4,h6,g2,g3,g4,g6,o2,o3,o4,o6,decide_true,decide_false,b1,b2,b3,b4,q,q2,b7]
    exact vJ hok hnx _ (fun st' h=>⟨.inr rfl,h⟩) _ (by simp only [stB,reduceIte,seval,h2]) (by simp only [stB,reduceIte,seval,h3]) (by simp only [stB,reduceIte,seval,h4]) (by simp only [stB,reduceIte,seval,h6]) (by simp only [stB,seval,g2]) (by simp only [stB,seval,g3]) (by simp only [stB,seval,g4]) (by simp only [stB,seval,g6]) (by simp only [stB,seval,g7])
     (by simp only [stB,seval,o2,RSt.row,hnx,RWt.row]) (by simp only [stB,seval,o3,Ev.row]) (by simp only [stB,seval,o4]) (by simp only [stB,seval,o6,RWt.row])
theorem eP {a b:Int} (h:(a == b)=false):¬ a=b:=beq_eq_false_iff_ne.1 h
theorem RSt.zY {s:RSt} (h:s.ok) (obj off:Int):0≤(s.lock obj off).readers∧(s.lock obj off).readers≤1000000:=by
 unfold RSt.lock
 cases hf:s.locks.find? (fun c=>c.obj == obj && c.off == off) with
 | none=>simp
 | some c=>exact h.lk.2 c (List.mem_of_find?_eq_some hf)
def Gn (ps rs:List Pa):Prop:=∃ (s:RSt) (e:Ev),ps=[s.pa,e.pa]∧s.ok∧rs=[(s.eY e).1.pa,pB (s.eY e).2]
def IQ:Env:=e1 100 Oa (e1 101 yc (e1 102 N8 e0))
theorem zB:aG Try.prog IQ:=aG.e1 Uo (aG.e1 J3 (aG.e1 Un aG.e0))
theorem Rf:Spec Try.prog 68 Gn:=by
 refine sp68 zB ?_;rintro ps rs ⟨s,e,rfl,hok,rfl⟩;refine ⟨by simp,?_⟩;obtain ⟨c3,c4⟩:=RSt.zY hok e.obj e.off;unfold pc68;refine aH ?_;simp only [↓evP,evB,stB,reduceIte,seval,RSt.pa,RSt.row,Ev.pa,Ev.row];refine aC [.agg (s.lock e.obj e.off).row] ⟨s,e.obj,e.off,rfl,by have:=hok.lk.1;omega,rfl⟩ ?_
 cases k6:(e.kind == 6) with
 | true =>
   have hg:s.eY e=(s.dM { s.lock e.obj e.off with locked:=true },!(s.lock e.obj e.off).locked && (s.lock e.obj e.off).readers == 0):=by unfold RSt.eY;rw [if_pos (beq_iff_eq.1 k6)]
   rw [hg];simp only [↓evP,evB,stB,reduceIte,reduceCtorEq,seval,RLk.row,pr68,k6]
   refine bQ [(s.dM { s.lock e.obj e.off with locked:=true }).pa] ⟨s,{ s.lock e.obj e.off with locked:=true },rfl,hok.lk.1,rfl⟩ ?_
   cases b1:(s.lock e.obj e.off).locked with
   | true =>
     simp only [↓evP,evB,stB,reduceIte,reduceCtorEq,seval,RSt.pa,RSt.row]
     (unfold Drw;kernel_rfl)
   | false =>
     simp only [↓evP,evB,stB,reduceIte,reduceCtorEq,seval,RSt.pa,RSt.row]
     (unfold Drw;kernel_rfl)
 | false =>
 cases k7:(e.kind == 7) with
 | true =>
   have hg:s.eY e=(s.dM { s.lock e.obj e.off with locked:=false },(s.lock e.obj e.off).locked):=by unfold RSt.eY;rw [if_neg (eP k6),if_pos (beq_iff_eq.1 k7)]
   rw [hg];simp only [↓evP,evB,stB,reduceIte,reduceCtorEq,seval,RLk.row,pr68,k6,k7]
   refine aC [(s.dM { s.lock e.obj e.off with locked:=false }).pa] ⟨s,{ s.lock e.obj e.off with locked:=false },rfl,hok.lk.1,rfl⟩ ?_;simp only [↓evP,evB,stB,reduceIte,reduceCtorEq,seval,RSt.pa,RSt.row,Bool.not_not]
 | false =>
 cases k8:(e.kind == 8) with
 | true =>
   have hg:s.eY e=(s.dM { s.lock e.obj e.off with readers:=(s.lock e.obj e.off).readers+1 },!(s.lock e.obj e.off).locked):=by unfold RSt.eY;rw [if_neg (eP k6),if_neg (eP k7),if_pos (beq_iff_eq.1 k8)]
   rw [hg];simp only [↓evP,evB,stB,reduceIte,reduceCtorEq,seval,RLk.row,pr68,k6,k7,k8];rw [pY (by omega) (by omega)]
   refine aC [(s.dM { s.lock e.obj e.off with readers:=(s.lock e.obj e.off).readers+1 }).pa] ⟨s,{ s.lock e.obj e.off with readers:=(s.lock e.obj e.off).readers+1 },rfl,hok.lk.1,rfl⟩ ?_;simp only [↓evP,evB,stB,reduceIte,reduceCtorEq,seval,RSt.pa,RSt.row]
 | false =>
 cases k9:(e.kind == 9) with
 | true =>
   have hg:s.eY e=(s.dM { s.lock e.obj e.off with readers:=(s.lock e.obj e.off).readers - 1 },decide (0≤(s.lock e.obj e.off).readers - 1)):=by unfold RSt.eY;rw [if_neg (eP k6),if_neg (eP k7),if_neg (eP k8),if_pos (beq_iff_eq.1 k9)]
   rw [hg];simp only [↓evP,evB,stB,reduceIte,reduceCtorEq,seval,RLk.row,pr68,k6,k7,k8,k9];rw [pY (by omega) (by omega)]
   refine bQ [(s.dM { s.lock e.obj e.off with readers:=(s.lock e.obj e.off).readers - 1 }).pa] ⟨s,{ s.lock e.obj e.off with readers:=(s.lock e.obj e.off).readers - 1 },rfl,hok.lk.1,rfl⟩ ?_;simp only [↓evP,evB,stB,reduceIte,reduceCtorEq,seval,RSt.pa,RSt.row]
   (unfold Drw;kernel_rfl)
 | false =>
 cases k12:(e.kind == 12) with
 | true =>
   have hg:s.eY e=({ s with done:=s.done ++ [(e.obj,e.off)] },!s.isDone e.obj e.off):=by unfold RSt.eY;rw [if_neg (eP k6),if_neg (eP k7),if_neg (eP k8),if_neg (eP k9),if_pos (beq_iff_eq.1 k12)]
   rw [hg];simp only [↓evP,evB,stB,reduceIte,reduceCtorEq,seval,RLk.row,pr68,k6,k7,k8,k9,k12];refine aC [pB (s.isDone e.obj e.off)] ⟨s,e.obj,e.off,rfl,by have:=hok.dn;omega,rfl⟩ ?_
   have hd1:s.done.length≤1000000:=by have:=hok.dn;omega
   have hd2:s.done.length+1≤1000000:=by have:=hok.dn;omega
   simp only [↓evP,evB,stB,reduceIte,reduceCtorEq,seval,xq (f:=AQ) (n:=2) (fun _=>rfl) s.done,hd1,hd2];refine ⟨(by unfold Drw;kernel_rfl),?_⟩
   simp only [stB,seval,List.map_append,AQ]
 | false =>
 cases k13:(e.kind == 13) with
 | true =>
   have hg:s.eY e=(s,s.isDone e.obj e.off):=by unfold RSt.eY;rw [if_neg (eP k6),if_neg (eP k7),if_neg (eP k8),if_neg (eP k9),if_neg (eP k12),if_pos (beq_iff_eq.1 k13)]
   rw [hg];simp only [↓evP,evB,stB,reduceIte,reduceCtorEq,seval,RLk.row,pr68,k6,k7,k8,k9,k12,k13];refine bQ [pB (s.isDone e.obj e.off)] ⟨s,e.obj,e.off,rfl,by have:=hok.dn;omega,rfl⟩ ?_
   simp only [↓evP,evB,stB,reduceIte,reduceCtorEq,seval]
   (unfold Drw;kernel_rfl)
 | false =>
 cases k14:(e.kind == 14) with
 | true =>
   have hg:s.eY e=({ s with gor:=s.gor+1 },e.k == s.gor):=by unfold RSt.eY;rw [if_neg (eP k6),if_neg (eP k7),if_neg (eP k8),if_neg (eP k9),if_neg (eP k12),if_neg (eP k13),if_pos (beq_iff_eq.1 k14)]
   rw [hg];simp only [↓evP,evB,stB,reduceIte,reduceCtorEq,seval,RLk.row,pr68,k6,k7,k8,k9,k12,k13,k14];rw [pY (by have:=hok.gr;omega) (by have:=hok.gr;omega)]
   simp only [RSt.pa];exact ⟨(by unfold Drw;kernel_rfl),trivial⟩
 | false =>
   have hg:s.eY e=(s,true):=by unfold RSt.eY;rw [if_neg (eP k6),if_neg (eP k7),if_neg (eP k8),if_neg (eP k9),if_neg (eP k12),if_neg (eP k13),if_neg (eP k14)]
   rw [hg];simp only [↓evP,evB,stB,reduceIte,reduceCtorEq,seval,RLk.row,pr68,k6,k7,k8,k9,k12,k13,k14]
end Go.Proofs.Ytffcpijeebagfaa
end
