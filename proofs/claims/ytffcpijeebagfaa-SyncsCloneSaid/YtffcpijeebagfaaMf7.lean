/- A valid list: the numbers of its channel events; no program in sight. -/
import Derived.Test.YtffcpijeebagfaaMf6
import Derived.OwnWalk
import Derived.LoopTactic
import Derived.Deep.OwnRows
import Derived.Deep.LoopGhost
set_option linter.unusedSimpArgs false
set_option linter.unusedVariables false
section
namespace Go.Proofs.Ytffcpijeebagfaa
open Go
section
variable {l:List Ev} (hc:chk l=l.length)
include hc
theorem gk_at {n:Nat} (hn:n≤l.length):GK (tsAt l n):=by
 induction n with
 | zero=>exact GK.new
 | succ n ih =>
   obtain ⟨⟨r,hr⟩,hw,hb⟩:=tsAt_good hc (n:=n) (by omega);exact (ih (by omega)).add hr hb (tsAt_succ hc hn)
theorem cnt_at {j:Nat} (hj:j < l.length):TCnt (tsAt l j) (tsAt l (j+1)) (evAt l j):=by
 obtain ⟨⟨r,hr⟩,hw,hb⟩:=tsAt_good hc (n:=j) (by omega);exact (bal_add hr hb (tsAt_succ hc hj)).2.1
theorem at15 {j:Nat} (hj:j < l.length) (hk:(evAt l j).kind=15):(evAt l j).k=(tsAt l j).sentOf (evAt l j).obj:=by
 obtain ⟨⟨r,hr⟩,hw,hb⟩:=tsAt_good hc (n:=j) (by omega);obtain ⟨hv,v,_,hcs⟩:=add_cases (tsAt_succ hc hj);have hG:=gk_at hc (n:=j) (by omega)
 rcases hcs with ⟨ho,hp⟩ | ⟨ho,_,hp⟩ | ⟨ho,hcb,hp⟩
 ·unfold TS.proceed at hp;split at hp
  ·rename_i hf;unfold Grp.fits at hf;simp only [Bool.and_eq_true,decide_eq_true_eq] at hf;obtain ⟨⟨h1,h2,h3,h4⟩,_⟩:=hf;rw [h3,h2];refine (hG.a ho ?_).symm;rw [hk] at h1
   rcases hG.sh with q | q | q | q | q | q <;> rw [q] at h1 ⊢ <;> simp at h1 ⊢
  ·cases hp
 ·unfold TS.operate at hp;dsimp only at hp;rw [←(chan_sent (t:=tsAt l j) (evAt l j)).1];split at hp
  ·cases hp
  rw [if_neg (by rw [hk];decide),if_neg (by rw [hk];decide)] at hp
  split at hp
  ·cases hp
  ·rename_i hcond;rw [not_or] at hcond;exact Classical.not_not.1 hcond.2
 ·unfold chanB at hcb;have:=of_decide_eq_false hcb;omega
theorem at17 {j:Nat} (hj:j < l.length) (hk:(evAt l j).kind=17):(evAt l j).k=(tsAt l j).recvOf (evAt l j).obj:=by
 obtain ⟨⟨r,hr⟩,hw,hb⟩:=tsAt_good hc (n:=j) (by omega);obtain ⟨hv,v,_,hcs⟩:=add_cases (tsAt_succ hc hj);have hG:=gk_at hc (n:=j) (by omega)
 rcases hcs with ⟨ho,hp⟩ | ⟨ho,_,hp⟩ | ⟨ho,hcb,hp⟩
 ·unfold TS.proceed at hp;split at hp
  ·rename_i hf;unfold Grp.fits at hf;simp only [Bool.and_eq_true,decide_eq_true_eq] at hf;obtain ⟨⟨h1,h2,h3,h4⟩,_⟩:=hf;rw [h3,h2];refine (hG.c ho ?_).symm;rw [hk] at h1
   rcases hG.sh with q | q | q | q | q | q <;> rw [q] at h1 ⊢ <;> simp at h1 ⊢
  ·cases hp
 ·unfold TS.operate at hp;dsimp only at hp;rw [←(chan_sent (t:=tsAt l j) (evAt l j)).2];split at hp
  ·cases hp
  rw [if_neg (by rw [hk];decide),if_neg (by rw [hk];decide),if_neg (by rw [hk];decide)] at hp
  split at hp
  ·cases hp
  ·rename_i hcond;exact Classical.not_not.1 hcond
 ·unfold chanB at hcb;have:=of_decide_eq_false hcb;omega
theorem at_end {j:Nat} (hj:j < l.length) (hk:(evAt l j).kind=16∨(evAt l j).kind=18) :
 (tsAt l j).isOpen=true∧(evAt l j).kind=(tsAt l j).grp.kinds.headD 0∧(evAt l j).obj=(tsAt l j).grp.obj∧(evAt l j).k=(tsAt l j).grp.k∧(evAt l j).n=(tsAt l j).grp.n:=by
 obtain ⟨hv,v,_,hcs⟩:=add_cases (tsAt_succ hc hj)
 rcases hcs with ⟨ho,hp⟩ | ⟨ho,_,hp⟩ | ⟨ho,hcb,hp⟩
 ·unfold TS.proceed at hp;split at hp
  ·rename_i hf;unfold Grp.fits at hf;simp only [Bool.and_eq_true,decide_eq_true_eq] at hf;exact ⟨ho,hf.1⟩
  ·cases hp
 ·unfold TS.operate at hp;dsimp only at hp;split at hp
  ·cases hp
  rw [if_neg (by omega),if_neg (by omega),if_neg (by omega),if_neg (by omega)] at hp;cases hp
 ·unfold chanB at hcb;have:=of_decide_eq_false hcb;omega
theorem at18 {j:Nat} (hj:j < l.length) (hk:(evAt l j).kind=18):(evAt l j).k < (tsAt l j).sentOf (evAt l j).obj∧(tsAt l j).sentOf (evAt l j).obj≤(evAt l j).k+(evAt l j).n+1:=by
 obtain ⟨ho,h1,h2,h3,h4⟩:=at_end hc hj (.inr hk);obtain ⟨⟨r,hr⟩,hw,hb⟩:=tsAt_good hc (n:=j) (by omega);have hG:=gk_at hc (n:=j) (by omega);obtain ⟨c,hcc,hcap⟩:=hb.op ho;have ha:=hb.a _ _ hcc;have hbb:=hb.b _ _ hcc;have es:(tsAt l j).sentOf (tsAt l j).grp.obj=c.sent:=by unfold TS.sentOf;rw [hcc];rfl
 have er:(tsAt l j).recvOf (tsAt l j).grp.obj=c.recv:=by unfold TS.recvOf;rw [hcc];rfl
 rw [hk] at h1;have w1:(tsAt l j).w15 (tsAt l j).grp.obj=0:=if_neg (fun q=>by have:=q.2;omega)
 have w2:(tsAt l j).w17 (tsAt l j).grp.obj=0:=if_neg (fun q=>by have:=q.2;omega)
 have hd:=hG.d ho (by rcases hG.sh with q | q | q | q | q | q <;> rw [q] at h1 ⊢ <;> simp at h1 ⊢) (by rcases hG.sh with q | q | q | q | q | q <;> rw [q] at h1 ⊢ <;> simp at h1 ⊢)
 rw [h2,h3,h4,es];omega
theorem at16 {j:Nat} (hj:j < l.length) (hk:(evAt l j).kind=16):(evAt l j).k - (evAt l j).n < (tsAt l j).recvOf (evAt l j).obj∧(tsAt l j).recvOf (evAt l j).obj≤(evAt l j).k+1:=by
 obtain ⟨ho,h1,h2,h3,h4⟩:=at_end hc hj (.inl hk);obtain ⟨⟨r,hr⟩,hw,hb⟩:=tsAt_good hc (n:=j) (by omega);have hG:=gk_at hc (n:=j) (by omega);obtain ⟨c,hcc,hcap⟩:=hb.op ho;have ha:=hb.a _ _ hcc;have hbb:=hb.b _ _ hcc;have es:(tsAt l j).sentOf (tsAt l j).grp.obj=c.sent:=by unfold TS.sentOf;rw [hcc];rfl
 have er:(tsAt l j).recvOf (tsAt l j).grp.obj=c.recv:=by unfold TS.recvOf;rw [hcc];rfl
 rw [hk] at h1;have w1:(tsAt l j).w15 (tsAt l j).grp.obj=0:=if_neg (fun q=>by have:=q.2;omega)
 have w2:(tsAt l j).w17 (tsAt l j).grp.obj=0:=if_neg (fun q=>by have:=q.2;omega)
 have hd:=hG.b ho (by rcases hG.sh with q | q | q | q | q | q <;> rw [q] at h1 ⊢ <;> simp at h1 ⊢) (by rcases hG.sh with q | q | q | q | q | q <;> rw [q] at h1 ⊢ <;> simp at h1 ⊢)
 rw [h2,h3,h4,er];omega
theorem sent_ev {j:Nat} (hj:j≤l.length) {x:Int}:0≤(tsAt l j).sentOf x∧∀ K:Int,0≤K→K < (tsAt l j).sentOf x→∃ i,i < j∧(evAt l i).kind=15∧(evAt l i).obj=x∧(evAt l i).k=K:=by
 induction j with
 | zero=>exact ⟨Int.le_refl _,fun K h0 h1=>by rw [show (tsAt l 0).sentOf x=0 from rfl] at h1;omega⟩
 | succ j ih =>
   obtain ⟨ih0,ih⟩:=ih (by omega);have hs:=(cnt_at hc (j:=j) hj).s x;refine ⟨by rw [hs];split <;> omega,fun K h0 h1=>?_⟩
   rw [hs] at h1;split at h1
   ·rename_i hq
    by_cases hK:K < (tsAt l j).sentOf x
    ·obtain ⟨i,q1,q2⟩:=ih K h0 hK;exact ⟨i,by omega,q2⟩
    ·refine ⟨j,Nat.lt_succ_self _,hq.2,hq.1,?_⟩;rw [at15 hc hj hq.2,hq.1];omega
   ·obtain ⟨i,q1,q2⟩:=ih K h0 (by omega);exact ⟨i,by omega,q2⟩
theorem rcv_ev {j:Nat} (hj:j≤l.length) {x:Int}:0≤(tsAt l j).recvOf x∧∀ K:Int,0≤K→K < (tsAt l j).recvOf x→∃ i,i < j∧(evAt l i).kind=17∧(evAt l i).obj=x∧(evAt l i).k=K:=by
 induction j with
 | zero=>exact ⟨Int.le_refl _,fun K h0 h1=>by rw [show (tsAt l 0).recvOf x=0 from rfl] at h1;omega⟩
 | succ j ih =>
   obtain ⟨ih0,ih⟩:=ih (by omega);have hs:=(cnt_at hc (j:=j) hj).r x;refine ⟨by rw [hs];split <;> omega,fun K h0 h1=>?_⟩
   rw [hs] at h1;split at h1
   ·rename_i hq
    by_cases hK:K < (tsAt l j).recvOf x
    ·obtain ⟨i,q1,q2⟩:=ih K h0 hK;exact ⟨i,by omega,q2⟩
    ·refine ⟨j,Nat.lt_succ_self _,hq.2,hq.1,?_⟩;rw [at17 hc hj hq.2,hq.1];omega
   ·obtain ⟨i,q1,q2⟩:=ih K h0 (by omega);exact ⟨i,by omega,q2⟩
end
def tabTo (l:List Ev):Nat→TabP
 | 0=>.new
 | j+1=>((tabTo l j).adv (evAt l j)).2
structure Ups (l:List Ev) (j:Nat) (P:Nat→Prop) (x:Ck):Prop where
 len:x.length=8
 up:∀ c:Int,1≤c→∀ k,k < 8→(c≤x.getD k 0↔∃ i,i < j∧P i∧c≤(stp l i).getD k 0)
section
variable {l:List Ev} {j:Nat} {P Q:Nat→Prop} {x y:Ck}
theorem Ups.zero (h:∀ i,i < j→¬ P i):Ups l j P ckZ :=
 ⟨rfl,fun c hc k _=>by rw [ckZ_get];exact ⟨fun h=>by omega,fun ⟨i,hi,hp,_⟩=>absurd hp (h i hi)⟩⟩
theorem Ups.one {a:Nat} (ha:a < j) (h:∀ i,i < j→(P i↔i=a)):Ups l j P (stp l a) :=
 ⟨stp_len,fun c _ k _=>⟨fun q=>⟨a,ha,(h a ha).2 rfl,q⟩,fun ⟨i,hi,hp,q⟩=>by rw [(h i hi).1 hp] at q;exact q⟩⟩
theorem Ups.succ (h:Ups l j P x) (hn:¬ P j) (hq:∀ i,i < j→(Q i↔P i)) (hj:¬ Q j):Ups l (j+1) Q x :=
 ⟨h.len,fun c hc k hk=>(h.up c hc k hk).trans ⟨fun ⟨i,hi,hp,q⟩=>⟨i,by omega,(hq i hi).2 hp,q⟩,fun ⟨i,hi,hp,q⟩=>by
  rcases Nat.lt_or_eq_of_le (Nat.le_of_lt_succ hi) with h1 | h1
  ·exact ⟨i,h1,(hq i h1).1 hp,q⟩
  ·rw [h1] at hp;exact absurd hp hj⟩⟩
theorem max_le (c:Int) {a b:Ck} (ha:a.length=8) (hb:b.length=8) {k:Nat} (hk:k < 8):c≤(joinC a b).getD k 0↔c≤a.getD k 0∨c≤b.getD k 0:=by
 rw [getD_join ha hb hk];split <;> omega
theorem Ups.snoc (h:Ups l j P x) (hj:P j):Ups l (j+1) P (joinC x (stp l j)) :=
 ⟨joinC_length h.len stp_len,fun c hc k hk=>by
  rw [max_le c h.len stp_len hk,h.up c hc k hk];refine ⟨fun q=>q.elim (fun ⟨i,hi,hp,q⟩=>⟨i,by omega,hp,q⟩) (fun q=>⟨j,by omega,hj,q⟩),fun ⟨i,hi,hp,q⟩=>?_⟩
  rcases Nat.lt_or_eq_of_le (Nat.le_of_lt_succ hi) with h1 | h1
  ·exact .inl ⟨i,h1,hp,q⟩
  ·rw [h1] at q;exact .inr q⟩
end
def relK (k:Int):Option Int:=if k=7 then some 0 else if k=9 then some 1 else if k=10 then some 2 else if k=12 then some 3 else if k=19 then some 5 else none
def InF (l:List Ev) (k x y:Int) (i:Nat):Prop:=relK (evAt l i).kind=some k∧(evAt l i).obj=x∧(evAt l i).off=y
def InB (l:List Ev) (x y:Int) (i:Nat):Prop:=((evAt l i).kind=4∨(evAt l i).kind=5)∧(evAt l i).obj=x∧(evAt l i).off=y
def InA (l:List Ev) (j:Nat) (x y:Int) (i:Nat):Prop:=InB l x y i∧∀ m,i < m→m < j→¬ InB l x y m
def RingH (l:List Ev) (j:Nat) (kd:Int) (cnt:TS→Int→Int) (o:Int) (s:List Ck):Prop :=
 ∀ i,i < j→(evAt l i).kind=kd→(evAt l i).obj=o→cnt (tsAt l j) o≤(evAt l i).k+(s.length:Int)→s.getD (slotOf (evAt l i).k s) ckZ=stp l i
structure TInv (l:List Ev) (j:Nat) (p:TabP):Prop where
 cl:p.ck.length=8
 ck:∀ g:Int,0≤g→g < 8→p.ck.getD g.toNat ckZ=if (runTo l j).cur.getD g.toNat ckZ=ckZ then (runTo l j).birth.getD g.toNat ckZ else (runTo l j).cur.getD g.toNat ckZ
 f:∀ k x y,k≠4→Ups l j (InF l k x y) ((p.f k x y).getD ckZ)
 fs:∀ k x y,k≠4→((p.f k x y).isSome=true↔∃ i,i < j∧InF l k x y i)
 f4:∀ x y,Ups l j (InA l j x y) ((p.f 4 x y).getD ckZ)
 f4s:∀ x y,(p.f 4 x y).isSome=true↔∃ i,i < j∧InB l x y i
 gs:∀ o,(p.g o).isSome=true↔∃ i,i < j∧((evAt l i).kind=15∨(evAt l i).kind=17)∧(evAt l i).obj=o
 gn:∀ o v,p.g o=some v→∀ i,i < l.length→chanB (evAt l i).kind=true→(evAt l i).obj=o→v.1.length=((evAt l i).n+1).toNat∧v.2.length=((evAt l i).n+1).toNat
 g1:∀ o v,p.g o=some v→RingH l j 15 TS.sentOf o v.1
 g2:∀ o v,p.g o=some v→RingH l j 17 TS.recvOf o v.2
theorem tinv_new (l:List Ev):TInv l 0 .new:=by
 refine ⟨rfl,fun g h0 h8=>?_,fun k x y _=>Ups.zero (fun i hi=>by omega),fun k x y _=>⟨fun h=>(by cases h),fun ⟨i,hi,_⟩=>by omega⟩,fun x y=>Ups.zero (fun i hi=>by omega),fun x y=>⟨fun h=>(by cases h),fun ⟨i,hi,_⟩=>by omega⟩,fun o=>⟨fun h=>(by cases h),fun ⟨i,hi,_⟩=>by omega⟩,fun o v h=>(by cases h),fun o v h=>(by cases h),fun o v h=>(by cases h)⟩
 show (List.replicate 8 ckZ).getD g.toNat ckZ=if (List.replicate 8 ckZ).getD g.toNat ckZ=ckZ then (List.replicate 8 ckZ).getD g.toNat ckZ else (List.replicate 8 ckZ).getD g.toNat ckZ
 split <;> rfl
theorem slot_eq {k:Int} {s:List Ck} (hk:0≤k):slotOf k s=(k % (s.length:Int)).toNat:=by
 unfold slotOf;rw [Int.tmod_eq_emod_of_nonneg hk]
theorem slot_lt {k:Int} {s:List Ck} (hk:0≤k) (hs:0 < s.length):slotOf k s < s.length:=by
 rw [slot_eq hk];have:=Int.emod_lt_of_pos k (show (0:Int) < (s.length:Int) by omega);have:=Int.emod_nonneg k (show (s.length:Int)≠0 by omega);omega
theorem slot_ne {a b:Int} {s:List Ck} (ha:0≤a) (hab:a < b) (hb:b < a+(s.length:Int)):slotOf a s≠slotOf b s:=by
 rw [slot_eq ha,slot_eq (by omega)];have h0:(s.length:Int)≠0:=by omega
 have h1:=Int.emod_nonneg a h0;have h2:=Int.emod_nonneg b h0;intro h;have h3:a % (s.length:Int)=b % (s.length:Int):=by omega
 have h4:(s.length:Int) ∣ b - a:=Int.dvd_of_emod_eq_zero (by rw [Int.sub_emod,h3,Int.sub_self];exact Int.zero_emod _)
 have:=Int.le_of_dvd (by omega) h4;omega
theorem admit_g {t u:TS} {e:Ev} (h:t.add e=some u):e.g < t.gor:=by
 unfold TS.add at h;split at h
 ·rename_i ha;unfold TS.admits at ha;simp only [Bool.and_eq_true,decide_eq_true_eq] at ha;exact ha.2
 ·cases h
section
variable {l:List Ev} (hc:chk l=l.length)
include hc
theorem go_new {j:Nat} (hj:j < l.length) (hk:(evAt l j).kind=14):cntG l (evAt l j).k j=0∧(evAt l j).k≠(evAt l j).g:=by
 obtain ⟨⟨r,hr⟩,_,_⟩:=tsAt_good hc (n:=j) (by omega);have h1:=((add_gor hr (tsAt_succ hc hj)).2 hk).1;refine ⟨cntG_none (fun i hi=>?_),?_⟩
 ·have h2:=admit_g (tsAt_succ hc (n:=i) (by omega));have h3:=tsAt_gor hc (m:=i) (n:=j) (by omega) (by omega);omega
 ·have:=admit_g (tsAt_succ hc hj);omega
theorem sent_mono {i j:Nat} (hij:i≤j) (hj:j≤l.length) (o:Int):(tsAt l i).sentOf o≤(tsAt l j).sentOf o∧(tsAt l i).recvOf o≤(tsAt l j).recvOf o:=by
 induction j with
 | zero=>have:i=0:=by omega
         subst this;exact ⟨Int.le_refl _,Int.le_refl _⟩
 | succ j ih =>
   rcases Nat.lt_or_eq_of_le hij with h | h
   ·obtain ⟨h1,h2⟩:=ih (by omega) (by omega);have h3:=(cnt_at hc (j:=j) hj).s o;have h4:=(cnt_at hc (j:=j) hj).r o;refine ⟨?_,?_⟩
    ·rw [h3];split <;> omega
    ·rw [h4];split <;> omega
   ·subst h;exact ⟨Int.le_refl _,Int.le_refl _⟩
theorem sent_lt {i j:Nat} (hij:i < j) (hj:j≤l.length) (hk:(evAt l i).kind=15):(evAt l i).k < (tsAt l j).sentOf (evAt l i).obj:=by
 have h1:=at15 hc (j:=i) (by omega) hk;have h2:=(cnt_at hc (j:=i) (by omega)).s (evAt l i).obj;rw [if_pos ⟨rfl,hk⟩] at h2;have h3:=(sent_mono hc (i:=i+1) (j:=j) hij hj (evAt l i).obj).1;omega
theorem recv_lt {i j:Nat} (hij:i < j) (hj:j≤l.length) (hk:(evAt l i).kind=17):(evAt l i).k < (tsAt l j).recvOf (evAt l i).obj:=by
 have h1:=at17 hc (j:=i) (by omega) hk;have h2:=(cnt_at hc (j:=i) (by omega)).r (evAt l i).obj;rw [if_pos ⟨rfl,hk⟩] at h2;have h3:=(sent_mono hc (i:=i+1) (j:=j) hij hj (evAt l i).obj).2;omega
end
theorem relK_iff {k m:Int}:relK k=some m↔(k=7∧m=0)∨(k=9∧m=1)∨(k=10∧m=2)∨(k=12∧m=3)∨(k=19∧m=5):=by
 unfold relK
 by_cases k7:k=7
 ·rw [if_pos k7,Option.some.injEq];omega
 by_cases k9:k=9
 ·rw [if_neg k7,if_pos k9,Option.some.injEq];omega
 by_cases k10:k=10
 ·rw [if_neg k7,if_neg k9,if_pos k10,Option.some.injEq];omega
 by_cases k12:k=12
 ·rw [if_neg k7,if_neg k9,if_neg k10,if_pos k12,Option.some.injEq];omega
 by_cases k19:k=19
 ·rw [if_neg k7,if_neg k9,if_neg k10,if_neg k12,if_pos k19,Option.some.injEq];omega
 rw [if_neg k7,if_neg k9,if_neg k10,if_neg k12,if_neg k19];exact ⟨fun h=>(by cases h),fun h=>by omega⟩
structure AcqP (l:List Ev) (j:Nat) (P:Nat→Prop) (c r:Ck):Prop where
 len:r.length=8
 ge:∀ c0:Int,∀ k,k < 8→c0≤c.getD k 0→c0≤r.getD k 0
 up:∀ c0:Int,1≤c0→∀ k,k < 8→(c0≤r.getD k 0↔c0≤c.getD k 0∨∃ i,i < j∧P i∧c0≤(stp l i).getD k 0)
section
variable {l:List Ev} {j:Nat} {P Q:Nat→Prop} {c r y:Ck}
theorem AcqP.nil (hcl:c.length=8) (h:∀ i,i < j→¬ P i):AcqP l j P c c :=
 ⟨hcl,fun _ _ _ h=>h,fun c0 _ k _=>⟨.inl,fun q=>q.elim id (fun ⟨i,hi,hp,_⟩=>absurd hp (h i hi))⟩⟩
theorem AcqP.join (h:AcqP l j P c r) (hy:Ups l j Q y):AcqP l j (fun i=>P i∨Q i) c (joinC r y) :=
 ⟨joinC_length h.len hy.len,fun c0 k hk q=>(max_le c0 h.len hy.len hk).2 (.inl (h.ge c0 k hk q)),fun c0 hc0 k hk=>by
  rw [max_le c0 h.len hy.len hk,h.up c0 hc0 k hk,hy.up c0 hc0 k hk];refine ⟨fun q=>?_,fun q=>?_⟩
  ·rcases q with (q | ⟨i,hi,hp,q⟩) | ⟨i,hi,hp,q⟩
   ·exact .inl q
   ·exact .inr ⟨i,hi,.inl hp,q⟩
   ·exact .inr ⟨i,hi,.inr hp,q⟩
  ·rcases q with q | ⟨i,hi,hp | hp,q⟩
   ·exact .inl (.inl q)
   ·exact .inl (.inr ⟨i,hi,hp,q⟩)
   ·exact .inr ⟨i,hi,hp,q⟩⟩
theorem AcqP.congr (h:AcqP l j P c r) (hq:∀ i,i < j→(Q i↔P i)):AcqP l j Q c r :=
 ⟨h.len,h.ge,fun c0 hc0 k hk=>(h.up c0 hc0 k hk).trans ⟨fun q=>q.imp id (fun ⟨i,hi,hp,q⟩=>⟨i,hi,(hq i hi).2 hp,q⟩),fun q=>q.imp id (fun ⟨i,hi,hp,q⟩=>⟨i,hi,(hq i hi).1 hp,q⟩)⟩⟩
end
theorem off0 {e:Ev} (hv:e.valid=true) (hk:15≤e.kind):e.off=0:=by
 have hk2:=Ev.valid_kind hv;simp only [Ev.valid,Ev.rest,Bool.and_eq_true] at hv;have h2:=hv.2;rw [if_neg (by omega)] at h2;split at h2
 ·exact (of_decide_eq_true h2).1
 ·rw [if_pos (by omega)] at h2;exact (of_decide_eq_true h2).1
theorem inB_iff {l:List Ev} {i j:Nat}:InB l (evAt l j).obj (evAt l j).off i↔atomB (evAt l i) (evAt l j)=true:=by
 unfold InB atomB;simp only [Bool.and_eq_true,Bool.or_eq_true,beq_iff_eq];exact ⟨fun ⟨h1,h2,h3⟩=>⟨h2,h3,h1⟩,fun ⟨h2,h3,h1⟩=>⟨h1,h2,h3⟩⟩
section
variable {l:List Ev} (hc:chk l=l.length)
include hc
theorem val_at {j:Nat} (hj:j < l.length):(evAt l j).valid=true:=(add_cases (tsAt_succ hc hj)).1
omit hc in
theorem syn_at {j:Nat} {p:TabP} (h:TInv l j p) {m:Int} (hm:m≠4):Ups l j (InF l m (evAt l j).obj (evAt l j).off) (p.at_ m (evAt l j)):=h.f m _ _ hm
theorem ringAt_ok {j:Nat} (hj:j < l.length) {p:TabP} (h:TInv l j p) (hk:chanB (evAt l j).kind=true) :
 ((p.ringAt (evAt l j)).1.length=((evAt l j).n+1).toNat∧(p.ringAt (evAt l j)).2.length=((evAt l j).n+1).toNat) ∧
 (∀ i,i < l.length→chanB (evAt l i).kind=true→(evAt l i).obj=(evAt l j).obj→(p.ringAt (evAt l j)).1.length=((evAt l i).n+1).toNat∧(p.ringAt (evAt l j)).2.length=((evAt l i).n+1).toNat) ∧
 RingH l j 15 TS.sentOf (evAt l j).obj (p.ringAt (evAt l j)).1∧RingH l j 17 TS.recvOf (evAt l j).obj (p.ringAt (evAt l j)).2:=by
 unfold TabP.ringAt
 cases hg:p.g (evAt l j).obj with
 | some v =>
   rw [Option.getD_some];exact ⟨h.gn _ _ hg j hj hk rfl,h.gn _ _ hg,h.g1 _ _ hg,h.g2 _ _ hg⟩
 | none =>
   have hn:∀ i,i < j→((evAt l i).kind=15∨(evAt l i).kind=17)→(evAt l i).obj≠(evAt l j).obj:=fun i hi h1 h2=>by
    have:=(h.gs (evAt l j).obj).2 ⟨i,hi,h1,h2⟩;rw [hg] at this;cases this
   rw [Option.getD_none];have rl:∀ n,(ring0 n).length=n:=fun n=>List.length_replicate
   refine ⟨⟨rl _,rl _⟩,fun i hi hki ho=>?_,fun i hi h1 h2=>absurd h2 (hn i hi (.inl h1)),fun i hi h1 h2=>absurd h2 (hn i hi (.inr h1))⟩
   have hnn:(evAt l i).n=(evAt l j).n:=by
    rcases Nat.le_total i j with q | q
    ·exact chan_n hc q hj hki hk ho
    ·exact (chan_n hc q hi hk hki ho.symm).symm
   rw [hnn];exact ⟨rl _,rl _⟩
theorem acq_iff {j:Nat} (hj:j < l.length) {p:TabP} (h:TInv l j p) {c:Ck} (hcl:c.length=8) :
 (p.acq (evAt l j) c).2=p∧AcqP l j (fun i=>Syn l i j) c (p.acq (evAt l j) c).1:=by
 have hv:=val_at hc hj;have no:AcqP l j (fun _=>False) c c:=AcqP.nil hcl (fun _ _=>id);have inf:∀ {m:Int} {i:Nat},InF l m (evAt l j).obj (evAt l j).off i↔relK (evAt l i).kind=some m∧(evAt l i).obj=(evAt l j).obj∧(evAt l i).off=(evAt l j).off:=Iff.rfl
 unfold TabP.acq
 by_cases k6:(evAt l j).kind=6
 ·rw [if_pos k6];refine ⟨rfl,((no.join (syn_at h (m:=0) (by decide))).join (syn_at h (m:=1) (by decide))).congr fun i hi=>?_⟩;rw [inf,inf,relK_iff,relK_iff];unfold Syn Kinds;generalize Atom l i j=A;refine ⟨fun ⟨h1,h2,h3⟩=>?_,fun h3=>?_⟩
  ·rcases h3 with h3 | h3 | h3 | h3 | h3 | h3 | h3 | ⟨h3,h4,_⟩ <;> omega
  ·rcases h3 with (h3 | ⟨h3,h1,h2⟩) | ⟨h3,h1,h2⟩
   ·exact h3.elim
   ·exact ⟨h1,h2,.inr (.inr (.inr (.inl (by omega))))⟩
   ·exact ⟨h1,h2,.inr (.inr (.inr (.inr (.inl (by omega)))))⟩
 rw [if_neg k6]
 by_cases k8:(evAt l j).kind=8
 ·rw [if_pos k8];refine ⟨rfl,(no.join (syn_at h (m:=0) (by decide))).congr fun i hi=>?_⟩;rw [inf,relK_iff];unfold Syn Kinds;generalize Atom l i j=A;refine ⟨fun ⟨h1,h2,h3⟩=>?_,fun h3=>?_⟩
  ·rcases h3 with h3 | h3 | h3 | h3 | h3 | h3 | h3 | ⟨h3,h4,_⟩ <;> omega
  ·rcases h3 with h3 | ⟨h3,h1,h2⟩
   ·exact h3.elim
   ·exact ⟨h1,h2,.inr (.inr (.inr (.inl (by omega))))⟩
 rw [if_neg k8]
 by_cases k11:(evAt l j).kind=11
 ·rw [if_pos k11];refine ⟨rfl,(no.join (syn_at h (m:=2) (by decide))).congr fun i hi=>?_⟩;rw [inf,relK_iff];unfold Syn Kinds;generalize Atom l i j=A;refine ⟨fun ⟨h1,h2,h3⟩=>?_,fun h3=>?_⟩
  ·rcases h3 with h3 | h3 | h3 | h3 | h3 | h3 | h3 | ⟨h3,h4,_⟩ <;> omega
  ·rcases h3 with h3 | ⟨h3,h1,h2⟩
   ·exact h3.elim
   ·exact ⟨h1,h2,.inr (.inr (.inr (.inr (.inr (.inl (by omega))))))⟩
 rw [if_neg k11]
 by_cases k13:(evAt l j).kind=13
 ·rw [if_pos k13];refine ⟨rfl,(no.join (syn_at h (m:=3) (by decide))).congr fun i hi=>?_⟩;rw [inf,relK_iff];unfold Syn Kinds;generalize Atom l i j=A;refine ⟨fun ⟨h1,h2,h3⟩=>?_,fun h3=>?_⟩
  ·rcases h3 with h3 | h3 | h3 | h3 | h3 | h3 | h3 | ⟨h3,h4,_⟩ <;> omega
  ·rcases h3 with h3 | ⟨h3,h1,h2⟩
   ·exact h3.elim
   ·exact ⟨h1,h2,.inr (.inr (.inr (.inr (.inr (.inr (.inl (by omega)))))))⟩
 rw [if_neg k13]
 by_cases k35:(evAt l j).kind=3∨(evAt l j).kind=5
 ·rw [if_pos k35];refine ⟨rfl,(no.join (h.f4 (evAt l j).obj (evAt l j).off)).congr fun i hi=>?_⟩
  have hA:InA l j (evAt l j).obj (evAt l j).off i↔InB l (evAt l j).obj (evAt l j).off i∧Atom l i j:=by
   unfold InA Atom;refine and_congr_right fun _=>forall_congr' fun m=>forall_congr' fun _=>forall_congr' fun _=>?_
   rw [inB_iff,Bool.not_eq_true]
  rw [hA];unfold Syn Kinds InB;refine ⟨fun ⟨h1,h2,h3⟩=>?_,fun h3=>?_⟩
  ·rcases h3 with h3 | h3 | h3 | h3 | h3 | h3 | h3 | ⟨h3,h4,h5⟩
   ·exfalso;omega
   ·exfalso;omega
   ·exfalso;omega
   ·exfalso;omega
   ·exfalso;omega
   ·exfalso;omega
   ·exfalso;omega
   ·exact .inr ⟨⟨h3,h1,h2⟩,h5⟩
  ·rcases h3 with h3 | ⟨⟨h3,h1,h2⟩,h5⟩
   ·exact h3.elim
   ·exact ⟨h1,h2,.inr (.inr (.inr (.inr (.inr (.inr (.inr ⟨h3,k35,h5⟩))))))⟩
 rw [if_neg k35];rw [not_or] at k35
 by_cases k20:(evAt l j).kind=20
 ·rw [if_pos k20];refine ⟨rfl,(no.join (syn_at h (m:=5) (by decide))).congr fun i hi=>?_⟩;rw [inf,relK_iff];unfold Syn Kinds;generalize Atom l i j=A;refine ⟨fun ⟨h1,h2,h3⟩=>?_,fun h3=>?_⟩
  ·rcases h3 with h3 | h3 | h3 | h3 | h3 | h3 | h3 | ⟨h3,h4,_⟩ <;> omega
  ·rcases h3 with h3 | ⟨h3,h1,h2⟩
   ·exact h3.elim
   ·exact ⟨h1,h2,.inr (.inr (.inl (by omega)))⟩
 rw [if_neg k20]
 by_cases k18:(evAt l j).kind=18
 ·rw [if_pos k18];have hcb:chanB (evAt l j).kind=true:=by unfold chanB;rw [k18];decide
  have hK:=(Ev.valid_k hv).1;have hN:=(Ev.valid_n hv).1;obtain ⟨b1,b2⟩:=at18 hc hj k18;obtain ⟨i0,hi0,i1,i2,i3⟩:=(sent_ev hc (j:=j) (by omega) (x:=(evAt l j).obj)).2 _ hK b1;obtain ⟨v,hg⟩:=Option.isSome_iff_exists.1 ((h.gs (evAt l j).obj).2 ⟨i0,hi0,.inl i1,i2⟩);have hr:p.ringAt (evAt l j)=v:=by unfold TabP.ringAt;rw [hg];rfl
  have hl:=(h.gn _ _ hg j hj hcb rfl).1;have hs:=h.g1 _ _ hg i0 hi0 i1 i2 (by rw [i3,hl];omega)
  rw [i3] at hs;rw [hr,updR_self hg,hs];refine ⟨rfl,(no.join (Ups.one (P:=fun i=>Syn l i j) hi0 fun i hi=>?_)).congr fun i hi=>⟨.inr,fun q=>q.elim False.elim id⟩⟩;refine ⟨fun ⟨h1,h2,h3⟩=>?_,fun q=>?_⟩
  ·have h4:(evAt l i).kind=15∧(evAt l j).k=(evAt l i).k:=by
    unfold Kinds at h3
    revert h3
    generalize Atom l i j=A;intro h3
    rcases h3 with h3 | h3 | h3 | h3 | h3 | h3 | h3 | ⟨h3,h4,_⟩ <;> omega
   rcases Nat.lt_trichotomy i i0 with q | q | q
   ·have:=sent_lt hc q (by omega) h4.1;have:=at15 hc (j:=i0) (by omega) i1;rw [h1,←i2] at *;omega
   ·exact q
   ·have:=sent_lt hc q (by omega) i1;have:=at15 hc (j:=i) (by omega) h4.1;rw [h1,←i2] at *;omega
  ·subst q;exact ⟨i2,(off0 (val_at hc (by omega)) (by omega)).trans (off0 hv (by omega)).symm,.inl ⟨i1,k18,i3.symm⟩⟩
 rw [if_neg k18]
 by_cases k16:(evAt l j).kind=16
 ·rw [if_pos k16];have hcb:chanB (evAt l j).kind=true:=by unfold chanB;rw [k16];decide
  have hN:=(Ev.valid_n hv).1
  have syn:∀ i,i < j→Syn l i j→(evAt l i).kind=17∧(evAt l j).k=(evAt l i).k+(evAt l j).n∧(evAt l i).obj=(evAt l j).obj:=fun i hi ⟨h1,h2,h3⟩=>by
   have h4:(evAt l i).kind=17∧(evAt l j).k=(evAt l i).k+(evAt l i).n:=by
    unfold Kinds at h3
    revert h3
    generalize Atom l i j=A;intro h3
    rcases h3 with h3 | h3 | h3 | h3 | h3 | h3 | h3 | ⟨h3,h4,_⟩ <;> omega
   have h5:=chan_n hc (p:=i) (q:=j) (by omega) hj (by unfold chanB;rw [h4.1];decide) hcb h1
   exact ⟨h4.1,by omega,h1⟩
  by_cases kn:0≤(evAt l j).k - (evAt l j).n
  ·rw [if_pos kn];obtain ⟨b1,b2⟩:=at16 hc hj k16;obtain ⟨i0,hi0,i1,i2,i3⟩:=(rcv_ev hc (j:=j) (by omega) (x:=(evAt l j).obj)).2 _ kn b1;obtain ⟨v,hg⟩:=Option.isSome_iff_exists.1 ((h.gs (evAt l j).obj).2 ⟨i0,hi0,.inr i1,i2⟩);have hr:p.ringAt (evAt l j)=v:=by unfold TabP.ringAt;rw [hg];rfl
   have hl:=(h.gn _ _ hg j hj hcb rfl).2;have hs:=h.g2 _ _ hg i0 hi0 i1 i2 (by rw [i3,hl];omega)
   rw [i3] at hs;rw [hr,updR_self hg,hs];refine ⟨rfl,(no.join (Ups.one (P:=fun i=>Syn l i j) hi0 fun i hi=>?_)).congr fun i hi=>⟨.inr,fun q=>q.elim False.elim id⟩⟩;refine ⟨fun hsy=>?_,fun q=>?_⟩
   ·obtain ⟨h3,h4,h1⟩:=syn i hi hsy
    rcases Nat.lt_trichotomy i i0 with q | q | q
    ·have:=recv_lt hc q (by omega) h3;have:=at17 hc (j:=i0) (by omega) i1;rw [h1,←i2] at *;omega
    ·exact q
    ·have:=recv_lt hc q (by omega) i1;have:=at17 hc (j:=i) (by omega) h3;rw [h1,←i2] at *;omega
   ·subst q;have h5:=chan_n hc (p:=i) (q:=j) (by omega) hj (by unfold chanB;rw [i1];decide) hcb i2
    exact ⟨i2,(off0 (val_at hc (by omega)) (by omega)).trans (off0 hv (by omega)).symm,.inr (.inl ⟨i1,k16,by omega⟩)⟩
  ·rw [if_neg kn];refine ⟨rfl,AcqP.nil hcl fun i hi hsy=>?_⟩;obtain ⟨h3,h4,h1⟩:=syn i hi hsy;have:=(Ev.valid_k (val_at hc (j:=i) (by omega))).1;omega
 rw [if_neg k16];refine ⟨rfl,AcqP.nil hcl fun i hi ⟨h1,h2,h3⟩=>?_⟩
 revert h3
 unfold Kinds;generalize Atom l i j=A;intro h3
 rcases h3 with h3 | h3 | h3 | h3 | h3 | h3 | h3 | ⟨h3,h4,_⟩ <;> omega
end
section
variable {p:TabP} {e:Ev} {c:Ck}
theorem rel_ck:(p.rel e c).ck=if e.kind=14 then p.ck.set e.k.toNat c else p.ck:=by
 unfold TabP.rel
 by_cases h:e.kind=14
 ·rw [if_pos h,if_pos h]
 ·rw [if_neg h,if_neg h]
  repeat' split
  all_goals rfl
theorem rel_f:(p.rel e c).f=match relK e.kind with
 | some m=>updF p.f m e.obj e.off (joinC ((p.f m e.obj e.off).getD ckZ) c)
 | none=>if e.kind=4∨e.kind=5 then updF p.f 4 e.obj e.off c else p.f:=by
 unfold TabP.rel relK
 by_cases k14:e.kind=14
 ·have:¬ (e.kind=4∨e.kind=5):=by omega
  rw [if_pos k14,if_neg (by omega),if_neg (by omega),if_neg (by omega),if_neg (by omega),if_neg (by omega)];dsimp only;rw [if_neg this]
 rw [if_neg k14]
 by_cases k7:e.kind=7
 ·rw [if_pos k7,if_pos k7];rfl
 rw [if_neg k7,if_neg k7]
 by_cases k9:e.kind=9
 ·rw [if_pos k9,if_pos k9];rfl
 rw [if_neg k9,if_neg k9]
 by_cases k10:e.kind=10
 ·rw [if_pos k10,if_pos k10];rfl
 rw [if_neg k10,if_neg k10]
 by_cases k12:e.kind=12
 ·rw [if_pos k12,if_pos k12];rfl
 rw [if_neg k12,if_neg k12]
 by_cases k19:e.kind=19
 ·rw [if_pos k19,if_pos k19];rfl
 rw [if_neg k19,if_neg k19];dsimp only
 by_cases k45:e.kind=4∨e.kind=5
 ·rw [if_pos k45,if_pos k45]
 rw [if_neg k45,if_neg k45]
 repeat' split
 all_goals rfl
theorem rel_g:(p.rel e c).g=if e.kind=15 then updR p.g e.obj ((p.ringAt e).1.set (slotOf e.k (p.ringAt e).1) c,(p.ringAt e).2)
 else if e.kind=17 then updR p.g e.obj ((p.ringAt e).1,(p.ringAt e).2.set (slotOf e.k (p.ringAt e).2) c) else p.g:=by
 unfold TabP.rel
 by_cases k15:e.kind=15
 ·rw [if_neg (by omega),if_neg (by omega),if_neg (by omega),if_neg (by omega),if_neg (by omega),if_neg (by omega),if_neg (by omega),if_pos k15,if_pos k15]
 rw [if_neg k15,if_neg k15]
 by_cases k17:e.kind=17
 ·rw [if_neg (by omega),if_neg (by omega),if_neg (by omega),if_neg (by omega),if_neg (by omega),if_neg (by omega),if_neg (by omega),if_pos k17,if_pos k17]
 rw [if_neg k17,if_neg k17]
 repeat' split
 all_goals rfl
end
theorem updF_at {f:Int→Int→Int→Option Ck} {k x y:Int} {c:Ck}:updF f k x y c k x y=some c:=if_pos ⟨rfl,rfl,rfl⟩
theorem updF_ne {f:Int→Int→Int→Option Ck} {k x y k' x' y':Int} {c:Ck} (h:¬ (k'=k∧x'=x∧y'=y)):updF f k x y c k' x' y'=f k' x' y':=if_neg h
theorem ringH_keep {l:List Ev} {j:Nat} {kd o:Int} {cnt:TS→Int→Int} {s:List Ck} (h:RingH l j kd cnt o s) (hn:¬ ((evAt l j).kind=kd∧(evAt l j).obj=o)) (hcn:cnt (tsAt l (j+1)) o=cnt (tsAt l j) o):RingH l (j+1) kd cnt o s:=by
 intro i hi h1 h2 h3
 rcases Nat.lt_or_eq_of_le (Nat.le_of_lt_succ hi) with q | q
 ·exact h i q h1 h2 (by rw [←hcn];exact h3)
 ·rw [q] at h1 h2;exact absurd ⟨h1,h2⟩ hn
theorem ringH_put {l:List Ev} {j:Nat} {kd o:Int} {cnt:TS→Int→Int} {s:List Ck} (h:RingH l j kd cnt o s) (hk:(evAt l j).kind=kd) (ho:(evAt l j).obj=o) (hcn:cnt (tsAt l (j+1)) o=cnt (tsAt l j) o+1)
 (hs:0 < s.length) (hkj:(evAt l j).k=cnt (tsAt l j) o) (h0:∀ i,i≤j→(evAt l i).kind=kd→0≤(evAt l i).k) (hlt:∀ i,i < j→(evAt l i).kind=kd→(evAt l i).obj=o→(evAt l i).k < (evAt l j).k):RingH l (j+1) kd cnt o (s.set (slotOf (evAt l j).k s) (stp l j)):=by
 intro i hi h1 h2 h3;have hsl:∀ k x y,slotOf k (s.set x y)=slotOf k s:=fun k x y=>by unfold slotOf;rw [List.length_set]
 rw [List.length_set] at h3;rw [hsl,getD_set (slot_lt (h0 j (Nat.le_refl j) hk) hs)]
 rcases Nat.lt_or_eq_of_le (Nat.le_of_lt_succ hi) with q | q
 ·rw [if_neg (slot_ne (h0 i (by omega) h1) (hlt i q h1 h2) (by omega))];exact h i q h1 h2 (by omega)
 ·rw [q,if_pos rfl]
section
variable {l:List Ev} (hc:chk l=l.length)
include hc
theorem tinv_fin {j:Nat} (hj:j < l.length) {p:TabP} (h:TInv l j p):TInv l (j+1) (p.fin (evAt l j) (stp l j)):=by
 have V:=VL.of hc;have hv:=val_at hc hj;have hg:=V.g hj;have h14:=fun q=>Ev.valid_go hv q
 obtain ⟨cl,ck⟩:(p.fin (evAt l j) (stp l j)).ck.length=8∧∀ g:Int,0≤g→g < 8→(p.fin (evAt l j) (stp l j)).ck.getD g.toNat ckZ=if g=(evAt l j).g then stp l j else if (evAt l j).kind=14∧g=(evAt l j).k then stp l j else p.ck.getD g.toNat ckZ:=by
  unfold TabP.fin;dsimp only;rw [rel_ck];have hcl:=h.cl
  by_cases k14:(evAt l j).kind=14
  ·rw [if_pos k14];have:=h14 k14;refine ⟨by rw [List.length_set,List.length_set];exact hcl,fun g h0 h8=>?_⟩
   rw [getD_set (by rw [List.length_set];omega)]
   by_cases hgg:g=(evAt l j).g
   ·rw [if_pos hgg,if_pos (by omega)]
   ·rw [if_neg hgg,if_neg (by omega),getD_set (by omega)]
    by_cases hgk:g=(evAt l j).k
    ·rw [if_pos (by omega),if_pos ⟨k14,hgk⟩]
    ·rw [if_neg (by omega),if_neg (fun q=>hgk q.2)]
  ·rw [if_neg k14];refine ⟨by rw [List.length_set];exact hcl,fun g h0 h8=>?_⟩
   rw [getD_set (by omega)]
   by_cases hgg:g=(evAt l j).g
   ·rw [if_pos hgg,if_pos (by omega)]
   ·rw [if_neg hgg,if_neg (by omega),if_neg (fun q=>k14 q.1)]
 have hf:∀ k x y,(p.fin (evAt l j) (stp l j)).f k x y=(p.rel (evAt l j) (stp l j)).f k x y:=fun _ _ _=>rfl
 have hG:∀ o,(p.fin (evAt l j) (stp l j)).g o=(p.rel (evAt l j) (stp l j)).g o:=fun _=>rfl
 have fin:∀ k x y,k≠4→InF l k x y j→(p.fin (evAt l j) (stp l j)).f k x y=some (joinC ((p.f k x y).getD ckZ) (stp l j)):=fun k x y _ ⟨h1,h2,h3⟩=>by
  rw [hf,rel_f,h1];dsimp only;rw [h2,h3,updF_at]
 have fno:∀ k x y,k≠4→¬ InF l k x y j→(p.fin (evAt l j) (stp l j)).f k x y=p.f k x y:=fun k x y k4 hn=>by
  rw [hf,rel_f]
  cases hr:relK (evAt l j).kind with
  | some m=>dsimp only;rw [updF_ne (fun ⟨q1,q2,q3⟩=>hn ⟨by rw [hr,q1],q2.symm,q3.symm⟩)]
  | none=>dsimp only;split
          ·rw [updF_ne (fun q=>k4 q.1)]
          ·rfl
 have fin4:∀ x y,InB l x y j→(p.fin (evAt l j) (stp l j)).f 4 x y=some (stp l j):=fun x y ⟨h1,h2,h3⟩=>by
  have hr:relK (evAt l j).kind=none:=by
   cases hr:relK (evAt l j).kind with
   | none=>rfl
   | some m=>rw [relK_iff] at hr;omega
  rw [hf,rel_f,hr];dsimp only;rw [if_pos h1,h2,h3,updF_at]
 have fno4:∀ x y,¬ InB l x y j→(p.fin (evAt l j) (stp l j)).f 4 x y=p.f 4 x y:=fun x y hn=>by
  rw [hf,rel_f]
  cases hr:relK (evAt l j).kind with
  | some m=>dsimp only;rw [updF_ne (fun ⟨q1,q2,q3⟩=>by rw [relK_iff] at hr;omega)]
  | none=>dsimp only;split
          ·rename_i k45;rw [updF_ne (fun ⟨_,q2,q3⟩=>hn ⟨k45,q2.symm,q3.symm⟩)]
          ·rfl
 have cs:=(cnt_at hc hj).s;have cr:=(cnt_at hc hj).r
 have ex:∀ {R:Nat→Prop},(∃ i,i < j+1∧R i)↔(∃ i,i < j∧R i)∨R j:=fun {R}=>⟨fun ⟨i,hi,hr⟩=>by
  rcases Nat.lt_or_eq_of_le (Nat.le_of_lt_succ hi) with q | q
  ·exact .inl ⟨i,q,hr⟩
  ·rw [q] at hr;exact .inr hr,fun q=>q.elim (fun ⟨i,hi,hr⟩=>⟨i,by omega,hr⟩) (fun hr=>⟨j,by omega,hr⟩)⟩
 -- the rings
 obtain ⟨gs,gn,g1,g2⟩:(∀ o,((p.fin (evAt l j) (stp l j)).g o).isSome=true↔∃ i,i < j+1∧((evAt l i).kind=15∨(evAt l i).kind=17)∧(evAt l i).obj=o) ∧
  (∀ o v,(p.fin (evAt l j) (stp l j)).g o=some v→∀ i,i < l.length→chanB (evAt l i).kind=true→(evAt l i).obj=o→v.1.length=((evAt l i).n+1).toNat∧v.2.length=((evAt l i).n+1).toNat) ∧
  (∀ o v,(p.fin (evAt l j) (stp l j)).g o=some v→RingH l (j+1) 15 TS.sentOf o v.1)∧(∀ o v,(p.fin (evAt l j) (stp l j)).g o=some v→RingH l (j+1) 17 TS.recvOf o v.2):=by
  by_cases k57:(evAt l j).kind=15∨(evAt l j).kind=17
  ·have hcb:chanB (evAt l j).kind=true:=by unfold chanB;rcases k57 with q | q <;> rw [q] <;> decide
   obtain ⟨⟨r1,r2⟩,r3,r4,r5⟩:=ringAt_ok hc hj h hcb;have hn:=Ev.valid_n hv
   have other:∀ o,o≠(evAt l j).obj→(p.fin (evAt l j) (stp l j)).g o=p.g o:=fun o ho=>by
    rw [hG,rel_g];split
    ·exact if_neg ho
    ·split
     ·exact if_neg ho
     ·rfl
   have keep:∀ o v,o≠(evAt l j).obj→p.g o=some v→RingH l (j+1) 15 TS.sentOf o v.1∧RingH l (j+1) 17 TS.recvOf o v.2:=fun o v ho hp =>
    ⟨ringH_keep (h.g1 o v hp) (fun q=>ho q.2.symm) (by rw [cs,if_neg (fun q=>ho q.1.symm)];omega),ringH_keep (h.g2 o v hp) (fun q=>ho q.2.symm) (by rw [cr,if_neg (fun q=>ho q.1.symm)];omega)⟩
   obtain ⟨v0,e0,l1,l2,p1,p2⟩:∃ v,(p.fin (evAt l j) (stp l j)).g (evAt l j).obj=some v∧v.1.length=(p.ringAt (evAt l j)).1.length∧v.2.length=(p.ringAt (evAt l j)).2.length∧RingH l (j+1) 15 TS.sentOf (evAt l j).obj v.1∧RingH l (j+1) 17 TS.recvOf (evAt l j).obj v.2:=by
    rcases k57 with k15 | k17
    ·refine ⟨((p.ringAt (evAt l j)).1.set (slotOf (evAt l j).k (p.ringAt (evAt l j)).1) (stp l j),(p.ringAt (evAt l j)).2),by rw [hG,rel_g,if_pos k15];exact if_pos rfl,by rw [List.length_set],rfl,?_,?_⟩
     ·exact ringH_put r4 k15 rfl (by rw [cs,if_pos ⟨rfl,k15⟩]) (by omega) (at15 hc hj k15) (fun i hi _=>(Ev.valid_k (val_at hc (by omega))).1) (fun i hi q1 q2=>by
       have:=sent_lt hc hi (by omega) q1;rw [q2] at this;rw [at15 hc hj k15];exact this)
     ·exact ringH_keep r5 (fun q=>by omega) (by rw [cr,if_neg (fun q=>by omega)];omega)
    ·refine ⟨((p.ringAt (evAt l j)).1,(p.ringAt (evAt l j)).2.set (slotOf (evAt l j).k (p.ringAt (evAt l j)).2) (stp l j)),by rw [hG,rel_g,if_neg (by omega),if_pos k17];exact if_pos rfl,rfl,by rw [List.length_set],?_,?_⟩
     ·exact ringH_keep r4 (fun q=>by omega) (by rw [cs,if_neg (fun q=>by omega)];omega)
     ·exact ringH_put r5 k17 rfl (by rw [cr,if_pos ⟨rfl,k17⟩]) (by omega) (at17 hc hj k17) (fun i hi _=>(Ev.valid_k (val_at hc (by omega))).1) (fun i hi q1 q2=>by
       have:=recv_lt hc hi (by omega) q1;rw [q2] at this;rw [at17 hc hj k17];exact this)
   refine ⟨fun o=>?_,fun o v hp=>?_,fun o v hp=>?_,fun o v hp=>?_⟩
   ·rw [ex]
    by_cases ho:o=(evAt l j).obj
    ·subst ho;rw [e0];exact ⟨fun _=>.inr ⟨k57,rfl⟩,fun _=>rfl⟩
    ·rw [other o ho,h.gs o];exact ⟨.inl,fun q=>q.elim id (fun q=>absurd q.2.symm ho)⟩
   ·by_cases ho:o=(evAt l j).obj
    ·subst ho;rw [e0] at hp;cases hp;rw [l1,l2];exact r3
    ·rw [other o ho] at hp;exact h.gn o v hp
   ·by_cases ho:o=(evAt l j).obj
    ·subst ho;rw [e0] at hp;cases hp;exact p1
    ·rw [other o ho] at hp;exact (keep o v ho hp).1
   ·by_cases ho:o=(evAt l j).obj
    ·subst ho;rw [e0] at hp;cases hp;exact p2
    ·rw [other o ho] at hp;exact (keep o v ho hp).2
  ·have same:∀ o,(p.fin (evAt l j) (stp l j)).g o=p.g o:=fun o=>by
    rw [hG,rel_g,if_neg (fun q=>k57 (.inl q)),if_neg (fun q=>k57 (.inr q))]
   refine ⟨fun o=>?_,fun o v hp=>?_,fun o v hp=>?_,fun o v hp=>?_⟩
   ·rw [ex,same,h.gs o];exact ⟨.inl,fun q=>q.elim id (fun q=>absurd q.1 k57)⟩
   ·rw [same] at hp;exact h.gn o v hp
   ·rw [same] at hp;exact ringH_keep (h.g1 o v hp) (fun q=>k57 (.inl q.1)) (by rw [cs,if_neg (fun q=>k57 (.inl q.2))];omega)
   ·rw [same] at hp;exact ringH_keep (h.g2 o v hp) (fun q=>k57 (.inr q.1)) (by rw [cr,if_neg (fun q=>k57 (.inr q.2))];omega)
 refine ⟨cl,fun g h0 h8=>?_,fun k x y k4=>?_,fun k x y k4=>?_,fun x y=>?_,fun x y=>?_,gs,gn,g1,g2⟩
 ·rw [ck g h0 h8];have hok:=runTo_ok l j;have hcl:=hok.cl;have hbl:=hok.bl
  have e1:(runTo l (j+1)).cur.getD g.toNat ckZ=if g=(evAt l j).g then stp l j else (runTo l j).cur.getD g.toNat ckZ:=by
   show ((runTo l j).cur.set (evAt l j).g.toNat (clockAt l (runTo l j) (evAt l j) j)).getD g.toNat ckZ=_
   rw [getD_set (by omega),stp_at hj]
   by_cases hgg:g=(evAt l j).g
   ·rw [if_pos hgg,if_pos (by omega)]
   ·rw [if_neg hgg,if_neg (by omega)]
  have e2:(runTo l (j+1)).birth.getD g.toNat ckZ=if (evAt l j).kind=14∧g=(evAt l j).k then stp l j else (runTo l j).birth.getD g.toNat ckZ:=by
   show (if (evAt l j).kind=14 then (runTo l j).birth.set (evAt l j).k.toNat (clockAt l (runTo l j) (evAt l j) j) else (runTo l j).birth).getD g.toNat ckZ=_
   by_cases k14:(evAt l j).kind=14
   ·have:=h14 k14;rw [if_pos k14,getD_set (by omega),stp_at hj]
    by_cases hgk:g=(evAt l j).k
    ·rw [if_pos (by omega),if_pos ⟨k14,hgk⟩]
    ·rw [if_neg (by omega),if_neg (fun q=>hgk q.2)]
   ·rw [if_neg k14,if_neg (fun q=>k14 q.1)]
  rw [e1,e2]
  have hnz:stp l j≠ckZ:=fun hz=>by
   have:=stp_own V hj;rw [hz,ckZ_get] at this;have:=ord_eq l j;omega
  by_cases hgg:g=(evAt l j).g
  ·rw [if_pos hgg,if_pos hgg,if_neg hnz]
  ·rw [if_neg hgg,if_neg hgg]
   by_cases hgk:(evAt l j).kind=14∧g=(evAt l j).k
   ·rw [if_pos hgk,if_pos hgk];have h1:=(go_new hc hj hgk.1).1;have h2:=(cur_last V (j:=j) (by omega) h0 h8).1 (by rw [hgk.2];exact h1)
    rw [if_pos h2]
   ·rw [if_neg hgk,if_neg hgk];exact h.ck g h0 h8
 ·by_cases hq:InF l k x y j
  ·rw [fin k x y k4 hq];exact (h.f k x y k4).snoc hq
  ·rw [fno k x y k4 hq];exact (h.f k x y k4).succ hq (fun i hi=>Iff.rfl) hq
 ·rw [ex]
  by_cases hq:InF l k x y j
  ·rw [fin k x y k4 hq];exact ⟨fun _=>.inr hq,fun _=>rfl⟩
  ·rw [fno k x y k4 hq,h.fs k x y k4];exact ⟨.inl,fun q=>q.elim id (fun q=>absurd q hq)⟩
 ·by_cases hq:InB l x y j
  ·rw [fin4 x y hq];refine Ups.one (Nat.lt_succ_self j) (fun i hi=>⟨fun ⟨q1,q2⟩=>?_,fun q=>?_⟩)
   ·rcases Nat.lt_or_eq_of_le (Nat.le_of_lt_succ hi) with q | q
    ·exact absurd hq (q2 j q (Nat.lt_succ_self j))
    ·exact q
   ·subst q;exact ⟨hq,fun m h1 h2=>by omega⟩
  ·rw [fno4 x y hq];refine (h.f4 x y).succ (fun q=>hq q.1) (fun i hi=>?_) (fun q=>hq q.1);refine and_congr_right fun _=>⟨fun q m h1 h2=>q m h1 (by omega),fun q m h1 h2=>?_⟩
   rcases Nat.lt_or_eq_of_le (Nat.le_of_lt_succ h2) with h3 | h3
   ·exact q m h1 h3
   ·rw [h3];exact hq
 ·rw [ex]
  by_cases hq:InB l x y j
  ·rw [fin4 x y hq];exact ⟨fun _=>.inr hq,fun _=>rfl⟩
  ·rw [fno4 x y hq,h.f4s x y];exact ⟨.inl,fun q=>q.elim id (fun q=>absurd q hq)⟩
omit hc in
theorem ck_ext {a b:Ck} (ha:a.length=8) (hb:b.length=8) (h:∀ k,k < 8→a.getD k 0=b.getD k 0):a=b:=by
 apply List.ext_getElem (by omega)
 intro k h1 h2;have:=h k (by omega);rw [List.getD_eq_getElem?_getD,List.getD_eq_getElem?_getD,List.getElem?_eq_getElem h1,List.getElem?_eq_getElem h2] at this;exact this
omit hc in
theorem cntG_le (g:Int) (n:Nat):cntG l g n≤n:=by
 induction n with
 | zero=>exact Nat.le_refl _
 | succ n ih=>simp only [cntG];split <;> omega
theorem adv_stp (hl:l.length≤1000000) {j:Nat} (hj:j < l.length) {p:TabP} (h:TInv l j p):(p.adv (evAt l j)).1=stp l j∧(p.adv (evAt l j)).2=p.fin (evAt l j) (stp l j):=by
 have V:=VL.of hc;have hg:=V.g hj;have hok:=runTo_ok l j;have hcn:=V.cnt (j:=j) (by omega);have hstart:p.ck.getD (evAt l j).g.toNat ckZ=startC (runTo l j) (evAt l j):=(h.ck _ hg.1 hg.2).trans rfl;have sl:(startC (runTo l j) (evAt l j)).length=8:=(hok.start (evAt l j)).1
 have hdg:(startC (runTo l j) (evAt l j)).getD (evAt l j).g.toNat 0=(cntG l (evAt l j).g j:Int):=by
  have h1:=hcn.start hok (e:=evAt l j) (by omega) (k:=(evAt l j).g.toNat) (by omega);have h2:=dg_cnt V (j:=j) (by omega) hg.1 hg.2;have h3:((runTo l j).cur.getD (evAt l j).g.toNat ckZ).getD (evAt l j).g.toNat 0=(runTo l j).dg (evAt l j).g.toNat:=rfl;omega
 have hcb:=cntG_le (l:=l) (evAt l j).g j
 have htick:tickC (startC (runTo l j) (evAt l j)) (evAt l j).g=(startC (runTo l j) (evAt l j)).set (evAt l j).g.toNat ((cntG l (evAt l j).g j:Int)+1):=by
  unfold tickC;rw [if_pos ⟨hg.1,hg.2,by rw [hdg];omega⟩,hdg]
 obtain ⟨a1,a2⟩:=acq_iff hc hj h (c:=tickC (startC (runTo l j) (evAt l j)) (evAt l j).g) (by rw [tickC_length];exact sl)
 have key:(p.acq (evAt l j) (tickC (startC (runTo l j) (evAt l j)) (evAt l j).g)).1=stp l j:=by
  refine ck_ext a2.len stp_len fun k hk=>?_
  have ge:=fun c0=>a2.ge c0 k hk
  have up:=fun c0 hc0=>a2.up c0 hc0 k hk
  rw [htick,set_get (by omega)] at ge up;rw [←htick] at ge up;generalize (p.acq (evAt l j) (tickC (startC (runTo l j) (evAt l j)) (evAt l j).g)).1.getD k 0=R at ge up ⊢
  by_cases hkg:k=(evAt l j).g.toNat
  ·rw [if_pos hkg] at ge up;rw [hkg,stp_own V hj,ord_eq];have h1:=ge _ (Int.le_refl _);have h2:=(up R (by omega)).1 (Int.le_refl _)
   rcases h2 with h2 | ⟨i,hi,_,h2⟩
   ·omega
   ·rw [hkg] at h2;have h3:=stp_le V (j:=i) (by omega) hg.1 hg.2;have h4:=cntG_mono (l:=l) (g:=(evAt l j).g) (show i+1≤j by omega);omega
  ·rw [if_neg hkg] at ge up;have hnn:=(hok.start (evAt l j)).get k;have hR:=ge _ (Int.le_refl _);rw [stp_at hj,clockAt_eq,set_get (by rw [preC_len hok];omega),if_neg hkg]
   have hpre:=fun c0 hc0=>pre_iff V hj (c:=c0) hc0 hk
   have hst:=fun c0 hc0=>start_iff V hj (c:=c0) hc0 k
   have hP:0≤(preC l (runTo l j) (evAt l j) j).getD k 0:=(hok.pre l (evAt l j)).get k
   have iff:∀ c0:Int,1≤c0→(c0≤R↔c0≤(preC l (runTo l j) (evAt l j) j).getD k 0):=fun c0 hc0=>by
    rw [up c0 hc0,hpre c0 hc0,hst c0 hc0];refine ⟨fun q=>?_,fun ⟨i,hi,him,q⟩=>?_⟩
    ·rcases q with ⟨i,hi,hp,q⟩ | ⟨i,hi,hp,q⟩
     ·exact ⟨i,hi,hp.elim .inl (fun q=>.inr (.inl q)),q⟩
     ·exact ⟨i,hi,.inr (.inr hp),q⟩
    ·rcases him with hp | hp | hp
     ·exact .inl ⟨i,hi,.inl hp,q⟩
     ·exact .inl ⟨i,hi,.inr hp,q⟩
     ·exact .inr ⟨i,hi,hp,q⟩
   generalize (preC l (runTo l j) (evAt l j) j).getD k 0=S at *
   rcases Int.lt_or_le R S with q | q
   ·have:=(iff S (by omega)).2 (Int.le_refl _);omega
   ·rcases Int.lt_or_le S R with q2 | q2
    ·have:=(iff R (by omega)).1 (Int.le_refl _);omega
    ·omega
 unfold TabP.adv;rw [hstart];dsimp only;rw [key,a1];exact ⟨rfl,rfl⟩
theorem tab_inv (hl:l.length≤1000000) {j:Nat} (hj:j≤l.length):TInv l j (tabTo l j):=by
 induction j with
 | zero=>exact tinv_new l
 | succ j ih =>
   have h:=ih (by omega)
   show TInv l (j+1) ((tabTo l j).adv (evAt l j)).2
   rw [(adv_stp hc hl hj h).2];exact tinv_fin hc hj h
theorem tab_stp (hl:l.length≤1000000) {j:Nat} (hj:j < l.length):((tabTo l j).adv (evAt l j)).1=stp l j:=(adv_stp hc hl hj (tab_inv hc hl (by omega))).1
end
end Go.Proofs.Ytffcpijeebagfaa
end
section
namespace Go.Proofs.Ytffcpijeebagfaa
open Go Go.RowKit
set_option maxRecDepth 100000
def pcl26 : PC := .seq (.reg false [⟨(some 0), .mv (.v (.bool false)), none, []⟩]) (.seq (.reg false [⟨(some 12), .callh 34 [], none, []⟩, ⟨(some 1), .mv (.t 12), none, [0, 0, 0]⟩]) (.seq (.reg false [⟨(some 14), .mv (.t 1), none, []⟩, ⟨(some 15), .build [(.int .i64 0), (.int .i64 0), (.int .i64 0), (.int .i64 0), (.int .i64 0), (.int .i64 0), (.int .i64 0), (.int .i64 0), (.int .i64 0)] [(1, 1, (.v (.int .i64 14))), (4, 1, (.v (.int .i64 1)))], none, []⟩, ⟨(some 16), .callh 36 [(.t 14), (.t 15)], none, [0, 1]⟩, ⟨(some 13), .mv (.t 16), none, [2]⟩, ⟨(some 17), .ext (.t 13) 0, none, [3]⟩, ⟨(some 18), .ext (.t 13) 1, none, [3]⟩, ⟨(some 2), .new [(.int .i64 0), (.int .i64 0), (.int .i64 0), (.int .i64 0), (.int .i64 0), (.int .i64 0), (.int .i64 0), (.int .i64 0)], none, []⟩, ⟨none, .store 8 (.t 2) (.t 17), none, [6, 4, 2, 0, 1, 2, 3, 4, 6]⟩, ⟨(some 3), .mv (.t 18), none, [5, 7, 0, 1, 2, 3, 4, 5, 6, 7]⟩]) (.seq (.reg false [⟨(some 19), .mv (.t 1), none, []⟩, ⟨(some 20), .callh 35 [(.t 19), (.v (.int .i64 1))], none, [0]⟩, ⟨(some 4), .new [(.int .i64 0), (.int .i64 0), (.int .i64 0), (.int .i64 0), (.int .i64 0), (.int .i64 0), (.int .i64 0), (.int .i64 0)], none, []⟩, ⟨none, .store 8 (.t 4) (.t 20), none, [2, 1, 1, 0, 1, 2]⟩]) (.seq (.reg false [⟨(some 22), .mv (.t 1), none, []⟩, ⟨(some 23), .build [(.int .i64 0), (.int .i64 0), (.int .i64 0), (.int .i64 0), (.int .i64 0), (.int .i64 0), (.int .i64 0), (.int .i64 0), (.int .i64 0)] [(1, 1, (.v (.int .i64 6))), (2, 1, (.v (.int .i64 1)))], none, []⟩, ⟨(some 24), .callh 36 [(.t 22), (.t 23)], none, [0, 1]⟩, ⟨(some 21), .mv (.t 24), none, [2]⟩, ⟨(some 25), .ext (.t 21) 0, none, [3]⟩, ⟨(some 26), .ext (.t 21) 1, none, [3]⟩, ⟨(some 5), .new [(.int .i64 0), (.int .i64 0), (.int .i64 0), (.int .i64 0), (.int .i64 0), (.int .i64 0), (.int .i64 0), (.int .i64 0)], none, []⟩, ⟨none, .store 8 (.t 5) (.t 25), none, [6, 4, 2, 0, 1, 2, 3, 4, 6]⟩, ⟨(some 6), .mv (.t 26), none, [5, 7, 0, 1, 2, 3, 4, 5, 6, 7]⟩]) (.seq (.reg false [⟨(some 28), .mv (.t 1), none, []⟩, ⟨(some 29), .build [(.int .i64 0), (.int .i64 0), (.int .i64 0), (.int .i64 0), (.int .i64 0), (.int .i64 0), (.int .i64 0), (.int .i64 0), (.int .i64 0)] [(1, 1, (.v (.int .i64 7))), (2, 1, (.v (.int .i64 1)))], none, []⟩, ⟨(some 30), .callh 36 [(.t 28), (.t 29)], none, [0, 1]⟩, ⟨(some 27), .mv (.t 30), none, [2]⟩, ⟨(some 31), .ext (.t 27) 0, none, [3]⟩, ⟨(some 32), .ext (.t 27) 1, none, [3]⟩, ⟨(some 7), .new [(.int .i64 0), (.int .i64 0), (.int .i64 0), (.int .i64 0), (.int .i64 0), (.int .i64 0), (.int .i64 0), (.int .i64 0)], none, []⟩, ⟨none, .store 8 (.t 7) (.t 31), none, [6, 4, 2, 0, 1, 2, 3, 4, 6]⟩, ⟨(some 8), .mv (.t 32), none, [5, 7, 0, 1, 2, 3, 4, 5, 6, 7]⟩]) (.seq (.reg false [⟨(some 33), .mv (.t 1), none, []⟩, ⟨(some 34), .callh 42 [(.t 33)], none, [0]⟩, ⟨(some 9), .mv (.t 34), none, [1, 1, 0, 1]⟩]) (.seq (.reg false [⟨(some 36), .mv (.t 1), none, []⟩, ⟨(some 37), .build [(.int .i64 0), (.int .i64 0), (.int .i64 0), (.int .i64 0), (.int .i64 0), (.int .i64 0), (.int .i64 0), (.int .i64 0), (.int .i64 0)] [(0, 1, (.v (.int .i64 1))), (1, 1, (.v (.int .i64 6))), (2, 1, (.v (.int .i64 1)))], none, []⟩, ⟨(some 38), .callh 36 [(.t 36), (.t 37)], none, [0, 1]⟩, ⟨(some 35), .mv (.t 38), none, [2]⟩, ⟨(some 39), .ext (.t 35) 0, none, [3]⟩, ⟨(some 40), .ext (.t 35) 1, none, [3]⟩, ⟨(some 10), .new [(.int .i64 0), (.int .i64 0), (.int .i64 0), (.int .i64 0), (.int .i64 0), (.int .i64 0), (.int .i64 0), (.int .i64 0)], none, []⟩, ⟨none, .store 8 (.t 10) (.t 39), none, [6, 4, 2, 0, 1, 2, 3, 4, 6]⟩, ⟨(some 11), .mv (.t 40), none, [5, 7, 0, 1, 2, 3, 4, 5, 6, 7]⟩]) (.seq (.reg false [⟨(some 41), .mv (.t 3), none, []⟩, ⟨(some 42), .bin .eql (.t 41) (.v (.int .i64 0)), none, [0]⟩, ⟨(some 43), .mv (.t 42), none, [1]⟩, ⟨(some 44), .mv (.t 6), (some (43, true)), [2]⟩, ⟨(some 45), .bin .eql (.t 44) (.v (.int .i64 0)), (some (43, true)), [3, 2]⟩, ⟨(some 46), .pick (.t 43) (.t 45) (.v (.bool false)), none, [2, 4]⟩, ⟨(some 47), .mv (.t 46), none, [5, 2]⟩, ⟨(some 48), .mv (.t 8), (some (47, true)), [6]⟩, ⟨(some 49), .bin .eql (.t 48) (.v (.int .i64 0)), (some (47, true)), [7, 6]⟩, ⟨(some 50), .pick (.t 47) (.t 49) (.v (.bool false)), none, [6, 8]⟩, ⟨(some 51), .mv (.t 50), none, [9, 6]⟩, ⟨(some 52), .mv (.t 11), (some (51, true)), [10]⟩, ⟨(some 53), .bin .eql (.t 52) (.v (.int .i64 0)), (some (51, true)), [11, 10]⟩, ⟨(some 54), .pick (.t 51) (.t 53) (.v (.bool false)), none, [10, 12]⟩, ⟨(some 55), .mv (.t 54), none, [13, 10]⟩, ⟨(some 56), .load (some 8) (.t 2), (some (55, true)), [14]⟩, ⟨(some 57), .build [(.int .i64 0), (.int .i64 0), (.int .i64 0), (.int .i64 0), (.int .i64 0), (.int .i64 0), (.int .i64 0), (.int .i64 0)] [(0, 1, (.v (.int .i64 1)))], (some (55, true)), [14]⟩, ⟨(some 58), .eqs false [false, false, false, false, false, false, false, false] (.t 56) (.t 57), (some (55, true)), [15, 16, 14]⟩, ⟨(some 59), .pick (.t 55) (.t 58) (.v (.bool false)), none, [14, 17]⟩, ⟨(some 60), .mv (.t 59), none, [18, 14]⟩, ⟨(some 61), .load (some 8) (.t 4), (some (60, true)), [19]⟩, ⟨(some 62), .load (some 8) (.t 2), (some (60, true)), [19]⟩, ⟨(some 63), .eqs false [false, false, false, false, false, false, false, false] (.t 61) (.t 62), (some (60, true)), [20, 21, 19]⟩, ⟨(some 64), .pick (.t 60) (.t 63) (.v (.bool false)), none, [19, 22]⟩, ⟨(some 65), .mv (.t 64), none, [23, 19]⟩, ⟨(some 66), .load (some 8) (.t 5), (some (65, true)), [24]⟩, ⟨(some 67), .build [(.int .i64 0), (.int .i64 0), (.int .i64 0), (.int .i64 0), (.int .i64 0), (.int .i64 0), (.int .i64 0), (.int .i64 0)] [(0, 1, (.v (.int .i64 2)))], (some (65, true)), [24]⟩, ⟨(some 68), .eqs false [false, false, false, false, false, false, false, false] (.t 66) (.t 67), (some (65, true)), [25, 26, 24]⟩, ⟨(some 69), .pick (.t 65) (.t 68) (.v (.bool false)), none, [24, 27]⟩, ⟨(some 70), .mv (.t 69), none, [28, 24]⟩, ⟨(some 71), .load (some 8) (.t 7), (some (70, true)), [29]⟩, ⟨(some 72), .build [(.int .i64 0), (.int .i64 0), (.int .i64 0), (.int .i64 0), (.int .i64 0), (.int .i64 0), (.int .i64 0), (.int .i64 0)] [(0, 1, (.v (.int .i64 3)))], (some (70, true)), [29]⟩, ⟨(some 73), .eqs false [false, false, false, false, false, false, false, false] (.t 71) (.t 72), (some (70, true)), [30, 31, 29]⟩, ⟨(some 74), .pick (.t 70) (.t 73) (.v (.bool false)), none, [29, 32]⟩, ⟨(some 75), .mv (.t 74), none, [33, 29]⟩, ⟨(some 76), .mv (.t 9), (some (75, true)), [34]⟩, ⟨(some 77), .bin .eql (.t 76) (.v (.int .i64 1)), (some (75, true)), [35, 34]⟩, ⟨(some 78), .pick (.t 75) (.t 77) (.v (.bool false)), none, [34, 36]⟩, ⟨(some 79), .mv (.t 78), none, [37, 34]⟩, ⟨(some 80), .load (some 8) (.t 10), (some (79, true)), [38]⟩, ⟨(some 81), .build [(.int .i64 0), (.int .i64 0), (.int .i64 0), (.int .i64 0), (.int .i64 0), (.int .i64 0), (.int .i64 0), (.int .i64 0)] [(0, 1, (.v (.int .i64 3))), (1, 1, (.v (.int .i64 1)))], (some (79, true)), [38]⟩, ⟨(some 82), .eqs false [false, false, false, false, false, false, false, false] (.t 80) (.t 81), (some (79, true)), [39, 40, 38]⟩, ⟨(some 83), .pick (.t 79) (.t 82) (.v (.bool false)), none, [38, 41]⟩, ⟨(some 0), .mv (.t 83), none, [42, 38, 0, 1, 2, 3, 4, 5, 6, 7, 8, 9, 10, 11, 12, 13, 14, 15, 16, 17, 18, 19, 20, 21, 22, 23, 24, 25, 26, 27, 28, 29, 30, 31, 32, 33, 34, 35, 36, 37, 38, 39, 40, 41, 42]⟩]) (.ret)))))))))
def prl26 : List PR := [.t 0]
def fll26 : List (Nat × List Bool) := [(6000034, List.replicate 1 false), (6000036, List.replicate 1 false), (6000035, List.replicate 1 false), (6000042, List.replicate 1 false)]
theorem bdl26:Try.f26.body=some (Try.f26.body.getD .skip):=by kernel_rfl
theorem cpl26:compC Try.prog Try.f26.ntmps (eqsL ++ fll26) (Try.f26.body.getD .skip)=some pcl26:=by kernel_rfl
theorem sql26 [WInv] {env:Env} (hE:EnvOK Try.prog env) {R:(Nat→Hb)→List Hw→((Nat→Hb)→List Hw→Prop)→Prop} (hR:∀ hp az Post,R hp az Post→az.length≤84∧∃ nc,pwp env pcl26 (fun e s=>(e=.normal∨e=.ret)∧∃ hp' rs,s.resHs prl26=some rs∧(∀ b,hp' b=s.hb b∨(hp' b=.dead∧s.hb b≠.no))∧Post hp' rs) (St.initH nc hp az)):SpecP Try.prog 26 R :=
 fn_sound_p hE (eqsH eqsOK (by kernel_rfl)) mixedOK Try.func26 bdl26 cpl26 (by kernel_rfl) (by kernel_rfl) (by kernel_rfl) hR
def pcl28 : PC := .seq (.reg false [⟨(some 2), .mv (.v (.pointer none)), none, []⟩, ⟨(some 3), .nilRow 53 8, none, [0]⟩, ⟨(some 4), .mv (.v (.bool false)), none, [1]⟩]) (.seq (.reg false [⟨(some 11), .callh 34 [], none, []⟩, ⟨(some 5), .mv (.t 11), none, [0, 0, 0]⟩]) (.seq (.reg false [⟨(some 6), .nilRow 53 8, none, []⟩]) (.seq (.seq (.reg false [⟨(some 12), .mv (.t 0), none, []⟩, ⟨(some 13), .len (.t 12), none, [0]⟩, ⟨(some 14), .mv (.v (.int .i64 0)), none, []⟩]) (.block 0 (.loop (.seq (.reg false [⟨(some 15), .bin .lss (.t 14) (.t 13), none, []⟩]) (.seq (.cond (.t 15) (.skip) (.exit 0)) (.seq (.block 1 (.seq (.reg false [⟨(some 16), .ixs 9 (.t 12) (.t 14), none, []⟩, ⟨(some 17), .load (some 9) (.t 16), none, [0]⟩, ⟨(some 8), .new [(.int .i64 0), (.int .i64 0), (.int .i64 0), (.int .i64 0), (.int .i64 0), (.int .i64 0), (.int .i64 0), (.int .i64 0), (.int .i64 0)], none, []⟩, ⟨none, .store 9 (.t 8) (.t 17), none, [2, 1, 0, 1, 2]⟩]) (.seq (.reg false [⟨(some 19), .mv (.t 5), none, []⟩, ⟨(some 20), .load (some 9) (.t 8), none, []⟩, ⟨(some 21), .callh 36 [(.t 19), (.t 20)], none, [0, 1]⟩, ⟨(some 18), .mv (.t 21), none, [2]⟩, ⟨(some 22), .ext (.t 18) 0, none, [3]⟩, ⟨(some 23), .ext (.t 18) 1, none, [3]⟩, ⟨(some 9), .new [(.int .i64 0), (.int .i64 0), (.int .i64 0), (.int .i64 0), (.int .i64 0), (.int .i64 0), (.int .i64 0), (.int .i64 0)], none, []⟩, ⟨none, .store 8 (.t 9) (.t 22), none, [6, 4, 2, 0, 1, 2, 3, 4, 6]⟩, ⟨(some 10), .mv (.t 23), none, [5, 7, 0, 1, 2, 3, 4, 5, 6, 7]⟩]) (.seq (.seq (.reg false [⟨(some 24), .mv (.t 10), none, []⟩, ⟨(some 25), .bin .neq (.t 24) (.v (.int .i64 0)), none, [0]⟩]) (.cond (.t 25) (.seq (.reg false [⟨(some 26), .mv (.t 5), none, []⟩, ⟨(some 2), .mv (.t 26), none, [0, 0]⟩, ⟨(some 3), .nilRow 53 8, none, [1, 0, 1]⟩, ⟨(some 4), .mv (.v (.bool false)), none, [2, 0, 1, 2]⟩]) (.ret)) (.skip))) (.reg false [⟨(some 27), .mv (.t 6), none, []⟩, ⟨(some 28), .load (some 8) (.t 9), none, []⟩, ⟨(some 29), .bslice 53 8 [(.int .i64 0), (.int .i64 0), (.int .i64 0), (.int .i64 0), (.int .i64 0), (.int .i64 0), (.int .i64 0), (.int .i64 0)] 1 [(0, 8, (.t 28))], none, [1]⟩, ⟨(some 30), .append 53 8 64 (.t 27) (.t 29), none, [0, 2]⟩, ⟨(some 6), .mv (.t 30), none, [3, 3, 0, 1, 2, 3]⟩]))))) (.reg false [⟨(some 31), .bin .add (.t 14) (.v (.int .i64 1)), none, []⟩, ⟨(some 14), .mv (.t 31), none, [0]⟩]))))))) (.seq (.reg false [⟨(some 32), .mv (.t 5), none, []⟩, ⟨(some 33), .mv (.t 6), none, []⟩, ⟨(some 2), .mv (.t 32), none, [0, 0]⟩, ⟨(some 3), .mv (.t 33), none, [1, 2, 0, 1, 2]⟩, ⟨(some 4), .mv (.v (.bool true)), none, [3, 0, 1, 2, 3]⟩]) (.ret)))))
def prl28 : List PR := [.t 2, .t 3, .t 4]
abbrev msl28_0 : List Nat := [15, 16, 17, 8, 19, 20, 21, 18, 22, 23, 9, 10, 24, 25, 26, 2, 3, 4, 27, 28, 29, 30, 6, 31, 14]
abbrev osl28_0 : List Nat := [8, 9, 3, 29, 6]
def fll28 : List (Nat × List Bool) := [(6000034, List.replicate 1 false), (6000036, List.replicate 1 false)]
theorem bdl28:Try.f28.body=some (Try.f28.body.getD .skip):=by kernel_rfl
theorem cpl28:compC Try.prog Try.f28.ntmps (eqsL ++ fll28) (Try.f28.body.getD .skip)=some pcl28:=by kernel_rfl
theorem sql28 [WInv] {env:Env} (hE:EnvOK Try.prog env) {R:(Nat→Hb)→List Hw→((Nat→Hb)→List Hw→Prop)→Prop} (hR:∀ hp az Post,R hp az Post→az.length≤34∧∃ nc,pwp env pcl28 (fun e s=>(e=.normal∨e=.ret)∧∃ hp' rs,s.resHs prl28=some rs∧(∀ b,hp' b=s.hb b∨(hp' b=.dead∧s.hb b≠.no))∧Post hp' rs) (St.initH nc hp az)):SpecP Try.prog 28 R :=
 fn_sound_p hE (eqsH eqsOK (by kernel_rfl)) mixedOK Try.func28 bdl28 cpl28 (by kernel_rfl) (by kernel_rfl) (by kernel_rfl) hR
def pcl10 : PC := .seq (.reg false [⟨(some 4), .mv (.v (.bool false)), none, []⟩]) (.seq (.seq (.reg false [⟨(some 25), .callp 26 [], none, []⟩, ⟨(some 26), .un .not (.t 25), none, [0]⟩]) (.cond (.t 26) (.seq (.reg false [⟨(some 4), .mv (.v (.bool false)), none, []⟩]) (.ret)) (.skip))) (.seq (.seq (.reg false [⟨(some 27), .mv (.t 0), none, []⟩, ⟨(some 28), .len (.t 27), none, [0]⟩, ⟨(some 29), .bin .gtr (.t 28) (.v (.int .i64 40)), none, [1]⟩, ⟨(some 30), .mv (.t 29), none, [2]⟩, ⟨(some 31), .mv (.t 0), (some (30, false)), [3]⟩, ⟨(some 32), .call 27 [(.t 31)], (some (30, false)), [4, 3, 3]⟩, ⟨(some 33), .un .not (.t 32), (some (30, false)), [5, 3]⟩, ⟨(some 34), .pick (.t 30) (.v (.bool true)) (.t 33), none, [3, 6]⟩, ⟨(some 35), .mv (.t 34), none, [7, 5]⟩, ⟨(some 36), .mv (.t 1), (some (35, false)), [8]⟩, ⟨(some 37), .bin .lss (.t 36) (.v (.int .i64 0)), (some (35, false)), [9, 8]⟩, ⟨(some 38), .pick (.t 35) (.v (.bool true)) (.t 37), none, [8, 10]⟩, ⟨(some 39), .mv (.t 38), none, [11, 8]⟩, ⟨(some 40), .mv (.t 1), (some (39, false)), [12]⟩, ⟨(some 41), .mv (.t 0), (some (39, false)), [12]⟩, ⟨(some 42), .len (.t 41), (some (39, false)), [14, 12]⟩, ⟨(some 43), .bin .gtr (.t 40) (.t 42), (some (39, false)), [13, 15, 12]⟩, ⟨(some 44), .pick (.t 39) (.v (.bool true)) (.t 43), none, [12, 16]⟩]) (.cond (.t 44) (.seq (.reg false [⟨(some 4), .mv (.v (.bool true)), none, []⟩]) (.ret)) (.skip))) (.seq (.reg false [⟨(some 46), .mv (.t 0), none, []⟩, ⟨(some 47), .mv (.t 1), none, []⟩, ⟨(some 48), .slc 9 (.t 46) none (some (.t 47)), none, [0, 1]⟩, ⟨(some 49), .callp 28 [(.t 48)], none, [2]⟩, ⟨(some 45), .mv (.t 49), none, [3]⟩, ⟨(some 50), .ext (.t 45) 0, none, [4]⟩, ⟨(some 51), .ext (.t 45) 1, none, [4]⟩, ⟨(some 52), .ext (.t 45) 2, none, [4]⟩, ⟨(some 5), .mv (.t 50), none, [5, 3, 0, 1, 2, 3, 4, 5]⟩, ⟨(some 6), .mv (.t 51), none, [6, 8, 0, 1, 2, 3, 4, 5, 6, 8]⟩, ⟨(some 7), .mv (.t 52), none, [7, 9, 0, 1, 2, 3, 4, 5, 6, 7, 8, 9]⟩]) (.seq (.seq (.reg false [⟨(some 53), .mv (.t 7), none, []⟩, ⟨(some 54), .un .not (.t 53), none, [0]⟩]) (.cond (.t 54) (.seq (.reg false [⟨(some 4), .mv (.v (.bool false)), none, []⟩]) (.ret)) (.skip))) (.seq (.reg false [⟨(some 55), .mv (.t 5), none, []⟩, ⟨(some 56), .callp 44 [(.t 55)], none, [0]⟩, ⟨(some 8), .mv (.t 56), none, [1, 1, 0, 1]⟩]) (.seq (.reg false [⟨(some 58), .mv (.t 0), none, []⟩, ⟨(some 59), .call 29 [(.t 58)], none, [0]⟩, ⟨(some 57), .mv (.t 59), none, [1]⟩, ⟨(some 60), .ext (.t 57) 0, none, [2]⟩, ⟨(some 61), .ext (.t 57) 1, none, [2]⟩, ⟨(some 9), .mv (.t 60), none, [3, 1, 0, 1, 2, 3]⟩, ⟨(some 10), .mv (.t 61), none, [4, 5, 0, 1, 2, 3, 4, 5]⟩]) (.seq (.seq (.reg false [⟨(some 62), .mv (.t 0), none, []⟩, ⟨(some 63), .mv (.t 1), none, []⟩, ⟨(some 64), .slc 9 (.t 62) (some (.t 63)) none, none, [0, 1]⟩, ⟨(some 65), .len (.t 64), none, [2]⟩, ⟨(some 66), .mv (.v (.int .i64 0)), none, []⟩]) (.block 0 (.loop (.seq (.reg false [⟨(some 67), .bin .lss (.t 66) (.t 65), none, []⟩]) (.seq (.cond (.t 67) (.skip) (.exit 0)) (.seq (.block 1 (.seq (.reg false [⟨(some 68), .mv (.t 66), none, []⟩, ⟨(some 69), .ixs 9 (.t 64) (.t 66), none, []⟩, ⟨(some 70), .load (some 9) (.t 69), none, [1]⟩, ⟨(some 12), .new [(.int .i64 0), (.int .i64 0), (.int .i64 0), (.int .i64 0), (.int .i64 0), (.int .i64 0), (.int .i64 0), (.int .i64 0), (.int .i64 0)], none, []⟩, ⟨(some 11), .mv (.t 68), none, [0, 0, 1, 2, 3]⟩, ⟨none, .store 9 (.t 12) (.t 70), none, [3, 2, 4, 0, 1, 2, 3, 4]⟩]) (.seq (.reg false [⟨(some 72), .mv (.t 5), none, []⟩, ⟨(some 73), .load (some 9) (.t 12), none, []⟩, ⟨(some 74), .callh 36 [(.t 72), (.t 73)], none, [0, 1]⟩, ⟨(some 71), .mv (.t 74), none, [2]⟩, ⟨(some 75), .ext (.t 71) 0, none, [3]⟩, ⟨(some 76), .ext (.t 71) 1, none, [3]⟩, ⟨(some 13), .new [(.int .i64 0), (.int .i64 0), (.int .i64 0), (.int .i64 0), (.int .i64 0), (.int .i64 0), (.int .i64 0), (.int .i64 0)], none, []⟩, ⟨none, .store 8 (.t 13) (.t 75), none, [6, 4, 2, 0, 1, 2, 3, 4, 6]⟩, ⟨(some 14), .mv (.t 76), none, [5, 7, 0, 1, 2, 3, 4, 5, 6, 7]⟩]) (.seq (.reg true [⟨(some 77), .mv (.t 14), none, []⟩, ⟨(some 78), .bin .neq (.t 77) (.v (.int .i64 0)), none, [0]⟩, ⟨(some 79), .mv (.t 78), none, [1]⟩, ⟨(some 80), .load (some 8) (.t 13), (some (79, false)), [2]⟩, ⟨(some 81), .mv (.t 9), (some (79, false)), [2]⟩, ⟨(some 82), .mv (.t 1), (some (79, false)), [2]⟩, ⟨(some 83), .mv (.t 11), (some (79, false)), [2]⟩, ⟨(some 84), .bin .add (.t 82) (.t 83), (some (79, false)), [5, 6, 2]⟩, ⟨(some 85), .ixs 8 (.t 81) (.t 84), (some (79, false)), [4, 7, 2]⟩, ⟨(some 86), .load (some 8) (.t 85), (some (79, false)), [8, 2]⟩, ⟨(some 87), .eqs true [false, false, false, false, false, false, false, false] (.t 80) (.t 86), (some (79, false)), [3, 9, 2]⟩, ⟨(some 88), .pick (.t 79) (.v (.bool true)) (.t 87), none, [2, 10]⟩]) (.cond (.t 88) (.seq (.reg false [⟨(some 4), .mv (.v (.bool false)), none, []⟩]) (.ret)) (.skip)))))) (.reg false [⟨(some 89), .bin .add (.t 66) (.v (.int .i64 1)), none, []⟩, ⟨(some 66), .mv (.t 89), none, [0]⟩]))))))) (.seq (.reg false [⟨(some 90), .mv (.t 8), none, []⟩, ⟨(some 91), .callp 44 [(.t 90)], none, [0]⟩, ⟨(some 15), .mv (.t 91), none, [1, 1, 0, 1]⟩]) (.seq (.seq (.reg false [⟨(some 92), .mv (.t 0), none, []⟩, ⟨(some 93), .mv (.t 1), none, []⟩, ⟨(some 94), .slc 9 (.t 92) (some (.t 93)) none, none, [0, 1]⟩, ⟨(some 95), .len (.t 94), none, [2]⟩, ⟨(some 96), .mv (.v (.int .i64 0)), none, []⟩]) (.block 2 (.loop (.seq (.reg false [⟨(some 97), .bin .lss (.t 96) (.t 95), none, []⟩]) (.seq (.cond (.t 97) (.skip) (.exit 2)) (.seq (.block 3 (.seq (.reg false [⟨(some 98), .mv (.t 96), none, []⟩, ⟨(some 99), .ixs 9 (.t 94) (.t 96), none, []⟩, ⟨(some 100), .load (some 9) (.t 99), none, [1]⟩, ⟨(some 17), .new [(.int .i64 0), (.int .i64 0), (.int .i64 0), (.int .i64 0), (.int .i64 0), (.int .i64 0), (.int .i64 0), (.int .i64 0), (.int .i64 0)], none, []⟩, ⟨(some 16), .mv (.t 98), none, [0, 0, 1, 2, 3]⟩, ⟨none, .store 9 (.t 17) (.t 100), none, [3, 2, 4, 0, 1, 2, 3, 4]⟩]) (.seq (.reg false [⟨(some 102), .mv (.t 8), none, []⟩, ⟨(some 103), .load (some 9) (.t 17), none, []⟩, ⟨(some 104), .callh 36 [(.t 102), (.t 103)], none, [0, 1]⟩, ⟨(some 101), .mv (.t 104), none, [2]⟩, ⟨(some 105), .ext (.t 101) 0, none, [3]⟩, ⟨(some 106), .ext (.t 101) 1, none, [3]⟩, ⟨(some 18), .new [(.int .i64 0), (.int .i64 0), (.int .i64 0), (.int .i64 0), (.int .i64 0), (.int .i64 0), (.int .i64 0), (.int .i64 0)], none, []⟩, ⟨none, .store 8 (.t 18) (.t 105), none, [6, 4, 2, 0, 1, 2, 3, 4, 6]⟩, ⟨(some 19), .mv (.t 106), none, [5, 7, 0, 1, 2, 3, 4, 5, 6, 7]⟩]) (.seq (.reg true [⟨(some 107), .mv (.t 19), none, []⟩, ⟨(some 108), .bin .neq (.t 107) (.v (.int .i64 0)), none, [0]⟩, ⟨(some 109), .mv (.t 108), none, [1]⟩, ⟨(some 110), .load (some 8) (.t 18), (some (109, false)), [2]⟩, ⟨(some 111), .mv (.t 9), (some (109, false)), [2]⟩, ⟨(some 112), .mv (.t 1), (some (109, false)), [2]⟩, ⟨(some 113), .mv (.t 16), (some (109, false)), [2]⟩, ⟨(some 114), .bin .add (.t 112) (.t 113), (some (109, false)), [5, 6, 2]⟩, ⟨(some 115), .ixs 8 (.t 111) (.t 114), (some (109, false)), [4, 7, 2]⟩, ⟨(some 116), .load (some 8) (.t 115), (some (109, false)), [8, 2]⟩, ⟨(some 117), .eqs true [false, false, false, false, false, false, false, false] (.t 110) (.t 116), (some (109, false)), [3, 9, 2]⟩, ⟨(some 118), .pick (.t 109) (.v (.bool true)) (.t 117), none, [2, 10]⟩]) (.cond (.t 118) (.seq (.reg false [⟨(some 4), .mv (.v (.bool false)), none, []⟩]) (.ret)) (.skip)))))) (.reg false [⟨(some 119), .bin .add (.t 96) (.v (.int .i64 1)), none, []⟩, ⟨(some 96), .mv (.t 119), none, [0]⟩]))))))) (.seq (.reg false [⟨(some 120), .mv (.t 0), none, []⟩, ⟨(some 121), .mv (.t 1), none, []⟩, ⟨(some 122), .slc 9 (.t 120) none (some (.t 121)), none, [0, 1]⟩, ⟨(some 123), .build [(.slice none 0 0)] [(0, 1, (.t 122))], none, [2]⟩, ⟨(some 20), .new [(.slice none 0 0)], none, []⟩, ⟨none, .store 1 (.t 20) (.t 123), none, [4, 3, 0, 1, 2, 3, 4]⟩]) (.seq (.seq (.reg false [⟨(some 124), .mv (.v (.int .i64 0)), none, []⟩]) (.block 4 (.loop (.seq (.reg false [⟨(some 125), .bin .lss (.t 124) (.v (.int .i64 8)), none, []⟩]) (.seq (.cond (.t 125) (.skip) (.exit 4)) (.seq (.block 5 (.seq (.reg false [⟨(some 126), .mv (.t 124), none, []⟩, ⟨(some 21), .mv (.t 126), none, [0, 0]⟩]) (.seq (.reg true [⟨(some 127), .mv (.t 15), none, []⟩, ⟨(some 128), .mv (.t 21), none, []⟩, ⟨(some 129), .callh 35 [(.t 127), (.t 128)], none, [0, 1]⟩, ⟨(some 130), .load (some 1) (.t 20), none, []⟩, ⟨(some 131), .mv (.t 21), none, []⟩, ⟨(some 132), .call 39 [(.t 130), (.t 131)], none, [3, 4, 2]⟩, ⟨(some 133), .eqs true [false, false, false, false, false, false, false, false] (.t 129) (.t 132), none, [2, 5]⟩, ⟨(some 134), .mv (.t 133), none, [6, 5]⟩, ⟨(some 135), .mv (.t 5), (some (134, false)), [7]⟩, ⟨(some 136), .mv (.t 21), (some (134, false)), [7]⟩, ⟨(some 137), .callh 35 [(.t 135), (.t 136)], (some (134, false)), [8, 9, 7, 7]⟩, ⟨(some 138), .mv (.t 8), (some (134, false)), [7]⟩, ⟨(some 139), .mv (.t 21), (some (134, false)), [7]⟩, ⟨(some 140), .callh 35 [(.t 138), (.t 139)], (some (134, false)), [11, 12, 10, 7]⟩, ⟨(some 141), .eqs true [false, false, false, false, false, false, false, false] (.t 137) (.t 140), (some (134, false)), [10, 13, 7]⟩, ⟨(some 142), .pick (.t 134) (.v (.bool true)) (.t 141), none, [7, 14]⟩]) (.cond (.t 142) (.seq (.reg false [⟨(some 4), .mv (.v (.bool false)), none, []⟩]) (.ret)) (.skip))))) (.reg false [⟨(some 143), .bin .add (.t 124) (.v (.int .i64 1)), none, []⟩, ⟨(some 124), .mv (.t 143), none, [0]⟩]))))))) (.seq (.reg false [⟨(some 22), .mv (.v (.pointer none)), none, []⟩]) (.seq (.reg false [⟨(some 145), .mv (.t 22), none, []⟩, ⟨(some 146), .build [(.int .i64 0), (.int .i64 0), (.int .i64 0), (.int .i64 0), (.int .i64 0), (.int .i64 0), (.int .i64 0), (.int .i64 0), (.int .i64 0)] [(1, 1, (.v (.int .i64 1)))], none, []⟩, ⟨(some 147), .callh 36 [(.t 145), (.t 146)], none, [0, 1]⟩, ⟨(some 144), .mv (.t 147), none, [2]⟩, ⟨(some 148), .ext (.t 144) 0, none, [3]⟩, ⟨(some 149), .ext (.t 144) 1, none, [3]⟩, ⟨(some 23), .new [(.int .i64 0), (.int .i64 0), (.int .i64 0), (.int .i64 0), (.int .i64 0), (.int .i64 0), (.int .i64 0), (.int .i64 0)], none, []⟩, ⟨none, .store 8 (.t 23) (.t 148), none, [6, 4, 2, 0, 1, 2, 3, 4, 6]⟩, ⟨(some 24), .mv (.t 149), none, [5, 7, 0, 1, 2, 3, 4, 5, 6, 7]⟩]) (.seq (.reg false [⟨(some 150), .mv (.t 6), none, []⟩, ⟨(some 151), .len (.t 150), none, [0]⟩, ⟨(some 152), .mv (.t 1), none, []⟩, ⟨(some 153), .bin .eql (.t 151) (.t 152), none, [1, 2]⟩, ⟨(some 154), .mv (.t 153), none, [3]⟩, ⟨(some 155), .mv (.t 24), (some (154, true)), [4]⟩, ⟨(some 156), .bin .eql (.t 155) (.v (.int .i64 11)), (some (154, true)), [5, 4]⟩, ⟨(some 157), .pick (.t 154) (.t 156) (.v (.bool false)), none, [4, 6]⟩, ⟨(some 158), .mv (.t 157), none, [7, 4]⟩, ⟨(some 159), .mv (.t 22), (some (158, true)), [8]⟩, ⟨(some 160), .callp 44 [(.t 159)], (some (158, true)), [9, 8, 8]⟩, ⟨(some 161), .pnil false (.t 160), (some (158, true)), [10, 8]⟩, ⟨(some 162), .pick (.t 158) (.t 161) (.v (.bool false)), none, [8, 11]⟩, ⟨(some 163), .mv (.t 162), none, [12, 10]⟩, ⟨(some 164), .mv (.t 22), (some (163, true)), [13]⟩, ⟨(some 165), .callh 42 [(.t 164)], (some (163, true)), [14, 13, 13]⟩, ⟨(some 166), .bin .eql (.t 165) (.v (.int .i64 0)), (some (163, true)), [15, 13]⟩, ⟨(some 167), .pick (.t 163) (.t 166) (.v (.bool false)), none, [13, 16]⟩, ⟨(some 168), .mv (.t 167), none, [17, 15]⟩, ⟨(some 169), .mv (.t 22), (some (168, true)), [18]⟩, ⟨(some 170), .callh 40 [(.t 169)], (some (168, true)), [19, 18, 18]⟩, ⟨(some 171), .bin .eql (.t 170) (.v (.int .i64 0)), (some (168, true)), [20, 18]⟩, ⟨(some 172), .pick (.t 168) (.t 171) (.v (.bool false)), none, [18, 21]⟩, ⟨(some 4), .mv (.t 172), none, [22, 20, 0, 1, 2, 3, 4, 5, 6, 7, 8, 9, 10, 11, 12, 13, 14, 15, 16, 17, 18, 19, 20, 21, 22]⟩]) (.ret)))))))))))))))
def prl10 : List PR := [.t 4]
abbrev msl10_0 : List Nat := [67, 68, 69, 70, 12, 11, 72, 73, 74, 71, 75, 76, 13, 14, 77, 78, 79, 80, 81, 82, 83, 84, 85, 86, 87, 88, 4, 89, 66]
abbrev osl10_0 : List Nat := [12, 13]
abbrev msl10_1 : List Nat := [97, 98, 99, 100, 17, 16, 102, 103, 104, 101, 105, 106, 18, 19, 107, 108, 109, 110, 111, 112, 113, 114, 115, 116, 117, 118, 4, 119, 96]
abbrev osl10_1 : List Nat := [17, 18]
abbrev msl10_2 : List Nat := [125, 126, 21, 127, 128, 129, 130, 131, 132, 133, 134, 135, 136, 137, 138, 139, 140, 141, 142, 4, 143, 124]
abbrev osl10_2 : List Nat := []
def fll10 : List (Nat × List Bool) := [(8000026, List.replicate 1 false), (8000028, List.replicate 1 false), (8000044, List.replicate 1 false), (6000036, List.replicate 1 false), (6000035, List.replicate 1 false), (6000040, List.replicate 1 false), (6000042, List.replicate 1 false)]
theorem bdl10:Try.f10.body=some (Try.f10.body.getD .skip):=by kernel_rfl
theorem cpl10:compC Try.prog Try.f10.ntmps (eqsL ++ fll10) (Try.f10.body.getD .skip)=some pcl10:=by kernel_rfl
theorem sql10 [WInv] {env:Env} (hE:EnvOK Try.prog env) {R:(Nat→Hb)→List Hw→((Nat→Hb)→List Hw→Prop)→Prop} (hR:∀ hp az Post,R hp az Post→az.length≤173∧∃ nc,pwp env pcl10 (fun e s=>(e=.normal∨e=.ret)∧∃ hp' rs,s.resHs prl10=some rs∧(∀ b,hp' b=s.hb b∨(hp' b=.dead∧s.hb b≠.no))∧Post hp' rs) (St.initH nc hp az)):SpecP Try.prog 10 R :=
 fn_sound_p hE (eqsH eqsOK (by kernel_rfl)) mixedOK Try.func10 bdl10 cpl10 (by kernel_rfl) (by kernel_rfl) (by kernel_rfl) hR
end Go.Proofs.Ytffcpijeebagfaa
end
section
namespace Go.Proofs.Ytffcpijeebagfaa
open Go Go.RowKit
set_option maxRecDepth 100000
set_option maxHeartbeats 4000000
noncomputable def stepsT (l:List Ev):Nat→Option (TS×TabP×List Ck)
 | 0=>some (TS.new,.new,[])
 | k+1=>match stepsT l k,l[k]? with
   | some (s,p,cs),some e=>if e.valid=true then (s.add e).map fun s'=>(s',(p.adv e).2,cs ++ [(p.adv e).1]) else none
   | _,_=>none
structure Plays (l:List Ev):Prop where
 len:l.length≤1000
 at_:∀ k,k≤l.length→∃ s p cs,stepsT l k=some (s,p,cs)∧s.wf∧(∀ c ∈ p.ck,OK64 c)∧cs.length=k∧∀ c ∈ cs,c.length=8
def rowsOf (cs:List Ck):List (List Dt):=cs.map ckRow
def env_play:Env:=h1 34 R_tnew (h1 36 R_adv e0)
theorem envOK_play:EnvOK Try.prog env_play:=.h1 s_tnew (.h1 s_adv .e0)
def Played (hp:Nat→Hb) (N:Nat) (l:List Ev) (h:Nat→Hb) (r:List Hw):Prop:=∃ b D N' t s p cs,stepsT l l.length=some (s,p,cs)∧TabAt h b D t∧(t.p=p∧t.st=s∧t.sn≤2 * l.length)∧Left hp (fun _=>False) N h D N'∧r=[hP b 0,.one (.d (.im (rowsOf cs))),.one (.d (dB true))]
def R_play (hp:Nat→Hb) (az:List Hw) (Post:(Nat→Hb)→List Hw→Prop):Prop:=∃ (l:List Ev) (N:Nat),az=[paHw (evsPa l)]∧Free hp N∧Plays l∧Post=Played hp N l
theorem s_play:SpecP Try.prog 28 R_play:=by
 refine sql28 envOK_play ?_;rintro hp az Post ⟨l,N,rfl,hN,hpl,rfl⟩;refine ⟨by simp,fun _=>1,?_⟩;obtain ⟨hp1,t1,D1,hR1,hT1,⟨a1,a2,a3⟩,hL1⟩:=new_run hN;unfold pcl28;refine pwp_start ?_;simp only [↓evP,evB,stB,reduceIte,reduceCtorEq,seval,paHw,evsPa,evsD];refine callHS_intro hp1 [hP (N+5) 0] (by simp only [stB,reduceIte,reduceCtorEq,seval];exact hR1) ?_
 simp only [↓evP,evB,stB,reduceIte,reduceCtorEq,Nat.reduceEqDiff,Nat.reduceAdd,Nat.reduceMul,Nat.reduceLeDiff,Nat.reduceLT,Nat.reduceSub,Nat.reduceBEq];refine pwp_loopH msl28_0 (6 :: osl28_0) (fun m st=>∃ k s p cs b D N' t,m=l.length - k∧k≤l.length∧stepsT l k=some (s,p,cs)∧st.sl 14=aI k∧b=N+5∧st.sl 6=.b (.one (.own 6 1 (rowsOf cs)))∧st.gen 6=1∧st.ob 6=.row 53 8 k∧TabAt st.hb b D t∧(t.p=p∧t.st=s∧t.sn≤2 * k)∧Left hp (fun _=>False) N st.hb D N') l.length (by (repeat' (first | exact AllHp.init | assumption | (refine AllHp.ap ?_ rfl)))) ?_ ?_
 ·exact ⟨0,TS.new,.new,[],N+5,D1,N+6,t1,rfl,Nat.zero_le _,rfl,by simp only [stB,reduceIte,reduceCtorEq,Nat.reduceEqDiff,Nat.reduceAdd,Nat.reduceMul,Nat.reduceLeDiff,Nat.reduceLT,Nat.reduceSub,Nat.reduceBEq];rfl,rfl,by simp only [stB,reduceIte,reduceCtorEq,Nat.reduceEqDiff,Nat.reduceAdd,Nat.reduceMul,Nat.reduceLeDiff,Nat.reduceLT,Nat.reduceSub,Nat.reduceBEq];rfl,by simp only [stB,reduceIte,reduceCtorEq,Nat.reduceEqDiff,Nat.reduceAdd,Nat.reduceMul,Nat.reduceLeDiff,Nat.reduceLT,Nat.reduceSub,Nat.reduceBEq],by simp only [stB,reduceIte,reduceCtorEq,Nat.reduceEqDiff,Nat.reduceAdd,Nat.reduceMul,Nat.reduceLeDiff,Nat.reduceLT,Nat.reduceSub,Nat.reduceBEq],by simp only [stB,reduceIte,reduceCtorEq,Nat.reduceEqDiff,Nat.reduceAdd,Nat.reduceMul,Nat.reduceLeDiff,Nat.reduceLT,Nat.reduceSub,Nat.reduceBEq];exact hT1,⟨a1,a2,by rw [a3];exact Nat.zero_le _⟩,by simp only [stB,reduceIte,reduceCtorEq,Nat.reduceEqDiff,Nat.reduceAdd,Nat.reduceMul,Nat.reduceLeDiff,Nat.reduceLT,Nat.reduceSub,Nat.reduceBEq];exact hL1⟩
 rintro m j hjn hja ⟨k,s,p,cs,b,D,N',t,rfl,hk,hst,h14,rfl,h6,g6,o6,hT,⟨e1,e2,e3⟩,hL⟩;simp only [stB,reduceIte,reduceCtorEq,seval,hjn] at h14 h6 g6 o6 hT hL
 rcases Nat.lt_or_ge k l.length with hlt | hge
 ·obtain ⟨e,hle⟩:∃ e,l[k]? = some e:=⟨_,List.getElem?_eq_getElem hlt⟩
  obtain ⟨_,_,_,hst0,hwf,hck,hcl,hc8⟩:=hpl.at_ k hk;rw [hst] at hst0;cases hst0;obtain ⟨s2,p2,cs2,hst2,hwf2,hck2,hcl2,hc82⟩:=hpl.at_ (k+1) hlt;have hst3:=hst2;unfold stepsT at hst3;rw [hst,hle] at hst3;dsimp only at hst3
  have hv:e.valid=true:=by
   cases hq:e.valid with
   | true=>rfl
   | false=>rw [hq,if_neg (by simp)] at hst3;cases hst3
  rw [if_pos hv,Option.map_eq_some_iff] at hst3;obtain ⟨s',hadd,heq⟩:=hst3;have hlen:=hpl.len;obtain ⟨hp2,D2,t2,hR2,hT2,⟨f1,f2,f3⟩,hL2⟩:=adv_yes (e:=e) hT hL.lt hL.free (by rw [e2];exact hwf) (by omega) (by have:=hck;rw [←e1] at this;exact this) hv (by rw [e2];exact hadd)
  have klt:(k:Int) < (l.length:Int):=by omega
  have k0:(0:Int)≤(k:Int):=by omega
  simp only [↓evP,evB,stB,reduceIte,reduceCtorEq,seval,h14,h6,g6,o6,klt,decide_true,hle,k0,Ev.row];refine callHS_intro hp2 [ckHw (t.p.adv e).1,.one (hI 0)] (by simp only [stB,reduceIte,reduceCtorEq,Nat.reduceEqDiff,Nat.reduceAdd,Nat.reduceMul,Nat.reduceLeDiff,Nat.reduceLT,Nat.reduceSub,Nat.reduceBEq,hjn];exact hR2) ?_
  obtain ⟨c9,h9⟩:∃ c9,(t.p.adv e).1=c9:=⟨_,rfl⟩
  rw [h9];have hl9:c9.length=8:=hc82 c9 (by cases heq;rw [←h9,e1];simp)
  have lc9:(ckCells c9).length=8:=by rw [ckCells_length,hl9]
  obtain ⟨l3,l4⟩:=ckLd hl9;have lr:(rowsOf cs).length=k:=by unfold rowsOf;rw [List.length_map,hcl]
  have lk:k+1≤1000000:=by omega
  have rl:(ckRow c9).length=8:=by unfold ckRow;rw [List.length_map,hl9]
  have tk:(ckRow c9).take 8=ckRow c9:=List.take_of_length_le (by rw [rl];exact Nat.le_refl _)
  simp only [↓evP,evB,stB,reduceIte,reduceCtorEq,Nat.reduceEqDiff,Nat.reduceAdd,Nat.reduceMul,Nat.reduceLeDiff,Nat.reduceLT,Nat.reduceSub,Nat.reduceBEq,h14,h6,g6,o6,ckHw,ckH_cl,lc9,wr_new8 hl9,l3,l4,ckCells_dt,lr,lk,rl,tk];refine ⟨fun q=>absurd q (by decide),fun _=>?_⟩
  exact ⟨l.length - (k+1),by omega,(by repeat' (first | assumption | exact withinH_over hja | (refine withinH_ap ?_ rfl rfl) | (refine withinH_ap0 ?_ rfl))),k+1,s2,p2,cs2,N+5,D2,N'+80,t2,rfl,hlt,hst2,by simp only [stB,reduceIte,reduceCtorEq,Nat.reduceEqDiff,Nat.reduceAdd,Nat.reduceMul,Nat.reduceLeDiff,Nat.reduceLT,Nat.reduceSub,Nat.reduceBEq,h14];rw [wrN (by omega)],rfl,by simp only [stB,reduceIte,reduceCtorEq,Nat.reduceEqDiff,Nat.reduceAdd,Nat.reduceMul,Nat.reduceLeDiff,Nat.reduceLT,Nat.reduceSub,Nat.reduceBEq];cases heq;unfold rowsOf;rw [List.map_append,←e1,h9];rfl,by simp only [stB,reduceIte,reduceCtorEq,Nat.reduceEqDiff,Nat.reduceAdd,Nat.reduceMul,Nat.reduceLeDiff,Nat.reduceLT,Nat.reduceSub,Nat.reduceBEq,g6],by simp only [stB,reduceIte,reduceCtorEq,Nat.reduceEqDiff,Nat.reduceAdd,Nat.reduceMul,Nat.reduceLeDiff,Nat.reduceLT,Nat.reduceSub,Nat.reduceBEq,o6,rowF_row],by simp only [stB,reduceIte,reduceCtorEq,Nat.reduceEqDiff,Nat.reduceAdd,Nat.reduceMul,Nat.reduceLeDiff,Nat.reduceLT,Nat.reduceSub,Nat.reduceBEq];exact hT2,⟨by rw [f1];cases heq;rw [e1],by rw [f2];cases heq;rfl,by omega⟩,by simp only [stB,reduceIte,reduceCtorEq,Nat.reduceEqDiff,Nat.reduceAdd,Nat.reduceMul,Nat.reduceLeDiff,Nat.reduceLT,Nat.reduceSub,Nat.reduceBEq];exact hL.trans hL2⟩
 ·have hkl:k=l.length:=by omega
  have klt:¬ (k:Int) < (l.length:Int):=by omega
  simp only [↓evP,evB,stB,reduceIte,reduceCtorEq,seval,h14,h6,g6,o6,klt,decide_false,prl28];refine ⟨_,_,rfl,fun b=>.inl rfl,N+5,D,N',t,s,p,cs,by rw [←hkl];exact hst,?_,⟨e1,e2,by omega⟩,?_,rfl⟩
  ·simp only [stB,reduceIte,reduceCtorEq,seval,hjn];exact hT
  ·simp only [stB,reduceIte,reduceCtorEq,seval,hjn];exact hL
end Go.Proofs.Ytffcpijeebagfaa
end
section
namespace Go.Proofs.Ytffcpijeebagfaa
open Go Go.RowKit
set_option maxRecDepth 100000
theorem evAt_get {l:List Ev} {i:Nat} (h:i < l.length):l[i]? = some (evAt l i):=by
 rw [evAt_of (List.getElem?_eq_getElem h)];exact List.getElem?_eq_getElem h
theorem stp_get {l:List Ev} {i:Nat} (h:i < l.length):(stampsL l)[i]? = some (stp l i):=by
 have h2:i < (stampsL l).length:=by rw [stampsL_length];exact h
 unfold stp;rw [List.getD_eq_getElem?_getD,List.getElem?_eq_getElem h2];rfl
section
variable {l:List Ev} (hc:chk l=l.length) (hl:l.length≤1000)
include hc hl
theorem stepsT_valid {k:Nat} (hk:k≤l.length):stepsT l k=some (tsAt l k,tabTo l k,(stampsL l).take k):=by
 induction k with
 | zero=>rfl
 | succ k ih =>
   have hlt:k < l.length:=hk;unfold stepsT;rw [ih (by omega),evAt_get hlt];dsimp only;rw [if_pos (val_at hc hlt),tsAt_succ hc hlt,tab_stp hc (by omega) hlt,List.take_add_one,stp_get hlt];rfl
theorem tab_ck {k:Nat} (hk:k≤l.length):∀ c ∈ (tabTo l k).ck,OK64 c∧c.length=8:=by
 have h:=tab_inv hc (by omega) hk;have hok:=runTo_ok l k;intro c hm;obtain ⟨g,hg,rfl⟩:=List.getElem_of_mem hm;have h8:g < 8:=by have:=h.cl;omega
 have he:=h.ck (g:Int) (by omega) (by omega);rw [Int.toNat_natCast,List.getD_eq_getElem?_getD,List.getElem?_eq_getElem hg,Option.getD_some] at he
 have hb:COk (k:Int) ((tabTo l k).ck[g]):=by
  rw [he];split
  ·exact COk.getD (by omega) hok.bc _
  ·exact COk.getD (by omega) hok.cc _
 exact ⟨fun x hx=>by have:=hb.2 x hx;omega,hb.1⟩
theorem plays_valid:Plays l:=by
 refine ⟨hl,fun k hk=>⟨_,_,_,stepsT_valid hc hl hk,(tsAt_good hc hk).2.1,fun c hm=>(tab_ck hc hl hk c hm).1,?_,fun c hm=>?_⟩⟩
 ·rw [List.length_take,stampsL_length];omega
 ·exact (stampsL_ok l c (List.mem_of_mem_take hm)).1
theorem played_valid {hp:Nat→Hb} {N:Nat} {h:Nat→Hb} {r:List Hw} (hq:Played hp N l h r):∃ b D N' t,TabAt h b D t∧(t.p=tabTo l l.length∧t.st=tsAt l l.length∧t.sn≤2 * l.length)∧Left hp (fun _=>False) N h D N'∧r=[hP b 0,.one (.d (.im (rowsOf (stampsL l)))),.one (.d (dB true))]:=by
 obtain ⟨b,D,N',t,s,p,cs,h1,h2,⟨h3,h4,h5⟩,h6,h7⟩:=hq;rw [stepsT_valid hc hl (Nat.le_refl _),List.take_of_length_le (by rw [stampsL_length];exact Nat.le_refl _)] at h1
 cases h1;exact ⟨b,D,N',t,h2,⟨h3,h4,h5⟩,h6,h7⟩
theorem adv_valid {k:Nat} (hk:k < l.length) {hp:Nat→Hb} {b0 N:Nat} {D:Nat→Prop} {t:TabL} (h:TabAt hp b0 D t) (hD:∀ b,D b→b < N) (hN:Free hp N) (h1:t.p=tabTo l k) (h2:t.st=tsAt l k) (h3:t.sn≤2 * k) :
 ∃ hp' D' t',R_adv hp [hP b0 0,evW (evAt l k)] hp' [ckHw (stp l k),.one (hI 0)]∧TabAt hp' b0 D' t'∧(t'.p=tabTo l (k+1)∧t'.st=tsAt l (k+1)∧t'.sn≤2 * (k+1))∧Left hp D N hp' D' (N+80):=by
 obtain ⟨hp',D',t',r1,r2,⟨r3,r4,r5⟩,r6⟩:=adv_yes (e:=evAt l k) h hD hN (by rw [h2];exact (tsAt_good hc (by omega)).2.1) (by omega)
  (fun c hm=>by rw [show t.ck=t.p.ck from rfl,h1] at hm;exact (tab_ck hc hl (by omega) c hm).1) (val_at hc hk) (s':=tsAt l (k+1)) (by rw [h2];exact tsAt_succ hc hk)
 rw [h1,tab_stp hc (by omega) hk] at r1;exact ⟨hp',D',t',r1,r2,⟨by rw [r3,h1];rfl,r4,by omega⟩,r6⟩
end
theorem nodup_leA {α:Type} [DecidableEq α] {l l':List α} (h:l.Nodup) (hs:∀ n ∈ l,n ∈ l'):l.length≤l'.length:=by
 induction l generalizing l' with
 | nil=>exact Nat.zero_le _
 | cons a l ih =>
   rw [List.nodup_cons] at h;have ha:=hs a (List.mem_cons_self ..);have:=ih h.2 (l':=l'.erase a) (fun n hn=>(List.mem_erase_of_ne (fun e:n=a=>h.1 (e ▸ hn))).2 (hs n (List.mem_cons_of_mem _ hn)));rw [List.length_erase_of_mem ha] at this;have hpos:=List.length_pos_of_mem ha;rw [List.length_cons];omega
def clsOf (k:Int):Int:=if k=7∨k=9 then 1 else if k=10 then 2 else if k=12 then 3 else if k=4∨k=5 then 4 else if k=15∨k=17∨k=19 then 5 else 0
theorem clsOf_iff {k c:Int}:clsOf k=c↔(c=1∧(k=7∨k=9))∨(c=2∧k=10)∨(c=3∧k=12)∨(c=4∧(k=4∨k=5))∨(c=5∧(k=15∨k=17∨k=19))∨(c=0∧k≠7∧k≠9∧k≠10∧k≠12∧k≠4∧k≠5∧k≠15∧k≠17∧k≠19):=by
 unfold clsOf
 by_cases h1:k=7∨k=9
 ·rw [if_pos h1];omega
 rw [if_neg h1]
 by_cases h2:k=10
 ·rw [if_pos h2];omega
 rw [if_neg h2]
 by_cases h3:k=12
 ·rw [if_pos h3];omega
 rw [if_neg h3]
 by_cases h4:k=4∨k=5
 ·rw [if_pos h4];omega
 rw [if_neg h4]
 by_cases h5:k=15∨k=17∨k=19
 ·rw [if_pos h5];omega
 rw [if_neg h5];omega
abbrev Tri:=Int×Int×Int
def triOf (e:Ev):Tri:=(clsOf e.kind,e.obj,e.off)
def clsK (k:Int):Int:=if k=0∨k=1 then 1 else k
def triE (v:Value):Tri:=match v with
 | .agg a=>(match a.toList with
   | [.int _ k,.int _ x,.int _ y]=>(clsK k,x,y)
   | _=>(0,0,0))
 | _=>(0,0,0)
theorem triE_obj {k x y:Int}:triE (objK k x y)=(clsK k,x,y):=rfl
def triR (v:Value):Tri:=match v with
 | .int _ o=>(5,o,0)
 | _=>(0,0,0)
def triS (t:TabL):List Tri:=t.rs.map (fun e=>triR e.1) ++ (t.es.filter (keepE t.p)).map (fun e=>triE e.1)
theorem triS_len (t:TabL):(triS t).length=t.objects:=by
 unfold triS TabL.objects;rw [List.length_append,List.length_map,List.length_map]
section
variable {hp:Nat→Hb} {b0:Nat} {D:Nat→Prop} {t:TabL} (h:TabAt hp b0 D t)
include h
theorem es_some {e:Value×Nat×Hw} (he:e ∈ t.es):∃ k x y,e.1=objK k x y∧(t.p.f k x y).isSome=true:=by
 obtain ⟨k,x,y,hk,_⟩:=h.ok e he;have ha:alook t.es (objK k x y)=some e.2:=alook_of_mem h.ow.kn (by rw [←hk];exact he)
 have:=h.oa k x y;refine ⟨k,x,y,hk,?_⟩
 show (t.f k x y).isSome=true
 cases hf:t.f k x y with
 | none=>rw [hf,ha] at this;cases this
 | some c=>rfl
theorem es_of {k x y:Int} (hs:(t.p.f k x y).isSome=true):∃ r,(objK k x y,r) ∈ t.es:=by
 have:=h.oa k x y
 cases hf:t.f k x y with
 | none=>rw [show t.p.f k x y=t.f k x y from rfl,hf] at hs;cases hs
 | some c=>rw [hf] at this;obtain ⟨_,n,ha⟩:=this;exact ⟨_,alook_mem ha⟩
theorem rs_some {e:Value×Nat×Hw} (he:e ∈ t.rs):∃ o,e.1=.int .i64 o∧(t.p.g o).isSome=true:=by
 obtain ⟨o,ho⟩:=h.rk e he;have ha:alook t.rs (.int .i64 o)=some e.2:=alook_of_mem h.rw.kn (by rw [←ho];exact he)
 have:=h.ra o;refine ⟨o,ho,?_⟩
 show ((t.g o).map _).isSome=true
 cases hf:t.g o with
 | none=>rw [hf,ha] at this;cases this
 | some c=>rfl
theorem rs_of {o:Int} (hs:(t.p.g o).isSome=true):∃ r,(Value.int .i64 o,r) ∈ t.rs:=by
 have:=h.ra o
 cases hf:t.g o with
 | none=>rw [show t.p.g o=(t.g o).map _ from rfl,hf] at hs;cases hs
 | some c =>
   rw [hf] at this;obtain ⟨b1,b2,l1,l2⟩:=c;obtain ⟨⟨n,ha⟩,_⟩:=this;exact ⟨_,alook_mem ha⟩
theorem triS_nodup:(triS t).Nodup:=by
 unfold triS;rw [List.nodup_append];have n1:t.rs.Pairwise (fun a b=>a.1≠b.1):=by have:=h.rw.kn;unfold List.Nodup at this;rw [List.pairwise_map] at this;exact this
 have n2:t.es.Pairwise (fun a b=>a.1≠b.1):=by have:=h.ow.kn;unfold List.Nodup at this;rw [List.pairwise_map] at this;exact this
 refine ⟨?_,?_,fun a ha b hb=>?_⟩
 ·unfold List.Nodup;rw [List.pairwise_map];refine n1.imp_of_mem fun {a b} ha hb hne e=>?_
  obtain ⟨o,ho,_⟩:=rs_some h ha;obtain ⟨o',ho',_⟩:=rs_some h hb;rw [ho,ho'] at e hne
  have:o=o':=by injection e with _ e;injection e
  exact hne (by rw [this])
 ·unfold List.Nodup;rw [List.pairwise_map];refine (n2.filter _).imp_of_mem fun {a b} ha hb hne e=>?_
  rw [List.mem_filter] at ha hb;obtain ⟨k,x,y,ho,hs⟩:=es_some h ha.1;obtain ⟨k',x',y',ho',hs'⟩:=es_some h hb.1;have q1:=ha.2;have q2:=hb.2;rw [keepE_obj ho] at q1;rw [keepE_obj ho'] at q2;rw [ho,ho',triE_obj,triE_obj,Prod.mk.injEq,Prod.mk.injEq] at e;obtain ⟨e1,rfl,rfl⟩:=e
  have hkk:k=k':=by
   unfold TabP.keep at q1 q2;unfold clsK at e1
   by_cases c1:k=k'
   ·exact c1
   ·exfalso
    by_cases k0:k=0
    ·by_cases k1:k'=1
     ·rw [if_pos k1] at q2;rw [k0] at hs
      cases hf:t.p.f 0 x y with
      | none=>rw [hf] at hs;cases hs
      | some c=>rw [hf] at q2;cases q2
     ·rw [if_pos (.inl k0)] at e1;split at e1 <;> omega
    ·by_cases k1:k=1
     ·rw [if_pos (.inr k1)] at e1
      by_cases k2:k'=0
      ·rw [if_pos k1] at q1;rw [k2] at hs'
       cases hf:t.p.f 0 x y with
       | none=>rw [hf] at hs';cases hs'
       | some c=>rw [hf] at q1;cases q1
      ·split at e1 <;> omega
     ·rw [if_neg (by omega)] at e1;split at e1 <;> omega
  exact hne (by rw [ho,ho',hkk])
 ·obtain ⟨e1,he1,rfl⟩:=List.mem_map.1 ha;obtain ⟨e2,he2,rfl⟩:=List.mem_map.1 hb;rw [List.mem_filter] at he2;obtain ⟨o,ho,hg⟩:=rs_some h he1;obtain ⟨k,x,y,hk,hs⟩:=es_some h he2.1;have q:=he2.2;rw [keepE_obj hk] at q;rw [ho,hk,triE_obj]
  show (5,o,0)≠_
  intro e;rw [Prod.mk.injEq,Prod.mk.injEq] at e;obtain ⟨e1,rfl,rfl⟩:=e;have k5:k=5:=by unfold clsK at e1;split at e1 <;> omega
  unfold TabP.keep at q;rw [if_neg (by omega),if_pos k5] at q
  cases hf:t.p.g o with
  | none=>rw [hf] at hg;cases hg
  | some c=>rw [hf] at q;cases q
theorem triS_mem {l:List Ev} {j:Nat} (hv:∀ i,i < j→(evAt l i).valid=true) (hT:TInv l j t.p) (τ:Tri):τ ∈ triS t↔∃ i,i < j∧clsOf (evAt l i).kind≠0∧triOf (evAt l i)=τ:=by
 unfold triS triOf;rw [List.mem_append,List.mem_map,List.mem_map]
 have inE:∀ {k x y:Int},(t.p.f k x y).isSome=true→t.p.keep k x y=true→∃ a,a ∈ t.es.filter (keepE t.p)∧triE a.1=(clsK k,x,y):=fun {k x y} hs hk=>by
  obtain ⟨r,hr⟩:=es_of h hs;exact ⟨_,List.mem_filter.2 ⟨hr,by rw [keepE_obj (e:=(objK k x y,r)) rfl];exact hk⟩,rfl⟩
 have inR:∀ {o:Int},(t.p.g o).isSome=true→∃ a,a ∈ t.rs∧triR a.1=(5,o,0):=fun {o} hs=>by
  obtain ⟨r,hr⟩:=rs_of h hs;exact ⟨_,hr,rfl⟩
 constructor
 ·rintro (⟨e,he,rfl⟩ | ⟨e,he,rfl⟩)
  ·obtain ⟨o,ho,hg⟩:=rs_some h he;obtain ⟨i,hi,h1,h2⟩:=(hT.gs o).1 hg;refine ⟨i,hi,fun q=>by rw [clsOf_iff] at q;omega,?_⟩
   rw [ho,h2,off0 (hv i hi) (by omega),clsOf_iff.2 (show (5:Int)=1∧_∨_ by right;right;right;right;left;exact ⟨rfl,by omega⟩)]
   rfl
  ·obtain ⟨k,x,y,hk,hs⟩:=es_some h (List.mem_filter.1 he).1;rw [hk,triE_obj]
   by_cases k4:k=4
   ·subst k4;obtain ⟨i,hi,h1,h2,h3⟩:=(hT.f4s x y).1 hs;refine ⟨i,hi,fun q=>by rw [clsOf_iff] at q;omega,?_⟩
    rw [h2,h3];have:clsOf (evAt l i).kind=clsK 4:=clsOf_iff.2 (by unfold clsK;rw [if_neg (by decide)];omega)
    rw [this]
   ·obtain ⟨i,hi,h1,h2,h3⟩:=(hT.fs k x y k4).1 hs;rw [relK_iff] at h1;refine ⟨i,hi,fun q=>by rw [clsOf_iff] at q;omega,?_⟩
    rw [h2,h3];have:clsOf (evAt l i).kind=clsK k:=clsOf_iff.2 (by unfold clsK;split <;> omega)
    rw [this]
 ·rintro ⟨i,hi,hcl,rfl⟩;have s:∀ {m:Int},m≠4→relK (evAt l i).kind=some m→(t.p.f m (evAt l i).obj (evAt l i).off).isSome=true:=fun {m} hm hr=>(hT.fs m _ _ hm).2 ⟨i,hi,hr,rfl,rfl⟩
  have key:∀ {c:Int},clsOf (evAt l i).kind=c→((∃ a,a ∈ t.rs∧triR a.1=(c,(evAt l i).obj,(evAt l i).off))∨∃ a,a ∈ t.es.filter (keepE t.p)∧triE a.1=(c,(evAt l i).obj,(evAt l i).off)):=fun {c} hcc=>by
   have hcc0:c≠0:=fun q=>hcl (hcc.trans q)
   rcases clsOf_iff.1 hcc with ⟨rfl,q⟩ | ⟨rfl,q⟩ | ⟨rfl,q⟩ | ⟨rfl,q⟩ | ⟨rfl,q⟩ | ⟨q,_⟩
   ·rcases q with q | q
    ·exact .inr (inE (k:=0) (s (by decide) (relK_iff.2 (by omega))) (by unfold TabP.keep;rw [if_neg (by decide),if_neg (by decide)]))
    ·cases hf:t.p.f 0 (evAt l i).obj (evAt l i).off with
     | none=>exact .inr (inE (k:=1) (s (by decide) (relK_iff.2 (by omega))) (by unfold TabP.keep;rw [if_pos rfl,hf];rfl))
     | some c=>exact .inr (inE (k:=0) (by rw [hf];rfl) (by unfold TabP.keep;rw [if_neg (by decide),if_neg (by decide)]))
   ·exact .inr (inE (k:=2) (s (by decide) (relK_iff.2 (by omega))) (by unfold TabP.keep;rw [if_neg (by decide),if_neg (by decide)]))
   ·exact .inr (inE (k:=3) (s (by decide) (relK_iff.2 (by omega))) (by unfold TabP.keep;rw [if_neg (by decide),if_neg (by decide)]))
   ·exact .inr (inE (k:=4) ((hT.f4s _ _).2 ⟨i,hi,q,rfl,rfl⟩) (by unfold TabP.keep;rw [if_neg (by decide),if_neg (by decide)]))
   ·have ho:=off0 (hv i hi) (by omega)
    cases hg:t.p.g (evAt l i).obj with
    | some v=>rw [ho];exact .inl (inR (by rw [hg];rfl))
    | none =>
      have k19:(evAt l i).kind=19:=by
       rcases q with q | q | q
       ·have:=(hT.gs (evAt l i).obj).2 ⟨i,hi,.inl q,rfl⟩;rw [hg] at this;cases this
       ·have:=(hT.gs (evAt l i).obj).2 ⟨i,hi,.inr q,rfl⟩;rw [hg] at this;cases this
       ·exact q
      exact .inr (inE (k:=5) (s (by decide) (relK_iff.2 (by omega))) (by unfold TabP.keep;rw [if_neg (by decide),if_pos rfl,hg];rfl))
   ·exact absurd q hcc0
  exact key rfl
end
def freshD (l:List Ev) (i k:Nat):Bool:=decide (0 < clsOf (evAt l i).kind) && decide (∀ m,m < k→triOf (evAt l m)≠triOf (evAt l i))
def objC (l:List Ev):Nat→Nat
 | 0=>0
 | i+1=>objC l i+if freshD l i i=true then 1 else 0
def triF (l:List Ev) (j:Nat):List Tri:=((List.range j).filter fun i=>freshD l i i).map fun i=>triOf (evAt l i)
theorem triF_len (l:List Ev) (j:Nat):(triF l j).length=objC l j:=by
 unfold triF;rw [List.length_map]
 induction j with
 | zero=>rfl
 | succ j ih =>
   rw [List.range_succ,List.filter_append,List.length_append,ih]
   show _+(List.filter _ [j]).length=objC l j+_
   rw [List.filter_cons];split <;> rfl
theorem cls_pos {k:Int}:0 < clsOf k↔clsOf k≠0:=by
 obtain ⟨c,hc⟩:∃ c,clsOf k=c:=⟨_,rfl⟩
 rw [hc];rw [clsOf_iff] at hc;omega
theorem triF_nodup (l:List Ev) (j:Nat):(triF l j).Nodup:=by
 unfold triF List.Nodup;rw [List.pairwise_map];refine (List.pairwise_lt_range.filter _).imp_of_mem fun {a b} ha hb hlt=>?_
 have:=(List.mem_filter.1 hb).2;unfold freshD at this;simp only [Bool.and_eq_true,decide_eq_true_eq] at this;exact this.2 a hlt
theorem triF_mem (l:List Ev) (j:Nat) (τ:Tri):τ ∈ triF l j↔∃ i,i < j∧clsOf (evAt l i).kind≠0∧triOf (evAt l i)=τ:=by
 unfold triF;rw [List.mem_map];constructor
 ·rintro ⟨i,hi,rfl⟩;rw [List.mem_filter,List.mem_range] at hi;refine ⟨i,hi.1,?_,rfl⟩;have:=hi.2;unfold freshD at this;simp only [Bool.and_eq_true,decide_eq_true_eq] at this;exact cls_pos.1 this.1
 ·rintro ⟨i,hi,hcl,rfl⟩
  induction i using Nat.strongRecOn with
  | ind i ih =>
    by_cases hex:∃ m,m < i∧triOf (evAt l m)=triOf (evAt l i)
    ·obtain ⟨m,hm,he⟩:=hex;have hcm:clsOf (evAt l m).kind=clsOf (evAt l i).kind:=congrArg Prod.fst he;obtain ⟨a,ha,hb⟩:=ih m hm (by omega) (by rw [hcm];exact hcl)
     exact ⟨a,ha,hb.trans he⟩
    ·refine ⟨i,List.mem_filter.2 ⟨List.mem_range.2 hi,?_⟩,rfl⟩;unfold freshD;simp only [Bool.and_eq_true,decide_eq_true_eq];exact ⟨cls_pos.2 hcl,fun m hm he=>hex ⟨m,hm,he⟩⟩
theorem objects_eq {hp:Nat→Hb} {b0:Nat} {D:Nat→Prop} {t:TabL} (h:TabAt hp b0 D t) {l:List Ev} {j:Nat} (hv:∀ i,i < j→(evAt l i).valid=true) (hT:TInv l j t.p):t.objects=objC l j:=by
 rw [←triS_len,←triF_len];exact Nat.le_antisymm (nodup_leA (triS_nodup h) (fun n hn=>(triF_mem l j n).2 ((triS_mem h hv hT n).1 hn))) (nodup_leA (triF_nodup l j) (fun n hn=>(triS_mem h hv hT n).2 ((triF_mem l j n).1 hn)))
theorem maps_le {hp:Nat→Hb} {b0:Nat} {D:Nat→Prop} {t:TabL} (h:TabAt hp b0 D t) {l:List Ev} {j:Nat} (hT:TInv l j t.p):t.rs.length≤j∧t.es.length≤j:=by
 constructor
 ·have h1:(t.rs.map (·.1)).length≤((List.range j).map fun i=>Value.int .i64 (evAt l i).obj).length:=by
   classical
   refine nodup_leA h.rw.kn fun v hv=>?_
   obtain ⟨e,he,rfl⟩:=List.mem_map.1 hv;obtain ⟨o,ho,hg⟩:=rs_some h he;obtain ⟨i,hi,_,h2⟩:=(hT.gs o).1 hg;exact List.mem_map.2 ⟨i,List.mem_range.2 hi,by rw [ho,h2]⟩
  rw [List.length_map,List.length_map,List.length_range] at h1;exact h1
 ·have h1:(t.es.map (·.1)).length≤((List.range j).map fun i=>objK ((relK (evAt l i).kind).getD 4) (evAt l i).obj (evAt l i).off).length:=by
   classical
   refine nodup_leA h.ow.kn fun v hv=>?_
   obtain ⟨e,he,rfl⟩:=List.mem_map.1 hv;obtain ⟨k,x,y,hk,hs⟩:=es_some h he
   by_cases k4:k=4
   ·subst k4;obtain ⟨i,hi,h1,h2,h3⟩:=(hT.f4s x y).1 hs
    have hr:relK (evAt l i).kind=none:=by
     cases hr:relK (evAt l i).kind with
     | none=>rfl
     | some m=>rw [relK_iff] at hr;omega
    exact List.mem_map.2 ⟨i,List.mem_range.2 hi,by rw [hk,hr,h2,h3];rfl⟩
   ·obtain ⟨i,hi,h1,h2,h3⟩:=(hT.fs k x y k4).1 hs;exact List.mem_map.2 ⟨i,List.mem_range.2 hi,by rw [hk,h1,h2,h3];rfl⟩
  rw [List.length_map,List.length_map,List.length_range] at h1;exact h1
end Go.Proofs.Ytffcpijeebagfaa
end
section
namespace Go.Proofs.Ytffcpijeebagfaa
open Go Go.RowKit
set_option maxRecDepth 100000
set_option maxHeartbeats 4000000
def evAw:List Ev:=[⟨0,14,0,0,1,0,0,0,0⟩,⟨0,6,1,0,0,0,0,0,0⟩,⟨0,7,1,0,0,0,0,0,0⟩,⟨1,6,1,0,0,0,0,0,0⟩]
theorem chkAw:chk evAw=evAw.length:=by decide
theorem stAw:stp evAw 0=[1,0,0,0,0,0,0,0]∧stp evAw 1=[2,0,0,0,0,0,0,0]∧stp evAw 2=[3,0,0,0,0,0,0,0]∧stp evAw 3=[3,1,0,0,0,0,0,0]:=by decide
theorem objAw:objC evAw 3=1:=by decide
theorem clkAw:(tabTo evAw 1).clock 1=[1,0,0,0,0,0,0,0]:=by
 have h:=(tab_inv chkAw (by decide) (j:=1) (by decide)).ck 1 (by decide) (by decide);unfold TabP.clock;rw [if_pos (by decide)];exact h.trans (by decide)
def R_awake37 (hp:Nat→Hb) (az:List Hw) (Post:(Nat→Hb)→List Hw→Prop):Prop:=∃ N,az=[]∧Free hp N∧Post=fun h r=>(∃ D' N',Left hp (fun _=>False) N h D' N')∧r=[.one (.d (dB true))]
def env_aw37:Env:=h1 34 R_tnew (h1 36 R_adv (h1 35 R_tclk (h1 42 R_objH e0)))
theorem envOK_aw37:EnvOK Try.prog env_aw37:=.h1 s_tnew (.h1 s_adv (.h1 s_tclk (.h1 s_objH .e0)))
theorem obj_left {hp:Nat→Hb} {D:Nat→Prop} {N:Nat} (hN:Free hp N) (hD:∀ b,D b→b < N):Left hp D N (up hp (N+20) .dead) D (N+21) :=
 ⟨by omega,fun _ q=>q,fun _ q=>.inl q,fun b _ q=>up_ne (by omega),fun b q=>by rw [up_ne (by omega)];exact hN b (by omega),fun b q=>by have:=hD b q;omega⟩
theorem obj_valid {l:List Ev} (hc:chk l=l.length) (hl:l.length≤1000) {k:Nat} (hk:k≤l.length) {hp:Nat→Hb} {b0 N:Nat} {D:Nat→Prop} {t:TabL} (h:TabAt hp b0 D t) (hD:∀ b,D b→b < N) (hN:Free hp N) (h1:t.p=tabTo l k) :
 R_objH hp [hP b0 0] (up hp (N+20) .dead) [.one (hI (objC l k))]∧TabAt (up hp (N+20) .dead) b0 D t:=by
 have hT:TInv l k t.p:=by rw [h1];exact tab_inv hc (by omega) hk
 have hm:=maps_le h hT;refine ⟨⟨b0,N,D,t,rfl,h,hD,hN,⟨by omega,by omega⟩,rfl,?_⟩,h.new (fun q=>by have:=hD _ q;omega)⟩
 rw [objects_eq h (fun i hi=>val_at hc (by omega)) hT]
theorem s_awake37:SpecP Try.prog 26 R_awake37:=by
 refine sql26 envOK_aw37 ?_;rintro hp az Post ⟨N,rfl,hN,rfl⟩;refine ⟨by simp,fun _=>1,?_⟩;obtain ⟨hp1,t1,D1,hR1,hT1,⟨a1,a2,a3⟩,hL1⟩:=new_run hN;have hlen:evAw.length≤1000:=by decide
 obtain ⟨hp2,D2,t2,hR2,hT2,⟨b1,b2,b3⟩,hL2⟩:=adv_valid chkAw hlen (k:=0) (by decide) hT1 hL1.lt hL1.free a1 a2 (by omega);have hR3:=clk_run hT2 1;rw [b1,clkAw] at hR3;obtain ⟨hp4,D4,t4,hR4,hT4,⟨c1,c2,c3⟩,hL4⟩:=adv_valid chkAw hlen (k:=1) (by decide) hT2 hL2.lt hL2.free b1 b2 b3;obtain ⟨hp5,D5,t5,hR5,hT5,⟨d1,d2,d3⟩,hL5⟩:=adv_valid chkAw hlen (k:=2) (by decide) hT4 hL4.lt hL4.free c1 c2 c3;obtain ⟨hR6,hT6⟩:=obj_valid chkAw hlen (k:=3) (by decide) hT5 hL5.lt hL5.free d1;have hL6:=obj_left hL5.free hL5.lt;obtain ⟨hp7,D7,t7,hR7,hT7,⟨f1,f2,f3⟩,hL7⟩:=adv_valid chkAw hlen (k:=3) (by decide) hT6 hL6.lt hL6.free d1 d2 d3;obtain ⟨s0,s1,s2,s3⟩:=stAw;rw [s0] at hR2;rw [s1] at hR4;rw [s2] at hR5;rw [s3] at hR7;rw [objAw] at hR6;generalize up hp5 (N+6+80+80+80+20) .dead=hp6 at hR6 hR7 hL6 hL7 hT6;unfold pcl26;refine pwp_start ?_;simp only [↓evP,evB,stB,reduceIte,reduceCtorEq,seval]
 refine callHS_intro hp1 [hP (N+5) 0] (by simp only [stB,reduceIte,reduceCtorEq,seval];exact hR1) ?_
 simp only [↓evP,evB,stB,reduceIte,reduceCtorEq,seval];refine callHS_intro hp2 [ckHw [1,0,0,0,0,0,0,0],.one (hI 0)] (by simp only [stB,reduceIte,reduceCtorEq,seval];exact hR2) ?_
 simp only [↓evP,evB,stB,reduceIte,reduceCtorEq,seval,ckHw,ckH,hI,List.map_cons,List.map_nil];refine callHS_intro hp2 [ckHw [1,0,0,0,0,0,0,0]] (by simp only [stB,reduceIte,reduceCtorEq,seval];exact hR3) ?_
 simp only [↓evP,evB,stB,reduceIte,reduceCtorEq,seval,ckHw,ckH,hI,List.map_cons,List.map_nil];refine callHS_intro hp4 [ckHw [2,0,0,0,0,0,0,0],.one (hI 0)] (by simp only [stB,reduceIte,reduceCtorEq,seval];exact hR4) ?_
 simp only [↓evP,evB,stB,reduceIte,reduceCtorEq,seval,ckHw,ckH,hI,List.map_cons,List.map_nil];refine callHS_intro hp5 [ckHw [3,0,0,0,0,0,0,0],.one (hI 0)] (by simp only [stB,reduceIte,reduceCtorEq,seval];exact hR5) ?_
 simp only [↓evP,evB,stB,reduceIte,reduceCtorEq,seval,ckHw,ckH,hI,List.map_cons,List.map_nil];refine callHS_intro hp6 [.one (hI (1:Nat))] (by simp only [stB,reduceIte,reduceCtorEq,seval];exact hR6) ?_
 simp only [↓evP,evB,stB,reduceIte,reduceCtorEq,seval,ckHw,ckH,hI,List.map_cons,List.map_nil];refine callHS_intro hp7 [ckHw [3,1,0,0,0,0,0,0],.one (hI 0)] (by simp only [stB,reduceIte,reduceCtorEq,seval];exact hR7) ?_
 simp only [↓evP,evB,stB,reduceIte,reduceCtorEq,seval,ckHw,ckH,hI,List.map_cons,List.map_nil,beq_self_eq_true,(by decide:(((1:Nat):Int) == 1)=true)];simp only [↓evP,evB,stB,reduceIte,reduceCtorEq,seval,prl26];exact ⟨hp7,_,rfl,fun b=>.inl rfl,⟨D7,_,hL1.trans (hL2.trans (hL4.trans (hL5.trans (hL6.trans hL7))))⟩,rfl⟩
end Go.Proofs.Ytffcpijeebagfaa
end
section
namespace Go.Proofs.Ytffcpijeebagfaa
open Go Go.RowKit
set_option maxRecDepth 100000
set_option maxHeartbeats 4000000
open Classical
theorem evAt_some {l:List Ev} {i:Nat} (h:i < l.length):l[i]? = some (evAt l i):=by
 rw [evAt_of (List.getElem?_eq_getElem h)];exact List.getElem?_eq_getElem h
def R_prog34 (ps rs:List Pa):Prop:=∃ (l:List Ev) (i j:Nat),ps=[evsPa l,pI i,pI j]∧(i < l.length∧j < l.length∧i < j∧l.length≤1000000)∧rs=[pB (decide (Prog l i j))]
theorem s_prog34:Spec Try.prog 111 R_prog34:=by
 refine sp111 EnvOK.e0 ?_;rintro ps rs ⟨l,i,j,rfl,⟨hi,hj,hij,hlen⟩,rfl⟩;refine ⟨by simp,?_⟩;have ei:=evAt_some hi;have ej:=evAt_some hj;have hi0:(0:Int)≤(i:Int):=by omega
 have hj0:(0:Int)≤(j:Int):=by omega
 have hw:IntKind.i64.wrap ((i:Int)+1)=((i+1:Nat):Int):=wrN (by omega);unfold pc111;refine pwp_start ?_
 cases q:((evAt l i).g != (evAt l j).g) with
 | true =>
   have hd:decide (Prog l i j)=false:=decide_eq_false (fun h=>(bne_iff_ne.1 q) h.1);simp only [↓evP,evB,stB,reduceIte,reduceCtorEq,seval,evsPa,evsD,hi0,hj0,ei,ej,Ev.row,q,hd,pr111];exact (by unfold Drw;kernel_rfl)
 | false =>
   have hg:(evAt l i).g=(evAt l j).g:=by rw [bne_eq_false_iff_eq] at q;exact q
   simp only [↓evP,evB,stB,reduceIte,reduceCtorEq,seval,evsPa,evsD,hi0,hj0,ei,ej,Ev.row,q,hw];refine ⟨(by unfold Drw;kernel_rfl),?_⟩
   refine pwp_loopW ms111_0 os111_0 (fun m st=>∃ k:Nat,m=j - k∧i < k∧k≤j∧(∀ x,i < x→x < k→(evAt l x).g≠(evAt l i).g)∧st.sl 7=aI k) (j - (i+1)) ?_ ?_
   ·exact ⟨i+1,rfl,by omega,by omega,fun x h1 h2=>by omega,by simp only [stB,reduceIte,reduceCtorEq,seval]⟩
   ·rintro m z ⟨k,rfl,hik,hk,hno,h7⟩;simp only [stB,reduceIte,reduceCtorEq,seval] at h7
    rcases Nat.lt_or_ge k j with hlt | hge
    ·have ek:=evAt_some (l:=l) (i:=k) (by omega);have hlt':(k:Int) < (j:Int):=by omega
     have hk0:(0:Int)≤(k:Int):=by omega
     cases q2:((evAt l k).g == (evAt l i).g) with
     | true =>
       have hd:decide (Prog l i j)=false:=decide_eq_false (fun h=>h.2 k hik hlt (beq_iff_eq.1 q2));simp only [↓evP,evB,stB,reduceIte,reduceCtorEq,seval,evsPa,evsD,h7,hlt',hk0,hi0,ek,ei,Ev.row,q2,hd,pr111];exact (by unfold Drw;kernel_rfl)
     | false =>
       simp only [↓evP,evB,stB,reduceIte,reduceCtorEq,seval,evsPa,evsD,h7,hlt',hk0,hi0,ek,ei,Ev.row,q2];refine ⟨(by unfold Drw;kernel_rfl),?_⟩
       refine ⟨_,?_,(by repeat' (first | assumption | exact within_over.mpr trivial | exact Within.refl _ _ _ | (refine within_ap ?_ rfl rfl) | (refine within_ap0 ?_ rfl))),k+1,rfl,by omega,hlt,fun x h1 h2=>?_,by simp only [stB,reduceIte,reduceCtorEq,seval,h7];rw [wrN (by omega)]⟩
       ·omega
       ·rcases Nat.lt_or_eq_of_le (Nat.le_of_lt_succ h2) with h3 | h3
        ·exact hno x h1 h3
        ·subst h3;exact beq_eq_false_iff_ne.1 q2
    ·have hkj:k=j:=by omega
     subst hkj;have hlt':¬ (k:Int) < (k:Int):=by omega
     have hd:decide (Prog l i k)=true:=decide_eq_true ⟨hg,hno⟩;simp only [↓evP,evB,stB,reduceIte,reduceCtorEq,seval,evsPa,evsD,h7,hlt',hd,pr111]
def R_first34 (ps rs:List Pa):Prop:=∃ (l:List Ev) (j:Nat),ps=[evsPa l,pI j]∧(j < l.length∧l.length≤1000000)∧rs=[pB (decide (First l j))]
theorem s_first34:Spec Try.prog 112 R_first34:=by
 refine sp112 EnvOK.e0 ?_;rintro ps rs ⟨l,j,rfl,⟨hj,hlen⟩,rfl⟩;refine ⟨by simp,?_⟩;have ej:=evAt_some hj;have hj0:(0:Int)≤(j:Int):=by omega
 unfold pc112;refine pwp_start ?_;simp only [↓evP,evB,stB,reduceIte,reduceCtorEq,Nat.reduceEqDiff,Nat.reduceAdd,Nat.reduceMul,Nat.reduceLeDiff,Nat.reduceLT,Nat.reduceSub,Nat.reduceBEq,evsPa,evsD];refine pwp_loopW ms112_0 os112_0 (fun m st=>∃ k:Nat,m=j - k∧k≤j∧(∀ x,x < k→(evAt l x).g≠(evAt l j).g)∧st.sl 5=aI k) j ?_ ?_
 ·exact ⟨0,rfl,Nat.zero_le _,fun x h=>by omega,by simp only [stB,reduceIte,reduceCtorEq,Nat.reduceEqDiff,Nat.reduceAdd,Nat.reduceMul,Nat.reduceLeDiff,Nat.reduceLT,Nat.reduceSub,Nat.reduceBEq];rfl⟩
 ·rintro m z ⟨k,rfl,hk,hno,h7⟩;simp only [stB,reduceIte,reduceCtorEq,seval] at h7
  rcases Nat.lt_or_ge k j with hlt | hge
  ·have ek:=evAt_some (l:=l) (i:=k) (by omega);have hlt':(k:Int) < (j:Int):=by omega
   have hk0:(0:Int)≤(k:Int):=by omega
   cases q2:((evAt l k).g == (evAt l j).g) with
   | true =>
     have hd:decide (First l j)=false:=decide_eq_false (fun h=>h k hlt (beq_iff_eq.1 q2));simp only [↓evP,evB,stB,reduceIte,reduceCtorEq,seval,h7,hlt',hk0,hj0,ek,ej,Ev.row,q2,hd,pr112];exact (by unfold Drw;kernel_rfl)
   | false =>
     simp only [↓evP,evB,stB,reduceIte,reduceCtorEq,seval,h7,hlt',hk0,hj0,ek,ej,Ev.row,q2];refine ⟨(by unfold Drw;kernel_rfl),?_⟩
     refine ⟨_,?_,(by repeat' (first | assumption | exact within_over.mpr trivial | exact Within.refl _ _ _ | (refine within_ap ?_ rfl rfl) | (refine within_ap0 ?_ rfl))),k+1,rfl,hlt,fun x h2=>?_,by simp only [stB,reduceIte,reduceCtorEq,seval,h7];rw [wrN (by omega)]⟩
     ·omega
     ·rcases Nat.lt_or_eq_of_le (Nat.le_of_lt_succ h2) with h3 | h3
      ·exact hno x h3
      ·subst h3;exact beq_eq_false_iff_ne.1 q2
  ·have hkj:k=j:=by omega
   subst hkj;have hlt':¬ (k:Int) < (k:Int):=by omega
   have hd:decide (First l k)=true:=decide_eq_true hno;simp only [↓evP,evB,stB,reduceIte,reduceCtorEq,seval,h7,hlt',hd,pr112]
def R_atomic34 (ps rs:List Pa):Prop:=∃ (l:List Ev) (i j:Nat),ps=[evsPa l,pI i,pI j]∧(i < l.length∧j < l.length∧i < j∧l.length≤1000000)∧rs=[pB (decide (Atom l i j))]
theorem s_atomic34:Spec Try.prog 113 R_atomic34:=by
 refine sp113 EnvOK.e0 ?_;rintro ps rs ⟨l,i,j,rfl,⟨hi,hj,hij,hlen⟩,rfl⟩;refine ⟨by simp,?_⟩;have ej:=evAt_some hj;have hj0:(0:Int)≤(j:Int):=by omega
 have hw:IntKind.i64.wrap ((i:Int)+1)=((i+1:Nat):Int):=wrN (by omega);unfold pc113;refine pwp_start ?_;simp only [↓evP,evB,stB,reduceIte,reduceCtorEq,seval,evsPa,evsD,hw];refine pwp_loopW ms113_0 os113_0 (fun m st=>∃ k:Nat,m=j - k∧i < k∧k≤j∧(∀ x,i < x→x < k→atomB (evAt l x) (evAt l j)=false)∧st.sl 7=aI k) (j - (i+1)) ?_ ?_
 ·exact ⟨i+1,rfl,by omega,by omega,fun x h1 h2=>by omega,by simp only [stB,reduceIte,reduceCtorEq,seval]⟩
 ·rintro m z ⟨k,rfl,hik,hk,hno,h7⟩;simp only [stB,reduceIte,reduceCtorEq,seval] at h7
  rcases Nat.lt_or_ge k j with hlt | hge
  ·have ek:=evAt_some (l:=l) (i:=k) (by omega);have hlt':(k:Int) < (j:Int):=by omega
   have hk0:(0:Int)≤(k:Int):=by omega
   have hat:atomB (evAt l k) (evAt l j)=atomB (evAt l k) (evAt l j):=rfl
   conv at hat=>rhs;unfold atomB
   have hit:atomB (evAt l k) (evAt l j)=true→decide (Atom l i j)=false:=fun h=>decide_eq_false (fun h2=>by rw [h2 k hik hlt] at h;cases h)
   cases k4:((evAt l k).kind == 4) with
   | true =>
     cases qo:((evAt l k).obj == (evAt l j).obj) with
     | false =>
       simp only [k4,qo,Bool.true_and,Bool.false_and,Bool.and_true,Bool.and_false,Bool.true_or,Bool.or_true,Bool.false_or,Bool.or_false] at hat;simp only [↓evP,evB,stB,reduceIte,reduceCtorEq,seval,h7,hlt',hk0,hj0,ek,ej,Ev.row,k4,qo];refine ⟨(by unfold Drw;kernel_rfl),?_⟩
       refine ⟨_,?_,(by repeat' (first | assumption | exact within_over.mpr trivial | exact Within.refl _ _ _ | (refine within_ap ?_ rfl rfl) | (refine within_ap0 ?_ rfl))),k+1,rfl,by omega,hlt,fun x h1 h2=>?_,by simp only [stB,reduceIte,reduceCtorEq,seval,h7];rw [wrN (by omega)]⟩
       ·omega
       ·rcases Nat.lt_or_eq_of_le (Nat.le_of_lt_succ h2) with h3 | h3
        ·exact hno x h1 h3
        ·subst h3;exact hat
     | true =>
     cases qf:((evAt l k).off == (evAt l j).off) with
     | false =>
       simp only [k4,qo,qf,Bool.true_and,Bool.false_and,Bool.and_true,Bool.and_false,Bool.true_or,Bool.or_true,Bool.false_or,Bool.or_false] at hat;simp only [↓evP,evB,stB,reduceIte,reduceCtorEq,seval,h7,hlt',hk0,hj0,ek,ej,Ev.row,k4,qo,qf];refine ⟨(by unfold Drw;kernel_rfl),?_⟩
       refine ⟨_,?_,(by repeat' (first | assumption | exact within_over.mpr trivial | exact Within.refl _ _ _ | (refine within_ap ?_ rfl rfl) | (refine within_ap0 ?_ rfl))),k+1,rfl,by omega,hlt,fun x h1 h2=>?_,by simp only [stB,reduceIte,reduceCtorEq,seval,h7];rw [wrN (by omega)]⟩
       ·omega
       ·rcases Nat.lt_or_eq_of_le (Nat.le_of_lt_succ h2) with h3 | h3
        ·exact hno x h1 h3
        ·subst h3;exact hat
     | true =>
       simp only [k4,qo,qf,Bool.true_and,Bool.false_and,Bool.and_true,Bool.true_or,Bool.or_true,Bool.false_or,Bool.or_false] at hat;have hd:=hit hat;simp only [↓evP,evB,stB,reduceIte,reduceCtorEq,seval,h7,hlt',hk0,hj0,ek,ej,Ev.row,k4,qo,qf,hd,pr113];exact (by unfold Drw;kernel_rfl)
   | false =>
   cases k5:((evAt l k).kind == 5) with
   | true =>
     cases qo:((evAt l k).obj == (evAt l j).obj) with
     | false =>
       simp only [k4,k5,qo,Bool.true_and,Bool.false_and,Bool.and_true,Bool.and_false,Bool.true_or,Bool.or_true,Bool.false_or,Bool.or_false] at hat;simp only [↓evP,evB,stB,reduceIte,reduceCtorEq,seval,h7,hlt',hk0,hj0,ek,ej,Ev.row,k4,k5,qo];refine ⟨(by unfold Drw;kernel_rfl),?_⟩
       refine ⟨_,?_,(by repeat' (first | assumption | exact within_over.mpr trivial | exact Within.refl _ _ _ | (refine within_ap ?_ rfl rfl) | (refine within_ap0 ?_ rfl))),k+1,rfl,by omega,hlt,fun x h1 h2=>?_,by simp only [stB,reduceIte,reduceCtorEq,seval,h7];rw [wrN (by omega)]⟩
       ·omega
       ·rcases Nat.lt_or_eq_of_le (Nat.le_of_lt_succ h2) with h3 | h3
        ·exact hno x h1 h3
        ·subst h3;exact hat
     | true =>
     cases qf:((evAt l k).off == (evAt l j).off) with
     | false =>
       simp only [k4,k5,qo,qf,Bool.true_and,Bool.false_and,Bool.and_true,Bool.and_false,Bool.true_or,Bool.or_true,Bool.false_or,Bool.or_false] at hat;simp only [↓evP,evB,stB,reduceIte,reduceCtorEq,seval,h7,hlt',hk0,hj0,ek,ej,Ev.row,k4,k5,qo,qf];refine ⟨(by unfold Drw;kernel_rfl),?_⟩
       refine ⟨_,?_,(by repeat' (first | assumption | exact within_over.mpr trivial | exact Within.refl _ _ _ | (refine within_ap ?_ rfl rfl) | (refine within_ap0 ?_ rfl))),k+1,rfl,by omega,hlt,fun x h1 h2=>?_,by simp only [stB,reduceIte,reduceCtorEq,seval,h7];rw [wrN (by omega)]⟩
       ·omega
       ·rcases Nat.lt_or_eq_of_le (Nat.le_of_lt_succ h2) with h3 | h3
        ·exact hno x h1 h3
        ·subst h3;exact hat
     | true =>
       simp only [k4,k5,qo,qf,Bool.true_and,Bool.false_and,Bool.and_true,Bool.true_or,Bool.or_true,Bool.false_or,Bool.or_false] at hat;have hd:=hit hat;simp only [↓evP,evB,stB,reduceIte,reduceCtorEq,seval,h7,hlt',hk0,hj0,ek,ej,Ev.row,k4,k5,qo,qf,hd,pr113];exact (by unfold Drw;kernel_rfl)
   | false =>
     simp only [k4,k5,Bool.true_and,Bool.false_and,Bool.and_true,Bool.and_false,Bool.true_or,Bool.or_true,Bool.false_or,Bool.or_false] at hat;simp only [↓evP,evB,stB,reduceIte,reduceCtorEq,seval,h7,hlt',hk0,hj0,ek,ej,Ev.row,k4,k5];refine ⟨(by unfold Drw;kernel_rfl),?_⟩
     refine ⟨_,?_,(by repeat' (first | assumption | exact within_over.mpr trivial | exact Within.refl _ _ _ | (refine within_ap ?_ rfl rfl) | (refine within_ap0 ?_ rfl))),k+1,rfl,by omega,hlt,fun x h1 h2=>?_,by simp only [stB,reduceIte,reduceCtorEq,seval,h7];rw [wrN (by omega)]⟩
     ·omega
     ·rcases Nat.lt_or_eq_of_le (Nat.le_of_lt_succ h2) with h3 | h3
      ·exact hno x h1 h3
      ·subst h3;exact hat
  ·have hkj:k=j:=by omega
   subst hkj;have hlt':¬ (k:Int) < (k:Int):=by omega
   have hd:decide (Atom l i k)=true:=decide_eq_true hno;simp only [↓evP,evB,stB,reduceIte,reduceCtorEq,seval,h7,hlt',hd,pr113]
noncomputable def immB (P F A:Prop) (a b:Ev):Bool :=
 if P then true
 else if a.kind=14∧a.k=b.g∧F then true
 else if a.obj≠b.obj then false
 else if a.off≠b.off then false
 else if a.kind=15 then b.kind == 18 && b.k == a.k
 else if a.kind=17 then b.kind == 16 && b.k == a.k+a.n
 else if a.kind=19 then b.kind == 20
 else if a.kind=7 then b.kind == 6 || b.kind == 8
 else if a.kind=9 then b.kind == 6
 else if a.kind=10 then b.kind == 11
 else if a.kind=12 then b.kind == 13
 else if a.kind=4∨a.kind=5 then (b.kind == 3 || b.kind == 5) && decide A
 else false
theorem imm_iff (l:List Ev) (i j:Nat):Imm l i j↔immB (Prog l i j) (First l j) (Atom l i j) (evAt l i) (evAt l j)=true:=by
 unfold Imm GoE Syn Kinds immB;generalize evAt l i=a;generalize evAt l j=b;generalize Prog l i j=P;generalize First l j=F;generalize Atom l i j=A
 by_cases hP:P
 ·rw [if_pos hP];exact iff_of_true (.inl hP) rfl
 rw [if_neg hP]
 by_cases hG:a.kind=14∧a.k=b.g∧F
 ·rw [if_pos hG];exact iff_of_true (.inr (.inl hG)) rfl
 rw [if_neg hG]
 by_cases ho:a.obj=b.obj
 ·by_cases hf:a.off=b.off
  ·rw [if_neg (fun h=>h ho),if_neg (fun h=>h hf)]
   by_cases k15:a.kind=15
   ·rw [if_pos k15];simp only [Bool.and_eq_true,Bool.or_eq_true,beq_iff_eq];refine ⟨fun h=>?_,fun h=>.inr (.inr ⟨ho,hf,.inl ?_⟩)⟩
    ·rcases h with h | h | ⟨_,_,h⟩
     ·exact absurd h hP
     ·exact absurd h hG
     ·rcases h with h | h | h | h | h | h | h | ⟨h1,_⟩ <;> omega
    ·omega
   by_cases k17:a.kind=17
   ·rw [if_neg k15,if_pos k17];simp only [Bool.and_eq_true,Bool.or_eq_true,beq_iff_eq];refine ⟨fun h=>?_,fun h=>.inr (.inr ⟨ho,hf,.inr (.inl ?_)⟩)⟩
    ·rcases h with h | h | ⟨_,_,h⟩
     ·exact absurd h hP
     ·exact absurd h hG
     ·rcases h with h | h | h | h | h | h | h | ⟨h1,_⟩ <;> omega
    ·omega
   by_cases k19:a.kind=19
   ·rw [if_neg k15,if_neg k17,if_pos k19];simp only [Bool.and_eq_true,Bool.or_eq_true,beq_iff_eq];refine ⟨fun h=>?_,fun h=>.inr (.inr ⟨ho,hf,.inr (.inr (.inl ?_))⟩)⟩
    ·rcases h with h | h | ⟨_,_,h⟩
     ·exact absurd h hP
     ·exact absurd h hG
     ·rcases h with h | h | h | h | h | h | h | ⟨h1,_⟩ <;> omega
    ·omega
   by_cases k7:a.kind=7
   ·rw [if_neg k15,if_neg k17,if_neg k19,if_pos k7];simp only [Bool.and_eq_true,Bool.or_eq_true,beq_iff_eq];refine ⟨fun h=>?_,fun h=>.inr (.inr ⟨ho,hf,.inr (.inr (.inr (.inl ?_)))⟩)⟩
    ·rcases h with h | h | ⟨_,_,h⟩
     ·exact absurd h hP
     ·exact absurd h hG
     ·rcases h with h | h | h | h | h | h | h | ⟨h1,_⟩ <;> omega
    ·omega
   by_cases k9:a.kind=9
   ·rw [if_neg k15,if_neg k17,if_neg k19,if_neg k7,if_pos k9];simp only [Bool.and_eq_true,Bool.or_eq_true,beq_iff_eq];refine ⟨fun h=>?_,fun h=>.inr (.inr ⟨ho,hf,.inr (.inr (.inr (.inr (.inl ?_))))⟩)⟩
    ·rcases h with h | h | ⟨_,_,h⟩
     ·exact absurd h hP
     ·exact absurd h hG
     ·rcases h with h | h | h | h | h | h | h | ⟨h1,_⟩ <;> omega
    ·omega
   by_cases k10:a.kind=10
   ·rw [if_neg k15,if_neg k17,if_neg k19,if_neg k7,if_neg k9,if_pos k10];simp only [Bool.and_eq_true,Bool.or_eq_true,beq_iff_eq];refine ⟨fun h=>?_,fun h=>.inr (.inr ⟨ho,hf,.inr (.inr (.inr (.inr (.inr (.inl ?_)))))⟩)⟩
    ·rcases h with h | h | ⟨_,_,h⟩
     ·exact absurd h hP
     ·exact absurd h hG
     ·rcases h with h | h | h | h | h | h | h | ⟨h1,_⟩ <;> omega
    ·omega
   by_cases k12:a.kind=12
   ·rw [if_neg k15,if_neg k17,if_neg k19,if_neg k7,if_neg k9,if_neg k10,if_pos k12];simp only [Bool.and_eq_true,Bool.or_eq_true,beq_iff_eq];refine ⟨fun h=>?_,fun h=>.inr (.inr ⟨ho,hf,.inr (.inr (.inr (.inr (.inr (.inr (.inl ?_))))))⟩)⟩
    ·rcases h with h | h | ⟨_,_,h⟩
     ·exact absurd h hP
     ·exact absurd h hG
     ·rcases h with h | h | h | h | h | h | h | ⟨h1,_⟩ <;> omega
    ·omega
   by_cases k45:a.kind=4∨a.kind=5
   ·rw [if_neg k15,if_neg k17,if_neg k19,if_neg k7,if_neg k9,if_neg k10,if_neg k12,if_pos k45];simp only [Bool.and_eq_true,Bool.or_eq_true,beq_iff_eq,decide_eq_true_eq];refine ⟨fun h=>?_,fun h=>.inr (.inr ⟨ho,hf,.inr (.inr (.inr (.inr (.inr (.inr (.inr ⟨k45,h⟩))))))⟩)⟩
    rcases h with h | h | ⟨_,_,h⟩
    ·exact absurd h hP
    ·exact absurd h hG
    ·rcases h with h | h | h | h | h | h | h | ⟨_,h2⟩
     ·omega
     ·omega
     ·omega
     ·omega
     ·omega
     ·omega
     ·omega
     ·exact h2
   ·rw [if_neg k15,if_neg k17,if_neg k19,if_neg k7,if_neg k9,if_neg k10,if_neg k12,if_neg k45];refine ⟨fun h=>?_,fun h=>by cases h⟩
    rcases h with h | h | ⟨_,_,h⟩
    ·exact absurd h hP
    ·exact absurd h hG
    ·rcases h with h | h | h | h | h | h | h | ⟨h1,_⟩ <;> omega
  ·rw [if_neg (fun h=>h ho),if_pos hf];exact iff_of_false (fun h=>h.elim hP (fun h=>h.elim hG (fun h=>hf h.2.1))) (by decide)
 ·rw [if_pos ho];exact iff_of_false (fun h=>h.elim hP (fun h=>h.elim hG (fun h=>ho h.1))) (by decide)
theorem imm_eq (l:List Ev) (i j:Nat):decide (Imm l i j)=immB (Prog l i j) (First l j) (Atom l i j) (evAt l i) (evAt l j):=by
 rw [Bool.eq_iff_iff,decide_eq_true_eq];exact imm_iff l i j
end Go.Proofs.Ytffcpijeebagfaa
end
section
namespace Go.Proofs.Ytffcpijeebagfaa
open Go Go.RowKit
set_option maxRecDepth 100000
def pci104c0 : PC := .seq (.reg false [⟨(some 54), .fld 1 (.t 8), none, []⟩, ⟨(some 55), .load none (.t 54), none, [0]⟩, ⟨(some 56), .bin .eql (.t 55) (.v (.int .i64 18)), none, [1]⟩, ⟨(some 57), .mv (.t 56), none, [2]⟩, ⟨(some 58), .fld 4 (.t 8), (some (57, true)), [3]⟩, ⟨(some 59), .load none (.t 58), (some (57, true)), [4, 3]⟩, ⟨(some 60), .fld 4 (.t 7), (some (57, true)), [3]⟩, ⟨(some 61), .load none (.t 60), (some (57, true)), [6, 3]⟩, ⟨(some 62), .bin .eql (.t 59) (.t 61), (some (57, true)), [5, 7, 3]⟩, ⟨(some 63), .pick (.t 57) (.t 62) (.v (.bool false)), none, [3, 8]⟩, ⟨(some 6), .mv (.t 63), none, [9, 3, 0, 1, 2, 3, 4, 5, 6, 7, 8, 9]⟩]) (.ret)
def pci104c1 : PC := .seq (.reg false [⟨(some 66), .fld 1 (.t 8), none, []⟩, ⟨(some 67), .load none (.t 66), none, [0]⟩, ⟨(some 68), .bin .eql (.t 67) (.v (.int .i64 16)), none, [1]⟩, ⟨(some 69), .mv (.t 68), none, [2]⟩, ⟨(some 70), .fld 4 (.t 8), (some (69, true)), [3]⟩, ⟨(some 71), .load none (.t 70), (some (69, true)), [4, 3]⟩, ⟨(some 72), .fld 4 (.t 7), (some (69, true)), [3]⟩, ⟨(some 73), .load none (.t 72), (some (69, true)), [6, 3]⟩, ⟨(some 74), .fld 5 (.t 7), (some (69, true)), [3]⟩, ⟨(some 75), .load none (.t 74), (some (69, true)), [8, 3]⟩, ⟨(some 76), .bin .add (.t 73) (.t 75), (some (69, true)), [7, 9, 3]⟩, ⟨(some 77), .bin .eql (.t 71) (.t 76), (some (69, true)), [5, 10, 3]⟩, ⟨(some 78), .pick (.t 69) (.t 77) (.v (.bool false)), none, [3, 11]⟩, ⟨(some 6), .mv (.t 78), none, [12, 3, 0, 1, 2, 3, 4, 5, 6, 7, 8, 9, 10, 11, 12]⟩]) (.ret)
def pci104c2 : PC := .seq (.reg false [⟨(some 86), .fld 1 (.t 8), none, []⟩, ⟨(some 87), .load none (.t 86), none, [0]⟩, ⟨(some 88), .bin .eql (.t 87) (.v (.int .i64 6)), none, [1]⟩, ⟨(some 89), .mv (.t 88), none, [2]⟩, ⟨(some 90), .fld 1 (.t 8), (some (89, false)), [3]⟩, ⟨(some 91), .load none (.t 90), (some (89, false)), [4, 3]⟩, ⟨(some 92), .bin .eql (.t 91) (.v (.int .i64 8)), (some (89, false)), [5, 3]⟩, ⟨(some 93), .pick (.t 89) (.v (.bool true)) (.t 92), none, [3, 6]⟩, ⟨(some 6), .mv (.t 93), none, [7, 3, 0, 1, 2, 3, 4, 5, 6, 7]⟩]) (.ret)
def pci104c3 : PC := .seq (.reg false [⟨(some 112), .fld 1 (.t 8), none, []⟩, ⟨(some 113), .load none (.t 112), none, [0]⟩, ⟨(some 114), .bin .eql (.t 113) (.v (.int .i64 3)), none, [1]⟩, ⟨(some 115), .mv (.t 114), none, [2]⟩, ⟨(some 116), .fld 1 (.t 8), (some (115, false)), [3]⟩, ⟨(some 117), .load none (.t 116), (some (115, false)), [4, 3]⟩, ⟨(some 118), .bin .eql (.t 117) (.v (.int .i64 5)), (some (115, false)), [5, 3]⟩, ⟨(some 119), .pick (.t 115) (.v (.bool true)) (.t 118), none, [3, 6]⟩, ⟨(some 120), .mv (.t 119), none, [7, 3]⟩, ⟨(some 121), .mv (.t 0), (some (120, true)), [8]⟩, ⟨(some 122), .mv (.t 1), (some (120, true)), [8]⟩, ⟨(some 123), .mv (.t 2), (some (120, true)), [8]⟩, ⟨(some 124), .call 113 [(.t 121), (.t 122), (.t 123)], (some (120, true)), [9, 10, 11, 8, 8]⟩, ⟨(some 125), .pick (.t 120) (.t 124) (.v (.bool false)), none, [8, 12]⟩, ⟨(some 6), .mv (.t 125), none, [13, 12, 0, 1, 2, 3, 4, 5, 6, 7, 8, 9, 10, 11, 12, 13]⟩]) (.ret)
def pci104c4 : PC := .seq (.seq (.reg false [⟨(some 110), .bin .eql (.t 51) (.v (.int .i64 4)), none, []⟩, ⟨(some 109), .mv (.t 110), none, [0]⟩]) (.cond (.t 109) (.skip) (.reg false [⟨(some 111), .bin .eql (.t 51) (.v (.int .i64 5)), none, []⟩, ⟨(some 109), .mv (.t 111), none, [0]⟩]))) (.cond (.t 109) (pci104c3) (.skip))
def pci104c5 : PC := .seq (.reg false [⟨(some 105), .bin .eql (.t 51) (.v (.int .i64 12)), none, []⟩, ⟨(some 104), .mv (.t 105), none, [0]⟩]) (.cond (.t 104) (.seq (.reg false [⟨(some 106), .fld 1 (.t 8), none, []⟩, ⟨(some 107), .load none (.t 106), none, [0]⟩, ⟨(some 108), .bin .eql (.t 107) (.v (.int .i64 13)), none, [1]⟩, ⟨(some 6), .mv (.t 108), none, [2, 0, 1, 2]⟩]) (.ret)) (pci104c4))
def pci104c6 : PC := .seq (.reg false [⟨(some 100), .bin .eql (.t 51) (.v (.int .i64 10)), none, []⟩, ⟨(some 99), .mv (.t 100), none, [0]⟩]) (.cond (.t 99) (.seq (.reg false [⟨(some 101), .fld 1 (.t 8), none, []⟩, ⟨(some 102), .load none (.t 101), none, [0]⟩, ⟨(some 103), .bin .eql (.t 102) (.v (.int .i64 11)), none, [1]⟩, ⟨(some 6), .mv (.t 103), none, [2, 0, 1, 2]⟩]) (.ret)) (pci104c5))
def pci104c7 : PC := .seq (.reg false [⟨(some 95), .bin .eql (.t 51) (.v (.int .i64 9)), none, []⟩, ⟨(some 94), .mv (.t 95), none, [0]⟩]) (.cond (.t 94) (.seq (.reg false [⟨(some 96), .fld 1 (.t 8), none, []⟩, ⟨(some 97), .load none (.t 96), none, [0]⟩, ⟨(some 98), .bin .eql (.t 97) (.v (.int .i64 6)), none, [1]⟩, ⟨(some 6), .mv (.t 98), none, [2, 0, 1, 2]⟩]) (.ret)) (pci104c6))
def pci104c8 : PC := .seq (.reg false [⟨(some 85), .bin .eql (.t 51) (.v (.int .i64 7)), none, []⟩, ⟨(some 84), .mv (.t 85), none, [0]⟩]) (.cond (.t 84) (pci104c2) (pci104c7))
def pci104c9 : PC := .seq (.reg false [⟨(some 80), .bin .eql (.t 51) (.v (.int .i64 19)), none, []⟩, ⟨(some 79), .mv (.t 80), none, [0]⟩]) (.cond (.t 79) (.seq (.reg false [⟨(some 81), .fld 1 (.t 8), none, []⟩, ⟨(some 82), .load none (.t 81), none, [0]⟩, ⟨(some 83), .bin .eql (.t 82) (.v (.int .i64 20)), none, [1]⟩, ⟨(some 6), .mv (.t 83), none, [2, 0, 1, 2]⟩]) (.ret)) (pci104c8))
def pci104c10 : PC := .seq (.reg false [⟨(some 65), .bin .eql (.t 51) (.v (.int .i64 17)), none, []⟩, ⟨(some 64), .mv (.t 65), none, [0]⟩]) (.cond (.t 64) (pci104c1) (pci104c9))
def pci104c11 : PC := .seq (.reg false [⟨(some 50), .fld 1 (.t 7), none, []⟩, ⟨(some 51), .load none (.t 50), none, [0]⟩]) (.block 0 (.seq (.reg false [⟨(some 53), .bin .eql (.t 51) (.v (.int .i64 15)), none, []⟩, ⟨(some 52), .mv (.t 53), none, [0]⟩]) (.cond (.t 52) (pci104c0) (pci104c10))))
def pci104c12 : PC := .seq (.seq (.reg false [⟨(some 38), .fld 2 (.t 7), none, []⟩, ⟨(some 39), .load none (.t 38), none, [0]⟩, ⟨(some 40), .fld 2 (.t 8), none, []⟩, ⟨(some 41), .load none (.t 40), none, [2]⟩, ⟨(some 42), .bin .neq (.t 39) (.t 41), none, [1, 3]⟩, ⟨(some 43), .mv (.t 42), none, [4]⟩, ⟨(some 44), .fld 3 (.t 7), (some (43, false)), [5]⟩, ⟨(some 45), .load none (.t 44), (some (43, false)), [6, 5]⟩, ⟨(some 46), .fld 3 (.t 8), (some (43, false)), [5]⟩, ⟨(some 47), .load none (.t 46), (some (43, false)), [8, 5]⟩, ⟨(some 48), .bin .neq (.t 45) (.t 47), (some (43, false)), [7, 9, 5]⟩, ⟨(some 49), .pick (.t 43) (.v (.bool true)) (.t 48), none, [5, 10]⟩]) (.cond (.t 49) (.seq (.reg false [⟨(some 6), .mv (.v (.bool false)), none, []⟩]) (.ret)) (.skip))) (.seq (pci104c11) (.seq (.reg false [⟨(some 6), .mv (.v (.bool false)), none, []⟩]) (.ret)))
def pci104 : PC := .seq (.reg false [⟨(some 6), .mv (.v (.bool false)), none, []⟩]) (.seq (.reg false [⟨(some 9), .mv (.t 0), none, []⟩, ⟨(some 10), .mv (.t 1), none, []⟩, ⟨(some 11), .ixs 9 (.t 9) (.t 10), none, [0, 1]⟩, ⟨(some 12), .load (some 9) (.t 11), none, [2]⟩, ⟨(some 7), .new [(.int .i64 0), (.int .i64 0), (.int .i64 0), (.int .i64 0), (.int .i64 0), (.int .i64 0), (.int .i64 0), (.int .i64 0), (.int .i64 0)], none, []⟩, ⟨none, .store 9 (.t 7) (.t 12), none, [4, 3, 0, 1, 2, 3, 4]⟩]) (.seq (.reg false [⟨(some 13), .mv (.t 0), none, []⟩, ⟨(some 14), .mv (.t 2), none, []⟩, ⟨(some 15), .ixs 9 (.t 13) (.t 14), none, [0, 1]⟩, ⟨(some 16), .load (some 9) (.t 15), none, [2]⟩, ⟨(some 8), .new [(.int .i64 0), (.int .i64 0), (.int .i64 0), (.int .i64 0), (.int .i64 0), (.int .i64 0), (.int .i64 0), (.int .i64 0), (.int .i64 0)], none, []⟩, ⟨none, .store 9 (.t 8) (.t 16), none, [4, 3, 0, 1, 2, 3, 4]⟩]) (.seq (.seq (.reg false [⟨(some 17), .mv (.t 0), none, []⟩, ⟨(some 18), .mv (.t 1), none, []⟩, ⟨(some 19), .mv (.t 2), none, []⟩, ⟨(some 20), .call 111 [(.t 17), (.t 18), (.t 19)], none, [0, 1, 2]⟩, ⟨(some 21), .mv (.t 20), none, [3, 3]⟩, ⟨(some 22), .fld 1 (.t 7), (some (21, false)), [4]⟩, ⟨(some 23), .load none (.t 22), (some (21, false)), [5, 4]⟩, ⟨(some 24), .bin .eql (.t 23) (.v (.int .i64 14)), (some (21, false)), [6, 4]⟩, ⟨(some 25), .mv (.t 24), (some (21, false)), [7, 4, 4]⟩, ⟨(some 26), .fld 4 (.t 7), (some (25, true)), [8]⟩, ⟨(some 27), .load none (.t 26), (some (25, true)), [9, 8]⟩, ⟨(some 28), .fld 0 (.t 8), (some (25, true)), [8]⟩, ⟨(some 29), .load none (.t 28), (some (25, true)), [11, 8]⟩, ⟨(some 30), .bin .eql (.t 27) (.t 29), (some (25, true)), [10, 12, 8]⟩, ⟨(some 31), .pick (.t 25) (.t 30) (.v (.bool false)), (some (21, false)), [8, 13, 4]⟩, ⟨(some 32), .mv (.t 31), (some (21, false)), [14, 8, 4]⟩, ⟨(some 33), .mv (.t 0), (some (32, true)), [15]⟩, ⟨(some 34), .mv (.t 2), (some (32, true)), [15]⟩, ⟨(some 35), .call 112 [(.t 33), (.t 34)], (some (32, true)), [16, 17, 15, 15]⟩, ⟨(some 36), .pick (.t 32) (.t 35) (.v (.bool false)), (some (21, false)), [15, 18, 4]⟩, ⟨(some 37), .pick (.t 21) (.v (.bool true)) (.t 36), none, [4, 19]⟩]) (.cond (.t 37) (.seq (.reg false [⟨(some 6), .mv (.v (.bool true)), none, []⟩]) (.ret)) (.skip))) (pci104c12))))
def pri104 : List PR := [.t 6]
theorem bdi104:Try.f104.body=some (Try.f104.body.getD .skip):=by kernel_rfl
theorem cpi104:compC Try.prog Try.f104.ntmps eqsL (Try.f104.body.getD .skip)=some pci104:=by kernel_rfl
theorem spi104 [WInv] {env:Env} (hE:EnvOK Try.prog env) {R:List Pa→List Pa→Prop} (hR:∀ ps rs,R ps rs→ps.length≤126∧pwp env pci104 (fun e s=>(e=.normal∨e=.ret)∧s.res pri104=some rs) (St.init ps)):Spec Try.prog 104 R :=
 fn_sound hE eqsOK mixedOK Try.func104 bdi104 cpi104 (by kernel_rfl) (by kernel_rfl) (by kernel_rfl) hR
end Go.Proofs.Ytffcpijeebagfaa
end
section
namespace Go.Proofs.Ytffcpijeebagfaa
open Go Go.RowKit
set_option maxRecDepth 100000
set_option maxHeartbeats 4000000
open Classical
def R_imm34 (ps rs:List Pa):Prop:=∃ (l:List Ev) (i j:Nat),ps=[evsPa l,pI i,pI j]∧(i < l.length∧j < l.length∧i < j∧l.length≤1000000∧(0≤(evAt l i).k∧(evAt l i).k≤2147483647∧0≤(evAt l i).n∧(evAt l i).n≤2147483647))∧rs=[pB (decide (Imm l i j))]
def env_imm34:Env:=e1 111 R_prog34 (e1 112 R_first34 (e1 113 R_atomic34 e0))
theorem env_imm34_ok:EnvOK Try.prog env_imm34:=EnvOK.e1 s_prog34 (EnvOK.e1 s_first34 (EnvOK.e1 s_atomic34 EnvOK.e0))
theorem imm_sw {l:List Ev} {i j:Nat} (hi:i < l.length) (hj:j < l.length) (hij:i < j) (hlen:l.length≤1000000) {a b:Ev} (hw:IntKind.i64.wrap (a.k+a.n)=a.k+a.n) (hs:decide (Imm l i j)=(if a.obj≠b.obj then false
 else if a.off≠b.off then false
 else if a.kind=15 then b.kind == 18 && b.k == a.k
 else if a.kind=17 then b.kind == 16 && b.k == a.k+a.n
 else if a.kind=19 then b.kind == 20
 else if a.kind=7 then b.kind == 6 || b.kind == 8
 else if a.kind=9 then b.kind == 6
 else if a.kind=10 then b.kind == 11
 else if a.kind=12 then b.kind == 13
 else if a.kind=4∨a.kind=5 then (b.kind == 3 || b.kind == 5) && decide (Atom l i j)
 else false)) (Q:Exit→St→Prop) (hQ:∀ st,st.res pri104=some [pB (decide (Imm l i j))]→Q .ret st) (st:St)
 (h0:st.sl 0=.b (.one (.d (evsD l)))) (h1:st.sl 1=aI i) (h2:st.sl 2=aI j) (h7:st.sl 7=.b (.one (.ptr 7 1 0))) (h8:st.sl 8=.b (.one (.ptr 8 1 0))) (g7:st.gen 7=1) (g8:st.gen 8=1) (o7:st.ob 7=.cells (a.row.map .d)) (o8:st.ob 8=.cells (b.row.map .d)) :
  pwp env_imm34 pci104c12 (exS env_imm34 [] Q) st:=by
 unfold pci104c12 pci104c11 pci104c10 pci104c9 pci104c8 pci104c7 pci104c6 pci104c5 pci104c4 pci104c3 pci104c2 pci104c1 pci104c0;simp only [evsD] at h0;simp only [Ev.row,List.map_cons,List.map_nil] at o7 o8
 cases qo:(a.obj != b.obj) with
 | true =>
   rw [if_pos (bne_iff_ne.1 qo)] at hs;simp only [↓evP,evB,stB,reduceIte,reduceCtorEq,seval,h0,h1,h2,h7,h8,g7,g8,o7,o8,qo];exact hQ _ (by simp only [stB,reduceIte,reduceCtorEq,seval,hs,pri104])
 | false =>
 rw [if_neg (fun h=>by rw [bne_iff_ne.2 h] at qo;cases qo)] at hs
 cases qf:(a.off != b.off) with
 | true =>
   rw [if_pos (bne_iff_ne.1 qf)] at hs;simp only [↓evP,evB,stB,reduceIte,reduceCtorEq,seval,h0,h1,h2,h7,h8,g7,g8,o7,o8,qo,qf];exact hQ _ (by simp only [stB,reduceIte,reduceCtorEq,seval,hs,pri104])
 | false =>
 rw [if_neg (fun h=>by rw [bne_iff_ne.2 h] at qf;cases qf)] at hs
 cases k15:(a.kind == 15) with
 | true =>
   rw [if_pos (beq_iff_eq.1 k15)] at hs
   cases c1:(b.kind == 18) with
   | false =>
     rw [c1,Bool.false_and] at hs;simp only [↓evP,evB,stB,reduceIte,reduceCtorEq,seval,h0,h1,h2,h7,h8,g7,g8,o7,o8,qo,qf,k15,c1];exact hQ _ (by simp only [stB,reduceIte,reduceCtorEq,seval,hs,pri104])
   | true =>
     rw [c1,Bool.true_and] at hs;simp only [↓evP,evB,stB,reduceIte,reduceCtorEq,seval,h0,h1,h2,h7,h8,g7,g8,o7,o8,qo,qf,k15,c1,hw];exact hQ _ (by simp only [stB,reduceIte,reduceCtorEq,seval,hs,pri104])
 | false =>
 rw [if_neg (beq_eq_false_iff_ne.1 k15)] at hs
 cases k17:(a.kind == 17) with
 | true =>
   rw [if_pos (beq_iff_eq.1 k17)] at hs
   cases c1:(b.kind == 16) with
   | false =>
     rw [c1,Bool.false_and] at hs;simp only [↓evP,evB,stB,reduceIte,reduceCtorEq,seval,h0,h1,h2,h7,h8,g7,g8,o7,o8,qo,qf,k15,k17,c1];exact hQ _ (by simp only [stB,reduceIte,reduceCtorEq,seval,hs,pri104])
   | true =>
     rw [c1,Bool.true_and] at hs;simp only [↓evP,evB,stB,reduceIte,reduceCtorEq,seval,h0,h1,h2,h7,h8,g7,g8,o7,o8,qo,qf,k15,k17,c1,hw];exact hQ _ (by simp only [stB,reduceIte,reduceCtorEq,seval,hs,pri104])
 | false =>
 rw [if_neg (beq_eq_false_iff_ne.1 k17)] at hs
 cases k19:(a.kind == 19) with
 | true =>
   rw [if_pos (beq_iff_eq.1 k19)] at hs;simp only [↓evP,evB,stB,reduceIte,reduceCtorEq,seval,h0,h1,h2,h7,h8,g7,g8,o7,o8,qo,qf,k15,k17,k19];exact hQ _ (by simp only [stB,reduceIte,reduceCtorEq,seval,hs,pri104])
 | false =>
 rw [if_neg (beq_eq_false_iff_ne.1 k19)] at hs
 cases k7:(a.kind == 7) with
 | true =>
   rw [if_pos (beq_iff_eq.1 k7)] at hs
   cases c1:(b.kind == 6) with
   | true =>
     rw [c1,Bool.true_or] at hs;simp only [↓evP,evB,stB,reduceIte,reduceCtorEq,seval,h0,h1,h2,h7,h8,g7,g8,o7,o8,qo,qf,k15,k17,k19,k7,c1];exact hQ _ (by simp only [stB,reduceIte,reduceCtorEq,seval,hs,pri104])
   | false =>
     rw [c1,Bool.false_or] at hs;simp only [↓evP,evB,stB,reduceIte,reduceCtorEq,seval,h0,h1,h2,h7,h8,g7,g8,o7,o8,qo,qf,k15,k17,k19,k7,c1];exact hQ _ (by simp only [stB,reduceIte,reduceCtorEq,seval,hs,pri104])
 | false =>
 rw [if_neg (beq_eq_false_iff_ne.1 k7)] at hs
 cases k9:(a.kind == 9) with
 | true =>
   rw [if_pos (beq_iff_eq.1 k9)] at hs;simp only [↓evP,evB,stB,reduceIte,reduceCtorEq,seval,h0,h1,h2,h7,h8,g7,g8,o7,o8,qo,qf,k15,k17,k19,k7,k9];exact hQ _ (by simp only [stB,reduceIte,reduceCtorEq,seval,hs,pri104])
 | false =>
 rw [if_neg (beq_eq_false_iff_ne.1 k9)] at hs
 cases k10:(a.kind == 10) with
 | true =>
   rw [if_pos (beq_iff_eq.1 k10)] at hs;simp only [↓evP,evB,stB,reduceIte,reduceCtorEq,seval,h0,h1,h2,h7,h8,g7,g8,o7,o8,qo,qf,k15,k17,k19,k7,k9,k10];exact hQ _ (by simp only [stB,reduceIte,reduceCtorEq,seval,hs,pri104])
 | false =>
 rw [if_neg (beq_eq_false_iff_ne.1 k10)] at hs
 cases k12:(a.kind == 12) with
 | true =>
   rw [if_pos (beq_iff_eq.1 k12)] at hs;simp only [↓evP,evB,stB,reduceIte,reduceCtorEq,seval,h0,h1,h2,h7,h8,g7,g8,o7,o8,qo,qf,k15,k17,k19,k7,k9,k10,k12];exact hQ _ (by simp only [stB,reduceIte,reduceCtorEq,seval,hs,pri104])
 | false =>
 rw [if_neg (beq_eq_false_iff_ne.1 k12)] at hs
 cases k4:(a.kind == 4) with
 | true =>
   rw [if_pos (.inl (beq_iff_eq.1 k4))] at hs
   cases c3:(b.kind == 3) with
   | true =>
     rw [c3,Bool.true_or,Bool.true_and] at hs;simp only [↓evP,evB,stB,reduceIte,reduceCtorEq,seval,h0,h1,h2,h7,h8,g7,g8,o7,o8,qo,qf,k15,k17,k19,k7,k9,k10,k12,k4,c3];refine callOps_intro [pB (decide (Atom l i j))] ⟨l,i,j,rfl,⟨hi,hj,hij,hlen⟩,rfl⟩ ?_;simp only [↓evP,evB,stB,reduceIte,reduceCtorEq,seval,h0,h1,h2,h7,h8,g7,g8,o7,o8,qo,qf,k15,k17,k19,k7,k9,k10,k12,k4,c3];exact hQ _ (by simp only [stB,reduceIte,reduceCtorEq,seval,hs,pri104])
   | false =>
   cases c5:(b.kind == 5) with
   | true =>
     rw [c3,c5,Bool.false_or,Bool.true_and] at hs;simp only [↓evP,evB,stB,reduceIte,reduceCtorEq,seval,h0,h1,h2,h7,h8,g7,g8,o7,o8,qo,qf,k15,k17,k19,k7,k9,k10,k12,k4,c3,c5];refine callOps_intro [pB (decide (Atom l i j))] ⟨l,i,j,rfl,⟨hi,hj,hij,hlen⟩,rfl⟩ ?_;simp only [↓evP,evB,stB,reduceIte,reduceCtorEq,seval,h0,h1,h2,h7,h8,g7,g8,o7,o8,qo,qf,k15,k17,k19,k7,k9,k10,k12,k4,c3,c5];exact hQ _ (by simp only [stB,reduceIte,reduceCtorEq,seval,hs,pri104])
   | false =>
     rw [c3,c5,Bool.false_or,Bool.false_and] at hs;simp only [↓evP,evB,stB,reduceIte,reduceCtorEq,seval,h0,h1,h2,h7,h8,g7,g8,o7,o8,qo,qf,k15,k17,k19,k7,k9,k10,k12,k4,c3,c5];exact hQ _ (by simp only [stB,reduceIte,reduceCtorEq,seval,hs,pri104])
 | false =>
 cases k5:(a.kind == 5) with
 | true =>
   rw [if_pos (.inr (beq_iff_eq.1 k5))] at hs
   cases c3:(b.kind == 3) with
   | true =>
     rw [c3,Bool.true_or,Bool.true_and] at hs;simp only [↓evP,evB,stB,reduceIte,reduceCtorEq,seval,h0,h1,h2,h7,h8,g7,g8,o7,o8,qo,qf,k15,k17,k19,k7,k9,k10,k12,k4,k5,c3];refine callOps_intro [pB (decide (Atom l i j))] ⟨l,i,j,rfl,⟨hi,hj,hij,hlen⟩,rfl⟩ ?_;simp only [↓evP,evB,stB,reduceIte,reduceCtorEq,seval,h0,h1,h2,h7,h8,g7,g8,o7,o8,qo,qf,k15,k17,k19,k7,k9,k10,k12,k4,k5,c3];exact hQ _ (by simp only [stB,reduceIte,reduceCtorEq,seval,hs,pri104])
   | false =>
   cases c5:(b.kind == 5) with
   | true =>
     rw [c3,c5,Bool.false_or,Bool.true_and] at hs;simp only [↓evP,evB,stB,reduceIte,reduceCtorEq,seval,h0,h1,h2,h7,h8,g7,g8,o7,o8,qo,qf,k15,k17,k19,k7,k9,k10,k12,k4,k5,c3,c5];refine callOps_intro [pB (decide (Atom l i j))] ⟨l,i,j,rfl,⟨hi,hj,hij,hlen⟩,rfl⟩ ?_;simp only [↓evP,evB,stB,reduceIte,reduceCtorEq,seval,h0,h1,h2,h7,h8,g7,g8,o7,o8,qo,qf,k15,k17,k19,k7,k9,k10,k12,k4,k5,c3,c5];exact hQ _ (by simp only [stB,reduceIte,reduceCtorEq,seval,hs,pri104])
   | false =>
     rw [c3,c5,Bool.false_or,Bool.false_and] at hs;simp only [↓evP,evB,stB,reduceIte,reduceCtorEq,seval,h0,h1,h2,h7,h8,g7,g8,o7,o8,qo,qf,k15,k17,k19,k7,k9,k10,k12,k4,k5,c3,c5];exact hQ _ (by simp only [stB,reduceIte,reduceCtorEq,seval,hs,pri104])
 | false =>
   rw [if_neg (fun h=>h.elim (beq_eq_false_iff_ne.1 k4) (beq_eq_false_iff_ne.1 k5))] at hs;simp only [↓evP,evB,stB,reduceIte,reduceCtorEq,seval,h0,h1,h2,h7,h8,g7,g8,o7,o8,qo,qf,k15,k17,k19,k7,k9,k10,k12,k4,k5];exact hQ _ (by simp only [stB,reduceIte,reduceCtorEq,seval,hs,pri104])
theorem s_imm34:Spec Try.prog 104 R_imm34:=by
 refine spi104 env_imm34_ok ?_;rintro ps rs ⟨l,i,j,rfl,⟨hi,hj,hij,hlen,hk0,hk1,hn0,hn1⟩,rfl⟩;refine ⟨by simp,?_⟩;have ei:=evAt_some hi;have ej:=evAt_some hj;have hi0:(0:Int)≤(i:Int):=by omega
 have hj0:(0:Int)≤(j:Int):=by omega
 have hs:=imm_eq l i j;unfold immB at hs;generalize hea:evAt l i=a at *;generalize heb:evAt l j=b at *;have hw:IntKind.i64.wrap (a.k+a.n)=a.k+a.n:=wr64 (by omega) (by omega);have hQ:∀ st:St,st.res pri104=some [pB (decide (Imm l i j))]→(fun e s'=>(e=Exit.normal∨e=.ret)∧s'.res pri104=some [pB (decide (Imm l i j))]) .ret st:=fun st h=>⟨.inr rfl,h⟩
 unfold pci104;refine pwp_start ?_;simp only [↓evP,evB,stB,reduceIte,reduceCtorEq,seval,evsPa,evsD,hi0,hj0,ei,ej,Ev.row];refine callOps_intro [pB (decide (Prog l i j))] ⟨l,i,j,rfl,⟨hi,hj,hij,hlen⟩,rfl⟩ ?_
 by_cases hP:Prog l i j
 ·rw [if_pos hP] at hs;rw [decide_eq_true hP];simp only [↓evP,evB,stB,reduceIte,reduceCtorEq,seval,hs,pri104]
 rw [if_neg hP] at hs;rw [decide_eq_false hP]
 cases g14:(a.kind == 14) with
 | false =>
   rw [if_neg (fun h=>beq_eq_false_iff_ne.1 g14 h.1)] at hs;simp only [↓evP,evB,stB,reduceIte,reduceCtorEq,seval,g14];exact imm_sw hi hj hij hlen hw hs _ hQ _ (by simp only [stB,reduceIte,reduceCtorEq,seval,evsD]) (by simp only [stB,reduceIte,reduceCtorEq,seval]) (by simp only [stB,reduceIte,reduceCtorEq,seval]) (by simp only [stB,reduceIte,reduceCtorEq,seval]) (by simp only [stB,reduceIte,reduceCtorEq,seval]) (by simp only [stB,reduceIte,reduceCtorEq,seval]) (by simp only [stB,reduceIte,reduceCtorEq,seval]) (by simp only [stB,reduceIte,reduceCtorEq,seval];rfl) (by simp only [stB,reduceIte,reduceCtorEq,seval];rfl)
 | true =>
 cases gk:(a.k == b.g) with
 | false =>
   rw [if_neg (fun h=>beq_eq_false_iff_ne.1 gk h.2.1)] at hs;simp only [↓evP,evB,stB,reduceIte,reduceCtorEq,seval,g14,gk];exact imm_sw hi hj hij hlen hw hs _ hQ _ (by simp only [stB,reduceIte,reduceCtorEq,seval,evsD]) (by simp only [stB,reduceIte,reduceCtorEq,seval]) (by simp only [stB,reduceIte,reduceCtorEq,seval]) (by simp only [stB,reduceIte,reduceCtorEq,seval]) (by simp only [stB,reduceIte,reduceCtorEq,seval]) (by simp only [stB,reduceIte,reduceCtorEq,seval]) (by simp only [stB,reduceIte,reduceCtorEq,seval]) (by simp only [stB,reduceIte,reduceCtorEq,seval];rfl) (by simp only [stB,reduceIte,reduceCtorEq,seval];rfl)
 | true =>
   simp only [↓evP,evB,stB,reduceIte,reduceCtorEq,seval,g14,gk];refine callOps_intro [pB (decide (First l j))] ⟨l,j,rfl,⟨hj,hlen⟩,rfl⟩ ?_
   by_cases hF:First l j
   ·rw [if_pos ⟨beq_iff_eq.1 g14,beq_iff_eq.1 gk,hF⟩] at hs;rw [decide_eq_true hF];simp only [↓evP,evB,stB,reduceIte,reduceCtorEq,seval,hs,pri104]
   rw [if_neg (fun h=>hF h.2.2)] at hs;rw [decide_eq_false hF];simp only [↓evP,evB,stB,reduceIte,reduceCtorEq,seval,g14,gk];exact imm_sw hi hj hij hlen hw hs _ hQ _ (by simp only [stB,reduceIte,reduceCtorEq,seval,evsD]) (by simp only [stB,reduceIte,reduceCtorEq,seval]) (by simp only [stB,reduceIte,reduceCtorEq,seval]) (by simp only [stB,reduceIte,reduceCtorEq,seval]) (by simp only [stB,reduceIte,reduceCtorEq,seval]) (by simp only [stB,reduceIte,reduceCtorEq,seval]) (by simp only [stB,reduceIte,reduceCtorEq,seval]) (by simp only [stB,reduceIte,reduceCtorEq,seval];rfl) (by simp only [stB,reduceIte,reduceCtorEq,seval];rfl)
end Go.Proofs.Ytffcpijeebagfaa
end
section
namespace Go.Proofs.Ytffcpijeebagfaa
open Go Go.RowKit Go.Deep
open Classical
theorem Try.infoBoolRow:(Try.prog.info? 104).map (fun i=>(i.zero,i.size,i.bytes))=some (some (.slice none 0 0),1,24):=by kernel_rfl
theorem Try.infoBool1:(Try.prog.info? 4).map (fun i=>(i.zero,i.size,i.bytes))=some (some (.bool false),1,1):=by kernel_rfl
theorem RD.bel {S:Nat→Nat} {w w':World} (hb:Below w.heap.size w w') {x:Dt} {v:Value} (h:RD S w x v):RD S w' x v:=by
 refine RD.ext (S:=S) (w:=w) (fun b i hi hc=>⟨hi,hb.cell ?_⟩) h
 show b < w.heap.size
 rcases Nat.lt_or_ge b w.heap.size with h1 | h1
 ·exact h1
 ·unfold World.cell? at hc;rw [Array.getElem?_eq_none h1] at hc;cases hc
def topR (N n k:Nat):Nat→Value:=fun i=>if i < k then .slice (some ⟨N+1+i,0,none⟩) n n else .slice none 0 0
structure GridA (w wr:World) (n k:Nat):Prop where
 bel:Below w.heap.size w wr
 size:wr.heap.size=w.heap.size+1+k
 top:wr.rowIs w.heap.size 104 n (topR w.heap.size n k)
 row:∀ i,i < k→wr.rowIs (w.heap.size+1+i) 4 n (fun _=>.bool false)
structure GridM (w wr:World) (n:Nat) (M:Nat→Nat→Prop):Prop where
 bel:Below w.heap.size w wr
 size:w.heap.size+1+n≤wr.heap.size
 top:wr.rowIs w.heap.size 104 n (topR w.heap.size n n)
 row:∀ i,i < n→wr.rowIs (w.heap.size+1+i) 4 n (fun j=>.bool (decide (M i j)))
theorem gridA_start (w:World) (n:Nat):GridA w (w.alloc (.cells (madeCells #[.slice none 0 0] n) 104)) n 0 :=
 ⟨(Below.refl _ _).alloc (Nat.le_refl _) _,by simp,(World.rowIs_made w _ n 104).congr (fun j _=>by simp [topR]),fun j hj=>absurd hj (Nat.not_lt_zero _)⟩
theorem gridA_step {w wr:World} {n k:Nat} (h:GridA w wr n k) :
 GridA w ((wr.alloc (.cells (madeCells #[.bool false] n) 4)).setCell ⟨w.heap.size,k,none⟩ (.slice (some ⟨w.heap.size+1+k,0,none⟩) n n)) n (k+1):=by
 have hnew:=World.rowIs_made wr (.bool false) n 4;rw [h.size] at hnew;refine ⟨(h.bel.alloc (by rw [h.size];omega) _).setCell (Nat.le_refl _) _,by simp [h.size];omega,((h.top.alloc _).set k _).congr (fun j _=>?_),fun i hi=>?_⟩
 ·simp only [topR]
  by_cases e:j=k
  ·subst e;simp
  ·rw [if_neg e]
   by_cases hlt:j < k
   ·rw [if_pos hlt,if_pos (by omega)]
   ·rw [if_neg hlt,if_neg (by omega)]
 ·rcases Nat.lt_or_eq_of_le (Nat.le_of_lt_succ hi) with h1 | h1
  ·exact ((h.row i h1).alloc _).setOther (by show w.heap.size+1+i≠w.heap.size;omega) _
  ·subst h1;exact hnew.setOther (by show w.heap.size+1+i≠w.heap.size;omega) _
theorem gridM_of {w wr:World} {n:Nat} (h:GridA w wr n n) {M:Nat→Nat→Prop} (hM:∀ x y,¬ M x y):GridM w wr n M :=
 ⟨h.bel,by rw [h.size];exact Nat.le_refl _,h.top,fun i hi=>(h.row i hi).congr (fun j _=>by rw [decide_eq_false (hM i j)])⟩
theorem GridM.below {w wr w':World} {n:Nat} {M:Nat→Nat→Prop} (h:GridM w wr n M) (hb:Below wr.heap.size wr w'):GridM w w' n M :=
 ⟨h.bel.trans (hb.mono h.bel.size),Nat.le_trans h.size hb.size,h.top.of_block (hb.block _ h.top.lt),fun i hi=>(h.row i hi).of_block (hb.block _ (h.row i hi).lt)⟩
theorem GridM.congr {w wr:World} {n:Nat} {M M':Nat→Nat→Prop} (h:GridM w wr n M) (hM:∀ x y,x < n→y < n→(M x y↔M' x y)):GridM w wr n M' :=
 ⟨h.bel,h.size,h.top,fun i hi=>(h.row i hi).congr (fun j hj=>by rw [decide_eq_decide.2 (hM i j hi hj)])⟩
theorem GridM.set {w wr:World} {n:Nat} {M:Nat→Nat→Prop} (h:GridM w wr n M) (a c:Nat):GridM w (wr.setCell ⟨w.heap.size+1+a,c,none⟩ (.bool true)) n (fun x y=>(x=a∧y=c)∨M x y):=by
 refine ⟨h.bel.setCell (by show w.heap.size≤w.heap.size+1+a;omega) _,by simpa using h.size,h.top.setOther (by show w.heap.size≠w.heap.size+1+a;omega) _,fun i hi=>?_⟩
 by_cases hia:i=a
 ·subst hia;refine ((h.row i hi).set c _).congr (fun j _=>?_)
  by_cases hj:j=c
  ·rw [if_pos hj];exact congrArg Value.bool (@decide_eq_true _ (propDecidable _) (.inl ⟨rfl,hj⟩)).symm
  ·rw [if_neg hj];exact congrArg (fun p=>Value.bool (@decide p (propDecidable p))) (propext (⟨.inr,fun h=>h.elim (fun h=>absurd h.2 hj) id⟩:M i j↔(i=i∧j=c)∨M i j))
 ·refine ((h.row i hi).setOther (by show w.heap.size+1+i≠w.heap.size+1+a;omega) _).congr (fun j _=>?_)
  exact congrArg (fun p=>Value.bool (@decide p (propDecidable p))) (propext (⟨.inr,fun h=>h.elim (fun h=>absurd h.1 hia) id⟩:M i j↔(i=a∧j=c)∨M i j))
theorem GridM.head {w wr:World} {n:Nat} {M:Nat→Nat→Prop} (h:GridM w wr n M) {i:Nat} (hi:i < n):wr.cell? ⟨w.heap.size,i,none⟩=some (.slice (some ⟨w.heap.size+1+i,0,none⟩) n n):=by
 have:=h.top.cell hi
 simpa [topR,hi] using this
section
variable (l:List Ev)
def mA (j:Nat) (x y:Nat):Prop:=y < j∧HB l x y
def mB (j m:Nat) (x y:Nat):Prop:=(y < j∧HB l x y)∨(y=j∧∃ k,m≤k∧k < j∧Imm l k j∧HBE l x k)
def mC (j i k:Nat) (x y:Nat):Prop:=mB l j (i+1) x y∨(y=j∧(x=i∨(x < k∧HB l x i)))
variable {l}
theorem mB_start {j x y:Nat}:mA l j x y↔mB l j j x y:=⟨.inl,fun h=>h.elim id (fun ⟨_,k,h1,h2,_⟩=>by omega)⟩
theorem mB_skip {j i x y:Nat} (hn:¬ Imm l i j):mB l j (i+1) x y↔mB l j i x y:=by
 refine ⟨fun h=>h.imp id (fun ⟨h1,k,h2,h3⟩=>⟨h1,k,by omega,h3⟩),fun h=>h.imp id (fun ⟨h1,k,h2,h3,h4,h5⟩=>⟨h1,k,?_,h3,h4,h5⟩)⟩
 rcases Nat.lt_or_eq_of_le h2 with h6 | h6
 ·exact h6
 ·subst h6;exact absurd h4 hn
theorem mC_start {j i x y:Nat}:((x=i∧y=j)∨mB l j (i+1) x y)↔mC l j i 0 x y :=
 ⟨fun h=>h.elim (fun ⟨h1,h2⟩=>.inr ⟨h2,.inl h1⟩) .inl,fun h=>h.elim .inr (fun ⟨h1,h2⟩=>h2.elim (fun h3=>.inl ⟨h3,h1⟩) (fun h3=>by omega))⟩
theorem mC_read {j i k:Nat} (hij:i < j):mC l j i k k i↔HB l k i:=by
 refine ⟨fun h=>?_,fun h=>.inl (.inl ⟨hij,h⟩)⟩
 rcases h with (h | ⟨h,_⟩) | ⟨h,_⟩
 ·exact h.2
 ·omega
 ·omega
theorem mC_hit {j i k x y:Nat} (hk:HB l k i):((x=k∧y=j)∨mC l j i k x y)↔mC l j i (k+1) x y:=by
 refine ⟨fun h=>?_,fun h=>?_⟩
 ·rcases h with ⟨rfl,h2⟩ | h | ⟨h1,h | h⟩
  ·exact .inr ⟨h2,.inr ⟨by omega,hk⟩⟩
  ·exact .inl h
  ·exact .inr ⟨h1,.inl h⟩
  ·exact .inr ⟨h1,.inr ⟨by omega,h.2⟩⟩
 ·rcases h with h | ⟨h1,h | h⟩
  ·exact .inr (.inl h)
  ·exact .inr (.inr ⟨h1,.inl h⟩)
  ·by_cases hx:x=k
   ·exact .inl ⟨hx,h1⟩
   ·exact .inr (.inr ⟨h1,.inr ⟨by omega,h.2⟩⟩)
theorem mC_miss {j i k x y:Nat} (hk:¬ HB l k i):mC l j i k x y↔mC l j i (k+1) x y:=by
 refine ⟨fun h=>?_,fun h=>?_⟩
 ·rcases h with h | ⟨h1,h | h⟩
  ·exact .inl h
  ·exact .inr ⟨h1,.inl h⟩
  ·exact .inr ⟨h1,.inr ⟨by omega,h.2⟩⟩
 ·rcases h with h | ⟨h1,h | h⟩
  ·exact .inl h
  ·exact .inr ⟨h1,.inl h⟩
  ·by_cases hx:x=k
   ·subst hx;exact absurd h.2 hk
   ·exact .inr ⟨h1,.inr ⟨by omega,h.2⟩⟩
theorem mC_end {j i x y:Nat} (hij:i < j) (hi:Imm l i j):mC l j i i x y↔mB l j i x y:=by
 refine ⟨fun h=>?_,fun h=>?_⟩
 ·rcases h with (h | ⟨h1,k,h2,h3⟩) | ⟨h1,h | h⟩
  ·exact .inl h
  ·exact .inr ⟨h1,k,by omega,h3⟩
  ·exact .inr ⟨h1,i,Nat.le_refl _,hij,hi,.inl h⟩
  ·exact .inr ⟨h1,i,Nat.le_refl _,hij,hi,.inr h.2⟩
 ·rcases h with h | ⟨h1,k,h2,h3,h4,h5⟩
  ·exact .inl (.inl h)
  ·rcases Nat.lt_or_eq_of_le h2 with h6 | h6
   ·exact .inl (.inr ⟨h1,k,h6,h3,h4,h5⟩)
   ·subst h6;exact .inr ⟨h1,h5.elim .inl (fun h7=>.inr ⟨h7.lt,h7⟩)⟩
theorem mB_end {j x y:Nat}:mB l j 0 x y↔mA l (j+1) x y:=by
 refine ⟨fun h=>?_,fun h=>?_⟩
 ·rcases h with h | ⟨h1,k,_,h3,h4,h5⟩
  ·exact ⟨by omega,h.2⟩
  ·subst h1;exact ⟨by omega,HB_iff.2 ⟨k,h3,h4,h5⟩⟩
 ·rcases Nat.lt_or_eq_of_le (Nat.le_of_lt_succ h.1) with h1 | h1
  ·exact .inl ⟨h1,h.2⟩
  ·subst h1;obtain ⟨k,h3,h4,h5⟩:=HB_iff.1 h.2;exact .inr ⟨rfl,k,Nat.zero_le _,h3,h4,h5⟩
end
set_option maxRecDepth 100000 in
set_option maxHeartbeats 4000000 in
theorem rel_walk (w:World) (S:Nat→Nat) (v:Value) (l:List Ev) (hv:RD S w (evsD l) v) (hl:l.length≤1000000) (hval:∀ e,e ∈ l→e.valid=true) :
 Calls Try.prog 73 #[v] w fun e w'=>e=.returned (.slice (some ⟨w.heap.size,0,none⟩) l.length l.length)∧GridM w w' l.length (HB l):=by
 have hlen:=hv.len;rw [List.length_map] at hlen;obtain ⟨A,c,rfl,hc,hm⟩:=hlen
 have HI0:∀ (wr:World) (i j:Nat),Below w.heap.size w wr→i < l.length→j < l.length→i < j→Calls Try.prog 104 #[.slice A l.length c,.int .i64 i,.int .i64 j] wr (fun e w'=>e=.returned (.bool (decide (Imm l i j)))∧Below wr.heap.size wr w'):=by
  intro wr i j hb hi hj hij;have hr:=Ev.valid_rg (hval _ (evAt_mem hi));have:=s_imm34 _ _ ⟨l,i,j,rfl,⟨hi,hj,hij,hl,hr.2.1.1,hr.2.1.2,hr.2.2.1.1,hr.2.2.1.2⟩,rfl⟩ S wr #[.slice A l.length c,.int .i64 i,.int .i64 j] trivial (RPs.mk3 (hv.bel hb) (RP.mkInt _) (RP.mkInt _));refine this.mono ?_;rintro e w' ⟨v,S',rfl,h1,h2,_⟩;exact ⟨by rw [RP.bool h1],h2⟩
 have HI:=Lib.hid HI0;clear HI0 hv hval;have hmk1:=run_make_row' (P:=Try.prog) 102 104 (.slice none 0 0) 24 Try.underlying102 Try.infoBoolRow rfl .i64 .i64 l.length (by omega) (by omega)
 go_enter Try.func73,Try.ntmps73
 go_wp2
 go_loopg [4] l.length (fun g i wr=>∃ k:Nat,k≤l.length∧g=l.length - k∧i=.int .i64 k∧GridA w wr l.length k)
 case atStart=>exact ⟨0,Nat.zero_le _,rfl,rfl,gridA_start _ _⟩
 case round =>
  obtain ⟨k,hk,rfl,rfl,hG⟩:=hrel;have hsize:=hG.size;have hmk2:=run_make_row' (P:=Try.prog) 104 4 (.bool false) 1 Try.underlying104 Try.infoBool1 rfl .i64 .i64 l.length (by omega) (by omega);have hst1:k < l.length→∀ o,(wr.alloc o).cell? ⟨w.heap.size,k,none⟩=some (topR w.heap.size l.length k k):=fun h o=>(hG.top.alloc o).cell h
  have hst2:∀ o,(wr.alloc o).frozen? ⟨w.heap.size,k,none⟩=false:=fun o=>(hG.top.alloc o).frozen k
  clear hmk1
  go_wp2
  ·have hk':k < l.length:=by assumption
   have hS:=gridA_step hG
   go_roundg (l.length - (k+1))
   case measure=>omega
   case rel=>exact ⟨k+1,by omega,rfl,by go_num,hS⟩
  ·have hkl:k=l.length:=by omega
   subst hkl;have hM0:GridM w wr l.length (mA l 0):=gridM_of hG (fun x y h=>Nat.not_lt_zero _ h.1);clear hmk2 hst1 hst2 hsize hG;simp only [Nat.lt_irrefl,decide_false]
   go_loopg [5] l.length (fun g i wr=>∃ j:Nat,j≤l.length∧g=l.length - j∧i=.int .i64 j∧GridM w wr l.length (mA l j))
   case atStart=>exact ⟨0,Nat.zero_le _,rfl,rfl,hM0⟩
   case round =>
    obtain ⟨j,hj,rfl,rfl,hM⟩:=hrel;clear hM0
    by_cases hjl:j < l.length
    ·go_wp2
     go_loopg [6] j (fun g i wr=>((g=0∧i=.int .i64 (-1))∨(∃ m:Nat,g=m+1∧i=.int .i64 m))∧g≤j∧GridM w wr l.length (mB l j g))
     case atStart =>
      refine ⟨?_,Nat.le_refl _,hM.congr (fun x y _ _=>mB_start)⟩
      rcases j with _ | j
      ·exact .inl ⟨rfl,by first | rfl | go_num⟩
      ·exact .inr ⟨j,rfl,by go_num⟩
     case round =>
      obtain ⟨hg,hgj,hB⟩:=hrel
      rcases hg with ⟨rfl,rfl⟩ | ⟨i,rfl,rfl⟩
      ·go_wp2
       have hE:=hB.congr (fun x y _ _=>mB_end)
       go_roundg (l.length - (j+1))
       case measure=>omega
       case rel=>exact ⟨j+1,by omega,rfl,by go_num,hE⟩
      ·have hi0:(0:Int)≤(i:Int):=by omega
       have hCall:=HI.out wr i j hB.bel (by omega) hjl (by omega)
       by_cases him:Imm l i j
       ·rw [decide_eq_true him] at hCall;have HC:=Lib.hid hCall;clear hCall
        go_wp2_with (go_at_call 104;refine HC.out.mono ?_;rintro e w1 ⟨rfl,hb1⟩
                     have hB1:=hB.below hb1;have q1:=hB1.head (i:=i) (by omega);have q2:=(hB1.row i (by omega)).cell hjl;have q3:=(hB1.row i (by omega)).frozen j;have hij:(j:Int) < (l.length:Int):=by omega
                     have hil:(i:Int) < (l.length:Int):=by omega
                     have hS1:=(hB1.set i j).congr (fun x y _ _=>mC_start);clear hB hb1 HC)
        clear hB1 q1 q2 q3
        go_loopg [7] i (fun g x wr=>∃ k:Nat,k≤i∧g=i - k∧x=.int .i64 k∧GridM w wr l.length (mC l j i k))
        case atStart=>exact ⟨0,Nat.zero_le _,rfl,rfl,hS1⟩
        case round =>
         obtain ⟨k,hk2,rfl,rfl,hC⟩:=hrel;clear hS1
         by_cases hki:k < i
         ·have hk0:(0:Int)≤(k:Int):=by omega
          have hkl:(k:Int) < (l.length:Int):=by omega
          have q1:=hC.head (i:=k) (by omega);have q2:=(hC.row k (by omega)).cell (i:=i) (by omega);have q4:=(hC.row k (by omega)).cell (i:=j) hjl;have q3:=(hC.row k (by omega)).frozen j
          skip
          by_cases hhb:HB l k i
          ·rw [decide_eq_true ((mC_read (by omega)).2 hhb)] at q2;have hS2:=(hC.set k j).congr (fun x y _ _=>mC_hit hhb)
           go_wp2
           clear q1 q2 q3 q4
           go_roundg (i - (k+1))
           case measure=>omega
           case rel=>exact ⟨k+1,by omega,rfl,by go_num,hS2⟩
          ·rw [decide_eq_false (fun h=>hhb ((mC_read (by omega)).1 h))] at q2;have hS2:=hC.congr (fun x y _ _=>mC_miss hhb)
           go_wp2
           clear q1 q2 q3 q4
           go_roundg (i - (k+1))
           case measure=>omega
           case rel=>exact ⟨k+1,by omega,rfl,by go_num,hS2⟩
         ·have hki':k=i:=by omega
          subst hki';have hE:=hC.congr (fun x y _ _=>mC_end (by omega) him)
          go_wp2
          go_roundg k
          case measure=>omega
          case rel =>
           refine ⟨?_,by omega,hE⟩
           rcases k with _ | k
           ·exact .inl ⟨rfl,by first | rfl | go_num⟩
           ·exact .inr ⟨k,rfl,by go_num⟩
       ·rw [decide_eq_false him] at hCall;have HC:=Lib.hid hCall;clear hCall
        go_wp2_with (go_at_call 104;refine HC.out.mono ?_;rintro e w1 ⟨rfl,hb1⟩
                     have hS1:=(hB.below hb1).congr (fun x y _ _=>mB_skip him);clear hB hb1 HC)
        go_roundg i
        case measure=>omega
        case rel =>
         refine ⟨?_,by omega,hS1⟩
         rcases i with _ | i
         ·exact .inl ⟨rfl,by first | rfl | go_num⟩
         ·exact .inr ⟨i,rfl,by go_num⟩
    ·have hjl':j=l.length:=by omega
     subst hjl'
     go_wp2
     go_ret
     exact ⟨rfl,hM.congr (fun x y _ hy=>⟨fun h=>h.2,fun h=>⟨hy,h⟩⟩)⟩
end Go.Proofs.Ytffcpijeebagfaa
end
section
namespace Go.Proofs.Ytffcpijeebagfaa
open Go Go.RowKit
set_option maxRecDepth 100000
set_option maxHeartbeats 4000000
def R_channel (ps rs:List Pa):Prop:=∃ (s:RSt) (obj n:Int),ps=[s.pa,pI obj,pI n]∧s.chans.length≤1000000∧rs=[.agg (s.channel obj n).row]
theorem s_channel:Spec Try.prog 97 R_channel:=by
 refine sp97 EnvOK.e0 ?_;rintro ps rs ⟨s,obj,n,rfl,hlen,rfl⟩;refine ⟨by simp,?_⟩;unfold pc97;refine pwp_start ?_;simp only [↓evP,evB,stB,reduceIte,reduceCtorEq,Nat.reduceEqDiff,Nat.reduceAdd,Nat.reduceMul,Nat.reduceLeDiff,Nat.reduceLT,Nat.reduceSub,Nat.reduceBEq,RSt.pa,RSt.row];refine pwp_loopW ms97_0 os97_0 (fun m st=>∃ k:Nat,m=s.chans.length - k∧k≤s.chans.length∧(∀ i c,i < k→s.chans[i]? = some c→(c.obj == obj)=false)∧st.sl 7=aI k∧st.ob 6=.cells [.d (dI 0),.d (dI 0),.d (dI 0),.d (dI 0),.d (dB false)]∧st.gen 6=1) s.chans.length ?_ ?_
 ·exact ⟨0,rfl,Nat.zero_le _,fun i c hi=>absurd hi (Nat.not_lt_zero _),by simp only [stB,reduceIte,reduceCtorEq,Nat.reduceEqDiff,Nat.reduceAdd,Nat.reduceMul,Nat.reduceLeDiff,Nat.reduceLT,Nat.reduceSub,Nat.reduceBEq];rfl,by simp only [stB,reduceIte,reduceCtorEq,Nat.reduceEqDiff,Nat.reduceAdd,Nat.reduceMul,Nat.reduceLeDiff,Nat.reduceLT,Nat.reduceSub,Nat.reduceBEq],by simp only [stB,reduceIte,reduceCtorEq,Nat.reduceEqDiff,Nat.reduceAdd,Nat.reduceMul,Nat.reduceLeDiff,Nat.reduceLT,Nat.reduceSub,Nat.reduceBEq]⟩
 ·rintro m j ⟨k,rfl,hk,hno,h7,h6,g6⟩;simp only [stB,reduceIte,reduceCtorEq,seval] at h7 h6 g6
  rcases Nat.lt_or_ge k s.chans.length with hlt | hge
  ·obtain ⟨c,hc⟩:∃ c,s.chans[k]? = some c:=⟨_,List.getElem?_eq_getElem hlt⟩
   simp only [↓evP,evB,stB,reduceIte,reduceCtorEq,seval,h7,h6,g6,hc,RCh.row,pr97];refine ⟨fun _=>⟨fun he=>?_,fun he=>?_⟩,fun h=>absurd hlt (by omega)⟩
   ·unfold RSt.channel;rw [find_hit hno hc he];rfl
   ·exact ⟨_,by omega,(by repeat' (first | assumption | exact within_over.mpr trivial | exact Within.refl _ _ _ | (refine within_ap ?_ rfl rfl) | (refine within_ap0 ?_ rfl))),k+1,rfl,by omega,no_succ hno hc he,by simp only [stB,reduceIte,reduceCtorEq,seval,h7];rw [wrN (by omega)],by simp only [stB,reduceIte,reduceCtorEq,seval,h6],by simp only [stB,reduceIte,reduceCtorEq,seval,g6]⟩
  ·simp only [↓evP,evB,stB,reduceIte,reduceCtorEq,seval,h7,h6,g6,pr97];refine ⟨fun h=>absurd h (by omega),fun h=>?_⟩;unfold RSt.channel;rw [find_miss (fun i c hi hc=>hno i c (by omega) hc)];rfl
def R_setChannel (ps rs:List Pa):Prop:=∃ (s:RSt) (c:RCh),ps=[s.pa,.agg c.row]∧s.chans.length≤900000∧rs=[(s.setChannel c).pa]
theorem s_setChannel:Spec Try.prog 99 R_setChannel:=by
 refine sp99 EnvOK.e0 ?_;rintro ps rs ⟨s,c,rfl,hlen,rfl⟩;refine ⟨by simp,?_⟩;unfold pc99;refine pwp_start ?_;simp only [↓evP,evB,stB,reduceIte,reduceCtorEq,Nat.reduceEqDiff,Nat.reduceAdd,Nat.reduceMul,Nat.reduceLeDiff,Nat.reduceLT,Nat.reduceSub,Nat.reduceBEq,RSt.pa,RSt.row,RCh.row];refine pwp_loopW ms99_0 os99_0 (fun m st=>∃ k:Nat,m=s.chans.length - k∧k≤s.chans.length∧st.sl 6=aI k∧st.gen 5=1∧st.sl 5=.b (.one (.own 5 1 (((s.chans.take k).filter (fun d=>d.obj != c.obj)).map RCh.row)))∧st.ob 5=.row 146 5 ((s.chans.take k).filter (fun d=>d.obj != c.obj)).length) s.chans.length ?_ ?_
 ·exact ⟨0,rfl,Nat.zero_le _,by simp only [stB,reduceIte,reduceCtorEq,Nat.reduceEqDiff,Nat.reduceAdd,Nat.reduceMul,Nat.reduceLeDiff,Nat.reduceLT,Nat.reduceSub,Nat.reduceBEq];rfl,by simp only [stB,reduceIte,reduceCtorEq,Nat.reduceEqDiff,Nat.reduceAdd,Nat.reduceMul,Nat.reduceLeDiff,Nat.reduceLT,Nat.reduceSub,Nat.reduceBEq],by simp only [stB,reduceIte,reduceCtorEq,Nat.reduceEqDiff,Nat.reduceAdd,Nat.reduceMul,Nat.reduceLeDiff,Nat.reduceLT,Nat.reduceSub,Nat.reduceBEq,List.filter_nil],by simp only [stB,reduceIte,reduceCtorEq,Nat.reduceEqDiff,Nat.reduceAdd,Nat.reduceMul,Nat.reduceLeDiff,Nat.reduceLT,Nat.reduceSub,Nat.reduceBEq,List.filter_nil]⟩
 ·rintro m j ⟨k,rfl,hk,h6,g5,h5,o5⟩;simp only [stB,reduceIte,reduceCtorEq,seval] at h6 g5 h5 o5
  rcases Nat.lt_or_ge k s.chans.length with hlt | hge
  ·obtain ⟨d,hd⟩:∃ d,s.chans[k]? = some d:=⟨_,List.getElem?_eq_getElem hlt⟩
   have hb:((s.chans.take k).filter (fun d=>d.obj != c.obj)).length+1≤1000000:=by have:=filter_take_le s.chans (fun d=>d.obj != c.obj) k;omega
   simp only [↓evP,evB,stB,reduceIte,reduceCtorEq,seval,h6,g5,h5,o5,hd,RCh.row,hb];refine ⟨fun _=>⟨(by unfold Drw;kernel_rfl),fun he=>?_,fun he=>?_⟩,fun h=>absurd hlt (by omega)⟩
   ·exact ⟨_,by omega,(by repeat' (first | assumption | exact within_over.mpr trivial | exact Within.refl _ _ _ | (refine within_ap ?_ rfl rfl) | (refine within_ap0 ?_ rfl))),k+1,rfl,by omega,by simp only [stB,reduceIte,reduceCtorEq,seval,h6];rw [wrN (by omega)],by simp only [stB,reduceIte,reduceCtorEq,seval,g5],by simp only [stB,reduceIte,reduceCtorEq,seval,h5,filter_succ hd,he,List.map_append,RCh.row],by simp only [stB,reduceIte,reduceCtorEq,seval,o5,filter_succ hd,he,List.length_append]⟩
   ·exact ⟨_,by omega,(by repeat' (first | assumption | exact within_over.mpr trivial | exact Within.refl _ _ _ | (refine within_ap ?_ rfl rfl) | (refine within_ap0 ?_ rfl))),k+1,rfl,by omega,by simp only [stB,reduceIte,reduceCtorEq,seval,h6];rw [wrN (by omega)],by simp only [stB,reduceIte,reduceCtorEq,seval,g5],by simp [stB,reduceIte,reduceCtorEq,seval,h5,filter_succ hd,he],by simp [stB,reduceIte,reduceCtorEq,seval,o5,filter_succ hd,he]⟩
  ·have hkl:k=s.chans.length:=by omega
   subst hkl;rw [List.take_length] at h5 o5;have hb:(s.chans.filter (fun d=>d.obj != c.obj)).length+1≤1000000:=by have:=List.length_filter_le (fun d:RCh=>d.obj != c.obj) s.chans;omega
   simp only [↓evP,evB,stB,reduceIte,reduceCtorEq,seval,h6,g5,h5,o5,hb,pr99];refine ⟨fun h=>absurd h (by omega),fun _=>?_⟩;simp [RSt.setChannel,RCh.row,RSt.pa,RSt.row]
def R_lock (ps rs:List Pa):Prop:=∃ (s:RSt) (obj off:Int),ps=[s.pa,pI obj,pI off]∧s.locks.length≤1000000∧rs=[.agg (s.lock obj off).row]
theorem s_lock:Spec Try.prog 100 R_lock:=by
 refine sp100 EnvOK.e0 ?_;rintro ps rs ⟨s,obj,off,rfl,hlen,rfl⟩;refine ⟨by simp,?_⟩;unfold pc100;refine pwp_start ?_;simp only [↓evP,evB,stB,reduceIte,reduceCtorEq,Nat.reduceEqDiff,Nat.reduceAdd,Nat.reduceMul,Nat.reduceLeDiff,Nat.reduceLT,Nat.reduceSub,Nat.reduceBEq,RSt.pa,RSt.row];refine pwp_loopW ms100_0 os100_0 (fun m st=>∃ k:Nat,m=s.locks.length - k∧k≤s.locks.length∧(∀ i c,i < k→s.locks[i]? = some c→(c.obj == obj && c.off == off)=false)∧st.sl 7=aI k∧st.ob 6=.cells [.d (dI 0),.d (dI 0),.d (dB false),.d (dI 0)]∧st.gen 6=1) s.locks.length ?_ ?_
 ·exact ⟨0,rfl,Nat.zero_le _,fun i c hi=>absurd hi (Nat.not_lt_zero _),by simp only [stB,reduceIte,reduceCtorEq,Nat.reduceEqDiff,Nat.reduceAdd,Nat.reduceMul,Nat.reduceLeDiff,Nat.reduceLT,Nat.reduceSub,Nat.reduceBEq];rfl,by simp only [stB,reduceIte,reduceCtorEq,Nat.reduceEqDiff,Nat.reduceAdd,Nat.reduceMul,Nat.reduceLeDiff,Nat.reduceLT,Nat.reduceSub,Nat.reduceBEq],by simp only [stB,reduceIte,reduceCtorEq,Nat.reduceEqDiff,Nat.reduceAdd,Nat.reduceMul,Nat.reduceLeDiff,Nat.reduceLT,Nat.reduceSub,Nat.reduceBEq]⟩
 ·rintro m j ⟨k,rfl,hk,hno,h7,h6,g6⟩;simp only [stB,reduceIte,reduceCtorEq,seval] at h7 h6 g6
  rcases Nat.lt_or_ge k s.locks.length with hlt | hge
  ·obtain ⟨c,hc⟩:∃ c,s.locks[k]? = some c:=⟨_,List.getElem?_eq_getElem hlt⟩
   simp only [↓evP,evB,stB,reduceIte,reduceCtorEq,seval,h7,h6,g6,hc,RLk.row,pr100];refine ⟨fun _=>⟨fun e1=>⟨fun e2=>?_,fun e2=>?_⟩,fun e1=>?_⟩,fun h=>absurd hlt (by omega)⟩
   ·unfold RSt.lock;rw [find_hit hno hc (by rw [e1,e2];rfl)];rfl
   ·exact ⟨_,by omega,(by repeat' (first | assumption | exact within_over.mpr trivial | exact Within.refl _ _ _ | (refine within_ap ?_ rfl rfl) | (refine within_ap0 ?_ rfl))),k+1,rfl,by omega,no_succ hno hc (by rw [e2,Bool.and_false]),by simp only [stB,reduceIte,reduceCtorEq,seval,h7];rw [wrN (by omega)],by simp only [stB,reduceIte,reduceCtorEq,seval,h6],by simp only [stB,reduceIte,reduceCtorEq,seval,g6]⟩
   ·exact ⟨_,by omega,(by repeat' (first | assumption | exact within_over.mpr trivial | exact Within.refl _ _ _ | (refine within_ap ?_ rfl rfl) | (refine within_ap0 ?_ rfl))),k+1,rfl,by omega,no_succ hno hc (by rw [e1];rfl),by simp only [stB,reduceIte,reduceCtorEq,seval,h7];rw [wrN (by omega)],by simp only [stB,reduceIte,reduceCtorEq,seval,h6],by simp only [stB,reduceIte,reduceCtorEq,seval,g6]⟩
  ·simp only [↓evP,evB,stB,reduceIte,reduceCtorEq,seval,h7,h6,g6,pr100];refine ⟨fun h=>absurd h (by omega),fun h=>?_⟩;unfold RSt.lock;rw [find_miss (fun i c hi hc=>hno i c (by omega) hc)];rfl
def R_setLock (ps rs:List Pa):Prop:=∃ (s:RSt) (c:RLk),ps=[s.pa,.agg c.row]∧s.locks.length≤900000∧rs=[(s.setLock c).pa]
theorem s_setLock:Spec Try.prog 101 R_setLock:=by
 refine sp101 EnvOK.e0 ?_;rintro ps rs ⟨s,c,rfl,hlen,rfl⟩;refine ⟨by simp,?_⟩;unfold pc101;refine pwp_start ?_;simp only [↓evP,evB,stB,reduceIte,reduceCtorEq,Nat.reduceEqDiff,Nat.reduceAdd,Nat.reduceMul,Nat.reduceLeDiff,Nat.reduceLT,Nat.reduceSub,Nat.reduceBEq,RSt.pa,RSt.row,RLk.row];refine pwp_loopW ms101_0 os101_0 (fun m st=>∃ k:Nat,m=s.locks.length - k∧k≤s.locks.length∧st.sl 6=aI k∧st.gen 5=1∧st.sl 5=.b (.one (.own 5 1 (((s.locks.take k).filter (fun d=>d.obj != c.obj || d.off != c.off)).map RLk.row)))∧st.ob 5=.row 151 4 ((s.locks.take k).filter (fun d=>d.obj != c.obj || d.off != c.off)).length) s.locks.length ?_ ?_
 ·exact ⟨0,rfl,Nat.zero_le _,by simp only [stB,reduceIte,reduceCtorEq,Nat.reduceEqDiff,Nat.reduceAdd,Nat.reduceMul,Nat.reduceLeDiff,Nat.reduceLT,Nat.reduceSub,Nat.reduceBEq];rfl,by simp only [stB,reduceIte,reduceCtorEq,Nat.reduceEqDiff,Nat.reduceAdd,Nat.reduceMul,Nat.reduceLeDiff,Nat.reduceLT,Nat.reduceSub,Nat.reduceBEq],by simp only [stB,reduceIte,reduceCtorEq,Nat.reduceEqDiff,Nat.reduceAdd,Nat.reduceMul,Nat.reduceLeDiff,Nat.reduceLT,Nat.reduceSub,Nat.reduceBEq,List.filter_nil],by simp only [stB,reduceIte,reduceCtorEq,Nat.reduceEqDiff,Nat.reduceAdd,Nat.reduceMul,Nat.reduceLeDiff,Nat.reduceLT,Nat.reduceSub,Nat.reduceBEq,List.filter_nil]⟩
 ·rintro m j ⟨k,rfl,hk,h6,g5,h5,o5⟩;simp only [stB,reduceIte,reduceCtorEq,seval] at h6 g5 h5 o5
  rcases Nat.lt_or_ge k s.locks.length with hlt | hge
  ·obtain ⟨d,hd⟩:∃ d,s.locks[k]? = some d:=⟨_,List.getElem?_eq_getElem hlt⟩
   have hb:((s.locks.take k).filter (fun d=>d.obj != c.obj || d.off != c.off)).length+1≤1000000:=by have:=filter_take_le s.locks (fun d=>d.obj != c.obj || d.off != c.off) k;omega
   simp only [↓evP,evB,stB,reduceIte,reduceCtorEq,seval,h6,g5,h5,o5,hd,RLk.row,hb];refine ⟨fun _=>?_,fun h=>absurd hlt (by omega)⟩
   repeat' (first | apply And.intro | intro)
   all_goals first
    | (unfold Drw;kernel_rfl)
    | exact ⟨_,by omega,(by repeat' (first | assumption | exact within_over.mpr trivial | exact Within.refl _ _ _ | (refine within_ap ?_ rfl rfl) | (refine within_ap0 ?_ rfl))),k+1,rfl,by omega,by simp only [stB,reduceIte,reduceCtorEq,seval,h6];rw [wrN (by omega)],by simp only [stB,reduceIte,reduceCtorEq,seval,g5],by simp [stB,reduceIte,reduceCtorEq,seval,h5,filter_succ hd,RLk.row, *],by simp [stB,reduceIte,reduceCtorEq,seval,o5,filter_succ hd, *]⟩
    | skip
  ·have hkl:k=s.locks.length:=by omega
   subst hkl;rw [List.take_length] at h5 o5;have hb:(s.locks.filter (fun d=>d.obj != c.obj || d.off != c.off)).length+1≤1000000:=by have:=List.length_filter_le (fun d:RLk=>d.obj != c.obj || d.off != c.off) s.locks;omega
   simp only [↓evP,evB,stB,reduceIte,reduceCtorEq,seval,h6,g5,h5,o5,hb,pr101];refine ⟨fun h=>absurd h (by omega),fun _=>?_⟩;simp [RSt.setLock,RLk.row,RSt.pa,RSt.row]
def R_done (ps rs:List Pa):Prop:=∃ (s:RSt) (obj off:Int),ps=[s.pa,pI obj,pI off]∧s.done.length≤1000000∧rs=[pB (s.isDone obj off)]
theorem s_done:Spec Try.prog 102 R_done:=by
 refine sp102 EnvOK.e0 ?_;rintro ps rs ⟨s,obj,off,rfl,hlen,rfl⟩;refine ⟨by simp,?_⟩;unfold pc102;refine pwp_start ?_;simp only [↓evP,evB,stB,reduceIte,reduceCtorEq,Nat.reduceEqDiff,Nat.reduceAdd,Nat.reduceMul,Nat.reduceLeDiff,Nat.reduceLT,Nat.reduceSub,Nat.reduceBEq,RSt.pa,RSt.row];refine pwp_loopW ms102_0 os102_0 (fun m st=>∃ k:Nat,m=s.done.length - k∧k≤s.done.length∧(∀ i c,i < k→s.done[i]? = some c→(c.1 == obj && c.2 == off)=false)∧st.sl 7=aI k) s.done.length ?_ ?_
 ·exact ⟨0,rfl,Nat.zero_le _,fun i c hi=>absurd hi (Nat.not_lt_zero _),by simp only [stB,reduceIte,reduceCtorEq,Nat.reduceEqDiff,Nat.reduceAdd,Nat.reduceMul,Nat.reduceLeDiff,Nat.reduceLT,Nat.reduceSub,Nat.reduceBEq];rfl⟩
 ·rintro m j ⟨k,rfl,hk,hno,h7⟩;simp only [stB,reduceIte,reduceCtorEq,seval] at h7
  rcases Nat.lt_or_ge k s.done.length with hlt | hge
  ·obtain ⟨c,hc⟩:∃ c,s.done[k]? = some c:=⟨_,List.getElem?_eq_getElem hlt⟩
   simp only [↓evP,evB,stB,reduceIte,reduceCtorEq,seval,h7,hc,locRow,pr102];refine ⟨fun _=>⟨fun e1=>⟨fun e2=>?_,fun e2=>?_⟩,fun e1=>?_⟩,fun h=>absurd hlt (by omega)⟩
   ·unfold RSt.isDone;rw [List.any_eq_true.2 ⟨c,List.mem_of_getElem? hc,by rw [e1,e2];rfl⟩]
   ·exact ⟨_,by omega,(by repeat' (first | assumption | exact within_over.mpr trivial | exact Within.refl _ _ _ | (refine within_ap ?_ rfl rfl) | (refine within_ap0 ?_ rfl))),k+1,rfl,by omega,no_succ hno hc (by rw [e2,Bool.and_false]),by simp only [stB,reduceIte,reduceCtorEq,seval,h7];rw [wrN (by omega)]⟩
   ·exact ⟨_,by omega,(by repeat' (first | assumption | exact within_over.mpr trivial | exact Within.refl _ _ _ | (refine within_ap ?_ rfl rfl) | (refine within_ap0 ?_ rfl))),k+1,rfl,by omega,no_succ hno hc (by rw [e1];rfl),by simp only [stB,reduceIte,reduceCtorEq,seval,h7];rw [wrN (by omega)]⟩
  ·simp only [↓evP,evB,stB,reduceIte,reduceCtorEq,seval,h7,pr102];refine ⟨fun h=>absurd h (by omega),fun h=>?_⟩;unfold RSt.isDone;rw [any_miss (fun i c hi hc=>hno i c (by omega) hc)]
def env_counted:Env:=e1 97 R_channel (e1 99 R_setChannel e0)
theorem env_counted_ok:EnvOK Try.prog env_counted:=EnvOK.e1 s_channel (EnvOK.e1 s_setChannel EnvOK.e0)
theorem RSt.channel_bd {s:RSt} (h:s.ok) (obj n:Int):(0≤(s.channel obj n).sent∧(s.channel obj n).sent≤1000000)∧(0≤(s.channel obj n).recv∧(s.channel obj n).recv≤1000000):=by
 unfold RSt.channel
 cases hf:s.chans.find? (fun c=>c.obj == obj) with
 | none=>simp
 | some c=>exact h.ch.2 c (List.mem_of_find?_eq_some hf)
def R_counted (ps rs:List Pa):Prop:=∃ (s:RSt) (e:Ev),ps=[s.pa,e.pa]∧s.ok∧rs=[(s.counted e).pa]
theorem s_counted:Spec Try.prog 96 R_counted:=by
 refine sp96 env_counted_ok ?_;rintro ps rs ⟨s,e,rfl,hok,rfl⟩;refine ⟨by simp,?_⟩;obtain ⟨⟨c1,c2⟩,c3,c4⟩:=RSt.channel_bd hok e.obj e.n;unfold pc96;refine pwp_start ?_;simp only [↓evP,evB,stB,reduceIte,reduceCtorEq,seval,RSt.pa,RSt.row,Ev.pa,Ev.row];refine callOps_intro [.agg (s.channel e.obj e.n).row] ⟨s,e.obj,e.n,rfl,by have:=hok.ch.1;omega,rfl⟩ ?_
 simp only [↓evP,evB,stB,reduceIte,reduceCtorEq,seval,RCh.row,pr96];refine ⟨fun h15=>?_,fun h15=>⟨fun h17=>?_,fun h17=>?_⟩⟩
 ·rw [wr64 (by omega) (by omega)]
  refine callOps_intro [(s.setChannel { s.channel e.obj e.n with sent:=(s.channel e.obj e.n).sent+1 }).pa] ⟨s,{ s.channel e.obj e.n with sent:=(s.channel e.obj e.n).sent+1 },rfl,hok.ch.1,rfl⟩ ?_;simp only [↓evP,evB,stB,reduceIte,reduceCtorEq,seval,RSt.pa,RSt.row,pr96];unfold RSt.counted RCh.count;rw [if_pos (Or.inl (beq_iff_eq.1 h15)),if_pos (beq_iff_eq.1 h15)]
 ·rw [wr64 (by omega) (by omega)]
  refine callOps_intro [(s.setChannel { s.channel e.obj e.n with recv:=(s.channel e.obj e.n).recv+1 }).pa] ⟨s,{ s.channel e.obj e.n with recv:=(s.channel e.obj e.n).recv+1 },rfl,hok.ch.1,rfl⟩ ?_;simp only [↓evP,evB,stB,reduceIte,reduceCtorEq,seval,RSt.pa,RSt.row,pr96];unfold RSt.counted RCh.count;rw [if_pos (Or.inr (beq_iff_eq.1 h17)),if_neg (beq_eq_false_iff_ne.1 h15),if_pos (beq_iff_eq.1 h17)]
 ·unfold RSt.counted;rw [if_neg (fun h=>h.elim (beq_eq_false_iff_ne.1 h15) (beq_eq_false_iff_ne.1 h17))]
def R_begin (ps rs:List Pa):Prop:=∃ (s:RSt) (e:Ev) (next:List RWt),ps=[s.pa,e.pa,.one (.im (next.map RWt.row))]∧(s.ok∧next.length≤900000)∧rs=[(s.begin e next).pa,pB true]
def env_begin:Env:=e1 96 R_counted e0
theorem env_begin_ok:EnvOK Try.prog env_begin:=EnvOK.e1 s_counted EnvOK.e0
theorem s_begin:Spec Try.prog 98 R_begin:=by
 refine sp98 env_begin_ok ?_;rintro ps rs ⟨s,e,next,rfl,⟨hok,hn⟩,rfl⟩;refine ⟨by simp,?_⟩;unfold pc98;refine pwp_start ?_;simp only [↓evP,evB,stB,reduceIte,reduceCtorEq,seval,RSt.pa,RSt.row,Ev.pa,Ev.row];refine ⟨(by unfold Drw;kernel_rfl),?_⟩
 refine callOps_intro [(s.begin e next).pa] ⟨{ s with next:=next,obj:=e.obj,k:=e.k,n:=e.n },e,rfl,⟨hok.ct,hok.gr,hok.ch,hok.lk,hok.dn,hn⟩,rfl⟩ ?_;simp only [↓evP,evB,stB,reduceIte,reduceCtorEq,seval,RSt.pa,RSt.row,pr98]
def R_group (ps rs:List Pa):Prop:=∃ (s:RSt) (e:Ev),ps=[s.pa,e.pa]∧(s.ok∧s.next≠[])∧rs=[(s.groupR e).1.pa,pB (s.groupR e).2]
def env_group:Env:=e1 96 R_counted e0
theorem env_group_ok:EnvOK Try.prog env_group:=EnvOK.e1 s_counted EnvOK.e0
theorem group_tail {s:RSt} {e:Ev} {w:RWt} {rest:List RWt} (hok:s.ok) (hnx:s.next=w :: rest) (Q:Exit→St→Prop)
 (hQ:∀ st,st.res pr65=some [(RSt.counted { s with next:=rest.map (w.known e.g) } e).pa,pB true]→Q .ret st) (st:St)
 (h2:st.sl 2=.b (.one (.ptr 2 1 0))) (h3:st.sl 3=.b (.one (.ptr 3 1 0))) (h4:st.sl 4=.b (.one (.ptr 4 1 0))) (h6:st.sl 6=.b (.one (.ptr 6 1 0)))
 (g2:st.gen 2=1) (g3:st.gen 3=1) (g4:st.gen 4=1) (g6:st.gen 6=1) (g7:st.gen 7=0)
 (o2:st.ob 2=.cells (s.row.map .d)) (o3:st.ob 3=.cells (e.row.map .d)) (o4:st.ob 4=.cells [.d (dI 0),.d (dI 0),.d (.sc (.slice none 0 0)),.d (.sc (.slice none 0 0)),.d (.sc (.slice none 0 0)),.d (.sc (.slice none 0 0)),.d (dI 0),.d (dI 0),.d (dI 0)]) (o6:st.ob 6=.cells (w.row.map .d)) :
 pwp env_group pc65c2 (exS env_group [] Q) st:=by
 have hlen:=hok.nx;rw [hnx,List.length_cons] at hlen;simp only [RSt.row,Ev.row,RWt.row,hnx,List.map_cons,List.map_nil] at o2 o3 o4 o6;unfold pc65c2 pc65c1;simp only [↓evP,evB,stB,reduceIte,reduceCtorEq,Nat.reduceEqDiff,Nat.reduceAdd,Nat.reduceMul,Nat.reduceLeDiff,Nat.reduceLT,Nat.reduceSub,Nat.reduceBEq,h2,h3,h4,h6,g2,g3,g4,g6,g7,o2,o3,o4,o6];refine pwp_loopW ms65_0 os65_0 (fun m st=>∃ k:Nat,m=rest.length - k∧k≤rest.length∧st.sl 8=aI ((k+1:Nat):Int)∧st.gen 7=1∧st.sl 7=.b (.one (.own 7 1 ((rest.take k).map fun x=>(w.known e.g x).row)))∧st.ob 7=.row 143 3 k) rest.length ?_ ?_
 ·exact ⟨0,rfl,Nat.zero_le _,by simp only [stB,reduceIte,reduceCtorEq,Nat.reduceEqDiff,Nat.reduceAdd,Nat.reduceMul,Nat.reduceLeDiff,Nat.reduceLT,Nat.reduceSub,Nat.reduceBEq];rfl,by simp only [stB,reduceIte,reduceCtorEq,Nat.reduceEqDiff,Nat.reduceAdd,Nat.reduceMul,Nat.reduceLeDiff,Nat.reduceLT,Nat.reduceSub,Nat.reduceBEq,g7],by simp only [stB,reduceIte,reduceCtorEq,Nat.reduceEqDiff,Nat.reduceAdd,Nat.reduceMul,Nat.reduceLeDiff,Nat.reduceLT,Nat.reduceSub,Nat.reduceBEq,g7],by simp only [stB,reduceIte,reduceCtorEq,Nat.reduceEqDiff,Nat.reduceAdd,Nat.reduceMul,Nat.reduceLeDiff,Nat.reduceLT,Nat.reduceSub,Nat.reduceBEq]⟩
 ·rintro m j ⟨k,rfl,hk,h8,g7',h7,o7⟩;simp only [stB,reduceIte,reduceCtorEq,seval] at h8 g7' h7 o7
  rcases Nat.lt_or_ge k rest.length with hlt | hge
  ·obtain ⟨d,hd⟩:∃ d,rest[k]? = some d:=⟨_,List.getElem?_eq_getElem hlt⟩
   have hb:k+1≤1000000:=by omega
   have hb2:((k+1:Nat):Int) < ((rest.length+1:Nat):Int):=by omega
   have hb3:((k+1:Nat):Int)≥0:=by omega
   simp only [↓evP,evB,stB,reduceIte,reduceCtorEq,seval,h2,h3,h4,h6,g2,g3,g4,g6,o2,o3,o4,o6,h8,g7',h7,o7,hd,hb,hb2,hb3,RWt.row,List.length_take,Nat.min_eq_left hk]
   have hkn:∀ hw:w.g < 0,∀ hx:d.g < 0,w.known e.g d={ d with g:=e.g }:=fun hw hx=>if_pos ⟨hw,hx⟩
   have hkn2:¬ (w.g < 0∧d.g < 0)→w.known e.g d=d:=fun h=>if_neg h
   refine ⟨fun hw=>⟨fun hx=>?_,fun hx=>?_⟩,fun hw=>?_⟩
   ·exact ⟨_,by omega,(by repeat' (first | assumption | exact within_over.mpr trivial | exact Within.refl _ _ _ | (refine within_ap ?_ rfl rfl) | (refine within_ap0 ?_ rfl))),k+1,rfl,by omega,by simp only [stB,reduceIte,reduceCtorEq,seval,h8];rw [wrN (by omega)],by simp only [stB,reduceIte,reduceCtorEq,seval,g7'],by simp only [stB,reduceIte,reduceCtorEq,seval,h7,List.take_add_one,hd,Option.toList_some,List.map_append,hkn hw hx,RWt.row],by simp only [stB,reduceIte,reduceCtorEq,seval,o7]⟩
   ·exact ⟨_,by omega,(by repeat' (first | assumption | exact within_over.mpr trivial | exact Within.refl _ _ _ | (refine within_ap ?_ rfl rfl) | (refine within_ap0 ?_ rfl))),k+1,rfl,by omega,by simp only [stB,reduceIte,reduceCtorEq,seval,h8];rw [wrN (by omega)],by simp only [stB,reduceIte,reduceCtorEq,seval,g7'],by simp only [stB,reduceIte,reduceCtorEq,seval,h7,List.take_add_one,hd,Option.toList_some,List.map_append,hkn2 (fun h=>hx h.2),RWt.row],by simp only [stB,reduceIte,reduceCtorEq,seval,o7]⟩
   ·exact ⟨_,by omega,(by repeat' (first | assumption | exact within_over.mpr trivial | exact Within.refl _ _ _ | (refine within_ap ?_ rfl rfl) | (refine within_ap0 ?_ rfl))),k+1,rfl,by omega,by simp only [stB,reduceIte,reduceCtorEq,seval,h8];rw [wrN (by omega)],by simp only [stB,reduceIte,reduceCtorEq,seval,g7'],by simp only [stB,reduceIte,reduceCtorEq,seval,h7,List.take_add_one,hd,Option.toList_some,List.map_append,hkn2 (fun h=>hw h.1),RWt.row],by simp only [stB,reduceIte,reduceCtorEq,seval,o7]⟩
  ·have hkl:k=rest.length:=by omega
   subst hkl;rw [List.take_length] at h7;have hb2:¬ (((rest.length+1:Nat):Int) < ((rest.length+1:Nat):Int)):=by omega
   unfold pc65c0;simp only [↓evP,evB,stB,reduceIte,reduceCtorEq,seval,h2,h3,h4,h6,g2,g3,g4,g6,o2,o3,o4,o6,h8,g7',h7,o7,hb2]
   refine callOps_intro [(RSt.counted { s with next:=rest.map (w.known e.g) } e).pa] ⟨{ s with next:=rest.map (w.known e.g) },e,?_,⟨hok.ct,hok.gr,hok.ch,hok.lk,hok.dn,by simp;omega⟩,rfl⟩ ?_
   ·simp only [RSt.pa,RSt.row,Ev.pa,Ev.row,List.map_map];rfl
   ·simp only [↓evP,evB,stB,reduceIte,reduceCtorEq,seval,RSt.pa,RSt.row,h2,h3,h4,h6,g2,g3,g4,g6,o2,o3,o4,o6];refine hQ _ ?_;simp only [stB,reduceIte,reduceCtorEq,seval,pr65,RSt.pa,RSt.row,h2,h3,h4,h6,g2,g3,g4,g6,o2,o3,o4,o6]
theorem s_group:Spec Try.prog 65 R_group:=by
 refine sp65 env_group_ok ?_;rintro ps rs ⟨s,e,rfl,⟨hok,hn⟩,rfl⟩;refine ⟨by simp,?_⟩
 obtain ⟨w,rest,hnx⟩:∃ w rest,s.next=w :: rest:=by cases h:s.next with
  | nil=>exact absurd h hn
  | cons w l=>exact ⟨w,l,rfl⟩
 unfold pc65;refine pwp_start ?_;simp only [↓evP,evB,stB,reduceIte,reduceCtorEq,seval,RSt.pa,RSt.row,Ev.pa,Ev.row,hnx,RWt.row,Int.toNat_zero,Int.le_refl];refine pwp_fresh [2,3,4,5,6] [2,3,4,6,7] (fun st hs ho=>?_);simp only [stB,reduceIte,reduceCtorEq,seval] at hs ho;obtain ⟨h2,h3,h4,h5,h6⟩:=hs;obtain ⟨⟨g2,o2⟩,⟨g3,o3⟩,⟨g4,o4⟩,⟨g6,o6⟩,g7,o7⟩:=ho;unfold pc65c4 pc65c3
 cases hf:s.fits w e with
 | false =>
   have hg:s.groupR e=(s,false):=by unfold RSt.groupR;rw [hnx];dsimp only;rw [hf];rfl
   rw [hg];unfold RSt.fits at hf
   cases b1:(e.kind != w.kind) with
   | true=>simp only [↓evP,evB,stB,reduceIte,reduceCtorEq,seval,h2,h3,h4,h5,h6,g2,g3,g4,g6,o2,o3,o4,o6,RSt.pa,RSt.row,decide_true,decide_false,pr65,hnx,RWt.row,b1]
   | false =>
   cases b2:(e.obj != s.obj) with
   | true=>simp only [↓evP,evB,stB,reduceIte,reduceCtorEq,seval,h2,h3,h4,h5,h6,g2,g3,g4,g6,o2,o3,o4,o6,RSt.pa,RSt.row,decide_true,decide_false,pr65,hnx,RWt.row,b1,b2]
   | false =>
   cases b3:(e.k != s.k) with
   | true=>simp only [↓evP,evB,stB,reduceIte,reduceCtorEq,seval,h2,h3,h4,h5,h6,g2,g3,g4,g6,o2,o3,o4,o6,RSt.pa,RSt.row,decide_true,decide_false,pr65,hnx,RWt.row,b1,b2,b3]
   | false =>
   cases b4:(e.n != s.n) with
   | true=>simp only [↓evP,evB,stB,reduceIte,reduceCtorEq,seval,h2,h3,h4,h5,h6,g2,g3,g4,g6,o2,o3,o4,o6,RSt.pa,RSt.row,decide_true,decide_false,pr65,hnx,RWt.row,b1,b2,b3,b4]
   | false =>
   by_cases b5:w.g≥0
   ·have b6:¬ w.g < 0:=by omega
    cases b7:(e.g != w.g) with
    | true=>simp only [↓evP,evB,stB,reduceIte,reduceCtorEq,seval,h2,h3,h4,h5,h6,g2,g3,g4,g6,o2,o3,o4,o6,RSt.pa,RSt.row,decide_true,decide_false,pr65,hnx,RWt.row,b1,b2,b3,b4,b5,b6,b7]
    | false=>simp [b1,b2,b3,b4,b6,b7] at hf
   ·have b6:w.g < 0:=by omega
    cases b7:(e.g == w.not) with
    | true=>simp only [↓evP,evB,stB,reduceIte,reduceCtorEq,seval,h2,h3,h4,h5,h6,g2,g3,g4,g6,o2,o3,o4,o6,RSt.pa,RSt.row,decide_true,decide_false,pr65,hnx,RWt.row,b1,b2,b3,b4,b5,b6,b7]
    | false=>simp [b1,b2,b3,b4,b5,b6,b7] at hf
 | true =>
   have hg:s.groupR e=(RSt.counted { s with next:=rest.map (w.known e.g) } e,true):=by unfold RSt.groupR;rw [hnx];dsimp only;rw [hf];rfl
   rw [hg];unfold RSt.fits at hf;simp only [Bool.not_eq_true',Bool.or_eq_false_iff] at hf;obtain ⟨⟨b1,b2,b3,b4,b5⟩,b6⟩:=hf
   by_cases q:w.g≥0
   ·have q2:¬ w.g < 0:=by omega
    have b7:(e.g != w.g)=false:=by rw [decide_eq_true (show 0≤w.g from q)] at b5;simpa using b5
    simp only [↓evP,evB,stB,reduceIte,reduceCtorEq,seval,h2,h3,h4,h5,h6,g2,g3,g4,g6,o2,o3,o4,o6,decide_true,decide_false,b1,b2,b3,b4,q,q2,b7]
    exact group_tail hok hnx _ (fun st' h=>⟨.inr rfl,h⟩) _ (by simp only [stB,reduceIte,reduceCtorEq,seval,h2]) (by simp only [stB,reduceIte,reduceCtorEq,seval,h3]) (by simp only [stB,reduceIte,reduceCtorEq,seval,h4]) (by simp only [stB,reduceIte,reduceCtorEq,seval,h6]) (by simp only [stB,reduceIte,reduceCtorEq,seval,g2]) (by simp only [stB,reduceIte,reduceCtorEq,seval,g3]) (by simp only [stB,reduceIte,reduceCtorEq,seval,g4]) (by simp only [stB,reduceIte,reduceCtorEq,seval,g6]) (by simp only [stB,reduceIte,reduceCtorEq,seval,g7])
     (by simp only [stB,reduceIte,reduceCtorEq,seval,o2,RSt.row,hnx,RWt.row]) (by simp only [stB,reduceIte,reduceCtorEq,seval,o3,Ev.row]) (by simp only [stB,reduceIte,reduceCtorEq,seval,o4]) (by simp only [stB,reduceIte,reduceCtorEq,seval,o6,RWt.row])
   ·have q2:w.g < 0:=by omega
    have b7:(e.g == w.not)=false:=by rw [decide_eq_true q2] at b6;simpa using b6
    simp only [↓evP,evB,stB,reduceIte,reduceCtorEq,seval,h2,h3,h4,h5,h6,g2,g3,g4,g6,o2,o3,o4,o6,decide_true,decide_false,b1,b2,b3,b4,q,q2,b7]
    exact group_tail hok hnx _ (fun st' h=>⟨.inr rfl,h⟩) _ (by simp only [stB,reduceIte,reduceCtorEq,seval,h2]) (by simp only [stB,reduceIte,reduceCtorEq,seval,h3]) (by simp only [stB,reduceIte,reduceCtorEq,seval,h4]) (by simp only [stB,reduceIte,reduceCtorEq,seval,h6]) (by simp only [stB,reduceIte,reduceCtorEq,seval,g2]) (by simp only [stB,reduceIte,reduceCtorEq,seval,g3]) (by simp only [stB,reduceIte,reduceCtorEq,seval,g4]) (by simp only [stB,reduceIte,reduceCtorEq,seval,g6]) (by simp only [stB,reduceIte,reduceCtorEq,seval,g7])
     (by simp only [stB,reduceIte,reduceCtorEq,seval,o2,RSt.row,hnx,RWt.row]) (by simp only [stB,reduceIte,reduceCtorEq,seval,o3,Ev.row]) (by simp only [stB,reduceIte,reduceCtorEq,seval,o4]) (by simp only [stB,reduceIte,reduceCtorEq,seval,o6,RWt.row])
theorem bne_of {a b:Int} (h:(a == b)=false):¬ a=b:=beq_eq_false_iff_ne.1 h
theorem RSt.lock_bd {s:RSt} (h:s.ok) (obj off:Int):0≤(s.lock obj off).readers∧(s.lock obj off).readers≤1000000:=by
 unfold RSt.lock
 cases hf:s.locks.find? (fun c=>c.obj == obj && c.off == off) with
 | none=>simp
 | some c=>exact h.lk.2 c (List.mem_of_find?_eq_some hf)
def R_other (ps rs:List Pa):Prop:=∃ (s:RSt) (e:Ev),ps=[s.pa,e.pa]∧s.ok∧rs=[(s.otherR e).1.pa,pB (s.otherR e).2]
def env_other:Env:=e1 100 R_lock (e1 101 R_setLock (e1 102 R_done e0))
theorem env_other_ok:EnvOK Try.prog env_other:=EnvOK.e1 s_lock (EnvOK.e1 s_setLock (EnvOK.e1 s_done EnvOK.e0))
theorem s_other:Spec Try.prog 68 R_other:=by
 refine sp68 env_other_ok ?_;rintro ps rs ⟨s,e,rfl,hok,rfl⟩;refine ⟨by simp,?_⟩;obtain ⟨c3,c4⟩:=RSt.lock_bd hok e.obj e.off;unfold pc68;refine pwp_start ?_;simp only [↓evP,evB,stB,reduceIte,reduceCtorEq,seval,RSt.pa,RSt.row,Ev.pa,Ev.row];refine callOps_intro [.agg (s.lock e.obj e.off).row] ⟨s,e.obj,e.off,rfl,by have:=hok.lk.1;omega,rfl⟩ ?_
 cases k6:(e.kind == 6) with
 | true =>
   have hg:s.otherR e=(s.setLock { s.lock e.obj e.off with locked:=true },!(s.lock e.obj e.off).locked && (s.lock e.obj e.off).readers == 0):=by unfold RSt.otherR;rw [if_pos (beq_iff_eq.1 k6)]
   rw [hg];simp only [↓evP,evB,stB,reduceIte,reduceCtorEq,seval,RLk.row,pr68,k6]
   refine callD_intro [(s.setLock { s.lock e.obj e.off with locked:=true }).pa] ⟨s,{ s.lock e.obj e.off with locked:=true },rfl,hok.lk.1,rfl⟩ ?_
   cases b1:(s.lock e.obj e.off).locked with
   | true =>
     simp only [↓evP,evB,stB,reduceIte,reduceCtorEq,seval,RLk.row,pr68,k6,RSt.pa,RSt.row,b1]
     (unfold Drw;kernel_rfl)
   | false =>
     simp only [↓evP,evB,stB,reduceIte,reduceCtorEq,seval,RLk.row,pr68,k6,RSt.pa,RSt.row,b1]
     (unfold Drw;kernel_rfl)
 | false =>
 cases k7:(e.kind == 7) with
 | true =>
   have hg:s.otherR e=(s.setLock { s.lock e.obj e.off with locked:=false },(s.lock e.obj e.off).locked):=by unfold RSt.otherR;rw [if_neg (bne_of k6),if_pos (beq_iff_eq.1 k7)]
   rw [hg];simp only [↓evP,evB,stB,reduceIte,reduceCtorEq,seval,RLk.row,pr68,k6,k7]
   refine callOps_intro [(s.setLock { s.lock e.obj e.off with locked:=false }).pa] ⟨s,{ s.lock e.obj e.off with locked:=false },rfl,hok.lk.1,rfl⟩ ?_;simp only [↓evP,evB,stB,reduceIte,reduceCtorEq,seval,RLk.row,pr68,k6,k7,RSt.pa,RSt.row,Bool.not_not]
 | false =>
 cases k8:(e.kind == 8) with
 | true =>
   have hg:s.otherR e=(s.setLock { s.lock e.obj e.off with readers:=(s.lock e.obj e.off).readers+1 },!(s.lock e.obj e.off).locked):=by unfold RSt.otherR;rw [if_neg (bne_of k6),if_neg (bne_of k7),if_pos (beq_iff_eq.1 k8)]
   rw [hg];simp only [↓evP,evB,stB,reduceIte,reduceCtorEq,seval,RLk.row,pr68,k6,k7,k8];rw [wr64 (by omega) (by omega)]
   refine callOps_intro [(s.setLock { s.lock e.obj e.off with readers:=(s.lock e.obj e.off).readers+1 }).pa] ⟨s,{ s.lock e.obj e.off with readers:=(s.lock e.obj e.off).readers+1 },rfl,hok.lk.1,rfl⟩ ?_;simp only [↓evP,evB,stB,reduceIte,reduceCtorEq,seval,RLk.row,pr68,k6,k7,k8,RSt.pa,RSt.row]
 | false =>
 cases k9:(e.kind == 9) with
 | true =>
   have hg:s.otherR e=(s.setLock { s.lock e.obj e.off with readers:=(s.lock e.obj e.off).readers - 1 },decide (0≤(s.lock e.obj e.off).readers - 1)):=by unfold RSt.otherR;rw [if_neg (bne_of k6),if_neg (bne_of k7),if_neg (bne_of k8),if_pos (beq_iff_eq.1 k9)]
   rw [hg];simp only [↓evP,evB,stB,reduceIte,reduceCtorEq,seval,RLk.row,pr68,k6,k7,k8,k9];rw [wr64 (by omega) (by omega)]
   refine callD_intro [(s.setLock { s.lock e.obj e.off with readers:=(s.lock e.obj e.off).readers - 1 }).pa] ⟨s,{ s.lock e.obj e.off with readers:=(s.lock e.obj e.off).readers - 1 },rfl,hok.lk.1,rfl⟩ ?_;simp only [↓evP,evB,stB,reduceIte,reduceCtorEq,seval,RLk.row,pr68,k6,k7,k8,k9,RSt.pa,RSt.row]
   (unfold Drw;kernel_rfl)
 | false =>
 cases k12:(e.kind == 12) with
 | true =>
   have hg:s.otherR e=({ s with done:=s.done ++ [(e.obj,e.off)] },!s.isDone e.obj e.off):=by unfold RSt.otherR;rw [if_neg (bne_of k6),if_neg (bne_of k7),if_neg (bne_of k8),if_neg (bne_of k9),if_pos (beq_iff_eq.1 k12)]
   rw [hg];simp only [↓evP,evB,stB,reduceIte,reduceCtorEq,seval,RLk.row,pr68,k6,k7,k8,k9,k12];refine callOps_intro [pB (s.isDone e.obj e.off)] ⟨s,e.obj,e.off,rfl,by have:=hok.dn;omega,rfl⟩ ?_
   have hd1:s.done.length≤1000000:=by have:=hok.dn;omega
   have hd2:s.done.length+1≤1000000:=by have:=hok.dn;omega
   simp only [↓evP,evB,stB,reduceIte,reduceCtorEq,seval,RLk.row,pr68,k6,k7,k8,k9,k12,RSt.pa,RSt.row,rows_len (f:=locRow) (n:=2) (fun _=>rfl) s.done,hd1,hd2];refine ⟨(by unfold Drw;kernel_rfl),?_⟩
   simp only [↓evP,evB,stB,reduceIte,reduceCtorEq,seval,List.map_append,locRow,pr68]
 | false =>
 cases k13:(e.kind == 13) with
 | true =>
   have hg:s.otherR e=(s,s.isDone e.obj e.off):=by unfold RSt.otherR;rw [if_neg (bne_of k6),if_neg (bne_of k7),if_neg (bne_of k8),if_neg (bne_of k9),if_neg (bne_of k12),if_pos (beq_iff_eq.1 k13)]
   rw [hg];simp only [↓evP,evB,stB,reduceIte,reduceCtorEq,seval,RLk.row,pr68,k6,k7,k8,k9,k12,k13];refine callD_intro [pB (s.isDone e.obj e.off)] ⟨s,e.obj,e.off,rfl,by have:=hok.dn;omega,rfl⟩ ?_
   simp only [↓evP,evB,stB,reduceIte,reduceCtorEq,seval,RLk.row,pr68,k6,k7,k8,k9,k12,k13,RSt.pa,RSt.row]
   (unfold Drw;kernel_rfl)
 | false =>
 cases k14:(e.kind == 14) with
 | true =>
   have hg:s.otherR e=({ s with gor:=s.gor+1 },e.k == s.gor):=by unfold RSt.otherR;rw [if_neg (bne_of k6),if_neg (bne_of k7),if_neg (bne_of k8),if_neg (bne_of k9),if_neg (bne_of k12),if_neg (bne_of k13),if_pos (beq_iff_eq.1 k14)]
   rw [hg];simp only [↓evP,evB,stB,reduceIte,reduceCtorEq,seval,RLk.row,pr68,k6,k7,k8,k9,k12,k13,k14];rw [wr64 (by have:=hok.gr;omega) (by have:=hok.gr;omega)]
   simp only [RSt.pa,RSt.row];exact ⟨(by unfold Drw;kernel_rfl),trivial⟩
 | false =>
   have hg:s.otherR e=(s,true):=by unfold RSt.otherR;rw [if_neg (bne_of k6),if_neg (bne_of k7),if_neg (bne_of k8),if_neg (bne_of k9),if_neg (bne_of k12),if_neg (bne_of k13),if_neg (bne_of k14)]
   rw [hg];simp only [↓evP,evB,stB,reduceIte,reduceCtorEq,seval,RLk.row,pr68,k6,k7,k8,k9,k12,k13,k14,RSt.pa,RSt.row]
end Go.Proofs.Ytffcpijeebagfaa
end
