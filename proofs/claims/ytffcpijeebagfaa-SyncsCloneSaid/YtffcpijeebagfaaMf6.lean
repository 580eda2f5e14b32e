/- Tables on the heap: what an event acquires. -/
import Derived.Test.YtffcpijeebagfaaMf5
import Derived.Shelf.SlMaps.Clone
import Derived.Deep.RegionHeld3
import Derived.Laws.CopyOwn
set_option linter.unusedSimpArgs false
set_option linter.unusedVariables false
section
namespace Go.Proofs.Ytffcpijeebagfaa
open Go Go.RowKit
set_option maxRecDepth 100000
set_option maxHeartbeats 4000000
def R_evalid (ps rs:List Pa):Prop:=∃ e:Ev,ps=[e.pa]∧rs=[pB e.valid]
theorem s_evalidT:Spec Try.prog 59 R_evalid:=by
 rintro ps rs ⟨e,rfl,rfl⟩ S w vals _ hv;obtain ⟨u,rfl,h1⟩:=hv.one;obtain rfl:u=e.val:=RP.flat (vs:=e.cells) h1;refine (evalid_any e w).mono ?_;rintro r w' ⟨rfl,hb⟩;exact ⟨_,S,rfl,RP.mkBool _,hb,fun _ _=>rfl⟩
def R_addH (hp:Nat→Hb) (az:List Hw) (hp':Nat→Hb) (rs:List Hw):Prop:=∃ b H ps H' rs',az=.one (.h (.v b)) :: ps.map paHw∧hp b=.ab H∧Ra_add (some H) ps H' rs'∧hp'=up hp b (.ab H')∧rs=rs'.map paHw
def env_adv:Env:=h1 78 R_acq (h1 80 R_ring (h1 81 R_rel (h1 21 R_addH (e1 59 R_evalid (e1 77 R_tick (e1 79 R_join e0))))))
theorem envOK_adv:EnvOK Try.prog env_adv:=.h1 s_acq (.h1 s_ring (.h1 s_rel (.h1 sa_add.toH (.e1 s_evalidT (.e1 s_cTick (.e1 s_join .e0))))))
structure MidSt (nc:Nat→Nat) (N b0:Nat) (e:Ev) (c:Ck) (hp:Nat→Hb) (st:St):Prop where
 s2:st.sl 2=.b (.one (.hv (.p (N+2) 0)))
 s3:st.sl 3=.b (.one (.ptr 3 1 0))
 s4:st.sl 4=.b (.one (.ptr 4 1 0))
 s6:st.sl 6=.b (.one (.hv (.p (N+6) 0)))
 s7:st.sl 7=.b (.one (.hv (.p (N+7) 0)))
 s8:st.sl 8=.b (.one (.hv (.f 78 [] [(N+6,0),(N+2,0),(N+7,0)])))
 g3:st.gen 3=1
 o3:st.ob 3=.cells (e.row.map Cl.d)
 g4:st.gen 4=1
 o4:st.ob 4=.cells [.d (dI 0),.d (dI 0),.d (dI 0),.d (dI 0),.d (dI 0),.d (dI 0),.d (dI 0),.d (dI 0)]
 hnc:st.nc=nc
 ah:AllHp st
 hb:st.hb=hp
 p2:hp (N+2)=.cells [.h (.p b0 0)]
 p6:hp (N+6)=.cells (ckH c)
 p7:hp (N+7)=.cells [hI e.obj,hI e.off]
 n6:nc (N+6)=7
section
variable {hp:Nat→Hb} {b0 N:Nat} {D:Nat→Prop} {t:TabL} {e:Ev} {c:Ck} {nc:Nat→Nat} {st:St} {ks:List It} {Q:Exit→St→Prop}
theorem acq_R (h:TabAt hp b0 D t) (hc:c.length=8) (he:EvIn e) (p2:hp (N+2)=.cells [.h (.p b0 0)]) (p6:hp (N+6)=.cells (ckH c)) (p7:hp (N+7)=.cells [hI e.obj,hI e.off]) {k:Int} (hk:in64 k) {d:Ck} (hd:OAt t.es (objK k e.obj e.off) d∧d.length=8) :
 R_acq hp [.one (hI k),hP (N+6) 0,hP (N+2) 0,hP (N+7) 0] (up hp (N+6) (.cells (ckH (joinC c d)))) [] :=
 ⟨k,e.obj,e.off,N+6,N+2,N+7,b0,t.bo,tabC t.bs t.bo t.br t.ck,t.es,t.cl,c,d,rfl,⟨p6,hc,p2,p7,h.h0,tabC_65 h.ck,h.ho⟩,⟨hk,he.obj,he.off⟩,hd,rfl,rfl⟩
theorem MidSt.acq (h:MidSt nc N b0 e c hp st) {d:Ck} {st':St} (e2:st'.sl 2=st.sl 2) (e3:st'.sl 3=st.sl 3) (e4:st'.sl 4=st.sl 4) (e6:st'.sl 6=st.sl 6) (e7:st'.sl 7=st.sl 7) (e8:st'.sl 8=st.sl 8) (q3:st'.gen 3=st.gen 3) (q4:st'.gen 4=st.gen 4) (r3:st'.ob 3=st.ob 3) (r4:st'.ob 4=st.ob 4)
 (hn:st'.nc=st.nc) (ha:AllHp st') {hp':Nat→Hb} (hh:st'.hb=hp') (hp2:hp' (N+2)=hp (N+2)) (hp6:hp' (N+6)=.cells (ckH d)) (hp7:hp' (N+7)=hp (N+7)):MidSt nc N b0 e d hp' st' :=
 ⟨e2.trans h.s2,e3.trans h.s3,e4.trans h.s4,e6.trans h.s6,e7.trans h.s7,e8.trans h.s8,q3.trans h.g3,r3.trans h.o3,q4.trans h.g4,r4.trans h.o4,hn.trans h.hnc,ha,hh,hp2.trans h.p2,hp6,hp7.trans h.p7,h.n6⟩
theorem mid_6e (hM:MidSt nc N b0 e c hp st) (h:TabAt hp b0 D t) (hN6:¬ D (N+6)) (hc:c.length=8) (he:EvIn e) (hk:e.kind=6) (k:∀ st',MidSt nc N b0 e (joinC (joinC c ((t.f 0 e.obj e.off).getD ckZ)) ((t.f 1 e.obj e.off).getD ckZ)) (up (up hp (N+6) (.cells (ckH (joinC c ((t.f 0 e.obj e.off).getD ckZ))))) (N+6) (.cells (ckH (joinC (joinC c ((t.f 0 e.obj e.off).getD ckZ)) ((t.f 1 e.obj e.off).getD ckZ))))) st'→exS env_adv ks Q .normal st'):pwp env_adv pct36c1 (exS env_adv ks Q) st:=by
 have k6:(e.kind == 6)=true:=by rw [hk];rfl
 have k8:(e.kind == 8)=false:=by rw [hk];rfl
 have k11:(e.kind == 11)=false:=by rw [hk];rfl
 have k13:(e.kind == 13)=false:=by rw [hk];rfl
 have k3:(e.kind == 3)=false:=by rw [hk];rfl
 have k5:(e.kind == 5)=false:=by rw [hk];rfl
 have k20:(e.kind == 20)=false:=by rw [hk];rfl
 have k18:(e.kind == 18)=false:=by rw [hk];rfl
 have k16:(e.kind == 16)=false:=by rw [hk];rfl
 have s2:=hM.s2;have s3:=hM.s3;have s6:=hM.s6;have s8:=hM.s8;have g3:=hM.g3;have o3:=hM.o3;have hn:=hM.hnc;have hh:=hM.hb;have p2:=hM.p2;have p6:=hM.p6;have p7:=hM.p7;have n6:=hM.n6;have ah:=hM.ah;unfold pct36c1;simp only [↓evP,evB,stB,reduceIte,reduceCtorEq,seval,k6,k8,k11,k13,k3,k5,k20,k18,k16,s2,s3,s6,s8,g3,o3,hn,hh,p2,Ev.row];obtain ⟨oa0,ol0⟩:=oat_of h 0 e.obj e.off;refine callHS_intro (up hp (N+6) (.cells (ckH (joinC c ((t.f 0 e.obj e.off).getD ckZ))))) [] (by simp only [stB,reduceIte,reduceCtorEq,seval,hh];exact acq_R h hc he p2 p6 p7 ⟨by decide,by decide⟩ ⟨oa0,ol0⟩) ?_
 simp only [↓evP,evB,stB,reduceIte,reduceCtorEq,seval,s2,s3,s6,s8,g3,o3,hn,hh,p2,Ev.row];obtain ⟨oa1,ol1⟩:=oat_of h 1 e.obj e.off;refine callHS_intro (up (up hp (N+6) (.cells (ckH (joinC c ((t.f 0 e.obj e.off).getD ckZ))))) (N+6) (.cells (ckH (joinC (joinC c ((t.f 0 e.obj e.off).getD ckZ)) ((t.f 1 e.obj e.off).getD ckZ))))) [] (by simp only [stB,reduceIte,reduceCtorEq,seval,hh];exact acq_R (h.new hN6) (joinC_length hc ol0) he ((up_ne (by omega)).trans p2) up_eq ((up_ne (by omega)).trans p7) ⟨by decide,by decide⟩ ⟨oa1,ol1⟩) ?_
 simp only [↓evP,evB,stB,reduceIte,reduceCtorEq,seval,s2,s3,s6,s8,g3,o3,hn,hh,p2,Ev.row];exact k _ (hM.acq (by simp only [stB,reduceIte,reduceCtorEq,seval]) (by simp only [stB,reduceIte,reduceCtorEq,seval]) (by simp only [stB,reduceIte,reduceCtorEq,seval]) (by simp only [stB,reduceIte,reduceCtorEq,seval]) (by simp only [stB,reduceIte,reduceCtorEq,seval]) (by simp only [stB,reduceIte,reduceCtorEq,seval]) (by simp only [stB,reduceIte,reduceCtorEq,seval]) (by simp only [stB,reduceIte,reduceCtorEq,seval]) (by simp only [stB,reduceIte,reduceCtorEq,seval]) (by simp only [stB,reduceIte,reduceCtorEq,seval]) (by simp only [stB,reduceIte,reduceCtorEq,seval]) (by (repeat' (first | exact AllHp.init | assumption | (refine AllHp.ap ?_ rfl)))) (by simp only [stB,reduceIte,reduceCtorEq,seval]) ((up_ne (by omega)).trans (up_ne (by omega))) up_eq ((up_ne (by omega)).trans (up_ne (by omega))))
theorem mid_8e (hM:MidSt nc N b0 e c hp st) (h:TabAt hp b0 D t) (hN6:¬ D (N+6)) (hc:c.length=8) (he:EvIn e) (hk:e.kind=8) (k:∀ st',MidSt nc N b0 e (joinC c ((t.f 0 e.obj e.off).getD ckZ)) (up hp (N+6) (.cells (ckH (joinC c ((t.f 0 e.obj e.off).getD ckZ))))) st'→exS env_adv ks Q .normal st'):pwp env_adv pct36c1 (exS env_adv ks Q) st:=by
 have k6:(e.kind == 6)=false:=by rw [hk];rfl
 have k8:(e.kind == 8)=true:=by rw [hk];rfl
 have k11:(e.kind == 11)=false:=by rw [hk];rfl
 have k13:(e.kind == 13)=false:=by rw [hk];rfl
 have k3:(e.kind == 3)=false:=by rw [hk];rfl
 have k5:(e.kind == 5)=false:=by rw [hk];rfl
 have k20:(e.kind == 20)=false:=by rw [hk];rfl
 have k18:(e.kind == 18)=false:=by rw [hk];rfl
 have k16:(e.kind == 16)=false:=by rw [hk];rfl
 have s2:=hM.s2;have s3:=hM.s3;have s6:=hM.s6;have s8:=hM.s8;have g3:=hM.g3;have o3:=hM.o3;have hn:=hM.hnc;have hh:=hM.hb;have p2:=hM.p2;have p6:=hM.p6;have p7:=hM.p7;have n6:=hM.n6;have ah:=hM.ah;unfold pct36c1;simp only [↓evP,evB,stB,reduceIte,reduceCtorEq,seval,k6,k8,k11,k13,k3,k5,k20,k18,k16,s2,s3,s6,s8,g3,o3,hn,hh,p2,Ev.row];obtain ⟨oa0,ol0⟩:=oat_of h 0 e.obj e.off;refine callHS_intro (up hp (N+6) (.cells (ckH (joinC c ((t.f 0 e.obj e.off).getD ckZ))))) [] (by simp only [stB,reduceIte,reduceCtorEq,seval,hh];exact acq_R h hc he p2 p6 p7 ⟨by decide,by decide⟩ ⟨oa0,ol0⟩) ?_
 simp only [↓evP,evB,stB,reduceIte,reduceCtorEq,seval,s2,s3,s6,s8,g3,o3,hn,hh,p2,Ev.row];exact k _ (hM.acq (by simp only [stB,reduceIte,reduceCtorEq,seval]) (by simp only [stB,reduceIte,reduceCtorEq,seval]) (by simp only [stB,reduceIte,reduceCtorEq,seval]) (by simp only [stB,reduceIte,reduceCtorEq,seval]) (by simp only [stB,reduceIte,reduceCtorEq,seval]) (by simp only [stB,reduceIte,reduceCtorEq,seval]) (by simp only [stB,reduceIte,reduceCtorEq,seval]) (by simp only [stB,reduceIte,reduceCtorEq,seval]) (by simp only [stB,reduceIte,reduceCtorEq,seval]) (by simp only [stB,reduceIte,reduceCtorEq,seval]) (by simp only [stB,reduceIte,reduceCtorEq,seval]) (by (repeat' (first | exact AllHp.init | assumption | (refine AllHp.ap ?_ rfl)))) (by simp only [stB,reduceIte,reduceCtorEq,seval]) (up_ne (by omega)) up_eq (up_ne (by omega)))
theorem mid_11e (hM:MidSt nc N b0 e c hp st) (h:TabAt hp b0 D t) (hN6:¬ D (N+6)) (hc:c.length=8) (he:EvIn e) (hk:e.kind=11) (k:∀ st',MidSt nc N b0 e (joinC c ((t.f 2 e.obj e.off).getD ckZ)) (up hp (N+6) (.cells (ckH (joinC c ((t.f 2 e.obj e.off).getD ckZ))))) st'→exS env_adv ks Q .normal st'):pwp env_adv pct36c1 (exS env_adv ks Q) st:=by
 have k6:(e.kind == 6)=false:=by rw [hk];rfl
 have k8:(e.kind == 8)=false:=by rw [hk];rfl
 have k11:(e.kind == 11)=true:=by rw [hk];rfl
 have k13:(e.kind == 13)=false:=by rw [hk];rfl
 have k3:(e.kind == 3)=false:=by rw [hk];rfl
 have k5:(e.kind == 5)=false:=by rw [hk];rfl
 have k20:(e.kind == 20)=false:=by rw [hk];rfl
 have k18:(e.kind == 18)=false:=by rw [hk];rfl
 have k16:(e.kind == 16)=false:=by rw [hk];rfl
 have s2:=hM.s2;have s3:=hM.s3;have s6:=hM.s6;have s8:=hM.s8;have g3:=hM.g3;have o3:=hM.o3;have hn:=hM.hnc;have hh:=hM.hb;have p2:=hM.p2;have p6:=hM.p6;have p7:=hM.p7;have n6:=hM.n6;have ah:=hM.ah;unfold pct36c1;simp only [↓evP,evB,stB,reduceIte,reduceCtorEq,seval,k6,k8,k11,k13,k3,k5,k20,k18,k16,s2,s3,s6,s8,g3,o3,hn,hh,p2,Ev.row];obtain ⟨oa0,ol0⟩:=oat_of h 2 e.obj e.off;refine callHS_intro (up hp (N+6) (.cells (ckH (joinC c ((t.f 2 e.obj e.off).getD ckZ))))) [] (by simp only [stB,reduceIte,reduceCtorEq,seval,hh];exact acq_R h hc he p2 p6 p7 ⟨by decide,by decide⟩ ⟨oa0,ol0⟩) ?_
 simp only [↓evP,evB,stB,reduceIte,reduceCtorEq,seval,s2,s3,s6,s8,g3,o3,hn,hh,p2,Ev.row];exact k _ (hM.acq (by simp only [stB,reduceIte,reduceCtorEq,seval]) (by simp only [stB,reduceIte,reduceCtorEq,seval]) (by simp only [stB,reduceIte,reduceCtorEq,seval]) (by simp only [stB,reduceIte,reduceCtorEq,seval]) (by simp only [stB,reduceIte,reduceCtorEq,seval]) (by simp only [stB,reduceIte,reduceCtorEq,seval]) (by simp only [stB,reduceIte,reduceCtorEq,seval]) (by simp only [stB,reduceIte,reduceCtorEq,seval]) (by simp only [stB,reduceIte,reduceCtorEq,seval]) (by simp only [stB,reduceIte,reduceCtorEq,seval]) (by simp only [stB,reduceIte,reduceCtorEq,seval]) (by (repeat' (first | exact AllHp.init | assumption | (refine AllHp.ap ?_ rfl)))) (by simp only [stB,reduceIte,reduceCtorEq,seval]) (up_ne (by omega)) up_eq (up_ne (by omega)))
theorem mid_13e (hM:MidSt nc N b0 e c hp st) (h:TabAt hp b0 D t) (hN6:¬ D (N+6)) (hc:c.length=8) (he:EvIn e) (hk:e.kind=13) (k:∀ st',MidSt nc N b0 e (joinC c ((t.f 3 e.obj e.off).getD ckZ)) (up hp (N+6) (.cells (ckH (joinC c ((t.f 3 e.obj e.off).getD ckZ))))) st'→exS env_adv ks Q .normal st'):pwp env_adv pct36c1 (exS env_adv ks Q) st:=by
 have k6:(e.kind == 6)=false:=by rw [hk];rfl
 have k8:(e.kind == 8)=false:=by rw [hk];rfl
 have k11:(e.kind == 11)=false:=by rw [hk];rfl
 have k13:(e.kind == 13)=true:=by rw [hk];rfl
 have k3:(e.kind == 3)=false:=by rw [hk];rfl
 have k5:(e.kind == 5)=false:=by rw [hk];rfl
 have k20:(e.kind == 20)=false:=by rw [hk];rfl
 have k18:(e.kind == 18)=false:=by rw [hk];rfl
 have k16:(e.kind == 16)=false:=by rw [hk];rfl
 have s2:=hM.s2;have s3:=hM.s3;have s6:=hM.s6;have s8:=hM.s8;have g3:=hM.g3;have o3:=hM.o3;have hn:=hM.hnc;have hh:=hM.hb;have p2:=hM.p2;have p6:=hM.p6;have p7:=hM.p7;have n6:=hM.n6;have ah:=hM.ah;unfold pct36c1;simp only [↓evP,evB,stB,reduceIte,reduceCtorEq,seval,k6,k8,k11,k13,k3,k5,k20,k18,k16,s2,s3,s6,s8,g3,o3,hn,hh,p2,Ev.row];obtain ⟨oa0,ol0⟩:=oat_of h 3 e.obj e.off;refine callHS_intro (up hp (N+6) (.cells (ckH (joinC c ((t.f 3 e.obj e.off).getD ckZ))))) [] (by simp only [stB,reduceIte,reduceCtorEq,seval,hh];exact acq_R h hc he p2 p6 p7 ⟨by decide,by decide⟩ ⟨oa0,ol0⟩) ?_
 simp only [↓evP,evB,stB,reduceIte,reduceCtorEq,seval,s2,s3,s6,s8,g3,o3,hn,hh,p2,Ev.row];exact k _ (hM.acq (by simp only [stB,reduceIte,reduceCtorEq,seval]) (by simp only [stB,reduceIte,reduceCtorEq,seval]) (by simp only [stB,reduceIte,reduceCtorEq,seval]) (by simp only [stB,reduceIte,reduceCtorEq,seval]) (by simp only [stB,reduceIte,reduceCtorEq,seval]) (by simp only [stB,reduceIte,reduceCtorEq,seval]) (by simp only [stB,reduceIte,reduceCtorEq,seval]) (by simp only [stB,reduceIte,reduceCtorEq,seval]) (by simp only [stB,reduceIte,reduceCtorEq,seval]) (by simp only [stB,reduceIte,reduceCtorEq,seval]) (by simp only [stB,reduceIte,reduceCtorEq,seval]) (by (repeat' (first | exact AllHp.init | assumption | (refine AllHp.ap ?_ rfl)))) (by simp only [stB,reduceIte,reduceCtorEq,seval]) (up_ne (by omega)) up_eq (up_ne (by omega)))
theorem mid_3e (hM:MidSt nc N b0 e c hp st) (h:TabAt hp b0 D t) (hN6:¬ D (N+6)) (hc:c.length=8) (he:EvIn e) (hk:e.kind=3) (k:∀ st',MidSt nc N b0 e (joinC c ((t.f 4 e.obj e.off).getD ckZ)) (up hp (N+6) (.cells (ckH (joinC c ((t.f 4 e.obj e.off).getD ckZ))))) st'→exS env_adv ks Q .normal st'):pwp env_adv pct36c1 (exS env_adv ks Q) st:=by
 have k6:(e.kind == 6)=false:=by rw [hk];rfl
 have k8:(e.kind == 8)=false:=by rw [hk];rfl
 have k11:(e.kind == 11)=false:=by rw [hk];rfl
 have k13:(e.kind == 13)=false:=by rw [hk];rfl
 have k3:(e.kind == 3)=true:=by rw [hk];rfl
 have k5:(e.kind == 5)=false:=by rw [hk];rfl
 have k20:(e.kind == 20)=false:=by rw [hk];rfl
 have k18:(e.kind == 18)=false:=by rw [hk];rfl
 have k16:(e.kind == 16)=false:=by rw [hk];rfl
 have s2:=hM.s2;have s3:=hM.s3;have s6:=hM.s6;have s8:=hM.s8;have g3:=hM.g3;have o3:=hM.o3;have hn:=hM.hnc;have hh:=hM.hb;have p2:=hM.p2;have p6:=hM.p6;have p7:=hM.p7;have n6:=hM.n6;have ah:=hM.ah;unfold pct36c1;simp only [↓evP,evB,stB,reduceIte,reduceCtorEq,seval,k6,k8,k11,k13,k3,k5,k20,k18,k16,s2,s3,s6,s8,g3,o3,hn,hh,p2,Ev.row];obtain ⟨oa0,ol0⟩:=oat_of h 4 e.obj e.off;refine callHS_intro (up hp (N+6) (.cells (ckH (joinC c ((t.f 4 e.obj e.off).getD ckZ))))) [] (by simp only [stB,reduceIte,reduceCtorEq,seval,hh];exact acq_R h hc he p2 p6 p7 ⟨by decide,by decide⟩ ⟨oa0,ol0⟩) ?_
 simp only [↓evP,evB,stB,reduceIte,reduceCtorEq,seval,s2,s3,s6,s8,g3,o3,hn,hh,p2,Ev.row];exact k _ (hM.acq (by simp only [stB,reduceIte,reduceCtorEq,seval]) (by simp only [stB,reduceIte,reduceCtorEq,seval]) (by simp only [stB,reduceIte,reduceCtorEq,seval]) (by simp only [stB,reduceIte,reduceCtorEq,seval]) (by simp only [stB,reduceIte,reduceCtorEq,seval]) (by simp only [stB,reduceIte,reduceCtorEq,seval]) (by simp only [stB,reduceIte,reduceCtorEq,seval]) (by simp only [stB,reduceIte,reduceCtorEq,seval]) (by simp only [stB,reduceIte,reduceCtorEq,seval]) (by simp only [stB,reduceIte,reduceCtorEq,seval]) (by simp only [stB,reduceIte,reduceCtorEq,seval]) (by (repeat' (first | exact AllHp.init | assumption | (refine AllHp.ap ?_ rfl)))) (by simp only [stB,reduceIte,reduceCtorEq,seval]) (up_ne (by omega)) up_eq (up_ne (by omega)))
theorem mid_5e (hM:MidSt nc N b0 e c hp st) (h:TabAt hp b0 D t) (hN6:¬ D (N+6)) (hc:c.length=8) (he:EvIn e) (hk:e.kind=5) (k:∀ st',MidSt nc N b0 e (joinC c ((t.f 4 e.obj e.off).getD ckZ)) (up hp (N+6) (.cells (ckH (joinC c ((t.f 4 e.obj e.off).getD ckZ))))) st'→exS env_adv ks Q .normal st'):pwp env_adv pct36c1 (exS env_adv ks Q) st:=by
 have k6:(e.kind == 6)=false:=by rw [hk];rfl
 have k8:(e.kind == 8)=false:=by rw [hk];rfl
 have k11:(e.kind == 11)=false:=by rw [hk];rfl
 have k13:(e.kind == 13)=false:=by rw [hk];rfl
 have k3:(e.kind == 3)=false:=by rw [hk];rfl
 have k5:(e.kind == 5)=true:=by rw [hk];rfl
 have k20:(e.kind == 20)=false:=by rw [hk];rfl
 have k18:(e.kind == 18)=false:=by rw [hk];rfl
 have k16:(e.kind == 16)=false:=by rw [hk];rfl
 have s2:=hM.s2;have s3:=hM.s3;have s6:=hM.s6;have s8:=hM.s8;have g3:=hM.g3;have o3:=hM.o3;have hn:=hM.hnc;have hh:=hM.hb;have p2:=hM.p2;have p6:=hM.p6;have p7:=hM.p7;have n6:=hM.n6;have ah:=hM.ah;unfold pct36c1;simp only [↓evP,evB,stB,reduceIte,reduceCtorEq,seval,k6,k8,k11,k13,k3,k5,k20,k18,k16,s2,s3,s6,s8,g3,o3,hn,hh,p2,Ev.row];obtain ⟨oa0,ol0⟩:=oat_of h 4 e.obj e.off;refine callHS_intro (up hp (N+6) (.cells (ckH (joinC c ((t.f 4 e.obj e.off).getD ckZ))))) [] (by simp only [stB,reduceIte,reduceCtorEq,seval,hh];exact acq_R h hc he p2 p6 p7 ⟨by decide,by decide⟩ ⟨oa0,ol0⟩) ?_
 simp only [↓evP,evB,stB,reduceIte,reduceCtorEq,seval,s2,s3,s6,s8,g3,o3,hn,hh,p2,Ev.row];exact k _ (hM.acq (by simp only [stB,reduceIte,reduceCtorEq,seval]) (by simp only [stB,reduceIte,reduceCtorEq,seval]) (by simp only [stB,reduceIte,reduceCtorEq,seval]) (by simp only [stB,reduceIte,reduceCtorEq,seval]) (by simp only [stB,reduceIte,reduceCtorEq,seval]) (by simp only [stB,reduceIte,reduceCtorEq,seval]) (by simp only [stB,reduceIte,reduceCtorEq,seval]) (by simp only [stB,reduceIte,reduceCtorEq,seval]) (by simp only [stB,reduceIte,reduceCtorEq,seval]) (by simp only [stB,reduceIte,reduceCtorEq,seval]) (by simp only [stB,reduceIte,reduceCtorEq,seval]) (by (repeat' (first | exact AllHp.init | assumption | (refine AllHp.ap ?_ rfl)))) (by simp only [stB,reduceIte,reduceCtorEq,seval]) (up_ne (by omega)) up_eq (up_ne (by omega)))
theorem mid_20e (hM:MidSt nc N b0 e c hp st) (h:TabAt hp b0 D t) (hN6:¬ D (N+6)) (hc:c.length=8) (he:EvIn e) (hk:e.kind=20) (k:∀ st',MidSt nc N b0 e (joinC c ((t.f 5 e.obj e.off).getD ckZ)) (up hp (N+6) (.cells (ckH (joinC c ((t.f 5 e.obj e.off).getD ckZ))))) st'→exS env_adv ks Q .normal st'):pwp env_adv pct36c1 (exS env_adv ks Q) st:=by
 have k6:(e.kind == 6)=false:=by rw [hk];rfl
 have k8:(e.kind == 8)=false:=by rw [hk];rfl
 have k11:(e.kind == 11)=false:=by rw [hk];rfl
 have k13:(e.kind == 13)=false:=by rw [hk];rfl
 have k3:(e.kind == 3)=false:=by rw [hk];rfl
 have k5:(e.kind == 5)=false:=by rw [hk];rfl
 have k20:(e.kind == 20)=true:=by rw [hk];rfl
 have k18:(e.kind == 18)=false:=by rw [hk];rfl
 have k16:(e.kind == 16)=false:=by rw [hk];rfl
 have s2:=hM.s2;have s3:=hM.s3;have s6:=hM.s6;have s8:=hM.s8;have g3:=hM.g3;have o3:=hM.o3;have hn:=hM.hnc;have hh:=hM.hb;have p2:=hM.p2;have p6:=hM.p6;have p7:=hM.p7;have n6:=hM.n6;have ah:=hM.ah;unfold pct36c1;simp only [↓evP,evB,stB,reduceIte,reduceCtorEq,seval,k6,k8,k11,k13,k3,k5,k20,k18,k16,s2,s3,s6,s8,g3,o3,hn,hh,p2,Ev.row];obtain ⟨oa0,ol0⟩:=oat_of h 5 e.obj e.off;refine callHS_intro (up hp (N+6) (.cells (ckH (joinC c ((t.f 5 e.obj e.off).getD ckZ))))) [] (by simp only [stB,reduceIte,reduceCtorEq,seval,hh];exact acq_R h hc he p2 p6 p7 ⟨by decide,by decide⟩ ⟨oa0,ol0⟩) ?_
 simp only [↓evP,evB,stB,reduceIte,reduceCtorEq,seval,s2,s3,s6,s8,g3,o3,hn,hh,p2,Ev.row];exact k _ (hM.acq (by simp only [stB,reduceIte,reduceCtorEq,seval]) (by simp only [stB,reduceIte,reduceCtorEq,seval]) (by simp only [stB,reduceIte,reduceCtorEq,seval]) (by simp only [stB,reduceIte,reduceCtorEq,seval]) (by simp only [stB,reduceIte,reduceCtorEq,seval]) (by simp only [stB,reduceIte,reduceCtorEq,seval]) (by simp only [stB,reduceIte,reduceCtorEq,seval]) (by simp only [stB,reduceIte,reduceCtorEq,seval]) (by simp only [stB,reduceIte,reduceCtorEq,seval]) (by simp only [stB,reduceIte,reduceCtorEq,seval]) (by simp only [stB,reduceIte,reduceCtorEq,seval]) (by (repeat' (first | exact AllHp.init | assumption | (refine AllHp.ap ?_ rfl)))) (by simp only [stB,reduceIte,reduceCtorEq,seval]) (up_ne (by omega)) up_eq (up_ne (by omega)))
theorem mid_18 (hM:MidSt nc N b0 e c hp st) (h:TabAt hp b0 D t) (hD:∀ b,D b→b < N) (hN:Free hp (N+8)) (hc:c.length=8) (he:EvIn e) (hk:e.kind=18) {b1 b2:Nat} {l1 l2:List Ck} (hg:t.g e.obj=some (b1,b2,l1,l2)) {d:Ck} (hd:l1[(Int.tmod e.k (l1.length:Int)).toNat]? = some d)
 (k:∀ st',MidSt nc N b0 e (joinC c d) (up hp (N+6) (.cells (ckH (joinC c d)))) st'→exS env_adv ks Q .normal st'):pwp env_adv pct36c1 (exS env_adv ks Q) st:=by
 obtain ⟨⟨an,ha⟩,ri⟩:=h.ring hg;have k6:(e.kind == 6)=false:=by rw [hk];rfl
 have k8:(e.kind == 8)=false:=by rw [hk];rfl
 have k11:(e.kind == 11)=false:=by rw [hk];rfl
 have k13:(e.kind == 13)=false:=by rw [hk];rfl
 have k3:(e.kind == 3)=false:=by rw [hk];rfl
 have k5:(e.kind == 5)=false:=by rw [hk];rfl
 have k20:(e.kind == 20)=false:=by rw [hk];rfl
 have k18:(e.kind == 18)=true:=by rw [hk];rfl
 have k16:(e.kind == 16)=false:=by rw [hk];rfl
 have s2:=hM.s2;have s3:=hM.s3;have s6:=hM.s6;have s8:=hM.s8;have g3:=hM.g3;have o3:=hM.o3;have hn:=hM.hnc;have hh:=hM.hb;have p2:=hM.p2;have p6:=hM.p6;have p7:=hM.p7;have n6:=hM.n6;have ah:=hM.ah;unfold pct36c1;have hlen:l1.length=l1.length:=by first | rfl | exact ri.len.symm
 have h8:=ri.c1;have he1:=ri.e1;have hpos:=ri.pos;have hl8:d.length=8:=h8 d (List.mem_of_getElem? hd);have c6:b1≠N+6:=by have:=hD _ ri.d1;omega
 have m0:(0:Int)≤Int.tmod e.k (l1.length:Int):=Int.tmod_nonneg _ he.k.1;have m1:Int.tmod e.k (l1.length:Int) < (l1.length:Int):=Int.tmod_lt_of_pos _ (by omega);have hne:((l1.length:Nat):Int)≠0:=by omega
 have fl:=ckFlat_length h8;have tl:(Int.tmod e.k (l1.length:Int)).toNat * 8+8≤(ckFlat l1).length:=by rw [fl,hlen];omega
 have tg:(((ckFlat l1).map Hc.cl).drop ((Int.tmod e.k (l1.length:Int)).toNat * 8)).take 8=ckCells d:=by
  rw [←List.map_drop,←List.map_take];have:=ckFlat_get h8 hd [];rw [List.append_nil] at this;rw [this,ckH_cl]
 obtain ⟨l3,l4⟩:=ckLd hc;have j8:=joinC_length hc hl8;have j3:(ckCells (joinC c d)).length=8:=by rw [ckCells_length,j8]
 have jl:0+8≤(ckH c).length:=by rw [ckH_length,hc];exact Nat.le_refl _
 have jl8:8≤(ckH c).length:=by rw [ckH_length,hc];exact Nat.le_refl _
 have jw:=ckWr hc j8;simp only [↓evP,evB,stB,reduceIte,reduceCtorEq,seval,k6,k8,k11,k13,k3,k5,k20,k18,k16,s2,s3,s6,s8,g3,o3,hn,hh,p2,Ev.row]
 refine callHS_intro hp [rgW b1 b2 l1.length] (by
  simp only [stB,reduceIte,reduceCtorEq,seval,hh];exact ⟨b0,t.br,N+8,tabC t.bs t.bo t.br t.ck,t.rs,t.rcl,e.obj,e.n,rfl,⟨h.h0,tabC_66 h.ck,h.hr⟩,⟨he.obj,he.n⟩,hN,.inl ⟨an,b1,b2,_,ha,rfl,rfl⟩⟩) ?_
 simp only [↓evP,evB,stB,reduceIte,reduceCtorEq,seval,rgW,s2,s3,s6,s8,g3,o3,hn,hh,p2,Ev.row];simp only [↓evP,evB,stB,reduceIte,reduceCtorEq,seval,s2,s3,s6,s8,g3,o3,hn,hh,p2,Ev.row,p6,he1,m0,m1,hne,hlen,tl,tg,ckH_cl,l3,l4,jl,jl8,ckCells_dt];refine callD_intro [ckPa (joinC c d)] (by exact R_join.mk hc hl8) ?_;simp only [↓evP,evB,stB,reduceIte,reduceCtorEq,seval,s2,s3,s6,s8,g3,o3,hn,hh,p2,Ev.row,ckPa,ckRow_cells,p6,n6,jl,jl8,j3,ckCells_hc,jw];refine ⟨(by unfold Drw;refine Eq.trans (b:=true) ?_ rfl;kernel_rfl),?_⟩
 exact k _ (hM.acq (by simp only [stB,reduceIte,reduceCtorEq,seval]) (by simp only [stB,reduceIte,reduceCtorEq,seval]) (by simp only [stB,reduceIte,reduceCtorEq,seval]) (by simp only [stB,reduceIte,reduceCtorEq,seval]) (by simp only [stB,reduceIte,reduceCtorEq,seval]) (by simp only [stB,reduceIte,reduceCtorEq,seval]) (by simp only [stB,reduceIte,reduceCtorEq,seval]) (by simp only [stB,reduceIte,reduceCtorEq,seval]) (by simp only [stB,reduceIte,reduceCtorEq,seval]) (by simp only [stB,reduceIte,reduceCtorEq,seval]) (by simp only [stB,reduceIte,reduceCtorEq,seval]) (by (repeat' (first | exact AllHp.init | assumption | (refine AllHp.ap ?_ rfl)))) (by simp only [stB,reduceIte,reduceCtorEq,seval,hn,n6]) (up_ne (by omega)) up_eq (up_ne (by omega)))
theorem mid_18n (hM:MidSt nc N b0 e c hp st) (h:TabAt hp b0 D t) (hD:∀ b,D b→b < N) (hN:Free hp (N+8)) (hc:c.length=8) (he:EvIn e) (hk:e.kind=18) (hg:t.g e.obj=none) {q1 q2 m:Nat} (e1:q1=N+8+22) (e2:q2=N+8+25) (em:m=(e.n+1).toNat) {hp1:Nat→Hb} (ehp:hp1=up (up (up hp q1 (.cells (ckFlat (ring0 m)))) q2 (.cells (ckFlat (ring0 m)))) t.br (.map 3 (aput t.rs t.rcl (.int .i64 e.obj) (rgW q1 q2 m)) (t.rcl+1)))
 (k:∀ st',MidSt nc N b0 e (joinC c ckZ) (up hp1 (N+6) (.cells (ckH (joinC c ckZ)))) st'→exS env_adv ks Q .normal st'):pwp env_adv pct36c1 (exS env_adv ks Q) st:=by
 have ha:alook t.rs (.int .i64 e.obj)=none:=by have:=h.ra e.obj;rw [hg] at this;exact this
 have k6:(e.kind == 6)=false:=by rw [hk];rfl
 have k8:(e.kind == 8)=false:=by rw [hk];rfl
 have k11:(e.kind == 11)=false:=by rw [hk];rfl
 have k13:(e.kind == 13)=false:=by rw [hk];rfl
 have k3:(e.kind == 3)=false:=by rw [hk];rfl
 have k5:(e.kind == 5)=false:=by rw [hk];rfl
 have k20:(e.kind == 20)=false:=by rw [hk];rfl
 have k18:(e.kind == 18)=true:=by rw [hk];rfl
 have k16:(e.kind == 16)=false:=by rw [hk];rfl
 have s2:=hM.s2;have s3:=hM.s3;have s6:=hM.s6;have s8:=hM.s8;have g3:=hM.g3;have o3:=hM.o3;have hn:=hM.hnc;have hh:=hM.hb;have p2:=hM.p2;have p6:=hM.p6;have p7:=hM.p7;have n6:=hM.n6;have ah:=hM.ah;unfold pct36c1;have lr:=hD _ h.dd.2.2.2;have hpos:0 < m:=by have:=he.n;omega
 have h8:∀ c ∈ ring0 m,c.length=8:=fun c hc=>by rw [List.eq_of_mem_replicate hc];rfl
 have hlen:(ring0 m).length=m:=List.length_replicate;have w2:hp1 (N+2)=hp (N+2):=by rw [ehp,up_ne (by omega),up_ne (by omega),up_ne (by omega)]
 have w6:hp1 (N+6)=.cells (ckH c):=by rw [ehp,up_ne (by omega),up_ne (by omega),up_ne (by omega)];exact p6
 have w7:hp1 (N+7)=hp (N+7):=by rw [ehp,up_ne (by omega),up_ne (by omega),up_ne (by omega)]
 have wq1:hp1 q1=.cells (ckFlat (ring0 m)):=by rw [ehp,up_ne (by omega),up_ne (by omega),up_eq]
 have wq2:hp1 q2=.cells (ckFlat (ring0 m)):=by rw [ehp,up_ne (by omega),up_eq]
 have m0:(0:Int)≤Int.tmod e.k (m:Int):=Int.tmod_nonneg _ he.k.1;have m1:Int.tmod e.k (m:Int) < (m:Int):=Int.tmod_lt_of_pos _ (by omega);have hne:((m:Nat):Int)≠0:=by omega
 have fl:=ckFlat_length h8;have tl:(Int.tmod e.k (m:Int)).toNat * 8+8≤(ckFlat (ring0 m)).length:=by rw [fl,hlen];omega
 have tg:(((ckFlat (ring0 m)).map Hc.cl).drop ((Int.tmod e.k (m:Int)).toNat * 8)).take 8=ckCells ckZ:=by
  rw [←List.map_drop,←List.map_take];have:=ckFlat_get h8 (i:=(Int.tmod e.k (m:Int)).toNat) (c:=ckZ) (by unfold ring0;rw [List.getElem?_replicate,if_pos (by omega)]) []
  rw [List.append_nil] at this;rw [this,ckH_cl]
 obtain ⟨l3,l4⟩:=ckLd hc;have j8:=joinC_length hc (show ckZ.length=8 from rfl);have j3:(ckCells (joinC c ckZ)).length=8:=by rw [ckCells_length,j8]
 have jl:0+8≤(ckH c).length:=by rw [ckH_length,hc];exact Nat.le_refl _
 have jl8:8≤(ckH c).length:=by rw [ckH_length,hc];exact Nat.le_refl _
 have jw:=ckWr hc j8;simp only [↓evP,evB,stB,reduceIte,reduceCtorEq,seval,k6,k8,k11,k13,k3,k5,k20,k18,k16,s2,s3,s6,s8,g3,o3,hn,hh,p2,Ev.row]
 refine callHS_intro hp1 [rgW q1 q2 m] (by
  simp only [stB,reduceIte,reduceCtorEq,seval,hh];exact ⟨b0,t.br,N+8,tabC t.bs t.bo t.br t.ck,t.rs,t.rcl,e.obj,e.n,rfl,⟨h.h0,tabC_66 h.ck,h.hr⟩,⟨he.obj,he.n⟩,hN,.inr ⟨ha,by rw [ehp,e1,e2,em],by rw [e1,e2,em]⟩⟩) ?_
 simp only [↓evP,evB,stB,reduceIte,reduceCtorEq,seval,rgW,s2,s3,s6,s8,g3,o3,hn,hh,p2,Ev.row];simp only [↓evP,evB,stB,reduceIte,reduceCtorEq,seval,s2,s3,s6,s8,g3,o3,hn,hh,p2,Ev.row,w6,wq1,wq2,m0,m1,hne,hlen,tl,tg,ckH_cl,l3,l4,jl,jl8,ckCells_dt];refine callD_intro [ckPa (joinC c ckZ)] (by exact R_join.mk hc rfl) ?_;simp only [↓evP,evB,stB,reduceIte,reduceCtorEq,seval,s2,s3,s6,s8,g3,o3,hn,hh,p2,Ev.row,ckPa,ckRow_cells,w6,n6,jl,jl8,j3,ckCells_hc,jw];refine ⟨(by unfold Drw;refine Eq.trans (b:=true) ?_ rfl;kernel_rfl),?_⟩
 exact k _ (hM.acq (by simp only [stB,reduceIte,reduceCtorEq,seval]) (by simp only [stB,reduceIte,reduceCtorEq,seval]) (by simp only [stB,reduceIte,reduceCtorEq,seval]) (by simp only [stB,reduceIte,reduceCtorEq,seval]) (by simp only [stB,reduceIte,reduceCtorEq,seval]) (by simp only [stB,reduceIte,reduceCtorEq,seval]) (by simp only [stB,reduceIte,reduceCtorEq,seval]) (by simp only [stB,reduceIte,reduceCtorEq,seval]) (by simp only [stB,reduceIte,reduceCtorEq,seval]) (by simp only [stB,reduceIte,reduceCtorEq,seval]) (by simp only [stB,reduceIte,reduceCtorEq,seval]) (by (repeat' (first | exact AllHp.init | assumption | (refine AllHp.ap ?_ rfl)))) (by simp only [stB,reduceIte,reduceCtorEq,seval,hn,n6]) ((up_ne (by omega)).trans w2) up_eq ((up_ne (by omega)).trans w7))
theorem mid_16 (hM:MidSt nc N b0 e c hp st) (h:TabAt hp b0 D t) (hD:∀ b,D b→b < N) (hN:Free hp (N+8)) (hc:c.length=8) (he:EvIn e) (hk:e.kind=16) (hge:0≤e.k - e.n) {b1 b2:Nat} {l1 l2:List Ck} (hg:t.g e.obj=some (b1,b2,l1,l2)) {d:Ck} (hd:l2[(Int.tmod (e.k - e.n) (l1.length:Int)).toNat]? = some d)
 (k:∀ st',MidSt nc N b0 e (joinC c d) (up hp (N+6) (.cells (ckH (joinC c d)))) st'→exS env_adv ks Q .normal st'):pwp env_adv pct36c1 (exS env_adv ks Q) st:=by
 obtain ⟨⟨an,ha⟩,ri⟩:=h.ring hg;have k6:(e.kind == 6)=false:=by rw [hk];rfl
 have k8:(e.kind == 8)=false:=by rw [hk];rfl
 have k11:(e.kind == 11)=false:=by rw [hk];rfl
 have k13:(e.kind == 13)=false:=by rw [hk];rfl
 have k3:(e.kind == 3)=false:=by rw [hk];rfl
 have k5:(e.kind == 5)=false:=by rw [hk];rfl
 have k20:(e.kind == 20)=false:=by rw [hk];rfl
 have k18:(e.kind == 18)=false:=by rw [hk];rfl
 have k16:(e.kind == 16)=true:=by rw [hk];rfl
 have s2:=hM.s2;have s3:=hM.s3;have s6:=hM.s6;have s8:=hM.s8;have g3:=hM.g3;have o3:=hM.o3;have hn:=hM.hnc;have hh:=hM.hb;have p2:=hM.p2;have p6:=hM.p6;have p7:=hM.p7;have n6:=hM.n6;have ah:=hM.ah;unfold pct36c1;have hwp:IntKind.i64.wrap (e.k - e.n)=e.k - e.n:=wr64 (by have:=he.k;have:=he.n;omega) (by have:=he.k;have:=he.n;omega)
 have hge2:e.k - e.n≥0:=hge;have hlen:l2.length=l1.length:=by first | rfl | exact ri.len.symm
 have h8:=ri.c2;have he1:=ri.e2;have hpos:=ri.pos;have hl8:d.length=8:=h8 d (List.mem_of_getElem? hd);have c6:b2≠N+6:=by have:=hD _ ri.d2;omega
 have m0:(0:Int)≤Int.tmod (e.k - e.n) (l1.length:Int):=Int.tmod_nonneg _ hge;have m1:Int.tmod (e.k - e.n) (l1.length:Int) < (l1.length:Int):=Int.tmod_lt_of_pos _ (by omega);have hne:((l1.length:Nat):Int)≠0:=by omega
 have fl:=ckFlat_length h8;have tl:(Int.tmod (e.k - e.n) (l1.length:Int)).toNat * 8+8≤(ckFlat l2).length:=by rw [fl,hlen];omega
 have tg:(((ckFlat l2).map Hc.cl).drop ((Int.tmod (e.k - e.n) (l1.length:Int)).toNat * 8)).take 8=ckCells d:=by
  rw [←List.map_drop,←List.map_take];have:=ckFlat_get h8 hd [];rw [List.append_nil] at this;rw [this,ckH_cl]
 obtain ⟨l3,l4⟩:=ckLd hc;have j8:=joinC_length hc hl8;have j3:(ckCells (joinC c d)).length=8:=by rw [ckCells_length,j8]
 have jl:0+8≤(ckH c).length:=by rw [ckH_length,hc];exact Nat.le_refl _
 have jl8:8≤(ckH c).length:=by rw [ckH_length,hc];exact Nat.le_refl _
 have jw:=ckWr hc j8;simp only [↓evP,evB,stB,reduceIte,reduceCtorEq,seval,k6,k8,k11,k13,k3,k5,k20,k18,k16,s2,s3,s6,s8,g3,o3,hn,hh,p2,Ev.row,hwp,hge2,decide_true]
 refine callHS_intro hp [rgW b1 b2 l1.length] (by
  simp only [stB,reduceIte,reduceCtorEq,seval,hh];exact ⟨b0,t.br,N+8,tabC t.bs t.bo t.br t.ck,t.rs,t.rcl,e.obj,e.n,rfl,⟨h.h0,tabC_66 h.ck,h.hr⟩,⟨he.obj,he.n⟩,hN,.inl ⟨an,b1,b2,_,ha,rfl,rfl⟩⟩) ?_
 simp only [↓evP,evB,stB,reduceIte,reduceCtorEq,seval,rgW,s2,s3,s6,s8,g3,o3,hn,hh,p2,Ev.row];simp only [↓evP,evB,stB,reduceIte,reduceCtorEq,seval,s2,s3,s6,s8,g3,o3,hn,hh,p2,Ev.row,p6,he1,m0,m1,hne,hlen,tl,tg,ckH_cl,l3,l4,jl,jl8,ckCells_dt,hwp,hge2,decide_true];refine callD_intro [ckPa (joinC c d)] (by exact R_join.mk hc hl8) ?_;simp only [↓evP,evB,stB,reduceIte,reduceCtorEq,seval,s2,s3,s6,s8,g3,o3,hn,hh,p2,Ev.row,ckPa,ckRow_cells,p6,n6,jl,jl8,j3,ckCells_hc,jw];refine ⟨(by unfold Drw;refine Eq.trans (b:=true) ?_ rfl;kernel_rfl),?_⟩
 exact k _ (hM.acq (by simp only [stB,reduceIte,reduceCtorEq,seval]) (by simp only [stB,reduceIte,reduceCtorEq,seval]) (by simp only [stB,reduceIte,reduceCtorEq,seval]) (by simp only [stB,reduceIte,reduceCtorEq,seval]) (by simp only [stB,reduceIte,reduceCtorEq,seval]) (by simp only [stB,reduceIte,reduceCtorEq,seval]) (by simp only [stB,reduceIte,reduceCtorEq,seval]) (by simp only [stB,reduceIte,reduceCtorEq,seval]) (by simp only [stB,reduceIte,reduceCtorEq,seval]) (by simp only [stB,reduceIte,reduceCtorEq,seval]) (by simp only [stB,reduceIte,reduceCtorEq,seval]) (by (repeat' (first | exact AllHp.init | assumption | (refine AllHp.ap ?_ rfl)))) (by simp only [stB,reduceIte,reduceCtorEq,seval,hn,n6]) (up_ne (by omega)) up_eq (up_ne (by omega)))
theorem mid_16n (hM:MidSt nc N b0 e c hp st) (h:TabAt hp b0 D t) (hD:∀ b,D b→b < N) (hN:Free hp (N+8)) (hc:c.length=8) (he:EvIn e) (hk:e.kind=16) (hge:0≤e.k - e.n) (hg:t.g e.obj=none) {q1 q2 m:Nat} (e1:q1=N+8+22) (e2:q2=N+8+25) (em:m=(e.n+1).toNat) {hp1:Nat→Hb} (ehp:hp1=up (up (up hp q1 (.cells (ckFlat (ring0 m)))) q2 (.cells (ckFlat (ring0 m)))) t.br (.map 3 (aput t.rs t.rcl (.int .i64 e.obj) (rgW q1 q2 m)) (t.rcl+1)))
 (k:∀ st',MidSt nc N b0 e (joinC c ckZ) (up hp1 (N+6) (.cells (ckH (joinC c ckZ)))) st'→exS env_adv ks Q .normal st'):pwp env_adv pct36c1 (exS env_adv ks Q) st:=by
 have ha:alook t.rs (.int .i64 e.obj)=none:=by have:=h.ra e.obj;rw [hg] at this;exact this
 have k6:(e.kind == 6)=false:=by rw [hk];rfl
 have k8:(e.kind == 8)=false:=by rw [hk];rfl
 have k11:(e.kind == 11)=false:=by rw [hk];rfl
 have k13:(e.kind == 13)=false:=by rw [hk];rfl
 have k3:(e.kind == 3)=false:=by rw [hk];rfl
 have k5:(e.kind == 5)=false:=by rw [hk];rfl
 have k20:(e.kind == 20)=false:=by rw [hk];rfl
 have k18:(e.kind == 18)=false:=by rw [hk];rfl
 have k16:(e.kind == 16)=true:=by rw [hk];rfl
 have s2:=hM.s2;have s3:=hM.s3;have s6:=hM.s6;have s8:=hM.s8;have g3:=hM.g3;have o3:=hM.o3;have hn:=hM.hnc;have hh:=hM.hb;have p2:=hM.p2;have p6:=hM.p6;have p7:=hM.p7;have n6:=hM.n6;have ah:=hM.ah;unfold pct36c1;have hwp:IntKind.i64.wrap (e.k - e.n)=e.k - e.n:=wr64 (by have:=he.k;have:=he.n;omega) (by have:=he.k;have:=he.n;omega)
 have hge2:e.k - e.n≥0:=hge;have lr:=hD _ h.dd.2.2.2;have hpos:0 < m:=by have:=he.n;omega
 have h8:∀ c ∈ ring0 m,c.length=8:=fun c hc=>by rw [List.eq_of_mem_replicate hc];rfl
 have hlen:(ring0 m).length=m:=List.length_replicate;have w2:hp1 (N+2)=hp (N+2):=by rw [ehp,up_ne (by omega),up_ne (by omega),up_ne (by omega)]
 have w6:hp1 (N+6)=.cells (ckH c):=by rw [ehp,up_ne (by omega),up_ne (by omega),up_ne (by omega)];exact p6
 have w7:hp1 (N+7)=hp (N+7):=by rw [ehp,up_ne (by omega),up_ne (by omega),up_ne (by omega)]
 have wq1:hp1 q1=.cells (ckFlat (ring0 m)):=by rw [ehp,up_ne (by omega),up_ne (by omega),up_eq]
 have wq2:hp1 q2=.cells (ckFlat (ring0 m)):=by rw [ehp,up_ne (by omega),up_eq]
 have m0:(0:Int)≤Int.tmod (e.k - e.n) (m:Int):=Int.tmod_nonneg _ hge;have m1:Int.tmod (e.k - e.n) (m:Int) < (m:Int):=Int.tmod_lt_of_pos _ (by omega);have hne:((m:Nat):Int)≠0:=by omega
 have fl:=ckFlat_length h8;have tl:(Int.tmod (e.k - e.n) (m:Int)).toNat * 8+8≤(ckFlat (ring0 m)).length:=by rw [fl,hlen];omega
 have tg:(((ckFlat (ring0 m)).map Hc.cl).drop ((Int.tmod (e.k - e.n) (m:Int)).toNat * 8)).take 8=ckCells ckZ:=by
  rw [←List.map_drop,←List.map_take];have:=ckFlat_get h8 (i:=(Int.tmod (e.k - e.n) (m:Int)).toNat) (c:=ckZ) (by unfold ring0;rw [List.getElem?_replicate,if_pos (by omega)]) []
  rw [List.append_nil] at this;rw [this,ckH_cl]
 obtain ⟨l3,l4⟩:=ckLd hc;have j8:=joinC_length hc (show ckZ.length=8 from rfl);have j3:(ckCells (joinC c ckZ)).length=8:=by rw [ckCells_length,j8]
 have jl:0+8≤(ckH c).length:=by rw [ckH_length,hc];exact Nat.le_refl _
 have jl8:8≤(ckH c).length:=by rw [ckH_length,hc];exact Nat.le_refl _
 have jw:=ckWr hc j8;simp only [↓evP,evB,stB,reduceIte,reduceCtorEq,seval,k6,k8,k11,k13,k3,k5,k20,k18,k16,s2,s3,s6,s8,g3,o3,hn,hh,p2,Ev.row,hwp,hge2,decide_true]
 refine callHS_intro hp1 [rgW q1 q2 m] (by
  simp only [stB,reduceIte,reduceCtorEq,seval,hh];exact ⟨b0,t.br,N+8,tabC t.bs t.bo t.br t.ck,t.rs,t.rcl,e.obj,e.n,rfl,⟨h.h0,tabC_66 h.ck,h.hr⟩,⟨he.obj,he.n⟩,hN,.inr ⟨ha,by rw [ehp,e1,e2,em],by rw [e1,e2,em]⟩⟩) ?_
 simp only [↓evP,evB,stB,reduceIte,reduceCtorEq,seval,rgW,s2,s3,s6,s8,g3,o3,hn,hh,p2,Ev.row];simp only [↓evP,evB,stB,reduceIte,reduceCtorEq,seval,s2,s3,s6,s8,g3,o3,hn,hh,p2,Ev.row,w6,wq1,wq2,m0,m1,hne,hlen,tl,tg,ckH_cl,l3,l4,jl,jl8,ckCells_dt,hwp,hge2,decide_true];refine callD_intro [ckPa (joinC c ckZ)] (by exact R_join.mk hc rfl) ?_;simp only [↓evP,evB,stB,reduceIte,reduceCtorEq,seval,s2,s3,s6,s8,g3,o3,hn,hh,p2,Ev.row,ckPa,ckRow_cells,w6,n6,jl,jl8,j3,ckCells_hc,jw];refine ⟨(by unfold Drw;refine Eq.trans (b:=true) ?_ rfl;kernel_rfl),?_⟩
 exact k _ (hM.acq (by simp only [stB,reduceIte,reduceCtorEq,seval]) (by simp only [stB,reduceIte,reduceCtorEq,seval]) (by simp only [stB,reduceIte,reduceCtorEq,seval]) (by simp only [stB,reduceIte,reduceCtorEq,seval]) (by simp only [stB,reduceIte,reduceCtorEq,seval]) (by simp only [stB,reduceIte,reduceCtorEq,seval]) (by simp only [stB,reduceIte,reduceCtorEq,seval]) (by simp only [stB,reduceIte,reduceCtorEq,seval]) (by simp only [stB,reduceIte,reduceCtorEq,seval]) (by simp only [stB,reduceIte,reduceCtorEq,seval]) (by simp only [stB,reduceIte,reduceCtorEq,seval]) (by (repeat' (first | exact AllHp.init | assumption | (refine AllHp.ap ?_ rfl)))) (by simp only [stB,reduceIte,reduceCtorEq,seval,hn,n6]) ((up_ne (by omega)).trans w2) up_eq ((up_ne (by omega)).trans w7))
theorem mid_16z (hM:MidSt nc N b0 e c hp st) (he:EvIn e) (hk:e.kind=16) (hge:¬ 0≤e.k - e.n) (k:∀ st',MidSt nc N b0 e c hp st'→exS env_adv ks Q .normal st'):pwp env_adv pct36c1 (exS env_adv ks Q) st:=by
 have k6:(e.kind == 6)=false:=by rw [hk];rfl
 have k8:(e.kind == 8)=false:=by rw [hk];rfl
 have k11:(e.kind == 11)=false:=by rw [hk];rfl
 have k13:(e.kind == 13)=false:=by rw [hk];rfl
 have k3:(e.kind == 3)=false:=by rw [hk];rfl
 have k5:(e.kind == 5)=false:=by rw [hk];rfl
 have k20:(e.kind == 20)=false:=by rw [hk];rfl
 have k18:(e.kind == 18)=false:=by rw [hk];rfl
 have k16:(e.kind == 16)=true:=by rw [hk];rfl
 have s2:=hM.s2;have s3:=hM.s3;have s6:=hM.s6;have s8:=hM.s8;have g3:=hM.g3;have o3:=hM.o3;have hn:=hM.hnc;have hh:=hM.hb;have p2:=hM.p2;have p6:=hM.p6;have p7:=hM.p7;have n6:=hM.n6;have ah:=hM.ah;unfold pct36c1;have hwp:IntKind.i64.wrap (e.k - e.n)=e.k - e.n:=wr64 (by have:=he.k;have:=he.n;omega) (by have:=he.k;have:=he.n;omega)
 have hge2:¬ e.k - e.n≥0:=hge;simp only [↓evP,evB,stB,reduceIte,reduceCtorEq,seval,k6,k8,k11,k13,k3,k5,k20,k18,k16,s2,s3,s6,s8,g3,o3,hn,hh,p2,Ev.row,hwp,hge2,decide_false];exact k _ (hM.acq (by simp only [stB,reduceIte,reduceCtorEq,seval]) (by simp only [stB,reduceIte,reduceCtorEq,seval]) (by simp only [stB,reduceIte,reduceCtorEq,seval]) (by simp only [stB,reduceIte,reduceCtorEq,seval]) (by simp only [stB,reduceIte,reduceCtorEq,seval]) (by simp only [stB,reduceIte,reduceCtorEq,seval]) (by simp only [stB,reduceIte,reduceCtorEq,seval]) (by simp only [stB,reduceIte,reduceCtorEq,seval]) (by simp only [stB,reduceIte,reduceCtorEq,seval]) (by simp only [stB,reduceIte,reduceCtorEq,seval]) (by simp only [stB,reduceIte,reduceCtorEq,seval]) (by (repeat' (first | exact AllHp.init | assumption | (refine AllHp.ap ?_ rfl)))) (by simp only [stB,reduceIte,reduceCtorEq,seval,hh]) rfl p6 rfl)
theorem mid_else (hM:MidSt nc N b0 e c hp st) (hk:e.kind≠6∧e.kind≠8∧e.kind≠11∧e.kind≠13∧e.kind≠3∧e.kind≠5∧e.kind≠20∧e.kind≠18∧e.kind≠16) (k:∀ st',MidSt nc N b0 e c hp st'→exS env_adv ks Q .normal st'):pwp env_adv pct36c1 (exS env_adv ks Q) st:=by
 have k6:(e.kind == 6)=false:=beq_false_of_ne hk.1;have k8:(e.kind == 8)=false:=beq_false_of_ne hk.2.1;have k11:(e.kind == 11)=false:=beq_false_of_ne hk.2.2.1;have k13:(e.kind == 13)=false:=beq_false_of_ne hk.2.2.2.1;have k3:(e.kind == 3)=false:=beq_false_of_ne hk.2.2.2.2.1;have k5:(e.kind == 5)=false:=beq_false_of_ne hk.2.2.2.2.2.1;have k20:(e.kind == 20)=false:=beq_false_of_ne hk.2.2.2.2.2.2.1;have k18:(e.kind == 18)=false:=beq_false_of_ne hk.2.2.2.2.2.2.2.1;have k16:(e.kind == 16)=false:=beq_false_of_ne hk.2.2.2.2.2.2.2.2;have s2:=hM.s2;have s3:=hM.s3;have s6:=hM.s6;have s8:=hM.s8;have g3:=hM.g3;have o3:=hM.o3;have hn:=hM.hnc;have hh:=hM.hb;have p2:=hM.p2;have p6:=hM.p6;have p7:=hM.p7;have n6:=hM.n6;have ah:=hM.ah;unfold pct36c1;simp only [↓evP,evB,stB,reduceIte,reduceCtorEq,seval,k6,k8,k11,k13,k3,k5,k20,k18,k16,s2,s3,s6,s8,g3,o3,hn,hh,p2,Ev.row]
 exact k _ (hM.acq (by simp only [stB,reduceIte,reduceCtorEq,seval]) (by simp only [stB,reduceIte,reduceCtorEq,seval]) (by simp only [stB,reduceIte,reduceCtorEq,seval]) (by simp only [stB,reduceIte,reduceCtorEq,seval]) (by simp only [stB,reduceIte,reduceCtorEq,seval]) (by simp only [stB,reduceIte,reduceCtorEq,seval]) (by simp only [stB,reduceIte,reduceCtorEq,seval]) (by simp only [stB,reduceIte,reduceCtorEq,seval]) (by simp only [stB,reduceIte,reduceCtorEq,seval]) (by simp only [stB,reduceIte,reduceCtorEq,seval]) (by simp only [stB,reduceIte,reduceCtorEq,seval]) (by (repeat' (first | exact AllHp.init | assumption | (refine AllHp.ap ?_ rfl)))) (by simp only [stB,reduceIte,reduceCtorEq,seval,hh]) rfl p6 rfl)
end
def TabP.at_ (p:TabP) (k:Int) (e:Ev):Ck:=(p.f k e.obj e.off).getD ckZ
def TabP.acq (p:TabP) (e:Ev) (c:Ck):Ck×TabP :=
 if e.kind=6 then (joinC (joinC c (p.at_ 0 e)) (p.at_ 1 e),p)
 else if e.kind=8 then (joinC c (p.at_ 0 e),p)
 else if e.kind=11 then (joinC c (p.at_ 2 e),p)
 else if e.kind=13 then (joinC c (p.at_ 3 e),p)
 else if e.kind=3∨e.kind=5 then (joinC c (p.at_ 4 e),p)
 else if e.kind=20 then (joinC c (p.at_ 5 e),p)
 else if e.kind=18 then (joinC c ((p.ringAt e).1.getD (slotOf e.k (p.ringAt e).1) ckZ),{ p with g:=updR p.g e.obj (p.ringAt e) })
 else if e.kind=16 then (if 0≤e.k - e.n then (joinC c ((p.ringAt e).2.getD (slotOf (e.k - e.n) (p.ringAt e).2) ckZ),{ p with g:=updR p.g e.obj (p.ringAt e) }) else (c,p))
 else (c,p)
section
variable {hp:Nat→Hb} {b0 N:Nat} {D:Nat→Prop} {t:TabL} {e:Ev} {c:Ck} {nc:Nat→Nat}
theorem updR_self {g:Int→Option (List Ck×List Ck)} {o:Int} {v:List Ck×List Ck} (h:g o=some v):updR g o v=g:=by
 funext o'
 unfold updR;split
 ·rename_i he;rw [he,h]
 ·rfl
theorem ring_some (hg:∃ v,t.g e.obj=some v):∃ v,t.g e.obj=some v∧t.p.g e.obj=some v.2.2∧t.p.ringAt e=v.2.2:=by
 obtain ⟨v,hv⟩:=hg;refine ⟨v,hv,?_,?_⟩
 ·show Option.map _ (t.g e.obj)=_;rw [hv];rfl
 ·show Option.getD (Option.map _ (t.g e.obj)) _=_;rw [hv];rfl
theorem ring_none (hg:t.g e.obj=none):t.p.ringAt e=(ring0 (e.n+1).toNat,ring0 (e.n+1).toNat):=by
 show Option.getD (Option.map _ (t.g e.obj)) _=_;rw [hg];rfl
theorem mid_run (h:TabAt hp b0 D t) (hD:∀ b,D b→b < N) (hN:Free hp (N+8)) (hc:c.length=8) (he:EvIn e) (p2:hp (N+2)=.cells [.h (.p b0 0)]) (p6:hp (N+6)=.cells (ckH c)) (p7:hp (N+7)=.cells [hI e.obj,hI e.off]) :
 ∃ c' hp' D' t',TabAt hp' b0 D' t'∧(c',t'.p)=t.p.acq e c∧(t'.st=t.st∧t'.sn=t.sn)∧c'.length=8∧((∀ b,D b→D' b)∧(∀ b,D' b→D b∨N+8≤b)∧(∀ b,¬ D b→b < N→hp' b=hp b)∧Free hp' (N+40)∧∀ b,D' b→b < N+40) ∧
   ∀ st ks Q,MidSt nc N b0 e c hp st→(∀ st',MidSt nc N b0 e c' hp' st'→exS env_adv ks Q .normal st')→pwp env_adv pct36c1 (exS env_adv ks Q) st:=by
 have n6:¬ D (N+6):=fun q=>by have:=hD _ q;omega
 have idD:(∀ b,D b→D b)∧(∀ b,D b→D b∨N+8≤b)∧∀ b,D b→b < N+40:=⟨fun _ q=>q,fun _ q=>.inl q,fun b q=>by have:=hD b q;omega⟩
 have f1:∀ {x:Hb},(∀ b,¬ D b→b < N→up hp (N+6) x b=hp b)∧Free (up hp (N+6) x) (N+40):=fun {x}=>⟨fun b _ q=>up_ne (by omega),fun b q=>by rw [up_ne (by omega)];exact hN b (by omega)⟩
 have f2:∀ {x y:Hb},(∀ b,¬ D b→b < N→up (up hp (N+6) x) (N+6) y b=hp b)∧Free (up (up hp (N+6) x) (N+6) y) (N+40):=fun {x y}=>⟨fun b _ q=>by rw [up_ne (by omega),up_ne (by omega)],fun b q=>by rw [up_ne (by omega),up_ne (by omega)];exact hN b (by omega)⟩
 have one:∀ (K:Int) (d:Ck),d.length=8→(joinC c d,t.p)=t.p.acq e c→(∀ st ks Q,MidSt nc N b0 e c hp st→(∀ st',MidSt nc N b0 e (joinC c d) (up hp (N+6) (.cells (ckH (joinC c d)))) st'→exS env_adv ks Q .normal st')→pwp env_adv pct36c1 (exS env_adv ks Q) st) →
  ∃ c' hp' D' t',TabAt hp' b0 D' t'∧(c',t'.p)=t.p.acq e c∧(t'.st=t.st∧t'.sn=t.sn)∧c'.length=8∧((∀ b,D b→D' b)∧(∀ b,D' b→D b∨N+8≤b)∧(∀ b,¬ D b→b < N→hp' b=hp b)∧Free hp' (N+40)∧∀ b,D' b→b < N+40) ∧
  ∀ st ks Q,MidSt nc N b0 e c hp st→(∀ st',MidSt nc N b0 e c' hp' st'→exS env_adv ks Q .normal st')→pwp env_adv pct36c1 (exS env_adv ks Q) st :=
  fun K d hd ha hgo=>⟨_,_,D,t,h.new n6,ha,⟨rfl,rfl⟩,joinC_length hc hd,⟨idD.1,idD.2.1,f1.1,f1.2,idD.2.2⟩,hgo⟩
 by_cases k6:e.kind=6
 ·refine ⟨_,_,D,t,(h.new n6).new n6,?_,⟨rfl,rfl⟩,joinC_length (joinC_length hc (oat_of h 0 e.obj e.off).2) (oat_of h 1 e.obj e.off).2,⟨idD.1,idD.2.1,f2.1,f2.2,idD.2.2⟩,fun st ks Q hM k=>mid_6e hM h n6 hc he k6 k⟩;unfold TabP.acq;rw [if_pos k6];rfl
 by_cases k8:e.kind=8
 ·exact one 0 _ (oat_of h 0 e.obj e.off).2 (by unfold TabP.acq;rw [if_neg k6,if_pos k8];rfl) (fun st ks Q hM k=>mid_8e hM h n6 hc he k8 k)
 by_cases k11:e.kind=11
 ·exact one 0 _ (oat_of h 2 e.obj e.off).2 (by unfold TabP.acq;rw [if_neg k6,if_neg k8,if_pos k11];rfl) (fun st ks Q hM k=>mid_11e hM h n6 hc he k11 k)
 by_cases k13:e.kind=13
 ·exact one 0 _ (oat_of h 3 e.obj e.off).2 (by unfold TabP.acq;rw [if_neg k6,if_neg k8,if_neg k11,if_pos k13];rfl) (fun st ks Q hM k=>mid_13e hM h n6 hc he k13 k)
 by_cases k3:e.kind=3
 ·exact one 0 _ (oat_of h 4 e.obj e.off).2 (by unfold TabP.acq;rw [if_neg k6,if_neg k8,if_neg k11,if_neg k13,if_pos (.inl k3)];rfl) (fun st ks Q hM k=>mid_3e hM h n6 hc he k3 k)
 by_cases k5:e.kind=5
 ·exact one 0 _ (oat_of h 4 e.obj e.off).2 (by unfold TabP.acq;rw [if_neg k6,if_neg k8,if_neg k11,if_neg k13,if_pos (.inr k5)];rfl) (fun st ks Q hM k=>mid_5e hM h n6 hc he k5 k)
 have k35:¬ (e.kind=3∨e.kind=5):=fun q=>q.elim k3 k5
 by_cases k20:e.kind=20
 ·exact one 0 _ (oat_of h 5 e.obj e.off).2 (by unfold TabP.acq;rw [if_neg k6,if_neg k8,if_neg k11,if_neg k13,if_neg k35,if_pos k20];rfl) (fun st ks Q hM k=>mid_20e hM h n6 hc he k20 k)
 -- a ring that is made
 have made:t.g e.obj=none→(joinC c ckZ,{ t.p with g:=updR t.p.g e.obj (ring0 (e.n+1).toNat,ring0 (e.n+1).toNat) })=t.p.acq e c→(∀ hp1,hp1=up (up (up hp (N+8+22) (.cells (ckFlat (ring0 (e.n+1).toNat)))) (N+8+25) (.cells (ckFlat (ring0 (e.n+1).toNat)))) t.br (.map 3 (aput t.rs t.rcl (.int .i64 e.obj) (rgW (N+8+22) (N+8+25) (e.n+1).toNat)) (t.rcl+1)) →
  ∀ st ks Q,MidSt nc N b0 e c hp st→(∀ st',MidSt nc N b0 e (joinC c ckZ) (up hp1 (N+6) (.cells (ckH (joinC c ckZ)))) st'→exS env_adv ks Q .normal st')→pwp env_adv pct36c1 (exS env_adv ks Q) st) →
  ∃ c' hp' D' t',TabAt hp' b0 D' t'∧(c',t'.p)=t.p.acq e c∧(t'.st=t.st∧t'.sn=t.sn)∧c'.length=8∧((∀ b,D b→D' b)∧(∀ b,D' b→D b∨N+8≤b)∧(∀ b,¬ D b→b < N→hp' b=hp b)∧Free hp' (N+40)∧∀ b,D' b→b < N+40) ∧
  ∀ st ks Q,MidSt nc N b0 e c hp st→(∀ st',MidSt nc N b0 e c' hp' st'→exS env_adv ks Q .normal st')→pwp env_adv pct36c1 (exS env_adv ks Q) st:=by
  intro hg ha hgo;have nN:∀ b,N≤b→¬ D b:=fun b hb q=>by have:=hD b q;omega
  have hnew:=h.ringNew hg (b1:=N+8+22) (b2:=N+8+25) (m:=(e.n+1).toNat) (nN _ (by omega)) (nN _ (by omega)) (by omega) (by have:=he.n;omega)
  have hr:=hD _ h.dd.2.2.2;refine ⟨_,_,_,_,hnew.new (b:=N+6) (x:=.cells (ckH (joinC c ckZ))) (fun q=>?_),?_,⟨rfl,rfl⟩,joinC_length hc rfl,⟨fun b q=>.inl q,fun b q=>q.imp id (fun q=>by omega),fun b q1 q2=>?_,fun b q=>?_,fun b q=>?_⟩,hgo _ rfl⟩
  ·rcases q with q | q | q
   ·exact n6 q
   ·omega
   ·omega
  ·rw [←ha]
   show (_,TabP.mk _ _ _)=_
   rw [upd_g];rfl
  ·rw [up_ne (by omega),up_ne (fun e:b=t.br=>q1 (e ▸ h.dd.2.2.2)),up_ne (by omega),up_ne (by omega)]
  ·rw [up_ne (by omega),up_ne (by omega),up_ne (by omega),up_ne (by omega)];exact hN b (by omega)
  ·rcases q with q | q | q
   ·have:=hD b q;omega
   ·omega
   ·omega
 have self:∀ {v:Nat×Nat×List Ck×List Ck},t.g e.obj=some v→({ t.p with g:=updR t.p.g e.obj v.2.2 }:TabP)=t.p:=fun {v} hv=>by
  have:t.p.g e.obj=some v.2.2:=by show Option.map _ (t.g e.obj)=_;rw [hv];rfl
  rw [updR_self this]
 by_cases k18:e.kind=18
 ·cases hg:t.g e.obj with
  | none =>
    refine made hg ?_ (fun hp1 e1 st ks Q hM k=>mid_18n hM h hD hN hc he k18 hg rfl rfl rfl e1 k);unfold TabP.acq;rw [if_neg k6,if_neg k8,if_neg k11,if_neg k13,if_neg k35,if_neg k20,if_pos k18,ring_none hg];have:(ring0 (e.n+1).toNat).getD (slotOf e.k (ring0 (e.n+1).toNat)) ckZ=ckZ:=by unfold ring0;rw [List.getD_eq_getElem?_getD,List.getElem?_replicate];split <;> rfl
    rw [this]
  | some v =>
    obtain ⟨b1,b2,l1,l2⟩:=v;obtain ⟨_,ri⟩:=h.ring hg;have hpos:=ri.pos;have m0:(0:Int)≤Int.tmod e.k (l1.length:Int):=Int.tmod_nonneg _ he.k.1;have m1:Int.tmod e.k (l1.length:Int) < (l1.length:Int):=Int.tmod_lt_of_pos _ (by omega);obtain ⟨d,hd⟩:∃ d,l1[(Int.tmod e.k (l1.length:Int)).toNat]? = some d:=⟨_,List.getElem?_eq_getElem (by omega)⟩
    refine one 0 d (ri.c1 d (List.mem_of_getElem? hd)) ?_ (fun st ks Q hM k=>mid_18 hM h hD hN hc he k18 hg hd k);obtain ⟨v,hv,_,e2⟩:=ring_some (e:=e) ⟨_,hg⟩;rw [hg] at hv;cases hv;unfold TabP.acq;rw [if_neg k6,if_neg k8,if_neg k11,if_neg k13,if_neg k35,if_neg k20,if_pos k18,e2,self hg]
    show _=(joinC c (l1.getD (slotOf e.k l1) ckZ),_)
    unfold slotOf;rw [List.getD_eq_getElem?_getD,hd];rfl
 by_cases k16:e.kind=16
 ·by_cases hge:0≤e.k - e.n
  ·cases hg:t.g e.obj with
   | none =>
     refine made hg ?_ (fun hp1 e1 st ks Q hM k=>mid_16n hM h hD hN hc he k16 hge hg rfl rfl rfl e1 k);unfold TabP.acq;rw [if_neg k6,if_neg k8,if_neg k11,if_neg k13,if_neg k35,if_neg k20,if_neg k18,if_pos k16,if_pos hge,ring_none hg];have:(ring0 (e.n+1).toNat).getD (slotOf (e.k - e.n) (ring0 (e.n+1).toNat)) ckZ=ckZ:=by unfold ring0;rw [List.getD_eq_getElem?_getD,List.getElem?_replicate];split <;> rfl
     rw [this]
   | some v =>
     obtain ⟨b1,b2,l1,l2⟩:=v;obtain ⟨_,ri⟩:=h.ring hg;have hpos:=ri.pos;have hlen:=ri.len;have m0:(0:Int)≤Int.tmod (e.k - e.n) (l1.length:Int):=Int.tmod_nonneg _ hge;have m1:Int.tmod (e.k - e.n) (l1.length:Int) < (l1.length:Int):=Int.tmod_lt_of_pos _ (by omega);obtain ⟨d,hd⟩:∃ d,l2[(Int.tmod (e.k - e.n) (l1.length:Int)).toNat]? = some d:=⟨_,List.getElem?_eq_getElem (by omega)⟩
     refine one 0 d (ri.c2 d (List.mem_of_getElem? hd)) ?_ (fun st ks Q hM k=>mid_16 hM h hD hN hc he k16 hge hg hd k);obtain ⟨v,hv,_,e2⟩:=ring_some (e:=e) ⟨_,hg⟩;rw [hg] at hv;cases hv;unfold TabP.acq;rw [if_neg k6,if_neg k8,if_neg k11,if_neg k13,if_neg k35,if_neg k20,if_neg k18,if_pos k16,if_pos hge,e2,self hg]
     show _=(joinC c (l2.getD (slotOf (e.k - e.n) l2) ckZ),_)
     unfold slotOf;rw [←hlen,List.getD_eq_getElem?_getD,hd];rfl
  ·refine ⟨c,hp,D,t,h,?_,⟨rfl,rfl⟩,hc,⟨idD.1,idD.2.1,fun _ _ _=>rfl,fun b q=>hN b (by omega),idD.2.2⟩,fun st ks Q hM k=>mid_16z hM he k16 hge k⟩;unfold TabP.acq;rw [if_neg k6,if_neg k8,if_neg k11,if_neg k13,if_neg k35,if_neg k20,if_neg k18,if_pos k16,if_neg hge]
 refine ⟨c,hp,D,t,h,?_,⟨rfl,rfl⟩,hc,⟨idD.1,idD.2.1,fun _ _ _=>rfl,fun b q=>hN b (by omega),idD.2.2⟩,fun st ks Q hM k=>mid_else hM ⟨k6,k8,k11,k13,k3,k5,k20,k18,k16⟩ k⟩;unfold TabP.acq;rw [if_neg k6,if_neg k8,if_neg k11,if_neg k13,if_neg k35,if_neg k20,if_neg k18,if_neg k16]
end
def R_adv:(Nat→Hb)→List Hw→(Nat→Hb)→List Hw→Prop:=Runs env_adv ntt36 pct36 prt36
theorem s_adv:SpecH Try.prog 36 R_adv:=spt36 envOK_adv (fun _ _ _ _ h=>h)
def TabP.fin (p:TabP) (e:Ev) (c:Ck):TabP:={ (p.rel e c) with ck:=(p.rel e c).ck.set e.g.toNat c }
section
variable {hp:Nat→Hb} {b0 N N1:Nat} {D:Nat→Prop} {t:TabL} {e:Ev} {c:Ck} {nc:Nat→Nat}
theorem tail_go (h:TabAt hp b0 D t) (hD:∀ b,D b→b < N1) (hF:Free hp N1) (h8:N+8≤N1) (nD2:¬ D (N+2)) (nD6:¬ D (N+6)) (he:EvIn e) (hc:c.length=8) (hnb:nc b0=1000) :
 ∃ hp' D' t',TabAt hp' b0 D' t'∧t'.p=t.p.fin e c∧(t'.st=t.st∧t'.sn=t.sn)∧Left hp D N1 hp' D' (N1+40) ∧
   ∀ st Q,MidSt nc N b0 e c hp st→(∀ st',st'.resHs prt36=some [ckHw c,.one (hI 0)]→st'.hb=hp'→Q .ret st')→pwp env_adv pct36c0 (exS env_adv [] Q) st:=by
 obtain ⟨hp1,D1,t1,hR,hT1,hpp,hst,hL⟩:=rel_run h hD hF he hc;have hg:=he.g;refine ⟨_,D1,_,hT1.clk (g:=e.g.toNat) hc,?_,hst,hL.trans ⟨Nat.le_refl _,fun _ q=>q,fun _ q=>.inl q,fun b q _=>up_ne (fun e:b=b0=>q (e ▸ hT1.dd.1)),fun b q=>by rw [up_ne (by have:=hL.lt _ hT1.dd.1;omega)];exact hL.free b q,hL.lt⟩,fun st Q hM k=>?_⟩
 ·unfold TabP.fin;rw [←hpp];rfl
 have s2:=hM.s2;have s3:=hM.s3;have s4:=hM.s4;have s6:=hM.s6;have s7:=hM.s7;have g3:=hM.g3;have o3:=hM.o3;have g4:=hM.g4;have o4:=hM.o4;have hn:=hM.hnc;have hh:=hM.hb;have p2:=hM.p2;have p6:=hM.p6;have p7:=hM.p7;have n6:=hM.n6;have v2:hp1 (N+2)=.cells [.h (.p b0 0)]:=(hL.out _ nD2 (by omega)).trans p2;have v6:hp1 (N+6)=.cells (ckH c):=(hL.out _ nD6 (by omega)).trans p6;have hb06:N+6≠b0:=fun e=>nD6 (e ▸ h.dd.1)
 obtain ⟨l3,l4⟩:=ckLd hc;have l5:(ckCells c).length=8:=by rw [ckCells_length,hc]
 have jl:0+8≤(ckH c).length:=by rw [ckH_length,hc];exact Nat.le_refl _
 have jl8:8≤(ckH c).length:=by rw [ckH_length,hc];exact Nat.le_refl _
 have q0:=hg.1;have q8:e.g < 8:=hg.2;have q9:e.g < ((8:Nat):Int):=hg.2;have h01:=hT1.h0;have tl:1+e.g.toNat * 8+8≤(tabC t1.bs t1.bo t1.br t1.ck).length:=by rw [tabC_len hT1.ck];omega
 have ts:hwrAt (tabC t1.bs t1.bo t1.br t1.ck) (1+e.g.toNat * 8) (ckH c)=tabC t1.bs t1.bo t1.br (t1.ck.set e.g.toNat c):=tabC_set hT1.ck (by omega) hc;unfold pct36c0;simp only [↓evP,evB,stB,reduceIte,reduceCtorEq,seval,s2,s3,s6,s7,g3,o3,hn,hh,p2,p6,p7,Ev.row,ckH_cl,l3,l4,l5,jl,jl8,ckCells_hc];refine callHS_intro hp1 [] (by simp only [stB,reduceIte,reduceCtorEq,seval,hh];exact hR) ?_
 simp only [↓evP,evB,stB,reduceIte,reduceCtorEq,seval,s2,s3,s6,s7,g3,o3,hn,v2,v6,hnb,h01,tl,ts,q0,q8,q9,Ev.row,ckH_cl,l3,l4,l5,jl,jl8,ckCells_hc];refine ⟨(by unfold Drw;refine Eq.trans (b:=true) ?_ rfl;kernel_rfl),?_⟩
 simp only [↓evP,evB,stB,reduceIte,reduceCtorEq,seval,s4,s6,g4,o4,hn,hnb,v6,hb06,ckH_cl,l3,l4,l5,jl,jl8,wr_new8 hc];refine k _ ?_ ?_
 ·simp only [stB,reduceIte,reduceCtorEq,seval,s4,g4,o4,l3,l4,l5,wr_new8 hc,ckCells_hc,prt36,ckHw]
 ·simp only [stB,reduceIte,reduceCtorEq,seval,hn,hnb]
end
theorem evIn {e:Ev} (h:e.valid=true):EvIn e:=by
 have hg:=Ev.valid_g h;have ho:=Ev.valid_obj h;have hf:=Ev.valid_off h;have hk:=Ev.valid_k h;have hn:=Ev.valid_n h;refine ⟨hg,⟨by omega,by omega⟩,⟨by omega,by omega⟩,hk,⟨hn.1,?_⟩,fun q=>(Ev.valid_go h q).2⟩
 have hr:e.rest=true:=by
  unfold Ev.valid at h;simp only [Bool.and_eq_true] at h;exact h.2
 unfold Ev.rest at hr;split at hr
 ·have:=of_decide_eq_true hr;omega
 ·split at hr
  ·exact (of_decide_eq_true hr).2
  ·split at hr
   ·exact (of_decide_eq_true hr).2.1
   ·have:=of_decide_eq_true hr;omega
def TabP.adv (p:TabP) (e:Ev):Ck×TabP :=
 let a:=p.acq e (tickC (p.ck.getD e.g.toNat ckZ) e.g)
 (a.1,a.2.fin e a.1)
section
variable {hp:Nat→Hb} {b0 N:Nat} {D:Nat→Prop} {t:TabL} {e:Ev}
def advHp (hp:Nat→Hb) (N b0:Nat) (t:TabL) (e:Ev):Nat→Hb:=up (up hp (N+2) (.cells [.h (.p b0 0)])) t.bs (.ab (tsH ((t.st.add e).getD t.st) (t.sn+2)))
theorem adv_tab (h:TabAt hp b0 D t) (hD:∀ b,D b→b < N):TabAt (advHp hp N b0 t e) b0 D { t with st:=(t.st.add e).getD t.st,sn:=t.sn+2 } :=
 (h.new (b:=N+2) (x:=.cells [.h (.p b0 0)]) (fun q=>by have:=hD _ q;omega)).stt _ _
theorem adv_yes (h:TabAt hp b0 D t) (hD:∀ b,D b→b < N) (hN:Free hp N) (hwf:t.st.wf) (hsn:t.sn≤1000000) (hck:∀ c ∈ t.ck,OK64 c) (hv:e.valid=true) {s':TS} (ha:t.st.add e=some s') :
 ∃ hp' D' t',R_adv hp [hP b0 0,evW e] hp' [ckHw (t.p.adv e).1,.one (hI 0)]∧TabAt hp' b0 D' t'∧(t'.p=(t.p.adv e).2∧t'.st=s'∧t'.sn=t.sn+2)∧Left hp D N hp' D' (N+80):=by
 have he:=evIn hv;have hg:=he.g;have ht:=adv_tab (e:=e) h hD;obtain ⟨c0,hc0⟩:∃ c0,t.ck[e.g.toNat]? = some c0:=⟨_,List.getElem?_eq_getElem (by rw [h.ck.1];omega)⟩
 have hm0:=List.mem_of_getElem? hc0;have hl0:=h.ck.2 c0 hm0;have hgd:t.ck.getD e.g.toNat ckZ=c0:=by rw [List.getD_eq_getElem?_getD,hc0];rfl
 have hlt:(tickC c0 e.g).length=8:=by rw [tickC_length,hl0]
 have nD:∀ d,¬ D (N+d):=fun d q=>by have:=hD _ q;omega
 obtain ⟨hpA,hA⟩:∃ hpA,hpA=up (up (up (up (advHp hp N b0 t e) (N+6) (.cells [hI 0,hI 0,hI 0,hI 0,hI 0,hI 0,hI 0,hI 0])) (N+6) (.cells (ckH (tickC c0 e.g)))) (N+7) (.cells [hI 0,hI 0])) (N+7) (.cells [hI e.obj,hI e.off]):=⟨_,rfl⟩
 obtain ⟨nc,hnc⟩:∃ nc,nc=ncN N:=⟨_,rfl⟩
 have n2:nc (N+2)=3:=by rw [hnc];exact ncN_new
 have ls:=hD _ h.dd.2.1;have l0:=hD _ h.dd.1;have nb:nc b0=1000:=by rw [hnc];exact ncN_old l0
 have ns:nc t.bs=1000:=by rw [hnc];exact ncN_old ls
 have h0:=h.h0;have hs:=h.hs;have t0:(tabC t.bs t.bo t.br t.ck)[0]? = some (.h (.v t.bs)):=tabC_0;have d02:b0≠N+2:=by omega
 have ds2:t.bs≠N+2:=by omega
 have hold:∀ b,¬ D b→b < N→hpA b=hp b:=fun b q1 q2=>by
  rw [hA,up_ne (by omega),up_ne (by omega),up_ne (by omega),up_ne (by omega)];unfold advHp;rw [up_ne (fun e:b=t.bs=>q1 (e ▸ h.dd.2.1)),up_ne (by omega)]
 have hfree:Free hpA (N+8):=fun b q=>by
  rw [hA,up_ne (by omega),up_ne (by omega),up_ne (by omega),up_ne (by omega)];unfold advHp;rw [up_ne (by omega),up_ne (by omega)];exact hN b (by omega)
 have hT:TabAt hpA b0 D { t with st:=(t.st.add e).getD t.st,sn:=t.sn+2 }:=by
  rw [hA];exact (((ht.new (nD 6)).new (nD 6)).new (nD 7)).new (nD 7)
 have p2:hpA (N+2)=.cells [.h (.p b0 0)]:=by
  rw [hA,up_ne (by omega),up_ne (by omega),up_ne (by omega),up_ne (by omega)];unfold advHp;rw [up_ne (by omega),up_eq]
 have p6:hpA (N+6)=.cells (ckH (tickC c0 e.g)):=by rw [hA,up_ne (by omega),up_ne (by omega),up_eq]
 have p7:hpA (N+7)=.cells [hI e.obj,hI e.off]:=by rw [hA,up_eq]
 obtain ⟨c1,hpB,D1,t1,hT1,hp1,hst1,hl1,⟨f1,f2,f3,f4,f5⟩,hgo1⟩:=mid_run (nc:=nc) hT hD hfree hlt he p2 p6 p7;have nD1:∀ d,d < 8→¬ D1 (N+d):=fun d hd q=>(f2 _ q).elim (nD d) (fun q=>by omega)
 obtain ⟨hp2,D2,t2,hT2,hp2p,hst2,hL2,hgo2⟩:=tail_go (nc:=nc) (N:=N) hT1 f5 f4 (by omega) (nD1 2 (by omega)) (nD1 6 (by omega)) he hl1 nb
 have eadv:t.p.adv e=(c1,t2.p):=by
  unfold TabP.adv
  show (_,_)=_
  have e1:t.p.acq e (tickC (t.p.ck.getD e.g.toNat ckZ) e.g)=(c1,t1.p):=by
   rw [show t.p.ck.getD e.g.toNat ckZ=c0 from hgd];exact hp1.symm
  rw [e1,hp2p]
 refine ⟨hp2,D2,t2,?_,hT2,⟨by rw [eadv],by rw [hst2.1,hst1.1];show (t.st.add e).getD t.st=_;rw [ha];rfl,by rw [hst2.2,hst1.2]⟩,⟨by omega,fun b q=>hL2.sub b (f1 b q),fun b q=>(hL2.new b q).elim (fun q=>(f2 b q).imp id (fun q=>by omega)) (fun q=>.inr (by omega)),fun b q1 q2=>(hL2.out b (fun q=>(f2 b q).elim q1 (fun q=>by omega)) (by omega)).trans ((f3 b q1 q2).trans (hold b q1 q2)),hL2.free,hL2.lt⟩⟩
 rw [eadv];refine ⟨by simp [ntt36],nc,?_⟩;unfold pct36;refine pwp_start ?_;simp only [↓evP,evB,stB,reduceIte,reduceCtorEq,seval,evW,paHw,Ev.pa,Ev.row];refine halS_box (cs:=[.hv (.p b0 0)]) (hs:=[.h (.p b0 0)]) (N+2) (lay_of (by simp only [stB,reduceIte,reduceCtorEq,seval,n2]) (by (repeat' (first | exact AllHp.init | assumption | (refine AllHp.ap ?_ rfl)))) (by simp only [stB,reduceIte,reduceCtorEq,seval];exact hN.at_ 2)) (by simp only [stB,reduceIte,reduceCtorEq,seval]) (by simp only [stB,reduceIte,reduceCtorEq,seval]) ?_
 simp only [↓evP,evB,stB,reduceIte,reduceCtorEq,seval,n2];refine callOps_intro [pB e.valid] (by exact ⟨e,rfl,rfl⟩) ?_;simp only [↓evP,evB,stB,reduceIte,reduceCtorEq,seval,hv,n2,h0,t0,d02];refine callHD_intro (advHp hp N b0 t e) [.one (.d (dB (t.st.add e).isSome))] (by simp only [stB,reduceIte,reduceCtorEq,seval,n2];exact ⟨t.bs,tsH t.st t.sn,[e.pa],_,[pB (t.st.add e).isSome],rfl,(up_ne ds2).trans hs,⟨t.st,t.sn,e,rfl,rfl,⟨hwf,hsn⟩,rfl,rfl⟩,rfl,rfl⟩) ?_
 have hi:(t.st.add e).isSome=true:=by rw [ha];rfl
 simp only [↓evP,evB,stB,reduceIte,reduceCtorEq,Nat.reduceEqDiff,Nat.reduceAdd,Nat.reduceMul,Nat.reduceLeDiff,Nat.reduceLT,Nat.reduceSub,Nat.reduceBEq,hi,n2];refine ⟨(by unfold Drw;refine Eq.trans (b:=true) ?_ rfl;kernel_rfl),?_⟩
 have q0:=hg.1;have q9:e.g < ((8:Nat):Int):=hg.2;have v0:=ht.h0;have v2:advHp hp N b0 t e (N+2)=.cells [.h (.p b0 0)]:=by unfold advHp;rw [up_ne (by omega),up_eq]
 have tl:1+e.g.toNat * 8+8≤(tabC t.bs t.bo t.br t.ck).length:=by rw [tabC_len h.ck];omega
 have tg:(((tabC t.bs t.bo t.br t.ck).map Hc.cl).drop (1+e.g.toNat * 8)).take 8=ckCells c0:=tabC_get h.ck hc0;unfold pct36c2;simp only [↓evP,evB,stB,reduceIte,reduceCtorEq,Nat.reduceEqDiff,Nat.reduceAdd,Nat.reduceMul,Nat.reduceLeDiff,Nat.reduceLT,Nat.reduceSub,Nat.reduceBEq,v2,v0,q0,q9,tl,tg,n2,nb,ckCells_dt];refine callD_intro [ckPa (tickC c0 e.g)] (by exact R_tick.mk hl0 (hck c0 hm0)) ?_;simp only [↓evP,evB,stB,reduceIte,reduceCtorEq,seval,ckPa,ckRow_cells];have n6:nc (N+6)=7:=by rw [hnc];exact ncN_new
 have n7:nc (N+7)=8:=by rw [hnc];exact ncN_new
 have w6:advHp hp N b0 t e (N+6)=.no:=by unfold advHp;rw [up_ne (by omega),up_ne (by omega)];exact hN.at_ 6
 have w7:advHp hp N b0 t e (N+7)=.no:=by unfold advHp;rw [up_ne (by omega),up_ne (by omega)];exact hN.at_ 7
 have lc:(ckCells (tickC c0 e.g)).length=8:=by rw [ckCells_length,hlt]
 have wz:hwrAt [hI 0,hI 0,hI 0,hI 0,hI 0,hI 0,hI 0,hI 0] 0 (ckH (tickC c0 e.g))=ckH (tickC c0 e.g):=hwrAt_full (by rw [ckH_length,hlt];rfl)
 refine halD_new (N+6) (lay_of (by simp only [stB,reduceIte,reduceCtorEq,seval,n6]) (by (repeat' (first | exact AllHp.init | assumption | (refine AllHp.ap ?_ rfl)))) (by simp only [stB,reduceIte,reduceCtorEq,seval];exact w6)) ?_
 simp only [↓evP,evB,stB,reduceIte,reduceCtorEq,seval,n6,lc,ckCells_hc,wz];refine ⟨(by unfold Drw;refine Eq.trans (b:=true) ?_ rfl;kernel_rfl),?_⟩
 refine halS_new (N+7) (lay_of (by simp only [stB,reduceIte,reduceCtorEq,seval,n7]) (by (repeat' (first | exact AllHp.init | assumption | (refine AllHp.ap ?_ rfl)))) (by simp only [stB,reduceIte,reduceCtorEq,seval,n6,Nat.add_left_cancel_iff];exact w7)) ?_
 simp only [↓evP,evB,stB,reduceIte,reduceCtorEq,seval,n7];refine hgo1 _ _ _ ⟨(by simp only [stB,reduceIte,reduceCtorEq,seval]),(by simp only [stB,reduceIte,reduceCtorEq,seval]),(by simp only [stB,reduceIte,reduceCtorEq,seval]),(by simp only [stB,reduceIte,reduceCtorEq,seval]),(by simp only [stB,reduceIte,reduceCtorEq,seval]),(by simp only [stB,reduceIte,reduceCtorEq,seval]),(by simp only [stB,reduceIte,reduceCtorEq,seval]),(by simp only [stB,reduceIte,reduceCtorEq,seval];rfl),(by simp only [stB,reduceIte,reduceCtorEq,seval]),(by simp only [stB,reduceIte,reduceCtorEq,seval]),(by simp only [stB,reduceIte,reduceCtorEq,seval]),(by (repeat' (first | exact AllHp.init | assumption | (refine AllHp.ap ?_ rfl)))),(by simp only [stB,reduceIte,reduceCtorEq,seval,n6,n7];exact hA.symm),p2,p6,p7,n6⟩ (fun st' hM=>?_)
 rw [exS_c];exact hgo2 st' _ hM (fun st'' r1 r2=>⟨.inr rfl,r1,r2⟩)
end
def R_newH (hp:Nat→Hb) (az:List Hw) (hp':Nat→Hb) (rs:List Hw):Prop:=∃ b ps H',az=ps.map paHw∧hp b=.no∧Ra_new none ps H' []∧hp'=up hp b (.ab H')∧rs=[.one (.h (.v b))]
def env_new:Env:=h1 19 R_newH e0
theorem envOK_new:EnvOK Try.prog env_new:=.h1 sa_new.toHn .e0
def R_tnew:(Nat→Hb)→List Hw→(Nat→Hb)→List Hw→Prop:=Runs env_new ntt34 pct34 prt34
theorem s_tnew:SpecH Try.prog 34 R_tnew:=spt34 envOK_new (fun _ _ _ _ h=>h)
def R_gorH (hp:Nat→Hb) (az:List Hw) (hp':Nat→Hb) (rs:List Hw):Prop:=∃ b H ps H' rs',az=.one (.h (.v b)) :: ps.map paHw∧hp b=.ab H∧Ra_gor (some H) ps H' rs'∧hp'=up hp b (.ab H')∧rs=rs'.map paHw
def env_gor:Env:=h1 24 R_gorH e0
theorem envOK_gor:EnvOK Try.prog env_gor:=.h1 sa_gor.toH .e0
def R_tgor:(Nat→Hb)→List Hw→(Nat→Hb)→List Hw→Prop:=Runs env_gor ntt40 pct40 prt40
theorem s_tgor:SpecH Try.prog 40 R_tgor:=spt40 envOK_gor (fun _ _ _ _ h=>h)
def R_tclk:(Nat→Hb)→List Hw→(Nat→Hb)→List Hw→Prop:=Runs e0 ntt35 pct35 prt35
theorem s_tclk:SpecH Try.prog 35 R_tclk:=spt35 EnvOK.e0 (fun _ _ _ _ h=>h)
def TabP.new:TabP:=⟨List.replicate 8 ckZ,fun _ _ _=>none,fun _=>none⟩
def TabP.clock (p:TabP) (g:Int):Ck:=if 0≤g∧g < 8 then p.ck.getD g.toNat ckZ else ckZ
section
variable {hp:Nat→Hb} {b0 N:Nat} {D:Nat→Prop} {t:TabL}
theorem clk_run (h:TabAt hp b0 D t) (g:Int):R_tclk hp [hP b0 0,.one (hI g)] hp [ckHw (t.p.clock g)]:=by
 have h0:=h.h0;refine ⟨by simp [ntt35],fun _=>1,?_⟩;unfold pct35;refine pwp_start ?_
 by_cases a0:g < 0
 ·have e1:t.p.clock g=ckZ:=if_neg (by omega);simp only [↓evP,evB,stB,reduceIte,reduceCtorEq,Nat.reduceEqDiff,Nat.reduceAdd,Nat.reduceMul,Nat.reduceLeDiff,Nat.reduceLT,Nat.reduceSub,Nat.reduceBEq,a0,decide_true,e1,prt35,ckHw,ckH,ckZ];rfl
 by_cases a8:g≥8
 ·have e1:t.p.clock g=ckZ:=if_neg (by omega);simp only [↓evP,evB,stB,reduceIte,reduceCtorEq,Nat.reduceEqDiff,Nat.reduceAdd,Nat.reduceMul,Nat.reduceLeDiff,Nat.reduceLT,Nat.reduceSub,Nat.reduceBEq,a0,a8,decide_true,decide_false,e1,prt35,ckHw,ckH,ckZ];rfl
 obtain ⟨c,hc⟩:∃ c,t.ck[g.toNat]? = some c:=⟨_,List.getElem?_eq_getElem (by rw [h.ck.1];omega)⟩
 have l8:=h.ck.2 c (List.mem_of_getElem? hc)
 have e1:t.p.clock g=c:=by
  show (if 0≤g∧g < 8 then t.ck.getD g.toNat ckZ else ckZ)=c
  rw [if_pos (by omega),List.getD_eq_getElem?_getD,hc];rfl
 have q0:0≤g:=by omega
 have q9:g < ((8:Nat):Int):=by omega
 have tl:1+g.toNat * 8+8≤(tabC t.bs t.bo t.br t.ck).length:=by rw [tabC_len h.ck];omega
 have tg:(((tabC t.bs t.bo t.br t.ck).map Hc.cl).drop (1+g.toNat * 8)).take 8=ckCells c:=tabC_get h.ck hc;obtain ⟨l3,l4⟩:=ckLd l8;have l5:(ckCells c).length=8:=by rw [ckCells_length,l8]
 simp only [↓evP,evB,stB,reduceIte,reduceCtorEq,Nat.reduceEqDiff,Nat.reduceAdd,Nat.reduceMul,Nat.reduceLeDiff,Nat.reduceLT,Nat.reduceSub,Nat.reduceBEq,a0,a8,decide_false,h0,q0,q9,tl,tg,e1,l3,l4,l5,wr_new8 l8,ckCells_hc,prt35,ckHw]
theorem ring_new_ok:Ck8 (List.replicate 8 ckZ):=⟨rfl,fun c hc=>by rw [List.eq_of_mem_replicate hc];rfl⟩
theorem new_run (hN:Free hp N):∃ hp' t D',R_tnew hp [] hp' [hP (N+5) 0]∧TabAt hp' (N+5) D' t∧(t.p=.new∧t.st=TS.new∧t.sn=0)∧Left hp (fun _=>False) N hp' D' (N+6):=by
 refine ⟨up (up (up (up hp (N+1) (.ab (tsH TS.new 0))) (N+2) (.map 117 [] 0)) (N+3) (.map 3 [] 0)) (N+5) (.cells (tabC (N+1) (N+2) (N+3) (List.replicate 8 ckZ))),
  ⟨N+1,N+2,N+3,TS.new,0,List.replicate 8 ckZ,[],0,fun _ _ _=>none,[],0,fun _=>none,fun _=>none⟩,fun b=>b=N+1∨b=N+2∨b=N+3∨b=N+5,?_,?_,⟨rfl,rfl,rfl⟩,?_⟩
 ·obtain ⟨nc,hnc⟩:∃ nc,nc=ncN N:=⟨_,rfl⟩
  have n1:nc (N+1)=2:=by rw [hnc];exact ncN_new
  have n2:nc (N+2)=3:=by rw [hnc];exact ncN_new
  have n3:nc (N+3)=4:=by rw [hnc];exact ncN_new
  have n5:nc (N+5)=6:=by rw [hnc];exact ncN_new
  refine ⟨by simp,nc,?_⟩;unfold pct34;refine pwp_start ?_;simp only [↓evP,evB,stB,reduceIte,reduceCtorEq,Nat.reduceEqDiff,Nat.reduceAdd,Nat.reduceMul,Nat.reduceLeDiff,Nat.reduceLT,Nat.reduceSub,Nat.reduceBEq];refine callHS_intro (up hp (N+1) (.ab (tsH TS.new 0))) [.one (.h (.v (N+1)))] (by simp only [stB,reduceIte,reduceCtorEq,Nat.reduceEqDiff,Nat.reduceAdd,Nat.reduceMul,Nat.reduceLeDiff,Nat.reduceLT,Nat.reduceSub,Nat.reduceBEq];exact ⟨N+1,[],_,rfl,hN.at_ 1,⟨rfl,rfl,rfl,rfl⟩,rfl,rfl⟩) ?_
  simp only [↓evP,evB,stB,reduceIte,reduceCtorEq,Nat.reduceEqDiff,Nat.reduceAdd,Nat.reduceMul,Nat.reduceLeDiff,Nat.reduceLT,Nat.reduceSub,Nat.reduceBEq];refine halS_map (N+2) (lay_of (by simp only [stB,reduceIte,reduceCtorEq,Nat.reduceEqDiff,Nat.reduceAdd,Nat.reduceMul,Nat.reduceLeDiff,Nat.reduceLT,Nat.reduceSub,Nat.reduceBEq,n2]) (by (repeat' (first | exact AllHp.init | assumption | (refine AllHp.ap ?_ rfl)))) (by simp only [stB,reduceIte,reduceCtorEq,Nat.reduceEqDiff,Nat.reduceAdd,Nat.reduceMul,Nat.reduceLeDiff,Nat.reduceLT,Nat.reduceSub,Nat.reduceBEq,Nat.add_left_cancel_iff];exact hN.at_ 2)) keyedO ?_
  simp only [↓evP,evB,stB,reduceIte,reduceCtorEq,Nat.reduceEqDiff,Nat.reduceAdd,Nat.reduceMul,Nat.reduceLeDiff,Nat.reduceLT,Nat.reduceSub,Nat.reduceBEq];refine halS_map (N+3) (lay_of (by simp only [stB,reduceIte,reduceCtorEq,Nat.reduceEqDiff,Nat.reduceAdd,Nat.reduceMul,Nat.reduceLeDiff,Nat.reduceLT,Nat.reduceSub,Nat.reduceBEq,n3]) (by (repeat' (first | exact AllHp.init | assumption | (refine AllHp.ap ?_ rfl)))) (by simp only [stB,reduceIte,reduceCtorEq,Nat.reduceEqDiff,Nat.reduceAdd,Nat.reduceMul,Nat.reduceLeDiff,Nat.reduceLT,Nat.reduceSub,Nat.reduceBEq,n2,Nat.add_left_cancel_iff];exact hN.at_ 3)) keyedInt ?_
  simp only [↓evP,evB,stB,reduceIte,reduceCtorEq,Nat.reduceEqDiff,Nat.reduceAdd,Nat.reduceMul,Nat.reduceLeDiff,Nat.reduceLT,Nat.reduceSub,Nat.reduceBEq];refine halS_box (cs:=(tabC (N+1) (N+2) (N+3) (List.replicate 8 ckZ)).map Hc.cl) (hs:=tabC (N+1) (N+2) (N+3) (List.replicate 8 ckZ)) (N+5) (lay_of (by simp only [stB,reduceIte,reduceCtorEq,Nat.reduceEqDiff,Nat.reduceAdd,Nat.reduceMul,Nat.reduceLeDiff,Nat.reduceLT,Nat.reduceSub,Nat.reduceBEq,n5]) (by (repeat' (first | exact AllHp.init | assumption | (refine AllHp.ap ?_ rfl)))) (by simp only [stB,reduceIte,reduceCtorEq,Nat.reduceEqDiff,Nat.reduceAdd,Nat.reduceMul,Nat.reduceLeDiff,Nat.reduceLT,Nat.reduceSub,Nat.reduceBEq,n2,n3,Nat.add_left_cancel_iff];exact hN.at_ 5)) (by simp only [stB,reduceIte,reduceCtorEq,Nat.reduceEqDiff,Nat.reduceAdd,Nat.reduceMul,Nat.reduceLeDiff,Nat.reduceLT,Nat.reduceSub,Nat.reduceBEq];rfl) (by rfl) ?_
  simp only [↓evP,evB,stB,reduceIte,reduceCtorEq,Nat.reduceEqDiff,Nat.reduceAdd,Nat.reduceMul,Nat.reduceLeDiff,Nat.reduceLT,Nat.reduceSub,Nat.reduceBEq,n2,n3,n5,prt34]
 ·refine ⟨up_eq,?_,?_,?_,ring_new_ok,⟨.inr (.inr (.inr rfl)),.inl rfl,.inr (.inl rfl),.inr (.inr (.inl rfl))⟩,rfl,MapWf.nil _,fun _ _ _=>rfl,fun e he=>(by cases he),MapWf.nil _,fun _=>rfl,fun e he=>(by cases he)⟩
  ·show up _ _ _ (N+1)=_;rw [up_ne (by omega),up_ne (by omega),up_ne (by omega),up_eq]
  ·show up _ _ _ (N+2)=_;rw [up_ne (by omega),up_ne (by omega),up_eq]
  ·show up _ _ _ (N+3)=_;rw [up_ne (by omega),up_eq]
 ·refine ⟨by omega,fun _ q=>q.elim,fun b q=>.inr (by omega),fun b _ q=>?_,fun b q=>?_,fun b q=>by omega⟩
  ·rw [up_ne (by omega),up_ne (by omega),up_ne (by omega),up_ne (by omega)]
  ·rw [up_ne (by omega),up_ne (by omega),up_ne (by omega),up_ne (by omega)];exact hN b (by omega)
end
def TabP.keep (p:TabP) (k x y:Int):Bool:=if k=1 then (p.f 0 x y).isNone else if k=5 then (p.g x).isNone else true
def keepE (p:TabP) (e:Value×Nat×Hw):Bool:=match e.1 with
 | .agg a=>(match a.toList with
   | [.int _ k,.int _ x,.int _ y]=>p.keep k x y
   | _=>true)
 | _=>true
theorem keepE_obj {p:TabP} {e:Value×Nat×Hw} {k x y:Int} (h:e.1=objK k x y):keepE p e=p.keep k x y:=by
 unfold keepE;rw [h];rfl
def TabL.objects (t:TabL):Nat:=t.rs.length+(t.es.filter (keepE t.p)).length
def cntS (p:TabP) (es:List (Value×Nat×Hw)) (seen:List Nat):Nat:=(es.filter fun e=>seen.contains e.2.1 && keepE p e).length
theorem cntS_nil {p:TabP} {es:List (Value×Nat×Hw)}:cntS p es []=0:=by
 unfold cntS;rw [List.filter_eq_nil_iff.2 (fun e _=>by simp)];rfl
theorem cntS_all {p:TabP} {es:List (Value×Nat×Hw)} {seen:List Nat} (h:∀ e ∈ es,seen.contains e.2.1=true):cntS p es seen=(es.filter (keepE p)).length:=by
 unfold cntS
 congr 1
 apply List.filter_congr
 intro e he;rw [h e he,Bool.true_and]
theorem cntS_step {p:TabP} {es:List (Value×Nat×Hw)} (hn:(es.map (·.2.1)).Nodup) {seen:List Nat} {e:Value×Nat×Hw} (he:e ∈ es) (hs:seen.contains e.2.1=false) :
 cntS p es (seen ++ [e.2.1])=cntS p es seen+(if keepE p e=true then 1 else 0):=by
 unfold cntS
 induction es with
 | nil=>cases he
 | cons a es ih =>
   rw [List.map_cons,List.nodup_cons] at hn
   rcases List.mem_cons.1 he with h | h
   ·subst h
    have hrest:(es.filter fun x=>(seen ++ [e.2.1]).contains x.2.1 && keepE p x)=es.filter fun x=>seen.contains x.2.1 && keepE p x:=by
     apply List.filter_congr
     intro x hx;have hne:x.2.1≠e.2.1:=fun q=>hn.1 (q ▸ List.mem_map.2 ⟨x,hx,rfl⟩)
     have:(seen ++ [e.2.1]).contains x.2.1=seen.contains x.2.1:=by
      rw [Bool.eq_iff_iff];simp [hne]
     rw [this]
    have h1:(seen ++ [e.2.1]).contains e.2.1=true:=by simp
    rw [List.filter_cons,List.filter_cons,h1,hs,hrest];simp only [Bool.true_and,Bool.false_and];cases keepE p e <;> simp
   ·have hne:a.2.1≠e.2.1:=fun q=>hn.1 (q ▸ List.mem_map.2 ⟨e,h,rfl⟩)
    have h1:(seen ++ [e.2.1]).contains a.2.1=seen.contains a.2.1:=by
     rw [Bool.eq_iff_iff];simp [hne]
    rw [List.filter_cons,List.filter_cons,h1];have:=ih hn.2 h;split
    ·rw [List.length_cons,List.length_cons];omega
    ·exact this
theorem find_stamp {es:List (Value×Nat×Hw)} (hn:(es.map (·.2.1)).Nodup) {e:Value×Nat×Hw} (he:e ∈ es):es.find? (·.2.1 == e.2.1)=some e:=by
 induction es with
 | nil=>cases he
 | cons a es ih =>
   rw [List.map_cons,List.nodup_cons] at hn;rw [List.find?_cons]
   rcases List.mem_cons.1 he with h | h
   ·subst h;simp
   ·have hne:(a.2.1 == e.2.1)=false:=beq_false_of_ne (fun q=>hn.1 (q ▸ List.mem_map.2 ⟨e,h,rfl⟩));rw [hne];exact ih hn.2 h
theorem up_up {α:Type} {f:Nat→α} {a:Nat} {x y:α}:up (up f a x) a y=up f a y:=by
 funext b
 by_cases h:b=a <;> simp [up_at,h]
theorem nodup_le {l l':List Nat} (h:l.Nodup) (hs:∀ n ∈ l,n ∈ l'):l.length≤l'.length:=by
 induction l generalizing l' with
 | nil=>exact Nat.zero_le _
 | cons a l ih =>
   rw [List.nodup_cons] at h;have ha:=hs a (List.mem_cons_self ..);have:=ih h.2 (l':=l'.erase a) (fun n hn=>(List.mem_erase_of_ne (fun e:n=a=>h.1 (e ▸ hn))).2 (hs n (List.mem_cons_of_mem _ hn)));rw [List.length_erase_of_mem ha] at this;have hpos:=List.length_pos_of_mem ha;rw [List.length_cons];omega
def R_tobj (hp:Nat→Hb) (az:List Hw) (Post:(Nat→Hb)→List Hw→Prop):Prop:=∃ (b0 N:Nat) (D:Nat→Prop) (t:TabL),az=[hP b0 0]∧TabAt hp b0 D t∧(∀ b,D b→b < N)∧Free hp N∧(t.rs.length≤1000∧t.es.length≤1000)∧Post=fun h r=>h=up hp (N+20) .dead∧r=[.one (hI t.objects)]
theorem s_tobj:SpecP Try.prog 42 R_tobj:=by
 refine sqt42 EnvOK.e0 ?_;rintro hp az Post ⟨b0,N,D,t,rfl,h,hD,hN,hsz,rfl⟩;obtain ⟨nc,hnc⟩:∃ nc,nc=ncN N:=⟨_,rfl⟩
 refine ⟨by simp,nc,?_⟩;have l0:=hD _ h.dd.1;have lo:=hD _ h.dd.2.2.1;have lr:=hD _ h.dd.2.2.2;have n20:nc (N+20)=21:=by rw [hnc];exact ncN_new
 have nb:nc b0=1000:=by rw [hnc];exact ncN_old l0
 have no:nc t.bo=1000:=by rw [hnc];exact ncN_old lo
 have nr:nc t.br=1000:=by rw [hnc];exact ncN_old lr
 have h0:=h.h0;have ho:=h.ho;have hr:=h.hr;have t65:(tabC t.bs t.bo t.br t.ck)[65]? = some (.h (.m t.bo)):=tabC_65 h.ck;have t66:(tabC t.bs t.bo t.br t.ck)[66]? = some (.h (.m t.br)):=tabC_66 h.ck;have d0:b0≠N+20:=by omega
 have do_:t.bo≠N+20:=by omega
 have dr:t.br≠N+20:=by omega
 unfold pct42;refine pwp_start ?_;simp only [↓evP,evB,stB,reduceIte,reduceCtorEq,seval,h0,hr,ho,t65,t66];refine halS_range (bm:=t.bo) (t:=117) (clock:=t.cl) (es:=t.es) (N+20) (lay_of (by simp only [stB,reduceIte,reduceCtorEq,seval,n20]) (by (repeat' (first | exact AllHp.init | assumption | (refine AllHp.ap ?_ rfl)))) (by simp only [stB,reduceIte,reduceCtorEq,seval];exact hN.at_ 20)) (by simp only [stB,reduceIte,reduceCtorEq,seval]) (by simp only [stB,reduceIte,reduceCtorEq,seval,ho]) ?_
 simp only [↓evP,evB,stB,reduceIte,reduceCtorEq,seval];refine pwp_loopH mst42_0 ost42_0 (fun m st=>∃ seen:List Nat,m=t.es.length - seen.length∧seen.Nodup∧(∀ n ∈ seen,n ∈ t.es.map (·.2.1))∧st.sl 3=aI (t.rs.length+cntS t.p t.es seen:Nat)∧st.hb=up hp (N+20) (.iter t.bo t.cl seen t.cl)) t.es.length (by (repeat' (first | exact AllHp.init | assumption | (refine AllHp.ap ?_ rfl)))) ?_ ?_
 ·exact ⟨[],rfl,List.nodup_nil,fun n q=>(by cases q),by simp only [stB,reduceIte,reduceCtorEq,seval];rw [cntS_nil];rfl,by simp only [stB,reduceIte,reduceCtorEq,seval,n20]⟩
 rintro m j hjn hja ⟨seen,rfl,hsn,hsub,h3,hhb⟩;simp only [stB,reduceIte,reduceCtorEq,seval,hjn] at h3 hhb;simp only [↓evP,evB,stB,reduceIte,reduceCtorEq,seval,h3,hhb];refine nextS_intro (r:=N+20) (b:=t.bo) (since:=t.cl) (c0:=t.cl) (t:=117) (clock:=t.cl) (seen:=seen) (es:=t.es) (by simp only [stB,reduceIte,reduceCtorEq,seval,hhb,hjn]) (by simp only [stB,reduceIte,reduceCtorEq,seval,hhb,hjn,do_,ho]) ⟨h.ow.lt,Nat.le_refl _,Nat.le_refl _⟩ ?_ ?_
 ·intro hall;have hcn:=cntS_all (p:=t.p) hall;simp only [↓evP,evB,stB,reduceIte,reduceCtorEq,seval,h3,hhb,hjn,hcn,prt42];refine ⟨_,_,rfl,fun b=>?_,rfl,rfl⟩
  by_cases hb:b=N+20
  ·rw [if_pos hb,hb,up_eq];exact .inr ⟨rfl,by simp⟩
  ·rw [if_neg hb,up_ne hb];exact .inl rfl
 intro e he hns;obtain ⟨k,x,y,hek,hx,hy⟩:=h.ok e he;have hv:valBv e.1=.agg [.d (dI k),.d (dI x),.d (dI y)]:=by rw [hek];rfl
 have hfind:=find_stamp h.ow.sn he;have hlast:(seen ++ [e.2.1]).getLast? = some e.2.1:=List.getLast?_concat;have hkeep:=keepE_obj (p:=t.p) hek;have hcs:=cntS_step (p:=t.p) h.ow.sn he hns
 have hlen:seen.length+1≤t.es.length:=by
  have:=nodup_le (l:=e.2.1 :: seen) (l':=t.es.map (·.2.1)) (List.nodup_cons.2 ⟨fun q=>by simp [q] at hns,hsn⟩) (fun n hn=>by
   rcases List.mem_cons.1 hn with q | q
   ·rw [q];exact List.mem_map.2 ⟨e,he,rfl⟩
   ·exact hsub n q)
  simpa using this
 have hnd:(seen ++ [e.2.1]).Nodup:=by
  rw [List.nodup_append];exact ⟨hsn,by simp,fun a ha b hb q=>by have:=List.mem_singleton.1 hb;subst this;subst q;simp [ha] at hns⟩
 have hsub2:∀ n ∈ seen ++ [e.2.1],n ∈ t.es.map (·.2.1):=fun n hn=>by
  rcases List.mem_append.1 hn with q | q
  ·exact hsub n q
  ·rw [List.mem_singleton.1 q];exact List.mem_map.2 ⟨e,he,rfl⟩
 have hle:cntS t.p t.es seen≤t.es.length:=List.length_filter_le _ _;rw [hkeep] at hcs
 have e3:t.p.keep k x y=true→IntKind.i64.wrap (((t.rs.length+cntS t.p t.es seen:Nat):Int)+1)=((t.rs.length+cntS t.p t.es (seen ++ [e.2.1]):Nat):Int):=fun q=>by
  rw [wrN (by omega),hcs,if_pos q];rfl
 have e4:t.p.keep k x y=false→cntS t.p t.es (seen ++ [e.2.1])=cntS t.p t.es seen:=fun q=>by rw [hcs,q];rfl
 by_cases k1:k=1
 ·have b1:(k == 1)=true:=beq_iff_eq.2 k1;have hkey:=keyOf_obj (k:=0) ⟨by decide,by decide⟩ hx hy;have hoa:=h.oa 0 x y
  cases hf:t.f 0 x y with
  | none =>
    rw [hf] at hoa;have ha:alook t.es (objK 0 x y)=none:=hoa;unfold objK at ha
    replace e3:=e3 (by unfold TabP.keep;rw [if_pos k1];show (t.f 0 x y).isNone=true;rw [hf];rfl)
    simp only [↓evP,evB,stB,reduceIte,reduceCtorEq,seval,n20,nb,no,nr,hv,hlast,hfind,hhb,hjn,do_,ho,h0,t65,d0,b1,hkey,ha,h3];refine ⟨(by unfold Drw;refine Eq.trans (b:=true) ?_ rfl;kernel_rfl),?_⟩
    exact ⟨t.es.length - (seen ++ [e.2.1]).length,by rw [List.length_append,List.length_singleton];omega,(by repeat' (first | assumption | exact withinH_over hja | (refine withinH_ap ?_ rfl rfl) | (refine withinH_ap0 ?_ rfl) | (refine withinH_ap ?_ rfl withinH_hw))),seen ++ [e.2.1],rfl,hnd,hsub2,(by simp only [stB,reduceIte,reduceCtorEq,seval,h3,e3]),(by simp only [stB,reduceIte,reduceCtorEq,seval,hhb,hjn,n20,up_up])⟩
  | some c =>
    rw [hf] at hoa;obtain ⟨c8,n,ha⟩:=hoa;unfold objK at ha
    replace e4:=e4 (by unfold TabP.keep;rw [if_pos k1];show (t.f 0 x y).isNone=false;rw [hf];rfl)
    have lc:(ckCells c).length=8:=by rw [ckCells_length,c8]
    simp only [↓evP,evB,stB,reduceIte,reduceCtorEq,seval,n20,nb,no,nr,hv,hlast,hfind,hhb,hjn,do_,ho,h0,t65,d0,b1,hkey,ha,h3,ckHw,ckH_cl,lc];refine ⟨(by unfold Drw;refine Eq.trans (b:=true) ?_ rfl;kernel_rfl),?_⟩
    exact ⟨t.es.length - (seen ++ [e.2.1]).length,by rw [List.length_append,List.length_singleton];omega,(by repeat' (first | assumption | exact withinH_over hja | (refine withinH_ap ?_ rfl rfl) | (refine withinH_ap0 ?_ rfl) | (refine withinH_ap ?_ rfl withinH_hw))),seen ++ [e.2.1],rfl,hnd,hsub2,(by simp only [stB,reduceIte,reduceCtorEq,seval,h3,e4]),(by simp only [stB,reduceIte,reduceCtorEq,seval,hhb,hjn,n20,up_up])⟩
 have b1:(k == 1)=false:=beq_false_of_ne k1
 by_cases k5:k=5
 ·have b5:(k == 5)=true:=beq_iff_eq.2 k5;have hkey:=keyOf_i hx;have hra:=h.ra x
  cases hg:t.g x with
  | none =>
    rw [hg] at hra;have ha:alook t.rs (.int .i64 x)=none:=hra
    replace e3:=e3 (by unfold TabP.keep;rw [if_neg k1,if_pos k5];show (Option.map _ (t.g x)).isNone=true;rw [hg];rfl)
    simp only [↓evP,evB,stB,reduceIte,reduceCtorEq,seval,n20,nb,no,nr,hv,hlast,hfind,hhb,hjn,do_,ho,h0,t65,t66,d0,dr,hr,b1,b5,hkey,ha,h3];refine ⟨(by unfold Drw;refine Eq.trans (b:=true) ?_ rfl;kernel_rfl),?_⟩
    exact ⟨t.es.length - (seen ++ [e.2.1]).length,by rw [List.length_append,List.length_singleton];omega,(by repeat' (first | assumption | exact withinH_over hja | (refine withinH_ap ?_ rfl rfl) | (refine withinH_ap0 ?_ rfl) | (refine withinH_ap ?_ rfl withinH_hw))),seen ++ [e.2.1],rfl,hnd,hsub2,(by simp only [stB,reduceIte,reduceCtorEq,seval,h3,e3]),(by simp only [stB,reduceIte,reduceCtorEq,seval,hhb,hjn,n20,up_up])⟩
  | some v =>
    obtain ⟨q1,q2,l1,l2⟩:=v;obtain ⟨⟨n,ha⟩,_⟩:=h.ring hg
    replace e4:=e4 (by unfold TabP.keep;rw [if_neg k1,if_pos k5];show (Option.map _ (t.g x)).isNone=false;rw [hg];rfl)
    simp only [↓evP,evB,stB,reduceIte,reduceCtorEq,seval,n20,nb,no,nr,hv,hlast,hfind,hhb,hjn,do_,ho,h0,t65,t66,d0,dr,hr,b1,b5,hkey,ha,h3,rgW];refine ⟨(by unfold Drw;refine Eq.trans (b:=true) ?_ rfl;kernel_rfl),?_⟩
    exact ⟨t.es.length - (seen ++ [e.2.1]).length,by rw [List.length_append,List.length_singleton];omega,(by repeat' (first | assumption | exact withinH_over hja | (refine withinH_ap ?_ rfl rfl) | (refine withinH_ap0 ?_ rfl) | (refine withinH_ap ?_ rfl withinH_hw))),seen ++ [e.2.1],rfl,hnd,hsub2,(by simp only [stB,reduceIte,reduceCtorEq,seval,h3,e4]),(by simp only [stB,reduceIte,reduceCtorEq,seval,hhb,hjn,n20,up_up])⟩
 have b5:(k == 5)=false:=beq_false_of_ne k5
 replace e3:=e3 (by unfold TabP.keep;rw [if_neg k1,if_neg k5])
 simp only [↓evP,evB,stB,reduceIte,reduceCtorEq,seval,n20,nb,no,nr,hv,hlast,hfind,hhb,hjn,do_,ho,b1,b5,h3]
 exact ⟨t.es.length - (seen ++ [e.2.1]).length,by rw [List.length_append,List.length_singleton];omega,(by repeat' (first | assumption | exact withinH_over hja | (refine withinH_ap ?_ rfl rfl) | (refine withinH_ap0 ?_ rfl) | (refine withinH_ap ?_ rfl withinH_hw))),seen ++ [e.2.1],rfl,hnd,hsub2,(by simp only [stB,reduceIte,reduceCtorEq,seval,h3,e3]),(by simp only [stB,reduceIte,reduceCtorEq,seval,hhb,hjn,n20,up_up])⟩
theorem SpecP.toH [I:WInv] {P:Program} {f:Nat} {R:(Nat→Hb)→List Hw→((Nat→Hb)→List Hw→Prop)→Prop} (h:SpecP P f R) {R':(Nat→Hb)→List Hw→(Nat→Hb)→List Hw→Prop} (hR:∀ hp az hp' rs,R' hp az hp' rs→R hp az (fun h r=>h=hp'∧r=rs)):SpecH P f R':=by
 intro hp az hp' rs hr W w vals hI hrp hv;refine (h hp az _ (hR _ _ _ _ hr) W w vals hI hrp hv).mono ?_;rintro e w' ⟨_,_,⟨rfl,rfl⟩,q⟩;exact q
def R_objH (hp:Nat→Hb) (az:List Hw) (hp':Nat→Hb) (rs:List Hw):Prop:=∃ (b0 N:Nat) (D:Nat→Prop) (t:TabL),az=[hP b0 0]∧TabAt hp b0 D t∧(∀ b,D b→b < N)∧Free hp N∧(t.rs.length≤1000∧t.es.length≤1000)∧hp'=up hp (N+20) .dead∧rs=[.one (hI t.objects)]
theorem s_objH:SpecH Try.prog 42 R_objH:=s_tobj.toH (by
 rintro hp az hp' rs ⟨b0,N,D,t,e,h1,h2,h3,h4,rfl,rfl⟩;exact ⟨b0,N,D,t,e,h1,h2,h3,h4,rfl⟩)
end Go.Proofs.Ytffcpijeebagfaa
end
section
namespace Go.Proofs.Ytffcpijeebagfaa
open Go.RowKit Go.Maps
set_option maxRecDepth 100000
set_option maxHeartbeats 4000000
theorem mclone_c {w:World} {b:Nat} {es:Array MapEntry} {clock:Nat} (hb:w.heap[b]? = some (.map es clock)) :
 Calls Try.prog 69 #[.map (some b)] w fun e w'=>e=.returned (.map (some w.heap.size))∧w'=w.alloc (.map es clock):=by
 have mixed:Try.prog.follows .mixedOrders=true:=by kernel_rfl
 have hq:=fun w=>run_eql_map_nil_sl (P:=Try.prog) w 86 _ _ (some b) Try.underlying86
 go_enter Try.func69,Try.ntmps69
 go_wp2
 rw [run_callFunc_extern Try.func103 (by kernel_rfl) (by kernel_rfl) (by kernel_rfl) (e:=Extern.MapsClone.clone) (by kernel_rfl),run_maps_clone_sl w 86 hb];simp only [Result.andThen];rw [Oper.upon_value]
 go_wp2
 rw [run_typeAssert_map_sl _ 86 _ _ _ _ Try.underlying86];simp only [Result.andThen];rw [Oper.upon_value]
 go_wp2
 go_ret
 exact ⟨rfl,rfl⟩
theorem mclone_m {w:World} {b:Nat} {es:Array MapEntry} {clock:Nat} (hb:w.heap[b]? = some (.map es clock)) :
 Calls Try.prog 70 #[.map (some b)] w fun e w'=>e=.returned (.map (some w.heap.size))∧w'=w.alloc (.map es clock):=by
 have mixed:Try.prog.follows .mixedOrders=true:=by kernel_rfl
 have hq:=fun w=>run_eql_map_nil_sl (P:=Try.prog) w 87 _ _ (some b) Try.underlying87
 go_enter Try.func70,Try.ntmps70
 go_wp2
 rw [run_callFunc_extern Try.func103 (by kernel_rfl) (by kernel_rfl) (by kernel_rfl) (e:=Extern.MapsClone.clone) (by kernel_rfl),run_maps_clone_sl w 87 hb];simp only [Result.andThen];rw [Oper.upon_value]
 go_wp2
 rw [run_typeAssert_map_sl _ 87 _ _ _ _ Try.underlying87];simp only [Result.andThen];rw [Oper.upon_value]
 go_wp2
 go_ret
 exact ⟨rfl,rfl⟩
theorem mclone_d {w:World} {b:Nat} {es:Array MapEntry} {clock:Nat} (hb:w.heap[b]? = some (.map es clock)) :
 Calls Try.prog 71 #[.map (some b)] w fun e w'=>e=.returned (.map (some w.heap.size))∧w'=w.alloc (.map es clock):=by
 have mixed:Try.prog.follows .mixedOrders=true:=by kernel_rfl
 have hq:=fun w=>run_eql_map_nil_sl (P:=Try.prog) w 88 _ _ (some b) Try.underlying88
 go_enter Try.func71,Try.ntmps71
 go_wp2
 rw [run_callFunc_extern Try.func103 (by kernel_rfl) (by kernel_rfl) (by kernel_rfl) (e:=Extern.MapsClone.clone) (by kernel_rfl),run_maps_clone_sl w 88 hb];simp only [Result.andThen];rw [Oper.upon_value]
 go_wp2
 rw [run_typeAssert_map_sl _ 88 _ _ _ _ Try.underlying88];simp only [Result.andThen];rw [Oper.upon_value]
 go_wp2
 go_ret
 exact ⟨rfl,rfl⟩
section
theorem MapOf.at_ {κ:Type} {kv:κ→Value} {w w':World} {P:Program} {k b b' n:Nat} {f:κ→Option Value} (h:MapOf kv w P k b n f) (hb:w'.heap[b']? = w.heap[b]?):MapOf kv w' P k b' n f :=
 let ⟨D,⟨es,cl,h1,h2⟩,h3⟩:=h
 ⟨D,⟨es,cl,hb.trans h1,h2⟩,h3⟩
theorem block_under {W:World} {B:Nat} (sz:W.heap.size=B+1) (m1 m2 m3:Obj):(((W.alloc m1).alloc m2).alloc m3).heap[B]? = W.heap[B]? :=
 ((((Below.refl (B+1) W).alloc (by omega) m1).alloc (by simp [sz]) m2).alloc (by simp [sz]) m3).block B (by omega)
theorem cell_under {W:World} {B:Nat} (sz:W.heap.size=B+1) (m1 m2 m3:Obj) (j:Nat):(((W.alloc m1).alloc m2).alloc m3).cell? ⟨B,j,none⟩=W.cell? ⟨B,j,none⟩:=World.cell?_of_block (w:=W) (block_under sz m1 m2 m3)
theorem frozen_under {W:World} {B:Nat} (sz:W.heap.size=B+1) (m1 m2 m3:Obj) (j:Nat):(((W.alloc m1).alloc m2).alloc m3).frozen? ⟨B,j,none⟩=W.frozen? ⟨B,j,none⟩:=World.frozen?_of_block (w:=W) (block_under sz m1 m2 m3)
theorem size_setCells {b:Nat}:∀ (vs:List Value) (o:Nat) {w:World},(w.setCells b o vs).heap.size=w.heap.size
 | [],_,_=>rfl
 | v :: vs,o,w=>by
   show ((w.setCell ⟨b,o,none⟩ v).setCells b (o+1) vs).heap.size=_
   rw [size_setCells vs];simp [World.setCell]
theorem heap_setCells {b k:Nat} (h:k≠b):∀ (vs:List Value) (o:Nat) {w:World},(w.setCells b o vs).heap[k]? = w.heap[k]?
 | [],_,_=>rfl
 | v :: vs,o,w=>by
   show ((w.setCell ⟨b,o,none⟩ v).setCells b (o+1) vs).heap[k]? = _
   rw [heap_setCells h vs,heap_setCell_other _ _ _ _ h]
theorem below_setCells {B b:Nat} {a:World} (hB:B≤b):∀ (vs:List Value) (o:Nat) {w:World},Below B a w→Below B a (w.setCells b o vs)
 | [],_,_,h=>h
 | v :: vs,o,w,h=>below_setCells hB vs (o+1) (h.setCell (p:=⟨b,o,none⟩) hB v)
abbrev CS (sb bc bm bd:Nat) (o1 o2 o3:Obj) (w':World):Prop:=(w'.cell? ⟨sb,2,none⟩=some (.map (some bc))∧w'.cell? ⟨sb,3,none⟩=some (.map (some bm))∧w'.cell? ⟨sb,4,none⟩=some (.map (some bd)))∧w'.heap[bc]? = some o1∧w'.heap[bm]? = some o2∧w'.heap[bd]? = some o3
theorem CS.alloc {sb bc bm bd:Nat} {o1 o2 o3:Obj} {w':World} (h:CS sb bc bm bd o1 o2 o3 w') (o:Obj):CS sb bc bm bd o1 o2 o3 (w'.alloc o):=by
 obtain ⟨⟨h1,h2,h3⟩,h4,h5,h6⟩:=h
 have lt:∀ {b:Nat} {x:Obj},w'.heap[b]? = some x→b < w'.heap.size:=fun {b x} e=>by
  rcases Nat.lt_or_ge b w'.heap.size with q | q
  ·exact q
  ·rw [Array.getElem?_eq_none q] at e;cases e
 have l0:sb < w'.heap.size:=World.block_lt_of_cell? w' _ h1;exact ⟨⟨by rw [World.cell?_alloc_lt w' o ⟨sb,2,none⟩ l0];exact h1,by rw [World.cell?_alloc_lt w' o ⟨sb,3,none⟩ l0];exact h2,by rw [World.cell?_alloc_lt w' o ⟨sb,4,none⟩ l0];exact h3⟩,by rw [Below.heap_alloc _ _ _ (lt h4)];exact h4,by rw [Below.heap_alloc _ _ _ (lt h5)];exact h5,by rw [Below.heap_alloc _ _ _ (lt h6)];exact h6⟩
theorem CS.drew {sb bc bm bd:Nat} {o1 o2 o3:Obj} {w':World} (h:CS sb bc bm bd o1 o2 o3 w'):CS sb bc bm bd o1 o2 o3 w'.drew:=h
theorem CS.setCell {sb bc bm bd:Nat} {o1 o2 o3:Obj} {w':World} (h:CS sb bc bm bd o1 o2 o3 w') {p:Addr} (u:Value) (hp:sb≠p.block∧bc≠p.block∧bm≠p.block∧bd≠p.block):CS sb bc bm bd o1 o2 o3 (w'.setCell p u):=by
 obtain ⟨⟨h1,h2,h3⟩,h4,h5,h6⟩:=h;obtain ⟨p0,p1,p2,p3⟩:=hp;have blk:∀ {b:Nat},b≠p.block→(w'.setCell p u).heap[b]? = w'.heap[b]?:=fun {b} e=>Below.heap_setCell _ _ _ _ e
 exact ⟨⟨(World.cell?_of_block (w:=w') (blk p0)).trans h1,(World.cell?_of_block (w:=w') (blk p0)).trans h2,(World.cell?_of_block (w:=w') (blk p0)).trans h3⟩,(blk p1).trans h4,(blk p2).trans h5,(blk p3).trans h6⟩
variable [KB]
theorem clone_walk {sb bc bm bd N:Nat} {s:TS} {kv:Value} (w:World) (h:TRep w sb bc bm bd N s kv) (hk3:s.grp.kinds.length≤3):Calls Try.prog 23 #[.pointer (some ⟨sb,0,none⟩)] w fun e w'=>e=.returned (.pointer (some ⟨w.heap.size,0,none⟩))∧Below w.heap.size w w'∧w'.heap.size=w.heap.size+5∧∃ kv',@TRep ⟨fun b=>w.heap.size≤b⟩ w' w.heap.size (w.heap.size+1) (w.heap.size+1+1) (w.heap.size+1+1+1) N s kv':=by
 have mixed:Try.prog.follows .mixedOrders=true:=by kernel_rfl
 have c0:w.cell? ⟨sb,0,none⟩=some (.int .i64 s.events):=h.cell 0;have c1:w.cell? ⟨sb,1,none⟩=some (.int .i64 s.gor):=h.cell 1;have c2:w.cell? ⟨sb,2,none⟩=some (.map (some bc)):=h.cell 2;have c3:w.cell? ⟨sb,3,none⟩=some (.map (some bm)):=h.cell 3;have c4:w.cell? ⟨sb,4,none⟩=some (.map (some bd)):=h.cell 4;have c5:w.cell? ⟨sb,5,none⟩=some kv:=h.cell 5;have c6:w.cell? ⟨sb,6,none⟩=some (.int .i64 s.grp.obj):=h.cell 6;have c7:w.cell? ⟨sb,7,none⟩=some (.int .i64 s.grp.k):=h.cell 7;have c8:w.cell? ⟨sb,8,none⟩=some (.int .i64 s.grp.n):=h.cell 8;have c9:w.cell? ⟨sb,9,none⟩=some (.int .i64 s.grp.snd):=h.cell 9;have c10:w.cell? ⟨sb,10,none⟩=some (.int .i64 s.grp.rcv):=h.cell 10;obtain ⟨A,cap,rfl,hcap,hks⟩:=h.kinds;obtain ⟨es1,cl1,m1⟩:∃ es cl,w.heap[bc]? = some (.map es cl):=by obtain ⟨_,⟨es,cl,h1,_⟩,_⟩:=h.chans;exact ⟨es,cl,h1⟩
 obtain ⟨es2,cl2,m2⟩:∃ es cl,w.heap[bm]? = some (.map es cl):=by obtain ⟨_,⟨es,cl,h1,_⟩,_⟩:=h.mus;exact ⟨es,cl,h1⟩
 obtain ⟨es3,cl3,m3⟩:∃ es cl,w.heap[bd]? = some (.map es cl):=by obtain ⟨_,⟨es,cl,h1,_⟩,_⟩:=h.done;exact ⟨es,cl,h1⟩
 have l0:=h.lt;have l1:=h.chans.lt;have l2:=h.mus.lt;have l3:=h.done.lt
 go_enter Try.func23,Try.ntmps23
 go_wp2
 generalize hW:World.alloc w _=W;have sz:W.heap.size=w.heap.size+1:=by rw [←hW];simp
 have hCS:CS sb bc bm bd (.map es1 cl1) (.map es2 cl2) (.map es3 cl3) W:=by
  rw [←hW];exact CS.alloc ⟨⟨c2,c3,c4⟩,m1,m2,m3⟩ _
 have row0:=heap_alloc_new w (.cells #[.int .i64 s.events,.int .i64 s.gor,.map (some bc),.map (some bm),.map (some bd),.slice A s.grp.kinds.length cap,.int .i64 s.grp.obj,.int .i64 s.grp.k,.int .i64 s.grp.n,.int .i64 s.grp.snd,.int .i64 s.grp.rcv] 92);have hbel:Below w.heap.size w W:=by rw [←hW];exact (Below.refl w.heap.size w).alloc (Nat.le_refl _) _
 rw [hW] at row0;generalize hB:w.heap.size=B at *;clear hW;have ne0:sb≠B:=by omega
 have ne1:bc≠B:=by omega
 have ne2:bm≠B:=by omega
 have ne3:bd≠B:=by omega
 have q2:(((W.alloc (.map es1 cl1)).alloc (.map es2 cl2)).alloc (.map es3 cl3)).drew.cell? ⟨B,2,none⟩=some (.map (some bc)):=(cell_under sz (.map es1 cl1) (.map es2 cl2) (.map es3 cl3) 2).trans (cell_of_row _ _ _ _ _ _ row0);have q3:∀ u,((((W.setCell ⟨B,2,none⟩ u).alloc (.map es1 cl1)).alloc (.map es2 cl2)).alloc (.map es3 cl3)).drew.cell? ⟨B,3,none⟩=some (.map (some bm)):=fun u=>(cell_under (by simp [World.setCell,sz]) (.map es1 cl1) (.map es2 cl2) (.map es3 cl3) 3).trans ((World.cell?_setCell_other _ _ _ _ (by simp)).trans (cell_of_row _ _ _ _ _ _ row0))
 have q4:∀ u v,(((((W.setCell ⟨B,2,none⟩ u).setCell ⟨B,3,none⟩ v).alloc (.map es1 cl1)).alloc (.map es2 cl2)).alloc (.map es3 cl3)).drew.cell? ⟨B,4,none⟩=some (.map (some bd)):=fun u v=>(cell_under (by simp [World.setCell,sz]) (.map es1 cl1) (.map es2 cl2) (.map es3 cl3) 4).trans ((World.cell?_setCell_other _ _ _ _ (by simp)).trans ((World.cell?_setCell_other _ _ _ _ (by simp)).trans (cell_of_row _ _ _ _ _ _ row0)))
 have qf:∀ j,(((W.alloc (.map es1 cl1)).alloc (.map es2 cl2)).alloc (.map es3 cl3)).drew.frozen? ⟨B,j,none⟩=false:=fun j=>(frozen_under sz (.map es1 cl1) (.map es2 cl2) (.map es3 cl3) j).trans (frozen_of_row _ B j _ _ row0)
 have qf1:∀ u j,((((W.setCell ⟨B,2,none⟩ u).alloc (.map es1 cl1)).alloc (.map es2 cl2)).alloc (.map es3 cl3)).drew.frozen? ⟨B,j,none⟩=false:=fun u j=>(frozen_under (by simp [World.setCell,sz]) (.map es1 cl1) (.map es2 cl2) (.map es3 cl3) j).trans ((World.frozen?_setCell _ _ _ _).trans (frozen_of_row _ B j _ _ row0))
 have qf2:∀ u v j,(((((W.setCell ⟨B,2,none⟩ u).setCell ⟨B,3,none⟩ v).alloc (.map es1 cl1)).alloc (.map es2 cl2)).alloc (.map es3 cl3)).drew.frozen? ⟨B,j,none⟩=false:=fun u v j=>(frozen_under (by simp [World.setCell,sz]) (.map es1 cl1) (.map es2 cl2) (.map es3 cl3) j).trans ((World.frozen?_setCell _ _ _ _).trans ((World.frozen?_setCell _ _ _ _).trans (frozen_of_row _ B j _ _ row0)))
 have o1:W.drew.heap[bc]? = some (.map es1 cl1):=hCS.2.1;have o2:(W.drew.alloc (.map es1 cl1)).heap[bm]? = some (.map es2 cl2):=(hCS.drew.alloc _).2.2.1;have o3:((W.drew.alloc (.map es1 cl1)).alloc (.map es2 cl2)).heap[bd]? = some (.map es3 cl3):=((hCS.drew.alloc _).alloc _).2.2.2
 go_region_held3 (fun w'=>(w'.cell? ⟨sb,2,none⟩=some (.map (some bc))∧w'.cell? ⟨sb,3,none⟩=some (.map (some bm))∧w'.cell? ⟨sb,4,none⟩=some (.map (some bd)))∧w'.heap[bc]? = some (.map es1 cl1)∧w'.heap[bm]? = some (.map es2 cl2)∧w'.heap[bd]? = some (.map es3 cl3))
  (first | with_reducible exact hCS | with_reducible exact hCS.drew | with_reducible exact (hCS.alloc _).drew | with_reducible exact ((hCS.alloc _).alloc _).drew | with_reducible exact (((hCS.alloc _).alloc _).alloc _).drew | with_reducible exact ((((hCS.setCell _ ⟨ne0,ne1,ne2,ne3⟩).alloc _).alloc _).alloc _).drew | with_reducible exact (((((hCS.setCell _ ⟨ne0,ne1,ne2,ne3⟩).setCell _ ⟨ne0,ne1,ne2,ne3⟩).alloc _).alloc _).alloc _).drew | with_reducible exact ((((((hCS.setCell _ ⟨ne0,ne1,ne2,ne3⟩).setCell _ ⟨ne0,ne1,ne2,ne3⟩).setCell _ ⟨ne0,ne1,ne2,ne3⟩).alloc _).alloc _).alloc _).drew)
  (first | (go_at_call 69;refine (mclone_c (es:=es1) (clock:=cl1) (by simp [*])).mono ?_;rintro e w' ⟨rfl,rfl⟩) | (go_at_call 70;refine (mclone_m (es:=es2) (clock:=cl2) (by simp [*])).mono ?_;rintro e w' ⟨rfl,rfl⟩) | (go_at_call 71;refine (mclone_d (es:=es3) (clock:=cl3) (by simp [*])).mono ?_;rintro e w' ⟨rfl,rfl⟩))
 generalize hV:World.drew _=V;have vs:V.heap.size=B+4:=by rw [←hV];simp [World.setCell,sz]
 have vb:Below B w V:=by
  rw [←hV];have h1:=((hbel.setCell (p:=⟨B,2,none⟩) (Nat.le_refl B) (.map (some (B+1)))).setCell (p:=⟨B,3,none⟩) (Nat.le_refl B) (.map (some (B+1+1)))).setCell (p:=⟨B,4,none⟩) (Nat.le_refl B) (.map (some (B+1+1+1)));exact (((h1.alloc (by simp [World.setCell,sz]) _).alloc (by simp [World.setCell,sz];omega) _).alloc (by simp [World.setCell,sz];omega) _).drew
 have vr:V.heap[B]? = some (.cells #[.int .i64 s.events,.int .i64 s.gor,.map (some (B+1)),.map (some (B+1+1)),.map (some (B+1+1+1)),.slice A s.grp.kinds.length cap,.int .i64 s.grp.obj,.int .i64 s.grp.k,.int .i64 s.grp.n,.int .i64 s.grp.snd,.int .i64 s.grp.rcv] 92 (0,0)):=by
  rw [←hV,heap_drew,block_under (by simp [World.setCell,sz])];exact heap_setCell_same _ _ _ _ _ _ (heap_setCell_same _ _ _ _ _ _ (heap_setCell_same _ _ _ _ _ _ row0))
 have vm1:V.heap[B+1]? = some (.map es1 cl1):=by
  rw [←hV,heap_drew,Below.heap_alloc _ _ _ (by simp [World.setCell,sz]),Below.heap_alloc _ _ _ (by simp [World.setCell,sz])];have:=heap_alloc_new (((W.setCell ⟨B,2,none⟩ (.map (some (B+1)))).setCell ⟨B,3,none⟩ (.map (some (B+1+1)))).setCell ⟨B,4,none⟩ (.map (some (B+1+1+1)))) (.map es1 cl1);simp only [World.setCell] at this ⊢
  simpa [sz] using this
 have vm2:V.heap[B+1+1]? = some (.map es2 cl2):=by
  rw [←hV,heap_drew,Below.heap_alloc _ _ _ (by simp [World.setCell,sz])];have:=heap_alloc_new ((((W.setCell ⟨B,2,none⟩ (.map (some (B+1)))).setCell ⟨B,3,none⟩ (.map (some (B+1+1)))).setCell ⟨B,4,none⟩ (.map (some (B+1+1+1)))).alloc (.map es1 cl1)) (.map es2 cl2);simp only [World.setCell] at this ⊢
  simpa [sz] using this
 have vm3:V.heap[B+1+1+1]? = some (.map es3 cl3):=by
  rw [←hV,heap_drew];have:=heap_alloc_new (((((W.setCell ⟨B,2,none⟩ (.map (some (B+1)))).setCell ⟨B,3,none⟩ (.map (some (B+1+1)))).setCell ⟨B,4,none⟩ (.map (some (B+1+1+1)))).alloc (.map es1 cl1)).alloc (.map es2 cl2)) (.map es3 cl3);simp only [World.setCell] at this ⊢
  simpa [sz] using this
 clear hV;have v5:V.cell? ⟨sb,5,none⟩=some (.slice A s.grp.kinds.length cap):=by rw [vb.cell (p:=⟨sb,5,none⟩) l0];exact c5
 have vB5:V.cell? ⟨B,5,none⟩=some (.slice A s.grp.kinds.length cap):=cell_of_row _ _ _ _ _ _ vr;have vf5:V.frozen? ⟨B,5,none⟩=false:=frozen_of_row _ B 5 _ _ vr;have hinf:(Try.prog.info? 3).map (fun i=>(i.zero,i.size,i.bytes))=some (some (.int .i64 0),1,8):=by kernel_rfl
 obtain ⟨ti,hi,hti⟩:=Option.map_eq_some_iff.1 hinf;have hi1:ti.zero=some (.int .i64 0):=congrArg (·.1) hti;have hi2:ti.size=1:=congrArg (·.2.1) hti;have hi3:ti.bytes=8:=congrArg (·.2.2) hti;have hmk:=run_makeSlice (P:=Try.prog) V 72 3 ti (.int .i64 0) Try.underlying72 hi hi1 .i64 .i64 (s.grp.kinds.length:Int) (s.grp.kinds.length:Int) (by omega) (Int.le_refl _) (by rw [hi2];omega) (by rw [hi3];omega) (by omega)
 rw [vs,hi2,Nat.mul_one] at hmk;simp only [Int.toNat_natCast] at hmk;generalize hZ:madeCells _ _=Z at hmk;have hZs:Z.size=s.grp.kinds.length:=by rw [←hZ,size_madeCells]
 go_wp2
 generalize hU:World.alloc (World.setCell V _ _) _=U;have us:U.heap.size=B+5:=by rw [←hU];simp [World.setCell,vs]
 have ub:Below B w U:=by rw [←hU];exact (vb.setCell (p:=⟨B,5,none⟩) (Nat.le_refl B) _).alloc (by simp [World.setCell,vs]) _
 have uo:∀ k,k≠B→k < B+4→U.heap[k]? = V.heap[k]?:=fun k h1 h2=>by
  rw [←hU,Below.heap_alloc _ _ _ (by simp [World.setCell,vs];omega),heap_setCell_other _ _ _ _ (by simpa using h1)]
 have ur:U.heap[B]? = some (.cells #[.int .i64 s.events,.int .i64 s.gor,.map (some (B+1)),.map (some (B+1+1)),.map (some (B+1+1+1)),.slice (some ⟨B+4,0,none⟩) s.grp.kinds.length s.grp.kinds.length,.int .i64 s.grp.obj,.int .i64 s.grp.k,.int .i64 s.grp.n,.int .i64 s.grp.snd,.int .i64 s.grp.rcv] 92 (0,0)):=by
  rw [←hU,Below.heap_alloc _ _ _ (by simp [World.setCell,vs])];exact heap_setCell_same _ _ _ _ _ _ vr
 have uz:U.heap[B+4]? = some (.cells Z 3 (0,0)):=by
  rw [←hU];have:=heap_alloc_new (V.setCell ⟨B,5,none⟩ (.slice (some ⟨B+4,0,none⟩) s.grp.kinds.length s.grp.kinds.length)) (.cells Z 3);have hs:(V.setCell ⟨B,5,none⟩ (.slice (some ⟨B+4,0,none⟩) s.grp.kinds.length s.grp.kinds.length)).heap.size=B+4:=by simp [World.setCell,vs]
  rw [hs] at this;exact this
 clear hU;have u5:U.cell? ⟨B,5,none⟩=some (.slice (some ⟨B+4,0,none⟩) s.grp.kinds.length s.grp.kinds.length):=cell_of_row _ _ _ _ _ _ ur;have us5:U.cell? ⟨sb,5,none⟩=some (.slice A s.grp.kinds.length cap):=by rw [ub.cell (p:=⟨sb,5,none⟩) l0];exact c5
 obtain ⟨U2,hcp,k1,k2,k3,k4⟩:∃ U2,(∀ ty,(Builtin.copy_ #[72,72] ty #[.slice (some ⟨B+4,0,none⟩) s.grp.kinds.length s.grp.kinds.length,.slice A s.grp.kinds.length cap]).run Try.prog U.drew=.ok (goInt s.grp.kinds.length) U2)∧Below B w U2∧U2.heap.size=B+5∧(∀ k,k≠B+4→U2.heap[k]? = U.heap[k]?)∧∀ i x,s.grp.kinds[i]? = some x→U2.cell? ⟨B+4,0+i,none⟩=some (.int .i64 x):=by
  by_cases h0:s.grp.kinds.length=0
  ·refine ⟨U.drew,fun ty=>?_,ub.drew,us,fun k _=>rfl,fun i x hx=>?_⟩
   ·rw [h0];exact run_copy_none (P:=Try.prog) U.drew 72 72 ty 3 (some ⟨B+4,0,none⟩) A 0 0 0 cap Try.underlying72 (by kernel_rfl) (by simp)
   ·have:=(List.getElem?_eq_some_iff.1 hx).1;omega
  ·obtain ⟨b,o,rfl,hb,hcs⟩:=hks (by omega);have hblt:∀ j v,s.grp.kinds[j]? = some v→b < B:=fun j v hj=>by have:=World.block_lt_of_cell? w _ (hcs j v hj);rw [hB] at this;exact this
   have hl:(s.grp.kinds.map (Value.int .i64)).length=s.grp.kinds.length:=List.length_map ..
   have hzc:∀ j,j < Z.size→(U.drew.cell? ⟨B+4,0+j,none⟩).isSome=true:=fun j hj=>by
    have:U.drew.cell? ⟨B+4,0+j,none⟩=Z[j]?:=by rw [Nat.zero_add];exact cell_of_row U _ _ _ _ _ uz
    rw [this,Array.getElem?_eq_getElem hj];rfl
   refine ⟨U.drew.setCells (B+4) 0 (s.grp.kinds.map (Value.int .i64)),fun ty=>?_,below_setCells (by omega) _ _ ub.drew,by rw [size_setCells];exact us,fun k hk=>heap_setCells hk _ _,fun i x hx=>?_⟩
   ·have:=run_copy_cells (P:=Try.prog) U.drew 72 72 ty 3 (B+4) 0 s.grp.kinds.length s.grp.kinds.length ⟨b,o,none⟩ s.grp.kinds.length cap (s.grp.kinds.map (Value.int .i64)) Try.underlying72 (by kernel_rfl) (by rw [hl];simp) (fun j v hj=>?_) (fun j hj=>hzc j (by rw [hZs];omega)) (fun j hj=>?_) (fun v hv=>by obtain ⟨x,_,rfl⟩:=List.mem_map.1 hv;rfl)
    ·rw [hl] at this;exact this
    ·rw [List.getElem?_map,Option.map_eq_some_iff] at hj;obtain ⟨x,hx,rfl⟩:=hj;have:=(ub.cell (p:=⟨b,o+j,none⟩) (hblt j x hx)).trans (hcs j x hx)
     show U.cell? _=_
     by_cases hj0:j=0
     ·subst hj0;simpa [Addr.add] using this
     ·simpa [Addr.add,hj0] using this
    ·exact frozen_of_row U (B+4) (0+j) _ _ uz
   ·have hi:=(List.getElem?_eq_some_iff.1 hx).1;have:=World.cell?_setCells_in (B+4) (s.grp.kinds.map (Value.int .i64)) 0 U.drew (fun j hj=>hzc j (by rw [hZs];omega)) i (by omega)
    rw [this,List.getElem_map]
    congr 2
    exact (List.getElem?_eq_some_iff.1 hx).2
 go_region
 go_wp2
 go_ret
 have o:∀ k,k≠B→k < B+4→U2.heap[k]? = V.heap[k]?:=fun k h1 h2=>(k3 k (by omega)).trans (uo k h1 h2)
 rw [hB];refine ⟨rfl,k1,k2,_,@TRep.mk ⟨fun b=>B≤b⟩ _ _ _ _ _ _ _ _ ((k3 B (by omega)).trans ur) ?_ (h.chans.at_ ((o (B+1) (by omega) (by omega)).trans (vm1.trans m1.symm))) (h.mus.at_ ((o (B+1+1) (by omega) (by omega)).trans (vm2.trans m2.symm))) (h.done.at_ ((o (B+1+1+1) (by omega) (by omega)).trans (vm3.trans m3.symm))) (by omega) (by omega) (by omega)⟩;exact ⟨_,_,rfl,Nat.le_refl _,fun _=>⟨B+4,0,rfl,⟨by omega,by show B≤B+4;omega⟩,k4⟩⟩
end
end Go.Proofs.Ytffcpijeebagfaa
end
section
namespace Go.Proofs.Ytffcpijeebagfaa
open Go Go.RowKit
def Rc_clone (H H2:HP):Prop:=∃ (s:TS) (N:Nat),H=tsH s N∧s.wf∧H2=tsH s N
theorem sc_clone:SpecC Try.prog 23 Rc_clone:=by
 rintro H H2 ⟨s,N,rfl,hwf,rfl⟩ w v fp _ hr;obtain ⟨sb,bc,bm,bd,kv,rfl,hT,⟨f0,f1,f2,f3⟩,hlt⟩:=hr;refine (@clone_walk ⟨fp⟩ sb bc bm bd N s kv w hT hwf.kd).mono ?_;rintro e w' ⟨rfl,hb,hsz,kv',hT2⟩;have hT3:@TRep ⟨fun b=>w.heap.size≤b∧b < w'.heap.size⟩ w' w.heap.size (w.heap.size+1) (w.heap.size+1+1) (w.heap.size+1+1+1) N s kv':=TRep.kb hT2 (fun b h1 h2=>⟨h1,h2⟩);exact ⟨_,fun b=>w.heap.size≤b∧b < w'.heap.size,rfl,rfl,⟨w.heap.size,w.heap.size+1,w.heap.size+1+1,w.heap.size+1+1+1,kv',rfl,hT3,⟨⟨by omega,by omega⟩,⟨by omega,by omega⟩,⟨by omega,by omega⟩,⟨by omega,by omega⟩⟩,fun b h=>h.2⟩,hb,fun b h=>h.1⟩
end Go.Proofs.Ytffcpijeebagfaa
end
section
namespace Go.Proofs.Ytffcpijeebagfaa
open Go Go.RowKit
set_option maxRecDepth 100000
set_option maxHeartbeats 4000000
theorem map_rhp {W:Wit} {w:World} {hp:Nat→Hb} {b b2 k cl:Nat} {es:List (Value×Nat×Hw)} {es':Array MapEntry} (hrp:RHp W w hp) (hb:hp b=.map k es cl) (hb2:hp b2=.no) (h1:w.heap[W.nm b]? = some (.map es' cl)) (hst:MapKept.Stamped es' cl) (K:Maps.Keyed Try.prog k) (hr:REs W G0 O0 w k es es')
 {W':Wit} (hW':W'=W.lay b2 w.heap.size) :
 RHp W' (w.alloc (.map es' cl)) (up hp b2 (.map k es cl))∧(∀ m,W.lv m→W'.lv m∧W'.nm m=W.nm m∧W'.nv m=W.nv m)∧ButF (hpFp W hp) w (w.alloc (.map es' cl))∧(∀ k',hpFp W' (up hp b2 (.map k es cl)) k'→hpFp W hp k'∨w.heap.size≤k')∧(∀ k',k' < w.heap.size→W'.S k'=W.S k')∧RHw W' (w.alloc (.map es' cl)) (.one (.h (.m b2))) (.map (some w.heap.size)):=by
 have hnl:¬ W.lv b2:=fun q=>(hrp.lv b2).1 q hb2
 have hne:∀ m,W.lv m→m≠b2:=fun m hm e=>hnl (e ▸ hm)
 have hbe:Below w.heap.size w (w.alloc (.map es' cl)):=(Below.refl _ w).alloc (Nat.le_refl _) _;have hS:∀ k',k' < w.heap.size→W'.S k'=W.S k':=fun k' hk=>by rw [hW'];show up W.S _ 0 k'=_;rw [up_at,if_neg (by omega)]
 have hnm:∀ m,W.lv m→W'.lv m∧W'.nm m=W.nm m∧W'.nv m=W.nv m:=fun m hm=>by
  rw [hW'];exact ⟨.inr hm,by show up W.nm b2 _ m=_;rw [up_at,if_neg (hne m hm)],rfl⟩
 have hfol:Fol W G0 O0 w W' G0 O0 (w.alloc (.map es' cl)):=⟨
  but_ext (fp:=fun _=>False) ⟨hbe.os,hbe.tape,hbe.output,hbe.size,fun k hk _=>hbe.block k hk⟩ (fun _ q=>q.elim) hS,fun _=>Nat.le_refl _,fun _ _=>by rw [hW'];rfl,fun o E sz n' _ ho=>(by cases ho),fun _ _=>by rw [hW'];rfl,hnm,by rw [hW'];rfl⟩
 have enm:W'.nm b2=w.heap.size:=by rw [hW'];exact lay_nm
 have ehf:W'.hf=W.hf:=by rw [hW'];rfl
 have hnew:(w.alloc (.map es' cl)).heap[w.heap.size]? = some (.map es' cl):=(MapKept.heap_alloc w _).1;refine ⟨hrp.upd hfol (by simp) (fun m=>by rw [hW'];exact Iff.rfl) (fun m _=>by rw [ehf]) hS hbe.size (fun m hm k' hk=>hbe.block k' (hrp.mine m k' hk).2) ?_ (fun k' hk=>?_),hnm,⟨hbe.os,hbe.tape,hbe.output,hbe.size,fun k hk _=>hbe.block k hk⟩,fun k' ⟨m,hm⟩=>?_,hS,?_⟩
 ·exact ⟨K,es',by rw [enm];exact hnew,hst,hr.fol hfol⟩
 ·have hk':W'.nm b2=k':=hk;rw [enm] at hk';subst hk';refine ⟨by rw [hW'];show up W.S _ 0 _=_;rw [up_at,if_pos rfl],by simp,fun m hm hk2=>?_⟩
  have:=(hrp.mine m _ hk2).2;omega
 ·by_cases hmb:m=b2
  ·subst hmb;rw [up_at,if_pos rfl] at hm;have hk':W'.nm m=k':=hm;rw [enm] at hk';exact .inr (by omega)
  ·rw [up_at,if_neg hmb] at hm;exact .inl ⟨m,(hcl.fol hfol (fun hne=>(hrp.lv m).2 hne) (by rw [ehf]) k').1 hm⟩
 ·refine ⟨?_,rfl,?_⟩
  ·show _=Value.map (some (W'.nm b2));rw [enm]
  ·show W'.lv b2;rw [hW'];exact .inl rfl
theorem mclone_o {w:World} {b:Nat} {es:Array MapEntry} {clock:Nat} (hb:w.heap[b]? = some (.map es clock)) :
 Calls Try.prog 84 #[.map (some b)] w fun e w'=>e=.returned (.map (some w.heap.size))∧w'=w.alloc (.map es clock):=by
 have mixed:Try.prog.follows .mixedOrders=true:=by kernel_rfl
 have hq:=fun w=>run_eql_map_nil_sl (P:=Try.prog) w 109 _ _ (some b) Try.underlying109
 go_enter Try.func84,Try.ntmps84
 go_wp2
 rw [run_callFunc_extern Try.func103 (by kernel_rfl) (by kernel_rfl) (by kernel_rfl) (e:=Extern.MapsClone.clone) (by kernel_rfl),run_maps_clone_sl w 109 hb];simp only [Result.andThen];rw [Oper.upon_value]
 go_wp2
 rw [run_typeAssert_map_sl _ 109 _ _ _ _ Try.underlying109];simp only [Result.andThen];rw [Oper.upon_value]
 go_wp2
 go_ret
 exact ⟨rfl,rfl⟩
def R_mcl (hp:Nat→Hb) (az:List Hw) (hp':Nat→Hb) (rs:List Hw):Prop:=∃ b k es cl b2,az=[.one (.h (.m b))]∧hp b=.map k es cl∧hp b2=.no∧hp'=up hp b2 (.map k es cl)∧rs=[.one (.h (.m b2))]
theorem s_mcl [WInv]:SpecH Try.prog 84 R_mcl:=by
 rintro hp az hp' rs ⟨b,k,es,cl,b2,rfl,hb,hb2,rfl,rfl⟩ W w vals _ hrp hvals;have hat:=hrp.at_ b;rw [hb] at hat;obtain ⟨K,es',h1,hst,hr⟩:=hat
 have hva:vals=#[.map (some (W.nm b))]:=by
  obtain ⟨q1,q2⟩:=hvals;obtain ⟨v,rfl⟩:∃ v,vals=#[v]:=Array.size_eq_one_iff.1 (by simpa using q1.symm)
  have:=(q2 0 _ v rfl rfl).1;rw [this];rfl
 rw [hva];refine (mclone_o h1).mono ?_;rintro e w' ⟨rfl,rfl⟩;obtain ⟨r1,r2,r3,r4,r5,r6⟩:=map_rhp hrp hb hb2 h1 hst K hr (W':=W.lay b2 w.heap.size) rfl;exact ⟨_,_,rfl,r6,r1,r2,r3,r4,r5⟩
section
variable {hp hp':Nat→Hb} {b0:Nat} {D:Nat→Prop} {t:TabL}
theorem TabAt.ringPut (h:TabAt hp b0 D t) {o:Int} (hg:t.g o=none) {b1 b2:Nat} {l1 l2:List Ck} (hb1:¬ D b1) (hb2:¬ D b2) (hne:b1≠b2) (hll:l1.length=l2.length) (hm:0 < l1.length) (c1:∀ c ∈ l1,c.length=8) (c2:∀ c ∈ l2,c.length=8) :
 TabAt (up (up (up hp b1 (.cells (ckFlat l1))) b2 (.cells (ckFlat l2))) t.br (.map 3 (aput t.rs t.rcl (.int .i64 o) (rgW b1 b2 l1.length)) (t.rcl+1))) b0 (fun b=>D b∨b=b1∨b=b2)
  { t with rs:=aput t.rs t.rcl (.int .i64 o) (rgW b1 b2 l1.length),rcl:=t.rcl+1,g:=updG t.g o (b1,b2,l1,l2),tg:=up (up t.tg b1 (some (o,false))) b2 (some (o,true)) }:=by
 have nd:∀ b,D b→b≠b1∧b≠b2:=fun b hb=>⟨fun e=>hb1 (e ▸ hb),fun e=>hb2 (e ▸ hb)⟩
 have old:∀ b,D b→b≠t.br→up (up (up hp b1 (.cells (ckFlat l1))) b2 (.cells (ckFlat l2))) t.br (.map 3 (aput t.rs t.rcl (.int .i64 o) (rgW b1 b2 l1.length)) (t.rcl+1)) b=hp b:=fun b hb hn=>by
  rw [up_ne hn,up_ne (nd b hb).2,up_ne (nd b hb).1]
 have tgo:∀ b,D b→up (up t.tg b1 (some (o,false))) b2 (some (o,true)) b=t.tg b:=fun b hb=>by rw [up_ne (nd b hb).2,up_ne (nd b hb).1]
 have hla:alook t.rs (.int .i64 o)=none:=by have:=h.ra o;rw [hg] at this;exact this
 refine ⟨(old _ h.dd.1 h.n3).trans h.h0,(old _ h.dd.2.1 h.n5).trans h.hs,(old _ h.dd.2.2.1 h.n6).trans h.ho,up_eq,h.ck,⟨.inl h.dd.1,.inl h.dd.2.1,.inl h.dd.2.2.1,.inl h.dd.2.2.2⟩,(tgo _ h.dd.1).trans h.tg0,h.ow,h.oa,h.ok,?_,fun o'=>?_,fun e he=>?_⟩
 ·have:=h.rw.put (.int .i64 o) (rgW b1 b2 l1.length);unfold ckl at this;rw [hla] at this;exact this
 ·dsimp only [updG]
  by_cases he:o'=o
  ·rw [if_pos he];subst he;refine ⟨?_,⟨?_,?_,hll,hm,c1,c2,?_,?_,.inr (.inl rfl),.inr (.inr rfl)⟩⟩
   ·show ∃ n,alook (aput _ _ _ _) _=_
    rw [alook_put,hla];exact ⟨t.rcl,rfl⟩
   ·rw [up_ne (fun e:b1=t.br=>hb1 (e ▸ h.dd.2.2.2)),up_ne hne,up_eq]
   ·rw [up_ne (fun e:b2=t.br=>hb2 (e ▸ h.dd.2.2.2)),up_eq]
   ·show up (up t.tg b1 _) b2 _ b1=_;rw [up_ne hne,up_eq]
   ·exact up_eq
  ·rw [if_neg he];have:=h.ra o';have hne':Value.int .i64 o'≠.int .i64 o:=fun e=>he (by injection e)
   cases hf:t.g o' with
   | none=>rw [hf] at this;show alook (aput _ _ _ _) _=none;rw [alook_put_ne hne'];exact this
   | some p =>
     rw [hf] at this;obtain ⟨d1,d2,k1,k2⟩:=p;obtain ⟨⟨_,_,_,p4⟩,⟨_,_,_,p8⟩,_⟩:=h.rn hf;refine ⟨by show ∃ n,alook (aput _ _ _ _) _=_;rw [alook_put_ne hne'];exact this.1,this.2.mono (old _ this.2.d1 p4) (old _ this.2.d2 p8) (tgo _ this.2.d1) (tgo _ this.2.d2) (.inl this.2.d1) (.inl this.2.d2)⟩
 ·have hm:e.1 ∈ (aput t.rs t.rcl (.int .i64 o) (rgW b1 b2 l1.length)).map (·.1):=List.mem_map.2 ⟨e,he,rfl⟩;rw [aput_keys,hla] at hm
  rcases List.mem_append.1 hm with q | q
  ·obtain ⟨e',he',hee⟩:=List.mem_map.1 q;obtain ⟨a,hh⟩:=h.rk e' he';exact ⟨a,hee.symm.trans hh⟩
  ·exact ⟨o,List.mem_singleton.1 q⟩
end
def R_clnH (hp:Nat→Hb) (az:List Hw) (hp':Nat→Hb) (rs:List Hw):Prop:=∃ b H b2 H2,az=[.one (.h (.v b))]∧hp b=.ab H∧hp b2=.no∧Rc_clone H H2∧hp'=up hp b2 (.ab H2)∧rs=[.one (.h (.v b2))]
def env_cln:Env:=h1 23 R_clnH (h1 84 R_mcl e0)
theorem envOK_cln:EnvOK Try.prog env_cln:=.h1 sc_clone.toH (.h1 s_mcl .e0)
def ncC (N b:Nat):Nat:=if b < N then 1000 else if b < N+80 then b - N+1 else if (b - N) % 2=0 then 40 else 44
theorem ncC_old {N b:Nat} (h:b < N):ncC N b=1000:=if_pos h
theorem ncC_new {N d:Nat} (h:d < 80):ncC N (N+d)=d+1:=by unfold ncC;rw [if_neg (by omega),if_pos (by omega)];omega
theorem ncC_s {N j:Nat}:ncC N (N+(80+2 * j))=40:=by unfold ncC;rw [if_neg (by omega),if_neg (by omega),if_pos (by omega)]
theorem ncC_r {N j:Nat}:ncC N (N+(81+2 * j))=44:=by unfold ncC;rw [if_neg (by omega),if_neg (by omega),if_neg (by omega)]
theorem tabC_put {bs bo br bs' bo' br':Nat} {ck:List Ck} (h:Ck8 ck):hwrAt (hwrAt (hwrAt (tabC bs bo br ck) 0 [.h (.v bs')]) 65 [.h (.m bo')]) 66 [.h (.m br')]=tabC bs' bo' br' ck:=by
 have hl:(ckFlat ck).length=64:=by rw [ckFlat_length h.2,h.1]
 have e0:hwrAt (tabC bs bo br ck) 0 [.h (.v bs')]=(.h (.v bs') :: ckFlat ck) ++ [.h (.m bo),.h (.m br)]:=by
  show Hc.h (.v bs') :: hwrAt (ckFlat ck ++ [.h (.m bo),.h (.m br)]) 0 []=_
  rw [hwrAt_nil];rfl
 rw [e0];have l1:∀ v:Hc,(v :: ckFlat ck).length=65:=fun v=>by rw [List.length_cons,hl]
 have e1:hwrAt ((.h (.v bs') :: ckFlat ck) ++ [.h (.m bo),.h (.m br)]) 65 [.h (.m bo')]=(.h (.v bs') :: ckFlat ck) ++ [.h (.m bo'),.h (.m br)]:=by
  have:=hwrAt_skip (a:=(.h (.v bs') :: ckFlat ck)) (b:=[.h (.m bo),.h (.m br)]) (n:=0) (d:=[.h (.m bo')]);rw [l1] at this;rw [this];rfl
 rw [e1];have:=hwrAt_skip (a:=(.h (.v bs') :: ckFlat ck)) (b:=[.h (.m bo'),.h (.m br)]) (n:=1) (d:=[.h (.m br')]);rw [l1] at this;rw [this];rfl
theorem hwrAt_all {a d:List Hc} (h:a.length=d.length):hwrAt a 0 d=d:=by
 have:=hwrAt_head (b:=[]) h
 rwa [List.append_nil,List.append_nil] at this
theorem ring_copy {l:List Ck} (h:∀ c ∈ l,c.length=8):hwrAt (ckFlat (ring0 l.length)) 0 (((ckFlat l).drop 0).take (Nat.min l.length l.length * 8))=ckFlat l:=by
 have h1:(ckFlat l).length=l.length * 8:=ckFlat_length h
 have h2:(ckFlat (ring0 l.length)).length=l.length * 8:=by
  rw [ckFlat_length (fun c hc=>by rw [List.eq_of_mem_replicate hc];rfl)];unfold ring0;rw [List.length_replicate]
 have h3:Nat.min l.length l.length=l.length:=Nat.min_self _;rw [List.drop_zero,h3,List.take_of_length_le (by omega)];exact hwrAt_all (by omega)
theorem hcs_map (l:List Hc):allSome ((l.map Hc.cl).map Cl.hc)=some l:=by
 induction l with
 | nil=>rfl
 | cons c l ih =>
   have hc:(Hc.cl c).hc=some c:=by cases c <;> rfl
   rw [List.map_cons,List.map_cons,hc]
   show (allSome _).map _=_
   rw [ih];rfl
theorem hwrAt_length:∀ {cs:List Hc} {o:Nat} {d:List Hc},(hwrAt cs o d).length=cs.length
 | [],o,d=>by simp [hwrAt]
 | c :: cs,0,[]=>by simp [hwrAt]
 | c :: cs,0,d :: ds=>by simp only [hwrAt,List.length_cons,hwrAt_length]
 | c :: cs,k+1,[]=>by simp only [hwrAt,List.length_cons,hwrAt_length]
 | c :: cs,k+1,d :: ds=>by simp only [hwrAt,List.length_cons,hwrAt_length]
theorem halS_newL {env:Env} {K:St→Prop} {is:List PI} {s:St} {d:Option Nat} {c:Nat} {z:List Value} (m:Nat) (hm:z.length=m) (b:Nat) (h:s.lay c b) (k:∀ Z:List Hc,Z.length=m→evalOps env is (s.ap d (.b (.one (.hv (.p b 0)))) (.hw (HBS+c) [(b,.cells Z)])) K):halS env K is s d c (.new z) :=
 halS_new b h (k _ (by rw [List.length_map,hm]))
theorem up_twice {α:Type} {f:Nat→α} {a b:Nat} {x y x' y':α}:up (up (up (up f a x) b y) a x') b y'=up (up f a x') b y':=by
 funext c
 by_cases hb:c=b
 ·rw [hb,up_eq,up_eq]
 ·rw [up_ne hb,up_ne hb]
  by_cases ha:c=a
  ·rw [ha,up_eq,up_eq]
  ·rw [up_ne ha,up_ne hb,up_ne ha,up_ne ha]
noncomputable def seenO (rs:List (Value×Nat×Hw)) (seen:List Nat) (o:Int):Bool:=match alook rs (.int .i64 o) with
 | some r=>seen.contains r.1
 | none=>false
structure Half (hp:Nat→Hb) (N:Nat) (t:TabL) (seen:List Nat) (h:Nat→Hb):Prop where
 tab:∃ D2 t2,TabAt h (N+3) D2 t2∧(t2.bs=N+16∧t2.bo=N+22∧t2.br=N+24)∧(t2.st=t.st∧t2.sn=t.sn∧t2.ck=t.ck∧t2.es=t.es∧t2.f=t.f)∧t2.rs.length=seen.length ∧
  (∀ o,(t2.g o).map (·.2.2)=if seenO t.rs seen o=true then (t.g o).map (·.2.2) else none)∧(¬ D2 (N+30))∧∀ b,D2 b→N≤b∧b < N+(80+2 * seen.length)
 it:h (N+30)=.iter t.br t.rcl seen t.rcl
 old:∀ b,b < N→h b=hp b
 free:∀ b,N+(80+2 * seen.length)≤b→h b=.no
def Cloned (hp:Nat→Hb) (N:Nat) (t:TabL) (h:Nat→Hb) (r:List Hw):Prop:=∃ D2 t2 N2,r=[hP (N+3) 0]∧TabAt h (N+3) D2 t2∧(t2.p=t.p∧t2.st=t.st∧t2.sn=t.sn∧t2.es.length=t.es.length∧t2.rs.length=t.rs.length)∧Left hp (fun _=>False) N h D2 N2
def R_tcln (hp:Nat→Hb) (az:List Hw) (Post:(Nat→Hb)→List Hw→Prop):Prop:=∃ (b0 N:Nat) (D:Nat→Prop) (t:TabL),az=[hP b0 0]∧TabAt hp b0 D t∧(∀ b,D b→b < N)∧Free hp N∧(t.st.wf∧∀ o b1 b2 l1 l2,t.g o=some (b1,b2,l1,l2)→l1.length≤1000∧in64 o)∧Post=Cloned hp N t
theorem s_tcln:SpecP Try.prog 44 R_tcln:=by
 refine sqt44 envOK_cln ?_;rintro hp az Post ⟨b0,N,D,t,rfl,h,hD,hN,⟨hwf,hrl⟩,rfl⟩;obtain ⟨nc,hnc⟩:∃ nc,nc=ncC N:=⟨_,rfl⟩
 refine ⟨by simp,nc,?_⟩;have l0:=hD _ h.dd.1;have ls:=hD _ h.dd.2.1;have lo:=hD _ h.dd.2.2.1;have lr:=hD _ h.dd.2.2.2;have n3:nc (N+3)=4:=by rw [hnc];exact ncC_new (by decide)
 have n16:nc (N+16)=17:=by rw [hnc];exact ncC_new (by decide)
 have n22:nc (N+22)=23:=by rw [hnc];exact ncC_new (by decide)
 have n24:nc (N+24)=25:=by rw [hnc];exact ncC_new (by decide)
 have n30:nc (N+30)=31:=by rw [hnc];exact ncC_new (by decide)
 have nb:nc b0=1000:=by rw [hnc];exact ncC_old l0
 have ns:nc t.bs=1000:=by rw [hnc];exact ncC_old ls
 have no:nc t.bo=1000:=by rw [hnc];exact ncC_old lo
 have nr:nc t.br=1000:=by rw [hnc];exact ncC_old lr
 have h0:=h.h0;have hs:=h.hs;have ho:=h.ho;have hr:=h.hr;have t0:(tabC t.bs t.bo t.br t.ck)[0]? = some (.h (.v t.bs)):=tabC_0;have t65:(tabC t.bs t.bo t.br t.ck)[65]? = some (.h (.m t.bo)):=tabC_65 h.ck;have t66:(tabC t.bs t.bo t.br t.ck)[66]? = some (.h (.m t.br)):=tabC_66 h.ck;have tl:=tabC_len (bs:=t.bs) (bo:=t.bo) (br:=t.br) h.ck;have tput:=tabC_put (bs:=t.bs) (bo:=t.bo) (br:=t.br) (bs':=N+16) (bo':=N+22) (br':=N+24) h.ck;obtain ⟨T,hT⟩:∃ T,T=tabC t.bs t.bo t.br t.ck:=⟨_,rfl⟩
 rw [←hT] at h0 t0 t65 t66 tl tput;unfold pct44;refine pwp_start ?_;have tk:(T.map Hc.cl).take 67=T.map Hc.cl:=List.take_of_length_le (by rw [List.length_map,tl];exact Nat.le_refl _)
 have tlm:(T.map Hc.cl).length=67:=by rw [List.length_map,tl]
 simp only [↓evP,evB,stB,reduceIte,reduceCtorEq,seval,h0,tl,tk,tlm];have d3:b0≠N+3:=by omega
 refine halS_newL 67 rfl (N+3) (lay_of (by simp only [stB,reduceIte,reduceCtorEq,seval,n3]) (by (repeat' (first | exact AllHp.init | assumption | (refine AllHp.ap ?_ rfl)))) (by simp only [stB,reduceIte,reduceCtorEq,seval];exact hN.at_ 3)) (fun Z hZ=>?_)
 have hcm:=hcs_map T;have hzt:hwrAt Z 0 T=T:=hwrAt_all (by rw [hZ,tl]);simp only [↓evP,evB,stB,reduceIte,reduceCtorEq,seval,h0,n3,tl,tk,tlm,hcm,hZ,hzt,t0,d3];obtain ⟨hp1,hhp1⟩:∃ x,x=up (up hp (N+3) (.cells Z)) (N+3) (.cells T):=⟨_,rfl⟩
 have q1:∀ b,b≠N+3→hp1 b=hp b:=fun b hb=>by rw [hhp1,up_ne hb,up_ne hb]
 have q2:hp1 (N+3)=.cells T:=by rw [hhp1,up_eq]
 refine callHS_intro (up hp1 (N+16) (.ab (tsH t.st t.sn))) [.one (.h (.v (N+16)))] (by
  simp only [stB,reduceIte,reduceCtorEq,Nat.reduceEqDiff,Nat.reduceAdd,Nat.reduceMul,Nat.reduceLeDiff,Nat.reduceLT,Nat.reduceSub,Nat.reduceBEq,n3];rw [←hhp1];exact ⟨t.bs,tsH t.st t.sn,N+16,_,rfl,by rw [q1 _ (by omega)];exact hs,by rw [q1 _ (by omega)];exact hN.at_ 16,⟨t.st,t.sn,rfl,hwf,rfl⟩,rfl,rfl⟩) ?_
 have g1:=q1 b0 d3;have e3:N+3≠N+16:=by omega
 have e0:b0≠N+16:=by omega
 simp only [↓evP,evB,stB,reduceIte,reduceCtorEq,Nat.reduceEqDiff,Nat.reduceAdd,Nat.reduceMul,Nat.reduceLeDiff,Nat.reduceLT,Nat.reduceSub,Nat.reduceBEq,q2,g1,h0,e3,e0,d3,n3,tl,t65];obtain ⟨hp2,hhp2⟩:∃ x,x=up (up hp1 (N+16) (.ab (tsH t.st t.sn))) (N+3) (.cells (hwrAt T 0 [.h (.v (N+16))])):=⟨_,rfl⟩
 have q3:∀ b,b≠N+3→b≠N+16→hp2 b=hp b:=fun b hb hb2=>by rw [hhp2,up_ne hb,up_ne hb2,q1 b hb]
 have q4:hp2 (N+3)=.cells (hwrAt T 0 [.h (.v (N+16))]):=by rw [hhp2,up_eq]
 refine callHS_intro (up hp2 (N+22) (.map 117 t.es t.cl)) [.one (.h (.m (N+22)))] (by
  simp only [stB,reduceIte,reduceCtorEq,Nat.reduceEqDiff,Nat.reduceAdd,Nat.reduceMul,Nat.reduceLeDiff,Nat.reduceLT,Nat.reduceSub,Nat.reduceBEq,n3];rw [←hhp2];exact ⟨t.bo,_,t.es,t.cl,N+22,rfl,by rw [q3 _ (by omega) (by omega)];exact ho,by rw [q3 _ (by omega) (by omega)];exact hN.at_ 22,rfl,rfl⟩) ?_
 have g3:=q3 b0 d3 e0;have f3:N+3≠N+22:=by omega
 have f0:b0≠N+22:=by omega
 have lT0:(hwrAt T 0 [.h (.v (N+16))]).length=67:=by rw [hwrAt_length,tl]
 simp only [↓evP,evB,stB,reduceIte,reduceCtorEq,Nat.reduceEqDiff,Nat.reduceAdd,Nat.reduceMul,Nat.reduceLeDiff,Nat.reduceLT,Nat.reduceSub,Nat.reduceBEq,q4,g3,h0,f3,f0,d3,n3,lT0];obtain ⟨hp3,hhp3⟩:∃ x,x=up (up hp2 (N+22) (.map 117 t.es t.cl)) (N+3) (.cells (hwrAt (hwrAt T 0 [.h (.v (N+16))]) 65 [.h (.m (N+22))])):=⟨_,rfl⟩
 have q5:∀ b,b≠N+3→b≠N+16→b≠N+22→hp3 b=hp b:=fun b hb hb2 hb3=>by rw [hhp3,up_ne hb,up_ne hb3,q3 b hb hb2]
 have q6:hp3 (N+3)=.cells (hwrAt (hwrAt T 0 [.h (.v (N+16))]) 65 [.h (.m (N+22))]):=by rw [hhp3,up_eq]
 refine halS_map (N+24) (lay_of (by simp only [stB,reduceIte,reduceCtorEq,Nat.reduceEqDiff,Nat.reduceAdd,Nat.reduceMul,Nat.reduceLeDiff,Nat.reduceLT,Nat.reduceSub,Nat.reduceBEq,n24]) (by (repeat' (first | exact AllHp.init | assumption | (refine AllHp.ap ?_ rfl)))) (by simp only [stB,reduceIte,reduceCtorEq,Nat.reduceEqDiff,Nat.reduceAdd,Nat.reduceMul,Nat.reduceLeDiff,Nat.reduceLT,Nat.reduceSub,Nat.reduceBEq,n3,Nat.add_left_cancel_iff];rw [q3 _ (by omega) (by omega)];exact hN.at_ 24)) keyedInt ?_
 have lT1:(hwrAt (hwrAt T 0 [.h (.v (N+16))]) 65 [.h (.m (N+22))]).length=67:=by rw [hwrAt_length,lT0]
 have u21:¬ N=N+21:=by omega
 have u3:N+3≠N+24:=by omega
 have u0:b0≠N+24:=by omega
 have g5:=q5 b0 d3 e0 f0;simp only [↓evP,evB,stB,reduceIte,reduceCtorEq,Nat.reduceEqDiff,Nat.reduceAdd,Nat.reduceMul,Nat.reduceLeDiff,Nat.reduceLT,Nat.reduceSub,Nat.reduceBEq,n3,n24,u21,u0,u3,lT1,tput,g5,h0,d3,f0,e0,g3,g1,t66,f3];obtain ⟨hp4,hhp4⟩:∃ x,x=up (up hp3 (N+24) (.map 3 [] 0)) (N+3) (.cells (tabC (N+16) (N+22) (N+24) t.ck)):=⟨_,rfl⟩
 have dr3:t.br≠N+3:=by omega
 have dr16:t.br≠N+16:=by omega
 have dr22:t.br≠N+22:=by omega
 have dr24:t.br≠N+24:=by omega
 have w1:=q1 t.br dr3;have w2:=q3 t.br dr3 dr16
 refine halS_range (bm:=t.br) (t:=3) (clock:=t.rcl) (es:=t.rs) (N+30) (lay_of (by simp only [stB,reduceIte,reduceCtorEq,Nat.reduceEqDiff,Nat.reduceAdd,Nat.reduceMul,Nat.reduceLeDiff,Nat.reduceLT,Nat.reduceSub,Nat.reduceBEq,n30]) (by (repeat' (first | exact AllHp.init | assumption | (refine AllHp.ap ?_ rfl)))) (by simp only [stB,reduceIte,reduceCtorEq,Nat.reduceEqDiff,Nat.reduceAdd,Nat.reduceMul,Nat.reduceLeDiff,Nat.reduceLT,Nat.reduceSub,Nat.reduceBEq,n3,n24,Nat.add_left_cancel_iff];rw [q3 _ (by omega) (by omega)];exact hN.at_ 30)) (by simp only [stB,reduceIte,reduceCtorEq,Nat.reduceEqDiff,Nat.reduceAdd,Nat.reduceMul,Nat.reduceLeDiff,Nat.reduceLT,Nat.reduceSub,Nat.reduceBEq]) (by simp only [stB,reduceIte,reduceCtorEq,Nat.reduceEqDiff,Nat.reduceAdd,Nat.reduceMul,Nat.reduceLeDiff,Nat.reduceLT,Nat.reduceSub,Nat.reduceBEq,n3,n24,dr3,dr16,dr22,dr24,w1,w2,hr]) ?_
 simp only [↓evP,evB,stB,reduceIte,reduceCtorEq,Nat.reduceEqDiff,Nat.reduceAdd,Nat.reduceMul,Nat.reduceLeDiff,Nat.reduceLT,Nat.reduceSub,Nat.reduceBEq,n3,n24,n30];refine pwp_loopH mst44_0 ost44_0 (fun m st=>∃ seen:List Nat,m=t.rs.length - seen.length∧seen.Nodup∧(∀ n ∈ seen,n ∈ t.rs.map (·.2.1))∧Half hp N t seen st.hb) t.rs.length (by (repeat' (first | exact AllHp.init | assumption | (refine AllHp.ap ?_ rfl)))) ?_ ?_
 ·refine ⟨[],rfl,List.nodup_nil,fun n q=>(by cases q),?_⟩;have x3:N+3≠N+30:=by omega
  have x16:N+16≠N+30:=by omega
  have x22:N+22≠N+30:=by omega
  have x24:N+24≠N+30:=by omega
  obtain ⟨hp5,hhp5⟩:∃ x,x=up hp4 (N+30) (.iter t.br t.rcl [] t.rcl):=⟨_,rfl⟩
  have z3:hp5 (N+3)=.cells (tabC (N+16) (N+22) (N+24) t.ck):=by rw [hhp5,up_ne x3,hhp4,up_eq]
  have z24:hp5 (N+24)=.map 3 [] 0:=by rw [hhp5,up_ne x24,hhp4,up_ne (by omega),up_eq]
  have z22:hp5 (N+22)=.map 117 t.es t.cl:=by rw [hhp5,up_ne x22,hhp4,up_ne (by omega),up_ne (by omega),hhp3,up_ne (by omega),up_eq]
  have z16:hp5 (N+16)=.ab (tsH t.st t.sn):=by rw [hhp5,up_ne x16,hhp4,up_ne (by omega),up_ne (by omega),hhp3,up_ne (by omega),up_ne (by omega),hhp2,up_ne (by omega),up_eq]
  have zo:∀ b,b≠N+3→b≠N+16→b≠N+22→b≠N+24→b≠N+30→hp5 b=hp b:=fun b y1 y2 y3 y4 y5=>by rw [hhp5,up_ne y5,hhp4,up_ne y1,up_ne y4,q5 b y1 y2 y3]
  have hH5:Half hp N t [] hp5:=by
   refine ⟨⟨fun b=>b=N+3∨b=N+16∨b=N+22∨b=N+24,{ t with bs:=N+16,bo:=N+22,br:=N+24,rs:=[],rcl:=0,g:=fun _=>none,tg:=fun _=>none },?_,⟨rfl,rfl,rfl⟩,⟨rfl,rfl,rfl,rfl,rfl⟩,rfl,fun o=>?_,by omega,fun b hb=>by simp only [List.length_nil];omega⟩,by rw [hhp5,up_eq],fun b hb=>zo b (by omega) (by omega) (by omega) (by omega) (by omega),fun b hb=>?_⟩
   ·exact ⟨z3,z16,z22,z24,h.ck,⟨.inl rfl,.inr (.inl rfl),.inr (.inr (.inl rfl)),.inr (.inr (.inr rfl))⟩,rfl,h.ow,h.oa,h.ok,MapWf.nil _,fun _=>rfl,fun e he=>(by cases he)⟩
   ·have:seenO t.rs [] o=false:=by unfold seenO;cases alook t.rs (.int .i64 o) <;> rfl
    rw [this];rfl
   ·simp only [List.length_nil] at hb;rw [zo b (by omega) (by omega) (by omega) (by omega) (by omega)];exact hN b (by omega)
  simp only [stB,reduceIte,reduceCtorEq,Nat.reduceEqDiff,Nat.reduceAdd,Nat.reduceMul,Nat.reduceLeDiff,Nat.reduceLT,Nat.reduceSub,Nat.reduceBEq,n3,n24,n30];rw [←hhp3,←hhp4,←hhp5];exact hH5
 rintro m j hjn hja ⟨seen,rfl,hsn,hsub,hH⟩;simp only [stB,reduceIte,reduceCtorEq,Nat.reduceEqDiff,Nat.reduceAdd,Nat.reduceMul,Nat.reduceLeDiff,Nat.reduceLT,Nat.reduceSub,Nat.reduceBEq,hjn] at hH;obtain ⟨⟨D2,t2,hT2,⟨a1,a2,a3⟩,⟨a4,a5,a6,a7,a8⟩,a9,a10,a11,a12⟩,hit,hold,hfr⟩:=hH;have hbr:=hold t.br lr;rw [hr] at hbr;obtain ⟨hb,hhb⟩:∃ x,x=j.hb:=⟨_,rfl⟩
 rw [←hhb] at hit hold hfr hbr hT2;have hhb':=hhb.symm;simp only [↓evP,evB,stB,reduceIte,reduceCtorEq,Nat.reduceEqDiff,Nat.reduceAdd,Nat.reduceMul,Nat.reduceLeDiff,Nat.reduceLT,Nat.reduceSub,Nat.reduceBEq,n3,n24,n30];refine nextS_intro (r:=N+30) (b:=t.br) (since:=t.rcl) (c0:=t.rcl) (t:=3) (clock:=t.rcl) (seen:=seen) (es:=t.rs) (by simp only [stB,reduceIte,reduceCtorEq,Nat.reduceEqDiff,Nat.reduceAdd,Nat.reduceMul,Nat.reduceLeDiff,Nat.reduceLT,Nat.reduceSub,Nat.reduceBEq,hhb',hjn,hit]) (by simp only [stB,reduceIte,reduceCtorEq,Nat.reduceEqDiff,Nat.reduceAdd,Nat.reduceMul,Nat.reduceLeDiff,Nat.reduceLT,Nat.reduceSub,Nat.reduceBEq,hhb',hjn,hbr]) ⟨h.rw.lt,Nat.le_refl _,Nat.le_refl _⟩ ?_ ?_
 ·intro hall
  have hsl:seen.length=t.rs.length:=by
   have h1:=nodup_le h.rw.sn (l':=seen) (fun n hn=>by
    obtain ⟨e,he,rfl⟩:=List.mem_map.1 hn;have:=hall e he
    simpa using this)
   have h2:=nodup_le hsn (l':=t.rs.map (·.2.1)) hsub;rw [List.length_map] at h1 h2;omega
  have hg:∀ o,(t2.g o).map (·.2.2)=(t.g o).map (·.2.2):=fun o=>by
   rw [a10 o];split
   ·rfl
   ·rename_i hns
    cases hgo:t.g o with
    | none=>rfl
    | some v =>
      exfalso
      obtain ⟨b1,b2,l1,l2⟩:=v;obtain ⟨⟨n,ha⟩,_⟩:=h.ring hgo
      apply hns
      unfold seenO;rw [ha];exact hall _ (alook_mem ha)
  simp only [↓evP,evB,stB,reduceIte,reduceCtorEq,Nat.reduceEqDiff,Nat.reduceAdd,Nat.reduceMul,Nat.reduceLeDiff,Nat.reduceLT,Nat.reduceSub,Nat.reduceBEq,hhb',hjn,prt44];refine ⟨up hb (N+30) .dead,_,rfl,fun b=>?_,D2,t2,N+(80+2 * seen.length),rfl,hT2.new a11,⟨?_,a4,a5,by rw [a7],by rw [a9,hsl]⟩,?_⟩
  ·by_cases hbb:b=N+30
   ·rw [hbb,up_eq];exact .inr ⟨rfl,by rw [hit];simp⟩
   ·rw [up_ne hbb];exact .inl rfl
  ·unfold TabL.p;rw [a6,a8,funext hg]
  ·refine ⟨by omega,fun _ q=>q.elim,fun b q=>.inr (a12 b q).1,fun b _ q=>?_,fun b q=>?_,fun b q=>(a12 b q).2⟩
   ·rw [up_ne (by omega)];exact hold b q
   ·rw [up_ne (by omega)];exact hfr b q
 intro e he hns;obtain ⟨o,heo⟩:=h.rk e he;have ha:alook t.rs (.int .i64 o)=some e.2:=alook_of_mem h.rw.kn (by rw [←heo];exact he)
 obtain ⟨⟨b1,b2,l1,l2⟩,hgo⟩:∃ v,t.g o=some v:=by
  cases hgo:t.g o with
  | some v=>exact ⟨v,rfl⟩
  | none=>have:=h.ra o;rw [hgo] at this;rw [this] at ha;cases ha
 obtain ⟨⟨n,ha2⟩,hro⟩:=h.ring hgo;obtain ⟨hl1,hio⟩:=hrl _ _ _ _ _ hgo;have hkey:=keyOf_i hio;have he2:e.2.2=rgW b1 b2 l1.length:=by rw [ha2] at ha;rw [←Option.some.inj ha]
 have hv:valBv e.1=.one (.d (dI o)):=by rw [heo];rfl
 have hfind:=find_stamp h.rw.sn he;have hlast:(seen ++ [e.2.1]).getLast? = some e.2.1:=List.getLast?_concat;have hz:0≤(l1.length:Int)∧(l1.length:Int)≤1000000∧64≤1000000:=⟨by omega,by omega,by decide⟩;have m1:nc (N+(80+2 * seen.length))=40:=by rw [hnc];exact ncC_s
 have m2:nc (N+(81+2 * seen.length))=44:=by rw [hnc];exact ncC_r
 have dr30:t.br≠N+30:=by omega
 simp only [↓evP,evB,stB,reduceIte,reduceCtorEq,Nat.reduceEqDiff,Nat.reduceAdd,Nat.reduceMul,Nat.reduceLeDiff,Nat.reduceLT,Nat.reduceSub,Nat.reduceBEq,n3,n24,n30,hv,he2,hfind,hlast,hhb',hjn,hit,hbr,dr30,rgW,Hw.bv,Nat.add_zero];have f1:hb (N+(80+2 * seen.length))=.no:=hfr _ (by omega);have f2:hb (N+(81+2 * seen.length))=.no:=hfr _ (by omega);have ne1:N+(80+2 * seen.length)≠N+30:=by omega
 have ne2:N+(81+2 * seen.length)≠N+30:=by omega
 have ne3:N+(81+2 * seen.length)≠N+(80+2 * seen.length):=by omega
 have ne4:N+(80+2 * seen.length)≠N+(81+2 * seen.length):=by omega
 have ne5:N+3≠N+30:=by omega
 have ne6:N+3≠N+(80+2 * seen.length):=by omega
 have ne7:N+3≠N+(81+2 * seen.length):=by omega
 have ne8:N+24≠N+30:=by omega
 have ne9:N+24≠N+(80+2 * seen.length):=by omega
 have ne10:N+24≠N+(81+2 * seen.length):=by omega
 have hrr:=hT2.hr;rw [a3] at hrr;refine halD_mk (l1.length:Int) (N+(80+2 * seen.length)) (lay_of (by simp only [stB,reduceIte,reduceCtorEq,Nat.reduceEqDiff,Nat.reduceAdd,Nat.reduceMul,Nat.reduceLeDiff,Nat.reduceLT,Nat.reduceSub,Nat.reduceBEq,hjn,m1]) (by repeat' (first | exact overH_hp hja | (refine AllHp.ap ?_ rfl))) (by simp only [stB,reduceIte,reduceCtorEq,Nat.reduceEqDiff,Nat.reduceAdd,Nat.reduceMul,Nat.reduceLeDiff,Nat.reduceLT,Nat.reduceSub,Nat.reduceBEq,n30,hjn,hhb',ne1,f1])) (by simp only [stB,reduceIte,reduceCtorEq,Nat.reduceEqDiff,Nat.reduceAdd,Nat.reduceMul,Nat.reduceLeDiff,Nat.reduceLT,Nat.reduceSub,Nat.reduceBEq]) (by simp only [stB,reduceIte,reduceCtorEq,Nat.reduceEqDiff,Nat.reduceAdd,Nat.reduceMul,Nat.reduceLeDiff,Nat.reduceLT,Nat.reduceSub,Nat.reduceBEq]) hz ?_
 simp only [↓evP,evB,stB,reduceIte,reduceCtorEq,Nat.reduceEqDiff,Nat.reduceAdd,Nat.reduceMul,Nat.reduceLeDiff,Nat.reduceLT,Nat.reduceSub,Nat.reduceBEq,n30,hjn,hhb']
 refine halD_mk (l1.length:Int) (N+(81+2 * seen.length)) (lay_of (by simp only [stB,reduceIte,reduceCtorEq,Nat.reduceEqDiff,Nat.reduceAdd,Nat.reduceMul,Nat.reduceLeDiff,Nat.reduceLT,Nat.reduceSub,Nat.reduceBEq,hjn,m2]) (by repeat' (first | exact overH_hp hja | (refine AllHp.ap ?_ rfl))) (by simp only [stB,reduceIte,reduceCtorEq,Nat.reduceEqDiff,Nat.reduceAdd,Nat.reduceMul,Nat.reduceLeDiff,Nat.reduceLT,Nat.reduceSub,Nat.reduceBEq,n30,m1,hjn,hhb',ne2,ne3,f2])) (by simp only [stB,reduceIte,reduceCtorEq,Nat.reduceEqDiff,Nat.reduceAdd,Nat.reduceMul,Nat.reduceLeDiff,Nat.reduceLT,Nat.reduceSub,Nat.reduceBEq]) (by simp only [stB,reduceIte,reduceCtorEq,Nat.reduceEqDiff,Nat.reduceAdd,Nat.reduceMul,Nat.reduceLeDiff,Nat.reduceLT,Nat.reduceSub,Nat.reduceBEq]) hz ?_
 simp only [↓evP,evB,stB,reduceIte,reduceCtorEq,Nat.reduceEqDiff,Nat.reduceAdd,Nat.reduceMul,Nat.reduceLeDiff,Nat.reduceLT,Nat.reduceSub,Nat.reduceBEq,ring0_flat];refine ⟨(by unfold Drw;refine Eq.trans (b:=true) ?_ rfl;kernel_rfl),?_⟩
 have k1:=hro.e1;have k2:=hro.e2;have kd1:=hD _ hro.d1;have kd2:=hD _ hro.d2;have r1:=hold b1 kd1;have r2:=hold b2 kd2;rw [k1] at r1;rw [k2] at r2;have v1:b1≠N+(80+2 * seen.length):=by omega
 have v2:b1≠N+(81+2 * seen.length):=by omega
 have v3:b2≠N+(80+2 * seen.length):=by omega
 have v4:b2≠N+(81+2 * seen.length):=by omega
 have v5:b1≠N+30:=by omega
 have v6:b2≠N+30:=by omega
 have w0:(ckFlat (ring0 l1.length)).length=l1.length * 8:=by
  rw [ckFlat_length (fun c hc=>by rw [List.eq_of_mem_replicate hc];rfl)];unfold ring0;rw [List.length_replicate]
 have w3:(ckFlat l1).length=l1.length * 8:=ckFlat_length hro.c1;have w4:(ckFlat l2).length=l1.length * 8:=by rw [ckFlat_length hro.c2,hro.len]
 have w5:Nat.min l1.length l1.length=l1.length:=Nat.min_self _;have w6:=ring_copy hro.c1;have w7:=ring_copy hro.c2;rw [←hro.len,w5,List.drop_zero] at w7;rw [w5,List.drop_zero] at w6;have t23:=hT2.h0;have tb66:(tabC t2.bs t2.bo t2.br t2.ck)[66]? = some (.h (.m t2.br)):=tabC_66 hT2.ck;rw [a1,a2,a3] at tb66 t23;simp only [↓evP,evB,stB,reduceIte,reduceCtorEq,Nat.reduceEqDiff,Nat.reduceAdd,Nat.reduceMul,Nat.reduceLeDiff,Nat.reduceLT,Nat.reduceSub,Nat.reduceBEq,n30,hjn,hhb',m1,m2,ne1,ne2,ne3,v1,v2,v3,v4,v5,v6,r1,r2,w0,w3,w4,w5,w6,w7,Nat.zero_add,List.drop_zero,Nat.le_refl,ne4,ne5,ne6,ne7,ne8,ne9,ne10,hrr,t23,tb66,hkey];have hso:seenO t.rs seen o=false:=by unfold seenO;rw [ha];exact hns
 have hg2:t2.g o=none:=by
  have:=a10 o;rw [hso] at this
  cases hq:t2.g o with
  | none=>rfl
  | some v=>rw [hq] at this;cases this
 have hla2:alook t2.rs (.int .i64 o)=none:=by have:=hT2.ra o;rw [hg2] at this;exact this
 have n24':nc (N+24)=25:=n24
 have hlen:seen.length+1≤t.rs.length:=by
  have:=nodup_le (l:=e.2.1 :: seen) (l':=t.rs.map (·.2.1)) (List.nodup_cons.2 ⟨fun q=>by simp [q] at hns,hsn⟩) (fun n hn=>by
   rcases List.mem_cons.1 hn with q | q
   ·rw [q];exact List.mem_map.2 ⟨e,he,rfl⟩
   ·exact hsub n q)
  simpa using this
 have hnd:(seen ++ [e.2.1]).Nodup:=by
  rw [List.nodup_append];exact ⟨hsn,by simp,fun a ha b hb q=>by have:=List.mem_singleton.1 hb;subst this;subst q;simp [ha] at hns⟩
 have hsub2:∀ n ∈ seen ++ [e.2.1],n ∈ t.rs.map (·.2.1):=fun n hn=>by
  rcases List.mem_append.1 hn with q | q
  ·exact hsub n q
  ·rw [List.mem_singleton.1 q];exact List.mem_map.2 ⟨e,he,rfl⟩
 simp only [↓evP,evB,stB,reduceIte,reduceCtorEq,Nat.reduceEqDiff,Nat.reduceAdd,Nat.reduceMul,Nat.reduceLeDiff,Nat.reduceLT,Nat.reduceSub,Nat.reduceBEq,hla2,n24']
 refine ⟨t.rs.length - (seen ++ [e.2.1]).length,by rw [List.length_append,List.length_singleton];omega,(by repeat' (first | assumption | exact withinH_over hja | (refine withinH_ap ?_ rfl rfl) | (refine withinH_ap0 ?_ rfl) | (refine withinH_ap ?_ rfl withinH_hw))),seen ++ [e.2.1],rfl,hnd,hsub2,?_⟩
 simp only [stB,reduceIte,reduceCtorEq,Nat.reduceEqDiff,Nat.reduceAdd,Nat.reduceMul,Nat.reduceLeDiff,Nat.reduceLT,Nat.reduceSub,Nat.reduceBEq,n30,m1,m2,n24',hjn,hhb'];rw [up_twice];have hT3:=(hT2.new (x:=.iter t.br t.rcl (seen ++ [e.2.1]) t.rcl) a11).ringPut (o:=o) hg2 (b1:=N+(80+2 * seen.length)) (b2:=N+(81+2 * seen.length)) (l1:=l1) (l2:=l2) (fun q=>by have:=(a12 _ q).2;omega) (fun q=>by have:=(a12 _ q).2;omega) ne4 hro.len hro.pos hro.c1 hro.c2
 rw [a3] at hT3;have hlen2:(seen ++ [e.2.1]).length=seen.length+1:=by rw [List.length_append,List.length_singleton]
 refine ⟨⟨_,_,hT3,⟨a1,a2,by first | exact a3 | rfl⟩,⟨a4,a5,a6,a7,a8⟩,?_,fun o'=>?_,?_,?_⟩,?_,fun b hb'=>?_,fun b hb'=>?_⟩
 ·have:=congrArg List.length (aput_keys (es:=t2.rs) (n:=t2.rcl) (k:=.int .i64 o) (v:=rgW (N+(80+2 * seen.length)) (N+(81+2 * seen.length)) l1.length));rw [hla2] at this;simp only [List.length_map,List.length_append,List.length_singleton] at this;rw [hlen2];exact this.trans (congrArg (·+1) a9)
 ·show (updG t2.g o _ o').map _=_
  unfold updG
  by_cases hoo:o'=o
  ·have:seenO t.rs (seen ++ [e.2.1]) o'=true:=by unfold seenO;rw [hoo,ha];simp
   rw [if_pos hoo,this,hoo,hgo];rfl
  ·have:seenO t.rs (seen ++ [e.2.1]) o'=seenO t.rs seen o':=by
    unfold seenO
    cases hq:alook t.rs (.int .i64 o') with
    | none=>rfl
    | some r =>
      have hm:=alook_mem hq
      have hne:r.1≠e.2.1:=fun q=>by
       have f1:=find_stamp h.rw.sn hm;have f2:=find_stamp h.rw.sn he;dsimp only at f1;rw [q,f2] at f1;have:=congrArg Prod.fst (Option.some.inj f1);rw [heo] at this
       injection this with _ this
       exact hoo this.symm
      dsimp only;rw [Bool.eq_iff_iff];simp [hne]
   rw [if_neg hoo,this];exact a10 o'
 ·rintro (q | q | q)
  ·exact a11 q
  ·omega
  ·omega
 ·rintro b (q | q | q)
  ·have:=a12 b q;omega
  ·omega
  ·omega
 ·rw [up_ne (by omega),up_ne (by omega),up_ne (by omega),up_eq]
 ·rw [up_ne (by omega),up_ne (by omega),up_ne (by omega),up_ne (by omega)];exact hold b hb'
 ·rw [hlen2] at hb';rw [up_ne (by omega),up_ne (by omega),up_ne (by omega),up_ne (by omega)];exact hfr b (by omega)
end Go.Proofs.Ytffcpijeebagfaa
end
section
namespace Go.Proofs.Ytffcpijeebagfaa
open Go
def RCh.conv (c:RCh):Ch:=⟨c.n,c.sent,c.recv,c.closed⟩
def RLk.conv (c:RLk):Mu:=⟨c.locked,c.readers⟩
inductive RelG:List RWt→List Int→Int→Int→Prop
 | none (a b:Int):RelG [] [] a b
 | snd (g b:Int) (h:0≤g):RelG [⟨16,g,0⟩] [16] g b
 | rcv (a g:Int) (h:0≤g):RelG [⟨18,g,0⟩] [18] a g
 | wait (g:Int) (h:0≤g):RelG [⟨17, -1,g⟩,⟨18, -1,0⟩,⟨16,g,0⟩] [17,18,16] g (-1)
 | ask (g:Int) (h:0≤g):RelG [⟨15, -1,g⟩,⟨18,g,0⟩,⟨16, -1,0⟩] [15,18,16] (-1) g
 | both (a b:Int) (h:0≤a) (k:0≤b):RelG [⟨18,b,0⟩,⟨16,a,0⟩] [18,16] a b
def asks (l:List Int):Int:=if l.headD 0=15 then 1 else if l.headD 0=17 then -1 else 0
structure Rel (r:RSt) (t:TS):Prop where
 ct:r.count=t.events
 gr:r.gor=t.gor
 ch:∀ x,t.chans x=(r.chans.find? (fun c=>c.obj == x)).map RCh.conv
 lk:∀ x y,t.mus (x,y)=(r.locks.find? (fun c=>c.obj == x && c.off == y)).map RLk.conv
 dn:∀ x y,(t.done (x,y)).getD false=r.isDone x y
 gp:RelG r.next t.grp.kinds t.grp.snd t.grp.rcv
 go:r.next≠[]→t.grp.obj=r.obj∧t.grp.k=r.k∧t.grp.n=r.n∧(t.chans r.obj).isSome=true
 bal:∀ x c,t.chans x=some c→c.recv≤c.sent+(if x=r.obj then asks t.grp.kinds else 0)
 clen:(r.chans.length:Int)≤r.count
 cbd:∀ c,c ∈ r.chans→(0≤c.sent∧c.sent≤r.count)∧(0≤c.recv∧c.recv≤r.count)
 llen:(r.locks.length:Int)≤r.count
 lbd:∀ c,c ∈ r.locks→0≤c.readers∧c.readers≤r.count
 dlen:(r.done.length:Int)≤r.count
theorem Rel.new:Rel RSt.new TS.new :=
 ⟨rfl,rfl,fun _=>rfl,fun _ _=>rfl,fun _ _=>rfl,.none _ _,fun h=>absurd rfl h,(fun _ _ h=>by cases h),(by decide),(fun _ h=>by cases h),(by decide),(fun _ h=>by cases h),(by decide)⟩
theorem RelG.len {l:List RWt} {k:List Int} {a b:Int} (h:RelG l k a b):l.length≤3:=by cases h <;> simp
theorem RelG.kinds {l:List RWt} {k:List Int} {a b:Int} (h:RelG l k a b):k=l.map (·.kind):=by cases h <;> rfl
theorem Rel.ok {r:RSt} {t:TS} (h:Rel r t) (hw:t.wf):r.ok:=by
 have h1:=hw.ev;have h2:=hw.gr;have h3:=h.gp.len;have h4:=h.ct;have h5:=h.gr;have h6:=h.clen;have h7:=h.llen;have h8:=h.dlen;refine ⟨by omega,by omega,⟨by omega,fun c hc=>?_⟩,⟨by omega,fun c hc=>?_⟩,by omega,by omega⟩
 ·have:=h.cbd c hc;omega
 ·have:=h.lbd c hc;omega
theorem find_set {α:Type} (l:List α) (p q:α→Bool) (c:α) (hc:p c=true→∀ d,d ∈ l→p d=true→q d=false) (hn:p c=false→∀ d,d ∈ l→p d=true→q d=true) :
 (l.filter q ++ [c]).find? p=if p c=true then some c else l.find? p:=by
 rw [List.find?_append]
 cases hp:p c with
 | true =>
   have h1:(l.filter q).find? p=none:=by
    rw [List.find?_eq_none];intro x hx h2;obtain ⟨h3,h4⟩:=List.mem_filter.1 hx;rw [hc hp x h3 h2] at h4;cases h4
   simp [h1,hp]
 | false =>
   have h1:(l.filter q).find? p=l.find? p:=by
    have hn':=hn hp;clear hn hc
    induction l with
    | nil=>rfl
    | cons a l ih =>
      have ih':=ih (fun d hd=>hn' d (List.mem_cons_of_mem _ hd));rw [List.filter_cons,List.find?_cons]
      cases hpa:p a with
      | true=>rw [if_pos (hn' a List.mem_cons_self hpa),List.find?_cons,hpa]
      | false =>
        cases hq:q a with
        | true=>rw [if_pos rfl,List.find?_cons,hpa];exact ih'
        | false=>rw [if_neg (by decide)];exact ih'
   simp [h1,hp]
theorem find_setChannel (r:RSt) (c:RCh) (x:Int):(r.setChannel c).chans.find? (fun d=>d.obj == x)=if c.obj=x then some c else r.chans.find? (fun d=>d.obj == x):=by
 have:=find_set r.chans (fun d=>d.obj == x) (fun d=>d.obj != c.obj) c (fun h d _ h2=>by simp at h h2 ⊢;rw [h,h2]) (fun h d _ h2=>by simp at h h2 ⊢;rw [h2];exact fun h3=>h h3.symm)
 simpa [RSt.setChannel] using this
theorem find_setLock (r:RSt) (c:RLk) (x y:Int):(r.setLock c).locks.find? (fun d=>d.obj == x && d.off == y)=if c.obj=x∧c.off=y then some c else r.locks.find? (fun d=>d.obj == x && d.off == y):=by
 have:=find_set r.locks (fun d=>d.obj == x && d.off == y) (fun d=>d.obj != c.obj || d.off != c.off) c
  (fun h d _ h2=>by simp at h h2 ⊢;rw [h.1,h.2,h2.1,h2.2];exact ⟨rfl,rfl⟩)
  (fun h d _ h2=>by simp at h h2 ⊢;rw [h2.1,h2.2];by_cases h3:c.obj=x
                    ·right;exact fun h4=>h h3 h4.symm
                    ·left;exact fun h4=>h3 h4.symm)
 simpa [RSt.setLock] using this
theorem Rel.channel {r:RSt} {t:TS} (h:Rel r t) (e:Ev):(r.channel e.obj e.n).conv=t.chan e∧(r.channel e.obj e.n).obj=e.obj:=by
 unfold RSt.channel TS.chan;rw [h.ch]
 cases hf:r.chans.find? (fun c=>c.obj == e.obj) with
 | none=>exact ⟨rfl,rfl⟩
 | some c=>exact ⟨rfl,by have:=List.find?_some hf;simpa using this⟩
theorem Rel.lock {r:RSt} {t:TS} (h:Rel r t) (e:Ev):(r.lock e.obj e.off).conv=t.mu e∧(r.lock e.obj e.off).obj=e.obj∧(r.lock e.obj e.off).off=e.off:=by
 unfold RSt.lock TS.mu;rw [h.lk]
 cases hf:r.locks.find? (fun c=>c.obj == e.obj && c.off == e.off) with
 | none=>exact ⟨rfl,rfl,rfl⟩
 | some c=>exact ⟨rfl,by have:=List.find?_some hf;simp at this;exact this.1,by have:=List.find?_some hf;simp at this;exact this.2⟩
theorem Rel.channel_bd {r:RSt} {t:TS} (h:Rel r t) (hc:0≤r.count) (obj n:Int):(0≤(r.channel obj n).sent∧(r.channel obj n).sent≤r.count)∧(0≤(r.channel obj n).recv∧(r.channel obj n).recv≤r.count):=by
 unfold RSt.channel
 cases hf:r.chans.find? (fun c=>c.obj == obj) with
 | none=>simp [hc]
 | some c=>exact h.cbd c (List.mem_of_find?_eq_some hf)
theorem Rel.lock_bd {r:RSt} {t:TS} (h:Rel r t) (hc:0≤r.count) (obj off:Int):0≤(r.lock obj off).readers∧(r.lock obj off).readers≤r.count:=by
 unfold RSt.lock
 cases hf:r.locks.find? (fun c=>c.obj == obj && c.off == off) with
 | none=>simp [hc]
 | some c=>exact h.lbd c (List.mem_of_find?_eq_some hf)
theorem RelG.nil_asks {l:List RWt} {k:List Int} {a b:Int} (h:RelG l k a b) (hl:l=[]):asks k=0:=by subst hl;cases h;rfl
theorem Rel.put {r:RSt} {t:TS} (h:Rel r t) (c:RCh) (hs:0≤c.sent∧c.sent≤r.count+1) (hr:0≤c.recv∧c.recv≤r.count+1) (nx:List RWt) (ob kk nn:Int) (o:Grp) (hg:RelG nx o.kinds o.snd o.rcv)
 (ho:nx≠[]→o.obj=ob∧o.k=kk∧o.n=nn∧ob=c.obj) (hb:c.recv≤c.sent+asks o.kinds) (hold:∀ x d,x≠c.obj→t.chans x=some d→d.recv≤d.sent) :
 Rel { r.setChannel c with next:=nx,obj:=ob,k:=kk,n:=nn,count:=r.count+1 } { t with chans:=upd t.chans c.obj c.conv,grp:=o,events:=t.events+1 }:=by
 refine ⟨by simp only [h.ct],h.gr,fun x=>?_,h.lk,h.dn,hg,fun hne=>?_,fun x d hd=>?_,?_,fun d hd=>?_,?_,fun d hd=>?_,?_⟩
 ·have h1:=find_setChannel r c x;dsimp only;rw [h1]
  by_cases hx:c.obj=x
  ·subst hx;rw [upd_same,if_pos rfl];rfl
  ·rw [upd_other _ _ (fun h2=>hx h2.symm),if_neg hx,h.ch]
 ·obtain ⟨h1,h2,h3,h4⟩:=ho hne;exact ⟨h1,h2,h3,by dsimp only;rw [h4,upd_same];rfl⟩
 ·dsimp only at hd ⊢
  by_cases hx:x=c.obj
  ·subst hx;rw [upd_same] at hd;cases hd
   by_cases hn:nx=[]
   ·rw [hg.nil_asks hn] at hb ⊢
    show c.recv≤c.sent+_
    split <;> omega
   ·rw [if_pos (ho hn).2.2.2.symm];exact hb
  ·rw [upd_other _ _ hx] at hd;have:=hold x d hx hd
   by_cases hn:nx=[]
   ·rw [hg.nil_asks hn];split <;> omega
   ·rw [if_neg (fun h2=>hx (h2.trans (ho hn).2.2.2))];omega
 ·have h1:=List.length_filter_le (fun d:RCh=>d.obj != c.obj) r.chans;have h2:=h.clen;simp only [RSt.setChannel,List.length_append,List.length_cons,List.length_nil];omega
 ·simp only [RSt.setChannel,List.mem_append,List.mem_filter,List.mem_singleton] at hd
  rcases hd with ⟨hd,_⟩ | rfl
  ·have:=h.cbd d hd;dsimp only;omega
  ·dsimp only;omega
 ·have:=h.llen;dsimp only [RSt.setChannel];omega
 ·have:=h.lbd d hd;dsimp only [RSt.setChannel];omega
 ·have:=h.dlen;dsimp only [RSt.setChannel];omega
theorem Rel.keep {r:RSt} {t:TS} (h:Rel r t) (nx:List RWt) (o:Grp) (hg:RelG nx o.kinds o.snd o.rcv) (ho:nx≠[]→o.obj=r.obj∧o.k=r.k∧o.n=r.n∧(t.chans r.obj).isSome=true) (ha:asks o.kinds=asks t.grp.kinds) :
 Rel { r with next:=nx,count:=r.count+1 } { t with grp:=o,events:=t.events+1 }:=by
 refine ⟨by simp only [h.ct],h.gr,h.ch,h.lk,h.dn,hg,ho,fun x d hd=>?_,?_,fun d hd=>?_,?_,fun d hd=>?_,?_⟩
 ·dsimp only;rw [ha];exact h.bal x d hd
 ·have:=h.clen;dsimp only;omega
 ·have:=h.cbd d hd;dsimp only;omega
 ·have:=h.llen;dsimp only;omega
 ·have:=h.lbd d hd;dsimp only;omega
 ·have:=h.dlen;dsimp only;omega
theorem Rel.putLock {r:RSt} {t:TS} (h:Rel r t) (c:RLk) (hr:0≤c.readers∧c.readers≤r.count+1) :
 Rel { r.setLock c with count:=r.count+1 } { t with mus:=upd t.mus (c.obj,c.off) c.conv,events:=t.events+1 }:=by
 refine ⟨by simp only [h.ct],h.gr,h.ch,fun x y=>?_,h.dn,h.gp,h.go,h.bal,?_,fun d hd=>?_,?_,fun d hd=>?_,?_⟩
 ·have h1:=find_setLock r c x y;dsimp only;rw [h1]
  by_cases hx:c.obj=x∧c.off=y
  ·obtain ⟨rfl,rfl⟩:=hx;rw [upd_same,if_pos ⟨rfl,rfl⟩];rfl
  ·rw [upd_other _ _ (fun h2=>hx (by cases h2;exact ⟨rfl,rfl⟩)),if_neg hx,h.lk]
 ·have:=h.clen;dsimp only [RSt.setLock];omega
 ·have:=h.cbd d hd;dsimp only [RSt.setLock];omega
 ·have h1:=List.length_filter_le (fun d:RLk=>d.obj != c.obj || d.off != c.off) r.locks;have h2:=h.llen;simp only [RSt.setLock,List.length_append,List.length_cons,List.length_nil];omega
 ·simp only [RSt.setLock,List.mem_append,List.mem_filter,List.mem_singleton] at hd
  rcases hd with ⟨hd,_⟩ | rfl
  ·have:=h.lbd d hd;dsimp only;omega
  ·dsimp only;omega
 ·have:=h.dlen;dsimp only [RSt.setLock];omega
def Ans (p:RSt×Bool) (o:Option TS):Prop:=match o with
 | some t'=>p.2=true∧Rel { p.1 with count:=p.1.count+1 } { t' with events:=t'.events+1 }
 | none=>p.2=false
theorem Rel.other {r:RSt} {t:TS} (h:Rel r t) (hc:0≤r.count) (e:Ev) (hn:r.next=[]):Ans (r.otherR e) (t.simple e):=by
 obtain ⟨hm,ho,hf⟩:=h.lock e;have hb:=h.lock_bd hc e.obj e.off;have hd:=h.dn e.obj e.off;unfold RSt.otherR TS.simple;rw [←hm,hd];clear hm;generalize r.lock e.obj e.off=m at ho hf hb ⊢;obtain ⟨mo,mf,ml,mr⟩:=m;dsimp only [RLk.conv] at ho hf hb ⊢;subst ho;subst hf
 have same:Rel { r with count:=r.count+1 } { t with events:=t.events+1 }:=Rel.keep h r.next t.grp h.gp h.go rfl
 by_cases k6:e.kind=6
 ·rw [if_pos k6,if_pos k6]
  by_cases hl:ml=true∨0 < mr
  ·rw [if_pos hl]
   show (!ml && mr == 0)=false
   rcases hl with rfl | hl
   ·rfl
   ·rw [beq_eq_false_iff_ne.2 (by omega),Bool.and_false]
  ·rw [if_neg hl];have h1:ml=false:=by cases ml <;> simp at hl ⊢
   have h2:mr=0:=by omega
   subst h1;subst h2;exact ⟨rfl,Rel.putLock h ⟨e.obj,e.off,true,0⟩ ⟨by dsimp only;omega,by dsimp only;omega⟩⟩
 rw [if_neg k6,if_neg k6]
 by_cases k7:e.kind=7
 ·rw [if_pos k7,if_pos k7]
  cases ml with
  | false=>rw [if_pos rfl];rfl
  | true=>rw [if_neg (by decide)];exact ⟨rfl,Rel.putLock h ⟨e.obj,e.off,false,mr⟩ ⟨hb.1,by dsimp only;omega⟩⟩
 rw [if_neg k7,if_neg k7]
 by_cases k8:e.kind=8
 ·rw [if_pos k8,if_pos k8]
  cases ml with
  | true=>rw [if_pos rfl];rfl
  | false=>rw [if_neg (by decide)];exact ⟨rfl,Rel.putLock h ⟨e.obj,e.off,false,mr+1⟩ ⟨by dsimp only;omega,by dsimp only;omega⟩⟩
 rw [if_neg k8,if_neg k8]
 by_cases k9:e.kind=9
 ·rw [if_pos k9,if_pos k9]
  by_cases hl:mr=0
  ·rw [if_pos hl];subst hl;rfl
  ·rw [if_neg hl];exact ⟨decide_eq_true (show 0≤mr - 1 by omega),Rel.putLock h ⟨e.obj,e.off,ml,mr - 1⟩ ⟨by dsimp only;omega,by dsimp only;omega⟩⟩
 rw [if_neg k9,if_neg k9]
 by_cases k12:e.kind=12
 ·rw [if_pos k12,if_pos k12]
  cases hdo:r.isDone e.obj e.off with
  | true=>rw [if_pos rfl];rfl
  | false =>
    rw [if_neg (by decide)];refine ⟨rfl,by simp only [h.ct],h.gr,h.ch,h.lk,fun x y=>?_,h.gp,h.go,h.bal,?_,fun d hd=>?_,?_,fun d hd=>?_,?_⟩
    ·unfold RSt.isDone;dsimp only;rw [List.any_append]
     by_cases hx:(x,y)=(e.obj,e.off)
     ·cases hx;rw [upd_same];simp
     ·rw [upd_other _ _ hx,h.dn]
      have:((e.obj == x) && (e.off == y))=false:=by
       rw [Bool.eq_false_iff];intro h2;simp only [Bool.and_eq_true,beq_iff_eq] at h2;exact hx (by rw [h2.1,h2.2])
      unfold RSt.isDone;simp [this]
    ·have:=h.clen;dsimp only;omega
    ·have:=h.cbd d hd;dsimp only;omega
    ·have:=h.llen;dsimp only;omega
    ·have:=h.lbd d hd;dsimp only;omega
    ·have:=h.dlen;simp only [List.length_append,List.length_cons,List.length_nil];omega
 rw [if_neg k12,if_neg k12]
 by_cases k13:e.kind=13
 ·rw [if_pos k13,if_pos k13]
  cases hdo:r.isDone e.obj e.off with
  | true=>rw [if_pos rfl];exact ⟨rfl,same⟩
  | false=>rw [if_neg (by decide)];rfl
 rw [if_neg k13,if_neg k13]
 by_cases k14:e.kind=14
 ·rw [if_pos k14,if_pos k14,h.gr]
  by_cases hk:e.k=t.gor
  ·rw [if_neg (fun h=>h hk)];refine ⟨beq_iff_eq.2 hk,by simp only [h.ct],?_,h.ch,h.lk,h.dn,h.gp,h.go,h.bal,?_,fun d hd=>?_,?_,fun d hd=>?_,?_⟩
   ·rfl
   ·have:=h.clen;dsimp only;omega
   ·have:=h.cbd d hd;dsimp only;omega
   ·have:=h.llen;dsimp only;omega
   ·have:=h.lbd d hd;dsimp only;omega
   ·have:=h.dlen;dsimp only;omega
  ·rw [if_pos hk];exact beq_eq_false_iff_ne.2 hk
 rw [if_neg k14,if_neg k14];exact ⟨rfl,same⟩
theorem fits_eq {r:RSt} {o:Grp} {w:RWt} {l:List RWt} {e:Ev} (hg:RelG (w :: l) o.kinds o.snd o.rcv) (h1:o.obj=r.obj) (h2:o.k=r.k) (h3:o.n=r.n):r.fits w e=o.fits e:=by
 obtain ⟨kinds,ob,k,n,snd,rcv⟩:=o;dsimp only at hg h1 h2 h3;subst h1;subst h2;subst h3;rw [Bool.eq_iff_iff];unfold RSt.fits Grp.fits Grp.own Grp.other sendsB;cases hg <;> (by_cases hk:e.kind=15∨e.kind=16) <;> simp [hk] <;> omega
theorem RelG.inv {w:RWt} {l:List RWt} {k:List Int} {a b:Int} (h:RelG (w :: l) k a b) :
 (w=⟨16,a,0⟩∧l=[]∧k=[16]∧0≤a)∨(w=⟨18,b,0⟩∧l=[]∧k=[18]∧0≤b)∨(w=⟨17, -1,a⟩∧l=[⟨18, -1,0⟩,⟨16,a,0⟩]∧k=[17,18,16]∧0≤a) ∨
 (w=⟨15, -1,b⟩∧l=[⟨18,b,0⟩,⟨16, -1,0⟩]∧k=[15,18,16]∧0≤b)∨(w=⟨18,b,0⟩∧l=[⟨16,a,0⟩]∧k=[18,16]∧0≤a∧0≤b):=by
 cases h with
 | snd g b h=>exact .inl ⟨rfl,rfl,rfl,h⟩
 | rcv a g h=>exact .inr (.inl ⟨rfl,rfl,rfl,h⟩)
 | wait g h=>exact .inr (.inr (.inl ⟨rfl,rfl,rfl,h⟩))
 | ask g h=>exact .inr (.inr (.inr (.inl ⟨rfl,rfl,rfl,h⟩)))
 | both a b h k=>exact .inr (.inr (.inr (.inr ⟨rfl,rfl,rfl,h,k⟩)))
theorem upd_id {κ:Type} [DecidableEq κ] {α:Type} {f:κ→Option α} {x:κ} {v:α} (h:f x=some v):upd f x v=f:=by
 funext y
 by_cases hy:y=x
 ·subst hy;rw [upd_same,h]
 ·rw [upd_other _ _ hy]
theorem TS.count_id {t:TS} {e:Ev} {c:Ch} (h:t.chans e.obj=some c) (h5:e.kind≠15) (h7:e.kind≠17):t.count e=t:=by
 unfold TS.count Ch.count;rw [h,Option.getD_some,if_neg h5,if_neg h7,upd_id h]
theorem Rel.group {r:RSt} {t:TS} (h:Rel r t) (e:Ev) (hv:0≤e.g) (hc:0≤r.count) (hn:r.next≠[]):Ans (r.groupR e) (t.proceed e):=by
 obtain ⟨h1,h2,h3,h4⟩:=h.go hn;obtain ⟨c,hc4⟩:=Option.isSome_iff_exists.1 h4;have hgp:=h.gp;unfold RSt.groupR TS.proceed
 cases hnx:r.next with
 | nil=>exact absurd hnx hn
 | cons w l =>
   rw [hnx] at hgp;dsimp only;rw [fits_eq hgp h1 h2 h3]
   cases hf:t.grp.fits e with
   | false=>rw [if_neg (by decide),if_neg (by decide)];rfl
   | true =>
     rw [if_pos rfl,if_pos rfl];have hfit:=hf;unfold Grp.fits at hfit;simp only [Bool.and_eq_true,decide_eq_true_eq,Bool.not_eq_true',Bool.or_eq_false_iff,decide_eq_false_iff_not] at hfit;obtain ⟨⟨f1,f2,f3,f4⟩,f5,f6⟩:=hfit;have hbal:=h.bal;have hob:e.obj=r.obj:=f2.trans h1;have hc5:t.chans e.obj=some c:=by rw [hob];exact hc4
     -- the channel of the group
     have hch:(r.channel e.obj e.n).conv=c∧(r.channel e.obj e.n).obj=e.obj:=by
      have h5:=h.channel e;unfold TS.chan at h5;rw [hc5] at h5;exact h5
     have hbd:=h.channel_bd hc e.obj e.n;generalize hd:r.channel e.obj e.n=d at hch hbd;obtain ⟨hcd,hdo⟩:=hch;refine ⟨rfl,?_⟩;dsimp only;unfold RSt.counted
     rcases hgp.inv with ⟨rfl,rfl,hk,g0⟩ | ⟨rfl,rfl,hk,g0⟩ | ⟨rfl,rfl,hk,g0⟩ | ⟨rfl,rfl,hk,g0⟩ | ⟨rfl,rfl,hk,g0,g1⟩
     ·have hek:e.kind=16:=by rw [f1,hk];rfl
      have hgn:t.grp.next e={ t.grp with kinds:=[],snd:=e.g }:=by unfold Grp.next sendsB;rw [if_pos (by simp [hek]),hk];rfl
      rw [if_neg (by omega),TS.count_id hc5 (by omega) (by omega),hgn];exact Rel.keep h [] _ (.none _ _) (fun h=>absurd rfl h) (by rw [hk];rfl)
     ·have hek:e.kind=18:=by rw [f1,hk];rfl
      have hgn:t.grp.next e={ t.grp with kinds:=[],rcv:=e.g }:=by unfold Grp.next sendsB;rw [if_neg (by simp [hek]),hk];rfl
      rw [if_neg (by omega),TS.count_id hc5 (by omega) (by omega),hgn];exact Rel.keep h [] _ (.none _ _) (fun h=>absurd rfl h) (by rw [hk];rfl)
     ·have hek:e.kind=17:=by rw [f1,hk];rfl
      have hgn:t.grp.next e={ t.grp with kinds:=[18,16],rcv:=e.g }:=by unfold Grp.next sendsB;rw [if_neg (by simp [hek]),hk];rfl
      have hb:=hbal _ _ hc4;rw [if_pos rfl,hk] at hb;rw [if_pos (.inr hek),hgn];have hb':c.recv≤c.sent+(-1):=hb
      have:=Rel.put h { d with recv:=d.recv+1 } (by dsimp only;omega) (by dsimp only;omega) [⟨18,e.g,0⟩,⟨16,t.grp.snd,0⟩] r.obj r.k r.n { t.grp with kinds:=[18,16],rcv:=e.g } (.both _ _ g0 hv)
       (fun _=>⟨h1,h2,h3,by show r.obj=d.obj;rw [hdo,hob]⟩) (by rw [←hcd] at hb';show d.recv+1≤d.sent+0;unfold RCh.conv at hb';dsimp only at hb';omega)
       (fun x y hx hy=>by have h6:=hbal x y hy;rw [if_neg (fun h7=>hx (by show x=d.obj;rw [h7,hdo,hob]))] at h6;omega)
      have hd2:RSt.channel { r with next:=List.map ((⟨17, -1,t.grp.snd⟩:RWt).known e.g) [⟨18, -1,0⟩,⟨16,t.grp.snd,0⟩] } e.obj e.n=d:=hd
      have hnx2:List.map ((⟨17, -1,t.grp.snd⟩:RWt).known e.g) [⟨18, -1,0⟩,⟨16,t.grp.snd,0⟩]=[⟨18,e.g,0⟩,⟨16,t.grp.snd,0⟩]:=by
       simp only [List.map_cons,List.map_nil,RWt.known];rw [if_pos (by decide),if_neg (fun h=>by omega)]
      have ht:t.count e={ t with chans:=upd t.chans d.obj ({ d with recv:=d.recv+1 }:RCh).conv }:=by
       unfold TS.count Ch.count;rw [hc5,hek,hdo,Option.getD_some,if_neg (by decide),if_pos rfl,←hcd];rfl
      rw [hd2,hnx2,ht];unfold RCh.count;rw [if_neg (by omega),if_pos hek];exact this
     ·have hek:e.kind=15:=by rw [f1,hk];rfl
      have hgn:t.grp.next e={ t.grp with kinds:=[18,16],snd:=e.g }:=by unfold Grp.next sendsB;rw [if_pos (by simp [hek]),hk];rfl
      have hb:=hbal _ _ hc4;rw [if_pos rfl,hk] at hb;rw [if_pos (.inl hek),hgn];have hb':c.recv≤c.sent+1:=hb
      have:=Rel.put h { d with sent:=d.sent+1 } (by dsimp only;omega) (by dsimp only;omega) [⟨18,t.grp.rcv,0⟩,⟨16,e.g,0⟩] r.obj r.k r.n { t.grp with kinds:=[18,16],snd:=e.g } (.both _ _ hv g0)
       (fun _=>⟨h1,h2,h3,by show r.obj=d.obj;rw [hdo,hob]⟩) (by rw [←hcd] at hb';show d.recv≤d.sent+1+0;unfold RCh.conv at hb';dsimp only at hb';omega)
       (fun x y hx hy=>by have h6:=hbal x y hy;rw [if_neg (fun h7=>hx (by show x=d.obj;rw [h7,hdo,hob]))] at h6;omega)
      have hd2:RSt.channel { r with next:=List.map ((⟨15, -1,t.grp.rcv⟩:RWt).known e.g) [⟨18,t.grp.rcv,0⟩,⟨16, -1,0⟩] } e.obj e.n=d:=hd
      have hnx2:List.map ((⟨15, -1,t.grp.rcv⟩:RWt).known e.g) [⟨18,t.grp.rcv,0⟩,⟨16, -1,0⟩]=[⟨18,t.grp.rcv,0⟩,⟨16,e.g,0⟩]:=by
       simp only [List.map_cons,List.map_nil,RWt.known];rw [if_neg (fun h=>by omega),if_pos (by decide)]
      have ht:t.count e={ t with chans:=upd t.chans d.obj ({ d with sent:=d.sent+1 }:RCh).conv }:=by
       unfold TS.count Ch.count;rw [hc5,hek,hdo,Option.getD_some,if_pos rfl,←hcd];rfl
      rw [hd2,hnx2,ht];unfold RCh.count;rw [if_pos hek];exact this
     ·have hek:e.kind=18:=by rw [f1,hk];rfl
      have hgn:t.grp.next e={ t.grp with kinds:=[16],rcv:=e.g }:=by unfold Grp.next sendsB;rw [if_neg (by simp [hek]),hk];rfl
      rw [if_neg (by omega),TS.count_id hc5 (by omega) (by omega),hgn]
      have hnx2:List.map ((⟨18,t.grp.rcv,0⟩:RWt).known e.g) [⟨16,t.grp.snd,0⟩]=[⟨16,t.grp.snd,0⟩]:=by
       simp only [List.map_cons,List.map_nil,RWt.known];rw [if_neg (fun h=>by omega)]
      rw [hnx2]
      exact Rel.keep h [⟨16,t.grp.snd,0⟩] { t.grp with kinds:=[16],rcv:=e.g } (.snd _ _ g0) (fun _=>⟨h1,h2,h3,h4⟩) (by rw [hk];rfl)
theorem set_count (r:RSt) (c:RCh):(r.setChannel c).count=r.count:=rfl
theorem Rel.transfer {r:RSt} {t:TS} (h:Rel r t) (e:Ev) (hv:0≤e.g) (hc:0≤r.count) (hgor:1≤r.gor) (hn:r.next=[]):Ans (r.transferR e) (t.operate e):=by
 obtain ⟨hm,ho⟩:=h.channel e;have hb:=h.channel_bd hc e.obj e.n;have hgr:=h.gr
 have hbal:∀ x c,t.chans x=some c→c.recv≤c.sent:=fun x c hx=>by
  have h1:=h.bal x c hx;have h2:=h.gp.nil_asks hn;rw [h2] at h1;split at h1 <;> omega
 have hbc:(r.channel e.obj e.n).recv≤(r.channel e.obj e.n).sent:=by
  have h1:=hm;unfold TS.chan at h1
  cases hc:t.chans e.obj with
  | none=>rw [hc] at h1;have h2:=congrArg Ch.recv h1;have h3:=congrArg Ch.sent h1;dsimp only [RCh.conv,ch0] at h2 h3;omega
  | some c=>rw [hc] at h1;have h4:=hbal _ _ hc;have h2:=congrArg Ch.recv h1;have h3:=congrArg Ch.sent h1;dsimp only [RCh.conv] at h2 h3;omega
 have hbegin:∀ (nx:List RWt),RSt.begin r e nx=if e.kind=15∨e.kind=17 then ({ r.setChannel ((r.channel e.obj e.n).count e.kind) with next:=nx,obj:=e.obj,k:=e.k,n:=e.n }:RSt) else { r with next:=nx,obj:=e.obj,k:=e.k,n:=e.n }:=fun nx=>by
  unfold RSt.begin RSt.counted;split <;> rfl
 unfold RSt.transferR TS.operate;simp only [hbegin];rw [←hm];clear hm hbegin;generalize r.channel e.obj e.n=d at ho hb hbc ⊢;dsimp only [RCh.conv,Ch.missing,TS.start]
 have put:∀ (c:RCh) (nx:List RWt) (o:Grp),c.obj=d.obj→(0≤c.sent∧c.sent≤r.count+1)→(0≤c.recv∧c.recv≤r.count+1)→RelG nx o.kinds o.snd o.rcv→(o.obj=e.obj∧o.k=e.k∧o.n=e.n)→c.recv≤c.sent+asks o.kinds →
  Rel { r.setChannel c with next:=nx,obj:=e.obj,k:=e.k,n:=e.n,count:=r.count+1 } { t with chans:=upd t.chans e.obj c.conv,grp:=o,events:=t.events+1 }:=fun c nx o h1 h2 h3 h4 h5 h6=>by
  have:=Rel.put h c h2 h3 nx e.obj e.k e.n o h4 (fun _=>⟨h5.1,h5.2.1,h5.2.2,by rw [h1,ho]⟩) h6 (fun x y _ hy=>hbal x y hy);rw [show c.obj=e.obj by rw [h1,ho]] at this;exact this
 by_cases q1:d.n=e.n
 case neg=>simp only [q1,ne_eq,not_true_eq_false,not_false_eq_true,if_true,if_false,reduceIte,Int.reduceEq,true_or,or_true,false_or,or_false,or_self,true_and,and_true,false_and,and_false,and_self,Option.map_some,Option.map_none,Bool.false_eq_true,reduceCtorEq,decide_eq_false_iff_not,Bool.true_and,Bool.false_and,Bool.true_eq_false];rfl
 simp only [q1,ne_eq,not_true_eq_false,not_false_eq_true,if_true,if_false,reduceIte,Int.reduceEq,true_or,or_true,false_or,or_false,or_self,true_and,and_true,false_and,and_false,and_self,Option.map_some,Option.map_none,Bool.false_eq_true,reduceCtorEq,decide_eq_false_iff_not,Bool.true_and,Bool.false_and,Bool.true_eq_false]
 by_cases k15:e.kind=15
 ·simp only [k15,ne_eq,not_true_eq_false,not_false_eq_true,if_true,if_false,reduceIte,Int.reduceEq,true_or,or_true,false_or,or_false,or_self,true_and,and_true,false_and,and_false,and_self,Option.map_some,Option.map_none,Bool.false_eq_true,reduceCtorEq,decide_eq_false_iff_not,Bool.true_and,Bool.false_and,Bool.true_eq_false,RCh.count,Ch.count]
  by_cases q2:e.k=d.sent
  case neg=>simp only [q2,ne_eq,not_true_eq_false,not_false_eq_true,if_true,if_false,reduceIte,Int.reduceEq,true_or,or_true,false_or,or_false,or_self,true_and,and_true,false_and,and_false,and_self,Option.map_some,Option.map_none,Bool.false_eq_true,reduceCtorEq,decide_eq_false_iff_not,Bool.true_and,Bool.false_and,Bool.true_eq_false];rfl
  simp only [q2,ne_eq,not_true_eq_false,not_false_eq_true,if_true,if_false,reduceIte,Int.reduceEq,true_or,or_true,false_or,or_false,or_self,true_and,and_true,false_and,and_false,and_self,Option.map_some,Option.map_none,Bool.false_eq_true,reduceCtorEq,decide_eq_false_iff_not,Bool.true_and,Bool.false_and,Bool.true_eq_false]
  cases q3:d.closed with
  | true=>simp only [ne_eq,not_true_eq_false,not_false_eq_true,if_true,if_false,reduceIte,Int.reduceEq,true_or,or_true,false_or,or_false,or_self,true_and,and_true,false_and,and_false,and_self,Option.map_some,Option.map_none,Bool.false_eq_true,reduceCtorEq,decide_eq_false_iff_not,Bool.true_and,Bool.false_and,Bool.true_eq_false];rfl
  | false =>
    simp only [ne_eq,not_true_eq_false,not_false_eq_true,if_true,if_false,reduceIte,Int.reduceEq,true_or,or_true,false_or,or_false,or_self,true_and,and_true,false_and,and_false,and_self,Option.map_some,Option.map_none,Bool.false_eq_true,reduceCtorEq,decide_eq_false_iff_not,Bool.true_and,Bool.false_and,Bool.true_eq_false]
    by_cases q4:d.sent - d.recv < e.n
    ·rw [if_pos ⟨by omega,q4⟩,if_pos q4];refine ⟨rfl,?_⟩
     have:=put { d with sent:=d.sent+1 } [⟨16,e.g,0⟩] ⟨[16],e.obj,e.k,e.n,e.g, -1⟩ rfl (by dsimp only;omega) (by dsimp only;omega) (.snd _ _ hv) ⟨rfl,rfl,rfl⟩ (by show d.recv≤d.sent+1+0;omega)
     simpa only [RCh.conv,set_count,q1,q2,q3] using this
    ·rw [if_neg (fun h=>q4 h.2),if_neg q4]
     by_cases q5:e.n=0∧¬ t.gor=1
     ·rw [if_pos ⟨q5.1,by omega⟩,if_pos q5];refine ⟨rfl,?_⟩
      have:=put { d with sent:=d.sent+1 } [⟨17, -1,e.g⟩,⟨18, -1,0⟩,⟨16,e.g,0⟩] ⟨[17,18,16],e.obj,e.k,e.n,e.g, -1⟩ rfl (by dsimp only;omega) (by dsimp only;omega) (.wait _ hv) ⟨rfl,rfl,rfl⟩ (by show d.recv≤d.sent+1+(-1);omega)
      simpa only [RCh.conv,set_count,q1,q2,q3] using this
     ·rw [if_neg (fun h=>q5 ⟨h.1,by omega⟩),if_neg q5];rfl
 simp only [k15,ne_eq,not_true_eq_false,not_false_eq_true,if_true,if_false,reduceIte,Int.reduceEq,true_or,or_true,false_or,or_false,or_self,true_and,and_true,false_and,and_false,and_self,Option.map_some,Option.map_none,Bool.false_eq_true,reduceCtorEq,decide_eq_false_iff_not,Bool.true_and,Bool.false_and,Bool.true_eq_false]
 by_cases k17:e.kind=17
 ·simp only [k17,ne_eq,not_true_eq_false,not_false_eq_true,if_true,if_false,reduceIte,Int.reduceEq,true_or,or_true,false_or,or_false,or_self,true_and,and_true,false_and,and_false,and_self,Option.map_some,Option.map_none,Bool.false_eq_true,reduceCtorEq,decide_eq_false_iff_not,Bool.true_and,Bool.false_and,Bool.true_eq_false,RCh.count,Ch.count]
  by_cases q2:e.k=d.recv
  case neg=>simp only [q2,ne_eq,not_true_eq_false,not_false_eq_true,if_true,if_false,reduceIte,Int.reduceEq,true_or,or_true,false_or,or_false,or_self,true_and,and_true,false_and,and_false,and_self,Option.map_some,Option.map_none,Bool.false_eq_true,reduceCtorEq,decide_eq_false_iff_not,Bool.true_and,Bool.false_and,Bool.true_eq_false];rfl
  simp only [q2,ne_eq,not_true_eq_false,not_false_eq_true,if_true,if_false,reduceIte,Int.reduceEq,true_or,or_true,false_or,or_false,or_self,true_and,and_true,false_and,and_false,and_self,Option.map_some,Option.map_none,Bool.false_eq_true,reduceCtorEq,decide_eq_false_iff_not,Bool.true_and,Bool.false_and,Bool.true_eq_false]
  by_cases q4:d.recv < d.sent
  ·rw [if_pos q4,if_pos q4];refine ⟨rfl,?_⟩
   have:=put { d with recv:=d.recv+1 } [⟨18,e.g,0⟩] ⟨[18],e.obj,e.k,e.n, -1,e.g⟩ rfl (by dsimp only;omega) (by dsimp only;omega) (.rcv _ _ hv) ⟨rfl,rfl,rfl⟩ (by show d.recv+1≤d.sent+0;omega)
   simpa only [RCh.conv,set_count,q1,q2] using this
  ·rw [if_neg q4,if_neg q4]
   by_cases q5:d.closed=false∧¬ t.gor=1
   ·rw [if_pos ⟨q5.1,by omega⟩,if_pos q5];refine ⟨rfl,?_⟩
    have:=put { d with recv:=d.recv+1 } [⟨15, -1,e.g⟩,⟨18,e.g,0⟩,⟨16, -1,0⟩] ⟨[15,18,16],e.obj,e.k,e.n, -1,e.g⟩ rfl (by dsimp only;omega) (by dsimp only;omega) (.ask _ hv) ⟨rfl,rfl,rfl⟩ (by show d.recv+1≤d.sent+1;omega)
    simpa only [RCh.conv,set_count,q1,q2] using this
   ·rw [if_neg (fun h=>q5 ⟨h.1,by omega⟩),if_neg q5];rfl
 simp only [k17,ne_eq,not_true_eq_false,not_false_eq_true,if_true,if_false,reduceIte,Int.reduceEq,true_or,or_true,false_or,or_false,or_self,true_and,and_true,false_and,and_false,and_self,Option.map_some,Option.map_none,Bool.false_eq_true,reduceCtorEq,decide_eq_false_iff_not,Bool.true_and,Bool.false_and,Bool.true_eq_false]
 by_cases k19:e.kind=19
 ·simp only [k19,ne_eq,not_true_eq_false,not_false_eq_true,if_true,if_false,reduceIte,Int.reduceEq,true_or,or_true,false_or,or_false,or_self,true_and,and_true,false_and,and_false,and_self,Option.map_some,Option.map_none,Bool.false_eq_true,reduceCtorEq,decide_eq_false_iff_not,Bool.true_and,Bool.false_and,Bool.true_eq_false]
  cases q3:d.closed with
  | true=>simp only [ne_eq,not_true_eq_false,not_false_eq_true,if_true,if_false,reduceIte,Int.reduceEq,true_or,or_true,false_or,or_false,or_self,true_and,and_true,false_and,and_false,and_self,Option.map_some,Option.map_none,Bool.false_eq_true,reduceCtorEq,decide_eq_false_iff_not,Bool.true_and,Bool.false_and,Bool.true_eq_false];rfl
  | false =>
    simp only [ne_eq,not_true_eq_false,not_false_eq_true,if_true,if_false,reduceIte,Int.reduceEq,true_or,or_true,false_or,or_false,or_self,true_and,and_true,false_and,and_false,and_self,Option.map_some,Option.map_none,Bool.false_eq_true,reduceCtorEq,decide_eq_false_iff_not,Bool.true_and,Bool.false_and,Bool.true_eq_false];refine ⟨rfl,?_⟩
    have h1:=Rel.put h { d with closed:=true } (by dsimp only;omega) (by dsimp only;omega) r.next r.obj r.k r.n t.grp h.gp (fun h2=>absurd hn h2) (by rw [h.gp.nil_asks hn];dsimp only;omega) (fun x y _ hy=>hbal x y hy)
    simp only [RCh.conv,q1,ho] at h1;rw [←q1,ho];rw [←q1] at h1;exact h1
 simp only [k19,ne_eq,not_true_eq_false,not_false_eq_true,if_true,if_false,reduceIte,Int.reduceEq,true_or,or_true,false_or,or_false,or_self,true_and,and_true,false_and,and_false,and_self,Option.map_some,Option.map_none,Bool.false_eq_true,reduceCtorEq,decide_eq_false_iff_not,Bool.true_and,Bool.false_and,Bool.true_eq_false]
 by_cases k20:e.kind=20
 ·simp only [k20,ne_eq,not_true_eq_false,not_false_eq_true,if_true,if_false,reduceIte,Int.reduceEq,true_or,or_true,false_or,or_false,or_self,true_and,and_true,false_and,and_false,and_self,Option.map_some,Option.map_none,Bool.false_eq_true,reduceCtorEq,decide_eq_false_iff_not,Bool.true_and,Bool.false_and,Bool.true_eq_false]
  show Ans (r,d.closed && d.sent == d.recv) (if d.closed=true∧d.sent=d.recv then some t else none)
  by_cases q4:d.closed=true∧d.sent=d.recv
  ·rw [if_pos q4];refine ⟨?_,Rel.keep h r.next t.grp h.gp h.go rfl⟩;dsimp only;rw [q4.1,beq_iff_eq.2 q4.2];rfl
  ·rw [if_neg q4]
   show (d.closed && d.sent == d.recv)=false
   rw [Bool.eq_false_iff];intro h1;simp only [Bool.and_eq_true,beq_iff_eq] at h1;exact q4 h1
 simp only [k20,ne_eq,not_true_eq_false,not_false_eq_true,if_true,if_false,reduceIte,Int.reduceEq,true_or,or_true,false_or,or_false,or_self,true_and,and_true,false_and,and_false,and_self,Option.map_some,Option.map_none,Bool.false_eq_true,reduceCtorEq,decide_eq_false_iff_not,Bool.true_and,Bool.false_and,Bool.true_eq_false];rfl
theorem Rel.step {r:RSt} {t:TS} (h:Rel r t) (hw:t.wf) (e:Ev):match t.add e with
 | some t'=>∃ r',r.addR e=(r',true)∧Rel r' t'
 | none=>r.addR e=(r,false):=by
 have had:r.admits e=t.admits e:=by unfold RSt.admits TS.admits;rw [h.ct,h.gr]
 unfold TS.add RSt.addR;rw [had]
 cases ha:t.admits e with
 | false=>simp
 | true =>
   have hv:e.valid=true:=by unfold TS.admits at ha;simp only [Bool.and_eq_true] at ha;exact ha.1.1
   have hg:=(Ev.valid_g hv).1;have hc:0≤r.count:=by rw [h.ct];exact hw.ev.1
   have hgr:1≤r.gor:=by rw [h.gr];exact hw.gr.1
   have hans:Ans (r.partR e) (t.part e):=by
    have hk:=h.gp.kinds
    by_cases hn:r.next=[]
    ·have h1:r.partR e=if chanB e.kind=true then r.transferR e else r.otherR e:=by unfold RSt.partR;rw [hn];exact if_neg (Nat.lt_irrefl 0)
     have h2:t.part e=if chanB e.kind=true then t.operate e else t.simple e:=by unfold TS.part TS.isOpen;rw [hk,hn];exact if_neg (by simp)
     rw [h1,h2]
     by_cases hch:chanB e.kind=true
     ·rw [if_pos hch,if_pos hch];exact h.transfer e hg hc hgr hn
     ·rw [if_neg hch,if_neg hch];exact h.other hc e hn
    ·have hpos:0 < r.next.length:=List.length_pos_iff.2 hn;have h1:r.partR e=r.groupR e:=by unfold RSt.partR;exact if_pos hpos
     have h2:t.part e=t.proceed e:=by unfold TS.part TS.isOpen;rw [hk,List.length_map];exact if_pos (decide_eq_true hpos)
     rw [h1,h2];exact h.group e hg hc hn
   rw [if_pos rfl];unfold Ans at hans
   cases hp:t.part e with
   | none =>
     rw [hp] at hans;rw [if_neg (by rw [hans];simp)]
     rfl
   | some t' =>
     rw [hp] at hans;rw [if_pos ⟨rfl,hans.1⟩];exact ⟨_,rfl,hans.2⟩
def TS.kok (t:TS):Prop:=t.isOpen=true→15≤t.grp.kinds.headD 0∧t.grp.kinds.headD 0≤18
theorem Rel.kok {r:RSt} {t:TS} (h:Rel r t):t.kok:=fun ho=>by
 have hg:=h.gp;unfold TS.isOpen at ho;generalize r.next=nx at hg;generalize t.grp.snd=sa at hg;generalize t.grp.rcv=sb at hg;generalize t.grp.kinds=ks at hg ho ⊢;cases hg <;> simp at ho ⊢
theorem add_cases {t u:TS} {e:Ev} (h:t.add e=some u):e.valid=true∧∃ v,{ v with events:=v.events+1 }=u∧((t.isOpen=true∧t.proceed e=some v)∨(t.isOpen=false∧chanB e.kind=true∧t.operate e=some v)∨(t.isOpen=false∧chanB e.kind=false∧t.simple e=some v)):=by
 unfold TS.add at h;split at h
 ·rename_i ha;simp only [Option.map_eq_some_iff] at h;obtain ⟨v,hv,rfl⟩:=h;unfold TS.admits at ha;simp only [Bool.and_eq_true] at ha;refine ⟨ha.1.1,v,rfl,?_⟩;unfold TS.part at hv;split at hv
  ·rename_i ho;exact .inl ⟨ho,hv⟩
  ·rename_i ho;have ho:t.isOpen=false:=by simpa using ho
   split at hv
   ·rename_i hc;exact .inr (.inl ⟨ho,hc,hv⟩)
   ·rename_i hc;exact .inr (.inr ⟨ho,by simpa using hc,hv⟩)
 ·cases h
theorem proceed_eq {t v:TS} {e:Ev} (h:t.proceed e=some v):t.grp.fits e=true∧v={ t.count e with grp:=t.grp.next e }:=by
 unfold TS.proceed at h;split at h
 ·rename_i hf;cases h;exact ⟨hf,rfl⟩
 ·cases h
def TS.locked (t:TS) (x:Int×Int):Bool:=((t.mus x).getD mu0).locked
def TS.w15 (t:TS) (x:Int):Int:=if x=t.grp.obj∧t.grp.kinds.headD 0=15 then 1 else 0
def TS.w17 (t:TS) (x:Int):Int:=if x=t.grp.obj∧t.grp.kinds.headD 0=17 then 1 else 0
structure TBal (t:TS):Prop where
 a:∀ x c,t.chans x=some c→c.sent+t.w15 x≤c.recv+c.cap+t.w17 x
 b:∀ x c,t.chans x=some c→c.recv+t.w17 x≤c.sent+t.w15 x
 op:t.isOpen=true→∃ c,t.chans t.grp.obj=some c∧c.cap=t.grp.n
theorem TBal.new:TBal TS.new:=⟨fun _ _ h=>(by cases h),fun _ _ h=>(by cases h),fun h=>(by cases h)⟩
def TS.sentOf (t:TS) (x:Int):Int:=((t.chans x).getD ch0).sent
def TS.recvOf (t:TS) (x:Int):Int:=((t.chans x).getD ch0).recv
structure TCnt (t u:TS) (e:Ev):Prop where
 s:∀ x,u.sentOf x=t.sentOf x+if e.obj=x∧e.kind=15 then 1 else 0
 r:∀ x,u.recvOf x=t.recvOf x+if e.obj=x∧e.kind=17 then 1 else 0
theorem count_sent (c:Ch) (k:Int):(c.count k).sent=c.sent+if k=15 then 1 else 0:=by
 unfold Ch.count;split
 ·rfl
 ·split <;> simp
theorem count_recv (c:Ch) (k:Int):(c.count k).recv=c.recv+if k=17 then 1 else 0:=by
 unfold Ch.count;split
 ·rename_i h;rw [if_neg (by omega)];simp
 ·split
  ·rfl
  ·simp
theorem count_cap (c:Ch) (k:Int):(c.count k).cap=c.cap:=by
 unfold Ch.count;split
 ·rfl
 ·split <;> rfl
theorem cnt_upd {t:TS} {e:Ev} {c:Ch} (hs:c.sent=t.sentOf e.obj) (hr:c.recv=t.recvOf e.obj) {v:TS} (hv:v.chans=upd t.chans e.obj (c.count e.kind)):TCnt t v e:=by
 refine ⟨fun x=>?_,fun x=>?_⟩
 ·unfold TS.sentOf;rw [hv]
  by_cases hx:x=e.obj
  ·subst hx;rw [upd_same];simp only [Option.getD_some];rw [count_sent,hs];unfold TS.sentOf;simp
  ·rw [upd_other _ _ hx,if_neg (fun h=>hx h.1.symm)];simp
 ·unfold TS.recvOf;rw [hv]
  by_cases hx:x=e.obj
  ·subst hx;rw [upd_same];simp only [Option.getD_some];rw [count_recv,hr];unfold TS.recvOf;simp
  ·rw [upd_other _ _ hx,if_neg (fun h=>hx h.1.symm)];simp
theorem cnt_same {t v:TS} {e:Ev} (h5:e.kind≠15) (h7:e.kind≠17) (hs:∀ x,v.sentOf x=t.sentOf x) (hr:∀ x,v.recvOf x=t.recvOf x):TCnt t v e :=
 ⟨fun x=>by rw [hs,if_neg (fun h=>h5 h.2)];simp,fun x=>by rw [hr,if_neg (fun h=>h7 h.2)];simp⟩
theorem chan_sent {t:TS} (e:Ev):(t.chan e).sent=t.sentOf e.obj∧(t.chan e).recv=t.recvOf e.obj:=by
 unfold TS.chan TS.sentOf TS.recvOf
 cases t.chans e.obj with
 | none=>exact ⟨rfl,rfl⟩
 | some c=>exact ⟨rfl,rfl⟩
theorem closed_w {r:RSt} {t:TS} (h:Rel r t) (ho:t.isOpen=false) (x:Int):t.w15 x=0∧t.w17 x=0:=by
 have hk:t.grp.kinds=[]:=by
  unfold TS.isOpen at ho
  cases hk:t.grp.kinds with
  | nil=>rfl
  | cons a l=>rw [hk] at ho;simp at ho
 unfold TS.w15 TS.w17;rw [hk];exact ⟨if_neg (fun h=>by simp at h),if_neg (fun h=>by simp at h)⟩
theorem chan_bal {r:RSt} {t:TS} (h:Rel r t) (hb:TBal t) (ho:t.isOpen=false) {e:Ev} (hn:0≤e.n):(t.chan e).sent≤(t.chan e).recv+(t.chan e).cap∧(t.chan e).recv≤(t.chan e).sent:=by
 unfold TS.chan
 cases hc:t.chans e.obj with
 | none=>exact ⟨by show (0:Int)≤0+e.n;omega,Int.le_refl _⟩
 | some c =>
   have h1:=hb.a _ _ hc;have h2:=hb.b _ _ hc;obtain ⟨w1,w2⟩:=closed_w h ho e.obj;rw [w1,w2] at h1 h2;dsimp only;exact ⟨by omega,by omega⟩
theorem bal_put {r:RSt} {t:TS} (h:Rel r t) (hb:TBal t) (ho:t.isOpen=false) {e:Ev} {c:Ch} {v:TS} (hv:v.chans=upd t.chans e.obj c) (hw:∀ x,x≠e.obj→v.w15 x=0∧v.w17 x=0)
 (ha:c.sent+v.w15 e.obj≤c.recv+c.cap+v.w17 e.obj) (hbb:c.recv+v.w17 e.obj≤c.sent+v.w15 e.obj) (hop:v.isOpen=true→v.grp.obj=e.obj∧c.cap=v.grp.n):TBal v:=by
 have oth:∀ x d,x≠e.obj→v.chans x=some d→d.sent≤d.recv+d.cap∧d.recv≤d.sent:=fun x d hx hd=>by
  rw [hv,upd_other _ _ hx] at hd;have h1:=hb.a _ _ hd;have h2:=hb.b _ _ hd;obtain ⟨w1,w2⟩:=closed_w h ho x;rw [w1,w2] at h1 h2;exact ⟨by omega,by omega⟩
 refine ⟨fun x d hd=>?_,fun x d hd=>?_,fun ho'=>?_⟩
 ·by_cases hx:x=e.obj
  ·subst hx;rw [hv,upd_same] at hd;cases hd;exact ha
  ·obtain ⟨w1,w2⟩:=hw x hx;have:=oth x d hx hd;omega
 ·by_cases hx:x=e.obj
  ·subst hx;rw [hv,upd_same] at hd;cases hd;exact hbb
  ·obtain ⟨w1,w2⟩:=hw x hx;have:=oth x d hx hd;omega
 ·obtain ⟨h1,h2⟩:=hop ho';exact ⟨c,by rw [h1,hv,upd_same],h2⟩
theorem bal_operate {r:RSt} {t:TS} (h:Rel r t) (hb:TBal t) (ho:t.isOpen=false) {e:Ev} (hn:0≤e.n) {v:TS} (hv:t.operate e=some v):TBal v∧TCnt t v e∧∃ c,v.chans e.obj=some c∧c.cap=e.n:=by
 have hcb:=chan_bal h hb ho hn;obtain ⟨hs,hr⟩:=chan_sent (t:=t) e;unfold TS.operate at hv;dsimp only at hv;split at hv
 ·cases hv
 rename_i hcap;have hcap:(t.chan e).cap=e.n:=by simpa using hcap
 have hstart:∀ ks a b,(ks.headD 0=15∨ks.headD 0=17∨(ks.headD 0≠15∧ks.headD 0≠17))→v=t.start e (t.chan e) ks a b →
  ((t.chan e).count e.kind).sent+(if ks.headD 0=15 then 1 else 0)≤((t.chan e).count e.kind).recv+(t.chan e).cap+(if ks.headD 0=17 then 1 else 0) →
  ((t.chan e).count e.kind).recv+(if ks.headD 0=17 then 1 else 0)≤((t.chan e).count e.kind).sent+(if ks.headD 0=15 then 1 else 0)→TBal v∧TCnt t v e∧∃ c,v.chans e.obj=some c∧c.cap=e.n:=fun ks a b _ hve h1 h2=>by
  subst hve
  have w1:(t.start e (t.chan e) ks a b).w15 e.obj=if ks.headD 0=15 then 1 else 0:=by
   show (if e.obj=e.obj∧ks.headD 0=15 then (1:Int) else 0)=_
   simp
  have w2:(t.start e (t.chan e) ks a b).w17 e.obj=if ks.headD 0=17 then 1 else 0:=by
   show (if e.obj=e.obj∧ks.headD 0=17 then (1:Int) else 0)=_
   simp
  refine ⟨bal_put (e:=e) h hb ho rfl (fun x hx=>⟨if_neg (fun hh=>hx hh.1),if_neg (fun hh=>hx hh.1)⟩) (by rw [w1,w2,count_cap];exact h1) (by rw [w1,w2];exact h2) (fun _=>⟨rfl,by rw [count_cap];exact hcap⟩),cnt_upd hs hr rfl,_,upd_same _ _ _,by rw [count_cap];exact hcap⟩
 split at hv
 ·rename_i k19;split at hv
  ·cases hv
  ·cases hv
   refine ⟨bal_put (e:=e) (c:={ t.chan e with closed:=true }) h hb ho rfl (fun x _=>closed_w h ho x) ?_ ?_ (fun ho'=>absurd (show t.isOpen=true from ho') (by rw [ho];decide)),cnt_same (by omega) (by omega) (fun x=>?_) (fun x=>?_),_,upd_same _ _ _,hcap⟩
   ·have:=closed_w h ho e.obj
    show (t.chan e).sent+t.w15 e.obj≤(t.chan e).recv+(t.chan e).cap+t.w17 e.obj
    omega
   ·have:=closed_w h ho e.obj
    show (t.chan e).recv+t.w17 e.obj≤(t.chan e).sent+t.w15 e.obj
    omega
   ·unfold TS.sentOf;dsimp only
    by_cases hx:x=e.obj
    ·subst hx;rw [upd_same];exact hs
    ·rw [upd_other _ _ hx]
   ·unfold TS.recvOf;dsimp only
    by_cases hx:x=e.obj
    ·subst hx;rw [upd_same];exact hr
    ·rw [upd_other _ _ hx]
 ·split at hv
  ·rename_i k20;split at hv
   ·rename_i hcl;cases hv;refine ⟨hb,cnt_same (by omega) (by omega) (fun _=>rfl) (fun _=>rfl),?_⟩
    cases hc:t.chans e.obj with
    | none=>unfold TS.chan at hcl;rw [hc] at hcl;cases hcl.1
    | some c=>exact ⟨c,rfl,by unfold TS.chan at hcap;rw [hc] at hcap;exact hcap⟩
   ·cases hv
  ·split at hv
   ·rename_i k15;split at hv
    ·cases hv
    ·simp only [Option.map_eq_some_iff] at hv;obtain ⟨ks,hm,rfl⟩:=hv;unfold Ch.missing at hm;rw [if_pos rfl] at hm;split at hm
     ·rename_i hlt;cases hm;exact hstart _ _ _ (by decide) rfl (by rw [count_sent,count_recv];simp [k15];omega) (by rw [count_sent,count_recv];simp [k15];omega)
     ·split at hm
      ·rename_i hc0;cases hm;exact hstart _ _ _ (by decide) rfl (by rw [count_sent,count_recv];simp [k15];omega) (by rw [count_sent,count_recv];simp [k15];omega)
      ·cases hm
   ·split at hv
    ·rename_i k17;split at hv
     ·cases hv
     ·simp only [Option.map_eq_some_iff] at hv;obtain ⟨ks,hm,rfl⟩:=hv;unfold Ch.missing at hm;rw [if_neg (by decide)] at hm;split at hm
      ·rename_i hlt;cases hm;exact hstart _ _ _ (by decide) rfl (by rw [count_sent,count_recv];simp [k17];omega) (by rw [count_sent,count_recv];simp [k17];omega)
      ·split at hm
       ·cases hm;exact hstart _ _ _ (by decide) rfl (by rw [count_sent,count_recv];simp [k17];omega) (by rw [count_sent,count_recv];simp [k17];omega)
       ·cases hm
    ·cases hv
theorem bal_simple {t:TS} (hb:TBal t) {e:Ev} (hk:chanB e.kind=false) {v:TS} (hv:t.simple e=some v):TBal v∧TCnt t v e:=by
 have hk':e.kind≠15∧e.kind≠17:=by
  unfold chanB at hk;simp only [decide_eq_false_iff_not] at hk;omega
 have h:v.chans=t.chans∧v.grp=t.grp:=by
  unfold TS.simple at hv;dsimp only at hv
  repeat' split at hv
  all_goals first
   | (cases hv;done)
   | (cases hv;exact ⟨rfl,rfl⟩)
 obtain ⟨h1,h2⟩:=h;have w15:∀ x,v.w15 x=t.w15 x:=fun x=>by unfold TS.w15;rw [h2]
 have w17:∀ x,v.w17 x=t.w17 x:=fun x=>by unfold TS.w17;rw [h2]
 refine ⟨⟨fun x c hc=>?_,fun x c hc=>?_,fun ho=>?_⟩,cnt_same hk'.1 hk'.2 (fun x=>by unfold TS.sentOf;rw [h1]) (fun x=>by unfold TS.recvOf;rw [h1])⟩
 ·rw [w15,w17];rw [h1] at hc;exact hb.a x c hc
 ·rw [w15,w17];rw [h1] at hc;exact hb.b x c hc
 ·rw [h1,h2];exact hb.op (by unfold TS.isOpen at ho ⊢;rw [h2] at ho;exact ho)
theorem bal_proceed {r:RSt} {t:TS} (h:Rel r t) (hb:TBal t) (ho:t.isOpen=true) {e:Ev} {v:TS} (hv:t.proceed e=some v):TBal v∧TCnt t v e∧∃ c,v.chans e.obj=some c∧c.cap=e.n:=by
 obtain ⟨hf,rfl⟩:=proceed_eq hv;unfold Grp.fits at hf;simp only [Bool.and_eq_true,decide_eq_true_eq] at hf;obtain ⟨⟨hk,hobj,hkk,hn⟩,_⟩:=hf;obtain ⟨c,hc,hcap⟩:=hb.op ho;have hgn:(t.grp.next e).obj=t.grp.obj∧(t.grp.next e).n=t.grp.n∧(t.grp.next e).kinds=t.grp.kinds.tail:=by unfold Grp.next;split <;> exact ⟨rfl,rfl,rfl⟩
 obtain ⟨g1,g2,g3⟩:=hgn;rw [←hobj] at hc;have hch:(t.count e).chans=upd t.chans e.obj (c.count e.kind):=by unfold TS.count;dsimp only;rw [hc];rfl
 have hh:(t.grp.kinds.headD 0=15∨t.grp.kinds.headD 0=16∨t.grp.kinds.headD 0=17∨t.grp.kinds.headD 0=18)∧t.grp.kinds.tail.headD 0≠15∧t.grp.kinds.tail.headD 0≠17:=by
  have hg:=h.gp;unfold TS.isOpen at ho;generalize r.next=nx at hg;generalize t.grp.snd=sa at hg;generalize t.grp.rcv=sb at hg;generalize t.grp.kinds=ks at hg ho ⊢;cases hg <;> simp at ho ⊢
 have hek:e.kind=15∨e.kind=16∨e.kind=17∨e.kind=18:=by rw [hk];exact hh.1
 have hA:=hb.a _ _ hc;have hB:=hb.b _ _ hc;have e15:t.w15 e.obj=if e.kind=15 then 1 else 0:=by unfold TS.w15;rw [hk];simp [hobj]
 have e17:t.w17 e.obj=if e.kind=17 then 1 else 0:=by unfold TS.w17;rw [hk];simp [hobj]
 rw [e15,e17] at hA hB
 have n15:∀ x,TS.w15 { t.count e with grp:=t.grp.next e } x=0:=fun x=>by unfold TS.w15;dsimp only;rw [g3];exact if_neg (fun hx=>hh.2.1 hx.2)
 have n17:∀ x,TS.w17 { t.count e with grp:=t.grp.next e } x=0:=fun x=>by unfold TS.w17;dsimp only;rw [g3];exact if_neg (fun hx=>hh.2.2 hx.2)
 have o15:∀ x,x≠e.obj→t.w15 x=0:=fun x hx=>if_neg (fun hh=>hx (by rw [hobj];exact hh.1))
 have o17:∀ x,x≠e.obj→t.w17 x=0:=fun x hx=>if_neg (fun hh=>hx (by rw [hobj];exact hh.1))
 refine ⟨⟨fun x d hd=>?_,fun x d hd=>?_,fun _=>?_⟩,cnt_upd (c:=c) (by unfold TS.sentOf;rw [hc];rfl) (by unfold TS.recvOf;rw [hc];rfl) hch,c.count e.kind,by show (t.count e).chans e.obj=_;rw [hch,upd_same],by rw [count_cap,hcap,hn]⟩
 ·rw [n15,n17];have hd:(t.count e).chans x=some d:=hd
  by_cases hx:x=e.obj
  ·subst hx;rw [hch,upd_same] at hd;cases hd;rw [count_sent,count_recv,count_cap]
   rcases hek with q | q | q | q <;> rw [q] at hA hB ⊢ <;> simp at hA hB ⊢ <;> omega
  ·rw [hch,upd_other _ _ hx] at hd;have:=hb.a _ _ hd;rw [o15 x hx,o17 x hx] at this;exact this
 ·rw [n15,n17];have hd:(t.count e).chans x=some d:=hd
  by_cases hx:x=e.obj
  ·subst hx;rw [hch,upd_same] at hd;cases hd;rw [count_sent,count_recv]
   rcases hek with q | q | q | q <;> rw [q] at hA hB ⊢ <;> simp at hA hB ⊢ <;> omega
  ·rw [hch,upd_other _ _ hx] at hd;have:=hb.b _ _ hd;rw [o15 x hx,o17 x hx] at this;exact this
 ·refine ⟨c.count e.kind,?_,?_⟩
  ·show (t.count e).chans (t.grp.next e).obj=_
   rw [g1,←hobj,hch,upd_same]
  ·rw [count_cap,hcap];show _=(t.grp.next e).n;rw [g2]
theorem bal_add {r:RSt} {t u:TS} (h:Rel r t) (hb:TBal t) {e:Ev} (ha:t.add e=some u):TBal u∧TCnt t u e∧(chanB e.kind=true→∃ c,u.chans e.obj=some c∧c.cap=e.n):=by
 obtain ⟨hv,v,rfl,hc⟩:=add_cases ha;have hn:=(Ev.valid_n hv).1
 have lift:TBal v→TBal { v with events:=v.events+1 }:=fun h=>⟨h.a,h.b,h.op⟩
 have liftc:TCnt t v e→TCnt t { v with events:=v.events+1 } e:=fun h=>⟨h.s,h.r⟩
 rcases hc with ⟨ho,hc⟩ | ⟨ho,hk,hc⟩ | ⟨ho,hk,hc⟩
 ·obtain ⟨h1,h2,h3⟩:=bal_proceed h hb ho hc;exact ⟨lift h1,liftc h2,fun _=>h3⟩
 ·obtain ⟨h1,h2,h3⟩:=bal_operate h hb ho hn hc;exact ⟨lift h1,liftc h2,fun _=>h3⟩
 ·obtain ⟨h1,h2⟩:=bal_simple hb hk hc;exact ⟨lift h1,liftc h2,fun h=>by rw [hk] at h;cases h⟩
theorem getD_join {a b:Ck} (ha:a.length=8) (hb:b.length=8) {k:Nat} (hk:k < 8):(joinC a b).getD k 0=if b.getD k 0 > a.getD k 0 then b.getD k 0 else a.getD k 0:=by
 obtain ⟨x,hx⟩:∃ x,a[k]? = some x:=⟨_,List.getElem?_eq_getElem (by omega)⟩
 obtain ⟨y,hy⟩:∃ y,b[k]? = some y:=⟨_,List.getElem?_eq_getElem (by omega)⟩
 simp only [List.getD_eq_getElem?_getD,joinC,List.getElem?_zipWith,hx,hy,Option.getD_some]
def SSt.dg (s:SSt) (k:Nat):Int:=(s.cur.getD k ckZ).getD k 0
structure Cnt (s:SSt):Prop where
 cc:∀ c,c ∈ s.cur→∀ k,k < 8→c.getD k 0≤s.dg k
 bc:∀ c,c ∈ s.birth→∀ k,k < 8→c.getD k 0≤s.dg k
 oc:∀ c,c ∈ s.out→∀ k,k < 8→c.getD k 0≤s.dg k
theorem ckZ_get (k:Nat):(ckZ.getD k 0)=0:=by
 unfold ckZ;rw [List.getD_eq_getElem?_getD,List.getElem?_replicate];split <;> rfl
theorem COk.get {n:Int} {c:Ck} (h:COk n c) (k:Nat):0≤c.getD k 0:=by
 rw [List.getD_eq_getElem?_getD]
 cases hk:c[k]? with
 | none=>exact Int.le_refl _
 | some x=>exact (h.2 x (List.mem_of_getElem? hk)).1
def preC (l:List Ev) (s:SSt) (e:Ev) (j:Nat):Ck :=
 if atomE e (inTo l s.out e (startC s e, -1) j).2=true then joinC (inTo l s.out e (startC s e, -1) j).1 (s.out.getD (inTo l s.out e (startC s e, -1) j).2.toNat ckZ) else (inTo l s.out e (startC s e, -1) j).1
theorem clockAt_eq (l:List Ev) (s:SSt) (e:Ev) (j:Nat):clockAt l s e j=(preC l s e j).set e.g.toNat ((preC l s e j).getD e.g.toNat 0+1):=rfl
theorem mem_getD {l:List Ck} {i:Nat} (h:i < l.length):l.getD i ckZ ∈ l:=by
 rw [List.getD_eq_getElem?_getD,List.getElem?_eq_getElem h];exact List.getElem_mem h
theorem getD_none {l:List Ck} {i:Nat} (h:l.length≤i):l.getD i ckZ=ckZ:=by rw [List.getD_eq_getElem?_getD,List.getElem?_eq_none h];rfl
section
variable {l:List Ev} {s:SSt} {e:Ev} {j:Nat}
theorem Cnt.start (h:Cnt s) (hok:SOk s j) (hg:e.g.toNat < 8) {k:Nat} (hk:k < 8):(s.cur.getD e.g.toNat ckZ).getD k 0≤(startC s e).getD k 0∧(startC s e).getD k 0≤s.dg k:=by
 have hm:=mem_getD (l:=s.cur) (i:=e.g.toNat) (by rw [hok.cl];exact hg)
 have hb:=mem_getD (l:=s.birth) (i:=e.g.toNat) (by rw [hok.bl];exact hg)
 unfold startC;split
 ·rename_i hz;rw [hz,ckZ_get];exact ⟨(hok.bc _ hb).get k,h.bc _ hb k hk⟩
 ·exact ⟨Int.le_refl _,h.cc _ hm k hk⟩
theorem out_le (h:Cnt s) (i:Nat) (hd:∀ k,k < 8→0≤s.dg k) {k:Nat} (hk:k < 8):(s.out.getD i ckZ).getD k 0≤s.dg k:=by
 rcases Nat.lt_or_ge i s.out.length with hi | hi
 ·exact h.oc _ (mem_getD hi) k hk
 ·rw [getD_none hi,ckZ_get];exact hd k hk
theorem out_len (hok:SOk s j) (i:Nat):(s.out.getD i ckZ).length=8:=by
 rcases Nat.lt_or_ge i s.out.length with hi | hi
 ·exact (hok.oc _ (mem_getD hi)).1
 ·rw [List.getD_eq_getElem?_getD,List.getElem?_eq_none hi];rfl
theorem dg_nonneg (hok:SOk s j) (k:Nat):0≤s.dg k:=by
 unfold SSt.dg
 rcases Nat.lt_or_ge k s.cur.length with hi | hi
 ·exact (hok.cc _ (mem_getD hi)).get k
 ·rw [getD_none hi,ckZ_get];exact Int.le_refl _
theorem Cnt.inTo (h:Cnt s) (hok:SOk s j) (hg:e.g.toNat < 8) (i:Nat) {k:Nat} (hk:k < 8):(startC s e).getD k 0≤(Go.Proofs.Ytffcpijeebagfaa.inTo l s.out e (startC s e, -1) i).1.getD k 0∧(Go.Proofs.Ytffcpijeebagfaa.inTo l s.out e (startC s e, -1) i).1.getD k 0≤s.dg k:=by
 induction i with
 | zero=>exact ⟨Int.le_refl _,(h.start hok hg hk).2⟩
 | succ i ih =>
   simp only [Go.Proofs.Ytffcpijeebagfaa.inTo,inStep];split
   ·rw [getD_join (hok.inTo l e i).1.1 (out_len hok i) hk];have:=out_le h i (fun k _=>dg_nonneg hok k) hk;split <;> omega
   ·exact ih
theorem Cnt.pre (h:Cnt s) (hok:SOk s j) (hg:e.g.toNat < 8) {k:Nat} (hk:k < 8):(startC s e).getD k 0≤(preC l s e j).getD k 0∧(preC l s e j).getD k 0≤s.dg k:=by
 have h1:=h.inTo (l:=l) hok hg j hk;unfold preC;split
 ·rw [getD_join (hok.inTo l e j).1.1 (out_len hok _) hk];have:=out_le h (Go.Proofs.Ytffcpijeebagfaa.inTo l s.out e (startC s e, -1) j).2.toNat (fun k _=>dg_nonneg hok k) hk;split <;> omega
 ·exact h1
theorem preC_len (hok:SOk s j):(preC l s e j).length=8:=(hok.pre l e).1
theorem Cnt.own (h:Cnt s) (hok:SOk s j) (hg:e.g.toNat < 8):(preC l s e j).getD e.g.toNat 0=s.dg e.g.toNat:=by
 have h1:=h.pre (l:=l) hok hg hg;have h2:=h.start hok hg hg (e:=e);have h3:(s.cur.getD e.g.toNat ckZ).getD e.g.toNat 0=s.dg e.g.toNat:=rfl;omega
theorem set_get {c:Ck} {i k:Nat} {x:Int} (hi:i < c.length):(c.set i x).getD k 0=if k=i then x else c.getD k 0:=by
 rw [List.getD_eq_getElem?_getD,List.getD_eq_getElem?_getD,List.getElem?_set]
 by_cases h:i=k
 ·subst h;rw [if_pos rfl,if_pos rfl,if_pos hi];rfl
 ·rw [if_neg h,if_neg (Ne.symm h)]
theorem Cnt.clock (h:Cnt s) (hok:SOk s j) (hg:e.g.toNat < 8):(clockAt l s e j).getD e.g.toNat 0=s.dg e.g.toNat+1∧∀ k,k < 8→(s.cur.getD e.g.toNat ckZ).getD k 0≤(clockAt l s e j).getD k 0∧(k≠e.g.toNat→(clockAt l s e j).getD k 0≤s.dg k):=by
 have hl:=preC_len (l:=l) (e:=e) hok;rw [clockAt_eq];refine ⟨by rw [set_get (by omega),if_pos rfl,h.own hok hg],fun k hk=>?_⟩;rw [set_get (by omega)];have h1:=h.pre (l:=l) hok hg hk;have h2:=h.start hok hg hk (e:=e)
 by_cases hkg:k=e.g.toNat
 ·rw [if_pos hkg];have:=h.own (l:=l) hok hg;subst hkg;exact ⟨by omega,fun hn=>absurd rfl hn⟩
 ·rw [if_neg hkg];exact ⟨by omega,fun _=>h1.2⟩
theorem Cnt.step (h:Cnt s) (hok:SOk s j) (hg:e.g.toNat < 8):Cnt (s.step l e j):=by
 have hcl:=hok.cl;obtain ⟨hc1,hc2⟩:=h.clock (l:=l) hok hg
 have hdg:∀ k,k < 8→(s.step l e j).dg k=if k=e.g.toNat then s.dg e.g.toNat+1 else s.dg k:=fun k hk=>by
  show ((s.cur.set e.g.toNat (clockAt l s e j)).getD k ckZ).getD k 0=_
  rw [List.getD_eq_getElem?_getD (l:=s.cur.set _ _),List.getElem?_set]
  by_cases hkg:e.g.toNat=k
  ·subst hkg;rw [if_pos rfl,if_pos (by omega),if_pos rfl];exact hc1
  ·rw [if_neg hkg,if_neg (Ne.symm hkg)]
   show (s.cur[k]?.getD ckZ).getD k 0=(s.cur.getD k ckZ).getD k 0
   rw [List.getD_eq_getElem?_getD (l:=s.cur)]
 have up:∀ k,k < 8→s.dg k≤(s.step l e j).dg k:=fun k hk=>by
  rw [hdg k hk];split
  ·rename_i h;rw [h];omega
  ·exact Int.le_refl _
 have hnew:∀ k,k < 8→(clockAt l s e j).getD k 0≤(s.step l e j).dg k:=fun k hk=>by
  rw [hdg k hk];split
  ·rename_i h;rw [h,hc1];exact Int.le_refl _
  ·rename_i h;exact (hc2 k hk).2 h
 refine ⟨fun c hm k hk=>?_,fun c hm k hk=>?_,fun c hm k hk=>?_⟩
 ·rcases List.mem_or_eq_of_mem_set hm with hm | rfl
  ·exact Int.le_trans (h.cc c hm k hk) (up k hk)
  ·exact hnew k hk
 ·simp only [SSt.step] at hm;split at hm
  ·rcases List.mem_or_eq_of_mem_set hm with hm | rfl
   ·exact Int.le_trans (h.bc c hm k hk) (up k hk)
   ·exact hnew k hk
  ·exact Int.le_trans (h.bc c hm k hk) (up k hk)
 ·simp only [SSt.step,List.mem_append,List.mem_singleton] at hm
  rcases hm with hm | rfl
  ·exact Int.le_trans (h.oc c hm k hk) (up k hk)
  ·exact hnew k hk
end
theorem runTo_cnt {l:List Ev} (hv:∀ e,e ∈ l→0≤e.g∧e.g < 8) {j:Nat} (hj:j≤l.length):Cnt (runTo l j):=by
 induction j with
 | zero =>
   have hz:∀ c,c ∈ List.replicate 8 ckZ→∀ k,k < 8→c.getD k 0≤(runTo l 0).dg k:=fun c hc k hk=>by
    simp at hc;subst hc;rw [ckZ_get];exact dg_nonneg (runTo_ok l 0) k
   exact ⟨hz,hz,fun c hc=>by simp [runTo] at hc⟩
 | succ j ih =>
   have he:=List.getElem?_eq_getElem (show j < l.length by omega);have hg:=hv (l.getD j default) (by rw [List.getD_eq_getElem?_getD,he];exact List.getElem_mem _)
   exact (ih (by omega)).step (runTo_ok l j) (by omega)
theorem out_prefix (l:List Ev) {i j:Nat} (h:i≤j):(runTo l j).out.take i=(runTo l i).out:=by
 induction j with
 | zero =>
   have:i=0:=by omega
   subst this;rfl
 | succ j ih =>
   rcases Nat.lt_or_eq_of_le h with h | h
   ·show ((runTo l j).out ++ [_]).take i=_
    rw [List.take_append_of_le_length (by rw [(runTo_ok l j).ol];omega)]
    exact ih (by omega)
   ·subst h;rw [List.take_of_length_le (by rw [(runTo_ok l (j+1)).ol];exact Nat.le_refl _)]
theorem stamps_at {l:List Ev} {i:Nat} {e:Ev} (he:l[i]? = some e):(stampsL l)[i]? = some (clockAt l (runTo l i) e i):=by
 have hi:=(List.getElem?_eq_some_iff.1 he).1;have hed:l.getD i default=e:=by rw [List.getD_eq_getElem?_getD,he];rfl
 have h1:=out_prefix l (i:=i+1) (j:=l.length) hi
 have h2:(runTo l (i+1)).out[i]? = some (clockAt l (runTo l i) e i):=by
  show ((runTo l i).out ++ [clockAt l (runTo l i) (l.getD i default) i])[i]? = _
  rw [hed,List.getElem?_append_right (by rw [(runTo_ok l i).ol];exact Nat.le_refl _),(runTo_ok l i).ol,Nat.sub_self];rfl
 rw [←h1,List.getElem?_take,if_pos (by omega)] at h2;exact h2
theorem Ev.valid_rg {e:Ev} (h:e.valid=true):(0≤e.g∧e.g < 8)∧(0≤e.k∧e.k≤2147483647)∧(0≤e.n∧e.n≤2147483647)∧(e.kind=14→0≤e.k∧e.k < 8):=by
 simp only [Ev.valid,rangeB,Bool.and_eq_true,decide_eq_true_eq] at h;refine ⟨by omega,by omega,by omega,fun hk=>?_⟩;have:=h.2;unfold Ev.rest at this;rw [if_pos hk] at this;simp only [decide_eq_true_eq] at this;omega
def evAt (l:List Ev) (i:Nat):Ev:=l.getD i default
theorem evAt_of {l:List Ev} {i:Nat} {e:Ev} (h:l[i]? = some e):evAt l i=e:=by unfold evAt;rw [List.getD_eq_getElem?_getD,h];rfl
theorem evAt_mem {l:List Ev} {i:Nat} (h:i < l.length):evAt l i ∈ l:=by
 rw [evAt_of (List.getElem?_eq_getElem h)];exact List.getElem_mem h
def Prog (l:List Ev) (i j:Nat):Prop:=(evAt l i).g=(evAt l j).g∧∀ k,i < k→k < j→(evAt l k).g≠(evAt l i).g
def First (l:List Ev) (j:Nat):Prop:=∀ k,k < j→(evAt l k).g≠(evAt l j).g
def Atom (l:List Ev) (i j:Nat):Prop:=∀ k,i < k→k < j→atomB (evAt l k) (evAt l j)=false
def Kinds (l:List Ev) (i j:Nat) (a b:Ev):Prop :=
 (a.kind=15∧b.kind=18∧b.k=a.k)∨(a.kind=17∧b.kind=16∧b.k=a.k+a.n)∨(a.kind=19∧b.kind=20)∨(a.kind=7∧(b.kind=6∨b.kind=8)) ∨
 (a.kind=9∧b.kind=6)∨(a.kind=10∧b.kind=11)∨(a.kind=12∧b.kind=13)∨((a.kind=4∨a.kind=5)∧(b.kind=3∨b.kind=5)∧Atom l i j)
def Syn (l:List Ev) (i j:Nat):Prop:=(evAt l i).obj=(evAt l j).obj∧(evAt l i).off=(evAt l j).off∧Kinds l i j (evAt l i) (evAt l j)
def GoE (l:List Ev) (i j:Nat):Prop:=(evAt l i).kind=14∧(evAt l i).k=(evAt l j).g∧First l j
def Imm (l:List Ev) (i j:Nat):Prop:=Prog l i j∨GoE l i j∨Syn l i j
inductive HB (l:List Ev):Nat→Nat→Prop
 | one {i j:Nat} (h:i < j) (hi:Imm l i j):HB l i j
 | step {i k j:Nat} (h:HB l i k) (hk:k < j) (hi:Imm l k j):HB l i j
def HBE (l:List Ev) (i j:Nat):Prop:=i=j∨HB l i j
theorem HB.lt {l:List Ev} {i j:Nat} (h:HB l i j):i < j:=by
 induction h with
 | one h _=>exact h
 | step _ hk _ ih=>omega
theorem HBE.le {l:List Ev} {i j:Nat} (h:HBE l i j):i≤j:=by
 rcases h with rfl | h
 ·exact Nat.le_refl _
 ·exact Nat.le_of_lt h.lt
theorem HB_iff {l:List Ev} {i j:Nat}:HB l i j↔∃ k,k < j∧Imm l k j∧HBE l i k:=by
 refine ⟨fun h=>?_,fun ⟨k,hk,hi,h⟩=>?_⟩
 ·cases h with
  | one h hi=>exact ⟨i,h,hi,.inl rfl⟩
  | step h hk hi=>exact ⟨_,hk,hi,.inr h⟩
 ·rcases h with rfl | h
  ·exact .one hk hi
  ·exact .step h hk hi
theorem HBE.trans {l:List Ev} {i k j:Nat} (h:HBE l i k) (h2:HB l k j):HB l i j:=by
 induction h2 with
 | one hk hi=>exact HB_iff.2 ⟨_,hk,hi,h⟩
 | step _ hk hi ih=>exact HB_iff.2 ⟨_,hk,hi,.inr ih⟩
def cntG (l:List Ev) (g:Int):Nat→Nat
 | 0=>0
 | n+1=>if (evAt l n).g=g then cntG l g n+1 else cntG l g n
def ord (l:List Ev) (i:Nat):Nat:=cntG l (evAt l i).g (i+1)
theorem ord_eq (l:List Ev) (i:Nat):ord l i=cntG l (evAt l i).g i+1:=by unfold ord;simp only [cntG];rw [if_pos trivial]
theorem cntG_mono {l:List Ev} {g:Int} {m n:Nat} (h:m≤n):cntG l g m≤cntG l g n:=by
 induction n with
 | zero=>have:m=0:=by omega
         subst this;exact Nat.le_refl _
 | succ n ih =>
   rcases Nat.lt_or_eq_of_le h with h | h
   ·have:=ih (by omega);simp only [cntG];split <;> omega
   ·subst h;exact Nat.le_refl _
theorem cntG_lt {l:List Ev} {g:Int} {p n:Nat} (h:p < n) (hp:(evAt l p).g=g):cntG l g p < cntG l g n:=by
 have:cntG l g (p+1)≤cntG l g n:=cntG_mono h;simp only [cntG] at this;rw [if_pos hp] at this;omega
theorem cntG_none {l:List Ev} {g:Int} {n:Nat} (h:∀ k,k < n→(evAt l k).g≠g):cntG l g n=0:=by
 induction n with
 | zero=>rfl
 | succ n ih=>simp only [cntG];rw [if_neg (h n (by omega))];exact ih (fun k hk=>h k (by omega))
theorem cntG_pos {l:List Ev} {g:Int} {n:Nat} (h:0 < cntG l g n):∃ p,p < n∧(evAt l p).g=g∧∀ k,p < k→k < n→(evAt l k).g≠g:=by
 induction n with
 | zero=>simp [cntG] at h
 | succ n ih =>
   by_cases hn:(evAt l n).g=g
   ·exact ⟨n,by omega,hn,fun k h1 h2=>by omega⟩
   ·simp only [cntG] at h;rw [if_neg hn] at h;obtain ⟨p,h1,h2,h3⟩:=ih h;refine ⟨p,by omega,h2,fun k hk1 hk2=>?_⟩
    rcases Nat.lt_or_eq_of_le (Nat.le_of_lt_succ hk2) with h4 | h4
    ·exact h3 k hk1 h4
    ·subst h4;exact hn
theorem HBE.prog {l:List Ev} {i j:Nat} (hij:i≤j) (hg:(evAt l i).g=(evAt l j).g):HBE l i j:=by
 induction j using Nat.strongRecOn with
 | ind j ih =>
   rcases Nat.lt_or_eq_of_le hij with h | h
   ·obtain ⟨p,h1,h2,h3⟩:=cntG_pos (l:=l) (g:=(evAt l j).g) (n:=j) (by have:=cntG_lt h hg;omega)
    have hip:i≤p:=by
     rcases Nat.lt_or_ge p i with h4 | h4
     ·exact absurd hg (h3 i h4 h)
     ·exact h4
    exact .inr (HB_iff.2 ⟨p,h1,.inl ⟨h2,fun k hk1 hk2=>by rw [h2];exact h3 k hk1 hk2⟩,ih p h1 hip (hg.trans h2.symm)⟩)
   ·exact .inl h
structure VL (l:List Ev):Prop where
 v:∀ e,e ∈ l→e.valid=true
 go:∀ p q,p < l.length→q < l.length→(evAt l p).kind=14→(evAt l q).kind=14→(evAt l p).k=(evAt l q).k→p=q
 cap:∀ p q,p < l.length→q < l.length→(evAt l p).kind=17→(evAt l q).kind=16→(evAt l p).obj=(evAt l q).obj→(evAt l p).n=(evAt l q).n
def stp (l:List Ev) (p:Nat):Ck:=(stampsL l).getD p ckZ
section
variable {l:List Ev} (V:VL l)
include V
theorem VL.g {i:Nat} (h:i < l.length):0≤(evAt l i).g∧(evAt l i).g < 8:=(Ev.valid_rg (V.v _ (evAt_mem h))).1
theorem VL.cnt {j:Nat} (h:j≤l.length):Cnt (runTo l j):=runTo_cnt (fun e he=>(Ev.valid_rg (V.v e he)).1) h
omit V in
theorem runTo_succ (l:List Ev) (j:Nat):runTo l (j+1)=(runTo l j).step l (evAt l j) j:=rfl
omit V in
theorem stp_at {j:Nat} (h:j < l.length):stp l j=clockAt l (runTo l j) (evAt l j) j:=by
 have he:l[j]? = some (evAt l j):=by rw [evAt_of (List.getElem?_eq_getElem h)];exact List.getElem?_eq_getElem h
 unfold stp;rw [List.getD_eq_getElem?_getD,stamps_at he];rfl
omit V in
theorem out_stp {p j:Nat} (h:p < j) (hj:j≤l.length):(runTo l j).out.getD p ckZ=stp l p:=by
 have h1:=out_prefix l hj;unfold stp stampsL;rw [←h1,List.getD_eq_getElem?_getD,List.getD_eq_getElem?_getD,List.getElem?_take,if_pos h]
omit V in
theorem stp_len {j:Nat}:(stp l j).length=8:=by
 unfold stp
 rcases Nat.lt_or_ge j (stampsL l).length with h | h
 ·exact (stampsL_ok l _ (mem_getD h)).1
 ·rw [getD_none h];rfl
theorem dg_cnt {j:Nat} (hj:j≤l.length) {g:Int} (h0:0≤g) (h8:g < 8):(runTo l j).dg g.toNat=(cntG l g j:Int):=by
 induction j with
 | zero =>
   have:∀ k,k < 8→(runTo l 0).dg k=0:=by
    intro k hk;unfold SSt.dg
    show ((List.replicate 8 ckZ).getD k ckZ).getD k 0=0
    rw [List.getD_eq_getElem?_getD (l:=List.replicate 8 ckZ),List.getElem?_replicate,if_pos hk];exact ckZ_get k
   rw [this _ (by omega)];rfl
 | succ j ih =>
   have hg:=V.g (i:=j) (by omega);have hc:=(V.cnt (j:=j) (by omega)).clock (l:=l) (e:=evAt l j) (runTo_ok l j) (by omega);have hcl:=(runTo_ok l j).cl;rw [runTo_succ]
   have:((runTo l j).step l (evAt l j) j).dg g.toNat=if g.toNat=(evAt l j).g.toNat then (runTo l j).dg (evAt l j).g.toNat+1 else (runTo l j).dg g.toNat:=by
    show (((runTo l j).cur.set (evAt l j).g.toNat (clockAt l (runTo l j) (evAt l j) j)).getD g.toNat ckZ).getD g.toNat 0=_
    rw [List.getD_eq_getElem?_getD (l:=(runTo l j).cur.set _ _),List.getElem?_set]
    by_cases hkg:(evAt l j).g.toNat=g.toNat
    ·rw [hkg,if_pos rfl,if_pos (by omega),if_pos rfl,←hkg];exact hc.1
    ·rw [if_neg hkg,if_neg (Ne.symm hkg)]
     show ((runTo l j).cur[g.toNat]?.getD ckZ).getD g.toNat 0=((runTo l j).cur.getD g.toNat ckZ).getD g.toNat 0
     rw [List.getD_eq_getElem?_getD (l:=(runTo l j).cur)]
   rw [this];simp only [cntG]
   by_cases hkg:(evAt l j).g=g
   ·subst hkg;rw [if_pos rfl,if_pos rfl,ih (by omega)];omega
   ·rw [if_neg (by omega),if_neg hkg,ih (by omega)]
theorem stp_own {j:Nat} (h:j < l.length):(stp l j).getD (evAt l j).g.toNat 0=(ord l j:Int):=by
 have hg:=V.g h;rw [stp_at h,((V.cnt (j:=j) (by omega)).clock (l:=l) (e:=evAt l j) (runTo_ok l j) (by omega)).1,dg_cnt V (by omega) hg.1 hg.2,ord_eq];omega
theorem stp_le {j:Nat} (h:j < l.length) {g:Int} (h0:0≤g) (h8:g < 8):(stp l j).getD g.toNat 0≤(cntG l g (j+1):Int):=by
 have h1:=V.cnt (j:=j+1) h;rw [←dg_cnt V (j:=j+1) h h0 h8,←out_stp (l:=l) (p:=j) (j:=j+1) (by omega) h];exact h1.oc _ (mem_getD (by rw [(runTo_ok l (j+1)).ol];omega)) _ (by omega)
omit V in
theorem stp_nonneg {j k:Nat}:0≤(stp l j).getD k 0:=by
 unfold stp
 rcases Nat.lt_or_ge j (stampsL l).length with h | h
 ·exact (stampsL_ok l _ (mem_getD h)).get k
 ·rw [getD_none h,ckZ_get];exact Int.le_refl _
omit V in
theorem getD_set {α:Type} {a:List α} {i k:Nat} {x d:α} (hi:i < a.length):(a.set i x).getD k d=if k=i then x else a.getD k d:=by
 rw [List.getD_eq_getElem?_getD,List.getD_eq_getElem?_getD,List.getElem?_set]
 by_cases h:i=k
 ·subst h;rw [if_pos rfl,if_pos rfl,if_pos hi];rfl
 ·rw [if_neg h,if_neg (Ne.symm h)]
theorem cur_last {j:Nat} (hj:j≤l.length) {g:Int} (h0:0≤g) (h8:g < 8):(cntG l g j=0→(runTo l j).cur.getD g.toNat ckZ=ckZ) ∧
 ∀ p,p < j→(evAt l p).g=g→(∀ k,p < k→k < j→(evAt l k).g≠g)→(runTo l j).cur.getD g.toNat ckZ=stp l p:=by
 induction j with
 | zero =>
   refine ⟨fun _=>?_,fun p hp=>by omega⟩
   show (List.replicate 8 ckZ).getD g.toNat ckZ=ckZ
   rw [List.getD_eq_getElem?_getD,List.getElem?_replicate,if_pos (by omega)];rfl
 | succ j ih =>
   obtain ⟨i1,i2⟩:=ih (by omega);have hg:=V.g (i:=j) (by omega);have hcl:=(runTo_ok l j).cl
   have hcur:(runTo l (j+1)).cur.getD g.toNat ckZ=if g.toNat=(evAt l j).g.toNat then stp l j else (runTo l j).cur.getD g.toNat ckZ:=by
    show ((runTo l j).cur.set (evAt l j).g.toNat (clockAt l (runTo l j) (evAt l j) j)).getD g.toNat ckZ=_
    rw [getD_set (by omega),stp_at (by omega)]
   rw [hcur];refine ⟨fun h=>?_,fun p hp h1 h2=>?_⟩
   ·simp only [cntG] at h
    by_cases hkg:(evAt l j).g=g
    ·rw [if_pos hkg] at h;omega
    ·rw [if_neg hkg] at h;rw [if_neg (by omega)];exact i1 h
   ·by_cases hkg:(evAt l j).g=g
    ·have:p=j:=by
      rcases Nat.lt_or_eq_of_le (Nat.le_of_lt_succ hp) with h3 | h3
      ·exact absurd hkg (h2 j h3 (by omega))
      ·exact h3
     subst this;rw [if_pos (by omega)]
    ·have:p≠j:=fun h=>hkg (h ▸ h1)
     rw [if_neg (by omega)];exact i2 p (by omega) h1 (fun k hk1 hk2=>h2 k hk1 (by omega))
theorem birth_last {j:Nat} (hj:j≤l.length) {g:Int} (h0:0≤g) (h8:g < 8):((∀ q,q < j→¬ ((evAt l q).kind=14∧(evAt l q).k=g))→(runTo l j).birth.getD g.toNat ckZ=ckZ) ∧
 ∀ q,q < j→(evAt l q).kind=14→(evAt l q).k=g→(runTo l j).birth.getD g.toNat ckZ=stp l q:=by
 induction j with
 | zero =>
   refine ⟨fun _=>?_,fun p hp=>by omega⟩
   show (List.replicate 8 ckZ).getD g.toNat ckZ=ckZ
   rw [List.getD_eq_getElem?_getD,List.getElem?_replicate,if_pos (by omega)];rfl
 | succ j ih =>
   obtain ⟨i1,i2⟩:=ih (by omega);have hbl:=(runTo_ok l j).bl;have hval:=V.v _ (evAt_mem (show j < l.length by omega))
   have hk:(evAt l j).kind=14→0≤(evAt l j).k∧(evAt l j).k < 8:=fun h=>by
    have:=(Ev.valid_rg hval).2.2.2;have h2:=this h;omega
   have hb:(runTo l (j+1)).birth.getD g.toNat ckZ=if (evAt l j).kind=14∧g.toNat=(evAt l j).k.toNat then stp l j else (runTo l j).birth.getD g.toNat ckZ:=by
    show (if (evAt l j).kind=14 then (runTo l j).birth.set (evAt l j).k.toNat (clockAt l (runTo l j) (evAt l j) j) else (runTo l j).birth).getD g.toNat ckZ=_
    by_cases h14:(evAt l j).kind=14
    ·have:=hk h14;rw [if_pos h14,getD_set (by omega),stp_at (by omega)]
     by_cases hgk:g.toNat=(evAt l j).k.toNat
     ·rw [if_pos hgk,if_pos ⟨h14,hgk⟩]
     ·rw [if_neg hgk,if_neg (fun h=>hgk h.2)]
    ·rw [if_neg h14,if_neg (fun h=>h14 h.1)]
   rw [hb];refine ⟨fun h=>?_,fun q hq h1 h2=>?_⟩
   ·rw [if_neg]
    ·exact i1 (fun q hq=>h q (by omega))
    ·rintro ⟨h3,h4⟩;have:=hk h3;exact h j (by omega) ⟨h3,by omega⟩
   ·by_cases hq':q=j
    ·subst hq';rw [if_pos ⟨h1,by omega⟩]
    ·rw [if_neg]
     ·exact i2 q (by omega) h1 h2
     ·rintro ⟨h3,h4⟩;have:=hk h3;exact hq' (V.go q j (by omega) (by omega) h1 h3 (by omega))
theorem start_iff {j:Nat} (h:j < l.length) {c:Int} (hc:1≤c) (k:Nat):c≤(startC (runTo l j) (evAt l j)).getD k 0↔∃ i,i < j∧(Prog l i j∨GoE l i j)∧c≤(stp l i).getD k 0:=by
 have hg:=V.g h;obtain ⟨c1,c2⟩:=cur_last V (j:=j) (by omega) hg.1 hg.2;obtain ⟨b1,b2⟩:=birth_last V (j:=j) (by omega) hg.1 hg.2
 by_cases hf:First l j
 ·have hz:=c1 (cntG_none hf);unfold startC;rw [if_pos hz]
  by_cases hq:∃ q,q < j∧(evAt l q).kind=14∧(evAt l q).k=(evAt l j).g
  ·obtain ⟨q,hq1,hq2,hq3⟩:=hq;rw [b2 q hq1 hq2 hq3];refine ⟨fun h2=>⟨q,hq1,.inr ⟨hq2,hq3,hf⟩,h2⟩,fun ⟨i,hi,hp,h2⟩=>?_⟩
   rcases hp with hp | hp
   ·exact absurd hp.1 (hf i hi)
   ·have:=V.go i q (by omega) (by omega) hp.1 hq2 (hp.2.1.trans hq3.symm);subst this;exact h2
  ·rw [b1 (fun q hq1 hq2=>hq ⟨q,hq1,hq2⟩),ckZ_get];refine ⟨fun h2=>by omega,fun ⟨i,hi,hp,h2⟩=>?_⟩
   rcases hp with hp | hp
   ·exact absurd hp.1 (hf i hi)
   ·exact absurd ⟨i,hi,hp.1,hp.2.1⟩ hq
 ·have hpos:0 < cntG l (evAt l j).g j:=by
   rcases Nat.eq_zero_or_pos (cntG l (evAt l j).g j) with h0 | h0
   ·exfalso
    apply hf
    intro k hk hkg;have:=cntG_lt hk hkg;omega
   ·exact h0
  obtain ⟨p,hp1,hp2,hp3⟩:=cntG_pos hpos;have hcur:=c2 p hp1 hp2 hp3
  have hnz:stp l p≠ckZ:=fun hz=>by
   have:=stp_own V (j:=p) (by omega);rw [hz,ckZ_get] at this;have:=ord_eq l p;omega
  unfold startC;rw [hcur,if_neg hnz];refine ⟨fun h2=>⟨p,hp1,.inl ⟨hp2,fun k hk1 hk2=>by rw [hp2];exact hp3 k hk1 hk2⟩,h2⟩,fun ⟨i,hi,hp,h2⟩=>?_⟩
  rcases hp with hp | hp
  ·have:i=p:=by
    rcases Nat.lt_trichotomy i p with h4 | h4 | h4
    ·exact absurd (hp2.trans hp.1.symm) (hp.2 p h4 hp1)
    ·exact h4
    ·exact absurd hp.1 (hp3 i h4 hi)
   subst this;exact h2
  ·exact absurd hp.2.2 hf
omit V in
theorem in_iff {j:Nat} (h:j < l.length) {c:Int} {k:Nat} (hk:k < 8) (n:Nat) (hn:n≤j) :
 (c≤(inTo l (runTo l j).out (evAt l j) (startC (runTo l j) (evAt l j), -1) n).1.getD k 0↔c≤(startC (runTo l j) (evAt l j)).getD k 0∨∃ i,i < n∧syncB (evAt l i) (evAt l j)=true∧c≤(stp l i).getD k 0):=by
 induction n with
 | zero=>simp only [inTo];exact ⟨.inl,fun h=>h.elim id (fun ⟨i,hi,_⟩=>by omega)⟩
 | succ n ih =>
   have ih:=ih (by omega);simp only [inTo,inStep];have he:l.getD n default=evAt l n:=rfl;rw [he]
   by_cases hs:syncB (evAt l n) (evAt l j)=true
   ·rw [if_pos hs,getD_join ((runTo_ok l j).inTo l (evAt l j) n).1.1 (out_len (runTo_ok l j) n) hk,out_stp (by omega) (by omega)]
    have hmax:(c≤if (stp l n).getD k 0 > (inTo l (runTo l j).out (evAt l j) (startC (runTo l j) (evAt l j), -1) n).1.getD k 0 then (stp l n).getD k 0 else (inTo l (runTo l j).out (evAt l j) (startC (runTo l j) (evAt l j), -1) n).1.getD k 0) ↔
     (c≤(inTo l (runTo l j).out (evAt l j) (startC (runTo l j) (evAt l j), -1) n).1.getD k 0∨c≤(stp l n).getD k 0):=by
     split <;> omega
    rw [hmax,ih];refine ⟨fun h2=>?_,fun h2=>?_⟩
    ·rcases h2 with (h2 | ⟨i,hi,h3⟩) | h2
     ·exact .inl h2
     ·exact .inr ⟨i,by omega,h3⟩
     ·exact .inr ⟨n,by omega,hs,h2⟩
    ·rcases h2 with h2 | ⟨i,hi,h3,h4⟩
     ·exact .inl (.inl h2)
     ·by_cases hin:i=n
      ·subst hin;exact .inr h4
      ·exact .inl (.inr ⟨i,by omega,h3,h4⟩)
   ·rw [if_neg hs,ih];refine ⟨fun h2=>?_,fun h2=>?_⟩
    ·rcases h2 with h2 | ⟨i,hi,h3⟩
     ·exact .inl h2
     ·exact .inr ⟨i,by omega,h3⟩
    ·rcases h2 with h2 | ⟨i,hi,h3,h4⟩
     ·exact .inl h2
     ·by_cases hin:i=n
      ·subst hin;exact absurd h3 hs
      ·exact .inr ⟨i,by omega,h3,h4⟩
omit V in
theorem at_in (out:List Ck) (e:Ev) (c:Ck) (n:Nat):((inTo l out e (c, -1) n).2=-1∧∀ k,k < n→atomB (evAt l k) e=false) ∨
 ∃ a:Nat,a < n∧(inTo l out e (c, -1) n).2=(a:Int)∧atomB (evAt l a) e=true∧∀ k,a < k→k < n→atomB (evAt l k) e=false:=by
 induction n with
 | zero=>exact .inl ⟨rfl,fun k hk=>by omega⟩
 | succ n ih =>
   simp only [inTo,inStep];have he:l.getD n default=evAt l n:=rfl;rw [he]
   cases hb:atomB (evAt l n) e with
   | true=>rw [if_pos rfl];exact .inr ⟨n,by omega,rfl,hb,fun k h1 h2=>by omega⟩
   | false =>
     rw [if_neg (by decide)];have ext:∀ k,k < n+1→k=n∨k < n:=fun k hk=>by omega
     rcases ih with ⟨h1,h2⟩ | ⟨a,h1,h2,h3,h4⟩
     ·exact .inl ⟨h1,fun k hk=>(ext k hk).elim (fun h=>h ▸ hb) (h2 k)⟩
     ·exact .inr ⟨a,by omega,h2,h3,fun k hk1 hk2=>(ext k hk2).elim (fun h=>h ▸ hb) (h4 k hk1)⟩
theorem sync_syn {i j:Nat} (hi:i < l.length) (hj:j < l.length):Syn l i j↔syncB (evAt l i) (evAt l j)=true∨(atomB (evAt l i) (evAt l j)=true∧((evAt l j).kind=3∨(evAt l j).kind=5)∧Atom l i j):=by
 have hcap:=V.cap i j hi hj;unfold Syn Kinds syncB atomB;generalize evAt l i=a at *;generalize evAt l j=b at *
 by_cases ho:a.obj=b.obj
 ·by_cases hf:a.off=b.off
  ·have hcap':a.kind=17→b.kind=16→a.n=b.n:=fun h1 h2=>hcap h1 h2 ho
   clear hcap;simp only [ho,hf,ne_eq,not_true_eq_false,if_false,true_and,beq_self_eq_true,Bool.true_and,Bool.or_eq_true,beq_iff_eq];generalize Atom l i j=P
   by_cases k18:b.kind=18
   ·rw [if_pos k18];simp only [Bool.and_eq_true,beq_iff_eq];refine ⟨fun h=>?_,fun h=>?_⟩
    ·rcases h with h | h | h | h | h | h | h | ⟨h1,h2,_⟩ <;> first | (left;omega) | (exfalso;omega)
    ·rcases h with h | ⟨h1,h2,_⟩
     ·first | (refine .inl ?_;omega) | (refine .inr (.inl ?_);omega) | (refine .inr (.inr (.inl ?_));omega) | (refine .inr (.inr (.inr (.inl ?_)));omega) | (refine .inr (.inr (.inr (.inr (.inl ?_))));omega) | (refine .inr (.inr (.inr (.inr (.inr (.inl ?_)))));omega) | (refine .inr (.inr (.inr (.inr (.inr (.inr (.inl ?_))))));omega)
     ·exfalso;omega
   by_cases k16:b.kind=16
   ·rw [if_neg k18,if_pos k16];simp only [Bool.and_eq_true,beq_iff_eq];refine ⟨fun h=>?_,fun h=>?_⟩
    ·rcases h with h | h | h | h | h | h | h | ⟨h1,h2,_⟩ <;> first | (left;omega) | (exfalso;omega)
    ·rcases h with h | ⟨h1,h2,_⟩
     ·first | (refine .inl ?_;omega) | (refine .inr (.inl ?_);omega) | (refine .inr (.inr (.inl ?_));omega) | (refine .inr (.inr (.inr (.inl ?_)));omega) | (refine .inr (.inr (.inr (.inr (.inl ?_))));omega) | (refine .inr (.inr (.inr (.inr (.inr (.inl ?_)))));omega) | (refine .inr (.inr (.inr (.inr (.inr (.inr (.inl ?_))))));omega)
     ·exfalso;omega
   by_cases k20:b.kind=20
   ·rw [if_neg k18,if_neg k16,if_pos k20];simp only [beq_iff_eq];refine ⟨fun h=>?_,fun h=>?_⟩
    ·rcases h with h | h | h | h | h | h | h | ⟨h1,h2,_⟩ <;> first | (left;omega) | (exfalso;omega)
    ·rcases h with h | ⟨h1,h2,_⟩
     ·first | (refine .inl ?_;omega) | (refine .inr (.inl ?_);omega) | (refine .inr (.inr (.inl ?_));omega) | (refine .inr (.inr (.inr (.inl ?_)));omega) | (refine .inr (.inr (.inr (.inr (.inl ?_))));omega) | (refine .inr (.inr (.inr (.inr (.inr (.inl ?_)))));omega) | (refine .inr (.inr (.inr (.inr (.inr (.inr (.inl ?_))))));omega)
     ·exfalso;omega
   by_cases k6:b.kind=6
   ·rw [if_neg k18,if_neg k16,if_neg k20,if_pos k6];simp only [Bool.or_eq_true,beq_iff_eq];refine ⟨fun h=>?_,fun h=>?_⟩
    ·rcases h with h | h | h | h | h | h | h | ⟨h1,h2,_⟩ <;> first | (left;omega) | (exfalso;omega)
    ·rcases h with h | ⟨h1,h2,_⟩
     ·(rcases h with h | h <;> first | (refine .inl ?_;omega) | (refine .inr (.inl ?_);omega) | (refine .inr (.inr (.inl ?_));omega) | (refine .inr (.inr (.inr (.inl ?_)));omega) | (refine .inr (.inr (.inr (.inr (.inl ?_))));omega) | (refine .inr (.inr (.inr (.inr (.inr (.inl ?_)))));omega) | (refine .inr (.inr (.inr (.inr (.inr (.inr (.inl ?_))))));omega))
     ·exfalso;omega
   by_cases k8:b.kind=8
   ·rw [if_neg k18,if_neg k16,if_neg k20,if_neg k6,if_pos k8];simp only [beq_iff_eq];refine ⟨fun h=>?_,fun h=>?_⟩
    ·rcases h with h | h | h | h | h | h | h | ⟨h1,h2,_⟩ <;> first | (left;omega) | (exfalso;omega)
    ·rcases h with h | ⟨h1,h2,_⟩
     ·first | (refine .inl ?_;omega) | (refine .inr (.inl ?_);omega) | (refine .inr (.inr (.inl ?_));omega) | (refine .inr (.inr (.inr (.inl ?_)));omega) | (refine .inr (.inr (.inr (.inr (.inl ?_))));omega) | (refine .inr (.inr (.inr (.inr (.inr (.inl ?_)))));omega) | (refine .inr (.inr (.inr (.inr (.inr (.inr (.inl ?_))))));omega)
     ·exfalso;omega
   by_cases k11:b.kind=11
   ·rw [if_neg k18,if_neg k16,if_neg k20,if_neg k6,if_neg k8,if_pos k11];simp only [beq_iff_eq];refine ⟨fun h=>?_,fun h=>?_⟩
    ·rcases h with h | h | h | h | h | h | h | ⟨h1,h2,_⟩ <;> first | (left;omega) | (exfalso;omega)
    ·rcases h with h | ⟨h1,h2,_⟩
     ·first | (refine .inl ?_;omega) | (refine .inr (.inl ?_);omega) | (refine .inr (.inr (.inl ?_));omega) | (refine .inr (.inr (.inr (.inl ?_)));omega) | (refine .inr (.inr (.inr (.inr (.inl ?_))));omega) | (refine .inr (.inr (.inr (.inr (.inr (.inl ?_)))));omega) | (refine .inr (.inr (.inr (.inr (.inr (.inr (.inl ?_))))));omega)
     ·exfalso;omega
   by_cases k13:b.kind=13
   ·rw [if_neg k18,if_neg k16,if_neg k20,if_neg k6,if_neg k8,if_neg k11,if_pos k13];simp only [beq_iff_eq];refine ⟨fun h=>?_,fun h=>?_⟩
    ·rcases h with h | h | h | h | h | h | h | ⟨h1,h2,_⟩ <;> first | (left;omega) | (exfalso;omega)
    ·rcases h with h | ⟨h1,h2,_⟩
     ·first | (refine .inl ?_;omega) | (refine .inr (.inl ?_);omega) | (refine .inr (.inr (.inl ?_));omega) | (refine .inr (.inr (.inr (.inl ?_)));omega) | (refine .inr (.inr (.inr (.inr (.inl ?_))));omega) | (refine .inr (.inr (.inr (.inr (.inr (.inl ?_)))));omega) | (refine .inr (.inr (.inr (.inr (.inr (.inr (.inl ?_))))));omega)
     ·exfalso;omega
   rw [if_neg k18,if_neg k16,if_neg k20,if_neg k6,if_neg k8,if_neg k11,if_neg k13];refine ⟨fun h=>?_,fun h=>?_⟩
   ·rcases h with h | h | h | h | h | h | h | ⟨h1,h2,h3⟩
    ·exfalso;omega
    ·exfalso;omega
    ·exfalso;omega
    ·exfalso;omega
    ·exfalso;omega
    ·exfalso;omega
    ·exfalso;omega
    ·exact .inr ⟨h1,h2,h3⟩
   ·rcases h with h | ⟨h1,h2,h3⟩
    ·cases h
    ·exact .inr (.inr (.inr (.inr (.inr (.inr (.inr ⟨h1,h2,h3⟩))))))
  ·simp [ho,hf]
 ·simp [ho]
theorem pre_iff {j:Nat} (h:j < l.length) {c:Int} (hc:1≤c) {k:Nat} (hk:k < 8):c≤(preC l (runTo l j) (evAt l j) j).getD k 0↔∃ i,i < j∧Imm l i j∧c≤(stp l i).getD k 0:=by
 have hin:=in_iff h (c:=c) hk j (Nat.le_refl j);rw [start_iff V h hc k] at hin;have hat:=at_in (l:=l) (runTo l j).out (evAt l j) (startC (runTo l j) (evAt l j)) j
 have hmain:c≤(preC l (runTo l j) (evAt l j) j).getD k 0↔c≤(inTo l (runTo l j).out (evAt l j) (startC (runTo l j) (evAt l j), -1) j).1.getD k 0 ∨
  ∃ i,i < j∧(atomB (evAt l i) (evAt l j)=true∧((evAt l j).kind=3∨(evAt l j).kind=5)∧Atom l i j)∧c≤(stp l i).getD k 0:=by
  unfold preC
  rcases hat with ⟨h1,h2⟩ | ⟨a,h1,h2,h3,h4⟩
  ·rw [h1,if_neg (by unfold atomE;simp)]
   refine ⟨.inl,fun h5=>h5.elim id (fun ⟨i,hi,h6,_⟩=>?_)⟩;rw [h2 i hi] at h6;exact absurd h6.1 (by decide)
  ·rw [h2]
   have huniq:∀ i,i < j→atomB (evAt l i) (evAt l j)=true→Atom l i j→i=a:=fun i hi h5 h6=>by
    rcases Nat.lt_trichotomy i a with h7 | h7 | h7
    ·rw [h6 a h7 h1] at h3;cases h3
    ·exact h7
    ·rw [h4 i h7 hi] at h5;cases h5
   by_cases hk35:(evAt l j).kind=3∨(evAt l j).kind=5
   ·have hE:atomE (evAt l j) (a:Int)=true:=by
     unfold atomE;simp only [Bool.and_eq_true,decide_eq_true_eq,Bool.or_eq_true,beq_iff_eq];exact ⟨by omega,hk35⟩
    rw [if_pos hE,getD_join ((runTo_ok l j).inTo l (evAt l j) j).1.1 (out_len (runTo_ok l j) _) hk,Int.toNat_natCast,out_stp h1 (by omega)];have hmax:∀ x y:Int,(c≤if y > x then y else x)↔(c≤x∨c≤y):=fun x y=>by split <;> omega
    rw [hmax];refine ⟨fun h5=>h5.elim .inl (fun h6=>.inr ⟨a,h1,⟨h3,hk35,h4⟩,h6⟩),fun h5=>h5.elim .inl (fun ⟨i,hi,⟨h6,_,h7⟩,h8⟩=>.inr ?_)⟩;have:=huniq i hi h6 h7;subst this;exact h8
   ·have hE:¬ atomE (evAt l j) (a:Int)=true:=by
     unfold atomE;simp only [Bool.and_eq_true,decide_eq_true_eq,Bool.or_eq_true,beq_iff_eq];exact fun h5=>hk35 h5.2
    rw [if_neg hE];exact ⟨.inl,fun h5=>h5.elim id (fun ⟨i,hi,h6,_⟩=>absurd h6.2.1 hk35)⟩
 rw [hmain,hin];refine ⟨fun h5=>?_,fun ⟨i,hi,him,h6⟩=>?_⟩
 ·rcases h5 with (⟨i,hi,hp,h6⟩ | ⟨i,hi,hs,h6⟩) | ⟨i,hi,hs,h6⟩
  ·exact ⟨i,hi,hp.elim .inl (fun h=>.inr (.inl h)),h6⟩
  ·exact ⟨i,hi,.inr (.inr ((sync_syn V (by omega) h).2 (.inl hs))),h6⟩
  ·exact ⟨i,hi,.inr (.inr ((sync_syn V (by omega) h).2 (.inr hs))),h6⟩
 ·rcases him with hp | hp | hs
  ·exact .inl (.inl ⟨i,hi,.inl hp,h6⟩)
  ·exact .inl (.inl ⟨i,hi,.inr hp,h6⟩)
  ·rcases (sync_syn V (by omega) h).1 hs with hs | hs
   ·exact .inl (.inr ⟨i,hi,hs,h6⟩)
   ·exact .inr ⟨i,hi,hs,h6⟩
theorem hb_iff {j:Nat} (h:j < l.length):∀ i,i < l.length→(HBE l i j↔(ord l i:Int)≤(stp l j).getD (evAt l i).g.toNat 0):=by
 induction j using Nat.strongRecOn with
 | ind j ih =>
   intro i hi;have hgi:=V.g hi;have hgj:=V.g h;have hoi:1≤(ord l i:Int):=by have:=ord_eq l i;omega
   have hlen:=preC_len (l:=l) (e:=evAt l j) (runTo_ok l j)
   by_cases hg:(evAt l i).g=(evAt l j).g
   ·rw [hg,stp_own V h];refine ⟨fun hb=>?_,fun ho=>?_⟩
    ·have:=hb.le;unfold ord;rw [hg];have:=cntG_mono (l:=l) (g:=(evAt l j).g) (show i+1≤j+1 by omega);omega
    ·rcases Nat.lt_or_ge j i with h1 | h1
     ·exfalso
      unfold ord at ho;rw [hg] at ho;have:=cntG_lt (l:=l) (g:=(evAt l j).g) (p:=i) (n:=i+1) (by omega) hg;have:=cntG_mono (l:=l) (g:=(evAt l j).g) (show j+1≤i by omega);omega
     ·exact HBE.prog h1 hg
   ·have hne:(evAt l i).g.toNat≠(evAt l j).g.toNat:=by omega
    rw [stp_at h,clockAt_eq,set_get (by omega),if_neg hne,pre_iff V h hoi (by omega)];have hij:i≠j:=fun h2=>hg (by rw [h2])
    have:HBE l i j↔HB l i j:=⟨fun h2=>h2.elim (fun h3=>absurd h3 hij) id,.inr⟩;rw [this,HB_iff];refine ⟨fun ⟨k,hk,h1,h2⟩=>⟨k,hk,h1,(ih k hk (by omega) i hi).1 h2⟩,fun ⟨k,hk,h1,h2⟩=>⟨k,hk,h1,(ih k hk (by omega) i hi).2 h2⟩⟩
end
open Classical in
noncomputable def cntHB (l:List Ev) (g:Int) (j:Nat):Nat→Nat
 | 0=>0
 | n+1=>if (evAt l n).g=g∧HBE l n j then cntHB l g j n+1 else cntHB l g j n
theorem cnt_hb {l:List Ev} (V:VL l) {j:Nat} (h:j < l.length) {g:Int} (h0:0≤g) (h8:g < 8) (n:Nat) (hn:n≤l.length):(cntHB l g j n:Int)=min ((stp l j).getD g.toNat 0) (cntG l g n:Int):=by
 have hnn:=stp_nonneg (l:=l) (j:=j) (k:=g.toNat)
 induction n with
 | zero=>simp only [cntHB,cntG];omega
 | succ n ih =>
   have ih:=ih (by omega);simp only [cntHB,cntG]
   by_cases hg:(evAt l n).g=g
   ·have hiff:=hb_iff V h n (by omega);have ho:=ord_eq l n;rw [hg] at hiff ho;rw [if_pos hg]
    by_cases hb:HBE l n j
    ·rw [if_pos ⟨hg,hb⟩];have:=hiff.1 hb;omega
    ·rw [if_neg (fun h=>hb h.2)];have:¬ (ord l n:Int)≤_:=fun h2=>hb (hiff.2 h2)
     omega
   ·rw [if_neg hg,if_neg (fun h=>hg h.1)];exact ih
theorem stp_cnt {l:List Ev} (V:VL l) {j:Nat} (h:j < l.length) {g:Int} (h0:0≤g) (h8:g < 8):(stp l j).getD g.toNat 0=(cntHB l g j (j+1):Int):=by
 rw [cnt_hb V h h0 h8 (j+1) h];have:=stp_le V h h0 h8;omega
theorem add_gor {r:RSt} {t u:TS} {e:Ev} (hr:Rel r t) (h:t.add e=some u):t.gor≤u.gor∧(e.kind=14→e.k=t.gor∧u.gor=t.gor+1):=by
 have hk:=hr.kok;obtain ⟨_,v,rfl,hv⟩:=add_cases h
 rcases hv with ⟨ho,hv⟩ | ⟨ho,hc,hv⟩ | ⟨ho,hc,hv⟩
 ·obtain ⟨hf,rfl⟩:=proceed_eq hv;have hkk:=hk ho;unfold Grp.fits at hf;simp only [Bool.and_eq_true,decide_eq_true_eq] at hf;have:=hf.1.1;exact ⟨Int.le_refl _,fun h14=>by omega⟩
 ·unfold chanB at hc;simp only [decide_eq_true_eq] at hc;refine ⟨?_,fun h14=>by omega⟩;unfold TS.operate at hv;dsimp only at hv
  repeat' split at hv
  all_goals first
   | (cases hv;done)
   | (cases hv;exact Int.le_refl _)
   | (simp only [Option.map_eq_some_iff] at hv;obtain ⟨ks,_,rfl⟩:=hv;exact Int.le_refl _)
 ·by_cases h14:e.kind=14
  ·unfold TS.simple at hv;dsimp only at hv;rw [if_neg (by omega),if_neg (by omega),if_neg (by omega),if_neg (by omega),if_neg (by omega),if_neg (by omega),if_pos h14] at hv;split at hv
   ·cases hv
   ·rename_i hne;cases hv;exact ⟨by dsimp only;omega,fun _=>⟨by omega,rfl⟩⟩
  ·refine ⟨?_,fun h=>absurd h h14⟩;unfold TS.simple at hv;dsimp only at hv
   repeat' split at hv
   all_goals first
    | (cases hv;done)
    | (cases hv;exact Int.le_refl _)
    | (exfalso;omega)
theorem cap_keep {t u:TS} {e:Ev} (h:t.add e=some u) {x:Int} {c:Ch} (hc:t.chans x=some c):∃ c',u.chans x=some c'∧c'.cap=c.cap:=by
 have hput:∀ c1:Ch,(e.obj=x→c1.cap=c.cap)→∃ c',upd t.chans e.obj c1 x=some c'∧c'.cap=c.cap:=fun c1 h1=>by
  by_cases hx:x=e.obj
  ·subst hx;exact ⟨c1,upd_same _ _ _,h1 rfl⟩
  ·exact ⟨c,by rw [upd_other _ _ hx];exact hc,rfl⟩
 obtain ⟨_,v,rfl,hv⟩:=add_cases h
 rcases hv with ⟨ho,hv⟩ | ⟨ho,hk,hv⟩ | ⟨ho,hk,hv⟩
 ·obtain ⟨hf,rfl⟩:=proceed_eq hv;refine hput _ (fun hx=>?_);subst hx;rw [count_cap,hc];rfl
 ·have hch:e.obj=x→(t.chan e).cap=c.cap:=fun hx=>by subst hx;unfold TS.chan;rw [hc]
  unfold TS.operate at hv;dsimp only at hv
  repeat' split at hv
  all_goals first
   | (cases hv;done)
   | (cases hv;exact ⟨c,hc,rfl⟩)
   | (cases hv;exact hput _ hch)
   | (simp only [Option.map_eq_some_iff] at hv;obtain ⟨ks,_,rfl⟩:=hv;exact hput _ (fun hx=>by rw [count_cap];exact hch hx))
 ·unfold TS.simple at hv;dsimp only at hv
  repeat' split at hv
  all_goals first
   | (cases hv;done)
   | (cases hv;exact ⟨c,hc,rfl⟩)
def tsAt (l:List Ev) (n:Nat):TS:=(TS.new.steps (l.take n)).getD TS.new
section
variable {l:List Ev} (hc:chk l=l.length)
include hc
theorem tsAt_steps {n:Nat} (hn:n≤l.length):TS.new.steps (l.take n)=some (tsAt l n):=by
 obtain ⟨u,hu⟩:=TS.chk_steps TS.new l (Nat.le_refl _);unfold chk at hc;rw [hc,List.take_length] at hu;rw [←List.take_append_drop n l,TS.steps_append,Option.bind_eq_some_iff] at hu;obtain ⟨t,ht,_⟩:=hu;unfold tsAt;rw [ht];rfl
theorem tsAt_succ {n:Nat} (hn:n < l.length):(tsAt l n).add (evAt l n)=some (tsAt l (n+1)):=by
 have h1:=tsAt_steps hc (n:=n) (by omega);have h2:=tsAt_steps hc (n:=n+1) hn;have he:l[n]? = some (evAt l n):=by rw [evAt_of (List.getElem?_eq_getElem hn)];exact List.getElem?_eq_getElem hn
 rw [List.take_add_one,he,TS.steps_append,h1] at h2;simp only [Option.toList_some,Option.bind_some,TS.steps] at h2
 cases ha:(tsAt l n).add (evAt l n) with
 | none=>rw [ha] at h2;cases h2
 | some u=>rw [ha] at h2;simpa using h2
theorem tsAt_good {n:Nat} (hn:n≤l.length):(∃ r,Rel r (tsAt l n))∧(tsAt l n).wf∧TBal (tsAt l n):=by
 induction n with
 | zero=>exact ⟨⟨_,Rel.new⟩,TS.wf_new,TBal.new⟩
 | succ n ih =>
   obtain ⟨⟨r,hr⟩,hw,hb⟩:=ih (by omega);have ha:=tsAt_succ hc (n:=n) hn;have hst:=hr.step hw (evAt l n);rw [ha] at hst;obtain ⟨r',_,hr'⟩:=hst;exact ⟨⟨r',hr'⟩,TS.add_wf hw ha,(bal_add hr hb ha).1⟩
theorem tsAt_gor {m n:Nat} (hmn:m≤n) (hn:n≤l.length):(tsAt l m).gor≤(tsAt l n).gor:=by
 induction n with
 | zero=>have:m=0:=by omega
         subst this;exact Int.le_refl _
 | succ n ih =>
   rcases Nat.lt_or_eq_of_le hmn with h | h
   ·obtain ⟨⟨r,hr⟩,_,_⟩:=tsAt_good hc (n:=n) (by omega);have h1:=(add_gor hr (tsAt_succ hc hn)).1;have h2:=ih (by omega) (by omega);omega
   ·subst h;exact Int.le_refl _
theorem tsAt_cap {m n:Nat} (hmn:m≤n) (hn:n≤l.length) {x:Int} {c:Ch} (h:(tsAt l m).chans x=some c):∃ c',(tsAt l n).chans x=some c'∧c'.cap=c.cap:=by
 induction n with
 | zero=>have:m=0:=by omega
         subst this;exact ⟨c,h,rfl⟩
 | succ n ih =>
   rcases Nat.lt_or_eq_of_le hmn with h1 | h1
   ·obtain ⟨c',h2,h3⟩:=ih (by omega) (by omega);obtain ⟨c'',h4,h5⟩:=cap_keep (tsAt_succ hc hn) h2;exact ⟨c'',h4,h5.trans h3⟩
   ·subst h1;exact ⟨c,h,rfl⟩
theorem chan_n {p q:Nat} (hpq:p≤q) (hq:q < l.length) (kp:chanB (evAt l p).kind=true) (kq:chanB (evAt l q).kind=true) (ho:(evAt l p).obj=(evAt l q).obj):(evAt l p).n=(evAt l q).n:=by
 have after:∀ n,n < l.length→chanB (evAt l n).kind=true→∃ c,(tsAt l (n+1)).chans (evAt l n).obj=some c∧c.cap=(evAt l n).n:=fun n hn hk=>by
  obtain ⟨⟨r,hr⟩,_,hb⟩:=tsAt_good hc (n:=n) (by omega);exact (bal_add hr hb (tsAt_succ hc hn)).2.2 hk
 obtain ⟨c,h1,h2⟩:=after p (by omega) kp;obtain ⟨d,h3,h4⟩:=after q hq kq;obtain ⟨c',h5,h6⟩:=tsAt_cap hc (m:=p+1) (n:=q+1) (by omega) hq h1;rw [ho,h3] at h5;cases h5;omega
theorem VL.of:VL l:=by
 refine ⟨?_,fun p q hp hq h1 h2 h3=>?_,fun p q hp hq h1 h2 h3=>?_⟩
 ·intro e he;obtain ⟨i,hi,rfl⟩:=List.getElem_of_mem he;have h1:=tsAt_succ hc hi;rw [evAt_of (List.getElem?_eq_getElem hi)] at h1;exact (add_cases h1).1
 ·have key:∀ p q,p < q→q < l.length→(evAt l p).kind=14→(evAt l q).kind=14→(evAt l p).k≠(evAt l q).k:=fun p q hpq hq h1 h2=>by
   obtain ⟨⟨r,hr⟩,_,_⟩:=tsAt_good hc (n:=p) (by omega);obtain ⟨⟨r',hr'⟩,_,_⟩:=tsAt_good hc (n:=q) (by omega);have a1:=(add_gor hr (tsAt_succ hc (by omega))).2 h1;have a2:=(add_gor hr' (tsAt_succ hc hq)).2 h2;have a3:=tsAt_gor hc (m:=p+1) (n:=q) hpq (by omega);omega
  rcases Nat.lt_trichotomy p q with h | h | h
  ·exact absurd h3 (key p q h hq h1 h2)
  ·exact h
  ·exact absurd h3.symm (key q p h hp h2 h1)
 ·have k1:chanB (evAt l p).kind=true:=by unfold chanB;simp [h1]
  have k2:chanB (evAt l q).kind=true:=by unfold chanB;simp [h2]
  rcases Nat.le_total p q with h | h
  ·exact chan_n hc h hq k1 k2 h3
  ·exact (chan_n hc h hp k2 k1 h3.symm).symm
end
structure GK (t:TS):Prop where
 a:t.isOpen=true→15 ∈ t.grp.kinds→t.sentOf t.grp.obj=t.grp.k
 b:t.isOpen=true→15 ∉ t.grp.kinds→16 ∈ t.grp.kinds→t.sentOf t.grp.obj=t.grp.k+1
 c:t.isOpen=true→17 ∈ t.grp.kinds→t.recvOf t.grp.obj=t.grp.k
 d:t.isOpen=true→17 ∉ t.grp.kinds→18 ∈ t.grp.kinds→t.recvOf t.grp.obj=t.grp.k+1
 sh:t.grp.kinds=[]∨t.grp.kinds=[16]∨t.grp.kinds=[17,18,16]∨t.grp.kinds=[18,16]∨t.grp.kinds=[18]∨t.grp.kinds=[15,18,16]
theorem GK.new:GK TS.new:=⟨fun h=>(by cases h),fun h=>(by cases h),fun h=>(by cases h),fun h=>(by cases h),.inl rfl⟩
theorem open_ne {t:TS} (h:t.isOpen=true):t.grp.kinds≠[]:=fun e=>by unfold TS.isOpen at h;rw [e] at h;cases h
theorem GK.proceed {t:TS} (h:GK t) (ho:t.isOpen=true) {e:Ev} {v:TS} (hc:TCnt t v e) (hv:t.proceed e=some v):GK v:=by
 unfold TS.proceed at hv;split at hv
 ·rename_i hf;cases hv;unfold Grp.fits at hf;simp only [Bool.and_eq_true,decide_eq_true_eq] at hf;obtain ⟨⟨hk,hobj,hek,hen⟩,_⟩:=hf;have hkinds:(t.grp.next e).kinds=t.grp.kinds.tail:=by unfold Grp.next;split <;> rfl
  have hgo:(t.grp.next e).obj=t.grp.obj:=by unfold Grp.next;split <;> rfl
  have hgk:(t.grp.next e).k=t.grp.k:=by unfold Grp.next;split <;> rfl
  have h1:=hc.s t.grp.obj;have h2:=hc.r t.grp.obj;have ha:=h.a ho;have hb:=h.b ho;have hcc:=h.c ho;have hd:=h.d ho
  have key:∀ ks,t.grp.kinds=ks→GK { t.count e with grp:=t.grp.next e }:=fun ks hks=>by
   rcases h.sh with q | q | q | q | q | q
   ·exact absurd q (open_ne ho)
   all_goals
    rw [q] at hk hkinds ha hb hcc hd;simp only [List.headD_cons,List.tail_cons] at hk hkinds;refine ⟨fun o m=>?_,fun o m1 m2=>?_,fun o m=>?_,fun o m1 m2=>?_,?_⟩
    all_goals first
     | (show (t.grp.next e).kinds=[]∨_;rw [hkinds];simp;done)
     | skip
    all_goals
     dsimp only at *;rw [hkinds] at *
     first
      | (exfalso;revert m;simp;done)
      | (exfalso;revert m2;simp;done)
      | (rw [hgo,hgk];simp [hk,hobj] at h1 h2 ha hb hcc hd ⊢;omega)
  exact key _ rfl
 ·cases hv
theorem GK.same {t v:TS} (h:GK t) (hg:v.grp=t.grp) (hs:∀ x,v.sentOf x=t.sentOf x) (hr:∀ x,v.recvOf x=t.recvOf x):GK v:=by
 have ho:v.isOpen=t.isOpen:=by unfold TS.isOpen;rw [hg]
 refine ⟨fun o m=>?_,fun o m1 m2=>?_,fun o m=>?_,fun o m1 m2=>?_,by rw [hg];exact h.sh⟩
 ·rw [hg] at m ⊢;rw [hs];exact h.a (ho ▸ o) m
 ·rw [hg] at m1 m2 ⊢;rw [hs];exact h.b (ho ▸ o) m1 m2
 ·rw [hg] at m ⊢;rw [hr];exact h.c (ho ▸ o) m
 ·rw [hg] at m1 m2 ⊢;rw [hr];exact h.d (ho ▸ o) m1 m2
theorem GK.shut {v:TS} (ho:v.isOpen=false) (hk:v.grp.kinds=[]):GK v :=
 ⟨fun o=>absurd o (by rw [ho];decide),fun o=>absurd o (by rw [ho];decide),fun o=>absurd o (by rw [ho];decide),fun o=>absurd o (by rw [ho];decide),.inl hk⟩
theorem GK.operate {r:RSt} {t:TS} (hr:Rel r t) (hb:TBal t) (hg:GK t) (ho:t.isOpen=false) {e:Ev} (hn:0≤e.n) {v:TS} (hv:t.operate e=some v) (hc:TCnt t v e):GK v:=by
 have hkn:t.grp.kinds=[]:=by
  unfold TS.isOpen at ho;have:=of_decide_eq_false ho;exact List.length_eq_zero_iff.1 (by omega)
 obtain ⟨hs,hrv⟩:=chan_sent (t:=t) e;obtain ⟨hbl1,hbl2⟩:=chan_bal hr hb ho hn;have h1:=hc.s e.obj;have h2:=hc.r e.obj;unfold TS.operate at hv;dsimp only at hv;split at hv
 ·cases hv
 split at hv
 ·split at hv
  ·cases hv
  ·cases hv;exact GK.shut (by unfold TS.isOpen;rw [show (_:TS).grp=t.grp from rfl,hkn];rfl) hkn
 split at hv
 ·split at hv
  ·cases hv;exact hg
  ·cases hv
 split at hv
 ·rename_i hk;split at hv
  ·cases hv
  rename_i hcond;rw [not_or] at hcond;have hek:e.k=(t.chan e).sent:=Classical.not_not.1 hcond.2;rw [Option.map_eq_some_iff] at hv;obtain ⟨ks,hms,rfl⟩:=hv;rw [if_pos ⟨rfl,hk⟩] at h1;rw [if_neg (fun q=>by have:=q.2;omega)] at h2
  unfold Ch.missing at hms;rw [if_pos rfl] at hms;split at hms
  ·cases hms;exact ⟨fun _ m=>by simp [TS.start] at m,fun _ _ _=>by show _=e.k+1;rw [show ((t.start e (t.chan e) [16] e.g (-1)).grp.obj)=e.obj from rfl,h1];omega,fun _ m=>by simp [TS.start] at m,fun _ _ m=>by simp [TS.start] at m,.inr (.inl rfl)⟩
  ·split at hms
   ·rename_i hlt hz;cases hms;exact ⟨fun _ m=>by simp [TS.start] at m,fun _ _ _=>by show _=e.k+1;rw [show ((t.start e (t.chan e) [17,18,16] e.g (-1)).grp.obj)=e.obj from rfl,h1];omega,fun _ _=>by show _=e.k;rw [show ((t.start e (t.chan e) [17,18,16] e.g (-1)).grp.obj)=e.obj from rfl,h2];omega,fun _ m _=>absurd (by simp [TS.start]) m,.inr (.inr (.inl rfl))⟩
   ·cases hms
 split at hv
 ·rename_i hk;split at hv
  ·cases hv
  rename_i hcond;have hek:e.k=(t.chan e).recv:=Classical.not_not.1 hcond;rw [Option.map_eq_some_iff] at hv;obtain ⟨ks,hms,rfl⟩:=hv;rw [if_neg (fun q=>by have:=q.2;omega)] at h1
  rw [if_pos ⟨rfl,hk⟩] at h2;unfold Ch.missing at hms;rw [if_neg (by decide)] at hms;split at hms
  ·cases hms;exact ⟨fun _ m=>by simp [TS.start] at m,fun _ _ m=>by simp [TS.start] at m,fun _ m=>by simp [TS.start] at m,fun _ _ _=>by show _=e.k+1;rw [show ((t.start e (t.chan e) [18] (-1) e.g).grp.obj)=e.obj from rfl,h2];omega,.inr (.inr (.inr (.inr (.inl rfl))))⟩
  ·split at hms
   ·cases hms;exact ⟨fun _ _=>by show _=e.k;rw [show ((t.start e (t.chan e) [15,18,16] (-1) e.g).grp.obj)=e.obj from rfl,h1];omega,fun _ m _=>absurd (by simp [TS.start]) m,fun _ m=>by simp [TS.start] at m,fun _ _ _=>by show _=e.k+1;rw [show ((t.start e (t.chan e) [15,18,16] (-1) e.g).grp.obj)=e.obj from rfl,h2];omega,.inr (.inr (.inr (.inr (.inr rfl))))⟩
   ·cases hms
 ·cases hv
theorem simple_grp {t:TS} {e:Ev} {v:TS} (hv:t.simple e=some v):v.grp=t.grp:=by
 unfold TS.simple at hv;dsimp only at hv
 repeat' split at hv
 all_goals first
  | (cases hv;done)
  | (cases hv;rfl)
theorem GK.add {r:RSt} {t u:TS} (h:Rel r t) (hb:TBal t) (hg:GK t) {e:Ev} (ha:t.add e=some u):GK u:=by
 obtain ⟨hv,v,rfl,hc⟩:=add_cases ha;have hn:=(Ev.valid_n hv).1
 have lift:GK v→GK { v with events:=v.events+1 }:=fun h=>⟨h.a,h.b,h.c,h.d,h.sh⟩
 rcases hc with ⟨ho,hc⟩ | ⟨ho,hk,hc⟩ | ⟨ho,hk,hc⟩
 ·exact lift (hg.proceed ho (bal_proceed h hb ho hc).2.1 hc)
 ·exact lift (hg.operate h hb ho hn hc (bal_operate h hb ho hn hc).2.1)
 ·refine lift (GK.shut ?_ ?_)
  ·unfold TS.isOpen;rw [simple_grp hc];exact ho
  ·rw [simple_grp hc];unfold TS.isOpen at ho;have:=of_decide_eq_false ho;exact List.length_eq_zero_iff.1 (by omega)
end Go.Proofs.Ytffcpijeebagfaa
end
