/- Tables on the heap: what an event acquires. -/
import Derived.Test.YtffcpijeebagfaaMo5
set_option linter.unusedSimpArgs false
set_option linter.unusedVariables false
section
namespace Go.Proofs.Ytffcpijeebagfaa
open Go Go.RowKit
set_option maxRecDepth 100000
set_option maxHeartbeats 4000000
def Ci (ps rs:List Pa):Prop:=∃ e:Ev,ps=[e.pa]∧rs=[pB e.valid]
theorem JX:Spec Try.prog 59 Ci:=by
 rintro ps rs ⟨e,rfl,rfl⟩ S w vals _ hv;obtain ⟨u,rfl,h1⟩:=hv.one;obtain rfl:u=e.val:=RP.flat (vs:=e.cells) h1;refine (qm e w).mono ?_;rintro r w' ⟨rfl,hb⟩;exact ⟨_,S,rfl,RP.OG _,hb,fun _ _=>rfl⟩
def Sz (hp:Nat→Hb) (az:List Hw) (hp':Nat→Hb) (rs:List Hw):Prop:=∃ b H ps H' rs',az=.one (.h (.v b)) :: ps.map jr∧hp b=.ab H∧Oi (some H) ps H' rs'∧hp'=up hp b (.ab H')∧rs=rs'.map jr
def aT:Env:=h1 78 OW (h1 80 FN (h1 81 lC (h1 21 Sz (e1 59 Ci (e1 77 xC (e1 79 kE e0))))))
theorem Iz:aG Try.prog aT:=.h1 Vm (.h1 OQ (.h1 Vp (.h1 Uz.toH (.e1 JX (.e1 Q7 (.e1 OO .e0))))))
structure eF (nc:Nat→Nat) (N b0:Nat) (e:Ev) (c:Ck) (hp:Nat→Hb) (st:St):Prop where
 s2:st.sl 2=.b (.one (.hv (.p (N+2) 0)))
 s3:st.sl 3=.b (.one (.ptr 3 1 0))
 s4:st.sl 4=.b (.one (.ptr 4 1 0))
 s6:st.sl 6=.b (.one (.hv (.p (N+6) 0)))
 s7:st.sl 7=.b (.one (.hv (.p (N+7) 0)))
 s8:st.sl 8=.b (.one (.hv (.f 78 [] [(N+6,0),(N+2,0),(N+7,0)])))
 g3:st.gen 3=1
 o3:st.ob 3=.cells (e.row.map Cl.d)
 g4:st.gen 4=1
 o4:st.ob 4=.cells [.d (dI 0),.d (dI 0),.d (dI 0),.d (dI 0),.d (dI 0),.d (dI 0),.d (dI 0),.d (dI 0)]
 hnc:st.nc=nc
 ah:aF st
 hb:st.hb=hp
 p2:hp (N+2)=.cells [.h (.p b0 0)]
 p6:hp (N+6)=.cells (ckH c)
 p7:hp (N+7)=.cells [hI e.obj,hI e.off]
 n6:nc (N+6)=7
section
variable {hp:Nat→Hb} {b0 N:Nat} {D:Nat→Prop} {t:mV} {e:Ev} {c:Ck} {nc:Nat→Nat} {st:St} {ks:List It} {Q:Exit→St→Prop}
theorem vk (h:TabAt hp b0 D t) (hc:c.length=8) (he:kF e) (p2:hp (N+2)=.cells [.h (.p b0 0)]) (p6:hp (N+6)=.cells (ckH c)) (p7:hp (N+7)=.cells [hI e.obj,hI e.off]) {k:Int} (hk:iY k) {d:Ck} (hd:OAt t.es (fB k e.obj e.off) d∧d.length=8) :
 OW hp [.one (hI k),hP (N+6) 0,hP (N+2) 0,hP (N+7) 0] (up hp (N+6) (.cells (ckH (aQ c d)))) [] :=
 ⟨k,e.obj,e.off,N+6,N+2,N+7,b0,t.bo,dS t.bs t.bo t.br t.ck,t.es,t.cl,c,d,rfl,⟨p6,hc,p2,p7,h.h0,iL h.ck,h.ho⟩,⟨hk,he.obj,he.off⟩,hd,rfl,rfl⟩
theorem eF.acq (h:eF nc N b0 e c hp st) {d:Ck} {st':St} (e2:st'.sl 2=st.sl 2) (e3:st'.sl 3=st.sl 3) (e4:st'.sl 4=st.sl 4) (e6:st'.sl 6=st.sl 6) (e7:st'.sl 7=st.sl 7) (e8:st'.sl 8=st.sl 8) (q3:st'.gen 3=st.gen 3) (q4:st'.gen 4=st.gen 4) (r3:st'.ob 3=st.ob 3) (r4:st'.ob 4=st.ob 4)
 (hn:st'.nc=st.nc) (ha:aF st') {hp':Nat→Hb} (hh:st'.hb=hp') (hp2:hp' (N+2)=hp (N+2)) (hp6:hp' (N+6)=.cells (ckH d)) (hp7:hp' (N+7)=hp (N+7)):eF nc N b0 e d hp' st' :=
 ⟨e2.trans h.s2,e3.trans h.s3,e4.trans h.s4,e6.trans h.s6,e7.trans h.s7,e8.trans h.s8,q3.trans h.g3,r3.trans h.o3,q4.trans h.g4,r4.trans h.o4,hn.trans h.hnc,ha,hh,hp2.trans h.p2,hp6,hp7.trans h.p7,h.n6⟩
theorem TT (hM:eF nc N b0 e c hp st) (h:TabAt hp b0 D t) (hN6:¬ D (N+6)) (hc:c.length=8) (he:kF e) (hk:e.kind=6) (k:∀ st',eF nc N b0 e (aQ (aQ c ((t.f 0 e.obj e.off).getD ckZ)) ((t.f 1 e.obj e.off).getD ckZ)) (up (up hp (N+6) (.cells (ckH (aQ c ((t.f 0 e.obj e.off).getD ckZ))))) (N+6) (.cells (ckH (aQ (aQ c ((t.f 0 e.obj e.off).getD ckZ)) ((t.f 1 e.obj e.off).getD ckZ))))) st'→exS aT ks Q .normal st'):pwp aT pct36c1 (exS aT ks Q) st:=by
 have k6:(e.kind == 6)=true:=by rw [hk];rfl
 have k8:(e.kind == 8)=false:=by rw [hk];rfl
 have k11:(e.kind == 11)=false:=by rw [hk];rfl
 have k13:(e.kind == 13)=false:=by rw [hk];rfl
 have k3:(e.kind == 3)=false:=by rw [hk];rfl
 have k5:(e.kind == 5)=false:=by rw [hk];rfl
 have k20:(e.kind == 20)=false:=by rw [hk];rfl
 have k18:(e.kind == 18)=false:=by rw [hk];rfl
 have k16:(e.kind == 16)=false:=by rw [hk];rfl
 have s2:=hM.s2;have s3:=hM.s3;have s6:=hM.s6;have s8:=hM.s8;have g3:=hM.g3;have o3:=hM.o3;have hn:=hM.hnc;have hh:=hM.hb;have p2:=hM.p2;have p6:=hM.p6;have p7:=hM.p7;have n6:=hM.n6;have ah:=hM.ah;unfold pct36c1;simp only [↓evP,evB,stB,reduceIte,reduceCtorEq,seval,k6,k8,k11,k13,k3,k5,k20,k18,k16,s2,s3,s8,g3,o3,hh,p2,Ev.row];obtain ⟨oa0,ol0⟩:=gK h 0 e.obj e.off;refine aN (up hp (N+6) (.cells (ckH (aQ c ((t.f 0 e.obj e.off).getD ckZ))))) [] (by simp only [stB,seval,hh];exact vk h hc he p2 p6 p7 ⟨by decide,by decide⟩ ⟨oa0,ol0⟩) ?_
 simp only [↓evP,evB,stB,reduceIte,seval,s8];obtain ⟨oa1,ol1⟩:=gK h 1 e.obj e.off;refine aN (up (up hp (N+6) (.cells (ckH (aQ c ((t.f 0 e.obj e.off).getD ckZ))))) (N+6) (.cells (ckH (aQ (aQ c ((t.f 0 e.obj e.off).getD ckZ)) ((t.f 1 e.obj e.off).getD ckZ))))) [] (by simp only [stB,seval];exact vk (h.new hN6) (bI hc ol0) he ((aB (by omega)).trans p2) bV ((aB (by omega)).trans p7) ⟨by decide,by decide⟩ ⟨oa1,ol1⟩) ?_
 simp only [evB,stB,seval];exact k _ (hM.acq (by simp only [stB,reduceIte,seval]) (by simp only [stB,reduceIte,seval]) (by simp only [stB,reduceIte,seval]) (by simp only [stB,reduceIte,seval]) (by simp only [stB,reduceIte,seval]) (by simp only [stB,reduceIte,seval]) (by simp only [stB,seval]) (by simp only [stB,seval]) (by simp only [stB,seval]) (by simp only [stB,seval]) (by simp only [stB,seval]) (by (repeat' (first | exact aF.init | assumption | (refine aF.ap ?_ rfl)))) (by simp only [stB,seval]) ((aB (by omega)).trans (aB (by omega))) bV ((aB (by omega)).trans (aB (by omega))))
theorem TU (hM:eF nc N b0 e c hp st) (h:TabAt hp b0 D t) (hN6:¬ D (N+6)) (hc:c.length=8) (he:kF e) (hk:e.kind=8) (k:∀ st',eF nc N b0 e (aQ c ((t.f 0 e.obj e.off).getD ckZ)) (up hp (N+6) (.cells (ckH (aQ c ((t.f 0 e.obj e.off).getD ckZ))))) st'→exS aT ks Q .normal st'):pwp aT pct36c1 (exS aT ks Q) st:=by
 have k6:(e.kind == 6)=false:=by rw [hk];rfl
 have k8:(e.kind == 8)=true:=by rw [hk];rfl
 have k11:(e.kind == 11)=false:=by rw [hk];rfl
 have k13:(e.kind == 13)=false:=by rw [hk];rfl
 have k3:(e.kind == 3)=false:=by rw [hk];rfl
 have k5:(e.kind == 5)=false:=by rw [hk];rfl
 have k20:(e.kind == 20)=false:=by rw [hk];rfl
 have k18:(e.kind == 18)=false:=by rw [hk];rfl
 have k16:(e.kind == 16)=false:=by rw [hk];rfl
 have s2:=hM.s2;have s3:=hM.s3;have s6:=hM.s6;have s8:=hM.s8;have g3:=hM.g3;have o3:=hM.o3;have hn:=hM.hnc;have hh:=hM.hb;have p2:=hM.p2;have p6:=hM.p6;have p7:=hM.p7;have n6:=hM.n6;have ah:=hM.ah;unfold pct36c1;simp only [↓evP,evB,stB,reduceIte,reduceCtorEq,seval,k6,k8,k11,k13,k3,k5,k20,k18,k16,s2,s3,s8,g3,o3,hh,p2,Ev.row];obtain ⟨oa0,ol0⟩:=gK h 0 e.obj e.off;refine aN (up hp (N+6) (.cells (ckH (aQ c ((t.f 0 e.obj e.off).getD ckZ))))) [] (by simp only [stB,seval,hh];exact vk h hc he p2 p6 p7 ⟨by decide,by decide⟩ ⟨oa0,ol0⟩) ?_
 simp only [evB,stB,seval];exact k _ (hM.acq (by simp only [stB,reduceIte,seval]) (by simp only [stB,reduceIte,seval]) (by simp only [stB,reduceIte,seval]) (by simp only [stB,reduceIte,seval]) (by simp only [stB,reduceIte,seval]) (by simp only [stB,reduceIte,seval]) (by simp only [stB,seval]) (by simp only [stB,seval]) (by simp only [stB,seval]) (by simp only [stB,seval]) (by simp only [stB,seval]) (by (repeat' (first | exact aF.init | assumption | (refine aF.ap ?_ rfl)))) (by simp only [stB,seval]) (aB (by omega)) bV (aB (by omega)))
theorem Qs (hM:eF nc N b0 e c hp st) (h:TabAt hp b0 D t) (hN6:¬ D (N+6)) (hc:c.length=8) (he:kF e) (hk:e.kind=11) (k:∀ st',eF nc N b0 e (aQ c ((t.f 2 e.obj e.off).getD ckZ)) (up hp (N+6) (.cells (ckH (aQ c ((t.f 2 e.obj e.off).getD ckZ))))) st'→exS aT ks Q .normal st'):pwp aT pct36c1 (exS aT ks Q) st:=by
 have k6:(e.kind == 6)=false:=by rw [hk];rfl
 have k8:(e.kind == 8)=false:=by rw [hk];rfl
 have k11:(e.kind == 11)=true:=by rw [hk];rfl
 have k13:(e.kind == 13)=false:=by rw [hk];rfl
 have k3:(e.kind == 3)=false:=by rw [hk];rfl
 have k5:(e.kind == 5)=false:=by rw [hk];rfl
 have k20:(e.kind == 20)=false:=by rw [hk];rfl
 have k18:(e.kind == 18)=false:=by rw [hk];rfl
 have k16:(e.kind == 16)=false:=by rw [hk];rfl
 have s2:=hM.s2;have s3:=hM.s3;have s6:=hM.s6;have s8:=hM.s8;have g3:=hM.g3;have o3:=hM.o3;have hn:=hM.hnc;have hh:=hM.hb;have p2:=hM.p2;have p6:=hM.p6;have p7:=hM.p7;have n6:=hM.n6;have ah:=hM.ah;unfold pct36c1;simp only [↓evP,evB,stB,reduceIte,reduceCtorEq,seval,k6,k8,k11,k13,k3,k5,k20,k18,k16,s2,s3,s8,g3,o3,hh,p2,Ev.row];obtain ⟨oa0,ol0⟩:=gK h 2 e.obj e.off;refine aN (up hp (N+6) (.cells (ckH (aQ c ((t.f 2 e.obj e.off).getD ckZ))))) [] (by simp only [stB,seval,hh];exact vk h hc he p2 p6 p7 ⟨by decide,by decide⟩ ⟨oa0,ol0⟩) ?_
 simp only [evB,stB,seval];exact k _ (hM.acq (by simp only [stB,reduceIte,seval]) (by simp only [stB,reduceIte,seval]) (by simp only [stB,reduceIte,seval]) (by simp only [stB,reduceIte,seval]) (by simp only [stB,reduceIte,seval]) (by simp only [stB,reduceIte,seval]) (by simp only [stB,seval]) (by simp only [stB,seval]) (by simp only [stB,seval]) (by simp only [stB,seval]) (by simp only [stB,seval]) (by (repeat' (first | exact aF.init | assumption | (refine aF.ap ?_ rfl)))) (by simp only [stB,seval]) (aB (by omega)) bV (aB (by omega)))
theorem Qt (hM:eF nc N b0 e c hp st) (h:TabAt hp b0 D t) (hN6:¬ D (N+6)) (hc:c.length=8) (he:kF e) (hk:e.kind=13) (k:∀ st',eF nc N b0 e (aQ c ((t.f 3 e.obj e.off).getD ckZ)) (up hp (N+6) (.cells (ckH (aQ c ((t.f 3 e.obj e.off).getD ckZ))))) st'→exS aT ks Q .normal st'):pwp aT pct36c1 (exS aT ks Q) st:=by
 have k6:(e.kind == 6)=false:=by rw [hk];rfl
 have k8:(e.kind == 8)=false:=by rw [hk];rfl
 have k11:(e.kind == 11)=false:=by rw [hk];rfl
 have k13:(e.kind == 13)=true:=by rw [hk];rfl
 have k3:(e.kind == 3)=false:=by rw [hk];rfl
 have k5:(e.kind == 5)=false:=by rw [hk];rfl
 have k20:(e.kind == 20)=false:=by rw [hk];rfl
 have k18:(e.kind == 18)=false:=by rw [hk];rfl
 have k16:(e.kind == 16)=false:=by rw [hk];rfl
 have s2:=hM.s2;have s3:=hM.s3;have s6:=hM.s6;have s8:=hM.s8;have g3:=hM.g3;have o3:=hM.o3;have hn:=hM.hnc;have hh:=hM.hb;have p2:=hM.p2;have p6:=hM.p6;have p7:=hM.p7;have n6:=hM.n6;have ah:=hM.ah;unfold pct36c1;simp only [↓evP,evB,stB,reduceIte,reduceCtorEq,seval,k6,k8,k11,k13,k3,k5,k20,k18,k16,s2,s3,s8,g3,o3,hh,p2,Ev.row];obtain ⟨oa0,ol0⟩:=gK h 3 e.obj e.off;refine aN (up hp (N+6) (.cells (ckH (aQ c ((t.f 3 e.obj e.off).getD ckZ))))) [] (by simp only [stB,seval,hh];exact vk h hc he p2 p6 p7 ⟨by decide,by decide⟩ ⟨oa0,ol0⟩) ?_
 simp only [evB,stB,seval];exact k _ (hM.acq (by simp only [stB,reduceIte,seval]) (by simp only [stB,reduceIte,seval]) (by simp only [stB,reduceIte,seval]) (by simp only [stB,reduceIte,seval]) (by simp only [stB,reduceIte,seval]) (by simp only [stB,reduceIte,seval]) (by simp only [stB,seval]) (by simp only [stB,seval]) (by simp only [stB,seval]) (by simp only [stB,seval]) (by simp only [stB,seval]) (by (repeat' (first | exact aF.init | assumption | (refine aF.ap ?_ rfl)))) (by simp only [stB,seval]) (aB (by omega)) bV (aB (by omega)))
theorem TQ (hM:eF nc N b0 e c hp st) (h:TabAt hp b0 D t) (hN6:¬ D (N+6)) (hc:c.length=8) (he:kF e) (hk:e.kind=3) (k:∀ st',eF nc N b0 e (aQ c ((t.f 4 e.obj e.off).getD ckZ)) (up hp (N+6) (.cells (ckH (aQ c ((t.f 4 e.obj e.off).getD ckZ))))) st'→exS aT ks Q .normal st'):pwp aT pct36c1 (exS aT ks Q) st:=by
 have k6:(e.kind == 6)=false:=by rw [hk];rfl
 have k8:(e.kind == 8)=false:=by rw [hk];rfl
 have k11:(e.kind == 11)=false:=by rw [hk];rfl
 have k13:(e.kind == 13)=false:=by rw [hk];rfl
 have k3:(e.kind == 3)=true:=by rw [hk];rfl
 have k5:(e.kind == 5)=false:=by rw [hk];rfl
 have k20:(e.kind == 20)=false:=by rw [hk];rfl
 have k18:(e.kind == 18)=false:=by rw [hk];rfl
 have k16:(e.kind == 16)=false:=by rw [hk];rfl
 have s2:=hM.s2;have s3:=hM.s3;have s6:=hM.s6;have s8:=hM.s8;have g3:=hM.g3;have o3:=hM.o3;have hn:=hM.hnc;have hh:=hM.hb;have p2:=hM.p2;have p6:=hM.p6;have p7:=hM.p7;have n6:=hM.n6;have ah:=hM.ah;unfold pct36c1;simp only [↓evP,evB,stB,reduceIte,reduceCtorEq,seval,k6,k8,k11,k13,k3,k5,k20,k18,k16,s2,s3,s8,g3,o3,hh,p2,Ev.row];obtain ⟨oa0,ol0⟩:=gK h 4 e.obj e.off;refine aN (up hp (N+6) (.cells (ckH (aQ c ((t.f 4 e.obj e.off).getD ckZ))))) [] (by simp only [stB,seval,hh];exact vk h hc he p2 p6 p7 ⟨by decide,by decide⟩ ⟨oa0,ol0⟩) ?_
 simp only [evB,stB,seval];exact k _ (hM.acq (by simp only [stB,reduceIte,seval]) (by simp only [stB,reduceIte,seval]) (by simp only [stB,reduceIte,seval]) (by simp only [stB,reduceIte,seval]) (by simp only [stB,reduceIte,seval]) (by simp only [stB,reduceIte,seval]) (by simp only [stB,seval]) (by simp only [stB,seval]) (by simp only [stB,seval]) (by simp only [stB,seval]) (by simp only [stB,seval]) (by (repeat' (first | exact aF.init | assumption | (refine aF.ap ?_ rfl)))) (by simp only [stB,seval]) (aB (by omega)) bV (aB (by omega)))
theorem TR (hM:eF nc N b0 e c hp st) (h:TabAt hp b0 D t) (hN6:¬ D (N+6)) (hc:c.length=8) (he:kF e) (hk:e.kind=5) (k:∀ st',eF nc N b0 e (aQ c ((t.f 4 e.obj e.off).getD ckZ)) (up hp (N+6) (.cells (ckH (aQ c ((t.f 4 e.obj e.off).getD ckZ))))) st'→exS aT ks Q .normal st'):pwp aT pct36c1 (exS aT ks Q) st:=by
 have k6:(e.kind == 6)=false:=by rw [hk];rfl
 have k8:(e.kind == 8)=false:=by rw [hk];rfl
 have k11:(e.kind == 11)=false:=by rw [hk];rfl
 have k13:(e.kind == 13)=false:=by rw [hk];rfl
 have k3:(e.kind == 3)=false:=by rw [hk];rfl
 have k5:(e.kind == 5)=true:=by rw [hk];rfl
 have k20:(e.kind == 20)=false:=by rw [hk];rfl
 have k18:(e.kind == 18)=false:=by rw [hk];rfl
 have k16:(e.kind == 16)=false:=by rw [hk];rfl
 have s2:=hM.s2;have s3:=hM.s3;have s6:=hM.s6;have s8:=hM.s8;have g3:=hM.g3;have o3:=hM.o3;have hn:=hM.hnc;have hh:=hM.hb;have p2:=hM.p2;have p6:=hM.p6;have p7:=hM.p7;have n6:=hM.n6;have ah:=hM.ah;unfold pct36c1;simp only [↓evP,evB,stB,reduceIte,reduceCtorEq,seval,k6,k8,k11,k13,k3,k5,k20,k18,k16,s2,s3,s8,g3,o3,hh,p2,Ev.row];obtain ⟨oa0,ol0⟩:=gK h 4 e.obj e.off;refine aN (up hp (N+6) (.cells (ckH (aQ c ((t.f 4 e.obj e.off).getD ckZ))))) [] (by simp only [stB,seval,hh];exact vk h hc he p2 p6 p7 ⟨by decide,by decide⟩ ⟨oa0,ol0⟩) ?_
 simp only [evB,stB,seval];exact k _ (hM.acq (by simp only [stB,reduceIte,seval]) (by simp only [stB,reduceIte,seval]) (by simp only [stB,reduceIte,seval]) (by simp only [stB,reduceIte,seval]) (by simp only [stB,reduceIte,seval]) (by simp only [stB,reduceIte,seval]) (by simp only [stB,seval]) (by simp only [stB,seval]) (by simp only [stB,seval]) (by simp only [stB,seval]) (by simp only [stB,seval]) (by (repeat' (first | exact aF.init | assumption | (refine aF.ap ?_ rfl)))) (by simp only [stB,seval]) (aB (by omega)) bV (aB (by omega)))
theorem Qx (hM:eF nc N b0 e c hp st) (h:TabAt hp b0 D t) (hN6:¬ D (N+6)) (hc:c.length=8) (he:kF e) (hk:e.kind=20) (k:∀ st',eF nc N b0 e (aQ c ((t.f 5 e.obj e.off).getD ckZ)) (up hp (N+6) (.cells (ckH (aQ c ((t.f 5 e.obj e.off).getD ckZ))))) st'→exS aT ks Q .normal st'):pwp aT pct36c1 (exS aT ks Q) st:=by
 have k6:(e.kind == 6)=false:=by rw [hk];rfl
 have k8:(e.kind == 8)=false:=by rw [hk];rfl
 have k11:(e.kind == 11)=false:=by rw [hk];rfl
 have k13:(e.kind == 13)=false:=by rw [hk];rfl
 have k3:(e.kind == 3)=false:=by rw [hk];rfl
 have k5:(e.kind == 5)=false:=by rw [hk];rfl
 have k20:(e.kind == 20)=true:=by rw [hk];rfl
 have k18:(e.kind == 18)=false:=by rw [hk];rfl
 have k16:(e.kind == 16)=false:=by rw [hk];rfl
 have s2:=hM.s2;have s3:=hM.s3;have s6:=hM.s6;have s8:=hM.s8;have g3:=hM.g3;have o3:=hM.o3;have hn:=hM.hnc;have hh:=hM.hb;have p2:=hM.p2;have p6:=hM.p6;have p7:=hM.p7;have n6:=hM.n6;have ah:=hM.ah;unfold pct36c1;simp only [↓evP,evB,stB,reduceIte,reduceCtorEq,seval,k6,k8,k11,k13,k3,k5,k20,k18,k16,s2,s3,s8,g3,o3,hh,p2,Ev.row];obtain ⟨oa0,ol0⟩:=gK h 5 e.obj e.off;refine aN (up hp (N+6) (.cells (ckH (aQ c ((t.f 5 e.obj e.off).getD ckZ))))) [] (by simp only [stB,seval,hh];exact vk h hc he p2 p6 p7 ⟨by decide,by decide⟩ ⟨oa0,ol0⟩) ?_
 simp only [evB,stB,seval];exact k _ (hM.acq (by simp only [stB,reduceIte,seval]) (by simp only [stB,reduceIte,seval]) (by simp only [stB,reduceIte,seval]) (by simp only [stB,reduceIte,seval]) (by simp only [stB,reduceIte,seval]) (by simp only [stB,reduceIte,seval]) (by simp only [stB,seval]) (by simp only [stB,seval]) (by simp only [stB,seval]) (by simp only [stB,seval]) (by simp only [stB,seval]) (by (repeat' (first | exact aF.init | assumption | (refine aF.ap ?_ rfl)))) (by simp only [stB,seval]) (aB (by omega)) bV (aB (by omega)))
theorem TP (hM:eF nc N b0 e c hp st) (h:TabAt hp b0 D t) (hD:∀ b,D b→b < N) (hN:Free hp (N+8)) (hc:c.length=8) (he:kF e) (hk:e.kind=18) {b1 b2:Nat} {l1 l2:List Ck} (hg:t.g e.obj=some (b1,b2,l1,l2)) {d:Ck} (hd:l1[(Int.tmod e.k (l1.length:Int)).toNat]? = some d)
 (k:∀ st',eF nc N b0 e (aQ c d) (up hp (N+6) (.cells (ckH (aQ c d)))) st'→exS aT ks Q .normal st'):pwp aT pct36c1 (exS aT ks Q) st:=by
 obtain ⟨⟨an,ha⟩,ri⟩:=h.ring hg;have k6:(e.kind == 6)=false:=by rw [hk];rfl
 have k8:(e.kind == 8)=false:=by rw [hk];rfl
 have k11:(e.kind == 11)=false:=by rw [hk];rfl
 have k13:(e.kind == 13)=false:=by rw [hk];rfl
 have k3:(e.kind == 3)=false:=by rw [hk];rfl
 have k5:(e.kind == 5)=false:=by rw [hk];rfl
 have k20:(e.kind == 20)=false:=by rw [hk];rfl
 have k18:(e.kind == 18)=true:=by rw [hk];rfl
 have k16:(e.kind == 16)=false:=by rw [hk];rfl
 have s2:=hM.s2;have s3:=hM.s3;have s6:=hM.s6;have s8:=hM.s8;have g3:=hM.g3;have o3:=hM.o3;have hn:=hM.hnc;have hh:=hM.hb;have p2:=hM.p2;have p6:=hM.p6;have p7:=hM.p7;have n6:=hM.n6;have ah:=hM.ah;unfold pct36c1;have hlen:l1.length=l1.length:=by first | rfl | exact ri.len.symm
 have h8:=ri.c1;have he1:=ri.e1;have hpos:=ri.pos;have hl8:d.length=8:=h8 d (List.mem_of_getElem? hd);have c6:b1≠N+6:=by have:=hD _ ri.d1;omega
 have m0:(0:Int)≤Int.tmod e.k (l1.length:Int):=Int.tmod_nonneg _ he.k.1;have m1:Int.tmod e.k (l1.length:Int) < (l1.length:Int):=Int.tmod_lt_of_pos _ (by omega);have hne:((l1.length:Nat):Int)≠0:=by omega
 have fl:=dA h8;have tl:(Int.tmod e.k (l1.length:Int)).toNat * 8+8≤(bn l1).length:=by rw [fl,hlen];omega
 have tg:(((bn l1).map Hc.cl).drop ((Int.tmod e.k (l1.length:Int)).toNat * 8)).take 8=aK d:=by
  rw [←List.map_drop,←List.map_take];have:=kS h8 hd [];rw [List.append_nil] at this;rw [this,bW]
 obtain ⟨l3,l4⟩:=nP hc;have j8:=bI hc hl8;have j3:(aK (aQ c d)).length=8:=by rw [aJ,j8]
 have jl:0+8≤(ckH c).length:=by rw [bU,hc];exact Nat.le_refl _
 have jl8:8≤(ckH c).length:=by rw [bU,hc];exact Nat.le_refl _
 have jw:=PS hc j8;simp only [↓evP,evB,stB,reduceIte,reduceCtorEq,seval,k6,k8,k11,k13,k3,k5,k20,k18,k16,s2,s3,s8,g3,o3,hh,p2,Ev.row]
 refine aN hp [rgW b1 b2 l1.length] (by
  simp only [stB,seval,hh];exact ⟨b0,t.br,N+8,dS t.bs t.bo t.br t.ck,t.rs,t.rcl,e.obj,e.n,rfl,⟨h.h0,fV h.ck,h.hr⟩,⟨he.obj,he.n⟩,hN,.inl ⟨an,b1,b2,_,ha,rfl,rfl⟩⟩) ?_
 simp only [↓evP,evB,stB,reduceIte,seval,rgW,s6,hn];simp only [evB,stB,reduceIte,seval,s3,g3,o3,hn,Ev.row,p6,he1,m0,m1,hne,tl,tg,bW,l4,jl,dN];refine bQ [kI (aQ c d)] (by exact kE.mk hc hl8) ?_;simp only [evB,stB,reduceIte,seval,s6,hn,kI,eG,p6,n6,jl,j3,aV,jw];refine ⟨(by unfold Drw;refine Eq.trans (b:=true) ?_ rfl;kernel_rfl),?_⟩
 exact k _ (hM.acq (by simp only [stB,reduceIte,seval]) (by simp only [stB,reduceIte,seval]) (by simp only [stB,reduceIte,seval]) (by simp only [stB,reduceIte,seval]) (by simp only [stB,reduceIte,seval]) (by simp only [stB,reduceIte,seval]) (by simp only [stB,reduceIte,seval]) (by simp only [stB,reduceIte,seval]) (by simp only [stB,reduceIte,seval]) (by simp only [stB,reduceIte,seval]) (by simp only [stB,seval]) (by (repeat' (first | exact aF.init | assumption | (refine aF.ap ?_ rfl)))) (by simp only [stB,seval,hn,n6]) (aB (by omega)) bV (aB (by omega)))
theorem Qw (hM:eF nc N b0 e c hp st) (h:TabAt hp b0 D t) (hD:∀ b,D b→b < N) (hN:Free hp (N+8)) (hc:c.length=8) (he:kF e) (hk:e.kind=18) (hg:t.g e.obj=none) {q1 q2 m:Nat} (e1:q1=N+8+22) (e2:q2=N+8+25) (em:m=(e.n+1).toNat) {hp1:Nat→Hb} (ehp:hp1=up (up (up hp q1 (.cells (bn (bD m)))) q2 (.cells (bn (bD m)))) t.br (.map 3 (dR t.rs t.rcl (.int .i64 e.obj) (rgW q1 q2 m)) (t.rcl+1)))
 (k:∀ st',eF nc N b0 e (aQ c ckZ) (up hp1 (N+6) (.cells (ckH (aQ c ckZ)))) st'→exS aT ks Q .normal st'):pwp aT pct36c1 (exS aT ks Q) st:=by
 have ha:aS t.rs (.int .i64 e.obj)=none:=by have:=h.ra e.obj;rw [hg] at this;exact this
 have k6:(e.kind == 6)=false:=by rw [hk];rfl
 have k8:(e.kind == 8)=false:=by rw [hk];rfl
 have k11:(e.kind == 11)=false:=by rw [hk];rfl
 have k13:(e.kind == 13)=false:=by rw [hk];rfl
 have k3:(e.kind == 3)=false:=by rw [hk];rfl
 have k5:(e.kind == 5)=false:=by rw [hk];rfl
 have k20:(e.kind == 20)=false:=by rw [hk];rfl
 have k18:(e.kind == 18)=true:=by rw [hk];rfl
 have k16:(e.kind == 16)=false:=by rw [hk];rfl
 have s2:=hM.s2;have s3:=hM.s3;have s6:=hM.s6;have s8:=hM.s8;have g3:=hM.g3;have o3:=hM.o3;have hn:=hM.hnc;have hh:=hM.hb;have p2:=hM.p2;have p6:=hM.p6;have p7:=hM.p7;have n6:=hM.n6;have ah:=hM.ah;unfold pct36c1;have lr:=hD _ h.dd.2.2.2;have hpos:0 < m:=by have:=he.n;omega
 have h8:∀ c ∈ bD m,c.length=8:=fun c hc=>by rw [List.eq_of_mem_replicate hc];rfl
 have hlen:(bD m).length=m:=List.length_replicate;have w2:hp1 (N+2)=hp (N+2):=by rw [ehp,aB (by omega),aB (by omega),aB (by omega)]
 have w6:hp1 (N+6)=.cells (ckH c):=by rw [ehp,aB (by omega),aB (by omega),aB (by omega)];exact p6
 have w7:hp1 (N+7)=hp (N+7):=by rw [ehp,aB (by omega),aB (by omega),aB (by omega)]
 have wq1:hp1 q1=.cells (bn (bD m)):=by rw [ehp,aB (by omega),aB (by omega),bV]
 have wq2:hp1 q2=.cells (bn (bD m)):=by rw [ehp,aB (by omega),bV]
 have m0:(0:Int)≤Int.tmod e.k (m:Int):=Int.tmod_nonneg _ he.k.1;have m1:Int.tmod e.k (m:Int) < (m:Int):=Int.tmod_lt_of_pos _ (by omega);have hne:((m:Nat):Int)≠0:=by omega
 have fl:=dA h8;have tl:(Int.tmod e.k (m:Int)).toNat * 8+8≤(bn (bD m)).length:=by rw [fl,hlen];omega
 have tg:(((bn (bD m)).map Hc.cl).drop ((Int.tmod e.k (m:Int)).toNat * 8)).take 8=aK ckZ:=by
  rw [←List.map_drop,←List.map_take];have:=kS h8 (i:=(Int.tmod e.k (m:Int)).toNat) (c:=ckZ) (by unfold bD;rw [List.getElem?_replicate,if_pos (by omega)]) []
  rw [List.append_nil] at this;rw [this,bW]
 obtain ⟨l3,l4⟩:=nP hc;have j8:=bI hc (show ckZ.length=8 from rfl);have j3:(aK (aQ c ckZ)).length=8:=by rw [aJ,j8]
 have jl:0+8≤(ckH c).length:=by rw [bU,hc];exact Nat.le_refl _
 have jl8:8≤(ckH c).length:=by rw [bU,hc];exact Nat.le_refl _
 have jw:=PS hc j8;simp only [↓evP,evB,stB,reduceIte,reduceCtorEq,seval,k6,k8,k11,k13,k3,k5,k20,k18,k16,s2,s3,s8,g3,o3,hh,p2,Ev.row]
 refine aN hp1 [rgW q1 q2 m] (by
  simp only [stB,seval,hh];exact ⟨b0,t.br,N+8,dS t.bs t.bo t.br t.ck,t.rs,t.rcl,e.obj,e.n,rfl,⟨h.h0,fV h.ck,h.hr⟩,⟨he.obj,he.n⟩,hN,.inr ⟨ha,by rw [ehp,e1,e2,em],by rw [e1,e2,em]⟩⟩) ?_
 simp only [↓evP,evB,stB,reduceIte,seval,rgW,s6,hn];simp only [evB,stB,reduceIte,seval,s3,g3,o3,hn,Ev.row,w6,wq1,m0,m1,hne,tl,tg,bW,l4,jl,dN];refine bQ [kI (aQ c ckZ)] (by exact kE.mk hc rfl) ?_;simp only [evB,stB,reduceIte,seval,s6,hn,kI,eG,w6,n6,jl,j3,aV,jw];refine ⟨(by unfold Drw;refine Eq.trans (b:=true) ?_ rfl;kernel_rfl),?_⟩
 exact k _ (hM.acq (by simp only [stB,reduceIte,seval]) (by simp only [stB,reduceIte,seval]) (by simp only [stB,reduceIte,seval]) (by simp only [stB,reduceIte,seval]) (by simp only [stB,reduceIte,seval]) (by simp only [stB,reduceIte,seval]) (by simp only [stB,reduceIte,seval]) (by simp only [stB,reduceIte,seval]) (by simp only [stB,reduceIte,seval]) (by simp only [stB,reduceIte,seval]) (by simp only [stB,seval]) (by (repeat' (first | exact aF.init | assumption | (refine aF.ap ?_ rfl)))) (by simp only [stB,seval,hn,n6]) ((aB (by omega)).trans w2) bV ((aB (by omega)).trans w7))
theorem TN (hM:eF nc N b0 e c hp st) (h:TabAt hp b0 D t) (hD:∀ b,D b→b < N) (hN:Free hp (N+8)) (hc:c.length=8) (he:kF e) (hk:e.kind=16) (hge:0≤e.k - e.n) {b1 b2:Nat} {l1 l2:List Ck} (hg:t.g e.obj=some (b1,b2,l1,l2)) {d:Ck} (hd:l2[(Int.tmod (e.k - e.n) (l1.length:Int)).toNat]? = some d)
 (k:∀ st',eF nc N b0 e (aQ c d) (up hp (N+6) (.cells (ckH (aQ c d)))) st'→exS aT ks Q .normal st'):pwp aT pct36c1 (exS aT ks Q) st:=by
 obtain ⟨⟨an,ha⟩,ri⟩:=h.ring hg;have k6:(e.kind == 6)=false:=by rw [hk];rfl
 have k8:(e.kind == 8)=false:=by rw [hk];rfl
 have k11:(e.kind == 11)=false:=by rw [hk];rfl
 have k13:(e.kind == 13)=false:=by rw [hk];rfl
 have k3:(e.kind == 3)=false:=by rw [hk];rfl
 have k5:(e.kind == 5)=false:=by rw [hk];rfl
 have k20:(e.kind == 20)=false:=by rw [hk];rfl
 have k18:(e.kind == 18)=false:=by rw [hk];rfl
 have k16:(e.kind == 16)=true:=by rw [hk];rfl
 have s2:=hM.s2;have s3:=hM.s3;have s6:=hM.s6;have s8:=hM.s8;have g3:=hM.g3;have o3:=hM.o3;have hn:=hM.hnc;have hh:=hM.hb;have p2:=hM.p2;have p6:=hM.p6;have p7:=hM.p7;have n6:=hM.n6;have ah:=hM.ah;unfold pct36c1;have hwp:IntKind.i64.wrap (e.k - e.n)=e.k - e.n:=pY (by have:=he.k;have:=he.n;omega) (by have:=he.k;have:=he.n;omega)
 have hge2:e.k - e.n≥0:=hge;have hlen:l2.length=l1.length:=by first | rfl | exact ri.len.symm
 have h8:=ri.c2;have he1:=ri.e2;have hpos:=ri.pos;have hl8:d.length=8:=h8 d (List.mem_of_getElem? hd);have c6:b2≠N+6:=by have:=hD _ ri.d2;omega
 have m0:(0:Int)≤Int.tmod (e.k - e.n) (l1.length:Int):=Int.tmod_nonneg _ hge;have m1:Int.tmod (e.k - e.n) (l1.length:Int) < (l1.length:Int):=Int.tmod_lt_of_pos _ (by omega);have hne:((l1.length:Nat):Int)≠0:=by omega
 have fl:=dA h8;have tl:(Int.tmod (e.k - e.n) (l1.length:Int)).toNat * 8+8≤(bn l2).length:=by rw [fl,hlen];omega
 have tg:(((bn l2).map Hc.cl).drop ((Int.tmod (e.k - e.n) (l1.length:Int)).toNat * 8)).take 8=aK d:=by
  rw [←List.map_drop,←List.map_take];have:=kS h8 hd [];rw [List.append_nil] at this;rw [this,bW]
 obtain ⟨l3,l4⟩:=nP hc;have j8:=bI hc hl8;have j3:(aK (aQ c d)).length=8:=by rw [aJ,j8]
 have jl:0+8≤(ckH c).length:=by rw [bU,hc];exact Nat.le_refl _
 have jl8:8≤(ckH c).length:=by rw [bU,hc];exact Nat.le_refl _
 have jw:=PS hc j8;simp only [↓evP,evB,stB,reduceIte,reduceCtorEq,seval,k6,k8,k11,k13,k3,k5,k20,k18,k16,s2,s3,s8,g3,o3,hh,p2,Ev.row,hwp,hge2,decide_true]
 refine aN hp [rgW b1 b2 l1.length] (by
  simp only [stB,seval,hh];exact ⟨b0,t.br,N+8,dS t.bs t.bo t.br t.ck,t.rs,t.rcl,e.obj,e.n,rfl,⟨h.h0,fV h.ck,h.hr⟩,⟨he.obj,he.n⟩,hN,.inl ⟨an,b1,b2,_,ha,rfl,rfl⟩⟩) ?_
 simp only [↓evP,evB,stB,reduceIte,seval,rgW,s6,hn];simp only [evB,stB,reduceIte,seval,hn,p6,he1,m0,m1,hne,tl,tg,bW,l4,jl,dN];refine bQ [kI (aQ c d)] (by exact kE.mk hc hl8) ?_;simp only [evB,stB,reduceIte,seval,s6,hn,kI,eG,p6,n6,jl,j3,aV,jw];refine ⟨(by unfold Drw;refine Eq.trans (b:=true) ?_ rfl;kernel_rfl),?_⟩
 exact k _ (hM.acq (by simp only [stB,reduceIte,seval]) (by simp only [stB,reduceIte,seval]) (by simp only [stB,reduceIte,seval]) (by simp only [stB,reduceIte,seval]) (by simp only [stB,reduceIte,seval]) (by simp only [stB,reduceIte,seval]) (by simp only [stB,reduceIte,seval]) (by simp only [stB,reduceIte,seval]) (by simp only [stB,reduceIte,seval]) (by simp only [stB,reduceIte,seval]) (by simp only [stB,seval]) (by (repeat' (first | exact aF.init | assumption | (refine aF.ap ?_ rfl)))) (by simp only [stB,seval,hn,n6]) (aB (by omega)) bV (aB (by omega)))
theorem Qu (hM:eF nc N b0 e c hp st) (h:TabAt hp b0 D t) (hD:∀ b,D b→b < N) (hN:Free hp (N+8)) (hc:c.length=8) (he:kF e) (hk:e.kind=16) (hge:0≤e.k - e.n) (hg:t.g e.obj=none) {q1 q2 m:Nat} (e1:q1=N+8+22) (e2:q2=N+8+25) (em:m=(e.n+1).toNat) {hp1:Nat→Hb} (ehp:hp1=up (up (up hp q1 (.cells (bn (bD m)))) q2 (.cells (bn (bD m)))) t.br (.map 3 (dR t.rs t.rcl (.int .i64 e.obj) (rgW q1 q2 m)) (t.rcl+1)))
 (k:∀ st',eF nc N b0 e (aQ c ckZ) (up hp1 (N+6) (.cells (ckH (aQ c ckZ)))) st'→exS aT ks Q .normal st'):pwp aT pct36c1 (exS aT ks Q) st:=by
 have ha:aS t.rs (.int .i64 e.obj)=none:=by have:=h.ra e.obj;rw [hg] at this;exact this
 have k6:(e.kind == 6)=false:=by rw [hk];rfl
 have k8:(e.kind == 8)=false:=by rw [hk];rfl
 have k11:(e.kind == 11)=false:=by rw [hk];rfl
 have k13:(e.kind == 13)=false:=by rw [hk];rfl
 have k3:(e.kind == 3)=false:=by rw [hk];rfl
 have k5:(e.kind == 5)=false:=by rw [hk];rfl
 have k20:(e.kind == 20)=false:=by rw [hk];rfl
 have k18:(e.kind == 18)=false:=by rw [hk];rfl
 have k16:(e.kind == 16)=true:=by rw [hk];rfl
 have s2:=hM.s2;have s3:=hM.s3;have s6:=hM.s6;have s8:=hM.s8;have g3:=hM.g3;have o3:=hM.o3;have hn:=hM.hnc;have hh:=hM.hb;have p2:=hM.p2;have p6:=hM.p6;have p7:=hM.p7;have n6:=hM.n6;have ah:=hM.ah;unfold pct36c1;have hwp:IntKind.i64.wrap (e.k - e.n)=e.k - e.n:=pY (by have:=he.k;have:=he.n;omega) (by have:=he.k;have:=he.n;omega)
 have hge2:e.k - e.n≥0:=hge;have lr:=hD _ h.dd.2.2.2;have hpos:0 < m:=by have:=he.n;omega
 have h8:∀ c ∈ bD m,c.length=8:=fun c hc=>by rw [List.eq_of_mem_replicate hc];rfl
 have hlen:(bD m).length=m:=List.length_replicate;have w2:hp1 (N+2)=hp (N+2):=by rw [ehp,aB (by omega),aB (by omega),aB (by omega)]
 have w6:hp1 (N+6)=.cells (ckH c):=by rw [ehp,aB (by omega),aB (by omega),aB (by omega)];exact p6
 have w7:hp1 (N+7)=hp (N+7):=by rw [ehp,aB (by omega),aB (by omega),aB (by omega)]
 have wq1:hp1 q1=.cells (bn (bD m)):=by rw [ehp,aB (by omega),aB (by omega),bV]
 have wq2:hp1 q2=.cells (bn (bD m)):=by rw [ehp,aB (by omega),bV]
 have m0:(0:Int)≤Int.tmod (e.k - e.n) (m:Int):=Int.tmod_nonneg _ hge;have m1:Int.tmod (e.k - e.n) (m:Int) < (m:Int):=Int.tmod_lt_of_pos _ (by omega);have hne:((m:Nat):Int)≠0:=by omega
 have fl:=dA h8;have tl:(Int.tmod (e.k - e.n) (m:Int)).toNat * 8+8≤(bn (bD m)).length:=by rw [fl,hlen];omega
 have tg:(((bn (bD m)).map Hc.cl).drop ((Int.tmod (e.k - e.n) (m:Int)).toNat * 8)).take 8=aK ckZ:=by
  rw [←List.map_drop,←List.map_take];have:=kS h8 (i:=(Int.tmod (e.k - e.n) (m:Int)).toNat) (c:=ckZ) (by unfold bD;rw [List.getElem?_replicate,if_pos (by omega)]) []
  rw [List.append_nil] at this;rw [this,bW]
 obtain ⟨l3,l4⟩:=nP hc;have j8:=bI hc (show ckZ.length=8 from rfl);have j3:(aK (aQ c ckZ)).length=8:=by rw [aJ,j8]
 have jl:0+8≤(ckH c).length:=by rw [bU,hc];exact Nat.le_refl _
 have jl8:8≤(ckH c).length:=by rw [bU,hc];exact Nat.le_refl _
 have jw:=PS hc j8;simp only [↓evP,evB,stB,reduceIte,reduceCtorEq,seval,k6,k8,k11,k13,k3,k5,k20,k18,k16,s2,s3,s8,g3,o3,hh,p2,Ev.row,hwp,hge2,decide_true]
 refine aN hp1 [rgW q1 q2 m] (by
  simp only [stB,seval,hh];exact ⟨b0,t.br,N+8,dS t.bs t.bo t.br t.ck,t.rs,t.rcl,e.obj,e.n,rfl,⟨h.h0,fV h.ck,h.hr⟩,⟨he.obj,he.n⟩,hN,.inr ⟨ha,by rw [ehp,e1,e2,em],by rw [e1,e2,em]⟩⟩) ?_
 simp only [↓evP,evB,stB,reduceIte,seval,rgW,s6,hn];simp only [evB,stB,reduceIte,seval,hn,w6,wq2,m0,m1,hne,tl,tg,bW,l4,jl,dN];refine bQ [kI (aQ c ckZ)] (by exact kE.mk hc rfl) ?_;simp only [evB,stB,reduceIte,seval,s6,hn,kI,eG,w6,n6,jl,j3,aV,jw];refine ⟨(by unfold Drw;refine Eq.trans (b:=true) ?_ rfl;kernel_rfl),?_⟩
 exact k _ (hM.acq (by simp only [stB,reduceIte,seval]) (by simp only [stB,reduceIte,seval]) (by simp only [stB,reduceIte,seval]) (by simp only [stB,reduceIte,seval]) (by simp only [stB,reduceIte,seval]) (by simp only [stB,reduceIte,seval]) (by simp only [stB,reduceIte,seval]) (by simp only [stB,reduceIte,seval]) (by simp only [stB,reduceIte,seval]) (by simp only [stB,reduceIte,seval]) (by simp only [stB,seval]) (by (repeat' (first | exact aF.init | assumption | (refine aF.ap ?_ rfl)))) (by simp only [stB,seval,hn,n6]) ((aB (by omega)).trans w2) bV ((aB (by omega)).trans w7))
theorem Qv (hM:eF nc N b0 e c hp st) (he:kF e) (hk:e.kind=16) (hge:¬ 0≤e.k - e.n) (k:∀ st',eF nc N b0 e c hp st'→exS aT ks Q .normal st'):pwp aT pct36c1 (exS aT ks Q) st:=by
 have k6:(e.kind == 6)=false:=by rw [hk];rfl
 have k8:(e.kind == 8)=false:=by rw [hk];rfl
 have k11:(e.kind == 11)=false:=by rw [hk];rfl
 have k13:(e.kind == 13)=false:=by rw [hk];rfl
 have k3:(e.kind == 3)=false:=by rw [hk];rfl
 have k5:(e.kind == 5)=false:=by rw [hk];rfl
 have k20:(e.kind == 20)=false:=by rw [hk];rfl
 have k18:(e.kind == 18)=false:=by rw [hk];rfl
 have k16:(e.kind == 16)=true:=by rw [hk];rfl
 have s2:=hM.s2;have s3:=hM.s3;have s6:=hM.s6;have s8:=hM.s8;have g3:=hM.g3;have o3:=hM.o3;have hn:=hM.hnc;have hh:=hM.hb;have p2:=hM.p2;have p6:=hM.p6;have p7:=hM.p7;have n6:=hM.n6;have ah:=hM.ah;unfold pct36c1;have hwp:IntKind.i64.wrap (e.k - e.n)=e.k - e.n:=pY (by have:=he.k;have:=he.n;omega) (by have:=he.k;have:=he.n;omega)
 have hge2:¬ e.k - e.n≥0:=hge;simp only [↓evP,evB,stB,reduceIte,reduceCtorEq,seval,k6,k8,k11,k13,k3,k5,k20,k18,k16,s2,s3,s8,g3,o3,hh,p2,Ev.row,hwp,hge2,decide_false];exact k _ (hM.acq (by simp only [stB,reduceIte,seval]) (by simp only [stB,reduceIte,seval]) (by simp only [stB,reduceIte,seval]) (by simp only [stB,reduceIte,seval]) (by simp only [stB,reduceIte,seval]) (by simp only [stB,reduceIte,seval]) (by simp only [stB,seval]) (by simp only [stB,seval]) (by simp only [stB,seval]) (by simp only [stB,seval]) (by simp only [stB,seval]) (by (repeat' (first | exact aF.init | assumption | (refine aF.ap ?_ rfl)))) (by simp only [stB,seval,hh]) rfl p6 rfl)
theorem MS (hM:eF nc N b0 e c hp st) (hk:e.kind≠6∧e.kind≠8∧e.kind≠11∧e.kind≠13∧e.kind≠3∧e.kind≠5∧e.kind≠20∧e.kind≠18∧e.kind≠16) (k:∀ st',eF nc N b0 e c hp st'→exS aT ks Q .normal st'):pwp aT pct36c1 (exS aT ks Q) st:=by
 have k6:(e.kind == 6)=false:=beq_false_of_ne hk.1;have k8:(e.kind == 8)=false:=beq_false_of_ne hk.2.1;have k11:(e.kind == 11)=false:=beq_false_of_ne hk.2.2.1;have k13:(e.kind == 13)=false:=beq_false_of_ne hk.2.2.2.1;have k3:(e.kind == 3)=false:=beq_false_of_ne hk.2.2.2.2.1;have k5:(e.kind == 5)=false:=beq_false_of_ne hk.2.2.2.2.2.1;have k20:(e.kind == 20)=false:=beq_false_of_ne hk.2.2.2.2.2.2.1;have k18:(e.kind == 18)=false:=beq_false_of_ne hk.2.2.2.2.2.2.2.1;have k16:(e.kind == 16)=false:=beq_false_of_ne hk.2.2.2.2.2.2.2.2;have s2:=hM.s2;have s3:=hM.s3;have s6:=hM.s6;have s8:=hM.s8;have g3:=hM.g3;have o3:=hM.o3;have hn:=hM.hnc;have hh:=hM.hb;have p2:=hM.p2;have p6:=hM.p6;have p7:=hM.p7;have n6:=hM.n6;have ah:=hM.ah;unfold pct36c1;simp only [↓evP,evB,stB,reduceIte,reduceCtorEq,seval,k6,k8,k11,k13,k3,k5,k20,k18,k16,s2,s3,s8,g3,o3,hh,p2,Ev.row]
 exact k _ (hM.acq (by simp only [stB,reduceIte,seval]) (by simp only [stB,reduceIte,seval]) (by simp only [stB,reduceIte,seval]) (by simp only [stB,reduceIte,seval]) (by simp only [stB,reduceIte,seval]) (by simp only [stB,reduceIte,seval]) (by simp only [stB,seval]) (by simp only [stB,seval]) (by simp only [stB,seval]) (by simp only [stB,seval]) (by simp only [stB,seval]) (by (repeat' (first | exact aF.init | assumption | (refine aF.ap ?_ rfl)))) (by simp only [stB,seval,hh]) rfl p6 rfl)
end
def bZ.at_ (p:bZ) (k:Int) (e:Ev):Ck:=(p.f k e.obj e.off).getD ckZ
def bZ.acq (p:bZ) (e:Ev) (c:Ck):Ck×bZ :=
 if e.kind=6 then (aQ (aQ c (p.at_ 0 e)) (p.at_ 1 e),p)
 else if e.kind=8 then (aQ c (p.at_ 0 e),p)
 else if e.kind=11 then (aQ c (p.at_ 2 e),p)
 else if e.kind=13 then (aQ c (p.at_ 3 e),p)
 else if e.kind=3∨e.kind=5 then (aQ c (p.at_ 4 e),p)
 else if e.kind=20 then (aQ c (p.at_ 5 e),p)
 else if e.kind=18 then (aQ c ((p.ringAt e).1.getD (dV e.k (p.ringAt e).1) ckZ),{ p with g:=wJ p.g e.obj (p.ringAt e) })
 else if e.kind=16 then (if 0≤e.k - e.n then (aQ c ((p.ringAt e).2.getD (dV (e.k - e.n) (p.ringAt e).2) ckZ),{ p with g:=wJ p.g e.obj (p.ringAt e) }) else (c,p))
 else (c,p)
section
variable {hp:Nat→Hb} {b0 N:Nat} {D:Nat→Prop} {t:mV} {e:Ev} {c:Ck} {nc:Nat→Nat}
theorem tJ {g:Int→Option (List Ck×List Ck)} {o:Int} {v:List Ck×List Ck} (h:g o=some v):wJ g o v=g:=by
 funext o'
 unfold wJ;split
 ·rename_i he;rw [he,h]
 ·rfl
theorem yU (hg:∃ v,t.g e.obj=some v):∃ v,t.g e.obj=some v∧t.p.g e.obj=some v.2.2∧t.p.ringAt e=v.2.2:=by
 obtain ⟨v,hv⟩:=hg;refine ⟨v,hv,?_,?_⟩
 ·show Option.map _ (t.g e.obj)=_;rw [hv];rfl
 ·show Option.getD (Option.map _ (t.g e.obj)) _=_;rw [hv];rfl
theorem yT (hg:t.g e.obj=none):t.p.ringAt e=(bD (e.n+1).toNat,bD (e.n+1).toNat):=by
 show Option.getD (Option.map _ (t.g e.obj)) _=_;rw [hg];rfl
theorem Qy (h:TabAt hp b0 D t) (hD:∀ b,D b→b < N) (hN:Free hp (N+8)) (hc:c.length=8) (he:kF e) (p2:hp (N+2)=.cells [.h (.p b0 0)]) (p6:hp (N+6)=.cells (ckH c)) (p7:hp (N+7)=.cells [hI e.obj,hI e.off]) :
 ∃ c' hp' D' t',TabAt hp' b0 D' t'∧(c',t'.p)=t.p.acq e c∧(t'.st=t.st∧t'.sn=t.sn)∧c'.length=8∧((∀ b,D b→D' b)∧(∀ b,D' b→D b∨N+8≤b)∧(∀ b,¬ D b→b < N→hp' b=hp b)∧Free hp' (N+40)∧∀ b,D' b→b < N+40) ∧
   ∀ st ks Q,eF nc N b0 e c hp st→(∀ st',eF nc N b0 e c' hp' st'→exS aT ks Q .normal st')→pwp aT pct36c1 (exS aT ks Q) st:=by
 have n6:¬ D (N+6):=fun q=>by have:=hD _ q;omega
 have idD:(∀ b,D b→D b)∧(∀ b,D b→D b∨N+8≤b)∧∀ b,D b→b < N+40:=⟨fun _ q=>q,fun _ q=>.inl q,fun b q=>by have:=hD b q;omega⟩
 have f1:∀ {x:Hb},(∀ b,¬ D b→b < N→up hp (N+6) x b=hp b)∧Free (up hp (N+6) x) (N+40):=fun {x}=>⟨fun b _ q=>aB (by omega),fun b q=>by rw [aB (by omega)];exact hN b (by omega)⟩
 have f2:∀ {x y:Hb},(∀ b,¬ D b→b < N→up (up hp (N+6) x) (N+6) y b=hp b)∧Free (up (up hp (N+6) x) (N+6) y) (N+40):=fun {x y}=>⟨fun b _ q=>by rw [aB (by omega),aB (by omega)],fun b q=>by rw [aB (by omega),aB (by omega)];exact hN b (by omega)⟩
 have one:∀ (K:Int) (d:Ck),d.length=8→(aQ c d,t.p)=t.p.acq e c→(∀ st ks Q,eF nc N b0 e c hp st→(∀ st',eF nc N b0 e (aQ c d) (up hp (N+6) (.cells (ckH (aQ c d)))) st'→exS aT ks Q .normal st')→pwp aT pct36c1 (exS aT ks Q) st) →
  ∃ c' hp' D' t',TabAt hp' b0 D' t'∧(c',t'.p)=t.p.acq e c∧(t'.st=t.st∧t'.sn=t.sn)∧c'.length=8∧((∀ b,D b→D' b)∧(∀ b,D' b→D b∨N+8≤b)∧(∀ b,¬ D b→b < N→hp' b=hp b)∧Free hp' (N+40)∧∀ b,D' b→b < N+40) ∧
  ∀ st ks Q,eF nc N b0 e c hp st→(∀ st',eF nc N b0 e c' hp' st'→exS aT ks Q .normal st')→pwp aT pct36c1 (exS aT ks Q) st :=
  fun K d hd ha hgo=>⟨_,_,D,t,h.new n6,ha,⟨rfl,rfl⟩,bI hc hd,⟨idD.1,idD.2.1,f1.1,f1.2,idD.2.2⟩,hgo⟩
 by_cases k6:e.kind=6
 ·refine ⟨_,_,D,t,(h.new n6).new n6,?_,⟨rfl,rfl⟩,bI (bI hc (gK h 0 e.obj e.off).2) (gK h 1 e.obj e.off).2,⟨idD.1,idD.2.1,f2.1,f2.2,idD.2.2⟩,fun st ks Q hM k=>TT hM h n6 hc he k6 k⟩;unfold bZ.acq;rw [if_pos k6];rfl
 by_cases k8:e.kind=8
 ·exact one 0 _ (gK h 0 e.obj e.off).2 (by unfold bZ.acq;rw [if_neg k6,if_pos k8];rfl) (fun st ks Q hM k=>TU hM h n6 hc he k8 k)
 by_cases k11:e.kind=11
 ·exact one 0 _ (gK h 2 e.obj e.off).2 (by unfold bZ.acq;rw [if_neg k6,if_neg k8,if_pos k11];rfl) (fun st ks Q hM k=>Qs hM h n6 hc he k11 k)
 by_cases k13:e.kind=13
 ·exact one 0 _ (gK h 3 e.obj e.off).2 (by unfold bZ.acq;rw [if_neg k6,if_neg k8,if_neg k11,if_pos k13];rfl) (fun st ks Q hM k=>Qt hM h n6 hc he k13 k)
 by_cases k3:e.kind=3
 ·exact one 0 _ (gK h 4 e.obj e.off).2 (by unfold bZ.acq;rw [if_neg k6,if_neg k8,if_neg k11,if_neg k13,if_pos (.inl k3)];rfl) (fun st ks Q hM k=>TQ hM h n6 hc he k3 k)
 by_cases k5:e.kind=5
 ·exact one 0 _ (gK h 4 e.obj e.off).2 (by unfold bZ.acq;rw [if_neg k6,if_neg k8,if_neg k11,if_neg k13,if_pos (.inr k5)];rfl) (fun st ks Q hM k=>TR hM h n6 hc he k5 k)
 have k35:¬ (e.kind=3∨e.kind=5):=fun q=>q.elim k3 k5
 by_cases k20:e.kind=20
 ·exact one 0 _ (gK h 5 e.obj e.off).2 (by unfold bZ.acq;rw [if_neg k6,if_neg k8,if_neg k11,if_neg k13,if_neg k35,if_pos k20];rfl) (fun st ks Q hM k=>Qx hM h n6 hc he k20 k)
 -- a ring that is made
 have made:t.g e.obj=none→(aQ c ckZ,{ t.p with g:=wJ t.p.g e.obj (bD (e.n+1).toNat,bD (e.n+1).toNat) })=t.p.acq e c→(∀ hp1,hp1=up (up (up hp (N+8+22) (.cells (bn (bD (e.n+1).toNat)))) (N+8+25) (.cells (bn (bD (e.n+1).toNat)))) t.br (.map 3 (dR t.rs t.rcl (.int .i64 e.obj) (rgW (N+8+22) (N+8+25) (e.n+1).toNat)) (t.rcl+1)) →
  ∀ st ks Q,eF nc N b0 e c hp st→(∀ st',eF nc N b0 e (aQ c ckZ) (up hp1 (N+6) (.cells (ckH (aQ c ckZ)))) st'→exS aT ks Q .normal st')→pwp aT pct36c1 (exS aT ks Q) st) →
  ∃ c' hp' D' t',TabAt hp' b0 D' t'∧(c',t'.p)=t.p.acq e c∧(t'.st=t.st∧t'.sn=t.sn)∧c'.length=8∧((∀ b,D b→D' b)∧(∀ b,D' b→D b∨N+8≤b)∧(∀ b,¬ D b→b < N→hp' b=hp b)∧Free hp' (N+40)∧∀ b,D' b→b < N+40) ∧
  ∀ st ks Q,eF nc N b0 e c hp st→(∀ st',eF nc N b0 e c' hp' st'→exS aT ks Q .normal st')→pwp aT pct36c1 (exS aT ks Q) st:=by
  intro hg ha hgo;have nN:∀ b,N≤b→¬ D b:=fun b hb q=>by have:=hD b q;omega
  have hnew:=h.Ah hg (b1:=N+8+22) (b2:=N+8+25) (m:=(e.n+1).toNat) (nN _ (by omega)) (nN _ (by omega)) (by omega) (by have:=he.n;omega)
  have hr:=hD _ h.dd.2.2.2;refine ⟨_,_,_,_,hnew.new (b:=N+6) (x:=.cells (ckH (aQ c ckZ))) (fun q=>?_),?_,⟨rfl,rfl⟩,bI hc rfl,⟨fun b q=>.inl q,fun b q=>q.imp id (fun q=>by omega),fun b q1 q2=>?_,fun b q=>?_,fun b q=>?_⟩,hgo _ rfl⟩
  ·rcases q with q | q | q
   ·exact n6 q
   ·omega
   ·omega
  ·rw [←ha]
   show (_,bZ.mk _ _ _)=_
   rw [xX];rfl
  ·rw [aB (by omega),aB (fun e:b=t.br=>q1 (e ▸ h.dd.2.2.2)),aB (by omega),aB (by omega)]
  ·rw [aB (by omega),aB (by omega),aB (by omega),aB (by omega)];exact hN b (by omega)
  ·rcases q with q | q | q
   ·have:=hD b q;omega
   ·omega
   ·omega
 have self:∀ {v:Nat×Nat×List Ck×List Ck},t.g e.obj=some v→({ t.p with g:=wJ t.p.g e.obj v.2.2 }:bZ)=t.p:=fun {v} hv=>by
  have:t.p.g e.obj=some v.2.2:=by show Option.map _ (t.g e.obj)=_;rw [hv];rfl
  rw [tJ this]
 by_cases k18:e.kind=18
 ·cases hg:t.g e.obj with
  | none =>
    refine made hg ?_ (fun hp1 e1 st ks Q hM k=>Qw hM h hD hN hc he k18 hg rfl rfl rfl e1 k);unfold bZ.acq;rw [if_neg k6,if_neg k8,if_neg k11,if_neg k13,if_neg k35,if_neg k20,if_pos k18,yT hg];have:(bD (e.n+1).toNat).getD (dV e.k (bD (e.n+1).toNat)) ckZ=ckZ:=by unfold bD;rw [List.getD_eq_getElem?_getD,List.getElem?_replicate];split <;> rfl
    rw [this]
  | some v =>
    obtain ⟨b1,b2,l1,l2⟩:=v;obtain ⟨_,ri⟩:=h.ring hg;have hpos:=ri.pos;have m0:(0:Int)≤Int.tmod e.k (l1.length:Int):=Int.tmod_nonneg _ he.k.1;have m1:Int.tmod e.k (l1.length:Int) < (l1.length:Int):=Int.tmod_lt_of_pos _ (by omega);obtain ⟨d,hd⟩:∃ d,l1[(Int.tmod e.k (l1.length:Int)).toNat]? = some d:=⟨_,List.getElem?_eq_getElem (by omega)⟩
    refine one 0 d (ri.c1 d (List.mem_of_getElem? hd)) ?_ (fun st ks Q hM k=>TP hM h hD hN hc he k18 hg hd k);obtain ⟨v,hv,_,e2⟩:=yU (e:=e) ⟨_,hg⟩;rw [hg] at hv;cases hv;unfold bZ.acq;rw [if_neg k6,if_neg k8,if_neg k11,if_neg k13,if_neg k35,if_neg k20,if_pos k18,e2,self hg]
    show _=(aQ c (l1.getD (dV e.k l1) ckZ),_)
    unfold dV;rw [List.getD_eq_getElem?_getD,hd];rfl
 by_cases k16:e.kind=16
 ·by_cases hge:0≤e.k - e.n
  ·cases hg:t.g e.obj with
   | none =>
     refine made hg ?_ (fun hp1 e1 st ks Q hM k=>Qu hM h hD hN hc he k16 hge hg rfl rfl rfl e1 k);unfold bZ.acq;rw [if_neg k6,if_neg k8,if_neg k11,if_neg k13,if_neg k35,if_neg k20,if_neg k18,if_pos k16,if_pos hge,yT hg];have:(bD (e.n+1).toNat).getD (dV (e.k - e.n) (bD (e.n+1).toNat)) ckZ=ckZ:=by unfold bD;rw [List.getD_eq_getElem?_getD,List.getElem?_replicate];split <;> rfl
     rw [this]
   | some v =>
     obtain ⟨b1,b2,l1,l2⟩:=v;obtain ⟨_,ri⟩:=h.ring hg;have hpos:=ri.pos;have hlen:=ri.len;have m0:(0:Int)≤Int.tmod (e.k - e.n) (l1.length:Int):=Int.tmod_nonneg _ hge;have m1:Int.tmod (e.k - e.n) (l1.length:Int) < (l1.length:Int):=Int.tmod_lt_of_pos _ (by omega);obtain ⟨d,hd⟩:∃ d,l2[(Int.tmod (e.k - e.n) (l1.length:Int)).toNat]? = some d:=⟨_,List.getElem?_eq_getElem (by omega)⟩
     refine one 0 d (ri.c2 d (List.mem_of_getElem? hd)) ?_ (fun st ks Q hM k=>TN hM h hD hN hc he k16 hge hg hd k);obtain ⟨v,hv,_,e2⟩:=yU (e:=e) ⟨_,hg⟩;rw [hg] at hv;cases hv;unfold bZ.acq;rw [if_neg k6,if_neg k8,if_neg k11,if_neg k13,if_neg k35,if_neg k20,if_neg k18,if_pos k16,if_pos hge,e2,self hg]
     show _=(aQ c (l2.getD (dV (e.k - e.n) l2) ckZ),_)
     unfold dV;rw [←hlen,List.getD_eq_getElem?_getD,hd];rfl
  ·refine ⟨c,hp,D,t,h,?_,⟨rfl,rfl⟩,hc,⟨idD.1,idD.2.1,fun _ _ _=>rfl,fun b q=>hN b (by omega),idD.2.2⟩,fun st ks Q hM k=>Qv hM he k16 hge k⟩;unfold bZ.acq;rw [if_neg k6,if_neg k8,if_neg k11,if_neg k13,if_neg k35,if_neg k20,if_neg k18,if_pos k16,if_neg hge]
 refine ⟨c,hp,D,t,h,?_,⟨rfl,rfl⟩,hc,⟨idD.1,idD.2.1,fun _ _ _=>rfl,fun b q=>hN b (by omega),idD.2.2⟩,fun st ks Q hM k=>MS hM ⟨k6,k8,k11,k13,k3,k5,k20,k18,k16⟩ k⟩;unfold bZ.acq;rw [if_neg k6,if_neg k8,if_neg k11,if_neg k13,if_neg k35,if_neg k20,if_neg k18,if_neg k16]
end
def Am:(Nat→Hb)→List Hw→(Nat→Hb)→List Hw→Prop:=Runs aT ntt36 pct36 prt36
theorem Vn:iF Try.prog 36 Am:=spt36 Iz (fun _ _ _ _ h=>h)
def bZ.fin (p:bZ) (e:Ev) (c:Ck):bZ:={ (p.rel e c) with ck:=(p.rel e c).ck.set e.g.toNat c }
section
variable {hp:Nat→Hb} {b0 N N1:Nat} {D:Nat→Prop} {t:mV} {e:Ev} {c:Ck} {nc:Nat→Nat}
theorem Ro (h:TabAt hp b0 D t) (hD:∀ b,D b→b < N1) (hF:Free hp N1) (h8:N+8≤N1) (nD2:¬ D (N+2)) (nD6:¬ D (N+6)) (he:kF e) (hc:c.length=8) (hnb:nc b0=1000) :
 ∃ hp' D' t',TabAt hp' b0 D' t'∧t'.p=t.p.fin e c∧(t'.st=t.st∧t'.sn=t.sn)∧Left hp D N1 hp' D' (N1+40) ∧
   ∀ st Q,eF nc N b0 e c hp st→(∀ st',st'.iw prt36=some [fU c,.one (hI 0)]→st'.hb=hp'→Q .ret st')→pwp aT pct36c0 (exS aT [] Q) st:=by
 obtain ⟨hp1,D1,t1,hR,hT1,hpp,hst,hL⟩:=QZ h hD hF he hc;have hg:=he.g;refine ⟨_,D1,_,hT1.clk (g:=e.g.toNat) hc,?_,hst,hL.trans ⟨Nat.le_refl _,fun _ q=>q,fun _ q=>.inl q,fun b q _=>aB (fun e:b=b0=>q (e ▸ hT1.dd.1)),fun b q=>by rw [aB (by have:=hL.lt _ hT1.dd.1;omega)];exact hL.free b q,hL.lt⟩,fun st Q hM k=>?_⟩
 ·unfold bZ.fin;rw [←hpp];rfl
 have s2:=hM.s2;have s3:=hM.s3;have s4:=hM.s4;have s6:=hM.s6;have s7:=hM.s7;have g3:=hM.g3;have o3:=hM.o3;have g4:=hM.g4;have o4:=hM.o4;have hn:=hM.hnc;have hh:=hM.hb;have p2:=hM.p2;have p6:=hM.p6;have p7:=hM.p7;have n6:=hM.n6;have v2:hp1 (N+2)=.cells [.h (.p b0 0)]:=(hL.out _ nD2 (by omega)).trans p2;have v6:hp1 (N+6)=.cells (ckH c):=(hL.out _ nD6 (by omega)).trans p6;have hb06:N+6≠b0:=fun e=>nD6 (e ▸ h.dd.1)
 obtain ⟨l3,l4⟩:=nP hc;have l5:(aK c).length=8:=by rw [aJ,hc]
 have jl:0+8≤(ckH c).length:=by rw [bU,hc];exact Nat.le_refl _
 have jl8:8≤(ckH c).length:=by rw [bU,hc];exact Nat.le_refl _
 have q0:=hg.1;have q8:e.g < 8:=hg.2;have q9:e.g < ((8:Nat):Int):=hg.2;have h01:=hT1.h0;have tl:1+e.g.toNat * 8+8≤(dS t1.bs t1.bo t1.br t1.ck).length:=by rw [rR hT1.ck];omega
 have ts:eU (dS t1.bs t1.bo t1.br t1.ck) (1+e.g.toNat * 8) (ckH c)=dS t1.bs t1.bo t1.br (t1.ck.set e.g.toNat c):=DC hT1.ck (by omega) hc;unfold pct36c0;simp only [↓evP,evB,stB,reduceIte,seval,s2,s3,s6,s7,g3,o3,hh,p2,p6,p7,Ev.row,bW,l4,l5,aV];refine aN hp1 [] (by simp only [stB,seval,hh];exact hR) ?_
 simp only [↓evP,evB,stB,reduceIte,seval,s2,s3,s6,g3,o3,hn,v2,v6,hnb,h01,tl,ts,q0,q8,Ev.row,bW,l4,l5,aV];refine ⟨(by unfold Drw;refine Eq.trans (b:=true) ?_ rfl;kernel_rfl),?_⟩
 simp only [↓evP,evB,stB,reduceIte,seval,s4,g4,o4,hb06,bW,l4,l5,jl];refine k _ ?_ ?_
 ·simp only [stB,reduceIte,seval,s4,g4,o4,l4,l5,lV hc,aV,prt36,fU]
 ·simp only [stB,seval,hn,hnb]
end
theorem VF {e:Ev} (h:e.valid=true):kF e:=by
 have hg:=Ev.wL h;have ho:=Ev.oP h;have hf:=Ev.zi h;have hk:=Ev.sG h;have hn:=Ev.nH h;refine ⟨hg,⟨by omega,by omega⟩,⟨by omega,by omega⟩,hk,⟨hn.1,?_⟩,fun q=>(Ev.rV h q).2⟩
 have hr:e.rest=true:=by
  unfold Ev.valid at h;simp only [Bool.and_eq_true] at h;exact h.2
 unfold Ev.rest at hr;split at hr
 ·have:=of_decide_eq_true hr;omega
 ·split at hr
  ·exact (of_decide_eq_true hr).2
  ·split at hr
   ·exact (of_decide_eq_true hr).2.1
   ·have:=of_decide_eq_true hr;omega
def bZ.adv (p:bZ) (e:Ev):Ck×bZ :=
 let a:=p.acq e (iH (p.ck.getD e.g.toNat ckZ) e.g)
 (a.1,a.2.fin e a.1)
section
variable {hp:Nat→Hb} {b0 N:Nat} {D:Nat→Prop} {t:mV} {e:Ev}
theorem Pn (h:TabAt hp b0 D t) (hD:∀ b,D b→b < N) (hN:Free hp N) (hv:e.valid=false) :
 ∃ hp',Am hp [hP b0 0,evW e] hp' [fU ckZ,.one (hI 1)]∧TabAt hp' b0 D t∧Left hp D N hp' D (N+3):=by
 have nD:¬ D (N+2):=fun q=>by have:=hD _ q;omega
 refine ⟨up hp (N+2) (.cells [.h (.p b0 0)]),?_,h.new nD,⟨by omega,fun _ q=>q,fun _ q=>.inl q,fun b _ q=>aB (by omega),fun b q=>by rw [aB (by omega)];exact hN b (by omega),fun b q=>by have:=hD b q;omega⟩⟩
 obtain ⟨nc,hnc⟩:∃ nc,nc=ncN N:=⟨_,rfl⟩
 have n2:nc (N+2)=3:=by rw [hnc];exact aP
 refine ⟨by simp [ntt36],nc,?_⟩;unfold pct36;refine aH ?_;simp only [↓evP,evB,stB,seval,evW,jr,Ev.pa,Ev.row];refine aY (cs:=[.hv (.p b0 0)]) (hs:=[.h (.p b0 0)]) (N+2) (bG (by simp only [stB,seval,n2]) (by (repeat' (first | exact aF.init | assumption | (refine aF.ap ?_ rfl)))) (by simp only [stB,seval];exact hN.at_ 2)) (by simp only [stB,seval]) (by simp only [stB,seval]) ?_
 simp only [↓evP,evB,stB,reduceCtorEq,Nat.reduceEqDiff,Nat.reduceAdd,Nat.reduceLeDiff,Nat.reduceLT,n2];refine aC [pB e.valid] (by exact ⟨e,rfl,rfl⟩) ?_;simp only [↓evP,evB,stB,reduceCtorEq,Nat.reduceEqDiff,Nat.reduceAdd,Nat.reduceLeDiff,Nat.reduceLT,hv,n2,prt36,fU,ckH,ckZ];rfl
def lD (hp:Nat→Hb) (N b0:Nat) (t:mV) (e:Ev):Nat→Hb:=up (up hp (N+2) (.cells [.h (.p b0 0)])) t.bs (.ab (tsH ((t.st.add e).getD t.st) (t.sn+2)))
theorem Gs (h:TabAt hp b0 D t) (hD:∀ b,D b→b < N):TabAt (lD hp N b0 t e) b0 D { t with st:=(t.st.add e).getD t.st,sn:=t.sn+2 } :=
 (h.new (b:=N+2) (x:=.cells [.h (.p b0 0)]) (fun q=>by have:=hD _ q;omega)).stt _ _
theorem SE (h:TabAt hp b0 D t) (hD:∀ b,D b→b < N) (hN:Free hp N) (hwf:t.st.wf) (hsn:t.sn≤1000000) (hv:e.valid=true) (ha:t.st.add e=none) :
 ∃ hp' t',Am hp [hP b0 0,evW e] hp' [fU ckZ,.one (hI 11)]∧TabAt hp' b0 D t'∧(t'.p=t.p∧t'.st=t.st∧t'.sn=t.sn+2)∧Left hp D N hp' D (N+3):=by
 have ht:=Gs (e:=e) h hD;refine ⟨lD hp N b0 t e,_,?_,ht,⟨rfl,by show (t.st.add e).getD t.st=_;rw [ha];rfl,rfl⟩,⟨by omega,fun _ q=>q,fun _ q=>.inl q,fun b q1 q2=>?_,fun b q=>?_,fun b q=>by have:=hD b q;omega⟩⟩
 rotate_left
 ·unfold lD;rw [aB (fun e:b=t.bs=>q1 (e ▸ h.dd.2.1)),aB (by omega)]
 ·have:=hD _ h.dd.2.1;unfold lD;rw [aB (by omega),aB (by omega)];exact hN b (by omega)
 obtain ⟨nc,hnc⟩:∃ nc,nc=ncN N:=⟨_,rfl⟩
 have n2:nc (N+2)=3:=by rw [hnc];exact aP
 have ls:=hD _ h.dd.2.1;have l0:=hD _ h.dd.1;have nb:nc b0=1000:=by rw [hnc];exact aU l0
 have ns:nc t.bs=1000:=by rw [hnc];exact aU ls
 have h0:=h.h0;have hs:=h.hs;have t0:(dS t.bs t.bo t.br t.ck)[0]? = some (.h (.v t.bs)):=Gg;have d02:b0≠N+2:=by omega
 have ds2:t.bs≠N+2:=by omega
 refine ⟨by simp [ntt36],nc,?_⟩;unfold pct36;refine aH ?_;simp only [↓evP,evB,stB,seval,evW,jr,Ev.pa,Ev.row];refine aY (cs:=[.hv (.p b0 0)]) (hs:=[.h (.p b0 0)]) (N+2) (bG (by simp only [stB,seval,n2]) (by (repeat' (first | exact aF.init | assumption | (refine aF.ap ?_ rfl)))) (by simp only [stB,seval];exact hN.at_ 2)) (by simp only [stB,seval]) (by simp only [stB,seval]) ?_
 simp only [↓evP,evB,stB,reduceIte,reduceCtorEq,seval,n2];refine aC [pB e.valid] (by exact ⟨e,rfl,rfl⟩) ?_;simp only [↓evP,evB,stB,reduceIte,reduceCtorEq,seval,hv,n2,h0,t0,d02];refine mM (lD hp N b0 t e) [.one (.d (dB (t.st.add e).isSome))] (by simp only [stB,seval,n2];exact ⟨t.bs,tsH t.st t.sn,[e.pa],_,[pB (t.st.add e).isSome],rfl,(aB ds2).trans hs,⟨t.st,t.sn,e,rfl,rfl,⟨hwf,hsn⟩,rfl,rfl⟩,rfl,rfl⟩) ?_
 have hi:(t.st.add e).isSome=false:=by rw [ha];rfl
 simp only [↓evP,evB,stB,reduceCtorEq,Nat.reduceEqDiff,Nat.reduceAdd,Nat.reduceLeDiff,Nat.reduceLT,hi];refine ⟨(by unfold Drw;refine Eq.trans (b:=true) ?_ rfl;kernel_rfl),?_⟩
 simp only [stB,Nat.reduceEqDiff,Nat.reduceAdd,Nat.reduceLeDiff,Nat.reduceLT,prt36,fU,ckH,ckZ];rfl
theorem Po (h:TabAt hp b0 D t) (hD:∀ b,D b→b < N) (hN:Free hp N) (hwf:t.st.wf) (hsn:t.sn≤1000000) (hck:∀ c ∈ t.ck,RG c) (hv:e.valid=true) {s':TS} (ha:t.st.add e=some s') :
 ∃ hp' D' t',Am hp [hP b0 0,evW e] hp' [fU (t.p.adv e).1,.one (hI 0)]∧TabAt hp' b0 D' t'∧(t'.p=(t.p.adv e).2∧t'.st=s'∧t'.sn=t.sn+2)∧Left hp D N hp' D' (N+80):=by
 have he:=VF hv;have hg:=he.g;have ht:=Gs (e:=e) h hD;obtain ⟨c0,hc0⟩:∃ c0,t.ck[e.g.toNat]? = some c0:=⟨_,List.getElem?_eq_getElem (by rw [h.ck.1];omega)⟩
 have hm0:=List.mem_of_getElem? hc0;have hl0:=h.ck.2 c0 hm0;have hgd:t.ck.getD e.g.toNat ckZ=c0:=by rw [List.getD_eq_getElem?_getD,hc0];rfl
 have hlt:(iH c0 e.g).length=8:=by rw [qM,hl0]
 have nD:∀ d,¬ D (N+d):=fun d q=>by have:=hD _ q;omega
 obtain ⟨hpA,hA⟩:∃ hpA,hpA=up (up (up (up (lD hp N b0 t e) (N+6) (.cells [hI 0,hI 0,hI 0,hI 0,hI 0,hI 0,hI 0,hI 0])) (N+6) (.cells (ckH (iH c0 e.g)))) (N+7) (.cells [hI 0,hI 0])) (N+7) (.cells [hI e.obj,hI e.off]):=⟨_,rfl⟩
 obtain ⟨nc,hnc⟩:∃ nc,nc=ncN N:=⟨_,rfl⟩
 have n2:nc (N+2)=3:=by rw [hnc];exact aP
 have ls:=hD _ h.dd.2.1;have l0:=hD _ h.dd.1;have nb:nc b0=1000:=by rw [hnc];exact aU l0
 have ns:nc t.bs=1000:=by rw [hnc];exact aU ls
 have h0:=h.h0;have hs:=h.hs;have t0:(dS t.bs t.bo t.br t.ck)[0]? = some (.h (.v t.bs)):=Gg;have d02:b0≠N+2:=by omega
 have ds2:t.bs≠N+2:=by omega
 have hold:∀ b,¬ D b→b < N→hpA b=hp b:=fun b q1 q2=>by
  rw [hA,aB (by omega),aB (by omega),aB (by omega),aB (by omega)];unfold lD;rw [aB (fun e:b=t.bs=>q1 (e ▸ h.dd.2.1)),aB (by omega)]
 have hfree:Free hpA (N+8):=fun b q=>by
  rw [hA,aB (by omega),aB (by omega),aB (by omega),aB (by omega)];unfold lD;rw [aB (by omega),aB (by omega)];exact hN b (by omega)
 have hT:TabAt hpA b0 D { t with st:=(t.st.add e).getD t.st,sn:=t.sn+2 }:=by
  rw [hA];exact (((ht.new (nD 6)).new (nD 6)).new (nD 7)).new (nD 7)
 have p2:hpA (N+2)=.cells [.h (.p b0 0)]:=by
  rw [hA,aB (by omega),aB (by omega),aB (by omega),aB (by omega)];unfold lD;rw [aB (by omega),bV]
 have p6:hpA (N+6)=.cells (ckH (iH c0 e.g)):=by rw [hA,aB (by omega),aB (by omega),bV]
 have p7:hpA (N+7)=.cells [hI e.obj,hI e.off]:=by rw [hA,bV]
 obtain ⟨c1,hpB,D1,t1,hT1,hp1,hst1,hl1,⟨f1,f2,f3,f4,f5⟩,hgo1⟩:=Qy (nc:=nc) hT hD hfree hlt he p2 p6 p7;have nD1:∀ d,d < 8→¬ D1 (N+d):=fun d hd q=>(f2 _ q).elim (nD d) (fun q=>by omega)
 obtain ⟨hp2,D2,t2,hT2,hp2p,hst2,hL2,hgo2⟩:=Ro (nc:=nc) (N:=N) hT1 f5 f4 (by omega) (nD1 2 (by omega)) (nD1 6 (by omega)) he hl1 nb
 have eadv:t.p.adv e=(c1,t2.p):=by
  unfold bZ.adv
  show (_,_)=_
  have e1:t.p.acq e (iH (t.p.ck.getD e.g.toNat ckZ) e.g)=(c1,t1.p):=by
   rw [show t.p.ck.getD e.g.toNat ckZ=c0 from hgd];exact hp1.symm
  rw [e1,hp2p]
 refine ⟨hp2,D2,t2,?_,hT2,⟨by rw [eadv],by rw [hst2.1,hst1.1];show (t.st.add e).getD t.st=_;rw [ha];rfl,by rw [hst2.2,hst1.2]⟩,⟨by omega,fun b q=>hL2.sub b (f1 b q),fun b q=>(hL2.new b q).elim (fun q=>(f2 b q).imp id (fun q=>by omega)) (fun q=>.inr (by omega)),fun b q1 q2=>(hL2.out b (fun q=>(f2 b q).elim q1 (fun q=>by omega)) (by omega)).trans ((f3 b q1 q2).trans (hold b q1 q2)),hL2.free,hL2.lt⟩⟩
 rw [eadv];refine ⟨by simp [ntt36],nc,?_⟩;unfold pct36;refine aH ?_;simp only [↓evP,evB,stB,seval,evW,jr,Ev.pa,Ev.row];refine aY (cs:=[.hv (.p b0 0)]) (hs:=[.h (.p b0 0)]) (N+2) (bG (by simp only [stB,seval,n2]) (by (repeat' (first | exact aF.init | assumption | (refine aF.ap ?_ rfl)))) (by simp only [stB,seval];exact hN.at_ 2)) (by simp only [stB,seval]) (by simp only [stB,seval]) ?_
 simp only [↓evP,evB,stB,reduceIte,reduceCtorEq,seval,n2];refine aC [pB e.valid] (by exact ⟨e,rfl,rfl⟩) ?_;simp only [↓evP,evB,stB,reduceIte,reduceCtorEq,seval,hv,n2,h0,t0,d02];refine mM (lD hp N b0 t e) [.one (.d (dB (t.st.add e).isSome))] (by simp only [stB,seval,n2];exact ⟨t.bs,tsH t.st t.sn,[e.pa],_,[pB (t.st.add e).isSome],rfl,(aB ds2).trans hs,⟨t.st,t.sn,e,rfl,rfl,⟨hwf,hsn⟩,rfl,rfl⟩,rfl,rfl⟩) ?_
 have hi:(t.st.add e).isSome=true:=by rw [ha];rfl
 simp only [↓evP,evB,stB,reduceCtorEq,Nat.reduceEqDiff,Nat.reduceAdd,Nat.reduceLeDiff,Nat.reduceLT,hi];refine ⟨(by unfold Drw;refine Eq.trans (b:=true) ?_ rfl;kernel_rfl),?_⟩
 have q0:=hg.1;have q9:e.g < ((8:Nat):Int):=hg.2;have v0:=ht.h0;have v2:lD hp N b0 t e (N+2)=.cells [.h (.p b0 0)]:=by unfold lD;rw [aB (by omega),bV]
 have tl:1+e.g.toNat * 8+8≤(dS t.bs t.bo t.br t.ck).length:=by rw [rR h.ck];omega
 have tg:(((dS t.bs t.bo t.br t.ck).map Hc.cl).drop (1+e.g.toNat * 8)).take 8=aK c0:=Dz h.ck hc0;unfold pct36c2;simp only [↓evP,evB,stB,Nat.reduceEqDiff,Nat.reduceLT,v2,v0,q0,q9,tl,tg,n2,nb,dN];refine bQ [kI (iH c0 e.g)] (by exact xC.mk hl0 (hck c0 hm0)) ?_;simp only [evB,stB,seval,kI,eG];have n6:nc (N+6)=7:=by rw [hnc];exact aP
 have n7:nc (N+7)=8:=by rw [hnc];exact aP
 have w6:lD hp N b0 t e (N+6)=.no:=by unfold lD;rw [aB (by omega),aB (by omega)];exact hN.at_ 6
 have w7:lD hp N b0 t e (N+7)=.no:=by unfold lD;rw [aB (by omega),aB (by omega)];exact hN.at_ 7
 have lc:(aK (iH c0 e.g)).length=8:=by rw [aJ,hlt]
 have wz:eU [hI 0,hI 0,hI 0,hI 0,hI 0,hI 0,hI 0,hI 0] 0 (ckH (iH c0 e.g))=ckH (iH c0 e.g):=vO (by rw [bU,hlt];rfl)
 refine MB (N+6) (bG (by simp only [stB,seval,n6]) (by (repeat' (first | exact aF.init | assumption | (refine aF.ap ?_ rfl)))) (by simp only [stB,seval];exact w6)) ?_
 simp only [↓evP,evB,stB,reduceIte,seval,n6,lc,aV,wz];refine ⟨(by unfold Drw;refine Eq.trans (b:=true) ?_ rfl;kernel_rfl),?_⟩
 refine C9 (N+7) (bG (by simp only [stB,seval,n7]) (by (repeat' (first | exact aF.init | assumption | (refine aF.ap ?_ rfl)))) (by simp only [stB,reduceIte,seval,n6,Nat.add_left_cancel_iff];exact w7)) ?_
 simp only [↓evP,evB,stB,reduceIte,seval,n7];refine hgo1 _ _ _ ⟨(by simp only [stB,reduceIte,seval]),(by simp only [stB,reduceIte,seval]),(by simp only [stB,reduceIte,seval]),(by simp only [stB,reduceIte,seval]),(by simp only [stB,reduceIte,seval]),(by simp only [stB,reduceIte,seval]),(by simp only [stB,reduceIte,seval]),(by simp only [stB,reduceIte,seval];rfl),(by simp only [stB,reduceIte,seval]),(by simp only [stB,reduceIte,seval]),(by simp only [stB,seval]),(by (repeat' (first | exact aF.init | assumption | (refine aF.ap ?_ rfl)))),(by simp only [stB,seval,n6,n7];exact hA.symm),p2,p6,p7,n6⟩ (fun st' hM=>?_)
 rw [RZ];exact hgo2 st' _ hM (fun st'' r1 r2=>⟨.inr rfl,r1,r2⟩)
end
def SB (hp:Nat→Hb) (az:List Hw) (hp':Nat→Hb) (rs:List Hw):Prop:=∃ b ps H',az=ps.map jr∧hp b=.no∧Ol none ps H' []∧hp'=up hp b (.ab H')∧rs=[.one (.h (.v b))]
def GI:Env:=h1 19 SB e0
theorem IE:aG Try.prog GI:=.h1 UC.VP .e0
def FT:(Nat→Hb)→List Hw→(Nat→Hb)→List Hw→Prop:=Runs GI ntt34 pct34 prt34
theorem Uy:iF Try.prog 34 FT:=spt34 IE (fun _ _ _ _ h=>h)
def SA (hp:Nat→Hb) (az:List Hw) (hp':Nat→Hb) (rs:List Hw):Prop:=∃ b H ps H' rs',az=.one (.h (.v b)) :: ps.map jr∧hp b=.ab H∧Oj (some H) ps H' rs'∧hp'=up hp b (.ab H')∧rs=rs'.map jr
def GH:Env:=h1 24 SA e0
theorem IC:aG Try.prog GH:=.h1 UA.toH .e0
def FQ:(Nat→Hb)→List Hw→(Nat→Hb)→List Hw→Prop:=Runs GH ntt40 pct40 prt40
theorem Ux:iF Try.prog 40 FQ:=spt40 IC (fun _ _ _ _ h=>h)
def FP:(Nat→Hb)→List Hw→(Nat→Hb)→List Hw→Prop:=Runs e0 ntt35 pct35 prt35
theorem Uw:iF Try.prog 35 FP:=spt35 aG.e0 (fun _ _ _ _ h=>h)
def bZ.new:bZ:=⟨List.replicate 8 ckZ,fun _ _ _=>none,fun _=>none⟩
def bZ.clock (p:bZ) (g:Int):Ck:=if 0≤g∧g < 8 then p.ck.getD g.toNat ckZ else ckZ
section
variable {hp:Nat→Hb} {b0 N:Nat} {D:Nat→Prop} {t:mV}
theorem PU (h:TabAt hp b0 D t) (g:Int):FP hp [hP b0 0,.one (hI g)] hp [fU (t.p.clock g)]:=by
 have h0:=h.h0;refine ⟨by simp [ntt35],fun _=>1,?_⟩;unfold pct35;refine aH ?_
 by_cases a0:g < 0
 ·have e1:t.p.clock g=ckZ:=if_neg (by omega);simp only [↓evP,evB,stB,reduceCtorEq,Nat.reduceEqDiff,Nat.reduceAdd,Nat.reduceLeDiff,Nat.reduceLT,a0,decide_true,e1,prt35,fU,ckH,ckZ];rfl
 by_cases a8:g≥8
 ·have e1:t.p.clock g=ckZ:=if_neg (by omega);simp only [↓evP,evB,stB,reduceCtorEq,Nat.reduceEqDiff,Nat.reduceAdd,Nat.reduceLeDiff,Nat.reduceLT,a0,a8,decide_true,decide_false,e1,prt35,fU,ckH,ckZ];rfl
 obtain ⟨c,hc⟩:∃ c,t.ck[g.toNat]? = some c:=⟨_,List.getElem?_eq_getElem (by rw [h.ck.1];omega)⟩
 have l8:=h.ck.2 c (List.mem_of_getElem? hc)
 have e1:t.p.clock g=c:=by
  show (if 0≤g∧g < 8 then t.ck.getD g.toNat ckZ else ckZ)=c
  rw [if_pos (by omega),List.getD_eq_getElem?_getD,hc];rfl
 have q0:0≤g:=by omega
 have q9:g < ((8:Nat):Int):=by omega
 have tl:1+g.toNat * 8+8≤(dS t.bs t.bo t.br t.ck).length:=by rw [rR h.ck];omega
 have tg:(((dS t.bs t.bo t.br t.ck).map Hc.cl).drop (1+g.toNat * 8)).take 8=aK c:=Dz h.ck hc;obtain ⟨l3,l4⟩:=nP l8;have l5:(aK c).length=8:=by rw [aJ,l8]
 simp only [↓evP,evB,stB,reduceCtorEq,Nat.reduceEqDiff,Nat.reduceAdd,Nat.reduceLeDiff,Nat.reduceLT,a0,a8,decide_false,h0,q0,q9,tl,tg,e1,l4,l5,lV l8,aV,prt35,fU]
theorem Qf (h:TabAt hp b0 D t):FQ hp [hP b0 0] hp [.one (hI t.st.gor)]:=by
 have h0:=h.h0;have hs:=h.hs;have t0:(dS t.bs t.bo t.br t.ck)[0]? = some (.h (.v t.bs)):=Gg
 have hself:up hp t.bs (.ab (tsH t.st t.sn))=hp:=by
  funext b
  rw [aA];split
  ·rename_i e;rw [e,hs]
  ·rfl
 refine ⟨by simp [ntt40],fun _=>1,?_⟩;unfold pct40;refine aH ?_;simp only [↓evP,evB,stB,reduceCtorEq,Nat.reduceEqDiff,h0,t0];refine aN hp [.one (hI t.st.gor)] (by simp only [stB];exact ⟨t.bs,tsH t.st t.sn,[],tsH t.st t.sn,[pI t.st.gor],rfl,hs,⟨t.st,t.sn,rfl,rfl,rfl,rfl⟩,hself.symm,rfl⟩) ?_
 simp only [↓evP,evB,stB,reduceCtorEq,Nat.reduceEqDiff,prt40]
theorem BX:Ck8 (List.replicate 8 ckZ):=⟨rfl,fun c hc=>by rw [List.eq_of_mem_replicate hc];rfl⟩
theorem QB (hN:Free hp N):∃ hp' t D',FT hp [] hp' [hP (N+5) 0]∧TabAt hp' (N+5) D' t∧(t.p=.new∧t.st=TS.new∧t.sn=0)∧Left hp (fun _=>False) N hp' D' (N+6):=by
 refine ⟨up (up (up (up hp (N+1) (.ab (tsH TS.new 0))) (N+2) (.map 117 [] 0)) (N+3) (.map 3 [] 0)) (N+5) (.cells (dS (N+1) (N+2) (N+3) (List.replicate 8 ckZ))),
  ⟨N+1,N+2,N+3,TS.new,0,List.replicate 8 ckZ,[],0,fun _ _ _=>none,[],0,fun _=>none,fun _=>none⟩,fun b=>b=N+1∨b=N+2∨b=N+3∨b=N+5,?_,?_,⟨rfl,rfl,rfl⟩,?_⟩
 ·obtain ⟨nc,hnc⟩:∃ nc,nc=ncN N:=⟨_,rfl⟩
  have n1:nc (N+1)=2:=by rw [hnc];exact aP
  have n2:nc (N+2)=3:=by rw [hnc];exact aP
  have n3:nc (N+3)=4:=by rw [hnc];exact aP
  have n5:nc (N+5)=6:=by rw [hnc];exact aP
  refine ⟨by simp,nc,?_⟩;unfold pct34;refine aH ?_;simp only [↓evP,evB,stB];refine aN (up hp (N+1) (.ab (tsH TS.new 0))) [.one (.h (.v (N+1)))] (by simp only [stB];exact ⟨N+1,[],_,rfl,hN.at_ 1,⟨rfl,rfl,rfl,rfl⟩,rfl,rfl⟩) ?_
  simp only [evB,stB];refine wX (N+2) (bG (by simp only [stB,n2]) (by (repeat' (first | exact aF.init | assumption | (refine aF.ap ?_ rfl)))) (by simp only [stB,Nat.reduceEqDiff,Nat.add_left_cancel_iff];exact hN.at_ 2)) TI ?_
  simp only [evB,stB];refine wX (N+3) (bG (by simp only [stB,n3]) (by (repeat' (first | exact aF.init | assumption | (refine aF.ap ?_ rfl)))) (by simp only [stB,Nat.reduceEqDiff,n2,Nat.add_left_cancel_iff];exact hN.at_ 3)) MN ?_
  simp only [evB,stB,reduceCtorEq,Nat.reduceEqDiff,Nat.reduceAdd,Nat.reduceLeDiff];refine aY (cs:=(dS (N+1) (N+2) (N+3) (List.replicate 8 ckZ)).map Hc.cl) (hs:=dS (N+1) (N+2) (N+3) (List.replicate 8 ckZ)) (N+5) (bG (by simp only [stB,n5]) (by (repeat' (first | exact aF.init | assumption | (refine aF.ap ?_ rfl)))) (by simp only [stB,Nat.reduceEqDiff,n2,n3,Nat.add_left_cancel_iff];exact hN.at_ 5)) (by simp only [stB,reduceCtorEq,Nat.reduceEqDiff];rfl) (by rfl) ?_
  simp only [↓evP,evB,stB,reduceCtorEq,Nat.reduceEqDiff,n2,n3,n5,prt34]
 ·refine ⟨bV,?_,?_,?_,BX,⟨.inr (.inr (.inr rfl)),.inl rfl,.inr (.inl rfl),.inr (.inr (.inl rfl))⟩,rfl,jv.nil _,fun _ _ _=>rfl,fun e he=>(by cases he),jv.nil _,fun _=>rfl,fun e he=>(by cases he)⟩
  ·show up _ _ _ (N+1)=_;rw [aB (by omega),aB (by omega),aB (by omega),bV]
  ·show up _ _ _ (N+2)=_;rw [aB (by omega),aB (by omega),bV]
  ·show up _ _ _ (N+3)=_;rw [aB (by omega),bV]
 ·refine ⟨by omega,fun _ q=>q.elim,fun b q=>.inr (by omega),fun b _ q=>?_,fun b q=>?_,fun b q=>by omega⟩
  ·rw [aB (by omega),aB (by omega),aB (by omega),aB (by omega)]
  ·rw [aB (by omega),aB (by omega),aB (by omega),aB (by omega)];exact hN b (by omega)
end
def bZ.keep (p:bZ) (k x y:Int):Bool:=if k=1 then (p.f 0 x y).isNone else if k=5 then (p.g x).isNone else true
def U2 (p:bZ) (e:Value×Nat×Hw):Bool:=match e.1 with
 | .agg a=>(match a.toList with
   | [.int _ k,.int _ x,.int _ y]=>p.keep k x y
   | _=>true)
 | _=>true
def mV.objects (t:mV):Nat:=t.rs.length+(t.es.filter (U2 t.p)).length
theorem mZ {es:List (Value×Nat×Hw)} (hn:(es.map (·.2.1)).Nodup) {e:Value×Nat×Hw} (he:e ∈ es):es.find? (·.2.1 == e.2.1)=some e:=by
 induction es with
 | nil=>cases he
 | cons a es ih =>
   rw [List.map_cons,List.nodup_cons] at hn;rw [List.find?_cons]
   rcases List.mem_cons.1 he with h | h
   ·subst h;simp
   ·have hne:(a.2.1 == e.2.1)=false:=beq_false_of_ne (fun q=>hn.1 (q ▸ List.mem_map.2 ⟨e,h,rfl⟩));rw [hne];exact ih hn.2 h
theorem KL {α:Type} {f:Nat→α} {a:Nat} {x y:α}:up (up f a x) a y=up f a y:=by
 funext b
 by_cases h:b=a <;> simp [aA,h]
theorem Dj {l l':List Nat} (h:l.Nodup) (hs:∀ n ∈ l,n ∈ l'):l.length≤l'.length:=by
 induction l generalizing l' with
 | nil=>exact Nat.zero_le _
 | cons a l ih =>
   rw [List.nodup_cons] at h;have ha:=hs a (List.mem_cons_self ..);have:=ih h.2 (l':=l'.erase a) (fun n hn=>(List.mem_erase_of_ne (fun e:n=a=>h.1 (e ▸ hn))).2 (hs n (List.mem_cons_of_mem _ hn)));rw [List.length_erase_of_mem ha] at this;have hpos:=List.length_pos_of_mem ha;rw [List.length_cons];omega
theorem jI.toH [I:dH] {P:Program} {f:Nat} {R:(Nat→Hb)→List Hw→((Nat→Hb)→List Hw→Prop)→Prop} (h:jI P f R) {R':(Nat→Hb)→List Hw→(Nat→Hb)→List Hw→Prop} (hR:∀ hp az hp' rs,R' hp az hp' rs→R hp az (fun h r=>h=hp'∧r=rs)):iF P f R':=by
 intro hp az hp' rs hr W w vals hI hrp hv;refine (h hp az _ (hR _ _ _ _ hr) W w vals hI hrp hv).mono ?_;rintro e w' ⟨_,_,⟨rfl,rfl⟩,q⟩;exact q
end Go.Proofs.Ytffcpijeebagfaa
end
section
namespace Go.Proofs.Ytffcpijeebagfaa
open Go Go.RowKit
set_option maxRecDepth 100000
def pcd52 : PC := .seq (.reg false [⟨(some 0), .mv (.v (.pointer none)), none, []⟩]) (.seq (.reg false [⟨(some 1), .callh 34 [], none, []⟩, ⟨(some 2), .hal 3 (.map 98), none, []⟩, ⟨(some 3), .build [(.pointer none), (.int .i64 0), (.map none)] [(0, 1, (.t 1)), (2, 1, (.t 2))], none, [0, 1]⟩, ⟨(some 4), .hal 5 (.box (.t 3)), none, [2]⟩, ⟨(some 0), .mv (.t 4), none, [3, 0, 0, 1, 2, 3]⟩]) (.ret))
def prd52 : List PR := [.t 0]
def ntd52:Nat:=5
def fld52 : List (Nat × List Bool) := [(5000004, List.replicate 1 false), (6000034, List.replicate 1 false)]
theorem bdd52:Try.f52.body=some (Try.f52.body.getD .skip):=by kernel_rfl
theorem cpd52:bK Try.prog Try.f52.ntmps (iE ++ fld52) (Try.f52.body.getD .skip)=some pcd52:=by kernel_rfl
theorem spd52 [dH] {env:Env} (hE:aG Try.prog env) {R:(Nat→Hb)→List Hw→(Nat→Hb)→List Hw→Prop} (hR:∀ hp az hp' rs,R hp az hp' rs→az.length≤5∧∃ nc,pwp env pcd52 (fun e s=>(e=.normal∨e=.ret)∧s.iw prd52=some rs∧s.hb=hp') (St.gB nc hp az)):iF Try.prog 52 R :=
 gX hE (uT dO (by kernel_rfl)) bF Try.func52 bdd52 cpd52 (by kernel_rfl) (by kernel_rfl) (by kernel_rfl) hR
def pcd88 : PC := .seq (.reg false [⟨(some 2), .hal 3 (.new [(.int .i64 0), (.int .i64 0), (.int .i64 0), (.int .i64 0), (.int .i64 0), (.int .i64 0), (.int .i64 0), (.int .i64 0)]), none, []⟩]) (.seq (.seq (.reg false [⟨(some 7), .mv (.v (.int .i64 0)), none, []⟩]) (.block 0 (.loop (.seq (.reg false [⟨(some 8), .bin .lss (.t 7) (.v (.int .i64 8)), none, []⟩]) (.seq (.cond (.t 8) (.skip) (.exit 0)) (.seq (.block 1 (.seq (.reg false [⟨(some 9), .mv (.t 7), none, []⟩, ⟨(some 3), .mv (.t 9), none, [0, 0]⟩]) (.seq (.reg false [⟨(some 10), .mv (.t 3), none, []⟩, ⟨(some 11), .ixa 8 1 (.t 2) (.t 10), none, [0, 0]⟩, ⟨none, .store 1 (.t 11) (.v (.int .i64 4611686018427387904)), none, [1, 0]⟩]) (.seq (.reg false [⟨(some 12), .mv (.t 0), none, []⟩, ⟨(some 13), .nilck (.t 12), none, [0]⟩, ⟨(some 14), .fld 0 (.t 13), none, [1]⟩, ⟨(some 15), .load none (.t 14), none, [2]⟩, ⟨(some 16), .callh 40 [(.t 15)], none, [3]⟩, ⟨(some 17), .mv (.v (.int .i64 0)), none, []⟩]) (.block 2 (.loop (.seq (.reg false [⟨(some 18), .bin .lss (.t 17) (.t 16), none, []⟩]) (.seq (.cond (.t 18) (.skip) (.exit 2)) (.seq (.block 3 (.seq (.reg false [⟨(some 19), .mv (.t 17), none, []⟩, ⟨(some 4), .mv (.t 19), none, [0, 0]⟩]) (.seq (.reg false [⟨(some 20), .mv (.t 4), none, []⟩, ⟨(some 21), .mv (.t 3), none, []⟩, ⟨(some 22), .bin .neq (.t 20) (.t 21), none, [0, 1]⟩]) (.cond (.t 22) (.reg true [⟨(some 23), .mv (.t 3), none, []⟩, ⟨(some 24), .mv (.t 3), none, []⟩, ⟨(some 25), .ixa 8 1 (.t 2) (.t 24), none, [1]⟩, ⟨(some 26), .load none (.t 25), none, [2]⟩, ⟨(some 27), .mv (.t 0), none, []⟩, ⟨(some 28), .nilck (.t 27), none, [4]⟩, ⟨(some 29), .fld 0 (.t 28), none, [5]⟩, ⟨(some 30), .load none (.t 29), none, [6]⟩, ⟨(some 31), .mv (.t 4), none, []⟩, ⟨(some 32), .callh 35 [(.t 30), (.t 31)], none, [7, 8]⟩, ⟨(some 33), .mv (.t 3), none, []⟩, ⟨(some 34), .ixv 8 1 none (.t 32) (.t 33), none, [9, 10]⟩, ⟨(some 35), .mm false [(.t 26), (.t 34)], none, [3, 11]⟩, ⟨(some 36), .ixa 8 1 (.t 2) (.t 23), none, [0, 0, 1, 2, 3, 4, 5, 6, 7, 8, 9, 10, 11, 12]⟩, ⟨none, .store 1 (.t 36) (.t 35), none, [13, 12, 9, 0, 1, 2, 3, 4, 5, 6, 7, 8, 9, 10, 11, 12]⟩]) (.skip))))) (.reg false [⟨(some 37), .bin .add (.t 17) (.v (.int .i64 1)), none, []⟩, ⟨(some 17), .mv (.t 37), none, [0]⟩])))))))))) (.reg false [⟨(some 38), .bin .add (.t 7) (.v (.int .i64 1)), none, []⟩, ⟨(some 7), .mv (.t 38), none, [0]⟩]))))))) (.seq (.reg false [⟨(some 39), .mv (.t 0), none, []⟩, ⟨(some 40), .nilck (.t 39), none, [0]⟩, ⟨(some 41), .fld 2 (.t 40), none, [1]⟩, ⟨(some 42), .load none (.t 41), none, [2]⟩, ⟨(some 43), .hal 44 (.range (.t 42)), none, [3]⟩]) (.block 4 (.loop (.seq (.reg false [⟨(some 44), .next (.t 43), none, []⟩, ⟨(some 45), .ext (.t 44) 0, none, [0]⟩]) (.seq (.cond (.t 45) (.skip) (.exit 4)) (.block 5 (.seq (.reg false [⟨(some 46), .entry (.t 43), none, []⟩, ⟨(some 47), .ext (.t 46) 0, none, [0]⟩, ⟨(some 48), .ext (.t 46) 1, none, [0]⟩, ⟨(some 5), .new [(.int .i64 0), (.int .i64 0)], none, []⟩, ⟨none, .store 2 (.t 5) (.t 47), none, [3, 1, 0, 1, 3]⟩, ⟨(some 6), .mv (.t 48), none, [2, 4, 0, 1, 2, 3, 4]⟩]) (.seq (.reg false [⟨(some 49), .mv (.t 6), none, []⟩, ⟨(some 50), .mkf 110 [] [(.t 2)], none, []⟩, ⟨(some 51), .callh 109 [(.t 49), (.t 50)], none, [0, 1]⟩, ⟨(some 6), .mv (.t 51), none, [2, 2, 0, 1, 2]⟩]) (.seq (.reg true [⟨(some 52), .mv (.t 0), none, []⟩, ⟨(some 53), .nilck (.t 52), none, [0]⟩, ⟨(some 54), .fld 2 (.t 53), none, [1]⟩, ⟨(some 55), .load none (.t 54), none, [2]⟩, ⟨(some 56), .load (some 2) (.t 5), none, []⟩, ⟨(some 57), .mv (.t 6), none, []⟩, ⟨none, .mup 98 (.t 55) (.t 56) (.t 57), none, [3, 4, 5, 0, 1, 2, 3, 4, 5]⟩]) (.seq (.reg false [⟨(some 58), .mv (.t 6), none, []⟩, ⟨(some 59), .len (.t 58), none, [0]⟩, ⟨(some 60), .bin .eql (.t 59) (.v (.int .i64 0)), none, [1]⟩]) (.cond (.t 60) (.reg true [⟨(some 61), .mv (.t 0), none, []⟩, ⟨(some 62), .nilck (.t 61), none, [0]⟩, ⟨(some 63), .fld 2 (.t 62), none, [1]⟩, ⟨(some 64), .load none (.t 63), none, [2]⟩, ⟨(some 65), .load (some 2) (.t 5), none, []⟩, ⟨none, .mdel 98 (.t 64) (.t 65), none, [3, 4]⟩]) (.skip)))))))))))))
def prd88 : List PR := []
abbrev msd88_0 : List Nat := [8, 9, 3, 10, 11, 12, 13, 14, 15, 16, 17, 18, 19, 4, 20, 21, 22, 23, 24, 25, 26, 27, 28, 29, 30, 31, 32, 33, 34, 35, 36, 37, 38, 7]
abbrev osd88_0 : List Nat := [2]
abbrev msd88_1 : List Nat := [18, 19, 4, 20, 21, 22, 23, 24, 25, 26, 27, 28, 29, 30, 31, 32, 33, 34, 35, 36, 37, 17]
abbrev osd88_1 : List Nat := [2]
abbrev msd88_2 : List Nat := [44, 45, 46, 47, 48, 5, 6, 49, 50, 51, 52, 53, 54, 55, 56, 57, 58, 59, 60, 61, 62, 63, 64, 65]
abbrev osd88_2 : List Nat := [5]
def fld88 : List (Nat × List Bool) := [(5000002, List.replicate 1 false), (6000040, List.replicate 1 false), (6000035, List.replicate 1 false), (6000109, List.replicate 1 false)]
theorem bdd88:Try.f88.body=some (Try.f88.body.getD .skip):=by kernel_rfl
theorem cpd88:bK Try.prog Try.f88.ntmps (iE ++ fld88) (Try.f88.body.getD .skip)=some pcd88:=by kernel_rfl
theorem sqd88 [dH] {env:Env} (hE:aG Try.prog env) {R:(Nat→Hb)→List Hw→((Nat→Hb)→List Hw→Prop)→Prop} (hR:∀ hp az Post,R hp az Post→az.length≤66∧∃ nc,pwp env pcd88 (fun e s=>(e=.normal∨e=.ret)∧∃ hp' rs,s.iw prd88=some rs∧(∀ b,hp' b=s.hb b∨(hp' b=.dead∧s.hb b≠.no))∧Post hp' rs) (St.gB nc hp az)):jI Try.prog 88 R :=
 jM hE (uT dO (by kernel_rfl)) bF Try.func88 bdd88 cpd88 (by kernel_rfl) (by kernel_rfl) (by kernel_rfl) hR
def pcd51c0 : PC := .seq (.reg false [⟨(some 85), .mv (.t 0), none, []⟩, ⟨(some 86), .nilck (.t 85), none, [0]⟩, ⟨(some 87), .fld 1 (.t 86), none, [1]⟩, ⟨(some 88), .load none (.t 87), none, [2]⟩, ⟨(some 89), .bin .add (.t 88) (.v (.int .i64 1)), none, [3]⟩, ⟨(some 90), .nilck (.t 85), none, [0, 0, 1, 2, 3, 4]⟩, ⟨(some 91), .fld 1 (.t 90), none, [5, 0, 1, 2, 3, 4]⟩, ⟨none, .store 1 (.t 91) (.t 89), none, [6, 4, 0, 1, 2, 3, 4]⟩]) (.seq (.reg false [⟨(some 92), .mv (.t 0), none, []⟩, ⟨(some 93), .callp 88 [(.t 92)], none, [0]⟩]) (.seq (.reg false [⟨(some 94), .mv (.t 8), none, []⟩, ⟨(some 4), .mv (.t 94), none, [0, 0]⟩, ⟨(some 5), .mv (.v (.int .i64 0)), none, [1, 0, 1]⟩]) (.ret)))
def pcd51c1 : PC := .reg true [⟨(some 65), .mv (.t 0), none, []⟩, ⟨(some 66), .nilck (.t 65), none, [0]⟩, ⟨(some 67), .fld 2 (.t 66), none, [1]⟩, ⟨(some 68), .load none (.t 67), none, [2]⟩, ⟨(some 69), .load (some 2) (.t 9), none, []⟩, ⟨(some 71), .load (some 9) (.t 3), none, []⟩, ⟨(some 72), .mv (.t 0), none, []⟩, ⟨(some 73), .nilck (.t 72), none, [6]⟩, ⟨(some 74), .fld 1 (.t 73), none, [7]⟩, ⟨(some 75), .load none (.t 74), none, [8]⟩, ⟨(some 76), .fld 0 (.t 3), none, []⟩, ⟨(some 77), .load none (.t 76), none, [10]⟩, ⟨(some 78), .ixa 8 1 (.t 6) (.t 77), none, [11]⟩, ⟨(some 79), .load none (.t 78), none, [12]⟩, ⟨(some 80), .build [(.int .i64 0), (.int .i64 0), (.int .i64 0), (.int .i64 0), (.int .i64 0), (.int .i64 0), (.int .i64 0), (.int .i64 0), (.int .i64 0), (.int .i64 0), (.int .i64 0)] [(0, 9, (.t 71)), (9, 1, (.t 75)), (10, 1, (.t 79))], none, [5, 9, 13]⟩, ⟨(some 81), .bslice 133 11 [(.int .i64 0), (.int .i64 0), (.int .i64 0), (.int .i64 0), (.int .i64 0), (.int .i64 0), (.int .i64 0), (.int .i64 0), (.int .i64 0), (.int .i64 0), (.int .i64 0)] 1 [(0, 11, (.t 80))], none, [14]⟩, ⟨(some 82), .ment 98 (.one (.d (.sc (.slice none 0 0)))) (.t 68) (.t 69), none, [3, 4, 0, 1, 2, 3, 4, 5, 6, 7, 8, 9, 10, 11, 12, 13, 14, 15]⟩, ⟨(some 70), .ext (.t 82) 0, none, [16]⟩, ⟨(some 83), .hal 84 (.app 133 11 88 (.t 70) (.t 81)), none, [17, 15, 16]⟩, ⟨(some 84), .ext (.t 82) 1, none, [16]⟩, ⟨none, .mest (.t 68) (.t 84) (.t 83), none, [3, 19, 18, 18, 0, 1, 2, 3, 4, 5, 6, 7, 8, 9, 10, 11, 12, 13, 14, 15, 16, 17, 18, 19]⟩]
def pcd51c2 : PC := .cond (.t 58) (.reg false [⟨(some 59), .mv (.t 8), none, []⟩, ⟨(some 60), .fld 9 (.t 11), none, []⟩, ⟨(some 61), .load none (.t 60), none, [1]⟩, ⟨(some 62), .bslice 3 1 [(.int .i64 0)] 1 [(0, 1, (.t 61))], none, [2]⟩, ⟨(some 63), .append 3 1 8 (.t 59) (.t 62), none, [0, 3]⟩, ⟨(some 8), .mv (.t 63), none, [4, 4, 0, 1, 2, 3, 4]⟩]) (.skip)
def pcd51c3 : PC := .seq (.reg true [⟨(some 34), .mv (.t 0), none, []⟩, ⟨(some 35), .nilck (.t 34), none, [0]⟩, ⟨(some 36), .fld 2 (.t 35), none, [1]⟩, ⟨(some 37), .load none (.t 36), none, [2]⟩, ⟨(some 38), .load (some 2) (.t 9), none, []⟩, ⟨(some 39), .mlk 98 (.one (.d (.sc (.slice none 0 0)))) false (.t 37) (.t 38), none, [3, 4]⟩, ⟨(some 40), .len (.t 39), none, [5]⟩, ⟨(some 41), .mv (.v (.int .i64 0)), none, []⟩]) (.block 0 (.loop (.seq (.reg false [⟨(some 42), .bin .lss (.t 41) (.t 40), none, []⟩]) (.seq (.cond (.t 42) (.skip) (.exit 0)) (.seq (.block 1 (.seq (.reg false [⟨(some 43), .ixs 11 (.t 39) (.t 41), none, []⟩, ⟨(some 44), .load (some 11) (.t 43), none, [0]⟩, ⟨(some 11), .new [(.int .i64 0), (.int .i64 0), (.int .i64 0), (.int .i64 0), (.int .i64 0), (.int .i64 0), (.int .i64 0), (.int .i64 0), (.int .i64 0), (.int .i64 0), (.int .i64 0)], none, []⟩, ⟨none, .store 11 (.t 11) (.t 44), none, [2, 1, 0, 1, 2]⟩]) (.seq (.reg true [⟨(some 45), .fld 0 (.t 11), none, []⟩, ⟨(some 46), .load (some 9) (.t 45), none, [0]⟩, ⟨(some 47), .load (some 9) (.t 3), none, []⟩, ⟨(some 48), .call 87 [(.t 46), (.t 47)], none, [1, 2]⟩, ⟨(some 49), .mv (.t 48), none, [3, 3]⟩, ⟨(some 50), .fld 0 (.t 11), (some (49, true)), [4]⟩, ⟨(some 51), .fld 0 (.t 50), (some (49, true)), [5, 4]⟩, ⟨(some 52), .load none (.t 51), (some (49, true)), [6, 4]⟩, ⟨(some 53), .ixa 8 1 (.t 6) (.t 52), (some (49, true)), [7, 4]⟩, ⟨(some 54), .load none (.t 53), (some (49, true)), [8, 4]⟩, ⟨(some 55), .fld 10 (.t 11), (some (49, true)), [4]⟩, ⟨(some 56), .load none (.t 55), (some (49, true)), [10, 4]⟩, ⟨(some 57), .bin .lss (.t 54) (.t 56), (some (49, true)), [9, 11, 4]⟩, ⟨(some 58), .pick (.t 49) (.t 57) (.v (.bool false)), none, [4, 12]⟩]) (pcd51c2)))) (.reg false [⟨(some 64), .bin .add (.t 41) (.v (.int .i64 1)), none, []⟩, ⟨(some 41), .mv (.t 64), none, [0]⟩]))))))
def pcd51c4 : PC := .seq (.reg false [⟨(some 26), .fld 1 (.t 3), none, []⟩, ⟨(some 27), .load none (.t 26), none, [0]⟩, ⟨(some 28), .call 86 [(.t 27)], none, [1]⟩]) (.cond (.t 28) (.seq (.reg false [⟨(some 29), .fld 2 (.t 3), none, []⟩, ⟨(some 30), .load none (.t 29), none, [0]⟩, ⟨(some 31), .fld 3 (.t 3), none, []⟩, ⟨(some 32), .load none (.t 31), none, [2]⟩, ⟨(some 33), .build [(.int .i64 0), (.int .i64 0)] [(0, 1, (.t 30)), (1, 1, (.t 32))], none, [1, 3]⟩, ⟨(some 9), .new [(.int .i64 0), (.int .i64 0)], none, []⟩, ⟨none, .store 2 (.t 9) (.t 33), none, [5, 4, 0, 1, 2, 3, 4, 5]⟩]) (.seq (pcd51c3) (pcd51c1))) (.skip))
def pcd51 : PC := .seq (.reg false [⟨(some 3), .box (.t 1), none, []⟩, ⟨(some 4), .nilRow 3 1, none, []⟩, ⟨(some 5), .mv (.v (.int .i64 0)), none, [1]⟩]) (.seq (.seq (.reg false [⟨(some 12), .mv (.t 0), none, []⟩, ⟨(some 13), .pnil false (.t 12), none, [0]⟩]) (.cond (.t 13) (.seq (.reg false [⟨(some 4), .nilRow 3 1, none, []⟩, ⟨(some 5), .mv (.v (.int .i64 11)), none, [0, 0]⟩]) (.ret)) (.skip))) (.seq (.reg true [⟨(some 15), .mv (.t 0), none, []⟩, ⟨(some 16), .nilck (.t 15), none, [0]⟩, ⟨(some 17), .fld 0 (.t 16), none, [1]⟩, ⟨(some 18), .load none (.t 17), none, [2]⟩, ⟨(some 19), .load (some 9) (.t 3), none, []⟩, ⟨(some 20), .callh 36 [(.t 18), (.t 19)], none, [3, 4]⟩, ⟨(some 14), .mv (.t 20), none, [5]⟩, ⟨(some 21), .ext (.t 14) 0, none, [6]⟩, ⟨(some 22), .ext (.t 14) 1, none, [6]⟩, ⟨(some 6), .new [(.int .i64 0), (.int .i64 0), (.int .i64 0), (.int .i64 0), (.int .i64 0), (.int .i64 0), (.int .i64 0), (.int .i64 0)], none, []⟩, ⟨none, .store 8 (.t 6) (.t 21), none, [9, 7, 5, 0, 1, 2, 3, 4, 5, 6, 7, 9]⟩, ⟨(some 7), .mv (.t 22), none, [8, 10, 0, 1, 2, 3, 4, 5, 6, 7, 8, 9, 10]⟩]) (.seq (.seq (.reg false [⟨(some 23), .mv (.t 7), none, []⟩, ⟨(some 24), .bin .neq (.t 23) (.v (.int .i64 0)), none, [0]⟩]) (.cond (.t 24) (.seq (.reg false [⟨(some 25), .mv (.t 7), none, []⟩, ⟨(some 4), .nilRow 3 1, none, []⟩, ⟨(some 5), .mv (.t 25), none, [0, 1, 0, 1]⟩]) (.ret)) (.skip))) (.seq (.reg false [⟨(some 8), .nilRow 3 1, none, []⟩]) (.seq (pcd51c4) (pcd51c0))))))
def prd51 : List PR := [.t 4, .t 5]
abbrev msd51_0 : List Nat := [42, 43, 44, 11, 45, 46, 47, 48, 49, 50, 51, 52, 53, 54, 55, 56, 57, 58, 59, 60, 61, 62, 63, 8, 64, 41]
abbrev osd51_0 : List Nat := [11, 62, 8]
def fld51 : List (Nat × List Bool) := [(5000083, List.replicate 1 false), (6000036, List.replicate 1 false), (8000088, List.replicate 1 false)]
theorem bdd51:Try.f51.body=some (Try.f51.body.getD .skip):=by kernel_rfl
theorem cpd51:bK Try.prog Try.f51.ntmps (iE ++ fld51) (Try.f51.body.getD .skip)=some pcd51:=by kernel_rfl
theorem sqd51 [dH] {env:Env} (hE:aG Try.prog env) {R:(Nat→Hb)→List Hw→((Nat→Hb)→List Hw→Prop)→Prop} (hR:∀ hp az Post,R hp az Post→az.length≤95∧∃ nc,pwp env pcd51 (fun e s=>(e=.normal∨e=.ret)∧∃ hp' rs,s.iw prd51=some rs∧(∀ b,hp' b=s.hb b∨(hp' b=.dead∧s.hb b≠.no))∧Post hp' rs) (St.gB nc hp az)):jI Try.prog 51 R :=
 jM hE (uT dO (by kernel_rfl)) bF Try.func51 bdd51 cpd51 (by kernel_rfl) (by kernel_rfl) (by kernel_rfl) hR
def pcd50 : PC := .seq (.reg false [⟨(some 2), .mv (.v (.int .i64 0)), none, []⟩]) (.seq (.seq (.reg false [⟨(some 6), .mv (.t 0), none, []⟩, ⟨(some 7), .pnil false (.t 6), none, [0]⟩]) (.cond (.t 7) (.seq (.reg false [⟨(some 2), .mv (.v (.int .i64 0)), none, []⟩]) (.ret)) (.skip))) (.seq (.reg false [⟨(some 3), .mv (.v (.int .i64 0)), none, []⟩]) (.seq (.seq (.reg false [⟨(some 8), .mv (.t 0), none, []⟩, ⟨(some 9), .nilck (.t 8), none, [0]⟩, ⟨(some 10), .fld 2 (.t 9), none, [1]⟩, ⟨(some 11), .load none (.t 10), none, [2]⟩, ⟨(some 12), .hal 13 (.range (.t 11)), none, [3]⟩]) (.block 0 (.loop (.seq (.reg false [⟨(some 13), .next (.t 12), none, []⟩, ⟨(some 14), .ext (.t 13) 0, none, [0]⟩]) (.seq (.cond (.t 14) (.skip) (.exit 0)) (.block 1 (.seq (.reg false [⟨(some 15), .entry (.t 12), none, []⟩, ⟨(some 16), .ext (.t 15) 1, none, [0]⟩, ⟨(some 5), .mv (.t 16), none, [1, 0, 1]⟩]) (.reg false [⟨(some 17), .mv (.t 3), none, []⟩, ⟨(some 18), .mv (.t 5), none, []⟩, ⟨(some 19), .len (.t 18), none, [1]⟩, ⟨(some 20), .bin .add (.t 17) (.t 19), none, [0, 2]⟩, ⟨(some 3), .mv (.t 20), none, [3, 0, 1, 2, 3]⟩])))))))) (.seq (.reg false [⟨(some 21), .mv (.t 3), none, []⟩, ⟨(some 2), .mv (.t 21), none, [0, 0]⟩]) (.ret)))))
def prd50 : List PR := [.t 2]
abbrev msd50_0 : List Nat := [13, 14, 15, 16, 5, 17, 18, 19, 20, 3]
abbrev osd50_0 : List Nat := []
def fld50 : List (Nat × List Bool) := []
theorem bdd50:Try.f50.body=some (Try.f50.body.getD .skip):=by kernel_rfl
theorem cpd50:bK Try.prog Try.f50.ntmps (iE ++ fld50) (Try.f50.body.getD .skip)=some pcd50:=by kernel_rfl
theorem sqd50 [dH] {env:Env} (hE:aG Try.prog env) {R:(Nat→Hb)→List Hw→((Nat→Hb)→List Hw→Prop)→Prop} (hR:∀ hp az Post,R hp az Post→az.length≤22∧∃ nc,pwp env pcd50 (fun e s=>(e=.normal∨e=.ret)∧∃ hp' rs,s.iw prd50=some rs∧(∀ b,hp' b=s.hb b∨(hp' b=.dead∧s.hb b≠.no))∧Post hp' rs) (St.gB nc hp az)):jI Try.prog 50 R :=
 jM hE (uT dO (by kernel_rfl)) bF Try.func50 bdd50 cpd50 (by kernel_rfl) (by kernel_rfl) (by kernel_rfl) hR
def pcd45 : PC := .seq (.reg false [⟨(some 0), .mv (.v (.bool false)), none, []⟩]) (.seq (.reg false [⟨(some 9), .callh 52 [], none, []⟩, ⟨(some 1), .mv (.t 9), none, [0, 0, 0]⟩]) (.seq (.reg false [⟨(some 10), .mv (.t 1), none, []⟩, ⟨(some 11), .build [(.int .i64 0), (.int .i64 0), (.int .i64 0), (.int .i64 0), (.int .i64 0), (.int .i64 0), (.int .i64 0), (.int .i64 0), (.int .i64 0)] [(1, 1, (.v (.int .i64 14))), (4, 1, (.v (.int .i64 1)))], none, []⟩, ⟨(some 12), .callp 51 [(.t 10), (.t 11)], none, [0, 1]⟩]) (.seq (.reg false [⟨(some 14), .mv (.t 1), none, []⟩, ⟨(some 15), .build [(.int .i64 0), (.int .i64 0), (.int .i64 0), (.int .i64 0), (.int .i64 0), (.int .i64 0), (.int .i64 0), (.int .i64 0), (.int .i64 0)] [(1, 1, (.v (.int .i64 2))), (2, 1, (.v (.int .i64 1)))], none, []⟩, ⟨(some 16), .callp 51 [(.t 14), (.t 15)], none, [0, 1]⟩, ⟨(some 13), .mv (.t 16), none, [2]⟩, ⟨(some 17), .ext (.t 13) 0, none, [3]⟩, ⟨(some 18), .ext (.t 13) 1, none, [3]⟩, ⟨(some 2), .mv (.t 17), none, [4, 2, 0, 1, 2, 3, 4]⟩, ⟨(some 3), .mv (.t 18), none, [5, 6, 0, 1, 2, 3, 4, 5, 6]⟩]) (.seq (.reg false [⟨(some 19), .mv (.t 1), none, []⟩, ⟨(some 20), .callh 50 [(.t 19)], none, [0]⟩, ⟨(some 4), .mv (.t 20), none, [1, 1, 0, 1]⟩]) (.seq (.reg false [⟨(some 22), .mv (.t 1), none, []⟩, ⟨(some 23), .build [(.int .i64 0), (.int .i64 0), (.int .i64 0), (.int .i64 0), (.int .i64 0), (.int .i64 0), (.int .i64 0), (.int .i64 0), (.int .i64 0)] [(0, 1, (.v (.int .i64 1))), (1, 1, (.v (.int .i64 2))), (2, 1, (.v (.int .i64 1)))], none, []⟩, ⟨(some 24), .callp 51 [(.t 22), (.t 23)], none, [0, 1]⟩, ⟨(some 21), .mv (.t 24), none, [2]⟩, ⟨(some 25), .ext (.t 21) 0, none, [3]⟩, ⟨(some 26), .ext (.t 21) 1, none, [3]⟩, ⟨(some 5), .mv (.t 25), none, [4, 2, 0, 1, 2, 3, 4]⟩, ⟨(some 6), .mv (.t 26), none, [5, 6, 0, 1, 2, 3, 4, 5, 6]⟩]) (.seq (.reg false [⟨(some 28), .mv (.t 1), none, []⟩, ⟨(some 29), .build [(.int .i64 0), (.int .i64 0), (.int .i64 0), (.int .i64 0), (.int .i64 0), (.int .i64 0), (.int .i64 0), (.int .i64 0), (.int .i64 0)] [(0, 1, (.v (.int .i64 1))), (1, 1, (.v (.int .i64 1))), (2, 1, (.v (.int .i64 1)))], none, []⟩, ⟨(some 30), .callp 51 [(.t 28), (.t 29)], none, [0, 1]⟩, ⟨(some 27), .mv (.t 30), none, [2]⟩, ⟨(some 31), .ext (.t 27) 0, none, [3]⟩, ⟨(some 32), .ext (.t 27) 1, none, [3]⟩, ⟨(some 7), .mv (.t 31), none, [4, 2, 0, 1, 2, 3, 4]⟩, ⟨(some 8), .mv (.t 32), none, [5, 6, 0, 1, 2, 3, 4, 5, 6]⟩]) (.seq (.reg false [⟨(some 33), .mv (.t 3), none, []⟩, ⟨(some 34), .bin .eql (.t 33) (.v (.int .i64 0)), none, [0]⟩, ⟨(some 35), .mv (.t 34), none, [1]⟩, ⟨(some 36), .mv (.t 6), (some (35, true)), [2]⟩, ⟨(some 37), .bin .eql (.t 36) (.v (.int .i64 0)), (some (35, true)), [3, 2]⟩, ⟨(some 38), .pick (.t 35) (.t 37) (.v (.bool false)), none, [2, 4]⟩, ⟨(some 39), .mv (.t 38), none, [5, 2]⟩, ⟨(some 40), .mv (.t 8), (some (39, true)), [6]⟩, ⟨(some 41), .bin .eql (.t 40) (.v (.int .i64 0)), (some (39, true)), [7, 6]⟩, ⟨(some 42), .pick (.t 39) (.t 41) (.v (.bool false)), none, [6, 8]⟩, ⟨(some 43), .mv (.t 42), none, [9, 6]⟩, ⟨(some 44), .mv (.t 2), (some (43, true)), [10]⟩, ⟨(some 45), .len (.t 44), (some (43, true)), [11, 10]⟩, ⟨(some 46), .bin .eql (.t 45) (.v (.int .i64 0)), (some (43, true)), [12, 10]⟩, ⟨(some 47), .pick (.t 43) (.t 46) (.v (.bool false)), none, [10, 13]⟩, ⟨(some 48), .mv (.t 47), none, [14, 10]⟩, ⟨(some 49), .mv (.t 4), (some (48, true)), [15]⟩, ⟨(some 50), .bin .eql (.t 49) (.v (.int .i64 1)), (some (48, true)), [16, 15]⟩, ⟨(some 51), .pick (.t 48) (.t 50) (.v (.bool false)), none, [15, 17]⟩, ⟨(some 52), .mv (.t 51), none, [18, 15]⟩, ⟨(some 53), .mv (.t 5), (some (52, true)), [19]⟩, ⟨(some 54), .len (.t 53), (some (52, true)), [20, 19]⟩, ⟨(some 55), .bin .eql (.t 54) (.v (.int .i64 1)), (some (52, true)), [21, 19]⟩, ⟨(some 56), .pick (.t 52) (.t 55) (.v (.bool false)), none, [19, 22]⟩, ⟨(some 57), .mv (.t 56), none, [23, 19]⟩, ⟨(some 58), .mv (.t 5), (some (57, true)), [24]⟩, ⟨(some 59), .ixs 1 (.t 58) (.v (.int .i64 0)), (some (57, true)), [25, 24]⟩, ⟨(some 60), .load none (.t 59), (some (57, true)), [26, 24]⟩, ⟨(some 61), .bin .eql (.t 60) (.v (.int .i64 1)), (some (57, true)), [27, 24]⟩, ⟨(some 62), .pick (.t 57) (.t 61) (.v (.bool false)), none, [24, 28]⟩, ⟨(some 63), .mv (.t 62), none, [29, 24]⟩, ⟨(some 64), .mv (.t 7), (some (63, true)), [30]⟩, ⟨(some 65), .len (.t 64), (some (63, true)), [31, 30]⟩, ⟨(some 66), .bin .eql (.t 65) (.v (.int .i64 1)), (some (63, true)), [32, 30]⟩, ⟨(some 67), .pick (.t 63) (.t 66) (.v (.bool false)), none, [30, 33]⟩, ⟨(some 68), .mv (.t 67), none, [34, 30]⟩, ⟨(some 69), .mv (.t 7), (some (68, true)), [35]⟩, ⟨(some 70), .ixs 1 (.t 69) (.v (.int .i64 0)), (some (68, true)), [36, 35]⟩, ⟨(some 71), .load none (.t 70), (some (68, true)), [37, 35]⟩, ⟨(some 72), .bin .eql (.t 71) (.v (.int .i64 1)), (some (68, true)), [38, 35]⟩, ⟨(some 73), .pick (.t 68) (.t 72) (.v (.bool false)), none, [35, 39]⟩, ⟨(some 74), .mv (.t 73), none, [40, 35]⟩, ⟨(some 75), .mv (.t 1), (some (74, true)), [41]⟩, ⟨(some 76), .callh 50 [(.t 75)], (some (74, true)), [42, 41, 41]⟩, ⟨(some 77), .bin .eql (.t 76) (.v (.int .i64 3)), (some (74, true)), [43, 41]⟩, ⟨(some 78), .pick (.t 74) (.t 77) (.v (.bool false)), none, [41, 44]⟩, ⟨(some 0), .mv (.t 78), none, [45, 43, 0, 1, 2, 3, 4, 5, 6, 7, 8, 9, 10, 11, 12, 13, 14, 15, 16, 17, 18, 19, 20, 21, 22, 23, 24, 25, 26, 27, 28, 29, 30, 31, 32, 33, 34, 35, 36, 37, 38, 39, 40, 41, 42, 43, 44, 45]⟩]) (.ret))))))))
def prd45 : List PR := [.t 0]
def fld45 : List (Nat × List Bool) := [(6000052, List.replicate 1 false), (8000051, List.replicate 1 false), (6000050, List.replicate 1 false)]
theorem bdd45:Try.f45.body=some (Try.f45.body.getD .skip):=by kernel_rfl
theorem cpd45:bK Try.prog Try.f45.ntmps (iE ++ fld45) (Try.f45.body.getD .skip)=some pcd45:=by kernel_rfl
theorem sqd45 [dH] {env:Env} (hE:aG Try.prog env) {R:(Nat→Hb)→List Hw→((Nat→Hb)→List Hw→Prop)→Prop} (hR:∀ hp az Post,R hp az Post→az.length≤79∧∃ nc,pwp env pcd45 (fun e s=>(e=.normal∨e=.ret)∧∃ hp' rs,s.iw prd45=some rs∧(∀ b,hp' b=s.hb b∨(hp' b=.dead∧s.hb b≠.no))∧Post hp' rs) (St.gB nc hp az)):jI Try.prog 45 R :=
 jM hE (uT dO (by kernel_rfl)) bF Try.func45 bdd45 cpd45 (by kernel_rfl) (by kernel_rfl) (by kernel_rfl) hR
def pcd46 : PC := .seq (.reg false [⟨(some 2), .mv (.v (.pointer none)), none, []⟩, ⟨(some 3), .nilRow 78 2, none, [0]⟩, ⟨(some 4), .mv (.v (.bool false)), none, [1]⟩]) (.seq (.reg false [⟨(some 13), .callh 52 [], none, []⟩, ⟨(some 5), .mv (.t 13), none, [0, 0, 0]⟩]) (.seq (.reg false [⟨(some 6), .nilRow 78 2, none, []⟩]) (.seq (.seq (.reg false [⟨(some 14), .mv (.t 0), none, []⟩, ⟨(some 15), .len (.t 14), none, [0]⟩, ⟨(some 16), .mv (.v (.int .i64 0)), none, []⟩]) (.block 0 (.loop (.seq (.reg false [⟨(some 17), .bin .lss (.t 16) (.t 15), none, []⟩]) (.seq (.cond (.t 17) (.skip) (.exit 0)) (.seq (.block 1 (.seq (.reg false [⟨(some 18), .mv (.t 16), none, []⟩, ⟨(some 19), .ixs 9 (.t 14) (.t 16), none, []⟩, ⟨(some 20), .load (some 9) (.t 19), none, [1]⟩, ⟨(some 8), .new [(.int .i64 0), (.int .i64 0), (.int .i64 0), (.int .i64 0), (.int .i64 0), (.int .i64 0), (.int .i64 0), (.int .i64 0), (.int .i64 0)], none, []⟩, ⟨(some 7), .mv (.t 18), none, [0, 0, 1, 2, 3]⟩, ⟨none, .store 9 (.t 8) (.t 20), none, [3, 2, 4, 0, 1, 2, 3, 4]⟩]) (.seq (.reg false [⟨(some 22), .mv (.t 5), none, []⟩, ⟨(some 23), .load (some 9) (.t 8), none, []⟩, ⟨(some 24), .callp 51 [(.t 22), (.t 23)], none, [0, 1]⟩, ⟨(some 21), .mv (.t 24), none, [2]⟩, ⟨(some 25), .ext (.t 21) 0, none, [3]⟩, ⟨(some 26), .ext (.t 21) 1, none, [3]⟩, ⟨(some 9), .mv (.t 25), none, [4, 2, 0, 1, 2, 3, 4]⟩, ⟨(some 10), .mv (.t 26), none, [5, 6, 0, 1, 2, 3, 4, 5, 6]⟩]) (.seq (.seq (.reg false [⟨(some 27), .mv (.t 10), none, []⟩, ⟨(some 28), .bin .neq (.t 27) (.v (.int .i64 0)), none, [0]⟩]) (.cond (.t 28) (.seq (.reg false [⟨(some 29), .mv (.t 5), none, []⟩, ⟨(some 2), .mv (.t 29), none, [0, 0]⟩, ⟨(some 3), .nilRow 78 2, none, [1, 0, 1]⟩, ⟨(some 4), .mv (.v (.bool false)), none, [2, 0, 1, 2]⟩]) (.ret)) (.skip))) (.seq (.reg false [⟨(some 30), .mv (.t 9), none, []⟩, ⟨(some 31), .len (.t 30), none, [0]⟩, ⟨(some 32), .mv (.v (.int .i64 0)), none, []⟩]) (.block 2 (.loop (.seq (.reg false [⟨(some 33), .bin .lss (.t 32) (.t 31), none, []⟩]) (.seq (.cond (.t 33) (.skip) (.exit 2)) (.seq (.block 3 (.seq (.reg false [⟨(some 34), .ixs 1 (.t 30) (.t 32), none, []⟩, ⟨(some 35), .load none (.t 34), none, [0]⟩, ⟨(some 12), .mv (.t 35), none, [1, 0, 1]⟩]) (.reg false [⟨(some 36), .mv (.t 6), none, []⟩, ⟨(some 37), .mv (.t 12), none, []⟩, ⟨(some 38), .mv (.t 7), none, []⟩, ⟨(some 39), .build [(.int .i64 0), (.int .i64 0)] [(0, 1, (.t 37)), (1, 1, (.t 38))], none, [1, 2]⟩, ⟨(some 40), .bslice 78 2 [(.int .i64 0), (.int .i64 0)] 1 [(0, 2, (.t 39))], none, [3]⟩, ⟨(some 41), .append 78 2 16 (.t 36) (.t 40), none, [0, 4]⟩, ⟨(some 6), .mv (.t 41), none, [5, 5, 0, 1, 2, 3, 4, 5]⟩]))) (.reg false [⟨(some 42), .bin .add (.t 32) (.v (.int .i64 1)), none, []⟩, ⟨(some 32), .mv (.t 42), none, [0]⟩]))))))))))) (.reg false [⟨(some 43), .bin .add (.t 16) (.v (.int .i64 1)), none, []⟩, ⟨(some 16), .mv (.t 43), none, [0]⟩]))))))) (.seq (.reg false [⟨(some 44), .mv (.t 5), none, []⟩, ⟨(some 45), .mv (.t 6), none, []⟩, ⟨(some 2), .mv (.t 44), none, [0, 0]⟩, ⟨(some 3), .mv (.t 45), none, [1, 2, 0, 1, 2]⟩, ⟨(some 4), .mv (.v (.bool true)), none, [3, 0, 1, 2, 3]⟩]) (.ret)))))
def prd46 : List PR := [.t 2, .t 3, .t 4]
abbrev msd46_0 : List Nat := [17, 18, 19, 20, 8, 7, 22, 23, 24, 21, 25, 26, 9, 10, 27, 28, 29, 2, 3, 4, 30, 31, 32, 33, 34, 35, 12, 36, 37, 38, 39, 40, 41, 6, 42, 43, 16]
abbrev osd46_0 : List Nat := [8, 3, 40, 6]
abbrev msd46_1 : List Nat := [33, 34, 35, 12, 36, 37, 38, 39, 40, 41, 6, 42, 32]
abbrev osd46_1 : List Nat := [40, 6]
def fld46 : List (Nat × List Bool) := [(6000052, List.replicate 1 false), (8000051, List.replicate 1 false)]
theorem bdd46:Try.f46.body=some (Try.f46.body.getD .skip):=by kernel_rfl
theorem cpd46:bK Try.prog Try.f46.ntmps (iE ++ fld46) (Try.f46.body.getD .skip)=some pcd46:=by kernel_rfl
theorem sqd46 [dH] {env:Env} (hE:aG Try.prog env) {R:(Nat→Hb)→List Hw→((Nat→Hb)→List Hw→Prop)→Prop} (hR:∀ hp az Post,R hp az Post→az.length≤46∧∃ nc,pwp env pcd46 (fun e s=>(e=.normal∨e=.ret)∧∃ hp' rs,s.iw prd46=some rs∧(∀ b,hp' b=s.hb b∨(hp' b=.dead∧s.hb b≠.no))∧Post hp' rs) (St.gB nc hp az)):jI Try.prog 46 R :=
 jM hE (uT dO (by kernel_rfl)) bF Try.func46 bdd46 cpd46 (by kernel_rfl) (by kernel_rfl) (by kernel_rfl) hR
def pcd12 : PC := .seq (.reg false [⟨(some 4), .box (.t 1), none, []⟩, ⟨(some 6), .mv (.v (.bool false)), none, []⟩]) (.seq (.seq (.reg false [⟨(some 22), .callp 45 [], none, []⟩, ⟨(some 23), .un .not (.t 22), none, [0]⟩]) (.cond (.t 23) (.seq (.reg false [⟨(some 6), .mv (.v (.bool false)), none, []⟩]) (.ret)) (.skip))) (.seq (.seq (.reg false [⟨(some 24), .mv (.t 0), none, []⟩, ⟨(some 25), .len (.t 24), none, [0]⟩, ⟨(some 26), .bin .gtr (.t 25) (.v (.int .i64 40)), none, [1]⟩, ⟨(some 27), .mv (.t 26), none, [2]⟩, ⟨(some 28), .mv (.t 0), (some (27, false)), [3]⟩, ⟨(some 29), .call 27 [(.t 28)], (some (27, false)), [4, 3, 3]⟩, ⟨(some 30), .un .not (.t 29), (some (27, false)), [5, 3]⟩, ⟨(some 31), .pick (.t 27) (.v (.bool true)) (.t 30), none, [3, 6]⟩, ⟨(some 32), .mv (.t 31), none, [7, 5]⟩, ⟨(some 33), .mv (.t 2), (some (32, false)), [8]⟩, ⟨(some 34), .bin .lss (.t 33) (.v (.int .i64 0)), (some (32, false)), [9, 8]⟩, ⟨(some 35), .pick (.t 32) (.v (.bool true)) (.t 34), none, [8, 10]⟩, ⟨(some 36), .mv (.t 35), none, [11, 8]⟩, ⟨(some 37), .mv (.t 2), (some (36, false)), [12]⟩, ⟨(some 38), .mv (.t 0), (some (36, false)), [12]⟩, ⟨(some 39), .len (.t 38), (some (36, false)), [14, 12]⟩, ⟨(some 40), .bin .gtr (.t 37) (.t 39), (some (36, false)), [13, 15, 12]⟩, ⟨(some 41), .pick (.t 36) (.v (.bool true)) (.t 40), none, [12, 16]⟩]) (.cond (.t 41) (.seq (.reg false [⟨(some 6), .mv (.v (.bool true)), none, []⟩]) (.ret)) (.skip))) (.seq (.reg false [⟨(some 43), .mv (.t 0), none, []⟩, ⟨(some 44), .mv (.t 2), none, []⟩, ⟨(some 45), .slc 9 (.t 43) none (some (.t 44)), none, [0, 1]⟩, ⟨(some 46), .callp 46 [(.t 45)], none, [2]⟩, ⟨(some 42), .mv (.t 46), none, [3]⟩, ⟨(some 47), .ext (.t 42) 0, none, [4]⟩, ⟨(some 48), .ext (.t 42) 1, none, [4]⟩, ⟨(some 49), .ext (.t 42) 2, none, [4]⟩, ⟨(some 7), .mv (.t 47), none, [5, 3, 0, 1, 2, 3, 4, 5]⟩, ⟨(some 8), .mv (.t 48), none, [6, 8, 0, 1, 2, 3, 4, 5, 6, 8]⟩, ⟨(some 9), .mv (.t 49), none, [7, 9, 0, 1, 2, 3, 4, 5, 6, 7, 8, 9]⟩]) (.seq (.reg false [⟨(some 50), .mv (.t 0), none, []⟩, ⟨(some 51), .mv (.t 2), none, []⟩, ⟨(some 52), .slc 9 (.t 50) none (some (.t 51)), none, [0, 1]⟩, ⟨(some 53), .build [(.slice none 0 0)] [(0, 1, (.t 52))], none, [2]⟩, ⟨(some 10), .new [(.slice none 0 0)], none, []⟩, ⟨none, .store 1 (.t 10) (.t 53), none, [4, 3, 0, 1, 2, 3, 4]⟩]) (.seq (.seq (.reg false [⟨(some 54), .mv (.t 9), none, []⟩, ⟨(some 55), .un .not (.t 54), none, [0]⟩]) (.cond (.t 55) (.seq (.reg false [⟨(some 6), .mv (.v (.bool false)), none, []⟩]) (.ret)) (.skip))) (.seq (.reg false [⟨(some 57), .load (some 1) (.t 10), none, []⟩, ⟨(some 58), .load (some 9) (.t 4), none, []⟩, ⟨(some 59), .call 49 [(.t 57), (.t 58)], none, [0, 1]⟩, ⟨(some 56), .mv (.t 59), none, [2]⟩, ⟨(some 60), .ext (.t 56) 0, none, [3]⟩, ⟨(some 61), .ext (.t 56) 1, none, [3]⟩, ⟨(some 62), .ext (.t 56) 2, none, [3]⟩, ⟨(some 11), .new [(.slice none 0 0)], none, []⟩, ⟨none, .store 1 (.t 11) (.t 60), none, [7, 4, 2, 0, 1, 2, 3, 4, 7]⟩, ⟨(some 12), .mv (.t 61), none, [5, 8, 0, 1, 2, 3, 4, 5, 7, 8]⟩, ⟨(some 13), .mv (.t 62), none, [6, 9, 0, 1, 2, 3, 4, 5, 6, 7, 8, 9]⟩]) (.seq (.seq (.reg false [⟨(some 63), .mv (.t 13), none, []⟩, ⟨(some 64), .bin .eql (.t 63) (.v (.int .i64 0)), none, [0]⟩]) (.cond (.t 64) (.seq (.reg false [⟨(some 6), .mv (.v (.bool true)), none, []⟩]) (.ret)) (.skip))) (.seq (.reg false [⟨(some 65), .mv (.t 7), none, []⟩, ⟨(some 66), .callh 50 [(.t 65)], none, [0]⟩, ⟨(some 14), .mv (.t 66), none, [1, 1, 0, 1]⟩]) (.seq (.reg false [⟨(some 68), .mv (.t 7), none, []⟩, ⟨(some 69), .load (some 9) (.t 4), none, []⟩, ⟨(some 70), .callp 51 [(.t 68), (.t 69)], none, [0, 1]⟩, ⟨(some 67), .mv (.t 70), none, [2]⟩, ⟨(some 71), .ext (.t 67) 0, none, [3]⟩, ⟨(some 72), .ext (.t 67) 1, none, [3]⟩, ⟨(some 15), .mv (.t 71), none, [4, 2, 0, 1, 2, 3, 4]⟩, ⟨(some 16), .mv (.t 72), none, [5, 6, 0, 1, 2, 3, 4, 5, 6]⟩]) (.seq (.seq (.reg false [⟨(some 73), .mv (.t 16), none, []⟩, ⟨(some 74), .mv (.t 13), none, []⟩, ⟨(some 75), .bin .neq (.t 73) (.t 74), none, [0, 1]⟩, ⟨(some 76), .mv (.t 75), none, [2]⟩, ⟨(some 77), .mv (.t 15), (some (76, false)), [3]⟩, ⟨(some 78), .len (.t 77), (some (76, false)), [4, 3]⟩, ⟨(some 79), .bin .neq (.t 78) (.v (.int .i64 0)), (some (76, false)), [5, 3]⟩, ⟨(some 80), .pick (.t 76) (.v (.bool true)) (.t 79), none, [3, 6]⟩, ⟨(some 81), .mv (.t 80), none, [7, 3]⟩, ⟨(some 82), .mv (.t 7), (some (81, false)), [8]⟩, ⟨(some 83), .callh 50 [(.t 82)], (some (81, false)), [9, 8, 8]⟩, ⟨(some 84), .mv (.t 14), (some (81, false)), [8]⟩, ⟨(some 85), .bin .neq (.t 83) (.t 84), (some (81, false)), [10, 11, 8]⟩, ⟨(some 86), .pick (.t 81) (.v (.bool true)) (.t 85), none, [8, 12]⟩]) (.cond (.t 86) (.seq (.reg false [⟨(some 6), .mv (.v (.bool false)), none, []⟩]) (.ret)) (.skip))) (.seq (.seq (.reg false [⟨(some 87), .mv (.t 0), none, []⟩, ⟨(some 88), .mv (.t 2), none, []⟩, ⟨(some 89), .slc 9 (.t 87) (some (.t 88)) none, none, [0, 1]⟩, ⟨(some 90), .len (.t 89), none, [2]⟩, ⟨(some 91), .mv (.v (.int .i64 0)), none, []⟩]) (.block 0 (.loop (.seq (.reg false [⟨(some 92), .bin .lss (.t 91) (.t 90), none, []⟩]) (.seq (.cond (.t 92) (.skip) (.exit 0)) (.seq (.block 1 (.seq (.reg false [⟨(some 93), .mv (.t 91), none, []⟩, ⟨(some 94), .ixs 9 (.t 89) (.t 91), none, []⟩, ⟨(some 95), .load (some 9) (.t 94), none, [1]⟩, ⟨(some 18), .new [(.int .i64 0), (.int .i64 0), (.int .i64 0), (.int .i64 0), (.int .i64 0), (.int .i64 0), (.int .i64 0), (.int .i64 0), (.int .i64 0)], none, []⟩, ⟨(some 17), .mv (.t 93), none, [0, 0, 1, 2, 3]⟩, ⟨none, .store 9 (.t 18) (.t 95), none, [3, 2, 4, 0, 1, 2, 3, 4]⟩]) (.seq (.reg false [⟨(some 97), .mv (.t 7), none, []⟩, ⟨(some 98), .load (some 9) (.t 18), none, []⟩, ⟨(some 99), .callp 51 [(.t 97), (.t 98)], none, [0, 1]⟩, ⟨(some 96), .mv (.t 99), none, [2]⟩, ⟨(some 100), .ext (.t 96) 0, none, [3]⟩, ⟨(some 101), .ext (.t 96) 1, none, [3]⟩, ⟨(some 15), .mv (.t 100), none, [4, 2, 0, 1, 2, 3, 4]⟩, ⟨(some 16), .mv (.t 101), none, [5, 6, 0, 1, 2, 3, 4, 5, 6]⟩]) (.seq (.seq (.reg false [⟨(some 102), .mv (.t 16), none, []⟩, ⟨(some 103), .bin .neq (.t 102) (.v (.int .i64 0)), none, [0]⟩]) (.cond (.t 103) (.seq (.reg false [⟨(some 6), .mv (.v (.bool false)), none, []⟩]) (.ret)) (.skip))) (.seq (.reg false [⟨(some 19), .mv (.v (.int .i64 0)), none, []⟩]) (.seq (.seq (.reg false [⟨(some 104), .mv (.t 0), none, []⟩, ⟨(some 105), .mv (.t 2), none, []⟩, ⟨(some 106), .mv (.t 17), none, []⟩, ⟨(some 107), .bin .add (.t 105) (.t 106), none, [1, 2]⟩, ⟨(some 108), .bin .add (.t 107) (.v (.int .i64 1)), none, [3]⟩, ⟨(some 109), .slc 9 (.t 104) none (some (.t 108)), none, [0, 4]⟩, ⟨(some 110), .call 48 [(.t 109)], none, [5]⟩, ⟨(some 111), .len (.t 110), none, [6]⟩, ⟨(some 112), .mv (.v (.int .i64 0)), none, []⟩]) (.block 2 (.loop (.seq (.reg false [⟨(some 113), .bin .lss (.t 112) (.t 111), none, []⟩]) (.seq (.cond (.t 113) (.skip) (.exit 2)) (.seq (.block 3 (.seq (.reg false [⟨(some 114), .ixs 2 (.t 110) (.t 112), none, []⟩, ⟨(some 115), .load (some 2) (.t 114), none, [0]⟩, ⟨(some 21), .new [(.int .i64 0), (.int .i64 0)], none, []⟩, ⟨none, .store 2 (.t 21) (.t 115), none, [2, 1, 0, 1, 2]⟩]) (.seq (.reg false [⟨(some 116), .fld 1 (.t 21), none, []⟩, ⟨(some 117), .load none (.t 116), none, [0]⟩, ⟨(some 118), .mv (.t 2), none, []⟩, ⟨(some 119), .mv (.t 17), none, []⟩, ⟨(some 120), .bin .add (.t 118) (.t 119), none, [2, 3]⟩, ⟨(some 121), .bin .eql (.t 117) (.t 120), none, [1, 4]⟩]) (.cond (.t 121) (.reg false [⟨(some 122), .mv (.t 19), none, []⟩, ⟨(some 123), .bin .add (.t 122) (.v (.int .i64 1)), none, [0]⟩, ⟨(some 19), .mv (.t 123), none, [1, 0, 1]⟩]) (.skip))))) (.reg false [⟨(some 124), .bin .add (.t 112) (.v (.int .i64 1)), none, []⟩, ⟨(some 112), .mv (.t 124), none, [0]⟩]))))))) (.seq (.reg false [⟨(some 125), .mv (.t 15), none, []⟩, ⟨(some 126), .len (.t 125), none, [0]⟩, ⟨(some 127), .mv (.t 19), none, []⟩, ⟨(some 128), .bin .neq (.t 126) (.t 127), none, [1, 2]⟩]) (.cond (.t 128) (.seq (.reg false [⟨(some 6), .mv (.v (.bool false)), none, []⟩]) (.ret)) (.skip))))))))) (.reg false [⟨(some 129), .bin .add (.t 91) (.v (.int .i64 1)), none, []⟩, ⟨(some 91), .mv (.t 129), none, [0]⟩]))))))) (.seq (.reg false [⟨(some 6), .mv (.v (.bool true)), none, []⟩]) (.ret)))))))))))))
def prd12 : List PR := [.t 6]
abbrev msd12_0 : List Nat := [92, 93, 94, 95, 18, 17, 97, 98, 99, 96, 100, 101, 15, 16, 102, 103, 6, 19, 104, 105, 106, 107, 108, 109, 110, 111, 112, 113, 114, 115, 21, 116, 117, 118, 119, 120, 121, 122, 123, 124, 125, 126, 127, 128, 129, 91]
abbrev osd12_0 : List Nat := [18, 21]
abbrev msd12_1 : List Nat := [113, 114, 115, 21, 116, 117, 118, 119, 120, 121, 122, 123, 19, 124, 112]
abbrev osd12_1 : List Nat := [21]
def fld12 : List (Nat × List Bool) := [(8000045, List.replicate 1 false), (8000046, List.replicate 1 false), (6000050, List.replicate 1 false), (8000051, List.replicate 1 false)]
theorem bdd12:Try.f12.body=some (Try.f12.body.getD .skip):=by kernel_rfl
theorem cpd12:bK Try.prog Try.f12.ntmps (iE ++ fld12) (Try.f12.body.getD .skip)=some pcd12:=by kernel_rfl
theorem sqd12 [dH] {env:Env} (hE:aG Try.prog env) {R:(Nat→Hb)→List Hw→((Nat→Hb)→List Hw→Prop)→Prop} (hR:∀ hp az Post,R hp az Post→az.length≤130∧∃ nc,pwp env pcd12 (fun e s=>(e=.normal∨e=.ret)∧∃ hp' rs,s.iw prd12=some rs∧(∀ b,hp' b=s.hb b∨(hp' b=.dead∧s.hb b≠.no))∧Post hp' rs) (St.gB nc hp az)):jI Try.prog 12 R :=
 jM hE (uT dO (by kernel_rfl)) bF Try.func12 bdd12 cpd12 (by kernel_rfl) (by kernel_rfl) (by kernel_rfl) hR
end Go.Proofs.Ytffcpijeebagfaa
end
section
namespace Go.Proofs.Ytffcpijeebagfaa
open Go Go.RowKit
set_option maxRecDepth 100000
set_option maxHeartbeats 4000000
def fT (x y:Int):Value:=.agg #[.int .i64 x,.int .i64 y]
theorem w9 {x y x' y':Int}:fT x y=fT x' y'↔x=x'∧y=y':=by unfold fT;simp
theorem MO:Maps.Keyed Try.prog 98:=Maps.Keyed.of_law (deep_law_gate (by kernel_rfl) (of_decide_eq_true (by kernel_rfl)) (of_decide_eq_true (by kernel_rfl)) (by kernel_rfl) (by kernel_rfl))
theorem zW {a b:Int} (ha:iY a) (hb:iY b):(keyOf Try.prog 98 (.agg #[.int .i64 a,.int .i64 b])).isSome=true:=by
 obtain ⟨d,hd⟩:∃ d,Try.prog.types.size+1=d+2:=⟨Try.prog.types.size - 1,by have:2≤Try.prog.types.size:=of_decide_eq_true (by kernel_rfl);omega⟩
 have h1:Try.prog.keyType 98=true:=by kernel_rfl
 have hc:Try.prog.cellsOf 98=2:=by kernel_rfl
 unfold keyOf;rw [Try.underlying98];dsimp only;rw [if_pos (by simp [h1,Value.formed,Try.underlying98,hc]),hd];simp only [Value.cells];rw [OB d ha hb];rfl
theorem Ij {es:List (Value×Nat×Hw)} (hk:(es.map (·.1)).Nodup) {k:Value}:aS (uS es k) k=none:=by
 induction es with
 | nil=>rfl
 | cons e es ih =>
   rw [List.map_cons,List.nodup_cons] at hk;unfold uS
   by_cases he:e.1=k
   ·rw [if_pos he];exact CJ.2 (fun q=>hk.1 (he ▸ q))
   ·rw [if_neg he];unfold aS;rw [if_neg he];exact ih hk.2
theorem zk {es:List (Value×Nat×Hw)} {k k':Value} (hne:k'≠k):aS (uS es k) k'=aS es k':=by
 induction es with
 | nil=>rfl
 | cons e es ih =>
   unfold uS
   by_cases he:e.1=k
   ·rw [if_pos he]
    conv=>rhs;unfold aS
    rw [if_neg (fun q=>hne (q.symm.trans he))]
   ·rw [if_neg he];unfold aS
    by_cases he':e.1=k'
    ·rw [if_pos he',if_pos he']
    ·rw [if_neg he',if_neg he',ih]
theorem nX {es:List (Value×Nat×Hw)} {k:Value}:List.Sublist (uS es k) es:=by
 induction es with
 | nil=>exact .slnil
 | cons e es ih =>
   unfold uS;split
   ·exact .cons _ (List.Sublist.refl _)
   ·exact .cons_cons _ ih
theorem jv.del {es:List (Value×Nat×Hw)} {cl:Nat} (h:jv es cl) (k:Value):jv (uS es k) cl :=
 ⟨fun e he=>h.lt e (nX.subset he),(nX.map _).nodup h.kn,(nX.map _).nodup h.sn⟩
theorem KU {es:List (Value×Nat×Hw)} {n:Nat} {k:Value} {v:Hw} {e:Value×Nat×Hw} (h:e ∈ dR es n k v):e ∈ es∨(e.1=k∧e.2.2=v∧((∃ r,(k,e.2.1,r) ∈ es)∨e.2.1=n)):=by
 induction es with
 | nil=>simp [dR] at h;rw [h];exact .inr ⟨rfl,rfl,.inr rfl⟩
 | cons a es ih =>
   unfold dR at h;split at h
   ·rename_i ha
    rcases List.mem_cons.1 h with q | q
    ·rw [q];exact .inr ⟨ha,rfl,.inl ⟨a.2.2,by rw [←ha];simp⟩⟩
    ·exact .inl (List.mem_cons_of_mem _ q)
   ·rcases List.mem_cons.1 h with q | q
    ·rw [q];exact .inl (List.mem_cons_self ..)
    ·rcases ih q with q | ⟨q1,q2,q3⟩
     ·exact .inl (List.mem_cons_of_mem _ q)
     ·exact .inr ⟨q1,q2,q3.imp (fun ⟨r,hr⟩=>⟨r,List.mem_cons_of_mem _ hr⟩) id⟩
structure lQ where
 b0:Nat
 bm:Nat
 t:mV
 ev:Int
 es:List (Value×Nat×Hw)
 cl:Nat
 d:Int→Int→Option (Nat×List Ac)
 tg:Nat→Option (Int×Int)
def lQ.acc (d:lQ) (x y:Int):List Ac:=match d.d x y with | none=>[] | some p=>p.2
structure DN (hp:Nat→Hb) (D1:Nat→Prop) (tg:Nat→Option (Int×Int)) (es:List (Value×Nat×Hw)) (x y:Int) (b:Nat) (xs:List Ac):Prop where
 e:hp b=DL xs
 ne:xs≠[]
 at_:∃ n,aS es (fT x y)=some (n,.one (.h (.v b)))
 d1:D1 b
 t1:tg b=some (x,y)
 in_:∀ a ∈ xs,NW a
 len:xs.length≤1000
 k:iY x∧iY y
structure fO (hp:Nat→Hb) (bd:Nat) (D0 D1:Nat→Prop) (d:lQ):Prop where
 tab:TabAt hp d.b0 D0 d.t
 h0:hp bd=.cells [.h (.p d.b0 0),hI d.ev,.h (.m d.bm)]
 hm:hp d.bm=.map 98 d.es d.cl
 dd:D1 bd∧D1 d.bm
 ow:jv d.es d.cl
 oa:∀ x y,match d.d x y with | none=>aS d.es (fT x y)=none | some p=>DN hp D1 d.tg d.es x y p.1 p.2
 ok:∀ e ∈ d.es,∃ x y,e.1=fT x y∧iY x∧iY y
 dis:∀ b,D1 b→¬ D0 b
section
variable {hp hp':Nat→Hb} {bd:Nat} {D0 D1 D0':Nat→Prop} {d:lQ}
theorem fO.eX (h:fO hp bd D0 D1 d) {x y:Int} {b:Nat} {xs:List Ac} (hd:d.d x y=some (b,xs)):DN hp D1 d.tg d.es x y b xs:=by
 have:=h.oa x y;rw [hd] at this;exact this
theorem fO.mG (h:fO hp bd D0 D1 d) {x y:Int} (hd:d.d x y=none):aS d.es (fT x y)=none:=by
 have:=h.oa x y;rw [hd] at this;exact this
theorem fO.ne (h:fO hp bd D0 D1 d):bd≠d.bm:=fun e=>by have:=h.hm;rw [←e,h.h0] at this;cases this
theorem fO.entry (h:fO hp bd D0 D1 d) {e:Value×Nat×Hw} (he:e ∈ d.es):∃ x y b xs,e.1=fT x y∧e.2.2=.one (.h (.v b))∧d.d x y=some (b,xs)∧aS d.es (fT x y)=some e.2:=by
 obtain ⟨x,y,hk,_⟩:=h.ok e he;have ha:aS d.es (fT x y)=some e.2:=kG h.ow.kn (by rw [←hk];exact he)
 cases hd:d.d x y with
 | none=>rw [h.mG hd] at ha;cases ha
 | some p =>
   obtain ⟨n,hn⟩:=(h.eX hd).at_;rw [hn] at ha;exact ⟨x,y,p.1,p.2,hk,by rw [←Option.some.inj ha],hd,by rw [hn];exact ha⟩
theorem DN.mono {hp hp':Nat→Hb} {D1 D1':Nat→Prop} {tg tg':Nat→Option (Int×Int)} {es es':List (Value×Nat×Hw)} {x y:Int} {b:Nat} {xs:List Ac} (h:DN hp D1 tg es x y b xs) (h1:hp' b=hp b) (h2:aS es' (fT x y)=aS es (fT x y)) (h3:D1' b) (h4:tg' b=tg b):DN hp' D1' tg' es' x y b xs :=
 ⟨h1.trans h.e,h.ne,by rw [h2];exact h.at_,h3,h4.trans h.t1,h.in_,h.len,h.k⟩
theorem fO.frame (h:fO hp bd D0 D1 d) (h0:∀ b,D0 b→hp' b=hp b) (h1:∀ b,D1 b→hp' b=hp b):fO hp' bd D0 D1 d :=
 ⟨h.tab.frame h0,(h1 _ h.dd.1).trans h.h0,(h1 _ h.dd.2).trans h.hm,h.dd,h.ow,fun x y=>by
  cases hd:d.d x y with
  | none=>exact h.mG hd
  | some p=>exact (h.eX hd).mono (h1 _ (h.eX hd).d1) rfl (h.eX hd).d1 rfl,h.ok,h.dis⟩
theorem fO.table (h:fO hp bd D0 D1 d) {t':mV} (ht:TabAt hp' d.b0 D0' t') (h1:∀ b,D1 b→hp' b=hp b) (hd:∀ b,D1 b→¬ D0' b):fO hp' bd D0' D1 { d with t:=t' } :=
 ⟨ht,(h1 _ h.dd.1).trans h.h0,(h1 _ h.dd.2).trans h.hm,h.dd,h.ow,fun x y=>by
  cases hd:d.d x y with
  | none=>exact h.mG hd
  | some p=>exact (h.eX hd).mono (h1 _ (h.eX hd).d1) rfl (h.eX hd).d1 rfl,h.ok,hd⟩
def Rt (f:Int→Int→Option (Nat×List Ac)) (x y:Int) (v:Option (Nat×List Ac)):Int→Int→Option (Nat×List Ac):=fun x' y'=>if x'=x∧y'=y then v else f x' y'
theorem wG {f:Int→Int→Option (Nat×List Ac)} {x y:Int} {v:Option (Nat×List Ac)}:Rt f x y v x y=v:=if_pos ⟨rfl,rfl⟩
theorem wH {f:Int→Int→Option (Nat×List Ac)} {x y x' y':Int} {v:Option (Nat×List Ac)} (h:¬ (x'=x∧y'=y)):Rt f x y v x' y'=f x' y':=if_neg h
theorem fO.turn (h:fO hp bd D0 D1 d) {x y:Int} {b2:Nat} {v:Option (List Ac)} {es':List (Value×Nat×Hw)} {cl':Nat} (hb2:¬ D1 b2∧¬ D0 b2)
 (h0:∀ b,D0 b→hp' b=hp b) (h1:∀ b,D1 b→b≠d.bm→(∀ p,d.d x y=some p→b≠p.1)→hp' b=hp b) (hm:hp' d.bm=.map 98 es' cl') (hw:jv es' cl')
 (hne:∀ k,k≠fT x y→aS es' k=aS d.es k) (hok:∀ e ∈ es',∃ x y,e.1=fT x y∧iY x∧iY y)
 (hv:match v with | none=>aS es' (fT x y)=none | some ys=>hp' b2=DL ys∧ys≠[]∧(∃ n,aS es' (fT x y)=some (n,.one (.h (.v b2))))∧(∀ a ∈ ys,NW a)∧ys.length≤1000∧iY x∧iY y) :
 fO hp' bd D0 (fun c=>D1 c∨c=b2) { d with es:=es',cl:=cl',d:=Rt d.d x y (v.map fun ys=>(b2,ys)),tg:=up d.tg b2 (some (x,y)) }:=by
 have hnv:∀ p,d.d x y=some p→bd≠p.1∧d.bm≠p.1:=fun p hp=>by
  have he:=(h.eX hp).e;constructor
  ·intro e;rw [←e,h.h0] at he;cases he
  ·intro e;rw [←e,h.hm] at he;cases he
 refine ⟨h.tab.frame h0,(h1 _ h.dd.1 h.ne (fun p hp=>(hnv p hp).1)).trans h.h0,hm,⟨.inl h.dd.1,.inl h.dd.2⟩,hw,fun x' y'=>?_,hok,fun b hb=>hb.elim (h.dis b) (fun e=>e ▸ hb2.2)⟩;dsimp only
 by_cases hxy:x'=x∧y'=y
 ·obtain ⟨rfl,rfl⟩:=hxy;rw [wG]
  cases v with
  | none=>exact hv
  | some ys =>
    obtain ⟨v1,v2,v3,v4,v5,v6⟩:=hv;exact ⟨v1,v2,v3,.inr rfl,bV,v4,v5,v6⟩
 ·rw [wH hxy];have hk:fT x' y'≠fT x y:=fun e=>hxy (w9.1 e)
  cases hd:d.d x' y' with
  | none=>dsimp only;rw [hne _ hk];exact h.mG hd
  | some p =>
    have ha:=h.eX hd;refine ha.mono (h1 _ ha.d1 (fun e=>?_) (fun q hq e=>?_)) (hne _ hk) (.inl ha.d1) (aB (fun e=>hb2.1 (e ▸ ha.d1)))
    ·have:=ha.e;rw [e,h.hm] at this;cases this
    ·have:=(h.eX hq).t1;rw [←e,ha.t1] at this;exact hxy (by cases this;exact ⟨rfl,rfl⟩)
end
def knF (f:Nat→Int) (g:Nat):Nat→Int
 | 0=>4611686018427387904
 | h+1=>if h≠g then (if f h < knF f g h then f h else knF f g h) else knF f g h
theorem G6 {f:Nat→Int} {g h:Nat} (e:h=g):knF f g (h+1)=knF f g h:=if_neg (fun q=>q e)
theorem OD {f:Nat→Int} {g h:Nat} (e:h≠g):knF f g (h+1)=if f h < knF f g h then f h else knF f g h:=if_pos e
def zX (t:mV) (g h:Nat):Int:=(t.p.clock (h:Int)).getD g 0
def knG (t:mV) (g:Nat):Int:=knF (zX t g) g t.st.gor.toNat
def knL (t:mV):List Int:=(List.range 8).map (knG t)
theorem yJ {c:List Int} {g:Nat} {v:Int} (hg:g < c.length):eU (c.map hI) g [hI v]=(c.set g v).map hI:=by
 induction c generalizing g with
 | nil=>simp at hg
 | cons x c ih =>
   cases g with
   | zero=>simp [eU,yI]
   | succ g=>simp only [List.map_cons,eU,List.set_cons_succ];rw [ih (by simpa using hg)]
theorem Ir {hp:Nat→Hb} {b0:Nat} {D:Nat→Prop} {t:mV} (h:TabAt hp b0 D t) (g:Int):(t.p.clock g).length=8:=by
 unfold bZ.clock;split
 ·rename_i hg;have h8:t.p.ck.length=8:=h.ck.1;rw [List.getD_eq_getElem?_getD,List.getElem?_eq_getElem (by omega)];exact h.ck.2 _ (List.getElem_mem _)
 ·rfl
theorem PE {es:List (Value×Nat×Hw)} {n:Nat} {k:Value} {v:Hw} {r:Nat×Hw} (h:aS es k=some r):(dR es n k v).map (fun z=>(z.1,z.2.1))=es.map fun z=>(z.1,z.2.1):=by
 induction es with
 | nil=>cases h
 | cons e es ih =>
   unfold dR
   by_cases he:e.1=k
   ·rw [if_pos he];rfl
   ·rw [if_neg he];unfold aS at h;rw [if_neg he] at h;rw [List.map_cons,List.map_cons,ih h]
noncomputable def saw (es:List (Value×Nat×Hw)) (seen:List Nat) (x y:Int):Bool:=match aS es (fT x y) with
 | some r=>seen.contains r.1
 | none=>false
theorem Rh {es:List (Value×Nat×Hw)} {x y:Int}:saw es [] x y=false:=by unfold saw;cases aS es (fT x y) <;> rfl
theorem F9 {es:List (Value×Nat×Hw)} {seen:List Nat} {x y:Int} {n:Nat} {v:Hw} (h:aS es (fT x y)=some (n,v)):saw es seen x y=seen.contains n:=by unfold saw;rw [h]
theorem Dx {es:List (Value×Nat×Hw)} {cl:Nat} (hw:jv es cl) {seen:List Nat} {x y:Int} {n:Nat} {v:Hw} (h:aS es (fT x y)=some (n,v)) {x' y':Int} (hne:¬ (x'=x∧y'=y)):saw es (seen ++ [n]) x' y'=saw es seen x' y':=by
 unfold saw
 cases ha:aS es (fT x' y') with
 | none=>rfl
 | some r =>
   have h1:=mZ hw.sn (jo h);have h2:=mZ hw.sn (jo ha)
   have:r.1≠n:=fun q=>by
    dsimp only at h1 h2;rw [q,h1] at h2;have:=congrArg Prod.fst (Option.some.inj h2);exact hne (by have:=w9.1 this;exact ⟨this.1.symm,this.2.symm⟩)
   dsimp only;rw [Bool.eq_iff_iff];simp [this]
structure NY (N bd:Nat) (D0:Nat→Prop) (d:lQ) (ks:List Int) (seen:List Nat) (h:Nat→Hb) (D1':Nat→Prop) (d':lQ):Prop where
 at_:fO h bd D0 D1' d'
 same:d'.b0=d.b0∧d'.bm=d.bm∧d'.t=d.t∧d'.ev=d.ev∧d'.cl=d.cl
 yes:∀ x y,saw d.es seen x y=true→d'.acc x y=gu ks (d.acc x y)
 no:∀ x y,saw d.es seen x y=false→d'.d x y=d.d x y
 sub:∀ e ∈ d'.es,∃ v,(e.1,e.2.1,v) ∈ d.es
 kn:h (N+2)=.cells (ks.map hI)
 it:h (N+43)=.iter d.bm d.cl seen d.cl
 lt:∀ b,D1' b→b < N∨(N+100≤b∧b < N+100+seen.length)
 free:∀ b,N+100+seen.length≤b→h b=.no
def zK (N bd:Nat) (D0:Nat→Prop) (d:lQ) (h:Nat→Hb) (r:List Hw):Prop:=r=[]∧∃ D1' d' N',fO h bd D0 D1' d'∧(d'.b0=d.b0∧d'.t=d.t∧d'.ev=d.ev)∧(∀ x y,d'.acc x y=gu (knL d.t) (d.acc x y))∧(N≤N'∧∀ b,D1' b→b < N')∧Free h N'
def RJ (hp:Nat→Hb) (az:List Hw) (Post:(Nat→Hb)→List Hw→Prop):Prop:=∃ (bd N:Nat) (D0 D1:Nat→Prop) (d:lQ),az=[hP bd 0]∧fO hp bd D0 D1 d∧((∀ b,D0 b→b < N)∧∀ b,D1 b→b < N)∧Free hp N∧(1≤d.t.st.gor∧d.t.st.gor≤8)∧Post=zK N bd D0 d
def P7:Env:=h1 40 FQ (h1 35 FP (h1 109 OX e0))
theorem IJ:aG Try.prog P7:=.h1 Ux (.h1 Uw (.h1 Vo .e0))
theorem ND:jI Try.prog 88 RJ:=by
 refine sqd88 IJ ?_;rintro hp az Post ⟨bd,N,D0,D1,d,rfl,h,⟨hD0,hD1⟩,hN,⟨hg1,hg8⟩,rfl⟩;obtain ⟨nc,hnc⟩:∃ nc,nc=ncN N:=⟨_,rfl⟩
 refine ⟨by simp,nc,?_⟩;have lb:=hD1 _ h.dd.1;have lm:=hD1 _ h.dd.2;have l0:=hD0 _ h.tab.dd.1;have n2:nc (N+2)=3:=by rw [hnc];exact aP
 have n43:nc (N+43)=44:=by rw [hnc];exact aP
 have nb:nc bd=1000:=by rw [hnc];exact aU lb
 have nm:nc d.bm=1000:=by rw [hnc];exact aU lm
 have n0:nc d.b0=1000:=by rw [hnc];exact aU l0
 have h0:=h.h0;have hm:=h.hm;have db2:bd≠N+2:=by omega
 have dm2:d.bm≠N+2:=by omega
 have nD2:¬ D0 (N+2):=fun q=>by have:=hD0 _ q;omega
 obtain ⟨G,hG⟩:∃ G:Nat,d.t.st.gor=(G:Int):=⟨d.t.st.gor.toNat,by omega⟩
 have hGn:d.t.st.gor.toNat=G:=by omega
 unfold pcd88;refine aH ?_;simp only [↓evP,evB,stB];refine C9 (N+2) (bG (by simp only [stB,n2]) (by (repeat' (first | exact aF.init | assumption | (refine aF.ap ?_ rfl)))) (by simp only [stB];exact hN.at_ 2)) ?_
 simp only [↓evP,evB,stB];refine iD msd88_0 osd88_0 (fun m st=>∃ (g:Nat) (c:List Int),m=8 - g∧g≤8∧c.length=8∧(∀ i,i < g→c.getD i 0=knG d.t i)∧st.sl 7=aI g∧st.hb=up hp (N+2) (.cells (c.map hI))) 8 (by (repeat' (first | exact aF.init | assumption | (refine aF.ap ?_ rfl)))) ?_ ?_
 ·exact ⟨0,List.replicate 8 0,rfl,Nat.zero_le _,rfl,fun i hi=>absurd hi (Nat.not_lt_zero _),by simp only [stB,Nat.reduceEqDiff];rfl,by simp only [stB,n2];rfl⟩
 rintro m j hjn hja ⟨g,c,rfl,hg,hc8,hcv,h7,hh⟩;simp only [stB,Nat.reduceEqDiff,Nat.reduceBEq,hjn] at h7 hh
 rcases Nat.lt_or_ge g 8 with hlt | hge
 ·have glt:(g:Int) < 8:=by omega
  have g0:(0:Int)≤(g:Int):=by omega
  have hw1:=yJ (c:=c) (g:=g) (v:=4611686018427387904) (by omega);have hcl:(c.map hI).length=8:=by rw [List.length_map,hc8]
  have hg7:g≤7:=by omega
  have glt':(g:Int) < ((8:Nat):Int):=by omega
  obtain ⟨c1,hc1⟩:∃ c1,c.set g 4611686018427387904=c1:=⟨_,rfl⟩
  rw [hc1] at hw1;have hT1:TabAt (up hp (N+2) (.cells (c1.map hI))) d.b0 D0 d.t:=h.tab.new nD2;have hR1:=Qf hT1;rw [hG] at hR1;simp only [↓evP,evB,stB,reduceCtorEq,Nat.reduceEqDiff,Nat.reduceLeDiff,Nat.reduceBEq,h7,hh,glt,glt',hg7,g0,hjn,n2,db2,h0,hw1,hcl,decide_true,Nat.mul_one];refine aN (up hp (N+2) (.cells (c1.map hI))) [.one (hI (G:Int))] (by simp only [stB,hjn,hh,n2,KL];exact hR1) ?_
  simp only [↓evP,evB,stB];refine iD msd88_1 osd88_1 (fun m st=>∃ (x:Nat) (c2:List Int),m=G - x∧x≤G∧c2.length=8∧(∀ i,i < g→c2.getD i 0=knG d.t i)∧c2.getD g 0=knF (zX d.t g) g x∧st.sl 17=aI x∧st.hb=up hp (N+2) (.cells (c2.map hI))) G (by repeat' (first | exact iP hja | (refine aF.ap ?_ rfl))) ?_ ?_
  ·refine ⟨0,c1,rfl,Nat.zero_le _,by rw [←hc1,List.length_set,hc8],fun i hi=>?_,?_,by simp only [stB,Nat.reduceEqDiff,Nat.reduceBEq];rfl,by simp only [stB]⟩
   ·rw [←hc1,List.getD_eq_getElem?_getD,List.getElem?_set_ne (by omega),←List.getD_eq_getElem?_getD];exact hcv i hi
   ·rw [←hc1,List.getD_eq_getElem?_getD,List.getElem?_set_self (by omega)];rfl
  rintro m2 j2 hjn2 hja2 ⟨x,c2,rfl,hx,hc28,hc2v,hc2g,h17,hh2⟩;simp only [stB,Nat.reduceEqDiff,Nat.reduceBEq,hjn2] at h17 hh2
  rcases Nat.lt_or_ge x G with hxG | hxG
  ·have xlt:(x:Int) < (G:Int):=by omega
   by_cases hxg:x=g
   ·have hne:((x:Int) != (g:Int))=false:=by rw [hxg];simp
    simp only [↓evP,evB,stB,reduceCtorEq,Nat.reduceEqDiff,Nat.reduceBEq,h7,h17,xlt,hne,decide_true]
    exact ⟨_,by omega,(by repeat' (first | assumption | exact bJ hja2 | (refine bA ?_ rfl rfl) | (refine aZ ?_ rfl) | (refine bA ?_ rfl bB) | (refine aZ ?_ bB))),x+1,c2,rfl,hxG,hc28,hc2v,by rw [hc2g,G6 hxg],by simp only [stB,Nat.reduceEqDiff,Nat.reduceBEq,h17];rw [wrN (by omega)],by simp only [stB,hh2,hjn2]⟩
   ·have hne:((x:Int) != (g:Int))=true:=by simp;omega
    have hT2:TabAt (up hp (N+2) (.cells (c2.map hI))) d.b0 D0 d.t:=h.tab.new nD2;have hR2:=PU hT2 (x:Int);have hl2:=Ir hT2 (x:Int)
    have hget:c2[g]? = some (knF (zX d.t g) g x):=by
     rw [←hc2g,List.getD_eq_getElem?_getD,List.getElem?_eq_getElem (by omega)];rfl
    have hget2:(d.t.p.clock (x:Int))[g]? = some (zX d.t g x):=by
     unfold zX;rw [List.getD_eq_getElem?_getD,List.getElem?_eq_getElem (by omega)];rfl
    have hget3:=iI _ _ _ hget2;have hl3:(aK (d.t.p.clock (x:Int))).length=8:=by rw [aJ,hl2]
    have hw2:∀ v,eU (c2.map hI) g [.d (.sc (.int .i64 v))]=(c2.set g v).map hI:=fun v=>yJ (by omega)
    have hcl2:(c2.map hI).length=8:=by rw [List.length_map,hc28]
    simp only [↓evP,evB,stB,reduceCtorEq,Nat.reduceEqDiff,Nat.reduceBEq,h7,h17,hh2,hjn2,xlt,hne,glt',g0,n2,nb,db2,h0,hget,decide_true,Nat.mul_one];refine Bc [fU (d.t.p.clock (x:Int))] (by simp only [stB,hjn2,hh2];exact hR2) (by change aF _;repeat' (first | exact iP hja2 | (refine aF.ap ?_ rfl))) ?_
    obtain ⟨mn,hmn⟩:∃ mn,knF (zX d.t g) g (x+1)=mn:=⟨_,rfl⟩
    have hmm:(if zX d.t g x < knF (zX d.t g) g x then zX d.t g x else knF (zX d.t g) g x)=mn:=by rw [←hmn,OD hxg]
    simp only [↓evP,evB,stB,reduceCtorEq,Nat.reduceEqDiff,Nat.reduceLeDiff,Nat.reduceBEq,h17,hh2,hjn2,glt',hg7,g0,n2,hget3,hw2,hcl2,fU,bW,Fz,List.foldl_cons,List.foldl_nil,hmm,Nat.mul_one];refine ⟨(by unfold Drw;refine Eq.trans (b:=true) ?_ rfl;kernel_rfl),?_⟩
    refine ⟨_,by omega,(by repeat' (first | assumption | exact bJ hja2 | (refine bA ?_ rfl rfl) | (refine aZ ?_ rfl) | (refine bA ?_ rfl bB) | (refine aZ ?_ bB))),x+1,c2.set g mn,rfl,hxG,by rw [List.length_set,hc28],fun i hi=>?_,?_,by simp only [stB,Nat.reduceEqDiff,Nat.reduceBEq,h17];rw [wrN (by omega)],by simp only [stB,hh2,hjn2,n2,KL]⟩
    ·rw [List.getD_eq_getElem?_getD,List.getElem?_set_ne (by omega),←List.getD_eq_getElem?_getD];exact hc2v i hi
    ·rw [List.getD_eq_getElem?_getD,List.getElem?_set_self (by omega),←hmn];rfl
  ·have hxe:x=G:=by omega
   have xlt:¬ (x:Int) < (G:Int):=by omega
   simp only [↓evP,evB,stB,reduceCtorEq,Nat.reduceEqDiff,Nat.reduceBEq,h17,xlt,decide_false,h7]
   refine ⟨8 - (g+1),by omega,(by repeat' (first | assumption | exact bJ hja | (refine bA ?_ rfl rfl) | (refine aZ ?_ rfl) | (refine bA ?_ rfl bB) | (refine aZ ?_ bB) | (refine eB.in' ?_ (bJ hja2) rfl rfl))),g+1,c2,rfl,by omega,hc28,fun i hi=>?_,by simp only [stB,Nat.reduceEqDiff,Nat.reduceBEq];rw [wrN (by omega)],by simp only [stB,hh2,hjn2]⟩
   by_cases hig:i=g
   ·rw [hig,hc2g,hxe];unfold knG;rw [hGn]
   ·exact hc2v i (by omega)
 have hge8:g=8:=by omega
 subst hge8;have glt:¬ ((8:Nat):Int) < 8:=by omega
 have hck:c=knL d.t:=by
  apply List.ext_getElem (by unfold knL;rw [List.length_map,List.length_range,hc8])
  intro i h1 h2;have:=hcv i (by omega);rw [List.getD_eq_getElem?_getD,List.getElem?_eq_getElem h1] at this;have h3:(knL d.t)[i]? = some (knG d.t i):=by unfold knL;rw [List.getElem?_map,List.getElem?_range (by omega)];rfl
  rw [List.getElem?_eq_getElem h2] at h3;rw [Option.some.inj h3];exact this
 subst hck;obtain ⟨hp1,hhp1⟩:∃ x,x=up hp (N+2) (.cells ((knL d.t).map hI)):=⟨_,rfl⟩
 have o1:∀ b,b≠N+2→hp1 b=hp b:=fun b hb=>by rw [hhp1,aB hb]
 have o2:hp1 (N+2)=.cells ((knL d.t).map hI):=by rw [hhp1,bV]
 have hA1:fO hp1 bd D0 D1 d:=h.frame (fun b hb=>o1 b (by have:=hD0 b hb;omega)) (fun b hb=>o1 b (by have:=hD1 b hb;omega))
 have h01:=hA1.h0;have hm1:=hA1.hm;have d43:d.bm≠N+43:=by omega
 rw [←hhp1] at hh;simp only [↓evP,evB,stB,reduceCtorEq,Nat.reduceEqDiff,Nat.reduceMul,Nat.reduceSub,Nat.reduceBEq,h7,hh,glt,decide_false,hjn,h01];refine vM (bm:=d.bm) (t:=98) (clock:=d.cl) (es:=d.es) (N+43) (bG (by simp only [stB,n43]) (by repeat' (first | exact iP hja | (refine aF.ap ?_ rfl))) (by simp only [stB,hjn,hh];rw [o1 _ (by omega)];exact hN.at_ 43)) (by simp only [stB,Nat.reduceEqDiff,Nat.reduceBEq]) (by simp only [stB,hjn,hh,hm1]) ?_
 simp only [↓evP,evB];refine iD msd88_2 osd88_2 (fun m st=>∃ (seen:List Nat) (D1':Nat→Prop) (d':lQ),m=d.es.length - seen.length∧seen.Nodup∧(∀ n ∈ seen,n ∈ d.es.map (·.2.1))∧NY N bd D0 d (knL d.t) seen st.hb D1' d') d.es.length (by repeat' (first | exact iP hja | (refine aF.ap ?_ rfl))) ?_ ?_
 ·refine ⟨[],D1,d,rfl,List.nodup_nil,fun n q=>(by cases q),?_⟩;simp only [stB,hjn,hh,n43];refine ⟨hA1.frame (fun b hb=>aB (by have:=hD0 b hb;omega)) (fun b hb=>aB (by have:=hD1 b hb;omega)),⟨rfl,rfl,rfl,rfl,rfl⟩,fun x y q=>(by rw [Rh] at q;cases q),fun _ _ _=>rfl,fun e he=>⟨_,he⟩,by rw [aB (by omega)];exact o2,bV,fun b hb=>.inl (hD1 b hb),fun b hb=>?_⟩
  rw [aB (by simp at hb;omega),o1 _ (by simp at hb;omega)];exact hN b (by omega)
 clear hh;rintro m j2 hjn2 hja2 ⟨seen,D1',d',rfl,hsn,hsub,H⟩;simp only [stB,hjn2] at H;obtain ⟨hA,⟨s1,s2,s3,s4,s5⟩,hyes,hno,hes,hkn,hit,hlt,hfr⟩:=H;have lb':=h.ne;have hmm:=hA.hm;rw [s2] at hmm;have h00:=hA.h0;rw [s1,s2] at h00;obtain ⟨hb,hhb⟩:∃ x,x=j2.hb:=⟨_,rfl⟩
 rw [←hhb] at hA hkn hit hfr hmm h00;have hhb':=hhb.symm;simp only [↓evP,evB,stB,Nat.reduceEqDiff,Nat.reduceBEq];refine uf (r:=N+43) (b:=d.bm) (since:=d.cl) (c0:=d.cl) (t:=98) (clock:=d'.cl) (seen:=seen) (es:=d'.es) (by simp only [stB,hjn2,hhb',hit]) (by simp only [stB,hjn2,hhb',hmm]) ⟨by rw [←s5];exact hA.ow.lt,Nat.le_refl _,by rw [s5];exact Nat.le_refl _⟩ ?_ ?_
 ·intro hall;simp only [↓evP,evB,stB,reduceCtorEq,Nat.reduceEqDiff,Nat.reduceBEq,hhb',hjn2,prd88]
  refine ⟨hb,_,rfl,fun b=>.inl rfl,rfl,D1',d',N+100+seen.length,hA,⟨s1,s3,s4⟩,fun x y=>?_,⟨by omega,fun b q=>by rcases hlt b q with q | q <;> omega⟩,hfr⟩
  cases hsw:saw d.es seen x y with
  | true=>exact hyes x y hsw
  | false =>
    have hd:=hno x y hsw;unfold lQ.acc;rw [hd]
    cases hq:d.d x y with
    | none=>rfl
    | some p =>
      exfalso
      rw [hq] at hd;obtain ⟨n,hn⟩:=(hA.eX hd).at_;have hmem:=jo hn;have hc:=hall _ hmem;obtain ⟨v,hv⟩:=hes _ hmem;rw [F9 (kG h.ow.kn hv),hc] at hsw;cases hsw
 intro e he hns;obtain ⟨x,y,b,xs,hek,hev,hdx,hal⟩:=hA.entry he;have hok:=hA.eX hdx;obtain ⟨v0,hv0⟩:=hes e he;have hal0:aS d.es (fT x y)=some (e.2.1,v0):=kG h.ow.kn (by rw [←hek];exact hv0)
 have hsw0:saw d.es seen x y=false:=by rw [F9 hal0];exact hns
 have hd0:=hno x y hsw0;rw [hdx] at hd0;have hv:rU e.1=.agg [.d (dI x),.d (dI y)]:=by rw [hek];rfl
 have hfind:=mZ hA.ow.sn he;have hlast:(seen ++ [e.2.1]).getLast? = some e.2.1:=List.getLast?_concat;have hkey:=zW hok.k.1 hok.k.2;have hbv:=hok.e;have hD1b:=hok.d1;have nbb:b < N∨(N+100≤b∧b < N+100+seen.length):=hlt b hD1b;obtain ⟨b2,hb2⟩:∃ b2,b2=N+100+seen.length:=⟨_,rfl⟩
 have hfb2:hb b2=.no:=hfr b2 (by omega);obtain ⟨ys,hys⟩:∃ ys,ys=gu (knL d.t) xs:=⟨_,rfl⟩
 have hR:OX (up hb (N+43) (.iter d.bm d.cl (seen ++ [e.2.1]) d'.cl)) [.one (.h (.v b)),.one (.h (.f 110 [] [(N+2,0)]))] (up (up (up hb (N+43) (.iter d.bm d.cl (seen ++ [e.2.1]) d'.cl)) b .dead) b2 (DL ys)) [.one (.h (.v b2))] :=
  ⟨b,N+2,b2,xs,knL d.t,rfl,⟨by rw [aB (by omega)];exact hbv,by rw [aB (by omega)];exact hkn,by rw [aB (by omega)];exact hfb2⟩,⟨by unfold knL;simp,hok.ne,by have:=hok.len;omega,hok.in_⟩,by rw [hys],rfl⟩
 have e1:b≠N+43:=by omega
 have e2:b2≠N+43:=by omega
 have e3:b≠b2:=by omega
 have e4:d.bm≠b2:=by omega
 have e5:bd≠b2:=by omega
 have e6:bd≠N+43:=by omega
 have e7:d.bm≠b:=fun q=>by rw [q,hbv] at hmm;cases hmm
 have e8:bd≠b:=fun q=>by rw [q,hbv] at h00;cases h00
 have hyl:(gG ys).length=ys.length:=List.length_map ..;simp only [↓evP,evB,stB,reduceCtorEq,Nat.reduceEqDiff,Nat.reduceAdd,Nat.reduceLeDiff,Nat.reduceLT,Nat.reduceBEq,n43,hv,hev,Hw.bv,hfind,hlast,hhb',hjn2,hit,hmm,d43];refine aN _ [.one (.h (.v b2))] (by simp only [stB,Nat.reduceLT,hjn2,hhb',n43];exact hR) ?_
 have e9:b2≠d.bm:=Ne.symm e4
 have hnd:(seen ++ [e.2.1]).Nodup:=by
  rw [List.nodup_append];exact ⟨hsn,by simp,fun a ha b hb q=>by have:=List.mem_singleton.1 hb;subst this;subst q;simp [ha] at hns⟩
 have hsub2:∀ n ∈ seen ++ [e.2.1],n ∈ d.es.map (·.2.1):=fun n hn=>by
  rcases List.mem_append.1 hn with q | q
  ·exact hsub n q
  ·rw [List.mem_singleton.1 q];exact List.mem_map.2 ⟨_,hv0,rfl⟩
 have hlen:seen.length+1≤d.es.length:=by
  have:=Dj hnd (l':=d.es.map (·.2.1)) hsub2
  simpa using this
 have hsl:(seen ++ [e.2.1]).length=seen.length+1:=by rw [List.length_append];rfl
 have hfin:∀ (es':List (Value×Nat×Hw)) (v:Option (List Ac)),jv es' d'.cl→(∀ k,k≠fT x y→aS es' k=aS d'.es k)→(∀ a ∈ es',∃ x y,a.1=fT x y∧iY x∧iY y)→(∀ a ∈ es',∃ u,(a.1,a.2.1,u) ∈ d.es) →
  (match v with | none=>ys=[]∧aS es' (fT x y)=none | some zs=>zs=ys∧ys≠[]∧∃ n,aS es' (fT x y)=some (n,.one (.h (.v b2)))) →
  NY N bd D0 d (knL d.t) (seen ++ [e.2.1]) (up (up (up (up hb (N+43) (.iter d.bm d.cl (seen ++ [e.2.1]) d'.cl)) b .dead) b2 (DL ys)) d.bm (.map 98 es' d'.cl)) (fun c=>D1' c∨c=b2) { d' with es:=es',cl:=d'.cl,d:=Rt d'.d x y (v.map fun ys=>(b2,ys)),tg:=up d'.tg b2 (some (x,y)) }:=by
  intro es' v w1 w2 w3 w4 w5
  have n43D:∀ c,D1' c→c≠N+43:=fun c q=>by rcases hlt c q with q | q <;> omega
  have nb2D:¬ D1' b2:=fun q=>by rcases hlt _ q with q | q <;> omega
  have nb0:¬ D0 b:=fun q=>hA.dis b hD1b q
  have nbm:D1' d.bm:=by have:=hA.dd.2;rw [s2] at this;exact this
  have hF:∀ c,c≠N+43→c≠b→c≠b2→c≠d.bm→up (up (up (up hb (N+43) (.iter d.bm d.cl (seen ++ [e.2.1]) d'.cl)) b .dead) b2 (DL ys)) d.bm (.map 98 es' d'.cl) c=hb c:=fun c q1 q2 q3 q4=>by rw [aB q4,aB q3,aB q2,aB q1]
  have hac:∀ x' y',¬ (x'=x∧y'=y)→Rt d'.d x y (v.map fun ys=>(b2,ys)) x' y'=d'.d x' y':=fun x' y' q=>wH q
  have hyl2:ys.length≤xs.length:=by rw [hys];exact List.length_filter_le _ _
  refine ⟨hA.turn (v:=v) ⟨nb2D,fun q=>by have:=hD0 _ q;omega⟩ (fun c q=>hF c (by have:=hD0 c q;omega) (fun q2=>nb0 (q2 ▸ q)) (by have:=hD0 c q;omega) (fun q2=>hA.dis _ nbm (q2 ▸ q))) (fun c q1 q2 q3=>hF c (n43D c q1) (q3 (b,xs) hdx) (fun q=>nb2D (q ▸ q1)) (by rw [←s2];exact q2)) (by rw [s2];exact bV) w1 w2 w3 ?_,⟨s1,s2,s3,s4,s5⟩,fun x' y' q=>?_,fun x' y' q=>?_,w4,?_,?_,fun c q=>?_,fun c q=>?_⟩
  ·cases v with
   | none=>exact w5.2
   | some zs =>
     obtain ⟨rfl,q2,q3⟩:=w5;refine ⟨by rw [aB e9,bV],q2,q3,fun a ha=>?_,by have:=hok.len;omega,hok.k⟩
     rw [hys] at ha;exact hok.in_ a (List.mem_filter.1 ha).1
  ·by_cases hxy:x'=x∧y'=y
   ·obtain ⟨rfl,rfl⟩:=hxy;have:d.acc x' y'=xs:=by unfold lQ.acc;rw [←hd0]
    rw [this,←hys];unfold lQ.acc;dsimp only;rw [wG]
    cases v with
    | none=>exact w5.1.symm
    | some zs=>exact w5.1
   ·rw [Dx h.ow hal0 hxy] at q;have:=hyes x' y' q;unfold lQ.acc at this ⊢;dsimp only;rw [hac x' y' hxy];exact this
  ·by_cases hxy:x'=x∧y'=y
   ·obtain ⟨rfl,rfl⟩:=hxy;rw [F9 hal0] at q;simp at q
   ·rw [Dx h.ow hal0 hxy] at q;dsimp only;rw [hac x' y' hxy];exact hno x' y' q
  ·rw [hF _ (by omega) (by omega) (by omega) (by omega)];exact hkn
  ·rw [aB (by omega),aB (by omega),aB (by omega),bV,s5]
  ·rw [hsl]
   rcases q with q | q
   ·rcases hlt c q with q | q <;> omega
   ·omega
  ·rw [hsl] at q;rw [hF c (by omega) (by omega) (by omega) (by omega)];exact hfr c (by omega)
 have hput:=lZ (es:=d'.es) (n:=d'.cl) (k:=fT x y) (v:=.one (.h (.v b2)));have hal':=hal;have hw1:=hA.ow.put (fT x y) (.one (.h (.v b2)));have hckl:ckl d'.es d'.cl (fT x y)=d'.cl:=by unfold ckl;rw [hal]
 rw [hckl] at hw1
 have w3:∀ a ∈ dR d'.es d'.cl (fT x y) (.one (.h (.v b2))),∃ x y,a.1=fT x y∧iY x∧iY y:=fun a ha=>by
  rcases KU ha with q | ⟨q,_⟩
  ·exact hA.ok a q
  ·exact ⟨x,y,q,hok.k⟩
 have w4:∀ a ∈ dR d'.es d'.cl (fT x y) (.one (.h (.v b2))),∃ u,(a.1,a.2.1,u) ∈ d.es:=fun a ha=>by
  have hkm:(a.1,a.2.1) ∈ d'.es.map fun z=>(z.1,z.2.1):=by
   rw [←PE (v:=.one (.h (.v b2))) (n:=d'.cl) hal];exact List.mem_map.2 ⟨a,ha,rfl⟩
  obtain ⟨z,hz,hza⟩:=List.mem_map.1 hkm;obtain ⟨u,hu⟩:=hes z hz;have h1:=congrArg Prod.fst hza;have h2:=congrArg Prod.snd hza;dsimp only at h1 h2;exact ⟨u,by rw [←h1,←h2];exact hu⟩
 have hap:aS (dR d'.es d'.cl (fT x y) (.one (.h (.v b2)))) (fT x y)=some (e.2.1,.one (.h (.v b2))):=by rw [oD,hal]
 unfold fT at hal
 by_cases hy0:ys=[]
 ·have hf:=hfin (uS (dR d'.es d'.cl (fT x y) (.one (.h (.v b2)))) (fT x y)) none (hw1.del _) (fun k hk=>by rw [zk hk,gU hk]) (fun a ha=>w3 a (nX.subset ha)) (fun a ha=>w4 a (nX.subset ha)) ⟨hy0,Ij hw1.kn⟩;unfold fT at hf;have hz0:((ys.length:Int) == 0)=true:=by rw [hy0];rfl
  simp only [↓evP,evB,stB,reduceCtorEq,Nat.reduceEqDiff,Nat.reduceAdd,Nat.reduceLeDiff,Nat.reduceLT,Nat.reduceBEq,nb,nm,hmm,d43,e2,e4,e5,e6,e7,e8,e9,lb',h00,hkey,hal,hyl,hz0];refine ⟨(by unfold Drw;refine Eq.trans (b:=true) ?_ rfl;kernel_rfl),(by unfold Drw;refine Eq.trans (b:=true) ?_ rfl;kernel_rfl),?_⟩
  exact ⟨d.es.length - (seen ++ [e.2.1]).length,by rw [hsl];omega,(by repeat' (first | assumption | exact bJ hja2 | (refine bA ?_ rfl rfl) | (refine aZ ?_ rfl) | (refine bA ?_ rfl bB) | (refine aZ ?_ bB))),seen ++ [e.2.1],_,_,rfl,hnd,hsub2,by simp only [stB,nm,KL];exact hf⟩
 ·have hf:=hfin (dR d'.es d'.cl (fT x y) (.one (.h (.v b2)))) (some ys) hw1 (fun k hk=>gU hk) w3 w4 ⟨rfl,hy0,_,hap⟩;unfold fT at hf
  have hz0:((ys.length:Int) == 0)=false:=by
   have:=List.length_pos_iff.2 hy0;rw [beq_eq_false_iff_ne];omega
  simp only [↓evP,evB,stB,reduceCtorEq,Nat.reduceEqDiff,Nat.reduceAdd,Nat.reduceLeDiff,Nat.reduceLT,Nat.reduceBEq,nb,nm,hmm,d43,e2,e4,e5,e6,e7,e8,e9,lb',h00,hkey,hal,hyl,hz0];refine ⟨(by unfold Drw;refine Eq.trans (b:=true) ?_ rfl;kernel_rfl),?_⟩
  exact ⟨d.es.length - (seen ++ [e.2.1]).length,by rw [hsl];omega,(by repeat' (first | assumption | exact bJ hja2 | (refine bA ?_ rfl rfl) | (refine aZ ?_ rfl) | (refine bA ?_ rfl bB) | (refine aZ ?_ bB))),seen ++ [e.2.1],_,_,rfl,hnd,hsub2,by simp only [stB,nm];exact hf⟩
end Go.Proofs.Ytffcpijeebagfaa
end
section
namespace Go.Proofs.Ytffcpijeebagfaa
open Go
def RCh.conv (c:RCh):Ch:=⟨c.n,c.sent,c.recv,c.closed⟩
def RLk.conv (c:RLk):Mu:=⟨c.locked,c.readers⟩
inductive qb:List RWt→List Int→Int→Int→Prop
 | none (a b:Int):qb [] [] a b
 | snd (g b:Int) (h:0≤g):qb [⟨16,g,0⟩] [16] g b
 | rcv (a g:Int) (h:0≤g):qb [⟨18,g,0⟩] [18] a g
 | wait (g:Int) (h:0≤g):qb [⟨17, -1,g⟩,⟨18, -1,0⟩,⟨16,g,0⟩] [17,18,16] g (-1)
 | ask (g:Int) (h:0≤g):qb [⟨15, -1,g⟩,⟨18,g,0⟩,⟨16, -1,0⟩] [15,18,16] (-1) g
 | both (a b:Int) (h:0≤a) (k:0≤b):qb [⟨18,b,0⟩,⟨16,a,0⟩] [18,16] a b
def asks (l:List Int):Int:=if l.headD 0=15 then 1 else if l.headD 0=17 then -1 else 0
structure Rel (r:RSt) (t:TS):Prop where
 ct:r.count=t.events
 gr:r.gor=t.gor
 ch:∀ x,t.chans x=(r.chans.find? (fun c=>c.obj == x)).map RCh.conv
 lk:∀ x y,t.mus (x,y)=(r.locks.find? (fun c=>c.obj == x && c.off == y)).map RLk.conv
 dn:∀ x y,(t.done (x,y)).getD false=r.isDone x y
 gp:qb r.next t.grp.kinds t.grp.snd t.grp.rcv
 go:r.next≠[]→t.grp.obj=r.obj∧t.grp.k=r.k∧t.grp.n=r.n∧(t.chans r.obj).isSome=true
 bal:∀ x c,t.chans x=some c→c.recv≤c.sent+(if x=r.obj then asks t.grp.kinds else 0)
 clen:(r.chans.length:Int)≤r.count
 cbd:∀ c,c ∈ r.chans→(0≤c.sent∧c.sent≤r.count)∧(0≤c.recv∧c.recv≤r.count)
 llen:(r.locks.length:Int)≤r.count
 lbd:∀ c,c ∈ r.locks→0≤c.readers∧c.readers≤r.count
 dlen:(r.done.length:Int)≤r.count
theorem Rel.new:Rel RSt.new TS.new :=
 ⟨rfl,rfl,fun _=>rfl,fun _ _=>rfl,fun _ _=>rfl,.none _ _,fun h=>absurd rfl h,(fun _ _ h=>by cases h),(by decide),(fun _ h=>by cases h),(by decide),(fun _ h=>by cases h),(by decide)⟩
theorem qb.len {l:List RWt} {k:List Int} {a b:Int} (h:qb l k a b):l.length≤3:=by cases h <;> simp
theorem qb.kinds {l:List RWt} {k:List Int} {a b:Int} (h:qb l k a b):k=l.map (·.kind):=by cases h <;> rfl
theorem Rel.ok {r:RSt} {t:TS} (h:Rel r t) (hw:t.wf):r.ok:=by
 have h1:=hw.ev;have h2:=hw.gr;have h3:=h.gp.len;have h4:=h.ct;have h5:=h.gr;have h6:=h.clen;have h7:=h.llen;have h8:=h.dlen;refine ⟨by omega,by omega,⟨by omega,fun c hc=>?_⟩,⟨by omega,fun c hc=>?_⟩,by omega,by omega⟩
 ·have:=h.cbd c hc;omega
 ·have:=h.lbd c hc;omega
theorem CW {α:Type} (l:List α) (p q:α→Bool) (c:α) (hc:p c=true→∀ d,d ∈ l→p d=true→q d=false) (hn:p c=false→∀ d,d ∈ l→p d=true→q d=true) :
 (l.filter q ++ [c]).find? p=if p c=true then some c else l.find? p:=by
 rw [List.find?_append]
 cases hp:p c with
 | true =>
   have h1:(l.filter q).find? p=none:=by
    rw [List.find?_eq_none];intro x hx h2;obtain ⟨h3,h4⟩:=List.mem_filter.1 hx;rw [hc hp x h3 h2] at h4;cases h4
   simp [h1,hp]
 | false =>
   have h1:(l.filter q).find? p=l.find? p:=by
    have hn':=hn hp;clear hn hc
    induction l with
    | nil=>rfl
    | cons a l ih =>
      have ih':=ih (fun d hd=>hn' d (List.mem_cons_of_mem _ hd));rw [List.filter_cons,List.find?_cons]
      cases hpa:p a with
      | true=>rw [if_pos (hn' a List.mem_cons_self hpa),List.find?_cons,hpa]
      | false =>
        cases hq:q a with
        | true=>rw [if_pos rfl,List.find?_cons,hpa];exact ih'
        | false=>rw [if_neg (by decide)];exact ih'
   simp [h1,hp]
theorem uD (r:RSt) (c:RCh) (x:Int):(r.bN c).chans.find? (fun d=>d.obj == x)=if c.obj=x then some c else r.chans.find? (fun d=>d.obj == x):=by
 have:=CW r.chans (fun d=>d.obj == x) (fun d=>d.obj != c.obj) c (fun h d _ h2=>by simp at h h2 ⊢;rw [h,h2]) (fun h d _ h2=>by simp at h h2 ⊢;rw [h2];exact fun h3=>h h3.symm)
 simpa [RSt.bN] using this
theorem zD (r:RSt) (c:RLk) (x y:Int):(r.dM c).locks.find? (fun d=>d.obj == x && d.off == y)=if c.obj=x∧c.off=y then some c else r.locks.find? (fun d=>d.obj == x && d.off == y):=by
 have:=CW r.locks (fun d=>d.obj == x && d.off == y) (fun d=>d.obj != c.obj || d.off != c.off) c
  (fun h d _ h2=>by simp at h h2 ⊢;rw [h.1,h.2,h2.1,h2.2];exact ⟨rfl,rfl⟩)
  (fun h d _ h2=>by simp at h h2 ⊢;rw [h2.1,h2.2];by_cases h3:c.obj=x
                    ·right;exact fun h4=>h h3 h4.symm
                    ·left;exact fun h4=>h3 h4.symm)
 simpa [RSt.dM] using this
theorem Rel.channel {r:RSt} {t:TS} (h:Rel r t) (e:Ev):(r.channel e.obj e.n).conv=t.chan e∧(r.channel e.obj e.n).obj=e.obj:=by
 unfold RSt.channel TS.chan;rw [h.ch]
 cases hf:r.chans.find? (fun c=>c.obj == e.obj) with
 | none=>exact ⟨rfl,rfl⟩
 | some c=>exact ⟨rfl,by have:=List.find?_some hf;simpa using this⟩
theorem Rel.lock {r:RSt} {t:TS} (h:Rel r t) (e:Ev):(r.lock e.obj e.off).conv=t.mu e∧(r.lock e.obj e.off).obj=e.obj∧(r.lock e.obj e.off).off=e.off:=by
 unfold RSt.lock TS.mu;rw [h.lk]
 cases hf:r.locks.find? (fun c=>c.obj == e.obj && c.off == e.off) with
 | none=>exact ⟨rfl,rfl,rfl⟩
 | some c=>exact ⟨rfl,by have:=List.find?_some hf;simp at this;exact this.1,by have:=List.find?_some hf;simp at this;exact this.2⟩
theorem Rel.kR {r:RSt} {t:TS} (h:Rel r t) (hc:0≤r.count) (obj n:Int):(0≤(r.channel obj n).sent∧(r.channel obj n).sent≤r.count)∧(0≤(r.channel obj n).recv∧(r.channel obj n).recv≤r.count):=by
 unfold RSt.channel
 cases hf:r.chans.find? (fun c=>c.obj == obj) with
 | none=>simp [hc]
 | some c=>exact h.cbd c (List.mem_of_find?_eq_some hf)
theorem Rel.zY {r:RSt} {t:TS} (h:Rel r t) (hc:0≤r.count) (obj off:Int):0≤(r.lock obj off).readers∧(r.lock obj off).readers≤r.count:=by
 unfold RSt.lock
 cases hf:r.locks.find? (fun c=>c.obj == obj && c.off == off) with
 | none=>simp [hc]
 | some c=>exact h.lbd c (List.mem_of_find?_eq_some hf)
theorem qb.rJ {l:List RWt} {k:List Int} {a b:Int} (h:qb l k a b) (hl:l=[]):asks k=0:=by subst hl;cases h;rfl
theorem Rel.put {r:RSt} {t:TS} (h:Rel r t) (c:RCh) (hs:0≤c.sent∧c.sent≤r.count+1) (hr:0≤c.recv∧c.recv≤r.count+1) (nx:List RWt) (ob kk nn:Int) (o:Grp) (hg:qb nx o.kinds o.snd o.rcv)
 (ho:nx≠[]→o.obj=ob∧o.k=kk∧o.n=nn∧ob=c.obj) (hb:c.recv≤c.sent+asks o.kinds) (hold:∀ x d,x≠c.obj→t.chans x=some d→d.recv≤d.sent) :
 Rel { r.bN c with next:=nx,obj:=ob,k:=kk,n:=nn,count:=r.count+1 } { t with chans:=upd t.chans c.obj c.conv,grp:=o,events:=t.events+1 }:=by
 refine ⟨by simp only [h.ct],h.gr,fun x=>?_,h.lk,h.dn,hg,fun hne=>?_,fun x d hd=>?_,?_,fun d hd=>?_,?_,fun d hd=>?_,?_⟩
 ·have h1:=uD r c x;dsimp only;rw [h1]
  by_cases hx:c.obj=x
  ·subst hx;rw [upd_same,if_pos rfl];rfl
  ·rw [fJ _ _ (fun h2=>hx h2.symm),if_neg hx,h.ch]
 ·obtain ⟨h1,h2,h3,h4⟩:=ho hne;exact ⟨h1,h2,h3,by dsimp only;rw [h4,upd_same];rfl⟩
 ·dsimp only at hd ⊢
  by_cases hx:x=c.obj
  ·subst hx;rw [upd_same] at hd;cases hd
   by_cases hn:nx=[]
   ·rw [hg.rJ hn] at hb ⊢
    show c.recv≤c.sent+_
    split <;> omega
   ·rw [if_pos (ho hn).2.2.2.symm];exact hb
  ·rw [fJ _ _ hx] at hd;have:=hold x d hx hd
   by_cases hn:nx=[]
   ·rw [hg.rJ hn];split <;> omega
   ·rw [if_neg (fun h2=>hx (h2.trans (ho hn).2.2.2))];omega
 ·have h1:=List.length_filter_le (fun d:RCh=>d.obj != c.obj) r.chans;have h2:=h.clen;simp only [RSt.bN,List.length_append,List.length_cons,List.length_nil];omega
 ·simp only [RSt.bN,List.mem_append,List.mem_filter,List.mem_singleton] at hd
  rcases hd with ⟨hd,_⟩ | rfl
  ·have:=h.cbd d hd;dsimp only;omega
  ·dsimp only;omega
 ·have:=h.llen;dsimp only [RSt.bN];omega
 ·have:=h.lbd d hd;dsimp only [RSt.bN];omega
 ·have:=h.dlen;dsimp only [RSt.bN];omega
theorem Rel.keep {r:RSt} {t:TS} (h:Rel r t) (nx:List RWt) (o:Grp) (hg:qb nx o.kinds o.snd o.rcv) (ho:nx≠[]→o.obj=r.obj∧o.k=r.k∧o.n=r.n∧(t.chans r.obj).isSome=true) (ha:asks o.kinds=asks t.grp.kinds) :
 Rel { r with next:=nx,count:=r.count+1 } { t with grp:=o,events:=t.events+1 }:=by
 refine ⟨by simp only [h.ct],h.gr,h.ch,h.lk,h.dn,hg,ho,fun x d hd=>?_,?_,fun d hd=>?_,?_,fun d hd=>?_,?_⟩
 ·dsimp only;rw [ha];exact h.bal x d hd
 ·have:=h.clen;dsimp only;omega
 ·have:=h.cbd d hd;dsimp only;omega
 ·have:=h.llen;dsimp only;omega
 ·have:=h.lbd d hd;dsimp only;omega
 ·have:=h.dlen;dsimp only;omega
theorem Rel.vV {r:RSt} {t:TS} (h:Rel r t) (c:RLk) (hr:0≤c.readers∧c.readers≤r.count+1) :
 Rel { r.dM c with count:=r.count+1 } { t with mus:=upd t.mus (c.obj,c.off) c.conv,events:=t.events+1 }:=by
 refine ⟨by simp only [h.ct],h.gr,h.ch,fun x y=>?_,h.dn,h.gp,h.go,h.bal,?_,fun d hd=>?_,?_,fun d hd=>?_,?_⟩
 ·have h1:=zD r c x y;dsimp only;rw [h1]
  by_cases hx:c.obj=x∧c.off=y
  ·obtain ⟨rfl,rfl⟩:=hx;rw [upd_same,if_pos ⟨rfl,rfl⟩];rfl
  ·rw [fJ _ _ (fun h2=>hx (by cases h2;exact ⟨rfl,rfl⟩)),if_neg hx,h.lk]
 ·have:=h.clen;dsimp only [RSt.dM];omega
 ·have:=h.cbd d hd;dsimp only [RSt.dM];omega
 ·have h1:=List.length_filter_le (fun d:RLk=>d.obj != c.obj || d.off != c.off) r.locks;have h2:=h.llen;simp only [RSt.dM,List.length_append,List.length_cons,List.length_nil];omega
 ·simp only [RSt.dM,List.mem_append,List.mem_filter,List.mem_singleton] at hd
  rcases hd with ⟨hd,_⟩ | rfl
  ·have:=h.lbd d hd;dsimp only;omega
  ·dsimp only;omega
 ·have:=h.dlen;dsimp only [RSt.dM];omega
def Ans (p:RSt×Bool) (o:Option TS):Prop:=match o with
 | some t'=>p.2=true∧Rel { p.1 with count:=p.1.count+1 } { t' with events:=t'.events+1 }
 | none=>p.2=false
theorem Rel.other {r:RSt} {t:TS} (h:Rel r t) (hc:0≤r.count) (e:Ev) (hn:r.next=[]):Ans (r.eY e) (t.simple e):=by
 obtain ⟨hm,ho,hf⟩:=h.lock e;have hb:=h.zY hc e.obj e.off;have hd:=h.dn e.obj e.off;unfold RSt.eY TS.simple;rw [←hm,hd];clear hm;generalize r.lock e.obj e.off=m at ho hf hb ⊢;obtain ⟨mo,mf,ml,mr⟩:=m;dsimp only [RLk.conv] at ho hf hb ⊢;subst ho;subst hf
 have same:Rel { r with count:=r.count+1 } { t with events:=t.events+1 }:=Rel.keep h r.next t.grp h.gp h.go rfl
 by_cases k6:e.kind=6
 ·rw [if_pos k6,if_pos k6]
  by_cases hl:ml=true∨0 < mr
  ·rw [if_pos hl]
   show (!ml && mr == 0)=false
   rcases hl with rfl | hl
   ·rfl
   ·rw [beq_eq_false_iff_ne.2 (by omega),Bool.and_false]
  ·rw [if_neg hl];have h1:ml=false:=by cases ml <;> simp at hl ⊢
   have h2:mr=0:=by omega
   subst h1;subst h2;exact ⟨rfl,Rel.vV h ⟨e.obj,e.off,true,0⟩ ⟨by dsimp only;omega,by dsimp only;omega⟩⟩
 rw [if_neg k6,if_neg k6]
 by_cases k7:e.kind=7
 ·rw [if_pos k7,if_pos k7]
  cases ml with
  | false=>rw [if_pos rfl];rfl
  | true=>rw [if_neg (by decide)];exact ⟨rfl,Rel.vV h ⟨e.obj,e.off,false,mr⟩ ⟨hb.1,by dsimp only;omega⟩⟩
 rw [if_neg k7,if_neg k7]
 by_cases k8:e.kind=8
 ·rw [if_pos k8,if_pos k8]
  cases ml with
  | true=>rw [if_pos rfl];rfl
  | false=>rw [if_neg (by decide)];exact ⟨rfl,Rel.vV h ⟨e.obj,e.off,false,mr+1⟩ ⟨by dsimp only;omega,by dsimp only;omega⟩⟩
 rw [if_neg k8,if_neg k8]
 by_cases k9:e.kind=9
 ·rw [if_pos k9,if_pos k9]
  by_cases hl:mr=0
  ·rw [if_pos hl];subst hl;rfl
  ·rw [if_neg hl];exact ⟨decide_eq_true (show 0≤mr - 1 by omega),Rel.vV h ⟨e.obj,e.off,ml,mr - 1⟩ ⟨by dsimp only;omega,by dsimp only;omega⟩⟩
 rw [if_neg k9,if_neg k9]
 by_cases k12:e.kind=12
 ·rw [if_pos k12,if_pos k12]
  cases hdo:r.isDone e.obj e.off with
  | true=>rw [if_pos rfl];rfl
  | false =>
    rw [if_neg (by decide)];refine ⟨rfl,by simp only [h.ct],h.gr,h.ch,h.lk,fun x y=>?_,h.gp,h.go,h.bal,?_,fun d hd=>?_,?_,fun d hd=>?_,?_⟩
    ·unfold RSt.isDone;dsimp only;rw [List.any_append]
     by_cases hx:(x,y)=(e.obj,e.off)
     ·cases hx;rw [upd_same];simp
     ·rw [fJ _ _ hx,h.dn]
      have:((e.obj == x) && (e.off == y))=false:=by
       rw [Bool.eq_false_iff];intro h2;simp only [Bool.and_eq_true,beq_iff_eq] at h2;exact hx (by rw [h2.1,h2.2])
      unfold RSt.isDone;simp [this]
    ·have:=h.clen;dsimp only;omega
    ·have:=h.cbd d hd;dsimp only;omega
    ·have:=h.llen;dsimp only;omega
    ·have:=h.lbd d hd;dsimp only;omega
    ·have:=h.dlen;simp only [List.length_append,List.length_cons,List.length_nil];omega
 rw [if_neg k12,if_neg k12]
 by_cases k13:e.kind=13
 ·rw [if_pos k13,if_pos k13]
  cases hdo:r.isDone e.obj e.off with
  | true=>rw [if_pos rfl];exact ⟨rfl,same⟩
  | false=>rw [if_neg (by decide)];rfl
 rw [if_neg k13,if_neg k13]
 by_cases k14:e.kind=14
 ·rw [if_pos k14,if_pos k14,h.gr]
  by_cases hk:e.k=t.gor
  ·rw [if_neg (fun h=>h hk)];refine ⟨beq_iff_eq.2 hk,by simp only [h.ct],?_,h.ch,h.lk,h.dn,h.gp,h.go,h.bal,?_,fun d hd=>?_,?_,fun d hd=>?_,?_⟩
   ·rfl
   ·have:=h.clen;dsimp only;omega
   ·have:=h.cbd d hd;dsimp only;omega
   ·have:=h.llen;dsimp only;omega
   ·have:=h.lbd d hd;dsimp only;omega
   ·have:=h.dlen;dsimp only;omega
  ·rw [if_pos hk];exact beq_eq_false_iff_ne.2 hk
 rw [if_neg k14,if_neg k14];exact ⟨rfl,same⟩
theorem Qa {r:RSt} {o:Grp} {w:RWt} {l:List RWt} {e:Ev} (hg:qb (w :: l) o.kinds o.snd o.rcv) (h1:o.obj=r.obj) (h2:o.k=r.k) (h3:o.n=r.n):r.fits w e=o.fits e:=by
 obtain ⟨kinds,ob,k,n,snd,rcv⟩:=o;dsimp only at hg h1 h2 h3;subst h1;subst h2;subst h3;rw [Bool.eq_iff_iff];unfold RSt.fits Grp.fits Grp.own Grp.other jk;cases hg <;> (by_cases hk:e.kind=15∨e.kind=16) <;> simp [hk] <;> omega
theorem qb.inv {w:RWt} {l:List RWt} {k:List Int} {a b:Int} (h:qb (w :: l) k a b) :
 (w=⟨16,a,0⟩∧l=[]∧k=[16]∧0≤a)∨(w=⟨18,b,0⟩∧l=[]∧k=[18]∧0≤b)∨(w=⟨17, -1,a⟩∧l=[⟨18, -1,0⟩,⟨16,a,0⟩]∧k=[17,18,16]∧0≤a) ∨
 (w=⟨15, -1,b⟩∧l=[⟨18,b,0⟩,⟨16, -1,0⟩]∧k=[15,18,16]∧0≤b)∨(w=⟨18,b,0⟩∧l=[⟨16,a,0⟩]∧k=[18,16]∧0≤a∧0≤b):=by
 cases h with
 | snd g b h=>exact .inl ⟨rfl,rfl,rfl,h⟩
 | rcv a g h=>exact .inr (.inl ⟨rfl,rfl,rfl,h⟩)
 | wait g h=>exact .inr (.inr (.inl ⟨rfl,rfl,rfl,h⟩))
 | ask g h=>exact .inr (.inr (.inr (.inl ⟨rfl,rfl,rfl,h⟩)))
 | both a b h k=>exact .inr (.inr (.inr (.inr ⟨rfl,rfl,rfl,h,k⟩)))
theorem UJ {κ:Type} [DecidableEq κ] {α:Type} {f:κ→Option α} {x:κ} {v:α} (h:f x=some v):upd f x v=f:=by
 funext y
 by_cases hy:y=x
 ·subst hy;rw [upd_same,h]
 ·rw [fJ _ _ hy]
theorem TS.wU {t:TS} {e:Ev} {c:Ch} (h:t.chans e.obj=some c) (h5:e.kind≠15) (h7:e.kind≠17):t.count e=t:=by
 unfold TS.count Ch.count;rw [h,Option.getD_some,if_neg h5,if_neg h7,UJ h]
theorem Rel.group {r:RSt} {t:TS} (h:Rel r t) (e:Ev) (hv:0≤e.g) (hc:0≤r.count) (hn:r.next≠[]):Ans (r.jB e) (t.proceed e):=by
 obtain ⟨h1,h2,h3,h4⟩:=h.go hn;obtain ⟨c,hc4⟩:=Option.isSome_iff_exists.1 h4;have hgp:=h.gp;unfold RSt.jB TS.proceed
 cases hnx:r.next with
 | nil=>exact absurd hnx hn
 | cons w l =>
   rw [hnx] at hgp;dsimp only;rw [Qa hgp h1 h2 h3]
   cases hf:t.grp.fits e with
   | false=>rw [if_neg (by decide),if_neg (by decide)];rfl
   | true =>
     rw [if_pos rfl,if_pos rfl];have hfit:=hf;unfold Grp.fits at hfit;simp only [Bool.and_eq_true,decide_eq_true_eq,Bool.not_eq_true',Bool.or_eq_false_iff,decide_eq_false_iff_not] at hfit;obtain ⟨⟨f1,f2,f3,f4⟩,f5,f6⟩:=hfit;have hbal:=h.bal;have hob:e.obj=r.obj:=f2.trans h1;have hc5:t.chans e.obj=some c:=by rw [hob];exact hc4
     -- the channel of the group
     have hch:(r.channel e.obj e.n).conv=c∧(r.channel e.obj e.n).obj=e.obj:=by
      have h5:=h.channel e;unfold TS.chan at h5;rw [hc5] at h5;exact h5
     have hbd:=h.kR hc e.obj e.n;generalize hd:r.channel e.obj e.n=d at hch hbd;obtain ⟨hcd,hdo⟩:=hch;refine ⟨rfl,?_⟩;dsimp only;unfold RSt.counted
     rcases hgp.inv with ⟨rfl,rfl,hk,g0⟩ | ⟨rfl,rfl,hk,g0⟩ | ⟨rfl,rfl,hk,g0⟩ | ⟨rfl,rfl,hk,g0⟩ | ⟨rfl,rfl,hk,g0,g1⟩
     ·have hek:e.kind=16:=by rw [f1,hk];rfl
      have hgn:t.grp.next e={ t.grp with kinds:=[],snd:=e.g }:=by unfold Grp.next jk;rw [if_pos (by simp [hek]),hk];rfl
      rw [if_neg (by omega),TS.wU hc5 (by omega) (by omega),hgn];exact Rel.keep h [] _ (.none _ _) (fun h=>absurd rfl h) (by rw [hk];rfl)
     ·have hek:e.kind=18:=by rw [f1,hk];rfl
      have hgn:t.grp.next e={ t.grp with kinds:=[],rcv:=e.g }:=by unfold Grp.next jk;rw [if_neg (by simp [hek]),hk];rfl
      rw [if_neg (by omega),TS.wU hc5 (by omega) (by omega),hgn];exact Rel.keep h [] _ (.none _ _) (fun h=>absurd rfl h) (by rw [hk];rfl)
     ·have hek:e.kind=17:=by rw [f1,hk];rfl
      have hgn:t.grp.next e={ t.grp with kinds:=[18,16],rcv:=e.g }:=by unfold Grp.next jk;rw [if_neg (by simp [hek]),hk];rfl
      have hb:=hbal _ _ hc4;rw [if_pos rfl,hk] at hb;rw [if_pos (.inr hek),hgn];have hb':c.recv≤c.sent+(-1):=hb
      have:=Rel.put h { d with recv:=d.recv+1 } (by dsimp only;omega) (by dsimp only;omega) [⟨18,e.g,0⟩,⟨16,t.grp.snd,0⟩] r.obj r.k r.n { t.grp with kinds:=[18,16],rcv:=e.g } (.both _ _ g0 hv)
       (fun _=>⟨h1,h2,h3,by show r.obj=d.obj;rw [hdo,hob]⟩) (by rw [←hcd] at hb';show d.recv+1≤d.sent+0;unfold RCh.conv at hb';dsimp only at hb';omega)
       (fun x y hx hy=>by have h6:=hbal x y hy;rw [if_neg (fun h7=>hx (by show x=d.obj;rw [h7,hdo,hob]))] at h6;omega)
      have hd2:RSt.channel { r with next:=List.map ((⟨17, -1,t.grp.snd⟩:RWt).known e.g) [⟨18, -1,0⟩,⟨16,t.grp.snd,0⟩] } e.obj e.n=d:=hd
      have hnx2:List.map ((⟨17, -1,t.grp.snd⟩:RWt).known e.g) [⟨18, -1,0⟩,⟨16,t.grp.snd,0⟩]=[⟨18,e.g,0⟩,⟨16,t.grp.snd,0⟩]:=by
       simp only [List.map_cons,List.map_nil,RWt.known];rw [if_pos (by decide),if_neg (fun h=>by omega)]
      have ht:t.count e={ t with chans:=upd t.chans d.obj ({ d with recv:=d.recv+1 }:RCh).conv }:=by
       unfold TS.count Ch.count;rw [hc5,hek,hdo,Option.getD_some,if_neg (by decide),if_pos rfl,←hcd];rfl
      rw [hd2,hnx2,ht];unfold RCh.count;rw [if_neg (by omega),if_pos hek];exact this
     ·have hek:e.kind=15:=by rw [f1,hk];rfl
      have hgn:t.grp.next e={ t.grp with kinds:=[18,16],snd:=e.g }:=by unfold Grp.next jk;rw [if_pos (by simp [hek]),hk];rfl
      have hb:=hbal _ _ hc4;rw [if_pos rfl,hk] at hb;rw [if_pos (.inl hek),hgn];have hb':c.recv≤c.sent+1:=hb
      have:=Rel.put h { d with sent:=d.sent+1 } (by dsimp only;omega) (by dsimp only;omega) [⟨18,t.grp.rcv,0⟩,⟨16,e.g,0⟩] r.obj r.k r.n { t.grp with kinds:=[18,16],snd:=e.g } (.both _ _ hv g0)
       (fun _=>⟨h1,h2,h3,by show r.obj=d.obj;rw [hdo,hob]⟩) (by rw [←hcd] at hb';show d.recv≤d.sent+1+0;unfold RCh.conv at hb';dsimp only at hb';omega)
       (fun x y hx hy=>by have h6:=hbal x y hy;rw [if_neg (fun h7=>hx (by show x=d.obj;rw [h7,hdo,hob]))] at h6;omega)
      have hd2:RSt.channel { r with next:=List.map ((⟨15, -1,t.grp.rcv⟩:RWt).known e.g) [⟨18,t.grp.rcv,0⟩,⟨16, -1,0⟩] } e.obj e.n=d:=hd
      have hnx2:List.map ((⟨15, -1,t.grp.rcv⟩:RWt).known e.g) [⟨18,t.grp.rcv,0⟩,⟨16, -1,0⟩]=[⟨18,t.grp.rcv,0⟩,⟨16,e.g,0⟩]:=by
       simp only [List.map_cons,List.map_nil,RWt.known];rw [if_neg (fun h=>by omega),if_pos (by decide)]
      have ht:t.count e={ t with chans:=upd t.chans d.obj ({ d with sent:=d.sent+1 }:RCh).conv }:=by
       unfold TS.count Ch.count;rw [hc5,hek,hdo,Option.getD_some,if_pos rfl,←hcd];rfl
      rw [hd2,hnx2,ht];unfold RCh.count;rw [if_pos hek];exact this
     ·have hek:e.kind=18:=by rw [f1,hk];rfl
      have hgn:t.grp.next e={ t.grp with kinds:=[16],rcv:=e.g }:=by unfold Grp.next jk;rw [if_neg (by simp [hek]),hk];rfl
      rw [if_neg (by omega),TS.wU hc5 (by omega) (by omega),hgn]
      have hnx2:List.map ((⟨18,t.grp.rcv,0⟩:RWt).known e.g) [⟨16,t.grp.snd,0⟩]=[⟨16,t.grp.snd,0⟩]:=by
       simp only [List.map_cons,List.map_nil,RWt.known];rw [if_neg (fun h=>by omega)]
      rw [hnx2]
      exact Rel.keep h [⟨16,t.grp.snd,0⟩] { t.grp with kinds:=[16],rcv:=e.g } (.snd _ _ g0) (fun _=>⟨h1,h2,h3,h4⟩) (by rw [hk];rfl)
theorem oO (r:RSt) (c:RCh):(r.bN c).count=r.count:=rfl
theorem Rel.transfer {r:RSt} {t:TS} (h:Rel r t) (e:Ev) (hv:0≤e.g) (hc:0≤r.count) (hgor:1≤r.gor) (hn:r.next=[]):Ans (r.fA e) (t.operate e):=by
 obtain ⟨hm,ho⟩:=h.channel e;have hb:=h.kR hc e.obj e.n;have hgr:=h.gr
 have hbal:∀ x c,t.chans x=some c→c.recv≤c.sent:=fun x c hx=>by
  have h1:=h.bal x c hx;have h2:=h.gp.rJ hn;rw [h2] at h1;split at h1 <;> omega
 have hbc:(r.channel e.obj e.n).recv≤(r.channel e.obj e.n).sent:=by
  have h1:=hm;unfold TS.chan at h1
  cases hc:t.chans e.obj with
  | none=>rw [hc] at h1;have h2:=congrArg Ch.recv h1;have h3:=congrArg Ch.sent h1;dsimp only [RCh.conv,ch0] at h2 h3;omega
  | some c=>rw [hc] at h1;have h4:=hbal _ _ hc;have h2:=congrArg Ch.recv h1;have h3:=congrArg Ch.sent h1;dsimp only [RCh.conv] at h2 h3;omega
 have hbegin:∀ (nx:List RWt),RSt.begin r e nx=if e.kind=15∨e.kind=17 then ({ r.bN ((r.channel e.obj e.n).count e.kind) with next:=nx,obj:=e.obj,k:=e.k,n:=e.n }:RSt) else { r with next:=nx,obj:=e.obj,k:=e.k,n:=e.n }:=fun nx=>by
  unfold RSt.begin RSt.counted;split <;> rfl
 unfold RSt.fA TS.operate;simp only [hbegin];rw [←hm];clear hm hbegin;generalize r.channel e.obj e.n=d at ho hb hbc ⊢;dsimp only [RCh.conv,Ch.missing,TS.start]
 have put:∀ (c:RCh) (nx:List RWt) (o:Grp),c.obj=d.obj→(0≤c.sent∧c.sent≤r.count+1)→(0≤c.recv∧c.recv≤r.count+1)→qb nx o.kinds o.snd o.rcv→(o.obj=e.obj∧o.k=e.k∧o.n=e.n)→c.recv≤c.sent+asks o.kinds →
  Rel { r.bN c with next:=nx,obj:=e.obj,k:=e.k,n:=e.n,count:=r.count+1 } { t with chans:=upd t.chans e.obj c.conv,grp:=o,events:=t.events+1 }:=fun c nx o h1 h2 h3 h4 h5 h6=>by
  have:=Rel.put h c h2 h3 nx e.obj e.k e.n o h4 (fun _=>⟨h5.1,h5.2.1,h5.2.2,by rw [h1,ho]⟩) h6 (fun x y _ hy=>hbal x y hy);rw [show c.obj=e.obj by rw [h1,ho]] at this;exact this
 by_cases q1:d.n=e.n
 case neg=>simp only [q1,ne_eq,not_false_eq_true,if_true,if_false,Int.reduceEq,decide_eq_false_iff_not];rfl
 simp only [q1,ne_eq,not_true_eq_false,if_true,if_false,Int.reduceEq,decide_eq_false_iff_not]
 by_cases k15:e.kind=15
 ·simp only [k15,if_true,if_false,Int.reduceEq,or_false,RCh.count,Ch.count]
  by_cases q2:e.k=d.sent
  case neg=>simp only [q2,not_false_eq_true,if_true,or_true];rfl
  simp only [q2,not_true_eq_false,if_false,or_false]
  cases q3:d.closed with
  | true=>simp only [if_true];rfl
  | false =>
    simp only [if_false,Bool.false_eq_true]
    by_cases q4:d.sent - d.recv < e.n
    ·rw [if_pos ⟨by omega,q4⟩,if_pos q4];refine ⟨rfl,?_⟩
     have:=put { d with sent:=d.sent+1 } [⟨16,e.g,0⟩] ⟨[16],e.obj,e.k,e.n,e.g, -1⟩ rfl (by dsimp only;omega) (by dsimp only;omega) (.snd _ _ hv) ⟨rfl,rfl,rfl⟩ (by show d.recv≤d.sent+1+0;omega)
     simpa only [RCh.conv,oO,q1,q2,q3] using this
    ·rw [if_neg (fun h=>q4 h.2),if_neg q4]
     by_cases q5:e.n=0∧¬ t.gor=1
     ·rw [if_pos ⟨q5.1,by omega⟩,if_pos q5];refine ⟨rfl,?_⟩
      have:=put { d with sent:=d.sent+1 } [⟨17, -1,e.g⟩,⟨18, -1,0⟩,⟨16,e.g,0⟩] ⟨[17,18,16],e.obj,e.k,e.n,e.g, -1⟩ rfl (by dsimp only;omega) (by dsimp only;omega) (.wait _ hv) ⟨rfl,rfl,rfl⟩ (by show d.recv≤d.sent+1+(-1);omega)
      simpa only [RCh.conv,oO,q1,q2,q3] using this
     ·rw [if_neg (fun h=>q5 ⟨h.1,by omega⟩),if_neg q5];rfl
 simp only [k15,if_false,false_or]
 by_cases k17:e.kind=17
 ·simp only [k17,if_true,if_false,Int.reduceEq,RCh.count,Ch.count]
  by_cases q2:e.k=d.recv
  case neg=>simp only [q2,not_false_eq_true,if_true];rfl
  simp only [q2,not_true_eq_false,if_false]
  by_cases q4:d.recv < d.sent
  ·rw [if_pos q4,if_pos q4];refine ⟨rfl,?_⟩
   have:=put { d with recv:=d.recv+1 } [⟨18,e.g,0⟩] ⟨[18],e.obj,e.k,e.n, -1,e.g⟩ rfl (by dsimp only;omega) (by dsimp only;omega) (.rcv _ _ hv) ⟨rfl,rfl,rfl⟩ (by show d.recv+1≤d.sent+0;omega)
   simpa only [RCh.conv,oO,q1,q2] using this
  ·rw [if_neg q4,if_neg q4]
   by_cases q5:d.closed=false∧¬ t.gor=1
   ·rw [if_pos ⟨q5.1,by omega⟩,if_pos q5];refine ⟨rfl,?_⟩
    have:=put { d with recv:=d.recv+1 } [⟨15, -1,e.g⟩,⟨18,e.g,0⟩,⟨16, -1,0⟩] ⟨[15,18,16],e.obj,e.k,e.n, -1,e.g⟩ rfl (by dsimp only;omega) (by dsimp only;omega) (.ask _ hv) ⟨rfl,rfl,rfl⟩ (by show d.recv+1≤d.sent+1;omega)
    simpa only [RCh.conv,oO,q1,q2] using this
   ·rw [if_neg (fun h=>q5 ⟨h.1,by omega⟩),if_neg q5];rfl
 simp only [k17,if_false]
 by_cases k19:e.kind=19
 ·simp only [k19,if_true,if_false,Int.reduceEq]
  cases q3:d.closed with
  | true=>simp only [if_true];rfl
  | false =>
    simp only [if_false,Bool.false_eq_true];refine ⟨rfl,?_⟩
    have h1:=Rel.put h { d with closed:=true } (by dsimp only;omega) (by dsimp only;omega) r.next r.obj r.k r.n t.grp h.gp (fun h2=>absurd hn h2) (by rw [h.gp.rJ hn];dsimp only;omega) (fun x y _ hy=>hbal x y hy)
    simp only [RCh.conv,q1,ho] at h1;rw [←q1,ho];rw [←q1] at h1;exact h1
 simp only [k19,if_false]
 by_cases k20:e.kind=20
 ·simp only [k20,if_true]
  show Ans (r,d.closed && d.sent == d.recv) (if d.closed=true∧d.sent=d.recv then some t else none)
  by_cases q4:d.closed=true∧d.sent=d.recv
  ·rw [if_pos q4];refine ⟨?_,Rel.keep h r.next t.grp h.gp h.go rfl⟩;dsimp only;rw [q4.1,beq_iff_eq.2 q4.2];rfl
  ·rw [if_neg q4]
   show (d.closed && d.sent == d.recv)=false
   rw [Bool.eq_false_iff];intro h1;simp only [Bool.and_eq_true,beq_iff_eq] at h1;exact q4 h1
 simp only [k20,if_false];rfl
theorem Rel.step {r:RSt} {t:TS} (h:Rel r t) (hw:t.wf) (e:Ev):match t.add e with
 | some t'=>∃ r',r.qc e=(r',true)∧Rel r' t'
 | none=>r.qc e=(r,false):=by
 have had:r.admits e=t.admits e:=by unfold RSt.admits TS.admits;rw [h.ct,h.gr]
 unfold TS.add RSt.qc;rw [had]
 cases ha:t.admits e with
 | false=>simp
 | true =>
   have hv:e.valid=true:=by unfold TS.admits at ha;simp only [Bool.and_eq_true] at ha;exact ha.1.1
   have hg:=(Ev.wL hv).1;have hc:0≤r.count:=by rw [h.ct];exact hw.ev.1
   have hgr:1≤r.gor:=by rw [h.gr];exact hw.gr.1
   have hans:Ans (r.kY e) (t.part e):=by
    have hk:=h.gp.kinds
    by_cases hn:r.next=[]
    ·have h1:r.kY e=if dL e.kind=true then r.fA e else r.eY e:=by unfold RSt.kY;rw [hn];exact if_neg (Nat.lt_irrefl 0)
     have h2:t.part e=if dL e.kind=true then t.operate e else t.simple e:=by unfold TS.part TS.isOpen;rw [hk,hn];exact if_neg (by simp)
     rw [h1,h2]
     by_cases hch:dL e.kind=true
     ·rw [if_pos hch,if_pos hch];exact h.transfer e hg hc hgr hn
     ·rw [if_neg hch,if_neg hch];exact h.other hc e hn
    ·have hpos:0 < r.next.length:=List.length_pos_iff.2 hn;have h1:r.kY e=r.jB e:=by unfold RSt.kY;exact if_pos hpos
     have h2:t.part e=t.proceed e:=by unfold TS.part TS.isOpen;rw [hk,List.length_map];exact if_pos (decide_eq_true hpos)
     rw [h1,h2];exact h.group e hg hc hn
   rw [if_pos rfl];unfold Ans at hans
   cases hp:t.part e with
   | none =>
     rw [hp] at hans;rw [if_neg (by rw [hans];simp)]
     rfl
   | some t' =>
     rw [hp] at hans;rw [if_pos ⟨rfl,hans.1⟩];exact ⟨_,rfl,hans.2⟩
def TS.kok (t:TS):Prop:=t.isOpen=true→15≤t.grp.kinds.headD 0∧t.grp.kinds.headD 0≤18
theorem Rel.kok {r:RSt} {t:TS} (h:Rel r t):t.kok:=fun ho=>by
 have hg:=h.gp;unfold TS.isOpen at ho;generalize r.next=nx at hg;generalize t.grp.snd=sa at hg;generalize t.grp.rcv=sb at hg;generalize t.grp.kinds=ks at hg ho ⊢;cases hg <;> simp at ho ⊢
theorem iT {t u:TS} {e:Ev} (h:t.add e=some u):e.valid=true∧∃ v,{ v with events:=v.events+1 }=u∧((t.isOpen=true∧t.proceed e=some v)∨(t.isOpen=false∧dL e.kind=true∧t.operate e=some v)∨(t.isOpen=false∧dL e.kind=false∧t.simple e=some v)):=by
 unfold TS.add at h;split at h
 ·rename_i ha;simp only [Option.map_eq_some_iff] at h;obtain ⟨v,hv,rfl⟩:=h;unfold TS.admits at ha;simp only [Bool.and_eq_true] at ha;refine ⟨ha.1.1,v,rfl,?_⟩;unfold TS.part at hv;split at hv
  ·rename_i ho;exact .inl ⟨ho,hv⟩
  ·rename_i ho;have ho:t.isOpen=false:=by simpa using ho
   split at hv
   ·rename_i hc;exact .inr (.inl ⟨ho,hc,hv⟩)
   ·rename_i hc;exact .inr (.inr ⟨ho,by simpa using hc,hv⟩)
 ·cases h
theorem qw {t v:TS} {e:Ev} (h:t.proceed e=some v):t.grp.fits e=true∧v={ t.count e with grp:=t.grp.next e }:=by
 unfold TS.proceed at h;split at h
 ·rename_i hf;cases h;exact ⟨hf,rfl⟩
 ·cases h
def TS.locked (t:TS) (x:Int×Int):Bool:=((t.mus x).getD mu0).locked
def TS.w15 (t:TS) (x:Int):Int:=if x=t.grp.obj∧t.grp.kinds.headD 0=15 then 1 else 0
def TS.w17 (t:TS) (x:Int):Int:=if x=t.grp.obj∧t.grp.kinds.headD 0=17 then 1 else 0
structure oU (t:TS):Prop where
 a:∀ x c,t.chans x=some c→c.sent+t.w15 x≤c.recv+c.cap+t.w17 x
 b:∀ x c,t.chans x=some c→c.recv+t.w17 x≤c.sent+t.w15 x
 op:t.isOpen=true→∃ c,t.chans t.grp.obj=some c∧c.cap=t.grp.n
theorem oU.new:oU TS.new:=⟨fun _ _ h=>(by cases h),fun _ _ h=>(by cases h),fun h=>(by cases h)⟩
def TS.dG (t:TS) (x:Int):Int:=((t.chans x).getD ch0).sent
def TS.dD (t:TS) (x:Int):Int:=((t.chans x).getD ch0).recv
structure yg (t u:TS) (e:Ev):Prop where
 s:∀ x,u.dG x=t.dG x+if e.obj=x∧e.kind=15 then 1 else 0
 r:∀ x,u.dD x=t.dD x+if e.obj=x∧e.kind=17 then 1 else 0
theorem fM (c:Ch) (k:Int):(c.count k).sent=c.sent+if k=15 then 1 else 0:=by
 unfold Ch.count;split
 ·rfl
 ·split <;> simp
theorem fK (c:Ch) (k:Int):(c.count k).recv=c.recv+if k=17 then 1 else 0:=by
 unfold Ch.count;split
 ·rename_i h;rw [if_neg (by omega)];simp
 ·split
  ·rfl
  ·simp
theorem jq (c:Ch) (k:Int):(c.count k).cap=c.cap:=by
 unfold Ch.count;split
 ·rfl
 ·split <;> rfl
theorem GD {t:TS} {e:Ev} {c:Ch} (hs:c.sent=t.dG e.obj) (hr:c.recv=t.dD e.obj) {v:TS} (hv:v.chans=upd t.chans e.obj (c.count e.kind)):yg t v e:=by
 refine ⟨fun x=>?_,fun x=>?_⟩
 ·unfold TS.dG;rw [hv]
  by_cases hx:x=e.obj
  ·subst hx;rw [upd_same];simp only [Option.getD_some];rw [fM,hs];unfold TS.dG;simp
  ·rw [fJ _ _ hx,if_neg (fun h=>hx h.1.symm)];simp
 ·unfold TS.dD;rw [hv]
  by_cases hx:x=e.obj
  ·subst hx;rw [upd_same];simp only [Option.getD_some];rw [fK,hr];unfold TS.dD;simp
  ·rw [fJ _ _ hx,if_neg (fun h=>hx h.1.symm)];simp
theorem wR {t v:TS} {e:Ev} (h5:e.kind≠15) (h7:e.kind≠17) (hs:∀ x,v.dG x=t.dG x) (hr:∀ x,v.dD x=t.dD x):yg t v e :=
 ⟨fun x=>by rw [hs,if_neg (fun h=>h5 h.2)];simp,fun x=>by rw [hr,if_neg (fun h=>h7 h.2)];simp⟩
theorem oH {t:TS} (e:Ev):(t.chan e).sent=t.dG e.obj∧(t.chan e).recv=t.dD e.obj:=by
 unfold TS.chan TS.dG TS.dD
 cases t.chans e.obj with
 | none=>exact ⟨rfl,rfl⟩
 | some c=>exact ⟨rfl,rfl⟩
theorem nY {r:RSt} {t:TS} (h:Rel r t) (ho:t.isOpen=false) (x:Int):t.w15 x=0∧t.w17 x=0:=by
 have hk:t.grp.kinds=[]:=by
  unfold TS.isOpen at ho
  cases hk:t.grp.kinds with
  | nil=>rfl
  | cons a l=>rw [hk] at ho;simp at ho
 unfold TS.w15 TS.w17;rw [hk];exact ⟨if_neg (fun h=>by simp at h),if_neg (fun h=>by simp at h)⟩
theorem CO {r:RSt} {t:TS} (h:Rel r t) (hb:oU t) (ho:t.isOpen=false) {e:Ev} (hn:0≤e.n):(t.chan e).sent≤(t.chan e).recv+(t.chan e).cap∧(t.chan e).recv≤(t.chan e).sent:=by
 unfold TS.chan
 cases hc:t.chans e.obj with
 | none=>exact ⟨by show (0:Int)≤0+e.n;omega,Int.le_refl _⟩
 | some c =>
   have h1:=hb.a _ _ hc;have h2:=hb.b _ _ hc;obtain ⟨w1,w2⟩:=nY h ho e.obj;rw [w1,w2] at h1 h2;dsimp only;exact ⟨by omega,by omega⟩
theorem Gu {r:RSt} {t:TS} (h:Rel r t) (hb:oU t) (ho:t.isOpen=false) {e:Ev} {c:Ch} {v:TS} (hv:v.chans=upd t.chans e.obj c) (hw:∀ x,x≠e.obj→v.w15 x=0∧v.w17 x=0)
 (ha:c.sent+v.w15 e.obj≤c.recv+c.cap+v.w17 e.obj) (hbb:c.recv+v.w17 e.obj≤c.sent+v.w15 e.obj) (hop:v.isOpen=true→v.grp.obj=e.obj∧c.cap=v.grp.n):oU v:=by
 have oth:∀ x d,x≠e.obj→v.chans x=some d→d.sent≤d.recv+d.cap∧d.recv≤d.sent:=fun x d hx hd=>by
  rw [hv,fJ _ _ hx] at hd;have h1:=hb.a _ _ hd;have h2:=hb.b _ _ hd;obtain ⟨w1,w2⟩:=nY h ho x;rw [w1,w2] at h1 h2;exact ⟨by omega,by omega⟩
 refine ⟨fun x d hd=>?_,fun x d hd=>?_,fun ho'=>?_⟩
 ·by_cases hx:x=e.obj
  ·subst hx;rw [hv,upd_same] at hd;cases hd;exact ha
  ·obtain ⟨w1,w2⟩:=hw x hx;have:=oth x d hx hd;omega
 ·by_cases hx:x=e.obj
  ·subst hx;rw [hv,upd_same] at hd;cases hd;exact hbb
  ·obtain ⟨w1,w2⟩:=hw x hx;have:=oth x d hx hd;omega
 ·obtain ⟨h1,h2⟩:=hop ho';exact ⟨c,by rw [h1,hv,upd_same],h2⟩
theorem tQ {r:RSt} {t:TS} (h:Rel r t) (hb:oU t) (ho:t.isOpen=false) {e:Ev} (hn:0≤e.n) {v:TS} (hv:t.operate e=some v):oU v∧yg t v e∧∃ c,v.chans e.obj=some c∧c.cap=e.n:=by
 have hcb:=CO h hb ho hn;obtain ⟨hs,hr⟩:=oH (t:=t) e;unfold TS.operate at hv;dsimp only at hv;split at hv
 ·cases hv
 rename_i hcap;have hcap:(t.chan e).cap=e.n:=by simpa using hcap
 have hstart:∀ ks a b,(ks.headD 0=15∨ks.headD 0=17∨(ks.headD 0≠15∧ks.headD 0≠17))→v=t.start e (t.chan e) ks a b →
  ((t.chan e).count e.kind).sent+(if ks.headD 0=15 then 1 else 0)≤((t.chan e).count e.kind).recv+(t.chan e).cap+(if ks.headD 0=17 then 1 else 0) →
  ((t.chan e).count e.kind).recv+(if ks.headD 0=17 then 1 else 0)≤((t.chan e).count e.kind).sent+(if ks.headD 0=15 then 1 else 0)→oU v∧yg t v e∧∃ c,v.chans e.obj=some c∧c.cap=e.n:=fun ks a b _ hve h1 h2=>by
  subst hve
  have w1:(t.start e (t.chan e) ks a b).w15 e.obj=if ks.headD 0=15 then 1 else 0:=by
   show (if e.obj=e.obj∧ks.headD 0=15 then (1:Int) else 0)=_
   simp
  have w2:(t.start e (t.chan e) ks a b).w17 e.obj=if ks.headD 0=17 then 1 else 0:=by
   show (if e.obj=e.obj∧ks.headD 0=17 then (1:Int) else 0)=_
   simp
  refine ⟨Gu (e:=e) h hb ho rfl (fun x hx=>⟨if_neg (fun hh=>hx hh.1),if_neg (fun hh=>hx hh.1)⟩) (by rw [w1,w2,jq];exact h1) (by rw [w1,w2];exact h2) (fun _=>⟨rfl,by rw [jq];exact hcap⟩),GD hs hr rfl,_,upd_same _ _ _,by rw [jq];exact hcap⟩
 split at hv
 ·rename_i k19;split at hv
  ·cases hv
  ·cases hv
   refine ⟨Gu (e:=e) (c:={ t.chan e with closed:=true }) h hb ho rfl (fun x _=>nY h ho x) ?_ ?_ (fun ho'=>absurd (show t.isOpen=true from ho') (by rw [ho];decide)),wR (by omega) (by omega) (fun x=>?_) (fun x=>?_),_,upd_same _ _ _,hcap⟩
   ·have:=nY h ho e.obj
    show (t.chan e).sent+t.w15 e.obj≤(t.chan e).recv+(t.chan e).cap+t.w17 e.obj
    omega
   ·have:=nY h ho e.obj
    show (t.chan e).recv+t.w17 e.obj≤(t.chan e).sent+t.w15 e.obj
    omega
   ·unfold TS.dG;dsimp only
    by_cases hx:x=e.obj
    ·subst hx;rw [upd_same];exact hs
    ·rw [fJ _ _ hx]
   ·unfold TS.dD;dsimp only
    by_cases hx:x=e.obj
    ·subst hx;rw [upd_same];exact hr
    ·rw [fJ _ _ hx]
 ·split at hv
  ·rename_i k20;split at hv
   ·rename_i hcl;cases hv;refine ⟨hb,wR (by omega) (by omega) (fun _=>rfl) (fun _=>rfl),?_⟩
    cases hc:t.chans e.obj with
    | none=>unfold TS.chan at hcl;rw [hc] at hcl;cases hcl.1
    | some c=>exact ⟨c,rfl,by unfold TS.chan at hcap;rw [hc] at hcap;exact hcap⟩
   ·cases hv
  ·split at hv
   ·rename_i k15;split at hv
    ·cases hv
    ·simp only [Option.map_eq_some_iff] at hv;obtain ⟨ks,hm,rfl⟩:=hv;unfold Ch.missing at hm;rw [if_pos rfl] at hm;split at hm
     ·rename_i hlt;cases hm;exact hstart _ _ _ (by decide) rfl (by rw [fM,fK];simp [k15];omega) (by rw [fM,fK];simp [k15];omega)
     ·split at hm
      ·rename_i hc0;cases hm;exact hstart _ _ _ (by decide) rfl (by rw [fM,fK];simp [k15];omega) (by rw [fM,fK];simp [k15];omega)
      ·cases hm
   ·split at hv
    ·rename_i k17;split at hv
     ·cases hv
     ·simp only [Option.map_eq_some_iff] at hv;obtain ⟨ks,hm,rfl⟩:=hv;unfold Ch.missing at hm;rw [if_neg (by decide)] at hm;split at hm
      ·rename_i hlt;cases hm;exact hstart _ _ _ (by decide) rfl (by rw [fM,fK];simp [k17];omega) (by rw [fM,fK];simp [k17];omega)
      ·split at hm
       ·cases hm;exact hstart _ _ _ (by decide) rfl (by rw [fM,fK];simp [k17];omega) (by rw [fM,fK];simp [k17];omega)
       ·cases hm
    ·cases hv
theorem DW {t:TS} (hb:oU t) {e:Ev} (hk:dL e.kind=false) {v:TS} (hv:t.simple e=some v):oU v∧yg t v e:=by
 have hk':e.kind≠15∧e.kind≠17:=by
  unfold dL at hk;simp only [decide_eq_false_iff_not] at hk;omega
 have h:v.chans=t.chans∧v.grp=t.grp:=by
  unfold TS.simple at hv;dsimp only at hv
  repeat' split at hv
  all_goals first
   | (cases hv;done)
   | (cases hv;exact ⟨rfl,rfl⟩)
 obtain ⟨h1,h2⟩:=h;have w15:∀ x,v.w15 x=t.w15 x:=fun x=>by unfold TS.w15;rw [h2]
 have w17:∀ x,v.w17 x=t.w17 x:=fun x=>by unfold TS.w17;rw [h2]
 refine ⟨⟨fun x c hc=>?_,fun x c hc=>?_,fun ho=>?_⟩,wR hk'.1 hk'.2 (fun x=>by unfold TS.dG;rw [h1]) (fun x=>by unfold TS.dD;rw [h1])⟩
 ·rw [w15,w17];rw [h1] at hc;exact hb.a x c hc
 ·rw [w15,w17];rw [h1] at hc;exact hb.b x c hc
 ·rw [h1,h2];exact hb.op (by unfold TS.isOpen at ho ⊢;rw [h2] at ho;exact ho)
theorem tV {r:RSt} {t:TS} (h:Rel r t) (hb:oU t) (ho:t.isOpen=true) {e:Ev} {v:TS} (hv:t.proceed e=some v):oU v∧yg t v e∧∃ c,v.chans e.obj=some c∧c.cap=e.n:=by
 obtain ⟨hf,rfl⟩:=qw hv;unfold Grp.fits at hf;simp only [Bool.and_eq_true,decide_eq_true_eq] at hf;obtain ⟨⟨hk,hobj,hkk,hn⟩,_⟩:=hf;obtain ⟨c,hc,hcap⟩:=hb.op ho;have hgn:(t.grp.next e).obj=t.grp.obj∧(t.grp.next e).n=t.grp.n∧(t.grp.next e).kinds=t.grp.kinds.tail:=by unfold Grp.next;split <;> exact ⟨rfl,rfl,rfl⟩
 obtain ⟨g1,g2,g3⟩:=hgn;rw [←hobj] at hc;have hch:(t.count e).chans=upd t.chans e.obj (c.count e.kind):=by unfold TS.count;dsimp only;rw [hc];rfl
 have hh:(t.grp.kinds.headD 0=15∨t.grp.kinds.headD 0=16∨t.grp.kinds.headD 0=17∨t.grp.kinds.headD 0=18)∧t.grp.kinds.tail.headD 0≠15∧t.grp.kinds.tail.headD 0≠17:=by
  have hg:=h.gp;unfold TS.isOpen at ho;generalize r.next=nx at hg;generalize t.grp.snd=sa at hg;generalize t.grp.rcv=sb at hg;generalize t.grp.kinds=ks at hg ho ⊢;cases hg <;> simp at ho ⊢
 have hek:e.kind=15∨e.kind=16∨e.kind=17∨e.kind=18:=by rw [hk];exact hh.1
 have hA:=hb.a _ _ hc;have hB:=hb.b _ _ hc;have e15:t.w15 e.obj=if e.kind=15 then 1 else 0:=by unfold TS.w15;rw [hk];simp [hobj]
 have e17:t.w17 e.obj=if e.kind=17 then 1 else 0:=by unfold TS.w17;rw [hk];simp [hobj]
 rw [e15,e17] at hA hB
 have n15:∀ x,TS.w15 { t.count e with grp:=t.grp.next e } x=0:=fun x=>by unfold TS.w15;dsimp only;rw [g3];exact if_neg (fun hx=>hh.2.1 hx.2)
 have n17:∀ x,TS.w17 { t.count e with grp:=t.grp.next e } x=0:=fun x=>by unfold TS.w17;dsimp only;rw [g3];exact if_neg (fun hx=>hh.2.2 hx.2)
 have o15:∀ x,x≠e.obj→t.w15 x=0:=fun x hx=>if_neg (fun hh=>hx (by rw [hobj];exact hh.1))
 have o17:∀ x,x≠e.obj→t.w17 x=0:=fun x hx=>if_neg (fun hh=>hx (by rw [hobj];exact hh.1))
 refine ⟨⟨fun x d hd=>?_,fun x d hd=>?_,fun _=>?_⟩,GD (c:=c) (by unfold TS.dG;rw [hc];rfl) (by unfold TS.dD;rw [hc];rfl) hch,c.count e.kind,by show (t.count e).chans e.obj=_;rw [hch,upd_same],by rw [jq,hcap,hn]⟩
 ·rw [n15,n17];have hd:(t.count e).chans x=some d:=hd
  by_cases hx:x=e.obj
  ·subst hx;rw [hch,upd_same] at hd;cases hd;rw [fM,fK,jq]
   rcases hek with q | q | q | q <;> rw [q] at hA hB ⊢ <;> simp at hA hB ⊢ <;> omega
  ·rw [hch,fJ _ _ hx] at hd;have:=hb.a _ _ hd;rw [o15 x hx,o17 x hx] at this;exact this
 ·rw [n15,n17];have hd:(t.count e).chans x=some d:=hd
  by_cases hx:x=e.obj
  ·subst hx;rw [hch,upd_same] at hd;cases hd;rw [fM,fK]
   rcases hek with q | q | q | q <;> rw [q] at hA hB ⊢ <;> simp at hA hB ⊢ <;> omega
  ·rw [hch,fJ _ _ hx] at hd;have:=hb.b _ _ hd;rw [o15 x hx,o17 x hx] at this;exact this
 ·refine ⟨c.count e.kind,?_,?_⟩
  ·show (t.count e).chans (t.grp.next e).obj=_
   rw [g1,←hobj,hch,upd_same]
  ·rw [jq,hcap];show _=(t.grp.next e).n;rw [g2]
theorem zQ {r:RSt} {t u:TS} (h:Rel r t) (hb:oU t) {e:Ev} (ha:t.add e=some u):oU u∧yg t u e∧(dL e.kind=true→∃ c,u.chans e.obj=some c∧c.cap=e.n):=by
 obtain ⟨hv,v,rfl,hc⟩:=iT ha;have hn:=(Ev.nH hv).1
 have lift:oU v→oU { v with events:=v.events+1 }:=fun h=>⟨h.a,h.b,h.op⟩
 have liftc:yg t v e→yg t { v with events:=v.events+1 } e:=fun h=>⟨h.s,h.r⟩
 rcases hc with ⟨ho,hc⟩ | ⟨ho,hk,hc⟩ | ⟨ho,hk,hc⟩
 ·obtain ⟨h1,h2,h3⟩:=tV h hb ho hc;exact ⟨lift h1,liftc h2,fun _=>h3⟩
 ·obtain ⟨h1,h2,h3⟩:=tQ h hb ho hn hc;exact ⟨lift h1,liftc h2,fun _=>h3⟩
 ·obtain ⟨h1,h2⟩:=DW hb hk hc;exact ⟨lift h1,liftc h2,fun h=>by rw [hk] at h;cases h⟩
theorem getD_join {a b:Ck} (ha:a.length=8) (hb:b.length=8) {k:Nat} (hk:k < 8):(aQ a b).getD k 0=if b.getD k 0 > a.getD k 0 then b.getD k 0 else a.getD k 0:=by
 obtain ⟨x,hx⟩:∃ x,a[k]? = some x:=⟨_,List.getElem?_eq_getElem (by omega)⟩
 obtain ⟨y,hy⟩:∃ y,b[k]? = some y:=⟨_,List.getElem?_eq_getElem (by omega)⟩
 simp only [List.getD_eq_getElem?_getD,aQ,List.getElem?_zipWith,hx,hy,Option.getD_some]
def SSt.dg (s:SSt) (k:Nat):Int:=(s.cur.getD k ckZ).getD k 0
structure Cnt (s:SSt):Prop where
 cc:∀ c,c ∈ s.cur→∀ k,k < 8→c.getD k 0≤s.dg k
 bc:∀ c,c ∈ s.birth→∀ k,k < 8→c.getD k 0≤s.dg k
 oc:∀ c,c ∈ s.out→∀ k,k < 8→c.getD k 0≤s.dg k
theorem jF (k:Nat):(ckZ.getD k 0)=0:=by
 unfold ckZ;rw [List.getD_eq_getElem?_getD,List.getElem?_replicate];split <;> rfl
theorem COk.get {n:Int} {c:Ck} (h:COk n c) (k:Nat):0≤c.getD k 0:=by
 rw [List.getD_eq_getElem?_getD]
 cases hk:c[k]? with
 | none=>exact Int.le_refl _
 | some x=>exact (h.2 x (List.mem_of_getElem? hk)).1
def xO (l:List Ev) (s:SSt) (e:Ev) (j:Nat):Ck :=
 if vC e (jf l s.out e (bT s e, -1) j).2=true then aQ (jf l s.out e (bT s e, -1) j).1 (s.out.getD (jf l s.out e (bT s e, -1) j).2.toNat ckZ) else (jf l s.out e (bT s e, -1) j).1
theorem mY (l:List Ev) (s:SSt) (e:Ev) (j:Nat):dU l s e j=(xO l s e j).set e.g.toNat ((xO l s e j).getD e.g.toNat 0+1):=rfl
theorem jZ {l:List Ck} {i:Nat} (h:i < l.length):l.getD i ckZ ∈ l:=by
 rw [List.getD_eq_getElem?_getD,List.getElem?_eq_getElem h];exact List.getElem_mem h
theorem getD_none {l:List Ck} {i:Nat} (h:l.length≤i):l.getD i ckZ=ckZ:=by rw [List.getD_eq_getElem?_getD,List.getElem?_eq_none h];rfl
section
variable {l:List Ev} {s:SSt} {e:Ev} {j:Nat}
theorem Cnt.start (h:Cnt s) (hok:SOk s j) (hg:e.g.toNat < 8) {k:Nat} (hk:k < 8):(s.cur.getD e.g.toNat ckZ).getD k 0≤(bT s e).getD k 0∧(bT s e).getD k 0≤s.dg k:=by
 have hm:=jZ (l:=s.cur) (i:=e.g.toNat) (by rw [hok.cl];exact hg)
 have hb:=jZ (l:=s.birth) (i:=e.g.toNat) (by rw [hok.bl];exact hg)
 unfold bT;split
 ·rename_i hz;rw [hz,jF];exact ⟨(hok.bc _ hb).get k,h.bc _ hb k hk⟩
 ·exact ⟨Int.le_refl _,h.cc _ hm k hk⟩
theorem OI (h:Cnt s) (i:Nat) (hd:∀ k,k < 8→0≤s.dg k) {k:Nat} (hk:k < 8):(s.out.getD i ckZ).getD k 0≤s.dg k:=by
 rcases Nat.lt_or_ge i s.out.length with hi | hi
 ·exact h.oc _ (jZ hi) k hk
 ·rw [getD_none hi,jF];exact hd k hk
theorem vS (hok:SOk s j) (i:Nat):(s.out.getD i ckZ).length=8:=by
 rcases Nat.lt_or_ge i s.out.length with hi | hi
 ·exact (hok.oc _ (jZ hi)).1
 ·rw [List.getD_eq_getElem?_getD,List.getElem?_eq_none hi];rfl
theorem sS (hok:SOk s j) (k:Nat):0≤s.dg k:=by
 unfold SSt.dg
 rcases Nat.lt_or_ge k s.cur.length with hi | hi
 ·exact (hok.cc _ (jZ hi)).get k
 ·rw [getD_none hi,jF];exact Int.le_refl _
theorem Cnt.jf (h:Cnt s) (hok:SOk s j) (hg:e.g.toNat < 8) (i:Nat) {k:Nat} (hk:k < 8):(bT s e).getD k 0≤(Go.Proofs.Ytffcpijeebagfaa.jf l s.out e (bT s e, -1) i).1.getD k 0∧(Go.Proofs.Ytffcpijeebagfaa.jf l s.out e (bT s e, -1) i).1.getD k 0≤s.dg k:=by
 induction i with
 | zero=>exact ⟨Int.le_refl _,(h.start hok hg hk).2⟩
 | succ i ih =>
   simp only [Go.Proofs.Ytffcpijeebagfaa.jf,xK];split
   ·rw [getD_join (hok.jf l e i).1.1 (vS hok i) hk];have:=OI h i (fun k _=>sS hok k) hk;split <;> omega
   ·exact ih
theorem Cnt.pre (h:Cnt s) (hok:SOk s j) (hg:e.g.toNat < 8) {k:Nat} (hk:k < 8):(bT s e).getD k 0≤(xO l s e j).getD k 0∧(xO l s e j).getD k 0≤s.dg k:=by
 have h1:=h.jf (l:=l) hok hg j hk;unfold xO;split
 ·rw [getD_join (hok.jf l e j).1.1 (vS hok _) hk];have:=OI h (Go.Proofs.Ytffcpijeebagfaa.jf l s.out e (bT s e, -1) j).2.toNat (fun k _=>sS hok k) hk;split <;> omega
 ·exact h1
theorem rM (hok:SOk s j):(xO l s e j).length=8:=(hok.pre l e).1
theorem Cnt.own (h:Cnt s) (hok:SOk s j) (hg:e.g.toNat < 8):(xO l s e j).getD e.g.toNat 0=s.dg e.g.toNat:=by
 have h1:=h.pre (l:=l) hok hg hg;have h2:=h.start hok hg hg (e:=e);have h3:(s.cur.getD e.g.toNat ckZ).getD e.g.toNat 0=s.dg e.g.toNat:=rfl;omega
theorem pU {c:Ck} {i k:Nat} {x:Int} (hi:i < c.length):(c.set i x).getD k 0=if k=i then x else c.getD k 0:=by
 rw [List.getD_eq_getElem?_getD,List.getD_eq_getElem?_getD,List.getElem?_set]
 by_cases h:i=k
 ·subst h;rw [if_pos rfl,if_pos rfl,if_pos hi];rfl
 ·rw [if_neg h,if_neg (Ne.symm h)]
theorem Cnt.clock (h:Cnt s) (hok:SOk s j) (hg:e.g.toNat < 8):(dU l s e j).getD e.g.toNat 0=s.dg e.g.toNat+1∧∀ k,k < 8→(s.cur.getD e.g.toNat ckZ).getD k 0≤(dU l s e j).getD k 0∧(k≠e.g.toNat→(dU l s e j).getD k 0≤s.dg k):=by
 have hl:=rM (l:=l) (e:=e) hok;rw [mY];refine ⟨by rw [pU (by omega),if_pos rfl,h.own hok hg],fun k hk=>?_⟩;rw [pU (by omega)];have h1:=h.pre (l:=l) hok hg hk;have h2:=h.start hok hg hk (e:=e)
 by_cases hkg:k=e.g.toNat
 ·rw [if_pos hkg];have:=h.own (l:=l) hok hg;subst hkg;exact ⟨by omega,fun hn=>absurd rfl hn⟩
 ·rw [if_neg hkg];exact ⟨by omega,fun _=>h1.2⟩
theorem Cnt.step (h:Cnt s) (hok:SOk s j) (hg:e.g.toNat < 8):Cnt (s.step l e j):=by
 have hcl:=hok.cl;obtain ⟨hc1,hc2⟩:=h.clock (l:=l) hok hg
 have hdg:∀ k,k < 8→(s.step l e j).dg k=if k=e.g.toNat then s.dg e.g.toNat+1 else s.dg k:=fun k hk=>by
  show ((s.cur.set e.g.toNat (dU l s e j)).getD k ckZ).getD k 0=_
  rw [List.getD_eq_getElem?_getD (l:=s.cur.set _ _),List.getElem?_set]
  by_cases hkg:e.g.toNat=k
  ·subst hkg;rw [if_pos rfl,if_pos (by omega),if_pos rfl];exact hc1
  ·rw [if_neg hkg,if_neg (Ne.symm hkg)]
   show (s.cur[k]?.getD ckZ).getD k 0=(s.cur.getD k ckZ).getD k 0
   rw [List.getD_eq_getElem?_getD (l:=s.cur)]
 have up:∀ k,k < 8→s.dg k≤(s.step l e j).dg k:=fun k hk=>by
  rw [hdg k hk];split
  ·rename_i h;rw [h];omega
  ·exact Int.le_refl _
 have hnew:∀ k,k < 8→(dU l s e j).getD k 0≤(s.step l e j).dg k:=fun k hk=>by
  rw [hdg k hk];split
  ·rename_i h;rw [h,hc1];exact Int.le_refl _
  ·rename_i h;exact (hc2 k hk).2 h
 refine ⟨fun c hm k hk=>?_,fun c hm k hk=>?_,fun c hm k hk=>?_⟩
 ·rcases List.mem_or_eq_of_mem_set hm with hm | rfl
  ·exact Int.le_trans (h.cc c hm k hk) (up k hk)
  ·exact hnew k hk
 ·simp only [SSt.step] at hm;split at hm
  ·rcases List.mem_or_eq_of_mem_set hm with hm | rfl
   ·exact Int.le_trans (h.bc c hm k hk) (up k hk)
   ·exact hnew k hk
  ·exact Int.le_trans (h.bc c hm k hk) (up k hk)
 ·simp only [SSt.step,List.mem_append,List.mem_singleton] at hm
  rcases hm with hm | rfl
  ·exact Int.le_trans (h.oc c hm k hk) (up k hk)
  ·exact hnew k hk
end
theorem JU {l:List Ev} (hv:∀ e,e ∈ l→0≤e.g∧e.g < 8) {j:Nat} (hj:j≤l.length):Cnt (aX l j):=by
 induction j with
 | zero =>
   have hz:∀ c,c ∈ List.replicate 8 ckZ→∀ k,k < 8→c.getD k 0≤(aX l 0).dg k:=fun c hc k hk=>by
    simp at hc;subst hc;rw [jF];exact sS (dh l 0) k
   exact ⟨hz,hz,fun c hc=>by simp [aX] at hc⟩
 | succ j ih =>
   have he:=List.getElem?_eq_getElem (show j < l.length by omega);have hg:=hv (l.getD j default) (by rw [List.getD_eq_getElem?_getD,he];exact List.getElem_mem _)
   exact (ih (by omega)).step (dh l j) (by omega)
theorem qp (l:List Ev) {i j:Nat} (h:i≤j):(aX l j).out.take i=(aX l i).out:=by
 induction j with
 | zero =>
   have:i=0:=by omega
   subst this;rfl
 | succ j ih =>
   rcases Nat.lt_or_eq_of_le h with h | h
   ·show ((aX l j).out ++ [_]).take i=_
    rw [List.take_append_of_le_length (by rw [(dh l j).ol];omega)]
    exact ih (by omega)
   ·subst h;rw [List.take_of_length_le (by rw [(dh l (j+1)).ol];exact Nat.le_refl _)]
theorem J5 {l:List Ev} {i:Nat} {e:Ev} (he:l[i]? = some e):(lg l)[i]? = some (dU l (aX l i) e i):=by
 have hi:=(List.getElem?_eq_some_iff.1 he).1;have hed:l.getD i default=e:=by rw [List.getD_eq_getElem?_getD,he];rfl
 have h1:=qp l (i:=i+1) (j:=l.length) hi
 have h2:(aX l (i+1)).out[i]? = some (dU l (aX l i) e i):=by
  show ((aX l i).out ++ [dU l (aX l i) (l.getD i default) i])[i]? = _
  rw [hed,List.getElem?_append_right (by rw [(dh l i).ol];exact Nat.le_refl _),(dh l i).ol,Nat.sub_self];rfl
 rw [←h1,List.getElem?_take,if_pos (by omega)] at h2;exact h2
theorem Fp (l:List Ev) {n j:Nat} (hj:j≤n):aX (l.take n) j=aX l j:=by
 induction j with
 | zero=>rfl
 | succ j ih =>
   have hg:∀ i,i < n→(l.take n).getD i default=l.getD i default:=fun i hi=>by
    rw [List.getD_eq_getElem?_getD,List.getD_eq_getElem?_getD,List.getElem?_take,if_pos hi]
   have hin:∀ out e p i,i≤n→jf (l.take n) out e p i=jf l out e p i:=fun out e p i=>by
    induction i with
    | zero=>intro _;rfl
    | succ i ihi=>intro hi;simp only [jf];rw [hg i (by omega),ihi (by omega)]
   show (aX (l.take n) j).step (l.take n) ((l.take n).getD j default) j=_
   rw [ih (by omega),hg j (by omega)]
   show SSt.step (l.take n) (aX l j) (l.getD j default) j=SSt.step l (aX l j) (l.getD j default) j
   have:dU (l.take n) (aX l j) (l.getD j default) j=dU l (aX l j) (l.getD j default) j:=by
    unfold dU;rw [hin _ _ _ _ (by omega)]
   unfold SSt.step;rw [this]
theorem zG (l:List Ev) {n:Nat} (hn:n≤l.length):lg (l.take n)=(lg l).take n:=by
 unfold lg;rw [qp l hn,List.length_take,Nat.min_eq_left hn,Fp l (Nat.le_refl n)]
theorem Ev.rW {e:Ev} (h:e.valid=true):(0≤e.g∧e.g < 8)∧(0≤e.k∧e.k≤2147483647)∧(0≤e.n∧e.n≤2147483647)∧(e.kind=14→0≤e.k∧e.k < 8):=by
 simp only [Ev.valid,fH,Bool.and_eq_true,decide_eq_true_eq] at h;refine ⟨by omega,by omega,by omega,fun hk=>?_⟩;have:=h.2;unfold Ev.rest at this;rw [if_pos hk] at this;simp only [decide_eq_true_eq] at this;omega
def ay (l:List Ev) (i:Nat):Ev:=l.getD i default
theorem pF {l:List Ev} {i:Nat} {e:Ev} (h:l[i]? = some e):ay l i=e:=by unfold ay;rw [List.getD_eq_getElem?_getD,h];rfl
theorem wV {l:List Ev} {i:Nat} (h:i < l.length):ay l i ∈ l:=by
 rw [pF (List.getElem?_eq_getElem h)];exact List.getElem_mem h
def Prog (l:List Ev) (i j:Nat):Prop:=(ay l i).g=(ay l j).g∧∀ k,i < k→k < j→(ay l k).g≠(ay l i).g
def First (l:List Ev) (j:Nat):Prop:=∀ k,k < j→(ay l k).g≠(ay l j).g
def Atom (l:List Ev) (i j:Nat):Prop:=∀ k,i < k→k < j→kQ (ay l k) (ay l j)=false
def Kinds (l:List Ev) (i j:Nat) (a b:Ev):Prop :=
 (a.kind=15∧b.kind=18∧b.k=a.k)∨(a.kind=17∧b.kind=16∧b.k=a.k+a.n)∨(a.kind=19∧b.kind=20)∨(a.kind=7∧(b.kind=6∨b.kind=8)) ∨
 (a.kind=9∧b.kind=6)∨(a.kind=10∧b.kind=11)∨(a.kind=12∧b.kind=13)∨((a.kind=4∨a.kind=5)∧(b.kind=3∨b.kind=5)∧Atom l i j)
def Syn (l:List Ev) (i j:Nat):Prop:=(ay l i).obj=(ay l j).obj∧(ay l i).off=(ay l j).off∧Kinds l i j (ay l i) (ay l j)
def GoE (l:List Ev) (i j:Nat):Prop:=(ay l i).kind=14∧(ay l i).k=(ay l j).g∧First l j
def Imm (l:List Ev) (i j:Nat):Prop:=Prog l i j∨GoE l i j∨Syn l i j
inductive HB (l:List Ev):Nat→Nat→Prop
 | one {i j:Nat} (h:i < j) (hi:Imm l i j):HB l i j
 | step {i k j:Nat} (h:HB l i k) (hk:k < j) (hi:Imm l k j):HB l i j
def HBE (l:List Ev) (i j:Nat):Prop:=i=j∨HB l i j
theorem HB.lt {l:List Ev} {i j:Nat} (h:HB l i j):i < j:=by
 induction h with
 | one h _=>exact h
 | step _ hk _ ih=>omega
theorem HBE.le {l:List Ev} {i j:Nat} (h:HBE l i j):i≤j:=by
 rcases h with rfl | h
 ·exact Nat.le_refl _
 ·exact Nat.le_of_lt h.lt
theorem uF {l:List Ev} {i j:Nat}:HB l i j↔∃ k,k < j∧Imm l k j∧HBE l i k:=by
 refine ⟨fun h=>?_,fun ⟨k,hk,hi,h⟩=>?_⟩
 ·cases h with
  | one h hi=>exact ⟨i,h,hi,.inl rfl⟩
  | step h hk hi=>exact ⟨_,hk,hi,.inr h⟩
 ·rcases h with rfl | h
  ·exact .one hk hi
  ·exact .step h hk hi
theorem HBE.trans {l:List Ev} {i k j:Nat} (h:HBE l i k) (h2:HB l k j):HB l i j:=by
 induction h2 with
 | one hk hi=>exact uF.2 ⟨_,hk,hi,h⟩
 | step _ hk hi ih=>exact uF.2 ⟨_,hk,hi,.inr ih⟩
def jQ (l:List Ev) (g:Int):Nat→Nat
 | 0=>0
 | n+1=>if (ay l n).g=g then jQ l g n+1 else jQ l g n
def ord (l:List Ev) (i:Nat):Nat:=jQ l (ay l i).g (i+1)
theorem uN (l:List Ev) (i:Nat):ord l i=jQ l (ay l i).g i+1:=by unfold ord;simp only [jQ];rw [if_pos trivial]
theorem l7 {l:List Ev} {g:Int} {m n:Nat} (h:m≤n):jQ l g m≤jQ l g n:=by
 induction n with
 | zero=>have:m=0:=by omega
         subst this;exact Nat.le_refl _
 | succ n ih =>
   rcases Nat.lt_or_eq_of_le h with h | h
   ·have:=ih (by omega);simp only [jQ];split <;> omega
   ·subst h;exact Nat.le_refl _
theorem vF {l:List Ev} {g:Int} {p n:Nat} (h:p < n) (hp:(ay l p).g=g):jQ l g p < jQ l g n:=by
 have:jQ l g (p+1)≤jQ l g n:=l7 h;simp only [jQ] at this;rw [if_pos hp] at this;omega
theorem yx {l:List Ev} {g:Int} {n:Nat} (h:∀ k,k < n→(ay l k).g≠g):jQ l g n=0:=by
 induction n with
 | zero=>rfl
 | succ n ih=>simp only [jQ];rw [if_neg (h n (by omega))];exact ih (fun k hk=>h k (by omega))
theorem CP {l:List Ev} {g:Int} {n:Nat} (h:0 < jQ l g n):∃ p,p < n∧(ay l p).g=g∧∀ k,p < k→k < n→(ay l k).g≠g:=by
 induction n with
 | zero=>simp [jQ] at h
 | succ n ih =>
   by_cases hn:(ay l n).g=g
   ·exact ⟨n,by omega,hn,fun k h1 h2=>by omega⟩
   ·simp only [jQ] at h;rw [if_neg hn] at h;obtain ⟨p,h1,h2,h3⟩:=ih h;refine ⟨p,by omega,h2,fun k hk1 hk2=>?_⟩
    rcases Nat.lt_or_eq_of_le (Nat.le_of_lt_succ hk2) with h4 | h4
    ·exact h3 k hk1 h4
    ·subst h4;exact hn
theorem HBE.prog {l:List Ev} {i j:Nat} (hij:i≤j) (hg:(ay l i).g=(ay l j).g):HBE l i j:=by
 induction j using Nat.strongRecOn with
 | ind j ih =>
   rcases Nat.lt_or_eq_of_le hij with h | h
   ·obtain ⟨p,h1,h2,h3⟩:=CP (l:=l) (g:=(ay l j).g) (n:=j) (by have:=vF h hg;omega)
    have hip:i≤p:=by
     rcases Nat.lt_or_ge p i with h4 | h4
     ·exact absurd hg (h3 i h4 h)
     ·exact h4
    exact .inr (uF.2 ⟨p,h1,.inl ⟨h2,fun k hk1 hk2=>by rw [h2];exact h3 k hk1 hk2⟩,ih p h1 hip (hg.trans h2.symm)⟩)
   ·exact .inl h
structure VL (l:List Ev):Prop where
 v:∀ e,e ∈ l→e.valid=true
 go:∀ p q,p < l.length→q < l.length→(ay l p).kind=14→(ay l q).kind=14→(ay l p).k=(ay l q).k→p=q
 cap:∀ p q,p < l.length→q < l.length→(ay l p).kind=17→(ay l q).kind=16→(ay l p).obj=(ay l q).obj→(ay l p).n=(ay l q).n
def stp (l:List Ev) (p:Nat):Ck:=(lg l).getD p ckZ
section
variable {l:List Ev} (V:VL l)
include V
theorem VL.g {i:Nat} (h:i < l.length):0≤(ay l i).g∧(ay l i).g < 8:=(Ev.rW (V.v _ (wV h))).1
theorem VL.cnt {j:Nat} (h:j≤l.length):Cnt (aX l j):=JU (fun e he=>(Ev.rW (V.v e he)).1) h
omit V in
theorem Fj (l:List Ev) (j:Nat):aX l (j+1)=(aX l j).step l (ay l j) j:=rfl
omit V in
theorem nM {j:Nat} (h:j < l.length):stp l j=dU l (aX l j) (ay l j) j:=by
 have he:l[j]? = some (ay l j):=by rw [pF (List.getElem?_eq_getElem h)];exact List.getElem?_eq_getElem h
 unfold stp;rw [List.getD_eq_getElem?_getD,J5 he];rfl
omit V in
theorem Aa {p j:Nat} (h:p < j) (hj:j≤l.length):(aX l j).out.getD p ckZ=stp l p:=by
 have h1:=qp l hj;unfold stp lg;rw [←h1,List.getD_eq_getElem?_getD,List.getD_eq_getElem?_getD,List.getElem?_take,if_pos h]
omit V in
theorem sF {j:Nat}:(stp l j).length=8:=by
 unfold stp
 rcases Nat.lt_or_ge j (lg l).length with h | h
 ·exact (wC l _ (jZ h)).1
 ·rw [getD_none h];rfl
theorem FZ {j:Nat} (hj:j≤l.length) {g:Int} (h0:0≤g) (h8:g < 8):(aX l j).dg g.toNat=(jQ l g j:Int):=by
 induction j with
 | zero =>
   have:∀ k,k < 8→(aX l 0).dg k=0:=by
    intro k hk;unfold SSt.dg
    show ((List.replicate 8 ckZ).getD k ckZ).getD k 0=0
    rw [List.getD_eq_getElem?_getD (l:=List.replicate 8 ckZ),List.getElem?_replicate,if_pos hk];exact jF k
   rw [this _ (by omega)];rfl
 | succ j ih =>
   have hg:=V.g (i:=j) (by omega);have hc:=(V.cnt (j:=j) (by omega)).clock (l:=l) (e:=ay l j) (dh l j) (by omega);have hcl:=(dh l j).cl;rw [Fj]
   have:((aX l j).step l (ay l j) j).dg g.toNat=if g.toNat=(ay l j).g.toNat then (aX l j).dg (ay l j).g.toNat+1 else (aX l j).dg g.toNat:=by
    show (((aX l j).cur.set (ay l j).g.toNat (dU l (aX l j) (ay l j) j)).getD g.toNat ckZ).getD g.toNat 0=_
    rw [List.getD_eq_getElem?_getD (l:=(aX l j).cur.set _ _),List.getElem?_set]
    by_cases hkg:(ay l j).g.toNat=g.toNat
    ·rw [hkg,if_pos rfl,if_pos (by omega),if_pos rfl,←hkg];exact hc.1
    ·rw [if_neg hkg,if_neg (Ne.symm hkg)]
     show ((aX l j).cur[g.toNat]?.getD ckZ).getD g.toNat 0=((aX l j).cur.getD g.toNat ckZ).getD g.toNat 0
     rw [List.getD_eq_getElem?_getD (l:=(aX l j).cur)]
   rw [this];simp only [jQ]
   by_cases hkg:(ay l j).g=g
   ·subst hkg;rw [if_pos rfl,if_pos rfl,ih (by omega)];omega
   ·rw [if_neg (by omega),if_neg hkg,ih (by omega)]
theorem lq {j:Nat} (h:j < l.length):(stp l j).getD (ay l j).g.toNat 0=(ord l j:Int):=by
 have hg:=V.g h;rw [nM h,((V.cnt (j:=j) (by omega)).clock (l:=l) (e:=ay l j) (dh l j) (by omega)).1,FZ V (by omega) hg.1 hg.2,uN];omega
theorem UG {j:Nat} (h:j < l.length) {g:Int} (h0:0≤g) (h8:g < 8):(stp l j).getD g.toNat 0≤(jQ l g (j+1):Int):=by
 have h1:=V.cnt (j:=j+1) h;rw [←FZ V (j:=j+1) h h0 h8,←Aa (l:=l) (p:=j) (j:=j+1) (by omega) h];exact h1.oc _ (jZ (by rw [(dh l (j+1)).ol];omega)) _ (by omega)
omit V in
theorem FC {j k:Nat}:0≤(stp l j).getD k 0:=by
 unfold stp
 rcases Nat.lt_or_ge j (lg l).length with h | h
 ·exact (wC l _ (jZ h)).get k
 ·rw [getD_none h,jF];exact Int.le_refl _
omit V in
theorem iO {α:Type} {a:List α} {i k:Nat} {x d:α} (hi:i < a.length):(a.set i x).getD k d=if k=i then x else a.getD k d:=by
 rw [List.getD_eq_getElem?_getD,List.getD_eq_getElem?_getD,List.getElem?_set]
 by_cases h:i=k
 ·subst h;rw [if_pos rfl,if_pos rfl,if_pos hi];rfl
 ·rw [if_neg h,if_neg (Ne.symm h)]
theorem CQ {j:Nat} (hj:j≤l.length) {g:Int} (h0:0≤g) (h8:g < 8):(jQ l g j=0→(aX l j).cur.getD g.toNat ckZ=ckZ) ∧
 ∀ p,p < j→(ay l p).g=g→(∀ k,p < k→k < j→(ay l k).g≠g)→(aX l j).cur.getD g.toNat ckZ=stp l p:=by
 induction j with
 | zero =>
   refine ⟨fun _=>?_,fun p hp=>by omega⟩
   show (List.replicate 8 ckZ).getD g.toNat ckZ=ckZ
   rw [List.getD_eq_getElem?_getD,List.getElem?_replicate,if_pos (by omega)];rfl
 | succ j ih =>
   obtain ⟨i1,i2⟩:=ih (by omega);have hg:=V.g (i:=j) (by omega);have hcl:=(dh l j).cl
   have hcur:(aX l (j+1)).cur.getD g.toNat ckZ=if g.toNat=(ay l j).g.toNat then stp l j else (aX l j).cur.getD g.toNat ckZ:=by
    show ((aX l j).cur.set (ay l j).g.toNat (dU l (aX l j) (ay l j) j)).getD g.toNat ckZ=_
    rw [iO (by omega),nM (by omega)]
   rw [hcur];refine ⟨fun h=>?_,fun p hp h1 h2=>?_⟩
   ·simp only [jQ] at h
    by_cases hkg:(ay l j).g=g
    ·rw [if_pos hkg] at h;omega
    ·rw [if_neg hkg] at h;rw [if_neg (by omega)];exact i1 h
   ·by_cases hkg:(ay l j).g=g
    ·have:p=j:=by
      rcases Nat.lt_or_eq_of_le (Nat.le_of_lt_succ hp) with h3 | h3
      ·exact absurd hkg (h2 j h3 (by omega))
      ·exact h3
     subst this;rw [if_pos (by omega)]
    ·have:p≠j:=fun h=>hkg (h ▸ h1)
     rw [if_neg (by omega)];exact i2 p (by omega) h1 (fun k hk1 hk2=>h2 k hk1 (by omega))
theorem DX {j:Nat} (hj:j≤l.length) {g:Int} (h0:0≤g) (h8:g < 8):((∀ q,q < j→¬ ((ay l q).kind=14∧(ay l q).k=g))→(aX l j).birth.getD g.toNat ckZ=ckZ) ∧
 ∀ q,q < j→(ay l q).kind=14→(ay l q).k=g→(aX l j).birth.getD g.toNat ckZ=stp l q:=by
 induction j with
 | zero =>
   refine ⟨fun _=>?_,fun p hp=>by omega⟩
   show (List.replicate 8 ckZ).getD g.toNat ckZ=ckZ
   rw [List.getD_eq_getElem?_getD,List.getElem?_replicate,if_pos (by omega)];rfl
 | succ j ih =>
   obtain ⟨i1,i2⟩:=ih (by omega);have hbl:=(dh l j).bl;have hval:=V.v _ (wV (show j < l.length by omega))
   have hk:(ay l j).kind=14→0≤(ay l j).k∧(ay l j).k < 8:=fun h=>by
    have:=(Ev.rW hval).2.2.2;have h2:=this h;omega
   have hb:(aX l (j+1)).birth.getD g.toNat ckZ=if (ay l j).kind=14∧g.toNat=(ay l j).k.toNat then stp l j else (aX l j).birth.getD g.toNat ckZ:=by
    show (if (ay l j).kind=14 then (aX l j).birth.set (ay l j).k.toNat (dU l (aX l j) (ay l j) j) else (aX l j).birth).getD g.toNat ckZ=_
    by_cases h14:(ay l j).kind=14
    ·have:=hk h14;rw [if_pos h14,iO (by omega),nM (by omega)]
     by_cases hgk:g.toNat=(ay l j).k.toNat
     ·rw [if_pos hgk,if_pos ⟨h14,hgk⟩]
     ·rw [if_neg hgk,if_neg (fun h=>hgk h.2)]
    ·rw [if_neg h14,if_neg (fun h=>h14 h.1)]
   rw [hb];refine ⟨fun h=>?_,fun q hq h1 h2=>?_⟩
   ·rw [if_neg]
    ·exact i1 (fun q hq=>h q (by omega))
    ·rintro ⟨h3,h4⟩;have:=hk h3;exact h j (by omega) ⟨h3,by omega⟩
   ·by_cases hq':q=j
    ·subst hq';rw [if_pos ⟨h1,by omega⟩]
    ·rw [if_neg]
     ·exact i2 q (by omega) h1 h2
     ·rintro ⟨h3,h4⟩;have:=hk h3;exact hq' (V.go q j (by omega) (by omega) h1 h3 (by omega))
theorem za {j:Nat} (h:j < l.length) {c:Int} (hc:1≤c) (k:Nat):c≤(bT (aX l j) (ay l j)).getD k 0↔∃ i,i < j∧(Prog l i j∨GoE l i j)∧c≤(stp l i).getD k 0:=by
 have hg:=V.g h;obtain ⟨c1,c2⟩:=CQ V (j:=j) (by omega) hg.1 hg.2;obtain ⟨b1,b2⟩:=DX V (j:=j) (by omega) hg.1 hg.2
 by_cases hf:First l j
 ·have hz:=c1 (yx hf);unfold bT;rw [if_pos hz]
  by_cases hq:∃ q,q < j∧(ay l q).kind=14∧(ay l q).k=(ay l j).g
  ·obtain ⟨q,hq1,hq2,hq3⟩:=hq;rw [b2 q hq1 hq2 hq3];refine ⟨fun h2=>⟨q,hq1,.inr ⟨hq2,hq3,hf⟩,h2⟩,fun ⟨i,hi,hp,h2⟩=>?_⟩
   rcases hp with hp | hp
   ·exact absurd hp.1 (hf i hi)
   ·have:=V.go i q (by omega) (by omega) hp.1 hq2 (hp.2.1.trans hq3.symm);subst this;exact h2
  ·rw [b1 (fun q hq1 hq2=>hq ⟨q,hq1,hq2⟩),jF];refine ⟨fun h2=>by omega,fun ⟨i,hi,hp,h2⟩=>?_⟩
   rcases hp with hp | hp
   ·exact absurd hp.1 (hf i hi)
   ·exact absurd ⟨i,hi,hp.1,hp.2.1⟩ hq
 ·have hpos:0 < jQ l (ay l j).g j:=by
   rcases Nat.eq_zero_or_pos (jQ l (ay l j).g j) with h0 | h0
   ·exfalso
    apply hf
    intro k hk hkg;have:=vF hk hkg;omega
   ·exact h0
  obtain ⟨p,hp1,hp2,hp3⟩:=CP hpos;have hcur:=c2 p hp1 hp2 hp3
  have hnz:stp l p≠ckZ:=fun hz=>by
   have:=lq V (j:=p) (by omega);rw [hz,jF] at this;have:=uN l p;omega
  unfold bT;rw [hcur,if_neg hnz];refine ⟨fun h2=>⟨p,hp1,.inl ⟨hp2,fun k hk1 hk2=>by rw [hp2];exact hp3 k hk1 hk2⟩,h2⟩,fun ⟨i,hi,hp,h2⟩=>?_⟩
  rcases hp with hp | hp
  ·have:i=p:=by
    rcases Nat.lt_trichotomy i p with h4 | h4 | h4
    ·exact absurd (hp2.trans hp.1.symm) (hp.2 p h4 hp1)
    ·exact h4
    ·exact absurd hp.1 (hp3 i h4 hi)
   subst this;exact h2
  ·exact absurd hp.2.2 hf
omit V in
theorem TD {j:Nat} (h:j < l.length) {c:Int} {k:Nat} (hk:k < 8) (n:Nat) (hn:n≤j) :
 (c≤(jf l (aX l j).out (ay l j) (bT (aX l j) (ay l j), -1) n).1.getD k 0↔c≤(bT (aX l j) (ay l j)).getD k 0∨∃ i,i < n∧FD (ay l i) (ay l j)=true∧c≤(stp l i).getD k 0):=by
 induction n with
 | zero=>simp only [jf];exact ⟨.inl,fun h=>h.elim id (fun ⟨i,hi,_⟩=>by omega)⟩
 | succ n ih =>
   have ih:=ih (by omega);simp only [jf,xK];have he:l.getD n default=ay l n:=rfl;rw [he]
   by_cases hs:FD (ay l n) (ay l j)=true
   ·rw [if_pos hs,getD_join ((dh l j).jf l (ay l j) n).1.1 (vS (dh l j) n) hk,Aa (by omega) (by omega)]
    have hmax:(c≤if (stp l n).getD k 0 > (jf l (aX l j).out (ay l j) (bT (aX l j) (ay l j), -1) n).1.getD k 0 then (stp l n).getD k 0 else (jf l (aX l j).out (ay l j) (bT (aX l j) (ay l j), -1) n).1.getD k 0) ↔
     (c≤(jf l (aX l j).out (ay l j) (bT (aX l j) (ay l j), -1) n).1.getD k 0∨c≤(stp l n).getD k 0):=by
     split <;> omega
    rw [hmax,ih];refine ⟨fun h2=>?_,fun h2=>?_⟩
    ·rcases h2 with (h2 | ⟨i,hi,h3⟩) | h2
     ·exact .inl h2
     ·exact .inr ⟨i,by omega,h3⟩
     ·exact .inr ⟨n,by omega,hs,h2⟩
    ·rcases h2 with h2 | ⟨i,hi,h3,h4⟩
     ·exact .inl (.inl h2)
     ·by_cases hin:i=n
      ·subst hin;exact .inr h4
      ·exact .inl (.inr ⟨i,by omega,h3,h4⟩)
   ·rw [if_neg hs,ih];refine ⟨fun h2=>?_,fun h2=>?_⟩
    ·rcases h2 with h2 | ⟨i,hi,h3⟩
     ·exact .inl h2
     ·exact .inr ⟨i,by omega,h3⟩
    ·rcases h2 with h2 | ⟨i,hi,h3,h4⟩
     ·exact .inl h2
     ·by_cases hin:i=n
      ·subst hin;exact absurd h3 hs
      ·exact .inr ⟨i,by omega,h3,h4⟩
omit V in
theorem at_in (out:List Ck) (e:Ev) (c:Ck) (n:Nat):((jf l out e (c, -1) n).2=-1∧∀ k,k < n→kQ (ay l k) e=false) ∨
 ∃ a:Nat,a < n∧(jf l out e (c, -1) n).2=(a:Int)∧kQ (ay l a) e=true∧∀ k,a < k→k < n→kQ (ay l k) e=false:=by
 induction n with
 | zero=>exact .inl ⟨rfl,fun k hk=>by omega⟩
 | succ n ih =>
   simp only [jf,xK];have he:l.getD n default=ay l n:=rfl;rw [he]
   cases hb:kQ (ay l n) e with
   | true=>rw [if_pos rfl];exact .inr ⟨n,by omega,rfl,hb,fun k h1 h2=>by omega⟩
   | false =>
     rw [if_neg (by decide)];have ext:∀ k,k < n+1→k=n∨k < n:=fun k hk=>by omega
     rcases ih with ⟨h1,h2⟩ | ⟨a,h1,h2,h3,h4⟩
     ·exact .inl ⟨h1,fun k hk=>(ext k hk).elim (fun h=>h ▸ hb) (h2 k)⟩
     ·exact .inr ⟨a,by omega,h2,h3,fun k hk1 hk2=>(ext k hk2).elim (fun h=>h ▸ hb) (h4 k hk1)⟩
theorem xw {i j:Nat} (hi:i < l.length) (hj:j < l.length):Syn l i j↔FD (ay l i) (ay l j)=true∨(kQ (ay l i) (ay l j)=true∧((ay l j).kind=3∨(ay l j).kind=5)∧Atom l i j):=by
 have hcap:=V.cap i j hi hj;unfold Syn Kinds FD kQ;generalize ay l i=a at *;generalize ay l j=b at *
 by_cases ho:a.obj=b.obj
 ·by_cases hf:a.off=b.off
  ·have hcap':a.kind=17→b.kind=16→a.n=b.n:=fun h1 h2=>hcap h1 h2 ho
   clear hcap;simp only [ho,hf,ne_eq,not_true_eq_false,if_false,true_and,beq_self_eq_true,Bool.true_and,Bool.or_eq_true,beq_iff_eq];generalize Atom l i j=P
   by_cases k18:b.kind=18
   ·rw [if_pos k18];simp only [Bool.and_eq_true,beq_iff_eq];refine ⟨fun h=>?_,fun h=>?_⟩
    ·rcases h with h | h | h | h | h | h | h | ⟨h1,h2,_⟩ <;> first | (left;omega) | (exfalso;omega)
    ·rcases h with h | ⟨h1,h2,_⟩
     ·first | (refine .inl ?_;omega) | (refine .inr (.inl ?_);omega) | (refine .inr (.inr (.inl ?_));omega) | (refine .inr (.inr (.inr (.inl ?_)));omega) | (refine .inr (.inr (.inr (.inr (.inl ?_))));omega) | (refine .inr (.inr (.inr (.inr (.inr (.inl ?_)))));omega) | (refine .inr (.inr (.inr (.inr (.inr (.inr (.inl ?_))))));omega)
     ·exfalso;omega
   by_cases k16:b.kind=16
   ·rw [if_neg k18,if_pos k16];simp only [Bool.and_eq_true,beq_iff_eq];refine ⟨fun h=>?_,fun h=>?_⟩
    ·rcases h with h | h | h | h | h | h | h | ⟨h1,h2,_⟩ <;> first | (left;omega) | (exfalso;omega)
    ·rcases h with h | ⟨h1,h2,_⟩
     ·first | (refine .inl ?_;omega) | (refine .inr (.inl ?_);omega) | (refine .inr (.inr (.inl ?_));omega) | (refine .inr (.inr (.inr (.inl ?_)));omega) | (refine .inr (.inr (.inr (.inr (.inl ?_))));omega) | (refine .inr (.inr (.inr (.inr (.inr (.inl ?_)))));omega) | (refine .inr (.inr (.inr (.inr (.inr (.inr (.inl ?_))))));omega)
     ·exfalso;omega
   by_cases k20:b.kind=20
   ·rw [if_neg k18,if_neg k16,if_pos k20];simp only [beq_iff_eq];refine ⟨fun h=>?_,fun h=>?_⟩
    ·rcases h with h | h | h | h | h | h | h | ⟨h1,h2,_⟩ <;> first | (left;omega) | (exfalso;omega)
    ·rcases h with h | ⟨h1,h2,_⟩
     ·first | (refine .inl ?_;omega) | (refine .inr (.inl ?_);omega) | (refine .inr (.inr (.inl ?_));omega) | (refine .inr (.inr (.inr (.inl ?_)));omega) | (refine .inr (.inr (.inr (.inr (.inl ?_))));omega) | (refine .inr (.inr (.inr (.inr (.inr (.inl ?_)))));omega) | (refine .inr (.inr (.inr (.inr (.inr (.inr (.inl ?_))))));omega)
     ·exfalso;omega
   by_cases k6:b.kind=6
   ·rw [if_neg k18,if_neg k16,if_neg k20,if_pos k6];simp only [Bool.or_eq_true,beq_iff_eq];refine ⟨fun h=>?_,fun h=>?_⟩
    ·rcases h with h | h | h | h | h | h | h | ⟨h1,h2,_⟩ <;> first | (left;omega) | (exfalso;omega)
    ·rcases h with h | ⟨h1,h2,_⟩
     ·(rcases h with h | h <;> first | (refine .inl ?_;omega) | (refine .inr (.inl ?_);omega) | (refine .inr (.inr (.inl ?_));omega) | (refine .inr (.inr (.inr (.inl ?_)));omega) | (refine .inr (.inr (.inr (.inr (.inl ?_))));omega) | (refine .inr (.inr (.inr (.inr (.inr (.inl ?_)))));omega) | (refine .inr (.inr (.inr (.inr (.inr (.inr (.inl ?_))))));omega))
     ·exfalso;omega
   by_cases k8:b.kind=8
   ·rw [if_neg k18,if_neg k16,if_neg k20,if_neg k6,if_pos k8];simp only [beq_iff_eq];refine ⟨fun h=>?_,fun h=>?_⟩
    ·rcases h with h | h | h | h | h | h | h | ⟨h1,h2,_⟩ <;> first | (left;omega) | (exfalso;omega)
    ·rcases h with h | ⟨h1,h2,_⟩
     ·first | (refine .inl ?_;omega) | (refine .inr (.inl ?_);omega) | (refine .inr (.inr (.inl ?_));omega) | (refine .inr (.inr (.inr (.inl ?_)));omega) | (refine .inr (.inr (.inr (.inr (.inl ?_))));omega) | (refine .inr (.inr (.inr (.inr (.inr (.inl ?_)))));omega) | (refine .inr (.inr (.inr (.inr (.inr (.inr (.inl ?_))))));omega)
     ·exfalso;omega
   by_cases k11:b.kind=11
   ·rw [if_neg k18,if_neg k16,if_neg k20,if_neg k6,if_neg k8,if_pos k11];simp only [beq_iff_eq];refine ⟨fun h=>?_,fun h=>?_⟩
    ·rcases h with h | h | h | h | h | h | h | ⟨h1,h2,_⟩ <;> first | (left;omega) | (exfalso;omega)
    ·rcases h with h | ⟨h1,h2,_⟩
     ·first | (refine .inl ?_;omega) | (refine .inr (.inl ?_);omega) | (refine .inr (.inr (.inl ?_));omega) | (refine .inr (.inr (.inr (.inl ?_)));omega) | (refine .inr (.inr (.inr (.inr (.inl ?_))));omega) | (refine .inr (.inr (.inr (.inr (.inr (.inl ?_)))));omega) | (refine .inr (.inr (.inr (.inr (.inr (.inr (.inl ?_))))));omega)
     ·exfalso;omega
   by_cases k13:b.kind=13
   ·rw [if_neg k18,if_neg k16,if_neg k20,if_neg k6,if_neg k8,if_neg k11,if_pos k13];simp only [beq_iff_eq];refine ⟨fun h=>?_,fun h=>?_⟩
    ·rcases h with h | h | h | h | h | h | h | ⟨h1,h2,_⟩ <;> first | (left;omega) | (exfalso;omega)
    ·rcases h with h | ⟨h1,h2,_⟩
     ·first | (refine .inl ?_;omega) | (refine .inr (.inl ?_);omega) | (refine .inr (.inr (.inl ?_));omega) | (refine .inr (.inr (.inr (.inl ?_)));omega) | (refine .inr (.inr (.inr (.inr (.inl ?_))));omega) | (refine .inr (.inr (.inr (.inr (.inr (.inl ?_)))));omega) | (refine .inr (.inr (.inr (.inr (.inr (.inr (.inl ?_))))));omega)
     ·exfalso;omega
   rw [if_neg k18,if_neg k16,if_neg k20,if_neg k6,if_neg k8,if_neg k11,if_neg k13];refine ⟨fun h=>?_,fun h=>?_⟩
   ·rcases h with h | h | h | h | h | h | h | ⟨h1,h2,h3⟩
    ·exfalso;omega
    ·exfalso;omega
    ·exfalso;omega
    ·exfalso;omega
    ·exfalso;omega
    ·exfalso;omega
    ·exfalso;omega
    ·exact .inr ⟨h1,h2,h3⟩
   ·rcases h with h | ⟨h1,h2,h3⟩
    ·cases h
    ·exact .inr (.inr (.inr (.inr (.inr (.inr (.inr ⟨h1,h2,h3⟩))))))
  ·simp [ho,hf]
 ·simp [ho]
theorem Hz {j:Nat} (h:j < l.length) {c:Int} (hc:1≤c) {k:Nat} (hk:k < 8):c≤(xO l (aX l j) (ay l j) j).getD k 0↔∃ i,i < j∧Imm l i j∧c≤(stp l i).getD k 0:=by
 have hin:=TD h (c:=c) hk j (Nat.le_refl j);rw [za V h hc k] at hin;have hat:=at_in (l:=l) (aX l j).out (ay l j) (bT (aX l j) (ay l j)) j
 have hmain:c≤(xO l (aX l j) (ay l j) j).getD k 0↔c≤(jf l (aX l j).out (ay l j) (bT (aX l j) (ay l j), -1) j).1.getD k 0 ∨
  ∃ i,i < j∧(kQ (ay l i) (ay l j)=true∧((ay l j).kind=3∨(ay l j).kind=5)∧Atom l i j)∧c≤(stp l i).getD k 0:=by
  unfold xO
  rcases hat with ⟨h1,h2⟩ | ⟨a,h1,h2,h3,h4⟩
  ·rw [h1,if_neg (by unfold vC;simp)]
   refine ⟨.inl,fun h5=>h5.elim id (fun ⟨i,hi,h6,_⟩=>?_)⟩;rw [h2 i hi] at h6;exact absurd h6.1 (by decide)
  ·rw [h2]
   have huniq:∀ i,i < j→kQ (ay l i) (ay l j)=true→Atom l i j→i=a:=fun i hi h5 h6=>by
    rcases Nat.lt_trichotomy i a with h7 | h7 | h7
    ·rw [h6 a h7 h1] at h3;cases h3
    ·exact h7
    ·rw [h4 i h7 hi] at h5;cases h5
   by_cases hk35:(ay l j).kind=3∨(ay l j).kind=5
   ·have hE:vC (ay l j) (a:Int)=true:=by
     unfold vC;simp only [Bool.and_eq_true,decide_eq_true_eq,Bool.or_eq_true,beq_iff_eq];exact ⟨by omega,hk35⟩
    rw [if_pos hE,getD_join ((dh l j).jf l (ay l j) j).1.1 (vS (dh l j) _) hk,Int.toNat_natCast,Aa h1 (by omega)];have hmax:∀ x y:Int,(c≤if y > x then y else x)↔(c≤x∨c≤y):=fun x y=>by split <;> omega
    rw [hmax];refine ⟨fun h5=>h5.elim .inl (fun h6=>.inr ⟨a,h1,⟨h3,hk35,h4⟩,h6⟩),fun h5=>h5.elim .inl (fun ⟨i,hi,⟨h6,_,h7⟩,h8⟩=>.inr ?_)⟩;have:=huniq i hi h6 h7;subst this;exact h8
   ·have hE:¬ vC (ay l j) (a:Int)=true:=by
     unfold vC;simp only [Bool.and_eq_true,decide_eq_true_eq,Bool.or_eq_true,beq_iff_eq];exact fun h5=>hk35 h5.2
    rw [if_neg hE];exact ⟨.inl,fun h5=>h5.elim id (fun ⟨i,hi,h6,_⟩=>absurd h6.2.1 hk35)⟩
 rw [hmain,hin];refine ⟨fun h5=>?_,fun ⟨i,hi,him,h6⟩=>?_⟩
 ·rcases h5 with (⟨i,hi,hp,h6⟩ | ⟨i,hi,hs,h6⟩) | ⟨i,hi,hs,h6⟩
  ·exact ⟨i,hi,hp.elim .inl (fun h=>.inr (.inl h)),h6⟩
  ·exact ⟨i,hi,.inr (.inr ((xw V (by omega) h).2 (.inl hs))),h6⟩
  ·exact ⟨i,hi,.inr (.inr ((xw V (by omega) h).2 (.inr hs))),h6⟩
 ·rcases him with hp | hp | hs
  ·exact .inl (.inl ⟨i,hi,.inl hp,h6⟩)
  ·exact .inl (.inl ⟨i,hi,.inr hp,h6⟩)
  ·rcases (xw V (by omega) h).1 hs with hs | hs
   ·exact .inl (.inr ⟨i,hi,hs,h6⟩)
   ·exact .inr ⟨i,hi,hs,h6⟩
theorem hb_iff {j:Nat} (h:j < l.length):∀ i,i < l.length→(HBE l i j↔(ord l i:Int)≤(stp l j).getD (ay l i).g.toNat 0):=by
 induction j using Nat.strongRecOn with
 | ind j ih =>
   intro i hi;have hgi:=V.g hi;have hgj:=V.g h;have hoi:1≤(ord l i:Int):=by have:=uN l i;omega
   have hlen:=rM (l:=l) (e:=ay l j) (dh l j)
   by_cases hg:(ay l i).g=(ay l j).g
   ·rw [hg,lq V h];refine ⟨fun hb=>?_,fun ho=>?_⟩
    ·have:=hb.le;unfold ord;rw [hg];have:=l7 (l:=l) (g:=(ay l j).g) (show i+1≤j+1 by omega);omega
    ·rcases Nat.lt_or_ge j i with h1 | h1
     ·exfalso
      unfold ord at ho;rw [hg] at ho;have:=vF (l:=l) (g:=(ay l j).g) (p:=i) (n:=i+1) (by omega) hg;have:=l7 (l:=l) (g:=(ay l j).g) (show j+1≤i by omega);omega
     ·exact HBE.prog h1 hg
   ·have hne:(ay l i).g.toNat≠(ay l j).g.toNat:=by omega
    rw [nM h,mY,pU (by omega),if_neg hne,Hz V h hoi (by omega)];have hij:i≠j:=fun h2=>hg (by rw [h2])
    have:HBE l i j↔HB l i j:=⟨fun h2=>h2.elim (fun h3=>absurd h3 hij) id,.inr⟩;rw [this,uF];refine ⟨fun ⟨k,hk,h1,h2⟩=>⟨k,hk,h1,(ih k hk (by omega) i hi).1 h2⟩,fun ⟨k,hk,h1,h2⟩=>⟨k,hk,h1,(ih k hk (by omega) i hi).2 h2⟩⟩
end
theorem rX {r:RSt} {t u:TS} {e:Ev} (hr:Rel r t) (h:t.add e=some u):t.gor≤u.gor∧(e.kind=14→e.k=t.gor∧u.gor=t.gor+1):=by
 have hk:=hr.kok;obtain ⟨_,v,rfl,hv⟩:=iT h
 rcases hv with ⟨ho,hv⟩ | ⟨ho,hc,hv⟩ | ⟨ho,hc,hv⟩
 ·obtain ⟨hf,rfl⟩:=qw hv;have hkk:=hk ho;unfold Grp.fits at hf;simp only [Bool.and_eq_true,decide_eq_true_eq] at hf;have:=hf.1.1;exact ⟨Int.le_refl _,fun h14=>by omega⟩
 ·unfold dL at hc;simp only [decide_eq_true_eq] at hc;refine ⟨?_,fun h14=>by omega⟩;unfold TS.operate at hv;dsimp only at hv
  repeat' split at hv
  all_goals first
   | (cases hv;done)
   | (cases hv;exact Int.le_refl _)
   | (simp only [Option.map_eq_some_iff] at hv;obtain ⟨ks,_,rfl⟩:=hv;exact Int.le_refl _)
 ·by_cases h14:e.kind=14
  ·unfold TS.simple at hv;dsimp only at hv;rw [if_neg (by omega),if_neg (by omega),if_neg (by omega),if_neg (by omega),if_neg (by omega),if_neg (by omega),if_pos h14] at hv;split at hv
   ·cases hv
   ·rename_i hne;cases hv;exact ⟨by dsimp only;omega,fun _=>⟨by omega,rfl⟩⟩
  ·refine ⟨?_,fun h=>absurd h h14⟩;unfold TS.simple at hv;dsimp only at hv
   repeat' split at hv
   all_goals first
    | (cases hv;done)
    | (cases hv;exact Int.le_refl _)
    | (exfalso;omega)
theorem KY {t u:TS} {e:Ev} (h:t.add e=some u) {x:Int} {c:Ch} (hc:t.chans x=some c):∃ c',u.chans x=some c'∧c'.cap=c.cap:=by
 have hput:∀ c1:Ch,(e.obj=x→c1.cap=c.cap)→∃ c',upd t.chans e.obj c1 x=some c'∧c'.cap=c.cap:=fun c1 h1=>by
  by_cases hx:x=e.obj
  ·subst hx;exact ⟨c1,upd_same _ _ _,h1 rfl⟩
  ·exact ⟨c,by rw [fJ _ _ hx];exact hc,rfl⟩
 obtain ⟨_,v,rfl,hv⟩:=iT h
 rcases hv with ⟨ho,hv⟩ | ⟨ho,hk,hv⟩ | ⟨ho,hk,hv⟩
 ·obtain ⟨hf,rfl⟩:=qw hv;refine hput _ (fun hx=>?_);subst hx;rw [jq,hc];rfl
 ·have hch:e.obj=x→(t.chan e).cap=c.cap:=fun hx=>by subst hx;unfold TS.chan;rw [hc]
  unfold TS.operate at hv;dsimp only at hv
  repeat' split at hv
  all_goals first
   | (cases hv;done)
   | (cases hv;exact ⟨c,hc,rfl⟩)
   | (cases hv;exact hput _ hch)
   | (simp only [Option.map_eq_some_iff] at hv;obtain ⟨ks,_,rfl⟩:=hv;exact hput _ (fun hx=>by rw [jq];exact hch hx))
 ·unfold TS.simple at hv;dsimp only at hv
  repeat' split at hv
  all_goals first
   | (cases hv;done)
   | (cases hv;exact ⟨c,hc,rfl⟩)
def cu (l:List Ev) (n:Nat):TS:=(TS.new.steps (l.take n)).getD TS.new
section
variable {l:List Ev} (hc:chk l=l.length)
include hc
theorem nC {n:Nat} (hn:n≤l.length):TS.new.steps (l.take n)=some (cu l n):=by
 obtain ⟨u,hu⟩:=TS.yu TS.new l (Nat.le_refl _);unfold chk at hc;rw [hc,List.take_length] at hu;rw [←List.take_append_drop n l,TS.mP,Option.bind_eq_some_iff] at hu;obtain ⟨t,ht,_⟩:=hu;unfold cu;rw [ht];rfl
theorem cK {n:Nat} (hn:n < l.length):(cu l n).add (ay l n)=some (cu l (n+1)):=by
 have h1:=nC hc (n:=n) (by omega);have h2:=nC hc (n:=n+1) hn;have he:l[n]? = some (ay l n):=by rw [pF (List.getElem?_eq_getElem hn)];exact List.getElem?_eq_getElem hn
 rw [List.take_add_one,he,TS.mP,h1] at h2;simp only [Option.toList_some,Option.bind_some,TS.steps] at h2
 cases ha:(cu l n).add (ay l n) with
 | none=>rw [ha] at h2;cases h2
 | some u=>rw [ha] at h2;simpa using h2
theorem d9 {n:Nat} (hn:n≤l.length):(∃ r,Rel r (cu l n))∧(cu l n).wf∧oU (cu l n):=by
 induction n with
 | zero=>exact ⟨⟨_,Rel.new⟩,TS.OU,oU.new⟩
 | succ n ih =>
   obtain ⟨⟨r,hr⟩,hw,hb⟩:=ih (by omega);have ha:=cK hc (n:=n) hn;have hst:=hr.step hw (ay l n);rw [ha] at hst;obtain ⟨r',_,hr'⟩:=hst;exact ⟨⟨r',hr'⟩,TS.add_wf hw ha,(zQ hr hb ha).1⟩
theorem DI {m n:Nat} (hmn:m≤n) (hn:n≤l.length):(cu l m).gor≤(cu l n).gor:=by
 induction n with
 | zero=>have:m=0:=by omega
         subst this;exact Int.le_refl _
 | succ n ih =>
   rcases Nat.lt_or_eq_of_le hmn with h | h
   ·obtain ⟨⟨r,hr⟩,_,_⟩:=d9 hc (n:=n) (by omega);have h1:=(rX hr (cK hc hn)).1;have h2:=ih (by omega) (by omega);omega
   ·subst h;exact Int.le_refl _
theorem NS {m n:Nat} (hmn:m≤n) (hn:n≤l.length) {x:Int} {c:Ch} (h:(cu l m).chans x=some c):∃ c',(cu l n).chans x=some c'∧c'.cap=c.cap:=by
 induction n with
 | zero=>have:m=0:=by omega
         subst this;exact ⟨c,h,rfl⟩
 | succ n ih =>
   rcases Nat.lt_or_eq_of_le hmn with h1 | h1
   ·obtain ⟨c',h2,h3⟩:=ih (by omega) (by omega);obtain ⟨c'',h4,h5⟩:=KY (cK hc hn) h2;exact ⟨c'',h4,h5.trans h3⟩
   ·subst h1;exact ⟨c,h,rfl⟩
theorem uJ {p q:Nat} (hpq:p≤q) (hq:q < l.length) (kp:dL (ay l p).kind=true) (kq:dL (ay l q).kind=true) (ho:(ay l p).obj=(ay l q).obj):(ay l p).n=(ay l q).n:=by
 have after:∀ n,n < l.length→dL (ay l n).kind=true→∃ c,(cu l (n+1)).chans (ay l n).obj=some c∧c.cap=(ay l n).n:=fun n hn hk=>by
  obtain ⟨⟨r,hr⟩,_,hb⟩:=d9 hc (n:=n) (by omega);exact (zQ hr hb (cK hc hn)).2.2 hk
 obtain ⟨c,h1,h2⟩:=after p (by omega) kp;obtain ⟨d,h3,h4⟩:=after q hq kq;obtain ⟨c',h5,h6⟩:=NS hc (m:=p+1) (n:=q+1) (by omega) hq h1;rw [ho,h3] at h5;cases h5;omega
theorem VL.of:VL l:=by
 refine ⟨?_,fun p q hp hq h1 h2 h3=>?_,fun p q hp hq h1 h2 h3=>?_⟩
 ·intro e he;obtain ⟨i,hi,rfl⟩:=List.getElem_of_mem he;have h1:=cK hc hi;rw [pF (List.getElem?_eq_getElem hi)] at h1;exact (iT h1).1
 ·have key:∀ p q,p < q→q < l.length→(ay l p).kind=14→(ay l q).kind=14→(ay l p).k≠(ay l q).k:=fun p q hpq hq h1 h2=>by
   obtain ⟨⟨r,hr⟩,_,_⟩:=d9 hc (n:=p) (by omega);obtain ⟨⟨r',hr'⟩,_,_⟩:=d9 hc (n:=q) (by omega);have a1:=(rX hr (cK hc (by omega))).2 h1;have a2:=(rX hr' (cK hc hq)).2 h2;have a3:=DI hc (m:=p+1) (n:=q) hpq (by omega);omega
  rcases Nat.lt_trichotomy p q with h | h | h
  ·exact absurd h3 (key p q h hq h1 h2)
  ·exact h
  ·exact absurd h3.symm (key q p h hp h2 h1)
 ·have k1:dL (ay l p).kind=true:=by unfold dL;simp [h1]
  have k2:dL (ay l q).kind=true:=by unfold dL;simp [h2]
  rcases Nat.le_total p q with h | h
  ·exact uJ hc h hq k1 k2 h3
  ·exact (uJ hc h hp k2 k1 h3.symm).symm
end
structure GK (t:TS):Prop where
 a:t.isOpen=true→15 ∈ t.grp.kinds→t.dG t.grp.obj=t.grp.k
 b:t.isOpen=true→15 ∉ t.grp.kinds→16 ∈ t.grp.kinds→t.dG t.grp.obj=t.grp.k+1
 c:t.isOpen=true→17 ∈ t.grp.kinds→t.dD t.grp.obj=t.grp.k
 d:t.isOpen=true→17 ∉ t.grp.kinds→18 ∈ t.grp.kinds→t.dD t.grp.obj=t.grp.k+1
 sh:t.grp.kinds=[]∨t.grp.kinds=[16]∨t.grp.kinds=[17,18,16]∨t.grp.kinds=[18,16]∨t.grp.kinds=[18]∨t.grp.kinds=[15,18,16]
theorem GK.new:GK TS.new:=⟨fun h=>(by cases h),fun h=>(by cases h),fun h=>(by cases h),fun h=>(by cases h),.inl rfl⟩
theorem QM {t:TS} (h:t.isOpen=true):t.grp.kinds≠[]:=fun e=>by unfold TS.isOpen at h;rw [e] at h;cases h
theorem GK.proceed {t:TS} (h:GK t) (ho:t.isOpen=true) {e:Ev} {v:TS} (hc:yg t v e) (hv:t.proceed e=some v):GK v:=by
 unfold TS.proceed at hv;split at hv
 ·rename_i hf;cases hv;unfold Grp.fits at hf;simp only [Bool.and_eq_true,decide_eq_true_eq] at hf;obtain ⟨⟨hk,hobj,hek,hen⟩,_⟩:=hf;have hkinds:(t.grp.next e).kinds=t.grp.kinds.tail:=by unfold Grp.next;split <;> rfl
  have hgo:(t.grp.next e).obj=t.grp.obj:=by unfold Grp.next;split <;> rfl
  have hgk:(t.grp.next e).k=t.grp.k:=by unfold Grp.next;split <;> rfl
  have h1:=hc.s t.grp.obj;have h2:=hc.r t.grp.obj;have ha:=h.a ho;have hb:=h.b ho;have hcc:=h.c ho;have hd:=h.d ho
  have key:∀ ks,t.grp.kinds=ks→GK { t.count e with grp:=t.grp.next e }:=fun ks hks=>by
   rcases h.sh with q | q | q | q | q | q
   ·exact absurd q (QM ho)
   all_goals
    rw [q] at hk hkinds ha hb hcc hd;simp only [List.headD_cons,List.tail_cons] at hk hkinds;refine ⟨fun o m=>?_,fun o m1 m2=>?_,fun o m=>?_,fun o m1 m2=>?_,?_⟩
    all_goals first
     | (show (t.grp.next e).kinds=[]∨_;rw [hkinds];simp;done)
     | skip
    all_goals
     dsimp only at *;rw [hkinds] at *
     first
      | (exfalso;revert m;simp;done)
      | (exfalso;revert m2;simp;done)
      | (rw [hgo,hgk];simp [hk,hobj] at h1 h2 ha hb hcc hd ⊢;omega)
  exact key _ rfl
 ·cases hv
theorem GK.same {t v:TS} (h:GK t) (hg:v.grp=t.grp) (hs:∀ x,v.dG x=t.dG x) (hr:∀ x,v.dD x=t.dD x):GK v:=by
 have ho:v.isOpen=t.isOpen:=by unfold TS.isOpen;rw [hg]
 refine ⟨fun o m=>?_,fun o m1 m2=>?_,fun o m=>?_,fun o m1 m2=>?_,by rw [hg];exact h.sh⟩
 ·rw [hg] at m ⊢;rw [hs];exact h.a (ho ▸ o) m
 ·rw [hg] at m1 m2 ⊢;rw [hs];exact h.b (ho ▸ o) m1 m2
 ·rw [hg] at m ⊢;rw [hr];exact h.c (ho ▸ o) m
 ·rw [hg] at m1 m2 ⊢;rw [hr];exact h.d (ho ▸ o) m1 m2
theorem GK.shut {v:TS} (ho:v.isOpen=false) (hk:v.grp.kinds=[]):GK v :=
 ⟨fun o=>absurd o (by rw [ho];decide),fun o=>absurd o (by rw [ho];decide),fun o=>absurd o (by rw [ho];decide),fun o=>absurd o (by rw [ho];decide),.inl hk⟩
theorem GK.operate {r:RSt} {t:TS} (hr:Rel r t) (hb:oU t) (hg:GK t) (ho:t.isOpen=false) {e:Ev} (hn:0≤e.n) {v:TS} (hv:t.operate e=some v) (hc:yg t v e):GK v:=by
 have hkn:t.grp.kinds=[]:=by
  unfold TS.isOpen at ho;have:=of_decide_eq_false ho;exact List.length_eq_zero_iff.1 (by omega)
 obtain ⟨hs,hrv⟩:=oH (t:=t) e;obtain ⟨hbl1,hbl2⟩:=CO hr hb ho hn;have h1:=hc.s e.obj;have h2:=hc.r e.obj;unfold TS.operate at hv;dsimp only at hv;split at hv
 ·cases hv
 split at hv
 ·split at hv
  ·cases hv
  ·cases hv;exact GK.shut (by unfold TS.isOpen;rw [show (_:TS).grp=t.grp from rfl,hkn];rfl) hkn
 split at hv
 ·split at hv
  ·cases hv;exact hg
  ·cases hv
 split at hv
 ·rename_i hk;split at hv
  ·cases hv
  rename_i hcond;rw [not_or] at hcond;have hek:e.k=(t.chan e).sent:=Classical.not_not.1 hcond.2;rw [Option.map_eq_some_iff] at hv;obtain ⟨ks,hms,rfl⟩:=hv;rw [if_pos ⟨rfl,hk⟩] at h1;rw [if_neg (fun q=>by have:=q.2;omega)] at h2
  unfold Ch.missing at hms;rw [if_pos rfl] at hms;split at hms
  ·cases hms;exact ⟨fun _ m=>by simp [TS.start] at m,fun _ _ _=>by show _=e.k+1;rw [show ((t.start e (t.chan e) [16] e.g (-1)).grp.obj)=e.obj from rfl,h1];omega,fun _ m=>by simp [TS.start] at m,fun _ _ m=>by simp [TS.start] at m,.inr (.inl rfl)⟩
  ·split at hms
   ·rename_i hlt hz;cases hms;exact ⟨fun _ m=>by simp [TS.start] at m,fun _ _ _=>by show _=e.k+1;rw [show ((t.start e (t.chan e) [17,18,16] e.g (-1)).grp.obj)=e.obj from rfl,h1];omega,fun _ _=>by show _=e.k;rw [show ((t.start e (t.chan e) [17,18,16] e.g (-1)).grp.obj)=e.obj from rfl,h2];omega,fun _ m _=>absurd (by simp [TS.start]) m,.inr (.inr (.inl rfl))⟩
   ·cases hms
 split at hv
 ·rename_i hk;split at hv
  ·cases hv
  rename_i hcond;have hek:e.k=(t.chan e).recv:=Classical.not_not.1 hcond;rw [Option.map_eq_some_iff] at hv;obtain ⟨ks,hms,rfl⟩:=hv;rw [if_neg (fun q=>by have:=q.2;omega)] at h1
  rw [if_pos ⟨rfl,hk⟩] at h2;unfold Ch.missing at hms;rw [if_neg (by decide)] at hms;split at hms
  ·cases hms;exact ⟨fun _ m=>by simp [TS.start] at m,fun _ _ m=>by simp [TS.start] at m,fun _ m=>by simp [TS.start] at m,fun _ _ _=>by show _=e.k+1;rw [show ((t.start e (t.chan e) [18] (-1) e.g).grp.obj)=e.obj from rfl,h2];omega,.inr (.inr (.inr (.inr (.inl rfl))))⟩
  ·split at hms
   ·cases hms;exact ⟨fun _ _=>by show _=e.k;rw [show ((t.start e (t.chan e) [15,18,16] (-1) e.g).grp.obj)=e.obj from rfl,h1];omega,fun _ m _=>absurd (by simp [TS.start]) m,fun _ m=>by simp [TS.start] at m,fun _ _ _=>by show _=e.k+1;rw [show ((t.start e (t.chan e) [15,18,16] (-1) e.g).grp.obj)=e.obj from rfl,h2];omega,.inr (.inr (.inr (.inr (.inr rfl))))⟩
   ·cases hms
 ·cases hv
theorem wB {t:TS} {e:Ev} {v:TS} (hv:t.simple e=some v):v.grp=t.grp:=by
 unfold TS.simple at hv;dsimp only at hv
 repeat' split at hv
 all_goals first
  | (cases hv;done)
  | (cases hv;rfl)
theorem GK.add {r:RSt} {t u:TS} (h:Rel r t) (hb:oU t) (hg:GK t) {e:Ev} (ha:t.add e=some u):GK u:=by
 obtain ⟨hv,v,rfl,hc⟩:=iT ha;have hn:=(Ev.nH hv).1
 have lift:GK v→GK { v with events:=v.events+1 }:=fun h=>⟨h.a,h.b,h.c,h.d,h.sh⟩
 rcases hc with ⟨ho,hc⟩ | ⟨ho,hk,hc⟩ | ⟨ho,hk,hc⟩
 ·exact lift (hg.proceed ho (tV h hb ho hc).2.1 hc)
 ·exact lift (hg.operate h hb ho hn hc (tQ h hb ho hn hc).2.1)
 ·refine lift (GK.shut ?_ ?_)
  ·unfold TS.isOpen;rw [wB hc];exact ho
  ·rw [wB hc];unfold TS.isOpen at ho;have:=of_decide_eq_false ho;exact List.length_eq_zero_iff.1 (by omega)
section
variable {l:List Ev} (hc:chk l=l.length)
include hc
theorem Ky {n:Nat} (hn:n≤l.length):GK (cu l n):=by
 induction n with
 | zero=>exact GK.new
 | succ n ih =>
   obtain ⟨⟨r,hr⟩,hw,hb⟩:=d9 hc (n:=n) (by omega);exact (ih (by omega)).add hr hb (cK hc hn)
theorem pz {j:Nat} (hj:j < l.length):yg (cu l j) (cu l (j+1)) (ay l j):=by
 obtain ⟨⟨r,hr⟩,hw,hb⟩:=d9 hc (n:=j) (by omega);exact (zQ hr hb (cK hc hj)).2.1
theorem Oq {j:Nat} (hj:j < l.length) (hk:(ay l j).kind=15):(ay l j).k=(cu l j).dG (ay l j).obj:=by
 obtain ⟨⟨r,hr⟩,hw,hb⟩:=d9 hc (n:=j) (by omega);obtain ⟨hv,v,_,hcs⟩:=iT (cK hc hj);have hG:=Ky hc (n:=j) (by omega)
 rcases hcs with ⟨ho,hp⟩ | ⟨ho,_,hp⟩ | ⟨ho,hcb,hp⟩
 ·unfold TS.proceed at hp;split at hp
  ·rename_i hf;unfold Grp.fits at hf;simp only [Bool.and_eq_true,decide_eq_true_eq] at hf;obtain ⟨⟨h1,h2,h3,h4⟩,_⟩:=hf;rw [h3,h2];refine (hG.a ho ?_).symm;rw [hk] at h1
   rcases hG.sh with q | q | q | q | q | q <;> rw [q] at h1 ⊢ <;> simp at h1 ⊢
  ·cases hp
 ·unfold TS.operate at hp;dsimp only at hp;rw [←(oH (t:=cu l j) (ay l j)).1];split at hp
  ·cases hp
  rw [if_neg (by rw [hk];decide),if_neg (by rw [hk];decide)] at hp
  split at hp
  ·cases hp
  ·rename_i hcond;rw [not_or] at hcond;exact Classical.not_not.1 hcond.2
 ·unfold dL at hcb;have:=of_decide_eq_false hcb;omega
theorem Ot {j:Nat} (hj:j < l.length) (hk:(ay l j).kind=17):(ay l j).k=(cu l j).dD (ay l j).obj:=by
 obtain ⟨⟨r,hr⟩,hw,hb⟩:=d9 hc (n:=j) (by omega);obtain ⟨hv,v,_,hcs⟩:=iT (cK hc hj);have hG:=Ky hc (n:=j) (by omega)
 rcases hcs with ⟨ho,hp⟩ | ⟨ho,_,hp⟩ | ⟨ho,hcb,hp⟩
 ·unfold TS.proceed at hp;split at hp
  ·rename_i hf;unfold Grp.fits at hf;simp only [Bool.and_eq_true,decide_eq_true_eq] at hf;obtain ⟨⟨h1,h2,h3,h4⟩,_⟩:=hf;rw [h3,h2];refine (hG.c ho ?_).symm;rw [hk] at h1
   rcases hG.sh with q | q | q | q | q | q <;> rw [q] at h1 ⊢ <;> simp at h1 ⊢
  ·cases hp
 ·unfold TS.operate at hp;dsimp only at hp;rw [←(oH (t:=cu l j) (ay l j)).2];split at hp
  ·cases hp
  rw [if_neg (by rw [hk];decide),if_neg (by rw [hk];decide),if_neg (by rw [hk];decide)] at hp
  split at hp
  ·cases hp
  ·rename_i hcond;exact Classical.not_not.1 hcond
 ·unfold dL at hcb;have:=of_decide_eq_false hcb;omega
theorem at_end {j:Nat} (hj:j < l.length) (hk:(ay l j).kind=16∨(ay l j).kind=18) :
 (cu l j).isOpen=true∧(ay l j).kind=(cu l j).grp.kinds.headD 0∧(ay l j).obj=(cu l j).grp.obj∧(ay l j).k=(cu l j).grp.k∧(ay l j).n=(cu l j).grp.n:=by
 obtain ⟨hv,v,_,hcs⟩:=iT (cK hc hj)
 rcases hcs with ⟨ho,hp⟩ | ⟨ho,_,hp⟩ | ⟨ho,hcb,hp⟩
 ·unfold TS.proceed at hp;split at hp
  ·rename_i hf;unfold Grp.fits at hf;simp only [Bool.and_eq_true,decide_eq_true_eq] at hf;exact ⟨ho,hf.1⟩
  ·cases hp
 ·unfold TS.operate at hp;dsimp only at hp;split at hp
  ·cases hp
  rw [if_neg (by omega),if_neg (by omega),if_neg (by omega),if_neg (by omega)] at hp;cases hp
 ·unfold dL at hcb;have:=of_decide_eq_false hcb;omega
theorem VJ {j:Nat} (hj:j < l.length) (hk:(ay l j).kind=18):(ay l j).k < (cu l j).dG (ay l j).obj∧(cu l j).dG (ay l j).obj≤(ay l j).k+(ay l j).n+1:=by
 obtain ⟨ho,h1,h2,h3,h4⟩:=at_end hc hj (.inr hk);obtain ⟨⟨r,hr⟩,hw,hb⟩:=d9 hc (n:=j) (by omega);have hG:=Ky hc (n:=j) (by omega);obtain ⟨c,hcc,hcap⟩:=hb.op ho;have ha:=hb.a _ _ hcc;have hbb:=hb.b _ _ hcc;have es:(cu l j).dG (cu l j).grp.obj=c.sent:=by unfold TS.dG;rw [hcc];rfl
 have er:(cu l j).dD (cu l j).grp.obj=c.recv:=by unfold TS.dD;rw [hcc];rfl
 rw [hk] at h1;have w1:(cu l j).w15 (cu l j).grp.obj=0:=if_neg (fun q=>by have:=q.2;omega)
 have w2:(cu l j).w17 (cu l j).grp.obj=0:=if_neg (fun q=>by have:=q.2;omega)
 have hd:=hG.d ho (by rcases hG.sh with q | q | q | q | q | q <;> rw [q] at h1 ⊢ <;> simp at h1 ⊢) (by rcases hG.sh with q | q | q | q | q | q <;> rw [q] at h1 ⊢ <;> simp at h1 ⊢)
 rw [h2,h3,h4,es];omega
theorem at16 {j:Nat} (hj:j < l.length) (hk:(ay l j).kind=16):(ay l j).k - (ay l j).n < (cu l j).dD (ay l j).obj∧(cu l j).dD (ay l j).obj≤(ay l j).k+1:=by
 obtain ⟨ho,h1,h2,h3,h4⟩:=at_end hc hj (.inl hk);obtain ⟨⟨r,hr⟩,hw,hb⟩:=d9 hc (n:=j) (by omega);have hG:=Ky hc (n:=j) (by omega);obtain ⟨c,hcc,hcap⟩:=hb.op ho;have ha:=hb.a _ _ hcc;have hbb:=hb.b _ _ hcc;have es:(cu l j).dG (cu l j).grp.obj=c.sent:=by unfold TS.dG;rw [hcc];rfl
 have er:(cu l j).dD (cu l j).grp.obj=c.recv:=by unfold TS.dD;rw [hcc];rfl
 rw [hk] at h1;have w1:(cu l j).w15 (cu l j).grp.obj=0:=if_neg (fun q=>by have:=q.2;omega)
 have w2:(cu l j).w17 (cu l j).grp.obj=0:=if_neg (fun q=>by have:=q.2;omega)
 have hd:=hG.b ho (by rcases hG.sh with q | q | q | q | q | q <;> rw [q] at h1 ⊢ <;> simp at h1 ⊢) (by rcases hG.sh with q | q | q | q | q | q <;> rw [q] at h1 ⊢ <;> simp at h1 ⊢)
 rw [h2,h3,h4,er];omega
theorem Rj {j:Nat} (hj:j≤l.length) {x:Int}:0≤(cu l j).dG x∧∀ K:Int,0≤K→K < (cu l j).dG x→∃ i,i < j∧(ay l i).kind=15∧(ay l i).obj=x∧(ay l i).k=K:=by
 induction j with
 | zero=>exact ⟨Int.le_refl _,fun K h0 h1=>by rw [show (cu l 0).dG x=0 from rfl] at h1;omega⟩
 | succ j ih =>
   obtain ⟨ih0,ih⟩:=ih (by omega);have hs:=(pz hc (j:=j) hj).s x;refine ⟨by rw [hs];split <;> omega,fun K h0 h1=>?_⟩
   rw [hs] at h1;split at h1
   ·rename_i hq
    by_cases hK:K < (cu l j).dG x
    ·obtain ⟨i,q1,q2⟩:=ih K h0 hK;exact ⟨i,by omega,q2⟩
    ·refine ⟨j,Nat.lt_succ_self _,hq.2,hq.1,?_⟩;rw [Oq hc hj hq.2,hq.1];omega
   ·obtain ⟨i,q1,q2⟩:=ih K h0 (by omega);exact ⟨i,by omega,q2⟩
theorem Ue {j:Nat} (hj:j≤l.length) {x:Int}:0≤(cu l j).dD x∧∀ K:Int,0≤K→K < (cu l j).dD x→∃ i,i < j∧(ay l i).kind=17∧(ay l i).obj=x∧(ay l i).k=K:=by
 induction j with
 | zero=>exact ⟨Int.le_refl _,fun K h0 h1=>by rw [show (cu l 0).dD x=0 from rfl] at h1;omega⟩
 | succ j ih =>
   obtain ⟨ih0,ih⟩:=ih (by omega);have hs:=(pz hc (j:=j) hj).r x;refine ⟨by rw [hs];split <;> omega,fun K h0 h1=>?_⟩
   rw [hs] at h1;split at h1
   ·rename_i hq
    by_cases hK:K < (cu l j).dD x
    ·obtain ⟨i,q1,q2⟩:=ih K h0 hK;exact ⟨i,by omega,q2⟩
    ·refine ⟨j,Nat.lt_succ_self _,hq.2,hq.1,?_⟩;rw [Ot hc hj hq.2,hq.1];omega
   ·obtain ⟨i,q1,q2⟩:=ih K h0 (by omega);exact ⟨i,by omega,q2⟩
end
end Go.Proofs.Ytffcpijeebagfaa
end
