/- The reader, as the document gives it: the events of a data block. -/
import Derived.Test.YtkafcpnahpfbfaaMq6
set_option linter.unusedSimpArgs false
set_option linter.unusedVariables false
section
namespace Go.Proofs.Ytkafcpnahpfbfaa
open Go Go.RowKit
set_option maxRecDepth 1000000
set_option maxHeartbeats 4000000
def pG (f:Fl):Option Fl→List Hw
 | some g=>[iq g.pa,.one (.d (.sc (.bool true)))]
 | none=>[iq f.pa,.one (.d (.sc (.bool false)))]
noncomputable def RQ (kind:Nat) (b:List Nat) (f:Fl):List Hw:=pG f (kL kind b f)
def SB (hp:Nat→Hb) (az:List Hw) (Post:(Nat→Hb)→List Hw→Prop):Prop:=∃ (f:Fl) (kind:Nat) (b:List Nat),az=[iq f.pa,.one (.d (.sc (.int .u8 (kind:Int)))),.one (.d (.im (byR b)))] ∧
 ((∀ k,hp k=.no)∧NR f∧b.length≤400000∧(∀ x ∈ b,x≤255)∧kind≤255)∧Post=fun _ r=>r=RQ kind b f
noncomputable def mY:Env:=m1 51 lK (m1 63 FK (m1 62 FL (h1 38 Rx (e1 35 oC e0))))
theorem Ih:aA Try.prog mY:=aA.m1 Au (aA.m1 UF (aA.m1 UH (aA.h1 Vw (aA.e1 yX aA.e0))))
def Aq:PC:=bC (bC (bC (bC (bC (bC (bC (bC (bC pcd53))))))))
def J6:PC:=bC (bC (bC (bC (bC (bC (bC pcd53))))))
def QC (f:Fl) (M:Option Fl):Exit→St→Prop:=fun e s=>(e=.normal∨e=.ret)∧∃ (hp':Nat→Hb) (rs:List Hw),s.gW prd53=some rs∧(∀ x,hp' x=s.hb x∨(hp' x=.dead∧s.hb x≠.no))∧rs=pG f M
theorem GN:∀ (es:List Ev) (l:Ev),es≠[]→es[es.length - 1]? = some (lst l es)
 | [],_,h=>absurd rfl h
 | [e],_,_=>rfl
 | e :: e2 :: es,l,_=>by
   have:=GN (e2 :: es) e (fun q=>by cases q)
   show (e :: e2 :: es)[(e2 :: es).length]? = some (lst e (e2 :: es))
   rw [←this];rfl
def zK (l:List Int) (S:Rs) (k:Nat):List Int:=(fM (l.take k) S).1 ++ l.drop k
theorem Jk {l:List Int} {S:Rs} {k:Nat} {x:Int} (h:l[k]? = some x):(zK l S k)[k]? = some x∧(zK l S (k+1))=(zK l S k).set k (x+jf (aP (fM (l.take k) S).2).1)∧(fM (l.take (k+1)) S).2=(aP (fM (l.take k) S).2).2:=by
 obtain ⟨hk,rfl⟩:=List.getElem?_eq_some_iff.1 h;have hl:(fM (l.take k) S).1.length=k:=by rw [nS,List.length_take];omega
 have ht:l.take (k+1)=l.take k ++ [l[k]]:=List.take_succ_eq_append_getElem hk;have hd:l.drop k=l[k] :: l.drop (k+1):=List.drop_eq_getElem_cons hk;refine ⟨?_,?_,?_⟩
 ·unfold zK;rw [List.getElem?_append_right (by omega),hl,Nat.sub_self,hd];rfl
 ·unfold zK;rw [ht,wV,hd,List.set_append_right _ _ (by omega),hl,Nat.sub_self,List.append_assoc];rfl
 ·rw [ht,wV];rfl
theorem MQ (l:List Int) (S:Rs) (k:Nat):(zK l S k).length=l.length:=by
 unfold zK;rw [List.length_append,nS,List.length_take,List.length_drop];omega
theorem sO:∀ (cs:List Hc) (k:Nat) (x:Hc),iR cs k [x]=cs.set k x
 | [],_,_=>rfl
 | c :: cs,0,x=>by show x :: iR cs 0 []=_;rw [jr];rfl
 | c :: cs,k+1,x=>by show c :: iR cs k [x]=_;rw [sO cs k x];rfl
theorem KN {f:Fl} {b:List Nat} {D:Dep} {c:Nat} {C:Rs} {M:Option Fl} (hok:NR f) (hbl:b.length≤400000) (hby:∀ x ∈ b,x≤255) (hCs:C.rest <:+ b) (hCb:C.bad=false) (hc:1≤c∧c≤16) (hel:f.es.length+c≤5000) (hDl:D.st.length≤1000000)
 (hM:(match qI c (lst ev0 f.es) D C with
  | none=>none
  | some (evs,s)=>if s.rest≠[]∨(f.d.st.length < D.st.length∧grM evs≠(D.st.length:Int) - 1) then none else some (⟨f.es ++ evs,D,f.ns ++ [c],f.en⟩:Fl))=M)
 {st:St} (t2:st.sl 2=.b (.one (.d (.im (byR b))))) (t3:st.sl 3=.b (.one (.ptr 3 1 0))) (t6:st.sl 6=.b (.one (.ptr 6 1 0))) (t7:st.sl 7=aB false) (t8:st.sl 8=.b (.one (.ptr 22 1 0))) (t9:st.sl 9=aI (f.d.st.length:Int)) (t10:st.sl 10=.b (.one (.ptr 10 1 0))) (t12:st.sl 12=aI (c:Int))
 (o3:st.gen 3=1∧st.ob 3=.cells (f.row.map .d)) (o6:st.gen 6=1∧∃ cs,st.ob 6=.cells cs∧cs.length=5) (o22:st.gen 22=1∧st.ob 22=.cells ((eY b C).map .d)) (o10:st.gen 10=1∧st.ob 10=.cells (D.row.map .d)) (hno:∀ k,st.hb k=.no) (hnc:st.nc=fun _=>1) (hal:aG st) (t13:st.sl 13=.b (.one (.ptr 13 (st.gen 13) 0))) (o13:st.ob 13=.cells ((lst ev0 f.es).row.map .d)) :
 pwp mY Aq (exS mY [] (QC f M)) st:=by
 obtain ⟨g3,o3⟩:=o3;obtain ⟨g6,z6,o6,z6l⟩:=o6
 obtain ⟨u0,u1,u2,u3,u4,rfl⟩:∃ a b c d e,z6=[a,b,c,d,e]:=by match z6,z6l with | [a,b,c,d,e],_=>exact ⟨a,b,c,d,e,rfl⟩
 obtain ⟨g22,o22⟩:=o22;obtain ⟨g10,o10⟩:=o10;simp only [Fl.row,Dep.row,List.map_cons,List.map_nil] at o3 o10;obtain ⟨G13,hG13⟩:∃ G,st.gen 13=G:=⟨_,rfl⟩
 obtain ⟨G120,hG120⟩:∃ G,st.gen 120+1=G:=⟨_,rfl⟩
 rw [hG13] at t13;have q1:(f.es.map Ev.row).length=f.es.length:=List.length_map ..;have q1':(∀ r ∈ f.es.map Ev.row,r.length=9)=True:=eq_true fun r hr=>by obtain ⟨x,_,rfl⟩:=List.mem_map.1 hr;rfl
 have q2:f.es.length≤1000000:=by have:=hok.el;omega
 have q4:(D.st.map aQ).length=D.st.length:=List.length_map ..;have hbr:=aY b;unfold Aq pcd53;simp only [bC];simp only [↓evP,evB,stB,reduceIte,seval,t3,g3,o3,q1,q1',q2,hG120];refine jm (fun T=>aG T∧(∀ k,T.hb k=.no)∧T.nc=fun _=>1) ⟨(by repeat' (first | exact aG.init | assumption | exact aO (by assumption) | (refine aG.ap ?_ rfl))),fun k=>by simp only [stB,Nat.reduceLT,hno],by simp only [stB,hnc]⟩ [2,3,6,7,8,9,10,12,13,14,15,16] [3,6,22,10,13,120] (fun T hT hs2 ho2=>?_);simp only [stB,Nat.reduceEqDiff,t2,t3,t6,t7,t8,t9,t10,t12,t13,g3,o3,g6,o6,g22,o22,g10,o10,hG13,o13,hG120] at hs2 ho2;obtain ⟨r2,r3,r6,r7,r8,r9,r10,r12,r13,r14,r15,r16⟩:=hs2;obtain ⟨⟨y3,x3⟩,⟨y6,x6⟩,⟨y22,x22⟩,⟨y10,x10⟩,⟨y13,x13⟩,y120,x120⟩:=ho2;obtain ⟨hTa,hTn,hTc⟩:=hT;obtain ⟨R,hR⟩:∃ R,qI c (lst ev0 f.es) D C=R:=⟨_,rfl⟩
 rw [hR] at hM;refine dG msd53_0 (120 :: 22 :: osd53_0) (fun m t=>∃ (i:Nat) (evs:List Ev) (l:Ev) (S:Rs),m=c - i∧i≤c∧t.sl 16=aI i∧(t.gen 13=G13∧t.ob 13=.cells (l.row.map .d))∧(t.sl 14=.b (.one (.own 120 G120 ((f.es ++ evs).map Ev.row)))∧t.gen 120=G120∧t.ob 120=.row 42 9 (f.es ++ evs).length)∧t.sl 15=aI (grM evs)∧(t.gen 22=1∧t.ob 22=.cells ((eY b S).map .d)∧S.bad=false)∧(t.gen 6=1∧t.ob 6=.cells [u0,u1,u2,u3,u4])∧(∀ k,i≤k→t.hb k=.no)∧S.rest <:+ b∧evG l∧evs.length=i∧(qI (c - i) l D S).map (fun p=>(evs ++ p.1,p.2))=R) c hTa ?_ ?_
 ·refine ⟨0,[],lst ev0 f.es,C,rfl,Nat.zero_le _,r16,⟨y13,x13⟩,⟨by rw [List.append_nil];exact r14,y120,by rw [List.append_nil];exact x120⟩,r15,⟨y22,x22,hCb⟩,⟨y6,x6⟩,fun k _=>hTn k,hCs,hok.ev,rfl,?_⟩
  rw [Nat.sub_zero,hR];cases R <;> rfl
 rintro m j hjn hja ⟨i,evs,l,S,rfl,hi,h16,⟨k13,w13⟩,⟨h14,k120,w120⟩,h15,⟨k22,w22,hSb⟩,⟨k6,w6⟩,hfr,hSs,hlg,hevl,hres⟩;simp only [stB,Nat.reduceLT,Nat.reduceBEq,hjn] at h16 k13 w13 h14 k120 w120 h15 k22 w22 k6 w6 hfr;obtain ⟨a1,a2,hRS,ha2⟩:=iZ b S;rw [hSb] at ha2;subst ha2;rw [hRS] at w22;simp only [List.map_cons,List.map_nil] at w22;simp only [Ev.row,List.map_cons,List.map_nil] at w13
 rcases Nat.lt_or_ge i c with hlt | hge
 ·have ilt:(i:Int) < (c:Int):=by omega
  obtain ⟨fu,hfu⟩:∃ fu,c - i=fu+1:=⟨c - i - 1,by omega⟩
  rw [hfu] at hres;simp only [↓evP,evB,stB,reduceIte,reduceCtorEq,seval,r12,r13,h16,k13,w13,ilt,decide_true];refine bK (up j.hb i (.cells (l.fl.map hI))) [.one (.h (.s i 0 9 9))] (by simp only [stB,hjn];exact ⟨l,i,rfl,hfr i (Nat.le_refl _),rfl,rfl⟩) ?_
  simp only [↓evP,evB,stB,reduceIte,seval];have hfl:l.fl.length=9:=rfl;refine dG msd53_1 (22 :: osd53_1) (fun m t=>∃ k:Nat,m=9 - k∧k≤9∧t.sl 18=aI k∧(t.gen 22=1∧t.ob 22=.cells ((eY b (fM (l.fl.take k) S).2).map .d))∧t.hb=up j.hb i (.cells ((zK l.fl S k).map hI))) 9 (by repeat' (first | exact aG.init | assumption | exact aO (by assumption) | (refine aG.ap ?_ rfl))) ?_ ?_
  ·exact ⟨0,rfl,Nat.zero_le _,by simp only [stB,Nat.reduceEqDiff,Nat.reduceBEq];first | done | rfl,⟨by simp only [stB,Nat.reduceBEq,k22],by simp only [stB,Nat.reduceLT,Nat.reduceBEq,w22];exact (by rw [show (fM [] S).2=S from rfl,hRS];rfl)⟩,by simp only [stB];rfl⟩
  rintro m2 j2 hjn2 hja2 ⟨k,rfl,hk,h18,⟨k22',w22'⟩,hhb⟩;simp only [stB,Nat.reduceEqDiff,Nat.reduceLT,Nat.reduceBEq,hjn2] at h18 k22' w22' hhb;obtain ⟨Sk,hSk⟩:∃ Sk,(fM (l.fl.take k) S).2=Sk:=⟨_,rfl⟩
  have hSks:Sk.rest <:+ b:=by rw [←hSk];exact (rD _ S).trans hSs
  rw [hSk] at w22';obtain ⟨b1,b2,hRk,hb2⟩:=iZ b Sk;rw [hRk] at w22';simp only [List.map_cons,List.map_nil] at w22';have hcell:j2.hb i=.cells ((zK l.fl S k).map hI):=by rw [hhb];exact dX
  obtain ⟨L,hL⟩:∃ L,(zK l.fl S k).map hI=L:=⟨_,rfl⟩
  have hLl:L.length=9:=by rw [←hL,List.length_map,MQ,hfl]
  rw [hL] at hcell
  rcases Nat.lt_or_ge k 9 with hk9 | hk9
  ·have gx:l.fl[k]? = some (l.fl[k]'(by omega)):=List.getElem?_eq_getElem _;have hxg:0≤l.fl[k]'(by omega)∧l.fl[k]'(by omega)≤2147483647:=hlg _ (List.getElem_mem _);obtain ⟨x,hx⟩:∃ x,l.fl[k]'(by omega)=x:=⟨_,rfl⟩
   rw [hx] at gx hxg;obtain ⟨m1,m2,m3⟩:=Jk (S:=S) gx;rw [hSk] at m2 m3;have gL:L[k]? = some (hI x):=by rw [←hL,List.getElem?_map,m1];rfl
   obtain ⟨n,hn⟩:∃ n,(aP Sk).1=n:=⟨_,rfl⟩
   have hnb:=lC Sk;rw [hn] at hnb m2;have hdb:=Pq hnb;obtain ⟨b3,b4,hRk2,hb4⟩:=iZ b (aP Sk).2;have hdif:FK [.im (byR b),dI b1,.sc (.bool b2)] [] [.im (byR b),dI b3,.sc (.bool b4)] [pI (jf n)]:=⟨b,Sk,hRk.symm,rfl,⟨by omega,hSks,hby⟩,hRk2.symm,by rw [hn]⟩;have klt:(k:Int) < 9:=by omega
   have k0:(0:Int)≤(k:Int):=by omega
   have wx:IntKind.i64.wrap (x+jf n)=x+jf n:=bY (by omega) (by omega);have wk:IntKind.i64.wrap ((k:Int)+1)=((k+1:Nat):Int):=by rw [bY (by omega) (by omega)];omega
   have kle:k+1≤9:=hk9;have hst:=sO L k (hI (x+jf n));simp only [↓evP,evB,stB,reduceIte,reduceCtorEq,seval,r8,h18,hcell,gL,klt,k0,k22',w22',hjn2,Nat.mul_one,decide_true];refine E8 [.im (byR b),dI b3,.sc (.bool b4)] [pI (jf n)] (by exact hdif) rfl ?_;simp only [↓evP,evB,stB,reduceIte,seval,h18,hcell,hLl,klt,k0,kle,wx,hst,hjn2,hTc,Nat.mul_one];refine ⟨(by unfold Drw;refine Eq.trans (b:=true) ?_ rfl;kernel_rfl),?_⟩
   refine ⟨_,by omega,(by repeat' (first | assumption | exact aT (by assumption) | (refine aK ?_ rfl rfl) | (refine aF ?_ rfl) | (refine aK ?_ rfl aN) | (refine aF ?_ aN) | (refine cK.in' ?_ (aT (by assumption)) rfl rfl))),k+1,rfl,hk9,by simp only [stB,Nat.reduceEqDiff,Nat.reduceBEq,h18,wk],⟨by simp only [stB,Nat.reduceBEq,k22'],?_⟩,?_⟩
   ·simp only [stB,Nat.reduceLT,Nat.reduceBEq,w22'];rw [m3,hRk2]
    first | done | rfl
   ·simp only [stB,Nat.reduceLT,hjn2,hTc,hhb];rw [m2,List.map_set,←hL]
    funext q
    simp only [ay];split <;> rfl
  ·have hke:k=9:=by omega
   subst hke;have ilt9:¬ ((9:Nat):Int) < 9:=by decide
   obtain ⟨⟨X,S'⟩,hX⟩:∃ X,fM l.fl S=X:=⟨_,rfl⟩
   have hXl:X.length=9:=by have:=nS l.fl S;rw [hX] at this;exact this
   obtain ⟨v0,v1,v2,v3,v4,v5,v6,v7,v8,rfl⟩:∃ a b c d e f g h i,X=[a,b,c,d,e,f,g,h,i]:=by
    match X,hXl with
    | [a,b,c,d,e,f,g,h,i],_=>exact ⟨a,b,c,d,e,f,g,h,i,rfl⟩
   have hSk':Sk=S':=by rw [←hSk,List.take_of_length_le (by rw [hfl];exact Nat.le_refl 9),hX]
   have hLe:L=[hI v0,hI v1,hI v2,hI v3,hI v4,hI v5,hI v6,hI v7,hI v8]:=by
    rw [←hL];unfold zK;rw [List.take_of_length_le (by rw [hfl];exact Nat.le_refl 9),hX,List.drop_of_length_le (by rw [hfl];exact Nat.le_refl 9)]
    rfl
   subst hSk' hLe;obtain ⟨e,he⟩:∃ e:Ev,e=⟨v0,v1,v2,v3,v4,v5,v6,v7,v8⟩:=⟨_,rfl⟩
   have hee:uU [v0,v1,v2,v3,v4,v5,v6,v7,v8]=e:=by rw [he];rfl
   unfold qI at hres;rw [hX] at hres;dsimp only at hres;rw [hee] at hres
   have hfail:(Sk.bad=true∨e.valid=false∨¬ e.stack < (D.st.length:Int))→M=none:=fun h=>by
    rw [if_pos h] at hres;rw [←hM,←hres];rfl
   have hp:oC [e.pa] [pB e.valid]:=⟨e,rfl,rfl⟩;simp only [↓evP,evB,stB,reduceIte,reduceCtorEq,seval,r8,h18,hcell,k22',w22',hjn2,hTc,decide_false];refine ⟨(by unfold Drw;refine Eq.trans (b:=true) ?_ rfl;kernel_rfl),?_⟩
   cases hb2t:b2 with
   | true =>
     rw [hfail (.inl (by rw [←hb2,hb2t]))];simp only [↓evP,evB,stB,reduceIte,reduceCtorEq,seval,r3,r6,y3,x3,k6,w6,hjn2,hTc,QC,pG,iq,Fl.pa,Fl.row,prd53];exact ⟨_,_,rfl,fun b=>.inl rfl,rfl⟩
   | false =>
     simp only [↓evP,evB,stB,reduceIte,reduceCtorEq,seval,r3,r6,y3,x3,k6,w6];refine aC [pB e.valid] (by rw [he] at hp ⊢;exact hp) ?_
     have est:e.stack=v8:=by rw [he]
     have hbf:Sk.bad=false:=by rw [←hb2,hb2t]
     cases hv:e.valid with
     | false =>
       rw [hfail (.inr (.inl hv))];simp only [↓evP,evB,stB,reduceIte,reduceCtorEq,seval,r3,r6,y3,x3,k6,w6,hjn2,hTc,QC,pG,iq,Fl.pa,Fl.row,prd53];exact ⟨_,_,rfl,fun b=>.inl rfl,rfl⟩
     | true =>
       by_cases hst:v8≥(D.st.length:Int)
       ·rw [hfail (.inr (.inr (by rw [est];omega)))]
        simp only [↓evP,evB,stB,reduceIte,reduceCtorEq,seval,r3,r6,r10,y3,x3,y10,x10,k6,w6,hjn2,hTc,q4,hst,decide_true,QC,pG,iq,Fl.pa,Fl.row,prd53];exact ⟨_,_,rfl,fun b=>.inl rfl,rfl⟩
       ·have hok2:¬ (Sk.bad=true∨e.valid=false∨¬ e.stack < (D.st.length:Int)):=by
         rintro (q | q | q)
         ·rw [hbf] at q;cases q
         ·rw [hv] at q;cases q
         ·rw [est] at q;omega
        rw [if_neg hok2] at hres;have hlen:(f.es ++ evs).length+1≤1000000:=by rw [List.length_append];have:=hok.el;omega
        have hrl:((f.es ++ evs).map Ev.row).length=(f.es ++ evs).length:=List.length_map ..;have wi:IntKind.i64.wrap ((i:Int)+1)=((i+1:Nat):Int):=by rw [bY (by omega) (by omega)];omega
        have hmm:Fh true (.int .i64 (grM evs)) (.int .i64 v8)=some (.int .i64 (grM (evs ++ [e]))):=by
         have:grM (evs ++ [e])=max (grM evs) v8:=by unfold grM;rw [List.foldl_append,←est];rfl
         rw [this]
         show some (Value.int .i64 (if v8 > grM evs then v8 else grM evs))=_
         congr 2
         omega
        simp only [↓evP,evB,stB,reduceIte,reduceCtorEq,seval,r3,r6,r10,y3,x3,y10,x10,k6,w6,q4,hst,h14,k120,w120,h15,h16,r13,k13,w13,hrl,hlen,wi,hmm,List.foldl_cons,List.foldl_nil,decide_false]
        refine ⟨_,by omega,(by repeat' (first | assumption | exact aT (by assumption) | (refine aK ?_ rfl rfl) | (refine aF ?_ rfl) | (refine aK ?_ rfl aN) | (refine aF ?_ aN) | (refine cK.in' ?_ (aT (by assumption)) rfl rfl))),i+1,evs ++ [e],e,Sk,rfl,hlt,by simp only [stB,Nat.reduceEqDiff,Nat.reduceBEq,h16],⟨by simp only [stB,Nat.reduceEqDiff,Nat.reduceBEq,k13],?_⟩,⟨?_,by simp only [stB,Nat.reduceEqDiff,Nat.reduceBEq,k120],?_⟩,?_,⟨by simp only [stB,Nat.reduceEqDiff,Nat.reduceBEq,k22'],?_,hbf⟩,⟨by simp only [stB,Nat.reduceEqDiff,Nat.reduceBEq,k6],by simp only [stB,Nat.reduceEqDiff,Nat.reduceLT,Nat.reduceBEq,w6]⟩,?_,hSks,uF hv,by rw [List.length_append,hevl];rfl,?_⟩
        ·simp only [stB,Nat.reduceEqDiff,Nat.reduceLT,Nat.reduceBEq,w13];rw [he]
         first | done | rfl
        ·simp only [stB,Nat.reduceEqDiff,Nat.reduceBEq];rw [←List.append_assoc,List.map_append (l₁:=f.es ++ evs),he]
         first | done | rfl
        ·simp only [stB,Nat.reduceEqDiff,Nat.reduceLT,Nat.reduceBEq,w120];rw [←List.append_assoc,show ((f.es ++ evs) ++ [e]).length=(f.es ++ evs).length+1 from by rw [List.length_append];rfl]
         first | done | rfl
        ·simp only [stB,Nat.reduceEqDiff,Nat.reduceBEq]
        ·simp only [stB,Nat.reduceEqDiff,Nat.reduceLT,Nat.reduceBEq,w22'];rw [hRk,hb2t]
         first | done | rfl
        ·intro k hk;simp only [stB,Nat.reduceLT,hjn2,hTc,hhb];rw [if_neg (by omega)];exact hfr k (by omega)
        ·rw [show c - (i+1)=fu by omega,←hres]
         cases qI fu e D Sk with
         | none=>rfl
         | some p=>simp
 ·have hie:i=c:=by omega
  subst hie;have ilt:¬ (i:Int) < (i:Int):=by omega
  rw [Nat.sub_self] at hres;have hres:some (evs ++ [],S)=R:=hres;rw [List.append_nil] at hres;rw [←hres] at hM;dsimp only at hM
  have hSr:((a1:Int) < (b.length:Int))↔S.rest≠[]:=by
   have h1:a1=((b.length - S.rest.length:Nat):Int):=by
    have:=hRS;unfold eY at this;simp at this;exact this.1.symm
   have h2:=hSs.length_le;rw [h1,←List.length_pos_iff];omega
  have q5:(∀ r ∈ f.ns.map (fun n=>[dI (n:Nat)]),r.length=1)=True:=eq_true fun r hr=>by obtain ⟨x,_,rfl⟩:=List.mem_map.1 hr;rfl
  have q6:f.ns.length≤1000000:=by have:=hok.nl;omega
  have q7:f.ns.length+1≤1000000:=by have:=hok.nl;omega
  have hwD:IntKind.i64.wrap ((D.st.length:Int) - 1)=(D.st.length:Int) - 1:=by
   have:=hDl;exact bY (by omega) (by omega)
  by_cases c1:(a1:Int) < (b.length:Int)
  ·rw [if_pos (.inl (hSr.1 c1))] at hM;rw [←hM];simp only [↓evP,evB,stB,reduceIte,reduceCtorEq,seval,r2,r3,r6,r8,r10,r12,y3,x3,y10,x10,k6,w6,k22,w22,h16,ilt,hbr,hjn,hTc,c1,decide_true,decide_false,QC,pG,iq,Fl.pa,Fl.row,prd53];exact ⟨_,_,rfl,fun b=>.inl rfl,rfl⟩
  have hr0:¬ S.rest≠[]:=fun q=>c1 (hSr.2 q)
  by_cases c2:(D.st.length:Int) > (f.d.st.length:Int)
  ·cases c3:(grM evs != (D.st.length:Int) - 1) with
   | true =>
     have h3:grM evs≠(D.st.length:Int) - 1:=by rw [bne_iff_ne] at c3;exact c3
     rw [if_pos (.inr ⟨by omega,h3⟩)] at hM;rw [←hM];simp only [↓evP,evB,stB,reduceIte,reduceCtorEq,seval,r2,r3,r6,r8,r9,r10,r12,y3,x3,y10,x10,k6,w6,k22,w22,h15,h16,ilt,hbr,q4,hjn,hTc,c1,c2,c3,hwD,decide_true,decide_false,QC,pG,iq,Fl.pa,Fl.row,prd53];exact ⟨_,_,rfl,fun b=>.inl rfl,rfl⟩
   | false =>
     have h3:grM evs=(D.st.length:Int) - 1:=by rw [bne_eq_false_iff_eq] at c3;exact c3
     rw [if_neg (by rintro (q | q);exact hr0 q;exact q.2 h3)] at hM
     rw [←hM];simp only [↓evP,evB,stB,reduceIte,reduceCtorEq,seval,r2,r3,r6,r8,r9,r10,r12,y3,x3,y10,x10,k6,w6,k22,w22,h14,h15,h16,ilt,hbr,q4,hjn,hTc,c1,c2,c3,hwD,q5,q6,q7,decide_true,decide_false,QC,pG,iq,Fl.pa,Fl.row,List.map_append,prd53];exact ⟨_,_,rfl,fun b=>.inl rfl,rfl⟩
  ·rw [if_neg (by rintro (q | q);exact hr0 q;have:=q.1;omega)] at hM
   rw [←hM];simp only [↓evP,evB,stB,reduceIte,reduceCtorEq,seval,r2,r3,r6,r8,r9,r10,r12,y3,x3,y10,x10,k6,w6,k22,w22,h14,h16,ilt,hbr,q4,hjn,hTc,c1,c2,q5,q6,q7,decide_false,QC,pG,iq,Fl.pa,Fl.row,List.map_append,prd53];exact ⟨_,_,rfl,fun b=>.inl rfl,rfl⟩
theorem BM {f:Fl} {b:List Nat} {D:Dep} {c:Nat} {C:Rs} {M:Option Fl} (hok:NR f) (hbl:b.length≤400000) (hby:∀ x ∈ b,x≤255) (hCs:C.rest <:+ b) (hCb:C.bad=false) (hc:1≤c∧c≤16) (hel:f.es.length+c≤5000) (hDl:D.st.length≤1000000)
 (hM:(match qI c (lst ev0 f.es) D C with
  | none=>none
  | some (evs,s)=>if s.rest≠[]∨(f.d.st.length < D.st.length∧grM evs≠(D.st.length:Int) - 1) then none else some (⟨f.es ++ evs,D,f.ns ++ [c],f.en⟩:Fl))=M)
 {st:St} (t2:st.sl 2=.b (.one (.d (.im (byR b))))) (t3:st.sl 3=.b (.one (.ptr 3 1 0))) (t6:st.sl 6=.b (.one (.ptr 6 1 0))) (t7:st.sl 7=aB false) (t8:st.sl 8=.b (.one (.ptr 22 1 0))) (t9:st.sl 9=aI (f.d.st.length:Int)) (t10:st.sl 10=.b (.one (.ptr 10 1 0))) (t12:st.sl 12=aI (c:Int))
 (o3:st.gen 3=1∧st.ob 3=.cells (f.row.map .d)) (o6:st.gen 6=1∧∃ cs,st.ob 6=.cells cs∧cs.length=5) (o22:st.gen 22=1∧st.ob 22=.cells ((eY b C).map .d)) (o10:st.gen 10=1∧st.ob 10=.cells (D.row.map .d)) (hno:∀ k,st.hb k=.no) (hnc:st.nc=fun _=>1) (hal:aG st) :
 pwp mY J6 (exS mY [] (QC f M)) st:=by
 obtain ⟨g3,e3⟩:=o3;have q1:(f.es.map Ev.row).length=f.es.length:=List.length_map ..;have hel0:=hok.el;obtain ⟨X,hX⟩:∃ X,Aq=X:=⟨_,rfl⟩
 have hX2:=hX;unfold Aq pcd53 at hX;simp only [bC] at hX;unfold J6 pcd53;simp only [bC];rw [hX];have e3':=e3;simp only [Fl.row,List.map_cons,List.map_nil] at e3'
 have hgo:∀ s':St,(s'.sl 2=st.sl 2∧s'.sl 3=st.sl 3∧s'.sl 6=st.sl 6∧s'.sl 7=st.sl 7∧s'.sl 8=st.sl 8∧s'.sl 9=st.sl 9∧s'.sl 10=st.sl 10∧s'.sl 12=st.sl 12)→((s'.gen 3=st.gen 3∧s'.ob 3=st.ob 3)∧(s'.gen 6=st.gen 6∧s'.ob 6=st.ob 6)∧(s'.gen 22=st.gen 22∧s'.ob 22=st.ob 22)∧(s'.gen 10=st.gen 10∧s'.ob 10=st.ob 10))→(∀ k,s'.hb k=st.hb k)→s'.nc=(fun _=>1)→aG s'→s'.sl 13=.b (.one (.ptr 13 (s'.gen 13) 0))→s'.ob 13=.cells ((lst ev0 f.es).row.map .d)→pwp mY X (exS mY [] (QC f M)) s':=fun s' ⟨h2,h3,h6,h7,h8,h9,h10,h12⟩ ⟨u3,u6,u22,u10⟩ h3' hnc' h4 h5 h6'=>by
  rw [←hX2]
  exact KN hok hbl hby hCs hCb hc hel hDl hM (h2.trans t2) (h3.trans t3) (h6.trans t6) (h7.trans t7) (h8.trans t8) (h9.trans t9) (h10.trans t10) (h12.trans t12)
   (by rw [u3.1,u3.2];exact ⟨g3,e3⟩) (by rw [u6.1,u6.2];exact o6) (by rw [u22.1,u22.2];exact o22) (by rw [u10.1,u10.2];exact o10) (fun k=>by rw [h3',hno]) hnc' h4 h5 h6'
 by_cases he:f.es=[]
 ·have l0:¬ (f.es.length:Int) > 0:=by rw [he];simp
  have hl:lst ev0 f.es=ev0:=by rw [he];rfl
  simp only [↓evP,evB,stB,reduceIte,reduceCtorEq,seval,t3,g3,e3',q1,l0,decide_false]
  refine hgo _ ⟨by simp only [stB,Nat.reduceEqDiff],by simp only [stB,Nat.reduceEqDiff],by simp only [stB,Nat.reduceEqDiff],by simp only [stB,Nat.reduceEqDiff],by simp only [stB,Nat.reduceEqDiff],by simp only [stB,Nat.reduceEqDiff],by simp only [stB,Nat.reduceEqDiff],by simp only [stB,Nat.reduceEqDiff]⟩ ⟨⟨by simp only [stB,Nat.reduceEqDiff],by simp only [stB,Nat.reduceEqDiff]⟩,⟨by simp only [stB,Nat.reduceEqDiff],by simp only [stB,Nat.reduceEqDiff]⟩,⟨by simp only [stB,Nat.reduceEqDiff],by simp only [stB,Nat.reduceEqDiff]⟩,⟨by simp only [stB,Nat.reduceEqDiff],by simp only [stB,Nat.reduceEqDiff]⟩⟩ (fun k=>by simp only [stB,Nat.reduceLT]) (by simp only [stB,hnc]) (by repeat' (first | exact aG.init | assumption | exact aO (by assumption) | (refine aG.ap ?_ rfl))) (by simp only [stB,Nat.reduceEqDiff]) ?_;simp only [stB];rw [hl]
  first | done | rfl
 ·have hpos:=List.length_pos_iff.2 he;have l0:(f.es.length:Int) > 0:=by omega
  have hw1:IntKind.i64.wrap ((f.es.length:Int) - 1)=((f.es.length - 1:Nat):Int):=by rw [bY (by omega) (by omega)];omega
  have gl:=GN f.es ev0 he;have i0:(0:Int)≤((f.es.length - 1:Nat):Int):=by omega
  simp only [↓evP,evB,stB,reduceIte,reduceCtorEq,seval,t3,g3,e3',q1,l0,hw1,gl,i0,Ev.row,decide_true]
  refine hgo _ ⟨by simp only [stB,Nat.reduceEqDiff],by simp only [stB,Nat.reduceEqDiff],by simp only [stB,Nat.reduceEqDiff],by simp only [stB,Nat.reduceEqDiff],by simp only [stB,Nat.reduceEqDiff],by simp only [stB,Nat.reduceEqDiff],by simp only [stB,Nat.reduceEqDiff],by simp only [stB,Nat.reduceEqDiff]⟩ ⟨⟨by simp only [stB,Nat.reduceEqDiff],by simp only [stB,Nat.reduceEqDiff]⟩,⟨by simp only [stB,Nat.reduceEqDiff],by simp only [stB,Nat.reduceEqDiff]⟩,⟨by simp only [stB,Nat.reduceEqDiff],by simp only [stB,Nat.reduceEqDiff]⟩,⟨by simp only [stB,Nat.reduceEqDiff],by simp only [stB,Nat.reduceEqDiff]⟩⟩ (fun k=>by simp only [stB,Nat.reduceLT]) (by simp only [stB,hnc]) (by repeat' (first | exact aG.init | assumption | exact aO (by assumption) | (refine aG.ap ?_ rfl))) (by simp only [stB,Nat.reduceEqDiff]) ?_;simp only [stB]
  first | done | rfl
theorem QZ:dY Try.prog 53 SB:=by
 refine sqd53 Ih ?_;rintro hp az Post ⟨f,kind,b,rfl,⟨hno,hok,hbl,hby,hk⟩,rfl⟩;refine ⟨by simp,fun _=>1,?_⟩;have q1:(f.es.map Ev.row).length=f.es.length:=List.length_map ..;have q2:(f.d.st.map aQ).length=f.d.st.length:=List.length_map ..;have q3:(f.ns.map fun n=>[dI (n:Nat)]).length=f.ns.length:=List.length_map ..;have hbr:=aY b;obtain ⟨cnt,hcnt⟩:∃ cnt,(aP ⟨b,false⟩).1=cnt:=⟨_,rfl⟩
 obtain ⟨s1,hs1⟩:∃ s1,(aP ⟨b,false⟩).2=s1:=⟨_,rfl⟩
 obtain ⟨⟨D,S⟩,hE⟩:∃ E,fK cnt f.d s1=E:=⟨_,rfl⟩
 obtain ⟨⟨c,C⟩,hC⟩:∃ C,aP S=C:=⟨_,rfl⟩
 have hH:jd b f.d=(D,(c,C)):=by unfold jd;rw [hcnt,hs1,hE,hC]
 have hss:s1.rest <:+ b:=by rw [←hs1];exact dh ⟨b,false⟩
 have hSs:S.rest <:+ b:=by
  have:=nP cnt f.d s1;rw [hE] at this;exact this.trans hss
 have hCs:C.rest <:+ b:=by
  have:=dh S;rw [hC] at this;exact this.trans hSs
 obtain ⟨hDv,hDl⟩:=nQ cnt f.d s1 hok.d;rw [hE] at hDv hDl;dsimp only at hDv hDl;have hD6:D.st.length≤1000000:=by have:=hok.dl;have:=hss.length_le;omega
 have hcb:c≤4294967295:=by have:=lC S;rw [hC] at this;exact this
 have hr0:eY b ⟨b,false⟩=[.im (byR b),dI 0,.sc (.bool false)]:=by
  unfold eY;dsimp only;rw [Nat.sub_self];rfl
 obtain ⟨e1,e2,hRE,hSb⟩:=iZ b S;obtain ⟨c1,c2,hRC,hCb⟩:=iZ b C;have hent:FL [.im (byR b),dI 0,.sc (.bool false)] [f.d.pa] [.im (byR b),dI e1,.sc (.bool e2)] [D.pa]:=⟨b,⟨b,false⟩,f.d,hr0.symm,rfl,⟨⟨hbl,List.suffix_refl _,hby⟩,hok.d,hok.dl⟩,by rw [hcnt,hs1,hE];exact hRE.symm,by rw [hcnt,hs1,hE]⟩
 have hnum:lK [.im (byR b),dI e1,.sc (.bool e2)] [] [.im (byR b),dI c1,.sc (.bool c2)] [pI (c:Nat)]:=⟨b,S,hRE.symm,rfl,⟨by omega,hSs,hby⟩,by rw [hC];exact hRC.symm,by rw [hC]⟩
 obtain ⟨M,hM⟩:∃ M,kL kind b f=M:=⟨_,rfl⟩
 have hR:RQ kind b f=pG f M:=by unfold RQ;rw [hM]
 unfold kL at hM;rw [hH] at hM;dsimp only at hM;rw [hR];have q4:(D.st.map aQ).length=D.st.length:=List.length_map ..
 have hCr:((c1:Int) < (b.length:Int))↔C.rest≠[]:=by
  have h1:c1=((b.length - C.rest.length:Nat):Int):=by
   have:=hRC;unfold eY at this;simp at this;exact this.1.symm
  have h2:=hCs.length_le;rw [h1,←List.length_pos_iff];omega
 obtain ⟨X,hX⟩:∃ X,J6=X:=⟨_,rfl⟩
 have hX2:=hX;unfold J6 pcd53 at hX;simp only [bC] at hX;unfold pcd53;rw [hX]
 with_reducible refine aJ ?_
 simp only [↓evP,evB,stB,reduceIte,seval,iq,Fl.pa,Fl.row];refine dN [.im (byR b),dI e1,.sc (.bool e2)] [D.pa] (by exact hent) rfl ?_
 cases hk69:((kind:Int) == 69) with
 | true =>
   have hkk:kind=69:=by have:=eq_of_beq hk69;omega
   rw [if_pos hkk] at hM;simp only [↓evP,evB,stB,reduceIte,reduceCtorEq,seval,hk69,Dep.pa,Dep.row];refine dN [.im (byR b),dI c1,.sc (.bool c2)] [pI (c:Nat)] (by exact hnum) rfl ?_;have hfail:(C.bad=true∨C.rest≠[]∨c≠f.es.length)→M=none:=fun h=>by rw [←hM,if_pos h]
   cases hc2:c2 with
   | true =>
     rw [hfail (.inl (by rw [←hCb,hc2]))];simp only [↓evP,evB,stB,reduceIte,reduceCtorEq,seval,pG,iq,Fl.pa,Fl.row,prd53];exact ⟨_,_,rfl,fun b=>.inl rfl,rfl⟩
   | false =>
     by_cases hlt:(c1:Int) < (b.length:Int)
     ·rw [hfail (.inr (.inl (hCr.1 hlt)))];simp only [↓evP,evB,stB,reduceIte,reduceCtorEq,seval,hbr,hlt,decide_true,pG,iq,Fl.pa,Fl.row,prd53];exact ⟨_,_,rfl,fun b=>.inl rfl,rfl⟩
     ·cases hne:((c:Int) != (f.es.length:Int)) with
      | true =>
        rw [hfail (.inr (.inr (fun q=>by rw [q] at hne;simp at hne)))]
        simp only [↓evP,evB,stB,reduceIte,reduceCtorEq,seval,hbr,hlt,hne,q1,decide_false,pG,iq,Fl.pa,Fl.row,prd53];exact ⟨_,_,rfl,fun b=>.inl rfl,rfl⟩
      | false =>
        have hok2:¬ (C.bad=true∨C.rest≠[]∨c≠f.es.length):=by
         rintro (q | q | q)
         ·rw [←hCb,hc2] at q;cases q
         ·exact hlt (hCr.2 q)
         ·have:((c:Int) != (f.es.length:Int))=true:=by rw [bne_iff_ne];omega
          rw [this] at hne;cases hne
        rw [if_neg hok2] at hM;rw [←hM];simp only [↓evP,evB,stB,reduceIte,reduceCtorEq,seval,hbr,hlt,hne,q1,decide_false,pG,iq,Fl.pa,Fl.row,prd53];exact ⟨_,_,rfl,fun b=>.inl rfl,rfl⟩
 | false =>
   have hkk:¬ kind=69:=fun q=>by rw [q] at hk69;simp at hk69
   rw [if_neg hkk] at hM;simp only [↓evP,evB,stB,reduceIte,reduceCtorEq,seval,hk69,Dep.pa,Dep.row];refine dN [.im (byR b),dI c1,.sc (.bool c2)] [pI (c:Nat)] (by exact hnum) rfl ?_;have hfail:(C.bad=true∨c < 1∨16 < c∨fJ f∨5000 < f.es.length+c)→M=none:=fun h=>by rw [←hM,if_pos h]
   have hadd:IntKind.i64.wrap ((f.es.length:Int)+(c:Int))=((f.es.length+c:Nat):Int):=by
    have:=hok.el;rw [bY (by omega) (by omega)];omega
   cases hc2:c2 with
   | true =>
     rw [hfail (.inl (by rw [←hCb,hc2]))];simp only [↓evP,evB,stB,reduceIte,reduceCtorEq,seval,pG,iq,Fl.pa,Fl.row,prd53];exact ⟨_,_,rfl,fun b=>.inl rfl,rfl⟩
   | false =>
     by_cases l1:(c:Int) < 1
     ·rw [hfail (.inr (.inl (by omega)))];simp only [↓evP,evB,stB,reduceIte,reduceCtorEq,seval,l1,decide_true,pG,iq,Fl.pa,Fl.row,prd53];exact ⟨_,_,rfl,fun b=>.inl rfl,rfl⟩
     by_cases l2:(c:Int) > 16
     ·rw [hfail (.inr (.inr (.inl (by omega))))];simp only [↓evP,evB,stB,reduceIte,reduceCtorEq,seval,l1,l2,decide_true,decide_false,pG,iq,Fl.pa,Fl.row,prd53];exact ⟨_,_,rfl,fun b=>.inl rfl,rfl⟩
     cases hgl:f.ns.getLast? with
     | none =>
       have hn0:f.ns=[]:=List.getLast?_eq_none_iff.1 hgl;have hns:¬ fJ f:=fun ⟨n,h1,_⟩=>by rw [hgl] at h1;cases h1
       have l3:¬ (f.ns.length:Int) > 0:=by rw [hn0];simp
       by_cases l4:((f.es.length+c:Nat):Int) > 5000
       ·rw [hfail (.inr (.inr (.inr (.inr (by omega)))))];simp only [↓evP,evB,stB,reduceIte,reduceCtorEq,seval,l1,l2,l3,l4,q1,hadd,decide_true,decide_false,pG,iq,Fl.pa,Fl.row,prd53];exact ⟨_,_,rfl,fun b=>.inl rfl,rfl⟩
       have hok2:¬ (C.bad=true∨c < 1∨16 < c∨fJ f∨5000 < f.es.length+c):=by
        rintro (q | q | q | q | q)
        ·rw [←hCb,hc2] at q;cases q
        ·omega
        ·omega
        ·exact hns q
        ·omega
       rw [if_neg hok2] at hM;simp only [↓evP,evB,stB,reduceIte,reduceCtorEq,seval,l1,l2,l3,l4,q1,hadd,decide_false,←hX2]
       refine BM hok hbl hby hCs (by rw [←hCb,hc2]) ⟨by omega,by omega⟩ (by omega) hD6 hM (by simp only [stB,Nat.reduceEqDiff];first | done | rfl) (by simp only [stB,Nat.reduceEqDiff]) (by simp only [stB,Nat.reduceEqDiff]) (by simp only [stB,Nat.reduceEqDiff]) (by simp only [stB,Nat.reduceEqDiff]) (by simp only [stB,Nat.reduceEqDiff];first | done | rfl) (by simp only [stB,Nat.reduceEqDiff]) (by simp only [stB,Nat.reduceEqDiff];first | done | rfl)
        ⟨by simp only [stB,Nat.reduceEqDiff],by simp only [stB,Nat.reduceEqDiff,Nat.reduceLT];first | done | rfl⟩ ⟨by simp only [stB,Nat.reduceEqDiff],[.d (.sc (.slice none 0 0)),.d (.sc (.slice none 0 0)),.d (.sc (.slice none 0 0)),.d (.sc (.slice none 0 0)),.d (.sc (.bool false))],by simp only [stB,Nat.reduceEqDiff,Nat.reduceLT],rfl⟩ ⟨by simp only [stB,Nat.reduceEqDiff],by simp only [stB,Nat.reduceEqDiff,Nat.reduceLT];rw [hRC,hc2];first | done | rfl⟩ ⟨by simp only [stB,Nat.reduceEqDiff],by simp only [stB,Nat.reduceEqDiff,Nat.reduceLT];first | done | rfl⟩ (fun k=>by simp only [stB,Nat.reduceLT,hno]) (by simp only [stB]) (by repeat' (first | exact aG.init | assumption | exact aO (by assumption) | (refine aG.ap ?_ rfl)))
     | some n =>
       have hnl:f.ns≠[]:=fun q=>by rw [q] at hgl;cases hgl
       have hpos:=List.length_pos_iff.2 hnl;have l3:(f.ns.length:Int) > 0:=by omega
       have hnl2:=hok.nl;have hw1:IntKind.i64.wrap ((f.ns.length:Int) - 1)=((f.ns.length - 1:Nat):Int):=by rw [bY (by omega) (by omega)];omega
       have gn:f.ns[f.ns.length - 1]? = some n:=by rw [←List.getLast?_eq_getElem?];exact hgl
       have i0:(0:Int)≤((f.ns.length - 1:Nat):Int):=by omega
       cases hn16:((n:Int) != 16) with
       | true =>
         have hn2:n≠16:=fun q=>by rw [q] at hn16;simp at hn16
         rw [hfail (.inr (.inr (.inr (.inl ⟨n,hgl,hn2⟩))))];simp only [↓evP,evB,stB,reduceIte,reduceCtorEq,seval,l1,l2,l3,hw1,gn,i0,hn16,decide_true,decide_false,pG,iq,Fl.pa,Fl.row,prd53];exact ⟨_,_,rfl,fun b=>.inl rfl,rfl⟩
       | false =>
         have hn2:n=16:=by
          have:=hn16;rw [bne_eq_false_iff_eq] at this;omega
         have hns:¬ fJ f:=fun ⟨m,h1,h2⟩=>by rw [hgl] at h1;cases h1;exact h2 hn2
         by_cases l4:((f.es.length+c:Nat):Int) > 5000
         ·rw [hfail (.inr (.inr (.inr (.inr (by omega)))))];simp only [↓evP,evB,stB,reduceIte,reduceCtorEq,seval,l1,l2,l3,l4,q1,hadd,hw1,gn,i0,hn16,decide_true,decide_false,pG,iq,Fl.pa,Fl.row,prd53];exact ⟨_,_,rfl,fun b=>.inl rfl,rfl⟩
         have hok2:¬ (C.bad=true∨c < 1∨16 < c∨fJ f∨5000 < f.es.length+c):=by
          rintro (q | q | q | q | q)
          ·rw [←hCb,hc2] at q;cases q
          ·omega
          ·omega
          ·exact hns q
          ·omega
         rw [if_neg hok2] at hM;simp only [↓evP,evB,stB,reduceIte,reduceCtorEq,seval,l1,l2,l3,l4,q1,hadd,hw1,gn,i0,hn16,decide_true,decide_false,←hX2]
         refine BM hok hbl hby hCs (by rw [←hCb,hc2]) ⟨by omega,by omega⟩ (by omega) hD6 hM (by simp only [stB,Nat.reduceEqDiff];first | done | rfl) (by simp only [stB,Nat.reduceEqDiff]) (by simp only [stB,Nat.reduceEqDiff]) (by simp only [stB,Nat.reduceEqDiff]) (by simp only [stB,Nat.reduceEqDiff]) (by simp only [stB,Nat.reduceEqDiff];first | done | rfl) (by simp only [stB,Nat.reduceEqDiff]) (by simp only [stB,Nat.reduceEqDiff];first | done | rfl)
          ⟨by simp only [stB,Nat.reduceEqDiff],by simp only [stB,Nat.reduceEqDiff,Nat.reduceLT];first | done | rfl⟩ ⟨by simp only [stB,Nat.reduceEqDiff],[.d (.sc (.slice none 0 0)),.d (.sc (.slice none 0 0)),.d (.sc (.slice none 0 0)),.d (.sc (.slice none 0 0)),.d (.sc (.bool false))],by simp only [stB,Nat.reduceEqDiff,Nat.reduceLT],rfl⟩ ⟨by simp only [stB,Nat.reduceEqDiff],by simp only [stB,Nat.reduceEqDiff,Nat.reduceLT];rw [hRC,hc2];first | done | rfl⟩ ⟨by simp only [stB,Nat.reduceEqDiff],by simp only [stB,Nat.reduceEqDiff,Nat.reduceLT];first | done | rfl⟩ (fun k=>by simp only [stB,Nat.reduceLT,hno]) (by simp only [stB]) (by repeat' (first | exact aG.init | assumption | exact aO (by assumption) | (refine aG.ap ?_ rfl)))
noncomputable def Kt (f:Fl) (o:Option Fl):List Pa:=match o with
 | some g=>[g.pa,pB true]
 | none=>[f.pa,pB false]
def Rw (ps rs:List Pa):Prop:=∃ (f:Fl) (kind:Nat) (b:List Nat),ps=[f.pa,.one (.sc (.int .u8 (kind:Int))),cu b]∧(NR f∧b.length≤400000∧(∀ x ∈ b,x≤255)∧kind≤255)∧rs=Kt f (kL kind b f)
theorem Fl.hw (g:Fl) (hp:Nat→Hb):Hw.pa hp (iq g.pa)=some g.pa:=rfl
theorem Vv:Spec Try.prog 53 Rw:=o7 QZ (by
 rintro az rs ⟨f,kind,b,rfl,⟨h1,h2,h3,h4⟩,rfl⟩;refine ⟨_,⟨f,kind,b,rfl,⟨fun _=>rfl,h1,h2,h3,h4⟩,rfl⟩,?_⟩;rintro hp' rs' rfl;unfold RQ
 cases kL kind b f with
 | none=>rfl
 | some g=>rfl)
noncomputable def jE (b:List Nat) (f:Fl):Nat×(Fl×List Nat):=match b with
 | []=>(8,f,[])
 | kind :: r=>if kind≠66∧kind≠69 then (8,f,kind :: r) else
   if (aP ⟨r,false⟩).2.bad=true∨1048576 < (aP ⟨r,false⟩).1∨(aP ⟨r,false⟩).2.rest.length < (aP ⟨r,false⟩).1+4 then (8,f,kind :: r) else
   if ((aP ⟨r,false⟩).2.rest.drop (aP ⟨r,false⟩).1).take 4≠fT ((kind :: r).take ((kind :: r).length - (aP ⟨r,false⟩).2.rest.length+(aP ⟨r,false⟩).1)) then (9,f,kind :: r) else
   match kL kind ((aP ⟨r,false⟩).2.rest.take (aP ⟨r,false⟩).1) f with
   | none=>(8,f,kind :: r)
   | some g=>(0,g,(aP ⟨r,false⟩).2.rest.drop ((aP ⟨r,false⟩).1+4))
noncomputable def jo:Nat→List Nat→Fl→Nat×(Fl×List Nat)
 | 0,b,f=>(8,f,b)
 | k+1,b,f=>if f.en=true then ((if b=[] then 0 else 8),f,b) else
   if (jE b f).1=0 then jo k (jE b f).2.2 (jE b f).2.1 else ((jE b f).1,f,b)
noncomputable def dV (bs:List Nat):Nat×(Fl×List Nat):=if bs.take 8≠bW then (8,fl0,bs) else jo (bs.length+1) (bs.drop 8) fl0
structure FlI (f:Fl):Prop where
 d:f.d.val
 sb:∀ s ∈ f.d.st,s.1≤2147483647∧s.2≤2147483647
 ev:iG f.d f.es
 el:f.es.length≤5000
theorem fl0_i:FlI fl0:=⟨⟨rfl,fun i h=>absurd h (Nat.not_lt_zero _)⟩,fun s h=>(by cases h),fun e h=>(by cases h),by decide⟩
theorem FlI.g {f:Fl} (h:FlI f):evG (lst ev0 f.es):=vV Ag fun e he=>(h.ev e he).1
theorem zG:∀ (k:Nat) (d:Dep) (s:Rs),(∀ s ∈ d.st,s.1≤2147483647∧s.2≤2147483647)→∀ s' ∈ (fK k d s).1.st,s'.1≤2147483647∧s'.2≤2147483647
 | 0,_,_,h=>h
 | k+1,d,s,h=>by
   unfold fK;split
   ·exact h
   ·split
    ·exact h
    ·rename_i hq;rw [not_or,Classical.not_not] at hq;refine zG k _ _ fun x hx=>?_
     have hx:x ∈ d.st ++ [(dJ s).1.2]:=hx
     rcases List.mem_append.1 hx with q | q
     ·exact h x q
     ·rw [List.mem_singleton.1 q];exact hq.2.2
theorem ru (k:Nat) (d:Dep) (s:Rs):d.st.length≤(fK k d s).1.st.length:=by
 induction k generalizing d s with
 | zero=>exact Nat.le_refl _
 | succ k ih =>
   unfold fK;split
   ·exact Nat.le_refl _
   ·split
    ·exact Nat.le_refl _
    ·have:=ih (bZ d (dJ s).1.1 (dJ s).1.2) (dJ s).2;have h2:(bZ d (dJ s).1.1 (dJ s).1.2).st.length=d.st.length+1:=by simp [bZ]
     omega
theorem zH:∀ (k:Nat) (l:Ev) (d:Dep) (s:Rs) (evs:List Ev) (s':Rs),qI k l d s=some (evs,s')→iG d evs∧evs.length=k∧s'.rest <:+ s.rest
 | 0,_,_,s,evs,s',h=>by
   cases h;exact ⟨fun e he=>(by cases he),rfl,List.suffix_refl _⟩
 | k+1,l,d,s,evs,s',h=>by
   unfold qI at h;split at h
   ·cases h
   ·rename_i hq;rw [not_or,not_or,Classical.not_not] at hq;rw [Option.map_eq_some_iff] at h;obtain ⟨⟨e2,s2⟩,h1,h2⟩:=h;cases h2;obtain ⟨h3,h4,h5⟩:=zH k _ d _ e2 s2 h1;refine ⟨fun e he=>?_,by rw [List.length_cons,h4],h5.trans (rD _ s)⟩
    rcases List.mem_cons.1 he with rfl | he
    ·exact ⟨by simpa using hq.2.1,hq.2.2⟩
    ·exact h3 e he
theorem Ph {kind:Nat} {b:List Nat} {f g:Fl} (hi:FlI f) (h:kL kind b f=some g):FlI g∧g.d.st.length≤f.d.st.length+b.length∧g.ns.length≤f.ns.length+1∧f.d.st.length≤g.d.st.length:=by
 obtain ⟨⟨D,c,C⟩,hH⟩:∃ H,jd b f.d=H:=⟨_,rfl⟩
 have hD:D=(fK (aP ⟨b,false⟩).1 f.d (aP ⟨b,false⟩).2).1:=by
  have:=congrArg Prod.fst hH;exact this.symm
 obtain ⟨v1,v2⟩:=nQ (aP ⟨b,false⟩).1 f.d (aP ⟨b,false⟩).2 hi.d;have v3:=zG (aP ⟨b,false⟩).1 f.d (aP ⟨b,false⟩).2 hi.sb;have v4:=ru (aP ⟨b,false⟩).1 f.d (aP ⟨b,false⟩).2;rw [←hD] at v1 v2 v3 v4;have hb2:=(dh ⟨b,false⟩).length_le;dsimp only at hb2;have hev:iG D f.es:=fun e he=>⟨(hi.ev e he).1,by have:=(hi.ev e he).2;omega⟩
 unfold kL at h;rw [hH] at h;dsimp only at h;split at h
 ·split at h
  ·cases h
  ·cases h;exact ⟨⟨v1,v3,hev,hi.el⟩,by dsimp only;omega,Nat.le_succ _,v4⟩
 ·split at h
  ·cases h
  ·rename_i hq;simp only [not_or] at hq;split at h
   ·cases h
   ·rename_i evs s he;obtain ⟨h3,h4,_⟩:=zH _ _ _ _ _ _ he;split at h
    ·cases h
    ·cases h;refine ⟨⟨v1,v3,hev.app h3,?_⟩,by dsimp only;omega,by dsimp only;rw [List.length_append];exact Nat.le_refl _,v4⟩
     dsimp only;rw [List.length_append,h4];have:=hq.2.2.2.2;omega
theorem rX {b r:List Nat} {f g:Fl} (hi:FlI f) (h:jE b f=(0,g,r)):FlI g∧r <:+ b∧r.length+6≤b.length∧g.d.st.length+r.length≤f.d.st.length+b.length∧g.ns.length≤f.ns.length+1∧f.d.st.length≤g.d.st.length:=by
 cases b with
 | nil=>unfold jE at h;cases h
 | cons kind t =>
   unfold jE at h;dsimp only at h;split at h
   ·cases h
   ·split at h
    ·cases h
    ·rename_i hq;simp only [not_or] at hq;have hb:(aP ⟨t,false⟩).2.bad=false:=by simpa using hq.1
     have hl:=(pR hb).1;have hs:=dh ⟨t,false⟩;dsimp only at hl hs;split at h
     ·cases h
     ·split at h
      ·cases h
      ·rename_i g' hc;cases h;obtain ⟨c1,c2,c3,c4⟩:=Ph hi hc;have e1:((aP ⟨t,false⟩).2.rest.drop ((aP ⟨t,false⟩).1+4)).length=(aP ⟨t,false⟩).2.rest.length - ((aP ⟨t,false⟩).1+4):=List.length_drop;have e2:((aP ⟨t,false⟩).2.rest.take (aP ⟨t,false⟩).1).length≤(aP ⟨t,false⟩).1:=by rw [List.length_take];exact Nat.min_le_left _ _
       have hne:1≤(aP ⟨t,false⟩).1:=by
        refine Classical.byContradiction fun q=>?_
        have q0:(aP ⟨t,false⟩).1=0:=by omega
        rw [q0] at hc
        have:kL kind ((aP ⟨t,false⟩).2.rest.take 0) f=none:=by
         rw [List.take_zero];have e0:aP ⟨[],false⟩=(0,⟨[],true⟩):=rfl
         have:jd [] f.d=(f.d,(0,⟨[],true⟩)):=by
          unfold jd;rw [e0]
          show (f.d,aP ⟨[],true⟩)=_
          rfl
         unfold kL;rw [this];simp
        rw [this] at hc;cases hc
       refine ⟨c1,(List.drop_suffix _ _).trans (hs.trans (List.suffix_cons _ _)),?_,?_,c3,c4⟩
       ·rw [e1,List.length_cons];omega
       ·rw [e1,List.length_cons];omega
end Go.Proofs.Ytkafcpnahpfbfaa
end
section
namespace Go.Proofs.Ytkafcpnahpfbfaa
open Go Go.RowKit
set_option maxRecDepth 100000
def pcc12C : PC := .seq (.reg false [⟨(some 67), .fld 0 (.t 1), none, []⟩, ⟨(some 68), .load none (.t 67), none, [0]⟩, ⟨(some 69), .callh 26 [(.t 68), (.v (.int .i64 16))], none, [1]⟩]) (.skip)
def flc12C : List (Nat × List Bool) := [(6000026, List.replicate 1 false)]
theorem cpc12C:bI Try.prog Try.f12.ntmps (eU ++ flc12C) (qg (((eF (Try.f12.body.getD .skip)).drop 12).take 1))=some pcc12C:=by kernel_rfl
end Go.Proofs.Ytkafcpnahpfbfaa
end
section
namespace Go.Proofs.Ytkafcpnahpfbfaa
open Go Go.RowKit
set_option maxRecDepth 1000000
set_option maxHeartbeats 4000000
noncomputable def BP:Env:=h1 26 Gg e0
theorem Eb:aA Try.prog BP:=aA.h1 QT aA.e0
abbrev yH (es:List Ev) (d:Dep):Nat→Hb:=up (up (hpA es d) 70 (.cells [.d (.im (es.map Ev.row))])) 71 (.cells [hI 16])
theorem VO {es:List Ev} {d:Dep} {Q:Exit→St→Prop} (hQ:∀ st:St,(st.sl 69).hw=some (.one (.h (.f 47 [] [(70,0),(71,0)])))→(∀ x,x=1∨x=9∨x=10∨x=11∨x=12→st.sl x=slB x)→st.hb=yH es d→Q .normal st) :
 pwp BP pcc12C Q (St.mM (fun _=>1) (hpA es d) slB):=by
 obtain ⟨I,hI⟩:∃ I,St.mM (fun _=>1) (hpA es d) slB=I:=⟨_,rfl⟩
 have i1:I.sl 1=.b (.one (.hv (.p 2 0))):=by rw [←hI];rfl
 have is:∀ x,I.sl x=slB x:=fun x=>by rw [←hI];rfl
 have ih:I.hb=hpA es d:=by rw [←hI];exact nV _ _ _
 rw [hI];clear hI;have h2:hpA es d 2=.cells ((dA es d).map .d):=rfl;simp only [dA,List.map_cons,List.map_nil] at h2;unfold pcc12C
 with_reducible refine aJ ?_
 simp only [↓evP,evB,stB,Nat.reduceEqDiff,i1,ih,h2];refine bK (yH es d) [.one (.h (.f 47 [] [(70,0),(71,0)]))] (by simp only [stB,ih];exact ⟨_,70,71,rfl,⟨rfl,rfl,by decide⟩,rfl,rfl⟩) ?_
 simp only [↓evP,evB,stB];refine hQ _ (by simp only [stB,Nat.reduceEqDiff];first | done | rfl) (fun x hx=>?_) (by simp only [stB])
 rcases hx with rfl | rfl | rfl | rfl | rfl <;> simp only [stB,Nat.reduceEqDiff,is]
noncomputable def Sl:Code→Code
 | .block _ (.rangeFunc _ _ a _)=>a
 | _=>.skip
noncomputable abbrev lq:Code:=Try.f12.body.getD .skip
noncomputable abbrev mX:Code:=((eF lq)[13]?).getD .skip
theorem U8:mX=.block 4 (.rangeFunc (.tmp 69) #[70] (Sl mX) (F5 mX)):=by kernel_rfl
theorem S9:∃ o:Oper,Sl mX=.region 19 #[o] false∧o.dst=some 13∧o.op=.assign (.tmp 70)∧o.guard=none:=⟨_,rfl,rfl,rfl,rfl⟩
theorem Py:eF lq=((eF lq).drop 0).take 12 ++ (((eF lq).drop 12).take 1 ++ (mX :: ((eF lq).drop 14).take 6)):=by kernel_rfl
def nC (bf b:Nat):Prop:=b=2∨b=10∨b=11∨b=12∨b=13∨b=bf
open Classical in
noncomputable def mO (L:Nat→Prop) (hp:Nat→Hb):Nat→Hb:=fun b=>if L b then hp b else match hp b with
 | .no=>.no
 | _=>.dead
theorem jH {L:Nat→Prop} {hp:Nat→Hb} {b:Nat} (h:L b):mO L hp b=hp b:=if_pos h
theorem MP {L:Nat→Prop} {hp:Nat→Hb} {b:Nat} (h:hp b=.no):mO L hp b=.no:=by
 unfold mO;rw [h];split <;> rfl
theorem lN {L:Nat→Prop} {hp:Nat→Hb} (b:Nat):mO L hp b=hp b∨(mO L hp b=.dead∧hp b≠.no):=by
 unfold mO;split
 ·exact .inl rfl
 ·cases h:hp b <;> first | exact .inl rfl | exact .inr ⟨rfl,fun q=>by cases q⟩
theorem uh {L:Nat→Prop} {hp:Nat→Hb} (h:∀ b,L b→(∃ cs,hp b=.cells cs)∨∃ E sz rows,hp b=.vec E sz rows):qO (mO L hp):=by
 intro b
 by_cases hb:L b
 ·rw [jH hb]
  rcases h b hb with q | q
  ·exact .inr (.inr (.inl q))
  ·exact .inr (.inr (.inr q))
 ·unfold mO;rw [if_neg hb];cases hp b <;> first | exact .inl rfl | exact .inr (.inl rfl)
theorem ql.drop {es:List Ev} {d:Dep} {E:List Ev} {F:List Nat} {hp:Nat→Hb} {N bf:Nat} (h:ql es d E F hp N bf):qO (mO (nC bf) hp)∧ql es d E F (mO (nC bf) hp) N bf:=by
 have l2:nC bf 2:=.inl rfl;have l10:nC bf 10:=.inr (.inl rfl);have l11:nC bf 11:=.inr (.inr (.inl rfl));have l12:nC bf 12:=.inr (.inr (.inr (.inl rfl)));have l13:nC bf 13:=.inr (.inr (.inr (.inr (.inl rfl))));have lf:nC bf bf:=.inr (.inr (.inr (.inr (.inr rfl))));refine ⟨uh fun b hb=>?_,⟨⟨by rw [jH l10];exact h.w.h,h.w.v,h.w.ne,h.w.lt,fun b hb=>MP (h.w.fr b hb)⟩,by rw [jH l2];exact h.h2,by rw [jH l11];exact h.h11,by rw [jH l12];exact h.h12,by rw [jH l13];exact h.h13,by rw [jH lf];exact h.hf,h.lt⟩⟩
 rcases hb with rfl | rfl | rfl | rfl | rfl | rfl
 ·exact .inl ⟨_,h.h2⟩
 ·exact .inl ⟨_,h.w.h⟩
 ·exact .inl ⟨_,h.h11⟩
 ·exact .inl ⟨_,h.h12⟩
 ·exact .inl ⟨_,h.h13⟩
 ·exact .inr ⟨_,_,_,h.hf⟩
def LI (W0:Wit) (w0:World) (hp0:Nat→Hb) (es:List Ev) (d:Dep) (v:Value) (k2 k3:Nat) (Wn:Wit) (E:List Ev) (F:List Nat) (w:World):Prop:=∃ (W:Wit) (hp:Nat→Hb) (N bf:Nat),
 Tr W0 w0 hp0 W w hp∧qO hp∧ql es d E F hp N bf∧(∀ b,b=2∨b=10∨b=11∨b=12∨b=13→W.nm b=Wn.nm b)∧(¬ dK W hp k2∧¬ dK W hp k3∧k2 < w.heap.size∧k3 < w.heap.size)∧RD W.S w (.im (es.map Ev.row)) v
theorem LI.grown {W0:Wit} {w0:World} {hp0:Nat→Hb} {es:List Ev} {d:Dep} {v:Value} {k2 k3:Nat} {Wn:Wit} {E:List Ev} {F:List Nat} {w w':World} (h:LI W0 w0 hp0 es d v k2 k3 Wn E F w) {row:Option Nat} (hg:w.grownBy w' row) (hr:∀ r,row=some r→w0.heap.size≤r∧∃ o:Obj,w.heap[r]? = some o∧o.isCells=false):LI W0 w0 hp0 es d v k2 k3 Wn E F w':=by
 obtain ⟨W,hp,N,bf,h1,h2,h3,h4,h5,h6⟩:=h;exact ⟨W,hp,N,bf,h1.grown h2 hg hr,h2,h3,h4,⟨h5.1,h5.2.1,Nat.lt_of_lt_of_le h5.2.2.1 hg.size,Nat.lt_of_lt_of_le h5.2.2.2 hg.size⟩,RD.ext (sK hg fun r e=>(hr r e).2) h6⟩
structure SlE (Wn:Wit) (a:Act):Prop where
 len:a.tmps.size=Try.f12.ntmps
 s1:a.tmps.getD 1 undef=.pointer (some ⟨Wn.nm 2,0,none⟩)
 s9:a.tmps.getD 9 undef=.pointer (some ⟨Wn.nm 10,0,none⟩)
 s10:a.tmps.getD 10 undef=.pointer (some ⟨Wn.nm 11,0,none⟩)
 s11:a.tmps.getD 11 undef=.pointer (some ⟨Wn.nm 12,0,none⟩)
 s12:a.tmps.getD 12 undef=.pointer (some ⟨Wn.nm 13,0,none⟩)
theorem SlE.ok {Wn W:Wit} {w:World} {hp:Nat→Hb} {a:Act} {es:List Ev} {d:Dep} {E:List Ev} {F:List Nat} {N bf:Nat} (h:SlE Wn a) (hr:RHp W w hp) (hL:ql es d E F hp N bf) (hn:∀ b,b=2∨b=10∨b=11∨b=12∨b=13→W.nm b=Wn.nm b):Kq W w slB a:=by
 have hp1:∀ b,hp b≠.no→(b=2∨b=10∨b=11∨b=12∨b=13)→RHw W w (.one (.h (.p b 0))) (.pointer (some ⟨Wn.nm b,0,none⟩)):=fun b hb hm=>⟨by rw [←hn b hm];rfl,rfl,(hr.lv b).2 hb⟩
 intro x;unfold slB
 by_cases x1:x=1
 ·subst x1;exact .inr ⟨.one (.h (.p 2 0)),rfl,by rw [h.s1];exact hp1 2 (by rw [hL.h2];simp) (by decide)⟩
 by_cases x9:x=9
 ·subst x9;exact .inr ⟨.one (.h (.p 10 0)),rfl,by rw [h.s9];exact hp1 10 (by rw [hL.w.h];simp) (by decide)⟩
 by_cases x10:x=10
 ·subst x10;exact .inr ⟨.one (.h (.p 11 0)),rfl,by rw [h.s10];exact hp1 11 (by rw [hL.h11];simp) (by decide)⟩
 by_cases x11:x=11
 ·subst x11;exact .inr ⟨.one (.h (.p 12 0)),rfl,by rw [h.s11];exact hp1 12 (by rw [hL.h12];simp) (by decide)⟩
 by_cases x12:x=12
 ·subst x12;exact .inr ⟨.one (.h (.p 13 0)),rfl,by rw [h.s12];exact hp1 13 (by rw [hL.h13];simp) (by decide)⟩
 rw [if_neg x1,if_neg x9,if_neg x10,if_neg x11,if_neg x12];exact .inl rfl
theorem Ie {W0:Wit} {w0:World} {hp0:Nat→Hb} {es:List Ev} {d:Dep} {v:Value} {k2 k3:Nat} {Wn:Wit} {E cs:List Ev} {F:List Nat} {w:World} (h:LI W0 w0 hp0 es d v k2 k3 Wn E F w)
 (hdk:d.ok) (hl:d.st.length≤1000) (hE:iG d E) (hC:iG d cs) (hcl:cs.length≤16) (hF:F.length≤400000) {a:Act} (ha:SlE Wn a) (h13:∀ S w',RD S w' (.im (es.map Ev.row)) v→RD S w' (.im (cs.map Ev.row)) (a.tmps.getD 13 undef)) (l m B:Nat) :
 (F5 mX).wpIn (Fence.wide.inRound l) m Try.prog (fun e _ w'=>e=.normal∧KeepsFrom B w w'∧Kp2 k2 k3 w w'∧LI W0 w0 hp0 es d v k2 k3 Wn (E ++ cs) (F ++ bM 66 (je d E cs)) w') a w:=by
 obtain ⟨W,hp,N,bf,ht,hpl,hL,hnm,⟨n2,n3,z2,z3⟩,hrd⟩:=h;have hr:=ht.rhp
 have hsl:Kq W w (slC cs) a:=by
  intro x;unfold slC
  by_cases x13:x=13
  ·subst x13;exact .inr ⟨.one (.d (.im (cs.map Ev.row))),rfl,h13 _ _ hrd⟩
  ·rw [if_neg x13];exact ha.ok hr hL hnm x
 refine wpIn_mono (xJ (n:=Try.f12.ntmps) l m Ea (nR bT (by kernel_rfl)) cpw12B (by kernel_rfl) (by kernel_rfl) (fun _=>1) (Q:=fun e st=>e=.normal∧∃ N' bf',ql es d (E ++ cs) (F ++ bM 66 (je d E cs)) st.hb N' bf') (fun s q=>by cases q.1) (VN hdk hl hE hC hcl hF hL fun st N' bf' q=>⟨rfl,N',bf',q⟩) (fun _ _=>trivial) hr ha.len hsl) ?_;rintro e a' w' ⟨s',W',⟨rfl,N',bf',hL'⟩,hp'⟩;have hT:=hp'.tr;obtain ⟨pl,hLd⟩:=hL'.drop;refine ⟨rfl,⟨hT.but.size,fun k o hB hk ho=>?_⟩,⟨hT.but.block _ z2 n2,hT.but.block _ z3 n3⟩,W',_,N',bf',(ht.trans hT).drop lN,pl,hLd,fun b hb=>?_,⟨fun q=>?_,fun q=>?_,Nat.lt_of_lt_of_le z2 hT.but.size,Nat.lt_of_lt_of_le z3 hT.but.size⟩,RD.ext (hT.ext hr) hrd⟩
 ·rw [hT.but.block k (Array.getElem?_eq_some_iff.1 hk).1 (fun q=>?_)]
  ·exact hk
  ·obtain ⟨o2,ho2,hc2⟩:=hpl.obj hr q;rw [hk] at ho2;cases ho2;rw [ho] at hc2;cases hc2
 ·rw [(hT.keep b ((hr.lv b).2 ?_)).2.1]
  ·exact hnm b hb
  ·rcases hb with rfl | rfl | rfl | rfl | rfl
   ·rw [hL.h2];simp
   ·rw [hL.w.h];simp
   ·rw [hL.h11];simp
   ·rw [hL.h12];simp
   ·rw [hL.h13];simp
 ·rcases (hT.drop lN).fp k2 q with q | q
  ·exact n2 q
  ·omega
 ·rcases (hT.drop lN).fp k3 q with q | q
  ·exact n3 q
  ·omega
def stN (es:List Ev) (d:Dep) (l:List Nat):List Ev×List Nat:=l.foldl (fun p k=>(p.1 ++ bV es (16 * k) 16,p.2 ++ bM 66 (je d p.1 (bV es (16 * k) 16)))) ([],bW)
theorem Hf (es:List Ev) (d:Dep) (l:List Nat) (k:Nat):stN es d (l ++ [k])=((stN es d l).1 ++ bV es (16 * k) 16,(stN es d l).2 ++ bM 66 (je d (stN es d l).1 (bV es (16 * k) 16))):=by
 unfold stN;rw [List.foldl_append];rfl
theorem y8 (es:List Ev) (d:Dep):∀ k,stN es d (List.range k)=(es.take (16 * k),kR es d k)
 | 0=>by
   show (([]:List Ev),bW)=_
   unfold kR;simp
 | k+1=>by
   rw [List.range_succ,Hf,y8 es d k]
   show (es.take (16 * k) ++ bV es (16 * k) 16,kR es d k ++ bM 66 (je d (es.take (16 * k)) (bV es (16 * k) 16)))=_
   rw [Po,gV];unfold kR;rw [List.range_succ,List.map_append,List.flatten_append];simp [fV,List.append_assoc,Nat.mul_add]
theorem BR {es:List Ev} {d:Dep} (h:iG d es) (i n:Nat):iG d (bV es i n):=fun e he=>h e (oO he)
theorem UN {es:List Ev} {d:Dep} (h:iG d es) (hl:d.st.length≤1000) (l:List Nat):iG d (stN es d l).1∧(stN es d l).2.length≤8+30014 * l.length:=by
 have gen:∀ (l:List Nat) (p:List Ev×List Nat),iG d p.1→iG d (l.foldl (fun p k=>(p.1 ++ bV es (16 * k) 16,p.2 ++ bM 66 (je d p.1 (bV es (16 * k) 16)))) p).1∧(l.foldl (fun p k=>(p.1 ++ bV es (16 * k) 16,p.2 ++ bM 66 (je d p.1 (bV es (16 * k) 16)))) p).2.length≤p.2.length+30014 * l.length:=by
  intro l
  induction l with
  | nil=>exact fun p hp=>⟨hp,Nat.le_refl _⟩
  | cons k l ih =>
    intro p hp;have hc:=BR h (16 * k) 16;obtain ⟨h1,h2⟩:=ih (p.1 ++ bV es (16 * k) 16,p.2 ++ bM 66 (je d p.1 (bV es (16 * k) 16))) (hp.app hc);refine ⟨h1,Nat.le_trans h2 ?_⟩;have h3:=yj hl hp hc (by rw [iy];omega)
    have h4:(bM 66 (je d p.1 (bV es (16 * k) 16))).length≤(je d p.1 (bV es (16 * k) 16)).length+14:=by
     unfold bM bB;rw [List.length_append,List.length_cons,List.length_append];have:=bU (je d p.1 (bV es (16 * k) 16)).length;have:∀ x,(fT x).length=4:=fun x=>rfl
     rw [this];omega
    rw [List.length_append,List.length_cons];omega
 obtain ⟨h1,h2⟩:=gen l ([],bW) (fun e he=>by cases he);exact ⟨h1,h2⟩
def SG (hp:Nat→Hb) (az:List Hw) (Post:(Nat→Hb)→List Hw→Prop):Prop:=∃ (es:List Ev) (d:Dep),az=[iq (eH es d)]∧((∀ b,hp b=.no)∧es.length≤80∧(d.st.length≤1000∧d.pr.length≤1000)∧d.iE) ∧
 Post=fun h r=>(eP es d→∃ b,r=[.one (.h (.v b)),.one (hI 0)]∧h b=.vec 5 1 (byR (gK es d)))∧(¬ eP es d→r=[.one (.d (.im [])),.one (hI 1)])
theorem OD {W0 W':Wit} {w0 w':World} {hp0 hp':Nat→Hb} {x y:Hw} {u v:Value} (ht:Tr W0 w0 hp0 W' w' hp') (hx:RHw W' w' x u) (hy:RHw W' w' y v) :
 ∃ r W'',Ending.returned (.tuple #[u,v])=.returned r∧RRH W'' w' [x,y] r∧RHp W'' w' hp'∧(∀ b,W0.lv b→W''.lv b∧W''.nm b=W0.nm b∧W''.nv b=W0.nv b)∧kK (dK W0 hp0) w0 w'∧(∀ k,dK W'' hp' k→dK W0 hp0 k∨w0.heap.size≤k)∧∀ k,k < w0.heap.size→W''.S k=W0.S k:=by
 refine ⟨_,W',rfl,⟨#[u,v],rfl,rfl,fun i p q h1 h2=>?_⟩,ht.rhp,ht.keep,ht.but,ht.fp,ht.S⟩
 match i with
 | 0=>cases h1;cases h2;exact hx
 | 1=>cases h1;cases h2;exact hy
 | i+2=>simp at h1
theorem R7 (es:List Ev) (d:Dep):ql es d [] bW (hpA es d) 66 65:=by
 have:=MG es d;have e1:es.take (16 * 0)=[]:=by simp
 have e2:kR es d 0=bW:=by unfold kR;simp
 unfold Dk at this;rw [e1,e2] at this;exact this
theorem Vg (es:List Ev) (d:Dep):ql es d [] bW (yH es d) 72 65:=by
 have h:=R7 es d;have o:∀ b,b≠70→b≠71→yH es d b=hpA es d b:=fun b h1 h2=>by unfold yH;rw [bF h2,bF h1]
 exact ⟨⟨(o 10 (by decide) (by decide)).trans h.w.h,rfl,(fun h=>by cases h),by decide,fun b hb=>(o b (by omega) (by omega)).trans (h.w.fr b (by omega))⟩,(o 2 (by decide) (by decide)).trans h.h2,(o 11 (by decide) (by decide)).trans h.h11,(o 12 (by decide) (by decide)).trans h.h12,(o 13 (by decide) (by decide)).trans h.h13,(o 65 (by decide) (by decide)).trans h.hf,by decide⟩
theorem SlE.of {n:Nat} {W W':Wit} {w w':World} {hp:Nat→Hb} {df:List Deferred} {s':St} {a':Act} (hn:n=Try.f12.ntmps) (h:Piece W w hp n df s' W' a' w') (hs:∀ x,x=1∨x=9∨x=10∨x=11∨x=12→s'.sl x=slB x):SlE W' a':=by
 subst hn
 have g:∀ x b,(x=1∨x=9∨x=10∨x=11∨x=12)→slB x=.b (.one (.hv (.p b 0)))→a'.tmps.getD x undef=.pointer (some ⟨W'.nm b,0,none⟩):=fun x b hx hb=>by
  have:=h.sl x (.one (.h (.p b 0))) (by rw [hs x hx,hb];rfl)
  exact this.1
 exact ⟨h.len,g 1 2 (by decide) rfl,g 9 10 (by decide) rfl,g 10 11 (by decide) rfl,g 11 12 (by decide) rfl,g 12 13 (by decide) rfl⟩
def rZ (W0:Wit) (w0:World) (es:List Ev) (d:Dep):Ending→World→Prop:=fun e w'=>∃ hp' rs,((eP es d→∃ b,rs=[.one (.h (.v b)),.one (hI 0)]∧hp' b=.vec 5 1 (byR (gK es d)))∧(¬ eP es d→rs=[.one (.d (.im [])),.one (hI 1)])) ∧
 ∃ u W',e=.returned u∧RRH W' w' rs u∧RHp W' w' hp'∧(∀ b,W0.lv b→W'.lv b∧W'.nm b=W0.nm b∧W'.nv b=W0.nv b)∧kK (dK W0 (fun _=>.no)) w0 w'∧(∀ k,dK W' hp' k→dK W0 (fun _=>.no) k∨w0.heap.size≤k)∧∀ k,k < w0.heap.size→W'.S k=W0.S k
theorem KR {W0 Wn:Wit} {w0 w:World} {es:List Ev} {d:Dep} {v:Value} {k2 k3:Nat} (hS:eP es d) (ok:tu d es) (he:es.length≤80) {a:Act} (ha:SlE Wn a) {D:Nat} (hI:LI W0 w0 (fun _=>.no) es d v k2 k3 Wn es (kR es d (dL es)) w) (hD:w0.heap.size≤D) (hK:w.heap[D]? = some (.deferred (some []))) :
 wpL Try.prog (bodyPostM Fence.wide 3 Try.prog Try.f12 (rZ W0 w0 es d)) (((eF lq).drop 14).take 6) { a with defers:={ target:=.collected D,args:=#[] } :: [] } w:=by
 obtain ⟨W,hp,N,bf,ht,hpl,hL,hnm,_,_⟩:=hI;have hr:=ht.rhp;have htk:es.take (16 * dL es)=es:=List.take_of_length_le (by unfold dL;omega)
 have hL2:Dk es d (dL es) hp N bf:=by
  unfold Dk;rw [htk];exact hL
 have hsl:Kq W w slB { a with defers:={ target:=.collected D,args:=#[] } :: [] }:=SlE.ok (Wn:=Wn) ⟨ha.len,ha.s1,ha.s9,ha.s10,ha.s11,ha.s12⟩ hr hL hnm
 have:=lZ (P:=Try.prog) (n:=Try.f12.ntmps) (l2:=[]) (a:={ a with defers:={ target:=.collected D,args:=#[] } :: [] }) vK (nR bT (by kernel_rfl)) aX cpw12Z (by kernel_rfl) (by kernel_rfl) (fun _=>1) (Q:=fun e st=>e=.ret∧∃ b,(st.sl 2).hw=some (.one (.h (.v b)))∧st.hb b=.vec 5 1 (byR (gK es d))∧(st.sl 3).hw=some (.one (hI 0)))
  (encZ ok he hL2 (fun st b q1 q2 q3=>⟨rfl,b,q1,q2,q3⟩)) (fun _ _=>trivial) hr ha.len hsl (Q2:=bodyPostM Fence.wide 3 Try.prog Try.f12 (rZ W0 w0 es d)) ?_
 ·rw [List.append_nil] at this;exact this
 rintro e s3 W3 a3 w3 ⟨rfl,b,q2,qb,q3⟩ hp3;have hT:=ht.trans hp3.tr
 have hpl3:qO (mO (fun x=>x=b) s3.hb):=uh fun x hx=>by
  subst hx;exact .inr ⟨_,_,_,qb⟩
 have hT2:=hT.drop (h2:=mO (fun x=>x=b) s3.hb) lN
 have hDn:¬ dK W hp D:=fun q=>by
  obtain ⟨o,ho,hc⟩:=hpl.obj hr q;rw [hK] at ho;cases ho;cases hc
 have hK3:w3.heap[D]? = some (.deferred (some [])):=(hp3.but.block D (Array.getElem?_eq_some_iff.1 hK).1 hDn).trans hK;have hg:=grownBy_putObj' w3 D (.deferred none);have hT3:=hT2.grown hpl3 hg (fun r e=>by cases e;exact ⟨hD,_,hK3,rfl⟩)
 have hx:=sK (S:=W3.S) hg (fun r e=>by cases e;exact ⟨_,hK3,rfl⟩)
 have f2:=RB.fol (Fol.stay hx) (hp3.sl 2 _ q2);have f3:=RB.fol (Fol.stay hx) (hp3.sl 3 _ q3)
 show LeavesInM Fence.wide 3 Try.prog Try.f12 a3.tmps (rZ W0 w0 es d) a3.defers .returning w3
 rw [hp3.dfs];refine ⟨by simp,.inl ⟨D,_,rfl,run_takeDeferred hK3,?_⟩⟩;refine ⟨_,results_tmp2 rfl _ _ _,?_⟩;obtain ⟨r,W'',r1,r2⟩:=OD hT3 f2 f3;exact ⟨_,_,⟨fun _=>⟨b,rfl,(jH (L:=fun x=>x=b) rfl).trans qb⟩,fun q=>absurd hS q⟩,r,W'',r1,r2⟩
theorem U9 (tv:Value) (n:Nat):(#[tv] ++ Array.replicate n undef).getD 0 undef=tv:=by
 simp [Array.getD]
theorem Pz (tv:Value):(#[tv] ++ Array.replicate (Try.f12.ntmps - (#[tv]:Array Value).size) undef).size=Try.f12.ntmps:=by
 rw [Try.ntmps12];simp
theorem lH {t:Array Value} {i j k:Nat} {u v w:Value} (h1:i≠k) (h2:j≠k):((t.setIfInBounds i u).setIfInBounds j v).getD k w=t.getD k w:=by
 simp only [Array.getD_eq_getD_getElem?,Array.getElem?_setIfInBounds];rw [if_neg h2,if_neg h1]
theorem yE {t:Array Value} {j:Nat} {v w:Value} (h:j < t.size):(t.setIfInBounds j v).getD j w=v:=by
 simp [Array.getD_eq_getD_getElem?,h]
def fv {m:Nat} (l:List (Fin m)):List Nat:=l.map fun x=>x.1
theorem PD {es:List Ev} {d:Dep} {W0:Wit} {w0:World} {tv:Value} (he:es.length≤80) (hl:d.st.length≤1000∧d.pr.length≤1000) (h64:d.iE) (hrp:RHp W0 w0 (fun _=>.no)) (htv:RHw W0 w0 (iq (eH es d)) tv) :
 wpL Try.prog (bodyPostM Fence.wide 3 Try.prog Try.f12 (rZ W0 w0 es d)) (eF lq) { tmps:=#[tv] ++ Array.replicate (Try.f12.ntmps - (#[tv]:Array Value).size) undef,defers:=[] } w0:=by
 rw [Py]
 have hsl0:Kq W0 w0 (slA es d) { tmps:=#[tv] ++ Array.replicate (Try.f12.ntmps - (#[tv]:Array Value).size) undef,defers:=[] }:=by
  intro x;unfold slA
  by_cases x0:x=0
  ·subst x0;exact .inr ⟨iq (eH es d),rfl,by rw [U9];exact htv⟩
  ·rw [if_neg x0];exact .inl rfl
 have hlen0:=Pz tv;obtain ⟨a0,ha0⟩:∃ a0:Act,{ tmps:=#[tv] ++ Array.replicate (Try.f12.ntmps - (#[tv]:Array Value).size) undef,defers:=[] }=a0:=⟨_,rfl⟩
 have hd0:a0.defers=[]:=by rw [←ha0]
 have hlen1:a0.tmps.size=Try.f12.ntmps:=by rw [←ha0];exact hlen0
 rw [ha0] at hsl0 ⊢;clear hlen0 ha0
 refine lZ (P:=Try.prog) (n:=Try.f12.ntmps) (a:=a0) D9 (nR bT (by kernel_rfl)) aX cpw12A (by kernel_rfl) (by kernel_rfl) (fun b=>b)
  (Q:=fun e st=>(e=.ret∧¬ eP es d∧(st.sl 2).hw=some (.one (.d (.im [])))∧(st.sl 3).hw=some (.one (hI 1)))∨(e=.normal∧eP es d∧Ro es d st)) (VL (by omega) ⟨by omega,by omega⟩ h64 (fun hn st h2 h3=>.inl ⟨rfl,hn,h2,h3⟩) (fun hS st h=>.inr ⟨rfl,hS,h⟩)) (fun _ _=>trivial) hrp hlen1 hsl0 ?_
 rintro e s1 W1 a1 w1 (⟨rfl,hns,q2,q3⟩ | ⟨rfl,hS,hES⟩) hp1
 ·show LeavesInM Fence.wide 3 Try.prog Try.f12 a1.tmps _ a1.defers .returning w1
  rw [hp1.dfs,hd0];refine ⟨_,results_tmp2 rfl _ _ _,?_⟩;obtain ⟨r,W'',r1,r2⟩:=OD hp1.tr (hp1.sl 2 _ q2) (hp1.sl 3 _ q3);exact ⟨_,_,⟨fun q=>absurd q hns,fun _=>rfl⟩,r,W'',r1,r2⟩
 have ok:=hS.ok hl.1 (by omega);have hE:iG d es:=fun e he=>ok.ev e he
 have hsE:∀ x,x=1∨x=9∨x=10∨x=11∨x=12→s1.sl x=slB x:=fun x hx=>by
  rcases hx with rfl | rfl | rfl | rfl | rfl
  ·exact hES.s1
  ·exact hES.s9
  ·exact hES.s10
  ·exact hES.s11
  ·exact hES.s12
 have hE1:=SlE.of rfl hp1 hsE;have hT1:=hp1.tr;rw [hES.hb] at hT1
 refine lZ (P:=Try.prog) (n:=Try.f12.ntmps) (a:=a1) Eb (nR bT (by kernel_rfl)) aX cpc12C (by kernel_rfl) (by kernel_rfl) (fun _=>1)
  (Q:=fun e st=>e=.normal∧(st.sl 69).hw=some (.one (.h (.f 47 [] [(70,0),(71,0)])))∧(∀ x,x=1∨x=9∨x=10∨x=11∨x=12→st.sl x=slB x)∧st.hb=yH es d) (VO fun st h1 h2 h3=>⟨rfl,h1,h2,h3⟩) (fun _ _=>trivial) hT1.rhp hp1.len (hE1.ok hT1.rhp (R7 es d) fun _ _=>rfl) ?_
 rintro e s2 W2 a2 w2 ⟨rfl,h69,hs2,hb2⟩ hp2;have hE2:=SlE.of rfl hp2 hs2;have hT2:=hT1.trans hp2.tr;rw [hb2] at hT2;have hdf:a2.defers=[]:=hp2.dfs.trans (hp1.dfs.trans hd0);have hr2:=hT2.rhp
 obtain ⟨arr,T,g1,g2⟩:RH W2 G0 O0 w2 70 (.cells [.d (.im (es.map Ev.row))]):=by
  have:=hr2.at_ 70
  rwa [show yH es d 70=.cells [.d (.im (es.map Ev.row))] from rfl] at this
 obtain ⟨v,rfl⟩:∃ v,arr=#[v]:=Array.size_eq_one_iff.1 (by simpa using g2.1.symm)
 have hrd:RD W2.S w2 (.im (es.map Ev.row)) v:=g2.2 0 _ v rfl rfl
 obtain ⟨arr3,T3,g3,g4⟩:RH W2 G0 O0 w2 71 (.cells [hI 16]):=by
  have:=hr2.at_ 71
  rwa [show yH es d 71=.cells [hI 16] from rfl] at this
 obtain ⟨v3,rfl⟩:∃ v3,arr3=#[v3]:=Array.size_eq_one_iff.1 (by simpa using g4.1.symm)
 obtain rfl:v3=.int .i64 16:=by
  have:RD W2.S w2 (.sc (.int .i64 16)) v3:=g4.2 0 _ v3 rfl rfl;cases this;rfl
 obtain ⟨k2,hk2⟩:∃ k2,W2.nm 70=k2:=⟨_,rfl⟩
 obtain ⟨k3,hk3⟩:∃ k3,W2.nm 71=k3:=⟨_,rfl⟩
 rw [hk2] at g1;rw [hk3] at g3;have z2:k2 < w2.heap.size:=(Array.getElem?_eq_some_iff.1 g1).1;have z3:k3 < w2.heap.size:=(Array.getElem?_eq_some_iff.1 g3).1;have c2:w2.cell? ⟨k2,0,none⟩=some v:=by unfold World.cell?;rw [g1];rfl
 have c3:w2.cell? ⟨k3,0,none⟩=some (.int .i64 16):=by unfold World.cell?;rw [g3];rfl
 have hg:a2.tmps.getD 69 undef=.func (.func 47) #[] #[.pointer (some ⟨k2,0,none⟩),.pointer (some ⟨k3,0,none⟩)]:=by
  have:=(hp2.sl 69 _ h69).1;rw [this,←hk2,←hk3];rfl
 obtain ⟨pl,hLd⟩:=(Vg es d).drop
 have hnf:∀ b k,¬ nC 65 b→W2.nm b=k→(∃ cs,yH es d b=.cells cs)→¬ dK W2 (mO (nC 65) (yH es d)) k:=by
  rintro b k hb rfl ⟨cs,hcs⟩ ⟨m,hm⟩
  have hm2:hcl W2 m (yH es d m) (W2.nm b):=by
   rcases lN (L:=nC 65) (hp:=yH es d) m with q | q
   ·rw [q] at hm;exact hm
   ·rw [q.1] at hm;exact hm.elim
  have:=hr2.ex b m _ (by rw [hcs];rfl) hm2
  subst this;unfold mO at hm;rw [if_neg hb,hcs] at hm;exact hm
 have hLI:LI W0 w0 (fun _=>.no) es d v k2 k3 W2 [] bW w2:=⟨W2,_,72,65,hT2.drop lN,pl,hLd,fun _ _=>rfl,⟨hnf 70 k2 (by unfold nC;decide) hk2 ⟨_,rfl⟩,hnf 71 k3 (by unfold nC;decide) hk3 ⟨_,rfl⟩,z2,z3⟩,hrd⟩
 obtain ⟨enc,henc,hstops⟩:=AV (n:=2) (by decide) (by omega) hrd c2 c3 z2 z3
 show mX.wp Try.prog _ a2 w2
 rw [U8];refine (wpIn_wide (n:=3)).1 (wpIn_block ?_);have hsz02:=hT2.but.size
 refine wpIn_rangeFunc_ownG (n:=3) rfl (by decide) (gf:=47) (lb:=#[.pointer (some ⟨k2,0,none⟩),.pointer (some ⟨k3,0,none⟩)]) hg trivial (enters_of Try.func47 (by kernel_rfl) rfl) hstops Kp2.t (kpb z2 z3) (Below.refl _ _) (fun _=>rfl)
  (fun (pre:List (Fin (dL es))) W=>LI W0 w0 (fun _=>.no) es d v k2 k3 W2 (stN es d (fv pre)).1 (stN es d (fv pre)).2 W) (fun _ _ _=>False)
  (fun s A B row hs hg2 hr=>hs.grown hg2 fun r e=>⟨Nat.le_trans hsz02 (hr r e).1,(hr r e).2⟩) (fun _ _ _ _ _ hs _ _=>hs) hLI
  (fun x=>{ tmps:=(a2.tmps.setIfInBounds 70 (enc x)).setIfInBounds 13 (enc x),defers:=[] }) ?assign ?body ?done ?stop
 case assign =>
  intro l x W K hK;obtain ⟨o,ho,h1,h2,h3⟩:=S9;rw [ho];obtain ⟨dst,op,ty,pos,after,guard⟩:=o;dsimp only at h1 h2 h3;subst h1 h2 h3;have hz:(#[70]:Array Tmp).zip #[enc x]=#[(70,enc x)]:=by simp
  rw [hz];simp only [List.foldl_toArray',List.foldl_cons,List.foldl_nil,List.size_toArray,List.length_cons,List.length_nil];have hget:(a2.tmps.setIfInBounds 70 (enc x)).getD 70 undef=enc x:=yE (by simp [hE2.len] <;> decide)
  refine wpIn_region (ou l _ (fun o ho c he=>?_) (fun h=>?_) _ _ _ ?_)
  ·simp at ho;subst ho;cases he
  ·obtain ⟨_,_,h⟩:=h;exact h
  ·show wpOps _ _ _ [0] _ _
   unfold wpOps
   show (if _ then _ else _)
   rw [if_pos (show Region.wanted _ _=true from rfl)];refine .inl ?_;unfold Oper.wp
   show Oper.upon _ _ _ _ _ (.ok (.value ((a2.tmps.setIfInBounds 70 (enc x)).getD 70 undef)) W)
   rw [hget];exact hK
 case body =>
  intro l pre x W hIp hlt;obtain ⟨e1,e2⟩:=UN hE hl.1 (fv pre);have e3:(fv pre).length=pre.length:=List.length_map ..;rw [e3] at e2;have hm5:dL es≤5:=by unfold dL;omega
  refine wpIn_mono (Ie hIp ok.dk hl.1 e1 (BR hE (16 * x.1) 16) (by rw [iy];omega) (by omega) (a:=_) ⟨?_,?_,?_,?_,?_,?_⟩ (fun S w' h=>?_) l _ w2.heap.size) ?_
  ·simp [hE2.len]
  ·rw [lH (by decide) (by decide)];exact hE2.s1
  ·rw [lH (by decide) (by decide)];exact hE2.s9
  ·rw [lH (by decide) (by decide)];exact hE2.s10
  ·rw [lH (by decide) (by decide)];exact hE2.s11
  ·rw [lH (by decide) (by decide)];exact hE2.s12
  ·have:((a2.tmps.setIfInBounds 70 (enc x)).setIfInBounds 13 (enc x)).getD 13 undef=enc x:=yE (by simp [hE2.len] <;> decide)
   rw [this];exact henc x S w' h
  ·rintro e a' W' ⟨rfl,h1,h2,h3⟩;refine ⟨h1,h2,?_⟩;have:fv (pre ++ [x])=fv pre ++ [x.1]:=List.map_append ..
   show LI W0 w0 _ es d v k2 k3 W2 (stN es d (fv (pre ++ [x]))).1 (stN es d (fv (pre ++ [x]))).2 W'
   rw [this,Hf];exact h3
 case done =>
  intro D xs W hD hxs hIx hK;have hxs2:fv xs=List.range (dL es):=hxs;have hIx:LI W0 w0 (fun _=>.no) es d v k2 k3 W2 (stN es d (fv xs)).1 (stN es d (fv xs)).2 W:=hIx;rw [hxs2,y8] at hIx;have hIx:LI W0 w0 (fun _=>.no) es d v k2 k3 W2 (es.take (16 * dL es)) (kR es d (dL es)) W:=hIx;have htk:es.take (16 * dL es)=es:=List.take_of_length_le (by unfold dL;omega)
  rw [htk] at hIx;have:=KR hS ok he hE2 hIx (Nat.le_trans hsz02 hD) hK;rw [hdf];exact this
 case stop =>
  intro D c pre W _ _ h _;exact h.elim
theorem Us:dY Try.prog 12 SG:=by
 rintro hp az Post ⟨es,d,rfl,⟨hno,he,hl,h64⟩,rfl⟩ W0 w0 vals hI hrp hvals;obtain rfl:hp=fun _=>.no:=funext hno
 have hb:Try.f12.body=some lq:=by kernel_rfl
 obtain ⟨tv,htv,rfl⟩:∃ tv,RHw W0 w0 (iq (eH es d)) tv∧vals=#[tv]:=by
  obtain ⟨q1,q2⟩:=hvals;obtain ⟨v,rfl⟩:∃ v,vals=#[v]:=Array.size_eq_one_iff.1 (by simpa using q1.symm)
  exact ⟨v,q2 0 _ v rfl rfl,rfl⟩
 have h1:=(wpIn_wide (n:=3)).2 (Fz (PD he hl h64 hrp htv));have h2:CallsIn Fence.wide 3 Try.prog 12 #[tv] w0 (rZ W0 w0 es d):=callsIn_of_wp_marks Try.func12 hb trivial h1 rfl;exact callsIn_wide.1 h2
def FD (ps rs:List Pa):Prop:=∃ (es:List Ev) (d:Dep),ps=[eH es d]∧(es.length≤80∧(d.st.length≤1000∧d.pr.length≤1000)∧d.iE)∧rs=Af es d
theorem OG:Spec Try.prog 12 FD:=o7 Us (by
 rintro az rs ⟨es,d,rfl,⟨h1,h2,h3⟩,rfl⟩;refine ⟨_,⟨es,d,rfl,⟨fun _=>rfl,h1,h2,h3⟩,rfl⟩,?_⟩;rintro hp' rs' ⟨hy,hn⟩
 by_cases hS:eP es d
 ·obtain ⟨b,rfl,hb⟩:=hy hS;rw [jR hS];simp only [List.map_cons,List.map_nil,Hw.pa,Hc.pa,hb,Option.map_some,cu]
 ·rw [hn hS,wO hS];rfl)
def lgB (es:List Ev) (d:Dep):Bool:=decide (80 < es.length) || decide (60 < d.st.length) || decide (60 < d.pr.length)
def VG (ps rs:List Pa):Prop:=∃ (es:List Ev) (d:Dep),ps=[eH es d]∧rs=[pB (lgB es d)]
theorem VX:Spec Try.prog 11 VG:=by
 refine sp11 aA.e0 ?_;rintro ps rs ⟨es,d,rfl,rfl⟩;refine ⟨by simp,?_⟩;have m1:(d.st.map aQ).length=d.st.length:=List.length_map ..;have m2:(es.map Ev.row).length=es.length:=List.length_map ..;have m3:(d.pr.map fun x=>[dI x]).length=d.pr.length:=List.length_map ..;unfold pc11
 with_reducible refine aJ ?_
 by_cases c1:80 < es.length
 ·have i1:((es.length:Int) > 80):=by omega
  have hl:lgB es d=true:=by unfold lgB;simp [c1]
  rw [hl];simp only [↓evP,evB,stB,reduceCtorEq,Nat.reduceEqDiff,eH,dA,Pa.bv,m2,i1,decide_true,pr11]
 have i1:¬ ((es.length:Int) > 80):=by omega
 by_cases c2:60 < d.st.length
 ·have i2:((d.st.length:Int) > 60):=by omega
  have hl:lgB es d=true:=by unfold lgB;simp [c2]
  rw [hl];simp only [↓evP,evB,stB,reduceCtorEq,Nat.reduceEqDiff,eH,dA,Pa.bv,m1,m2,i1,i2,decide_true,decide_false,pr11]
 have i2:¬ ((d.st.length:Int) > 60):=by omega
 by_cases c3:60 < d.pr.length
 ·have i3:((d.pr.length:Int) > 60):=by omega
  have hl:lgB es d=true:=by unfold lgB;simp [c3]
  rw [hl];simp only [↓evP,evB,stB,reduceCtorEq,Nat.reduceEqDiff,Nat.reduceAdd,eH,dA,Pa.bv,m1,m2,m3,i1,i2,i3,decide_true,decide_false,pr11]
 have i3:¬ ((d.pr.length:Int) > 60):=by omega
 have hl:lgB es d=false:=by unfold lgB;simp [c1,c2,c3]
 rw [hl];simp only [↓evP,evB,stB,reduceCtorEq,Nat.reduceEqDiff,Nat.reduceAdd,eH,dA,Pa.bv,m1,m2,m3,i1,i2,i3,decide_false,pr11]
theorem gY:∀ l:List Nat,dO (byR l)=some (l.map fun x:Nat=>(x:Int))
 | []=>rfl
 | x :: l=>by
   show (dO (byR l)).map _=_
   rw [gY l];rfl
def aw0:List Nat:=gK [] ⟨[],[]⟩
def yc:List Ev:=[⟨0,1,0,0,0,0,0,0,0⟩]
def tJ:Dep:=⟨[(0,0)],[-1]⟩
theorem U3:eP [] ⟨[],[]⟩:=⟨⟨rfl,fun i h=>absurd h (Nat.not_lt_zero _)⟩,fun s hs=>(by cases hs),fun e he=>(by cases he)⟩
theorem U5:eP yc tJ:=by
 refine ⟨⟨rfl,fun i h=>?_⟩,fun s hs=>?_,fun e he=>?_⟩
 ·have:i=0:=by have:tJ.st.length=1:=rfl;omega
  subst this;refine ⟨?_,fun k h=>absurd h (Nat.not_lt_zero _)⟩;unfold Dep.good;decide
 ·simp only [tJ,List.mem_cons,List.not_mem_nil,or_false] at hs;subst hs;decide
 ·simp only [yc,List.mem_cons,List.not_mem_nil,or_false] at he;subst he;decide
theorem U4:aw0.length=16∧aw0.take 12=[73,84,82,65,67,69,49,10,69,2,0,0]:=by
 constructor <;> kernel_rfl
theorem U6:24 < (gK yc tJ).length∧((gK yc tJ).take 24).drop 8=[66,14,1,0,0,0,1,0,2,0,0,0,0,0,0,0]∧(gK yc tJ).length≤1000:=by
 refine ⟨?_,by kernel_rfl,?_⟩ <;> decide +kernel
theorem SS:tJ.iE:=by
 refine ⟨fun p h=>?_,fun p h=>?_⟩
 ·simp only [tJ,List.mem_cons,List.not_mem_nil,or_false] at h;subst h;unfold iE;decide
 ·simp only [tJ,List.mem_cons,List.not_mem_nil,or_false] at h;subst h;unfold iE;decide
def Dp (ps rs:List Pa):Prop:=ps=[]∧rs=[pB true]
noncomputable def PE:Env:=e1 12 FD e0
theorem Ig:aA Try.prog PE:=aA.e1 OG aA.e0
theorem J7:Spec Try.prog 10 Dp:=by
 refine sp10 Ig ?_;rintro ps rs ⟨rfl,rfl⟩;refine ⟨by simp,?_⟩;obtain ⟨v1,v2⟩:=U4;obtain ⟨u1,u2,u3⟩:=U6;unfold pc10
 with_reducible refine aJ ?_
 simp only [↓evP,evB,stB,reduceCtorEq,Nat.reduceAdd,Nat.reduceBEq];refine aC [cu aw0,pI 0] (by exact ⟨[],⟨[],[]⟩,rfl,⟨by decide,by decide,⟨fun p h=>(by cases h),fun p h=>(by cases h)⟩⟩,(jR U3).symm⟩) ?_;simp only [↓evP,evB,stB,reduceCtorEq,Nat.reduceEqDiff,Nat.reduceAdd,Nat.reduceLeDiff,Nat.reduceBEq,cu];refine aC [cu (gK yc tJ),pI 0] (by exact ⟨yc,tJ,rfl,⟨by decide,by decide,SS⟩,(jR U5).symm⟩) ?_;have g0:((byR aw0).length:Int)=16:=by rw [aY,v1];rfl
 have g1:((byR (gK yc tJ)).length:Int) > 24:=by rw [aY];omega
 have g2:24≤((byR (gK yc tJ)).length:Int):=by omega
 have a0:=dZ aw0;have a1:=dZ (gK yc tJ)
 have b0:dO (List.take 12 (byR aw0))=some [73,84,82,65,67,69,49,10,69,2,0,0]:=by
  show dO (List.take 12 (List.map _ aw0))=_
  rw [←List.map_take,v2];rfl
 have b1:dO (List.drop 8 (List.take 24 (byR (gK yc tJ))))=some [66,14,1,0,0,0,1,0,2,0,0,0,0,0,0,0]:=by
  show dO (List.drop 8 (List.take 24 (List.map _ (gK yc tJ))))=_
  rw [←List.map_take,←List.map_drop,u2];rfl
 have c0:iH [73,84,82,65,67,69,49,10,69,2,0,0]=⟨#[73,84,82,65,67,69,49,10,69,2,0,0]⟩:=by kernel_rfl
 have c1:iH [66,14,1,0,0,0,1,0,2,0,0,0,0,0,0,0]=⟨#[66,14,1,0,0,0,1,0,2,0,0,0,0,0,0,0]⟩:=by kernel_rfl
 simp only [↓evP,evB,stB,reduceIte,reduceCtorEq,seval,cu,g0,g1,g2,a0,a1,b0,b1,c0,c1,decide_true];simp only [stB,reduceIte,seval,pr10]
end Go.Proofs.Ytkafcpnahpfbfaa
end
