/- The program's reader: a block (next). -/
import Derived.Test.YtkafcpnahpfbfaaMq12
import Derived.ProofKit
import Derived.Deep.Slices
import Derived.Deep.Fields
import Derived.ChangeSame
import Derived.OpenShut
set_option linter.unusedSimpArgs false
set_option linter.unusedVariables false
section
namespace Go.Proofs.Ytkafcpnahpfbfaa
open Go Go.RowKit
set_option maxRecDepth 1000000
set_option maxHeartbeats 4000000
theorem wR (k:Nat):∀ (d:Dep) (s:Rs),d.st <+: (fK k d s).1.st∧d.pr <+: (fK k d s).1.pr:=by
 induction k with
 | zero=>exact fun d s=>⟨List.prefix_refl _,List.prefix_refl _⟩
 | succ k ih =>
   intro d s;unfold fK;split
   ·exact ⟨List.prefix_refl _,List.prefix_refl _⟩
   ·split
    ·exact ⟨List.prefix_refl _,List.prefix_refl _⟩
    ·obtain ⟨h1,h2⟩:=ih (bZ d (dJ s).1.1 (dJ s).1.2) (dJ s).2;exact ⟨(List.prefix_append _ _).trans h1,(List.prefix_append _ _).trans h2⟩
theorem yU {α β:Type} {a b:List α} {n:Nat} {f:α→β} (h:a <+: b) (hn:a.length=n):a.map f ++ (b.drop n).map f=b.map f:=by
 obtain ⟨t,rfl⟩:=h;rw [←hn,List.drop_left,List.map_append]
theorem BL (sh:Bool) (n:Nat) (d:Dep) (l:Ev) (kind len:Nat) (body:List Nat):xR sh n d l kind len body=(if (iU ⟨body,false⟩ d).2.bad=true then none else (wF sh n d.st.length ((iU ⟨body,false⟩ d).1.st.length - d.st.length) l kind (cZ (iU ⟨body,false⟩ d).2).1 (cZ (iU ⟨body,false⟩ d).2).2).map fun p=>(⟨p.1,(iU ⟨body,false⟩ d).1,(cZ (iU ⟨body,false⟩ d).2).1,decide (kind=69),len⟩:NX)):=by
 unfold xR wF;generalize iU ⟨body,false⟩ d=E;obtain ⟨D,S⟩:=E;dsimp only
 by_cases h1:S.bad=true
 ·rw [if_pos h1,if_pos h1]
 rw [if_neg h1,if_neg h1]
 by_cases h2:(cZ S).2.bad=true
 ·rw [if_pos h2,if_pos h2];rfl
 rw [if_neg h2,if_neg h2]
 by_cases h3:kind=69
 ·rw [if_pos h3,if_pos h3]
  by_cases h4:(cZ S).1≠n
  ·rw [if_pos h4,if_pos h4];rfl
  rw [if_neg h4,if_neg h4]
  by_cases h5:(cZ S).2.rest≠[]
  ·rw [if_pos h5,if_pos h5];rfl
  rw [if_neg h5,if_neg h5]
  show _=some _
  rw [decide_eq_true h3]
 ·rw [if_neg h3,if_neg h3]
  cases oV sh n d.st.length (D.st.length - d.st.length) (cZ S).1 l (cZ S).2 with
  | none=>rfl
  | some p =>
    obtain ⟨evs,s'⟩:=p;dsimp only
    by_cases h5:s'.rest≠[]
    ·rw [if_pos h5,if_pos h5];rfl
    rw [if_neg h5,if_neg h5]
    show _=some _
    rw [decide_eq_false h3]
def zT (hp:Nat→Hb) (br bR ye ys yp:Nat) (bs:List Nat) (a:Nat) (lr:Ev) (es:List Ev) (E:Nat×Option NX) (h:Nat→Hb) (r:List Hw):Prop :=
 r=[.one (hI (E.1:Nat))]∧(E.2=none→h br=hp br∧h ye=hp ye∧h ys=hp ys∧h yp=hp yp) ∧
 ∀ x,E.2=some x→∃ N' ye' ys' yp',BI h N' br bR ye' ys' yp' bs ((a+x.len:Nat):Int) (lst lr x.es) (!x.en && decide (x.c < 16)) x.en (es ++ x.es) x.d
structure Rt (bs:List Nat) (a:Nat) (lr:Ev) (es:List Ev) (d:Dep):Prop where
 al:a≤bs.length
 bl:bs.length≤300000
 by_:∀ x ∈ bs,x≤255
 dv:d.val
 sb:∀ s ∈ d.st,s.1≤2147483647∧s.2≤2147483647
 dl:d.st.length+(bs.length - a)≤300000
 el:es.length≤5000
 lg:evG lr
def FH (hp:Nat→Hb) (az:List Hw) (Post:(Nat→Hb)→List Hw→Prop):Prop:=∃ (N br bR ye ys yp a:Nat) (bs:List Nat) (lr:Ev) (sh en:Bool) (es:List Ev) (d:Dep),
 az=[.one (hP br 0)]∧BI hp N br bR ye ys yp bs (a:Int) lr sh en es d∧Rt bs a lr es d∧Post=zT hp br bR ye ys yp bs a lr es (pU sh es.length d lr (bs.drop a))
theorem OI:dY Try.prog 50 FH:=by
 refine sqp50 Ed ?_;rintro hp az Post ⟨N,br,bR,ye,ys,yp,a,bs,lr,sh,en,es,d,rfl,hR,⟨hal,hbl,hby,hdv,hsb,hdl,hel,hlg⟩,rfl⟩;refine ⟨by simp,ncN N,?_⟩;obtain ⟨E,hE⟩:∃ E,pU sh es.length d lr (bs.drop a)=E:=⟨_,rfl⟩
 rw [hE];obtain ⟨l1,l2,l3,l4,l5⟩:=hR.lt;have hne:=hR.ne;have hfr:=hR.f
 have hbad:∀ (e:Nat) (h:Nat→Hb),E=(e,none)→(∀ b,b < N→h b=hp b)→zT hp br bR ye ys yp bs a lr es E h [.one (hI (e:Nat))]:=fun e h q hh=>by
  rw [q];exact ⟨rfl,fun _=>⟨hh br l1,hh ye l3,hh ys l4,hh yp l5⟩,fun x q=>by cases q⟩
 with_reducible refine aJ ?_
 show pwp aH pcp50 (exS aH [] (QN (zT hp br bR ye ys yp bs a lr es E))) (St.fA (ncN N) hp [.one (hP br 0)])
 refine VW hR hal (by omega) hby (fun hc h hh=>hbad 8 h ?_ hh) (fun T kind r hb hk hv hA=>?_)
 ·rw [←hE]
  rcases hc with hc | ⟨kind,r,hc,h2⟩
  ·rw [hc];rfl
  ·rw [hc];unfold pU;dsimp only
   rcases h2 with h2 | h2
   ·rw [if_pos h2]
   ·by_cases h3:kind≠66∧kind≠69
    ·rw [if_pos h3]
    ·rw [if_neg h3,if_pos h2]
 rw [hb] at hE;unfold pU at hE;dsimp only at hE;rw [if_neg (show ¬ (kind≠66∧kind≠69) by omega),if_neg (show ¬ ((vnt r).2=0∨1048576 < (vnt r).1∨(kind :: r).length < 1+(vnt r).2+(vnt r).1+4) by rintro (q | q | q);exact hv.1 q;omega;omega)] at hE
 have hbs:∀ x ∈ kind :: r,x≤255:=fun x hx=>hby x (List.mem_of_mem_drop (hb ▸ hx))
 have hbl2:(kind :: r).length=bs.length - a:=by rw [←hb,List.length_drop]
 refine Vl hA hfr l1 hbs (by omega) hv.2.2 (fun hs h hh=>hbad 9 h ?_ hh) (fun hs T2 hB=>?_)
 ·rw [←hE,if_pos hs]
 rw [if_neg (fun q=>q hs)] at hE
 have hbol:(uD (kind :: r) r).length≤bs.length - a:=by
  unfold uD;rw [List.length_drop,List.length_take];omega
 have hbob:∀ x ∈ uD (kind :: r) r,x≤255:=fun x hx=>hbs x (List.mem_of_mem_take (List.mem_of_mem_drop hx))
 obtain ⟨len,hlen⟩:∃ len,1+(vnt r).2+(vnt r).1+4=len:=⟨_,rfl⟩
 obtain ⟨body,hbody⟩:∃ body,uD (kind :: r) r=body:=⟨_,rfl⟩
 rw [hlen,hbody] at hE;rw [hbody] at hB hbol hbob;rw [BL] at hE;obtain ⟨ED,hED⟩:∃ ED,iU ⟨body,false⟩ d=ED:=⟨_,rfl⟩
 have hv2:=nQ (aP ⟨body,false⟩).1 d (aP ⟨body,false⟩).2 hdv;have hpre:=wR (aP ⟨body,false⟩).1 d (aP ⟨body,false⟩).2;have hsb2:=zG (aP ⟨body,false⟩).1 d (aP ⟨body,false⟩).2 hsb;have hlen2:=ru (aP ⟨body,false⟩).1 d (aP ⟨body,false⟩).2;have hsu:=nP (aP ⟨body,false⟩).1 d (aP ⟨body,false⟩).2;have hn1:=dh ⟨body,false⟩;rw [show fK (aP ⟨body,false⟩).1 d (aP ⟨body,false⟩).2=ED from hED] at hv2 hpre hsb2 hlen2 hsu;have hn1l:=hn1.length_le;dsimp only at hn1l;refine Vm hB hR hdv (by omega) (by omega) hbob (fun hbd h hh=>hbad 8 h ?_ hh) (fun hbd T3 N' xs xp hT=>?_)
 ·rw [←hE,if_pos hbd]
 rw [if_neg (by rw [hbd];simp)] at hE
 rw [hED] at hE hT;obtain ⟨D,S⟩:=ED;dsimp only at hE hT hv2 hpre hsb2 hlen2 hsu;have hps:=rP S;have hSl:=(hps.trans (hsu.trans hn1)).length_le;have hcb:=ni S;obtain ⟨⟨c,S2⟩,hc⟩:∃ p,cZ S=p:=⟨_,rfl⟩
 rw [hc] at hT hE hps hSl hcb;dsimp only at hT hE hps hSl hcb;refine Vn hT hR hk ⟨hlen2,by omega⟩ (by omega) (fun x hx=>hbob x ((hps.trans (hsu.trans hn1)).subset hx)) hel hlg hcb (fun hn h hh=>hbad 8 h ?_ hh) (fun evs s' T4 x1 M eR cR e2 c2 hX hKR hK2 hF=>?_)
 ·rw [←hE,hn];rfl
 rw [hX] at hE;dsimp only [Option.map_some] at hE;have hpl:=hdv.1;have hDpl:=hv2.1.1
 have hevl:evs.length≤5000:=by
  unfold wF at hX;split at hX
  ·cases hX
  ·split at hX
   ·split at hX
    ·cases hX
    ·split at hX
     ·cases hX
     ·cases hX;exact Nat.zero_le _
   ·rename_i _ q2;split at hX
    ·cases hX
    ·rename_i evs2 s2 hq;split at hX
     ·cases hX
     ·cases hX;unfold oV at hq;split at hq
      ·cases hq
      ·rename_i hg;split at hq
       ·cases hq
       ·rename_i e3 s3 he;split at hq
        ·cases hq;have:=(Gv _ _ _ _ _ he).2.1;omega
        ·cases hq
 have k1:∀ r ∈ stR D d.st.length,r.length=2:=fun r hr=>by
  unfold stR at hr;obtain ⟨x,_,rfl⟩:=List.mem_map.1 hr;rfl
 have k2:∀ r ∈ prR D d.st.length,r.length=1:=fun r hr=>by
  unfold prR at hr;obtain ⟨x,_,rfl⟩:=List.mem_map.1 hr;rfl
 have k3:∀ r ∈ evs.map Ev.row,r.length=9:=fun r hr=>by obtain ⟨x,_,rfl⟩:=List.mem_map.1 hr;rfl
 have j1:(d.st.map aQ).length+(stR D d.st.length).length≤1000000:=by unfold stR;rw [List.length_map,List.length_map,List.length_drop];omega
 have j2:(d.pr.map fun x=>[dI x]).length+(prR D d.st.length).length≤1000000:=by unfold prR;rw [List.length_map,List.length_map,List.length_drop];omega
 have j3:(es.map Ev.row).length+(evs.map Ev.row).length≤1000000:=by rw [List.length_map,List.length_map];omega
 have hkeyI:∀ i,i < d.st.length→uj D i=uj d i:=fun i hi=>by
  obtain ⟨⟨t1,q1⟩,⟨t2,q2⟩⟩:=hpre;unfold uj dS fH;simp only [List.getD_eq_getElem?_getD];rw [←q1,←q2,List.getElem?_append_left hi,List.getElem?_append_left (by omega)]
 refine Uh hF (lst lr evs) rfl hk ⟨Int.natCast_nonneg _,by show (a:Int)≤_;omega,by show 1+(vnt r).2+(vnt r).1≤_;omega⟩ ⟨k1,j1⟩ ⟨k2,j2⟩ ⟨k3,j3⟩ hKR hK2 (fun x ⟨i,h1,h2,h3⟩=>?_) (fun h' eR' cR' v' hKn hv' nn hNH=>?_)
 ·obtain ⟨⟨g1,g2⟩,g3,g4⟩:=(hv2.1.2 i h2).1
  have hst:dS D i ∈ D.st:=by
   unfold dS;rw [List.getD_eq_getElem?_getD,List.getElem?_eq_getElem h2];exact List.getElem_mem _
  obtain ⟨g5,g6⟩:=hsb2 _ hst;exact ⟨_,_,_,⟨by omega,by omega⟩,⟨by omega,by omega⟩,⟨by omega,by omega⟩,h3.symm⟩
 ·rw [←hE];refine ⟨rfl,fun q=>(by cases q),fun x hx=>?_⟩;cases hx;subst hv';obtain ⟨m1,m2,m3,m4,m5,m6,m7,m8,m9,c1,_,_⟩:=nn;obtain ⟨z1,z2,z3,z4,z5,z6,z7,z8,z9,z10⟩:=hNH;unfold nvN at *;dsimp only at *;refine ⟨M+1+1+1,M+1+1,M,M+1,?_,?_,?_,?_,⟨eR',cR',z9,?_⟩,⟨m1.2.2.2.2.2.2.2.2.2.2,m5.2.2.2.2.2.2,m2.2.2.2.2.2.2.2.2.2,m3.2.2.2.2.2.2.2.2,m4.2.2.2.2.2.2.2⟩,⟨m1.2.2.2.1,m1.1,m1.2.1,m1.2.2.1,Ne.symm m2.2.2.1,Ne.symm m3.2.1,Ne.symm m4.1,m2.1,m2.2.1,m3.1⟩,z10⟩
  ·rw [z1];have e1:(a:Int)+((1+(vnt r).2+(vnt r).1+4:Nat):Int)=((a+len:Nat):Int):=by omega
   have e2:decide (kind=66)=!decide (kind=69):=by
    rcases hk with q | q <;> rw [q] <;> rfl
   rw [e1,e2]
  ·rw [z3,List.map_append]
  ·rw [z4]
   congr 1
   exact yU hpre.1 rfl
  ·rw [z5]
   congr 1
   exact yU hpre.2 hpl.symm
  ·have:(fun x=>KnD d 0 d.st.length x∨KnD D d.st.length D.st.length x)=KnD D 0 D.st.length:=by
    funext x
    refine propext ⟨?_,?_⟩
    ·rintro (⟨i,_,h2,h3⟩ | ⟨i,h1,h2,h3⟩)
     ·exact ⟨i,Nat.zero_le _,by omega,by rw [hkeyI i h2];exact h3⟩
     ·exact ⟨i,Nat.zero_le _,h2,h3⟩
    ·rintro ⟨i,_,h2,h3⟩
     rcases Nat.lt_or_ge i d.st.length with q | q
     ·exact .inl ⟨i,Nat.zero_le _,q,by rw [←hkeyI i q];exact h3⟩
     ·exact .inr ⟨i,q,h2,h3⟩
   rw [←this];exact hKn
theorem dY.or [I:bS] {P:Program} {f:Nat} {R R':(Nat→Hb)→List Hw→((Nat→Hb)→List Hw→Prop)→Prop} (h:dY P f R) (h':dY P f R'):dY P f (fun hp az Post=>R hp az Post∨R' hp az Post) :=
 fun hp az Post hr=>hr.elim (h hp az Post) (h' hp az Post)
def UR (hp:Nat→Hb) (az:List Hw) (Post:(Nat→Hb)→List Hw→Prop):Prop:=Dl (Dl (Dl FH)) hp az Post∨FH hp az Post
theorem VY:dY Try.prog 50 UR:=dY.or OI.nil.nil.nil OI
theorem yP {sh:Bool} {n:Nat} {d:Dep} {l:Ev} {b:List Nat} {e:Nat} {x:NX} (h:pU sh n d l b=(e,some x)):e=0∧(x.en=false→x.c≤16)∧x.len≤b.length∧0 < x.len:=by
 cases b with
 | nil=>unfold pU at h;simp at h
 | cons kind r =>
   unfold pU at h;dsimp only at h;split at h
   ·simp at h
   ·split at h
    ·simp at h
    ·rename_i hq;split at h
     ·simp at h
     ·split at h
      ·simp at h
      ·rename_i y hc;rw [Prod.mk.injEq,Option.some.injEq] at h;obtain ⟨h1,rfl⟩:=h;refine ⟨h1.symm,?_⟩;simp only [not_or,Nat.not_lt] at hq;rw [BL] at hc;split at hc
       ·cases hc
       ·rw [Option.map_eq_some_iff] at hc;obtain ⟨⟨evs,s'⟩,hX,rfl⟩:=hc;refine ⟨fun q=>?_,hq.2.2,Nat.succ_pos _⟩;dsimp only at q ⊢;have hk:¬ kind=69:=of_decide_eq_false q;unfold wF at hX;rw [if_neg hk] at hX;split at hX
        ·cases hX
        ·split at hX
         ·cases hX
         ·rename_i evs2 s2 hp;unfold oV at hp;split at hp
          ·cases hp
          ·rename_i hg;omega
def RdC (h:Nat→Hb) (bs:List Nat) (f:Fl) (a:Nat):Prop:=∃ ce cs cp tl,h 1=.cells (.d (.im (byR bs)) :: .d (dI (a:Int)) :: ce :: cs :: cp :: tl)∧(Hc.pa h ce=some (.im (f.es.map Ev.row))∧Hc.pa h cs=some (.im (f.d.st.map aQ))∧Hc.pa h cp=some (.im (f.d.pr.map fun x=>[dI x])))∧(ce.cl.hc=some ce∧cs.cl.hc=some cs∧cp.cl.hc=some cp)∧tl.length=12
def VI (bs:List Nat):List Hc:=.d (.im (byR bs)) :: .d (dI 8) :: lI :: lI :: lI :: .h (.m 0) :: (ev0.row.map .d ++ [.d (.sc (.bool false)),.d (.sc (.bool false))])
def RdU (H:Nat→Hb) (bs:List Nat) (f:Fl) (a:Nat):Prop :=
 (∃ N ye ys yp sh,BI H N 1 0 ye ys yp bs (a:Int) (lst ev0 f.es) sh f.en f.es f.d∧(f.en=false→(sh=true↔fJ f))) ∨
 (f=fl0∧a=8∧H 1=.cells (VI bs)∧H 0=.map 113 [] 0∧∀ b,2≤b→H b=.no)
theorem BI.c {H:Nat→Hb} {N ye ys yp:Nat} {bs:List Nat} {a:Nat} {lr:Ev} {sh en:Bool} {f:Fl} (h:BI H N 1 0 ye ys yp bs (a:Int) lr sh en f.es f.d):RdC H bs f a :=
 ⟨.h (.v ye),.h (.v ys),.h (.v yp),_,h.h,⟨by simp [Hc.pa,h.e],by simp [Hc.pa,h.s],by simp [Hc.pa,h.p]⟩,⟨rfl,rfl,rfl⟩,rfl⟩
theorem RdU.c {H:Nat→Hb} {bs:List Nat} {f:Fl} {a:Nat} (h:RdU H bs f a):RdC H bs f a:=by
 rcases h with ⟨N,ye,ys,yp,sh,h,_⟩ | ⟨rfl,rfl,h1,h2,h3⟩
 ·exact h.c
 ·exact ⟨lI,lI,lI,_,h1,⟨rfl,rfl,rfl⟩,⟨rfl,rfl,rfl⟩,rfl⟩
theorem RdU.en {H:Nat→Hb} {bs:List Nat} {f:Fl} {a:Nat} (h:RdU H bs f a):∃ (ce cs cp:Hc) (bR:Nat) (l:Ev) (sh:Bool),H 1=.cells (.d (.im (byR bs)) :: .d (dI (a:Int)) :: ce :: cs :: cp :: .h (.m bR) :: (l.row.map .d ++ [.d (.sc (.bool sh)),.d (.sc (.bool f.en))])):=by
 rcases h with ⟨N,ye,ys,yp,sh,h,_⟩ | ⟨rfl,rfl,h1,h2,h3⟩
 ·exact ⟨_,_,_,_,_,_,h.h⟩
 ·exact ⟨_,_,_,_,_,_,h1⟩
theorem JG {f:Fl} {x:NX} (h:x.en=false→x.c≤16):(f.nx x).en=false→((!x.en && decide (x.c < 16))=true↔fJ (f.nx x)):=by
 intro hx;have hx:x.en=false:=hx;have hc:=h hx;unfold Fl.nx fJ;dsimp only;rw [if_neg (by rw [hx];simp),hx,List.getLast?_concat]
 simp only [Bool.not_false,Bool.true_and,decide_eq_true_eq,Option.some.injEq];constructor
 ·intro q;exact ⟨x.c,rfl,by omega⟩
 ·rintro ⟨n,rfl,q⟩;omega
theorem RdU.next {H:Nat→Hb} {bs:List Nat} {f:Fl} {a:Nat} (h:RdU H bs f a) (hen:f.en=false) (hi:FlI f) (ha:a≤bs.length) (hbl:bs.length≤300000) (hby:∀ x ∈ bs,x≤255) (hd:f.d.st.length+(bs.length - a)≤300000) :
 ∃ Post,UR H [.one (hP 1 0)] Post∧∀ h' r,Post h' r→∃ sh:Bool,(sh=true↔fJ f)∧r=[.one (hI ((pU sh f.es.length f.d (lst ev0 f.es) (bs.drop a)).1:Nat))]∧((pU sh f.es.length f.d (lst ev0 f.es) (bs.drop a)).2=none→RdC h' bs f a)∧∀ x,(pU sh f.es.length f.d (lst ev0 f.es) (bs.drop a)).2=some x→RdU h' bs (f.nx x) (a+x.len):=by
 have hpre:Rt bs a (lst ev0 f.es) f.es f.d:=⟨ha,hbl,hby,hi.d,hi.sb,hd,hi.el,hi.g⟩
 have hgo:∀ {H:Nat→Hb} {N ye ys yp sh},BI H N 1 0 ye ys yp bs (a:Int) (lst ev0 f.es) sh f.en f.es f.d→(sh=true↔fJ f)→∀ h' r,zT H 1 0 ye ys yp bs a (lst ev0 f.es) f.es (pU sh f.es.length f.d (lst ev0 f.es) (bs.drop a)) h' r→∃ sh:Bool,(sh=true↔fJ f)∧r=[.one (hI ((pU sh f.es.length f.d (lst ev0 f.es) (bs.drop a)).1:Nat))]∧((pU sh f.es.length f.d (lst ev0 f.es) (bs.drop a)).2=none→RdC h' bs f a)∧∀ x,(pU sh f.es.length f.d (lst ev0 f.es) (bs.drop a)).2=some x→RdU h' bs (f.nx x) (a+x.len):=by
  intro H N ye ys yp sh hR hsh h' r ⟨p1,p2,p3⟩;refine ⟨sh,hsh,p1,fun q=>?_,fun x q=>?_⟩
  ·obtain ⟨q1,q2,q3,q4⟩:=p2 q;exact ⟨.h (.v ye),.h (.v ys),.h (.v yp),_,q1.trans hR.h,⟨by simp [Hc.pa,q2,hR.e],by simp [Hc.pa,q3,hR.s],by simp [Hc.pa,q4,hR.p]⟩,⟨rfl,rfl,rfl⟩,rfl⟩
  ·obtain ⟨N',ye',ys',yp',hR'⟩:=p3 x q;have hx:=yP (sh:=sh) (n:=f.es.length) (d:=f.d) (l:=lst ev0 f.es) (b:=bs.drop a) (e:=_) (x:=x) (Prod.ext rfl q);refine .inl ⟨N',ye',ys',yp',_,?_,JG hx.2.1⟩;rw [←pQ] at hR';exact hR'
 rcases h with ⟨N,ye,ys,yp,sh,hR,hsh⟩ | ⟨rfl,rfl,h1,h2,h3⟩
 ·exact ⟨_,.inr ⟨N,1,0,ye,ys,yp,a,bs,lst ev0 f.es,sh,f.en,f.es,f.d,rfl,hR,hpre,rfl⟩,hgo hR (hsh hen)⟩
 ·have u1:=lT (i:=2) (b:=2) (E:=42) (sz:=9) h1 rfl (h3 2 (by omega)) (by omega);obtain ⟨H1,hH1⟩:∃ H1,up (up H 2 (.vec 42 9 [])) 1 (.cells ((VI bs).set 2 (.h (.v 2))))=H1:=⟨_,rfl⟩
  rw [hH1] at u1;have v1:H1 1=.cells (.d (.im (byR bs)) :: .d (dI 8) :: .h (.v 2) :: lI :: lI :: .h (.m 0) :: (ev0.row.map .d ++ [.d (.sc (.bool false)),.d (.sc (.bool false))])):=by rw [←hH1];exact dX
  have w1:∀ x,x≠2→x≠1→H1 x=H x:=fun x h1 h2=>u1.ho x h2 h1
  have u2:=lT (i:=3) (b:=3) (E:=50) (sz:=2) v1 rfl ((w1 3 (by omega) (by omega)).trans (h3 3 (by omega))) (by omega);obtain ⟨H2,hH2⟩:∃ H2,up (up H1 3 (.vec 50 2 [])) 1 (.cells ((.d (.im (byR bs)) :: .d (dI 8) :: .h (.v 2) :: lI :: lI :: .h (.m 0) :: (ev0.row.map .d ++ [.d (.sc (.bool false)),.d (.sc (.bool false))]):List Hc).set 3 (.h (.v 3))))=H2:=⟨_,rfl⟩
  rw [hH2] at u2;have v2:H2 1=.cells (.d (.im (byR bs)) :: .d (dI 8) :: .h (.v 2) :: .h (.v 3) :: lI :: .h (.m 0) :: (ev0.row.map .d ++ [.d (.sc (.bool false)),.d (.sc (.bool false))])):=by rw [←hH2];exact dX
  have w2:∀ x,x≠3→x≠1→H2 x=H1 x:=fun x h1 h2=>u2.ho x h2 h1
  have u3:=lT (i:=4) (b:=4) (E:=3) (sz:=1) v2 rfl ((w2 4 (by omega) (by omega)).trans ((w1 4 (by omega) (by omega)).trans (h3 4 (by omega)))) (by omega);obtain ⟨H3,hH3⟩:∃ H3,up (up H2 4 (.vec 3 1 [])) 1 (.cells ((.d (.im (byR bs)) :: .d (dI 8) :: .h (.v 2) :: .h (.v 3) :: lI :: .h (.m 0) :: (ev0.row.map .d ++ [.d (.sc (.bool false)),.d (.sc (.bool false))]):List Hc).set 4 (.h (.v 4))))=H3:=⟨_,rfl⟩
  rw [hH3] at u3;have w3:∀ x,x≠4→x≠1→H3 x=H2 x:=fun x h1 h2=>u3.ho x h2 h1
  have v3:H3 1=iQ bs ((8:Nat):Int) 2 3 4 0 (lst ev0 fl0.es) false false:=by rw [←hH3];exact dX
  have hkn0:KnD ⟨[],[]⟩ 0 0=fun _=>False:=by
   funext x
   exact eq_false fun ⟨i,h1,h2,_⟩=>by omega
  have hR:BI H3 5 1 0 2 3 4 bs ((8:Nat):Int) (lst ev0 fl0.es) false fl0.en fl0.es fl0.d:=by
   refine ⟨v3,(w3 2 (by omega) (by omega)).trans ((w2 2 (by omega) (by omega)).trans u1.hb.2),(w3 3 (by omega) (by omega)).trans u2.hb.2,u3.hb.2,⟨[],0,(w3 0 (by omega) (by omega)).trans ((w2 0 (by omega) (by omega)).trans ((w1 0 (by omega) (by omega)).trans h2)),?_⟩,by omega,by omega,fun b hb=>(w3 b (by omega) (by omega)).trans ((w2 b (by omega) (by omega)).trans ((w1 b (by omega) (by omega)).trans (h3 b (by omega))))⟩
   show Kn [] 0 (KnD ⟨[],[]⟩ 0 0)
   rw [hkn0];exact Kn.nil
  have hsh:(false=true↔fJ fl0):=⟨fun q=>(by cases q),fun ⟨n,q,_⟩=>(by cases q)⟩;exact ⟨_,.inl ⟨H1,1,2,2,42,9,u1,H2,1,3,3,50,2,u2,H3,1,4,4,3,1,u3,5,1,0,2,3,4,8,bs,lst ev0 fl0.es,false,fl0.en,fl0.es,fl0.d,rfl,hR,hpre,rfl⟩,hgo hR hsh⟩
theorem Jm {sh:Bool} {n:Nat} {d:Dep} {l:Ev} {b:List Nat} {e:Nat} (h:pU sh n d l b=(e,none)):e≠0:=by
 cases b with
 | nil=>unfold pU at h;simp at h;omega
 | cons kind r =>
   unfold pU at h;dsimp only at h
   repeat' (first | (exfalso;simp at h;done) | (simp at h;omega) | split at h)
def FN (bs:List Nat) (h:Nat→Hb) (r:List Hw):Prop:=(bs.take 8≠bW∧r=[.one (.d (.sc (.pointer none))),.one (hI 8)]) ∨
 ∃ (f:Fl) (a e:Nat),dV bs=((if e=0∧a < bs.length then 8 else e),f,bs.drop a)∧bs.take 8=bW∧a≤bs.length∧r=[.one (hP 1 0),.one (hI (e:Nat))]∧RdC h bs f a∧FlI f
def Gi (hp:Nat→Hb) (az:List Hw) (Post:(Nat→Hb)→List Hw→Prop):Prop:=∃ bs:List Nat,hp=(fun _=>.no)∧az=[.one (.d (.im (byR bs)))]∧(bs.length≤300000∧∀ x ∈ bs,x≤255)∧Post=FN bs
noncomputable def Io:Env:=e1 49 FB (p1 50 UR e0)
theorem A8:aA Try.prog Io:=aA.e1 Uk (aA.p1 VY aA.e0)
theorem QX:dY Try.prog 31 Gi:=by
 refine sqp31 A8 ?_;rintro hp az Post ⟨bs,rfl,rfl,⟨hbl,hby⟩,rfl⟩;obtain ⟨nc,hnc⟩:∃ nc:Nat→Nat,nc=fun x=>if x=0 then 13 else if x=1 then 15 else 1:=⟨_,rfl⟩
 have c0:nc 0=13:=by rw [hnc];rfl
 have c1:nc 1=15:=by rw [hnc];rfl
 refine ⟨by simp,nc,?_⟩;have hhb:∀ x ∈ bW,x≤255:=by decide
 have hpref:FB [cu bs,cu bW] [pB (decide (bs.take 8=bW))]:=⟨bs,bW,rfl,⟨hby,hhb⟩,rfl⟩;unfold pcp31
 with_reducible refine aJ ?_
 simp only [↓evP,evB,stB,reduceCtorEq,Nat.reduceEqDiff,Nat.reduceAdd,Nat.reduceLeDiff,Nat.reduceLT];refine aC [pB (decide (bs.take 8=bW))] (by exact hpref) ?_
 by_cases hpr:bs.take 8=bW
 ·have hd1:decide (bs.take 8=bW)=true:=decide_eq_true hpr
  have hal:8≤bs.length:=by
   have:=congrArg List.length hpr;rw [List.length_take] at this;have h8:bW.length=8:=rfl;omega
  simp only [↓evP,evB,stB,reduceCtorEq,Nat.reduceEqDiff,Nat.reduceLT,hd1];refine Cm 0 (fG (by simp only [stB,c0]) (by repeat' (first | exact aG.init | assumption | exact aO (by assumption) | (refine aG.ap ?_ rfl))) (by simp only [stB,Nat.reduceLT])) Ov ?_;simp only [evB,stB,Nat.reduceEqDiff,Nat.reduceAdd,Nat.reduceLeDiff,Nat.reduceBEq];refine rJ 1 (fG (by simp only [stB,c1]) (by repeat' (first | exact aG.init | assumption | exact aO (by assumption) | (refine aG.ap ?_ rfl))) (by simp only [stB,reduceCtorEq,Nat.reduceLT,c0])) (by simp only [stB,Nat.reduceEqDiff];rfl) (by simp only [stB];rfl) ?_
  simp only [↓evP,evB,stB,Nat.reduceEqDiff];obtain ⟨R0,hR0⟩:∃ R0,dV bs=R0:=⟨_,rfl⟩
  have hR1:jo (bs.length+1) (bs.drop 8) fl0=R0:=by
   rw [←hR0];unfold dV;rw [if_neg (fun q=>q hpr)]
  refine dG msp31_0 osp31_0 (fun m st=>∃ (f:Fl) (a:Nat),RdU st.hb bs f a∧FlI f∧a≤bs.length∧f.d.st.length+(bs.length - a)≤300000∧bs.length - a < m∧jo m (bs.drop a) f=R0) (bs.length+1) (by repeat' (first | exact aG.init | assumption | exact aO (by assumption) | (refine aG.ap ?_ rfl))) ?_ ?_
  ·refine ⟨fl0,8,.inr ⟨rfl,rfl,?_,?_,fun b hb=>?_⟩,fl0_i,hal,by show 0+(bs.length - 8)≤_;omega,by omega,hR1⟩
   ·simp only [stB,reduceCtorEq,Nat.reduceLT,c0,c1]
    first | done | rfl
   ·simp only [stB,reduceCtorEq,Nat.reduceLT,c0,c1]
   ·have o1:¬ b=0:=by omega
    have o2:¬ b=1:=by omega
    simp only [stB,Nat.reduceLT,c0,c1,o1,o2]
  rintro m j hjn hja ⟨f,a,hU,hi,ha,hdl,hlt,hres⟩;simp only [stB,hjn] at hU;obtain ⟨m,rfl⟩:∃ m',m=m'+1:=⟨m - 1,by omega⟩
  obtain ⟨ce,cs,cp,bR,l,sh0,hcell⟩:=hU.en;simp only [Ev.row,List.map_cons,List.map_nil,List.cons_append,List.nil_append] at hcell
  cases hen:f.en with
  | true =>
    rw [oW hen] at hres;rw [hen] at hcell;simp only [↓evP,evB,stB,reduceCtorEq,Nat.reduceEqDiff,Nat.reduceBEq,hjn,hcell,prp31];refine ⟨j.hb,_,rfl,fun b=>.inl ?_,.inr ⟨f,a,0,?_,hpr,ha,rfl,hU.c,hi⟩⟩
    ·first | rfl | rw [xu (by simp only [stB,reduceIte,reduceCtorEq,Nat.reduceEqDiff,Nat.reduceAdd,Nat.reduceMul,Nat.reduceLeDiff,Nat.reduceLT,Nat.reduceSub,Nat.reduceBEq,hjn])]
    ·rw [hR0,←hres]
     congr 1
     by_cases q:a < bs.length
     ·have hne:¬ bs.drop a=[]:=by
       intro q2;have:=congrArg List.length q2;rw [List.length_drop] at this;have h0:([]:List Nat).length=0:=rfl;omega
      rw [if_neg hne,if_pos (⟨rfl,q⟩:0=0∧a < bs.length)]
     ·rw [if_neg (show ¬ (0=0∧a < bs.length) from fun q2=>q q2.2),if_pos (show bs.drop a=[] from List.drop_of_length_le (by omega))]
  | false =>
    rw [hen] at hcell;obtain ⟨Post,hN,hNP⟩:=hU.next hen hi ha hbl hby hdl;simp only [↓evP,evB,stB,reduceCtorEq,Nat.reduceEqDiff,Nat.reduceBEq,hjn,hcell];refine bL Post (by simp only [stB,hjn];exact hN) ?_
    intro h' r' hP';obtain ⟨sh,hsh,rfl,hnone,hsome⟩:=hNP h' r' hP';have hlaw:=Qx (b:=bs.drop a) hsh hen;obtain ⟨⟨e,o⟩,hE⟩:∃ E,pU sh f.es.length f.d (lst ev0 f.es) (bs.drop a)=E:=⟨_,rfl⟩
    rw [hE] at hnone hsome hlaw ⊢;dsimp only at hnone hsome hlaw ⊢
    cases o with
    | none =>
      have he0:=Jm hE;have hne:(((e:Nat):Int) != 0)=true:=by rw [bne_iff_ne];omega
      have hres2:jo (m+1) (bs.drop a) f=(e,f,bs.drop a):=sV hen (by rw [hlaw]) he0;rw [hres2] at hres;simp only [↓evP,evB,stB,reduceCtorEq,Nat.reduceEqDiff,Nat.reduceBEq,hne,prp31];refine ⟨h',_,rfl,fun b=>.inl ?_,.inr ⟨f,a,e,?_,hpr,ha,rfl,hnone rfl,hi⟩⟩
      ·first | rfl | simp only [stB,reduceIte,reduceCtorEq,Nat.reduceEqDiff,Nat.reduceAdd,Nat.reduceMul,Nat.reduceLeDiff,Nat.reduceLT,Nat.reduceSub,Nat.reduceBEq]
      ·rw [hR0,←hres,if_neg (fun q=>he0 q.1)]
    | some x =>
      obtain ⟨e1,e2,e3,e4⟩:=yP hE;subst e1;have hne:(((0:Nat):Int) != 0)=false:=rfl;have hlen:(bs.drop a).length=bs.length - a:=List.length_drop;have hdd:(bs.drop a).drop x.len=bs.drop (a+x.len):=by rw [List.drop_drop]
      have hlaw:jE (bs.drop a) f=(0,f.nx x,bs.drop (a+x.len)):=by rw [←hdd];exact hlaw
      obtain ⟨i1,i2,i3,i4,i5,i6⟩:=rX hi hlaw;rw [lU hen hlaw] at hres;have hl2:(bs.drop (a+x.len)).length=bs.length - (a+x.len):=List.length_drop;simp only [↓evP,evB,stB,reduceCtorEq,Nat.reduceEqDiff,Nat.reduceBEq,hne]
      refine ⟨_,Nat.lt_succ_self _,(by repeat' (first | assumption | exact aT (by assumption) | (refine aK ?_ rfl rfl) | (refine aF ?_ rfl) | (refine aK ?_ rfl aN) | (refine aF ?_ aN) | (refine cK.in' ?_ (aT (by assumption)) rfl rfl))),f.nx x,a+x.len,?_,i1,by omega,by omega,by omega,hres⟩;simp only [stB];exact hsome x rfl
 ·have hd1:decide (bs.take 8=bW)=false:=decide_eq_false hpr;simp only [↓evP,evB,stB,reduceCtorEq,Nat.reduceEqDiff,Nat.reduceLT,hd1,prp31];exact ⟨_,_,rfl,fun b=>.inl rfl,.inl ⟨hpr,rfl⟩⟩
noncomputable def KZ:Env:=p1 31 Gi e0
theorem vM:aA Try.prog KZ:=aA.p1 QX aA.e0
def OX (hp:Nat→Hb) (az:List Hw) (Post:(Nat→Hb)→List Hw→Prop):Prop:=∃ bs:List Nat,hp=(fun _=>.no)∧az=[.one (.d (.im (byR bs)))]∧(bs.length≤300000∧∀ x ∈ bs,x≤255)∧Post=fun h r=>r.map (Hw.pa h)=(mG (dV bs)).map some
def OY (hp:Nat→Hb) (az:List Hw) (Post:(Nat→Hb)→List Hw→Prop):Prop:=∃ bs:List Nat,hp=(fun _=>.no)∧az=[.one (.d (.im (byR bs)))]∧(bs.length≤300000∧∀ x ∈ bs,x≤255)∧Post=fun h r=>r.map (Hw.pa h)=(wo bs (dV bs)).map some
theorem C8 {bs:List Nat} (h:bs.take 8≠bW):dV bs=(8,fl0,bs):=by unfold dV;rw [if_pos h]
theorem QV:dY Try.prog 18 OX:=by
 refine sqp18 vM ?_;rintro hp az Post ⟨bs,rfl,rfl,⟨hbl,hby⟩,rfl⟩;refine ⟨by simp,fun _=>1,?_⟩;have hbr:=aY bs;unfold pcp18
 with_reducible refine aJ ?_
 simp only [↓evP,evB,stB,reduceCtorEq,Nat.reduceEqDiff];refine bL (FN bs) (by simp only [stB,Nat.reduceLT];exact ⟨bs,rfl,rfl,⟨hbl,hby⟩,rfl⟩) ?_
 rintro h' r' (⟨hpr,rfl⟩ | ⟨f,a,e,hM,hpr,ha,rfl,⟨ce,cs,cp,tl,hc,⟨v1,v2,v3⟩,⟨k1,k2,k3⟩,htl⟩,hi⟩)
 ·have e1:((8:Int) == 0)=false:=rfl;have e2:((8:Int) != 0)=true:=rfl;simp only [↓evP,evB,stB,reduceCtorEq,Nat.reduceEqDiff,Nat.reduceAdd,Nat.reduceLeDiff,Nat.reduceLT,Nat.reduceBEq,e1,e2,prp18];refine ⟨_,_,rfl,fun b=>.inl rfl,?_⟩;rw [C8 hpr];rfl
 ·have herr:∀ (H:Nat→Hb) (E:Nat),E≠0→(dV bs).1=E→[Hw.one (.d (.sc (.slice none 0 0))),Hw.one (hI (E:Nat))].length=2→(([Hw.agg [.d (.sc (.slice none 0 0)),.d (.sc (.slice none 0 0)),.d (.sc (.slice none 0 0))],Hw.one (hI (E:Nat))]:List Hw).map (Hw.pa H))=(mG (dV bs)).map some:=fun H E h0 h1 _=>by
   unfold mG;rw [h1,if_neg h0];rfl
  by_cases he:e=0
  ·have e1:(((e:Nat):Int) == 0)=true:=by rw [he];rfl
   by_cases hlt:(a:Int) < (bs.length:Int)
   ·have e2:((8:Int) != 0)=true:=rfl;rw [if_pos ⟨he,by omega⟩] at hM;simp only [↓evP,evB,stB,reduceCtorEq,Nat.reduceEqDiff,Nat.reduceAdd,Nat.reduceLeDiff,Nat.reduceLT,Nat.reduceBEq,hc,hbr,e1,e2,hlt,prp18];refine ⟨_,_,rfl,fun b=>.inl rfl,herr _ 8 (by decide) (by rw [hM]) rfl⟩
   ·have e2:(((e:Nat):Int) != 0)=false:=by rw [he];rfl
    rw [if_neg (show ¬ (e=0∧a < bs.length) by omega)] at hM;simp only [↓evP,evB,stB,reduceCtorEq,Nat.reduceEqDiff,Nat.reduceAdd,Nat.reduceLeDiff,Nat.reduceLT,Nat.reduceBEq,hc,hbr,e1,e2,hlt,htl,k1,k2,k3,prp18];refine ⟨_,_,rfl,fun b=>.inl rfl,?_⟩;rw [hM];unfold mG;dsimp only;rw [if_pos he];simp only [List.map_cons,List.map_nil,Hw.pa,aD,v1,v2,v3,Option.map_some,eH,dA]
    first | done | rfl
  ·have e1:(((e:Nat):Int) == 0)=false:=by rw [beq_eq_false_iff_ne];omega
   have e2:(((e:Nat):Int) != 0)=true:=by rw [bne_iff_ne];omega
   rw [if_neg (show ¬ (e=0∧a < bs.length) by omega)] at hM;simp only [↓evP,evB,stB,reduceCtorEq,Nat.reduceEqDiff,Nat.reduceAdd,Nat.reduceLeDiff,Nat.reduceLT,Nat.reduceBEq,hc,e1,e2,prp18];refine ⟨_,_,rfl,fun b=>.inl rfl,herr _ e he (by rw [hM]) rfl⟩
theorem QY:dY Try.prog 14 OY:=by
 refine sqp14 vM ?_;rintro hp az Post ⟨bs,rfl,rfl,⟨hbl,hby⟩,rfl⟩;refine ⟨by simp,fun _=>1,?_⟩;have hbr:=aY bs;unfold pcp14
 with_reducible refine aJ ?_
 simp only [↓evP,evB,stB,reduceCtorEq,Nat.reduceEqDiff];refine bL (FN bs) (by simp only [stB,Nat.reduceLT];exact ⟨bs,rfl,rfl,⟨hbl,hby⟩,rfl⟩) ?_
 rintro h' r' (⟨hpr,rfl⟩ | ⟨f,a,e,hM,hpr,ha,rfl,⟨ce,cs,cp,tl,hc,⟨v1,v2,v3⟩,⟨k1,k2,k3⟩,htl⟩,hi⟩)
 ·simp only [↓evP,evB,stB,reduceCtorEq,Nat.reduceEqDiff,Nat.reduceAdd,Nat.reduceLeDiff,Nat.reduceLT,Nat.reduceBEq,prp14];refine ⟨_,_,rfl,fun b=>.inl rfl,?_⟩;rw [C8 hpr];unfold wo;dsimp only;rw [Nat.sub_self];rfl
 ·simp only [↓evP,evB,stB,reduceCtorEq,Nat.reduceEqDiff,Nat.reduceAdd,Nat.reduceLeDiff,Nat.reduceLT,Nat.reduceBEq,hc,htl];refine ⟨(by unfold Drw;refine Eq.trans (b:=true) ?_ rfl;kernel_rfl),?_⟩
  simp only [stB,Nat.reduceEqDiff,Nat.reduceAdd,Nat.reduceLeDiff,Nat.reduceLT,k1,k2,k3,prp14];refine ⟨_,_,rfl,fun b=>.inl rfl,?_⟩;rw [hM];unfold wo;dsimp only;have hl:bs.length - (bs.drop a).length=a:=by rw [List.length_drop];omega
  rw [hl];simp only [List.map_cons,List.map_nil,Hw.pa,aD,v1,v2,v3,Option.map_some,eH,dA]
  first | done | rfl
def zV (ps rs:List Pa):Prop:=∃ bs:List Nat,ps=[cu bs]∧(bs.length≤300000∧∀ x ∈ bs,x≤255)∧rs=mG (dV bs)
def FJ (ps rs:List Pa):Prop:=∃ bs:List Nat,ps=[cu bs]∧(bs.length≤300000∧∀ x ∈ bs,x≤255)∧rs=wo bs (dV bs)
theorem F6:Spec Try.prog 18 zV:=o7 QV (by
 rintro az rs ⟨bs,rfl,hb,rfl⟩;exact ⟨_,⟨bs,rfl,rfl,hb,rfl⟩,fun hp' rs' h=>h⟩)
theorem OJ:Spec Try.prog 14 FJ:=o7 QY (by
 rintro az rs ⟨bs,rfl,hb,rfl⟩;exact ⟨_,⟨bs,rfl,rfl,hb,rfl⟩,fun hp' rs' h=>h⟩)
def Ry (ps rs:List Pa):Prop:=∃ (es:List Ev) (d:Dep),ps=[eH es d]∧d.iE∧rs=[pB true]
theorem Vf {es:List Ev} {d:Dep} (h:lgB es d=false):es.length≤80∧d.st.length≤60∧d.pr.length≤60:=by
 unfold lgB at h;simp at h;omega
def zU (ps rs:List Pa):Prop:=∃ l:List Nat,ps=[cu l]∧(∀ x ∈ l,x≤255)∧rs=[pB true]
theorem DY {bs:List Nat} (h:bs.length≤2000):∃ (es:List Ev) (d:Dep) (e:Nat),mG (dV bs)=[eH es d,pI (e:Nat)]∧(es.length≤1000000∧d.st.length≤1000000∧d.pr.length≤1000000):=by
 obtain ⟨⟨e,g,r⟩,hE⟩:∃ E,dV bs=E:=⟨_,rfl⟩
 obtain ⟨h1,h2,_⟩:=sW hE;have:=h1.prl;rw [hE];unfold mG;dsimp only;split
 ·exact ⟨g.es,g.d,0,rfl,by omega,by omega,by omega⟩
 ·exact ⟨[],⟨[],[]⟩,e,rfl,by decide,by decide,by decide⟩
noncomputable def PK:Env:=e1 10 Dp (e1 18 zV (e1 19 Oe (e1 16 rW e0)))
theorem Ij:aA Try.prog PK:=aA.e1 J7 (aA.e1 F6 (aA.e1 UE (aA.e1 wC aA.e0)))
theorem Vy:Spec Try.prog 5 zU:=by
 refine sp5 Ij ?_;rintro ps rs ⟨bs,rfl,hby,rfl⟩;refine ⟨by simp,?_⟩;have hbr:=aY bs;unfold pc5
 with_reducible refine aJ ?_
 simp only [↓evP,evB,stB,seval,cu];refine aC [pB true] (by exact ⟨rfl,rfl⟩) ?_
 by_cases hl:(bs.length:Int) > 2000
 ·simp only [↓evP,evB,stB,reduceIte,reduceCtorEq,seval,hbr,hl,decide_true,pr5]
 ·obtain ⟨es,d,e,hf,l1,l2,l3⟩:=DY (bs:=bs) (by omega);simp only [↓evP,evB,stB,reduceIte,reduceCtorEq,seval,hbr,hl,decide_false];refine aC [eH es d,pI (e:Nat)] (by exact ⟨bs,rfl,⟨by omega,hby⟩,hf.symm⟩) ?_;simp only [↓evP,evB,stB,reduceIte,reduceCtorEq,seval,eH,dA];refine aC [eH es d,pI (e:Nat)] (by exact ⟨bs,rfl,⟨by omega,hby⟩,hf.symm⟩) ?_;have he:((e:Int) == (e:Int))=true:=beq_self_eq_true _;simp only [↓evP,evB,stB,reduceIte,reduceCtorEq,seval,eH,dA];refine aC [pB (qD es d es d)] (by exact ⟨es,d,es,d,rfl,⟨l1,l1,l2,l3,l2,l3⟩,rfl⟩) ?_;rw [jw ⟨rfl,rfl,rfl⟩];simp only [↓evP,evB,stB,reduceIte,reduceCtorEq,seval,pr5]
noncomputable def PS:Env:=e1 10 Dp (e1 14 FJ (e1 15 Oh (e1 16 rW (e1 17 FM e0))))
theorem Il:aA Try.prog PS:=aA.e1 J7 (aA.e1 OJ (aA.e1 UK (aA.e1 wC (aA.e1 OL aA.e0))))
theorem VA:Spec Try.prog 4 zU:=by
 refine sp4 Il ?_;rintro ps rs ⟨bs,rfl,hby,rfl⟩;refine ⟨by simp,?_⟩;have hbr:=aY bs;unfold pc4
 with_reducible refine aJ ?_
 simp only [↓evP,evB,stB,seval,cu];refine aC [pB true] (by exact ⟨rfl,rfl⟩) ?_
 by_cases hl:(bs.length:Int) > 2000
 ·simp only [↓evP,evB,stB,reduceIte,reduceCtorEq,seval,hbr,hl,decide_true,pr4]
 ·obtain ⟨⟨e,g,r⟩,hE⟩:∃ E,dV bs=E:=⟨_,rfl⟩
  obtain ⟨h1,h2,_⟩:=sW hE;have h3:=h1.prl;have hf:wo bs (dV bs)=[eH g.es g.d,pI ((bs.length - r.length:Nat):Int)]:=by rw [hE];rfl
  obtain ⟨n,hn⟩:∃ n:Int,((bs.length - r.length:Nat):Int)=n:=⟨_,rfl⟩
  rw [hn] at hf;simp only [↓evP,evB,stB,reduceIte,reduceCtorEq,seval,hbr,hl,decide_false];refine aC [eH g.es g.d,pI n] (by exact ⟨bs,rfl,⟨by omega,hby⟩,hf.symm⟩) ?_;simp only [↓evP,evB,stB,reduceIte,reduceCtorEq,seval,eH,dA];refine aC [eH g.es g.d,pI n] (by exact ⟨bs,rfl,⟨by omega,hby⟩,hf.symm⟩) ?_;have he:(n == n)=true:=beq_self_eq_true _;simp only [↓evP,evB,stB,reduceIte,reduceCtorEq,seval,eH,dA];refine aC [pB (qD g.es g.d g.es g.d)] (by exact ⟨g.es,g.d,g.es,g.d,rfl,⟨by omega,by omega,by omega,by omega,by omega,by omega⟩,rfl⟩) ?_;rw [jw ⟨rfl,rfl,rfl⟩];simp only [↓evP,evB,stB,reduceIte,reduceCtorEq,seval];refine aC [pB (wE g.es g.d)] (by exact ⟨g.es,g.d,rfl,⟨by omega,by omega,by omega⟩,rfl⟩) ?_;rw [lJ h1.VJ];simp only [↓evP,evB,stB,reduceIte,reduceCtorEq,seval,pr4]
end Go.Proofs.Ytkafcpnahpfbfaa
end
section
namespace Go.Proofs.Ytkafcpnahpfbfaa
open Go Go.RowKit Go.WideShapes Go.ChangeShapes Go.Deep
set_option maxRecDepth 100000
set_option maxHeartbeats 4000000
theorem Try.laidOut:laidOutB Try.prog=true:=by kernel_rfl
theorem Try.own:ownKnob Try.prog.godebug=none:=by kernel_rfl
theorem sS {x:Int} (h:(Lit.int .i64 x).wf=true):iE x:=by
 simp [Lit.wf,IntKind.min,IntKind.max,IntKind.signed,IntKind.bits] at h;unfold iE;omega
theorem iF {H:Type} {enc:TypeId×Value→H} {P:Program} (hl:laidOutB P=true) {W W':World} (hb:Below W.heap.size W W') :
 ∀ {ts:List TypeId} {vs:List Value} {ds:List (DataW H)} {ps:List MemPlace},(ts.all fun t=>P.readableRec t && decide (t < P.types.size))=true→DataW.TrodAll enc P W 0 (fun _=>true) true ts vs ds ps→DataW.TrodAll enc P W' 0 (fun b=>decide (b < W.heap.size)) true ts vs ds ps
 | [],vs,ds,ps,_,h=>by obtain ⟨rfl,rfl,rfl⟩:=trodAll_nil h;exact trodAll_mk0
 | t :: ts,vs,ds,ps,ht,h=>by
   obtain ⟨v,vs',d,ds',p,q,rfl,rfl,rfl,h1,h2⟩:=trodAll_cons h;simp only [List.all_cons,Bool.and_eq_true,decide_eq_true_eq] at ht;have lt:∀ x ∈ p,x.block < W.heap.size:=by obtain ⟨m,hm⟩:=h1;exact DataW.trod_lt m _ _ _ hm
   exact trodAll_cons_mk (Below.trod hl ht.1.1 ht.1.2 h1 hb lt) (iF hl hb (by rw [Bool.eq_iff_iff] at *;simpa using ht.2) h2)
theorem Spec.true [I:bS] {P:Program} {f:Nat} {R:List Pa→List Pa→Prop} (hs:Spec P f R) {ps:List Pa} (hR:R ps [pB true]) {S:Nat→Nat} {w:World} {vals:Array Value} (hw:I.p w) (hv:RPs S w ps vals) :
 Calls P f vals w fun e w'=>e=.returned (.bool true)∧Below w.heap.size w w':=by
 refine (hs ps _ hR S w vals hw hv).mono ?_;rintro e w' ⟨v,S',rfl,h1,h2,_⟩;exact ⟨by rw [RP.bool h1],h2⟩
section
variable {H:Type} {enc:TypeId×Value→H} {P:Program} {w:World} {base:Nat} {spare:Nat→Bool} {held:Bool}
theorem CF {t:TypeId} {k:IntKind} (ht:P.underlying t=some (.int k)) (fuel:Nat) (cs:List Value) (x:DataW H×List MemPlace) (h:DataW.trod enc P w base spare held fuel t cs=some x) :
 ∃ l:List Int,l.length=1∧cs=l.map (Value.int k)∧∀ n ∈ l,(Lit.int k n).wf=true:=by
 obtain ⟨n,hn,_,hw⟩:=DataW.trod_int ht h;exact ⟨[n],rfl,hn,fun m hm=>by rw [List.mem_singleton.1 hm];exact hw⟩
theorem ug {t tI:TypeId} {fs:Array Field} (ht:P.underlying t=some (.struct fs)) (hone:oneCellFields P fs=true) (hC:P.cellsOf t=fs.size) (hI:P.underlying tI=some (.int .i64)) (hint0:fs.toList.all (fun f=>f.type == tI)=true) {n:Nat} (hn:fs.size=n)
 (fuel:Nat) (cs:List Value) (x:DataW H×List MemPlace) (h:DataW.trod enc P w base spare held fuel t cs=some x) :
 ∃ l:List Int,l.length=n∧cs=l.map (Value.int .i64)∧∀ n ∈ l,(Lit.int .i64 n).wf=true:=by
 have hint:∀ (i:Nat) (f:Field),fs[i]? = some f→P.underlying f.type=some (.int .i64):=fun i f hf=>by
  have h1:=List.all_eq_true.1 hint0 f (List.mem_of_getElem? (i:=i) (by simpa using hf));rw [beq_iff_eq.1 h1];exact hI
 subst hn;obtain ⟨xs,m,_,_,hl,hlen,hfs⟩:=DataW.trod_struct ht h;rw [hC] at hl
 have key:∀ i,∃ x:Int,i < fs.size→cs[i]? = some (.int .i64 x)∧(Lit.int .i64 x).wf=true:=by
  intro i
  by_cases hi:i < fs.size
  ·have hfi:fs[i]? = some fs[i]:=Array.getElem?_eq_getElem hi;obtain ⟨ho,hk⟩:=hone_of hone i _ hfi;have h1:=hfs i _ hfi;rw [ho,hk] at h1;have hic:i < cs.length:=by omega
   have hone':(cs.drop i).take 1=[cs[i]'hic]:=by
    rw [List.drop_eq_getElem_cons hic];rfl
   rw [hone'] at h1;have hxs:xs[i]? = some (xs[i]'(by omega)):=List.getElem?_eq_getElem _;rw [hxs] at h1;obtain ⟨x,hx,_,hw⟩:=DataW.trod_int (hint i _ hfi) h1;simp at hx;exact ⟨x,fun _=>⟨by rw [List.getElem?_eq_getElem hic,hx],hw⟩⟩
  ·exact ⟨0,fun h=>absurd h hi⟩
 obtain ⟨g,hg⟩:=Classical.skolem.1 key;refine ⟨(List.range fs.size).map g,by simp,?_,fun x hx=>?_⟩
 ·apply List.ext_getElem?
  intro i;simp only [List.getElem?_map]
  rcases Nat.lt_or_ge i fs.size with hi | hi
  ·rw [(hg i hi).1,List.getElem?_range hi];rfl
  ·rw [List.getElem?_eq_none (by omega),List.getElem?_eq_none (by simpa using hi)];rfl
 ·simp only [List.mem_map,List.mem_range] at hx;obtain ⟨i,hi,rfl⟩:=hx;exact (hg i hi).2
theorem oU {t e:TypeId} {k:IntKind} {n:Nat} (ht:P.underlying t=some (.slice e)) (hC:P.cellsOf e=n) (hn:0 < n)
 (hel:∀ (fuel:Nat) (cs:List Value) (x:DataW H×List MemPlace),DataW.trod enc P w base spare held fuel e cs=some x→∃ l:List Int,l.length=n∧cs=l.map (Value.int k)∧∀ n ∈ l,(Lit.int k n).wf=true)
 {fuel:Nat} {cs:List Value} {x:DataW H×List MemPlace} (h:DataW.trod enc P w base spare held fuel t cs=some x) :
 ∃ (v:Value) (rows:List (List Int)),cs=[v]∧(∀ r ∈ rows,r.length=n∧∀ y ∈ r,(Lit.int k y).wf=true)∧∀ S:Nat→Nat,(∀ b i,(w.cell? ⟨b,i,none⟩).isSome=true→i < S b)→RD S w (.im (rows.map fun r=>r.map fun y=>.sc (.int k y))) v:=by
 rcases open_slice ht h with ⟨hcs,_⟩ | ⟨A,len,cap,m,n',D,Pl,hcs,_,hnc,hcm,hm,_,hi⟩
 ·exact ⟨_,[],hcs,fun r hr=>(by cases hr),fun S _=>.emp none 0 (Nat.zero_le _)⟩
 ·have hlm:len≤m:=by rw [hm];split <;> omega
  have key:∀ i,∃ l:List Int,i < len→l.length=n∧(∀ y ∈ l,(Lit.int k y).wf=true)∧∀ j,j < n→w.cell? (A.add (i * n+j))=(l[j]?).map (Value.int k):=by
   intro i
   by_cases hlt:i < len
   ·obtain ⟨cs',hc,ht'⟩:=hi i (by omega);obtain ⟨l,h1,h2,h3⟩:=hel _ _ _ ht';rw [hC] at hc;obtain ⟨_,hcl,hat⟩:=World.cells?_some hc;refine ⟨l,fun _=>⟨h1,h3,fun j hj=>?_⟩⟩;rw [←Go.Deep.add_add,hat j hj,h2,List.getElem?_map]
   ·exact ⟨[],fun h=>absurd h hlt⟩
  obtain ⟨f,hf⟩:=Classical.skolem.1 key;refine ⟨_,(List.range len).map f,hcs,fun r hr=>?_,fun S hS=>?_⟩
  ·obtain ⟨i,hi1,rfl⟩:=List.mem_map.1 hr;have:=hf i (List.mem_range.1 hi1);exact ⟨this.1,this.2.1⟩
  ·rcases Nat.eq_zero_or_pos len with rfl | hpos
   ·exact .emp (some A) cap hcm
   ·have h0:=hf 0 hpos;have hc0:=h0.2.2 0 hn;have hl0:(f 0)[0]? = some ((f 0)[0]'(by omega)):=List.getElem?_eq_getElem _;rw [hl0] at hc0;have hsp:=World.cell?_spot hc0;obtain ⟨b,o,sp⟩:=A;simp [Addr.add] at hsp;subst hsp;have hln:(((List.range len).map f).map fun r=>r.map fun y=>Dt.sc (.int k y)).length=len:=by simp
    have hadd:∀ q,(⟨b,o,none⟩:Addr).add q=⟨b,o+q,none⟩:=fun q=>by
     unfold Addr.add;split
     ·rename_i hq;rw [hq];rfl
     ·rfl
    have hrw:∀ i,i < len→(((List.range len).map f).map fun r=>r.map fun y=>Dt.sc (.int k y))[i]? = some ((f i).map fun y=>Dt.sc (.int k y)):=fun i hi=>by
     rw [List.getElem?_map,List.getElem?_map,List.getElem?_range hi];rfl
    have:=RD.im (S:=S) (w:=w) (((List.range len).map f).map fun r=>r.map fun y=>Dt.sc (.int k y)) n b o cap (fun i j=>.int k ((f i).getD j 0)) (by rw [hln];exact hnc) hcm (fun r hr=>?_) (fun i j hi hj=>?_) (fun i r j y h1 h2=>?_)
    ·rw [hln] at this;exact this
    ·obtain ⟨r',hr',rfl⟩:=List.mem_map.1 hr;obtain ⟨i,hi1,rfl⟩:=List.mem_map.1 hr';rw [List.length_map];exact (hf i (List.mem_range.1 hi1)).1
    ·rw [hln] at hi;have h1:=(hf i hi).2.2 j hj;have hlj:j < (f i).length:=by rw [(hf i hi).1];exact hj
     rw [hadd,List.getElem?_eq_getElem hlj] at h1
     have h2:w.cell? ⟨b,o+(i * n+j),none⟩=some (.int k ((f i).getD j 0)):=by
      rw [h1,List.getD_eq_getElem?_getD,List.getElem?_eq_getElem hlj];rfl
     exact ⟨h2,hS _ _ (by rw [h2];rfl)⟩
    ·have hlt:=(List.getElem?_eq_some_iff.1 h1).1;rw [hln] at hlt;rw [hrw i hlt] at h1;cases h1;rw [List.getElem?_map] at h2
     cases hj:(f i)[j]? with
     | none=>rw [hj] at h2;cases h2
     | some z =>
       rw [hj] at h2;cases h2;rw [List.getD_eq_getElem?_getD,hj];exact .sc _ rfl
end
theorem Tj {rows:List (List Int)} (h:∀ r ∈ rows,r.length=9):∃ es:List Ev,(rows.map fun r=>r.map fun y=>Dt.sc (.int .i64 y))=es.map Ev.row:=by
 induction rows with
 | nil=>exact ⟨[],rfl⟩
 | cons r rows ih =>
   obtain ⟨es,he⟩:=ih fun x hx=>h x (List.mem_cons_of_mem _ hx)
   have h1:=h r (List.mem_cons_self ..)
   match r,h1 with
   | [a,b,c,d,e,f,g,i,j],_=>exact ⟨⟨a,b,c,d,e,f,g,i,j⟩ :: es,by rw [List.map_cons,he];rfl⟩
theorem Ny {rows:List (List Int)} (h:∀ r ∈ rows,r.length=2∧∀ y ∈ r,(Lit.int .i64 y).wf=true):∃ st:List (Int×Int),(rows.map fun r=>r.map fun y=>Dt.sc (.int .i64 y))=st.map aQ∧∀ p ∈ st,iE p.1∧iE p.2:=by
 induction rows with
 | nil=>exact ⟨[],rfl,fun p hp=>(by cases hp)⟩
 | cons r rows ih =>
   obtain ⟨es,he,hb⟩:=ih fun x hx=>h x (List.mem_cons_of_mem _ hx)
   obtain ⟨h1,h2⟩:=h r (List.mem_cons_self ..)
   match r,h1,h2 with
   | [a,b],_,h2 =>
     refine ⟨(a,b) :: es,by rw [List.map_cons,he];rfl,fun p hp=>?_⟩
     rcases List.mem_cons.1 hp with rfl | hp
     ·exact ⟨sS (h2 _ (by simp)),sS (h2 _ (by simp))⟩
     ·exact hb p hp
theorem Qj {rows:List (List Int)} (h:∀ r ∈ rows,r.length=1∧∀ y ∈ r,(Lit.int .i64 y).wf=true):∃ l:List Int,(rows.map fun r=>r.map fun y=>Dt.sc (.int .i64 y))=(l.map fun x=>[dI x])∧∀ p ∈ l,iE p:=by
 induction rows with
 | nil=>exact ⟨[],rfl,fun p hp=>(by cases hp)⟩
 | cons r rows ih =>
   obtain ⟨es,he,hb⟩:=ih fun x hx=>h x (List.mem_cons_of_mem _ hx)
   obtain ⟨h1,h2⟩:=h r (List.mem_cons_self ..)
   match r,h1,h2 with
   | [a],_,h2 =>
     refine ⟨a :: es,by rw [List.map_cons,he];rfl,fun p hp=>?_⟩
     rcases List.mem_cons.1 hp with rfl | hp
     ·exact sS (h2 _ (by simp))
     ·exact hb p hp
theorem Fg {H:Type} {enc:TypeId×Value→H} {w:World} {r:Reach} {b0:Nat} {v:Value} {d:DataW H} {ps:List MemPlace}
 (hv:Value.okWide Try.prog w r b0 28 v) (h:DataW.Trod enc Try.prog w 0 (fun _=>true) true 28 v d ps):∃ (es:List Ev) (dp:Dep),dp.iE∧∀ S:Nat→Nat,(∀ b i,(w.cell? ⟨b,i,none⟩).isSome=true→i < S b)→RP S w (eH es dp) v:=by
 obtain ⟨cs,rfl,hcs⟩:=okWide_struct Try.underlying28 hv;have hc3:cs.size=3:=by rw [hcs];kernel_rfl
 obtain ⟨a,b,c,rfl⟩:∃ a b c,cs=#[a,b,c]:=by
  refine ⟨cs[0]'(by omega),cs[1]'(by omega),cs[2]'(by omega),?_⟩
  apply Array.ext
  ·exact hc3
  ·intro i g1 g2;have:i < 3:=by simpa using g2
   match i,this with
   | 0,_=>rfl
   | 1,_=>rfl
   | 2,_=>rfl
 obtain ⟨fuel,hf⟩:=h;obtain ⟨y0,y1,n,_,_,g0,g1⟩:=trod_struct2 Try.underlying28 hf;have g0':DataW.trod enc Try.prog w 0 (fun _=>true) true n 22 [a]=some y0:=g0;have g1':DataW.trod enc Try.prog w 0 (fun _=>true) true n 26 [b,c]=some y1:=g1;obtain ⟨z0,z1,n',_,_,k0,k1⟩:=trod_struct2 Try.underlying26 g1';have k0':DataW.trod enc Try.prog w 0 (fun _=>true) true n' 23 [b]=some z0:=k0;have k1':DataW.trod enc Try.prog w 0 (fun _=>true) true n' 24 [c]=some z1:=k1;obtain ⟨va,ra,ea,ha,qa⟩:=oU Try.underlying22 (n:=9) (by kernel_rfl) (by decide) (ug Try.underlying42 (by kernel_rfl) (by kernel_rfl) Try.underlying3 (by kernel_rfl) rfl) g0';obtain ⟨vb,rb,eb,hb,qb⟩:=oU Try.underlying23 (n:=2) (by kernel_rfl) (by decide) (ug Try.underlying50 (by kernel_rfl) (by kernel_rfl) Try.underlying3 (by kernel_rfl) rfl) k0'
 obtain ⟨vc,rc,ec,hc,qc⟩:=oU Try.underlying24 (n:=1) (by kernel_rfl) (by decide) (CF Try.underlying3) k1';cases ea;cases eb;cases ec;obtain ⟨es,he⟩:=Tj fun r hr=>(ha r hr).1
 obtain ⟨st,hs,hs2⟩:=Ny hb;obtain ⟨pr,hp,hp2⟩:=Qj hc;refine ⟨es,⟨st,pr⟩,⟨hs2,hp2⟩,fun S hS=>⟨_,rfl,rfl,fun i x u h1 h2=>?_⟩⟩
 match i with
 | 0=>cases h1;cases h2;rw [←he];exact qa S hS
 | 1=>cases h1;cases h2;rw [←hs];exact qb S hS
 | 2=>cases h1;cases h2;rw [←hp];exact qc S hS
 | i+3=>simp [dA] at h1
theorem NI {x:Int} (h:(Lit.int .u8 x).wf=true):0≤x∧x≤255:=by
 simp [Lit.wf,IntKind.min,IntKind.max,IntKind.signed,IntKind.bits] at h;omega
theorem SX {rows:List (List Int)} (h:∀ r ∈ rows,r.length=1∧∀ y ∈ r,(Lit.int .u8 y).wf=true):∃ l:List Nat,(rows.map fun r=>r.map fun y=>Dt.sc (.int .u8 y))=byR l∧∀ x ∈ l,x≤255:=by
 induction rows with
 | nil=>exact ⟨[],rfl,fun p hp=>absurd hp List.not_mem_nil⟩
 | cons r rows ih =>
   obtain ⟨es,he,hb⟩:=ih fun x hx=>h x (List.mem_cons_of_mem _ hx)
   obtain ⟨h1,h2⟩:=h r (List.mem_cons_self ..)
   match r,h1,h2 with
   | [a],_,h2 =>
     have ha:=NI (h2 a (by simp));refine ⟨a.toNat :: es,?_,fun p hp=>?_⟩
     ·rw [List.map_cons,he]
      show [Dt.sc (.int .u8 a)] :: byR es=[Dt.sc (.int .u8 (a.toNat:Int))] :: byR es
      rw [show (a.toNat:Int)=a by omega]
     ·rcases List.mem_cons.1 hp with rfl | hp
      ·omega
      ·exact hb p hp
theorem qB {H:Type} {enc:TypeId×Value→H} {w:World} {r:Reach} {b0:Nat} {v:Value} {d:DataW H} {ps:List MemPlace}
 (hval:Value.okWide Try.prog w r b0 31 v) (h:DataW.Trod enc Try.prog w 0 (fun _=>true) true 31 v d ps):∃ l:List Nat,(∀ x ∈ l,x≤255)∧∀ S:Nat→Nat,(∀ b i,(w.cell? ⟨b,i,none⟩).isSome=true→i < S b)→RP S w (cu l) v:=by
 obtain ⟨a,len,cap,rfl⟩:=okWide_slice Try.underlying31 hval;obtain ⟨fuel,hf⟩:=h;obtain ⟨va,ra,ea,ha,qa⟩:=oU Try.underlying31 (n:=1) (by kernel_rfl) (by decide) (CF Try.underlying5) hf;cases ea;obtain ⟨l,hl,hb⟩:=SX ha;exact ⟨l,hb,fun S hS=>by rw [hl] at qa;exact qa S hS⟩
end Go.Proofs.Ytkafcpnahpfbfaa
end
section
namespace Go.Proofs.Ytkafcpnahpfbfaa
open Go Go.RowKit
set_option maxRecDepth 1000000
set_option maxHeartbeats 4000000
theorem GZ:∀ (f g:Nat) (fst:Bool) (n0 p n:Nat) (t:List Nat),n < 128 ^ (f+1)→f≤g→(fst=false→n≠0)→n0+n * p≤4294967295→rdF (f+1) fst n0 p (kM g n ++ t)=(some (n0+n * p),t)
 | f,g,fst,n0,p,n,t,hn,hg,hf,hb=>by
   by_cases h:128≤n
   ·cases f with
    | zero=>simp at hn;omega
    | succ f =>
      cases g with
      | zero=>omega
      | succ g =>
        have hm:n / 128 < 128 ^ (f+1):=by
         rw [Nat.pow_succ] at hn;omega
        have hdm:n % 128 * p+n / 128 * (p * 128)=n * p:=by
         have h1:n / 128 * (p * 128)=128 * (n / 128) * p:=by
          rw [Nat.mul_comm p 128,←Nat.mul_assoc,Nat.mul_comm (n / 128) 128]
         rw [h1,←Nat.add_mul,Nat.mod_add_div]
        have:=GZ f g false (n0+n % 128 * p) (p * 128) (n / 128) t hm (by omega) (fun _=>by omega) (by omega);unfold kM;rw [if_pos h]
        show (if n % 128+128 < 128 then _ else rdF (f+1) false (n0+(n % 128+128) % 128 * p) (p * 128) (kM g (n / 128) ++ t))=_
        rw [if_neg (by omega),show (n % 128+128) % 128=n % 128 by omega,this];rw [Nat.add_assoc,hdm]
   ·have hl:kM g n=[n]:=by cases g <;> simp [kM,h]
    rw [hl]
    show (if n < 128 then _ else _)=_
    have hno:¬ ((n=0∧fst=false)∨4294967295 < n0+n * p):=by
     rintro (⟨q1,q2⟩ | q)
     ·exact hf q2 q1
     ·omega
    rw [if_pos (by omega),if_neg hno];rfl
theorem Nj {n:Nat} (h:n≤4294967295) (t:List Nat):rdF 5 true 0 1 (bq n ++ t)=(some n,t):=by
 have:=GZ 4 8 true 0 1 n t (Nat.lt_of_le_of_lt h (by decide)) (by decide) (fun q=>by cases q) (by omega);rw [Nat.zero_add,Nat.mul_one] at this;exact this
theorem iC {n:Nat} (h:n≤4294967295) (t:List Nat):aP ⟨bq n ++ t,false⟩=(n,⟨t,false⟩):=by
 unfold aP;rw [if_neg (by simp)];dsimp only;rw [Nj h]
theorem Qh {g n:Nat} (h:128≤n):kM (g+1) n=(n % 128+128) :: kM g (n / 128):=by
 show (if 128≤n then _ else _)=_
 rw [if_pos h]
theorem Qi {g n:Nat} (h:n < 128):kM g n=[n]:=by
 cases g with
 | zero=>rfl
 | succ g=>unfold kM;rw [if_neg (by omega)]
theorem CZ:∀ (f g:Nat) (fst:Bool) (n0 p:Nat) (bs t:List Nat) (m:Nat),(∀ x ∈ bs,x≤255)→f≤g+1→rdF f fst n0 p bs=(some m,t)→∃ k,m=n0+k * p∧bs=kM g k ++ t∧(fst=false→k≠0)
 | 0,_,_,_,_,_,_,_,_,_,h=>by cases h
 | _+1,_,_,_,_,[],_,_,_,_,h=>by cases h
 | f+1,g,fst,n0,p,x :: bs,t,m,hb,hg,h=>by
   by_cases hx:x < 128
   ·have h':((if (x=0∧fst=false)∨4294967295 < n0+x * p then none else some (n0+x * p)),bs)=(some m,t):=by
     rw [←h];exact (if_pos hx).symm
    rw [Prod.mk.injEq] at h';obtain ⟨h1,rfl⟩:=h';split at h1
    ·cases h1
    ·rename_i hq;cases h1;refine ⟨x,rfl,by rw [Qi hx];rfl,fun q1 q2=>hq (.inl ⟨q2,q1⟩)⟩
   ·have h':rdF f false (n0+x % 128 * p) (p * 128) bs=(some m,t):=by
     rw [←h];exact (if_neg hx).symm
    cases f with
    | zero=>cases h'
    | succ f =>
      cases g with
      | zero=>omega
      | succ g =>
        obtain ⟨k,h1,h2,h3⟩:=CZ (f+1) g false _ _ bs t m (fun y hy=>hb y (List.mem_cons_of_mem _ hy)) (by omega) h';have hk:=h3 rfl;have hx2:=hb x (List.mem_cons_self ..);refine ⟨x % 128+128 * k,?_,?_,fun _=>by omega⟩
        ·rw [h1,Nat.add_mul,Nat.add_assoc]
         congr 2
         rw [Nat.mul_comm p 128,←Nat.mul_assoc,Nat.mul_comm k 128]
        ·rw [Qh (by omega),h2,show (x % 128+128 * k) % 128+128=x by omega,show (x % 128+128 * k) / 128=k by omega];rfl
theorem Ni {bs t:List Nat} {m:Nat} (hb:∀ x ∈ bs,x≤255) (h:rdF 5 true 0 1 bs=(some m,t)):bs=bq m ++ t:=by
 obtain ⟨k,h1,h2,_⟩:=CZ 5 8 true 0 1 bs t m hb (by decide) h;have:k=m:=by omega
 subst this;exact h2
theorem jv {s:Rs} (hb:∀ x ∈ s.rest,x≤255) (h:(aP s).2.bad=false):s.bad=false∧s.rest=bq (aP s).1 ++ (aP s).2.rest:=by
 have h2:=(pR h).2;refine ⟨h2,?_⟩;unfold aP at h ⊢;rw [if_neg (by rw [h2];simp)] at h ⊢
 split at h
 ·rename_i n r hr;exact Ni hb hr
 ·cases h
theorem mI (d:Dep) (a k:Nat):lu d a (k+1)=jg d a ++ lu d (a+1) k:=by
 unfold lu;rw [List.range_succ_eq_map,List.flatMap_cons,List.flatMap_map]
 congr 1
 show _=List.flatMap _ _
 congr 1
 funext i
 rw [show a+Nat.succ i=a+1+i by omega]
def dTk (d:Dep) (a:Nat):Dep:=⟨d.st.take a,d.pr.take a⟩
theorem zF {d:Dep} {a:Nat} (h:a≤d.st.length):(dTk d a).st.length=a:=by
 show (d.st.take a).length=a
 rw [List.length_take];omega
theorem Q7 {d:Dep} {a i:Nat} (h:i < a):dS (dTk d a) i=dS d i:=by
 unfold dS dTk;simp only [List.getD_eq_getElem?_getD];rw [List.getElem?_take_of_lt h]
theorem QE {d:Dep} {a i:Nat} (h:i < a):fH (dTk d a) i=fH d i:=by
 unfold fH dTk;simp only [List.getD_eq_getElem?_getD];rw [List.getElem?_take_of_lt h]
theorem KO {d:Dep} {a:Nat} (h:a < d.st.length) (hl:d.st.length=d.pr.length):bZ (dTk d a) (fH d a) (dS d a)=dTk d (a+1):=by
 unfold bZ dTk dS fH;simp only [List.getD_eq_getElem?_getD];rw [List.take_add_one,List.take_add_one,List.getElem?_eq_getElem h,List.getElem?_eq_getElem (by omega)];rfl
theorem Pn (d:Dep) (hl:d.st.length=d.pr.length):dTk d d.st.length=d:=by
 unfold dTk;rw [List.take_length,hl,List.take_length]
theorem Ui {d:Dep} (hv:d.val) (hs:∀ s ∈ d.st,s.1≤2147483647∧s.2≤2147483647) {a:Nat} (h:a < d.st.length):okE (dTk d a) (fH d a) (dS d a):=by
 obtain ⟨⟨⟨g1,g2⟩,g3,g4⟩,hd⟩:=hv.2 a h
 have hst:dS d a ∈ d.st:=by
  unfold dS;rw [List.getD_eq_getElem?_getD,List.getElem?_eq_getElem h];exact List.getElem_mem _
 have hl:=zF (d:=d) (a:=a) (by omega);refine ⟨⟨by rw [hl];exact g2,nT.2 fun x hx q=>?_⟩,hs _ hst⟩
 rw [hl] at hx;obtain ⟨q1,q2⟩:=q;rw [Q7 hx] at q1;rw [QE hx] at q2;exact hd x hx ⟨q1,q2⟩
theorem ND {d:Dep} (hv:d.val) (hs:∀ s ∈ d.st,s.1≤2147483647∧s.2≤2147483647) {a:Nat} (h:a < d.st.length) (hd:d.st.length≤1000000) (t:List Nat):dJ ⟨jg d a ++ t,false⟩=((fH d a,dS d a),⟨t,false⟩):=by
 obtain ⟨⟨⟨g1,g2⟩,g3,g4⟩,_⟩:=hv.2 a h
 have hst:dS d a ∈ d.st:=by
  unfold dS;rw [List.getD_eq_getElem?_getD,List.getElem?_eq_getElem h];exact List.getElem_mem _
 obtain ⟨b1,b2⟩:=hs _ hst;unfold dJ jg;dsimp only;rw [List.append_assoc,List.append_assoc,iC (by omega)];dsimp only;rw [iC (by omega)];dsimp only;rw [iC (by omega)];have e1:(((fH d a+1).toNat:Nat):Int) - 1=fH d a:=by omega
 have e2:(((dS d a).1.toNat:Nat):Int)=(dS d a).1:=by omega
 have e3:(((dS d a).2.toNat:Nat):Int)=(dS d a).2:=by omega
 dsimp only;rw [e1,e2,e3]
theorem Gu {d:Dep} (hv:d.val) (hs:∀ s ∈ d.st,s.1≤2147483647∧s.2≤2147483647) (hd:d.st.length≤1000000) (t:List Nat):∀ (k a:Nat),a+k≤d.st.length→fK k (dTk d a) ⟨lu d a k ++ t,false⟩=(dTk d (a+k),⟨t,false⟩):=by
 intro k
 induction k with
 | zero=>intro a h;rfl
 | succ k ih =>
   intro a h;have hal:a < d.st.length:=by omega
   unfold fK;rw [mI,List.append_assoc,ND hv hs hal hd];dsimp only;rw [if_neg (by simp),if_neg (by rw [not_or,Classical.not_not];exact ⟨by simp,Ui hv hs hal⟩),KO hal hv.1,ih (a+1) (by omega),show a+1+k=a+(k+1) by omega]
theorem DZ (d:Int):jf (jC d)=d:=by
 unfold jf jC;split <;> split <;> omega
theorem Gy (t:List Nat):∀ (e l:List Int),e.length=l.length→(∀ v ∈ List.zipWith (fun x y=>x - y) e l,jC v≤4294967295)→fM l ⟨(List.zipWith (fun x y=>x - y) e l).flatMap eG ++ t,false⟩=(e,⟨t,false⟩)
 | [],[],_,_=>rfl
 | x :: e,y :: l,h,hb=>by
   have h1:e.length=l.length:=by simpa using h
   rw [List.zipWith_cons_cons] at hb ⊢;have hb0:=hb (x - y) (List.mem_cons_self ..);have hn:aP ⟨eG (x - y) ++ ((List.zipWith (fun x y=>x - y) e l).flatMap eG ++ t),false⟩=(jC (x - y),⟨(List.zipWith (fun x y=>x - y) e l).flatMap eG ++ t,false⟩):=iC hb0 _;unfold fM;rw [List.flatMap_cons,List.append_assoc,hn];dsimp only;rw [Gy t e l h1 (fun v hv=>hb v (List.mem_cons_of_mem _ hv)),DZ]
   show ((y+(x - y)) :: e,_)=_
   rw [show y+(x - y)=x by omega]
theorem PV (e:Ev):uU e.fl=e:=rfl
theorem PZ {l e:Ev} (hl:evG l) (he:evG e) (t:List Nat):fM l.fl ⟨pK l e ++ t,false⟩=(e.fl,⟨t,false⟩):=by
 refine Gy t e.fl l.fl rfl fun v hv=>?_
 obtain ⟨i,hi,rfl⟩:=List.getElem_of_mem hv;rw [List.getElem_zipWith];have h1:=he (e.fl[i]'(by simp at hi;omega)) (List.getElem_mem _)
 have h2:=hl (l.fl[i]'(by simp at hi;omega)) (List.getElem_mem _)
 unfold jC;split <;> omega
theorem Gw (D:Dep) (t:List Nat):∀ (evs:List Ev) (l:Ev),evG l→(∀ e ∈ evs,e.valid=true∧e.stack < (D.st.length:Int))→qI evs.length l D ⟨fC l evs ++ t,false⟩=some (evs,⟨t,false⟩)
 | [],_,_,_=>rfl
 | e :: evs,l,hl,hv=>by
   obtain ⟨h1,h2⟩:=hv e (List.mem_cons_self ..);have he:evG e:=uF h1
   have hb:fC l (e :: evs) ++ t=pK l e ++ (fC e evs ++ t):=by
    show pK l e ++ fC e evs ++ t=_
    rw [List.append_assoc]
   rw [List.length_cons,hb];unfold qI;rw [PZ hl he];dsimp only;rw [PV,if_neg (by rintro (q | q | q);cases q;rw [h1] at q;cases q;exact q h2),Gw D t evs e he fun x hx=>hv x (List.mem_cons_of_mem _ hx)]
   rfl
theorem Gp {kind:Nat} {C t:List Nat} {f:Fl} (hk:kind=66∨kind=69) (hC:C.length≤1048576):jE (bM kind C ++ t) f=(match kL kind C f with
 | none=>(8,f,bM kind C ++ t)
 | some g=>(0,g,t)):=by
 have hb:bM kind C ++ t=kind :: (bq C.length ++ (C ++ (fT (bB kind C) ++ t))):=by
  unfold bM
  show (bB kind C ++ fT (bB kind C)) ++ t=_
  rw [show bB kind C=kind :: (bq C.length ++ C) from rfl];simp only [List.cons_append,List.append_assoc]
 rw [hb];unfold jE;dsimp only;rw [if_neg (by omega),iC (by omega)];dsimp only;have hs4:(fT (bB kind C)).length=4:=rfl
 have h1:¬ (false=true∨1048576 < C.length∨(C ++ (fT (bB kind C) ++ t)).length < C.length+4):=by
  rintro (q | q | q)
  ·cases q
  ·omega
  ·rw [List.length_append,List.length_append,hs4] at q;omega
 rw [if_neg h1]
 have h2:(List.drop C.length (C ++ (fT (bB kind C) ++ t))).take 4=fT (bB kind C):=by
  rw [List.drop_left,←hs4,List.take_left]
 have h3:List.take ((kind :: (bq C.length ++ (C ++ (fT (bB kind C) ++ t)))).length - (C ++ (fT (bB kind C) ++ t)).length+C.length) (kind :: (bq C.length ++ (C ++ (fT (bB kind C) ++ t))))=bB kind C:=by
  have e1:(kind :: (bq C.length ++ (C ++ (fT (bB kind C) ++ t)))).length - (C ++ (fT (bB kind C) ++ t)).length+C.length=(bB kind C).length:=by
   unfold bB;simp only [List.length_cons,List.length_append];omega
  have e2:kind :: (bq C.length ++ (C ++ (fT (bB kind C) ++ t)))=bB kind C ++ (fT (bB kind C) ++ t):=by
   show _=(kind :: (bq C.length ++ C)) ++ _
   simp only [List.cons_append,List.append_assoc]
  rw [e1,e2,List.take_left]
 rw [h2,h3,if_neg (fun q=>q rfl),List.take_left]
 cases kL kind C f with
 | none=>rfl
 | some g =>
   dsimp only
   have e4:List.drop (C.length+4) (C ++ (fT (bB kind C) ++ t))=t:=by
    rw [←List.drop_drop,List.drop_left,←hs4,List.drop_left]
   rw [e4]
def szW (es:List Ev) (j:Nat):List Nat:=(List.range j).map fun i=>(bV es (16 * i) 16).length
def stW (d:Dep) (es:List Ev) (j:Nat):Fl:=⟨es.take (16 * j),dTk d (bA (es.take (16 * j)) 0),szW es j,false⟩
def endW (d:Dep) (es:List Ev):Fl:=⟨es,d,szW es (dL es),true⟩
theorem Dh (es:List Ev) (j:Nat):szW es (j+1)=szW es j ++ [(bV es (16 * j) 16).length]:=by
 unfold szW;rw [List.range_succ,List.map_append];rfl
theorem zL {es:List Ev} {j:Nat}:j < dL es↔16 * j < es.length:=by unfold dL;omega
theorem JH {d:Dep} {es:List Ev} {j:Nat} (h:j < dL es):¬ fJ (stW d es j):=by
 rintro ⟨n,h1,h2⟩;have h3:=zL.1 h
 cases j with
 | zero=>cases h1
 | succ j =>
   have h4:(szW es (j+1)).getLast? = some n:=h1;rw [Dh,List.getLast?_concat,Option.some.injEq,iy] at h4;omega
theorem H9 {es:List Ev} {d:Dep} (hS:eP es d) (hd:d.st.length≤1000) (he:es.length≤1000) {j:Nat} (hj:j < dL es):kL 66 (jZ d es j) (stW d es j)=some (stW d es (j+1)):=by
 have ok:=hS.ok hd he;obtain ⟨hv,hsb,hev⟩:=hS;have h3:=zL.1 hj;have hm2:=ok.need (16 * j+16);have hsp:=gV es (16 * j) 16;have hcl:=iy es (16 * j) 16;obtain ⟨m,hm⟩:∃ m,bA (es.take (16 * j)) 0=m:=⟨_,rfl⟩
 obtain ⟨m',hm'⟩:∃ m',bA (es.take (16 * j+16)) 0=m':=⟨_,rfl⟩
 obtain ⟨c,hc⟩:∃ c,bV es (16 * j) 16=c:=⟨_,rfl⟩
 rw [hc] at hsp hcl;have hnc:bA c m=m':=by rw [←hm,←iA,hsp,hm']
 have hmm:m≤m':=by rw [←hnc];exact nX c m
 rw [hm'] at hm2;have hcv:∀ e ∈ c,e.valid=true:=fun e hx=>(hev e (oO (hc ▸ hx))).1
 have hlaw:=(xq hcv hmm).1 hnc
 have hC:jZ d es j=bq (m' - m) ++ (lu d m (m' - m) ++ (bq c.length ++ (fC (lst ev0 (es.take (16 * j))) c ++ []))):=by
  unfold jZ mH;rw [hm,hm',hc,List.append_nil];simp only [List.append_assoc]
 have hlg:evG (lst ev0 (es.take (16 * j))):=vV Ag fun e hx=>(hev e (lS hx)).1
 have hdl:=zF hm2;have hdl0:=zF (d:=d) (a:=m) (by omega)
 have hH:jd (jZ d es j) (dTk d m)=(dTk d m',(c.length,⟨fC (lst ev0 (es.take (16 * j))) c ++ [],false⟩)):=by
  unfold jd;rw [hC,iC (by omega)];dsimp only;rw [Gu hv hsb (by omega) _ _ _ (by omega),show m+(m' - m)=m' by omega];dsimp only;rw [iC (by omega)]
 have hfd:(stW d es j).d=dTk d m:=by unfold stW;rw [hm]
 have hfe:(stW d es j).es=es.take (16 * j):=rfl;have hfl:(es.take (16 * j)).length=16 * j:=by rw [List.length_take];omega
 unfold kL;rw [if_neg (by decide),hfd,hfe,hH];dsimp only;rw [if_neg (by rintro (q | q | q | q | q);cases q;omega;omega;exact JH hj q;rw [hfl] at q;omega),Gw (dTk d m') [] c _ hlg (fun e hx=>⟨hcv e hx,by rw [hdl];exact hlaw.1 e hx⟩)]
 dsimp only;rw [if_neg (by rintro (q | q);exact q rfl;rw [hdl,hdl0] at q;exact hlaw.2 q)]
 unfold stW;rw [show 16 * (j+1)=16 * j+16 by omega,hm',Dh,hc,hsp]
theorem Ia {es:List Ev} {d:Dep} (hS:eP es d) (hd:d.st.length≤1000) (he:es.length≤1000):kL 69 (jM d es) (stW d es (dL es))=some (endW d es):=by
 have ok:=hS.ok hd he;obtain ⟨hv,hsb,hev⟩:=hS;have htk:es.take (16 * dL es)=es:=List.take_of_length_le (by unfold dL;omega)
 have hm2:=ok.need es.length;rw [List.take_length] at hm2;obtain ⟨m,hm⟩:∃ m,bA es 0=m:=⟨_,rfl⟩
 rw [hm] at hm2
 have hC:jM d es=bq (d.st.length - m) ++ (lu d m (d.st.length - m) ++ (bq es.length ++ [])):=by
  unfold jM mH;rw [hm,List.append_nil];simp only [List.append_assoc]
 have hfd:(stW d es (dL es)).d=dTk d m:=by unfold stW;rw [htk,hm]
 have hfe:(stW d es (dL es)).es=es:=htk
 have hH:jd (jM d es) (dTk d m)=(d,(es.length,⟨[],false⟩)):=by
  unfold jd;rw [hC,iC (by omega)];dsimp only;rw [Gu hv hsb (by omega) _ _ _ (by omega),show m+(d.st.length - m)=d.st.length by omega,Pn d hv.1];dsimp only;rw [iC (by omega)]
 unfold kL;rw [if_pos rfl,hfd,hfe,hH];dsimp only;rw [if_neg (by rintro (q | q | q);cases q;exact q rfl;exact q rfl)]
 rfl
theorem IE {es:List Ev} {d:Dep} (hS:eP es d) (hd:d.st.length≤1000) (he:es.length≤1000) (t:List Nat) (m:Nat):∀ (i j:Nat),j+i≤dL es→jo (m+i) (((List.range' j i).map (fV d es)).flatten ++ t) (stW d es j)=jo m t (stW d es (j+i)):=by
 intro i
 induction i with
 | zero=>intro j h;rfl
 | succ i ih =>
   intro j h;have hj:j < dL es:=by omega
   have hCl:=oK (hS.ok hd he) j;rw [List.range'_succ,List.map_cons,List.flatten_cons,List.append_assoc]
   have hb:jE (fV d es j ++ (((List.range' (j+1) i).map (fV d es)).flatten ++ t)) (stW d es j)=(0,stW d es (j+1),((List.range' (j+1) i).map (fV d es)).flatten ++ t):=by
    unfold fV;rw [Gp (.inl rfl) (by omega),H9 hS hd he hj]
   rw [show m+(i+1)=(m+i)+1 by omega,lU rfl hb,ih (j+1) (by omega),show j+1+i=j+(i+1) by omega]
theorem Nz (d:Dep) (es:List Ev):stW d es 0=fl0:=rfl
theorem Ib (d:Dep) (es:List Ev) (k:Nat):1≤(fV d es k).length:=by
 unfold fV bM bB;rw [List.length_append,List.length_cons];omega
theorem P6 {l:List (List Nat)} (h:∀ b ∈ l,1≤b.length):l.length≤l.flatten.length:=by
 induction l with
 | nil=>exact Nat.le_refl _
 | cons x l ih =>
   rw [List.length_cons,List.flatten_cons,List.length_append];have:=h x (List.mem_cons_self ..);have:=ih fun b hb=>h b (List.mem_cons_of_mem _ hb)
   omega
theorem JC {es:List Ev} {d:Dep} (hS:eP es d) (hd:d.st.length≤1000) (he:es.length≤1000) (t:List Nat) {j:Nat} (hj:j≤dL es):∃ m,dV (bW ++ (((List.range j).map (fV d es)).flatten ++ t))=jo m t (stW d es j)∧t.length < m:=by
 have h8:bW.length=8:=rfl
 have hge:=P6 (l:=(List.range j).map (fV d es)) fun b hb=>by
  obtain ⟨k,_,rfl⟩:=List.mem_map.1 hb;exact Ib d es k
 rw [List.length_map,List.length_range] at hge;have e1:(bW ++ (((List.range j).map (fV d es)).flatten ++ t)).take 8=bW:=by rw [←h8,List.take_left]
 have e2:(bW ++ (((List.range j).map (fV d es)).flatten ++ t)).drop 8=((List.range j).map (fV d es)).flatten ++ t:=by rw [←h8,List.drop_left]
 obtain ⟨L,hL⟩:∃ L,(bW ++ (((List.range j).map (fV d es)).flatten ++ t)).length+1=L:=⟨_,rfl⟩
 have hLl:L=8+((((List.range j).map (fV d es)).flatten).length+t.length)+1:=by rw [←hL,List.length_append,List.length_append,h8]
 refine ⟨L - j,?_,by omega⟩;unfold dV;rw [if_neg (fun q=>q e1),e2,hL,←Nz d es];have:=IE hS hd he t (L - j) j 0 (by omega);rw [show L - j+j=L by omega,Nat.zero_add,←List.range_eq_range'] at this;exact this
theorem LD (es:List Ev) (d:Dep):gK es d=bW ++ (((List.range (dL es)).map (fV d es)).flatten ++ bM 69 (jM d es)):=by
 unfold gK bX;rw [List.flatten_append];simp
theorem JB {es:List Ev} {d:Dep} (hS:eP es d) (hd:d.st.length≤1000) (he:es.length≤1000):dV (gK es d)=(0,endW d es,[]):=by
 obtain ⟨m,h1,h2⟩:=JC hS hd he (bM 69 (jM d es)) (Nat.le_refl (dL es));have hCl:=nM (hS.ok hd he)
 have hb:jE (bM 69 (jM d es)) (stW d es (dL es))=(0,endW d es,[]):=by
  have:=Gp (kind:=69) (C:=jM d es) (t:=[]) (f:=stW d es (dL es)) (.inr rfl) (by omega);rw [Ia hS hd he,List.append_nil] at this;exact this
 have hpos:2≤(bM 69 (jM d es)).length:=by
  unfold bM bB fT;rw [List.length_append,List.length_cons]
  show 2≤_+4
  omega
 obtain ⟨m',rfl⟩:∃ m',m=m'+1+1:=⟨m - 2,by omega⟩
 rw [LD,h1,lU rfl hb,oW rfl,if_pos rfl]
theorem JI (l:List Nat):∀ x ∈ fT l,x≤255:=fun x hx=>by
 unfold fT at hx;simp only [List.mem_cons,List.not_mem_nil,or_false] at hx;omega
theorem tK {k:Nat} {c:List Nat} (hk:k≤255) (hc:∀ x ∈ c,x≤255) (hl:c.length≤1000000):∀ x ∈ bM k c,x≤255:=jQ (nH hk hc hl) (JI _)
theorem Hz {es:List Ev} {d:Dep} (h:tu d es):∀ b ∈ bX d es,∀ x ∈ b,x≤255:=fun b hb=>by
 rcases List.mem_append.1 hb with q | q
 ·obtain ⟨k,_,rfl⟩:=List.mem_map.1 q;have:=oK h k;exact tK (by decide) (vH h k) (by omega)
 ·rw [List.mem_singleton.1 q];have:=nM h;exact tK (by decide) (sG h) (by omega)
theorem EJ {es:List Ev} {d:Dep} (h:tu d es):∀ x ∈ gK es d,x≤255:=by
 refine jQ (by decide) fun x hx=>?_
 obtain ⟨b,hb,hx⟩:=List.mem_flatten.1 hx;exact Hz h b hb x hx
theorem Iy {es:List Ev} {d:Dep} (h:tu d es) (he:es.length≤80):(gK es d).length≤200000:=by
 have h1:=wU (l:=bX d es) (c:=30014) fun b q=>nJ h b q
 have h2:(bX d es).length≤6:=by rw [oG];unfold dL;omega
 have h3:=Nat.mul_le_mul_left 30014 h2;have h4:bW.length=8:=rfl;unfold gK;rw [List.length_append];omega
noncomputable def PG:Env:=e1 10 Dp (e1 11 VG (e1 12 FD (e1 18 zV (e1 14 FJ (e1 16 rW e0)))))
theorem Ii:aA Try.prog PG:=aA.e1 J7 (aA.e1 VX (aA.e1 OG (aA.e1 F6 (aA.e1 OJ (aA.e1 wC aA.e0)))))
theorem Vx:Spec Try.prog 7 Ry:=by
 refine sp7 Ii ?_;rintro ps rs ⟨es,d,rfl,h64,rfl⟩;refine ⟨by simp,?_⟩;unfold pc7
 with_reducible refine aJ ?_
 simp only [↓evP,evB,stB,seval,eH,dA,Pa.bv];refine aC [pB true] (by exact ⟨rfl,rfl⟩) ?_;simp only [↓evP,evB,stB,reduceIte,reduceCtorEq,seval,Pa.bv];refine aC [pB (lgB es d)] (by exact ⟨es,d,rfl,rfl⟩) ?_
 cases hlg:lgB es d with
 | true=>simp only [↓evP,evB,stB,reduceIte,reduceCtorEq,seval,pr7]
 | false =>
   obtain ⟨l1,l2,l3⟩:=Vf hlg
   by_cases hS:eP es d
   ·have ok:=hS.ok (by omega) (by omega);have hfb:=EJ ok;have hfl:=Iy ok l1;have hrd:=JB hS (by omega) (by omega);obtain ⟨F,hF⟩:∃ F,gK es d=F:=⟨_,rfl⟩
    have henc:=jR hS;rw [hF] at hfb hfl hrd henc;have hdec:mG (dV F)=[eH es d,pI (0:Nat)]:=by rw [hrd];rfl
    have hrec:wo F (dV F)=[eH es d,pI (F.length:Nat)]:=by rw [hrd];rfl
    have hFl:=aY F;simp only [↓evP,evB,stB,reduceIte,reduceCtorEq,seval,Pa.bv];refine aC [cu F,pI 0] (by exact ⟨es,d,rfl,⟨l1,⟨by omega,by omega⟩,h64⟩,henc.symm⟩) ?_;simp only [↓evP,evB,stB,reduceIte,reduceCtorEq,seval,Pa.bv,cu];refine aC [eH es d,pI (0:Nat)] (by exact ⟨F,rfl,⟨by omega,hfb⟩,hdec.symm⟩) ?_;simp only [↓evP,evB,stB,reduceIte,seval,eH,dA,Pa.bv];refine aC [eH es d,pI (F.length:Nat)] (by exact ⟨F,rfl,⟨by omega,hfb⟩,hrec.symm⟩) ?_;have e1:(((0:Nat):Int) == 0)=true:=rfl;have e2:((F.length:Int) == (F.length:Int))=true:=beq_self_eq_true _;simp only [↓evP,evB,stB,reduceIte,reduceCtorEq,seval,eH,dA,Pa.bv,hFl];refine aC [pB (qD es d es d)] (by exact ⟨es,d,es,d,rfl,⟨by omega,by omega,by omega,by omega,by omega,by omega⟩,rfl⟩) ?_;rw [jw ⟨rfl,rfl,rfl⟩];simp only [↓evP,evB,stB,reduceIte,reduceCtorEq,seval,Pa.bv]
    refine aC [pB (qD es d es d)] (by exact ⟨es,d,es,d,rfl,⟨by omega,by omega,by omega,by omega,by omega,by omega⟩,rfl⟩) ?_;rw [jw ⟨rfl,rfl,rfl⟩];simp only [↓evP,evB,stB,reduceIte,reduceCtorEq,seval,pr7]
   ·have henc:=wO hS;have h0:=aY [];simp only [↓evP,evB,stB,reduceIte,reduceCtorEq,seval,Pa.bv];refine aC [cu [],pI 1] (by exact ⟨es,d,rfl,⟨l1,⟨by omega,by omega⟩,h64⟩,henc.symm⟩) ?_;have e3:((([]:List Nat).length:Int) == 0)=true:=rfl;simp only [↓evP,evB,stB,reduceIte,reduceCtorEq,seval,Pa.bv,cu,h0,pr7]
    first | done | rfl
theorem jK {a b:List Nat} (h:a <:+ b) (hb:∀ x ∈ b,x≤255):∀ x ∈ a,x≤255:=fun x hx=>hb x (h.subset hx)
theorem NG {s:Rs} (hb:∀ x ∈ s.rest,x≤255) (h:(dJ s).2.bad=false):s.bad=false∧s.rest=bq ((dJ s).1.1+1).toNat ++ (bq (dJ s).1.2.1.toNat ++ (bq (dJ s).1.2.2.toNat ++ (dJ s).2.rest)):=by
 have h3:(aP (aP (aP s).2).2).2.bad=false:=h;have hb1:=jK (dh s) hb;have hb2:=jK (dh (aP s).2) hb1;obtain ⟨b2,e3⟩:=jv hb2 h3;obtain ⟨b1,e2⟩:=jv hb1 b2;obtain ⟨b0,e1⟩:=jv hb b1;refine ⟨b0,?_⟩;unfold dJ;dsimp only;rw [show (((aP s).1:Nat):Int) - 1+1=(((aP s).1:Nat):Int) by omega,Int.toNat_natCast,Int.toNat_natCast,Int.toNat_natCast,←e3,←e2,←e1]
theorem Oo {α:Type} {a b:List α} {i:Nat} {z:α} (h:a <+: b) (hi:i < a.length):b.getD i z=a.getD i z:=by
 obtain ⟨t,rfl⟩:=h;rw [List.getD_eq_getElem?_getD,List.getD_eq_getElem?_getD,List.getElem?_append_left hi]
theorem vJ {d D:Dep} {i:Nat} (h1:d.st <+: D.st) (h2:d.pr <+: D.pr) (hi:i < d.st.length) (hj:i < d.pr.length):jg D i=jg d i:=by
 unfold jg dS fH;rw [Oo h1 hi,Oo h2 hj]
theorem BN {d D:Dep} (h1:d.st <+: D.st) (h2:d.pr <+: D.pr) (hl:d.st.length=d.pr.length):∀ (k a:Nat),a+k≤d.st.length→lu D a k=lu d a k
 | 0,_,_=>rfl
 | k+1,a,h=>by rw [mI,mI,vJ h1 h2 (by omega) (by omega),BN h1 h2 hl k (a+1) (by omega)]
theorem KU (k:Nat):∀ (d:Dep) (s:Rs),(∀ x ∈ s.rest,x≤255)→d.st.length=d.pr.length→(fK k d s).2.bad=false→(fK k d s).1.st.length=d.st.length+k∧(fK k d s).1.pr.length=d.pr.length+k∧s.rest=lu (fK k d s).1 d.st.length k ++ (fK k d s).2.rest:=by
 induction k with
 | zero=>exact fun d s _ _ _=>⟨rfl,rfl,rfl⟩
 | succ k ih =>
   intro d s hb hl h
   by_cases hs:s.bad=true
   ·exfalso
    unfold fK at h;rw [if_pos hs,hs] at h;cases h
   ·by_cases hq:(dJ s).2.bad=true∨¬ okE d (dJ s).1.1 (dJ s).1.2
    ·exfalso
     unfold fK at h;rw [if_neg hs,if_pos hq] at h;cases h
    ·have he:fK (k+1) d s=fK k (bZ d (dJ s).1.1 (dJ s).1.2) (dJ s).2:=by
      show (if s.bad=true then _ else _)=_
      rw [if_neg hs,if_neg hq]
     rw [he] at h ⊢;rw [not_or,Classical.not_not] at hq;have ht:(dJ s).2.bad=false:=by simpa using hq.1
     obtain ⟨_,e1⟩:=NG hb ht;have l1:(bZ d (dJ s).1.1 (dJ s).1.2).st.length=d.st.length+1:=by simp [bZ]
     have l2:(bZ d (dJ s).1.1 (dJ s).1.2).pr.length=d.pr.length+1:=by simp [bZ]
     obtain ⟨i1,i2,i3⟩:=ih (bZ d (dJ s).1.1 (dJ s).1.2) (dJ s).2 (jK (lX s) hb) (by omega) h;obtain ⟨p1,p2⟩:=wR k (bZ d (dJ s).1.1 (dJ s).1.2) (dJ s).2;refine ⟨by omega,by omega,?_⟩
     have e2:jg (fK k (bZ d (dJ s).1.1 (dJ s).1.2) (dJ s).2).1 d.st.length=bq ((dJ s).1.1+1).toNat ++ (bq (dJ s).1.2.1.toNat ++ bq (dJ s).1.2.2.toNat):=by
      rw [vJ p1 p2 (by omega) (by omega)];have a1:dS (bZ d (dJ s).1.1 (dJ s).1.2) d.st.length=(dJ s).1.2:=by unfold dS bZ;simp
      have a2:fH (bZ d (dJ s).1.1 (dJ s).1.2) d.st.length=(dJ s).1.1:=by unfold fH bZ;rw [hl];simp
      unfold jg;rw [a1,a2]
     rw [mI,e2,List.append_assoc,List.append_assoc,List.append_assoc];rw [l1] at i3;rw [←i3];exact e1
theorem D5 (n:Nat):jC (jf n)=n:=by
 unfold jf jC;split <;> split <;> omega
theorem Cb:∀ (xs:List Int) (s:Rs),(∀ x ∈ s.rest,x≤255)→(fM xs s).2.bad=false→s.rest=(List.zipWith (fun x y=>x - y) (fM xs s).1 xs).flatMap eG ++ (fM xs s).2.rest
 | [],_,_,_=>rfl
 | x :: xs,s,hb,h=>by
   have h1:(fM xs (aP s).2).2.bad=false:=h;have h2:=(wW xs _ h1).2;obtain ⟨_,e1⟩:=jv hb h2;have e2:=Cb xs (aP s).2 (jK (dh s) hb) h1
   show s.rest=(List.zipWith (fun x y=>x - y) ((x+jf (aP s).1) :: (fM xs (aP s).2).1) (x :: xs)).flatMap eG ++ (fM xs (aP s).2).2.rest
   rw [List.zipWith_cons_cons,List.flatMap_cons,List.append_assoc,←e2,show x+jf (aP s).1 - x=jf (aP s).1 by omega]
   show s.rest=bq (jC (jf (aP s).1)) ++ _
   rw [D5];exact e1
theorem Lm {X:List Int} (h:X.length=9):(uU X).fl=X:=by
 match X,h with
 | [a,b,c,d,e,f,g,i,j],_=>rfl
theorem Lx (D:Dep) (k:Nat):∀ (l:Ev) (s:Rs) (evs:List Ev) (s':Rs),(∀ x ∈ s.rest,x≤255)→qI k l D s=some (evs,s')→s.rest=fC l evs ++ s'.rest:=by
 induction k with
 | zero =>
   intro l s evs s' hb h;have h:some (([]:List Ev),s)=some (evs,s'):=h;rw [Option.some.injEq,Prod.mk.injEq] at h;obtain ⟨rfl,rfl⟩:=h;rfl
 | succ k ih =>
   intro l s evs s' hb h;unfold qI at h;split at h
   ·cases h
   ·rename_i hq;rw [not_or] at hq;rw [Option.map_eq_some_iff] at h;obtain ⟨⟨e2,s2⟩,h1,h2⟩:=h;rw [Prod.mk.injEq] at h2;obtain ⟨rfl,rfl⟩:=h2;have hbd:(fM l.fl s).2.bad=false:=by simpa using hq.1
    have e1:=Cb l.fl s hb hbd;have e3:=ih _ _ _ _ (jK (rD _ s) hb) h1;have hfl:(uU (fM l.fl s).1).fl=(fM l.fl s).1:=Lm (by rw [nS];rfl)
    show s.rest=(pK l (uU (fM l.fl s).1) ++ fC (uU (fM l.fl s).1) e2) ++ s2.rest
    rw [List.append_assoc,←e3];unfold pK;rw [hfl];exact e1
theorem KM {kind:Nat} {b:List Nat} {f g:Fl} (hk:kind=66∨kind=69) (hb:∀ x ∈ b,x≤255) (hv:f.d.val) (hen:f.en=false) (h:kL kind b f=some g) :
 f.d.st <+: g.d.st∧f.d.pr <+: g.d.pr∧g.d.val∧f.d.st.length≤g.d.st.length ∧
 ((kind=69∧b=mH g.d f.d.st.length g.d.st.length ++ bq f.es.length∧g.es=f.es∧g.ns=f.ns∧g.en=true) ∨
  (kind=66∧¬ fJ f∧∃ evs:List Ev,g.es=f.es ++ evs∧1≤evs.length∧evs.length≤16∧g.ns=f.ns ++ [evs.length]∧g.en=false∧bA evs f.d.st.length=g.d.st.length∧b=mH g.d f.d.st.length g.d.st.length ++ (bq evs.length ++ fC (lst ev0 f.es) evs))):=by
 have hn:=dh ⟨b,false⟩;have hp:=wR (aP ⟨b,false⟩).1 f.d (aP ⟨b,false⟩).2;have hl:=ru (aP ⟨b,false⟩).1 f.d (aP ⟨b,false⟩).2;have hvl:=(nQ (aP ⟨b,false⟩).1 f.d (aP ⟨b,false⟩).2 hv).1;have hsu:=nP (aP ⟨b,false⟩).1 f.d (aP ⟨b,false⟩).2
 -- what holds where the number behind the entries is good
 have key:(jd b f.d).2.2.bad=false→b=mH (jd b f.d).1 f.d.st.length (jd b f.d).1.st.length ++ (bq (jd b f.d).2.1 ++ (jd b f.d).2.2.rest):=by
  intro q;have q1:(aP (fK (aP ⟨b,false⟩).1 f.d (aP ⟨b,false⟩).2).2).2.bad=false:=q;have hb1:=jK hn hb;obtain ⟨q2,e2⟩:=jv (jK hsu hb1) q1;obtain ⟨i1,i2,i3⟩:=KU _ f.d (aP ⟨b,false⟩).2 hb1 hv.1 q2
  have q3:(aP ⟨b,false⟩).2.bad=false:=by
   refine Classical.byContradiction fun q4=>?_
   have q5:(aP ⟨b,false⟩).2.bad=true:=by simpa using q4
   have q6:(aP ⟨b,false⟩).1=0:=by
    have:=q5;unfold aP at this ⊢;rw [if_neg (by simp)] at this ⊢;split at this
    ·cases this
    ·rfl
   rw [q6] at q2;have:(aP ⟨b,false⟩).2.bad=false:=q2;rw [q5] at this;cases this
  obtain ⟨_,e1⟩:=jv (s:=⟨b,false⟩) hb q3;dsimp only at e1
  show b=mH (fK (aP ⟨b,false⟩).1 f.d (aP ⟨b,false⟩).2).1 f.d.st.length (fK (aP ⟨b,false⟩).1 f.d (aP ⟨b,false⟩).2).1.st.length ++ (bq (aP (fK (aP ⟨b,false⟩).1 f.d (aP ⟨b,false⟩).2).2).1 ++ (aP (fK (aP ⟨b,false⟩).1 f.d (aP ⟨b,false⟩).2).2).2.rest)
  rw [←e2];unfold mH;rw [i1,Nat.add_sub_cancel_left,List.append_assoc,←i3];exact e1
 have hsr:=dh (fK (aP ⟨b,false⟩).1 f.d (aP ⟨b,false⟩).2).2;have hH1:(jd b f.d).1=(fK (aP ⟨b,false⟩).1 f.d (aP ⟨b,false⟩).2).1:=rfl;have hH2:(jd b f.d).2.2=(aP (fK (aP ⟨b,false⟩).1 f.d (aP ⟨b,false⟩).2).2).2:=rfl;rw [←hH1] at hp hl hvl;rw [←hH2] at hsr;unfold kL at h;generalize jd b f.d=H at h key hp hl hvl hsr;obtain ⟨D,c,C⟩:=H;dsimp only at h key hp hl hvl hsr;have hCb:∀ x ∈ C.rest,x≤255:=jK (hsr.trans (hsu.trans hn)) hb
 rcases hk with hk | hk
 ·rw [if_neg (by omega)] at h;split at h
  ·cases h
  ·rename_i hq;simp only [not_or,Nat.not_lt] at hq;have hCbad:C.bad=false:=by simpa using hq.1
   split at h
   ·cases h
   ·rename_i evs s he;split at h
    ·cases h
    ·rename_i hq2;rw [not_or] at hq2;rw [Option.some.injEq] at h;subst h;have hre:s.rest=[]:=Classical.not_not.1 hq2.1;obtain ⟨o1,o2,_⟩:=zH _ _ _ _ _ _ he;have e3:=Lx D _ _ _ _ _ hCb he;rw [hre,List.append_nil] at e3;have e4:=key hCbad;rw [e3] at e4;have hlaw:=(xq (fun e hx=>(o1 e hx).1) hl).2 ⟨fun e hx=>(o1 e hx).2,hq2.2⟩;subst o2;exact ⟨hp.1,hp.2,hvl,hl,.inr ⟨hk,hq.2.2.2.1,evs,rfl,hq.2.1,hq.2.2.1,rfl,hen,hlaw,e4⟩⟩
 ·rw [if_pos hk] at h;split at h
  ·cases h
  ·rename_i hq;simp only [not_or,Classical.not_not] at hq;rw [Option.some.injEq] at h;subst h;have hCbad:C.bad=false:=by simpa using hq.1
   have e4:=key hCbad;rw [hq.2.1,hq.2.2,List.append_nil] at e4;exact ⟨hp.1,hp.2,hvl,hl,.inl ⟨hk,e4,rfl,rfl,rfl⟩⟩
theorem Kz {b r:List Nat} {f g:Fl} (hb:∀ x ∈ b,x≤255) (h:jE b f=(0,g,r)):∃ kind C,(kind=66∨kind=69)∧b=bM kind C ++ r∧kL kind C f=some g:=by
 cases b with
 | nil=>unfold jE at h;cases h
 | cons kind t =>
   have hbt:∀ x ∈ t,x≤255:=fun x hx=>hb x (List.mem_cons_of_mem _ hx)
   unfold jE at h;dsimp only at h;split at h
   ·cases h
   ·rename_i hk;split at h
    ·cases h
    ·rename_i hq;simp only [not_or,Nat.not_lt] at hq;obtain ⟨_,e1⟩:=jv (s:=⟨t,false⟩) hbt (by simpa using hq.1);dsimp only at e1;obtain ⟨n,hn⟩:∃ n,(aP ⟨t,false⟩).1=n:=⟨_,rfl⟩
     obtain ⟨R,hR⟩:∃ R,(aP ⟨t,false⟩).2.rest=R:=⟨_,rfl⟩
     rw [hn,hR] at h hq e1;split at h
     ·cases h
     ·rename_i hs;have hs:(R.drop n).take 4=fT ((kind :: t).take ((kind :: t).length - R.length+n)):=Classical.not_not.1 hs;split at h
      ·cases h
      ·rename_i g' hc;cases h;refine ⟨kind,R.take n,by omega,?_,hc⟩;have hlen:(R.take n).length=n:=by rw [List.length_take];omega
       have hH:bB kind (R.take n)=(kind :: t).take ((kind :: t).length - R.length+n):=by
        have e2:kind :: t=(kind :: bq n) ++ R:=by rw [e1];rfl
        have e3:(kind :: t).length - R.length+n=(kind :: bq n).length+n:=by rw [e2,List.length_append,Nat.add_sub_cancel]
        rw [e3,e2,List.take_length_add_append];unfold bB;rw [hlen];rfl
       unfold bM;rw [hH,←hs,←hH];unfold bB;rw [hlen]
       have e5:R=R.take n ++ ((R.drop n).take 4 ++ R.drop (n+4)):=by
        rw [←List.drop_drop,List.take_append_drop,List.take_append_drop]
       rw [e1]
       show kind :: (bq n ++ R)=_
       conv=>lhs;rw [e5]
       simp only [List.cons_append,List.append_assoc]
structure FlJ (f:Fl) (j:Nat):Prop where
 i:FlI f
 n:bA f.es 0=f.d.st.length
 a:¬ fJ f→f.es.length=16 * j
 b:fJ f→∃ j',j=j'+1∧16 * j' < f.es.length∧f.es.length < 16 * j
theorem fl0_j:FlJ fl0 0:=⟨fl0_i,rfl,fun _=>rfl,fun ⟨n,q,_⟩=>(by cases q)⟩
theorem Du {es:List Ev} {d:Dep} {j:Nat} (h:j < dL es):(bX d es).drop j=fV d es j :: (bX d es).drop (j+1):=by
 have h1:(bX d es)[j]? = some (fV d es j):=by
  unfold bX;rw [List.getElem?_append_left (by rw [List.length_map,List.length_range];exact h),List.getElem?_map,List.getElem?_range h]
  rfl
 obtain ⟨hl,he⟩:=List.getElem?_eq_some_iff.1 h1;rw [List.drop_eq_getElem_cons hl,he]
theorem Dv (es:List Ev) (d:Dep):(bX d es).drop (dL es)=[bM 69 (jM d es)]:=by
 unfold bX;have:dL es=((List.range (dL es)).map (fV d es)).length:=by rw [List.length_map,List.length_range]
 conv=>lhs;arg 1;rw [this]
 rw [List.drop_left]
theorem IC (k:Nat):∀ (b:List Nat) (f g:Fl) (r:List Nat) (j:Nat),jo k b f=(0,g,r)→(∀ x ∈ b,x≤255)→f.en=false→FlJ f j→r=[]∧b=((bX g.d g.es).drop j).flatten∧f.es <+: g.es∧f.d.st <+: g.d.st∧f.d.pr <+: g.d.pr∧(fJ f→g.es=f.es):=by
 induction k with
 | zero =>
   intro b f g r j h _ _ _;have h:(8,f,b)=(0,g,r):=h;cases h
 | succ k ih =>
   intro b f g r j h hb hen hJ;obtain ⟨⟨e1,g1,r1⟩,hB⟩:∃ B,jE b f=B:=⟨_,rfl⟩
   by_cases h0:e1=0
   ·subst h0;rw [lU hen hB] at h;obtain ⟨i1,i2,_⟩:=rX hJ.i hB;obtain ⟨kind,C,hk,hbb,hc⟩:=Kz hb hB
    have hCb:∀ x ∈ C,x≤255:=fun x hx=>hb x (by
     rw [hbb];unfold bM bB;simp only [List.mem_append,List.mem_cons];exact .inl (.inl (.inr (.inr hx))))
    obtain ⟨p1,p2,_,p3,hcase⟩:=KM hk hCb hJ.i.d hen hc
    rcases hcase with ⟨hk9,hC,ges,gns,gen⟩ | ⟨hk6,hns,evs,ges,l1,l2,gns,gen,hnd,hC⟩
    ·-- the last block
     cases k with
     | zero=>cases h
     | succ k =>
       rw [oW gen] at h
       have hr:r1=[]:=by
        refine Classical.byContradiction fun q=>?_
        rw [if_neg q] at h;cases h
       rw [if_pos hr] at h;rw [Prod.mk.injEq,Prod.mk.injEq] at h;obtain ⟨_,rfl,rfl⟩:=h
       have hnb:dL g1.es=j:=by
        rw [ges];unfold dL
        by_cases q:fJ f
        ·obtain ⟨j',rfl,q1,q2⟩:=hJ.b q;omega
        ·have:=hJ.a q;omega
       refine ⟨hr,?_,by rw [ges];exact List.prefix_refl _,p1,p2,fun _=>ges⟩
       rw [←hnb,Dv]
       show b=bM 69 (jM g1.d g1.es) ++ []
       rw [hbb,hr,hC,hk9];unfold jM;rw [ges,hJ.n]
    ·-- a data block
     have hel:=hJ.a hns
     have hsh1:fJ g1↔evs.length≠16:=by
      unfold fJ;rw [gns,List.getLast?_concat];exact ⟨fun ⟨n,q1,q2⟩=>by cases q1;exact q2,fun q=>⟨_,rfl,q⟩⟩
     have hJ1:FlJ g1 (j+1):=by
      refine ⟨i1,?_,fun q=>?_,fun q=>⟨j,rfl,?_,?_⟩⟩
      ·rw [ges,iA,hJ.n];exact hnd
      ·have:evs.length=16:=Classical.byContradiction fun q2=>q (hsh1.2 q2)
       rw [ges,List.length_append,hel,this];omega
      ·rw [ges,List.length_append,hel];omega
      ·have:=hsh1.1 q;rw [ges,List.length_append,hel];omega
     obtain ⟨hr,hr1,q1,q2,q3,q4⟩:=ih r1 g1 g r (j+1) h (fun x hx=>hb x (i2.subset hx)) gen hJ1
     have hj:j < dL g.es:=by
      rw [zL];have:=q1.length_le;rw [ges,List.length_append] at this;omega
     refine ⟨hr,?_,?_,p1.trans q2,p2.trans q3,fun q=>absurd q hns⟩
     ·rw [Du hj,List.flatten_cons,←hr1,hbb,hk6]
      congr 1
      unfold fV
      congr 1
      obtain ⟨more,hm⟩:=q1;rw [ges] at hm
      have hmore:evs.length≠16→more=[]:=fun q=>by
       have:=q4 (hsh1.2 q);rw [ges,←hm] at this;exact List.append_right_eq_self.1 this
      have e1:g.es.take (16 * j)=f.es:=by rw [←hm,←hel,List.append_assoc,List.take_left]
      have e2:bV g.es (16 * j) 16=evs:=by
       unfold bV;rw [←hm,←hel,List.append_assoc,List.drop_left]
       by_cases q:evs.length=16
       ·rw [←q,List.take_left]
       ·rw [hmore q,List.append_nil,List.take_of_length_le l2]
      have e3:bA (g.es.take (16 * j+16)) 0=g1.d.st.length:=by
       rw [←gV,iA,e1,e2,hJ.n];exact hnd
      rw [hC];unfold jZ;rw [e1,e2,e3,hJ.n]
      congr 1
      unfold mH
      congr 1
      exact (BN q2 q3 i1.d.1 _ _ (by omega)).symm
     ·rw [ges] at q1;exact (List.prefix_append _ _).trans q1
   ·rw [sV hen (by rw [hB]) h0] at h;exact absurd (congrArg Prod.fst h) h0
theorem JA {bs:List Nat} {g:Fl} {r:List Nat} (hb:∀ x ∈ bs,x≤255) (h:dV bs=(0,g,r)):gK g.es g.d=bs:=by
 unfold dV at h;split at h
 ·cases h
 ·rename_i hq;have hq:bs.take 8=bW:=Classical.not_not.1 hq;obtain ⟨_,h2,_⟩:=IC _ _ _ _ _ 0 h (fun x hx=>hb x (List.mem_of_mem_drop hx)) rfl fl0_j;unfold gK;rw [←hq];rw [List.drop_zero] at h2;rw [←h2,List.take_append_drop]
theorem SV (b:List Nat) (f:Fl):(jE b f).1=0∨(jE b f).1=8∨(jE b f).1=9:=by
 cases b with
 | nil=>exact .inr (.inl rfl)
 | cons kind t =>
   unfold jE;dsimp only;split
   ·exact .inr (.inl rfl)
   ·split
    ·exact .inr (.inl rfl)
    ·split
     ·exact .inr (.inr rfl)
     ·split
      ·exact .inr (.inl rfl)
      ·exact .inl rfl
theorem QJ (k:Nat):∀ (b:List Nat) (f:Fl),(jo k b f).1=0∨(jo k b f).1=8∨(jo k b f).1=9:=by
 induction k with
 | zero=>exact fun b f=>.inr (.inl rfl)
 | succ k ih =>
   intro b f;unfold jo;split
   ·dsimp only;split
    ·exact .inl rfl
    ·exact .inr (.inl rfl)
   ·split
    ·exact ih _ _
    ·exact SV b f
theorem QK (bs:List Nat):(dV bs).1=0∨(dV bs).1=8∨(dV bs).1=9:=by
 unfold dV;split
 ·exact .inr (.inl rfl)
 ·exact QJ _ _ _
noncomputable def PL:Env:=e1 10 Dp (e1 18 zV (e1 16 rW (e1 13 NW e0)))
theorem Ik:aA Try.prog PL:=aA.e1 J7 (aA.e1 F6 (aA.e1 wC (aA.e1 Ut aA.e0)))
theorem Vz:Spec Try.prog 6 zU:=by
 refine sp6 Ik ?_;rintro ps rs ⟨bs,rfl,hby,rfl⟩;refine ⟨by simp,?_⟩;have hbr:=aY bs;unfold pc6
 with_reducible refine aJ ?_
 simp only [↓evP,evB,stB,seval,cu];refine aC [pB true] (by exact ⟨rfl,rfl⟩) ?_
 by_cases hl:(bs.length:Int) > 2000
 ·simp only [↓evP,evB,stB,reduceIte,reduceCtorEq,seval,hbr,hl,decide_true,pr6]
 ·obtain ⟨⟨e,g,r⟩,hE⟩:∃ E,dV bs=E:=⟨_,rfl⟩
  obtain ⟨h1,h2,_⟩:=sW hE;have h3:=h1.prl;have he:=QK bs;rw [hE] at he;dsimp only at he
  by_cases h0:e=0
  ·subst h0;have hfile:=JA hby hE;have hf:mG (dV bs)=[eH g.es g.d,pI (0:Nat)]:=by rw [hE];rfl
   have henc:=jR h1.VJ;rw [hfile] at henc;have e0:(((0:Nat):Int) != 0)=false:=rfl;have e1:(((0:Nat):Int) == 0)=true:=rfl;have hrb:=gY bs;simp only [↓evP,evB,stB,reduceIte,reduceCtorEq,seval,hbr,hl,decide_false];refine aC [eH g.es g.d,pI (0:Nat)] (by exact ⟨bs,rfl,⟨by omega,hby⟩,hf.symm⟩) ?_;simp only [↓evP,evB,stB,reduceIte,reduceCtorEq,seval,eH,dA];refine aC [cu bs,pI 0] (by exact ⟨g.es,g.d,rfl,⟨by omega,by omega,by omega⟩,henc.symm⟩) ?_;simp only [↓evP,evB,stB,reduceIte,reduceCtorEq,seval,cu,hrb,pr6]
  ·have hf:mG (dV bs)=[eH [] ⟨[],[]⟩,pI (e:Nat)]:=by rw [hE];unfold mG;rw [if_neg h0]
   have e0:(((e:Nat):Int) != 0)=true:=by rw [bne_iff_ne];omega
   simp only [↓evP,evB,stB,reduceIte,reduceCtorEq,seval,hbr,hl,decide_false];refine aC [eH [] ⟨[],[]⟩,pI (e:Nat)] (by exact ⟨bs,rfl,⟨by omega,hby⟩,hf.symm⟩) ?_
   rcases he with he | he | he
   ·exact absurd he h0
   ·have e8:(((e:Nat):Int) == 8)=true:=by rw [he];rfl
    simp only [↓evP,evB,stB,reduceIte,reduceCtorEq,seval,eH,dA,e0,e8];refine aC [pB (qD [] ⟨[],[]⟩ [] ⟨[],[]⟩)] (by exact ⟨[],⟨[],[]⟩,[],⟨[],[]⟩,rfl,⟨by decide,by decide,by decide,by decide,by decide,by decide⟩,rfl⟩) ?_;rw [jw ⟨rfl,rfl,rfl⟩];simp only [↓evP,evB,stB,reduceIte,reduceCtorEq,seval,pr6]
   ·have e8:(((e:Nat):Int) == 8)=false:=by rw [he];rfl
    have e9:(((e:Nat):Int) == 9)=true:=by rw [he];rfl
    simp only [↓evP,evB,stB,reduceIte,reduceCtorEq,seval,eH,dA,e0,e8,e9];refine aC [pB (qD [] ⟨[],[]⟩ [] ⟨[],[]⟩)] (by exact ⟨[],⟨[],[]⟩,[],⟨[],[]⟩,rfl,⟨by decide,by decide,by decide,by decide,by decide,by decide⟩,rfl⟩) ?_;rw [jw ⟨rfl,rfl,rfl⟩];simp only [↓evP,evB,stB,reduceIte,reduceCtorEq,seval,pr6]
end Go.Proofs.Ytkafcpnahpfbfaa
end
