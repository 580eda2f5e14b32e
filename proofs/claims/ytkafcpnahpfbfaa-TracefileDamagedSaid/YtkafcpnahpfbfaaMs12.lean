/- The program's reader: a block (next). -/
import Derived.Test.YtkafcpnahpfbfaaMs11
import Derived.ProofKit
import Derived.Deep.Slices
import Derived.Deep.Fields
import Derived.ChangeSame
import Derived.OpenShut
set_option linter.unusedSimpArgs false
set_option linter.unusedVariables false
section
namespace Go.Proofs.Ytkafcpnahpfbfaa
open Go Go.RowKit
set_option maxRecDepth 1000000
set_option maxHeartbeats 4000000
theorem Jp (k:Nat):∀ (d:Dep) (s:Rs),d.st <+: (kQ k d s).1.st∧d.pr <+: (kQ k d s).1.pr:=by
 induction k with
 | zero=>exact fun d s=>⟨List.prefix_refl _,List.prefix_refl _⟩
 | succ k ih =>
   intro d s;unfold kQ;split
   ·exact ⟨List.prefix_refl _,List.prefix_refl _⟩
   ·split
    ·exact ⟨List.prefix_refl _,List.prefix_refl _⟩
    ·obtain ⟨h1,h2⟩:=ih (eB d (jJ s).1.1 (jJ s).1.2) (jJ s).2;exact ⟨(List.prefix_append _ _).trans h1,(List.prefix_append _ _).trans h2⟩
theorem xM {α β:Type} {a b:List α} {n:Nat} {f:α→β} (h:a <+: b) (hn:a.length=n):a.map f ++ (b.drop n).map f=b.map f:=by
 obtain ⟨t,rfl⟩:=h;rw [←hn,List.drop_left,List.map_append]
theorem Ap (sh:Bool) (n:Nat) (d:Dep) (l:Ev) (kind len:Nat) (body:List Nat):wz sh n d l kind len body=(if (iJ ⟨body,false⟩ d).2.bad=true then none else (uQ sh n d.st.length ((iJ ⟨body,false⟩ d).1.st.length - d.st.length) l kind (bU (iJ ⟨body,false⟩ d).2).1 (bU (iJ ⟨body,false⟩ d).2).2).map fun p=>(⟨p.1,(iJ ⟨body,false⟩ d).1,(bU (iJ ⟨body,false⟩ d).2).1,decide (kind=69),len⟩:NX)):=by
 unfold wz uQ;generalize iJ ⟨body,false⟩ d=E;obtain ⟨D,S⟩:=E;dsimp only
 by_cases h1:S.bad=true
 ·rw [if_pos h1,if_pos h1]
 rw [if_neg h1,if_neg h1]
 by_cases h2:(bU S).2.bad=true
 ·rw [if_pos h2,if_pos h2];rfl
 rw [if_neg h2,if_neg h2]
 by_cases h3:kind=69
 ·rw [if_pos h3,if_pos h3]
  by_cases h4:(bU S).1≠n
  ·rw [if_pos h4,if_pos h4];rfl
  rw [if_neg h4,if_neg h4]
  by_cases h5:(bU S).2.rest≠[]
  ·rw [if_pos h5,if_pos h5];rfl
  rw [if_neg h5,if_neg h5]
  show _=some _
  rw [decide_eq_true h3]
 ·rw [if_neg h3,if_neg h3]
  cases nS sh n d.st.length (D.st.length - d.st.length) (bU S).1 l (bU S).2 with
  | none=>rfl
  | some p =>
    obtain ⟨evs,s'⟩:=p;dsimp only
    by_cases h5:s'.rest≠[]
    ·rw [if_pos h5,if_pos h5];rfl
    rw [if_neg h5,if_neg h5]
    show _=some _
    rw [decide_eq_false h3]
def yO (hp:Nat→Hb) (br bR ye ys yp:Nat) (bs:List Nat) (a:Nat) (lr:Ev) (es:List Ev) (E:Nat×Option NX) (h:Nat→Hb) (r:List Hw):Prop :=
 r=[.one (hI (E.1:Nat))]∧(E.2=none→h br=hp br∧h ye=hp ye∧h ys=hp ys∧h yp=hp yp) ∧
 ∀ x,E.2=some x→∃ N' ye' ys' yp',Aj h N' br bR ye' ys' yp' bs ((a+x.len:Nat):Int) (lst lr x.es) (!x.en && decide (x.c < 16)) x.en (es ++ x.es) x.d
structure Pv (bs:List Nat) (a:Nat) (lr:Ev) (es:List Ev) (d:Dep):Prop where
 al:a≤bs.length
 bl:bs.length≤300000
 by_:∀ x ∈ bs,x≤255
 dv:d.val
 sb:∀ s ∈ d.st,s.1≤2147483647∧s.2≤2147483647
 dl:d.st.length+(bs.length - a)≤300000
 el:es.length≤5000
 lg:evG lr
def Ed (hp:Nat→Hb) (az:List Hw) (Post:(Nat→Hb)→List Hw→Prop):Prop:=∃ (N br bR ye ys yp a:Nat) (bs:List Nat) (lr:Ev) (sh en:Bool) (es:List Ev) (d:Dep),
 az=[.one (hP br 0)]∧Aj hp N br bR ye ys yp bs (a:Int) lr sh en es d∧Pv bs a lr es d∧Post=yO hp br bR ye ys yp bs a lr es (oI sh es.length d lr (bs.drop a))
theorem MN:dY Try.prog 50 Ed:=by
 refine sqp50 CX ?_;rintro hp az Post ⟨N,br,bR,ye,ys,yp,a,bs,lr,sh,en,es,d,rfl,hR,⟨hal,hbl,hby,hdv,hsb,hdl,hel,hlg⟩,rfl⟩;refine ⟨by simp,ncN N,?_⟩;obtain ⟨E,hE⟩:∃ E,oI sh es.length d lr (bs.drop a)=E:=⟨_,rfl⟩
 rw [hE];obtain ⟨l1,l2,l3,l4,l5⟩:=hR.lt;have hne:=hR.ne;have hfr:=hR.f
 have hbad:∀ (e:Nat) (h:Nat→Hb),E=(e,none)→(∀ b,b < N→h b=hp b)→yO hp br bR ye ys yp bs a lr es E h [.one (hI (e:Nat))]:=fun e h q hh=>by
  rw [q];exact ⟨rfl,fun _=>⟨hh br l1,hh ye l3,hh ys l4,hh yp l5⟩,fun x q=>by cases q⟩
 with_reducible refine aQ ?_
 show pwp aG pcp50 (exS aG [] (QN (yO hp br bR ye ys yp bs a lr es E))) (St.eG (ncN N) hp [.one (hP br 0)])
 refine Uc hR hal (by omega) hby (fun hc h hh=>hbad 8 h ?_ hh) (fun T kind r hb hk hv hA=>?_)
 ·rw [←hE]
  rcases hc with hc | ⟨kind,r,hc,h2⟩
  ·rw [hc];rfl
  ·rw [hc];unfold oI;dsimp only
   rcases h2 with h2 | h2
   ·rw [if_pos h2]
   ·by_cases h3:kind≠66∧kind≠69
    ·rw [if_pos h3]
    ·rw [if_neg h3,if_pos h2]
 rw [hb] at hE;unfold oI at hE;dsimp only at hE;rw [if_neg (show ¬ (kind≠66∧kind≠69) by omega),if_neg (show ¬ ((vnt r).2=0∨1048576 < (vnt r).1∨(kind :: r).length < 1+(vnt r).2+(vnt r).1+4) by rintro (q | q | q);exact hv.1 q;omega;omega)] at hE
 have hbs:∀ x ∈ kind :: r,x≤255:=fun x hx=>hby x (List.mem_of_mem_drop (hb ▸ hx))
 have hbl2:(kind :: r).length=bs.length - a:=by rw [←hb,List.length_drop]
 refine Tf hA hfr l1 hbs (by omega) hv.2.2 (fun hs h hh=>hbad 9 h ?_ hh) (fun hs T2 hB=>?_)
 ·rw [←hE,if_pos hs]
 rw [if_neg (fun q=>q hs)] at hE
 have hbol:(sG (kind :: r) r).length≤bs.length - a:=by
  unfold sG;rw [List.length_drop,List.length_take];omega
 have hbob:∀ x ∈ sG (kind :: r) r,x≤255:=fun x hx=>hbs x (List.mem_of_mem_take (List.mem_of_mem_drop hx))
 obtain ⟨len,hlen⟩:∃ len,1+(vnt r).2+(vnt r).1+4=len:=⟨_,rfl⟩
 obtain ⟨body,hbody⟩:∃ body,sG (kind :: r) r=body:=⟨_,rfl⟩
 rw [hlen,hbody] at hE;rw [hbody] at hB hbol hbob;rw [Ap] at hE;obtain ⟨ED,hED⟩:∃ ED,iJ ⟨body,false⟩ d=ED:=⟨_,rfl⟩
 have hv2:=vD (bN ⟨body,false⟩).1 d (bN ⟨body,false⟩).2 hdv;have hpre:=Jp (bN ⟨body,false⟩).1 d (bN ⟨body,false⟩).2;have hsb2:=yE (bN ⟨body,false⟩).1 d (bN ⟨body,false⟩).2 hsb;have hlen2:=vw (bN ⟨body,false⟩).1 d (bN ⟨body,false⟩).2;have hsu:=vB (bN ⟨body,false⟩).1 d (bN ⟨body,false⟩).2;have hn1:=jl ⟨body,false⟩;rw [show kQ (bN ⟨body,false⟩).1 d (bN ⟨body,false⟩).2=ED from hED] at hv2 hpre hsb2 hlen2 hsu;have hn1l:=hn1.length_le;dsimp only at hn1l;refine Ti hB hR hdv (by omega) (by omega) hbob (fun hbd h hh=>hbad 8 h ?_ hh) (fun hbd T3 N' xs xp hT=>?_)
 ·rw [←hE,if_pos hbd]
 rw [if_neg (by rw [hbd];simp)] at hE
 rw [hED] at hE hT;obtain ⟨D,S⟩:=ED;dsimp only at hE hT hv2 hpre hsb2 hlen2 hsu;have hps:=qK S;have hSl:=(hps.trans (hsu.trans hn1)).length_le;have hcb:=mD S;obtain ⟨⟨c,S2⟩,hc⟩:∃ p,bU S=p:=⟨_,rfl⟩
 rw [hc] at hT hE hps hSl hcb;dsimp only at hT hE hps hSl hcb;refine Tj hT hR hk ⟨hlen2,by omega⟩ (by omega) (fun x hx=>hbob x ((hps.trans (hsu.trans hn1)).subset hx)) hel hlg hcb (fun hn h hh=>hbad 8 h ?_ hh) (fun evs s' T4 x1 M eR cR e2 c2 hX hKR hK2 hF=>?_)
 ·rw [←hE,hn];rfl
 rw [hX] at hE;dsimp only [Option.map_some] at hE;have hpl:=hdv.1;have hDpl:=hv2.1.1
 have hevl:evs.length≤5000:=by
  unfold uQ at hX;split at hX
  ·cases hX
  ·split at hX
   ·split at hX
    ·cases hX
    ·split at hX
     ·cases hX
     ·cases hX;exact Nat.zero_le _
   ·rename_i _ q2;split at hX
    ·cases hX
    ·rename_i evs2 s2 hq;split at hX
     ·cases hX
     ·cases hX;unfold nS at hq;split at hq
      ·cases hq
      ·rename_i hg;split at hq
       ·cases hq
       ·rename_i e3 s3 he;split at hq
        ·cases hq;have:=(EX _ _ _ _ _ he).2.1;omega
        ·cases hq
 have k1:∀ r ∈ stR D d.st.length,r.length=2:=fun r hr=>by
  unfold stR at hr;obtain ⟨x,_,rfl⟩:=List.mem_map.1 hr;rfl
 have k2:∀ r ∈ prR D d.st.length,r.length=1:=fun r hr=>by
  unfold prR at hr;obtain ⟨x,_,rfl⟩:=List.mem_map.1 hr;rfl
 have k3:∀ r ∈ evs.map Ev.row,r.length=9:=fun r hr=>by obtain ⟨x,_,rfl⟩:=List.mem_map.1 hr;rfl
 have j1:(d.st.map aW).length+(stR D d.st.length).length≤1000000:=by unfold stR;rw [List.length_map,List.length_map,List.length_drop];omega
 have j2:(d.pr.map fun x=>[dI x]).length+(prR D d.st.length).length≤1000000:=by unfold prR;rw [List.length_map,List.length_map,List.length_drop];omega
 have j3:(es.map Ev.row).length+(evs.map Ev.row).length≤1000000:=by rw [List.length_map,List.length_map];omega
 have hkeyI:∀ i,i < d.st.length→r9 D i=r9 d i:=fun i hi=>by
  obtain ⟨⟨t1,q1⟩,⟨t2,q2⟩⟩:=hpre;unfold r9 dX fB;simp only [List.getD_eq_getElem?_getD];rw [←q1,←q2,List.getElem?_append_left hi,List.getElem?_append_left (by omega)]
 refine Rn hF (lst lr evs) rfl hk ⟨Int.natCast_nonneg _,by show (a:Int)≤_;omega,by show 1+(vnt r).2+(vnt r).1≤_;omega⟩ ⟨k1,j1⟩ ⟨k2,j2⟩ ⟨k3,j3⟩ hKR hK2 (fun x ⟨i,h1,h2,h3⟩=>?_) (fun h' eR' cR' v' hKn hv' nn hNH=>?_)
 ·obtain ⟨⟨g1,g2⟩,g3,g4⟩:=(hv2.1.2 i h2).1
  have hst:dX D i ∈ D.st:=by
   unfold dX;rw [List.getD_eq_getElem?_getD,List.getElem?_eq_getElem h2];exact List.getElem_mem _
  obtain ⟨g5,g6⟩:=hsb2 _ hst;exact ⟨_,_,_,⟨by omega,by omega⟩,⟨by omega,by omega⟩,⟨by omega,by omega⟩,h3.symm⟩
 ·rw [←hE];refine ⟨rfl,fun q=>(by cases q),fun x hx=>?_⟩;cases hx;subst hv';obtain ⟨m1,m2,m3,m4,m5,m6,m7,m8,m9,c1,_,_⟩:=nn;obtain ⟨z1,z2,z3,z4,z5,z6,z7,z8,z9,z10⟩:=hNH;unfold nvN at *;dsimp only at *;refine ⟨M+1+1+1,M+1+1,M,M+1,?_,?_,?_,?_,⟨eR',cR',z9,?_⟩,⟨m1.2.2.2.2.2.2.2.2.2.2,m5.2.2.2.2.2.2,m2.2.2.2.2.2.2.2.2.2,m3.2.2.2.2.2.2.2.2,m4.2.2.2.2.2.2.2⟩,⟨m1.2.2.2.1,m1.1,m1.2.1,m1.2.2.1,Ne.symm m2.2.2.1,Ne.symm m3.2.1,Ne.symm m4.1,m2.1,m2.2.1,m3.1⟩,z10⟩
  ·rw [z1];have e1:(a:Int)+((1+(vnt r).2+(vnt r).1+4:Nat):Int)=((a+len:Nat):Int):=by omega
   have e2:decide (kind=66)=!decide (kind=69):=by
    rcases hk with q | q <;> rw [q] <;> rfl
   rw [e1,e2]
  ·rw [z3,List.map_append]
  ·rw [z4]
   congr 1
   exact xM hpre.1 rfl
  ·rw [z5]
   congr 1
   exact xM hpre.2 hpl.symm
  ·have:(fun x=>KnD d 0 d.st.length x∨KnD D d.st.length D.st.length x)=KnD D 0 D.st.length:=by
    funext x
    refine propext ⟨?_,?_⟩
    ·rintro (⟨i,_,h2,h3⟩ | ⟨i,h1,h2,h3⟩)
     ·exact ⟨i,Nat.zero_le _,by omega,by rw [hkeyI i h2];exact h3⟩
     ·exact ⟨i,Nat.zero_le _,h2,h3⟩
    ·rintro ⟨i,_,h2,h3⟩
     rcases Nat.lt_or_ge i d.st.length with q | q
     ·exact .inl ⟨i,Nat.zero_le _,q,by rw [←hkeyI i q];exact h3⟩
     ·exact .inr ⟨i,q,h2,h3⟩
   rw [←this];exact hKn
theorem dY.or [I:bT] {P:Program} {f:Nat} {R R':(Nat→Hb)→List Hw→((Nat→Hb)→List Hw→Prop)→Prop} (h:dY P f R) (h':dY P f R'):dY P f (fun hp az Post=>R hp az Post∨R' hp az Post) :=
 fun hp az Post hr=>hr.elim (h hp az Post) (h' hp az Post)
def Sj (hp:Nat→Hb) (az:List Hw) (Post:(Nat→Hb)→List Hw→Prop):Prop:=BK (BK (BK Ed)) hp az Post∨Ed hp az Post
theorem Ue:dY Try.prog 50 Sj:=dY.or MN.nil.nil.nil MN
theorem xG {sh:Bool} {n:Nat} {d:Dep} {l:Ev} {b:List Nat} {e:Nat} {x:NX} (h:oI sh n d l b=(e,some x)):e=0∧(x.en=false→x.c≤16)∧x.len≤b.length∧0 < x.len:=by
 cases b with
 | nil=>unfold oI at h;simp at h
 | cons kind r =>
   unfold oI at h;dsimp only at h;split at h
   ·simp at h
   ·split at h
    ·simp at h
    ·rename_i hq;split at h
     ·simp at h
     ·split at h
      ·simp at h
      ·rename_i y hc;rw [Prod.mk.injEq,Option.some.injEq] at h;obtain ⟨h1,rfl⟩:=h;refine ⟨h1.symm,?_⟩;simp only [not_or,Nat.not_lt] at hq;rw [Ap] at hc;split at hc
       ·cases hc
       ·rw [Option.map_eq_some_iff] at hc;obtain ⟨⟨evs,s'⟩,hX,rfl⟩:=hc;refine ⟨fun q=>?_,hq.2.2,Nat.succ_pos _⟩;dsimp only at q ⊢;have hk:¬ kind=69:=of_decide_eq_false q;unfold uQ at hX;rw [if_neg hk] at hX;split at hX
        ·cases hX
        ·split at hX
         ·cases hX
         ·rename_i evs2 s2 hp;unfold nS at hp;split at hp
          ·cases hp
          ·rename_i hg;omega
def RdC (h:Nat→Hb) (bs:List Nat) (f:Fl) (a:Nat):Prop:=∃ ce cs cp tl,h 1=.cells (.d (.im (byR bs)) :: .d (dI (a:Int)) :: ce :: cs :: cp :: tl)∧(Hc.pa h ce=some (.im (f.es.map Ev.row))∧Hc.pa h cs=some (.im (f.d.st.map aW))∧Hc.pa h cp=some (.im (f.d.pr.map fun x=>[dI x])))∧(ce.cl.hc=some ce∧cs.cl.hc=some cs∧cp.cl.hc=some cp)∧tl.length=12
def TQ (bs:List Nat):List Hc:=.d (.im (byR bs)) :: .d (dI 8) :: kY :: kY :: kY :: .h (.m 0) :: (ev0.row.map .d ++ [.d (.sc (.bool false)),.d (.sc (.bool false))])
def RdU (H:Nat→Hb) (bs:List Nat) (f:Fl) (a:Nat):Prop :=
 (∃ N ye ys yp sh,Aj H N 1 0 ye ys yp bs (a:Int) (lst ev0 f.es) sh f.en f.es f.d∧(f.en=false→(sh=true↔kJ f))) ∨
 (f=fl0∧a=8∧H 1=.cells (TQ bs)∧H 0=.map 113 [] 0∧∀ b,2≤b→H b=.no)
theorem Aj.c {H:Nat→Hb} {N ye ys yp:Nat} {bs:List Nat} {a:Nat} {lr:Ev} {sh en:Bool} {f:Fl} (h:Aj H N 1 0 ye ys yp bs (a:Int) lr sh en f.es f.d):RdC H bs f a :=
 ⟨.h (.v ye),.h (.v ys),.h (.v yp),_,h.h,⟨by simp [Hc.pa,h.e],by simp [Hc.pa,h.s],by simp [Hc.pa,h.p]⟩,⟨rfl,rfl,rfl⟩,rfl⟩
theorem RdU.c {H:Nat→Hb} {bs:List Nat} {f:Fl} {a:Nat} (h:RdU H bs f a):RdC H bs f a:=by
 rcases h with ⟨N,ye,ys,yp,sh,h,_⟩ | ⟨rfl,rfl,h1,h2,h3⟩
 ·exact h.c
 ·exact ⟨kY,kY,kY,_,h1,⟨rfl,rfl,rfl⟩,⟨rfl,rfl,rfl⟩,rfl⟩
theorem RdU.en {H:Nat→Hb} {bs:List Nat} {f:Fl} {a:Nat} (h:RdU H bs f a):∃ (ce cs cp:Hc) (bR:Nat) (l:Ev) (sh:Bool),H 1=.cells (.d (.im (byR bs)) :: .d (dI (a:Int)) :: ce :: cs :: cp :: .h (.m bR) :: (l.row.map .d ++ [.d (.sc (.bool sh)),.d (.sc (.bool f.en))])):=by
 rcases h with ⟨N,ye,ys,yp,sh,h,_⟩ | ⟨rfl,rfl,h1,h2,h3⟩
 ·exact ⟨_,_,_,_,_,_,h.h⟩
 ·exact ⟨_,_,_,_,_,_,h1⟩
theorem Io {f:Fl} {x:NX} (h:x.en=false→x.c≤16):(f.nx x).en=false→((!x.en && decide (x.c < 16))=true↔kJ (f.nx x)):=by
 intro hx;have hx:x.en=false:=hx;have hc:=h hx;unfold Fl.nx kJ;dsimp only;rw [if_neg (by rw [hx];simp),hx,List.getLast?_concat]
 simp only [Bool.not_false,Bool.true_and,decide_eq_true_eq,Option.some.injEq];constructor
 ·intro q;exact ⟨x.c,rfl,by omega⟩
 ·rintro ⟨n,rfl,q⟩;omega
theorem RdU.next {H:Nat→Hb} {bs:List Nat} {f:Fl} {a:Nat} (h:RdU H bs f a) (hen:f.en=false) (hi:FlI f) (ha:a≤bs.length) (hbl:bs.length≤300000) (hby:∀ x ∈ bs,x≤255) (hd:f.d.st.length+(bs.length - a)≤300000) :
 ∃ Post,Sj H [.one (hP 1 0)] Post∧∀ h' r,Post h' r→∃ sh:Bool,(sh=true↔kJ f)∧r=[.one (hI ((oI sh f.es.length f.d (lst ev0 f.es) (bs.drop a)).1:Nat))]∧((oI sh f.es.length f.d (lst ev0 f.es) (bs.drop a)).2=none→RdC h' bs f a)∧∀ x,(oI sh f.es.length f.d (lst ev0 f.es) (bs.drop a)).2=some x→RdU h' bs (f.nx x) (a+x.len):=by
 have hpre:Pv bs a (lst ev0 f.es) f.es f.d:=⟨ha,hbl,hby,hi.d,hi.sb,hd,hi.el,hi.g⟩
 have hgo:∀ {H:Nat→Hb} {N ye ys yp sh},Aj H N 1 0 ye ys yp bs (a:Int) (lst ev0 f.es) sh f.en f.es f.d→(sh=true↔kJ f)→∀ h' r,yO H 1 0 ye ys yp bs a (lst ev0 f.es) f.es (oI sh f.es.length f.d (lst ev0 f.es) (bs.drop a)) h' r→∃ sh:Bool,(sh=true↔kJ f)∧r=[.one (hI ((oI sh f.es.length f.d (lst ev0 f.es) (bs.drop a)).1:Nat))]∧((oI sh f.es.length f.d (lst ev0 f.es) (bs.drop a)).2=none→RdC h' bs f a)∧∀ x,(oI sh f.es.length f.d (lst ev0 f.es) (bs.drop a)).2=some x→RdU h' bs (f.nx x) (a+x.len):=by
  intro H N ye ys yp sh hR hsh h' r ⟨p1,p2,p3⟩;refine ⟨sh,hsh,p1,fun q=>?_,fun x q=>?_⟩
  ·obtain ⟨q1,q2,q3,q4⟩:=p2 q;exact ⟨.h (.v ye),.h (.v ys),.h (.v yp),_,q1.trans hR.h,⟨by simp [Hc.pa,q2,hR.e],by simp [Hc.pa,q3,hR.s],by simp [Hc.pa,q4,hR.p]⟩,⟨rfl,rfl,rfl⟩,rfl⟩
  ·obtain ⟨N',ye',ys',yp',hR'⟩:=p3 x q;have hx:=xG (sh:=sh) (n:=f.es.length) (d:=f.d) (l:=lst ev0 f.es) (b:=bs.drop a) (e:=_) (x:=x) (Prod.ext rfl q);refine .inl ⟨N',ye',ys',yp',_,?_,Io hx.2.1⟩;rw [←oH] at hR';exact hR'
 rcases h with ⟨N,ye,ys,yp,sh,hR,hsh⟩ | ⟨rfl,rfl,h1,h2,h3⟩
 ·exact ⟨_,.inr ⟨N,1,0,ye,ys,yp,a,bs,lst ev0 f.es,sh,f.en,f.es,f.d,rfl,hR,hpre,rfl⟩,hgo hR (hsh hen)⟩
 ·have u1:=lG (i:=2) (b:=2) (E:=42) (sz:=9) h1 rfl (h3 2 (by omega)) (by omega);obtain ⟨H1,hH1⟩:∃ H1,up (up H 2 (.vec 42 9 [])) 1 (.cells ((TQ bs).set 2 (.h (.v 2))))=H1:=⟨_,rfl⟩
  rw [hH1] at u1;have v1:H1 1=.cells (.d (.im (byR bs)) :: .d (dI 8) :: .h (.v 2) :: kY :: kY :: .h (.m 0) :: (ev0.row.map .d ++ [.d (.sc (.bool false)),.d (.sc (.bool false))])):=by rw [←hH1];exact dK
  have w1:∀ x,x≠2→x≠1→H1 x=H x:=fun x h1 h2=>u1.ho x h2 h1
  have u2:=lG (i:=3) (b:=3) (E:=50) (sz:=2) v1 rfl ((w1 3 (by omega) (by omega)).trans (h3 3 (by omega))) (by omega);obtain ⟨H2,hH2⟩:∃ H2,up (up H1 3 (.vec 50 2 [])) 1 (.cells ((.d (.im (byR bs)) :: .d (dI 8) :: .h (.v 2) :: kY :: kY :: .h (.m 0) :: (ev0.row.map .d ++ [.d (.sc (.bool false)),.d (.sc (.bool false))]):List Hc).set 3 (.h (.v 3))))=H2:=⟨_,rfl⟩
  rw [hH2] at u2;have v2:H2 1=.cells (.d (.im (byR bs)) :: .d (dI 8) :: .h (.v 2) :: .h (.v 3) :: kY :: .h (.m 0) :: (ev0.row.map .d ++ [.d (.sc (.bool false)),.d (.sc (.bool false))])):=by rw [←hH2];exact dK
  have w2:∀ x,x≠3→x≠1→H2 x=H1 x:=fun x h1 h2=>u2.ho x h2 h1
  have u3:=lG (i:=4) (b:=4) (E:=3) (sz:=1) v2 rfl ((w2 4 (by omega) (by omega)).trans ((w1 4 (by omega) (by omega)).trans (h3 4 (by omega)))) (by omega);obtain ⟨H3,hH3⟩:∃ H3,up (up H2 4 (.vec 3 1 [])) 1 (.cells ((.d (.im (byR bs)) :: .d (dI 8) :: .h (.v 2) :: .h (.v 3) :: kY :: .h (.m 0) :: (ev0.row.map .d ++ [.d (.sc (.bool false)),.d (.sc (.bool false))]):List Hc).set 4 (.h (.v 4))))=H3:=⟨_,rfl⟩
  rw [hH3] at u3;have w3:∀ x,x≠4→x≠1→H3 x=H2 x:=fun x h1 h2=>u3.ho x h2 h1
  have v3:H3 1=iE bs ((8:Nat):Int) 2 3 4 0 (lst ev0 fl0.es) false false:=by rw [←hH3];exact dK
  have hkn0:KnD ⟨[],[]⟩ 0 0=fun _=>False:=by
   funext x
   exact eq_false fun ⟨i,h1,h2,_⟩=>by omega
  have hR:Aj H3 5 1 0 2 3 4 bs ((8:Nat):Int) (lst ev0 fl0.es) false fl0.en fl0.es fl0.d:=by
   refine ⟨v3,(w3 2 (by omega) (by omega)).trans ((w2 2 (by omega) (by omega)).trans u1.hb.2),(w3 3 (by omega) (by omega)).trans u2.hb.2,u3.hb.2,⟨[],0,(w3 0 (by omega) (by omega)).trans ((w2 0 (by omega) (by omega)).trans ((w1 0 (by omega) (by omega)).trans h2)),?_⟩,by omega,by omega,fun b hb=>(w3 b (by omega) (by omega)).trans ((w2 b (by omega) (by omega)).trans ((w1 b (by omega) (by omega)).trans (h3 b (by omega))))⟩
   show Kn [] 0 (KnD ⟨[],[]⟩ 0 0)
   rw [hkn0];exact Kn.nil
  have hsh:(false=true↔kJ fl0):=⟨fun q=>(by cases q),fun ⟨n,q,_⟩=>(by cases q)⟩;exact ⟨_,.inl ⟨H1,1,2,2,42,9,u1,H2,1,3,3,50,2,u2,H3,1,4,4,3,1,u3,5,1,0,2,3,4,8,bs,lst ev0 fl0.es,false,fl0.en,fl0.es,fl0.d,rfl,hR,hpre,rfl⟩,hgo hR hsh⟩
theorem Hy {sh:Bool} {n:Nat} {d:Dep} {l:Ev} {b:List Nat} {e:Nat} (h:oI sh n d l b=(e,none)):e≠0:=by
 cases b with
 | nil=>unfold oI at h;simp at h;omega
 | cons kind r =>
   unfold oI at h;dsimp only at h
   repeat' (first | (exfalso;simp at h;done) | (simp at h;omega) | split at h)
def Ef (bs:List Nat) (h:Nat→Hb) (r:List Hw):Prop:=(bs.take 8≠bQ∧r=[.one (.d (.sc (.pointer none))),.one (hI 8)]) ∨
 ∃ (f:Fl) (a e:Nat),kE bs=((if e=0∧a < bs.length then 8 else e),f,bs.drop a)∧bs.take 8=bQ∧a≤bs.length∧r=[.one (hP 1 0),.one (hI (e:Nat))]∧RdC h bs f a∧FlI f
def EJ (hp:Nat→Hb) (az:List Hw) (Post:(Nat→Hb)→List Hw→Prop):Prop:=∃ bs:List Nat,hp=(fun _=>.no)∧az=[.one (.d (.im (byR bs)))]∧(bs.length≤300000∧∀ x ∈ bs,x≤255)∧Post=Ef bs
noncomputable def Gn:Env:=e1 49 Eb (p1 50 Sj e0)
theorem zL:aA Try.prog Gn:=aA.e1 Rt (aA.p1 Ue aA.e0)
theorem OY:dY Try.prog 31 EJ:=by
 refine sqp31 zL ?_;rintro hp az Post ⟨bs,rfl,rfl,⟨hbl,hby⟩,rfl⟩;obtain ⟨nc,hnc⟩:∃ nc:Nat→Nat,nc=fun x=>if x=0 then 13 else if x=1 then 15 else 1:=⟨_,rfl⟩
 have c0:nc 0=13:=by rw [hnc];rfl
 have c1:nc 1=15:=by rw [hnc];rfl
 refine ⟨by simp,nc,?_⟩;have hhb:∀ x ∈ bQ,x≤255:=by decide
 have hpref:Eb [dL bs,dL bQ] [pB (decide (bs.take 8=bQ))]:=⟨bs,bQ,rfl,⟨hby,hhb⟩,rfl⟩;unfold pcp31
 with_reducible refine aQ ?_
 simp only [↓evP,evB,stB,reduceCtorEq,Nat.reduceEqDiff,Nat.reduceAdd,Nat.reduceLeDiff,Nat.reduceLT];refine aF [pB (decide (bs.take 8=bQ))] (by exact hpref) ?_
 by_cases hpr:bs.take 8=bQ
 ·have hd1:decide (bs.take 8=bQ)=true:=decide_eq_true hpr
  have hal:8≤bs.length:=by
   have:=congrArg List.length hpr;rw [List.length_take] at this;have h8:bQ.length=8:=rfl;omega
  simp only [↓evP,evB,stB,reduceCtorEq,Nat.reduceEqDiff,Nat.reduceLT,hd1];refine AY 0 (dU (by simp only [stB,c0]) (by repeat' (first | exact aH.init | assumption | exact aN (by assumption) | (refine aH.ap ?_ rfl))) (by simp only [stB,Nat.reduceLT])) Me ?_;simp only [evB,stB,Nat.reduceEqDiff,Nat.reduceAdd,Nat.reduceLeDiff,Nat.reduceBEq];refine mY 1 (dU (by simp only [stB,c1]) (by repeat' (first | exact aH.init | assumption | exact aN (by assumption) | (refine aH.ap ?_ rfl))) (by simp only [stB,reduceCtorEq,Nat.reduceLT,c0])) (by simp only [stB,Nat.reduceEqDiff];rfl) (by simp only [stB];rfl) ?_
  simp only [↓evP,evB,stB,Nat.reduceEqDiff];obtain ⟨R0,hR0⟩:∃ R0,kE bs=R0:=⟨_,rfl⟩
  have hR1:nT (bs.length+1) (bs.drop 8) fl0=R0:=by
   rw [←hR0];unfold kE;rw [if_neg (fun q=>q hpr)]
  refine dA msp31_0 osp31_0 (fun m st=>∃ (f:Fl) (a:Nat),RdU st.hb bs f a∧FlI f∧a≤bs.length∧f.d.st.length+(bs.length - a)≤300000∧bs.length - a < m∧nT m (bs.drop a) f=R0) (bs.length+1) (by repeat' (first | exact aH.init | assumption | exact aN (by assumption) | (refine aH.ap ?_ rfl))) ?_ ?_
  ·refine ⟨fl0,8,.inr ⟨rfl,rfl,?_,?_,fun b hb=>?_⟩,fl0_i,hal,by show 0+(bs.length - 8)≤_;omega,by omega,hR1⟩
   ·simp only [stB,reduceCtorEq,Nat.reduceLT,c0,c1]
    first | done | rfl
   ·simp only [stB,reduceCtorEq,Nat.reduceLT,c0,c1]
   ·have o1:¬ b=0:=by omega
    have o2:¬ b=1:=by omega
    simp only [stB,Nat.reduceLT,c0,c1,o1,o2]
  rintro m j hjn hja ⟨f,a,hU,hi,ha,hdl,hlt,hres⟩;simp only [stB,hjn] at hU;obtain ⟨m,rfl⟩:∃ m',m=m'+1:=⟨m - 1,by omega⟩
  obtain ⟨ce,cs,cp,bR,l,sh0,hcell⟩:=hU.en;simp only [Ev.row,List.map_cons,List.map_nil,List.cons_append,List.nil_append] at hcell
  cases hen:f.en with
  | true =>
    rw [Ig hen] at hres;rw [hen] at hcell;simp only [↓evP,evB,stB,reduceCtorEq,Nat.reduceEqDiff,Nat.reduceBEq,hjn,hcell,prp31];refine ⟨j.hb,_,rfl,fun b=>.inl ?_,.inr ⟨f,a,0,?_,hpr,ha,rfl,hU.c,hi⟩⟩
    ·first | rfl | rw [vN (by simp only [stB,reduceIte,reduceCtorEq,Nat.reduceEqDiff,Nat.reduceAdd,Nat.reduceMul,Nat.reduceLeDiff,Nat.reduceLT,Nat.reduceSub,Nat.reduceBEq,hjn])]
    ·rw [hR0,←hres]
     congr 1
     by_cases q:a < bs.length
     ·have hne:¬ bs.drop a=[]:=by
       intro q2;have:=congrArg List.length q2;rw [List.length_drop] at this;have h0:([]:List Nat).length=0:=rfl;omega
      rw [if_neg hne,if_pos (⟨rfl,q⟩:0=0∧a < bs.length)]
     ·rw [if_neg (show ¬ (0=0∧a < bs.length) from fun q2=>q q2.2),if_pos (show bs.drop a=[] from List.drop_of_length_le (by omega))]
  | false =>
    rw [hen] at hcell;obtain ⟨Post,hN,hNP⟩:=hU.next hen hi ha hbl hby hdl;simp only [↓evP,evB,stB,reduceCtorEq,Nat.reduceEqDiff,Nat.reduceBEq,hjn,hcell];refine bH Post (by simp only [stB,hjn];exact hN) ?_
    intro h' r' hP';obtain ⟨sh,hsh,rfl,hnone,hsome⟩:=hNP h' r' hP';have hlaw:=Oy (b:=bs.drop a) hsh hen;obtain ⟨⟨e,o⟩,hE⟩:∃ E,oI sh f.es.length f.d (lst ev0 f.es) (bs.drop a)=E:=⟨_,rfl⟩
    rw [hE] at hnone hsome hlaw ⊢;dsimp only at hnone hsome hlaw ⊢
    cases o with
    | none =>
      have he0:=Hy hE;have hne:(((e:Nat):Int) != 0)=true:=by rw [bne_iff_ne];omega
      have hres2:nT (m+1) (bs.drop a) f=(e,f,bs.drop a):=xO hen (by rw [hlaw]) he0;rw [hres2] at hres;simp only [↓evP,evB,stB,reduceCtorEq,Nat.reduceEqDiff,Nat.reduceBEq,hne,prp31];refine ⟨h',_,rfl,fun b=>.inl ?_,.inr ⟨f,a,e,?_,hpr,ha,rfl,hnone rfl,hi⟩⟩
      ·first | rfl | simp only [stB,reduceIte,reduceCtorEq,Nat.reduceEqDiff,Nat.reduceAdd,Nat.reduceMul,Nat.reduceLeDiff,Nat.reduceLT,Nat.reduceSub,Nat.reduceBEq]
      ·rw [hR0,←hres,if_neg (fun q=>he0 q.1)]
    | some x =>
      obtain ⟨e1,e2,e3,e4⟩:=xG hE;subst e1;have hne:(((0:Nat):Int) != 0)=false:=rfl;have hlen:(bs.drop a).length=bs.length - a:=List.length_drop;have hdd:(bs.drop a).drop x.len=bs.drop (a+x.len):=by rw [List.drop_drop]
      have hlaw:pK (bs.drop a) f=(0,f.nx x,bs.drop (a+x.len)):=by rw [←hdd];exact hlaw
      obtain ⟨i1,i2,i3,i4,i5,i6⟩:=Nc hi hlaw;rw [Bt hen hlaw] at hres;have hl2:(bs.drop (a+x.len)).length=bs.length - (a+x.len):=List.length_drop;simp only [↓evP,evB,stB,reduceCtorEq,Nat.reduceEqDiff,Nat.reduceBEq,hne]
      refine ⟨_,Nat.lt_succ_self _,(by repeat' (first | assumption | exact aP (by assumption) | (refine aJ ?_ rfl rfl) | (refine aD ?_ rfl) | (refine aJ ?_ rfl aK) | (refine aD ?_ aK) | (refine bV.in' ?_ (aP (by assumption)) rfl rfl))),f.nx x,a+x.len,?_,i1,by omega,by omega,by omega,hres⟩;simp only [stB];exact hsome x rfl
 ·have hd1:decide (bs.take 8=bQ)=false:=decide_eq_false hpr;simp only [↓evP,evB,stB,reduceCtorEq,Nat.reduceEqDiff,Nat.reduceLT,hd1,prp31];exact ⟨_,_,rfl,fun b=>.inl rfl,.inl ⟨hpr,rfl⟩⟩
noncomputable def Jt:Env:=p1 31 EJ e0
theorem um:aA Try.prog Jt:=aA.p1 OY aA.e0
def MX (hp:Nat→Hb) (az:List Hw) (Post:(Nat→Hb)→List Hw→Prop):Prop:=∃ bs:List Nat,hp=(fun _=>.no)∧az=[.one (.d (.im (byR bs)))]∧(bs.length≤300000∧∀ x ∈ bs,x≤255)∧Post=fun h r=>r.map (Hw.pa h)=(yY (kE bs)).map some
def MZ (hp:Nat→Hb) (az:List Hw) (Post:(Nat→Hb)→List Hw→Prop):Prop:=∃ bs:List Nat,hp=(fun _=>.no)∧az=[.one (.d (.im (byR bs)))]∧(bs.length≤300000∧∀ x ∈ bs,x≤255)∧Post=fun h r=>r.map (Hw.pa h)=(zn bs (kE bs)).map some
theorem Bw {bs:List Nat} (h:bs.take 8≠bQ):kE bs=(8,fl0,bs):=by unfold kE;rw [if_pos h]
theorem OW:dY Try.prog 18 MX:=by
 refine sqp18 um ?_;rintro hp az Post ⟨bs,rfl,rfl,⟨hbl,hby⟩,rfl⟩;refine ⟨by simp,fun _=>1,?_⟩;have hbr:=aV bs;unfold pcp18
 with_reducible refine aQ ?_
 simp only [↓evP,evB,stB,reduceCtorEq,Nat.reduceEqDiff];refine bH (Ef bs) (by simp only [stB,Nat.reduceLT];exact ⟨bs,rfl,rfl,⟨hbl,hby⟩,rfl⟩) ?_
 rintro h' r' (⟨hpr,rfl⟩ | ⟨f,a,e,hM,hpr,ha,rfl,⟨ce,cs,cp,tl,hc,⟨v1,v2,v3⟩,⟨k1,k2,k3⟩,htl⟩,hi⟩)
 ·have e1:((8:Int) == 0)=false:=rfl;have e2:((8:Int) != 0)=true:=rfl;simp only [↓evP,evB,stB,reduceCtorEq,Nat.reduceEqDiff,Nat.reduceAdd,Nat.reduceLeDiff,Nat.reduceLT,Nat.reduceBEq,e1,e2,prp18];refine ⟨_,_,rfl,fun b=>.inl rfl,?_⟩;rw [Bw hpr];rfl
 ·have herr:∀ (H:Nat→Hb) (E:Nat),E≠0→(kE bs).1=E→[Hw.one (.d (.sc (.slice none 0 0))),Hw.one (hI (E:Nat))].length=2→(([Hw.agg [.d (.sc (.slice none 0 0)),.d (.sc (.slice none 0 0)),.d (.sc (.slice none 0 0))],Hw.one (hI (E:Nat))]:List Hw).map (Hw.pa H))=(yY (kE bs)).map some:=fun H E h0 h1 _=>by
   unfold yY;rw [h1,if_neg h0];rfl
  by_cases he:e=0
  ·have e1:(((e:Nat):Int) == 0)=true:=by rw [he];rfl
   by_cases hlt:(a:Int) < (bs.length:Int)
   ·have e2:((8:Int) != 0)=true:=rfl;rw [if_pos ⟨he,by omega⟩] at hM;simp only [↓evP,evB,stB,reduceCtorEq,Nat.reduceEqDiff,Nat.reduceAdd,Nat.reduceLeDiff,Nat.reduceLT,Nat.reduceBEq,hc,hbr,e1,e2,hlt,prp18];refine ⟨_,_,rfl,fun b=>.inl rfl,herr _ 8 (by decide) (by rw [hM]) rfl⟩
   ·have e2:(((e:Nat):Int) != 0)=false:=by rw [he];rfl
    rw [if_neg (show ¬ (e=0∧a < bs.length) by omega)] at hM;simp only [↓evP,evB,stB,reduceCtorEq,Nat.reduceEqDiff,Nat.reduceAdd,Nat.reduceLeDiff,Nat.reduceLT,Nat.reduceBEq,hc,hbr,e1,e2,hlt,htl,k1,k2,k3,prp18];refine ⟨_,_,rfl,fun b=>.inl rfl,?_⟩;rw [hM];unfold yY;dsimp only;rw [if_pos he];simp only [List.map_cons,List.map_nil,Hw.pa,aC,v1,v2,v3,Option.map_some,iA,cK]
    first | done | rfl
  ·have e1:(((e:Nat):Int) == 0)=false:=by rw [beq_eq_false_iff_ne];omega
   have e2:(((e:Nat):Int) != 0)=true:=by rw [bne_iff_ne];omega
   rw [if_neg (show ¬ (e=0∧a < bs.length) by omega)] at hM;simp only [↓evP,evB,stB,reduceCtorEq,Nat.reduceEqDiff,Nat.reduceAdd,Nat.reduceLeDiff,Nat.reduceLT,Nat.reduceBEq,hc,e1,e2,prp18];refine ⟨_,_,rfl,fun b=>.inl rfl,herr _ e he (by rw [hM]) rfl⟩
theorem OZ:dY Try.prog 14 MZ:=by
 refine sqp14 um ?_;rintro hp az Post ⟨bs,rfl,rfl,⟨hbl,hby⟩,rfl⟩;refine ⟨by simp,fun _=>1,?_⟩;have hbr:=aV bs;unfold pcp14
 with_reducible refine aQ ?_
 simp only [↓evP,evB,stB,reduceCtorEq,Nat.reduceEqDiff];refine bH (Ef bs) (by simp only [stB,Nat.reduceLT];exact ⟨bs,rfl,rfl,⟨hbl,hby⟩,rfl⟩) ?_
 rintro h' r' (⟨hpr,rfl⟩ | ⟨f,a,e,hM,hpr,ha,rfl,⟨ce,cs,cp,tl,hc,⟨v1,v2,v3⟩,⟨k1,k2,k3⟩,htl⟩,hi⟩)
 ·simp only [↓evP,evB,stB,reduceCtorEq,Nat.reduceEqDiff,Nat.reduceAdd,Nat.reduceLeDiff,Nat.reduceLT,Nat.reduceBEq,prp14];refine ⟨_,_,rfl,fun b=>.inl rfl,?_⟩;rw [Bw hpr];unfold zn;dsimp only;rw [Nat.sub_self];rfl
 ·simp only [↓evP,evB,stB,reduceCtorEq,Nat.reduceEqDiff,Nat.reduceAdd,Nat.reduceLeDiff,Nat.reduceLT,Nat.reduceBEq,hc,htl];refine ⟨(by unfold Drw;refine Eq.trans (b:=true) ?_ rfl;kernel_rfl),?_⟩
  simp only [stB,Nat.reduceEqDiff,Nat.reduceAdd,Nat.reduceLeDiff,Nat.reduceLT,k1,k2,k3,prp14];refine ⟨_,_,rfl,fun b=>.inl rfl,?_⟩;rw [hM];unfold zn;dsimp only;have hl:bs.length - (bs.drop a).length=a:=by rw [List.length_drop];omega
  rw [hl];simp only [List.map_cons,List.map_nil,Hw.pa,aC,v1,v2,v3,Option.map_some,iA,cK]
  first | done | rfl
def LP (ps rs:List Pa):Prop:=∃ bs:List Nat,ps=[dL bs]∧(bs.length≤300000∧∀ x ∈ bs,x≤255)∧rs=yY (kE bs)
def LU (ps rs:List Pa):Prop:=∃ bs:List Nat,ps=[dL bs]∧(bs.length≤300000∧∀ x ∈ bs,x≤255)∧rs=zn bs (kE bs)
theorem RV:Spec Try.prog 18 LP:=rH OW (by
 rintro az rs ⟨bs,rfl,hb,rfl⟩;exact ⟨_,⟨bs,rfl,rfl,hb,rfl⟩,fun hp' rs' h=>h⟩)
theorem RZ:Spec Try.prog 14 LU:=rH OZ (by
 rintro az rs ⟨bs,rfl,hb,rfl⟩;exact ⟨_,⟨bs,rfl,rfl,hb,rfl⟩,fun hp' rs' h=>h⟩)
theorem SX {es:List Ev} {d:Dep} (h:lgB es d=false):es.length≤80∧d.st.length≤60∧d.pr.length≤60:=by
 unfold lgB at h;simp at h;omega
theorem Iq (l:List Nat):∀ x ∈ fG l,x≤255:=fun x hx=>by
 unfold fG at hx;simp only [List.mem_cons,List.not_mem_nil,or_false] at hx;omega
theorem rQ {k:Nat} {c:List Nat} (hk:k≤255) (hc:∀ x ∈ c,x≤255) (hl:c.length≤1000000):∀ x ∈ bK k c,x≤255:=jw (jS hk hc hl) (Iq _)
theorem FZ {es:List Ev} {d:Dep} (h:rJ d es):∀ b ∈ aZ d es,∀ x ∈ b,x≤255:=fun b hb=>by
 rcases List.mem_append.1 hb with q | q
 ·obtain ⟨k,_,rfl⟩:=List.mem_map.1 q;have:=kU h k;exact rQ (by decide) (oW h k) (by omega)
 ·rw [List.mem_singleton.1 q];have:=mV h;exact rQ (by decide) (nI h) (by omega)
theorem Dw {es:List Ev} {d:Dep} (h:rJ d es):∀ x ∈ cu es d,x≤255:=by
 refine jw (by decide) fun x hx=>?_
 obtain ⟨b,hb,hx⟩:=List.mem_flatten.1 hx;exact FZ h b hb x hx
theorem wV {es:List Ev} {d:Dep} (h:rJ d es) (he:es.length≤80):(cu es d).length≤200000:=by
 have h1:=qD (l:=aZ d es) (c:=30014) fun b q=>kZ h b q
 have h2:(aZ d es).length≤6:=by rw [jv];unfold dW;omega
 have h3:=Nat.mul_le_mul_left 30014 h2;have h4:bQ.length=8:=rfl;unfold cu;rw [List.length_append];omega
theorem tO {es:List Ev} {d:Dep} {j:Nat} (h:j≤dW es):(aZ d es).take j=(List.range j).map (fQ d es):=by
 unfold aZ;rw [List.take_append_of_le_length (by rw [List.length_map,List.length_range];exact h),←List.map_take,List.take_range,Nat.min_eq_left h]
theorem wL {es:List Ev} {d:Dep} {j:Nat} {x:List Nat} (h:(aZ d es)[j]? = some x):j≤dW es∧((j < dW es∧x=bK 66 (jF d es j))∨(j=dW es∧x=bK 69 (oz d es))):=by
 have hl:=(List.getElem?_eq_some_iff.1 h).1;rw [jv] at hl;refine ⟨by omega,?_⟩;unfold aZ at h
 rcases Nat.lt_or_ge j (dW es) with h1 | h1
 ·rw [List.getElem?_append_left (by rw [List.length_map,List.length_range];exact h1),List.getElem?_map,List.getElem?_range h1] at h
  cases h;exact .inl ⟨h1,rfl⟩
 ·have hj:j=dW es:=by omega
  rw [List.getElem?_append_right (by rw [List.length_map,List.length_range];exact h1),List.length_map,List.length_range,hj,Nat.sub_self] at h
  cases h;exact .inr ⟨hj,rfl⟩
theorem uV {a b p:Nat} (h:a ^^^ p=b ^^^ p):a=b:=by
 have h1:=congrArg (· ^^^ p) h;simp only [Nat.xor_assoc,Nat.xor_self,Nat.xor_zero] at h1;exact h1
theorem BI {a b p:Nat} (h:p ^^^ a=p ^^^ b):a=b:=by
 rw [Nat.xor_comm p a,Nat.xor_comm p b] at h;exact uV h
theorem ES {x:Nat} (h:x≤2147483647):(x ^^^ 3988292384).testBit 31=true∧x.testBit 31=false:=by
 have h1:x.testBit 31=false:=Nat.testBit_lt_two_pow (by omega);refine ⟨?_,h1⟩;rw [Nat.testBit_xor,h1];decide
theorem Ji {a b:Nat} (ha:a≤4294967295) (hb:b≤4294967295) (h:wO a=wO b):a=b:=by
 have ta:=ES (x:=a / 2) (by omega);have tb:=ES (x:=b / 2) (by omega);unfold wO at h
 by_cases qa:a % 2=1
 ·by_cases qb:b % 2=1
  ·rw [if_pos qa,if_pos qb] at h;have:=uV h;omega
  ·rw [if_pos qa,if_neg qb] at h;rw [h,tb.2] at ta;exact absurd ta.1 (by simp)
 ·by_cases qb:b % 2=1
  ·rw [if_neg qa,if_pos qb] at h;rw [←h,ta.2] at tb;exact absurd tb.1 (by simp)
  ·rw [if_neg qa,if_neg qb] at h;omega
theorem uY {a b:Nat} (ha:a≤4294967295) (hb:b≤4294967295):∀ k,oq a k=oq b k→a=b
 | 0,h=>h
 | k+1,h=>uY ha hb k (Ji (iI ha k) (iI hb k) h)
theorem Aq:∀ {l:List Nat} {a b:Nat},a≤4294967295→b≤4294967295→(∀ x ∈ l,x≤255)→kN a l=kN b l→a=b
 | [],_,_,_,_,_,h=>h
 | x :: l,a,b,ha,hb,hl,h=>by
   have hx:=hl x (List.mem_cons_self ..);have xa:=lI ha (show x≤4294967295 by omega);have xb:=lI hb (show x≤4294967295 by omega);have h1:=Aq (l:=l) (iI xa 8) (iI xb 8) (fun y hy=>hl y (List.mem_cons_of_mem _ hy)) h;exact uV (uY xa xb 8 h1)
theorem Nq {l:List Nat} {k x y:Nat} (hl:∀ z ∈ l,z≤255) (hy:y≤255) (hx:l[k]? = some x) (h:crc (l.set k y)=crc l):y=x:=by
 obtain ⟨hk,rfl⟩:=List.getElem?_eq_some_iff.1 hx;have hl1:l=l.take k ++ l[k] :: l.drop (k+1):=by rw [←List.drop_eq_getElem_cons hk,List.take_append_drop]
 have hs:l.set k y=l.take k ++ y :: l.drop (k+1):=by rw [List.set_eq_take_append_cons_drop,if_pos hk]
 have h1:=uV h;rw [hs] at h1
 conv at h1=>rhs;rw [hl1]
 rw [mU,mU] at h1;have hc0:kN 4294967295 (l.take k)≤4294967295:=qO (by decide) fun z hz=>hl z (List.mem_of_mem_take hz)
 have hxk:=hl _ (List.getElem_mem hk);have b1:=lI hc0 (show y≤4294967295 by omega);have b2:=lI hc0 (show l[k]≤4294967295 by omega);have h2:=Aq (l:=l.drop (k+1)) (iI b1 8) (iI b2 8) (fun z hz=>hl z (List.mem_of_mem_drop hz)) h1;exact BI (uY b1 b2 8 h2)
theorem L8 {l:List Nat} (hl:∀ z ∈ l,z≤255):crc l≤4294967295:=lI (qO (by decide) hl) (by decide)
theorem Le {l m:List Nat} (hl:∀ z ∈ l,z≤255) (hm:∀ z ∈ m,z≤255) (h:fG l=fG m):crc l=crc m:=by
 have h1:=L8 hl;have h2:=L8 hm;unfold fG at h;simp only [List.cons.injEq,and_true] at h;omega
theorem Hu {n:Nat} (h:n < 2097152):(bn n).length≤3:=by
 unfold bn
 by_cases h1:128≤n
 ·rw [FB h1]
  by_cases h2:128≤n / 128
  ·rw [FB h2,yI (by omega)];simp
  ·rw [yI (by omega)];simp
 ·rw [yI (by omega)];simp
theorem EN {kind:Nat} {C t:List Nat} {f:Fl} (hk:kind=66∨kind=69) (hC:C.length≤1000000) (hCb:∀ z ∈ C,z≤255) {k x y:Nat} (h4:4≤k) (hx:(bK kind C)[k]? = some x) (hy:y≤255) (hne:y≠x):pK ((bK kind C).set k y ++ t) f=(9,f,(bK kind C).set k y ++ t):=by
 have hHb:=jS (k:=kind) (by omega) hCb hC;have hs4:(fG (aX kind C)).length=4:=rfl;have hn3:=Hu (n:=C.length) (by omega);obtain ⟨N,hN⟩:∃ N,bn C.length=N:=⟨_,rfl⟩
 have hH:aX kind C=kind :: (N ++ C):=by unfold aX;rw [hN]
 obtain ⟨Sm,hSm⟩:∃ Sm,fG (aX kind C)=Sm:=⟨_,rfl⟩
 have hB:bK kind C=(kind :: N) ++ (C ++ Sm):=by
  unfold bK;rw [hSm,hH];simp only [List.cons_append,List.append_assoc]
 rw [hN] at hn3;rw [hSm] at hs4;have hlN:(kind :: N).length≤4:=by rw [List.length_cons];omega
 obtain ⟨k',hk'⟩:∃ k',k=(kind :: N).length+k':=⟨k - (kind :: N).length,by omega⟩
 have hset:(bK kind C).set k y=(kind :: N) ++ (C ++ Sm).set k' y:=by
  rw [hB,List.set_append_right _ _ (by omega),hk',Nat.add_sub_cancel_left]
 rw [hB,List.getElem?_append_right (by omega),hk',Nat.add_sub_cancel_left] at hx;have hkl:=(List.getElem?_eq_some_iff.1 hx).1;rw [List.length_append,hs4] at hkl;obtain ⟨X,hX⟩:∃ X,(C ++ Sm).set k' y=X:=⟨_,rfl⟩
 have hXl:X.length=C.length+4:=by rw [←hX,List.length_set,List.length_append,hs4]
 rw [hset,hX];have hb:kind :: N ++ X ++ t=kind :: (bn C.length ++ (X ++ t)):=by rw [hN];simp only [List.cons_append,List.append_assoc]
 rw [hb];unfold pK;dsimp only;rw [if_neg (by omega),iw (by omega)];dsimp only
 rw [if_neg (by
  rintro (q | q | q)
  ·cases q
  ·omega
  ·rw [List.length_append] at q;omega)]
 have e1:(kind :: (bn C.length ++ (X ++ t))).length - (X ++ t).length+C.length=(kind :: N).length+C.length:=by
  rw [hN,List.length_cons,List.length_cons,List.length_append];omega
 have e2:List.take ((kind :: N).length+C.length) (kind :: (bn C.length ++ (X ++ t)))=kind :: (N ++ X.take C.length):=by
  rw [hN]
  show List.take _ ((kind :: N) ++ (X ++ t))=_
  rw [List.take_length_add_append,List.take_append_of_le_length (by omega)];rfl
 have e3:(List.drop C.length (X ++ t)).take 4=X.drop C.length:=by
  rw [List.drop_append_of_le_length (by omega),List.take_append_of_le_length (by rw [List.length_drop];omega),List.take_of_length_le (by rw [List.length_drop];omega)]
 rw [e1,e2,e3,if_pos];intro q
 rcases Nat.lt_or_ge k' C.length with h1 | h1
 ·have hXe:X=C.set k' y ++ Sm:=by rw [←hX,List.set_append_left _ _ h1]
  have hCl:(C.set k' y).length=C.length:=List.length_set;have e4:X.take C.length=C.set k' y:=by rw [hXe,←hCl,List.take_left]
  have e5:X.drop C.length=Sm:=by rw [hXe,←hCl,List.drop_left]
  rw [List.getElem?_append_left h1] at hx;rw [e4,e5,←hSm] at q
  have e6:kind :: (N ++ C.set k' y)=(aX kind C).set k y:=by
   rw [hH]
   show (kind :: N) ++ _=((kind :: N) ++ C).set k y
   rw [List.set_append_right _ _ (by omega),hk',Nat.add_sub_cancel_left]
  have hx2:(aX kind C)[k]? = some x:=by
   rw [hH]
   show ((kind :: N) ++ C)[k]? = _
   rw [List.getElem?_append_right (by omega),hk',Nat.add_sub_cancel_left];exact hx
  rw [e6] at q
  have hb2:∀ z ∈ (aX kind C).set k y,z≤255:=fun z hz=>by
   rcases List.mem_or_eq_of_mem_set hz with q | q
   ·exact hHb z q
   ·omega
  exact hne (Nq hHb hy hx2 (Le hHb hb2 q).symm)
 ·obtain ⟨j,rfl⟩:∃ j,k'=C.length+j:=⟨k' - C.length,by omega⟩
  have hXe:X=C ++ Sm.set j y:=by rw [←hX,List.set_append_right _ _ (by omega),Nat.add_sub_cancel_left]
  have e4:X.take C.length=C:=by rw [hXe,List.take_left]
  have e5:X.drop C.length=Sm.set j y:=by rw [hXe,List.drop_left]
  rw [List.getElem?_append_right (by omega),Nat.add_sub_cancel_left] at hx;rw [e4,e5,←hH,hSm] at q;have h2:(Sm.set j y)[j]? = Sm[j]?:=by rw [q]
  have hjl:=(List.getElem?_eq_some_iff.1 hx).1;rw [List.getElem?_set,if_pos rfl,if_pos hjl,hx] at h2;exact hne (Option.some.inj h2)
theorem KN {es:List Ev} {d:Dep} (hS:dQ es d) (hd:d.st.length≤1000) (he:es.length≤1000) {j k x y:Nat} {B:List Nat} (hB:(aZ d es)[j]? = some B) (h4:4≤k) (hx:B[k]? = some x) (hy:y≤255) (hne:y≠x) :
 ∃ r,kE ((cu es d).set (8+((aZ d es).take j).flatten.length+k) y)=(9,stW d es j,r)∧8+((aZ d es).take j).flatten.length+r.length=(cu es d).length:=by
 have h8:bQ.length=8:=rfl;have ok:=hS.ok hd he;obtain ⟨hj,hcase⟩:=wL hB;have hkB:=(List.getElem?_eq_some_iff.1 hx).1;obtain ⟨hjl,hBe⟩:=List.getElem?_eq_some_iff.1 hB
 have hfile:cu es d=bQ ++ (((aZ d es).take j).flatten ++ (B ++ ((aZ d es).drop (j+1)).flatten)):=by
  unfold cu;have:(aZ d es).flatten=((aZ d es).take j).flatten ++ ((aZ d es).drop j).flatten:=by rw [←List.flatten_append,List.take_append_drop]
  rw [this,List.drop_eq_getElem_cons hjl,hBe,List.flatten_cons]
 refine ⟨B.set k y ++ ((aZ d es).drop (j+1)).flatten,?_,?_⟩
 ·have hs:(cu es d).set (8+((aZ d es).take j).flatten.length+k) y=bQ ++ (((List.range j).map (fQ d es)).flatten ++ (B.set k y ++ ((aZ d es).drop (j+1)).flatten)):=by
   rw [hfile,List.set_append_right _ _ (by omega),List.set_append_right _ _ (by omega),List.set_append_left _ _ (by omega),tO hj]
   congr 4
   rw [←tO hj];omega
  obtain ⟨m,e1,e2⟩:=Ih hS hd he (B.set k y ++ ((aZ d es).drop (j+1)).flatten) hj
  have hdam:pK (B.set k y ++ ((aZ d es).drop (j+1)).flatten) (stW d es j)=(9,stW d es j,B.set k y ++ ((aZ d es).drop (j+1)).flatten):=by
   rcases hcase with ⟨_,rfl⟩ | ⟨_,rfl⟩
   ·have:=kU ok j;exact EN (.inl rfl) (by omega) (oW ok j) h4 hx hy hne
   ·have:=mV ok;exact EN (.inr rfl) (by omega) (nI ok) h4 hx hy hne
  obtain ⟨m',rfl⟩:∃ m',m=m'+1:=⟨m - 1,by omega⟩
  rw [hs,e1,xO (e:=9) rfl (by rw [hdam]) (by decide)]
 ·rw [hfile,List.length_append,List.length_append,List.length_append,List.length_append,List.length_set,h8];omega
end Go.Proofs.Ytkafcpnahpfbfaa
end
section
namespace Go.Proofs.Ytkafcpnahpfbfaa
open Go Go.RowKit
set_option maxRecDepth 100000
def pcz9Ac0 : PC := .seq (.cond (.t 61) (.seq (.reg false [⟨(some 6), .mv (.v (.bool true)), none, []⟩]) (.ret)) (.skip)) (.seq (.reg false [⟨(some 62), .call 21 [], none, []⟩, ⟨(some 63), .len (.t 62), none, [0]⟩, ⟨(some 12), .mv (.t 63), none, [1, 0, 0, 1]⟩]) (.seq (.reg false [⟨(some 64), .mv (.t 9), none, []⟩, ⟨(some 65), .mv (.t 10), none, []⟩, ⟨(some 66), .slc 1 (.t 64) none (some (.t 65)), none, [0, 1]⟩, ⟨(some 67), .len (.t 66), none, [2]⟩, ⟨(some 68), .mv (.v (.int .i64 0)), none, []⟩]) (.seq (.block 0 (.loop (.seq (.reg false [⟨(some 69), .bin .lss (.t 68) (.t 67), none, []⟩]) (.seq (.cond (.t 69) (.skip) (.exit 0)) (.seq (.block 1 (.seq (.reg false [⟨(some 70), .ixs 1 (.t 66) (.t 68), none, []⟩, ⟨(some 71), .load none (.t 70), none, [0]⟩, ⟨(some 14), .mv (.t 71), none, [1, 0, 1]⟩]) (.reg false [⟨(some 72), .mv (.t 12), none, []⟩, ⟨(some 73), .mv (.t 14), none, []⟩, ⟨(some 74), .len (.t 73), none, [1]⟩, ⟨(some 75), .bin .add (.t 72) (.t 74), none, [0, 2]⟩, ⟨(some 12), .mv (.t 75), none, [3, 0, 1, 2, 3]⟩]))) (.reg false [⟨(some 76), .bin .add (.t 68) (.v (.int .i64 1)), none, []⟩, ⟨(some 68), .mv (.t 76), none, [0]⟩])))))) (.seq (.reg false [⟨(some 77), .hal 78 (.lit 5 1 [] 0 []), none, []⟩, ⟨(some 78), .mv (.t 7), none, []⟩, ⟨(some 79), .hal 80 (.app 5 1 1 (.t 77) (.t 78)), none, [0, 1]⟩, ⟨(some 15), .mv (.t 79), none, [2, 2, 0, 1, 2]⟩]) (.seq (.reg false [⟨(some 80), .mv (.t 15), none, []⟩, ⟨(some 81), .mv (.t 12), none, []⟩, ⟨(some 82), .mv (.t 11), none, []⟩, ⟨(some 83), .bin .add (.t 81) (.t 82), none, [1, 2]⟩, ⟨(some 84), .ixs 1 (.t 80) (.t 83), none, [0, 3]⟩, ⟨(some 85), .load none (.t 84), none, [4]⟩, ⟨(some 86), .mv (.t 2), none, []⟩, ⟨(some 87), .bin .xor (.t 85) (.t 86), none, [5, 6]⟩, ⟨(some 88), .ixs 1 (.t 80) (.t 83), none, [0, 3, 0, 1, 2, 3, 4, 5, 6, 7]⟩, ⟨none, .store 1 (.t 88) (.t 87), none, [8, 7, 0, 1, 2, 3, 4, 5, 6, 7]⟩]) (.skip))))))
def pcz9A : PC := .seq (.reg false [⟨(some 3), .hal 4 (.box (.t 0)), none, []⟩, ⟨(some 4), .box (.t 1), none, []⟩, ⟨(some 6), .mv (.v (.bool false)), none, []⟩]) (.seq (.reg false [⟨(some 20), .call 10 [], none, []⟩, ⟨(some 21), .un .not (.t 20), none, [0]⟩]) (.seq (.cond (.t 21) (.seq (.reg false [⟨(some 6), .mv (.v (.bool false)), none, []⟩]) (.ret)) (.skip)) (.seq (.reg false [⟨(some 22), .load (some 3) (.t 3), none, []⟩, ⟨(some 23), .call 11 [(.t 22)], none, [0]⟩, ⟨(some 24), .mv (.t 23), none, [1, 1]⟩, ⟨(some 25), .mv (.t 2), (some (24, false)), [2]⟩, ⟨(some 26), .bin .eql (.t 25) (.v (.int .u8 0)), (some (24, false)), [3, 2]⟩, ⟨(some 27), .pick (.t 24) (.v (.bool true)) (.t 26), none, [2, 4]⟩]) (.seq (.cond (.t 27) (.seq (.reg false [⟨(some 6), .mv (.v (.bool true)), none, []⟩]) (.ret)) (.skip)) (.seq (.reg false [⟨(some 29), .load (some 3) (.t 3), none, []⟩, ⟨(some 30), .call 13 [(.t 29)], none, [0]⟩, ⟨(some 28), .mv (.t 30), none, [1]⟩, ⟨(some 31), .ext (.t 28) 0, none, [2]⟩, ⟨(some 32), .ext (.t 28) 1, none, [2]⟩, ⟨(some 7), .mv (.t 31), none, [3, 1, 0, 1, 2, 3]⟩, ⟨(some 8), .mv (.t 32), none, [4, 5, 0, 1, 2, 3, 4, 5]⟩]) (.seq (.reg false [⟨(some 33), .mv (.t 8), none, []⟩, ⟨(some 34), .bin .neq (.t 33) (.v (.int .i64 0)), none, [0]⟩]) (.seq (.cond (.t 34) (.seq (.reg false [⟨(some 6), .mv (.v (.bool true)), none, []⟩]) (.ret)) (.skip)) (.seq (.reg false [⟨(some 35), .load (some 3) (.t 3), none, []⟩, ⟨(some 36), .call 20 [(.t 35)], none, [0]⟩, ⟨(some 9), .mv (.t 36), none, [1, 1, 0, 1]⟩]) (.seq (.reg true [⟨(some 37), .ixa 2 1 (.t 4) (.v (.int .i64 0)), none, []⟩, ⟨(some 38), .load none (.t 37), none, [0]⟩, ⟨(some 39), .ixa 2 1 (.t 4) (.v (.int .i64 1)), none, []⟩, ⟨(some 40), .load none (.t 39), none, [2]⟩, ⟨(some 10), .mv (.t 38), none, [1, 0, 1]⟩, ⟨(some 11), .mv (.t 40), none, [3, 4, 0, 1, 2, 3, 4]⟩]) (.seq (.reg false [⟨(some 41), .mv (.t 10), none, []⟩, ⟨(some 42), .bin .lss (.t 41) (.v (.int .i64 0)), none, [0]⟩, ⟨(some 43), .mv (.t 42), none, [1]⟩, ⟨(some 44), .mv (.t 10), (some (43, false)), [2]⟩, ⟨(some 45), .mv (.t 9), (some (43, false)), [2]⟩, ⟨(some 46), .len (.t 45), (some (43, false)), [4, 2]⟩, ⟨(some 47), .bin .geq (.t 44) (.t 46), (some (43, false)), [3, 5, 2]⟩, ⟨(some 48), .pick (.t 43) (.v (.bool true)) (.t 47), none, [2, 6]⟩, ⟨(some 49), .mv (.t 48), none, [7, 2]⟩, ⟨(some 50), .mv (.t 11), (some (49, false)), [8]⟩, ⟨(some 51), .bin .lss (.t 50) (.v (.int .i64 4)), (some (49, false)), [9, 8]⟩, ⟨(some 52), .pick (.t 49) (.v (.bool true)) (.t 51), none, [8, 10]⟩, ⟨(some 53), .mv (.t 52), none, [11, 8]⟩, ⟨(some 54), .mv (.t 11), (some (53, false)), [12]⟩, ⟨(some 55), .mv (.t 9), (some (53, false)), [12]⟩, ⟨(some 56), .mv (.t 10), (some (53, false)), [12]⟩, ⟨(some 57), .ixs 1 (.t 55) (.t 56), (some (53, false)), [14, 15, 12]⟩, ⟨(some 58), .load none (.t 57), (some (53, false)), [16, 12]⟩, ⟨(some 59), .len (.t 58), (some (53, false)), [17, 12]⟩, ⟨(some 60), .bin .geq (.t 54) (.t 59), (some (53, false)), [13, 18, 12]⟩, ⟨(some 61), .pick (.t 53) (.v (.bool true)) (.t 60), none, [12, 19]⟩]) (pcz9Ac0)))))))))))
abbrev msz9A_0 : List Nat := [69, 70, 71, 14, 72, 73, 74, 75, 12, 76, 68]
abbrev osz9A_0 : List Nat := []
def flz9A : List (Nat × List Bool) := [(5000003, List.replicate 1 false), (5000077, List.replicate 1 false), (5000079, List.replicate 1 false)]
theorem cpz9A:bD Try.prog Try.f9.ntmps (fJ ++ flz9A) (lH (((bW (Try.f9.body.getD .skip)).drop 0).take 17))=some pcz9A:=by kernel_rfl
def pcz9B : PC := .seq (.reg false [⟨(some 90), .mv (.t 15), none, []⟩, ⟨(some 91), .call 18 [(.t 90)], none, [0]⟩, ⟨(some 89), .mv (.t 91), none, [1]⟩, ⟨(some 92), .ext (.t 89) 0, none, [2]⟩, ⟨(some 93), .ext (.t 89) 1, none, [2]⟩, ⟨(some 16), .new [(.slice none 0 0), (.slice none 0 0), (.slice none 0 0)], none, []⟩, ⟨none, .store 3 (.t 16) (.t 92), none, [5, 3, 1, 0, 1, 2, 3, 5]⟩, ⟨(some 17), .mv (.t 93), none, [4, 6, 0, 1, 2, 3, 4, 5, 6]⟩]) (.seq (.reg false [⟨(some 95), .mv (.t 15), none, []⟩, ⟨(some 96), .call 14 [(.t 95)], none, [0]⟩, ⟨(some 94), .mv (.t 96), none, [1]⟩, ⟨(some 97), .ext (.t 94) 0, none, [2]⟩, ⟨(some 98), .ext (.t 94) 1, none, [2]⟩, ⟨(some 18), .new [(.slice none 0 0), (.slice none 0 0), (.slice none 0 0)], none, []⟩, ⟨none, .store 3 (.t 18) (.t 97), none, [5, 3, 1, 0, 1, 2, 3, 5]⟩, ⟨(some 19), .mv (.t 98), none, [4, 6, 0, 1, 2, 3, 4, 5, 6]⟩]) (.seq (.reg false [⟨(some 99), .mv (.t 17), none, []⟩, ⟨(some 100), .bin .eql (.t 99) (.v (.int .i64 9)), none, [0]⟩, ⟨(some 101), .mv (.t 100), none, [1]⟩, ⟨(some 102), .mv (.t 19), (some (101, true)), [2]⟩, ⟨(some 103), .mv (.t 12), (some (101, true)), [2]⟩, ⟨(some 104), .bin .eql (.t 102) (.t 103), (some (101, true)), [3, 4, 2]⟩, ⟨(some 105), .pick (.t 101) (.t 104) (.v (.bool false)), none, [2, 5]⟩, ⟨(some 106), .mv (.t 105), none, [6, 2]⟩, ⟨(some 107), .fld 0 (.t 18), (some (106, true)), [7]⟩, ⟨(some 108), .load none (.t 107), (some (106, true)), [8, 7]⟩, ⟨(some 109), .len (.t 108), (some (106, true)), [9, 7]⟩, ⟨(some 110), .mv (.t 10), (some (106, true)), [7]⟩, ⟨(some 111), .bin .mul (.v (.int .i64 16)) (.t 110), (some (106, true)), [11, 7]⟩, ⟨(some 112), .fld 0 (.t 3), (some (106, true)), [7]⟩, ⟨(some 113), .load none (.t 112), (some (106, true)), [13, 7]⟩, ⟨(some 114), .len (.t 113), (some (106, true)), [14, 7]⟩, ⟨(some 115), .mm false [(.t 111), (.t 114)], (some (106, true)), [12, 15, 7]⟩, ⟨(some 116), .bin .eql (.t 109) (.t 115), (some (106, true)), [10, 16, 7]⟩, ⟨(some 117), .pick (.t 106) (.t 116) (.v (.bool false)), none, [7, 17]⟩, ⟨(some 6), .mv (.t 117), none, [18, 7, 0, 1, 2, 3, 4, 5, 6, 7, 8, 9, 10, 11, 12, 13, 14, 15, 16, 17, 18]⟩]) (.seq (.ret) (.skip))))
def flz9B : List (Nat × List Bool) := []
theorem cpz9B:bD Try.prog Try.f9.ntmps (fJ ++ flz9B) (lH (((bW (Try.f9.body.getD .skip)).drop 17).take 4))=some pcz9B:=by kernel_rfl
end Go.Proofs.Ytkafcpnahpfbfaa
end
section
namespace Go.Proofs.Ytkafcpnahpfbfaa
open Go Go.RowKit
set_option maxRecDepth 1000000
set_option maxHeartbeats 4000000
theorem x8 {m n:Nat} (hm:m≤255) (hn:n≤255):IntKind.u8.wrap ((BitVec.ofInt IntKind.u8.bits (m:Int) ^^^ BitVec.ofInt IntKind.u8.bits (n:Int)).toNat:Int)=((m ^^^ n:Nat):Int):=by
 have e:(BitVec.ofInt IntKind.u8.bits (m:Int) ^^^ BitVec.ofInt IntKind.u8.bits (n:Int)).toNat=m ^^^ n:=by
  rw [BitVec.toNat_xor,BitVec.toNat_ofInt,BitVec.toNat_ofInt]
  congr 1
  ·show ((m:Int) % ((2 ^ IntKind.u8.bits:Nat):Int)).toNat=m
   rw [show ((2 ^ IntKind.u8.bits:Nat):Int)=256 from by decide];omega
  ·show ((n:Int) % ((2 ^ IntKind.u8.bits:Nat):Int)).toNat=n
   rw [show ((2 ^ IntKind.u8.bits:Nat):Int)=256 from by decide];omega
 have:=Nat.xor_lt_two_pow (x:=m) (y:=n) (n:=8) (by omega) (by omega);rw [e,w8m,Nat.mod_eq_of_lt this]
theorem Ug {x g:Nat} (hx:x≤255) (hg:0 < g∧g≤255):x ^^^ g≤255∧x ^^^ g≠x:=by
 have:=Nat.xor_lt_two_pow (x:=x) (y:=g) (n:=8) (by omega) (by omega);refine ⟨by omega,fun q=>?_⟩;have:x ^^^ g=x ^^^ 0:=by rw [q,Nat.xor_zero]
 have:=BI this;omega
theorem NM {es:List Ev} {d:Dep} {j k x:Nat} {B:List Nat} (hB:(aZ d es)[j]? = some B) (hx:B[k]? = some x):(cu es d)[8+((aZ d es).take j).flatten.length+k]? = some x:=by
 have h8:bQ.length=8:=rfl;have hkB:=(List.getElem?_eq_some_iff.1 hx).1;obtain ⟨hjl,hBe⟩:=List.getElem?_eq_some_iff.1 hB;unfold cu;have:(aZ d es).flatten=((aZ d es).take j).flatten ++ ((aZ d es).drop j).flatten:=by rw [←List.flatten_append,List.take_append_drop]
 rw [this,List.drop_eq_getElem_cons hjl,hBe,List.flatten_cons,List.getElem?_append_right (by omega),List.getElem?_append_right (by omega),List.getElem?_append_left (by omega),←hx]
 congr 1
 omega
structure MW (es:List Ev) (d:Dep) (F:List Nat) (j k g fr x:Nat) (u:List Ev) (dd:Dep):Prop where
 fr_:fr=8+((aZ d es).take j).flatten.length
 at_:F[fr+k]? = some x
 x_:x≤255
 y_:x ^^^ g≤255
 dec:yY (kE (F.set (fr+k) (x ^^^ g)))=[iA [] ⟨[],[]⟩,pI (9:Nat)]
 rec_:zn (F.set (fr+k) (x ^^^ g)) (kE (F.set (fr+k) (x ^^^ g)))=[iA u dd,pI (fr:Nat)]
 u_:u.length=min (16 * j) es.length
 l_:fr≤200000∧j≤6
 b_:∀ z ∈ F.set (fr+k) (x ^^^ g),z≤255
 n_:(F.set (fr+k) (x ^^^ g)).length≤200000
theorem Gf {es:List Ev} {d:Dep} (hS:dQ es d) (l1:es.length≤80) (l2:d.st.length≤60) {j k g:Nat} {B:List Nat} (hB:(aZ d es)[j]? = some B) (h4:4≤k) (hk:k < B.length) (hg:0 < g∧g≤255):∃ (fr x:Nat) (u:List Ev) (dd:Dep),MW es d (cu es d) j k g fr x u dd:=by
 have ok:=hS.ok (by omega) (by omega);have hfb:=Dw ok;have hfl:=wV ok l1;obtain ⟨x,hx⟩:∃ x,B[k]? = some x:=⟨_,List.getElem?_eq_getElem hk⟩
 have hat:=NM hB hx;have hx8:=hfb x (List.mem_of_getElem? hat);obtain ⟨y1,y2⟩:=Ug hx8 hg;obtain ⟨r,h1,h2⟩:=KN hS (by omega) (by omega) hB h4 hx y1 y2;have hj:=(wL hB).1;have hlt:=(List.getElem?_eq_some_iff.1 hat).1;refine ⟨_,x,es.take (16 * j),(stW d es j).d,rfl,hat,hx8,y1,?_,?_,List.length_take,⟨by omega,by unfold dW at hj;omega⟩,fun z hz=>?_,by rw [List.length_set];exact hfl⟩
 ·rw [h1];rfl
 ·rw [h1];unfold zn;dsimp only;rw [List.length_set,show (cu es d).length - r.length=8+((aZ d es).take j).flatten.length by omega];rfl
 ·rcases List.mem_or_eq_of_mem_set hz with q | q
  ·exact hfb z q
  ·omega
def ncD:Nat→Nat:=fun n=>if n=0 then 4 else 78
noncomputable def oC:Env:=e1 10 Py (e1 11 TJ (e1 13 LG (e1 20 qo (e1 21 LJ e0))))
theorem Gl:aA Try.prog oC:=aA.e1 TB (aA.e1 Ud (aA.e1 RI (aA.e1 vO (aA.e1 RQ aA.e0))))
noncomputable def ET:Env:=e1 18 LP (e1 14 LU e0)
theorem Gm:aA Try.prog ET:=aA.e1 RV (aA.e1 RZ aA.e0)
structure DmS (es:List Ev) (d:Dep) (T:St) (j fr:Nat) (G:List Nat):Prop where
 t3:T.sl 3=.b (.one (.hv (.p 0 0)))
 t10:T.sl 10=aI (j:Int)
 t12:T.sl 12=aI (fr:Int)
 t15:T.sl 15=.b (.one (.hv (.v 2)))
 h0:T.hb 0=.cells ((cK es d).map .d)
 h2:T.hb 2=.vec 5 1 (byR G)
 ho:∀ b,b≠0→b≠2→T.hb b=.no∨T.hb b=.dead
theorem Jk {es:List Ev} {d:Dep} {x y:Int} {g:Nat} (hS:dQ es d) (l1:es.length≤80) (l2:d.st.length≤60) (hg:0 < g∧g≤255) {Q:Exit→St→Prop} (hret:∀ T:St,T.sl 6=aB true→Q .ret T)
 (hnorm:∀ (T:St) (j k fr x:Nat) (u:List Ev) (dd:Dep),MW es d (cu es d) j k g fr x u dd→DmS es d T j fr ((cu es d).set (fr+k) (x ^^^ g))→Q .normal T)
 {j k:Nat} {B:List Nat} (hB:(aZ d es)[j]? = some B) (h4:4≤k) (hk:k < B.length)
 {st:St} (i2:st.sl 2=.b (.one (.d (.sc (.int .u8 (g:Int)))))) (i3:st.sl 3=.b (.one (.hv (.p 0 0)))) (i7:st.sl 7=.b (.one (.d (.im (byR (cu es d)))))) (i9:st.sl 9=.b (.one (.d (.im (kG (aZ d es)))))) (i10:st.sl 10=aI (j:Int)) (i11:st.sl 11=aI (k:Int)) (i61:st.sl 61=aB false)
 (ih0:st.hb 0=.cells ((cK es d).map .d)) (ih:∀ b,b≠0→st.hb b=.no) (inc:st.nc=ncD) (ia:aH st):pwp oC pcz9Ac0 (exS oC [] Q) st:=by
 obtain ⟨fr,X,u,dd,hD⟩:=Gf hS l1 l2 hB h4 hk hg;have hDD:=hD;obtain ⟨f1,f2,f3,f4,f5,f6,f7,⟨f8,f8'⟩,f9,f10⟩:=hD;have ok:=hS.ok (by omega) (by omega);have hfl:=wV ok l1;obtain ⟨F,hF⟩:∃ F,cu es d=F:=⟨_,rfl⟩
 rw [hF] at hDD f2 f5 f6 f9 f10 hfl i7 hnorm;obtain ⟨L,hL⟩:∃ L,aZ d es=L:=⟨_,rfl⟩
 rw [hL] at hB f1 i9;have hLl:L.length≤6:=by rw [←hL,jv];unfold dW;omega
 have hjl:=(List.getElem?_eq_some_iff.1 hB).1;have hLb:=fun z hz=>kZ ok z (hL ▸ hz)
 have h8:(byR bQ).length=8:=rfl;have hbl:=jL L
 have hba:∀ r ∈ kG L,r.length=1:=fun r hr=>by
  unfold kG at hr;obtain ⟨z,_,rfl⟩:=List.mem_map.1 hr;rfl
 have hba':(∀ r ∈ kG L,r.length=1)=True:=eq_true hba;have s1:(j:Int)≤(L.length:Int):=by omega
 have s0:(0:Int)≤(j:Int):=by omega
 have htk:List.take j (kG L)=kG (L.take j):=by unfold kG;rw [List.map_take]
 have htl:=jL (L.take j);have htj:(L.take j).length=j:=by rw [List.length_take];omega
 rw [htj] at htl;have c0:ncD 0=4:=rfl;have c1:ncD 1=78:=rfl;have c2:ncD 2=78:=rfl;have ih1:=ih 1 (by decide);have ih2:=ih 2 (by decide);unfold pcz9Ac0;simp only [↓evP,evB,stB,reduceIte,reduceCtorEq,Nat.reduceEqDiff,Nat.reduceAdd,Nat.reduceMul,Nat.reduceLeDiff,Nat.reduceLT,Nat.reduceSub,Nat.reduceBEq,i61];refine aF [dL bQ] (by exact ⟨rfl,rfl⟩) ?_;have q0:(0:Int)≤0:=by decide
 have q4:Int.toNat 0=0:=rfl;simp only [↓evP,evB,stB,reduceIte,reduceCtorEq,Nat.reduceEqDiff,Nat.reduceAdd,Nat.reduceMul,Nat.reduceLeDiff,Nat.reduceLT,Nat.reduceSub,Nat.reduceBEq,dL,h8,i9,i10,hbl,hba',s0,s1,q0,q4,htk,htl,List.drop_zero];refine dA msz9A_0 osz9A_0 (fun m T=>∃ i:Nat,m=j - i∧i≤j∧T.sl 68=aI i∧T.sl 12=aI ((8+((L.take i).flatten).length:Nat):Int)∧T.hb=st.hb) j (by repeat' (first | exact aH.init | assumption | exact aN (by assumption) | (refine aH.ap ?_ rfl))) ?_ ?_
 ·exact ⟨0,rfl,Nat.zero_le _,by simp only [stB,reduceIte,reduceCtorEq,Nat.reduceEqDiff,Nat.reduceAdd,Nat.reduceMul,Nat.reduceLeDiff,Nat.reduceLT,Nat.reduceSub,Nat.reduceBEq];first | done | rfl,by simp only [stB,reduceIte,reduceCtorEq,Nat.reduceEqDiff,Nat.reduceAdd,Nat.reduceMul,Nat.reduceLeDiff,Nat.reduceLT,Nat.reduceSub,Nat.reduceBEq];first | done | rfl,by simp only [stB,reduceIte,reduceCtorEq,Nat.reduceEqDiff,Nat.reduceAdd,Nat.reduceMul,Nat.reduceLeDiff,Nat.reduceLT,Nat.reduceSub,Nat.reduceBEq]⟩
 rintro m z hzn hza ⟨i,rfl,hi,h68,h12,hzb⟩;simp only [stB,reduceIte,reduceCtorEq,Nat.reduceEqDiff,Nat.reduceAdd,Nat.reduceMul,Nat.reduceLeDiff,Nat.reduceLT,Nat.reduceSub,Nat.reduceBEq,hzn] at h68 h12 hzb;obtain ⟨sz,hsz⟩:∃ sz,8+((L.take i).flatten).length=sz:=⟨_,rfl⟩
 rw [hsz] at h12
 rcases Nat.lt_or_ge i j with hij | hij
 ·have gi:(i:Int) < (j:Int):=by omega
  have gi0:(0:Int)≤(i:Int):=by omega
  have gx:L[i]? = some (L[i]'(by omega)):=List.getElem?_eq_getElem (by omega);generalize L[i]'(by omega)=Y at gx;have gt:(L.take j)[i]? = some Y:=by rw [List.getElem?_take_of_lt hij];exact gx
  have gr:(kG (L.take j))[i]? = some [.im (byR Y)]:=by unfold kG;rw [List.getElem?_map,gt];rfl
  have hYl:=aV Y;have hYb:=hLb Y (List.mem_of_getElem? gx)
  have hnx:8+((L.take (i+1)).flatten).length=sz+Y.length:=by
   rw [take_at gx,List.flatten_append,List.length_append];simp only [List.flatten_cons,List.flatten_nil,List.append_nil];omega
  have hle:((L.take i).flatten).length≤30014 * 6:=by
   have q1:=qD (l:=L.take i) (c:=30014) fun b q=>hLb b (List.mem_of_mem_take q)
   have q2:(L.take i).length≤6:=by rw [List.length_take];omega
   have:=Nat.mul_le_mul_left 30014 q2;omega
  have wsz:IntKind.i64.wrap ((sz:Int)+(Y.length:Int))=((sz+Y.length:Nat):Int):=by rw [dP (by omega) (by omega)];omega
  have wi:IntKind.i64.wrap ((i:Int)+1)=((i+1:Nat):Int):=by rw [dP (by omega) (by omega)];omega
  simp only [↓evP,evB,stB,reduceIte,reduceCtorEq,Nat.reduceEqDiff,Nat.reduceAdd,Nat.reduceMul,Nat.reduceLeDiff,Nat.reduceLT,Nat.reduceSub,Nat.reduceBEq,h68,h12,gi,gi0,htl,gr,hYl,wsz,wi,decide_true]
  exact ⟨_,by omega,(by repeat' (first | assumption | exact aP (by assumption) | (refine aJ ?_ rfl rfl) | (refine aD ?_ rfl) | (refine aJ ?_ rfl aK) | (refine aD ?_ aK) | (refine bV.in' ?_ (aP (by assumption)) rfl rfl))),i+1,rfl,hij,by simp only [stB,reduceIte,reduceCtorEq,Nat.reduceEqDiff,Nat.reduceAdd,Nat.reduceMul,Nat.reduceLeDiff,Nat.reduceLT,Nat.reduceSub,Nat.reduceBEq],by simp only [stB,reduceIte,reduceCtorEq,Nat.reduceEqDiff,Nat.reduceAdd,Nat.reduceMul,Nat.reduceLeDiff,Nat.reduceLT,Nat.reduceSub,Nat.reduceBEq];rw [hnx],by simp only [stB,reduceIte,reduceCtorEq,Nat.reduceEqDiff,Nat.reduceAdd,Nat.reduceMul,Nat.reduceLeDiff,Nat.reduceLT,Nat.reduceSub,Nat.reduceBEq,hzn,hzb]⟩
 ·have hji:i=j:=by omega
  subst hji;have gi:¬ ((i:Int) < (i:Int)):=by omega
  rw [←f1] at hsz;subst hsz;have hFl:=aV F;have hFa:∀ r ∈ byR F,r.length=1:=of_eq_true (dR F)
  have hzb0:z.hb 0=.cells ((cK es d).map .d):=by rw [hzb];exact ih0
  have hzb1:z.hb 1=.no:=by rw [hzb];exact ih1
  have hzb2:z.hb 2=.no:=by rw [hzb];exact ih2
  simp only [↓evP,evB,stB,reduceIte,reduceCtorEq,Nat.reduceEqDiff,Nat.reduceAdd,Nat.reduceMul,Nat.reduceLeDiff,Nat.reduceLT,Nat.reduceSub,Nat.reduceBEq,h68,h12,i7,gi,decide_false]
  refine AX 1 (dU (by simp only [stB,reduceIte,reduceCtorEq,Nat.reduceEqDiff,Nat.reduceAdd,Nat.reduceMul,Nat.reduceLeDiff,Nat.reduceLT,Nat.reduceSub,Nat.reduceBEq,hzn,inc,c1]) (by repeat' (first | with_reducible exact aN hza | (refine aH.ap ?_ rfl))) (by simp only [stB,reduceIte,reduceCtorEq,Nat.reduceEqDiff,Nat.reduceAdd,Nat.reduceMul,Nat.reduceLeDiff,Nat.reduceLT,Nat.reduceSub,Nat.reduceBEq,hzn,inc,hzb1])) rfl rfl rfl ?_;simp only [↓evP,evB,stB,reduceIte,reduceCtorEq,Nat.reduceEqDiff,Nat.reduceAdd,Nat.reduceMul,Nat.reduceLeDiff,Nat.reduceLT,Nat.reduceSub,Nat.reduceBEq,h68,h12,i7,hzn,inc,c1]
  refine J2 (a:=1) (rows:=[]) (news:=byR F) 2 (dU (by simp only [stB,reduceIte,reduceCtorEq,Nat.reduceEqDiff,Nat.reduceAdd,Nat.reduceMul,Nat.reduceLeDiff,Nat.reduceLT,Nat.reduceSub,Nat.reduceBEq,hzn,inc,c1,c2]) (by repeat' (first | with_reducible exact aN hza | (refine aH.ap ?_ rfl))) (by simp only [stB,reduceIte,reduceCtorEq,Nat.reduceEqDiff,Nat.reduceAdd,Nat.reduceMul,Nat.reduceLeDiff,Nat.reduceLT,Nat.reduceSub,Nat.reduceBEq,hzn,inc,c1,hzb2])) (by simp only [stB,reduceIte,reduceCtorEq,Nat.reduceEqDiff,Nat.reduceAdd,Nat.reduceMul,Nat.reduceLeDiff,Nat.reduceLT,Nat.reduceSub,Nat.reduceBEq]) (by simp only [stB,reduceIte,reduceCtorEq,Nat.reduceEqDiff,Nat.reduceAdd,Nat.reduceMul,Nat.reduceLeDiff,Nat.reduceLT,Nat.reduceSub,Nat.reduceBEq,hzn,inc,c1];first | done | rfl) (by simp only [stB,reduceIte,reduceCtorEq,Nat.reduceEqDiff,Nat.reduceAdd,Nat.reduceMul,Nat.reduceLeDiff,Nat.reduceLT,Nat.reduceSub,Nat.reduceBEq,i7];first | done | rfl) ⟨hFa,by rw [hFl];show 0+_≤_;omega,by decide⟩ ?_
  have hlt:=(List.getElem?_eq_some_iff.1 f2).1;have wfk:IntKind.i64.wrap ((fr:Int)+(k:Int))=((fr+k:Nat):Int):=by rw [dP (by omega) (by omega)];omega
  have fk0:(0:Int)≤((fr+k:Nat):Int):=by omega
  have fk1:((fr+k:Nat):Int) < (F.length:Int):=by omega
  have fk2:fr+k < F.length:=hlt;obtain ⟨FL,hFL⟩:∃ FL,(byR F).flatten=FL:=⟨_,rfl⟩
  have gFL:FL[fr+k]? = some (.sc (.int .u8 (X:Int))):=by
   have gen:∀ l:List Nat,(byR l).flatten=l.map fun z:Nat=>Dt.sc (.int .u8 (z:Int)):=fun l=>by
    induction l with
    | nil=>rfl
    | cons a l ih=>show Dt.sc (.int .u8 (a:Int)) :: (byR l).flatten=_;rw [ih];rfl
   rw [←hFL,gen,List.getElem?_map,f2];rfl
  have wx:=x8 f3 hg.2;have hset:(byR F).set (fr+k) [.sc (.int .u8 ((X ^^^ g:Nat):Int))]=byR (F.set (fr+k) (X ^^^ g)):=by unfold byR;rw [List.map_set]
  simp only [↓evP,evB,stB,reduceIte,reduceCtorEq,Nat.reduceEqDiff,Nat.reduceAdd,Nat.reduceMul,Nat.reduceLeDiff,Nat.reduceLT,Nat.reduceSub,Nat.reduceBEq,h68,h12,i2,i7,i11,hzn,inc,c1,c2,hFl,hFL,gFL,wfk,fk0,fk1,fk2,wx,hset,List.nil_append,Nat.mul_one,decide_true]
  refine hnorm _ i k fr X u dd hDD ⟨by simp only [stB,reduceIte,reduceCtorEq,Nat.reduceEqDiff,Nat.reduceAdd,Nat.reduceMul,Nat.reduceLeDiff,Nat.reduceLT,Nat.reduceSub,Nat.reduceBEq,i3],by simp only [stB,reduceIte,reduceCtorEq,Nat.reduceEqDiff,Nat.reduceAdd,Nat.reduceMul,Nat.reduceLeDiff,Nat.reduceLT,Nat.reduceSub,Nat.reduceBEq,i10],by simp only [stB,reduceIte,reduceCtorEq,Nat.reduceEqDiff,Nat.reduceAdd,Nat.reduceMul,Nat.reduceLeDiff,Nat.reduceLT,Nat.reduceSub,Nat.reduceBEq,h12],by simp only [stB,reduceIte,reduceCtorEq,Nat.reduceEqDiff,Nat.reduceAdd,Nat.reduceMul,Nat.reduceLeDiff,Nat.reduceLT,Nat.reduceSub,Nat.reduceBEq],?_,?_,fun b b0 b2=>?_⟩
  ·simp only [stB,reduceIte,reduceCtorEq,Nat.reduceEqDiff,Nat.reduceAdd,Nat.reduceMul,Nat.reduceLeDiff,Nat.reduceLT,Nat.reduceSub,Nat.reduceBEq,hzn,inc,c1,c2]
   first | exact hzb0 | (trace_state;exact hzb0)
  ·simp only [stB,reduceIte,reduceCtorEq,Nat.reduceEqDiff,Nat.reduceAdd,Nat.reduceMul,Nat.reduceLeDiff,Nat.reduceLT,Nat.reduceSub,Nat.reduceBEq,hzn,inc,c1,c2]
   first | done | rfl
  ·by_cases b1:b=1
   ·subst b1;right;simp only [stB,reduceIte,reduceCtorEq,Nat.reduceEqDiff,Nat.reduceAdd,Nat.reduceMul,Nat.reduceLeDiff,Nat.reduceLT,Nat.reduceSub,Nat.reduceBEq,hzn,inc,c1,c2]
    first | done | rfl
   ·left;simp only [stB,reduceIte,reduceCtorEq,Nat.reduceEqDiff,Nat.reduceAdd,Nat.reduceMul,Nat.reduceLeDiff,Nat.reduceLT,Nat.reduceSub,Nat.reduceBEq,hzn,inc,c1,c2,b1,b2];rw [hzb];exact ih b b0
def slD (es:List Ev) (d:Dep) (x y:Int) (g:Nat):Nat→Av:=fun n=>if n=0 then .b (kI (iA es d)).bv else if n=1 then .b (.agg [.d (dI x),.d (dI y)]) else if n=2 then .b (.one (.d (.sc (.int .u8 (g:Int))))) else .un
theorem dmA {es:List Ev} {d:Dep} {x y:Int} {g:Nat} (hg:g≤255) {Q:Exit→St→Prop} (hret:∀ T:St,T.sl 6=aB true→Q .ret T)
 (hnorm:∀ (T:St) (j k fr X:Nat) (u:List Ev) (dd:Dep),dQ es d→es.length≤80→MW es d (cu es d) j k g fr X u dd→DmS es d T j fr ((cu es d).set (fr+k) (X ^^^ g))→Q .normal T):pwp oC pcz9A Q (St.kC ncD (fun _=>.no) (slD es d x y g)):=by
 obtain ⟨I,hI⟩:∃ I,St.kC ncD (fun _=>.no) (slD es d x y g)=I:=⟨_,rfl⟩
 have i0:I.sl 0=.b (kI (iA es d)).bv:=by rw [←hI];rfl
 have i1:I.sl 1=.b (.agg [.d (dI x),.d (dI y)]):=by rw [←hI];rfl
 have i2:I.sl 2=.b (.one (.d (.sc (.int .u8 (g:Int))))):=by rw [←hI];rfl
 have ih:I.hb=fun _=>.no:=by rw [←hI];exact jN _ _ _
 have inc:I.nc=ncD:=by rw [←hI];rfl
 have ia:aH I:=by rw [←hI];exact nM
 rw [hI];clear hI;simp only [kI,iA,cK,Hw.bv,List.map_cons,List.map_nil,Hc.cl] at i0;have c0:ncD 0=4:=rfl;unfold pcz9A
 with_reducible refine aQ ?_
 simp only [↓evP,evB,stB,reduceIte,reduceCtorEq,Nat.reduceEqDiff,Nat.reduceAdd,Nat.reduceMul,Nat.reduceLeDiff,Nat.reduceLT,Nat.reduceSub,Nat.reduceBEq,i0,i1,i2]
 refine mY (cs:=(cK es d).map .d) (hs:=(cK es d).map .d) 0 (dU (by simp only [stB,reduceIte,reduceCtorEq,Nat.reduceEqDiff,Nat.reduceAdd,Nat.reduceMul,Nat.reduceLeDiff,Nat.reduceLT,Nat.reduceSub,Nat.reduceBEq,inc,c0]) (by repeat' (first | exact aH.init | assumption | exact aN (by assumption) | (refine aH.ap ?_ rfl))) (by simp only [stB,reduceIte,reduceCtorEq,Nat.reduceEqDiff,Nat.reduceAdd,Nat.reduceMul,Nat.reduceLeDiff,Nat.reduceLT,Nat.reduceSub,Nat.reduceBEq,ih])) (by simp only [stB,reduceIte,reduceCtorEq,Nat.reduceEqDiff,Nat.reduceAdd,Nat.reduceMul,Nat.reduceLeDiff,Nat.reduceLT,Nat.reduceSub,Nat.reduceBEq,i0,cK,List.map_cons,List.map_nil];first | done | rfl) (by simp only [cK,List.map_cons,List.map_nil];first | done | rfl) ?_
 simp only [↓evP,evB,stB,reduceIte,reduceCtorEq,Nat.reduceEqDiff,Nat.reduceAdd,Nat.reduceMul,Nat.reduceLeDiff,Nat.reduceLT,Nat.reduceSub,Nat.reduceBEq,i0,i1,i2,ih,inc,c0,cK,List.map_cons,List.map_nil];refine aF [pB true] (by exact ⟨rfl,rfl⟩) ?_;simp only [↓evP,evB,stB,reduceIte,reduceCtorEq,Nat.reduceEqDiff,Nat.reduceAdd,Nat.reduceMul,Nat.reduceLeDiff,Nat.reduceLT,Nat.reduceSub,Nat.reduceBEq,i0,i1,i2,ih,inc,c0,cK,List.map_cons,List.map_nil];refine aF [pB (lgB es d)] (by exact ⟨es,d,rfl,rfl⟩) ?_
 cases hlg:lgB es d with
 | true =>
   simp only [↓evP,evB,stB,reduceIte,reduceCtorEq,Nat.reduceEqDiff,Nat.reduceAdd,Nat.reduceMul,Nat.reduceLeDiff,Nat.reduceLT,Nat.reduceSub,Nat.reduceBEq,i0,i1,i2,ih,inc,c0];exact hret _ (by simp only [stB,reduceIte,reduceCtorEq,Nat.reduceEqDiff,Nat.reduceAdd,Nat.reduceMul,Nat.reduceLeDiff,Nat.reduceLT,Nat.reduceSub,Nat.reduceBEq])
 | false =>
 obtain ⟨l1,l2,l3⟩:=SX hlg
 by_cases hg0:g=0
 ·have e1:((g:Int) == 0)=true:=by rw [hg0];rfl
  simp only [↓evP,evB,stB,reduceIte,reduceCtorEq,Nat.reduceEqDiff,Nat.reduceAdd,Nat.reduceMul,Nat.reduceLeDiff,Nat.reduceLT,Nat.reduceSub,Nat.reduceBEq,i0,i1,i2,ih,inc,c0,e1];exact hret _ (by simp only [stB,reduceIte,reduceCtorEq,Nat.reduceEqDiff,Nat.reduceAdd,Nat.reduceMul,Nat.reduceLeDiff,Nat.reduceLT,Nat.reduceSub,Nat.reduceBEq])
 have e1:((g:Int) == 0)=false:=by rw [beq_eq_false_iff_ne];omega
 by_cases hS:¬ dQ es d
 ·have henc:=uZ hS;have e2:((1:Int) != 0)=true:=rfl;simp only [↓evP,evB,stB,reduceIte,reduceCtorEq,Nat.reduceEqDiff,Nat.reduceAdd,Nat.reduceMul,Nat.reduceLeDiff,Nat.reduceLT,Nat.reduceSub,Nat.reduceBEq,i0,i1,i2,ih,inc,c0,e1];refine aF [dL [],pI 1] (by exact ⟨es,d,rfl,⟨by omega,by omega,by omega⟩,henc.symm⟩) ?_;simp only [↓evP,evB,stB,reduceIte,reduceCtorEq,Nat.reduceEqDiff,Nat.reduceAdd,Nat.reduceMul,Nat.reduceLeDiff,Nat.reduceLT,Nat.reduceSub,Nat.reduceBEq,e2];exact hret _ (by simp only [stB,reduceIte,reduceCtorEq,Nat.reduceEqDiff,Nat.reduceAdd,Nat.reduceMul,Nat.reduceLeDiff,Nat.reduceLT,Nat.reduceSub,Nat.reduceBEq])
 have hS:dQ es d:=Classical.not_not.1 hS;have ok:=hS.ok (by omega) (by omega);have henc:=kV hS;have e2:((0:Int) != 0)=false:=rfl;have hbl:=jL (aZ d es);simp only [↓evP,evB,stB,reduceIte,reduceCtorEq,Nat.reduceEqDiff,Nat.reduceAdd,Nat.reduceMul,Nat.reduceLeDiff,Nat.reduceLT,Nat.reduceSub,Nat.reduceBEq,i0,i1,i2,ih,inc,c0,e1];refine aF [dL (cu es d),pI 0] (by exact ⟨es,d,rfl,⟨by omega,by omega,by omega⟩,henc.symm⟩) ?_;simp only [↓evP,evB,stB,reduceIte,reduceCtorEq,Nat.reduceEqDiff,Nat.reduceAdd,Nat.reduceMul,Nat.reduceLeDiff,Nat.reduceLT,Nat.reduceSub,Nat.reduceBEq,dL,e2,ih,inc,c0];refine aF [.one (.im (kG (aZ d es)))] (by exact ⟨es,d,rfl,ok,rfl⟩) ?_;have q0:(0:Int)≤0:=by decide
 have q1:(0:Int)≤1:=by decide
 have q2:(0:Int) < ((2:Nat):Int):=by decide
 have q3:(1:Int) < ((2:Nat):Int):=by decide
 have q4:Int.toNat 0=0:=rfl;have q5:Int.toNat 1=1:=rfl;obtain ⟨K,hK⟩:∃ K,pcz9Ac0=K:=⟨_,rfl⟩
 have hrest:=fun j k B=>Jk (x:=x) (y:=y) hS l1 l2 ⟨by omega,hg⟩ hret (fun T j k fr X u dd h1 h2=>hnorm T j k fr X u dd hS l1 h1 h2) (j:=j) (k:=k) (B:=B)
 have hout:∀ T:St,T.sl 61=aB true→pwp oC K (exS oC [] Q) T:=fun T h61=>by
  rw [←hK];unfold pcz9Ac0;simp only [↓evP,evB,stB,reduceIte,reduceCtorEq,Nat.reduceEqDiff,Nat.reduceAdd,Nat.reduceMul,Nat.reduceLeDiff,Nat.reduceLT,Nat.reduceSub,Nat.reduceBEq,h61];exact hret _ (by simp only [stB,reduceIte,reduceCtorEq,Nat.reduceEqDiff,Nat.reduceAdd,Nat.reduceMul,Nat.reduceLeDiff,Nat.reduceLT,Nat.reduceSub,Nat.reduceBEq])
 rw [hK] at hrest ⊢
 by_cases x0:x < 0
 ·simp only [↓evP,evB,stB,reduceIte,reduceCtorEq,Nat.reduceEqDiff,Nat.reduceAdd,Nat.reduceMul,Nat.reduceLeDiff,Nat.reduceLT,Nat.reduceSub,Nat.reduceBEq,i1,q0,q1,q2,q3,q4,q5,x0,decide_true];refine ⟨(by unfold Drw;refine Eq.trans (b:=true) ?_ rfl;kernel_rfl),?_⟩
  exact hout _ (by simp only [stB,reduceIte,reduceCtorEq,Nat.reduceEqDiff,Nat.reduceAdd,Nat.reduceMul,Nat.reduceLeDiff,Nat.reduceLT,Nat.reduceSub,Nat.reduceBEq])
 by_cases x1:x≥((aZ d es).length:Int)
 ·simp only [↓evP,evB,stB,reduceIte,reduceCtorEq,Nat.reduceEqDiff,Nat.reduceAdd,Nat.reduceMul,Nat.reduceLeDiff,Nat.reduceLT,Nat.reduceSub,Nat.reduceBEq,i1,q0,q1,q2,q3,q4,q5,x0,x1,hbl,decide_true,decide_false];refine ⟨(by unfold Drw;refine Eq.trans (b:=true) ?_ rfl;kernel_rfl),?_⟩
  exact hout _ (by simp only [stB,reduceIte,reduceCtorEq,Nat.reduceEqDiff,Nat.reduceAdd,Nat.reduceMul,Nat.reduceLeDiff,Nat.reduceLT,Nat.reduceSub,Nat.reduceBEq])
 by_cases y0:y < 4
 ·simp only [↓evP,evB,stB,reduceIte,reduceCtorEq,Nat.reduceEqDiff,Nat.reduceAdd,Nat.reduceMul,Nat.reduceLeDiff,Nat.reduceLT,Nat.reduceSub,Nat.reduceBEq,i1,q0,q1,q2,q3,q4,q5,x0,x1,y0,hbl,decide_true,decide_false];refine ⟨(by unfold Drw;refine Eq.trans (b:=true) ?_ rfl;kernel_rfl),?_⟩
  exact hout _ (by simp only [stB,reduceIte,reduceCtorEq,Nat.reduceEqDiff,Nat.reduceAdd,Nat.reduceMul,Nat.reduceLeDiff,Nat.reduceLT,Nat.reduceSub,Nat.reduceBEq])
 obtain ⟨j,rfl⟩:∃ j:Nat,x=(j:Int):=⟨x.toNat,by omega⟩
 obtain ⟨k,rfl⟩:∃ k:Nat,y=(k:Int):=⟨y.toNat,by omega⟩
 have hjl:j < (aZ d es).length:=by omega
 have gB:(aZ d es)[j]? = some ((aZ d es)[j]):=List.getElem?_eq_getElem hjl;generalize (aZ d es)[j]=B at gB;have gr:(kG (aZ d es))[j]? = some [.im (byR B)]:=by unfold kG;rw [List.getElem?_map,gB];rfl
 have hBl:=aV B;have j0:(0:Int)≤(j:Int):=by omega
 by_cases y1:(k:Int)≥(B.length:Int)
 ·simp only [↓evP,evB,stB,reduceIte,reduceCtorEq,Nat.reduceEqDiff,Nat.reduceAdd,Nat.reduceMul,Nat.reduceLeDiff,Nat.reduceLT,Nat.reduceSub,Nat.reduceBEq,i1,q0,q1,q2,q3,q4,q5,x0,x1,y0,y1,j0,gr,hBl,hbl,decide_true,decide_false];refine ⟨(by unfold Drw;refine Eq.trans (b:=true) ?_ rfl;kernel_rfl),?_⟩
  exact hout _ (by simp only [stB,reduceIte,reduceCtorEq,Nat.reduceEqDiff,Nat.reduceAdd,Nat.reduceMul,Nat.reduceLeDiff,Nat.reduceLT,Nat.reduceSub,Nat.reduceBEq])
 simp only [↓evP,evB,stB,reduceIte,reduceCtorEq,Nat.reduceEqDiff,Nat.reduceAdd,Nat.reduceMul,Nat.reduceLeDiff,Nat.reduceLT,Nat.reduceSub,Nat.reduceBEq,i1,q0,q1,q2,q3,q4,q5,x0,x1,y0,y1,j0,gr,hBl,hbl,decide_true,decide_false];refine ⟨(by unfold Drw;refine Eq.trans (b:=true) ?_ rfl;kernel_rfl),?_⟩
 refine hrest j k B gB (by omega) (by omega) (by simp only [stB,reduceIte,reduceCtorEq,Nat.reduceEqDiff,Nat.reduceAdd,Nat.reduceMul,Nat.reduceLeDiff,Nat.reduceLT,Nat.reduceSub,Nat.reduceBEq,i2]) (by simp only [stB,reduceIte,reduceCtorEq,Nat.reduceEqDiff,Nat.reduceAdd,Nat.reduceMul,Nat.reduceLeDiff,Nat.reduceLT,Nat.reduceSub,Nat.reduceBEq]) (by simp only [stB,reduceIte,reduceCtorEq,Nat.reduceEqDiff,Nat.reduceAdd,Nat.reduceMul,Nat.reduceLeDiff,Nat.reduceLT,Nat.reduceSub,Nat.reduceBEq]) (by simp only [stB,reduceIte,reduceCtorEq,Nat.reduceEqDiff,Nat.reduceAdd,Nat.reduceMul,Nat.reduceLeDiff,Nat.reduceLT,Nat.reduceSub,Nat.reduceBEq]) (by simp only [stB,reduceIte,reduceCtorEq,Nat.reduceEqDiff,Nat.reduceAdd,Nat.reduceMul,Nat.reduceLeDiff,Nat.reduceLT,Nat.reduceSub,Nat.reduceBEq]) (by simp only [stB,reduceIte,reduceCtorEq,Nat.reduceEqDiff,Nat.reduceAdd,Nat.reduceMul,Nat.reduceLeDiff,Nat.reduceLT,Nat.reduceSub,Nat.reduceBEq]) (by simp only [stB,reduceIte,reduceCtorEq,Nat.reduceEqDiff,Nat.reduceAdd,Nat.reduceMul,Nat.reduceLeDiff,Nat.reduceLT,Nat.reduceSub,Nat.reduceBEq]) ?_ (fun b hb=>?_) (by simp only [stB,reduceIte,reduceCtorEq,Nat.reduceEqDiff,Nat.reduceAdd,Nat.reduceMul,Nat.reduceLeDiff,Nat.reduceLT,Nat.reduceSub,Nat.reduceBEq,inc]) (by repeat' (first | exact aH.init | assumption | exact aN (by assumption) | (refine aH.ap ?_ rfl)))
 ·simp only [stB,reduceIte,reduceCtorEq,Nat.reduceEqDiff,Nat.reduceAdd,Nat.reduceMul,Nat.reduceLeDiff,Nat.reduceLT,Nat.reduceSub,Nat.reduceBEq,inc,c0,cK,List.map_cons,List.map_nil]
  first | done | rfl
 ·simp only [stB,reduceIte,reduceCtorEq,Nat.reduceEqDiff,Nat.reduceAdd,Nat.reduceMul,Nat.reduceLeDiff,Nat.reduceLT,Nat.reduceSub,Nat.reduceBEq,inc,c0,hb,ih]
theorem dmB {es:List Ev} {d:Dep} {j k g fr X:Nat} {u:List Ev} {dd:Dep} (l1:es.length≤80) (hD:MW es d (cu es d) j k g fr X u dd) {Q:Exit→St→Prop} (hret:∀ T:St,T.sl 6=aB true→Q .ret T)
 {st:St} (t3:st.sl 3=.b (.one (.hv (.p 0 0)))) (t10:st.sl 10=aI (j:Int)) (t12:st.sl 12=aI (fr:Int)) (t15:st.sl 15=.b (.one (.d (.im (byR ((cu es d).set (fr+k) (X ^^^ g))))))) (h0:st.hb 0=.cells ((cK es d).map .d)):pwp ET pcz9B Q st:=by
 obtain ⟨f1,f2,f3,f4,f5,f6,f7,⟨f8,f8'⟩,f9,f10⟩:=hD;obtain ⟨G,hG⟩:∃ G,(cu es d).set (fr+k) (X ^^^ g)=G:=⟨_,rfl⟩
 rw [hG] at f5 f6 f9 f10 t15;simp only [cK,List.map_cons,List.map_nil] at h0;have hul:(u.map Ev.row).length=u.length:=List.length_map ..;have hel:(es.map Ev.row).length=es.length:=List.length_map ..;have e9:(((9:Nat):Int) == 9)=true:=rfl;have ef:((fr:Int) == (fr:Int))=true:=beq_self_eq_true _;have eu:((u.length:Int) == (u.length:Int))=true:=beq_self_eq_true _;have wm:IntKind.i64.wrap (16 * (j:Int))=((16 * j:Nat):Int):=by rw [dP (by omega) (by omega)];omega
 have hmm:D6 false (.int .i64 ((16 * j:Nat):Int)) (.int .i64 (es.length:Int))=some (.int .i64 (u.length:Int)):=by
  rw [f7]
  show some (Value.int .i64 (if (es.length:Int) < ((16 * j:Nat):Int) then (es.length:Int) else ((16 * j:Nat):Int)))=_
  congr 2
  split <;> omega
 unfold pcz9B
 with_reducible refine aQ ?_
 simp only [↓evP,evB,stB,reduceIte,reduceCtorEq,Nat.reduceEqDiff,Nat.reduceAdd,Nat.reduceMul,Nat.reduceLeDiff,Nat.reduceLT,Nat.reduceSub,Nat.reduceBEq,t15];refine aF [iA [] ⟨[],[]⟩,pI (9:Nat)] (by exact ⟨G,rfl,⟨by omega,f9⟩,f5.symm⟩) ?_;simp only [↓evP,evB,stB,reduceIte,reduceCtorEq,Nat.reduceEqDiff,Nat.reduceAdd,Nat.reduceMul,Nat.reduceLeDiff,Nat.reduceLT,Nat.reduceSub,Nat.reduceBEq,t15,iA,cK,List.map_nil];refine aF [iA u dd,pI (fr:Nat)] (by exact ⟨G,rfl,⟨by omega,f9⟩,f6.symm⟩) ?_;simp only [↓evP,evB,stB,reduceIte,reduceCtorEq,Nat.reduceEqDiff,Nat.reduceAdd,Nat.reduceMul,Nat.reduceLeDiff,Nat.reduceLT,Nat.reduceSub,Nat.reduceBEq,t3,t10,t12,h0,iA,cK,List.map_nil,hul,hel,e9,ef,wm,List.foldl_cons,List.foldl_nil,hmm,eu]
 exact hret _ (by simp only [stB,reduceIte,reduceCtorEq,Nat.reduceEqDiff,Nat.reduceAdd,Nat.reduceMul,Nat.reduceLeDiff,Nat.reduceLT,Nat.reduceSub,Nat.reduceBEq])
theorem Tr.R8 {W W1:Wit} {w w1:World} {hp h1:Nat→Hb} (ht:Tr W w hp W1 w1 h1) (hno:∀ k,¬ dG W hp k) {b E sz:Nat} {rows:List (List Dt)} (hb:h1 b=.vec E sz rows) (hne:rows≠[]):∃ W2:Wit,Tr W w hp W2 w1 (up h1 b .dead)∧RHw W2 w1 (.one (.d (.im rows))) (W1.nv b)∧∀ p v,RHw W1 w1 p v→RHw W2 w1 p v:=by
 have hr:=ht.rhp;have hat:=hr.at_ b;rw [hb] at hat;obtain ⟨xs,g1,g2,g3,g4⟩:=hat;have hob:=g4 hne;obtain ⟨blk,hblk⟩:∃ blk,W1.nm b=blk:=⟨_,rfl⟩
 rw [hblk] at hob;have hin:hcl W1 b (h1 b) blk:=by rw [hb];exact hob
 have hge:w.heap.size≤blk:=(ht.fp blk ⟨b,hin⟩).elim (fun q=>absurd q (hno blk)) id
 obtain ⟨S2,hS2⟩:∃ S2:Nat→Nat,(fun k=>if k=blk then W1.S k+(match w1.heap[k]? with | some (.cells arr _ _)=>arr.size | _=>0) else W1.S k)=S2:=⟨_,rfl⟩
 have hle:∀ k,W1.S k≤S2 k:=fun k=>by rw [←hS2];dsimp only;split <;> omega
 have hSo:∀ k,k≠blk→S2 k=W1.S k:=fun k hk=>by rw [←hS2];exact if_neg hk
 have hext:Ext W1.S S2 w1 w1:=fun k i hi _=>⟨Nat.lt_of_lt_of_le hi (hle k),rfl⟩
 obtain ⟨W2,hW2⟩:∃ W2:Wit,({ W1 with S:=S2 }:Wit)=W2:=⟨_,rfl⟩
 have eS:W2.S=S2:=by rw [←hW2]
 have elv:W2.lv=W1.lv:=by rw [←hW2]
 have enm:W2.nm=W1.nm:=by rw [←hW2]
 have env':W2.nv=W1.nv:=by rw [←hW2]
 have ehf:W2.hf=W1.hf:=by rw [←hW2]
 have hfol:Fol W1 G0 O0 w1 W2 G0 O0 w1:=⟨by rw [eS];exact hext,fun _=>Nat.le_refl _,fun _ _=>by rw [←hW2],fun o E' sz' k _ ho'=>⟨k,ho',Nat.le_refl _,fun _=>by rw [←hW2]⟩,fun _ _=>by rw [←hW2],fun x hx=>⟨by rw [elv];exact hx,by rw [enm],by rw [env']⟩,by rw [←hW2]⟩
 have hcl2:∀ x k,hcl W2 x (h1 x) k↔hcl W1 x (h1 x) k:=fun x k=>hcl.indep enm env' ehf x (h1 x) k
 have hdead:∀ x k,hcl W2 x (up h1 b .dead x) k→x≠b∧hcl W1 x (h1 x) k:=fun x k hk=>by
  by_cases hx:x=b
  ·subst hx;rw [dK] at hk;exact hk.elim
  ·rw [bB hx] at hk;exact ⟨hx,(hcl2 x k).1 hk⟩
 refine ⟨W2,⟨⟨fun x=>?_,fun x k hk=>?_,fun x=>?_,fun x y k e1 e2=>hr.ex x y k (hdead x k e1).2 (hdead y k e2).2⟩,fun x hx=>?_,ht.but,fun k ⟨x,hk⟩=>ht.fp k ⟨x,(hdead x k hk).2⟩,fun k hk=>?_⟩,?_,fun p v hv=>RB.fol hfol hv⟩
 ·rw [elv,hr.lv x]
  by_cases hx:x=b
  ·subst hx;rw [dK,hb];exact ⟨fun _ q=>(by cases q),fun _ q=>(by cases q)⟩
  ·rw [bB hx]
 ·obtain ⟨hx,hk1⟩:=hdead x k hk;obtain ⟨q1,q2⟩:=hr.mine x k hk1;refine ⟨?_,q2⟩;rw [eS,hSo k (fun e=>hx (hr.ex x b k hk1 (by rw [e];exact hin)))]
  exact q1
 ·by_cases hx:x=b
  ·subst hx;rw [dK];trivial
  ·rw [bB hx];exact RH.fol hfol (hr.at_ x) (fun q=>(hr.lv x).2 q) (by rw [ehf]) (fun _ _=>rfl)
 ·rw [elv,enm,env'];exact ht.keep x hx
 ·rw [eS,hSo k (by omega)];exact ht.S k hk
 ·rcases g1.2 with ⟨_,q2⟩ | ⟨g,cap,cur,fz,q1,q2,q3,q4,q5,q6,q7,_⟩
  ·exact absurd (List.eq_nil_of_length_eq_zero q2) hne
  ·obtain rfl:g=blk:=by rw [q1] at hob;simpa [Value.ownBlock] using hob
   show RD W2.S w1 (.im rows) (W1.nv b)
   rw [q1,eS]
   have hSg:cur.size≤S2 g:=by
    rw [←hS2];dsimp only;rw [if_pos rfl,q3];dsimp only;omega
   refine RD.block (vs:=xs) (sz:=sz) (b:=g) (o:=0) g2 g1.1 (fun j u hj=>?_) q4 q5 (fun i r j x e1 e2=>?_)
   ·have hj2:=(List.getElem?_eq_some_iff.1 hj).1
    have hlt:j < cur.size:=by
     have:xs.length≤cur.size:=by
      have h9:(cur.toList.take (rows.length * sz)).length≤cur.toList.length:=by rw [List.length_take];exact Nat.min_le_right _ _
      rw [q7] at h9;rw [Array.length_toList] at h9;exact h9
     omega
    refine ⟨?_,by show 0+j < S2 g;exact Nat.lt_of_lt_of_le (by omega) hSg⟩
    have:=g1.cells (g:=g) (by rw [q1];rfl) j u hj
    rw [addr_add] at this;exact this
   ·obtain ⟨u,e3,e4⟩:=g3 i r j x e1 e2;exact ⟨u,e3,RD.ext hext e4⟩
noncomputable def yZ:Code:=Try.f9.body.getD .skip
theorem Qv:bW yZ=((bW yZ).drop 0).take 17 ++ (((bW yZ).drop 17).take 4 ++ []):=by kernel_rfl
def Pz (ps rs:List Pa):Prop:=∃ (es:List Ev) (d:Dep) (x y:Int) (g:Nat),ps=[iA es d,.agg [dI x,dI y],.one (.sc (.int .u8 (g:Nat)))]∧(d.gJ∧True∧g≤255)∧rs=[pB true]
theorem TD:Spec Try.prog 9 Pz:=by
 rintro ps rs ⟨es,d,x,y,g,rfl,⟨h64,_,hg⟩,rfl⟩ S w vals _ hv;obtain ⟨W0,hW0⟩:∃ W0,W00 (fun _=>0) S=W0:=⟨_,rfl⟩
 have hrp0:RHp W0 w (fun _=>.no):=by rw [←hW0];exact ⟨fun b=>⟨fun h=>h.elim,fun h=>h rfl⟩,fun b k hk=>hk.elim,fun _=>trivial,fun b b' k hk=>hk.elim⟩
 have hno:∀ k,¬ dG W0 (fun _=>.no) k:=fun k ⟨b,hb⟩=>hb
 have hS0:W0.S=S:=by rw [←hW0];rfl
 have hsz:vals.size=3:=hv.1.symm;obtain ⟨a0,ha0⟩:∃ a0:Act,{ tmps:=vals ++ Array.replicate (Try.f9.ntmps - vals.size) undef,defers:=[] }=a0:=⟨_,rfl⟩
 have hd0:a0.defers=[]:=by rw [←ha0]
 have hlen0:a0.tmps.size=Try.f9.ntmps:=by
  rw [←ha0]
  show (vals ++ Array.replicate _ undef).size=_
  rw [Array.size_append,Array.size_replicate,hsz,Try.ntmps9]
 have hget:∀ i,i < 3→∃ v,vals[i]? = some v∧a0.tmps.getD i undef=v:=fun i hi=>by
  refine ⟨vals[i]'(by omega),Array.getElem?_eq_getElem (by omega),?_⟩;rw [←ha0]
  show (vals ++ Array.replicate _ undef).getD i undef=_
  rw [Array.getD_eq_getD_getElem?,Array.getElem?_append_left (by omega),Array.getElem?_eq_getElem (by omega)];rfl
 have hsl0:BN W0 w (slD es d x y g) a0:=by
  intro i;unfold slD
  by_cases i0:i=0
  ·subst i0;obtain ⟨v,e1,e2⟩:=hget 0 (by decide);have hp:RP S w (iA es d) v:=hv.2 0 _ v rfl e1;exact .inr ⟨kI (iA es d),rfl,by rw [e2];exact kR.2 (by rw [hS0];exact hp)⟩
  ·rw [if_neg i0]
   by_cases i1:i=1
   ·subst i1;obtain ⟨v,e1,e2⟩:=hget 1 (by decide);have hp:RP S w (.agg [dI x,dI y]) v:=hv.2 1 _ v rfl e1;exact .inr ⟨kI (.agg [dI x,dI y]),rfl,by rw [e2];exact kR.2 (by rw [hS0];exact hp)⟩
   ·rw [if_neg i1]
    by_cases i2:i=2
    ·subst i2;obtain ⟨v,e1,e2⟩:=hget 2 (by decide);have hp:RP S w (.one (.sc (.int .u8 (g:Nat)))) v:=hv.2 2 _ v rfl e1;exact .inr ⟨kI (.one (.sc (.int .u8 (g:Nat)))),rfl,by rw [e2];exact kR.2 (by rw [hS0];exact hp)⟩
    ·rw [if_neg i2];exact .inl rfl
 have hbody:Try.f9.body=some yZ:=by kernel_rfl
 have hfin:∀ {W2:Wit} {a2:Act} {w2:World} {h2:Nat→Hb},Tr W0 w (fun _=>.no) W2 w2 h2→a2.defers=[]→RHw W2 w2 (.one (.d (.sc (.bool true)))) (a2.tmps.getD 6 undef)→bodyPost Try.prog Try.f9 (fun e w'=>∃ v S',e=.returned v∧RR S' w' [pB true] v∧Below w.heap.size w w'∧∀ b,b < w.heap.size→S' b=S b) .ret a2 w2:=by
  intro W2 a2 w2 h2 ht hdf hres;refine ⟨hdf,_,results_tmp rfl _ _ _,?_⟩;have hu:RD W2.S w2 (.sc (.bool true)) (a2.tmps.getD 6 undef):=hres;have hinv:∀ v,RD W2.S w2 (.sc (.bool true)) v→v=.bool true:=fun v h=>by cases h;rfl
  have he:=hinv _ hu;rw [he];refine ⟨_,W2.S,rfl,RP.Et _,⟨ht.but.os,ht.but.tape,ht.but.output,ht.but.size,fun k hk=>ht.but.block k hk (hno k)⟩,fun k hk=>by rw [ht.S k hk,hS0]⟩
 refine calls_of_wp Try.func9 hbody ?_;rw [ha0];refine uU ?_;rw [Qv]
 refine iB (P:=Try.prog) (n:=Try.f9.ntmps) (a:=a0) Gl (mO bZ (by kernel_rfl)) bA cpz9A (by kernel_rfl) (by kernel_rfl) ncD
  (Q:=fun e T=>(e=.ret∧T.sl 6=aB true)∨(e=.normal∧∃ (j k fr X:Nat) (u:List Ev) (dd:Dep),es.length≤80∧MW es d (cu es d) j k g fr X u dd∧DmS es d T j fr ((cu es d).set (fr+k) (X ^^^ g)))) (dmA hg (fun T h=>.inl ⟨rfl,h⟩) (fun T j k fr X u dd _ l1 h1 h2=>.inr ⟨rfl,j,k,fr,X,u,dd,l1,h1,h2⟩)) (fun _ _=>trivial) hrp0 hlen0 hsl0 ?_
 rintro e s1 W1 a1 w1 (⟨rfl,h6⟩ | ⟨rfl,j,k,fr,X,u,dd,l1,hD,hM⟩) hp1
 ·exact hfin hp1.tr (hp1.dfs.trans hd0) (hp1.sl 6 (.one (.d (.sc (.bool true)))) (by rw [h6];rfl))
 have hT1:=hp1.tr
 have hGne:byR ((cu es d).set (fr+k) (X ^^^ g))≠[]:=fun q=>by
  have h1:=congrArg List.length q;rw [aV,List.length_set] at h1;have h2:=(List.getElem?_eq_some_iff.1 hD.at_).1;have h3:([]:List (List Dt)).length=0:=rfl;omega
 obtain ⟨W2,hT2,hdat,hkeep⟩:=hT1.R8 hno hM.h2 hGne;have hnv:a1.tmps.getD 15 undef=W1.nv 2:=(hp1.sl 15 (.one (.h (.v 2))) (by rw [hM.t15];rfl)).1
 obtain ⟨sl2,hsl2⟩:∃ sl2:Nat→Av,(fun i=>if i=3 then .b (.one (.hv (.p 0 0))) else if i=10 then aI (j:Int) else if i=12 then aI (fr:Int) else if i=15 then .b (.one (.d (.im (byR ((cu es d).set (fr+k) (X ^^^ g)))))) else .un)=sl2:=⟨_,rfl⟩
 have hslB:BN W2 w1 sl2 a1:=by
  intro i;rw [←hsl2];dsimp only
  by_cases i3:i=3
  ·subst i3;rw [if_pos rfl];exact .inr ⟨.one (.h (.p 0 0)),rfl,hkeep _ _ (hp1.sl 3 _ (by rw [hM.t3];rfl))⟩
  ·rw [if_neg i3]
   by_cases i10:i=10
   ·subst i10;rw [if_pos rfl];exact .inr ⟨.one (hI (j:Int)),rfl,hkeep _ _ (hp1.sl 10 _ (by rw [hM.t10];rfl))⟩
   ·rw [if_neg i10]
    by_cases i12:i=12
    ·subst i12;rw [if_pos rfl];exact .inr ⟨.one (hI (fr:Int)),rfl,hkeep _ _ (hp1.sl 12 _ (by rw [hM.t12];rfl))⟩
    ·rw [if_neg i12]
     by_cases i15:i=15
     ·subst i15;rw [if_pos rfl];exact .inr ⟨.one (.d (.im (byR ((cu es d).set (fr+k) (X ^^^ g))))),rfl,by rw [hnv];exact hdat⟩
     ·rw [if_neg i15];exact .inl rfl
 refine iB (P:=Try.prog) (n:=Try.f9.ntmps) (a:=a1) Gm (mO bZ (by kernel_rfl)) bA cpz9B (by kernel_rfl) (by kernel_rfl) (fun _=>1)
  (Q:=fun e T=>e=.ret∧T.sl 6=aB true) (dmB l1 hD (fun T h=>⟨rfl,h⟩) (by rw [←hsl2];rfl) (by rw [←hsl2];rfl) (by rw [←hsl2];rfl) (by rw [←hsl2];rfl) (by rw [jN,bB (by decide)];exact hM.h0)) (fun _ _=>trivial) hT2.rhp hp1.len hslB ?_
 rintro e s3 W3 a3 w3 ⟨rfl,h6⟩ hp3;exact hfin (hT2.trans hp3.tr) (hp3.dfs.trans (hp1.dfs.trans hd0)) (hp3.sl 6 (.one (.d (.sc (.bool true)))) (by rw [h6];rfl))
end Go.Proofs.Ytkafcpnahpfbfaa
end
section
namespace Go.Proofs.Ytkafcpnahpfbfaa
open Go Go.RowKit Go.WideShapes Go.ChangeShapes Go.Deep
set_option maxRecDepth 100000
set_option maxHeartbeats 4000000
theorem Try.laidOut:laidOutB Try.prog=true:=by kernel_rfl
theorem Try.own:ownKnob Try.prog.godebug=none:=by kernel_rfl
theorem rD {x:Int} (h:(Lit.int .i64 x).wf=true):gJ x:=by
 simp [Lit.wf,IntKind.min,IntKind.max,IntKind.signed,IntKind.bits] at h;unfold gJ;omega
theorem oM {H:Type} {enc:TypeId×Value→H} {P:Program} (hl:laidOutB P=true) {W W':World} (hb:Below W.heap.size W W') :
 ∀ {ts:List TypeId} {vs:List Value} {ds:List (DataW H)} {ps:List MemPlace},(ts.all fun t=>P.readableRec t && decide (t < P.types.size))=true→DataW.TrodAll enc P W 0 (fun _=>true) true ts vs ds ps→DataW.TrodAll enc P W' 0 (fun b=>decide (b < W.heap.size)) true ts vs ds ps
 | [],vs,ds,ps,_,h=>by obtain ⟨rfl,rfl,rfl⟩:=trodAll_nil h;exact trodAll_mk0
 | t :: ts,vs,ds,ps,ht,h=>by
   obtain ⟨v,vs',d,ds',p,q,rfl,rfl,rfl,h1,h2⟩:=trodAll_cons h;simp only [List.all_cons,Bool.and_eq_true,decide_eq_true_eq] at ht;have lt:∀ x ∈ p,x.block < W.heap.size:=by obtain ⟨m,hm⟩:=h1;exact DataW.trod_lt m _ _ _ hm
   exact trodAll_cons_mk (Below.trod hl ht.1.1 ht.1.2 h1 hb lt) (oM hl hb (by rw [Bool.eq_iff_iff] at *;simpa using ht.2) h2)
theorem Spec.true [I:bT] {P:Program} {f:Nat} {R:List Pa→List Pa→Prop} (hs:Spec P f R) {ps:List Pa} (hR:R ps [pB true]) {S:Nat→Nat} {w:World} {vals:Array Value} (hw:I.p w) (hv:RPs S w ps vals) :
 Calls P f vals w fun e w'=>e=.returned (.bool true)∧Below w.heap.size w w':=by
 refine (hs ps _ hR S w vals hw hv).mono ?_;rintro e w' ⟨v,S',rfl,h1,h2,_⟩;exact ⟨by rw [RP.bool h1],h2⟩
section
variable {H:Type} {enc:TypeId×Value→H} {P:Program} {w:World} {base:Nat} {spare:Nat→Bool} {held:Bool}
theorem Ko {t:TypeId} {k:IntKind} (ht:P.underlying t=some (.int k)) (fuel:Nat) (cs:List Value) (x:DataW H×List MemPlace) (h:DataW.trod enc P w base spare held fuel t cs=some x) :
 ∃ l:List Int,l.length=1∧cs=l.map (Value.int k)∧∀ n ∈ l,(Lit.int k n).wf=true:=by
 obtain ⟨n,hn,_,hw⟩:=DataW.trod_int ht h;exact ⟨[n],rfl,hn,fun m hm=>by rw [List.mem_singleton.1 hm];exact hw⟩
theorem rY {t tI:TypeId} {fs:Array Field} (ht:P.underlying t=some (.struct fs)) (hone:oneCellFields P fs=true) (hC:P.cellsOf t=fs.size) (hI:P.underlying tI=some (.int .i64)) (hint0:fs.toList.all (fun f=>f.type == tI)=true) {n:Nat} (hn:fs.size=n)
 (fuel:Nat) (cs:List Value) (x:DataW H×List MemPlace) (h:DataW.trod enc P w base spare held fuel t cs=some x) :
 ∃ l:List Int,l.length=n∧cs=l.map (Value.int .i64)∧∀ n ∈ l,(Lit.int .i64 n).wf=true:=by
 have hint:∀ (i:Nat) (f:Field),fs[i]? = some f→P.underlying f.type=some (.int .i64):=fun i f hf=>by
  have h1:=List.all_eq_true.1 hint0 f (List.mem_of_getElem? (i:=i) (by simpa using hf));rw [beq_iff_eq.1 h1];exact hI
 subst hn;obtain ⟨xs,m,_,_,hl,hlen,hfs⟩:=DataW.trod_struct ht h;rw [hC] at hl
 have key:∀ i,∃ x:Int,i < fs.size→cs[i]? = some (.int .i64 x)∧(Lit.int .i64 x).wf=true:=by
  intro i
  by_cases hi:i < fs.size
  ·have hfi:fs[i]? = some fs[i]:=Array.getElem?_eq_getElem hi;obtain ⟨ho,hk⟩:=hone_of hone i _ hfi;have h1:=hfs i _ hfi;rw [ho,hk] at h1;have hic:i < cs.length:=by omega
   have hone':(cs.drop i).take 1=[cs[i]'hic]:=by
    rw [List.drop_eq_getElem_cons hic];rfl
   rw [hone'] at h1;have hxs:xs[i]? = some (xs[i]'(by omega)):=List.getElem?_eq_getElem _;rw [hxs] at h1;obtain ⟨x,hx,_,hw⟩:=DataW.trod_int (hint i _ hfi) h1;simp at hx;exact ⟨x,fun _=>⟨by rw [List.getElem?_eq_getElem hic,hx],hw⟩⟩
  ·exact ⟨0,fun h=>absurd h hi⟩
 obtain ⟨g,hg⟩:=Classical.skolem.1 key;refine ⟨(List.range fs.size).map g,by simp,?_,fun x hx=>?_⟩
 ·apply List.ext_getElem?
  intro i;simp only [List.getElem?_map]
  rcases Nat.lt_or_ge i fs.size with hi | hi
  ·rw [(hg i hi).1,List.getElem?_range hi];rfl
  ·rw [List.getElem?_eq_none (by omega),List.getElem?_eq_none (by simpa using hi)];rfl
 ·simp only [List.mem_map,List.mem_range] at hx;obtain ⟨i,hi,rfl⟩:=hx;exact (hg i hi).2
theorem rE {t e:TypeId} {k:IntKind} {n:Nat} (ht:P.underlying t=some (.slice e)) (hC:P.cellsOf e=n) (hn:0 < n)
 (hel:∀ (fuel:Nat) (cs:List Value) (x:DataW H×List MemPlace),DataW.trod enc P w base spare held fuel e cs=some x→∃ l:List Int,l.length=n∧cs=l.map (Value.int k)∧∀ n ∈ l,(Lit.int k n).wf=true)
 {fuel:Nat} {cs:List Value} {x:DataW H×List MemPlace} (h:DataW.trod enc P w base spare held fuel t cs=some x) :
 ∃ (v:Value) (rows:List (List Int)),cs=[v]∧(∀ r ∈ rows,r.length=n∧∀ y ∈ r,(Lit.int k y).wf=true)∧∀ S:Nat→Nat,(∀ b i,(w.cell? ⟨b,i,none⟩).isSome=true→i < S b)→RD S w (.im (rows.map fun r=>r.map fun y=>.sc (.int k y))) v:=by
 rcases open_slice ht h with ⟨hcs,_⟩ | ⟨A,len,cap,m,n',D,Pl,hcs,_,hnc,hcm,hm,_,hi⟩
 ·exact ⟨_,[],hcs,fun r hr=>(by cases hr),fun S _=>.emp none 0 (Nat.zero_le _)⟩
 ·have hlm:len≤m:=by rw [hm];split <;> omega
  have key:∀ i,∃ l:List Int,i < len→l.length=n∧(∀ y ∈ l,(Lit.int k y).wf=true)∧∀ j,j < n→w.cell? (A.add (i * n+j))=(l[j]?).map (Value.int k):=by
   intro i
   by_cases hlt:i < len
   ·obtain ⟨cs',hc,ht'⟩:=hi i (by omega);obtain ⟨l,h1,h2,h3⟩:=hel _ _ _ ht';rw [hC] at hc;obtain ⟨_,hcl,hat⟩:=World.cells?_some hc;refine ⟨l,fun _=>⟨h1,h3,fun j hj=>?_⟩⟩;rw [←Go.Deep.add_add,hat j hj,h2,List.getElem?_map]
   ·exact ⟨[],fun h=>absurd h hlt⟩
  obtain ⟨f,hf⟩:=Classical.skolem.1 key;refine ⟨_,(List.range len).map f,hcs,fun r hr=>?_,fun S hS=>?_⟩
  ·obtain ⟨i,hi1,rfl⟩:=List.mem_map.1 hr;have:=hf i (List.mem_range.1 hi1);exact ⟨this.1,this.2.1⟩
  ·rcases Nat.eq_zero_or_pos len with rfl | hpos
   ·exact .emp (some A) cap hcm
   ·have h0:=hf 0 hpos;have hc0:=h0.2.2 0 hn;have hl0:(f 0)[0]? = some ((f 0)[0]'(by omega)):=List.getElem?_eq_getElem _;rw [hl0] at hc0;have hsp:=World.cell?_spot hc0;obtain ⟨b,o,sp⟩:=A;simp [Addr.add] at hsp;subst hsp;have hln:(((List.range len).map f).map fun r=>r.map fun y=>Dt.sc (.int k y)).length=len:=by simp
    have hadd:∀ q,(⟨b,o,none⟩:Addr).add q=⟨b,o+q,none⟩:=fun q=>by
     unfold Addr.add;split
     ·rename_i hq;rw [hq];rfl
     ·rfl
    have hrw:∀ i,i < len→(((List.range len).map f).map fun r=>r.map fun y=>Dt.sc (.int k y))[i]? = some ((f i).map fun y=>Dt.sc (.int k y)):=fun i hi=>by
     rw [List.getElem?_map,List.getElem?_map,List.getElem?_range hi];rfl
    have:=RD.im (S:=S) (w:=w) (((List.range len).map f).map fun r=>r.map fun y=>Dt.sc (.int k y)) n b o cap (fun i j=>.int k ((f i).getD j 0)) (by rw [hln];exact hnc) hcm (fun r hr=>?_) (fun i j hi hj=>?_) (fun i r j y h1 h2=>?_)
    ·rw [hln] at this;exact this
    ·obtain ⟨r',hr',rfl⟩:=List.mem_map.1 hr;obtain ⟨i,hi1,rfl⟩:=List.mem_map.1 hr';rw [List.length_map];exact (hf i (List.mem_range.1 hi1)).1
    ·rw [hln] at hi;have h1:=(hf i hi).2.2 j hj;have hlj:j < (f i).length:=by rw [(hf i hi).1];exact hj
     rw [hadd,List.getElem?_eq_getElem hlj] at h1
     have h2:w.cell? ⟨b,o+(i * n+j),none⟩=some (.int k ((f i).getD j 0)):=by
      rw [h1,List.getD_eq_getElem?_getD,List.getElem?_eq_getElem hlj];rfl
     exact ⟨h2,hS _ _ (by rw [h2];rfl)⟩
    ·have hlt:=(List.getElem?_eq_some_iff.1 h1).1;rw [hln] at hlt;rw [hrw i hlt] at h1;cases h1;rw [List.getElem?_map] at h2
     cases hj:(f i)[j]? with
     | none=>rw [hj] at h2;cases h2
     | some z =>
       rw [hj] at h2;cases h2;rw [List.getD_eq_getElem?_getD,hj];exact .sc _ rfl
end
theorem QB {rows:List (List Int)} (h:∀ r ∈ rows,r.length=9):∃ es:List Ev,(rows.map fun r=>r.map fun y=>Dt.sc (.int .i64 y))=es.map Ev.row:=by
 induction rows with
 | nil=>exact ⟨[],rfl⟩
 | cons r rows ih =>
   obtain ⟨es,he⟩:=ih fun x hx=>h x (List.mem_cons_of_mem _ hx)
   have h1:=h r (List.mem_cons_self ..)
   match r,h1 with
   | [a,b,c,d,e,f,g,i,j],_=>exact ⟨⟨a,b,c,d,e,f,g,i,j⟩ :: es,by rw [List.map_cons,he];rfl⟩
theorem KZ {rows:List (List Int)} (h:∀ r ∈ rows,r.length=2∧∀ y ∈ r,(Lit.int .i64 y).wf=true):∃ st:List (Int×Int),(rows.map fun r=>r.map fun y=>Dt.sc (.int .i64 y))=st.map aW∧∀ p ∈ st,gJ p.1∧gJ p.2:=by
 induction rows with
 | nil=>exact ⟨[],rfl,fun p hp=>(by cases hp)⟩
 | cons r rows ih =>
   obtain ⟨es,he,hb⟩:=ih fun x hx=>h x (List.mem_cons_of_mem _ hx)
   obtain ⟨h1,h2⟩:=h r (List.mem_cons_self ..)
   match r,h1,h2 with
   | [a,b],_,h2 =>
     refine ⟨(a,b) :: es,by rw [List.map_cons,he];rfl,fun p hp=>?_⟩
     rcases List.mem_cons.1 hp with rfl | hp
     ·exact ⟨rD (h2 _ (by simp)),rD (h2 _ (by simp))⟩
     ·exact hb p hp
theorem Oc {rows:List (List Int)} (h:∀ r ∈ rows,r.length=1∧∀ y ∈ r,(Lit.int .i64 y).wf=true):∃ l:List Int,(rows.map fun r=>r.map fun y=>Dt.sc (.int .i64 y))=(l.map fun x=>[dI x])∧∀ p ∈ l,gJ p:=by
 induction rows with
 | nil=>exact ⟨[],rfl,fun p hp=>(by cases hp)⟩
 | cons r rows ih =>
   obtain ⟨es,he,hb⟩:=ih fun x hx=>h x (List.mem_cons_of_mem _ hx)
   obtain ⟨h1,h2⟩:=h r (List.mem_cons_self ..)
   match r,h1,h2 with
   | [a],_,h2 =>
     refine ⟨a :: es,by rw [List.map_cons,he];rfl,fun p hp=>?_⟩
     rcases List.mem_cons.1 hp with rfl | hp
     ·exact rD (h2 _ (by simp))
     ·exact hb p hp
theorem D5 {H:Type} {enc:TypeId×Value→H} {w:World} {r:Reach} {b0:Nat} {v:Value} {d:DataW H} {ps:List MemPlace}
 (hv:Value.okWide Try.prog w r b0 28 v) (h:DataW.Trod enc Try.prog w 0 (fun _=>true) true 28 v d ps):∃ (es:List Ev) (dp:Dep),dp.gJ∧∀ S:Nat→Nat,(∀ b i,(w.cell? ⟨b,i,none⟩).isSome=true→i < S b)→RP S w (iA es dp) v:=by
 obtain ⟨cs,rfl,hcs⟩:=okWide_struct Try.underlying28 hv;have hc3:cs.size=3:=by rw [hcs];kernel_rfl
 obtain ⟨a,b,c,rfl⟩:∃ a b c,cs=#[a,b,c]:=by
  refine ⟨cs[0]'(by omega),cs[1]'(by omega),cs[2]'(by omega),?_⟩
  apply Array.ext
  ·exact hc3
  ·intro i g1 g2;have:i < 3:=by simpa using g2
   match i,this with
   | 0,_=>rfl
   | 1,_=>rfl
   | 2,_=>rfl
 obtain ⟨fuel,hf⟩:=h;obtain ⟨y0,y1,n,_,_,g0,g1⟩:=trod_struct2 Try.underlying28 hf;have g0':DataW.trod enc Try.prog w 0 (fun _=>true) true n 22 [a]=some y0:=g0;have g1':DataW.trod enc Try.prog w 0 (fun _=>true) true n 26 [b,c]=some y1:=g1;obtain ⟨z0,z1,n',_,_,k0,k1⟩:=trod_struct2 Try.underlying26 g1';have k0':DataW.trod enc Try.prog w 0 (fun _=>true) true n' 23 [b]=some z0:=k0;have k1':DataW.trod enc Try.prog w 0 (fun _=>true) true n' 24 [c]=some z1:=k1;obtain ⟨va,ra,ea,ha,qa⟩:=rE Try.underlying22 (n:=9) (by kernel_rfl) (by decide) (rY Try.underlying42 (by kernel_rfl) (by kernel_rfl) Try.underlying3 (by kernel_rfl) rfl) g0';obtain ⟨vb,rb,eb,hb,qb⟩:=rE Try.underlying23 (n:=2) (by kernel_rfl) (by decide) (rY Try.underlying50 (by kernel_rfl) (by kernel_rfl) Try.underlying3 (by kernel_rfl) rfl) k0'
 obtain ⟨vc,rc,ec,hc,qc⟩:=rE Try.underlying24 (n:=1) (by kernel_rfl) (by decide) (Ko Try.underlying3) k1';cases ea;cases eb;cases ec;obtain ⟨es,he⟩:=QB fun r hr=>(ha r hr).1
 obtain ⟨st,hs,hs2⟩:=KZ hb;obtain ⟨pr,hp,hp2⟩:=Oc hc;refine ⟨es,⟨st,pr⟩,⟨hs2,hp2⟩,fun S hS=>⟨_,rfl,rfl,fun i x u h1 h2=>?_⟩⟩
 match i with
 | 0=>cases h1;cases h2;rw [←he];exact qa S hS
 | 1=>cases h1;cases h2;rw [←hs];exact qb S hS
 | 2=>cases h1;cases h2;rw [←hp];exact qc S hS
 | i+3=>simp [cK] at h1
theorem Lj {x:Int} (h:(Lit.int .u8 x).wf=true):0≤x∧x≤255:=by
 simp [Lit.wf,IntKind.min,IntKind.max,IntKind.signed,IntKind.bits] at h;omega
theorem Ia {H:Type} {enc:TypeId×Value→H} {w:World} {r:Reach} {b0:Nat} {v:Value} {d:DataW H} {ps:List MemPlace}
 (hval:Value.okWide Try.prog w r b0 5 v) (h:DataW.Trod enc Try.prog w 0 (fun _=>true) true 5 v d ps):∃ g:Nat,g≤255∧v=.int .u8 (g:Nat):=by
 obtain ⟨n,rfl,_,_,hw⟩:=open_int Try.underlying5 hval h;have:=Lj hw;exact ⟨n.toNat,by omega,by rw [show (n.toNat:Int)=n by omega]⟩
theorem okWide_pair {W:World} {r:Reach} {b:Nat} {v:Value} (h:Value.okWide Try.prog W r b 47 v):∃ xs:Array Value,v=.agg xs∧xs.size=2:=by
 simp only [Value.okWide,Try.underlying47] at h;obtain ⟨cs,h1,h2,_⟩:=h;exact ⟨cs,h1,h2.trans (by kernel_rfl)⟩
theorem open_ints {H:Type} {enc:TypeId×Value→H} {P:Program} {w:World} {base:Nat} {spare:Nat→Bool} {held:Bool} {t tI:TypeId} {n:Nat} (ht:P.underlying t=some (.array n tI)) (hI:P.underlying tI=some (.int .i64)) (hcI:P.cellsOf tI=1) (hct:P.cellsOf t=n)
 {v:Value} {d:DataW H} {ps:List MemPlace} (hv:∃ xs:Array Value,v=.agg xs∧xs.size=n) (h:DataW.Trod enc P w base spare held t v d ps) :
 ∃ l:List Int,l.length=n∧v=.agg (l.map (Value.int .i64)).toArray:=by
 obtain ⟨cs,rfl,hcs⟩:=hv;obtain ⟨fuel,hf⟩:=h;obtain ⟨xs,m,_,_,hl,hlen,hfs⟩:=DataW.trod_array ht hf
 have key:∀ i,∃ x:Int,i < n→cs[i]? = some (.int .i64 x):=by
  intro i
  by_cases hi:i < n
  ·have h1:=hfs i hi;rw [hcI,Nat.mul_one] at h1;have hic:i < cs.size:=by omega
   have hone':((Value.agg cs).cells.toList.drop i).take 1=[cs[i]'hic]:=by
    show (cs.toList.drop i).take 1=_
    rw [List.drop_eq_getElem_cons (by simpa using hic)];simp
   rw [hone'] at h1;have hxs:xs[i]? = some (xs[i]'(by omega)):=List.getElem?_eq_getElem _;rw [hxs] at h1;obtain ⟨x,hx,_,_⟩:=DataW.trod_int hI h1;simp at hx;exact ⟨x,fun _=>by rw [Array.getElem?_eq_getElem hic,hx]⟩
  ·exact ⟨0,fun h=>absurd h hi⟩
 obtain ⟨g,hg⟩:=Classical.skolem.1 key;refine ⟨(List.range n).map g,by simp,?_⟩
 congr 1
 apply Array.ext_getElem?
 intro i;simp only [List.getElem?_toArray,List.getElem?_map]
 rcases Nat.lt_or_ge i n with hi | hi
 ·rw [hg i hi,List.getElem?_range hi];rfl
 ·rw [Array.getElem?_eq_none (by omega),List.getElem?_eq_none (by simpa using hi)];rfl
theorem open_pair {H:Type} {enc:TypeId×Value→H} {w:World} {r:Reach} {b0:Nat} {v:Value} {d:DataW H} {ps:List MemPlace}
 (hval:Value.okWide Try.prog w r b0 47 v) (h:DataW.Trod enc Try.prog w 0 (fun _=>true) true 47 v d ps):∃ x y:Int,True∧v=.agg #[.int .i64 x,.int .i64 y]:=by
 obtain ⟨l,hl,rfl⟩:=open_ints Try.underlying47 Try.underlying3 (by kernel_rfl) (by kernel_rfl) (okWide_pair hval) h
 match l,hl with
 | [x,y],_=>exact ⟨x,y,trivial,rfl⟩
end Go.Proofs.Ytkafcpnahpfbfaa
end
