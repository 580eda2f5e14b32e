/- The program's reader: a block (next). -/
import Derived.Test.YtkafcpnahpfbfaaMr11
import Derived.ProofKit
import Derived.Deep.Slices
import Derived.Deep.Fields
import Derived.ChangeSame
import Derived.OpenShut
set_option linter.unusedSimpArgs false
set_option linter.unusedVariables false
section
namespace Go.Proofs.Ytkafcpnahpfbfaa
open Go Go.RowKit
set_option maxRecDepth 1000000
set_option maxHeartbeats 4000000
theorem I8 (k:Nat):∀ (d:Dep) (s:Rs),d.st <+: (kE k d s).1.st∧d.pr <+: (kE k d s).1.pr:=by
 induction k with
 | zero=>exact fun d s=>⟨List.prefix_refl _,List.prefix_refl _⟩
 | succ k ih =>
   intro d s;unfold kE;split
   ·exact ⟨List.prefix_refl _,List.prefix_refl _⟩
   ·split
    ·exact ⟨List.prefix_refl _,List.prefix_refl _⟩
    ·obtain ⟨h1,h2⟩:=ih (dY d (jI s).1.1 (jI s).1.2) (jI s).2;exact ⟨(List.prefix_append _ _).trans h1,(List.prefix_append _ _).trans h2⟩
theorem xB {α β:Type} {a b:List α} {n:Nat} {f:α→β} (h:a <+: b) (hn:a.length=n):a.map f ++ (b.drop n).map f=b.map f:=by
 obtain ⟨t,rfl⟩:=h;rw [←hn,List.drop_left,List.map_append]
theorem Ac (sh:Bool) (n:Nat) (d:Dep) (l:Ev) (kind len:Nat) (body:List Nat):vT sh n d l kind len body=(if (iD ⟨body,false⟩ d).2.bad=true then none else (uH sh n d.st.length ((iD ⟨body,false⟩ d).1.st.length - d.st.length) l kind (bU (iD ⟨body,false⟩ d).2).1 (bU (iD ⟨body,false⟩ d).2).2).map fun p=>(⟨p.1,(iD ⟨body,false⟩ d).1,(bU (iD ⟨body,false⟩ d).2).1,decide (kind=69),len⟩:NX)):=by
 unfold vT uH;generalize iD ⟨body,false⟩ d=E;obtain ⟨D,S⟩:=E;dsimp only
 by_cases h1:S.bad=true
 ·rw [if_pos h1,if_pos h1]
 rw [if_neg h1,if_neg h1]
 by_cases h2:(bU S).2.bad=true
 ·rw [if_pos h2,if_pos h2];rfl
 rw [if_neg h2,if_neg h2]
 by_cases h3:kind=69
 ·rw [if_pos h3,if_pos h3]
  by_cases h4:(bU S).1≠n
  ·rw [if_pos h4,if_pos h4];rfl
  rw [if_neg h4,if_neg h4]
  by_cases h5:(bU S).2.rest≠[]
  ·rw [if_pos h5,if_pos h5];rfl
  rw [if_neg h5,if_neg h5]
  show _=some _
  rw [decide_eq_true h3]
 ·rw [if_neg h3,if_neg h3]
  cases nG sh n d.st.length (D.st.length - d.st.length) (bU S).1 l (bU S).2 with
  | none=>rfl
  | some p =>
    obtain ⟨evs,s'⟩:=p;dsimp only
    by_cases h5:s'.rest≠[]
    ·rw [if_pos h5,if_pos h5];rfl
    rw [if_neg h5,if_neg h5]
    show _=some _
    rw [decide_eq_false h3]
def yH (hp:Nat→Hb) (br bR ye ys yp:Nat) (bs:List Nat) (a:Nat) (lr:Ev) (es:List Ev) (E:Nat×Option NX) (h:Nat→Hb) (r:List Hw):Prop :=
 r=[.one (hI (E.1:Nat))]∧(E.2=none→h br=hp br∧h ye=hp ye∧h ys=hp ys∧h yp=hp yp) ∧
 ∀ x,E.2=some x→∃ N' ye' ys' yp',zY h N' br bR ye' ys' yp' bs ((a+x.len:Nat):Int) (lst lr x.es) (!x.en && decide (x.c < 16)) x.en (es ++ x.es) x.d
structure O1 (bs:List Nat) (a:Nat) (lr:Ev) (es:List Ev) (d:Dep):Prop where
 al:a≤bs.length
 bl:bs.length≤300000
 by_:∀ x ∈ bs,x≤255
 dv:d.val
 sb:∀ s ∈ d.st,s.1≤2147483647∧s.2≤2147483647
 dl:d.st.length+(bs.length - a)≤300000
 el:es.length≤5000
 lg:evG lr
def DZ (hp:Nat→Hb) (az:List Hw) (Post:(Nat→Hb)→List Hw→Prop):Prop:=∃ (N br bR ye ys yp a:Nat) (bs:List Nat) (lr:Ev) (sh en:Bool) (es:List Ev) (d:Dep),
 az=[.one (hP br 0)]∧zY hp N br bR ye ys yp bs (a:Int) lr sh en es d∧O1 bs a lr es d∧Post=yH hp br bR ye ys yp bs a lr es (nW sh es.length d lr (bs.drop a))
theorem LY:dU Try.prog 50 DZ:=by
 refine sqp50 CG ?_;rintro hp az Post ⟨N,br,bR,ye,ys,yp,a,bs,lr,sh,en,es,d,rfl,hR,⟨hal,hbl,hby,hdv,hsb,hdl,hel,hlg⟩,rfl⟩;refine ⟨by simp,ncN N,?_⟩;obtain ⟨E,hE⟩:∃ E,nW sh es.length d lr (bs.drop a)=E:=⟨_,rfl⟩
 rw [hE];obtain ⟨l1,l2,l3,l4,l5⟩:=hR.lt;have hne:=hR.ne;have hfr:=hR.f
 have hbad:∀ (e:Nat) (h:Nat→Hb),E=(e,none)→(∀ b,b < N→h b=hp b)→yH hp br bR ye ys yp bs a lr es E h [.one (hI (e:Nat))]:=fun e h q hh=>by
  rw [q];exact ⟨rfl,fun _=>⟨hh br l1,hh ye l3,hh ys l4,hh yp l5⟩,fun x q=>by cases q⟩
 with_reducible refine aP ?_
 show pwp aG pcp50 (exS aG [] (QN (yH hp br bR ye ys yp bs a lr es E))) (St.eF (ncN N) hp [.one (hP br 0)])
 refine TB hR hal (by omega) hby (fun hc h hh=>hbad 8 h ?_ hh) (fun T kind r hb hk hv hA=>?_)
 ·rw [←hE]
  rcases hc with hc | ⟨kind,r,hc,h2⟩
  ·rw [hc];rfl
  ·rw [hc];unfold nW;dsimp only
   rcases h2 with h2 | h2
   ·rw [if_pos h2]
   ·by_cases h3:kind≠66∧kind≠69
    ·rw [if_pos h3]
    ·rw [if_neg h3,if_pos h2]
 rw [hb] at hE;unfold nW at hE;dsimp only at hE;rw [if_neg (show ¬ (kind≠66∧kind≠69) by omega),if_neg (show ¬ ((vnt r).2=0∨1048576 < (vnt r).1∨(kind :: r).length < 1+(vnt r).2+(vnt r).1+4) by rintro (q | q | q);exact hv.1 q;omega;omega)] at hE
 have hbs:∀ x ∈ kind :: r,x≤255:=fun x hx=>hby x (List.mem_of_mem_drop (hb ▸ hx))
 have hbl2:(kind :: r).length=bs.length - a:=by rw [←hb,List.length_drop]
 refine SA hA hfr l1 hbs (by omega) hv.2.2 (fun hs h hh=>hbad 9 h ?_ hh) (fun hs T2 hB=>?_)
 ·rw [←hE,if_pos hs]
 rw [if_neg (fun q=>q hs)] at hE
 have hbol:(rX (kind :: r) r).length≤bs.length - a:=by
  unfold rX;rw [List.length_drop,List.length_take];omega
 have hbob:∀ x ∈ rX (kind :: r) r,x≤255:=fun x hx=>hbs x (List.mem_of_mem_take (List.mem_of_mem_drop hx))
 obtain ⟨len,hlen⟩:∃ len,1+(vnt r).2+(vnt r).1+4=len:=⟨_,rfl⟩
 obtain ⟨body,hbody⟩:∃ body,rX (kind :: r) r=body:=⟨_,rfl⟩
 rw [hlen,hbody] at hE;rw [hbody] at hB hbol hbob;rw [Ac] at hE;obtain ⟨ED,hED⟩:∃ ED,iD ⟨body,false⟩ d=ED:=⟨_,rfl⟩
 have hv2:=uU (bK ⟨body,false⟩).1 d (bK ⟨body,false⟩).2 hdv;have hpre:=I8 (bK ⟨body,false⟩).1 d (bK ⟨body,false⟩).2;have hsb2:=yw (bK ⟨body,false⟩).1 d (bK ⟨body,false⟩).2 hsb;have hlen2:=uS (bK ⟨body,false⟩).1 d (bK ⟨body,false⟩).2;have hsu:=uT (bK ⟨body,false⟩).1 d (bK ⟨body,false⟩).2;have hn1:=jh ⟨body,false⟩;rw [show kE (bK ⟨body,false⟩).1 d (bK ⟨body,false⟩).2=ED from hED] at hv2 hpre hsb2 hlen2 hsu;have hn1l:=hn1.length_le;dsimp only at hn1l;refine SB hB hR hdv (by omega) (by omega) hbob (fun hbd h hh=>hbad 8 h ?_ hh) (fun hbd T3 N' xs xp hT=>?_)
 ·rw [←hE,if_pos hbd]
 rw [if_neg (by rw [hbd];simp)] at hE
 rw [hED] at hE hT;obtain ⟨D,S⟩:=ED;dsimp only at hE hT hv2 hpre hsb2 hlen2 hsu;have hps:=qA S;have hSl:=(hps.trans (hsu.trans hn1)).length_le;have hcb:=lQ S;obtain ⟨⟨c,S2⟩,hc⟩:∃ p,bU S=p:=⟨_,rfl⟩
 rw [hc] at hT hE hps hSl hcb;dsimp only at hT hE hps hSl hcb;refine SC hT hR hk ⟨hlen2,by omega⟩ (by omega) (fun x hx=>hbob x ((hps.trans (hsu.trans hn1)).subset hx)) hel hlg hcb (fun hn h hh=>hbad 8 h ?_ hh) (fun evs s' T4 x1 M eR cR e2 c2 hX hKR hK2 hF=>?_)
 ·rw [←hE,hn];rfl
 rw [hX] at hE;dsimp only [Option.map_some] at hE;have hpl:=hdv.1;have hDpl:=hv2.1.1
 have hevl:evs.length≤5000:=by
  unfold uH at hX;split at hX
  ·cases hX
  ·split at hX
   ·split at hX
    ·cases hX
    ·split at hX
     ·cases hX
     ·cases hX;exact Nat.zero_le _
   ·rename_i _ q2;split at hX
    ·cases hX
    ·rename_i evs2 s2 hq;split at hX
     ·cases hX
     ·cases hX;unfold nG at hq;split at hq
      ·cases hq
      ·rename_i hg;split at hq
       ·cases hq
       ·rename_i e3 s3 he;split at hq
        ·cases hq;have:=(EJ _ _ _ _ _ he).2.1;omega
        ·cases hq
 have k1:∀ r ∈ stR D d.st.length,r.length=2:=fun r hr=>by
  unfold stR at hr;obtain ⟨x,_,rfl⟩:=List.mem_map.1 hr;rfl
 have k2:∀ r ∈ prR D d.st.length,r.length=1:=fun r hr=>by
  unfold prR at hr;obtain ⟨x,_,rfl⟩:=List.mem_map.1 hr;rfl
 have k3:∀ r ∈ evs.map Ev.row,r.length=9:=fun r hr=>by obtain ⟨x,_,rfl⟩:=List.mem_map.1 hr;rfl
 have j1:(d.st.map aV).length+(stR D d.st.length).length≤1000000:=by unfold stR;rw [List.length_map,List.length_map,List.length_drop];omega
 have j2:(d.pr.map fun x=>[dI x]).length+(prR D d.st.length).length≤1000000:=by unfold prR;rw [List.length_map,List.length_map,List.length_drop];omega
 have j3:(es.map Ev.row).length+(evs.map Ev.row).length≤1000000:=by rw [List.length_map,List.length_map];omega
 have hkeyI:∀ i,i < d.st.length→rQ D i=rQ d i:=fun i hi=>by
  obtain ⟨⟨t1,q1⟩,⟨t2,q2⟩⟩:=hpre;unfold rQ dS fB;simp only [List.getD_eq_getElem?_getD];rw [←q1,←q2,List.getElem?_append_left hi,List.getElem?_append_left (by omega)]
 refine QU hF (lst lr evs) rfl hk ⟨Int.natCast_nonneg _,by show (a:Int)≤_;omega,by show 1+(vnt r).2+(vnt r).1≤_;omega⟩ ⟨k1,j1⟩ ⟨k2,j2⟩ ⟨k3,j3⟩ hKR hK2 (fun x ⟨i,h1,h2,h3⟩=>?_) (fun h' eR' cR' v' hKn hv' nn hNH=>?_)
 ·obtain ⟨⟨g1,g2⟩,g3,g4⟩:=(hv2.1.2 i h2).1
  have hst:dS D i ∈ D.st:=by
   unfold dS;rw [List.getD_eq_getElem?_getD,List.getElem?_eq_getElem h2];exact List.getElem_mem _
  obtain ⟨g5,g6⟩:=hsb2 _ hst;exact ⟨_,_,_,⟨by omega,by omega⟩,⟨by omega,by omega⟩,⟨by omega,by omega⟩,h3.symm⟩
 ·rw [←hE];refine ⟨rfl,fun q=>(by cases q),fun x hx=>?_⟩;cases hx;subst hv';obtain ⟨m1,m2,m3,m4,m5,m6,m7,m8,m9,c1,_,_⟩:=nn;obtain ⟨z1,z2,z3,z4,z5,z6,z7,z8,z9,z10⟩:=hNH;unfold nvN at *;dsimp only at *;refine ⟨M+1+1+1,M+1+1,M,M+1,?_,?_,?_,?_,⟨eR',cR',z9,?_⟩,⟨m1.2.2.2.2.2.2.2.2.2.2,m5.2.2.2.2.2.2,m2.2.2.2.2.2.2.2.2.2,m3.2.2.2.2.2.2.2.2,m4.2.2.2.2.2.2.2⟩,⟨m1.2.2.2.1,m1.1,m1.2.1,m1.2.2.1,Ne.symm m2.2.2.1,Ne.symm m3.2.1,Ne.symm m4.1,m2.1,m2.2.1,m3.1⟩,z10⟩
  ·rw [z1];have e1:(a:Int)+((1+(vnt r).2+(vnt r).1+4:Nat):Int)=((a+len:Nat):Int):=by omega
   have e2:decide (kind=66)=!decide (kind=69):=by
    rcases hk with q | q <;> rw [q] <;> rfl
   rw [e1,e2]
  ·rw [z3,List.map_append]
  ·rw [z4]
   congr 1
   exact xB hpre.1 rfl
  ·rw [z5]
   congr 1
   exact xB hpre.2 hpl.symm
  ·have:(fun x=>KnD d 0 d.st.length x∨KnD D d.st.length D.st.length x)=KnD D 0 D.st.length:=by
    funext x
    refine propext ⟨?_,?_⟩
    ·rintro (⟨i,_,h2,h3⟩ | ⟨i,h1,h2,h3⟩)
     ·exact ⟨i,Nat.zero_le _,by omega,by rw [hkeyI i h2];exact h3⟩
     ·exact ⟨i,Nat.zero_le _,h2,h3⟩
    ·rintro ⟨i,_,h2,h3⟩
     rcases Nat.lt_or_ge i d.st.length with q | q
     ·exact .inl ⟨i,Nat.zero_le _,q,by rw [←hkeyI i q];exact h3⟩
     ·exact .inr ⟨i,q,h2,h3⟩
   rw [←this];exact hKn
theorem dU.or [I:bT] {P:Program} {f:Nat} {R R':(Nat→Hb)→List Hw→((Nat→Hb)→List Hw→Prop)→Prop} (h:dU P f R) (h':dU P f R'):dU P f (fun hp az Post=>R hp az Post∨R' hp az Post) :=
 fun hp az Post hr=>hr.elim (h hp az Post) (h' hp az Post)
def RF (hp:Nat→Hb) (az:List Hw) (Post:(Nat→Hb)→List Hw→Prop):Prop:=Bq (Bq (Bq DZ)) hp az Post∨DZ hp az Post
theorem TF:dU Try.prog 50 RF:=dU.or LY.nil.nil.nil LY
theorem xk {sh:Bool} {n:Nat} {d:Dep} {l:Ev} {b:List Nat} {e:Nat} {x:NX} (h:nW sh n d l b=(e,some x)):e=0∧(x.en=false→x.c≤16)∧x.len≤b.length∧0 < x.len:=by
 cases b with
 | nil=>unfold nW at h;simp at h
 | cons kind r =>
   unfold nW at h;dsimp only at h;split at h
   ·simp at h
   ·split at h
    ·simp at h
    ·rename_i hq;split at h
     ·simp at h
     ·split at h
      ·simp at h
      ·rename_i y hc;rw [Prod.mk.injEq,Option.some.injEq] at h;obtain ⟨h1,rfl⟩:=h;refine ⟨h1.symm,?_⟩;simp only [not_or,Nat.not_lt] at hq;rw [Ac] at hc;split at hc
       ·cases hc
       ·rw [Option.map_eq_some_iff] at hc;obtain ⟨⟨evs,s'⟩,hX,rfl⟩:=hc;refine ⟨fun q=>?_,hq.2.2,Nat.succ_pos _⟩;dsimp only at q ⊢;have hk:¬ kind=69:=of_decide_eq_false q;unfold uH at hX;rw [if_neg hk] at hX;split at hX
        ·cases hX
        ·split at hX
         ·cases hX
         ·rename_i evs2 s2 hp;unfold nG at hp;split at hp
          ·cases hp
          ·rename_i hg;omega
def RdC (h:Nat→Hb) (bs:List Nat) (f:Fl) (a:Nat):Prop:=∃ ce cs cp tl,h 1=.cells (.d (.im (byR bs)) :: .d (dI (a:Int)) :: ce :: cs :: cp :: tl)∧(Hc.pa h ce=some (.im (f.es.map Ev.row))∧Hc.pa h cs=some (.im (f.d.st.map aV))∧Hc.pa h cp=some (.im (f.d.pr.map fun x=>[dI x])))∧(ce.cl.hc=some ce∧cs.cl.hc=some cs∧cp.cl.hc=some cp)∧tl.length=12
def Ti (bs:List Nat):List Hc:=.d (.im (byR bs)) :: .d (dI 8) :: kL :: kL :: kL :: .h (.m 0) :: (ev0.row.map .d ++ [.d (.sc (.bool false)),.d (.sc (.bool false))])
def RdU (H:Nat→Hb) (bs:List Nat) (f:Fl) (a:Nat):Prop :=
 (∃ N ye ys yp sh,zY H N 1 0 ye ys yp bs (a:Int) (lst ev0 f.es) sh f.en f.es f.d∧(f.en=false→(sh=true↔jY f))) ∨
 (f=fl0∧a=8∧H 1=.cells (Ti bs)∧H 0=.map 113 [] 0∧∀ b,2≤b→H b=.no)
theorem zY.c {H:Nat→Hb} {N ye ys yp:Nat} {bs:List Nat} {a:Nat} {lr:Ev} {sh en:Bool} {f:Fl} (h:zY H N 1 0 ye ys yp bs (a:Int) lr sh en f.es f.d):RdC H bs f a :=
 ⟨.h (.v ye),.h (.v ys),.h (.v yp),_,h.h,⟨by simp [Hc.pa,h.e],by simp [Hc.pa,h.s],by simp [Hc.pa,h.p]⟩,⟨rfl,rfl,rfl⟩,rfl⟩
theorem RdU.c {H:Nat→Hb} {bs:List Nat} {f:Fl} {a:Nat} (h:RdU H bs f a):RdC H bs f a:=by
 rcases h with ⟨N,ye,ys,yp,sh,h,_⟩ | ⟨rfl,rfl,h1,h2,h3⟩
 ·exact h.c
 ·exact ⟨kL,kL,kL,_,h1,⟨rfl,rfl,rfl⟩,⟨rfl,rfl,rfl⟩,rfl⟩
theorem RdU.en {H:Nat→Hb} {bs:List Nat} {f:Fl} {a:Nat} (h:RdU H bs f a):∃ (ce cs cp:Hc) (bR:Nat) (l:Ev) (sh:Bool),H 1=.cells (.d (.im (byR bs)) :: .d (dI (a:Int)) :: ce :: cs :: cp :: .h (.m bR) :: (l.row.map .d ++ [.d (.sc (.bool sh)),.d (.sc (.bool f.en))])):=by
 rcases h with ⟨N,ye,ys,yp,sh,h,_⟩ | ⟨rfl,rfl,h1,h2,h3⟩
 ·exact ⟨_,_,_,_,_,_,h.h⟩
 ·exact ⟨_,_,_,_,_,_,h1⟩
theorem HY {f:Fl} {x:NX} (h:x.en=false→x.c≤16):(f.nx x).en=false→((!x.en && decide (x.c < 16))=true↔jY (f.nx x)):=by
 intro hx;have hx:x.en=false:=hx;have hc:=h hx;unfold Fl.nx jY;dsimp only;rw [if_neg (by rw [hx];simp),hx,List.getLast?_concat]
 simp only [Bool.not_false,Bool.true_and,decide_eq_true_eq,Option.some.injEq];constructor
 ·intro q;exact ⟨x.c,rfl,by omega⟩
 ·rintro ⟨n,rfl,q⟩;omega
theorem RdU.next {H:Nat→Hb} {bs:List Nat} {f:Fl} {a:Nat} (h:RdU H bs f a) (hen:f.en=false) (hi:FlI f) (ha:a≤bs.length) (hbl:bs.length≤300000) (hby:∀ x ∈ bs,x≤255) (hd:f.d.st.length+(bs.length - a)≤300000) :
 ∃ Post,RF H [.one (hP 1 0)] Post∧∀ h' r,Post h' r→∃ sh:Bool,(sh=true↔jY f)∧r=[.one (hI ((nW sh f.es.length f.d (lst ev0 f.es) (bs.drop a)).1:Nat))]∧((nW sh f.es.length f.d (lst ev0 f.es) (bs.drop a)).2=none→RdC h' bs f a)∧∀ x,(nW sh f.es.length f.d (lst ev0 f.es) (bs.drop a)).2=some x→RdU h' bs (f.nx x) (a+x.len):=by
 have hpre:O1 bs a (lst ev0 f.es) f.es f.d:=⟨ha,hbl,hby,hi.d,hi.sb,hd,hi.el,hi.g⟩
 have hgo:∀ {H:Nat→Hb} {N ye ys yp sh},zY H N 1 0 ye ys yp bs (a:Int) (lst ev0 f.es) sh f.en f.es f.d→(sh=true↔jY f)→∀ h' r,yH H 1 0 ye ys yp bs a (lst ev0 f.es) f.es (nW sh f.es.length f.d (lst ev0 f.es) (bs.drop a)) h' r→∃ sh:Bool,(sh=true↔jY f)∧r=[.one (hI ((nW sh f.es.length f.d (lst ev0 f.es) (bs.drop a)).1:Nat))]∧((nW sh f.es.length f.d (lst ev0 f.es) (bs.drop a)).2=none→RdC h' bs f a)∧∀ x,(nW sh f.es.length f.d (lst ev0 f.es) (bs.drop a)).2=some x→RdU h' bs (f.nx x) (a+x.len):=by
  intro H N ye ys yp sh hR hsh h' r ⟨p1,p2,p3⟩;refine ⟨sh,hsh,p1,fun q=>?_,fun x q=>?_⟩
  ·obtain ⟨q1,q2,q3,q4⟩:=p2 q;exact ⟨.h (.v ye),.h (.v ys),.h (.v yp),_,q1.trans hR.h,⟨by simp [Hc.pa,q2,hR.e],by simp [Hc.pa,q3,hR.s],by simp [Hc.pa,q4,hR.p]⟩,⟨rfl,rfl,rfl⟩,rfl⟩
  ·obtain ⟨N',ye',ys',yp',hR'⟩:=p3 x q;have hx:=xk (sh:=sh) (n:=f.es.length) (d:=f.d) (l:=lst ev0 f.es) (b:=bs.drop a) (e:=_) (x:=x) (Prod.ext rfl q);refine .inl ⟨N',ye',ys',yp',_,?_,HY hx.2.1⟩;rw [←nV] at hR';exact hR'
 rcases h with ⟨N,ye,ys,yp,sh,hR,hsh⟩ | ⟨rfl,rfl,h1,h2,h3⟩
 ·exact ⟨_,.inr ⟨N,1,0,ye,ys,yp,a,bs,lst ev0 f.es,sh,f.en,f.es,f.d,rfl,hR,hpre,rfl⟩,hgo hR (hsh hen)⟩
 ·have u1:=kS (i:=2) (b:=2) (E:=42) (sz:=9) h1 rfl (h3 2 (by omega)) (by omega);obtain ⟨H1,hH1⟩:∃ H1,up (up H 2 (.vec 42 9 [])) 1 (.cells ((Ti bs).set 2 (.h (.v 2))))=H1:=⟨_,rfl⟩
  rw [hH1] at u1;have v1:H1 1=.cells (.d (.im (byR bs)) :: .d (dI 8) :: .h (.v 2) :: kL :: kL :: .h (.m 0) :: (ev0.row.map .d ++ [.d (.sc (.bool false)),.d (.sc (.bool false))])):=by rw [←hH1];exact dN
  have w1:∀ x,x≠2→x≠1→H1 x=H x:=fun x h1 h2=>u1.ho x h2 h1
  have u2:=kS (i:=3) (b:=3) (E:=50) (sz:=2) v1 rfl ((w1 3 (by omega) (by omega)).trans (h3 3 (by omega))) (by omega);obtain ⟨H2,hH2⟩:∃ H2,up (up H1 3 (.vec 50 2 [])) 1 (.cells ((.d (.im (byR bs)) :: .d (dI 8) :: .h (.v 2) :: kL :: kL :: .h (.m 0) :: (ev0.row.map .d ++ [.d (.sc (.bool false)),.d (.sc (.bool false))]):List Hc).set 3 (.h (.v 3))))=H2:=⟨_,rfl⟩
  rw [hH2] at u2;have v2:H2 1=.cells (.d (.im (byR bs)) :: .d (dI 8) :: .h (.v 2) :: .h (.v 3) :: kL :: .h (.m 0) :: (ev0.row.map .d ++ [.d (.sc (.bool false)),.d (.sc (.bool false))])):=by rw [←hH2];exact dN
  have w2:∀ x,x≠3→x≠1→H2 x=H1 x:=fun x h1 h2=>u2.ho x h2 h1
  have u3:=kS (i:=4) (b:=4) (E:=3) (sz:=1) v2 rfl ((w2 4 (by omega) (by omega)).trans ((w1 4 (by omega) (by omega)).trans (h3 4 (by omega)))) (by omega);obtain ⟨H3,hH3⟩:∃ H3,up (up H2 4 (.vec 3 1 [])) 1 (.cells ((.d (.im (byR bs)) :: .d (dI 8) :: .h (.v 2) :: .h (.v 3) :: kL :: .h (.m 0) :: (ev0.row.map .d ++ [.d (.sc (.bool false)),.d (.sc (.bool false))]):List Hc).set 4 (.h (.v 4))))=H3:=⟨_,rfl⟩
  rw [hH3] at u3;have w3:∀ x,x≠4→x≠1→H3 x=H2 x:=fun x h1 h2=>u3.ho x h2 h1
  have v3:H3 1=iy bs ((8:Nat):Int) 2 3 4 0 (lst ev0 fl0.es) false false:=by rw [←hH3];exact dN
  have hkn0:KnD ⟨[],[]⟩ 0 0=fun _=>False:=by
   funext x
   exact eq_false fun ⟨i,h1,h2,_⟩=>by omega
  have hR:zY H3 5 1 0 2 3 4 bs ((8:Nat):Int) (lst ev0 fl0.es) false fl0.en fl0.es fl0.d:=by
   refine ⟨v3,(w3 2 (by omega) (by omega)).trans ((w2 2 (by omega) (by omega)).trans u1.hb.2),(w3 3 (by omega) (by omega)).trans u2.hb.2,u3.hb.2,⟨[],0,(w3 0 (by omega) (by omega)).trans ((w2 0 (by omega) (by omega)).trans ((w1 0 (by omega) (by omega)).trans h2)),?_⟩,by omega,by omega,fun b hb=>(w3 b (by omega) (by omega)).trans ((w2 b (by omega) (by omega)).trans ((w1 b (by omega) (by omega)).trans (h3 b (by omega))))⟩
   show Kn [] 0 (KnD ⟨[],[]⟩ 0 0)
   rw [hkn0];exact Kn.nil
  have hsh:(false=true↔jY fl0):=⟨fun q=>(by cases q),fun ⟨n,q,_⟩=>(by cases q)⟩;exact ⟨_,.inl ⟨H1,1,2,2,42,9,u1,H2,1,3,3,50,2,u2,H3,1,4,4,3,1,u3,5,1,0,2,3,4,8,bs,lst ev0 fl0.es,false,fl0.en,fl0.es,fl0.d,rfl,hR,hpre,rfl⟩,hgo hR hsh⟩
theorem GZ {sh:Bool} {n:Nat} {d:Dep} {l:Ev} {b:List Nat} {e:Nat} (h:nW sh n d l b=(e,none)):e≠0:=by
 cases b with
 | nil=>unfold nW at h;simp at h;omega
 | cons kind r =>
   unfold nW at h;dsimp only at h
   repeat' (first | (exfalso;simp at h;done) | (simp at h;omega) | split at h)
def D6 (bs:List Nat) (h:Nat→Hb) (r:List Hw):Prop:=(bs.take 8≠bS∧r=[.one (.d (.sc (.pointer none))),.one (hI 8)]) ∨
 ∃ (f:Fl) (a e:Nat),jm bs=((if e=0∧a < bs.length then 8 else e),f,bs.drop a)∧bs.take 8=bS∧a≤bs.length∧r=[.one (hP 1 0),.one (hI (e:Nat))]∧RdC h bs f a∧FlI f
def Et (hp:Nat→Hb) (az:List Hw) (Post:(Nat→Hb)→List Hw→Prop):Prop:=∃ bs:List Nat,hp=(fun _=>.no)∧az=[.one (.d (.im (byR bs)))]∧(bs.length≤300000∧∀ x ∈ bs,x≤255)∧Post=D6 bs
noncomputable def FX:Env:=e1 49 DX (p1 50 RF e0)
theorem zA:aA Try.prog FX:=aA.e1 QX (aA.p1 TF aA.e0)
theorem OD:dU Try.prog 31 Et:=by
 refine sqp31 zA ?_;rintro hp az Post ⟨bs,rfl,rfl,⟨hbl,hby⟩,rfl⟩;obtain ⟨nc,hnc⟩:∃ nc:Nat→Nat,nc=fun x=>if x=0 then 13 else if x=1 then 15 else 1:=⟨_,rfl⟩
 have c0:nc 0=13:=by rw [hnc];rfl
 have c1:nc 1=15:=by rw [hnc];rfl
 refine ⟨by simp,nc,?_⟩;have hhb:∀ x ∈ bS,x≤255:=by decide
 have hpref:DX [dh bs,dh bS] [pB (decide (bs.take 8=bS))]:=⟨bs,bS,rfl,⟨hby,hhb⟩,rfl⟩;unfold pcp31
 with_reducible refine aP ?_
 simp only [↓evP,evB,stB,reduceCtorEq,Nat.reduceEqDiff,Nat.reduceAdd,Nat.reduceLeDiff,Nat.reduceLT];refine aD [pB (decide (bs.take 8=bS))] (by exact hpref) ?_
 by_cases hpr:bs.take 8=bS
 ·have hd1:decide (bs.take 8=bS)=true:=decide_eq_true hpr
  have hal:8≤bs.length:=by
   have:=congrArg List.length hpr;rw [List.length_take] at this;have h8:bS.length=8:=rfl;omega
  simp only [↓evP,evB,stB,reduceCtorEq,Nat.reduceEqDiff,Nat.reduceLT,hd1];refine Az 0 (eH (by simp only [stB,c0]) (by repeat' (first | exact aH.init | assumption | exact aO (by assumption) | (refine aH.ap ?_ rfl))) (by simp only [stB,Nat.reduceLT])) LG ?_;simp only [evB,stB,Nat.reduceEqDiff,Nat.reduceAdd,Nat.reduceLeDiff,Nat.reduceBEq];refine qw 1 (eH (by simp only [stB,c1]) (by repeat' (first | exact aH.init | assumption | exact aO (by assumption) | (refine aH.ap ?_ rfl))) (by simp only [stB,reduceCtorEq,Nat.reduceLT,c0])) (by simp only [stB,Nat.reduceEqDiff];rfl) (by simp only [stB];rfl) ?_
  simp only [↓evP,evB,stB,Nat.reduceEqDiff];obtain ⟨R0,hR0⟩:∃ R0,jm bs=R0:=⟨_,rfl⟩
  have hR1:nH (bs.length+1) (bs.drop 8) fl0=R0:=by
   rw [←hR0];unfold jm;rw [if_neg (fun q=>q hpr)]
  refine dD msp31_0 osp31_0 (fun m st=>∃ (f:Fl) (a:Nat),RdU st.hb bs f a∧FlI f∧a≤bs.length∧f.d.st.length+(bs.length - a)≤300000∧bs.length - a < m∧nH m (bs.drop a) f=R0) (bs.length+1) (by repeat' (first | exact aH.init | assumption | exact aO (by assumption) | (refine aH.ap ?_ rfl))) ?_ ?_
  ·refine ⟨fl0,8,.inr ⟨rfl,rfl,?_,?_,fun b hb=>?_⟩,fl0_i,hal,by show 0+(bs.length - 8)≤_;omega,by omega,hR1⟩
   ·simp only [stB,reduceCtorEq,Nat.reduceLT,c0,c1]
    first | done | rfl
   ·simp only [stB,reduceCtorEq,Nat.reduceLT,c0,c1]
   ·have o1:¬ b=0:=by omega
    have o2:¬ b=1:=by omega
    simp only [stB,Nat.reduceLT,c0,c1,o1,o2]
  rintro m j hjn hja ⟨f,a,hU,hi,ha,hdl,hlt,hres⟩;simp only [stB,hjn] at hU;obtain ⟨m,rfl⟩:∃ m',m=m'+1:=⟨m - 1,by omega⟩
  obtain ⟨ce,cs,cp,bR,l,sh0,hcell⟩:=hU.en;simp only [Ev.row,List.map_cons,List.map_nil,List.cons_append,List.nil_append] at hcell
  cases hen:f.en with
  | true =>
    rw [Hr hen] at hres;rw [hen] at hcell;simp only [↓evP,evB,stB,reduceCtorEq,Nat.reduceEqDiff,Nat.reduceBEq,hjn,hcell,prp31];refine ⟨j.hb,_,rfl,fun b=>.inl ?_,.inr ⟨f,a,0,?_,hpr,ha,rfl,hU.c,hi⟩⟩
    ·first | rfl | rw [vB (by simp only [stB,reduceIte,reduceCtorEq,Nat.reduceEqDiff,Nat.reduceAdd,Nat.reduceMul,Nat.reduceLeDiff,Nat.reduceLT,Nat.reduceSub,Nat.reduceBEq,hjn])]
    ·rw [hR0,←hres]
     congr 1
     by_cases q:a < bs.length
     ·have hne:¬ bs.drop a=[]:=by
       intro q2;have:=congrArg List.length q2;rw [List.length_drop] at this;have h0:([]:List Nat).length=0:=rfl;omega
      rw [if_neg hne,if_pos (⟨rfl,q⟩:0=0∧a < bs.length)]
     ·rw [if_neg (show ¬ (0=0∧a < bs.length) from fun q2=>q q2.2),if_pos (show bs.drop a=[] from List.drop_of_length_le (by omega))]
  | false =>
    rw [hen] at hcell;obtain ⟨Post,hN,hNP⟩:=hU.next hen hi ha hbl hby hdl;simp only [↓evP,evB,stB,reduceCtorEq,Nat.reduceEqDiff,Nat.reduceBEq,hjn,hcell];refine bH Post (by simp only [stB,hjn];exact hN) ?_
    intro h' r' hP';obtain ⟨sh,hsh,rfl,hnone,hsome⟩:=hNP h' r' hP';have hlaw:=N9 (b:=bs.drop a) hsh hen;obtain ⟨⟨e,o⟩,hE⟩:∃ E,nW sh f.es.length f.d (lst ev0 f.es) (bs.drop a)=E:=⟨_,rfl⟩
    rw [hE] at hnone hsome hlaw ⊢;dsimp only at hnone hsome hlaw ⊢
    cases o with
    | none =>
      have he0:=GZ hE;have hne:(((e:Nat):Int) != 0)=true:=by rw [bne_iff_ne];omega
      have hres2:nH (m+1) (bs.drop a) f=(e,f,bs.drop a):=xC hen (by rw [hlaw]) he0;rw [hres2] at hres;simp only [↓evP,evB,stB,reduceCtorEq,Nat.reduceEqDiff,Nat.reduceBEq,hne,prp31];refine ⟨h',_,rfl,fun b=>.inl ?_,.inr ⟨f,a,e,?_,hpr,ha,rfl,hnone rfl,hi⟩⟩
      ·first | rfl | simp only [stB,reduceIte,reduceCtorEq,Nat.reduceEqDiff,Nat.reduceAdd,Nat.reduceMul,Nat.reduceLeDiff,Nat.reduceLT,Nat.reduceSub,Nat.reduceBEq]
      ·rw [hR0,←hres,if_neg (fun q=>he0 q.1)]
    | some x =>
      obtain ⟨e1,e2,e3,e4⟩:=xk hE;subst e1;have hne:(((0:Nat):Int) != 0)=false:=rfl;have hlen:(bs.drop a).length=bs.length - a:=List.length_drop;have hdd:(bs.drop a).drop x.len=bs.drop (a+x.len):=by rw [List.drop_drop]
      have hlaw:oU (bs.drop a) f=(0,f.nx x,bs.drop (a+x.len)):=by rw [←hdd];exact hlaw
      obtain ⟨i1,i2,i3,i4,i5,i6⟩:=MN hi hlaw;rw [Bc hen hlaw] at hres;have hl2:(bs.drop (a+x.len)).length=bs.length - (a+x.len):=List.length_drop;simp only [↓evP,evB,stB,reduceCtorEq,Nat.reduceEqDiff,Nat.reduceBEq,hne]
      refine ⟨_,Nat.lt_succ_self _,(by repeat' (first | assumption | exact aQ (by assumption) | (refine aJ ?_ rfl rfl) | (refine aF ?_ rfl) | (refine aJ ?_ rfl aK) | (refine aF ?_ aK) | (refine bX.in' ?_ (aQ (by assumption)) rfl rfl))),f.nx x,a+x.len,?_,i1,by omega,by omega,by omega,hres⟩;simp only [stB];exact hsome x rfl
 ·have hd1:decide (bs.take 8=bS)=false:=decide_eq_false hpr;simp only [↓evP,evB,stB,reduceCtorEq,Nat.reduceEqDiff,Nat.reduceLT,hd1,prp31];exact ⟨_,_,rfl,fun b=>.inl rfl,.inl ⟨hpr,rfl⟩⟩
noncomputable def Jc:Env:=p1 31 Et e0
theorem tQ:aA Try.prog Jc:=aA.p1 OD aA.e0
def Me (hp:Nat→Hb) (az:List Hw) (Post:(Nat→Hb)→List Hw→Prop):Prop:=∃ bs:List Nat,hp=(fun _=>.no)∧az=[.one (.d (.im (byR bs)))]∧(bs.length≤300000∧∀ x ∈ bs,x≤255)∧Post=fun h r=>r.map (Hw.pa h)=(yP (jm bs)).map some
def MB (hp:Nat→Hb) (az:List Hw) (Post:(Nat→Hb)→List Hw→Prop):Prop:=∃ bs:List Nat,hp=(fun _=>.no)∧az=[.one (.d (.im (byR bs)))]∧(bs.length≤300000∧∀ x ∈ bs,x≤255)∧Post=fun h r=>r.map (Hw.pa h)=(vU bs (jm bs)).map some
theorem Bd {bs:List Nat} (h:bs.take 8≠bS):jm bs=(8,fl0,bs):=by unfold jm;rw [if_pos h]
theorem OB:dU Try.prog 18 Me:=by
 refine sqp18 tQ ?_;rintro hp az Post ⟨bs,rfl,rfl,⟨hbl,hby⟩,rfl⟩;refine ⟨by simp,fun _=>1,?_⟩;have hbr:=aX bs;unfold pcp18
 with_reducible refine aP ?_
 simp only [↓evP,evB,stB,reduceCtorEq,Nat.reduceEqDiff];refine bH (D6 bs) (by simp only [stB,Nat.reduceLT];exact ⟨bs,rfl,rfl,⟨hbl,hby⟩,rfl⟩) ?_
 rintro h' r' (⟨hpr,rfl⟩ | ⟨f,a,e,hM,hpr,ha,rfl,⟨ce,cs,cp,tl,hc,⟨v1,v2,v3⟩,⟨k1,k2,k3⟩,htl⟩,hi⟩)
 ·have e1:((8:Int) == 0)=false:=rfl;have e2:((8:Int) != 0)=true:=rfl;simp only [↓evP,evB,stB,reduceCtorEq,Nat.reduceEqDiff,Nat.reduceAdd,Nat.reduceLeDiff,Nat.reduceLT,Nat.reduceBEq,e1,e2,prp18];refine ⟨_,_,rfl,fun b=>.inl rfl,?_⟩;rw [Bd hpr];rfl
 ·have herr:∀ (H:Nat→Hb) (E:Nat),E≠0→(jm bs).1=E→[Hw.one (.d (.sc (.slice none 0 0))),Hw.one (hI (E:Nat))].length=2→(([Hw.agg [.d (.sc (.slice none 0 0)),.d (.sc (.slice none 0 0)),.d (.sc (.slice none 0 0))],Hw.one (hI (E:Nat))]:List Hw).map (Hw.pa H))=(yP (jm bs)).map some:=fun H E h0 h1 _=>by
   unfold yP;rw [h1,if_neg h0];rfl
  by_cases he:e=0
  ·have e1:(((e:Nat):Int) == 0)=true:=by rw [he];rfl
   by_cases hlt:(a:Int) < (bs.length:Int)
   ·have e2:((8:Int) != 0)=true:=rfl;rw [if_pos ⟨he,by omega⟩] at hM;simp only [↓evP,evB,stB,reduceCtorEq,Nat.reduceEqDiff,Nat.reduceAdd,Nat.reduceLeDiff,Nat.reduceLT,Nat.reduceBEq,hc,hbr,e1,e2,hlt,prp18];refine ⟨_,_,rfl,fun b=>.inl rfl,herr _ 8 (by decide) (by rw [hM]) rfl⟩
   ·have e2:(((e:Nat):Int) != 0)=false:=by rw [he];rfl
    rw [if_neg (show ¬ (e=0∧a < bs.length) by omega)] at hM;simp only [↓evP,evB,stB,reduceCtorEq,Nat.reduceEqDiff,Nat.reduceAdd,Nat.reduceLeDiff,Nat.reduceLT,Nat.reduceBEq,hc,hbr,e1,e2,hlt,htl,k1,k2,k3,prp18];refine ⟨_,_,rfl,fun b=>.inl rfl,?_⟩;rw [hM];unfold yP;dsimp only;rw [if_pos he];simp only [List.map_cons,List.map_nil,Hw.pa,aC,v1,v2,v3,Option.map_some,iO,dZ]
    first | done | rfl
  ·have e1:(((e:Nat):Int) == 0)=false:=by rw [beq_eq_false_iff_ne];omega
   have e2:(((e:Nat):Int) != 0)=true:=by rw [bne_iff_ne];omega
   rw [if_neg (show ¬ (e=0∧a < bs.length) by omega)] at hM;simp only [↓evP,evB,stB,reduceCtorEq,Nat.reduceEqDiff,Nat.reduceAdd,Nat.reduceLeDiff,Nat.reduceLT,Nat.reduceBEq,hc,e1,e2,prp18];refine ⟨_,_,rfl,fun b=>.inl rfl,herr _ e he (by rw [hM]) rfl⟩
theorem OE:dU Try.prog 14 MB:=by
 refine sqp14 tQ ?_;rintro hp az Post ⟨bs,rfl,rfl,⟨hbl,hby⟩,rfl⟩;refine ⟨by simp,fun _=>1,?_⟩;have hbr:=aX bs;unfold pcp14
 with_reducible refine aP ?_
 simp only [↓evP,evB,stB,reduceCtorEq,Nat.reduceEqDiff];refine bH (D6 bs) (by simp only [stB,Nat.reduceLT];exact ⟨bs,rfl,rfl,⟨hbl,hby⟩,rfl⟩) ?_
 rintro h' r' (⟨hpr,rfl⟩ | ⟨f,a,e,hM,hpr,ha,rfl,⟨ce,cs,cp,tl,hc,⟨v1,v2,v3⟩,⟨k1,k2,k3⟩,htl⟩,hi⟩)
 ·simp only [↓evP,evB,stB,reduceCtorEq,Nat.reduceEqDiff,Nat.reduceAdd,Nat.reduceLeDiff,Nat.reduceLT,Nat.reduceBEq,prp14];refine ⟨_,_,rfl,fun b=>.inl rfl,?_⟩;rw [Bd hpr];unfold vU;dsimp only;rw [Nat.sub_self];rfl
 ·simp only [↓evP,evB,stB,reduceCtorEq,Nat.reduceEqDiff,Nat.reduceAdd,Nat.reduceLeDiff,Nat.reduceLT,Nat.reduceBEq,hc,htl];refine ⟨(by unfold Drw;refine Eq.trans (b:=true) ?_ rfl;kernel_rfl),?_⟩
  simp only [stB,Nat.reduceEqDiff,Nat.reduceAdd,Nat.reduceLeDiff,Nat.reduceLT,k1,k2,k3,prp14];refine ⟨_,_,rfl,fun b=>.inl rfl,?_⟩;rw [hM];unfold vU;dsimp only;have hl:bs.length - (bs.drop a).length=a:=by rw [List.length_drop];omega
  rw [hl];simp only [List.map_cons,List.map_nil,Hw.pa,aC,v1,v2,v3,Option.map_some,iO,dZ]
  first | done | rfl
def Ld (ps rs:List Pa):Prop:=∃ bs:List Nat,ps=[dh bs]∧(bs.length≤300000∧∀ x ∈ bs,x≤255)∧rs=yP (jm bs)
def Lh (ps rs:List Pa):Prop:=∃ bs:List Nat,ps=[dh bs]∧(bs.length≤300000∧∀ x ∈ bs,x≤255)∧rs=vU bs (jm bs)
theorem Rk:Spec Try.prog 18 Ld:=q8 OB (by
 rintro az rs ⟨bs,rfl,hb,rfl⟩;exact ⟨_,⟨bs,rfl,rfl,hb,rfl⟩,fun hp' rs' h=>h⟩)
theorem Ro:Spec Try.prog 14 Lh:=q8 OE (by
 rintro az rs ⟨bs,rfl,hb,rfl⟩;exact ⟨_,⟨bs,rfl,rfl,hb,rfl⟩,fun hp' rs' h=>h⟩)
theorem Sj {es:List Ev} {d:Dep} (h:lgB es d=false):es.length≤80∧d.st.length≤60∧d.pr.length≤60:=by
 unfold lgB at h;simp at h;omega
theorem H7 (l:List Nat):∀ x ∈ fP l,x≤255:=fun x hx=>by
 unfold fP at hx;simp only [List.mem_cons,List.not_mem_nil,or_false] at hx;omega
theorem rE {k:Nat} {c:List Nat} (hk:k≤255) (hc:∀ x ∈ c,x≤255) (hl:c.length≤1000000):∀ x ∈ bN k c,x≤255:=jv (mD hk hc hl) (H7 _)
theorem FI {es:List Ev} {d:Dep} (h:q9 d es):∀ b ∈ bg d es,∀ x ∈ b,x≤255:=fun b hb=>by
 rcases List.mem_append.1 hb with q | q
 ·obtain ⟨k,_,rfl⟩:=List.mem_map.1 q;have:=kH h k;exact rE (by decide) (tH h k) (by omega)
 ·rw [List.mem_singleton.1 q];have:=mG h;exact rE (by decide) (qN h) (by omega)
theorem Dh {es:List Ev} {d:Dep} (h:q9 d es):∀ x ∈ dM es d,x≤255:=by
 refine jv (by decide) fun x hx=>?_
 obtain ⟨b,hb,hx⟩:=List.mem_flatten.1 hx;exact FI h b hb x hx
theorem F8 {es:List Ev} {d:Dep} (h:q9 d es) (he:es.length≤80):(dM es d).length≤200000:=by
 have h1:=uW (l:=bg d es) (c:=30014) fun b q=>kM h b q
 have h2:(bg d es).length≤6:=by rw [iQ];unfold dW;omega
 have h3:=Nat.mul_le_mul_left 30014 h2;have h4:bS.length=8:=rfl;unfold dM;rw [List.length_append];omega
theorem GY {b:List Nat} (h:(rdF 5 true 0 1 b).1=none):(bK ⟨b,false⟩).2.bad=true:=by
 unfold bK;rw [if_neg (by simp)];dsimp only;split
 ·rename_i n r hq;rw [hq] at h;cases h
 ·rfl
theorem Ez {kind:Nat} {C p:List Nat} {f:Fl} (hk:kind=66∨kind=69) (hC:C.length≤1048576) (hp:p <+: bN kind C) (hlt:p.length < (bN kind C).length):oU p f=(8,f,p):=by
 cases p with
 | nil=>rfl
 | cons x q =>
   have hb:bN kind C=kind :: (aZ C.length ++ (C ++ fP (bn kind C))):=by
    unfold bN
    show (kind :: (aZ C.length ++ C)) ++ _=_
    simp only [List.cons_append,List.append_assoc]
   have hs4:(fP (bn kind C)).length=4:=rfl;rw [hb] at hp hlt;obtain ⟨rfl,hq⟩:=List.cons_prefix_cons.1 hp
   have hq2:q.length < (aZ C.length).length+(C.length+4):=by
    rw [List.length_cons,List.length_cons,List.length_append,List.length_append,hs4] at hlt;omega
   unfold oU;dsimp only;rw [if_neg (by omega)]
   rcases Nat.lt_or_ge q.length (aZ C.length).length with h1 | h1
   ·have hqt:q=(aZ C.length).take q.length:=by
     have:=List.prefix_iff_eq_take.1 hq;rw [List.take_append_of_le_length (by omega)] at this;exact this
    have hbad:(bK ⟨q,false⟩).2.bad=true:=GY (by rw [hqt];exact Oq h1)
    rw [if_pos (.inl hbad)]
   ·obtain ⟨t,ht⟩:∃ t,q=aZ C.length ++ t:=by
     have:=List.prefix_iff_eq_take.1 hq;rw [List.take_append,List.take_of_length_le h1] at this;exact ⟨_,this⟩
    subst ht;have htl:t.length < C.length+4:=by rw [List.length_append] at hq2;omega
    rw [gY (by omega)];dsimp only;rw [if_pos (.inr (.inr htl))]
theorem Aj:∀ (l:List (List Nat)) (n:Nat),n < l.flatten.length→∃ j x p,l[j]? = some x∧p <+: x∧p.length < x.length∧l.flatten.take n=(l.take j).flatten ++ p∧n=(l.take j).flatten.length+p.length
 | [],n,h=>absurd h (Nat.not_lt_zero _)
 | x :: l,n,h=>by
   rw [List.flatten_cons,List.length_append] at h
   rcases Nat.lt_or_ge n x.length with h1 | h1
   ·refine ⟨0,x,x.take n,rfl,List.take_prefix _ _,by rw [List.length_take];omega,?_,?_⟩
    ·rw [List.flatten_cons,List.take_append_of_le_length (by omega)];rfl
    ·rw [List.length_take]
     show n=0+_
     omega
   ·obtain ⟨j,y,p,h2,h3,h4,h5,h6⟩:=Aj l (n - x.length) (by omega);refine ⟨j+1,y,p,h2,h3,h4,?_,?_⟩
    ·rw [List.flatten_cons,List.take_append,List.take_of_length_le h1,h5,List.take_succ_cons,List.flatten_cons,List.append_assoc]
    ·rw [List.take_succ_cons,List.flatten_cons,List.length_append];omega
theorem Bw {es:List Ev} {d:Dep} {j:Nat} (h:j≤dW es):(bg d es).take j=(List.range j).map (fQ d es):=by
 unfold bg;rw [List.take_append_of_le_length (by rw [List.length_map,List.length_range];exact h),←List.map_take,List.take_range,Nat.min_eq_left h]
theorem wC {es:List Ev} {d:Dep} {j:Nat} {x:List Nat} (h:(bg d es)[j]? = some x):j≤dW es∧((j < dW es∧x=bN 66 (jE d es j))∨(j=dW es∧x=bN 69 (nR d es))):=by
 have hl:=(List.getElem?_eq_some_iff.1 h).1;rw [iQ] at hl;refine ⟨by omega,?_⟩;unfold bg at h
 rcases Nat.lt_or_ge j (dW es) with h1 | h1
 ·rw [List.getElem?_append_left (by rw [List.length_map,List.length_range];exact h1),List.getElem?_map,List.getElem?_range h1] at h
  cases h;exact .inl ⟨h1,rfl⟩
 ·have hj:j=dW es:=by omega
  rw [List.getElem?_append_right (by rw [List.length_map,List.length_range];exact h1),List.length_map,List.length_range,hj,Nat.sub_self] at h
  cases h;exact .inr ⟨hj,rfl⟩
theorem Kt {es:List Ev} {d:Dep} (hS:dV es d) (hd:d.st.length≤1000) (he:es.length≤1000) {a:Nat} (ha:8≤a) (hlt:a < (dM es d).length) :
 ∃ j x p,(bg d es)[j]? = some x∧p.length < x.length∧jm ((dM es d).take a)=(8,stW d es j,p)∧a=8+((bg d es).take j).flatten.length+p.length:=by
 have h8:bS.length=8:=rfl;have ok:=hS.ok hd he;unfold dM at hlt;rw [List.length_append] at hlt;obtain ⟨j,x,p,h1,h2,h3,h4,h5⟩:=Aj (bg d es) (a - 8) (by omega);obtain ⟨hj,hx⟩:=wC h1;refine ⟨j,x,p,h1,h3,?_,by omega⟩
 have ht:(dM es d).take a=bS ++ (((List.range j).map (fQ d es)).flatten ++ p):=by
  unfold dM;rw [List.take_append,List.take_of_length_le (by omega),h8,h4,Bw hj]
 obtain ⟨m,e1,e2⟩:=Ht hS hd he p hj
 have hcut:oU p (stW d es j)=(8,stW d es j,p):=by
  rcases hx with ⟨_,rfl⟩ | ⟨_,rfl⟩
  ·have:=kH ok j;exact Ez (.inl rfl) (by omega) h2 h3
  ·have:=mG ok;exact Ez (.inr rfl) (by omega) h2 h3
 obtain ⟨m',rfl⟩:∃ m',m=m'+1:=⟨m - 1,by omega⟩
 rw [ht,e1,xC (e:=8) rfl (by rw [hcut]) (by decide)]
def Lm (ps rs:List Pa):Prop:=∃ (es:List Ev) (d:Dep) (x:Int),ps=[iO es d,pI x]∧(d.fU∧fU x)∧rs=[pB true]
noncomputable def M9:Env:=e1 10 O4 (e1 11 S9 (e1 13 KX (e1 18 Ld (e1 14 Lh (e1 20 pU (e1 21 KZ e0))))))
theorem FW:aA Try.prog M9:=aA.e1 SN (aA.e1 TD (aA.e1 Rb (aA.e1 Rk (aA.e1 Ro (aA.e1 vD (aA.e1 Rh aA.e0))))))
theorem FP {es:List Ev} {d:Dep} (hS:dV es d) (hd:d.st.length≤1000) (he:es.length≤1000) {a:Nat} (hlt:a < (dM es d).length) :
 ∃ (j:Nat) (u:List Ev) (dd:Dep) (n:Nat),yP (jm ((dM es d).take a))=[iO [] ⟨[],[]⟩,pI (8:Nat)]∧vU ((dM es d).take a) (jm ((dM es d).take a))=[iO u dd,pI (n:Nat)]∧u <+: es∧n≤a ∧
   j < (bg d es).length∧(∀ i,i < j→8+((bg d es).take i).flatten.length+((bg d es).getD i []).length≤a)∧a < 8+((bg d es).take j).flatten.length+((bg d es).getD j []).length ∧
   (a < 8→n=0∧u=[]∧j=0)∧(8≤a→n=8+((bg d es).take j).flatten.length∧u.length=min (16 * j) es.length):=by
 have h8:bS.length=8:=rfl;have hal:((dM es d).take a).length=a:=by rw [List.length_take];omega
 rcases Nat.lt_or_ge a 8 with ha | ha
 ·have hno:((dM es d).take a).take 8≠bS:=fun q=>by
   have:=congrArg List.length q;rw [List.length_take,hal,h8] at this;omega
  have hrd:jm ((dM es d).take a)=(8,fl0,(dM es d).take a):=by unfold jm;rw [if_pos hno]
  have hb0:0 < (bg d es).length:=by rw [iQ];omega
  have hgt:((bg d es).getD 0 []).length≥1:=by
   rw [List.getD_eq_getElem?_getD,List.getElem?_eq_getElem hb0];have hg:(bg d es)[0]? = some (bg d es)[0]:=List.getElem?_eq_getElem hb0
   show 1≤((bg d es)[0]).length
   rcases (wC hg).2 with ⟨_,q⟩ | ⟨_,q⟩ <;> rw [q] <;> unfold bN bn <;> rw [List.length_append,List.length_cons] <;> omega
  refine ⟨0,[],⟨[],[]⟩,0,?_,?_,List.nil_prefix,Nat.zero_le _,hb0,fun i hi=>absurd hi (Nat.not_lt_zero _),?_,fun _=>⟨rfl,rfl,rfl⟩,fun q=>absurd q (by omega)⟩
  ·rw [hrd];rfl
  ·rw [hrd];unfold vU;dsimp only;rw [Nat.sub_self];rfl
  ·rw [List.take_zero]
   show a < 8+0+_
   omega
 ·obtain ⟨j,x,p,h1,h2,h3,h4⟩:=Kt hS hd he ha hlt;have hjl:=(List.getElem?_eq_some_iff.1 h1).1;have hgd:∀ i y,(bg d es)[i]? = some y→(bg d es).getD i []=y:=fun i y q=>by rw [List.getD_eq_getElem?_getD,q];rfl
  have htl:(es.take (16 * j)).length=min (16 * j) es.length:=List.length_take;refine ⟨j,es.take (16 * j),(stW d es j).d,8+((bg d es).take j).flatten.length,?_,?_,List.take_prefix _ _,by omega,hjl,fun i hi=>?_,?_,fun q=>absurd q (by omega),fun _=>⟨rfl,htl⟩⟩
  ·rw [h3];rfl
  ·rw [h3];unfold vU;dsimp only;rw [hal,show a - p.length=8+((bg d es).take j).flatten.length by omega];rfl
  ·have hg:(bg d es)[i]? = some ((bg d es)[i]'(by omega)):=List.getElem?_eq_getElem (by omega);rw [hgd i _ hg];have e1:(bg d es).take (i+1)=(bg d es).take i ++ [(bg d es)[i]'(by omega)]:=take_at hg
   have e2:((bg d es).take (i+1)).flatten.length≤((bg d es).take j).flatten.length:=by
    have e3:(bg d es).take j=(bg d es).take (i+1) ++ ((bg d es).take j).drop (i+1):=by
     have:=(List.take_append_drop (i+1) ((bg d es).take j)).symm;rw [List.take_take,Nat.min_eq_left (by omega)] at this;exact this
    rw [e3,List.flatten_append,List.length_append];omega
   rw [e1,List.flatten_append,List.length_append] at e2;simp only [List.flatten_cons,List.flatten_nil,List.append_nil] at e2;omega
  ·rw [hgd j _ h1];omega
theorem SQ:Spec Try.prog 8 Lm:=by
 refine sp8 FW ?_;rintro ps rs ⟨es,d,x,rfl,⟨h64,hx64⟩,rfl⟩;refine ⟨by simp,?_⟩;unfold fU at hx64;unfold pc8
 with_reducible refine aP ?_
 simp only [↓evP,evB,stB,iO,dZ,Pa.bv];refine aD [pB true] (by exact ⟨rfl,rfl⟩) ?_;simp only [↓evP,evB,stB,reduceCtorEq,Nat.reduceEqDiff,Nat.reduceAdd,Nat.reduceLeDiff,Pa.bv];refine aD [pB (lgB es d)] (by exact ⟨es,d,rfl,rfl⟩) ?_
 cases hlg:lgB es d with
 | true=>simp only [↓evP,evB,stB,reduceCtorEq,Nat.reduceEqDiff,Nat.reduceAdd,Nat.reduceLeDiff,pr8]
 | false =>
 obtain ⟨l1,l2,l3⟩:=Sj hlg
 by_cases hS:¬ dV es d
 ·have henc:=uO hS;have e1:((1:Int) != 0)=true:=rfl;simp only [↓evP,evB,stB,reduceCtorEq,Nat.reduceEqDiff,Nat.reduceAdd,Nat.reduceLeDiff,Pa.bv];refine aD [dh [],pI 1] (by exact ⟨es,d,rfl,⟨by omega,by omega,by omega⟩,henc.symm⟩) ?_;simp only [↓evP,evB,stB,reduceCtorEq,Nat.reduceEqDiff,e1,pr8]
 have hS:dV es d:=Classical.not_not.1 hS;have ok:=hS.ok (by omega) (by omega);have hfb:=Dh ok;have hfl:=F8 ok l1;have henc:=kI hS;obtain ⟨F,hF⟩:∃ F,dM es d=F:=⟨_,rfl⟩
 have hcut:=fun a=>FP hS (by omega) (by omega) (a:=a)
 rw [hF] at hfb hfl henc hcut;have hFl:=aX F;have hFa:=dO F;have e0:((0:Int) != 0)=false:=rfl;simp only [↓evP,evB,stB,reduceCtorEq,Nat.reduceEqDiff,Nat.reduceAdd,Nat.reduceLeDiff,Pa.bv];refine aD [dh F,pI 0] (by exact ⟨es,d,rfl,⟨by omega,by omega,by omega⟩,henc.symm⟩) ?_
 by_cases x0:x < 0
 ·simp only [↓evP,evB,stB,reduceCtorEq,Nat.reduceEqDiff,dh,e0,x0,decide_true,pr8]
 by_cases x1:x≥(F.length:Int)
 ·simp only [↓evP,evB,stB,reduceCtorEq,Nat.reduceEqDiff,dh,hFl,e0,x0,x1,decide_true,decide_false,pr8]
 obtain ⟨a,rfl⟩:∃ a:Nat,x=(a:Int):=⟨x.toNat,by omega⟩
 obtain ⟨j,u,dd,n,f1,f2,f3,f4,f5,f6,f7,f8,f9⟩:=hcut a (by omega);have hbt:∀ y ∈ F.take a,y≤255:=fun y hy=>hfb y (List.mem_of_mem_take hy)
 have htl:(F.take a).length≤300000:=by rw [List.length_take];omega
 have s1:(a:Int)≤(F.length:Int):=by omega
 have s0:(0:Int)≤(a:Int):=by omega
 have htk:List.take a (byR F)=byR (F.take a):=by unfold byR;rw [List.map_take]
 simp only [↓evP,evB,stB,reduceCtorEq,Nat.reduceEqDiff,dh,hFl,hFa,e0,x0,x1,s0,s1,htk,decide_false];refine aD [iO [] ⟨[],[]⟩,pI (8:Nat)] (by exact ⟨F.take a,rfl,⟨htl,hbt⟩,f1.symm⟩) ?_;simp only [↓evP,evB,stB,Nat.reduceEqDiff,Nat.reduceAdd,Nat.reduceLeDiff,hFl,hFa,iO,dZ,s0,s1,htk];refine aD [iO u dd,pI (n:Nat)] (by exact ⟨F.take a,rfl,⟨htl,hbt⟩,f2.symm⟩) ?_;have g1:((((8:Nat):Int)) != 8)=false:=rfl;have g2:¬ ((n:Int) > (a:Int)):=by omega
 have hul:(u.map Ev.row).length=u.length:=List.length_map ..;have hel:(es.map Ev.row).length=es.length:=List.length_map ..;have hule:=f3.length_le;have g3:¬ ((u.length:Int) > (es.length:Int)):=by omega
 simp only [↓evP,evB,stB,reduceCtorEq,Nat.reduceEqDiff,Nat.reduceAdd,Nat.reduceLeDiff,iO,dZ,hul,hel,g1,g2,g3,decide_false];refine bP ms8_0 os8_0 (fun m st=>∃ i:Nat,m=u.length - i∧i≤u.length∧st.sl 69=aI i) u.length ?_ ?_
 ·exact ⟨0,rfl,Nat.zero_le _,by simp only [stB,Nat.reduceEqDiff];first | done | rfl⟩
 rintro m z ⟨i,rfl,hi,h69⟩;simp only [stB,Nat.reduceEqDiff,Nat.reduceBEq] at h69
 rcases Nat.lt_or_ge i u.length with hiu | hiu
 ·have gi:(i:Int) < (u.length:Int):=by omega
  have gi0:(0:Int)≤(i:Int):=by omega
  have ga:u[i]? = some (u[i]):=List.getElem?_eq_getElem hiu
  have gb:es[i]? = some (u[i]):=by
   obtain ⟨t,rfl⟩:=f3;rw [List.getElem?_append_left hiu,ga]
  generalize u[i]=e at ga gb;have e2:=Na e;simp only [Ev.row,List.map_cons,List.map_nil] at e2;have w3:IntKind.i64.wrap ((i:Int)+1)=((i+1:Nat):Int):=by rw [dL (by omega) (by omega)];omega
  simp only [↓evP,evB,stB,reduceCtorEq,Nat.reduceEqDiff,Nat.reduceAdd,Nat.reduceLeDiff,Nat.reduceBEq,h69,gi,gi0,ga,gb,Ev.row,e2,decide_true];refine ⟨(by unfold Drw;refine Eq.trans (b:=true) ?_ rfl;kernel_rfl),?_⟩
  exact ⟨_,by omega,(by repeat' (first | assumption | exact aY.mpr trivial | exact Within.refl _ _ _ | (refine bB ?_ rfl rfl) | (refine aW ?_ rfl))),i+1,rfl,hiu,by simp only [stB,Nat.reduceEqDiff,Nat.reduceBEq,h69,w3]⟩
 have hie:i=u.length:=by omega
 subst hie;have gi:¬ ((u.length:Int) < (u.length:Int)):=by omega
 have hbl:=mE (bg d es);have h8:(byR bS).length=8:=rfl;simp only [↓evP,evB,stB,reduceCtorEq,Nat.reduceEqDiff,Nat.reduceAdd,Nat.reduceLeDiff,Nat.reduceBEq,h69,gi,decide_false];refine aD [.one (.im (oV (bg d es)))] (by exact ⟨es,d,rfl,ok,rfl⟩) ?_;simp only [↓evP,evB,stB,Nat.reduceEqDiff,Nat.reduceBEq];refine aD [dh bS] (by exact ⟨rfl,rfl⟩) ?_;simp only [↓evP,evB,stB,Nat.reduceEqDiff,Nat.reduceBEq,dh,h8];obtain ⟨L,hL⟩:∃ L,bg d es=L:=⟨_,rfl⟩
 have hLl:L.length≤6:=by rw [←hL,iQ];unfold dW;omega
 rw [hL] at f5 f6 f7 f9 hbl;rw [hL];refine bP ms8_1 os8_1 (fun m st=>∃ i:Nat,m=j - i∧i≤j∧st.sl 14=aI i∧st.sl 13=aI ((8+((L.take i).flatten).length:Nat):Int)) j ?_ ?_
 ·exact ⟨0,rfl,Nat.zero_le _,by simp only [stB,Nat.reduceEqDiff,Nat.reduceBEq];first | done | rfl,by simp only [stB,Nat.reduceEqDiff,Nat.reduceBEq];first | done | rfl⟩
 rintro m z2 ⟨i,rfl,hi,h14,h13⟩;simp only [stB,Nat.reduceEqDiff,Nat.reduceBEq] at h14 h13;have hiL:i < L.length:=by omega
 have gx:L[i]? = some (L[i]):=List.getElem?_eq_getElem hiL;have hgd:L.getD i []=L[i]:=by rw [List.getD_eq_getElem?_getD,gx];rfl
 generalize L[i]=X at gx hgd;have gr:(oV L)[i]? = some [.im (byR X)]:=by unfold oV;rw [List.getElem?_map,gx];rfl
 have hXl:=aX X;have i1:(i:Int) < (L.length:Int):=by omega
 have i0:(0:Int)≤(i:Int):=by omega
 obtain ⟨sz,hsz⟩:∃ sz,8+((L.take i).flatten).length=sz:=⟨_,rfl⟩
 rw [hsz] at h13
 have hXb:X.length≤30014:=by
  have:=kM ok X (by rw [hL];exact List.mem_of_getElem? gx)
  exact this
 have hsb:sz≤200000:=by
  have q1:(L.take i).flatten.length≤L.flatten.length:=by
   have:=congrArg List.length (congrArg List.flatten (List.take_append_drop i L));rw [List.flatten_append,List.length_append] at this;omega
  have q2:F.length=8+L.flatten.length:=by
   rw [←hF,←hL];unfold dM;rw [List.length_append];rfl
  omega
 have wsz:IntKind.i64.wrap ((sz:Int)+(X.length:Int))=((sz+X.length:Nat):Int):=by rw [dL (by omega) (by omega)];omega
 have wi:IntKind.i64.wrap ((i:Int)+1)=((i+1:Nat):Int):=by rw [dL (by omega) (by omega)];omega
 rcases Nat.lt_or_ge i j with hij | hij
 ·have hle:((sz+X.length:Nat):Int)≤(a:Int):=by
   have:=f6 i hij;rw [hgd,hsz] at this;omega
  have hnx:8+((L.take (i+1)).flatten).length=sz+X.length:=by
   rw [take_at gx,List.flatten_append,List.length_append];simp only [List.flatten_cons,List.flatten_nil,List.append_nil];omega
  simp only [↓evP,evB,stB,reduceCtorEq,Nat.reduceEqDiff,Nat.reduceBEq,h14,h13,hbl,i0,i1,gr,hXl,wsz,hle,decide_true]
  exact ⟨_,by omega,(by repeat' (first | assumption | exact aY.mpr trivial | exact Within.refl _ _ _ | (refine bB ?_ rfl rfl) | (refine aW ?_ rfl))),i+1,rfl,hij,by simp only [stB,Nat.reduceEqDiff,Nat.reduceBEq,h14,wi],by simp only [stB,Nat.reduceEqDiff,Nat.reduceBEq];rw [hnx]⟩
 ·have hji:i=j:=by omega
  subst hji
  have hle:¬ ((sz+X.length:Nat):Int)≤(a:Int):=by
   rw [hgd,hsz] at f7;omega
  simp only [↓evP,evB,stB,reduceCtorEq,Nat.reduceEqDiff,Nat.reduceBEq,h14,h13,hbl,i0,i1,gr,hXl,wsz,hle,decide_true,decide_false];refine aD [dh bS] (by exact ⟨rfl,rfl⟩) ?_
  rcases Nat.lt_or_ge a 8 with ha | ha
  ·obtain ⟨rfl,rfl,_⟩:=f8 ha;have a8:(a:Int) < ((8:Nat):Int):=by omega
   have n0:(((0:Nat):Int) == 0)=true:=rfl;simp only [↓evP,evB,stB,reduceCtorEq,Nat.reduceEqDiff,Nat.reduceBEq,dh,h8,a8,n0,decide_true,pr8]
  ·obtain ⟨q1,q2⟩:=f9 ha;have a8:¬ (a:Int) < ((8:Nat):Int):=by omega
   have n0:((n:Int) == (sz:Int))=true:=by rw [q1,hsz];exact beq_self_eq_true _
   have wm:IntKind.i64.wrap (16 * (i:Int))=((16 * i:Nat):Int):=by rw [dL (by omega) (by omega)];omega
   have hmm:DN false (.int .i64 ((16 * i:Nat):Int)) (.int .i64 (es.length:Int))=some (.int .i64 (u.length:Int)):=by
    rw [q2]
    show some (Value.int .i64 (if (es.length:Int) < ((16 * i:Nat):Int) then (es.length:Int) else ((16 * i:Nat):Int)))=_
    congr 2
    split <;> omega
   have nb:((u.length:Int) == (u.length:Int))=true:=beq_self_eq_true _;simp only [↓evP,evB,stB,reduceCtorEq,Nat.reduceEqDiff,Nat.reduceBEq,dh,h8,h14,h13,a8,n0,hul,hel,wm,List.foldl_cons,List.foldl_nil,hmm,decide_false,pr8]
end Go.Proofs.Ytkafcpnahpfbfaa
end
section
namespace Go.Proofs.Ytkafcpnahpfbfaa
open Go Go.RowKit Go.WideShapes Go.ChangeShapes Go.Deep
set_option maxRecDepth 100000
set_option maxHeartbeats 4000000
theorem Try.laidOut:laidOutB Try.prog=true:=by kernel_rfl
theorem Try.own:ownKnob Try.prog.godebug=none:=by kernel_rfl
theorem ny {x:Int} (h:(Lit.int .i64 x).wf=true):fU x:=by
 simp [Lit.wf,IntKind.min,IntKind.max,IntKind.signed,IntKind.bits] at h;unfold fU;omega
theorem oq {H:Type} {enc:TypeId×Value→H} {P:Program} (hl:laidOutB P=true) {W W':World} (hb:Below W.heap.size W W') :
 ∀ {ts:List TypeId} {vs:List Value} {ds:List (DataW H)} {ps:List MemPlace},(ts.all fun t=>P.readableRec t && decide (t < P.types.size))=true→DataW.TrodAll enc P W 0 (fun _=>true) true ts vs ds ps→DataW.TrodAll enc P W' 0 (fun b=>decide (b < W.heap.size)) true ts vs ds ps
 | [],vs,ds,ps,_,h=>by obtain ⟨rfl,rfl,rfl⟩:=trodAll_nil h;exact trodAll_mk0
 | t :: ts,vs,ds,ps,ht,h=>by
   obtain ⟨v,vs',d,ds',p,q,rfl,rfl,rfl,h1,h2⟩:=trodAll_cons h;simp only [List.all_cons,Bool.and_eq_true,decide_eq_true_eq] at ht;have lt:∀ x ∈ p,x.block < W.heap.size:=by obtain ⟨m,hm⟩:=h1;exact DataW.trod_lt m _ _ _ hm
   exact trodAll_cons_mk (Below.trod hl ht.1.1 ht.1.2 h1 hb lt) (oq hl hb (by rw [Bool.eq_iff_iff] at *;simpa using ht.2) h2)
theorem Spec.true [I:bT] {P:Program} {f:Nat} {R:List Pa→List Pa→Prop} (hs:Spec P f R) {ps:List Pa} (hR:R ps [pB true]) {S:Nat→Nat} {w:World} {vals:Array Value} (hw:I.p w) (hv:RPs S w ps vals) :
 Calls P f vals w fun e w'=>e=.returned (.bool true)∧Below w.heap.size w w':=by
 refine (hs ps _ hR S w vals hw hv).mono ?_;rintro e w' ⟨v,S',rfl,h1,h2,_⟩;exact ⟨by rw [RP.bool h1],h2⟩
section
variable {H:Type} {enc:TypeId×Value→H} {P:Program} {w:World} {base:Nat} {spare:Nat→Bool} {held:Bool}
theorem JQ {t:TypeId} {k:IntKind} (ht:P.underlying t=some (.int k)) (fuel:Nat) (cs:List Value) (x:DataW H×List MemPlace) (h:DataW.trod enc P w base spare held fuel t cs=some x) :
 ∃ l:List Int,l.length=1∧cs=l.map (Value.int k)∧∀ n ∈ l,(Lit.int k n).wf=true:=by
 obtain ⟨n,hn,_,hw⟩:=DataW.trod_int ht h;exact ⟨[n],rfl,hn,fun m hm=>by rw [List.mem_singleton.1 hm];exact hw⟩
theorem rO {t tI:TypeId} {fs:Array Field} (ht:P.underlying t=some (.struct fs)) (hone:oneCellFields P fs=true) (hC:P.cellsOf t=fs.size) (hI:P.underlying tI=some (.int .i64)) (hint0:fs.toList.all (fun f=>f.type == tI)=true) {n:Nat} (hn:fs.size=n)
 (fuel:Nat) (cs:List Value) (x:DataW H×List MemPlace) (h:DataW.trod enc P w base spare held fuel t cs=some x) :
 ∃ l:List Int,l.length=n∧cs=l.map (Value.int .i64)∧∀ n ∈ l,(Lit.int .i64 n).wf=true:=by
 have hint:∀ (i:Nat) (f:Field),fs[i]? = some f→P.underlying f.type=some (.int .i64):=fun i f hf=>by
  have h1:=List.all_eq_true.1 hint0 f (List.mem_of_getElem? (i:=i) (by simpa using hf));rw [beq_iff_eq.1 h1];exact hI
 subst hn;obtain ⟨xs,m,_,_,hl,hlen,hfs⟩:=DataW.trod_struct ht h;rw [hC] at hl
 have key:∀ i,∃ x:Int,i < fs.size→cs[i]? = some (.int .i64 x)∧(Lit.int .i64 x).wf=true:=by
  intro i
  by_cases hi:i < fs.size
  ·have hfi:fs[i]? = some fs[i]:=Array.getElem?_eq_getElem hi;obtain ⟨ho,hk⟩:=hone_of hone i _ hfi;have h1:=hfs i _ hfi;rw [ho,hk] at h1;have hic:i < cs.length:=by omega
   have hone':(cs.drop i).take 1=[cs[i]'hic]:=by
    rw [List.drop_eq_getElem_cons hic];rfl
   rw [hone'] at h1;have hxs:xs[i]? = some (xs[i]'(by omega)):=List.getElem?_eq_getElem _;rw [hxs] at h1;obtain ⟨x,hx,_,hw⟩:=DataW.trod_int (hint i _ hfi) h1;simp at hx;exact ⟨x,fun _=>⟨by rw [List.getElem?_eq_getElem hic,hx],hw⟩⟩
  ·exact ⟨0,fun h=>absurd h hi⟩
 obtain ⟨g,hg⟩:=Classical.skolem.1 key;refine ⟨(List.range fs.size).map g,by simp,?_,fun x hx=>?_⟩
 ·apply List.ext_getElem?
  intro i;simp only [List.getElem?_map]
  rcases Nat.lt_or_ge i fs.size with hi | hi
  ·rw [(hg i hi).1,List.getElem?_range hi];rfl
  ·rw [List.getElem?_eq_none (by omega),List.getElem?_eq_none (by simpa using hi)];rfl
 ·simp only [List.mem_map,List.mem_range] at hx;obtain ⟨i,hi,rfl⟩:=hx;exact (hg i hi).2
theorem qX {t e:TypeId} {k:IntKind} {n:Nat} (ht:P.underlying t=some (.slice e)) (hC:P.cellsOf e=n) (hn:0 < n)
 (hel:∀ (fuel:Nat) (cs:List Value) (x:DataW H×List MemPlace),DataW.trod enc P w base spare held fuel e cs=some x→∃ l:List Int,l.length=n∧cs=l.map (Value.int k)∧∀ n ∈ l,(Lit.int k n).wf=true)
 {fuel:Nat} {cs:List Value} {x:DataW H×List MemPlace} (h:DataW.trod enc P w base spare held fuel t cs=some x) :
 ∃ (v:Value) (rows:List (List Int)),cs=[v]∧(∀ r ∈ rows,r.length=n∧∀ y ∈ r,(Lit.int k y).wf=true)∧∀ S:Nat→Nat,(∀ b i,(w.cell? ⟨b,i,none⟩).isSome=true→i < S b)→RD S w (.im (rows.map fun r=>r.map fun y=>.sc (.int k y))) v:=by
 rcases open_slice ht h with ⟨hcs,_⟩ | ⟨A,len,cap,m,n',D,Pl,hcs,_,hnc,hcm,hm,_,hi⟩
 ·exact ⟨_,[],hcs,fun r hr=>(by cases hr),fun S _=>.emp none 0 (Nat.zero_le _)⟩
 ·have hlm:len≤m:=by rw [hm];split <;> omega
  have key:∀ i,∃ l:List Int,i < len→l.length=n∧(∀ y ∈ l,(Lit.int k y).wf=true)∧∀ j,j < n→w.cell? (A.add (i * n+j))=(l[j]?).map (Value.int k):=by
   intro i
   by_cases hlt:i < len
   ·obtain ⟨cs',hc,ht'⟩:=hi i (by omega);obtain ⟨l,h1,h2,h3⟩:=hel _ _ _ ht';rw [hC] at hc;obtain ⟨_,hcl,hat⟩:=World.cells?_some hc;refine ⟨l,fun _=>⟨h1,h3,fun j hj=>?_⟩⟩;rw [←Go.Deep.add_add,hat j hj,h2,List.getElem?_map]
   ·exact ⟨[],fun h=>absurd h hlt⟩
  obtain ⟨f,hf⟩:=Classical.skolem.1 key;refine ⟨_,(List.range len).map f,hcs,fun r hr=>?_,fun S hS=>?_⟩
  ·obtain ⟨i,hi1,rfl⟩:=List.mem_map.1 hr;have:=hf i (List.mem_range.1 hi1);exact ⟨this.1,this.2.1⟩
  ·rcases Nat.eq_zero_or_pos len with rfl | hpos
   ·exact .emp (some A) cap hcm
   ·have h0:=hf 0 hpos;have hc0:=h0.2.2 0 hn;have hl0:(f 0)[0]? = some ((f 0)[0]'(by omega)):=List.getElem?_eq_getElem _;rw [hl0] at hc0;have hsp:=World.cell?_spot hc0;obtain ⟨b,o,sp⟩:=A;simp [Addr.add] at hsp;subst hsp;have hln:(((List.range len).map f).map fun r=>r.map fun y=>Dt.sc (.int k y)).length=len:=by simp
    have hadd:∀ q,(⟨b,o,none⟩:Addr).add q=⟨b,o+q,none⟩:=fun q=>by
     unfold Addr.add;split
     ·rename_i hq;rw [hq];rfl
     ·rfl
    have hrw:∀ i,i < len→(((List.range len).map f).map fun r=>r.map fun y=>Dt.sc (.int k y))[i]? = some ((f i).map fun y=>Dt.sc (.int k y)):=fun i hi=>by
     rw [List.getElem?_map,List.getElem?_map,List.getElem?_range hi];rfl
    have:=RD.im (S:=S) (w:=w) (((List.range len).map f).map fun r=>r.map fun y=>Dt.sc (.int k y)) n b o cap (fun i j=>.int k ((f i).getD j 0)) (by rw [hln];exact hnc) hcm (fun r hr=>?_) (fun i j hi hj=>?_) (fun i r j y h1 h2=>?_)
    ·rw [hln] at this;exact this
    ·obtain ⟨r',hr',rfl⟩:=List.mem_map.1 hr;obtain ⟨i,hi1,rfl⟩:=List.mem_map.1 hr';rw [List.length_map];exact (hf i (List.mem_range.1 hi1)).1
    ·rw [hln] at hi;have h1:=(hf i hi).2.2 j hj;have hlj:j < (f i).length:=by rw [(hf i hi).1];exact hj
     rw [hadd,List.getElem?_eq_getElem hlj] at h1
     have h2:w.cell? ⟨b,o+(i * n+j),none⟩=some (.int k ((f i).getD j 0)):=by
      rw [h1,List.getD_eq_getElem?_getD,List.getElem?_eq_getElem hlj];rfl
     exact ⟨h2,hS _ _ (by rw [h2];rfl)⟩
    ·have hlt:=(List.getElem?_eq_some_iff.1 h1).1;rw [hln] at hlt;rw [hrw i hlt] at h1;cases h1;rw [List.getElem?_map] at h2
     cases hj:(f i)[j]? with
     | none=>rw [hj] at h2;cases h2
     | some z =>
       rw [hj] at h2;cases h2;rw [List.getD_eq_getElem?_getD,hj];exact .sc _ rfl
end
theorem Qk {rows:List (List Int)} (h:∀ r ∈ rows,r.length=9):∃ es:List Ev,(rows.map fun r=>r.map fun y=>Dt.sc (.int .i64 y))=es.map Ev.row:=by
 induction rows with
 | nil=>exact ⟨[],rfl⟩
 | cons r rows ih =>
   obtain ⟨es,he⟩:=ih fun x hx=>h x (List.mem_cons_of_mem _ hx)
   have h1:=h r (List.mem_cons_self ..)
   match r,h1 with
   | [a,b,c,d,e,f,g,i,j],_=>exact ⟨⟨a,b,c,d,e,f,g,i,j⟩ :: es,by rw [List.map_cons,he];rfl⟩
theorem KG {rows:List (List Int)} (h:∀ r ∈ rows,r.length=2∧∀ y ∈ r,(Lit.int .i64 y).wf=true):∃ st:List (Int×Int),(rows.map fun r=>r.map fun y=>Dt.sc (.int .i64 y))=st.map aV∧∀ p ∈ st,fU p.1∧fU p.2:=by
 induction rows with
 | nil=>exact ⟨[],rfl,fun p hp=>(by cases hp)⟩
 | cons r rows ih =>
   obtain ⟨es,he,hb⟩:=ih fun x hx=>h x (List.mem_cons_of_mem _ hx)
   obtain ⟨h1,h2⟩:=h r (List.mem_cons_self ..)
   match r,h1,h2 with
   | [a,b],_,h2 =>
     refine ⟨(a,b) :: es,by rw [List.map_cons,he];rfl,fun p hp=>?_⟩
     rcases List.mem_cons.1 hp with rfl | hp
     ·exact ⟨ny (h2 _ (by simp)),ny (h2 _ (by simp))⟩
     ·exact hb p hp
theorem NI {rows:List (List Int)} (h:∀ r ∈ rows,r.length=1∧∀ y ∈ r,(Lit.int .i64 y).wf=true):∃ l:List Int,(rows.map fun r=>r.map fun y=>Dt.sc (.int .i64 y))=(l.map fun x=>[dI x])∧∀ p ∈ l,fU p:=by
 induction rows with
 | nil=>exact ⟨[],rfl,fun p hp=>(by cases hp)⟩
 | cons r rows ih =>
   obtain ⟨es,he,hb⟩:=ih fun x hx=>h x (List.mem_cons_of_mem _ hx)
   obtain ⟨h1,h2⟩:=h r (List.mem_cons_self ..)
   match r,h1,h2 with
   | [a],_,h2 =>
     refine ⟨a :: es,by rw [List.map_cons,he];rfl,fun p hp=>?_⟩
     rcases List.mem_cons.1 hp with rfl | hp
     ·exact ny (h2 _ (by simp))
     ·exact hb p hp
theorem DL {H:Type} {enc:TypeId×Value→H} {w:World} {r:Reach} {b0:Nat} {v:Value} {d:DataW H} {ps:List MemPlace}
 (hv:Value.okWide Try.prog w r b0 28 v) (h:DataW.Trod enc Try.prog w 0 (fun _=>true) true 28 v d ps):∃ (es:List Ev) (dp:Dep),dp.fU∧∀ S:Nat→Nat,(∀ b i,(w.cell? ⟨b,i,none⟩).isSome=true→i < S b)→RP S w (iO es dp) v:=by
 obtain ⟨cs,rfl,hcs⟩:=okWide_struct Try.underlying28 hv;have hc3:cs.size=3:=by rw [hcs];kernel_rfl
 obtain ⟨a,b,c,rfl⟩:∃ a b c,cs=#[a,b,c]:=by
  refine ⟨cs[0]'(by omega),cs[1]'(by omega),cs[2]'(by omega),?_⟩
  apply Array.ext
  ·exact hc3
  ·intro i g1 g2;have:i < 3:=by simpa using g2
   match i,this with
   | 0,_=>rfl
   | 1,_=>rfl
   | 2,_=>rfl
 obtain ⟨fuel,hf⟩:=h;obtain ⟨y0,y1,n,_,_,g0,g1⟩:=trod_struct2 Try.underlying28 hf;have g0':DataW.trod enc Try.prog w 0 (fun _=>true) true n 22 [a]=some y0:=g0;have g1':DataW.trod enc Try.prog w 0 (fun _=>true) true n 26 [b,c]=some y1:=g1;obtain ⟨z0,z1,n',_,_,k0,k1⟩:=trod_struct2 Try.underlying26 g1';have k0':DataW.trod enc Try.prog w 0 (fun _=>true) true n' 23 [b]=some z0:=k0;have k1':DataW.trod enc Try.prog w 0 (fun _=>true) true n' 24 [c]=some z1:=k1;obtain ⟨va,ra,ea,ha,qa⟩:=qX Try.underlying22 (n:=9) (by kernel_rfl) (by decide) (rO Try.underlying42 (by kernel_rfl) (by kernel_rfl) Try.underlying3 (by kernel_rfl) rfl) g0';obtain ⟨vb,rb,eb,hb,qb⟩:=qX Try.underlying23 (n:=2) (by kernel_rfl) (by decide) (rO Try.underlying50 (by kernel_rfl) (by kernel_rfl) Try.underlying3 (by kernel_rfl) rfl) k0'
 obtain ⟨vc,rc,ec,hc,qc⟩:=qX Try.underlying24 (n:=1) (by kernel_rfl) (by decide) (JQ Try.underlying3) k1';cases ea;cases eb;cases ec;obtain ⟨es,he⟩:=Qk fun r hr=>(ha r hr).1
 obtain ⟨st,hs,hs2⟩:=KG hb;obtain ⟨pr,hp,hp2⟩:=NI hc;refine ⟨es,⟨st,pr⟩,⟨hs2,hp2⟩,fun S hS=>⟨_,rfl,rfl,fun i x u h1 h2=>?_⟩⟩
 match i with
 | 0=>cases h1;cases h2;rw [←he];exact qa S hS
 | 1=>cases h1;cases h2;rw [←hs];exact qb S hS
 | 2=>cases h1;cases h2;rw [←hp];exact qc S hS
 | i+3=>simp [dZ] at h1
end Go.Proofs.Ytkafcpnahpfbfaa
end
