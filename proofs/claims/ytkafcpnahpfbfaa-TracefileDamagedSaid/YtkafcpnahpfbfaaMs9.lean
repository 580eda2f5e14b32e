/- The program's reader: the fields of an event, plain. -/
import Derived.Test.YtkafcpnahpfbfaaMs8
set_option linter.unusedSimpArgs false
set_option linter.unusedVariables false
section
namespace Go.Proofs.Ytkafcpnahpfbfaa
open Go Go.RowKit
set_option maxRecDepth 1000000
set_option maxHeartbeats 4000000
def iQ:List Int→Rs→List Int×Rs
 | [],s=>([],s)
 | x :: xs,s=>((x+ug (bU s).1) :: (iQ xs (bU s).2).1,(iQ xs (bU s).2).2)
theorem wY:∀ (a:List Int) (s:Rs),(iQ a s).2.bad=false→s.bad=false
 | [],_,h=>h
 | _ :: a,s,h=>(iy (wY a (bU s).2 h)).1
theorem EZ:∀ (a:List Int) (s:Rs),(iQ a s).2.bad=false→pQ a s=iQ a s
 | [],_,_=>rfl
 | x :: a,s,h=>by
   have h1:(iQ a (bU s).2).2.bad=false:=h;have h2:=wY a _ h1;have h3:=(iy h2).2
   show ((x+ug (bN s).1) :: (pQ a (bN s).2).1,(pQ a (bN s).2).2)=_
   rw [h3,EZ a _ h1];rfl
theorem wX:∀ (a:List Int) (s:Rs),s.bad=true→(pQ a s).2.bad=true
 | [],_,h=>h
 | _ :: a,s,h=>wX a (bN s).2 (nQ h)
theorem AP:∀ (a:List Int) (s:Rs),(iQ a s).2.bad=true→(pQ a s).2.bad=true
 | [],_,h=>h
 | _ :: a,s,h=>by
   show (pQ a (bN s).2).2.bad=true
   cases h2:(bU s).2.bad with
   | false =>
     rw [(iy h2).2];exact AP a (bU s).2 h
   | true=>exact wX a _ (jO h2)
theorem vG:∀ (a b:List Int) (s:Rs),iQ (a ++ b) s=((iQ a s).1 ++ (iQ b (iQ a s).2).1,(iQ b (iQ a s).2).2)
 | [],b,s=>rfl
 | x :: a,b,s=>by
   show ((x+ug (bU s).1) :: (iQ (a ++ b) (bU s).2).1,(iQ (a ++ b) (bU s).2).2)=_
   rw [vG a b];rfl
theorem qE:∀ (a:List Int) (s:Rs),(iQ a s).1.length=a.length
 | [],_=>rfl
 | x :: a,s=>by
   show ((x+ug (bU s).1) :: (iQ a (bU s).2).1).length=_
   rw [List.length_cons,qE a,List.length_cons]
theorem vH:∀ (a:List Int) (s:Rs),(iQ a s).2.rest <:+ s.rest
 | [],_=>List.suffix_refl _
 | _ :: a,s=>(vH a (bU s).2).trans (qK s)
def xB (l:List Int) (S:Rs) (k:Nat):List Int:=(iQ (l.take k) S).1 ++ l.drop k
theorem Ht {l:List Int} {S:Rs} {k:Nat} {x:Int} (h:l[k]? = some x):(xB l S k)[k]? = some x∧(xB l S (k+1))=(xB l S k).set k (x+ug (bU (iQ (l.take k) S).2).1)∧(iQ (l.take (k+1)) S).2=(bU (iQ (l.take k) S).2).2:=by
 obtain ⟨hk,rfl⟩:=List.getElem?_eq_some_iff.1 h;have hl:(iQ (l.take k) S).1.length=k:=by rw [qE,List.length_take];omega
 have ht:l.take (k+1)=l.take k ++ [l[k]]:=List.take_succ_eq_append_getElem hk;have hd:l.drop k=l[k] :: l.drop (k+1):=List.drop_eq_getElem_cons hk;refine ⟨?_,?_,?_⟩
 ·unfold xB;rw [List.getElem?_append_right (by omega),hl,Nat.sub_self,hd];rfl
 ·unfold xB;rw [ht,vG,hd,List.set_append_right _ _ (by omega),hl,Nat.sub_self,List.append_assoc];rfl
 ·rw [ht,vG];rfl
theorem Kr (l:List Int) (S:Rs) (k:Nat):(xB l S k).length=l.length:=by
 unfold xB;rw [List.length_append,qE,List.length_take,List.length_drop];omega
def tq:Nat→Ev→Rs→Option (List Ev×Rs)
 | 0,_,s=>some ([],s)
 | k+1,l,s=>if (iQ l.fl s).2.bad=true∨(Az (iQ l.fl s).1).valid=false then none else (tq k (Az (iQ l.fl s).1) (iQ l.fl s).2).map fun p=>(Az (iQ l.fl s).1 :: p.1,p.2)
def nS (sh:Bool) (n a m c:Nat) (l:Ev) (s:Rs):Option (List Ev×Rs) :=
 if sh=true∨c < 1∨16 < c∨5000 < n+c then none else match tq c l s with
 | none=>none
 | some (evs,s')=>if bq evs a=a+m then some (evs,s') else none
theorem EX (k:Nat):∀ (l:Ev) (s:Rs) (evs:List Ev) (s':Rs),tq k l s=some (evs,s')→(∀ e ∈ evs,e.valid=true)∧evs.length=k∧s'.rest <:+ s.rest∧(s.bad=false→s'.bad=false):=by
 induction k with
 | zero =>
   intro l s evs s' h;have h:some (([]:List Ev),s)=some (evs,s'):=h;rw [Option.some.injEq,Prod.mk.injEq] at h;obtain ⟨rfl,rfl⟩:=h;exact ⟨fun e he=>absurd he List.not_mem_nil,rfl,List.suffix_refl _,fun q=>q⟩
 | succ k ih =>
   intro l s evs s' h;unfold tq at h;split at h
   ·cases h
   ·rename_i hq;rw [not_or] at hq;rw [Option.map_eq_some_iff] at h;obtain ⟨⟨e2,s2⟩,h1,h2⟩:=h;rw [Prod.mk.injEq] at h2;obtain ⟨rfl,rfl⟩:=h2;obtain ⟨h3,h4,h5,h6⟩:=ih _ _ e2 s2 h1;refine ⟨fun e he=>?_,by rw [List.length_cons,h4],h5.trans (vH _ s),fun _=>h6 (by simpa using hq.1)⟩
    rcases List.mem_cons.1 he with rfl | he
    ·simpa using hq.2
    ·exact h3 e he
def flC (xs:List Int):List Hc:=xs.map fun x=>.d (dI x)
def pq (xe xs xp bk:Nat) (F:List Int):List Hc:=.h (.v xe) :: .h (.v xs) :: .h (.v xp) :: .h (.m bk) :: flC F
def MI (s:Rs) (xe xs xp bk:Nat) (F:List Int):List Hc:=.d (.im (byR s.rest)) :: .d (.sc (.bool s.bad)) :: pq xe xs xp bk F
theorem Bz (s:Rs) (xe xs xp bk:Nat) (F:List Int):rsH s (pq xe xs xp bk F)=.cells (MI s xe xs xp bk F):=rfl
theorem KC (s:Rs) (xe xs xp bk:Nat) (F:List Int):(MI s xe xs xp bk F).length=F.length+6:=by
 show (_ :: _ :: _ :: _ :: _ :: _ :: flC F).length=_
 simp [flC]
theorem KA {s:Rs} {xe xs xp bk k:Nat} {F:List Int} {x:Int} (h:F[k]? = some x):(MI s xe xs xp bk F)[k+6]? = some (.d (dI x)):=by
 show (flC F)[k]? = _
 unfold flC;rw [List.getElem?_map,h];rfl
theorem KE (s:Rs) (xe xs xp bk k:Nat) (F:List Int) (x:Int):(MI s xe xs xp bk F).set (k+6) (.d (dI x))=MI s xe xs xp bk (F.set k x):=by
 show _ :: _ :: _ :: _ :: _ :: _ :: (flC F).set k _=_
 unfold flC;rw [←List.map_set (f:=fun x=>Hc.d (dI x))];rfl
structure VAt (hp H:Nat→Hb) (N N' bp bk xe xs xp x1:Nat) (s:Rs) (F:List Int) (evs:List Ev):Prop where
 h:H bp=rsH s (pq x1 xs xp bk F)
 ev:H x1=.vec 42 9 (evs.map Ev.row)
 ne:x1≠bp∧x1 < N'∧N≤N'
 nx:x1=xe∨N≤x1
 o:∀ b,b < N→b≠bp→b≠xe→H b=hp b
 f:∀ b,N'≤b→H b=.no
structure PEv (hp:Nat→Hb) (N bp br bk bR xe xs xp ye ys yp:Nat) (bs:List Nat) (at_:Int) (lr:Ev) (sh en:Bool) (l:Ev) (s:Rs) (es:List Ev) (Q R:List (List Dt)) (c:Nat):Prop where
 lt:bp < N∧br < N∧xe < N∧xs < N∧ye < N∧ys < N
 ne:bp≠br∧bp≠xe∧bp≠xs∧bp≠ye∧bp≠ys∧xe≠br∧xe≠xs∧xe≠ye∧xe≠ys
 hp_:hp bp=rsH s (pq xe xs xp bk l.fl)
 hr:hp br=iE bs at_ ye ys yp bR lr sh en
 he:hp xe=.vec 42 9 []
 hs:hp xs=.vec 50 2 R
 hye:hp ye=.vec 42 9 (es.map Ev.row)
 hys:hp ys=.vec 50 2 Q
 hf:∀ b,N≤b→hp b=.no
 hb:s.rest.length≤400000∧(∀ x ∈ s.rest,x≤255)∧s.bad=false
 hg:evG l∧es.length≤5000∧Q.length≤500000∧R.length≤500000∧c≤4294967295
def LQ (hp:Nat→Hb) (az:List Hw) (Post:(Nat→Hb)→List Hw→Prop):Prop:=∃ (N bp br bk bR xe xs xp ye ys yp:Nat) (bs:List Nat) (at_:Int) (lr:Ev) (sh en:Bool) (l:Ev) (s:Rs) (es:List Ev) (Q R:List (List Dt)) (c:Nat),
 az=[.one (hP bp 0),.one (hP br 0),.one (hI c)]∧PEv hp N bp br bk bR xe xs xp ye ys yp bs at_ lr sh en l s es Q R c ∧
 Post=fun h r=>r=[.one (.d (.sc (.bool (nS sh es.length Q.length R.length c l s).isSome)))]∧(∀ b,b < N→b≠bp→b≠xe→h b=hp b)∧∀ evs s',nS sh es.length Q.length R.length c l s=some (evs,s')→∃ N' x1,VAt hp h N N' bp bk xe xs xp x1 s' (lst l evs).fl evs
def HvR (R:List Pa→List Pa→Prop) (hp:Nat→Hb) (az:List Hw) (hp':Nat→Hb) (rs:List Hw):Prop:=∃ ps v,az.map (Hw.pa hp)=ps.map some∧R ps [.one (.sc v)]∧hp'=hp∧rs=[.one (.d (.sc v))]
theorem KW:fK Try.prog 27 (HvR qM):=FI.TT
noncomputable def Jv:Env:=h1 60 vT (h1 48 Ec (h1 27 (HvR qM) (e1 24 qp e0)))
theorem CY:aA Try.prog Jv:=aA.h1 Ey (aA.h1 ML (aA.h1 KW (aA.e1 xP aA.e0)))
structure NX where
 es:List Ev
 d:Dep
 c:Nat
 en:Bool
 len:Nat
def sG (b r:List Nat):List Nat:=(b.take (1+(vnt r).2+(vnt r).1)).drop (1+(vnt r).2)
def wz (sh:Bool) (n:Nat) (d:Dep) (l:Ev) (kind len:Nat) (body:List Nat):Option NX :=
 if (iJ ⟨body,false⟩ d).2.bad=true then none else
 if (bU (iJ ⟨body,false⟩ d).2).2.bad=true then none else
 if kind=69 then (if (bU (iJ ⟨body,false⟩ d).2).1≠n then none else if (bU (iJ ⟨body,false⟩ d).2).2.rest≠[] then none else some ⟨[],(iJ ⟨body,false⟩ d).1,(bU (iJ ⟨body,false⟩ d).2).1,true,len⟩)
 else match nS sh n d.st.length ((iJ ⟨body,false⟩ d).1.st.length - d.st.length) (bU (iJ ⟨body,false⟩ d).2).1 l (bU (iJ ⟨body,false⟩ d).2).2 with
  | none=>none
  | some (evs,s)=>if s.rest≠[] then none else some ⟨evs,(iJ ⟨body,false⟩ d).1,(bU (iJ ⟨body,false⟩ d).2).1,false,len⟩
def oI (sh:Bool) (n:Nat) (d:Dep) (l:Ev) (b:List Nat):Nat×Option NX:=match b with
 | []=>(8,none)
 | kind :: r=>if kind≠66∧kind≠69 then (8,none) else
   if (vnt r).2=0∨1048576 < (vnt r).1∨(kind :: r).length < 1+(vnt r).2+(vnt r).1+4 then (8,none) else
   if fG ((kind :: r).take (1+(vnt r).2+(vnt r).1))≠((kind :: r).drop (1+(vnt r).2+(vnt r).1)).take 4 then (9,none) else
   match wz sh n d l kind (1+(vnt r).2+(vnt r).1+4) (sG (kind :: r) r) with
   | none=>(8,none)
   | some x=>(0,some x)
theorem O6 {r:List Nat}:((vnt r).2=0↔(bN ⟨r,false⟩).2.bad=true)∧((vnt r).2≠0→(vnt r).1=(bN ⟨r,false⟩).1∧(bN ⟨r,false⟩).2.rest=r.drop (vnt r).2∧(vnt r).2≤r.length):=by
 obtain ⟨h1,h2,h3,h4⟩:=ny ⟨r,false⟩;dsimp only at h1 h2 h3 h4;rw [Bool.false_or] at h3
 cases hb:(bU ⟨r,false⟩).2.bad with
 | false =>
   obtain ⟨_,h5⟩:=iy hb;rw [h5,hb];rw [hb] at h3;have:¬ (vnt r).2=0:=fun q=>by rw [decide_eq_true q] at h3;cases h3
   exact ⟨⟨fun q=>absurd q this,fun q=>by cases q⟩,fun _=>⟨h1.symm,h2,h4⟩⟩
 | true =>
   have h5:=jO hb;rw [hb] at h3;have:(vnt r).2=0:=of_decide_eq_true h3.symm;exact ⟨⟨fun _=>h5,fun _=>this⟩,fun q=>absurd this q⟩
theorem grF (es:List Ev):∀ m:Int,m≤es.foldl (fun m e=>max m e.stack) m∧(∀ e ∈ es,e.stack≤es.foldl (fun m e=>max m e.stack) m)∧(es.foldl (fun m e=>max m e.stack) m=m∨∃ e ∈ es,e.stack=es.foldl (fun m e=>max m e.stack) m):=by
 induction es with
 | nil=>exact fun m=>⟨Int.le_refl _,fun e h=>absurd h List.not_mem_nil,.inl rfl⟩
 | cons e es ih =>
   intro m;obtain ⟨h1,h2,h3⟩:=ih (max m e.stack);rw [List.foldl_cons];refine ⟨by omega,fun x hx=>?_,?_⟩
   ·rcases List.mem_cons.1 hx with rfl | hx
    ·omega
    ·exact h2 x hx
   ·rcases h3 with h3 | ⟨x,hx,h3⟩
    ·by_cases q:e.stack≤m
     ·exact .inl (by rw [h3];omega)
     ·exact .inr ⟨e,List.mem_cons_self ..,by rw [h3];omega⟩
    ·exact .inr ⟨x,List.mem_cons_of_mem _ hx,h3⟩
theorem Ta (es:List Ev):∀ n:Nat,n≤bq es n∧(∀ e ∈ es,(e.stack+1).toNat≤bq es n)∧(bq es n=n∨∃ e ∈ es,(e.stack+1).toNat=bq es n):=by
 induction es with
 | nil=>exact fun n=>⟨Nat.le_refl _,fun e h=>absurd h List.not_mem_nil,.inl rfl⟩
 | cons e es ih =>
   intro n;obtain ⟨h1,h2,h3⟩:=ih (max n (e.stack+1).toNat);have hd:bq (e :: es) n=bq es (max n (e.stack+1).toNat):=rfl;rw [hd];refine ⟨by omega,fun x hx=>?_,?_⟩
   ·rcases List.mem_cons.1 hx with rfl | hx
    ·omega
    ·exact h2 x hx
   ·rcases h3 with h3 | ⟨x,hx,h3⟩
    ·by_cases q:(e.stack+1).toNat≤n
     ·exact .inl (by rw [h3];omega)
     ·exact .inr ⟨e,List.mem_cons_self ..,by rw [h3];omega⟩
    ·exact .inr ⟨x,List.mem_cons_of_mem _ hx,h3⟩
theorem Bc {evs:List Ev} (hv:∀ e ∈ evs,e.valid=true) {a D:Nat} (h:a≤D):bq evs a=D↔(∀ e ∈ evs,e.stack < (D:Int))∧¬ (a < D∧grM evs≠(D:Int) - 1):=by
 have h0:∀ e ∈ evs,0≤e.stack:=fun e he=>(uy (hv e he) e.stack (by simp [Ev.fl])).1
 obtain ⟨n1,n2,n3⟩:=Ta evs a;obtain ⟨g1,g2,g3⟩:=grF evs (-1);have hg:grM evs=evs.foldl (fun m e=>max m e.stack) (-1):=rfl;rw [←hg] at g1 g2 g3;constructor
 ·intro q;rw [q] at n1 n2 n3;have q1:∀ e ∈ evs,e.stack < (D:Int):=fun e he=>by have:=n2 e he;have:=h0 e he;omega
  refine ⟨q1,fun ⟨q2,q3⟩=>?_⟩
  rcases n3 with n3 | ⟨e,he,n3⟩
  ·omega
  ·have:=g2 e he;have:=h0 e he
   rcases g3 with g3 | ⟨x,hx,g3⟩
   ·omega
   ·have:=q1 x hx;omega
 ·rintro ⟨q1,q2⟩
  have h1:bq evs a≤D:=by
   rcases n3 with n3 | ⟨e,he,n3⟩
   ·omega
   ·have:=q1 e he;have:=h0 e he;omega
  by_cases q:a < D
  ·have q3:grM evs=(D:Int) - 1:=Classical.byContradiction fun q4=>q2 ⟨q,q4⟩
   rcases g3 with g3 | ⟨x,hx,g3⟩
   ·omega
   ·have:=n2 x hx;omega
  ·omega
theorem NI (d:Dep) (k:Nat):∀ (l:Ev) (s:Rs),EU k l d s=(match tq k l s with
 | some (evs,s')=>if ∀ e ∈ evs,e.stack < (d.st.length:Int) then some (evs,s') else none
 | none=>none):=by
 induction k with
 | zero =>
   intro l s
   show some _=(if _ then _ else _)
   rw [if_pos (fun e h=>absurd h List.not_mem_nil)]
 | succ k ih =>
   intro l s;unfold EU tq
   cases hb:(iQ l.fl s).2.bad with
   | true =>
     rw [if_pos (.inl (AP _ _ hb)),if_pos (.inl rfl)]
   | false =>
     rw [EZ _ _ hb,hb];generalize Az (iQ l.fl s).1=e;generalize (iQ l.fl s).2=S
     cases hv:e.valid with
     | false=>rw [if_pos (.inr (.inl rfl)),if_pos (.inr rfl)]
     | true =>
       rw [if_neg (show ¬ (false=true∨true=false) by simp)]
       by_cases hst:e.stack < (d.st.length:Int)
       ·rw [if_neg (by simp [hst]),ih]
        cases tq k e S with
        | none=>rfl
        | some p =>
          obtain ⟨evs,s'⟩:=p;dsimp only [Option.map_some]
          by_cases q:∀ e ∈ evs,e.stack < (d.st.length:Int)
          ·rw [if_pos q,if_pos (fun x hx=>by rcases List.mem_cons.1 hx with rfl | hx;exact hst;exact q x hx)];rfl
          ·rw [if_neg q,if_neg (fun q2=>q fun x hx=>q2 x (List.mem_cons_of_mem _ hx))];rfl
       ·rw [if_pos (.inr (.inr hst))]
        cases tq k e S with
        | none=>rfl
        | some p =>
          obtain ⟨evs,s'⟩:=p;dsimp only [Option.map_some];rw [if_neg (fun q2=>hst (q2 e (List.mem_cons_self ..)))]
def Fl.nx (f:Fl) (x:NX):Fl:=⟨f.es ++ x.es,x.d,if x.en=true then f.ns else f.ns ++ [x.c],x.en⟩
theorem Nl {f:Fl} {sh:Bool} {kind len:Nat} {b:List Nat} (hk:kind=66∨kind=69) (hsh:sh=true↔kJ f) (hen:f.en=false):yB kind b f=(wz sh f.es.length f.d (lst ev0 f.es) kind len b).map f.nx:=by
 have hE:iJ ⟨b,false⟩ f.d=kQ (bN ⟨b,false⟩).1 f.d (bN ⟨b,false⟩).2:=rfl;have hl:=vw (bN ⟨b,false⟩).1 f.d (bN ⟨b,false⟩).2;unfold yB wz mQ;rw [←hE] at hl ⊢;generalize iJ ⟨b,false⟩ f.d=E at hl ⊢;obtain ⟨D,S⟩:=E;dsimp only at hl ⊢
 cases hS:S.bad with
 | true =>
   have h1:=nQ hS;rw [if_pos (show true=true from rfl)]
   by_cases k69:kind=69
   ·rw [if_pos k69,if_pos (.inl h1)];rfl
   ·rw [if_neg k69,if_pos (.inl h1)];rfl
 | false =>
   rw [if_neg (show ¬ false=true by simp)]
   cases hp:(bU S).2.bad with
   | true =>
     have h1:=jO hp;rw [if_pos (show true=true from rfl)]
     by_cases k69:kind=69
     ·rw [if_pos k69,if_pos (.inl h1)];rfl
     ·rw [if_neg k69,if_pos (.inl h1)];rfl
   | false =>
     rw [(iy hp).2,hp,if_neg (c:=false=true) (t:=none) (show ¬ false=true by simp)];generalize (bU S).1=c;generalize (bU S).2=T
     by_cases k69:kind=69
     ·rw [if_pos k69,if_pos k69]
      by_cases h1:c=f.es.length
      ·by_cases h2:T.rest=[]
       ·rw [if_neg (show ¬ (false=true∨T.rest≠[]∨c≠f.es.length) from by rintro (q | q | q);exact absurd q (by simp);exact q h2;exact q h1),if_neg (show ¬ c≠f.es.length from fun q=>q h1),if_neg (show ¬ T.rest≠[] from fun q=>q h2)]
        show _=some (f.nx _)
        unfold Fl.nx;dsimp only;rw [List.append_nil,if_pos rfl]
       ·rw [if_pos (show false=true∨T.rest≠[]∨c≠f.es.length from .inr (.inl h2)),if_neg (show ¬ c≠f.es.length from fun q=>q h1),if_pos (show T.rest≠[] from h2)];rfl
      ·rw [if_pos (show false=true∨T.rest≠[]∨c≠f.es.length from .inr (.inr h1)),if_pos (show c≠f.es.length from h1)];rfl
     ·rw [if_neg k69,if_neg k69];unfold nS
      by_cases hg:sh=true∨c < 1∨16 < c∨5000 < f.es.length+c
      ·rw [if_pos hg,if_pos]
       ·rfl
       ·rcases hg with q | q | q | q
        ·exact .inr (.inr (.inr (.inl (hsh.1 q))))
        ·exact .inr (.inl q)
        ·exact .inr (.inr (.inl q))
        ·exact .inr (.inr (.inr (.inr q)))
      ·rw [if_neg hg,if_neg]
       ·rw [NI]
        cases he:tq c (lst ev0 f.es) T with
        | none=>rfl
        | some p =>
          obtain ⟨evs,s'⟩:=p;dsimp only;have hval:=(EX c _ _ _ _ he).1;have hlaw:=Bc hval hl;rw [show f.d.st.length+(D.st.length - f.d.st.length)=D.st.length by omega]
          by_cases q:∀ e ∈ evs,e.stack < (D.st.length:Int)
          ·rw [if_pos q];dsimp only
           by_cases q2:f.d.st.length < D.st.length∧grM evs≠(D.st.length:Int) - 1
           ·rw [if_neg (fun q3=>(hlaw.1 q3).2 q2),if_pos (.inr q2)];rfl
           ·rw [if_pos (hlaw.2 ⟨q,q2⟩)];dsimp only
            by_cases q3:s'.rest=[]
            ·rw [if_neg (show ¬ (s'.rest≠[]∨f.d.st.length < D.st.length∧grM evs≠(D.st.length:Int) - 1) from fun q4=>q4.elim (fun q5=>q5 q3) q2),if_neg (show ¬ s'.rest≠[] from fun q4=>q4 q3)]
             show _=some (f.nx _)
             unfold Fl.nx;dsimp only;rw [if_neg (by simp),hen]
            ·rw [if_pos (show s'.rest≠[]∨f.d.st.length < D.st.length∧grM evs≠(D.st.length:Int) - 1 from .inl q3),if_pos (show s'.rest≠[] from q3)];rfl
          ·rw [if_neg q,if_neg (fun q3=>q (hlaw.1 q3).1)];rfl
       ·rintro (q | q | q | q | q)
        ·cases q
        ·exact hg (.inr (.inl q))
        ·exact hg (.inr (.inr (.inl q)))
        ·exact hg (.inl (hsh.2 q))
        ·exact hg (.inr (.inr (.inr q)))
theorem Oy {b:List Nat} {f:Fl} {sh:Bool} (hsh:sh=true↔kJ f) (hen:f.en=false):pK b f=(match oI sh f.es.length f.d (lst ev0 f.es) b with
 | (_,some x)=>(0,f.nx x,b.drop x.len)
 | (e,none)=>(e,f,b)):=by
 cases b with
 | nil=>rfl
 | cons kind r =>
   obtain ⟨h1,h2⟩:=O6 (r:=r);unfold pK oI;dsimp only
   by_cases hk:kind≠66∧kind≠69
   ·rw [if_pos hk,if_pos hk]
   ·rw [if_neg hk,if_neg hk]
    by_cases h0:(vnt r).2=0
    ·rw [if_pos (.inl (h1.1 h0)),if_pos (.inl h0)]
    ·obtain ⟨h3,h4,h5⟩:=h2 h0;rw [←h3,h4];have hb:¬ (bN ⟨r,false⟩).2.bad=true:=fun q=>h0 (h1.2 q)
     have hld:(r.drop (vnt r).2).length=r.length - (vnt r).2:=List.length_drop
     by_cases hl:1048576 < (vnt r).1∨(r.drop (vnt r).2).length < (vnt r).1+4
     ·rw [if_pos (.inr hl),if_pos];rw [hld] at hl
      rcases hl with q | q
      ·exact .inr (.inl q)
      ·exact .inr (.inr (by rw [List.length_cons];omega))
     ·have hno2:¬ ((vnt r).2=0∨1048576 < (vnt r).1∨(kind :: r).length < 1+(vnt r).2+(vnt r).1+4):=by
       rw [not_or] at hl;rw [hld] at hl;rintro (q | q | q)
       ·exact h0 q
       ·exact hl.1 q
       ·rw [List.length_cons] at q;omega
      rw [if_neg hno2,if_neg (fun q=>q.elim hb hl)]
      ·rw [not_or] at hl;have e1:(kind :: r).length - (r.drop (vnt r).2).length+(vnt r).1=1+(vnt r).2+(vnt r).1:=by rw [hld,List.length_cons];omega
       have e2:(kind :: r).drop (1+(vnt r).2+(vnt r).1)=(r.drop (vnt r).2).drop (vnt r).1:=by
        rw [show 1+(vnt r).2+(vnt r).1=((vnt r).2+(vnt r).1)+1 by omega,List.drop_succ_cons,List.drop_drop]
       have e3:sG (kind :: r) r=(r.drop (vnt r).2).take (vnt r).1:=by
        unfold sG;rw [List.drop_take,show 1+(vnt r).2+(vnt r).1 - (1+(vnt r).2)=(vnt r).1 by omega,show 1+(vnt r).2=(vnt r).2+1 by omega,List.drop_succ_cons]
       rw [e1,e2,e3]
       by_cases hs:((r.drop (vnt r).2).drop (vnt r).1).take 4=fG ((kind :: r).take (1+(vnt r).2+(vnt r).1))
       ·rw [if_neg (show ¬ (((r.drop (vnt r).2).drop (vnt r).1).take 4≠fG ((kind :: r).take (1+(vnt r).2+(vnt r).1))) from fun q=>q hs),if_neg (show ¬ (fG ((kind :: r).take (1+(vnt r).2+(vnt r).1))≠((r.drop (vnt r).2).drop (vnt r).1).take 4) from fun q=>q hs.symm),Nl (len:=1+(vnt r).2+(vnt r).1+4) (by omega) hsh hen]
        cases hc:wz sh f.es.length f.d (lst ev0 f.es) kind (1+(vnt r).2+(vnt r).1+4) ((r.drop (vnt r).2).take (vnt r).1) with
        | none=>rfl
        | some x =>
          dsimp only [Option.map_some]
          have hxl:x.len=1+(vnt r).2+(vnt r).1+4:=by
           unfold wz at hc
           repeat' (first | (cases hc;done) | (cases hc;rfl) | split at hc)
          rw [hxl,show 1+(vnt r).2+(vnt r).1+4=((vnt r).2+((vnt r).1+4))+1 by omega,List.drop_succ_cons,List.drop_drop]
       ·rw [if_pos (show ((r.drop (vnt r).2).drop (vnt r).1).take 4≠fG ((kind :: r).take (1+(vnt r).2+(vnt r).1)) from hs),if_pos (show fG ((kind :: r).take (1+(vnt r).2+(vnt r).1))≠((r.drop (vnt r).2).drop (vnt r).1).take 4 from fun q=>hs q.symm)]
def szW (es:List Ev) (j:Nat):List Nat:=(List.range j).map fun i=>(bP es (16 * i) 16).length
def stW (d:Dep) (es:List Ev) (j:Nat):Fl:=⟨es.take (16 * j),dTk d (bq (es.take (16 * j)) 0),szW es j,false⟩
theorem BF (es:List Ev) (j:Nat):szW es (j+1)=szW es j ++ [(bP es (16 * j) 16).length]:=by
 unfold szW;rw [List.range_succ,List.map_append];rfl
theorem Fz {es:List Ev} {j:Nat}:j < dW es↔16 * j < es.length:=by unfold dW;omega
theorem Ip {d:Dep} {es:List Ev} {j:Nat} (h:j < dW es):¬ kJ (stW d es j):=by
 rintro ⟨n,h1,h2⟩;have h3:=Fz.1 h
 cases j with
 | zero=>cases h1
 | succ j =>
   have h4:(szW es (j+1)).getLast? = some n:=h1;rw [BF,List.getLast?_concat,Option.some.injEq,fV] at h4;omega
theorem F9 {es:List Ev} {d:Dep} (hS:dQ es d) (hd:d.st.length≤1000) (he:es.length≤1000) {j:Nat} (hj:j < dW es):yB 66 (jF d es j) (stW d es j)=some (stW d es (j+1)):=by
 have ok:=hS.ok hd he;obtain ⟨hv,hsb,hev⟩:=hS;have h3:=Fz.1 hj;have hm2:=ok.need (16 * j+16);have hsp:=gY es (16 * j) 16;have hcl:=fV es (16 * j) 16;obtain ⟨m,hm⟩:∃ m,bq (es.take (16 * j)) 0=m:=⟨_,rfl⟩
 obtain ⟨m',hm'⟩:∃ m',bq (es.take (16 * j+16)) 0=m':=⟨_,rfl⟩
 obtain ⟨c,hc⟩:∃ c,bP es (16 * j) 16=c:=⟨_,rfl⟩
 rw [hc] at hsp hcl;have hnc:bq c m=m':=by rw [←hm,←iV,hsp,hm']
 have hmm:m≤m':=by rw [←hnc];exact nk c m
 rw [hm'] at hm2;have hcv:∀ e ∈ c,e.valid=true:=fun e hx=>(hev e (nP (hc ▸ hx))).1
 have hlaw:=(Bc hcv hmm).1 hnc
 have hC:jF d es j=bn (m' - m) ++ (mM d m (m' - m) ++ (bn c.length ++ (eY (lst ev0 (es.take (16 * j))) c ++ []))):=by
  unfold jF qQ;rw [hm,hm',hc,List.append_nil];simp only [List.append_assoc]
 have hlg:evG (lst ev0 (es.take (16 * j))):=uG y8 fun e hx=>(hev e (lD hx)).1
 have hdl:=yD hm2;have hdl0:=yD (d:=d) (a:=m) (by omega)
 have hH:mQ (jF d es j) (dTk d m)=(dTk d m',(c.length,⟨eY (lst ev0 (es.take (16 * j))) c ++ [],false⟩)):=by
  unfold mQ;rw [hC,iw (by omega)];dsimp only;rw [Nz hv hsb (by omega) _ _ _ (by omega),show m+(m' - m)=m' by omega];dsimp only;rw [iw (by omega)]
 have hfd:(stW d es j).d=dTk d m:=by unfold stW;rw [hm]
 have hfe:(stW d es j).es=es.take (16 * j):=rfl;have hfl:(es.take (16 * j)).length=16 * j:=by rw [List.length_take];omega
 unfold yB;rw [if_neg (by decide),hfd,hfe,hH];dsimp only;rw [if_neg (by rintro (q | q | q | q | q);cases q;omega;omega;exact Ip hj q;rw [hfl] at q;omega),EY (dTk d m') [] c _ hlg (fun e hx=>⟨hcv e hx,by rw [hdl];exact hlaw.1 e hx⟩)]
 dsimp only;rw [if_neg (by rintro (q | q);exact q rfl;rw [hdl,hdl0] at q;exact hlaw.2 q)]
 unfold stW;rw [show 16 * (j+1)=16 * j+16 by omega,hm',BF,hc,hsp]
theorem Gx {es:List Ev} {d:Dep} (hS:dQ es d) (hd:d.st.length≤1000) (he:es.length≤1000) (t:List Nat) (m:Nat):∀ (i j:Nat),j+i≤dW es→nT (m+i) (((List.range' j i).map (fQ d es)).flatten ++ t) (stW d es j)=nT m t (stW d es (j+i)):=by
 intro i
 induction i with
 | zero=>intro j h;rfl
 | succ i ih =>
   intro j h;have hj:j < dW es:=by omega
   have hCl:=kU (hS.ok hd he) j;rw [List.range'_succ,List.map_cons,List.flatten_cons,List.append_assoc]
   have hb:pK (fQ d es j ++ (((List.range' (j+1) i).map (fQ d es)).flatten ++ t)) (stW d es j)=(0,stW d es (j+1),((List.range' (j+1) i).map (fQ d es)).flatten ++ t):=by
    unfold fQ;rw [Nh (.inl rfl) (by omega),F9 hS hd he hj]
   rw [show m+(i+1)=(m+i)+1 by omega,Bt rfl hb,ih (j+1) (by omega),show j+1+i=j+(i+1) by omega]
theorem La (d:Dep) (es:List Ev):stW d es 0=fl0:=rfl
theorem Gg (d:Dep) (es:List Ev) (k:Nat):1≤(fQ d es k).length:=by
 unfold fQ bK aX;rw [List.length_append,List.length_cons];omega
theorem NP {l:List (List Nat)} (h:∀ b ∈ l,1≤b.length):l.length≤l.flatten.length:=by
 induction l with
 | nil=>exact Nat.le_refl _
 | cons x l ih =>
   rw [List.length_cons,List.flatten_cons,List.length_append];have:=h x (List.mem_cons_self ..);have:=ih fun b hb=>h b (List.mem_cons_of_mem _ hb)
   omega
theorem Ih {es:List Ev} {d:Dep} (hS:dQ es d) (hd:d.st.length≤1000) (he:es.length≤1000) (t:List Nat) {j:Nat} (hj:j≤dW es):∃ m,kE (bQ ++ (((List.range j).map (fQ d es)).flatten ++ t))=nT m t (stW d es j)∧t.length < m:=by
 have h8:bQ.length=8:=rfl
 have hge:=NP (l:=(List.range j).map (fQ d es)) fun b hb=>by
  obtain ⟨k,_,rfl⟩:=List.mem_map.1 hb;exact Gg d es k
 rw [List.length_map,List.length_range] at hge;have e1:(bQ ++ (((List.range j).map (fQ d es)).flatten ++ t)).take 8=bQ:=by rw [←h8,List.take_left]
 have e2:(bQ ++ (((List.range j).map (fQ d es)).flatten ++ t)).drop 8=((List.range j).map (fQ d es)).flatten ++ t:=by rw [←h8,List.drop_left]
 obtain ⟨L,hL⟩:∃ L,(bQ ++ (((List.range j).map (fQ d es)).flatten ++ t)).length+1=L:=⟨_,rfl⟩
 have hLl:L=8+((((List.range j).map (fQ d es)).flatten).length+t.length)+1:=by rw [←hL,List.length_append,List.length_append,h8]
 refine ⟨L - j,?_,by omega⟩;unfold kE;rw [if_neg (fun q=>q e1),e2,hL,←La d es];have:=Gx hS hd he t (L - j) j 0 (by omega);rw [show L - j+j=L by omega,Nat.zero_add,←List.range_eq_range'] at this;exact this
theorem RY:dY Try.prog 61 LQ:=by
 refine sqp61 CY ?_;rintro hp az Post ⟨N,bp,br,bk,bR,xe,xs,xp,ye,ys,yp,bs,at_,lr,sh,en,l,s,es,Q,R,c,rfl,hP,rfl⟩;refine ⟨by simp,fun _=>1,?_⟩;obtain ⟨⟨l1,l2,l3,l4,l5,l6⟩,⟨n1,n2,n3,n4,n5,n6,n7,n8,n9⟩,hp0,hr,he,hs,hye,hys,hfr,⟨hsl,hsb,hbad⟩,hlg,hel,hQl,hRl,hcl⟩:=hP;obtain ⟨E,hE⟩:∃ E,nS sh es.length Q.length R.length c l s=E:=⟨_,rfl⟩
 rw [hE];have hr':=hr;simp only [iE,Ev.row,List.map_cons,List.map_nil,List.cons_append,List.nil_append] at hr';have hesl:(es.map Ev.row).length=es.length:=List.length_map ..;have wadd:IntKind.i64.wrap ((es.length:Int)+(c:Int))=((es.length+c:Nat):Int):=by rw [dP (by omega) (by omega)];omega
 have hfail:E=none→∀ H:Nat→Hb,(∀ b,b < N→b≠bp→b≠xe→H b=hp b)→[Hw.one (Hc.d (Dt.sc (.bool false)))]=[.one (.d (.sc (.bool E.isSome)))]∧(∀ b,b < N→b≠bp→b≠xe→H b=hp b)∧∀ evs s',E=some (evs,s')→∃ N' x1,VAt hp H N N' bp bk xe xs xp x1 s' (lst l evs).fl evs:=fun q H hH=>by
  rw [q];exact ⟨rfl,hH,fun _ _ q=>(by cases q)⟩
 unfold pcp61
 with_reducible refine aQ ?_
 have hE1:(sh=true∨c < 1∨16 < c∨5000 < es.length+c)→E=none:=fun q=>by
  rw [←hE];unfold nS;rw [if_pos q]
 cases hsh:sh with
 | true =>
   rw [hsh] at hr';simp only [↓evP,evB,stB,reduceIte,reduceCtorEq,Nat.reduceEqDiff,Nat.reduceAdd,Nat.reduceMul,Nat.reduceLeDiff,Nat.reduceLT,Nat.reduceSub,Nat.reduceBEq,hr',prp61];exact ⟨_,_,rfl,fun b=>.inl rfl,hfail (hE1 (.inl hsh)) _ (fun b _ _ _=>by simp only [stB,reduceIte,reduceCtorEq,Nat.reduceEqDiff,Nat.reduceAdd,Nat.reduceMul,Nat.reduceLeDiff,Nat.reduceLT,Nat.reduceSub,Nat.reduceBEq])⟩
 | false =>
 rw [hsh] at hr'
 by_cases c1:(c:Int) < 1
 ·simp only [↓evP,evB,stB,reduceIte,reduceCtorEq,Nat.reduceEqDiff,Nat.reduceAdd,Nat.reduceMul,Nat.reduceLeDiff,Nat.reduceLT,Nat.reduceSub,Nat.reduceBEq,hr',c1,decide_true,prp61];exact ⟨_,_,rfl,fun b=>.inl rfl,hfail (hE1 (.inr (.inl (by omega)))) _ (fun b _ _ _=>by simp only [stB,reduceIte,reduceCtorEq,Nat.reduceEqDiff,Nat.reduceAdd,Nat.reduceMul,Nat.reduceLeDiff,Nat.reduceLT,Nat.reduceSub,Nat.reduceBEq])⟩
 by_cases c2:(c:Int) > 16
 ·simp only [↓evP,evB,stB,reduceIte,reduceCtorEq,Nat.reduceEqDiff,Nat.reduceAdd,Nat.reduceMul,Nat.reduceLeDiff,Nat.reduceLT,Nat.reduceSub,Nat.reduceBEq,hr',c1,c2,decide_true,decide_false,prp61];exact ⟨_,_,rfl,fun b=>.inl rfl,hfail (hE1 (.inr (.inr (.inl (by omega))))) _ (fun b _ _ _=>by simp only [stB,reduceIte,reduceCtorEq,Nat.reduceEqDiff,Nat.reduceAdd,Nat.reduceMul,Nat.reduceLeDiff,Nat.reduceLT,Nat.reduceSub,Nat.reduceBEq])⟩
 by_cases c3:((es.length+c:Nat):Int) > 5000
 ·simp only [↓evP,evB,stB,reduceIte,reduceCtorEq,Nat.reduceEqDiff,Nat.reduceAdd,Nat.reduceMul,Nat.reduceLeDiff,Nat.reduceLT,Nat.reduceSub,Nat.reduceBEq,hr',hye,hesl,wadd,c1,c2,c3,decide_true,decide_false,prp61];exact ⟨_,_,rfl,fun b=>.inl rfl,hfail (hE1 (.inr (.inr (.inr (by omega))))) _ (fun b _ _ _=>by simp only [stB,reduceIte,reduceCtorEq,Nat.reduceEqDiff,Nat.reduceAdd,Nat.reduceMul,Nat.reduceLeDiff,Nat.reduceLT,Nat.reduceSub,Nat.reduceBEq])⟩
 have hE2:(match tq c l s with
  | none=>none
  | some (evs,s')=>if bq evs Q.length=Q.length+R.length then some (evs,s') else none)=E:=by
  have hno:¬ (false=true∨c < 1∨16 < c∨5000 < es.length+c):=by
   rintro (q | q | q | q)
   ·cases q
   ·omega
   ·omega
   ·omega
  rw [←hE,hsh];unfold nS;refine Eq.trans ?_ (if_neg hno).symm
  cases tq c l s with
  | none=>rfl
  | some p=>rfl
 simp only [↓evP,evB,stB,reduceIte,reduceCtorEq,Nat.reduceEqDiff,Nat.reduceAdd,Nat.reduceMul,Nat.reduceLeDiff,Nat.reduceLT,Nat.reduceSub,Nat.reduceBEq,hr',hye,hesl,wadd,c1,c2,c3,decide_true,decide_false];obtain ⟨EV,hEV⟩:∃ EV,tq c l s=EV:=⟨_,rfl⟩
 rw [hEV] at hE2;refine dA msp61_0 osp61_0 (fun m st=>∃ (i N' x1:Nat) (evs:List Ev) (L:Ev) (S:Rs),m=c - i∧i≤c∧st.sl 35=aI i∧VAt hp st.hb N N' bp bk xe xs xp x1 S L.fl evs∧L=lst l evs∧evG L∧(∀ e ∈ evs,evG e)∧evs.length=i∧S.bad=false∧S.rest <:+ s.rest∧(tq (c - i) L S).map (fun p=>(evs ++ p.1,p.2))=EV) c (by repeat' (first | exact aH.init | assumption | exact aN (by assumption) | (refine aH.ap ?_ rfl))) ?_ ?_
 ·refine ⟨0,N,xe,[],l,s,rfl,Nat.zero_le _,by simp only [stB,reduceIte,reduceCtorEq,Nat.reduceEqDiff,Nat.reduceAdd,Nat.reduceMul,Nat.reduceLeDiff,Nat.reduceLT,Nat.reduceSub,Nat.reduceBEq];first | done | rfl,?_,rfl,hlg,fun e h=>(by cases h),rfl,hbad,List.suffix_refl _,?_⟩
  ·simp only [stB,reduceIte,reduceCtorEq,Nat.reduceEqDiff,Nat.reduceAdd,Nat.reduceMul,Nat.reduceLeDiff,Nat.reduceLT,Nat.reduceSub,Nat.reduceBEq];exact ⟨hp0,he,⟨Ne.symm n2,l3,Nat.le_refl _⟩,.inl rfl,fun _ _ _ _=>rfl,hfr⟩
  ·rw [Nat.sub_zero,hEV];cases EV <;> rfl
 rintro m z hzn hza ⟨i,N',x1,evs,L,S,rfl,hi,h35,hV,hL,hLg,hevg,hevl,hSb,hSs,hres⟩;simp only [stB,reduceIte,reduceCtorEq,Nat.reduceEqDiff,Nat.reduceAdd,Nat.reduceMul,Nat.reduceLeDiff,Nat.reduceLT,Nat.reduceSub,Nat.reduceBEq,hzn] at h35 hV;obtain ⟨H,hH⟩:∃ H,z.hb=H:=⟨_,rfl⟩
 rw [hH] at hV;obtain ⟨hVh,hVe,⟨a1,a2,a3⟩,hVx,hVo,hVf⟩:=hV;have hSl:=hSs.length_le
 rcases Nat.lt_or_ge i c with hic | hic
 ·have ic:(i:Int) < (c:Int):=by omega
  obtain ⟨k0,hk0⟩:∃ k,c - i=k+1:=⟨c - i - 1,by omega⟩
  rw [hk0] at hres;have hmix0:xB L.fl S 0=L.fl:=rfl;simp only [↓evP,evB,stB,reduceIte,reduceCtorEq,Nat.reduceEqDiff,Nat.reduceAdd,Nat.reduceMul,Nat.reduceLeDiff,Nat.reduceLT,Nat.reduceSub,Nat.reduceBEq,h35,ic,hzn,hH,decide_true];refine bM H [uz bp 6] (by simp only [stB,reduceIte,reduceCtorEq,Nat.reduceEqDiff,Nat.reduceAdd,Nat.reduceMul,Nat.reduceLeDiff,Nat.reduceLT,Nat.reduceSub,Nat.reduceBEq,hzn,hH];exact ⟨bp,6,rfl,rfl,rfl⟩) ?_
  simp only [↓evP,evB,stB,reduceIte,reduceCtorEq,Nat.reduceEqDiff,Nat.reduceAdd,Nat.reduceMul,Nat.reduceLeDiff,Nat.reduceLT,Nat.reduceSub,Nat.reduceBEq,uz,h35]
  refine dA msp61_1 osp61_1 (fun m st=>∃ k:Nat,m=9 - k∧k≤9∧st.sl 41=aI k∧st.hb=up H bp (rsH (iQ (L.fl.take k) S).2 (pq x1 xs xp bk (xB L.fl S k)))) 9 (by repeat' (first | with_reducible exact aN hza | (refine aH.ap ?_ rfl))) ?_ ?_
  ·refine ⟨0,rfl,Nat.zero_le _,by simp only [stB,reduceIte,reduceCtorEq,Nat.reduceEqDiff,Nat.reduceAdd,Nat.reduceMul,Nat.reduceLeDiff,Nat.reduceLT,Nat.reduceSub,Nat.reduceBEq];first | done | rfl,?_⟩
   simp only [stB,reduceIte,reduceCtorEq,Nat.reduceEqDiff,Nat.reduceAdd,Nat.reduceMul,Nat.reduceLeDiff,Nat.reduceLT,Nat.reduceSub,Nat.reduceBEq,hzn,hH];exact (FT hVh).symm
  rintro m2 y hyn hya ⟨k,rfl,hk,h41,hyb⟩;simp only [stB,reduceIte,reduceCtorEq,Nat.reduceEqDiff,Nat.reduceAdd,Nat.reduceMul,Nat.reduceLeDiff,Nat.reduceLT,Nat.reduceSub,Nat.reduceBEq,hzn,hyn] at h41 hyb;obtain ⟨T,hT⟩:∃ T,(iQ (L.fl.take k) S).2=T:=⟨_,rfl⟩
  have hTs:T.rest <:+ S.rest:=by rw [←hT];exact vH _ _
  have hTb:∀ x ∈ T.rest,x≤255:=fun x hx=>hsb x (hSs.subset (hTs.subset hx))
  have hTl:=hTs.length_le;rw [hT] at hyb
  rcases Nat.lt_or_ge k 9 with hk9 | hk9
  ·obtain ⟨x,hx⟩:∃ x,L.fl[k]? = some x:=⟨_,List.getElem?_eq_getElem (by rw [sO];omega)⟩
   have hxg:=hLg x (List.mem_of_getElem? hx);obtain ⟨m1,m2,m3⟩:=Ht (S:=S) hx;rw [hT] at m2 m3;obtain ⟨n,hn⟩:∃ n,(bU T).1=n:=⟨_,rfl⟩
   have hnb:=mD T;rw [hn] at hnb m2;obtain ⟨F,hF⟩:∃ F,xB L.fl S k=F:=⟨_,rfl⟩
   rw [hF] at hyb m1 m2;have hFl:F.length=9:=by rw [←hF,Kr,sO]
   obtain ⟨T2,hT2⟩:∃ T2,(bU T).2=T2:=⟨_,rfl⟩
   obtain ⟨CS,hCS⟩:∃ CS,MI T2 x1 xs xp bk F=CS:=⟨_,rfl⟩
   have hCl:CS.length=15:=by rw [←hCS,KC,hFl]
   have hCg:CS[k+6]? = some (.d (dI x)):=by rw [←hCS];exact KA m1
   have hcell:rsH T2 (pq x1 xs xp bk F)=.cells CS:=by rw [Bz,hCS]
   have kk:(k:Int) < 9:=by omega
   have k0:(0:Int)≤(k:Int):=by omega
   have k8:k≤8:=by omega
   have k9:k+7≤15:=by omega
   have hl9:((9:Nat):Int)=9:=rfl;have g2:=nine (f:=fun k=>Cl.hv (.p bp (k+6))) hk9;simp only [Nat.reduceAdd] at g2;have wk:IntKind.i64.wrap ((k:Int)+1)=((k+1:Nat):Int):=by rw [dP (by omega) (by omega)];omega
   simp only [↓evP,evB,stB,reduceIte,reduceCtorEq,Nat.reduceEqDiff,Nat.reduceAdd,Nat.reduceMul,Nat.reduceLeDiff,Nat.reduceLT,Nat.reduceSub,Nat.reduceBEq,h41,kk,k0,hl9,g2,hzn,hyn,Nat.mul_one,decide_true];refine bM (up H bp (.cells CS)) [.one (hI n)] (by simp only [stB,reduceIte,reduceCtorEq,Nat.reduceEqDiff,Nat.reduceAdd,Nat.reduceMul,Nat.reduceLeDiff,Nat.reduceLT,Nat.reduceSub,Nat.reduceBEq,hzn,hyn,hyb];exact ⟨bp,T,pq x1 xs xp bk F,rfl,⟨dK,by omega,hTb⟩,by rw [hT2,hcell,zu],by rw [hn]⟩) ?_
   have tm:(n:Int).tmod 2=((n % 2:Nat):Int):=by rw [Int.tmod_eq_emod_of_nonneg (by omega)];omega
   have td:(n:Int).tdiv 2=((n / 2:Nat):Int):=by rw [Int.tdiv_eq_ediv_of_nonneg (by omega)];omega
   have n2:((2:Int)=0)=False:=by simp
   have wq:IntKind.i64.wrap ((n / 2:Nat):Int)=((n / 2:Nat):Int):=dP (by omega) (by omega)
   have hset:∀ v,up (up H bp (.cells CS)) bp (.cells (iF CS (k+6) [.d (dI v)]))=up H bp (rsH T2 (pq x1 xs xp bk (F.set k v))):=fun v=>by
    rw [zu,xk,←hCS,KE,Bz]
   rw [hT2] at m3
   by_cases hpar:n % 2=0
   ·have e0:(((n % 2:Nat):Int) == 0)=true:=by rw [hpar];rfl
    have hdif:ug n=((n / 2:Nat):Int):=by unfold ug;rw [if_neg (by omega)]
    have wx:IntKind.i64.wrap (x+((n / 2:Nat):Int))=x+ug n:=by rw [hdif];exact dP (by omega) (by omega)
    simp only [↓evP,evB,stB,reduceIte,reduceCtorEq,Nat.reduceEqDiff,Nat.reduceAdd,Nat.reduceMul,Nat.reduceLeDiff,Nat.reduceLT,Nat.reduceSub,Nat.reduceBEq,h41,tm,td,n2,wq,e0,wx,hCg,hCl,kk,k0,k8,k9,hzn,hyn,ne_eq,not_false_eq_true,decide_true]
    refine ⟨_,by omega,(by repeat' (first | assumption | exact aP (by assumption) | (refine aJ ?_ rfl rfl) | (refine aD ?_ rfl) | (refine aJ ?_ rfl aK) | (refine aD ?_ aK) | (refine bV.in' ?_ (aP (by assumption)) rfl rfl))),k+1,rfl,hk9,by simp only [stB,reduceIte,reduceCtorEq,Nat.reduceEqDiff,Nat.reduceAdd,Nat.reduceMul,Nat.reduceLeDiff,Nat.reduceLT,Nat.reduceSub,Nat.reduceBEq,h41,wk],?_⟩;simp only [stB,reduceIte,reduceCtorEq,Nat.reduceEqDiff,Nat.reduceAdd,Nat.reduceMul,Nat.reduceLeDiff,Nat.reduceLT,Nat.reduceSub,Nat.reduceBEq,hzn,hyn];rw [m3,m2];exact hset _
   ·have e0:(((n % 2:Nat):Int) == 0)=false:=by rw [show n % 2=1 by omega];rfl
    have hdif:ug n=-(((n+1) / 2:Nat):Int):=by unfold ug;rw [if_pos (by omega)]
    have w1:IntKind.i64.wrap (((n / 2:Nat):Int)+1)=(((n+1) / 2:Nat):Int):=by rw [dP (by omega) (by omega)];omega
    have wx:IntKind.i64.wrap (x - (((n+1) / 2:Nat):Int))=x+ug n:=by rw [hdif,dP (by omega) (by omega)];omega
    simp only [↓evP,evB,stB,reduceIte,reduceCtorEq,Nat.reduceEqDiff,Nat.reduceAdd,Nat.reduceMul,Nat.reduceLeDiff,Nat.reduceLT,Nat.reduceSub,Nat.reduceBEq,h41,tm,td,n2,wq,e0,w1,wx,hCg,hCl,kk,k0,k8,k9,hzn,hyn,ne_eq,not_false_eq_true,decide_true]
    refine ⟨_,by omega,(by repeat' (first | assumption | exact aP (by assumption) | (refine aJ ?_ rfl rfl) | (refine aD ?_ rfl) | (refine aJ ?_ rfl aK) | (refine aD ?_ aK) | (refine bV.in' ?_ (aP (by assumption)) rfl rfl))),k+1,rfl,hk9,by simp only [stB,reduceIte,reduceCtorEq,Nat.reduceEqDiff,Nat.reduceAdd,Nat.reduceMul,Nat.reduceLeDiff,Nat.reduceLT,Nat.reduceSub,Nat.reduceBEq,h41,wk],?_⟩;simp only [stB,reduceIte,reduceCtorEq,Nat.reduceEqDiff,Nat.reduceAdd,Nat.reduceMul,Nat.reduceLeDiff,Nat.reduceLT,Nat.reduceSub,Nat.reduceBEq,hzn,hyn];rw [m3,m2];exact hset _
  ·have hke:k=9:=by omega
   subst hke;have hTt:L.fl.take 9=L.fl:=List.take_of_length_le (by rw [sO];exact Nat.le_refl 9)
   have hDt:L.fl.drop 9=[]:=List.drop_of_length_le (by rw [sO];exact Nat.le_refl 9)
   obtain ⟨⟨X,S'⟩,hX⟩:∃ X,iQ L.fl S=X:=⟨_,rfl⟩
   have hXl:X.length=9:=by have:=qE L.fl S;rw [hX] at this;exact this
   obtain ⟨v0,v1,v2,v3,v4,v5,v6,v7,v8,rfl⟩:∃ a b c d e f g h i,X=[a,b,c,d,e,f,g,h,i]:=by
    match X,hXl with
    | [a,b,c,d,e,f,g,h,i],_=>exact ⟨a,b,c,d,e,f,g,h,i,rfl⟩
   have hSk':T=S':=by rw [←hT,hTt,hX]
   subst hSk';have hmix:xB L.fl S 9=[v0,v1,v2,v3,v4,v5,v6,v7,v8]:=by unfold xB;rw [hTt,hX,hDt];rfl
   obtain ⟨e,he⟩:∃ e:Ev,e=⟨v0,v1,v2,v3,v4,v5,v6,v7,v8⟩:=⟨_,rfl⟩
   have hee:Az [v0,v1,v2,v3,v4,v5,v6,v7,v8]=e:=by rw [he];rfl
   have hefl:e.fl=[v0,v1,v2,v3,v4,v5,v6,v7,v8]:=by rw [he];rfl
   have herow:e.row=[dI v0,dI v1,dI v2,dI v3,dI v4,dI v5,dI v6,dI v7,dI v8]:=by rw [he];rfl
   rw [hmix] at hyb;unfold tq at hres;rw [hX] at hres;dsimp only at hres;rw [hee] at hres;have hyh:y.hb bp=rsH T (pq x1 xs xp bk [v0,v1,v2,v3,v4,v5,v6,v7,v8]):=by rw [hyb];exact dK
   have hyo:∀ b,b < N→b≠bp→b≠xe→y.hb b=hp b:=fun b h1 h2 h3=>by rw [hyb,bB h2];exact hVo b h1 h2 h3
   simp only [rsH,pq,flC,List.map_cons,List.map_nil] at hyh;have ilt9:¬ ((9:Nat):Int) < 9:=by decide
   have hbadE:(T.bad=true∨e.valid=false)→E=none:=fun q=>by
    rw [if_pos q] at hres;rw [←hE2,←hres];rfl
   have hp2:qp [e.pa] [pB e.valid]:=⟨e,rfl,rfl⟩
   cases hTbad:T.bad with
   | true =>
     rw [hTbad] at hyh;simp only [↓evP,evB,stB,reduceIte,reduceCtorEq,Nat.reduceEqDiff,Nat.reduceAdd,Nat.reduceMul,Nat.reduceLeDiff,Nat.reduceLT,Nat.reduceSub,Nat.reduceBEq,h41,ilt9,hzn,hyn,hyh,decide_false,prp61];exact ⟨_,_,rfl,fun b=>.inl rfl,hfail (hbadE (.inl hTbad)) _ (fun b h1 h2 h3=>by first | exact hyo b h1 h2 h3 | (simp only [stB,reduceIte,reduceCtorEq,Nat.reduceEqDiff,Nat.reduceAdd,Nat.reduceMul,Nat.reduceLeDiff,Nat.reduceLT,Nat.reduceSub,Nat.reduceBEq,hzn,hyn];exact hyo b h1 h2 h3))⟩
   | false =>
     rw [hTbad] at hyh;simp only [↓evP,evB,stB,reduceIte,reduceCtorEq,Nat.reduceEqDiff,Nat.reduceAdd,Nat.reduceMul,Nat.reduceLeDiff,Nat.reduceLT,Nat.reduceSub,Nat.reduceBEq,h41,ilt9,hzn,hyn,hyh,decide_false];refine aF [pB e.valid] (by rw [he] at hp2 ⊢;exact hp2) ?_
     cases hv:e.valid with
     | false =>
       simp only [↓evP,evB,stB,reduceIte,reduceCtorEq,Nat.reduceEqDiff,Nat.reduceAdd,Nat.reduceMul,Nat.reduceLeDiff,Nat.reduceLT,Nat.reduceSub,Nat.reduceBEq,h41,ilt9,hzn,hyn,hyh,decide_false,prp61];exact ⟨_,_,rfl,fun b=>.inl rfl,hfail (hbadE (.inr hv)) _ (fun b h1 h2 h3=>by first | exact hyo b h1 h2 h3 | (simp only [stB,reduceIte,reduceCtorEq,Nat.reduceEqDiff,Nat.reduceAdd,Nat.reduceMul,Nat.reduceLeDiff,Nat.reduceLT,Nat.reduceSub,Nat.reduceBEq,hzn,hyn];exact hyo b h1 h2 h3))⟩
     | true =>
       rw [if_neg (by rw [hTbad,hv];simp)] at hres
       have heg:evG e:=uy hv;have hevl2:(evs.map Ev.row).length=i:=by rw [List.length_map,hevl]
       have hyx:y.hb x1=.vec 42 9 (evs.map Ev.row):=by rw [hyb,bB a1];exact hVe
       have hyN:y.hb N'=.no:=by rw [hyb,bB (by omega)];exact hVf _ (Nat.le_refl _)
       have wi:IntKind.i64.wrap ((i:Int)+1)=((i+1:Nat):Int):=by rw [dP (by omega) (by omega)];omega
       have d1:¬ bp=x1:=Ne.symm a1;have d2:¬ x1=bp:=a1;have d3:¬ bp=N':=by omega
       have d4:¬ N'=bp:=by omega
       have d5:¬ x1=N':=by omega
       have d6:¬ N'=x1:=by omega
       simp only [↓evP,evB,stB,reduceIte,reduceCtorEq,Nat.reduceEqDiff,Nat.reduceAdd,Nat.reduceMul,Nat.reduceLeDiff,Nat.reduceLT,Nat.reduceSub,Nat.reduceBEq,h35,h41,ilt9,hzn,hyn,hyh,decide_false]
       refine vJ (a:=x1) (rows:=evs.map Ev.row) (news:=[e.row]) N' (dU (by simp only [stB,reduceIte,reduceCtorEq,Nat.reduceEqDiff,Nat.reduceAdd,Nat.reduceMul,Nat.reduceLeDiff,Nat.reduceLT,Nat.reduceSub,Nat.reduceBEq,hzn,hyn]) (by repeat' (first | with_reducible exact aN hya | (refine aH.ap ?_ rfl))) (by simp only [stB,reduceIte,reduceCtorEq,Nat.reduceEqDiff,Nat.reduceAdd,Nat.reduceMul,Nat.reduceLeDiff,Nat.reduceLT,Nat.reduceSub,Nat.reduceBEq,hzn,hyn,hyN])) (by simp only [stB,reduceIte,reduceCtorEq,Nat.reduceEqDiff,Nat.reduceAdd,Nat.reduceMul,Nat.reduceLeDiff,Nat.reduceLT,Nat.reduceSub,Nat.reduceBEq]) (by simp only [stB,reduceIte,reduceCtorEq,Nat.reduceEqDiff,Nat.reduceAdd,Nat.reduceMul,Nat.reduceLeDiff,Nat.reduceLT,Nat.reduceSub,Nat.reduceBEq,hzn,hyn,hyx]) (by simp only [stB,reduceIte,reduceCtorEq,Nat.reduceEqDiff,Nat.reduceAdd,Nat.reduceMul,Nat.reduceLeDiff,Nat.reduceLT,Nat.reduceSub,Nat.reduceBEq];rw [herow];first | done | rfl) ⟨fun r hr=>by rw [List.mem_singleton.1 hr];rfl,by rw [hevl2];show i+1≤_;omega,by decide⟩ ?_
       simp only [↓evP,evB,stB,reduceIte,reduceCtorEq,Nat.reduceEqDiff,Nat.reduceAdd,Nat.reduceMul,Nat.reduceLeDiff,Nat.reduceLT,Nat.reduceSub,Nat.reduceBEq,h35,h41,wi,hzn,hyn,hyh,d1,d2,d3,d4,d5,d6,decide_false];refine ⟨(by unfold Drw;refine Eq.trans (b:=true) ?_ rfl;kernel_rfl),?_⟩
       refine ⟨_,by omega,(by repeat' (first | assumption | exact aP (by assumption) | (refine aJ ?_ rfl rfl) | (refine aD ?_ rfl) | (refine aJ ?_ rfl aK) | (refine aD ?_ aK) | (refine bV.in' ?_ (aP (by assumption)) rfl rfl))),i+1,N'+1,N',evs ++ [e],e,T,rfl,hic,by simp only [stB,reduceIte,reduceCtorEq,Nat.reduceEqDiff,Nat.reduceAdd,Nat.reduceMul,Nat.reduceLeDiff,Nat.reduceLT,Nat.reduceSub,Nat.reduceBEq,h35,wi];first | done | rfl,?_,?_,heg,?_,by rw [List.length_append,hevl];rfl,hTbad,hTs.trans hSs,?_⟩
       ·refine ⟨?_,?_,⟨d4,by omega,by omega⟩,.inr a3,fun b h1 h2 h3=>?_,fun b h1=>?_⟩
        ·simp only [stB,reduceIte,reduceCtorEq,Nat.reduceEqDiff,Nat.reduceAdd,Nat.reduceMul,Nat.reduceLeDiff,Nat.reduceLT,Nat.reduceSub,Nat.reduceBEq,hzn,hyn,hyh,d1,d2,d3,d4,d5,d6,iq,rsH,pq,flC,hefl,hTbad,List.map_cons,List.map_nil]
         first | done | rfl
        ·simp only [stB,reduceIte,reduceCtorEq,Nat.reduceEqDiff,Nat.reduceAdd,Nat.reduceMul,Nat.reduceLeDiff,Nat.reduceLT,Nat.reduceSub,Nat.reduceBEq,hzn,hyn,d1,d2,d3,d4,d5,d6,List.map_append]
         first | done | rfl
        ·have u1:¬ b=x1:=fun q=>hVx.elim (fun q'=>h3 (q.trans q')) (fun q'=>by omega)
         have u2:¬ b=N':=by omega
         simp only [stB,reduceIte,reduceCtorEq,Nat.reduceEqDiff,Nat.reduceAdd,Nat.reduceMul,Nat.reduceLeDiff,Nat.reduceLT,Nat.reduceSub,Nat.reduceBEq,hzn,hyn,h2,u1,u2];exact hyo b h1 h2 h3
        ·have u1:¬ b=x1:=by omega
         have u2:¬ b=N':=by omega
         have u3:¬ b=bp:=by omega
         have u4:y.hb b=.no:=by rw [hyb,bB u3];exact hVf _ (by omega)
         simp only [stB,reduceIte,reduceCtorEq,Nat.reduceEqDiff,Nat.reduceAdd,Nat.reduceMul,Nat.reduceLeDiff,Nat.reduceLT,Nat.reduceSub,Nat.reduceBEq,hzn,hyn,u1,u2,u3];exact u4
       ·rw [oH];rfl
       ·intro x hx
        rcases List.mem_append.1 hx with q | q
        ·exact hevg x q
        ·rw [List.mem_singleton.1 q];exact heg
       ·rw [show c - (i+1)=k0 by omega,←hres]
        cases tq k0 e T with
        | none=>rfl
        | some p=>simp
 ·have hie:i=c:=by omega
  subst hie;have ic:¬ (i:Int) < (i:Int):=by omega
  rw [Nat.sub_self] at hres;have hres:some (evs ++ [],S)=EV:=hres;rw [List.append_nil] at hres;rw [←hres] at hE2;dsimp only at hE2;have hHr:H br=iE bs at_ ye ys yp bR lr sh en:=(hVo br l2 (Ne.symm n1) (Ne.symm n6)).trans hr;rw [hsh] at hHr;unfold iE at hHr;have hHy:H ys=.vec 50 2 Q:=(hVo ys l6 (Ne.symm n5) (Ne.symm n9)).trans hys;have hHs:H xs=.vec 50 2 R:=(hVo xs l4 (Ne.symm n3) (Ne.symm n7)).trans hs;have hVh':=hVh;simp only [rsH,pq] at hVh';have hnd:=A8 (es:=evs) (n:=Q.length) hevg (by omega);have hafter:HvR qM H [.one (hI (Q.length:Nat)),.one (.h (.v x1))] H [.one (hI (bq evs Q.length:Nat))]:=⟨[pI (Q.length:Nat),.one (.im (evs.map Ev.row))],.int .i64 (bq evs Q.length:Nat),by simp [Hw.pa,Hc.pa,hVe];first | done | rfl,⟨Q.length,evs,rfl,⟨by omega,by omega,hevg⟩,rfl⟩,rfl,rfl⟩
  simp only [↓evP,evB,stB,reduceIte,reduceCtorEq,Nat.reduceEqDiff,Nat.reduceAdd,Nat.reduceMul,Nat.reduceLeDiff,Nat.reduceLT,Nat.reduceSub,Nat.reduceBEq,h35,ic,hzn,hH,hHr,hHy,hVh',decide_false]
  refine rU [.one (hI (bq evs Q.length:Nat))] (by simp only [stB,reduceIte,reduceCtorEq,Nat.reduceEqDiff,Nat.reduceAdd,Nat.reduceMul,Nat.reduceLeDiff,Nat.reduceLT,Nat.reduceSub,Nat.reduceBEq,hzn,hH];exact hafter) (by repeat' (first | with_reducible exact aN hza | (refine aH.ap ?_ rfl))) ?_
  have wadd2:IntKind.i64.wrap ((Q.length:Int)+(R.length:Int))=((Q.length+R.length:Nat):Int):=by rw [dP (by omega) (by omega)];omega
  simp only [↓evP,evB,stB,reduceIte,reduceCtorEq,Nat.reduceEqDiff,Nat.reduceAdd,Nat.reduceMul,Nat.reduceLeDiff,Nat.reduceLT,Nat.reduceSub,Nat.reduceBEq,h35,ic,hzn,hH,hHr,hHy,hHs,hVh',wadd2,decide_false];refine ⟨(by unfold Drw;refine Eq.trans (b:=true) ?_ rfl;kernel_rfl),?_⟩
  simp only [↓evP,evB,stB,reduceIte,reduceCtorEq,Nat.reduceEqDiff,Nat.reduceAdd,Nat.reduceMul,Nat.reduceLeDiff,Nat.reduceLT,Nat.reduceSub,Nat.reduceBEq,hzn,hH,prp61]
  by_cases heq:bq evs Q.length=Q.length+R.length
  ·rw [if_pos heq] at hE2;have e0:(((bq evs Q.length:Nat):Int) == ((Q.length+R.length:Nat):Int))=true:=by rw [heq];simp
   refine ⟨_,_,rfl,fun b=>.inl rfl,?_⟩;rw [←hE2,e0];refine ⟨rfl,fun b h1 h2 h3=>?_,fun evs' s' q=>?_⟩
   ·first | exact hVo b h1 h2 h3 | (simp only [stB,reduceIte,reduceCtorEq,Nat.reduceEqDiff,Nat.reduceAdd,Nat.reduceMul,Nat.reduceLeDiff,Nat.reduceLT,Nat.reduceSub,Nat.reduceBEq,hzn,hH];exact hVo b h1 h2 h3)
   ·cases q;refine ⟨N',x1,?_⟩
    first | done | simp only [stB,reduceIte,reduceCtorEq,Nat.reduceEqDiff,Nat.reduceAdd,Nat.reduceMul,Nat.reduceLeDiff,Nat.reduceLT,Nat.reduceSub,Nat.reduceBEq,hzn,hH] | skip
    rw [←hL];exact ⟨hVh,hVe,⟨a1,a2,a3⟩,hVx,hVo,hVf⟩
  ·rw [if_neg heq] at hE2;have e0:(((bq evs Q.length:Nat):Int) == ((Q.length+R.length:Nat):Int))=false:=by rw [beq_eq_false_iff_ne];omega
   rw [e0];refine ⟨_,_,rfl,fun b=>.inl rfl,hfail hE2.symm _ (fun b h1 h2 h3=>?_)⟩
   first | exact hVo b h1 h2 h3 | (simp only [stB,reduceIte,reduceCtorEq,Nat.reduceEqDiff,Nat.reduceAdd,Nat.reduceMul,Nat.reduceLeDiff,Nat.reduceLT,Nat.reduceSub,Nat.reduceBEq,hzn,hH];exact hVo b h1 h2 h3)
def BM (ps rs:List Pa):Prop:=∃ l m:List Nat,ps=[dL l,dL m]∧((∀ x ∈ l,x≤255)∧∀ x ∈ m,x≤255)∧rs=[pB (decide (l=m))]
theorem Qf:Spec Try.prog 57 BM:=by
 refine sp57 aA.e0 ?_;rintro ps rs ⟨l,m,rfl,⟨hl,hm⟩,rfl⟩;refine ⟨by simp,?_⟩;have h1:dV (byR l)=some (l.map fun x:Nat=>(x:Int)):=lK l;have h2:dV (byR m)=some (m.map fun x:Nat=>(x:Int)):=lK m;have h3:=bytes_beq hl hm;unfold pc57
 with_reducible refine aQ ?_
 simp only [↓evP,evB,stB,reduceIte,reduceCtorEq,seval,dL,h1,h2,h3,pr57]
theorem Rq:fK Try.prog 57 (HvR BM):=Qf.TT
def Eb (ps rs:List Pa):Prop:=∃ l m:List Nat,ps=[dL l,dL m]∧((∀ x ∈ l,x≤255)∧∀ x ∈ m,x≤255)∧rs=[pB (decide (l.take m.length=m))]
theorem Rt:Spec Try.prog 49 Eb:=by
 refine sp49 (show aA Try.prog (e1 57 BM e0) from aA.e1 Qf aA.e0) ?_;rintro ps rs ⟨l,m,rfl,⟨hl,hm⟩,rfl⟩;refine ⟨by simp,?_⟩;have hbr:=aV l;have hbm:=aV m;have hba:=dR l;have htk:List.take m.length (byR l)=byR (l.take m.length):=by unfold byR;rw [List.map_take]
 unfold pc49
 with_reducible refine aQ ?_
 by_cases c:(l.length:Int)≥(m.length:Int)
 ·have c2:(m.length:Int)≤(l.length:Int):=c;have c0:(0:Int)≤(m.length:Int):=by omega
  simp only [↓evP,evB,stB,reduceIte,reduceCtorEq,seval,dL,hbr,hbm,hba,htk,c,c0,decide_true];refine aF [pB (decide (l.take m.length=m))] (by exact ⟨l.take m.length,m,rfl,⟨fun x hx=>hl x (List.mem_of_mem_take hx),hm⟩,rfl⟩) ?_;simp only [↓evP,evB,stB,reduceIte,reduceCtorEq,seval,pr49]
 ·have:decide (l.take m.length=m)=false:=decide_eq_false fun q=>by
   have:=congrArg List.length q;rw [List.length_take] at this;omega
  rw [this];simp only [↓evP,evB,stB,reduceIte,reduceCtorEq,seval,dL,hbr,hbm,c,decide_false,pr49]
def BK (R:(Nat→Hb)→List Hw→((Nat→Hb)→List Hw→Prop)→Prop) (hp:Nat→Hb) (az:List Hw) (Post:(Nat→Hb)→List Hw→Prop):Prop:=∃ hp2 c i b E sz,Iy hp hp2 c i b E sz∧R hp2 az Post
theorem OX:dY Try.prog 59 (BK (BK (BK Ee))):=RX.nil.nil.nil
noncomputable def aG:Env:=e1 58 Iz (h1 46 vS (h1 57 (HvR BM) (h1 60 vT (p1 59 (BK (BK (BK Ee))) (p1 61 LQ e0)))))
theorem CX:aA Try.prog aG:=aA.e1 Qg (aA.h1 MK (aA.h1 Rq (aA.h1 Ey (aA.p1 OX (aA.p1 RY aA.e0)))))
structure Aj (H:Nat→Hb) (N br bR ye ys yp:Nat) (bs:List Nat) (at_:Int) (lr:Ev) (sh en:Bool) (es:List Ev) (d:Dep):Prop where
 h:H br=iE bs at_ ye ys yp bR lr sh en
 e:H ye=.vec 42 9 (es.map Ev.row)
 s:H ys=.vec 50 2 (d.st.map aW)
 p:H yp=.vec 3 1 (d.pr.map fun x=>[dI x])
 k:∃ es cl,H bR=.map 113 es cl∧Kn es cl (KnD d 0 d.st.length)
 lt:br < N∧bR < N∧ye < N∧ys < N∧yp < N
 ne:br≠bR∧br≠ye∧br≠ys∧br≠yp∧bR≠ye∧bR≠ys∧bR≠yp∧ye≠ys∧ye≠yp∧ys≠yp
 f:∀ b,N≤b→H b=.no
structure NV where
 br:Nat
 ye:Nat
 ys:Nat
 yp:Nat
 bR:Nat
 bk:Nat
 bp:Nat
 it:Nat
 xe:Nat
 xs:Nat
 xp:Nat
 M:Nat
 nc:Nat→Nat
 bs:List Nat
 at_:Int
 lr:Ev
 sh:Bool
 en:Bool
 YE:List (List Dt)
 YS:List (List Dt)
 YP:List (List Dt)
 XE:List (List Dt)
 XS:List (List Dt)
 XP:List (List Dt)
 S:Rs
 F:List Int
 eR:List (Value×Nat×Hw)
 cR:Nat
 e2:List (Value×Nat×Hw)
 c2:Nat
 kind:Nat
 c:Nat
 ed:Nat
structure NH (H:Nat→Hb) (v:NV):Prop where
 h:H v.br=iE v.bs v.at_ v.ye v.ys v.yp v.bR v.lr v.sh v.en
 p:H v.bp=rsH v.S (pq v.xe v.xs v.xp v.bk v.F)
 he:H v.ye=.vec 42 9 v.YE
 hs:H v.ys=.vec 50 2 v.YS
 hq:H v.yp=.vec 3 1 v.YP
 ge:H v.xe=.vec 42 9 v.XE
 gs:H v.xs=.vec 50 2 v.XS
 gq:H v.xp=.vec 3 1 v.XP
 hR:H v.bR=.map 113 v.eR v.cR
 f:∀ b,v.M≤b→H b=.no
structure NN (v:NV):Prop where
 n1:v.br≠v.ye∧v.br≠v.ys∧v.br≠v.yp∧v.br≠v.bR∧v.br≠v.bk∧v.br≠v.bp∧v.br≠v.it∧v.br≠v.xe∧v.br≠v.xs∧v.br≠v.xp∧v.br < v.M
 n2:v.ye≠v.ys∧v.ye≠v.yp∧v.ye≠v.bR∧v.ye≠v.bk∧v.ye≠v.bp∧v.ye≠v.it∧v.ye≠v.xe∧v.ye≠v.xs∧v.ye≠v.xp∧v.ye < v.M
 n3:v.ys≠v.yp∧v.ys≠v.bR∧v.ys≠v.bk∧v.ys≠v.bp∧v.ys≠v.it∧v.ys≠v.xe∧v.ys≠v.xs∧v.ys≠v.xp∧v.ys < v.M
 n4:v.yp≠v.bR∧v.yp≠v.bk∧v.yp≠v.bp∧v.yp≠v.it∧v.yp≠v.xe∧v.yp≠v.xs∧v.yp≠v.xp∧v.yp < v.M
 n5:v.bR≠v.bk∧v.bR≠v.bp∧v.bR≠v.it∧v.bR≠v.xe∧v.bR≠v.xs∧v.bR≠v.xp∧v.bR < v.M
 n6:v.bk≠v.bp∧v.bk≠v.it∧v.bk≠v.xe∧v.bk≠v.xs∧v.bk≠v.xp∧v.bk < v.M
 n7:v.bp≠v.it∧v.bp≠v.xe∧v.bp≠v.xs∧v.bp≠v.xp∧v.bp < v.M
 n8:v.it≠v.xe∧v.it≠v.xs∧v.it≠v.xp∧v.it < v.M
 n9:v.xe < v.M∧v.xs < v.M∧v.xp < v.M
 c1:v.nc v.br=1∧v.nc v.ye=1∧v.nc v.ys=1∧v.nc v.yp=1∧v.nc v.bR=1∧v.nc v.xe=1∧v.nc v.xs=1∧v.nc v.xp=1
 c2:v.nc v.bk=13∧v.nc v.bp=19∧v.nc v.it=205
 c3:∀ b,v.M≤b→v.nc b=1
structure NF (st:St) (v:NV):Prop where
 t0:st.sl 0=.b (.one (.hv (.p v.br 0)))
 t3:st.sl 3=.b (.one (.d (.sc (.int .u8 (v.kind:Int)))))
 t6:st.sl 6=aI (v.c:Int)
 t7:st.sl 7=aI (v.ed:Int)
 t8:st.sl 8=.b (.one (.hv (.p v.bp 0)))
 hnc:st.nc=v.nc
 hal:aH st
 hH:NH st.hb v
 hk:st.hb v.bk=.map 113 v.e2 v.c2
 hi:st.hb v.it=.no
 nn:NN v
structure NF2 (st:St) (v:NV):Prop where
 t0:st.sl 0=.b (.one (.hv (.p v.br 0)))
 t3:st.sl 3=.b (.one (.d (.sc (.int .u8 (v.kind:Int)))))
 t8:st.sl 8=.b (.one (.hv (.p v.bp 0)))
 hnc:st.nc=v.nc
 hal:aH st
 hH:NH st.hb v
 nn:NN v
theorem rF {s:St} {y:PX} {a E sz:Nat} {rows:List (List Dt)} (h1:s.cl y=.hv (.v a)) (h2:s.hb a=.vec E sz rows):s.jr y=some rows:=by
 unfold St.jr zq;rw [h1];dsimp only;rw [h2]
def hd:PC→PC
 | .seq a _=>a
 | c=>c
def tl:Nat→PC→PC
 | 0,c=>c
 | k+1,c=>tl k (dh c)
def xQ:PC→PC
 | .scope _ c _=>c
 | c=>c
def Qh:PC→PC
 | .scope _ _ r=>r
 | c=>c
def nxB:PC:=xQ (dh pcp50)
def nxH:PC:=Qh (dh pcp50)
theorem Q7:tl 0 nxB=.seq (hd (tl 0 nxB)) (tl 1 nxB):=by kernel_rfl
theorem Q8:tl 1 nxB=.seq (hd (tl 1 nxB)) (tl 2 nxB):=by kernel_rfl
theorem Q9:tl 2 nxB=.seq (hd (tl 2 nxB)) (tl 3 nxB):=by kernel_rfl
theorem Rb:tl 3 nxB=.seq (hd (tl 3 nxB)) (tl 4 nxB):=by kernel_rfl
theorem Rf:tl 4 nxB=.seq (hd (tl 4 nxB)) (tl 5 nxB):=by kernel_rfl
theorem Rh:tl 5 nxB=.seq (hd (tl 5 nxB)) (tl 6 nxB):=by kernel_rfl
theorem Ri:tl 6 nxB=.seq (hd (tl 6 nxB)) (tl 7 nxB):=by kernel_rfl
theorem Rj:tl 7 nxB=.seq (hd (tl 7 nxB)) (tl 8 nxB):=by kernel_rfl
theorem Rk:tl 8 nxB=.seq (hd (tl 8 nxB)) (tl 9 nxB):=by kernel_rfl
theorem Rl:tl 9 nxB=.seq (hd (tl 9 nxB)) (tl 10 nxB):=by kernel_rfl
theorem Oe:tl 10 nxB=.seq (hd (tl 10 nxB)) (tl 11 nxB):=by kernel_rfl
theorem Og:tl 11 nxB=.seq (hd (tl 11 nxB)) (tl 12 nxB):=by kernel_rfl
theorem Oh:tl 12 nxB=.seq (hd (tl 12 nxB)) (tl 13 nxB):=by kernel_rfl
theorem Oi:tl 13 nxB=.seq (hd (tl 13 nxB)) (tl 14 nxB):=by kernel_rfl
theorem Oj:tl 14 nxB=.seq (hd (tl 14 nxB)) (tl 15 nxB):=by kernel_rfl
theorem Ol:tl 15 nxB=.seq (hd (tl 15 nxB)) (tl 16 nxB):=by kernel_rfl
theorem Om:tl 16 nxB=.seq (hd (tl 16 nxB)) (tl 17 nxB):=by kernel_rfl
theorem Oo:tl 17 nxB=.seq (hd (tl 17 nxB)) (tl 18 nxB):=by kernel_rfl
theorem Oq:tl 18 nxB=.seq (hd (tl 18 nxB)) (tl 19 nxB):=by kernel_rfl
theorem Ot:tl 19 nxB=.seq (hd (tl 19 nxB)) (tl 20 nxB):=by kernel_rfl
theorem Ou:tl 20 nxB=.seq (hd (tl 20 nxB)) (tl 21 nxB):=by kernel_rfl
theorem Ov:tl 21 nxB=.seq (hd (tl 21 nxB)) (tl 22 nxB):=by kernel_rfl
theorem Ox:tl 22 nxB=.seq (hd (tl 22 nxB)) (tl 23 nxB):=by kernel_rfl
theorem Q5:pcp50=.seq (hd pcp50) (.scope 0 nxB nxH):=by kernel_rfl
section
variable {k:List It} {Q:Exit→St→Prop} {st:St} {v:NV}
theorem Tm (h:NF st v) (hb:v.kind=66∨v.kind=69) (hK:∀ T,NF T { v with sh:=decide (v.kind=66) && decide (v.c < 16) }→pwp aG (tl 16 nxB) (exS aG k Q) T):pwp aG (tl 15 nxB) (exS aG k Q) st:=by
 rw [Ol];generalize tl 16 nxB=rest at hK ⊢;obtain ⟨br,ye,ys,yp,bR,bk,bp,it,xe,xs,xp,M,nc,bs,at_,lr,sh,en,YE,YS,YP,XE,XS,XP,S,F,eR,cR,e2,c2,kind,c,ed⟩:=v;obtain ⟨t0,t3,t6,t7,t8,hnc,hal,⟨hh,hp,he,hs,hq,ge,gs,gq,hR,hf⟩,hk,hi,nn⟩:=h;have nn':=nn;obtain ⟨⟨m1,m2,m3,m4,m5,m6,m7,m8,m9,m10,m11⟩,n2,n3,n4,n5,n6,n7,n8,n9,⟨c1,_⟩,c2',c3⟩:=nn';dsimp only at *;simp only [iE,Ev.row,List.map_cons,List.map_nil,List.cons_append,List.nil_append] at hh
 have hfin:∀ (T:St) (w:Bool),w=(decide (kind=66) && decide (c < 16))→T.sl 0=st.sl 0∧T.sl 3=st.sl 3∧T.sl 6=st.sl 6∧T.sl 7=st.sl 7∧T.sl 8=st.sl 8→T.nc=st.nc→aH T→T.hb=up st.hb br (iE bs at_ ye ys yp bR lr w en)→pwp aG rest (exS aG k Q) T:=by
  rintro T w rfl ⟨s0,s3,s6,s7,s8⟩ snc sal shb;refine hK T ⟨s0.trans t0,s3.trans t3,s6.trans t6,s7.trans t7,s8.trans t8,snc.trans hnc,sal,⟨?_,?_,?_,?_,?_,?_,?_,?_,?_,fun b hb2=>(by have hb3:M≤b:=hb2;rw [shb,bB (by omega)];exact hf _ hb3)⟩,?_,?_,?_⟩
  all_goals try dsimp only
  ·rw [shb];exact dK
  all_goals first | (rw [shb,bB (by omega)];assumption) | skip
  exact ⟨nn.n1,nn.n2,nn.n3,nn.n4,nn.n5,nn.n6,nn.n7,nn.n8,nn.n9,nn.c1,nn.c2,nn.c3⟩
 simp only [nxB,tl,hd,xQ,dh,pcp50]
 rcases hb with hb | hb
 ·have e1:((kind:Int) == 66)=true:=by rw [hb];rfl
  simp only [↓evP,evB,stB,reduceCtorEq,Nat.reduceEqDiff,Nat.reduceAdd,Nat.reduceLeDiff,t0,t3,t6,hnc,c1,hh,e1];refine hfin _ (decide ((c:Int) < 16)) ?_ ⟨by simp only [stB,reduceCtorEq],by simp only [stB,Nat.reduceEqDiff],by simp only [stB,Nat.reduceEqDiff],by simp only [stB,Nat.reduceEqDiff],by simp only [stB,Nat.reduceEqDiff]⟩ (by simp only [stB]) (by repeat' (first | exact aH.init | assumption | exact aN (by assumption) | (refine aH.ap ?_ rfl))) ?_
  ·rw [decide_eq_true hb,Bool.true_and];exact decide_eq_decide.2 (by omega)
  ·simp only [stB,hnc,c1,iE,Ev.row]
   first | done | rfl
 ·have e1:((kind:Int) == 66)=false:=by rw [hb];rfl
  simp only [↓evP,evB,stB,reduceCtorEq,Nat.reduceEqDiff,Nat.reduceAdd,Nat.reduceLeDiff,t0,t3,hnc,c1,hh,e1];refine hfin _ false ?_ ⟨by simp only [stB,reduceCtorEq],by simp only [stB,Nat.reduceEqDiff],by simp only [stB,Nat.reduceEqDiff],by simp only [stB,Nat.reduceEqDiff],by simp only [stB,Nat.reduceEqDiff]⟩ (by simp only [stB]) (by repeat' (first | exact aH.init | assumption | exact aN (by assumption) | (refine aH.ap ?_ rfl))) ?_
  ·rw [decide_eq_false (by omega),Bool.false_and]
  ·simp only [stB,hnc,c1,iE,Ev.row]
   first | done | rfl
end
section
variable {k:List It} {Q:Exit→St→Prop} {st:St} {v:NV}
theorem Tn (h:NF st v) (hb:0≤v.at_∧v.at_≤1000000∧v.ed≤1000000000) (hK:∀ T,NF T { v with at_:=v.at_+((v.ed+4:Nat):Int) }→pwp aG (tl 17 nxB) (exS aG k Q) T):pwp aG (tl 16 nxB) (exS aG k Q) st:=by
 rw [Om];generalize tl 17 nxB=rest at hK ⊢;obtain ⟨br,ye,ys,yp,bR,bk,bp,it,xe,xs,xp,M,nc,bs,at_,lr,sh,en,YE,YS,YP,XE,XS,XP,S,F,eR,cR,e2,c2,kind,c,ed⟩:=v;obtain ⟨t0,t3,t6,t7,t8,hnc,hal,⟨hh,hp,he,hs,hq,ge,gs,gq,hR,hf⟩,hk,hi,nn⟩:=h;have nn':=nn;obtain ⟨⟨m1,m2,m3,m4,m5,m6,m7,m8,m9,m10,m11⟩,n2,n3,n4,n5,n6,n7,n8,n9,⟨c1,_⟩,c2',c3⟩:=nn';dsimp only at *;simp only [iE,Ev.row,List.map_cons,List.map_nil,List.cons_append,List.nil_append] at hh
 have hfin:∀ (T:St),T.sl 0=st.sl 0∧T.sl 3=st.sl 3∧T.sl 6=st.sl 6∧T.sl 7=st.sl 7∧T.sl 8=st.sl 8→T.nc=st.nc→aH T→T.hb=up st.hb br (iE bs (at_+((ed+4:Nat):Int)) ye ys yp bR lr sh en)→pwp aG rest (exS aG k Q) T:=by
  rintro T ⟨s0,s3,s6,s7,s8⟩ snc sal shb;refine hK T ⟨s0.trans t0,s3.trans t3,s6.trans t6,s7.trans t7,s8.trans t8,snc.trans hnc,sal,⟨?_,?_,?_,?_,?_,?_,?_,?_,?_,fun b hb2=>(by have hb3:M≤b:=hb2;rw [shb,bB (by omega)];exact hf _ hb3)⟩,?_,?_,?_⟩
  all_goals try dsimp only
  ·rw [shb];exact dK
  all_goals first | (rw [shb,bB (by omega)];assumption) | skip
  exact ⟨nn.n1,nn.n2,nn.n3,nn.n4,nn.n5,nn.n6,nn.n7,nn.n8,nn.n9,nn.c1,nn.c2,nn.c3⟩
 simp only [nxB,tl,hd,xQ,dh,pcp50];have w1:IntKind.i64.wrap ((ed:Int)+4)=((ed+4:Nat):Int):=by rw [dP (by omega) (by omega)];omega
 have w2:IntKind.i64.wrap (at_+((ed+4:Nat):Int))=at_+((ed+4:Nat):Int):=dP (by omega) (by omega);simp only [↓evP,evB,stB,Nat.reduceEqDiff,Nat.reduceAdd,Nat.reduceLeDiff,t0,t7,hnc,c1,hh,w1,w2];refine hfin _ ⟨by simp only [stB,reduceCtorEq],by simp only [stB,Nat.reduceEqDiff],by simp only [stB,Nat.reduceEqDiff],by simp only [stB,Nat.reduceEqDiff],by simp only [stB,Nat.reduceEqDiff]⟩ (by simp only [stB]) (by repeat' (first | exact aH.init | assumption | exact aN (by assumption) | (refine aH.ap ?_ rfl))) ?_;simp only [stB,hnc,c1,iE,Ev.row]
 first | done | rfl
theorem Tq (h:NF st v) (hr:(∀ r ∈ v.XS,r.length=2)∧v.YS.length+v.XS.length≤1000000) (hK:∀ T,NF T { v with ys:=v.M,M:=v.M+1,YS:=v.YS ++ v.XS }→pwp aG (tl 18 nxB) (exS aG k Q) T):pwp aG (tl 17 nxB) (exS aG k Q) st:=by
 rw [Oo];generalize tl 18 nxB=rest at hK ⊢;obtain ⟨br,ye,ys,yp,bR,bk,bp,it,xe,xs,xp,M,nc,bs,at_,lr,sh,en,YE,YS,YP,XE,XS,XP,S,F,eR,cR,e2,c2,kind,c,ed⟩:=v;obtain ⟨t0,t3,t6,t7,t8,hnc,hal,⟨hh,hp,he,hs,hq,ge,gs,gq,hR,hf⟩,hk,hi,nn⟩:=h;have nn':=nn;obtain ⟨n1,n2,n3,n4,n5,n6,n7,n8,n9,c1,c2',c3⟩:=nn';dsimp only at *;have hh0:=hh;simp only [iE,Ev.row,List.map_cons,List.map_nil,List.cons_append,List.nil_append] at hh;simp only [rsH,pq] at hp;obtain ⟨m1,m2,m3,m4,m5,m6,m7,m8,m9,m10,m11⟩:=n1;obtain ⟨a1,a2,a3,a4,a5,a6,a7,a8,a9,a10⟩:=n2;obtain ⟨b2,b3,b4,b5,b6,b7,b8,b9,b10⟩:=n3;obtain ⟨d3,d4,d5,d6,d7,d8,d9,d10⟩:=n4;obtain ⟨f4,f5,f6,f7,f8,f9,f10⟩:=n5;obtain ⟨g5,g6,g7,g8,g9,g10⟩:=n6;obtain ⟨i6,i7,i8,i9,i10⟩:=n7;obtain ⟨j7,j8,j9,j10⟩:=n8;obtain ⟨k7,k8,k9⟩:=n9;obtain ⟨p1,p2,p3,p4,p5,p6,p7,p8⟩:=c1;obtain ⟨q1,q2,q3⟩:=c2';have hM:=hf M (Nat.le_refl _);have pM:=c3 M (Nat.le_refl _);have o1:¬ br=ys:=m2
 have o2:¬ br=M:=Nat.ne_of_lt m11;have o3:¬ ys=M:=Nat.ne_of_lt b10;have o4:¬ ys=br:=Ne.symm m2;have o5:¬ M=br:=Nat.ne_of_gt m11;have o6:¬ M=ys:=Nat.ne_of_gt b10
 have hfin:∀ (T:St),T.sl 0=st.sl 0∧T.sl 3=st.sl 3∧T.sl 6=st.sl 6∧T.sl 7=st.sl 7∧T.sl 8=st.sl 8→T.nc=st.nc→aH T→T.hb=up (up (up st.hb ys .dead) M (.vec 50 2 (YS ++ XS))) br (iE bs at_ ye M yp bR lr sh en)→pwp aG rest (exS aG k Q) T:=by
  rintro T ⟨s0,s3,s6,s7,s8⟩ snc sal shb;have hx:∀ b,b≠br→b≠M→b≠ys→T.hb b=st.hb b:=fun b x1 x2 x3=>by rw [shb,bB x1,bB x2,bB x3]
  have hM2:T.hb M=.vec 50 2 (YS ++ XS):=by rw [shb,bB o5];exact dK
  have hfr:∀ b,M+1≤b→T.hb b=.no:=fun b hb=>by
   have hbM:M < b:=hb;rw [hx b (Nat.ne_of_gt (Nat.lt_trans m11 hbM)) (Nat.ne_of_gt hbM) (Nat.ne_of_gt (Nat.lt_trans b10 hbM))];exact hf b (Nat.le_of_lt hbM)
  have hbr2:T.hb br=iE bs at_ ye M yp bR lr sh en:=by rw [shb];exact dK
  refine hK T ⟨s0.trans t0,s3.trans t3,s6.trans t6,s7.trans t7,s8.trans t8,snc.trans hnc,sal,⟨hbr2,((hx bp (Ne.symm m6) (Nat.ne_of_lt i10) (Ne.symm b5)).trans hp),((hx ye (Ne.symm m1) (Nat.ne_of_lt a10) (a1)).trans he),hM2,((hx yp (Ne.symm m3) (Nat.ne_of_lt d10) (Ne.symm b2)).trans hq),((hx xe (Ne.symm m8) (Nat.ne_of_lt k7) (Ne.symm b7)).trans ge),((hx xs (Ne.symm m9) (Nat.ne_of_lt k8) (Ne.symm b8)).trans gs),((hx xp (Ne.symm m10) (Nat.ne_of_lt k9) (Ne.symm b9)).trans gq),((hx bR (Ne.symm m4) (Nat.ne_of_lt f10) (Ne.symm b3)).trans hR),hfr⟩,((hx bk (Ne.symm m5) (Nat.ne_of_lt g10) (Ne.symm b4)).trans hk),((hx it (Ne.symm m7) (Nat.ne_of_lt j10) (Ne.symm b6)).trans hi),?_⟩
  refine ⟨⟨m1,(Nat.ne_of_lt m11),m3,m4,m5,m6,m7,m8,m9,m10,(Nat.lt_succ_of_lt m11)⟩,⟨(Nat.ne_of_lt a10),a2,a3,a4,a5,a6,a7,a8,a9,(Nat.lt_succ_of_lt a10)⟩,⟨(Nat.ne_of_gt d10),(Nat.ne_of_gt f10),(Nat.ne_of_gt g10),(Nat.ne_of_gt i10),(Nat.ne_of_gt j10),(Nat.ne_of_gt k7),(Nat.ne_of_gt k8),(Nat.ne_of_gt k9),(Nat.lt_succ_self _)⟩,⟨d3,d4,d5,d6,d7,d8,d9,(Nat.lt_succ_of_lt d10)⟩,⟨f4,f5,f6,f7,f8,f9,(Nat.lt_succ_of_lt f10)⟩,⟨g5,g6,g7,g8,g9,(Nat.lt_succ_of_lt g10)⟩,⟨i6,i7,i8,i9,(Nat.lt_succ_of_lt i10)⟩,⟨j7,j8,j9,(Nat.lt_succ_of_lt j10)⟩,⟨(Nat.lt_succ_of_lt k7),(Nat.lt_succ_of_lt k8),(Nat.lt_succ_of_lt k9)⟩,?_,?_,fun b hb=>c3 b (Nat.le_of_lt hb)⟩
  ·exact ⟨p1,p2,pM,p4,p5,p6,p7,p8⟩
  ·exact ⟨q1,q2,q3⟩
 simp only [nxB,tl,hd,xQ,dh,pcp50];simp only [↓evP,evB,stB,reduceCtorEq,Nat.reduceEqDiff,Nat.reduceAdd,t0,t8,hnc,p1,p3,p7,q2,hh,hp];refine nK (a:=ys) (rows:=YS) (news:=XS) M (dU (by simp only [stB,hnc,p3,pM]) (by repeat' (first | exact aH.init | assumption | exact aN (by assumption) | (refine aH.ap ?_ rfl))) (by simp only [stB,hM])) (by simp only [stB,Nat.reduceEqDiff]) (by simp only [stB,hs]) (rF (a:=xs) (E:=50) (sz:=2) (by simp only [stB,Nat.reduceEqDiff]) (by simp only [stB,gs])) ⟨hr.1,hr.2,by decide⟩ ?_;simp only [evB,stB,Nat.reduceEqDiff,Nat.reduceAdd,Nat.reduceLeDiff,hnc,p1,p3,pM,hh,o1,o2];refine ⟨(by unfold Drw;refine Eq.trans (b:=true) ?_ rfl;kernel_rfl),?_⟩
 refine hfin _ ⟨by simp only [stB,reduceCtorEq],by simp only [stB,Nat.reduceEqDiff],by simp only [stB,Nat.reduceEqDiff],by simp only [stB,Nat.reduceEqDiff],by simp only [stB,Nat.reduceEqDiff]⟩ (by simp only [stB]) (by repeat' (first | exact aH.init | assumption | exact aN (by assumption) | (refine aH.ap ?_ rfl))) ?_;simp only [stB,hnc,p1,p3,pM,iE,Ev.row]
 first | done | rfl
theorem Tt (h:NF st v) (hr:(∀ r ∈ v.XP,r.length=1)∧v.YP.length+v.XP.length≤1000000) (hK:∀ T,NF T { v with yp:=v.M,M:=v.M+1,YP:=v.YP ++ v.XP }→pwp aG (tl 19 nxB) (exS aG k Q) T):pwp aG (tl 18 nxB) (exS aG k Q) st:=by
 rw [Oq];generalize tl 19 nxB=rest at hK ⊢;obtain ⟨br,ye,ys,yp,bR,bk,bp,it,xe,xs,xp,M,nc,bs,at_,lr,sh,en,YE,YS,YP,XE,XS,XP,S,F,eR,cR,e2,c2,kind,c,ed⟩:=v;obtain ⟨t0,t3,t6,t7,t8,hnc,hal,⟨hh,hp,he,hs,hq,ge,gs,gq,hR,hf⟩,hk,hi,nn⟩:=h;have nn':=nn;obtain ⟨n1,n2,n3,n4,n5,n6,n7,n8,n9,c1,c2',c3⟩:=nn';dsimp only at *;have hh0:=hh;simp only [iE,Ev.row,List.map_cons,List.map_nil,List.cons_append,List.nil_append] at hh;simp only [rsH,pq] at hp;obtain ⟨m1,m2,m3,m4,m5,m6,m7,m8,m9,m10,m11⟩:=n1;obtain ⟨a1,a2,a3,a4,a5,a6,a7,a8,a9,a10⟩:=n2;obtain ⟨b2,b3,b4,b5,b6,b7,b8,b9,b10⟩:=n3;obtain ⟨d3,d4,d5,d6,d7,d8,d9,d10⟩:=n4;obtain ⟨f4,f5,f6,f7,f8,f9,f10⟩:=n5;obtain ⟨g5,g6,g7,g8,g9,g10⟩:=n6;obtain ⟨i6,i7,i8,i9,i10⟩:=n7;obtain ⟨j7,j8,j9,j10⟩:=n8;obtain ⟨k7,k8,k9⟩:=n9;obtain ⟨p1,p2,p3,p4,p5,p6,p7,p8⟩:=c1;obtain ⟨q1,q2,q3⟩:=c2';have hM:=hf M (Nat.le_refl _);have pM:=c3 M (Nat.le_refl _);have o1:¬ br=yp:=m3
 have o2:¬ br=M:=Nat.ne_of_lt m11;have o3:¬ yp=M:=Nat.ne_of_lt d10;have o4:¬ yp=br:=Ne.symm m3;have o5:¬ M=br:=Nat.ne_of_gt m11;have o6:¬ M=yp:=Nat.ne_of_gt d10
 have hfin:∀ (T:St),T.sl 0=st.sl 0∧T.sl 3=st.sl 3∧T.sl 6=st.sl 6∧T.sl 7=st.sl 7∧T.sl 8=st.sl 8→T.nc=st.nc→aH T→T.hb=up (up (up st.hb yp .dead) M (.vec 3 1 (YP ++ XP))) br (iE bs at_ ye ys M bR lr sh en)→pwp aG rest (exS aG k Q) T:=by
  rintro T ⟨s0,s3,s6,s7,s8⟩ snc sal shb;have hx:∀ b,b≠br→b≠M→b≠yp→T.hb b=st.hb b:=fun b x1 x2 x3=>by rw [shb,bB x1,bB x2,bB x3]
  have hM2:T.hb M=.vec 3 1 (YP ++ XP):=by rw [shb,bB o5];exact dK
  have hfr:∀ b,M+1≤b→T.hb b=.no:=fun b hb=>by
   have hbM:M < b:=hb;rw [hx b (Nat.ne_of_gt (Nat.lt_trans m11 hbM)) (Nat.ne_of_gt hbM) (Nat.ne_of_gt (Nat.lt_trans d10 hbM))];exact hf b (Nat.le_of_lt hbM)
  have hbr2:T.hb br=iE bs at_ ye ys M bR lr sh en:=by rw [shb];exact dK
  refine hK T ⟨s0.trans t0,s3.trans t3,s6.trans t6,s7.trans t7,s8.trans t8,snc.trans hnc,sal,⟨hbr2,((hx bp (Ne.symm m6) (Nat.ne_of_lt i10) (Ne.symm d5)).trans hp),((hx ye (Ne.symm m1) (Nat.ne_of_lt a10) (a2)).trans he),((hx ys (Ne.symm m2) (Nat.ne_of_lt b10) (b2)).trans hs),hM2,((hx xe (Ne.symm m8) (Nat.ne_of_lt k7) (Ne.symm d7)).trans ge),((hx xs (Ne.symm m9) (Nat.ne_of_lt k8) (Ne.symm d8)).trans gs),((hx xp (Ne.symm m10) (Nat.ne_of_lt k9) (Ne.symm d9)).trans gq),((hx bR (Ne.symm m4) (Nat.ne_of_lt f10) (Ne.symm d3)).trans hR),hfr⟩,((hx bk (Ne.symm m5) (Nat.ne_of_lt g10) (Ne.symm d4)).trans hk),((hx it (Ne.symm m7) (Nat.ne_of_lt j10) (Ne.symm d6)).trans hi),?_⟩
  refine ⟨⟨m1,m2,(Nat.ne_of_lt m11),m4,m5,m6,m7,m8,m9,m10,(Nat.lt_succ_of_lt m11)⟩,⟨a1,(Nat.ne_of_lt a10),a3,a4,a5,a6,a7,a8,a9,(Nat.lt_succ_of_lt a10)⟩,⟨(Nat.ne_of_lt b10),b3,b4,b5,b6,b7,b8,b9,(Nat.lt_succ_of_lt b10)⟩,⟨(Nat.ne_of_gt f10),(Nat.ne_of_gt g10),(Nat.ne_of_gt i10),(Nat.ne_of_gt j10),(Nat.ne_of_gt k7),(Nat.ne_of_gt k8),(Nat.ne_of_gt k9),(Nat.lt_succ_self _)⟩,⟨f4,f5,f6,f7,f8,f9,(Nat.lt_succ_of_lt f10)⟩,⟨g5,g6,g7,g8,g9,(Nat.lt_succ_of_lt g10)⟩,⟨i6,i7,i8,i9,(Nat.lt_succ_of_lt i10)⟩,⟨j7,j8,j9,(Nat.lt_succ_of_lt j10)⟩,⟨(Nat.lt_succ_of_lt k7),(Nat.lt_succ_of_lt k8),(Nat.lt_succ_of_lt k9)⟩,?_,?_,fun b hb=>c3 b (Nat.le_of_lt hb)⟩
  ·exact ⟨p1,p2,p3,pM,p5,p6,p7,p8⟩
  ·exact ⟨q1,q2,q3⟩
 simp only [nxB,tl,hd,xQ,dh,pcp50];simp only [↓evP,evB,stB,reduceCtorEq,Nat.reduceEqDiff,Nat.reduceAdd,t0,t8,hnc,p1,p4,p8,q2,hh,hp];refine nK (a:=yp) (rows:=YP) (news:=XP) M (dU (by simp only [stB,hnc,p4,pM]) (by repeat' (first | exact aH.init | assumption | exact aN (by assumption) | (refine aH.ap ?_ rfl))) (by simp only [stB,hM])) (by simp only [stB,Nat.reduceEqDiff]) (by simp only [stB,hq]) (rF (a:=xp) (E:=3) (sz:=1) (by simp only [stB,Nat.reduceEqDiff]) (by simp only [stB,gq])) ⟨hr.1,hr.2,by decide⟩ ?_;simp only [evB,stB,Nat.reduceEqDiff,Nat.reduceAdd,Nat.reduceLeDiff,hnc,p1,p4,pM,hh,o1,o2];refine ⟨(by unfold Drw;refine Eq.trans (b:=true) ?_ rfl;kernel_rfl),?_⟩
 refine hfin _ ⟨by simp only [stB,reduceCtorEq],by simp only [stB,Nat.reduceEqDiff],by simp only [stB,Nat.reduceEqDiff],by simp only [stB,Nat.reduceEqDiff],by simp only [stB,Nat.reduceEqDiff]⟩ (by simp only [stB]) (by repeat' (first | exact aH.init | assumption | exact aN (by assumption) | (refine aH.ap ?_ rfl))) ?_;simp only [stB,hnc,p1,p4,pM,iE,Ev.row]
 first | done | rfl
theorem Tv (h:NF st v) (hr:(∀ r ∈ v.XE,r.length=9)∧v.YE.length+v.XE.length≤1000000) (hK:∀ T,NF T { v with ye:=v.M,M:=v.M+1,YE:=v.YE ++ v.XE }→pwp aG (tl 20 nxB) (exS aG k Q) T):pwp aG (tl 19 nxB) (exS aG k Q) st:=by
 rw [Ot];generalize tl 20 nxB=rest at hK ⊢;obtain ⟨br,ye,ys,yp,bR,bk,bp,it,xe,xs,xp,M,nc,bs,at_,lr,sh,en,YE,YS,YP,XE,XS,XP,S,F,eR,cR,e2,c2,kind,c,ed⟩:=v;obtain ⟨t0,t3,t6,t7,t8,hnc,hal,⟨hh,hp,he,hs,hq,ge,gs,gq,hR,hf⟩,hk,hi,nn⟩:=h;have nn':=nn;obtain ⟨n1,n2,n3,n4,n5,n6,n7,n8,n9,c1,c2',c3⟩:=nn';dsimp only at *;have hh0:=hh;simp only [iE,Ev.row,List.map_cons,List.map_nil,List.cons_append,List.nil_append] at hh;simp only [rsH,pq] at hp;obtain ⟨m1,m2,m3,m4,m5,m6,m7,m8,m9,m10,m11⟩:=n1;obtain ⟨a1,a2,a3,a4,a5,a6,a7,a8,a9,a10⟩:=n2;obtain ⟨b2,b3,b4,b5,b6,b7,b8,b9,b10⟩:=n3;obtain ⟨d3,d4,d5,d6,d7,d8,d9,d10⟩:=n4;obtain ⟨f4,f5,f6,f7,f8,f9,f10⟩:=n5;obtain ⟨g5,g6,g7,g8,g9,g10⟩:=n6;obtain ⟨i6,i7,i8,i9,i10⟩:=n7;obtain ⟨j7,j8,j9,j10⟩:=n8;obtain ⟨k7,k8,k9⟩:=n9;obtain ⟨p1,p2,p3,p4,p5,p6,p7,p8⟩:=c1;obtain ⟨q1,q2,q3⟩:=c2';have hM:=hf M (Nat.le_refl _);have pM:=c3 M (Nat.le_refl _);have o1:¬ br=ye:=m1
 have o2:¬ br=M:=Nat.ne_of_lt m11;have o3:¬ ye=M:=Nat.ne_of_lt a10;have o4:¬ ye=br:=Ne.symm m1;have o5:¬ M=br:=Nat.ne_of_gt m11;have o6:¬ M=ye:=Nat.ne_of_gt a10
 have hfin:∀ (T:St),T.sl 0=st.sl 0∧T.sl 3=st.sl 3∧T.sl 6=st.sl 6∧T.sl 7=st.sl 7∧T.sl 8=st.sl 8→T.nc=st.nc→aH T→T.hb=up (up (up st.hb ye .dead) M (.vec 42 9 (YE ++ XE))) br (iE bs at_ M ys yp bR lr sh en)→pwp aG rest (exS aG k Q) T:=by
  rintro T ⟨s0,s3,s6,s7,s8⟩ snc sal shb;have hx:∀ b,b≠br→b≠M→b≠ye→T.hb b=st.hb b:=fun b x1 x2 x3=>by rw [shb,bB x1,bB x2,bB x3]
  have hM2:T.hb M=.vec 42 9 (YE ++ XE):=by rw [shb,bB o5];exact dK
  have hfr:∀ b,M+1≤b→T.hb b=.no:=fun b hb=>by
   have hbM:M < b:=hb;rw [hx b (Nat.ne_of_gt (Nat.lt_trans m11 hbM)) (Nat.ne_of_gt hbM) (Nat.ne_of_gt (Nat.lt_trans a10 hbM))];exact hf b (Nat.le_of_lt hbM)
  have hbr2:T.hb br=iE bs at_ M ys yp bR lr sh en:=by rw [shb];exact dK
  refine hK T ⟨s0.trans t0,s3.trans t3,s6.trans t6,s7.trans t7,s8.trans t8,snc.trans hnc,sal,⟨hbr2,((hx bp (Ne.symm m6) (Nat.ne_of_lt i10) (Ne.symm a5)).trans hp),hM2,((hx ys (Ne.symm m2) (Nat.ne_of_lt b10) (Ne.symm a1)).trans hs),((hx yp (Ne.symm m3) (Nat.ne_of_lt d10) (Ne.symm a2)).trans hq),((hx xe (Ne.symm m8) (Nat.ne_of_lt k7) (Ne.symm a7)).trans ge),((hx xs (Ne.symm m9) (Nat.ne_of_lt k8) (Ne.symm a8)).trans gs),((hx xp (Ne.symm m10) (Nat.ne_of_lt k9) (Ne.symm a9)).trans gq),((hx bR (Ne.symm m4) (Nat.ne_of_lt f10) (Ne.symm a3)).trans hR),hfr⟩,((hx bk (Ne.symm m5) (Nat.ne_of_lt g10) (Ne.symm a4)).trans hk),((hx it (Ne.symm m7) (Nat.ne_of_lt j10) (Ne.symm a6)).trans hi),?_⟩
  refine ⟨⟨(Nat.ne_of_lt m11),m2,m3,m4,m5,m6,m7,m8,m9,m10,(Nat.lt_succ_of_lt m11)⟩,⟨(Nat.ne_of_gt b10),(Nat.ne_of_gt d10),(Nat.ne_of_gt f10),(Nat.ne_of_gt g10),(Nat.ne_of_gt i10),(Nat.ne_of_gt j10),(Nat.ne_of_gt k7),(Nat.ne_of_gt k8),(Nat.ne_of_gt k9),(Nat.lt_succ_self _)⟩,⟨b2,b3,b4,b5,b6,b7,b8,b9,(Nat.lt_succ_of_lt b10)⟩,⟨d3,d4,d5,d6,d7,d8,d9,(Nat.lt_succ_of_lt d10)⟩,⟨f4,f5,f6,f7,f8,f9,(Nat.lt_succ_of_lt f10)⟩,⟨g5,g6,g7,g8,g9,(Nat.lt_succ_of_lt g10)⟩,⟨i6,i7,i8,i9,(Nat.lt_succ_of_lt i10)⟩,⟨j7,j8,j9,(Nat.lt_succ_of_lt j10)⟩,⟨(Nat.lt_succ_of_lt k7),(Nat.lt_succ_of_lt k8),(Nat.lt_succ_of_lt k9)⟩,?_,?_,fun b hb=>c3 b (Nat.le_of_lt hb)⟩
  ·exact ⟨p1,pM,p3,p4,p5,p6,p7,p8⟩
  ·exact ⟨q1,q2,q3⟩
 simp only [nxB,tl,hd,xQ,dh,pcp50];simp only [↓evP,evB,stB,reduceCtorEq,Nat.reduceEqDiff,t0,t8,hnc,p1,p2,p6,q2,hh,hp];refine nK (a:=ye) (rows:=YE) (news:=XE) M (dU (by simp only [stB,hnc,p2,pM]) (by repeat' (first | exact aH.init | assumption | exact aN (by assumption) | (refine aH.ap ?_ rfl))) (by simp only [stB,hM])) (by simp only [stB,Nat.reduceEqDiff]) (by simp only [stB,he]) (rF (a:=xe) (E:=42) (sz:=9) (by simp only [stB,Nat.reduceEqDiff]) (by simp only [stB,ge])) ⟨hr.1,hr.2,by decide⟩ ?_;simp only [evB,stB,Nat.reduceEqDiff,Nat.reduceAdd,Nat.reduceLeDiff,hnc,p1,p2,pM,hh,o1,o2];refine ⟨(by unfold Drw;refine Eq.trans (b:=true) ?_ rfl;kernel_rfl),?_⟩
 refine hfin _ ⟨by simp only [stB,reduceCtorEq],by simp only [stB,Nat.reduceEqDiff],by simp only [stB,Nat.reduceEqDiff],by simp only [stB,Nat.reduceEqDiff],by simp only [stB,Nat.reduceEqDiff]⟩ (by simp only [stB]) (by repeat' (first | exact aH.init | assumption | exact aN (by assumption) | (refine aH.ap ?_ rfl))) ?_;simp only [stB,hnc,p1,p2,pM,iE,Ev.row]
 first | done | rfl
end
section
theorem Bg {l l':List Nat} (h:l.Nodup) (hs:∀ n ∈ l,n ∈ l'):l.length≤l'.length:=by
 induction l generalizing l' with
 | nil=>exact Nat.zero_le _
 | cons a l ih =>
   rw [List.nodup_cons] at h;have ha:=hs a (List.mem_cons_self ..);have:=ih h.2 (l':=l'.erase a) (fun n hn=>(List.mem_erase_of_ne (fun e:n=a=>h.1 (e ▸ hn))).2 (hs n (List.mem_cons_of_mem _ hn)));rw [List.length_erase_of_mem ha] at this;have hpos:=List.length_pos_of_mem ha;rw [List.length_cons];omega
variable {k:List It} {Q:Exit→St→Prop} {st:St} {v:NV}
def TH (x:Value):Prop:=∃ a b c:Int,gJ a∧gJ b∧gJ c∧x=mW a b c
theorem Tz (h:NF st v) {TR T2:Value→Prop} (hKR:Kn v.eR v.cR TR) (hK2:Kn v.e2 v.c2 T2) (hkey:∀ x,T2 x→TH x) (hK:∀ T eR' cR',Kn eR' cR' (fun x=>TR x∨T2 x)→NF2 T { v with eR:=eR',cR:=cR' }→pwp aG (tl 21 nxB) (exS aG k Q) T):pwp aG (tl 20 nxB) (exS aG k Q) st:=by
 rw [Ou];generalize tl 21 nxB=rest at hK ⊢;obtain ⟨br,ye,ys,yp,bR,bk,bp,it,xe,xs,xp,M,nc,bs,at_,lr,sh,en,YE,YS,YP,XE,XS,XP,S,F,eR,cR,e2,c2,kind,c,ed⟩:=v;obtain ⟨t0,t3,t6,t7,t8,hnc,hal,⟨hh,hp,he,hs,hq,ge,gs,gq,hR,hf⟩,hk,hi,nn⟩:=h;have nn':=nn;obtain ⟨n1,n2,n3,n4,n5,n6,n7,n8,n9,c1,c2',c3⟩:=nn';dsimp only at *;have hp0:=hp;simp only [rsH,pq] at hp;obtain ⟨m1,m2,m3,m4,m5,m6,m7,m8,m9,m10,m11⟩:=n1;obtain ⟨a1,a2,a3,a4,a5,a6,a7,a8,a9,a10⟩:=n2;obtain ⟨b2,b3,b4,b5,b6,b7,b8,b9,b10⟩:=n3;obtain ⟨d3,d4,d5,d6,d7,d8,d9,d10⟩:=n4;obtain ⟨f4,f5,f6,f7,f8,f9,f10⟩:=n5;obtain ⟨g5,g6,g7,g8,g9,g10⟩:=n6;obtain ⟨i6,i7,i8,i9,i10⟩:=n7;obtain ⟨j7,j8,j9,j10⟩:=n8;obtain ⟨k7,k8,k9⟩:=n9;obtain ⟨p1,p2,p3,p4,p5,p6,p7,p8⟩:=c1;obtain ⟨q1,q2,q3⟩:=c2'
 have hfin:∀ (T:St) eR' cR',Kn eR' cR' (fun x=>TR x∨T2 x)→T.sl 0=st.sl 0∧T.sl 3=st.sl 3∧T.sl 8=st.sl 8→T.nc=st.nc→aH T→T.hb bR=.map 113 eR' cR'→(∀ b,b≠it→b≠bR→T.hb b=st.hb b)→pwp aG rest (exS aG k Q) T:=by
  rintro T eR' cR' hKn ⟨s0,s3,s8⟩ snc sal smap hx;refine hK T eR' cR' hKn ⟨s0.trans t0,s3.trans t3,s8.trans t8,snc.trans hnc,sal,⟨(hx br m7 m4).trans hh,(hx bp i6 (Ne.symm f5)).trans hp0,(hx ye a6 a3).trans he,(hx ys b6 b3).trans hs,(hx yp d6 d3 |>.trans hq),(hx xe (Ne.symm j7) (Ne.symm f7)).trans ge,(hx xs (Ne.symm j8) (Ne.symm f8)).trans gs,(hx xp (Ne.symm j9) (Ne.symm f9)).trans gq,smap,fun b hb=>(hx b (Nat.ne_of_gt (Nat.lt_of_lt_of_le j10 hb)) (Nat.ne_of_gt (Nat.lt_of_lt_of_le f10 hb))).trans (hf b hb)⟩,⟨nn.n1,nn.n2,nn.n3,nn.n4,nn.n5,nn.n6,nn.n7,nn.n8,nn.n9,nn.c1,nn.c2,nn.c3⟩⟩
 simp only [nxB,tl,hd,xQ,dh,pcp50];simp only [↓evP,evB,stB,Nat.reduceEqDiff,t8,hp];refine DN (bm:=bk) (t:=113) (clock:=c2) (es:=e2) it (dU (by simp only [stB,hnc,q3]) (by repeat' (first | exact aH.init | assumption | exact aN (by assumption) | (refine aH.ap ?_ rfl))) (by simp only [stB,hi])) (by simp only [stB,Nat.reduceEqDiff]) (by simp only [stB,hk]) ?_;simp only [↓evP,evB];refine dA msp50_0 osp50_0 (fun m T=>∃ (seen:List Nat) (eR':List (Value×Nat×Hw)) (cR':Nat),m=e2.length+1 - seen.length∧T.hb it=.iter bk c2 seen c2∧T.hb bR=.map 113 eR' cR'∧Kn eR' cR' (fun x=>TR x∨∃ e ∈ e2,seen.contains e.2.1=true∧e.1=x)∧(∀ b,b≠it→b≠bR→T.hb b=st.hb b)∧seen.Nodup∧∀ n ∈ seen,n ∈ e2.map (·.2.1)) (e2.length+1) (by repeat' (first | exact aH.init | assumption | exact aN (by assumption) | (refine aH.ap ?_ rfl))) ?_ ?_
 ·refine ⟨[],eR,cR,rfl,by simp only [stB,hnc,q3];first | done | rfl,by simp only [stB,hnc,q3,f6];exact hR,?_,fun b h1 h2=>by simp only [stB,hnc,q3,h1],List.nodup_nil,fun n hn=>absurd hn List.not_mem_nil⟩
  have:(fun x=>TR x∨∃ e ∈ e2,([]:List Nat).contains e.2.1=true∧e.1=x)=TR:=by funext x;simp
  rw [this];exact hKR
 rintro m j hjn hja ⟨seen,eR',cR',rfl,hit,hmR,hKn,hx,hnd,hsub⟩;simp only [stB,hjn,hnc] at hit hmR hx
 have hsl:seen.length≤e2.length:=by
  have:=Bg hnd hsub;rw [List.length_map] at this;exact this
 have hbk:j.hb bk=.map 113 e2 c2:=(hx bk g6 (Ne.symm f4)).trans hk;simp only [↓evP,evB,stB,Nat.reduceEqDiff,Nat.reduceBEq];refine Ad (r:=it) (b:=bk) (since:=c2) (c0:=c2) (t:=113) (clock:=c2) (seen:=seen) (es:=e2) (by simp only [stB,hjn,hnc,hit]) (by simp only [stB,hjn,hnc,hbk]) ⟨hK2.c,Nat.le_refl _,Nat.le_refl _⟩ ?_ ?_
 ·intro hall;simp only [↓evP,evB,stB,reduceCtorEq,Nat.reduceEqDiff,Nat.reduceBEq,hjn,hnc]
  refine hfin _ eR' cR' ?_ ⟨by simp only [stB,reduceCtorEq,Nat.reduceBEq,t0],by simp only [stB,Nat.reduceEqDiff,Nat.reduceBEq,t3],by simp only [stB,Nat.reduceEqDiff,Nat.reduceBEq,t8]⟩ (by simp only [stB,hnc]) (by repeat' (first | with_reducible exact aN hja | (refine aH.ap ?_ rfl))) (by simp only [stB,hjn,hnc,hmR]) (fun b h1 h2=>by simp only [stB,hjn,hnc];exact hx b h1 h2)
  have:(fun x=>TR x∨∃ e ∈ e2,seen.contains e.2.1=true∧e.1=x)=(fun x=>TR x∨T2 x):=by
   funext x
   refine propext ⟨fun q=>q.imp id ?_,fun q=>q.imp id ?_⟩
   ·rintro ⟨e,he,_,rfl⟩;exact (hK2.k _).1 (List.mem_map.2 ⟨e,he,rfl⟩)
   ·intro q;obtain ⟨e,he,rfl⟩:=List.mem_map.1 ((hK2.k x).2 q);exact ⟨e,he,hall e he,rfl⟩
  rw [this] at hKn;exact hKn
 ·intro e hem hns;obtain ⟨ka,kb,kc,ia,ib,ic,hek⟩:=hkey e.1 ((hK2.k _).1 (List.mem_map.2 ⟨e,hem,rfl⟩));have hev:=hK2.v e hem;have hfd:=uw hK2.u hem;obtain ⟨e1,s1,w1⟩:=e;dsimp only at hek hev hfd hns;subst hek hev;have hki:=xq ia ib ic;have hgl:(seen ++ [s1]).getLast? = some s1:=List.getLast?_concat ..;have hv:sI (mW ka kb kc)=.agg [.d (.sc (.int .i64 ka)),.d (.sc (.int .i64 kb)),.d (.sc (.int .i64 kc))]:=rfl;have hns':s1 ∉ seen:=by simpa using hns
  have hnd':(seen ++ [s1]).Nodup:=by
   rw [List.nodup_append];exact ⟨hnd,by simp,fun a ha b hb=>by rw [List.mem_singleton.1 hb];intro q;exact hns' (q ▸ ha)⟩
  have hbrj:j.hb br=iE bs at_ ye ys yp bR lr sh en:=(hx br m7 m4).trans hh;have hbrj':=hbrj;simp only [iE] at hbrj';have o1:¬ bk=it:=g6;have o2:¬ br=it:=m7;have o3:¬ bR=it:=f6;have o4:¬ it=bR:=Ne.symm f6;have hput:=hKn.put (mW ka kb kc)
  have hsub':∀ n ∈ seen ++ [s1],n ∈ e2.map (·.2.1):=fun n hn=>by
   rcases List.mem_append.1 hn with q | q
   ·exact hsub n q
   ·rw [List.mem_singleton.1 q];exact List.mem_map.2 ⟨_,hem,rfl⟩
  have hsl':(seen ++ [s1]).length≤e2.length:=by
   have:=Bg hnd' hsub';rw [List.length_map] at this;exact this
  rw [List.length_append] at hsl';have hsl'':seen.length+1≤e2.length:=hsl';unfold mW at hfd;simp only [↓evP,evB,stB,reduceCtorEq,Nat.reduceEqDiff,Nat.reduceAdd,Nat.reduceLeDiff,Nat.reduceLT,Nat.reduceBEq,t0,hjn,hnc,q3,p1,p5,o1,o2,o3,hbk,hgl,hfd,hv,hbrj',hmR,hki,trW];refine ⟨(by unfold Drw;refine Eq.trans (b:=true) ?_ rfl;kernel_rfl),?_⟩
  refine ⟨_,?_,(by repeat' (first | assumption | exact aP (by assumption) | (refine aJ ?_ rfl rfl) | (refine aD ?_ rfl) | (refine aJ ?_ rfl aK) | (refine aD ?_ aK) | (refine bV.in' ?_ (aP (by assumption)) rfl rfl))),seen ++ [s1],_,_,rfl,by simp only [stB,Nat.reduceLT,hjn,hnc,q3,p5,o4];first | done | rfl,by simp only [stB,Nat.reduceLT,hjn,hnc,q3,p5,o3,hmR];first | done | rfl,?_,fun b h1 h2=>?_,hnd',hsub'⟩
  ·rw [List.length_append];show _ - (seen.length+1) < _;omega
  ·have:(fun x=>TR x∨∃ e ∈ e2,(seen ++ [s1]).contains e.2.1=true∧e.1=x)=(fun y=>(TR y∨∃ e ∈ e2,seen.contains e.2.1=true∧e.1=y)∨y=mW ka kb kc):=by
    funext x
    refine propext ⟨?_,?_⟩
    ·rintro (q | ⟨e,he,h1,rfl⟩)
     ·exact .inl (.inl q)
     ·by_cases h2:e.2.1 ∈ seen
      ·exact .inl (.inr ⟨e,he,by simpa using h2,rfl⟩)
      ·have h3:e.2.1=s1:=by
        have:e.2.1 ∈ seen ++ [s1]:=by simpa using h1
        rcases List.mem_append.1 this with q | q
        ·exact absurd q h2
        ·exact List.mem_singleton.1 q
       have h4:=uw hK2.u he;rw [h3] at h4;have h5:some e=some _:=h4.symm.trans hfd;cases h5;exact .inr rfl
    ·rintro ((q | ⟨e,he,h1,rfl⟩) | rfl)
     ·exact .inl q
     ·exact .inr ⟨e,he,by have h2:e.2.1 ∈ seen:=by simpa using h1
                          have h3:e.2.1 ∈ seen ++ [s1]:=List.mem_append_left _ h2
                          simpa using h3,rfl⟩
     ·exact .inr ⟨_,hem,by simp,rfl⟩
   rw [this];exact hput
  ·simp only [stB,Nat.reduceLT,hjn,hnc,q3,p5,h1,h2];exact hx b h1 h2
end
section
variable {st:St} {v:NV}
def QN (Post:(Nat→Hb)→List Hw→Prop):Exit→St→Prop:=fun e s=>(e=.normal∨e=.ret)∧∃ hp' rs,s.gP prp50=some rs∧(∀ b,hp' b=s.hb b∨(hp' b=.dead∧s.hb b≠.no))∧Post hp' rs
theorem TA {Post:(Nat→Hb)→List Hw→Prop} (h:NF2 st v) (L:Ev) (hF:v.F=L.fl) (hb:v.kind=66∨v.kind=69) (hP:∀ h',NH h' { v with lr:=L,en:=decide (v.kind=69) }→Post h' [.one (hI 0)]):pwp aG (tl 21 nxB) (exS aG [.sc 0 nxH] (QN Post)) st:=by
 rw [Ov,Ox];generalize tl 23 nxB=rest;generalize nxH=hnd;obtain ⟨br,ye,ys,yp,bR,bk,bp,it,xe,xs,xp,M,nc,bs,at_,lr,sh,en,YE,YS,YP,XE,XS,XP,S,F,eR,cR,e2,c2,kind,c,ed⟩:=v;obtain ⟨t0,t3,t8,hnc,hal,⟨hh,hp,he,hs,hq,ge,gs,gq,hR,hf⟩,nn⟩:=h;obtain ⟨⟨m1,m2,m3,m4,m5,m6,m7,m8,m9,m10,m11⟩,n2,n3,n4,n5,n6,n7,n8,n9,⟨p1,_⟩,⟨q1,q2,q3⟩,c3⟩:=nn;dsimp only at *;subst hF;have hp0:=hp;simp only [iE,Ev.row,List.map_cons,List.map_nil,List.cons_append,List.nil_append] at hh;simp only [rsH,pq,flC,Ev.fl,List.map_cons,List.map_nil] at hp
 have hfin:∀ T:Nat→Hb,T=up st.hb br (iE bs at_ ye ys yp bR L sh (decide (kind=69)))→Post T [.one (hI 0)]:=fun T shb=>by
  refine hP _ ⟨?_,?_,?_,?_,?_,?_,?_,?_,?_,fun b hb2=>(by have hb3:M≤b:=hb2;rw [shb,bB (Nat.ne_of_gt (Nat.lt_of_lt_of_le m11 hb3))];exact hf _ hb3)⟩
  all_goals try dsimp only
  ·rw [shb];exact dK
  all_goals rw [shb,bB (Ne.symm ‹_›)];assumption
 obtain ⟨w,hw⟩:∃ w,decide (kind=69)=w:=⟨_,rfl⟩
 have e1:((kind:Int) == 69)=w:=by
  rw [←hw]
  rcases hb with hb | hb <;> rw [hb] <;> rfl
 rw [hw] at hfin;simp only [nxB,tl,hd,xQ,dh,pcp50];have o1:¬ br=bp:=m6;have o2:¬ bp=br:=Ne.symm m6;simp only [↓evP,evB,stB,reduceCtorEq,Nat.reduceEqDiff,Nat.reduceAdd,Nat.reduceLeDiff,t0,t3,t8,hnc,p1,hh,hp,e1,QN,prp50];refine ⟨_,_,rfl,fun b=>.inl rfl,hfin _ ?_⟩
 funext b
 simp only [ay,iE,Ev.row,List.map_cons,List.map_nil,List.cons_append,List.nil_append]
 by_cases q:b=br
 ·rw [if_pos q,if_pos q]
 ·rw [if_neg q,if_neg q,if_neg q]
end
end Go.Proofs.Ytkafcpnahpfbfaa
end
