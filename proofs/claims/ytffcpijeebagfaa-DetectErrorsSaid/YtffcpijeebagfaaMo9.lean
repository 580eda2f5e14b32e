/- The document's answer for chapter 37, on valid lists: contracts about data. -/
import Derived.Test.YtffcpijeebagfaaMo8
set_option linter.unusedSimpArgs false
set_option linter.unusedVariables false
section
namespace Go.Proofs.Ytffcpijeebagfaa
open Go Go.RowKit
set_option maxRecDepth 100000
set_option maxHeartbeats 4000000
def AV (l:List Ev):Pa:=.agg [l9 l]
def okN (l:List Ev) (e:Ev):Prop:=e.valid=true∧chk (l ++ [e])=(l ++ [e]).length
instance (l:List Ev) (e:Ev):Decidable (okN l e):=inferInstanceAs (Decidable (_∧_))
def pK (l:List Ev) (e:Ev):List Ev:=if okN l e then l ++ [e] else l
def KP (l:List Ev) (e:Ev):Ck:=if okN l e then stp (l ++ [e]) l.length else ckZ
def mg (l:List Ev) (e:Ev):Int:=if okN l e then 0 else if e.valid=true then 11 else 1
section
variable {l:List Ev} {n:Nat}
theorem iA {i:Nat} (h:i < n):ay (l.take n) i=ay l i:=by
 unfold ay;rw [List.getD_eq_getElem?_getD,List.getD_eq_getElem?_getD,List.getElem?_take,if_pos h]
theorem Dy (hn:n≤l.length) {i:Nat} (h:i < n):stp (l.take n) i=stp l i:=by
 unfold stp;rw [zG l hn,List.getD_eq_getElem?_getD,List.getD_eq_getElem?_getD,List.getElem?_take,if_pos h]
theorem yw (hn:n≤l.length) (g:Int) {j:Nat} (h:j≤n):qA (l.take n) g j=qA l g j:=by
 induction j with
 | zero=>rfl
 | succ j ih=>unfold qA;rw [iA h,Dy hn h,ih (by omega)]
theorem J7 {j:Nat} (h:j≤n):cu (l.take n) j=cu l j:=by
 unfold cu;rw [List.take_take,Nat.min_eq_left h]
theorem oZ (hc:chk l=l.length) (hn:n≤l.length):chk (l.take n)=(l.take n).length:=by
 rw [List.length_take];unfold chk at hc ⊢;rw [TS.La,hc];omega
end
theorem FE {l:List Ev} {n j:Nat} (h:j≤n):jP (l.take n) j=jP l j:=by
 induction j with
 | zero=>rfl
 | succ j ih=>unfold jP;rw [iA h,ih (by omega)]
theorem tH {l:List Ev} {e:Ev}:jP (l ++ [e]) l.length=jP l l.length:=by
 rw [←FE (l:=l ++ [e]) (n:=l.length) (Nat.le_refl _),List.take_left'];rfl
theorem DF {l:List Ev} {e:Ev}:cu (l ++ [e]) l.length=cu l l.length:=by
 unfold cu;rw [List.take_left' rfl,List.take_of_length_le (Nat.le_refl _)]
theorem ru {l:List Ev} {e:Ev}:ay (l ++ [e]) l.length=e:=by
 unfold ay;rw [List.getD_eq_getElem?_getD,List.getElem?_append_right (Nat.le_refl _),Nat.sub_self];rfl
theorem PN {l:List Ev} (hc:chk l=l.length) (e:Ev):chk (l ++ [e])=(l ++ [e]).length↔((cu l l.length).add e).isSome=true:=by
 have hs:=nC hc (n:=l.length) (Nat.le_refl _);rw [List.take_of_length_le (Nat.le_refl _)] at hs;have hlen:(l ++ [e]).length=l.length+1:=by rw [List.length_append];rfl
 cases ha:(cu l l.length).add e with
 | none =>
   have:chk (l ++ [e])=l.length:=by
    unfold chk;refine TS.Az (by omega) (by rw [List.take_left' rfl];exact hs) fun e' he'=>?_
    rw [List.getElem?_append_right (Nat.le_refl _),Nat.sub_self] at he';cases he';exact ha
   rw [this,hlen];exact ⟨fun h=>by omega,fun h=>by cases h⟩
 | some u =>
   have:chk (l ++ [e])=l.length+1:=by
    unfold chk;refine TS.Az (t:=u) (by omega) (by rw [List.take_of_length_le (by omega),TS.wE,hs];exact ha) fun e' he'=>?_
    rw [List.getElem?_eq_none (by omega)] at he';cases he'
   rw [this,hlen];exact ⟨fun _=>rfl,fun _=>rfl⟩
def Gp (l:List Ev) (i:Nat):Ac:=⟨ay l i,i,ord l i⟩
def jA (l:List Ev) (L:List Nat) (x y:Int):List Ac:=(L.filter fun i=>decide ((ay l i).obj=x∧(ay l i).off=y)).map (Gp l)
theorem OC {f:Nat→Int} {g:Nat} {n:Int} (hn:n≤4611686018427387904):∀ h,(n≤knF f g h↔∀ x,x < h→x≠g→n≤f x)
 | 0=>⟨fun _ x hx=>absurd hx (Nat.not_lt_zero _),fun _=>hn⟩
 | h+1=>by
   have ih:=OC (f:=f) (g:=g) hn h
   by_cases e:h=g
   ·rw [G6 e,ih];exact ⟨fun q x hx hxg=>q x (by omega) hxg,fun q x hx hxg=>q x (by omega) hxg⟩
   ·rw [OD e];constructor
    ·intro q x hx hxg
     by_cases hxh:x=h
     ·subst hxh;split at q <;> omega
     ·exact ih.1 (by split at q <;> omega) x (by omega) hxg
    ·intro q;have h1:=q h (by omega) e;have h2:=ih.2 fun x hx hxg=>q x (by omega) hxg
     split <;> omega
theorem Ub (l:List Ev) (i:Nat):ord l i≤i+1:=by
 rw [uN];have:=Gz (l:=l) (ay l i).g i;omega
section
variable {l:List Ev} (hc:chk l=l.length) (hl:l.length≤1000)
include hc hl
theorem QD {k i:Nat} (hik:i < k) (hk:k≤l.length) {t:mV} (h1:t.p=jP l k) (h2:t.st=cu l k):jy (knL t) (Gp l i)=setB l k i:=by
 have hg:=(VL.of hc).g (i:=i) (by omega)
 have hkn:(knL t).getD (ay l i).g.toNat 0=knG t (ay l i).g.toNat:=by
  unfold knL;rw [List.getD_eq_getElem?_getD,List.getElem?_map,List.getElem?_range (by omega)];rfl
 have ho:=Ub l i;unfold jy;rw [Bool.eq_iff_iff,decide_eq_true_iff,mI]
 show (ord l i:Int)≤(knL t).getD (ay l i).g.toNat 0↔_
 rw [hkn];unfold knG;rw [OC (by omega)];unfold zX;rw [h1,h2];have hwf:=(d9 hc hk).2.1.gr;constructor
 ·intro q x hx hxg;have:=q x (by omega) (by omega)
  rwa [wQ hc hl hk] at this
 ·intro q x hx hxg;rw [wQ hc hl hk];exact q x (by omega) (by omega)
theorem ML {k:Nat} (hk:k≤l.length) {t:mV} (h1:t.p=jP l k) (h2:t.st=cu l k) {L:List Nat} (hL:∀ i ∈ L,i < k) (x y:Int):gu (knL t) (jA l L x y)=jA l (L.filter fun i=>!setB l k i) x y:=by
 unfold gu jA;rw [List.filter_map,List.filter_filter,List.filter_filter]
 congr 1
 apply List.filter_congr
 intro i hi;simp only [Function.comp];rw [QD hc hl (hL i hi) hk h1 h2,Bool.and_comm]
end
section
variable {l:List Ev} {n:Nat}
theorem Iu (g:Int) {i:Nat} (h:i≤n):jQ (l.take n) g i=jQ l g i:=by
 induction i with
 | zero=>rfl
 | succ i ih =>
   simp only [jQ];rw [iA h,ih (by omega)]
theorem xk {i:Nat} (h:i < n):ord (l.take n) i=ord l i:=by
 unfold ord;rw [iA h,Iu _ h]
theorem J4 (hn:n≤l.length) {k i:Nat} (hk:k≤n) (hi:i < n):setB (l.take n) k i=setB l k i:=by
 rw [Bool.eq_iff_iff,mI,mI,J7 hk,iA hi,xk hi];constructor
 ·intro q x h1 h2;have:=q x h1 h2
  rwa [yw hn _ hk] at this
 ·intro q x h1 h2;rw [yw hn _ hk];exact q x h1 h2
theorem Jv (hn:n≤l.length) {k:Nat} (hk:k≤n):live (l.take n) k=live l k:=by
 unfold live
 apply List.filter_congr
 intro i hi;rw [List.mem_range] at hi;rw [iA (by omega),J4 hn hk (by omega)]
theorem G7 {k:Nat}:∀ i ∈ live l k,i < k:=fun i hi=>List.mem_range.1 (List.mem_filter.1 hi).1
theorem DV {L:List Nat} (hL:∀ i ∈ L,i < n) (x y:Int):jA (l.take n) L x y=jA l L x y:=by
 unfold jA
 have h1:(L.filter fun i=>decide ((ay (l.take n) i).obj=x∧(ay (l.take n) i).off=y))=L.filter fun i=>decide ((ay l i).obj=x∧(ay l i).off=y):=by
  apply List.filter_congr
  intro i hi;rw [iA (hL i hi)]
 rw [h1]
 apply List.map_congr_left
 intro i hi;have:=hL i (List.mem_filter.1 hi).1;unfold Gp;rw [iA this,xk this]
end
def iZ (hp:Nat→Hb) (bd N S:Nat) (l:List Ev):Prop:=∃ (D0 D1:Nat→Prop) (d:lQ),fO hp bd D0 D1 d∧(d.t.p=jP l l.length∧d.t.st=cu l l.length∧d.t.sn≤S)∧d.ev=(l.length:Int)∧(∀ x y,d.acc x y=jA l (live l l.length) x y)∧((∀ b,D0 b→b < N)∧∀ b,D1 b→b < N)∧Free hp N
theorem Left.up {hp hp':Nat→Hb} {D D':Nat→Prop} {N N' N2:Nat} (h:Left hp D N hp' D' N') (h2:N'≤N2):Left hp D N hp' D' N2 :=
 ⟨Nat.le_trans h.le h2,h.sub,h.new,h.out,fun b q=>h.free b (by omega),fun b q=>Nat.lt_of_lt_of_le (h.lt b q) h2⟩
theorem SC {l:List Ev} (hc:chk l=l.length) (hl:l.length≤900) (e:Ev) {hp:Nat→Hb} {b0 N:Nat} {D:Nat→Prop} {t:mV} (h:TabAt hp b0 D t) (hD:∀ b,D b→b < N) (hN:Free hp N) (h1:t.p=jP l l.length) (h2:t.st=cu l l.length) (h3:t.sn≤100000) :
 chk (pK l e)=(pK l e).length∧(pK l e).length≤l.length+1∧∃ hp' D' t',Am hp [hP b0 0,evW e] hp' [fU (KP l e),.one (hI (mg l e))]∧TabAt hp' b0 D' t'∧(t'.p=jP (pK l e) (pK l e).length∧t'.st=cu (pK l e) (pK l e).length∧t'.sn≤t.sn+2)∧Left hp D N hp' D' (N+80):=by
 have hlen:(l ++ [e]).length=l.length+1:=by rw [List.length_append];rfl
 by_cases hn:okN l e
 ·obtain ⟨hv,hc2⟩:=hn;have hn:okN l e:=⟨hv,hc2⟩;rw [show pK l e=l ++ [e] from if_pos hn,show KP l e=stp (l ++ [e]) l.length from if_pos hn,show mg l e=0 from if_pos hn];have hlt:l.length < (l ++ [e]).length:=by omega
  obtain ⟨hp',D',t',r1,r2,⟨r3,r4,r5⟩,r6⟩:=Po (e:=e) h hD hN (by rw [h2,←DF (e:=e)];exact (d9 hc2 (by omega)).2.1) (by omega)
   (fun c hm=>by rw [show t.ck=t.p.ck from rfl,h1,←tH (e:=e)] at hm;exact (UH hc2 (by omega) (by omega) c hm).1) hv (s':=cu (l ++ [e]) (l.length+1)) (by rw [h2,←DF (e:=e)];have:=cK hc2 hlt;rwa [ru] at this)
  have hs:=Rn hc2 (by omega) hlt;rw [ru,tH] at hs;rw [h1,hs] at r1;refine ⟨hc2,by omega,hp',D',t',r1,r2,⟨?_,by rw [hlen];exact r4,by omega⟩,r6⟩
  rw [r3,h1,hlen,←tH (e:=e)]
  show _=(jP (l ++ [e]) l.length |>.adv (ay (l ++ [e]) l.length)).2
  rw [ru]
 ·rw [show pK l e=l from if_neg hn,show KP l e=ckZ from if_neg hn]
  cases hv:e.valid with
  | false =>
    rw [show mg l e=1 from by unfold mg;rw [if_neg hn,if_neg (by rw [hv];decide)]]
    obtain ⟨hp',r1,r2,r3⟩:=Pn (e:=e) h hD hN hv;exact ⟨hc,by omega,hp',D,t,r1,r2,⟨h1,h2,by omega⟩,r3.up (by omega)⟩
  | true =>
    rw [show mg l e=11 from by unfold mg;rw [if_neg hn,if_pos hv]]
    have ha:(cu l l.length).add e=none:=by
     cases ha:(cu l l.length).add e with
     | none=>rfl
     | some u=>exact absurd ⟨hv,(PN hc e).2 (by rw [ha];rfl)⟩ hn
    obtain ⟨hp',t',r1,r2,⟨r3,r4,r5⟩,r6⟩:=SE (e:=e) h hD hN (by rw [h2];exact (d9 hc (Nat.le_refl _)).2.1) (by omega) hv (by rw [h2];exact ha)
    exact ⟨hc,by omega,hp',D,t',r1,r2,⟨by rw [r3];exact h1,by rw [r4];exact h2,by omega⟩,r6.up (by omega)⟩
def uj (c:Ck) (e:Ev) (xs:List Ac):List Int:=(xs.filter fun a=>iq a.e e && decide (c.getD a.e.g.toNat 0 < a.n)).map Ac.ix
theorem JM {c:Ck} {e:Ev} {xs:List Ac} {k:Nat} {a:Ac} (h:xs[k]? = some a):uj c e (xs.take (k+1))=uj c e (xs.take k) ++ if (iq a.e e && decide (c.getD a.e.g.toNat 0 < a.n))=true then [a.ix] else []:=by
 unfold uj;rw [List.take_add_one,h,List.filter_append,List.map_append]
 congr 1
 show List.map Ac.ix (List.filter _ [a])=_
 rw [List.filter_cons];split <;> rfl
theorem JL {l:List Ev} (hc:chk l=l.length) (hl:l.length≤1000) {j:Nat} (hj:j < l.length):uj (stp l j) (ay l j) (jA l (live l j) (ay l j).obj (ay l j).off)=(bC l j j).map fun (i:Nat)=>(i:Int):=by
 rw [←Fe hc hl hj];unfold uj jA;rw [List.filter_map,List.map_map,List.filter_filter]
 have:((live l j).filter fun i=>((fun a=>iq a.e (ay l j) && decide ((stp l j).getD a.e.g.toNat 0 < a.n))∘Gp l) i && decide ((ay l i).obj=(ay l j).obj∧(ay l i).off=(ay l j).off)) =
  (live l j).filter fun i=>iq (ay l i) (ay l j) && decide ((stp l j).getD (ay l i).g.toNat 0 < (ord l i:Int)):=by
  apply List.filter_congr
  intro i hi
  show ((iq (ay l i) (ay l j) && decide ((stp l j).getD (ay l i).g.toNat 0 < (ord l i:Int))) && _)=_
  cases hcf:iq (ay l i) (ay l j) with
  | false=>simp
  | true =>
    have:(ay l i).obj=(ay l j).obj∧(ay l i).off=(ay l j).off:=by
     unfold iq at hcf;simp only [Bool.and_eq_true,beq_iff_eq] at hcf;exact ⟨hcf.2.2.2.1,hcf.2.2.2.2.1⟩
    rw [decide_eq_true this,Bool.and_true]
 rw [this];rfl
theorem nR {es:List (Value×Nat×Hw)} {st:Nat} {v:Hw}:(gI es st v).map (·.1)=es.map (·.1):=by
 induction es with
 | nil=>rfl
 | cons e es ih =>
   obtain ⟨k,n,u⟩:=e;unfold gI;split
   ·rfl
   ·rw [List.map_cons,List.map_cons,ih]
theorem oV {es:List (Value×Nat×Hw)} {st:Nat} {v:Hw}:(gI es st v).map (·.2.1)=es.map (·.2.1):=by
 induction es with
 | nil=>rfl
 | cons e es ih =>
   obtain ⟨k,n,u⟩:=e;unfold gI;split
   ·rfl
   ·rw [List.map_cons,List.map_cons,ih]
theorem jv.stamp {es:List (Value×Nat×Hw)} {cl:Nat} (h:jv es cl) (st:Nat) (v:Hw):jv (gI es st v) cl :=
 ⟨fun e he=>by
  have:e.2.1 ∈ (gI es st v).map (·.2.1):=List.mem_map.2 ⟨e,he,rfl⟩;rw [oV] at this;obtain ⟨e',he',q⟩:=List.mem_map.1 this;rw [←q];exact h.lt e' he',by rw [nR];exact h.kn,by rw [oV];exact h.sn⟩
theorem tN {es:List (Value×Nat×Hw)} {cl:Nat} (h:jv es cl) {k:Value} {st:Nat} {u v:Hw} (hk:aS es k=some (st,u)):aS (gI es st v) k=some (st,v):=by
 refine kG (h.stamp st v).kn ?_;have hm:=jo hk;have hs:=h.sn;clear hk h
 induction es with
 | nil=>cases hm
 | cons e es ih =>
   obtain ⟨k',n,w⟩:=e;unfold gI;rw [List.map_cons,List.nodup_cons] at hs
   rcases List.mem_cons.1 hm with q | q
   ·cases q;rw [if_pos rfl];exact List.mem_cons_self ..
   ·rw [if_neg (fun e=>hs.1 (by rw [show n=st from e];exact List.mem_map.2 ⟨_,q,rfl⟩))]
    exact List.mem_cons_of_mem _ (ih q hs.2)
theorem nO {es:List (Value×Nat×Hw)} {cl:Nat} (h:jv es cl) {k k':Value} {st:Nat} {u v:Hw} (hk:aS es k=some (st,u)) (hne:k'≠k):aS (gI es st v) k'=aS es k':=by
 have hm:=jo hk;have hs:=h.sn;clear hk h
 induction es with
 | nil=>rfl
 | cons e es ih =>
   obtain ⟨k1,n,w⟩:=e;unfold gI;rw [List.map_cons,List.nodup_cons] at hs
   by_cases hn:n=st
   ·rw [if_pos hn]
    have hk1:k1=k:=by
     rcases List.mem_cons.1 hm with q | q
     ·cases q;rfl
     ·exact absurd (List.mem_map.2 ⟨(k,st,u),q,hn.symm⟩) hs.1
    have h1:aS ((k1,n,v) :: es) k'=aS es k':=if_neg (by rw [hk1];exact Ne.symm hne)
    have h2:aS ((k1,n,w) :: es) k'=aS es k':=if_neg (by rw [hk1];exact Ne.symm hne)
    rw [h1,h2]
   ·rw [if_neg hn];unfold aS
    by_cases hk1:k1=k'
    ·rw [if_pos hk1,if_pos hk1]
    ·rw [if_neg hk1,if_neg hk1];refine ih ?_ hs.2
     rcases List.mem_cons.1 hm with q | q
     ·cases q;exact absurd rfl hn
     ·exact q
def bX (xs:List Int):List (List Dt):=xs.map fun x=>[dI x]
open Classical in
noncomputable def zZ (l:List Ev) (e:Ev):List Int:=if okN l e then (bC (l ++ [e]) l.length l.length).map fun (i:Nat)=>(i:Int) else []
noncomputable def wO (bd S:Nat) (l:List Ev) (e:Ev) (h:Nat→Hb) (r:List Hw):Prop:=∃ N',iZ h bd N' (S+2) (pK l e)∧r=[.one (.d (.im (bX (zZ l e)))),.one (hI (mg l e))]
def DT (hp:Nat→Hb) (az:List Hw) (Post:(Nat→Hb)→List Hw→Prop):Prop:=∃ (bd N S:Nat) (l:List Ev) (e:Ev),az=[hP bd 0,evW e]∧iZ hp bd N S l∧(chk l=l.length∧l.length≤900∧S≤90000)∧Post=wO bd S l e
def iy:Env:=p1 88 RJ (h1 36 Am (e1 86 (x9 jD) (e1 87 mF e0)))
theorem IG:aG Try.prog iy:=.p1 ND (.h1 Vn (.e1 Dw (.e1 Ul .e0)))
structure xR (nc:Nat→Nat) (bd:Nat) (e:Ev) (C:Ck) (R:List Int) (hp:Nat→Hb) (st:St):Prop where
 s0:st.sl 0=.b (.one (.hv (.p bd 0)))
 s3:st.sl 3=.b (.one (.ptr 3 1 0))
 s6:st.sl 6=.b (.one (.ptr 6 1 0))
 s8:st.sl 8=.b (.one (.own 8 1 (bX R)))
 g3:st.gen 3=1
 g6:st.gen 6=1
 g8:st.gen 8=1
 o3:st.ob 3=.cells (e.row.map .d)
 o6:st.ob 6=.cells (aK C)
 o8:st.ob 8=.row 3 1 R.length
 hb:st.hb=hp
 hnc:st.nc=nc
 ha:aF st
theorem fO.evs {hp:Nat→Hb} {bd:Nat} {D0 D1:Nat→Prop} {d:lQ} (h:fO hp bd D0 D1 d) (v:Int):fO (up hp bd (.cells [.h (.p d.b0 0),hI v,.h (.m d.bm)])) bd D0 D1 { d with ev:=v }:=by
 have ho:∀ b,b≠bd→up hp bd (.cells [.h (.p d.b0 0),hI v,.h (.m d.bm)]) b=hp b:=fun b q=>aB q
 refine ⟨h.tab.frame fun b hb=>ho b (fun q=>h.dis bd h.dd.1 (q ▸ hb)),bV,(ho _ (Ne.symm h.ne)).trans h.hm,h.dd,h.ow,fun x y=>?_,h.ok,h.dis⟩
 cases hd:d.d x y with
 | none=>exact h.mG hd
 | some p =>
   have hk:=h.eX hd;exact hk.mono (ho _ (fun q=>by have:=hk.e;rw [q,h.h0] at this;cases this)) rfl hk.d1 rfl
section
variable {nc:Nat→Nat} {bd N N2:Nat} {e:Ev} {C:Ck} {R:List Int} {hp:Nat→Hb} {D0 D1:Nat→Prop} {d:lQ}
theorem M5 (h:fO hp bd D0 D1 d) (hD:(∀ b,D0 b→b < N2)∧∀ b,D1 b→b < N2) (hF:Free hp N2) (hg:1≤d.t.st.gor∧d.t.st.gor≤8) (hnb:nc bd=1000) (hev:0≤d.ev∧d.ev≤1000)
 (st:St) (Q:Exit→St→Prop) (hM:xR nc bd e C R hp st)
 (k:∀ st' h',st'.iw prd51=some [.one (.d (.im (bX R))),.one (hI 0)]→st'.hb=h'→zK N2 bd D0 { d with ev:=d.ev+1 } h' []→Q .ret st') :
 pwp iy pcd51c0 (exS iy [] Q) st:=by
 have s0:=hM.s0;have s8:=hM.s8;have g8:=hM.g8;have o8:=hM.o8;have hh:=hM.hb;have hn:=hM.hnc;have h0:=h.h0;have hw:IntKind.i64.wrap (d.ev+1)=d.ev+1:=pY (by omega) (by omega);have hE:=h.evs (d.ev+1);unfold pcd51c0;simp only [↓evP,evB,stB,reduceCtorEq,Nat.reduceEqDiff,Nat.reduceAdd,Nat.reduceLeDiff,s0,hh,hn,h0,hnb,hw];refine dW _ (by simp only [stB,hh,hn,hnb];exact ⟨bd,N2,D0,D1,_,rfl,hE,hD,fun b hb=>by rw [aB (by have:=hD.2 _ h.dd.1;omega)];exact hF b hb,hg,rfl⟩) ?_
 rintro h' rs ⟨rfl,hS⟩;simp only [↓evP,evB,stB,Nat.reduceEqDiff,s8];refine k _ h' ?_ ?_ ⟨rfl,hS⟩
 ·simp only [stB,Nat.reduceEqDiff,prd51]
 ·simp only [stB]
theorem flat_get {xs:List Ac} {k:Nat} {a:Ac} (h:xs[k]? = some a):k * 11+11≤((gG xs).flatten.map Cl.d).length∧(((gG xs).flatten.map Cl.d).drop (k * 11)).take 11=a.row.map Cl.d:=by
 induction xs generalizing k with
 | nil=>simp at h
 | cons x xs ih =>
   have e:((gG (x :: xs)).flatten.map Cl.d)=x.row.map Cl.d ++ (gG xs).flatten.map Cl.d:=by
    show ((x.row :: gG xs).flatten).map Cl.d=_
    rw [List.flatten_cons,List.map_append]
   have hl:(x.row.map Cl.d).length=11:=by rw [List.length_map,x.wu]
   rw [e,List.length_append,hl]
   cases k with
   | zero =>
     cases h;rw [Nat.zero_mul,List.drop_zero];exact ⟨by omega,List.take_left' hl⟩
   | succ k =>
     obtain ⟨h1,h2⟩:=ih (by simpa using h);refine ⟨by omega,?_⟩;have:(k+1) * 11=(x.row.map Cl.d).length+k * 11:=by rw [hl];omega
     rw [this,List.drop_append,List.drop_of_length_le (by omega),List.nil_append,Nat.add_sub_cancel_left];exact h2
theorem M4 (h:fO hp bd D0 D1 d) (hD:(∀ b,D0 b→b < N)∧∀ b,D1 b→b < N) (hF:Free hp N) (he:kF e) (hm:jD e.kind=true) (hC:C.length=8) {b:Nat} {xs:List Ac} (hd:d.d e.obj e.off=some (b,xs)) (hxl:xs.length≤900)
 (hnb:nc bd=1000) (hnm:nc d.bm=1000) (hnv:nc b=1000) {b2:Nat} (hb2:N≤b2) (hn2:nc b2=1000)
 (st:St) (Q:Exit→St→Prop) (hM:xR nc bd e C [] hp st)
 (k:∀ st' h' D1' d',xR nc bd e C (uj C e xs) h' st'→fO h' bd D0 D1' d'→(d'.b0=d.b0∧d'.t=d.t∧d'.ev=d.ev)→(∀ x y,d'.acc x y=if x=e.obj∧y=e.off then xs ++ [⟨e,d.ev,C.getD e.g.toNat 0⟩] else d.acc x y)→(∀ c,D1' c→c < b2+1)→Free h' (b2+1)→pwp iy pcd51c0 (exS iy [] Q) st') :
 pwp iy pcd51c4 (exS iy [.c pcd51c0] Q) st:=by
 have s0:=hM.s0;have s3:=hM.s3;have s6:=hM.s6;have s8:=hM.s8;have g3:=hM.g3;have g6:=hM.g6;have g8:=hM.g8;have o3:=hM.o3;have o6:=hM.o6;have o8:=hM.o8;have hh:=hM.hb;have hn:=hM.hnc;have hap:=hM.ha;have h0:=h.h0;have hmm:=h.hm;have hok:=h.eX hd;have hbv:=hok.e;obtain ⟨st0,hst0⟩:=hok.at_;have hkey:=zW he.obj he.off;have hst1:=hst0;unfold fT at hst1;unfold Ev.row at o3;unfold bX at s8;have hxl2:(gG xs).length=xs.length:=List.length_map ..;unfold pcd51c4;simp only [↓evP,evB,stB,Nat.reduceEqDiff,s3,g3,o3];refine aC [pB (jD e.kind)] (by exact x9.mk e.kind) ?_;rw [hm];simp only [↓evP,evB,stB,reduceCtorEq,Nat.reduceEqDiff,Nat.reduceAdd,Nat.reduceLeDiff,s3,g3,o3];unfold pcd51c3;simp only [↓evP,evB,stB,reduceCtorEq,Nat.reduceEqDiff,Nat.reduceAdd,Nat.reduceLeDiff,Nat.reduceLT,s0,hh,hn,hnb,hnm,hnv,h0,hmm,hkey,hst1,Hw.bv,hbv,hxl2]
 refine ⟨(by unfold Drw;refine Eq.trans (b:=true) ?_ rfl;kernel_rfl),?_⟩
 refine iD msd51_0 osd51_0 (fun m st=>∃ k:Nat,m=xs.length - k∧k≤xs.length∧st.sl 41=aI k∧st.sl 8=.b (.one (.own 8 1 (bX (uj C e (xs.take k)))))∧st.gen 8=1∧st.ob 8=.row 3 1 (uj C e (xs.take k)).length∧st.hb=hp) xs.length (by repeat' (first | exact hap | (refine aF.ap ?_ rfl))) ?_ ?_
 ·exact ⟨0,rfl,Nat.zero_le _,by simp only [stB,Nat.reduceEqDiff];rfl,by simp only [stB,Nat.reduceEqDiff,s8];rfl,by simp only [stB,Nat.reduceEqDiff,g8],by simp only [stB,Nat.reduceEqDiff,o8];rfl,by simp only [stB,Nat.reduceLT,hh]⟩
 rintro m j hjn hja ⟨i,rfl,hi,h41,h8,hg8,ho8,hjh⟩;simp only [stB,Nat.reduceEqDiff,Nat.reduceLT,Nat.reduceBEq,hjn,hn] at h41 h8 hg8 ho8 hjh
 rcases Nat.lt_or_ge i xs.length with hlt | hge
 ·obtain ⟨a,ha⟩:∃ a,xs[i]? = some a:=⟨_,List.getElem?_eq_getElem hlt⟩
  have hga:=hok.in_ a (List.mem_of_getElem? ha);have hra:=JM (c:=C) (e:=e) ha;obtain ⟨q1,q2⟩:=flat_get ha;obtain ⟨ae,ix,an⟩:=a;have hi0:(0:Int)≤(i:Int):=by omega
  have hil:(i:Int) < (xs.length:Int):=by omega
  have q3:i * 11+11≤(gG xs).flatten.length:=by rw [List.length_map] at q1;exact q1
  have q4:List.map Cl.d (Ac.row ⟨ae,ix,an⟩)=[.d (dI ae.g),.d (dI ae.kind),.d (dI ae.obj),.d (dI ae.off),.d (dI ae.k),.d (dI ae.n),.d (dI ae.fn),.d (dI ae.pc),.d (dI ae.stack),.d (dI ix),.d (dI an)]:=rfl;have hg0:0≤ae.g:=hga.1;have hg7:ae.g < ((8:Nat):Int):=hga.2;have hcg:=iI _ _ _ (get_some hC (k:=ae.g.toNat) (by have:=hga.2;omega))
  rw [q4] at q2;simp only [↓evP,evB,stB,reduceCtorEq,Nat.reduceEqDiff,Nat.reduceAdd,Nat.reduceLeDiff,Nat.reduceLT,Nat.reduceBEq,s3,h41,hjh,g3,o3,hn,hjn,hil,hi0,hbv,hxl2,q2,q3,decide_true];refine bQ [pB (iq ae e)] (by exact mF.mk ae e) ?_
  cases hcf:iq ae e with
  | false =>
    rw [if_neg (by rw [hcf,Bool.false_and];decide),List.append_nil] at hra
    simp only [↓evP,evB,stB,reduceCtorEq,Nat.reduceEqDiff,Nat.reduceBEq,s6];refine ⟨(by unfold Drw;refine Eq.trans (b:=true) ?_ rfl;kernel_rfl),?_⟩
    unfold pcd51c2;simp only [↓evP,evB,stB,reduceCtorEq,Nat.reduceEqDiff,Nat.reduceLeDiff,Nat.reduceLT,Nat.reduceBEq,h41,h8,hg8,ho8]
    exact ⟨_,by omega,(by repeat' (first | assumption | exact bJ hja | (refine bA ?_ rfl rfl) | (refine aZ ?_ rfl) | (refine bA ?_ rfl bB) | (refine aZ ?_ bB))),i+1,rfl,hlt,by simp only [stB,Nat.reduceEqDiff,Nat.reduceBEq,h41];rw [wrN (by omega)],by simp only [stB,Nat.reduceEqDiff,Nat.reduceBEq,h8];rw [hra],by simp only [stB,Nat.reduceEqDiff,Nat.reduceBEq,hg8],by simp only [stB,Nat.reduceEqDiff,Nat.reduceLT,Nat.reduceBEq,ho8];rw [hra],by simp only [stB,Nat.reduceLT,hjh,hjn,hn]⟩
  | true =>
    by_cases hlt2:C.getD ae.g.toNat 0 < an
    ·rw [if_pos (by rw [hcf,decide_eq_true hlt2];rfl)] at hra
     simp only [↓evP,evB,stB,reduceCtorEq,Nat.reduceEqDiff,Nat.reduceLT,Nat.reduceBEq,s6,g6,o6,hg0,hg7,hcg,hlt2,Nat.mul_one,decide_true];refine ⟨(by unfold Drw;refine Eq.trans (b:=true) ?_ rfl;kernel_rfl),?_⟩
     unfold pcd51c2;have hl1:(bX (uj C e (xs.take i))).length=(uj C e (xs.take i)).length:=List.length_map ..
     have hl2:(uj C e (xs.take i)).length≤999999:=by
      unfold uj;rw [List.length_map];have:=List.length_filter_le (fun a:Ac=>iq a.e e && decide (C.getD a.e.g.toNat 0 < a.n)) (xs.take i);rw [List.length_take] at this;omega
     have hl3:bX (uj C e (xs.take i) ++ [ix])=bX (uj C e (xs.take i)) ++ [[dI ix]]:=by unfold bX;rw [List.map_append];rfl
     simp only [↓evP,evB,stB,reduceCtorEq,Nat.reduceEqDiff,Nat.reduceLeDiff,Nat.reduceLT,Nat.reduceBEq,h41,h8,hg8,ho8,hl1,hl2]
     exact ⟨_,by omega,(by repeat' (first | assumption | exact bJ hja | (refine bA ?_ rfl rfl) | (refine aZ ?_ rfl) | (refine bA ?_ rfl bB) | (refine aZ ?_ bB))),i+1,rfl,hlt,by simp only [stB,Nat.reduceEqDiff,Nat.reduceBEq,h41];rw [wrN (by omega)],by simp only [stB,Nat.reduceEqDiff,Nat.reduceBEq];rw [hra,hl3],by simp only [stB,Nat.reduceEqDiff,Nat.reduceBEq,hg8],by simp only [stB,Nat.reduceEqDiff,Nat.reduceLT,Nat.reduceBEq,ho8];rw [hra,List.length_append];rfl,by simp only [stB,Nat.reduceLT,hjh,hjn,hn]⟩
    ·rw [if_neg (by rw [hcf,decide_eq_false hlt2];decide),List.append_nil] at hra
     simp only [↓evP,evB,stB,reduceCtorEq,Nat.reduceEqDiff,Nat.reduceLT,Nat.reduceBEq,s6,g6,o6,hg0,hg7,hcg,hlt2,Nat.mul_one,decide_false];refine ⟨(by unfold Drw;refine Eq.trans (b:=true) ?_ rfl;kernel_rfl),?_⟩
     unfold pcd51c2;simp only [↓evP,evB,stB,reduceCtorEq,Nat.reduceEqDiff,Nat.reduceLeDiff,Nat.reduceLT,Nat.reduceBEq,h41,h8,hg8,ho8]
     exact ⟨_,by omega,(by repeat' (first | assumption | exact bJ hja | (refine bA ?_ rfl rfl) | (refine aZ ?_ rfl) | (refine bA ?_ rfl bB) | (refine aZ ?_ bB))),i+1,rfl,hlt,by simp only [stB,Nat.reduceEqDiff,Nat.reduceBEq,h41];rw [wrN (by omega)],by simp only [stB,Nat.reduceEqDiff,Nat.reduceBEq,h8];rw [hra],by simp only [stB,Nat.reduceEqDiff,Nat.reduceBEq,hg8],by simp only [stB,Nat.reduceEqDiff,Nat.reduceLT,Nat.reduceBEq,ho8];rw [hra],by simp only [stB,Nat.reduceLT,hjh,hjn,hn]⟩
 ·have hie:i=xs.length:=by omega
  have hil:¬ (i:Int) < (xs.length:Int):=by omega
  rw [hie,List.take_length] at h8 ho8;have hg:=he.g;have hge0:0≤e.g:=hg.1;have hge7:e.g < ((8:Nat):Int):=hg.2;have hcg:=iI _ _ _ (get_some hC (k:=e.g.toNat) (by omega));simp only [↓evP,evB,stB,reduceCtorEq,Nat.reduceEqDiff,Nat.reduceBEq,h41,hil,decide_false];unfold pcd51c1;simp only [↓evP,evB,stB,reduceCtorEq,Nat.reduceEqDiff,Nat.reduceAdd,Nat.reduceLeDiff,Nat.reduceLT,Nat.reduceBEq,s0,s3,s6,hjh,g3,g6,o3,o6,hn,hjn,hnb,hnm,hnv,h0,hmm,hkey,hst1,Hw.bv,hge0,hge7,hcg,Nat.mul_one];have b2D:¬ D1 b2:=fun q=>by have:=hD.2 _ q;omega
  have hbN:b < N:=hD.2 _ hok.d1;have hmN:d.bm < N:=hD.2 _ h.dd.2;have hbN2:bd < N:=hD.2 _ h.dd.1;have r1:d.bm≠b:=fun q=>by rw [q,hbv] at hmm;cases hmm
  have r2:b2≠d.bm:=by omega
  have r3:b≠b2:=by omega
  have r4:b2≠b:=by omega
  have r5:bd≠b:=fun q=>by rw [q,hbv] at h0;cases h0
  have hF2:hp b2=.no:=hF b2 hb2;refine Me (a:=b) (rows:=gG xs) (news:=[Ac.row ⟨e,d.ev,C.getD e.g.toNat 0⟩]) b2 (bG (by simp only [stB,hn,hnv,hn2]) (by repeat' (first | exact iP hja | (refine aF.ap ?_ rfl))) (by simp only [stB,Nat.reduceLT,hjn,hn,hnm,hjh,r2];exact hF2)) (by simp only [stB,Nat.reduceEqDiff,Nat.reduceBEq]) (by simp only [stB,Nat.reduceLT,hjn,hn,hnm,hjh,Ne.symm r1];exact hbv) (by simp only [stB,Nat.reduceEqDiff,Nat.reduceBEq];rfl) ⟨fun r hr=>by rw [List.mem_singleton.1 hr];rfl,by rw [hxl2,List.length_singleton];omega,by decide⟩ ?_
  have hsm:st0 ∈ d.es.map (·.2.1):=List.mem_map.2 ⟨_,jo hst0,rfl⟩;have hs0:(0:Int)≤(st0:Int):=by omega
  have r6:d.bm≠b2:=Ne.symm r2;simp only [evB,stB,Nat.reduceEqDiff,Nat.reduceLT,Nat.reduceBEq,hn,hjn,hnm,hnv,hn2,hjh,hmm,r1,r6,hs0,hsm];refine ⟨(by unfold Drw;refine Eq.trans (b:=true) ?_ rfl;kernel_rfl),?_⟩
  obtain ⟨ac,hac⟩:∃ ac,ac=(⟨e,d.ev,C.getD e.g.toNat 0⟩:Ac):=⟨_,rfl⟩
  have hws:=h.ow.stamp st0 (.one (.h (.v b2)));have hvec:gG xs ++ [ac.row]=gG (xs ++ [ac]):=by unfold gG;rw [List.map_append];rfl
  rw [←hac,hvec];obtain ⟨F,hFF⟩:∃ F,F=up (up (up (up hp d.bm (.map 98 d.es d.cl)) b .dead) b2 (DL (xs ++ [ac]))) d.bm (.map 98 (gI d.es st0 (.one (.h (.v b2)))) d.cl):=⟨_,rfl⟩
  have hFo:∀ c,c≠b→c≠b2→c≠d.bm→F c=hp c:=fun c q1 q2 q3=>by rw [hFF,aB q3,aB q2,aB q1,aB q3]
  have hturn:=h.turn (hp':=F) (x:=e.obj) (y:=e.off) (b2:=b2) (v:=some (xs ++ [ac])) (es':=gI d.es st0 (.one (.h (.v b2)))) (cl':=d.cl) ⟨b2D,fun q=>by have:=hD.1 _ q;omega⟩
   (fun c q=>hFo c (fun q2=>h.dis b hok.d1 (q2 ▸ q)) (by have:=hD.1 _ q;omega) (fun q2=>h.dis _ h.dd.2 (q2 ▸ q))) (fun c q1 q2 q3=>hFo c (q3 _ hd) (fun q=>b2D (q ▸ q1)) q2) (by rw [hFF,bV]) hws
   (fun k hk=>nO h.ow hst0 hk) (fun a ha=>by
    have hk:a.1 ∈ (gI d.es st0 (.one (.h (.v b2)))).map (·.1):=List.mem_map.2 ⟨a,ha,rfl⟩;rw [nR] at hk;obtain ⟨a',ha',q⟩:=List.mem_map.1 hk;rw [←q];exact h.ok a' ha')
   ⟨by rw [hFF,aB r2,bV],by simp,⟨st0,tN h.ow hst0⟩,fun a ha=>by
    rcases List.mem_append.1 ha with q | q
    ·exact hok.in_ a q
    ·rw [List.mem_singleton.1 q,hac];exact he.g,by rw [List.length_append,List.length_singleton];omega,⟨he.obj,he.off⟩⟩
  refine k _ F _ _ ⟨?_,?_,?_,?_,?_,?_,?_,?_,?_,?_,?_,?_,?_⟩ hturn ⟨rfl,rfl,rfl⟩ (fun x y=>?_) (fun c q=>?_) (fun c q=>?_)
  ·simp only [stB,reduceCtorEq,Nat.reduceBEq,s0]
  ·simp only [stB,Nat.reduceEqDiff,Nat.reduceBEq,s3]
  ·simp only [stB,Nat.reduceEqDiff,Nat.reduceBEq,s6]
  ·simp only [stB,Nat.reduceEqDiff,Nat.reduceBEq,h8]
  ·simp only [stB,Nat.reduceEqDiff,Nat.reduceBEq,g3]
  ·simp only [stB,Nat.reduceEqDiff,Nat.reduceBEq,g6]
  ·simp only [stB,Nat.reduceEqDiff,Nat.reduceBEq,hg8]
  ·simp only [stB,Nat.reduceEqDiff,Nat.reduceLT,Nat.reduceBEq,o3];rfl
  ·simp only [stB,Nat.reduceEqDiff,Nat.reduceLT,Nat.reduceBEq,o6]
  ·simp only [stB,Nat.reduceEqDiff,Nat.reduceLT,Nat.reduceBEq,ho8]
  ·simp only [stB,Nat.reduceLT,hn,hjn,hnm,hnv,hn2,hjh];rw [hFF]
  ·simp only [stB,hn]
  ·repeat' (first | exact iP hja | (refine aF.ap ?_ rfl))
  ·unfold lQ.acc;dsimp only
   by_cases hxy:x=e.obj∧y=e.off
   ·rw [if_pos hxy,hxy.1,hxy.2,wG,hac];rfl
   ·rw [if_neg hxy,wH hxy]
  ·rcases q with q | q
   ·have:=hD.2 _ q;omega
   ·omega
  ·rw [hFo c (by omega) (by omega) (by omega)];exact hF c (by omega)
theorem MZ (h:fO hp bd D0 D1 d) (hD:(∀ b,D0 b→b < N)∧∀ b,D1 b→b < N) (hF:Free hp N) (he:kF e) (hm:jD e.kind=true) (hC:C.length=8) (hd:d.d e.obj e.off=none)
 (hnb:nc bd=1000) (hnm:nc d.bm=1000) {b2:Nat} (hb2:N≤b2) (hn2:nc b2=84)
 (st:St) (Q:Exit→St→Prop) (hM:xR nc bd e C [] hp st)
 (k:∀ st' h' D1' d',xR nc bd e C [] h' st'→fO h' bd D0 D1' d'→(d'.b0=d.b0∧d'.t=d.t∧d'.ev=d.ev)→(∀ x y,d'.acc x y=if x=e.obj∧y=e.off then [⟨e,d.ev,C.getD e.g.toNat 0⟩] else d.acc x y)→(∀ c,D1' c→c < b2+1)→Free h' (b2+1)→pwp iy pcd51c0 (exS iy [] Q) st') :
 pwp iy pcd51c4 (exS iy [.c pcd51c0] Q) st:=by
 have s0:=hM.s0;have s3:=hM.s3;have s6:=hM.s6;have s8:=hM.s8;have g3:=hM.g3;have g6:=hM.g6;have g8:=hM.g8;have o3:=hM.o3;have o6:=hM.o6;have o8:=hM.o8;have hh:=hM.hb;have hn:=hM.hnc;have hap:=hM.ha;have h0:=h.h0;have hmm:=h.hm;have hst0:=h.mG hd;have hkey:=zW he.obj he.off;have hst1:=hst0;unfold fT at hst1;unfold Ev.row at o3;have s8':st.sl 8=.b (.one (.own 8 1 [])):=s8;have o8':st.ob 8=.row 3 1 0:=o8;unfold pcd51c4;simp only [↓evP,evB,stB,Nat.reduceEqDiff,s3,g3,o3];refine aC [pB (jD e.kind)] (by exact x9.mk e.kind) ?_;rw [hm];simp only [↓evP,evB,stB,reduceCtorEq,Nat.reduceEqDiff,Nat.reduceAdd,Nat.reduceLeDiff,s3,g3,o3];unfold pcd51c3;simp only [↓evP,evB,stB,reduceCtorEq,Nat.reduceEqDiff,Nat.reduceAdd,Nat.reduceLeDiff,Nat.reduceLT,s0,hh,hn,hnb,hnm,h0,hmm,hkey,hst1,Hw.bv];refine ⟨(by unfold Drw;refine Eq.trans (b:=true) ?_ rfl;kernel_rfl),?_⟩
 refine iD msd51_0 osd51_0 (fun m st=>st.sl 41=aI 0∧st.sl 8=.b (.one (.own 8 1 []))∧st.gen 8=1∧st.ob 8=.row 3 1 0∧st.hb=hp) 0 (by repeat' (first | exact hap | (refine aF.ap ?_ rfl))) ?_ ?_
 ·exact ⟨by simp only [stB,Nat.reduceEqDiff],by simp only [stB,Nat.reduceEqDiff,s8'],by simp only [stB,Nat.reduceEqDiff,g8],by simp only [stB,Nat.reduceEqDiff,o8'],by simp only [stB,Nat.reduceLT,hh]⟩
 rintro m j hjn hja ⟨h41,h8,hg8,ho8,hjh⟩;simp only [stB,Nat.reduceEqDiff,Nat.reduceLT,Nat.reduceBEq,hjn,hn] at h41 h8 hg8 ho8 hjh;have hg:=he.g;have hge0:0≤e.g:=hg.1;have hge7:e.g < ((8:Nat):Int):=hg.2;have hcg:=iI _ _ _ (get_some hC (k:=e.g.toNat) (by omega));have hc0:((0:Nat):Int)=0:=rfl;have hc1:¬ (0:Int) < 0:=by decide
 simp only [↓evP,evB,stB,reduceCtorEq,Nat.reduceEqDiff,Nat.reduceBEq,h41,hc0,hc1,decide_false];unfold pcd51c1;simp only [↓evP,evB,stB,reduceCtorEq,Nat.reduceEqDiff,Nat.reduceAdd,Nat.reduceLeDiff,Nat.reduceLT,Nat.reduceBEq,s0,s3,s6,hjh,g3,g6,o3,o6,hn,hjn,hnb,hnm,h0,hmm,hkey,hst1,Hw.bv,hge0,hge7,hcg,Nat.mul_one];have b2D:¬ D1 b2:=fun q=>by have:=hD.2 _ q;omega
 have hmN:d.bm < N:=hD.2 _ h.dd.2;have r2:b2≠d.bm:=by omega
 have hF2:hp b2=.no:=hF b2 hb2;refine Jf (news:=[Ac.row ⟨e,d.ev,C.getD e.g.toNat 0⟩]) b2 (bG (by simp only [stB,hn,hn2]) (by repeat' (first | exact iP hja | (refine aF.ap ?_ rfl))) (by simp only [stB,Nat.reduceLT,hjn,hn,hnm,hjh,r2];exact hF2)) (by simp only [stB,Nat.reduceEqDiff,Nat.reduceBEq]) (by simp only [stB,Nat.reduceEqDiff,Nat.reduceBEq];rfl) ⟨fun r hr=>by rw [List.mem_singleton.1 hr];rfl,by rw [List.length_singleton];decide,by decide⟩ ?_
 have hw1:=h.ow.put (fT e.obj e.off) (.one (.d (.sc (.slice none 0 0))));have hckl:ckl d.es d.cl (fT e.obj e.off)=d.cl+1:=by unfold ckl;rw [hst0]
 rw [hckl] at hw1;have hal2:aS (dR d.es d.cl (fT e.obj e.off) (.one (.d (.sc (.slice none 0 0))))) (fT e.obj e.off)=some (d.cl,.one (.d (.sc (.slice none 0 0)))):=by rw [oD,hst0]
 have hsm:d.cl ∈ (dR d.es d.cl (fT e.obj e.off) (.one (.d (.sc (.slice none 0 0))))).map (·.2.1):=List.mem_map.2 ⟨_,jo hal2,rfl⟩;have hs0:(0:Int)≤(d.cl:Int):=by omega
 have r6:d.bm≠b2:=Ne.symm r2;unfold fT at hsm;simp only [evB,stB,Nat.reduceEqDiff,Nat.reduceLT,Nat.reduceBEq,hn,hjn,hnm,hn2,hjh,hmm,r6,hs0,hsm];refine ⟨(by unfold Drw;refine Eq.trans (b:=true) ?_ rfl;kernel_rfl),?_⟩
 obtain ⟨ac,hac⟩:∃ ac,ac=(⟨e,d.ev,C.getD e.g.toNat 0⟩:Ac):=⟨_,rfl⟩
 have hvec:[ac.row]=gG [ac]:=rfl;rw [←hac,hvec];obtain ⟨F,hFF⟩:∃ F,F=up (up (up hp d.bm (.map 98 (dR d.es d.cl (fT e.obj e.off) (.one (.d (.sc (.slice none 0 0))))) (d.cl+1))) b2 (DL [ac])) d.bm (.map 98 (gI (dR d.es d.cl (fT e.obj e.off) (.one (.d (.sc (.slice none 0 0))))) d.cl (.one (.h (.v b2)))) (d.cl+1)):=⟨_,rfl⟩
 have hFo:∀ c,c≠b2→c≠d.bm→F c=hp c:=fun c q2 q3=>by rw [hFF,aB q3,aB q2,aB q3]
 have hturn:=h.turn (hp':=F) (x:=e.obj) (y:=e.off) (b2:=b2) (v:=some [ac]) (es':=gI (dR d.es d.cl (fT e.obj e.off) (.one (.d (.sc (.slice none 0 0))))) d.cl (.one (.h (.v b2)))) (cl':=d.cl+1) ⟨b2D,fun q=>by have:=hD.1 _ q;omega⟩
  (fun c q=>hFo c (by have:=hD.1 _ q;omega) (fun q2=>h.dis _ h.dd.2 (q2 ▸ q))) (fun c q1 q2 q3=>hFo c (fun q=>b2D (q ▸ q1)) q2) (by rw [hFF,bV]) (hw1.stamp _ _)
  (fun k hk=>by rw [nO hw1 hal2 hk,gU hk]) (fun a ha=>by
   have hk:a.1 ∈ (gI (dR d.es d.cl (fT e.obj e.off) (.one (.d (.sc (.slice none 0 0))))) d.cl (.one (.h (.v b2)))).map (·.1):=List.mem_map.2 ⟨a,ha,rfl⟩;rw [nR,lZ,hst0] at hk
   rcases List.mem_append.1 hk with hk | hk
   ·obtain ⟨a',ha',q⟩:=List.mem_map.1 hk;rw [←q];exact h.ok a' ha'
   ·exact ⟨_,_,List.mem_singleton.1 hk,he.obj,he.off⟩)
  ⟨by rw [hFF,aB r2,bV],by simp,⟨d.cl,tN hw1 hal2⟩,fun a ha=>by rw [List.mem_singleton.1 ha,hac];exact he.g,by rw [List.length_singleton];decide,⟨he.obj,he.off⟩⟩
 refine k _ F _ _ ⟨?_,?_,?_,?_,?_,?_,?_,?_,?_,?_,?_,?_,?_⟩ hturn ⟨rfl,rfl,rfl⟩ (fun x y=>?_) (fun c q=>?_) (fun c q=>?_)
 ·simp only [stB,reduceCtorEq,Nat.reduceBEq,s0]
 ·simp only [stB,Nat.reduceEqDiff,Nat.reduceBEq,s3]
 ·simp only [stB,Nat.reduceEqDiff,Nat.reduceBEq,s6]
 ·simp only [stB,Nat.reduceEqDiff,Nat.reduceBEq,h8];first | done | rfl
 ·simp only [stB,Nat.reduceEqDiff,Nat.reduceBEq,g3]
 ·simp only [stB,Nat.reduceEqDiff,Nat.reduceBEq,g6]
 ·simp only [stB,Nat.reduceEqDiff,Nat.reduceBEq,hg8]
 ·simp only [stB,Nat.reduceEqDiff,Nat.reduceLT,Nat.reduceBEq,o3];rfl
 ·simp only [stB,Nat.reduceEqDiff,Nat.reduceLT,Nat.reduceBEq,o6]
 ·simp only [stB,Nat.reduceEqDiff,Nat.reduceLT,Nat.reduceBEq,ho8];first | done | rfl
 ·simp only [stB,Nat.reduceLT,hn,hjn,hnm,hn2,hjh];first | (rw [hFF];done) | (rw [hFF];rfl)
 ·simp only [stB,hn]
 ·repeat' (first | exact iP hja | (refine aF.ap ?_ rfl))
 ·unfold lQ.acc;dsimp only
  by_cases hxy:x=e.obj∧y=e.off
  ·rw [if_pos hxy,hxy.1,hxy.2,wG,hac];rfl
  ·rw [if_neg hxy,wH hxy]
 ·rcases q with q | q
  ·have:=hD.2 _ q;omega
  ·omega
 ·rw [hFo c (by omega) (by omega)];exact hF c (by omega)
end
theorem Df (l:List Ev) (k:Nat):(live l k).length≤k:=by
 have:=List.length_filter_le (fun i=>jD (ay l i).kind && !setB l k i) (List.range k);rw [List.length_range] at this;exact this
theorem Ih (l:List Ev) (L:List Nat) (x y:Int):(jA l L x y).length≤L.length:=by
 unfold jA;rw [List.length_map];exact List.length_filter_le _ _
theorem Ig (l:List Ev) (L L':List Nat) (x y:Int):jA l (L ++ L') x y=jA l L x y ++ jA l L' x y:=by
 unfold jA;rw [List.filter_append,List.map_append]
theorem Ii (l:List Ev) (j:Nat) (x y:Int):jA l [j] x y=if x=(ay l j).obj∧y=(ay l j).off then [Gp l j] else []:=by
 unfold jA;rw [List.filter_cons]
 by_cases h:x=(ay l j).obj∧y=(ay l j).off
 ·rw [if_pos h,if_pos (by rw [h.1,h.2];simp)];rfl
 ·rw [if_neg h,if_neg (by rw [decide_eq_true_iff];exact fun q=>h ⟨q.1.symm,q.2.symm⟩)];rfl
theorem O7:jI Try.prog 51 DT:=by
 refine sqd51 IG ?_;rintro hp az Post ⟨bd,N,S,l,e,rfl,⟨D0,D1,d,h,⟨p1,p2,p3⟩,hev,hacc,⟨hD0,hD1⟩,hN⟩,⟨hc,hl,hS⟩,rfl⟩;obtain ⟨nc,hnc⟩:∃ nc,nc=ncN N:=⟨_,rfl⟩
 refine ⟨by simp,nc,?_⟩;have lb:=hD1 _ h.dd.1;have lm:=hD1 _ h.dd.2;have n83:nc (N+83)=84:=by rw [hnc];exact aP
 have n999:nc (N+999)=1000:=by rw [hnc];exact aP
 have nb:nc bd=1000:=by rw [hnc];exact aU lb
 have nm:nc d.bm=1000:=by rw [hnc];exact aU lm
 have h0:=h.h0;obtain ⟨hM,hMl,hp1,D2,t2,hR1,hT2,⟨f1,f2,f3⟩,hL2⟩:=SC hc hl e h.tab hD0 hN p1 p2 (by omega)
 have hA1:fO hp1 bd D2 D1 { d with t:=t2 }:=h.table hT2 (fun b hb=>hL2.out b (h.dis b hb) (hD1 b hb)) (fun b hb q=>(hL2.new b q).elim (h.dis b hb) (fun q=>by have:=hD1 b hb;omega))
 have n1:(KP l e).length=8:=by unfold KP;split;exact sF;rfl
 obtain ⟨C,hC⟩:∃ C,KP l e=C:=⟨_,rfl⟩
 rw [hC] at hR1 n1;obtain ⟨y1,y2⟩:=nP n1;have z1:(aK C).length=8:=by rw [aJ,n1]
 have v1:=lV n1;have hD1':∀ b,D1 b→b < N+80:=fun b q=>by have:=hD1 b q;omega
 unfold pcd51;refine aH ?_;simp only [↓evP,evB,stB,reduceCtorEq,Nat.reduceEqDiff,Nat.reduceAdd,Nat.reduceLeDiff,Nat.reduceLT,evW,jr,Ev.pa,Ev.row,h0,nb];refine mM hp1 [fU C,.one (hI (mg l e))] (by simp only [stB,Nat.reduceLT];exact hR1) ?_
 by_cases hn:okN l e
 ·have hE:mg l e=0:=if_pos hn;have hX:pK l e=l ++ [e]:=if_pos hn;have hCC:KP l e=stp (l ++ [e]) l.length:=if_pos hn;rw [hCC] at hC;have hO:zZ l e=(bC (l ++ [e]) l.length l.length).map fun (i:Nat)=>(i:Int):=if_pos hn
  have hc2:=hn.2;have hv:=hn.1;have hei:=VF hv;have hLl:(l ++ [e]).length=l.length+1:=by rw [List.length_append];rfl
  obtain ⟨L,hL⟩:∃ L,l ++ [e]=L:=⟨_,rfl⟩
  have hLt:L.take l.length=l:=by rw [←hL];exact List.take_left' rfl
  have hev':ay L l.length=e:=by rw [←hL];exact ru
  unfold wO;rw [hE,hX,hO];rw [hX] at f1 f2;rw [hL] at hc2 hLl hC f1 f2 ⊢;have hjL:l.length < L.length:=by omega
  have hL1:L.length≤1000:=by omega
  have hacc2:∀ x y,d.acc x y=jA L (live L l.length) x y:=fun x y=>by
   rw [hacc x y]
   conv=>lhs;rw [←hLt]
   rw [hLt,←DV (l:=L) (n:=l.length) (fun i hi=>G7 i hi),←Jv (l:=L) (n:=l.length) (by omega) (Nat.le_refl _),hLt]
  have hgr:=(d9 hc2 (Nat.le_refl L.length)).2.1.gr;rw [←f2] at hgr
  -- the end,whatever Observe has laid
  have hend:∀ (st:St) (Q:Exit→St→Prop) (N2:Nat) (D1':Nat→Prop) (d':lQ) (h':Nat→Hb) (R:List Int),xR nc bd e C R h' st→fO h' bd D2 D1' d'→(d'.t=t2∧d'.ev=d.ev)→(∀ x y,d'.acc x y=jA L (vP L l.length) x y)→(N+80≤N2)→(∀ b,D1' b→b < N2)→Free h' N2 →
   (∀ (st':St) (h'':Nat→Hb) (N3:Nat),st'.iw prd51=some [.one (.d (.im (bX R))),.one (hI 0)]→st'.hb=h''→iZ h'' bd N3 (S+2) L→Q .ret st')→pwp iy pcd51c0 (exS iy [] Q) st:=by
   intro st Q N2 D1' d' h' R hM hA ⟨q1,q2⟩ hac hNN hDD hFF hQ;refine M5 hA ⟨fun b q=>by have:=hL2.lt b q;omega,hDD⟩ hFF (by rw [q1];exact hgr) nb (by rw [q2,hev];omega) st Q hM (fun st' h'' r1 r2 ⟨_,D3,d3,N3,hA3,⟨a1,a2,a3⟩,hac3,⟨hN3,hD3⟩,hF3⟩=>hQ st' h'' N3 r1 r2 ⟨D2,D3,d3,hA3,⟨by rw [a2];show d'.t.p=_;rw [q1];exact f1,by rw [a2];show d'.t.st=_;rw [q1];exact f2,by rw [a2];show d'.t.sn≤_;rw [q1];omega⟩,?_,fun x y=>?_,⟨fun b q=>by have:=hL2.lt b q;omega,hD3⟩,hF3⟩)
   ·rw [a3];show d'.ev+1=_;rw [q2,hev,hLl];rfl
   ·rw [hac3 x y]
    show gu (knL d'.t) (d'.acc x y)=_
    rw [q1,hac x y,ML hc2 hL1 (k:=l.length+1) (by omega) (by rw [f1,hLl]) (by rw [f2,hLl]) (fun i hi=>?_),Ju hc2 hL1 hjL,hLl];unfold vP at hi
    rcases List.mem_append.1 hi with q | q
    ·have:=G7 i q;omega
    ·split at q
     ·rw [List.mem_singleton.1 q];omega
     ·cases q
  have hfin:∀ (R:List Int),R=(bC L l.length l.length).map (fun (i:Nat)=>(i:Int))→∀ (st':St) (h'':Nat→Hb) (N3:Nat),st'.iw prd51=some [.one (.d (.im (bX R))),.one (hI 0)]→st'.hb=h''→iZ h'' bd N3 (S+2) L →
   ((Exit.ret=.normal∨Exit.ret=.ret)∧∃ hp' rs,st'.iw prd51=some rs∧(∀ b,hp' b=st'.hb b∨(hp' b=.dead∧st'.hb b≠.no))∧∃ N',iZ hp' bd N' (S+2) L∧rs=[.one (.d (.im (bX ((bC L l.length l.length).map fun (i:Nat)=>(i:Int))))),.one (hI 0)]) :=
   fun R hR st' h'' N3 r1 r2 r3=>⟨.inr rfl,st'.hb,_,r1,fun b=>.inl rfl,N3,by rw [r2];exact r3,by rw [hR]⟩
  have hz:((0:Int) != 0)=false:=rfl;simp only [↓evP,evB,stB,reduceCtorEq,Nat.reduceEqDiff,Nat.reduceAdd,Nat.reduceLeDiff,Nat.reduceLT,fU,bW,z1,hz];refine ⟨(by unfold Drw;refine Eq.trans (b:=true) ?_ rfl;kernel_rfl),?_⟩
  have hre:uj C e (d.acc e.obj e.off)=(bC L l.length l.length).map fun (i:Nat)=>(i:Int):=by
   rw [hacc2,←hC,←hev'];exact JL hc2 hL1 hjL
  have hao:Gp L l.length=⟨e,d.ev,C.getD e.g.toNat 0⟩:=by
   have V:=VL.of hc2;have:=lq V hjL;rw [hev',hC] at this;unfold Gp;rw [hev',hev,this]
  have hm0:jD e.kind=true→∀ x y,jA L (vP L l.length) x y=if x=e.obj∧y=e.off then d.acc e.obj e.off ++ [⟨e,d.ev,C.getD e.g.toNat 0⟩] else d.acc x y:=fun hm x y=>by
   unfold vP;rw [hev',if_pos hm,Ig,Ii,hev',hao,←hacc2]
   by_cases q:x=e.obj∧y=e.off
   ·rw [if_pos q,if_pos q,q.1,q.2]
   ·rw [if_neg q,if_neg q,List.append_nil]
  have key:∀ (st:St) (Q:Exit→St→Prop),xR nc bd e C [] hp1 st→(∀ (R:List Int),R=(bC L l.length l.length).map (fun (i:Nat)=>(i:Int))→∀ (st':St) (h'':Nat→Hb) (N3:Nat),st'.iw prd51=some [.one (.d (.im (bX R))),.one (hI 0)]→st'.hb=h''→iZ h'' bd N3 (S+2) L→Q .ret st') →
   pwp iy pcd51c4 (exS iy [.c pcd51c0] Q) st:=by
   intro st Q hM hQ
   cases hm:jD e.kind with
   | true =>
     cases hd:d.d e.obj e.off with
     | some p =>
       obtain ⟨b,xs⟩:=p;have hxa:d.acc e.obj e.off=xs:=by unfold lQ.acc;rw [hd]
       have hxl:xs.length≤900:=by
        rw [←hxa,hacc2];have:=Ih L (live L l.length) e.obj e.off;have:=Df L l.length;omega
       have hbN:b < N:=hD1 _ (hA1.eX (x:=e.obj) (y:=e.off) hd).d1;refine M4 hA1 ⟨hL2.lt,hD1'⟩ hL2.free hei hm n1 hd hxl nb nm (by rw [hnc];exact aU hbN) (b2:=N+999) (by omega) n999 st Q hM (fun st' h' D1' d' r1 r2 ⟨r3,r4,r5⟩ r6 r7 r8=>?_)
       refine hend st' Q (N+999+1) D1' d' h' _ r1 r2 ⟨r4,r5⟩ (fun x y=>?_) (by omega) r7 r8 (hQ _ (by rw [←hre,hxa]));rw [r6,hm0 hm,hxa];rfl
     | none =>
       have hxa:d.acc e.obj e.off=[]:=by unfold lQ.acc;rw [hd]
       refine MZ hA1 ⟨hL2.lt,hD1'⟩ hL2.free hei hm n1 hd nb nm (b2:=N+83) (by omega) n83 st Q hM (fun st' h' D1' d' r1 r2 ⟨r3,r4,r5⟩ r6 r7 r8=>?_);refine hend st' Q (N+83+1) D1' d' h' _ r1 r2 ⟨r4,r5⟩ (fun x y=>?_) (by omega) r7 r8 (hQ _ (by rw [←hre,hxa];rfl))
       rw [r6,hm0 hm,hxa];rfl
   | false =>
     have hr0:(bC L l.length l.length).map (fun (i:Nat)=>(i:Int))=[]:=by
      rw [←hre];unfold uj;rw [List.filter_eq_nil_iff.2 (fun a _=>by unfold iq;rw [hm];simp)];rfl
     have hU:vP L l.length=live L l.length:=by unfold vP;rw [hev',if_neg (by rw [hm];decide),List.append_nil]
     have s3:=hM.s3;have g3:=hM.g3;have o3:=hM.o3;unfold Ev.row at o3;unfold pcd51c4;simp only [↓evP,evB,stB,Nat.reduceEqDiff,s3,g3,o3];refine aC [pB (jD e.kind)] (by exact x9.mk e.kind) ?_;rw [hm];simp only [↓evP,evB,stB,reduceCtorEq,Nat.reduceEqDiff,Nat.reduceAdd,Nat.reduceLeDiff,s3,g3,o3];refine hend _ Q (N+80) D1 _ hp1 [] ?_ hA1 ⟨rfl,rfl⟩ (fun x y=>by rw [hU];exact hacc2 x y) (Nat.le_refl _) hD1' hL2.free (hQ _ hr0.symm)
     exact ⟨by simp only [stB,reduceCtorEq,hM.s0],by simp only [stB,Nat.reduceEqDiff,hM.s3],by simp only [stB,Nat.reduceEqDiff,hM.s6],by simp only [stB,Nat.reduceEqDiff,hM.s8],by simp only [stB,hM.g3],by simp only [stB,hM.g6],by simp only [stB,hM.g8],by simp only [stB,o3];rfl,by simp only [stB,hM.o6],by simp only [stB,hM.o8],by simp only [stB,hM.hb],by simp only [stB,hM.hnc],by repeat' (first | exact hM.ha | (refine aF.ap ?_ rfl))⟩
  refine key _ _ ⟨by simp only [stB,reduceCtorEq],by simp only [stB,Nat.reduceEqDiff],by simp only [stB,Nat.reduceEqDiff],by simp only [stB,Nat.reduceEqDiff];rfl,by simp only [stB,Nat.reduceEqDiff],by simp only [stB,Nat.reduceEqDiff],by simp only [stB,Nat.reduceEqDiff],by simp only [stB,Nat.reduceEqDiff,Nat.reduceLT];rfl,by simp only [stB,Nat.reduceEqDiff,Nat.reduceLT];rw [v1],by simp only [stB,Nat.reduceEqDiff,Nat.reduceLT];first | done | rfl,by simp only [stB,Nat.reduceLT],by simp only [stB],by repeat' (first | exact aF.init | (refine aF.ap ?_ rfl))⟩ hfin
 ·have hE:(mg l e != 0)=true:=by unfold mg;rw [if_neg hn];split <;> decide
  have hX:pK l e=l:=if_neg hn;have hO:zZ l e=[]:=if_neg hn;unfold wO;rw [hX,hO];rw [hX] at f1 f2;simp only [↓evP,evB,stB,reduceCtorEq,Nat.reduceEqDiff,Nat.reduceAdd,Nat.reduceLeDiff,Nat.reduceLT,fU,bW,z1,hE,prd51];refine ⟨(by unfold Drw;refine Eq.trans (b:=true) ?_ rfl;kernel_rfl),?_⟩
  exact ⟨_,_,rfl,fun b=>.inl rfl,N+80,⟨D2,D1,_,hA1,⟨f1,f2,by show t2.sn≤_;omega⟩,hev,hacc,⟨hL2.lt,hD1'⟩,hL2.free⟩,rfl⟩
theorem iZ.frame {hp hp':Nat→Hb} {bd N N' S:Nat} {l:List Ev} (h:iZ hp bd N S l) (h1:∀ b,b < N→hp' b=hp b) (h2:N≤N') (h3:Free hp' N'):iZ hp' bd N' S l:=by
 obtain ⟨D0,D1,d,a,b,c,e,⟨f,g⟩,_⟩:=h;exact ⟨D0,D1,d,a.frame (fun b q=>h1 b (f b q)) (fun b q=>h1 b (g b q)),b,c,e,⟨fun b q=>Nat.lt_of_lt_of_le (f b q) h2,fun b q=>Nat.lt_of_lt_of_le (g b q) h2⟩,h3⟩
theorem iZ.mono {hp:Nat→Hb} {bd N S S':Nat} {l:List Ev} (h:iZ hp bd N S l) (h2:S≤S'):iZ hp bd N S' l:=by
 obtain ⟨D0,D1,d,a,⟨b1,b2,b3⟩,r⟩:=h;exact ⟨D0,D1,d,a,⟨b1,b2,Nat.le_trans b3 h2⟩,r⟩
def CS:Env:=h1 34 FT e0
theorem Ep:aG Try.prog CS:=.h1 Uy .e0
def Ap:(Nat→Hb)→List Hw→(Nat→Hb)→List Hw→Prop:=Runs CS ntd52 pcd52 prd52
theorem OL:iF Try.prog 52 Ap:=spd52 Ep (fun _ _ _ _ h=>h)
theorem CR {hp:Nat→Hb} {N:Nat} (hN:Free hp N):∃ hp' bd N',Ap hp [] hp' [hP bd 0]∧iZ hp' bd N' 0 []:=by
 obtain ⟨hp1,t1,D1,hR1,hT1,⟨a1,a2,a3⟩,hL1⟩:=QB hN;have hF:=hL1.free;refine ⟨up (up hp1 (N+6+2) (.map 98 [] 0)) (N+6+4) (.cells [.h (.p (N+5) 0),hI 0,.h (.m (N+6+2))]),N+6+4,N+20,?_,D1,fun b=>b=N+6+2∨b=N+6+4,⟨N+5,N+6+2,t1,0,[],0,fun _ _=>none,fun _=>none⟩,?_,⟨a1,a2,by rw [a3];exact Nat.le_refl _⟩,rfl,fun _ _=>rfl,⟨fun b q=>by have:=hL1.lt b q;omega,fun b q=>by omega⟩,fun b q=>?_⟩
 ·obtain ⟨nc,hnc⟩:∃ nc,nc=ncN (N+6):=⟨_,rfl⟩
  have n2:nc (N+6+2)=3:=by rw [hnc];exact aP
  have n4:nc (N+6+4)=5:=by rw [hnc];exact aP
  refine ⟨by simp,nc,?_⟩;unfold pcd52;refine aH ?_;simp only [↓evP,evB,stB];refine aN hp1 [hP (N+5) 0] (by simp only [stB];exact hR1) ?_
  simp only [evB,stB];refine wX (N+6+2) (bG (by simp only [stB,n2]) (by repeat' (first | exact aF.init | (refine aF.ap ?_ rfl))) (by simp only [stB];exact hF.at_ 2)) MO ?_
  simp only [evB,stB,reduceCtorEq,Nat.reduceEqDiff,Nat.reduceAdd,Nat.reduceLeDiff];refine aY (cs:=[.hv (.p (N+5) 0),.d (dI 0),.hv (.m (N+6+2))]) (hs:=[.h (.p (N+5) 0),hI 0,.h (.m (N+6+2))]) (N+6+4) (bG (by simp only [stB,n4]) (by repeat' (first | exact aF.init | (refine aF.ap ?_ rfl))) (by simp only [stB,Nat.reduceEqDiff,n2,Nat.add_left_cancel_iff];exact hF.at_ 4)) (by simp only [stB,reduceCtorEq,Nat.reduceEqDiff];first | done | rfl) (by rfl) ?_
  simp only [↓evP,evB,stB,reduceCtorEq,Nat.reduceEqDiff,n2,n4,prd52]
 ·refine ⟨hT1.frame (fun b q=>?_),bV,?_,⟨.inr rfl,.inl rfl⟩,jv.nil _,fun _ _=>rfl,fun e he=>(by cases he),fun b q=>?_⟩
  ·have:=hL1.lt b q;rw [aB (by omega),aB (by omega)]
  ·show up _ _ _ (N+6+2)=_
   rw [aB (by omega),bV]
  ·intro q2;have:=hL1.lt b q2;omega
 ·rw [aB (by omega),aB (by omega)];exact hF b (by omega)
def zf (f:Value×Nat×Hw→Nat) (es:List (Value×Nat×Hw)) (seen:List Nat):Nat:=((es.filter fun e=>seen.contains e.2.1).map f).sum
theorem NM {f:Value×Nat×Hw→Nat} {es:List (Value×Nat×Hw)}:zf f es []=0:=by
 unfold zf;rw [List.filter_eq_nil_iff.2 (fun e _=>by simp)];rfl
theorem NK {f:Value×Nat×Hw→Nat} {es:List (Value×Nat×Hw)} {seen:List Nat} (h:∀ e ∈ es,seen.contains e.2.1=true):zf f es seen=(es.map f).sum:=by
 unfold zf;rw [List.filter_eq_self.2 h]
theorem Rl {f:Value×Nat×Hw→Nat} {es:List (Value×Nat×Hw)} {seen:List Nat}:zf f es seen≤(es.map f).sum:=by
 unfold zf
 induction es with
 | nil=>exact Nat.zero_le _
 | cons e es ih =>
   rw [List.filter_cons,List.map_cons,List.sum_cons];split
   ·rw [List.map_cons,List.sum_cons];omega
   ·omega
theorem J6 {f:Value×Nat×Hw→Nat} {es:List (Value×Nat×Hw)} (hn:(es.map (·.2.1)).Nodup) {seen:List Nat} {e:Value×Nat×Hw} (he:e ∈ es) (hs:seen.contains e.2.1=false) :
 zf f es (seen ++ [e.2.1])=zf f es seen+f e:=by
 unfold zf
 induction es with
 | nil=>cases he
 | cons a es ih =>
   rw [List.map_cons,List.nodup_cons] at hn
   rcases List.mem_cons.1 he with h | h
   ·subst h
    have hrest:(es.filter fun x=>(seen ++ [e.2.1]).contains x.2.1)=es.filter fun x=>seen.contains x.2.1:=by
     apply List.filter_congr
     intro x hx;have hne:x.2.1≠e.2.1:=fun q=>hn.1 (q ▸ List.mem_map.2 ⟨x,hx,rfl⟩)
     rw [Bool.eq_iff_iff];simp [hne]
    have h1:(seen ++ [e.2.1]).contains e.2.1=true:=by simp
    rw [List.filter_cons,List.filter_cons,h1,hs,hrest,if_pos rfl,if_neg (by decide),List.map_cons,List.sum_cons,Nat.add_comm]
   ·have hne:a.2.1≠e.2.1:=fun q=>hn.1 (q ▸ List.mem_map.2 ⟨e,h,rfl⟩)
    have h1:(seen ++ [e.2.1]).contains a.2.1=seen.contains a.2.1:=by
     rw [Bool.eq_iff_iff];simp [hne]
    rw [List.filter_cons,List.filter_cons,h1];have:=ih hn.2 h;split
    ·rw [List.map_cons,List.map_cons,List.sum_cons,List.sum_cons];omega
    ·exact this
def CF (d:lQ) (e:Value×Nat×Hw):List Ac:=match e.1 with
 | .agg a=>(match a.toList with
   | [.int _ x,.int _ y]=>d.acc x y
   | _=>[])
 | _=>[]
theorem CG {d:lQ} {e:Value×Nat×Hw} {x y:Int} (h:e.1=fT x y):CF d e=d.acc x y:=by
 unfold CF;rw [h];rfl
open Classical in
theorem yM (g:Nat→Value):∀ (ks:List Value) (L:List Nat),ks.Nodup→(∀ i ∈ L,g i ∈ ks)→(ks.map fun k=>(L.filter fun i=>decide (g i=k)).length).sum=L.length
 | [],L,_,h=>by
   cases L with
   | nil=>rfl
   | cons a L=>exact absurd (h a (List.mem_cons_self ..)) (by simp)
 | k :: ks,L,hn,h=>by
   rw [List.nodup_cons] at hn
   have ih:=yM g ks (L.filter fun i=>!decide (g i=k)) hn.2 (fun i hi=>by
    obtain ⟨h1,h2⟩:=List.mem_filter.1 hi
    rcases List.mem_cons.1 (h i h1) with q | q
    ·rw [q] at h2;simp at h2
    ·exact q)
   rw [List.map_cons,List.sum_cons]
   have hmm:(ks.map fun k=>(L.filter fun i=>decide (g i=k)).length)=ks.map fun k'=>((L.filter fun i=>!decide (g i=k)).filter fun i=>decide (g i=k')).length:=by
    apply List.map_congr_left
    intro k' hk';rw [List.filter_filter]
    congr 1
    apply List.filter_congr
    intro i _
    by_cases q:g i=k'
    ·have:g i≠k:=fun e=>hn.1 (by rw [←e,q];exact hk')
     rw [decide_eq_true q,decide_eq_false this];rfl
    ·rw [decide_eq_false q];rfl
   rw [hmm,ih]
   have hp:∀ L:List Nat,(L.filter fun i=>decide (g i=k)).length+(L.filter fun i=>!decide (g i=k)).length=L.length:=fun L=>by
    induction L with
    | nil=>rfl
    | cons a L ih2 =>
      rw [List.filter_cons,List.filter_cons]
      by_cases q:g a=k
      ·rw [if_pos (decide_eq_true q),if_neg (by rw [decide_eq_true q];decide),List.length_cons,List.length_cons];omega
      ·rw [if_neg (by rw [decide_eq_false q];decide),if_pos (by rw [decide_eq_false q];rfl),List.length_cons,List.length_cons];omega
   exact hp L
theorem fO.total {hp:Nat→Hb} {bd:Nat} {D0 D1:Nat→Prop} {d:lQ} (h:fO hp bd D0 D1 d) {l:List Ev} {L:List Nat} (ha:∀ x y,d.acc x y=jA l L x y):(d.es.map fun e=>(CF d e).length).sum=L.length:=by
 classical
 have h1:=yM (fun i=>fT (ay l i).obj (ay l i).off) (d.es.map (·.1)) L h.ow.kn (fun i hi=>by
  have hm:Gp l i ∈ d.acc (ay l i).obj (ay l i).off:=by
   rw [ha];exact List.mem_map.2 ⟨i,List.mem_filter.2 ⟨hi,by simp⟩,rfl⟩
  cases hd:d.d (ay l i).obj (ay l i).off with
  | none=>unfold lQ.acc at hm;rw [hd] at hm;cases hm
  | some p =>
    obtain ⟨n,hn⟩:=(h.eX hd).at_;exact List.mem_map.2 ⟨_,jo hn,rfl⟩)
 rw [←h1,List.map_map]
 congr 1
 apply List.map_congr_left
 intro e he;obtain ⟨x,y,hk,_⟩:=h.ok e he;rw [CG hk,ha];unfold jA;rw [List.length_map]
 show _=(L.filter fun i=>decide (fT (ay l i).obj (ay l i).off=e.1)).length
 rw [hk]
 congr 1
 apply List.filter_congr
 intro i _;rw [Bool.eq_iff_iff,decide_eq_true_iff,decide_eq_true_iff,w9]
def Pg (hp:Nat→Hb) (az:List Hw) (Post:(Nat→Hb)→List Hw→Prop):Prop:=∃ (bd N S:Nat) (l:List Ev),az=[hP bd 0]∧iZ hp bd N S l∧l.length≤1000∧Post=fun h r=>h=up hp (N+12) .dead∧r=[.one (hI (live l l.length).length)]
theorem Q8:jI Try.prog 50 Pg:=by
 refine sqd50 aG.e0 ?_;rintro hp az Post ⟨bd,N,S,l,rfl,⟨D0,D1,d,h,_,_,hacc,⟨hD0,hD1⟩,hN⟩,hl,rfl⟩;obtain ⟨nc,hnc⟩:∃ nc,nc=ncN N:=⟨_,rfl⟩
 refine ⟨by simp,nc,?_⟩;have hsum:=h.total hacc;have hll:=Df l l.length;obtain ⟨n0,hn0⟩:∃ n,n=(live l l.length).length:=⟨_,rfl⟩
 rw [←hn0] at hsum hll;rw [←hn0];have lb:=hD1 _ h.dd.1;have lm:=hD1 _ h.dd.2;have n12:nc (N+12)=13:=by rw [hnc];exact aP
 have nb:nc bd=1000:=by rw [hnc];exact aU lb
 have nm:nc d.bm=1000:=by rw [hnc];exact aU lm
 have h0:=h.h0;have hm:=h.hm;have r1:d.bm≠N+12:=by omega
 unfold pcd50;refine aH ?_;simp only [↓evP,evB,stB,reduceCtorEq,Nat.reduceEqDiff,h0];refine vM (bm:=d.bm) (t:=98) (clock:=d.cl) (es:=d.es) (N+12) (bG (by simp only [stB,n12]) (by repeat' (first | exact aF.init | (refine aF.ap ?_ rfl))) (by simp only [stB];exact hN.at_ 12)) (by simp only [stB,Nat.reduceEqDiff]) (by simp only [stB,hm]) ?_
 simp only [↓evP,evB];refine iD msd50_0 osd50_0 (fun m st=>∃ seen:List Nat,m=d.es.length - seen.length∧seen.Nodup∧(∀ n ∈ seen,n ∈ d.es.map (·.2.1))∧st.sl 3=aI (zf (fun e=>(CF d e).length) d.es seen:Nat)∧st.hb=up hp (N+12) (.iter d.bm d.cl seen d.cl)) d.es.length (by repeat' (first | exact aF.init | (refine aF.ap ?_ rfl))) ?_ ?_
 ·exact ⟨[],rfl,List.nodup_nil,fun n q=>(by cases q),by simp only [stB,Nat.reduceEqDiff];rw [NM];rfl,by simp only [stB,n12]⟩
 rintro m j hjn hja ⟨seen,rfl,hsn,hsub,h3,hhb⟩;simp only [stB,Nat.reduceEqDiff,Nat.reduceBEq,hjn] at h3 hhb;simp only [↓evP,evB,stB,Nat.reduceEqDiff,Nat.reduceBEq];refine uf (r:=N+12) (b:=d.bm) (since:=d.cl) (c0:=d.cl) (t:=98) (clock:=d.cl) (seen:=seen) (es:=d.es) (by simp only [stB,hjn,hhb]) (by simp only [stB,hjn,hhb,r1,hm]) ⟨h.ow.lt,Nat.le_refl _,Nat.le_refl _⟩ ?_ ?_
 ·intro hall;have hcn:=NK (f:=fun e=>(CF d e).length) hall;rw [hsum] at hcn;simp only [↓evP,evB,stB,reduceCtorEq,Nat.reduceEqDiff,Nat.reduceBEq,h3,hhb,hjn,hcn,prd50];refine ⟨_,_,rfl,fun b=>?_,rfl,rfl⟩
  by_cases hb:b=N+12
  ·rw [if_pos hb,hb,bV];exact .inr ⟨rfl,by simp⟩
  ·rw [if_neg hb,aB hb];exact .inl rfl
 intro e he hns;obtain ⟨x,y,b,xs,hek,hev,hdx,hal⟩:=h.entry he;have hok:=h.eX hdx;have hbv:=hok.e;have hbN:=hD1 _ hok.d1;have hxa:CF d e=xs:=by rw [CG hek];unfold lQ.acc;rw [hdx]
 have hv:rU e.1=.agg [.d (dI x),.d (dI y)]:=by rw [hek];rfl
 have hfind:=mZ h.ow.sn he;have hlast:(seen ++ [e.2.1]).getLast? = some e.2.1:=List.getLast?_concat;have hst:=J6 (f:=fun e=>(CF d e).length) h.ow.sn he hns;have hle:=Rl (f:=fun e=>(CF d e).length) (es:=d.es) (seen:=seen ++ [e.2.1]);rw [hsum] at hle;rw [hxa] at hst;have hyl:(gG xs).length=xs.length:=List.length_map ..;have e1:b≠N+12:=by omega
 have nbv:nc b=1000:=by rw [hnc];exact aU hbN
 have hnd:(seen ++ [e.2.1]).Nodup:=by
  rw [List.nodup_append];exact ⟨hsn,by simp,fun a ha b hb q=>by have:=List.mem_singleton.1 hb;subst this;subst q;simp [ha] at hns⟩
 have hsub2:∀ n ∈ seen ++ [e.2.1],n ∈ d.es.map (·.2.1):=fun n hn=>by
  rcases List.mem_append.1 hn with q | q
  ·exact hsub n q
  ·rw [List.mem_singleton.1 q];exact List.mem_map.2 ⟨_,he,rfl⟩
 have hlen:seen.length+1≤d.es.length:=by
  have:=Dj hnd (l':=d.es.map (·.2.1)) hsub2
  simpa using this
 have hw:IntKind.i64.wrap (((zf (fun e=>(CF d e).length) d.es seen:Nat):Int)+(xs.length:Int))=((zf (fun e=>(CF d e).length) d.es (seen ++ [e.2.1]):Nat):Int):=by
  rw [pY (by omega) (by omega),hst];omega
 simp only [↓evP,evB,stB,reduceCtorEq,Nat.reduceEqDiff,Nat.reduceBEq,n12,hv,hev,Hw.bv,hfind,hlast,hhb,hjn,hm,r1,hbv,hyl,h3,e1,hw]
 exact ⟨d.es.length - (seen ++ [e.2.1]).length,by rw [List.length_append,List.length_singleton];omega,(by repeat' (first | assumption | exact bJ hja | (refine bA ?_ rfl rfl) | (refine aZ ?_ rfl) | (refine bA ?_ rfl bB) | (refine aZ ?_ bB))),seen ++ [e.2.1],rfl,hnd,hsub2,(by simp only [stB,Nat.reduceEqDiff,Nat.reduceBEq,h3]),(by simp only [stB,hhb,hjn,n12,KL])⟩
def Aq (hp:Nat→Hb) (az:List Hw) (hp':Nat→Hb) (rs:List Hw):Prop:=∃ (bd N S:Nat) (l:List Ev),az=[hP bd 0]∧iZ hp bd N S l∧l.length≤1000∧hp'=up hp (N+12) .dead∧rs=[.one (hI (live l l.length).length)]
theorem OM:iF Try.prog 50 Aq:=Q8.toH (by
 rintro hp az hp' rs ⟨bd,N,S,l,e,h1,h2,rfl,rfl⟩;exact ⟨bd,N,S,l,e,h1,h2,rfl⟩)
theorem qY {hp:Nat→Hb} {bd N S:Nat} {l:List Ev} (h:iZ hp bd N S l) (hl:l.length≤1000):∃ hp',Aq hp [hP bd 0] hp' [.one (hI (live l l.length).length)]∧iZ hp' bd (N+13) S l :=
 ⟨_,⟨bd,N,S,l,rfl,h,hl,rfl,rfl⟩,h.frame (fun b q=>aB (by omega)) (by omega) (fun b q=>by
  obtain ⟨_,_,_,_,_,_,_,_,hF⟩:=h;rw [aB (by omega)];exact hF b (by omega))⟩
theorem JO {l:List Ev} {n i j:Nat} (hc:chk l=l.length) (hn:n≤l.length) (hij:i < j) (hj:j < n):nK (l.take n) i j=nK l i j:=by
 have hl:(l.take n).length=n:=List.length_take_of_le hn;rw [rO (oZ hc hn) hij (by omega),rO hc hij (by omega),iA (by omega),iA hj,Dy hn hj,xk (by omega)]
theorem qH {l:List Ev} {n j:Nat} (hc:chk l=l.length) (hn:n≤l.length) (hj:j < n):bC (l.take n) j j=bC l j j:=by
 unfold bC
 apply List.filter_congr
 intro i hi;exact JO hc hn (List.mem_range.1 hi) hj
theorem qI {l:List Ev} {n k:Nat} (hc:chk l=l.length) (hn:n≤l.length) (hk:k≤n):bS (l.take n) k=bS l k:=by
 induction k with
 | zero=>rfl
 | succ k ih=>rw [gW,gW,ih (by omega),qH hc hn (by omega)]
theorem mQ {l:List Ev} {k:Nat} (hk:k < l.length):l.take (k+1)=l.take k ++ [ay l k]:=by
 rw [List.take_add_one,jW hk];rfl
theorem qZ {l:List Ev} {k:Nat} (hk:k < l.length):okN (l.take k) (ay l k)↔chk (l.take (k+1))=(l.take (k+1)).length:=by
 unfold okN;rw [mQ hk];exact ⟨fun h=>h.2,fun h=>⟨Ip h _ (by simp),h⟩⟩
theorem yC {l:List Ev} {k:Nat} (hk:k < l.length) (h:okN (l.take k) (ay l k)):pK (l.take k) (ay l k)=l.take (k+1)∧mg (l.take k) (ay l k)=0∧zZ (l.take k) (ay l k)=((bC (l.take (k+1)) k k).map fun (i:Nat)=>(i:Int)) ∧
 bS (l.take (k+1)) (k+1)=bS (l.take k) k ++ (bC (l.take (k+1)) k k).map fun i=>(i,k):=by
 have hl:(l.take k).length=k:=List.length_take_of_le (by omega);have hl1:(l.take (k+1)).length=k+1:=List.length_take_of_le (by omega);have hc:=(qZ hk).1 h;refine ⟨by unfold pK;rw [if_pos h,mQ hk],if_pos h,by unfold zZ;rw [if_pos h,hl,mQ hk],?_⟩
 rw [gW]
 congr 1
 have:=qI hc (n:=k) (k:=k) (by omega) (Nat.le_refl _);rw [List.take_take,Nat.min_eq_left (by omega)] at this;exact this.symm
theorem Lj {l:List Ev} {k:Nat} (hk:k < l.length) (h:¬ okN (l.take k) (ay l k)):chk l≠l.length∧(mg (l.take k) (ay l k) != 0)=true:=by
 refine ⟨fun hc=>h ((qZ hk).2 (oZ hc (by omega))),?_⟩;unfold mg;rw [if_neg h];split <;> decide
theorem iZ.free {hp:Nat→Hb} {bd N S:Nat} {l:List Ev} (h:iZ hp bd N S l):Free hp N:=by
 obtain ⟨_,_,_,_,_,_,_,_,hF⟩:=h;exact hF
def NZ (hp:Nat→Hb) (az:List Hw) (Post:(Nat→Hb)→List Hw→Prop):Prop:=∃ (l:List Ev) (N:Nat),az=[jr (jc l)]∧Free hp N∧(chk l=l.length∧l.length≤900)∧Post=fun h r=>∃ bd N',iZ h bd N' (2 * l.length) l∧r=[hP bd 0,.one (.d (.im (gP (bS l l.length)))),.one (.d (dB true))]
noncomputable def P6:Env:=h1 52 Ap (p1 51 DT e0)
theorem IB:aG Try.prog P6:=.h1 OL (.p1 O7 .e0)
theorem Um:jI Try.prog 46 NZ:=by
 refine sqd46 IB ?_;rintro hp az Post ⟨l,N,rfl,hN,⟨hcl,hl⟩,rfl⟩;refine ⟨by simp,fun _=>1,?_⟩;obtain ⟨hp1,bd,N1,hR1,hD1⟩:=CR hN;unfold pcd46;refine aH ?_;simp only [↓evP,evB,stB,jr,jc,l9];refine aN hp1 [hP bd 0] (by simp only [stB,Nat.reduceLT];exact hR1) ?_
 simp only [↓evP,evB,stB,reduceCtorEq,Nat.reduceEqDiff];refine iD msd46_0 osd46_0 (fun m st=>∃ k N',m=l.length - k∧k≤l.length∧st.sl 16=aI k∧chk (l.take k)=(l.take k).length∧iZ st.hb bd N' (2 * k) (l.take k)∧st.sl 6=.b (.one (.own 6 1 (gP (bS (l.take k) k))))∧st.gen 6=1∧st.ob 6=.row 78 2 (bS (l.take k) k).length) l.length (by repeat' (first | exact aF.init | (refine aF.ap ?_ rfl))) ?_ ?_
 ·exact ⟨0,N1,rfl,Nat.zero_le _,by simp only [stB,Nat.reduceEqDiff];rfl,rfl,by simp only [stB,Nat.reduceMul,Nat.reduceLT];exact hD1,by simp only [stB,Nat.reduceEqDiff];rfl,by simp only [stB,Nat.reduceEqDiff],by simp only [stB,Nat.reduceEqDiff,Nat.reduceLT];rfl⟩
 rintro m j hjn hja ⟨k,N2,rfl,hk,h16,hc,hD,h6,g6,o6⟩;simp only [stB,Nat.reduceEqDiff,Nat.reduceLT,Nat.reduceBEq,hjn] at h16 h6 g6 o6 hD
 rcases Nat.lt_or_ge k l.length with hlt | hge
 ·have hle:=jW hlt;obtain ⟨e,he⟩:∃ e,ay l k=e:=⟨_,rfl⟩
  have hkl:(l.take k).length=k:=List.length_take_of_le hk;have hyes:=yC hlt;have hno:=Lj hlt;have hok:=qZ hlt;rw [he] at hle hyes hno hok;have klt:(k:Int) < (l.length:Int):=by omega
  have k0:(0:Int)≤(k:Int):=by omega
  obtain ⟨A,hA⟩:∃ A,bS (l.take k) k=A:=⟨_,rfl⟩
  have hAl:A.length≤810000:=by
   rw [←hA];have:=nW (l.take k) k;have:k * k≤900 * 900:=Nat.mul_le_mul (by omega) (by omega);omega
  rw [hA] at h6 o6 hyes;simp only [↓evP,evB,stB,reduceCtorEq,Nat.reduceEqDiff,Nat.reduceAdd,Nat.reduceLeDiff,Nat.reduceLT,Nat.reduceBEq,h16,h6,klt,decide_true,hle,k0,Ev.row];refine dW _ (by simp only [stB,Nat.reduceLT,hjn];exact ⟨bd,N2,2 * k,l.take k,e,rfl,hD,⟨hc,by omega,by omega⟩,rfl⟩) ?_
  rintro hp2 rs ⟨N3,hD2,rfl⟩
  by_cases hn:okN (l.take k) e
  ·obtain ⟨w1,w2,w3,w4⟩:=hyes hn;rw [w1] at hD2;rw [w2,w3];obtain ⟨xs,hxs⟩:∃ xs,bC (l.take (k+1)) k k=xs:=⟨_,rfl⟩
   have hxl:xs.length≤k:=by rw [←hxs];exact lJ _ _ _
   rw [hxs] at w4;rw [hxs];have hz:((0:Int) != 0)=false:=rfl;have hil:(bX (xs.map fun (i:Nat)=>(i:Int))).length=xs.length:=by unfold bX;rw [List.length_map,List.length_map]
   simp only [↓evP,evB,stB,reduceCtorEq,Nat.reduceEqDiff,Nat.reduceLT,Nat.reduceBEq,hz,hil];refine iD msd46_1 osd46_1 (fun m st=>∃ i:Nat,m=xs.length - i∧i≤xs.length∧st.sl 32=aI i∧st.sl 6=.b (.one (.own 6 1 (gP (A ++ (xs.take i).map fun i=>(i,k)))))∧st.gen 6=1∧st.ob 6=.row 78 2 (A ++ (xs.take i).map fun i=>(i,k)).length∧st.hb=hp2) xs.length (by repeat' (first | exact iP hja | (refine aF.ap ?_ rfl))) ?_ ?_
   ·exact ⟨0,rfl,Nat.zero_le _,by simp only [stB,Nat.reduceEqDiff,Nat.reduceBEq];rfl,by simp only [stB,Nat.reduceEqDiff,Nat.reduceBEq,h6];first | done | rw [List.take_zero,List.map_nil,List.append_nil],by simp only [stB,Nat.reduceEqDiff,Nat.reduceBEq,g6],by simp only [stB,Nat.reduceEqDiff,Nat.reduceLT,Nat.reduceBEq,o6];first | done | rw [List.take_zero,List.map_nil,List.append_nil],by simp only [stB]⟩
   rintro m2 j2 hjn2 hja2 ⟨i,rfl,hi,h32,h6',g6',o6',hh2⟩;simp only [stB,Nat.reduceEqDiff,Nat.reduceLT,Nat.reduceBEq,hjn2] at h32 h6' g6' o6' hh2
   rcases Nat.lt_or_ge i xs.length with hix | hix
   ·obtain ⟨x,hx⟩:∃ x,xs[i]? = some x:=⟨_,List.getElem?_eq_getElem hix⟩
    have hxi:(bX (xs.map fun (i:Nat)=>(i:Int)))[i]? = some [dI (x:Int)]:=by unfold bX;rw [List.getElem?_map,List.getElem?_map,hx];rfl
    have ilt:(i:Int) < (xs.length:Int):=by omega
    have i0:(0:Int)≤(i:Int):=by omega
    obtain ⟨B,hB⟩:∃ B,(A ++ (xs.take i).map fun i=>(i,k))=B:=⟨_,rfl⟩
    have hBl:B.length≤999999:=by
     rw [←hB,List.length_append,List.length_map,List.length_take];omega
    have hB2:(A ++ (xs.take (i+1)).map fun i=>(i,k))=B ++ [(x,k)]:=by
     rw [List.take_add_one,hx,List.map_append,←List.append_assoc,hB];rfl
    have hB3:gP (B ++ [(x,k)])=gP B ++ [[.sc (.int .i64 x),.sc (.int .i64 k)]]:=by unfold gP;rw [List.map_append];rfl
    have hB4:(gP B).length=B.length:=List.length_map ..;rw [hB] at h6' o6';simp only [↓evP,evB,stB,reduceCtorEq,Nat.reduceEqDiff,Nat.reduceAdd,Nat.reduceLeDiff,Nat.reduceLT,Nat.reduceBEq,h16,h32,h6',g6',o6',ilt,i0,hxi,hBl,hB4,decide_true]
    exact ⟨_,by omega,(by repeat' (first | assumption | exact bJ hja2 | (refine bA ?_ rfl rfl) | (refine aZ ?_ rfl) | (refine bA ?_ rfl bB) | (refine aZ ?_ bB))),i+1,rfl,hix,by simp only [stB,Nat.reduceEqDiff,Nat.reduceBEq,h32];rw [wrN (by omega)],by simp only [stB,Nat.reduceEqDiff,Nat.reduceBEq];rw [hB2,hB3],by simp only [stB,Nat.reduceEqDiff,Nat.reduceBEq,g6'],by simp only [stB,Nat.reduceEqDiff,Nat.reduceLT,Nat.reduceBEq,o6'];rw [hB2,List.length_append];rfl,by simp only [stB,Nat.reduceLT,hh2,hjn2]⟩
   ·have hie:i=xs.length:=by omega
    have ilt:¬ (i:Int) < (xs.length:Int):=by omega
    rw [hie,List.take_length,←w4] at h6' o6';simp only [↓evP,evB,stB,reduceCtorEq,Nat.reduceEqDiff,Nat.reduceBEq,h16,h32,h6',ilt,decide_false]
    exact ⟨_,by omega,(by repeat' (first | assumption | exact bJ hja | (refine bA ?_ rfl rfl) | (refine aZ ?_ rfl) | (refine bA ?_ rfl bB) | (refine aZ ?_ bB) | (refine eB.in' ?_ (bJ hja2) rfl rfl))),k+1,N3,rfl,hlt,by simp only [stB,Nat.reduceEqDiff,Nat.reduceBEq,h16];rw [wrN (by omega)],hok.1 hn,by simp only [stB,hh2,hjn2];exact hD2,by simp only [stB,Nat.reduceEqDiff,Nat.reduceBEq,h6'],by simp only [stB,Nat.reduceEqDiff,Nat.reduceBEq,g6'],by simp only [stB,Nat.reduceEqDiff,Nat.reduceLT,Nat.reduceBEq,o6']⟩
  ·exact absurd hcl (hno hn).1
 ·have hke:k=l.length:=by omega
  have klt:¬ (k:Int) < (l.length:Int):=by omega
  rw [hke,List.take_length] at hc;rw [hke,List.take_length] at h6 o6;simp only [↓evP,evB,stB,reduceCtorEq,Nat.reduceEqDiff,Nat.reduceBEq,h16,h6,klt,decide_false,prd46];refine ⟨_,_,rfl,fun b=>.inl rfl,bd,N2,?_,rfl⟩;rw [hke,List.take_length] at hD;simp only [stB,hjn];exact hD
end Go.Proofs.Ytffcpijeebagfaa
end
