/- slices.DeleteFunc on the accesses of a detector: the walk. -/
import Derived.Test.YtffcpijeebagfaaMo3
import Derived.Deep.MidRow
import Derived.Deep.LoopGhost
import Derived.WalkKit
import Derived.Outline
import Derived.Handy
import Derived.BigRegion
import Derived.Deep.Light
import Derived.Deep.Draws
import Derived.Lib.Hide
import Derived.DeepKeys5
import Derived.Maps.OwnSet
import Derived.Below
import Derived.Test.YtffcpijeebagfaaRows
import Derived.WalkSpells
import Derived.RegionTactic
import Derived.Deep.QuietTactic
import Derived.BigQuiet
import Derived.Deep.DeepCutAuto
import Derived.Deep.CutBlock
set_option linter.unusedSimpArgs false
set_option linter.unusedVariables false
section
namespace Go.Proofs.Ytffcpijeebagfaa
open Go Go.RowKit
set_option maxRecDepth 100000
set_option maxHeartbeats 4000000
structure Ac where
 e:Ev
 ix:Int
 n:Int
def Ac.cells (a:Ac):List Value:=a.e.cells ++ [.int .i64 a.ix,.int .i64 a.n]
def Ac.val (a:Ac):Value:=.agg a.cells.toArray
theorem Ac.gV (a:Ac):a.cells.length=11:=rfl
theorem Ac.one (a:Ac):∀ v ∈ a.cells,v.oneCell'=true:=by
 obtain ⟨⟨g,kind,obj,off,k,n,fn,pc,stack⟩,ix,m⟩:=a;intro v hv;simp only [Ac.cells,Ev.cells,List.cons_append,List.nil_append,List.mem_cons,List.not_mem_nil,or_false] at hv
 rcases hv with q | q | q | q | q | q | q | q | q | q | q <;> (rw [q];rfl)
def jy (ks:List Int) (a:Ac):Bool:=decide (a.n≤ks.getD a.e.g.toNat 0)
def G5 (ks:List Int):List Value:=ks.map (Value.int .i64)
def NW (a:Ac):Prop:=0≤a.e.g∧a.e.g < 8
theorem VE {a:Ac} {bk:Nat} {ks:List Int} (w:World) (hk:w.rangeAt bk 0 (G5 ks)) (hl:ks.length=8) (hg:NW a) :
 Calls Try.prog 110 #[a.val,.pointer (some ⟨bk,0,none⟩)] w fun r w'=>r=.returned (.bool (jy ks a))∧Below w.heap.size w w':=by
 obtain ⟨⟨g,kind,obj,off,k,n,fn,pc,stack⟩,ix,m⟩:=a;have hg0:0≤g:=hg.1;have hg8:g < 8:=hg.2
 have hc:w.cell? ⟨bk,g.toNat,none⟩=some (.int .i64 (ks.getD g.toNat 0)):=by
  have:=hk g.toNat (.int .i64 (ks.getD g.toNat 0)) (by
   unfold G5;rw [List.getElem?_map,List.getElem?_eq_getElem (by omega),List.getD_eq_getElem?_getD,List.getElem?_eq_getElem (by omega)];rfl)
  rwa [Nat.zero_add] at this
 have hlt:bk < w.heap.size:=World.block_lt_of_cell? w _ hc;have hc2:∀ o,(w.alloc o).cell? ⟨bk,g.toNat,none⟩=some (.int .i64 (ks.getD g.toNat 0)):=fun o=>by rw [World.cell?_alloc_lt w o ⟨bk,g.toNat,none⟩ hlt];exact hc
 unfold Ac.val Ac.cells Ev.cells jy;dsimp only [List.cons_append,List.nil_append];generalize ks.getD g.toNat 0=q at hc hc2 ⊢;clear hk hl
 go_enter Try.func110,Try.ntmps110
 go_wp2
 go_region
 go_wp2
 go_ret
 exact ⟨rfl,((Below.refl w.heap.size w).alloc (Nat.le_refl _) _).drew⟩
def jg (w:World) (b s:Nat) (xs:List Ac):Prop:=∀ (t:Nat) (a:Ac),xs[t]? = some a→w.rangeAt b ((s+t) * 11) a.cells
theorem jg.load {w:World} {b s:Nat} {xs:List Ac} (h:jg w b s xs) {t:Nat} {a:Ac} (ha:xs[t]? = some a):Sem.run Try.prog (loadCellsFrom ⟨b,(s+t) * 11,none⟩ 0 11 #[]) w=.ok a.cells.toArray w:=by
 have:=run_loadCells_list (P:=Try.prog) (w:=w) ⟨b,(s+t) * 11,none⟩ a.cells (fun j v hv=>by rw [Addr.add_mid];exact h t a ha j v hv)
 rw [a.gV] at this
 simpa [loadCells] using this
theorem lM {w w':World} {B b o:Nat} {cs:List Value} (h:w.rangeAt b o cs) (hb:Below B w w') (hlt:b < B):w'.rangeAt b o cs:=fun j v hv=>by
 rw [World.cell?_of_block (w:=w) (hb.block b hlt)];exact h j v hv
theorem jg.below {w w':World} {b s:Nat} {xs:List Ac} (h:jg w b s xs) {B:Nat} (hb:Below B w w') (hlt:b < B):jg w' b s xs:=fun t a ha=>lM (h t a ha) hb hlt
theorem CB {w:World} {b o:Nat} {a:Ac} (h:w.rangeAt b o a.cells):(w.cell? ⟨b,o,none⟩=some (.int .i64 a.e.g)∧w.cell? ⟨b,o+1,none⟩=some (.int .i64 a.e.kind)∧w.cell? ⟨b,o+2,none⟩=some (.int .i64 a.e.obj)∧w.cell? ⟨b,o+3,none⟩=some (.int .i64 a.e.off)) ∧
 (w.cell? ⟨b,o+4,none⟩=some (.int .i64 a.e.k)∧w.cell? ⟨b,o+5,none⟩=some (.int .i64 a.e.n)∧w.cell? ⟨b,o+6,none⟩=some (.int .i64 a.e.fn)∧w.cell? ⟨b,o+7,none⟩=some (.int .i64 a.e.pc)) ∧
 w.cell? ⟨b,o+8,none⟩=some (.int .i64 a.e.stack)∧w.cell? ⟨b,o+9,none⟩=some (.int .i64 a.ix)∧w.cell? ⟨b,o+10,none⟩=some (.int .i64 a.n) :=
 ⟨⟨h 0 _ rfl,h 1 _ rfl,h 2 _ rfl,h 3 _ rfl⟩,⟨h 4 _ rfl,h 5 _ rfl,h 6 _ rfl,h 7 _ rfl⟩,h 8 _ rfl,h 9 _ rfl,h 10 _ rfl⟩
def uX (ks:List Int) (xs:List Ac) (r:Int):Prop:=(r=-1∧∀ a ∈ xs,jy ks a=false)∨∃ k:Nat,k < xs.length∧r=k∧(∀ a,xs[k]? = some a→jy ks a=true)∧∀ j a,j < k→xs[j]? = some a→jy ks a=false
theorem uX.TF {ks:List Int} {xs:List Ac} {r:Int} (h:uX ks xs r) {k:Nat} {y:Ac} (hk:xs[k]? = some y) (hq:jy ks y=true) (hb:∀ (j:Nat) (a:Ac),j < k→xs[j]? = some a→jy ks a=false):(k:Int)=r:=by
 rcases h with ⟨_,h⟩ | ⟨k',hk',rfl,h1,h2⟩
 ·have:=h y (List.mem_of_getElem? hk);rw [hq] at this;cases this
 ·rcases Nat.lt_trichotomy k k' with q | q | q
  ·have:=h2 k y q hk;rw [hq] at this;cases this
  ·rw [q]
  ·have:=hb k' _ q (List.getElem?_eq_getElem hk');rw [h1 _ (List.getElem?_eq_getElem hk')] at this;cases this
theorem uX.Qm {ks:List Int} {xs:List Ac} {r:Int} (h:uX ks xs r) (hb:∀ a ∈ xs,jy ks a=false):(-1:Int)=r:=by
 rcases h with ⟨h,_⟩ | ⟨k',hk',_,h1,_⟩
 ·exact h.symm
 ·have:=hb _ (List.getElem_mem hk');rw [h1 _ (List.getElem?_eq_getElem hk')] at this;cases this
theorem uX.ex (ks:List Int) (xs:List Ac):∃ r,uX ks xs r:=by
 induction xs with
 | nil=>exact ⟨-1,.inl ⟨rfl,fun a ha=>(by cases ha)⟩⟩
 | cons x xs ih =>
   cases hq:jy ks x with
   | true=>exact ⟨0,.inr ⟨0,by simp,rfl,fun a ha=>by cases ha;exact hq,fun j a hj=>absurd hj (Nat.not_lt_zero _)⟩⟩
   | false =>
     obtain ⟨r,h | ⟨k,hk,rfl,h1,h2⟩⟩:=ih
     ·refine ⟨-1,.inl ⟨rfl,fun a ha=>?_⟩⟩
      rcases List.mem_cons.1 ha with q | q
      ·rw [q];exact hq
      ·exact h.2 a q
     ·refine ⟨((k+1:Nat):Int),.inr ⟨k+1,by simpa using hk,rfl,fun a ha=>h1 a (by simpa using ha),fun j a hj ha=>?_⟩⟩
      cases j with
      | zero=>cases ha;exact hq
      | succ j=>exact h2 j a (by omega) (by simpa using ha)
theorem MG {xs:List Ac} {b bk cap:Nat} {ks:List Int} {r:Int} (hi:uX ks xs r) (w:World) (hr:jg w b 0 xs) (hk:w.rangeAt bk 0 (G5 ks)) (hl:ks.length=8) (hg:∀ a ∈ xs,NW a) (hlen:xs.length≤1000000) (hb:b < w.heap.size) (hbk:bk < w.heap.size) :
 Calls Try.prog 114 #[.slice (some ⟨b,0,none⟩) xs.length cap,.func (.func 110) #[] #[.pointer (some ⟨bk,0,none⟩)]] w fun e w'=>e=.returned (.int .i64 r)∧Below w.heap.size w w':=by
 have HI:=Lib.hid hi;clear hi
 have hall:∀ (W:World),Below w.heap.size w W→∀ (j:Nat) (a:Ac),xs[j]? = some a→W.rangeAt b (j * 11) a.cells:=fun W hW j a ha=>by
  have:=(hr.below hW hb) j a ha
  rwa [Nat.zero_add] at this
 have hcl:∀ (W:World),Below w.heap.size w W→∀ a ∈ xs,Calls Try.prog 110 #[a.val,.pointer (some ⟨bk,0,none⟩)] W fun r w'=>r=.returned (.bool (jy ks a))∧Below w.heap.size w w':=fun W hW a ha =>
  (VE W (lM hk hW hbk) hl (hg a ha)).mono fun _ _ ⟨h1,h2⟩=>⟨h1,hW.trans (h2.mono hW.size)⟩
 clear hr hk hg
 go_enter Try.func114,Try.ntmps114
 go_wp2
 go_loopg [5,8] xs.length (fun gg _ s8 wr=>∃ kk:Nat,kk≤xs.length∧xs.length - kk≤gg∧s8=.int .i64 kk∧Aside (Below w.heap.size w wr)∧Aside (∀ j a,j < kk→xs[j]? = some a→jy ks a=false))
 case atStart=>exact ⟨0,Nat.zero_le _,by omega,rfl,Below.refl _ w,fun j a hj=>absurd hj (Nat.not_lt_zero _)⟩
 case round =>
  obtain ⟨kk,hkk,hgg,rfl,BW,A⟩:=hrel
  by_cases hlt:kk < xs.length
  ·have hltz:(kk:Int) < (xs.length:Int):=by omega
   obtain ⟨y,hy⟩:∃ y,xs[kk]? = some y:=⟨_,List.getElem?_eq_getElem hlt⟩
   have l2:=hall wr BW kk y hy;have hcall:=hcl wr BW y (List.mem_of_getElem? hy);have B:Aside (xs[kk]? = some y):=hy;obtain ⟨⟨q0,q1,q2,q3⟩,⟨q4,q5,q6,q7⟩,q8,q9,q10⟩:=CB l2;clear hall hcl hy l2;obtain ⟨⟨g,kind,obj,off,k,n,fn,pc,stack⟩,ix,m⟩:=y;unfold Ac.val Ac.cells Ev.cells at hcall;dsimp only [List.cons_append,List.nil_append] at hcall q0 q1 q2 q3 q4 q5 q6 q7 q8 q9 q10
   cases hq:jy ks ⟨⟨g,kind,obj,off,k,n,fn,pc,stack⟩,ix,m⟩ with
   | true =>
     rw [hq] at hcall
     go_wp2_with (go_at_call 110;refine hcall.mono ?_;rintro e w' ⟨rfl,hb'⟩)
     go_ret
     refine ⟨?_,hb'⟩;have hr:(kk:Int)=r:=HI.out.TF B hq A;rw [hr];rfl
   | false =>
     rw [hq] at hcall
     go_wp2_with (go_at_call 110;refine hcall.mono ?_;rintro e w' ⟨rfl,hb'⟩)
     go_roundg (xs.length - (kk+1))
     case measure=>omega
     case rel =>
      refine ⟨kk+1,by omega,by omega,by go_num,hb',(show Aside _ from fun j a hj ha=>?_)⟩
      by_cases e:j=kk
      ·subst e;rw [show xs[j]? = some _ from B] at ha;cases ha;exact hq
      ·exact A j a (by omega) ha
  ·have hltz:¬ (kk:Int) < (xs.length:Int):=by omega
   have:kk=xs.length:=by omega
   subst this
   go_wp2
   go_ret
   refine ⟨?_,BW⟩
   have hr:(-1:Int)=r:=HI.out.Qm fun a ha=>by
    obtain ⟨j,hj⟩:=List.getElem?_of_mem ha;exact A j a (List.getElem?_eq_some_iff.1 hj).1 hj
   rw [←hr];rfl
theorem mO {b:Nat} {T:TypeId} {fr:Nat×Nat} (hfr:fr=(0,0)):∀ (vs:List Value) (o:Nat) {w:World} {cur:Array Value},w.heap[b]? = some (.cells cur T fr)→∃ cur':Array Value,(w.setCells b o vs).heap[b]? = some (.cells cur' T fr)∧cur'.size=cur.size
 | [],_,_,cur,h=>⟨cur,h,rfl⟩
 | v :: vs,o,w,cur,h=>by
   subst hfr;obtain ⟨cur',h1,h2⟩:=mO (w:=w.setCell ⟨b,o,none⟩ v) rfl vs (o+1) (heap_setCell_same _ _ _ _ _ _ h);exact ⟨cur',h1,by rw [h2];simp⟩
theorem setCells_size {b:Nat}:∀ (vs:List Value) (o:Nat) {w:World},(w.setCells b o vs).heap.size=w.heap.size
 | [],_,_=>rfl
 | v :: vs,o,w=>by
   show ((w.setCell ⟨b,o,none⟩ v).setCells b (o+1) vs).heap.size=_
   rw [setCells_size vs];simp [World.setCell]
theorem pR {b k:Nat} (h:k≠b):∀ (vs:List Value) (o:Nat) {w:World},(w.setCells b o vs).heap[k]? = w.heap[k]?
 | [],_,_=>rfl
 | v :: vs,o,w=>by
   show ((w.setCell ⟨b,o,none⟩ v).setCells b (o+1) vs).heap[k]? = _
   rw [pR h vs,heap_setCell_other _ _ _ _ h]
structure kN (w0:World) (b:Nat) (T:TypeId) (m:Nat) (ks:List Int) (xs:List Ac) (j:Nat) (w:World):Prop where
 but:lY (fun k=>k=b) w0 w
 row:∃ cur:Array Value,w.heap[b]? = some (.cells cur T (0,0))∧cur.size=m
 low:jg w b 0 ((xs.take j).filter fun a=>!jy ks a)
 high:jg w b j (xs.drop j)
theorem tu {w:World} {b:Nat} {T:TypeId} {cur:Array Value} (h:w.heap[b]? = some (.cells cur T (0,0))) {o n:Nat} (hn:o+n≤cur.size):w.there b o n:=fun j hj =>
 ⟨by rw [cell_of_row _ _ _ _ _ _ h,Array.getElem?_eq_getElem (by omega)];rfl,frozen_of_row _ _ _ _ _ h⟩
def gu (ks:List Int) (xs:List Ac):List Ac:=xs.filter fun a=>!jy ks a
theorem kV {ks:List Int} {xs:List Ac} {j:Nat} {y:Ac} (hy:xs[j]? = some y):gu ks (xs.take (j+1))=gu ks (xs.take j) ++ if jy ks y=true then [] else [y]:=by
 unfold gu;rw [List.take_add_one,hy,List.filter_append];cases h:jy ks y <;> simp [h]
theorem PK {w w':World} {arr:Array Value} {T:TypeId} (h:Below (w.alloc (.cells arr T)).heap.size (w.alloc (.cells arr T)) w'):w'.heap[w.heap.size]? = some (.cells arr T (0,0)):=by
 rw [h.block w.heap.size (by simp)];exact heap_alloc_new w _
theorem U3 {w w':World} {v0 v1 v2 v3 v4 v5 v6 v7 v8 v9 v10:Value} {T:TypeId} (h:Below (w.alloc (.cells #[v0,v1,v2,v3,v4,v5,v6,v7,v8,v9,v10] T)).heap.size (w.alloc (.cells #[v0,v1,v2,v3,v4,v5,v6,v7,v8,v9,v10] T)) w'):w'.cell? ⟨w.heap.size,0,none⟩=some v0∧w'.cell? ⟨w.heap.size,1,none⟩=some v1∧w'.cell? ⟨w.heap.size,2,none⟩=some v2∧w'.cell? ⟨w.heap.size,3,none⟩=some v3∧w'.cell? ⟨w.heap.size,4,none⟩=some v4∧w'.cell? ⟨w.heap.size,5,none⟩=some v5∧w'.cell? ⟨w.heap.size,6,none⟩=some v6∧w'.cell? ⟨w.heap.size,7,none⟩=some v7∧w'.cell? ⟨w.heap.size,8,none⟩=some v8∧w'.cell? ⟨w.heap.size,9,none⟩=some v9∧w'.cell? ⟨w.heap.size,10,none⟩=some v10:=by
 have hn:=PK h;exact ⟨cell_of_row _ _ _ _ _ _ hn,cell_of_row _ _ _ _ _ _ hn,cell_of_row _ _ _ _ _ _ hn,cell_of_row _ _ _ _ _ _ hn,cell_of_row _ _ _ _ _ _ hn,cell_of_row _ _ _ _ _ _ hn,cell_of_row _ _ _ _ _ _ hn,cell_of_row _ _ _ _ _ _ hn,cell_of_row _ _ _ _ _ _ hn,cell_of_row _ _ _ _ _ _ hn,cell_of_row _ _ _ _ _ _ hn⟩
theorem Rq {w:World} {b o:Nat} (h:w.there b o 11):∃ u0 u1 u2 u3 u4 u5 u6 u7 u8 u9 u10,(w.cell? ⟨b,o,none⟩=some u0∧w.cell? ⟨b,o+1,none⟩=some u1∧w.cell? ⟨b,o+2,none⟩=some u2∧w.cell? ⟨b,o+3,none⟩=some u3∧w.cell? ⟨b,o+4,none⟩=some u4∧w.cell? ⟨b,o+5,none⟩=some u5∧w.cell? ⟨b,o+6,none⟩=some u6∧w.cell? ⟨b,o+7,none⟩=some u7∧w.cell? ⟨b,o+8,none⟩=some u8∧w.cell? ⟨b,o+9,none⟩=some u9∧w.cell? ⟨b,o+10,none⟩=some u10)∧w.frozen? ⟨b,o,none⟩=false∧w.frozen? ⟨b,o+1,none⟩=false∧w.frozen? ⟨b,o+2,none⟩=false∧w.frozen? ⟨b,o+3,none⟩=false∧w.frozen? ⟨b,o+4,none⟩=false∧w.frozen? ⟨b,o+5,none⟩=false∧w.frozen? ⟨b,o+6,none⟩=false∧w.frozen? ⟨b,o+7,none⟩=false∧w.frozen? ⟨b,o+8,none⟩=false∧w.frozen? ⟨b,o+9,none⟩=false∧w.frozen? ⟨b,o+10,none⟩=false:=by
 obtain ⟨u0,e0⟩:=Option.isSome_iff_exists.1 (h 0 (by decide)).1;obtain ⟨u1,e1⟩:=Option.isSome_iff_exists.1 (h 1 (by decide)).1;obtain ⟨u2,e2⟩:=Option.isSome_iff_exists.1 (h 2 (by decide)).1;obtain ⟨u3,e3⟩:=Option.isSome_iff_exists.1 (h 3 (by decide)).1;obtain ⟨u4,e4⟩:=Option.isSome_iff_exists.1 (h 4 (by decide)).1;obtain ⟨u5,e5⟩:=Option.isSome_iff_exists.1 (h 5 (by decide)).1;obtain ⟨u6,e6⟩:=Option.isSome_iff_exists.1 (h 6 (by decide)).1;obtain ⟨u7,e7⟩:=Option.isSome_iff_exists.1 (h 7 (by decide)).1;obtain ⟨u8,e8⟩:=Option.isSome_iff_exists.1 (h 8 (by decide)).1;obtain ⟨u9,e9⟩:=Option.isSome_iff_exists.1 (h 9 (by decide)).1;obtain ⟨u10,e10⟩:=Option.isSome_iff_exists.1 (h 10 (by decide)).1
 exact ⟨u0,u1,u2,u3,u4,u5,u6,u7,u8,u9,u10,⟨e0,e1,e2,e3,e4,e5,e6,e7,e8,e9,e10⟩,(h 0 (by decide)).2,(h 1 (by decide)).2,(h 2 (by decide)).2,(h 3 (by decide)).2,(h 4 (by decide)).2,(h 5 (by decide)).2,(h 6 (by decide)).2,(h 7 (by decide)).2,(h 8 (by decide)).2,(h 9 (by decide)).2,(h 10 (by decide)).2⟩
theorem nS {w w':World} {o:Obj} (h:Below (w.alloc o).heap.size (w.alloc o) w'):Below w.heap.size w w':=((Below.refl w.heap.size w).alloc (Nat.le_refl _) o).trans (h.mono (by simp))
theorem lY.below {fp:Nat→Prop} {a b c:World} (h:lY fp a b) (k:Below b.heap.size b c):lY fp a c :=
 ⟨k.os.trans h.os,k.tape.trans h.tape,k.output.trans h.output,Nat.le_trans h.size k.size,fun i hi hn=>(k.block i (Nat.lt_of_lt_of_le hi h.size)).trans (h.block i hi hn)⟩
theorem lY.cells {b:Nat} {a w:World} (h:lY (fun k=>k=b) a w) (vs:List Value) (o:Nat):lY (fun k=>k=b) a (w.setCells b o vs):=by
 have hk:(w.setCells b o vs).os=w.os∧(w.setCells b o vs).tape=w.tape∧(w.setCells b o vs).output=w.output:=by
  induction vs generalizing o w with
  | nil=>exact ⟨rfl,rfl,rfl⟩
  | cons v vs ih =>
    have h':lY (fun k=>k=b) a (w.setCell ⟨b,o,none⟩ v):=⟨h.os,h.tape,h.output,by simpa [World.setCell] using h.size,fun k q1 q2=>(heap_setCell_other _ _ _ _ q2).trans (h.block k q1 q2)⟩;exact ih h' (o+1)
 exact ⟨hk.1.trans h.os,hk.2.1.trans h.tape,hk.2.2.trans h.output,by rw [setCells_size];exact h.size,fun k q1 q2=>by rw [pR q2];exact h.block k q1 q2⟩
section
variable {w0 wr w':World} {b m:Nat} {T:TypeId} {ks:List Int} {xs:List Ac} {j:Nat}
theorem kN.below (h:kN w0 b T m ks xs j wr) (hb:Below wr.heap.size wr w'):kN w0 b T m ks xs j w':=by
 obtain ⟨cur,hc,hs⟩:=h.row
 have hlt:b < wr.heap.size:=by
  rcases Nat.lt_or_ge b wr.heap.size with q | q
  ·exact q
  ·rw [Array.getElem?_eq_none q] at hc;cases hc
 exact ⟨h.but.below hb,⟨cur,(hb.block b hlt).trans hc,hs⟩,h.low.below hb hlt,h.high.below hb hlt⟩
theorem yA {t:Nat} {a:Ac} (h:(xs.drop (j+1))[t]? = some a):(xs.drop j)[t+1]? = some a:=by
 rw [List.getElem?_drop] at h ⊢
 rwa [show j+(t+1)=j+1+t by omega]
theorem kN.skip (h:kN w0 b T m ks xs j wr) {y:Ac} (hy:xs[j]? = some y) (hq:jy ks y=true):kN w0 b T m ks xs (j+1) wr :=
 ⟨h.but,h.row,by show jg wr b 0 (gu ks (xs.take (j+1)));rw [kV hy,if_pos hq,List.append_nil];exact h.low,fun t a ha=>by
  have:=h.high (t+1) a (yA ha)
  rwa [show j+1+t=j+(t+1) by omega]⟩
theorem kN.keep (h:kN w0 b T m ks xs j wr) {y:Ac} (hy:xs[j]? = some y) (hq:jy ks y=false) {i:Nat} (hi:i=(gu ks (xs.take j)).length) (hij:i < j) (hm:xs.length * 11≤m):kN w0 b T m ks xs (j+1) (wr.setCells b (i * 11) y.cells):=by
 obtain ⟨cur,hc,hs⟩:=h.row;have hjl:=(List.getElem?_eq_some_iff.1 hy).1;have hth:wr.there b (i * 11) y.cells.length:=tu hc (by rw [y.gV];omega)
 refine ⟨h.but.cells _ _,?_,?_,fun t a ha=>?_⟩
 ·obtain ⟨cur',h1,h2⟩:=mO rfl y.cells (i * 11) hc;exact ⟨cur',h1,by rw [h2,hs]⟩
 ·show jg _ b 0 (gu ks (xs.take (j+1)))
  rw [kV hy,hq,if_neg (by decide)];intro t a ha
  rcases Nat.lt_or_ge t i with hlt | hge
  ·rw [List.getElem?_append_left (by omega)] at ha;refine World.rangeAt_setCells_apart (h.low t a ha) _ _ _ (.inr (.inl ?_));rw [a.gV];omega
  ·rw [List.getElem?_append_right (by omega)] at ha
   have:t - (gu ks (xs.take j)).length=0:=by
    have:=(List.getElem?_eq_some_iff.1 ha).1;simp at this;omega
   rw [this] at ha;cases ha;have:t=i:=by omega
   subst this;rw [Nat.zero_add];exact World.rangeAt_setCells_same _ _ _ _ hth
 ·have:=h.high (t+1) a (yA ha);refine World.rangeAt_setCells_apart (by rwa [show j+1+t=j+(t+1) by omega]) _ _ _ (.inr (.inr ?_));rw [y.gV];omega
theorem kN.clear (h:kN w0 b T m ks xs xs.length wr) {i:Nat} (hi:i=(gu ks (xs.take xs.length)).length) (zs:List Value):kN w0 b T m ks xs xs.length (wr.setCells b (i * 11) zs):=by
 obtain ⟨cur,hc,hs⟩:=h.row;refine ⟨h.but.cells _ _,?_,fun t a ha=>?_,fun t a ha=>?_⟩
 ·obtain ⟨cur',h1,h2⟩:=mO rfl zs (i * 11) hc;exact ⟨cur',h1,by rw [h2,hs]⟩
 ·have ht:=(List.getElem?_eq_some_iff.1 ha).1;have hil:t < i:=by rw [hi];exact ht
  refine World.rangeAt_setCells_apart (h.low t a ha) _ _ _ (.inr (.inl ?_));rw [a.gV];omega
 ·rw [List.drop_length] at ha;simp at ha
end
theorem xP {P:Program} (w:World) (t e ty:TypeId) (z:Value) (ht:P.underlying t=some (.slice e)) (hv:∀ w,(zeroValue e).run P w=.ok z w) (h1:∀ v ∈ z.cells,v.oneCell'=true) (hz:0 < z.cells.size) (b o n c:Nat) (hn:0 < n) (hth:w.there b o (n * z.cells.size)) :
 ∃ zs,zs.length=n * z.cells.size∧(Builtin.clear_ #[t] ty #[.slice (some ⟨b,o,none⟩) n c]).run P w=.ok (.tuple #[]) (w.setCells b o zs):=by
 have hl:(Builtin.zeroCells z.cells n).toList.length=n * z.cells.size:=by rw [Array.length_toList];exact size_zeroCells _ _
 refine ⟨(Builtin.zeroCells z.cells n).toList,hl,?_⟩
 have hst:=run_storeCells_cells (P:=P) b o (Builtin.zeroCells z.cells n).toList 0 w (fun j hj=>by rw [Nat.add_zero];exact (hth j (by omega)).1) (fun j hj=>by rw [Nat.add_zero];exact (hth j (by omega)).2) (fun v hv'=>by
  unfold Builtin.zeroCells at hv';simp only [Array.toList_map,List.mem_map] at hv';obtain ⟨i,_,rfl⟩:=hv';have hlt:=Nat.mod_lt i hz;rw [getElem!_pos z.cells (i % z.cells.size) hlt];exact h1 _ (Array.getElem_mem hlt))
 simp only [Nat.add_zero] at hst;obtain ⟨k,rfl⟩:∃ k,n=k+1:=⟨n - 1,by omega⟩
 simp [Builtin.clear_,run_underlying ht,hv,hst]
theorem del_walk {xs:List Ac} {b bk cap:Nat} {T:TypeId} {ks:List Int} (w:World) (cur:Array Value) (hrow:w.heap[b]? = some (.cells cur T (0,0))) (hm:cur.size=cap * 11) (hcap:xs.length≤cap) (hr:jg w b 0 xs) (hk:w.rangeAt bk 0 (G5 ks)) (hl:ks.length=8) (hg:∀ a ∈ xs,NW a) (hlen:xs.length≤1000000) (hne:bk≠b) (hbk:bk < w.heap.size) :
 Calls Try.prog 109 #[.slice (some ⟨b,0,none⟩) xs.length cap,.func (.func 110) #[] #[.pointer (some ⟨bk,0,none⟩)]] w fun e w' =>
  e=.returned (.slice (some ⟨b,0,none⟩) (gu ks xs).length cap)∧kN w b T cur.size ks xs xs.length w':=by
 have hb:b < w.heap.size:=by
  rcases Nat.lt_or_ge b w.heap.size with q | q
  ·exact q
  ·rw [Array.getElem?_eq_none q] at hrow;cases hrow
 obtain ⟨r,hi⟩:=uX.ex ks xs;have hidx:=MG (cap:=cap) hi w hr hk hl hg hlen hb hbk
 rcases hi with ⟨rfl,hall⟩ | ⟨k,hkl,rfl,hoff,hbef⟩
 ·have hf:gu ks xs=xs:=List.filter_eq_self.2 fun a ha=>by rw [hall a ha];rfl
  have H:Aside (∀ w',Below w.heap.size w w'→kN w b T cur.size ks xs xs.length w'):=fun w' hb'=>⟨⟨hb'.os,hb'.tape,hb'.output,hb'.size,fun k hk _=>hb'.block k hk⟩,⟨cur,(hb'.block b hb).trans hrow,rfl⟩,by rw [List.take_length];show jg w' b 0 (gu ks xs);rw [hf];exact hr.below hb' hb,by rw [List.drop_length];intro t a ha;simp at ha⟩
  rw [hf];clear hr hk hg hrow hall hf
  go_enter Try.func109,Try.ntmps109
  go_wp2_with (go_at_call 114;refine hidx.mono ?_;rintro e w' ⟨rfl,hb'⟩)
  go_ret
  exact ⟨rfl,H _ hb'⟩
 ·obtain ⟨y0,hy0⟩:∃ y0,xs[k]? = some y0:=⟨_,List.getElem?_eq_getElem hkl⟩
  have hkk:gu ks (xs.take k)=xs.take k:=List.filter_eq_self.2 fun a ha=>by
   obtain ⟨j,hj⟩:=List.getElem?_of_mem ha;rw [List.getElem?_take] at hj;split at hj
   ·rename_i hjk;rw [hbef j a hjk hj];rfl
   ·cases hj
  have hk1:gu ks (xs.take (k+1))=xs.take k:=by rw [kV hy0,hoff _ hy0,if_pos rfl,List.append_nil,hkk]
  have hkl1:(gu ks (xs.take (k+1))).length=k:=by rw [hk1,List.length_take];omega
  have HS:Aside (∀ w',Below w.heap.size w w'→kN w b T cur.size ks xs (k+1) w'):=fun w' hb'=>by
   refine ⟨⟨hb'.os,hb'.tape,hb'.output,hb'.size,fun k hk _=>hb'.block k hk⟩,⟨cur,(hb'.block b hb).trans hrow,rfl⟩,?_,?_⟩
   ·show jg w' b 0 (gu ks (xs.take (k+1)))
    rw [hk1];intro t a ha;rw [List.getElem?_take] at ha;split at ha
    ·exact (hr.below hb' hb) t a ha
    ·cases ha
   ·intro t a ha;rw [List.getElem?_drop] at ha;have:=(hr.below hb' hb) _ a ha
    rwa [Nat.zero_add] at this
  have HK:=Lib.hid hk;have HG:=Lib.hid hg;have HM:=Lib.hid (And.intro hm hcap);have HL:=Lib.hid hl;clear hr hk hg hrow hoff hbef hkk hk1 hy0 hm hcap hl
  go_enter Try.func109,Try.ntmps109
  go_wp2_with (go_at_call 114;refine hidx.mono ?_;rintro e w' ⟨rfl,hb'⟩)
  have HB:=Lib.hid hb';clear hb'
  go_loopg [5,6,7] xs.length (fun gg s5 s6 _ wr=>∃ (i j:Nat),s5=.int .i64 i∧s6=.int .i64 j∧j≤xs.length∧xs.length - j≤gg∧Aside (i=(gu ks (xs.take j)).length∧i < j)∧Aside (kN w b T cur.size ks xs j wr))
  case atStart=>exact ⟨k,k+1,rfl,by go_num,by omega,by omega,⟨hkl1.symm,by omega⟩,HS _ HB.out⟩
  case round =>
   obtain ⟨i,j,rfl,rfl,hjl,hgg,⟨hi,hij⟩,D⟩:=hrel
   by_cases hlt:j < xs.length
   ·have hltz:(j:Int) < (xs.length:Int):=by omega
    obtain ⟨y,hy⟩:∃ y,xs[j]? = some y:=⟨_,List.getElem?_eq_getElem hlt⟩
    have l2:=D.high 0 y (by rw [List.getElem?_drop,Nat.add_zero];exact hy)
    rw [Nat.add_zero] at l2
    have kr:wr.rangeAt bk 0 (G5 ks):=fun q v hv=>by
     rw [World.cell?_of_block (w:=w) (D.but.block bk hbk hne)];exact HK.out q v hv
    have hcl:∀ W,Below wr.heap.size wr W→Calls Try.prog 110 #[y.val,.pointer (some ⟨bk,0,none⟩)] W fun r w'=>r=.returned (.bool (jy ks y))∧Below W.heap.size W w':=fun W hW =>
     VE W (lM kr hW (Nat.lt_of_lt_of_le hbk D.but.size)) HL.out (HG.out y (List.mem_of_getElem? hy))
    have B:Aside (xs[j]? = some y):=hy;have I:Aside (i=(gu ks (xs.take j)).length∧i < j):=⟨hi,hij⟩;obtain ⟨⟨q0,q1,q2,q3⟩,⟨q4,q5,q6,q7⟩,q8,q9,q10⟩:=CB l2;clear kr hy l2 hi hij hkl1;obtain ⟨⟨g,kind,obj,off,k,n,fn,pc,stack⟩,ix,m⟩:=y;unfold Ac.val Ac.cells Ev.cells at hcl;dsimp only [List.cons_append,List.nil_append] at hcl q0 q1 q2 q3 q4 q5 q6 q7 q8 q9 q10;have HC:=Lib.hid hcl;clear hcl
    cases hq:jy ks ⟨⟨g,kind,obj,off,k,n,fn,pc,stack⟩,ix,m⟩ with
    | true =>
      rw [hq] at HC
      go_wp2_with (go_at_call 110;refine (HC.out _ ((Below.refl wr.heap.size wr).alloc (Nat.le_refl _) _)).mono ?_;rintro e w' ⟨rfl,hb'⟩)
      go_roundg (xs.length - (j+1))
      case measure=>omega
      case rel=>exact ⟨i,j+1,rfl,by go_num,by omega,Nat.le_refl _,⟨by rw [kV B,if_pos hq,List.append_nil];exact I.1,by have:=I.2;omega⟩,(D.below (nS hb')).skip B hq⟩
    | false =>
      rw [hq] at HC;have hil:i < xs.length:=by have:=I.2;omega
      have hiz:(0:Int)≤(i:Int)∧(i:Int) < (xs.length:Int):=by omega
      have hth:∀ w',Below (wr.alloc (.cells #[.int .i64 g,.int .i64 kind,.int .i64 obj,.int .i64 off,.int .i64 k,.int .i64 n,.int .i64 fn,.int .i64 pc,.int .i64 stack,.int .i64 ix,.int .i64 m] 133)).heap.size (wr.alloc (.cells #[.int .i64 g,.int .i64 kind,.int .i64 obj,.int .i64 off,.int .i64 k,.int .i64 n,.int .i64 fn,.int .i64 pc,.int .i64 stack,.int .i64 ix,.int .i64 m] 133)) w'→w'.there b (i * 11) 11:=fun w' hb'=>by
       obtain ⟨cur',h1,h2⟩:=(D.below (nS hb')).row;refine tu h1 ?_;have:=HM.out;omega
      have HT:=Lib.hid hth;clear hth
      go_wp2_with (go_at_call 110;refine (HC.out _ ((Below.refl wr.heap.size wr).alloc (Nat.le_refl _) _)).mono ?_;rintro e w' ⟨rfl,hb'⟩;obtain ⟨c0,c1,c2,c3,c4,c5,c6,c7,c8,c9,c10⟩:=U3 hb';obtain ⟨v0,v1,v2,v3,v4,v5,v6,v7,v8,v9,v10,⟨o0,o1,o2,o3,o4,o5,o6,o7,o8,o9,o10⟩,f0,f1,f2,f3,f4,f5,f6,f7,f8,f9,f10⟩:=Rq (HT.out w' hb');have HB':=Lib.hid hb';clear hb')
      go_roundg (xs.length - (j+1))
      case measure=>omega
      case rel =>
       refine ⟨i+1,j+1,by go_num,by go_num,by omega,Nat.le_refl _,⟨?_,?_⟩,?_⟩
       ·rw [kV B,hq,if_neg (by decide),List.length_append,I.1];rfl
       ·have:=I.2;omega
       ·exact (D.below (nS HB'.out)).keep (y:=⟨⟨g,kind,obj,off,k,n,fn,pc,stack⟩,ix,m⟩) B hq I.1 I.2 (by have:=HM.out;omega)
   ·have hjn:j=xs.length:=by omega
    subst hjn;have hltz:¬ (xs.length:Int) < (xs.length:Int):=by omega
    have hil:i < xs.length:=hij;have hc2:=HM.out.2;have hsl:¬ ((xs.length:Int) < (i:Int))∧(0:Int)≤(i:Int):=by omega
    have hzz:∃ z,(∀ w,(zeroValue 133).run Try.prog w=.ok z w)∧(∀ v ∈ z.cells,v.oneCell'=true)∧z.cells.size=11 :=
     ⟨.agg #[.int .i64 0,.int .i64 0,.int .i64 0,.int .i64 0,.int .i64 0,.int .i64 0,.int .i64 0,.int .i64 0,.int .i64 0,.int .i64 0,.int .i64 0],fun w=>by kernel_rfl,fun v hv=>by simp [Value.cells] at hv;rw [hv];rfl,rfl⟩
    obtain ⟨z,hz1,hz2,hz3⟩:=hzz;obtain ⟨cur',hcr,hcs⟩:=D.row
    obtain ⟨zs,hzl,hrun⟩:∃ zs,zs.length=(xs.length - i) * 11∧∀ ty,(Builtin.clear_ #[131] ty #[.slice (some ⟨b,i * 11,none⟩) (xs.length - i) (cap - i)]).run Try.prog wr=.ok (.tuple #[]) (wr.setCells b (i * 11) zs):=by
     obtain ⟨zs,h1,h2⟩:=xP (P:=Try.prog) wr 131 133 0 z Try.underlying131 hz1 hz2 (by omega) b (i * 11) (xs.length - i) (cap - i) (by omega) (tu hcr (by have:=HM.out;rw [hz3];omega))
     exact ⟨zs,by rw [h1,hz3],fun ty=>h2⟩
    have HE:Aside (kN w b T cur.size ks xs xs.length (wr.setCells b (i * 11) zs)):=D.clear hi zs;have HI:Aside (i=(gu ks xs).length):=by rw [hi,List.take_length];rfl
    clear hi hij hcr hcs hz1 hz2 hz3 hzl hlen hkl1
    go_wp2
    go_ret
    refine ⟨?_,HE⟩;rw [←show i=(gu ks xs).length from HI];rfl
end Go.Proofs.Ytffcpijeebagfaa
end
section
namespace Go.Proofs.Ytffcpijeebagfaa
open Go Go.RowKit
set_option maxRecDepth 100000
def pct34 : PC := .seq (.reg false [⟨(some 0), .mv (.v (.pointer none)), none, []⟩]) (.seq (.reg false [⟨(some 1), .callh 19 [], none, []⟩, ⟨(some 2), .hal 3 (.map 117), none, []⟩, ⟨(some 3), .hal 4 (.map 3), none, []⟩, ⟨(some 4), .build [(.pointer none), (.int .i64 0), (.int .i64 0), (.int .i64 0), (.int .i64 0), (.int .i64 0), (.int .i64 0), (.int .i64 0), (.int .i64 0), (.int .i64 0), (.int .i64 0), (.int .i64 0), (.int .i64 0), (.int .i64 0), (.int .i64 0), (.int .i64 0), (.int .i64 0), (.int .i64 0), (.int .i64 0), (.int .i64 0), (.int .i64 0), (.int .i64 0), (.int .i64 0), (.int .i64 0), (.int .i64 0), (.int .i64 0), (.int .i64 0), (.int .i64 0), (.int .i64 0), (.int .i64 0), (.int .i64 0), (.int .i64 0), (.int .i64 0), (.int .i64 0), (.int .i64 0), (.int .i64 0), (.int .i64 0), (.int .i64 0), (.int .i64 0), (.int .i64 0), (.int .i64 0), (.int .i64 0), (.int .i64 0), (.int .i64 0), (.int .i64 0), (.int .i64 0), (.int .i64 0), (.int .i64 0), (.int .i64 0), (.int .i64 0), (.int .i64 0), (.int .i64 0), (.int .i64 0), (.int .i64 0), (.int .i64 0), (.int .i64 0), (.int .i64 0), (.int .i64 0), (.int .i64 0), (.int .i64 0), (.int .i64 0), (.int .i64 0), (.int .i64 0), (.int .i64 0), (.int .i64 0), (.map none), (.map none)] [(0, 1, (.t 1)), (65, 1, (.t 2)), (66, 1, (.t 3))], none, [0, 1, 2]⟩, ⟨(some 5), .hal 6 (.box (.t 4)), none, [3]⟩, ⟨(some 0), .mv (.t 5), none, [4, 0, 0, 1, 2, 3, 4]⟩]) (.ret))
def prt34 : List PR := [.t 0]
def ntt34:Nat:=6
def flt34 : List (Nat × List Bool) := [(5000005, List.replicate 1 false), (6000019, List.replicate 1 false)]
theorem bdt34:Try.f34.body=some (Try.f34.body.getD .skip):=by kernel_rfl
theorem cpt34:bK Try.prog Try.f34.ntmps (iE ++ flt34) (Try.f34.body.getD .skip)=some pct34:=by kernel_rfl
theorem spt34 [dH] {env:Env} (hE:aG Try.prog env) {R:(Nat→Hb)→List Hw→(Nat→Hb)→List Hw→Prop} (hR:∀ hp az hp' rs,R hp az hp' rs→az.length≤6∧∃ nc,pwp env pct34 (fun e s=>(e=.normal∨e=.ret)∧s.iw prt34=some rs∧s.hb=hp') (St.gB nc hp az)):iF Try.prog 34 R :=
 gX hE (uT dO (by kernel_rfl)) bF Try.func34 bdt34 cpt34 (by kernel_rfl) (by kernel_rfl) (by kernel_rfl) hR
def pct35 : PC := .seq (.reg false [⟨(some 4), .new [(.int .i64 0), (.int .i64 0), (.int .i64 0), (.int .i64 0), (.int .i64 0), (.int .i64 0), (.int .i64 0), (.int .i64 0)], none, []⟩]) (.seq (.seq (.reg false [⟨(some 5), .mv (.t 0), none, []⟩, ⟨(some 6), .pnil false (.t 5), none, [0]⟩, ⟨(some 7), .mv (.t 6), none, [1]⟩, ⟨(some 8), .mv (.t 1), (some (7, false)), [2]⟩, ⟨(some 9), .bin .lss (.t 8) (.v (.int .i64 0)), (some (7, false)), [3, 2]⟩, ⟨(some 10), .pick (.t 7) (.v (.bool true)) (.t 9), none, [2, 4]⟩, ⟨(some 11), .mv (.t 10), none, [5, 2]⟩, ⟨(some 12), .mv (.t 1), (some (11, false)), [6]⟩, ⟨(some 13), .bin .geq (.t 12) (.v (.int .i64 8)), (some (11, false)), [7, 6]⟩, ⟨(some 14), .pick (.t 11) (.v (.bool true)) (.t 13), none, [6, 8]⟩]) (.cond (.t 14) (.seq (.reg false [⟨(some 15), .build [(.int .i64 0), (.int .i64 0), (.int .i64 0), (.int .i64 0), (.int .i64 0), (.int .i64 0), (.int .i64 0), (.int .i64 0)] [], none, []⟩, ⟨none, .store 8 (.t 4) (.t 15), none, [0, 0]⟩]) (.ret)) (.skip))) (.seq (.reg false [⟨(some 16), .mv (.t 0), none, []⟩, ⟨(some 17), .mv (.t 1), none, []⟩, ⟨(some 18), .nilck (.t 16), none, [0]⟩, ⟨(some 19), .fld 1 (.t 18), none, [2]⟩, ⟨(some 20), .ixa 8 8 (.t 19) (.t 17), none, [3, 1]⟩, ⟨(some 21), .load (some 8) (.t 20), none, [4]⟩, ⟨none, .store 8 (.t 4) (.t 21), none, [5, 0, 1, 2, 3, 4, 5]⟩]) (.ret)))
def prt35 : List PR := [.c 4 (some 8)]
def ntt35:Nat:=22
def flt35 : List (Nat × List Bool) := []
theorem bdt35:Try.f35.body=some (Try.f35.body.getD .skip):=by kernel_rfl
theorem cpt35:bK Try.prog Try.f35.ntmps (iE ++ flt35) (Try.f35.body.getD .skip)=some pct35:=by kernel_rfl
theorem spt35 [dH] {env:Env} (hE:aG Try.prog env) {R:(Nat→Hb)→List Hw→(Nat→Hb)→List Hw→Prop} (hR:∀ hp az hp' rs,R hp az hp' rs→az.length≤22∧∃ nc,pwp env pct35 (fun e s=>(e=.normal∨e=.ret)∧s.iw prt35=some rs∧s.hb=hp') (St.gB nc hp az)):iF Try.prog 35 R :=
 gX hE (uT dO (by kernel_rfl)) bF Try.func35 bdt35 cpt35 (by kernel_rfl) (by kernel_rfl) (by kernel_rfl) hR
def pct36c0 : PC := .seq (.reg false [⟨(some 121), .load none (.t 2), none, []⟩, ⟨(some 122), .load (some 9) (.t 3), none, []⟩, ⟨(some 123), .load (some 2) (.t 7), none, []⟩, ⟨(some 124), .load (some 8) (.t 6), none, []⟩, ⟨(some 125), .callh 81 [(.t 121), (.t 122), (.t 123), (.t 124)], none, [0, 1, 2, 3]⟩]) (.seq (.reg true [⟨(some 126), .load none (.t 2), none, []⟩, ⟨(some 127), .fld 0 (.t 3), none, []⟩, ⟨(some 128), .load none (.t 127), none, [1]⟩, ⟨(some 129), .load (some 8) (.t 6), none, []⟩, ⟨(some 130), .nilck (.t 126), none, [0]⟩, ⟨(some 131), .fld 1 (.t 130), none, [4]⟩, ⟨(some 132), .ixa 8 8 (.t 131) (.t 128), none, [5, 2, 0, 1, 2, 3]⟩, ⟨none, .store 8 (.t 132) (.t 129), none, [6, 3, 0, 1, 2, 3]⟩]) (.seq (.reg false [⟨(some 133), .load (some 8) (.t 6), none, []⟩, ⟨none, .store 8 (.t 4) (.t 133), none, [0, 0]⟩, ⟨(some 5), .mv (.v (.int .i64 0)), none, [1, 0, 1]⟩]) (.ret)))
def pct36c1 : PC := .seq (.reg false [⟨(some 46), .fld 1 (.t 3), none, []⟩, ⟨(some 47), .load none (.t 46), none, [0]⟩]) (.block 1 (.seq (.reg false [⟨(some 49), .bin .eql (.t 47) (.v (.int .i64 6)), none, []⟩, ⟨(some 48), .mv (.t 49), none, [0]⟩]) (.cond (.t 48) (.seq (.reg false [⟨(some 50), .mv (.t 8), none, []⟩, ⟨(some 51), .callc (.t 50) 78 [(.v (.int .i64 0))], none, [0]⟩]) (.reg false [⟨(some 52), .mv (.t 8), none, []⟩, ⟨(some 53), .callc (.t 52) 78 [(.v (.int .i64 1))], none, [0]⟩])) (.seq (.reg false [⟨(some 55), .bin .eql (.t 47) (.v (.int .i64 8)), none, []⟩, ⟨(some 54), .mv (.t 55), none, [0]⟩]) (.cond (.t 54) (.reg false [⟨(some 56), .mv (.t 8), none, []⟩, ⟨(some 57), .callc (.t 56) 78 [(.v (.int .i64 0))], none, [0]⟩]) (.seq (.reg false [⟨(some 59), .bin .eql (.t 47) (.v (.int .i64 11)), none, []⟩, ⟨(some 58), .mv (.t 59), none, [0]⟩]) (.cond (.t 58) (.reg false [⟨(some 60), .mv (.t 8), none, []⟩, ⟨(some 61), .callc (.t 60) 78 [(.v (.int .i64 2))], none, [0]⟩]) (.seq (.reg false [⟨(some 63), .bin .eql (.t 47) (.v (.int .i64 13)), none, []⟩, ⟨(some 62), .mv (.t 63), none, [0]⟩]) (.cond (.t 62) (.reg false [⟨(some 64), .mv (.t 8), none, []⟩, ⟨(some 65), .callc (.t 64) 78 [(.v (.int .i64 3))], none, [0]⟩]) (.seq (.seq (.reg false [⟨(some 67), .bin .eql (.t 47) (.v (.int .i64 3)), none, []⟩, ⟨(some 66), .mv (.t 67), none, [0]⟩]) (.cond (.t 66) (.skip) (.reg false [⟨(some 68), .bin .eql (.t 47) (.v (.int .i64 5)), none, []⟩, ⟨(some 66), .mv (.t 68), none, [0]⟩]))) (.cond (.t 66) (.reg false [⟨(some 69), .mv (.t 8), none, []⟩, ⟨(some 70), .callc (.t 69) 78 [(.v (.int .i64 4))], none, [0]⟩]) (.seq (.reg false [⟨(some 72), .bin .eql (.t 47) (.v (.int .i64 20)), none, []⟩, ⟨(some 71), .mv (.t 72), none, [0]⟩]) (.cond (.t 71) (.reg false [⟨(some 73), .mv (.t 8), none, []⟩, ⟨(some 74), .callc (.t 73) 78 [(.v (.int .i64 5))], none, [0]⟩]) (.seq (.reg false [⟨(some 76), .bin .eql (.t 47) (.v (.int .i64 18)), none, []⟩, ⟨(some 75), .mv (.t 76), none, [0]⟩]) (.cond (.t 75) (.seq (.reg false [⟨(some 77), .load none (.t 2), none, []⟩, ⟨(some 78), .fld 2 (.t 3), none, []⟩, ⟨(some 79), .load none (.t 78), none, [1]⟩, ⟨(some 80), .fld 5 (.t 3), none, []⟩, ⟨(some 81), .load none (.t 80), none, [3]⟩, ⟨(some 82), .callh 80 [(.t 77), (.t 79), (.t 81)], none, [0, 2, 4]⟩, ⟨(some 9), .new [(.slice none 0 0), (.slice none 0 0)], none, []⟩, ⟨none, .store 2 (.t 9) (.t 82), none, [6, 5, 5, 0, 1, 2, 3, 4, 5, 6]⟩]) (.reg true [⟨(some 83), .load (some 8) (.t 6), none, []⟩, ⟨(some 84), .fld 0 (.t 9), none, []⟩, ⟨(some 85), .load none (.t 84), none, [1]⟩, ⟨(some 86), .fld 4 (.t 3), none, []⟩, ⟨(some 87), .load none (.t 86), none, [3]⟩, ⟨(some 88), .fld 0 (.t 9), none, []⟩, ⟨(some 89), .load none (.t 88), none, [5]⟩, ⟨(some 90), .len (.t 89), none, [6]⟩, ⟨(some 91), .bin .rem (.t 87) (.t 90), none, [4, 7]⟩, ⟨(some 92), .ixs 8 (.t 85) (.t 91), none, [2, 8]⟩, ⟨(some 93), .load (some 8) (.t 92), none, [9]⟩, ⟨(some 94), .call 79 [(.t 83), (.t 93)], none, [0, 10]⟩, ⟨none, .store 8 (.t 6) (.t 94), none, [11, 11, 0, 1, 2, 3, 4, 5, 6, 7, 8, 9, 10, 11]⟩])) (.seq (.reg false [⟨(some 96), .bin .eql (.t 47) (.v (.int .i64 16)), none, []⟩, ⟨(some 95), .mv (.t 96), none, [0]⟩]) (.cond (.t 95) (.seq (.reg false [⟨(some 97), .fld 4 (.t 3), none, []⟩, ⟨(some 98), .load none (.t 97), none, [0]⟩, ⟨(some 99), .fld 5 (.t 3), none, []⟩, ⟨(some 100), .load none (.t 99), none, [2]⟩, ⟨(some 101), .bin .sub (.t 98) (.t 100), none, [1, 3]⟩, ⟨(some 10), .mv (.t 101), none, [4, 0, 1, 2, 3, 4]⟩]) (.seq (.reg false [⟨(some 102), .mv (.t 10), none, []⟩, ⟨(some 103), .bin .geq (.t 102) (.v (.int .i64 0)), none, [0]⟩]) (.cond (.t 103) (.seq (.reg false [⟨(some 104), .load none (.t 2), none, []⟩, ⟨(some 105), .fld 2 (.t 3), none, []⟩, ⟨(some 106), .load none (.t 105), none, [1]⟩, ⟨(some 107), .fld 5 (.t 3), none, []⟩, ⟨(some 108), .load none (.t 107), none, [3]⟩, ⟨(some 109), .callh 80 [(.t 104), (.t 106), (.t 108)], none, [0, 2, 4]⟩, ⟨(some 11), .new [(.slice none 0 0), (.slice none 0 0)], none, []⟩, ⟨none, .store 2 (.t 11) (.t 109), none, [6, 5, 5, 0, 1, 2, 3, 4, 5, 6]⟩]) (.reg true [⟨(some 110), .load (some 8) (.t 6), none, []⟩, ⟨(some 111), .fld 1 (.t 11), none, []⟩, ⟨(some 112), .load none (.t 111), none, [1]⟩, ⟨(some 113), .mv (.t 10), none, []⟩, ⟨(some 114), .fld 1 (.t 11), none, []⟩, ⟨(some 115), .load none (.t 114), none, [4]⟩, ⟨(some 116), .len (.t 115), none, [5]⟩, ⟨(some 117), .bin .rem (.t 113) (.t 116), none, [3, 6]⟩, ⟨(some 118), .ixs 8 (.t 112) (.t 117), none, [2, 7]⟩, ⟨(some 119), .load (some 8) (.t 118), none, [8]⟩, ⟨(some 120), .call 79 [(.t 110), (.t 119)], none, [0, 9]⟩, ⟨none, .store 8 (.t 6) (.t 120), none, [10, 10, 0, 1, 2, 3, 4, 5, 6, 7, 8, 9, 10]⟩])) (.skip)))) (.skip))))))))))))))))))
def pct36c2 : PC := .seq (.reg true [⟨(some 30), .load none (.t 2), none, []⟩, ⟨(some 31), .fld 0 (.t 3), none, []⟩, ⟨(some 32), .load none (.t 31), none, [1]⟩, ⟨(some 33), .nilck (.t 30), none, [0]⟩, ⟨(some 34), .fld 1 (.t 33), none, [3]⟩, ⟨(some 35), .ixa 8 8 (.t 34) (.t 32), none, [4, 2]⟩, ⟨(some 36), .load (some 8) (.t 35), none, [5]⟩, ⟨(some 37), .fld 0 (.t 3), none, []⟩, ⟨(some 38), .load none (.t 37), none, [7]⟩, ⟨(some 39), .call 77 [(.t 36), (.t 38)], none, [6, 8]⟩, ⟨(some 6), .hal 7 (.new [(.int .i64 0), (.int .i64 0), (.int .i64 0), (.int .i64 0), (.int .i64 0), (.int .i64 0), (.int .i64 0), (.int .i64 0)]), none, []⟩, ⟨none, .store 8 (.t 6) (.t 39), none, [10, 9, 9, 0, 1, 2, 3, 4, 5, 6, 7, 8, 9, 10]⟩]) (.seq (.reg false [⟨(some 40), .fld 2 (.t 3), none, []⟩, ⟨(some 41), .load none (.t 40), none, [0]⟩, ⟨(some 42), .fld 3 (.t 3), none, []⟩, ⟨(some 43), .load none (.t 42), none, [2]⟩, ⟨(some 44), .build [(.int .i64 0), (.int .i64 0)] [(0, 1, (.t 41)), (1, 1, (.t 43))], none, [1, 3]⟩, ⟨(some 7), .hal 8 (.new [(.int .i64 0), (.int .i64 0)]), none, []⟩, ⟨none, .store 2 (.t 7) (.t 44), none, [5, 4, 0, 1, 2, 3, 4, 5]⟩]) (.seq (.reg false [⟨(some 45), .mkf 78 [] [(.t 6), (.t 2), (.t 7)], none, []⟩, ⟨(some 8), .mv (.t 45), none, [0, 0]⟩]) (.seq (pct36c1) (pct36c0))))
def pct36 : PC := .seq (.reg false [⟨(some 2), .hal 3 (.box (.t 0)), none, []⟩, ⟨(some 3), .box (.t 1), none, []⟩, ⟨(some 4), .new [(.int .i64 0), (.int .i64 0), (.int .i64 0), (.int .i64 0), (.int .i64 0), (.int .i64 0), (.int .i64 0), (.int .i64 0)], none, []⟩, ⟨(some 5), .mv (.v (.int .i64 0)), none, []⟩]) (.seq (.block 0 (.seq (.reg false [⟨(some 13), .load none (.t 2), none, []⟩, ⟨(some 14), .pnil false (.t 13), none, [0]⟩, ⟨(some 12), .mv (.t 14), none, [1]⟩]) (.cond (.t 12) (.seq (.reg false [⟨(some 15), .build [(.int .i64 0), (.int .i64 0), (.int .i64 0), (.int .i64 0), (.int .i64 0), (.int .i64 0), (.int .i64 0), (.int .i64 0)] [], none, []⟩, ⟨none, .store 8 (.t 4) (.t 15), none, [0, 0]⟩, ⟨(some 5), .mv (.v (.int .i64 11)), none, [1, 0, 1]⟩]) (.ret)) (.seq (.reg false [⟨(some 17), .load (some 9) (.t 3), none, []⟩, ⟨(some 18), .call 59 [(.t 17)], none, [0]⟩, ⟨(some 19), .un .not (.t 18), none, [1]⟩, ⟨(some 16), .mv (.t 19), none, [2, 1]⟩]) (.cond (.t 16) (.seq (.reg false [⟨(some 20), .build [(.int .i64 0), (.int .i64 0), (.int .i64 0), (.int .i64 0), (.int .i64 0), (.int .i64 0), (.int .i64 0), (.int .i64 0)] [], none, []⟩, ⟨none, .store 8 (.t 4) (.t 20), none, [0, 0]⟩, ⟨(some 5), .mv (.v (.int .i64 1)), none, [1, 0, 1]⟩]) (.ret)) (.seq (.reg true [⟨(some 22), .load none (.t 2), none, []⟩, ⟨(some 23), .nilck (.t 22), none, [0]⟩, ⟨(some 24), .fld 0 (.t 23), none, [1]⟩, ⟨(some 25), .load none (.t 24), none, [2]⟩, ⟨(some 26), .load (some 9) (.t 3), none, []⟩, ⟨(some 27), .callh 21 [(.t 25), (.t 26)], none, [3, 4]⟩, ⟨(some 28), .un .not (.t 27), none, [5]⟩, ⟨(some 21), .mv (.t 28), none, [6, 5]⟩]) (.cond (.t 21) (.seq (.reg false [⟨(some 29), .build [(.int .i64 0), (.int .i64 0), (.int .i64 0), (.int .i64 0), (.int .i64 0), (.int .i64 0), (.int .i64 0), (.int .i64 0)] [], none, []⟩, ⟨none, .store 8 (.t 4) (.t 29), none, [0, 0]⟩, ⟨(some 5), .mv (.v (.int .i64 11)), none, [1, 0, 1]⟩]) (.ret)) (.skip)))))))) (pct36c2))
def prt36 : List PR := [.c 4 (some 8), .t 5]
def ntt36:Nat:=134
def flt36 : List (Nat × List Bool) := [(5000002, List.replicate 1 false), (5000006, List.replicate 1 false), (5000007, List.replicate 1 false), (6000021, List.replicate 1 false), (6000080, List.replicate 1 false), (6000081, List.replicate 1 false), (7000050, List.replicate 78 false), (7000052, List.replicate 78 false), (7000056, List.replicate 78 false), (7000060, List.replicate 78 false), (7000064, List.replicate 78 false), (7000069, List.replicate 78 false), (7000073, List.replicate 78 false)]
theorem bdt36:Try.f36.body=some (Try.f36.body.getD .skip):=by kernel_rfl
theorem cpt36:bK Try.prog Try.f36.ntmps (iE ++ flt36) (Try.f36.body.getD .skip)=some pct36:=by kernel_rfl
theorem spt36 [dH] {env:Env} (hE:aG Try.prog env) {R:(Nat→Hb)→List Hw→(Nat→Hb)→List Hw→Prop} (hR:∀ hp az hp' rs,R hp az hp' rs→az.length≤134∧∃ nc,pwp env pct36 (fun e s=>(e=.normal∨e=.ret)∧s.iw prt36=some rs∧s.hb=hp') (St.gB nc hp az)):iF Try.prog 36 R :=
 gX hE (uT dO (by kernel_rfl)) bF Try.func36 bdt36 cpt36 (by kernel_rfl) (by kernel_rfl) (by kernel_rfl) hR
def pct78 : PC := .reg true [⟨(some 5), .load (some 8) (.t 1), none, []⟩, ⟨(some 6), .load none (.t 2), none, []⟩, ⟨(some 7), .nilck (.t 6), none, [1]⟩, ⟨(some 8), .fld 65 (.t 7), none, [2]⟩, ⟨(some 9), .load none (.t 8), none, [3]⟩, ⟨(some 10), .mv (.t 0), none, []⟩, ⟨(some 11), .load (some 2) (.t 3), none, []⟩, ⟨(some 12), .build [(.int .i64 0), (.int .i64 0), (.int .i64 0)] [(0, 1, (.t 10)), (1, 2, (.t 11))], none, [5, 6]⟩, ⟨(some 13), .mlk 117 (.agg [.d (.sc (.int .i64 0)), .d (.sc (.int .i64 0)), .d (.sc (.int .i64 0)), .d (.sc (.int .i64 0)), .d (.sc (.int .i64 0)), .d (.sc (.int .i64 0)), .d (.sc (.int .i64 0)), .d (.sc (.int .i64 0))]) false (.t 9) (.t 12), none, [4, 7]⟩, ⟨(some 14), .call 79 [(.t 5), (.t 13)], none, [0, 8]⟩, ⟨none, .store 8 (.t 1) (.t 14), none, [9, 9, 0, 1, 2, 3, 4, 5, 6, 7, 8, 9]⟩]
def prt78 : List PR := []
def flt78 : List (Nat × List Bool) := []
theorem bdt78:Try.f78.body=some (Try.f78.body.getD .skip):=by kernel_rfl
theorem cpt78:bK Try.prog Try.f78.ntmps (iE ++ flt78) (Try.f78.body.getD .skip)=some pct78:=by kernel_rfl
theorem spt78 [dH] {env:Env} (hE:aG Try.prog env) {R:(Nat→Hb)→List Hw→(Nat→Hb)→List Hw→Prop} (hR:∀ hp az hp' rs,R hp az hp' rs→az.length≤15∧∃ nc,pwp env pct78 (fun e s=>(e=.normal∨e=.ret)∧s.iw prt78=some rs∧s.hb=hp') (St.gB nc hp az)):iF Try.prog 78 R :=
 gX hE (uT dO (by kernel_rfl)) bF Try.func78 bdt78 cpt78 (by kernel_rfl) (by kernel_rfl) (by kernel_rfl) hR
def pct80 : PC := .seq (.reg false [⟨(some 6), .new [(.slice none 0 0), (.slice none 0 0)], none, []⟩]) (.seq (.reg false [⟨(some 10), .mv (.t 0), none, []⟩, ⟨(some 11), .nilck (.t 10), none, [0]⟩, ⟨(some 12), .fld 66 (.t 11), none, [1]⟩, ⟨(some 13), .load none (.t 12), none, [2]⟩, ⟨(some 14), .mv (.t 1), none, []⟩, ⟨(some 15), .mlk 3 (.agg [.d (.sc (.slice none 0 0)), .d (.sc (.slice none 0 0))]) true (.t 13) (.t 14), none, [3, 4]⟩, ⟨(some 9), .mv (.t 15), none, [5]⟩, ⟨(some 16), .ext (.t 9) 0, none, [6]⟩, ⟨(some 17), .ext (.t 9) 1, none, [6]⟩, ⟨(some 7), .new [(.slice none 0 0), (.slice none 0 0)], none, []⟩, ⟨none, .store 2 (.t 7) (.t 16), none, [9, 7, 0, 1, 2, 3, 4, 5, 6, 7, 9]⟩, ⟨(some 8), .mv (.t 17), none, [8, 10, 0, 1, 2, 3, 4, 5, 6, 7, 8, 9, 10]⟩]) (.seq (.seq (.reg false [⟨(some 18), .mv (.t 8), none, []⟩, ⟨(some 19), .un .not (.t 18), none, [0]⟩]) (.cond (.t 19) (.seq (.reg true [⟨(some 20), .mv (.t 2), none, []⟩, ⟨(some 21), .bin .add (.t 20) (.v (.int .i64 1)), none, [0]⟩, ⟨(some 22), .hal 23 (.mk 8 64 [(.int .i64 0), (.int .i64 0), (.int .i64 0), (.int .i64 0), (.int .i64 0), (.int .i64 0), (.int .i64 0), (.int .i64 0)] (.t 21) (.t 21)), none, [1, 1]⟩, ⟨(some 23), .mv (.t 2), none, []⟩, ⟨(some 24), .bin .add (.t 23) (.v (.int .i64 1)), none, [3]⟩, ⟨(some 25), .hal 26 (.mk 8 64 [(.int .i64 0), (.int .i64 0), (.int .i64 0), (.int .i64 0), (.int .i64 0), (.int .i64 0), (.int .i64 0), (.int .i64 0)] (.t 24) (.t 24)), none, [4, 4]⟩, ⟨(some 26), .build [(.slice none 0 0), (.slice none 0 0)] [(0, 1, (.t 22)), (1, 1, (.t 25))], none, [2, 5]⟩, ⟨none, .store 2 (.t 7) (.t 26), none, [6, 0, 1, 2, 3, 4, 5, 6]⟩]) (.reg true [⟨(some 27), .mv (.t 0), none, []⟩, ⟨(some 28), .nilck (.t 27), none, [0]⟩, ⟨(some 29), .fld 66 (.t 28), none, [1]⟩, ⟨(some 30), .load none (.t 29), none, [2]⟩, ⟨(some 31), .mv (.t 1), none, []⟩, ⟨(some 32), .load (some 2) (.t 7), none, []⟩, ⟨none, .mup 3 (.t 30) (.t 31) (.t 32), none, [3, 4, 5, 0, 1, 2, 3, 4, 5]⟩])) (.skip))) (.seq (.reg false [⟨(some 33), .load (some 2) (.t 7), none, []⟩, ⟨none, .store 2 (.t 6) (.t 33), none, [0, 0]⟩]) (.ret))))
def prt80 : List PR := [.c 6 (some 2)]
def flt80 : List (Nat × List Bool) := [(5000022, List.replicate 1 false), (5000025, List.replicate 1 false)]
theorem bdt80:Try.f80.body=some (Try.f80.body.getD .skip):=by kernel_rfl
theorem cpt80:bK Try.prog Try.f80.ntmps (iE ++ flt80) (Try.f80.body.getD .skip)=some pct80:=by kernel_rfl
theorem spt80 [dH] {env:Env} (hE:aG Try.prog env) {R:(Nat→Hb)→List Hw→(Nat→Hb)→List Hw→Prop} (hR:∀ hp az hp' rs,R hp az hp' rs→az.length≤34∧∃ nc,pwp env pct80 (fun e s=>(e=.normal∨e=.ret)∧s.iw prt80=some rs∧s.hb=hp') (St.gB nc hp az)):iF Try.prog 80 R :=
 gX hE (uT dO (by kernel_rfl)) bF Try.func80 bdt80 cpt80 (by kernel_rfl) (by kernel_rfl) (by kernel_rfl) hR
def pct81 : PC := .seq (.reg false [⟨(some 4), .hal 5 (.box (.t 0)), none, []⟩, ⟨(some 5), .box (.t 1), none, []⟩, ⟨(some 6), .hal 7 (.box (.t 2)), none, []⟩, ⟨(some 7), .hal 8 (.box (.t 3)), none, []⟩]) (.seq (.reg false [⟨(some 11), .mkf 107 [] [(.t 4), (.t 6), (.t 7)], none, []⟩, ⟨(some 8), .mv (.t 11), none, [0, 0]⟩]) (.seq (.reg false [⟨(some 12), .fld 1 (.t 5), none, []⟩, ⟨(some 13), .load none (.t 12), none, [0]⟩]) (.block 0 (.seq (.reg false [⟨(some 15), .bin .eql (.t 13) (.v (.int .i64 14)), none, []⟩, ⟨(some 14), .mv (.t 15), none, [0]⟩]) (.cond (.t 14) (.reg true [⟨(some 16), .load none (.t 4), none, []⟩, ⟨(some 17), .fld 4 (.t 5), none, []⟩, ⟨(some 18), .load none (.t 17), none, [1]⟩, ⟨(some 19), .load (some 8) (.t 7), none, []⟩, ⟨(some 20), .nilck (.t 16), none, [0]⟩, ⟨(some 21), .fld 1 (.t 20), none, [4]⟩, ⟨(some 22), .ixa 8 8 (.t 21) (.t 18), none, [5, 2, 0, 1, 2, 3]⟩, ⟨none, .store 8 (.t 22) (.t 19), none, [6, 3, 0, 1, 2, 3]⟩]) (.seq (.reg false [⟨(some 24), .bin .eql (.t 13) (.v (.int .i64 7)), none, []⟩, ⟨(some 23), .mv (.t 24), none, [0]⟩]) (.cond (.t 23) (.reg false [⟨(some 25), .mv (.t 8), none, []⟩, ⟨(some 26), .callc (.t 25) 107 [(.v (.int .i64 0))], none, [0]⟩]) (.seq (.reg false [⟨(some 28), .bin .eql (.t 13) (.v (.int .i64 9)), none, []⟩, ⟨(some 27), .mv (.t 28), none, [0]⟩]) (.cond (.t 27) (.reg false [⟨(some 29), .mv (.t 8), none, []⟩, ⟨(some 30), .callc (.t 29) 107 [(.v (.int .i64 1))], none, [0]⟩]) (.seq (.reg false [⟨(some 32), .bin .eql (.t 13) (.v (.int .i64 10)), none, []⟩, ⟨(some 31), .mv (.t 32), none, [0]⟩]) (.cond (.t 31) (.reg false [⟨(some 33), .mv (.t 8), none, []⟩, ⟨(some 34), .callc (.t 33) 107 [(.v (.int .i64 2))], none, [0]⟩]) (.seq (.reg false [⟨(some 36), .bin .eql (.t 13) (.v (.int .i64 12)), none, []⟩, ⟨(some 35), .mv (.t 36), none, [0]⟩]) (.cond (.t 35) (.reg false [⟨(some 37), .mv (.t 8), none, []⟩, ⟨(some 38), .callc (.t 37) 107 [(.v (.int .i64 3))], none, [0]⟩]) (.seq (.reg false [⟨(some 40), .bin .eql (.t 13) (.v (.int .i64 19)), none, []⟩, ⟨(some 39), .mv (.t 40), none, [0]⟩]) (.cond (.t 39) (.reg false [⟨(some 41), .mv (.t 8), none, []⟩, ⟨(some 42), .callc (.t 41) 107 [(.v (.int .i64 5))], none, [0]⟩]) (.seq (.seq (.reg false [⟨(some 44), .bin .eql (.t 13) (.v (.int .i64 4)), none, []⟩, ⟨(some 43), .mv (.t 44), none, [0]⟩]) (.cond (.t 43) (.skip) (.reg false [⟨(some 45), .bin .eql (.t 13) (.v (.int .i64 5)), none, []⟩, ⟨(some 43), .mv (.t 45), none, [0]⟩]))) (.cond (.t 43) (.reg true [⟨(some 46), .load none (.t 4), none, []⟩, ⟨(some 47), .nilck (.t 46), none, [0]⟩, ⟨(some 48), .fld 65 (.t 47), none, [1]⟩, ⟨(some 49), .load none (.t 48), none, [2]⟩, ⟨(some 50), .load (some 2) (.t 6), none, []⟩, ⟨(some 51), .build [(.int .i64 0), (.int .i64 0), (.int .i64 0)] [(0, 1, (.v (.int .i64 4))), (1, 2, (.t 50))], none, [4]⟩, ⟨(some 52), .load (some 8) (.t 7), none, []⟩, ⟨none, .mup 117 (.t 49) (.t 51) (.t 52), none, [3, 5, 6, 0, 1, 2, 3, 4, 5, 6]⟩]) (.seq (.reg false [⟨(some 54), .bin .eql (.t 13) (.v (.int .i64 15)), none, []⟩, ⟨(some 53), .mv (.t 54), none, [0]⟩]) (.cond (.t 53) (.seq (.reg false [⟨(some 55), .load none (.t 4), none, []⟩, ⟨(some 56), .fld 2 (.t 5), none, []⟩, ⟨(some 57), .load none (.t 56), none, [1]⟩, ⟨(some 58), .fld 5 (.t 5), none, []⟩, ⟨(some 59), .load none (.t 58), none, [3]⟩, ⟨(some 60), .callh 80 [(.t 55), (.t 57), (.t 59)], none, [0, 2, 4]⟩, ⟨(some 9), .new [(.slice none 0 0), (.slice none 0 0)], none, []⟩, ⟨none, .store 2 (.t 9) (.t 60), none, [6, 5, 5, 0, 1, 2, 3, 4, 5, 6]⟩]) (.reg true [⟨(some 61), .fld 0 (.t 9), none, []⟩, ⟨(some 62), .load none (.t 61), none, [0]⟩, ⟨(some 63), .fld 4 (.t 5), none, []⟩, ⟨(some 64), .load none (.t 63), none, [2]⟩, ⟨(some 65), .fld 0 (.t 9), none, []⟩, ⟨(some 66), .load none (.t 65), none, [4]⟩, ⟨(some 67), .len (.t 66), none, [5]⟩, ⟨(some 68), .bin .rem (.t 64) (.t 67), none, [3, 6]⟩, ⟨(some 69), .load (some 8) (.t 7), none, []⟩, ⟨(some 70), .ixs 8 (.t 62) (.t 68), none, [1, 7, 0, 1, 2, 3, 4, 5, 6, 7, 8]⟩, ⟨none, .store 8 (.t 70) (.t 69), none, [9, 8, 0, 1, 2, 3, 4, 5, 6, 7, 8]⟩])) (.seq (.reg false [⟨(some 72), .bin .eql (.t 13) (.v (.int .i64 17)), none, []⟩, ⟨(some 71), .mv (.t 72), none, [0]⟩]) (.cond (.t 71) (.seq (.reg false [⟨(some 73), .load none (.t 4), none, []⟩, ⟨(some 74), .fld 2 (.t 5), none, []⟩, ⟨(some 75), .load none (.t 74), none, [1]⟩, ⟨(some 76), .fld 5 (.t 5), none, []⟩, ⟨(some 77), .load none (.t 76), none, [3]⟩, ⟨(some 78), .callh 80 [(.t 73), (.t 75), (.t 77)], none, [0, 2, 4]⟩, ⟨(some 10), .new [(.slice none 0 0), (.slice none 0 0)], none, []⟩, ⟨none, .store 2 (.t 10) (.t 78), none, [6, 5, 5, 0, 1, 2, 3, 4, 5, 6]⟩]) (.reg true [⟨(some 79), .fld 1 (.t 10), none, []⟩, ⟨(some 80), .load none (.t 79), none, [0]⟩, ⟨(some 81), .fld 4 (.t 5), none, []⟩, ⟨(some 82), .load none (.t 81), none, [2]⟩, ⟨(some 83), .fld 1 (.t 10), none, []⟩, ⟨(some 84), .load none (.t 83), none, [4]⟩, ⟨(some 85), .len (.t 84), none, [5]⟩, ⟨(some 86), .bin .rem (.t 82) (.t 85), none, [3, 6]⟩, ⟨(some 87), .load (some 8) (.t 7), none, []⟩, ⟨(some 88), .ixs 8 (.t 80) (.t 86), none, [1, 7, 0, 1, 2, 3, 4, 5, 6, 7, 8]⟩, ⟨none, .store 8 (.t 88) (.t 87), none, [9, 8, 0, 1, 2, 3, 4, 5, 6, 7, 8]⟩])) (.skip))))))))))))))))))))))
def prt81 : List PR := []
def ntt81:Nat:=89
def flt81 : List (Nat × List Bool) := [(5000004, List.replicate 1 false), (5000006, List.replicate 1 false), (5000007, List.replicate 1 false), (6000080, List.replicate 1 false), (7000025, List.replicate 107 false), (7000029, List.replicate 107 false), (7000033, List.replicate 107 false), (7000037, List.replicate 107 false), (7000041, List.replicate 107 false)]
theorem bdt81:Try.f81.body=some (Try.f81.body.getD .skip):=by kernel_rfl
theorem cpt81:bK Try.prog Try.f81.ntmps (iE ++ flt81) (Try.f81.body.getD .skip)=some pct81:=by kernel_rfl
theorem spt81 [dH] {env:Env} (hE:aG Try.prog env) {R:(Nat→Hb)→List Hw→(Nat→Hb)→List Hw→Prop} (hR:∀ hp az hp' rs,R hp az hp' rs→az.length≤89∧∃ nc,pwp env pct81 (fun e s=>(e=.normal∨e=.ret)∧s.iw prt81=some rs∧s.hb=hp') (St.gB nc hp az)):iF Try.prog 81 R :=
 gX hE (uT dO (by kernel_rfl)) bF Try.func81 bdt81 cpt81 (by kernel_rfl) (by kernel_rfl) (by kernel_rfl) hR
def pct107 : PC := .reg true [⟨(some 5), .load none (.t 1), none, []⟩, ⟨(some 6), .nilck (.t 5), none, [0]⟩, ⟨(some 7), .fld 65 (.t 6), none, [1]⟩, ⟨(some 8), .load none (.t 7), none, [2]⟩, ⟨(some 9), .mv (.t 0), none, []⟩, ⟨(some 10), .load (some 2) (.t 2), none, []⟩, ⟨(some 11), .build [(.int .i64 0), (.int .i64 0), (.int .i64 0)] [(0, 1, (.t 9)), (1, 2, (.t 10))], none, [4, 5]⟩, ⟨(some 12), .load none (.t 1), none, []⟩, ⟨(some 13), .nilck (.t 12), none, [7]⟩, ⟨(some 14), .fld 65 (.t 13), none, [8]⟩, ⟨(some 15), .load none (.t 14), none, [9]⟩, ⟨(some 16), .mv (.t 0), none, []⟩, ⟨(some 17), .load (some 2) (.t 2), none, []⟩, ⟨(some 18), .build [(.int .i64 0), (.int .i64 0), (.int .i64 0)] [(0, 1, (.t 16)), (1, 2, (.t 17))], none, [11, 12]⟩, ⟨(some 19), .mlk 117 (.agg [.d (.sc (.int .i64 0)), .d (.sc (.int .i64 0)), .d (.sc (.int .i64 0)), .d (.sc (.int .i64 0)), .d (.sc (.int .i64 0)), .d (.sc (.int .i64 0)), .d (.sc (.int .i64 0)), .d (.sc (.int .i64 0))]) false (.t 15) (.t 18), none, [10, 13]⟩, ⟨(some 20), .load (some 8) (.t 3), none, []⟩, ⟨(some 21), .call 79 [(.t 19), (.t 20)], none, [14, 15]⟩, ⟨none, .mup 117 (.t 8) (.t 11) (.t 21), none, [3, 6, 16, 16, 0, 1, 2, 3, 4, 5, 6, 7, 8, 9, 10, 11, 12, 13, 14, 15, 16]⟩]
def prt107 : List PR := []
def flt107 : List (Nat × List Bool) := []
theorem bdt107:Try.f107.body=some (Try.f107.body.getD .skip):=by kernel_rfl
theorem cpt107:bK Try.prog Try.f107.ntmps (iE ++ flt107) (Try.f107.body.getD .skip)=some pct107:=by kernel_rfl
theorem spt107 [dH] {env:Env} (hE:aG Try.prog env) {R:(Nat→Hb)→List Hw→(Nat→Hb)→List Hw→Prop} (hR:∀ hp az hp' rs,R hp az hp' rs→az.length≤22∧∃ nc,pwp env pct107 (fun e s=>(e=.normal∨e=.ret)∧s.iw prt107=some rs∧s.hb=hp') (St.gB nc hp az)):iF Try.prog 107 R :=
 gX hE (uT dO (by kernel_rfl)) bF Try.func107 bdt107 cpt107 (by kernel_rfl) (by kernel_rfl) (by kernel_rfl) hR
def pct40 : PC := .seq (.reg false [⟨(some 2), .mv (.v (.int .i64 0)), none, []⟩]) (.seq (.seq (.reg false [⟨(some 3), .mv (.t 0), none, []⟩, ⟨(some 4), .pnil false (.t 3), none, [0]⟩]) (.cond (.t 4) (.seq (.reg false [⟨(some 2), .mv (.v (.int .i64 0)), none, []⟩]) (.ret)) (.skip))) (.seq (.reg false [⟨(some 5), .mv (.t 0), none, []⟩, ⟨(some 6), .nilck (.t 5), none, [0]⟩, ⟨(some 7), .fld 0 (.t 6), none, [1]⟩, ⟨(some 8), .load none (.t 7), none, [2]⟩, ⟨(some 9), .callh 24 [(.t 8)], none, [3]⟩, ⟨(some 2), .mv (.t 9), none, [4, 4, 0, 1, 2, 3, 4]⟩]) (.ret)))
def prt40 : List PR := [.t 2]
def ntt40:Nat:=10
def flt40 : List (Nat × List Bool) := [(6000024, List.replicate 1 false)]
theorem bdt40:Try.f40.body=some (Try.f40.body.getD .skip):=by kernel_rfl
theorem cpt40:bK Try.prog Try.f40.ntmps (iE ++ flt40) (Try.f40.body.getD .skip)=some pct40:=by kernel_rfl
theorem spt40 [dH] {env:Env} (hE:aG Try.prog env) {R:(Nat→Hb)→List Hw→(Nat→Hb)→List Hw→Prop} (hR:∀ hp az hp' rs,R hp az hp' rs→az.length≤10∧∃ nc,pwp env pct40 (fun e s=>(e=.normal∨e=.ret)∧s.iw prt40=some rs∧s.hb=hp') (St.gB nc hp az)):iF Try.prog 40 R :=
 gX hE (uT dO (by kernel_rfl)) bF Try.func40 bdt40 cpt40 (by kernel_rfl) (by kernel_rfl) (by kernel_rfl) hR
end Go.Proofs.Ytffcpijeebagfaa
end
section
namespace Go.Proofs.Ytffcpijeebagfaa
open Go Go.RowKit
set_option maxRecDepth 100000
set_option maxHeartbeats 4000000
abbrev hI (x:Int):Hc:=.d (.sc (.int .i64 x))
abbrev hP (b off:Nat):Hw:=.one (.h (.p b off))
def ckH (c:Ck):List Hc:=c.map hI
def fU (c:Ck):Hw:=.agg (ckH c)
theorem bW (c:Ck):(ckH c).map Hc.cl=aK c:=by unfold ckH aK;rw [List.map_map];rfl
theorem bU (c:Ck):(ckH c).length=c.length:=List.length_map ..
theorem aV (c:Ck):aD ((aK c).map Cl.hc)=some (ckH c):=by
 induction c with
 | nil=>rfl
 | cons x c ih =>
   show (aD ((aK c).map Cl.hc)).map (hI x :: ·)=_
   rw [ih];rfl
theorem vO {cs ds:List Hc} (h:cs.length=ds.length):eU cs 0 ds=ds:=by
 induction cs generalizing ds with
 | nil=>cases ds with
   | nil=>rfl
   | cons d ds=>simp at h
 | cons c cs ih=>cases ds with
   | nil=>simp at h
   | cons d ds =>
     simp only [eU];rw [ih (by simpa using h)]
theorem PS {c d:Ck} (hc:c.length=8) (hd:d.length=8):eU (ckH c) 0 (ckH d)=ckH d:=vO (by rw [bU,bU,hc,hd])
theorem nP {c:Ck} (hc:c.length=8):0+8≤(aK c).length∧(aK c).take 8=aK c:=ld8 hc
theorem bI {a b:Ck} (ha:a.length=8) (hb:b.length=8):(aQ a b).length=8:=by unfold aQ;rw [List.length_zipWith,ha,hb];rfl
def fB (k x y:Int):Value:=.agg #[.int .i64 k,.int .i64 x,.int .i64 y]
theorem TI:Maps.Keyed Try.prog 117:=Maps.Keyed.of_law (deep_law_gate (by kernel_rfl) (of_decide_eq_true (by kernel_rfl)) (of_decide_eq_true (by kernel_rfl)) (by kernel_rfl) (by kernel_rfl))
theorem MN:Maps.Keyed Try.prog 3:=Maps.int_keyed Try.underlying3
def iY (x:Int):Prop:=-9223372036854775808≤x∧x≤9223372036854775807
theorem iY.wf {x:Int} (h:iY x):(Lit.int .i64 x).wf=true:=by
 simp [Lit.wf,IntKind.min,IntKind.max,IntKind.signed,IntKind.bits];exact ⟨h.1,by have:=h.2;omega⟩
theorem F8 (d:Nat) {a:Int} (h:iY a):Try.prog.keyLits (d+1) 3 [.int .i64 a]=some [.int .i64 a]:=by
 simp [Program.keyLits,Try.underlying3,h.wf]
theorem OB (d:Nat) {a b:Int} (ha:iY a) (hb:iY b):Try.prog.keyLits (d+2) 98 [.int .i64 a,.int .i64 b]=some [.int .i64 a,.int .i64 b]:=by
 have hc:Try.prog.cellsOf 98=2:=by kernel_rfl
 have hi:Try.prog.cellsOf 3=1:=by kernel_rfl
 unfold Program.keyLits;rw [Try.underlying98];dsimp only;rw [if_pos ⟨by simp [hc],by kernel_rfl⟩];simp [hi,F8 d ha,F8 d hb]
theorem TJ (d:Nat) {k a b:Int} (hk:iY k) (ha:iY a) (hb:iY b):Try.prog.keyLits (d+3) 117 [.int .i64 k,.int .i64 a,.int .i64 b]=some [.int .i64 k,.int .i64 a,.int .i64 b]:=by
 have hc:Try.prog.cellsOf 117=3:=by kernel_rfl
 have hl:Try.prog.cellsOf 98=2:=by kernel_rfl
 have hi:Try.prog.cellsOf 3=1:=by kernel_rfl
 unfold Program.keyLits;rw [Try.underlying117];dsimp only;rw [if_pos ⟨by simp [hc],by kernel_rfl⟩];simp [hi,hl,F8 (d+1) hk,OB d ha hb]
theorem oJ {k a b:Int} (hk:iY k) (ha:iY a) (hb:iY b):(keyOf Try.prog 117 (.agg #[.int .i64 k,.int .i64 a,.int .i64 b])).isSome=true:=by
 obtain ⟨d,hd⟩:∃ d,Try.prog.types.size+1=d+3:=⟨Try.prog.types.size - 2,by have:2≤Try.prog.types.size:=of_decide_eq_true (by kernel_rfl);omega⟩
 have h1:Try.prog.keyType 117=true:=by kernel_rfl
 have hc:Try.prog.cellsOf 117=3:=by kernel_rfl
 unfold keyOf;rw [Try.underlying117];dsimp only;rw [if_pos (by simp [h1,Value.formed,Try.underlying117,hc]),hd];simp only [Value.cells];rw [TJ d hk ha hb];rfl
theorem Qo {a:Int} (ha:iY a):(keyOf Try.prog 3 (.int .i64 a)).isSome=true:=by
 rw [Maps.keyOf_int_mk Try.underlying3 ha.wf];rfl
theorem kE.mk {a b:Ck} (ha:a.length=8) (hb:b.length=8):kE [kI a,kI b] [kI (aQ a b)]:=⟨a,b,rfl,⟨ha,hb⟩,rfl⟩
def OAt (es:List (Value×Nat×Hw)) (k:Value) (d:Ck):Prop:=(∃ n,aS es k=some (n,fU d))∨(aS es k=none∧d=ckZ)
def OW (hp:Nat→Hb) (az:List Hw) (hp':Nat→Hb) (rs:List Hw):Prop :=
 ∃ (k x y:Int) (bc bt ba b0 bo:Nat) (T:List Hc) (es:List (Value×Nat×Hw)) (cl:Nat) (c d:Ck),
   az=[.one (hI k),hP bc 0,hP bt 0,hP ba 0]∧(hp bc=.cells (ckH c)∧c.length=8∧hp bt=.cells [.h (.p b0 0)]∧hp ba=.cells [hI x,hI y]∧hp b0=.cells T∧T[65]? = some (.h (.m bo))∧hp bo=.map 117 es cl) ∧
   (iY k∧iY x∧iY y)∧(OAt es (fB k x y) d∧d.length=8)∧hp'=up hp bc (.cells (ckH (aQ c d)))∧rs=[]
def P5:Env:=e1 79 kE e0
theorem yD:aG Try.prog P5:=.e1 OO .e0
theorem Vm:iF Try.prog 78 OW:=by
 refine spt78 yD ?_;rintro hp az hp' rs ⟨k,x,y,bc,bt,ba,b0,bo,T,es,cl,c,d,rfl,⟨h1,h2,h3,h4,h5,h6,h7⟩,⟨hk,hx,hy⟩,⟨ho,hd⟩,rfl,rfl⟩;refine ⟨by simp,fun _=>1,?_⟩;have hkey:=oJ hk hx hy;obtain ⟨l1,l2⟩:=nP h2;have q1:0+8≤(ckH c).length:=by rw [bU,h2];exact Nat.le_refl _
 have q2:=bI h2 hd;have q3:(aK (aQ c d)).length=8:=by rw [aJ,q2]
 have q4:=PS h2 q2;unfold pct78;refine aH ?_
 rcases ho with ⟨n,ho⟩ | ⟨ho,rfl⟩
 ·unfold fB at ho;simp only [↓evP,evB,stB,reduceIte,reduceCtorEq,seval,h1,h3,h4,h5,h6,h7,ho,hkey,bW,l1,l2,fU,dN];refine bQ [kI (aQ c d)] (by exact kE.mk h2 hd) ?_;simp only [evB,stB,reduceIte,reduceCtorEq,seval,kI,eG,h1,q1,q3,aV,q4,prt78];exact (by unfold Drw;refine Eq.trans (b:=true) ?_ rfl;kernel_rfl)
 ·unfold fB at ho;simp only [↓evP,evB,stB,reduceIte,reduceCtorEq,seval,h1,h3,h4,h5,h6,h7,ho,hkey,bW,l1,l2,dN];refine bQ [kI (aQ c ckZ)] (by exact kE.mk h2 hd) ?_;simp only [evB,stB,reduceIte,reduceCtorEq,seval,kI,eG,h1,q1,q3,aV,q4,prt78];exact (by unfold Drw;refine Eq.trans (b:=true) ?_ rfl;kernel_rfl)
noncomputable def ckl (es:List (Value×Nat×Hw)) (cl:Nat) (k:Value):Nat:=match aS es k with
 | some _=>cl
 | none=>cl+1
def Oe (hp:Nat→Hb) (az:List Hw) (hp':Nat→Hb) (rs:List Hw):Prop :=
 ∃ (k x y:Int) (bc bt ba b0 bo:Nat) (T:List Hc) (es:List (Value×Nat×Hw)) (cl:Nat) (c d:Ck),
   az=[.one (hI k),hP bt 0,hP ba 0,hP bc 0]∧(hp bc=.cells (ckH c)∧c.length=8∧hp bt=.cells [.h (.p b0 0)]∧hp ba=.cells [hI x,hI y]∧hp b0=.cells T∧T[65]? = some (.h (.m bo))∧hp bo=.map 117 es cl) ∧
   (iY k∧iY x∧iY y)∧(OAt es (fB k x y) d∧d.length=8)∧hp'=up hp bo (.map 117 (dR es cl (fB k x y) (fU (aQ d c))) (ckl es cl (fB k x y)))∧rs=[]
theorem Us:iF Try.prog 107 Oe:=by
 refine spt107 yD ?_;rintro hp az hp' rs ⟨k,x,y,bc,bt,ba,b0,bo,T,es,cl,c,d,rfl,⟨h1,h2,h3,h4,h5,h6,h7⟩,⟨hk,hx,hy⟩,⟨ho,hd⟩,rfl,rfl⟩;refine ⟨by simp,fun _=>1,?_⟩;have hkey:=oJ hk hx hy;obtain ⟨l1,l2⟩:=nP h2;have q2:=bI hd h2;have q3:(aK (aQ d c)).length=8:=by rw [aJ,q2]
 unfold pct107;refine aH ?_
 rcases ho with ⟨n,ho⟩ | ⟨ho,rfl⟩
 ·unfold fB at ho;simp only [↓evP,evB,stB,reduceIte,reduceCtorEq,seval,h1,h3,h4,h5,h6,h7,ho,hkey,bW,l1,l2,fU,dN];refine bQ [kI (aQ d c)] (by exact kE.mk hd h2) ?_;simp only [evB,stB,reduceIte,reduceCtorEq,seval,kI,eG,h7,ho,hkey,aV,ckl,fB,prt107];exact (by unfold Drw;refine Eq.trans (b:=true) ?_ rfl;kernel_rfl)
 ·unfold fB at ho;simp only [↓evP,evB,stB,reduceIte,reduceCtorEq,seval,h1,h3,h4,h5,h6,h7,ho,hkey,bW,l1,l2,fU,dN];refine bQ [kI (aQ ckZ c)] (by exact kE.mk hd h2) ?_;simp only [evB,stB,reduceIte,reduceCtorEq,seval,kI,eG,h7,ho,hkey,aV,ckl,fB,prt107];exact (by unfold Drw;refine Eq.trans (b:=true) ?_ rfl;kernel_rfl)
def ncN (N b:Nat):Nat:=if b < N then 1000 else b - N+1
theorem aU {N b:Nat} (h:b < N):ncN N b=1000:=if_pos h
theorem aP {N d:Nat}:ncN N (N+d)=d+1:=by unfold ncN;rw [if_neg (by omega)];omega
def Free (hp:Nat→Hb) (N:Nat):Prop:=∀ b,N≤b→hp b=.no
theorem Free.lt {hp:Nat→Hb} {N b:Nat} (h:Free hp N) (hb:hp b≠.no):b < N:=by
 rcases Nat.lt_or_ge b N with h1 | h1
 ·exact h1
 ·exact absurd (h b h1) hb
theorem Free.at_ {hp:Nat→Hb} {N:Nat} (h:Free hp N) (d:Nat):hp (N+d)=.no:=h _ (Nat.le_add_right _ _)
def bn (l:List Ck):List Hc:=l.flatMap ckH
def bD (n:Nat):List Ck:=List.replicate n ckZ
def rgW (b1 b2 n:Nat):Hw:=.agg [.h (.s b1 0 n n),.h (.s b2 0 n n)]
theorem Fh (n:Nat):(List.range (n * 8)).map (fun i=>(Hc.d (.sc (([.int .i64 0,.int .i64 0,.int .i64 0,.int .i64 0,.int .i64 0,.int .i64 0,.int .i64 0,.int .i64 0]:List Value).getD (i % 8) undef))))=bn (bD n):=by
 have h:∀ m:Nat,(List.range m).map (fun i=>(Hc.d (.sc (([.int .i64 0,.int .i64 0,.int .i64 0,.int .i64 0,.int .i64 0,.int .i64 0,.int .i64 0,.int .i64 0]:List Value).getD (i % 8) undef))))=List.replicate m (hI 0):=fun m=>by
  apply List.ext_getElem
  ·simp
  ·intro i h1 h2;simp only [List.getElem_map,List.getElem_range,List.getElem_replicate];have:i % 8 < 8:=Nat.mod_lt _ (by omega);generalize i % 8=j at this
   match j,this with
   | 0,_=>rfl
   | 1,_=>rfl
   | 2,_=>rfl
   | 3,_=>rfl
   | 4,_=>rfl
   | 5,_=>rfl
   | 6,_=>rfl
   | 7,_=>rfl
 rw [h];unfold bn bD
 induction n with
 | zero=>rfl
 | succ n ih =>
   rw [List.replicate_succ,List.flatMap_cons,←ih,Nat.succ_mul,Nat.add_comm,←List.replicate_append_replicate];rfl
def FN (hp:Nat→Hb) (az:List Hw) (hp':Nat→Hb) (rs:List Hw):Prop :=
 ∃ (b0 br N:Nat) (T:List Hc) (es:List (Value×Nat×Hw)) (cl:Nat) (obj cap:Int),
   az=[hP b0 0,.one (hI obj),.one (hI cap)]∧(hp b0=.cells T∧T[66]? = some (.h (.m br))∧hp br=.map 3 es cl)∧(iY obj∧0≤cap∧cap≤64)∧Free hp N ∧
   ((∃ n b1 b2 m,aS es (.int .i64 obj)=some (n,rgW b1 b2 m)∧hp'=hp∧rs=[rgW b1 b2 m]) ∨
    (aS es (.int .i64 obj)=none∧hp'=up (up (up hp (N+22) (.cells (bn (bD (cap+1).toNat)))) (N+25) (.cells (bn (bD (cap+1).toNat)))) br (.map 3 (dR es cl (.int .i64 obj) (rgW (N+22) (N+25) (cap+1).toNat)) (cl+1))∧rs=[rgW (N+22) (N+25) (cap+1).toNat]))
theorem OQ:iF Try.prog 80 FN:=by
 refine spt80 aG.e0 ?_;rintro hp az hp' rs ⟨b0,br,N,T,es,cl,obj,cap,rfl,⟨h5,h6,h7⟩,⟨hx,hc0,hc1⟩,hfree,hcase⟩;obtain ⟨nc,hnc⟩:∃ nc,nc=ncN N:=⟨_,rfl⟩
 refine ⟨by simp,nc,?_⟩;have hkey:=Qo hx;have n0:nc b0=1000:=by rw [hnc];exact aU (hfree.lt (by rw [h5];simp))
 have nr:nc br=1000:=by rw [hnc];exact aU (hfree.lt (by rw [h7];simp))
 have n1:nc (N+22)=23:=by rw [hnc];exact aP
 have n2:nc (N+25)=26:=by rw [hnc];exact aP
 have hbr:br < N:=hfree.lt (by rw [h7];simp)
 have hb0:b0 < N:=hfree.lt (by rw [h5];simp)
 have d1:br≠N+22:=by omega
 have d2:br≠N+25:=by omega
 have d3:b0≠N+22:=by omega
 have d4:b0≠N+25:=by omega
 have hw:IntKind.i64.wrap (cap+1)=cap+1:=pY (by omega) (by omega);unfold pct80;refine aH ?_
 rcases hcase with ⟨n,b1,b2,m,ho,rfl,rfl⟩ | ⟨ho,rfl,rfl⟩
 ·simp only [↓evP,evB,stB,reduceIte,reduceCtorEq,seval,h5,h6,h7,ho,hkey,rgW,prt80]
 ·simp only [↓evP,evB,stB,reduceIte,reduceCtorEq,seval,h5,h6,h7,ho,hkey,hw];have hz:0≤cap+1∧cap+1≤1000000∧64≤1000000:=⟨by omega,by omega,by decide⟩;refine GU (cap+1) (N+22) (bG (by simp only [stB,seval,n1]) (by (repeat' (first | exact aF.init | assumption | (refine aF.ap ?_ rfl)))) (by simp only [stB,seval];exact hfree.at_ 22)) (by simp only [stB,reduceIte,seval]) (by simp only [stB,reduceIte,seval]) hz ?_
  simp only [evB,stB,reduceIte,seval,hw];refine GU (cap+1) (N+25) (bG (by simp only [stB,seval,n2]) (by (repeat' (first | exact aF.init | assumption | (refine aF.ap ?_ rfl)))) (by simp only [stB,reduceIte,seval,n1,Nat.add_left_cancel_iff];exact hfree.at_ 25)) (by simp only [stB,reduceIte,seval]) (by simp only [stB,reduceIte,seval]) hz ?_
  simp only [↓evP,evB,stB,reduceIte,reduceCtorEq,seval,Fh];refine ⟨(by unfold Drw;refine Eq.trans (b:=true) ?_ rfl;kernel_rfl),?_⟩
  simp only [↓evP,evB,stB,reduceIte,reduceCtorEq,seval,h5,h6,h7,ho,hkey,n1,n2,n0,nr,d1,d2,d3,d4,rgW,prt80];exact (by unfold Drw;refine Eq.trans (b:=true) ?_ rfl;kernel_rfl)
end Go.Proofs.Ytffcpijeebagfaa
end
section
namespace Go.Proofs.Ytffcpijeebagfaa
open Go.RowKit Go.Maps
structure But (L:List Nat) (w w':World):Prop where
 os:w'.os=w.os
 tape:w'.tape=w.tape
 output:w'.output=w.output
 size:w.heap.size≤w'.heap.size
 block:∀ k,k < w.heap.size→k ∉ L→w'.heap[k]? = w.heap[k]?
theorem But.refl (L:List Nat) (w:World):But L w w:=⟨rfl,rfl,rfl,Nat.le_refl _,fun _ _ _=>rfl⟩
theorem But.trans {L:List Nat} {a b c:World} (h:But L a b) (k:But L b c):But L a c :=
 ⟨k.os.trans h.os,k.tape.trans h.tape,k.output.trans h.output,Nat.le_trans h.size k.size,fun i hi hn=>(k.block i (Nat.lt_of_lt_of_le hi h.size) hn).trans (h.block i hi hn)⟩
theorem But.mono {L L':List Nat} {a b:World} (h:But L a b) (hs:∀ x ∈ L,x ∈ L'∨a.heap.size≤x):But L' a b :=
 ⟨h.os,h.tape,h.output,h.size,fun i hi hn=>h.block i hi (fun hm=>by rcases hs i hm with h1 | h1;exact hn h1;omega)⟩
theorem But.drewN {L:List Nat} {a b:World} (h:But L a b) (n:Nat):But L a (b.drewN n):=⟨h.os,h.tape,h.output,h.size,h.block⟩
theorem But.drew {L:List Nat} {a b:World} (h:But L a b):But L a b.drew:=⟨h.os,h.tape,h.output,h.size,h.block⟩
theorem But.alloc {L:List Nat} {a b:World} (h:But L a b) (o:Obj):But L a (b.alloc o) :=
 h.trans ⟨rfl,rfl,rfl,by simp,fun k hk _=>Below.heap_alloc _ _ _ hk⟩
theorem But.setCell {L:List Nat} {a b:World} (h:But L a b) {p:Addr} (hp:p.block ∈ L∨a.heap.size≤p.block) (u:Value):But L a (b.setCell p u) :=
 ⟨h.os,h.tape,h.output,by simpa [World.setCell] using h.size,fun k hk hn=>(Below.heap_setCell _ _ _ _ (by rintro rfl;rcases hp with h1 | h1;exact hn h1;omega)).trans (h.block k hk hn)⟩
theorem But.below {L:List Nat} {a b c:World} (h:But L a b) (hb:Below b.heap.size b c):But L a c :=
 h.trans ⟨hb.os,hb.tape,hb.output,hb.size,fun k hk _=>hb.block k hk⟩
theorem But.grown {L:List Nat} {a b c:World} (h:But L a b) {g:Nat} (hg:b.grownBy c (some g)) (hL:g ∈ L∨a.heap.size≤g):But L a c :=
 ⟨hg.os.trans h.os,hg.tape.trans h.tape,hg.output.trans h.output,Nat.le_trans h.size hg.size,fun k hk hn =>
  (hg.block k (Nat.lt_of_lt_of_le hk h.size) (by rintro he;cases he;rcases hL with h1 | h1;exact hn h1;omega)).trans (h.block k hk hn)⟩
theorem But.cell {L:List Nat} {w w':World} (h:But L w w') {p:Addr} (hp:p.block < w.heap.size) (hL:p.block ∉ L):w'.cell? p=w.cell? p:=World.cell?_of_block (w:=w) (h.block p.block hp hL)
theorem But.frozen {L:List Nat} {w w':World} (h:But L w w') {p:Addr} (hp:p.block < w.heap.size) (hL:p.block ∉ L):w'.frozen? p=w.frozen? p:=World.frozen?_of_block (w:=w) (h.block p.block hp hL)
def Kz (v:Value):Option (DataW Value×List MemPlace):=some (.held v,[])
structure zI (P:Program) (k:TypeId) {κ:Type} (kv:κ→Value) (ok:κ→Prop):Prop where
 keyed:Keyed P k
 reads:∀ x,ok x→∃ l,keyOf P k (kv x)=some l
 inj:∀ x y,kv x=kv y→x=y
def MapOf {κ:Type} (kv:κ→Value) (w:World) (P:Program) (k:TypeId) (b n:Nat) (f:κ→Option Value):Prop :=
 ∃ D,w.ownsMap P k Kz b n D∧∀ x l,keyOf P k (kv x)=some l→D.atKey l .nil=(match f x with | some v=>.held v | none=>.nil)
section
variable {κ:Type} [DecidableEq κ] {kv:κ→Value} {ok:κ→Prop}
variable {P:Program} {k e t:TypeId} {w w':World} {b n:Nat} {f:κ→Option Value}
omit [DecidableEq κ] in
theorem MapOf.made (w:World) (P:Program) (k:TypeId):MapOf kv (w.alloc (.map #[] 0)) P k w.heap.size 0 (fun _=>none) :=
 ⟨_,World.ownsMap_made w P k Kz,fun _ _ _=>rfl⟩
omit [DecidableEq κ] in
theorem MapOf.lt (h:MapOf kv w P k b n f):b < w.heap.size:=let ⟨_,h,_⟩:=h;h.lt
omit [DecidableEq κ] in
theorem MapOf.keep (h:MapOf kv w P k b n f) (hb:w'.heap[b]? = w.heap[b]?):MapOf kv w' P k b n f :=
 let ⟨D,⟨es,cl,h1,h2⟩,h3⟩:=h
 ⟨D,⟨es,cl,hb.trans h1,h2⟩,h3⟩
omit [DecidableEq κ] in
theorem MapOf.but {L:List Nat} (h:MapOf kv w P k b n f) (hb:But L w w') (hL:b ∉ L):MapOf kv w' P k b n f:=h.keep (hb.block b h.lt hL)
omit [DecidableEq κ] in
theorem MapOf.mono (h:MapOf kv w P k b n f) {n':Nat} (hn:n≤n'):MapOf kv w P k b n' f :=
 let ⟨D,h1,h3⟩:=h
 ⟨D,h1.mono hn,h3⟩
omit [DecidableEq κ] in
theorem MapOf.drewN (h:MapOf kv w P k b n f) (m:Nat):MapOf kv (w.drewN m) P k b n f:=h
omit [DecidableEq κ] in
theorem MapOf.alloc (h:MapOf kv w P k b n f) (o:Obj):MapOf kv (w.alloc o) P k b n f:=h.keep (Below.heap_alloc _ _ _ h.lt)
omit [DecidableEq κ] in
theorem MapOf.setCell (h:MapOf kv w P k b n f) {p:Addr} (hp:b≠p.block) (u:Value):MapOf kv (w.setCell p u) P k b n f:=h.keep (Below.heap_setCell _ _ _ _ hp)
omit [DecidableEq κ] in
theorem MapOf.congr (h:MapOf kv w P k b n f) {g:κ→Option Value} (hg:∀ x,f x=g x):MapOf kv w P k b n g:=by
 have:f=g:=funext hg
 rwa [this] at h
omit [DecidableEq κ] in
theorem MapOf.look (h:MapOf kv w P k b n f) (K:zI P k kv ok) (ht:P.underlying t=some (.map k e)) {z:Value} (hz:∀ w,(zeroValue e).run P w=.ok z w) (x:κ) (hx:ok x) :
 (Instr.lookup t (.map (some b)) (kv x) false).run P w=.ok ((f x).getD z) w:=by
 obtain ⟨D,⟨es,clock,hb,F,_,rfl⟩,hf⟩:=h;obtain ⟨kl,hkey⟩:=K.reads x hx;have h3:=hf x kl hkey
 rcases Maps.fit_look false K.keyed ht (hz w) hb F hkey with ⟨hrun,_,hat⟩ | ⟨e0,y,_,_,hrun,hRv,hat,_⟩
 ·rw [hat] at h3
  cases hfk:f x with
  | none=>simpa using hrun
  | some v=>rw [hfk] at h3;cases h3
 ·rw [hat] at h3;simp only [Kz,Option.some.injEq] at hRv;subst hRv
  cases hfk:f x with
  | none=>rw [hfk] at h3;cases h3
  | some v=>rw [hfk] at h3;simp only [DataW.held.injEq] at h3;subst h3;simpa using hrun
omit [DecidableEq κ] in
theorem MapOf.look_ok (h:MapOf kv w P k b n f) (K:zI P k kv ok) (ht:P.underlying t=some (.map k e)) {z:Value} (hz:∀ w,(zeroValue e).run P w=.ok z w) (x:κ) (hx:ok x) :
 (Instr.lookup t (.map (some b)) (kv x) true).run P w=.ok (.tuple #[(f x).getD z,.bool (f x).isSome]) w:=by
 obtain ⟨D,⟨es,clock,hb,F,_,rfl⟩,hf⟩:=h;obtain ⟨kl,hkey⟩:=K.reads x hx;have h3:=hf x kl hkey
 rcases Maps.fit_look true K.keyed ht (hz w) hb F hkey with ⟨hrun,_,hat⟩ | ⟨e0,y,_,_,hrun,hRv,hat,_⟩
 ·rw [hat] at h3
  cases hfk:f x with
  | none=>simpa using hrun
  | some v=>rw [hfk] at h3;cases h3
 ·rw [hat] at h3;simp only [Kz,Option.some.injEq] at hRv;subst hRv
  cases hfk:f x with
  | none=>rw [hfk] at h3;cases h3
  | some v=>rw [hfk] at h3;simp only [DataW.held.injEq] at h3;subst h3;simpa using hrun
theorem MapOf.put (h:MapOf kv w P k b n f) (K:zI P k kv ok) (ht:P.underlying t=some (.map k e)) (hn:n < maxLen) (x:κ) (hx:ok x) (v:Value) :
 ∃ w',(Instr.mapUpdate t (.map (some b)) (kv x) v).run P w=.ok () w'∧MapOf kv w' P k b (n+1) (upd f x v)∧w.grownBy w' (some b):=by
 obtain ⟨D,hown,hf⟩:=h;obtain ⟨kl,hkey⟩:=K.reads x hx;obtain ⟨w',hrun,h1,h2⟩:=hown.update K.keyed ht hn hkey (val:=v) (d:=.held v) (ps:=[]) rfl;refine ⟨w',hrun,⟨_,h1,fun y l hy=>?_⟩,h2⟩;unfold upd
 by_cases hyx:y=x
 ·subst hyx;rw [hkey] at hy;cases hy;rw [if_pos rfl,atKey_put_same hown.isMap (K.keyed.key hkey)]
 ·rw [if_neg hyx]
  have hne:l≠kl:=by
   rintro rfl;exact hyx (K.inj _ _ (K.keyed.inj hy hkey))
  rw [atKey_put_other hne];exact hf y l hy
theorem zI.int {P:Program} {k:TypeId} (hk:P.underlying k=some (.int .i64)):zI P k (fun x:Int=>Value.int .i64 x) (fun x=>(Lit.int .i64 x).wf=true) :=
 ⟨int_keyed hk,fun x hx=>⟨_,keyOf_int_mk hk hx⟩,fun x y h=>by injection h⟩
def qC (x:Int×Int):Value:=.agg #[.int .i64 x.1,.int .i64 x.2]
theorem keyLits_int {P:Program} {t:TypeId} (ht:P.underlying t=some (.int .i64)) (d:Nat) {a:Int} (h:(Lit.int .i64 a).wf=true):P.keyLits (d+1) t [.int .i64 a]=some [.int .i64 a]:=by
 simp [Program.keyLits,ht,h]
theorem Jr {P:Program} {k t:TypeId} {f0 f1:Field} (hk:P.underlying k=some (.struct #[f0,f1])) (ht:P.underlying t=some (.int .i64)) (h0:f0.type=t) (h1:f1.type=t) (o0:f0.offset=0) (o1:f1.offset=1)
 (hn : ((#[f0, f1] : Array Field).all (·.name != "_")) = true) (hc : P.cellsOf k = 2) (hct : P.cellsOf t = 1) (hkt : P.keyType k = true) (hz : 0 < P.types.size) {a b : Int} (ha : (Lit.int .i64 a).wf = true) (hb : (Lit.int .i64 b).wf = true) :
 keyOf P k (qC (a,b))=some (.string (keyBytes [.int .i64 a,.int .i64 b])):=by
 obtain ⟨d,hd⟩:∃ d,P.types.size=d+1:=⟨P.types.size - 1,by omega⟩
 have e1:P.keyLits (d+1+1) k [.int .i64 a,.int .i64 b]=some [.int .i64 a,.int .i64 b]:=by
  unfold Program.keyLits;rw [hk];dsimp only;rw [if_pos ⟨by simp [hc],hn⟩];simp [h0,h1,o0,o1,hct,keyLits_int ht d ha,keyLits_int ht d hb]
 unfold keyOf qC;rw [hk];dsimp only;rw [if_pos (by simp [hkt,Value.formed,hk,hc]),hd];simp only [Value.cells];rw [e1];rfl
theorem zI.loc {P:Program} {k t:TypeId} {f0 f1:Field} (K:Keyed P k) (hk:P.underlying k=some (.struct #[f0,f1])) (ht:P.underlying t=some (.int .i64)) (h0:f0.type=t) (h1:f1.type=t) (o0:f0.offset=0) (o1:f1.offset=1)
 (hn : ((#[f0, f1] : Array Field).all (·.name != "_")) = true) (hc : P.cellsOf k = 2) (hct : P.cellsOf t = 1) (hkt : P.keyType k = true) (hz : 0 < P.types.size) :
 zI P k qC (fun x=>(Lit.int .i64 x.1).wf=true∧(Lit.int .i64 x.2).wf=true) :=
 ⟨K,fun x hx=>⟨_,Jr hk ht h0 h1 o0 o1 hn hc hct hkt hz hx.1 hx.2⟩,fun x y h=>by
  obtain ⟨a,b⟩:=x;obtain ⟨c,d⟩:=y;simp [qC] at h;simp [h]⟩
theorem wf_i64 {x:Int} (h:I64 x):(Lit.int .i64 x).wf=true:=by
 simp [Lit.wf,IntKind.min,IntKind.max,IntKind.signed,IntKind.bits];exact ⟨h.1,by have:=h.2;omega⟩
end
end Go.Proofs.Ytffcpijeebagfaa
end
section
namespace Go.Proofs.Ytffcpijeebagfaa
open Go.RowKit
theorem kC {a b:Bool} (h:a=b):Ending.returned (.bool a)=.returned (.bool b):=by rw [h]
theorem qD (k:Int) (w:World):Calls Try.prog 92 #[.int .i64 k] w fun e w'=>e=.returned (.bool (oL k))∧w=w':=by
 go_enter Try.func92,Try.ntmps92
 go_wp2
 all_goals (go_ret;refine ⟨kC ?_,rfl⟩;simp [oL];omega)
theorem ET (k:Int) (w:World):Calls Try.prog 91 #[.int .i64 k] w fun e w'=>e=.returned (.bool (jH k))∧w=w':=by
 go_enter Try.func91,Try.ntmps91
 go_wp2
 all_goals (go_ret;refine ⟨kC ?_,rfl⟩;simp [jH];omega)
theorem nU (k:Int) (w:World):Calls Try.prog 61 #[.int .i64 k] w fun e w'=>e=.returned (.bool (dL k))∧w=w':=by
 go_enter Try.func61,Try.ntmps61
 go_wp2_with ((go_at_call 92;refine (qD _ _).mono ?_;rintro e w' ⟨rfl,rfl⟩))
 all_goals (go_ret;refine ⟨kC ?_,rfl⟩;unfold oL at *;unfold dL;simp only [decide_eq_true_eq] at *;rw [Bool.eq_iff_iff];simp;omega)
theorem VN (x0 x1 x2 x3 x4 x5 x6:Value) :
 (∀ w,(Instr.index 136 (.agg #[x0,x1,x2,x3,x4,x5,x6]) (.int .i64 0)).run Try.prog w=.ok x0 w)∧(∀ w,(Instr.index 136 (.agg #[x0,x1,x2,x3,x4,x5,x6]) (.int .i64 1)).run Try.prog w=.ok x1 w) ∧
 (∀ w,(Instr.index 136 (.agg #[x0,x1,x2,x3,x4,x5,x6]) (.int .i64 2)).run Try.prog w=.ok x2 w)∧(∀ w,(Instr.index 136 (.agg #[x0,x1,x2,x3,x4,x5,x6]) (.int .i64 3)).run Try.prog w=.ok x3 w) ∧
 (∀ w,(Instr.index 136 (.agg #[x0,x1,x2,x3,x4,x5,x6]) (.int .i64 4)).run Try.prog w=.ok x4 w)∧(∀ w,(Instr.index 136 (.agg #[x0,x1,x2,x3,x4,x5,x6]) (.int .i64 5)).run Try.prog w=.ok x5 w) ∧
 (∀ w,(Instr.index 136 (.agg #[x0,x1,x2,x3,x4,x5,x6]) (.int .i64 6)).run Try.prog w=.ok x6 w) :=
 ⟨fun _=>by kernel_rfl,fun _=>by kernel_rfl,fun _=>by kernel_rfl,fun _=>by kernel_rfl,fun _=>by kernel_rfl,fun _=>by kernel_rfl,fun _=>by kernel_rfl⟩
set_option maxHeartbeats 4000000 in
set_option maxRecDepth 100000 in
theorem qm (e:Ev) (w:World):Calls Try.prog 59 #[e.val] w fun r w'=>r=.returned (.bool e.valid)∧Below w.heap.size w w':=by
 obtain ⟨g,kind,obj,off,k,n,fn,pc,stack⟩:=e;unfold Ev.val;obtain ⟨i0,i1,i2,i3,i4,i5,i6⟩:=VN (.int .i64 obj) (.int .i64 off) (.int .i64 k) (.int .i64 n) (.int .i64 fn) (.int .i64 pc) (.int .i64 stack)
 go_enter Try.func59,Try.ntmps59
 go_wp2_with (first | (go_at_call 91;refine (ET _ _).mono ?_;rintro e w' ⟨rfl,rfl⟩))
 all_goals try (refine wp_loop_rounds 8 ?_)
 all_goals try (repeat any_goals (rw [rounds_succ];go_wp2_with (first | (go_at_call 92;refine (qD _ _).mono ?_;rintro e w' ⟨rfl,rfl⟩) | (go_at_call 61;refine (nU _ _).mono ?_;rintro e w' ⟨rfl,rfl⟩))))
 all_goals (go_ret;refine ⟨kC ?_,(Below.refl _ _).alloc (Nat.le_refl _) _⟩)
 all_goals (simp only [jH,dL,oL,decide_eq_true_eq,beq_iff_eq,beq_eq_false_iff_ne,ne_eq,decide_eq_false_iff_not] at *)
 all_goals (unfold Ev.valid Ev.rest;rw [Bool.eq_iff_iff];simp only [jH,fH,Bool.and_eq_true,decide_eq_true_eq,Bool.ite_eq_true_distrib,Bool.false_eq_true,false_iff,true_iff,beq_iff_eq,Bool.or_eq_true])
 all_goals clear i0 i1 i2 i3 i4 i5 i6
 all_goals go_light
 all_goals first | omega | (split <;> omega) | (split <;> first | omega | (split <;> omega)) | (split <;> first | omega | (split <;> first | omega | (split <;> omega)))
section
def Ch.val (c:Ch):Value:=.agg #[.int .i64 c.cap,.int .i64 c.sent,.int .i64 c.recv,.bool c.closed]
def Mu.val (m:Mu):Value:=.agg #[.bool m.locked,.int .i64 m.readers]
def iK (x:Int):Value:=.int .i64 x
def dJ (f:Int→Option Ch) (x:Int):Option Value:=(f x).map Ch.val
def rH (f:Int×Int→Option Mu) (x:Int×Int):Option Value:=(f x).map Mu.val
def kU (f:Int×Int→Option Bool) (x:Int×Int):Option Value:=(f x).map Value.bool
theorem nT (f:Int→Option Ch) (x:Int) (c:Ch):upd (dJ f) x c.val=dJ (upd f x c):=by
 funext y;unfold upd dJ;by_cases h:y=x <;> simp [h]
theorem Jw (f:Int×Int→Option Mu) (x:Int×Int) (c:Mu):upd (rH f) x c.val=rH (upd f x c):=by
 funext y;unfold upd rH;by_cases h:y=x <;> simp [h]
theorem Bn (f:Int×Int→Option Bool) (x:Int×Int) (c:Bool):upd (kU f) x (.bool c)=kU (upd f x c):=by
 funext y;unfold upd kU;by_cases h:y=x <;> simp [h]
theorem AZ (w:World):(zeroValue 95).run Try.prog w=.ok ch0.val w:=by kernel_rfl
theorem OV (w:World):(zeroValue 100).run Try.prog w=.ok mu0.val w:=by kernel_rfl
theorem VD (w:World):(zeroValue 4).run Try.prog w=.ok (.bool false) w:=by kernel_rfl
theorem KO:zI Try.prog 3 iK (fun x=>(Lit.int .i64 x).wf=true):=zI.int Try.underlying3
theorem laidOut:laidOutB Try.prog=true:=by kernel_rfl
theorem TH:Maps.Keyed Try.prog 98:=Maps.Keyed.of_law (deep_law_gate laidOut (of_decide_eq_true (by kernel_rfl)) (of_decide_eq_true (by kernel_rfl)) (by kernel_rfl) (by kernel_rfl))
theorem Qn:zI Try.prog 98 qC (fun x=>(Lit.int .i64 x.1).wf=true∧(Lit.int .i64 x.2).wf=true) :=
 zI.loc TH Try.underlying98 Try.underlying3 rfl rfl rfl rfl (by kernel_rfl) (by kernel_rfl) (by kernel_rfl) (by kernel_rfl) (of_decide_eq_true (by kernel_rfl))
class KB where
 p:Nat→Prop
variable [KB]
def gQ (w:World) (v:Value) (xs:List Int) (sb:Nat):Prop :=
 ∃ A c,v=.slice A xs.length c∧xs.length≤c∧(0 < xs.length→∃ b o,A=some ⟨b,o,none⟩∧(b≠sb∧KB.p b)∧∀ i x,xs[i]? = some x→w.cell? ⟨b,o+i,none⟩=some (.int .i64 x))
def fG (s:TS) (bc bm bd:Nat) (kv:Value):Array Value :=
 #[.int .i64 s.events,.int .i64 s.gor,.map (some bc),.map (some bm),.map (some bd),kv,.int .i64 s.grp.obj,.int .i64 s.grp.k,.int .i64 s.grp.n,.int .i64 s.grp.snd,.int .i64 s.grp.rcv]
structure dK (w:World) (sb bc bm bd N:Nat) (s:TS) (kv:Value):Prop where
 row:w.heap[sb]? = some (.cells (fG s bc bm bd kv) 92 (0,0))
 kinds:gQ w kv s.grp.kinds sb
 chans:MapOf iK w Try.prog 3 bc N (dJ s.chans)
 mus:MapOf qC w Try.prog 98 bm N (rH s.mus)
 done:MapOf qC w Try.prog 98 bd N (kU s.done)
 ncm:bc≠bm
 ncd:bc≠bd
 nmd:bm≠bd
omit [KB] in
theorem MapOf.fF {κ:Type} {kv:κ→Value} {w:World} {P:Program} {k b n:Nat} {f:κ→Option Value} (h:MapOf kv w P k b n f) {g:Nat} {cs:Array Value} {t:TypeId} {fr:Nat×Nat} (hg:w.heap[g]? = some (.cells cs t fr)):b≠g:=by
 rintro rfl;obtain ⟨_,⟨es,cl,h1,_⟩,_⟩:=h;rw [hg] at h1;cases h1
theorem gQ.keep {w w':World} {v:Value} {xs:List Int} {sb:Nat} (h:gQ w v xs sb) {L:List Nat} (hb:But L w w') (hL:∀ b cs t fr,w.heap[b]? = some (.cells cs t fr)→b≠sb→b ∉ L):gQ w' v xs sb:=by
 obtain ⟨A,c,h1,h2,h3⟩:=h;refine ⟨A,c,h1,h2,fun hn=>?_⟩;obtain ⟨b,o,hA,hne,hc⟩:=h3 hn;refine ⟨b,o,hA,hne,fun i x hx=>?_⟩;have h4:=hc i x hx;have hlt:=block_lt_of_cell h4
 have hblk:∃ cs t fr,w.heap[b]? = some (.cells cs t fr):=by
  unfold World.cell? at h4;dsimp only at h4;split at h4
  ·rename_i cs t fr hh;exact ⟨cs,t,fr,hh⟩
  ·cases h4
 obtain ⟨cs,t,fr,hh⟩:=hblk;exact (World.cell?_of_block (w:=w) (a:=⟨b,o+i,none⟩) (hb.block b hlt (hL b cs t fr hh hne.1))).trans h4
section
variable {w w':World} {sb bc bm bd N:Nat} {s:TS} {kv:Value}
theorem dK.cell (h:dK w sb bc bm bd N s kv) (j:Nat):w.cell? ⟨sb,j,none⟩=(fG s bc bm bd kv)[j]?:=cell_of_row w sb j _ _ _ h.row
theorem dK.frozen (h:dK w sb bc bm bd N s kv) (j:Nat):w.frozen? ⟨sb,j,none⟩=false:=frozen_of_row w sb j _ _ h.row
theorem dK.lt (h:dK w sb bc bm bd N s kv):sb < w.heap.size:=by
 rcases Nat.lt_or_ge sb w.heap.size with hlt | hge
 ·exact hlt
 ·have:=h.row;rw [Array.getElem?_eq_none hge] at this;cases this
theorem dK.but (h:dK w sb bc bm bd N s kv) {L:List Nat} (hb:But L w w') (h0:sb ∉ L) (h1:bc ∉ L) (h2:bm ∉ L) (h3:bd ∉ L) (hL:∀ b cs t fr,w.heap[b]? = some (.cells cs t fr)→b≠sb→b ∉ L):dK w' sb bc bm bd N s kv :=
 ⟨(hb.block sb h.lt h0).trans h.row,h.kinds.keep hb hL,h.chans.but hb h1,h.mus.but hb h2,h.done.but hb h3,h.ncm,h.ncd,h.nmd⟩
theorem dK.below (h:dK w sb bc bm bd N s kv) (hb:Below w.heap.size w w'):dK w' sb bc bm bd N s kv :=
 h.but (L:=[]) ⟨hb.os,hb.tape,hb.output,hb.size,fun k hk _=>hb.block k hk⟩ (by simp) (by simp) (by simp) (by simp) (fun _ _ _ _ _ _=>by simp)
theorem dK.mono (h:dK w sb bc bm bd N s kv) {N':Nat} (hn:N≤N'):dK w sb bc bm bd N' s kv :=
 ⟨h.row,h.kinds,h.chans.mono hn,h.mus.mono hn,h.done.mono hn,h.ncm,h.ncd,h.nmd⟩
omit [KB] in
theorem gQ.kb {K1 K2:KB} {w:World} {v:Value} {xs:List Int} {sb:Nat} (h:@gQ K1 w v xs sb) (hk:∀ b,K1.p b→K2.p b):@gQ K2 w v xs sb:=by
 obtain ⟨A,c,h1,h2,h3⟩:=h;refine ⟨A,c,h1,h2,fun hn=>?_⟩;obtain ⟨b,o,hA,hne,hc⟩:=h3 hn;exact ⟨b,o,hA,⟨hne.1,hk b hne.2⟩,hc⟩
theorem dK.Jy (h:dK w sb bc bm bd N s kv) (hb:But [bc] w w') {N':Nat} {f:Int→Option Ch} {M:Nat} (hm:MapOf iK w' Try.prog 3 bc M (dJ f)) (hM:M≤N') (hN:N≤N'):dK w' sb bc bm bd N' { s with chans:=f } kv :=
 ⟨(hb.block sb h.lt (by simpa using Ne.symm (h.chans.fF h.row))).trans h.row,h.kinds.keep hb (fun b cs t fr hc _ hm=>by
  simp only [List.mem_singleton] at hm;subst hm;exact absurd rfl (h.chans.fF hc)),hm.mono hM,(h.mus.but hb (by simpa using Ne.symm h.ncm)).mono hN,(h.done.but hb (by simpa using Ne.symm h.ncd)).mono hN,h.ncm,h.ncd,h.nmd⟩
theorem dK.QA (h:dK w sb bc bm bd N s kv) (hb:But [bm] w w') {N':Nat} {f:Int×Int→Option Mu} {M:Nat} (hm:MapOf qC w' Try.prog 98 bm M (rH f)) (hM:M≤N') (hN:N≤N'):dK w' sb bc bm bd N' { s with mus:=f } kv :=
 ⟨(hb.block sb h.lt (by simpa using Ne.symm (h.mus.fF h.row))).trans h.row,h.kinds.keep hb (fun b cs t fr hc _ hm=>by
  simp only [List.mem_singleton] at hm;subst hm;exact absurd rfl (h.mus.fF hc)),(h.chans.but hb (by simpa using h.ncm)).mono hN,hm.mono hM,(h.done.but hb (by simpa using Ne.symm h.nmd)).mono hN,h.ncm,h.ncd,h.nmd⟩
theorem dK.MW (h:dK w sb bc bm bd N s kv) (hb:But [bd] w w') {N':Nat} {f:Int×Int→Option Bool} {M:Nat} (hm:MapOf qC w' Try.prog 98 bd M (kU f)) (hM:M≤N') (hN:N≤N'):dK w' sb bc bm bd N' { s with done:=f } kv :=
 ⟨(hb.block sb h.lt (by simpa using Ne.symm (h.done.fF h.row))).trans h.row,h.kinds.keep hb (fun b cs t fr hc _ hm=>by
  simp only [List.mem_singleton] at hm;subst hm;exact absurd rfl (h.done.fF hc)),(h.chans.but hb (by simpa using h.ncd)).mono hN,(h.mus.but hb (by simpa using h.nmd)).mono hN,hm.mono hM,h.ncm,h.ncd,h.nmd⟩
theorem dK.Hg (h:dK w sb bc bm bd N s kv) (hb:But [sb] w w') {ev gor:Int} (hr:w'.heap[sb]? = some (.cells (fG { s with events:=ev,gor:=gor } bc bm bd kv) 92 (0,0))) {N':Nat} (hN:N≤N'):dK w' sb bc bm bd N' { s with events:=ev,gor:=gor } kv :=
 ⟨hr,h.kinds.keep hb (fun b cs t fr hc hne hm=>hne (by simpa using hm)),(h.chans.but hb (by simpa using h.chans.fF h.row)).mono hN,(h.mus.but hb (by simpa using h.mus.fF h.row)).mono hN,(h.done.but hb (by simpa using h.done.fF h.row)).mono hN,h.ncm,h.ncd,h.nmd⟩
end
omit [KB] in
theorem oN (k:Int) (w:World):Calls Try.prog 93 #[.int .i64 k] w fun e w'=>e=.returned (.bool (jk k))∧w=w':=by
 go_enter Try.func93,Try.ntmps93
 go_wp2
 all_goals (go_ret;refine ⟨kC ?_,rfl⟩;unfold jk;rw [Bool.eq_iff_iff];simp;try omega)
theorem open_any {sb bc bm bd N:Nat} {s:TS} {kv:Value} (w:World) (h:dK w sb bc bm bd N s kv):Calls Try.prog 25 #[.pointer (some ⟨sb,0,none⟩)] w fun e w'=>e=.returned (.bool s.isOpen)∧w=w':=by
 obtain ⟨A,c,hkv,hlc,_⟩:=h.kinds;have c5:w.cell? ⟨sb,5,none⟩=some (.slice A s.grp.kinds.length c):=by rw [h.cell 5,←hkv];rfl
 clear h hkv hlc
 go_enter Try.func25,Try.ntmps25
 go_wp2
 go_ret
 refine ⟨kC ?_,rfl⟩;unfold TS.isOpen;simp
omit [KB] in
set_option maxRecDepth 100000 in
set_option maxHeartbeats 1000000 in
theorem count_any (sb bc n:Nat) (f:Int→Option Ch) (e:Ev) (w:World) (hc:w.cell? ⟨sb,2,none⟩=some (.map (some bc)))
 (hm:MapOf iK w Try.prog 3 bc n (dJ f)) (hn:n < maxLen) (hobj:I64 e.obj) (hb:∀ c,(f e.obj).getD ch0=c→(0≤c.sent∧c.sent≤5000)∧(0≤c.recv∧c.recv≤5000)) :
 Calls Try.prog 94 #[.pointer (some ⟨sb,0,none⟩),e.val] w fun r w'=>r=.returned (.tuple #[])∧MapOf iK w' Try.prog 3 bc (n+1) (dJ (upd f e.obj (((f e.obj).getD ch0).count e.kind)))∧But [bc] w w':=by
 have hb0:=hb _ rfl;clear hb;obtain ⟨c,hcc⟩:∃ c,(f e.obj).getD ch0=c:=⟨_,rfl⟩
 rw [hcc] at hb0 ⊢;obtain ⟨⟨hs,hs2⟩,hr,hr2⟩:=hb0
 have hval:(dJ f e.obj).getD ch0.val=c.val:=by
  rw [←hcc];unfold dJ;cases f e.obj <;> rfl
 obtain ⟨g,kind,obj,off,k,en,fn,pc,stack⟩:=e;dsimp only at hcc hobj hval ⊢
 -- what is counted,under names of its own
 obtain ⟨c',hc'⟩:∃ c',c.count kind=c':=⟨_,rfl⟩
 rw [hc'];obtain ⟨cap,sent,recv,closed⟩:=c;obtain ⟨cap',sent',recv',closed'⟩:=c';dsimp only at hs hs2 hr hr2;unfold Ev.val
 have hl:∀ o:Obj,(Instr.lookup 86 (.map (some bc)) (.int .i64 obj) false).run Try.prog ((w.alloc o).drew)=.ok (.agg #[.int .i64 cap,.int .i64 sent,.int .i64 recv,.bool closed]) ((w.alloc o).drew):=fun o=>by
  have h1:MapOf iK (w.alloc o).drew Try.prog 3 bc n (dJ f):=hm.alloc o;have h2:=h1.look KO Try.underlying86 AZ obj (wf_i64 hobj);rw [hval] at h2;exact h2
 have hl2:∀ o o2:Obj,(Instr.lookup 86 (.map (some bc)) (.int .i64 obj) false).run Try.prog (((w.alloc o).alloc o2).drew)=.ok (.agg #[.int .i64 cap,.int .i64 sent,.int .i64 recv,.bool closed]) (((w.alloc o).alloc o2).drew):=fun o o2=>by
  have h1:MapOf iK ((w.alloc o).alloc o2).drew Try.prog 3 bc n (dJ f):=(hm.alloc o).alloc o2;have h2:=h1.look KO Try.underlying86 AZ obj (wf_i64 hobj);rw [hval] at h2;exact h2
 have hlt:=block_lt_of_cell hc;dsimp only at hlt;have HM:=Lib.hid hm;clear hm;have HCC:=Lib.hid hcc;clear hcc;have HV:=Lib.hid hval;clear hval;have HC:=Lib.hid hc';clear hc'
 go_enter Try.func94,Try.ntmps94
 go_wp2
 go_region
 go_upto_block 0 with fail
 go_cut [] (fun wx=>MapOf iK wx Try.prog 3 bc n (dJ f)∧But [bc] w wx∧wx.cell? ⟨sb,2,none⟩=some (.map (some bc))∧wx.cell? ⟨w.heap.size,2,none⟩=some (.int .i64 obj) ∧
  wx.cell? ⟨w.heap.size+1,0,none⟩=some (.int .i64 cap')∧wx.cell? ⟨w.heap.size+1,1,none⟩=some (.int .i64 sent')∧wx.cell? ⟨w.heap.size+1,2,none⟩=some (.int .i64 recv')∧wx.cell? ⟨w.heap.size+1,3,none⟩=some (.bool closed'))
 case first =>
  go_wp2
  all_goals go_meet
  all_goals (case' rel=>refine ⟨(HM.out.alloc _).alloc _,(((But.refl _ _).alloc _).alloc _).drew,?_⟩)
  all_goals (have hc':=HC.out;unfold Ch.count at hc')
  all_goals go_light
  all_goals clear hl hl2
  all_goals simp_all [go_sem]
 case rest =>
  obtain ⟨hm1,hbut,hc2,hobj2,h0,h1,h2,h3⟩:=hcut;obtain ⟨w1,hput,hm2,hg⟩:=(show MapOf iK wc.drew Try.prog 3 bc n (dJ f) from hm1).put KO Try.underlying86 hn obj (wf_i64 hobj) (.agg #[.int .i64 cap',.int .i64 sent',.int .i64 recv',.bool closed']);unfold iK at hput
  have hfin:MapOf iK w1 Try.prog 3 bc (n+1) (dJ (upd f obj ⟨cap',sent',recv',closed'⟩))∧But [bc] w w1:=by
   refine ⟨?_,?_⟩
   ·rw [←nT];exact hm2
   ·exact (hbut.drewN 0).drew.grown hg (.inl (by simp))
  have HF:=Lib.hid hfin;clear hfin hm1 hm2 hg hbut
  go_wp2
  go_region
  go_end0
  exact ⟨rfl,HF.out⟩
end
section
variable [KB]
set_option maxRecDepth 100000 in
set_option maxHeartbeats 4000000 in
theorem BP {sb bc bm bd N:Nat} {s:TS} {kv:Value} (w:World) (h:dK w sb bc bm bd N s kv) (hs:s.wf) (hN:N+2 < maxLen) (e:Ev) (hv:e.valid=true) (hk:dL e.kind=true) (hkb0:∀ b,w.heap.size≤b→KB.p b) :
 Calls Try.prog 62 #[.pointer (some ⟨sb,0,none⟩),e.val] w fun r w'=>r=.returned (.bool (s.operate e).isSome)∧(∃ kv',dK w' sb bc bm bd (N+2) ((s.operate e).getD s) kv')∧But [sb,bc] w w':=by
 have HKB:=Lib.hid hkb0;clear hkb0;have hbd:=TS.Gw hs hv hk;have hvo:=Ev.oP hv;have hiobj:I64 e.obj:=⟨by omega,by omega⟩;have hval:((dJ s.chans e.obj).getD ch0.val)=((s.chans e.obj).getD ch0).val:=by unfold dJ;cases s.chans e.obj <;> rfl
 have hsome:(dJ s.chans e.obj).isSome=(s.chans e.obj).isSome:=by unfold dJ;cases s.chans e.obj <;> rfl
 obtain ⟨cr,hcr⟩:∃ c,(s.chans e.obj).getD ch0=c:=⟨_,rfl⟩
 obtain ⟨kn,hkn⟩:∃ b,(s.chans e.obj).isSome=b:=⟨_,rfl⟩
 rw [hcr] at hval;rw [hkn] at hsome;obtain ⟨c,hc⟩:∃ c,s.chan e=c:=⟨_,rfl⟩
 have hck:c=if kn=true then cr else { cr with cap:=e.n }:=by
  rw [←hc,←hkn,←hcr];unfold TS.chan;cases s.chans e.obj <;> rfl
 rw [hc] at hbd;obtain ⟨⟨hs1,hs2⟩,⟨hr1,hr2⟩,hc1,hc2⟩:=hbd;have hev:=hs.ev;have hs3:c.sent≤5000:=by omega
 have hr3:c.recv≤5000:=by omega
 have c1:w.cell? ⟨sb,1,none⟩=some (.int .i64 s.gor):=h.cell 1;have c2:w.cell? ⟨sb,2,none⟩=some (.map (some bc)):=h.cell 2;have hlt:=h.lt;have hm:=h.chans;have HH:=Lib.hid h;clear h;have HS:=Lib.hid hs;clear hs;have HCc:=Lib.hid hc;clear hc;have HCR:=Lib.hid hcr;clear hcr;have HKN:=Lib.hid hkn;clear hkn;obtain ⟨g,kind,obj,off,k,en,fn,pc,stack⟩:=e;obtain ⟨rcap,rsent,rrecv,rclosed⟩:=cr;obtain ⟨cap,sent,recv,closed⟩:=c;dsimp only at *
 have hl:∀ o:Obj,(Instr.lookup 86 (.map (some bc)) (.int .i64 obj) true).run Try.prog ((w.alloc o).drew)=.ok (.tuple #[.agg #[.int .i64 rcap,.int .i64 rsent,.int .i64 rrecv,.bool rclosed],.bool kn]) ((w.alloc o).drew):=fun o=>by
  have h1:MapOf iK (w.alloc o).drew Try.prog 3 bc N (dJ s.chans):=hm.alloc o;have h2:=h1.look_ok KO Try.underlying86 AZ obj (wf_i64 hiobj);rw [hval,hsome] at h2;exact h2
 have hl2:∀ o o2:Obj,(Instr.lookup 86 (.map (some bc)) (.int .i64 obj) true).run Try.prog (((w.alloc o).alloc o2).drew)=.ok (.tuple #[.agg #[.int .i64 rcap,.int .i64 rsent,.int .i64 rrecv,.bool rclosed],.bool kn]) (((w.alloc o).alloc o2).drew):=fun o o2=>by
  have h1:MapOf iK ((w.alloc o).alloc o2).drew Try.prog 3 bc N (dJ s.chans):=(hm.alloc o).alloc o2;have h2:=h1.look_ok KO Try.underlying86 AZ obj (wf_i64 hiobj);rw [hval,hsome] at h2;exact h2
 have HM:=Lib.hid hm;clear hm;have HV:=Lib.hid hval;clear hval;have HSo:=Lib.hid hsome;clear hsome;have HCK:=Lib.hid hck;clear hck;unfold Ev.val
 go_enter Try.func62,Try.ntmps62
 go_wp2
 go_region
 go_upto_if 20 with fail
 go_cut [] (fun wx=>Below w.heap.size w wx∧w.heap.size+1 < wx.heap.size ∧
  wx.cell? ⟨w.heap.size,0,none⟩=some (.int .i64 g)∧wx.cell? ⟨w.heap.size,1,none⟩=some (.int .i64 kind)∧wx.cell? ⟨w.heap.size,2,none⟩=some (.int .i64 obj)∧wx.cell? ⟨w.heap.size,3,none⟩=some (.int .i64 off) ∧
  wx.cell? ⟨w.heap.size,4,none⟩=some (.int .i64 k)∧wx.cell? ⟨w.heap.size,5,none⟩=some (.int .i64 en)∧wx.cell? ⟨w.heap.size,6,none⟩=some (.int .i64 fn)∧wx.cell? ⟨w.heap.size,7,none⟩=some (.int .i64 pc)∧wx.cell? ⟨w.heap.size,8,none⟩=some (.int .i64 stack) ∧
  wx.heap[w.heap.size+1]? = some (.cells #[.int .i64 cap,.int .i64 sent,.int .i64 recv,.bool closed] 95 (0,0)))
 case first =>
  go_wp2
  all_goals go_meet
  all_goals (case' rel=>refine ⟨(((Below.refl _ _).alloc (Nat.le_refl _) _).alloc (by simp) _).drew,by simp,?_⟩)
  all_goals (have hck:=HCK.out;simp_all only [Bool.not_eq_true',Bool.not_eq_false',if_true,if_false,Bool.false_eq_true,Ch.mk.injEq])
  all_goals (obtain ⟨rfl,rfl,rfl,rfl⟩:=hck)
  all_goals (refine ⟨?_,?_,?_,?_,?_,?_,?_,?_,?_,heap_alloc2_new w _ _⟩ <;> simp [go_sem])
 case rest =>
  obtain ⟨wa,rfl⟩:∃ wa:World,wa=wc:=⟨_,rfl⟩
  obtain ⟨hb0,hz,e0,e1,e2,e3,e4,e5,e6,e7,e8,hrow⟩:=hcut;have k0:wa.cell? ⟨w.heap.size+1,0,none⟩=some (.int .i64 cap):=cell_of_row wa _ 0 _ _ _ hrow;have k1:wa.cell? ⟨w.heap.size+1,1,none⟩=some (.int .i64 sent):=cell_of_row wa _ 1 _ _ _ hrow;have k2:wa.cell? ⟨w.heap.size+1,2,none⟩=some (.int .i64 recv):=cell_of_row wa _ 2 _ _ _ hrow;have k3:wa.cell? ⟨w.heap.size+1,3,none⟩=some (.bool closed):=cell_of_row wa _ 3 _ _ _ hrow;have kf:wa.frozen? ⟨w.heap.size+1,3,none⟩=false:=frozen_of_row wa _ 3 _ _ hrow;have d1:wa.cell? ⟨sb,1,none⟩=some (.int .i64 s.gor):=(hb0.cell (p:=⟨sb,1,none⟩) hlt).trans c1;have d2:wa.cell? ⟨sb,2,none⟩=some (.map (some bc)):=(hb0.cell (p:=⟨sb,2,none⟩) hlt).trans c2;have hlt2:sb < wa.heap.size:=by omega
  have hlt3:w.heap.size < wa.heap.size:=by omega
  clear hl hl2 c1 c2;have HB0:=Lib.hid hb0;clear hb0;have HROW:=Lib.hid hrow;clear hrow
  have hno:∀ w':World,s.operate ⟨g,kind,obj,off,k,en,fn,pc,stack⟩=none→Below w.heap.size w w'→Ending.returned (.bool false)=.returned (.bool (s.operate ⟨g,kind,obj,off,k,en,fn,pc,stack⟩).isSome)∧(∃ kv',dK w' sb bc bm bd (N+2) ((s.operate ⟨g,kind,obj,off,k,en,fn,pc,stack⟩).getD s) kv')∧But [sb,bc] w w':=fun w' ho hb=>by
   rw [ho];exact ⟨rfl,⟨kv,(HH.out.below hb).mono (by omega)⟩,(But.refl _ _).below hb⟩
  have HNO:=Lib.hid hno;clear hno
  go_upto_block 0 with fail
  ·rename_i hne
   go_ret
   exact HNO.out _ (TS.U6 HCc.out hne) HB0.out
  ·go_cut [] (fun wx=>∃ (l:List Int) (snd rcv:Int) (gb:Nat),s.operate ⟨g,kind,obj,off,k,en,fn,pc,stack⟩=some (s.start ⟨g,kind,obj,off,k,en,fn,pc,stack⟩ ⟨cap,sent,recv,closed⟩ l snd rcv)∧Below w.heap.size w wx∧w.heap.size+1 < wx.heap.size∧wa.heap.size < wx.heap.size∧w.heap.size < gb∧gb≠sb ∧
    wx.cell? ⟨w.heap.size,0,none⟩=some (.int .i64 g)∧wx.cell? ⟨w.heap.size,1,none⟩=some (.int .i64 kind)∧wx.cell? ⟨w.heap.size,2,none⟩=some (.int .i64 obj)∧wx.cell? ⟨w.heap.size,3,none⟩=some (.int .i64 off) ∧
    wx.cell? ⟨w.heap.size,4,none⟩=some (.int .i64 k)∧wx.cell? ⟨w.heap.size,5,none⟩=some (.int .i64 en)∧wx.cell? ⟨w.heap.size,6,none⟩=some (.int .i64 fn)∧wx.cell? ⟨w.heap.size,7,none⟩=some (.int .i64 pc)∧wx.cell? ⟨w.heap.size,8,none⟩=some (.int .i64 stack) ∧
    wx.cell? ⟨w.heap.size+1,0,none⟩=some (.int .i64 cap)∧wx.cell? ⟨w.heap.size+1,1,none⟩=some (.int .i64 sent)∧wx.cell? ⟨w.heap.size+1,2,none⟩=some (.int .i64 recv)∧wx.cell? ⟨w.heap.size+1,3,none⟩=some (.bool closed) ∧
    wx.cell? ⟨wa.heap.size,0,none⟩=some (.slice (some ⟨gb,0,none⟩) l.length l.length)∧wx.cell? ⟨wa.heap.size,1,none⟩=some (.int .i64 obj)∧wx.cell? ⟨wa.heap.size,2,none⟩=some (.int .i64 k)∧wx.cell? ⟨wa.heap.size,3,none⟩=some (.int .i64 en) ∧
    wx.cell? ⟨wa.heap.size,4,none⟩=some (.int .i64 snd)∧wx.cell? ⟨wa.heap.size,5,none⟩=some (.int .i64 rcv)∧(∀ i x,l[i]? = some x→wx.cell? ⟨gb,i,none⟩=some (.int .i64 x)))
   case first =>
    go_wp2_with fail
    all_goals (have hcc:=HCc.out)
    all_goals first
     | (go_meet;first
       | refine ⟨[16],g, -1,wa.heap.size+1,TS.QI hcc ‹_› ‹_› ‹_› ‹_› ‹_›,?_⟩
       | refine ⟨[17,18,16],g, -1,wa.heap.size+1,TS.QJ hcc ‹_› ‹_› ‹_› ‹_› ‹_› ‹_› ‹_›,?_⟩
       | refine ⟨[18], -1,g,wa.heap.size+1,TS.QK hcc ‹_› ‹_› ‹_› ‹_›,?_⟩
       | refine ⟨[15,18,16], -1,g,wa.heap.size+1,TS.QL hcc ‹_› ‹_› ‹_› ‹_› ‹_› ‹_›,?_⟩)
     | (go_ret;refine HNO.out _ ?_ (HB0.out.alloc (by omega) _);first | exact TS.U7 hcc ‹_› ‹_› | exact TS.TY hcc ‹_› ‹_› | exact TS.U8 hcc ‹_› ‹_› | exact TS.U9 hcc ‹_› ‹_› | exact TS.Va hcc ‹_› ‹_› ‹_› | exact TS.Vb hcc ‹_› ‹_› ‹_› | exact TS.Vd hcc ‹_› ‹_› | exact TS.Ve hcc ‹_› ‹_› ‹_› | exact TS.Vf hcc ‹_› ‹_› ‹_› | exact TS.Vg hcc ‹_› ‹_› ‹_› ‹_›)
     | skip
    ·-- close
     have hmw:MapOf iK wa Try.prog 3 bc N (dJ s.chans):=HM.out.keep (HB0.out.block bc HM.out.lt);have hbl:=HM.out.lt;generalize hW:World.alloc (World.setCell _ _ _) _=W;have f1:W.cell? ⟨sb,2,none⟩=some (.map (some bc)):=by rw [←hW];clear hW;simp [go_sem, *]
     have f2:W.cell? ⟨w.heap.size,2,none⟩=some (.int .i64 obj):=by rw [←hW];clear hW;simp [go_sem, *]
     have f3:W.cell? ⟨w.heap.size+1,0,none⟩=some (.int .i64 cap):=by rw [←hW];clear hW;simp [go_sem, *]
     have f4:W.cell? ⟨w.heap.size+1,1,none⟩=some (.int .i64 sent):=by rw [←hW];clear hW;simp [go_sem, *]
     have f5:W.cell? ⟨w.heap.size+1,2,none⟩=some (.int .i64 recv):=by rw [←hW];clear hW;simp [go_sem, *]
     have f6:W.cell? ⟨w.heap.size+1,3,none⟩=some (.bool true):=by rw [←hW];clear hW;simp [go_sem, *]
     have hmW:MapOf iK W Try.prog 3 bc N (dJ s.chans):=by rw [←hW];exact (hmw.setCell (by simp;omega) _).alloc _
     have hBW:Below w.heap.size w W:=by rw [←hW];exact (HB0.out.setCell (by simp) _).alloc (by simp;omega) _
     obtain ⟨w1,hput,hm2,hg⟩:=(show MapOf iK W.drew Try.prog 3 bc N (dJ s.chans) from hmW).put KO Try.underlying86 (by omega) obj (wf_i64 hiobj) (.agg #[.int .i64 cap,.int .i64 sent,.int .i64 recv,.bool true]);unfold iK at hput
     have hfin:dK w1 sb bc bm bd (N+2) { s with chans:=upd s.chans obj ⟨cap,sent,recv,true⟩ } kv∧But [sb,bc] w w1:=by
      have hbt:But [bc] w w1:=((But.refl _ _).below hBW).drew.grown hg (.inl (by simp));exact ⟨HH.out.Jy hbt (by rw [←nT];exact hm2) (by omega) (by omega),hbt.mono (by simp)⟩
     have HF:=Lib.hid hfin;clear hfin hm2 hg hBW hmW hmw hW HNO;have hop:=TS.T9 hcc ‹_› ‹_› ‹_›;have HOP:=Lib.hid hop;clear hop hcc
     go_region
     go_wp2
     go_ret
     rw [HOP.out];exact ⟨rfl,⟨_,HF.out.1⟩,HF.out.2⟩
    ·-- a receive of a closed channel
     have hop:=TS.Ua hcc ‹_› ‹_› ‹_›
     go_ret
     rw [hop];refine ⟨kC ?_,⟨kv,?_⟩,(But.refl _ _).below (HB0.out.alloc (by omega) _)⟩
     ·by_cases hsr:sent=recv <;> simp [hsr]
     ·have hgd:(if sent=recv then some s else none).getD s=s:=by split <;> rfl
      rw [hgd];exact (HH.out.below (HB0.out.alloc (by omega) _)).mono (by omega)
    all_goals clear hcc HNO
    all_goals refine ⟨(HB0.out.alloc (by omega) _).alloc (by simp;omega) _,by simp;omega,by simp;omega,by omega,by omega,?_⟩
    all_goals go_light
    all_goals refine ⟨?_,?_,?_,?_,?_,?_,?_,?_,?_,?_,?_,?_,?_,?_,?_,?_,?_,?_,?_,?_⟩
    all_goals first | (simp [go_sem, *];done) | (rintro (_ | _ | _ | i) x hx <;> simp at hx <;> subst hx <;> simp [go_sem])
   case rest =>
    obtain ⟨l,snd,rcv,gb,hop,hb1,z1,z2,z3,z4,e0,e1,e2,e3,e4,e5,e6,e7,e8,k0,k1,k2,k3,o0,o1,o2,o3,o4,o5,hl⟩:=hcut;clear d1 d2 hlt2;have hbl:=HM.out.lt;have hne:bc≠sb:=HM.out.fF HH.out.row;have hmc:MapOf iK wc Try.prog 3 bc N (dJ s.chans):=HM.out.keep (hb1.block bc hbl);obtain ⟨w1,hput,hm2,hg⟩:=(show MapOf iK wc.drew Try.prog 3 bc N (dJ s.chans) from hmc).put KO Try.underlying86 (by omega) obj (wf_i64 hiobj) (.agg #[.int .i64 cap,.int .i64 sent,.int .i64 recv,.bool closed]);unfold iK at hput;have hb2:But [bc] wc w1:=(But.refl _ _).drew.grown hg (.inl (by simp));have hrow0:wc.heap[sb]? = some (.cells (fG s bc bm bd kv) 92 (0,0)):=(hb1.block sb hlt).trans HH.out.row;have hrow1:w1.heap[sb]? = some (.cells (fG s bc bm bd kv) 92 (0,0)):=(hb2.block sb (by omega) (by simpa using Ne.symm hne)).trans hrow0
    have d2:wc.cell? ⟨sb,2,none⟩=some (.map (some bc)):=cell_of_row wc sb 2 _ _ _ hrow0;have s5:w1.cell? ⟨sb,5,none⟩=some kv:=cell_of_row w1 sb 5 _ _ _ hrow1;have s6:w1.cell? ⟨sb,6,none⟩=some (.int .i64 s.grp.obj):=cell_of_row w1 sb 6 _ _ _ hrow1;have s7:w1.cell? ⟨sb,7,none⟩=some (.int .i64 s.grp.k):=cell_of_row w1 sb 7 _ _ _ hrow1;have s8:w1.cell? ⟨sb,8,none⟩=some (.int .i64 s.grp.n):=cell_of_row w1 sb 8 _ _ _ hrow1;have s9:w1.cell? ⟨sb,9,none⟩=some (.int .i64 s.grp.snd):=cell_of_row w1 sb 9 _ _ _ hrow1;have s10:w1.cell? ⟨sb,10,none⟩=some (.int .i64 s.grp.rcv):=cell_of_row w1 sb 10 _ _ _ hrow1;have sf:∀ j,w1.frozen? ⟨sb,j,none⟩=false:=fun j=>frozen_of_row w1 sb j _ _ hrow1
    have keepc:∀ b j v,b < wc.heap.size→b≠bc→wc.cell? ⟨b,j,none⟩=some v→w1.cell? ⟨b,j,none⟩=some v:=fun b j v h1 h2 h3=>(hb2.cell (p:=⟨b,j,none⟩) h1 (by simpa using h2)).trans h3
    have f0:=keepc _ _ _ (by omega) (by omega) e0;have f1:=keepc _ _ _ (by omega) (by omega) e1;have f2:=keepc _ _ _ (by omega) (by omega) e2;have f3:=keepc _ _ _ (by omega) (by omega) e3;have f4:=keepc _ _ _ (by omega) (by omega) e4;have f5:=keepc _ _ _ (by omega) (by omega) e5;have f6:=keepc _ _ _ (by omega) (by omega) e6;have f7:=keepc _ _ _ (by omega) (by omega) e7;have f8:=keepc _ _ _ (by omega) (by omega) e8;have p0:=keepc _ _ _ (by omega) (by omega) o0;have p1:=keepc _ _ _ (by omega) (by omega) o1;have p2:=keepc _ _ _ (by omega) (by omega) o2;have p3:=keepc _ _ _ (by omega) (by omega) o3;have p4:=keepc _ _ _ (by omega) (by omega) o4;have p5:=keepc _ _ _ (by omega) (by omega) o5;have HL:=Lib.hid hl;clear hl;have HM2:=Lib.hid hm2;clear hm2 hmc hg;have HB1:=Lib.hid hb1;clear hb1;have HB2:=Lib.hid hb2;clear hb2;have HOP:=Lib.hid hop;clear hop
    have HR1:=Lib.hid hrow1;clear hrow1 hrow0 keepc HNO
    go_wp2
    go_region
    go_wp2_with fail
    generalize hW:World.setCell _ _ _=W2
    have hrow2:W2.heap[sb]? = some (.cells (fG (s.start ⟨g,kind,obj,off,k,en,fn,pc,stack⟩ ⟨cap,sent,recv,closed⟩ l snd rcv) bc bm bd (.slice (some ⟨gb,0,none⟩) l.length l.length)) 92 (0,0)):=by
     rw [←hW];exact heap_setCell_same _ _ _ _ _ _ (heap_setCell_same _ _ _ _ _ _ (heap_setCell_same _ _ _ _ _ _ (heap_setCell_same _ _ _ _ _ _ (heap_setCell_same _ _ _ _ _ _ (heap_setCell_same _ _ _ _ _ _ HR1.out)))))
    have hb3:But [sb] w1 W2:=by
     rw [←hW];exact ((((((But.refl _ _).setCell (.inl (by simp)) _).setCell (.inl (by simp)) _).setCell (.inl (by simp)) _).setCell (.inl (by simp)) _).setCell (.inl (by simp)) _).setCell (.inl (by simp)) _
    clear hW
    have hm4:MapOf iK W2 Try.prog 3 bc (N+1) (dJ (upd s.chans obj ⟨cap,sent,recv,closed⟩)):=by
     rw [←nT];exact HM2.out.but hb3 (by simpa using hne)
    refine (count_any sb bc (N+1) (upd s.chans obj ⟨cap,sent,recv,closed⟩) ⟨g,kind,obj,off,k,en,fn,pc,stack⟩ W2 (cell_of_row W2 sb 2 _ _ _ hrow2) hm4 (by omega) hiobj (fun c hc=>by rw [upd_same] at hc;cases hc;exact ⟨⟨hs1,hs3⟩,hr1,hr3⟩)).mono ?_
    rintro r w3 ⟨rfl,hm5,hb4⟩
    have hfin:dK w3 sb bc bm bd (N+2) (s.start ⟨g,kind,obj,off,k,en,fn,pc,stack⟩ ⟨cap,sent,recv,closed⟩ l snd rcv) (.slice (some ⟨gb,0,none⟩) l.length l.length)∧But [sb,bc] w w3:=by
     have hbt:But [sb,bc] w w3:=(((But.refl _ _).below HB1.out).trans (HB2.out.mono (by simp))).trans ((hb3.mono (by simp)).trans (hb4.mono (by simp)));have hsz1:=HB2.out.size;have hsz2:=hb3.size;refine ⟨⟨(hb4.block sb (by omega) (by simpa using Ne.symm hne)).trans hrow2,⟨_,_,rfl,Nat.le_refl _,fun hl0=>⟨gb,0,rfl,⟨z4,HKB.out gb (by omega)⟩,fun i x hx=>?_⟩⟩,?_,(HH.out.mus.but hbt ?_).mono (by omega),(HH.out.done.but hbt ?_).mono (by omega),HH.out.ncm,HH.out.ncd,HH.out.nmd⟩,hbt⟩
     ·have hx0:=HL.out i x hx;have hlt0:=block_lt_of_cell hx0;dsimp only at hlt0;have hgbc:gb≠bc:=by omega
      rw [Nat.zero_add];exact (hb4.cell (p:=⟨gb,i,none⟩) (by dsimp only;omega) (by simpa using hgbc)).trans ((hb3.cell (p:=⟨gb,i,none⟩) (by dsimp only;omega) (by simpa using z4)).trans ((HB2.out.cell (p:=⟨gb,i,none⟩) hlt0 (by simpa using hgbc)).trans hx0))
     ·have h1:upd (upd s.chans obj ⟨cap,sent,recv,closed⟩) obj (((upd s.chans obj ⟨cap,sent,recv,closed⟩ obj).getD ch0).count kind)=upd s.chans obj ((⟨cap,sent,recv,closed⟩:Ch).count kind):=by
       rw [Ru,upd_same];rfl
      rw [h1] at hm5;exact hm5
     ·simp only [List.mem_cons,List.not_mem_nil,or_false,not_or];exact ⟨HH.out.mus.fF HH.out.row,Ne.symm HH.out.ncm⟩
     ·simp only [List.mem_cons,List.not_mem_nil,or_false,not_or];exact ⟨HH.out.done.fF HH.out.row,Ne.symm HH.out.ncd⟩
    have HF:=Lib.hid hfin;clear hfin hm5 hb4 hm4 hb3 hrow2
    go_wp2
    go_ret
    rw [HOP.out];exact ⟨rfl,⟨_,HF.out.1⟩,HF.out.2⟩
end
end Go.Proofs.Ytffcpijeebagfaa
end
