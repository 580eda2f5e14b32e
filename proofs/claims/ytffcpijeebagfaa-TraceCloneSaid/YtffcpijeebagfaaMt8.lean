/- The reference of chapter 30 on lists: New, Check, Valid, After, Whole, Goroutines. -/
import Derived.Test.YtffcpijeebagfaaMt7
import Derived.Shelf.SlMaps.Clone
import Derived.Deep.RegionHeld3
import Derived.Laws.CopyOwn
import Derived.OpenShut
set_option linter.unusedSimpArgs false
set_option linter.unusedVariables false
section
namespace Go.Proofs.Ytffcpijeebagfaa
open Go Go.RowKit
set_option maxRecDepth 100000
set_option maxHeartbeats 4000000
def R_rnew (ps rs:List Pa):Prop:=ps=[]∧rs=[RSt.new.pa]
theorem s_rnew:Spec Try.prog 20 R_rnew:=by
 refine sp20 EnvOK.e0 ?_;rintro ps rs ⟨rfl,rfl⟩;refine ⟨by simp,?_⟩;unfold pc20;refine pwp_start ?_;simp only [↓evP,evB,stB,reduceIte,reduceCtorEq,seval,RSt.pa,RSt.row,RSt.new,pr20]
end Go.Proofs.Ytffcpijeebagfaa
end
section
namespace Go.Proofs.Ytffcpijeebagfaa
open Go.RowKit
theorem EvAt.lit {w:World} {b:Nat} {t:TypeId} {fr:Nat×Nat} {cs:Array Value} (l:List Ev) (h:w.heap[b]? = some (.cells cs t fr)) (hcs:cs.toList=l.flatMap Ev.cells) (hl:l.length≤1000):EvAt w (.slice (some ⟨b,0,none⟩) l.length l.length) l:=by
 refine ⟨_,_,rfl,Nat.le_refl _,by omega,fun _=>⟨b,0,rfl,fun i e hi j x hx=>?_⟩⟩;rw [cell_of_row w b _ _ _ _ h,Nat.zero_add];have:=flat_at l i e hi j x hx;rw [←hcs] at this
 simpa using this
theorem EvAt.take {w:World} {A:Option Addr} {n c:Nat} {l:List Ev} (h:EvAt w (.slice A n c) l) {k:Nat} (hk:k≤l.length):EvAt w (.slice A k c) (l.take k):=by
 obtain ⟨A',c',h1,h2,h3,h4⟩:=h;simp only [Value.slice.injEq] at h1;obtain ⟨rfl,rfl,rfl⟩:=h1;have hlen:(l.take k).length=k:=by simp;omega
 refine ⟨A,c,by rw [hlen],by rw [hlen];omega,h3,fun hn=>?_⟩
 rw [hlen] at hn;obtain ⟨b,o,hA,hc⟩:=h4 (by omega);refine ⟨b,o,hA,fun i e hi j x hx=>hc i e ?_ j x hx⟩;rw [List.getElem?_take] at hi;split at hi
 ·exact hi
 ·cases hi
def evL1:List Ev:=[⟨0,14,0,0,1,0,0,0,0⟩,⟨0,15,5,0,0,0,0,0,0⟩,⟨1,17,5,0,0,0,0,0,0⟩,⟨1,18,5,0,0,0,0,0,0⟩,⟨0,16,5,0,0,0,0,0,0⟩]
def evL2:List Ev:=[⟨0,6,1,0,0,0,0,0,0⟩,⟨0,6,1,0,0,0,0,0,0⟩]
def evL3:List Ev:=[⟨0,17,5,0,0,1,0,0,0⟩]
theorem chkL1:chk evL1=5:=by decide
theorem chkL2:chk evL2=1:=by decide
theorem chkL3:chk evL3=0:=by decide
theorem wholeL1:wholeOf (evL1.take 3)=1:=by decide
set_option maxRecDepth 100000 in
set_option maxHeartbeats 4000000 in
theorem awake_any (w:World):Calls Try.prog 18 #[] w fun r w'=>r=.returned (.bool true)∧Below w.heap.size w w':=by
 have hC2:∀ (w:World) (v:Value),EvAt w v evL2→Calls Try.prog 56 #[v] w fun r w'=>r=.returned (.tuple #[.int .i64 1,.bool false])∧Below w.heap.size w w':=fun w v h=>by
  have:=check_any w v evL2 h (by decide);unfold CheckPost at this;rw [chkL2] at this;exact this
 have hC3:∀ (w:World) (v:Value),EvAt w v evL3→Calls Try.prog 56 #[v] w fun r w'=>r=.returned (.tuple #[.int .i64 0,.bool false])∧Below w.heap.size w w':=fun w v h=>by
  have:=check_any w v evL3 h (by decide);unfold CheckPost at this;rw [chkL3] at this;exact this
 have hV:∀ (w:World) (v:Value),EvAt w v evL1→Calls Try.prog 57 #[v] w fun r w'=>r=.returned (.bool true)∧Below w.heap.size w w':=fun w v h=>by
  have:=valid_any w v evL1 h (by decide);rw [chkL1] at this;exact this
 have hW:∀ (w:World) (v:Value),EvAt w v (evL1.take 3)→Calls Try.prog 58 #[v] w fun r w'=>r=.returned (.int .i64 1)∧Below w.heap.size w w':=fun w v h=>by
  have:=whole_any w v (evL1.take 3) h (by decide);rw [wholeL1] at this;exact this
 have HC2:=Lib.hid hC2;clear hC2;have HC3:=Lib.hid hC3;clear hC3;have HV:=Lib.hid hV;clear hV;have HW:=Lib.hid hW;clear hW
 go_enter Try.func18,Try.ntmps18
 go_upto_region 2 with fail
 generalize hX:World.alloc w _=W1;have ha1:EvAt W1 (.slice (some ⟨w.heap.size,0,none⟩) 5 5) evL1:=by rw [←hX];exact EvAt.lit evL1 (heap_alloc_new w _) rfl (by decide)
 have hb1:Below w.heap.size w W1:=by rw [←hX];exact (Below.refl _ _).alloc (Nat.le_refl _) _
 clear hX;have HA1:=Lib.hid ha1;clear ha1;have HB1:=Lib.hid hb1;clear hb1
 go_wp2_with fail
 refine (HC2.out _ _ (EvAt.lit evL2 (heap_alloc_new _ _) rfl (by decide))).mono ?_;rintro r w2 ⟨rfl,hb2⟩;have hb2':Below W1.heap.size W1 w2:=((Below.refl _ _).alloc (Nat.le_refl _) _).trans (hb2.mono (by simp));have HB2:=Lib.hid hb2';clear hb2 hb2'
 go_wp2_with fail
 refine (HC3.out _ _ (EvAt.lit evL3 (heap_alloc_new _ _) rfl (by decide))).mono ?_;rintro r w3 ⟨rfl,hb3⟩;have hb3':Below W1.heap.size W1 w3:=HB2.out.trans (((Below.refl _ _).alloc HB2.out.size _).trans (hb3.mono (by have:=HB2.out.size;simp;omega)))
 have HB3:=Lib.hid hb3';clear hb3 hb3'
 go_wp2_with fail
 refine (HV.out _ _ (HA1.out.keep HB3.out)).mono ?_;rintro r w4 ⟨rfl,hb4⟩;have hb4':Below W1.heap.size W1 w4:=HB3.out.trans (hb4.mono HB3.out.size);have HB4:=Lib.hid hb4';clear hb4 hb4'
 go_wp2_with fail
 refine (HW.out _ _ ((HA1.out.keep HB4.out).take (k:=3) (by decide))).mono ?_;rintro r w5 ⟨rfl,hb5⟩;have hb5':Below w.heap.size w w5:=HB1.out.trans ((HB4.out.trans (hb5.mono HB4.out.size)).mono HB1.out.size);have HB5:=Lib.hid hb5';clear hb5 hb5'
 go_wp2
 go_ret
 exact ⟨rfl,HB5.out⟩
end Go.Proofs.Ytffcpijeebagfaa
end
section
namespace Go.Proofs.Ytffcpijeebagfaa
open Go Go.RowKit
set_option maxRecDepth 100000
set_option maxHeartbeats 4000000
def R_awake30 (ps rs:List Pa):Prop:=ps=[]∧rs=[pB true]
theorem s_awake30:Spec Try.prog 18 R_awake30:=by
 rintro ps rs ⟨rfl,rfl⟩ S w vals _ hv;obtain rfl:=hv.nil_inv;refine (awake_any w).mono ?_;rintro r w' ⟨rfl,h4⟩;exact ⟨_,S,rfl,RP.mkBool true,h4,fun _ _=>rfl⟩
theorem both_step {r:RSt} {s:TS} (hr:Rel r s) (hw:s.wf) (e:Ev):∃ r',r.addR e=(r',(s.add e).isSome)∧Rel r' ((s.add e).getD s)∧((s.add e).getD s).wf:=by
 have h:=hr.step hw e
 cases ha:s.add e with
 | none=>rw [ha] at h;exact ⟨r,h,hr,hw⟩
 | some u =>
   rw [ha] at h;obtain ⟨r',h1,h2⟩:=h;exact ⟨r',h1,h2,TS.add_wf hw ha⟩
theorem Rel.open_eq {r:RSt} {s:TS} (h:Rel r s):s.isOpen=decide ((r.next.length:Int) > 0):=by
 unfold TS.isOpen;rw [h.gp.kinds,List.length_map];exact decide_eq_decide.2 (by omega)
end Go.Proofs.Ytffcpijeebagfaa
end
section
namespace Go.Proofs.Ytffcpijeebagfaa
open Go.RowKit Go.Maps
set_option maxRecDepth 100000
set_option maxHeartbeats 4000000
theorem mclone_c {w:World} {b:Nat} {es:Array MapEntry} {clock:Nat} (hb:w.heap[b]? = some (.map es clock)) :
 Calls Try.prog 69 #[.map (some b)] w fun e w'=>e=.returned (.map (some w.heap.size))∧w'=w.alloc (.map es clock):=by
 have mixed:Try.prog.follows .mixedOrders=true:=by kernel_rfl
 have hq:=fun w=>run_eql_map_nil_sl (P:=Try.prog) w 86 _ _ (some b) Try.underlying86
 go_enter Try.func69,Try.ntmps69
 go_wp2
 rw [run_callFunc_extern Try.func103 (by kernel_rfl) (by kernel_rfl) (by kernel_rfl) (e:=Extern.MapsClone.clone) (by kernel_rfl),run_maps_clone_sl w 86 hb];simp only [Result.andThen];rw [Oper.upon_value]
 go_wp2
 rw [run_typeAssert_map_sl _ 86 _ _ _ _ Try.underlying86];simp only [Result.andThen];rw [Oper.upon_value]
 go_wp2
 go_ret
 exact ⟨rfl,rfl⟩
theorem mclone_m {w:World} {b:Nat} {es:Array MapEntry} {clock:Nat} (hb:w.heap[b]? = some (.map es clock)) :
 Calls Try.prog 70 #[.map (some b)] w fun e w'=>e=.returned (.map (some w.heap.size))∧w'=w.alloc (.map es clock):=by
 have mixed:Try.prog.follows .mixedOrders=true:=by kernel_rfl
 have hq:=fun w=>run_eql_map_nil_sl (P:=Try.prog) w 87 _ _ (some b) Try.underlying87
 go_enter Try.func70,Try.ntmps70
 go_wp2
 rw [run_callFunc_extern Try.func103 (by kernel_rfl) (by kernel_rfl) (by kernel_rfl) (e:=Extern.MapsClone.clone) (by kernel_rfl),run_maps_clone_sl w 87 hb];simp only [Result.andThen];rw [Oper.upon_value]
 go_wp2
 rw [run_typeAssert_map_sl _ 87 _ _ _ _ Try.underlying87];simp only [Result.andThen];rw [Oper.upon_value]
 go_wp2
 go_ret
 exact ⟨rfl,rfl⟩
theorem mclone_d {w:World} {b:Nat} {es:Array MapEntry} {clock:Nat} (hb:w.heap[b]? = some (.map es clock)) :
 Calls Try.prog 71 #[.map (some b)] w fun e w'=>e=.returned (.map (some w.heap.size))∧w'=w.alloc (.map es clock):=by
 have mixed:Try.prog.follows .mixedOrders=true:=by kernel_rfl
 have hq:=fun w=>run_eql_map_nil_sl (P:=Try.prog) w 88 _ _ (some b) Try.underlying88
 go_enter Try.func71,Try.ntmps71
 go_wp2
 rw [run_callFunc_extern Try.func103 (by kernel_rfl) (by kernel_rfl) (by kernel_rfl) (e:=Extern.MapsClone.clone) (by kernel_rfl),run_maps_clone_sl w 88 hb];simp only [Result.andThen];rw [Oper.upon_value]
 go_wp2
 rw [run_typeAssert_map_sl _ 88 _ _ _ _ Try.underlying88];simp only [Result.andThen];rw [Oper.upon_value]
 go_wp2
 go_ret
 exact ⟨rfl,rfl⟩
section
theorem MapOf.at_ {κ:Type} {kv:κ→Value} {w w':World} {P:Program} {k b b' n:Nat} {f:κ→Option Value} (h:MapOf kv w P k b n f) (hb:w'.heap[b']? = w.heap[b]?):MapOf kv w' P k b' n f :=
 let ⟨D,⟨es,cl,h1,h2⟩,h3⟩:=h
 ⟨D,⟨es,cl,hb.trans h1,h2⟩,h3⟩
theorem block_under {W:World} {B:Nat} (sz:W.heap.size=B+1) (m1 m2 m3:Obj):(((W.alloc m1).alloc m2).alloc m3).heap[B]? = W.heap[B]? :=
 ((((Below.refl (B+1) W).alloc (by omega) m1).alloc (by simp [sz]) m2).alloc (by simp [sz]) m3).block B (by omega)
theorem cell_under {W:World} {B:Nat} (sz:W.heap.size=B+1) (m1 m2 m3:Obj) (j:Nat):(((W.alloc m1).alloc m2).alloc m3).cell? ⟨B,j,none⟩=W.cell? ⟨B,j,none⟩:=World.cell?_of_block (w:=W) (block_under sz m1 m2 m3)
theorem frozen_under {W:World} {B:Nat} (sz:W.heap.size=B+1) (m1 m2 m3:Obj) (j:Nat):(((W.alloc m1).alloc m2).alloc m3).frozen? ⟨B,j,none⟩=W.frozen? ⟨B,j,none⟩:=World.frozen?_of_block (w:=W) (block_under sz m1 m2 m3)
theorem size_setCells {b:Nat}:∀ (vs:List Value) (o:Nat) {w:World},(w.setCells b o vs).heap.size=w.heap.size
 | [],_,_=>rfl
 | v :: vs,o,w=>by
   show ((w.setCell ⟨b,o,none⟩ v).setCells b (o+1) vs).heap.size=_
   rw [size_setCells vs];simp [World.setCell]
theorem heap_setCells {b k:Nat} (h:k≠b):∀ (vs:List Value) (o:Nat) {w:World},(w.setCells b o vs).heap[k]? = w.heap[k]?
 | [],_,_=>rfl
 | v :: vs,o,w=>by
   show ((w.setCell ⟨b,o,none⟩ v).setCells b (o+1) vs).heap[k]? = _
   rw [heap_setCells h vs,heap_setCell_other _ _ _ _ h]
theorem below_setCells {B b:Nat} {a:World} (hB:B≤b):∀ (vs:List Value) (o:Nat) {w:World},Below B a w→Below B a (w.setCells b o vs)
 | [],_,_,h=>h
 | v :: vs,o,w,h=>below_setCells hB vs (o+1) (h.setCell (p:=⟨b,o,none⟩) hB v)
abbrev CS (sb bc bm bd:Nat) (o1 o2 o3:Obj) (w':World):Prop:=(w'.cell? ⟨sb,2,none⟩=some (.map (some bc))∧w'.cell? ⟨sb,3,none⟩=some (.map (some bm))∧w'.cell? ⟨sb,4,none⟩=some (.map (some bd)))∧w'.heap[bc]? = some o1∧w'.heap[bm]? = some o2∧w'.heap[bd]? = some o3
theorem CS.alloc {sb bc bm bd:Nat} {o1 o2 o3:Obj} {w':World} (h:CS sb bc bm bd o1 o2 o3 w') (o:Obj):CS sb bc bm bd o1 o2 o3 (w'.alloc o):=by
 obtain ⟨⟨h1,h2,h3⟩,h4,h5,h6⟩:=h
 have lt:∀ {b:Nat} {x:Obj},w'.heap[b]? = some x→b < w'.heap.size:=fun {b x} e=>by
  rcases Nat.lt_or_ge b w'.heap.size with q | q
  ·exact q
  ·rw [Array.getElem?_eq_none q] at e;cases e
 have l0:sb < w'.heap.size:=World.block_lt_of_cell? w' _ h1;exact ⟨⟨by rw [World.cell?_alloc_lt w' o ⟨sb,2,none⟩ l0];exact h1,by rw [World.cell?_alloc_lt w' o ⟨sb,3,none⟩ l0];exact h2,by rw [World.cell?_alloc_lt w' o ⟨sb,4,none⟩ l0];exact h3⟩,by rw [Below.heap_alloc _ _ _ (lt h4)];exact h4,by rw [Below.heap_alloc _ _ _ (lt h5)];exact h5,by rw [Below.heap_alloc _ _ _ (lt h6)];exact h6⟩
theorem CS.drew {sb bc bm bd:Nat} {o1 o2 o3:Obj} {w':World} (h:CS sb bc bm bd o1 o2 o3 w'):CS sb bc bm bd o1 o2 o3 w'.drew:=h
theorem CS.setCell {sb bc bm bd:Nat} {o1 o2 o3:Obj} {w':World} (h:CS sb bc bm bd o1 o2 o3 w') {p:Addr} (u:Value) (hp:sb≠p.block∧bc≠p.block∧bm≠p.block∧bd≠p.block):CS sb bc bm bd o1 o2 o3 (w'.setCell p u):=by
 obtain ⟨⟨h1,h2,h3⟩,h4,h5,h6⟩:=h;obtain ⟨p0,p1,p2,p3⟩:=hp;have blk:∀ {b:Nat},b≠p.block→(w'.setCell p u).heap[b]? = w'.heap[b]?:=fun {b} e=>Below.heap_setCell _ _ _ _ e
 exact ⟨⟨(World.cell?_of_block (w:=w') (blk p0)).trans h1,(World.cell?_of_block (w:=w') (blk p0)).trans h2,(World.cell?_of_block (w:=w') (blk p0)).trans h3⟩,(blk p1).trans h4,(blk p2).trans h5,(blk p3).trans h6⟩
variable [KB]
theorem clone_walk {sb bc bm bd N:Nat} {s:TS} {kv:Value} (w:World) (h:TRep w sb bc bm bd N s kv) (hk3:s.grp.kinds.length≤3):Calls Try.prog 23 #[.pointer (some ⟨sb,0,none⟩)] w fun e w'=>e=.returned (.pointer (some ⟨w.heap.size,0,none⟩))∧Below w.heap.size w w'∧w'.heap.size=w.heap.size+5∧∃ kv',@TRep ⟨fun b=>w.heap.size≤b⟩ w' w.heap.size (w.heap.size+1) (w.heap.size+1+1) (w.heap.size+1+1+1) N s kv':=by
 have mixed:Try.prog.follows .mixedOrders=true:=by kernel_rfl
 have c0:w.cell? ⟨sb,0,none⟩=some (.int .i64 s.events):=h.cell 0;have c1:w.cell? ⟨sb,1,none⟩=some (.int .i64 s.gor):=h.cell 1;have c2:w.cell? ⟨sb,2,none⟩=some (.map (some bc)):=h.cell 2;have c3:w.cell? ⟨sb,3,none⟩=some (.map (some bm)):=h.cell 3;have c4:w.cell? ⟨sb,4,none⟩=some (.map (some bd)):=h.cell 4;have c5:w.cell? ⟨sb,5,none⟩=some kv:=h.cell 5;have c6:w.cell? ⟨sb,6,none⟩=some (.int .i64 s.grp.obj):=h.cell 6;have c7:w.cell? ⟨sb,7,none⟩=some (.int .i64 s.grp.k):=h.cell 7;have c8:w.cell? ⟨sb,8,none⟩=some (.int .i64 s.grp.n):=h.cell 8;have c9:w.cell? ⟨sb,9,none⟩=some (.int .i64 s.grp.snd):=h.cell 9;have c10:w.cell? ⟨sb,10,none⟩=some (.int .i64 s.grp.rcv):=h.cell 10;obtain ⟨A,cap,rfl,hcap,hks⟩:=h.kinds;obtain ⟨es1,cl1,m1⟩:∃ es cl,w.heap[bc]? = some (.map es cl):=by obtain ⟨_,⟨es,cl,h1,_⟩,_⟩:=h.chans;exact ⟨es,cl,h1⟩
 obtain ⟨es2,cl2,m2⟩:∃ es cl,w.heap[bm]? = some (.map es cl):=by obtain ⟨_,⟨es,cl,h1,_⟩,_⟩:=h.mus;exact ⟨es,cl,h1⟩
 obtain ⟨es3,cl3,m3⟩:∃ es cl,w.heap[bd]? = some (.map es cl):=by obtain ⟨_,⟨es,cl,h1,_⟩,_⟩:=h.done;exact ⟨es,cl,h1⟩
 have l0:=h.lt;have l1:=h.chans.lt;have l2:=h.mus.lt;have l3:=h.done.lt
 go_enter Try.func23,Try.ntmps23
 go_wp2
 generalize hW:World.alloc w _=W;have sz:W.heap.size=w.heap.size+1:=by rw [←hW];simp
 have hCS:CS sb bc bm bd (.map es1 cl1) (.map es2 cl2) (.map es3 cl3) W:=by
  rw [←hW];exact CS.alloc ⟨⟨c2,c3,c4⟩,m1,m2,m3⟩ _
 have row0:=heap_alloc_new w (.cells #[.int .i64 s.events,.int .i64 s.gor,.map (some bc),.map (some bm),.map (some bd),.slice A s.grp.kinds.length cap,.int .i64 s.grp.obj,.int .i64 s.grp.k,.int .i64 s.grp.n,.int .i64 s.grp.snd,.int .i64 s.grp.rcv] 92);have hbel:Below w.heap.size w W:=by rw [←hW];exact (Below.refl w.heap.size w).alloc (Nat.le_refl _) _
 rw [hW] at row0;generalize hB:w.heap.size=B at *;clear hW;have ne0:sb≠B:=by omega
 have ne1:bc≠B:=by omega
 have ne2:bm≠B:=by omega
 have ne3:bd≠B:=by omega
 have q2:(((W.alloc (.map es1 cl1)).alloc (.map es2 cl2)).alloc (.map es3 cl3)).drew.cell? ⟨B,2,none⟩=some (.map (some bc)):=(cell_under sz (.map es1 cl1) (.map es2 cl2) (.map es3 cl3) 2).trans (cell_of_row _ _ _ _ _ _ row0);have q3:∀ u,((((W.setCell ⟨B,2,none⟩ u).alloc (.map es1 cl1)).alloc (.map es2 cl2)).alloc (.map es3 cl3)).drew.cell? ⟨B,3,none⟩=some (.map (some bm)):=fun u=>(cell_under (by simp [World.setCell,sz]) (.map es1 cl1) (.map es2 cl2) (.map es3 cl3) 3).trans ((World.cell?_setCell_other _ _ _ _ (by simp)).trans (cell_of_row _ _ _ _ _ _ row0))
 have q4:∀ u v,(((((W.setCell ⟨B,2,none⟩ u).setCell ⟨B,3,none⟩ v).alloc (.map es1 cl1)).alloc (.map es2 cl2)).alloc (.map es3 cl3)).drew.cell? ⟨B,4,none⟩=some (.map (some bd)):=fun u v=>(cell_under (by simp [World.setCell,sz]) (.map es1 cl1) (.map es2 cl2) (.map es3 cl3) 4).trans ((World.cell?_setCell_other _ _ _ _ (by simp)).trans ((World.cell?_setCell_other _ _ _ _ (by simp)).trans (cell_of_row _ _ _ _ _ _ row0)))
 have qf:∀ j,(((W.alloc (.map es1 cl1)).alloc (.map es2 cl2)).alloc (.map es3 cl3)).drew.frozen? ⟨B,j,none⟩=false:=fun j=>(frozen_under sz (.map es1 cl1) (.map es2 cl2) (.map es3 cl3) j).trans (frozen_of_row _ B j _ _ row0)
 have qf1:∀ u j,((((W.setCell ⟨B,2,none⟩ u).alloc (.map es1 cl1)).alloc (.map es2 cl2)).alloc (.map es3 cl3)).drew.frozen? ⟨B,j,none⟩=false:=fun u j=>(frozen_under (by simp [World.setCell,sz]) (.map es1 cl1) (.map es2 cl2) (.map es3 cl3) j).trans ((World.frozen?_setCell _ _ _ _).trans (frozen_of_row _ B j _ _ row0))
 have qf2:∀ u v j,(((((W.setCell ⟨B,2,none⟩ u).setCell ⟨B,3,none⟩ v).alloc (.map es1 cl1)).alloc (.map es2 cl2)).alloc (.map es3 cl3)).drew.frozen? ⟨B,j,none⟩=false:=fun u v j=>(frozen_under (by simp [World.setCell,sz]) (.map es1 cl1) (.map es2 cl2) (.map es3 cl3) j).trans ((World.frozen?_setCell _ _ _ _).trans ((World.frozen?_setCell _ _ _ _).trans (frozen_of_row _ B j _ _ row0)))
 have o1:W.drew.heap[bc]? = some (.map es1 cl1):=hCS.2.1;have o2:(W.drew.alloc (.map es1 cl1)).heap[bm]? = some (.map es2 cl2):=(hCS.drew.alloc _).2.2.1;have o3:((W.drew.alloc (.map es1 cl1)).alloc (.map es2 cl2)).heap[bd]? = some (.map es3 cl3):=((hCS.drew.alloc _).alloc _).2.2.2
 go_region_held3 (fun w'=>(w'.cell? ⟨sb,2,none⟩=some (.map (some bc))∧w'.cell? ⟨sb,3,none⟩=some (.map (some bm))∧w'.cell? ⟨sb,4,none⟩=some (.map (some bd)))∧w'.heap[bc]? = some (.map es1 cl1)∧w'.heap[bm]? = some (.map es2 cl2)∧w'.heap[bd]? = some (.map es3 cl3))
  (first | with_reducible exact hCS | with_reducible exact hCS.drew | with_reducible exact (hCS.alloc _).drew | with_reducible exact ((hCS.alloc _).alloc _).drew | with_reducible exact (((hCS.alloc _).alloc _).alloc _).drew | with_reducible exact ((((hCS.setCell _ ⟨ne0,ne1,ne2,ne3⟩).alloc _).alloc _).alloc _).drew | with_reducible exact (((((hCS.setCell _ ⟨ne0,ne1,ne2,ne3⟩).setCell _ ⟨ne0,ne1,ne2,ne3⟩).alloc _).alloc _).alloc _).drew | with_reducible exact ((((((hCS.setCell _ ⟨ne0,ne1,ne2,ne3⟩).setCell _ ⟨ne0,ne1,ne2,ne3⟩).setCell _ ⟨ne0,ne1,ne2,ne3⟩).alloc _).alloc _).alloc _).drew)
  (first | (go_at_call 69;refine (mclone_c (es:=es1) (clock:=cl1) (by simp [*])).mono ?_;rintro e w' ⟨rfl,rfl⟩) | (go_at_call 70;refine (mclone_m (es:=es2) (clock:=cl2) (by simp [*])).mono ?_;rintro e w' ⟨rfl,rfl⟩) | (go_at_call 71;refine (mclone_d (es:=es3) (clock:=cl3) (by simp [*])).mono ?_;rintro e w' ⟨rfl,rfl⟩))
 generalize hV:World.drew _=V;have vs:V.heap.size=B+4:=by rw [←hV];simp [World.setCell,sz]
 have vb:Below B w V:=by
  rw [←hV];have h1:=((hbel.setCell (p:=⟨B,2,none⟩) (Nat.le_refl B) (.map (some (B+1)))).setCell (p:=⟨B,3,none⟩) (Nat.le_refl B) (.map (some (B+1+1)))).setCell (p:=⟨B,4,none⟩) (Nat.le_refl B) (.map (some (B+1+1+1)));exact (((h1.alloc (by simp [World.setCell,sz]) _).alloc (by simp [World.setCell,sz];omega) _).alloc (by simp [World.setCell,sz];omega) _).drew
 have vr:V.heap[B]? = some (.cells #[.int .i64 s.events,.int .i64 s.gor,.map (some (B+1)),.map (some (B+1+1)),.map (some (B+1+1+1)),.slice A s.grp.kinds.length cap,.int .i64 s.grp.obj,.int .i64 s.grp.k,.int .i64 s.grp.n,.int .i64 s.grp.snd,.int .i64 s.grp.rcv] 92 (0,0)):=by
  rw [←hV,heap_drew,block_under (by simp [World.setCell,sz])];exact heap_setCell_same _ _ _ _ _ _ (heap_setCell_same _ _ _ _ _ _ (heap_setCell_same _ _ _ _ _ _ row0))
 have vm1:V.heap[B+1]? = some (.map es1 cl1):=by
  rw [←hV,heap_drew,Below.heap_alloc _ _ _ (by simp [World.setCell,sz]),Below.heap_alloc _ _ _ (by simp [World.setCell,sz])];have:=heap_alloc_new (((W.setCell ⟨B,2,none⟩ (.map (some (B+1)))).setCell ⟨B,3,none⟩ (.map (some (B+1+1)))).setCell ⟨B,4,none⟩ (.map (some (B+1+1+1)))) (.map es1 cl1);simp only [World.setCell] at this ⊢
  simpa [sz] using this
 have vm2:V.heap[B+1+1]? = some (.map es2 cl2):=by
  rw [←hV,heap_drew,Below.heap_alloc _ _ _ (by simp [World.setCell,sz])];have:=heap_alloc_new ((((W.setCell ⟨B,2,none⟩ (.map (some (B+1)))).setCell ⟨B,3,none⟩ (.map (some (B+1+1)))).setCell ⟨B,4,none⟩ (.map (some (B+1+1+1)))).alloc (.map es1 cl1)) (.map es2 cl2);simp only [World.setCell] at this ⊢
  simpa [sz] using this
 have vm3:V.heap[B+1+1+1]? = some (.map es3 cl3):=by
  rw [←hV,heap_drew];have:=heap_alloc_new (((((W.setCell ⟨B,2,none⟩ (.map (some (B+1)))).setCell ⟨B,3,none⟩ (.map (some (B+1+1)))).setCell ⟨B,4,none⟩ (.map (some (B+1+1+1)))).alloc (.map es1 cl1)).alloc (.map es2 cl2)) (.map es3 cl3);simp only [World.setCell] at this ⊢
  simpa [sz] using this
 clear hV;have v5:V.cell? ⟨sb,5,none⟩=some (.slice A s.grp.kinds.length cap):=by rw [vb.cell (p:=⟨sb,5,none⟩) l0];exact c5
 have vB5:V.cell? ⟨B,5,none⟩=some (.slice A s.grp.kinds.length cap):=cell_of_row _ _ _ _ _ _ vr;have vf5:V.frozen? ⟨B,5,none⟩=false:=frozen_of_row _ B 5 _ _ vr;have hinf:(Try.prog.info? 3).map (fun i=>(i.zero,i.size,i.bytes))=some (some (.int .i64 0),1,8):=by kernel_rfl
 obtain ⟨ti,hi,hti⟩:=Option.map_eq_some_iff.1 hinf;have hi1:ti.zero=some (.int .i64 0):=congrArg (·.1) hti;have hi2:ti.size=1:=congrArg (·.2.1) hti;have hi3:ti.bytes=8:=congrArg (·.2.2) hti;have hmk:=run_makeSlice (P:=Try.prog) V 72 3 ti (.int .i64 0) Try.underlying72 hi hi1 .i64 .i64 (s.grp.kinds.length:Int) (s.grp.kinds.length:Int) (by omega) (Int.le_refl _) (by rw [hi2];omega) (by rw [hi3];omega) (by omega)
 rw [vs,hi2,Nat.mul_one] at hmk;simp only [Int.toNat_natCast] at hmk;generalize hZ:madeCells _ _=Z at hmk;have hZs:Z.size=s.grp.kinds.length:=by rw [←hZ,size_madeCells]
 go_wp2
 generalize hU:World.alloc (World.setCell V _ _) _=U;have us:U.heap.size=B+5:=by rw [←hU];simp [World.setCell,vs]
 have ub:Below B w U:=by rw [←hU];exact (vb.setCell (p:=⟨B,5,none⟩) (Nat.le_refl B) _).alloc (by simp [World.setCell,vs]) _
 have uo:∀ k,k≠B→k < B+4→U.heap[k]? = V.heap[k]?:=fun k h1 h2=>by
  rw [←hU,Below.heap_alloc _ _ _ (by simp [World.setCell,vs];omega),heap_setCell_other _ _ _ _ (by simpa using h1)]
 have ur:U.heap[B]? = some (.cells #[.int .i64 s.events,.int .i64 s.gor,.map (some (B+1)),.map (some (B+1+1)),.map (some (B+1+1+1)),.slice (some ⟨B+4,0,none⟩) s.grp.kinds.length s.grp.kinds.length,.int .i64 s.grp.obj,.int .i64 s.grp.k,.int .i64 s.grp.n,.int .i64 s.grp.snd,.int .i64 s.grp.rcv] 92 (0,0)):=by
  rw [←hU,Below.heap_alloc _ _ _ (by simp [World.setCell,vs])];exact heap_setCell_same _ _ _ _ _ _ vr
 have uz:U.heap[B+4]? = some (.cells Z 3 (0,0)):=by
  rw [←hU];have:=heap_alloc_new (V.setCell ⟨B,5,none⟩ (.slice (some ⟨B+4,0,none⟩) s.grp.kinds.length s.grp.kinds.length)) (.cells Z 3);have hs:(V.setCell ⟨B,5,none⟩ (.slice (some ⟨B+4,0,none⟩) s.grp.kinds.length s.grp.kinds.length)).heap.size=B+4:=by simp [World.setCell,vs]
  rw [hs] at this;exact this
 clear hU;have u5:U.cell? ⟨B,5,none⟩=some (.slice (some ⟨B+4,0,none⟩) s.grp.kinds.length s.grp.kinds.length):=cell_of_row _ _ _ _ _ _ ur;have us5:U.cell? ⟨sb,5,none⟩=some (.slice A s.grp.kinds.length cap):=by rw [ub.cell (p:=⟨sb,5,none⟩) l0];exact c5
 obtain ⟨U2,hcp,k1,k2,k3,k4⟩:∃ U2,(∀ ty,(Builtin.copy_ #[72,72] ty #[.slice (some ⟨B+4,0,none⟩) s.grp.kinds.length s.grp.kinds.length,.slice A s.grp.kinds.length cap]).run Try.prog U.drew=.ok (goInt s.grp.kinds.length) U2)∧Below B w U2∧U2.heap.size=B+5∧(∀ k,k≠B+4→U2.heap[k]? = U.heap[k]?)∧∀ i x,s.grp.kinds[i]? = some x→U2.cell? ⟨B+4,0+i,none⟩=some (.int .i64 x):=by
  by_cases h0:s.grp.kinds.length=0
  ·refine ⟨U.drew,fun ty=>?_,ub.drew,us,fun k _=>rfl,fun i x hx=>?_⟩
   ·rw [h0];exact run_copy_none (P:=Try.prog) U.drew 72 72 ty 3 (some ⟨B+4,0,none⟩) A 0 0 0 cap Try.underlying72 (by kernel_rfl) (by simp)
   ·have:=(List.getElem?_eq_some_iff.1 hx).1;omega
  ·obtain ⟨b,o,rfl,hb,hcs⟩:=hks (by omega);have hblt:∀ j v,s.grp.kinds[j]? = some v→b < B:=fun j v hj=>by have:=World.block_lt_of_cell? w _ (hcs j v hj);rw [hB] at this;exact this
   have hl:(s.grp.kinds.map (Value.int .i64)).length=s.grp.kinds.length:=List.length_map ..
   have hzc:∀ j,j < Z.size→(U.drew.cell? ⟨B+4,0+j,none⟩).isSome=true:=fun j hj=>by
    have:U.drew.cell? ⟨B+4,0+j,none⟩=Z[j]?:=by rw [Nat.zero_add];exact cell_of_row U _ _ _ _ _ uz
    rw [this,Array.getElem?_eq_getElem hj];rfl
   refine ⟨U.drew.setCells (B+4) 0 (s.grp.kinds.map (Value.int .i64)),fun ty=>?_,below_setCells (by omega) _ _ ub.drew,by rw [size_setCells];exact us,fun k hk=>heap_setCells hk _ _,fun i x hx=>?_⟩
   ·have:=run_copy_cells (P:=Try.prog) U.drew 72 72 ty 3 (B+4) 0 s.grp.kinds.length s.grp.kinds.length ⟨b,o,none⟩ s.grp.kinds.length cap (s.grp.kinds.map (Value.int .i64)) Try.underlying72 (by kernel_rfl) (by rw [hl];simp) (fun j v hj=>?_) (fun j hj=>hzc j (by rw [hZs];omega)) (fun j hj=>?_) (fun v hv=>by obtain ⟨x,_,rfl⟩:=List.mem_map.1 hv;rfl)
    ·rw [hl] at this;exact this
    ·rw [List.getElem?_map,Option.map_eq_some_iff] at hj;obtain ⟨x,hx,rfl⟩:=hj;have:=(ub.cell (p:=⟨b,o+j,none⟩) (hblt j x hx)).trans (hcs j x hx)
     show U.cell? _=_
     by_cases hj0:j=0
     ·subst hj0;simpa [Addr.add] using this
     ·simpa [Addr.add,hj0] using this
    ·exact frozen_of_row U (B+4) (0+j) _ _ uz
   ·have hi:=(List.getElem?_eq_some_iff.1 hx).1;have:=World.cell?_setCells_in (B+4) (s.grp.kinds.map (Value.int .i64)) 0 U.drew (fun j hj=>hzc j (by rw [hZs];omega)) i (by omega)
    rw [this,List.getElem_map]
    congr 2
    exact (List.getElem?_eq_some_iff.1 hx).2
 go_region
 go_wp2
 go_ret
 have o:∀ k,k≠B→k < B+4→U2.heap[k]? = V.heap[k]?:=fun k h1 h2=>(k3 k (by omega)).trans (uo k h1 h2)
 rw [hB];refine ⟨rfl,k1,k2,_,@TRep.mk ⟨fun b=>B≤b⟩ _ _ _ _ _ _ _ _ ((k3 B (by omega)).trans ur) ?_ (h.chans.at_ ((o (B+1) (by omega) (by omega)).trans (vm1.trans m1.symm))) (h.mus.at_ ((o (B+1+1) (by omega) (by omega)).trans (vm2.trans m2.symm))) (h.done.at_ ((o (B+1+1+1) (by omega) (by omega)).trans (vm3.trans m3.symm))) (by omega) (by omega) (by omega)⟩;exact ⟨_,_,rfl,Nat.le_refl _,fun _=>⟨B+4,0,rfl,⟨by omega,by show B≤B+4;omega⟩,k4⟩⟩
end
end Go.Proofs.Ytffcpijeebagfaa
end
section
namespace Go.Proofs.Ytffcpijeebagfaa
open Go Go.RowKit
def Rc_clone (H H2:HP):Prop:=∃ (s:TS) (N:Nat),H=tsH s N∧s.wf∧H2=tsH s N
theorem sc_clone:SpecC Try.prog 23 Rc_clone:=by
 rintro H H2 ⟨s,N,rfl,hwf,rfl⟩ w v fp _ hr;obtain ⟨sb,bc,bm,bd,kv,rfl,hT,⟨f0,f1,f2,f3⟩,hlt⟩:=hr;refine (@clone_walk ⟨fp⟩ sb bc bm bd N s kv w hT hwf.kd).mono ?_;rintro e w' ⟨rfl,hb,hsz,kv',hT2⟩;have hT3:@TRep ⟨fun b=>w.heap.size≤b∧b < w'.heap.size⟩ w' w.heap.size (w.heap.size+1) (w.heap.size+1+1) (w.heap.size+1+1+1) N s kv':=TRep.kb hT2 (fun b h1 h2=>⟨h1,h2⟩);exact ⟨_,fun b=>w.heap.size≤b∧b < w'.heap.size,rfl,rfl,⟨w.heap.size,w.heap.size+1,w.heap.size+1+1,w.heap.size+1+1+1,kv',rfl,hT3,⟨⟨by omega,by omega⟩,⟨by omega,by omega⟩,⟨by omega,by omega⟩,⟨by omega,by omega⟩⟩,fun b h=>h.2⟩,hb,fun b h=>h.1⟩
end Go.Proofs.Ytffcpijeebagfaa
end
section
namespace Go.Proofs.Ytffcpijeebagfaa
open Go Go.RowKit
set_option maxRecDepth 100000
set_option maxHeartbeats 4000000
def nilP:Pa:=.one (.sc (.pointer none))
theorem RPs.two_inv {S:Nat→Nat} {w:World} {p q:Pa} {vs:Array Value} (h:RPs S w [p,q] vs):∃ u v,vs=#[u,v]∧RP S w p u∧RP S w q v:=by
 obtain ⟨h1,h2⟩:=h;have hs:vs.size=2:=by rw [←h1];rfl
 obtain ⟨u,hu⟩:∃ u,vs[0]? = some u:=⟨_,Array.getElem?_eq_getElem (by omega)⟩
 obtain ⟨v,hv⟩:∃ v,vs[1]? = some v:=⟨_,Array.getElem?_eq_getElem (by omega)⟩
 refine ⟨u,v,?_,h2 0 _ u rfl hu,h2 1 _ v rfl hv⟩
 apply Array.ext
 ·simp [hs]
 ·intro i h3 h4;have h4':i < 2:=by simpa using h4
  match i,h4' with
  | 0,_=>rw [Array.getElem?_eq_some_iff] at hu;obtain ⟨_,hu⟩:=hu;simpa using hu
  | 1,_=>rw [Array.getElem?_eq_some_iff] at hv;obtain ⟨_,hv⟩:=hv;simpa using hv
theorem nil_val {S:Nat→Nat} {w:World} {v:Value} (h:RP S w nilP v):v=.pointer none:=by
 have h':RD S w (.sc (.pointer none)) v:=h;cases h';rfl
def Rn_add (ps rs:List Pa):Prop:=∃ e:Ev,ps=[nilP,e.pa]∧rs=[pB false]
theorem sn_add:Spec Try.prog 21 Rn_add:=by
 rintro ps rs ⟨e,rfl,rfl⟩ S w vals _ hv;obtain ⟨u,v,rfl,h1,h2⟩:=hv.two_inv;obtain rfl:u=.pointer none:=nil_val h1;obtain rfl:v=e.val:=RP.flat (vs:=e.cells) h2
 have hc:Calls Try.prog 21 #[.pointer none,e.val] w fun r w'=>r=.returned (.bool false)∧Below w.heap.size w w':=by
  go_enter Try.func21,Try.ntmps21
  go_wp2
  go_region
  go_wp2
  go_ret
  refine ⟨rfl,?_⟩
  first | exact ((Below.refl w.heap.size w).alloc (Nat.le_refl _) _).drew | exact ((Below.refl w.heap.size w).drew.alloc (Nat.le_refl _) _) | exact (((Below.refl w.heap.size w).alloc (Nat.le_refl _) _).setCell (Nat.le_refl _) _).drew
 refine hc.mono ?_;rintro r w' ⟨rfl,h4⟩;exact ⟨_,S,rfl,RP.mkBool _,h4,fun _ _=>rfl⟩
def Rn_open (ps rs:List Pa):Prop:=ps=[nilP]∧rs=[pB false]
theorem sn_open:Spec Try.prog 25 Rn_open:=by
 rintro ps rs ⟨rfl,rfl⟩ S w vals _ hv;obtain ⟨u,rfl,h1⟩:=hv.one;obtain rfl:u=.pointer none:=nil_val h1
 have hc:Calls Try.prog 25 #[.pointer none] w fun r w'=>r=.returned (.bool false)∧Below w.heap.size w w':=by
  go_enter Try.func25,Try.ntmps25
  go_wp2
  go_ret
  exact ⟨rfl,Below.refl _ _⟩
 refine hc.mono ?_;rintro r w' ⟨rfl,h4⟩;exact ⟨_,S,rfl,RP.mkBool _,h4,fun _ _=>rfl⟩
def Rn_gor (ps rs:List Pa):Prop:=ps=[nilP]∧rs=[pI 0]
theorem sn_gor:Spec Try.prog 24 Rn_gor:=by
 rintro ps rs ⟨rfl,rfl⟩ S w vals _ hv;obtain ⟨u,rfl,h1⟩:=hv.one;obtain rfl:u=.pointer none:=nil_val h1
 have hc:Calls Try.prog 24 #[.pointer none] w fun r w'=>r=.returned (.int .i64 0)∧Below w.heap.size w w':=by
  go_enter Try.func24,Try.ntmps24
  go_wp2
  go_ret
  exact ⟨rfl,Below.refl _ _⟩
 refine hc.mono ?_;rintro r w' ⟨rfl,h4⟩;exact ⟨_,S,rfl,RP.mkInt _,h4,fun _ _=>rfl⟩
def Rn_cln (ps rs:List Pa):Prop:=ps=[nilP]∧rs=[nilP]
theorem sn_cln:Spec Try.prog 23 Rn_cln:=by
 rintro ps rs ⟨rfl,rfl⟩ S w vals _ hv;obtain ⟨u,rfl,h1⟩:=hv.one;obtain rfl:u=.pointer none:=nil_val h1
 have hc:Calls Try.prog 23 #[.pointer none] w fun r w'=>r=.returned (.pointer none)∧Below w.heap.size w w':=by
  go_enter Try.func23,Try.ntmps23
  go_wp2
  go_ret
  exact ⟨rfl,Below.refl _ _⟩
 refine hc.mono ?_;rintro r w' ⟨rfl,h4⟩;exact ⟨_,S,rfl,(show RD S _ (.sc (.pointer none)) _ from RD.sc _ rfl),h4,fun _ _=>rfl⟩
end Go.Proofs.Ytffcpijeebagfaa
end
section
namespace Go.Proofs.Ytffcpijeebagfaa
open Go
def TS.locked (t:TS) (x:Int×Int):Bool:=((t.mus x).getD mu0).locked
end Go.Proofs.Ytffcpijeebagfaa
end
section
namespace Go.Proofs.Ytffcpijeebagfaa
open Go Go.RowKit Go.Maps
open Go.MapKept (stamped_iff)
open Go.WideElems (rd_key)
set_option maxRecDepth 100000
theorem nodup_leB {α:Type} [DecidableEq α] {l l':List α} (h:l.Nodup) (hs:∀ n ∈ l,n ∈ l'):l.length≤l'.length:=by
 induction l generalizing l' with
 | nil=>exact Nat.zero_le _
 | cons a l ih =>
   rw [List.nodup_cons] at h;have ha:=hs a (List.mem_cons_self ..);have:=ih h.2 (l':=l'.erase a) (fun n hn=>(List.mem_erase_of_ne (fun e:n=a=>h.1 (e ▸ hn))).2 (hs n (List.mem_cons_of_mem _ hn)));rw [List.length_erase_of_mem ha] at this;have hpos:=List.length_pos_of_mem ha;rw [List.length_cons];omega
theorem MapOf.settle {κ:Type} {kv:κ→Value} {ok:κ→Prop} {P:Program} {k e t:TypeId} {w w':World} {b b' n n':Nat} {f:κ→Option Value} (K:KeyT P k kv ok) (ht:P.underlying t=some (.map k e)) {z:Value} (hz:∀ w,(zeroValue e).run P w=.ok z w)
 (hsur:∀ v l,keyOf P k v=some l→∃ x,v=kv x) (h:MapOf kv w P k b n f) (h':MapOf kv w' P k b' n' f):MapOf kv w' P k b' n f:=by
 classical
 obtain ⟨D,⟨es,clock,hb,F,hn,rfl⟩,hf⟩:=h;obtain ⟨D',⟨es',clock',hb',F',hn',rfl⟩,hf'⟩:=h';refine ⟨_,⟨es',clock',hb',F',?_,rfl⟩,hf'⟩;have hp:es'.toList.Pairwise (fun x y=>x.key≠y.key):=((stamped_iff es' clock').1 F'.stamped).2.2;have hnd:(es'.toList.map (·.key)).Nodup:=List.pairwise_map.2 hp
 have hle:(es'.toList.map (·.key)).length≤(es.toList.map (·.key)).length:=by
  refine nodup_leB hnd fun v hv=>?_
  obtain ⟨x,hx,rfl⟩:=List.mem_map.1 hv;obtain ⟨y,hy⟩:=F'.reads x hx;have hkey:=rd_key hy;obtain ⟨u,hu⟩:=hsur _ _ hkey;have g1:=hf' u y.1 (hu ▸ hkey);have g2:=hf u y.1 (hu ▸ hkey)
  rcases fit_look false K.keyed ht (hz w') hb' F' hkey with ⟨_,hno,_⟩ | ⟨e0,q,_,_,_,hR,hat,_⟩
  ·exact absurd rfl (hno x hx)
  ·rw [hat] at g1;simp only [heldE,Option.some.injEq] at hR;subst hR
   rcases fit_look false K.keyed ht (hz w) hb F hkey with ⟨_,_,hat2⟩ | ⟨e1,q1,hm,he,_,_,_,_⟩
   ·rw [hat2] at g2
    cases hfu:f u with
    | none=>rw [hfu] at g1;cases g1
    | some v=>rw [hfu] at g2;cases g2
   ·exact List.mem_map.2 ⟨e1,hm,he⟩
 rw [List.length_map,List.length_map,Array.length_toList,Array.length_toList] at hle;omega
theorem keyI_sur (v:Value) (l:Lit) (h:keyOf Try.prog 3 v=some l):∃ x,v=iK x:=by
 unfold keyOf at h;rw [Try.underlying3] at h;dsimp only at h;unfold mapKey at h;rw [Try.underlying3] at h;cases v <;> simp only [reduceCtorEq] at h
 rename_i q n;split at h
 ·rename_i hq;rw [hq.1];exact ⟨n,rfl⟩
 ·cases h
theorem keyLits_int_inv {P:Program} {t:TypeId} (ht:P.underlying t=some (.int .i64)) {d:Nat} {cs:List Value} {ls:List Lit} (h:P.keyLits d t cs=some ls):∃ n,cs=[.int .i64 n]:=by
 cases d with
 | zero=>simp [Program.keyLits] at h
 | succ d =>
   rcases cs with _ | ⟨c,_ | ⟨c1,cs⟩⟩
   ·simp [Program.keyLits,ht] at h
   ·cases c
    case int q n =>
     simp only [Program.keyLits,ht] at h;split at h
     ·rename_i hq;exact ⟨n,by rw [hq.1]⟩
     ·cases h
    all_goals simp [Program.keyLits,ht] at h
   ·simp [Program.keyLits,ht] at h
theorem keyL_surP {P:Program} {k t:TypeId} {f0 f1:Field} (hk:P.underlying k=some (.struct #[f0,f1])) (ht:P.underlying t=some (.int .i64)) (h0:f0.type=t) (h1:f1.type=t) (o0:f0.offset=0) (o1:f1.offset=1)
 (hc:P.cellsOf k=2) (hct:P.cellsOf t=1) (v:Value) (l:Lit) (h:keyOf P k v=some l):∃ x,v=locV x:=by
 unfold keyOf at h;rw [hk] at h;dsimp only at h;split at h
 ·rename_i hf;simp only [Bool.and_eq_true] at hf;obtain ⟨_,hf⟩:=hf;unfold Value.formed at hf;cases v <;> simp only [hk,Bool.false_eq_true] at hf
  rename_i cs;simp only [beq_iff_eq,hc] at hf;obtain ⟨cs⟩:=cs
  rcases cs with _ | ⟨c0,_ | ⟨c1,_ | ⟨c2,cs⟩⟩⟩
  ·simp at hf
  ·simp at hf
  ·simp only [Value.cells] at h;unfold Program.keyLits at h;rw [hk] at h;dsimp only at h;split at h
   ·simp only [List.mapM_cons,List.mapM_nil,h0,h1,o0,o1,hct,List.drop_zero,List.take_succ_cons,List.take_zero,List.drop_succ_cons,Option.map_eq_some_iff,Option.bind_eq_bind,Option.bind_eq_some_iff,Option.pure_def] at h;obtain ⟨_,⟨_,⟨a,ha,_,⟨b,hb,_⟩,_⟩,_⟩,_⟩:=h;obtain ⟨n,hn⟩:=keyLits_int_inv ht ha;obtain ⟨m,hm⟩:=keyLits_int_inv ht hb
    injection hn with hn _
    injection hm with hm _
    subst hn;subst hm;exact ⟨(n,m),rfl⟩
   ·cases h
  ·simp at hf
 ·cases h
theorem keyL_sur (v:Value) (l:Lit) (h:keyOf Try.prog 98 v=some l):∃ x,v=locV x :=
 keyL_surP Try.underlying98 Try.underlying3 rfl rfl rfl rfl (by kernel_rfl) (by kernel_rfl) v l h
theorem TRep.settle [KB] {w w':World} {sb bc bm bd N N':Nat} {s:TS} {kv kv':Value} (h:TRep w sb bc bm bd N s kv) (h':TRep w' sb bc bm bd N' s kv'):TRep w' sb bc bm bd N s kv' :=
 ⟨h'.row,h'.kinds,h.chans.settle keyI Try.underlying86 zeroCh keyI_sur h'.chans,h.mus.settle keyL Try.underlying87 zeroMu keyL_sur h'.mus,h.done.settle keyL Try.underlying88 zeroB keyL_sur h'.done,h'.ncm,h'.ncd,h'.nmd⟩
def Ra_add2 (Ho:Option HP) (az:List Pa) (H:HP) (rs:List Pa):Prop:=∃ (s:TS) (N:Nat) (e:Ev),Ho=some (tsH s N)∧az=[e.pa]∧(s.wf∧N≤1000000)∧H=tsH ((s.add e).getD s) (if (s.add e).isSome=true then N+2 else N)∧rs=[pB (s.add e).isSome]
theorem sa_add2:SpecA Try.prog 21 Ra_add2:=by
 rintro Ho az H rs ⟨s,N,e,rfl,rfl,⟨hwf,hN⟩,rfl,rfl⟩ S w vals _ hv v fp hr hS;obtain ⟨sb,bc,bm,bd,kv,rfl,hT,⟨f0,f1,f2,f3⟩,hlt⟩:=hr;obtain ⟨u,rfl,h1⟩:=hv.one;obtain rfl:u=e.val:=RP.flat (vs:=e.cells) h1;have hT2:@TRep ⟨fun b=>fp b∨w.heap.size≤b⟩ w sb bc bm bd N s kv:=TRep.kb hT (fun b hb _=>.inl hb);refine (@add_head ⟨fun b=>fp b∨w.heap.size≤b⟩ sb bc bm bd N s kv w hT2 hwf (by unfold maxLen;omega) e (fun b hb=>.inr hb)).mono ?_
 rintro r w' ⟨rfl,⟨kv',hT3⟩,hb⟩
 have hT4:@TRep ⟨fun b=>fp b∨w.heap.size≤b⟩ w' sb bc bm bd (if (s.add e).isSome=true then N+2 else N) ((s.add e).getD s) kv':=by
  cases ha:s.add e with
  | none=>rw [ha] at hT3;exact @TRep.settle ⟨fun b=>fp b∨w.heap.size≤b⟩ _ _ _ _ _ _ _ _ _ _ _ hT2 hT3
  | some u=>rw [ha] at hT3;exact hT3
 refine ⟨_,fun b=>if b < w.heap.size then S b else 0,fun b=>(fp b∨w.heap.size≤b)∧b < w'.heap.size,rfl,RP.mkBool _,?_,⟨hb.os,hb.tape,hb.output,hb.size,fun k hk hn=>hb.block k hk (fun hm=>?_)⟩,fun b h=>⟨h.1,?_⟩,fun b h=>if_pos h⟩
 ·have up:∀ b,fp b→(fp b∨w.heap.size≤b)∧b < w'.heap.size:=fun b h=>⟨.inl h,Nat.lt_of_lt_of_le (hlt b h) hb.size⟩
  exact ⟨sb,bc,bm,bd,kv',rfl,TRep.kb hT4 (fun b h1 h2=>⟨h1,h2⟩),⟨up _ f0,up _ f1,up _ f2,up _ f3⟩,fun b h=>h.2⟩
 ·simp only [List.mem_cons,List.not_mem_nil,or_false] at hm
  rcases hm with rfl | rfl | rfl | rfl <;> exact hn ‹_›
 ·by_cases hbs:b < w.heap.size
  ·dsimp only;rw [if_pos hbs];exact h.1.elim (hS b) (fun h=>by omega)
  ·exact if_neg hbs
theorem add_ev {s u:TS} {e:Ev} (hs:s.wf) (h:s.add e=some u):u.events=s.events+1:=by
 unfold TS.add at h;split at h
 ·rename_i ha;simp only [Option.map_eq_some_iff] at h;obtain ⟨v,hv,rfl⟩:=h;unfold TS.admits at ha;simp only [Bool.and_eq_true] at ha;have:=(TS.part_wf hs ha.1.1 hv).1;dsimp only;rw [this]
 ·cases h
end Go.Proofs.Ytffcpijeebagfaa
end
section
namespace Go.Proofs.Ytffcpijeebagfaa
open Go Go.RowKit
set_option maxRecDepth 100000
set_option maxHeartbeats 4000000
theorem wrBig {k:Nat} (h:k≤9223372036854775806):IntKind.i64.wrap ((k:Int)+1)=((k+1:Nat):Int):=by
 rw [wr64 (by omega) (by omega)];omega
def env_tcl:Env:=e1 18 R_awake30 (a1 19 Ra_new (e1 20 R_rnew (e1 22 R_Add (a1 21 Ra_add2 (a1 24 Ra_gor (a1 25 Ra_open (c1 23 Rc_clone (e1 21 Rn_add (e1 25 Rn_open (e1 24 Rn_gor (e1 23 Rn_cln e0)))))))))))
theorem env_tcl_ok:EnvOK Try.prog env_tcl:=EnvOK.e1 s_awake30 (EnvOK.a1 sa_new (EnvOK.e1 s_rnew (EnvOK.e1 s_Add (EnvOK.a1 sa_add2 (EnvOK.a1 sa_gor (EnvOK.a1 sa_open (EnvOK.c1 sc_clone (EnvOK.e1 sn_add (EnvOK.e1 sn_open (EnvOK.e1 sn_gor (EnvOK.e1 sn_cln EnvOK.e0)))))))))))
def R_tclone (ps rs:List Pa):Prop:=∃ l more:List Ev,ps=[evsPa l,evsPa more]∧(l.length≤9223372036854775807∧more.length≤9223372036854775807)∧rs=[pB true]
theorem s_tclone:Spec Try.prog 3 R_tclone:=by
 refine sp3 env_tcl_ok ?_;rintro ps rs ⟨l,more,rfl,⟨hm1,hm2⟩,rfl⟩;refine ⟨by simp,?_⟩;unfold pc3;refine pwp_start ?_;simp only [↓evP,evB,stB,reduceIte,reduceCtorEq,Nat.reduceEqDiff,Nat.reduceAdd,Nat.reduceMul,Nat.reduceLeDiff,Nat.reduceLT,Nat.reduceSub,Nat.reduceBEq,evsPa,evsD,Ev.pa,Ev.row];refine callOps_intro [pB true] ⟨rfl,rfl⟩ ?_
 by_cases q1:IntKind.i64.wrap ((l.length:Int)+(more.length:Int)) > 100
 ·simp only [↓evP,evB,stB,reduceIte,reduceCtorEq,Nat.reduceEqDiff,Nat.reduceAdd,Nat.reduceMul,Nat.reduceLeDiff,Nat.reduceLT,Nat.reduceSub,Nat.reduceBEq,q1,decide_true,decide_false,pr3]
 simp only [↓evP,evB,stB,reduceIte,reduceCtorEq,Nat.reduceEqDiff,Nat.reduceAdd,Nat.reduceMul,Nat.reduceLeDiff,Nat.reduceLT,Nat.reduceSub,Nat.reduceBEq,q1,decide_true,decide_false];refine callOps_new (tsH TS.new 0) [] ⟨rfl,rfl,rfl,rfl⟩ ?_;simp only [↓evP,evB,stB,reduceIte,reduceCtorEq,Nat.reduceEqDiff,Nat.reduceAdd,Nat.reduceMul,Nat.reduceLeDiff,Nat.reduceLT,Nat.reduceSub,Nat.reduceBEq];refine callOps_intro [RSt.new.pa] ⟨rfl,rfl⟩ ?_;simp only [↓evP,evB,stB,reduceIte,reduceCtorEq,Nat.reduceEqDiff,Nat.reduceAdd,Nat.reduceMul,Nat.reduceLeDiff,Nat.reduceLT,Nat.reduceSub,Nat.reduceBEq,RSt.pa,RSt.row,RSt.new,List.map_nil,Nat.reduceLeDiff];refine pwp_fresh [0,1,5,6,31,32,33] [6,29] (fun S hs ho=>?_);simp only [stB,reduceIte,reduceCtorEq,Nat.reduceEqDiff,Nat.reduceAdd,Nat.reduceMul,Nat.reduceLeDiff,Nat.reduceLT,Nat.reduceSub,Nat.reduceBEq] at hs ho;obtain ⟨i0,i1,i5,i6,i31,i32,i33⟩:=hs
 obtain ⟨⟨j6,k6⟩,j29,k29⟩:=ho;refine pwp_loopW ms3_0 (29 :: os3_0) (fun n st=>∃ (k N:Nat) (r:RSt) (s:TS),n=l.length - k∧k≤l.length∧Rel r s∧s.wf∧(N:Int)≤2 * s.events∧st.sl 33=aI k∧st.gen 6=1∧st.ob 6=.cells (r.row.map .d)∧st.gen 29=1∧st.ob 29=.ab (tsH s N)) l.length ?_ ?_
 ·exact ⟨0,0,RSt.new,TS.new,rfl,Nat.zero_le _,Rel.new,TS.wf_new,by decide,i33,j6,k6,j29,k29⟩
 rintro n z ⟨k,N,r,s,rfl,hk,hr,hw,hN,h33,g6,o6,g29,o29⟩;simp only [stB,reduceIte,reduceCtorEq,Nat.reduceEqDiff,Nat.reduceAdd,Nat.reduceMul,Nat.reduceLeDiff,Nat.reduceLT,Nat.reduceSub,Nat.reduceBEq,RSt.row] at h33 g6 o6 g29 o29;have hev:=hw.ev
 rcases Nat.lt_or_ge k l.length with hlt | hge
 ·obtain ⟨e,he⟩:∃ e,l[k]? = some e:=⟨_,List.getElem?_eq_getElem hlt⟩
  have hlt':(k:Int) < (l.length:Int):=by omega
  have hk0:(0:Int)≤(k:Int):=by omega
  obtain ⟨r',h1,h2,h3⟩:=both_step hr hw e
  have hN2:(((if (s.add e).isSome=true then N+2 else N:Nat)):Int)≤2 * ((s.add e).getD s).events:=by
   cases ha:s.add e with
   | none=>exact hN
   | some u=>have:=add_ev hw ha;show ((N+2:Nat):Int)≤2 * u.events;omega
  simp only [↓evP,evB,stB,reduceIte,reduceCtorEq,Nat.reduceEqDiff,Nat.reduceAdd,Nat.reduceMul,Nat.reduceLeDiff,Nat.reduceLT,Nat.reduceSub,Nat.reduceBEq,i0,i5,i6,i31,i32,h33,g6,o6,g29,o29,hlt',hk0,he,Ev.row];refine methOps_intro (tsH ((s.add e).getD s) (if (s.add e).isSome=true then N+2 else N)) [pB (s.add e).isSome] ⟨s,N,e,rfl,rfl,⟨hw,by omega⟩,rfl,rfl⟩ ?_;simp only [↓evP,evB,stB,reduceIte,reduceCtorEq,Nat.reduceEqDiff,Nat.reduceAdd,Nat.reduceMul,Nat.reduceLeDiff,Nat.reduceLT,Nat.reduceSub,Nat.reduceBEq,i0,i5,i6,i31,i32,h33,g6,o6,g29,o29,hlt',hk0,he,Ev.row];refine callOps_intro [r'.pa,pB (s.add e).isSome] ⟨r,e,rfl,hr.ok hw,by rw [h1]⟩ ?_;generalize (if (s.add e).isSome=true then N+2 else N)=M at *;generalize (s.add e).isSome=b at *;generalize (s.add e).getD s=u at *
  simp only [↓evP,evB,stB,reduceIte,reduceCtorEq,Nat.reduceEqDiff,Nat.reduceAdd,Nat.reduceMul,Nat.reduceLeDiff,Nat.reduceLT,Nat.reduceSub,Nat.reduceBEq,RSt.pa,RSt.row,i0,i5,i6,i31,i32,h33,g6,o6,g29,o29]
  exact ⟨_,by omega,(by repeat' (first | assumption | exact within_over.mpr trivial | exact Within.refl _ _ _ | (refine within_ap ?_ rfl rfl) | (refine within_ap0 ?_ rfl))),k+1,M,r',u,rfl,hlt,h2,h3,hN2,by simp only [stB,reduceIte,reduceCtorEq,Nat.reduceEqDiff,Nat.reduceAdd,Nat.reduceMul,Nat.reduceLeDiff,Nat.reduceLT,Nat.reduceSub,Nat.reduceBEq,h33];rw [wrBig (by omega)],by simp only [stB,reduceIte,reduceCtorEq,Nat.reduceEqDiff,Nat.reduceAdd,Nat.reduceMul,Nat.reduceLeDiff,Nat.reduceLT,Nat.reduceSub,Nat.reduceBEq,g6],by simp only [stB,reduceIte,reduceCtorEq,Nat.reduceEqDiff,Nat.reduceAdd,Nat.reduceMul,Nat.reduceLeDiff,Nat.reduceLT,Nat.reduceSub,Nat.reduceBEq,o6,RSt.row],by simp only [stB,reduceIte,reduceCtorEq,Nat.reduceEqDiff,Nat.reduceAdd,Nat.reduceMul,Nat.reduceLeDiff,Nat.reduceLT,Nat.reduceSub,Nat.reduceBEq,g29],by simp only [stB,reduceIte,reduceCtorEq,Nat.reduceEqDiff,Nat.reduceAdd,Nat.reduceMul,Nat.reduceLeDiff,Nat.reduceLT,Nat.reduceSub,Nat.reduceBEq,o29]⟩
 have hkl:k=l.length:=by omega
 have hlt':¬ (k:Int) < (l.length:Int):=by omega
 simp only [↓evP,evB,stB,reduceIte,reduceCtorEq,Nat.reduceEqDiff,Nat.reduceAdd,Nat.reduceMul,Nat.reduceLeDiff,Nat.reduceLT,Nat.reduceSub,Nat.reduceBEq,i0,i1,i5,i6,i31,i32,h33,g6,o6,g29,o29,hlt'];refine methOps_clone (tsH s N) ⟨s,N,rfl,hw,rfl⟩ ?_;simp only [↓evP,evB,stB,reduceIte,reduceCtorEq,Nat.reduceEqDiff,Nat.reduceAdd,Nat.reduceMul,Nat.reduceLeDiff,Nat.reduceLT,Nat.reduceSub,Nat.reduceBEq,i0,i1,i5,i6,i31,i32,h33,g6,o6,g29,o29];refine methOps_clone (tsH s N) ⟨s,N,rfl,hw,rfl⟩ ?_;simp only [↓evP,evB,stB,reduceIte,reduceCtorEq,Nat.reduceEqDiff,Nat.reduceAdd,Nat.reduceMul,Nat.reduceLeDiff,Nat.reduceLT,Nat.reduceSub,Nat.reduceBEq,i0,i1,i5,i6,i31,i32,h33,g6,o6,g29,o29];refine pwp_fresh [1,5,6,9,10,11,52,53,54] [6,11,29,48,50] (fun T hs ho=>?_)
 simp only [stB,reduceIte,reduceCtorEq,Nat.reduceEqDiff,Nat.reduceAdd,Nat.reduceMul,Nat.reduceLeDiff,Nat.reduceLT,Nat.reduceSub,Nat.reduceBEq,i0,i1,i5,i6,i31,i32,h33,g6,o6,g29,o29] at hs ho;obtain ⟨p1,p5,p6,p9,p10,p11,p52,p53,p54⟩:=hs;obtain ⟨⟨a6,b6⟩,⟨a11,b11⟩,⟨a29,b29⟩,⟨a48,b48⟩,a50,b50⟩:=ho;rw [←a48] at p9;rw [←a50] at p10;rw [←a11] at p11;clear a48 a50 a11;refine pwp_loopW ms3_1 (48 :: os3_1) (fun n st=>∃ (k2 N2:Nat) (r2:RSt) (s2:TS),n=more.length - k2∧k2≤more.length∧Rel r2 s2∧s2.wf∧(N2:Int)≤2 * s2.events∧st.sl 54=aI k2∧st.gen 11=T.gen 11∧st.ob 11=.cells (r2.row.map .d)∧st.gen 48=T.gen 48∧st.ob 48=.ab (tsH s2 N2)) more.length ?_ ?_
 ·exact ⟨0,N,r,s,rfl,Nat.zero_le _,hr,hw,hN,p54,rfl,b11,rfl,b48⟩
 rintro n2 z2 ⟨k2,N2,r2,s2,rfl,hk2,hr2,hw2,hN2,h54,g11,o11,g48,o48⟩;simp only [stB,reduceIte,reduceCtorEq,Nat.reduceEqDiff,Nat.reduceAdd,Nat.reduceMul,Nat.reduceLeDiff,Nat.reduceLT,Nat.reduceSub,Nat.reduceBEq,RSt.row] at h54 g11 o11 g48 o48;have hev2:=hw2.ev
 rcases Nat.lt_or_ge k2 more.length with hlt2 | hge2
 ·obtain ⟨e,he⟩:∃ e,more[k2]? = some e:=⟨_,List.getElem?_eq_getElem hlt2⟩
  have hlt':(k2:Int) < (more.length:Int):=by omega
  have hk0:(0:Int)≤(k2:Int):=by omega
  obtain ⟨r',h1,h2,h3⟩:=both_step hr2 hw2 e
  have hNN:(((if (s2.add e).isSome=true then N2+2 else N2:Nat)):Int)≤2 * ((s2.add e).getD s2).events:=by
   cases ha:s2.add e with
   | none=>exact hN2
   | some u=>have:=add_ev hw2 ha;show ((N2+2:Nat):Int)≤2 * u.events;omega
  simp only [↓evP,evB,stB,reduceIte,reduceCtorEq,Nat.reduceEqDiff,Nat.reduceAdd,Nat.reduceMul,Nat.reduceLeDiff,Nat.reduceLT,Nat.reduceSub,Nat.reduceBEq,p1,p5,p6,p9,p10,p11,p52,p53,a6,b6,a29,b29,b50,h54,g11,o11,g48,o48,hlt',hk0,he,Ev.row];refine callOps_intro [r'.pa,pB (s2.add e).isSome] ⟨r2,e,rfl,hr2.ok hw2,by rw [h1]⟩ ?_;simp only [↓evP,evB,stB,reduceIte,reduceCtorEq,Nat.reduceEqDiff,Nat.reduceAdd,Nat.reduceMul,Nat.reduceLeDiff,Nat.reduceLT,Nat.reduceSub,Nat.reduceBEq,RSt.pa,RSt.row,p1,p5,p6,p9,p10,p11,p52,p53,a6,b6,a29,b29,b50,h54,g11,o11,g48,o48,hlt',hk0,he,Ev.row];refine methOps_intro (tsH ((s2.add e).getD s2) (if (s2.add e).isSome=true then N2+2 else N2)) [pB (s2.add e).isSome] ⟨s2,N2,e,rfl,rfl,⟨hw2,by omega⟩,rfl,rfl⟩ ?_;generalize (if (s2.add e).isSome=true then N2+2 else N2)=M at *;generalize (s2.add e).isSome=b at *;generalize (s2.add e).getD s2=u at *
  simp only [↓evP,evB,stB,reduceIte,reduceCtorEq,Nat.reduceEqDiff,Nat.reduceAdd,Nat.reduceMul,Nat.reduceLeDiff,Nat.reduceLT,Nat.reduceSub,Nat.reduceBEq,RSt.pa,RSt.row,p1,p5,p6,p9,p10,p11,p52,p53,a6,b6,a29,b29,b50,h54,g11,o11,g48,o48,beq_self_eq_true]
  exact ⟨_,by omega,(by repeat' (first | assumption | exact within_over.mpr trivial | exact Within.refl _ _ _ | (refine within_ap ?_ rfl rfl) | (refine within_ap0 ?_ rfl))),k2+1,M,r',u,rfl,hlt2,h2,h3,hNN,by simp only [stB,reduceIte,reduceCtorEq,Nat.reduceEqDiff,Nat.reduceAdd,Nat.reduceMul,Nat.reduceLeDiff,Nat.reduceLT,Nat.reduceSub,Nat.reduceBEq,h54];rw [wrBig (by omega)],by simp only [stB,reduceIte,reduceCtorEq,Nat.reduceEqDiff,Nat.reduceAdd,Nat.reduceMul,Nat.reduceLeDiff,Nat.reduceLT,Nat.reduceSub,Nat.reduceBEq,g11],by simp only [stB,reduceIte,reduceCtorEq,Nat.reduceEqDiff,Nat.reduceAdd,Nat.reduceMul,Nat.reduceLeDiff,Nat.reduceLT,Nat.reduceSub,Nat.reduceBEq,o11,RSt.row],by simp only [stB,reduceIte,reduceCtorEq,Nat.reduceEqDiff,Nat.reduceAdd,Nat.reduceMul,Nat.reduceLeDiff,Nat.reduceLT,Nat.reduceSub,Nat.reduceBEq,g48],by simp only [stB,reduceIte,reduceCtorEq,Nat.reduceEqDiff,Nat.reduceAdd,Nat.reduceMul,Nat.reduceLeDiff,Nat.reduceLT,Nat.reduceSub,Nat.reduceBEq,o48]⟩
 have hlt2:¬ (k2:Int) < (more.length:Int):=by omega
 have hgr:=hr.gr;have hop:=hr.open_eq;simp only [↓evP,evB,stB,reduceIte,reduceCtorEq,Nat.reduceEqDiff,Nat.reduceAdd,Nat.reduceMul,Nat.reduceLeDiff,Nat.reduceLT,Nat.reduceSub,Nat.reduceBEq,p1,p5,p6,p9,p10,p11,p52,p53,a6,b6,a29,b29,b50,h54,g11,o11,g48,o48,hlt2];refine methD_intro (tsH s N) [pI s.gor] ⟨s,N,rfl,rfl,rfl,rfl⟩ ?_;simp only [↓evP,evB,stB,reduceIte,reduceCtorEq,Nat.reduceEqDiff,Nat.reduceAdd,Nat.reduceMul,Nat.reduceLeDiff,Nat.reduceLT,Nat.reduceSub,Nat.reduceBEq,p1,p5,p6,p9,p10,p11,p52,p53,a6,b6,a29,b29,b50,h54,g11,o11,g48,o48,hgr,bne_self_eq_false];refine methD_intro (tsH s N) [pB s.isOpen] ⟨s,N,rfl,rfl,rfl,rfl⟩ ?_;simp only [↓evP,evB,stB,reduceIte,reduceCtorEq,Nat.reduceEqDiff,Nat.reduceAdd,Nat.reduceMul,Nat.reduceLeDiff,Nat.reduceLT,Nat.reduceSub,Nat.reduceBEq,p1,p5,p6,p9,p10,p11,p52,p53,a6,b6,a29,b29,b50,h54,g11,o11,g48,o48,hop,beq_self_eq_true]
 refine ⟨(by unfold Drw;refine Eq.trans (b:=true) ?_ rfl;kernel_rfl),?_⟩
 refine pwp_fresh [1,5,6,10,85,86,87] [6,29,50] (fun X hs ho=>?_);simp only [stB,reduceIte,reduceCtorEq,Nat.reduceEqDiff,Nat.reduceAdd,Nat.reduceMul,Nat.reduceLeDiff,Nat.reduceLT,Nat.reduceSub,Nat.reduceBEq,p1,p5,p6,p9,p10,p11,p52,p53,a6,b6,a29,b29,b50,h54,g11,o11,g48,o48] at hs ho;obtain ⟨v1,v5,v6,v10,v85,v86,v87⟩:=hs;obtain ⟨⟨c6,d6⟩,⟨c29,d29⟩,c50,d50⟩:=ho;rw [←c50] at v10;clear c50;refine pwp_loopW ms3_2 (29 :: 50 :: os3_2) (fun n st=>∃ (k2 N2:Nat) (r2:RSt) (s2:TS),n=more.length - k2∧k2≤more.length∧Rel r2 s2∧s2.wf∧(N2:Int)≤2 * s2.events∧st.sl 87=aI k2∧st.gen 6=1∧st.ob 6=.cells (r2.row.map .d)∧st.gen 29=1∧st.ob 29=.ab (tsH s2 N2)∧st.gen 50=X.gen 50∧st.ob 50=.ab (tsH s2 N2)) more.length ?_ ?_
 ·exact ⟨0,N,r,s,rfl,Nat.zero_le _,hr,hw,hN,v87,c6,d6,c29,d29,rfl,d50⟩
 rintro n3 z3 ⟨k3,N3,r3,s3,rfl,hk3,hr3,hw3,hN3,h87,g6',o6',g29',o29',g50',o50'⟩;simp only [stB,reduceIte,reduceCtorEq,Nat.reduceEqDiff,Nat.reduceAdd,Nat.reduceMul,Nat.reduceLeDiff,Nat.reduceLT,Nat.reduceSub,Nat.reduceBEq,RSt.row] at h87 g6' o6' g29' o29' g50' o50';have hev3:=hw3.ev
 rcases Nat.lt_or_ge k3 more.length with hlt3 | hge3
 ·obtain ⟨e,he⟩:∃ e,more[k3]? = some e:=⟨_,List.getElem?_eq_getElem hlt3⟩
  have hlt':(k3:Int) < (more.length:Int):=by omega
  have hk0:(0:Int)≤(k3:Int):=by omega
  obtain ⟨r',h1,h2,h3⟩:=both_step hr3 hw3 e
  have hNN:(((if (s3.add e).isSome=true then N3+2 else N3:Nat)):Int)≤2 * ((s3.add e).getD s3).events:=by
   cases ha:s3.add e with
   | none=>exact hN3
   | some u=>have:=add_ev hw3 ha;show ((N3+2:Nat):Int)≤2 * u.events;omega
  simp only [↓evP,evB,stB,reduceIte,reduceCtorEq,Nat.reduceEqDiff,Nat.reduceAdd,Nat.reduceMul,Nat.reduceLeDiff,Nat.reduceLT,Nat.reduceSub,Nat.reduceBEq,v1,v5,v6,v10,v85,v86,h87,g6',o6',g29',o29',g50',o50',hlt',hk0,he,Ev.row];refine callOps_intro [r'.pa,pB (s3.add e).isSome] ⟨r3,e,rfl,hr3.ok hw3,by rw [h1]⟩ ?_;simp only [↓evP,evB,stB,reduceIte,reduceCtorEq,Nat.reduceEqDiff,Nat.reduceAdd,Nat.reduceMul,Nat.reduceLeDiff,Nat.reduceLT,Nat.reduceSub,Nat.reduceBEq,RSt.pa,RSt.row,v1,v5,v6,v10,v85,v86,h87,g6',o6',g29',o29',g50',o50',hlt',hk0,he,Ev.row];refine methOps_intro (tsH ((s3.add e).getD s3) (if (s3.add e).isSome=true then N3+2 else N3)) [pB (s3.add e).isSome] ⟨s3,N3,e,rfl,rfl,⟨hw3,by omega⟩,rfl,rfl⟩ ?_
  simp only [↓evP,evB,stB,reduceIte,reduceCtorEq,Nat.reduceEqDiff,Nat.reduceAdd,Nat.reduceMul,Nat.reduceLeDiff,Nat.reduceLT,Nat.reduceSub,Nat.reduceBEq,RSt.pa,RSt.row,v1,v5,v6,v10,v85,v86,h87,g6',o6',g29',o29',g50',o50',hlt',hk0,he,Ev.row,beq_self_eq_true];refine methOps_intro (tsH ((s3.add e).getD s3) (if (s3.add e).isSome=true then N3+2 else N3)) [pB (s3.add e).isSome] ⟨s3,N3,e,rfl,rfl,⟨hw3,by omega⟩,rfl,rfl⟩ ?_;generalize (if (s3.add e).isSome=true then N3+2 else N3)=M at *;generalize (s3.add e).isSome=b at *;generalize (s3.add e).getD s3=u at *;simp only [↓evP,evB,stB,reduceIte,reduceCtorEq,Nat.reduceEqDiff,Nat.reduceAdd,Nat.reduceMul,Nat.reduceLeDiff,Nat.reduceLT,Nat.reduceSub,Nat.reduceBEq,RSt.pa,RSt.row,v1,v5,v6,v10,v85,v86,h87,g6',o6',g29',o29',g50',o50',beq_self_eq_true]
  exact ⟨_,by omega,(by repeat' (first | assumption | exact within_over.mpr trivial | exact Within.refl _ _ _ | (refine within_ap ?_ rfl rfl) | (refine within_ap0 ?_ rfl))),k3+1,M,r',u,rfl,hlt3,h2,h3,hNN,by simp only [stB,reduceIte,reduceCtorEq,Nat.reduceEqDiff,Nat.reduceAdd,Nat.reduceMul,Nat.reduceLeDiff,Nat.reduceLT,Nat.reduceSub,Nat.reduceBEq,h87];rw [wrBig (by omega)],by simp only [stB,reduceIte,reduceCtorEq,Nat.reduceEqDiff,Nat.reduceAdd,Nat.reduceMul,Nat.reduceLeDiff,Nat.reduceLT,Nat.reduceSub,Nat.reduceBEq,g6'],by simp only [stB,reduceIte,reduceCtorEq,Nat.reduceEqDiff,Nat.reduceAdd,Nat.reduceMul,Nat.reduceLeDiff,Nat.reduceLT,Nat.reduceSub,Nat.reduceBEq,o6',RSt.row],by simp only [stB,reduceIte,reduceCtorEq,Nat.reduceEqDiff,Nat.reduceAdd,Nat.reduceMul,Nat.reduceLeDiff,Nat.reduceLT,Nat.reduceSub,Nat.reduceBEq,g29'],by simp only [stB,reduceIte,reduceCtorEq,Nat.reduceEqDiff,Nat.reduceAdd,Nat.reduceMul,Nat.reduceLeDiff,Nat.reduceLT,Nat.reduceSub,Nat.reduceBEq,o29'],by simp only [stB,reduceIte,reduceCtorEq,Nat.reduceEqDiff,Nat.reduceAdd,Nat.reduceMul,Nat.reduceLeDiff,Nat.reduceLT,Nat.reduceSub,Nat.reduceBEq,g50'],by simp only [stB,reduceIte,reduceCtorEq,Nat.reduceEqDiff,Nat.reduceAdd,Nat.reduceMul,Nat.reduceLeDiff,Nat.reduceLT,Nat.reduceSub,Nat.reduceBEq,o50']⟩
 have hlt3:¬ (k3:Int) < (more.length:Int):=by omega
 simp only [↓evP,evB,stB,reduceIte,reduceCtorEq,Nat.reduceEqDiff,Nat.reduceAdd,Nat.reduceMul,Nat.reduceLeDiff,Nat.reduceLT,Nat.reduceSub,Nat.reduceBEq,v1,v5,v6,v10,v85,v86,h87,g6',o6',g29',o29',g50',o50',hlt3];refine callOps_intro [pB false] (by exact ⟨⟨0,1,0,0,0,0,0,0,0⟩,rfl,rfl⟩) ?_;simp only [↓evP,evB,stB,reduceIte,reduceCtorEq,Nat.reduceEqDiff,Nat.reduceAdd,Nat.reduceMul,Nat.reduceLeDiff,Nat.reduceLT,Nat.reduceSub,Nat.reduceBEq];refine callOps_intro [pB false] (by exact ⟨rfl,rfl⟩) ?_;simp only [↓evP,evB,stB,reduceIte,reduceCtorEq,Nat.reduceEqDiff,Nat.reduceAdd,Nat.reduceMul,Nat.reduceLeDiff,Nat.reduceLT,Nat.reduceSub,Nat.reduceBEq];refine callOps_intro [pI 0] (by exact ⟨rfl,rfl⟩) ?_;simp only [↓evP,evB,stB,reduceIte,reduceCtorEq,Nat.reduceEqDiff,Nat.reduceAdd,Nat.reduceMul,Nat.reduceLeDiff,Nat.reduceLT,Nat.reduceSub,Nat.reduceBEq,pI,beq_self_eq_true]
 refine callOps_intro [nilP] (by exact ⟨rfl,rfl⟩) ?_;simp only [↓evP,evB,stB,reduceIte,reduceCtorEq,Nat.reduceEqDiff,Nat.reduceAdd,Nat.reduceMul,Nat.reduceLeDiff,Nat.reduceLT,Nat.reduceSub,Nat.reduceBEq,nilP,pr3]
end Go.Proofs.Ytffcpijeebagfaa
end
section
namespace Go.Proofs.Ytffcpijeebagfaa
open Go Go.RowKit Go.WideShapes Go.ChangeShapes Go.Deep
theorem trodAll_below {H:Type} {enc:TypeId×Value→H} {P:Program} (hl:laidOutB P=true) {W W':World} (hb:Below W.heap.size W W') :
 ∀ {ts:List TypeId} {vs:List Value} {ds:List (DataW H)} {ps:List MemPlace},(ts.all fun t=>P.readableRec t && decide (t < P.types.size))=true→DataW.TrodAll enc P W 0 (fun _=>true) true ts vs ds ps→DataW.TrodAll enc P W' 0 (fun b=>decide (b < W.heap.size)) true ts vs ds ps
 | [],vs,ds,ps,_,h=>by obtain ⟨rfl,rfl,rfl⟩:=trodAll_nil h;exact trodAll_mk0
 | t :: ts,vs,ds,ps,ht,h=>by
   obtain ⟨v,vs',d,ds',p,q,rfl,rfl,rfl,h1,h2⟩:=trodAll_cons h;simp only [List.all_cons,Bool.and_eq_true,decide_eq_true_eq] at ht;have lt:∀ x ∈ p,x.block < W.heap.size:=by obtain ⟨m,hm⟩:=h1;exact DataW.trod_lt m _ _ _ hm
   exact trodAll_cons_mk (Below.trod hl ht.1.1 ht.1.2 h1 hb lt) (trodAll_below hl hb (by rw [Bool.eq_iff_iff] at *;simpa using ht.2) h2)
theorem Spec.true [I:WInv] {P:Program} {f:Nat} {R:List Pa→List Pa→Prop} (hs:Spec P f R) {ps:List Pa} (hR:R ps [pB true]) {S:Nat→Nat} {w:World} {vals:Array Value} (hw:I.p w) (hv:RPs S w ps vals) :
 Calls P f vals w fun e w'=>e=.returned (.bool true)∧Below w.heap.size w w':=by
 refine (hs ps _ hR S w vals hw hv).mono ?_;rintro e w' ⟨v,S',rfl,h1,h2,_⟩;exact ⟨by rw [RP.bool h1],h2⟩
end Go.Proofs.Ytffcpijeebagfaa
end
