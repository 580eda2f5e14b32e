/- The walk of (*trace.State).proceed. -/
import Derived.Test.YtffcpijeebagfaaMo4
import Derived.Deep.QuietTactic
import Derived.BigQuiet
import Derived.LaidEqlPtr
import Derived.LoopTactic
import Derived.ProofKit
import Derived.Deep.Slices
import Derived.Deep.Fields
import Derived.ChangeSame
set_option linter.unusedSimpArgs false
set_option linter.unusedVariables false
section
namespace Go.Proofs.Ytffcpijeebagfaa
open Go.RowKit
section
variable [KB]
structure PW (W:World) (sb bc eb b o c:Nat) (g kind obj off k en fn pc stack:Int) (k0:Int) (ln:Nat) (gobj gk gn snd rcv:Int):Prop where
 c2:W.cell? ⟨sb,2,none⟩=some (.map (some bc))
 c5:W.cell? ⟨sb,5,none⟩=some (.slice (some ⟨b,o,none⟩) ln c)
 c6:W.cell? ⟨sb,6,none⟩=some (.int .i64 gobj)
 c7:W.cell? ⟨sb,7,none⟩=some (.int .i64 gk)
 c8:W.cell? ⟨sb,8,none⟩=some (.int .i64 gn)
 c9:W.cell? ⟨sb,9,none⟩=some (.int .i64 snd)
 c10:W.cell? ⟨sb,10,none⟩=some (.int .i64 rcv)
 f5:W.frozen? ⟨sb,5,none⟩=false
 f9:W.frozen? ⟨sb,9,none⟩=false
 f10:W.frozen? ⟨sb,10,none⟩=false
 ck:W.cell? ⟨b,o,none⟩=some (.int .i64 k0)
 e0:W.cell? ⟨eb,0,none⟩=some (.int .i64 g)
 e1:W.cell? ⟨eb,1,none⟩=some (.int .i64 kind)
 e2:W.cell? ⟨eb,2,none⟩=some (.int .i64 obj)
 e3:W.cell? ⟨eb,3,none⟩=some (.int .i64 off)
 e4:W.cell? ⟨eb,4,none⟩=some (.int .i64 k)
 e5:W.cell? ⟨eb,5,none⟩=some (.int .i64 en)
 e6:W.cell? ⟨eb,6,none⟩=some (.int .i64 fn)
 e7:W.cell? ⟨eb,7,none⟩=some (.int .i64 pc)
 e8:W.cell? ⟨eb,8,none⟩=some (.int .i64 stack)
theorem PW.make {sb bc bm bd N:Nat} {s:TS} {kv:Value} {w:World} (h:dK w sb bc bm bd N s kv) (g kind obj off k en fn pc stack:Int) (k0:Int) (ks:List Int) (hk:s.grp.kinds=k0 :: ks) :
 ∃ b o c,kv=.slice (some ⟨b,o,none⟩) (ks.length+1) c∧ks.length+1≤c∧(b≠sb∧KB.p b)∧b < w.heap.size∧(∀ i x,s.grp.kinds[i]? = some x→w.cell? ⟨b,o+i,none⟩=some (.int .i64 x)) ∧
   PW (w.alloc (.cells #[.int .i64 g,.int .i64 kind,.int .i64 obj,.int .i64 off,.int .i64 k,.int .i64 en,.int .i64 fn,.int .i64 pc,.int .i64 stack] 34)) sb bc w.heap.size b o c g kind obj off k en fn pc stack k0 (ks.length+1) s.grp.obj s.grp.k s.grp.n s.grp.snd s.grp.rcv:=by
 obtain ⟨A,c,hkv,hlc,hh⟩:=h.kinds;obtain ⟨b,o,rfl,hb,hc⟩:=hh (by rw [hk];simp)
 have hlen:s.grp.kinds.length=ks.length+1:=by rw [hk];rfl
 rw [hlen] at hkv hlc;have hck:=hc 0 k0 (by rw [hk];rfl)
 rw [Nat.add_zero] at hck;have hblt:=block_lt_of_cell hck;dsimp only at hblt;have hslt:=h.lt
 have old:∀ (q j:Nat) (v:Value) (O:Obj),q < w.heap.size→w.cell? ⟨q,j,none⟩=some v→(w.alloc O).cell? ⟨q,j,none⟩=some v:=fun q j v O hq hv=>by
  rw [World.cell?_alloc_lt w O ⟨q,j,none⟩ hq];exact hv
 have oldf:∀ (j:Nat) (O:Obj),(w.alloc O).frozen? ⟨sb,j,none⟩=false:=fun j O=>by
  rw [((Below.refl w.heap.size w).alloc (Nat.le_refl _) O).frozen (p:=⟨sb,j,none⟩) hslt];exact h.frozen j
 refine ⟨b,o,c,hkv,hlc,hb,hblt,hc,?_⟩;have nw:∀ (j:Nat) (cs:Array Value),(w.alloc (.cells cs 34)).cell? ⟨w.heap.size,j,none⟩=cs[j]?:=fun j cs=>cell_of_row _ _ _ _ _ _ (heap_alloc_new w _)
 exact ⟨old _ _ _ _ hslt (h.cell 2),old _ _ _ _ hslt (by rw [h.cell 5,←hkv];rfl),old _ _ _ _ hslt (h.cell 6),old _ _ _ _ hslt (h.cell 7),old _ _ _ _ hslt (h.cell 8),old _ _ _ _ hslt (h.cell 9),old _ _ _ _ hslt (h.cell 10),
  oldf _ _,oldf _ _,oldf _ _,old _ _ _ _ hblt hck,nw _ _,nw _ _,nw _ _,nw _ _,nw _ _,nw _ _,nw _ _,nw _ _,nw _ _⟩
theorem lI {sb bc bm bd N:Nat} {s:TS} {kv:Value} {w W2:World} (h:dK w sb bc bm bd N s kv) (hN:N+2 < maxLen) (e:Ev) (hio:I64 e.obj)
 (hcb:∀ c,(s.chans e.obj).getD ch0=c→(0≤c.sent∧c.sent≤5000)∧(0≤c.recv∧c.recv≤5000)) {kv2:Value} {g':Grp}
 (hrow2:W2.heap[sb]? = some (.cells (fG { s with grp:=g' } bc bm bd kv2) 92 (0,0))) (hb2:But [sb] w W2) (hk2:gQ W2 kv2 g'.kinds sb) :
 Calls Try.prog 94 #[.pointer (some ⟨sb,0,none⟩),e.val] W2 fun r w3=>r=.returned (.tuple #[])∧((∃ kv',dK w3 sb bc bm bd (N+2) { s.count e with grp:=g' } kv')∧But [sb,bc] w w3):=by
 have hne:=h.chans.fF h.row;have hlt:=h.lt;have hsz:=hb2.size;refine (count_any sb bc N s.chans e W2 (cell_of_row W2 sb 2 _ _ _ hrow2) (h.chans.but hb2 (by simpa using hne)) (by omega) hio hcb).mono ?_;rintro r w3 ⟨rfl,hm5,hb4⟩;have hbt:But [sb,bc] w w3:=(hb2.mono (by simp)).trans (hb4.mono (by simp));refine ⟨rfl,⟨kv2,⟨(hb4.block sb (by omega) (by simpa using Ne.symm hne)).trans hrow2,hk2.keep hb4 (fun b cs t fr hc _ hm=>?_),hm5.mono (by omega),(h.mus.but hbt ?_).mono (by omega),(h.done.but hbt ?_).mono (by omega),h.ncm,h.ncd,h.nmd⟩⟩,hbt⟩
 ·simp only [List.mem_singleton] at hm;subst hm;exact absurd rfl ((h.chans.but hb2 (by simpa using hne)).fF hc)
 ·simp only [List.mem_cons,List.not_mem_nil,or_false,not_or];exact ⟨h.mus.fF h.row,Ne.symm h.ncm⟩
 ·simp only [List.mem_cons,List.not_mem_nil,or_false,not_or];exact ⟨h.done.fF h.row,Ne.symm h.ncd⟩
omit [KB] in
theorem below_drewN {B:Nat} {a w:World} (h:Below B a w) (n:Nat):Below B a (w.drewN n):=⟨h.os,h.tape,h.output,h.size,h.block⟩
set_option maxRecDepth 100000 in
set_option maxHeartbeats 4000000 in
theorem BU {sb bc bm bd N:Nat} {s:TS} {kv:Value} (w:World) (h:dK w sb bc bm bd N s kv) (e:Ev) (k0:Int) (ks:List Int) (hk:s.grp.kinds=k0 :: ks)
 (hm:(e.kind != k0)=true∨((e.kind != k0)=false∧(e.obj != s.grp.obj)=true)∨((e.kind != k0)=false∧(e.obj != s.grp.obj)=false∧(e.k != s.grp.k)=true)∨((e.kind != k0)=false∧(e.obj != s.grp.obj)=false∧(e.k != s.grp.k)=false∧(e.n != s.grp.n)=true)) :
 Calls Try.prog 60 #[.pointer (some ⟨sb,0,none⟩),e.val] w fun r w'=>r=.returned (.bool false)∧Below w.heap.size w w':=by
 obtain ⟨g,kind,obj,off,k,en,fn,pc,stack⟩:=e;obtain ⟨b,o,c,hkv,hlc,⟨hbsb,hkbb⟩,hblt,hcs,hp⟩:=PW.make h g kind obj off k en fn pc stack k0 ks hk;have hsb:=h.lt;have HH:=Lib.hid h;clear h;have HK:=Lib.hid hk;clear hk;have HKV:=Lib.hid hkv;clear hkv;have HCS:=Lib.hid hcs;clear hcs;dsimp only at *;unfold Ev.val
 go_enter Try.func60,Try.ntmps60
 go_upto_region 1 with fail
 generalize hW:World.alloc w _=W at *;have hB:Below w.heap.size w W:=by rw [←hW];exact (Below.refl _ _).alloc (Nat.le_refl _) _
 have hz:w.heap.size < W.heap.size:=by rw [←hW];simp
 clear hW;have HB:=Lib.hid hB;clear hB;obtain ⟨c2,c5,c6,c7,c8,c9,c10,f5,f9,f10,ck,e0,e1,e2,e3,e4,e5,e6,e7,e8⟩:=hp
 rcases hm with h1 | ⟨h1,h2⟩ | ⟨h1,h2,h3⟩ | ⟨h1,h2,h3,h4⟩
 all_goals
  go_wp2
  go_quiet (fail)
  go_wp2
  go_ret
  exact ⟨rfl,by repeat (first | exact HB.out | refine below_drewN ?_ _)⟩
set_option maxRecDepth 100000 in
set_option maxHeartbeats 4000000 in
theorem uh {sb bc bm bd N:Nat} {s:TS} {kv:Value} (w:World) (h:dK w sb bc bm bd N s kv) (e:Ev) (k0:Int) (ks:List Int) (hk:s.grp.kinds=k0 :: ks)
 (h1:(e.kind != k0)=false) (h2:(e.obj != s.grp.obj)=false) (h3:(e.k != s.grp.k)=false) (h4:(e.n != s.grp.n)=false) (hs:jk e.kind=true) (hm:(decide (s.grp.snd < 0)=true∧(e.g == s.grp.rcv)=true)∨(decide (s.grp.snd < 0)=false∧decide (0≤s.grp.snd)=true∧(e.g != s.grp.snd)=true)) :
 Calls Try.prog 60 #[.pointer (some ⟨sb,0,none⟩),e.val] w fun r w'=>r=.returned (.bool false)∧Below w.heap.size w w':=by
 obtain ⟨g,kind,obj,off,k,en,fn,pc,stack⟩:=e;obtain ⟨b,o,c,hkv,hlc,⟨hbsb,hkbb⟩,hblt,hcs,hp⟩:=PW.make h g kind obj off k en fn pc stack k0 ks hk;have hsb:=h.lt;have HH:=Lib.hid h;clear h;have HK:=Lib.hid hk;clear hk;have HKV:=Lib.hid hkv;clear hkv;have HCS:=Lib.hid hcs;clear hcs;dsimp only at *;unfold Ev.val
 go_enter Try.func60,Try.ntmps60
 go_upto_region 1 with fail
 generalize hW:World.alloc w _=W at *;have hB:Below w.heap.size w W:=by rw [←hW];exact (Below.refl _ _).alloc (Nat.le_refl _) _
 have hz:w.heap.size < W.heap.size:=by rw [←hW];simp
 clear hW;have HB:=Lib.hid hB;clear hB;obtain ⟨c2,c5,c6,c7,c8,c9,c10,f5,f9,f10,ck,e0,e1,e2,e3,e4,e5,e6,e7,e8⟩:=hp
 rcases hm with ⟨h5,h6⟩ | ⟨h5,h6,h7⟩
 all_goals
  go_wp2
  go_quiet (fail)
  go_wp2
  go_quiet (fail)
  go_wp2_with (go_at_call 93;refine (oN _ _).mono ?_;rintro e w' ⟨rfl,rfl⟩)
  go_quiet (fail)
  go_wp2
  go_quiet (fail)
  go_wp2
  go_ret
  exact ⟨rfl,by repeat (first | exact HB.out | refine below_drewN ?_ _)⟩
set_option maxRecDepth 100000 in
set_option maxHeartbeats 4000000 in
theorem qF {sb bc bm bd N:Nat} {s:TS} {kv:Value} (w:World) (h:dK w sb bc bm bd N s kv) (hN:N+2 < maxLen) (e:Ev) (hio:I64 e.obj) (k0:Int) (ks:List Int) (hk:s.grp.kinds=k0 :: ks)
 (hcb:∀ c,(s.chans e.obj).getD ch0=c→(0≤c.sent∧c.sent≤5000)∧(0≤c.recv∧c.recv≤5000))
 (h1:(e.kind != k0)=false) (h2:(e.obj != s.grp.obj)=false) (h3:(e.k != s.grp.k)=false) (h4:(e.n != s.grp.n)=false) (hs:jk e.kind=true) (hm:(decide (s.grp.snd < 0)=true∧(e.g == s.grp.rcv)=false∧decide (0≤s.grp.snd)=false)∨(decide (s.grp.snd < 0)=false∧decide (0≤s.grp.snd)=true∧(e.g != s.grp.snd)=false)) :
 Calls Try.prog 60 #[.pointer (some ⟨sb,0,none⟩),e.val] w fun r w'=>r=.returned (.bool true)∧(∃ kv',dK w' sb bc bm bd (N+2) { s.count e with grp:=s.grp.next e } kv')∧But [sb,bc] w w':=by
 obtain ⟨g,kind,obj,off,k,en,fn,pc,stack⟩:=e;obtain ⟨b,o,c,hkv,hlc,⟨hbsb,hkbb⟩,hblt,hcs,hp⟩:=PW.make h g kind obj off k en fn pc stack k0 ks hk;have hsb:=h.lt;have HH:=Lib.hid h;clear h;have HK:=Lib.hid hk;clear hk;have HKV:=Lib.hid hkv;clear hkv;have HCS:=Lib.hid hcs;clear hcs;dsimp only at *;unfold Ev.val
 go_enter Try.func60,Try.ntmps60
 go_upto_region 1 with fail
 generalize hW:World.alloc w _=W at *;have hB:Below w.heap.size w W:=by rw [←hW];exact (Below.refl _ _).alloc (Nat.le_refl _) _
 have hz:w.heap.size < W.heap.size:=by rw [←hW];simp
 clear hW;have HB:=Lib.hid hB;clear hB;obtain ⟨c2,c5,c6,c7,c8,c9,c10,f5,f9,f10,ck,e0,e1,e2,e3,e4,e5,e6,e7,e8⟩:=hp;have HCB:=Lib.hid hcb;clear hcb
 rcases hm with ⟨h5,h6,h7⟩ | ⟨h5,h6,h7⟩
 all_goals
  go_wp2
  go_quiet (fail)
  go_wp2
  go_quiet (fail)
  go_wp2_with (go_at_call 93;refine (oN _ _).mono ?_;rintro e w' ⟨rfl,rfl⟩)
  go_quiet (fail)
  go_wp2
  go_quiet (fail)
  go_upto_region 10 with fail
  generalize hV:World.setCell _ _ _=V
  have hrow:V.heap[sb]? = some (.cells ((fG s bc bm bd kv).setIfInBounds 9 (.int .i64 g)) 92 (0,0)):=by
   rw [←hV];exact heap_setCell_same _ _ _ _ _ _ ((HB.out.block sb hsb).trans HH.out.row)
  have hbV:But [sb] W V:=by rw [←hV];exact ((But.refl _ _).drewN _).setCell (.inl (by simp)) _
  clear hV c2 c5 c6 c7 c8 c9 c10 f5 f9 f10 ck;have ke:∀ j v,W.cell? ⟨w.heap.size,j,none⟩=some v→V.cell? ⟨w.heap.size,j,none⟩=some v:=fun j v hv=>(hbV.cell (p:=⟨w.heap.size,j,none⟩) hz (by simp;omega)).trans hv
  have e0:=ke _ _ e0;have e1:=ke _ _ e1;have e2:=ke _ _ e2;have e3:=ke _ _ e3;have e4:=ke _ _ e4;have e5:=ke _ _ e5;have e6:=ke _ _ e6;have e7:=ke _ _ e7;have e8:=ke _ _ e8;have c5:V.cell? ⟨sb,5,none⟩=some (.slice (some ⟨b,o,none⟩) (ks.length+1) c):=by rw [cell_of_row V sb 5 _ _ _ hrow,←HKV.out];rfl
  have f5:V.frozen? ⟨sb,5,none⟩=false:=frozen_of_row V sb 5 _ _ hrow;have HR:=Lib.hid hrow;clear hrow ke;have HBV:=Lib.hid hbV;clear hbV
  by_cases hc1:c=1
  ·subst hc1
   go_wp2_with fail
   have hks:ks=[]:=by cases ks with | nil=>rfl | cons a l=>simp at hlc
   generalize hW2:World.setCell V _ _=W2
   have hrow2:W2.heap[sb]? = some (.cells (fG { s with grp:=s.grp.next ⟨g,kind,obj,off,k,en,fn,pc,stack⟩ } bc bm bd (.slice (some ⟨b,o,none⟩) 0 0)) 92 (0,0)):=by
    rw [←hW2,heap_setCell_same _ _ _ _ _ _ HR.out];simp [fG,Grp.next,hs]
   have hb2:But [sb] w W2:=by
    rw [←hW2];exact (((But.refl _ _).below HB.out).trans HBV.out).setCell (.inl (by simp)) _
   clear hW2
   have hk2:gQ W2 (.slice (some ⟨b,o,none⟩) 0 0) (s.grp.next ⟨g,kind,obj,off,k,en,fn,pc,stack⟩).kinds sb:=by
    have hkk:(s.grp.next ⟨g,kind,obj,off,k,en,fn,pc,stack⟩).kinds=[]:=by simp [Grp.next,hs,HK.out,hks]
    rw [hkk];exact ⟨_,_,rfl,Nat.le_refl _,fun h0=>absurd h0 (by simp)⟩
   refine (lI HH.out hN ⟨g,kind,obj,off,k,en,fn,pc,stack⟩ hio HCB.out hrow2 hb2 hk2).mono ?_;rintro r w3 ⟨rfl,hfin⟩;have HF:=Lib.hid hfin;clear hfin hrow2 hb2 hk2
   go_wp2
   go_ret
   exact ⟨rfl,HF.out⟩
  ·have hc2:1 < c:=by omega
   go_wp2_with fail
   generalize hW2:World.setCell V _ _=W2
   have hrow2:W2.heap[sb]? = some (.cells (fG { s with grp:=s.grp.next ⟨g,kind,obj,off,k,en,fn,pc,stack⟩ } bc bm bd (.slice (some ⟨b,o+1,none⟩) ks.length (c - 1))) 92 (0,0)):=by
    rw [←hW2,heap_setCell_same _ _ _ _ _ _ HR.out];simp [fG,Grp.next,hs]
   have hb2:But [sb] w W2:=by
    rw [←hW2];exact (((But.refl _ _).below HB.out).trans HBV.out).setCell (.inl (by simp)) _
   clear hW2
   have hk2:gQ W2 (.slice (some ⟨b,o+1,none⟩) ks.length (c - 1)) (s.grp.next ⟨g,kind,obj,off,k,en,fn,pc,stack⟩).kinds sb:=by
    have hkk:(s.grp.next ⟨g,kind,obj,off,k,en,fn,pc,stack⟩).kinds=ks:=by simp [Grp.next,hs,HK.out]
    rw [hkk];refine ⟨_,_,rfl,by omega,fun h0=>⟨b,o+1,rfl,⟨hbsb,hkbb⟩,fun i x hx=>?_⟩⟩;have hx0:=HCS.out (i+1) x (by rw [HK.out];simpa using hx)
    rw [show o+1+i=o+(i+1) by omega];exact (hb2.cell (p:=⟨b,o+(i+1),none⟩) hblt (by simpa using hbsb)).trans hx0
   refine (lI HH.out hN ⟨g,kind,obj,off,k,en,fn,pc,stack⟩ hio HCB.out hrow2 hb2 hk2).mono ?_;rintro r w3 ⟨rfl,hfin⟩;have HF:=Lib.hid hfin;clear hfin hrow2 hb2 hk2
   go_wp2
   go_ret
   exact ⟨rfl,HF.out⟩
set_option maxRecDepth 100000 in
set_option maxHeartbeats 4000000 in
theorem ug {sb bc bm bd N:Nat} {s:TS} {kv:Value} (w:World) (h:dK w sb bc bm bd N s kv) (e:Ev) (k0:Int) (ks:List Int) (hk:s.grp.kinds=k0 :: ks)
 (h1:(e.kind != k0)=false) (h2:(e.obj != s.grp.obj)=false) (h3:(e.k != s.grp.k)=false) (h4:(e.n != s.grp.n)=false) (hs:jk e.kind=false) (hm:(decide (s.grp.rcv < 0)=true∧(e.g == s.grp.snd)=true)∨(decide (s.grp.rcv < 0)=false∧decide (0≤s.grp.rcv)=true∧(e.g != s.grp.rcv)=true)) :
 Calls Try.prog 60 #[.pointer (some ⟨sb,0,none⟩),e.val] w fun r w'=>r=.returned (.bool false)∧Below w.heap.size w w':=by
 obtain ⟨g,kind,obj,off,k,en,fn,pc,stack⟩:=e;obtain ⟨b,o,c,hkv,hlc,⟨hbsb,hkbb⟩,hblt,hcs,hp⟩:=PW.make h g kind obj off k en fn pc stack k0 ks hk;have hsb:=h.lt;have HH:=Lib.hid h;clear h;have HK:=Lib.hid hk;clear hk;have HKV:=Lib.hid hkv;clear hkv;have HCS:=Lib.hid hcs;clear hcs;dsimp only at *;unfold Ev.val
 go_enter Try.func60,Try.ntmps60
 go_upto_region 1 with fail
 generalize hW:World.alloc w _=W at *;have hB:Below w.heap.size w W:=by rw [←hW];exact (Below.refl _ _).alloc (Nat.le_refl _) _
 have hz:w.heap.size < W.heap.size:=by rw [←hW];simp
 clear hW;have HB:=Lib.hid hB;clear hB;obtain ⟨c2,c5,c6,c7,c8,c9,c10,f5,f9,f10,ck,e0,e1,e2,e3,e4,e5,e6,e7,e8⟩:=hp
 rcases hm with ⟨h5,h6⟩ | ⟨h5,h6,h7⟩
 all_goals
  go_wp2
  go_quiet (fail)
  go_wp2
  go_quiet (fail)
  go_wp2_with (go_at_call 93;refine (oN _ _).mono ?_;rintro e w' ⟨rfl,rfl⟩)
  go_quiet (fail)
  go_wp2
  go_ret
  exact ⟨rfl,by repeat (first | exact HB.out | refine below_drewN ?_ _)⟩
set_option maxRecDepth 100000 in
set_option maxHeartbeats 4000000 in
theorem qE {sb bc bm bd N:Nat} {s:TS} {kv:Value} (w:World) (h:dK w sb bc bm bd N s kv) (hN:N+2 < maxLen) (e:Ev) (hio:I64 e.obj) (k0:Int) (ks:List Int) (hk:s.grp.kinds=k0 :: ks)
 (hcb:∀ c,(s.chans e.obj).getD ch0=c→(0≤c.sent∧c.sent≤5000)∧(0≤c.recv∧c.recv≤5000))
 (h1:(e.kind != k0)=false) (h2:(e.obj != s.grp.obj)=false) (h3:(e.k != s.grp.k)=false) (h4:(e.n != s.grp.n)=false) (hs:jk e.kind=false) (hm:(decide (s.grp.rcv < 0)=true∧(e.g == s.grp.snd)=false∧decide (0≤s.grp.rcv)=false)∨(decide (s.grp.rcv < 0)=false∧decide (0≤s.grp.rcv)=true∧(e.g != s.grp.rcv)=false)) :
 Calls Try.prog 60 #[.pointer (some ⟨sb,0,none⟩),e.val] w fun r w'=>r=.returned (.bool true)∧(∃ kv',dK w' sb bc bm bd (N+2) { s.count e with grp:=s.grp.next e } kv')∧But [sb,bc] w w':=by
 obtain ⟨g,kind,obj,off,k,en,fn,pc,stack⟩:=e;obtain ⟨b,o,c,hkv,hlc,⟨hbsb,hkbb⟩,hblt,hcs,hp⟩:=PW.make h g kind obj off k en fn pc stack k0 ks hk;have hsb:=h.lt;have HH:=Lib.hid h;clear h;have HK:=Lib.hid hk;clear hk;have HKV:=Lib.hid hkv;clear hkv;have HCS:=Lib.hid hcs;clear hcs;dsimp only at *;unfold Ev.val
 go_enter Try.func60,Try.ntmps60
 go_upto_region 1 with fail
 generalize hW:World.alloc w _=W at *;have hB:Below w.heap.size w W:=by rw [←hW];exact (Below.refl _ _).alloc (Nat.le_refl _) _
 have hz:w.heap.size < W.heap.size:=by rw [←hW];simp
 clear hW;have HB:=Lib.hid hB;clear hB;obtain ⟨c2,c5,c6,c7,c8,c9,c10,f5,f9,f10,ck,e0,e1,e2,e3,e4,e5,e6,e7,e8⟩:=hp;have HCB:=Lib.hid hcb;clear hcb
 rcases hm with ⟨h5,h6,h7⟩ | ⟨h5,h6,h7⟩
 all_goals
  go_wp2
  go_quiet (fail)
  go_wp2
  go_quiet (fail)
  go_wp2_with (go_at_call 93;refine (oN _ _).mono ?_;rintro e w' ⟨rfl,rfl⟩)
  go_quiet (fail)
  go_upto_region 10 with fail
  generalize hV:World.setCell _ _ _=V
  have hrow:V.heap[sb]? = some (.cells ((fG s bc bm bd kv).setIfInBounds 10 (.int .i64 g)) 92 (0,0)):=by
   rw [←hV];exact heap_setCell_same _ _ _ _ _ _ ((HB.out.block sb hsb).trans HH.out.row)
  have hbV:But [sb] W V:=by rw [←hV];exact ((But.refl _ _).drewN _).setCell (.inl (by simp)) _
  clear hV c2 c5 c6 c7 c8 c9 c10 f5 f9 f10 ck;have ke:∀ j v,W.cell? ⟨w.heap.size,j,none⟩=some v→V.cell? ⟨w.heap.size,j,none⟩=some v:=fun j v hv=>(hbV.cell (p:=⟨w.heap.size,j,none⟩) hz (by simp;omega)).trans hv
  have e0:=ke _ _ e0;have e1:=ke _ _ e1;have e2:=ke _ _ e2;have e3:=ke _ _ e3;have e4:=ke _ _ e4;have e5:=ke _ _ e5;have e6:=ke _ _ e6;have e7:=ke _ _ e7;have e8:=ke _ _ e8;have c5:V.cell? ⟨sb,5,none⟩=some (.slice (some ⟨b,o,none⟩) (ks.length+1) c):=by rw [cell_of_row V sb 5 _ _ _ hrow,←HKV.out];rfl
  have f5:V.frozen? ⟨sb,5,none⟩=false:=frozen_of_row V sb 5 _ _ hrow;have HR:=Lib.hid hrow;clear hrow ke;have HBV:=Lib.hid hbV;clear hbV
  by_cases hc1:c=1
  ·subst hc1
   go_wp2_with fail
   have hks:ks=[]:=by cases ks with | nil=>rfl | cons a l=>simp at hlc
   generalize hW2:World.setCell V _ _=W2
   have hrow2:W2.heap[sb]? = some (.cells (fG { s with grp:=s.grp.next ⟨g,kind,obj,off,k,en,fn,pc,stack⟩ } bc bm bd (.slice (some ⟨b,o,none⟩) 0 0)) 92 (0,0)):=by
    rw [←hW2,heap_setCell_same _ _ _ _ _ _ HR.out];simp [fG,Grp.next,hs]
   have hb2:But [sb] w W2:=by
    rw [←hW2];exact (((But.refl _ _).below HB.out).trans HBV.out).setCell (.inl (by simp)) _
   clear hW2
   have hk2:gQ W2 (.slice (some ⟨b,o,none⟩) 0 0) (s.grp.next ⟨g,kind,obj,off,k,en,fn,pc,stack⟩).kinds sb:=by
    have hkk:(s.grp.next ⟨g,kind,obj,off,k,en,fn,pc,stack⟩).kinds=[]:=by simp [Grp.next,hs,HK.out,hks]
    rw [hkk];exact ⟨_,_,rfl,Nat.le_refl _,fun h0=>absurd h0 (by simp)⟩
   refine (lI HH.out hN ⟨g,kind,obj,off,k,en,fn,pc,stack⟩ hio HCB.out hrow2 hb2 hk2).mono ?_;rintro r w3 ⟨rfl,hfin⟩;have HF:=Lib.hid hfin;clear hfin hrow2 hb2 hk2
   go_wp2
   go_ret
   exact ⟨rfl,HF.out⟩
  ·have hc2:1 < c:=by omega
   go_wp2_with fail
   generalize hW2:World.setCell V _ _=W2
   have hrow2:W2.heap[sb]? = some (.cells (fG { s with grp:=s.grp.next ⟨g,kind,obj,off,k,en,fn,pc,stack⟩ } bc bm bd (.slice (some ⟨b,o+1,none⟩) ks.length (c - 1))) 92 (0,0)):=by
    rw [←hW2,heap_setCell_same _ _ _ _ _ _ HR.out];simp [fG,Grp.next,hs]
   have hb2:But [sb] w W2:=by
    rw [←hW2];exact (((But.refl _ _).below HB.out).trans HBV.out).setCell (.inl (by simp)) _
   clear hW2
   have hk2:gQ W2 (.slice (some ⟨b,o+1,none⟩) ks.length (c - 1)) (s.grp.next ⟨g,kind,obj,off,k,en,fn,pc,stack⟩).kinds sb:=by
    have hkk:(s.grp.next ⟨g,kind,obj,off,k,en,fn,pc,stack⟩).kinds=ks:=by simp [Grp.next,hs,HK.out]
    rw [hkk];refine ⟨_,_,rfl,by omega,fun h0=>⟨b,o+1,rfl,⟨hbsb,hkbb⟩,fun i x hx=>?_⟩⟩;have hx0:=HCS.out (i+1) x (by rw [HK.out];simpa using hx)
    rw [show o+1+i=o+(i+1) by omega];exact (hb2.cell (p:=⟨b,o+(i+1),none⟩) hblt (by simpa using hbsb)).trans hx0
   refine (lI HH.out hN ⟨g,kind,obj,off,k,en,fn,pc,stack⟩ hio HCB.out hrow2 hb2 hk2).mono ?_;rintro r w3 ⟨rfl,hfin⟩;have HF:=Lib.hid hfin;clear hfin hrow2 hb2 hk2
   go_wp2
   go_ret
   exact ⟨rfl,HF.out⟩
theorem BR {sb bc bm bd N:Nat} {s:TS} {kv:Value} (w:World) (h:dK w sb bc bm bd N s kv) (hs:s.wf) (hN:N+2 < maxLen) (e:Ev) (hv:e.valid=true) (ho:s.isOpen=true) :
 Calls Try.prog 60 #[.pointer (some ⟨sb,0,none⟩),e.val] w fun r w'=>r=.returned (.bool (s.proceed e).isSome)∧(∃ kv',dK w' sb bc bm bd (N+2) ((s.proceed e).getD s) kv')∧But [sb,bc] w w':=by
 obtain ⟨k0,ks,hk⟩:∃ k0 ks,s.grp.kinds=k0 :: ks:=by
  unfold TS.isOpen at ho
  cases hkk:s.grp.kinds with
  | nil=>rw [hkk] at ho;simp at ho
  | cons a l=>exact ⟨a,l,rfl⟩
 have hio:I64 e.obj:=by have:=Ev.oP hv;exact ⟨by omega,by omega⟩
 have hcb:∀ c,(s.chans e.obj).getD ch0=c→(0≤c.sent∧c.sent≤5000)∧(0≤c.recv∧c.recv≤5000):=by
  rintro c rfl;have:=hs.ev
  cases hc:s.chans e.obj with
  | none=>simp [ch0]
  | some c=>have:=hs.ch _ _ hc;simp only [Option.getD_some];omega
 have no:s.proceed e=none→∀ {P:Prop},(Calls Try.prog 60 #[.pointer (some ⟨sb,0,none⟩),e.val] w fun r w'=>r=.returned (.bool false)∧Below w.heap.size w w') →
  Calls Try.prog 60 #[.pointer (some ⟨sb,0,none⟩),e.val] w fun r w'=>r=.returned (.bool (s.proceed e).isSome)∧(∃ kv',dK w' sb bc bm bd (N+2) ((s.proceed e).getD s) kv')∧But [sb,bc] w w':=fun hn _ hc=>by
  rw [hn];exact hc.mono fun r w' ⟨h1,h2⟩=>⟨h1,⟨kv,(h.below h2).mono (by omega)⟩,(But.refl _ _).below h2⟩
 have hfd:s.grp.fits e=(decide (e.kind=k0∧e.obj=s.grp.obj∧e.k=s.grp.k∧e.n=s.grp.n) && !(decide (s.grp.own e.kind < 0∧e.g=s.grp.other e.kind) || decide (0≤s.grp.own e.kind∧e.g≠s.grp.own e.kind))):=by
  unfold Grp.fits;rw [hk];rfl
 by_cases m1:e.kind=k0∧e.obj=s.grp.obj∧e.k=s.grp.k∧e.n=s.grp.n
 ·obtain ⟨a1,a2,a3,a4⟩:=m1;have b1:(e.kind != k0)=false:=by simp [a1]
  have b2:(e.obj != s.grp.obj)=false:=by simp [a2]
  have b3:(e.k != s.grp.k)=false:=by simp [a3]
  have b4:(e.n != s.grp.n)=false:=by simp [a4]
  rw [decide_eq_true (⟨a1,a2,a3,a4⟩:_∧_∧_∧_),Bool.true_and] at hfd
  cases hsd:jk e.kind with
  | true =>
    have own:s.grp.own e.kind=s.grp.snd:=by unfold Grp.own;rw [if_pos hsd]
    have oth:s.grp.other e.kind=s.grp.rcv:=by unfold Grp.other;rw [if_pos hsd]
    rw [own,oth] at hfd
    by_cases q1:s.grp.snd < 0
    ·by_cases q2:e.g=s.grp.rcv
     ·refine no ?_ (P:=True) (uh w h e k0 ks hk b1 b2 b3 b4 hsd (.inl ⟨by simpa using q1,by simpa using q2⟩));unfold TS.proceed;rw [if_neg];rw [hfd];simp [q1,q2]
     ·have hy:s.proceed e=some { s.count e with grp:=s.grp.next e }:=by
       unfold TS.proceed;rw [if_pos];rw [hfd];simp [q2];omega
      rw [hy];exact qF w h hN e hio k0 ks hk hcb b1 b2 b3 b4 hsd (.inl ⟨by simpa using q1,by simpa using q2,by simpa using q1⟩)
    ·by_cases q2:e.g=s.grp.snd
     ·have hy:s.proceed e=some { s.count e with grp:=s.grp.next e }:=by
       unfold TS.proceed;rw [if_pos];rw [hfd];simp [q2];omega
      rw [hy];exact qF w h hN e hio k0 ks hk hcb b1 b2 b3 b4 hsd (.inr ⟨by simpa using q1,by simp;omega,by simpa using q2⟩)
     ·refine no ?_ (P:=True) (uh w h e k0 ks hk b1 b2 b3 b4 hsd (.inr ⟨by simpa using q1,by simp;omega,by simpa using q2⟩))
      unfold TS.proceed;rw [if_neg];rw [hfd];simp [q2];omega
  | false =>
    have own:s.grp.own e.kind=s.grp.rcv:=by unfold Grp.own;rw [if_neg (by rw [hsd];decide)]
    have oth:s.grp.other e.kind=s.grp.snd:=by unfold Grp.other;rw [if_neg (by rw [hsd];decide)]
    rw [own,oth] at hfd
    by_cases q1:s.grp.rcv < 0
    ·by_cases q2:e.g=s.grp.snd
     ·refine no ?_ (P:=True) (ug w h e k0 ks hk b1 b2 b3 b4 hsd (.inl ⟨by simpa using q1,by simpa using q2⟩));unfold TS.proceed;rw [if_neg];rw [hfd];simp [q1,q2]
     ·have hy:s.proceed e=some { s.count e with grp:=s.grp.next e }:=by
       unfold TS.proceed;rw [if_pos];rw [hfd];simp [q2];omega
      rw [hy];exact qE w h hN e hio k0 ks hk hcb b1 b2 b3 b4 hsd (.inl ⟨by simpa using q1,by simpa using q2,by simpa using q1⟩)
    ·by_cases q2:e.g=s.grp.rcv
     ·have hy:s.proceed e=some { s.count e with grp:=s.grp.next e }:=by
       unfold TS.proceed;rw [if_pos];rw [hfd];simp [q2];omega
      rw [hy];exact qE w h hN e hio k0 ks hk hcb b1 b2 b3 b4 hsd (.inr ⟨by simpa using q1,by simp;omega,by simpa using q2⟩)
     ·refine no ?_ (P:=True) (ug w h e k0 ks hk b1 b2 b3 b4 hsd (.inr ⟨by simpa using q1,by simp;omega,by simpa using q2⟩))
      unfold TS.proceed;rw [if_neg];rw [hfd];simp [q2];omega
 ·refine no ?_ (P:=True) (BU w h e k0 ks hk ?_)
  ·unfold TS.proceed;rw [if_neg];rw [hfd,decide_eq_false m1];simp
  ·by_cases a1:e.kind=k0
   ·by_cases a2:e.obj=s.grp.obj
    ·by_cases a3:e.k=s.grp.k
     ·have a4:e.n≠s.grp.n:=fun a4=>m1 ⟨a1,a2,a3,a4⟩
      exact .inr (.inr (.inr ⟨by simp [a1],by simp [a2],by simp [a3],by simpa using a4⟩))
     ·exact .inr (.inr (.inl ⟨by simp [a1],by simp [a2],by simpa using a3⟩))
    ·exact .inr (.inl ⟨by simp [a1],by simpa using a2⟩)
   ·exact .inl (by simpa using a1)
end
end Go.Proofs.Ytffcpijeebagfaa
end
section
namespace Go.Proofs.Ytffcpijeebagfaa
section
variable {s:TS} {g kind obj off k en fn pc stack readers:Int} {locked:Bool}
 (hm:s.mu ⟨g,kind,obj,off,k,en,fn,pc,stack⟩=⟨locked,readers⟩)
include hm
theorem TS.ny:s.simple ⟨g,kind,obj,off,k,en,fn,pc,stack⟩ =
 if kind=6 then (if locked=true∨0 < readers then none else some { s with mus:=upd s.mus (obj,off) ⟨true,readers⟩ })
 else if kind=7 then (if locked=false then none else some { s with mus:=upd s.mus (obj,off) ⟨false,readers⟩ })
 else if kind=8 then (if locked=true then none else some { s with mus:=upd s.mus (obj,off) ⟨locked,readers+1⟩ })
 else if kind=9 then (if readers=0 then none else some { s with mus:=upd s.mus (obj,off) ⟨locked,readers - 1⟩ })
 else if kind=12 then (if (s.done (obj,off)).getD false=true then none else some { s with done:=upd s.done (obj,off) true })
 else if kind=13 then (if (s.done (obj,off)).getD false=true then some s else none)
 else if kind=14 then (if k≠s.gor then none else some { s with gor:=s.gor+1 })
 else some s:=by
 unfold TS.simple;rw [hm]
theorem TS.Vs (h1:(kind == 6)=true) (h2:locked=true):s.simple ⟨g,kind,obj,off,k,en,fn,pc,stack⟩=none:=by rw [TS.ny hm];simp_all
theorem TS.Vt (h1:(kind == 6)=true) (h2:0 < readers):s.simple ⟨g,kind,obj,off,k,en,fn,pc,stack⟩=none:=by rw [TS.ny hm];simp_all
theorem TS.Vu (h1:(kind == 6)=true) (h2:¬locked=true) (h3:readers≤0):s.simple ⟨g,kind,obj,off,k,en,fn,pc,stack⟩=some { s with mus:=upd s.mus (obj,off) ⟨true,readers⟩ }:=by
 rw [TS.ny hm,if_pos (by simpa using h1),if_neg (by rw [not_or];exact ⟨h2,by omega⟩)]
theorem TS.Vv (h1:(kind == 7)=true) (h2:(!locked)=true):s.simple ⟨g,kind,obj,off,k,en,fn,pc,stack⟩=none:=by rw [TS.ny hm];simp_all
theorem TS.Vw (h1:(kind == 7)=true) (h2:(!locked)=false):s.simple ⟨g,kind,obj,off,k,en,fn,pc,stack⟩=some { s with mus:=upd s.mus (obj,off) ⟨false,readers⟩ }:=by rw [TS.ny hm];simp_all
theorem TS.Vx (h1:(kind == 8)=true) (h2:locked=true):s.simple ⟨g,kind,obj,off,k,en,fn,pc,stack⟩=none:=by rw [TS.ny hm];simp_all
theorem TS.Vy (h1:(kind == 8)=true) (h2:locked=false):s.simple ⟨g,kind,obj,off,k,en,fn,pc,stack⟩=some { s with mus:=upd s.mus (obj,off) ⟨locked,readers+1⟩ }:=by rw [TS.ny hm];simp_all
theorem TS.Vz (h1:(kind == 9)=true) (h2:(readers == 0)=true):s.simple ⟨g,kind,obj,off,k,en,fn,pc,stack⟩=none:=by rw [TS.ny hm];simp_all
theorem TS.VA (h1:(kind == 9)=true) (h2:(readers == 0)=false):s.simple ⟨g,kind,obj,off,k,en,fn,pc,stack⟩=some { s with mus:=upd s.mus (obj,off) ⟨locked,readers - 1⟩ }:=by rw [TS.ny hm];simp_all
theorem TS.Sm (h1:(kind == 12)=true):s.simple ⟨g,kind,obj,off,k,en,fn,pc,stack⟩=if (s.done (obj,off)).getD false=true then none else some { s with done:=upd s.done (obj,off) true }:=by
 have hk:kind=12:=by simpa using h1
 subst hk;rw [TS.ny hm];simp
theorem TS.Vr (h1:(kind == 13)=true):s.simple ⟨g,kind,obj,off,k,en,fn,pc,stack⟩=if (s.done (obj,off)).getD false=true then some s else none:=by
 have hk:kind=13:=by simpa using h1
 subst hk;rw [TS.ny hm];simp
theorem TS.UE (h1:(kind == 14)=true) (h2:(k != s.gor)=true):s.simple ⟨g,kind,obj,off,k,en,fn,pc,stack⟩=none:=by rw [TS.ny hm];simp_all
theorem TS.UF (h1:(kind == 14)=true) (h2:(k != s.gor)=false):s.simple ⟨g,kind,obj,off,k,en,fn,pc,stack⟩=some { s with gor:=s.gor+1 }:=by rw [TS.ny hm];simp_all
theorem TS.VB (h6:(kind == 6)=false) (h7:(kind == 7)=false) (h8:(kind == 8)=false) (h9:(kind == 9)=false) (h12:(kind == 12)=false) (h13:(kind == 13)=false) (h14:(kind == 14)=false) :
 s.simple ⟨g,kind,obj,off,k,en,fn,pc,stack⟩=some s:=by rw [TS.ny hm];simp_all
end
end Go.Proofs.Ytffcpijeebagfaa
end
section
namespace Go.Proofs.Ytffcpijeebagfaa
open Go.RowKit
section
variable [KB]
set_option maxRecDepth 100000 in
set_option maxHeartbeats 4000000 in
theorem FB {sb bc bm bd N:Nat} {s:TS} {kv:Value} (w:World) (h:dK w sb bc bm bd N s kv) (hs:s.wf) (hN:N+2 < maxLen) (e:Ev) (hv:e.valid=true) :
 Calls Try.prog 63 #[.pointer (some ⟨sb,0,none⟩),e.val] w fun r w'=>r=.returned (.bool (s.simple e).isSome)∧(∃ kv',dK w' sb bc bm bd (N+2) ((s.simple e).getD s) kv')∧But [sb,bm,bd] w w':=by
 have hbd:=TS.Sj hs e;have hvo:=Ev.oP hv;have hvf:=Ev.zi hv;have hio:(Lit.int .i64 e.obj).wf=true∧(Lit.int .i64 e.off).wf=true:=⟨wf_i64 ⟨by omega,by omega⟩,wf_i64 ⟨by omega,by omega⟩⟩;have hval:((rH s.mus (e.obj,e.off)).getD mu0.val)=(s.mu e).val:=by unfold rH TS.mu;cases s.mus (e.obj,e.off) <;> rfl
 obtain ⟨m,hm0⟩:∃ m,s.mu e=m:=⟨_,rfl⟩
 rw [hm0] at hval hbd;have hev:=hs.ev;have hgr:=hs.gr;have c1:w.cell? ⟨sb,1,none⟩=some (.int .i64 s.gor):=h.cell 1;have c3:w.cell? ⟨sb,3,none⟩=some (.map (some bm)):=h.cell 3;have c4:w.cell? ⟨sb,4,none⟩=some (.map (some bd)):=h.cell 4;have hlt:=h.lt;have hmm:=h.mus;have HH:=Lib.hid h;clear h;have HS:=Lib.hid hs;clear hs;have HM0:=Lib.hid hm0;clear hm0;obtain ⟨g,kind,obj,off,k,en,fn,pc,stack⟩:=e;obtain ⟨locked,readers⟩:=m;dsimp only at *
 have hl:∀ o1 o2:Obj,(Instr.lookup 87 (.map (some bm)) (.agg #[.int .i64 obj,.int .i64 off]) false).run Try.prog (((w.alloc o1).alloc o2).drew)=.ok (.agg #[.bool locked,.int .i64 readers]) (((w.alloc o1).alloc o2).drew):=fun o1 o2=>by
  have h1:MapOf qC ((w.alloc o1).alloc o2).drew Try.prog 98 bm N (rH s.mus):=(hmm.alloc o1).alloc o2;have h2:=h1.look Qn Try.underlying87 OV (obj,off) hio;rw [hval] at h2;exact h2
 have hl2:∀ o1 o2 o3:Obj,(Instr.lookup 87 (.map (some bm)) (.agg #[.int .i64 obj,.int .i64 off]) false).run Try.prog ((((w.alloc o1).alloc o2).alloc o3).drew)=.ok (.agg #[.bool locked,.int .i64 readers]) ((((w.alloc o1).alloc o2).alloc o3).drew):=fun o1 o2 o3=>by
  have h1:MapOf qC (((w.alloc o1).alloc o2).alloc o3).drew Try.prog 98 bm N (rH s.mus):=((hmm.alloc o1).alloc o2).alloc o3;have h2:=h1.look Qn Try.underlying87 OV (obj,off) hio;rw [hval] at h2;exact h2
 have HM:=Lib.hid hmm;clear hmm;have HV:=Lib.hid hval;clear hval;have HIO:=Lib.hid hio;clear hio;have hlt1:sb < w.heap.size+1:=by omega
 unfold Ev.val
 go_enter Try.func63,Try.ntmps63
 go_wp2
 go_region
 go_upto_block 0 with fail
 generalize hW:World.drew _=W;have hb0:Below w.heap.size w W:=by rw [←hW];exact ((((Below.refl _ _).alloc (Nat.le_refl _) _).alloc (by simp) _).alloc (by simp;omega) _).drew
 have hz:w.heap.size+2 < W.heap.size:=by rw [←hW];simp
 have e0:W.cell? ⟨w.heap.size,4,none⟩=some (.int .i64 k):=by rw [←hW];simp [go_sem]
 have l0:W.cell? ⟨w.heap.size+1,0,none⟩=some (.int .i64 obj):=by rw [←hW];simp [go_sem]
 have l1:W.cell? ⟨w.heap.size+1,1,none⟩=some (.int .i64 off):=by rw [←hW];simp [go_sem]
 have m0:W.cell? ⟨w.heap.size+2,0,none⟩=some (.bool locked):=by rw [←hW];simp [go_sem]
 have m1:W.cell? ⟨w.heap.size+2,1,none⟩=some (.int .i64 readers):=by rw [←hW];simp [go_sem]
 have mf:∀ j,W.frozen? ⟨w.heap.size+2,j,none⟩=false:=fun j=>by rw [←hW];simp [go_sem]
 clear hW;have d1:W.cell? ⟨sb,1,none⟩=some (.int .i64 s.gor):=(hb0.cell (p:=⟨sb,1,none⟩) hlt).trans c1;have d3:W.cell? ⟨sb,3,none⟩=some (.map (some bm)):=(hb0.cell (p:=⟨sb,3,none⟩) hlt).trans c3;have d4:W.cell? ⟨sb,4,none⟩=some (.map (some bd)):=(hb0.cell (p:=⟨sb,4,none⟩) hlt).trans c4;clear hl hl2 c1 c3 c4;have HB0:=Lib.hid hb0;clear hb0;have d1f:W.frozen? ⟨sb,1,none⟩=false:=(HB0.out.frozen (p:=⟨sb,1,none⟩) hlt).trans (HH.out.frozen 1);obtain ⟨dn,hdn⟩:∃ dn,(s.done (obj,off)).getD false=dn:=⟨_,rfl⟩
 have hdl:(Instr.lookup 88 (.map (some bd)) (.agg #[.int .i64 obj,.int .i64 off]) false).run Try.prog W.drew=.ok (.bool dn) W.drew:=by
  have h1:MapOf qC W.drew Try.prog 98 bd N (kU s.done):=HH.out.done.keep (HB0.out.block bd HH.out.done.lt);have h2:=h1.look Qn Try.underlying88 VD (obj,off) HIO.out;have h3:((kU s.done (obj,off)).getD (.bool false))=.bool dn:=by rw [←hdn];unfold kU;cases s.done (obj,off) <;> rfl
  rw [h3] at h2;exact h2
 have HDN:=Lib.hid hdn;clear hdn
 have hno:∀ w':World,s.simple ⟨g,kind,obj,off,k,en,fn,pc,stack⟩=none→Below w.heap.size w w'→Ending.returned (.bool false)=.returned (.bool (s.simple ⟨g,kind,obj,off,k,en,fn,pc,stack⟩).isSome)∧(∃ kv',dK w' sb bc bm bd (N+2) ((s.simple ⟨g,kind,obj,off,k,en,fn,pc,stack⟩).getD s) kv')∧But [sb,bm,bd] w w':=fun w' ho hb=>by
  rw [ho];exact ⟨rfl,⟨kv,(HH.out.below hb).mono (by omega)⟩,(But.refl _ _).below hb⟩
 have HNO:=Lib.hid hno;clear hno
 have hsame:∀ w':World,s.simple ⟨g,kind,obj,off,k,en,fn,pc,stack⟩=some s→Below w.heap.size w w'→Ending.returned (.bool true)=.returned (.bool (s.simple ⟨g,kind,obj,off,k,en,fn,pc,stack⟩).isSome)∧(∃ kv',dK w' sb bc bm bd (N+2) ((s.simple ⟨g,kind,obj,off,k,en,fn,pc,stack⟩).getD s) kv')∧But [sb,bm,bd] w w':=fun w' ho hb=>by
  rw [ho];exact ⟨rfl,⟨kv,(HH.out.below hb).mono (by omega)⟩,(But.refl _ _).below hb⟩
 have HSA:=Lib.hid hsame;clear hsame
 go_cut [] (fun wx=>∃ (lk':Bool) (rd':Int),s.simple ⟨g,kind,obj,off,k,en,fn,pc,stack⟩=some { s with mus:=upd s.mus (obj,off) ⟨lk',rd'⟩ }∧Below w.heap.size w wx∧w.heap.size+2 < wx.heap.size ∧
  wx.cell? ⟨w.heap.size+1,0,none⟩=some (.int .i64 obj)∧wx.cell? ⟨w.heap.size+1,1,none⟩=some (.int .i64 off)∧wx.cell? ⟨w.heap.size+2,0,none⟩=some (.bool lk')∧wx.cell? ⟨w.heap.size+2,1,none⟩=some (.int .i64 rd'))
 case first =>
  go_wp2_with fail
  all_goals (have hmm:=HM0.out)
  all_goals first
   | (go_meet;first
     | refine ⟨true,readers,TS.Vu hmm ‹_› ‹_› ‹_›,?_⟩
     | refine ⟨false,readers,TS.Vw hmm ‹_› ‹_›,?_⟩
     | refine ⟨locked,readers+1,TS.Vy hmm ‹_› ‹_›,?_⟩
     | refine ⟨locked,readers - 1,TS.VA hmm ‹_› ‹_›,?_⟩)
   | (go_ret;refine HNO.out _ ?_ HB0.out;first | exact TS.Vs hmm ‹_› ‹_› | exact TS.Vt hmm ‹_› ‹_› | exact TS.Vv hmm ‹_› ‹_› | exact TS.Vx hmm ‹_› ‹_› | exact TS.Vz hmm ‹_› ‹_›)
   | (go_ret;exact HSA.out _ (TS.VB hmm ‹_› ‹_› ‹_› ‹_› ‹_› ‹_› ‹_›) HB0.out)
   | skip
  -- the four ways that write the mutex
  all_goals try (refine ⟨HB0.out.setCell (by simp;omega) _,by simpa [World.setCell] using hz,?_,?_,?_,?_⟩ <;> simp [go_sem, *];done)
  ·-- once-end
   go_region
   by_cases hd:dn=true
   ·subst hd
    go_wp2
    go_ret
    refine HNO.out _ ?_ HB0.out.drew;rw [TS.Sm hmm ‹_›,if_pos HDN.out]
   ·have hd0:dn=false:=by simpa using hd
    subst hd0
    have hop:s.simple ⟨g,kind,obj,off,k,en,fn,pc,stack⟩=some { s with done:=upd s.done (obj,off) true }:=by
     rw [TS.Sm hmm ‹_›,if_neg (by rw [HDN.out];decide)]
    have HOP:=Lib.hid hop;clear hop hmm;have hmd:MapOf qC W.drew.drew Try.prog 98 bd N (kU s.done):=HH.out.done.keep (HB0.out.block bd HH.out.done.lt);obtain ⟨w1,hput,hm2,hg⟩:=hmd.put Qn Try.underlying88 (by omega) (obj,off) HIO.out (.bool true);unfold qC at hput
    have hfin:dK w1 sb bc bm bd (N+2) { s with done:=upd s.done (obj,off) true } kv∧But [sb,bm,bd] w w1:=by
     have hbt:But [bd] w w1:=((But.refl _ _).below HB0.out).drew.drew.grown hg (.inl (by simp));exact ⟨HH.out.MW hbt (by rw [←Bn];exact hm2) (by omega) (by omega),hbt.mono (by simp)⟩
    have HF:=Lib.hid hfin;clear hfin hm2 hg hmd
    go_wp2
    go_region
    go_wp2
    go_ret
    rw [HOP.out];exact ⟨rfl,⟨_,HF.out.1⟩,HF.out.2⟩
  ·-- once-seen
   go_region
   have hop:=TS.Vr hmm ‹_›;rw [HDN.out] at hop;have HOP:=Lib.hid hop;clear hop hmm
   go_wp2
   go_ret
   rw [HOP.out];refine ⟨kC ?_,⟨kv,?_⟩,(But.refl _ _).below HB0.out.drew⟩
   ·cases dn <;> rfl
   ·have hgd:(if dn=true then some s else none).getD s=s:=by split <;> rfl
    rw [hgd];exact (HH.out.below HB0.out.drew).mono (by omega)
  ·-- go
   go_region
   go_wp2
   ·go_ret
    exact HNO.out _ (TS.UE hmm ‹_› ‹_›) HB0.out.drew
   ·have hop:=TS.UF hmm ‹_› ‹_›
    go_ret
    rw [hop];generalize hX:World.drew _=X;have hb1:But [sb] w X:=by rw [←hX];exact (((But.refl _ _).below HB0.out).setCell (.inl (by simp)) _).drew
    have hr1:X.heap[sb]? = some (.cells (fG { s with gor:=s.gor+1 } bc bm bd kv) 92 (0,0)):=by
     rw [←hX];exact heap_setCell_same W sb 1 _ _ _ ((HB0.out.block sb hlt).trans HH.out.row)
    clear hX;exact ⟨rfl,⟨kv,HH.out.Hg hb1 hr1 (by omega)⟩,hb1.mono (by simp)⟩
 case rest =>
  obtain ⟨lk',rd',hop,hb1,z1,l0',l1',m0',m1'⟩:=hcut;clear l0 l1 m0 m1 mf hdl d3 d4 d1 d1f;have hmd:MapOf qC wc.drew Try.prog 98 bm N (rH s.mus):=HH.out.mus.keep (hb1.block bm HH.out.mus.lt);obtain ⟨w1,hput,hm2,hg⟩:=hmd.put Qn Try.underlying87 (by omega) (obj,off) HIO.out (.agg #[.bool lk',.int .i64 rd']);unfold qC at hput;have c3:wc.cell? ⟨sb,3,none⟩=some (.map (some bm)):=(hb1.cell (p:=⟨sb,3,none⟩) hlt).trans (HH.out.cell 3)
  have hfin:dK w1 sb bc bm bd (N+2) { s with mus:=upd s.mus (obj,off) ⟨lk',rd'⟩ } kv∧But [sb,bm,bd] w w1:=by
   have hbt:But [bm] w w1:=((But.refl _ _).below hb1).drew.grown hg (.inl (by simp));exact ⟨HH.out.QA hbt (by rw [←Jw];exact hm2) (by omega) (by omega),hbt.mono (by simp)⟩
  have HF:=Lib.hid hfin;clear hfin hm2 hg hmd hb1;have HOP:=Lib.hid hop;clear hop
  go_wp2
  go_region
  go_wp2
  go_ret
  rw [HOP.out];exact ⟨rfl,⟨_,HF.out.1⟩,HF.out.2⟩
end
structure QW (W:World) where
 w:World
 h:Below W.heap.size W w
theorem QW.cell {W:World} (x:QW W) {p:Addr} {v:Value} (hp:p.block < W.heap.size) (h:W.cell? p=some v):x.w.cell? p=some v:=(x.h.cell hp).trans h
def QW.refl (W:World):QW W:=⟨W,Below.refl _ _⟩
instance QW.nonempty (W:World):Nonempty (QW W):=⟨QW.refl W⟩
theorem iM {P:Program} {id:Nat} {Q:Exit→Act→World→Prop} {a:Act} {W:World} {l:List Oper} (hm:P.follows .mixedOrders=true) (hB:Region.lexB .any l.toArray=true)
 (h:wpQuiet P l.toArray (fun w'=>∃ x:QW W,w'=x.w) (fun a'=>∀ x:QW W,Q .normal a' x.w) l a):(Code.region id l.toArray true).wp P Q a W:=by
 refine wp_region_quiet (C:=fun w'=>∃ x:QW W,w'=x.w) hm hB ⟨⟨_,(Below.refl _ _).drew⟩,rfl⟩ ?_
 have mono:∀ (l':List Oper) (a:Act),wpQuiet P l.toArray (fun w'=>∃ x:QW W,w'=x.w) (fun a'=>∀ x:QW W,Q .normal a' x.w) l' a →
  wpQuiet P l.toArray (fun w'=>∃ x:QW W,w'=x.w) (fun a'=>∀ w',(∃ x:QW W,w'=x.w)→Q .normal a' w') l' a:=by
  intro l'
  induction l' with
  | nil=>intro a h w' hw;obtain ⟨x,rfl⟩:=hw;exact h x
  | cons o r ih =>
    intro a h;unfold wpQuiet at h ⊢;split
    ·rename_i hw;rw [if_pos hw] at h;exact Oper.quiet_mono ih h
    ·rename_i hw;rw [if_neg hw] at h;exact ih _ h
 exact mono _ _ (by simpa using h)
theorem QW.call {P:Program} {f:FuncId} {args:Array Value} {v:Value} {W:World} (x:QW W) (c:∀ w,Calls P f args w fun e w'=>e=.returned v∧Below w.heap.size w w') :
 Calls P f args x.w fun e w''=>e=.returned v∧∃ y:QW W,w''=y.w :=
 (c x.w).mono fun _ w' ⟨h1,h2⟩=>⟨h1,⟨w',x.h.trans (h2.mono x.h.size)⟩,rfl⟩
section
variable [KB]
set_option maxRecDepth 100000 in
set_option maxHeartbeats 8000000 in
theorem KR {sb bc bm bd N:Nat} {s:TS} {kv:Value} (w:World) (h:dK w sb bc bm bd N s kv) (hs:s.wf) (hN:N+2 < maxLen) (e:Ev) (hkb0:∀ b,w.heap.size≤b→KB.p b) :
 Calls Try.prog 21 #[.pointer (some ⟨sb,0,none⟩),e.val] w fun r w'=>r=.returned (.bool (s.add e).isSome)∧(∃ kv',dK w' sb bc bm bd (N+2) ((s.add e).getD s) kv')∧But [sb,bc,bm,bd] w w':=by
 have hlt:=h.lt;have c0:w.cell? ⟨sb,0,none⟩=some (.int .i64 s.events):=h.cell 0;have c1:w.cell? ⟨sb,1,none⟩=some (.int .i64 s.gor):=h.cell 1;have hev:=hs.ev
 have hno:s.add e=none→∀ w',Below w.heap.size w w'→Ending.returned (.bool false)=.returned (.bool (s.add e).isSome)∧(∃ kv',dK w' sb bc bm bd (N+2) ((s.add e).getD s) kv')∧But [sb,bc,bm,bd] w w':=fun ha w' hb=>by
  rw [ha];exact ⟨rfl,⟨kv,(h.below hb).mono (by omega)⟩,(But.refl _ _).below hb⟩
 have HNO:=Lib.hid hno;clear hno;have HH:=Lib.hid h;clear h;have HS:=Lib.hid hs;clear hs;have HKB:=Lib.hid hkb0;clear hkb0;obtain ⟨g,kind,obj,off,k,en,fn,pc,stack⟩:=e;unfold Ev.val
 go_enter Try.func21,Try.ntmps21
 go_upto_region 1 with fail
 generalize hW:World.alloc w _=W;have hB:Below w.heap.size w W:=by rw [←hW];exact (Below.refl _ _).alloc (Nat.le_refl _) _
 have hz:w.heap.size < W.heap.size:=by rw [←hW];simp
 have e0:W.cell? ⟨w.heap.size,0,none⟩=some (.int .i64 g):=by rw [←hW];exact cell_of_row _ _ _ _ _ _ (heap_alloc_new w _)
 have e1:W.cell? ⟨w.heap.size,1,none⟩=some (.int .i64 kind):=by rw [←hW];exact cell_of_row _ _ _ _ _ _ (heap_alloc_new w _)
 have e2:W.cell? ⟨w.heap.size,2,none⟩=some (.int .i64 obj):=by rw [←hW];exact cell_of_row _ _ _ _ _ _ (heap_alloc_new w _)
 have e3:W.cell? ⟨w.heap.size,3,none⟩=some (.int .i64 off):=by rw [←hW];exact cell_of_row _ _ _ _ _ _ (heap_alloc_new w _)
 have e4:W.cell? ⟨w.heap.size,4,none⟩=some (.int .i64 k):=by rw [←hW];exact cell_of_row _ _ _ _ _ _ (heap_alloc_new w _)
 have e5:W.cell? ⟨w.heap.size,5,none⟩=some (.int .i64 en):=by rw [←hW];exact cell_of_row _ _ _ _ _ _ (heap_alloc_new w _)
 have e6:W.cell? ⟨w.heap.size,6,none⟩=some (.int .i64 fn):=by rw [←hW];exact cell_of_row _ _ _ _ _ _ (heap_alloc_new w _)
 have e7:W.cell? ⟨w.heap.size,7,none⟩=some (.int .i64 pc):=by rw [←hW];exact cell_of_row _ _ _ _ _ _ (heap_alloc_new w _)
 have e8:W.cell? ⟨w.heap.size,8,none⟩=some (.int .i64 stack):=by rw [←hW];exact cell_of_row _ _ _ _ _ _ (heap_alloc_new w _)
 clear hW;have d0:W.cell? ⟨sb,0,none⟩=some (.int .i64 s.events):=(hB.cell (p:=⟨sb,0,none⟩) hlt).trans c0;have d1:W.cell? ⟨sb,1,none⟩=some (.int .i64 s.gor):=(hB.cell (p:=⟨sb,1,none⟩) hlt).trans c1;have hltW:sb < W.heap.size:=by omega
 clear c0 c1;have HB:=Lib.hid hB;clear hB;have q0:∀ x:QW W,x.w.cell? ⟨w.heap.size,0,none⟩=some (.int .i64 g):=fun x=>x.cell hz e0
 have q1:∀ x:QW W,x.w.cell? ⟨w.heap.size,1,none⟩=some (.int .i64 kind):=fun x=>x.cell hz e1
 have q2:∀ x:QW W,x.w.cell? ⟨w.heap.size,2,none⟩=some (.int .i64 obj):=fun x=>x.cell hz e2
 have q3:∀ x:QW W,x.w.cell? ⟨w.heap.size,3,none⟩=some (.int .i64 off):=fun x=>x.cell hz e3
 have q4:∀ x:QW W,x.w.cell? ⟨w.heap.size,4,none⟩=some (.int .i64 k):=fun x=>x.cell hz e4
 have q5:∀ x:QW W,x.w.cell? ⟨w.heap.size,5,none⟩=some (.int .i64 en):=fun x=>x.cell hz e5
 have q6:∀ x:QW W,x.w.cell? ⟨w.heap.size,6,none⟩=some (.int .i64 fn):=fun x=>x.cell hz e6
 have q7:∀ x:QW W,x.w.cell? ⟨w.heap.size,7,none⟩=some (.int .i64 pc):=fun x=>x.cell hz e7
 have q8:∀ x:QW W,x.w.cell? ⟨w.heap.size,8,none⟩=some (.int .i64 stack):=fun x=>x.cell hz e8
 have q9:∀ x:QW W,x.w.cell? ⟨sb,0,none⟩=some (.int .i64 s.events):=fun x=>x.cell hltW d0
 have q10:∀ x:QW W,x.w.cell? ⟨sb,1,none⟩=some (.int .i64 s.gor):=fun x=>x.cell hltW d1
 clear e0 e1 e2 e3 e4 e5 e6 e7 e8 d0 d1
 cases hv:Ev.valid ⟨g,kind,obj,off,k,en,fn,pc,stack⟩ with
 | false =>
   have hnone:s.add ⟨g,kind,obj,off,k,en,fn,pc,stack⟩=none:=by unfold TS.add TS.admits;rw [hv];rfl
   have HNN:=Lib.hid hnone;clear hnone
   have hV:∀ w:World,Calls Try.prog 59 #[.agg #[.int .i64 g,.int .i64 kind,.int .i64 obj,.int .i64 off,.int .i64 k,.int .i64 en,.int .i64 fn,.int .i64 pc,.int .i64 stack]] w fun r w'=>r=.returned (.bool false)∧Below w.heap.size w w':=fun w=>by
    have:=qm ⟨g,kind,obj,off,k,en,fn,pc,stack⟩ w;rw [hv] at this;exact this
   have HV:=Lib.hid hV;clear hV hv;refine iM (by kernel_rfl) (by kernel_rfl) ?_
   repeat (go_big_quiet_step ((go_at_call 59;exact QW.call _ HV.out)))
   refine wpQuiet_nil ?_;intro x;obtain ⟨w1,hb1⟩:=x;dsimp only
   go_wp2
   go_ret
   exact HNO.out HNN.out _ (HB.out.trans (hb1.mono HB.out.size))
 | true =>
   have hV:∀ w:World,Calls Try.prog 59 #[.agg #[.int .i64 g,.int .i64 kind,.int .i64 obj,.int .i64 off,.int .i64 k,.int .i64 en,.int .i64 fn,.int .i64 pc,.int .i64 stack]] w fun r w'=>r=.returned (.bool true)∧Below w.heap.size w w':=fun w=>by
    have:=qm ⟨g,kind,obj,off,k,en,fn,pc,stack⟩ w;rw [hv] at this;exact this
   have HV:=Lib.hid hV;clear hV
   by_cases h5:5000≤s.events
   ·have hnone:s.add ⟨g,kind,obj,off,k,en,fn,pc,stack⟩=none:=by unfold TS.add TS.admits;rw [if_neg];simp;omega
    have HNN:=Lib.hid hnone;clear hnone hv;have h5d:decide (5000≤s.events)=true:=by simpa using h5
    refine iM (by kernel_rfl) (by kernel_rfl) ?_
    repeat (go_big_quiet_step ((go_at_call 59;exact QW.call _ HV.out)))
    refine wpQuiet_nil ?_;intro x;obtain ⟨w1,hb1⟩:=x;dsimp only
    go_wp2
    go_ret
    exact HNO.out HNN.out _ (HB.out.trans (hb1.mono HB.out.size))
   have h5d:decide (5000≤s.events)=false:=by simpa using h5
   by_cases hg:s.gor≤g
   ·have hnone:s.add ⟨g,kind,obj,off,k,en,fn,pc,stack⟩=none:=by unfold TS.add TS.admits;rw [if_neg];simp;omega
    have HNN:=Lib.hid hnone;clear hnone hv;have hgd:decide (s.gor≤g)=true:=by simpa using hg
    refine iM (by kernel_rfl) (by kernel_rfl) ?_
    repeat (go_big_quiet_step ((go_at_call 59;exact QW.call _ HV.out)))
    refine wpQuiet_nil ?_;intro x;obtain ⟨w1,hb1⟩:=x;dsimp only
    go_wp2
    go_ret
    exact HNO.out HNN.out _ (HB.out.trans (hb1.mono HB.out.size))
   have hgd:decide (s.gor≤g)=false:=by simpa using hg
   have had:s.admits ⟨g,kind,obj,off,k,en,fn,pc,stack⟩=true:=by unfold TS.admits;rw [hv];simp;omega
   have HAD:=Lib.hid had;clear had;refine iM (by kernel_rfl) (by kernel_rfl) ?_
   repeat (go_big_quiet_step ((go_at_call 59;exact QW.call _ HV.out)))
   refine wpQuiet_nil ?_;intro x;have p0:=q0 x;have p1:=q1 x;have p2:=q2 x;have p3:=q3 x;have p4:=q4 x;have p5:=q5 x;have p6:=q6 x;have p7:=q7 x;have p8:=q8 x;clear q0 q1 q2 q3 q4 q5 q6 q7 q8 q9 q10 HNO HV h5d hgd;obtain ⟨w1,hb1⟩:=x;dsimp only at p0 p1 p2 p3 p4 p5 p6 p7 p8 ⊢;have hb2:Below w.heap.size w w1:=HB.out.trans (hb1.mono HB.out.size);have hT:=HH.out.below hb2;have HT:=Lib.hid hT;clear hT;have HB2:=Lib.hid hb2;clear hb2 hb1;have HVd:=Lib.hid hv;clear hv
   go_upto_block 0 with fail
   go_cut [5] (fun s5 wx=>s5=.bool (s.part ⟨g,kind,obj,off,k,en,fn,pc,stack⟩).isSome∧(∃ kv',dK wx sb bc bm bd (N+2) ((s.part ⟨g,kind,obj,off,k,en,fn,pc,stack⟩).getD s) kv')∧But [sb,bc,bm,bd] w wx)
   case first =>
    cases ho:s.isOpen with
    | true =>
      have hpt:s.part ⟨g,kind,obj,off,k,en,fn,pc,stack⟩=s.proceed ⟨g,kind,obj,off,k,en,fn,pc,stack⟩:=by unfold TS.part;rw [if_pos ho]
      have HPT:=Lib.hid hpt;clear hpt;have hO:Calls Try.prog 25 #[.pointer (some ⟨sb,0,none⟩)] w1 fun e w'=>e=.returned (.bool true)∧w1=w':=by have:=open_any w1 HT.out;rw [ho] at this;exact this
      have HO:=Lib.hid hO;clear hO;have HHO:=Lib.hid ho;clear ho
      go_wp2_with ((go_at_call 25;refine HO.out.mono ?_;rintro e w' ⟨rfl,rfl⟩))
      refine (BR w1 HT.out HS.out hN ⟨g,kind,obj,off,k,en,fn,pc,stack⟩ HVd.out HHO.out).mono ?_;rintro r w2 ⟨rfl,hT2,hb3⟩;have hfin:(∃ kv',dK w2 sb bc bm bd (N+2) ((s.part ⟨g,kind,obj,off,k,en,fn,pc,stack⟩).getD s) kv')∧But [sb,bc,bm,bd] w w2:=⟨by rw [HPT.out];exact hT2,((But.refl _ _).below HB2.out).trans (hb3.mono (by simp))⟩
      have HF:=Lib.hid hfin;clear hfin hT2 hb3
      go_wp2_with fail
      go_meet
      exact ⟨by rw [HPT.out],HF.out.1,HF.out.2⟩
    | false =>
      have hO:Calls Try.prog 25 #[.pointer (some ⟨sb,0,none⟩)] w1 fun e w'=>e=.returned (.bool false)∧w1=w':=by have:=open_any w1 HT.out;rw [ho] at this;exact this
      have HO:=Lib.hid hO;clear hO
      cases hch:dL kind with
      | true =>
        have hpt:s.part ⟨g,kind,obj,off,k,en,fn,pc,stack⟩=s.operate ⟨g,kind,obj,off,k,en,fn,pc,stack⟩:=by unfold TS.part;rw [if_neg (by rw [ho];decide),if_pos hch]
        have HPT:=Lib.hid hpt;clear hpt;have hC:∀ w:World,Calls Try.prog 61 #[.int .i64 kind] w fun e w'=>e=.returned (.bool true)∧w=w':=fun w=>by have:=nU kind w;rw [hch] at this;exact this
        have HC:=Lib.hid hC;clear hC;have HCH:=Lib.hid hch;clear hch ho
        go_wp2_with (first | (go_at_call 25;refine HO.out.mono ?_;rintro e w' ⟨rfl,rfl⟩) | (go_at_call 61;refine (HC.out _).mono ?_;rintro e w' ⟨rfl,rfl⟩))
        refine (BP w1 HT.out HS.out hN ⟨g,kind,obj,off,k,en,fn,pc,stack⟩ HVd.out HCH.out (fun b hb=>HKB.out b (Nat.le_trans HB2.out.size hb))).mono ?_;rintro r w2 ⟨rfl,hT2,hb3⟩;have hfin:(∃ kv',dK w2 sb bc bm bd (N+2) ((s.part ⟨g,kind,obj,off,k,en,fn,pc,stack⟩).getD s) kv')∧But [sb,bc,bm,bd] w w2:=⟨by rw [HPT.out];exact hT2,((But.refl _ _).below HB2.out).trans (hb3.mono (by simp))⟩
        have HF:=Lib.hid hfin;clear hfin hT2 hb3
        go_wp2_with fail
        go_meet
        exact ⟨by rw [HPT.out],HF.out.1,HF.out.2⟩
      | false =>
        have hpt:s.part ⟨g,kind,obj,off,k,en,fn,pc,stack⟩=s.simple ⟨g,kind,obj,off,k,en,fn,pc,stack⟩:=by unfold TS.part;rw [if_neg (by rw [ho];decide),if_neg (by dsimp only;rw [hch];decide)]
        have HPT:=Lib.hid hpt;clear hpt;have hC:∀ w:World,Calls Try.prog 61 #[.int .i64 kind] w fun e w'=>e=.returned (.bool false)∧w=w':=fun w=>by have:=nU kind w;rw [hch] at this;exact this
        have HC:=Lib.hid hC;clear hC hch ho
        go_wp2_with (first | (go_at_call 25;refine HO.out.mono ?_;rintro e w' ⟨rfl,rfl⟩) | (go_at_call 61;refine (HC.out _).mono ?_;rintro e w' ⟨rfl,rfl⟩))
        refine (FB w1 HT.out HS.out hN ⟨g,kind,obj,off,k,en,fn,pc,stack⟩ HVd.out).mono ?_;rintro r w2 ⟨rfl,hT2,hb3⟩;have hfin:(∃ kv',dK w2 sb bc bm bd (N+2) ((s.part ⟨g,kind,obj,off,k,en,fn,pc,stack⟩).getD s) kv')∧But [sb,bc,bm,bd] w w2:=⟨by rw [HPT.out];exact hT2,((But.refl _ _).below HB2.out).trans (hb3.mono (by simp))⟩
        have HF:=Lib.hid hfin;clear hfin hT2 hb3
        go_wp2_with fail
        go_meet
        exact ⟨by rw [HPT.out],HF.out.1,HF.out.2⟩
   case rest =>
    clear p0 p1 p2 p3 p4 p5 p6 p7 p8;obtain ⟨rfl,⟨kv',hT2⟩,hbt⟩:=hcut
    have hadd:s.add ⟨g,kind,obj,off,k,en,fn,pc,stack⟩=(s.part ⟨g,kind,obj,off,k,en,fn,pc,stack⟩).map fun t=>{ t with events:=t.events+1 }:=by unfold TS.add;rw [if_pos HAD.out]
    cases hp:s.part ⟨g,kind,obj,off,k,en,fn,pc,stack⟩ with
    | none =>
      rw [hp] at hadd hT2;have HADD:=Lib.hid hadd;clear hadd;have HT2:=Lib.hid hT2;clear hT2;have HBT:=Lib.hid hbt;clear hbt hp
      go_wp2
      go_ret
      rw [HADD.out];exact ⟨rfl,⟨kv',HT2.out⟩,HBT.out⟩
    | some t =>
      have hw:=TS.Hu HS.out HVd.out hp;have he1:t.events=s.events:=hw.1;rw [hp] at hadd hT2;simp only [Option.getD_some] at hT2;have c0:wc.cell? ⟨sb,0,none⟩=some (.int .i64 t.events):=hT2.cell 0;have f0:wc.frozen? ⟨sb,0,none⟩=false:=hT2.frozen 0;have he2:0≤t.events:=by omega
      have he3:t.events≤5000:=by omega
      clear hw he1;have HADD:=Lib.hid hadd;clear hadd;have HT2:=Lib.hid hT2;clear hT2;have HBT:=Lib.hid hbt;clear hbt hp
      go_wp2
      go_ret
      rw [HADD.out];generalize hX:World.setCell _ _ _=X;have hb1:But [sb] wc X:=by rw [←hX];exact (But.refl _ _).setCell (.inl (by simp)) _
      have hr1:X.heap[sb]? = some (.cells (fG { t with events:=t.events+1 } bc bm bd kv') 92 (0,0)):=by
       rw [←hX];exact heap_setCell_same wc sb 0 _ _ _ HT2.out.row
      clear hX;exact ⟨rfl,⟨kv',HT2.out.Hg hb1 hr1 (Nat.le_refl _)⟩,HBT.out.trans (hb1.mono (by simp))⟩
end
section
variable [KB]
def O9 (w:World) (r:Ending) (w':World):Prop :=
 ∃ sb bc bm bd kv,r=.returned (.pointer (some ⟨sb,0,none⟩))∧dK w' sb bc bm bd 0 TS.new kv∧(w.heap.size≤sb∧w.heap.size≤bc∧w.heap.size≤bm∧w.heap.size≤bd)∧Below w.heap.size w w'
theorem Qz (w:World):Calls Try.prog 19 #[] w (O9 w):=by
 have hmm:=@run_makeMap Try.prog
 go_enter Try.func19,Try.ntmps19
 go_wp2
 go_ret
 refine ⟨w.heap.size+1+1+1,w.heap.size,w.heap.size+1,w.heap.size+1+1,.slice none 0 0,rfl,⟨?_,⟨none,0,rfl,Nat.le_refl _,fun h=>absurd h (by decide)⟩,?_,?_,?_,by omega,by omega,by omega⟩,⟨by omega,by omega,by omega,by omega⟩,?_⟩
 ·have h1:=heap_alloc_new (((w.alloc (.map #[] 0)).alloc (.map #[] 0)).alloc (.map #[] 0)) (.cells (fG TS.new w.heap.size (w.heap.size+1) (w.heap.size+1+1) (.slice none 0 0)) 92)
  simpa [fG,TS.new,R4] using h1
 ·exact (((MapOf.made w Try.prog 3).alloc _).alloc _).alloc _
 ·have h1:=((MapOf.made (kv:=qC) (w.alloc (.map #[] 0)) Try.prog 98).alloc (.map #[] 0)).alloc (.cells (fG TS.new w.heap.size (w.heap.size+1) (w.heap.size+1+1) (.slice none 0 0)) 92);simp [fG,TS.new,R4] at h1;exact h1
 ·have h1:=(MapOf.made (kv:=qC) ((w.alloc (.map #[] 0)).alloc (.map #[] 0)) Try.prog 98).alloc (.cells (fG TS.new w.heap.size (w.heap.size+1) (w.heap.size+1+1) (.slice none 0 0)) 92);simp [fG,TS.new,R4] at h1;exact h1
 ·exact ((((Below.refl _ _).alloc (Nat.le_refl _) _).alloc (by simp) _).alloc (by simp;omega) _).alloc (by simp;omega) _
end
instance kbAll:KB:=⟨fun _=>True⟩
def Gh (w:World) (v:Value) (l:List Ev):Prop :=
 ∃ A c,v=.slice A l.length c∧l.length≤c∧c≤9223372036854775807∧(0 < l.length→∃ b o,A=some ⟨b,o,none⟩∧∀ i e,l[i]? = some e→∀ j x,e.cells[j]? = some x→w.cell? ⟨b,o+(i * 9+j),none⟩=some x)
theorem Gh.keep {w w':World} {v:Value} {l:List Ev} (h:Gh w v l) (hb:Below w.heap.size w w'):Gh w' v l:=by
 obtain ⟨A,c,h1,h2,h3,h4⟩:=h;refine ⟨A,c,h1,h2,h3,fun hn=>?_⟩;obtain ⟨b,o,hA,hc⟩:=h4 hn;refine ⟨b,o,hA,fun i e hi j x hx=>?_⟩;have h5:=hc i e hi j x hx;exact (hb.cell (block_lt_of_cell h5)).trans h5
end Go.Proofs.Ytffcpijeebagfaa
end
section
namespace Go.Proofs.Ytffcpijeebagfaa
open Go.RowKit
set_option maxRecDepth 100000
set_option maxHeartbeats 4000000
section
variable [KB]
theorem NH {sb bc bm bd N:Nat} {s:TS} {kv:Value} (w:World) (h:dK w sb bc bm bd N s kv):Calls Try.prog 24 #[.pointer (some ⟨sb,0,none⟩)] w fun e w'=>e=.returned (.int .i64 s.gor)∧w=w':=by
 have h1:w.cell? ⟨sb,1,none⟩=some (.int .i64 s.gor):=by rw [h.cell 1];rfl
 go_enter Try.func24,Try.ntmps24
 go_wp2
 go_ret
 exact ⟨rfl,rfl⟩
end
end Go.Proofs.Ytffcpijeebagfaa
end
section
namespace Go.Proofs.Ytffcpijeebagfaa
open Go.RowKit Go.WideShapes Go.ChangeShapes Go.Deep
section
variable {H:Type} {enc:TypeId×Value→H} {P:Program} {w:World} {base:Nat} {spare:Nat→Bool} {held:Bool}
theorem qx {t e:TypeId} {fs:Array Field} {fuel:Nat} {cs:List Value} {x:DataW H×List MemPlace} (ht:P.underlying t=some (.slice e)) (he:P.underlying e=some (.struct fs))
 (hone:oneCellFields P fs=true) (hC:P.cellsOf e=fs.size) (h:DataW.trod enc P w base spare held fuel t cs=some x) :
 (cs=[.slice none 0 0]∧x=(.nil,[])) ∨
 ∃ (a:Addr) (len cap m:Nat) (D:Nat→DataW H) (Pl:Nat→List MemPlace),cs=[.slice (some a) len cap]∧base≤a.block∧len≤cap∧cap≤maxLen∧m=(if spare a.block then cap else len) ∧
   x=(.slice ((List.range len).map D) ((List.range (m - len)).map fun j=>D (len+j)),MemPlace.row a (m * fs.size) ++ (List.range m).flatMap Pl) ∧
   ∀ i,i < m→∃ (ys:List (DataW H×List MemPlace)) (n:Nat),D i=.agg (ys.map (·.1))∧Pl i=ys.flatMap (·.2)∧ys.length=fs.size ∧
     ∀ (j:Nat) (f:Field),fs[j]? = some f→∃ (v:Value) (y:DataW H×List MemPlace),w.cell? (a.add (i * fs.size+j))=some v∧ys[j]? = some y∧DataW.trod enc P w base spare held n f.type [v]=some y:=by
 rcases open_slice ht h with h0 | ⟨a,len,cap,m,n,D,Pl,hcs,hb,hl,hm,hmm,hx,hi⟩
 ·exact .inl h0
 ·refine .inr ⟨a,len,cap,m,D,Pl,hcs,hb,hl,hm,hmm,by rw [hC] at hx;exact hx,fun i him=>?_⟩
  obtain ⟨cs',hc,ht'⟩:=hi i him;rw [hC] at hc;obtain ⟨ys,n',hn',hy,hlen,hyl,hf⟩:=DataW.trod_struct he ht';obtain ⟨_,hcl,hat⟩:=World.cells?_some hc;simp only [Prod.mk.injEq] at hy;refine ⟨ys,n',hy.1,hy.2,hyl,fun j f hj=>?_⟩;obtain ⟨ho,hk⟩:=hone_of hone j f hj;have hjl:j < fs.size:=(Array.getElem?_eq_some_iff.1 hj).1;have hcell:=hat j hjl;have hv:cs'[j]? = some (cs'[j]'(by omega)):=List.getElem?_eq_getElem (by omega);have h1:=hf j f hj;rw [ho,hk] at h1
  have hone':(cs'.drop j).take 1=[cs'[j]'(by omega)]:=by
   rw [List.drop_eq_getElem_cons (by omega)];rfl
  rw [hone'] at h1;have hys:ys[j]? = some (ys[j]'(by omega)):=List.getElem?_eq_getElem (by omega);refine ⟨_,_,?_,hys,h1.trans hys⟩;rw [←Go.Deep.add_add,hcell,hv]
end
theorem Try.laidOut:laidOutB Try.prog=true:=by kernel_rfl
theorem Try.own:ownKnob Try.prog.godebug=none:=by kernel_rfl
theorem dw {H:Type} {enc:TypeId×Value→H} {P:Program} {w:World} {base n:Nat} {spare:Nat→Bool} {held:Bool} {t:TypeId} (ht:P.underlying t=some (.int .i64)) {v:Value} {y:DataW H×List MemPlace} (h:DataW.trod enc P w base spare held n t [v]=some y):∃ x,v=.int .i64 x∧(Lit.int .i64 x).wf=true:=by
 obtain ⟨x,hx,_,hw⟩:=DataW.trod_int ht h;simp at hx;exact ⟨x,hx,hw⟩
theorem iB {x:Int} (h:(Lit.int .i64 x).wf=true):-9223372036854775808≤x∧x≤9223372036854775807:=by
 simp [Lit.wf,IntKind.min,IntKind.max,IntKind.signed,IntKind.bits] at h;omega
set_option maxRecDepth 100000 in
set_option maxHeartbeats 1000000 in
theorem BO {H:Type} {enc:TypeId×Value→H} {w:World} {r:Reach} {b0:Nat} {v:Value} {d:DataW H} {ps:List MemPlace}
 (hv:Value.okWide Try.prog w r b0 22 v) (h:DataW.Trod enc Try.prog w 0 (fun _=>true) true 22 v d ps):∃ l:List Ev,Gh w v l∧∀ e ∈ l,∀ x ∈ e.cells,∃ n:Int,x=.int .i64 n∧(-9223372036854775808≤n∧n≤9223372036854775807):=by
 obtain ⟨a,len,cap,rfl⟩:=okWide_slice Try.underlying22 hv;obtain ⟨fuel,hf⟩:=h
 rcases qx Try.underlying22 Try.underlying34 (by kernel_rfl) (by kernel_rfl) hf with ⟨hcs,_⟩ | ⟨A,n,c,m,D,Pl,hcs,_,hnc,hcm,hm,_,hi⟩
 ·simp [Value.cells] at hcs;obtain ⟨rfl,rfl,rfl⟩:=hcs;exact ⟨[],⟨none,0,rfl,Nat.le_refl _,by omega,fun hh=>absurd hh (by decide)⟩,fun e he=>by cases he⟩
 ·simp [Value.cells] at hcs;obtain ⟨rfl,rfl,rfl⟩:=hcs
  have hev:∀ i,∃ e:Ev,i < cap→(∀ j x,e.cells[j]? = some x→w.cell? (A.add (i * 9+j))=some x)∧∀ x ∈ e.cells,∃ n:Int,x=.int .i64 n∧(-9223372036854775808≤n∧n≤9223372036854775807):=by
   intro i
   by_cases him:i < cap
   case neg=>exact ⟨⟨0,0,0,0,0,0,0,0,0⟩,fun hh=>absurd hh him⟩
   obtain ⟨ys,n',_,_,_,hf'⟩:=hi i (by simpa [hm] using him);obtain ⟨c0,y0,r0,_,t0⟩:=hf' 0 _ rfl;obtain ⟨x0,rfl,b0⟩:=dw Try.underlying3 t0;obtain ⟨c1,y1,r1,_,t1⟩:=hf' 1 _ rfl;obtain ⟨x1,rfl,b1⟩:=dw Try.underlying3 t1;obtain ⟨c2,y2,r2,_,t2⟩:=hf' 2 _ rfl;obtain ⟨x2,rfl,b2⟩:=dw Try.underlying3 t2;obtain ⟨c3,y3,r3,_,t3⟩:=hf' 3 _ rfl;obtain ⟨x3,rfl,b3⟩:=dw Try.underlying3 t3;obtain ⟨c4,y4,r4,_,t4⟩:=hf' 4 _ rfl;obtain ⟨x4,rfl,b4⟩:=dw Try.underlying3 t4;obtain ⟨c5,y5,r5,_,t5⟩:=hf' 5 _ rfl;obtain ⟨x5,rfl,b5⟩:=dw Try.underlying3 t5;obtain ⟨c6,y6,r6,_,t6⟩:=hf' 6 _ rfl;obtain ⟨x6,rfl,b6⟩:=dw Try.underlying3 t6;obtain ⟨c7,y7,r7,_,t7⟩:=hf' 7 _ rfl;obtain ⟨x7,rfl,b7⟩:=dw Try.underlying3 t7;obtain ⟨c8,y8,r8,_,t8⟩:=hf' 8 _ rfl;obtain ⟨x8,rfl,b8⟩:=dw Try.underlying3 t8
   refine ⟨⟨x0,x1,x2,x3,x4,x5,x6,x7,x8⟩,fun _=>⟨fun j x hx=>?_,fun x hx=>?_⟩⟩
   ·match j,hx with
    | 0,hx=>cases hx;exact r0
    | 1,hx=>cases hx;exact r1
    | 2,hx=>cases hx;exact r2
    | 3,hx=>cases hx;exact r3
    | 4,hx=>cases hx;exact r4
    | 5,hx=>cases hx;exact r5
    | 6,hx=>cases hx;exact r6
    | 7,hx=>cases hx;exact r7
    | 8,hx=>cases hx;exact r8
    | j+9,hx=>simp [Ev.cells] at hx
   ·simp only [Ev.cells,List.mem_cons,List.not_mem_nil,or_false] at hx
    rcases hx with rfl | rfl | rfl | rfl | rfl | rfl | rfl | rfl | rfl
    ·exact ⟨x0,rfl,iB b0⟩
    ·exact ⟨x1,rfl,iB b1⟩
    ·exact ⟨x2,rfl,iB b2⟩
    ·exact ⟨x3,rfl,iB b3⟩
    ·exact ⟨x4,rfl,iB b4⟩
    ·exact ⟨x5,rfl,iB b5⟩
    ·exact ⟨x6,rfl,iB b6⟩
    ·exact ⟨x7,rfl,iB b7⟩
    ·exact ⟨x8,rfl,iB b8⟩
  obtain ⟨f,hf2⟩:=Classical.skolem.1 hev;refine ⟨(List.range len).map f,⟨some A,cap,by simp,by simp;omega,by unfold maxLen at hcm;omega,fun hn=>?_⟩,fun e he x hx=>?_⟩
  ·have hn':0 < len:=by simpa using hn
   have h00:=(hf2 0 (by omega)).1 0 _ rfl;have hsp:=World.cell?_spot h00;obtain ⟨b,o,sp⟩:=A;simp [Addr.add] at hsp;subst hsp;refine ⟨b,o,rfl,fun i e hi' j x hx=>?_⟩;simp only [List.getElem?_map] at hi'
   have hin:i < len:=by
    rcases Nat.lt_or_ge i len with h1 | h1
    ·exact h1
    ·rw [List.getElem?_eq_none (by simpa using h1)] at hi';cases hi'
   rw [List.getElem?_range hin] at hi';simp at hi';subst hi';have:=(hf2 i (by omega)).1 j x hx;unfold Addr.add at this;split at this
   ·rename_i h0;rw [h0];exact this
   ·exact this
  ·obtain ⟨i,hi1,rfl⟩:=List.mem_map.1 he;exact (hf2 i (by have:=List.mem_range.1 hi1;omega)).2 x hx
end Go.Proofs.Ytffcpijeebagfaa
end
section
namespace Go.Proofs.Ytffcpijeebagfaa
open Go Go.RowKit
theorem Ev.Du {e:Ev} {j:Nat} {x:Value} (h:e.cells[j]? = some x):e.row[j]? = some (.sc x):=by
 show (e.cells.map Dt.sc)[j]? = _
 rw [List.getElem?_map,h];rfl
theorem RD.evs {S:Nat→Nat} {w:World} {l:List Ev} {v:Value} (h:RD S w (l9 l) v):Gh w v l:=by
 unfold l9 at h;generalize hr:l.map Ev.row=rows at h
 cases h with
 | emp A c hc =>
   cases l with
   | nil=>exact ⟨A,c,rfl,Nat.zero_le _,by unfold maxLen at hc;omega,fun h=>absurd h (by decide)⟩
   | cons e l=>simp at hr
 | im rows sz b o cap f hc hm hsz hcell hd =>
   have hlen:l.length=rows.length:=by rw [←hr];simp
   refine ⟨_,cap,by rw [hlen],by omega,by unfold maxLen at hm;omega,fun hpos=>⟨b,o,rfl,fun i e hi j x hx=>?_⟩⟩
   have hil:=(List.getElem?_eq_some_iff.1 hi).1;have hrow:rows[i]? = some e.row:=by rw [←hr,List.getElem?_map,hi];rfl
   have h9:9=sz:=hsz _ (List.mem_of_getElem? hrow);have hj:j < 9:=(List.getElem?_eq_some_iff.1 hx).1;have h1:=hd i _ j _ hrow (Ev.Du hx);have h2:=(hcell i j (by omega) (by omega)).1;rw [(RD.gq h1).1,←h9] at h2;exact h2
theorem Gh.rd {w:World} {v:Value} {l:List Ev} (h:Gh w v l) {S:Nat→Nat} (hS:∀ b i,(w.cell? ⟨b,i,none⟩).isSome=true→i < S b):RD S w (l9 l) v:=by
 obtain ⟨A,c,rfl,h2,h3,h4⟩:=h
 by_cases hl:0 < l.length
 ·obtain ⟨b,o,rfl,hc⟩:=h4 hl;unfold l9;rw [show l.length=(l.map Ev.row).length by simp]
  have hcl:∀ i j,i < l.length→j < 9→∃ e x,l[i]? = some e∧e.cells[j]? = some x∧(l.flatMap Ev.cells).getD (i * 9+j) undef=x∧w.cell? ⟨b,o+(i * 9+j),none⟩=some x:=fun i j hi hj=>by
   have hil:l[i]? = some l[i]:=List.getElem?_eq_getElem hi;have hjl:l[i].cells[j]? = some (l[i].cells[j]'hj):=List.getElem?_eq_getElem _;exact ⟨_,_,hil,hjl,by simp [List.getD,Qb l i _ hil j _ hjl],hc i _ hil j _ hjl⟩
  refine RD.im _ 9 b o c (fun i j=>(l.flatMap Ev.cells).getD (i * 9+j) undef) (by simpa using h2) (by unfold maxLen;omega) ?_ ?_ ?_
  ·intro r hr;obtain ⟨x,_,rfl⟩:=List.mem_map.1 hr;rfl
  ·intro i j hi hj;obtain ⟨e,x,_,_,h5,h6⟩:=hcl i j (by simpa using hi) hj;rw [h5];exact ⟨h6,hS b _ (by rw [h6];rfl)⟩
  ·intro i r j x hr hx;rw [List.getElem?_map,Option.map_eq_some_iff] at hr;obtain ⟨e,he,rfl⟩:=hr;have hj:j < 9:=(List.getElem?_eq_some_iff.1 hx).1;obtain ⟨e',u,h7,h8,h5,h6⟩:=hcl i j (List.getElem?_eq_some_iff.1 he).1 hj;rw [he] at h7;cases h7;rw [h5];have:=Ev.Du h8;rw [hx] at this;cases this;refine .sc u ?_;have:=List.mem_of_getElem? h8;simp only [Ev.cells,List.mem_cons,List.not_mem_nil,or_false] at this
   rcases this with rfl | rfl | rfl | rfl | rfl | rfl | rfl | rfl | rfl <;> rfl
 ·have:l=[]:=by cases l with
   | nil=>rfl
   | cons a l=>simp at hl
  subst this;exact .emp _ _ (by unfold maxLen;omega)
def World.cellsOf (w:World) (b:Nat):Nat:=match w.heap[b]? with
 | some (.cells arr _ _)=>arr.size
 | _=>0
theorem D8 {w:World} (b i:Nat) (h:(w.cell? ⟨b,i,none⟩).isSome=true):i < World.cellsOf w b:=by
 unfold World.cellsOf;unfold World.cell? at h
 cases hb:w.heap[b]? with
 | none=>simp [hb] at h
 | some x =>
   cases x with
   | cells arr T fr=>simp only [hb] at h;simpa using h
   | _=>simp [hb] at h
theorem RPs.nth {S:Nat→Nat} {w:World} {ps:List Pa} {vs:Array Value} (h:RPs S w ps vs) {i:Nat} {p:Pa} (hp:ps[i]? = some p):∃ u,vs[i]? = some u∧RP S w p u:=by
 have hi:i < vs.size:=by rw [←h.1];exact (List.getElem?_eq_some_iff.1 hp).1
 exact ⟨vs[i],Array.getElem?_eq_getElem hi,h.2 i p _ hp (Array.getElem?_eq_getElem hi)⟩
theorem RPs.one {S:Nat→Nat} {w:World} {p:Pa} {vs:Array Value} (h:RPs S w [p] vs):∃ u,vs=#[u]∧RP S w p u:=by
 obtain ⟨u,h1,h2⟩:=h.nth (i:=0) rfl;refine ⟨u,?_,h2⟩;have h3:=h.1
 apply Array.ext_getElem?
 intro j
 match j with
 | 0=>simpa using h1
 | j+1=>rw [Array.getElem?_eq_none (by simp at h3;omega),Array.getElem?_eq_none (by simp)]
theorem RPs.two {S:Nat→Nat} {w:World} {p q:Pa} {vs:Array Value} (h:RPs S w [p,q] vs):∃ u v,vs=#[u,v]∧RP S w p u∧RP S w q v:=by
 obtain ⟨u,h1,h2⟩:=h.nth (i:=0) rfl;obtain ⟨v,h3,h4⟩:=h.nth (i:=1) rfl;refine ⟨u,v,?_,h2,h4⟩;have h5:=h.1
 apply Array.ext_getElem?
 intro j
 match j with
 | 0=>simpa using h1
 | 1=>simpa using h3
 | j+2=>rw [Array.getElem?_eq_none (by simp at h5;omega),Array.getElem?_eq_none (by simp)]
theorem RPs.nil {S:Nat→Nat} {w:World} {vs:Array Value} (h:RPs S w [] vs):vs=#[]:=by
 have h3:=h.1
 apply Array.ext_getElem?
 intro j;rw [Array.getElem?_eq_none (by simp at h3;omega),Array.getElem?_eq_none (by simp)]
theorem RPs.mk3 {S:Nat→Nat} {w:World} {p q r:Pa} {u v x:Value} (h:RP S w p u) (k:RP S w q v) (m:RP S w r x):RPs S w [p,q,r] #[u,v,x]:=⟨rfl,fun i o y h1 h2=>by
 match i with
 | 0=>cases h1;simp at h2;subst h2;exact h
 | 1=>cases h1;simp at h2;subst h2;exact k
 | 2=>cases h1;simp at h2;subst h2;exact m
 | i+3=>simp at h1⟩
theorem RP.int {S:Nat→Nat} {w:World} {n:Int} {u:Value} (h:RP S w (pI n) u):u=.int .i64 n:=(RD.gq h).1
theorem RP.mkInt {S:Nat→Nat} {w:World} (n:Int):RP S w (pI n) (.int .i64 n):=.sc _ rfl
theorem RP.OG {S:Nat→Nat} {w:World} (n:Bool):RP S w (pB n) (.bool n):=.sc _ rfl
theorem RP.bool {S:Nat→Nat} {w:World} {n:Bool} {u:Value} (h:RP S w (pB n) u):u=.bool n:=(RD.gq h).1
theorem RP.flat {S:Nat→Nat} {w:World} {vs:List Value} {u:Value} (h:RP S w (.agg (vs.map Dt.sc)) u):u=.agg vs.toArray:=by
 obtain ⟨arr,rfl,h2,h3⟩:=h
 congr 1
 apply Array.ext_getElem?
 intro j;simp only [List.getElem?_toArray];rw [List.length_map] at h2
 cases hj:vs[j]? with
 | none=>rw [Array.getElem?_eq_none];rw [List.getElem?_eq_none_iff] at hj;omega
 | some x =>
   have hlt:j < arr.size:=by have:=(List.getElem?_eq_some_iff.1 hj).1;omega
   rw [Array.getElem?_eq_getElem hlt,(RD.gq (h3 j (.sc x) arr[j] (by rw [List.getElem?_map,hj];rfl) (Array.getElem?_eq_getElem hlt))).1]
theorem RP.TV {S:Nat→Nat} {w:World} {vs:List Value} (h:∀ u,u ∈ vs→u.oneCell'=true):RP S w (.agg (vs.map Dt.sc)) (.agg vs.toArray):=by
 refine ⟨_,rfl,by simp,fun i x u h1 h2=>?_⟩;rw [List.getElem?_map,Option.map_eq_some_iff] at h1;obtain ⟨y,hy,rfl⟩:=h1;simp [hy] at h2;subst h2;exact .sc _ (h y (List.mem_of_getElem? hy))
def tsR (s:TS) (N:Nat) (w:World) (v:Value) (fp:Nat→Prop):Prop :=
 ∃ sb bc bm bd kv,v=.pointer (some ⟨sb,0,none⟩)∧@dK ⟨fp⟩ w sb bc bm bd N s kv∧(fp sb∧fp bc∧fp bm∧fp bd)∧∀ b,fp b→b < w.heap.size
theorem Qg {w w':World} {b:Nat} (h:b < w.heap.size) (e:w'.heap[b]? = w.heap[b]?):b < w'.heap.size:=by
 rcases Nat.lt_or_ge b w'.heap.size with h1 | h1
 ·exact h1
 ·rw [Array.getElem?_eq_none h1,Array.getElem?_eq_getElem h] at e;cases e
theorem NT (s:TS) (N:Nat) (w w':World) (v:Value) (fp:Nat→Prop) (h:tsR s N w v fp) (hb:∀ b,fp b→w'.heap[b]? = w.heap[b]?):tsR s N w' v fp:=by
 letI:KB:=⟨fp⟩
 obtain ⟨sb,bc,bm,bd,kv,hv,hT,⟨f0,f1,f2,f3⟩,hlt⟩:=h;refine ⟨sb,bc,bm,bd,kv,hv,⟨(hb sb f0).trans hT.row,?_,hT.chans.keep (hb bc f1),hT.mus.keep (hb bm f2),hT.done.keep (hb bd f3),hT.ncm,hT.ncd,hT.nmd⟩,⟨f0,f1,f2,f3⟩,fun b hf=>Qg (hlt b hf) (hb b hf)⟩;obtain ⟨A,c,h1,h2,h3⟩:=hT.kinds;refine ⟨A,c,h1,h2,fun hn=>?_⟩;obtain ⟨b,o,hA,hne,hc⟩:=h3 hn;refine ⟨b,o,hA,hne,fun i x hx=>?_⟩;exact (World.cell?_of_block (w:=w) (a:=⟨b,o+i,none⟩) (hb b hne.2)).trans (hc i x hx)
def tsH (s:TS) (N:Nat):HP where
 r:=tsR s N
 keep:=fun w w' v fp h hb=>NT s N w w' v fp h hb
 lt:=fun w v fp b h hb=>by obtain ⟨_,_,_,_,_,_,_,_,hlt⟩:=h;exact hlt b hb
theorem gQ.lt {K:KB} {fp:Nat→Prop} {w:World} {v:Value} {xs:List Int} {sb:Nat} (h:@gQ K w v xs sb) (hk:∀ b,K.p b→b < w.heap.size→fp b):@gQ ⟨fp⟩ w v xs sb:=by
 obtain ⟨A,c,h1,h2,h3⟩:=h;refine ⟨A,c,h1,h2,fun hn=>?_⟩;obtain ⟨b,o,hA,hne,hc⟩:=h3 hn;have h4:=hc 0 (xs[0]'hn) (List.getElem?_eq_getElem hn);exact ⟨b,o,hA,⟨hne.1,hk b hne.2 (block_lt_of_cell h4)⟩,hc⟩
theorem dK.kb {K:KB} {fp:Nat→Prop} {w:World} {sb bc bm bd N:Nat} {s:TS} {kv:Value} (h:@dK K w sb bc bm bd N s kv) (hk:∀ b,K.p b→b < w.heap.size→fp b):@dK ⟨fp⟩ w sb bc bm bd N s kv :=
 @dK.mk ⟨fp⟩ _ _ _ _ _ _ _ _ (@dK.row K _ _ _ _ _ _ _ _ h) (@gQ.lt K fp _ _ _ _ (@dK.kinds K _ _ _ _ _ _ _ _ h) hk) (@dK.chans K _ _ _ _ _ _ _ _ h) (@dK.mus K _ _ _ _ _ _ _ _ h) (@dK.done K _ _ _ _ _ _ _ _ h) (@dK.ncm K _ _ _ _ _ _ _ _ h) (@dK.ncd K _ _ _ _ _ _ _ _ h) (@dK.nmd K _ _ _ _ _ _ _ _ h)
theorem RPs.Hl {S:Nat→Nat} {w:World} {vs:Array Value} (h:RPs S w [] vs):vs=#[]:=by
 apply Array.eq_empty_of_size_eq_zero
 have:=h.1;simp at this;omega
def Ol (Ho:Option HP) (az:List Pa) (H:HP) (rs:List Pa):Prop:=Ho=none∧az=[]∧H=tsH TS.new 0∧rs=[]
theorem UC:uq Try.prog 19 Ol:=by
 rintro Ho az H rs ⟨rfl,rfl,rfl,rfl⟩ S w vals _ hv;obtain rfl:=hv.Hl;refine (@Qz ⟨fun _=>True⟩ w).mono ?_;rintro r w' ⟨sb,bc,bm,bd,kv,rfl,hT,⟨z0,z1,z2,z3⟩,hb⟩
 letI:KB:=⟨fun _=>True⟩
 have hl:sb < w'.heap.size∧bc < w'.heap.size∧bm < w'.heap.size∧bd < w'.heap.size:=⟨hT.lt,hT.chans.lt,hT.mus.lt,hT.done.lt⟩
 have hT2:@dK ⟨fun b=>w.heap.size≤b∧b < w'.heap.size⟩ w' sb bc bm bd 0 TS.new kv:=by
  refine @dK.mk ⟨fun b=>w.heap.size≤b∧b < w'.heap.size⟩ _ _ _ _ _ _ _ _ hT.row ?_ hT.chans hT.mus hT.done hT.ncm hT.ncd hT.nmd;obtain ⟨A,c,h1,h2,h3⟩:=hT.kinds;exact ⟨A,c,h1,h2,fun hn=>absurd hn (by decide)⟩
 exact ⟨_,fun b=>if b < w.heap.size then S b else 0,.pointer (some ⟨sb,0,none⟩),fun b=>w.heap.size≤b∧b < w'.heap.size,rfl,rfl,rfl,⟨sb,bc,bm,bd,kv,rfl,hT2,⟨⟨z0,hl.1⟩,⟨z1,hl.2.1⟩,⟨z2,hl.2.2.1⟩,z3,hl.2.2.2⟩,fun b h=>h.2⟩,hb,fun b h=>⟨h.1,if_neg (by omega)⟩,fun b h=>if_pos h⟩
def Oi (Ho:Option HP) (az:List Pa) (H:HP) (rs:List Pa):Prop:=∃ (s:TS) (N:Nat) (e:Ev),Ho=some (tsH s N)∧az=[e.pa]∧(s.wf∧N≤1000000)∧H=tsH ((s.add e).getD s) (N+2)∧rs=[pB (s.add e).isSome]
theorem Uz:uq Try.prog 21 Oi:=by
 rintro Ho az H rs ⟨s,N,e,rfl,rfl,⟨hwf,hN⟩,rfl,rfl⟩ S w vals _ hv v fp hr hS;obtain ⟨sb,bc,bm,bd,kv,rfl,hT,⟨f0,f1,f2,f3⟩,hlt⟩:=hr;obtain ⟨u,rfl,h1⟩:=hv.one;obtain rfl:u=e.val:=RP.flat (vs:=e.cells) h1;have hT2:@dK ⟨fun b=>fp b∨w.heap.size≤b⟩ w sb bc bm bd N s kv:=dK.kb hT (fun b hb _=>.inl hb);refine (@KR ⟨fun b=>fp b∨w.heap.size≤b⟩ sb bc bm bd N s kv w hT2 hwf (by unfold maxLen;omega) e (fun b hb=>.inr hb)).mono ?_
 rintro r w' ⟨rfl,⟨kv',hT3⟩,hb⟩;refine ⟨_,fun b=>if b < w.heap.size then S b else 0,fun b=>(fp b∨w.heap.size≤b)∧b < w'.heap.size,rfl,RP.OG _,?_,⟨hb.os,hb.tape,hb.output,hb.size,fun k hk hn=>hb.block k hk (fun hm=>?_)⟩,fun b h=>⟨h.1,?_⟩,fun b h=>if_pos h⟩
 ·have up:∀ b,fp b→(fp b∨w.heap.size≤b)∧b < w'.heap.size:=fun b h=>⟨.inl h,Nat.lt_of_lt_of_le (hlt b h) hb.size⟩
  exact ⟨sb,bc,bm,bd,kv',rfl,dK.kb hT3 (fun b h1 h2=>⟨h1,h2⟩),⟨up _ f0,up _ f1,up _ f2,up _ f3⟩,fun b h=>h.2⟩
 ·simp only [List.mem_cons,List.not_mem_nil,or_false] at hm
  rcases hm with rfl | rfl | rfl | rfl <;> exact hn ‹_›
 ·by_cases hbs:b < w.heap.size
  ·dsimp only;rw [if_pos hbs];exact h.1.elim (hS b) (fun h=>by omega)
  ·exact if_neg hbs
def Oj (Ho:Option HP) (az:List Pa) (H:HP) (rs:List Pa):Prop:=∃ (s:TS) (N:Nat),Ho=some (tsH s N)∧az=[]∧H=tsH s N∧rs=[pI s.gor]
theorem UA:uq Try.prog 24 Oj:=by
 rintro Ho az H rs ⟨s,N,rfl,rfl,rfl,rfl⟩ S w vals _ hv v fp hr hS;obtain rfl:=hv.Hl;obtain ⟨sb,bc,bm,bd,kv,rfl,hT,hf,hlt⟩:=hr;refine (@NH ⟨fp⟩ sb bc bm bd N s kv w hT).mono ?_;rintro r w' ⟨rfl,rfl⟩;exact ⟨_,S,fp,rfl,RP.mkInt _,⟨sb,bc,bm,bd,kv,rfl,hT,hf,hlt⟩,⟨rfl,rfl,rfl,Nat.le_refl _,fun _ _ _=>rfl⟩,fun b h=>⟨.inl h,hS b h⟩,fun _ _=>rfl⟩
end Go.Proofs.Ytffcpijeebagfaa
end
section
namespace Go.Proofs.Ytffcpijeebagfaa
open Go Go.RowKit
set_option maxRecDepth 100000
structure jv (es:List (Value×Nat×Hw)) (cl:Nat):Prop where
 lt:∀ e ∈ es,e.2.1 < cl
 kn:(es.map (·.1)).Nodup
 sn:(es.map (·.2.1)).Nodup
theorem CJ {es:List (Value×Nat×Hw)} {k:Value}:aS es k=none↔k ∉ es.map (·.1):=by
 induction es with
 | nil=>simp [aS]
 | cons e es ih =>
   obtain ⟨x,r⟩:=e;unfold aS
   by_cases h:x=k
   ·rw [if_pos h];simp [h]
   ·rw [if_neg h,ih,List.map_cons,List.mem_cons,not_or];exact ⟨fun q=>⟨fun e=>h e.symm,q⟩,fun q=>q.2⟩
theorem jo {es:List (Value×Nat×Hw)} {k:Value} {r:Nat×Hw} (h:aS es k=some r):(k,r) ∈ es:=by
 induction es with
 | nil=>simp [aS] at h
 | cons e es ih =>
   obtain ⟨x,r'⟩:=e;unfold aS at h;split at h
   ·rename_i hx;cases h;rw [hx];exact List.mem_cons_self ..
   ·exact List.mem_cons_of_mem _ (ih h)
theorem kG {es:List (Value×Nat×Hw)} (hk:(es.map (·.1)).Nodup) {k:Value} {r:Nat×Hw} (h:(k,r) ∈ es):aS es k=some r:=by
 induction es with
 | nil=>cases h
 | cons e es ih =>
   obtain ⟨x,r'⟩:=e;rw [List.map_cons,List.nodup_cons] at hk;unfold aS
   rcases List.mem_cons.1 h with h | h
   ·cases h;rw [if_pos rfl]
   ·rw [if_neg,ih hk.2 h];rintro rfl;exact hk.1 (List.mem_map.2 ⟨_,h,rfl⟩)
theorem oD {es:List (Value×Nat×Hw)} {n:Nat} {k:Value} {v:Hw}:aS (dR es n k v) k=some (match aS es k with | some r=>(r.1,v) | none=>(n,v)):=by
 induction es with
 | nil=>simp [dR,aS]
 | cons e es ih =>
   obtain ⟨x,r⟩:=e;unfold dR
   by_cases h:x=k
   ·rw [if_pos h];unfold aS;rw [if_pos h,if_pos h]
   ·rw [if_neg h];unfold aS;rw [if_neg h,if_neg h,ih]
theorem gU {es:List (Value×Nat×Hw)} {n:Nat} {k k':Value} {v:Hw} (hk:k'≠k):aS (dR es n k v) k'=aS es k':=by
 induction es with
 | nil=>simp [dR,aS,Ne.symm hk]
 | cons e es ih =>
   obtain ⟨x,r⟩:=e;unfold dR
   by_cases h:x=k
   ·rw [if_pos h];unfold aS;rw [if_neg (by rw [h];exact Ne.symm hk),if_neg (by rw [h];exact Ne.symm hk)]
   ·rw [if_neg h];unfold aS;rw [ih]
theorem lZ {es:List (Value×Nat×Hw)} {n:Nat} {k:Value} {v:Hw}:(dR es n k v).map (·.1)=match aS es k with | some _=>es.map (·.1) | none=>es.map (·.1) ++ [k]:=by
 induction es with
 | nil=>simp [dR,aS]
 | cons e es ih =>
   obtain ⟨x,r⟩:=e;unfold dR aS
   by_cases h:x=k
   ·rw [if_pos h,if_pos h];simp
   ·rw [if_neg h,if_neg h,List.map_cons,ih];cases aS es k <;> simp
theorem tO {es:List (Value×Nat×Hw)} {n:Nat} {k:Value} {v:Hw}:(dR es n k v).map (·.2.1)=match aS es k with | some _=>es.map (·.2.1) | none=>es.map (·.2.1) ++ [n]:=by
 induction es with
 | nil=>simp [dR,aS]
 | cons e es ih =>
   obtain ⟨x,r⟩:=e;unfold dR aS
   by_cases h:x=k
   ·rw [if_pos h,if_pos h];simp
   ·rw [if_neg h,if_neg h,List.map_cons,ih];cases aS es k <;> simp
theorem jv.put {es:List (Value×Nat×Hw)} {cl:Nat} (h:jv es cl) (k:Value) (v:Hw):jv (dR es cl k v) (ckl es cl k):=by
 obtain ⟨h1,h2,h3⟩:=h
 have hlt:∀ n ∈ es.map (·.2.1),n < cl:=fun n hn=>by
  obtain ⟨e,he,rfl⟩:=List.mem_map.1 hn;exact h1 e he
 refine ⟨fun e he=>?_,?_,?_⟩
 ·have:e.2.1 ∈ (dR es cl k v).map (·.2.1):=List.mem_map.2 ⟨e,he,rfl⟩;rw [tO] at this;unfold ckl
  cases ha:aS es k with
  | none =>
    rw [ha] at this
    rcases List.mem_append.1 this with q | q
    ·have:=hlt _ q;show _ < cl+1;omega
    ·have:=List.mem_singleton.1 q;show _ < cl+1;omega
  | some r=>rw [ha] at this;exact hlt _ this
 ·rw [lZ]
  cases ha:aS es k with
  | none =>
    show (es.map (·.1) ++ [k]).Nodup
    rw [List.nodup_append];exact ⟨h2,by simp,fun a ha2 b hb e=>by have:=List.mem_singleton.1 hb;subst this;exact CJ.1 ha (e ▸ ha2)⟩
  | some r=>exact h2
 ·rw [tO]
  cases ha:aS es k with
  | none =>
    show (es.map (·.2.1) ++ [cl]).Nodup
    rw [List.nodup_append];exact ⟨h3,by simp,fun a ha2 b hb e=>by have:=List.mem_singleton.1 hb;have:=hlt a ha2;omega⟩
  | some r=>exact h3
theorem jv.nil (c:Nat):jv [] c:=⟨fun e h=>(by cases h),List.nodup_nil,List.nodup_nil⟩
theorem MX {k x y k' x' y':Int}:fB k x y=fB k' x' y'↔k=k'∧x=x'∧y=y':=by
 unfold fB;simp
theorem dA {l:List Ck} (h:∀ c ∈ l,c.length=8):(bn l).length=l.length * 8:=by
 induction l with
 | nil=>rfl
 | cons c l ih =>
   unfold bn at *;rw [List.flatMap_cons,List.length_append,ih (fun c hc=>h c (List.mem_cons_of_mem _ hc)),bU,h c (List.mem_cons_self ..),List.length_cons];omega
theorem kS {l:List Ck} (h:∀ c ∈ l,c.length=8) {i:Nat} {c:Ck} (hi:l[i]? = some c) (rest:List Hc):((bn l ++ rest).drop (i * 8)).take 8=ckH c:=by
 induction l generalizing i with
 | nil=>simp at hi
 | cons d l ih =>
   have hd:(ckH d).length=8:=by rw [bU];exact h d (List.mem_cons_self ..)
   unfold bn at *;rw [List.flatMap_cons,List.append_assoc]
   cases i with
   | zero =>
     simp at hi;subst hi;rw [Nat.zero_mul,List.drop_zero,List.take_append_of_le_length (by omega),List.take_of_length_le (by omega)]
   | succ i =>
     have e:(i+1) * 8=(ckH d).length+i * 8:=by rw [hd];omega
     rw [e,List.drop_append,List.drop_eq_nil_of_le (by omega),List.nil_append,Nat.add_sub_cancel_left];exact ih (fun c hc=>h c (List.mem_cons_of_mem _ hc)) (by simpa using hi)
theorem ER {a b:List Hc} {n:Nat} {d:List Hc}:eU (a ++ b) (a.length+n) d=a ++ eU b n d:=by
 induction a with
 | nil=>simp
 | cons x a ih =>
   have:(x :: a).length+n=(a.length+n)+1:=by simp;omega
   rw [this,List.cons_append]
   show x :: eU (a ++ b) (a.length+n) d=_
   rw [ih];rfl
theorem yI {b:List Hc}:eU b 0 []=b:=by cases b <;> rfl
theorem EP {a b d:List Hc} (h:a.length=d.length):eU (a ++ b) 0 d=d ++ b:=by
 induction a generalizing d with
 | nil=>cases d with
   | nil=>exact yI
   | cons x d=>simp at h
 | cons x a ih=>cases d with
   | nil=>simp at h
   | cons y d =>
     show y :: eU (a ++ b) 0 d=_
     rw [ih (by simpa using h)];rfl
theorem kT {l:List Ck} (h:∀ c ∈ l,c.length=8) {i:Nat} (hi:i < l.length) {c:Ck} (hc:c.length=8) (rest:List Hc):eU (bn l ++ rest) (i * 8) (ckH c)=bn (l.set i c) ++ rest:=by
 induction l generalizing i with
 | nil=>simp at hi
 | cons d l ih =>
   have hd:(ckH d).length=8:=by rw [bU];exact h d (List.mem_cons_self ..)
   unfold bn at *;rw [List.flatMap_cons,List.append_assoc]
   cases i with
   | zero =>
     rw [Nat.zero_mul,EP (by rw [hd,bU,hc]),List.set_cons_zero,List.flatMap_cons,List.append_assoc]
   | succ i =>
     have e:(i+1) * 8=(ckH d).length+i * 8:=by rw [hd];omega
     rw [e,ER,ih (fun c hc=>h c (List.mem_cons_of_mem _ hc)) (by simpa using hi),List.set_cons_succ,List.flatMap_cons,List.append_assoc]
def dS (bs bo br:Nat) (ck:List Ck):List Hc:=.h (.v bs) :: (bn ck ++ [.h (.m bo),.h (.m br)])
section
variable {bs bo br:Nat} {ck:List Ck}
def Ck8 (l:List Ck):Prop:=l.length=8∧∀ c ∈ l,c.length=8
theorem rR (h:Ck8 ck):(dS bs bo br ck).length=67:=by
 have:=dA h.2;unfold dS;simp [this,h.1]
theorem Gg:(dS bs bo br ck)[0]? = some (.h (.v bs)):=rfl
theorem iL (h:Ck8 ck):(dS bs bo br ck)[65]? = some (.h (.m bo)):=by
 have h1:=dA h.2;rw [h.1] at h1;unfold dS;rw [List.getElem?_cons_succ,List.getElem?_append_right (by omega),h1];rfl
theorem fV (h:Ck8 ck):(dS bs bo br ck)[66]? = some (.h (.m br)):=by
 have h1:=dA h.2;rw [h.1] at h1;unfold dS;rw [List.getElem?_cons_succ,List.getElem?_append_right (by omega),h1];rfl
theorem Dz (h:Ck8 ck) {g:Nat} {c:Ck} (hg:ck[g]? = some c):(((dS bs bo br ck).map Hc.cl).drop (1+g * 8)).take 8=aK c:=by
 rw [←List.map_drop,←List.map_take,Nat.add_comm]
 show ((((dS bs bo br ck)).drop (g * 8+1)).take 8).map Hc.cl=_
 unfold dS;rw [List.drop_succ_cons,kS h.2 hg,bW]
theorem DC (h:Ck8 ck) {g:Nat} (hg:g < 8) {c:Ck} (hc:c.length=8):eU (dS bs bo br ck) (1+g * 8) (ckH c)=dS bs bo br (ck.set g c):=by
 unfold dS;rw [Nat.add_comm]
 show Hc.h (.v bs) :: eU _ (g * 8) (ckH c)=_
 rw [kT h.2 (by rw [h.1];exact hg) hc]
theorem Ck8.set (h:Ck8 ck) {g:Nat} {c:Ck} (hc:c.length=8):Ck8 (ck.set g c):=⟨by rw [List.length_set];exact h.1,fun d hd=>by
 rcases List.mem_or_eq_of_mem_set hd with q | q
 ·exact h.2 d q
 ·rw [q];exact hc⟩
end
structure mV where
 bs:Nat
 bo:Nat
 br:Nat
 st:TS
 sn:Nat
 ck:List Ck
 es:List (Value×Nat×Hw)
 cl:Nat
 f:Int→Int→Int→Option Ck
 rs:List (Value×Nat×Hw)
 rcl:Nat
 g:Int→Option (Nat×Nat×List Ck×List Ck)
 tg:Nat→Option (Int×Bool)
structure uG (hp:Nat→Hb) (D:Nat→Prop) (tg:Nat→Option (Int×Bool)) (o:Int) (b1 b2:Nat) (l1 l2:List Ck):Prop where
 e1:hp b1=.cells (bn l1)
 e2:hp b2=.cells (bn l2)
 len:l1.length=l2.length
 pos:0 < l1.length
 c1:∀ c ∈ l1,c.length=8
 c2:∀ c ∈ l2,c.length=8
 t1:tg b1=some (o,false)
 t2:tg b2=some (o,true)
 d1:D b1
 d2:D b2
structure TabAt (hp:Nat→Hb) (b0:Nat) (D:Nat→Prop) (t:mV):Prop where
 h0:hp b0=.cells (dS t.bs t.bo t.br t.ck)
 hs:hp t.bs=.ab (tsH t.st t.sn)
 ho:hp t.bo=.map 117 t.es t.cl
 hr:hp t.br=.map 3 t.rs t.rcl
 ck:Ck8 t.ck
 dd:D b0∧D t.bs∧D t.bo∧D t.br
 tg0:t.tg b0=none
 ow:jv t.es t.cl
 oa:∀ k x y,match t.f k x y with | none=>aS t.es (fB k x y)=none | some c=>c.length=8∧∃ n,aS t.es (fB k x y)=some (n,fU c)
 ok:∀ e ∈ t.es,∃ k x y,e.1=fB k x y∧iY x∧iY y
 rw:jv t.rs t.rcl
 ra:∀ o,match t.g o with | none=>aS t.rs (.int .i64 o)=none | some (b1,b2,l1,l2)=>(∃ n,aS t.rs (.int .i64 o)=some (n,rgW b1 b2 l1.length))∧uG hp D t.tg o b1 b2 l1 l2
 rk:∀ e ∈ t.rs,∃ o,e.1=.int .i64 o
section
variable {hp hp':Nat→Hb} {b0:Nat} {D:Nat→Prop} {t:mV}
theorem aB {α:Type} {f:Nat→α} {a b:Nat} {v:α} (h:b≠a):up f a v b=f b:=by rw [aA,if_neg h]
theorem bV {α:Type} {f:Nat→α} {a:Nat} {v:α}:up f a v a=v:=by rw [aA,if_pos rfl]
theorem uG.mono {D':Nat→Prop} {tg tg':Nat→Option (Int×Bool)} {o:Int} {b1 b2:Nat} {l1 l2:List Ck} (h:uG hp D tg o b1 b2 l1 l2) (e1:hp' b1=hp b1) (e2:hp' b2=hp b2) (q1:tg' b1=tg b1) (q2:tg' b2=tg b2) (q3:D' b1) (q4:D' b2):uG hp' D' tg' o b1 b2 l1 l2 :=
 ⟨e1.trans h.e1,e2.trans h.e2,h.len,h.pos,h.c1,h.c2,q1.trans h.t1,q2.trans h.t2,q3,q4⟩
theorem TabAt.frame (h:TabAt hp b0 D t) (hf:∀ b,D b→hp' b=hp b):TabAt hp' b0 D t:=by
 refine ⟨(hf _ h.dd.1).trans h.h0,(hf _ h.dd.2.1).trans h.hs,(hf _ h.dd.2.2.1).trans h.ho,(hf _ h.dd.2.2.2).trans h.hr,h.ck,h.dd,h.tg0,h.ow,h.oa,h.ok,h.rw,fun o=>?_,h.rk⟩;have:=h.ra o
 cases hg:t.g o with
 | none=>rw [hg] at this;exact this
 | some p =>
   rw [hg] at this;obtain ⟨b1,b2,l1,l2⟩:=p;exact ⟨this.1,this.2.mono (hf _ this.2.d1) (hf _ this.2.d2) rfl rfl this.2.d1 this.2.d2⟩
theorem TabAt.new (h:TabAt hp b0 D t) {b:Nat} {x:Hb} (hn:¬ D b):TabAt (up hp b x) b0 D t :=
 h.frame fun c hc=>aB (fun e=>hn (e ▸ hc))
theorem TabAt.n1 (h:TabAt hp b0 D t):b0≠t.bs:=fun e=>by have:=h.hs;rw [←e,h.h0] at this;cases this
theorem TabAt.n2 (h:TabAt hp b0 D t):b0≠t.bo:=fun e=>by have:=h.ho;rw [←e,h.h0] at this;cases this
theorem TabAt.n3 (h:TabAt hp b0 D t):b0≠t.br:=fun e=>by have:=h.hr;rw [←e,h.h0] at this;cases this
theorem TabAt.n4 (h:TabAt hp b0 D t):t.bs≠t.bo:=fun e=>by have:=h.ho;rw [←e,h.hs] at this;cases this
theorem TabAt.n5 (h:TabAt hp b0 D t):t.bs≠t.br:=fun e=>by have:=h.hr;rw [←e,h.hs] at this;cases this
theorem TabAt.n6 (h:TabAt hp b0 D t):t.bo≠t.br:=fun e=>by have:=h.hr;rw [←e,h.ho] at this;cases this
theorem TabAt.ring (h:TabAt hp b0 D t) {o:Int} {b1 b2:Nat} {l1 l2:List Ck} (hg:t.g o=some (b1,b2,l1,l2)):(∃ n,aS t.rs (.int .i64 o)=some (n,rgW b1 b2 l1.length))∧uG hp D t.tg o b1 b2 l1 l2:=by
 have:=h.ra o;rw [hg] at this;exact this
theorem TabAt.rn (h:TabAt hp b0 D t) {o:Int} {b1 b2:Nat} {l1 l2:List Ck} (hg:t.g o=some (b1,b2,l1,l2)) :
 (b1≠b0∧b1≠t.bs∧b1≠t.bo∧b1≠t.br)∧(b2≠b0∧b2≠t.bs∧b2≠t.bo∧b2≠t.br)∧b1≠b2:=by
 obtain ⟨_,r⟩:=h.ring hg;refine ⟨⟨fun e=>?_,fun e=>?_,fun e=>?_,fun e=>?_⟩,⟨fun e=>?_,fun e=>?_,fun e=>?_,fun e=>?_⟩,fun e=>?_⟩
 ·have:=r.t1;rw [e,h.tg0] at this;cases this
 ·have:=r.e1;rw [e,h.hs] at this;cases this
 ·have:=r.e1;rw [e,h.ho] at this;cases this
 ·have:=r.e1;rw [e,h.hr] at this;cases this
 ·have:=r.t2;rw [e,h.tg0] at this;cases this
 ·have:=r.e2;rw [e,h.hs] at this;cases this
 ·have:=r.e2;rw [e,h.ho] at this;cases this
 ·have:=r.e2;rw [e,h.hr] at this;cases this
 ·have:=r.t1;rw [e,r.t2] at this;cases this
theorem TabAt.O6 (h:TabAt hp b0 D t) {b:Nat} {x:Hb} (hb:b=b0∨b=t.bs∨b=t.bo∨b=t.br) (o:Int):match t.g o with | none=>aS t.rs (.int .i64 o)=none | some (b1,b2,l1,l2)=>(∃ n,aS t.rs (.int .i64 o)=some (n,rgW b1 b2 l1.length))∧uG (up hp b x) D t.tg o b1 b2 l1 l2:=by
 have:=h.ra o
 cases hg:t.g o with
 | none=>rw [hg] at this;exact this
 | some p =>
   rw [hg] at this;obtain ⟨b1,b2,l1,l2⟩:=p;obtain ⟨⟨p1,p2,p3,p4⟩,⟨p5,p6,p7,p8⟩,_⟩:=h.rn hg;refine ⟨this.1,this.2.mono (aB ?_) (aB ?_) rfl rfl this.2.d1 this.2.d2⟩
   ·rcases hb with rfl | rfl | rfl | rfl <;> assumption
   ·rcases hb with rfl | rfl | rfl | rfl <;> assumption
theorem TabAt.clk (h:TabAt hp b0 D t) {g:Nat} {c:Ck} (hc:c.length=8):TabAt (up hp b0 (.cells (dS t.bs t.bo t.br (t.ck.set g c)))) b0 D { t with ck:=t.ck.set g c } :=
 ⟨bV,(aB h.n1.symm).trans h.hs,(aB h.n2.symm).trans h.ho,(aB h.n3.symm).trans h.hr,h.ck.set hc,h.dd,h.tg0,h.ow,h.oa,h.ok,h.rw,h.O6 (.inl rfl),h.rk⟩
theorem TabAt.stt (h:TabAt hp b0 D t) (s:TS) (N:Nat):TabAt (up hp t.bs (.ab (tsH s N))) b0 D { t with st:=s,sn:=N } :=
 ⟨(aB h.n1).trans h.h0,bV,(aB h.n4.symm).trans h.ho,(aB h.n5.symm).trans h.hr,h.ck,h.dd,h.tg0,h.ow,h.oa,h.ok,h.rw,h.O6 (.inr (.inl rfl)),h.rk⟩
def FH (f:Int→Int→Int→Option Ck) (k x y:Int) (c:Ck):Int→Int→Int→Option Ck:=fun k' x' y'=>if k'=k∧x'=x∧y'=y then some c else f k' x' y'
theorem TabAt.obj (h:TabAt hp b0 D t) {k x y:Int} {c:Ck} (hc:c.length=8) (hx:iY x) (hy:iY y):TabAt (up hp t.bo (.map 117 (dR t.es t.cl (fB k x y) (fU c)) (ckl t.es t.cl (fB k x y)))) b0 D { t with es:=dR t.es t.cl (fB k x y) (fU c),cl:=ckl t.es t.cl (fB k x y),f:=FH t.f k x y c }:=by
 refine ⟨(aB h.n2).trans h.h0,(aB h.n4).trans h.hs,bV,(aB h.n6.symm).trans h.hr,h.ck,h.dd,h.tg0,h.ow.put _ _,fun k' x' y'=>?_,fun e he=>?_,h.rw,h.O6 (.inr (.inr (.inl rfl))),h.rk⟩
 ·show match FH t.f k x y c k' x' y' with | none=>_ | some d=>_
  unfold FH
  by_cases he:k'=k∧x'=x∧y'=y
  ·rw [if_pos he];obtain ⟨rfl,rfl,rfl⟩:=he;refine ⟨hc,?_⟩
   show ∃ n,aS (dR _ _ _ _) _=_
   rw [oD]
   cases aS t.es (fB k' x' y') with
   | none=>exact ⟨_,rfl⟩
   | some r=>exact ⟨_,rfl⟩
  ·rw [if_neg he];have hne:fB k' x' y'≠fB k x y:=fun e=>he (MX.1 e)
   have:=h.oa k' x' y'
   cases hf:t.f k' x' y' with
   | none=>rw [hf] at this;show aS (dR _ _ _ _) _=none;rw [gU hne];exact this
   | some d=>rw [hf] at this;show _∧∃ n,aS (dR _ _ _ _) _=_;rw [gU hne];exact this
 ·have hm:e.1 ∈ (dR t.es t.cl (fB k x y) (fU c)).map (·.1):=List.mem_map.2 ⟨e,he,rfl⟩;rw [lZ] at hm
  have hold:e.1 ∈ t.es.map (·.1)→∃ k x y,e.1=fB k x y∧iY x∧iY y:=fun q=>by
   obtain ⟨e',he',hee⟩:=List.mem_map.1 q;obtain ⟨a,b,c,hh,h1,h2⟩:=h.ok e' he';exact ⟨a,b,c,hee.symm.trans hh,h1,h2⟩
  cases ha:aS t.es (fB k x y) with
  | none =>
    rw [ha] at hm
    rcases List.mem_append.1 hm with q | q
    ·exact hold q
    ·exact ⟨k,x,y,List.mem_singleton.1 q,hx,hy⟩
  | some r=>rw [ha] at hm;exact hold hm
def DJ (g:Int→Option (Nat×Nat×List Ck×List Ck)) (o:Int) (v:Nat×Nat×List Ck×List Ck):Int→Option (Nat×Nat×List Ck×List Ck):=fun o'=>if o'=o then some v else g o'
theorem TabAt.Ah (h:TabAt hp b0 D t) {o:Int} (hg:t.g o=none) {b1 b2 m:Nat} (hb1:¬ D b1) (hb2:¬ D b2) (hne:b1≠b2) (hm:0 < m) :
 TabAt (up (up (up hp b1 (.cells (bn (bD m)))) b2 (.cells (bn (bD m)))) t.br (.map 3 (dR t.rs t.rcl (.int .i64 o) (rgW b1 b2 m)) (t.rcl+1))) b0 (fun b=>D b∨b=b1∨b=b2)
  { t with rs:=dR t.rs t.rcl (.int .i64 o) (rgW b1 b2 m),rcl:=t.rcl+1,g:=DJ t.g o (b1,b2,bD m,bD m),tg:=up (up t.tg b1 (some (o,false))) b2 (some (o,true)) }:=by
 have nd:∀ b,D b→b≠b1∧b≠b2:=fun b hb=>⟨fun e=>hb1 (e ▸ hb),fun e=>hb2 (e ▸ hb)⟩
 have old:∀ b,D b→b≠t.br→up (up (up hp b1 (.cells (bn (bD m)))) b2 (.cells (bn (bD m)))) t.br (.map 3 (dR t.rs t.rcl (.int .i64 o) (rgW b1 b2 m)) (t.rcl+1)) b=hp b:=fun b hb hn=>by
  rw [aB hn,aB (nd b hb).2,aB (nd b hb).1]
 have tgo:∀ b,D b→up (up t.tg b1 (some (o,false))) b2 (some (o,true)) b=t.tg b:=fun b hb=>by rw [aB (nd b hb).2,aB (nd b hb).1]
 have hla:aS t.rs (.int .i64 o)=none:=by have:=h.ra o;rw [hg] at this;exact this
 have h8:∀ c ∈ bD m,c.length=8:=fun c hc=>by rw [List.eq_of_mem_replicate hc];rfl
 refine ⟨(old _ h.dd.1 h.n3).trans h.h0,(old _ h.dd.2.1 h.n5).trans h.hs,(old _ h.dd.2.2.1 h.n6).trans h.ho,bV,h.ck,⟨.inl h.dd.1,.inl h.dd.2.1,.inl h.dd.2.2.1,.inl h.dd.2.2.2⟩,(tgo _ h.dd.1).trans h.tg0,h.ow,h.oa,h.ok,?_,fun o'=>?_,fun e he=>?_⟩
 ·have:=h.rw.put (.int .i64 o) (rgW b1 b2 m);unfold ckl at this;rw [hla] at this;exact this
 ·dsimp only [DJ]
  by_cases he:o'=o
  ·rw [if_pos he];subst he;refine ⟨?_,⟨?_,?_,rfl,(by unfold bD;rw [List.length_replicate];exact hm),h8,h8,?_,?_,.inr (.inl rfl),.inr (.inr rfl)⟩⟩
   ·show ∃ n,aS (dR _ _ _ _) _=_
    rw [oD,hla];refine ⟨t.rcl,?_⟩;unfold bD;rw [List.length_replicate]
   ·rw [aB (fun e:b1=t.br=>hb1 (e ▸ h.dd.2.2.2)),aB hne,bV]
   ·rw [aB (fun e:b2=t.br=>hb2 (e ▸ h.dd.2.2.2)),bV]
   ·show up (up t.tg b1 _) b2 _ b1=_;rw [aB hne,bV]
   ·exact bV
  ·rw [if_neg he];have:=h.ra o';have hne':Value.int .i64 o'≠.int .i64 o:=fun e=>he (by injection e)
   cases hf:t.g o' with
   | none=>rw [hf] at this;show aS (dR _ _ _ _) _=none;rw [gU hne'];exact this
   | some p =>
     rw [hf] at this;obtain ⟨c1,c2,l1,l2⟩:=p;obtain ⟨⟨_,_,_,p4⟩,⟨_,_,_,p8⟩,_⟩:=h.rn hf;refine ⟨by show ∃ n,aS (dR _ _ _ _) _=_;rw [gU hne'];exact this.1,this.2.mono (old _ this.2.d1 p4) (old _ this.2.d2 p8) (tgo _ this.2.d1) (tgo _ this.2.d2) (.inl this.2.d1) (.inl this.2.d2)⟩
 ·have hm:e.1 ∈ (dR t.rs t.rcl (.int .i64 o) (rgW b1 b2 m)).map (·.1):=List.mem_map.2 ⟨e,he,rfl⟩;rw [lZ,hla] at hm
  rcases List.mem_append.1 hm with q | q
  ·obtain ⟨e',he',hee⟩:=List.mem_map.1 q;obtain ⟨a,hh⟩:=h.rk e' he';exact ⟨a,hee.symm.trans hh⟩
  ·exact ⟨o,List.mem_singleton.1 q⟩
theorem TabAt.wo (h:TabAt hp b0 D t) {o:Int} {b1 b2:Nat} {l1 l2:List Ck} (hg:t.g o=some (b1,b2,l1,l2)) {i:Nat} {c:Ck} (hc:c.length=8) :
 TabAt (up hp b1 (.cells (bn (l1.set i c)))) b0 D { t with g:=DJ t.g o (b1,b2,l1.set i c,l2) }∧TabAt (up hp b2 (.cells (bn (l2.set i c)))) b0 D { t with g:=DJ t.g o (b1,b2,l1,l2.set i c) }:=by
 obtain ⟨⟨p1,p2,p3,p4⟩,⟨p5,p6,p7,p8⟩,p9⟩:=h.rn hg;obtain ⟨⟨n,ha⟩,r⟩:=h.ring hg
 have h8:∀ {l:List Ck},(∀ c ∈ l,c.length=8)→∀ d ∈ l.set i c,d.length=8:=fun {l} hl d hd=>by
  rcases List.mem_or_eq_of_mem_set hd with q | q
  ·exact hl d q
  ·rw [q];exact hc
 have oth:∀ o' c1 c2 k1 k2,o'≠o→t.g o'=some (c1,c2,k1,k2)→c1≠b1∧c1≠b2∧c2≠b1∧c2≠b2:=fun o' c1 c2 k1 k2 hne hg'=>by
  obtain ⟨_,r'⟩:=h.ring hg';refine ⟨fun e=>?_,fun e=>?_,fun e=>?_,fun e=>?_⟩
  ·have:=r'.t1;rw [e,r.t1] at this;cases this;exact hne rfl
  ·have:=r'.t1;rw [e,r.t2] at this;cases this
  ·have:=r'.t2;rw [e,r.t1] at this;cases this
  ·have:=r'.t2;rw [e,r.t2] at this;cases this;exact hne rfl
 constructor
 ·refine ⟨(aB p1.symm).trans h.h0,(aB p2.symm).trans h.hs,(aB p3.symm).trans h.ho,(aB p4.symm).trans h.hr,h.ck,h.dd,h.tg0,h.ow,h.oa,h.ok,h.rw,fun o'=>?_,h.rk⟩;dsimp only [DJ]
  by_cases he:o'=o
  ·rw [if_pos he];subst he;exact ⟨⟨n,by rw [List.length_set];exact ha⟩,bV,(aB p9.symm).trans r.e2,by rw [List.length_set];exact r.len,by rw [List.length_set];exact r.pos,h8 r.c1,r.c2,r.t1,r.t2,r.d1,r.d2⟩
  ·rw [if_neg he];have:=h.ra o'
   cases hf:t.g o' with
   | none=>rw [hf] at this;exact this
   | some p =>
     rw [hf] at this;obtain ⟨c1,c2,k1,k2⟩:=p;obtain ⟨q1,q2,q3,q4⟩:=oth _ _ _ _ _ he hf;exact ⟨this.1,this.2.mono (aB q1) (aB q3) rfl rfl this.2.d1 this.2.d2⟩
 ·refine ⟨(aB p5.symm).trans h.h0,(aB p6.symm).trans h.hs,(aB p7.symm).trans h.ho,(aB p8.symm).trans h.hr,h.ck,h.dd,h.tg0,h.ow,h.oa,h.ok,h.rw,fun o'=>?_,h.rk⟩;dsimp only [DJ]
  by_cases he:o'=o
  ·rw [if_pos he];subst he;exact ⟨⟨n,ha⟩,(aB p9).trans r.e1,bV,by rw [List.length_set];exact r.len,r.pos,r.c1,h8 r.c2,r.t1,r.t2,r.d1,r.d2⟩
  ·rw [if_neg he];have:=h.ra o'
   cases hf:t.g o' with
   | none=>rw [hf] at this;exact this
   | some p =>
     rw [hf] at this;obtain ⟨c1,c2,k1,k2⟩:=p;obtain ⟨q1,q2,q3,q4⟩:=oth _ _ _ _ _ he hf;exact ⟨this.1,this.2.mono (aB q2) (aB q4) rfl rfl this.2.d1 this.2.d2⟩
end
end Go.Proofs.Ytffcpijeebagfaa
end
section
namespace Go.Proofs.Ytffcpijeebagfaa
open Go Go.RowKit
set_option maxRecDepth 100000
set_option maxHeartbeats 4000000
def Ac.row (a:Ac):List Dt:=a.cells.map .sc
def gG (xs:List Ac):List (List Dt):=xs.map Ac.row
theorem Ac.wu (a:Ac):a.row.length=11:=rfl
theorem NU {W:Wit} {w:World} {b:Nat} {xs:List Ac} (h:Gi W w b 133 11 (gG xs)) (hne:xs≠[]) :
 ∃ cap cur,W.nv b=.slice (some ⟨W.nm b,0,none⟩) xs.length cap∧w.heap[W.nm b]? = some (.cells cur 133 (0,0))∧xs.length≤cap∧cap≤maxLen∧cur.size=cap * 11∧jg w (W.nm b) 0 xs:=by
 obtain ⟨cs,h1,h2,h3,h4⟩:=h;have hl:(gG xs).length=xs.length:=List.length_map ..;have hp:0 < xs.length:=List.length_pos_iff.2 hne;obtain ⟨g,cap,cur,e1,_,e3,e4,e5,e6,e7⟩:=vT h1 (by omega)
 have hg:g=W.nm b:=by
  have:=h4 (fun e=>hne (List.map_eq_nil_iff.1 e));rw [e1] at this;exact Option.some.inj this
 subst hg;rw [hl] at e1 e4 e7;refine ⟨cap,cur,e1,e3,e4,e5,e6,fun t a ha j v hv=>?_⟩;have htl:=(List.getElem?_eq_some_iff.1 ha).1;have hjl:=(List.getElem?_eq_some_iff.1 hv).1;rw [a.gV] at hjl;obtain ⟨u,hu,hru⟩:=h3 t a.row j (.sc v) (by unfold gG;rw [List.getElem?_map,ha];rfl) (by unfold Ac.row;rw [List.getElem?_map,hv];rfl)
 obtain ⟨rfl,_⟩:=RD.gq hru;rw [cell_of_row _ _ _ _ _ _ e3];rw [←e7,List.getElem?_take] at hu;split at hu
 ·rw [Nat.zero_add,←Array.getElem?_toList];exact hu
 ·cases hu
theorem Nu {W:Wit} {w:World} {b cap:Nat} {cur:Array Value} {xs:List Ac} (e1:W.nv b=.slice (some ⟨W.nm b,0,none⟩) xs.length cap) (e3:w.heap[W.nm b]? = some (.cells cur 133 (0,0))) (e4:xs.length≤cap) (e5:cap≤maxLen) (e6:cur.size=cap * 11) (hr:jg w (W.nm b) 0 xs) :
 Gi W w b 133 11 (gG xs):=by
 have hl:(gG xs).length=xs.length:=List.length_map ..;refine ⟨cur.toList.take (xs.length * 11),⟨?_,.inr ⟨W.nm b,cap,cur,by rw [hl];exact e1,Nat.zero_le _,e3,by rw [hl];exact e4,e5,e6,by rw [hl]⟩⟩,fun r hrr=>?_,fun t r j x h1 h2=>?_,fun _=>by rw [e1];rfl⟩
 ·have hcl:cur.toList.length=cur.size:=Array.length_toList ..;have hx:xs.length * 11≤cur.toList.length:=by omega
  rw [hl,List.length_take];exact Nat.min_eq_left hx
 ·obtain ⟨a,_,rfl⟩:=List.mem_map.1 hrr;exact a.wu
 ·unfold gG at h1;rw [List.getElem?_map,Option.map_eq_some_iff] at h1;obtain ⟨a,ha,rfl⟩:=h1;unfold Ac.row at h2;rw [List.getElem?_map,Option.map_eq_some_iff] at h2;obtain ⟨v,hv,rfl⟩:=h2;have htl:=(List.getElem?_eq_some_iff.1 ha).1;have hjl:=(List.getElem?_eq_some_iff.1 hv).1;rw [a.gV] at hjl;have hc:=hr t a ha j v hv;rw [cell_of_row _ _ _ _ _ _ e3,Nat.zero_add] at hc;refine ⟨v,?_,RD.sc v (a.one v (List.mem_of_getElem? hv))⟩;rw [List.getElem?_take,if_pos (by omega),Array.getElem?_toList];exact hc
theorem TG {W:Wit} {w:World} {b:Nat} {ks:List Int} (h:RH W G0 O0 w b (.cells (ks.map hI))):w.rangeAt (W.nm b) 0 (G5 ks)∧(ks≠[]→W.nm b < w.heap.size):=by
 obtain ⟨arr,T,h1,h2,h3⟩:=h
 have hr:w.rangeAt (W.nm b) 0 (G5 ks):=fun j v hv=>by
  unfold G5 at hv;rw [List.getElem?_map,Option.map_eq_some_iff] at hv;obtain ⟨k,hk,rfl⟩:=hv;have hjl:=(List.getElem?_eq_some_iff.1 hk).1;have hal:j < arr.toList.length:=by rw [←h2];simpa using hjl
  have:=h3 j (.d (.sc (.int .i64 k))) _ (by rw [List.getElem?_map,List.getElem?_map,hk];rfl) (List.getElem?_eq_getElem hal)
  obtain ⟨e,_⟩:=RD.gq this;rw [Nat.zero_add,cell_of_row _ _ _ _ _ _ h1,←Array.getElem?_toList,List.getElem?_eq_getElem hal,e]
 refine ⟨hr,fun _=>?_⟩
 rcases Nat.lt_or_ge (W.nm b) w.heap.size with q | q
 ·exact q
 ·rw [Array.getElem?_eq_none q] at h1;cases h1
abbrev DL (xs:List Ac):Hb:=.vec 133 11 (gG xs)
def OX (hp:Nat→Hb) (az:List Hw) (hp':Nat→Hb) (rs:List Hw):Prop:=∃ (b bk b2:Nat) (xs:List Ac) (ks:List Int),
 az=[.one (.h (.v b)),.one (.h (.f 110 [] [(bk,0)]))]∧(hp b=DL xs∧hp bk=.cells (ks.map hI)∧hp b2=.no)∧(ks.length=8∧xs≠[]∧xs.length≤1000000∧∀ a ∈ xs,NW a)∧hp'=up (up hp b .dead) b2 (DL (gu ks xs))∧rs=[.one (.h (.v b2))]
theorem Vo [dH]:iF Try.prog 109 OX:=by
 rintro hp az hp' rs ⟨b,bk,b2,xs,ks,rfl,⟨hb,hbk,hb2⟩,⟨hk8,hne,hlen,hin⟩,rfl,rfl⟩ W w vals _ hrp hvals;have ab:=hrp.at_ b;rw [hb] at ab;have ak:=hrp.at_ bk;rw [hbk] at ak;obtain ⟨cap,cur,e1,e3,e4,e5,e6,hr⟩:=NU ab hne;obtain ⟨k1,k2⟩:=TG ak;have k3:=k2 (fun e=>by rw [e] at hk8;cases hk8)
 have hcb:hcl W b (hp b) (W.nm b):=by rw [hb];show (W.nv b).ownBlock=_;rw [e1];rfl
 have hck:hcl W bk (hp bk) (W.nm bk):=by rw [hbk];rfl
 have hbb:W.nm bk≠W.nm b:=fun e=>by
  have:=hrp.ex bk b _ hck (e ▸ hcb);rw [this,hb] at hbk;cases hbk
 have hva:vals=#[W.nv b,.func (.func 110) #[] #[.pointer (some ⟨W.nm bk,0,none⟩)]]:=by
  obtain ⟨q1,q2⟩:=hvals;have hs:vals.size=2:=q1.symm;have v0:=(q2 0 _ _ rfl (Array.getElem?_eq_getElem (by omega:0 < vals.size))).1;have v1:=(q2 1 _ _ rfl (Array.getElem?_eq_getElem (by omega:1 < vals.size))).1
  apply Array.ext
  ·exact hs
  ·intro i h1 h2
   match i,h2 with
   | 0,_=>exact v0
   | 1,_=>exact v1
 rw [hva,e1];refine (del_walk w cur e3 e6 e4 hr k1 hk8 hin hlen hbb k3).mono ?_;rintro e w' ⟨rfl,D⟩;obtain ⟨cur',f1,f2⟩:=D.row
 have low:jg w' (W.nm b) 0 (gu ks xs):=by
  have:=D.low;rw [List.take_length] at this;exact this
 have hkl:(gu ks xs).length≤xs.length:=List.length_filter_le _ _;have hS0:W.S (W.nm b)=0:=(hrp.mine b _ hcb).1
 have hdead:RHp W w (up hp b .dead):=hrp.dead fun m=>by
  by_cases hm:m=b
  ·subst hm;rw [bV,hb];exact .inr ⟨rfl,by simp⟩
  ·rw [aB hm];exact .inl rfl
 have hnl:¬ W.lv b2:=fun q=>(hrp.lv b2).1 q hb2
 have hnb:b2≠b:=fun e=>by rw [e,hb] at hb2;cases hb2
 have hne2:∀ m,W.lv m→m≠b2:=fun m hm e=>hnl (e ▸ hm)
 obtain ⟨W',hW'⟩:∃ W':Wit,{ W with nm:=up W.nm b2 (W.nm b),nv:=up W.nv b2 (.slice (some ⟨W.nm b,0,none⟩) (gu ks xs).length cap),lv:=fun m=>m=b2∨W.lv m }=W':=⟨_,rfl⟩
 have w1:W'.S=W.S:=by rw [←hW']
 have w2:W'.nm b2=W.nm b:=by rw [←hW'];exact bV
 have w3:W'.nv b2=.slice (some ⟨W.nm b,0,none⟩) (gu ks xs).length cap:=by rw [←hW'];exact bV
 have w4:W'.hf=W.hf:=by rw [←hW']
 have hnm:∀ m,W.lv m→W'.lv m∧W'.nm m=W.nm m∧W'.nv m=W.nv m:=fun m hm=>by
  rw [←hW'];exact ⟨.inr hm,aB (hne2 m hm),aB (hne2 m hm)⟩
 have hfol:Fol W G0 O0 w W' G0 O0 w':=⟨by rw [w1];exact zS D.but (fun k hk=>by rw [hk];exact hS0) (fun _ _=>rfl),fun _=>Nat.le_refl _,fun _ _=>by rw [←hW'],fun o E sz n' _ ho=>(by cases ho),fun _ _=>by rw [←hW'],hnm,by rw [←hW']⟩
 have hown:∀ m k,m≠b→hcl W m (hp m) k→k≠W.nm b:=fun m k hm hk e=>hm (hrp.ex m b _ hk (e ▸ hcb))
 have hcd:∀ m k,hcl W m (up hp b .dead m) k→m≠b∧hcl W m (hp m) k:=fun m k hk=>by
  by_cases hm:m=b
  ·subst hm;rw [bV] at hk;exact hk.elim
  ·rw [aB hm] at hk;exact ⟨hm,hk⟩
 have hrp':RHp W' w' (up (up hp b .dead) b2 (DL (gu ks xs))):=by
  refine hdead.upd hfol (by simp) (fun m=>by rw [←hW']) (fun m _=>by rw [w4]) (fun k _=>by rw [w1]) D.but.size (fun m hm k hk=>?_) ?_ (fun k hk=>?_)
  ·obtain ⟨q1,q2⟩:=hcd m k hk;exact D.but.block k (hrp.mine m k q2).2 (hown m k q1 q2)
  ·refine Nu (cap:=cap) (cur:=cur') (by rw [w2];exact w3) (by rw [w2];exact f1) (by omega) e5 (by rw [f2];exact e6) (by rw [w2];exact low)
  ·have hk':(W'.nv b2).ownBlock=some k:=hk;rw [w3] at hk';cases hk';refine ⟨by rw [w1];exact hS0,Nat.lt_of_lt_of_le (hrp.mine b _ hcb).2 D.but.size,fun m hm hk2=>?_⟩
   obtain ⟨q1,q2⟩:=hcd m _ hk2;exact hown m _ q1 q2 rfl
 refine ⟨_,W',rfl,⟨w3.symm,rfl,by rw [←hW'];exact .inl rfl⟩,hrp',hnm,⟨D.but.os,D.but.tape,D.but.output,D.but.size,fun k hk hn=>D.but.block k hk (fun e=>hn ⟨b,by rw [e];exact hcb⟩)⟩,fun k ⟨m,hm⟩=>?_,fun k _=>by rw [w1]⟩
 by_cases hmb:m=b2
 ·subst hmb;rw [bV] at hm;have hm':(W'.nv m).ownBlock=some k:=hm;rw [w3] at hm';cases hm';exact .inl ⟨b,hcb⟩
 ·rw [aB hmb] at hm;have:=(hcl.fol hfol (fun hne=>(hdead.lv m).2 hne) (by rw [w4]) k).1 hm;exact .inl ⟨m,(hcd m k this).2⟩
def Runs (env:Env) (n:Nat) (pc:PC) (pr:List PR) (hp:Nat→Hb) (az:List Hw) (hp':Nat→Hb) (rs:List Hw):Prop:=az.length≤n∧∃ nc,pwp env pc (fun e s=>(e=.normal∨e=.ret)∧s.iw pr=some rs∧s.hb=hp') (St.gB nc hp az)
def evW (e:Ev):Hw:=jr e.pa
def GJ:Env:=h1 107 Oe (h1 80 FN e0)
theorem II:aG Try.prog GJ:=.h1 Us (.h1 OQ .e0)
def lC:(Nat→Hb)→List Hw→(Nat→Hb)→List Hw→Prop:=Runs GJ ntt81 pct81 prt81
theorem Vp:iF Try.prog 81 lC:=spt81 II (fun _ _ _ _ h=>h)
structure kF (e:Ev):Prop where
 g:0≤e.g∧e.g < 8
 obj:iY e.obj
 off:iY e.off
 k:0≤e.k∧e.k≤2147483647
 n:0≤e.n∧e.n≤64
 kg:e.kind=14→e.k < 8
def dQ (hp:Nat→Hb) (N b0:Nat) (e:Ev) (c:Ck):Nat→Hb:=up (up (up hp (N+4) (.cells [.h (.p b0 0)])) (N+6) (.cells [hI e.obj,hI e.off])) (N+7) (.cells (ckH c))
def jd (b0:Nat) (e:Ev) (c:Ck):List Hw:=[hP b0 0,evW e,.agg [hI e.obj,hI e.off],fU c]
section
variable {hp:Nat→Hb} {b0 N:Nat} {D:Nat→Prop} {t:mV} {e:Ev} {c:Ck}
theorem bY {b:Nat} (h:b < N):dQ hp N b0 e c b=hp b:=by
 unfold dQ;rw [aB (by omega),aB (by omega),aB (by omega)]
theorem su:dQ hp N b0 e c (N+4)=.cells [.h (.p b0 0)]:=by unfold dQ;rw [aB (by omega),aB (by omega),bV]
theorem sw:dQ hp N b0 e c (N+6)=.cells [hI e.obj,hI e.off]:=by unfold dQ;rw [aB (by omega),bV]
theorem sD:dQ hp N b0 e c (N+7)=.cells (ckH c):=by unfold dQ;rw [bV]
theorem kZ (hN:Free hp N):Free (dQ hp N b0 e c) (N+8):=fun b hb=>by
 unfold dQ;rw [aB (by omega),aB (by omega),aB (by omega)];exact hN b (by omega)
theorem Uh (h:TabAt hp b0 D t) (hN:Free hp N) (hc:c.length=8) (he:kF e) (hk:e.kind=14):lC hp (jd b0 e c) (up (dQ hp N b0 e c) b0 (.cells (dS t.bs t.bo t.br (t.ck.set e.k.toNat c)))) []:=by
 have k14:(e.kind == 14)=true:=by rw [hk];rfl
 have k7:(e.kind == 7)=false:=by rw [hk];rfl
 have k9:(e.kind == 9)=false:=by rw [hk];rfl
 have k10:(e.kind == 10)=false:=by rw [hk];rfl
 have k12:(e.kind == 12)=false:=by rw [hk];rfl
 have k19:(e.kind == 19)=false:=by rw [hk];rfl
 have k4:(e.kind == 4)=false:=by rw [hk];rfl
 have k5:(e.kind == 5)=false:=by rw [hk];rfl
 have k15:(e.kind == 15)=false:=by rw [hk];rfl
 have k17:(e.kind == 17)=false:=by rw [hk];rfl
 obtain ⟨nc,hnc⟩:∃ nc,nc=ncN N:=⟨_,rfl⟩
 have l0:b0 < N:=hN.lt (by rw [h.h0];simp)
 have lo:t.bo < N:=hN.lt (by rw [h.ho];simp)
 have lr:t.br < N:=hN.lt (by rw [h.hr];simp)
 have n4:nc (N+4)=5:=by rw [hnc];exact aP
 have n6:nc (N+6)=7:=by rw [hnc];exact aP
 have n7:nc (N+7)=8:=by rw [hnc];exact aP
 have nb:nc b0=1000:=by rw [hnc];exact aU l0
 have no:nc t.bo=1000:=by rw [hnc];exact aU lo
 have nr:nc t.br=1000:=by rw [hnc];exact aU lr
 have b4:b0≠N+4:=by omega
 have b6:b0≠N+6:=by omega
 have b7:b0≠N+7:=by omega
 have o4:t.bo≠N+4:=by omega
 have o6:t.bo≠N+6:=by omega
 have o7:t.bo≠N+7:=by omega
 have h0:=h.h0;have ho:=h.ho;have hr:=h.hr;have t65:(dS t.bs t.bo t.br t.ck)[65]? = some (.h (.m t.bo)):=iL h.ck;have t66:(dS t.bs t.bo t.br t.ck)[66]? = some (.h (.m t.br)):=fV h.ck;obtain ⟨l1,l2⟩:=nP hc;have l3:(aK c).length=8:=by rw [aJ,hc]
 refine ⟨by simp [jd,ntt81],nc,?_⟩;unfold pct81;refine aH ?_;simp only [↓evP,evB,stB,seval,jd,evW,jr,Ev.pa,Ev.row];refine aY (cs:=[.hv (.p b0 0)]) (hs:=[.h (.p b0 0)]) (N+4) (bG (by simp only [stB,seval,n4]) (by (repeat' (first | exact aF.init | assumption | (refine aF.ap ?_ rfl)))) (by simp only [stB,seval];exact hN.at_ 4)) (by simp only [stB,seval]) (by simp only [stB,seval]) ?_
 simp only [evB,stB,reduceIte,seval];refine aY (cs:=[.d (dI e.obj),.d (dI e.off)]) (hs:=[hI e.obj,hI e.off]) (N+6) (bG (by simp only [stB,seval,n6]) (by (repeat' (first | exact aF.init | assumption | (refine aF.ap ?_ rfl)))) (by simp only [stB,reduceIte,seval,n4,Nat.add_left_cancel_iff];exact hN.at_ 6)) (by simp only [stB,reduceIte,seval]) (by simp only [stB,seval]) ?_
 simp only [evB,stB,seval];refine aY (cs:=aK c) (hs:=ckH c) (N+7) (bG (by simp only [stB,seval,n7]) (by (repeat' (first | exact aF.init | assumption | (refine aF.ap ?_ rfl)))) (by simp only [stB,reduceIte,seval,n4,n6,Nat.add_left_cancel_iff];exact hN.at_ 7)) (by simp only [stB,reduceIte,seval,fU,bW]) (by exact aV c) ?_
 have e8:=he.kg hk;have q0:=he.k.1;have q8:e.k < ((8:Nat):Int):=e8;have tl:1+e.k.toNat * 8+8≤(dS t.bs t.bo t.br t.ck).length:=by rw [rR h.ck];omega
 have ts:eU (dS t.bs t.bo t.br t.ck) (1+e.k.toNat * 8) (ckH c)=dS t.bs t.bo t.br (t.ck.set e.k.toNat c):=DC h.ck (by omega) hc;simp only [↓evP,evB,stB,reduceIte,reduceCtorEq,seval,k14,k7,k9,k10,k12,k19,k4,k5,k15,k17,n4,n6,n7,nb,no,b4,b6,b7,o4,o6,o7,h0,ho,t65,Nat.add_left_cancel_iff,q0,e8,tl,ts,bW,l2,l3,aV,dQ,prt81];exact (by unfold Drw;refine Eq.trans (b:=true) ?_ rfl;kernel_rfl)
theorem Vj (h:TabAt hp b0 D t) (hN:Free hp N) (hc:c.length=8) (he:kF e) (hk:e.kind=7) {d:Ck} (hd:OAt t.es (fB 0 e.obj e.off) d∧d.length=8):lC hp (jd b0 e c) (up (dQ hp N b0 e c) t.bo (.map 117 (dR t.es t.cl (fB 0 e.obj e.off) (fU (aQ d c))) (ckl t.es t.cl (fB 0 e.obj e.off)))) []:=by
 have k14:(e.kind == 14)=false:=by rw [hk];rfl
 have k7:(e.kind == 7)=true:=by rw [hk];rfl
 have k9:(e.kind == 9)=false:=by rw [hk];rfl
 have k10:(e.kind == 10)=false:=by rw [hk];rfl
 have k12:(e.kind == 12)=false:=by rw [hk];rfl
 have k19:(e.kind == 19)=false:=by rw [hk];rfl
 have k4:(e.kind == 4)=false:=by rw [hk];rfl
 have k5:(e.kind == 5)=false:=by rw [hk];rfl
 have k15:(e.kind == 15)=false:=by rw [hk];rfl
 have k17:(e.kind == 17)=false:=by rw [hk];rfl
 obtain ⟨nc,hnc⟩:∃ nc,nc=ncN N:=⟨_,rfl⟩
 have l0:b0 < N:=hN.lt (by rw [h.h0];simp)
 have lo:t.bo < N:=hN.lt (by rw [h.ho];simp)
 have lr:t.br < N:=hN.lt (by rw [h.hr];simp)
 have n4:nc (N+4)=5:=by rw [hnc];exact aP
 have n6:nc (N+6)=7:=by rw [hnc];exact aP
 have n7:nc (N+7)=8:=by rw [hnc];exact aP
 have nb:nc b0=1000:=by rw [hnc];exact aU l0
 have no:nc t.bo=1000:=by rw [hnc];exact aU lo
 have nr:nc t.br=1000:=by rw [hnc];exact aU lr
 have b4:b0≠N+4:=by omega
 have b6:b0≠N+6:=by omega
 have b7:b0≠N+7:=by omega
 have o4:t.bo≠N+4:=by omega
 have o6:t.bo≠N+6:=by omega
 have o7:t.bo≠N+7:=by omega
 have h0:=h.h0;have ho:=h.ho;have hr:=h.hr;have t65:(dS t.bs t.bo t.br t.ck)[65]? = some (.h (.m t.bo)):=iL h.ck;have t66:(dS t.bs t.bo t.br t.ck)[66]? = some (.h (.m t.br)):=fV h.ck;obtain ⟨l1,l2⟩:=nP hc;have l3:(aK c).length=8:=by rw [aJ,hc]
 refine ⟨by simp [jd,ntt81],nc,?_⟩;unfold pct81;refine aH ?_;simp only [↓evP,evB,stB,seval,jd,evW,jr,Ev.pa,Ev.row];refine aY (cs:=[.hv (.p b0 0)]) (hs:=[.h (.p b0 0)]) (N+4) (bG (by simp only [stB,seval,n4]) (by (repeat' (first | exact aF.init | assumption | (refine aF.ap ?_ rfl)))) (by simp only [stB,seval];exact hN.at_ 4)) (by simp only [stB,seval]) (by simp only [stB,seval]) ?_
 simp only [evB,stB,reduceIte,seval];refine aY (cs:=[.d (dI e.obj),.d (dI e.off)]) (hs:=[hI e.obj,hI e.off]) (N+6) (bG (by simp only [stB,seval,n6]) (by (repeat' (first | exact aF.init | assumption | (refine aF.ap ?_ rfl)))) (by simp only [stB,reduceIte,seval,n4,Nat.add_left_cancel_iff];exact hN.at_ 6)) (by simp only [stB,reduceIte,seval]) (by simp only [stB,seval]) ?_
 simp only [evB,stB,seval];refine aY (cs:=aK c) (hs:=ckH c) (N+7) (bG (by simp only [stB,seval,n7]) (by (repeat' (first | exact aF.init | assumption | (refine aF.ap ?_ rfl)))) (by simp only [stB,reduceIte,seval,n4,n6,Nat.add_left_cancel_iff];exact hN.at_ 7)) (by simp only [stB,reduceIte,seval,fU,bW]) (by exact aV c) ?_
 have hx:=he.obj;have hy:=he.off;simp only [↓evP,evB,stB,reduceIte,reduceCtorEq,seval,k14,k7,k9,k10,k12,k19,k4,k5,k15,k17,n4,n6,n7,nb,b4,b6,b7,h0,t65,Nat.add_left_cancel_iff];refine aN (up (dQ hp N b0 e c) t.bo (.map 117 (dR t.es t.cl (fB 0 e.obj e.off) (fU (aQ d c))) (ckl t.es t.cl (fB 0 e.obj e.off)))) [] ?_ ?_
 ·simp only [stB,seval,n4,n6,n7];exact ⟨0,e.obj,e.off,N+7,N+4,N+6,b0,t.bo,dS t.bs t.bo t.br t.ck,t.es,t.cl,c,d,rfl,⟨sD,hc,su,sw,(bY l0).trans h0,t65,(bY lo).trans ho⟩,⟨⟨by decide,by decide⟩,hx,hy⟩,hd,rfl,rfl⟩
 ·simp only [evB,stB,reduceCtorEq,seval,prt81]
theorem Vk (h:TabAt hp b0 D t) (hN:Free hp N) (hc:c.length=8) (he:kF e) (hk:e.kind=9) {d:Ck} (hd:OAt t.es (fB 1 e.obj e.off) d∧d.length=8):lC hp (jd b0 e c) (up (dQ hp N b0 e c) t.bo (.map 117 (dR t.es t.cl (fB 1 e.obj e.off) (fU (aQ d c))) (ckl t.es t.cl (fB 1 e.obj e.off)))) []:=by
 have k14:(e.kind == 14)=false:=by rw [hk];rfl
 have k7:(e.kind == 7)=false:=by rw [hk];rfl
 have k9:(e.kind == 9)=true:=by rw [hk];rfl
 have k10:(e.kind == 10)=false:=by rw [hk];rfl
 have k12:(e.kind == 12)=false:=by rw [hk];rfl
 have k19:(e.kind == 19)=false:=by rw [hk];rfl
 have k4:(e.kind == 4)=false:=by rw [hk];rfl
 have k5:(e.kind == 5)=false:=by rw [hk];rfl
 have k15:(e.kind == 15)=false:=by rw [hk];rfl
 have k17:(e.kind == 17)=false:=by rw [hk];rfl
 obtain ⟨nc,hnc⟩:∃ nc,nc=ncN N:=⟨_,rfl⟩
 have l0:b0 < N:=hN.lt (by rw [h.h0];simp)
 have lo:t.bo < N:=hN.lt (by rw [h.ho];simp)
 have lr:t.br < N:=hN.lt (by rw [h.hr];simp)
 have n4:nc (N+4)=5:=by rw [hnc];exact aP
 have n6:nc (N+6)=7:=by rw [hnc];exact aP
 have n7:nc (N+7)=8:=by rw [hnc];exact aP
 have nb:nc b0=1000:=by rw [hnc];exact aU l0
 have no:nc t.bo=1000:=by rw [hnc];exact aU lo
 have nr:nc t.br=1000:=by rw [hnc];exact aU lr
 have b4:b0≠N+4:=by omega
 have b6:b0≠N+6:=by omega
 have b7:b0≠N+7:=by omega
 have o4:t.bo≠N+4:=by omega
 have o6:t.bo≠N+6:=by omega
 have o7:t.bo≠N+7:=by omega
 have h0:=h.h0;have ho:=h.ho;have hr:=h.hr;have t65:(dS t.bs t.bo t.br t.ck)[65]? = some (.h (.m t.bo)):=iL h.ck;have t66:(dS t.bs t.bo t.br t.ck)[66]? = some (.h (.m t.br)):=fV h.ck;obtain ⟨l1,l2⟩:=nP hc;have l3:(aK c).length=8:=by rw [aJ,hc]
 refine ⟨by simp [jd,ntt81],nc,?_⟩;unfold pct81;refine aH ?_;simp only [↓evP,evB,stB,seval,jd,evW,jr,Ev.pa,Ev.row];refine aY (cs:=[.hv (.p b0 0)]) (hs:=[.h (.p b0 0)]) (N+4) (bG (by simp only [stB,seval,n4]) (by (repeat' (first | exact aF.init | assumption | (refine aF.ap ?_ rfl)))) (by simp only [stB,seval];exact hN.at_ 4)) (by simp only [stB,seval]) (by simp only [stB,seval]) ?_
 simp only [evB,stB,reduceIte,seval];refine aY (cs:=[.d (dI e.obj),.d (dI e.off)]) (hs:=[hI e.obj,hI e.off]) (N+6) (bG (by simp only [stB,seval,n6]) (by (repeat' (first | exact aF.init | assumption | (refine aF.ap ?_ rfl)))) (by simp only [stB,reduceIte,seval,n4,Nat.add_left_cancel_iff];exact hN.at_ 6)) (by simp only [stB,reduceIte,seval]) (by simp only [stB,seval]) ?_
 simp only [evB,stB,seval];refine aY (cs:=aK c) (hs:=ckH c) (N+7) (bG (by simp only [stB,seval,n7]) (by (repeat' (first | exact aF.init | assumption | (refine aF.ap ?_ rfl)))) (by simp only [stB,reduceIte,seval,n4,n6,Nat.add_left_cancel_iff];exact hN.at_ 7)) (by simp only [stB,reduceIte,seval,fU,bW]) (by exact aV c) ?_
 have hx:=he.obj;have hy:=he.off;simp only [↓evP,evB,stB,reduceIte,reduceCtorEq,seval,k14,k7,k9,k10,k12,k19,k4,k5,k15,k17,n4,n6,n7,nb,b4,b6,b7,h0,t65,Nat.add_left_cancel_iff];refine aN (up (dQ hp N b0 e c) t.bo (.map 117 (dR t.es t.cl (fB 1 e.obj e.off) (fU (aQ d c))) (ckl t.es t.cl (fB 1 e.obj e.off)))) [] ?_ ?_
 ·simp only [stB,seval,n4,n6,n7];exact ⟨1,e.obj,e.off,N+7,N+4,N+6,b0,t.bo,dS t.bs t.bo t.br t.ck,t.es,t.cl,c,d,rfl,⟨sD,hc,su,sw,(bY l0).trans h0,t65,(bY lo).trans ho⟩,⟨⟨by decide,by decide⟩,hx,hy⟩,hd,rfl,rfl⟩
 ·simp only [evB,stB,reduceCtorEq,seval,prt81]
theorem Uf (h:TabAt hp b0 D t) (hN:Free hp N) (hc:c.length=8) (he:kF e) (hk:e.kind=10) {d:Ck} (hd:OAt t.es (fB 2 e.obj e.off) d∧d.length=8):lC hp (jd b0 e c) (up (dQ hp N b0 e c) t.bo (.map 117 (dR t.es t.cl (fB 2 e.obj e.off) (fU (aQ d c))) (ckl t.es t.cl (fB 2 e.obj e.off)))) []:=by
 have k14:(e.kind == 14)=false:=by rw [hk];rfl
 have k7:(e.kind == 7)=false:=by rw [hk];rfl
 have k9:(e.kind == 9)=false:=by rw [hk];rfl
 have k10:(e.kind == 10)=true:=by rw [hk];rfl
 have k12:(e.kind == 12)=false:=by rw [hk];rfl
 have k19:(e.kind == 19)=false:=by rw [hk];rfl
 have k4:(e.kind == 4)=false:=by rw [hk];rfl
 have k5:(e.kind == 5)=false:=by rw [hk];rfl
 have k15:(e.kind == 15)=false:=by rw [hk];rfl
 have k17:(e.kind == 17)=false:=by rw [hk];rfl
 obtain ⟨nc,hnc⟩:∃ nc,nc=ncN N:=⟨_,rfl⟩
 have l0:b0 < N:=hN.lt (by rw [h.h0];simp)
 have lo:t.bo < N:=hN.lt (by rw [h.ho];simp)
 have lr:t.br < N:=hN.lt (by rw [h.hr];simp)
 have n4:nc (N+4)=5:=by rw [hnc];exact aP
 have n6:nc (N+6)=7:=by rw [hnc];exact aP
 have n7:nc (N+7)=8:=by rw [hnc];exact aP
 have nb:nc b0=1000:=by rw [hnc];exact aU l0
 have no:nc t.bo=1000:=by rw [hnc];exact aU lo
 have nr:nc t.br=1000:=by rw [hnc];exact aU lr
 have b4:b0≠N+4:=by omega
 have b6:b0≠N+6:=by omega
 have b7:b0≠N+7:=by omega
 have o4:t.bo≠N+4:=by omega
 have o6:t.bo≠N+6:=by omega
 have o7:t.bo≠N+7:=by omega
 have h0:=h.h0;have ho:=h.ho;have hr:=h.hr;have t65:(dS t.bs t.bo t.br t.ck)[65]? = some (.h (.m t.bo)):=iL h.ck;have t66:(dS t.bs t.bo t.br t.ck)[66]? = some (.h (.m t.br)):=fV h.ck;obtain ⟨l1,l2⟩:=nP hc;have l3:(aK c).length=8:=by rw [aJ,hc]
 refine ⟨by simp [jd,ntt81],nc,?_⟩;unfold pct81;refine aH ?_;simp only [↓evP,evB,stB,seval,jd,evW,jr,Ev.pa,Ev.row];refine aY (cs:=[.hv (.p b0 0)]) (hs:=[.h (.p b0 0)]) (N+4) (bG (by simp only [stB,seval,n4]) (by (repeat' (first | exact aF.init | assumption | (refine aF.ap ?_ rfl)))) (by simp only [stB,seval];exact hN.at_ 4)) (by simp only [stB,seval]) (by simp only [stB,seval]) ?_
 simp only [evB,stB,reduceIte,seval];refine aY (cs:=[.d (dI e.obj),.d (dI e.off)]) (hs:=[hI e.obj,hI e.off]) (N+6) (bG (by simp only [stB,seval,n6]) (by (repeat' (first | exact aF.init | assumption | (refine aF.ap ?_ rfl)))) (by simp only [stB,reduceIte,seval,n4,Nat.add_left_cancel_iff];exact hN.at_ 6)) (by simp only [stB,reduceIte,seval]) (by simp only [stB,seval]) ?_
 simp only [evB,stB,seval];refine aY (cs:=aK c) (hs:=ckH c) (N+7) (bG (by simp only [stB,seval,n7]) (by (repeat' (first | exact aF.init | assumption | (refine aF.ap ?_ rfl)))) (by simp only [stB,reduceIte,seval,n4,n6,Nat.add_left_cancel_iff];exact hN.at_ 7)) (by simp only [stB,reduceIte,seval,fU,bW]) (by exact aV c) ?_
 have hx:=he.obj;have hy:=he.off;simp only [↓evP,evB,stB,reduceIte,reduceCtorEq,seval,k14,k7,k9,k10,k12,k19,k4,k5,k15,k17,n4,n6,n7,nb,b4,b6,b7,h0,t65,Nat.add_left_cancel_iff];refine aN (up (dQ hp N b0 e c) t.bo (.map 117 (dR t.es t.cl (fB 2 e.obj e.off) (fU (aQ d c))) (ckl t.es t.cl (fB 2 e.obj e.off)))) [] ?_ ?_
 ·simp only [stB,seval,n4,n6,n7];exact ⟨2,e.obj,e.off,N+7,N+4,N+6,b0,t.bo,dS t.bs t.bo t.br t.ck,t.es,t.cl,c,d,rfl,⟨sD,hc,su,sw,(bY l0).trans h0,t65,(bY lo).trans ho⟩,⟨⟨by decide,by decide⟩,hx,hy⟩,hd,rfl,rfl⟩
 ·simp only [evB,stB,reduceCtorEq,seval,prt81]
theorem Ug (h:TabAt hp b0 D t) (hN:Free hp N) (hc:c.length=8) (he:kF e) (hk:e.kind=12) {d:Ck} (hd:OAt t.es (fB 3 e.obj e.off) d∧d.length=8):lC hp (jd b0 e c) (up (dQ hp N b0 e c) t.bo (.map 117 (dR t.es t.cl (fB 3 e.obj e.off) (fU (aQ d c))) (ckl t.es t.cl (fB 3 e.obj e.off)))) []:=by
 have k14:(e.kind == 14)=false:=by rw [hk];rfl
 have k7:(e.kind == 7)=false:=by rw [hk];rfl
 have k9:(e.kind == 9)=false:=by rw [hk];rfl
 have k10:(e.kind == 10)=false:=by rw [hk];rfl
 have k12:(e.kind == 12)=true:=by rw [hk];rfl
 have k19:(e.kind == 19)=false:=by rw [hk];rfl
 have k4:(e.kind == 4)=false:=by rw [hk];rfl
 have k5:(e.kind == 5)=false:=by rw [hk];rfl
 have k15:(e.kind == 15)=false:=by rw [hk];rfl
 have k17:(e.kind == 17)=false:=by rw [hk];rfl
 obtain ⟨nc,hnc⟩:∃ nc,nc=ncN N:=⟨_,rfl⟩
 have l0:b0 < N:=hN.lt (by rw [h.h0];simp)
 have lo:t.bo < N:=hN.lt (by rw [h.ho];simp)
 have lr:t.br < N:=hN.lt (by rw [h.hr];simp)
 have n4:nc (N+4)=5:=by rw [hnc];exact aP
 have n6:nc (N+6)=7:=by rw [hnc];exact aP
 have n7:nc (N+7)=8:=by rw [hnc];exact aP
 have nb:nc b0=1000:=by rw [hnc];exact aU l0
 have no:nc t.bo=1000:=by rw [hnc];exact aU lo
 have nr:nc t.br=1000:=by rw [hnc];exact aU lr
 have b4:b0≠N+4:=by omega
 have b6:b0≠N+6:=by omega
 have b7:b0≠N+7:=by omega
 have o4:t.bo≠N+4:=by omega
 have o6:t.bo≠N+6:=by omega
 have o7:t.bo≠N+7:=by omega
 have h0:=h.h0;have ho:=h.ho;have hr:=h.hr;have t65:(dS t.bs t.bo t.br t.ck)[65]? = some (.h (.m t.bo)):=iL h.ck;have t66:(dS t.bs t.bo t.br t.ck)[66]? = some (.h (.m t.br)):=fV h.ck;obtain ⟨l1,l2⟩:=nP hc;have l3:(aK c).length=8:=by rw [aJ,hc]
 refine ⟨by simp [jd,ntt81],nc,?_⟩;unfold pct81;refine aH ?_;simp only [↓evP,evB,stB,seval,jd,evW,jr,Ev.pa,Ev.row];refine aY (cs:=[.hv (.p b0 0)]) (hs:=[.h (.p b0 0)]) (N+4) (bG (by simp only [stB,seval,n4]) (by (repeat' (first | exact aF.init | assumption | (refine aF.ap ?_ rfl)))) (by simp only [stB,seval];exact hN.at_ 4)) (by simp only [stB,seval]) (by simp only [stB,seval]) ?_
 simp only [evB,stB,reduceIte,seval];refine aY (cs:=[.d (dI e.obj),.d (dI e.off)]) (hs:=[hI e.obj,hI e.off]) (N+6) (bG (by simp only [stB,seval,n6]) (by (repeat' (first | exact aF.init | assumption | (refine aF.ap ?_ rfl)))) (by simp only [stB,reduceIte,seval,n4,Nat.add_left_cancel_iff];exact hN.at_ 6)) (by simp only [stB,reduceIte,seval]) (by simp only [stB,seval]) ?_
 simp only [evB,stB,seval];refine aY (cs:=aK c) (hs:=ckH c) (N+7) (bG (by simp only [stB,seval,n7]) (by (repeat' (first | exact aF.init | assumption | (refine aF.ap ?_ rfl)))) (by simp only [stB,reduceIte,seval,n4,n6,Nat.add_left_cancel_iff];exact hN.at_ 7)) (by simp only [stB,reduceIte,seval,fU,bW]) (by exact aV c) ?_
 have hx:=he.obj;have hy:=he.off;simp only [↓evP,evB,stB,reduceIte,reduceCtorEq,seval,k14,k7,k9,k10,k12,k19,k4,k5,k15,k17,n4,n6,n7,nb,b4,b6,b7,h0,t65,Nat.add_left_cancel_iff];refine aN (up (dQ hp N b0 e c) t.bo (.map 117 (dR t.es t.cl (fB 3 e.obj e.off) (fU (aQ d c))) (ckl t.es t.cl (fB 3 e.obj e.off)))) [] ?_ ?_
 ·simp only [stB,seval,n4,n6,n7];exact ⟨3,e.obj,e.off,N+7,N+4,N+6,b0,t.bo,dS t.bs t.bo t.br t.ck,t.es,t.cl,c,d,rfl,⟨sD,hc,su,sw,(bY l0).trans h0,t65,(bY lo).trans ho⟩,⟨⟨by decide,by decide⟩,hx,hy⟩,hd,rfl,rfl⟩
 ·simp only [evB,stB,reduceCtorEq,seval,prt81]
theorem Uk (h:TabAt hp b0 D t) (hN:Free hp N) (hc:c.length=8) (he:kF e) (hk:e.kind=19) {d:Ck} (hd:OAt t.es (fB 5 e.obj e.off) d∧d.length=8):lC hp (jd b0 e c) (up (dQ hp N b0 e c) t.bo (.map 117 (dR t.es t.cl (fB 5 e.obj e.off) (fU (aQ d c))) (ckl t.es t.cl (fB 5 e.obj e.off)))) []:=by
 have k14:(e.kind == 14)=false:=by rw [hk];rfl
 have k7:(e.kind == 7)=false:=by rw [hk];rfl
 have k9:(e.kind == 9)=false:=by rw [hk];rfl
 have k10:(e.kind == 10)=false:=by rw [hk];rfl
 have k12:(e.kind == 12)=false:=by rw [hk];rfl
 have k19:(e.kind == 19)=true:=by rw [hk];rfl
 have k4:(e.kind == 4)=false:=by rw [hk];rfl
 have k5:(e.kind == 5)=false:=by rw [hk];rfl
 have k15:(e.kind == 15)=false:=by rw [hk];rfl
 have k17:(e.kind == 17)=false:=by rw [hk];rfl
 obtain ⟨nc,hnc⟩:∃ nc,nc=ncN N:=⟨_,rfl⟩
 have l0:b0 < N:=hN.lt (by rw [h.h0];simp)
 have lo:t.bo < N:=hN.lt (by rw [h.ho];simp)
 have lr:t.br < N:=hN.lt (by rw [h.hr];simp)
 have n4:nc (N+4)=5:=by rw [hnc];exact aP
 have n6:nc (N+6)=7:=by rw [hnc];exact aP
 have n7:nc (N+7)=8:=by rw [hnc];exact aP
 have nb:nc b0=1000:=by rw [hnc];exact aU l0
 have no:nc t.bo=1000:=by rw [hnc];exact aU lo
 have nr:nc t.br=1000:=by rw [hnc];exact aU lr
 have b4:b0≠N+4:=by omega
 have b6:b0≠N+6:=by omega
 have b7:b0≠N+7:=by omega
 have o4:t.bo≠N+4:=by omega
 have o6:t.bo≠N+6:=by omega
 have o7:t.bo≠N+7:=by omega
 have h0:=h.h0;have ho:=h.ho;have hr:=h.hr;have t65:(dS t.bs t.bo t.br t.ck)[65]? = some (.h (.m t.bo)):=iL h.ck;have t66:(dS t.bs t.bo t.br t.ck)[66]? = some (.h (.m t.br)):=fV h.ck;obtain ⟨l1,l2⟩:=nP hc;have l3:(aK c).length=8:=by rw [aJ,hc]
 refine ⟨by simp [jd,ntt81],nc,?_⟩;unfold pct81;refine aH ?_;simp only [↓evP,evB,stB,seval,jd,evW,jr,Ev.pa,Ev.row];refine aY (cs:=[.hv (.p b0 0)]) (hs:=[.h (.p b0 0)]) (N+4) (bG (by simp only [stB,seval,n4]) (by (repeat' (first | exact aF.init | assumption | (refine aF.ap ?_ rfl)))) (by simp only [stB,seval];exact hN.at_ 4)) (by simp only [stB,seval]) (by simp only [stB,seval]) ?_
 simp only [evB,stB,reduceIte,seval];refine aY (cs:=[.d (dI e.obj),.d (dI e.off)]) (hs:=[hI e.obj,hI e.off]) (N+6) (bG (by simp only [stB,seval,n6]) (by (repeat' (first | exact aF.init | assumption | (refine aF.ap ?_ rfl)))) (by simp only [stB,reduceIte,seval,n4,Nat.add_left_cancel_iff];exact hN.at_ 6)) (by simp only [stB,reduceIte,seval]) (by simp only [stB,seval]) ?_
 simp only [evB,stB,seval];refine aY (cs:=aK c) (hs:=ckH c) (N+7) (bG (by simp only [stB,seval,n7]) (by (repeat' (first | exact aF.init | assumption | (refine aF.ap ?_ rfl)))) (by simp only [stB,reduceIte,seval,n4,n6,Nat.add_left_cancel_iff];exact hN.at_ 7)) (by simp only [stB,reduceIte,seval,fU,bW]) (by exact aV c) ?_
 have hx:=he.obj;have hy:=he.off;simp only [↓evP,evB,stB,reduceIte,reduceCtorEq,seval,k14,k7,k9,k10,k12,k19,k4,k5,k15,k17,n4,n6,n7,nb,b4,b6,b7,h0,t65,Nat.add_left_cancel_iff];refine aN (up (dQ hp N b0 e c) t.bo (.map 117 (dR t.es t.cl (fB 5 e.obj e.off) (fU (aQ d c))) (ckl t.es t.cl (fB 5 e.obj e.off)))) [] ?_ ?_
 ·simp only [stB,seval,n4,n6,n7];exact ⟨5,e.obj,e.off,N+7,N+4,N+6,b0,t.bo,dS t.bs t.bo t.br t.ck,t.es,t.cl,c,d,rfl,⟨sD,hc,su,sw,(bY l0).trans h0,t65,(bY lo).trans ho⟩,⟨⟨by decide,by decide⟩,hx,hy⟩,hd,rfl,rfl⟩
 ·simp only [evB,stB,reduceCtorEq,seval,prt81]
theorem Vh (h:TabAt hp b0 D t) (hN:Free hp N) (hc:c.length=8) (he:kF e) (hk:e.kind=4):lC hp (jd b0 e c) (up (dQ hp N b0 e c) t.bo (.map 117 (dR t.es t.cl (fB 4 e.obj e.off) (fU c)) (ckl t.es t.cl (fB 4 e.obj e.off)))) []:=by
 have k14:(e.kind == 14)=false:=by rw [hk];rfl
 have k7:(e.kind == 7)=false:=by rw [hk];rfl
 have k9:(e.kind == 9)=false:=by rw [hk];rfl
 have k10:(e.kind == 10)=false:=by rw [hk];rfl
 have k12:(e.kind == 12)=false:=by rw [hk];rfl
 have k19:(e.kind == 19)=false:=by rw [hk];rfl
 have k4:(e.kind == 4)=true:=by rw [hk];rfl
 have k5:(e.kind == 5)=false:=by rw [hk];rfl
 have k15:(e.kind == 15)=false:=by rw [hk];rfl
 have k17:(e.kind == 17)=false:=by rw [hk];rfl
 obtain ⟨nc,hnc⟩:∃ nc,nc=ncN N:=⟨_,rfl⟩
 have l0:b0 < N:=hN.lt (by rw [h.h0];simp)
 have lo:t.bo < N:=hN.lt (by rw [h.ho];simp)
 have lr:t.br < N:=hN.lt (by rw [h.hr];simp)
 have n4:nc (N+4)=5:=by rw [hnc];exact aP
 have n6:nc (N+6)=7:=by rw [hnc];exact aP
 have n7:nc (N+7)=8:=by rw [hnc];exact aP
 have nb:nc b0=1000:=by rw [hnc];exact aU l0
 have no:nc t.bo=1000:=by rw [hnc];exact aU lo
 have nr:nc t.br=1000:=by rw [hnc];exact aU lr
 have b4:b0≠N+4:=by omega
 have b6:b0≠N+6:=by omega
 have b7:b0≠N+7:=by omega
 have o4:t.bo≠N+4:=by omega
 have o6:t.bo≠N+6:=by omega
 have o7:t.bo≠N+7:=by omega
 have h0:=h.h0;have ho:=h.ho;have hr:=h.hr;have t65:(dS t.bs t.bo t.br t.ck)[65]? = some (.h (.m t.bo)):=iL h.ck;have t66:(dS t.bs t.bo t.br t.ck)[66]? = some (.h (.m t.br)):=fV h.ck;obtain ⟨l1,l2⟩:=nP hc;have l3:(aK c).length=8:=by rw [aJ,hc]
 refine ⟨by simp [jd,ntt81],nc,?_⟩;unfold pct81;refine aH ?_;simp only [↓evP,evB,stB,seval,jd,evW,jr,Ev.pa,Ev.row];refine aY (cs:=[.hv (.p b0 0)]) (hs:=[.h (.p b0 0)]) (N+4) (bG (by simp only [stB,seval,n4]) (by (repeat' (first | exact aF.init | assumption | (refine aF.ap ?_ rfl)))) (by simp only [stB,seval];exact hN.at_ 4)) (by simp only [stB,seval]) (by simp only [stB,seval]) ?_
 simp only [evB,stB,reduceIte,seval];refine aY (cs:=[.d (dI e.obj),.d (dI e.off)]) (hs:=[hI e.obj,hI e.off]) (N+6) (bG (by simp only [stB,seval,n6]) (by (repeat' (first | exact aF.init | assumption | (refine aF.ap ?_ rfl)))) (by simp only [stB,reduceIte,seval,n4,Nat.add_left_cancel_iff];exact hN.at_ 6)) (by simp only [stB,reduceIte,seval]) (by simp only [stB,seval]) ?_
 simp only [evB,stB,seval];refine aY (cs:=aK c) (hs:=ckH c) (N+7) (bG (by simp only [stB,seval,n7]) (by (repeat' (first | exact aF.init | assumption | (refine aF.ap ?_ rfl)))) (by simp only [stB,reduceIte,seval,n4,n6,Nat.add_left_cancel_iff];exact hN.at_ 7)) (by simp only [stB,reduceIte,seval,fU,bW]) (by exact aV c) ?_
 have hkey:=oJ (k:=4) ⟨by decide,by decide⟩ he.obj he.off;cases ha:aS t.es (fB 4 e.obj e.off) <;> unfold fB at ha
 all_goals simp only [↓evP,evB,stB,reduceIte,reduceCtorEq,seval,k14,k7,k9,k10,k12,k19,k4,k5,k15,k17,n4,n6,n7,nb,no,b4,b6,b7,o4,o6,o7,h0,ho,t65,Nat.add_left_cancel_iff,hkey,ha,bW,l2,l3,aV,dQ,ckl,fB,fU,prt81]
 all_goals exact (by unfold Drw;refine Eq.trans (b:=true) ?_ rfl;kernel_rfl)
theorem Vi (h:TabAt hp b0 D t) (hN:Free hp N) (hc:c.length=8) (he:kF e) (hk:e.kind=5):lC hp (jd b0 e c) (up (dQ hp N b0 e c) t.bo (.map 117 (dR t.es t.cl (fB 4 e.obj e.off) (fU c)) (ckl t.es t.cl (fB 4 e.obj e.off)))) []:=by
 have k14:(e.kind == 14)=false:=by rw [hk];rfl
 have k7:(e.kind == 7)=false:=by rw [hk];rfl
 have k9:(e.kind == 9)=false:=by rw [hk];rfl
 have k10:(e.kind == 10)=false:=by rw [hk];rfl
 have k12:(e.kind == 12)=false:=by rw [hk];rfl
 have k19:(e.kind == 19)=false:=by rw [hk];rfl
 have k4:(e.kind == 4)=false:=by rw [hk];rfl
 have k5:(e.kind == 5)=true:=by rw [hk];rfl
 have k15:(e.kind == 15)=false:=by rw [hk];rfl
 have k17:(e.kind == 17)=false:=by rw [hk];rfl
 obtain ⟨nc,hnc⟩:∃ nc,nc=ncN N:=⟨_,rfl⟩
 have l0:b0 < N:=hN.lt (by rw [h.h0];simp)
 have lo:t.bo < N:=hN.lt (by rw [h.ho];simp)
 have lr:t.br < N:=hN.lt (by rw [h.hr];simp)
 have n4:nc (N+4)=5:=by rw [hnc];exact aP
 have n6:nc (N+6)=7:=by rw [hnc];exact aP
 have n7:nc (N+7)=8:=by rw [hnc];exact aP
 have nb:nc b0=1000:=by rw [hnc];exact aU l0
 have no:nc t.bo=1000:=by rw [hnc];exact aU lo
 have nr:nc t.br=1000:=by rw [hnc];exact aU lr
 have b4:b0≠N+4:=by omega
 have b6:b0≠N+6:=by omega
 have b7:b0≠N+7:=by omega
 have o4:t.bo≠N+4:=by omega
 have o6:t.bo≠N+6:=by omega
 have o7:t.bo≠N+7:=by omega
 have h0:=h.h0;have ho:=h.ho;have hr:=h.hr;have t65:(dS t.bs t.bo t.br t.ck)[65]? = some (.h (.m t.bo)):=iL h.ck;have t66:(dS t.bs t.bo t.br t.ck)[66]? = some (.h (.m t.br)):=fV h.ck;obtain ⟨l1,l2⟩:=nP hc;have l3:(aK c).length=8:=by rw [aJ,hc]
 refine ⟨by simp [jd,ntt81],nc,?_⟩;unfold pct81;refine aH ?_;simp only [↓evP,evB,stB,seval,jd,evW,jr,Ev.pa,Ev.row];refine aY (cs:=[.hv (.p b0 0)]) (hs:=[.h (.p b0 0)]) (N+4) (bG (by simp only [stB,seval,n4]) (by (repeat' (first | exact aF.init | assumption | (refine aF.ap ?_ rfl)))) (by simp only [stB,seval];exact hN.at_ 4)) (by simp only [stB,seval]) (by simp only [stB,seval]) ?_
 simp only [evB,stB,reduceIte,seval];refine aY (cs:=[.d (dI e.obj),.d (dI e.off)]) (hs:=[hI e.obj,hI e.off]) (N+6) (bG (by simp only [stB,seval,n6]) (by (repeat' (first | exact aF.init | assumption | (refine aF.ap ?_ rfl)))) (by simp only [stB,reduceIte,seval,n4,Nat.add_left_cancel_iff];exact hN.at_ 6)) (by simp only [stB,reduceIte,seval]) (by simp only [stB,seval]) ?_
 simp only [evB,stB,seval];refine aY (cs:=aK c) (hs:=ckH c) (N+7) (bG (by simp only [stB,seval,n7]) (by (repeat' (first | exact aF.init | assumption | (refine aF.ap ?_ rfl)))) (by simp only [stB,reduceIte,seval,n4,n6,Nat.add_left_cancel_iff];exact hN.at_ 7)) (by simp only [stB,reduceIte,seval,fU,bW]) (by exact aV c) ?_
 have hkey:=oJ (k:=4) ⟨by decide,by decide⟩ he.obj he.off;cases ha:aS t.es (fB 4 e.obj e.off) <;> unfold fB at ha
 all_goals simp only [↓evP,evB,stB,reduceIte,reduceCtorEq,seval,k14,k7,k9,k10,k12,k19,k4,k5,k15,k17,n4,n6,n7,nb,no,b4,b6,b7,o4,o6,o7,h0,ho,t65,Nat.add_left_cancel_iff,hkey,ha,bW,l2,l3,aV,dQ,ckl,fB,fU,prt81]
 all_goals exact (by unfold Drw;refine Eq.trans (b:=true) ?_ rfl;kernel_rfl)
theorem Ui (h:TabAt hp b0 D t) (hN:Free hp N) (hc:c.length=8) (he:kF e) (hk:e.kind=15) {b1 b2:Nat} {r1 r2:List Ck} (hg:t.g e.obj=some (b1,b2,r1,r2)):lC hp (jd b0 e c) (up (dQ hp N b0 e c) b1 (.cells (bn (r1.set (e.k.tmod (r1.length:Int)).toNat c)))) []:=by
 obtain ⟨⟨an,ha⟩,ri⟩:=h.ring hg;have lb1:b1 < N:=hN.lt (by rw [ri.e1];simp)
 have lb2:b2 < N:=hN.lt (by rw [ri.e2];simp)
 have k14:(e.kind == 14)=false:=by rw [hk];rfl
 have k7:(e.kind == 7)=false:=by rw [hk];rfl
 have k9:(e.kind == 9)=false:=by rw [hk];rfl
 have k10:(e.kind == 10)=false:=by rw [hk];rfl
 have k12:(e.kind == 12)=false:=by rw [hk];rfl
 have k19:(e.kind == 19)=false:=by rw [hk];rfl
 have k4:(e.kind == 4)=false:=by rw [hk];rfl
 have k5:(e.kind == 5)=false:=by rw [hk];rfl
 have k15:(e.kind == 15)=true:=by rw [hk];rfl
 have k17:(e.kind == 17)=false:=by rw [hk];rfl
 obtain ⟨nc,hnc⟩:∃ nc,nc=ncN N:=⟨_,rfl⟩
 have l0:b0 < N:=hN.lt (by rw [h.h0];simp)
 have lo:t.bo < N:=hN.lt (by rw [h.ho];simp)
 have lr:t.br < N:=hN.lt (by rw [h.hr];simp)
 have n4:nc (N+4)=5:=by rw [hnc];exact aP
 have n6:nc (N+6)=7:=by rw [hnc];exact aP
 have n7:nc (N+7)=8:=by rw [hnc];exact aP
 have nb:nc b0=1000:=by rw [hnc];exact aU l0
 have no:nc t.bo=1000:=by rw [hnc];exact aU lo
 have nr:nc t.br=1000:=by rw [hnc];exact aU lr
 have b4:b0≠N+4:=by omega
 have b6:b0≠N+6:=by omega
 have b7:b0≠N+7:=by omega
 have o4:t.bo≠N+4:=by omega
 have o6:t.bo≠N+6:=by omega
 have o7:t.bo≠N+7:=by omega
 have h0:=h.h0;have ho:=h.ho;have hr:=h.hr;have t65:(dS t.bs t.bo t.br t.ck)[65]? = some (.h (.m t.bo)):=iL h.ck;have t66:(dS t.bs t.bo t.br t.ck)[66]? = some (.h (.m t.br)):=fV h.ck;obtain ⟨l1,l2⟩:=nP hc;have l3:(aK c).length=8:=by rw [aJ,hc]
 refine ⟨by simp [jd,ntt81],nc,?_⟩;unfold pct81;refine aH ?_;simp only [↓evP,evB,stB,seval,jd,evW,jr,Ev.pa,Ev.row];refine aY (cs:=[.hv (.p b0 0)]) (hs:=[.h (.p b0 0)]) (N+4) (bG (by simp only [stB,seval,n4]) (by (repeat' (first | exact aF.init | assumption | (refine aF.ap ?_ rfl)))) (by simp only [stB,seval];exact hN.at_ 4)) (by simp only [stB,seval]) (by simp only [stB,seval]) ?_
 simp only [evB,stB,reduceIte,seval];refine aY (cs:=[.d (dI e.obj),.d (dI e.off)]) (hs:=[hI e.obj,hI e.off]) (N+6) (bG (by simp only [stB,seval,n6]) (by (repeat' (first | exact aF.init | assumption | (refine aF.ap ?_ rfl)))) (by simp only [stB,reduceIte,seval,n4,Nat.add_left_cancel_iff];exact hN.at_ 6)) (by simp only [stB,reduceIte,seval]) (by simp only [stB,seval]) ?_
 simp only [evB,stB,seval];refine aY (cs:=aK c) (hs:=ckH c) (N+7) (bG (by simp only [stB,seval,n7]) (by (repeat' (first | exact aF.init | assumption | (refine aF.ap ?_ rfl)))) (by simp only [stB,reduceIte,seval,n4,n6,Nat.add_left_cancel_iff];exact hN.at_ 7)) (by simp only [stB,reduceIte,seval,fU,bW]) (by exact aV c) ?_
 have hx:=he.obj;have n1:nc b1=1000:=by rw [hnc];exact aU lb1
 have c4:b1≠N+4:=by omega
 have c6:b1≠N+6:=by omega
 have c7:b1≠N+7:=by omega
 have he1:=ri.e1;have hlen:r1.length=r1.length:=by first | rfl | exact ri.len.symm
 have hpos:=ri.pos;have h8:=ri.c1;have m0:(0:Int)≤e.k.tmod (r1.length:Int):=Int.tmod_nonneg _ he.k.1;have m1:e.k.tmod (r1.length:Int) < (r1.length:Int):=Int.tmod_lt_of_pos _ (by omega);have hne:((r1.length:Nat):Int)≠0:=by omega
 have fl:=dA h8;have tl:(e.k.tmod (r1.length:Int)).toNat * 8+8≤(bn r1).length:=by rw [fl,hlen];omega
 have ts:eU (bn r1) ((e.k.tmod (r1.length:Int)).toNat * 8) (ckH c)=bn (r1.set (e.k.tmod (r1.length:Int)).toNat c):=by
  have:=kT h8 (i:=(e.k.tmod (r1.length:Int)).toNat) (by rw [hlen];omega) hc []
  rw [List.append_nil,List.append_nil] at this;exact this
 simp only [↓evP,evB,stB,reduceIte,reduceCtorEq,seval,k14,k7,k9,k10,k12,k19,k4,k5,k15,k17,n4,n6,n7,nb,b4,b6,b7,h0,t65,Nat.add_left_cancel_iff];refine aN (dQ hp N b0 e c) [rgW b1 b2 r1.length] ?_ ?_
 ·simp only [stB,seval,n4,n6,n7];exact ⟨b0,t.br,N+8,dS t.bs t.bo t.br t.ck,t.rs,t.rcl,e.obj,e.n,rfl,⟨(bY l0).trans h0,t66,(bY lr).trans hr⟩,⟨hx,he.n⟩,kZ hN,.inl ⟨an,b1,b2,_,ha,rfl,rfl⟩⟩
 ·simp only [↓evP,evB,stB,reduceIte,seval,rgW];simp only [evB,stB,reduceIte,reduceCtorEq,seval,n7,n1,c4,c6,c7,he1,m0,m1,hne,tl,ts,bW,l2,l3,aV,dQ,prt81];exact (by unfold Drw;refine Eq.trans (b:=true) ?_ rfl;kernel_rfl)
theorem Uj (h:TabAt hp b0 D t) (hN:Free hp N) (hc:c.length=8) (he:kF e) (hk:e.kind=17) {b1 b2:Nat} {r1 r2:List Ck} (hg:t.g e.obj=some (b1,b2,r1,r2)):lC hp (jd b0 e c) (up (dQ hp N b0 e c) b2 (.cells (bn (r2.set (e.k.tmod (r2.length:Int)).toNat c)))) []:=by
 obtain ⟨⟨an,ha⟩,ri⟩:=h.ring hg;have lb1:b1 < N:=hN.lt (by rw [ri.e1];simp)
 have lb2:b2 < N:=hN.lt (by rw [ri.e2];simp)
 have k14:(e.kind == 14)=false:=by rw [hk];rfl
 have k7:(e.kind == 7)=false:=by rw [hk];rfl
 have k9:(e.kind == 9)=false:=by rw [hk];rfl
 have k10:(e.kind == 10)=false:=by rw [hk];rfl
 have k12:(e.kind == 12)=false:=by rw [hk];rfl
 have k19:(e.kind == 19)=false:=by rw [hk];rfl
 have k4:(e.kind == 4)=false:=by rw [hk];rfl
 have k5:(e.kind == 5)=false:=by rw [hk];rfl
 have k15:(e.kind == 15)=false:=by rw [hk];rfl
 have k17:(e.kind == 17)=true:=by rw [hk];rfl
 obtain ⟨nc,hnc⟩:∃ nc,nc=ncN N:=⟨_,rfl⟩
 have l0:b0 < N:=hN.lt (by rw [h.h0];simp)
 have lo:t.bo < N:=hN.lt (by rw [h.ho];simp)
 have lr:t.br < N:=hN.lt (by rw [h.hr];simp)
 have n4:nc (N+4)=5:=by rw [hnc];exact aP
 have n6:nc (N+6)=7:=by rw [hnc];exact aP
 have n7:nc (N+7)=8:=by rw [hnc];exact aP
 have nb:nc b0=1000:=by rw [hnc];exact aU l0
 have no:nc t.bo=1000:=by rw [hnc];exact aU lo
 have nr:nc t.br=1000:=by rw [hnc];exact aU lr
 have b4:b0≠N+4:=by omega
 have b6:b0≠N+6:=by omega
 have b7:b0≠N+7:=by omega
 have o4:t.bo≠N+4:=by omega
 have o6:t.bo≠N+6:=by omega
 have o7:t.bo≠N+7:=by omega
 have h0:=h.h0;have ho:=h.ho;have hr:=h.hr;have t65:(dS t.bs t.bo t.br t.ck)[65]? = some (.h (.m t.bo)):=iL h.ck;have t66:(dS t.bs t.bo t.br t.ck)[66]? = some (.h (.m t.br)):=fV h.ck;obtain ⟨l1,l2⟩:=nP hc;have l3:(aK c).length=8:=by rw [aJ,hc]
 refine ⟨by simp [jd,ntt81],nc,?_⟩;unfold pct81;refine aH ?_;simp only [↓evP,evB,stB,seval,jd,evW,jr,Ev.pa,Ev.row];refine aY (cs:=[.hv (.p b0 0)]) (hs:=[.h (.p b0 0)]) (N+4) (bG (by simp only [stB,seval,n4]) (by (repeat' (first | exact aF.init | assumption | (refine aF.ap ?_ rfl)))) (by simp only [stB,seval];exact hN.at_ 4)) (by simp only [stB,seval]) (by simp only [stB,seval]) ?_
 simp only [evB,stB,reduceIte,seval];refine aY (cs:=[.d (dI e.obj),.d (dI e.off)]) (hs:=[hI e.obj,hI e.off]) (N+6) (bG (by simp only [stB,seval,n6]) (by (repeat' (first | exact aF.init | assumption | (refine aF.ap ?_ rfl)))) (by simp only [stB,reduceIte,seval,n4,Nat.add_left_cancel_iff];exact hN.at_ 6)) (by simp only [stB,reduceIte,seval]) (by simp only [stB,seval]) ?_
 simp only [evB,stB,seval];refine aY (cs:=aK c) (hs:=ckH c) (N+7) (bG (by simp only [stB,seval,n7]) (by (repeat' (first | exact aF.init | assumption | (refine aF.ap ?_ rfl)))) (by simp only [stB,reduceIte,seval,n4,n6,Nat.add_left_cancel_iff];exact hN.at_ 7)) (by simp only [stB,reduceIte,seval,fU,bW]) (by exact aV c) ?_
 have hx:=he.obj;have n1:nc b2=1000:=by rw [hnc];exact aU lb2
 have c4:b2≠N+4:=by omega
 have c6:b2≠N+6:=by omega
 have c7:b2≠N+7:=by omega
 have he1:=ri.e2;have hlen:r2.length=r1.length:=by first | rfl | exact ri.len.symm
 have hpos:=ri.pos;have h8:=ri.c2;have m0:(0:Int)≤e.k.tmod (r1.length:Int):=Int.tmod_nonneg _ he.k.1;have m1:e.k.tmod (r1.length:Int) < (r1.length:Int):=Int.tmod_lt_of_pos _ (by omega);have hne:((r1.length:Nat):Int)≠0:=by omega
 have fl:=dA h8;have tl:(e.k.tmod (r1.length:Int)).toNat * 8+8≤(bn r2).length:=by rw [fl,hlen];omega
 have ts:eU (bn r2) ((e.k.tmod (r1.length:Int)).toNat * 8) (ckH c)=bn (r2.set (e.k.tmod (r1.length:Int)).toNat c):=by
  have:=kT h8 (i:=(e.k.tmod (r1.length:Int)).toNat) (by rw [hlen];omega) hc []
  rw [List.append_nil,List.append_nil] at this;exact this
 simp only [↓evP,evB,stB,reduceIte,reduceCtorEq,seval,k14,k7,k9,k10,k12,k19,k4,k5,k15,k17,n4,n6,n7,nb,b4,b6,b7,h0,t65,Nat.add_left_cancel_iff];refine aN (dQ hp N b0 e c) [rgW b1 b2 r1.length] ?_ ?_
 ·simp only [stB,seval,n4,n6,n7];exact ⟨b0,t.br,N+8,dS t.bs t.bo t.br t.ck,t.rs,t.rcl,e.obj,e.n,rfl,⟨(bY l0).trans h0,t66,(bY lr).trans hr⟩,⟨hx,he.n⟩,kZ hN,.inl ⟨an,b1,b2,_,ha,rfl,rfl⟩⟩
 ·simp only [↓evP,evB,stB,reduceIte,seval,rgW];simp only [evB,stB,reduceIte,reduceCtorEq,seval,n7,n1,c4,c6,c7,he1,m0,m1,hne,hlen,tl,ts,bW,l2,l3,aV,dQ,prt81];exact (by unfold Drw;refine Eq.trans (b:=true) ?_ rfl;kernel_rfl)
theorem QX (h:TabAt hp b0 D t) (hN:Free hp N) (hc:c.length=8) (he:kF e) (hk:e.kind=15) (hg:t.g e.obj=none) {q1 q2 m:Nat} (e1:q1=N+8+22) (e2:q2=N+8+25) (em:m=(e.n+1).toNat):lC hp (jd b0 e c) (up (up (up (up (dQ hp N b0 e c) q1 (.cells (bn (bD m)))) q2 (.cells (bn (bD m)))) t.br (.map 3 (dR t.rs t.rcl (.int .i64 e.obj) (rgW q1 q2 m)) (t.rcl+1))) q1 (.cells (bn ((bD m).set (e.k.tmod (m:Int)).toNat c)))) []:=by
 have ha:aS t.rs (.int .i64 e.obj)=none:=by have:=h.ra e.obj;rw [hg] at this;exact this
 have k14:(e.kind == 14)=false:=by rw [hk];rfl
 have k7:(e.kind == 7)=false:=by rw [hk];rfl
 have k9:(e.kind == 9)=false:=by rw [hk];rfl
 have k10:(e.kind == 10)=false:=by rw [hk];rfl
 have k12:(e.kind == 12)=false:=by rw [hk];rfl
 have k19:(e.kind == 19)=false:=by rw [hk];rfl
 have k4:(e.kind == 4)=false:=by rw [hk];rfl
 have k5:(e.kind == 5)=false:=by rw [hk];rfl
 have k15:(e.kind == 15)=true:=by rw [hk];rfl
 have k17:(e.kind == 17)=false:=by rw [hk];rfl
 obtain ⟨nc,hnc⟩:∃ nc,nc=ncN N:=⟨_,rfl⟩
 have l0:b0 < N:=hN.lt (by rw [h.h0];simp)
 have lo:t.bo < N:=hN.lt (by rw [h.ho];simp)
 have lr:t.br < N:=hN.lt (by rw [h.hr];simp)
 have n4:nc (N+4)=5:=by rw [hnc];exact aP
 have n6:nc (N+6)=7:=by rw [hnc];exact aP
 have n7:nc (N+7)=8:=by rw [hnc];exact aP
 have nb:nc b0=1000:=by rw [hnc];exact aU l0
 have no:nc t.bo=1000:=by rw [hnc];exact aU lo
 have nr:nc t.br=1000:=by rw [hnc];exact aU lr
 have b4:b0≠N+4:=by omega
 have b6:b0≠N+6:=by omega
 have b7:b0≠N+7:=by omega
 have o4:t.bo≠N+4:=by omega
 have o6:t.bo≠N+6:=by omega
 have o7:t.bo≠N+7:=by omega
 have h0:=h.h0;have ho:=h.ho;have hr:=h.hr;have t65:(dS t.bs t.bo t.br t.ck)[65]? = some (.h (.m t.bo)):=iL h.ck;have t66:(dS t.bs t.bo t.br t.ck)[66]? = some (.h (.m t.br)):=fV h.ck;obtain ⟨l1,l2⟩:=nP hc;have l3:(aK c).length=8:=by rw [aJ,hc]
 refine ⟨by simp [jd,ntt81],nc,?_⟩;unfold pct81;refine aH ?_;simp only [↓evP,evB,stB,seval,jd,evW,jr,Ev.pa,Ev.row];refine aY (cs:=[.hv (.p b0 0)]) (hs:=[.h (.p b0 0)]) (N+4) (bG (by simp only [stB,seval,n4]) (by (repeat' (first | exact aF.init | assumption | (refine aF.ap ?_ rfl)))) (by simp only [stB,seval];exact hN.at_ 4)) (by simp only [stB,seval]) (by simp only [stB,seval]) ?_
 simp only [evB,stB,reduceIte,seval];refine aY (cs:=[.d (dI e.obj),.d (dI e.off)]) (hs:=[hI e.obj,hI e.off]) (N+6) (bG (by simp only [stB,seval,n6]) (by (repeat' (first | exact aF.init | assumption | (refine aF.ap ?_ rfl)))) (by simp only [stB,reduceIte,seval,n4,Nat.add_left_cancel_iff];exact hN.at_ 6)) (by simp only [stB,reduceIte,seval]) (by simp only [stB,seval]) ?_
 simp only [evB,stB,seval];refine aY (cs:=aK c) (hs:=ckH c) (N+7) (bG (by simp only [stB,seval,n7]) (by (repeat' (first | exact aF.init | assumption | (refine aF.ap ?_ rfl)))) (by simp only [stB,reduceIte,seval,n4,n6,Nat.add_left_cancel_iff];exact hN.at_ 7)) (by simp only [stB,reduceIte,seval,fU,bW]) (by exact aV c) ?_
 have hx:=he.obj;have r4:t.br≠N+4:=by omega
 have r6:t.br≠N+6:=by omega
 have r7:t.br≠N+7:=by omega
 have n1:nc q1=31:=by rw [hnc,e1];exact aP (d:=30)
 have n2:nc q2=34:=by rw [hnc,e2];exact aP (d:=33)
 have c1:q1≠t.br:=by omega
 have c2:q2≠t.br:=by omega
 have c12:q1≠q2:=by omega
 have c21:q2≠q1:=by omega
 have c3:N+7≠t.br:=by omega
 have c4:N+7≠q1:=by omega
 have c5:N+7≠q2:=by omega
 have hm:m=(e.n+1).toNat:=em;have hpos:0 < m:=by have:=he.n;omega
 have m0:(0:Int)≤e.k.tmod (m:Int):=Int.tmod_nonneg _ he.k.1;have m1:e.k.tmod (m:Int) < (m:Int):=Int.tmod_lt_of_pos _ (by omega);have hne:((m:Nat):Int)≠0:=by omega
 have h8:∀ c ∈ bD m,c.length=8:=fun c hc=>by rw [List.eq_of_mem_replicate hc];rfl
 have hlen:(bD m).length=m:=List.length_replicate;have fl:=dA h8;have tl:(e.k.tmod (m:Int)).toNat * 8+8≤(bn (bD m)).length:=by rw [fl,hlen];omega
 have ts:eU (bn (bD m)) ((e.k.tmod (m:Int)).toNat * 8) (ckH c)=bn ((bD m).set (e.k.tmod (m:Int)).toNat c):=by
  have:=kT h8 (i:=(e.k.tmod (m:Int)).toNat) (by rw [hlen];omega) hc []
  rw [List.append_nil,List.append_nil] at this;exact this
 simp only [↓evP,evB,stB,reduceIte,reduceCtorEq,seval,k14,k7,k9,k10,k12,k19,k4,k5,k15,k17,n4,n6,n7,nb,b4,b6,b7,h0,t65,Nat.add_left_cancel_iff];refine aN (up (up (up (dQ hp N b0 e c) q1 (.cells (bn (bD m)))) q2 (.cells (bn (bD m)))) t.br (.map 3 (dR t.rs t.rcl (.int .i64 e.obj) (rgW q1 q2 m)) (t.rcl+1))) [rgW q1 q2 m] ?_ ?_
 ·simp only [stB,seval,n4,n6,n7];exact ⟨b0,t.br,N+8,dS t.bs t.bo t.br t.ck,t.rs,t.rcl,e.obj,e.n,rfl,⟨(bY l0).trans h0,t66,(bY lr).trans hr⟩,⟨hx,he.n⟩,kZ hN,.inr ⟨ha,by rw [e1,e2,em];rfl,by rw [e1,e2,em]⟩⟩
 ·simp only [↓evP,evB,stB,reduceIte,seval,rgW];simp only [evB,stB,reduceIte,reduceCtorEq,seval,n7,n1,c1,c12,c3,c4,c5,m0,m1,hne,tl,ts,bW,l2,l3,aV,dQ,prt81];exact (by unfold Drw;refine Eq.trans (b:=true) ?_ rfl;kernel_rfl)
theorem QY (h:TabAt hp b0 D t) (hN:Free hp N) (hc:c.length=8) (he:kF e) (hk:e.kind=17) (hg:t.g e.obj=none) {q1 q2 m:Nat} (e1:q1=N+8+22) (e2:q2=N+8+25) (em:m=(e.n+1).toNat):lC hp (jd b0 e c) (up (up (up (up (dQ hp N b0 e c) q1 (.cells (bn (bD m)))) q2 (.cells (bn (bD m)))) t.br (.map 3 (dR t.rs t.rcl (.int .i64 e.obj) (rgW q1 q2 m)) (t.rcl+1))) q2 (.cells (bn ((bD m).set (e.k.tmod (m:Int)).toNat c)))) []:=by
 have ha:aS t.rs (.int .i64 e.obj)=none:=by have:=h.ra e.obj;rw [hg] at this;exact this
 have k14:(e.kind == 14)=false:=by rw [hk];rfl
 have k7:(e.kind == 7)=false:=by rw [hk];rfl
 have k9:(e.kind == 9)=false:=by rw [hk];rfl
 have k10:(e.kind == 10)=false:=by rw [hk];rfl
 have k12:(e.kind == 12)=false:=by rw [hk];rfl
 have k19:(e.kind == 19)=false:=by rw [hk];rfl
 have k4:(e.kind == 4)=false:=by rw [hk];rfl
 have k5:(e.kind == 5)=false:=by rw [hk];rfl
 have k15:(e.kind == 15)=false:=by rw [hk];rfl
 have k17:(e.kind == 17)=true:=by rw [hk];rfl
 obtain ⟨nc,hnc⟩:∃ nc,nc=ncN N:=⟨_,rfl⟩
 have l0:b0 < N:=hN.lt (by rw [h.h0];simp)
 have lo:t.bo < N:=hN.lt (by rw [h.ho];simp)
 have lr:t.br < N:=hN.lt (by rw [h.hr];simp)
 have n4:nc (N+4)=5:=by rw [hnc];exact aP
 have n6:nc (N+6)=7:=by rw [hnc];exact aP
 have n7:nc (N+7)=8:=by rw [hnc];exact aP
 have nb:nc b0=1000:=by rw [hnc];exact aU l0
 have no:nc t.bo=1000:=by rw [hnc];exact aU lo
 have nr:nc t.br=1000:=by rw [hnc];exact aU lr
 have b4:b0≠N+4:=by omega
 have b6:b0≠N+6:=by omega
 have b7:b0≠N+7:=by omega
 have o4:t.bo≠N+4:=by omega
 have o6:t.bo≠N+6:=by omega
 have o7:t.bo≠N+7:=by omega
 have h0:=h.h0;have ho:=h.ho;have hr:=h.hr;have t65:(dS t.bs t.bo t.br t.ck)[65]? = some (.h (.m t.bo)):=iL h.ck;have t66:(dS t.bs t.bo t.br t.ck)[66]? = some (.h (.m t.br)):=fV h.ck;obtain ⟨l1,l2⟩:=nP hc;have l3:(aK c).length=8:=by rw [aJ,hc]
 refine ⟨by simp [jd,ntt81],nc,?_⟩;unfold pct81;refine aH ?_;simp only [↓evP,evB,stB,seval,jd,evW,jr,Ev.pa,Ev.row];refine aY (cs:=[.hv (.p b0 0)]) (hs:=[.h (.p b0 0)]) (N+4) (bG (by simp only [stB,seval,n4]) (by (repeat' (first | exact aF.init | assumption | (refine aF.ap ?_ rfl)))) (by simp only [stB,seval];exact hN.at_ 4)) (by simp only [stB,seval]) (by simp only [stB,seval]) ?_
 simp only [evB,stB,reduceIte,seval];refine aY (cs:=[.d (dI e.obj),.d (dI e.off)]) (hs:=[hI e.obj,hI e.off]) (N+6) (bG (by simp only [stB,seval,n6]) (by (repeat' (first | exact aF.init | assumption | (refine aF.ap ?_ rfl)))) (by simp only [stB,reduceIte,seval,n4,Nat.add_left_cancel_iff];exact hN.at_ 6)) (by simp only [stB,reduceIte,seval]) (by simp only [stB,seval]) ?_
 simp only [evB,stB,seval];refine aY (cs:=aK c) (hs:=ckH c) (N+7) (bG (by simp only [stB,seval,n7]) (by (repeat' (first | exact aF.init | assumption | (refine aF.ap ?_ rfl)))) (by simp only [stB,reduceIte,seval,n4,n6,Nat.add_left_cancel_iff];exact hN.at_ 7)) (by simp only [stB,reduceIte,seval,fU,bW]) (by exact aV c) ?_
 have hx:=he.obj;have r4:t.br≠N+4:=by omega
 have r6:t.br≠N+6:=by omega
 have r7:t.br≠N+7:=by omega
 have n1:nc q1=31:=by rw [hnc,e1];exact aP (d:=30)
 have n2:nc q2=34:=by rw [hnc,e2];exact aP (d:=33)
 have c1:q1≠t.br:=by omega
 have c2:q2≠t.br:=by omega
 have c12:q1≠q2:=by omega
 have c21:q2≠q1:=by omega
 have c3:N+7≠t.br:=by omega
 have c4:N+7≠q1:=by omega
 have c5:N+7≠q2:=by omega
 have hm:m=(e.n+1).toNat:=em;have hpos:0 < m:=by have:=he.n;omega
 have m0:(0:Int)≤e.k.tmod (m:Int):=Int.tmod_nonneg _ he.k.1;have m1:e.k.tmod (m:Int) < (m:Int):=Int.tmod_lt_of_pos _ (by omega);have hne:((m:Nat):Int)≠0:=by omega
 have h8:∀ c ∈ bD m,c.length=8:=fun c hc=>by rw [List.eq_of_mem_replicate hc];rfl
 have hlen:(bD m).length=m:=List.length_replicate;have fl:=dA h8;have tl:(e.k.tmod (m:Int)).toNat * 8+8≤(bn (bD m)).length:=by rw [fl,hlen];omega
 have ts:eU (bn (bD m)) ((e.k.tmod (m:Int)).toNat * 8) (ckH c)=bn ((bD m).set (e.k.tmod (m:Int)).toNat c):=by
  have:=kT h8 (i:=(e.k.tmod (m:Int)).toNat) (by rw [hlen];omega) hc []
  rw [List.append_nil,List.append_nil] at this;exact this
 simp only [↓evP,evB,stB,reduceIte,reduceCtorEq,seval,k14,k7,k9,k10,k12,k19,k4,k5,k15,k17,n4,n6,n7,nb,b4,b6,b7,h0,t65,Nat.add_left_cancel_iff];refine aN (up (up (up (dQ hp N b0 e c) q1 (.cells (bn (bD m)))) q2 (.cells (bn (bD m)))) t.br (.map 3 (dR t.rs t.rcl (.int .i64 e.obj) (rgW q1 q2 m)) (t.rcl+1))) [rgW q1 q2 m] ?_ ?_
 ·simp only [stB,seval,n4,n6,n7];exact ⟨b0,t.br,N+8,dS t.bs t.bo t.br t.ck,t.rs,t.rcl,e.obj,e.n,rfl,⟨(bY l0).trans h0,t66,(bY lr).trans hr⟩,⟨hx,he.n⟩,kZ hN,.inr ⟨ha,by rw [e1,e2,em];rfl,by rw [e1,e2,em]⟩⟩
 ·simp only [↓evP,evB,stB,reduceIte,seval,rgW];simp only [evB,stB,reduceIte,reduceCtorEq,seval,n7,n2,c2,c3,c4,c5,m0,m1,hne,tl,ts,bW,l2,l3,aV,dQ,prt81];exact (by unfold Drw;refine Eq.trans (b:=true) ?_ rfl;kernel_rfl)
theorem Np (h:TabAt hp b0 D t) (hN:Free hp N) (hc:c.length=8) (hk:e.kind≠14∧e.kind≠7∧e.kind≠9∧e.kind≠10∧e.kind≠12∧e.kind≠19∧e.kind≠4∧e.kind≠5∧e.kind≠15∧e.kind≠17):lC hp (jd b0 e c) (dQ hp N b0 e c) []:=by
 have k14:(e.kind == 14)=false:=beq_false_of_ne hk.1;have k7:(e.kind == 7)=false:=beq_false_of_ne hk.2.1;have k9:(e.kind == 9)=false:=beq_false_of_ne hk.2.2.1;have k10:(e.kind == 10)=false:=beq_false_of_ne hk.2.2.2.1;have k12:(e.kind == 12)=false:=beq_false_of_ne hk.2.2.2.2.1;have k19:(e.kind == 19)=false:=beq_false_of_ne hk.2.2.2.2.2.1;have k4:(e.kind == 4)=false:=beq_false_of_ne hk.2.2.2.2.2.2.1;have k5:(e.kind == 5)=false:=beq_false_of_ne hk.2.2.2.2.2.2.2.1;have k15:(e.kind == 15)=false:=beq_false_of_ne hk.2.2.2.2.2.2.2.2.1;have k17:(e.kind == 17)=false:=beq_false_of_ne hk.2.2.2.2.2.2.2.2.2;obtain ⟨nc,hnc⟩:∃ nc,nc=ncN N:=⟨_,rfl⟩
 have l0:b0 < N:=hN.lt (by rw [h.h0];simp)
 have lo:t.bo < N:=hN.lt (by rw [h.ho];simp)
 have lr:t.br < N:=hN.lt (by rw [h.hr];simp)
 have n4:nc (N+4)=5:=by rw [hnc];exact aP
 have n6:nc (N+6)=7:=by rw [hnc];exact aP
 have n7:nc (N+7)=8:=by rw [hnc];exact aP
 have nb:nc b0=1000:=by rw [hnc];exact aU l0
 have no:nc t.bo=1000:=by rw [hnc];exact aU lo
 have nr:nc t.br=1000:=by rw [hnc];exact aU lr
 have b4:b0≠N+4:=by omega
 have b6:b0≠N+6:=by omega
 have b7:b0≠N+7:=by omega
 have o4:t.bo≠N+4:=by omega
 have o6:t.bo≠N+6:=by omega
 have o7:t.bo≠N+7:=by omega
 have h0:=h.h0;have ho:=h.ho;have hr:=h.hr;have t65:(dS t.bs t.bo t.br t.ck)[65]? = some (.h (.m t.bo)):=iL h.ck;have t66:(dS t.bs t.bo t.br t.ck)[66]? = some (.h (.m t.br)):=fV h.ck;obtain ⟨l1,l2⟩:=nP hc;have l3:(aK c).length=8:=by rw [aJ,hc]
 refine ⟨by simp [jd,ntt81],nc,?_⟩;unfold pct81;refine aH ?_;simp only [↓evP,evB,stB,seval,jd,evW,jr,Ev.pa,Ev.row];refine aY (cs:=[.hv (.p b0 0)]) (hs:=[.h (.p b0 0)]) (N+4) (bG (by simp only [stB,seval,n4]) (by (repeat' (first | exact aF.init | assumption | (refine aF.ap ?_ rfl)))) (by simp only [stB,seval];exact hN.at_ 4)) (by simp only [stB,seval]) (by simp only [stB,seval]) ?_
 simp only [evB,stB,reduceIte,seval];refine aY (cs:=[.d (dI e.obj),.d (dI e.off)]) (hs:=[hI e.obj,hI e.off]) (N+6) (bG (by simp only [stB,seval,n6]) (by (repeat' (first | exact aF.init | assumption | (refine aF.ap ?_ rfl)))) (by simp only [stB,reduceIte,seval,n4,Nat.add_left_cancel_iff];exact hN.at_ 6)) (by simp only [stB,reduceIte,seval]) (by simp only [stB,seval]) ?_
 simp only [evB,stB,seval];refine aY (cs:=aK c) (hs:=ckH c) (N+7) (bG (by simp only [stB,seval,n7]) (by (repeat' (first | exact aF.init | assumption | (refine aF.ap ?_ rfl)))) (by simp only [stB,reduceIte,seval,n4,n6,Nat.add_left_cancel_iff];exact hN.at_ 7)) (by simp only [stB,reduceIte,seval,fU,bW]) (by exact aV c) ?_
 simp only [↓evP,evB,stB,reduceIte,reduceCtorEq,seval,k14,k7,k9,k10,k12,k19,k4,k5,k15,k17,n4,n6,n7,nb,b4,b6,b7,h0,t65,Nat.add_left_cancel_iff,dQ,prt81]
end
end Go.Proofs.Ytffcpijeebagfaa
end
section
namespace Go.Proofs.Ytffcpijeebagfaa
open Go Go.RowKit
set_option maxRecDepth 100000
structure bZ where
 ck:List Ck
 f:Int→Int→Int→Option Ck
 g:Int→Option (List Ck×List Ck)
def mV.p (t:mV):bZ:=⟨t.ck,t.f,fun o=>(t.g o).map (·.2.2)⟩
def bZ.fQ (p:bZ) (k:Int) (e:Ev) (c:Ck):bZ:={ p with f:=FH p.f k e.obj e.off (aQ ((p.f k e.obj e.off).getD ckZ) c) }
def bZ.ringAt (p:bZ) (e:Ev):List Ck×List Ck:=(p.g e.obj).getD (bD (e.n+1).toNat,bD (e.n+1).toNat)
def wJ (g:Int→Option (List Ck×List Ck)) (o:Int) (v:List Ck×List Ck):Int→Option (List Ck×List Ck):=fun o'=>if o'=o then some v else g o'
def dV (k:Int) (l:List Ck):Nat:=(k.tmod (l.length:Int)).toNat
def bZ.rel (p:bZ) (e:Ev) (c:Ck):bZ :=
 if e.kind=14 then { p with ck:=p.ck.set e.k.toNat c }
 else if e.kind=7 then p.fQ 0 e c
 else if e.kind=9 then p.fQ 1 e c
 else if e.kind=10 then p.fQ 2 e c
 else if e.kind=12 then p.fQ 3 e c
 else if e.kind=19 then p.fQ 5 e c
 else if e.kind=4∨e.kind=5 then { p with f:=FH p.f 4 e.obj e.off c }
 else if e.kind=15 then { p with g:=wJ p.g e.obj ((p.ringAt e).1.set (dV e.k (p.ringAt e).1) c,(p.ringAt e).2) }
 else if e.kind=17 then { p with g:=wJ p.g e.obj ((p.ringAt e).1,(p.ringAt e).2.set (dV e.k (p.ringAt e).2) c) }
 else p
structure Left (hp:Nat→Hb) (D:Nat→Prop) (N:Nat) (hp':Nat→Hb) (D':Nat→Prop) (N':Nat):Prop where
 le:N≤N'
 sub:∀ b,D b→D' b
 new:∀ b,D' b→D b∨N≤b
 out:∀ b,¬ D b→b < N→hp' b=hp b
 free:Free hp' N'
 lt:∀ b,D' b→b < N'
theorem Left.trans {hp hp' hp'':Nat→Hb} {D D' D'':Nat→Prop} {N N' N'':Nat} (h:Left hp D N hp' D' N') (k:Left hp' D' N' hp'' D'' N''):Left hp D N hp'' D'' N'' :=
 ⟨Nat.le_trans h.le k.le,fun b q=>k.sub b (h.sub b q),fun b q=>(k.new b q).elim (h.new b) (fun q=>.inr (Nat.le_trans h.le q)),fun b q1 q2=>(k.out b (fun q=>(h.new b q).elim q1 (by omega)) (Nat.lt_of_lt_of_le q2 h.le)).trans (h.out b q1 q2),k.free,k.lt⟩
section
variable {hp:Nat→Hb} {b0 N:Nat} {D:Nat→Prop} {t:mV} {e:Ev} {c:Ck}
theorem xX (g:Int→Option (Nat×Nat×List Ck×List Ck)) (o:Int) (v:Nat×Nat×List Ck×List Ck):(fun o'=>(DJ g o v o').map (·.2.2))=wJ (fun o'=>(g o').map (·.2.2)) o v.2.2:=by
 funext o'
 unfold DJ wJ;split <;> rfl
theorem gK (h:TabAt hp b0 D t) (k x y:Int):OAt t.es (fB k x y) ((t.f k x y).getD ckZ)∧((t.f k x y).getD ckZ).length=8:=by
 have:=h.oa k x y
 cases hf:t.f k x y with
 | none=>rw [hf] at this;exact ⟨.inr ⟨this,rfl⟩,rfl⟩
 | some d=>rw [hf] at this;exact ⟨.inl this.2,this.1⟩
theorem Qp {x:Hb} {b:Nat} (hf:Free hp N) (hD:∀ b,D b→b < N) (hb:D b) {N1:Nat} {hp1:Nat→Hb} (h1:N≤N1) (h2:∀ b,b < N→hp1 b=hp b) (h3:Free hp1 N1):Left hp D N (up hp1 b x) D N1 :=
 ⟨h1,fun _ q=>q,fun _ q=>.inl q,fun b' q1 q2=>by rw [aB (fun e:b'=b=>q1 (e ▸ hb))];exact h2 b' q2,fun b' q=>by rw [aB (by have:=hD b hb;omega)];exact h3 b' q,fun b' q=>Nat.lt_of_lt_of_le (hD b' q) h1⟩
theorem QZ (h:TabAt hp b0 D t) (hD:∀ b,D b→b < N) (hN:Free hp N) (he:kF e) (hc:c.length=8) :
 ∃ hp' D' t',lC hp (jd b0 e c) hp' []∧TabAt hp' b0 D' t'∧t'.p=t.p.rel e c∧(t'.st=t.st∧t'.sn=t.sn)∧Left hp D N hp' D' (N+40):=by
 have h1:TabAt (dQ hp N b0 e c) b0 D t:=h.frame fun b hb=>bY (hD b hb)
 have hold:∀ b,b < N→dQ hp N b0 e c b=hp b:=fun b hb=>bY hb
 have hf1:Free (dQ hp N b0 e c) (N+40):=fun b hb=>kZ hN b (by omega)
 have LU:∀ {x:Hb} {b:Nat},D b→Left hp D N (up (dQ hp N b0 e c) b x) D (N+40):=fun hb=>Qp hN hD hb (by omega) hold hf1
 by_cases k14:e.kind=14
 ·refine ⟨_,D,_,Uh h hN hc he k14,h1.clk hc,?_,⟨rfl,rfl⟩,LU h.dd.1⟩;unfold bZ.rel;rw [if_pos k14];rfl
 by_cases k7:e.kind=7
 ·obtain ⟨o1,o2⟩:=gK h 0 e.obj e.off;refine ⟨_,D,_,Vj h hN hc he k7 ⟨o1,o2⟩,h1.obj (bI o2 hc) he.obj he.off,?_,⟨rfl,rfl⟩,LU h.dd.2.2.1⟩;unfold bZ.rel;rw [if_neg k14,if_pos k7];rfl
 by_cases k9:e.kind=9
 ·obtain ⟨o1,o2⟩:=gK h 1 e.obj e.off;refine ⟨_,D,_,Vk h hN hc he k9 ⟨o1,o2⟩,h1.obj (bI o2 hc) he.obj he.off,?_,⟨rfl,rfl⟩,LU h.dd.2.2.1⟩;unfold bZ.rel;rw [if_neg k14,if_neg k7,if_pos k9];rfl
 by_cases k10:e.kind=10
 ·obtain ⟨o1,o2⟩:=gK h 2 e.obj e.off;refine ⟨_,D,_,Uf h hN hc he k10 ⟨o1,o2⟩,h1.obj (bI o2 hc) he.obj he.off,?_,⟨rfl,rfl⟩,LU h.dd.2.2.1⟩;unfold bZ.rel;rw [if_neg k14,if_neg k7,if_neg k9,if_pos k10];rfl
 by_cases k12:e.kind=12
 ·obtain ⟨o1,o2⟩:=gK h 3 e.obj e.off;refine ⟨_,D,_,Ug h hN hc he k12 ⟨o1,o2⟩,h1.obj (bI o2 hc) he.obj he.off,?_,⟨rfl,rfl⟩,LU h.dd.2.2.1⟩;unfold bZ.rel;rw [if_neg k14,if_neg k7,if_neg k9,if_neg k10,if_pos k12];rfl
 by_cases k19:e.kind=19
 ·obtain ⟨o1,o2⟩:=gK h 5 e.obj e.off;refine ⟨_,D,_,Uk h hN hc he k19 ⟨o1,o2⟩,h1.obj (bI o2 hc) he.obj he.off,?_,⟨rfl,rfl⟩,LU h.dd.2.2.1⟩;unfold bZ.rel;rw [if_neg k14,if_neg k7,if_neg k9,if_neg k10,if_neg k12,if_pos k19];rfl
 by_cases k4:e.kind=4
 ·refine ⟨_,D,_,Vh h hN hc he k4,h1.obj hc he.obj he.off,?_,⟨rfl,rfl⟩,LU h.dd.2.2.1⟩;unfold bZ.rel;rw [if_neg k14,if_neg k7,if_neg k9,if_neg k10,if_neg k12,if_neg k19,if_pos (.inl k4)];rfl
 by_cases k5:e.kind=5
 ·refine ⟨_,D,_,Vi h hN hc he k5,h1.obj hc he.obj he.off,?_,⟨rfl,rfl⟩,LU h.dd.2.2.1⟩;unfold bZ.rel;rw [if_neg k14,if_neg k7,if_neg k9,if_neg k10,if_neg k12,if_neg k19,if_pos (.inr k5)];rfl
 have k45:¬ (e.kind=4∨e.kind=5):=fun q=>q.elim k4 k5
 have nN:∀ b,N≤b→¬ D b:=fun b hb q=>by have:=hD b q;omega
 by_cases k15:e.kind=15
 ·cases hg:t.g e.obj with
  | some v =>
    obtain ⟨b1,b2,l1,l2⟩:=v;obtain ⟨_,ri⟩:=h.ring hg;refine ⟨_,D,_,Ui h hN hc he k15 hg,(h1.wo hg hc).1,?_,⟨rfl,rfl⟩,LU ri.d1⟩;unfold bZ.rel;rw [if_neg k14,if_neg k7,if_neg k9,if_neg k10,if_neg k12,if_neg k19,if_neg k45,if_pos k15];have hr:t.p.ringAt e=(l1,l2):=by show Option.getD (Option.map _ (t.g e.obj)) _=_;rw [hg];rfl
    rw [hr]
    show bZ.mk _ _ _=bZ.mk _ _ _
    rw [xX];rfl
  | none =>
    have e1:N+8+22=N+8+22:=rfl;have hnew:=h1.Ah hg (b1:=N+8+22) (b2:=N+8+25) (m:=(e.n+1).toNat) (nN _ (by omega)) (nN _ (by omega)) (by omega) (by have:=he.n;omega)
    have hg2:DJ t.g e.obj (N+8+22,N+8+25,bD (e.n+1).toNat,bD (e.n+1).toNat) e.obj=some (N+8+22,N+8+25,bD (e.n+1).toNat,bD (e.n+1).toNat):=if_pos rfl;refine ⟨_,_,_,QX h hN hc he k15 hg rfl rfl rfl,(hnew.wo hg2 (i:=(e.k.tmod ((e.n+1).toNat:Int)).toNat) hc).1,?_,⟨rfl,rfl⟩,⟨by omega,fun b q=>.inl q,fun b q=>q.imp id (fun q=>by omega),fun b q1 q2=>?_,fun b q=>?_,fun b q=>?_⟩⟩
    ·unfold bZ.rel;rw [if_neg k14,if_neg k7,if_neg k9,if_neg k10,if_neg k12,if_neg k19,if_neg k45,if_pos k15];have hr:t.p.ringAt e=(bD (e.n+1).toNat,bD (e.n+1).toNat):=by show Option.getD (Option.map _ (t.g e.obj)) _=_;rw [hg];rfl
     rw [hr]
     show bZ.mk _ _ _=bZ.mk _ _ _
     rw [xX,xX];have hsl:dV e.k (bD (e.n+1).toNat)=(e.k.tmod ((e.n+1).toNat:Int)).toNat:=by unfold dV bD;rw [List.length_replicate]
     dsimp only;rw [hsl]
     congr 1
     funext o'
     unfold wJ;split <;> rfl
    ·rw [aB (by omega),aB (fun e:b=t.br=>q1 (e ▸ h.dd.2.2.2)),aB (by omega),aB (by omega)];exact hold b q2
    ·have:=hD _ h.dd.2.2.2;rw [aB (by omega),aB (by omega),aB (by omega),aB (by omega)];exact hf1 b q
    ·rcases q with q | q | q
     ·have:=hD b q;omega
     ·omega
     ·omega
 by_cases k17:e.kind=17
 ·cases hg:t.g e.obj with
  | some v =>
    obtain ⟨b1,b2,l1,l2⟩:=v;obtain ⟨_,ri⟩:=h.ring hg;refine ⟨_,D,_,Uj h hN hc he k17 hg,(h1.wo hg hc).2,?_,⟨rfl,rfl⟩,LU ri.d2⟩;unfold bZ.rel;rw [if_neg k14,if_neg k7,if_neg k9,if_neg k10,if_neg k12,if_neg k19,if_neg k45,if_neg k15,if_pos k17];have hr:t.p.ringAt e=(l1,l2):=by show Option.getD (Option.map _ (t.g e.obj)) _=_;rw [hg];rfl
    rw [hr]
    show bZ.mk _ _ _=bZ.mk _ _ _
    rw [xX];unfold dV;dsimp only
    try rw [ri.len]
    rfl
  | none =>
    have hnew:=h1.Ah hg (b1:=N+8+22) (b2:=N+8+25) (m:=(e.n+1).toNat) (nN _ (by omega)) (nN _ (by omega)) (by omega) (by have:=he.n;omega)
    have hg2:DJ t.g e.obj (N+8+22,N+8+25,bD (e.n+1).toNat,bD (e.n+1).toNat) e.obj=some (N+8+22,N+8+25,bD (e.n+1).toNat,bD (e.n+1).toNat):=if_pos rfl;refine ⟨_,_,_,QY h hN hc he k17 hg rfl rfl rfl,(hnew.wo hg2 (i:=(e.k.tmod ((e.n+1).toNat:Int)).toNat) hc).2,?_,⟨rfl,rfl⟩,⟨by omega,fun b q=>.inl q,fun b q=>q.imp id (fun q=>by omega),fun b q1 q2=>?_,fun b q=>?_,fun b q=>?_⟩⟩
    ·unfold bZ.rel;rw [if_neg k14,if_neg k7,if_neg k9,if_neg k10,if_neg k12,if_neg k19,if_neg k45,if_neg k15,if_pos k17];have hr:t.p.ringAt e=(bD (e.n+1).toNat,bD (e.n+1).toNat):=by show Option.getD (Option.map _ (t.g e.obj)) _=_;rw [hg];rfl
     rw [hr]
     show bZ.mk _ _ _=bZ.mk _ _ _
     rw [xX,xX];have hsl:dV e.k (bD (e.n+1).toNat)=(e.k.tmod ((e.n+1).toNat:Int)).toNat:=by unfold dV bD;rw [List.length_replicate]
     dsimp only;rw [hsl]
     congr 1
     funext o'
     unfold wJ;split <;> rfl
    ·rw [aB (by omega),aB (fun e:b=t.br=>q1 (e ▸ h.dd.2.2.2)),aB (by omega),aB (by omega)];exact hold b q2
    ·have:=hD _ h.dd.2.2.2;rw [aB (by omega),aB (by omega),aB (by omega),aB (by omega)];exact hf1 b q
    ·rcases q with q | q | q
     ·have:=hD b q;omega
     ·omega
     ·omega
 refine ⟨_,D,t,Np h hN hc ⟨k14,k7,k9,k10,k12,k19,k4,k5,k15,k17⟩,h1,?_,⟨rfl,rfl⟩,⟨by omega,fun _ q=>q,fun _ q=>.inl q,fun b _ q=>hold b q,hf1,fun b q=>by have:=hD b q;omega⟩⟩
 unfold bZ.rel;rw [if_neg k14,if_neg k7,if_neg k9,if_neg k10,if_neg k12,if_neg k19,if_neg k45,if_neg k15,if_neg k17]
end
end Go.Proofs.Ytffcpijeebagfaa
end
