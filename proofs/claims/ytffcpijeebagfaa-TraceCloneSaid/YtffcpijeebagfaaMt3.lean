/- The walk of (*trace.State).proceed. -/
import Derived.Test.YtffcpijeebagfaaMt2
import Derived.Deep.QuietTactic
import Derived.BigQuiet
set_option linter.unusedSimpArgs false
set_option linter.unusedVariables false
section
namespace Go.Proofs.Ytffcpijeebagfaa
open Go.RowKit
section
variable [KB]
structure PW (W:World) (sb bc eb b o c:Nat) (g kind obj off k en fn pc stack:Int) (k0:Int) (ln:Nat) (gobj gk gn snd rcv:Int):Prop where
 c2:W.cell? ⟨sb,2,none⟩=some (.map (some bc))
 c5:W.cell? ⟨sb,5,none⟩=some (.slice (some ⟨b,o,none⟩) ln c)
 c6:W.cell? ⟨sb,6,none⟩=some (.int .i64 gobj)
 c7:W.cell? ⟨sb,7,none⟩=some (.int .i64 gk)
 c8:W.cell? ⟨sb,8,none⟩=some (.int .i64 gn)
 c9:W.cell? ⟨sb,9,none⟩=some (.int .i64 snd)
 c10:W.cell? ⟨sb,10,none⟩=some (.int .i64 rcv)
 f5:W.frozen? ⟨sb,5,none⟩=false
 f9:W.frozen? ⟨sb,9,none⟩=false
 f10:W.frozen? ⟨sb,10,none⟩=false
 ck:W.cell? ⟨b,o,none⟩=some (.int .i64 k0)
 e0:W.cell? ⟨eb,0,none⟩=some (.int .i64 g)
 e1:W.cell? ⟨eb,1,none⟩=some (.int .i64 kind)
 e2:W.cell? ⟨eb,2,none⟩=some (.int .i64 obj)
 e3:W.cell? ⟨eb,3,none⟩=some (.int .i64 off)
 e4:W.cell? ⟨eb,4,none⟩=some (.int .i64 k)
 e5:W.cell? ⟨eb,5,none⟩=some (.int .i64 en)
 e6:W.cell? ⟨eb,6,none⟩=some (.int .i64 fn)
 e7:W.cell? ⟨eb,7,none⟩=some (.int .i64 pc)
 e8:W.cell? ⟨eb,8,none⟩=some (.int .i64 stack)
theorem PW.make {sb bc bm bd N:Nat} {s:TS} {kv:Value} {w:World} (h:TRep w sb bc bm bd N s kv) (g kind obj off k en fn pc stack:Int) (k0:Int) (ks:List Int) (hk:s.grp.kinds=k0 :: ks) :
 ∃ b o c,kv=.slice (some ⟨b,o,none⟩) (ks.length+1) c∧ks.length+1≤c∧(b≠sb∧KB.p b)∧b < w.heap.size∧(∀ i x,s.grp.kinds[i]? = some x→w.cell? ⟨b,o+i,none⟩=some (.int .i64 x)) ∧
   PW (w.alloc (.cells #[.int .i64 g,.int .i64 kind,.int .i64 obj,.int .i64 off,.int .i64 k,.int .i64 en,.int .i64 fn,.int .i64 pc,.int .i64 stack] 34)) sb bc w.heap.size b o c g kind obj off k en fn pc stack k0 (ks.length+1) s.grp.obj s.grp.k s.grp.n s.grp.snd s.grp.rcv:=by
 obtain ⟨A,c,hkv,hlc,hh⟩:=h.kinds;obtain ⟨b,o,rfl,hb,hc⟩:=hh (by rw [hk];simp)
 have hlen:s.grp.kinds.length=ks.length+1:=by rw [hk];rfl
 rw [hlen] at hkv hlc;have hck:=hc 0 k0 (by rw [hk];rfl)
 rw [Nat.add_zero] at hck;have hblt:=block_lt_of_cell hck;dsimp only at hblt;have hslt:=h.lt
 have old:∀ (q j:Nat) (v:Value) (O:Obj),q < w.heap.size→w.cell? ⟨q,j,none⟩=some v→(w.alloc O).cell? ⟨q,j,none⟩=some v:=fun q j v O hq hv=>by
  rw [World.cell?_alloc_lt w O ⟨q,j,none⟩ hq];exact hv
 have oldf:∀ (j:Nat) (O:Obj),(w.alloc O).frozen? ⟨sb,j,none⟩=false:=fun j O=>by
  rw [((Below.refl w.heap.size w).alloc (Nat.le_refl _) O).frozen (p:=⟨sb,j,none⟩) hslt];exact h.frozen j
 refine ⟨b,o,c,hkv,hlc,hb,hblt,hc,?_⟩;have nw:∀ (j:Nat) (cs:Array Value),(w.alloc (.cells cs 34)).cell? ⟨w.heap.size,j,none⟩=cs[j]?:=fun j cs=>cell_of_row _ _ _ _ _ _ (heap_alloc_new w _)
 exact ⟨old _ _ _ _ hslt (h.cell 2),old _ _ _ _ hslt (by rw [h.cell 5,←hkv];rfl),old _ _ _ _ hslt (h.cell 6),old _ _ _ _ hslt (h.cell 7),old _ _ _ _ hslt (h.cell 8),old _ _ _ _ hslt (h.cell 9),old _ _ _ _ hslt (h.cell 10),
  oldf _ _,oldf _ _,oldf _ _,old _ _ _ _ hblt hck,nw _ _,nw _ _,nw _ _,nw _ _,nw _ _,nw _ _,nw _ _,nw _ _,nw _ _⟩
theorem proceed_fin {sb bc bm bd N:Nat} {s:TS} {kv:Value} {w W2:World} (h:TRep w sb bc bm bd N s kv) (hN:N+2 < maxLen) (e:Ev) (hio:I64 e.obj)
 (hcb:∀ c,(s.chans e.obj).getD ch0=c→(0≤c.sent∧c.sent≤5000)∧(0≤c.recv∧c.recv≤5000)) {kv2:Value} {g':Grp}
 (hrow2:W2.heap[sb]? = some (.cells (TCells { s with grp:=g' } bc bm bd kv2) 92 (0,0))) (hb2:But [sb] w W2) (hk2:KindsAt W2 kv2 g'.kinds sb) :
 Calls Try.prog 94 #[.pointer (some ⟨sb,0,none⟩),e.val] W2 fun r w3=>r=.returned (.tuple #[])∧((∃ kv',TRep w3 sb bc bm bd (N+2) { s.count e with grp:=g' } kv')∧But [sb,bc] w w3):=by
 have hne:=h.chans.ne_cells h.row;have hlt:=h.lt;have hsz:=hb2.size;refine (count_any sb bc N s.chans e W2 (cell_of_row W2 sb 2 _ _ _ hrow2) (h.chans.but hb2 (by simpa using hne)) (by omega) hio hcb).mono ?_;rintro r w3 ⟨rfl,hm5,hb4⟩;have hbt:But [sb,bc] w w3:=(hb2.mono (by simp)).trans (hb4.mono (by simp));refine ⟨rfl,⟨kv2,⟨(hb4.block sb (by omega) (by simpa using Ne.symm hne)).trans hrow2,hk2.keep hb4 (fun b cs t fr hc _ hm=>?_),hm5.mono (by omega),(h.mus.but hbt ?_).mono (by omega),(h.done.but hbt ?_).mono (by omega),h.ncm,h.ncd,h.nmd⟩⟩,hbt⟩
 ·simp only [List.mem_singleton] at hm;subst hm;exact absurd rfl ((h.chans.but hb2 (by simpa using hne)).ne_cells hc)
 ·simp only [List.mem_cons,List.not_mem_nil,or_false,not_or];exact ⟨h.mus.ne_cells h.row,Ne.symm h.ncm⟩
 ·simp only [List.mem_cons,List.not_mem_nil,or_false,not_or];exact ⟨h.done.ne_cells h.row,Ne.symm h.ncd⟩
omit [KB] in
theorem below_drewN {B:Nat} {a w:World} (h:Below B a w) (n:Nat):Below B a (w.drewN n):=⟨h.os,h.tape,h.output,h.size,h.block⟩
set_option maxRecDepth 100000 in
set_option maxHeartbeats 4000000 in
theorem proceed_mis {sb bc bm bd N:Nat} {s:TS} {kv:Value} (w:World) (h:TRep w sb bc bm bd N s kv) (e:Ev) (k0:Int) (ks:List Int) (hk:s.grp.kinds=k0 :: ks)
 (hm:(e.kind != k0)=true∨((e.kind != k0)=false∧(e.obj != s.grp.obj)=true)∨((e.kind != k0)=false∧(e.obj != s.grp.obj)=false∧(e.k != s.grp.k)=true)∨((e.kind != k0)=false∧(e.obj != s.grp.obj)=false∧(e.k != s.grp.k)=false∧(e.n != s.grp.n)=true)) :
 Calls Try.prog 60 #[.pointer (some ⟨sb,0,none⟩),e.val] w fun r w'=>r=.returned (.bool false)∧Below w.heap.size w w':=by
 obtain ⟨g,kind,obj,off,k,en,fn,pc,stack⟩:=e;obtain ⟨b,o,c,hkv,hlc,⟨hbsb,hkbb⟩,hblt,hcs,hp⟩:=PW.make h g kind obj off k en fn pc stack k0 ks hk;have hsb:=h.lt;have HH:=Lib.hid h;clear h;have HK:=Lib.hid hk;clear hk;have HKV:=Lib.hid hkv;clear hkv;have HCS:=Lib.hid hcs;clear hcs;dsimp only at *;unfold Ev.val
 go_enter Try.func60,Try.ntmps60
 go_upto_region 1 with fail
 generalize hW:World.alloc w _=W at *;have hB:Below w.heap.size w W:=by rw [←hW];exact (Below.refl _ _).alloc (Nat.le_refl _) _
 have hz:w.heap.size < W.heap.size:=by rw [←hW];simp
 clear hW;have HB:=Lib.hid hB;clear hB;obtain ⟨c2,c5,c6,c7,c8,c9,c10,f5,f9,f10,ck,e0,e1,e2,e3,e4,e5,e6,e7,e8⟩:=hp
 rcases hm with h1 | ⟨h1,h2⟩ | ⟨h1,h2,h3⟩ | ⟨h1,h2,h3,h4⟩
 all_goals
  go_wp2
  go_quiet (fail)
  go_wp2
  go_ret
  exact ⟨rfl,by repeat (first | exact HB.out | refine below_drewN ?_ _)⟩
set_option maxRecDepth 100000 in
set_option maxHeartbeats 4000000 in
theorem proceed_noS {sb bc bm bd N:Nat} {s:TS} {kv:Value} (w:World) (h:TRep w sb bc bm bd N s kv) (e:Ev) (k0:Int) (ks:List Int) (hk:s.grp.kinds=k0 :: ks)
 (h1:(e.kind != k0)=false) (h2:(e.obj != s.grp.obj)=false) (h3:(e.k != s.grp.k)=false) (h4:(e.n != s.grp.n)=false) (hs:sendsB e.kind=true) (hm:(decide (s.grp.snd < 0)=true∧(e.g == s.grp.rcv)=true)∨(decide (s.grp.snd < 0)=false∧decide (0≤s.grp.snd)=true∧(e.g != s.grp.snd)=true)) :
 Calls Try.prog 60 #[.pointer (some ⟨sb,0,none⟩),e.val] w fun r w'=>r=.returned (.bool false)∧Below w.heap.size w w':=by
 obtain ⟨g,kind,obj,off,k,en,fn,pc,stack⟩:=e;obtain ⟨b,o,c,hkv,hlc,⟨hbsb,hkbb⟩,hblt,hcs,hp⟩:=PW.make h g kind obj off k en fn pc stack k0 ks hk;have hsb:=h.lt;have HH:=Lib.hid h;clear h;have HK:=Lib.hid hk;clear hk;have HKV:=Lib.hid hkv;clear hkv;have HCS:=Lib.hid hcs;clear hcs;dsimp only at *;unfold Ev.val
 go_enter Try.func60,Try.ntmps60
 go_upto_region 1 with fail
 generalize hW:World.alloc w _=W at *;have hB:Below w.heap.size w W:=by rw [←hW];exact (Below.refl _ _).alloc (Nat.le_refl _) _
 have hz:w.heap.size < W.heap.size:=by rw [←hW];simp
 clear hW;have HB:=Lib.hid hB;clear hB;obtain ⟨c2,c5,c6,c7,c8,c9,c10,f5,f9,f10,ck,e0,e1,e2,e3,e4,e5,e6,e7,e8⟩:=hp
 rcases hm with ⟨h5,h6⟩ | ⟨h5,h6,h7⟩
 all_goals
  go_wp2
  go_quiet (fail)
  go_wp2
  go_quiet (fail)
  go_wp2_with (go_at_call 93;refine (sends_any _ _).mono ?_;rintro e w' ⟨rfl,rfl⟩)
  go_quiet (fail)
  go_wp2
  go_quiet (fail)
  go_wp2
  go_ret
  exact ⟨rfl,by repeat (first | exact HB.out | refine below_drewN ?_ _)⟩
set_option maxRecDepth 100000 in
set_option maxHeartbeats 4000000 in
theorem proceed_yesS {sb bc bm bd N:Nat} {s:TS} {kv:Value} (w:World) (h:TRep w sb bc bm bd N s kv) (hN:N+2 < maxLen) (e:Ev) (hio:I64 e.obj) (k0:Int) (ks:List Int) (hk:s.grp.kinds=k0 :: ks)
 (hcb:∀ c,(s.chans e.obj).getD ch0=c→(0≤c.sent∧c.sent≤5000)∧(0≤c.recv∧c.recv≤5000))
 (h1:(e.kind != k0)=false) (h2:(e.obj != s.grp.obj)=false) (h3:(e.k != s.grp.k)=false) (h4:(e.n != s.grp.n)=false) (hs:sendsB e.kind=true) (hm:(decide (s.grp.snd < 0)=true∧(e.g == s.grp.rcv)=false∧decide (0≤s.grp.snd)=false)∨(decide (s.grp.snd < 0)=false∧decide (0≤s.grp.snd)=true∧(e.g != s.grp.snd)=false)) :
 Calls Try.prog 60 #[.pointer (some ⟨sb,0,none⟩),e.val] w fun r w'=>r=.returned (.bool true)∧(∃ kv',TRep w' sb bc bm bd (N+2) { s.count e with grp:=s.grp.next e } kv')∧But [sb,bc] w w':=by
 obtain ⟨g,kind,obj,off,k,en,fn,pc,stack⟩:=e;obtain ⟨b,o,c,hkv,hlc,⟨hbsb,hkbb⟩,hblt,hcs,hp⟩:=PW.make h g kind obj off k en fn pc stack k0 ks hk;have hsb:=h.lt;have HH:=Lib.hid h;clear h;have HK:=Lib.hid hk;clear hk;have HKV:=Lib.hid hkv;clear hkv;have HCS:=Lib.hid hcs;clear hcs;dsimp only at *;unfold Ev.val
 go_enter Try.func60,Try.ntmps60
 go_upto_region 1 with fail
 generalize hW:World.alloc w _=W at *;have hB:Below w.heap.size w W:=by rw [←hW];exact (Below.refl _ _).alloc (Nat.le_refl _) _
 have hz:w.heap.size < W.heap.size:=by rw [←hW];simp
 clear hW;have HB:=Lib.hid hB;clear hB;obtain ⟨c2,c5,c6,c7,c8,c9,c10,f5,f9,f10,ck,e0,e1,e2,e3,e4,e5,e6,e7,e8⟩:=hp;have HCB:=Lib.hid hcb;clear hcb
 rcases hm with ⟨h5,h6,h7⟩ | ⟨h5,h6,h7⟩
 all_goals
  go_wp2
  go_quiet (fail)
  go_wp2
  go_quiet (fail)
  go_wp2_with (go_at_call 93;refine (sends_any _ _).mono ?_;rintro e w' ⟨rfl,rfl⟩)
  go_quiet (fail)
  go_wp2
  go_quiet (fail)
  go_upto_region 10 with fail
  generalize hV:World.setCell _ _ _=V
  have hrow:V.heap[sb]? = some (.cells ((TCells s bc bm bd kv).setIfInBounds 9 (.int .i64 g)) 92 (0,0)):=by
   rw [←hV];exact heap_setCell_same _ _ _ _ _ _ ((HB.out.block sb hsb).trans HH.out.row)
  have hbV:But [sb] W V:=by rw [←hV];exact ((But.refl _ _).drewN _).setCell (.inl (by simp)) _
  clear hV c2 c5 c6 c7 c8 c9 c10 f5 f9 f10 ck;have ke:∀ j v,W.cell? ⟨w.heap.size,j,none⟩=some v→V.cell? ⟨w.heap.size,j,none⟩=some v:=fun j v hv=>(hbV.cell (p:=⟨w.heap.size,j,none⟩) hz (by simp;omega)).trans hv
  have e0:=ke _ _ e0;have e1:=ke _ _ e1;have e2:=ke _ _ e2;have e3:=ke _ _ e3;have e4:=ke _ _ e4;have e5:=ke _ _ e5;have e6:=ke _ _ e6;have e7:=ke _ _ e7;have e8:=ke _ _ e8;have c5:V.cell? ⟨sb,5,none⟩=some (.slice (some ⟨b,o,none⟩) (ks.length+1) c):=by rw [cell_of_row V sb 5 _ _ _ hrow,←HKV.out];rfl
  have f5:V.frozen? ⟨sb,5,none⟩=false:=frozen_of_row V sb 5 _ _ hrow;have HR:=Lib.hid hrow;clear hrow ke;have HBV:=Lib.hid hbV;clear hbV
  by_cases hc1:c=1
  ·subst hc1
   go_wp2_with fail
   have hks:ks=[]:=by cases ks with | nil=>rfl | cons a l=>simp at hlc
   generalize hW2:World.setCell V _ _=W2
   have hrow2:W2.heap[sb]? = some (.cells (TCells { s with grp:=s.grp.next ⟨g,kind,obj,off,k,en,fn,pc,stack⟩ } bc bm bd (.slice (some ⟨b,o,none⟩) 0 0)) 92 (0,0)):=by
    rw [←hW2,heap_setCell_same _ _ _ _ _ _ HR.out];simp [TCells,Grp.next,hs]
   have hb2:But [sb] w W2:=by
    rw [←hW2];exact (((But.refl _ _).below HB.out).trans HBV.out).setCell (.inl (by simp)) _
   clear hW2
   have hk2:KindsAt W2 (.slice (some ⟨b,o,none⟩) 0 0) (s.grp.next ⟨g,kind,obj,off,k,en,fn,pc,stack⟩).kinds sb:=by
    have hkk:(s.grp.next ⟨g,kind,obj,off,k,en,fn,pc,stack⟩).kinds=[]:=by simp [Grp.next,hs,HK.out,hks]
    rw [hkk];exact ⟨_,_,rfl,Nat.le_refl _,fun h0=>absurd h0 (by simp)⟩
   refine (proceed_fin HH.out hN ⟨g,kind,obj,off,k,en,fn,pc,stack⟩ hio HCB.out hrow2 hb2 hk2).mono ?_;rintro r w3 ⟨rfl,hfin⟩;have HF:=Lib.hid hfin;clear hfin hrow2 hb2 hk2
   go_wp2
   go_ret
   exact ⟨rfl,HF.out⟩
  ·have hc2:1 < c:=by omega
   go_wp2_with fail
   generalize hW2:World.setCell V _ _=W2
   have hrow2:W2.heap[sb]? = some (.cells (TCells { s with grp:=s.grp.next ⟨g,kind,obj,off,k,en,fn,pc,stack⟩ } bc bm bd (.slice (some ⟨b,o+1,none⟩) ks.length (c - 1))) 92 (0,0)):=by
    rw [←hW2,heap_setCell_same _ _ _ _ _ _ HR.out];simp [TCells,Grp.next,hs]
   have hb2:But [sb] w W2:=by
    rw [←hW2];exact (((But.refl _ _).below HB.out).trans HBV.out).setCell (.inl (by simp)) _
   clear hW2
   have hk2:KindsAt W2 (.slice (some ⟨b,o+1,none⟩) ks.length (c - 1)) (s.grp.next ⟨g,kind,obj,off,k,en,fn,pc,stack⟩).kinds sb:=by
    have hkk:(s.grp.next ⟨g,kind,obj,off,k,en,fn,pc,stack⟩).kinds=ks:=by simp [Grp.next,hs,HK.out]
    rw [hkk];refine ⟨_,_,rfl,by omega,fun h0=>⟨b,o+1,rfl,⟨hbsb,hkbb⟩,fun i x hx=>?_⟩⟩;have hx0:=HCS.out (i+1) x (by rw [HK.out];simpa using hx)
    rw [show o+1+i=o+(i+1) by omega];exact (hb2.cell (p:=⟨b,o+(i+1),none⟩) hblt (by simpa using hbsb)).trans hx0
   refine (proceed_fin HH.out hN ⟨g,kind,obj,off,k,en,fn,pc,stack⟩ hio HCB.out hrow2 hb2 hk2).mono ?_;rintro r w3 ⟨rfl,hfin⟩;have HF:=Lib.hid hfin;clear hfin hrow2 hb2 hk2
   go_wp2
   go_ret
   exact ⟨rfl,HF.out⟩
set_option maxRecDepth 100000 in
set_option maxHeartbeats 4000000 in
theorem proceed_noR {sb bc bm bd N:Nat} {s:TS} {kv:Value} (w:World) (h:TRep w sb bc bm bd N s kv) (e:Ev) (k0:Int) (ks:List Int) (hk:s.grp.kinds=k0 :: ks)
 (h1:(e.kind != k0)=false) (h2:(e.obj != s.grp.obj)=false) (h3:(e.k != s.grp.k)=false) (h4:(e.n != s.grp.n)=false) (hs:sendsB e.kind=false) (hm:(decide (s.grp.rcv < 0)=true∧(e.g == s.grp.snd)=true)∨(decide (s.grp.rcv < 0)=false∧decide (0≤s.grp.rcv)=true∧(e.g != s.grp.rcv)=true)) :
 Calls Try.prog 60 #[.pointer (some ⟨sb,0,none⟩),e.val] w fun r w'=>r=.returned (.bool false)∧Below w.heap.size w w':=by
 obtain ⟨g,kind,obj,off,k,en,fn,pc,stack⟩:=e;obtain ⟨b,o,c,hkv,hlc,⟨hbsb,hkbb⟩,hblt,hcs,hp⟩:=PW.make h g kind obj off k en fn pc stack k0 ks hk;have hsb:=h.lt;have HH:=Lib.hid h;clear h;have HK:=Lib.hid hk;clear hk;have HKV:=Lib.hid hkv;clear hkv;have HCS:=Lib.hid hcs;clear hcs;dsimp only at *;unfold Ev.val
 go_enter Try.func60,Try.ntmps60
 go_upto_region 1 with fail
 generalize hW:World.alloc w _=W at *;have hB:Below w.heap.size w W:=by rw [←hW];exact (Below.refl _ _).alloc (Nat.le_refl _) _
 have hz:w.heap.size < W.heap.size:=by rw [←hW];simp
 clear hW;have HB:=Lib.hid hB;clear hB;obtain ⟨c2,c5,c6,c7,c8,c9,c10,f5,f9,f10,ck,e0,e1,e2,e3,e4,e5,e6,e7,e8⟩:=hp
 rcases hm with ⟨h5,h6⟩ | ⟨h5,h6,h7⟩
 all_goals
  go_wp2
  go_quiet (fail)
  go_wp2
  go_quiet (fail)
  go_wp2_with (go_at_call 93;refine (sends_any _ _).mono ?_;rintro e w' ⟨rfl,rfl⟩)
  go_quiet (fail)
  go_wp2
  go_ret
  exact ⟨rfl,by repeat (first | exact HB.out | refine below_drewN ?_ _)⟩
set_option maxRecDepth 100000 in
set_option maxHeartbeats 4000000 in
theorem proceed_yesR {sb bc bm bd N:Nat} {s:TS} {kv:Value} (w:World) (h:TRep w sb bc bm bd N s kv) (hN:N+2 < maxLen) (e:Ev) (hio:I64 e.obj) (k0:Int) (ks:List Int) (hk:s.grp.kinds=k0 :: ks)
 (hcb:∀ c,(s.chans e.obj).getD ch0=c→(0≤c.sent∧c.sent≤5000)∧(0≤c.recv∧c.recv≤5000))
 (h1:(e.kind != k0)=false) (h2:(e.obj != s.grp.obj)=false) (h3:(e.k != s.grp.k)=false) (h4:(e.n != s.grp.n)=false) (hs:sendsB e.kind=false) (hm:(decide (s.grp.rcv < 0)=true∧(e.g == s.grp.snd)=false∧decide (0≤s.grp.rcv)=false)∨(decide (s.grp.rcv < 0)=false∧decide (0≤s.grp.rcv)=true∧(e.g != s.grp.rcv)=false)) :
 Calls Try.prog 60 #[.pointer (some ⟨sb,0,none⟩),e.val] w fun r w'=>r=.returned (.bool true)∧(∃ kv',TRep w' sb bc bm bd (N+2) { s.count e with grp:=s.grp.next e } kv')∧But [sb,bc] w w':=by
 obtain ⟨g,kind,obj,off,k,en,fn,pc,stack⟩:=e;obtain ⟨b,o,c,hkv,hlc,⟨hbsb,hkbb⟩,hblt,hcs,hp⟩:=PW.make h g kind obj off k en fn pc stack k0 ks hk;have hsb:=h.lt;have HH:=Lib.hid h;clear h;have HK:=Lib.hid hk;clear hk;have HKV:=Lib.hid hkv;clear hkv;have HCS:=Lib.hid hcs;clear hcs;dsimp only at *;unfold Ev.val
 go_enter Try.func60,Try.ntmps60
 go_upto_region 1 with fail
 generalize hW:World.alloc w _=W at *;have hB:Below w.heap.size w W:=by rw [←hW];exact (Below.refl _ _).alloc (Nat.le_refl _) _
 have hz:w.heap.size < W.heap.size:=by rw [←hW];simp
 clear hW;have HB:=Lib.hid hB;clear hB;obtain ⟨c2,c5,c6,c7,c8,c9,c10,f5,f9,f10,ck,e0,e1,e2,e3,e4,e5,e6,e7,e8⟩:=hp;have HCB:=Lib.hid hcb;clear hcb
 rcases hm with ⟨h5,h6,h7⟩ | ⟨h5,h6,h7⟩
 all_goals
  go_wp2
  go_quiet (fail)
  go_wp2
  go_quiet (fail)
  go_wp2_with (go_at_call 93;refine (sends_any _ _).mono ?_;rintro e w' ⟨rfl,rfl⟩)
  go_quiet (fail)
  go_upto_region 10 with fail
  generalize hV:World.setCell _ _ _=V
  have hrow:V.heap[sb]? = some (.cells ((TCells s bc bm bd kv).setIfInBounds 10 (.int .i64 g)) 92 (0,0)):=by
   rw [←hV];exact heap_setCell_same _ _ _ _ _ _ ((HB.out.block sb hsb).trans HH.out.row)
  have hbV:But [sb] W V:=by rw [←hV];exact ((But.refl _ _).drewN _).setCell (.inl (by simp)) _
  clear hV c2 c5 c6 c7 c8 c9 c10 f5 f9 f10 ck;have ke:∀ j v,W.cell? ⟨w.heap.size,j,none⟩=some v→V.cell? ⟨w.heap.size,j,none⟩=some v:=fun j v hv=>(hbV.cell (p:=⟨w.heap.size,j,none⟩) hz (by simp;omega)).trans hv
  have e0:=ke _ _ e0;have e1:=ke _ _ e1;have e2:=ke _ _ e2;have e3:=ke _ _ e3;have e4:=ke _ _ e4;have e5:=ke _ _ e5;have e6:=ke _ _ e6;have e7:=ke _ _ e7;have e8:=ke _ _ e8;have c5:V.cell? ⟨sb,5,none⟩=some (.slice (some ⟨b,o,none⟩) (ks.length+1) c):=by rw [cell_of_row V sb 5 _ _ _ hrow,←HKV.out];rfl
  have f5:V.frozen? ⟨sb,5,none⟩=false:=frozen_of_row V sb 5 _ _ hrow;have HR:=Lib.hid hrow;clear hrow ke;have HBV:=Lib.hid hbV;clear hbV
  by_cases hc1:c=1
  ·subst hc1
   go_wp2_with fail
   have hks:ks=[]:=by cases ks with | nil=>rfl | cons a l=>simp at hlc
   generalize hW2:World.setCell V _ _=W2
   have hrow2:W2.heap[sb]? = some (.cells (TCells { s with grp:=s.grp.next ⟨g,kind,obj,off,k,en,fn,pc,stack⟩ } bc bm bd (.slice (some ⟨b,o,none⟩) 0 0)) 92 (0,0)):=by
    rw [←hW2,heap_setCell_same _ _ _ _ _ _ HR.out];simp [TCells,Grp.next,hs]
   have hb2:But [sb] w W2:=by
    rw [←hW2];exact (((But.refl _ _).below HB.out).trans HBV.out).setCell (.inl (by simp)) _
   clear hW2
   have hk2:KindsAt W2 (.slice (some ⟨b,o,none⟩) 0 0) (s.grp.next ⟨g,kind,obj,off,k,en,fn,pc,stack⟩).kinds sb:=by
    have hkk:(s.grp.next ⟨g,kind,obj,off,k,en,fn,pc,stack⟩).kinds=[]:=by simp [Grp.next,hs,HK.out,hks]
    rw [hkk];exact ⟨_,_,rfl,Nat.le_refl _,fun h0=>absurd h0 (by simp)⟩
   refine (proceed_fin HH.out hN ⟨g,kind,obj,off,k,en,fn,pc,stack⟩ hio HCB.out hrow2 hb2 hk2).mono ?_;rintro r w3 ⟨rfl,hfin⟩;have HF:=Lib.hid hfin;clear hfin hrow2 hb2 hk2
   go_wp2
   go_ret
   exact ⟨rfl,HF.out⟩
  ·have hc2:1 < c:=by omega
   go_wp2_with fail
   generalize hW2:World.setCell V _ _=W2
   have hrow2:W2.heap[sb]? = some (.cells (TCells { s with grp:=s.grp.next ⟨g,kind,obj,off,k,en,fn,pc,stack⟩ } bc bm bd (.slice (some ⟨b,o+1,none⟩) ks.length (c - 1))) 92 (0,0)):=by
    rw [←hW2,heap_setCell_same _ _ _ _ _ _ HR.out];simp [TCells,Grp.next,hs]
   have hb2:But [sb] w W2:=by
    rw [←hW2];exact (((But.refl _ _).below HB.out).trans HBV.out).setCell (.inl (by simp)) _
   clear hW2
   have hk2:KindsAt W2 (.slice (some ⟨b,o+1,none⟩) ks.length (c - 1)) (s.grp.next ⟨g,kind,obj,off,k,en,fn,pc,stack⟩).kinds sb:=by
    have hkk:(s.grp.next ⟨g,kind,obj,off,k,en,fn,pc,stack⟩).kinds=ks:=by simp [Grp.next,hs,HK.out]
    rw [hkk];refine ⟨_,_,rfl,by omega,fun h0=>⟨b,o+1,rfl,⟨hbsb,hkbb⟩,fun i x hx=>?_⟩⟩;have hx0:=HCS.out (i+1) x (by rw [HK.out];simpa using hx)
    rw [show o+1+i=o+(i+1) by omega];exact (hb2.cell (p:=⟨b,o+(i+1),none⟩) hblt (by simpa using hbsb)).trans hx0
   refine (proceed_fin HH.out hN ⟨g,kind,obj,off,k,en,fn,pc,stack⟩ hio HCB.out hrow2 hb2 hk2).mono ?_;rintro r w3 ⟨rfl,hfin⟩;have HF:=Lib.hid hfin;clear hfin hrow2 hb2 hk2
   go_wp2
   go_ret
   exact ⟨rfl,HF.out⟩
theorem proceed_any {sb bc bm bd N:Nat} {s:TS} {kv:Value} (w:World) (h:TRep w sb bc bm bd N s kv) (hs:s.wf) (hN:N+2 < maxLen) (e:Ev) (hv:e.valid=true) (ho:s.isOpen=true) :
 Calls Try.prog 60 #[.pointer (some ⟨sb,0,none⟩),e.val] w fun r w'=>r=.returned (.bool (s.proceed e).isSome)∧(∃ kv',TRep w' sb bc bm bd (N+2) ((s.proceed e).getD s) kv')∧But [sb,bc] w w':=by
 obtain ⟨k0,ks,hk⟩:∃ k0 ks,s.grp.kinds=k0 :: ks:=by
  unfold TS.isOpen at ho
  cases hkk:s.grp.kinds with
  | nil=>rw [hkk] at ho;simp at ho
  | cons a l=>exact ⟨a,l,rfl⟩
 have hio:I64 e.obj:=by have:=Ev.valid_obj hv;exact ⟨by omega,by omega⟩
 have hcb:∀ c,(s.chans e.obj).getD ch0=c→(0≤c.sent∧c.sent≤5000)∧(0≤c.recv∧c.recv≤5000):=by
  rintro c rfl;have:=hs.ev
  cases hc:s.chans e.obj with
  | none=>simp [ch0]
  | some c=>have:=hs.ch _ _ hc;simp only [Option.getD_some];omega
 have no:s.proceed e=none→∀ {P:Prop},(Calls Try.prog 60 #[.pointer (some ⟨sb,0,none⟩),e.val] w fun r w'=>r=.returned (.bool false)∧Below w.heap.size w w') →
  Calls Try.prog 60 #[.pointer (some ⟨sb,0,none⟩),e.val] w fun r w'=>r=.returned (.bool (s.proceed e).isSome)∧(∃ kv',TRep w' sb bc bm bd (N+2) ((s.proceed e).getD s) kv')∧But [sb,bc] w w':=fun hn _ hc=>by
  rw [hn];exact hc.mono fun r w' ⟨h1,h2⟩=>⟨h1,⟨kv,(h.below h2).mono (by omega)⟩,(But.refl _ _).below h2⟩
 have hfd:s.grp.fits e=(decide (e.kind=k0∧e.obj=s.grp.obj∧e.k=s.grp.k∧e.n=s.grp.n) && !(decide (s.grp.own e.kind < 0∧e.g=s.grp.other e.kind) || decide (0≤s.grp.own e.kind∧e.g≠s.grp.own e.kind))):=by
  unfold Grp.fits;rw [hk];rfl
 by_cases m1:e.kind=k0∧e.obj=s.grp.obj∧e.k=s.grp.k∧e.n=s.grp.n
 ·obtain ⟨a1,a2,a3,a4⟩:=m1;have b1:(e.kind != k0)=false:=by simp [a1]
  have b2:(e.obj != s.grp.obj)=false:=by simp [a2]
  have b3:(e.k != s.grp.k)=false:=by simp [a3]
  have b4:(e.n != s.grp.n)=false:=by simp [a4]
  rw [decide_eq_true (⟨a1,a2,a3,a4⟩:_∧_∧_∧_),Bool.true_and] at hfd
  cases hsd:sendsB e.kind with
  | true =>
    have own:s.grp.own e.kind=s.grp.snd:=by unfold Grp.own;rw [if_pos hsd]
    have oth:s.grp.other e.kind=s.grp.rcv:=by unfold Grp.other;rw [if_pos hsd]
    rw [own,oth] at hfd
    by_cases q1:s.grp.snd < 0
    ·by_cases q2:e.g=s.grp.rcv
     ·refine no ?_ (P:=True) (proceed_noS w h e k0 ks hk b1 b2 b3 b4 hsd (.inl ⟨by simpa using q1,by simpa using q2⟩));unfold TS.proceed;rw [if_neg];rw [hfd];simp [q1,q2]
     ·have hy:s.proceed e=some { s.count e with grp:=s.grp.next e }:=by
       unfold TS.proceed;rw [if_pos];rw [hfd];simp [q2];omega
      rw [hy];exact proceed_yesS w h hN e hio k0 ks hk hcb b1 b2 b3 b4 hsd (.inl ⟨by simpa using q1,by simpa using q2,by simpa using q1⟩)
    ·by_cases q2:e.g=s.grp.snd
     ·have hy:s.proceed e=some { s.count e with grp:=s.grp.next e }:=by
       unfold TS.proceed;rw [if_pos];rw [hfd];simp [q2];omega
      rw [hy];exact proceed_yesS w h hN e hio k0 ks hk hcb b1 b2 b3 b4 hsd (.inr ⟨by simpa using q1,by simp;omega,by simpa using q2⟩)
     ·refine no ?_ (P:=True) (proceed_noS w h e k0 ks hk b1 b2 b3 b4 hsd (.inr ⟨by simpa using q1,by simp;omega,by simpa using q2⟩))
      unfold TS.proceed;rw [if_neg];rw [hfd];simp [q2];omega
  | false =>
    have own:s.grp.own e.kind=s.grp.rcv:=by unfold Grp.own;rw [if_neg (by rw [hsd];decide)]
    have oth:s.grp.other e.kind=s.grp.snd:=by unfold Grp.other;rw [if_neg (by rw [hsd];decide)]
    rw [own,oth] at hfd
    by_cases q1:s.grp.rcv < 0
    ·by_cases q2:e.g=s.grp.snd
     ·refine no ?_ (P:=True) (proceed_noR w h e k0 ks hk b1 b2 b3 b4 hsd (.inl ⟨by simpa using q1,by simpa using q2⟩));unfold TS.proceed;rw [if_neg];rw [hfd];simp [q1,q2]
     ·have hy:s.proceed e=some { s.count e with grp:=s.grp.next e }:=by
       unfold TS.proceed;rw [if_pos];rw [hfd];simp [q2];omega
      rw [hy];exact proceed_yesR w h hN e hio k0 ks hk hcb b1 b2 b3 b4 hsd (.inl ⟨by simpa using q1,by simpa using q2,by simpa using q1⟩)
    ·by_cases q2:e.g=s.grp.rcv
     ·have hy:s.proceed e=some { s.count e with grp:=s.grp.next e }:=by
       unfold TS.proceed;rw [if_pos];rw [hfd];simp [q2];omega
      rw [hy];exact proceed_yesR w h hN e hio k0 ks hk hcb b1 b2 b3 b4 hsd (.inr ⟨by simpa using q1,by simp;omega,by simpa using q2⟩)
     ·refine no ?_ (P:=True) (proceed_noR w h e k0 ks hk b1 b2 b3 b4 hsd (.inr ⟨by simpa using q1,by simp;omega,by simpa using q2⟩))
      unfold TS.proceed;rw [if_neg];rw [hfd];simp [q2];omega
 ·refine no ?_ (P:=True) (proceed_mis w h e k0 ks hk ?_)
  ·unfold TS.proceed;rw [if_neg];rw [hfd,decide_eq_false m1];simp
  ·by_cases a1:e.kind=k0
   ·by_cases a2:e.obj=s.grp.obj
    ·by_cases a3:e.k=s.grp.k
     ·have a4:e.n≠s.grp.n:=fun a4=>m1 ⟨a1,a2,a3,a4⟩
      exact .inr (.inr (.inr ⟨by simp [a1],by simp [a2],by simp [a3],by simpa using a4⟩))
     ·exact .inr (.inr (.inl ⟨by simp [a1],by simp [a2],by simpa using a3⟩))
    ·exact .inr (.inl ⟨by simp [a1],by simpa using a2⟩)
   ·exact .inl (by simpa using a1)
end
end Go.Proofs.Ytffcpijeebagfaa
end
section
namespace Go.Proofs.Ytffcpijeebagfaa
section
variable {s:TS} {g kind obj off k en fn pc stack readers:Int} {locked:Bool}
 (hm:s.mu ⟨g,kind,obj,off,k,en,fn,pc,stack⟩=⟨locked,readers⟩)
include hm
theorem TS.si_eq:s.simple ⟨g,kind,obj,off,k,en,fn,pc,stack⟩ =
 if kind=6 then (if locked=true∨0 < readers then none else some { s with mus:=upd s.mus (obj,off) ⟨true,readers⟩ })
 else if kind=7 then (if locked=false then none else some { s with mus:=upd s.mus (obj,off) ⟨false,readers⟩ })
 else if kind=8 then (if locked=true then none else some { s with mus:=upd s.mus (obj,off) ⟨locked,readers+1⟩ })
 else if kind=9 then (if readers=0 then none else some { s with mus:=upd s.mus (obj,off) ⟨locked,readers - 1⟩ })
 else if kind=12 then (if (s.done (obj,off)).getD false=true then none else some { s with done:=upd s.done (obj,off) true })
 else if kind=13 then (if (s.done (obj,off)).getD false=true then some s else none)
 else if kind=14 then (if k≠s.gor then none else some { s with gor:=s.gor+1 })
 else some s:=by
 unfold TS.simple;rw [hm]
theorem TS.si_6a (h1:(kind == 6)=true) (h2:locked=true):s.simple ⟨g,kind,obj,off,k,en,fn,pc,stack⟩=none:=by rw [TS.si_eq hm];simp_all
theorem TS.si_6b (h1:(kind == 6)=true) (h2:0 < readers):s.simple ⟨g,kind,obj,off,k,en,fn,pc,stack⟩=none:=by rw [TS.si_eq hm];simp_all
theorem TS.si_6c (h1:(kind == 6)=true) (h2:¬locked=true) (h3:readers≤0):s.simple ⟨g,kind,obj,off,k,en,fn,pc,stack⟩=some { s with mus:=upd s.mus (obj,off) ⟨true,readers⟩ }:=by
 rw [TS.si_eq hm,if_pos (by simpa using h1),if_neg (by rw [not_or];exact ⟨h2,by omega⟩)]
theorem TS.si_7a (h1:(kind == 7)=true) (h2:(!locked)=true):s.simple ⟨g,kind,obj,off,k,en,fn,pc,stack⟩=none:=by rw [TS.si_eq hm];simp_all
theorem TS.si_7b (h1:(kind == 7)=true) (h2:(!locked)=false):s.simple ⟨g,kind,obj,off,k,en,fn,pc,stack⟩=some { s with mus:=upd s.mus (obj,off) ⟨false,readers⟩ }:=by rw [TS.si_eq hm];simp_all
theorem TS.si_8a (h1:(kind == 8)=true) (h2:locked=true):s.simple ⟨g,kind,obj,off,k,en,fn,pc,stack⟩=none:=by rw [TS.si_eq hm];simp_all
theorem TS.si_8b (h1:(kind == 8)=true) (h2:locked=false):s.simple ⟨g,kind,obj,off,k,en,fn,pc,stack⟩=some { s with mus:=upd s.mus (obj,off) ⟨locked,readers+1⟩ }:=by rw [TS.si_eq hm];simp_all
theorem TS.si_9a (h1:(kind == 9)=true) (h2:(readers == 0)=true):s.simple ⟨g,kind,obj,off,k,en,fn,pc,stack⟩=none:=by rw [TS.si_eq hm];simp_all
theorem TS.si_9b (h1:(kind == 9)=true) (h2:(readers == 0)=false):s.simple ⟨g,kind,obj,off,k,en,fn,pc,stack⟩=some { s with mus:=upd s.mus (obj,off) ⟨locked,readers - 1⟩ }:=by rw [TS.si_eq hm];simp_all
theorem TS.si_12 (h1:(kind == 12)=true):s.simple ⟨g,kind,obj,off,k,en,fn,pc,stack⟩=if (s.done (obj,off)).getD false=true then none else some { s with done:=upd s.done (obj,off) true }:=by
 have hk:kind=12:=by simpa using h1
 subst hk;rw [TS.si_eq hm];simp
theorem TS.si_13 (h1:(kind == 13)=true):s.simple ⟨g,kind,obj,off,k,en,fn,pc,stack⟩=if (s.done (obj,off)).getD false=true then some s else none:=by
 have hk:kind=13:=by simpa using h1
 subst hk;rw [TS.si_eq hm];simp
theorem TS.si_14a (h1:(kind == 14)=true) (h2:(k != s.gor)=true):s.simple ⟨g,kind,obj,off,k,en,fn,pc,stack⟩=none:=by rw [TS.si_eq hm];simp_all
theorem TS.si_14b (h1:(kind == 14)=true) (h2:(k != s.gor)=false):s.simple ⟨g,kind,obj,off,k,en,fn,pc,stack⟩=some { s with gor:=s.gor+1 }:=by rw [TS.si_eq hm];simp_all
theorem TS.si_no (h6:(kind == 6)=false) (h7:(kind == 7)=false) (h8:(kind == 8)=false) (h9:(kind == 9)=false) (h12:(kind == 12)=false) (h13:(kind == 13)=false) (h14:(kind == 14)=false) :
 s.simple ⟨g,kind,obj,off,k,en,fn,pc,stack⟩=some s:=by rw [TS.si_eq hm];simp_all
end
end Go.Proofs.Ytffcpijeebagfaa
end
section
namespace Go.Proofs.Ytffcpijeebagfaa
open Go.RowKit
section
variable [KB]
set_option maxRecDepth 100000 in
set_option maxHeartbeats 4000000 in
theorem simple_any {sb bc bm bd N:Nat} {s:TS} {kv:Value} (w:World) (h:TRep w sb bc bm bd N s kv) (hs:s.wf) (hN:N+2 < maxLen) (e:Ev) (hv:e.valid=true) :
 Calls Try.prog 63 #[.pointer (some ⟨sb,0,none⟩),e.val] w fun r w'=>r=.returned (.bool (s.simple e).isSome)∧(∃ kv',TRep w' sb bc bm bd (N+2) ((s.simple e).getD s) kv')∧But [sb,bm,bd] w w':=by
 have hbd:=TS.mu_bd hs e;have hvo:=Ev.valid_obj hv;have hvf:=Ev.valid_off hv;have hio:(Lit.int .i64 e.obj).wf=true∧(Lit.int .i64 e.off).wf=true:=⟨wf_i64 ⟨by omega,by omega⟩,wf_i64 ⟨by omega,by omega⟩⟩;have hval:((muMap s.mus (e.obj,e.off)).getD mu0.val)=(s.mu e).val:=by unfold muMap TS.mu;cases s.mus (e.obj,e.off) <;> rfl
 obtain ⟨m,hm0⟩:∃ m,s.mu e=m:=⟨_,rfl⟩
 rw [hm0] at hval hbd;have hev:=hs.ev;have hgr:=hs.gr;have c1:w.cell? ⟨sb,1,none⟩=some (.int .i64 s.gor):=h.cell 1;have c3:w.cell? ⟨sb,3,none⟩=some (.map (some bm)):=h.cell 3;have c4:w.cell? ⟨sb,4,none⟩=some (.map (some bd)):=h.cell 4;have hlt:=h.lt;have hmm:=h.mus;have HH:=Lib.hid h;clear h;have HS:=Lib.hid hs;clear hs;have HM0:=Lib.hid hm0;clear hm0;obtain ⟨g,kind,obj,off,k,en,fn,pc,stack⟩:=e;obtain ⟨locked,readers⟩:=m;dsimp only at *
 have hl:∀ o1 o2:Obj,(Instr.lookup 87 (.map (some bm)) (.agg #[.int .i64 obj,.int .i64 off]) false).run Try.prog (((w.alloc o1).alloc o2).drew)=.ok (.agg #[.bool locked,.int .i64 readers]) (((w.alloc o1).alloc o2).drew):=fun o1 o2=>by
  have h1:MapOf locV ((w.alloc o1).alloc o2).drew Try.prog 98 bm N (muMap s.mus):=(hmm.alloc o1).alloc o2;have h2:=h1.look keyL Try.underlying87 zeroMu (obj,off) hio;rw [hval] at h2;exact h2
 have hl2:∀ o1 o2 o3:Obj,(Instr.lookup 87 (.map (some bm)) (.agg #[.int .i64 obj,.int .i64 off]) false).run Try.prog ((((w.alloc o1).alloc o2).alloc o3).drew)=.ok (.agg #[.bool locked,.int .i64 readers]) ((((w.alloc o1).alloc o2).alloc o3).drew):=fun o1 o2 o3=>by
  have h1:MapOf locV (((w.alloc o1).alloc o2).alloc o3).drew Try.prog 98 bm N (muMap s.mus):=((hmm.alloc o1).alloc o2).alloc o3;have h2:=h1.look keyL Try.underlying87 zeroMu (obj,off) hio;rw [hval] at h2;exact h2
 have HM:=Lib.hid hmm;clear hmm;have HV:=Lib.hid hval;clear hval;have HIO:=Lib.hid hio;clear hio;have hlt1:sb < w.heap.size+1:=by omega
 unfold Ev.val
 go_enter Try.func63,Try.ntmps63
 go_wp2
 go_region
 go_upto_block 0 with fail
 generalize hW:World.drew _=W;have hb0:Below w.heap.size w W:=by rw [←hW];exact ((((Below.refl _ _).alloc (Nat.le_refl _) _).alloc (by simp) _).alloc (by simp;omega) _).drew
 have hz:w.heap.size+2 < W.heap.size:=by rw [←hW];simp
 have e0:W.cell? ⟨w.heap.size,4,none⟩=some (.int .i64 k):=by rw [←hW];simp [go_sem]
 have l0:W.cell? ⟨w.heap.size+1,0,none⟩=some (.int .i64 obj):=by rw [←hW];simp [go_sem]
 have l1:W.cell? ⟨w.heap.size+1,1,none⟩=some (.int .i64 off):=by rw [←hW];simp [go_sem]
 have m0:W.cell? ⟨w.heap.size+2,0,none⟩=some (.bool locked):=by rw [←hW];simp [go_sem]
 have m1:W.cell? ⟨w.heap.size+2,1,none⟩=some (.int .i64 readers):=by rw [←hW];simp [go_sem]
 have mf:∀ j,W.frozen? ⟨w.heap.size+2,j,none⟩=false:=fun j=>by rw [←hW];simp [go_sem]
 clear hW;have d1:W.cell? ⟨sb,1,none⟩=some (.int .i64 s.gor):=(hb0.cell (p:=⟨sb,1,none⟩) hlt).trans c1;have d3:W.cell? ⟨sb,3,none⟩=some (.map (some bm)):=(hb0.cell (p:=⟨sb,3,none⟩) hlt).trans c3;have d4:W.cell? ⟨sb,4,none⟩=some (.map (some bd)):=(hb0.cell (p:=⟨sb,4,none⟩) hlt).trans c4;clear hl hl2 c1 c3 c4;have HB0:=Lib.hid hb0;clear hb0;have d1f:W.frozen? ⟨sb,1,none⟩=false:=(HB0.out.frozen (p:=⟨sb,1,none⟩) hlt).trans (HH.out.frozen 1);obtain ⟨dn,hdn⟩:∃ dn,(s.done (obj,off)).getD false=dn:=⟨_,rfl⟩
 have hdl:(Instr.lookup 88 (.map (some bd)) (.agg #[.int .i64 obj,.int .i64 off]) false).run Try.prog W.drew=.ok (.bool dn) W.drew:=by
  have h1:MapOf locV W.drew Try.prog 98 bd N (doneMap s.done):=HH.out.done.keep (HB0.out.block bd HH.out.done.lt);have h2:=h1.look keyL Try.underlying88 zeroB (obj,off) HIO.out;have h3:((doneMap s.done (obj,off)).getD (.bool false))=.bool dn:=by rw [←hdn];unfold doneMap;cases s.done (obj,off) <;> rfl
  rw [h3] at h2;exact h2
 have HDN:=Lib.hid hdn;clear hdn
 have hno:∀ w':World,s.simple ⟨g,kind,obj,off,k,en,fn,pc,stack⟩=none→Below w.heap.size w w'→Ending.returned (.bool false)=.returned (.bool (s.simple ⟨g,kind,obj,off,k,en,fn,pc,stack⟩).isSome)∧(∃ kv',TRep w' sb bc bm bd (N+2) ((s.simple ⟨g,kind,obj,off,k,en,fn,pc,stack⟩).getD s) kv')∧But [sb,bm,bd] w w':=fun w' ho hb=>by
  rw [ho];exact ⟨rfl,⟨kv,(HH.out.below hb).mono (by omega)⟩,(But.refl _ _).below hb⟩
 have HNO:=Lib.hid hno;clear hno
 have hsame:∀ w':World,s.simple ⟨g,kind,obj,off,k,en,fn,pc,stack⟩=some s→Below w.heap.size w w'→Ending.returned (.bool true)=.returned (.bool (s.simple ⟨g,kind,obj,off,k,en,fn,pc,stack⟩).isSome)∧(∃ kv',TRep w' sb bc bm bd (N+2) ((s.simple ⟨g,kind,obj,off,k,en,fn,pc,stack⟩).getD s) kv')∧But [sb,bm,bd] w w':=fun w' ho hb=>by
  rw [ho];exact ⟨rfl,⟨kv,(HH.out.below hb).mono (by omega)⟩,(But.refl _ _).below hb⟩
 have HSA:=Lib.hid hsame;clear hsame
 go_cut [] (fun wx=>∃ (lk':Bool) (rd':Int),s.simple ⟨g,kind,obj,off,k,en,fn,pc,stack⟩=some { s with mus:=upd s.mus (obj,off) ⟨lk',rd'⟩ }∧Below w.heap.size w wx∧w.heap.size+2 < wx.heap.size ∧
  wx.cell? ⟨w.heap.size+1,0,none⟩=some (.int .i64 obj)∧wx.cell? ⟨w.heap.size+1,1,none⟩=some (.int .i64 off)∧wx.cell? ⟨w.heap.size+2,0,none⟩=some (.bool lk')∧wx.cell? ⟨w.heap.size+2,1,none⟩=some (.int .i64 rd'))
 case first =>
  go_wp2_with fail
  all_goals (have hmm:=HM0.out)
  all_goals first
   | (go_meet;first
     | refine ⟨true,readers,TS.si_6c hmm ‹_› ‹_› ‹_›,?_⟩
     | refine ⟨false,readers,TS.si_7b hmm ‹_› ‹_›,?_⟩
     | refine ⟨locked,readers+1,TS.si_8b hmm ‹_› ‹_›,?_⟩
     | refine ⟨locked,readers - 1,TS.si_9b hmm ‹_› ‹_›,?_⟩)
   | (go_ret;refine HNO.out _ ?_ HB0.out;first | exact TS.si_6a hmm ‹_› ‹_› | exact TS.si_6b hmm ‹_› ‹_› | exact TS.si_7a hmm ‹_› ‹_› | exact TS.si_8a hmm ‹_› ‹_› | exact TS.si_9a hmm ‹_› ‹_›)
   | (go_ret;exact HSA.out _ (TS.si_no hmm ‹_› ‹_› ‹_› ‹_› ‹_› ‹_› ‹_›) HB0.out)
   | skip
  -- the four ways that write the mutex
  all_goals try (refine ⟨HB0.out.setCell (by simp;omega) _,by simpa [World.setCell] using hz,?_,?_,?_,?_⟩ <;> simp [go_sem, *];done)
  ·-- once-end
   go_region
   by_cases hd:dn=true
   ·subst hd
    go_wp2
    go_ret
    refine HNO.out _ ?_ HB0.out.drew;rw [TS.si_12 hmm ‹_›,if_pos HDN.out]
   ·have hd0:dn=false:=by simpa using hd
    subst hd0
    have hop:s.simple ⟨g,kind,obj,off,k,en,fn,pc,stack⟩=some { s with done:=upd s.done (obj,off) true }:=by
     rw [TS.si_12 hmm ‹_›,if_neg (by rw [HDN.out];decide)]
    have HOP:=Lib.hid hop;clear hop hmm;have hmd:MapOf locV W.drew.drew Try.prog 98 bd N (doneMap s.done):=HH.out.done.keep (HB0.out.block bd HH.out.done.lt);obtain ⟨w1,hput,hm2,hg⟩:=hmd.put keyL Try.underlying88 (by omega) (obj,off) HIO.out (.bool true);unfold locV at hput
    have hfin:TRep w1 sb bc bm bd (N+2) { s with done:=upd s.done (obj,off) true } kv∧But [sb,bm,bd] w w1:=by
     have hbt:But [bd] w w1:=((But.refl _ _).below HB0.out).drew.drew.grown hg (.inl (by simp));exact ⟨HH.out.new_done hbt (by rw [←doneMap_upd];exact hm2) (by omega) (by omega),hbt.mono (by simp)⟩
    have HF:=Lib.hid hfin;clear hfin hm2 hg hmd
    go_wp2
    go_region
    go_wp2
    go_ret
    rw [HOP.out];exact ⟨rfl,⟨_,HF.out.1⟩,HF.out.2⟩
  ·-- once-seen
   go_region
   have hop:=TS.si_13 hmm ‹_›;rw [HDN.out] at hop;have HOP:=Lib.hid hop;clear hop hmm
   go_wp2
   go_ret
   rw [HOP.out];refine ⟨ret_bool ?_,⟨kv,?_⟩,(But.refl _ _).below HB0.out.drew⟩
   ·cases dn <;> rfl
   ·have hgd:(if dn=true then some s else none).getD s=s:=by split <;> rfl
    rw [hgd];exact (HH.out.below HB0.out.drew).mono (by omega)
  ·-- go
   go_region
   go_wp2
   ·go_ret
    exact HNO.out _ (TS.si_14a hmm ‹_› ‹_›) HB0.out.drew
   ·have hop:=TS.si_14b hmm ‹_› ‹_›
    go_ret
    rw [hop];generalize hX:World.drew _=X;have hb1:But [sb] w X:=by rw [←hX];exact (((But.refl _ _).below HB0.out).setCell (.inl (by simp)) _).drew
    have hr1:X.heap[sb]? = some (.cells (TCells { s with gor:=s.gor+1 } bc bm bd kv) 92 (0,0)):=by
     rw [←hX];exact heap_setCell_same W sb 1 _ _ _ ((HB0.out.block sb hlt).trans HH.out.row)
    clear hX;exact ⟨rfl,⟨kv,HH.out.new_row hb1 hr1 (by omega)⟩,hb1.mono (by simp)⟩
 case rest =>
  obtain ⟨lk',rd',hop,hb1,z1,l0',l1',m0',m1'⟩:=hcut;clear l0 l1 m0 m1 mf hdl d3 d4 d1 d1f;have hmd:MapOf locV wc.drew Try.prog 98 bm N (muMap s.mus):=HH.out.mus.keep (hb1.block bm HH.out.mus.lt);obtain ⟨w1,hput,hm2,hg⟩:=hmd.put keyL Try.underlying87 (by omega) (obj,off) HIO.out (.agg #[.bool lk',.int .i64 rd']);unfold locV at hput;have c3:wc.cell? ⟨sb,3,none⟩=some (.map (some bm)):=(hb1.cell (p:=⟨sb,3,none⟩) hlt).trans (HH.out.cell 3)
  have hfin:TRep w1 sb bc bm bd (N+2) { s with mus:=upd s.mus (obj,off) ⟨lk',rd'⟩ } kv∧But [sb,bm,bd] w w1:=by
   have hbt:But [bm] w w1:=((But.refl _ _).below hb1).drew.grown hg (.inl (by simp));exact ⟨HH.out.new_mus hbt (by rw [←muMap_upd];exact hm2) (by omega) (by omega),hbt.mono (by simp)⟩
  have HF:=Lib.hid hfin;clear hfin hm2 hg hmd hb1;have HOP:=Lib.hid hop;clear hop
  go_wp2
  go_region
  go_wp2
  go_ret
  rw [HOP.out];exact ⟨rfl,⟨_,HF.out.1⟩,HF.out.2⟩
end
structure QW (W:World) where
 w:World
 h:Below W.heap.size W w
theorem QW.cell {W:World} (x:QW W) {p:Addr} {v:Value} (hp:p.block < W.heap.size) (h:W.cell? p=some v):x.w.cell? p=some v:=(x.h.cell hp).trans h
def QW.refl (W:World):QW W:=⟨W,Below.refl _ _⟩
instance QW.nonempty (W:World):Nonempty (QW W):=⟨QW.refl W⟩
theorem wp_region_quietQ {P:Program} {id:Nat} {Q:Exit→Act→World→Prop} {a:Act} {W:World} {l:List Oper} (hm:P.follows .mixedOrders=true) (hB:Region.lexB .any l.toArray=true)
 (h:wpQuiet P l.toArray (fun w'=>∃ x:QW W,w'=x.w) (fun a'=>∀ x:QW W,Q .normal a' x.w) l a):(Code.region id l.toArray true).wp P Q a W:=by
 refine wp_region_quiet (C:=fun w'=>∃ x:QW W,w'=x.w) hm hB ⟨⟨_,(Below.refl _ _).drew⟩,rfl⟩ ?_
 have mono:∀ (l':List Oper) (a:Act),wpQuiet P l.toArray (fun w'=>∃ x:QW W,w'=x.w) (fun a'=>∀ x:QW W,Q .normal a' x.w) l' a →
  wpQuiet P l.toArray (fun w'=>∃ x:QW W,w'=x.w) (fun a'=>∀ w',(∃ x:QW W,w'=x.w)→Q .normal a' w') l' a:=by
  intro l'
  induction l' with
  | nil=>intro a h w' hw;obtain ⟨x,rfl⟩:=hw;exact h x
  | cons o r ih =>
    intro a h;unfold wpQuiet at h ⊢;split
    ·rename_i hw;rw [if_pos hw] at h;exact Oper.quiet_mono ih h
    ·rename_i hw;rw [if_neg hw] at h;exact ih _ h
 exact mono _ _ (by simpa using h)
theorem QW.call {P:Program} {f:FuncId} {args:Array Value} {v:Value} {W:World} (x:QW W) (c:∀ w,Calls P f args w fun e w'=>e=.returned v∧Below w.heap.size w w') :
 Calls P f args x.w fun e w''=>e=.returned v∧∃ y:QW W,w''=y.w :=
 (c x.w).mono fun _ w' ⟨h1,h2⟩=>⟨h1,⟨w',x.h.trans (h2.mono x.h.size)⟩,rfl⟩
end Go.Proofs.Ytffcpijeebagfaa
end
