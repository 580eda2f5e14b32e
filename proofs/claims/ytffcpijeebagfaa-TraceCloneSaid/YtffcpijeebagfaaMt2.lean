/- The walk of (*trace.State).operate. -/
import Derived.Test.YtffcpijeebagfaaMt1
set_option linter.unusedSimpArgs false
set_option linter.unusedVariables false
section
namespace Go.Proofs.Ytffcpijeebagfaa
open Go.RowKit
section
variable [KB]
set_option maxRecDepth 100000 in
set_option maxHeartbeats 4000000 in
theorem operate_any {sb bc bm bd N:Nat} {s:TS} {kv:Value} (w:World) (h:TRep w sb bc bm bd N s kv) (hs:s.wf) (hN:N+2 < maxLen) (e:Ev) (hv:e.valid=true) (hk:chanB e.kind=true) (hkb0:∀ b,w.heap.size≤b→KB.p b) :
 Calls Try.prog 62 #[.pointer (some ⟨sb,0,none⟩),e.val] w fun r w'=>r=.returned (.bool (s.operate e).isSome)∧(∃ kv',TRep w' sb bc bm bd (N+2) ((s.operate e).getD s) kv')∧But [sb,bc] w w':=by
 have HKB:=Lib.hid hkb0;clear hkb0;have hbd:=TS.chan_bd hs hv hk;have hvo:=Ev.valid_obj hv;have hiobj:I64 e.obj:=⟨by omega,by omega⟩;have hval:((chanMap s.chans e.obj).getD ch0.val)=((s.chans e.obj).getD ch0).val:=by unfold chanMap;cases s.chans e.obj <;> rfl
 have hsome:(chanMap s.chans e.obj).isSome=(s.chans e.obj).isSome:=by unfold chanMap;cases s.chans e.obj <;> rfl
 obtain ⟨cr,hcr⟩:∃ c,(s.chans e.obj).getD ch0=c:=⟨_,rfl⟩
 obtain ⟨kn,hkn⟩:∃ b,(s.chans e.obj).isSome=b:=⟨_,rfl⟩
 rw [hcr] at hval;rw [hkn] at hsome;obtain ⟨c,hc⟩:∃ c,s.chan e=c:=⟨_,rfl⟩
 have hck:c=if kn=true then cr else { cr with cap:=e.n }:=by
  rw [←hc,←hkn,←hcr];unfold TS.chan;cases s.chans e.obj <;> rfl
 rw [hc] at hbd;obtain ⟨⟨hs1,hs2⟩,⟨hr1,hr2⟩,hc1,hc2⟩:=hbd;have hev:=hs.ev;have hs3:c.sent≤5000:=by omega
 have hr3:c.recv≤5000:=by omega
 have c1:w.cell? ⟨sb,1,none⟩=some (.int .i64 s.gor):=h.cell 1;have c2:w.cell? ⟨sb,2,none⟩=some (.map (some bc)):=h.cell 2;have hlt:=h.lt;have hm:=h.chans;have HH:=Lib.hid h;clear h;have HS:=Lib.hid hs;clear hs;have HCc:=Lib.hid hc;clear hc;have HCR:=Lib.hid hcr;clear hcr;have HKN:=Lib.hid hkn;clear hkn;obtain ⟨g,kind,obj,off,k,en,fn,pc,stack⟩:=e;obtain ⟨rcap,rsent,rrecv,rclosed⟩:=cr;obtain ⟨cap,sent,recv,closed⟩:=c;dsimp only at *
 have hl:∀ o:Obj,(Instr.lookup 86 (.map (some bc)) (.int .i64 obj) true).run Try.prog ((w.alloc o).drew)=.ok (.tuple #[.agg #[.int .i64 rcap,.int .i64 rsent,.int .i64 rrecv,.bool rclosed],.bool kn]) ((w.alloc o).drew):=fun o=>by
  have h1:MapOf iK (w.alloc o).drew Try.prog 3 bc N (chanMap s.chans):=hm.alloc o;have h2:=h1.look_ok keyI Try.underlying86 zeroCh obj (wf_i64 hiobj);rw [hval,hsome] at h2;exact h2
 have hl2:∀ o o2:Obj,(Instr.lookup 86 (.map (some bc)) (.int .i64 obj) true).run Try.prog (((w.alloc o).alloc o2).drew)=.ok (.tuple #[.agg #[.int .i64 rcap,.int .i64 rsent,.int .i64 rrecv,.bool rclosed],.bool kn]) (((w.alloc o).alloc o2).drew):=fun o o2=>by
  have h1:MapOf iK ((w.alloc o).alloc o2).drew Try.prog 3 bc N (chanMap s.chans):=(hm.alloc o).alloc o2;have h2:=h1.look_ok keyI Try.underlying86 zeroCh obj (wf_i64 hiobj);rw [hval,hsome] at h2;exact h2
 have HM:=Lib.hid hm;clear hm;have HV:=Lib.hid hval;clear hval;have HSo:=Lib.hid hsome;clear hsome;have HCK:=Lib.hid hck;clear hck;unfold Ev.val
 go_enter Try.func62,Try.ntmps62
 go_wp2
 go_region
 go_upto_if 20 with fail
 go_cut [] (fun wx=>Below w.heap.size w wx∧w.heap.size+1 < wx.heap.size ∧
  wx.cell? ⟨w.heap.size,0,none⟩=some (.int .i64 g)∧wx.cell? ⟨w.heap.size,1,none⟩=some (.int .i64 kind)∧wx.cell? ⟨w.heap.size,2,none⟩=some (.int .i64 obj)∧wx.cell? ⟨w.heap.size,3,none⟩=some (.int .i64 off) ∧
  wx.cell? ⟨w.heap.size,4,none⟩=some (.int .i64 k)∧wx.cell? ⟨w.heap.size,5,none⟩=some (.int .i64 en)∧wx.cell? ⟨w.heap.size,6,none⟩=some (.int .i64 fn)∧wx.cell? ⟨w.heap.size,7,none⟩=some (.int .i64 pc)∧wx.cell? ⟨w.heap.size,8,none⟩=some (.int .i64 stack) ∧
  wx.heap[w.heap.size+1]? = some (.cells #[.int .i64 cap,.int .i64 sent,.int .i64 recv,.bool closed] 95 (0,0)))
 case first =>
  go_wp2
  all_goals go_meet
  all_goals (case' rel=>refine ⟨(((Below.refl _ _).alloc (Nat.le_refl _) _).alloc (by simp) _).drew,by simp,?_⟩)
  all_goals (have hck:=HCK.out;simp_all only [Bool.not_eq_true',Bool.not_eq_false',if_true,if_false,Bool.false_eq_true,Ch.mk.injEq])
  all_goals (obtain ⟨rfl,rfl,rfl,rfl⟩:=hck)
  all_goals (refine ⟨?_,?_,?_,?_,?_,?_,?_,?_,?_,heap_alloc2_new w _ _⟩ <;> simp [go_sem])
 case rest =>
  obtain ⟨wa,rfl⟩:∃ wa:World,wa=wc:=⟨_,rfl⟩
  obtain ⟨hb0,hz,e0,e1,e2,e3,e4,e5,e6,e7,e8,hrow⟩:=hcut;have k0:wa.cell? ⟨w.heap.size+1,0,none⟩=some (.int .i64 cap):=cell_of_row wa _ 0 _ _ _ hrow;have k1:wa.cell? ⟨w.heap.size+1,1,none⟩=some (.int .i64 sent):=cell_of_row wa _ 1 _ _ _ hrow;have k2:wa.cell? ⟨w.heap.size+1,2,none⟩=some (.int .i64 recv):=cell_of_row wa _ 2 _ _ _ hrow;have k3:wa.cell? ⟨w.heap.size+1,3,none⟩=some (.bool closed):=cell_of_row wa _ 3 _ _ _ hrow;have kf:wa.frozen? ⟨w.heap.size+1,3,none⟩=false:=frozen_of_row wa _ 3 _ _ hrow;have d1:wa.cell? ⟨sb,1,none⟩=some (.int .i64 s.gor):=(hb0.cell (p:=⟨sb,1,none⟩) hlt).trans c1;have d2:wa.cell? ⟨sb,2,none⟩=some (.map (some bc)):=(hb0.cell (p:=⟨sb,2,none⟩) hlt).trans c2;have hlt2:sb < wa.heap.size:=by omega
  have hlt3:w.heap.size < wa.heap.size:=by omega
  clear hl hl2 c1 c2;have HB0:=Lib.hid hb0;clear hb0;have HROW:=Lib.hid hrow;clear hrow
  have hno:∀ w':World,s.operate ⟨g,kind,obj,off,k,en,fn,pc,stack⟩=none→Below w.heap.size w w'→Ending.returned (.bool false)=.returned (.bool (s.operate ⟨g,kind,obj,off,k,en,fn,pc,stack⟩).isSome)∧(∃ kv',TRep w' sb bc bm bd (N+2) ((s.operate ⟨g,kind,obj,off,k,en,fn,pc,stack⟩).getD s) kv')∧But [sb,bc] w w':=fun w' ho hb=>by
   rw [ho];exact ⟨rfl,⟨kv,(HH.out.below hb).mono (by omega)⟩,(But.refl _ _).below hb⟩
  have HNO:=Lib.hid hno;clear hno
  go_upto_block 0 with fail
  ·rename_i hne
   go_ret
   exact HNO.out _ (TS.op_nA HCc.out hne) HB0.out
  ·go_cut [] (fun wx=>∃ (l:List Int) (snd rcv:Int) (gb:Nat),s.operate ⟨g,kind,obj,off,k,en,fn,pc,stack⟩=some (s.start ⟨g,kind,obj,off,k,en,fn,pc,stack⟩ ⟨cap,sent,recv,closed⟩ l snd rcv)∧Below w.heap.size w wx∧w.heap.size+1 < wx.heap.size∧wa.heap.size < wx.heap.size∧w.heap.size < gb∧gb≠sb ∧
    wx.cell? ⟨w.heap.size,0,none⟩=some (.int .i64 g)∧wx.cell? ⟨w.heap.size,1,none⟩=some (.int .i64 kind)∧wx.cell? ⟨w.heap.size,2,none⟩=some (.int .i64 obj)∧wx.cell? ⟨w.heap.size,3,none⟩=some (.int .i64 off) ∧
    wx.cell? ⟨w.heap.size,4,none⟩=some (.int .i64 k)∧wx.cell? ⟨w.heap.size,5,none⟩=some (.int .i64 en)∧wx.cell? ⟨w.heap.size,6,none⟩=some (.int .i64 fn)∧wx.cell? ⟨w.heap.size,7,none⟩=some (.int .i64 pc)∧wx.cell? ⟨w.heap.size,8,none⟩=some (.int .i64 stack) ∧
    wx.cell? ⟨w.heap.size+1,0,none⟩=some (.int .i64 cap)∧wx.cell? ⟨w.heap.size+1,1,none⟩=some (.int .i64 sent)∧wx.cell? ⟨w.heap.size+1,2,none⟩=some (.int .i64 recv)∧wx.cell? ⟨w.heap.size+1,3,none⟩=some (.bool closed) ∧
    wx.cell? ⟨wa.heap.size,0,none⟩=some (.slice (some ⟨gb,0,none⟩) l.length l.length)∧wx.cell? ⟨wa.heap.size,1,none⟩=some (.int .i64 obj)∧wx.cell? ⟨wa.heap.size,2,none⟩=some (.int .i64 k)∧wx.cell? ⟨wa.heap.size,3,none⟩=some (.int .i64 en) ∧
    wx.cell? ⟨wa.heap.size,4,none⟩=some (.int .i64 snd)∧wx.cell? ⟨wa.heap.size,5,none⟩=some (.int .i64 rcv)∧(∀ i x,l[i]? = some x→wx.cell? ⟨gb,i,none⟩=some (.int .i64 x)))
   case first =>
    go_wp2_with fail
    all_goals (have hcc:=HCc.out)
    all_goals first
     | (go_meet;first
       | refine ⟨[16],g, -1,wa.heap.size+1,TS.op_s15a hcc ‹_› ‹_› ‹_› ‹_› ‹_›,?_⟩
       | refine ⟨[17,18,16],g, -1,wa.heap.size+1,TS.op_s15b hcc ‹_› ‹_› ‹_› ‹_› ‹_› ‹_› ‹_›,?_⟩
       | refine ⟨[18], -1,g,wa.heap.size+1,TS.op_s17a hcc ‹_› ‹_› ‹_› ‹_›,?_⟩
       | refine ⟨[15,18,16], -1,g,wa.heap.size+1,TS.op_s17b hcc ‹_› ‹_› ‹_› ‹_› ‹_› ‹_›,?_⟩)
     | (go_ret;refine HNO.out _ ?_ (HB0.out.alloc (by omega) _);first | exact TS.op_nB hcc ‹_› ‹_› | exact TS.op_n20 hcc ‹_› ‹_› | exact TS.op_nD hcc ‹_› ‹_› | exact TS.op_nE hcc ‹_› ‹_› | exact TS.op_nF hcc ‹_› ‹_› ‹_› | exact TS.op_nG hcc ‹_› ‹_› ‹_› | exact TS.op_nH hcc ‹_› ‹_› | exact TS.op_nI hcc ‹_› ‹_› ‹_› | exact TS.op_nJ hcc ‹_› ‹_› ‹_› | exact TS.op_nK hcc ‹_› ‹_› ‹_› ‹_›)
     | skip
    ·-- close
     have hmw:MapOf iK wa Try.prog 3 bc N (chanMap s.chans):=HM.out.keep (HB0.out.block bc HM.out.lt);have hbl:=HM.out.lt;generalize hW:World.alloc (World.setCell _ _ _) _=W;have f1:W.cell? ⟨sb,2,none⟩=some (.map (some bc)):=by rw [←hW];clear hW;simp [go_sem, *]
     have f2:W.cell? ⟨w.heap.size,2,none⟩=some (.int .i64 obj):=by rw [←hW];clear hW;simp [go_sem, *]
     have f3:W.cell? ⟨w.heap.size+1,0,none⟩=some (.int .i64 cap):=by rw [←hW];clear hW;simp [go_sem, *]
     have f4:W.cell? ⟨w.heap.size+1,1,none⟩=some (.int .i64 sent):=by rw [←hW];clear hW;simp [go_sem, *]
     have f5:W.cell? ⟨w.heap.size+1,2,none⟩=some (.int .i64 recv):=by rw [←hW];clear hW;simp [go_sem, *]
     have f6:W.cell? ⟨w.heap.size+1,3,none⟩=some (.bool true):=by rw [←hW];clear hW;simp [go_sem, *]
     have hmW:MapOf iK W Try.prog 3 bc N (chanMap s.chans):=by rw [←hW];exact (hmw.setCell (by simp;omega) _).alloc _
     have hBW:Below w.heap.size w W:=by rw [←hW];exact (HB0.out.setCell (by simp) _).alloc (by simp;omega) _
     obtain ⟨w1,hput,hm2,hg⟩:=(show MapOf iK W.drew Try.prog 3 bc N (chanMap s.chans) from hmW).put keyI Try.underlying86 (by omega) obj (wf_i64 hiobj) (.agg #[.int .i64 cap,.int .i64 sent,.int .i64 recv,.bool true]);unfold iK at hput
     have hfin:TRep w1 sb bc bm bd (N+2) { s with chans:=upd s.chans obj ⟨cap,sent,recv,true⟩ } kv∧But [sb,bc] w w1:=by
      have hbt:But [bc] w w1:=((But.refl _ _).below hBW).drew.grown hg (.inl (by simp));exact ⟨HH.out.new_chans hbt (by rw [←chanMap_upd];exact hm2) (by omega) (by omega),hbt.mono (by simp)⟩
     have HF:=Lib.hid hfin;clear hfin hm2 hg hBW hmW hmw hW HNO;have hop:=TS.op_s19 hcc ‹_› ‹_› ‹_›;have HOP:=Lib.hid hop;clear hop hcc
     go_region
     go_wp2
     go_ret
     rw [HOP.out];exact ⟨rfl,⟨_,HF.out.1⟩,HF.out.2⟩
    ·-- a receive of a closed channel
     have hop:=TS.op_s20 hcc ‹_› ‹_› ‹_›
     go_ret
     rw [hop];refine ⟨ret_bool ?_,⟨kv,?_⟩,(But.refl _ _).below (HB0.out.alloc (by omega) _)⟩
     ·by_cases hsr:sent=recv <;> simp [hsr]
     ·have hgd:(if sent=recv then some s else none).getD s=s:=by split <;> rfl
      rw [hgd];exact (HH.out.below (HB0.out.alloc (by omega) _)).mono (by omega)
    all_goals clear hcc HNO
    all_goals refine ⟨(HB0.out.alloc (by omega) _).alloc (by simp;omega) _,by simp;omega,by simp;omega,by omega,by omega,?_⟩
    all_goals go_light
    all_goals refine ⟨?_,?_,?_,?_,?_,?_,?_,?_,?_,?_,?_,?_,?_,?_,?_,?_,?_,?_,?_,?_⟩
    all_goals first | (simp [go_sem, *];done) | (rintro (_ | _ | _ | i) x hx <;> simp at hx <;> subst hx <;> simp [go_sem])
   case rest =>
    obtain ⟨l,snd,rcv,gb,hop,hb1,z1,z2,z3,z4,e0,e1,e2,e3,e4,e5,e6,e7,e8,k0,k1,k2,k3,o0,o1,o2,o3,o4,o5,hl⟩:=hcut;clear d1 d2 hlt2;have hbl:=HM.out.lt;have hne:bc≠sb:=HM.out.ne_cells HH.out.row;have hmc:MapOf iK wc Try.prog 3 bc N (chanMap s.chans):=HM.out.keep (hb1.block bc hbl);obtain ⟨w1,hput,hm2,hg⟩:=(show MapOf iK wc.drew Try.prog 3 bc N (chanMap s.chans) from hmc).put keyI Try.underlying86 (by omega) obj (wf_i64 hiobj) (.agg #[.int .i64 cap,.int .i64 sent,.int .i64 recv,.bool closed]);unfold iK at hput;have hb2:But [bc] wc w1:=(But.refl _ _).drew.grown hg (.inl (by simp));have hrow0:wc.heap[sb]? = some (.cells (TCells s bc bm bd kv) 92 (0,0)):=(hb1.block sb hlt).trans HH.out.row;have hrow1:w1.heap[sb]? = some (.cells (TCells s bc bm bd kv) 92 (0,0)):=(hb2.block sb (by omega) (by simpa using Ne.symm hne)).trans hrow0
    have d2:wc.cell? ⟨sb,2,none⟩=some (.map (some bc)):=cell_of_row wc sb 2 _ _ _ hrow0;have s5:w1.cell? ⟨sb,5,none⟩=some kv:=cell_of_row w1 sb 5 _ _ _ hrow1;have s6:w1.cell? ⟨sb,6,none⟩=some (.int .i64 s.grp.obj):=cell_of_row w1 sb 6 _ _ _ hrow1;have s7:w1.cell? ⟨sb,7,none⟩=some (.int .i64 s.grp.k):=cell_of_row w1 sb 7 _ _ _ hrow1;have s8:w1.cell? ⟨sb,8,none⟩=some (.int .i64 s.grp.n):=cell_of_row w1 sb 8 _ _ _ hrow1;have s9:w1.cell? ⟨sb,9,none⟩=some (.int .i64 s.grp.snd):=cell_of_row w1 sb 9 _ _ _ hrow1;have s10:w1.cell? ⟨sb,10,none⟩=some (.int .i64 s.grp.rcv):=cell_of_row w1 sb 10 _ _ _ hrow1;have sf:∀ j,w1.frozen? ⟨sb,j,none⟩=false:=fun j=>frozen_of_row w1 sb j _ _ hrow1
    have keepc:∀ b j v,b < wc.heap.size→b≠bc→wc.cell? ⟨b,j,none⟩=some v→w1.cell? ⟨b,j,none⟩=some v:=fun b j v h1 h2 h3=>(hb2.cell (p:=⟨b,j,none⟩) h1 (by simpa using h2)).trans h3
    have f0:=keepc _ _ _ (by omega) (by omega) e0;have f1:=keepc _ _ _ (by omega) (by omega) e1;have f2:=keepc _ _ _ (by omega) (by omega) e2;have f3:=keepc _ _ _ (by omega) (by omega) e3;have f4:=keepc _ _ _ (by omega) (by omega) e4;have f5:=keepc _ _ _ (by omega) (by omega) e5;have f6:=keepc _ _ _ (by omega) (by omega) e6;have f7:=keepc _ _ _ (by omega) (by omega) e7;have f8:=keepc _ _ _ (by omega) (by omega) e8;have p0:=keepc _ _ _ (by omega) (by omega) o0;have p1:=keepc _ _ _ (by omega) (by omega) o1;have p2:=keepc _ _ _ (by omega) (by omega) o2;have p3:=keepc _ _ _ (by omega) (by omega) o3;have p4:=keepc _ _ _ (by omega) (by omega) o4;have p5:=keepc _ _ _ (by omega) (by omega) o5;have HL:=Lib.hid hl;clear hl;have HM2:=Lib.hid hm2;clear hm2 hmc hg;have HB1:=Lib.hid hb1;clear hb1;have HB2:=Lib.hid hb2;clear hb2;have HOP:=Lib.hid hop;clear hop
    have HR1:=Lib.hid hrow1;clear hrow1 hrow0 keepc HNO
    go_wp2
    go_region
    go_wp2_with fail
    generalize hW:World.setCell _ _ _=W2
    have hrow2:W2.heap[sb]? = some (.cells (TCells (s.start ⟨g,kind,obj,off,k,en,fn,pc,stack⟩ ⟨cap,sent,recv,closed⟩ l snd rcv) bc bm bd (.slice (some ⟨gb,0,none⟩) l.length l.length)) 92 (0,0)):=by
     rw [←hW];exact heap_setCell_same _ _ _ _ _ _ (heap_setCell_same _ _ _ _ _ _ (heap_setCell_same _ _ _ _ _ _ (heap_setCell_same _ _ _ _ _ _ (heap_setCell_same _ _ _ _ _ _ (heap_setCell_same _ _ _ _ _ _ HR1.out)))))
    have hb3:But [sb] w1 W2:=by
     rw [←hW];exact ((((((But.refl _ _).setCell (.inl (by simp)) _).setCell (.inl (by simp)) _).setCell (.inl (by simp)) _).setCell (.inl (by simp)) _).setCell (.inl (by simp)) _).setCell (.inl (by simp)) _
    clear hW
    have hm4:MapOf iK W2 Try.prog 3 bc (N+1) (chanMap (upd s.chans obj ⟨cap,sent,recv,closed⟩)):=by
     rw [←chanMap_upd];exact HM2.out.but hb3 (by simpa using hne)
    refine (count_any sb bc (N+1) (upd s.chans obj ⟨cap,sent,recv,closed⟩) ⟨g,kind,obj,off,k,en,fn,pc,stack⟩ W2 (cell_of_row W2 sb 2 _ _ _ hrow2) hm4 (by omega) hiobj (fun c hc=>by rw [upd_same] at hc;cases hc;exact ⟨⟨hs1,hs3⟩,hr1,hr3⟩)).mono ?_
    rintro r w3 ⟨rfl,hm5,hb4⟩
    have hfin:TRep w3 sb bc bm bd (N+2) (s.start ⟨g,kind,obj,off,k,en,fn,pc,stack⟩ ⟨cap,sent,recv,closed⟩ l snd rcv) (.slice (some ⟨gb,0,none⟩) l.length l.length)∧But [sb,bc] w w3:=by
     have hbt:But [sb,bc] w w3:=(((But.refl _ _).below HB1.out).trans (HB2.out.mono (by simp))).trans ((hb3.mono (by simp)).trans (hb4.mono (by simp)));have hsz1:=HB2.out.size;have hsz2:=hb3.size;refine ⟨⟨(hb4.block sb (by omega) (by simpa using Ne.symm hne)).trans hrow2,⟨_,_,rfl,Nat.le_refl _,fun hl0=>⟨gb,0,rfl,⟨z4,HKB.out gb (by omega)⟩,fun i x hx=>?_⟩⟩,?_,(HH.out.mus.but hbt ?_).mono (by omega),(HH.out.done.but hbt ?_).mono (by omega),HH.out.ncm,HH.out.ncd,HH.out.nmd⟩,hbt⟩
     ·have hx0:=HL.out i x hx;have hlt0:=block_lt_of_cell hx0;dsimp only at hlt0;have hgbc:gb≠bc:=by omega
      rw [Nat.zero_add];exact (hb4.cell (p:=⟨gb,i,none⟩) (by dsimp only;omega) (by simpa using hgbc)).trans ((hb3.cell (p:=⟨gb,i,none⟩) (by dsimp only;omega) (by simpa using z4)).trans ((HB2.out.cell (p:=⟨gb,i,none⟩) hlt0 (by simpa using hgbc)).trans hx0))
     ·have h1:upd (upd s.chans obj ⟨cap,sent,recv,closed⟩) obj (((upd s.chans obj ⟨cap,sent,recv,closed⟩ obj).getD ch0).count kind)=upd s.chans obj ((⟨cap,sent,recv,closed⟩:Ch).count kind):=by
       rw [upd_upd,upd_same];rfl
      rw [h1] at hm5;exact hm5
     ·simp only [List.mem_cons,List.not_mem_nil,or_false,not_or];exact ⟨HH.out.mus.ne_cells HH.out.row,Ne.symm HH.out.ncm⟩
     ·simp only [List.mem_cons,List.not_mem_nil,or_false,not_or];exact ⟨HH.out.done.ne_cells HH.out.row,Ne.symm HH.out.ncd⟩
    have HF:=Lib.hid hfin;clear hfin hm5 hb4 hm4 hb3 hrow2
    go_wp2
    go_ret
    rw [HOP.out];exact ⟨rfl,⟨_,HF.out.1⟩,HF.out.2⟩
end
end Go.Proofs.Ytffcpijeebagfaa
end
