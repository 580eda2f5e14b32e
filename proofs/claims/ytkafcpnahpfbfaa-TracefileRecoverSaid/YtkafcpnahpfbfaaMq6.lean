/- The walks of package event's tests: isKind, numbered, Channel, Memory, Valid. -/
import Derived.Test.YtkafcpnahpfbfaaMq5
import Derived.Test.YtkafcpnahpfbfaaRows
import Derived.WalkKit
import Derived.WalkSpells
import Derived.Outline
import Derived.Handy
import Derived.Deep.Light
import Derived.Lib.Hide
set_option linter.unusedSimpArgs false
set_option linter.unusedVariables false
section
namespace Go.Proofs.Ytkafcpnahpfbfaa
open Go.RowKit
theorem rQ {a b:Bool} (h:a=b):Ending.returned (.bool a)=.returned (.bool b):=by rw [h]
theorem qK (k:Int) (w:World):Calls Try.prog 44 #[.int .i64 k] w fun e w'=>e=.returned (.bool (oQ k))∧w=w':=by
 go_enter Try.func44,Try.ntmps44
 go_wp2
 all_goals (go_ret;refine ⟨rQ ?_,rfl⟩;simp [oQ];omega)
theorem EX (k:Int) (w:World):Calls Try.prog 42 #[.int .i64 k] w fun e w'=>e=.returned (.bool (iW k))∧w=w':=by
 go_enter Try.func42,Try.ntmps42
 go_wp2
 all_goals (go_ret;refine ⟨rQ ?_,rfl⟩;simp [iW];omega)
theorem AU (k:Int) (w:World):Calls Try.prog 43 #[.int .i64 k] w fun e w'=>e=.returned (.bool (JV k))∧w=w':=by
 go_enter Try.func43,Try.ntmps43
 go_wp2_with ((go_at_call 44;refine (qK _ _).mono ?_;rintro e w' ⟨rfl,rfl⟩))
 all_goals (go_ret;refine ⟨rQ ?_,rfl⟩;unfold oQ at *;unfold JV;simp only [decide_eq_true_eq] at *;rw [Bool.eq_iff_iff];simp;omega)
theorem VT (x0 x1 x2 x3 x4 x5 x6:Value) :
 (∀ w,(Instr.index 82 (.agg #[x0,x1,x2,x3,x4,x5,x6]) (.int .i64 0)).run Try.prog w=.ok x0 w)∧(∀ w,(Instr.index 82 (.agg #[x0,x1,x2,x3,x4,x5,x6]) (.int .i64 1)).run Try.prog w=.ok x1 w) ∧
 (∀ w,(Instr.index 82 (.agg #[x0,x1,x2,x3,x4,x5,x6]) (.int .i64 2)).run Try.prog w=.ok x2 w)∧(∀ w,(Instr.index 82 (.agg #[x0,x1,x2,x3,x4,x5,x6]) (.int .i64 3)).run Try.prog w=.ok x3 w) ∧
 (∀ w,(Instr.index 82 (.agg #[x0,x1,x2,x3,x4,x5,x6]) (.int .i64 4)).run Try.prog w=.ok x4 w)∧(∀ w,(Instr.index 82 (.agg #[x0,x1,x2,x3,x4,x5,x6]) (.int .i64 5)).run Try.prog w=.ok x5 w) ∧
 (∀ w,(Instr.index 82 (.agg #[x0,x1,x2,x3,x4,x5,x6]) (.int .i64 6)).run Try.prog w=.ok x6 w) :=
 ⟨fun _=>by kernel_rfl,fun _=>by kernel_rfl,fun _=>by kernel_rfl,fun _=>by kernel_rfl,fun _=>by kernel_rfl,fun _=>by kernel_rfl,fun _=>by kernel_rfl⟩
set_option maxHeartbeats 4000000 in
set_option maxRecDepth 100000 in
theorem Eu (e:Ev) (w:World):Calls Try.prog 24 #[e.val] w fun r w'=>r=.returned (.bool e.valid)∧Below w.heap.size w w':=by
 obtain ⟨g,kind,obj,off,k,n,fn,pc,stack⟩:=e;unfold Ev.val;obtain ⟨i0,i1,i2,i3,i4,i5,i6⟩:=VT (.int .i64 obj) (.int .i64 off) (.int .i64 k) (.int .i64 n) (.int .i64 fn) (.int .i64 pc) (.int .i64 stack)
 go_enter Try.func24,Try.ntmps24
 go_wp2_with (first | (go_at_call 42;refine (EX _ _).mono ?_;rintro e w' ⟨rfl,rfl⟩))
 all_goals try (refine wp_loop_rounds 8 ?_)
 all_goals try (repeat any_goals (rw [rounds_succ];go_wp2_with (first | (go_at_call 44;refine (qK _ _).mono ?_;rintro e w' ⟨rfl,rfl⟩) | (go_at_call 43;refine (AU _ _).mono ?_;rintro e w' ⟨rfl,rfl⟩))))
 all_goals (go_ret;refine ⟨rQ ?_,(Below.refl _ _).alloc (Nat.le_refl _) _⟩)
 all_goals (simp only [iW,JV,oQ,decide_eq_true_eq,beq_iff_eq,beq_eq_false_iff_ne,ne_eq,decide_eq_false_iff_not] at *)
 all_goals (unfold Ev.valid Ev.rest;rw [Bool.eq_iff_iff];simp only [iW,gG,Bool.and_eq_true,decide_eq_true_eq,Bool.ite_eq_true_distrib,Bool.false_eq_true,false_iff,true_iff,beq_iff_eq,Bool.or_eq_true])
 all_goals clear i0 i1 i2 i3 i4 i5 i6
 all_goals go_light
 all_goals first | omega | (split <;> omega) | (split <;> first | omega | (split <;> omega)) | (split <;> first | omega | (split <;> first | omega | (split <;> omega)))
end Go.Proofs.Ytkafcpnahpfbfaa
end
section
namespace Go.Proofs.Ytkafcpnahpfbfaa
open Go Go.RowKit
def World.cellsOf (w:World) (b:Nat):Nat:=match w.heap[b]? with
 | some (.cells arr _ _)=>arr.size
 | _=>0
theorem mF {w:World} (b i:Nat) (h:(w.cell? ⟨b,i,none⟩).isSome=true):i < World.cellsOf w b:=by
 unfold World.cellsOf;unfold World.cell? at h
 cases hb:w.heap[b]? with
 | none=>simp [hb] at h
 | some x =>
   cases x with
   | cells arr T fr=>simp only [hb] at h;simpa using h
   | _=>simp [hb] at h
theorem RPs.nth {S:Nat→Nat} {w:World} {ps:List Pa} {vs:Array Value} (h:RPs S w ps vs) {i:Nat} {p:Pa} (hp:ps[i]? = some p):∃ u,vs[i]? = some u∧RP S w p u:=by
 have hi:i < vs.size:=by rw [←h.1];exact (List.getElem?_eq_some_iff.1 hp).1
 exact ⟨vs[i],Array.getElem?_eq_getElem hi,h.2 i p _ hp (Array.getElem?_eq_getElem hi)⟩
theorem RPs.one {S:Nat→Nat} {w:World} {p:Pa} {vs:Array Value} (h:RPs S w [p] vs):∃ u,vs=#[u]∧RP S w p u:=by
 obtain ⟨u,h1,h2⟩:=h.nth (i:=0) rfl;refine ⟨u,?_,h2⟩;have h3:=h.1
 apply Array.ext_getElem?
 intro j
 match j with
 | 0=>simpa using h1
 | j+1=>rw [Array.getElem?_eq_none (by simp at h3;omega),Array.getElem?_eq_none (by simp)]
theorem RPs.two {S:Nat→Nat} {w:World} {p q:Pa} {vs:Array Value} (h:RPs S w [p,q] vs):∃ u v,vs=#[u,v]∧RP S w p u∧RP S w q v:=by
 obtain ⟨u,h1,h2⟩:=h.nth (i:=0) rfl;obtain ⟨v,h3,h4⟩:=h.nth (i:=1) rfl;refine ⟨u,v,?_,h2,h4⟩;have h5:=h.1
 apply Array.ext_getElem?
 intro j
 match j with
 | 0=>simpa using h1
 | 1=>simpa using h3
 | j+2=>rw [Array.getElem?_eq_none (by simp at h5;omega),Array.getElem?_eq_none (by simp)]
theorem RPs.three {S:Nat→Nat} {w:World} {p q r:Pa} {vs:Array Value} (h:RPs S w [p,q,r] vs):∃ u v x,vs=#[u,v,x]∧RP S w p u∧RP S w q v∧RP S w r x:=by
 obtain ⟨u,h1,h2⟩:=h.nth (i:=0) rfl;obtain ⟨v,h3,h4⟩:=h.nth (i:=1) rfl;obtain ⟨x,h6,h7⟩:=h.nth (i:=2) rfl;refine ⟨u,v,x,?_,h2,h4,h7⟩;have h5:=h.1
 apply Array.ext_getElem?
 intro j
 match j with
 | 0=>simpa using h1
 | 1=>simpa using h3
 | 2=>simpa using h6
 | j+3=>rw [Array.getElem?_eq_none (by simp at h5;omega),Array.getElem?_eq_none (by simp)]
theorem RPs.nil {S:Nat→Nat} {w:World} {vs:Array Value} (h:RPs S w [] vs):vs=#[]:=by
 have h3:=h.1
 apply Array.ext_getElem?
 intro j;rw [Array.getElem?_eq_none (by simp at h3;omega),Array.getElem?_eq_none (by simp)]
theorem RPs.mk1 {S:Nat→Nat} {w:World} {p:Pa} {u:Value} (h:RP S w p u):RPs S w [p] #[u]:=⟨rfl,fun i q v h1 h2=>by
 match i with
 | 0=>cases h1;simp at h2;subst h2;exact h
 | i+1=>simp at h1⟩
theorem RP.int {S:Nat→Nat} {w:World} {n:Int} {u:Value} (h:RP S w (pI n) u):u=.int .i64 n:=(RD.gU h).1
theorem RP.Oy {S:Nat→Nat} {w:World} (n:Bool):RP S w (pB n) (.bool n):=.sc _ rfl
theorem RP.bool {S:Nat→Nat} {w:World} {n:Bool} {u:Value} (h:RP S w (pB n) u):u=.bool n:=(RD.gU h).1
theorem RP.flat {S:Nat→Nat} {w:World} {vs:List Value} {u:Value} (h:RP S w (.agg (vs.map Dt.sc)) u):u=.agg vs.toArray:=by
 obtain ⟨arr,rfl,h2,h3⟩:=h
 congr 1
 apply Array.ext_getElem?
 intro j;simp only [List.getElem?_toArray];rw [List.length_map] at h2
 cases hj:vs[j]? with
 | none=>rw [Array.getElem?_eq_none];rw [List.getElem?_eq_none_iff] at hj;omega
 | some x =>
   have hlt:j < arr.size:=by have:=(List.getElem?_eq_some_iff.1 hj).1;omega
   rw [Array.getElem?_eq_getElem hlt,(RD.gU (h3 j (.sc x) arr[j] (by rw [List.getElem?_map,hj];rfl) (Array.getElem?_eq_getElem hlt))).1]
end Go.Proofs.Ytkafcpnahpfbfaa
end
section
namespace Go.Proofs.Ytkafcpnahpfbfaa
open Go Go.RowKit
set_option maxRecDepth 1000000
set_option maxHeartbeats 4000000
theorem D7 {d:Dep} (hl:d.st.length≤1000000∧d.pr.length≤1000000) (h64:d.iE) {S:Nat→Nat} {w:World} {vals:Array Value} (hv:RPs S w [d.pa] vals) :
 Calls Try.prog 41 vals w fun e w'=>∃ m,e=.returned (.map m)∧m.isSome=tX d∧Below w.heap.size w w':=by
 have hW:RHp (W00 (fun _=>0) S) w (fun _=>.no):=⟨fun b=>⟨fun h=>h.elim,fun h=>h rfl⟩,fun b k hk=>hk.elim,fun _=>trivial,fun b b' k hk=>hk.elim⟩;have hno:∀ k,¬ dK (W00 (fun _=>0) S) (fun _=>.no) k:=fun k ⟨b,hb⟩=>hb
 have hbelow:∀ w',kK (dK (W00 (fun _=>0) S) (fun _=>.no)) w w'→Below w.heap.size w w':=fun w' hb=>⟨hb.os,hb.tape,hb.output,hb.size,fun k hk=>hb.block k hk (hno k)⟩
 refine Calls.mono (Uo _ _ _ ⟨0,d,rfl,⟨fun _ _=>rfl,hl,h64⟩,rfl⟩ (W00 (fun _=>0) S) w vals (fun _ _=>trivial) hW ⟨by simpa using hv.1,fun i x u e1 e2=>?_⟩) ?_
 ·cases i with
  | zero =>
    cases e1;exact pX.2 (hv.2 0 d.pa u rfl e2)
  | succ i=>simp at e1
 ·rintro e w' ⟨hp',rs',⟨h1,h2⟩,u,W',rfl,hrr,hrp,hkeep,hbut,hfp,hS⟩
  by_cases hd:d.val
  ·obtain ⟨b,rfl⟩:=h1 hd;rw [nK hd];have hu:u=.map (some (W'.nm b)):=hrr.1;exact ⟨_,by rw [hu],rfl,hbelow w' hbut⟩
  ·obtain rfl:=h2 hd;rw [pJ hd];have hu:RD W'.S w' (.sc (.map none)) u:=hrr;cases hu;exact ⟨none,rfl,rfl,hbelow w' hbut⟩
theorem yg {S:Nat→Nat} {w w':World} (h:Below w.heap.size w w'):Ext S S w w':=fun b i h1 h2=>by
 refine ⟨h1,?_⟩
 have hb:b < w.heap.size:=by
  refine Classical.byContradiction fun q=>?_
  unfold World.cell? at h2;rw [Array.getElem?_eq_none (show w.heap.size≤b by omega)] at h2;simp at h2
 unfold World.cell?;rw [h.block b hb]
def NU (ps rs:List Pa):Prop:=∃ d:Dep,ps=[d.pa]∧((d.st.length≤1000000∧d.pr.length≤1000000)∧d.iE)∧rs=[pB (tX d)]
theorem Ur:Spec Try.prog 22 NU:=by
 rintro ps rs ⟨d,rfl,⟨hl,h64⟩,rfl⟩ S w vals _ hv;obtain ⟨u,rfl,h1⟩:=hv.one
 have hc:Calls Try.prog 22 #[u] w fun r w'=>r=.returned (.bool (tX d))∧Below w.heap.size w w':=by
  have qT:∀ (w:World) (r:Option Nat),(binOp .neq 79 (.map r) (.map none)).run Try.prog w=.ok (.bool (!r.isNone)) w:=fun w r=>run_neq_map_nil w _ _ _ r Try.underlying79
  go_enter Try.func22,Try.ntmps22
  obtain ⟨arr,rfl,h2,h3⟩:=h1;have hsz:arr.size=2:=h2.symm
  obtain ⟨a,b,rfl⟩:∃ a b,arr=#[a,b]:=by
   refine ⟨arr[0]'(by rw [hsz];decide),arr[1]'(by rw [hsz];decide),?_⟩
   apply Array.ext
   ·exact hsz
   ·intro i g1 g2;have:i < 2:=by simpa using g2
    match i,this with
    | 0,_=>rfl
    | 1,_=>rfl
  have h4:=h3 0 _ a rfl rfl;have h5:=h3 1 _ b rfl rfl;have ho:∀ o,RP S (w.alloc o) d.pa (.agg #[a,b]):=fun o=>RP.ext (yg ((Below.refl w.heap.size w).alloc (Nat.le_refl _) o)) ⟨_,rfl,h2,h3⟩
  go_wp2_with ((go_at_call 41;refine (D7 hl h64 (S:=S) (RPs.mk1 (ho _))).mono ?_;rintro e w' ⟨m,rfl,hm,hb⟩;cases m))
  all_goals go_wp2
  all_goals go_ret
  ·exact ⟨by rw [←hm];rfl,Below.trans ((Below.refl w.heap.size w).alloc (Nat.le_refl _) _) (hb.mono (by simp))⟩
  ·exact ⟨by rw [←hm];rfl,Below.trans ((Below.refl w.heap.size w).alloc (Nat.le_refl _) _) (hb.mono (by simp))⟩
 refine hc.mono ?_;rintro r w' ⟨rfl,h4⟩;exact ⟨_,S,rfl,RP.Oy _,h4,fun _ _=>rfl⟩
def qW (ps rs:List Pa):Prop:=∃ e:Ev,ps=[e.pa]∧rs=[pB e.valid]
theorem yV:Spec Try.prog 24 qW:=by
 rintro ps rs ⟨e,rfl,rfl⟩ S w vals _ hv;obtain ⟨u,rfl,h1⟩:=hv.one;obtain rfl:u=e.val:=RP.flat (vs:=e.cells) h1;refine (Eu e w).mono ?_;rintro r w' ⟨rfl,hb⟩;exact ⟨_,S,rfl,RP.Oy _,hb,fun _ _=>rfl⟩
def vQ (b off:Nat):Hw:=.agg [hP b off,hP b (off+1),hP b (off+2),hP b (off+3),hP b (off+4),hP b (off+5),hP b (off+6),hP b (off+7),hP b (off+8)]
def FE (hp:Nat→Hb) (az:List Hw) (hp':Nat→Hb) (rs:List Hw):Prop:=∃ b off:Nat,az=[.one (hP b off)]∧hp'=hp∧rs=[vQ b off]
theorem OH:gI Try.prog 48 FE:=by
 refine spw48 aA.e0 ?_;rintro hp az hp' rs ⟨b,off,rfl,rfl,rfl⟩;refine ⟨by simp,fun _=>1,?_⟩;unfold pcw48
 with_reducible refine aJ ?_
 simp only [↓evP,evB,stB,reduceCtorEq,Nat.reduceEqDiff,Nat.reduceAdd,Nat.reduceLeDiff,Nat.reduceLT];refine ⟨(by unfold Drw;refine Eq.trans (b:=true) ?_ rfl;kernel_rfl),?_⟩
 simp only [stB,Nat.reduceEqDiff,Nat.reduceAdd,Nat.reduceLeDiff,Nat.reduceLT,prw48,vQ]
 first | done | exact ⟨rfl,rfl⟩ | rfl
theorem Oq (e:Ev):e.row=e.fl.map dI:=rfl
theorem uM (e:Ev):e.fl.length=9:=rfl
theorem nine {α:Type} {f:Nat→α} {i:Nat} (h:i < 9):[f 0,f 1,f 2,f 3,f 4,f 5,f 6,f 7,f 8][i]? = some (f i):=by
 match i,h with
 | 0,_=>rfl
 | 1,_=>rfl
 | 2,_=>rfl
 | 3,_=>rfl
 | 4,_=>rfl
 | 5,_=>rfl
 | 6,_=>rfl
 | 7,_=>rfl
 | 8,_=>rfl
def Rz (hp:Nat→Hb) (az:List Hw) (Post:(Nat→Hb)→List Hw→Prop):Prop:=∃ (bw N:Nat) (x:Option Nat) (l:Ev) (bs:List Nat) (e:Ev),az=[.one (hP bw 0),iq e.pa]∧(WAt hp bw N l bs x∧bs.length≤500000∧evG l∧evG e)∧Post=fun h r=>r=[]∧JR hp bw N x e (bs ++ pK l e) h
theorem VB:dY Try.prog 30 Rz:=by
 refine sqw30 (show aA Try.prog (p1 29 zX (h1 48 FE e0)) from aA.p1 F8 (aA.h1 OH aA.e0)) ?_;rintro hp az Post ⟨bw,N,x,l,bs,e,rfl,⟨hW,hbl,hlg,heg⟩,rfl⟩;refine ⟨by simp,fun _=>4,?_⟩;have hwlt:=hW.lt;have hxl:=kJ hW.v;obtain ⟨H1,hH1⟩:∃ H1,up hp N (.cells (e.row.map .d))=H1:=⟨_,rfl⟩
 have h1N:H1 N=.cells (e.row.map .d):=by rw [←hH1];exact dX
 have hW1:WAt H1 bw (N+1) l bs x:=by
  rw [←hH1];refine ⟨by rw [bF (by omega)];exact hW.h,?_,hW.ne,by omega,fun b hb=>by rw [bF (by omega)];exact hW.fr b (by omega)⟩
  cases x with
  | none=>exact hW.v
  | some b=>exact ⟨by rw [bF (by have:=hxl b rfl;omega)];exact hW.v.1,by have:=hxl b rfl;omega⟩
 have hS1:oD hp bw N x H1 (N+1) x:=⟨by omega,fun _ q=>.inl q,fun b h1 _ _=>by rw [←hH1];exact bF (by omega)⟩
 unfold pcw30
 with_reducible refine aJ ?_
 simp only [↓evP,evB,stB,iq,Ev.pa,Ev.row];refine rJ N (fG (by simp only [stB]) (by repeat' (first | exact aG.init | assumption | exact aO (by assumption) | (refine aG.ap ?_ rfl))) (by simp only [stB];exact hW.fr N (Nat.le_refl _))) (by simp only [stB];rfl) (by simp only [stB];rfl) ?_
 have hH1':up hp N (.cells [.d (dI e.g),.d (dI e.kind),.d (dI e.obj),.d (dI e.off),.d (dI e.k),.d (dI e.n),.d (dI e.fn),.d (dI e.pc),.d (dI e.stack)])=H1:=by rw [←hH1];rfl
 simp only [↓evP,evB,stB,reduceCtorEq,Nat.reduceEqDiff];refine bK H1 [vQ bw 1] (by simp only [stB,hH1'];exact ⟨bw,1,rfl,rfl,rfl⟩) ?_
 simp only [↓evP,evB,stB,Nat.reduceEqDiff,Nat.reduceAdd,Nat.reduceLeDiff,Nat.reduceLT,vQ];refine bK H1 [vQ N 0] (by simp only [stB,Nat.reduceLT];exact ⟨N,0,rfl,rfl,rfl⟩) ?_
 simp only [↓evP,evB,stB,vQ];obtain ⟨V,hV⟩:∃ V,List.zipWith (fun x y=>x - y) e.fl l.fl=V:=⟨_,rfl⟩
 have hVl:V.length=9:=by rw [←hV];simp [Ev.fl]
 have hevt:pK l e=V.flatMap eG:=by unfold pK;rw [hV]
 have hq:∀ (xs:List Int),(xs.flatMap eG).length≤9 * xs.length:=fun xs=>by
  induction xs with
  | nil=>exact Nat.le_refl _
  | cons x xs ih =>
    rw [List.flatMap_cons,List.length_append,List.length_cons];have:(eG x).length≤9:=bU _;omega
 refine dG msw30_0 osw30_0 (fun m st=>∃ i N2 x2,m=9 - i∧i≤9∧st.sl 13=aI (i:Int)∧WAt st.hb bw N2 l (bs ++ (V.take i).flatMap eG) x2∧oD H1 bw (N+1) x st.hb N2 x2) 9 (by repeat' (first | exact aG.init | assumption | exact aO (by assumption) | (refine aG.ap ?_ rfl))) ?_ ?_
 ·refine ⟨0,N+1,x,rfl,Nat.zero_le _,by simp only [stB,Nat.reduceEqDiff];first | done | rfl,?_,?_⟩
  ·simp only [stB];exact hW1
  ·simp only [stB];exact oD.refl _ _ _ _
 rintro m j hjn hja ⟨i,N2,x2,rfl,hi,h13,hW2,hS2⟩;simp only [stB,Nat.reduceEqDiff,Nat.reduceBEq,hjn] at h13 hW2 hS2;obtain ⟨H2,hH2⟩:∃ H2,j.hb=H2:=⟨_,rfl⟩
 rw [hH2] at hW2 hS2
 have h2N:H2 N=.cells (e.row.map .d):=by
  rw [hS2.out N (by omega) (by omega) (fun q=>by have:=hxl N q;omega)];exact h1N
 have h2w:=hW2.h
 rcases Nat.lt_or_ge i 9 with hi9 | hi9
 ·obtain ⟨u,hu⟩:∃ u,e.fl[i]? = some u:=⟨_,List.getElem?_eq_getElem (by rw [uM];omega)⟩
  obtain ⟨v,hv⟩:∃ v,l.fl[i]? = some v:=⟨_,List.getElem?_eq_getElem (by rw [uM];omega)⟩
  have hub:=heg u (List.mem_of_getElem? hu);have hvb:=hlg v (List.mem_of_getElem? hv);have gu:e.row[i]? = some (dI u):=by rw [Oq,List.getElem?_map,hu];rfl
  have gv:l.row[i]? = some (dI v):=by rw [Oq,List.getElem?_map,hv];rfl
  have g1:=nine (f:=fun k=>Cl.hv (.p N k)) hi9;have g2:=nine (f:=fun k=>Cl.hv (.p bw (k+1))) hi9;simp only [Nat.reduceAdd] at g2;have hVx:V[i]? = some (u - v):=by rw [←hV,List.getElem?_zipWith,hu,hv]
  have hVs:(V.take (i+1)).flatMap eG=(V.take i).flatMap eG ++ eG (u - v):=by
   rw [take_at hVx,List.flatMap_append,List.flatMap_cons,List.flatMap_nil,List.append_nil]
  obtain ⟨B,hB⟩:∃ B,bs ++ (V.take i).flatMap eG=B:=⟨_,rfl⟩
  have hBl:B.length≤600000:=by
   rw [←hB,List.length_append];have:=hq (V.take i);rw [List.length_take] at this;omega
  rw [hB] at hW2;have lt4:(i:Int) < 9:=by omega
  have i0:(0:Int)≤(i:Int):=by omega
  have hl9:((9:Nat):Int)=9:=rfl;have w5:IntKind.i64.wrap (u - v)=u - v:=bY (by omega) (by omega);have w6:IntKind.i64.wrap ((i:Int)+1)=((i+1:Nat):Int):=by rw [bY (by omega) (by omega)];omega
  have hfin:∀ h3 N3 x3,WAt h3 bw N3 l (B ++ eG (u - v)) x3→WAt h3 bw N3 l (bs ++ (V.take (i+1)).flatMap eG) x3:=fun h3 N3 x3 h=>by
   rw [hVs,←List.append_assoc,hB];exact h
  simp only [↓evP,evB,stB,reduceCtorEq,Nat.reduceEqDiff,Nat.reduceLT,Nat.reduceBEq,h13,hjn,hH2,h2N,h2w,lt4,i0,hl9,Nat.mul_one,g1,g2,gu,gv,w5,decide_true];refine ⟨(by unfold Drw;refine Eq.trans (b:=true) ?_ rfl;kernel_rfl),?_⟩
  by_cases hneg:u - v < 0
  ·have hdn:((jC (u - v):Nat):Int)=-2 * (u - v) - 1:=by unfold jC;rw [if_pos hneg];omega
   have w7:IntKind.i64.wrap (-2 * (u - v))=-2 * (u - v):=bY (by omega) (by omega);have w8:IntKind.i64.wrap (-2 * (u - v) - 1)=((jC (u - v):Nat):Int):=by rw [hdn];exact bY (by omega) (by omega)
   simp only [stB,hneg,w7,w8,decide_true];refine bL _ (by simp only [stB,hjn,hH2];exact ⟨bw,N2,x2,l,B,jC (u - v),rfl,⟨hW2,by omega,by omega⟩,rfl⟩) ?_
   rintro h3 r ⟨rfl,N3,x3,hW3,hS3⟩;simp only [↓evP,evB,stB,Nat.reduceEqDiff,Nat.reduceBEq,h13,w6]
   refine ⟨_,by omega,(by repeat' (first | assumption | exact aT (by assumption) | (refine aK ?_ rfl rfl) | (refine aF ?_ rfl) | (refine aK ?_ rfl aN) | (refine aF ?_ aN))),i+1,N3,x3,rfl,hi9,by simp only [stB,Nat.reduceEqDiff,Nat.reduceBEq],?_,?_⟩
   ·simp only [stB];exact hfin _ _ _ hW3
   ·simp only [stB];exact hS2.trans hS3
  ·have hdn:((jC (u - v):Nat):Int)=2 * (u - v):=by unfold jC;rw [if_neg hneg];omega
   have w7:IntKind.i64.wrap (2 * (u - v))=((jC (u - v):Nat):Int):=by rw [hdn];exact bY (by omega) (by omega)
   simp only [stB,hneg,w7,decide_false];refine bL _ (by simp only [stB,hjn,hH2];exact ⟨bw,N2,x2,l,B,jC (u - v),rfl,⟨hW2,by omega,by omega⟩,rfl⟩) ?_
   rintro h3 r ⟨rfl,N3,x3,hW3,hS3⟩;simp only [↓evP,evB,stB,Nat.reduceEqDiff,Nat.reduceBEq,h13,w6]
   refine ⟨_,by omega,(by repeat' (first | assumption | exact aT (by assumption) | (refine aK ?_ rfl rfl) | (refine aF ?_ rfl) | (refine aK ?_ rfl aN) | (refine aF ?_ aN))),i+1,N3,x3,rfl,hi9,by simp only [stB,Nat.reduceEqDiff,Nat.reduceBEq],?_,?_⟩
   ·simp only [stB];exact hfin _ _ _ hW3
   ·simp only [stB];exact hS2.trans hS3
 ·have hie:i=9:=by omega
  subst hie;have hVt:V.take 9=V:=List.take_of_length_le (by omega);rw [hVt,←hevt] at hW2;have lt4:((9:Int) < 9)=False:=by simp
  have hl9:((9:Nat):Int)=9:=rfl;have h2w:=hW2.h;simp only [Ev.row,List.map_cons,List.map_nil] at h2N h2w;have hcx:=OW x2;simp only [↓evP,evB,stB,reduceCtorEq,Nat.reduceEqDiff,Nat.reduceAdd,Nat.reduceLeDiff,Nat.reduceSub,Nat.reduceBEq,h13,hjn,hH2,h2N,h2w,lt4,hl9,decide_false];refine ⟨up H2 bw (.cells (vC x2 :: e.row.map .d)),[],rfl,fun b=>.inl ?_,rfl,N2,x2,⟨dX,?_,hW2.ne,hW2.lt,fun b hb=>by rw [bF (by have:=hW2.lt;omega)];exact hW2.fr b hb⟩,?_⟩
  ·rw [ay];first | done | rfl
  ·have:=hW2.v
   cases x2 with
   | none=>exact this
   | some b=>exact ⟨by rw [bF (fun q=>hW2.ne (by rw [q]))];exact this.1,this.2⟩
  ·exact hS1.trans (hS2.trans ⟨Nat.le_refl _,fun b q=>.inl q,fun b _ q _=>bF q⟩)
theorem RF {m:Nat} (hm:m≤4294967295):IntKind.u32.wrap (((BitVec.ofInt IntKind.u32.bits (m:Int) &&& BitVec.ofInt IntKind.u32.bits 1).toNat:Nat):Int)=((m % 2:Nat):Int):=by
 have e:(BitVec.ofInt IntKind.u32.bits (m:Int) &&& BitVec.ofInt IntKind.u32.bits 1).toNat=m % 2:=by
  have h1:(BitVec.ofInt IntKind.u32.bits (1:Int)).toNat=1:=by decide
  rw [BitVec.toNat_and,h1,Nat.and_one_is_mod,BitVec.toNat_ofInt]
  have:((m:Int) % ((2 ^ IntKind.u32.bits:Nat):Int)).toNat=m:=by
   rw [show ((2 ^ IntKind.u32.bits:Nat):Int)=4294967296 from by decide];omega
  rw [this]
 rw [e];exact w32 (by omega)
theorem fd1 (n:Nat):Int.fdiv (n:Int) (2 ^ (min (Int.toNat 1) IntKind.u32.bits))=((n / 2:Nat):Int):=by
 show Int.fdiv (n:Int) 2=_
 rw [Int.fdiv_eq_ediv_of_nonneg _ (by decide)];omega
theorem KE (l:List Nat):(byR l).flatten=l.map fun (x:Nat)=>Dt.sc (.int .u8 (x:Int)):=by
 induction l with
 | nil=>rfl
 | cons x l ih=>show _ :: (byR l).flatten=_;rw [ih];rfl
theorem HV {l:List Nat} {i x:Nat} (h:l[i]? = some x):(byR l).flatten[i]? = some (.sc (.int .u8 (x:Int))):=by
 rw [KE,List.getElem?_map,h];rfl
abbrev hU (n:Nat):Hc:=.d (.sc (.int .u32 (n:Int)))
def SE (ps rs:List Pa):Prop:=∃ l:List Nat,ps=[cu l]∧(l.length≤1000000∧∀ x ∈ l,x≤255)∧rs=[.one (.sc (.int .u32 (crc l:Int)))]
def SC (hp:Nat→Hb) (az:List Hw) (hp':Nat→Hb) (rs:List Hw):Prop:=∃ (b o cap:Nat) (B l:List Nat),az=[.one (.h (.s b o l.length cap))]∧(hp b=.vec 5 1 (byR B)∧l=B.drop o∧l.length≤1000000∧∀ x ∈ l,x≤255)∧hp'=hp∧rs=[.one (hU (crc l))]
theorem Un:Spec Try.prog 56 SE:=by
 refine sp56 aA.e0 ?_;rintro ps rs ⟨l,rfl,⟨hl,hb⟩,rfl⟩;refine ⟨by simp,?_⟩;unfold pc56
 with_reducible refine aJ ?_
 have hbl:=aY l;simp only [↓evP,evB,stB,reduceCtorEq,Nat.reduceEqDiff,cu,hbl];refine bH ms56_0 os56_0 (fun m st=>∃ k:Nat,m=l.length - k∧k≤l.length∧st.sl 9=aI k∧st.sl 3=aU (mW 4294967295 (l.take k))) l.length ?_ ?_
 ·exact ⟨0,rfl,Nat.zero_le _,by simp only [stB,Nat.reduceEqDiff];first | done | rfl,by simp only [stB,Nat.reduceEqDiff];first | done | rfl⟩
 rintro m z ⟨k,rfl,hk,h4,h3⟩;simp only [stB,Nat.reduceEqDiff,Nat.reduceBEq] at h4 h3;have hc0:mW 4294967295 (l.take k)≤4294967295:=zD (by decide) fun x hx=>hb x (List.mem_of_mem_take hx)
 rcases Nat.lt_or_ge k l.length with hlt | hge
 ·obtain ⟨x,hx⟩:∃ x,l[k]? = some x:=⟨_,List.getElem?_eq_getElem hlt⟩
  have hx8:=hb x (List.mem_of_getElem? hx);have hgx:=Gs hx;have klt:(k:Int) < (l.length:Int):=by omega
  have k0:(0:Int)≤(k:Int):=by omega
  have wx:IntKind.u32.wrap (x:Int)=(x:Int):=w32 (by omega);have wc:=x32 hc0 (show x≤4294967295 by omega)
  have hsu:mW 4294967295 (l.take (k+1))=qG (mW 4294967295 (l.take k) ^^^ x) 8:=by
   rw [List.take_add_one,hx,wM];rfl
  have hc1:=xO hc0 (show x≤4294967295 by omega);generalize mW 4294967295 (l.take k)=c at *;simp only [↓evP,evB,stB,reduceCtorEq,Nat.reduceEqDiff,Nat.reduceBEq,h4,h3,klt,k0,hgx,wx,wc,decide_true];obtain ⟨d,hd⟩:∃ d,c ^^^ x=d:=⟨_,rfl⟩
  rw [hd] at hsu hc1;rw [hd];refine bH ms56_1 os56_1 (fun m st=>∃ i:Nat,m=8 - i∧i≤8∧st.sl 17=aI i∧st.sl 3=aU (qG d i)) 8 ?_ ?_
  ·exact ⟨0,rfl,Nat.zero_le _,by simp only [stB,Nat.reduceEqDiff,Nat.reduceBEq];first | done | rfl,by simp only [stB,Nat.reduceEqDiff,Nat.reduceBEq];first | done | rfl⟩
  rintro m2 z2 ⟨i,rfl,hi,h5,h3'⟩;simp only [stB,Nat.reduceEqDiff,Nat.reduceBEq] at h5 h3'
  rcases Nat.lt_or_ge i 8 with hi8 | hi8
  ·have hcb:=rY hc1 i;have hcs:qG d (i+1)=DV (qG d i):=rfl;generalize qG d i=b' at *;have ilt:(i:Int) < 8:=by omega
   have t1:=RF hcb;have t3:=fd1 b';have n1:¬ ((1:Int) < 0):=by decide
   have t4:=x32 (m:=b' / 2) (n:=3988292384) (by omega) (by decide);unfold DV at hcs
   by_cases hb1:b' % 2=1
   ·have e1:(((b' % 2:Nat):Int) == 1)=true:=by rw [hb1];rfl
    rw [if_pos hb1] at hcs;simp only [↓evP,evB,stB,reduceCtorEq,Nat.reduceEqDiff,Nat.reduceBEq,h4,h3,h5,h3',ilt,n1,t1,t3,e1,decide_true];rw [show (3988292384:Int)=((3988292384:Nat):Int) from rfl,t4]
    exact ⟨_,by omega,(by repeat' (first | assumption | exact aV.mpr trivial | exact Within.refl _ _ _ | (refine bg ?_ rfl rfl) | (refine aW ?_ rfl))),i+1,rfl,hi8,by simp only [stB,Nat.reduceEqDiff,Nat.reduceBEq,h5];rw [wrN (by omega)],by simp only [stB,Nat.reduceEqDiff,Nat.reduceBEq];rw [hcs]⟩
   ·have e1:(((b' % 2:Nat):Int) == 1)=false:=by
     rw [beq_eq_false_iff_ne];omega
    rw [if_neg hb1] at hcs;simp only [↓evP,evB,stB,reduceCtorEq,Nat.reduceEqDiff,Nat.reduceBEq,h4,h3,h5,h3',ilt,n1,t1,t3,e1,decide_true]
    exact ⟨_,by omega,(by repeat' (first | assumption | exact aV.mpr trivial | exact Within.refl _ _ _ | (refine bg ?_ rfl rfl) | (refine aW ?_ rfl))),i+1,rfl,hi8,by simp only [stB,Nat.reduceEqDiff,Nat.reduceBEq,h5];rw [wrN (by omega)],by simp only [stB,Nat.reduceEqDiff,Nat.reduceBEq];rw [hcs]⟩
  ·have hie:i=8:=by omega
   subst hie;have ilt:¬ ((8:Nat):Int) < 8:=by omega
   simp only [↓evP,evB,stB,reduceCtorEq,Nat.reduceEqDiff,Nat.reduceSub,Nat.reduceBEq,h4,h3,h5,h3',ilt,decide_false]
   exact ⟨_,by omega,(by repeat' (first | assumption | exact aV.mpr trivial | exact Within.refl _ _ _ | (refine bg ?_ rfl rfl) | (refine aW ?_ rfl) | (refine jq ?_ rfl rfl))),k+1,rfl,hlt,by simp only [stB,Nat.reduceEqDiff,Nat.reduceBEq,h4];rw [wrN (by omega)],by simp only [stB,Nat.reduceEqDiff,Nat.reduceBEq,h3'];rw [hsu]⟩
 ·have hke:k=l.length:=by omega
  have klt:¬ (k:Int) < (l.length:Int):=by omega
  rw [hke,List.take_length] at h3 hc0;have wc:=x32 (m:=4294967295) (by decide) hc0;have hcr:4294967295 ^^^ mW 4294967295 l=crc l:=Nat.xor_comm _ _;rw [hcr] at wc;have hmx:(IntKind.u32.max:Int)=((4294967295:Nat):Int):=rfl;have hsg:IntKind.u32.signed=false:=rfl;simp only [↓evP,evB,stB,reduceCtorEq,Nat.reduceEqDiff,Nat.reduceBEq,h4,h3,klt,hsg,hmx,wc,pr56,Bool.false_eq_true,decide_false]
  first | done | rfl
theorem Um:gI Try.prog 56 SC:=by
 refine spw56 aA.e0 ?_;rintro hp az hp' rs ⟨b,o,cap,B,l,rfl,⟨hB,hlB,hl,hb⟩,rfl,rfl⟩;refine ⟨by simp,fun _=>1,?_⟩;unfold pcw56
 with_reducible refine aJ ?_
 have hbl:=aY l;simp only [↓evP,evB,stB,reduceCtorEq,Nat.reduceEqDiff];refine dG msw56_0 osw56_0 (fun m st=>∃ k:Nat,m=l.length - k∧k≤l.length∧st.sl 9=aI k∧st.sl 3=aU (mW 4294967295 (l.take k))∧st.hb=hp') l.length (by repeat' (first | exact aG.init | assumption | exact aO (by assumption) | (refine aG.ap ?_ rfl))) ?_ ?_
 ·exact ⟨0,rfl,Nat.zero_le _,by simp only [stB,Nat.reduceEqDiff];first | done | rfl,by simp only [stB,Nat.reduceEqDiff];first | done | rfl,by simp only [stB];first | done | rfl⟩
 rintro m z hjn hja ⟨k,rfl,hk,h4,h3,hh⟩;simp only [stB,Nat.reduceEqDiff,Nat.reduceBEq,hjn] at h4 h3 hh;have hc0:mW 4294967295 (l.take k)≤4294967295:=zD (by decide) fun x hx=>hb x (List.mem_of_mem_take hx)
 rcases Nat.lt_or_ge k l.length with hlt | hge
 ·obtain ⟨x,hx⟩:∃ x,l[k]? = some x:=⟨_,List.getElem?_eq_getElem hlt⟩
  have hx8:=hb x (List.mem_of_getElem? hx);have hgx:=HV (show B[o+k]? = some x by rw [hlB,List.getElem?_drop] at hx;exact hx)
  have klt:(k:Int) < (l.length:Int):=by omega
  have k0:(0:Int)≤(k:Int):=by omega
  have wx:IntKind.u32.wrap (x:Int)=(x:Int):=w32 (by omega);have wc:=x32 hc0 (show x≤4294967295 by omega)
  have hsu:mW 4294967295 (l.take (k+1))=qG (mW 4294967295 (l.take k) ^^^ x) 8:=by
   rw [List.take_add_one,hx,wM];rfl
  have hc1:=xO hc0 (show x≤4294967295 by omega);generalize mW 4294967295 (l.take k)=c at *;simp only [↓evP,evB,stB,reduceCtorEq,Nat.reduceEqDiff,Nat.reduceBEq,h4,h3,hjn,hh,hB,klt,k0,hgx,wx,wc,Nat.mul_one,decide_true];obtain ⟨d,hd⟩:∃ d,c ^^^ x=d:=⟨_,rfl⟩
  rw [hd] at hsu hc1;rw [hd];refine dG msw56_1 osw56_1 (fun m st=>∃ i:Nat,m=8 - i∧i≤8∧st.sl 17=aI i∧st.sl 3=aU (qG d i)∧st.hb=hp') 8 (by repeat' (first | exact aG.init | assumption | exact aO (by assumption) | (refine aG.ap ?_ rfl))) ?_ ?_
  ·exact ⟨0,rfl,Nat.zero_le _,by simp only [stB,Nat.reduceEqDiff,Nat.reduceBEq];first | done | rfl,by simp only [stB,Nat.reduceEqDiff,Nat.reduceBEq];first | done | rfl,by simp only [stB,hjn,hh];first | done | rfl⟩
  rintro m2 z2 hjn2 hja2 ⟨i,rfl,hi,h5,h3',hh2⟩;simp only [stB,Nat.reduceEqDiff,Nat.reduceBEq,hjn2] at h5 h3' hh2
  rcases Nat.lt_or_ge i 8 with hi8 | hi8
  ·have hcb:=rY hc1 i;have hcs:qG d (i+1)=DV (qG d i):=rfl;generalize qG d i=b' at *;have ilt:(i:Int) < 8:=by omega
   have t1:=RF hcb;have t3:=fd1 b';have n1:¬ ((1:Int) < 0):=by decide
   have t4:=x32 (m:=b' / 2) (n:=3988292384) (by omega) (by decide);unfold DV at hcs
   by_cases hb1:b' % 2=1
   ·have e1:(((b' % 2:Nat):Int) == 1)=true:=by rw [hb1];rfl
    rw [if_pos hb1] at hcs;simp only [↓evP,evB,stB,reduceCtorEq,Nat.reduceEqDiff,Nat.reduceBEq,h4,h3,h5,h3',hjn2,hh2,ilt,n1,t1,t3,e1,decide_true];rw [show (3988292384:Int)=((3988292384:Nat):Int) from rfl,t4]
    exact ⟨_,by omega,(by repeat' (first | assumption | exact aT (by assumption) | (refine aK ?_ rfl rfl) | (refine aF ?_ rfl) | (refine aK ?_ rfl aN) | (refine aF ?_ aN))),i+1,rfl,hi8,by simp only [stB,Nat.reduceEqDiff,Nat.reduceBEq,h5];rw [wrN (by omega)],by simp only [stB,Nat.reduceEqDiff,Nat.reduceBEq];rw [hcs],by simp only [stB,hjn2,hh2];first | done | rfl⟩
   ·have e1:(((b' % 2:Nat):Int) == 1)=false:=by
     rw [beq_eq_false_iff_ne];omega
    rw [if_neg hb1] at hcs;simp only [↓evP,evB,stB,reduceCtorEq,Nat.reduceEqDiff,Nat.reduceBEq,h4,h3,h5,h3',hjn2,hh2,ilt,n1,t1,t3,e1,decide_true]
    exact ⟨_,by omega,(by repeat' (first | assumption | exact aT (by assumption) | (refine aK ?_ rfl rfl) | (refine aF ?_ rfl) | (refine aK ?_ rfl aN) | (refine aF ?_ aN))),i+1,rfl,hi8,by simp only [stB,Nat.reduceEqDiff,Nat.reduceBEq,h5];rw [wrN (by omega)],by simp only [stB,Nat.reduceEqDiff,Nat.reduceBEq];rw [hcs],by simp only [stB,hjn2,hh2];first | done | rfl⟩
  ·have hie:i=8:=by omega
   subst hie;have ilt:¬ ((8:Nat):Int) < 8:=by omega
   simp only [↓evP,evB,stB,reduceCtorEq,Nat.reduceEqDiff,Nat.reduceSub,Nat.reduceBEq,h4,h3,h5,h3',hjn2,hh2,ilt,decide_false]
   exact ⟨_,by omega,(by repeat' (first | assumption | exact aT (by assumption) | (refine aK ?_ rfl rfl) | (refine aF ?_ rfl) | (refine aK ?_ rfl aN) | (refine aF ?_ aN) | (refine cK.in' ?_ (aT (by assumption)) rfl rfl))),k+1,rfl,hlt,by simp only [stB,Nat.reduceEqDiff,Nat.reduceBEq,h4];rw [wrN (by omega)],by simp only [stB,Nat.reduceEqDiff,Nat.reduceBEq,h3'];rw [hsu],by simp only [stB,hjn2,hh2];first | done | rfl⟩
 ·have hke:k=l.length:=by omega
  have klt:¬ (k:Int) < (l.length:Int):=by omega
  rw [hke,List.take_length] at h3 hc0;have wc:=x32 (m:=4294967295) (by decide) hc0;have hcr:4294967295 ^^^ mW 4294967295 l=crc l:=Nat.xor_comm _ _;rw [hcr] at wc;have hmx:(IntKind.u32.max:Int)=((4294967295:Nat):Int):=rfl;have hsg:IntKind.u32.signed=false:=rfl;simp only [↓evP,evB,stB,reduceCtorEq,Nat.reduceEqDiff,Nat.reduceBEq,h4,h3,hjn,hh,klt,hsg,hmx,wc,prw56,Bool.false_eq_true,decide_false]
  first | done | exact ⟨rfl,rfl⟩ | rfl
theorem Spec.toH [I:bS] {P:Program} {f:Nat} {R:List Pa→List Pa→Prop} (h:Spec P f R):gI P f (fun hp az hp' rs=>∃ ps rs',az=ps.map iq∧R ps rs'∧hp'=hp∧rs=rs'.map iq):=by
 rintro hp az hp' rs ⟨ps,rs',rfl,hR,rfl,rfl⟩ W w vals hI hrp hvals;have hw:I.p w:=hI w ⟨rfl,rfl,rfl,Nat.le_refl _,fun _ _ _=>rfl⟩;refine Calls.mono (h ps rs' hR W.S w vals hw (J5.1 hvals)) ?_;rintro e w' ⟨v,S',rfl,hrr,hb,hS⟩;have hext:Ext W.S S' w w':=kZ (fp:=fun _=>False) ⟨hb.os,hb.tape,hb.output,hb.size,fun k hk _=>hb.block k hk⟩ (fun _ q=>q.elim) hS
 have hfol:Fol W G0 O0 w { W with S:=S' } G0 O0 w':=⟨hext,fun _=>Nat.le_refl _,fun _ _=>rfl,fun o E sz k _ ho=>⟨k,ho,Nat.le_refl _,fun _=>rfl⟩,fun _ _=>rfl,fun _ h=>⟨h,rfl,rfl⟩,rfl⟩
 refine ⟨v,{ W with S:=S' },rfl,VH.2 hrr,⟨hrp.lv,fun b k hk=>?_,fun b=>?_,hrp.ex⟩,fun b hl=>⟨hl,rfl,rfl⟩,⟨hb.os,hb.tape,hb.output,hb.size,fun k hk _=>hb.block k hk⟩,fun k hk=>.inl hk,hS⟩
 ·obtain ⟨q1,q2⟩:=hrp.mine b k hk;exact ⟨(hS k q2).trans q1,Nat.lt_of_lt_of_le q2 hb.size⟩
 ·exact RH.fol hfol (hrp.at_ b) (fun hn=>(hrp.lv b).2 hn) rfl (fun k hk=>hb.block k (hrp.mine b k hk).2)
theorem gI.or [I:bS] {P:Program} {f:Nat} {R R':(Nat→Hb)→List Hw→(Nat→Hb)→List Hw→Prop} (h:gI P f R) (h':gI P f R'):gI P f (fun hp az hp' rs=>R hp az hp' rs∨R' hp az hp' rs) :=
 fun hp az hp' rs hr=>hr.elim (h hp az hp' rs) (h' hp az hp' rs)
def Ru (hp:Nat→Hb) (l:List Nat) (c:Hc):Prop:=(∃ (b o cap:Nat) (B:List Nat),c=.h (.s b o l.length cap)∧hp b=.vec 5 1 (byR B)∧l=B.drop o)∨c=.d (.im (byR l))
def NS (hp:Nat→Hb) (az:List Hw) (hp':Nat→Hb) (rs:List Hw):Prop:=∃ (c:Hc) (l:List Nat),az=[.one c]∧(Ru hp l c∧l.length≤1000000∧∀ x ∈ l,x≤255)∧hp'=hp∧rs=[.one (hU (crc l))]
theorem Ul:gI Try.prog 56 NS:=by
 rintro hp az hp' rs ⟨c,l,rfl,⟨hc,hl,hb⟩,rfl,rfl⟩
 rcases hc with ⟨b,o,cap,B,rfl,h1,h2⟩ | rfl
 ·exact Um _ _ _ _ ⟨b,o,cap,B,l,rfl,⟨h1,h2,hl,hb⟩,rfl,rfl⟩
 ·exact (Spec.toH Un) _ _ _ _ ⟨[cu l],_,rfl,⟨l,rfl,⟨hl,hb⟩,rfl⟩,rfl,rfl⟩
def xC (hp:Nat→Hb) (az:List Hw) (hp':Nat→Hb) (rs:List Hw):Prop:=∃ (x:Option Nat) (N:Nat) (bs l:List Nat) (c:Hc),az=[bHw x,.one c]∧(qX hp N bs x∧oz hp N∧bs.length≤990000∧Ru hp l c∧l.length≤1000000∧∀ x ∈ l,x≤255)∧hp'=kF hp x N 1 (bs ++ fT l)∧rs=[bHw (some N)]
theorem Ru.hc {hp:Nat→Hb} {l:List Nat} {c:Hc} (h:Ru hp l c):c.cl.hc=some c:=by
 rcases h with ⟨b,o,cap,B,rfl,_⟩ | rfl <;> rfl
theorem OE:gI Try.prog 46 xC:=by
 refine spw46 (show aA Try.prog (h1 56 NS e0) from aA.h1 Ul aA.e0) ?_;rintro hp az hp' rs ⟨x,N,bs,l,c,rfl,⟨hv,hN,hbl,hc,hl,hb⟩,rfl,rfl⟩;refine ⟨by simp,fun _=>22,?_⟩;have hcc:=hc.hc;have n1:¬ ((24:Int) < 0):=by decide
 have n2:¬ ((16:Int) < 0):=by decide
 have n3:¬ ((8:Int) < 0):=by decide
 unfold pcw46
 with_reducible refine aJ ?_
 simp only [↓evP,evB,stB,Nat.reduceEqDiff,bHw,hcc];refine bK hp [.one (hU (crc l))] (by simp only [stB,Nat.reduceLT];exact ⟨c,l,rfl,⟨hc,hl,hb⟩,rfl,rfl⟩) ?_
 simp only [↓evP,evB,stB,reduceCtorEq,Nat.reduceEqDiff,Nat.reduceAdd,Nat.reduceLeDiff,n1,n2,n3,R3,RZ,fd8,w8m];refine J8 (hp:=hp) (x:=x) (N:=N) (j:=0) (bs:=bs) (news:=fT l) (c:=22) (by simp only [stB,Nat.reduceEqDiff];rfl) (by simp only [stB,Nat.reduceLT];rfl) (fun _=>hv) (kJ hv) hN (by simp only [stB]) (fun b _=>by simp only [stB]) (fun _ _=>rfl) (lV (by simp only [stB,Nat.reduceEqDiff];rfl)) (by show bs.length+4≤_;omega) (by repeat' (first | exact aG.init | assumption | exact aO (by assumption) | (refine aG.ap ?_ rfl))) (fun L hL=>?_)
 simp only [↓evP,evB,stB,reduceCtorEq,Nat.reduceEqDiff,prw46];exact ⟨rfl,hL⟩
theorem VD {env:Env} {KD:St→Ft→Prop} {acc:Ft} {rd:List Rg} {is:List PI} {s:St} {d:Nat} {c c0:Nat} {X Y:PX} {hp:Nat→Hb} {x:Option Nat} {N j:Nat} {bs news:List Nat}
 (hX:s.cl X=(vC (qh x N j)).cl) (hb:s.hb=kF hp x N j bs) (hx:j=0→qX hp N bs x) (hxl:∀ b,x=some b→b < N) (hf:oz hp N) (hn1:s.nc (N+j)=c) (hn2:∀ b,qh x N j=some b→s.nc b=c) (hc:x=none→j=0→c0=c) (hY:s.jO Y=some (byR news)) (hl:bs.length+news.length≤1000000) (ha:aG s)
 (k:∀ l:List (Nat×Hb),(s.ap (some d) (.b (.one (.hv (.v (N+j))))) (.hw (HBS+c) l)).hb=kF hp x N (j+1) (bs ++ news)→dw env is (s.ap (some d) (.b (.one (.hv (.v (N+j))))) (.hw (HBS+c) l)) ((rd,[(HBS+c,0,big)]) :: acc) KD):Ot env KD is s (some d) acc c0 rd (.app 5 1 1 X Y):=by
 have hna:=dZ news;have hnl:=aY news;have hbl:=aY bs;have hfree:s.hb (N+j)=.no:=by rw [hb];exact jX hxl hf _ (Nat.le_refl _)
 rcases RJ hX with ⟨h1,h2⟩ | ⟨b,h1,h2⟩
 ·-- a nil slice
  have hj:j=0:=by
   cases j with
   | zero=>rfl
   | succ j=>cases h1
  subst hj;have hx0:x=none:=h1;subst hx0;have hbs:bs=[]:=hx rfl;subst hbs;refine ES (N+0) (fG (by rw [hn1,hc rfl rfl]) ha hfree) h2 hY ⟨by rw [hna];trivial,by rw [hnl];simpa using hl,by omega⟩ ?_
  rw [hc rfl rfl];refine k _ ?_;rw [nA (by rintro p hp;rw [List.mem_singleton.1 hp];exact hn1)]
  funext m
  rw [zS,hb]
  show _=(if m=N+0 then Hb.vec 5 1 (byR ([] ++ news)) else if (none:Option Nat)=some m∨(N≤m∧m < N+0) then Hb.dead else hp m)
  rw [List.nil_append]
  by_cases hm:m=N+0
  ·rw [if_pos hm,if_pos hm]
  ·rw [if_neg hm,if_neg hm,if_neg (by rintro (h | h);cases h;omega)];rfl
 ·have hvec:s.hb b=.vec 5 1 (byR bs):=by
   rw [hb]
   cases j with
   | zero =>
     have hxb:x=some b:=h1;have:=hx rfl;rw [hxb] at this;exact this.1
   | succ j =>
     have:N+j=b:=by simpa [qh] using h1
     rw [←this];exact iT
  refine oM (N+j) (fG (by rw [hn1,hn2 b h1]) ha hfree) h2 hvec hY ⟨by rw [hna];trivial,by rw [hbl,hnl];exact hl,by omega⟩ ?_
  rw [hn2 b h1];refine k _ ?_
  rw [nA (by rintro p hp;rcases List.mem_cons.1 hp with rfl | hp;exact hn2 b h1;rw [List.mem_singleton.1 hp];exact hn1)]
  funext m
  rw [Ht,hb,iM]
  show _=(if m=N+j then Hb.vec 5 1 (byR (bs ++ news)) else if x=some m∨(N≤m∧m < N+j) then Hb.dead else hp m)
  by_cases hm:m=N+j
  ·rw [if_pos hm,if_pos hm]
  ·rw [if_neg hm,if_neg hm]
   cases j with
   | zero =>
     have hxb:x=some b:=h1
     by_cases hmb:m=b
     ·rw [if_pos hmb,if_pos (.inl (by rw [hxb,hmb]))]
     ·rw [if_neg hmb,if_neg (by rintro (h | h);rw [hxb] at h;exact hmb (by cases h;rfl);omega)];rfl
   | succ j =>
     have hbb:N+j=b:=by simpa [qh] using h1
     by_cases hmb:m=b
     ·rw [if_pos hmb,if_pos (.inr (by omega))]
     ·rw [if_neg hmb]
      show (if m=N+j then _ else _)=_
      rw [if_neg (by omega)]
      by_cases hq:x=some m∨(N≤m∧m < N+j)
      ·rw [if_pos hq,if_pos (by rcases hq with h | h;exact .inl h;exact .inr (by omega))]
      ·rw [if_neg hq,if_neg (by rintro (h | h);exact hq (.inl h);exact hq (.inr (by omega)))]
def qm (hp:Nat→Hb) (bw bf N:Nat) (l:Ev) (F C:List Nat) (kind:Nat):Nat→Hb :=
 up (kF hp (some bf) N ((bq C.length).length+3) (F ++ bM kind C)) bw (.cells (vC none :: l.row.map .d))
def qF (N:Nat) (C:List Nat):Nat:=N+((bq C.length).length+2)
def Oi (hp:Nat→Hb) (az:List Hw) (hp':Nat→Hb) (rs:List Hw):Prop:=∃ (bw bf N:Nat) (x:Option Nat) (l:Ev) (F C:List Nat) (kind:Nat),az=[.one (hP bw 0),.one (.h (.v bf)),.one (.d (.sc (.int .u8 (kind:Int))))] ∧
 (WAt hp bw N l C x∧(hp bf=.vec 5 1 (byR F)∧bf < N∧bf≠bw∧x≠some bf)∧F.length≤400000∧C.length≤400000∧kind≤255∧∀ y ∈ C,y≤255)∧hp'=qm hp bw bf N l F C kind∧rs=[.one (.h (.v (qF N C)))]
def bC:PC→PC
 | .seq _ b=>b
 | c=>c
theorem Rb {hp:Nat→Hb} {y:Option Nat} {M j b:Nat} {bs:List Nat} {c:Hb} (hb:b < M) (hy:y≠some b):kF (up hp b c) y M j bs=up (kF hp y M j bs) b c:=by
 cases j with
 | zero=>rfl
 | succ j =>
   funext m
   show (if m=M+j then Hb.vec 5 1 (byR bs) else if y=some m∨(M≤m∧m < M+j) then Hb.dead else up hp b c m)=up (kF hp y M (j+1) bs) b c m
   by_cases hm:m=b
   ·subst hm;rw [dX,dX,if_neg (by omega),if_neg (by rintro (q | q);exact hy q;omega)]
   ·rw [bF hm,bF hm];rfl
theorem Np {s:St} {Y:PX} {x:Option Nat} {N:Nat} {C:List Nat} (h:s.cl Y=(vC x).cl) (hv:qX s.hb N C x):s.jO Y=some (byR C):=by
 cases x with
 | none =>
   have:C=[]:=hv;subst this;exact lV (by rw [h];rfl)
 | some b=>exact QS h hv.1
noncomputable def su:Env:=h1 45 Dn (h1 46 xC e0)
theorem KA {hp:Nat→Hb} {bw bf N:Nat} {x:Option Nat} {l:Ev} {F C:List Nat} {kind:Nat} (hW:WAt hp bw N l C x) (hf:hp bf=.vec 5 1 (byR F)) (hfl:bf < N) (hfw:bf≠bw) (hfx:x≠some bf) (hFl:F.length≤400000) (hCl:C.length≤400000) (hk:kind≤255) (hCb:∀ y ∈ C,y≤255)
 {Q:Exit→St→Prop} (st:St) (s0:st.sl 0=.b (.one (.hv (.p bw 0)))) (s1:st.sl 1=.b (.one (.hv (.v (N+(bq C.length).length))))) (s7:st.sl 7=aI (F.length:Int)) (sh:st.hb=kF hp (some bf) N ((bq C.length).length+1) (F ++ [kind] ++ bq C.length))
 (sn:st.nc=fun b=>if b=bf∨N≤b then 2 else 1) (sa:aG st) (hQ:∀ s':St,s'.sl 6=.b (.one (.hv (.v (qF N C))))→s'.hb=qm hp bw bf N l F C kind→Q .ret s') :
 pwp su (bC (bC (bC pcw25))) (exS su [] Q) st:=by
 have hwl:=hW.lt;have h0:=hW.h;have hxl:=kJ hW.v;obtain ⟨k,hkn⟩:∃ k,(bq C.length).length=k:=⟨_,rfl⟩
 have hkp:0 < k:=by rw [←hkn];exact jI _
 have hkl:k≤9:=by rw [←hkn];exact bU _
 rw [hkn] at s1 sh;have hbf:∀ b,(some bf:Option Nat)=some b→b < N:=fun b q=>by cases q;exact hfl
 have hne:(some bf:Option Nat)≠some bw:=fun q=>hfw (by cases q;rfl)
 obtain ⟨H2,hH2⟩:∃ H2,kF hp (some bf) N (k+1) (F ++ [kind] ++ bq C.length)=H2:=⟨_,rfl⟩
 rw [hH2] at sh;have h2w:H2 bw=.cells (vC x :: l.row.map .d):=by rw [←hH2,jL hwl hne];exact h0
 have h2x:qX H2 N C x:=by
  have:=hW.v
  cases x with
  | none=>exact this
  | some b=>exact ⟨by rw [←hH2,jL this.2 (fun q=>hfx (by cases q;rfl))];exact this.1,this.2⟩
 have n1:N+k=bf∨N≤N+k:=.inr (by omega);have n2:N+(k+1)=bf∨N≤N+(k+1):=.inr (by omega);have lF:(F ++ [kind] ++ bq C.length).length=F.length+1+k:=by rw [List.length_append,List.length_append,hkn];rfl
 show pwp su (bC (bC (bC pcw25))) _ _
 unfold pcw25;simp only [bC];simp only [↓evP,evB,stB,reduceCtorEq,Nat.reduceEqDiff,s0,s1,sh,h2w]
 refine J8 (hp:=hp) (x:=some bf) (N:=N) (j:=k+1) (bs:=F ++ [kind] ++ bq C.length) (news:=C) (c:=2) (by simp only [stB,Nat.reduceEqDiff];rfl) (by simp only [stB,sh,hH2]) (fun q=>by omega) hbf hW.fr (by simp only [stB,sn,n2]) (fun b q=>by
  have:N+k=b:=by simpa [qh] using q
  subst this;simp only [stB,sn,n1]) (fun q=>by cases q) (Np (x:=x) (N:=N) (by simp only [stB,Nat.reduceEqDiff]) (by simp only [stB,sh];exact h2x)) (by rw [lF];omega) (by repeat' (first | exact aG.init | assumption | exact aO (by assumption) | (refine aG.ap ?_ rfl))) (fun L hL=>?_)
 have hG:F ++ [kind] ++ bq C.length ++ C=F ++ bB kind C:=by
  unfold bB;simp only [List.append_assoc,List.cons_append,List.nil_append]
 rw [hG] at hL;obtain ⟨H3,hH3⟩:∃ H3,kF hp (some bf) N (k+1+1) (F ++ bB kind C)=H3:=⟨_,rfl⟩
 rw [hH3] at hL;have h3w:H3 bw=.cells (vC x :: l.row.map .d):=by rw [←hH3,jL hwl hne];exact h0
 have hbl:(bB kind C).length=1+k+C.length:=by
  unfold bB;rw [List.length_cons,List.length_append,hkn];omega
 have hlen:(F ++ bB kind C).length=F.length+(1+k+C.length):=by rw [List.length_append,hbl]
 have hrl:=aY (F ++ bB kind C);have hw':IntKind.i64.wrap 0=0:=rfl;obtain ⟨H4,hH4⟩:∃ H4,up H3 bw (.cells (vC none :: l.row.map .d))=H4:=⟨_,rfl⟩
 have h4c:H4 (N+(k+1))=.vec 5 1 (byR (F ++ bB kind C)):=by
  rw [←hH4,bF (by omega),←hH3];exact iT
 have h4f:oz H4 (N+(k+2)):=by
  intro b hb;rw [←hH4,bF (by omega),←hH3];exact jX hbf hW.fr b (by omega)
 simp only [↓evP,evB,stB,reduceCtorEq,Nat.reduceEqDiff,Nat.reduceLeDiff,s0,s1,s7,hL,h3w,jr]
 refine I8 (a:=N+(k+1)) (E:=5) (rows:=byR (F ++ bB kind C)) F.length (by simp only [stB,Nat.reduceEqDiff]) (by
  simp only [stB,hL];rw [if_neg (by omega),←hH3];exact iT) (by simp only [stB,Nat.reduceEqDiff]) (by rw [hrl,hlen];omega) (fun cap hc1 hc2=>?_)
 have hvl:(byR (F ++ bB kind C)).length - F.length=(bB kind C).length:=by rw [hrl,hlen,hbl];omega
 rw [hvl];have hfun:up H3 bw (Hb.cells (.d (.sc (.slice none 0 0)) :: l.row.map .d))=H4:=hH4;simp only [evB,stB,Nat.reduceEqDiff,Nat.mul_one];have hbb:∀ y ∈ bB kind C,y≤255:=nH hk hCb (by omega)
 have hsum:F ++ bB kind C ++ fT (bB kind C)=F ++ bM kind C:=by unfold bM;rw [List.append_assoc]
 have hfin:kF H4 (some (N+(k+1))) (N+(k+2)) 1 (F ++ bM kind C)=qm hp bw bf N l F C kind:=by
  rw [←hH4,Rb (by omega) (fun q=>absurd (Option.some.inj q) (by omega)),←hH3];have:=y9 (hp:=hp) (x:=some bf) (N:=N) (j:=k+2) (k:=1) (b1:=F ++ bB kind C) (b2:=F ++ bM kind C) (by omega) (by omega);rw [show qh (some bf) N (k+2)=some (N+(k+1)) from rfl] at this;rw [this];unfold qm;rw [hkn]
 refine bK (qm hp bw bf N l F C kind) [bHw (some (N+(k+2)))] (by
  simp only [stB,hL];rw [hfun];exact ⟨some (N+(k+1)),N+(k+2),F ++ bB kind C,bB kind C,_,rfl,⟨⟨h4c,by omega⟩,h4f,by rw [hlen];omega,.inl ⟨N+(k+1),F.length,cap,_,rfl,h4c,by rw [List.drop_left]⟩,by rw [hbl];omega,hbb⟩,by rw [hsum];exact hfin.symm,rfl⟩) ?_
 simp only [↓evP,evB,stB,Nat.reduceEqDiff,bHw];refine hQ _ ?_ ?_
 ·simp only [stB,Nat.reduceEqDiff];unfold qF;rw [hkn];rfl
 ·simp only [stB]
theorem UL:gI Try.prog 25 Oi:=by
 refine spw25 (show aA Try.prog (h1 45 Dn (h1 46 xC e0)) from aA.h1 Sm (aA.h1 OE aA.e0)) ?_;rintro hp az hp' rs ⟨bw,bf,N,x,l,F,C,kind,rfl,⟨hW,⟨hf,hfl,hfw,hfx⟩,hFl,hCl,hk,hCb⟩,rfl,rfl⟩;refine ⟨by simp,fun b=>if b=bf∨N≤b then 2 else 1,?_⟩;have hwl:=hW.lt;have h0:=hW.h;have hxl:=kJ hW.v;have cF:=aY F;have nw:¬ (bw=bf∨N≤bw):=by omega
 have nf:bf=bf∨N≤bf:=.inl rfl;have nN:N=bf∨N≤N:=.inr (Nat.le_refl _);obtain ⟨k,hkn⟩:∃ k,(bq C.length).length=k:=⟨_,rfl⟩
 have hkp:0 < k:=by rw [←hkn];exact jI _
 have hkl:k≤9:=by rw [←hkn];exact bU _
 have g1:F.length+1≤1000000:=by omega
 unfold pcw25
 with_reducible refine aJ ?_
 simp only [↓evP,evB,stB,Nat.reduceEqDiff,Nat.reduceLeDiff,Nat.reduceLT,hf,cF];refine VD (hp:=hp) (x:=some bf) (N:=N) (j:=0) (bs:=F) (news:=[kind]) (c:=2) (by simp only [stB,Nat.reduceEqDiff];rfl) (by simp only [stB,Nat.reduceLT];rfl) (fun _=>⟨hf,hfl⟩) (fun b q=>by cases q;exact hfl) hW.fr (by simp only [stB,nN]) (fun b q=>by cases q;simp only [stB]) (fun q=>by cases q) (lV (by simp only [stB,Nat.reduceEqDiff];rfl)) (by show F.length+1≤_;omega) (by repeat' (first | exact aG.init | assumption | exact aO (by assumption) | (refine aG.ap ?_ rfl))) (fun L hL=>?_)
 obtain ⟨H1,hH1⟩:∃ H1,kF hp (some bf) N (0+1) (F ++ [kind])=H1:=⟨_,rfl⟩
 rw [hH1] at hL;simp only [Nat.add_zero] at hL;have hne:(some bf:Option Nat)≠some bw:=fun q=>hfw (by cases q;rfl)
 have h1w:H1 bw=.cells (vC x :: l.row.map .d):=by rw [←hH1,jL hwl hne];exact h0
 have h1N:H1 N=.vec 5 1 (byR (F ++ [kind])):=by rw [←hH1];exact iT (j:=0)
 have h1f:oz H1 (N+1):=by rw [←hH1];exact jX (fun b q=>by cases q;exact hfl) hW.fr
 have h1x:qX H1 N C x:=by
  have:=hW.v
  cases x with
  | none=>exact this
  | some b=>exact ⟨by rw [←hH1,jL this.2 (fun q=>hfx (by cases q;rfl))];exact this.1,this.2⟩
 have fin:∀ (st:St),st.sl 0=.b (.one (.hv (.p bw 0)))→st.sl 1=.b (.one (.hv (.v (N+(bq C.length).length))))→st.sl 7=aI (F.length:Int)→st.hb=kF hp (some bf) N ((bq C.length).length+1) (F ++ [kind] ++ bq C.length)→(st.nc=fun b=>if b=bf∨N≤b then 2 else 1)→aG st →
  pwp su (bC (bC (bC pcw25))) (exS su [] (fun e s=>(e=.normal∨e=.ret)∧s.gW prw25=some [.one (.h (.v (qF N C)))]∧s.hb=qm hp bw bf N l F C kind)) st:=fun st a1 a2 a3 a4 a5 a6 =>
  KA hW hf hfl hfw hfx hFl hCl hk hCb st a1 a2 a3 a4 a5 a6 (fun s' b1 b2=>⟨.inr rfl,by simp only [stB,prw25,b1],b2⟩)
 have hap:Dn H1 [bHw (some N),.one (hI (C.length:Nat))] (kF hp (some bf) N ((bq C.length).length+1) (F ++ [kind] ++ bq C.length)) [bHw (some (N+(bq C.length).length))]:=by
  refine ⟨some N,C.length,N+1,F ++ [kind],rfl,⟨⟨h1N,by omega⟩,h1f,by omega,by rw [List.length_append];show F.length+1≤_;omega⟩,?_,?_⟩
  ·have:=y9 (hp:=hp) (x:=some bf) (N:=N) (j:=0+1) (k:=(bq C.length).length) (b1:=F ++ [kind]) (b2:=F ++ [kind] ++ bq C.length) (by omega) (jI _);rw [hH1] at this;rw [show (bq C.length).length+1=0+1+(bq C.length).length from by omega];exact this.symm
  ·rw [NJ (jI _)];have:=jI C.length
   congr 3
   omega
 generalize hK:exS _ _ _ Exit.normal=KK
 cases x with
 | none =>
   have hC0:C=[]:=h1x;have e0:(C.length:Int)=0:=by rw [hC0];rfl
   rw [e0] at hap;simp only [vC] at h1w;simp only [evB,stB,reduceCtorEq,Nat.reduceEqDiff,hL,h1w];refine lY (kF hp (some bf) N ((bq C.length).length+1) (F ++ [kind] ++ bq C.length)) [bHw (some (N+(bq C.length).length))] (by simp only [stB,hL];exact hap) ?_
   simp only [evB,stB,Nat.reduceEqDiff,bHw,vC];refine ⟨?_,?_⟩
   ·simp only [nw,if_false];exact (by unfold Drw;refine Eq.trans (b:=true) ?_ rfl;kernel_rfl)
   ·rw [←hK,Ey];refine fin _ ?_ ?_ ?_ ?_ ?_ ?_
    ·simp only [stB,reduceCtorEq]
    ·simp only [stB,Nat.reduceEqDiff]
    ·simp only [stB,Nat.reduceEqDiff]
    ·simp only [stB]
    ·simp only [stB]
    ·exact (by repeat' (first | exact aG.init | assumption | exact aO (by assumption) | (refine aG.ap ?_ rfl)))
 | some b =>
   have hbN:¬ (b=bf∨N≤b):=by
    have:=h1x.2;rintro (q | q)
    ·exact hfx (by rw [q])
    ·omega
   have hvb:=h1x.1;have cC:=aY C;simp only [vC] at h1w;simp only [evB,stB,reduceCtorEq,Nat.reduceEqDiff,hL,h1w,hvb,cC];refine lY (kF hp (some bf) N ((bq C.length).length+1) (F ++ [kind] ++ bq C.length)) [bHw (some (N+(bq C.length).length))] (by simp only [stB,hL];exact hap) ?_
   simp only [evB,stB,Nat.reduceEqDiff,bHw,vC];refine ⟨?_,?_⟩
   ·simp only [nw,hbN,if_false];exact (by unfold Drw;refine Eq.trans (b:=true) ?_ rfl;kernel_rfl)
   ·rw [←hK,Ey];refine fin _ ?_ ?_ ?_ ?_ ?_ ?_
    ·simp only [stB,reduceCtorEq]
    ·simp only [stB,Nat.reduceEqDiff]
    ·simp only [stB,Nat.reduceEqDiff]
    ·simp only [stB]
    ·simp only [stB]
    ·exact (by repeat' (first | exact aG.init | assumption | exact aO (by assumption) | (refine aG.ap ?_ rfl)))
def siB (s:Int×Int):Bool:=decide (s.1≤2147483647) && decide (s.2≤2147483647)
def evK (d:Dep) (e:Ev):Bool:=e.valid && decide (e.stack < (d.st.length:Int))
theorem NC (es:List Ev) (d:Dep):wE es d=(tX d && d.st.all siB && es.all (evK d)):=by
 rw [Bool.eq_iff_iff];constructor
 ·intro h;have hS:eP es d:=Classical.byContradiction fun q=>by rw [jJ q] at h;cases h
  obtain ⟨h1,h2,h3⟩:=hS;rw [nK h1,Bool.true_and,Bool.and_eq_true,List.all_eq_true,List.all_eq_true];refine ⟨fun s hs=>?_,fun e he=>?_⟩
  ·unfold siB;rw [decide_eq_true (h2 s hs).1,decide_eq_true (h2 s hs).2];rfl
  ·unfold evK;rw [(h3 e he).1,decide_eq_true (h3 e he).2];rfl
 ·intro h;rw [Bool.and_eq_true,Bool.and_eq_true,List.all_eq_true,List.all_eq_true] at h;obtain ⟨⟨h1,h2⟩,h3⟩:=h;have hv:d.val:=Classical.byContradiction fun q=>by rw [pJ q] at h1;cases h1
  refine lJ ⟨hv,fun s hs=>?_,fun e he=>?_⟩
  ·have:=h2 s hs;unfold siB at this;rw [Bool.and_eq_true] at this;exact ⟨of_decide_eq_true this.1,of_decide_eq_true this.2⟩
  ·have:=h3 e he;unfold evK at this;rw [Bool.and_eq_true] at this;exact ⟨this.1,of_decide_eq_true this.2⟩
def slA (es:List Ev) (d:Dep) (x:Nat):Av:=if x=0 then .b (eH es d).bv else .un
noncomputable def kG:Env:=e1 22 NU (e1 23 uZ (e1 24 qW e0))
theorem D9:aA Try.prog kG:=aA.e1 Ur (aA.e1 G8 (aA.e1 yV aA.e0))
def hpA (es:List Ev) (d:Dep):Nat→Hb:=fun b =>
 if b=2 then .cells ((dA es d).map .d) else if b=10 then .cells (vC none :: ev0.row.map .d) else if b=65 then .vec 5 1 (byR bW) else if b=11 then .cells [.h (.v 65)]
 else if b=12 then .cells [.h (.f 25 [(10,0)] [])] else if b=13 then .cells [hI 0] else .no
structure Ro (es:List Ev) (d:Dep) (st:St):Prop where
 s1:st.sl 1=.b (.one (.hv (.p 2 0)))
 s9:st.sl 9=.b (.one (.hv (.p 10 0)))
 s10:st.sl 10=.b (.one (.hv (.p 11 0)))
 s11:st.sl 11=.b (.one (.hv (.p 12 0)))
 s12:st.sl 12=.b (.one (.hv (.p 13 0)))
 hb:st.hb=hpA es d
theorem sU {nc:Nat→Nat} {hp:Nat→Hb} {sl:Nat→Av}:aG (St.mM nc hp sl):=fun c=>by
 show zJ (if HBS≤HBS+c then _ else _)=true
 rw [if_pos (Nat.le_add_right _ _)];rfl
def Sj:PC:=match pcw12A with
 | .seq _ (.seq _ r)=>r
 | _=>.skip
def hp1 (es:List Ev) (d:Dep):Nat→Hb:=up (fun _=>.no) 2 (.cells ((dA es d).map .d))
theorem BJ {α:Type} {f:α→Bool} {l:List α} {i:Nat} {x:α} (h:l[i]? = some x):(l.take (i+1)).all f=((l.take i).all f && f x):=by
 rw [take_at h,List.all_append];simp
theorem Px {Q:Exit→St→Prop} (hno:∀ st:St,(st.sl 2).hw=some (.one (.d (.im [])))→(st.sl 3).hw=some (.one (hI 1))→Q .ret st) {st:St} (s4:st.sl 4=aB false):pwp kG pcw12Ac0 (exS kG [] Q) st:=by
 unfold pcw12Ac0;simp only [↓evP,evB,stB,reduceCtorEq,Nat.reduceEqDiff,s4];exact hno _ (by simp only [stB,Nat.reduceEqDiff];first | done | rfl) (by simp only [stB,Nat.reduceEqDiff];first | done | rfl)
theorem KQ {es:List Ev} {d:Dep} {Q:Exit→St→Prop} (hS:eP es d) (hyes:eP es d→∀ st,Ro es d st→Q .normal st)
 {st:St} (s1:st.sl 1=.b (.one (.hv (.p 2 0)))) (s4:st.sl 4=aB true) (hb:st.hb=hp1 es d) (inc:st.nc=fun b=>b) (ia:aG st):pwp kG pcw12Ac0 (exS kG [] Q) st:=by
 have n10:hp1 es d 10=.no:=rfl;have n65:hp1 es d 65=.no:=rfl;have n11:hp1 es d 11=.no:=rfl;have n12:hp1 es d 12=.no:=rfl;have n13:hp1 es d 13=.no:=rfl;unfold pcw12Ac0;simp only [↓evP,evB,stB,reduceCtorEq,Nat.reduceEqDiff,s4];refine rM 10 (fG (by simp only [stB,inc]) (by repeat' (first | exact aG.init | assumption | exact aO (by assumption) | (refine aG.ap ?_ rfl))) (by simp only [stB,hb,n10])) ?_;simp only [↓evP,evB,stB];refine MF 65 (fG (by simp only [stB,inc]) (by repeat' (first | exact aG.init | assumption | exact aO (by assumption) | (refine aG.ap ?_ rfl))) (by simp only [stB,Nat.reduceEqDiff,inc,hb,n65])) rfl rfl rfl ?_;simp only [evB,stB,Nat.reduceEqDiff,Nat.reduceAdd,Nat.reduceLT,inc]
 refine rM 11 (fG (by simp only [stB,inc]) (by repeat' (first | exact aG.init | assumption | exact aO (by assumption) | (refine aG.ap ?_ rfl))) (by simp only [stB,Nat.reduceEqDiff,inc,hb,n11])) ?_;simp only [↓evP,evB,stB,Nat.reduceEqDiff,Nat.reduceLeDiff,inc];refine rM 12 (fG (by simp only [stB,inc]) (by repeat' (first | exact aG.init | assumption | exact aO (by assumption) | (refine aG.ap ?_ rfl))) (by simp only [stB,Nat.reduceEqDiff,inc,hb,n12])) ?_;simp only [↓evP,evB,stB,Nat.reduceEqDiff,Nat.reduceLeDiff,inc];refine rM 13 (fG (by simp only [stB,inc]) (by repeat' (first | exact aG.init | assumption | exact aO (by assumption) | (refine aG.ap ?_ rfl))) (by simp only [stB,Nat.reduceEqDiff,inc,hb,n13])) ?_;simp only [↓evP,evB,stB,Nat.reduceEqDiff,Nat.reduceLeDiff,inc]
 refine hyes hS _ ⟨by simp only [stB,Nat.reduceEqDiff,s1],by simp only [stB,Nat.reduceEqDiff],by simp only [stB,Nat.reduceEqDiff],by simp only [stB,Nat.reduceEqDiff],by simp only [stB,Nat.reduceEqDiff],?_⟩
 iterate 8 (rw [nA (by rintro p hp;rw [List.mem_singleton.1 hp];simp only [stB,inc])];try simp only [stB])
 rw [hb]
 funext b
 simp only [zS];unfold hpA
 by_cases b13:b=13
 ·subst b13;rfl
 by_cases b12:b=12
 ·subst b12;rfl
 by_cases b11:b=11
 ·subst b11;rfl
 by_cases b65:b=65
 ·subst b65;rfl
 by_cases b10:b=10
 ·subst b10;rfl
 simp only [b13,b12,b11,b65,b10,if_false]
 first | done | rfl
theorem yt {es:List Ev} {d:Dep} (hel:es.length≤1000) (hl:d.st.length≤1000000∧d.pr.length≤1000000) {Q:Exit→St→Prop} (hno:¬ eP es d→∀ st:St,(st.sl 2).hw=some (.one (.d (.im [])))→(st.sl 3).hw=some (.one (hI 1))→Q .ret st) (hyes:eP es d→∀ st,Ro es d st→Q .normal st)
 {st:St} {v:Bool} (hv:tX d=v) (s1:st.sl 1=.b (.one (.hv (.p 2 0)))) (s4:st.sl 4=aB v) (hb:st.hb=hp1 es d) (inc:st.nc=fun b=>b) (ia:aG st):pwp kG Sj Q st:=by
 have m1:(d.st.map aQ).length=d.st.length:=List.length_map ..;have m2:(es.map Ev.row).length=es.length:=List.length_map ..;have hb2:st.hb 2=.cells ((dA es d).map .d):=by rw [hb];exact dX
 simp only [dA,List.map_cons,List.map_nil] at hb2;unfold Sj pcw12A
 with_reducible refine aJ ?_
 simp only [↓evP,evB,stB,Nat.reduceEqDiff,s1,hb2,m1];refine dG msw12A_0 osw12A_0 (fun m t=>∃ i:Nat,m=d.st.length - i∧i≤d.st.length∧t.sl 30=aI i∧t.sl 4=aB (v && (d.st.take i).all siB)∧t.hb=hp1 es d) d.st.length (by repeat' (first | exact aG.init | assumption | exact aO (by assumption) | (refine aG.ap ?_ rfl))) ?_ ?_
 ·exact ⟨0,rfl,Nat.zero_le _,by simp only [stB,Nat.reduceEqDiff];first | done | rfl,by simp only [stB,Nat.reduceEqDiff,s4];first | done | rw [show (d.st.take 0).all siB=true from rfl,Bool.and_true],by simp only [stB,hb]⟩
 rintro m j hjn hja ⟨i,rfl,hi,h30,h4,hjb⟩;simp only [stB,Nat.reduceEqDiff,Nat.reduceBEq,hjn] at h30 h4 hjb
 rcases Nat.lt_or_ge i d.st.length with hlt | hge
 ·have ga:d.st[i]? = some (d.st[i]):=List.getElem?_eq_getElem hlt;generalize d.st[i]=x at ga;have hat:=BJ (f:=siB) ga;have ilt:(i:Int) < (d.st.length:Int):=by omega
  have i0:(0:Int)≤(i:Int):=by omega
  have w3:IntKind.i64.wrap ((i:Int)+1)=((i+1:Nat):Int):=by rw [bY (by omega) (by omega)];omega
  cases hcur:(v && (d.st.take i).all siB) with
  | false =>
    rw [hcur] at h4;simp only [↓evP,evB,stB,reduceCtorEq,Nat.reduceEqDiff,Nat.reduceAdd,Nat.reduceLeDiff,Nat.reduceLT,Nat.reduceBEq,s1,h30,h4,ilt,i0,ga,aQ,decide_true]
    exact ⟨_,by omega,(by repeat' (first | assumption | exact aT (by assumption) | (refine aK ?_ rfl rfl) | (refine aF ?_ rfl) | (refine aK ?_ rfl aN) | (refine aF ?_ aN))),i+1,rfl,hlt,by simp only [stB,Nat.reduceEqDiff,Nat.reduceBEq,h30,w3],by simp only [stB,Nat.reduceEqDiff,Nat.reduceBEq,h4];rw [hat,←Bool.and_assoc,hcur];rfl,by simp only [stB,Nat.reduceLT,hjn,hjb]⟩
  | true =>
    rw [hcur] at h4;simp only [↓evP,evB,stB,reduceCtorEq,Nat.reduceEqDiff,Nat.reduceAdd,Nat.reduceLeDiff,Nat.reduceLT,Nat.reduceBEq,s1,h30,h4,ilt,i0,ga,aQ,decide_true];refine aC [pB (siB x)] (by exact ⟨x,rfl,rfl⟩) ?_;simp only [↓evP,evB,stB,Nat.reduceEqDiff,Nat.reduceBEq,h30]
    exact ⟨_,by omega,(by repeat' (first | assumption | exact aT (by assumption) | (refine aK ?_ rfl rfl) | (refine aF ?_ rfl) | (refine aK ?_ rfl aN) | (refine aF ?_ aN))),i+1,rfl,hlt,by simp only [stB,Nat.reduceEqDiff,Nat.reduceBEq,h30,w3],by simp only [stB,Nat.reduceEqDiff,Nat.reduceBEq,h4];rw [hat,←Bool.and_assoc,hcur,Bool.true_and],by simp only [stB,Nat.reduceLT,hjn,hjb]⟩
 have hie:i=d.st.length:=by omega
 subst hie;rw [List.take_length] at h4;obtain ⟨v2,hv2⟩:∃ v2,(v && d.st.all siB)=v2:=⟨_,rfl⟩
 rw [hv2] at h4;have ilt:¬ (d.st.length:Int) < (d.st.length:Int):=by omega
 have hjb2:j.hb 2=.cells ((dA es d).map .d):=by rw [hjb];exact dX
 simp only [dA,List.map_cons,List.map_nil] at hjb2;simp only [↓evP,evB,stB,reduceCtorEq,Nat.reduceEqDiff,Nat.reduceBEq,s1,h30,hjn,hjb2,m2,ilt,decide_false];refine dG msw12A_1 osw12A_1 (fun m t=>∃ i:Nat,m=es.length - i∧i≤es.length∧t.sl 43=aI i∧t.sl 4=aB (v2 && (es.take i).all (evK d))∧t.hb=hp1 es d) es.length (by repeat' (first | exact aG.init | assumption | exact aO (by assumption) | (refine aG.ap ?_ rfl))) ?_ ?_
 ·exact ⟨0,rfl,Nat.zero_le _,by simp only [stB,Nat.reduceEqDiff,Nat.reduceBEq];first | done | rfl,by simp only [stB,Nat.reduceEqDiff,Nat.reduceBEq,h4];first | done | rw [show (es.take 0).all (evK d)=true from rfl,Bool.and_true],by simp only [stB,hjn,hjb]⟩
 rintro m q hqn hqa ⟨i,rfl,hi,h43,h4',hqb⟩;simp only [stB,Nat.reduceEqDiff,Nat.reduceBEq,hqn] at h43 h4' hqb;have hqb2:q.hb 2=.cells ((dA es d).map .d):=by rw [hqb];exact dX
 simp only [dA,List.map_cons,List.map_nil] at hqb2
 rcases Nat.lt_or_ge i es.length with hlt | hge
 ·have ga:es[i]? = some (es[i]):=List.getElem?_eq_getElem hlt;generalize es[i]=x at ga;have hat:=BJ (f:=evK d) ga;have ilt:(i:Int) < (es.length:Int):=by omega
  have i0:(0:Int)≤(i:Int):=by omega
  have w3:IntKind.i64.wrap ((i:Int)+1)=((i+1:Nat):Int):=by rw [bY (by omega) (by omega)];omega
  cases hcur:(v2 && (es.take i).all (evK d)) with
  | false =>
    rw [hcur] at h4';simp only [↓evP,evB,stB,reduceCtorEq,Nat.reduceEqDiff,Nat.reduceAdd,Nat.reduceLeDiff,Nat.reduceLT,Nat.reduceBEq,h43,h4',ilt,i0,ga,Ev.row,decide_true]
    exact ⟨_,by omega,(by repeat' (first | assumption | exact aT (by assumption) | (refine aK ?_ rfl rfl) | (refine aF ?_ rfl) | (refine aK ?_ rfl aN) | (refine aF ?_ aN))),i+1,rfl,hlt,by simp only [stB,Nat.reduceEqDiff,Nat.reduceBEq,h43,w3],by simp only [stB,Nat.reduceEqDiff,Nat.reduceBEq,h4'];rw [hat,←Bool.and_assoc,hcur];rfl,by simp only [stB,Nat.reduceLT,hqn,hqb]⟩
  | true =>
    rw [hcur] at h4';simp only [↓evP,evB,stB,reduceCtorEq,Nat.reduceEqDiff,Nat.reduceAdd,Nat.reduceLeDiff,Nat.reduceLT,Nat.reduceBEq,h43,h4',ilt,i0,ga,Ev.row,decide_true];refine aC [pB x.valid] (by exact ⟨x,rfl,rfl⟩) ?_
    cases hxv:x.valid with
    | false =>
      simp only [↓evP,evB,stB,reduceCtorEq,Nat.reduceEqDiff,Nat.reduceBEq,h43]
      exact ⟨_,by omega,(by repeat' (first | assumption | exact aT (by assumption) | (refine aK ?_ rfl rfl) | (refine aF ?_ rfl) | (refine aK ?_ rfl aN) | (refine aF ?_ aN))),i+1,rfl,hlt,by simp only [stB,Nat.reduceEqDiff,Nat.reduceBEq,h43,w3],by simp only [stB,Nat.reduceEqDiff,Nat.reduceBEq,h4'];rw [hat,←Bool.and_assoc,hcur,Bool.true_and,evK,hxv];rfl,by simp only [stB,Nat.reduceLT,hqn,hqb]⟩
    | true =>
      simp only [↓evP,evB,stB,reduceCtorEq,Nat.reduceEqDiff,Nat.reduceLT,Nat.reduceBEq,s1,h43,hqn,hqb2,m1]
      exact ⟨_,by omega,(by repeat' (first | assumption | exact aT (by assumption) | (refine aK ?_ rfl rfl) | (refine aF ?_ rfl) | (refine aK ?_ rfl aN) | (refine aF ?_ aN))),i+1,rfl,hlt,by simp only [stB,Nat.reduceEqDiff,Nat.reduceBEq,h43,w3],by simp only [stB,Nat.reduceEqDiff,Nat.reduceBEq,h4'];rw [hat,←Bool.and_assoc,hcur,Bool.true_and,evK,hxv];rfl,by simp only [stB,Nat.reduceLT,hqn,hqb]⟩
 have hie:i=es.length:=by omega
 subst hie;rw [List.take_length,←hv2,←hv,←NC] at h4';have ilt2:¬ (es.length:Int) < (es.length:Int):=by omega
 by_cases hS:eP es d
 ·rw [lJ hS] at h4';simp only [↓evP,evB,stB,reduceCtorEq,Nat.reduceEqDiff,Nat.reduceBEq,h43,ilt2,decide_false];exact KQ hS hyes (by simp only [stB,Nat.reduceEqDiff,Nat.reduceBEq,s1]) (by simp only [stB,Nat.reduceEqDiff,Nat.reduceBEq,h4']) (by simp only [stB,hqn,hqb]) (by simp only [stB,inc]) (by repeat' (first | exact aG.init | assumption | exact aO (by assumption) | (refine aG.ap ?_ rfl)))
 ·rw [jJ hS] at h4';simp only [↓evP,evB,stB,reduceCtorEq,Nat.reduceEqDiff,Nat.reduceBEq,h43,ilt2,decide_false];exact Px (hno hS) (by simp only [stB,Nat.reduceEqDiff,Nat.reduceBEq,h4'])
theorem VL {es:List Ev} {d:Dep} (hel:es.length≤1000) (hl:d.st.length≤1000000∧d.pr.length≤1000000) (h64:d.iE) {Q:Exit→St→Prop} (hno:¬ eP es d→∀ st:St,(st.sl 2).hw=some (.one (.d (.im [])))→(st.sl 3).hw=some (.one (hI 1))→Q .ret st) (hyes:eP es d→∀ st,Ro es d st→Q .normal st) :
 pwp kG pcw12A Q (St.mM (fun b=>b) (fun _=>.no) (slA es d)):=by
 have m1:(d.st.map aQ).length=d.st.length:=List.length_map ..;have m2:(es.map Ev.row).length=es.length:=List.length_map ..;obtain ⟨I,hI⟩:∃ I,St.mM (fun b=>b) (fun _=>.no) (slA es d)=I:=⟨_,rfl⟩
 have i0:I.sl 0=.b (eH es d).bv:=by rw [←hI];rfl
 have ig:∀ o,I.gen o=0:=fun o=>by rw [←hI];rfl
 have ih:I.hb=fun _=>.no:=by rw [←hI];exact nV _ _ _
 have inc:I.nc=fun b=>b:=by rw [←hI];rfl
 have ia:aG I:=by rw [←hI];exact sU
 rw [hI];clear hI;unfold pcw12A
 with_reducible refine aJ ?_
 simp only [↓evP,evB,stB];refine rJ (cs:=(dA es d).map .d) (hs:=(dA es d).map .d) 2 (fG (by simp only [inc]) (by repeat' (first | exact aG.init | assumption | exact aO (by assumption) | (refine aG.ap ?_ rfl))) (by simp only [ih])) (by simp only [stB,i0,eH,dA,Pa.bv];first | done | rfl) (by simp only [dA,List.map_cons,List.map_nil];first | done | rfl) ?_
 simp only [↓evP,evB,stB,Nat.reduceEqDiff,Nat.reduceAdd,Nat.reduceLeDiff,Nat.reduceLT,ih,inc,dA];refine aC [pB (tX d)] (by exact ⟨d,rfl,⟨hl,h64⟩,rfl⟩) ?_;have b1:(es.length:Int)≤5000:=by omega
 have hv:∃ v,tX d=v:=⟨_,rfl⟩
 obtain ⟨v,hv⟩:=hv;have hc:∀ b:Bool,(if b=true then true else false)=b:=fun b=>by cases b <;> rfl
 generalize hK:exS _ _ _ Exit.normal=KK
 cases v with
 | true =>
   rw [hv];simp only [↓evP,evB,stB,reduceCtorEq,Nat.reduceEqDiff,Nat.reduceLT,ih,inc,m2,b1,decide_true];rw [←hK,Ey];exact yt hel hl hno hyes hv (by simp only [stB,Nat.reduceEqDiff]) (by simp only [stB,Nat.reduceEqDiff]) (by simp only [stB,Nat.reduceLT];rw [nA (by rintro p hp;rw [List.mem_singleton.1 hp];simp only [inc]),ih];rfl) (by simp only [stB,inc]) (by repeat' (first | exact aG.init | assumption | exact aO (by assumption) | (refine aG.ap ?_ rfl)))
 | false =>
   rw [hv];simp only [↓evP,evB,stB,reduceCtorEq,Nat.reduceEqDiff];rw [←hK,Ey];exact yt hel hl hno hyes hv (by simp only [stB,Nat.reduceEqDiff]) (by simp only [stB,Nat.reduceEqDiff]) (by simp only [stB,Nat.reduceLT];rw [nA (by rintro p hp;rw [List.mem_singleton.1 hp];simp only [inc]),ih];rfl) (by simp only [stB,inc]) (by repeat' (first | exact aG.init | assumption | exact aO (by assumption) | (refine aG.ap ?_ rfl)))
def kR (es:List Ev) (d:Dep) (k:Nat):List Nat:=bW ++ ((List.range k).map (fV d es)).flatten
structure ql (es:List Ev) (d:Dep) (E:List Ev) (F:List Nat) (hp:Nat→Hb) (N bf:Nat):Prop where
 w:WAt hp 10 N (lst ev0 E) [] none
 h2:hp 2=.cells ((dA es d).map .d)
 h11:hp 11=.cells [.h (.v bf)]
 h12:hp 12=.cells [.h (.f 25 [(10,0)] [])]
 h13:hp 13=.cells [hI (bA E 0:Nat)]
 hf:hp bf=.vec 5 1 (byR F)
 lt:bf < N∧13 < N∧bf≠10
abbrev Dk (es:List Ev) (d:Dep) (k:Nat) (hp:Nat→Hb) (N bf:Nat):Prop:=ql es d (es.take (16 * k)) (kR es d k) hp N bf
def je (d:Dep) (E cs:List Ev):List Nat:=mH d (bA E 0) (bA (E ++ cs) 0) ++ (bq cs.length ++ fC (lst ev0 E) cs)
theorem Po (d:Dep) (es:List Ev) (k:Nat):je d (es.take (16 * k)) (bV es (16 * k) 16)=jZ d es k:=by
 unfold je jZ;rw [gV]
def iG (d:Dep) (l:List Ev):Prop:=∀ e ∈ l,e.valid=true∧e.stack < (d.st.length:Int)
theorem iG.app {d:Dep} {a b:List Ev} (ha:iG d a) (hb:iG d b):iG d (a ++ b):=fun e h=>(List.mem_append.1 h).elim (ha e) (hb e)
theorem iG.need {d:Dep} {l:List Ev} (h:iG d l):bA l 0≤d.st.length:=CJ h (Nat.zero_le _)
theorem yj {d:Dep} {E cs:List Ev} (hl:d.st.length≤1000) (he:iG d E) (hc:iG d cs) (hn:cs.length≤16):(je d E cs).length≤30000:=by
 unfold je;rw [List.length_append,List.length_append];have h1:=jF d (bA E 0) (bA (E ++ cs) 0);have h2:=(he.app hc).need;have h4:=bU cs.length;have h5:=lG cs (lst ev0 E);omega
theorem DX {d:Dep} {E cs:List Ev} (hd:d.ok) (he:iG d E) (hc:iG d cs) (hn:cs.length≤16):∀ x ∈ je d E cs,x≤255:=by
 have h2:=(he.app hc).need;refine jQ (sH hd ?_ h2) (jQ (iB (by omega)) (qp (vV Ag fun e h=>(he e h).1) fun e h=>(hc e h).1));rw [iA];exact nX _ _
theorem MG (es:List Ev) (d:Dep):Dk es d 0 (hpA es d) 66 65:=by
 refine ⟨⟨rfl,rfl,(fun h=>by cases h),by decide,fun b hb=>?_⟩,rfl,rfl,rfl,rfl,rfl,by decide⟩;unfold hpA;rw [if_neg (by omega),if_neg (by omega),if_neg (by omega),if_neg (by omega),if_neg (by omega),if_neg (by omega)]
def slB (x:Nat):Av:=if x=1 then .b (.one (.hv (.p 2 0))) else if x=9 then .b (.one (.hv (.p 10 0))) else if x=10 then .b (.one (.hv (.p 11 0))) else if x=11 then .b (.one (.hv (.p 12 0))) else if x=12 then .b (.one (.hv (.p 13 0))) else .un
noncomputable def wS:Env:=h1 25 Oi (p1 28 Oj (p1 29 zX e0))
theorem vK:aA Try.prog wS:=aA.h1 UL (aA.p1 UM (aA.p1 F8 aA.e0))
theorem Iz (es:List Ev) (d:Dep):kR es d (dL es) ++ bM 69 (jM d es)=gK es d:=by
 unfold kR gK bX;rw [List.flatten_append,List.append_assoc];simp
theorem IB {es:List Ev} {d:Dep} (ok:tu d es) (he:es.length≤80) (k:Nat) (hk:k≤dL es):(kR es d k).length≤400000:=by
 have h1:=wU (l:=(List.range k).map (fV d es)) (c:=30014) fun b q=>nJ ok b (by
  obtain ⟨i,hi,rfl⟩:=List.mem_map.1 q;exact List.mem_append_left _ (List.mem_map.2 ⟨i,List.mem_range.2 (by have:=List.mem_range.1 hi;omega),rfl⟩))
 rw [List.length_map,List.length_range] at h1;have h2:k≤5:=by unfold dL at hk;omega
 have h3:=Nat.mul_le_mul_left 30014 h2;unfold kR;rw [List.length_append];have:bW.length=8:=rfl;omega
theorem encZ {es:List Ev} {d:Dep} {hp:Nat→Hb} {N bf:Nat} (ok:tu d es) (he:es.length≤80) (hL:Dk es d (dL es) hp N bf) {Q:Exit→St→Prop} (hQ:∀ (st:St) (b:Nat),(st.sl 2).hw=some (.one (.h (.v b)))→st.hb b=.vec 5 1 (byR (gK es d))→(st.sl 3).hw=some (.one (hI 0))→Q .ret st) :
 pwp wS pcw12Z Q (St.mM (fun _=>1) hp slB):=by
 have m1:(d.st.map aQ).length=d.st.length:=List.length_map ..;have m2:(es.map Ev.row).length=es.length:=List.length_map ..;obtain ⟨I,hI⟩:∃ I,St.mM (fun _=>1) hp slB=I:=⟨_,rfl⟩
 have i1:I.sl 1=.b (.one (.hv (.p 2 0))):=by rw [←hI];rfl
 have i9:I.sl 9=.b (.one (.hv (.p 10 0))):=by rw [←hI];rfl
 have i10:I.sl 10=.b (.one (.hv (.p 11 0))):=by rw [←hI];rfl
 have i11:I.sl 11=.b (.one (.hv (.p 12 0))):=by rw [←hI];rfl
 have i12:I.sl 12=.b (.one (.hv (.p 13 0))):=by rw [←hI];rfl
 have ih:I.hb=hp:=by rw [←hI];exact nV _ _ _
 have ia:aG I:=by rw [←hI];exact sU
 rw [hI];clear hI;have h2:=hL.h2;have h13:=hL.h13;simp only [dA,List.map_cons,List.map_nil] at h2;have htk:es.take (16 * dL es)=es:=List.take_of_length_le (by unfold dL;omega)
 rw [htk] at h13;have hn:=ok.need es.length;rw [List.take_length] at hn;unfold pcw12Z
 with_reducible refine aJ ?_
 simp only [↓evP,evB,stB,Nat.reduceEqDiff,Nat.reduceAdd,Nat.reduceLeDiff,i1,i9,i12,ih,h2,h13,m1];refine bL _ (by simp only [stB,ih];exact ⟨10,N,none,_,[],d,bA es 0,d.st.length,rfl,⟨hL.w,by simp,ok.dk,hn,Nat.le_refl _⟩,rfl⟩) ?_
 rintro h3 r ⟨rfl,N3,x3,hW3,hS3⟩;have g2:h3 2=hp 2:=hS3.out 2 (by have:=hL.lt;omega) (by decide) (by simp)
 rw [h2] at g2;simp only [↓evP,evB,stB,Nat.reduceEqDiff,i1,i9,g2,m2];refine bL _ (by simp only [stB];exact ⟨10,N3,x3,_,_,es.length,rfl,⟨hW3,by omega,by have:=jF d (bA es 0) d.st.length;have:=ok.len;simp only [List.nil_append];omega⟩,rfl⟩) ?_
 rintro h4 r ⟨rfl,N4,x4,hW4,hS4⟩;have hC:([] ++ mH d (bA es 0) d.st.length ++ bq es.length:List Nat)=jM d es:=rfl;rw [hC] at hW4;have hS:=hS3.trans hS4;have hlt:=hL.lt
 obtain ⟨v,hv⟩:∃ v,x4=some v:=by
  cases x4 with
  | some v=>exact ⟨v,rfl⟩
  | none =>
    have h0:jM d es=[]:=hW4.v;have:=jI es.length;rw [←hC] at h0;have:=congrArg List.length h0;rw [List.length_append,List.length_nil] at this;omega
 subst hv;have hvv:=hW4.v;have hw:=hW4.h;have hbig:=nM ok;have g11:h4 11=.cells [.h (.v bf)]:=(hS.out 11 (by omega) (by decide) (by simp)).trans hL.h11;have g12:h4 12=.cells [.h (.f 25 [(10,0)] [])]:=(hS.out 12 (by omega) (by decide) (by simp)).trans hL.h12;have gbf:h4 bf=.vec 5 1 (byR (kR es d (dL es))):=(hS.out bf hlt.1 hlt.2.2 (by simp)).trans hL.hf
 have hvb:v≠bf:=by
  intro q
  rcases hS.nx v rfl with h | h
  ·cases h
  ·have:=hlt.1;omega
 have hle:=hS.le;have cl:=aY (jM d es);have big:¬ (((jM d es).length:Int) > 1048576):=by omega
 have hv1:=hvv.1;simp only [↓evP,evB,stB,reduceCtorEq,Nat.reduceEqDiff,i9,i10,i11,hw,hv1,vC,cl,big,g11,g12,decide_false];refine bK (qm h4 10 bf N4 (lst ev0 (es.take (16 * dL es))) (kR es d (dL es)) (jM d es) 69) [.one (.h (.v (qF N4 (jM d es))))] (by simp only [stB];exact ⟨10,bf,N4,some v,_,kR es d (dL es),jM d es,69,rfl,⟨hW4,⟨gbf,by omega,hlt.2.2,fun q=>hvb (Option.some.inj q)⟩,IB ok he _ (Nat.le_refl _),by omega,by decide,sG ok⟩,rfl,rfl⟩) ?_
 simp only [↓evP,evB,stB,Nat.reduceEqDiff];refine hQ _ (qF N4 (jM d es)) (by simp only [stB,Nat.reduceEqDiff];first | done | rfl) ?_ (by simp only [stB,Nat.reduceEqDiff];first | done | rfl)
 simp only [stB];have hne:qF N4 (jM d es)≠10:=by unfold qF;omega
 show up _ _ _ _=_
 rw [bF hne,←Iz];exact iT
def slC (cs:List Ev) (x:Nat):Av:=if x=13 then .b (.one (.d (.im (cs.map Ev.row)))) else slB x
noncomputable def BO:Env:=p1 30 Rz (e1 27 rU wS)
theorem Ea:aA Try.prog BO:=aA.p1 VB (aA.e1 G5 vK)
theorem Ox:∀ {es:List Ev} {l:Ev},evG l→(∀ e ∈ es,evG e)→evG (lst l es)
 | [],_,h,_=>h
 | e :: es,_,_,h=>Ox (es:=es) (h e (List.mem_cons_self ..)) fun x hx=>h x (List.mem_cons_of_mem _ hx)
theorem VN {es:List Ev} {d:Dep} {hp:Nat→Hb} {N bf:Nat} {E cs:List Ev} {F:List Nat} (hdk:d.ok) (hl:d.st.length≤1000) (hE:iG d E) (hC:iG d cs) (hcl:cs.length≤16) (hF:F.length≤400000) (hL:ql es d E F hp N bf) {Q:Exit→St→Prop}
 (hQ:∀ (st:St) (N' bf':Nat),ql es d (E ++ cs) (F ++ bM 66 (je d E cs)) st.hb N' bf'→Q .normal st) :
 pwp BO pcw12B Q (St.mM (fun _=>1) hp (slC cs)):=by
 have m1:(d.st.map aQ).length=d.st.length:=List.length_map ..;obtain ⟨I,hI⟩:∃ I,St.mM (fun _=>1) hp (slC cs)=I:=⟨_,rfl⟩
 have i1:I.sl 1=.b (.one (.hv (.p 2 0))):=by rw [←hI];rfl
 have i9:I.sl 9=.b (.one (.hv (.p 10 0))):=by rw [←hI];rfl
 have i10:I.sl 10=.b (.one (.hv (.p 11 0))):=by rw [←hI];rfl
 have i11:I.sl 11=.b (.one (.hv (.p 12 0))):=by rw [←hI];rfl
 have i12:I.sl 12=.b (.one (.hv (.p 13 0))):=by rw [←hI];rfl
 have i13:I.sl 13=.b (.one (.d (.im (cs.map Ev.row)))):=by rw [←hI];rfl
 have ih:I.hb=hp:=by rw [←hI];exact nV _ _ _
 have ia:aG I:=by rw [←hI];exact sU
 rw [hI];clear hI;have hcg:∀ e ∈ cs,evG e:=fun e h=>uF (hC e h).1
 have m2:(cs.map Ev.row).length=cs.length:=List.length_map ..;have h2:=hL.h2;have h13:=hL.h13;simp only [dA,List.map_cons,List.map_nil] at h2;have hn0:=hE.need;have hn1:=(hE.app hC).need;have hneed:bA cs (bA E 0)=bA (E ++ cs) 0:=by rw [←iA]
 have hnn:bA E 0≤bA (E ++ cs) 0:=by rw [←hneed];exact nX _ _
 unfold pcw12B
 with_reducible refine aJ ?_
 simp only [↓evP,evB,stB,Nat.reduceEqDiff,i12,i13,ih,h13];refine aC [pI (bA (E ++ cs) 0:Nat)] (by exact ⟨_,cs,rfl,⟨by omega,by omega,hcg⟩,by rw [hneed]⟩) ?_;simp only [↓evP,evB,stB,Nat.reduceEqDiff,Nat.reduceAdd,Nat.reduceLeDiff,i1,i9,i12,ih,h2,h13];refine bL _ (by simp only [stB,ih];exact ⟨10,N,none,_,[],d,_,_,rfl,⟨hL.w,by simp,hdk,hnn,hn1⟩,rfl⟩) ?_
 rintro h3 r ⟨rfl,N3,x3,hW3,hS3⟩;simp only [↓evP,evB,stB,Nat.reduceEqDiff,i9,i13,m2];refine bL _ (by simp only [stB];exact ⟨10,N3,x3,_,_,cs.length,rfl,⟨hW3,by omega,by have:=jF d (bA E 0) (bA (E ++ cs) 0);simp only [List.nil_append];omega⟩,rfl⟩) ?_
 rintro h4 r ⟨rfl,N4,x4,hW4,hS4⟩;simp only [↓evP,evB,stB,Nat.reduceEqDiff,i13,m2];obtain ⟨l0,hl0⟩:∃ l0,lst ev0 E=l0:=⟨_,rfl⟩
 have hl0g:evG l0:=by rw [←hl0];exact vV Ag fun e h=>(hE e h).1
 have hl1:lst l0 cs=lst ev0 (E ++ cs):=by rw [pQ,hl0]
 rw [hl0] at hW4;have hS:=hS3.trans hS4;obtain ⟨B0,hB0⟩:∃ B0,([] ++ mH d (bA E 0) (bA (E ++ cs) 0) ++ bq cs.length:List Nat)=B0:=⟨_,rfl⟩
 have hB0l:B0.length≤28000:=by
  rw [←hB0];have:=jF d (bA E 0) (bA (E ++ cs) 0);have:=bU cs.length;simp only [List.nil_append,List.length_append];omega
 rw [hB0] at hW4;refine dG msw12B_0 osw12B_0 (fun m t=>∃ i N2 x2,m=cs.length - i∧i≤cs.length∧t.sl 84=aI i∧WAt t.hb 10 N2 (lst l0 (cs.take i)) (B0 ++ fC l0 (cs.take i)) x2∧oD hp 10 N none t.hb N2 x2) cs.length (by repeat' (first | exact aG.init | assumption | exact aO (by assumption) | (refine aG.ap ?_ rfl))) ?_ ?_
 ·exact ⟨0,N4,x4,rfl,Nat.zero_le _,by simp only [stB,Nat.reduceEqDiff];first | done | rfl,by simp only [stB];rw [show fC l0 []=[] from rfl,List.append_nil];exact hW4,by simp only [stB];exact hS⟩
 rintro m j hjn hja ⟨i,N5,x5,rfl,hi,h84,hW5,hS5⟩;simp only [stB,Nat.reduceEqDiff,Nat.reduceBEq,hjn] at h84 hW5 hS5
 rcases Nat.lt_or_ge i cs.length with hlt | hge
 ·have ga:cs[i]? = some (cs[i]):=List.getElem?_eq_getElem hlt;generalize cs[i]=e at ga;have heg:=hcg e (List.mem_of_getElem? ga);have hlg:evG (lst l0 (cs.take i)):=Ox hl0g fun x h=>hcg x (lS h)
  have ilt:(i:Int) < (cs.length:Int):=by omega
  have i0:(0:Int)≤(i:Int):=by omega
  have w3:IntKind.i64.wrap ((i:Int)+1)=((i+1:Nat):Int):=by rw [bY (by omega) (by omega)];omega
  have hev:=lG (cs.take i) l0;rw [List.length_take] at hev;simp only [↓evP,evB,stB,reduceCtorEq,Nat.reduceEqDiff,Nat.reduceAdd,Nat.reduceLeDiff,Nat.reduceLT,Nat.reduceBEq,i9,h84,ilt,i0,ga,Ev.row,decide_true];refine bL _ (by simp only [stB,Nat.reduceLT,hjn];exact ⟨10,N5,x5,_,_,e,rfl,⟨hW5,by rw [List.length_append];omega,hlg,heg⟩,rfl⟩) ?_
  rintro h6 r ⟨rfl,N6,x6,hW6,hS6⟩;simp only [↓evP,evB,stB,Nat.reduceEqDiff,Nat.reduceBEq,h84]
  exact ⟨_,by omega,(by repeat' (first | assumption | exact aT (by assumption) | (refine aK ?_ rfl rfl) | (refine aF ?_ rfl) | (refine aK ?_ rfl aN) | (refine aF ?_ aN))),i+1,N6,x6,rfl,hlt,by simp only [stB,Nat.reduceEqDiff,Nat.reduceBEq,h84,w3],by simp only [stB];rw [take_at ga,pQ,sJ,yx,Qf,←List.append_assoc];exact hW6,by simp only [stB];exact hS5.trans hS6⟩
 have hie:i=cs.length:=by omega
 subst hie;rw [List.take_length] at hW5;have ilt:¬ (cs.length:Int) < (cs.length:Int):=by omega
 have hD:B0 ++ fC l0 cs=je d E cs:=by
  unfold je;rw [←hB0,hl0,List.nil_append,List.append_assoc]
 rw [hD,hl1] at hW5;have hbig:=yj hl hE hC hcl;have hbyte:=DX hdk hE hC hcl;obtain ⟨C,hCe⟩:∃ C,je d E cs=C:=⟨_,rfl⟩
 rw [hCe] at hW5 hbig hbyte hQ;have hlt:=hL.lt;obtain ⟨h5,hh5⟩:∃ h5,j.hb=h5:=⟨_,rfl⟩
 rw [hh5] at hW5 hS5;have hle:=hS5.le;have g2:h5 2=.cells ((dA es d).map .d):=(hS5.out 2 (by omega) (by decide) (by simp)).trans hL.h2;have g11:h5 11=.cells [.h (.v bf)]:=(hS5.out 11 (by omega) (by decide) (by simp)).trans hL.h11;have g12:h5 12=.cells [.h (.f 25 [(10,0)] [])]:=(hS5.out 12 (by omega) (by decide) (by simp)).trans hL.h12;have g13:h5 13=.cells [hI (bA E 0:Nat)]:=(hS5.out 13 (by omega) (by decide) (by simp)).trans hL.h13;have gbf:h5 bf=.vec 5 1 (byR F):=(hS5.out bf hlt.1 hlt.2.2 (by simp)).trans hL.hf
 have hvb:x5≠some bf:=by
  intro q
  rcases hS5.nx bf q with h | h
  ·cases h
  ·have:=hlt.1;omega
 have n2:bf≠2:=by rintro rfl;rw [g2] at gbf;cases gbf
 have n11:bf≠11:=by rintro rfl;rw [g11] at gbf;cases gbf
 have n12:bf≠12:=by rintro rfl;rw [g12] at gbf;cases gbf
 have n13:bf≠13:=by rintro rfl;rw [g13] at gbf;cases gbf
 simp only [↓evP,evB,stB,reduceCtorEq,Nat.reduceEqDiff,Nat.reduceBEq,i10,i11,h84,hjn,hh5,ilt,g11,g12,decide_false];obtain ⟨h6,hh6⟩:∃ h6,qm h5 10 bf N5 (lst ev0 (E ++ cs)) F C 66=h6:=⟨_,rfl⟩
 have hkp:=jI C.length
 have o:∀ b,b < N5→b≠bf→b≠10→h6 b=h5 b:=fun b h1 h2 h3=>by
  rw [←hh6];unfold qm;rw [bF h3];exact jL h1 (fun q=>h2 (Option.some.inj q).symm)
 have k2:h6 2=.cells ((dA es d).map .d):=(o 2 (by omega) n2.symm (by decide)).trans g2;have k11:h6 11=.cells [.h (.v bf)]:=(o 11 (by omega) n11.symm (by decide)).trans g11;have k12:h6 12=.cells [.h (.f 25 [(10,0)] [])]:=(o 12 (by omega) n12.symm (by decide)).trans g12;have k13:h6 13=.cells [hI (bA E 0:Nat)]:=(o 13 (by omega) n13.symm (by decide)).trans g13;have k10:h6 10=.cells (vC none :: (lst ev0 (E ++ cs)).row.map .d):=by rw [←hh6];exact dX
 have hbk:qF N5 C < N5+((bq C.length).length+3):=by unfold qF;omega
 have hbk2:N5≤qF N5 C:=by unfold qF;omega
 have kb:h6 (qF N5 C)=.vec 5 1 (byR (F ++ bM 66 C)):=by
  rw [←hh6];unfold qm;rw [bF (by omega)];exact iT
 have kf:oz h6 (N5+((bq C.length).length+3)):=by
  intro b hb;rw [←hh6];unfold qm;rw [bF (by omega)];exact jX (fun b q=>by cases q;omega) hW5.fr b hb
 refine bK h6 [.one (.h (.v (qF N5 C)))] (by simp only [stB,hjn,hh5];exact ⟨10,bf,N5,x5,_,F,C,66,rfl,⟨hW5,⟨gbf,by omega,hlt.2.2,hvb⟩,hF,by omega,by decide,hbyte⟩,hh6.symm,rfl⟩) ?_
 have hcv:(Cl.hv (.v (qF N5 C))).hc=some (.h (.v (qF N5 C))):=rfl;have n1113:¬ (13:Nat)=11:=by decide
 have o13:up h6 11 (.cells [.h (.v (qF N5 C))]) 13=.cells [hI (bA E 0:Nat)]:=(bF (by decide)).trans k13;simp only [↓evP,evB,stB,Nat.reduceEqDiff,Nat.reduceLeDiff,Nat.reduceBEq,i10,i12,k11,k13,jr];refine hQ _ (N5+((bq C.length).length+3)) (qF N5 C) ?_;simp only [stB];have u10:∀ {x y:Hb} {b:Nat},b≠13→b≠11→up (up h6 11 x) 13 y b=h6 b:=fun h1 h2=>by rw [bF h1,bF h2]
 refine ⟨⟨?_,rfl,(fun h=>by cases h),by omega,fun b hb=>?_⟩,?_,?_,?_,?_,?_,by omega,by omega,by omega⟩
 ·exact (u10 (by decide) (by decide)).trans k10
 ·exact (u10 (by omega) (by omega)).trans (kf b hb)
 ·exact (u10 (by decide) (by decide)).trans k2
 ·exact (bF (by decide)).trans dX
 ·exact (u10 (by decide) (by decide)).trans k12
 ·exact dX
 ·exact (u10 (by omega) (by omega)).trans kb
structure Tr (W:Wit) (w:World) (hp:Nat→Hb) (W':Wit) (w':World) (hp':Nat→Hb):Prop where
 rhp:RHp W' w' hp'
 keep:∀ m,W.lv m→W'.lv m∧W'.nm m=W.nm m∧W'.nv m=W.nv m
 but:kK (dK W hp) w w'
 fp:∀ k,dK W' hp' k→dK W hp k∨w.heap.size≤k
 S:∀ k,k < w.heap.size→W'.S k=W.S k
theorem Tr.refl {W:Wit} {w:World} {hp:Nat→Hb} (h:RHp W w hp):Tr W w hp W w hp:=⟨h,fun _ h=>⟨h,rfl,rfl⟩,⟨rfl,rfl,rfl,Nat.le_refl _,fun _ _ _=>rfl⟩,fun _ h=>.inl h,fun _ _=>rfl⟩
theorem Tr.trans {W W1 W2:Wit} {w w1 w2:World} {hp h1 h2:Nat→Hb} (a:Tr W w hp W1 w1 h1) (b:Tr W1 w1 h1 W2 w2 h2):Tr W w hp W2 w2 h2:=by
 have hsz:=a.but.size;refine ⟨b.rhp,fun m hm=>?_,⟨b.but.os.trans a.but.os,b.but.tape.trans a.but.tape,b.but.output.trans a.but.output,Nat.le_trans a.but.size b.but.size,fun k hk hn=>?_⟩,fun k hk=>?_,fun k hk=>?_⟩
 ·obtain ⟨p1,p2,p3⟩:=a.keep m hm;obtain ⟨q1,q2,q3⟩:=b.keep m p1;exact ⟨q1,q2.trans p2,q3.trans p3⟩
 ·rw [b.but.block k (by omega) (fun q=>(a.fp k q).elim hn (fun q=>by omega)),a.but.block k hk hn]
 ·rcases b.fp k hk with q | q
  ·exact a.fp k q
  ·exact .inr (by omega)
 ·rw [b.S k (by omega),a.S k hk]
theorem Tr.ext {W W':Wit} {w w':World} {hp hp':Nat→Hb} (h:Tr W w hp W' w' hp') (hr:RHp W w hp):Ext W.S W'.S w w' :=
 kZ h.but (fun k ⟨m,hm⟩=>(hr.mine m k hm).1) h.S
theorem Piece.tr {n:Nat} {W:Wit} {w:World} {hp:Nat→Hb} {df:List Deferred} {s':St} {W':Wit} {a':Act} {w':World} (h:Piece W w hp n df s' W' a' w'):Tr W w hp W' w' s'.hb:=⟨h.rhp,h.keep,h.but,h.fp,h.S⟩
theorem Tr.drop {W W':Wit} {w w':World} {hp hp' h2:Nat→Hb} (h:Tr W w hp W' w' hp') (hd:∀ b,h2 b=hp' b∨(h2 b=.dead∧hp' b≠.no)):Tr W w hp W' w' h2:=by
 refine ⟨h.rhp.dead hd,h.keep,h.but,fun k ⟨b,hb⟩=>h.fp k ⟨b,?_⟩,h.S⟩
 rcases hd b with q | q
 ·rw [←q];exact hb
 ·rw [q.1] at hb;exact hb.elim
def qO (hp:Nat→Hb):Prop:=∀ b,hp b=.no∨hp b=.dead∨(∃ cs,hp b=.cells cs)∨∃ E sz rows,hp b=.vec E sz rows
theorem qO.obj {W:Wit} {w:World} {hp:Nat→Hb} (h:qO hp) (hr:RHp W w hp) {k:Nat} (hk:dK W hp k):∃ o:Obj,w.heap[k]? = some o∧o.isCells=true:=by
 obtain ⟨b,hb⟩:=hk;have hat:=hr.at_ b
 rcases h b with q | q | ⟨cs,q⟩ | ⟨E,sz,rows,q⟩
 ·rw [q] at hb;exact hb.elim
 ·rw [q] at hb;exact hb.elim
 ·rw [q] at hb hat;have hb':W.nm b=k:=hb;obtain ⟨arr,T,h1,_⟩:=hat;rw [hb'] at h1;exact ⟨_,h1,rfl⟩
 ·rw [q] at hb hat;have hb':(W.nv b).ownBlock=some k:=hb;obtain ⟨xs,g1,_⟩:=hat
  rcases g1.2 with ⟨q1,_⟩ | ⟨g,cap,cur,fz,q1,q2,q3,_⟩
  ·rw [q1] at hb';cases hb'
  ·rw [q1] at hb';have:g=k:=Option.some.inj hb';rw [this] at q3;exact ⟨_,q3,rfl⟩
theorem Fol.stay {W:Wit} {w w':World} (he:Ext W.S W.S w w'):Fol W G0 O0 w W G0 O0 w':=⟨he,fun _=>Nat.le_refl _,fun _ _=>rfl,fun o E sz n' _ ho=>(by cases ho),fun _ _=>rfl,fun _ h=>⟨h,rfl,rfl⟩,rfl⟩
theorem RHp.stay {W:Wit} {w w':World} {hp:Nat→Hb} (h:RHp W w hp) (hsz:w.heap.size≤w'.heap.size) (hb:∀ k,dK W hp k→w'.heap[k]? = w.heap[k]?) (he:Ext W.S W.S w w'):RHp W w' hp :=
 ⟨h.lv,fun b k hk=>⟨(h.mine b k hk).1,Nat.lt_of_lt_of_le (h.mine b k hk).2 hsz⟩,fun b=>RH.fol (Fol.stay he) (h.at_ b) (fun hne=>(h.lv b).2 hne) rfl (fun k hk=>hb k ⟨b,hk⟩),h.ex⟩
theorem sK {S:Nat→Nat} {w w':World} {row:Option Nat} (hg:w.grownBy w' row) (hr:∀ r,row=some r→∃ o:Obj,w.heap[r]? = some o∧o.isCells=false):Ext S S w w':=fun b i h1 h2=>by
 refine ⟨h1,?_⟩;have hlt:=cell_lt h2
 have hne:some b≠row:=fun e=>by
  obtain ⟨o,ho,hc⟩:=hr b e.symm;unfold World.cell? at h2;rw [ho] at h2;cases o <;> first | (cases hc;done) | (simp at h2;done)
 unfold World.cell?;rw [hg.block b hlt hne]
theorem Tr.grown {W W':Wit} {w w' w2:World} {hp hp':Nat→Hb} (h:Tr W w hp W' w' hp') (hp1:qO hp') {row:Option Nat} (hg:w'.grownBy w2 row) (hr:∀ r,row=some r→w.heap.size≤r∧∃ o:Obj,w'.heap[r]? = some o∧o.isCells=false):Tr W w hp W' w2 hp':=by
 have hsz:=h.but.size;have hgs:=hg.size;refine ⟨h.rhp.stay hgs (fun k hk=>?_) (sK hg fun r e=>(hr r e).2),h.keep,⟨hg.os.trans h.but.os,hg.tape.trans h.but.tape,hg.output.trans h.but.output,Nat.le_trans hsz hgs,fun k hk hn=>?_⟩,h.fp,h.S⟩
 ·obtain ⟨o,ho,hc⟩:=hp1.obj h.rhp hk;refine hg.block k (Array.getElem?_eq_some_iff.1 ho).1 (fun e=>?_);obtain ⟨_,o2,ho2,hc2⟩:=hr k e.symm;rw [ho] at ho2;cases ho2;rw [hc] at hc2;cases hc2
 ·rw [hg.block k (by omega) (fun e=>by have:=(hr k e.symm).1;omega)]
  exact h.but.block k hk hn
theorem Gq {W:Wit} {w:World} {hp:Nat→Hb} {b2:Nat} {c:Hc} {v:Value} {T:TypeId} (hrp:RHp W w hp) (hb2:hp b2=.no) (hc:RC W G0 O0 w c.cl v) :
 Tr W w hp (W.lay b2 w.heap.size) (w.alloc (.cells #[v] T)) (up hp b2 (.cells [c]))∧(W.lay b2 w.heap.size).lv b2∧(W.lay b2 w.heap.size).nm b2=w.heap.size:=by
 obtain ⟨W',hW'⟩:∃ W',W.lay b2 w.heap.size=W':=⟨_,rfl⟩
 have hnl:¬ W.lv b2:=fun q=>(hrp.lv b2).1 q hb2
 have hne:∀ m,W.lv m→m≠b2:=fun m hm e=>hnl (e ▸ hm)
 have hbe:Below w.heap.size w (w.alloc (.cells #[v] T)):=(Below.refl _ w).alloc (Nat.le_refl _) _;have hS:∀ k',k' < w.heap.size→W'.S k'=W.S k':=fun k' hk=>by rw [←hW'];show up W.S _ 0 k'=_;rw [ay,if_neg (by omega)]
 have hnm:∀ m,W.lv m→W'.lv m∧W'.nm m=W.nm m∧W'.nv m=W.nv m:=fun m hm=>by
  rw [←hW'];exact ⟨.inr hm,by show up W.nm b2 _ m=_;rw [ay,if_neg (hne m hm)],rfl⟩
 have hfol:Fol W G0 O0 w W' G0 O0 (w.alloc (.cells #[v] T)):=⟨
  kZ (fp:=fun _=>False) ⟨hbe.os,hbe.tape,hbe.output,hbe.size,fun k hk _=>hbe.block k hk⟩ (fun _ q=>q.elim) hS,fun _=>Nat.le_refl _,fun _ _=>by rw [←hW'];rfl,fun o E sz n' _ ho=>(by cases ho),fun _ _=>by rw [←hW'];rfl,hnm,by rw [←hW'];rfl⟩
 have enm:W'.nm b2=w.heap.size:=by rw [←hW'];exact gB
 have ehf:W'.hf=W.hf:=by rw [←hW'];rfl
 have hnew:(w.alloc (.cells #[v] T)).heap[w.heap.size]? = some (.cells #[v] T (0,0)):=World.alloc_heap_new w _;rw [hW'];refine ⟨⟨hrp.upd hfol (by simp) (fun m=>by rw [←hW'];exact Iff.rfl) (fun m _=>by rw [ehf]) hS hbe.size (fun m hm k' hk=>hbe.block k' (hrp.mine m k' hk).2) ?_ (fun k' hk=>?_),hnm,⟨hbe.os,hbe.tape,hbe.output,hbe.size,fun k hk _=>hbe.block k hk⟩,fun k' ⟨m,hm⟩=>?_,hS⟩,?_,enm⟩
 ·refine ⟨#[v],T,by rw [enm];exact hnew,rfl,fun i c' u h1 h2=>?_⟩
  cases i with
  | zero=>cases h1;cases h2;exact hc.fol hfol
  | succ i=>simp at h1
 ·have hk':W'.nm b2=k':=hk;rw [enm] at hk';subst hk';refine ⟨by rw [←hW'];show up W.S _ 0 _=_;rw [ay,if_pos rfl],by simp,fun m hm hk2=>?_⟩
  have:=(hrp.mine m _ hk2).2;omega
 ·by_cases hmb:m=b2
  ·subst hmb;rw [ay,if_pos rfl] at hm;have hk':W'.nm m=k':=hm;rw [enm] at hk';exact .inr (by omega)
  ·rw [ay,if_neg hmb] at hm;exact .inl ⟨m,(hcl.fol hfol (fun hne=>(hrp.lv m).2 hne) (by rw [ehf]) k').1 hm⟩
 ·rw [←hW'];exact .inl rfl
theorem Pg {w:World} {v:Value} (hv:v.oneCell'=true) :
 Calls Try.prog 26 #[v,.int .i64 16] w fun e w'=>e=.returned (.func (.func 47) #[] #[.pointer (some ⟨w.heap.size,0,none⟩),.pointer (some ⟨w.heap.size+1,0,none⟩)])∧w'=(w.alloc (.cells #[v] 22)).alloc (.cells #[.int .i64 16] 3):=by
 go_enter Try.func26,Try.ntmps26
 go_wp2
 all_goals go_ret
 all_goals exact ⟨rfl,rfl⟩
def Gg (hp:Nat→Hb) (az:List Hw) (hp':Nat→Hb) (rs:List Hw):Prop:=∃ (rows:List (List Dt)) (b2 b3:Nat),az=[.one (.d (.im rows)),.one (hI 16)]∧(hp b2=.no∧hp b3=.no∧b2≠b3)∧hp'=up (up hp b2 (.cells [.d (.im rows)])) b3 (.cells [hI 16])∧rs=[.one (.h (.f 47 [] [(b2,0),(b3,0)]))]
theorem QT:gI Try.prog 26 Gg:=by
 rintro hp az hp' rs ⟨rows,b2,b3,rfl,⟨hb2,hb3,hne⟩,rfl,rfl⟩ W w vals _ hrp hvals
 obtain ⟨v,hv1,hv2,hva⟩:∃ v,RC W G0 O0 w (.d (.im rows)) v∧v.oneCell'=true∧vals=#[v,.int .i64 16]:=by
  obtain ⟨q1,q2⟩:=hvals;have h2:vals.size=2:=q1.symm
  obtain ⟨x,y,rfl⟩:∃ x y,vals=#[x,y]:=by
   refine ⟨vals[0]'(by omega),vals[1]'(by omega),?_⟩
   apply Array.ext
   ·exact h2
   ·intro i g1 g2;have:i < 2:=by simpa using g2
    match i,this with
    | 0,_=>rfl
    | 1,_=>rfl
  have e1:RC W G0 O0 w (.d (.im rows)) x:=q2 0 _ x rfl rfl;have e2:RD W.S w (.sc (.int .i64 16)) y:=q2 1 _ y rfl rfl;cases e2;exact ⟨x,e1,RC.one e1,rfl⟩
 rw [hva];refine (Pg hv2).mono ?_;rintro e w' ⟨rfl,rfl⟩;obtain ⟨t1,l1,n1⟩:=Gq (T:=22) hrp hb2 (c:=.d (.im rows)) hv1;have hb3':up hp b2 (.cells [.d (.im rows)]) b3=.no:=by rw [ay,if_neg (fun e=>hne e.symm)];exact hb3
 obtain ⟨t2,l2,n2⟩:=Gq (T:=3) t1.rhp hb3' (c:=hI 16) (v:=.int .i64 16) (.sc _ rfl);have t3:=t1.trans t2;obtain ⟨k1,k2,k3⟩:=t2.keep b2 l1;refine ⟨_,_,rfl,⟨?_,rfl,fun p hp=>by simp at hp,fun p hp=>?_⟩,t3.rhp,t3.keep,t3.but,t3.fp,t3.S⟩
 ·show _=Value.func (.func _) #[] #[.pointer (some ⟨_,0,none⟩),.pointer (some ⟨_,0,none⟩)]
  rw [k2,n1,n2,World.size_alloc]
 ·simp only [List.mem_cons,List.not_mem_nil,or_false] at hp
  rcases hp with rfl | rfl
  ·exact k1
  ·exact l2
theorem H6 {W:Wit} {w:World} {hp:Nat→Hb} {b2:Nat} {cs:List Hc} {vs:Array Value} {T:TypeId} (hrp:RHp W w hp) (hb2:hp b2=.no) (hc:RCs W G0 O0 w (cs.map Hc.cl) vs.toList) :
 Tr W w hp (W.lay b2 w.heap.size) (w.alloc (.cells vs T)) (up hp b2 (.cells cs))∧(W.lay b2 w.heap.size).lv b2∧(W.lay b2 w.heap.size).nm b2=w.heap.size:=by
 obtain ⟨W',hW'⟩:∃ W',W.lay b2 w.heap.size=W':=⟨_,rfl⟩
 have hnl:¬ W.lv b2:=fun q=>(hrp.lv b2).1 q hb2
 have hne:∀ m,W.lv m→m≠b2:=fun m hm e=>hnl (e ▸ hm)
 have hbe:Below w.heap.size w (w.alloc (.cells vs T)):=(Below.refl _ w).alloc (Nat.le_refl _) _;have hS:∀ k',k' < w.heap.size→W'.S k'=W.S k':=fun k' hk=>by rw [←hW'];show up W.S _ 0 k'=_;rw [ay,if_neg (by omega)]
 have hnm:∀ m,W.lv m→W'.lv m∧W'.nm m=W.nm m∧W'.nv m=W.nv m:=fun m hm=>by
  rw [←hW'];exact ⟨.inr hm,by show up W.nm b2 _ m=_;rw [ay,if_neg (hne m hm)],rfl⟩
 have hfol:Fol W G0 O0 w W' G0 O0 (w.alloc (.cells vs T)):=⟨
  kZ (fp:=fun _=>False) ⟨hbe.os,hbe.tape,hbe.output,hbe.size,fun k hk _=>hbe.block k hk⟩ (fun _ q=>q.elim) hS,fun _=>Nat.le_refl _,fun _ _=>by rw [←hW'];rfl,fun o E sz n' _ ho=>(by cases ho),fun _ _=>by rw [←hW'];rfl,hnm,by rw [←hW'];rfl⟩
 have enm:W'.nm b2=w.heap.size:=by rw [←hW'];exact gB
 have ehf:W'.hf=W.hf:=by rw [←hW'];rfl
 have hnew:(w.alloc (.cells vs T)).heap[w.heap.size]? = some (.cells vs T (0,0)):=World.alloc_heap_new w _;rw [hW'];refine ⟨⟨hrp.upd hfol (by simp) (fun m=>by rw [←hW'];exact Iff.rfl) (fun m _=>by rw [ehf]) hS hbe.size (fun m hm k' hk=>hbe.block k' (hrp.mine m k' hk).2) ?_ (fun k' hk=>?_),hnm,⟨hbe.os,hbe.tape,hbe.output,hbe.size,fun k hk _=>hbe.block k hk⟩,fun k' ⟨m,hm⟩=>?_,hS⟩,?_,enm⟩
 ·exact ⟨vs,T,by rw [enm];exact hnew,hc.fol hfol⟩
 ·have hk':W'.nm b2=k':=hk;rw [enm] at hk';subst hk';refine ⟨by rw [←hW'];show up W.S _ 0 _=_;rw [ay,if_pos rfl],by simp,fun m hm hk2=>?_⟩
  have:=(hrp.mine m _ hk2).2;omega
 ·by_cases hmb:m=b2
  ·subst hmb;rw [ay,if_pos rfl] at hm;have hk':W'.nm m=k':=hm;rw [enm] at hk';exact .inr (by omega)
  ·rw [ay,if_neg hmb] at hm;exact .inl ⟨m,(hcl.fol hfol (fun hne=>(hrp.lv m).2 hne) (by rw [ehf]) k').1 hm⟩
 ·rw [←hW'];exact .inl rfl
theorem Tt (e:Ev) (w:World):Calls Try.prog 38 #[e.val] w fun r w'=>∃ o,r=.returned (.slice (some ⟨(w.alloc o).heap.size,0,none⟩) 9 9)∧w'=(w.alloc o).alloc (.cells (e.fl.map (Value.int .i64)).toArray 3):=by
 unfold Ev.val
 go_enter Try.func38,Try.ntmps38
 go_wp2
 go_ret
 exact ⟨_,by rw [World.size_alloc];rfl,rfl⟩
theorem Tr.alloc {W:Wit} {w:World} {hp:Nat→Hb} (h:RHp W w hp) (o:Obj):Tr W w hp W (w.alloc o) hp:=by
 have hb:Below w.heap.size w (w.alloc o):=(Below.refl _ w).alloc (Nat.le_refl _) o;exact ⟨h.stay hb.size (fun k ⟨m,hm⟩=>hb.block k (h.mine m k hm).2) (yg hb),fun _ h=>⟨h,rfl,rfl⟩,⟨hb.os,hb.tape,hb.output,hb.size,fun k hk _=>hb.block k hk⟩,fun _ h=>.inl h,fun _ _=>rfl⟩
def Rx (hp:Nat→Hb) (az:List Hw) (hp':Nat→Hb) (rs:List Hw):Prop:=∃ (e:Ev) (b:Nat),az=[iq e.pa]∧hp b=.no∧hp'=up hp b (.cells (e.fl.map hI))∧rs=[.one (.h (.s b 0 9 9))]
theorem Vw:gI Try.prog 38 Rx:=by
 rintro hp az hp' rs ⟨e,b,rfl,hb,rfl,rfl⟩ W w vals _ hrp hvals;obtain ⟨v,rfl⟩:∃ v,vals=#[v]:=Array.size_eq_one_iff.1 (by simpa using hvals.1.symm)
 have hv:RP W.S w e.pa v:=pX.1 (hvals.2 0 _ v rfl rfl);obtain rfl:v=e.val:=RP.flat (vs:=e.cells) hv;refine (Tt e w).mono ?_;rintro r w' ⟨o,rfl,rfl⟩;have t1:=Tr.alloc hrp o
 obtain ⟨t2,l2,n2⟩:=H6 (T:=3) (cs:=e.fl.map hI) (vs:=(e.fl.map (Value.int .i64)).toArray) t1.rhp hb ⟨by simp,fun i c u h1 h2=>by
  simp only [List.map_map,List.getElem?_map] at h1 h2
  cases hi:e.fl[i]? with
  | none=>rw [hi] at h1;cases h1
  | some x =>
    rw [hi] at h1 h2;cases h1;cases h2;exact .sc _ rfl⟩
 have t3:=t1.trans t2;refine ⟨_,_,rfl,⟨?_,rfl,l2,by decide,by decide⟩,t3.rhp,t3.keep,t3.but,t3.fp,t3.S⟩
 show _=Value.slice (some ⟨_,0,none⟩) 9 9
 rw [n2]
structure Fl where
 es:List Ev
 d:Dep
 ns:List Nat
 en:Bool
def Fl.row (f:Fl):List Dt:=[.im (f.es.map Ev.row),.im (f.d.st.map aQ),.im (f.d.pr.map fun x=>[dI x]),.im (f.ns.map fun n=>[dI (n:Nat)]),.sc (.bool f.en)]
def Fl.pa (f:Fl):Pa:=.agg f.row
def fl0 : Fl := ⟨[], ⟨[], []⟩, [], false⟩
def fM:List Int→Rs→List Int×Rs
 | [],s=>([],s)
 | x :: xs,s=>((x+jf (aP s).1) :: (fM xs (aP s).2).1,(fM xs (aP s).2).2)
theorem wV:∀ (a b:List Int) (s:Rs),fM (a ++ b) s=((fM a s).1 ++ (fM b (fM a s).2).1,(fM b (fM a s).2).2)
 | [],b,s=>rfl
 | x :: a,b,s=>by
   show ((x+jf (aP s).1) :: (fM (a ++ b) (aP s).2).1,(fM (a ++ b) (aP s).2).2)=_
   rw [wV a b];rfl
theorem nS:∀ (a:List Int) (s:Rs),(fM a s).1.length=a.length
 | [],_=>rfl
 | x :: a,s=>by
   show ((x+jf (aP s).1) :: (fM a (aP s).2).1).length=_
   rw [List.length_cons,nS a,List.length_cons]
theorem rD:∀ (a:List Int) (s:Rs),(fM a s).2.rest <:+ s.rest
 | [],_=>List.suffix_refl _
 | _ :: a,s=>(rD a (aP s).2).trans (dh s)
def uU:List Int→Ev
 | [a,b,c,d,e,f,g,i,j]=>⟨a,b,c,d,e,f,g,i,j⟩
 | _=>ev0
def qI:Nat→Ev→Dep→Rs→Option (List Ev×Rs)
 | 0,_,_,s=>some ([],s)
 | k+1,l,d,s=>if (fM l.fl s).2.bad=true∨(uU (fM l.fl s).1).valid=false∨¬ (uU (fM l.fl s).1).stack < (d.st.length:Int) then none else
   (qI k (uU (fM l.fl s).1) d (fM l.fl s).2).map fun p=>(uU (fM l.fl s).1 :: p.1,p.2)
def grM (es:List Ev):Int:=es.foldl (fun m e=>max m e.stack) (-1)
def fJ (f:Fl):Prop:=∃ n,f.ns.getLast? = some n∧n≠16
def jd (b:List Nat) (d:Dep):Dep×(Nat×Rs):=((fK (aP ⟨b,false⟩).1 d (aP ⟨b,false⟩).2).1,aP (fK (aP ⟨b,false⟩).1 d (aP ⟨b,false⟩).2).2)
open Classical in
noncomputable def kL (kind:Nat) (b:List Nat) (f:Fl):Option Fl :=
 if kind=69 then (if (jd b f.d).2.2.bad=true∨(jd b f.d).2.2.rest≠[]∨(jd b f.d).2.1≠f.es.length then none else some ⟨f.es,(jd b f.d).1,f.ns,true⟩)
 else if (jd b f.d).2.2.bad=true∨(jd b f.d).2.1 < 1∨16 < (jd b f.d).2.1∨fJ f∨5000 < f.es.length+(jd b f.d).2.1 then none
 else match qI (jd b f.d).2.1 (lst ev0 f.es) (jd b f.d).1 (jd b f.d).2.2 with
  | none=>none
  | some (evs,s)=>if s.rest≠[]∨(f.d.st.length < (jd b f.d).1.st.length∧grM evs≠((jd b f.d).1.st.length:Int) - 1) then none else some ⟨f.es ++ evs,(jd b f.d).1,f.ns ++ [(jd b f.d).2.1],f.en⟩
structure NR (f:Fl):Prop where
 d:f.d.val
 dl:f.d.st.length≤400000
 el:f.es.length≤5000
 ev:evG (lst ev0 f.es)
 nl:f.ns.length≤100000
theorem nP:∀ (k:Nat) (d:Dep) (s:Rs),(fK k d s).2.rest <:+ s.rest
 | 0,_,_=>List.suffix_refl _
 | k+1,d,s=>by
   unfold fK;split
   ·exact List.suffix_refl _
   ·split
    ·exact lX s
    ·exact (nP k _ _).trans (lX s)
theorem nQ:∀ (k:Nat) (d:Dep) (s:Rs),d.val→(fK k d s).1.val∧(fK k d s).1.st.length+(fK k d s).2.rest.length≤d.st.length+s.rest.length
 | 0,_,_,h=>⟨h,Nat.le_refl _⟩
 | k+1,d,s,h=>by
   have hs:=(lX s).length_le;unfold fK;split
   ·exact ⟨h,Nat.le_refl _⟩
   ·split
    ·exact ⟨h,by dsimp only;omega⟩
    ·rename_i hq;rw [not_or,Classical.not_not] at hq;have hb:(dJ s).2.bad=false:=by simpa using hq.1
     have hl:=wG hb;have h2:=xA h hq.2.1 (by show (-1:Int)≤(((aP s).1:Int) - 1);omega) (by show (0:Int)≤((aP (aP s).2).1:Int);omega) (by show (0:Int)≤((aP (aP (aP s).2).2).1:Int);omega)
     obtain ⟨h3,h4⟩:=nQ k _ (dJ s).2 h2;refine ⟨h3,?_⟩;have:(bZ d (dJ s).1.1 (dJ s).1.2).st.length=d.st.length+1:=by simp [bZ]
     omega
theorem Pq {n:Nat} (h:n≤4294967295):-2147483648≤jf n∧jf n≤2147483647:=by
 unfold jf;split <;> omega
end Go.Proofs.Ytkafcpnahpfbfaa
end
section
namespace Go.Proofs.Ytkafcpnahpfbfaa
open Go Go.RowKit
set_option maxRecDepth 100000
def pcd53 : PC := .seq (.reg false [⟨(some 3), .box (.t 0), none, []⟩, ⟨(some 6), .new [(.slice none 0 0), (.slice none 0 0), (.slice none 0 0), (.slice none 0 0), (.bool false)], none, []⟩, ⟨(some 7), .mv (.v (.bool false)), none, []⟩]) (.seq (.reg false [⟨(some 20), .mv (.t 2), none, []⟩, ⟨(some 21), .build [(.slice none 0 0), (.int .i64 0), (.bool false)] [(0, 1, (.t 20))], none, [0]⟩, ⟨(some 22), .box (.t 21), none, [1]⟩, ⟨(some 8), .mv (.t 22), none, [2, 0, 1, 2]⟩]) (.seq (.reg false [⟨(some 23), .fld 0 (.t 3), none, []⟩, ⟨(some 24), .fld 1 (.t 23), none, [0]⟩, ⟨(some 25), .fld 0 (.t 24), none, [1]⟩, ⟨(some 26), .load none (.t 25), none, [2]⟩, ⟨(some 27), .len (.t 26), none, [3]⟩, ⟨(some 9), .mv (.t 27), none, [4, 0, 1, 2, 3, 4]⟩]) (.seq (.reg false [⟨(some 28), .mv (.t 8), none, []⟩, ⟨(some 29), .fld 0 (.t 3), none, []⟩, ⟨(some 30), .fld 1 (.t 29), none, [1]⟩, ⟨(some 31), .load (some 2) (.t 30), none, [2]⟩, ⟨(some 32), .call 62 [(.t 28), (.t 31)], none, [0, 3]⟩, ⟨(some 10), .new [(.slice none 0 0), (.slice none 0 0)], none, []⟩, ⟨none, .store 2 (.t 10) (.t 32), none, [5, 4, 4, 0, 1, 2, 3, 4, 5]⟩]) (.seq (.seq (.reg false [⟨(some 33), .mv (.t 1), none, []⟩, ⟨(some 34), .bin .eql (.t 33) (.v (.int .u8 69)), none, [0]⟩]) (.cond (.t 34) (.seq (.reg false [⟨(some 35), .mv (.t 8), none, []⟩, ⟨(some 36), .call 51 [(.t 35)], none, [0]⟩, ⟨(some 11), .mv (.t 36), none, [1, 1, 0, 1]⟩]) (.seq (.seq (.reg false [⟨(some 37), .mv (.t 8), none, []⟩, ⟨(some 38), .nilck (.t 37), none, [0]⟩, ⟨(some 39), .fld 2 (.t 38), none, [1]⟩, ⟨(some 40), .load none (.t 39), none, [2]⟩, ⟨(some 41), .mv (.t 40), none, [3]⟩, ⟨(some 42), .mv (.t 8), (some (41, false)), [4]⟩, ⟨(some 43), .nilck (.t 42), (some (41, false)), [5, 4]⟩, ⟨(some 44), .fld 1 (.t 43), (some (41, false)), [6, 4]⟩, ⟨(some 45), .load none (.t 44), (some (41, false)), [7, 4]⟩, ⟨(some 46), .mv (.t 2), (some (41, false)), [4]⟩, ⟨(some 47), .len (.t 46), (some (41, false)), [9, 4]⟩, ⟨(some 48), .bin .lss (.t 45) (.t 47), (some (41, false)), [8, 10, 4]⟩, ⟨(some 49), .pick (.t 41) (.v (.bool true)) (.t 48), none, [4, 11]⟩, ⟨(some 50), .mv (.t 49), none, [12, 4]⟩, ⟨(some 51), .mv (.t 11), (some (50, false)), [13]⟩, ⟨(some 52), .fld 0 (.t 3), (some (50, false)), [13]⟩, ⟨(some 53), .fld 0 (.t 52), (some (50, false)), [15, 13]⟩, ⟨(some 54), .load none (.t 53), (some (50, false)), [16, 13]⟩, ⟨(some 55), .len (.t 54), (some (50, false)), [17, 13]⟩, ⟨(some 56), .bin .neq (.t 51) (.t 55), (some (50, false)), [14, 18, 13]⟩, ⟨(some 57), .pick (.t 50) (.v (.bool true)) (.t 56), none, [13, 19]⟩]) (.cond (.t 57) (.seq (.reg false [⟨(some 58), .load (some 5) (.t 3), none, []⟩, ⟨none, .store 5 (.t 6) (.t 58), none, [0, 0]⟩, ⟨(some 7), .mv (.v (.bool false)), none, [1, 0, 1]⟩]) (.ret)) (.skip))) (.seq (.reg false [⟨(some 59), .load (some 2) (.t 10), none, []⟩, ⟨(some 60), .fld 0 (.t 3), none, [0]⟩, ⟨(some 61), .fld 1 (.t 60), none, [1, 0]⟩, ⟨none, .store 2 (.t 61) (.t 59), none, [2, 0, 0]⟩]) (.seq (.reg false [⟨(some 62), .fld 4 (.t 3), none, []⟩, ⟨none, .store 1 (.t 62) (.v (.bool true)), none, [0]⟩]) (.seq (.reg false [⟨(some 63), .load (some 5) (.t 3), none, []⟩, ⟨none, .store 5 (.t 6) (.t 63), none, [0, 0]⟩, ⟨(some 7), .mv (.v (.bool true)), none, [1, 0, 1]⟩]) (.ret)))))) (.skip))) (.seq (.reg false [⟨(some 64), .mv (.t 8), none, []⟩, ⟨(some 65), .call 51 [(.t 64)], none, [0]⟩, ⟨(some 12), .mv (.t 65), none, [1, 1, 0, 1]⟩]) (.seq (.seq (.reg false [⟨(some 66), .mv (.t 8), none, []⟩, ⟨(some 67), .nilck (.t 66), none, [0]⟩, ⟨(some 68), .fld 2 (.t 67), none, [1]⟩, ⟨(some 69), .load none (.t 68), none, [2]⟩, ⟨(some 70), .mv (.t 69), none, [3]⟩, ⟨(some 71), .mv (.t 12), (some (70, false)), [4]⟩, ⟨(some 72), .bin .lss (.t 71) (.v (.int .i64 1)), (some (70, false)), [5, 4]⟩, ⟨(some 73), .pick (.t 70) (.v (.bool true)) (.t 72), none, [4, 6]⟩, ⟨(some 74), .mv (.t 73), none, [7, 4]⟩, ⟨(some 75), .mv (.t 12), (some (74, false)), [8]⟩, ⟨(some 76), .bin .gtr (.t 75) (.v (.int .i64 16)), (some (74, false)), [9, 8]⟩, ⟨(some 77), .pick (.t 74) (.v (.bool true)) (.t 76), none, [8, 10]⟩, ⟨(some 78), .mv (.t 77), none, [11, 8]⟩, ⟨(some 79), .fld 3 (.t 3), (some (78, false)), [12]⟩, ⟨(some 80), .load none (.t 79), (some (78, false)), [13, 12]⟩, ⟨(some 81), .len (.t 80), (some (78, false)), [14, 12]⟩, ⟨(some 82), .bin .gtr (.t 81) (.v (.int .i64 0)), (some (78, false)), [15, 12]⟩, ⟨(some 83), .mv (.t 82), (some (78, false)), [16, 12, 12]⟩, ⟨(some 84), .fld 3 (.t 3), (some (83, true)), [17]⟩, ⟨(some 85), .load none (.t 84), (some (83, true)), [18, 17]⟩, ⟨(some 86), .fld 3 (.t 3), (some (83, true)), [17]⟩, ⟨(some 87), .load none (.t 86), (some (83, true)), [20, 17]⟩, ⟨(some 88), .len (.t 87), (some (83, true)), [21, 17]⟩, ⟨(some 89), .bin .sub (.t 88) (.v (.int .i64 1)), (some (83, true)), [22, 17]⟩, ⟨(some 90), .ixs 1 (.t 85) (.t 89), (some (83, true)), [19, 23, 17]⟩, ⟨(some 91), .load none (.t 90), (some (83, true)), [24, 17]⟩, ⟨(some 92), .bin .neq (.t 91) (.v (.int .i64 16)), (some (83, true)), [25, 17]⟩, ⟨(some 93), .pick (.t 83) (.t 92) (.v (.bool false)), (some (78, false)), [17, 26, 12]⟩, ⟨(some 94), .pick (.t 78) (.v (.bool true)) (.t 93), none, [12, 27]⟩, ⟨(some 95), .mv (.t 94), none, [28, 17]⟩, ⟨(some 96), .fld 0 (.t 3), (some (95, false)), [29]⟩, ⟨(some 97), .fld 0 (.t 96), (some (95, false)), [30, 29]⟩, ⟨(some 98), .load none (.t 97), (some (95, false)), [31, 29]⟩, ⟨(some 99), .len (.t 98), (some (95, false)), [32, 29]⟩, ⟨(some 100), .mv (.t 12), (some (95, false)), [29]⟩, ⟨(some 101), .bin .add (.t 99) (.t 100), (some (95, false)), [33, 34, 29]⟩, ⟨(some 102), .bin .gtr (.t 101) (.v (.int .i64 5000)), (some (95, false)), [35, 29]⟩, ⟨(some 103), .pick (.t 95) (.v (.bool true)) (.t 102), none, [29, 36]⟩]) (.cond (.t 103) (.seq (.reg false [⟨(some 104), .load (some 5) (.t 3), none, []⟩, ⟨none, .store 5 (.t 6) (.t 104), none, [0, 0]⟩, ⟨(some 7), .mv (.v (.bool false)), none, [1, 0, 1]⟩]) (.ret)) (.skip))) (.seq (.reg false [⟨(some 13), .new [(.int .i64 0), (.int .i64 0), (.int .i64 0), (.int .i64 0), (.int .i64 0), (.int .i64 0), (.int .i64 0), (.int .i64 0), (.int .i64 0)], none, []⟩]) (.seq (.seq (.reg false [⟨(some 105), .fld 0 (.t 3), none, []⟩, ⟨(some 106), .fld 0 (.t 105), none, [0]⟩, ⟨(some 107), .load none (.t 106), none, [1]⟩, ⟨(some 108), .len (.t 107), none, [2]⟩, ⟨(some 109), .bin .gtr (.t 108) (.v (.int .i64 0)), none, [3]⟩]) (.cond (.t 109) (.reg false [⟨(some 110), .fld 0 (.t 3), none, []⟩, ⟨(some 111), .fld 0 (.t 110), none, [0]⟩, ⟨(some 112), .load none (.t 111), none, [1]⟩, ⟨(some 113), .fld 0 (.t 3), none, []⟩, ⟨(some 114), .fld 0 (.t 113), none, [3]⟩, ⟨(some 115), .load none (.t 114), none, [4]⟩, ⟨(some 116), .len (.t 115), none, [5]⟩, ⟨(some 117), .bin .sub (.t 116) (.v (.int .i64 1)), none, [6]⟩, ⟨(some 118), .ixs 9 (.t 112) (.t 117), none, [2, 7]⟩, ⟨(some 119), .load (some 9) (.t 118), none, [8]⟩, ⟨none, .store 9 (.t 13) (.t 119), none, [9, 0, 1, 2, 3, 4, 5, 6, 7, 8, 9]⟩]) (.skip))) (.seq (.reg false [⟨(some 120), .bslice 42 9 [] 0 [], none, []⟩, ⟨(some 121), .fld 0 (.t 3), none, []⟩, ⟨(some 122), .fld 0 (.t 121), none, [1]⟩, ⟨(some 123), .load none (.t 122), none, [2]⟩, ⟨(some 124), .append 42 9 72 (.t 120) (.t 123), none, [0, 3]⟩, ⟨(some 14), .mv (.t 124), none, [4, 4, 0, 1, 2, 3, 4]⟩]) (.seq (.reg false [⟨(some 15), .mv (.v (.int .i64 (-1))), none, []⟩]) (.seq (.seq (.reg false [⟨(some 16), .mv (.v (.int .i64 0)), none, []⟩]) (.block 0 (.loop (.seq (.seq (.reg false [⟨(some 125), .mv (.t 16), none, []⟩, ⟨(some 126), .mv (.t 12), none, []⟩, ⟨(some 127), .bin .lss (.t 125) (.t 126), none, [0, 1]⟩]) (.cond (.t 127) (.skip) (.exit 0))) (.seq (.block 1 (.seq (.reg false [⟨(some 130), .load (some 9) (.t 13), none, []⟩, ⟨(some 131), .callh 38 [(.t 130)], none, [0]⟩, ⟨(some 17), .mv (.t 131), none, [1, 1, 0, 1]⟩]) (.seq (.seq (.reg false [⟨(some 18), .mv (.v (.int .i64 0)), none, []⟩]) (.block 2 (.loop (.seq (.seq (.reg false [⟨(some 132), .mv (.t 18), none, []⟩, ⟨(some 133), .mv (.t 17), none, []⟩, ⟨(some 134), .len (.t 133), none, [1]⟩, ⟨(some 135), .bin .lss (.t 132) (.t 134), none, [0, 2]⟩]) (.cond (.t 135) (.skip) (.exit 2))) (.seq (.block 3 (.reg true [⟨(some 138), .mv (.t 17), none, []⟩, ⟨(some 139), .mv (.t 18), none, []⟩, ⟨(some 140), .mv (.t 17), none, []⟩, ⟨(some 141), .mv (.t 18), none, []⟩, ⟨(some 142), .ixs 1 (.t 140) (.t 141), none, [2, 3]⟩, ⟨(some 143), .load none (.t 142), none, [4]⟩, ⟨(some 144), .mv (.t 8), none, []⟩, ⟨(some 145), .call 63 [(.t 144)], none, [6]⟩, ⟨(some 146), .bin .add (.t 143) (.t 145), none, [5, 7]⟩, ⟨(some 147), .ixs 1 (.t 138) (.t 139), none, [0, 1, 0, 1, 2, 3, 4, 5, 6, 7, 8]⟩, ⟨none, .store 1 (.t 147) (.t 146), none, [9, 8, 7, 0, 1, 2, 3, 4, 5, 6, 7, 8]⟩])) (.reg false [⟨(some 136), .mv (.t 18), none, []⟩, ⟨(some 137), .bin .add (.t 136) (.v (.int .i64 1)), none, [0]⟩, ⟨(some 18), .mv (.t 137), none, [1, 0, 1]⟩])))))) (.seq (.reg true [⟨(some 148), .mv (.t 17), none, []⟩, ⟨(some 149), .ixs 1 (.t 148) (.v (.int .i64 0)), none, [0]⟩, ⟨(some 150), .load none (.t 149), none, [1]⟩, ⟨(some 151), .mv (.t 17), none, []⟩, ⟨(some 152), .ixs 1 (.t 151) (.v (.int .i64 1)), none, [3]⟩, ⟨(some 153), .load none (.t 152), none, [4]⟩, ⟨(some 154), .mv (.t 17), none, []⟩, ⟨(some 155), .ixs 1 (.t 154) (.v (.int .i64 2)), none, [6]⟩, ⟨(some 156), .load none (.t 155), none, [7]⟩, ⟨(some 157), .mv (.t 17), none, []⟩, ⟨(some 158), .ixs 1 (.t 157) (.v (.int .i64 3)), none, [9]⟩, ⟨(some 159), .load none (.t 158), none, [10]⟩, ⟨(some 160), .mv (.t 17), none, []⟩, ⟨(some 161), .ixs 1 (.t 160) (.v (.int .i64 4)), none, [12]⟩, ⟨(some 162), .load none (.t 161), none, [13]⟩, ⟨(some 163), .mv (.t 17), none, []⟩, ⟨(some 164), .ixs 1 (.t 163) (.v (.int .i64 5)), none, [15]⟩, ⟨(some 165), .load none (.t 164), none, [16]⟩, ⟨(some 166), .mv (.t 17), none, []⟩, ⟨(some 167), .ixs 1 (.t 166) (.v (.int .i64 6)), none, [18]⟩, ⟨(some 168), .load none (.t 167), none, [19]⟩, ⟨(some 169), .mv (.t 17), none, []⟩, ⟨(some 170), .ixs 1 (.t 169) (.v (.int .i64 7)), none, [21]⟩, ⟨(some 171), .load none (.t 170), none, [22]⟩, ⟨(some 172), .mv (.t 17), none, []⟩, ⟨(some 173), .ixs 1 (.t 172) (.v (.int .i64 8)), none, [24]⟩, ⟨(some 174), .load none (.t 173), none, [25]⟩, ⟨(some 175), .build [(.int .i64 0), (.int .i64 0), (.int .i64 0), (.int .i64 0), (.int .i64 0), (.int .i64 0), (.int .i64 0), (.int .i64 0), (.int .i64 0)] [(0, 1, (.t 150)), (1, 1, (.t 153)), (2, 1, (.t 156)), (3, 1, (.t 159)), (4, 1, (.t 162)), (5, 1, (.t 165)), (6, 1, (.t 168)), (7, 1, (.t 171)), (8, 1, (.t 174))], none, [2, 5, 8, 11, 14, 17, 20, 23, 26]⟩, ⟨(some 19), .new [(.int .i64 0), (.int .i64 0), (.int .i64 0), (.int .i64 0), (.int .i64 0), (.int .i64 0), (.int .i64 0), (.int .i64 0), (.int .i64 0)], none, []⟩, ⟨none, .store 9 (.t 19) (.t 175), none, [28, 27, 0, 1, 2, 3, 4, 5, 6, 7, 8, 9, 10, 11, 12, 13, 14, 15, 16, 17, 18, 19, 20, 21, 22, 23, 24, 25, 26, 27, 28]⟩]) (.seq (.seq (.reg false [⟨(some 176), .mv (.t 8), none, []⟩, ⟨(some 177), .nilck (.t 176), none, [0]⟩, ⟨(some 178), .fld 2 (.t 177), none, [1]⟩, ⟨(some 179), .load none (.t 178), none, [2]⟩, ⟨(some 180), .mv (.t 179), none, [3]⟩, ⟨(some 181), .load (some 9) (.t 19), (some (180, false)), [4]⟩, ⟨(some 182), .call 35 [(.t 181)], (some (180, false)), [5, 4, 4]⟩, ⟨(some 183), .un .not (.t 182), (some (180, false)), [6, 4]⟩, ⟨(some 184), .pick (.t 180) (.v (.bool true)) (.t 183), none, [4, 7]⟩, ⟨(some 185), .mv (.t 184), none, [8, 6]⟩, ⟨(some 186), .fld 8 (.t 19), (some (185, false)), [9]⟩, ⟨(some 187), .load none (.t 186), (some (185, false)), [10, 9]⟩, ⟨(some 188), .fld 0 (.t 10), (some (185, false)), [9]⟩, ⟨(some 189), .load none (.t 188), (some (185, false)), [12, 9]⟩, ⟨(some 190), .len (.t 189), (some (185, false)), [13, 9]⟩, ⟨(some 191), .bin .geq (.t 187) (.t 190), (some (185, false)), [11, 14, 9]⟩, ⟨(some 192), .pick (.t 185) (.v (.bool true)) (.t 191), none, [9, 15]⟩]) (.cond (.t 192) (.seq (.reg false [⟨(some 193), .load (some 5) (.t 3), none, []⟩, ⟨none, .store 5 (.t 6) (.t 193), none, [0, 0]⟩, ⟨(some 7), .mv (.v (.bool false)), none, [1, 0, 1]⟩]) (.ret)) (.skip))) (.seq (.reg false [⟨(some 194), .mv (.t 14), none, []⟩, ⟨(some 195), .load (some 9) (.t 19), none, []⟩, ⟨(some 196), .bslice 42 9 [(.int .i64 0), (.int .i64 0), (.int .i64 0), (.int .i64 0), (.int .i64 0), (.int .i64 0), (.int .i64 0), (.int .i64 0), (.int .i64 0)] 1 [(0, 9, (.t 195))], none, [1]⟩, ⟨(some 197), .append 42 9 72 (.t 194) (.t 196), none, [0, 2]⟩, ⟨(some 14), .mv (.t 197), none, [3, 3, 0, 1, 2, 3]⟩]) (.seq (.reg false [⟨(some 198), .mv (.t 15), none, []⟩, ⟨(some 199), .fld 8 (.t 19), none, []⟩, ⟨(some 200), .load none (.t 199), none, [1]⟩, ⟨(some 201), .mm true [(.t 198), (.t 200)], none, [0, 2]⟩, ⟨(some 15), .mv (.t 201), none, [3, 0, 1, 2, 3]⟩]) (.reg false [⟨(some 202), .load (some 9) (.t 19), none, []⟩, ⟨none, .store 9 (.t 13) (.t 202), none, [0, 0]⟩])))))))) (.reg false [⟨(some 128), .mv (.t 16), none, []⟩, ⟨(some 129), .bin .add (.t 128) (.v (.int .i64 1)), none, [0]⟩, ⟨(some 16), .mv (.t 129), none, [1, 0, 1]⟩])))))) (.seq (.seq (.reg false [⟨(some 203), .mv (.t 8), none, []⟩, ⟨(some 204), .nilck (.t 203), none, [0]⟩, ⟨(some 205), .fld 1 (.t 204), none, [1]⟩, ⟨(some 206), .load none (.t 205), none, [2]⟩, ⟨(some 207), .mv (.t 2), none, []⟩, ⟨(some 208), .len (.t 207), none, [4]⟩, ⟨(some 209), .bin .lss (.t 206) (.t 208), none, [3, 5]⟩, ⟨(some 210), .mv (.t 209), none, [6]⟩, ⟨(some 211), .fld 0 (.t 10), (some (210, false)), [7]⟩, ⟨(some 212), .load none (.t 211), (some (210, false)), [8, 7]⟩, ⟨(some 213), .len (.t 212), (some (210, false)), [9, 7]⟩, ⟨(some 214), .mv (.t 9), (some (210, false)), [7]⟩, ⟨(some 215), .bin .gtr (.t 213) (.t 214), (some (210, false)), [10, 11, 7]⟩, ⟨(some 216), .mv (.t 215), (some (210, false)), [12, 7, 7]⟩, ⟨(some 217), .mv (.t 15), (some (216, true)), [13]⟩, ⟨(some 218), .fld 0 (.t 10), (some (216, true)), [13]⟩, ⟨(some 219), .load none (.t 218), (some (216, true)), [15, 13]⟩, ⟨(some 220), .len (.t 219), (some (216, true)), [16, 13]⟩, ⟨(some 221), .bin .sub (.t 220) (.v (.int .i64 1)), (some (216, true)), [17, 13]⟩, ⟨(some 222), .bin .neq (.t 217) (.t 221), (some (216, true)), [14, 18, 13]⟩, ⟨(some 223), .pick (.t 216) (.t 222) (.v (.bool false)), (some (210, false)), [13, 19, 7]⟩, ⟨(some 224), .pick (.t 210) (.v (.bool true)) (.t 223), none, [7, 20]⟩]) (.cond (.t 224) (.seq (.reg false [⟨(some 225), .load (some 5) (.t 3), none, []⟩, ⟨none, .store 5 (.t 6) (.t 225), none, [0, 0]⟩, ⟨(some 7), .mv (.v (.bool false)), none, [1, 0, 1]⟩]) (.ret)) (.skip))) (.seq (.reg false [⟨(some 226), .mv (.t 14), none, []⟩, ⟨(some 227), .load (some 2) (.t 10), none, []⟩, ⟨(some 228), .build [(.slice none 0 0), (.slice none 0 0), (.slice none 0 0)] [(0, 1, (.t 226)), (1, 2, (.t 227))], none, [0, 1]⟩, ⟨(some 229), .fld 0 (.t 3), none, [0, 1, 2]⟩, ⟨none, .store 3 (.t 229) (.t 228), none, [3, 2, 0, 1, 2]⟩]) (.seq (.reg false [⟨(some 230), .bslice 3 1 [] 0 [], none, []⟩, ⟨(some 231), .fld 3 (.t 3), none, []⟩, ⟨(some 232), .load none (.t 231), none, [1]⟩, ⟨(some 233), .append 3 1 8 (.t 230) (.t 232), none, [0, 2]⟩, ⟨(some 234), .mv (.t 12), none, []⟩, ⟨(some 235), .bslice 3 1 [(.int .i64 0)] 1 [(0, 1, (.t 234))], none, [4]⟩, ⟨(some 236), .append 3 1 8 (.t 233) (.t 235), none, [3, 5, 3]⟩, ⟨(some 237), .fld 3 (.t 3), none, [0, 1, 2, 3, 4, 5, 6]⟩, ⟨none, .store 1 (.t 237) (.t 236), none, [7, 6, 6, 0, 1, 2, 3, 4, 5, 6]⟩]) (.seq (.reg false [⟨(some 238), .load (some 5) (.t 3), none, []⟩, ⟨none, .store 5 (.t 6) (.t 238), none, [0, 0]⟩, ⟨(some 7), .mv (.v (.bool true)), none, [1, 0, 1]⟩]) (.ret))))))))))))))))
def prd53 : List PR := [.c 6 (some 5), .t 7]
abbrev msd53_0 : List Nat := [125, 126, 127, 130, 131, 17, 18, 132, 133, 134, 135, 138, 139, 140, 141, 142, 143, 144, 145, 146, 147, 136, 137, 148, 149, 150, 151, 152, 153, 154, 155, 156, 157, 158, 159, 160, 161, 162, 163, 164, 165, 166, 167, 168, 169, 170, 171, 172, 173, 174, 175, 19, 176, 177, 178, 179, 180, 181, 182, 183, 184, 185, 186, 187, 188, 189, 190, 191, 192, 193, 7, 194, 195, 196, 197, 14, 198, 199, 200, 201, 15, 202, 128, 129, 16]
abbrev osd53_0 : List Nat := [147, 19, 6, 196, 14, 13]
abbrev msd53_1 : List Nat := [132, 133, 134, 135, 138, 139, 140, 141, 142, 143, 144, 145, 146, 147, 136, 137, 18]
abbrev osd53_1 : List Nat := [147]
def fld53 : List (Nat × List Bool) := [(6000038, List.replicate 1 false)]
theorem bdd53:Try.f53.body=some (Try.f53.body.getD .skip):=by kernel_rfl
theorem cpd53:bN Try.prog Try.f53.ntmps (eU ++ fld53) (Try.f53.body.getD .skip)=some pcd53:=by kernel_rfl
theorem sqd53 [bS] {env:Env} (hE:aA Try.prog env) {R:(Nat→Hb)→List Hw→((Nat→Hb)→List Hw→Prop)→Prop} (hR:∀ hp az Post,R hp az Post→az.length≤239∧∃ nc,pwp env pcd53 (fun e s=>(e=.normal∨e=.ret)∧∃ hp' rs,s.gW prd53=some rs∧(∀ b,hp' b=s.hb b∨(hp' b=.dead∧s.hb b≠.no))∧Post hp' rs) (St.fA nc hp az)):dY Try.prog 53 R :=
 eX hE (nR bT (by kernel_rfl)) aX Try.func53 bdd53 cpd53 (by kernel_rfl) (by kernel_rfl) (by kernel_rfl) hR
end Go.Proofs.Ytkafcpnahpfbfaa
end
