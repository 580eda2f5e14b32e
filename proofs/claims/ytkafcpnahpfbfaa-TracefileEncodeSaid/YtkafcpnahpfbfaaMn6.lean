/- Depots of the program: Valid (walked by hand: the map that table returns is compared with nil). -/
import Derived.Test.YtkafcpnahpfbfaaMn5
import Derived.ProofKit
import Derived.Deep.Slices
import Derived.Deep.Fields
import Derived.ChangeSame
import Derived.OpenShut
set_option linter.unusedSimpArgs false
set_option linter.unusedVariables false
section
namespace Go.Proofs.Ytkafcpnahpfbfaa
open Go Go.RowKit
set_option maxRecDepth 1000000
set_option maxHeartbeats 4000000
theorem yt {d:Dep} (hl:d.st.length≤1000000∧d.pr.length≤1000000) (h64:d.gQ) {S:Nat→Nat} {w:World} {vals:Array Value} (hv:RPs S w [d.pa] vals) :
 Calls Try.prog 41 vals w fun e w'=>∃ m,e=.returned (.map m)∧m.isSome=pW d∧Below w.heap.size w w':=by
 have hW:RHp (W00 (fun _=>0) S) w (fun _=>.no):=⟨fun b=>⟨fun h=>h.elim,fun h=>h rfl⟩,fun b k hk=>hk.elim,fun _=>trivial,fun b b' k hk=>hk.elim⟩;have hno:∀ k,¬ bV (W00 (fun _=>0) S) (fun _=>.no) k:=fun k ⟨b,hb⟩=>hb
 have hbelow:∀ w',jF (bV (W00 (fun _=>0) S) (fun _=>.no)) w w'→Below w.heap.size w w':=fun w' hb=>⟨hb.os,hb.tape,hb.output,hb.size,fun k hk=>hb.block k hk (hno k)⟩
 refine Calls.mono (Kq _ _ _ ⟨0,d,rfl,⟨fun _ _=>rfl,hl,h64⟩,rfl⟩ (W00 (fun _=>0) S) w vals (fun _ _=>trivial) hW ⟨by simpa using hv.1,fun i x u e1 e2=>?_⟩) ?_
 ·cases i with
  | zero =>
    cases e1;exact nT.2 (hv.2 0 d.pa u rfl e2)
  | succ i=>simp at e1
 ·rintro e w' ⟨hp',rs',⟨h1,h2⟩,u,W',rfl,hrr,hrp,hkeep,hbut,hfp,hS⟩
  by_cases hd:d.val
  ·obtain ⟨b,rfl⟩:=h1 hd;rw [nA hd];have hu:u=.map (some (W'.nm b)):=hrr.1;exact ⟨_,by rw [hu],rfl,hbelow w' hbut⟩
  ·obtain rfl:=h2 hd;rw [lg hd];have hu:RD W'.S w' (.sc (.map none)) u:=hrr;cases hu;exact ⟨none,rfl,rfl,hbelow w' hbut⟩
theorem AY {S:Nat→Nat} {w w':World} (h:Below w.heap.size w w'):Ext S S w w':=fun b i h1 h2=>by
 refine ⟨h1,?_⟩
 have hb:b < w.heap.size:=by
  refine Classical.byContradiction fun q=>?_
  unfold World.cell? at h2;rw [Array.getElem?_eq_none (show w.heap.size≤b by omega)] at h2;simp at h2
 unfold World.cell?;rw [h.block b hb]
def FU (ps rs:List Pa):Prop:=∃ d:Dep,ps=[d.pa]∧((d.st.length≤1000000∧d.pr.length≤1000000)∧d.gQ)∧rs=[pB (pW d)]
theorem Kr:Spec Try.prog 22 FU:=by
 rintro ps rs ⟨d,rfl,⟨hl,h64⟩,rfl⟩ S w vals _ hv;obtain ⟨u,rfl,h1⟩:=hv.one
 have hc:Calls Try.prog 22 #[u] w fun r w'=>r=.returned (.bool (pW d))∧Below w.heap.size w w':=by
  have qT:∀ (w:World) (r:Option Nat),(binOp .neq 79 (.map r) (.map none)).run Try.prog w=.ok (.bool (!r.isNone)) w:=fun w r=>run_neq_map_nil w _ _ _ r Try.underlying79
  go_enter Try.func22,Try.ntmps22
  obtain ⟨arr,rfl,h2,h3⟩:=h1;have hsz:arr.size=2:=h2.symm
  obtain ⟨a,b,rfl⟩:∃ a b,arr=#[a,b]:=by
   refine ⟨arr[0]'(by rw [hsz];decide),arr[1]'(by rw [hsz];decide),?_⟩
   apply Array.ext
   ·exact hsz
   ·intro i g1 g2;have:i < 2:=by simpa using g2
    match i,this with
    | 0,_=>rfl
    | 1,_=>rfl
  have h4:=h3 0 _ a rfl rfl;have h5:=h3 1 _ b rfl rfl;have ho:∀ o,RP S (w.alloc o) d.pa (.agg #[a,b]):=fun o=>RP.ext (AY ((Below.refl w.heap.size w).alloc (Nat.le_refl _) o)) ⟨_,rfl,h2,h3⟩
  go_wp2_with ((go_at_call 41;refine (yt hl h64 (S:=S) (RPs.mk1 (ho _))).mono ?_;rintro e w' ⟨m,rfl,hm,hb⟩;cases m))
  all_goals go_wp2
  all_goals go_ret
  ·exact ⟨by rw [←hm];rfl,Below.trans ((Below.refl w.heap.size w).alloc (Nat.le_refl _) _) (hb.mono (by simp))⟩
  ·exact ⟨by rw [←hm];rfl,Below.trans ((Below.refl w.heap.size w).alloc (Nat.le_refl _) _) (hb.mono (by simp))⟩
 refine hc.mono ?_;rintro r w' ⟨rfl,h4⟩;exact ⟨_,S,rfl,RP.Gl _,h4,fun _ _=>rfl⟩
def vX (ps rs:List Pa):Prop:=∃ e:Ev,ps=[e.pa]∧rs=[pB e.valid]
theorem CZ:Spec Try.prog 24 vX:=by
 rintro ps rs ⟨e,rfl,rfl⟩ S w vals _ hv;obtain ⟨u,rfl,h1⟩:=hv.one;obtain rfl:u=e.val:=RP.flat (vs:=e.cells) h1;refine (yJ e w).mono ?_;rintro r w' ⟨rfl,hb⟩;exact ⟨_,S,rfl,RP.Gl _,hb,fun _ _=>rfl⟩
def uH (b off:Nat):Hw:=.agg [hP b off,hP b (off+1),hP b (off+2),hP b (off+3),hP b (off+4),hP b (off+5),hP b (off+6),hP b (off+7),hP b (off+8)]
def FX (hp:Nat→Hb) (az:List Hw) (hp':Nat→Hb) (rs:List Hw):Prop:=∃ b off:Nat,az=[.one (hP b off)]∧hp'=hp∧rs=[uH b off]
theorem Kw:fB Try.prog 48 FX:=by
 refine spw48 ay.e0 ?_;rintro hp az hp' rs ⟨b,off,rfl,rfl,rfl⟩;refine ⟨by simp,fun _=>1,?_⟩;unfold pcw48
 with_reducible refine aH ?_
 simp only [↓evP,evB,stB,reduceIte,reduceCtorEq,Nat.reduceEqDiff,Nat.reduceAdd,Nat.reduceMul,Nat.reduceLeDiff,Nat.reduceLT,Nat.reduceSub,Nat.reduceBEq];refine ⟨(by unfold Drw;refine Eq.trans (b:=true) ?_ rfl;kernel_rfl),?_⟩
 simp only [↓evP,evB,stB,reduceIte,reduceCtorEq,Nat.reduceEqDiff,Nat.reduceAdd,Nat.reduceMul,Nat.reduceLeDiff,Nat.reduceLT,Nat.reduceSub,Nat.reduceBEq,prw48,uH,Nat.add_zero]
 first | done | exact ⟨rfl,rfl⟩ | rfl
theorem Gh (e:Ev):e.row=e.fl.map dI:=rfl
theorem Gg (e:Ev):e.fl.length=9:=rfl
theorem nine {α:Type} {f:Nat→α} {i:Nat} (h:i < 9):[f 0,f 1,f 2,f 3,f 4,f 5,f 6,f 7,f 8][i]? = some (f i):=by
 match i,h with
 | 0,_=>rfl
 | 1,_=>rfl
 | 2,_=>rfl
 | 3,_=>rfl
 | 4,_=>rfl
 | 5,_=>rfl
 | 6,_=>rfl
 | 7,_=>rfl
 | 8,_=>rfl
def IW (hp:Nat→Hb) (az:List Hw) (Post:(Nat→Hb)→List Hw→Prop):Prop:=∃ (bw N:Nat) (x:Option Nat) (l:Ev) (bs:List Nat) (e:Ev),az=[.one (hP bw 0),lD e.pa]∧(WAt hp bw N l bs x∧bs.length≤500000∧evG l∧evG e)∧Post=fun h r=>r=[]∧Dj hp bw N x e (bs ++ pX l e) h
theorem Ls:jW Try.prog 30 IW:=by
 refine sqw30 (show ay Try.prog (p1 29 uq (h1 48 FX e0)) from ay.p1 zO (ay.h1 Kw ay.e0)) ?_;rintro hp az Post ⟨bw,N,x,l,bs,e,rfl,⟨hW,hbl,hlg,heg⟩,rfl⟩;refine ⟨by simp,fun _=>4,?_⟩;have hwlt:=hW.lt;have hxl:=iQ hW.v;obtain ⟨H1,hH1⟩:∃ H1,up hp N (.cells (e.row.map .d))=H1:=⟨_,rfl⟩
 have h1N:H1 N=.cells (e.row.map .d):=by rw [←hH1];exact kU
 have hW1:WAt H1 bw (N+1) l bs x:=by
  rw [←hH1];refine ⟨by rw [eH (by omega)];exact hW.h,?_,hW.ne,by omega,fun b hb=>by rw [eH (by omega)];exact hW.fr b (by omega)⟩
  cases x with
  | none=>exact hW.v
  | some b=>exact ⟨by rw [eH (by have:=hxl b rfl;omega)];exact hW.v.1,by have:=hxl b rfl;omega⟩
 have hS1:kK hp bw N x H1 (N+1) x:=⟨by omega,fun _ q=>.inl q,fun b h1 _ _=>by rw [←hH1];exact eH (by omega)⟩
 unfold pcw30
 with_reducible refine aH ?_
 simp only [↓evP,evB,stB,reduceIte,reduceCtorEq,Nat.reduceEqDiff,Nat.reduceAdd,Nat.reduceMul,Nat.reduceLeDiff,Nat.reduceLT,Nat.reduceSub,Nat.reduceBEq,lD,Ev.pa,Ev.row,List.map_cons,List.map_nil]
 refine wO N (iC (by simp only [stB,reduceIte,reduceCtorEq,Nat.reduceEqDiff,Nat.reduceAdd,Nat.reduceMul,Nat.reduceLeDiff,Nat.reduceLT,Nat.reduceSub,Nat.reduceBEq]) (by repeat' (first | exact aQ.init | assumption | exact bq (by assumption) | (refine aQ.ap ?_ rfl))) (by simp only [stB,reduceIte,reduceCtorEq,Nat.reduceEqDiff,Nat.reduceAdd,Nat.reduceMul,Nat.reduceLeDiff,Nat.reduceLT,Nat.reduceSub,Nat.reduceBEq];exact hW.fr N (Nat.le_refl _))) (by simp only [stB,reduceIte,reduceCtorEq,Nat.reduceEqDiff,Nat.reduceAdd,Nat.reduceMul,Nat.reduceLeDiff,Nat.reduceLT,Nat.reduceSub,Nat.reduceBEq];rfl) (by simp only [stB,reduceIte,reduceCtorEq,Nat.reduceEqDiff,Nat.reduceAdd,Nat.reduceMul,Nat.reduceLeDiff,Nat.reduceLT,Nat.reduceSub,Nat.reduceBEq];rfl) ?_
 have hH1':up hp N (.cells [.d (dI e.g),.d (dI e.kind),.d (dI e.obj),.d (dI e.off),.d (dI e.k),.d (dI e.n),.d (dI e.fn),.d (dI e.pc),.d (dI e.stack)])=H1:=by rw [←hH1];rfl
 simp only [↓evP,evB,stB,reduceIte,reduceCtorEq,Nat.reduceEqDiff,Nat.reduceAdd,Nat.reduceMul,Nat.reduceLeDiff,Nat.reduceLT,Nat.reduceSub,Nat.reduceBEq];refine cZ H1 [uH bw 1] (by simp only [stB,reduceIte,reduceCtorEq,Nat.reduceEqDiff,Nat.reduceAdd,Nat.reduceMul,Nat.reduceLeDiff,Nat.reduceLT,Nat.reduceSub,Nat.reduceBEq,hH1'];exact ⟨bw,1,rfl,rfl,rfl⟩) ?_
 simp only [↓evP,evB,stB,reduceIte,reduceCtorEq,Nat.reduceEqDiff,Nat.reduceAdd,Nat.reduceMul,Nat.reduceLeDiff,Nat.reduceLT,Nat.reduceSub,Nat.reduceBEq,uH];refine cZ H1 [uH N 0] (by simp only [stB,reduceIte,reduceCtorEq,Nat.reduceEqDiff,Nat.reduceAdd,Nat.reduceMul,Nat.reduceLeDiff,Nat.reduceLT,Nat.reduceSub,Nat.reduceBEq];exact ⟨N,0,rfl,rfl,rfl⟩) ?_
 simp only [↓evP,evB,stB,reduceIte,reduceCtorEq,Nat.reduceEqDiff,Nat.reduceAdd,Nat.reduceMul,Nat.reduceLeDiff,Nat.reduceLT,Nat.reduceSub,Nat.reduceBEq,uH];obtain ⟨V,hV⟩:∃ V,List.zipWith (fun x y=>x - y) e.fl l.fl=V:=⟨_,rfl⟩
 have hVl:V.length=9:=by rw [←hV];simp [Ev.fl]
 have hevt:pX l e=V.flatMap dG:=by unfold pX;rw [hV]
 have hq:∀ (xs:List Int),(xs.flatMap dG).length≤9 * xs.length:=fun xs=>by
  induction xs with
  | nil=>exact Nat.le_refl _
  | cons x xs ih =>
    rw [List.flatMap_cons,List.length_append,List.length_cons];have:(dG x).length≤9:=bD _;omega
 refine dY msw30_0 osw30_0 (fun m st=>∃ i N2 x2,m=9 - i∧i≤9∧st.sl 13=aI (i:Int)∧WAt st.hb bw N2 l (bs ++ (V.take i).flatMap dG) x2∧kK H1 bw (N+1) x st.hb N2 x2) 9 (by repeat' (first | exact aQ.init | assumption | exact bq (by assumption) | (refine aQ.ap ?_ rfl))) ?_ ?_
 ·refine ⟨0,N+1,x,rfl,Nat.zero_le _,by simp only [stB,reduceIte,reduceCtorEq,Nat.reduceEqDiff,Nat.reduceAdd,Nat.reduceMul,Nat.reduceLeDiff,Nat.reduceLT,Nat.reduceSub,Nat.reduceBEq];first | done | rfl,?_,?_⟩
  ·simp only [stB,reduceIte,reduceCtorEq,Nat.reduceEqDiff,Nat.reduceAdd,Nat.reduceMul,Nat.reduceLeDiff,Nat.reduceLT,Nat.reduceSub,Nat.reduceBEq,List.flatMap_nil];exact hW1
  ·simp only [stB,reduceIte,reduceCtorEq,Nat.reduceEqDiff,Nat.reduceAdd,Nat.reduceMul,Nat.reduceLeDiff,Nat.reduceLT,Nat.reduceSub,Nat.reduceBEq];exact kK.refl _ _ _ _
 rintro m j hjn hja ⟨i,N2,x2,rfl,hi,h13,hW2,hS2⟩;simp only [stB,reduceIte,reduceCtorEq,Nat.reduceEqDiff,Nat.reduceAdd,Nat.reduceMul,Nat.reduceLeDiff,Nat.reduceLT,Nat.reduceSub,Nat.reduceBEq,hjn] at h13 hW2 hS2;obtain ⟨H2,hH2⟩:∃ H2,j.hb=H2:=⟨_,rfl⟩
 rw [hH2] at hW2 hS2
 have h2N:H2 N=.cells (e.row.map .d):=by
  rw [hS2.out N (by omega) (by omega) (fun q=>by have:=hxl N q;omega)];exact h1N
 have h2w:=hW2.h
 rcases Nat.lt_or_ge i 9 with hi9 | hi9
 ·obtain ⟨u,hu⟩:∃ u,e.fl[i]? = some u:=⟨_,List.getElem?_eq_getElem (by rw [Gg];omega)⟩
  obtain ⟨v,hv⟩:∃ v,l.fl[i]? = some v:=⟨_,List.getElem?_eq_getElem (by rw [Gg];omega)⟩
  have hub:=heg u (List.mem_of_getElem? hu);have hvb:=hlg v (List.mem_of_getElem? hv);have gu:e.row[i]? = some (dI u):=by rw [Gh,List.getElem?_map,hu];rfl
  have gv:l.row[i]? = some (dI v):=by rw [Gh,List.getElem?_map,hv];rfl
  have g1:=nine (f:=fun k=>Cl.hv (.p N k)) hi9;have g2:=nine (f:=fun k=>Cl.hv (.p bw (k+1))) hi9;simp only [Nat.reduceAdd] at g2;have hVx:V[i]? = some (u - v):=by rw [←hV,List.getElem?_zipWith,hu,hv]
  have hVs:(V.take (i+1)).flatMap dG=(V.take i).flatMap dG ++ dG (u - v):=by
   rw [take_at hVx,List.flatMap_append,List.flatMap_cons,List.flatMap_nil,List.append_nil]
  obtain ⟨B,hB⟩:∃ B,bs ++ (V.take i).flatMap dG=B:=⟨_,rfl⟩
  have hBl:B.length≤600000:=by
   rw [←hB,List.length_append];have:=hq (V.take i);rw [List.length_take] at this;omega
  rw [hB] at hW2;have lt4:(i:Int) < 9:=by omega
  have i0:(0:Int)≤(i:Int):=by omega
  have hl9:((9:Nat):Int)=9:=rfl;have w5:IntKind.i64.wrap (u - v)=u - v:=fE (by omega) (by omega);have w6:IntKind.i64.wrap ((i:Int)+1)=((i+1:Nat):Int):=by rw [fE (by omega) (by omega)];omega
  have hfin:∀ h3 N3 x3,WAt h3 bw N3 l (B ++ dG (u - v)) x3→WAt h3 bw N3 l (bs ++ (V.take (i+1)).flatMap dG) x3:=fun h3 N3 x3 h=>by
   rw [hVs,←List.append_assoc,hB];exact h
  simp only [↓evP,evB,stB,reduceIte,reduceCtorEq,Nat.reduceEqDiff,Nat.reduceAdd,Nat.reduceMul,Nat.reduceLeDiff,Nat.reduceLT,Nat.reduceSub,Nat.reduceBEq,h13,hjn,hH2,h2N,h2w,lt4,i0,hl9,Nat.mul_one,Nat.zero_add,g1,g2,gu,gv,w5,decide_true];refine ⟨(by unfold Drw;refine Eq.trans (b:=true) ?_ rfl;kernel_rfl),?_⟩
  by_cases hneg:u - v < 0
  ·have hdn:((lV (u - v):Nat):Int)=-2 * (u - v) - 1:=by unfold lV;rw [if_pos hneg];omega
   have w7:IntKind.i64.wrap (-2 * (u - v))=-2 * (u - v):=fE (by omega) (by omega);have w8:IntKind.i64.wrap (-2 * (u - v) - 1)=((lV (u - v):Nat):Int):=by rw [hdn];exact fE (by omega) (by omega)
   simp only [↓evP,evB,stB,reduceIte,reduceCtorEq,Nat.reduceEqDiff,Nat.reduceAdd,Nat.reduceMul,Nat.reduceLeDiff,Nat.reduceLT,Nat.reduceSub,Nat.reduceBEq,h13,hjn,hneg,w7,w8,decide_true];refine bK _ (by simp only [stB,reduceIte,reduceCtorEq,Nat.reduceEqDiff,Nat.reduceAdd,Nat.reduceMul,Nat.reduceLeDiff,Nat.reduceLT,Nat.reduceSub,Nat.reduceBEq,hjn,hH2];exact ⟨bw,N2,x2,l,B,lV (u - v),rfl,⟨hW2,by omega,by omega⟩,rfl⟩) ?_
   rintro h3 r ⟨rfl,N3,x3,hW3,hS3⟩;simp only [↓evP,evB,stB,reduceIte,reduceCtorEq,Nat.reduceEqDiff,Nat.reduceAdd,Nat.reduceMul,Nat.reduceLeDiff,Nat.reduceLT,Nat.reduceSub,Nat.reduceBEq,h13,hjn,w6]
   refine ⟨_,by omega,(by repeat' (first | assumption | exact bC (by assumption) | (refine aK ?_ rfl rfl) | (refine aD ?_ rfl) | (refine aK ?_ rfl aN) | (refine aD ?_ aN))),i+1,N3,x3,rfl,hi9,by simp only [stB,reduceIte,reduceCtorEq,Nat.reduceEqDiff,Nat.reduceAdd,Nat.reduceMul,Nat.reduceLeDiff,Nat.reduceLT,Nat.reduceSub,Nat.reduceBEq],?_,?_⟩
   ·simp only [stB,reduceIte,reduceCtorEq,Nat.reduceEqDiff,Nat.reduceAdd,Nat.reduceMul,Nat.reduceLeDiff,Nat.reduceLT,Nat.reduceSub,Nat.reduceBEq];exact hfin _ _ _ hW3
   ·simp only [stB,reduceIte,reduceCtorEq,Nat.reduceEqDiff,Nat.reduceAdd,Nat.reduceMul,Nat.reduceLeDiff,Nat.reduceLT,Nat.reduceSub,Nat.reduceBEq];exact hS2.trans hS3
  ·have hdn:((lV (u - v):Nat):Int)=2 * (u - v):=by unfold lV;rw [if_neg hneg];omega
   have w7:IntKind.i64.wrap (2 * (u - v))=((lV (u - v):Nat):Int):=by rw [hdn];exact fE (by omega) (by omega)
   simp only [↓evP,evB,stB,reduceIte,reduceCtorEq,Nat.reduceEqDiff,Nat.reduceAdd,Nat.reduceMul,Nat.reduceLeDiff,Nat.reduceLT,Nat.reduceSub,Nat.reduceBEq,h13,hjn,hneg,w7,decide_false];refine bK _ (by simp only [stB,reduceIte,reduceCtorEq,Nat.reduceEqDiff,Nat.reduceAdd,Nat.reduceMul,Nat.reduceLeDiff,Nat.reduceLT,Nat.reduceSub,Nat.reduceBEq,hjn,hH2];exact ⟨bw,N2,x2,l,B,lV (u - v),rfl,⟨hW2,by omega,by omega⟩,rfl⟩) ?_
   rintro h3 r ⟨rfl,N3,x3,hW3,hS3⟩;simp only [↓evP,evB,stB,reduceIte,reduceCtorEq,Nat.reduceEqDiff,Nat.reduceAdd,Nat.reduceMul,Nat.reduceLeDiff,Nat.reduceLT,Nat.reduceSub,Nat.reduceBEq,h13,hjn,w6]
   refine ⟨_,by omega,(by repeat' (first | assumption | exact bC (by assumption) | (refine aK ?_ rfl rfl) | (refine aD ?_ rfl) | (refine aK ?_ rfl aN) | (refine aD ?_ aN))),i+1,N3,x3,rfl,hi9,by simp only [stB,reduceIte,reduceCtorEq,Nat.reduceEqDiff,Nat.reduceAdd,Nat.reduceMul,Nat.reduceLeDiff,Nat.reduceLT,Nat.reduceSub,Nat.reduceBEq],?_,?_⟩
   ·simp only [stB,reduceIte,reduceCtorEq,Nat.reduceEqDiff,Nat.reduceAdd,Nat.reduceMul,Nat.reduceLeDiff,Nat.reduceLT,Nat.reduceSub,Nat.reduceBEq];exact hfin _ _ _ hW3
   ·simp only [stB,reduceIte,reduceCtorEq,Nat.reduceEqDiff,Nat.reduceAdd,Nat.reduceMul,Nat.reduceLeDiff,Nat.reduceLT,Nat.reduceSub,Nat.reduceBEq];exact hS2.trans hS3
 ·have hie:i=9:=by omega
  subst hie;have hVt:V.take 9=V:=List.take_of_length_le (by omega);rw [hVt,←hevt] at hW2;have lt4:((9:Int) < 9)=False:=by simp
  have hl9:((9:Nat):Int)=9:=rfl;have h2w:=hW2.h;simp only [Ev.row,List.map_cons,List.map_nil] at h2N h2w;have hcx:=Gx x2;simp only [↓evP,evB,stB,reduceIte,reduceCtorEq,Nat.reduceEqDiff,Nat.reduceAdd,Nat.reduceMul,Nat.reduceLeDiff,Nat.reduceLT,Nat.reduceSub,Nat.reduceBEq,h13,hjn,hH2,h2N,h2w,lt4,hl9,hcx,decide_false];refine ⟨up H2 bw (.cells (vC x2 :: e.row.map .d)),[],rfl,fun b=>.inl ?_,rfl,N2,x2,⟨kU,?_,hW2.ne,hW2.lt,fun b hb=>by rw [eH (by have:=hW2.lt;omega)];exact hW2.fr b hb⟩,?_⟩
  ·rw [ak];first | done | rfl
  ·have:=hW2.v
   cases x2 with
   | none=>exact this
   | some b=>exact ⟨by rw [eH (fun q=>hW2.ne (by rw [q]))];exact this.1,this.2⟩
  ·exact hS1.trans (hS2.trans ⟨Nat.le_refl _,fun b q=>.inl q,fun b _ q _=>eH q⟩)
theorem IY {m:Nat} (hm:m≤4294967295):IntKind.u32.wrap (((BitVec.ofInt IntKind.u32.bits (m:Int) &&& BitVec.ofInt IntKind.u32.bits 1).toNat:Nat):Int)=((m % 2:Nat):Int):=by
 have e:(BitVec.ofInt IntKind.u32.bits (m:Int) &&& BitVec.ofInt IntKind.u32.bits 1).toNat=m % 2:=by
  have h1:(BitVec.ofInt IntKind.u32.bits (1:Int)).toNat=1:=by decide
  rw [BitVec.toNat_and,h1,Nat.and_one_is_mod,BitVec.toNat_ofInt]
  have:((m:Int) % ((2 ^ IntKind.u32.bits:Nat):Int)).toNat=m:=by
   rw [show ((2 ^ IntKind.u32.bits:Nat):Int)=4294967296 from by decide];omega
  rw [this]
 rw [e];exact w32 (by omega)
theorem fd1 (n:Nat):Int.fdiv (n:Int) (2 ^ (min (Int.toNat 1) IntKind.u32.bits))=((n / 2:Nat):Int):=by
 show Int.fdiv (n:Int) 2=_
 rw [Int.fdiv_eq_ediv_of_nonneg _ (by decide)];omega
theorem DU (l:List Nat):(byR l).flatten=l.map fun (x:Nat)=>Dt.sc (.int .u8 (x:Int)):=by
 induction l with
 | nil=>rfl
 | cons x l ih=>show _ :: (byR l).flatten=_;rw [ih];rfl
theorem AZ {l:List Nat} {i x:Nat} (h:l[i]? = some x):(byR l).flatten[i]? = some (.sc (.int .u8 (x:Int))):=by
 rw [DU,List.getElem?_map,h];rfl
abbrev hU (n:Nat):Hc:=.d (.sc (.int .u32 (n:Int)))
def Jr (ps rs:List Pa):Prop:=∃ l:List Nat,ps=[dM l]∧(l.length≤1000000∧∀ x ∈ l,x≤255)∧rs=[.one (.sc (.int .u32 (crc l:Int)))]
def Jq (hp:Nat→Hb) (az:List Hw) (hp':Nat→Hb) (rs:List Hw):Prop:=∃ (b o cap:Nat) (B l:List Nat),az=[.one (.h (.s b o l.length cap))]∧(hp b=.vec 5 1 (byR B)∧l=B.drop o∧l.length≤1000000∧∀ x ∈ l,x≤255)∧hp'=hp∧rs=[.one (hU (crc l))]
theorem Ko:Spec Try.prog 56 Jr:=by
 refine sp56 ay.e0 ?_;rintro ps rs ⟨l,rfl,⟨hl,hb⟩,rfl⟩;refine ⟨by simp,?_⟩;unfold pc56
 with_reducible refine aH ?_
 have hbl:=aY l;simp only [↓evP,evB,stB,reduceIte,reduceCtorEq,Nat.reduceEqDiff,Nat.reduceAdd,Nat.reduceMul,Nat.reduceLeDiff,Nat.reduceLT,Nat.reduceSub,Nat.reduceBEq,dM,hbl];refine bH ms56_0 os56_0 (fun m st=>∃ k:Nat,m=l.length - k∧k≤l.length∧st.sl 9=aI k∧st.sl 3=aU (jS 4294967295 (l.take k))) l.length ?_ ?_
 ·exact ⟨0,rfl,Nat.zero_le _,by simp only [stB,reduceIte,reduceCtorEq,Nat.reduceEqDiff,Nat.reduceAdd,Nat.reduceMul,Nat.reduceLeDiff,Nat.reduceLT,Nat.reduceSub,Nat.reduceBEq];first | done | rfl,by simp only [stB,reduceIte,reduceCtorEq,Nat.reduceEqDiff,Nat.reduceAdd,Nat.reduceMul,Nat.reduceLeDiff,Nat.reduceLT,Nat.reduceSub,Nat.reduceBEq];first | done | rfl⟩
 rintro m z ⟨k,rfl,hk,h4,h3⟩;simp only [stB,reduceIte,reduceCtorEq,Nat.reduceEqDiff,Nat.reduceAdd,Nat.reduceMul,Nat.reduceLeDiff,Nat.reduceLT,Nat.reduceSub,Nat.reduceBEq] at h4 h3;have hc0:jS 4294967295 (l.take k)≤4294967295:=uf (by decide) fun x hx=>hb x (List.mem_of_mem_take hx)
 rcases Nat.lt_or_ge k l.length with hlt | hge
 ·obtain ⟨x,hx⟩:∃ x,l[k]? = some x:=⟨_,List.getElem?_eq_getElem hlt⟩
  have hx8:=hb x (List.mem_of_getElem? hx);have hgx:=Ad hx;have klt:(k:Int) < (l.length:Int):=by omega
  have k0:(0:Int)≤(k:Int):=by omega
  have wx:IntKind.u32.wrap (x:Int)=(x:Int):=w32 (by omega);have wc:=x32 hc0 (show x≤4294967295 by omega)
  have hsu:jS 4294967295 (l.take (k+1))=mD (jS 4294967295 (l.take k) ^^^ x) 8:=by
   rw [List.take_add_one,hx,qL];rfl
  have hc1:=ru hc0 (show x≤4294967295 by omega);generalize jS 4294967295 (l.take k)=c at *;simp only [↓evP,evB,stB,reduceIte,reduceCtorEq,Nat.reduceEqDiff,Nat.reduceAdd,Nat.reduceMul,Nat.reduceLeDiff,Nat.reduceLT,Nat.reduceSub,Nat.reduceBEq,h4,h3,hbl,klt,k0,hgx,wx,wc,Nat.mul_one,decide_true];obtain ⟨d,hd⟩:∃ d,c ^^^ x=d:=⟨_,rfl⟩
  rw [hd] at hsu hc1;rw [hd];refine bH ms56_1 os56_1 (fun m st=>∃ i:Nat,m=8 - i∧i≤8∧st.sl 17=aI i∧st.sl 3=aU (mD d i)) 8 ?_ ?_
  ·exact ⟨0,rfl,Nat.zero_le _,by simp only [stB,reduceIte,reduceCtorEq,Nat.reduceEqDiff,Nat.reduceAdd,Nat.reduceMul,Nat.reduceLeDiff,Nat.reduceLT,Nat.reduceSub,Nat.reduceBEq];first | done | rfl,by simp only [stB,reduceIte,reduceCtorEq,Nat.reduceEqDiff,Nat.reduceAdd,Nat.reduceMul,Nat.reduceLeDiff,Nat.reduceLT,Nat.reduceSub,Nat.reduceBEq];first | done | rfl⟩
  rintro m2 z2 ⟨i,rfl,hi,h5,h3'⟩;simp only [stB,reduceIte,reduceCtorEq,Nat.reduceEqDiff,Nat.reduceAdd,Nat.reduceMul,Nat.reduceLeDiff,Nat.reduceLT,Nat.reduceSub,Nat.reduceBEq] at h5 h3'
  rcases Nat.lt_or_ge i 8 with hi8 | hi8
  ·have hcb:=nP hc1 i;have hcs:mD d (i+1)=xZ (mD d i):=rfl;generalize mD d i=b' at *;have ilt:(i:Int) < 8:=by omega
   have t1:=IY hcb;have t3:=fd1 b';have n1:¬ ((1:Int) < 0):=by decide
   have t4:=x32 (m:=b' / 2) (n:=3988292384) (by omega) (by decide);unfold xZ at hcs
   by_cases hb1:b' % 2=1
   ·have e1:(((b' % 2:Nat):Int) == 1)=true:=by rw [hb1];rfl
    rw [if_pos hb1] at hcs;simp only [↓evP,evB,stB,reduceIte,reduceCtorEq,Nat.reduceEqDiff,Nat.reduceAdd,Nat.reduceMul,Nat.reduceLeDiff,Nat.reduceLT,Nat.reduceSub,Nat.reduceBEq,h4,h3,h5,h3',ilt,n1,t1,t3,e1,decide_true];rw [show (3988292384:Int)=((3988292384:Nat):Int) from rfl,t4]
    exact ⟨_,by omega,(by repeat' (first | assumption | exact aP.mpr trivial | exact Within.refl _ _ _ | (refine aT ?_ rfl rfl) | (refine aO ?_ rfl))),i+1,rfl,hi8,by simp only [stB,reduceIte,reduceCtorEq,Nat.reduceEqDiff,Nat.reduceAdd,Nat.reduceMul,Nat.reduceLeDiff,Nat.reduceLT,Nat.reduceSub,Nat.reduceBEq,h5];rw [wrN (by omega)],by simp only [stB,reduceIte,reduceCtorEq,Nat.reduceEqDiff,Nat.reduceAdd,Nat.reduceMul,Nat.reduceLeDiff,Nat.reduceLT,Nat.reduceSub,Nat.reduceBEq];rw [hcs]⟩
   ·have e1:(((b' % 2:Nat):Int) == 1)=false:=by
     rw [beq_eq_false_iff_ne];omega
    rw [if_neg hb1] at hcs;simp only [↓evP,evB,stB,reduceIte,reduceCtorEq,Nat.reduceEqDiff,Nat.reduceAdd,Nat.reduceMul,Nat.reduceLeDiff,Nat.reduceLT,Nat.reduceSub,Nat.reduceBEq,h4,h3,h5,h3',ilt,n1,t1,t3,e1,decide_true]
    exact ⟨_,by omega,(by repeat' (first | assumption | exact aP.mpr trivial | exact Within.refl _ _ _ | (refine aT ?_ rfl rfl) | (refine aO ?_ rfl))),i+1,rfl,hi8,by simp only [stB,reduceIte,reduceCtorEq,Nat.reduceEqDiff,Nat.reduceAdd,Nat.reduceMul,Nat.reduceLeDiff,Nat.reduceLT,Nat.reduceSub,Nat.reduceBEq,h5];rw [wrN (by omega)],by simp only [stB,reduceIte,reduceCtorEq,Nat.reduceEqDiff,Nat.reduceAdd,Nat.reduceMul,Nat.reduceLeDiff,Nat.reduceLT,Nat.reduceSub,Nat.reduceBEq];rw [hcs]⟩
  ·have hie:i=8:=by omega
   subst hie;have ilt:¬ ((8:Nat):Int) < 8:=by omega
   simp only [↓evP,evB,stB,reduceIte,reduceCtorEq,Nat.reduceEqDiff,Nat.reduceAdd,Nat.reduceMul,Nat.reduceLeDiff,Nat.reduceLT,Nat.reduceSub,Nat.reduceBEq,h4,h3,h5,h3',ilt,decide_false]
   exact ⟨_,by omega,(by repeat' (first | assumption | exact aP.mpr trivial | exact Within.refl _ _ _ | (refine aT ?_ rfl rfl) | (refine aO ?_ rfl) | (refine fT ?_ rfl rfl))),k+1,rfl,hlt,by simp only [stB,reduceIte,reduceCtorEq,Nat.reduceEqDiff,Nat.reduceAdd,Nat.reduceMul,Nat.reduceLeDiff,Nat.reduceLT,Nat.reduceSub,Nat.reduceBEq,h4];rw [wrN (by omega)],by simp only [stB,reduceIte,reduceCtorEq,Nat.reduceEqDiff,Nat.reduceAdd,Nat.reduceMul,Nat.reduceLeDiff,Nat.reduceLT,Nat.reduceSub,Nat.reduceBEq,h3'];rw [hsu]⟩
 ·have hke:k=l.length:=by omega
  have klt:¬ (k:Int) < (l.length:Int):=by omega
  rw [hke,List.take_length] at h3 hc0;have wc:=x32 (m:=4294967295) (by decide) hc0;have hcr:4294967295 ^^^ jS 4294967295 l=crc l:=Nat.xor_comm _ _;rw [hcr] at wc;have hmx:(IntKind.u32.max:Int)=((4294967295:Nat):Int):=rfl;have hsg:IntKind.u32.signed=false:=rfl;simp only [↓evP,evB,stB,reduceIte,reduceCtorEq,Nat.reduceEqDiff,Nat.reduceAdd,Nat.reduceMul,Nat.reduceLeDiff,Nat.reduceLT,Nat.reduceSub,Nat.reduceBEq,h4,h3,hbl,klt,hsg,hmx,wc,pr56,Bool.false_eq_true,decide_false]
  first | done | rfl
theorem J9:fB Try.prog 56 Jq:=by
 refine spw56 ay.e0 ?_;rintro hp az hp' rs ⟨b,o,cap,B,l,rfl,⟨hB,hlB,hl,hb⟩,rfl,rfl⟩;refine ⟨by simp,fun _=>1,?_⟩;unfold pcw56
 with_reducible refine aH ?_
 have hbl:=aY l;simp only [↓evP,evB,stB,reduceIte,reduceCtorEq,Nat.reduceEqDiff,Nat.reduceAdd,Nat.reduceMul,Nat.reduceLeDiff,Nat.reduceLT,Nat.reduceSub,Nat.reduceBEq,hbl];refine dY msw56_0 osw56_0 (fun m st=>∃ k:Nat,m=l.length - k∧k≤l.length∧st.sl 9=aI k∧st.sl 3=aU (jS 4294967295 (l.take k))∧st.hb=hp') l.length (by repeat' (first | exact aQ.init | assumption | exact bq (by assumption) | (refine aQ.ap ?_ rfl))) ?_ ?_
 ·exact ⟨0,rfl,Nat.zero_le _,by simp only [stB,reduceIte,reduceCtorEq,Nat.reduceEqDiff,Nat.reduceAdd,Nat.reduceMul,Nat.reduceLeDiff,Nat.reduceLT,Nat.reduceSub,Nat.reduceBEq];first | done | rfl,by simp only [stB,reduceIte,reduceCtorEq,Nat.reduceEqDiff,Nat.reduceAdd,Nat.reduceMul,Nat.reduceLeDiff,Nat.reduceLT,Nat.reduceSub,Nat.reduceBEq];first | done | rfl,by simp only [stB,reduceIte,reduceCtorEq,Nat.reduceEqDiff,Nat.reduceAdd,Nat.reduceMul,Nat.reduceLeDiff,Nat.reduceLT,Nat.reduceSub,Nat.reduceBEq];first | done | rfl⟩
 rintro m z hjn hja ⟨k,rfl,hk,h4,h3,hh⟩;simp only [stB,reduceIte,reduceCtorEq,Nat.reduceEqDiff,Nat.reduceAdd,Nat.reduceMul,Nat.reduceLeDiff,Nat.reduceLT,Nat.reduceSub,Nat.reduceBEq,hjn] at h4 h3 hh;have hc0:jS 4294967295 (l.take k)≤4294967295:=uf (by decide) fun x hx=>hb x (List.mem_of_mem_take hx)
 rcases Nat.lt_or_ge k l.length with hlt | hge
 ·obtain ⟨x,hx⟩:∃ x,l[k]? = some x:=⟨_,List.getElem?_eq_getElem hlt⟩
  have hx8:=hb x (List.mem_of_getElem? hx);have hgx:=AZ (show B[o+k]? = some x by rw [hlB,List.getElem?_drop] at hx;exact hx)
  have klt:(k:Int) < (l.length:Int):=by omega
  have k0:(0:Int)≤(k:Int):=by omega
  have wx:IntKind.u32.wrap (x:Int)=(x:Int):=w32 (by omega);have wc:=x32 hc0 (show x≤4294967295 by omega)
  have hsu:jS 4294967295 (l.take (k+1))=mD (jS 4294967295 (l.take k) ^^^ x) 8:=by
   rw [List.take_add_one,hx,qL];rfl
  have hc1:=ru hc0 (show x≤4294967295 by omega);generalize jS 4294967295 (l.take k)=c at *;simp only [↓evP,evB,stB,reduceIte,reduceCtorEq,Nat.reduceEqDiff,Nat.reduceAdd,Nat.reduceMul,Nat.reduceLeDiff,Nat.reduceLT,Nat.reduceSub,Nat.reduceBEq,h4,h3,hjn,hh,hB,hbl,klt,k0,hgx,wx,wc,Nat.mul_one,decide_true];obtain ⟨d,hd⟩:∃ d,c ^^^ x=d:=⟨_,rfl⟩
  rw [hd] at hsu hc1;rw [hd];refine dY msw56_1 osw56_1 (fun m st=>∃ i:Nat,m=8 - i∧i≤8∧st.sl 17=aI i∧st.sl 3=aU (mD d i)∧st.hb=hp') 8 (by repeat' (first | exact aQ.init | assumption | exact bq (by assumption) | (refine aQ.ap ?_ rfl))) ?_ ?_
  ·exact ⟨0,rfl,Nat.zero_le _,by simp only [stB,reduceIte,reduceCtorEq,Nat.reduceEqDiff,Nat.reduceAdd,Nat.reduceMul,Nat.reduceLeDiff,Nat.reduceLT,Nat.reduceSub,Nat.reduceBEq];first | done | rfl,by simp only [stB,reduceIte,reduceCtorEq,Nat.reduceEqDiff,Nat.reduceAdd,Nat.reduceMul,Nat.reduceLeDiff,Nat.reduceLT,Nat.reduceSub,Nat.reduceBEq];first | done | rfl,by simp only [stB,reduceIte,reduceCtorEq,Nat.reduceEqDiff,Nat.reduceAdd,Nat.reduceMul,Nat.reduceLeDiff,Nat.reduceLT,Nat.reduceSub,Nat.reduceBEq,hjn,hh];first | done | rfl⟩
  rintro m2 z2 hjn2 hja2 ⟨i,rfl,hi,h5,h3',hh2⟩;simp only [stB,reduceIte,reduceCtorEq,Nat.reduceEqDiff,Nat.reduceAdd,Nat.reduceMul,Nat.reduceLeDiff,Nat.reduceLT,Nat.reduceSub,Nat.reduceBEq,hjn,hjn2] at h5 h3' hh2
  rcases Nat.lt_or_ge i 8 with hi8 | hi8
  ·have hcb:=nP hc1 i;have hcs:mD d (i+1)=xZ (mD d i):=rfl;generalize mD d i=b' at *;have ilt:(i:Int) < 8:=by omega
   have t1:=IY hcb;have t3:=fd1 b';have n1:¬ ((1:Int) < 0):=by decide
   have t4:=x32 (m:=b' / 2) (n:=3988292384) (by omega) (by decide);unfold xZ at hcs
   by_cases hb1:b' % 2=1
   ·have e1:(((b' % 2:Nat):Int) == 1)=true:=by rw [hb1];rfl
    rw [if_pos hb1] at hcs;simp only [↓evP,evB,stB,reduceIte,reduceCtorEq,Nat.reduceEqDiff,Nat.reduceAdd,Nat.reduceMul,Nat.reduceLeDiff,Nat.reduceLT,Nat.reduceSub,Nat.reduceBEq,h4,h3,h5,h3',hjn,hjn2,hh2,ilt,n1,t1,t3,e1,decide_true];rw [show (3988292384:Int)=((3988292384:Nat):Int) from rfl,t4]
    exact ⟨_,by omega,(by repeat' (first | assumption | exact bC (by assumption) | (refine aK ?_ rfl rfl) | (refine aD ?_ rfl) | (refine aK ?_ rfl aN) | (refine aD ?_ aN))),i+1,rfl,hi8,by simp only [stB,reduceIte,reduceCtorEq,Nat.reduceEqDiff,Nat.reduceAdd,Nat.reduceMul,Nat.reduceLeDiff,Nat.reduceLT,Nat.reduceSub,Nat.reduceBEq,h5];rw [wrN (by omega)],by simp only [stB,reduceIte,reduceCtorEq,Nat.reduceEqDiff,Nat.reduceAdd,Nat.reduceMul,Nat.reduceLeDiff,Nat.reduceLT,Nat.reduceSub,Nat.reduceBEq];rw [hcs],by simp only [stB,reduceIte,reduceCtorEq,Nat.reduceEqDiff,Nat.reduceAdd,Nat.reduceMul,Nat.reduceLeDiff,Nat.reduceLT,Nat.reduceSub,Nat.reduceBEq,hjn,hjn2,hh2];first | done | rfl⟩
   ·have e1:(((b' % 2:Nat):Int) == 1)=false:=by
     rw [beq_eq_false_iff_ne];omega
    rw [if_neg hb1] at hcs;simp only [↓evP,evB,stB,reduceIte,reduceCtorEq,Nat.reduceEqDiff,Nat.reduceAdd,Nat.reduceMul,Nat.reduceLeDiff,Nat.reduceLT,Nat.reduceSub,Nat.reduceBEq,h4,h3,h5,h3',hjn,hjn2,hh2,ilt,n1,t1,t3,e1,decide_true]
    exact ⟨_,by omega,(by repeat' (first | assumption | exact bC (by assumption) | (refine aK ?_ rfl rfl) | (refine aD ?_ rfl) | (refine aK ?_ rfl aN) | (refine aD ?_ aN))),i+1,rfl,hi8,by simp only [stB,reduceIte,reduceCtorEq,Nat.reduceEqDiff,Nat.reduceAdd,Nat.reduceMul,Nat.reduceLeDiff,Nat.reduceLT,Nat.reduceSub,Nat.reduceBEq,h5];rw [wrN (by omega)],by simp only [stB,reduceIte,reduceCtorEq,Nat.reduceEqDiff,Nat.reduceAdd,Nat.reduceMul,Nat.reduceLeDiff,Nat.reduceLT,Nat.reduceSub,Nat.reduceBEq];rw [hcs],by simp only [stB,reduceIte,reduceCtorEq,Nat.reduceEqDiff,Nat.reduceAdd,Nat.reduceMul,Nat.reduceLeDiff,Nat.reduceLT,Nat.reduceSub,Nat.reduceBEq,hjn,hjn2,hh2];first | done | rfl⟩
  ·have hie:i=8:=by omega
   subst hie;have ilt:¬ ((8:Nat):Int) < 8:=by omega
   simp only [↓evP,evB,stB,reduceIte,reduceCtorEq,Nat.reduceEqDiff,Nat.reduceAdd,Nat.reduceMul,Nat.reduceLeDiff,Nat.reduceLT,Nat.reduceSub,Nat.reduceBEq,h4,h3,h5,h3',hjn,hjn2,hh2,ilt,decide_false]
   exact ⟨_,by omega,(by repeat' (first | assumption | exact bC (by assumption) | (refine aK ?_ rfl rfl) | (refine aD ?_ rfl) | (refine aK ?_ rfl aN) | (refine aD ?_ aN) | (refine bY.in' ?_ (bC (by assumption)) rfl rfl))),k+1,rfl,hlt,by simp only [stB,reduceIte,reduceCtorEq,Nat.reduceEqDiff,Nat.reduceAdd,Nat.reduceMul,Nat.reduceLeDiff,Nat.reduceLT,Nat.reduceSub,Nat.reduceBEq,h4];rw [wrN (by omega)],by simp only [stB,reduceIte,reduceCtorEq,Nat.reduceEqDiff,Nat.reduceAdd,Nat.reduceMul,Nat.reduceLeDiff,Nat.reduceLT,Nat.reduceSub,Nat.reduceBEq,h3'];rw [hsu],by simp only [stB,reduceIte,reduceCtorEq,Nat.reduceEqDiff,Nat.reduceAdd,Nat.reduceMul,Nat.reduceLeDiff,Nat.reduceLT,Nat.reduceSub,Nat.reduceBEq,hjn,hjn2,hh2];first | done | rfl⟩
 ·have hke:k=l.length:=by omega
  have klt:¬ (k:Int) < (l.length:Int):=by omega
  rw [hke,List.take_length] at h3 hc0;have wc:=x32 (m:=4294967295) (by decide) hc0;have hcr:4294967295 ^^^ jS 4294967295 l=crc l:=Nat.xor_comm _ _;rw [hcr] at wc;have hmx:(IntKind.u32.max:Int)=((4294967295:Nat):Int):=rfl;have hsg:IntKind.u32.signed=false:=rfl;simp only [↓evP,evB,stB,reduceIte,reduceCtorEq,Nat.reduceEqDiff,Nat.reduceAdd,Nat.reduceMul,Nat.reduceLeDiff,Nat.reduceLT,Nat.reduceSub,Nat.reduceBEq,h4,h3,hjn,hh,hbl,klt,hsg,hmx,wc,prw56,Bool.false_eq_true,decide_false]
  first | done | exact ⟨rfl,rfl⟩ | rfl
theorem Spec.toH [I:bN] {P:Program} {f:Nat} {R:List Pa→List Pa→Prop} (h:Spec P f R):fB P f (fun hp az hp' rs=>∃ ps rs',az=ps.map lD∧R ps rs'∧hp'=hp∧rs=rs'.map lD):=by
 rintro hp az hp' rs ⟨ps,rs',rfl,hR,rfl,rfl⟩ W w vals hI hrp hvals;have hw:I.p w:=hI w ⟨rfl,rfl,rfl,Nat.le_refl _,fun _ _ _=>rfl⟩;refine Calls.mono (h ps rs' hR W.S w vals hw (Dz.1 hvals)) ?_;rintro e w' ⟨v,S',rfl,hrr,hb,hS⟩;have hext:Ext W.S S' w w':=kX (fp:=fun _=>False) ⟨hb.os,hb.tape,hb.output,hb.size,fun k hk _=>hb.block k hk⟩ (fun _ q=>q.elim) hS
 have hfol:Fol W G0 O0 w { W with S:=S' } G0 O0 w':=⟨hext,fun _=>Nat.le_refl _,fun _ _=>rfl,fun o E sz k _ ho=>⟨k,ho,Nat.le_refl _,fun _=>rfl⟩,fun _ _=>rfl,fun _ h=>⟨h,rfl,rfl⟩,rfl⟩
 refine ⟨v,{ W with S:=S' },rfl,LJ.2 hrr,⟨hrp.lv,fun b k hk=>?_,fun b=>?_,hrp.ex⟩,fun b hl=>⟨hl,rfl,rfl⟩,⟨hb.os,hb.tape,hb.output,hb.size,fun k hk _=>hb.block k hk⟩,fun k hk=>.inl hk,hS⟩
 ·obtain ⟨q1,q2⟩:=hrp.mine b k hk;exact ⟨(hS k q2).trans q1,Nat.lt_of_lt_of_le q2 hb.size⟩
 ·exact RH.fol hfol (hrp.at_ b) (fun hn=>(hrp.lv b).2 hn) rfl (fun k hk=>hb.block k (hrp.mine b k hk).2)
theorem fB.or [I:bN] {P:Program} {f:Nat} {R R':(Nat→Hb)→List Hw→(Nat→Hb)→List Hw→Prop} (h:fB P f R) (h':fB P f R'):fB P f (fun hp az hp' rs=>R hp az hp' rs∨R' hp az hp' rs) :=
 fun hp az hp' rs hr=>hr.elim (h hp az hp' rs) (h' hp az hp' rs)
def IQ (hp:Nat→Hb) (l:List Nat) (c:Hc):Prop:=(∃ (b o cap:Nat) (B:List Nat),c=.h (.s b o l.length cap)∧hp b=.vec 5 1 (byR B)∧l=B.drop o)∨c=.d (.im (byR l))
def FQ (hp:Nat→Hb) (az:List Hw) (hp':Nat→Hb) (rs:List Hw):Prop:=∃ (c:Hc) (l:List Nat),az=[.one c]∧(IQ hp l c∧l.length≤1000000∧∀ x ∈ l,x≤255)∧hp'=hp∧rs=[.one (hU (crc l))]
theorem J8:fB Try.prog 56 FQ:=by
 rintro hp az hp' rs ⟨c,l,rfl,⟨hc,hl,hb⟩,rfl,rfl⟩
 rcases hc with ⟨b,o,cap,B,rfl,h1,h2⟩ | rfl
 ·exact J9 _ _ _ _ ⟨b,o,cap,B,l,rfl,⟨h1,h2,hl,hb⟩,rfl,rfl⟩
 ·exact (Spec.toH Ko) _ _ _ _ ⟨[dM l],_,rfl,⟨l,rfl,⟨hl,hb⟩,rfl⟩,rfl,rfl⟩
def zC (hp:Nat→Hb) (az:List Hw) (hp':Nat→Hb) (rs:List Hw):Prop:=∃ (x:Option Nat) (N:Nat) (bs l:List Nat) (c:Hc),az=[bHw x,.one c]∧(mW hp N bs x∧lN hp N∧bs.length≤990000∧IQ hp l c∧l.length≤1000000∧∀ x ∈ l,x≤255)∧hp'=iR hp x N 1 (bs ++ Gt l)∧rs=[bHw (some N)]
theorem IQ.hc {hp:Nat→Hb} {l:List Nat} {c:Hc} (h:IQ hp l c):c.cl.hc=some c:=by
 rcases h with ⟨b,o,cap,B,rfl,_⟩ | rfl <;> rfl
theorem J7:fB Try.prog 46 zC:=by
 refine spw46 (show ay Try.prog (h1 56 FQ e0) from ay.h1 J8 ay.e0) ?_;rintro hp az hp' rs ⟨x,N,bs,l,c,rfl,⟨hv,hN,hbl,hc,hl,hb⟩,rfl,rfl⟩;refine ⟨by simp,fun _=>22,?_⟩;have hcc:=hc.hc;have n1:¬ ((24:Int) < 0):=by decide
 have n2:¬ ((16:Int) < 0):=by decide
 have n3:¬ ((8:Int) < 0):=by decide
 unfold pcw46
 with_reducible refine aH ?_
 simp only [↓evP,evB,stB,reduceIte,reduceCtorEq,Nat.reduceEqDiff,Nat.reduceAdd,Nat.reduceMul,Nat.reduceLeDiff,Nat.reduceLT,Nat.reduceSub,Nat.reduceBEq,bHw,hcc];refine cZ hp [.one (hU (crc l))] (by simp only [stB,reduceIte,reduceCtorEq,Nat.reduceEqDiff,Nat.reduceAdd,Nat.reduceMul,Nat.reduceLeDiff,Nat.reduceLT,Nat.reduceSub,Nat.reduceBEq,hcc];exact ⟨c,l,rfl,⟨hc,hl,hb⟩,rfl,rfl⟩) ?_
 simp only [↓evP,evB,stB,reduceIte,reduceCtorEq,Nat.reduceEqDiff,Nat.reduceAdd,Nat.reduceMul,Nat.reduceLeDiff,Nat.reduceLT,Nat.reduceSub,Nat.reduceBEq,n1,n2,n3,LG,LD,fd8,w8m]
 refine DC (hp:=hp) (x:=x) (N:=N) (j:=0) (bs:=bs) (news:=Gt l) (c:=22) (by simp only [stB,reduceIte,reduceCtorEq,Nat.reduceEqDiff,Nat.reduceAdd,Nat.reduceMul,Nat.reduceLeDiff,Nat.reduceLT,Nat.reduceSub,Nat.reduceBEq];rfl) (by simp only [stB,reduceIte,reduceCtorEq,Nat.reduceEqDiff,Nat.reduceAdd,Nat.reduceMul,Nat.reduceLeDiff,Nat.reduceLT,Nat.reduceSub,Nat.reduceBEq];rfl) (fun _=>hv) (iQ hv) hN (by simp only [stB,reduceIte,reduceCtorEq,Nat.reduceEqDiff,Nat.reduceAdd,Nat.reduceMul,Nat.reduceLeDiff,Nat.reduceLT,Nat.reduceSub,Nat.reduceBEq]) (fun b _=>by simp only [stB,reduceIte,reduceCtorEq,Nat.reduceEqDiff,Nat.reduceAdd,Nat.reduceMul,Nat.reduceLeDiff,Nat.reduceLT,Nat.reduceSub,Nat.reduceBEq]) (fun _ _=>rfl) (kH (by simp only [stB,reduceIte,reduceCtorEq,Nat.reduceEqDiff,Nat.reduceAdd,Nat.reduceMul,Nat.reduceLeDiff,Nat.reduceLT,Nat.reduceSub,Nat.reduceBEq];rfl)) (by show bs.length+4≤_;omega) (by repeat' (first | exact aQ.init | assumption | exact bq (by assumption) | (refine aQ.ap ?_ rfl))) (fun L hL=>?_)
 simp only [↓evP,evB,stB,reduceIte,reduceCtorEq,Nat.reduceEqDiff,Nat.reduceAdd,Nat.reduceMul,Nat.reduceLeDiff,Nat.reduceLT,Nat.reduceSub,Nat.reduceBEq,prw46];exact ⟨rfl,hL⟩
theorem Lx {env:Env} {KD:St→Ft→Prop} {acc:Ft} {rd:List Rg} {is:List PI} {s:St} {d:Nat} {c c0:Nat} {X Y:PX} {hp:Nat→Hb} {x:Option Nat} {N j:Nat} {bs news:List Nat}
 (hX:s.cl X=(vC (lK x N j)).cl) (hb:s.hb=iR hp x N j bs) (hx:j=0→mW hp N bs x) (hxl:∀ b,x=some b→b < N) (hf:lN hp N) (hn1:s.nc (N+j)=c) (hn2:∀ b,lK x N j=some b→s.nc b=c) (hc:x=none→j=0→c0=c) (hY:s.jg Y=some (byR news)) (hl:bs.length+news.length≤1000000) (ha:aQ s)
 (k:∀ l:List (Nat×Hb),(s.ap (some d) (.b (.one (.hv (.v (N+j))))) (.hw (HBS+c) l)).hb=iR hp x N (j+1) (bs ++ news)→bL env is (s.ap (some d) (.b (.one (.hv (.v (N+j))))) (.hw (HBS+c) l)) ((rd,[(HBS+c,0,big)]) :: acc) KD):Hq env KD is s (some d) acc c0 rd (.app 5 1 1 X Y):=by
 have hna:=eB news;have hnl:=aY news;have hbl:=aY bs;have hfree:s.hb (N+j)=.no:=by rw [hb];exact iG hxl hf _ (Nat.le_refl _)
 rcases I5 hX with ⟨h1,h2⟩ | ⟨b,h1,h2⟩
 ·-- a nil slice
  have hj:j=0:=by
   cases j with
   | zero=>rfl
   | succ j=>cases h1
  subst hj;have hx0:x=none:=h1;subst hx0;have hbs:bs=[]:=hx rfl;subst hbs;refine y7 (N+0) (iC (by rw [hn1,hc rfl rfl]) ha hfree) h2 hY ⟨by rw [hna];trivial,by rw [hnl];simpa using hl,by omega⟩ ?_
  rw [hc rfl rfl];refine k _ ?_;rw [jY (by rintro p hp;rw [List.mem_singleton.1 hp];exact hn1)]
  funext m
  rw [jV,hb]
  show _=(if m=N+0 then Hb.vec 5 1 (byR ([] ++ news)) else if (none:Option Nat)=some m∨(N≤m∧m < N+0) then Hb.dead else hp m)
  rw [List.nil_append]
  by_cases hm:m=N+0
  ·rw [if_pos hm,if_pos hm]
  ·rw [if_neg hm,if_neg hm,if_neg (by rintro (h | h);cases h;omega)];rfl
 ·have hvec:s.hb b=.vec 5 1 (byR bs):=by
   rw [hb]
   cases j with
   | zero =>
     have hxb:x=some b:=h1;have:=hx rfl;rw [hxb] at this;exact this.1
   | succ j =>
     have:N+j=b:=by simpa [lK] using h1
     rw [←this];exact gZ
  refine BO (N+j) (iC (by rw [hn1,hn2 b h1]) ha hfree) h2 hvec hY ⟨by rw [hna];trivial,by rw [hbl,hnl];exact hl,by omega⟩ ?_
  rw [hn2 b h1];refine k _ ?_
  rw [jY (by rintro p hp;rcases List.mem_cons.1 hp with rfl | hp;exact hn2 b h1;rw [List.mem_singleton.1 hp];exact hn1)]
  funext m
  rw [AR,hb,fA]
  show _=(if m=N+j then Hb.vec 5 1 (byR (bs ++ news)) else if x=some m∨(N≤m∧m < N+j) then Hb.dead else hp m)
  by_cases hm:m=N+j
  ·rw [if_pos hm,if_pos hm]
  ·rw [if_neg hm,if_neg hm]
   cases j with
   | zero =>
     have hxb:x=some b:=h1
     by_cases hmb:m=b
     ·rw [if_pos hmb,if_pos (.inl (by rw [hxb,hmb]))]
     ·rw [if_neg hmb,if_neg (by rintro (h | h);rw [hxb] at h;exact hmb (by cases h;rfl);omega)];rfl
   | succ j =>
     have hbb:N+j=b:=by simpa [lK] using h1
     by_cases hmb:m=b
     ·rw [if_pos hmb,if_pos (.inr (by omega))]
     ·rw [if_neg hmb]
      show (if m=N+j then _ else _)=_
      rw [if_neg (by omega)]
      by_cases hq:x=some m∨(N≤m∧m < N+j)
      ·rw [if_pos hq,if_pos (by rcases hq with h | h;exact .inl h;exact .inr (by omega))]
      ·rw [if_neg hq,if_neg (by rintro (h | h);exact hq (.inl h);exact hq (.inr (by omega)))]
def lS (hp:Nat→Hb) (bw bf N:Nat) (l:Ev) (F C:List Nat) (kind:Nat):Nat→Hb :=
 up (iR hp (some bf) N ((aS C.length).length+3) (F ++ bO kind C)) bw (.cells (vC none :: l.row.map .d))
def l9 (N:Nat) (C:List Nat):Nat:=N+((aS C.length).length+2)
def F7 (hp:Nat→Hb) (az:List Hw) (hp':Nat→Hb) (rs:List Hw):Prop:=∃ (bw bf N:Nat) (x:Option Nat) (l:Ev) (F C:List Nat) (kind:Nat),az=[.one (hP bw 0),.one (.h (.v bf)),.one (.d (.sc (.int .u8 (kind:Int))))] ∧
 (WAt hp bw N l C x∧(hp bf=.vec 5 1 (byR F)∧bf < N∧bf≠bw∧x≠some bf)∧F.length≤400000∧C.length≤400000∧kind≤255∧∀ y ∈ C,y≤255)∧hp'=lS hp bw bf N l F C kind∧rs=[.one (.h (.v (l9 N C)))]
def gW:PC→PC
 | .seq _ b=>b
 | c=>c
theorem Iz {hp:Nat→Hb} {y:Option Nat} {M j b:Nat} {bs:List Nat} {c:Hb} (hb:b < M) (hy:y≠some b):iR (up hp b c) y M j bs=up (iR hp y M j bs) b c:=by
 cases j with
 | zero=>rfl
 | succ j =>
   funext m
   show (if m=M+j then Hb.vec 5 1 (byR bs) else if y=some m∨(M≤m∧m < M+j) then Hb.dead else up hp b c m)=up (iR hp y M (j+1) bs) b c m
   by_cases hm:m=b
   ·subst hm;rw [kU,kU,if_neg (by omega),if_neg (by rintro (q | q);exact hy q;omega)]
   ·rw [eH hm,eH hm];rfl
theorem Fz {s:St} {Y:PX} {x:Option Nat} {N:Nat} {C:List Nat} (h:s.cl Y=(vC x).cl) (hv:mW s.hb N C x):s.jg Y=some (byR C):=by
 cases x with
 | none =>
   have:C=[]:=hv;subst this;exact kH (by rw [h];rfl)
 | some b=>exact Il h hv.1
noncomputable def nS:Env:=h1 45 xC (h1 46 zC e0)
theorem DR {hp:Nat→Hb} {bw bf N:Nat} {x:Option Nat} {l:Ev} {F C:List Nat} {kind:Nat} (hW:WAt hp bw N l C x) (hf:hp bf=.vec 5 1 (byR F)) (hfl:bf < N) (hfw:bf≠bw) (hfx:x≠some bf) (hFl:F.length≤400000) (hCl:C.length≤400000) (hk:kind≤255) (hCb:∀ y ∈ C,y≤255)
 {Q:Exit→St→Prop} (st:St) (s0:st.sl 0=.b (.one (.hv (.p bw 0)))) (s1:st.sl 1=.b (.one (.hv (.v (N+(aS C.length).length))))) (s7:st.sl 7=aI (F.length:Int)) (sh:st.hb=iR hp (some bf) N ((aS C.length).length+1) (F ++ [kind] ++ aS C.length))
 (sn:st.nc=fun b=>if b=bf∨N≤b then 2 else 1) (sa:aQ st) (hQ:∀ s':St,s'.sl 6=.b (.one (.hv (.v (l9 N C))))→s'.hb=lS hp bw bf N l F C kind→Q .ret s') :
 pwp nS (gW (gW (gW pcw25))) (exS nS [] Q) st:=by
 have hwl:=hW.lt;have h0:=hW.h;have hxl:=iQ hW.v;obtain ⟨k,hkn⟩:∃ k,(aS C.length).length=k:=⟨_,rfl⟩
 have hkp:0 < k:=by rw [←hkn];exact gV _
 have hkl:k≤9:=by rw [←hkn];exact bD _
 rw [hkn] at s1 sh;have hbf:∀ b,(some bf:Option Nat)=some b→b < N:=fun b q=>by cases q;exact hfl
 have hne:(some bf:Option Nat)≠some bw:=fun q=>hfw (by cases q;rfl)
 obtain ⟨H2,hH2⟩:∃ H2,iR hp (some bf) N (k+1) (F ++ [kind] ++ aS C.length)=H2:=⟨_,rfl⟩
 rw [hH2] at sh;have h2w:H2 bw=.cells (vC x :: l.row.map .d):=by rw [←hH2,iq hwl hne];exact h0
 have h2x:mW H2 N C x:=by
  have:=hW.v
  cases x with
  | none=>exact this
  | some b=>exact ⟨by rw [←hH2,iq this.2 (fun q=>hfx (by cases q;rfl))];exact this.1,this.2⟩
 have n1:N+k=bf∨N≤N+k:=.inr (by omega);have n2:N+(k+1)=bf∨N≤N+(k+1):=.inr (by omega);have lF:(F ++ [kind] ++ aS C.length).length=F.length+1+k:=by rw [List.length_append,List.length_append,hkn];rfl
 show pwp nS (gW (gW (gW pcw25))) _ _
 unfold pcw25;simp only [gW];simp only [↓evP,evB,stB,reduceIte,reduceCtorEq,Nat.reduceEqDiff,Nat.reduceAdd,Nat.reduceMul,Nat.reduceLeDiff,Nat.reduceLT,Nat.reduceSub,Nat.reduceBEq,s0,s1,s7,sh,h2w]
 refine DC (hp:=hp) (x:=some bf) (N:=N) (j:=k+1) (bs:=F ++ [kind] ++ aS C.length) (news:=C) (c:=2) (by simp only [stB,reduceIte,reduceCtorEq,Nat.reduceEqDiff,Nat.reduceAdd,Nat.reduceMul,Nat.reduceLeDiff,Nat.reduceLT,Nat.reduceSub,Nat.reduceBEq,s1];rfl) (by simp only [stB,reduceIte,reduceCtorEq,Nat.reduceEqDiff,Nat.reduceAdd,Nat.reduceMul,Nat.reduceLeDiff,Nat.reduceLT,Nat.reduceSub,Nat.reduceBEq,sh,hH2]) (fun q=>by omega) hbf hW.fr (by simp only [stB,reduceIte,reduceCtorEq,Nat.reduceEqDiff,Nat.reduceAdd,Nat.reduceMul,Nat.reduceLeDiff,Nat.reduceLT,Nat.reduceSub,Nat.reduceBEq,sn,n2,if_true]) (fun b q=>by
  have:N+k=b:=by simpa [lK] using q
  subst this;simp only [stB,reduceIte,reduceCtorEq,Nat.reduceEqDiff,Nat.reduceAdd,Nat.reduceMul,Nat.reduceLeDiff,Nat.reduceLT,Nat.reduceSub,Nat.reduceBEq,sn,n1,if_true]) (fun q=>by cases q) (Fz (x:=x) (N:=N) (by simp only [stB,reduceIte,reduceCtorEq,Nat.reduceEqDiff,Nat.reduceAdd,Nat.reduceMul,Nat.reduceLeDiff,Nat.reduceLT,Nat.reduceSub,Nat.reduceBEq]) (by simp only [stB,reduceIte,reduceCtorEq,Nat.reduceEqDiff,Nat.reduceAdd,Nat.reduceMul,Nat.reduceLeDiff,Nat.reduceLT,Nat.reduceSub,Nat.reduceBEq,sh];exact h2x)) (by rw [lF];omega) (by repeat' (first | exact aQ.init | assumption | exact bq (by assumption) | (refine aQ.ap ?_ rfl))) (fun L hL=>?_)
 have hG:F ++ [kind] ++ aS C.length ++ C=F ++ bG kind C:=by
  unfold bG;simp only [List.append_assoc,List.cons_append,List.nil_append]
 rw [hG] at hL;obtain ⟨H3,hH3⟩:∃ H3,iR hp (some bf) N (k+1+1) (F ++ bG kind C)=H3:=⟨_,rfl⟩
 rw [hH3] at hL;have h3w:H3 bw=.cells (vC x :: l.row.map .d):=by rw [←hH3,iq hwl hne];exact h0
 have hbl:(bG kind C).length=1+k+C.length:=by
  unfold bG;rw [List.length_cons,List.length_append,hkn];omega
 have hlen:(F ++ bG kind C).length=F.length+(1+k+C.length):=by rw [List.length_append,hbl]
 have hrl:=aY (F ++ bG kind C);have hw':IntKind.i64.wrap 0=0:=rfl;obtain ⟨H4,hH4⟩:∃ H4,up H3 bw (.cells (vC none :: l.row.map .d))=H4:=⟨_,rfl⟩
 have h4c:H4 (N+(k+1))=.vec 5 1 (byR (F ++ bG kind C)):=by
  rw [←hH4,eH (by omega),←hH3];exact gZ
 have h4f:lN H4 (N+(k+2)):=by
  intro b hb;rw [←hH4,eH (by omega),←hH3];exact iG hbf hW.fr b (by omega)
 simp only [↓evP,evB,stB,reduceIte,reduceCtorEq,Nat.reduceEqDiff,Nat.reduceAdd,Nat.reduceMul,Nat.reduceLeDiff,Nat.reduceLT,Nat.reduceSub,Nat.reduceBEq,s0,s1,s7,hL,h3w,kQ]
 refine BR (a:=N+(k+1)) (E:=5) (rows:=byR (F ++ bG kind C)) F.length (by simp only [stB,reduceIte,reduceCtorEq,Nat.reduceEqDiff,Nat.reduceAdd,Nat.reduceMul,Nat.reduceLeDiff,Nat.reduceLT,Nat.reduceSub,Nat.reduceBEq]) (by
  simp only [stB,reduceIte,reduceCtorEq,Nat.reduceEqDiff,Nat.reduceAdd,Nat.reduceMul,Nat.reduceLeDiff,Nat.reduceLT,Nat.reduceSub,Nat.reduceBEq,hL];rw [if_neg (by omega),←hH3];exact gZ) (by simp only [stB,reduceIte,reduceCtorEq,Nat.reduceEqDiff,Nat.reduceAdd,Nat.reduceMul,Nat.reduceLeDiff,Nat.reduceLT,Nat.reduceSub,Nat.reduceBEq,s7]) (by rw [hrl,hlen];omega) (fun cap hc1 hc2=>?_)
 have hvl:(byR (F ++ bG kind C)).length - F.length=(bG kind C).length:=by rw [hrl,hlen,hbl];omega
 rw [hvl];have hfun:up H3 bw (Hb.cells (.d (.sc (.slice none 0 0)) :: l.row.map .d))=H4:=hH4;simp only [↓evP,evB,stB,reduceIte,reduceCtorEq,Nat.reduceEqDiff,Nat.reduceAdd,Nat.reduceMul,Nat.reduceLeDiff,Nat.reduceLT,Nat.reduceSub,Nat.reduceBEq,s0,s1,s7,hL,h3w,kQ,Nat.mul_one];have hbb:∀ y ∈ bG kind C,y≤255:=oN hk hCb (by omega)
 have hsum:F ++ bG kind C ++ Gt (bG kind C)=F ++ bO kind C:=by unfold bO;rw [List.append_assoc]
 have hfin:iR H4 (some (N+(k+1))) (N+(k+2)) 1 (F ++ bO kind C)=lS hp bw bf N l F C kind:=by
  rw [←hH4,Iz (by omega) (fun q=>absurd (Option.some.inj q) (by omega)),←hH3];have:=sV (hp:=hp) (x:=some bf) (N:=N) (j:=k+2) (k:=1) (b1:=F ++ bG kind C) (b2:=F ++ bO kind C) (by omega) (by omega);rw [show lK (some bf) N (k+2)=some (N+(k+1)) from rfl] at this;rw [this];unfold lS;rw [hkn]
 refine cZ (lS hp bw bf N l F C kind) [bHw (some (N+(k+2)))] (by
  simp only [stB,reduceIte,reduceCtorEq,Nat.reduceEqDiff,Nat.reduceAdd,Nat.reduceMul,Nat.reduceLeDiff,Nat.reduceLT,Nat.reduceSub,Nat.reduceBEq,hL];rw [hfun];exact ⟨some (N+(k+1)),N+(k+2),F ++ bG kind C,bG kind C,_,rfl,⟨⟨h4c,by omega⟩,h4f,by rw [hlen];omega,.inl ⟨N+(k+1),F.length,cap,_,rfl,h4c,by rw [List.drop_left]⟩,by rw [hbl];omega,hbb⟩,by rw [hsum];exact hfin.symm,rfl⟩) ?_
 simp only [↓evP,evB,stB,reduceIte,reduceCtorEq,Nat.reduceEqDiff,Nat.reduceAdd,Nat.reduceMul,Nat.reduceLeDiff,Nat.reduceLT,Nat.reduceSub,Nat.reduceBEq,bHw];refine hQ _ ?_ ?_
 ·simp only [stB,reduceIte,reduceCtorEq,Nat.reduceEqDiff,Nat.reduceAdd,Nat.reduceMul,Nat.reduceLeDiff,Nat.reduceLT,Nat.reduceSub,Nat.reduceBEq];unfold l9;rw [hkn];rfl
 ·simp only [stB,reduceIte,reduceCtorEq,Nat.reduceEqDiff,Nat.reduceAdd,Nat.reduceMul,Nat.reduceLeDiff,Nat.reduceLT,Nat.reduceSub,Nat.reduceBEq]
theorem KE:fB Try.prog 25 F7:=by
 refine spw25 (show ay Try.prog (h1 45 xC (h1 46 zC e0)) from ay.h1 Jo (ay.h1 J7 ay.e0)) ?_;rintro hp az hp' rs ⟨bw,bf,N,x,l,F,C,kind,rfl,⟨hW,⟨hf,hfl,hfw,hfx⟩,hFl,hCl,hk,hCb⟩,rfl,rfl⟩;refine ⟨by simp,fun b=>if b=bf∨N≤b then 2 else 1,?_⟩;have hwl:=hW.lt;have h0:=hW.h;have hxl:=iQ hW.v;have cF:=aY F;have nw:¬ (bw=bf∨N≤bw):=by omega
 have nf:bf=bf∨N≤bf:=.inl rfl;have nN:N=bf∨N≤N:=.inr (Nat.le_refl _);obtain ⟨k,hkn⟩:∃ k,(aS C.length).length=k:=⟨_,rfl⟩
 have hkp:0 < k:=by rw [←hkn];exact gV _
 have hkl:k≤9:=by rw [←hkn];exact bD _
 have g1:F.length+1≤1000000:=by omega
 unfold pcw25
 with_reducible refine aH ?_
 simp only [↓evP,evB,stB,reduceIte,reduceCtorEq,Nat.reduceEqDiff,Nat.reduceAdd,Nat.reduceMul,Nat.reduceLeDiff,Nat.reduceLT,Nat.reduceSub,Nat.reduceBEq,hf,cF]
 refine Lx (hp:=hp) (x:=some bf) (N:=N) (j:=0) (bs:=F) (news:=[kind]) (c:=2) (by simp only [stB,reduceIte,reduceCtorEq,Nat.reduceEqDiff,Nat.reduceAdd,Nat.reduceMul,Nat.reduceLeDiff,Nat.reduceLT,Nat.reduceSub,Nat.reduceBEq];rfl) (by simp only [stB,reduceIte,reduceCtorEq,Nat.reduceEqDiff,Nat.reduceAdd,Nat.reduceMul,Nat.reduceLeDiff,Nat.reduceLT,Nat.reduceSub,Nat.reduceBEq];rfl) (fun _=>⟨hf,hfl⟩) (fun b q=>by cases q;exact hfl) hW.fr (by simp only [stB,reduceIte,reduceCtorEq,Nat.reduceEqDiff,Nat.reduceAdd,Nat.reduceMul,Nat.reduceLeDiff,Nat.reduceLT,Nat.reduceSub,Nat.reduceBEq,Nat.add_zero,nN]) (fun b q=>by cases q;simp only [stB,reduceIte,reduceCtorEq,Nat.reduceEqDiff,Nat.reduceAdd,Nat.reduceMul,Nat.reduceLeDiff,Nat.reduceLT,Nat.reduceSub,Nat.reduceBEq,nf]) (fun q=>by cases q) (kH (by simp only [stB,reduceIte,reduceCtorEq,Nat.reduceEqDiff,Nat.reduceAdd,Nat.reduceMul,Nat.reduceLeDiff,Nat.reduceLT,Nat.reduceSub,Nat.reduceBEq];rfl)) (by show F.length+1≤_;omega) (by repeat' (first | exact aQ.init | assumption | exact bq (by assumption) | (refine aQ.ap ?_ rfl))) (fun L hL=>?_)
 obtain ⟨H1,hH1⟩:∃ H1,iR hp (some bf) N (0+1) (F ++ [kind])=H1:=⟨_,rfl⟩
 rw [hH1] at hL;simp only [Nat.add_zero] at hL;have hne:(some bf:Option Nat)≠some bw:=fun q=>hfw (by cases q;rfl)
 have h1w:H1 bw=.cells (vC x :: l.row.map .d):=by rw [←hH1,iq hwl hne];exact h0
 have h1N:H1 N=.vec 5 1 (byR (F ++ [kind])):=by rw [←hH1];exact gZ (j:=0)
 have h1f:lN H1 (N+1):=by rw [←hH1];exact iG (fun b q=>by cases q;exact hfl) hW.fr
 have h1x:mW H1 N C x:=by
  have:=hW.v
  cases x with
  | none=>exact this
  | some b=>exact ⟨by rw [←hH1,iq this.2 (fun q=>hfx (by cases q;rfl))];exact this.1,this.2⟩
 have fin:∀ (st:St),st.sl 0=.b (.one (.hv (.p bw 0)))→st.sl 1=.b (.one (.hv (.v (N+(aS C.length).length))))→st.sl 7=aI (F.length:Int)→st.hb=iR hp (some bf) N ((aS C.length).length+1) (F ++ [kind] ++ aS C.length)→(st.nc=fun b=>if b=bf∨N≤b then 2 else 1)→aQ st →
  pwp nS (gW (gW (gW pcw25))) (exS nS [] (fun e s=>(e=.normal∨e=.ret)∧s.jf prw25=some [.one (.h (.v (l9 N C)))]∧s.hb=lS hp bw bf N l F C kind)) st:=fun st a1 a2 a3 a4 a5 a6 =>
  DR hW hf hfl hfw hfx hFl hCl hk hCb st a1 a2 a3 a4 a5 a6 (fun s' b1 b2=>⟨.inr rfl,by simp only [stB,reduceIte,reduceCtorEq,Nat.reduceEqDiff,Nat.reduceAdd,Nat.reduceMul,Nat.reduceLeDiff,Nat.reduceLT,Nat.reduceSub,Nat.reduceBEq,prw25,b1],b2⟩)
 have hap:xC H1 [bHw (some N),.one (hI (C.length:Nat))] (iR hp (some bf) N ((aS C.length).length+1) (F ++ [kind] ++ aS C.length)) [bHw (some (N+(aS C.length).length))]:=by
  refine ⟨some N,C.length,N+1,F ++ [kind],rfl,⟨⟨h1N,by omega⟩,h1f,by omega,by rw [List.length_append];show F.length+1≤_;omega⟩,?_,?_⟩
  ·have:=sV (hp:=hp) (x:=some bf) (N:=N) (j:=0+1) (k:=(aS C.length).length) (b1:=F ++ [kind]) (b2:=F ++ [kind] ++ aS C.length) (by omega) (gV _);rw [hH1] at this;rw [show (aS C.length).length+1=0+1+(aS C.length).length from by omega];exact this.symm
  ·rw [FK (gV _)];have:=gV C.length
   congr 3
   omega
 generalize hK:exS _ _ _ Exit.normal=KK
 cases x with
 | none =>
   have hC0:C=[]:=h1x;have e0:(C.length:Int)=0:=by rw [hC0];rfl
   rw [e0] at hap;simp only [vC] at h1w;simp only [↓evP,evB,stB,reduceIte,reduceCtorEq,Nat.reduceEqDiff,Nat.reduceAdd,Nat.reduceMul,Nat.reduceLeDiff,Nat.reduceLT,Nat.reduceSub,Nat.reduceBEq,hL,h1w,Nat.add_zero];refine mg (iR hp (some bf) N ((aS C.length).length+1) (F ++ [kind] ++ aS C.length)) [bHw (some (N+(aS C.length).length))] (by simp only [stB,reduceIte,reduceCtorEq,Nat.reduceEqDiff,Nat.reduceAdd,Nat.reduceMul,Nat.reduceLeDiff,Nat.reduceLT,Nat.reduceSub,Nat.reduceBEq,hL];exact hap) ?_
   simp only [↓evP,evB,stB,reduceIte,reduceCtorEq,Nat.reduceEqDiff,Nat.reduceAdd,Nat.reduceMul,Nat.reduceLeDiff,Nat.reduceLT,Nat.reduceSub,Nat.reduceBEq,bHw,vC];refine ⟨?_,?_⟩
   ·simp only [nf,nw,if_true,if_false];exact (by unfold Drw;refine Eq.trans (b:=true) ?_ rfl;kernel_rfl)
   ·rw [←hK,yL];refine fin _ ?_ ?_ ?_ ?_ ?_ ?_
    ·simp only [stB,reduceIte,reduceCtorEq,Nat.reduceEqDiff,Nat.reduceAdd,Nat.reduceMul,Nat.reduceLeDiff,Nat.reduceLT,Nat.reduceSub,Nat.reduceBEq]
    ·simp only [stB,reduceIte,reduceCtorEq,Nat.reduceEqDiff,Nat.reduceAdd,Nat.reduceMul,Nat.reduceLeDiff,Nat.reduceLT,Nat.reduceSub,Nat.reduceBEq]
    ·simp only [stB,reduceIte,reduceCtorEq,Nat.reduceEqDiff,Nat.reduceAdd,Nat.reduceMul,Nat.reduceLeDiff,Nat.reduceLT,Nat.reduceSub,Nat.reduceBEq]
    ·simp only [stB,reduceIte,reduceCtorEq,Nat.reduceEqDiff,Nat.reduceAdd,Nat.reduceMul,Nat.reduceLeDiff,Nat.reduceLT,Nat.reduceSub,Nat.reduceBEq]
    ·simp only [stB,reduceIte,reduceCtorEq,Nat.reduceEqDiff,Nat.reduceAdd,Nat.reduceMul,Nat.reduceLeDiff,Nat.reduceLT,Nat.reduceSub,Nat.reduceBEq]
    ·exact (by repeat' (first | exact aQ.init | assumption | exact bq (by assumption) | (refine aQ.ap ?_ rfl)))
 | some b =>
   have hbN:¬ (b=bf∨N≤b):=by
    have:=h1x.2;rintro (q | q)
    ·exact hfx (by rw [q])
    ·omega
   have hvb:=h1x.1;have cC:=aY C;simp only [vC] at h1w;simp only [↓evP,evB,stB,reduceIte,reduceCtorEq,Nat.reduceEqDiff,Nat.reduceAdd,Nat.reduceMul,Nat.reduceLeDiff,Nat.reduceLT,Nat.reduceSub,Nat.reduceBEq,hL,h1w,hvb,cC,Nat.add_zero];refine mg (iR hp (some bf) N ((aS C.length).length+1) (F ++ [kind] ++ aS C.length)) [bHw (some (N+(aS C.length).length))] (by simp only [stB,reduceIte,reduceCtorEq,Nat.reduceEqDiff,Nat.reduceAdd,Nat.reduceMul,Nat.reduceLeDiff,Nat.reduceLT,Nat.reduceSub,Nat.reduceBEq,hL];exact hap) ?_
   simp only [↓evP,evB,stB,reduceIte,reduceCtorEq,Nat.reduceEqDiff,Nat.reduceAdd,Nat.reduceMul,Nat.reduceLeDiff,Nat.reduceLT,Nat.reduceSub,Nat.reduceBEq,bHw,vC];refine ⟨?_,?_⟩
   ·simp only [nf,nw,hbN,if_true,if_false];exact (by unfold Drw;refine Eq.trans (b:=true) ?_ rfl;kernel_rfl)
   ·rw [←hK,yL];refine fin _ ?_ ?_ ?_ ?_ ?_ ?_
    ·simp only [stB,reduceIte,reduceCtorEq,Nat.reduceEqDiff,Nat.reduceAdd,Nat.reduceMul,Nat.reduceLeDiff,Nat.reduceLT,Nat.reduceSub,Nat.reduceBEq]
    ·simp only [stB,reduceIte,reduceCtorEq,Nat.reduceEqDiff,Nat.reduceAdd,Nat.reduceMul,Nat.reduceLeDiff,Nat.reduceLT,Nat.reduceSub,Nat.reduceBEq]
    ·simp only [stB,reduceIte,reduceCtorEq,Nat.reduceEqDiff,Nat.reduceAdd,Nat.reduceMul,Nat.reduceLeDiff,Nat.reduceLT,Nat.reduceSub,Nat.reduceBEq]
    ·simp only [stB,reduceIte,reduceCtorEq,Nat.reduceEqDiff,Nat.reduceAdd,Nat.reduceMul,Nat.reduceLeDiff,Nat.reduceLT,Nat.reduceSub,Nat.reduceBEq]
    ·simp only [stB,reduceIte,reduceCtorEq,Nat.reduceEqDiff,Nat.reduceAdd,Nat.reduceMul,Nat.reduceLeDiff,Nat.reduceLT,Nat.reduceSub,Nat.reduceBEq]
    ·exact (by repeat' (first | exact aQ.init | assumption | exact bq (by assumption) | (refine aQ.ap ?_ rfl)))
def siB (s:Int×Int):Bool:=decide (s.1≤2147483647) && decide (s.2≤2147483647)
def evK (d:Dep) (e:Ev):Bool:=e.valid && decide (e.stack < (d.st.length:Int))
theorem FJ (es:List Ev) (d:Dep):rF es d=(pW d && d.st.all siB && es.all (evK d)):=by
 rw [Bool.eq_iff_iff];constructor
 ·intro h;have hS:dJ es d:=Classical.byContradiction fun q=>by rw [gX q] at h;cases h
  obtain ⟨h1,h2,h3⟩:=hS;rw [nA h1,Bool.true_and,Bool.and_eq_true,List.all_eq_true,List.all_eq_true];refine ⟨fun s hs=>?_,fun e he=>?_⟩
  ·unfold siB;rw [decide_eq_true (h2 s hs).1,decide_eq_true (h2 s hs).2];rfl
  ·unfold evK;rw [(h3 e he).1,decide_eq_true (h3 e he).2];rfl
 ·intro h;rw [Bool.and_eq_true,Bool.and_eq_true,List.all_eq_true,List.all_eq_true] at h;obtain ⟨⟨h1,h2⟩,h3⟩:=h;have hv:d.val:=Classical.byContradiction fun q=>by rw [lg q] at h1;cases h1
  refine kT ⟨hv,fun s hs=>?_,fun e he=>?_⟩
  ·have:=h2 s hs;unfold siB at this;rw [Bool.and_eq_true] at this;exact ⟨of_decide_eq_true this.1,of_decide_eq_true this.2⟩
  ·have:=h3 e he;unfold evK at this;rw [Bool.and_eq_true] at this;exact ⟨this.1,of_decide_eq_true this.2⟩
def slA (es:List Ev) (d:Dep) (x:Nat):Av:=if x=0 then .b (gY es d).bv else .un
noncomputable def iO:Env:=e1 22 FU (e1 23 zX (e1 24 vX e0))
theorem yx:ay Try.prog iO:=ay.e1 Kr (ay.e1 Iw (ay.e1 CZ ay.e0))
def hpA (es:List Ev) (d:Dep):Nat→Hb:=fun b =>
 if b=2 then .cells ((bU es d).map .d) else if b=10 then .cells (vC none :: ev0.row.map .d) else if b=65 then .vec 5 1 (byR eY) else if b=11 then .cells [.h (.v 65)]
 else if b=12 then .cells [.h (.f 25 [(10,0)] [])] else if b=13 then .cells [hI 0] else .no
structure IL (es:List Ev) (d:Dep) (st:St):Prop where
 s1:st.sl 1=.b (.one (.hv (.p 2 0)))
 s9:st.sl 9=.b (.one (.hv (.p 10 0)))
 s10:st.sl 10=.b (.one (.hv (.p 11 0)))
 s11:st.sl 11=.b (.one (.hv (.p 12 0)))
 s12:st.sl 12=.b (.one (.hv (.p 13 0)))
 hb:st.hb=hpA es d
theorem oG {nc:Nat→Nat} {hp:Nat→Hb} {sl:Nat→Av}:aQ (St.jM nc hp sl):=fun c=>by
 show wQ (if HBS≤HBS+c then _ else _)=true
 rw [if_pos (Nat.le_add_right _ _)];rfl
def Jl:PC:=match pcw12A with
 | .seq _ (.seq _ r)=>r
 | _=>.skip
def hp1 (es:List Ev) (d:Dep):Nat→Hb:=up (fun _=>.no) 2 (.cells ((bU es d).map .d))
theorem wo {α:Type} {f:α→Bool} {l:List α} {i:Nat} {x:α} (h:l[i]? = some x):(l.take (i+1)).all f=((l.take i).all f && f x):=by
 rw [take_at h,List.all_append];simp
theorem GX {Q:Exit→St→Prop} (hno:∀ st:St,(st.sl 2).hw=some (.one (.d (.im [])))→(st.sl 3).hw=some (.one (hI 1))→Q .ret st) {st:St} (s4:st.sl 4=aB false):pwp iO pcw12Ac0 (exS iO [] Q) st:=by
 unfold pcw12Ac0;simp only [↓evP,evB,stB,reduceIte,reduceCtorEq,Nat.reduceEqDiff,Nat.reduceAdd,Nat.reduceMul,Nat.reduceLeDiff,Nat.reduceLT,Nat.reduceSub,Nat.reduceBEq,s4];exact hno _ (by simp only [stB,reduceIte,reduceCtorEq,Nat.reduceEqDiff,Nat.reduceAdd,Nat.reduceMul,Nat.reduceLeDiff,Nat.reduceLT,Nat.reduceSub,Nat.reduceBEq];first | done | rfl) (by simp only [stB,reduceIte,reduceCtorEq,Nat.reduceEqDiff,Nat.reduceAdd,Nat.reduceMul,Nat.reduceLeDiff,Nat.reduceLT,Nat.reduceSub,Nat.reduceBEq];first | done | rfl)
theorem D6 {es:List Ev} {d:Dep} {Q:Exit→St→Prop} (hS:dJ es d) (hyes:dJ es d→∀ st,IL es d st→Q .normal st)
 {st:St} (s1:st.sl 1=.b (.one (.hv (.p 2 0)))) (s4:st.sl 4=aB true) (hb:st.hb=hp1 es d) (inc:st.nc=fun b=>b) (ia:aQ st):pwp iO pcw12Ac0 (exS iO [] Q) st:=by
 have n10:hp1 es d 10=.no:=rfl;have n65:hp1 es d 65=.no:=rfl;have n11:hp1 es d 11=.no:=rfl;have n12:hp1 es d 12=.no:=rfl;have n13:hp1 es d 13=.no:=rfl;unfold pcw12Ac0;simp only [↓evP,evB,stB,reduceIte,reduceCtorEq,Nat.reduceEqDiff,Nat.reduceAdd,Nat.reduceMul,Nat.reduceLeDiff,Nat.reduceLT,Nat.reduceSub,Nat.reduceBEq,s4];refine nH 10 (iC (by simp only [stB,reduceIte,reduceCtorEq,Nat.reduceEqDiff,Nat.reduceAdd,Nat.reduceMul,Nat.reduceLeDiff,Nat.reduceLT,Nat.reduceSub,Nat.reduceBEq,inc]) (by repeat' (first | exact aQ.init | assumption | exact bq (by assumption) | (refine aQ.ap ?_ rfl))) (by simp only [stB,reduceIte,reduceCtorEq,Nat.reduceEqDiff,Nat.reduceAdd,Nat.reduceMul,Nat.reduceLeDiff,Nat.reduceLT,Nat.reduceSub,Nat.reduceBEq,inc,hb,n10])) ?_
 simp only [↓evP,evB,stB,reduceIte,reduceCtorEq,Nat.reduceEqDiff,Nat.reduceAdd,Nat.reduceMul,Nat.reduceLeDiff,Nat.reduceLT,Nat.reduceSub,Nat.reduceBEq,inc];refine EN 65 (iC (by simp only [stB,reduceIte,reduceCtorEq,Nat.reduceEqDiff,Nat.reduceAdd,Nat.reduceMul,Nat.reduceLeDiff,Nat.reduceLT,Nat.reduceSub,Nat.reduceBEq,inc]) (by repeat' (first | exact aQ.init | assumption | exact bq (by assumption) | (refine aQ.ap ?_ rfl))) (by simp only [stB,reduceIte,reduceCtorEq,Nat.reduceEqDiff,Nat.reduceAdd,Nat.reduceMul,Nat.reduceLeDiff,Nat.reduceLT,Nat.reduceSub,Nat.reduceBEq,inc,hb,n65])) rfl rfl rfl ?_;simp only [↓evP,evB,stB,reduceIte,reduceCtorEq,Nat.reduceEqDiff,Nat.reduceAdd,Nat.reduceMul,Nat.reduceLeDiff,Nat.reduceLT,Nat.reduceSub,Nat.reduceBEq,inc]
 refine nH 11 (iC (by simp only [stB,reduceIte,reduceCtorEq,Nat.reduceEqDiff,Nat.reduceAdd,Nat.reduceMul,Nat.reduceLeDiff,Nat.reduceLT,Nat.reduceSub,Nat.reduceBEq,inc]) (by repeat' (first | exact aQ.init | assumption | exact bq (by assumption) | (refine aQ.ap ?_ rfl))) (by simp only [stB,reduceIte,reduceCtorEq,Nat.reduceEqDiff,Nat.reduceAdd,Nat.reduceMul,Nat.reduceLeDiff,Nat.reduceLT,Nat.reduceSub,Nat.reduceBEq,inc,hb,n11])) ?_;simp only [↓evP,evB,stB,reduceIte,reduceCtorEq,Nat.reduceEqDiff,Nat.reduceAdd,Nat.reduceMul,Nat.reduceLeDiff,Nat.reduceLT,Nat.reduceSub,Nat.reduceBEq,inc]
 refine nH 12 (iC (by simp only [stB,reduceIte,reduceCtorEq,Nat.reduceEqDiff,Nat.reduceAdd,Nat.reduceMul,Nat.reduceLeDiff,Nat.reduceLT,Nat.reduceSub,Nat.reduceBEq,inc]) (by repeat' (first | exact aQ.init | assumption | exact bq (by assumption) | (refine aQ.ap ?_ rfl))) (by simp only [stB,reduceIte,reduceCtorEq,Nat.reduceEqDiff,Nat.reduceAdd,Nat.reduceMul,Nat.reduceLeDiff,Nat.reduceLT,Nat.reduceSub,Nat.reduceBEq,inc,hb,n12])) ?_;simp only [↓evP,evB,stB,reduceIte,reduceCtorEq,Nat.reduceEqDiff,Nat.reduceAdd,Nat.reduceMul,Nat.reduceLeDiff,Nat.reduceLT,Nat.reduceSub,Nat.reduceBEq,inc]
 refine nH 13 (iC (by simp only [stB,reduceIte,reduceCtorEq,Nat.reduceEqDiff,Nat.reduceAdd,Nat.reduceMul,Nat.reduceLeDiff,Nat.reduceLT,Nat.reduceSub,Nat.reduceBEq,inc]) (by repeat' (first | exact aQ.init | assumption | exact bq (by assumption) | (refine aQ.ap ?_ rfl))) (by simp only [stB,reduceIte,reduceCtorEq,Nat.reduceEqDiff,Nat.reduceAdd,Nat.reduceMul,Nat.reduceLeDiff,Nat.reduceLT,Nat.reduceSub,Nat.reduceBEq,inc,hb,n13])) ?_;simp only [↓evP,evB,stB,reduceIte,reduceCtorEq,Nat.reduceEqDiff,Nat.reduceAdd,Nat.reduceMul,Nat.reduceLeDiff,Nat.reduceLT,Nat.reduceSub,Nat.reduceBEq,inc]
 refine hyes hS _ ⟨by simp only [stB,reduceIte,reduceCtorEq,Nat.reduceEqDiff,Nat.reduceAdd,Nat.reduceMul,Nat.reduceLeDiff,Nat.reduceLT,Nat.reduceSub,Nat.reduceBEq,s1],by simp only [stB,reduceIte,reduceCtorEq,Nat.reduceEqDiff,Nat.reduceAdd,Nat.reduceMul,Nat.reduceLeDiff,Nat.reduceLT,Nat.reduceSub,Nat.reduceBEq],by simp only [stB,reduceIte,reduceCtorEq,Nat.reduceEqDiff,Nat.reduceAdd,Nat.reduceMul,Nat.reduceLeDiff,Nat.reduceLT,Nat.reduceSub,Nat.reduceBEq],by simp only [stB,reduceIte,reduceCtorEq,Nat.reduceEqDiff,Nat.reduceAdd,Nat.reduceMul,Nat.reduceLeDiff,Nat.reduceLT,Nat.reduceSub,Nat.reduceBEq],by simp only [stB,reduceIte,reduceCtorEq,Nat.reduceEqDiff,Nat.reduceAdd,Nat.reduceMul,Nat.reduceLeDiff,Nat.reduceLT,Nat.reduceSub,Nat.reduceBEq],?_⟩
 iterate 8 (rw [jY (by rintro p hp;rw [List.mem_singleton.1 hp];simp only [stB,reduceIte,reduceCtorEq,Nat.reduceEqDiff,Nat.reduceAdd,Nat.reduceMul,Nat.reduceLeDiff,Nat.reduceLT,Nat.reduceSub,Nat.reduceBEq,inc])];try simp only [stB,reduceIte,reduceCtorEq,Nat.reduceEqDiff,Nat.reduceAdd,Nat.reduceMul,Nat.reduceLeDiff,Nat.reduceLT,Nat.reduceSub,Nat.reduceBEq])
 rw [hb]
 funext b
 simp only [jV];unfold hpA
 by_cases b13:b=13
 ·subst b13;rfl
 by_cases b12:b=12
 ·subst b12;rfl
 by_cases b11:b=11
 ·subst b11;rfl
 by_cases b65:b=65
 ·subst b65;rfl
 by_cases b10:b=10
 ·subst b10;rfl
 simp only [b13,b12,b11,b65,b10,if_false]
 first | done | rfl
theorem rV {es:List Ev} {d:Dep} (hel:es.length≤1000) (hl:d.st.length≤1000000∧d.pr.length≤1000000) {Q:Exit→St→Prop} (hno:¬ dJ es d→∀ st:St,(st.sl 2).hw=some (.one (.d (.im [])))→(st.sl 3).hw=some (.one (hI 1))→Q .ret st) (hyes:dJ es d→∀ st,IL es d st→Q .normal st)
 {st:St} {v:Bool} (hv:pW d=v) (s1:st.sl 1=.b (.one (.hv (.p 2 0)))) (s4:st.sl 4=aB v) (hb:st.hb=hp1 es d) (inc:st.nc=fun b=>b) (ia:aQ st):pwp iO Jl Q st:=by
 have m1:(d.st.map aJ).length=d.st.length:=List.length_map ..;have m2:(es.map Ev.row).length=es.length:=List.length_map ..;have hb2:st.hb 2=.cells ((bU es d).map .d):=by rw [hb];exact kU
 simp only [bU,List.map_cons,List.map_nil] at hb2;unfold Jl pcw12A
 with_reducible refine aH ?_
 simp only [↓evP,evB,stB,reduceIte,reduceCtorEq,Nat.reduceEqDiff,Nat.reduceAdd,Nat.reduceMul,Nat.reduceLeDiff,Nat.reduceLT,Nat.reduceSub,Nat.reduceBEq,s1,hb2,m1];refine dY msw12A_0 osw12A_0 (fun m t=>∃ i:Nat,m=d.st.length - i∧i≤d.st.length∧t.sl 30=aI i∧t.sl 4=aB (v && (d.st.take i).all siB)∧t.hb=hp1 es d) d.st.length (by repeat' (first | exact aQ.init | assumption | exact bq (by assumption) | (refine aQ.ap ?_ rfl))) ?_ ?_
 ·exact ⟨0,rfl,Nat.zero_le _,by simp only [stB,reduceIte,reduceCtorEq,Nat.reduceEqDiff,Nat.reduceAdd,Nat.reduceMul,Nat.reduceLeDiff,Nat.reduceLT,Nat.reduceSub,Nat.reduceBEq];first | done | rfl,by simp only [stB,reduceIte,reduceCtorEq,Nat.reduceEqDiff,Nat.reduceAdd,Nat.reduceMul,Nat.reduceLeDiff,Nat.reduceLT,Nat.reduceSub,Nat.reduceBEq,s4];first | done | rw [show (d.st.take 0).all siB=true from rfl,Bool.and_true],by simp only [stB,reduceIte,reduceCtorEq,Nat.reduceEqDiff,Nat.reduceAdd,Nat.reduceMul,Nat.reduceLeDiff,Nat.reduceLT,Nat.reduceSub,Nat.reduceBEq,hb]⟩
 rintro m j hjn hja ⟨i,rfl,hi,h30,h4,hjb⟩;simp only [stB,reduceIte,reduceCtorEq,Nat.reduceEqDiff,Nat.reduceAdd,Nat.reduceMul,Nat.reduceLeDiff,Nat.reduceLT,Nat.reduceSub,Nat.reduceBEq,hjn] at h30 h4 hjb
 rcases Nat.lt_or_ge i d.st.length with hlt | hge
 ·have ga:d.st[i]? = some (d.st[i]):=List.getElem?_eq_getElem hlt;generalize d.st[i]=x at ga;have hat:=wo (f:=siB) ga;have ilt:(i:Int) < (d.st.length:Int):=by omega
  have i0:(0:Int)≤(i:Int):=by omega
  have w3:IntKind.i64.wrap ((i:Int)+1)=((i+1:Nat):Int):=by rw [fE (by omega) (by omega)];omega
  cases hcur:(v && (d.st.take i).all siB) with
  | false =>
    rw [hcur] at h4;simp only [↓evP,evB,stB,reduceIte,reduceCtorEq,Nat.reduceEqDiff,Nat.reduceAdd,Nat.reduceMul,Nat.reduceLeDiff,Nat.reduceLT,Nat.reduceSub,Nat.reduceBEq,s1,h30,h4,m1,ilt,i0,ga,aJ,decide_true]
    exact ⟨_,by omega,(by repeat' (first | assumption | exact bC (by assumption) | (refine aK ?_ rfl rfl) | (refine aD ?_ rfl) | (refine aK ?_ rfl aN) | (refine aD ?_ aN))),i+1,rfl,hlt,by simp only [stB,reduceIte,reduceCtorEq,Nat.reduceEqDiff,Nat.reduceAdd,Nat.reduceMul,Nat.reduceLeDiff,Nat.reduceLT,Nat.reduceSub,Nat.reduceBEq,h30,w3],by simp only [stB,reduceIte,reduceCtorEq,Nat.reduceEqDiff,Nat.reduceAdd,Nat.reduceMul,Nat.reduceLeDiff,Nat.reduceLT,Nat.reduceSub,Nat.reduceBEq,h4];rw [hat,←Bool.and_assoc,hcur];rfl,by simp only [stB,reduceIte,reduceCtorEq,Nat.reduceEqDiff,Nat.reduceAdd,Nat.reduceMul,Nat.reduceLeDiff,Nat.reduceLT,Nat.reduceSub,Nat.reduceBEq,hjn,hjb]⟩
  | true =>
    rw [hcur] at h4;simp only [↓evP,evB,stB,reduceIte,reduceCtorEq,Nat.reduceEqDiff,Nat.reduceAdd,Nat.reduceMul,Nat.reduceLeDiff,Nat.reduceLT,Nat.reduceSub,Nat.reduceBEq,s1,h30,h4,m1,ilt,i0,ga,aJ,decide_true];refine aC [pB (siB x)] (by exact ⟨x,rfl,rfl⟩) ?_;simp only [↓evP,evB,stB,reduceIte,reduceCtorEq,Nat.reduceEqDiff,Nat.reduceAdd,Nat.reduceMul,Nat.reduceLeDiff,Nat.reduceLT,Nat.reduceSub,Nat.reduceBEq,s1,h30,h4,m1,ilt,i0,ga,aJ,decide_true]
    exact ⟨_,by omega,(by repeat' (first | assumption | exact bC (by assumption) | (refine aK ?_ rfl rfl) | (refine aD ?_ rfl) | (refine aK ?_ rfl aN) | (refine aD ?_ aN))),i+1,rfl,hlt,by simp only [stB,reduceIte,reduceCtorEq,Nat.reduceEqDiff,Nat.reduceAdd,Nat.reduceMul,Nat.reduceLeDiff,Nat.reduceLT,Nat.reduceSub,Nat.reduceBEq,h30,w3],by simp only [stB,reduceIte,reduceCtorEq,Nat.reduceEqDiff,Nat.reduceAdd,Nat.reduceMul,Nat.reduceLeDiff,Nat.reduceLT,Nat.reduceSub,Nat.reduceBEq,h4];rw [hat,←Bool.and_assoc,hcur,Bool.true_and],by simp only [stB,reduceIte,reduceCtorEq,Nat.reduceEqDiff,Nat.reduceAdd,Nat.reduceMul,Nat.reduceLeDiff,Nat.reduceLT,Nat.reduceSub,Nat.reduceBEq,hjn,hjb]⟩
 have hie:i=d.st.length:=by omega
 subst hie;rw [List.take_length] at h4;obtain ⟨v2,hv2⟩:∃ v2,(v && d.st.all siB)=v2:=⟨_,rfl⟩
 rw [hv2] at h4;have ilt:¬ (d.st.length:Int) < (d.st.length:Int):=by omega
 have hjb2:j.hb 2=.cells ((bU es d).map .d):=by rw [hjb];exact kU
 simp only [bU,List.map_cons,List.map_nil] at hjb2;simp only [↓evP,evB,stB,reduceIte,reduceCtorEq,Nat.reduceEqDiff,Nat.reduceAdd,Nat.reduceMul,Nat.reduceLeDiff,Nat.reduceLT,Nat.reduceSub,Nat.reduceBEq,s1,h30,h4,hjn,hjb2,m1,m2,ilt,decide_false];refine dY msw12A_1 osw12A_1 (fun m t=>∃ i:Nat,m=es.length - i∧i≤es.length∧t.sl 43=aI i∧t.sl 4=aB (v2 && (es.take i).all (evK d))∧t.hb=hp1 es d) es.length (by repeat' (first | exact aQ.init | assumption | exact bq (by assumption) | (refine aQ.ap ?_ rfl))) ?_ ?_
 ·exact ⟨0,rfl,Nat.zero_le _,by simp only [stB,reduceIte,reduceCtorEq,Nat.reduceEqDiff,Nat.reduceAdd,Nat.reduceMul,Nat.reduceLeDiff,Nat.reduceLT,Nat.reduceSub,Nat.reduceBEq];first | done | rfl,by simp only [stB,reduceIte,reduceCtorEq,Nat.reduceEqDiff,Nat.reduceAdd,Nat.reduceMul,Nat.reduceLeDiff,Nat.reduceLT,Nat.reduceSub,Nat.reduceBEq,h4];first | done | rw [show (es.take 0).all (evK d)=true from rfl,Bool.and_true],by simp only [stB,reduceIte,reduceCtorEq,Nat.reduceEqDiff,Nat.reduceAdd,Nat.reduceMul,Nat.reduceLeDiff,Nat.reduceLT,Nat.reduceSub,Nat.reduceBEq,hjn,hjb]⟩
 rintro m q hqn hqa ⟨i,rfl,hi,h43,h4',hqb⟩;simp only [stB,reduceIte,reduceCtorEq,Nat.reduceEqDiff,Nat.reduceAdd,Nat.reduceMul,Nat.reduceLeDiff,Nat.reduceLT,Nat.reduceSub,Nat.reduceBEq,hqn,hjn] at h43 h4' hqb;have hqb2:q.hb 2=.cells ((bU es d).map .d):=by rw [hqb];exact kU
 simp only [bU,List.map_cons,List.map_nil] at hqb2
 rcases Nat.lt_or_ge i es.length with hlt | hge
 ·have ga:es[i]? = some (es[i]):=List.getElem?_eq_getElem hlt;generalize es[i]=x at ga;have hat:=wo (f:=evK d) ga;have ilt:(i:Int) < (es.length:Int):=by omega
  have i0:(0:Int)≤(i:Int):=by omega
  have w3:IntKind.i64.wrap ((i:Int)+1)=((i+1:Nat):Int):=by rw [fE (by omega) (by omega)];omega
  cases hcur:(v2 && (es.take i).all (evK d)) with
  | false =>
    rw [hcur] at h4';simp only [↓evP,evB,stB,reduceIte,reduceCtorEq,Nat.reduceEqDiff,Nat.reduceAdd,Nat.reduceMul,Nat.reduceLeDiff,Nat.reduceLT,Nat.reduceSub,Nat.reduceBEq,s1,h43,h4',hqn,hjn,hqb2,m1,m2,ilt,i0,ga,Ev.row,decide_true]
    exact ⟨_,by omega,(by repeat' (first | assumption | exact bC (by assumption) | (refine aK ?_ rfl rfl) | (refine aD ?_ rfl) | (refine aK ?_ rfl aN) | (refine aD ?_ aN))),i+1,rfl,hlt,by simp only [stB,reduceIte,reduceCtorEq,Nat.reduceEqDiff,Nat.reduceAdd,Nat.reduceMul,Nat.reduceLeDiff,Nat.reduceLT,Nat.reduceSub,Nat.reduceBEq,h43,w3],by simp only [stB,reduceIte,reduceCtorEq,Nat.reduceEqDiff,Nat.reduceAdd,Nat.reduceMul,Nat.reduceLeDiff,Nat.reduceLT,Nat.reduceSub,Nat.reduceBEq,h4'];rw [hat,←Bool.and_assoc,hcur];rfl,by simp only [stB,reduceIte,reduceCtorEq,Nat.reduceEqDiff,Nat.reduceAdd,Nat.reduceMul,Nat.reduceLeDiff,Nat.reduceLT,Nat.reduceSub,Nat.reduceBEq,hqn,hqb]⟩
  | true =>
    rw [hcur] at h4';simp only [↓evP,evB,stB,reduceIte,reduceCtorEq,Nat.reduceEqDiff,Nat.reduceAdd,Nat.reduceMul,Nat.reduceLeDiff,Nat.reduceLT,Nat.reduceSub,Nat.reduceBEq,s1,h43,h4',hqn,hjn,hqb2,m1,m2,ilt,i0,ga,Ev.row,decide_true];refine aC [pB x.valid] (by exact ⟨x,rfl,rfl⟩) ?_
    cases hxv:x.valid with
    | false =>
      simp only [↓evP,evB,stB,reduceIte,reduceCtorEq,Nat.reduceEqDiff,Nat.reduceAdd,Nat.reduceMul,Nat.reduceLeDiff,Nat.reduceLT,Nat.reduceSub,Nat.reduceBEq,s1,h43,h4',hqn,hjn,hqb2,m1,m2,ilt,i0,ga,Ev.row,decide_true]
      exact ⟨_,by omega,(by repeat' (first | assumption | exact bC (by assumption) | (refine aK ?_ rfl rfl) | (refine aD ?_ rfl) | (refine aK ?_ rfl aN) | (refine aD ?_ aN))),i+1,rfl,hlt,by simp only [stB,reduceIte,reduceCtorEq,Nat.reduceEqDiff,Nat.reduceAdd,Nat.reduceMul,Nat.reduceLeDiff,Nat.reduceLT,Nat.reduceSub,Nat.reduceBEq,h43,w3],by simp only [stB,reduceIte,reduceCtorEq,Nat.reduceEqDiff,Nat.reduceAdd,Nat.reduceMul,Nat.reduceLeDiff,Nat.reduceLT,Nat.reduceSub,Nat.reduceBEq,h4'];rw [hat,←Bool.and_assoc,hcur,Bool.true_and,evK,hxv];rfl,by simp only [stB,reduceIte,reduceCtorEq,Nat.reduceEqDiff,Nat.reduceAdd,Nat.reduceMul,Nat.reduceLeDiff,Nat.reduceLT,Nat.reduceSub,Nat.reduceBEq,hqn,hqb]⟩
    | true =>
      simp only [↓evP,evB,stB,reduceIte,reduceCtorEq,Nat.reduceEqDiff,Nat.reduceAdd,Nat.reduceMul,Nat.reduceLeDiff,Nat.reduceLT,Nat.reduceSub,Nat.reduceBEq,s1,h43,h4',hqn,hjn,hqb2,m1,m2,ilt,i0,ga,Ev.row,decide_true]
      exact ⟨_,by omega,(by repeat' (first | assumption | exact bC (by assumption) | (refine aK ?_ rfl rfl) | (refine aD ?_ rfl) | (refine aK ?_ rfl aN) | (refine aD ?_ aN))),i+1,rfl,hlt,by simp only [stB,reduceIte,reduceCtorEq,Nat.reduceEqDiff,Nat.reduceAdd,Nat.reduceMul,Nat.reduceLeDiff,Nat.reduceLT,Nat.reduceSub,Nat.reduceBEq,h43,w3],by simp only [stB,reduceIte,reduceCtorEq,Nat.reduceEqDiff,Nat.reduceAdd,Nat.reduceMul,Nat.reduceLeDiff,Nat.reduceLT,Nat.reduceSub,Nat.reduceBEq,h4'];rw [hat,←Bool.and_assoc,hcur,Bool.true_and,evK,hxv];rfl,by simp only [stB,reduceIte,reduceCtorEq,Nat.reduceEqDiff,Nat.reduceAdd,Nat.reduceMul,Nat.reduceLeDiff,Nat.reduceLT,Nat.reduceSub,Nat.reduceBEq,hqn,hqb]⟩
 have hie:i=es.length:=by omega
 subst hie;rw [List.take_length,←hv2,←hv,←FJ] at h4';have ilt2:¬ (es.length:Int) < (es.length:Int):=by omega
 by_cases hS:dJ es d
 ·rw [kT hS] at h4';simp only [↓evP,evB,stB,reduceIte,reduceCtorEq,Nat.reduceEqDiff,Nat.reduceAdd,Nat.reduceMul,Nat.reduceLeDiff,Nat.reduceLT,Nat.reduceSub,Nat.reduceBEq,s1,h43,h4',hqn,hjn,ilt2,decide_false]
  exact D6 hS hyes (by simp only [stB,reduceIte,reduceCtorEq,Nat.reduceEqDiff,Nat.reduceAdd,Nat.reduceMul,Nat.reduceLeDiff,Nat.reduceLT,Nat.reduceSub,Nat.reduceBEq,s1]) (by simp only [stB,reduceIte,reduceCtorEq,Nat.reduceEqDiff,Nat.reduceAdd,Nat.reduceMul,Nat.reduceLeDiff,Nat.reduceLT,Nat.reduceSub,Nat.reduceBEq,h4']) (by simp only [stB,reduceIte,reduceCtorEq,Nat.reduceEqDiff,Nat.reduceAdd,Nat.reduceMul,Nat.reduceLeDiff,Nat.reduceLT,Nat.reduceSub,Nat.reduceBEq,hqn,hjn,hqb]) (by simp only [stB,reduceIte,reduceCtorEq,Nat.reduceEqDiff,Nat.reduceAdd,Nat.reduceMul,Nat.reduceLeDiff,Nat.reduceLT,Nat.reduceSub,Nat.reduceBEq,hqn,hjn,inc]) (by repeat' (first | exact aQ.init | assumption | exact bq (by assumption) | (refine aQ.ap ?_ rfl)))
 ·rw [gX hS] at h4';simp only [↓evP,evB,stB,reduceIte,reduceCtorEq,Nat.reduceEqDiff,Nat.reduceAdd,Nat.reduceMul,Nat.reduceLeDiff,Nat.reduceLT,Nat.reduceSub,Nat.reduceBEq,s1,h43,h4',hqn,hjn,ilt2,decide_false];exact GX (hno hS) (by simp only [stB,reduceIte,reduceCtorEq,Nat.reduceEqDiff,Nat.reduceAdd,Nat.reduceMul,Nat.reduceLeDiff,Nat.reduceLT,Nat.reduceSub,Nat.reduceBEq,h4'])
theorem LK {es:List Ev} {d:Dep} (hel:es.length≤1000) (hl:d.st.length≤1000000∧d.pr.length≤1000000) (h64:d.gQ) {Q:Exit→St→Prop} (hno:¬ dJ es d→∀ st:St,(st.sl 2).hw=some (.one (.d (.im [])))→(st.sl 3).hw=some (.one (hI 1))→Q .ret st) (hyes:dJ es d→∀ st,IL es d st→Q .normal st) :
 pwp iO pcw12A Q (St.jM (fun b=>b) (fun _=>.no) (slA es d)):=by
 have m1:(d.st.map aJ).length=d.st.length:=List.length_map ..;have m2:(es.map Ev.row).length=es.length:=List.length_map ..;obtain ⟨I,hI⟩:∃ I,St.jM (fun b=>b) (fun _=>.no) (slA es d)=I:=⟨_,rfl⟩
 have i0:I.sl 0=.b (gY es d).bv:=by rw [←hI];rfl
 have ig:∀ o,I.gen o=0:=fun o=>by rw [←hI];rfl
 have ih:I.hb=fun _=>.no:=by rw [←hI];exact kE _ _ _
 have inc:I.nc=fun b=>b:=by rw [←hI];rfl
 have ia:aQ I:=by rw [←hI];exact oG
 rw [hI];clear hI;unfold pcw12A
 with_reducible refine aH ?_
 simp only [↓evP,evB,stB,reduceIte,reduceCtorEq,Nat.reduceEqDiff,Nat.reduceAdd,Nat.reduceMul,Nat.reduceLeDiff,Nat.reduceLT,Nat.reduceSub,Nat.reduceBEq,i0,gY,bU,Pa.bv]
 refine wO (cs:=(bU es d).map .d) (hs:=(bU es d).map .d) 2 (iC (by simp only [stB,reduceIte,reduceCtorEq,Nat.reduceEqDiff,Nat.reduceAdd,Nat.reduceMul,Nat.reduceLeDiff,Nat.reduceLT,Nat.reduceSub,Nat.reduceBEq,inc]) (by repeat' (first | exact aQ.init | assumption | exact bq (by assumption) | (refine aQ.ap ?_ rfl))) (by simp only [stB,reduceIte,reduceCtorEq,Nat.reduceEqDiff,Nat.reduceAdd,Nat.reduceMul,Nat.reduceLeDiff,Nat.reduceLT,Nat.reduceSub,Nat.reduceBEq,ih])) (by simp only [stB,reduceIte,reduceCtorEq,Nat.reduceEqDiff,Nat.reduceAdd,Nat.reduceMul,Nat.reduceLeDiff,Nat.reduceLT,Nat.reduceSub,Nat.reduceBEq,i0,gY,bU,Pa.bv];first | done | rfl) (by simp only [bU,List.map_cons,List.map_nil];first | done | rfl) ?_
 simp only [↓evP,evB,stB,reduceIte,reduceCtorEq,Nat.reduceEqDiff,Nat.reduceAdd,Nat.reduceMul,Nat.reduceLeDiff,Nat.reduceLT,Nat.reduceSub,Nat.reduceBEq,i0,ih,inc,bU,jV];refine aC [pB (pW d)] (by exact ⟨d,rfl,⟨hl,h64⟩,rfl⟩) ?_;have b1:(es.length:Int)≤5000:=by omega
 have hv:∃ v,pW d=v:=⟨_,rfl⟩
 obtain ⟨v,hv⟩:=hv;have hc:∀ b:Bool,(if b=true then true else false)=b:=fun b=>by cases b <;> rfl
 generalize hK:exS _ _ _ Exit.normal=KK
 cases v with
 | true =>
   rw [hv];simp only [↓evP,evB,stB,reduceIte,reduceCtorEq,Nat.reduceEqDiff,Nat.reduceAdd,Nat.reduceMul,Nat.reduceLeDiff,Nat.reduceLT,Nat.reduceSub,Nat.reduceBEq,i0,ih,inc,jV,m2,b1,decide_true];rw [←hK,yL]
   exact rV hel hl hno hyes hv (by simp only [stB,reduceIte,reduceCtorEq,Nat.reduceEqDiff,Nat.reduceAdd,Nat.reduceMul,Nat.reduceLeDiff,Nat.reduceLT,Nat.reduceSub,Nat.reduceBEq]) (by simp only [stB,reduceIte,reduceCtorEq,Nat.reduceEqDiff,Nat.reduceAdd,Nat.reduceMul,Nat.reduceLeDiff,Nat.reduceLT,Nat.reduceSub,Nat.reduceBEq]) (by simp only [stB,reduceIte,reduceCtorEq,Nat.reduceEqDiff,Nat.reduceAdd,Nat.reduceMul,Nat.reduceLeDiff,Nat.reduceLT,Nat.reduceSub,Nat.reduceBEq];rw [jY (by rintro p hp;rw [List.mem_singleton.1 hp];simp only [inc]),ih];rfl) (by simp only [stB,reduceIte,reduceCtorEq,Nat.reduceEqDiff,Nat.reduceAdd,Nat.reduceMul,Nat.reduceLeDiff,Nat.reduceLT,Nat.reduceSub,Nat.reduceBEq,inc]) (by repeat' (first | exact aQ.init | assumption | exact bq (by assumption) | (refine aQ.ap ?_ rfl)))
 | false =>
   rw [hv];simp only [↓evP,evB,stB,reduceIte,reduceCtorEq,Nat.reduceEqDiff,Nat.reduceAdd,Nat.reduceMul,Nat.reduceLeDiff,Nat.reduceLT,Nat.reduceSub,Nat.reduceBEq,i0,ih,inc,jV,m2,b1,decide_true];rw [←hK,yL]
   exact rV hel hl hno hyes hv (by simp only [stB,reduceIte,reduceCtorEq,Nat.reduceEqDiff,Nat.reduceAdd,Nat.reduceMul,Nat.reduceLeDiff,Nat.reduceLT,Nat.reduceSub,Nat.reduceBEq]) (by simp only [stB,reduceIte,reduceCtorEq,Nat.reduceEqDiff,Nat.reduceAdd,Nat.reduceMul,Nat.reduceLeDiff,Nat.reduceLT,Nat.reduceSub,Nat.reduceBEq]) (by simp only [stB,reduceIte,reduceCtorEq,Nat.reduceEqDiff,Nat.reduceAdd,Nat.reduceMul,Nat.reduceLeDiff,Nat.reduceLT,Nat.reduceSub,Nat.reduceBEq];rw [jY (by rintro p hp;rw [List.mem_singleton.1 hp];simp only [inc]),ih];rfl) (by simp only [stB,reduceIte,reduceCtorEq,Nat.reduceEqDiff,Nat.reduceAdd,Nat.reduceMul,Nat.reduceLeDiff,Nat.reduceLT,Nat.reduceSub,Nat.reduceBEq,inc]) (by repeat' (first | exact aQ.init | assumption | exact bq (by assumption) | (refine aQ.ap ?_ rfl)))
def iY (es:List Ev) (d:Dep) (k:Nat):List Nat:=eY ++ ((List.range k).map (ny d es)).flatten
structure lQ (es:List Ev) (d:Dep) (E:List Ev) (F:List Nat) (hp:Nat→Hb) (N bf:Nat):Prop where
 w:WAt hp 10 N (lst ev0 E) [] none
 h2:hp 2=.cells ((bU es d).map .d)
 h11:hp 11=.cells [.h (.v bf)]
 h12:hp 12=.cells [.h (.f 25 [(10,0)] [])]
 h13:hp 13=.cells [hI (bn E 0:Nat)]
 hf:hp bf=.vec 5 1 (byR F)
 lt:bf < N∧13 < N∧bf≠10
abbrev xB (es:List Ev) (d:Dep) (k:Nat) (hp:Nat→Hb) (N bf:Nat):Prop:=lQ es d (es.take (16 * k)) (iY es d k) hp N bf
def fO (d:Dep) (E cs:List Ev):List Nat:=oQ d (bn E 0) (bn (E ++ cs) 0) ++ (aS cs.length ++ eF (lst ev0 E) cs)
theorem GU (d:Dep) (es:List Ev) (k:Nat):fO d (es.take (16 * k)) (bF es (16 * k) 16)=kN d es k:=by
 unfold fO kN;rw [fV]
def fF (d:Dep) (l:List Ev):Prop:=∀ e ∈ l,e.valid=true∧e.stack < (d.st.length:Int)
theorem fF.app {d:Dep} {a b:List Ev} (ha:fF d a) (hb:fF d b):fF d (a ++ b):=fun e h=>(List.mem_append.1 h).elim (ha e) (hb e)
theorem fF.need {d:Dep} {l:List Ev} (h:fF d l):bn l 0≤d.st.length:=wR h (Nat.zero_le _)
theorem rU {d:Dep} {E cs:List Ev} (hl:d.st.length≤1000) (he:fF d E) (hc:fF d cs) (hn:cs.length≤16):(fO d E cs).length≤30000:=by
 unfold fO;rw [List.length_append,List.length_append];have h1:=gK d (bn E 0) (bn (E ++ cs) 0);have h2:=(he.app hc).need;have h4:=bD cs.length;have h5:=jr cs (lst ev0 E);omega
theorem yh {d:Dep} {E cs:List Ev} (hd:d.ok) (he:fF d E) (hc:fF d cs) (hn:cs.length≤16):∀ x ∈ fO d E cs,x≤255:=by
 have h2:=(he.app hc).need;refine jy (nY hd ?_ h2) (jy (dW (by omega)) (lX (uN Dp fun e h=>(he e h).1) fun e h=>(hc e h).1));rw [iD];exact nJ _ _
theorem EO (es:List Ev) (d:Dep):xB es d 0 (hpA es d) 66 65:=by
 refine ⟨⟨rfl,rfl,(fun h=>by cases h),by decide,fun b hb=>?_⟩,rfl,rfl,rfl,rfl,rfl,by decide⟩;unfold hpA;rw [if_neg (by omega),if_neg (by omega),if_neg (by omega),if_neg (by omega),if_neg (by omega),if_neg (by omega)]
def slB (x:Nat):Av:=if x=1 then .b (.one (.hv (.p 2 0))) else if x=9 then .b (.one (.hv (.p 10 0))) else if x=10 then .b (.one (.hv (.p 11 0))) else if x=11 then .b (.one (.hv (.p 12 0))) else if x=12 then .b (.one (.hv (.p 13 0))) else .un
noncomputable def qP:Env:=h1 25 F7 (p1 28 F8 (p1 29 uq e0))
theorem qp:ay Try.prog qP:=ay.h1 KE (ay.p1 KF (ay.p1 zO ay.e0))
theorem Br (es:List Ev) (d:Dep):iY es d (dS es) ++ bO 69 (lW d es)=gI es d:=by
 unfold iY gI bJ;rw [List.flatten_append,List.append_assoc];simp
theorem Bt {es:List Ev} {d:Dep} (ok:qW d es) (he:es.length≤80) (k:Nat) (hk:k≤dS es):(iY es d k).length≤400000:=by
 have h1:=wG (l:=(List.range k).map (ny d es)) (c:=30014) fun b q=>mZ ok b (by
  obtain ⟨i,hi,rfl⟩:=List.mem_map.1 q;exact List.mem_append_left _ (List.mem_map.2 ⟨i,List.mem_range.2 (by have:=List.mem_range.1 hi;omega),rfl⟩))
 rw [List.length_map,List.length_range] at h1;have h2:k≤5:=by unfold dS at hk;omega
 have h3:=Nat.mul_le_mul_left 30014 h2;unfold iY;rw [List.length_append];have:eY.length=8:=rfl;omega
theorem encZ {es:List Ev} {d:Dep} {hp:Nat→Hb} {N bf:Nat} (ok:qW d es) (he:es.length≤80) (hL:xB es d (dS es) hp N bf) {Q:Exit→St→Prop} (hQ:∀ (st:St) (b:Nat),(st.sl 2).hw=some (.one (.h (.v b)))→st.hb b=.vec 5 1 (byR (gI es d))→(st.sl 3).hw=some (.one (hI 0))→Q .ret st) :
 pwp qP pcw12Z Q (St.jM (fun _=>1) hp slB):=by
 have m1:(d.st.map aJ).length=d.st.length:=List.length_map ..;have m2:(es.map Ev.row).length=es.length:=List.length_map ..;obtain ⟨I,hI⟩:∃ I,St.jM (fun _=>1) hp slB=I:=⟨_,rfl⟩
 have i1:I.sl 1=.b (.one (.hv (.p 2 0))):=by rw [←hI];rfl
 have i9:I.sl 9=.b (.one (.hv (.p 10 0))):=by rw [←hI];rfl
 have i10:I.sl 10=.b (.one (.hv (.p 11 0))):=by rw [←hI];rfl
 have i11:I.sl 11=.b (.one (.hv (.p 12 0))):=by rw [←hI];rfl
 have i12:I.sl 12=.b (.one (.hv (.p 13 0))):=by rw [←hI];rfl
 have ih:I.hb=hp:=by rw [←hI];exact kE _ _ _
 have ia:aQ I:=by rw [←hI];exact oG
 rw [hI];clear hI;have h2:=hL.h2;have h13:=hL.h13;simp only [bU,List.map_cons,List.map_nil] at h2;have htk:es.take (16 * dS es)=es:=List.take_of_length_le (by unfold dS;omega)
 rw [htk] at h13;have hn:=ok.need es.length;rw [List.take_length] at hn;unfold pcw12Z
 with_reducible refine aH ?_
 simp only [↓evP,evB,stB,reduceIte,reduceCtorEq,Nat.reduceEqDiff,Nat.reduceAdd,Nat.reduceMul,Nat.reduceLeDiff,Nat.reduceLT,Nat.reduceSub,Nat.reduceBEq,i1,i9,i10,i11,i12,ih,h2,h13,m1,m2];refine bK _ (by simp only [stB,reduceIte,reduceCtorEq,Nat.reduceEqDiff,Nat.reduceAdd,Nat.reduceMul,Nat.reduceLeDiff,Nat.reduceLT,Nat.reduceSub,Nat.reduceBEq,ih];exact ⟨10,N,none,_,[],d,bn es 0,d.st.length,rfl,⟨hL.w,by simp,ok.dk,hn,Nat.le_refl _⟩,rfl⟩) ?_
 rintro h3 r ⟨rfl,N3,x3,hW3,hS3⟩;have g2:h3 2=hp 2:=hS3.out 2 (by have:=hL.lt;omega) (by decide) (by simp)
 rw [h2] at g2;simp only [↓evP,evB,stB,reduceIte,reduceCtorEq,Nat.reduceEqDiff,Nat.reduceAdd,Nat.reduceMul,Nat.reduceLeDiff,Nat.reduceLT,Nat.reduceSub,Nat.reduceBEq,i1,i9,i10,i11,i12,g2,m1,m2];refine bK _ (by simp only [stB,reduceIte,reduceCtorEq,Nat.reduceEqDiff,Nat.reduceAdd,Nat.reduceMul,Nat.reduceLeDiff,Nat.reduceLT,Nat.reduceSub,Nat.reduceBEq];exact ⟨10,N3,x3,_,_,es.length,rfl,⟨hW3,by omega,by have:=gK d (bn es 0) d.st.length;have:=ok.len;simp only [List.nil_append];omega⟩,rfl⟩) ?_
 rintro h4 r ⟨rfl,N4,x4,hW4,hS4⟩;have hC:([] ++ oQ d (bn es 0) d.st.length ++ aS es.length:List Nat)=lW d es:=rfl;rw [hC] at hW4;have hS:=hS3.trans hS4;have hlt:=hL.lt
 obtain ⟨v,hv⟩:∃ v,x4=some v:=by
  cases x4 with
  | some v=>exact ⟨v,rfl⟩
  | none =>
    have h0:lW d es=[]:=hW4.v;have:=gV es.length;rw [←hC] at h0;have:=congrArg List.length h0;rw [List.length_append,List.length_nil] at this;omega
 subst hv;have hvv:=hW4.v;have hw:=hW4.h;have hbig:=qN ok;have g11:h4 11=.cells [.h (.v bf)]:=(hS.out 11 (by omega) (by decide) (by simp)).trans hL.h11;have g12:h4 12=.cells [.h (.f 25 [(10,0)] [])]:=(hS.out 12 (by omega) (by decide) (by simp)).trans hL.h12;have gbf:h4 bf=.vec 5 1 (byR (iY es d (dS es))):=(hS.out bf hlt.1 hlt.2.2 (by simp)).trans hL.hf
 have hvb:v≠bf:=by
  intro q
  rcases hS.nx v rfl with h | h
  ·cases h
  ·have:=hlt.1;omega
 have hle:=hS.le;have cl:=aY (lW d es);have big:¬ (((lW d es).length:Int) > 1048576):=by omega
 have hv1:=hvv.1;simp only [↓evP,evB,stB,reduceIte,reduceCtorEq,Nat.reduceEqDiff,Nat.reduceAdd,Nat.reduceMul,Nat.reduceLeDiff,Nat.reduceLT,Nat.reduceSub,Nat.reduceBEq,i1,i9,i10,i11,i12,hw,hv1,vC,cl,big,g11,g12,decide_false];refine cZ (lS h4 10 bf N4 (lst ev0 (es.take (16 * dS es))) (iY es d (dS es)) (lW d es) 69) [.one (.h (.v (l9 N4 (lW d es))))] (by simp only [stB,reduceIte,reduceCtorEq,Nat.reduceEqDiff,Nat.reduceAdd,Nat.reduceMul,Nat.reduceLeDiff,Nat.reduceLT,Nat.reduceSub,Nat.reduceBEq];exact ⟨10,bf,N4,some v,_,iY es d (dS es),lW d es,69,rfl,⟨hW4,⟨gbf,by omega,hlt.2.2,fun q=>hvb (Option.some.inj q)⟩,Bt ok he _ (Nat.le_refl _),by omega,by decide,rW ok⟩,rfl,rfl⟩) ?_
 simp only [↓evP,evB,stB,reduceIte,reduceCtorEq,Nat.reduceEqDiff,Nat.reduceAdd,Nat.reduceMul,Nat.reduceLeDiff,Nat.reduceLT,Nat.reduceSub,Nat.reduceBEq];refine hQ _ (l9 N4 (lW d es)) (by simp only [stB,reduceIte,reduceCtorEq,Nat.reduceEqDiff,Nat.reduceAdd,Nat.reduceMul,Nat.reduceLeDiff,Nat.reduceLT,Nat.reduceSub,Nat.reduceBEq];first | done | rfl) ?_ (by simp only [stB,reduceIte,reduceCtorEq,Nat.reduceEqDiff,Nat.reduceAdd,Nat.reduceMul,Nat.reduceLeDiff,Nat.reduceLT,Nat.reduceSub,Nat.reduceBEq];first | done | rfl)
 simp only [stB,reduceIte,reduceCtorEq,Nat.reduceEqDiff,Nat.reduceAdd,Nat.reduceMul,Nat.reduceLeDiff,Nat.reduceLT,Nat.reduceSub,Nat.reduceBEq];have hne:l9 N4 (lW d es)≠10:=by unfold l9;omega
 show up _ _ _ _=_
 rw [eH hne,←Br];exact gZ
def slC (cs:List Ev) (x:Nat):Av:=if x=13 then .b (.one (.d (.im (cs.map Ev.row)))) else slB x
noncomputable def wz:Env:=p1 30 IW (e1 27 zT qP)
theorem yA:ay Try.prog wz:=ay.p1 Ls (ay.e1 Io qp)
theorem Gj:∀ {es:List Ev} {l:Ev},evG l→(∀ e ∈ es,evG e)→evG (lst l es)
 | [],_,h,_=>h
 | e :: es,_,_,h=>Gj (es:=es) (h e (List.mem_cons_self ..)) fun x hx=>h x (List.mem_cons_of_mem _ hx)
theorem LM {es:List Ev} {d:Dep} {hp:Nat→Hb} {N bf:Nat} {E cs:List Ev} {F:List Nat} (hdk:d.ok) (hl:d.st.length≤1000) (hE:fF d E) (hC:fF d cs) (hcl:cs.length≤16) (hF:F.length≤400000) (hL:lQ es d E F hp N bf) {Q:Exit→St→Prop}
 (hQ:∀ (st:St) (N' bf':Nat),lQ es d (E ++ cs) (F ++ bO 66 (fO d E cs)) st.hb N' bf'→Q .normal st) :
 pwp wz pcw12B Q (St.jM (fun _=>1) hp (slC cs)):=by
 have m1:(d.st.map aJ).length=d.st.length:=List.length_map ..;obtain ⟨I,hI⟩:∃ I,St.jM (fun _=>1) hp (slC cs)=I:=⟨_,rfl⟩
 have i1:I.sl 1=.b (.one (.hv (.p 2 0))):=by rw [←hI];rfl
 have i9:I.sl 9=.b (.one (.hv (.p 10 0))):=by rw [←hI];rfl
 have i10:I.sl 10=.b (.one (.hv (.p 11 0))):=by rw [←hI];rfl
 have i11:I.sl 11=.b (.one (.hv (.p 12 0))):=by rw [←hI];rfl
 have i12:I.sl 12=.b (.one (.hv (.p 13 0))):=by rw [←hI];rfl
 have i13:I.sl 13=.b (.one (.d (.im (cs.map Ev.row)))):=by rw [←hI];rfl
 have ih:I.hb=hp:=by rw [←hI];exact kE _ _ _
 have ia:aQ I:=by rw [←hI];exact oG
 rw [hI];clear hI;have hcg:∀ e ∈ cs,evG e:=fun e h=>yT (hC e h).1
 have m2:(cs.map Ev.row).length=cs.length:=List.length_map ..;have h2:=hL.h2;have h13:=hL.h13;simp only [bU,List.map_cons,List.map_nil] at h2;have hn0:=hE.need;have hn1:=(hE.app hC).need;have hneed:bn cs (bn E 0)=bn (E ++ cs) 0:=by rw [←iD]
 have hnn:bn E 0≤bn (E ++ cs) 0:=by rw [←hneed];exact nJ _ _
 unfold pcw12B
 with_reducible refine aH ?_
 simp only [↓evP,evB,stB,reduceIte,reduceCtorEq,Nat.reduceEqDiff,Nat.reduceAdd,Nat.reduceMul,Nat.reduceLeDiff,Nat.reduceLT,Nat.reduceSub,Nat.reduceBEq,i1,i9,i10,i11,i12,i13,ih,h2,h13,m1,m2];refine aC [pI (bn (E ++ cs) 0:Nat)] (by exact ⟨_,cs,rfl,⟨by omega,by omega,hcg⟩,by rw [hneed]⟩) ?_;simp only [↓evP,evB,stB,reduceIte,reduceCtorEq,Nat.reduceEqDiff,Nat.reduceAdd,Nat.reduceMul,Nat.reduceLeDiff,Nat.reduceLT,Nat.reduceSub,Nat.reduceBEq,i1,i9,i10,i11,i12,i13,ih,h2,h13,m1,m2];refine bK _ (by simp only [stB,reduceIte,reduceCtorEq,Nat.reduceEqDiff,Nat.reduceAdd,Nat.reduceMul,Nat.reduceLeDiff,Nat.reduceLT,Nat.reduceSub,Nat.reduceBEq,ih];exact ⟨10,N,none,_,[],d,_,_,rfl,⟨hL.w,by simp,hdk,hnn,hn1⟩,rfl⟩) ?_
 rintro h3 r ⟨rfl,N3,x3,hW3,hS3⟩;simp only [↓evP,evB,stB,reduceIte,reduceCtorEq,Nat.reduceEqDiff,Nat.reduceAdd,Nat.reduceMul,Nat.reduceLeDiff,Nat.reduceLT,Nat.reduceSub,Nat.reduceBEq,i1,i9,i10,i11,i12,i13,m2];refine bK _ (by simp only [stB,reduceIte,reduceCtorEq,Nat.reduceEqDiff,Nat.reduceAdd,Nat.reduceMul,Nat.reduceLeDiff,Nat.reduceLT,Nat.reduceSub,Nat.reduceBEq];exact ⟨10,N3,x3,_,_,cs.length,rfl,⟨hW3,by omega,by have:=gK d (bn E 0) (bn (E ++ cs) 0);simp only [List.nil_append];omega⟩,rfl⟩) ?_
 rintro h4 r ⟨rfl,N4,x4,hW4,hS4⟩;simp only [↓evP,evB,stB,reduceIte,reduceCtorEq,Nat.reduceEqDiff,Nat.reduceAdd,Nat.reduceMul,Nat.reduceLeDiff,Nat.reduceLT,Nat.reduceSub,Nat.reduceBEq,i1,i9,i10,i11,i12,i13,m2];obtain ⟨l0,hl0⟩:∃ l0,lst ev0 E=l0:=⟨_,rfl⟩
 have hl0g:evG l0:=by rw [←hl0];exact uN Dp fun e h=>(hE e h).1
 have hl1:lst l0 cs=lst ev0 (E ++ cs):=by rw [qB,hl0]
 rw [hl0] at hW4;have hS:=hS3.trans hS4;obtain ⟨B0,hB0⟩:∃ B0,([] ++ oQ d (bn E 0) (bn (E ++ cs) 0) ++ aS cs.length:List Nat)=B0:=⟨_,rfl⟩
 have hB0l:B0.length≤28000:=by
  rw [←hB0];have:=gK d (bn E 0) (bn (E ++ cs) 0);have:=bD cs.length;simp only [List.nil_append,List.length_append];omega
 rw [hB0] at hW4;refine dY msw12B_0 osw12B_0 (fun m t=>∃ i N2 x2,m=cs.length - i∧i≤cs.length∧t.sl 84=aI i∧WAt t.hb 10 N2 (lst l0 (cs.take i)) (B0 ++ eF l0 (cs.take i)) x2∧kK hp 10 N none t.hb N2 x2) cs.length (by repeat' (first | exact aQ.init | assumption | exact bq (by assumption) | (refine aQ.ap ?_ rfl))) ?_ ?_
 ·exact ⟨0,N4,x4,rfl,Nat.zero_le _,by simp only [stB,reduceIte,reduceCtorEq,Nat.reduceEqDiff,Nat.reduceAdd,Nat.reduceMul,Nat.reduceLeDiff,Nat.reduceLT,Nat.reduceSub,Nat.reduceBEq];first | done | rfl,by simp only [stB,reduceIte,reduceCtorEq,Nat.reduceEqDiff,Nat.reduceAdd,Nat.reduceMul,Nat.reduceLeDiff,Nat.reduceLT,Nat.reduceSub,Nat.reduceBEq];rw [show eF l0 []=[] from rfl,List.append_nil];exact hW4,by simp only [stB,reduceIte,reduceCtorEq,Nat.reduceEqDiff,Nat.reduceAdd,Nat.reduceMul,Nat.reduceLeDiff,Nat.reduceLT,Nat.reduceSub,Nat.reduceBEq];exact hS⟩
 rintro m j hjn hja ⟨i,N5,x5,rfl,hi,h84,hW5,hS5⟩;simp only [stB,reduceIte,reduceCtorEq,Nat.reduceEqDiff,Nat.reduceAdd,Nat.reduceMul,Nat.reduceLeDiff,Nat.reduceLT,Nat.reduceSub,Nat.reduceBEq,hjn] at h84 hW5 hS5
 rcases Nat.lt_or_ge i cs.length with hlt | hge
 ·have ga:cs[i]? = some (cs[i]):=List.getElem?_eq_getElem hlt;generalize cs[i]=e at ga;have heg:=hcg e (List.mem_of_getElem? ga);have hlg:evG (lst l0 (cs.take i)):=Gj hl0g fun x h=>hcg x (kF h)
  have ilt:(i:Int) < (cs.length:Int):=by omega
  have i0:(0:Int)≤(i:Int):=by omega
  have w3:IntKind.i64.wrap ((i:Int)+1)=((i+1:Nat):Int):=by rw [fE (by omega) (by omega)];omega
  have hev:=jr (cs.take i) l0;rw [List.length_take] at hev;simp only [↓evP,evB,stB,reduceIte,reduceCtorEq,Nat.reduceEqDiff,Nat.reduceAdd,Nat.reduceMul,Nat.reduceLeDiff,Nat.reduceLT,Nat.reduceSub,Nat.reduceBEq,i9,i13,h84,m2,ilt,i0,ga,Ev.row,decide_true];refine bK _ (by simp only [stB,reduceIte,reduceCtorEq,Nat.reduceEqDiff,Nat.reduceAdd,Nat.reduceMul,Nat.reduceLeDiff,Nat.reduceLT,Nat.reduceSub,Nat.reduceBEq,hjn];exact ⟨10,N5,x5,_,_,e,rfl,⟨hW5,by rw [List.length_append];omega,hlg,heg⟩,rfl⟩) ?_
  rintro h6 r ⟨rfl,N6,x6,hW6,hS6⟩;simp only [↓evP,evB,stB,reduceIte,reduceCtorEq,Nat.reduceEqDiff,Nat.reduceAdd,Nat.reduceMul,Nat.reduceLeDiff,Nat.reduceLT,Nat.reduceSub,Nat.reduceBEq,i9,i13,h84,m2,ilt,i0,ga,Ev.row,decide_true]
  exact ⟨_,by omega,(by repeat' (first | assumption | exact bC (by assumption) | (refine aK ?_ rfl rfl) | (refine aD ?_ rfl) | (refine aK ?_ rfl aN) | (refine aD ?_ aN))),i+1,N6,x6,rfl,hlt,by simp only [stB,reduceIte,reduceCtorEq,Nat.reduceEqDiff,Nat.reduceAdd,Nat.reduceMul,Nat.reduceLeDiff,Nat.reduceLT,Nat.reduceSub,Nat.reduceBEq,h84,w3],by simp only [stB,reduceIte,reduceCtorEq,Nat.reduceEqDiff,Nat.reduceAdd,Nat.reduceMul,Nat.reduceLeDiff,Nat.reduceLT,Nat.reduceSub,Nat.reduceBEq];rw [take_at ga,qB,oq,rZ,Hz,←List.append_assoc];exact hW6,by simp only [stB,reduceIte,reduceCtorEq,Nat.reduceEqDiff,Nat.reduceAdd,Nat.reduceMul,Nat.reduceLeDiff,Nat.reduceLT,Nat.reduceSub,Nat.reduceBEq];exact hS5.trans hS6⟩
 have hie:i=cs.length:=by omega
 subst hie;rw [List.take_length] at hW5;have ilt:¬ (cs.length:Int) < (cs.length:Int):=by omega
 have hD:B0 ++ eF l0 cs=fO d E cs:=by
  unfold fO;rw [←hB0,hl0,List.nil_append,List.append_assoc]
 rw [hD,hl1] at hW5;have hbig:=rU hl hE hC hcl;have hbyte:=yh hdk hE hC hcl;obtain ⟨C,hCe⟩:∃ C,fO d E cs=C:=⟨_,rfl⟩
 rw [hCe] at hW5 hbig hbyte hQ;have hlt:=hL.lt;obtain ⟨h5,hh5⟩:∃ h5,j.hb=h5:=⟨_,rfl⟩
 rw [hh5] at hW5 hS5;have hle:=hS5.le;have g2:h5 2=.cells ((bU es d).map .d):=(hS5.out 2 (by omega) (by decide) (by simp)).trans hL.h2;have g11:h5 11=.cells [.h (.v bf)]:=(hS5.out 11 (by omega) (by decide) (by simp)).trans hL.h11;have g12:h5 12=.cells [.h (.f 25 [(10,0)] [])]:=(hS5.out 12 (by omega) (by decide) (by simp)).trans hL.h12;have g13:h5 13=.cells [hI (bn E 0:Nat)]:=(hS5.out 13 (by omega) (by decide) (by simp)).trans hL.h13;have gbf:h5 bf=.vec 5 1 (byR F):=(hS5.out bf hlt.1 hlt.2.2 (by simp)).trans hL.hf
 have hvb:x5≠some bf:=by
  intro q
  rcases hS5.nx bf q with h | h
  ·cases h
  ·have:=hlt.1;omega
 have n2:bf≠2:=by rintro rfl;rw [g2] at gbf;cases gbf
 have n11:bf≠11:=by rintro rfl;rw [g11] at gbf;cases gbf
 have n12:bf≠12:=by rintro rfl;rw [g12] at gbf;cases gbf
 have n13:bf≠13:=by rintro rfl;rw [g13] at gbf;cases gbf
 simp only [↓evP,evB,stB,reduceIte,reduceCtorEq,Nat.reduceEqDiff,Nat.reduceAdd,Nat.reduceMul,Nat.reduceLeDiff,Nat.reduceLT,Nat.reduceSub,Nat.reduceBEq,i9,i10,i11,i12,i13,h84,hjn,hh5,m2,ilt,g11,g12,decide_false];obtain ⟨h6,hh6⟩:∃ h6,lS h5 10 bf N5 (lst ev0 (E ++ cs)) F C 66=h6:=⟨_,rfl⟩
 have hkp:=gV C.length
 have o:∀ b,b < N5→b≠bf→b≠10→h6 b=h5 b:=fun b h1 h2 h3=>by
  rw [←hh6];unfold lS;rw [eH h3];exact iq h1 (fun q=>h2 (Option.some.inj q).symm)
 have k2:h6 2=.cells ((bU es d).map .d):=(o 2 (by omega) n2.symm (by decide)).trans g2;have k11:h6 11=.cells [.h (.v bf)]:=(o 11 (by omega) n11.symm (by decide)).trans g11;have k12:h6 12=.cells [.h (.f 25 [(10,0)] [])]:=(o 12 (by omega) n12.symm (by decide)).trans g12;have k13:h6 13=.cells [hI (bn E 0:Nat)]:=(o 13 (by omega) n13.symm (by decide)).trans g13;have k10:h6 10=.cells (vC none :: (lst ev0 (E ++ cs)).row.map .d):=by rw [←hh6];exact kU
 have hbk:l9 N5 C < N5+((aS C.length).length+3):=by unfold l9;omega
 have hbk2:N5≤l9 N5 C:=by unfold l9;omega
 have kb:h6 (l9 N5 C)=.vec 5 1 (byR (F ++ bO 66 C)):=by
  rw [←hh6];unfold lS;rw [eH (by omega)];exact gZ
 have kf:lN h6 (N5+((aS C.length).length+3)):=by
  intro b hb;rw [←hh6];unfold lS;rw [eH (by omega)];exact iG (fun b q=>by cases q;omega) hW5.fr b hb
 refine cZ h6 [.one (.h (.v (l9 N5 C)))] (by simp only [stB,reduceIte,reduceCtorEq,Nat.reduceEqDiff,Nat.reduceAdd,Nat.reduceMul,Nat.reduceLeDiff,Nat.reduceLT,Nat.reduceSub,Nat.reduceBEq,hjn,hh5];exact ⟨10,bf,N5,x5,_,F,C,66,rfl,⟨hW5,⟨gbf,by omega,hlt.2.2,hvb⟩,hF,by omega,by decide,hbyte⟩,hh6.symm,rfl⟩) ?_
 have hcv:(Cl.hv (.v (l9 N5 C))).hc=some (.h (.v (l9 N5 C))):=rfl;have n1113:¬ (13:Nat)=11:=by decide
 have o13:up h6 11 (.cells [.h (.v (l9 N5 C))]) 13=.cells [hI (bn E 0:Nat)]:=(eH (by decide)).trans k13;simp only [↓evP,evB,stB,reduceIte,reduceCtorEq,Nat.reduceEqDiff,Nat.reduceAdd,Nat.reduceMul,Nat.reduceLeDiff,Nat.reduceLT,Nat.reduceSub,Nat.reduceBEq,i9,i10,i11,i12,i13,hjn,hh5,k11,k13,o13,kQ];refine hQ _ (N5+((aS C.length).length+3)) (l9 N5 C) ?_;simp only [stB,reduceIte,reduceCtorEq,Nat.reduceEqDiff,Nat.reduceAdd,Nat.reduceMul,Nat.reduceLeDiff,Nat.reduceLT,Nat.reduceSub,Nat.reduceBEq];have u10:∀ {x y:Hb} {b:Nat},b≠13→b≠11→up (up h6 11 x) 13 y b=h6 b:=fun h1 h2=>by rw [eH h1,eH h2]
 refine ⟨⟨?_,rfl,(fun h=>by cases h),by omega,fun b hb=>?_⟩,?_,?_,?_,?_,?_,by omega,by omega,by omega⟩
 ·exact (u10 (by decide) (by decide)).trans k10
 ·exact (u10 (by omega) (by omega)).trans (kf b hb)
 ·exact (u10 (by decide) (by decide)).trans k2
 ·exact (eH (by decide)).trans kU
 ·exact (u10 (by decide) (by decide)).trans k12
 ·exact kU
 ·exact (u10 (by omega) (by omega)).trans kb
structure Tr (W:Wit) (w:World) (hp:Nat→Hb) (W':Wit) (w':World) (hp':Nat→Hb):Prop where
 rhp:RHp W' w' hp'
 keep:∀ m,W.lv m→W'.lv m∧W'.nm m=W.nm m∧W'.nv m=W.nv m
 but:jF (bV W hp) w w'
 fp:∀ k,bV W' hp' k→bV W hp k∨w.heap.size≤k
 S:∀ k,k < w.heap.size→W'.S k=W.S k
theorem Tr.refl {W:Wit} {w:World} {hp:Nat→Hb} (h:RHp W w hp):Tr W w hp W w hp:=⟨h,fun _ h=>⟨h,rfl,rfl⟩,⟨rfl,rfl,rfl,Nat.le_refl _,fun _ _ _=>rfl⟩,fun _ h=>.inl h,fun _ _=>rfl⟩
theorem Tr.trans {W W1 W2:Wit} {w w1 w2:World} {hp h1 h2:Nat→Hb} (a:Tr W w hp W1 w1 h1) (b:Tr W1 w1 h1 W2 w2 h2):Tr W w hp W2 w2 h2:=by
 have hsz:=a.but.size;refine ⟨b.rhp,fun m hm=>?_,⟨b.but.os.trans a.but.os,b.but.tape.trans a.but.tape,b.but.output.trans a.but.output,Nat.le_trans a.but.size b.but.size,fun k hk hn=>?_⟩,fun k hk=>?_,fun k hk=>?_⟩
 ·obtain ⟨p1,p2,p3⟩:=a.keep m hm;obtain ⟨q1,q2,q3⟩:=b.keep m p1;exact ⟨q1,q2.trans p2,q3.trans p3⟩
 ·rw [b.but.block k (by omega) (fun q=>(a.fp k q).elim hn (fun q=>by omega)),a.but.block k hk hn]
 ·rcases b.fp k hk with q | q
  ·exact a.fp k q
  ·exact .inr (by omega)
 ·rw [b.S k (by omega),a.S k hk]
theorem Tr.ext {W W':Wit} {w w':World} {hp hp':Nat→Hb} (h:Tr W w hp W' w' hp') (hr:RHp W w hp):Ext W.S W'.S w w' :=
 kX h.but (fun k ⟨m,hm⟩=>(hr.mine m k hm).1) h.S
theorem Piece.tr {n:Nat} {W:Wit} {w:World} {hp:Nat→Hb} {df:List Deferred} {s':St} {W':Wit} {a':Act} {w':World} (h:Piece W w hp n df s' W' a' w'):Tr W w hp W' w' s'.hb:=⟨h.rhp,h.keep,h.but,h.fp,h.S⟩
theorem Tr.drop {W W':Wit} {w w':World} {hp hp' h2:Nat→Hb} (h:Tr W w hp W' w' hp') (hd:∀ b,h2 b=hp' b∨(h2 b=.dead∧hp' b≠.no)):Tr W w hp W' w' h2:=by
 refine ⟨h.rhp.dead hd,h.keep,h.but,fun k ⟨b,hb⟩=>h.fp k ⟨b,?_⟩,h.S⟩
 rcases hd b with q | q
 ·rw [←q];exact hb
 ·rw [q.1] at hb;exact hb.elim
def mM (hp:Nat→Hb):Prop:=∀ b,hp b=.no∨hp b=.dead∨(∃ cs,hp b=.cells cs)∨∃ E sz rows,hp b=.vec E sz rows
theorem mM.obj {W:Wit} {w:World} {hp:Nat→Hb} (h:mM hp) (hr:RHp W w hp) {k:Nat} (hk:bV W hp k):∃ o:Obj,w.heap[k]? = some o∧o.isCells=true:=by
 obtain ⟨b,hb⟩:=hk;have hat:=hr.at_ b
 rcases h b with q | q | ⟨cs,q⟩ | ⟨E,sz,rows,q⟩
 ·rw [q] at hb;exact hb.elim
 ·rw [q] at hb;exact hb.elim
 ·rw [q] at hb hat;have hb':W.nm b=k:=hb;obtain ⟨arr,T,h1,_⟩:=hat;rw [hb'] at h1;exact ⟨_,h1,rfl⟩
 ·rw [q] at hb hat;have hb':(W.nv b).ownBlock=some k:=hb;obtain ⟨xs,g1,_⟩:=hat
  rcases g1.2 with ⟨q1,_⟩ | ⟨g,cap,cur,fz,q1,q2,q3,_⟩
  ·rw [q1] at hb';cases hb'
  ·rw [q1] at hb';have:g=k:=Option.some.inj hb';rw [this] at q3;exact ⟨_,q3,rfl⟩
theorem Fol.stay {W:Wit} {w w':World} (he:Ext W.S W.S w w'):Fol W G0 O0 w W G0 O0 w':=⟨he,fun _=>Nat.le_refl _,fun _ _=>rfl,fun o E sz n' _ ho=>(by cases ho),fun _ _=>rfl,fun _ h=>⟨h,rfl,rfl⟩,rfl⟩
theorem RHp.stay {W:Wit} {w w':World} {hp:Nat→Hb} (h:RHp W w hp) (hsz:w.heap.size≤w'.heap.size) (hb:∀ k,bV W hp k→w'.heap[k]? = w.heap[k]?) (he:Ext W.S W.S w w'):RHp W w' hp :=
 ⟨h.lv,fun b k hk=>⟨(h.mine b k hk).1,Nat.lt_of_lt_of_le (h.mine b k hk).2 hsz⟩,fun b=>RH.fol (Fol.stay he) (h.at_ b) (fun hne=>(h.lv b).2 hne) rfl (fun k hk=>hb k ⟨b,hk⟩),h.ex⟩
theorem ou {S:Nat→Nat} {w w':World} {row:Option Nat} (hg:w.grownBy w' row) (hr:∀ r,row=some r→∃ o:Obj,w.heap[r]? = some o∧o.isCells=false):Ext S S w w':=fun b i h1 h2=>by
 refine ⟨h1,?_⟩;have hlt:=cell_lt h2
 have hne:some b≠row:=fun e=>by
  obtain ⟨o,ho,hc⟩:=hr b e.symm;unfold World.cell? at h2;rw [ho] at h2;cases o <;> first | (cases hc;done) | (simp at h2;done)
 unfold World.cell?;rw [hg.block b hlt hne]
theorem Tr.grown {W W':Wit} {w w' w2:World} {hp hp':Nat→Hb} (h:Tr W w hp W' w' hp') (hp1:mM hp') {row:Option Nat} (hg:w'.grownBy w2 row) (hr:∀ r,row=some r→w.heap.size≤r∧∃ o:Obj,w'.heap[r]? = some o∧o.isCells=false):Tr W w hp W' w2 hp':=by
 have hsz:=h.but.size;have hgs:=hg.size;refine ⟨h.rhp.stay hgs (fun k hk=>?_) (ou hg fun r e=>(hr r e).2),h.keep,⟨hg.os.trans h.but.os,hg.tape.trans h.but.tape,hg.output.trans h.but.output,Nat.le_trans hsz hgs,fun k hk hn=>?_⟩,h.fp,h.S⟩
 ·obtain ⟨o,ho,hc⟩:=hp1.obj h.rhp hk;refine hg.block k (Array.getElem?_eq_some_iff.1 ho).1 (fun e=>?_);obtain ⟨_,o2,ho2,hc2⟩:=hr k e.symm;rw [ho] at ho2;cases ho2;rw [hc] at hc2;cases hc2
 ·rw [hg.block k (by omega) (fun e=>by have:=(hr k e.symm).1;omega)]
  exact h.but.block k hk hn
theorem Ac {W:Wit} {w:World} {hp:Nat→Hb} {b2:Nat} {c:Hc} {v:Value} {T:TypeId} (hrp:RHp W w hp) (hb2:hp b2=.no) (hc:RC W G0 O0 w c.cl v) :
 Tr W w hp (W.lay b2 w.heap.size) (w.alloc (.cells #[v] T)) (up hp b2 (.cells [c]))∧(W.lay b2 w.heap.size).lv b2∧(W.lay b2 w.heap.size).nm b2=w.heap.size:=by
 obtain ⟨W',hW'⟩:∃ W',W.lay b2 w.heap.size=W':=⟨_,rfl⟩
 have hnl:¬ W.lv b2:=fun q=>(hrp.lv b2).1 q hb2
 have hne:∀ m,W.lv m→m≠b2:=fun m hm e=>hnl (e ▸ hm)
 have hbe:Below w.heap.size w (w.alloc (.cells #[v] T)):=(Below.refl _ w).alloc (Nat.le_refl _) _;have hS:∀ k',k' < w.heap.size→W'.S k'=W.S k':=fun k' hk=>by rw [←hW'];show up W.S _ 0 k'=_;rw [ak,if_neg (by omega)]
 have hnm:∀ m,W.lv m→W'.lv m∧W'.nm m=W.nm m∧W'.nv m=W.nv m:=fun m hm=>by
  rw [←hW'];exact ⟨.inr hm,by show up W.nm b2 _ m=_;rw [ak,if_neg (hne m hm)],rfl⟩
 have hfol:Fol W G0 O0 w W' G0 O0 (w.alloc (.cells #[v] T)):=⟨
  kX (fp:=fun _=>False) ⟨hbe.os,hbe.tape,hbe.output,hbe.size,fun k hk _=>hbe.block k hk⟩ (fun _ q=>q.elim) hS,fun _=>Nat.le_refl _,fun _ _=>by rw [←hW'];rfl,fun o E sz n' _ ho=>(by cases ho),fun _ _=>by rw [←hW'];rfl,hnm,by rw [←hW'];rfl⟩
 have enm:W'.nm b2=w.heap.size:=by rw [←hW'];exact dQ
 have ehf:W'.hf=W.hf:=by rw [←hW'];rfl
 have hnew:(w.alloc (.cells #[v] T)).heap[w.heap.size]? = some (.cells #[v] T (0,0)):=World.alloc_heap_new w _;rw [hW'];refine ⟨⟨hrp.upd hfol (by simp) (fun m=>by rw [←hW'];exact Iff.rfl) (fun m _=>by rw [ehf]) hS hbe.size (fun m hm k' hk=>hbe.block k' (hrp.mine m k' hk).2) ?_ (fun k' hk=>?_),hnm,⟨hbe.os,hbe.tape,hbe.output,hbe.size,fun k hk _=>hbe.block k hk⟩,fun k' ⟨m,hm⟩=>?_,hS⟩,?_,enm⟩
 ·refine ⟨#[v],T,by rw [enm];exact hnew,rfl,fun i c' u h1 h2=>?_⟩
  cases i with
  | zero=>cases h1;cases h2;exact hc.fol hfol
  | succ i=>simp at h1
 ·have hk':W'.nm b2=k':=hk;rw [enm] at hk';subst hk';refine ⟨by rw [←hW'];show up W.S _ 0 _=_;rw [ak,if_pos rfl],by simp,fun m hm hk2=>?_⟩
  have:=(hrp.mine m _ hk2).2;omega
 ·by_cases hmb:m=b2
  ·subst hmb;rw [ak,if_pos rfl] at hm;have hk':W'.nm m=k':=hm;rw [enm] at hk';exact .inr (by omega)
  ·rw [ak,if_neg hmb] at hm;exact .inl ⟨m,(hcl.fol hfol (fun hne=>(hrp.lv m).2 hne) (by rw [ehf]) k').1 hm⟩
 ·rw [←hW'];exact .inl rfl
theorem GN {w:World} {v:Value} (hv:v.oneCell'=true) :
 Calls Try.prog 26 #[v,.int .i64 16] w fun e w'=>e=.returned (.func (.func 47) #[] #[.pointer (some ⟨w.heap.size,0,none⟩),.pointer (some ⟨w.heap.size+1,0,none⟩)])∧w'=(w.alloc (.cells #[v] 22)).alloc (.cells #[.int .i64 16] 3):=by
 go_enter Try.func26,Try.ntmps26
 go_wp2
 all_goals go_ret
 all_goals exact ⟨rfl,rfl⟩
def zU (hp:Nat→Hb) (az:List Hw) (hp':Nat→Hb) (rs:List Hw):Prop:=∃ (rows:List (List Dt)) (b2 b3:Nat),az=[.one (.d (.im rows)),.one (hI 16)]∧(hp b2=.no∧hp b3=.no∧b2≠b3)∧hp'=up (up hp b2 (.cells [.d (.im rows)])) b3 (.cells [hI 16])∧rs=[.one (.h (.f 47 [] [(b2,0),(b3,0)]))]
theorem Ip:fB Try.prog 26 zU:=by
 rintro hp az hp' rs ⟨rows,b2,b3,rfl,⟨hb2,hb3,hne⟩,rfl,rfl⟩ W w vals _ hrp hvals
 obtain ⟨v,hv1,hv2,hva⟩:∃ v,RC W G0 O0 w (.d (.im rows)) v∧v.oneCell'=true∧vals=#[v,.int .i64 16]:=by
  obtain ⟨q1,q2⟩:=hvals;have h2:vals.size=2:=q1.symm
  obtain ⟨x,y,rfl⟩:∃ x y,vals=#[x,y]:=by
   refine ⟨vals[0]'(by omega),vals[1]'(by omega),?_⟩
   apply Array.ext
   ·exact h2
   ·intro i g1 g2;have:i < 2:=by simpa using g2
    match i,this with
    | 0,_=>rfl
    | 1,_=>rfl
  have e1:RC W G0 O0 w (.d (.im rows)) x:=q2 0 _ x rfl rfl;have e2:RD W.S w (.sc (.int .i64 16)) y:=q2 1 _ y rfl rfl;cases e2;exact ⟨x,e1,RC.one e1,rfl⟩
 rw [hva];refine (GN hv2).mono ?_;rintro e w' ⟨rfl,rfl⟩;obtain ⟨t1,l1,n1⟩:=Ac (T:=22) hrp hb2 (c:=.d (.im rows)) hv1;have hb3':up hp b2 (.cells [.d (.im rows)]) b3=.no:=by rw [ak,if_neg (fun e=>hne e.symm)];exact hb3
 obtain ⟨t2,l2,n2⟩:=Ac (T:=3) t1.rhp hb3' (c:=hI 16) (v:=.int .i64 16) (.sc _ rfl);have t3:=t1.trans t2;obtain ⟨k1,k2,k3⟩:=t2.keep b2 l1;refine ⟨_,_,rfl,⟨?_,rfl,fun p hp=>by simp at hp,fun p hp=>?_⟩,t3.rhp,t3.keep,t3.but,t3.fp,t3.S⟩
 ·show _=Value.func (.func _) #[] #[.pointer (some ⟨_,0,none⟩),.pointer (some ⟨_,0,none⟩)]
  rw [k2,n1,n2,World.size_alloc]
 ·simp only [List.mem_cons,List.not_mem_nil,or_false] at hp
  rcases hp with rfl | rfl
  ·exact k1
  ·exact l2
end Go.Proofs.Ytkafcpnahpfbfaa
end
section
namespace Go.Proofs.Ytkafcpnahpfbfaa
open Go Go.RowKit
set_option maxRecDepth 100000
def pcc12C : PC := .seq (.reg false [⟨(some 67), .fld 0 (.t 1), none, []⟩, ⟨(some 68), .load none (.t 67), none, [0]⟩, ⟨(some 69), .callh 26 [(.t 68), (.v (.int .i64 16))], none, [1]⟩]) (.skip)
def flc12C : List (Nat × List Bool) := [(6000026, List.replicate 1 false)]
theorem cpc12C:aW Try.prog Try.f12.ntmps (fH ++ flc12C) (lJ (((cu (Try.f12.body.getD .skip)).drop 12).take 1))=some pcc12C:=by kernel_rfl
end Go.Proofs.Ytkafcpnahpfbfaa
end
section
namespace Go.Proofs.Ytkafcpnahpfbfaa
open Go Go.RowKit
set_option maxRecDepth 1000000
set_option maxHeartbeats 4000000
noncomputable def wB:Env:=h1 26 zU e0
theorem yB:ay Try.prog wB:=ay.h1 Ip ay.e0
abbrev sD (es:List Ev) (d:Dep):Nat→Hb:=up (up (hpA es d) 70 (.cells [.d (.im (es.map Ev.row))])) 71 (.cells [hI 16])
theorem LP {es:List Ev} {d:Dep} {Q:Exit→St→Prop} (hQ:∀ st:St,(st.sl 69).hw=some (.one (.h (.f 47 [] [(70,0),(71,0)])))→(∀ x,x=1∨x=9∨x=10∨x=11∨x=12→st.sl x=slB x)→st.hb=sD es d→Q .normal st) :
 pwp wB pcc12C Q (St.jM (fun _=>1) (hpA es d) slB):=by
 obtain ⟨I,hI⟩:∃ I,St.jM (fun _=>1) (hpA es d) slB=I:=⟨_,rfl⟩
 have i1:I.sl 1=.b (.one (.hv (.p 2 0))):=by rw [←hI];rfl
 have is:∀ x,I.sl x=slB x:=fun x=>by rw [←hI];rfl
 have ih:I.hb=hpA es d:=by rw [←hI];exact kE _ _ _
 rw [hI];clear hI;have h2:hpA es d 2=.cells ((bU es d).map .d):=rfl;simp only [bU,List.map_cons,List.map_nil] at h2;unfold pcc12C
 with_reducible refine aH ?_
 simp only [↓evP,evB,stB,reduceIte,reduceCtorEq,Nat.reduceEqDiff,Nat.reduceAdd,Nat.reduceMul,Nat.reduceLeDiff,Nat.reduceLT,Nat.reduceSub,Nat.reduceBEq,i1,ih,h2];refine cZ (sD es d) [.one (.h (.f 47 [] [(70,0),(71,0)]))] (by simp only [stB,reduceIte,reduceCtorEq,Nat.reduceEqDiff,Nat.reduceAdd,Nat.reduceMul,Nat.reduceLeDiff,Nat.reduceLT,Nat.reduceSub,Nat.reduceBEq,ih];exact ⟨_,70,71,rfl,⟨rfl,rfl,by decide⟩,rfl,rfl⟩) ?_
 simp only [↓evP,evB,stB,reduceIte,reduceCtorEq,Nat.reduceEqDiff,Nat.reduceAdd,Nat.reduceMul,Nat.reduceLeDiff,Nat.reduceLT,Nat.reduceSub,Nat.reduceBEq];refine hQ _ (by simp only [stB,reduceIte,reduceCtorEq,Nat.reduceEqDiff,Nat.reduceAdd,Nat.reduceMul,Nat.reduceLeDiff,Nat.reduceLT,Nat.reduceSub,Nat.reduceBEq];first | done | rfl) (fun x hx=>?_) (by simp only [stB,reduceIte,reduceCtorEq,Nat.reduceEqDiff,Nat.reduceAdd,Nat.reduceMul,Nat.reduceLeDiff,Nat.reduceLT,Nat.reduceSub,Nat.reduceBEq])
 rcases hx with rfl | rfl | rfl | rfl | rfl <;> simp only [stB,reduceIte,reduceCtorEq,Nat.reduceEqDiff,Nat.reduceAdd,Nat.reduceMul,Nat.reduceLeDiff,Nat.reduceLT,Nat.reduceSub,Nat.reduceBEq,is]
noncomputable def Jm:Code→Code
 | .block _ (.rangeFunc _ _ a _)=>a
 | _=>.skip
noncomputable abbrev jl:Code:=Try.f12.body.getD .skip
noncomputable abbrev jT:Code:=((cu jl)[13]?).getD .skip
theorem KX:jT=.block 4 (.rangeFunc (.tmp 69) #[70] (Jm jT) (zN jT)):=by kernel_rfl
theorem JD:∃ o:Oper,Jm jT=.region 19 #[o] false∧o.dst=some 13∧o.op=.assign (.tmp 70)∧o.guard=none:=⟨_,rfl,rfl,rfl,rfl⟩
theorem GY:cu jl=((cu jl).drop 0).take 12 ++ (((cu jl).drop 12).take 1 ++ (jT :: ((cu jl).drop 14).take 6)):=by kernel_rfl
def jZ (bf b:Nat):Prop:=b=2∨b=10∨b=11∨b=12∨b=13∨b=bf
open Classical in
noncomputable def jN (L:Nat→Prop) (hp:Nat→Hb):Nat→Hb:=fun b=>if L b then hp b else match hp b with
 | .no=>.no
 | _=>.dead
theorem gU {L:Nat→Prop} {hp:Nat→Hb} {b:Nat} (h:L b):jN L hp b=hp b:=if_pos h
theorem EY {L:Nat→Prop} {hp:Nat→Hb} {b:Nat} (h:hp b=.no):jN L hp b=.no:=by
 unfold jN;rw [h];split <;> rfl
theorem jB {L:Nat→Prop} {hp:Nat→Hb} (b:Nat):jN L hp b=hp b∨(jN L hp b=.dead∧hp b≠.no):=by
 unfold jN;split
 ·exact .inl rfl
 ·cases h:hp b <;> first | exact .inl rfl | exact .inr ⟨rfl,fun q=>by cases q⟩
theorem oZ {L:Nat→Prop} {hp:Nat→Hb} (h:∀ b,L b→(∃ cs,hp b=.cells cs)∨∃ E sz rows,hp b=.vec E sz rows):mM (jN L hp):=by
 intro b
 by_cases hb:L b
 ·rw [gU hb]
  rcases h b hb with q | q
  ·exact .inr (.inr (.inl q))
  ·exact .inr (.inr (.inr q))
 ·unfold jN;rw [if_neg hb];cases hp b <;> first | exact .inl rfl | exact .inr (.inl rfl)
theorem lQ.drop {es:List Ev} {d:Dep} {E:List Ev} {F:List Nat} {hp:Nat→Hb} {N bf:Nat} (h:lQ es d E F hp N bf):mM (jN (jZ bf) hp)∧lQ es d E F (jN (jZ bf) hp) N bf:=by
 have l2:jZ bf 2:=.inl rfl;have l10:jZ bf 10:=.inr (.inl rfl);have l11:jZ bf 11:=.inr (.inr (.inl rfl));have l12:jZ bf 12:=.inr (.inr (.inr (.inl rfl)));have l13:jZ bf 13:=.inr (.inr (.inr (.inr (.inl rfl))));have lf:jZ bf bf:=.inr (.inr (.inr (.inr (.inr rfl))));refine ⟨oZ fun b hb=>?_,⟨⟨by rw [gU l10];exact h.w.h,h.w.v,h.w.ne,h.w.lt,fun b hb=>EY (h.w.fr b hb)⟩,by rw [gU l2];exact h.h2,by rw [gU l11];exact h.h11,by rw [gU l12];exact h.h12,by rw [gU l13];exact h.h13,by rw [gU lf];exact h.hf,h.lt⟩⟩
 rcases hb with rfl | rfl | rfl | rfl | rfl | rfl
 ·exact .inl ⟨_,h.h2⟩
 ·exact .inl ⟨_,h.w.h⟩
 ·exact .inl ⟨_,h.h11⟩
 ·exact .inl ⟨_,h.h12⟩
 ·exact .inl ⟨_,h.h13⟩
 ·exact .inr ⟨_,_,_,h.hf⟩
def LI (W0:Wit) (w0:World) (hp0:Nat→Hb) (es:List Ev) (d:Dep) (v:Value) (k2 k3:Nat) (Wn:Wit) (E:List Ev) (F:List Nat) (w:World):Prop:=∃ (W:Wit) (hp:Nat→Hb) (N bf:Nat),
 Tr W0 w0 hp0 W w hp∧mM hp∧lQ es d E F hp N bf∧(∀ b,b=2∨b=10∨b=11∨b=12∨b=13→W.nm b=Wn.nm b)∧(¬ bV W hp k2∧¬ bV W hp k3∧k2 < w.heap.size∧k3 < w.heap.size)∧RD W.S w (.im (es.map Ev.row)) v
theorem LI.grown {W0:Wit} {w0:World} {hp0:Nat→Hb} {es:List Ev} {d:Dep} {v:Value} {k2 k3:Nat} {Wn:Wit} {E:List Ev} {F:List Nat} {w w':World} (h:LI W0 w0 hp0 es d v k2 k3 Wn E F w) {row:Option Nat} (hg:w.grownBy w' row) (hr:∀ r,row=some r→w0.heap.size≤r∧∃ o:Obj,w.heap[r]? = some o∧o.isCells=false):LI W0 w0 hp0 es d v k2 k3 Wn E F w':=by
 obtain ⟨W,hp,N,bf,h1,h2,h3,h4,h5,h6⟩:=h;exact ⟨W,hp,N,bf,h1.grown h2 hg hr,h2,h3,h4,⟨h5.1,h5.2.1,Nat.lt_of_lt_of_le h5.2.2.1 hg.size,Nat.lt_of_lt_of_le h5.2.2.2 hg.size⟩,RD.ext (ou hg fun r e=>(hr r e).2) h6⟩
structure SlE (Wn:Wit) (a:Act):Prop where
 len:a.tmps.size=Try.f12.ntmps
 s1:a.tmps.getD 1 undef=.pointer (some ⟨Wn.nm 2,0,none⟩)
 s9:a.tmps.getD 9 undef=.pointer (some ⟨Wn.nm 10,0,none⟩)
 s10:a.tmps.getD 10 undef=.pointer (some ⟨Wn.nm 11,0,none⟩)
 s11:a.tmps.getD 11 undef=.pointer (some ⟨Wn.nm 12,0,none⟩)
 s12:a.tmps.getD 12 undef=.pointer (some ⟨Wn.nm 13,0,none⟩)
theorem SlE.ok {Wn W:Wit} {w:World} {hp:Nat→Hb} {a:Act} {es:List Ev} {d:Dep} {E:List Ev} {F:List Nat} {N bf:Nat} (h:SlE Wn a) (hr:RHp W w hp) (hL:lQ es d E F hp N bf) (hn:∀ b,b=2∨b=10∨b=11∨b=12∨b=13→W.nm b=Wn.nm b):DJ W w slB a:=by
 have hp1:∀ b,hp b≠.no→(b=2∨b=10∨b=11∨b=12∨b=13)→RHw W w (.one (.h (.p b 0))) (.pointer (some ⟨Wn.nm b,0,none⟩)):=fun b hb hm=>⟨by rw [←hn b hm];rfl,rfl,(hr.lv b).2 hb⟩
 intro x;unfold slB
 by_cases x1:x=1
 ·subst x1;exact .inr ⟨.one (.h (.p 2 0)),rfl,by rw [h.s1];exact hp1 2 (by rw [hL.h2];simp) (by decide)⟩
 by_cases x9:x=9
 ·subst x9;exact .inr ⟨.one (.h (.p 10 0)),rfl,by rw [h.s9];exact hp1 10 (by rw [hL.w.h];simp) (by decide)⟩
 by_cases x10:x=10
 ·subst x10;exact .inr ⟨.one (.h (.p 11 0)),rfl,by rw [h.s10];exact hp1 11 (by rw [hL.h11];simp) (by decide)⟩
 by_cases x11:x=11
 ·subst x11;exact .inr ⟨.one (.h (.p 12 0)),rfl,by rw [h.s11];exact hp1 12 (by rw [hL.h12];simp) (by decide)⟩
 by_cases x12:x=12
 ·subst x12;exact .inr ⟨.one (.h (.p 13 0)),rfl,by rw [h.s12];exact hp1 13 (by rw [hL.h13];simp) (by decide)⟩
 rw [if_neg x1,if_neg x9,if_neg x10,if_neg x11,if_neg x12];exact .inl rfl
theorem Bf {W0:Wit} {w0:World} {hp0:Nat→Hb} {es:List Ev} {d:Dep} {v:Value} {k2 k3:Nat} {Wn:Wit} {E cs:List Ev} {F:List Nat} {w:World} (h:LI W0 w0 hp0 es d v k2 k3 Wn E F w)
 (hdk:d.ok) (hl:d.st.length≤1000) (hE:fF d E) (hC:fF d cs) (hcl:cs.length≤16) (hF:F.length≤400000) {a:Act} (ha:SlE Wn a) (h13:∀ S w',RD S w' (.im (es.map Ev.row)) v→RD S w' (.im (cs.map Ev.row)) (a.tmps.getD 13 undef)) (l m B:Nat) :
 (zN jT).wpIn (Fence.wide.inRound l) m Try.prog (fun e _ w'=>e=.normal∧KeepsFrom B w w'∧Kp2 k2 k3 w w'∧LI W0 w0 hp0 es d v k2 k3 Wn (E ++ cs) (F ++ bO 66 (fO d E cs)) w') a w:=by
 obtain ⟨W,hp,N,bf,ht,hpl,hL,hnm,⟨n2,n3,z2,z3⟩,hrd⟩:=h;have hr:=ht.rhp
 have hsl:DJ W w (slC cs) a:=by
  intro x;unfold slC
  by_cases x13:x=13
  ·subst x13;exact .inr ⟨.one (.d (.im (cs.map Ev.row))),rfl,h13 _ _ hrd⟩
  ·rw [if_neg x13];exact ha.ok hr hL hnm x
 refine wpIn_mono (q8 (n:=Try.f12.ntmps) l m yA (qZ cK (by kernel_rfl)) cpw12B (by kernel_rfl) (by kernel_rfl) (fun _=>1) (Q:=fun e st=>e=.normal∧∃ N' bf',lQ es d (E ++ cs) (F ++ bO 66 (fO d E cs)) st.hb N' bf') (fun s q=>by cases q.1) (LM hdk hl hE hC hcl hF hL fun st N' bf' q=>⟨rfl,N',bf',q⟩) (fun _ _=>trivial) hr ha.len hsl) ?_;rintro e a' w' ⟨s',W',⟨rfl,N',bf',hL'⟩,hp'⟩;have hT:=hp'.tr;obtain ⟨pl,hLd⟩:=hL'.drop;refine ⟨rfl,⟨hT.but.size,fun k o hB hk ho=>?_⟩,⟨hT.but.block _ z2 n2,hT.but.block _ z3 n3⟩,W',_,N',bf',(ht.trans hT).drop jB,pl,hLd,fun b hb=>?_,⟨fun q=>?_,fun q=>?_,Nat.lt_of_lt_of_le z2 hT.but.size,Nat.lt_of_lt_of_le z3 hT.but.size⟩,RD.ext (hT.ext hr) hrd⟩
 ·rw [hT.but.block k (Array.getElem?_eq_some_iff.1 hk).1 (fun q=>?_)]
  ·exact hk
  ·obtain ⟨o2,ho2,hc2⟩:=hpl.obj hr q;rw [hk] at ho2;cases ho2;rw [ho] at hc2;cases hc2
 ·rw [(hT.keep b ((hr.lv b).2 ?_)).2.1]
  ·exact hnm b hb
  ·rcases hb with rfl | rfl | rfl | rfl | rfl
   ·rw [hL.h2];simp
   ·rw [hL.w.h];simp
   ·rw [hL.h11];simp
   ·rw [hL.h12];simp
   ·rw [hL.h13];simp
 ·rcases (hT.drop jB).fp k2 q with q | q
  ·exact n2 q
  ·omega
 ·rcases (hT.drop jB).fp k3 q with q | q
  ·exact n3 q
  ·omega
def stN (es:List Ev) (d:Dep) (l:List Nat):List Ev×List Nat:=l.foldl (fun p k=>(p.1 ++ bF es (16 * k) 16,p.2 ++ bO 66 (fO d p.1 (bF es (16 * k) 16)))) ([],eY)
theorem AL (es:List Ev) (d:Dep) (l:List Nat) (k:Nat):stN es d (l ++ [k])=((stN es d l).1 ++ bF es (16 * k) 16,(stN es d l).2 ++ bO 66 (fO d (stN es d l).1 (bF es (16 * k) 16))):=by
 unfold stN;rw [List.foldl_append];rfl
theorem sU (es:List Ev) (d:Dep):∀ k,stN es d (List.range k)=(es.take (16 * k),iY es d k)
 | 0=>by
   show (([]:List Ev),eY)=_
   unfold iY;simp
 | k+1=>by
   rw [List.range_succ,AL,sU es d k]
   show (es.take (16 * k) ++ bF es (16 * k) 16,iY es d k ++ bO 66 (fO d (es.take (16 * k)) (bF es (16 * k) 16)))=_
   rw [GU,fV];unfold iY;rw [List.range_succ,List.map_append,List.flatten_append];simp [ny,List.append_assoc,Nat.mul_add]
theorem wE {es:List Ev} {d:Dep} (h:fF d es) (i n:Nat):fF d (bF es i n):=fun e he=>h e (oH he)
theorem KG {es:List Ev} {d:Dep} (h:fF d es) (hl:d.st.length≤1000) (l:List Nat):fF d (stN es d l).1∧(stN es d l).2.length≤8+30014 * l.length:=by
 have gen:∀ (l:List Nat) (p:List Ev×List Nat),fF d p.1→fF d (l.foldl (fun p k=>(p.1 ++ bF es (16 * k) 16,p.2 ++ bO 66 (fO d p.1 (bF es (16 * k) 16)))) p).1∧(l.foldl (fun p k=>(p.1 ++ bF es (16 * k) 16,p.2 ++ bO 66 (fO d p.1 (bF es (16 * k) 16)))) p).2.length≤p.2.length+30014 * l.length:=by
  intro l
  induction l with
  | nil=>exact fun p hp=>⟨hp,Nat.le_refl _⟩
  | cons k l ih =>
    intro p hp;have hc:=wE h (16 * k) 16;obtain ⟨h1,h2⟩:=ih (p.1 ++ bF es (16 * k) 16,p.2 ++ bO 66 (fO d p.1 (bF es (16 * k) 16))) (hp.app hc);refine ⟨h1,Nat.le_trans h2 ?_⟩;have h3:=rU hl hp hc (by rw [fU];omega)
    have h4:(bO 66 (fO d p.1 (bF es (16 * k) 16))).length≤(fO d p.1 (bF es (16 * k) 16)).length+14:=by
     unfold bO bG;rw [List.length_append,List.length_cons,List.length_append];have:=bD (fO d p.1 (bF es (16 * k) 16)).length;have:∀ x,(Gt x).length=4:=fun x=>rfl
     rw [this];omega
    rw [List.length_append,List.length_cons];omega
 obtain ⟨h1,h2⟩:=gen l ([],eY) (fun e he=>by cases he);exact ⟨h1,h2⟩
def Jt (hp:Nat→Hb) (az:List Hw) (Post:(Nat→Hb)→List Hw→Prop):Prop:=∃ (es:List Ev) (d:Dep),az=[lD (gY es d)]∧((∀ b,hp b=.no)∧es.length≤80∧(d.st.length≤1000∧d.pr.length≤1000)∧d.gQ) ∧
 Post=fun h r=>(dJ es d→∃ b,r=[.one (.h (.v b)),.one (hI 0)]∧h b=.vec 5 1 (byR (gI es d)))∧(¬ dJ es d→r=[.one (.d (.im [])),.one (hI 1)])
theorem Gq {W0 W':Wit} {w0 w':World} {hp0 hp':Nat→Hb} {x y:Hw} {u v:Value} (ht:Tr W0 w0 hp0 W' w' hp') (hx:RHw W' w' x u) (hy:RHw W' w' y v) :
 ∃ r W'',Ending.returned (.tuple #[u,v])=.returned r∧RRH W'' w' [x,y] r∧RHp W'' w' hp'∧(∀ b,W0.lv b→W''.lv b∧W''.nm b=W0.nm b∧W''.nv b=W0.nv b)∧jF (bV W0 hp0) w0 w'∧(∀ k,bV W'' hp' k→bV W0 hp0 k∨w0.heap.size≤k)∧∀ k,k < w0.heap.size→W''.S k=W0.S k:=by
 refine ⟨_,W',rfl,⟨#[u,v],rfl,rfl,fun i p q h1 h2=>?_⟩,ht.rhp,ht.keep,ht.but,ht.fp,ht.S⟩
 match i with
 | 0=>cases h1;cases h2;exact hx
 | 1=>cases h1;cases h2;exact hy
 | i+2=>simp at h1
theorem Jg (es:List Ev) (d:Dep):lQ es d [] eY (hpA es d) 66 65:=by
 have:=EO es d;have e1:es.take (16 * 0)=[]:=by simp
 have e2:iY es d 0=eY:=by unfold iY;simp
 unfold xB at this;rw [e1,e2] at this;exact this
theorem Lh (es:List Ev) (d:Dep):lQ es d [] eY (sD es d) 72 65:=by
 have h:=Jg es d;have o:∀ b,b≠70→b≠71→sD es d b=hpA es d b:=fun b h1 h2=>by unfold sD;rw [eH h2,eH h1]
 exact ⟨⟨(o 10 (by decide) (by decide)).trans h.w.h,rfl,(fun h=>by cases h),by decide,fun b hb=>(o b (by omega) (by omega)).trans (h.w.fr b (by omega))⟩,(o 2 (by decide) (by decide)).trans h.h2,(o 11 (by decide) (by decide)).trans h.h11,(o 12 (by decide) (by decide)).trans h.h12,(o 13 (by decide) (by decide)).trans h.h13,(o 65 (by decide) (by decide)).trans h.hf,by decide⟩
theorem SlE.of {n:Nat} {W W':Wit} {w w':World} {hp:Nat→Hb} {df:List Deferred} {s':St} {a':Act} (hn:n=Try.f12.ntmps) (h:Piece W w hp n df s' W' a' w') (hs:∀ x,x=1∨x=9∨x=10∨x=11∨x=12→s'.sl x=slB x):SlE W' a':=by
 subst hn
 have g:∀ x b,(x=1∨x=9∨x=10∨x=11∨x=12)→slB x=.b (.one (.hv (.p b 0)))→a'.tmps.getD x undef=.pointer (some ⟨W'.nm b,0,none⟩):=fun x b hx hb=>by
  have:=h.sl x (.one (.h (.p b 0))) (by rw [hs x hx,hb];rfl)
  exact this.1
 exact ⟨h.len,g 1 2 (by decide) rfl,g 9 10 (by decide) rfl,g 10 11 (by decide) rfl,g 11 12 (by decide) rfl,g 12 13 (by decide) rfl⟩
def nQ (W0:Wit) (w0:World) (es:List Ev) (d:Dep):Ending→World→Prop:=fun e w'=>∃ hp' rs,((dJ es d→∃ b,rs=[.one (.h (.v b)),.one (hI 0)]∧hp' b=.vec 5 1 (byR (gI es d)))∧(¬ dJ es d→rs=[.one (.d (.im [])),.one (hI 1)])) ∧
 ∃ u W',e=.returned u∧RRH W' w' rs u∧RHp W' w' hp'∧(∀ b,W0.lv b→W'.lv b∧W'.nm b=W0.nm b∧W'.nv b=W0.nv b)∧jF (bV W0 (fun _=>.no)) w0 w'∧(∀ k,bV W' hp' k→bV W0 (fun _=>.no) k∨w0.heap.size≤k)∧∀ k,k < w0.heap.size→W'.S k=W0.S k
theorem D7 {W0 Wn:Wit} {w0 w:World} {es:List Ev} {d:Dep} {v:Value} {k2 k3:Nat} (hS:dJ es d) (ok:qW d es) (he:es.length≤80) {a:Act} (ha:SlE Wn a) {D:Nat} (hI:LI W0 w0 (fun _=>.no) es d v k2 k3 Wn es (iY es d (dS es)) w) (hD:w0.heap.size≤D) (hK:w.heap[D]? = some (.deferred (some []))) :
 wpL Try.prog (bodyPostM Fence.wide 3 Try.prog Try.f12 (nQ W0 w0 es d)) (((cu jl).drop 14).take 6) { a with defers:={ target:=.collected D,args:=#[] } :: [] } w:=by
 obtain ⟨W,hp,N,bf,ht,hpl,hL,hnm,_,_⟩:=hI;have hr:=ht.rhp;have htk:es.take (16 * dS es)=es:=List.take_of_length_le (by unfold dS;omega)
 have hL2:xB es d (dS es) hp N bf:=by
  unfold xB;rw [htk];exact hL
 have hsl:DJ W w slB { a with defers:={ target:=.collected D,args:=#[] } :: [] }:=SlE.ok (Wn:=Wn) ⟨ha.len,ha.s1,ha.s9,ha.s10,ha.s11,ha.s12⟩ hr hL hnm
 have:=jE (P:=Try.prog) (n:=Try.f12.ntmps) (l2:=[]) (a:={ a with defers:={ target:=.collected D,args:=#[] } :: [] }) qp (qZ cK (by kernel_rfl)) bA cpw12Z (by kernel_rfl) (by kernel_rfl) (fun _=>1) (Q:=fun e st=>e=.ret∧∃ b,(st.sl 2).hw=some (.one (.h (.v b)))∧st.hb b=.vec 5 1 (byR (gI es d))∧(st.sl 3).hw=some (.one (hI 0)))
  (encZ ok he hL2 (fun st b q1 q2 q3=>⟨rfl,b,q1,q2,q3⟩)) (fun _ _=>trivial) hr ha.len hsl (Q2:=bodyPostM Fence.wide 3 Try.prog Try.f12 (nQ W0 w0 es d)) ?_
 ·rw [List.append_nil] at this;exact this
 rintro e s3 W3 a3 w3 ⟨rfl,b,q2,qb,q3⟩ hp3;have hT:=ht.trans hp3.tr
 have hpl3:mM (jN (fun x=>x=b) s3.hb):=oZ fun x hx=>by
  subst hx;exact .inr ⟨_,_,_,qb⟩
 have hT2:=hT.drop (h2:=jN (fun x=>x=b) s3.hb) jB
 have hDn:¬ bV W hp D:=fun q=>by
  obtain ⟨o,ho,hc⟩:=hpl.obj hr q;rw [hK] at ho;cases ho;cases hc
 have hK3:w3.heap[D]? = some (.deferred (some [])):=(hp3.but.block D (Array.getElem?_eq_some_iff.1 hK).1 hDn).trans hK;have hg:=grownBy_putObj' w3 D (.deferred none);have hT3:=hT2.grown hpl3 hg (fun r e=>by cases e;exact ⟨hD,_,hK3,rfl⟩)
 have hx:=ou (S:=W3.S) hg (fun r e=>by cases e;exact ⟨_,hK3,rfl⟩)
 have f2:=RB.fol (Fol.stay hx) (hp3.sl 2 _ q2);have f3:=RB.fol (Fol.stay hx) (hp3.sl 3 _ q3)
 show LeavesInM Fence.wide 3 Try.prog Try.f12 a3.tmps (nQ W0 w0 es d) a3.defers .returning w3
 rw [hp3.dfs];refine ⟨by simp,.inl ⟨D,_,rfl,run_takeDeferred hK3,?_⟩⟩;refine ⟨_,results_tmp2 rfl _ _ _,?_⟩;obtain ⟨r,W'',r1,r2⟩:=Gq hT3 f2 f3;exact ⟨_,_,⟨fun _=>⟨b,rfl,(gU (L:=fun x=>x=b) rfl).trans qb⟩,fun q=>absurd hS q⟩,r,W'',r1,r2⟩
theorem KY (tv:Value) (n:Nat):(#[tv] ++ Array.replicate n undef).getD 0 undef=tv:=by
 simp [Array.getD]
theorem GZ (tv:Value):(#[tv] ++ Array.replicate (Try.f12.ntmps - (#[tv]:Array Value).size) undef).size=Try.f12.ntmps:=by
 rw [Try.ntmps12];simp
theorem jv {t:Array Value} {i j k:Nat} {u v w:Value} (h1:i≠k) (h2:j≠k):((t.setIfInBounds i u).setIfInBounds j v).getD k w=t.getD k w:=by
 simp only [Array.getD_eq_getD_getElem?,Array.getElem?_setIfInBounds];rw [if_neg h2,if_neg h1]
theorem su {t:Array Value} {j:Nat} {v w:Value} (h:j < t.size):(t.setIfInBounds j v).getD j w=v:=by
 simp [Array.getD_eq_getD_getElem?,h]
def fv {m:Nat} (l:List (Fin m)):List Nat:=l.map fun x=>x.1
theorem G5 {es:List Ev} {d:Dep} {W0:Wit} {w0:World} {tv:Value} (he:es.length≤80) (hl:d.st.length≤1000∧d.pr.length≤1000) (h64:d.gQ) (hrp:RHp W0 w0 (fun _=>.no)) (htv:RHw W0 w0 (lD (gY es d)) tv) :
 wpL Try.prog (bodyPostM Fence.wide 3 Try.prog Try.f12 (nQ W0 w0 es d)) (cu jl) { tmps:=#[tv] ++ Array.replicate (Try.f12.ntmps - (#[tv]:Array Value).size) undef,defers:=[] } w0:=by
 rw [GY]
 have hsl0:DJ W0 w0 (slA es d) { tmps:=#[tv] ++ Array.replicate (Try.f12.ntmps - (#[tv]:Array Value).size) undef,defers:=[] }:=by
  intro x;unfold slA
  by_cases x0:x=0
  ·subst x0;exact .inr ⟨lD (gY es d),rfl,by rw [KY];exact htv⟩
  ·rw [if_neg x0];exact .inl rfl
 have hlen0:=GZ tv;obtain ⟨a0,ha0⟩:∃ a0:Act,{ tmps:=#[tv] ++ Array.replicate (Try.f12.ntmps - (#[tv]:Array Value).size) undef,defers:=[] }=a0:=⟨_,rfl⟩
 have hd0:a0.defers=[]:=by rw [←ha0]
 have hlen1:a0.tmps.size=Try.f12.ntmps:=by rw [←ha0];exact hlen0
 rw [ha0] at hsl0 ⊢;clear hlen0 ha0
 refine jE (P:=Try.prog) (n:=Try.f12.ntmps) (a:=a0) yx (qZ cK (by kernel_rfl)) bA cpw12A (by kernel_rfl) (by kernel_rfl) (fun b=>b)
  (Q:=fun e st=>(e=.ret∧¬ dJ es d∧(st.sl 2).hw=some (.one (.d (.im [])))∧(st.sl 3).hw=some (.one (hI 1)))∨(e=.normal∧dJ es d∧IL es d st)) (LK (by omega) ⟨by omega,by omega⟩ h64 (fun hn st h2 h3=>.inl ⟨rfl,hn,h2,h3⟩) (fun hS st h=>.inr ⟨rfl,hS,h⟩)) (fun _ _=>trivial) hrp hlen1 hsl0 ?_
 rintro e s1 W1 a1 w1 (⟨rfl,hns,q2,q3⟩ | ⟨rfl,hS,hES⟩) hp1
 ·show LeavesInM Fence.wide 3 Try.prog Try.f12 a1.tmps _ a1.defers .returning w1
  rw [hp1.dfs,hd0];refine ⟨_,results_tmp2 rfl _ _ _,?_⟩;obtain ⟨r,W'',r1,r2⟩:=Gq hp1.tr (hp1.sl 2 _ q2) (hp1.sl 3 _ q3);exact ⟨_,_,⟨fun q=>absurd q hns,fun _=>rfl⟩,r,W'',r1,r2⟩
 have ok:=hS.ok hl.1 (by omega);have hE:fF d es:=fun e he=>ok.ev e he
 have hsE:∀ x,x=1∨x=9∨x=10∨x=11∨x=12→s1.sl x=slB x:=fun x hx=>by
  rcases hx with rfl | rfl | rfl | rfl | rfl
  ·exact hES.s1
  ·exact hES.s9
  ·exact hES.s10
  ·exact hES.s11
  ·exact hES.s12
 have hE1:=SlE.of rfl hp1 hsE;have hT1:=hp1.tr;rw [hES.hb] at hT1
 refine jE (P:=Try.prog) (n:=Try.f12.ntmps) (a:=a1) yB (qZ cK (by kernel_rfl)) bA cpc12C (by kernel_rfl) (by kernel_rfl) (fun _=>1)
  (Q:=fun e st=>e=.normal∧(st.sl 69).hw=some (.one (.h (.f 47 [] [(70,0),(71,0)])))∧(∀ x,x=1∨x=9∨x=10∨x=11∨x=12→st.sl x=slB x)∧st.hb=sD es d) (LP fun st h1 h2 h3=>⟨rfl,h1,h2,h3⟩) (fun _ _=>trivial) hT1.rhp hp1.len (hE1.ok hT1.rhp (Jg es d) fun _ _=>rfl) ?_
 rintro e s2 W2 a2 w2 ⟨rfl,h69,hs2,hb2⟩ hp2;have hE2:=SlE.of rfl hp2 hs2;have hT2:=hT1.trans hp2.tr;rw [hb2] at hT2;have hdf:a2.defers=[]:=hp2.dfs.trans (hp1.dfs.trans hd0);have hr2:=hT2.rhp
 obtain ⟨arr,T,g1,g2⟩:RH W2 G0 O0 w2 70 (.cells [.d (.im (es.map Ev.row))]):=by
  have:=hr2.at_ 70
  rwa [show sD es d 70=.cells [.d (.im (es.map Ev.row))] from rfl] at this
 obtain ⟨v,rfl⟩:∃ v,arr=#[v]:=Array.size_eq_one_iff.1 (by simpa using g2.1.symm)
 have hrd:RD W2.S w2 (.im (es.map Ev.row)) v:=g2.2 0 _ v rfl rfl
 obtain ⟨arr3,T3,g3,g4⟩:RH W2 G0 O0 w2 71 (.cells [hI 16]):=by
  have:=hr2.at_ 71
  rwa [show sD es d 71=.cells [hI 16] from rfl] at this
 obtain ⟨v3,rfl⟩:∃ v3,arr3=#[v3]:=Array.size_eq_one_iff.1 (by simpa using g4.1.symm)
 obtain rfl:v3=.int .i64 16:=by
  have:RD W2.S w2 (.sc (.int .i64 16)) v3:=g4.2 0 _ v3 rfl rfl;cases this;rfl
 obtain ⟨k2,hk2⟩:∃ k2,W2.nm 70=k2:=⟨_,rfl⟩
 obtain ⟨k3,hk3⟩:∃ k3,W2.nm 71=k3:=⟨_,rfl⟩
 rw [hk2] at g1;rw [hk3] at g3;have z2:k2 < w2.heap.size:=(Array.getElem?_eq_some_iff.1 g1).1;have z3:k3 < w2.heap.size:=(Array.getElem?_eq_some_iff.1 g3).1;have c2:w2.cell? ⟨k2,0,none⟩=some v:=by unfold World.cell?;rw [g1];rfl
 have c3:w2.cell? ⟨k3,0,none⟩=some (.int .i64 16):=by unfold World.cell?;rw [g3];rfl
 have hg:a2.tmps.getD 69 undef=.func (.func 47) #[] #[.pointer (some ⟨k2,0,none⟩),.pointer (some ⟨k3,0,none⟩)]:=by
  have:=(hp2.sl 69 _ h69).1;rw [this,←hk2,←hk3];rfl
 obtain ⟨pl,hLd⟩:=(Lh es d).drop
 have hnf:∀ b k,¬ jZ 65 b→W2.nm b=k→(∃ cs,sD es d b=.cells cs)→¬ bV W2 (jN (jZ 65) (sD es d)) k:=by
  rintro b k hb rfl ⟨cs,hcs⟩ ⟨m,hm⟩
  have hm2:hcl W2 m (sD es d m) (W2.nm b):=by
   rcases jB (L:=jZ 65) (hp:=sD es d) m with q | q
   ·rw [q] at hm;exact hm
   ·rw [q.1] at hm;exact hm.elim
  have:=hr2.ex b m _ (by rw [hcs];rfl) hm2
  subst this;unfold jN at hm;rw [if_neg hb,hcs] at hm;exact hm
 have hLI:LI W0 w0 (fun _=>.no) es d v k2 k3 W2 [] eY w2:=⟨W2,_,72,65,hT2.drop jB,pl,hLd,fun _ _=>rfl,⟨hnf 70 k2 (by unfold jZ;decide) hk2 ⟨_,rfl⟩,hnf 71 k3 (by unfold jZ;decide) hk3 ⟨_,rfl⟩,z2,z3⟩,hrd⟩
 obtain ⟨enc,henc,hstops⟩:=uZ (n:=2) (by decide) (by omega) hrd c2 c3 z2 z3
 show jT.wp Try.prog _ a2 w2
 rw [KX];refine (wpIn_wide (n:=3)).1 (wpIn_block ?_);have hsz02:=hT2.but.size
 refine wpIn_rangeFunc_ownG (n:=3) rfl (by decide) (gf:=47) (lb:=#[.pointer (some ⟨k2,0,none⟩),.pointer (some ⟨k3,0,none⟩)]) hg trivial (enters_of Try.func47 (by kernel_rfl) rfl) hstops Kp2.t (kpb z2 z3) (Below.refl _ _) (fun _=>rfl)
  (fun (pre:List (Fin (dS es))) W=>LI W0 w0 (fun _=>.no) es d v k2 k3 W2 (stN es d (fv pre)).1 (stN es d (fv pre)).2 W) (fun _ _ _=>False)
  (fun s A B row hs hg2 hr=>hs.grown hg2 fun r e=>⟨Nat.le_trans hsz02 (hr r e).1,(hr r e).2⟩) (fun _ _ _ _ _ hs _ _=>hs) hLI
  (fun x=>{ tmps:=(a2.tmps.setIfInBounds 70 (enc x)).setIfInBounds 13 (enc x),defers:=[] }) ?assign ?body ?done ?stop
 case assign =>
  intro l x W K hK;obtain ⟨o,ho,h1,h2,h3⟩:=JD;rw [ho];obtain ⟨dst,op,ty,pos,after,guard⟩:=o;dsimp only at h1 h2 h3;subst h1 h2 h3;have hz:(#[70]:Array Tmp).zip #[enc x]=#[(70,enc x)]:=by simp
  rw [hz];simp only [List.foldl_toArray',List.foldl_cons,List.foldl_nil,List.size_toArray,List.length_cons,List.length_nil];have hget:(a2.tmps.setIfInBounds 70 (enc x)).getD 70 undef=enc x:=su (by simp [hE2.len] <;> decide)
  refine wpIn_region (kJ l _ (fun o ho c he=>?_) (fun h=>?_) _ _ _ ?_)
  ·simp at ho;subst ho;cases he
  ·obtain ⟨_,_,h⟩:=h;exact h
  ·show wpOps _ _ _ [0] _ _
   unfold wpOps
   show (if _ then _ else _)
   rw [if_pos (show Region.wanted _ _=true from rfl)];refine .inl ?_;unfold Oper.wp
   show Oper.upon _ _ _ _ _ (.ok (.value ((a2.tmps.setIfInBounds 70 (enc x)).getD 70 undef)) W)
   rw [hget];exact hK
 case body =>
  intro l pre x W hIp hlt;obtain ⟨e1,e2⟩:=KG hE hl.1 (fv pre);have e3:(fv pre).length=pre.length:=List.length_map ..;rw [e3] at e2;have hm5:dS es≤5:=by unfold dS;omega
  refine wpIn_mono (Bf hIp ok.dk hl.1 e1 (wE hE (16 * x.1) 16) (by rw [fU];omega) (by omega) (a:=_) ⟨?_,?_,?_,?_,?_,?_⟩ (fun S w' h=>?_) l _ w2.heap.size) ?_
  ·simp [hE2.len]
  ·rw [jv (by decide) (by decide)];exact hE2.s1
  ·rw [jv (by decide) (by decide)];exact hE2.s9
  ·rw [jv (by decide) (by decide)];exact hE2.s10
  ·rw [jv (by decide) (by decide)];exact hE2.s11
  ·rw [jv (by decide) (by decide)];exact hE2.s12
  ·have:((a2.tmps.setIfInBounds 70 (enc x)).setIfInBounds 13 (enc x)).getD 13 undef=enc x:=su (by simp [hE2.len] <;> decide)
   rw [this];exact henc x S w' h
  ·rintro e a' W' ⟨rfl,h1,h2,h3⟩;refine ⟨h1,h2,?_⟩;have:fv (pre ++ [x])=fv pre ++ [x.1]:=List.map_append ..
   show LI W0 w0 _ es d v k2 k3 W2 (stN es d (fv (pre ++ [x]))).1 (stN es d (fv (pre ++ [x]))).2 W'
   rw [this,AL];exact h3
 case done =>
  intro D xs W hD hxs hIx hK;have hxs2:fv xs=List.range (dS es):=hxs;have hIx:LI W0 w0 (fun _=>.no) es d v k2 k3 W2 (stN es d (fv xs)).1 (stN es d (fv xs)).2 W:=hIx;rw [hxs2,sU] at hIx;have hIx:LI W0 w0 (fun _=>.no) es d v k2 k3 W2 (es.take (16 * dS es)) (iY es d (dS es)) W:=hIx;have htk:es.take (16 * dS es)=es:=List.take_of_length_le (by unfold dS;omega)
  rw [htk] at hIx;have:=D7 hS ok he hE2 hIx (Nat.le_trans hsz02 hD) hK;rw [hdf];exact this
 case stop =>
  intro D c pre W _ _ h _;exact h.elim
theorem Kt:jW Try.prog 12 Jt:=by
 rintro hp az Post ⟨es,d,rfl,⟨hno,he,hl,h64⟩,rfl⟩ W0 w0 vals hI hrp hvals;obtain rfl:hp=fun _=>.no:=funext hno
 have hb:Try.f12.body=some jl:=by kernel_rfl
 obtain ⟨tv,htv,rfl⟩:∃ tv,RHw W0 w0 (lD (gY es d)) tv∧vals=#[tv]:=by
  obtain ⟨q1,q2⟩:=hvals;obtain ⟨v,rfl⟩:∃ v,vals=#[v]:=Array.size_eq_one_iff.1 (by simpa using q1.symm)
  exact ⟨v,q2 0 _ v rfl rfl,rfl⟩
 have h1:=(wpIn_wide (n:=3)).2 (zB (G5 he hl h64 hrp htv));have h2:CallsIn Fence.wide 3 Try.prog 12 #[tv] w0 (nQ W0 w0 es d):=callsIn_of_wp_marks Try.func12 hb trivial h1 rfl;exact callsIn_wide.1 h2
def zD (ps rs:List Pa):Prop:=∃ (es:List Ev) (d:Dep),ps=[gY es d]∧(es.length≤80∧(d.st.length≤1000∧d.pr.length≤1000)∧d.gQ)∧rs=rE es d
theorem Gs:Spec Try.prog 12 zD:=C9 Kt (by
 rintro az rs ⟨es,d,rfl,⟨h1,h2,h3⟩,rfl⟩;refine ⟨_,⟨es,d,rfl,⟨fun _=>rfl,h1,h2,h3⟩,rfl⟩,?_⟩;rintro hp' rs' ⟨hy,hn⟩
 by_cases hS:dJ es d
 ·obtain ⟨b,rfl,hb⟩:=hy hS;rw [jq hS];simp only [List.map_cons,List.map_nil,Hw.pa,Hc.pa,hb,Option.map_some,dM]
 ·rw [hn hS,qM hS];rfl)
def lgB (es:List Ev) (d:Dep):Bool:=decide (80 < es.length) || decide (60 < d.st.length) || decide (60 < d.pr.length)
def LC (ps rs:List Pa):Prop:=∃ (es:List Ev) (d:Dep),ps=[gY es d]∧rs=[pB (lgB es d)]
theorem LX:Spec Try.prog 11 LC:=by
 refine sp11 ay.e0 ?_;rintro ps rs ⟨es,d,rfl,rfl⟩;refine ⟨by simp,?_⟩;have m1:(d.st.map aJ).length=d.st.length:=List.length_map ..;have m2:(es.map Ev.row).length=es.length:=List.length_map ..;have m3:(d.pr.map fun x=>[dI x]).length=d.pr.length:=List.length_map ..;unfold pc11
 with_reducible refine aH ?_
 by_cases c1:80 < es.length
 ·have i1:((es.length:Int) > 80):=by omega
  have hl:lgB es d=true:=by unfold lgB;simp [c1]
  rw [hl];simp only [↓evP,evB,stB,reduceIte,reduceCtorEq,Nat.reduceEqDiff,Nat.reduceAdd,Nat.reduceMul,Nat.reduceLeDiff,Nat.reduceLT,Nat.reduceSub,Nat.reduceBEq,gY,bU,Pa.bv,m1,m2,m3,i1,decide_true,pr11]
 have i1:¬ ((es.length:Int) > 80):=by omega
 by_cases c2:60 < d.st.length
 ·have i2:((d.st.length:Int) > 60):=by omega
  have hl:lgB es d=true:=by unfold lgB;simp [c2]
  rw [hl];simp only [↓evP,evB,stB,reduceIte,reduceCtorEq,Nat.reduceEqDiff,Nat.reduceAdd,Nat.reduceMul,Nat.reduceLeDiff,Nat.reduceLT,Nat.reduceSub,Nat.reduceBEq,gY,bU,Pa.bv,m1,m2,m3,i1,i2,decide_true,decide_false,pr11]
 have i2:¬ ((d.st.length:Int) > 60):=by omega
 by_cases c3:60 < d.pr.length
 ·have i3:((d.pr.length:Int) > 60):=by omega
  have hl:lgB es d=true:=by unfold lgB;simp [c3]
  rw [hl];simp only [↓evP,evB,stB,reduceIte,reduceCtorEq,Nat.reduceEqDiff,Nat.reduceAdd,Nat.reduceMul,Nat.reduceLeDiff,Nat.reduceLT,Nat.reduceSub,Nat.reduceBEq,gY,bU,Pa.bv,m1,m2,m3,i1,i2,i3,decide_true,decide_false,pr11]
 have i3:¬ ((d.pr.length:Int) > 60):=by omega
 have hl:lgB es d=false:=by unfold lgB;simp [c1,c2,c3]
 rw [hl];simp only [↓evP,evB,stB,reduceIte,reduceCtorEq,Nat.reduceEqDiff,Nat.reduceAdd,Nat.reduceMul,Nat.reduceLeDiff,Nat.reduceLT,Nat.reduceSub,Nat.reduceBEq,gY,bU,Pa.bv,m1,m2,m3,i1,i2,i3,decide_true,decide_false,pr11]
theorem mJ:∀ l:List Nat,dw (byR l)=some (l.map fun x:Nat=>(x:Int))
 | []=>rfl
 | x :: l=>by
   show (dw (byR l)).map _=_
   rw [mJ l];rfl
theorem Aa (b:ByteArray):(b.toList == b.toList)=true:=by simp
def aw0:List Nat:=gI [] ⟨[],[]⟩
def rP:List Ev:=[⟨0,1,0,0,0,0,0,0,0⟩]
def oM:Dep:=⟨[(0,0)],[-1]⟩
theorem KQ:dJ [] ⟨[],[]⟩:=⟨⟨rfl,fun i h=>absurd h (Nat.not_lt_zero _)⟩,fun s hs=>(by cases hs),fun e he=>(by cases he)⟩
theorem KT:dJ rP oM:=by
 refine ⟨⟨rfl,fun i h=>?_⟩,fun s hs=>?_,fun e he=>?_⟩
 ·have:i=0:=by have:oM.st.length=1:=rfl;omega
  subst this;refine ⟨?_,fun k h=>absurd h (Nat.not_lt_zero _)⟩;unfold Dep.good;decide
 ·simp only [oM,List.mem_cons,List.not_mem_nil,or_false] at hs;subst hs;decide
 ·simp only [rP,List.mem_cons,List.not_mem_nil,or_false] at he;subst he;decide
theorem KR:aw0.length=16∧aw0.take 12=[73,84,82,65,67,69,49,10,69,2,0,0]:=by
 constructor <;> kernel_rfl
theorem KU:24 < (gI rP oM).length∧((gI rP oM).take 24).drop 8=[66,14,1,0,0,0,1,0,2,0,0,0,0,0,0,0]∧(gI rP oM).length≤1000:=by
 refine ⟨?_,by kernel_rfl,?_⟩ <;> decide +kernel
theorem JB:oM.gQ:=by
 refine ⟨fun p h=>?_,fun p h=>?_⟩
 ·simp only [oM,List.mem_cons,List.not_mem_nil,or_false] at h;subst h;unfold gQ;decide
 ·simp only [oM,List.mem_cons,List.not_mem_nil,or_false] at h;subst h;unfold gQ;decide
def IU (ps rs:List Pa):Prop:=ps=[]∧rs=[pB true]
noncomputable def G6:Env:=e1 12 zD e0
theorem Bg:ay Try.prog G6:=ay.e1 Gs ay.e0
theorem Lp:Spec Try.prog 10 IU:=by
 refine sp10 Bg ?_;rintro ps rs ⟨rfl,rfl⟩;refine ⟨by simp,?_⟩;obtain ⟨v1,v2⟩:=KR;obtain ⟨u1,u2,u3⟩:=KU;unfold pc10
 with_reducible refine aH ?_
 simp only [↓evP,evB,stB,reduceIte,reduceCtorEq,Nat.reduceEqDiff,Nat.reduceAdd,Nat.reduceMul,Nat.reduceLeDiff,Nat.reduceLT,Nat.reduceSub,Nat.reduceBEq];refine aC [dM aw0,pI 0] (by exact ⟨[],⟨[],[]⟩,rfl,⟨by decide,by decide,⟨fun p h=>(by cases h),fun p h=>(by cases h)⟩⟩,(jq KQ).symm⟩) ?_;simp only [↓evP,evB,stB,reduceIte,reduceCtorEq,Nat.reduceEqDiff,Nat.reduceAdd,Nat.reduceMul,Nat.reduceLeDiff,Nat.reduceLT,Nat.reduceSub,Nat.reduceBEq,dM];refine aC [dM (gI rP oM),pI 0] (by exact ⟨rP,oM,rfl,⟨by decide,by decide,JB⟩,(jq KT).symm⟩) ?_;have g0:((byR aw0).length:Int)=16:=by rw [aY,v1];rfl
 have g1:((byR (gI rP oM)).length:Int) > 24:=by rw [aY];omega
 have g2:24≤((byR (gI rP oM)).length:Int):=by omega
 have a0:=eB aw0;have a1:=eB (gI rP oM)
 have b0:dw (List.take 12 (byR aw0))=some [73,84,82,65,67,69,49,10,69,2,0,0]:=by
  show dw (List.take 12 (List.map _ aw0))=_
  rw [←List.map_take,v2];rfl
 have b1:dw (List.drop 8 (List.take 24 (byR (gI rP oM))))=some [66,14,1,0,0,0,1,0,2,0,0,0,0,0,0,0]:=by
  show dw (List.drop 8 (List.take 24 (List.map _ (gI rP oM))))=_
  rw [←List.map_take,←List.map_drop,u2];rfl
 have c0:jA [73,84,82,65,67,69,49,10,69,2,0,0]=⟨#[73,84,82,65,67,69,49,10,69,2,0,0]⟩:=by kernel_rfl
 have c1:jA [66,14,1,0,0,0,1,0,2,0,0,0,0,0,0,0]=⟨#[66,14,1,0,0,0,1,0,2,0,0,0,0,0,0,0]⟩:=by kernel_rfl
 simp only [↓evP,evB,stB,reduceIte,reduceCtorEq,seval,dM,g0,g1,g2,a0,a1,b0,b1,c0,c1,Aa,decide_true,beq_self_eq_true,forall_const];simp only [↓evP,evB,stB,reduceIte,reduceCtorEq,seval,pr10]
def IV (ps rs:List Pa):Prop:=∃ (es:List Ev) (d:Dep),ps=[gY es d]∧d.gQ∧rs=[pB true]
theorem Le {es:List Ev} {d:Dep} (h:lgB es d=false):es.length≤80∧d.st.length≤60∧d.pr.length≤60:=by
 unfold lgB at h;simp at h;omega
noncomputable def G7:Env:=e1 10 IU (e1 11 LC (e1 12 zD (e1 13 FV e0)))
theorem Bh:ay Try.prog G7:=ay.e1 Lp (ay.e1 LX (ay.e1 Gs (ay.e1 Ku ay.e0)))
theorem yu (es:List Ev) (d:Dep):∃ (bs:List Nat) (k:Int),rE es d=[dM bs,pI k]:=by
 by_cases hS:dJ es d
 ·exact ⟨_,_,jq hS⟩
 ·exact ⟨_,_,qM hS⟩
theorem Lr:Spec Try.prog 3 IV:=by
 refine sp3 Bh ?_;rintro ps rs ⟨es,d,rfl,h64,rfl⟩;refine ⟨by simp,?_⟩;unfold pc3
 with_reducible refine aH ?_
 simp only [↓evP,evB,stB,reduceIte,reduceCtorEq,seval,gY,bU,Pa.bv];refine aC [pB true] (by exact ⟨rfl,rfl⟩) ?_;simp only [↓evP,evB,stB,reduceIte,reduceCtorEq,seval,gY,bU,Pa.bv];refine aC [pB (lgB es d)] (by exact ⟨es,d,rfl,rfl⟩) ?_
 cases hlg:lgB es d with
 | true=>simp only [↓evP,evB,stB,reduceIte,reduceCtorEq,seval,pr3]
 | false =>
   obtain ⟨l1,l2,l3⟩:=Le hlg;obtain ⟨bs,k,hf⟩:=yu es d;simp only [↓evP,evB,stB,reduceIte,reduceCtorEq,seval,gY,bU,Pa.bv];refine aC [dM bs,pI k] (by exact ⟨es,d,rfl,⟨l1,⟨by omega,by omega⟩,h64⟩,hf.symm⟩) ?_;simp only [↓evP,evB,stB,reduceIte,reduceCtorEq,seval,gY,bU,Pa.bv,dM];refine aC [dM bs,pI k] (by exact ⟨es,d,rfl,⟨by omega,by omega,by omega⟩,hf.symm⟩) ?_;have hrb:=mJ bs;simp only [↓evP,evB,stB,reduceIte,reduceCtorEq,seval,gY,bU,Pa.bv,dM,hrb,Aa,beq_self_eq_true,pr3]
end Go.Proofs.Ytkafcpnahpfbfaa
end
section
namespace Go.Proofs.Ytkafcpnahpfbfaa
open Go Go.RowKit Go.WideShapes Go.ChangeShapes Go.Deep
set_option maxRecDepth 100000
set_option maxHeartbeats 4000000
theorem Try.laidOut:laidOutB Try.prog=true:=by kernel_rfl
theorem Try.own:ownKnob Try.prog.godebug=none:=by kernel_rfl
theorem oD {x:Int} (h:(Lit.int .i64 x).wf=true):gQ x:=by
 simp [Lit.wf,IntKind.min,IntKind.max,IntKind.signed,IntKind.bits] at h;unfold gQ;omega
theorem lI {H:Type} {enc:TypeId×Value→H} {P:Program} (hl:laidOutB P=true) {W W':World} (hb:Below W.heap.size W W') :
 ∀ {ts:List TypeId} {vs:List Value} {ds:List (DataW H)} {ps:List MemPlace},(ts.all fun t=>P.readableRec t && decide (t < P.types.size))=true→DataW.TrodAll enc P W 0 (fun _=>true) true ts vs ds ps→DataW.TrodAll enc P W' 0 (fun b=>decide (b < W.heap.size)) true ts vs ds ps
 | [],vs,ds,ps,_,h=>by obtain ⟨rfl,rfl,rfl⟩:=trodAll_nil h;exact trodAll_mk0
 | t :: ts,vs,ds,ps,ht,h=>by
   obtain ⟨v,vs',d,ds',p,q,rfl,rfl,rfl,h1,h2⟩:=trodAll_cons h;simp only [List.all_cons,Bool.and_eq_true,decide_eq_true_eq] at ht;have lt:∀ x ∈ p,x.block < W.heap.size:=by obtain ⟨m,hm⟩:=h1;exact DataW.trod_lt m _ _ _ hm
   exact trodAll_cons_mk (Below.trod hl ht.1.1 ht.1.2 h1 hb lt) (lI hl hb (by rw [Bool.eq_iff_iff] at *;simpa using ht.2) h2)
theorem Spec.true [I:bN] {P:Program} {f:Nat} {R:List Pa→List Pa→Prop} (hs:Spec P f R) {ps:List Pa} (hR:R ps [pB true]) {S:Nat→Nat} {w:World} {vals:Array Value} (hw:I.p w) (hv:RPs S w ps vals) :
 Calls P f vals w fun e w'=>e=.returned (.bool true)∧Below w.heap.size w w':=by
 refine (hs ps _ hR S w vals hw hv).mono ?_;rintro e w' ⟨v,S',rfl,h1,h2,_⟩;exact ⟨by rw [RP.bool h1],h2⟩
section
variable {H:Type} {enc:TypeId×Value→H} {P:Program} {w:World} {base:Nat} {spare:Nat→Bool} {held:Bool}
theorem EX {t:TypeId} {k:IntKind} (ht:P.underlying t=some (.int k)) (fuel:Nat) (cs:List Value) (x:DataW H×List MemPlace) (h:DataW.trod enc P w base spare held fuel t cs=some x) :
 ∃ l:List Int,l.length=1∧cs=l.map (Value.int k)∧∀ n ∈ l,(Lit.int k n).wf=true:=by
 obtain ⟨n,hn,_,hw⟩:=DataW.trod_int ht h;exact ⟨[n],rfl,hn,fun m hm=>by rw [List.mem_singleton.1 hm];exact hw⟩
theorem oW {t tI:TypeId} {fs:Array Field} (ht:P.underlying t=some (.struct fs)) (hone:oneCellFields P fs=true) (hC:P.cellsOf t=fs.size) (hI:P.underlying tI=some (.int .i64)) (hint0:fs.toList.all (fun f=>f.type == tI)=true) {n:Nat} (hn:fs.size=n)
 (fuel:Nat) (cs:List Value) (x:DataW H×List MemPlace) (h:DataW.trod enc P w base spare held fuel t cs=some x) :
 ∃ l:List Int,l.length=n∧cs=l.map (Value.int .i64)∧∀ n ∈ l,(Lit.int .i64 n).wf=true:=by
 have hint:∀ (i:Nat) (f:Field),fs[i]? = some f→P.underlying f.type=some (.int .i64):=fun i f hf=>by
  have h1:=List.all_eq_true.1 hint0 f (List.mem_of_getElem? (i:=i) (by simpa using hf));rw [beq_iff_eq.1 h1];exact hI
 subst hn;obtain ⟨xs,m,_,_,hl,hlen,hfs⟩:=DataW.trod_struct ht h;rw [hC] at hl
 have key:∀ i,∃ x:Int,i < fs.size→cs[i]? = some (.int .i64 x)∧(Lit.int .i64 x).wf=true:=by
  intro i
  by_cases hi:i < fs.size
  ·have hfi:fs[i]? = some fs[i]:=Array.getElem?_eq_getElem hi;obtain ⟨ho,hk⟩:=hone_of hone i _ hfi;have h1:=hfs i _ hfi;rw [ho,hk] at h1;have hic:i < cs.length:=by omega
   have hone':(cs.drop i).take 1=[cs[i]'hic]:=by
    rw [List.drop_eq_getElem_cons hic];rfl
   rw [hone'] at h1;have hxs:xs[i]? = some (xs[i]'(by omega)):=List.getElem?_eq_getElem _;rw [hxs] at h1;obtain ⟨x,hx,_,hw⟩:=DataW.trod_int (hint i _ hfi) h1;simp at hx;exact ⟨x,fun _=>⟨by rw [List.getElem?_eq_getElem hic,hx],hw⟩⟩
  ·exact ⟨0,fun h=>absurd h hi⟩
 obtain ⟨g,hg⟩:=Classical.skolem.1 key;refine ⟨(List.range fs.size).map g,by simp,?_,fun x hx=>?_⟩
 ·apply List.ext_getElem?
  intro i;simp only [List.getElem?_map]
  rcases Nat.lt_or_ge i fs.size with hi | hi
  ·rw [(hg i hi).1,List.getElem?_range hi];rfl
  ·rw [List.getElem?_eq_none (by omega),List.getElem?_eq_none (by simpa using hi)];rfl
 ·simp only [List.mem_map,List.mem_range] at hx;obtain ⟨i,hi,rfl⟩:=hx;exact (hg i hi).2
theorem oI {t e:TypeId} {k:IntKind} {n:Nat} (ht:P.underlying t=some (.slice e)) (hC:P.cellsOf e=n) (hn:0 < n)
 (hel:∀ (fuel:Nat) (cs:List Value) (x:DataW H×List MemPlace),DataW.trod enc P w base spare held fuel e cs=some x→∃ l:List Int,l.length=n∧cs=l.map (Value.int k)∧∀ n ∈ l,(Lit.int k n).wf=true)
 {fuel:Nat} {cs:List Value} {x:DataW H×List MemPlace} (h:DataW.trod enc P w base spare held fuel t cs=some x) :
 ∃ (v:Value) (rows:List (List Int)),cs=[v]∧(∀ r ∈ rows,r.length=n∧∀ y ∈ r,(Lit.int k y).wf=true)∧∀ S:Nat→Nat,(∀ b i,(w.cell? ⟨b,i,none⟩).isSome=true→i < S b)→RD S w (.im (rows.map fun r=>r.map fun y=>.sc (.int k y))) v:=by
 rcases open_slice ht h with ⟨hcs,_⟩ | ⟨A,len,cap,m,n',D,Pl,hcs,_,hnc,hcm,hm,_,hi⟩
 ·exact ⟨_,[],hcs,fun r hr=>(by cases hr),fun S _=>.emp none 0 (Nat.zero_le _)⟩
 ·have hlm:len≤m:=by rw [hm];split <;> omega
  have key:∀ i,∃ l:List Int,i < len→l.length=n∧(∀ y ∈ l,(Lit.int k y).wf=true)∧∀ j,j < n→w.cell? (A.add (i * n+j))=(l[j]?).map (Value.int k):=by
   intro i
   by_cases hlt:i < len
   ·obtain ⟨cs',hc,ht'⟩:=hi i (by omega);obtain ⟨l,h1,h2,h3⟩:=hel _ _ _ ht';rw [hC] at hc;obtain ⟨_,hcl,hat⟩:=World.cells?_some hc;refine ⟨l,fun _=>⟨h1,h3,fun j hj=>?_⟩⟩;rw [←Go.Deep.add_add,hat j hj,h2,List.getElem?_map]
   ·exact ⟨[],fun h=>absurd h hlt⟩
  obtain ⟨f,hf⟩:=Classical.skolem.1 key;refine ⟨_,(List.range len).map f,hcs,fun r hr=>?_,fun S hS=>?_⟩
  ·obtain ⟨i,hi1,rfl⟩:=List.mem_map.1 hr;have:=hf i (List.mem_range.1 hi1);exact ⟨this.1,this.2.1⟩
  ·rcases Nat.eq_zero_or_pos len with rfl | hpos
   ·exact .emp (some A) cap hcm
   ·have h0:=hf 0 hpos;have hc0:=h0.2.2 0 hn;have hl0:(f 0)[0]? = some ((f 0)[0]'(by omega)):=List.getElem?_eq_getElem _;rw [hl0] at hc0;have hsp:=World.cell?_spot hc0;obtain ⟨b,o,sp⟩:=A;simp [Addr.add] at hsp;subst hsp;have hln:(((List.range len).map f).map fun r=>r.map fun y=>Dt.sc (.int k y)).length=len:=by simp
    have hadd:∀ q,(⟨b,o,none⟩:Addr).add q=⟨b,o+q,none⟩:=fun q=>by
     unfold Addr.add;split
     ·rename_i hq;rw [hq];rfl
     ·rfl
    have hrw:∀ i,i < len→(((List.range len).map f).map fun r=>r.map fun y=>Dt.sc (.int k y))[i]? = some ((f i).map fun y=>Dt.sc (.int k y)):=fun i hi=>by
     rw [List.getElem?_map,List.getElem?_map,List.getElem?_range hi];rfl
    have:=RD.im (S:=S) (w:=w) (((List.range len).map f).map fun r=>r.map fun y=>Dt.sc (.int k y)) n b o cap (fun i j=>.int k ((f i).getD j 0)) (by rw [hln];exact hnc) hcm (fun r hr=>?_) (fun i j hi hj=>?_) (fun i r j y h1 h2=>?_)
    ·rw [hln] at this;exact this
    ·obtain ⟨r',hr',rfl⟩:=List.mem_map.1 hr;obtain ⟨i,hi1,rfl⟩:=List.mem_map.1 hr';rw [List.length_map];exact (hf i (List.mem_range.1 hi1)).1
    ·rw [hln] at hi;have h1:=(hf i hi).2.2 j hj;have hlj:j < (f i).length:=by rw [(hf i hi).1];exact hj
     rw [hadd,List.getElem?_eq_getElem hlj] at h1
     have h2:w.cell? ⟨b,o+(i * n+j),none⟩=some (.int k ((f i).getD j 0)):=by
      rw [h1,List.getD_eq_getElem?_getD,List.getElem?_eq_getElem hlj];rfl
     exact ⟨h2,hS _ _ (by rw [h2];rfl)⟩
    ·have hlt:=(List.getElem?_eq_some_iff.1 h1).1;rw [hln] at hlt;rw [hrw i hlt] at h1;cases h1;rw [List.getElem?_map] at h2
     cases hj:(f i)[j]? with
     | none=>rw [hj] at h2;cases h2
     | some z =>
       rw [hj] at h2;cases h2;rw [List.getD_eq_getElem?_getD,hj];exact .sc _ rfl
end
theorem JI {rows:List (List Int)} (h:∀ r ∈ rows,r.length=9):∃ es:List Ev,(rows.map fun r=>r.map fun y=>Dt.sc (.int .i64 y))=es.map Ev.row:=by
 induction rows with
 | nil=>exact ⟨[],rfl⟩
 | cons r rows ih =>
   obtain ⟨es,he⟩:=ih fun x hx=>h x (List.mem_cons_of_mem _ hx)
   have h1:=h r (List.mem_cons_self ..)
   match r,h1 with
   | [a,b,c,d,e,f,g,i,j],_=>exact ⟨⟨a,b,c,d,e,f,g,i,j⟩ :: es,by rw [List.map_cons,he];rfl⟩
theorem FI {rows:List (List Int)} (h:∀ r ∈ rows,r.length=2∧∀ y ∈ r,(Lit.int .i64 y).wf=true):∃ st:List (Int×Int),(rows.map fun r=>r.map fun y=>Dt.sc (.int .i64 y))=st.map aJ∧∀ p ∈ st,gQ p.1∧gQ p.2:=by
 induction rows with
 | nil=>exact ⟨[],rfl,fun p hp=>(by cases hp)⟩
 | cons r rows ih =>
   obtain ⟨es,he,hb⟩:=ih fun x hx=>h x (List.mem_cons_of_mem _ hx)
   obtain ⟨h1,h2⟩:=h r (List.mem_cons_self ..)
   match r,h1,h2 with
   | [a,b],_,h2 =>
     refine ⟨(a,b) :: es,by rw [List.map_cons,he];rfl,fun p hp=>?_⟩
     rcases List.mem_cons.1 hp with rfl | hp
     ·exact ⟨oD (h2 _ (by simp)),oD (h2 _ (by simp))⟩
     ·exact hb p hp
theorem H6 {rows:List (List Int)} (h:∀ r ∈ rows,r.length=1∧∀ y ∈ r,(Lit.int .i64 y).wf=true):∃ l:List Int,(rows.map fun r=>r.map fun y=>Dt.sc (.int .i64 y))=(l.map fun x=>[dI x])∧∀ p ∈ l,gQ p:=by
 induction rows with
 | nil=>exact ⟨[],rfl,fun p hp=>(by cases hp)⟩
 | cons r rows ih =>
   obtain ⟨es,he,hb⟩:=ih fun x hx=>h x (List.mem_cons_of_mem _ hx)
   obtain ⟨h1,h2⟩:=h r (List.mem_cons_self ..)
   match r,h1,h2 with
   | [a],_,h2 =>
     refine ⟨a :: es,by rw [List.map_cons,he];rfl,fun p hp=>?_⟩
     rcases List.mem_cons.1 hp with rfl | hp
     ·exact oD (h2 _ (by simp))
     ·exact hb p hp
theorem zq {H:Type} {enc:TypeId×Value→H} {w:World} {r:Reach} {b0:Nat} {v:Value} {d:DataW H} {ps:List MemPlace}
 (hv:Value.okWide Try.prog w r b0 28 v) (h:DataW.Trod enc Try.prog w 0 (fun _=>true) true 28 v d ps):∃ (es:List Ev) (dp:Dep),dp.gQ∧∀ S:Nat→Nat,(∀ b i,(w.cell? ⟨b,i,none⟩).isSome=true→i < S b)→RP S w (gY es dp) v:=by
 obtain ⟨cs,rfl,hcs⟩:=okWide_struct Try.underlying28 hv;have hc3:cs.size=3:=by rw [hcs];kernel_rfl
 obtain ⟨a,b,c,rfl⟩:∃ a b c,cs=#[a,b,c]:=by
  refine ⟨cs[0]'(by omega),cs[1]'(by omega),cs[2]'(by omega),?_⟩
  apply Array.ext
  ·exact hc3
  ·intro i g1 g2;have:i < 3:=by simpa using g2
   match i,this with
   | 0,_=>rfl
   | 1,_=>rfl
   | 2,_=>rfl
 obtain ⟨fuel,hf⟩:=h;obtain ⟨y0,y1,n,_,_,g0,g1⟩:=trod_struct2 Try.underlying28 hf;have g0':DataW.trod enc Try.prog w 0 (fun _=>true) true n 22 [a]=some y0:=g0;have g1':DataW.trod enc Try.prog w 0 (fun _=>true) true n 26 [b,c]=some y1:=g1;obtain ⟨z0,z1,n',_,_,k0,k1⟩:=trod_struct2 Try.underlying26 g1';have k0':DataW.trod enc Try.prog w 0 (fun _=>true) true n' 23 [b]=some z0:=k0;have k1':DataW.trod enc Try.prog w 0 (fun _=>true) true n' 24 [c]=some z1:=k1;obtain ⟨va,ra,ea,ha,qa⟩:=oI Try.underlying22 (n:=9) (by kernel_rfl) (by decide) (oW Try.underlying42 (by kernel_rfl) (by kernel_rfl) Try.underlying3 (by kernel_rfl) rfl) g0';obtain ⟨vb,rb,eb,hb,qb⟩:=oI Try.underlying23 (n:=2) (by kernel_rfl) (by decide) (oW Try.underlying50 (by kernel_rfl) (by kernel_rfl) Try.underlying3 (by kernel_rfl) rfl) k0'
 obtain ⟨vc,rc,ec,hc,qc⟩:=oI Try.underlying24 (n:=1) (by kernel_rfl) (by decide) (EX Try.underlying3) k1';cases ea;cases eb;cases ec;obtain ⟨es,he⟩:=JI fun r hr=>(ha r hr).1
 obtain ⟨st,hs,hs2⟩:=FI hb;obtain ⟨pr,hp,hp2⟩:=H6 hc;refine ⟨es,⟨st,pr⟩,⟨hs2,hp2⟩,fun S hS=>⟨_,rfl,rfl,fun i x u h1 h2=>?_⟩⟩
 match i with
 | 0=>cases h1;cases h2;rw [←he];exact qa S hS
 | 1=>cases h1;cases h2;rw [←hs];exact qb S hS
 | 2=>cases h1;cases h2;rw [←hp];exact qc S hS
 | i+3=>simp [bU] at h1
end Go.Proofs.Ytkafcpnahpfbfaa
end
