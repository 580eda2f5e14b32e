/- What the reference calls immediate, whole. -/
import Derived.Test.YtffcpijeebagfaaMe8
import Derived.OwnWalk
import Derived.LoopTactic
import Derived.Deep.OwnRows
import Derived.Deep.LoopGhost
set_option linter.unusedSimpArgs false
set_option linter.unusedVariables false
section
namespace Go.Proofs.Ytffcpijeebagfaa
open Go Go.RowKit
set_option maxRecDepth 100000
set_option maxHeartbeats 4000000
open Classical
def R_imm34 (ps rs:List Pa):Prop:=∃ (l:List Ev) (i j:Nat),ps=[evsPa l,pI i,pI j]∧(i < l.length∧j < l.length∧i < j∧l.length≤1000000∧(0≤(evAt l i).k∧(evAt l i).k≤2147483647∧0≤(evAt l i).n∧(evAt l i).n≤2147483647))∧rs=[pB (decide (Imm l i j))]
def env_imm34:Env:=e1 111 R_prog34 (e1 112 R_first34 (e1 113 R_atomic34 e0))
theorem env_imm34_ok:EnvOK Try.prog env_imm34:=EnvOK.e1 s_prog34 (EnvOK.e1 s_first34 (EnvOK.e1 s_atomic34 EnvOK.e0))
theorem imm_sw {l:List Ev} {i j:Nat} (hi:i < l.length) (hj:j < l.length) (hij:i < j) (hlen:l.length≤1000000) {a b:Ev} (hw:IntKind.i64.wrap (a.k+a.n)=a.k+a.n) (hs:decide (Imm l i j)=(if a.obj≠b.obj then false
 else if a.off≠b.off then false
 else if a.kind=15 then b.kind == 18 && b.k == a.k
 else if a.kind=17 then b.kind == 16 && b.k == a.k+a.n
 else if a.kind=19 then b.kind == 20
 else if a.kind=7 then b.kind == 6 || b.kind == 8
 else if a.kind=9 then b.kind == 6
 else if a.kind=10 then b.kind == 11
 else if a.kind=12 then b.kind == 13
 else if a.kind=4∨a.kind=5 then (b.kind == 3 || b.kind == 5) && decide (Atom l i j)
 else false)) (Q:Exit→St→Prop) (hQ:∀ st,st.res pri104=some [pB (decide (Imm l i j))]→Q .ret st) (st:St)
 (h0:st.sl 0=.b (.one (.d (evsD l)))) (h1:st.sl 1=aI i) (h2:st.sl 2=aI j) (h7:st.sl 7=.b (.one (.ptr 7 1 0))) (h8:st.sl 8=.b (.one (.ptr 8 1 0))) (g7:st.gen 7=1) (g8:st.gen 8=1) (o7:st.ob 7=.cells (a.row.map .d)) (o8:st.ob 8=.cells (b.row.map .d)) :
  pwp env_imm34 pci104c12 (exS env_imm34 [] Q) st:=by
 unfold pci104c12 pci104c11 pci104c10 pci104c9 pci104c8 pci104c7 pci104c6 pci104c5 pci104c4 pci104c3 pci104c2 pci104c1 pci104c0;simp only [evsD] at h0;simp only [Ev.row,List.map_cons,List.map_nil] at o7 o8
 cases qo:(a.obj != b.obj) with
 | true =>
   rw [if_pos (bne_iff_ne.1 qo)] at hs;simp only [↓evP,evB,stB,reduceIte,reduceCtorEq,seval,h0,h1,h2,h7,h8,g7,g8,o7,o8,qo];exact hQ _ (by simp only [stB,reduceIte,reduceCtorEq,seval,hs,pri104])
 | false =>
 rw [if_neg (fun h=>by rw [bne_iff_ne.2 h] at qo;cases qo)] at hs
 cases qf:(a.off != b.off) with
 | true =>
   rw [if_pos (bne_iff_ne.1 qf)] at hs;simp only [↓evP,evB,stB,reduceIte,reduceCtorEq,seval,h0,h1,h2,h7,h8,g7,g8,o7,o8,qo,qf];exact hQ _ (by simp only [stB,reduceIte,reduceCtorEq,seval,hs,pri104])
 | false =>
 rw [if_neg (fun h=>by rw [bne_iff_ne.2 h] at qf;cases qf)] at hs
 cases k15:(a.kind == 15) with
 | true =>
   rw [if_pos (beq_iff_eq.1 k15)] at hs
   cases c1:(b.kind == 18) with
   | false =>
     rw [c1,Bool.false_and] at hs;simp only [↓evP,evB,stB,reduceIte,reduceCtorEq,seval,h0,h1,h2,h7,h8,g7,g8,o7,o8,qo,qf,k15,c1];exact hQ _ (by simp only [stB,reduceIte,reduceCtorEq,seval,hs,pri104])
   | true =>
     rw [c1,Bool.true_and] at hs;simp only [↓evP,evB,stB,reduceIte,reduceCtorEq,seval,h0,h1,h2,h7,h8,g7,g8,o7,o8,qo,qf,k15,c1,hw];exact hQ _ (by simp only [stB,reduceIte,reduceCtorEq,seval,hs,pri104])
 | false =>
 rw [if_neg (beq_eq_false_iff_ne.1 k15)] at hs
 cases k17:(a.kind == 17) with
 | true =>
   rw [if_pos (beq_iff_eq.1 k17)] at hs
   cases c1:(b.kind == 16) with
   | false =>
     rw [c1,Bool.false_and] at hs;simp only [↓evP,evB,stB,reduceIte,reduceCtorEq,seval,h0,h1,h2,h7,h8,g7,g8,o7,o8,qo,qf,k15,k17,c1];exact hQ _ (by simp only [stB,reduceIte,reduceCtorEq,seval,hs,pri104])
   | true =>
     rw [c1,Bool.true_and] at hs;simp only [↓evP,evB,stB,reduceIte,reduceCtorEq,seval,h0,h1,h2,h7,h8,g7,g8,o7,o8,qo,qf,k15,k17,c1,hw];exact hQ _ (by simp only [stB,reduceIte,reduceCtorEq,seval,hs,pri104])
 | false =>
 rw [if_neg (beq_eq_false_iff_ne.1 k17)] at hs
 cases k19:(a.kind == 19) with
 | true =>
   rw [if_pos (beq_iff_eq.1 k19)] at hs;simp only [↓evP,evB,stB,reduceIte,reduceCtorEq,seval,h0,h1,h2,h7,h8,g7,g8,o7,o8,qo,qf,k15,k17,k19];exact hQ _ (by simp only [stB,reduceIte,reduceCtorEq,seval,hs,pri104])
 | false =>
 rw [if_neg (beq_eq_false_iff_ne.1 k19)] at hs
 cases k7:(a.kind == 7) with
 | true =>
   rw [if_pos (beq_iff_eq.1 k7)] at hs
   cases c1:(b.kind == 6) with
   | true =>
     rw [c1,Bool.true_or] at hs;simp only [↓evP,evB,stB,reduceIte,reduceCtorEq,seval,h0,h1,h2,h7,h8,g7,g8,o7,o8,qo,qf,k15,k17,k19,k7,c1];exact hQ _ (by simp only [stB,reduceIte,reduceCtorEq,seval,hs,pri104])
   | false =>
     rw [c1,Bool.false_or] at hs;simp only [↓evP,evB,stB,reduceIte,reduceCtorEq,seval,h0,h1,h2,h7,h8,g7,g8,o7,o8,qo,qf,k15,k17,k19,k7,c1];exact hQ _ (by simp only [stB,reduceIte,reduceCtorEq,seval,hs,pri104])
 | false =>
 rw [if_neg (beq_eq_false_iff_ne.1 k7)] at hs
 cases k9:(a.kind == 9) with
 | true =>
   rw [if_pos (beq_iff_eq.1 k9)] at hs;simp only [↓evP,evB,stB,reduceIte,reduceCtorEq,seval,h0,h1,h2,h7,h8,g7,g8,o7,o8,qo,qf,k15,k17,k19,k7,k9];exact hQ _ (by simp only [stB,reduceIte,reduceCtorEq,seval,hs,pri104])
 | false =>
 rw [if_neg (beq_eq_false_iff_ne.1 k9)] at hs
 cases k10:(a.kind == 10) with
 | true =>
   rw [if_pos (beq_iff_eq.1 k10)] at hs;simp only [↓evP,evB,stB,reduceIte,reduceCtorEq,seval,h0,h1,h2,h7,h8,g7,g8,o7,o8,qo,qf,k15,k17,k19,k7,k9,k10];exact hQ _ (by simp only [stB,reduceIte,reduceCtorEq,seval,hs,pri104])
 | false =>
 rw [if_neg (beq_eq_false_iff_ne.1 k10)] at hs
 cases k12:(a.kind == 12) with
 | true =>
   rw [if_pos (beq_iff_eq.1 k12)] at hs;simp only [↓evP,evB,stB,reduceIte,reduceCtorEq,seval,h0,h1,h2,h7,h8,g7,g8,o7,o8,qo,qf,k15,k17,k19,k7,k9,k10,k12];exact hQ _ (by simp only [stB,reduceIte,reduceCtorEq,seval,hs,pri104])
 | false =>
 rw [if_neg (beq_eq_false_iff_ne.1 k12)] at hs
 cases k4:(a.kind == 4) with
 | true =>
   rw [if_pos (.inl (beq_iff_eq.1 k4))] at hs
   cases c3:(b.kind == 3) with
   | true =>
     rw [c3,Bool.true_or,Bool.true_and] at hs;simp only [↓evP,evB,stB,reduceIte,reduceCtorEq,seval,h0,h1,h2,h7,h8,g7,g8,o7,o8,qo,qf,k15,k17,k19,k7,k9,k10,k12,k4,c3];refine callOps_intro [pB (decide (Atom l i j))] ⟨l,i,j,rfl,⟨hi,hj,hij,hlen⟩,rfl⟩ ?_;simp only [↓evP,evB,stB,reduceIte,reduceCtorEq,seval,h0,h1,h2,h7,h8,g7,g8,o7,o8,qo,qf,k15,k17,k19,k7,k9,k10,k12,k4,c3];exact hQ _ (by simp only [stB,reduceIte,reduceCtorEq,seval,hs,pri104])
   | false =>
   cases c5:(b.kind == 5) with
   | true =>
     rw [c3,c5,Bool.false_or,Bool.true_and] at hs;simp only [↓evP,evB,stB,reduceIte,reduceCtorEq,seval,h0,h1,h2,h7,h8,g7,g8,o7,o8,qo,qf,k15,k17,k19,k7,k9,k10,k12,k4,c3,c5];refine callOps_intro [pB (decide (Atom l i j))] ⟨l,i,j,rfl,⟨hi,hj,hij,hlen⟩,rfl⟩ ?_;simp only [↓evP,evB,stB,reduceIte,reduceCtorEq,seval,h0,h1,h2,h7,h8,g7,g8,o7,o8,qo,qf,k15,k17,k19,k7,k9,k10,k12,k4,c3,c5];exact hQ _ (by simp only [stB,reduceIte,reduceCtorEq,seval,hs,pri104])
   | false =>
     rw [c3,c5,Bool.false_or,Bool.false_and] at hs;simp only [↓evP,evB,stB,reduceIte,reduceCtorEq,seval,h0,h1,h2,h7,h8,g7,g8,o7,o8,qo,qf,k15,k17,k19,k7,k9,k10,k12,k4,c3,c5];exact hQ _ (by simp only [stB,reduceIte,reduceCtorEq,seval,hs,pri104])
 | false =>
 cases k5:(a.kind == 5) with
 | true =>
   rw [if_pos (.inr (beq_iff_eq.1 k5))] at hs
   cases c3:(b.kind == 3) with
   | true =>
     rw [c3,Bool.true_or,Bool.true_and] at hs;simp only [↓evP,evB,stB,reduceIte,reduceCtorEq,seval,h0,h1,h2,h7,h8,g7,g8,o7,o8,qo,qf,k15,k17,k19,k7,k9,k10,k12,k4,k5,c3];refine callOps_intro [pB (decide (Atom l i j))] ⟨l,i,j,rfl,⟨hi,hj,hij,hlen⟩,rfl⟩ ?_;simp only [↓evP,evB,stB,reduceIte,reduceCtorEq,seval,h0,h1,h2,h7,h8,g7,g8,o7,o8,qo,qf,k15,k17,k19,k7,k9,k10,k12,k4,k5,c3];exact hQ _ (by simp only [stB,reduceIte,reduceCtorEq,seval,hs,pri104])
   | false =>
   cases c5:(b.kind == 5) with
   | true =>
     rw [c3,c5,Bool.false_or,Bool.true_and] at hs;simp only [↓evP,evB,stB,reduceIte,reduceCtorEq,seval,h0,h1,h2,h7,h8,g7,g8,o7,o8,qo,qf,k15,k17,k19,k7,k9,k10,k12,k4,k5,c3,c5];refine callOps_intro [pB (decide (Atom l i j))] ⟨l,i,j,rfl,⟨hi,hj,hij,hlen⟩,rfl⟩ ?_;simp only [↓evP,evB,stB,reduceIte,reduceCtorEq,seval,h0,h1,h2,h7,h8,g7,g8,o7,o8,qo,qf,k15,k17,k19,k7,k9,k10,k12,k4,k5,c3,c5];exact hQ _ (by simp only [stB,reduceIte,reduceCtorEq,seval,hs,pri104])
   | false =>
     rw [c3,c5,Bool.false_or,Bool.false_and] at hs;simp only [↓evP,evB,stB,reduceIte,reduceCtorEq,seval,h0,h1,h2,h7,h8,g7,g8,o7,o8,qo,qf,k15,k17,k19,k7,k9,k10,k12,k4,k5,c3,c5];exact hQ _ (by simp only [stB,reduceIte,reduceCtorEq,seval,hs,pri104])
 | false =>
   rw [if_neg (fun h=>h.elim (beq_eq_false_iff_ne.1 k4) (beq_eq_false_iff_ne.1 k5))] at hs;simp only [↓evP,evB,stB,reduceIte,reduceCtorEq,seval,h0,h1,h2,h7,h8,g7,g8,o7,o8,qo,qf,k15,k17,k19,k7,k9,k10,k12,k4,k5];exact hQ _ (by simp only [stB,reduceIte,reduceCtorEq,seval,hs,pri104])
theorem s_imm34:Spec Try.prog 104 R_imm34:=by
 refine spi104 env_imm34_ok ?_;rintro ps rs ⟨l,i,j,rfl,⟨hi,hj,hij,hlen,hk0,hk1,hn0,hn1⟩,rfl⟩;refine ⟨by simp,?_⟩;have ei:=evAt_some hi;have ej:=evAt_some hj;have hi0:(0:Int)≤(i:Int):=by omega
 have hj0:(0:Int)≤(j:Int):=by omega
 have hs:=imm_eq l i j;unfold immB at hs;generalize hea:evAt l i=a at *;generalize heb:evAt l j=b at *;have hw:IntKind.i64.wrap (a.k+a.n)=a.k+a.n:=wr64 (by omega) (by omega);have hQ:∀ st:St,st.res pri104=some [pB (decide (Imm l i j))]→(fun e s'=>(e=Exit.normal∨e=.ret)∧s'.res pri104=some [pB (decide (Imm l i j))]) .ret st:=fun st h=>⟨.inr rfl,h⟩
 unfold pci104;refine pwp_start ?_;simp only [↓evP,evB,stB,reduceIte,reduceCtorEq,seval,evsPa,evsD,hi0,hj0,ei,ej,Ev.row];refine callOps_intro [pB (decide (Prog l i j))] ⟨l,i,j,rfl,⟨hi,hj,hij,hlen⟩,rfl⟩ ?_
 by_cases hP:Prog l i j
 ·rw [if_pos hP] at hs;rw [decide_eq_true hP];simp only [↓evP,evB,stB,reduceIte,reduceCtorEq,seval,hs,pri104]
 rw [if_neg hP] at hs;rw [decide_eq_false hP]
 cases g14:(a.kind == 14) with
 | false =>
   rw [if_neg (fun h=>beq_eq_false_iff_ne.1 g14 h.1)] at hs;simp only [↓evP,evB,stB,reduceIte,reduceCtorEq,seval,g14];exact imm_sw hi hj hij hlen hw hs _ hQ _ (by simp only [stB,reduceIte,reduceCtorEq,seval,evsD]) (by simp only [stB,reduceIte,reduceCtorEq,seval]) (by simp only [stB,reduceIte,reduceCtorEq,seval]) (by simp only [stB,reduceIte,reduceCtorEq,seval]) (by simp only [stB,reduceIte,reduceCtorEq,seval]) (by simp only [stB,reduceIte,reduceCtorEq,seval]) (by simp only [stB,reduceIte,reduceCtorEq,seval]) (by simp only [stB,reduceIte,reduceCtorEq,seval];rfl) (by simp only [stB,reduceIte,reduceCtorEq,seval];rfl)
 | true =>
 cases gk:(a.k == b.g) with
 | false =>
   rw [if_neg (fun h=>beq_eq_false_iff_ne.1 gk h.2.1)] at hs;simp only [↓evP,evB,stB,reduceIte,reduceCtorEq,seval,g14,gk];exact imm_sw hi hj hij hlen hw hs _ hQ _ (by simp only [stB,reduceIte,reduceCtorEq,seval,evsD]) (by simp only [stB,reduceIte,reduceCtorEq,seval]) (by simp only [stB,reduceIte,reduceCtorEq,seval]) (by simp only [stB,reduceIte,reduceCtorEq,seval]) (by simp only [stB,reduceIte,reduceCtorEq,seval]) (by simp only [stB,reduceIte,reduceCtorEq,seval]) (by simp only [stB,reduceIte,reduceCtorEq,seval]) (by simp only [stB,reduceIte,reduceCtorEq,seval];rfl) (by simp only [stB,reduceIte,reduceCtorEq,seval];rfl)
 | true =>
   simp only [↓evP,evB,stB,reduceIte,reduceCtorEq,seval,g14,gk];refine callOps_intro [pB (decide (First l j))] ⟨l,j,rfl,⟨hj,hlen⟩,rfl⟩ ?_
   by_cases hF:First l j
   ·rw [if_pos ⟨beq_iff_eq.1 g14,beq_iff_eq.1 gk,hF⟩] at hs;rw [decide_eq_true hF];simp only [↓evP,evB,stB,reduceIte,reduceCtorEq,seval,hs,pri104]
   rw [if_neg (fun h=>hF h.2.2)] at hs;rw [decide_eq_false hF];simp only [↓evP,evB,stB,reduceIte,reduceCtorEq,seval,g14,gk];exact imm_sw hi hj hij hlen hw hs _ hQ _ (by simp only [stB,reduceIte,reduceCtorEq,seval,evsD]) (by simp only [stB,reduceIte,reduceCtorEq,seval]) (by simp only [stB,reduceIte,reduceCtorEq,seval]) (by simp only [stB,reduceIte,reduceCtorEq,seval]) (by simp only [stB,reduceIte,reduceCtorEq,seval]) (by simp only [stB,reduceIte,reduceCtorEq,seval]) (by simp only [stB,reduceIte,reduceCtorEq,seval]) (by simp only [stB,reduceIte,reduceCtorEq,seval];rfl) (by simp only [stB,reduceIte,reduceCtorEq,seval];rfl)
end Go.Proofs.Ytffcpijeebagfaa
end
section
namespace Go.Proofs.Ytffcpijeebagfaa
open Go Go.RowKit Go.Deep
open Classical
theorem Try.infoBoolRow:(Try.prog.info? 104).map (fun i=>(i.zero,i.size,i.bytes))=some (some (.slice none 0 0),1,24):=by kernel_rfl
theorem Try.infoBool1:(Try.prog.info? 4).map (fun i=>(i.zero,i.size,i.bytes))=some (some (.bool false),1,1):=by kernel_rfl
theorem RD.bel {S:Nat→Nat} {w w':World} (hb:Below w.heap.size w w') {x:Dt} {v:Value} (h:RD S w x v):RD S w' x v:=by
 refine RD.ext (S:=S) (w:=w) (fun b i hi hc=>⟨hi,hb.cell ?_⟩) h
 show b < w.heap.size
 rcases Nat.lt_or_ge b w.heap.size with h1 | h1
 ·exact h1
 ·unfold World.cell? at hc;rw [Array.getElem?_eq_none h1] at hc;cases hc
def topR (N n k:Nat):Nat→Value:=fun i=>if i < k then .slice (some ⟨N+1+i,0,none⟩) n n else .slice none 0 0
structure GridA (w wr:World) (n k:Nat):Prop where
 bel:Below w.heap.size w wr
 size:wr.heap.size=w.heap.size+1+k
 top:wr.rowIs w.heap.size 104 n (topR w.heap.size n k)
 row:∀ i,i < k→wr.rowIs (w.heap.size+1+i) 4 n (fun _=>.bool false)
structure GridM (w wr:World) (n:Nat) (M:Nat→Nat→Prop):Prop where
 bel:Below w.heap.size w wr
 size:w.heap.size+1+n≤wr.heap.size
 top:wr.rowIs w.heap.size 104 n (topR w.heap.size n n)
 row:∀ i,i < n→wr.rowIs (w.heap.size+1+i) 4 n (fun j=>.bool (decide (M i j)))
theorem gridA_start (w:World) (n:Nat):GridA w (w.alloc (.cells (madeCells #[.slice none 0 0] n) 104)) n 0 :=
 ⟨(Below.refl _ _).alloc (Nat.le_refl _) _,by simp,(World.rowIs_made w _ n 104).congr (fun j _=>by simp [topR]),fun j hj=>absurd hj (Nat.not_lt_zero _)⟩
theorem gridA_step {w wr:World} {n k:Nat} (h:GridA w wr n k) :
 GridA w ((wr.alloc (.cells (madeCells #[.bool false] n) 4)).setCell ⟨w.heap.size,k,none⟩ (.slice (some ⟨w.heap.size+1+k,0,none⟩) n n)) n (k+1):=by
 have hnew:=World.rowIs_made wr (.bool false) n 4;rw [h.size] at hnew;refine ⟨(h.bel.alloc (by rw [h.size];omega) _).setCell (Nat.le_refl _) _,by simp [h.size];omega,((h.top.alloc _).set k _).congr (fun j _=>?_),fun i hi=>?_⟩
 ·simp only [topR]
  by_cases e:j=k
  ·subst e;simp
  ·rw [if_neg e]
   by_cases hlt:j < k
   ·rw [if_pos hlt,if_pos (by omega)]
   ·rw [if_neg hlt,if_neg (by omega)]
 ·rcases Nat.lt_or_eq_of_le (Nat.le_of_lt_succ hi) with h1 | h1
  ·exact ((h.row i h1).alloc _).setOther (by show w.heap.size+1+i≠w.heap.size;omega) _
  ·subst h1;exact hnew.setOther (by show w.heap.size+1+i≠w.heap.size;omega) _
theorem gridM_of {w wr:World} {n:Nat} (h:GridA w wr n n) {M:Nat→Nat→Prop} (hM:∀ x y,¬ M x y):GridM w wr n M :=
 ⟨h.bel,by rw [h.size];exact Nat.le_refl _,h.top,fun i hi=>(h.row i hi).congr (fun j _=>by rw [decide_eq_false (hM i j)])⟩
theorem GridM.below {w wr w':World} {n:Nat} {M:Nat→Nat→Prop} (h:GridM w wr n M) (hb:Below wr.heap.size wr w'):GridM w w' n M :=
 ⟨h.bel.trans (hb.mono h.bel.size),Nat.le_trans h.size hb.size,h.top.of_block (hb.block _ h.top.lt),fun i hi=>(h.row i hi).of_block (hb.block _ (h.row i hi).lt)⟩
theorem GridM.congr {w wr:World} {n:Nat} {M M':Nat→Nat→Prop} (h:GridM w wr n M) (hM:∀ x y,x < n→y < n→(M x y↔M' x y)):GridM w wr n M' :=
 ⟨h.bel,h.size,h.top,fun i hi=>(h.row i hi).congr (fun j hj=>by rw [decide_eq_decide.2 (hM i j hi hj)])⟩
theorem GridM.set {w wr:World} {n:Nat} {M:Nat→Nat→Prop} (h:GridM w wr n M) (a c:Nat):GridM w (wr.setCell ⟨w.heap.size+1+a,c,none⟩ (.bool true)) n (fun x y=>(x=a∧y=c)∨M x y):=by
 refine ⟨h.bel.setCell (by show w.heap.size≤w.heap.size+1+a;omega) _,by simpa using h.size,h.top.setOther (by show w.heap.size≠w.heap.size+1+a;omega) _,fun i hi=>?_⟩
 by_cases hia:i=a
 ·subst hia;refine ((h.row i hi).set c _).congr (fun j _=>?_)
  by_cases hj:j=c
  ·rw [if_pos hj];exact congrArg Value.bool (@decide_eq_true _ (propDecidable _) (.inl ⟨rfl,hj⟩)).symm
  ·rw [if_neg hj];exact congrArg (fun p=>Value.bool (@decide p (propDecidable p))) (propext (⟨.inr,fun h=>h.elim (fun h=>absurd h.2 hj) id⟩:M i j↔(i=i∧j=c)∨M i j))
 ·refine ((h.row i hi).setOther (by show w.heap.size+1+i≠w.heap.size+1+a;omega) _).congr (fun j _=>?_)
  exact congrArg (fun p=>Value.bool (@decide p (propDecidable p))) (propext (⟨.inr,fun h=>h.elim (fun h=>absurd h.1 hia) id⟩:M i j↔(i=a∧j=c)∨M i j))
theorem GridM.head {w wr:World} {n:Nat} {M:Nat→Nat→Prop} (h:GridM w wr n M) {i:Nat} (hi:i < n):wr.cell? ⟨w.heap.size,i,none⟩=some (.slice (some ⟨w.heap.size+1+i,0,none⟩) n n):=by
 have:=h.top.cell hi
 simpa [topR,hi] using this
section
variable (l:List Ev)
def mA (j:Nat) (x y:Nat):Prop:=y < j∧HB l x y
def mB (j m:Nat) (x y:Nat):Prop:=(y < j∧HB l x y)∨(y=j∧∃ k,m≤k∧k < j∧Imm l k j∧HBE l x k)
def mC (j i k:Nat) (x y:Nat):Prop:=mB l j (i+1) x y∨(y=j∧(x=i∨(x < k∧HB l x i)))
variable {l}
theorem mB_start {j x y:Nat}:mA l j x y↔mB l j j x y:=⟨.inl,fun h=>h.elim id (fun ⟨_,k,h1,h2,_⟩=>by omega)⟩
theorem mB_skip {j i x y:Nat} (hn:¬ Imm l i j):mB l j (i+1) x y↔mB l j i x y:=by
 refine ⟨fun h=>h.imp id (fun ⟨h1,k,h2,h3⟩=>⟨h1,k,by omega,h3⟩),fun h=>h.imp id (fun ⟨h1,k,h2,h3,h4,h5⟩=>⟨h1,k,?_,h3,h4,h5⟩)⟩
 rcases Nat.lt_or_eq_of_le h2 with h6 | h6
 ·exact h6
 ·subst h6;exact absurd h4 hn
theorem mC_start {j i x y:Nat}:((x=i∧y=j)∨mB l j (i+1) x y)↔mC l j i 0 x y :=
 ⟨fun h=>h.elim (fun ⟨h1,h2⟩=>.inr ⟨h2,.inl h1⟩) .inl,fun h=>h.elim .inr (fun ⟨h1,h2⟩=>h2.elim (fun h3=>.inl ⟨h3,h1⟩) (fun h3=>by omega))⟩
theorem mC_read {j i k:Nat} (hij:i < j):mC l j i k k i↔HB l k i:=by
 refine ⟨fun h=>?_,fun h=>.inl (.inl ⟨hij,h⟩)⟩
 rcases h with (h | ⟨h,_⟩) | ⟨h,_⟩
 ·exact h.2
 ·omega
 ·omega
theorem mC_hit {j i k x y:Nat} (hk:HB l k i):((x=k∧y=j)∨mC l j i k x y)↔mC l j i (k+1) x y:=by
 refine ⟨fun h=>?_,fun h=>?_⟩
 ·rcases h with ⟨rfl,h2⟩ | h | ⟨h1,h | h⟩
  ·exact .inr ⟨h2,.inr ⟨by omega,hk⟩⟩
  ·exact .inl h
  ·exact .inr ⟨h1,.inl h⟩
  ·exact .inr ⟨h1,.inr ⟨by omega,h.2⟩⟩
 ·rcases h with h | ⟨h1,h | h⟩
  ·exact .inr (.inl h)
  ·exact .inr (.inr ⟨h1,.inl h⟩)
  ·by_cases hx:x=k
   ·exact .inl ⟨hx,h1⟩
   ·exact .inr (.inr ⟨h1,.inr ⟨by omega,h.2⟩⟩)
theorem mC_miss {j i k x y:Nat} (hk:¬ HB l k i):mC l j i k x y↔mC l j i (k+1) x y:=by
 refine ⟨fun h=>?_,fun h=>?_⟩
 ·rcases h with h | ⟨h1,h | h⟩
  ·exact .inl h
  ·exact .inr ⟨h1,.inl h⟩
  ·exact .inr ⟨h1,.inr ⟨by omega,h.2⟩⟩
 ·rcases h with h | ⟨h1,h | h⟩
  ·exact .inl h
  ·exact .inr ⟨h1,.inl h⟩
  ·by_cases hx:x=k
   ·subst hx;exact absurd h.2 hk
   ·exact .inr ⟨h1,.inr ⟨by omega,h.2⟩⟩
theorem mC_end {j i x y:Nat} (hij:i < j) (hi:Imm l i j):mC l j i i x y↔mB l j i x y:=by
 refine ⟨fun h=>?_,fun h=>?_⟩
 ·rcases h with (h | ⟨h1,k,h2,h3⟩) | ⟨h1,h | h⟩
  ·exact .inl h
  ·exact .inr ⟨h1,k,by omega,h3⟩
  ·exact .inr ⟨h1,i,Nat.le_refl _,hij,hi,.inl h⟩
  ·exact .inr ⟨h1,i,Nat.le_refl _,hij,hi,.inr h.2⟩
 ·rcases h with h | ⟨h1,k,h2,h3,h4,h5⟩
  ·exact .inl (.inl h)
  ·rcases Nat.lt_or_eq_of_le h2 with h6 | h6
   ·exact .inl (.inr ⟨h1,k,h6,h3,h4,h5⟩)
   ·subst h6;exact .inr ⟨h1,h5.elim .inl (fun h7=>.inr ⟨h7.lt,h7⟩)⟩
theorem mB_end {j x y:Nat}:mB l j 0 x y↔mA l (j+1) x y:=by
 refine ⟨fun h=>?_,fun h=>?_⟩
 ·rcases h with h | ⟨h1,k,_,h3,h4,h5⟩
  ·exact ⟨by omega,h.2⟩
  ·subst h1;exact ⟨by omega,HB_iff.2 ⟨k,h3,h4,h5⟩⟩
 ·rcases Nat.lt_or_eq_of_le (Nat.le_of_lt_succ h.1) with h1 | h1
  ·exact .inl ⟨h1,h.2⟩
  ·subst h1;obtain ⟨k,h3,h4,h5⟩:=HB_iff.1 h.2;exact .inr ⟨rfl,k,Nat.zero_le _,h3,h4,h5⟩
end
set_option maxRecDepth 100000 in
set_option maxHeartbeats 4000000 in
theorem rel_walk (w:World) (S:Nat→Nat) (v:Value) (l:List Ev) (hv:RD S w (evsD l) v) (hl:l.length≤1000000) (hval:∀ e,e ∈ l→e.valid=true) :
 Calls Try.prog 73 #[v] w fun e w'=>e=.returned (.slice (some ⟨w.heap.size,0,none⟩) l.length l.length)∧GridM w w' l.length (HB l):=by
 have hlen:=hv.len;rw [List.length_map] at hlen;obtain ⟨A,c,rfl,hc,hm⟩:=hlen
 have HI0:∀ (wr:World) (i j:Nat),Below w.heap.size w wr→i < l.length→j < l.length→i < j→Calls Try.prog 104 #[.slice A l.length c,.int .i64 i,.int .i64 j] wr (fun e w'=>e=.returned (.bool (decide (Imm l i j)))∧Below wr.heap.size wr w'):=by
  intro wr i j hb hi hj hij;have hr:=Ev.valid_rg (hval _ (evAt_mem hi));have:=s_imm34 _ _ ⟨l,i,j,rfl,⟨hi,hj,hij,hl,hr.2.1.1,hr.2.1.2,hr.2.2.1.1,hr.2.2.1.2⟩,rfl⟩ S wr #[.slice A l.length c,.int .i64 i,.int .i64 j] trivial (RPs.mk3 (hv.bel hb) (RP.mkInt _) (RP.mkInt _));refine this.mono ?_;rintro e w' ⟨v,S',rfl,h1,h2,_⟩;exact ⟨by rw [RP.bool h1],h2⟩
 have HI:=Lib.hid HI0;clear HI0 hv hval;have hmk1:=run_make_row' (P:=Try.prog) 102 104 (.slice none 0 0) 24 Try.underlying102 Try.infoBoolRow rfl .i64 .i64 l.length (by omega) (by omega)
 go_enter Try.func73,Try.ntmps73
 go_wp2
 go_loopg [4] l.length (fun g i wr=>∃ k:Nat,k≤l.length∧g=l.length - k∧i=.int .i64 k∧GridA w wr l.length k)
 case atStart=>exact ⟨0,Nat.zero_le _,rfl,rfl,gridA_start _ _⟩
 case round =>
  obtain ⟨k,hk,rfl,rfl,hG⟩:=hrel;have hsize:=hG.size;have hmk2:=run_make_row' (P:=Try.prog) 104 4 (.bool false) 1 Try.underlying104 Try.infoBool1 rfl .i64 .i64 l.length (by omega) (by omega);have hst1:k < l.length→∀ o,(wr.alloc o).cell? ⟨w.heap.size,k,none⟩=some (topR w.heap.size l.length k k):=fun h o=>(hG.top.alloc o).cell h
  have hst2:∀ o,(wr.alloc o).frozen? ⟨w.heap.size,k,none⟩=false:=fun o=>(hG.top.alloc o).frozen k
  clear hmk1
  go_wp2
  ·have hk':k < l.length:=by assumption
   have hS:=gridA_step hG
   go_roundg (l.length - (k+1))
   case measure=>omega
   case rel=>exact ⟨k+1,by omega,rfl,by go_num,hS⟩
  ·have hkl:k=l.length:=by omega
   subst hkl;have hM0:GridM w wr l.length (mA l 0):=gridM_of hG (fun x y h=>Nat.not_lt_zero _ h.1);clear hmk2 hst1 hst2 hsize hG;simp only [Nat.lt_irrefl,decide_false]
   go_loopg [5] l.length (fun g i wr=>∃ j:Nat,j≤l.length∧g=l.length - j∧i=.int .i64 j∧GridM w wr l.length (mA l j))
   case atStart=>exact ⟨0,Nat.zero_le _,rfl,rfl,hM0⟩
   case round =>
    obtain ⟨j,hj,rfl,rfl,hM⟩:=hrel;clear hM0
    by_cases hjl:j < l.length
    ·go_wp2
     go_loopg [6] j (fun g i wr=>((g=0∧i=.int .i64 (-1))∨(∃ m:Nat,g=m+1∧i=.int .i64 m))∧g≤j∧GridM w wr l.length (mB l j g))
     case atStart =>
      refine ⟨?_,Nat.le_refl _,hM.congr (fun x y _ _=>mB_start)⟩
      rcases j with _ | j
      ·exact .inl ⟨rfl,by first | rfl | go_num⟩
      ·exact .inr ⟨j,rfl,by go_num⟩
     case round =>
      obtain ⟨hg,hgj,hB⟩:=hrel
      rcases hg with ⟨rfl,rfl⟩ | ⟨i,rfl,rfl⟩
      ·go_wp2
       have hE:=hB.congr (fun x y _ _=>mB_end)
       go_roundg (l.length - (j+1))
       case measure=>omega
       case rel=>exact ⟨j+1,by omega,rfl,by go_num,hE⟩
      ·have hi0:(0:Int)≤(i:Int):=by omega
       have hCall:=HI.out wr i j hB.bel (by omega) hjl (by omega)
       by_cases him:Imm l i j
       ·rw [decide_eq_true him] at hCall;have HC:=Lib.hid hCall;clear hCall
        go_wp2_with (go_at_call 104;refine HC.out.mono ?_;rintro e w1 ⟨rfl,hb1⟩
                     have hB1:=hB.below hb1;have q1:=hB1.head (i:=i) (by omega);have q2:=(hB1.row i (by omega)).cell hjl;have q3:=(hB1.row i (by omega)).frozen j;have hij:(j:Int) < (l.length:Int):=by omega
                     have hil:(i:Int) < (l.length:Int):=by omega
                     have hS1:=(hB1.set i j).congr (fun x y _ _=>mC_start);clear hB hb1 HC)
        clear hB1 q1 q2 q3
        go_loopg [7] i (fun g x wr=>∃ k:Nat,k≤i∧g=i - k∧x=.int .i64 k∧GridM w wr l.length (mC l j i k))
        case atStart=>exact ⟨0,Nat.zero_le _,rfl,rfl,hS1⟩
        case round =>
         obtain ⟨k,hk2,rfl,rfl,hC⟩:=hrel;clear hS1
         by_cases hki:k < i
         ·have hk0:(0:Int)≤(k:Int):=by omega
          have hkl:(k:Int) < (l.length:Int):=by omega
          have q1:=hC.head (i:=k) (by omega);have q2:=(hC.row k (by omega)).cell (i:=i) (by omega);have q4:=(hC.row k (by omega)).cell (i:=j) hjl;have q3:=(hC.row k (by omega)).frozen j
          skip
          by_cases hhb:HB l k i
          ·rw [decide_eq_true ((mC_read (by omega)).2 hhb)] at q2;have hS2:=(hC.set k j).congr (fun x y _ _=>mC_hit hhb)
           go_wp2
           clear q1 q2 q3 q4
           go_roundg (i - (k+1))
           case measure=>omega
           case rel=>exact ⟨k+1,by omega,rfl,by go_num,hS2⟩
          ·rw [decide_eq_false (fun h=>hhb ((mC_read (by omega)).1 h))] at q2;have hS2:=hC.congr (fun x y _ _=>mC_miss hhb)
           go_wp2
           clear q1 q2 q3 q4
           go_roundg (i - (k+1))
           case measure=>omega
           case rel=>exact ⟨k+1,by omega,rfl,by go_num,hS2⟩
         ·have hki':k=i:=by omega
          subst hki';have hE:=hC.congr (fun x y _ _=>mC_end (by omega) him)
          go_wp2
          go_roundg k
          case measure=>omega
          case rel =>
           refine ⟨?_,by omega,hE⟩
           rcases k with _ | k
           ·exact .inl ⟨rfl,by first | rfl | go_num⟩
           ·exact .inr ⟨k,rfl,by go_num⟩
       ·rw [decide_eq_false him] at hCall;have HC:=Lib.hid hCall;clear hCall
        go_wp2_with (go_at_call 104;refine HC.out.mono ?_;rintro e w1 ⟨rfl,hb1⟩
                     have hS1:=(hB.below hb1).congr (fun x y _ _=>mB_skip him);clear hB hb1 HC)
        go_roundg i
        case measure=>omega
        case rel =>
         refine ⟨?_,by omega,hS1⟩
         rcases i with _ | i
         ·exact .inl ⟨rfl,by first | rfl | go_num⟩
         ·exact .inr ⟨i,rfl,by go_num⟩
    ·have hjl':j=l.length:=by omega
     subst hjl'
     go_wp2
     go_ret
     exact ⟨rfl,hM.congr (fun x y _ hy=>⟨fun h=>h.2,fun h=>⟨hy,h⟩⟩)⟩
end Go.Proofs.Ytffcpijeebagfaa
end
section
namespace Go.Proofs.Ytffcpijeebagfaa
open Go Go.RowKit
set_option maxRecDepth 100000
set_option maxHeartbeats 4000000
def R_channel (ps rs:List Pa):Prop:=∃ (s:RSt) (obj n:Int),ps=[s.pa,pI obj,pI n]∧s.chans.length≤1000000∧rs=[.agg (s.channel obj n).row]
theorem s_channel:Spec Try.prog 97 R_channel:=by
 refine sp97 EnvOK.e0 ?_;rintro ps rs ⟨s,obj,n,rfl,hlen,rfl⟩;refine ⟨by simp,?_⟩;unfold pc97;refine pwp_start ?_;simp only [↓evP,evB,stB,reduceIte,reduceCtorEq,Nat.reduceEqDiff,Nat.reduceAdd,Nat.reduceMul,Nat.reduceLeDiff,Nat.reduceLT,Nat.reduceSub,Nat.reduceBEq,RSt.pa,RSt.row];refine pwp_loopW ms97_0 os97_0 (fun m st=>∃ k:Nat,m=s.chans.length - k∧k≤s.chans.length∧(∀ i c,i < k→s.chans[i]? = some c→(c.obj == obj)=false)∧st.sl 7=aI k∧st.ob 6=.cells [.d (dI 0),.d (dI 0),.d (dI 0),.d (dI 0),.d (dB false)]∧st.gen 6=1) s.chans.length ?_ ?_
 ·exact ⟨0,rfl,Nat.zero_le _,fun i c hi=>absurd hi (Nat.not_lt_zero _),by simp only [stB,reduceIte,reduceCtorEq,Nat.reduceEqDiff,Nat.reduceAdd,Nat.reduceMul,Nat.reduceLeDiff,Nat.reduceLT,Nat.reduceSub,Nat.reduceBEq];rfl,by simp only [stB,reduceIte,reduceCtorEq,Nat.reduceEqDiff,Nat.reduceAdd,Nat.reduceMul,Nat.reduceLeDiff,Nat.reduceLT,Nat.reduceSub,Nat.reduceBEq],by simp only [stB,reduceIte,reduceCtorEq,Nat.reduceEqDiff,Nat.reduceAdd,Nat.reduceMul,Nat.reduceLeDiff,Nat.reduceLT,Nat.reduceSub,Nat.reduceBEq]⟩
 ·rintro m j ⟨k,rfl,hk,hno,h7,h6,g6⟩;simp only [stB,reduceIte,reduceCtorEq,seval] at h7 h6 g6
  rcases Nat.lt_or_ge k s.chans.length with hlt | hge
  ·obtain ⟨c,hc⟩:∃ c,s.chans[k]? = some c:=⟨_,List.getElem?_eq_getElem hlt⟩
   simp only [↓evP,evB,stB,reduceIte,reduceCtorEq,seval,h7,h6,g6,hc,RCh.row,pr97];refine ⟨fun _=>⟨fun he=>?_,fun he=>?_⟩,fun h=>absurd hlt (by omega)⟩
   ·unfold RSt.channel;rw [find_hit hno hc he];rfl
   ·exact ⟨_,by omega,(by repeat' (first | assumption | exact within_over.mpr trivial | exact Within.refl _ _ _ | (refine within_ap ?_ rfl rfl) | (refine within_ap0 ?_ rfl))),k+1,rfl,by omega,no_succ hno hc he,by simp only [stB,reduceIte,reduceCtorEq,seval,h7];rw [wrN (by omega)],by simp only [stB,reduceIte,reduceCtorEq,seval,h6],by simp only [stB,reduceIte,reduceCtorEq,seval,g6]⟩
  ·simp only [↓evP,evB,stB,reduceIte,reduceCtorEq,seval,h7,h6,g6,pr97];refine ⟨fun h=>absurd h (by omega),fun h=>?_⟩;unfold RSt.channel;rw [find_miss (fun i c hi hc=>hno i c (by omega) hc)];rfl
def R_setChannel (ps rs:List Pa):Prop:=∃ (s:RSt) (c:RCh),ps=[s.pa,.agg c.row]∧s.chans.length≤900000∧rs=[(s.setChannel c).pa]
theorem s_setChannel:Spec Try.prog 99 R_setChannel:=by
 refine sp99 EnvOK.e0 ?_;rintro ps rs ⟨s,c,rfl,hlen,rfl⟩;refine ⟨by simp,?_⟩;unfold pc99;refine pwp_start ?_;simp only [↓evP,evB,stB,reduceIte,reduceCtorEq,Nat.reduceEqDiff,Nat.reduceAdd,Nat.reduceMul,Nat.reduceLeDiff,Nat.reduceLT,Nat.reduceSub,Nat.reduceBEq,RSt.pa,RSt.row,RCh.row];refine pwp_loopW ms99_0 os99_0 (fun m st=>∃ k:Nat,m=s.chans.length - k∧k≤s.chans.length∧st.sl 6=aI k∧st.gen 5=1∧st.sl 5=.b (.one (.own 5 1 (((s.chans.take k).filter (fun d=>d.obj != c.obj)).map RCh.row)))∧st.ob 5=.row 146 5 ((s.chans.take k).filter (fun d=>d.obj != c.obj)).length) s.chans.length ?_ ?_
 ·exact ⟨0,rfl,Nat.zero_le _,by simp only [stB,reduceIte,reduceCtorEq,Nat.reduceEqDiff,Nat.reduceAdd,Nat.reduceMul,Nat.reduceLeDiff,Nat.reduceLT,Nat.reduceSub,Nat.reduceBEq];rfl,by simp only [stB,reduceIte,reduceCtorEq,Nat.reduceEqDiff,Nat.reduceAdd,Nat.reduceMul,Nat.reduceLeDiff,Nat.reduceLT,Nat.reduceSub,Nat.reduceBEq],by simp only [stB,reduceIte,reduceCtorEq,Nat.reduceEqDiff,Nat.reduceAdd,Nat.reduceMul,Nat.reduceLeDiff,Nat.reduceLT,Nat.reduceSub,Nat.reduceBEq,List.filter_nil],by simp only [stB,reduceIte,reduceCtorEq,Nat.reduceEqDiff,Nat.reduceAdd,Nat.reduceMul,Nat.reduceLeDiff,Nat.reduceLT,Nat.reduceSub,Nat.reduceBEq,List.filter_nil]⟩
 ·rintro m j ⟨k,rfl,hk,h6,g5,h5,o5⟩;simp only [stB,reduceIte,reduceCtorEq,seval] at h6 g5 h5 o5
  rcases Nat.lt_or_ge k s.chans.length with hlt | hge
  ·obtain ⟨d,hd⟩:∃ d,s.chans[k]? = some d:=⟨_,List.getElem?_eq_getElem hlt⟩
   have hb:((s.chans.take k).filter (fun d=>d.obj != c.obj)).length+1≤1000000:=by have:=filter_take_le s.chans (fun d=>d.obj != c.obj) k;omega
   simp only [↓evP,evB,stB,reduceIte,reduceCtorEq,seval,h6,g5,h5,o5,hd,RCh.row,hb];refine ⟨fun _=>⟨(by unfold Drw;kernel_rfl),fun he=>?_,fun he=>?_⟩,fun h=>absurd hlt (by omega)⟩
   ·exact ⟨_,by omega,(by repeat' (first | assumption | exact within_over.mpr trivial | exact Within.refl _ _ _ | (refine within_ap ?_ rfl rfl) | (refine within_ap0 ?_ rfl))),k+1,rfl,by omega,by simp only [stB,reduceIte,reduceCtorEq,seval,h6];rw [wrN (by omega)],by simp only [stB,reduceIte,reduceCtorEq,seval,g5],by simp only [stB,reduceIte,reduceCtorEq,seval,h5,filter_succ hd,he,List.map_append,RCh.row],by simp only [stB,reduceIte,reduceCtorEq,seval,o5,filter_succ hd,he,List.length_append]⟩
   ·exact ⟨_,by omega,(by repeat' (first | assumption | exact within_over.mpr trivial | exact Within.refl _ _ _ | (refine within_ap ?_ rfl rfl) | (refine within_ap0 ?_ rfl))),k+1,rfl,by omega,by simp only [stB,reduceIte,reduceCtorEq,seval,h6];rw [wrN (by omega)],by simp only [stB,reduceIte,reduceCtorEq,seval,g5],by simp [stB,reduceIte,reduceCtorEq,seval,h5,filter_succ hd,he],by simp [stB,reduceIte,reduceCtorEq,seval,o5,filter_succ hd,he]⟩
  ·have hkl:k=s.chans.length:=by omega
   subst hkl;rw [List.take_length] at h5 o5;have hb:(s.chans.filter (fun d=>d.obj != c.obj)).length+1≤1000000:=by have:=List.length_filter_le (fun d:RCh=>d.obj != c.obj) s.chans;omega
   simp only [↓evP,evB,stB,reduceIte,reduceCtorEq,seval,h6,g5,h5,o5,hb,pr99];refine ⟨fun h=>absurd h (by omega),fun _=>?_⟩;simp [RSt.setChannel,RCh.row,RSt.pa,RSt.row]
def R_lock (ps rs:List Pa):Prop:=∃ (s:RSt) (obj off:Int),ps=[s.pa,pI obj,pI off]∧s.locks.length≤1000000∧rs=[.agg (s.lock obj off).row]
theorem s_lock:Spec Try.prog 100 R_lock:=by
 refine sp100 EnvOK.e0 ?_;rintro ps rs ⟨s,obj,off,rfl,hlen,rfl⟩;refine ⟨by simp,?_⟩;unfold pc100;refine pwp_start ?_;simp only [↓evP,evB,stB,reduceIte,reduceCtorEq,Nat.reduceEqDiff,Nat.reduceAdd,Nat.reduceMul,Nat.reduceLeDiff,Nat.reduceLT,Nat.reduceSub,Nat.reduceBEq,RSt.pa,RSt.row];refine pwp_loopW ms100_0 os100_0 (fun m st=>∃ k:Nat,m=s.locks.length - k∧k≤s.locks.length∧(∀ i c,i < k→s.locks[i]? = some c→(c.obj == obj && c.off == off)=false)∧st.sl 7=aI k∧st.ob 6=.cells [.d (dI 0),.d (dI 0),.d (dB false),.d (dI 0)]∧st.gen 6=1) s.locks.length ?_ ?_
 ·exact ⟨0,rfl,Nat.zero_le _,fun i c hi=>absurd hi (Nat.not_lt_zero _),by simp only [stB,reduceIte,reduceCtorEq,Nat.reduceEqDiff,Nat.reduceAdd,Nat.reduceMul,Nat.reduceLeDiff,Nat.reduceLT,Nat.reduceSub,Nat.reduceBEq];rfl,by simp only [stB,reduceIte,reduceCtorEq,Nat.reduceEqDiff,Nat.reduceAdd,Nat.reduceMul,Nat.reduceLeDiff,Nat.reduceLT,Nat.reduceSub,Nat.reduceBEq],by simp only [stB,reduceIte,reduceCtorEq,Nat.reduceEqDiff,Nat.reduceAdd,Nat.reduceMul,Nat.reduceLeDiff,Nat.reduceLT,Nat.reduceSub,Nat.reduceBEq]⟩
 ·rintro m j ⟨k,rfl,hk,hno,h7,h6,g6⟩;simp only [stB,reduceIte,reduceCtorEq,seval] at h7 h6 g6
  rcases Nat.lt_or_ge k s.locks.length with hlt | hge
  ·obtain ⟨c,hc⟩:∃ c,s.locks[k]? = some c:=⟨_,List.getElem?_eq_getElem hlt⟩
   simp only [↓evP,evB,stB,reduceIte,reduceCtorEq,seval,h7,h6,g6,hc,RLk.row,pr100];refine ⟨fun _=>⟨fun e1=>⟨fun e2=>?_,fun e2=>?_⟩,fun e1=>?_⟩,fun h=>absurd hlt (by omega)⟩
   ·unfold RSt.lock;rw [find_hit hno hc (by rw [e1,e2];rfl)];rfl
   ·exact ⟨_,by omega,(by repeat' (first | assumption | exact within_over.mpr trivial | exact Within.refl _ _ _ | (refine within_ap ?_ rfl rfl) | (refine within_ap0 ?_ rfl))),k+1,rfl,by omega,no_succ hno hc (by rw [e2,Bool.and_false]),by simp only [stB,reduceIte,reduceCtorEq,seval,h7];rw [wrN (by omega)],by simp only [stB,reduceIte,reduceCtorEq,seval,h6],by simp only [stB,reduceIte,reduceCtorEq,seval,g6]⟩
   ·exact ⟨_,by omega,(by repeat' (first | assumption | exact within_over.mpr trivial | exact Within.refl _ _ _ | (refine within_ap ?_ rfl rfl) | (refine within_ap0 ?_ rfl))),k+1,rfl,by omega,no_succ hno hc (by rw [e1];rfl),by simp only [stB,reduceIte,reduceCtorEq,seval,h7];rw [wrN (by omega)],by simp only [stB,reduceIte,reduceCtorEq,seval,h6],by simp only [stB,reduceIte,reduceCtorEq,seval,g6]⟩
  ·simp only [↓evP,evB,stB,reduceIte,reduceCtorEq,seval,h7,h6,g6,pr100];refine ⟨fun h=>absurd h (by omega),fun h=>?_⟩;unfold RSt.lock;rw [find_miss (fun i c hi hc=>hno i c (by omega) hc)];rfl
def R_setLock (ps rs:List Pa):Prop:=∃ (s:RSt) (c:RLk),ps=[s.pa,.agg c.row]∧s.locks.length≤900000∧rs=[(s.setLock c).pa]
theorem s_setLock:Spec Try.prog 101 R_setLock:=by
 refine sp101 EnvOK.e0 ?_;rintro ps rs ⟨s,c,rfl,hlen,rfl⟩;refine ⟨by simp,?_⟩;unfold pc101;refine pwp_start ?_;simp only [↓evP,evB,stB,reduceIte,reduceCtorEq,Nat.reduceEqDiff,Nat.reduceAdd,Nat.reduceMul,Nat.reduceLeDiff,Nat.reduceLT,Nat.reduceSub,Nat.reduceBEq,RSt.pa,RSt.row,RLk.row];refine pwp_loopW ms101_0 os101_0 (fun m st=>∃ k:Nat,m=s.locks.length - k∧k≤s.locks.length∧st.sl 6=aI k∧st.gen 5=1∧st.sl 5=.b (.one (.own 5 1 (((s.locks.take k).filter (fun d=>d.obj != c.obj || d.off != c.off)).map RLk.row)))∧st.ob 5=.row 151 4 ((s.locks.take k).filter (fun d=>d.obj != c.obj || d.off != c.off)).length) s.locks.length ?_ ?_
 ·exact ⟨0,rfl,Nat.zero_le _,by simp only [stB,reduceIte,reduceCtorEq,Nat.reduceEqDiff,Nat.reduceAdd,Nat.reduceMul,Nat.reduceLeDiff,Nat.reduceLT,Nat.reduceSub,Nat.reduceBEq];rfl,by simp only [stB,reduceIte,reduceCtorEq,Nat.reduceEqDiff,Nat.reduceAdd,Nat.reduceMul,Nat.reduceLeDiff,Nat.reduceLT,Nat.reduceSub,Nat.reduceBEq],by simp only [stB,reduceIte,reduceCtorEq,Nat.reduceEqDiff,Nat.reduceAdd,Nat.reduceMul,Nat.reduceLeDiff,Nat.reduceLT,Nat.reduceSub,Nat.reduceBEq,List.filter_nil],by simp only [stB,reduceIte,reduceCtorEq,Nat.reduceEqDiff,Nat.reduceAdd,Nat.reduceMul,Nat.reduceLeDiff,Nat.reduceLT,Nat.reduceSub,Nat.reduceBEq,List.filter_nil]⟩
 ·rintro m j ⟨k,rfl,hk,h6,g5,h5,o5⟩;simp only [stB,reduceIte,reduceCtorEq,seval] at h6 g5 h5 o5
  rcases Nat.lt_or_ge k s.locks.length with hlt | hge
  ·obtain ⟨d,hd⟩:∃ d,s.locks[k]? = some d:=⟨_,List.getElem?_eq_getElem hlt⟩
   have hb:((s.locks.take k).filter (fun d=>d.obj != c.obj || d.off != c.off)).length+1≤1000000:=by have:=filter_take_le s.locks (fun d=>d.obj != c.obj || d.off != c.off) k;omega
   simp only [↓evP,evB,stB,reduceIte,reduceCtorEq,seval,h6,g5,h5,o5,hd,RLk.row,hb];refine ⟨fun _=>?_,fun h=>absurd hlt (by omega)⟩
   repeat' (first | apply And.intro | intro)
   all_goals first
    | (unfold Drw;kernel_rfl)
    | exact ⟨_,by omega,(by repeat' (first | assumption | exact within_over.mpr trivial | exact Within.refl _ _ _ | (refine within_ap ?_ rfl rfl) | (refine within_ap0 ?_ rfl))),k+1,rfl,by omega,by simp only [stB,reduceIte,reduceCtorEq,seval,h6];rw [wrN (by omega)],by simp only [stB,reduceIte,reduceCtorEq,seval,g5],by simp [stB,reduceIte,reduceCtorEq,seval,h5,filter_succ hd,RLk.row, *],by simp [stB,reduceIte,reduceCtorEq,seval,o5,filter_succ hd, *]⟩
    | skip
  ·have hkl:k=s.locks.length:=by omega
   subst hkl;rw [List.take_length] at h5 o5;have hb:(s.locks.filter (fun d=>d.obj != c.obj || d.off != c.off)).length+1≤1000000:=by have:=List.length_filter_le (fun d:RLk=>d.obj != c.obj || d.off != c.off) s.locks;omega
   simp only [↓evP,evB,stB,reduceIte,reduceCtorEq,seval,h6,g5,h5,o5,hb,pr101];refine ⟨fun h=>absurd h (by omega),fun _=>?_⟩;simp [RSt.setLock,RLk.row,RSt.pa,RSt.row]
def R_done (ps rs:List Pa):Prop:=∃ (s:RSt) (obj off:Int),ps=[s.pa,pI obj,pI off]∧s.done.length≤1000000∧rs=[pB (s.isDone obj off)]
theorem s_done:Spec Try.prog 102 R_done:=by
 refine sp102 EnvOK.e0 ?_;rintro ps rs ⟨s,obj,off,rfl,hlen,rfl⟩;refine ⟨by simp,?_⟩;unfold pc102;refine pwp_start ?_;simp only [↓evP,evB,stB,reduceIte,reduceCtorEq,Nat.reduceEqDiff,Nat.reduceAdd,Nat.reduceMul,Nat.reduceLeDiff,Nat.reduceLT,Nat.reduceSub,Nat.reduceBEq,RSt.pa,RSt.row];refine pwp_loopW ms102_0 os102_0 (fun m st=>∃ k:Nat,m=s.done.length - k∧k≤s.done.length∧(∀ i c,i < k→s.done[i]? = some c→(c.1 == obj && c.2 == off)=false)∧st.sl 7=aI k) s.done.length ?_ ?_
 ·exact ⟨0,rfl,Nat.zero_le _,fun i c hi=>absurd hi (Nat.not_lt_zero _),by simp only [stB,reduceIte,reduceCtorEq,Nat.reduceEqDiff,Nat.reduceAdd,Nat.reduceMul,Nat.reduceLeDiff,Nat.reduceLT,Nat.reduceSub,Nat.reduceBEq];rfl⟩
 ·rintro m j ⟨k,rfl,hk,hno,h7⟩;simp only [stB,reduceIte,reduceCtorEq,seval] at h7
  rcases Nat.lt_or_ge k s.done.length with hlt | hge
  ·obtain ⟨c,hc⟩:∃ c,s.done[k]? = some c:=⟨_,List.getElem?_eq_getElem hlt⟩
   simp only [↓evP,evB,stB,reduceIte,reduceCtorEq,seval,h7,hc,locRow,pr102];refine ⟨fun _=>⟨fun e1=>⟨fun e2=>?_,fun e2=>?_⟩,fun e1=>?_⟩,fun h=>absurd hlt (by omega)⟩
   ·unfold RSt.isDone;rw [List.any_eq_true.2 ⟨c,List.mem_of_getElem? hc,by rw [e1,e2];rfl⟩]
   ·exact ⟨_,by omega,(by repeat' (first | assumption | exact within_over.mpr trivial | exact Within.refl _ _ _ | (refine within_ap ?_ rfl rfl) | (refine within_ap0 ?_ rfl))),k+1,rfl,by omega,no_succ hno hc (by rw [e2,Bool.and_false]),by simp only [stB,reduceIte,reduceCtorEq,seval,h7];rw [wrN (by omega)]⟩
   ·exact ⟨_,by omega,(by repeat' (first | assumption | exact within_over.mpr trivial | exact Within.refl _ _ _ | (refine within_ap ?_ rfl rfl) | (refine within_ap0 ?_ rfl))),k+1,rfl,by omega,no_succ hno hc (by rw [e1];rfl),by simp only [stB,reduceIte,reduceCtorEq,seval,h7];rw [wrN (by omega)]⟩
  ·simp only [↓evP,evB,stB,reduceIte,reduceCtorEq,seval,h7,pr102];refine ⟨fun h=>absurd h (by omega),fun h=>?_⟩;unfold RSt.isDone;rw [any_miss (fun i c hi hc=>hno i c (by omega) hc)]
def env_counted:Env:=e1 97 R_channel (e1 99 R_setChannel e0)
theorem env_counted_ok:EnvOK Try.prog env_counted:=EnvOK.e1 s_channel (EnvOK.e1 s_setChannel EnvOK.e0)
theorem RSt.channel_bd {s:RSt} (h:s.ok) (obj n:Int):(0≤(s.channel obj n).sent∧(s.channel obj n).sent≤1000000)∧(0≤(s.channel obj n).recv∧(s.channel obj n).recv≤1000000):=by
 unfold RSt.channel
 cases hf:s.chans.find? (fun c=>c.obj == obj) with
 | none=>simp
 | some c=>exact h.ch.2 c (List.mem_of_find?_eq_some hf)
def R_counted (ps rs:List Pa):Prop:=∃ (s:RSt) (e:Ev),ps=[s.pa,e.pa]∧s.ok∧rs=[(s.counted e).pa]
theorem s_counted:Spec Try.prog 96 R_counted:=by
 refine sp96 env_counted_ok ?_;rintro ps rs ⟨s,e,rfl,hok,rfl⟩;refine ⟨by simp,?_⟩;obtain ⟨⟨c1,c2⟩,c3,c4⟩:=RSt.channel_bd hok e.obj e.n;unfold pc96;refine pwp_start ?_;simp only [↓evP,evB,stB,reduceIte,reduceCtorEq,seval,RSt.pa,RSt.row,Ev.pa,Ev.row];refine callOps_intro [.agg (s.channel e.obj e.n).row] ⟨s,e.obj,e.n,rfl,by have:=hok.ch.1;omega,rfl⟩ ?_
 simp only [↓evP,evB,stB,reduceIte,reduceCtorEq,seval,RCh.row,pr96];refine ⟨fun h15=>?_,fun h15=>⟨fun h17=>?_,fun h17=>?_⟩⟩
 ·rw [wr64 (by omega) (by omega)]
  refine callOps_intro [(s.setChannel { s.channel e.obj e.n with sent:=(s.channel e.obj e.n).sent+1 }).pa] ⟨s,{ s.channel e.obj e.n with sent:=(s.channel e.obj e.n).sent+1 },rfl,hok.ch.1,rfl⟩ ?_;simp only [↓evP,evB,stB,reduceIte,reduceCtorEq,seval,RSt.pa,RSt.row,pr96];unfold RSt.counted RCh.count;rw [if_pos (Or.inl (beq_iff_eq.1 h15)),if_pos (beq_iff_eq.1 h15)]
 ·rw [wr64 (by omega) (by omega)]
  refine callOps_intro [(s.setChannel { s.channel e.obj e.n with recv:=(s.channel e.obj e.n).recv+1 }).pa] ⟨s,{ s.channel e.obj e.n with recv:=(s.channel e.obj e.n).recv+1 },rfl,hok.ch.1,rfl⟩ ?_;simp only [↓evP,evB,stB,reduceIte,reduceCtorEq,seval,RSt.pa,RSt.row,pr96];unfold RSt.counted RCh.count;rw [if_pos (Or.inr (beq_iff_eq.1 h17)),if_neg (beq_eq_false_iff_ne.1 h15),if_pos (beq_iff_eq.1 h17)]
 ·unfold RSt.counted;rw [if_neg (fun h=>h.elim (beq_eq_false_iff_ne.1 h15) (beq_eq_false_iff_ne.1 h17))]
def R_begin (ps rs:List Pa):Prop:=∃ (s:RSt) (e:Ev) (next:List RWt),ps=[s.pa,e.pa,.one (.im (next.map RWt.row))]∧(s.ok∧next.length≤900000)∧rs=[(s.begin e next).pa,pB true]
def env_begin:Env:=e1 96 R_counted e0
theorem env_begin_ok:EnvOK Try.prog env_begin:=EnvOK.e1 s_counted EnvOK.e0
theorem s_begin:Spec Try.prog 98 R_begin:=by
 refine sp98 env_begin_ok ?_;rintro ps rs ⟨s,e,next,rfl,⟨hok,hn⟩,rfl⟩;refine ⟨by simp,?_⟩;unfold pc98;refine pwp_start ?_;simp only [↓evP,evB,stB,reduceIte,reduceCtorEq,seval,RSt.pa,RSt.row,Ev.pa,Ev.row];refine ⟨(by unfold Drw;kernel_rfl),?_⟩
 refine callOps_intro [(s.begin e next).pa] ⟨{ s with next:=next,obj:=e.obj,k:=e.k,n:=e.n },e,rfl,⟨hok.ct,hok.gr,hok.ch,hok.lk,hok.dn,hn⟩,rfl⟩ ?_;simp only [↓evP,evB,stB,reduceIte,reduceCtorEq,seval,RSt.pa,RSt.row,pr98]
def R_group (ps rs:List Pa):Prop:=∃ (s:RSt) (e:Ev),ps=[s.pa,e.pa]∧(s.ok∧s.next≠[])∧rs=[(s.groupR e).1.pa,pB (s.groupR e).2]
def env_group:Env:=e1 96 R_counted e0
theorem env_group_ok:EnvOK Try.prog env_group:=EnvOK.e1 s_counted EnvOK.e0
theorem group_tail {s:RSt} {e:Ev} {w:RWt} {rest:List RWt} (hok:s.ok) (hnx:s.next=w :: rest) (Q:Exit→St→Prop)
 (hQ:∀ st,st.res pr65=some [(RSt.counted { s with next:=rest.map (w.known e.g) } e).pa,pB true]→Q .ret st) (st:St)
 (h2:st.sl 2=.b (.one (.ptr 2 1 0))) (h3:st.sl 3=.b (.one (.ptr 3 1 0))) (h4:st.sl 4=.b (.one (.ptr 4 1 0))) (h6:st.sl 6=.b (.one (.ptr 6 1 0)))
 (g2:st.gen 2=1) (g3:st.gen 3=1) (g4:st.gen 4=1) (g6:st.gen 6=1) (g7:st.gen 7=0)
 (o2:st.ob 2=.cells (s.row.map .d)) (o3:st.ob 3=.cells (e.row.map .d)) (o4:st.ob 4=.cells [.d (dI 0),.d (dI 0),.d (.sc (.slice none 0 0)),.d (.sc (.slice none 0 0)),.d (.sc (.slice none 0 0)),.d (.sc (.slice none 0 0)),.d (dI 0),.d (dI 0),.d (dI 0)]) (o6:st.ob 6=.cells (w.row.map .d)) :
 pwp env_group pc65c2 (exS env_group [] Q) st:=by
 have hlen:=hok.nx;rw [hnx,List.length_cons] at hlen;simp only [RSt.row,Ev.row,RWt.row,hnx,List.map_cons,List.map_nil] at o2 o3 o4 o6;unfold pc65c2 pc65c1;simp only [↓evP,evB,stB,reduceIte,reduceCtorEq,Nat.reduceEqDiff,Nat.reduceAdd,Nat.reduceMul,Nat.reduceLeDiff,Nat.reduceLT,Nat.reduceSub,Nat.reduceBEq,h2,h3,h4,h6,g2,g3,g4,g6,g7,o2,o3,o4,o6];refine pwp_loopW ms65_0 os65_0 (fun m st=>∃ k:Nat,m=rest.length - k∧k≤rest.length∧st.sl 8=aI ((k+1:Nat):Int)∧st.gen 7=1∧st.sl 7=.b (.one (.own 7 1 ((rest.take k).map fun x=>(w.known e.g x).row)))∧st.ob 7=.row 143 3 k) rest.length ?_ ?_
 ·exact ⟨0,rfl,Nat.zero_le _,by simp only [stB,reduceIte,reduceCtorEq,Nat.reduceEqDiff,Nat.reduceAdd,Nat.reduceMul,Nat.reduceLeDiff,Nat.reduceLT,Nat.reduceSub,Nat.reduceBEq];rfl,by simp only [stB,reduceIte,reduceCtorEq,Nat.reduceEqDiff,Nat.reduceAdd,Nat.reduceMul,Nat.reduceLeDiff,Nat.reduceLT,Nat.reduceSub,Nat.reduceBEq,g7],by simp only [stB,reduceIte,reduceCtorEq,Nat.reduceEqDiff,Nat.reduceAdd,Nat.reduceMul,Nat.reduceLeDiff,Nat.reduceLT,Nat.reduceSub,Nat.reduceBEq,g7],by simp only [stB,reduceIte,reduceCtorEq,Nat.reduceEqDiff,Nat.reduceAdd,Nat.reduceMul,Nat.reduceLeDiff,Nat.reduceLT,Nat.reduceSub,Nat.reduceBEq]⟩
 ·rintro m j ⟨k,rfl,hk,h8,g7',h7,o7⟩;simp only [stB,reduceIte,reduceCtorEq,seval] at h8 g7' h7 o7
  rcases Nat.lt_or_ge k rest.length with hlt | hge
  ·obtain ⟨d,hd⟩:∃ d,rest[k]? = some d:=⟨_,List.getElem?_eq_getElem hlt⟩
   have hb:k+1≤1000000:=by omega
   have hb2:((k+1:Nat):Int) < ((rest.length+1:Nat):Int):=by omega
   have hb3:((k+1:Nat):Int)≥0:=by omega
   simp only [↓evP,evB,stB,reduceIte,reduceCtorEq,seval,h2,h3,h4,h6,g2,g3,g4,g6,o2,o3,o4,o6,h8,g7',h7,o7,hd,hb,hb2,hb3,RWt.row,List.length_take,Nat.min_eq_left hk]
   have hkn:∀ hw:w.g < 0,∀ hx:d.g < 0,w.known e.g d={ d with g:=e.g }:=fun hw hx=>if_pos ⟨hw,hx⟩
   have hkn2:¬ (w.g < 0∧d.g < 0)→w.known e.g d=d:=fun h=>if_neg h
   refine ⟨fun hw=>⟨fun hx=>?_,fun hx=>?_⟩,fun hw=>?_⟩
   ·exact ⟨_,by omega,(by repeat' (first | assumption | exact within_over.mpr trivial | exact Within.refl _ _ _ | (refine within_ap ?_ rfl rfl) | (refine within_ap0 ?_ rfl))),k+1,rfl,by omega,by simp only [stB,reduceIte,reduceCtorEq,seval,h8];rw [wrN (by omega)],by simp only [stB,reduceIte,reduceCtorEq,seval,g7'],by simp only [stB,reduceIte,reduceCtorEq,seval,h7,List.take_add_one,hd,Option.toList_some,List.map_append,hkn hw hx,RWt.row],by simp only [stB,reduceIte,reduceCtorEq,seval,o7]⟩
   ·exact ⟨_,by omega,(by repeat' (first | assumption | exact within_over.mpr trivial | exact Within.refl _ _ _ | (refine within_ap ?_ rfl rfl) | (refine within_ap0 ?_ rfl))),k+1,rfl,by omega,by simp only [stB,reduceIte,reduceCtorEq,seval,h8];rw [wrN (by omega)],by simp only [stB,reduceIte,reduceCtorEq,seval,g7'],by simp only [stB,reduceIte,reduceCtorEq,seval,h7,List.take_add_one,hd,Option.toList_some,List.map_append,hkn2 (fun h=>hx h.2),RWt.row],by simp only [stB,reduceIte,reduceCtorEq,seval,o7]⟩
   ·exact ⟨_,by omega,(by repeat' (first | assumption | exact within_over.mpr trivial | exact Within.refl _ _ _ | (refine within_ap ?_ rfl rfl) | (refine within_ap0 ?_ rfl))),k+1,rfl,by omega,by simp only [stB,reduceIte,reduceCtorEq,seval,h8];rw [wrN (by omega)],by simp only [stB,reduceIte,reduceCtorEq,seval,g7'],by simp only [stB,reduceIte,reduceCtorEq,seval,h7,List.take_add_one,hd,Option.toList_some,List.map_append,hkn2 (fun h=>hw h.1),RWt.row],by simp only [stB,reduceIte,reduceCtorEq,seval,o7]⟩
  ·have hkl:k=rest.length:=by omega
   subst hkl;rw [List.take_length] at h7;have hb2:¬ (((rest.length+1:Nat):Int) < ((rest.length+1:Nat):Int)):=by omega
   unfold pc65c0;simp only [↓evP,evB,stB,reduceIte,reduceCtorEq,seval,h2,h3,h4,h6,g2,g3,g4,g6,o2,o3,o4,o6,h8,g7',h7,o7,hb2]
   refine callOps_intro [(RSt.counted { s with next:=rest.map (w.known e.g) } e).pa] ⟨{ s with next:=rest.map (w.known e.g) },e,?_,⟨hok.ct,hok.gr,hok.ch,hok.lk,hok.dn,by simp;omega⟩,rfl⟩ ?_
   ·simp only [RSt.pa,RSt.row,Ev.pa,Ev.row,List.map_map];rfl
   ·simp only [↓evP,evB,stB,reduceIte,reduceCtorEq,seval,RSt.pa,RSt.row,h2,h3,h4,h6,g2,g3,g4,g6,o2,o3,o4,o6];refine hQ _ ?_;simp only [stB,reduceIte,reduceCtorEq,seval,pr65,RSt.pa,RSt.row,h2,h3,h4,h6,g2,g3,g4,g6,o2,o3,o4,o6]
theorem s_group:Spec Try.prog 65 R_group:=by
 refine sp65 env_group_ok ?_;rintro ps rs ⟨s,e,rfl,⟨hok,hn⟩,rfl⟩;refine ⟨by simp,?_⟩
 obtain ⟨w,rest,hnx⟩:∃ w rest,s.next=w :: rest:=by cases h:s.next with
  | nil=>exact absurd h hn
  | cons w l=>exact ⟨w,l,rfl⟩
 unfold pc65;refine pwp_start ?_;simp only [↓evP,evB,stB,reduceIte,reduceCtorEq,seval,RSt.pa,RSt.row,Ev.pa,Ev.row,hnx,RWt.row,Int.toNat_zero,Int.le_refl];refine pwp_fresh [2,3,4,5,6] [2,3,4,6,7] (fun st hs ho=>?_);simp only [stB,reduceIte,reduceCtorEq,seval] at hs ho;obtain ⟨h2,h3,h4,h5,h6⟩:=hs;obtain ⟨⟨g2,o2⟩,⟨g3,o3⟩,⟨g4,o4⟩,⟨g6,o6⟩,g7,o7⟩:=ho;unfold pc65c4 pc65c3
 cases hf:s.fits w e with
 | false =>
   have hg:s.groupR e=(s,false):=by unfold RSt.groupR;rw [hnx];dsimp only;rw [hf];rfl
   rw [hg];unfold RSt.fits at hf
   cases b1:(e.kind != w.kind) with
   | true=>simp only [↓evP,evB,stB,reduceIte,reduceCtorEq,seval,h2,h3,h4,h5,h6,g2,g3,g4,g6,o2,o3,o4,o6,RSt.pa,RSt.row,decide_true,decide_false,pr65,hnx,RWt.row,b1]
   | false =>
   cases b2:(e.obj != s.obj) with
   | true=>simp only [↓evP,evB,stB,reduceIte,reduceCtorEq,seval,h2,h3,h4,h5,h6,g2,g3,g4,g6,o2,o3,o4,o6,RSt.pa,RSt.row,decide_true,decide_false,pr65,hnx,RWt.row,b1,b2]
   | false =>
   cases b3:(e.k != s.k) with
   | true=>simp only [↓evP,evB,stB,reduceIte,reduceCtorEq,seval,h2,h3,h4,h5,h6,g2,g3,g4,g6,o2,o3,o4,o6,RSt.pa,RSt.row,decide_true,decide_false,pr65,hnx,RWt.row,b1,b2,b3]
   | false =>
   cases b4:(e.n != s.n) with
   | true=>simp only [↓evP,evB,stB,reduceIte,reduceCtorEq,seval,h2,h3,h4,h5,h6,g2,g3,g4,g6,o2,o3,o4,o6,RSt.pa,RSt.row,decide_true,decide_false,pr65,hnx,RWt.row,b1,b2,b3,b4]
   | false =>
   by_cases b5:w.g≥0
   ·have b6:¬ w.g < 0:=by omega
    cases b7:(e.g != w.g) with
    | true=>simp only [↓evP,evB,stB,reduceIte,reduceCtorEq,seval,h2,h3,h4,h5,h6,g2,g3,g4,g6,o2,o3,o4,o6,RSt.pa,RSt.row,decide_true,decide_false,pr65,hnx,RWt.row,b1,b2,b3,b4,b5,b6,b7]
    | false=>simp [b1,b2,b3,b4,b6,b7] at hf
   ·have b6:w.g < 0:=by omega
    cases b7:(e.g == w.not) with
    | true=>simp only [↓evP,evB,stB,reduceIte,reduceCtorEq,seval,h2,h3,h4,h5,h6,g2,g3,g4,g6,o2,o3,o4,o6,RSt.pa,RSt.row,decide_true,decide_false,pr65,hnx,RWt.row,b1,b2,b3,b4,b5,b6,b7]
    | false=>simp [b1,b2,b3,b4,b5,b6,b7] at hf
 | true =>
   have hg:s.groupR e=(RSt.counted { s with next:=rest.map (w.known e.g) } e,true):=by unfold RSt.groupR;rw [hnx];dsimp only;rw [hf];rfl
   rw [hg];unfold RSt.fits at hf;simp only [Bool.not_eq_true',Bool.or_eq_false_iff] at hf;obtain ⟨⟨b1,b2,b3,b4,b5⟩,b6⟩:=hf
   by_cases q:w.g≥0
   ·have q2:¬ w.g < 0:=by omega
    have b7:(e.g != w.g)=false:=by rw [decide_eq_true (show 0≤w.g from q)] at b5;simpa using b5
    simp only [↓evP,evB,stB,reduceIte,reduceCtorEq,seval,h2,h3,h4,h5,h6,g2,g3,g4,g6,o2,o3,o4,o6,decide_true,decide_false,b1,b2,b3,b4,q,q2,b7]
    exact group_tail hok hnx _ (fun st' h=>⟨.inr rfl,h⟩) _ (by simp only [stB,reduceIte,reduceCtorEq,seval,h2]) (by simp only [stB,reduceIte,reduceCtorEq,seval,h3]) (by simp only [stB,reduceIte,reduceCtorEq,seval,h4]) (by simp only [stB,reduceIte,reduceCtorEq,seval,h6]) (by simp only [stB,reduceIte,reduceCtorEq,seval,g2]) (by simp only [stB,reduceIte,reduceCtorEq,seval,g3]) (by simp only [stB,reduceIte,reduceCtorEq,seval,g4]) (by simp only [stB,reduceIte,reduceCtorEq,seval,g6]) (by simp only [stB,reduceIte,reduceCtorEq,seval,g7])
     (by simp only [stB,reduceIte,reduceCtorEq,seval,o2,RSt.row,hnx,RWt.row]) (by simp only [stB,reduceIte,reduceCtorEq,seval,o3,Ev.row]) (by simp only [stB,reduceIte,reduceCtorEq,seval,o4]) (by simp only [stB,reduceIte,reduceCtorEq,seval,o6,RWt.row])
   ·have q2:w.g < 0:=by omega
    have b7:(e.g == w.not)=false:=by rw [decide_eq_true q2] at b6;simpa using b6
    simp only [↓evP,evB,stB,reduceIte,reduceCtorEq,seval,h2,h3,h4,h5,h6,g2,g3,g4,g6,o2,o3,o4,o6,decide_true,decide_false,b1,b2,b3,b4,q,q2,b7]
    exact group_tail hok hnx _ (fun st' h=>⟨.inr rfl,h⟩) _ (by simp only [stB,reduceIte,reduceCtorEq,seval,h2]) (by simp only [stB,reduceIte,reduceCtorEq,seval,h3]) (by simp only [stB,reduceIte,reduceCtorEq,seval,h4]) (by simp only [stB,reduceIte,reduceCtorEq,seval,h6]) (by simp only [stB,reduceIte,reduceCtorEq,seval,g2]) (by simp only [stB,reduceIte,reduceCtorEq,seval,g3]) (by simp only [stB,reduceIte,reduceCtorEq,seval,g4]) (by simp only [stB,reduceIte,reduceCtorEq,seval,g6]) (by simp only [stB,reduceIte,reduceCtorEq,seval,g7])
     (by simp only [stB,reduceIte,reduceCtorEq,seval,o2,RSt.row,hnx,RWt.row]) (by simp only [stB,reduceIte,reduceCtorEq,seval,o3,Ev.row]) (by simp only [stB,reduceIte,reduceCtorEq,seval,o4]) (by simp only [stB,reduceIte,reduceCtorEq,seval,o6,RWt.row])
theorem bne_of {a b:Int} (h:(a == b)=false):¬ a=b:=beq_eq_false_iff_ne.1 h
theorem RSt.lock_bd {s:RSt} (h:s.ok) (obj off:Int):0≤(s.lock obj off).readers∧(s.lock obj off).readers≤1000000:=by
 unfold RSt.lock
 cases hf:s.locks.find? (fun c=>c.obj == obj && c.off == off) with
 | none=>simp
 | some c=>exact h.lk.2 c (List.mem_of_find?_eq_some hf)
def R_other (ps rs:List Pa):Prop:=∃ (s:RSt) (e:Ev),ps=[s.pa,e.pa]∧s.ok∧rs=[(s.otherR e).1.pa,pB (s.otherR e).2]
def env_other:Env:=e1 100 R_lock (e1 101 R_setLock (e1 102 R_done e0))
theorem env_other_ok:EnvOK Try.prog env_other:=EnvOK.e1 s_lock (EnvOK.e1 s_setLock (EnvOK.e1 s_done EnvOK.e0))
theorem s_other:Spec Try.prog 68 R_other:=by
 refine sp68 env_other_ok ?_;rintro ps rs ⟨s,e,rfl,hok,rfl⟩;refine ⟨by simp,?_⟩;obtain ⟨c3,c4⟩:=RSt.lock_bd hok e.obj e.off;unfold pc68;refine pwp_start ?_;simp only [↓evP,evB,stB,reduceIte,reduceCtorEq,seval,RSt.pa,RSt.row,Ev.pa,Ev.row];refine callOps_intro [.agg (s.lock e.obj e.off).row] ⟨s,e.obj,e.off,rfl,by have:=hok.lk.1;omega,rfl⟩ ?_
 cases k6:(e.kind == 6) with
 | true =>
   have hg:s.otherR e=(s.setLock { s.lock e.obj e.off with locked:=true },!(s.lock e.obj e.off).locked && (s.lock e.obj e.off).readers == 0):=by unfold RSt.otherR;rw [if_pos (beq_iff_eq.1 k6)]
   rw [hg];simp only [↓evP,evB,stB,reduceIte,reduceCtorEq,seval,RLk.row,pr68,k6]
   refine callD_intro [(s.setLock { s.lock e.obj e.off with locked:=true }).pa] ⟨s,{ s.lock e.obj e.off with locked:=true },rfl,hok.lk.1,rfl⟩ ?_
   cases b1:(s.lock e.obj e.off).locked with
   | true =>
     simp only [↓evP,evB,stB,reduceIte,reduceCtorEq,seval,RLk.row,pr68,k6,RSt.pa,RSt.row,b1]
     (unfold Drw;kernel_rfl)
   | false =>
     simp only [↓evP,evB,stB,reduceIte,reduceCtorEq,seval,RLk.row,pr68,k6,RSt.pa,RSt.row,b1]
     (unfold Drw;kernel_rfl)
 | false =>
 cases k7:(e.kind == 7) with
 | true =>
   have hg:s.otherR e=(s.setLock { s.lock e.obj e.off with locked:=false },(s.lock e.obj e.off).locked):=by unfold RSt.otherR;rw [if_neg (bne_of k6),if_pos (beq_iff_eq.1 k7)]
   rw [hg];simp only [↓evP,evB,stB,reduceIte,reduceCtorEq,seval,RLk.row,pr68,k6,k7]
   refine callOps_intro [(s.setLock { s.lock e.obj e.off with locked:=false }).pa] ⟨s,{ s.lock e.obj e.off with locked:=false },rfl,hok.lk.1,rfl⟩ ?_;simp only [↓evP,evB,stB,reduceIte,reduceCtorEq,seval,RLk.row,pr68,k6,k7,RSt.pa,RSt.row,Bool.not_not]
 | false =>
 cases k8:(e.kind == 8) with
 | true =>
   have hg:s.otherR e=(s.setLock { s.lock e.obj e.off with readers:=(s.lock e.obj e.off).readers+1 },!(s.lock e.obj e.off).locked):=by unfold RSt.otherR;rw [if_neg (bne_of k6),if_neg (bne_of k7),if_pos (beq_iff_eq.1 k8)]
   rw [hg];simp only [↓evP,evB,stB,reduceIte,reduceCtorEq,seval,RLk.row,pr68,k6,k7,k8];rw [wr64 (by omega) (by omega)]
   refine callOps_intro [(s.setLock { s.lock e.obj e.off with readers:=(s.lock e.obj e.off).readers+1 }).pa] ⟨s,{ s.lock e.obj e.off with readers:=(s.lock e.obj e.off).readers+1 },rfl,hok.lk.1,rfl⟩ ?_;simp only [↓evP,evB,stB,reduceIte,reduceCtorEq,seval,RLk.row,pr68,k6,k7,k8,RSt.pa,RSt.row]
 | false =>
 cases k9:(e.kind == 9) with
 | true =>
   have hg:s.otherR e=(s.setLock { s.lock e.obj e.off with readers:=(s.lock e.obj e.off).readers - 1 },decide (0≤(s.lock e.obj e.off).readers - 1)):=by unfold RSt.otherR;rw [if_neg (bne_of k6),if_neg (bne_of k7),if_neg (bne_of k8),if_pos (beq_iff_eq.1 k9)]
   rw [hg];simp only [↓evP,evB,stB,reduceIte,reduceCtorEq,seval,RLk.row,pr68,k6,k7,k8,k9];rw [wr64 (by omega) (by omega)]
   refine callD_intro [(s.setLock { s.lock e.obj e.off with readers:=(s.lock e.obj e.off).readers - 1 }).pa] ⟨s,{ s.lock e.obj e.off with readers:=(s.lock e.obj e.off).readers - 1 },rfl,hok.lk.1,rfl⟩ ?_;simp only [↓evP,evB,stB,reduceIte,reduceCtorEq,seval,RLk.row,pr68,k6,k7,k8,k9,RSt.pa,RSt.row]
   (unfold Drw;kernel_rfl)
 | false =>
 cases k12:(e.kind == 12) with
 | true =>
   have hg:s.otherR e=({ s with done:=s.done ++ [(e.obj,e.off)] },!s.isDone e.obj e.off):=by unfold RSt.otherR;rw [if_neg (bne_of k6),if_neg (bne_of k7),if_neg (bne_of k8),if_neg (bne_of k9),if_pos (beq_iff_eq.1 k12)]
   rw [hg];simp only [↓evP,evB,stB,reduceIte,reduceCtorEq,seval,RLk.row,pr68,k6,k7,k8,k9,k12];refine callOps_intro [pB (s.isDone e.obj e.off)] ⟨s,e.obj,e.off,rfl,by have:=hok.dn;omega,rfl⟩ ?_
   have hd1:s.done.length≤1000000:=by have:=hok.dn;omega
   have hd2:s.done.length+1≤1000000:=by have:=hok.dn;omega
   simp only [↓evP,evB,stB,reduceIte,reduceCtorEq,seval,RLk.row,pr68,k6,k7,k8,k9,k12,RSt.pa,RSt.row,rows_len (f:=locRow) (n:=2) (fun _=>rfl) s.done,hd1,hd2];refine ⟨(by unfold Drw;kernel_rfl),?_⟩
   simp only [↓evP,evB,stB,reduceIte,reduceCtorEq,seval,List.map_append,locRow,pr68]
 | false =>
 cases k13:(e.kind == 13) with
 | true =>
   have hg:s.otherR e=(s,s.isDone e.obj e.off):=by unfold RSt.otherR;rw [if_neg (bne_of k6),if_neg (bne_of k7),if_neg (bne_of k8),if_neg (bne_of k9),if_neg (bne_of k12),if_pos (beq_iff_eq.1 k13)]
   rw [hg];simp only [↓evP,evB,stB,reduceIte,reduceCtorEq,seval,RLk.row,pr68,k6,k7,k8,k9,k12,k13];refine callD_intro [pB (s.isDone e.obj e.off)] ⟨s,e.obj,e.off,rfl,by have:=hok.dn;omega,rfl⟩ ?_
   simp only [↓evP,evB,stB,reduceIte,reduceCtorEq,seval,RLk.row,pr68,k6,k7,k8,k9,k12,k13,RSt.pa,RSt.row]
   (unfold Drw;kernel_rfl)
 | false =>
 cases k14:(e.kind == 14) with
 | true =>
   have hg:s.otherR e=({ s with gor:=s.gor+1 },e.k == s.gor):=by unfold RSt.otherR;rw [if_neg (bne_of k6),if_neg (bne_of k7),if_neg (bne_of k8),if_neg (bne_of k9),if_neg (bne_of k12),if_neg (bne_of k13),if_pos (beq_iff_eq.1 k14)]
   rw [hg];simp only [↓evP,evB,stB,reduceIte,reduceCtorEq,seval,RLk.row,pr68,k6,k7,k8,k9,k12,k13,k14];rw [wr64 (by have:=hok.gr;omega) (by have:=hok.gr;omega)]
   simp only [RSt.pa,RSt.row];exact ⟨(by unfold Drw;kernel_rfl),trivial⟩
 | false =>
   have hg:s.otherR e=(s,true):=by unfold RSt.otherR;rw [if_neg (bne_of k6),if_neg (bne_of k7),if_neg (bne_of k8),if_neg (bne_of k9),if_neg (bne_of k12),if_neg (bne_of k13),if_neg (bne_of k14)]
   rw [hg];simp only [↓evP,evB,stB,reduceIte,reduceCtorEq,seval,RLk.row,pr68,k6,k7,k8,k9,k12,k13,k14,RSt.pa,RSt.row]
end Go.Proofs.Ytffcpijeebagfaa
end
