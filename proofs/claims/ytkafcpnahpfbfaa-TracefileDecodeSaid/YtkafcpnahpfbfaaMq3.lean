/- Whole codes and functions: what the plain reading says, the program does. -/
import Derived.Test.YtkafcpnahpfbfaaMq2
import Derived.ScopeJumps
import Derived.IntWalk
import Derived.Below
set_option linter.unusedSimpArgs false
set_option linter.unusedVariables false
section
namespace Go.Proofs.Ytkafcpnahpfbfaa
open Go Go.RowKit
theorem exists_least (p:Nat→Prop) (h:∃ n,p n):∃ n,p n∧∀ m,p m→n≤m:=by
 obtain ⟨n,hn⟩:=h
 induction n using Nat.strongRecOn with
 | _ n ih =>
   by_cases hm:∃ m,m < n∧p m
   ·obtain ⟨m,hlt,hp⟩:=hm;exact ih m hlt hp
   ·exact ⟨n,hn,fun m hp=>by
     rcases Nat.lt_or_ge m n with h | h
     ·exact absurd ⟨m,h,hp⟩ hm
     ·exact h⟩
theorem Fv {P:Program} {Q:Exit→Act→World→Prop} {a:Act} {w:World} {c:Code} (I:Nat→Act→World→Prop) (h0:∃ n,I n a w)
 (round:∀ n a w,I n a w→c.wp P (Exit.then (fun a' w'=>∃ m,m < n∧I m a' w') Q) a w):(Code.loop c).wp P Q a w:=by
 classical
 let μ:Act→World→Nat:=fun a w=>if h:∃ n,I n a w then Classical.choose (exists_least _ h) else 0
 have hμ:∀ a w (h:∃ n,I n a w),I (μ a w) a w∧∀ m,I m a w→μ a w≤m:=fun a w h=>by
  have h1:μ a w=Classical.choose (exists_least _ h):=dif_pos h;rw [h1];exact Classical.choose_spec (exists_least _ h)
 refine wp_loop (fun a w=>∃ n,I n a w) μ h0 (fun a w h=>?_);refine wp_mono (round _ a w (hμ a w h).1) (fun e a' w' he=>?_)
 cases e with
 | normal =>
   obtain ⟨m,hlt,hm⟩:=he;exact ⟨⟨m,hm⟩,Nat.lt_of_le_of_lt ((hμ a' w' ⟨m,hm⟩).2 m hm) hlt⟩
 | _=>exact he
section
variable {P:Program} {n:Nat} {w0:World} {S0:Nat→Nat}
def backs:PC→Bool
 | .reg true ops=>FP ops
 | .seq a b=>backs a && backs b
 | .cond _ a b=>backs a && backs b
 | .block _ c=>backs c
 | .loop c=>backs c
 | .scope _ c r=>backs c && backs r
 | _=>true
theorem kP [Bor] [I:bS] {env:Env} (hE:aA P env) (hp:∀ w,iL w0.heap.size w0 w→I.p w) {eqs:List (Nat×List Bool)} (heq:∀ p,p ∈ eqs→EqT P p.1 p.2) (hm:P.follows .mixedOrders=true):∀ (c:Code) (pc:PC),bI P n eqs c=some pc→backs pc=true →
 ∀ (Q:Exit→St→Prop) (W:Wit) (s:St) (a:Act) (w:World),pwp env pc Q s→Sim w0 S0 n W s a w→c.wp P (fun e a' w'=>∃ W' s',Sim w0 S0 n W' s' a' w'∧Q e s') a w:=by
 intro c
 induction c with
 | skip=>intro pc hc _ Q W s a w h hs;simp [bI] at hc;subst hc;exact wp_skip ⟨W,s,hs,h⟩
 | region id ops draw =>
   intro pc hc hb Q W s a w h hs;simp only [bI,Option.map_eq_some_iff] at hc;obtain ⟨is,his,rfl⟩:=hc;have hmap:=fB _ _ his
   cases draw with
   | false =>
     refine wp_region ?_;have hlen:is.length=ops.size:=by have:=congrArg List.length hmap;simp at this;omega
     have:=OB hE hp heq (ops:=ops) (Q:=fun e a' w'=>∃ W' s',Sim w0 S0 n W' s' a' w'∧Q e s') (K:=Q .normal) (fun s W a w h1 h2=>⟨W,s,h2,h1⟩) is 0 W s a w (by simpa using hmap) hs h;rw [hlen] at this;rw [List.range_eq_range'];exact this
   | true=>exact D6 hE hp heq hm hmap (fun s W a w h1 h2=>⟨W,s,h2,h1⟩) hs hb h id
 | seq x y ihx ihy =>
   intro pc hc hb Q W s a w h hs;simp only [bI] at hc;split at hc
   ·rename_i px py hx hy;cases hc;simp only [backs,Bool.and_eq_true] at hb;refine wp_seq (wp_mono (ihx px hx hb.1 _ W s a w h hs) (fun e a' w' he=>?_));obtain ⟨W',s',hs',hq⟩:=he
    cases e with
    | normal=>exact ihy py hy hb.2 Q W' s' a' w' hq hs'
    | _=>exact ⟨W',s',hs',hq⟩
   ·cases hc
 | cond co x y ihx ihy =>
   intro pc hc hb Q W s a w h hs;simp only [bI] at hc;split at hc
   ·rename_i pcn px py hcn hx hy;cases hc;simp only [backs,Bool.and_eq_true] at hb;obtain ⟨t,ht,h1,h2⟩:=aj.1 h;exact wp_cond_split (uK hs hcn ht) (fun he=>ihx px hx hb.1 Q W s a w (h1 he) hs) (fun he=>ihy py hy hb.2 Q W s a w (h2 he) hs)
   ·cases hc
 | block id x ih =>
   intro pc hc hb Q W s a w h hs;simp only [bI,Option.map_eq_some_iff] at hc;obtain ⟨px,hx,rfl⟩:=hc;refine wp_block (wp_mono (ih px hx hb _ W s a w h hs) (fun e a' w' he=>?_));obtain ⟨W',s',hs',hq⟩:=he
   cases e with
   | exit i =>
     by_cases hi:i=id
     ·simp only [hi,if_true] at hq;simp only [Exit.inBlock,hi,if_true];exact ⟨W',s',hs',hq⟩
     ·simp only [hi,if_false] at hq;simp only [Exit.inBlock,hi,if_false];exact ⟨W',s',hs',hq⟩
   | _=>exact ⟨W',s',hs',hq⟩
 | loop x ih =>
   intro pc hc hb Q W s a w h hs;simp only [bI,Option.map_eq_some_iff] at hc;obtain ⟨px,hx,rfl⟩:=hc;obtain ⟨I,⟨k,hk⟩,hr⟩:=h;refine Fv (fun k a w=>∃ W s,Sim w0 S0 n W s a w∧I k s) ⟨k,W,s,hs,hk⟩ (fun k a w h=>?_);obtain ⟨W,s,hs,hI⟩:=h;refine wp_mono (ih px hx hb _ W s a w (hr k s hI) hs) (fun e a' w' he=>?_);obtain ⟨W',s',hs',hq⟩:=he
   cases e with
   | normal =>
     obtain ⟨m,hlt,hm⟩:=hq;exact ⟨m,hlt,W',s',hs',hm⟩
   | _=>exact ⟨W',s',hs',hq⟩
 | exit id=>intro pc hc _ Q W s a w h hs;simp [bI] at hc;subst hc;exact wp_exit ⟨W,s,hs,h⟩
 | ret=>intro pc hc _ Q W s a w h hs;simp [bI] at hc;subst hc;exact wp_ret ⟨W,s,hs,h⟩
 | rangeFunc=>intro pc hc;simp [bI] at hc
 | scope=>intro pc hc;simp [bI] at hc
 | label=>intro pc hc _ Q W s a w h hs;simp [bI] at hc;subst hc;exact wp_label ⟨W,s,hs,h⟩
 | goto=>intro pc hc _ Q W s a w h hs;simp [bI] at hc;subst hc;exact wp_goto ⟨W,s,hs,h⟩
 | refuse=>intro pc hc;simp [bI] at hc
theorem jY [Bor] [I:bS] {env:Env} (hE:aA P env) (hp:∀ w,iL w0.heap.size w0 w→I.p w) {eqs:List (Nat×List Bool)} (heq:∀ p,p ∈ eqs→EqT P p.1 p.2) (hm:P.follows .mixedOrders=true):∀ (c:Code) (pc:PC),bN P n eqs c=some pc→backs pc=true →
 ∀ (Q:Exit→St→Prop) (W:Wit) (s:St) (a:Act) (w:World),pwp env pc Q s→Sim w0 S0 n W s a w→c.wp P (fun e a' w'=>∃ W' s',Sim w0 S0 n W' s' a' w'∧Q e s') a w:=by
 intro c
 induction c with
 | scope x =>
   intro pc hc hb Q W s a w h hs;simp only [bN] at hc;split at hc
   ·rename_i px pr hx hr;cases hc;simp only [backs,Bool.and_eq_true] at hb;obtain ⟨rest,hf,hrest⟩:=DJ hr
    refine wp_scope_jumps (rest:=rest) 0 (fun a w=>∃ W s,Sim w0 S0 n W s a w∧pwp env pr (fun e2 s2=>match e2 with | .goto _=>False | e2=>Q e2 s2) s) (fun _ _=>0) hf ?_ ?_
    ·refine wp_mono (kP hE hp heq hm x px hx hb.1 _ W s a w h hs) (fun e a' w' he=>?_);obtain ⟨W',s',hs',hq⟩:=he
     cases e with
     | goto l'=>exact ⟨hq.1,W',s',hs',hq.2⟩
     | _=>exact ⟨W',s',hs',hq⟩
    ·rintro a1 w1 ⟨W1,s1,hs1,h1⟩;refine wp_mono (kP hE hp heq hm rest pr hrest hb.2 _ W1 s1 a1 w1 h1 hs1) (fun e a' w' he=>?_);obtain ⟨W',s',hs',hq⟩:=he
     cases e with
     | goto l'=>exact hq.elim
     | _=>exact ⟨W',s',hs',hq⟩
   ·cases hc
 | seq x y ihx ihy =>
   intro pc hc hb Q W s a w h hs;simp only [bN] at hc;split at hc
   ·rename_i px py hx hy;cases hc;simp only [backs,Bool.and_eq_true] at hb;refine wp_seq (wp_mono (ihx px hx hb.1 _ W s a w h hs) (fun e a' w' he=>?_));obtain ⟨W',s',hs',hq⟩:=he
    cases e with
    | normal=>exact ihy py hy hb.2 Q W' s' a' w' hq hs'
    | _=>exact ⟨W',s',hs',hq⟩
   ·cases hc
 | _=>intro pc hc;exact kP hE hp heq hm _ pc hc
end
inductive PR where
 | t (x:Nat)
 | c (x:Nat) (k:Option Nat)
def oJ (P:Program):ResultVar→Option PR
 | .tmp t=>some (.t t)
 | .cell a t=>(szT P t).map (.c a)
def St.res1 (s:St):PR→Option Pa
 | .t x=>match s.sl x with
   | .b (.one (.sv o g off ln _ sz))=>if s.gen o=g then (match s.ob o with
     | .cells cs=>if off+ln * sz≤cs.length then (aD (((cs.drop off).take (ln * sz)).map Cl.dt)).map fun xs=>.one (.im (chunks ln sz xs)) else none
     | _=>none) else none
   | v=>v.pa
 | .c x k=>match s.sl x with
   | .b (.one (.ptr o g off))=>if s.gen o=g then (match s.ob o with | .cells cs=>(nW k cs off).bind Av.pa | _=>none) else none
   | _=>none
def St.res (s:St) (rs:List PR):Option (List Pa):=aD (rs.map s.res1)
def St.init (az:List Pa):St:=⟨fun x=>match az[x]? with | some p=>.b p.bv | none=>.un,fun _=>0,fun _=>.no,fun _=>0⟩
def Fb (s:St):PR→Bool
 | .t x=>match s.sl x with
   | .b (.one (.sv _ _ _ _ _ _))=>false
   | _=>true
 | .c _ _=>true
def St.mK (ds:List Dt) (az:List Pa):St:=⟨fun x=>match x with
 | 0=>.b (.one (.ptr 0 0 0))
 | k+1=>match az[k]? with | some p=>.b p.bv | none=>.un,fun _=>0,fun o=>if o=0 then .cells (ds.map .d) else .no,fun _=>0⟩
theorem MN (ds:List Dt) (az:List Pa) (b:Nat):(St.mK ds az).hb b=.no:=by
 show fF (if HBS+0=0 then Ob.cells (ds.map .d) else .no) b=.no
 rw [if_neg (by unfold HBS;omega)];rfl
def oZ (tmps:Array Value):ResultVar→Sem Value
 | .tmp t=>pure (tmps.getD t undef)
 | .cell a t=>do loadVar t (←asAddr (tmps.getD a undef))
def VU (W:Wit) (s:St) (b:Nat):Prop:=(∃ o H,s.ob o=.ab H∧W.fp o b)∨∃ o f,s.ob o=.hp f∧cl W o (.hp f) b
def W00 (blk:Nat→Nat) (S:Nat→Nat):Wit:=⟨blk,fun _=>undef,fun _=>undef,fun _ _=>False,S,fun _=>0,fun _=>undef,fun _ _=>False,fun _=>0,fun _=>False⟩
abbrev Fa:Bor:=⟨none,fun _=>False,fun _=>False,fun _=>0,fun _=>undef,[]⟩
theorem CO (b:Nat):¬ @Bor.fp Fa b:=fun h=>by
 rcases h with h | h
 ·cases h
 ·exact h
open Classical in
noncomputable def frz (w0:World) (W:Wit) (s:St) (w:World):Nat→Nat:=fun b=>if b < w0.heap.size then W.S b else if VU W s b then 0 else W.S b+(match w.heap[b]? with | some (.cells arr _ _)=>arr.size | _=>0)
theorem mZ [Bor] {n:Nat} {S0:Nat→Nat} {a:Act} {w0:World} {W:Wit} {s:St} {w:World} (hs:Sim w0 S0 n W s a w):Ext W.S (frz w0 W s w) w w:=fun b i h1 _=>by
 refine ⟨?_,rfl⟩;unfold frz;split
 ·exact h1
 ·split
  ·rename_i hab
   rcases hab with ⟨o,H,ho,hf⟩ | ⟨o,f,ho,m,hf⟩
   ·have:=hs.ob o;rw [ho] at this;rw [(this.2 b hf).2] at h1;omega
   ·have:=hs.ob o;rw [ho] at this;rw [(this.mine m b hf).2.1] at h1;omega
  ·omega
theorem RP.ext {S S':Nat→Nat} {w w':World} (h:Ext S S' w w') {p:Pa} {v:Value} (hp:RP S w p v):RP S' w' p v:=by
 cases p with
 | one x=>exact RD.ext h hp
 | agg xs=>obtain ⟨arr,h1,h2,h3⟩:=hp;exact ⟨arr,h1,h2,fun i x u e1 e2=>RD.ext h (h3 i x u e1 e2)⟩
theorem pF {α:Type} (n sz:Nat) (xs:List α):(chunks n sz xs).length=n:=by rw [oI];simp
theorem vD {α:Type} {n sz i:Nat} {xs:List α} {r:List α} (h:(chunks n sz xs)[i]? = some r):i < n∧r=(xs.drop (i * sz)).take sz:=by
 have hi:=(List.getElem?_eq_some_iff.1 h).1;rw [pF] at hi;rw [oI,List.getElem?_map,List.getElem?_range hi] at h;simp only [Option.map_some,Option.some.injEq] at h;exact ⟨hi,h.symm⟩
theorem Nr [Bor] {P:Program} {n:Nat} {w0:World} {S0:Nat→Nat} {W:Wit} {s:St} {a:Act} {w:World} (hs:Sim w0 S0 n W s a w) {rv:ResultVar} {r:PR} {p:Pa} (hr:oJ P rv=some r) (hp:s.res1 r=some p) (hn:(∀ b,¬ Bor.fp b)∨Fb s r=true) :
 ∃ v,(oZ a.tmps rv).run P w=.ok v w∧RP (frz w0 W s w) w p v:=by
 cases rv with
 | tmp t =>
   cases hr;refine ⟨_,rfl,?_⟩;simp only [St.res1] at hp;split at hp
   ·rename_i o g off ln cap sz hsl;split at hp
    ·rename_i hg;split at hp
     ·rename_i cs hob;split at hp
      ·rename_i hle;simp only [Option.map_eq_some_iff] at hp;obtain ⟨xs,hxs,rfl⟩:=hp;have h1:=hs.sl t;rw [hsl] at h1;obtain ⟨b,hv,hlc,hcm,_,hb⟩:=h1;have hb:=hb hg.symm;subst hb;have hro:=hs.ob o;rw [hob] at hro;obtain ⟨arr,T,h4,h5,h6,h7⟩:=hro;have hall:=fB _ _ hxs
       have hxl:xs.length=ln * sz:=by
        have:=congrArg List.length hall;simp at this;omega
       rw [hv]
       have hge:w0.heap.size≤W.blk o:=by
        rcases hn with hn | hn
        ·exact h5.elim id (fun hf=>absurd hf (hn _))
        ·simp only [Fb,hsl] at hn;cases hn
       have hrl:=pF ln sz xs
       show RD (frz w0 W s w) w (.im (chunks ln sz xs)) _
       have:=RD.block (S:=frz w0 W s w) (w:=w) (rows:=chunks ln sz xs) (b:=W.blk o) (o:=off) (cap:=cap) (sz:=sz) (vs:=(arr.toList.drop off).take (ln * sz)) (fun r hr=>?_) ?_ (fun j u hj=>?_) (by rw [hrl];exact hlc) hcm (fun i r j x hr hx=>?_)
       ·rw [hrl] at this;exact this
       ·obtain ⟨i,hi⟩:=List.getElem?_of_mem hr;obtain ⟨h8,rfl⟩:=vD hi;rw [List.length_take,List.length_drop,hxl];have:(i+1) * sz≤ln * sz:=Nat.mul_le_mul_right _ h8;rw [Nat.add_mul,Nat.one_mul] at this;omega
       ·rw [hrl,List.length_take,List.length_drop,←h7.1];omega
       ·rw [List.getElem?_take] at hj;split at hj
        ·rw [List.getElem?_drop] at hj;have hlt:=(List.getElem?_eq_some_iff.1 hj).1;refine ⟨?_,?_⟩
         ·simp only [World.cell?,h4]
          simpa using hj
         ·unfold frz
          rw [if_neg (by omega),if_neg (fun hab=>by
           rcases hab with ⟨o2,H,ho2,hf⟩ | ⟨o2,f,ho2,hf⟩ <;>
            (have he:=hs.ex o o2 (W.blk o) (by rw [hob];rfl) (by rw [ho2];exact hf)
             subst he;rw [hob] at ho2;cases ho2)),h4]
          simp at hlt ⊢;omega
        ·cases hj
       ·obtain ⟨h8,rfl⟩:=vD hr;rw [List.getElem?_take] at hx;split at hx
        ·rename_i hj;rw [List.getElem?_drop] at hx;have h9:(((cs.drop off).take (ln * sz)).map Cl.dt)[i * sz+j]? = some (some x):=by rw [hall,List.getElem?_map,hx];rfl
         rw [List.getElem?_map,Option.map_eq_some_iff] at h9;obtain ⟨c,hc,hcd⟩:=h9
         have hlt:i * sz+j < ln * sz:=by
          have:(i+1) * sz≤ln * sz:=Nat.mul_le_mul_right _ h8;rw [Nat.add_mul,Nat.one_mul] at this;omega
         rw [List.getElem?_take,if_pos hlt,List.getElem?_drop] at hc;obtain ⟨u,hu⟩:∃ u,arr.toList[off+(i * sz+j)]? = some u:=⟨_,List.getElem?_eq_getElem (by have:=(List.getElem?_eq_some_iff.1 hc).1;rw [←h7.1];exact this)⟩
         refine ⟨u,by rw [List.getElem?_take,if_pos hlt,List.getElem?_drop];exact hu,RD.ext (mZ hs) (RC.dt (h7.2 _ _ _ hc hu) hcd)⟩
        ·cases hx
      ·cases hp
     ·cases hp
    ·cases hp
   ·exact RP.ext (mZ hs) (RA.pa (hs.sl t) hp)
 | cell c t =>
   simp only [oJ,Option.map_eq_some_iff] at hr;obtain ⟨k,hk,rfl⟩:=hr;obtain ⟨d,i,hu,hi,hkk⟩:=p9 hk;simp only [St.res1] at hp;split at hp
   ·rename_i o g off hsl;split at hp
    ·rename_i hg;split at hp
     ·rename_i cs hob;simp only [Option.bind_eq_some_iff] at hp;obtain ⟨v,hv,hp⟩:=hp;have h1:=hs.sl c;rw [hsl] at h1;have h2:=h1.2.2 hg.symm;have hro:=hs.ob o;rw [hob] at hro;obtain ⟨arr,T,h4,h5,h6,h7⟩:=hro
      have hcell:∀ (j:Nat) u,arr.toList[j]? = some u→w.cell? ⟨W.blk o,j,none⟩=some u:=fun j u hj=>by
       simp only [World.cell?,h4]
       simpa using hj
      have hag:=jU (P:=P) hu w;unfold oZ;dsimp only;rw [h2]
      rcases mQ h7 hv with ⟨rfl,c',u,e1,e2,rfl,e3⟩ | ⟨m,rfl,e1,rfl,e2⟩
      ·have hf:kW d=false:=by cases h:kW d <;> simp [h] at hkk ⊢
       rw [hf] at hag;refine ⟨u,?_,RP.ext (mZ hs) (RA.pa (G:=s.gen) (O:=s.ob) (v:=.b (.one c')) e3 hp)⟩;simp [asAddr,loadVar,hag,hcell off u e2]
      ·have ht:kW d=true:=by cases h:kW d <;> simp [h] at hkk ⊢
       rw [ht] at hag hkk;simp at hkk;subst hkk;have hlen:((arr.toList.drop off).take i.size).length=i.size:=by simp at e1 ⊢;omega
       have hl:=run_loadCells_list (P:=P) w ⟨W.blk o,off,none⟩ ((arr.toList.drop off).take i.size) (fun j u hj=>by
        rw [addr_add];rw [List.getElem?_take] at hj;split at hj
        ·rw [List.getElem?_drop] at hj;exact hcell _ _ hj
        ·cases hj)
       rw [hlen] at hl;refine ⟨.agg ((arr.toList.drop off).take i.size).toArray,?_,RP.ext (mZ hs) (RA.pa (G:=s.gen) (O:=s.ob) (v:=.b (.agg ((cs.drop off).take i.size))) ⟨_,rfl,by simpa using e2⟩ hp)⟩;simp only [asAddr,Sem.run_bind,Sem.run_pure,Result.andThen_ok,loadVar,hag,if_true,sizeOf,typeInfo,run_program,hi,hl]
     ·cases hp
    ·cases hp
   ·cases hp
theorem nI [Bor] {P:Program} {n:Nat} {w0:World} {S0:Nat→Nat} {W:Wit} {s:St} {a:Act} {w:World} (hs:Sim w0 S0 n W s a w):∀ (rvs:List ResultVar) (prs:List PR) (ps:List Pa),aD (rvs.map (oJ P))=some prs→s.res prs=some ps→((∀ b,¬ Bor.fp b)∨prs.all (Fb s)=true) →
 ∃ vs:List Value,(rvs.mapM (oZ a.tmps)).run P w=.ok vs w∧ps.length=vs.length∧∀ (i:Nat) p u,ps[i]? = some p→vs[i]? = some u→RP (frz w0 W s w) w p u
 | [],prs,ps,h1,h2,hn=>by
   simp [aD] at h1;subst h1;simp [St.res,aD] at h2;subst h2;exact ⟨[],by simp,rfl,fun i p u h=>by simp at h⟩
 | rv :: rvs,prs,ps,h1,h2,hn=>by
   simp only [List.map_cons] at h1
   cases hr:oJ P rv with
   | none=>rw [hr] at h1;simp [aD] at h1
   | some r =>
     rw [hr] at h1;simp only [aD,Option.map_eq_some_iff] at h1;obtain ⟨prs',hp,rfl⟩:=h1;simp only [St.res,List.map_cons] at h2
     cases hr1:s.res1 r with
     | none=>rw [hr1] at h2;simp [aD] at h2
     | some p =>
       rw [hr1] at h2;simp only [aD,Option.map_eq_some_iff] at h2;obtain ⟨ps',hps,rfl⟩:=h2;obtain ⟨v,h3,h4⟩:=Nr hs hr hr1 (hn.imp id fun h=>by simp only [List.all_cons,Bool.and_eq_true] at h;exact h.1)
       obtain ⟨vs,h5,h6,h7⟩:=nI hs rvs prs' ps' hp hps (hn.imp id fun h=>by simp only [List.all_cons,Bool.and_eq_true] at h;exact h.2)
       refine ⟨v :: vs,?_,by simp [h6],fun i q u e1 e2=>?_⟩
       ·rw [List.mapM_cons,Sem.run_bind,h3,Result.andThen_ok,Sem.run_bind,h5];rfl
       ·cases i with
        | zero=>simp at e1 e2;subst e1;subst e2;exact h4
        | succ i=>exact h7 i q u (by simpa using e1) (by simpa using e2)
theorem iL.none {w w':World} {B:Nat} (h:@iL Fa B w w'):Below B w w':=by
 letI:Bor:=Fa
 exact ⟨h.os,h.tape,h.output,h.size,fun k hk=>h.block k hk (CO k)⟩
theorem bD [I:bS] {P:Program} {env:Env} (hE:aA P env) {eqs:List (Nat×List Bool)} (heq:∀ p,p ∈ eqs→EqT P p.1 p.2) (hm:P.follows .mixedOrders=true) {f:Nat} {fn:Func} {c:Code} {pc:PC} {prs:List PR} (hf:P.funcs[f]? = some fn) (hb:fn.body=some c)
 (hc:bN P fn.ntmps eqs c=some pc) (hback:backs pc=true) (hsm:Nat.ble fn.ntmps gZ=true) (hr:aD (fn.results.toList.map (oJ P))=some prs) {R:List Pa→List Pa→Prop}
 (hR:∀ az rs,R az rs→az.length≤fn.ntmps∧pwp env pc (fun e s=>(e=.normal∨e=.ret)∧s.res prs=some rs) (St.init az)):Spec P f R:=by
 intro az rs has S w vals hwi hvals;obtain ⟨hlen,hw⟩:=hR az rs has
 letI:Bor:=Fa
 refine calls_of_wp hf hb ?_
 have hinit:Sim w S fn.ntmps (W00 (fun _=>0) S) (St.init az) { tmps:=vals ++ Array.replicate (fn.ntmps - vals.size) undef,defers:=[] } w:=by
  refine ⟨iL.refl _ _,fun _ _=>rfl,?_,rfl,fun x=>?_,fun _=>trivial,fun o o' b h=>h.elim,(fun b h=>by cases h),rfl,fun b=>⟨fun h=>h.elim,fun h=>h rfl⟩,Nat.le_of_ble_eq_true hsm,fun b h=>h.elim⟩
  ·have:=hvals.1;simp;omega
  ·show RA _ _ _ _ (match az[x]? with | some p=>.b p.bv | none=>.un) _
   cases hx:az[x]? with
   | none=>trivial
   | some p =>
     have hlt:x < vals.size:=by rw [←hvals.1];exact (List.getElem?_eq_some_iff.1 hx).1
     have:(vals ++ Array.replicate (fn.ntmps - vals.size) undef).getD x undef=vals[x]:=by
      rw [Array.getD_eq_getD_getElem?,Array.getElem?_append_left hlt,Array.getElem?_eq_getElem hlt];rfl
     rw [this];exact RP.av (W:=(W00 (fun _=>0) S)) (hvals.2 x p _ hx (Array.getElem?_eq_getElem hlt))
 refine wp_mono (jY hE (fun w2 h2=>I.keep _ _ (iL.none h2) hwi) heq hm c pc hc hback _ _ _ _ _ hw hinit) (fun e a' w' he=>?_);obtain ⟨W',s',hs',hret,hres⟩:=he
 have hfin:bodyPost P fn (fun e w'=>∃ v S',e=.returned v∧RR S' w' rs v∧Below w.heap.size w w'∧∀ b,b < w.heap.size→S' b=S b) .ret a' w':=by
  refine ⟨hs'.dfs,?_⟩;obtain ⟨vs,h1,h2,h3⟩:=nI (P:=P) hs' fn.results.toList prs rs hr hres (.inl CO)
  have h4:(results fn a'.tmps).run P w'=.ok (if h:vs.length=1 then vs[0] else .tuple vs.toArray) w':=by
   have h5:results fn a'.tmps=(fn.results.mapM (oZ a'.tmps)) >>= fun vs=>pure (if h:vs.size=1 then vs[0] else .tuple vs):=by
    unfold results
    congr 1
   have h6:fn.results=fn.results.toList.toArray:=by simp
   rw [h5,h6,List.mapM_toArray,Sem.run_bind,Sem.run_map,h1];simp
  refine ⟨_,h4,_,frz w W' s' w',rfl,?_,iL.none hs'.below,fun b hb=>by unfold frz;rw [if_pos hb];exact hs'.s0 b hb⟩
  match rs,vs,h2,h3 with
  | [],_,_,_=>trivial
  | [p],[v],_,h3=>exact h3 0 p v rfl rfl
  | p :: q :: r,vs,h2,h3 =>
    have hne:¬ vs.length=1:=by rw [←h2];simp
    rw [dif_neg hne];exact ⟨vs.toArray,rfl,by simpa using h2,fun i p u e1 e2=>h3 i p u e1 (by simpa using e2)⟩
 rcases hret with rfl | rfl
 ·exact hfin
 ·exact hfin
def St.QM (s:St) (x:Nat):Option (Nat×Nat×List (List Dt)):=match s.sl x with
 | .b (.one (.own o g rows))=>if s.gen o=g then (match s.ob o with
   | .row E sz n=>if n=rows.length then some (E,sz,rows) else none
   | _=>none) else none
 | _=>none
theorem qw [I:bS] {P:Program} {env:Env} (hE:aA P env) {eqs:List (Nat×List Bool)} (heq:∀ p,p ∈ eqs→EqT P p.1 p.2) (hm:P.follows .mixedOrders=true) {f:Nat} {fn:Func} {c:Code} {pc:PC} {t:Nat} (hf:P.funcs[f]? = some fn) (hb:fn.body=some c)
 (hc:bN P fn.ntmps eqs c=some pc) (hback:backs pc=true) (hsm:Nat.ble fn.ntmps gZ=true) (hr:fn.results=#[.tmp t]) {R:List Pa→Nat→Nat→List (List Dt)→Prop}
 (hR:∀ az E sz rows,R az E sz rows→az.length≤fn.ntmps∧pwp env pc (fun e s=>(e=.normal∨e=.ret)∧s.QM t=some (E,sz,rows)) (St.init az)):zY P f R:=by
 intro az E sz rows has S w vals hwi hvals;obtain ⟨hlen,hw⟩:=hR az E sz rows has
 letI:Bor:=Fa
 refine calls_of_wp hf hb ?_
 have hinit:Sim w S fn.ntmps (W00 (fun _=>0) S) (St.init az) { tmps:=vals ++ Array.replicate (fn.ntmps - vals.size) undef,defers:=[] } w:=by
  refine ⟨iL.refl _ _,fun _ _=>rfl,?_,rfl,fun x=>?_,fun _=>trivial,fun o o' b h=>h.elim,(fun b h=>by cases h),rfl,fun b=>⟨fun h=>h.elim,fun h=>h rfl⟩,Nat.le_of_ble_eq_true hsm,fun b h=>h.elim⟩
  ·have:=hvals.1;simp;omega
  ·show RA _ _ _ _ (match az[x]? with | some p=>.b p.bv | none=>.un) _
   cases hx:az[x]? with
   | none=>trivial
   | some p =>
     have hlt:x < vals.size:=by rw [←hvals.1];exact (List.getElem?_eq_some_iff.1 hx).1
     have:(vals ++ Array.replicate (fn.ntmps - vals.size) undef).getD x undef=vals[x]:=by
      rw [Array.getD_eq_getD_getElem?,Array.getElem?_append_left hlt,Array.getElem?_eq_getElem hlt];rfl
     rw [this];exact RP.av (W:=(W00 (fun _=>0) S)) (hvals.2 x p _ hx (Array.getElem?_eq_getElem hlt))
 refine wp_mono (jY hE (fun w2 h2=>I.keep _ _ (iL.none h2) hwi) heq hm c pc hc hback _ _ _ _ _ hw hinit) (fun e a' w' he=>?_);obtain ⟨W',s',hs',hret,hres⟩:=he
 have hfin:bodyPost P fn (fun e w'=>∃ v S' xs,e=.returned v∧RD S' w' (.im rows) v∧Below w.heap.size w w'∧(∀ b,b < w.heap.size→S' b=S b)∧bO w' w.heap.size E sz v rows.length xs∧(∀ r,r ∈ rows→r.length=sz)∧∀ g,v.ownBlock=some g→S' g≤rows.length * sz) .ret a' w':=by
  refine ⟨hs'.dfs,?_⟩
  have h4:(results fn a'.tmps).run P w'=.ok (a'.tmps.getD t undef) w':=by
   unfold results;rw [hr];simp [oZ]
  unfold St.QM at hres;split at hres
  ·rename_i o g rows' hsl;split at hres
   ·rename_i hg;split at hres
    ·rename_i E' sz' n' hob;split at hres
     ·rename_i hn;simp only [Option.some.injEq,Prod.mk.injEq] at hres;obtain ⟨rfl,rfl,rfl⟩:=hres;have h1:=hs'.sl t;rw [hsl] at h1;obtain ⟨hd,_,hown⟩:=h1;obtain ⟨q1,_,q3⟩:=hown hg.symm _ _ _ hob;have hro:=hs'.ob o;rw [hob] at hro;obtain ⟨xs,hxs,hxS⟩:=hro;have hv:=q3 hn;rw [←hv,hn] at hxs;rw [←hv,hn] at hxS;exact ⟨_,h4,_,W'.S,xs,rfl,hd,iL.none hs'.below,fun b hb=>hs'.s0 b hb,hxs,q1,hxS⟩
     ·cases hres
    ·cases hres
   ·cases hres
  ·cases hres
 rcases hret with rfl | rfl
 ·exact hfin
 ·exact hfin
theorem qx [I:bS] {P:Program} {env:Env} (hE:aA P env) {eqs:List (Nat×List Bool)} (heq:∀ p,p ∈ eqs→EqT P p.1 p.2) (hm:P.follows .mixedOrders=true) {f:Nat} {fn:Func} {c:Code} {pc:PC} {prs:List PR} (hf:P.funcs[f]? = some fn) (hb:fn.body=some c)
 (hc:bN P fn.ntmps eqs c=some pc) (hback:backs pc=true) (hsm:Nat.ble fn.ntmps gZ=true) (hr:aD (fn.results.toList.map (oJ P))=some prs) {R:List Dt→List Pa→List Dt→List Pa→Prop}
 (hR:∀ ds az ds' rs,R ds az ds' rs→az.length+1≤fn.ntmps∧pwp env pc (fun e s=>(e=.normal∨e=.ret)∧s.res prs=some rs∧prs.all (Fb s)=true∧s.gen 0=0∧s.fQ 0 0=some ds') (St.mK ds az)):uy P f R:=by
 intro ds az ds' rs has S w b arr T vals hI hheap hSb hds hvals;obtain ⟨hlen,hw⟩:=hR ds az ds' rs has
 letI:Bor:=⟨some b,fun _=>False,fun _=>False,fun _=>0,fun _=>undef,[]⟩
 have toF:∀ {w':World},iL w.heap.size w w'→kK (·=b) w w':=fun h=>⟨h.os,h.tape,h.output,h.size,fun k hk hne=>h.block k hk (fun e=>e.elim (fun e=>hne (Option.some.inj e).symm) id)⟩
 refine calls_of_wp hf hb ?_
 have hinit:Sim w S fn.ntmps (W00 (fun _=>b) S) (St.mK ds az) { tmps:=(#[Value.pointer (some ⟨b,0,none⟩)] ++ vals) ++ Array.replicate (fn.ntmps - (#[Value.pointer (some ⟨b,0,none⟩)] ++ vals).size) undef,defers:=[] } w:=by
  refine ⟨iL.refl _ _,fun _ _=>rfl,?_,rfl,fun x=>?_,fun o=>?_,fun o o' b2 h h'=>?_,fun b2 e1 _=>Option.some.inj e1,rfl,fun b2=>⟨fun h=>h.elim,fun h=>absurd (MN ds az b2) h⟩,Nat.le_of_ble_eq_true hsm,fun b2 h=>h.elim⟩
  ·have:=hvals.1;simp;omega
  ·cases x with
   | zero =>
     show RC (W00 (fun _=>b) S) (St.mK ds az).gen (St.mK ds az).ob w (.ptr 0 0 0) _
     have:((#[Value.pointer (some ⟨b,0,none⟩)] ++ vals) ++ Array.replicate (fn.ntmps - (#[Value.pointer (some ⟨b,0,none⟩)] ++ vals).size) undef).getD 0 undef=Value.pointer (some ⟨b,0,none⟩):=by
      rw [Array.getD_eq_getD_getElem?,Array.getElem?_append_left (by simp;omega),Array.getElem?_append_left (by simp)]
      rfl
     rw [this];exact ⟨rfl,Nat.le_refl _,fun _=>rfl⟩
   | succ x =>
     show RA _ _ _ _ (match az[x]? with | some p=>.b p.bv | none=>.un) _
     cases hx:az[x]? with
     | none=>trivial
     | some p =>
       have hlt:x < vals.size:=by rw [←hvals.1];exact (List.getElem?_eq_some_iff.1 hx).1
       have:((#[Value.pointer (some ⟨b,0,none⟩)] ++ vals) ++ Array.replicate (fn.ntmps - (#[Value.pointer (some ⟨b,0,none⟩)] ++ vals).size) undef).getD (x+1) undef=vals[x]:=by
        rw [Array.getD_eq_getD_getElem?,Array.getElem?_append_left (by simp;omega),Array.getElem?_append_right (by simp)]
        simp [hlt]
       rw [this];exact RP.av (W:=(W00 (fun _=>b) S)) (hvals.2 x p _ hx (Array.getElem?_eq_getElem hlt))
  ·show RO _ _ _ _ _ _ (if o=0 then .cells (ds.map .d) else .no)
   split
   ·refine ⟨arr,T,hheap,.inr (.inl rfl),hSb,?_⟩;refine ⟨by rw [List.length_map];exact hds.1,fun i c u e1 e2=>?_⟩
    rw [List.getElem?_map,Option.map_eq_some_iff] at e1;obtain ⟨x,hx,rfl⟩:=e1;exact hds.2 i x u hx e2
   ·trivial
  ·have key:∀ o b2,cl (W00 (fun _=>b) S) o ((St.mK ds az).ob o) b2→o=0:=fun o b2 h=>by
    by_cases h0:o=0
    ·exact h0
    ·have h2:cl (W00 (fun _=>b) S) o (if o=0 then .cells (ds.map .d) else .no) b2:=h;rw [if_neg h0] at h2;exact h2.elim
   rw [key o b2 h,key o' b2 h']
 refine wp_mono (jY hE (fun w2 h2=>hI w2 (toF h2)) heq hm c pc hc hback _ _ _ _ _ hw hinit) (fun e a' w' he=>?_);obtain ⟨W',s',hs',hret,hres,hns,hg0,hcells⟩:=he
 have hfin:bodyPost P fn (fun e w'=>∃ u S' arr' T',e=.returned u∧RR S' w' rs u∧w'.heap[b]? = some (.cells arr' T' (0,0))∧RDs S' w' ds' arr'.toList∧S' b=0∧kK (·=b) w w'∧∀ k,k < w.heap.size→S' k=S k) .ret a' w':=by
  refine ⟨hs'.dfs,?_⟩;obtain ⟨vs,h1,h2,h3⟩:=nI (P:=P) hs' fn.results.toList prs rs hr hres (.inr hns)
  have h4:(results fn a'.tmps).run P w'=.ok (if h:vs.length=1 then vs[0] else .tuple vs.toArray) w':=by
   have h5:results fn a'.tmps=(fn.results.mapM (oZ a'.tmps)) >>= fun vs=>pure (if h:vs.size=1 then vs[0] else .tuple vs):=by
    unfold results
    congr 1
   have h6:fn.results=fn.results.toList.toArray:=by simp
   rw [h5,h6,List.mapM_toArray,Sem.run_bind,Sem.run_map,h1];simp
  have hblt:b < w.heap.size:=(Array.getElem?_eq_some_iff.1 hheap).1;have hbk:W'.blk 0=b:=hs'.bk b rfl hg0;have hfz:∀ k,k < w.heap.size→frz w W' s' w' k=S k:=fun k hk=>by unfold frz;rw [if_pos hk];exact hs'.s0 k hk
  unfold St.fQ at hcells;rw [if_pos hg0] at hcells;have hro:=hs'.ob 0
  cases hob:s'.ob 0 with
  | cells cs =>
    rw [hob] at hcells hro;simp only at hcells;split at hcells
    case isFalse=>cases hcells
    obtain ⟨arr',T',g1,g2,g3,g4⟩:=hro;rw [hbk] at g1;obtain ⟨⟨r1,r2⟩,_⟩:=RCs.dts g4 hcells;refine ⟨_,h4,_,frz w W' s' w',arr',T',rfl,?_,g1,⟨r1,fun i x u e1 e2=>RD.ext (mZ hs') (r2 i x u e1 e2)⟩,by rw [hfz b hblt];exact hSb,toF hs'.below,hfz⟩
    match rs,vs,h2,h3 with
    | [],_,_,_=>trivial
    | [p],[v],_,h3=>exact h3 0 p v rfl rfl
    | p :: q :: r,vs,h2,h3 =>
      have hne:¬ vs.length=1:=by rw [←h2];simp
      rw [dif_neg hne];exact ⟨vs.toArray,rfl,by simpa using h2,fun i p u e1 e2=>h3 i p u e1 (by simpa using e2)⟩
  | no=>rw [hob] at hcells;cases hcells
  | row _ _ _=>rw [hob] at hcells;cases hcells
  | ab _=>rw [hob] at hcells;cases hcells
  | hp _=>rw [hob] at hcells;cases hcells
 rcases hret with rfl | rfl
 ·exact hfin
 ·exact hfin
def St.fA (nc:Nat→Nat) (hp:Nat→Hb) (az:List Hw):St:=⟨fun x=>match az[x]? with | some p=>.b p.bv | none=>.un,fun _=>0,fun o=>if HBS≤o then .hp (fun b=>if HBS+nc b=o then hp b else .no) else .no,nc⟩
theorem rO (nc:Nat→Nat) (hp:Nat→Hb) (az:List Hw):(St.fA nc hp az).hb=hp:=by
 funext b
 show fF (if HBS≤HBS+nc b then _ else _) b=hp b
 rw [if_pos (Nat.le_add_right _ _)]
 show (if HBS+nc b=HBS+nc b then hp b else .no)=_
 rw [if_pos rfl]
def St.Ap (s:St):PR→Option Hw
 | .t x=>(s.sl x).hw
 | .c x k=>match s.sl x with
   | .b (.one (.ptr o g off))=>if s.gen o=g then (match s.ob o with | .cells cs=>(nW k cs off).bind Av.hw | _=>none) else none
   | .b (.one (.hv (.p b off)))=>match s.hb b with
     | .cells cs=>(nW k (cs.map Hc.cl) off).bind Av.hw
     | _=>none
   | _=>none
def St.gW (s:St) (rs:List PR):Option (List Hw):=aD (rs.map s.Ap)
theorem JY [Bor] {n:Nat} {w0:World} {S0:Nat→Nat} {W:Wit} {s:St} {a:Act} {w:World} {v:Av} {u:Hw} {rv':Value} (h:RA W s.gen s.ob w v rv') (hv:v.hw=some u):RB W s.gen s.ob w u.bv rv':=by
 unfold Av.hw at hv;split at hv
 ·rename_i y
  cases y with
  | one c =>
    simp only [Bv.hw,Option.map_eq_some_iff] at hv;obtain ⟨z,hz,rfl⟩:=hv;exact RC.hc h hz
  | agg cs =>
    simp only [Bv.hw,Option.map_eq_some_iff] at hv;obtain ⟨z,hz,rfl⟩:=hv;obtain ⟨arr,h1,h2⟩:=h;exact ⟨arr,h1,h2.hcs hz⟩
 ·cases hv
theorem yK {P:Program} {t:TypeId} {d:TypeDesc} {i:TypeInfo} {k:Option Nat} (hu:P.underlying t=some d) (hi:P.info? t=some i) (hk:k=if kW d=true then some i.size else none) {W:Wit} {s:St} {w:World} {b off:Nat} {cs:List Cl} {arr:Array Value} {v:Av}
 (hr:RCs W s.gen s.ob w cs arr.toList) (hcell:∀ (j:Nat) u,arr.toList[j]? = some u→w.cell? ⟨b,j,none⟩=some u) (hv:nW k cs off=some v):∃ rv',(loadVar t ⟨b,off,none⟩).run P w=.ok rv' w∧RA W s.gen s.ob w v rv':=by
 have hag:=jU (P:=P) hu w
 rcases mQ hr hv with ⟨rfl,c',u,e1,e2,rfl,e3⟩ | ⟨m,rfl,e1,rfl,e2⟩
 ·have hf:kW d=false:=by cases h:kW d <;> simp [h] at hk ⊢
  rw [hf] at hag;exact ⟨u,by simp [loadVar,hag,hcell off u e2],e3⟩
 ·have ht:kW d=true:=by cases h:kW d <;> simp [h] at hk ⊢
  rw [ht] at hag hk;simp at hk;subst hk;have hlen:((arr.toList.drop off).take i.size).length=i.size:=by simp at e1 ⊢;omega
  have hl:=run_loadCells_list (P:=P) w ⟨b,off,none⟩ ((arr.toList.drop off).take i.size) (fun j u hj=>by
   rw [addr_add];rw [List.getElem?_take] at hj;split at hj
   ·rw [List.getElem?_drop] at hj;exact hcell _ _ hj
   ·cases hj)
  rw [hlen] at hl;refine ⟨.agg ((arr.toList.drop off).take i.size).toArray,?_,_,rfl,by simpa using e2⟩;simp only [loadVar,hag,Sem.run_bind,Result.andThen_ok,if_true,sizeOf,typeInfo,run_program,hi,hl,Sem.run_pure]
theorem JE [Bor] {P:Program} {n:Nat} {w0:World} {S0:Nat→Nat} {W:Wit} {s:St} {a:Act} {w:World} (hs:Sim w0 S0 n W s a w) {rv0:ResultVar} {r:PR} {p:Hw} (hr:oJ P rv0=some r) (hp:s.Ap r=some p) :
 ∃ v,(oZ a.tmps rv0).run P w=.ok v w∧RB W s.gen s.ob w p.bv v:=by
 cases rv0 with
 | tmp t=>cases hr;exact ⟨_,rfl,JY (n:=n) (w0:=w0) (S0:=S0) (a:=a) (hs.sl t) hp⟩
 | cell c t =>
   simp only [oJ,Option.map_eq_some_iff] at hr;obtain ⟨k,hk,rfl⟩:=hr;obtain ⟨d,i,hu,hi,hkk⟩:=p9 hk;simp only [St.Ap] at hp;split at hp
   ·rename_i o g off hsl;split at hp
    ·rename_i hg;split at hp
     ·rename_i cs hob;simp only [Option.bind_eq_some_iff] at hp;obtain ⟨v,hv,hp⟩:=hp;have h1:=hs.sl c;rw [hsl] at h1;have h2:=h1.2.2 hg.symm;have hro:=hs.ob o;rw [hob] at hro;obtain ⟨arr,T,h4,h5,h6,h7⟩:=hro;obtain ⟨rv',g1,g2⟩:=yK (P:=P) hu hi hkk (b:=W.blk o) h7 (fun j u hj=>by simp only [World.cell?,h4];simpa using hj) hv
      refine ⟨rv',?_,JY (n:=n) (w0:=w0) (S0:=S0) (a:=a) g2 hp⟩;unfold oZ;dsimp only;rw [h2];simp [asAddr,g1]
     ·cases hp
    ·cases hp
   ·rename_i b off hsl;split at hp
    ·rename_i cs hb;simp only [Option.bind_eq_some_iff] at hp;obtain ⟨v,hv,hp⟩:=hp;have h1:=hs.sl c;rw [hsl] at h1;have h2:a.tmps.getD c undef=.pointer (some ⟨W.nm b,off,none⟩):=h1.1;obtain ⟨⟨arr,T,h4,h7⟩,_⟩:=rR hs hb (by simp);obtain ⟨rv',g1,g2⟩:=yK (P:=P) hu hi hkk (b:=W.nm b) h7 (fun j u hj=>by simp only [World.cell?,h4];simpa using hj) hv
     refine ⟨rv',?_,JY (n:=n) (w0:=w0) (S0:=S0) (a:=a) g2 hp⟩;unfold oZ;dsimp only;rw [h2];simp [asAddr,g1]
    ·cases hp
   ·cases hp
theorem tq [Bor] {P:Program} {n:Nat} {w0:World} {S0:Nat→Nat} {W:Wit} {s:St} {a:Act} {w:World} (hs:Sim w0 S0 n W s a w):∀ (rvs:List ResultVar) (prs:List PR) (ps:List Hw),aD (rvs.map (oJ P))=some prs→s.gW prs=some ps →
 ∃ vs:List Value,(rvs.mapM (oZ a.tmps)).run P w=.ok vs w∧ps.length=vs.length∧∀ (i:Nat) p u,ps[i]? = some p→vs[i]? = some u→RB W s.gen s.ob w p.bv u
 | [],prs,ps,h1,h2=>by
   simp [aD] at h1;subst h1;simp [St.gW,aD] at h2;subst h2;exact ⟨[],by simp,rfl,fun i p u h=>by simp at h⟩
 | rv0 :: rvs,prs,ps,h1,h2=>by
   simp only [List.map_cons] at h1
   cases hr:oJ P rv0 with
   | none=>rw [hr] at h1;simp [aD] at h1
   | some r =>
     rw [hr] at h1;simp only [aD,Option.map_eq_some_iff] at h1;obtain ⟨prs',hp,rfl⟩:=h1;simp only [St.gW,List.map_cons] at h2
     cases hr1:s.Ap r with
     | none=>rw [hr1] at h2;simp [aD] at h2
     | some p =>
       rw [hr1] at h2;simp only [aD,Option.map_eq_some_iff] at h2;obtain ⟨ps',hps,rfl⟩:=h2;obtain ⟨v,h3,h4⟩:=JE hs hr hr1;obtain ⟨vs,h5,h6,h7⟩:=tq hs rvs prs' ps' hp hps;refine ⟨v :: vs,?_,by simp [h6],fun i q u e1 e2=>?_⟩
       ·rw [List.mapM_cons,Sem.run_bind,h3,Result.andThen_ok,Sem.run_bind,h5];rfl
       ·cases i with
        | zero=>simp at e1 e2;subst e1;subst e2;exact h4
        | succ i=>exact h7 i q u (by simpa using e1) (by simpa using e2)
def Wit.fin (W:Wit) (S':Nat→Nat):Wit:={ W with S:=S' }
theorem RHp.zM {W:Wit} {w:World} {hp:Nat→Hb} (h:RHp W w hp) (nc:Nat→Nat) (az:List Hw) {o:Nat} (ho:HBS≤o) [Bor] (hB:∀ k,dK W hp k→Bor.fp k) :
 RP' w.heap.size { W with nc:=nc,blk:=fun _=>0,val:=fun _=>undef,adr:=fun _=>undef,fp:=fun _ _=>False } (St.fA nc hp az).gen (St.fA nc hp az).ob w o (fun b=>if HBS+nc b=o then hp b else .no):=by
 refine ⟨fun b hn=>?_,fun b hn=>?_,fun b k hk=>?_,fun b=>?_,fun b b' k e1 e2=>?_⟩
 ·split at hn
  ·rename_i he;exact he
  ·exact absurd rfl hn
 ·split at hn
  ·exact (h.lv b).2 hn
  ·exact absurd rfl hn
 ·split at hk
  ·have hk':=(hcl.indep (W:=W) rfl rfl rfl b (hp b) k).1 hk;exact ⟨.inr (hB k ⟨b,hk'⟩),(h.mine b k hk').1,(h.mine b k hk').2⟩
  ·exact hk.elim
 ·split
  ·refine RH.indep (W:=W) ?_ ?_ ?_ ?_ ?_ (h.at_ b) <;> rfl
  ·trivial
 ·split at e1
  ·split at e2
   ·exact h.ex b b' k ((hcl.indep (W:=W) rfl rfl rfl b (hp b) k).1 e1) ((hcl.indep (W:=W) rfl rfl rfl b' (hp b') k).1 e2)
   ·exact e2.elim
  ·exact e1.elim
theorem RHp.dead {W:Wit} {w:World} {hp hp':Nat→Hb} (h:RHp W w hp) (hd:∀ b,hp' b=hp b∨(hp' b=.dead∧hp b≠.no)):RHp W w hp':=by
 have hc:∀ b k,hcl W b (hp' b) k→hcl W b (hp b) k:=fun b k hk=>by
  rcases hd b with e | ⟨e,_⟩
  ·rw [←e];exact hk
  ·rw [e] at hk;exact hk.elim
 refine ⟨fun b=>?_,fun b k hk=>h.mine b k (hc b k hk),fun b=>?_,fun b b' k e1 e2=>h.ex b b' k (hc b k e1) (hc b' k e2)⟩
 ·rw [h.lv b]
  rcases hd b with e | ⟨e,e2⟩
  ·rw [e]
  ·rw [e];exact ⟨fun _=>by simp,fun _=>e2⟩
 ·rcases hd b with e | ⟨e,_⟩
  ·rw [e];exact h.at_ b
  ·rw [e];trivial
theorem eX [I:bS] {P:Program} {env:Env} (hE:aA P env) {eqs:List (Nat×List Bool)} (heq:∀ p,p ∈ eqs→EqT P p.1 p.2) (hm:P.follows .mixedOrders=true) {f:Nat} {fn:Func} {c:Code} {pc:PC} {prs:List PR} (hf:P.funcs[f]? = some fn) (hb:fn.body=some c)
 (hc:bN P fn.ntmps eqs c=some pc) (hback:backs pc=true) (hsm:Nat.ble fn.ntmps gZ=true) (hr:aD (fn.results.toList.map (oJ P))=some prs) {R:(Nat→Hb)→List Hw→((Nat→Hb)→List Hw→Prop)→Prop}
 (hR:∀ hp az Post,R hp az Post→az.length≤fn.ntmps∧∃ nc,pwp env pc (fun e s=>(e=.normal∨e=.ret)∧∃ hp' rs,s.gW prs=some rs∧(∀ b,hp' b=s.hb b∨(hp' b=.dead∧s.hb b≠.no))∧Post hp' rs) (St.fA nc hp az)):dY P f R:=by
 intro hp az Post has W w vals hI hrp hvals;obtain ⟨hlen,nc,hw⟩:=hR hp az Post has
 letI:Bor:=⟨none,dK W hp,W.lv,W.nm,W.nv,[]⟩
 have hfpB:∀ k,Bor.fp k↔dK W hp k:=fun k=>⟨fun h=>h.elim (fun h=>by cases h) id,.inr⟩
 have toF:∀ {w':World},iL w.heap.size w w'→kK (dK W hp) w w':=fun h=>⟨h.os,h.tape,h.output,h.size,fun k hk hne=>h.block k hk (fun e=>hne ((hfpB k).1 e))⟩
 obtain ⟨W0,hW0⟩:∃ W0:Wit,{ W with nc:=nc,blk:=fun _=>0,val:=fun _=>undef,adr:=fun _=>undef,fp:=fun _ _=>False }=W0:=⟨_,rfl⟩
 refine calls_of_wp hf hb ?_
 have hcl0:∀ o b,cl W0 o ((St.fA nc hp az).ob o) b→HBS≤o∧∃ m,HBS+nc m=o∧hcl W m (hp m) b:=fun o b h=>by
  have h':cl W0 o (if HBS≤o then .hp (fun b=>if HBS+nc b=o then hp b else .no) else .no) b:=h;split at h'
  ·rename_i ho;obtain ⟨m,hm2⟩:=h';dsimp only at hm2;split at hm2
   ·rename_i he;exact ⟨ho,m,he,(hcl.indep (W:=W) (by rw [←hW0]) (by rw [←hW0]) (by rw [←hW0]) m (hp m) b).1 hm2⟩
   ·exact hm2.elim
  ·exact h'.elim
 have hinit:Sim w W.S fn.ntmps W0 (St.fA nc hp az) { tmps:=vals ++ Array.replicate (fn.ntmps - vals.size) undef,defers:=[] } w:=by
  refine ⟨iL.refl _ _,fun b _=>by rw [←hW0],?_,rfl,fun x=>?_,fun o=>?_,fun o o' b h h'=>?_,(fun b h=>by cases h),by rw [←hW0];rfl,fun b=>by rw [rO,←hW0];exact hrp.lv b,Nat.le_of_ble_eq_true hsm,fun b hb2=>by rw [←hW0];exact ⟨hb2,rfl,rfl⟩⟩
  ·have:=hvals.1;simp;omega
  ·show RA _ _ _ _ (match az[x]? with | some p=>.b p.bv | none=>.un) _
   cases hx:az[x]? with
   | none=>trivial
   | some p =>
     have hlt:x < vals.size:=by rw [←hvals.1];exact (List.getElem?_eq_some_iff.1 hx).1
     have:(vals ++ Array.replicate (fn.ntmps - vals.size) undef).getD x undef=vals[x]:=by
      rw [Array.getD_eq_getD_getElem?,Array.getElem?_append_left hlt,Array.getElem?_eq_getElem hlt];rfl
     rw [this];exact RB.indep (W:=W) (by rw [←hW0]) (by rw [←hW0]) (by rw [←hW0]) (by rw [←hW0]) (hvals.2 x p _ hx (Array.getElem?_eq_getElem hlt))
  ·show RO _ _ _ _ _ _ (if HBS≤o then .hp (fun b=>if HBS+nc b=o then hp b else .no) else .no)
   split
   ·rename_i ho;rw [←hW0];exact hrp.zM nc az ho (fun k hk=>(hfpB k).2 hk)
   ·trivial
  ·obtain ⟨_,m,h1,h2⟩:=hcl0 o b h;obtain ⟨_,m',h3,h4⟩:=hcl0 o' b h';have:=hrp.ex m m' b h2 h4;subst this;rw [←h1,←h3]
 refine wp_mono (jY hE (fun w2 h2=>hI w2 (toF h2)) heq hm c pc hc hback _ _ _ _ _ hw hinit) (fun e a' w' he=>?_);obtain ⟨W',s',hs',hret,hp',rs,hres,hhb,hPost⟩:=he
 have hfin:bodyPost P fn (fun e w'=>∃ hp' rs,Post hp' rs∧∃ u W',e=.returned u∧RRH W' w' rs u∧RHp W' w' hp'∧(∀ b,W.lv b→W'.lv b∧W'.nm b=W.nm b∧W'.nv b=W.nv b)∧kK (dK W hp) w w'∧(∀ k,dK W' hp' k→dK W hp k∨w.heap.size≤k)∧∀ k,k < w.heap.size→W'.S k=W.S k) .ret a' w':=by
  refine ⟨hs'.dfs,?_⟩;obtain ⟨vs,h1,h2,h3⟩:=tq (P:=P) hs' fn.results.toList prs rs hr hres
  have h4:(results fn a'.tmps).run P w'=.ok (if h:vs.length=1 then vs[0] else .tuple vs.toArray) w':=by
   have h5:results fn a'.tmps=(fn.results.mapM (oZ a'.tmps)) >>= fun vs=>pure (if h:vs.size=1 then vs[0] else .tuple vs):=by
    unfold results
    congr 1
   have h6:fn.results=fn.results.toList.toArray:=by simp
   rw [h5,h6,List.mapM_toArray,Sem.run_bind,Sem.run_map,h1];simp
  have hext:=mZ hs';obtain ⟨Wf,hWf⟩:∃ Wf:Wit,W'.fin (frz w W' s' w')=Wf:=⟨_,rfl⟩
  have hfolf:∀ G O,Fol W' G O w' Wf G O w':=fun G O=>by
   rw [←hWf];exact ⟨hext,fun _=>Nat.le_refl _,fun _ _=>rfl,fun o E sz k _ ho=>⟨k,ho,Nat.le_refl _,fun _=>rfl⟩,fun _ _=>rfl,fun _ h=>⟨h,rfl,rfl⟩,rfl⟩
  obtain ⟨hrp',hmine'⟩:=hs'.rhp;have hrp0:=hrp'
  replace hrp':RHp W' w' hp':=hrp'.dead hhb
  replace hmine':∀ b k,hcl W' b (hp' b) k→Mine w.heap.size k∧∃ f,s'.ob (HBS+s'.nc b)=.hp f∧f b=hp' b:=fun b k hk=>by
   rcases hhb b with h | ⟨h,_⟩
   ·rw [h] at hk ⊢;exact hmine' b k hk
   ·rw [h] at hk;exact hk.elim
  have hclf:∀ b k,hcl Wf b (hp' b) k↔hcl W' b (hp' b) k:=fun b k=>hcl.indep (by rw [←hWf];rfl) (by rw [←hWf];rfl) (by rw [←hWf];rfl) b _ k
  have hSf:∀ k,Wf.S k=frz w W' s' w' k:=fun k=>by rw [←hWf];rfl
  have hS0:∀ b k,hcl W' b (hp' b) k→frz w W' s' w' k=0:=fun b k hk=>by
   unfold frz;split
   ·exact (hrp'.mine b k hk).1
   ·rw [if_pos];obtain ⟨_,g,hg1,hg2⟩:=hmine' b k hk;exact .inr ⟨_,g,hg1,b,by rw [hg2];exact hk⟩
  have hres2:∀ (i:Nat) p u,rs[i]? = some p→vs[i]? = some u→RHw Wf w' p u:=fun i p u e1 e2=>RB.indep rfl rfl rfl rfl (RB.fol (hfolf _ _) (h3 i p u e1 e2))
  refine ⟨_,h4,hp',rs,hPost,_,Wf,rfl,?_,⟨fun b=>by rw [←hWf];exact hrp'.lv b,fun b k hk=>⟨by rw [hSf];exact hS0 b k ((hclf b k).1 hk),(hrp'.mine b k ((hclf b k).1 hk)).2⟩,fun b=>?_,fun b b' k e1 e2=>hrp'.ex b b' k ((hclf b k).1 e1) ((hclf b' k).1 e2)⟩,fun b hl=>?_,toF hs'.below,fun k ⟨b,hk⟩=>?_,fun k hk=>?_⟩
  ·match rs,vs,h2,hres2 with
   | [],_,_,_=>trivial
   | [p],[v],_,h3=>exact h3 0 p v rfl rfl
   | p :: q :: r,vs,h2,h3 =>
     have hne:¬ vs.length=1:=by rw [←h2];simp
     rw [dif_neg hne];exact ⟨vs.toArray,rfl,by simpa using h2,fun i p u e1 e2=>h3 i p u e1 (by simpa using e2)⟩
  ·exact RH.fol (hfolf _ _) (hrp'.at_ b) (fun hn=>(hrp'.lv b).2 hn) (by rw [←hWf];rfl) (fun _ _=>rfl)
  ·have:=hs'.nm0 b hl;rw [←hWf];exact this
  ·obtain ⟨hmk,_⟩:=hmine' b k ((hclf b k).1 hk)
   rcases hmk with h | h
   ·exact .inr h
   ·exact .inl ((hfpB k).1 h)
  ·rw [hSf];unfold frz;rw [if_pos hk];exact hs'.s0 k hk
 rcases hret with rfl | rfl
 ·exact hfin
 ·exact hfin
theorem jk [I:bS] {P:Program} {env:Env} (hE:aA P env) {eqs:List (Nat×List Bool)} (heq:∀ p,p ∈ eqs→EqT P p.1 p.2) (hm:P.follows .mixedOrders=true) {f:Nat} {fn:Func} {c:Code} {pc:PC} {prs:List PR} (hf:P.funcs[f]? = some fn) (hb:fn.body=some c)
 (hc:bN P fn.ntmps eqs c=some pc) (hback:backs pc=true) (hsm:Nat.ble fn.ntmps gZ=true) (hr:aD (fn.results.toList.map (oJ P))=some prs) {R:(Nat→Hb)→List Hw→(Nat→Hb)→List Hw→Prop}
 (hR:∀ hp az hp' rs,R hp az hp' rs→az.length≤fn.ntmps∧∃ nc,pwp env pc (fun e s=>(e=.normal∨e=.ret)∧s.gW prs=some rs∧s.hb=hp') (St.fA nc hp az)):gI P f R:=by
 intro hp az hp' rs has W w vals hI hrp hvals;obtain ⟨hlen,nc,hw⟩:=hR hp az hp' rs has
 letI:Bor:=⟨none,dK W hp,W.lv,W.nm,W.nv,[]⟩
 have hfpB:∀ k,Bor.fp k↔dK W hp k:=fun k=>⟨fun h=>h.elim (fun h=>by cases h) id,.inr⟩
 have toF:∀ {w':World},iL w.heap.size w w'→kK (dK W hp) w w':=fun h=>⟨h.os,h.tape,h.output,h.size,fun k hk hne=>h.block k hk (fun e=>hne ((hfpB k).1 e))⟩
 obtain ⟨W0,hW0⟩:∃ W0:Wit,{ W with nc:=nc,blk:=fun _=>0,val:=fun _=>undef,adr:=fun _=>undef,fp:=fun _ _=>False }=W0:=⟨_,rfl⟩
 refine calls_of_wp hf hb ?_
 have hcl0:∀ o b,cl W0 o ((St.fA nc hp az).ob o) b→HBS≤o∧∃ m,HBS+nc m=o∧hcl W m (hp m) b:=fun o b h=>by
  have h':cl W0 o (if HBS≤o then .hp (fun b=>if HBS+nc b=o then hp b else .no) else .no) b:=h;split at h'
  ·rename_i ho;obtain ⟨m,hm2⟩:=h';dsimp only at hm2;split at hm2
   ·rename_i he;exact ⟨ho,m,he,(hcl.indep (W:=W) (by rw [←hW0]) (by rw [←hW0]) (by rw [←hW0]) m (hp m) b).1 hm2⟩
   ·exact hm2.elim
  ·exact h'.elim
 have hinit:Sim w W.S fn.ntmps W0 (St.fA nc hp az) { tmps:=vals ++ Array.replicate (fn.ntmps - vals.size) undef,defers:=[] } w:=by
  refine ⟨iL.refl _ _,fun b _=>by rw [←hW0],?_,rfl,fun x=>?_,fun o=>?_,fun o o' b h h'=>?_,(fun b h=>by cases h),by rw [←hW0];rfl,fun b=>by rw [rO,←hW0];exact hrp.lv b,Nat.le_of_ble_eq_true hsm,fun b hb2=>by rw [←hW0];exact ⟨hb2,rfl,rfl⟩⟩
  ·have:=hvals.1;simp;omega
  ·show RA _ _ _ _ (match az[x]? with | some p=>.b p.bv | none=>.un) _
   cases hx:az[x]? with
   | none=>trivial
   | some p =>
     have hlt:x < vals.size:=by rw [←hvals.1];exact (List.getElem?_eq_some_iff.1 hx).1
     have:(vals ++ Array.replicate (fn.ntmps - vals.size) undef).getD x undef=vals[x]:=by
      rw [Array.getD_eq_getD_getElem?,Array.getElem?_append_left hlt,Array.getElem?_eq_getElem hlt];rfl
     rw [this];exact RB.indep (W:=W) (by rw [←hW0]) (by rw [←hW0]) (by rw [←hW0]) (by rw [←hW0]) (hvals.2 x p _ hx (Array.getElem?_eq_getElem hlt))
  ·show RO _ _ _ _ _ _ (if HBS≤o then .hp (fun b=>if HBS+nc b=o then hp b else .no) else .no)
   split
   ·rename_i ho;rw [←hW0];exact hrp.zM nc az ho (fun k hk=>(hfpB k).2 hk)
   ·trivial
  ·obtain ⟨_,m,h1,h2⟩:=hcl0 o b h;obtain ⟨_,m',h3,h4⟩:=hcl0 o' b h';have:=hrp.ex m m' b h2 h4;subst this;rw [←h1,←h3]
 refine wp_mono (jY hE (fun w2 h2=>hI w2 (toF h2)) heq hm c pc hc hback _ _ _ _ _ hw hinit) (fun e a' w' he=>?_);obtain ⟨W',s',hs',hret,hres,hhb⟩:=he
 have hfin:bodyPost P fn (fun e w'=>∃ u W',e=.returned u∧RRH W' w' rs u∧RHp W' w' hp'∧(∀ b,W.lv b→W'.lv b∧W'.nm b=W.nm b∧W'.nv b=W.nv b)∧kK (dK W hp) w w'∧(∀ k,dK W' hp' k→dK W hp k∨w.heap.size≤k)∧∀ k,k < w.heap.size→W'.S k=W.S k) .ret a' w':=by
  refine ⟨hs'.dfs,?_⟩;obtain ⟨vs,h1,h2,h3⟩:=tq (P:=P) hs' fn.results.toList prs rs hr hres
  have h4:(results fn a'.tmps).run P w'=.ok (if h:vs.length=1 then vs[0] else .tuple vs.toArray) w':=by
   have h5:results fn a'.tmps=(fn.results.mapM (oZ a'.tmps)) >>= fun vs=>pure (if h:vs.size=1 then vs[0] else .tuple vs):=by
    unfold results
    congr 1
   have h6:fn.results=fn.results.toList.toArray:=by simp
   rw [h5,h6,List.mapM_toArray,Sem.run_bind,Sem.run_map,h1];simp
  have hext:=mZ hs';obtain ⟨Wf,hWf⟩:∃ Wf:Wit,W'.fin (frz w W' s' w')=Wf:=⟨_,rfl⟩
  have hfolf:∀ G O,Fol W' G O w' Wf G O w':=fun G O=>by
   rw [←hWf];exact ⟨hext,fun _=>Nat.le_refl _,fun _ _=>rfl,fun o E sz k _ ho=>⟨k,ho,Nat.le_refl _,fun _=>rfl⟩,fun _ _=>rfl,fun _ h=>⟨h,rfl,rfl⟩,rfl⟩
  obtain ⟨hrp',hmine'⟩:=hs'.rhp;rw [hhb] at hrp' hmine';have hclf:∀ b k,hcl Wf b (hp' b) k↔hcl W' b (hp' b) k:=fun b k=>hcl.indep (by rw [←hWf];rfl) (by rw [←hWf];rfl) (by rw [←hWf];rfl) b _ k
  have hSf:∀ k,Wf.S k=frz w W' s' w' k:=fun k=>by rw [←hWf];rfl
  have hS0:∀ b k,hcl W' b (hp' b) k→frz w W' s' w' k=0:=fun b k hk=>by
   unfold frz;split
   ·exact (hrp'.mine b k hk).1
   ·rw [if_pos];obtain ⟨_,g,hg1,hg2⟩:=hmine' b k hk;exact .inr ⟨_,g,hg1,b,by rw [hg2];exact hk⟩
  have hres2:∀ (i:Nat) p u,rs[i]? = some p→vs[i]? = some u→RHw Wf w' p u:=fun i p u e1 e2=>RB.indep rfl rfl rfl rfl (RB.fol (hfolf _ _) (h3 i p u e1 e2))
  refine ⟨_,h4,_,Wf,rfl,?_,⟨fun b=>by rw [←hWf];exact hrp'.lv b,fun b k hk=>⟨by rw [hSf];exact hS0 b k ((hclf b k).1 hk),(hrp'.mine b k ((hclf b k).1 hk)).2⟩,fun b=>?_,fun b b' k e1 e2=>hrp'.ex b b' k ((hclf b k).1 e1) ((hclf b' k).1 e2)⟩,fun b hl=>?_,toF hs'.below,fun k ⟨b,hk⟩=>?_,fun k hk=>?_⟩
  ·match rs,vs,h2,hres2 with
   | [],_,_,_=>trivial
   | [p],[v],_,h3=>exact h3 0 p v rfl rfl
   | p :: q :: r,vs,h2,h3 =>
     have hne:¬ vs.length=1:=by rw [←h2];simp
     rw [dif_neg hne];exact ⟨vs.toArray,rfl,by simpa using h2,fun i p u e1 e2=>h3 i p u e1 (by simpa using e2)⟩
  ·exact RH.fol (hfolf _ _) (hrp'.at_ b) (fun hn=>(hrp'.lv b).2 hn) (by rw [←hWf];rfl) (fun _ _=>rfl)
  ·have:=hs'.nm0 b hl;rw [←hWf];exact this
  ·obtain ⟨hmk,_⟩:=hmine' b k ((hclf b k).1 hk)
   rcases hmk with h | h
   ·exact .inr h
   ·exact .inl ((hfpB k).1 h)
  ·rw [hSf];unfold frz;rw [if_pos hk];exact hs'.s0 k hk
 rcases hret with rfl | rfl
 ·exact hfin
 ·exact hfin
section
variable {P:Program}
def uJ (P:Program) (t:Nat):Option Bool:=match P.underlying t with
 | some (.int _)=>some false
 | some .bool=>some true
 | _=>none
theorem BQ {t:Nat} {kb:Bool} (hb:uJ P t=some kb) {x y:Cl} {u v:Value} {r:Bool} {W:Wit} {G:Nat→Nat} {O:Nat→Ob} {w:World} (hx:RC W G O w x u) (hy:RC W G O w y v) (h:qH kb x y=some r) (d:Nat) :
 (Op.equalIn (d+1) t u v).run P w=.ok r w:=by
 unfold uJ at hb;unfold qH at h;split at h
 ·rename_i k a k' b;split at h
  ·rename_i hk;cases h;obtain ⟨rfl,_⟩:=RD.gU hx;obtain ⟨rfl,_⟩:=RD.gU hy;rw [Op.equalIn.eq_2];split at hb
   ·rename_i k2 hu;simp [run_underlying hu,hk.2]
   ·cases hb;exact absurd hk.1 (by decide)
   ·cases hb
  ·cases h
 ·rename_i a b;split at h
  ·rename_i hk;cases h;obtain ⟨rfl,_⟩:=RD.gU hx;obtain ⟨rfl,_⟩:=RD.gU hy;rw [Op.equalIn.eq_2];split at hb
   ·cases hb;exact absurd hk (by decide)
   ·rename_i hu;simp [run_underlying hu]
   ·cases hb
  ·cases h
 ·cases h
theorem mD {t:Nat} {kb:Bool} (hb:uJ P t=some kb) {xs:Array Value} {i:Nat} {u:Value} (hi:xs[i]? = some u) (w:World):(part t xs i).run P w=.ok u w:=by
 obtain ⟨d,hd,ha⟩:∃ d,P.underlying t=some d∧kW d=false:=by
  unfold uJ at hb;split at hb
  ·rename_i k hu;exact ⟨_,hu,rfl⟩
  ·rename_i hu;exact ⟨_,hu,rfl⟩
  ·cases hb
 have:=jU hd w;simp [part,this,ha,hi]
theorem vO {ks:List Bool} {cs ds:List Cl} {r:Bool} {i:Nat} (h:gJ (ks.drop i) (cs.drop i) (ds.drop i)=some r) {k:Bool} (hk:ks[i]? = some k) :
 ∃ x y a b,cs[i]? = some x∧ds[i]? = some y∧qH k x y=some a∧gJ (ks.drop (i+1)) (cs.drop (i+1)) (ds.drop (i+1))=some b∧r=(a && b):=by
 have hlt:=(List.getElem?_eq_some_iff.1 hk).1;rw [List.drop_eq_getElem_cons hlt] at h
 rcases Nat.lt_or_ge i cs.length with h1 | h1
 ·rcases Nat.lt_or_ge i ds.length with h2 | h2
  ·rw [List.drop_eq_getElem_cons h1,List.drop_eq_getElem_cons h2] at h;simp only [gJ] at h;split at h
   ·rename_i a b ha hb;cases h;rw [List.getElem?_eq_getElem hlt] at hk;cases hk;exact ⟨_,_,a,b,List.getElem?_eq_getElem h1,List.getElem?_eq_getElem h2,ha,hb,rfl⟩
   ·cases h
  ·rw [List.drop_eq_nil_of_le h2,List.drop_eq_getElem_cons h1] at h;simp [gJ] at h
 ·rw [List.drop_eq_nil_of_le h1] at h;simp [gJ] at h
def R4 (P : Program) (fs : Array Field) (ks : List Bool) : Bool := fs.size == ks.length && fs.toList.zipIdx.all fun p => p.1.name != "_" && p.1.offset == p.2 && uJ P p.1.type == ks[p.2]?
theorem mJ {t:Nat} {fs:Array Field} {ks:List Bool} (hu:P.underlying t=some (.struct fs)) (hst:P.stoodInHeld t=false) (hg:P.eqGuardType P.depth t=false) (hfl:R4 P fs ks=true):EqT P t ks:=by
 refine fun _=>⟨hg,fun xs ys cs ds r W G O w h3 h4 h5=>?_⟩
 show (Op.equalIn (9999+1) t (.agg xs) (.agg ys)).run P w=_
 rw [Op.equalIn.eq_2];simp only [Sem.run_bind,run_underlying hu,Result.andThen_ok,run_program,hst];rw [if_neg (by decide)];unfold R4 at hfl;rw [Bool.and_eq_true] at hfl;obtain ⟨hsz,hall⟩:=hfl;have hsz':fs.size=ks.length:=by simpa using hsz
 have key:∀ (l:List Field) (i:Nat) (r:Bool),l=fs.toList.drop i→gJ (ks.drop i) (cs.drop i) (ds.drop i)=some r →
  (forIn l ((none:Option Bool),()) fun f __s =>
   (if f.name ≠ "_" then do
    let __do_lift ←part f.type xs f.offset
    let __do_lift_1 ←part f.type ys f.offset
    let __do_lift ←Op.equalIn 9999 f.type __do_lift __do_lift_1
    if (!__do_lift)=true then pure (ForInStep.done (some false,()))
    else pure (ForInStep.yield (none,()))
   else pure (ForInStep.yield (none,())):Sem (ForInStep (Option Bool×Unit)))).run P w=.ok (if r then none else some false,()) w:=by
  intro l
  induction l with
  | nil =>
    intro i r hl h
    have hge:ks.length≤i:=by
     have:=congrArg List.length hl;simp at this;omega
    rw [List.drop_eq_nil_of_le hge] at h;generalize cs.drop i=a at h;generalize ds.drop i=b at h;cases a <;> cases b <;> simp [gJ] at h
    subst h;simp
  | cons f l ih =>
    intro i r hl h
    have hfi:fs[i]? = some f:=by
     have:=congrArg (·[0]?) hl
     simpa using this.symm
    have hilt:=(Array.getElem?_eq_some_iff.1 hfi).1
    have hp:=List.all_eq_true.1 hall (f,i) (by
     rw [List.mk_mem_zipIdx_iff_getElem?]
     simpa using hfi)
    simp only [Bool.and_eq_true,bne_iff_ne,beq_iff_eq] at hp;obtain ⟨⟨hn,ho⟩,hb⟩:=hp;have hk:ks[i]? = some ks[i]:=List.getElem?_eq_getElem (by omega);rw [hk] at hb;obtain ⟨x,y,a,b,e1,e2,e3,e4,rfl⟩:=vO h hk;have hx1:i < xs.size:=by have:=h3.1;have:=(List.getElem?_eq_some_iff.1 e1).1;simp at *;omega
    have hy1:i < ys.size:=by have:=h4.1;have:=(List.getElem?_eq_some_iff.1 e2).1;simp at *;omega
    have hx:xs[i]? = some xs[i]:=Array.getElem?_eq_getElem hx1;have hy:ys[i]? = some ys[i]:=Array.getElem?_eq_getElem hy1;have heq:(Op.equalIn 9999 f.type xs[i] ys[i]).run P w=.ok a w:=BQ hb (h3.2 i x xs[i] e1 (by rw [Array.getElem?_toList];exact hx)) (h4.2 i y ys[i] e2 (by rw [Array.getElem?_toList];exact hy)) e3 9998
    rw [List.forIn_cons,if_pos hn,ho];simp only [Sem.run_bind,mD hb hx,mD hb hy,Result.andThen_ok,heq]
    cases a with
    | true =>
      simp only [Bool.not_true,Bool.false_eq_true,if_false,Sem.run_pure,Result.andThen_ok,Bool.true_and]
      exact ih (i+1) b (by
       have:=congrArg List.tail hl
       simpa using this) e4
    | false=>simp
 have hk:=key fs.toList 0 r rfl (by simpa using h5);rw [←Array.forIn_toList,Sem.run_bind,hk];cases r <;> rfl
theorem sI {t e m:Nat} {ei:TypeInfo} (hu:P.underlying t=some (.array m e)) (hi:P.info? e=some ei) (hsz1:ei.size=1) (hg:P.eqGuardType P.depth t=false) (hb:uJ P e=some false):EqT P t (List.replicate m false):=by
 refine fun _=>⟨hg,fun xs ys cs ds r W G O w h3 h4 h5=>?_⟩
 show (Op.equalIn (9999+1) t (.agg xs) (.agg ys)).run P w=_
 rw [Op.equalIn.eq_2];simp only [Sem.run_bind,run_underlying hu,Result.andThen_ok,sizeOf,typeInfo,run_program,hi,Sem.run_pure,hsz1,Nat.mul_one,Std.Legacy.Range.forIn_eq_forIn_range',Std.Legacy.Range.size,Nat.sub_zero,Nat.add_one_sub_one,Nat.div_one]
 have key:∀ (k i:Nat) (r:Bool),i+k=m→gJ ((List.replicate m false).drop i) (cs.drop i) (ds.drop i)=some r →
  (forIn (List.range' i k) ((none:Option Bool),()) fun i __s =>
   (do
    let __do_lift ←part e xs i
    let __do_lift_1 ←part e ys i
    let __do_lift ←Op.equalIn 9999 e __do_lift __do_lift_1
    if (!__do_lift)=true then pure (ForInStep.done (some false,()))
    else pure (ForInStep.yield (none,())):Sem (ForInStep (Option Bool×Unit)))).run P w=.ok (if r then none else some false,()) w:=by
  intro k
  induction k with
  | zero =>
    intro i r hl h;rw [List.drop_eq_nil_of_le (by simp;omega)] at h
    generalize cs.drop i=a at h;generalize ds.drop i=b at h;cases a <;> cases b <;> simp [gJ] at h
    subst h;simp
  | succ k ih =>
    intro i r hl h
    have hk:(List.replicate m false)[i]? = some false:=by
     rw [List.getElem?_replicate,if_pos (by omega)]
    obtain ⟨x,y,a,b,e1,e2,e3,e4,rfl⟩:=vO h hk;have hx1:i < xs.size:=by have:=h3.1;have:=(List.getElem?_eq_some_iff.1 e1).1;simp at *;omega
    have hy1:i < ys.size:=by have:=h4.1;have:=(List.getElem?_eq_some_iff.1 e2).1;simp at *;omega
    have hx:xs[i]? = some xs[i]:=Array.getElem?_eq_getElem hx1;have hy:ys[i]? = some ys[i]:=Array.getElem?_eq_getElem hy1;have heq:(Op.equalIn 9999 e xs[i] ys[i]).run P w=.ok a w:=BQ hb (h3.2 i x xs[i] e1 (by rw [Array.getElem?_toList];exact hx)) (h4.2 i y ys[i] e2 (by rw [Array.getElem?_toList];exact hy)) e3 9998
    rw [List.range'_succ,List.forIn_cons];simp only [Sem.run_bind,mD hb hx,mD hb hy,Result.andThen_ok,heq]
    cases a with
    | true =>
      simp only [Bool.not_true,Bool.false_eq_true,if_false,Sem.run_pure,Result.andThen_ok,Bool.true_and];exact ih (i+1) b (by omega) e4
    | false=>simp
 have hk:=key m 0 r (by omega) (by simpa using h5);rw [hk];cases r <;> rfl
end
theorem nR {P:Program} {l0 l:List (Nat×List Bool)} (h0:∀ p,p ∈ l0→EqT P p.1 p.2) (h:l.all (fun p=>Nat.ble 1048576 p.1)=true):∀ p,p ∈ l0 ++ l→EqT P p.1 p.2:=by
 intro p hp
 rcases List.mem_append.1 hp with hp | hp
 ·exact h0 p hp
 ·intro hlt;have:=Nat.le_of_ble_eq_true (List.all_eq_true.1 h p hp);omega
theorem bJ {α:Sort _} {a b:α} (h:a=b):a=b:=h
section
variable {env:Env} {K:St→Prop} {is:List PI} {s:St} {d:Option Nat} {af:List Nat}
def vG (env:Env) (K:St→Prop) (is:List PI) (s:St) (d:Option Nat) (o:Option (Av×Cg)):Prop:=aS o fun p=>aZ env is (s.ap d p.1 p.2) K
theorem zn {v:Av} {ch:Cg}:vG env K is s d (some (v,ch))=aZ env is (s.ap d v ch) K:=bJ rfl
def vB (env:Env) (K:St→Prop) (is:List PI) (s:St) (d:Option Nat) (f:Nat) (o:Option (List Pa)):Prop:=aS o fun ps=>(∃ rs,env.d f ps rs∧aZ env is (s.ap d (kC rs) .no) K)∨(∃ H rs,env.a f none ps H rs∧aZ env is (s.ap d (Am (d.getD 0) (s.gen (d.getD 0)+1) rs) (.new (d.getD 0) (.ab H))) K)∨(∃ E sz rows,env.f f ps E sz rows∧aZ env is (s.ap d (.b (.one (.own (d.getD 0) (s.gen (d.getD 0)+1) rows))) (.new (d.getD 0) (.row E sz rows.length))) K)
theorem aC {f:Nat} {ps:List Pa} (rs:List Pa) (h:env.d f ps rs) (k:aZ env is (s.ap d (kC rs) .no) K):vB env K is s d f (some ps):=.inl ⟨rs,h,k⟩
theorem kN {f:Nat} {ps:List Pa} {E sz:Nat} (rows:List (List Dt)) (h:env.f f ps E sz rows) (k:aZ env is (s.ap d (.b (.one (.own (d.getD 0) (s.gen (d.getD 0)+1) rows))) (.new (d.getD 0) (.row E sz rows.length))) K):vB env K is s d f (some ps):=.inr (.inr ⟨E,sz,rows,h,k⟩)
def GU (env:Env) (K:St→Prop) (is:List PI) (s:St) (d:Option Nat) (f o:Nat) (oh:Option HP) (oa:Option (List Pa)):Prop:=aS oa fun ps=>aS oh fun H =>
 (∃ H' rs,env.a f (some H) ps H' rs∧aZ env is (s.ap d (kC rs) (.ab o H')) K)∨(∃ H2,ps=[]∧env.c f H H2∧aZ env is (s.ap d (.b (.one (.ab (d.getD 0) (s.gen (d.getD 0)+1)))) (.new (d.getD 0) (.ab H2))) K)
def FY (env:Env) (K:St→Prop) (is:List PI) (s:St) (d:Option Nat) (f o:Nat) (od:Option (List Dt)) (oa:Option (List Pa)):Prop:=aS oa fun ps=>aS od fun ds=>∃ ds' rs,env.m f ds ps ds' rs∧ds'.length=ds.length∧aZ env is (s.ap d (kC rs) (.wr o 0 (ds'.map .d))) K
theorem dN {f o:Nat} {ds:List Dt} {ps:List Pa} (ds':List Dt) (rs:List Pa) (h:env.m f ds ps ds' rs) (hl:ds'.length=ds.length) (k:aZ env is (s.ap d (kC rs) (.wr o 0 (ds'.map .d))) K):FY env K is s d f o (some ds) (some ps):=⟨ds',rs,h,hl,k⟩
def uE (env:Env) (K:St→Prop) (is:List PI) (s:St) (d:Option Nat) (f:Nat) (xs:List PX):Option (Nat×Nat)→Option (Nat×Nat)→Prop
 | some (o,g),_=>GU env K is s d f o (s.zy o g) (s.args xs.tail)
 | none,some (o,g)=>FY env K is s d f o (s.fQ o g) (s.args xs.tail)
 | none,none=>vB env K is s d f (s.args xs)
theorem Dx {f:Nat} {xs:List PX}:uE env K is s d f xs none none=vB env K is s d f (s.args xs):=bJ rfl
theorem HY {f o g:Nat} {xs:List PX}:uE env K is s d f xs none (some (o,g))=FY env K is s d f o (s.fQ o g) (s.args xs.tail):=bJ rfl
theorem Dy {f o g:Nat} {xs:List PX} {p:Option (Nat×Nat)}:uE env K is s d f xs (some (o,g)) p=GU env K is s d f o (s.zy o g) (s.args xs.tail):=bJ rfl
theorem Nk:s.recv []=none:=bJ rfl
theorem JD {x:PX} {xs:List PX}:s.recv (x :: xs)=(s.ev x).kY:=bJ rfl
theorem M8:s.fO []=none:=bJ rfl
theorem Jv {x:PX} {xs:List PX}:s.fO (x :: xs)=(s.ev x).fZ:=bJ rfl
theorem DC {o g:Nat}:s.fQ o g=if s.gen o=g then (match s.ob o with | .cells cs=>if cs.length≤1000000 then aD (cs.map Cl.dt) else none | _=>none) else none:=bJ rfl
theorem OZ {o g:Nat}:s.zy o g=if s.gen o=g then (match s.ob o with | .ab H=>some H | _=>none) else none:=bJ rfl
theorem O3 {v:Av} {o:Nat} {H:HP}:(s.ap d v (.ab o H)).gen=s.gen:=bJ rfl
theorem SK {v:Av} {o:Nat} {H:HP}:(s.ap d v (.ab o H)).ob=up s.ob o (.ab H):=bJ rfl
def rG (env:Env) (K:St→Prop) (is:List PI) (s:St) (d:Option Nat) (op:PO) (t:Nat) (want:Bool):Option (Option Bool)→Prop
 | none=>False
 | some none=>aZ env is (s.ap d skp .no) K
 | some (some b)=>(b=want→aZ env (⟨d,op,none,[]⟩ :: is) (s.ap (some t) (gy (.bool want)) .no) K)∧(b=!want→aZ env is ((s.ap (some t) (gy (.bool !want)) .no).ap d skp .no) K)
theorem qJ {op:PO} {t:Nat} {want:Bool}:rG env K is s d op t want (some none)=aZ env is (s.ap d skp .no) K:=bJ rfl
theorem jl {op:PO} {t:Nat} {want b:Bool}:rG env K is s d op t want (some (some b))=((b=want→aZ env (⟨d,op,none,[]⟩ :: is) (s.ap (some t) (gy (.bool want)) .no) K)∧(b=!want→aZ env is ((s.ap (some t) (gy (.bool !want)) .no).ap d skp .no) K)):=bJ rfl
theorem uN {t:Nat} {b:Bool} (h:s.gd t=some (some b)):s.boo (.t t)=some b:=by
 unfold St.gd at h;split at h
 ·cases h
 ·rw [Option.map_eq_some_iff] at h;obtain ⟨c,hc,h⟩:=h;cases h;exact hc
theorem G9 {b want:Bool}:(some b≠some want)↔b=!want:=by cases b <;> cases want <;> simp
theorem lM {t:Nat} {b:Bool} (h:s.boo (.t t)=some b):s.ap (some t) (gy (.bool b)) .no=s:=by
 have h1:s.sl t=gy (.bool b):=by
  unfold St.boo at h;split at h
  ·rename_i c hc;cases h;exact hc
  ·cases h
 have h2:up s.sl t (gy (.bool b))=s.sl:=by
  funext x
  rw [ay];split
  ·rename_i hx;rw [hx,h1]
  ·rfl
 show (⟨up s.sl t (gy (.bool b)),s.gen,s.ob,s.nc⟩:St)=s
 rw [h2]
theorem Bc:aZ env [] s K=K s:=bJ rfl
theorem Em {op:PO} (h:op.bn=false):aZ env (⟨d,op,none,af⟩ :: is) s K=vG env K is s d (op.fn s (d.getD 0)):=by
 change PO.go env s (d.getD 0) (fun v ch=>aZ env is (s.ap d v ch) K) op=_
 rw [PO.Ah h];rfl
def JU (env:Env) (K:St→Prop) (is:List PI) (s:St) (d:Option Nat) (f:Nat) (xs:List PX):Option Unit→Prop
 | some _=>uE env K is s d f xs (s.recv xs) (s.fO xs)
 | none=>False
theorem Dz {f:Nat} {xs:List PX} {u:Unit}:JU env K is s d f xs (some u)=uE env K is s d f xs (s.recv xs) (s.fO xs):=bJ rfl
def R6 (env:Env) (K:St→Prop) (is:List PI) (s:St) (d:Option Nat):Option Value→Prop
 | some v=>aZ env is (s.ap d (gy v) .no) K
 | none=>False
theorem Jj {v:Value}:R6 env K is s d (some v)=aZ env is (s.ap d (gy v) .no) K:=bJ rfl
theorem LG {f:Nat}:uW f (some (.func (.func f) #[] #[]))=some ():=P8
theorem TB {g k:Nat}:gAt env (some (.pointer (some ⟨g,k,none⟩)))=env.t g k:=bJ rfl
def yG (env:Env) (K:St→Prop) (is:List PI) (s:St) (d:Option Nat) (c:Nat) (k:HA):Prop:=tY s c (fun v ch=>aZ env is (s.ap d v ch) K) k
theorem rM {c:Nat} {z:List Value} (b:Nat) (h:s.lay c b) (k:aZ env is (s.ap d (.b (.one (.hv (.p b 0)))) (.hw (HBS+c) [(b,.cells (z.map fun v=>.d (.sc v)))])) K):yG env K is s d c (.new z):=⟨b,h,k⟩
theorem rJ {c:Nat} {x:PX} {cs:List Cl} {hs:List Hc} (b:Nat) (h:s.lay c b) (h1:s.cs x=some cs) (h2:hcs cs=some hs) (k:aZ env is (s.ap d (.b (.one (.hv (.p b 0)))) (.hw (HBS+c) [(b,.cells hs)])) K):yG env K is s d c (.box x) :=
 aj.2 ⟨hs,by rw [h1];exact h2,b,h,k⟩
theorem Cm {c t:Nat} (b:Nat) (h:s.lay c b) (h1:Maps.Keyed Try.prog t) (k:aZ env is (s.ap d (.b (.one (.hv (.m b)))) (.hw (HBS+c) [(b,.map t [] 0)])) K):yG env K is s d c (.map t):=⟨h1,b,h,k⟩
theorem I7 {c t:Nat} {x:PX} (l:Int) (b:Nat) (h:s.lay c b) (h2:s.int x=some l) (h1:Maps.Keyed Try.prog t) (k:aZ env is (s.ap d (.b (.one (.hv (.m b)))) (.hw (HBS+c) [(b,.map t [] 0)])) K):yG env K is s d c (.mapn t x):=aj.2 ⟨l,h2,h1,b,h,k⟩
theorem EU {c t clock bm:Nat} {es:List (Value×Nat×Hw)} {m:PX} (b:Nat) (h:s.lay c b) (h1:s.cl m=.hv (.m bm)) (h2:s.hb bm=.map t es clock) (k:aZ env is (s.ap d (.b (.one (.hv (.p b 0)))) (.hw (HBS+c) [(b,.iter bm clock [] clock)])) K):yG env K is s d c (.range m) :=
 aj.2 ⟨bm,by rw [h1];rfl,aj.2 ⟨clock,by rw [h2];rfl,b,h,k⟩⟩
theorem lV {y:PX} {news:List (List Dt)} (h:(s.cl y).rows=some news):s.jO y=some news:=by
 unfold St.jO Ar;split
 ·rename_i b he;rw [he] at h;cases h
 ·exact h
theorem QS {y:PX} {b E sz:Nat} {rows:List (List Dt)} (h:s.cl y=.hv (.v b)) (h2:s.hb b=.vec E sz rows):s.jO y=some rows:=by
 unfold St.jO Ar;rw [h];dsimp only;rw [h2]
theorem ET {c E sz bytes:Nat} {x y:PX} {news:List (List Dt)} (b:Nat) (h:s.lay c b) (h1:s.cl x=.d (.sc (.slice none 0 0))) (h2:s.jO y=some news) (h3:(∀ r ∈ news,r.length=sz)∧news.length≤1000000∧bytes≤1000000) (k:aZ env is (s.ap d (.b (.one (.hv (.v b)))) (.hw (HBS+c) [(b,.vec E sz news)])) K):yG env K is s d c (.app E sz bytes x y) :=
 aj.2 ⟨news,h2,by rw [h1];exact ⟨h3,b,h,k⟩⟩
theorem I5 {c E sz bytes a:Nat} {x y:PX} {rows news:List (List Dt)} (b:Nat) (h:s.lay (s.nc a) b) (h1:s.cl x=.hv (.v a)) (h0:s.hb a=.vec E sz rows) (h2:s.jO y=some news) (h3:(∀ r ∈ news,r.length=sz)∧rows.length+news.length≤1000000∧bytes≤1000000) (k:aZ env is (s.ap d (.b (.one (.hv (.v b)))) (.hw (HBS+s.nc a) [(a,.dead),(b,.vec E sz (rows ++ news))])) K):yG env K is s d c (.app E sz bytes x y) :=
 aj.2 ⟨news,h2,by rw [h1];exact aj.2 ⟨(E,sz,rows),by rw [h0];rfl,⟨rfl,rfl,h3⟩,b,h,k⟩⟩
theorem MF {c E sz ln:Nat} {z:List Value} {ps:List (Nat×Nat×PX)} {rs:List (Nat×List Cl)} {cs:List Cl} {xs:List Dt} (b:Nat) (h:s.lay c b) (h1:s.parts ps=some rs) (h2:eB (z.map fun v=>.d (.sc v)) rs=some cs) (h3:aD (cs.map Cl.dt)=some xs) (k:aZ env is (s.ap d (.b (.one (.hv (.v b)))) (.hw (HBS+c) [(b,.vec E sz (chunks ln sz xs))])) K):yG env K is s d c (.lit E sz z ln ps) :=
 aj.2 ⟨xs,by rw [h1];show (eB _ rs).bind _=_;rw [h2];exact h3,b,h,k⟩
theorem I8 {c sz a E:Nat} {x lo:PX} {rows:List (List Dt)} (l:Nat) (h1:s.cl x=.hv (.v a)) (h0:s.hb a=.vec E sz rows) (h2:s.int lo=some (l:Int)) (h3:l < rows.length) (k:∀ cap,rows.length - l≤cap→cap≤maxLen→aZ env is (s.ap d (.b (.one (.hv (.s a (l * sz) (rows.length - l) cap)))) .no) K):yG env K is s d c (.view sz x lo) :=
 aj.2 ⟨a,by rw [h1];rfl,aj.2 ⟨(E,sz,rows),by rw [h0];rfl,aj.2 ⟨(l:Int),h2,⟨rfl,by omega,by show (l:Int) < (rows.length:Int);omega⟩,by simpa using k⟩⟩⟩
def OV (env:Env) (K:St→Prop) (is:List PI) (s:St) (d:Option Nat) (x:Cl):Prop:=J3 s x (fun v ch=>aZ env is (s.ap d v ch) K)
theorem Bz {r b since c0 t clock:Nat} {seen:List Nat} {es:List (Value×Nat×Hw)} (h1:s.hb r=.iter b since seen c0) (h2:s.hb b=.map t es clock) (h3:(∀ e ∈ es,e.2.1 < since)∧since≤c0∧since≤clock)
 (h4:(∀ e ∈ es,seen.contains e.2.1=true)→aZ env is (s.ap d (.tup [bvB false]) .no) K)
 (h5:∀ e ∈ es,seen.contains e.2.1=false→aZ env is (s.ap d (.tup [bvB true,uH e.1,e.2.2.bv]) (.hw (HBS+s.nc r) [(r,.iter b since (seen ++ [e.2.1]) clock)])) K):OV env K is s d (.hv (.p r 0)) :=
 aj.2 ⟨(b,since,seen,c0),by rw [h1];rfl,aj.2 ⟨(es,clock),by rw [h2];rfl,h3,h4,h5⟩⟩
def zZ (env:Env) (K:St→Prop) (is:List PI) (s:St) (d:Option Nat) (f:Nat) (oa:Option (List Hw)):Prop:=aS oa fun az=>qR env s (fun v ch=>aZ env is (s.ap d v ch) K) f az
theorem bK {f:Nat} {az:List Hw} (hp':Nat→Hb) (rs:List Hw) (h:env.h f s.hb az hp' rs) (k:aZ env is (s.ap d (zN rs) (.hall hp')) K):zZ env K is s d f (some az):=⟨hp',rs,h,.inl k⟩
def FU (env:Env) (K:St→Prop) (is:List PI) (s:St) (d:Option Nat) (f:Nat) (oa:Option (List Hw)):Prop:=aS oa fun az=>Aa env s (fun v ch=>aZ env is (s.ap d v ch) K) f az
theorem bL {f:Nat} {az:List Hw} (Post:(Nat→Hb)→List Hw→Prop) (h:env.p f s.hb az Post) (k:∀ hp' rs,Post hp' rs→aZ env is (s.ap d (zN rs) (.hall hp')) K):FU env K is s d f (some az):=⟨Post,h,k⟩
def FT (env:Env) (K:St→Prop) (is:List PI) (s:St) (d:Option Nat) (f:Nat) (of:Option (List (Nat×Nat)×List (Nat×Nat))) (oa:Option (List Hw)):Prop:=aS of fun p=>aS oa fun az=>qR env s (fun v ch=>aZ env is (s.ap d v ch) K) f (tZ p.1 ++ az ++ tZ p.2)
theorem AO {f:Nat} {az:List Hw} {a c:List (Nat×Nat)}:FT env K is s d f (some (a,c)) (some az)=zZ env K is s d f (some (tZ a ++ az ++ tZ c)):=bJ rfl
theorem IG {f:Nat} {a c:List (Nat×Nat)}:Gz f (.hv (.f f a c))=some (a,c):=by simp [Gz]
theorem MH:tZ []=[]:=bJ rfl
theorem Jb {p:Nat×Nat} {l:List (Nat×Nat)}:tZ (p :: l)=.one (.h (.p p.1 p.2)) :: tZ l:=bJ rfl
theorem Qc:s.hws []=some []:=bJ rfl
theorem MI {x:PX} {xs:List PX}:s.hws (x :: xs)=(match s.hw x with | some p=>(s.hws xs).map (p :: ·) | none=>none):=by
 unfold St.hws;simp only [List.map_cons];cases s.hw x <;> rfl
theorem TM {x:PX}:s.hw x=(s.ev x).hw:=bJ rfl
def opS (env:Env) (K:St→Prop) (is:List PI) (s:St) (d:Option Nat) (b:Bool) (op:PO):Prop:=match b with
 | true=>(match op with | .call f xs=>uE env K is s d f xs (s.recv xs) (s.fO xs) | .callv x f xs=>JU env K is s d f xs (uW f (s.val x)) | .ldg x=>R6 env K is s d (gAt env (s.val x)) | .hal c k=>yG env K is s d c k | .next x=>OV env K is s d (s.cl x) | .callh f xs=>zZ env K is s d f (s.hws xs) | .callp f xs=>FU env K is s d f (s.hws xs) | .callc x f xs=>FT env K is s d f (Gz f (s.cl x)) (s.hws xs) | _=>False)
 | false=>vG env K is s d (op.fn s (d.getD 0))
theorem yR {op:PO}:opS env K is s d false op=vG env K is s d (op.fn s (d.getD 0)):=bJ rfl
theorem MZ {f:Nat} {xs:List PX}:opS env K is s d true (.call f xs)=uE env K is s d f xs (s.recv xs) (s.fO xs):=bJ rfl
theorem Ju {x:PX} {f:Nat} {xs:List PX}:opS env K is s d true (.callv x f xs)=JU env K is s d f xs (uW f (s.val x)):=bJ rfl
theorem QB {x:PX}:opS env K is s d true (.ldg x)=R6 env K is s d (gAt env (s.val x)):=bJ rfl
theorem QA {c:Nat} {k:HA}:opS env K is s d true (.hal c k)=yG env K is s d c k:=bJ rfl
theorem MX {x:PX}:opS env K is s d true (.next x)=OV env K is s d (s.cl x):=bJ rfl
theorem Js {f:Nat} {xs:List PX}:opS env K is s d true (.callh f xs)=zZ env K is s d f (s.hws xs):=bJ rfl
theorem Jt {f:Nat} {xs:List PX}:opS env K is s d true (.callp f xs)=FU env K is s d f (s.hws xs):=bJ rfl
theorem Jr {x:PX} {f:Nat} {xs:List PX}:opS env K is s d true (.callc x f xs)=FT env K is s d f (Gz f (s.cl x)) (s.hws xs):=bJ rfl
theorem Et {op:PO}:aZ env (⟨d,op,none,af⟩ :: is) s K=opS env K is s d op.bn op:=by
 cases hc:op.bn with
 | true =>
   cases op <;> first
    | (cases hc;done)
    | (rename_i f xs
       show jB env s (d.getD 0) (fun v ch=>aZ env is (s.ap d v ch) K) f xs (s.recv xs) (s.fO xs)=uE env K is s d f xs (s.recv xs) (s.fO xs)
       cases s.recv xs <;> cases s.fO xs <;> rfl)
    | (rename_i x f xs
       show aS (uW f (s.val x)) (fun _=>jB env s (d.getD 0) (fun v ch=>aZ env is (s.ap d v ch) K) f xs (s.recv xs) (s.fO xs))=JU env K is s d f xs (uW f (s.val x))
       cases uW f (s.val x) with
       | none=>rfl
       | some _ =>
         show jB env s (d.getD 0) (fun v ch=>aZ env is (s.ap d v ch) K) f xs (s.recv xs) (s.fO xs)=uE env K is s d f xs (s.recv xs) (s.fO xs)
         cases s.recv xs <;> cases s.fO xs <;> rfl)
    | (rename_i x
       show aS (gAt env (s.val x)) (fun v=>aZ env is (s.ap d (gy v) .no) K)=R6 env K is s d (gAt env (s.val x))
       cases gAt env (s.val x) <;> rfl)
    | rfl
 | false=>rw [yR,Em hc]
theorem jh {op:PO} {t:Nat} {want:Bool}:aZ env (⟨d,op,some (t,want),af⟩ :: is) s K=rG env K is s d op t want (s.gd t):=by
 change aS (s.gd t) _=rG env K is s d op t want (s.gd t)
 cases h:s.gd t with
 | none=>rfl
 | some b =>
   cases b with
   | none=>exact propext ⟨fun k=>k.2 (by simp),fun k=>⟨fun e=>(by simp at e),fun _=>k⟩⟩
   | some b =>
     have hb:=lM (uN h);rw [jl]
     show ((some b=some want→_)∧(some b≠some want→_))=_
     rw [G9,Option.some.injEq]
     congr 1
     ·apply propext
      refine forall_congr' fun he=>?_
      subst he;rw [hb];rfl
     ·apply propext
      refine forall_congr' fun he=>?_
      rw [←he,hb]
theorem Es {op:PO} {t:Nat} {want:Bool} (h:s.gd t=some (some want)):aZ env (⟨d,op,some (t,want),af⟩ :: is) s K=aZ env (⟨d,op,none,[]⟩ :: is) s K:=by
 rw [jh,h,jl,lM (uN h)];exact propext ⟨fun k=>k.1 rfl,fun k=>⟨fun _=>k,fun e=>absurd e (by cases want <;> decide)⟩⟩
theorem Eo {op:PO} {t:Nat} {want:Bool} (h:s.gd t=some (some (!want))):aZ env (⟨d,op,some (t,want),af⟩ :: is) s K=aZ env is (s.ap d skp .no) K:=by
 rw [jh,h,jl,lM (uN h)];exact propext ⟨fun k=>k.2 rfl,fun k=>⟨fun e=>absurd e (by cases want <;> decide),fun _=>k⟩⟩
theorem Ep {op:PO} {t:Nat} {want:Bool} (h:s.gd t=some none):aZ env (⟨d,op,some (t,want),af⟩ :: is) s K=aZ env is (s.ap d skp .no) K:=by
 rw [jh,h,qJ]
abbrev Ft:=List (List Rg×List Rg)
variable {KD:St→Ft→Prop} {acc:Ft}
def JW (env:Env) (K:St→Ft→Prop) (is:List PI) (s:St) (d:Option Nat) (acc:Ft) (rd:List Rg) (o:Option (Av×Cg)):Prop:=aS o fun p=>dw env is (s.ap d p.1 p.2) ((rd,p.2.wrs) :: acc) K
theorem DU {v:Av} {ch:Cg} {rd:List Rg}:JW env KD is s d acc rd (some (v,ch))=dw env is (s.ap d v ch) ((rd,ch.wrs) :: acc) KD:=bJ rfl
def OM (env:Env) (K:St→Ft→Prop) (is:List PI) (s:St) (d:Option Nat) (acc:Ft) (f:Nat) (o:Option (List Pa)):Prop:=aS o fun ps =>
 (∃ rs,env.d f ps rs∧dw env is (s.ap d (kC rs) .no) (([(d.getD 0,big - 1,1)],[]) :: acc) K)∨(∃ H rs,env.a f none ps H rs∧dw env is (s.ap d (Am (d.getD 0) (s.gen (d.getD 0)+1) rs) (.new (d.getD 0) (.ab H))) (([(d.getD 0,big - 1,1)],[(d.getD 0,0,big)]) :: acc) K)∨(∃ E sz rows,env.f f ps E sz rows∧dw env is (s.ap d (.b (.one (.own (d.getD 0) (s.gen (d.getD 0)+1) rows))) (.new (d.getD 0) (.row E sz rows.length))) (([(d.getD 0,big - 1,1)],[(d.getD 0,0,big)]) :: acc) K)
theorem fP {f:Nat} {ps:List Pa} (rs:List Pa) (h:env.d f ps rs) (k:dw env is (s.ap d (kC rs) .no) (([(d.getD 0,big - 1,1)],[]) :: acc) KD):OM env KD is s d acc f (some ps):=.inl ⟨rs,h,k⟩
def Si (env:Env) (K:St→Ft→Prop) (is:List PI) (s:St) (d:Option Nat) (acc:Ft) (f o:Nat) (oh:Option HP) (oa:Option (List Pa)):Prop:=aS oa fun ps=>aS oh fun H =>
 (∃ H' rs,env.a f (some H) ps H' rs∧dw env is (s.ap d (kC rs) (.ab o H')) (([(o,0,big),(d.getD 0,big - 1,1)],[(o,0,big)]) :: acc) K) ∨
 (∃ H2,ps=[]∧env.c f H H2∧dw env is (s.ap d (.b (.one (.ab (d.getD 0) (s.gen (d.getD 0)+1)))) (.new (d.getD 0) (.ab H2))) (([(o,0,big),(d.getD 0,big - 1,1)],[(d.getD 0,0,big)]) :: acc) K)
def UY (env:Env) (K:St→Ft→Prop) (is:List PI) (s:St) (d:Option Nat) (acc:Ft) (f o:Nat) (od:Option (List Dt)) (oa:Option (List Pa)):Prop:=aS oa fun ps=>aS od fun ds=>∃ ds' rs,env.m f ds ps ds' rs∧ds'.length=ds.length∧dw env is (s.ap d (kC rs) (.wr o 0 (ds'.map .d))) (([(o,0,big),(d.getD 0,big - 1,1)],[(o,0,(ds'.map Cl.d).length)]) :: acc) K
theorem E8 {f o:Nat} {ds:List Dt} {ps:List Pa} (ds':List Dt) (rs:List Pa) (h:env.m f ds ps ds' rs) (hl:ds'.length=ds.length) (k:dw env is (s.ap d (kC rs) (.wr o 0 (ds'.map .d))) (([(o,0,big),(d.getD 0,big - 1,1)],[(o,0,(ds'.map Cl.d).length)]) :: acc) KD):UY env KD is s d acc f o (some ds) (some ps):=⟨ds',rs,h,hl,k⟩
def ny (env:Env) (K:St→Ft→Prop) (is:List PI) (s:St) (d:Option Nat) (acc:Ft) (f:Nat) (xs:List PX):Option (Nat×Nat)→Option (Nat×Nat)→Prop
 | some (o,g),_=>Si env K is s d acc f o (s.zy o g) (s.args xs.tail)
 | none,some (o,g)=>UY env K is s d acc f o (s.fQ o g) (s.args xs.tail)
 | none,none=>OM env K is s d acc f (s.args xs)
theorem AP {f:Nat} {xs:List PX}:ny env KD is s d acc f xs none none=OM env KD is s d acc f (s.args xs):=bJ rfl
theorem Dw {f o g:Nat} {xs:List PX}:ny env KD is s d acc f xs none (some (o,g))=UY env KD is s d acc f o (s.fQ o g) (s.args xs.tail):=bJ rfl
theorem AQ {f o g:Nat} {xs:List PX} {p:Option (Nat×Nat)}:ny env KD is s d acc f xs (some (o,g)) p=Si env KD is s d acc f o (s.zy o g) (s.args xs.tail):=bJ rfl
def goD (env:Env) (K:St→Ft→Prop) (is:List PI) (s:St) (d:Option Nat) (acc:Ft) (op:PO):Prop:=op.go env s (d.getD 0) fun v ch=>dw env is (s.ap d v ch) ((op.rd s (d.getD 0),ch.wrs) :: acc) K
def Ai (env:Env) (K:St→Ft→Prop) (is:List PI) (s:St) (d:Option Nat) (acc:Ft) (op:PO) (t:Nat) (want:Bool):Option (Option Bool)→Prop
 | none=>False
 | some none=>dw env is (s.ap d skp .no) ((op.rd s (d.getD 0),[]) :: acc) K
 | some (some b)=>(b=want→goD env K is (s.ap (some t) (gy (.bool want)) .no) d acc op)∧(b=!want→dw env is ((s.ap (some t) (gy (.bool !want)) .no).ap d skp .no) ((op.rd s (d.getD 0),[]) :: acc) K)
theorem vS {op:PO} {t:Nat} {want:Bool}:Ai env KD is s d acc op t want (some none)=dw env is (s.ap d skp .no) ((op.rd s (d.getD 0),[]) :: acc) KD:=bJ rfl
theorem kS {op:PO} {t:Nat} {want b:Bool}:Ai env KD is s d acc op t want (some (some b))=((b=want→goD env KD is (s.ap (some t) (gy (.bool want)) .no) d acc op)∧(b=!want→dw env is ((s.ap (some t) (gy (.bool !want)) .no).ap d skp .no) ((op.rd s (d.getD 0),[]) :: acc) KD)):=bJ rfl
theorem Iq:dw env [] s acc KD=KD s acc.reverse:=bJ rfl
theorem TD {op:PO} (h:op.bn=false):goD env KD is s d acc op=JW env KD is s d acc (op.rd s (d.getD 0)) (op.fn s (d.getD 0)):=by
 unfold goD;rw [PO.Ah h];rfl
def Ac (env:Env) (K:St→Ft→Prop) (is:List PI) (s:St) (d:Option Nat) (acc:Ft) (f:Nat) (xs:List PX):Option Unit→Prop
 | some _=>ny env K is s d acc f xs (s.recv xs) (s.fO xs)
 | none=>False
theorem AR {f:Nat} {xs:List PX} {u:Unit}:Ac env KD is s d acc f xs (some u)=ny env KD is s d acc f xs (s.recv xs) (s.fO xs):=bJ rfl
def J2 (env:Env) (K:St→Ft→Prop) (is:List PI) (s:St) (d:Option Nat) (acc:Ft):Option Value→Prop
 | some v=>dw env is (s.ap d (gy v) .no) (([],[]) :: acc) K
 | none=>False
theorem EZ {v:Value}:J2 env KD is s d acc (some v)=dw env is (s.ap d (gy v) .no) (([],[]) :: acc) KD:=bJ rfl
def Ot (env:Env) (K:St→Ft→Prop) (is:List PI) (s:St) (d:Option Nat) (acc:Ft) (c:Nat) (rd:List Rg) (k:HA):Prop:=tY s c (fun v ch=>dw env is (s.ap d v ch) ((rd,ch.wrs) :: acc) K) k
theorem ES {c E sz bytes:Nat} {rd:List Rg} {x y:PX} {news:List (List Dt)} (b:Nat) (h:s.lay c b) (h1:s.cl x=.d (.sc (.slice none 0 0))) (h2:s.jO y=some news) (h3:(∀ r ∈ news,r.length=sz)∧news.length≤1000000∧bytes≤1000000) (k:dw env is (s.ap d (.b (.one (.hv (.v b)))) (.hw (HBS+c) [(b,.vec E sz news)])) ((rd,[(HBS+c,0,big)]) :: acc) KD):Ot env KD is s d acc c rd (.app E sz bytes x y) :=
 aj.2 ⟨news,h2,by rw [h1];exact ⟨h3,b,h,k⟩⟩
theorem w9 {c E sz bytes a:Nat} {rd:List Rg} {x y:PX} {rows news:List (List Dt)} (b:Nat) (h:s.lay (s.nc a) b) (h1:s.cl x=.hv (.v a)) (h0:s.hb a=.vec E sz rows) (h2:(s.cl y).rows=some news) (h3:(∀ r ∈ news,r.length=sz)∧rows.length+news.length≤1000000∧bytes≤1000000) (k:dw env is (s.ap d (.b (.one (.hv (.v b)))) (.hw (HBS+s.nc a) [(a,.dead),(b,.vec E sz (rows ++ news))])) ((rd,[(HBS+s.nc a,0,big)]) :: acc) KD):Ot env KD is s d acc c rd (.app E sz bytes x y) :=
 aj.2 ⟨news,lV h2,by rw [h1];exact aj.2 ⟨(E,sz,rows),by rw [h0];rfl,⟨rfl,rfl,h3⟩,b,h,k⟩⟩
theorem oM {c E sz bytes a:Nat} {rd:List Rg} {x y:PX} {rows news:List (List Dt)} (b:Nat) (h:s.lay (s.nc a) b) (h1:s.cl x=.hv (.v a)) (h0:s.hb a=.vec E sz rows) (h2:s.jO y=some news) (h3:(∀ r ∈ news,r.length=sz)∧rows.length+news.length≤1000000∧bytes≤1000000) (k:dw env is (s.ap d (.b (.one (.hv (.v b)))) (.hw (HBS+s.nc a) [(a,.dead),(b,.vec E sz (rows ++ news))])) ((rd,[(HBS+s.nc a,0,big)]) :: acc) KD):Ot env KD is s d acc c rd (.app E sz bytes x y) :=
 aj.2 ⟨news,h2,by rw [h1];exact aj.2 ⟨(E,sz,rows),by rw [h0];rfl,⟨rfl,rfl,h3⟩,b,h,k⟩⟩
def xH (env:Env) (K:St→Ft→Prop) (is:List PI) (s:St) (d:Option Nat) (acc:Ft) (f:Nat) (oa:Option (List Hw)):Prop:=aS oa fun az=>qR env s (fun v ch=>dw env is (s.ap d v ch) (([(gZ,0,big)],ch.wrs) :: acc) K) f az
theorem lY {f:Nat} {az:List Hw} (hp':Nat→Hb) (rs:List Hw) (h:env.h f s.hb az hp' rs) (k:dw env is (s.ap d (zN rs) (.hall hp')) (([(gZ,0,big)],[(gZ,0,big)]) :: acc) KD):xH env KD is s d acc f (some az):=⟨hp',rs,h,.inl k⟩
theorem tQ {f:Nat} {az:List Hw} (rs:List Hw) (h:env.h f s.hb az s.hb rs) (ha:∀ c,zJ (s.ob (HBS+c))=true) (k:dw env is (s.ap d (zN rs) .no) (([(gZ,0,big)],[]) :: acc) KD):xH env KD is s d acc f (some az):=⟨s.hb,rs,h,.inr ⟨rfl,ha,k⟩⟩
def SY (env:Env) (K:St→Ft→Prop) (is:List PI) (s:St) (d:Option Nat) (acc:Ft) (f:Nat) (oa:Option (List Hw)):Prop:=aS oa fun az=>Aa env s (fun v ch=>dw env is (s.ap d v ch) (([],ch.wrs) :: acc) K) f az
def FQ (env:Env) (K:St→Ft→Prop) (is:List PI) (s:St) (d:Option Nat) (acc:Ft) (f:Nat) (of:Option (List (Nat×Nat)×List (Nat×Nat))) (oa:Option (List Hw)):Prop:=aS of fun p=>aS oa fun az=>qR env s (fun v ch=>dw env is (s.ap d v ch) (([(gZ,0,big)],ch.wrs) :: acc) K) f (tZ p.1 ++ az ++ tZ p.2)
theorem AL {f:Nat} {az:List Hw} {a c:List (Nat×Nat)}:FQ env KD is s d acc f (some (a,c)) (some az)=xH env KD is s d acc f (some (tZ a ++ az ++ tZ c)):=bJ rfl
def Vk (env:Env) (K:St→Ft→Prop) (is:List PI) (s:St) (d:Option Nat) (acc:Ft) (x:Cl):Prop:=J3 s x (fun v ch=>dw env is (s.ap d v ch) (([],ch.wrs) :: acc) K)
def opD (env:Env) (K:St→Ft→Prop) (is:List PI) (s:St) (d:Option Nat) (acc:Ft) (b:Bool) (op:PO):Prop:=match b with
 | true=>(match op with | .call f xs=>ny env K is s d acc f xs (s.recv xs) (s.fO xs) | .callv x f xs=>Ac env K is s d acc f xs (uW f (s.val x)) | .ldg x=>J2 env K is s d acc (gAt env (s.val x)) | .hal c k=>Ot env K is s d acc c ((PO.hal c k).rd s (d.getD 0)) k | .next x=>Vk env K is s d acc (s.cl x) | .callh f xs=>xH env K is s d acc f (s.hws xs) | .callp f xs=>SY env K is s d acc f (s.hws xs) | .callc x f xs=>FQ env K is s d acc f (Gz f (s.cl x)) (s.hws xs) | _=>False)
 | false=>JW env K is s d acc (op.rd s (d.getD 0)) (op.fn s (d.getD 0))
theorem yQ {op:PO}:opD env KD is s d acc false op=JW env KD is s d acc (op.rd s (d.getD 0)) (op.fn s (d.getD 0)):=bJ rfl
theorem MW {f:Nat} {xs:List PX}:opD env KD is s d acc true (.call f xs)=ny env KD is s d acc f xs (s.recv xs) (s.fO xs):=bJ rfl
theorem Jq {x:PX} {f:Nat} {xs:List PX}:opD env KD is s d acc true (.callv x f xs)=Ac env KD is s d acc f xs (uW f (s.val x)):=bJ rfl
theorem Qz {x:PX}:opD env KD is s d acc true (.ldg x)=J2 env KD is s d acc (gAt env (s.val x)):=bJ rfl
theorem Qy {c:Nat} {k:HA}:opD env KD is s d acc true (.hal c k)=Ot env KD is s d acc c ((PO.hal c k).rd s (d.getD 0)) k:=bJ rfl
theorem Jp {f:Nat} {xs:List PX}:opD env KD is s d acc true (.callh f xs)=xH env KD is s d acc f (s.hws xs):=bJ rfl
theorem Jo {x:PX} {f:Nat} {xs:List PX}:opD env KD is s d acc true (.callc x f xs)=FQ env KD is s d acc f (Gz f (s.cl x)) (s.hws xs):=bJ rfl
theorem TF {op:PO}:goD env KD is s d acc op=opD env KD is s d acc op.bn op:=by
 cases hc:op.bn with
 | true =>
   cases op <;> first
    | (cases hc;done)
    | (rename_i f xs
       show jB env s (d.getD 0) (fun v ch=>dw env is (s.ap d v ch) (((PO.call f xs).rd s (d.getD 0),ch.wrs) :: acc) KD) f xs (s.recv xs) (s.fO xs)=ny env KD is s d acc f xs (s.recv xs) (s.fO xs)
       have hrd:(PO.call f xs).rd s (d.getD 0)=match s.recv xs,s.fO xs with | some p,_=>[(p.1,0,big),(d.getD 0,big - 1,1)] | none,some p=>[(p.1,0,big),(d.getD 0,big - 1,1)] | none,none=>[(d.getD 0,big - 1,1)]:=rfl
       rw [hrd];cases s.recv xs <;> cases s.fO xs <;> rfl)
    | (rename_i x f xs
       show aS (uW f (s.val x)) (fun _=>jB env s (d.getD 0) (fun v ch=>dw env is (s.ap d v ch) (((PO.callv x f xs).rd s (d.getD 0),ch.wrs) :: acc) KD) f xs (s.recv xs) (s.fO xs))=Ac env KD is s d acc f xs (uW f (s.val x))
       have hrd:(PO.callv x f xs).rd s (d.getD 0)=match s.recv xs,s.fO xs with | some p,_=>[(p.1,0,big),(d.getD 0,big - 1,1)] | none,some p=>[(p.1,0,big),(d.getD 0,big - 1,1)] | none,none=>[(d.getD 0,big - 1,1)]:=rfl
       rw [hrd]
       cases uW f (s.val x) with
       | none=>rfl
       | some u =>
         show jB env s (d.getD 0) (fun v ch=>dw env is (s.ap d v ch) ((match s.recv xs,s.fO xs with | some p,_=>[(p.1,0,big),(d.getD 0,big - 1,1)] | none,some p=>[(p.1,0,big),(d.getD 0,big - 1,1)] | none,none=>[(d.getD 0,big - 1,1)],ch.wrs) :: acc) KD) f xs (s.recv xs) (s.fO xs)=ny env KD is s d acc f xs (s.recv xs) (s.fO xs)
         cases s.recv xs <;> cases s.fO xs <;> rfl)
    | (rename_i x
       show aS (gAt env (s.val x)) (fun v=>dw env is (s.ap d (gy v) .no) (([],[]) :: acc) KD)=J2 env KD is s d acc (gAt env (s.val x))
       cases gAt env (s.val x) <;> rfl)
    | rfl
 | false=>rw [yQ,TD hc]
theorem Ba {op:PO}:dw env (⟨d,op,none,af⟩ :: is) s acc KD=goD env KD is s d acc op:=bJ rfl
theorem kQ {op:PO} {t:Nat} {want:Bool}:dw env (⟨d,op,some (t,want),af⟩ :: is) s acc KD=Ai env KD is s d acc op t want (s.gd t):=by
 change aS (s.gd t) _=Ai env KD is s d acc op t want (s.gd t)
 cases h:s.gd t with
 | none=>rfl
 | some b =>
   cases b with
   | none=>exact propext ⟨fun k=>k.2 (by simp),fun k=>⟨fun e=>(by simp at e),fun _=>k⟩⟩
   | some b =>
     have hb:=lM (uN h);rw [kS]
     show ((some b=some want→_)∧(some b≠some want→_))=_
     rw [G9,Option.some.injEq]
     congr 1
     ·apply propext
      refine forall_congr' fun he=>?_
      subst he;rw [hb];rfl
     ·apply propext
      refine forall_congr' fun he=>?_
      rw [←he,hb];rfl
theorem Ls {op:PO} {t:Nat} {want:Bool} (h:s.gd t=some (some want)):dw env (⟨d,op,some (t,want),af⟩ :: is) s acc KD=goD env KD is s d acc op:=by
 rw [kQ,h,kS,lM (uN h)];exact propext ⟨fun k=>k.1 rfl,fun k=>⟨fun _=>k,fun e=>absurd e (by cases want <;> decide)⟩⟩
theorem Lp {op:PO} {t:Nat} {want:Bool} (h:s.gd t=some (some (!want))):dw env (⟨d,op,some (t,want),af⟩ :: is) s acc KD=dw env is (s.ap d skp .no) ((op.rd s (d.getD 0),[]) :: acc) KD:=by
 rw [kQ,h,kS,lM (uN h)];exact propext ⟨fun k=>k.2 rfl,fun k=>⟨fun e=>absurd e (by cases want <;> decide),fun _=>k⟩⟩
theorem Lr {op:PO} {t:Nat} {want:Bool} (h:s.gd t=some none):dw env (⟨d,op,some (t,want),af⟩ :: is) s acc KD=dw env is (s.ap d skp .no) ((op.rd s (d.getD 0),[]) :: acc) KD:=by
 rw [kQ,h,vS]
def qA:Nat→List (Nat×List Cl)→Nat→Bool
 | k,[],n=>k == n
 | k,(o,c) :: r,n=>o == k && qA (k+c.length) r n
def EK (z:List Cl) (rs:List (Nat×List Cl)):Option (List Cl):=bif qA 0 rs z.length then some (rs.flatMap (·.2)) else eB z rs
theorem CB:∀ {rs:List (Nat×List Cl)} {k n:Nat},qA k rs n=true→k≤n
 | [],k,n,h=>by unfold qA at h;exact Nat.le_of_eq (eq_of_beq h)
 | (o,c) :: r,k,n,h=>by
   unfold qA at h;rw [Bool.and_eq_true] at h;have:=CB h.2;omega
theorem vU:∀ {rs:List (Nat×List Cl)} {pre suf:List Cl},qA pre.length rs (pre.length+suf.length)=true→eB (pre ++ suf) rs=some (pre ++ rs.flatMap (·.2))
 | [],pre,suf,h=>by
   unfold qA at h;have h1:=eq_of_beq h;have h2:suf=[]:=List.eq_nil_of_length_eq_zero (by omega);subst h2;simp [eB]
 | (o,c) :: r,pre,suf,h=>by
   unfold qA at h;rw [Bool.and_eq_true] at h;obtain ⟨h1,h2⟩:=h;have h1:=eq_of_beq h1;subst h1;have h3:=CB h2;have hc:c.length≤suf.length:=by omega
   have hs:splice (pre ++ suf) pre.length c=(pre ++ c) ++ suf.drop c.length:=by
    unfold splice;rw [List.take_left,List.drop_append,List.drop_of_length_le (by omega),List.nil_append]
    congr 2
    omega
   unfold eB
   rw [if_pos (by rw [List.length_append];omega),hs,vU (pre:=pre ++ c) (suf:=suf.drop c.length) (by
    rw [List.length_append,List.length_drop];have:pre.length+c.length+(suf.length - c.length)=pre.length+suf.length:=by omega
    rw [this];exact h2)]
   simp
theorem BU (z:List Cl) (rs:List (Nat×List Cl)):eB z rs=EK z rs:=by
 unfold EK
 cases h:qA 0 rs z.length with
 | false=>rfl
 | true =>
   have:=vU (pre:=[]) (suf:=z) (by simpa using h)
   simpa using this
theorem LJ {d:Nat} {z:List Value} {ps:List (Nat×Nat×PX)}:PO.fn s d (.build z ps)=(s.parts ps).bind fun ps=>(EK (z.map fun v=>.d (.sc v)) ps).map fun cs=>(.b (.agg cs),.no):=by
 simp only [PO.fn,BU]
theorem II {d E sz ln:Nat} {z:List Value} {ps:List (Nat×Nat×PX)}:PO.fn s d (.bslice E sz z ln ps)=(s.parts ps).bind fun ps=>(EK (z.map fun v=>.d (.sc v)) ps).bind fun cs =>
 (aD (cs.map Cl.dt)).map fun xs=>(.b (.one (.own d (s.gen d+1) (chunks ln sz xs))),.new d (.row E sz ln)):=by
 simp only [PO.fn,BU]
inductive It where
 | c (x:PC)
 | bl (id:Nat)
 | lp (I:Nat→St→Prop) (n:Nat)
 | sc (l:Nat) (r:PC)
 | ng
def exS (env:Env):List It→(Exit→St→Prop)→Exit→St→Prop
 | [],Q,e,s=>Q e s
 | .c b :: k,Q,e,s=>match e with
   | .normal=>pwp env b (exS env k Q) s
   | e=>exS env k Q e s
 | .bl id :: k,Q,e,s=>match e with
   | .exit i=>if i=id then exS env k Q .normal s else exS env k Q (.exit i) s
   | e=>exS env k Q e s
 | .lp I n :: k,Q,e,s=>match e with
   | .normal=>∃ m,m < n∧I m s
   | e=>exS env k Q e s
 | .sc l r :: k,Q,e,s=>match e with
   | .goto l'=>l'=l∧pwp env r (fun e2 s2=>match e2 with | .goto _=>False | e2=>exS env k Q e2 s2) s
   | e=>exS env k Q e s
 | .ng :: k,Q,e,s=>match e with
   | .goto _=>False
   | e=>exS env k Q e s
variable {k:List It} {Q:Exit→St→Prop}
theorem P5 {e:Exit}:exS env [] Q e s=Q e s:=bJ rfl
theorem Ey {b:PC}:exS env (.c b :: k) Q .normal s=pwp env b (exS env k Q) s:=bJ rfl
theorem Iu {b:PC}:exS env (.c b :: k) Q .ret s=exS env k Q .ret s:=bJ rfl
theorem Ez {b:PC} {i:Nat}:exS env (.c b :: k) Q (.exit i) s=exS env k Q (.exit i) s:=bJ rfl
theorem Tm {id:Nat}:exS env (.bl id :: k) Q .normal s=exS env k Q .normal s:=bJ rfl
theorem Ew {id:Nat}:exS env (.bl id :: k) Q .ret s=exS env k Q .ret s:=bJ rfl
theorem Bd {id i:Nat}:exS env (.bl id :: k) Q (.exit i) s=if i=id then exS env k Q .normal s else exS env k Q (.exit i) s:=bJ rfl
theorem EF {I:Nat→St→Prop} {n:Nat}:exS env (.lp I n :: k) Q .ret s=exS env k Q .ret s:=bJ rfl
theorem Bg {I:Nat→St→Prop} {n i:Nat}:exS env (.lp I n :: k) Q (.exit i) s=exS env k Q (.exit i) s:=bJ rfl
theorem EC {b:PC} {i:Nat}:exS env (.c b :: k) Q (.goto i) s=exS env k Q (.goto i) s:=bJ rfl
theorem Bf {id i:Nat}:exS env (.bl id :: k) Q (.goto i) s=exS env k Q (.goto i) s:=bJ rfl
theorem Bh {I:Nat→St→Prop} {n i:Nat}:exS env (.lp I n :: k) Q (.goto i) s=exS env k Q (.goto i) s:=bJ rfl
theorem Tq {l:Nat} {r:PC}:exS env (.sc l r :: k) Q .normal s=exS env k Q .normal s:=bJ rfl
theorem EI {l:Nat} {r:PC}:exS env (.sc l r :: k) Q .ret s=exS env k Q .ret s:=bJ rfl
theorem Bl {l i:Nat} {r:PC}:exS env (.sc l r :: k) Q (.exit i) s=exS env k Q (.exit i) s:=bJ rfl
theorem Tn:exS env (.ng :: k) Q .normal s=exS env k Q .normal s:=bJ rfl
theorem EH:exS env (.ng :: k) Q .ret s=exS env k Q .ret s:=bJ rfl
theorem Bj {i:Nat}:exS env (.ng :: k) Q (.exit i) s=exS env k Q (.exit i) s:=bJ rfl
theorem EG:exS env (.ng :: k) Q=fun e2 s2=>match e2 with | .goto _=>False | e2=>exS env k Q e2 s2:=by
 funext e s
 cases e <;> rfl
theorem Bn {l:Nat} {r:PC}:exS env (.sc l r :: k) Q (.goto l) s=pwp env r (exS env (.ng :: k) Q) s:=by
 rw [EG];exact propext ⟨fun h=>h.2,fun h=>⟨rfl,h⟩⟩
theorem aJ {c:PC} (h:pwp env c (exS env [] Q) s):pwp env c Q s:=h
theorem dP {Q':Exit→St→Prop} {c:PC} (sls obs:List Nat) (h:∀ st:St,(∀ x,x ∈ sls→st.sl x=s.sl x)→(∀ o,o ∈ obs→st.gen o=s.gen o∧st.ob o=s.ob o)→pwp env c Q' st):pwp env c Q' s:=h s (fun _ _=>rfl) (fun _ _=>⟨rfl,rfl⟩)
theorem jm {Q':Exit→St→Prop} {c:PC} (P:St→Prop) (hP:P s) (sls obs:List Nat) (h:∀ st:St,P st→(∀ x,x ∈ sls→st.sl x=s.sl x)→(∀ o,o ∈ obs→st.gen o=s.gen o∧st.ob o=s.ob o)→pwp env c Q' st):pwp env c Q' s:=h s hP (fun _ _=>rfl) (fun _ _=>⟨rfl,rfl⟩)
theorem Nh:pwp env .skip (exS env k Q) s=exS env k Q .normal s:=bJ rfl
theorem QG {ops:List PI}:pwp env (.reg false ops) (exS env k Q) s=aZ env ops s (exS env k Q .normal):=bJ rfl
def drawn (ops:List PI) (K:St→Prop) (s:St) (fts:Ft):Prop:=xI ops fts=true∧K s
def Drw (ops:List PI) (fts:Ft):Prop:=xI ops fts=true
theorem Ic {ops:List PI} {K:St→Prop} {fts:Ft}:drawn ops K s fts=(Drw ops fts∧K s):=bJ rfl
theorem Nc {ops:List PI}:pwp env (.reg true ops) (exS env k Q) s=dw env ops s [] (drawn ops (exS env k Q .normal)):=bJ rfl
theorem QI {a b:PC}:pwp env (.seq a b) (exS env k Q) s=pwp env a (exS env (.c b :: k) Q) s:=by
 show pwp env a _ s=_
 congr 1
def RS (env:Env) (a b:PC) (k:List It) (Q:Exit→St→Prop) (s:St) (o:Option Bool):Prop:=aS o fun t=>(t=true→pwp env a (exS env k Q) s)∧(t=false→pwp env b (exS env k Q) s)
theorem DT {a b:PC} {t:Bool}:RS env a b k Q s (some t)=((t=true→pwp env a (exS env k Q) s)∧(t=false→pwp env b (exS env k Q) s)):=bJ rfl
theorem M9 {c:PX} {a b:PC}:pwp env (.cond c a b) (exS env k Q) s=RS env a b k Q s (s.boo c):=bJ rfl
theorem Jw {id:Nat} {c:PC}:pwp env (.block id c) (exS env k Q) s=pwp env c (exS env (.bl id :: k) Q) s:=by
 show pwp env c _ s=_
 congr 1
theorem Na {id:Nat}:pwp env (.exit id) (exS env k Q) s=exS env k Q (.exit id) s:=bJ rfl
theorem Nb {l:Nat}:pwp env (.goto l) (exS env k Q) s=exS env k Q (.goto l) s:=bJ rfl
theorem Jy {l:Nat} {c r:PC}:pwp env (.scope l c r) (exS env k Q) s=pwp env c (exS env (.sc l r :: k) Q) s:=by
 show pwp env c _ s=_
 congr 1
theorem QH:pwp env .ret (exS env k Q) s=exS env k Q .ret s:=bJ rfl
theorem CY {c:PC} (I:Nat→St→Prop) (n:Nat) (h0:I n s) (h:∀ n s,I n s→pwp env c (exS env (.lp I n :: k) Q) s):pwp env (.loop c) (exS env k Q) s:=by
 refine ⟨I,⟨n,h0⟩,fun n s hI=>?_⟩;have:=h n s hI
 have he:exS env (.lp I n :: k) Q=fun e s'=>match e with | .normal=>∃ m,m < n∧I m s' | e=>exS env k Q e s':=by
  funext e s'
  cases e <;> rfl
 rw [he] at this;exact this
theorem U2 {x:Nat} {v:Av} {ch:Cg}:(s.ap (some x) v ch).sl=up s.sl x v:=bJ rfl
theorem SQ {v:Av} {ch:Cg}:(s.ap none v ch).sl=s.sl:=bJ rfl
theorem SH {v:Av}:(s.ap d v .no).gen=s.gen:=bJ rfl
theorem O7 {v:Av} {o off:Nat} {cs:List Cl}:(s.ap d v (.wr o off cs)).gen=s.gen:=bJ rfl
theorem O6 {v:Av} {o m:Nat}:(s.ap d v (.row o m)).gen=s.gen:=bJ rfl
theorem O5 {v:Av} {o:Nat} {x:Ob}:(s.ap d v (.new o x)).gen=up s.gen o (s.gen o+1):=bJ rfl
theorem U1 {v:Av}:(s.ap d v .no).ob=s.ob:=bJ rfl
theorem Om {v:Av} {o off:Nat} {cs:List Cl}:(s.ap d v (.wr o off cs)).ob=up s.ob o (wrF off cs (s.ob o)):=by
 rw [uz];rfl
theorem Ol {v:Av} {o m:Nat}:(s.ap d v (.row o m)).ob=up s.ob o (QO m (s.ob o)):=by
 rw [uz];rfl
theorem SN {v:Av} {o:Nat} {x:Ob}:(s.ap d v (.new o x)).ob=up s.ob o x:=bJ rfl
theorem U0 {v:Av} {ch:Cg}:(s.ap d v ch).nc=s.nc:=bJ rfl
theorem O4 {v:Av} {o:Nat} {l:List (Nat×Hb)}:(s.ap d v (.hw o l)).gen=s.gen:=bJ rfl
theorem O1 {v:Av} {h:Nat→Hb}:(s.ap d v (.hall h)).gen=s.gen:=bJ rfl
theorem SL {v:Av} {c x:Nat} {l:List (Nat×Hb)} (hx:x < 1000000):(s.ap d v (.hw (HBS+c) l)).ob x=s.ob x:=by
 show up s.ob (HBS+c) _ x=_
 rw [ay,if_neg (by unfold HBS;omega)]
theorem SI {v:Av} {x:Nat} {h:Nat→Hb} (hx:x < 1000000):(s.ap d v (.hall h)).ob x=s.ob x:=by
 show (if HBS≤x then _ else _)=_
 rw [if_neg (by unfold HBS;omega)]
theorem Vb {v:Av}:(s.ap d v .no).hb=s.hb:=bJ rfl
theorem hb_new {v:Av} {o:Nat} {x:Ob} (h:o < 1000000):(s.ap d v (.new o x)).hb=s.hb:=by
 funext b
 exact qy (o:=o) (fun p hp=>by show up s.ob o x p=_;rw [ay,if_neg hp]) (.inl (by unfold HBS;exact h)) b
theorem Vd {v:Av} {o off:Nat} {cs:List Cl} (h:o < 1000000):(s.ap d v (.wr o off cs)).hb=s.hb:=by
 funext b
 exact qy (o:=o) (fun p hp=>by rw [Om,ay,if_neg hp]) (.inl (by unfold HBS;exact h)) b
theorem TK {v:Av} {o m:Nat} (h:o < 1000000):(s.ap d v (.row o m)).hb=s.hb:=by
 funext b
 exact qy (o:=o) (fun p hp=>by rw [Ol,ay,if_neg hp]) (.inl (by unfold HBS;exact h)) b
theorem Va {v:Av} {o:Nat} {H:HP} (h:o < 1000000):(s.ap d v (.ab o H)).hb=s.hb:=by
 funext b
 exact qy (o:=o) (fun p hp=>by show up s.ob o (.ab H) p=_;rw [ay,if_neg hp]) (.inl (by unfold HBS;exact h)) b
theorem Hr {f g:Nat→Hb} {b:Nat}:∀ {l:List (Nat×Hb)},f b=g b→upl f l b=upl g l b
 | [],h=>h
 | (c,x) :: l,h=>by
   show upl (up f c x) l b=upl (up g c x) l b
   exact Hr (l:=l) (by rw [ay,ay,h])
theorem Hq {f:Nat→Hb} {b:Nat}:∀ {l:List (Nat×Hb)},(∀ p ∈ l,p.1≠b)→upl f l b=f b
 | [],_=>rfl
 | (c,x) :: l,h=>by
   show upl (up f c x) l b=f b
   rw [Hq (fun p hp=>h p (by simp [hp])),ay,if_neg (Ne.symm (h (c,x) (by simp)))]
theorem nA {v:Av} {c:Nat} {l:List (Nat×Hb)} (h:∀ p ∈ l,s.nc p.1=c):(s.ap d v (.hw (HBS+c) l)).hb=upl s.hb l:=by
 funext b
 show fF (up s.ob (HBS+c) (.hp (upl (fF (s.ob (HBS+c))) l)) (HBS+s.nc b)) b=upl s.hb l b
 rw [ay]
 by_cases hb:s.nc b=c
 ·rw [if_pos (by rw [hb])];exact Hr (show fF (s.ob (HBS+c)) b=fF (s.ob (HBS+s.nc b)) b by rw [hb])
 ·rw [if_neg (by omega),Hq (fun p hp e=>hb (by rw [←e];exact h p hp))]
  rfl
theorem TI {v:Av} {c b:Nat} {x:Hb} (h:s.nc b=c):(s.ap d v (.hw (HBS+c) [(b,x)])).hb=up s.hb b x:=nA (by simpa using h)
theorem TJ {v:Av} {c b b':Nat} {x x':Hb} (h:s.nc b=c) (h':s.nc b'=c):(s.ap d v (.hw (HBS+c) [(b,x),(b',x')])).hb=up (up s.hb b x) b' x':=nA (by simp [h,h'])
theorem TH {v:Av} {h:Nat→Hb}:(s.ap d v (.hall h)).hb=h:=GH
def RI:Cg→Bool
 | .new o _=>decide (o < 1000000)
 | .wr o _ _=>decide (o < 1000000)
 | .row o _=>decide (o < 1000000)
 | .ab o _=>decide (o < 1000000)
 | _=>true
def aG (s:St):Prop:=∀ c,zJ (s.ob (HBS+c))=true
theorem aG.ap {v:Av} {ch:Cg} (h:aG s) (hc:RI ch=true):aG (s.ap d v ch):=fun c=>by
 have hHB:∀ o,decide (o < 1000000)=true→HBS+c≠o:=fun o ho=>by have:=of_decide_eq_true ho;unfold HBS;omega
 rw [uz]
 show zJ (ch.oF s.nc s.ob (HBS+c))=true
 cases ch with
 | no=>exact h c
 | new o x=>simp only [Cg.oF,md,ay,if_neg (hHB o hc)];exact h c
 | wr o off cs=>simp only [Cg.oF,md,ay,if_neg (hHB o hc)];exact h c
 | row o m=>simp only [Cg.oF,md,ay,if_neg (hHB o hc)];exact h c
 | ab o H=>simp only [Cg.oF,md,ay,if_neg (hHB o hc)];exact h c
 | hw o l=>simp only [Cg.oF,md,ay];split;rfl;exact h c
 | hall hp=>simp only [Cg.oF];rw [if_pos (Nat.le_add_right _ _)];rfl
theorem fG {c b:Nat} (h1:s.nc b=c) (h2:aG s) (h3:s.hb b=.no):s.lay c b:=⟨h1,h2 c,h3⟩
theorem aG.init {nc:Nat→Nat} {hp:Nat→Hb} {az:List Hw}:aG (St.fA nc hp az):=fun c=>by
 show zJ (if HBS≤HBS+c then _ else _)=true
 rw [if_pos (Nat.le_add_right _ _)];rfl
def pO:List Hw→Nat→Av
 | [],_=>.un
 | p :: _,0=>.b p.bv
 | _ :: r,n+1=>pO r n
theorem ML (nc:Nat→Nat) (hp:Nat→Hb) (ps:List Hw) (x:Nat):(St.fA nc hp ps).sl x=pO ps x:=by
 show (match ps[x]? with | some p=>Av.b p.bv | none=>.un)=_
 induction ps generalizing x with
 | nil=>simp [pO]
 | cons p r ih =>
   cases x with
   | zero=>rfl
   | succ x=>rw [List.getElem?_cons_succ,ih x];rfl
theorem Jc {nc:Nat→Nat} {hp:Nat→Hb} {ps:List Hw} {x:Nat}:(St.fA nc hp ps).gen x=0:=bJ rfl
theorem MK {nc:Nat→Nat} {hp:Nat→Hb} {ps:List Hw} {x:Nat} (h:x < 1000000):(St.fA nc hp ps).ob x=.no:=by
 show (if HBS≤x then _ else _)=_
 rw [if_neg (by unfold HBS;omega)]
theorem MJ {nc:Nat→Nat} {hp:Nat→Hb} {ps:List Hw}:(St.fA nc hp ps).nc=nc:=bJ rfl
theorem JL {off:Nat} {cs old:List Cl}:wrF off cs (.cells old)=.cells (iP old off cs):=bJ rfl
theorem Nl {m E sz n:Nat}:QO m (.row E sz n)=.row E sz m:=bJ rfl
def qU:List Pa→Nat→Av
 | [],_=>.un
 | p :: _,0=>.b p.bv
 | _ :: r,n+1=>qU r n
theorem GJ (ps:List Pa) (x:Nat):(St.init ps).sl x=qU ps x:=by
 show (match ps[x]? with | some p=>Av.b p.bv | none=>.un)=_
 induction ps generalizing x with
 | nil=>simp [qU]
 | cons p r ih =>
   cases x with
   | zero=>rfl
   | succ x=>rw [List.getElem?_cons_succ,ih x];rfl
theorem Jg {ds:List Dt} {ps:List Pa}:(St.mK ds ps).sl 0=.b (.one (.ptr 0 0 0)):=bJ rfl
theorem Jh {ds:List Dt} {ps:List Pa} {x:Nat}:(St.mK ds ps).sl (x+1)=qU ps x:=(GJ ps x)
theorem Jd {ds:List Dt} {ps:List Pa} {x:Nat}:(St.mK ds ps).gen x=0:=bJ rfl
theorem Je {ds:List Dt} {ps:List Pa}:(St.mK ds ps).ob 0=.cells (ds.map .d):=bJ rfl
theorem Jf {ds:List Dt} {ps:List Pa} {x:Nat}:(St.mK ds ps).ob (x+1)=.no:=bJ rfl
theorem MO {ps:List Pa} {x:Nat}:(St.init ps).gen x=0:=bJ rfl
theorem Qd {ps:List Pa} {x:Nat}:(St.init ps).ob x=.no:=bJ rfl
theorem VP {x:Nat}:s.ev (.t x)=s.sl x:=bJ rfl
theorem Td {k:IntKind} {m:Int}:s.ev (.v (.int k m))=.b (.one (.d (.sc (.int k m)))):=bJ rfl
theorem PW {b:Bool}:s.ev (.v (.bool b))=.b (.one (.d (.sc (.bool b)))):=bJ rfl
theorem Ip {b:ByteArray}:s.ev (.v (.string b))=.b (.one (.d (.sc (.string b)))):=bJ rfl
theorem Tf:s.ev (.v (.slice none 0 0))=.b (.one (.d (.sc (.slice none 0 0)))):=bJ rfl
theorem Tc {l:Array Value}:s.ev (.v (.agg l))=.b (.agg (l.toList.map fun v=>.d (.sc v))):=bJ rfl
theorem Ti:s.ev (.v (.pointer none))=.b (.one (.d (.sc (.pointer none)))):=bJ rfl
theorem Kw:s.args []=some []:=bJ rfl
theorem Hy {x:PX} {xs:List PX}:s.args (x :: xs)=(match (s.ev x).pa with | some p=>(s.args xs).map (p :: ·) | none=>none):=by
 unfold St.args;simp only [List.map_cons];cases (s.ev x).pa <;> rfl
end
def Within (ms os:List Nat) (s0 st:St):Prop:=(∀ x,ms.contains x=false→st.sl x=s0.sl x)∧∀ o,os.contains o=false→st.gen o=s0.gen o∧st.ob o=s0.ob o
def over (ms os:List Nat) (s0 j:St):St:=⟨fun x=>bif ms.contains x then j.sl x else s0.sl x,fun o=>bif os.contains o then j.gen o else s0.gen o,fun o=>bif os.contains o then j.ob o else s0.ob o,j.nc⟩
theorem Within.refl (ms os:List Nat) (s:St):Within ms os s s:=⟨fun _ _=>rfl,fun _ _=>⟨rfl,rfl⟩⟩
theorem Within.over {ms os:List Nat} {s0 st:St} (h:Within ms os s0 st):∃ j,st=over ms os s0 j:=by
 refine ⟨st,?_⟩;obtain ⟨h1,h2⟩:=h
 have e1:st.sl=(Go.Proofs.Ytkafcpnahpfbfaa.over ms os s0 st).sl:=by
  funext x
  show st.sl x=bif ms.contains x then st.sl x else s0.sl x
  cases hx:ms.contains x with
  | true=>rfl
  | false=>exact h1 x hx
 have e2:st.gen=(Go.Proofs.Ytkafcpnahpfbfaa.over ms os s0 st).gen:=by
  funext x
  show st.gen x=bif os.contains x then st.gen x else s0.gen x
  cases hx:os.contains x with
  | true=>rfl
  | false=>exact (h2 x hx).1
 have e3:st.ob=(Go.Proofs.Ytkafcpnahpfbfaa.over ms os s0 st).ob:=by
  funext x
  show st.ob x=bif os.contains x then st.ob x else s0.ob x
  cases hx:os.contains x with
  | true=>rfl
  | false=>exact (h2 x hx).2
 show (⟨st.sl,st.gen,st.ob,st.nc⟩:St)=⟨(Go.Proofs.Ytkafcpnahpfbfaa.over ms os s0 st).sl,(Go.Proofs.Ytkafcpnahpfbfaa.over ms os s0 st).gen,(Go.Proofs.Ytkafcpnahpfbfaa.over ms os s0 st).ob,st.nc⟩
 rw [←e1,←e2,←e3]
theorem GX {ms os:List Nat} {s0 j:St} {x:Nat}:(over ms os s0 j).sl x=bif ms.contains x then j.sl x else s0.sl x:=bJ rfl
theorem CX {ms os:List Nat} {s0 j:St} {x:Nat}:(over ms os s0 j).gen x=bif os.contains x then j.gen x else s0.gen x:=bJ rfl
theorem GV {ms os:List Nat} {s0 j:St} {x:Nat}:(over ms os s0 j).ob x=bif os.contains x then j.ob x else s0.ob x:=bJ rfl
theorem aV {ms os:List Nat} {s0 j:St}:Within ms os s0 (over ms os s0 j)=True:=by
 apply propext
 refine ⟨fun _=>trivial,fun _=>⟨fun x hx=>?_,fun o ho=>⟨?_,?_⟩⟩⟩
 ·rw [GX,hx];rfl
 ·rw [CX,ho];rfl
 ·rw [GV,ho];rfl
def UU (os:List Nat):Cg→Bool
 | .ab o _=>os.contains o
 | .no=>true
 | .new o _=>os.contains o
 | .wr o _ _=>os.contains o
 | .row o _=>os.contains o
 | .hw o _=>os.contains o
 | .hall _=>false
theorem Within.ap {ms os:List Nat} {s0 s:St} {d:Option Nat} {v:Av} {ch:Cg} (h:Within ms os s0 s) (hd:∀ x,d=some x→ms.contains x=true) (hc:UU os ch=true):Within ms os s0 (s.ap d v ch):=by
 obtain ⟨h1,h2⟩:=h;rw [uz];refine ⟨fun x hx=>?_,fun o ho=>?_⟩
 ·cases d with
  | none=>exact h1 x hx
  | some y =>
    show up s.sl y v x=_
    rw [ay,if_neg]
    ·exact h1 x hx
    ·rintro rfl;rw [hd x rfl] at hx;cases hx
 ·have key:∀ y:Nat,os.contains y=true→o≠y:=by
   rintro y hy rfl;rw [hy] at ho;cases ho
  show ch.gF s.gen o=_∧ch.oF s.nc s.ob o=_
  cases ch with
  | no=>exact h2 o ho
  | new y x=>simp only [Cg.gF,Cg.oF,Go.Proofs.Ytkafcpnahpfbfaa.md,ay,if_neg (key y hc)];exact h2 o ho
  | wr y off cs=>simp only [Cg.gF,Cg.oF,Go.Proofs.Ytkafcpnahpfbfaa.md,ay,if_neg (key y hc)];exact h2 o ho
  | row y m=>simp only [Cg.gF,Cg.oF,Go.Proofs.Ytkafcpnahpfbfaa.md,ay,if_neg (key y hc)];exact h2 o ho
  | ab y H=>simp only [Cg.gF,Cg.oF,Go.Proofs.Ytkafcpnahpfbfaa.md,ay,if_neg (key y hc)];exact h2 o ho
  | hw y l=>simp only [Cg.gF,Cg.oF,Go.Proofs.Ytkafcpnahpfbfaa.md,ay,if_neg (key y hc)];exact h2 o ho
  | hall h=>cases hc
theorem bg {ms os:List Nat} {s0 s:St} {x:Nat} {v:Av} {ch:Cg} (h:Within ms os s0 s) (hd:ms.contains x=true) (hc:UU os ch=true):Within ms os s0 (s.ap (some x) v ch):=h.ap (fun y hy=>by cases hy;exact hd) hc
theorem aW {ms os:List Nat} {s0 s:St} {v:Av} {ch:Cg} (h:Within ms os s0 s) (hc:UU os ch=true):Within ms os s0 (s.ap none v ch):=h.ap (fun y hy=>by cases hy) hc
theorem Within.trans {ms os:List Nat} {a b c:St} (h:Within ms os a b) (k:Within ms os b c):Within ms os a c :=
 ⟨fun x hx=>(k.1 x hx).trans (h.1 x hx),fun o ho=>⟨(k.2 o ho).1.trans (h.2 o ho).1,(k.2 o ho).2.trans (h.2 o ho).2⟩⟩
theorem bH {env:Env} {k:List It} {Q:Exit→St→Prop} {s:St} {c:PC} (ms os:List Nat) (J:Nat→St→Prop) (m0:Nat) (h0:J m0 s)
 (h:∀ m j,J m (over ms os s j)→pwp env c (exS env (.lp (fun m st=>Within ms os s st∧J m st) m :: k) Q) (over ms os s j)):pwp env (.loop c) (exS env k Q) s :=
 CY (fun m st=>Within ms os s st∧J m st) m0 ⟨Within.refl _ _ _,h0⟩ (fun m st ⟨hW,hJ⟩=>by
  obtain ⟨j,rfl⟩:=hW.over;exact h m j hJ)
def cK (ms os:List Nat) (s0 st:St):Prop:=(∀ x,ms.contains x=false→st.sl x=s0.sl x)∧(∀ o,os.contains o=false→st.gen o=s0.gen o∧(o < 1000000→st.ob o=s0.ob o))∧st.nc=s0.nc∧aG st
def jN (ms os:List Nat) (s0 j:St):St:=⟨fun x=>bif ms.contains x then j.sl x else s0.sl x,fun o=>bif os.contains o then j.gen o else s0.gen o,fun o=>if o < 1000000 then (bif os.contains o then j.ob o else s0.ob o) else j.ob o,s0.nc⟩
theorem cK.refl (ms os:List Nat) {s:St} (h:aG s):cK ms os s s:=⟨fun _ _=>rfl,fun _ _=>⟨rfl,fun _=>rfl⟩,rfl,h⟩
theorem cK.over {ms os:List Nat} {s0 st:St} (h:cK ms os s0 st):st=jN ms os s0 st:=by
 obtain ⟨h1,h2,h3,_⟩:=h
 have e1:st.sl=(jN ms os s0 st).sl:=by
  funext x
  show st.sl x=bif ms.contains x then st.sl x else s0.sl x
  cases hx:ms.contains x with
  | true=>rfl
  | false=>exact h1 x hx
 have e2:st.gen=(jN ms os s0 st).gen:=by
  funext x
  show st.gen x=bif os.contains x then st.gen x else s0.gen x
  cases hx:os.contains x with
  | true=>rfl
  | false=>exact (h2 x hx).1
 have e3:st.ob=(jN ms os s0 st).ob:=by
  funext x
  show st.ob x=if x < 1000000 then (bif os.contains x then st.ob x else s0.ob x) else st.ob x
  split
  ·rename_i hlt
   cases hx:os.contains x with
   | true=>rfl
   | false=>exact (h2 x hx).2 hlt
  ·rfl
 have e4:st.nc=(jN ms os s0 st).nc:=h3
 show (⟨st.sl,st.gen,st.ob,st.nc⟩:St)=⟨(jN ms os s0 st).sl,(jN ms os s0 st).gen,(jN ms os s0 st).ob,(jN ms os s0 st).nc⟩
 rw [←e1,←e2,←e3,←e4]
theorem CW {ms os:List Nat} {s0 j:St} {x:Nat}:(jN ms os s0 j).sl x=bif ms.contains x then j.sl x else s0.sl x:=bJ rfl
theorem yS {ms os:List Nat} {s0 j:St} {x:Nat}:(jN ms os s0 j).gen x=bif os.contains x then j.gen x else s0.gen x:=bJ rfl
theorem CV {ms os:List Nat} {s0 j:St} {x:Nat} (h:x < 1000000):(jN ms os s0 j).ob x=bif os.contains x then j.ob x else s0.ob x:=by
 show (if x < 1000000 then _ else _)=_
 rw [if_pos h]
theorem M4 {ms os:List Nat} {s0 j:St}:(jN ms os s0 j).nc=s0.nc:=bJ rfl
theorem xu {ms os:List Nat} {s0 j:St} (h:j.nc=s0.nc):(jN ms os s0 j).hb=j.hb:=by
 funext b
 show fF (if HBS+s0.nc b < 1000000 then _ else j.ob (HBS+s0.nc b)) b=fF (j.ob (HBS+j.nc b)) b
 rw [if_neg (by unfold HBS;omega),h]
theorem aO {ms os:List Nat} {s0 j:St} (h:aG j):aG (jN ms os s0 j):=fun c=>by
 show zJ (if HBS+c < 1000000 then _ else j.ob (HBS+c))=true
 rw [if_neg (by unfold HBS;omega)];exact h c
def q8 (os:List Nat):Cg→Bool
 | .ab o _=>os.contains o && decide (o < 1000000)
 | .no=>true
 | .new o _=>os.contains o && decide (o < 1000000)
 | .wr o _ _=>os.contains o && decide (o < 1000000)
 | .row o _=>os.contains o && decide (o < 1000000)
 | .hw o _=>decide (1000000≤o)
 | .hall _=>true
theorem cK.ap {ms os:List Nat} {s0 s:St} {d:Option Nat} {v:Av} {ch:Cg} (h:cK ms os s0 s) (hd:∀ x,d=some x→ms.contains x=true) (hc:q8 os ch=true):cK ms os s0 (s.ap d v ch):=by
 obtain ⟨h1,h2,h3,h4⟩:=h;have hlow:RI ch=true:=by cases ch <;> simp only [q8,Bool.and_eq_true] at hc <;> first | rfl | exact hc.2
 have h4':=h4.ap (d:=d) (v:=v) hlow;rw [uz] at h4' ⊢;refine ⟨fun x hx=>?_,fun o ho=>?_,h3,h4'⟩
 ·cases d with
  | none=>exact h1 x hx
  | some y =>
    show up s.sl y v x=_
    rw [ay,if_neg]
    ·exact h1 x hx
    ·rintro rfl;rw [hd x rfl] at hx;cases hx
 ·have key:∀ y:Nat,os.contains y=true→o≠y:=by
   rintro y hy rfl;rw [hy] at ho;cases ho
  show ch.gF s.gen o=_∧(o < 1000000→ch.oF s.nc s.ob o=_)
  obtain ⟨g1,g2⟩:=h2 o ho
  cases ch with
  | no=>exact ⟨g1,g2⟩
  | new y x=>simp only [q8,Bool.and_eq_true] at hc;simp only [Cg.gF,Cg.oF,Go.Proofs.Ytkafcpnahpfbfaa.md,ay,if_neg (key y hc.1)];exact ⟨g1,g2⟩
  | wr y off cs=>simp only [q8,Bool.and_eq_true] at hc;simp only [Cg.gF,Cg.oF,Go.Proofs.Ytkafcpnahpfbfaa.md,ay,if_neg (key y hc.1)];exact ⟨g1,g2⟩
  | row y m=>simp only [q8,Bool.and_eq_true] at hc;simp only [Cg.gF,Cg.oF,Go.Proofs.Ytkafcpnahpfbfaa.md,ay,if_neg (key y hc.1)];exact ⟨g1,g2⟩
  | ab y H=>simp only [q8,Bool.and_eq_true] at hc;simp only [Cg.gF,Cg.oF,Go.Proofs.Ytkafcpnahpfbfaa.md,ay,if_neg (key y hc.1)];exact ⟨g1,g2⟩
  | hw y l =>
    have hy:=of_decide_eq_true hc;refine ⟨g1,fun hlt=>?_⟩;simp only [Cg.oF,Go.Proofs.Ytkafcpnahpfbfaa.md,ay,if_neg (show o≠y by omega)];exact g2 hlt
  | hall hp =>
    refine ⟨g1,fun hlt=>?_⟩;simp only [Cg.oF];rw [if_neg (by unfold HBS;omega)];exact g2 hlt
theorem aK {ms os:List Nat} {s0 s:St} {x:Nat} {v:Av} {ch:Cg} (h:cK ms os s0 s) (hd:ms.contains x=true) (hc:q8 os ch=true):cK ms os s0 (s.ap (some x) v ch):=h.ap (fun y hy=>by cases hy;exact hd) hc
theorem aF {ms os:List Nat} {s0 s:St} {v:Av} {ch:Cg} (h:cK ms os s0 s) (hc:q8 os ch=true):cK ms os s0 (s.ap none v ch):=h.ap (fun y hy=>by cases hy) hc
theorem aN {os:List Nat} {c:Nat} {l:List (Nat×Hb)}:q8 os (.hw (HBS+c) l)=true:=by unfold q8;exact decide_eq_true (by unfold HBS;omega)
theorem aT {ms os:List Nat} {s0 j:St} (h:aG j):cK ms os s0 (jN ms os s0 j) :=
 ⟨fun x hx=>by rw [CW,hx];rfl,fun o ho=>⟨by rw [yS,ho];rfl,fun hlt=>by rw [CV hlt,ho];rfl⟩,rfl,aO h⟩
theorem cK.in' {ms os ms' os':List Nat} {s0 b st:St} (h:cK ms os s0 b) (k:cK ms' os' b st) (hm:ms'.all (fun x=>ms.contains x)=true) (ho:os'.all (fun x=>os.contains x)=true):cK ms os s0 st:=by
 have sub:∀ {l l':List Nat},l'.all (fun x=>l.contains x)=true→∀ x,l.contains x=false→l'.contains x=false:=fun {l l'} hl x hx=>by
  cases h2:l'.contains x with
  | false=>rfl
  | true =>
    have:=List.all_eq_true.1 hl x (by simpa using h2);rw [hx] at this;cases this
 refine ⟨fun x hx=>(k.1 x (sub hm x hx)).trans (h.1 x hx),fun o ho2=>?_,k.2.2.1.trans h.2.2.1,k.2.2.2⟩;obtain ⟨k1,k2⟩:=k.2.1 o (sub ho o ho2);obtain ⟨h1,h2⟩:=h.2.1 o ho2;exact ⟨k1.trans h1,fun hlt=>(k2 hlt).trans (h2 hlt)⟩
theorem dG {env:Env} {k:List It} {Q:Exit→St→Prop} {s:St} {c:PC} (ms os:List Nat) (J:Nat→St→Prop) (m0:Nat) (hs:aG s) (h0:J m0 s)
 (h:∀ m j,j.nc=s.nc→aG j→J m (jN ms os s j)→pwp env c (exS env (.lp (fun m st=>cK ms os s st∧J m st) m :: k) Q) (jN ms os s j)):pwp env (.loop c) (exS env k Q) s :=
 CY (fun m st=>cK ms os s st∧J m st) m0 ⟨cK.refl _ _ hs,h0⟩ (fun m st ⟨hW,hJ⟩=>by
  have:=hW.over;rw [this] at hJ ⊢;exact h m st hW.2.2.1 hW.2.2.2 hJ)
theorem bY {x:Int} (h1:-9223372036854775808≤x) (h2:x≤9223372036854775807):IntKind.i64.wrap x=x:=IntWalk.i64_in x ⟨h1,h2⟩
theorem wrN {k:Nat} (h:k≤1000000000):IntKind.i64.wrap ((k:Int)+1)=((k+1:Nat):Int):=by
 rw [bY (by omega) (by omega)];omega
end Go.Proofs.Ytkafcpnahpfbfaa
end
section
namespace Go.Proofs.Ytkafcpnahpfbfaa
open Go Go.RowKit
set_option maxRecDepth 100000
def unN:Option Value→Option (Av×Cg)
 | some (.bool b)=>some (gy (.bool !b),.no)
 | _=>none
def unG:Option Value→Option (Av×Cg)
 | some (.int k n)=>some (gy (.int k (k.wrap (0 - n))),.no)
 | _=>none
def unX:Option Value→Option (Av×Cg)
 | some (.int k n)=>some (gy (.int k (k.wrap (BitVec.ofInt k.bits (if k.signed then -1 else k.max) ^^^ BitVec.ofInt k.bits n).toNat)),.no)
 | _=>none
theorem Tz {s:St} {d:Nat} {x:PX}:PO.fn s d (.un .not x)=unN (s.val x):=by
 cases h:s.val x with
 | none=>simp only [PO.fn,h,unN]
 | some v=>cases v <;> simp only [PO.fn,h,unN]
theorem Tv {s:St} {d:Nat} {x:PX}:PO.fn s d (.un .neg x)=unG (s.val x):=by
 cases h:s.val x with
 | none=>simp only [PO.fn,h,unG]
 | some v=>cases v <;> simp only [PO.fn,h,unG]
theorem TA {s:St} {d:Nat} {x:PX}:PO.fn s d (.un .xor x)=unX (s.val x):=by
 cases h:s.val x with
 | none=>simp only [PO.fn,h,unX]
 | some v=>cases v <;> simp only [PO.fn,h,unX]
theorem au {a b:Prop} (x:a) (y:b):a∧b:=⟨x,y⟩
def RX:=PLift.up (au @Es<|
 au @Eo<|
 au @Ep<|
 au @Ls<|
 au @Lp<|
 au @Lr<|
 au @Nh<|
 au @QG<|
 au @Nc<|
 au @QI<|
 au @M9<|
 au @Jw<|
 au @Na<|
 au @QH<|
 au @Nb<|
 @Jy)
theorem evP:type_of% RX.down:=RX.down
def RV:=PLift.up (au @qJ<|
 au @vS<|
 au @St.gd.eq_1<|
 au @EY.eq_1<|
 au @EY.eq_2<|
 au @EY.eq_3<|
 au @EY.eq_4<|
 au @skp.eq_1<|
 au @EC<|
 au @Bf<|
 au @Bh<|
 au @Tq<|
 au @EI<|
 au @Bl<|
 au @Bn<|
 au @Tn<|
 au @EH<|
 au @Bj<|
 au @DT<|
 au @P5<|
 au @Ey<|
 au @Iu<|
 au @Ez<|
 au @Tm<|
 au @Ew<|
 au @Bd<|
 au @EF<|
 au @Bg<|
 au @Bc<|
 au @Et<|
 au @yR<|
 au @MZ<|
 au @jh<|
 au @zn<|
 au @jl<|
 au @Iq<|
 au @Ic<|
 au @List.reverse_cons.{0}<|
 au @List.reverse_nil.{0}<|
 au @Ba<|
 au @kQ<|
 au @TF<|
 au @yQ<|
 au @MW<|
 au @DU<|
 au @kS<|
 au @Dx<|
 au @Dy<|
 au @HY<|
 au @Dw<|
 au @AP<|
 au @AQ<|
 au @Ju<|
 au @QB<|
 au @Jq<|
 au @Qz<|
 au @Dz<|
 au @Jj<|
 au @AR<|
 au @EZ<|
 au @LG<|
 au @TB<|
 au @QA<|
 au @MX<|
 au @Js<|
 au @Jr<|
 au @Jt<|
 au @Qy<|
 au @Jp<|
 au @Jo<|
 au @AO<|
 au @AL<|
 au @IG<|
 au @MH<|
 @Jb)
theorem evB:type_of% RV.down:=RV.down
def SA:=PLift.up (au @PO.bn.eq_1<|
 au @PO.bn.eq_2<|
 au @PO.bn.eq_3<|
 au @PO.bn.eq_4<|
 au @PO.bn.eq_5<|
 au @PO.bn.eq_6<|
 au @PO.bn.eq_7<|
 au @PO.bn.eq_8<|
 au @PO.bn.eq_9<|
 au @PO.bn.eq_10<|
 au @PO.bn.eq_11<|
 au @PO.bn.eq_12<|
 au @PO.bn.eq_13<|
 au @PO.bn.eq_14<|
 au @PO.bn.eq_15<|
 au @PO.bn.eq_16<|
 au @PO.bn.eq_17<|
 au @PO.bn.eq_18<|
 au @PO.bn.eq_19<|
 au @PO.bn.eq_20<|
 au @PO.bn.eq_21<|
 au @PO.bn.eq_22<|
 au @PO.bn.eq_23<|
 au @PO.bn.eq_24<|
 au @PO.bn.eq_25<|
 au @PO.bn.eq_26<|
 au @PO.bn.eq_27<|
 au @PO.bn.eq_28<|
 au @PO.bn.eq_29<|
 au @PO.bn.eq_30<|
 au @PO.bn.eq_31<|
 au @PO.bn.eq_32<|
 au @PO.bn.eq_33<|
 au @PO.bn.eq_34<|
 au @PO.bn.eq_35<|
 au @PO.bn.eq_36<|
 au @PO.bn.eq_37<|
 au @PO.bn.eq_38<|
 au @PO.bn.eq_39<|
 au @PO.bn.eq_40<|
 au @PO.bn.eq_41<|
 au @PO.bn.eq_42<|
 au @PO.bn.eq_43<|
 au @PO.bn.eq_44<|
 au @PO.bn.eq_45<|
 au @PO.bn.eq_46<|
 au @PO.bn.eq_47<|
 au @PO.bn.eq_48<|
 au @PO.bn.eq_49<|
 au @PO.bn.eq_50<|
 au @PO.bn.eq_51<|
 au @PO.bn.eq_52<|
 au @PO.bn.eq_53<|
 au @PO.bn.eq_54<|
 au @Option.getD_some.{0}<|
 au @Option.getD_none.{0}<|
 au @U2<|
 au @SQ<|
 au @SH<|
 au @O7<|
 au @O6<|
 au @O5<|
 au @U1<|
 au @Om<|
 au @Ol<|
 au @SN<|
 au @JL<|
 au @Nl<|
 au @GJ<|
 au @qU.eq_1<|
 au @qU.eq_2<|
 au @qU.eq_3<|
 au @MO<|
 au @Qd<|
 au @VP<|
 au @Td<|
 au @PW<|
 au @Ip<|
 au @Tf<|
 au @Tc<|
 au @Ti<|
 au @Kw<|
 au @Hy<|
 au @ay<|
 au @PO.fn.eq_1<|
 au @PO.fn.eq_2<|
 au @PO.fn.eq_3<|
 au @PO.fn.eq_4<|
 au @PO.fn.eq_5<|
 au @PO.fn.eq_8<|
 au @PO.fn.eq_9<|
 au @PO.fn.eq_10<|
 au @PO.fn.eq_11<|
 au @PO.fn.eq_12<|
 au @PO.fn.eq_13<|
 au @PO.fn.eq_14<|
 au @PO.fn.eq_15<|
 au @PO.fn.eq_16<|
 au @PO.fn.eq_17<|
 au @PO.fn.eq_18<|
 au @PO.fn.eq_23<|
 au @PO.fn.eq_24<|
 au @PO.fn.eq_25<|
 au @PO.fn.eq_26<|
 au @PO.fn.eq_27<|
 au @PO.fn.eq_28<|
 au @PO.fn.eq_29<|
 au @PO.fn.eq_30<|
 au @PO.fn.eq_31<|
 au @PO.fn.eq_32<|
 au @PO.fn.eq_33<|
 au @PO.fn.eq_34<|
 au @PO.fn.eq_35<|
 au @PO.fn.eq_36<|
 au @PO.fn.eq_37<|
 au @PO.fn.eq_38<|
 au @PO.fn.eq_39<|
 au @PO.fn.eq_40<|
 au @PO.fn.eq_41<|
 au @PO.fn.eq_42<|
 au @PO.fn.eq_43<|
 au @PO.fn.eq_44<|
 au @PO.fn.eq_45<|
 au @PO.fn.eq_46<|
 au @PO.fn.eq_47<|
 au @PO.fn.eq_48<|
 au @PO.fn.eq_49<|
 au @PO.fn.eq_50<|
 au @PO.fn.eq_51<|
 au @PO.fn.eq_52<|
 au @PO.fn.eq_53<|
 au @PO.fn.eq_54<|
 au @PO.fn.eq_55<|
 au @PO.fn.eq_56<|
 au @PO.fn.eq_57<|
 au @Tz<|
 au @Tv<|
 au @TA<|
 au @unN.eq_1<|
 au @unG.eq_1<|
 au @unX.eq_1<|
 au @LJ<|
 au @II<|
 au @EK.eq_1<|
 au @qA.eq_1<|
 au @qA.eq_2<|
 au @beq_self_eq_true.{0}<|
 au @List.flatMap_cons.{0,0}<|
 au @List.flatMap_nil.{0,0}<|
 au @PO.rd.eq_1<|
 au @PO.rd.eq_2<|
 au @PO.rd.eq_3<|
 au @PO.rd.eq_4<|
 au @PO.rd.eq_5<|
 au @PO.rd.eq_6<|
 au @PO.rd.eq_7<|
 au @PO.rd.eq_8<|
 au @PO.rd.eq_9<|
 au @PO.rd.eq_10<|
 au @PO.rd.eq_11<|
 au @PO.rd.eq_12<|
 au @PO.rd.eq_13<|
 au @PO.rd.eq_14<|
 au @PO.rd.eq_15<|
 au @PO.rd.eq_16<|
 au @PO.rd.eq_17<|
 au @PO.rd.eq_18<|
 au @PO.rd.eq_19<|
 au @PO.rd.eq_20<|
 au @PO.rd.eq_21<|
 au @PO.rd.eq_22<|
 au @PO.rd.eq_23<|
 au @PO.rd.eq_24<|
 au @PO.rd.eq_25<|
 au @PO.rd.eq_26<|
 au @PO.rd.eq_27<|
 au @PO.rd.eq_28<|
 au @PO.rd.eq_29<|
 au @PO.rd.eq_30<|
 au @PO.rd.eq_31<|
 au @PO.rd.eq_32<|
 au @PO.rd.eq_33<|
 au @Cg.wrs.eq_1<|
 au @Cg.wrs.eq_2<|
 au @Cg.wrs.eq_3<|
 au @Cg.wrs.eq_4<|
 au @Cg.wrs.eq_5<|
 au @Cg.wrs.eq_6<|
 au @Cg.wrs.eq_7<|
 au @St.cl.eq_1<|
 au @St.val.eq_1<|
 au @St.int.eq_1<|
 au @St.boo.eq_1<|
 au @St.cs.eq_1<|
 au @St.parts.eq_1<|
 au @St.parts.eq_2<|
 au @gy.eq_1<|
 au @Cl.rows.eq_1<|
 au @Cl.rows.eq_2<|
 au @Cl.rows.eq_3<|
 au @Cl.rows.eq_4<|
 au @Cl.rows.eq_5<|
 au @Cl.dt.eq_1<|
 au @Cl.dt.eq_2<|
 au @Cl.dt.eq_3<|
 au @Cl.dt.eq_4<|
 au @Cl.dt.eq_5<|
 au @Bv.pa.eq_1<|
 au @Bv.pa.eq_2<|
 au @Av.pa.eq_1<|
 au @Av.pa.eq_2<|
 au @Pa.bv.eq_1<|
 au @Pa.bv.eq_2<|
 au @kC.eq_1<|
 au @kC.eq_2<|
 au @kC.eq_3<|
 au @aD.eq_1<|
 au @aD.eq_2<|
 au @aD.eq_3<|
 au @nW.eq_1<|
 au @nW.eq_2<|
 au @iP.eq_1<|
 au @iP.eq_2<|
 au @iP.eq_3<|
 au @iP.eq_4<|
 au @splice.eq_1<|
 au @eB.eq_1<|
 au @eB.eq_2<|
 au @chunks.eq_1<|
 au @chunks.eq_2<|
 au @gX.eq_1<|
 au @gX.eq_2<|
 au @gX.eq_3<|
 au @gX.eq_4<|
 au @gX.eq_5<|
 au @gX.eq_6<|
 au @gX.eq_7<|
 au @gX.eq_8<|
 au @gX.eq_9<|
 au @gX.eq_10<|
 au @gX.eq_11<|
 au @gX.eq_12<|
 au @gX.eq_13<|
 au @gX.eq_14<|
 au @gX.eq_15<|
 au @gX.eq_16<|
 au @gX.eq_17<|
 au @gX.eq_18<|
 au @gX.eq_19<|
 au @gX.eq_20<|
 au @gX.eq_21<|
 au @gX.eq_22<|
 au @qH.eq_1<|
 au @qH.eq_2<|
 au @qH.eq_3<|
 au @gJ.eq_1<|
 au @gJ.eq_2<|
 au @gJ.eq_3<|
 au @Fh.eq_1<|
 au @Fh.eq_2<|
 au @Option.map_some.{0,0}<|
 au @Option.map_none.{0,0}<|
 au @Option.bind_some.{0,0}<|
 au @List.map_cons.{0,0}<|
 au @List.map_nil.{0,0}<|
 au @List.length_cons.{0}<|
 au @List.length_nil.{0}<|
 au @List.getElem?_cons_succ.{0}<|
 au @List.getElem?_cons_zero.{0}<|
 au @List.take_succ_cons.{0}<|
 au @List.take_zero.{0}<|
 au @List.drop_succ_cons.{0}<|
 au @List.drop_zero.{0}<|
 au @List.cons_append.{0}<|
 au @List.nil_append.{0}<|
 au @List.append_nil.{0}<|
 au @if_true.{1}<|
 au @if_false.{1}<|
 au @ite_true.{1}<|
 au @ite_false.{1}<|
 au @ne_eq.{1}<|
 au @not_true<|
 au @not_false_eq_true<|
 au @Nat.add_zero<|
 au @Nat.zero_add<|
 au @and_true<|
 au @true_and<|
 au @and_self<|
 au @forall_const.{1}<|
 au @forall_const.{0}<|
 au @Bool.not_true<|
 au @Bool.not_false<|
 au @Nat.succ_eq_add_one<|
 au @imp_false<|
 au @false_imp_iff<|
 au @forall_false<|
 au @true_imp_iff<|
 au @Bool.and_true<|
 au @Bool.and_false<|
 au @Bool.true_and<|
 au @Bool.false_and<|
 au @implies_true.{1}<|
 au @implies_true.{0}<|
 au @GX<|
 au @CX<|
 au @GV<|
 au @List.contains_cons.{0}<|
 au @List.contains_nil.{0}<|
 au @Bool.or_false<|
 au @Bool.or_true<|
 au @Bool.false_or<|
 au @Bool.true_or<|
 au @cond_true.{1}<|
 au @cond_false.{1}<|
 au @Bool.cond_true.{0}<|
 au @Bool.cond_false.{0}<|
 au @Int.toNat_natCast<|
 au @Int.natCast_nonneg<|
 au @List.getElem?_map.{0,0}<|
 au @List.length_map.{0,0}<|
 au @List.mem_cons.{0}<|
 au @List.not_mem_nil.{0}<|
 au @forall_eq.{1}<|
 au @forall_eq_or_imp.{1}<|
 au @false_or<|
 au @or_true<|
 au @true_or<|
 au @or_false<|
 au @St.res.eq_1<|
 au @St.res1.eq_1<|
 au @St.res1.eq_2<|
 au @decide_eq_true_eq<|
 au @decide_eq_false_iff_not<|
 au @Cl.kY.eq_1<|
 au @Cl.kY.eq_2<|
 au @Cl.kY.eq_3<|
 au @Cl.kY.eq_4<|
 au @Cl.kY.eq_5<|
 au @Cl.kY.eq_6<|
 au @Cl.kY.eq_7<|
 au @Cl.kY.eq_8<|
 au @Cl.kY.eq_9<|
 au @Bv.kY.eq_1<|
 au @Bv.kY.eq_2<|
 au @Av.kY.eq_1<|
 au @Av.kY.eq_2<|
 au @Av.kY.eq_3<|
 au @Nk<|
 au @JD<|
 au @OZ<|
 au @M8<|
 au @Jv<|
 au @DC<|
 au @Cl.fZ.eq_1<|
 au @Cl.fZ.eq_2<|
 au @Cl.fZ.eq_3<|
 au @Cl.fZ.eq_4<|
 au @Cl.fZ.eq_5<|
 au @Cl.fZ.eq_6<|
 au @Cl.fZ.eq_7<|
 au @Cl.fZ.eq_8<|
 au @Cl.fZ.eq_9<|
 au @Bv.fZ.eq_1<|
 au @Bv.fZ.eq_2<|
 au @Av.fZ.eq_1<|
 au @Av.fZ.eq_2<|
 au @Av.fZ.eq_3<|
 au @Jg<|
 au @Jh<|
 au @Jd<|
 au @Je<|
 au @Jf<|
 au @Fb.eq_1<|
 au @Fb.eq_2<|
 au @List.all_cons.{0}<|
 au @List.all_nil.{0}<|
 au @O3<|
 au @SK<|
 au @Am.eq_1<|
 au @Am.eq_2<|
 au @List.tail_cons.{0}<|
 au @dO.eq_1<|
 au @dO.eq_2<|
 au @dO.eq_3<|
 au @U0<|
 au @O4<|
 au @O1<|
 au @SL<|
 au @SI<|
 au @Vb<|
 au @hb_new<|
 au @Vd<|
 au @TK<|
 au @Va<|
 au @TI<|
 au @TJ<|
 au @TH<|
 au @ML<|
 au @pO.eq_1<|
 au @pO.eq_2<|
 au @pO.eq_3<|
 au @Jc<|
 au @MK<|
 au @MJ<|
 au @rO<|
 au @CW<|
 au @yS<|
 au @CV<|
 au @M4<|
 au @xu<|
 au @St.key.eq_1<|
 au @scs.eq_1<|
 au @scs.eq_2<|
 au @scs.eq_3<|
 au @TM<|
 au @Qc<|
 au @MI<|
 au @Bv.hw.eq_1<|
 au @Bv.hw.eq_2<|
 au @Av.hw.eq_1<|
 au @Av.hw.eq_2<|
 au @Cl.hc.eq_1<|
 au @Cl.hc.eq_2<|
 au @Cl.hc.eq_3<|
 au @Cl.hc.eq_4<|
 au @Cl.hc.eq_5<|
 au @Hc.cl.eq_1<|
 au @Hc.cl.eq_2<|
 au @Hw.bv.eq_1<|
 au @Hw.bv.eq_2<|
 au @hcs.eq_1<|
 au @uH.eq_1<|
 au @uH.eq_2<|
 au @zN.eq_1<|
 au @zN.eq_2<|
 au @zN.eq_3<|
 au @St.hps.eq_1<|
 au @St.hps.eq_2<|
 au @rdH.eq_1<|
 au @iR.eq_1<|
 au @iR.eq_2<|
 au @iR.eq_3<|
 au @iR.eq_4<|
 au @bvB.eq_1<|
 au @St.gW.eq_1<|
 au @St.Ap.eq_1<|
 au @St.Ap.eq_2<|
 au @rdV.eq_1<|
 @rdV.eq_2)
theorem stB:type_of% SA.down:=SA.down
end Go.Proofs.Ytkafcpnahpfbfaa
end
section
namespace Go.Proofs.Ytkafcpnahpfbfaa
open Go.RowKit
structure Ev where
 g:Int
 kind:Int
 obj:Int
 off:Int
 k:Int
 n:Int
 fn:Int
 pc:Int
 stack:Int
deriving DecidableEq,Inhabited
def I64 (x:Int):Prop:=-9223372036854775808≤x∧x≤9223372036854775807
def Ev.wf (e:Ev):Prop:=I64 e.g∧I64 e.kind∧I64 e.obj∧I64 e.off∧I64 e.k∧I64 e.n∧I64 e.fn∧I64 e.pc∧I64 e.stack
def Ev.cells (e:Ev):List Value:=[.int .i64 e.g,.int .i64 e.kind,.int .i64 e.obj,.int .i64 e.off,.int .i64 e.k,.int .i64 e.n,.int .i64 e.fn,.int .i64 e.pc,.int .i64 e.stack]
def Ev.val (e:Ev):Value:=.agg #[.int .i64 e.g,.int .i64 e.kind,.int .i64 e.obj,.int .i64 e.off,.int .i64 e.k,.int .i64 e.n,.int .i64 e.fn,.int .i64 e.pc,.int .i64 e.stack]
def oQ (k:Int):Bool:=decide (15≤k∧k≤18)
def iW (k:Int):Bool:=decide (1≤k∧k≤20)
def JV (k:Int):Bool:=decide (15≤k∧k≤20)
def gG (x:Int):Bool:=decide (0≤x∧x≤2147483647)
def Ev.rest (e:Ev):Bool :=
 if e.kind=14 then decide (e.obj=0∧e.off=0∧e.n=0∧1≤e.k∧e.k < 8)
 else if 15≤e.kind∧e.kind≤18 then decide (e.off=0∧e.n≤64)
 else if 19≤e.kind then decide (e.off=0∧e.n≤64∧e.k=0)
 else decide (e.k=0∧e.n=0)
def Ev.valid (e:Ev):Bool:=iW e.kind && decide (0≤e.g∧e.g < 8) &&
 (gG e.obj && gG e.off && gG e.k && gG e.n && gG e.fn && gG e.pc && gG e.stack) && e.rest
structure Ch where
 cap:Int
 sent:Int
 recv:Int
 closed:Bool
deriving DecidableEq,Inhabited
def ch0:Ch:=⟨0,0,0,false⟩
structure Mu where
 locked:Bool
 readers:Int
deriving DecidableEq,Inhabited
def mu0:Mu:=⟨false,0⟩
structure Grp where
 kinds:List Int
 obj:Int
 k:Int
 n:Int
 snd:Int
 rcv:Int
def VR:Grp:=⟨[],0,0,0,0,0⟩
structure TS where
 events:Int
 gor:Int
 chans:Int→Option Ch
 mus:Int×Int→Option Mu
 done:Int×Int→Option Bool
 grp:Grp
def TS.new:TS:=⟨0,1,fun _=>none,fun _=>none,fun _=>none,VR⟩
def upd {κ:Type} [DecidableEq κ] {α:Type} (f:κ→Option α) (x:κ) (v:α):κ→Option α:=fun y=>if y=x then some v else f y
def Ch.count (c:Ch) (kind:Int):Ch:=if kind=15 then { c with sent:=c.sent+1 } else if kind=17 then { c with recv:=c.recv+1 } else c
def TS.count (s:TS) (e:Ev):TS:={ s with chans:=upd s.chans e.obj (((s.chans e.obj).getD ch0).count e.kind) }
def Gf (k:Int):Bool:=decide (k=15∨k=16)
def Grp.own (o:Grp) (kind:Int):Int:=if Gf kind=true then o.snd else o.rcv
def Grp.other (o:Grp) (kind:Int):Int:=if Gf kind=true then o.rcv else o.snd
def Grp.next (o:Grp) (e:Ev):Grp :=
 if Gf e.kind=true then { o with kinds:=o.kinds.tail,snd:=e.g } else { o with kinds:=o.kinds.tail,rcv:=e.g }
def Grp.fits (o:Grp) (e:Ev):Bool :=
 decide (e.kind=o.kinds.headD 0∧e.obj=o.obj∧e.k=o.k∧e.n=o.n) && !(decide (o.own e.kind < 0∧e.g=o.other e.kind) || decide (0≤o.own e.kind∧e.g≠o.own e.kind))
def TS.proceed (s:TS) (e:Ev):Option TS :=
 if s.grp.fits e=true then some { s.count e with grp:=s.grp.next e } else none
def TS.chan (s:TS) (e:Ev):Ch:=match s.chans e.obj with
 | some c=>c
 | none=>{ ch0 with cap:=e.n }
def TS.start (s:TS) (e:Ev) (c:Ch) (kinds:List Int) (snd rcv:Int):TS :=
 { s with chans:=upd s.chans e.obj (c.count e.kind),grp:=⟨kinds,e.obj,e.k,e.n,snd,rcv⟩ }
def Ch.missing (c:Ch) (kind:Int) (alone:Bool):Option (List Int) :=
 if kind=15 then (if c.sent - c.recv < c.cap then some [16] else if c.cap=0∧alone=false then some [17,18,16] else none)
 else (if c.recv < c.sent then some [18] else if c.closed=false∧alone=false then some [15,18,16] else none)
def TS.operate (s:TS) (e:Ev):Option TS :=
 let c:=s.chan e
 if c.cap≠e.n then none
 else if e.kind=19 then (if c.closed=true then none else some { s with chans:=upd s.chans e.obj { c with closed:=true } })
 else if e.kind=20 then (if c.closed=true∧c.sent=c.recv then some s else none)
 else if e.kind=15 then (if c.closed=true∨e.k≠c.sent then none else (c.missing 15 (decide (s.gor=1))).map fun l=>s.start e c l e.g (-1))
 else if e.kind=17 then (if e.k≠c.recv then none else (c.missing 17 (decide (s.gor=1))).map fun l=>s.start e c l (-1) e.g)
 else none
def TS.mu (s:TS) (e:Ev):Mu:=(s.mus (e.obj,e.off)).getD mu0
def TS.simple (s:TS) (e:Ev):Option TS :=
 let m:=s.mu e
 let put (m:Mu):Option TS:=some { s with mus:=upd s.mus (e.obj,e.off) m }
 if e.kind=6 then (if m.locked=true∨0 < m.readers then none else put { m with locked:=true })
 else if e.kind=7 then (if m.locked=false then none else put { m with locked:=false })
 else if e.kind=8 then (if m.locked=true then none else put { m with readers:=m.readers+1 })
 else if e.kind=9 then (if m.readers=0 then none else put { m with readers:=m.readers - 1 })
 else if e.kind=12 then (if (s.done (e.obj,e.off)).getD false=true then none else some { s with done:=upd s.done (e.obj,e.off) true })
 else if e.kind=13 then (if (s.done (e.obj,e.off)).getD false=true then some s else none)
 else if e.kind=14 then (if e.k≠s.gor then none else some { s with gor:=s.gor+1 })
 else some s
def TS.isOpen (s:TS):Bool:=decide (0 < s.grp.kinds.length)
def TS.part (s:TS) (e:Ev):Option TS :=
 if s.isOpen=true then s.proceed e else if JV e.kind=true then s.operate e else s.simple e
def TS.admits (s:TS) (e:Ev):Bool:=e.valid && decide (s.events < 5000) && decide (e.g < s.gor)
def TS.add (s:TS) (e:Ev):Option TS :=
 if s.admits e=true then (s.part e).map fun t=>{ t with events:=t.events+1 } else none
structure TS.wf (s:TS):Prop where
 ev:0≤s.events∧s.events≤5000
 gr:1≤s.gor∧s.gor≤8
 ch:∀ x c,s.chans x=some c→(0≤c.sent∧c.sent≤s.events)∧(0≤c.recv∧c.recv≤s.events)∧(0≤c.cap∧c.cap≤64)
 mu:∀ x m,s.mus x=some m→0≤m.readers∧m.readers≤s.events
 kd:s.grp.kinds.length≤3
section
variable {s:TS} {g kind obj off k en fn pc stack cap sent recv:Int} {closed:Bool}
 (hc:s.chan ⟨g,kind,obj,off,k,en,fn,pc,stack⟩=⟨cap,sent,recv,closed⟩)
include hc
end
end Go.Proofs.Ytkafcpnahpfbfaa
end
section
namespace Go.Proofs.Ytkafcpnahpfbfaa
open Go Go.RowKit
instance:bS:=⟨fun _=>True,fun _ _ _ _=>trivial⟩
abbrev dI (n:Int):Dt:=.sc (.int .i64 n)
abbrev dB (b:Bool):Dt:=.sc (.bool b)
abbrev aI (n:Int):Av:=.b (.one (.d (.sc (.int .i64 n))))
abbrev aB (b:Bool):Av:=.b (.one (.d (.sc (.bool b))))
abbrev pI (n:Int):Pa:=.one (.sc (.int .i64 n))
abbrev pB (b:Bool):Pa:=.one (.sc (.bool b))
def Ev.row (e:Ev):List Dt:=[dI e.g,dI e.kind,dI e.obj,dI e.off,dI e.k,dI e.n,dI e.fn,dI e.pc,dI e.stack]
def Ev.pa (e:Ev):Pa:=.agg e.row
structure RCh where
 obj:Int
 n:Int
 sent:Int
 recv:Int
 closed:Bool
def RCh.row (c:RCh):List Dt:=[dI c.obj,dI c.n,dI c.sent,dI c.recv,dB c.closed]
structure RLk where
 obj:Int
 off:Int
 locked:Bool
 readers:Int
def RLk.row (c:RLk):List Dt:=[dI c.obj,dI c.off,dB c.locked,dI c.readers]
def TT (p:Int×Int):List Dt:=[dI p.1,dI p.2]
structure RWt where
 kind:Int
 g:Int
 not:Int
def RWt.row (c:RWt):List Dt:=[dI c.kind,dI c.g,dI c.not]
structure RSt where
 count:Int
 gor:Int
 chans:List RCh
 locks:List RLk
 done:List (Int×Int)
 next:List RWt
 obj:Int
 k:Int
 n:Int
def RSt.row (s:RSt):List Dt:=[dI s.count,dI s.gor,.im (s.chans.map RCh.row),.im (s.locks.map RLk.row),.im (s.done.map TT),.im (s.next.map RWt.row),dI s.obj,dI s.k,dI s.n]
def RSt.pa (s:RSt):Pa:=.agg s.row
structure RSt.ok (s:RSt):Prop where
 ct:0≤s.count∧s.count≤1000000
 gr:0≤s.gor∧s.gor≤1000000
 ch:s.chans.length≤900000∧∀ c,c ∈ s.chans→(0≤c.sent∧c.sent≤1000000)∧(0≤c.recv∧c.recv≤1000000)
 lk:s.locks.length≤900000∧∀ c,c ∈ s.locks→0≤c.readers∧c.readers≤1000000
 dn:s.done.length≤900000
 nx:s.next.length≤900000
def RSt.new:RSt:=⟨0,1,[],[],[],[],0,0,0⟩
def RCh.count (c:RCh) (kind:Int):RCh:=if kind=15 then { c with sent:=c.sent+1 } else if kind=17 then { c with recv:=c.recv+1 } else c
def RSt.fits (s:RSt) (w:RWt) (e:Ev):Bool:=!((e.kind != w.kind || (e.obj != s.obj || (e.k != s.k || (e.n != s.n || (decide (0≤w.g) && e.g != w.g))))) || (decide (w.g < 0) && e.g == w.not))
def RSt.admits (s:RSt) (e:Ev):Bool:=e.valid && decide (s.count < 5000) && decide (e.g < s.gor)
end Go.Proofs.Ytkafcpnahpfbfaa
end
