/- Whole codes and functions: what the plain reading says, the program does. -/
import Derived.Test.YtkafcpnahpfbfaaMn2
import Derived.ScopeJumps
import Derived.IntWalk
import Derived.Below
import Derived.Test.YtkafcpnahpfbfaaProg
import Derived.RangeFuncBox
import Derived.RangeFuncLeaves
import Derived.RangeFuncWrites
import Derived.Shelf.Abstract
import Derived.WalkKit
import Derived.OwnWalkIn
import Derived.TacticsInMore
import Derived.LoopNIn
import Derived.LoopIn
set_option linter.unusedSimpArgs false
set_option linter.unusedVariables false
section
namespace Go.Proofs.Ytkafcpnahpfbfaa
open Go Go.RowKit
theorem exists_least (p:Nat→Prop) (h:∃ n,p n):∃ n,p n∧∀ m,p m→n≤m:=by
 obtain ⟨n,hn⟩:=h
 induction n using Nat.strongRecOn with
 | _ n ih =>
   by_cases hm:∃ m,m < n∧p m
   ·obtain ⟨m,hlt,hp⟩:=hm;exact ih m hlt hp
   ·exact ⟨n,hn,fun m hp=>by
     rcases Nat.lt_or_ge m n with h | h
     ·exact absurd ⟨m,h,hp⟩ hm
     ·exact h⟩
theorem zA {P:Program} {Q:Exit→Act→World→Prop} {a:Act} {w:World} {c:Code} (I:Nat→Act→World→Prop) (h0:∃ n,I n a w)
 (round:∀ n a w,I n a w→c.wp P (Exit.then (fun a' w'=>∃ m,m < n∧I m a' w') Q) a w):(Code.loop c).wp P Q a w:=by
 classical
 let μ:Act→World→Nat:=fun a w=>if h:∃ n,I n a w then Classical.choose (exists_least _ h) else 0
 have hμ:∀ a w (h:∃ n,I n a w),I (μ a w) a w∧∀ m,I m a w→μ a w≤m:=fun a w h=>by
  have h1:μ a w=Classical.choose (exists_least _ h):=dif_pos h;rw [h1];exact Classical.choose_spec (exists_least _ h)
 refine wp_loop (fun a w=>∃ n,I n a w) μ h0 (fun a w h=>?_);refine wp_mono (round _ a w (hμ a w h).1) (fun e a' w' he=>?_)
 cases e with
 | normal =>
   obtain ⟨m,hlt,hm⟩:=he;exact ⟨⟨m,hm⟩,Nat.lt_of_le_of_lt ((hμ a' w' ⟨m,hm⟩).2 m hm) hlt⟩
 | _=>exact he
section
variable {P:Program} {n:Nat} {w0:World} {S0:Nat→Nat}
def backs:PC→Bool
 | .reg true ops=>zF ops
 | .seq a b=>backs a && backs b
 | .cond _ a b=>backs a && backs b
 | .block _ c=>backs c
 | .loop c=>backs c
 | .scope _ c r=>backs c && backs r
 | _=>true
theorem iV [Bor] [I:bN] {env:Env} (hE:ay P env) (hp:∀ w,fD w0.heap.size w0 w→I.p w) {eqs:List (Nat×List Bool)} (heq:∀ p,p ∈ eqs→EqT P p.1 p.2) (hm:P.follows .mixedOrders=true):∀ (c:Code) (pc:PC),aW P n eqs c=some pc→backs pc=true →
 ∀ (Q:Exit→St→Prop) (W:Wit) (s:St) (a:Act) (w:World),pwp env pc Q s→Sim w0 S0 n W s a w→c.wp P (fun e a' w'=>∃ W' s',Sim w0 S0 n W' s' a' w'∧Q e s') a w:=by
 intro c
 induction c with
 | skip=>intro pc hc _ Q W s a w h hs;simp [aW] at hc;subst hc;exact wp_skip ⟨W,s,hs,h⟩
 | region id ops draw =>
   intro pc hc hb Q W s a w h hs;simp only [aW,Option.map_eq_some_iff] at hc;obtain ⟨is,his,rfl⟩:=hc;have hmap:=dH _ _ his
   cases draw with
   | false =>
     refine wp_region ?_;have hlen:is.length=ops.size:=by have:=congrArg List.length hmap;simp at this;omega
     have:=Gp hE hp heq (ops:=ops) (Q:=fun e a' w'=>∃ W' s',Sim w0 S0 n W' s' a' w'∧Q e s') (K:=Q .normal) (fun s W a w h1 h2=>⟨W,s,h2,h1⟩) is 0 W s a w (by simpa using hmap) hs h;rw [hlen] at this;rw [List.range_eq_range'];exact this
   | true=>exact yj hE hp heq hm hmap (fun s W a w h1 h2=>⟨W,s,h2,h1⟩) hs hb h id
 | seq x y ihx ihy =>
   intro pc hc hb Q W s a w h hs;simp only [aW] at hc;split at hc
   ·rename_i px py hx hy;cases hc;simp only [backs,Bool.and_eq_true] at hb;refine wp_seq (wp_mono (ihx px hx hb.1 _ W s a w h hs) (fun e a' w' he=>?_));obtain ⟨W',s',hs',hq⟩:=he
    cases e with
    | normal=>exact ihy py hy hb.2 Q W' s' a' w' hq hs'
    | _=>exact ⟨W',s',hs',hq⟩
   ·cases hc
 | cond co x y ihx ihy =>
   intro pc hc hb Q W s a w h hs;simp only [aW] at hc;split at hc
   ·rename_i pcn px py hcn hx hy;cases hc;simp only [backs,Bool.and_eq_true] at hb;obtain ⟨t,ht,h1,h2⟩:=ah.1 h;exact wp_cond_split (pG hs hcn ht) (fun he=>ihx px hx hb.1 Q W s a w (h1 he) hs) (fun he=>ihy py hy hb.2 Q W s a w (h2 he) hs)
   ·cases hc
 | block id x ih =>
   intro pc hc hb Q W s a w h hs;simp only [aW,Option.map_eq_some_iff] at hc;obtain ⟨px,hx,rfl⟩:=hc;refine wp_block (wp_mono (ih px hx hb _ W s a w h hs) (fun e a' w' he=>?_));obtain ⟨W',s',hs',hq⟩:=he
   cases e with
   | exit i =>
     by_cases hi:i=id
     ·simp only [hi,if_true] at hq;simp only [Exit.inBlock,hi,if_true];exact ⟨W',s',hs',hq⟩
     ·simp only [hi,if_false] at hq;simp only [Exit.inBlock,hi,if_false];exact ⟨W',s',hs',hq⟩
   | _=>exact ⟨W',s',hs',hq⟩
 | loop x ih =>
   intro pc hc hb Q W s a w h hs;simp only [aW,Option.map_eq_some_iff] at hc;obtain ⟨px,hx,rfl⟩:=hc;obtain ⟨I,⟨k,hk⟩,hr⟩:=h;refine zA (fun k a w=>∃ W s,Sim w0 S0 n W s a w∧I k s) ⟨k,W,s,hs,hk⟩ (fun k a w h=>?_);obtain ⟨W,s,hs,hI⟩:=h;refine wp_mono (ih px hx hb _ W s a w (hr k s hI) hs) (fun e a' w' he=>?_);obtain ⟨W',s',hs',hq⟩:=he
   cases e with
   | normal =>
     obtain ⟨m,hlt,hm⟩:=hq;exact ⟨m,hlt,W',s',hs',hm⟩
   | _=>exact ⟨W',s',hs',hq⟩
 | exit id=>intro pc hc _ Q W s a w h hs;simp [aW] at hc;subst hc;exact wp_exit ⟨W,s,hs,h⟩
 | ret=>intro pc hc _ Q W s a w h hs;simp [aW] at hc;subst hc;exact wp_ret ⟨W,s,hs,h⟩
 | rangeFunc=>intro pc hc;simp [aW] at hc
 | scope=>intro pc hc;simp [aW] at hc
 | label=>intro pc hc _ Q W s a w h hs;simp [aW] at hc;subst hc;exact wp_label ⟨W,s,hs,h⟩
 | goto=>intro pc hc _ Q W s a w h hs;simp [aW] at hc;subst hc;exact wp_goto ⟨W,s,hs,h⟩
 | refuse=>intro pc hc;simp [aW] at hc
theorem jJ [Bor] [I:bN] {env:Env} (hE:ay P env) (hp:∀ w,fD w0.heap.size w0 w→I.p w) {eqs:List (Nat×List Bool)} (heq:∀ p,p ∈ eqs→EqT P p.1 p.2) (hm:P.follows .mixedOrders=true):∀ (c:Code) (pc:PC),bW P n eqs c=some pc→backs pc=true →
 ∀ (Q:Exit→St→Prop) (W:Wit) (s:St) (a:Act) (w:World),pwp env pc Q s→Sim w0 S0 n W s a w→c.wp P (fun e a' w'=>∃ W' s',Sim w0 S0 n W' s' a' w'∧Q e s') a w:=by
 intro c
 induction c with
 | scope x =>
   intro pc hc hb Q W s a w h hs;simp only [bW] at hc;split at hc
   ·rename_i px pr hx hr;cases hc;simp only [backs,Bool.and_eq_true] at hb;obtain ⟨rest,hf,hrest⟩:=xP hr
    refine wp_scope_jumps (rest:=rest) 0 (fun a w=>∃ W s,Sim w0 S0 n W s a w∧pwp env pr (fun e2 s2=>match e2 with | .goto _=>False | e2=>Q e2 s2) s) (fun _ _=>0) hf ?_ ?_
    ·refine wp_mono (iV hE hp heq hm x px hx hb.1 _ W s a w h hs) (fun e a' w' he=>?_);obtain ⟨W',s',hs',hq⟩:=he
     cases e with
     | goto l'=>exact ⟨hq.1,W',s',hs',hq.2⟩
     | _=>exact ⟨W',s',hs',hq⟩
    ·rintro a1 w1 ⟨W1,s1,hs1,h1⟩;refine wp_mono (iV hE hp heq hm rest pr hrest hb.2 _ W1 s1 a1 w1 h1 hs1) (fun e a' w' he=>?_);obtain ⟨W',s',hs',hq⟩:=he
     cases e with
     | goto l'=>exact hq.elim
     | _=>exact ⟨W',s',hs',hq⟩
   ·cases hc
 | seq x y ihx ihy =>
   intro pc hc hb Q W s a w h hs;simp only [bW] at hc;split at hc
   ·rename_i px py hx hy;cases hc;simp only [backs,Bool.and_eq_true] at hb;refine wp_seq (wp_mono (ihx px hx hb.1 _ W s a w h hs) (fun e a' w' he=>?_));obtain ⟨W',s',hs',hq⟩:=he
    cases e with
    | normal=>exact ihy py hy hb.2 Q W' s' a' w' hq hs'
    | _=>exact ⟨W',s',hs',hq⟩
   ·cases hc
 | _=>intro pc hc;exact iV hE hp heq hm _ pc hc
end
inductive PR where
 | t (x:Nat)
 | c (x:Nat) (k:Option Nat)
def lU (P:Program):ResultVar→Option PR
 | .tmp t=>some (.t t)
 | .cell a t=>(szT P t).map (.c a)
def St.res1 (s:St):PR→Option Pa
 | .t x=>match s.sl x with
   | .b (.one (.sv o g off ln _ sz))=>if s.gen o=g then (match s.ob o with
     | .cells cs=>if off+ln * sz≤cs.length then (au (((cs.drop off).take (ln * sz)).map Cl.dt)).map fun xs=>.one (.im (chunks ln sz xs)) else none
     | _=>none) else none
   | v=>v.pa
 | .c x k=>match s.sl x with
   | .b (.one (.ptr o g off))=>if s.gen o=g then (match s.ob o with | .cells cs=>(kG k cs off).bind Av.pa | _=>none) else none
   | _=>none
def St.res (s:St) (rs:List PR):Option (List Pa):=au (rs.map s.res1)
def St.init (az:List Pa):St:=⟨fun x=>match az[x]? with | some p=>.b p.bv | none=>.un,fun _=>0,fun _=>.no,fun _=>0⟩
def HY (s:St):PR→Bool
 | .t x=>match s.sl x with
   | .b (.one (.sv _ _ _ _ _ _))=>false
   | _=>true
 | .c _ _=>true
def St.za (ds:List Dt) (az:List Pa):St:=⟨fun x=>match x with
 | 0=>.b (.one (.ptr 0 0 0))
 | k+1=>match az[k]? with | some p=>.b p.bv | none=>.un,fun _=>0,fun o=>if o=0 then .cells (ds.map .d) else .no,fun _=>0⟩
def l7 (tmps:Array Value):ResultVar→Sem Value
 | .tmp t=>pure (tmps.getD t undef)
 | .cell a t=>do loadVar t (←asAddr (tmps.getD a undef))
def LW (W:Wit) (s:St) (b:Nat):Prop:=(∃ o H,s.ob o=.ab H∧W.fp o b)∨∃ o f,s.ob o=.hp f∧cl W o (.hp f) b
def W00 (blk:Nat→Nat) (S:Nat→Nat):Wit:=⟨blk,fun _=>undef,fun _=>undef,fun _ _=>False,S,fun _=>0,fun _=>undef,fun _ _=>False,fun _=>0,fun _=>False⟩
abbrev zn:Bor:=⟨none,fun _=>False,fun _=>False,fun _=>0,fun _=>undef,[]⟩
theorem wU (b:Nat):¬ @Bor.fp zn b:=fun h=>by
 rcases h with h | h
 ·cases h
 ·exact h
open Classical in
noncomputable def frz (w0:World) (W:Wit) (s:St) (w:World):Nat→Nat:=fun b=>if b < w0.heap.size then W.S b else if LW W s b then 0 else W.S b+(match w.heap[b]? with | some (.cells arr _ _)=>arr.size | _=>0)
theorem lq [Bor] {n:Nat} {S0:Nat→Nat} {a:Act} {w0:World} {W:Wit} {s:St} {w:World} (hs:Sim w0 S0 n W s a w):Ext W.S (frz w0 W s w) w w:=fun b i h1 _=>by
 refine ⟨?_,rfl⟩;unfold frz;split
 ·exact h1
 ·split
  ·rename_i hab
   rcases hab with ⟨o,H,ho,hf⟩ | ⟨o,f,ho,m,hf⟩
   ·have:=hs.ob o;rw [ho] at this;rw [(this.2 b hf).2] at h1;omega
   ·have:=hs.ob o;rw [ho] at this;rw [(this.mine m b hf).2.1] at h1;omega
  ·omega
theorem RP.ext {S S':Nat→Nat} {w w':World} (h:Ext S S' w w') {p:Pa} {v:Value} (hp:RP S w p v):RP S' w' p v:=by
 cases p with
 | one x=>exact RD.ext h hp
 | agg xs=>obtain ⟨arr,h1,h2,h3⟩:=hp;exact ⟨arr,h1,h2,fun i x u e1 e2=>RD.ext h (h3 i x u e1 e2)⟩
theorem kZ {α:Type} (n sz:Nat) (xs:List α):(chunks n sz xs).length=n:=by rw [kM];simp
theorem qj {α:Type} {n sz i:Nat} {xs:List α} {r:List α} (h:(chunks n sz xs)[i]? = some r):i < n∧r=(xs.drop (i * sz)).take sz:=by
 have hi:=(List.getElem?_eq_some_iff.1 h).1;rw [kZ] at hi;rw [kM,List.getElem?_map,List.getElem?_range hi] at h;simp only [Option.map_some,Option.some.injEq] at h;exact ⟨hi,h.symm⟩
theorem FC [Bor] {P:Program} {n:Nat} {w0:World} {S0:Nat→Nat} {W:Wit} {s:St} {a:Act} {w:World} (hs:Sim w0 S0 n W s a w) {rv:ResultVar} {r:PR} {p:Pa} (hr:lU P rv=some r) (hp:s.res1 r=some p) (hn:(∀ b,¬ Bor.fp b)∨HY s r=true) :
 ∃ v,(l7 a.tmps rv).run P w=.ok v w∧RP (frz w0 W s w) w p v:=by
 cases rv with
 | tmp t =>
   cases hr;refine ⟨_,rfl,?_⟩;simp only [St.res1] at hp;split at hp
   ·rename_i o g off ln cap sz hsl;split at hp
    ·rename_i hg;split at hp
     ·rename_i cs hob;split at hp
      ·rename_i hle;simp only [Option.map_eq_some_iff] at hp;obtain ⟨xs,hxs,rfl⟩:=hp;have h1:=hs.sl t;rw [hsl] at h1;obtain ⟨b,hv,hlc,hcm,_,hb⟩:=h1;have hb:=hb hg.symm;subst hb;have hro:=hs.ob o;rw [hob] at hro;obtain ⟨arr,T,h4,h5,h6,h7⟩:=hro;have hall:=dH _ _ hxs
       have hxl:xs.length=ln * sz:=by
        have:=congrArg List.length hall;simp at this;omega
       rw [hv]
       have hge:w0.heap.size≤W.blk o:=by
        rcases hn with hn | hn
        ·exact h5.elim id (fun hf=>absurd hf (hn _))
        ·simp only [HY,hsl] at hn;cases hn
       have hrl:=kZ ln sz xs
       show RD (frz w0 W s w) w (.im (chunks ln sz xs)) _
       have:=RD.block (S:=frz w0 W s w) (w:=w) (rows:=chunks ln sz xs) (b:=W.blk o) (o:=off) (cap:=cap) (sz:=sz) (vs:=(arr.toList.drop off).take (ln * sz)) (fun r hr=>?_) ?_ (fun j u hj=>?_) (by rw [hrl];exact hlc) hcm (fun i r j x hr hx=>?_)
       ·rw [hrl] at this;exact this
       ·obtain ⟨i,hi⟩:=List.getElem?_of_mem hr;obtain ⟨h8,rfl⟩:=qj hi;rw [List.length_take,List.length_drop,hxl];have:(i+1) * sz≤ln * sz:=Nat.mul_le_mul_right _ h8;rw [Nat.add_mul,Nat.one_mul] at this;omega
       ·rw [hrl,List.length_take,List.length_drop,←h7.1];omega
       ·rw [List.getElem?_take] at hj;split at hj
        ·rw [List.getElem?_drop] at hj;have hlt:=(List.getElem?_eq_some_iff.1 hj).1;refine ⟨?_,?_⟩
         ·simp only [World.cell?,h4]
          simpa using hj
         ·unfold frz
          rw [if_neg (by omega),if_neg (fun hab=>by
           rcases hab with ⟨o2,H,ho2,hf⟩ | ⟨o2,f,ho2,hf⟩ <;>
            (have he:=hs.ex o o2 (W.blk o) (by rw [hob];rfl) (by rw [ho2];exact hf)
             subst he;rw [hob] at ho2;cases ho2)),h4]
          simp at hlt ⊢;omega
        ·cases hj
       ·obtain ⟨h8,rfl⟩:=qj hr;rw [List.getElem?_take] at hx;split at hx
        ·rename_i hj;rw [List.getElem?_drop] at hx;have h9:(((cs.drop off).take (ln * sz)).map Cl.dt)[i * sz+j]? = some (some x):=by rw [hall,List.getElem?_map,hx];rfl
         rw [List.getElem?_map,Option.map_eq_some_iff] at h9;obtain ⟨c,hc,hcd⟩:=h9
         have hlt:i * sz+j < ln * sz:=by
          have:(i+1) * sz≤ln * sz:=Nat.mul_le_mul_right _ h8;rw [Nat.add_mul,Nat.one_mul] at this;omega
         rw [List.getElem?_take,if_pos hlt,List.getElem?_drop] at hc;obtain ⟨u,hu⟩:∃ u,arr.toList[off+(i * sz+j)]? = some u:=⟨_,List.getElem?_eq_getElem (by have:=(List.getElem?_eq_some_iff.1 hc).1;rw [←h7.1];exact this)⟩
         refine ⟨u,by rw [List.getElem?_take,if_pos hlt,List.getElem?_drop];exact hu,RD.ext (lq hs) (RC.dt (h7.2 _ _ _ hc hu) hcd)⟩
        ·cases hx
      ·cases hp
     ·cases hp
    ·cases hp
   ·exact RP.ext (lq hs) (RA.pa (hs.sl t) hp)
 | cell c t =>
   simp only [lU,Option.map_eq_some_iff] at hr;obtain ⟨k,hk,rfl⟩:=hr;obtain ⟨d,i,hu,hi,hkk⟩:=lH hk;simp only [St.res1] at hp;split at hp
   ·rename_i o g off hsl;split at hp
    ·rename_i hg;split at hp
     ·rename_i cs hob;simp only [Option.bind_eq_some_iff] at hp;obtain ⟨v,hv,hp⟩:=hp;have h1:=hs.sl c;rw [hsl] at h1;have h2:=h1.2.2 hg.symm;have hro:=hs.ob o;rw [hob] at hro;obtain ⟨arr,T,h4,h5,h6,h7⟩:=hro
      have hcell:∀ (j:Nat) u,arr.toList[j]? = some u→w.cell? ⟨W.blk o,j,none⟩=some u:=fun j u hj=>by
       simp only [World.cell?,h4]
       simpa using hj
      have hag:=iE (P:=P) hu w;unfold l7;dsimp only;rw [h2]
      rcases jP h7 hv with ⟨rfl,c',u,e1,e2,rfl,e3⟩ | ⟨m,rfl,e1,rfl,e2⟩
      ·have hf:jh d=false:=by cases h:jh d <;> simp [h] at hkk ⊢
       rw [hf] at hag;refine ⟨u,?_,RP.ext (lq hs) (RA.pa (G:=s.gen) (O:=s.ob) (v:=.b (.one c')) e3 hp)⟩;simp [asAddr,loadVar,hag,hcell off u e2]
      ·have ht:jh d=true:=by cases h:jh d <;> simp [h] at hkk ⊢
       rw [ht] at hag hkk;simp at hkk;subst hkk;have hlen:((arr.toList.drop off).take i.size).length=i.size:=by simp at e1 ⊢;omega
       have hl:=run_loadCells_list (P:=P) w ⟨W.blk o,off,none⟩ ((arr.toList.drop off).take i.size) (fun j u hj=>by
        rw [addr_add];rw [List.getElem?_take] at hj;split at hj
        ·rw [List.getElem?_drop] at hj;exact hcell _ _ hj
        ·cases hj)
       rw [hlen] at hl;refine ⟨.agg ((arr.toList.drop off).take i.size).toArray,?_,RP.ext (lq hs) (RA.pa (G:=s.gen) (O:=s.ob) (v:=.b (.agg ((cs.drop off).take i.size))) ⟨_,rfl,by simpa using e2⟩ hp)⟩;simp only [asAddr,Sem.run_bind,Sem.run_pure,Result.andThen_ok,loadVar,hag,if_true,sizeOf,typeInfo,run_program,hi,hl]
     ·cases hp
    ·cases hp
   ·cases hp
theorem o9 [Bor] {P:Program} {n:Nat} {w0:World} {S0:Nat→Nat} {W:Wit} {s:St} {a:Act} {w:World} (hs:Sim w0 S0 n W s a w):∀ (rvs:List ResultVar) (prs:List PR) (ps:List Pa),au (rvs.map (lU P))=some prs→s.res prs=some ps→((∀ b,¬ Bor.fp b)∨prs.all (HY s)=true) →
 ∃ vs:List Value,(rvs.mapM (l7 a.tmps)).run P w=.ok vs w∧ps.length=vs.length∧∀ (i:Nat) p u,ps[i]? = some p→vs[i]? = some u→RP (frz w0 W s w) w p u
 | [],prs,ps,h1,h2,hn=>by
   simp [au] at h1;subst h1;simp [St.res,au] at h2;subst h2;exact ⟨[],by simp,rfl,fun i p u h=>by simp at h⟩
 | rv :: rvs,prs,ps,h1,h2,hn=>by
   simp only [List.map_cons] at h1
   cases hr:lU P rv with
   | none=>rw [hr] at h1;simp [au] at h1
   | some r =>
     rw [hr] at h1;simp only [au,Option.map_eq_some_iff] at h1;obtain ⟨prs',hp,rfl⟩:=h1;simp only [St.res,List.map_cons] at h2
     cases hr1:s.res1 r with
     | none=>rw [hr1] at h2;simp [au] at h2
     | some p =>
       rw [hr1] at h2;simp only [au,Option.map_eq_some_iff] at h2;obtain ⟨ps',hps,rfl⟩:=h2;obtain ⟨v,h3,h4⟩:=FC hs hr hr1 (hn.imp id fun h=>by simp only [List.all_cons,Bool.and_eq_true] at h;exact h.1)
       obtain ⟨vs,h5,h6,h7⟩:=o9 hs rvs prs' ps' hp hps (hn.imp id fun h=>by simp only [List.all_cons,Bool.and_eq_true] at h;exact h.2)
       refine ⟨v :: vs,?_,by simp [h6],fun i q u e1 e2=>?_⟩
       ·rw [List.mapM_cons,Sem.run_bind,h3,Result.andThen_ok,Sem.run_bind,h5];rfl
       ·cases i with
        | zero=>simp at e1 e2;subst e1;subst e2;exact h4
        | succ i=>exact h7 i q u (by simpa using e1) (by simpa using e2)
theorem fD.none {w w':World} {B:Nat} (h:@fD zn B w w'):Below B w w':=by
 letI:Bor:=zn
 exact ⟨h.os,h.tape,h.output,h.size,fun k hk=>h.block k hk (wU k)⟩
theorem bQ [I:bN] {P:Program} {env:Env} (hE:ay P env) {eqs:List (Nat×List Bool)} (heq:∀ p,p ∈ eqs→EqT P p.1 p.2) (hm:P.follows .mixedOrders=true) {f:Nat} {fn:Func} {c:Code} {pc:PC} {prs:List PR} (hf:P.funcs[f]? = some fn) (hb:fn.body=some c)
 (hc:bW P fn.ntmps eqs c=some pc) (hback:backs pc=true) (hsm:Nat.ble fn.ntmps d9=true) (hr:au (fn.results.toList.map (lU P))=some prs) {R:List Pa→List Pa→Prop}
 (hR:∀ az rs,R az rs→az.length≤fn.ntmps∧pwp env pc (fun e s=>(e=.normal∨e=.ret)∧s.res prs=some rs) (St.init az)):Spec P f R:=by
 intro az rs has S w vals hwi hvals;obtain ⟨hlen,hw⟩:=hR az rs has
 letI:Bor:=zn
 refine calls_of_wp hf hb ?_
 have hinit:Sim w S fn.ntmps (W00 (fun _=>0) S) (St.init az) { tmps:=vals ++ Array.replicate (fn.ntmps - vals.size) undef,defers:=[] } w:=by
  refine ⟨fD.refl _ _,fun _ _=>rfl,?_,rfl,fun x=>?_,fun _=>trivial,fun o o' b h=>h.elim,(fun b h=>by cases h),rfl,fun b=>⟨fun h=>h.elim,fun h=>h rfl⟩,Nat.le_of_ble_eq_true hsm,fun b h=>h.elim⟩
  ·have:=hvals.1;simp;omega
  ·show RA _ _ _ _ (match az[x]? with | some p=>.b p.bv | none=>.un) _
   cases hx:az[x]? with
   | none=>trivial
   | some p =>
     have hlt:x < vals.size:=by rw [←hvals.1];exact (List.getElem?_eq_some_iff.1 hx).1
     have:(vals ++ Array.replicate (fn.ntmps - vals.size) undef).getD x undef=vals[x]:=by
      rw [Array.getD_eq_getD_getElem?,Array.getElem?_append_left hlt,Array.getElem?_eq_getElem hlt];rfl
     rw [this];exact RP.av (W:=(W00 (fun _=>0) S)) (hvals.2 x p _ hx (Array.getElem?_eq_getElem hlt))
 refine wp_mono (jJ hE (fun w2 h2=>I.keep _ _ (fD.none h2) hwi) heq hm c pc hc hback _ _ _ _ _ hw hinit) (fun e a' w' he=>?_);obtain ⟨W',s',hs',hret,hres⟩:=he
 have hfin:bodyPost P fn (fun e w'=>∃ v S',e=.returned v∧RR S' w' rs v∧Below w.heap.size w w'∧∀ b,b < w.heap.size→S' b=S b) .ret a' w':=by
  refine ⟨hs'.dfs,?_⟩;obtain ⟨vs,h1,h2,h3⟩:=o9 (P:=P) hs' fn.results.toList prs rs hr hres (.inl wU)
  have h4:(results fn a'.tmps).run P w'=.ok (if h:vs.length=1 then vs[0] else .tuple vs.toArray) w':=by
   have h5:results fn a'.tmps=(fn.results.mapM (l7 a'.tmps)) >>= fun vs=>pure (if h:vs.size=1 then vs[0] else .tuple vs):=by
    unfold results
    congr 1
   have h6:fn.results=fn.results.toList.toArray:=by simp
   rw [h5,h6,List.mapM_toArray,Sem.run_bind,Sem.run_map,h1];simp
  refine ⟨_,h4,_,frz w W' s' w',rfl,?_,fD.none hs'.below,fun b hb=>by unfold frz;rw [if_pos hb];exact hs'.s0 b hb⟩
  match rs,vs,h2,h3 with
  | [],_,_,_=>trivial
  | [p],[v],_,h3=>exact h3 0 p v rfl rfl
  | p :: q :: r,vs,h2,h3 =>
    have hne:¬ vs.length=1:=by rw [←h2];simp
    rw [dif_neg hne];exact ⟨vs.toArray,rfl,by simpa using h2,fun i p u e1 e2=>h3 i p u e1 (by simpa using e2)⟩
 rcases hret with rfl | rfl
 ·exact hfin
 ·exact hfin
def St.Ij (s:St) (x:Nat):Option (Nat×Nat×List (List Dt)):=match s.sl x with
 | .b (.one (.own o g rows))=>if s.gen o=g then (match s.ob o with
   | .row E sz n=>if n=rows.length then some (E,sz,rows) else none
   | _=>none) else none
 | _=>none
theorem lY [I:bN] {P:Program} {env:Env} (hE:ay P env) {eqs:List (Nat×List Bool)} (heq:∀ p,p ∈ eqs→EqT P p.1 p.2) (hm:P.follows .mixedOrders=true) {f:Nat} {fn:Func} {c:Code} {pc:PC} {t:Nat} (hf:P.funcs[f]? = some fn) (hb:fn.body=some c)
 (hc:bW P fn.ntmps eqs c=some pc) (hback:backs pc=true) (hsm:Nat.ble fn.ntmps d9=true) (hr:fn.results=#[.tmp t]) {R:List Pa→Nat→Nat→List (List Dt)→Prop}
 (hR:∀ az E sz rows,R az E sz rows→az.length≤fn.ntmps∧pwp env pc (fun e s=>(e=.normal∨e=.ret)∧s.Ij t=some (E,sz,rows)) (St.init az)):uw P f R:=by
 intro az E sz rows has S w vals hwi hvals;obtain ⟨hlen,hw⟩:=hR az E sz rows has
 letI:Bor:=zn
 refine calls_of_wp hf hb ?_
 have hinit:Sim w S fn.ntmps (W00 (fun _=>0) S) (St.init az) { tmps:=vals ++ Array.replicate (fn.ntmps - vals.size) undef,defers:=[] } w:=by
  refine ⟨fD.refl _ _,fun _ _=>rfl,?_,rfl,fun x=>?_,fun _=>trivial,fun o o' b h=>h.elim,(fun b h=>by cases h),rfl,fun b=>⟨fun h=>h.elim,fun h=>h rfl⟩,Nat.le_of_ble_eq_true hsm,fun b h=>h.elim⟩
  ·have:=hvals.1;simp;omega
  ·show RA _ _ _ _ (match az[x]? with | some p=>.b p.bv | none=>.un) _
   cases hx:az[x]? with
   | none=>trivial
   | some p =>
     have hlt:x < vals.size:=by rw [←hvals.1];exact (List.getElem?_eq_some_iff.1 hx).1
     have:(vals ++ Array.replicate (fn.ntmps - vals.size) undef).getD x undef=vals[x]:=by
      rw [Array.getD_eq_getD_getElem?,Array.getElem?_append_left hlt,Array.getElem?_eq_getElem hlt];rfl
     rw [this];exact RP.av (W:=(W00 (fun _=>0) S)) (hvals.2 x p _ hx (Array.getElem?_eq_getElem hlt))
 refine wp_mono (jJ hE (fun w2 h2=>I.keep _ _ (fD.none h2) hwi) heq hm c pc hc hback _ _ _ _ _ hw hinit) (fun e a' w' he=>?_);obtain ⟨W',s',hs',hret,hres⟩:=he
 have hfin:bodyPost P fn (fun e w'=>∃ v S' xs,e=.returned v∧RD S' w' (.im rows) v∧Below w.heap.size w w'∧(∀ b,b < w.heap.size→S' b=S b)∧aZ w' w.heap.size E sz v rows.length xs∧(∀ r,r ∈ rows→r.length=sz)∧∀ g,v.ownBlock=some g→S' g≤rows.length * sz) .ret a' w':=by
  refine ⟨hs'.dfs,?_⟩
  have h4:(results fn a'.tmps).run P w'=.ok (a'.tmps.getD t undef) w':=by
   unfold results;rw [hr];simp [l7,Sem.run_bind]
  unfold St.Ij at hres;split at hres
  ·rename_i o g rows' hsl;split at hres
   ·rename_i hg;split at hres
    ·rename_i E' sz' n' hob;split at hres
     ·rename_i hn;simp only [Option.some.injEq,Prod.mk.injEq] at hres;obtain ⟨rfl,rfl,rfl⟩:=hres;have h1:=hs'.sl t;rw [hsl] at h1;obtain ⟨hd,_,hown⟩:=h1;obtain ⟨q1,_,q3⟩:=hown hg.symm _ _ _ hob;have hro:=hs'.ob o;rw [hob] at hro;obtain ⟨xs,hxs,hxS⟩:=hro;have hv:=q3 hn;rw [←hv,hn] at hxs;rw [←hv,hn] at hxS;exact ⟨_,h4,_,W'.S,xs,rfl,hd,fD.none hs'.below,fun b hb=>hs'.s0 b hb,hxs,q1,hxS⟩
     ·cases hres
    ·cases hres
   ·cases hres
  ·cases hres
 rcases hret with rfl | rfl
 ·exact hfin
 ·exact hfin
def St.eG (nc:Nat→Nat) (hp:Nat→Hb) (az:List Hw):St:=⟨fun x=>match az[x]? with | some p=>.b p.bv | none=>.un,fun _=>0,fun o=>if HBS≤o then .hp (fun b=>if HBS+nc b=o then hp b else .no) else .no,nc⟩
theorem nI (nc:Nat→Nat) (hp:Nat→Hb) (az:List Hw):(St.eG nc hp az).hb=hp:=by
 funext b
 show dA (if HBS≤HBS+nc b then _ else _) b=hp b
 rw [if_pos (Nat.le_add_right _ _)]
 show (if HBS+nc b=HBS+nc b then hp b else .no)=_
 rw [if_pos rfl]
def St.uP (s:St):PR→Option Hw
 | .t x=>(s.sl x).hw
 | .c x k=>match s.sl x with
   | .b (.one (.ptr o g off))=>if s.gen o=g then (match s.ob o with | .cells cs=>(kG k cs off).bind Av.hw | _=>none) else none
   | .b (.one (.hv (.p b off)))=>match s.hb b with
     | .cells cs=>(kG k (cs.map Hc.cl) off).bind Av.hw
     | _=>none
   | _=>none
def St.jf (s:St) (rs:List PR):Option (List Hw):=au (rs.map s.uP)
theorem Du [Bor] {n:Nat} {w0:World} {S0:Nat→Nat} {W:Wit} {s:St} {a:Act} {w:World} {v:Av} {u:Hw} {rv':Value} (h:RA W s.gen s.ob w v rv') (hv:v.hw=some u):RB W s.gen s.ob w u.bv rv':=by
 unfold Av.hw at hv;split at hv
 ·rename_i y
  cases y with
  | one c =>
    simp only [Bv.hw,Option.map_eq_some_iff] at hv;obtain ⟨z,hz,rfl⟩:=hv;exact RC.hc h hz
  | agg cs =>
    simp only [Bv.hw,Option.map_eq_some_iff] at hv;obtain ⟨z,hz,rfl⟩:=hv;obtain ⟨arr,h1,h2⟩:=h;exact ⟨arr,h1,h2.hcs hz⟩
 ·cases hv
theorem sG {P:Program} {t:TypeId} {d:TypeDesc} {i:TypeInfo} {k:Option Nat} (hu:P.underlying t=some d) (hi:P.info? t=some i) (hk:k=if jh d=true then some i.size else none) {W:Wit} {s:St} {w:World} {b off:Nat} {cs:List Cl} {arr:Array Value} {v:Av}
 (hr:RCs W s.gen s.ob w cs arr.toList) (hcell:∀ (j:Nat) u,arr.toList[j]? = some u→w.cell? ⟨b,j,none⟩=some u) (hv:kG k cs off=some v):∃ rv',(loadVar t ⟨b,off,none⟩).run P w=.ok rv' w∧RA W s.gen s.ob w v rv':=by
 have hag:=iE (P:=P) hu w
 rcases jP hr hv with ⟨rfl,c',u,e1,e2,rfl,e3⟩ | ⟨m,rfl,e1,rfl,e2⟩
 ·have hf:jh d=false:=by cases h:jh d <;> simp [h] at hk ⊢
  rw [hf] at hag;exact ⟨u,by simp [loadVar,hag,hcell off u e2],e3⟩
 ·have ht:jh d=true:=by cases h:jh d <;> simp [h] at hk ⊢
  rw [ht] at hag hk;simp at hk;subst hk;have hlen:((arr.toList.drop off).take i.size).length=i.size:=by simp at e1 ⊢;omega
  have hl:=run_loadCells_list (P:=P) w ⟨b,off,none⟩ ((arr.toList.drop off).take i.size) (fun j u hj=>by
   rw [addr_add];rw [List.getElem?_take] at hj;split at hj
   ·rw [List.getElem?_drop] at hj;exact hcell _ _ hj
   ·cases hj)
  rw [hlen] at hl;refine ⟨.agg ((arr.toList.drop off).take i.size).toArray,?_,_,rfl,by simpa using e2⟩;simp only [loadVar,hag,Sem.run_bind,Result.andThen_ok,if_true,sizeOf,typeInfo,run_program,hi,hl,Sem.run_pure]
theorem CX [Bor] {P:Program} {n:Nat} {w0:World} {S0:Nat→Nat} {W:Wit} {s:St} {a:Act} {w:World} (hs:Sim w0 S0 n W s a w) {rv0:ResultVar} {r:PR} {p:Hw} (hr:lU P rv0=some r) (hp:s.uP r=some p) :
 ∃ v,(l7 a.tmps rv0).run P w=.ok v w∧RB W s.gen s.ob w p.bv v:=by
 cases rv0 with
 | tmp t=>cases hr;exact ⟨_,rfl,Du (n:=n) (w0:=w0) (S0:=S0) (a:=a) (hs.sl t) hp⟩
 | cell c t =>
   simp only [lU,Option.map_eq_some_iff] at hr;obtain ⟨k,hk,rfl⟩:=hr;obtain ⟨d,i,hu,hi,hkk⟩:=lH hk;simp only [St.uP] at hp;split at hp
   ·rename_i o g off hsl;split at hp
    ·rename_i hg;split at hp
     ·rename_i cs hob;simp only [Option.bind_eq_some_iff] at hp;obtain ⟨v,hv,hp⟩:=hp;have h1:=hs.sl c;rw [hsl] at h1;have h2:=h1.2.2 hg.symm;have hro:=hs.ob o;rw [hob] at hro;obtain ⟨arr,T,h4,h5,h6,h7⟩:=hro;obtain ⟨rv',g1,g2⟩:=sG (P:=P) hu hi hkk (b:=W.blk o) h7 (fun j u hj=>by simp only [World.cell?,h4];simpa using hj) hv
      refine ⟨rv',?_,Du (n:=n) (w0:=w0) (S0:=S0) (a:=a) g2 hp⟩;unfold l7;dsimp only;rw [h2];simp [asAddr,g1]
     ·cases hp
    ·cases hp
   ·rename_i b off hsl;split at hp
    ·rename_i cs hb;simp only [Option.bind_eq_some_iff] at hp;obtain ⟨v,hv,hp⟩:=hp;have h1:=hs.sl c;rw [hsl] at h1;have h2:a.tmps.getD c undef=.pointer (some ⟨W.nm b,off,none⟩):=h1.1;obtain ⟨⟨arr,T,h4,h7⟩,_⟩:=nM hs hb (by simp);obtain ⟨rv',g1,g2⟩:=sG (P:=P) hu hi hkk (b:=W.nm b) h7 (fun j u hj=>by simp only [World.cell?,h4];simpa using hj) hv
     refine ⟨rv',?_,Du (n:=n) (w0:=w0) (S0:=S0) (a:=a) g2 hp⟩;unfold l7;dsimp only;rw [h2];simp [asAddr,g1]
    ·cases hp
   ·cases hp
theorem oJ [Bor] {P:Program} {n:Nat} {w0:World} {S0:Nat→Nat} {W:Wit} {s:St} {a:Act} {w:World} (hs:Sim w0 S0 n W s a w):∀ (rvs:List ResultVar) (prs:List PR) (ps:List Hw),au (rvs.map (lU P))=some prs→s.jf prs=some ps →
 ∃ vs:List Value,(rvs.mapM (l7 a.tmps)).run P w=.ok vs w∧ps.length=vs.length∧∀ (i:Nat) p u,ps[i]? = some p→vs[i]? = some u→RB W s.gen s.ob w p.bv u
 | [],prs,ps,h1,h2=>by
   simp [au] at h1;subst h1;simp [St.jf,au] at h2;subst h2;exact ⟨[],by simp,rfl,fun i p u h=>by simp at h⟩
 | rv0 :: rvs,prs,ps,h1,h2=>by
   simp only [List.map_cons] at h1
   cases hr:lU P rv0 with
   | none=>rw [hr] at h1;simp [au] at h1
   | some r =>
     rw [hr] at h1;simp only [au,Option.map_eq_some_iff] at h1;obtain ⟨prs',hp,rfl⟩:=h1;simp only [St.jf,List.map_cons] at h2
     cases hr1:s.uP r with
     | none=>rw [hr1] at h2;simp [au] at h2
     | some p =>
       rw [hr1] at h2;simp only [au,Option.map_eq_some_iff] at h2;obtain ⟨ps',hps,rfl⟩:=h2;obtain ⟨v,h3,h4⟩:=CX hs hr hr1;obtain ⟨vs,h5,h6,h7⟩:=oJ hs rvs prs' ps' hp hps;refine ⟨v :: vs,?_,by simp [h6],fun i q u e1 e2=>?_⟩
       ·rw [List.mapM_cons,Sem.run_bind,h3,Result.andThen_ok,Sem.run_bind,h5];rfl
       ·cases i with
        | zero=>simp at e1 e2;subst e1;subst e2;exact h4
        | succ i=>exact h7 i q u (by simpa using e1) (by simpa using e2)
def Wit.fin (W:Wit) (S':Nat→Nat):Wit:={ W with S:=S' }
theorem RHp.uj {W:Wit} {w:World} {hp:Nat→Hb} (h:RHp W w hp) (nc:Nat→Nat) (az:List Hw) {o:Nat} (ho:HBS≤o) [Bor] (hB:∀ k,bV W hp k→Bor.fp k) :
 RP' w.heap.size { W with nc:=nc,blk:=fun _=>0,val:=fun _=>undef,adr:=fun _=>undef,fp:=fun _ _=>False } (St.eG nc hp az).gen (St.eG nc hp az).ob w o (fun b=>if HBS+nc b=o then hp b else .no):=by
 refine ⟨fun b hn=>?_,fun b hn=>?_,fun b k hk=>?_,fun b=>?_,fun b b' k e1 e2=>?_⟩
 ·split at hn
  ·rename_i he;exact he
  ·exact absurd rfl hn
 ·split at hn
  ·exact (h.lv b).2 hn
  ·exact absurd rfl hn
 ·split at hk
  ·have hk':=(hcl.indep (W:=W) rfl rfl rfl b (hp b) k).1 hk;exact ⟨.inr (hB k ⟨b,hk'⟩),(h.mine b k hk').1,(h.mine b k hk').2⟩
  ·exact hk.elim
 ·split
  ·refine RH.indep (W:=W) ?_ ?_ ?_ ?_ ?_ (h.at_ b) <;> rfl
  ·trivial
 ·split at e1
  ·split at e2
   ·exact h.ex b b' k ((hcl.indep (W:=W) rfl rfl rfl b (hp b) k).1 e1) ((hcl.indep (W:=W) rfl rfl rfl b' (hp b') k).1 e2)
   ·exact e2.elim
  ·exact e1.elim
theorem RHp.dead {W:Wit} {w:World} {hp hp':Nat→Hb} (h:RHp W w hp) (hd:∀ b,hp' b=hp b∨(hp' b=.dead∧hp b≠.no)):RHp W w hp':=by
 have hc:∀ b k,hcl W b (hp' b) k→hcl W b (hp b) k:=fun b k hk=>by
  rcases hd b with e | ⟨e,_⟩
  ·rw [←e];exact hk
  ·rw [e] at hk;exact hk.elim
 refine ⟨fun b=>?_,fun b k hk=>h.mine b k (hc b k hk),fun b=>?_,fun b b' k e1 e2=>h.ex b b' k (hc b k e1) (hc b' k e2)⟩
 ·rw [h.lv b]
  rcases hd b with e | ⟨e,e2⟩
  ·rw [e]
  ·rw [e];exact ⟨fun _=>by simp,fun _=>e2⟩
 ·rcases hd b with e | ⟨e,_⟩
  ·rw [e];exact h.at_ b
  ·rw [e];trivial
theorem jL [I:bN] {P:Program} {env:Env} (hE:ay P env) {eqs:List (Nat×List Bool)} (heq:∀ p,p ∈ eqs→EqT P p.1 p.2) (hm:P.follows .mixedOrders=true) {f:Nat} {fn:Func} {c:Code} {pc:PC} {prs:List PR} (hf:P.funcs[f]? = some fn) (hb:fn.body=some c)
 (hc:bW P fn.ntmps eqs c=some pc) (hback:backs pc=true) (hsm:Nat.ble fn.ntmps d9=true) (hr:au (fn.results.toList.map (lU P))=some prs) {R:(Nat→Hb)→List Hw→((Nat→Hb)→List Hw→Prop)→Prop}
 (hR:∀ hp az Post,R hp az Post→az.length≤fn.ntmps∧∃ nc,pwp env pc (fun e s=>(e=.normal∨e=.ret)∧∃ hp' rs,s.jf prs=some rs∧(∀ b,hp' b=s.hb b∨(hp' b=.dead∧s.hb b≠.no))∧Post hp' rs) (St.eG nc hp az)):jW P f R:=by
 intro hp az Post has W w vals hI hrp hvals;obtain ⟨hlen,nc,hw⟩:=hR hp az Post has
 letI:Bor:=⟨none,bV W hp,W.lv,W.nm,W.nv,[]⟩
 have hfpB:∀ k,Bor.fp k↔bV W hp k:=fun k=>⟨fun h=>h.elim (fun h=>by cases h) id,.inr⟩
 have toF:∀ {w':World},fD w.heap.size w w'→jF (bV W hp) w w':=fun h=>⟨h.os,h.tape,h.output,h.size,fun k hk hne=>h.block k hk (fun e=>hne ((hfpB k).1 e))⟩
 obtain ⟨W0,hW0⟩:∃ W0:Wit,{ W with nc:=nc,blk:=fun _=>0,val:=fun _=>undef,adr:=fun _=>undef,fp:=fun _ _=>False }=W0:=⟨_,rfl⟩
 refine calls_of_wp hf hb ?_
 have hcl0:∀ o b,cl W0 o ((St.eG nc hp az).ob o) b→HBS≤o∧∃ m,HBS+nc m=o∧hcl W m (hp m) b:=fun o b h=>by
  have h':cl W0 o (if HBS≤o then .hp (fun b=>if HBS+nc b=o then hp b else .no) else .no) b:=h;split at h'
  ·rename_i ho;obtain ⟨m,hm2⟩:=h';dsimp only at hm2;split at hm2
   ·rename_i he;exact ⟨ho,m,he,(hcl.indep (W:=W) (by rw [←hW0]) (by rw [←hW0]) (by rw [←hW0]) m (hp m) b).1 hm2⟩
   ·exact hm2.elim
  ·exact h'.elim
 have hinit:Sim w W.S fn.ntmps W0 (St.eG nc hp az) { tmps:=vals ++ Array.replicate (fn.ntmps - vals.size) undef,defers:=[] } w:=by
  refine ⟨fD.refl _ _,fun b _=>by rw [←hW0],?_,rfl,fun x=>?_,fun o=>?_,fun o o' b h h'=>?_,(fun b h=>by cases h),by rw [←hW0];rfl,fun b=>by rw [nI,←hW0];exact hrp.lv b,Nat.le_of_ble_eq_true hsm,fun b hb2=>by rw [←hW0];exact ⟨hb2,rfl,rfl⟩⟩
  ·have:=hvals.1;simp;omega
  ·show RA _ _ _ _ (match az[x]? with | some p=>.b p.bv | none=>.un) _
   cases hx:az[x]? with
   | none=>trivial
   | some p =>
     have hlt:x < vals.size:=by rw [←hvals.1];exact (List.getElem?_eq_some_iff.1 hx).1
     have:(vals ++ Array.replicate (fn.ntmps - vals.size) undef).getD x undef=vals[x]:=by
      rw [Array.getD_eq_getD_getElem?,Array.getElem?_append_left hlt,Array.getElem?_eq_getElem hlt];rfl
     rw [this];exact RB.indep (W:=W) (by rw [←hW0]) (by rw [←hW0]) (by rw [←hW0]) (by rw [←hW0]) (hvals.2 x p _ hx (Array.getElem?_eq_getElem hlt))
  ·show RO _ _ _ _ _ _ (if HBS≤o then .hp (fun b=>if HBS+nc b=o then hp b else .no) else .no)
   split
   ·rename_i ho;rw [←hW0];exact hrp.uj nc az ho (fun k hk=>(hfpB k).2 hk)
   ·trivial
  ·obtain ⟨_,m,h1,h2⟩:=hcl0 o b h;obtain ⟨_,m',h3,h4⟩:=hcl0 o' b h';have:=hrp.ex m m' b h2 h4;subst this;rw [←h1,←h3]
 refine wp_mono (jJ hE (fun w2 h2=>hI w2 (toF h2)) heq hm c pc hc hback _ _ _ _ _ hw hinit) (fun e a' w' he=>?_);obtain ⟨W',s',hs',hret,hp',rs,hres,hhb,hPost⟩:=he
 have hfin:bodyPost P fn (fun e w'=>∃ hp' rs,Post hp' rs∧∃ u W',e=.returned u∧RRH W' w' rs u∧RHp W' w' hp'∧(∀ b,W.lv b→W'.lv b∧W'.nm b=W.nm b∧W'.nv b=W.nv b)∧jF (bV W hp) w w'∧(∀ k,bV W' hp' k→bV W hp k∨w.heap.size≤k)∧∀ k,k < w.heap.size→W'.S k=W.S k) .ret a' w':=by
  refine ⟨hs'.dfs,?_⟩;obtain ⟨vs,h1,h2,h3⟩:=oJ (P:=P) hs' fn.results.toList prs rs hr hres
  have h4:(results fn a'.tmps).run P w'=.ok (if h:vs.length=1 then vs[0] else .tuple vs.toArray) w':=by
   have h5:results fn a'.tmps=(fn.results.mapM (l7 a'.tmps)) >>= fun vs=>pure (if h:vs.size=1 then vs[0] else .tuple vs):=by
    unfold results
    congr 1
   have h6:fn.results=fn.results.toList.toArray:=by simp
   rw [h5,h6,List.mapM_toArray,Sem.run_bind,Sem.run_map,h1];simp
  have hext:=lq hs';obtain ⟨Wf,hWf⟩:∃ Wf:Wit,W'.fin (frz w W' s' w')=Wf:=⟨_,rfl⟩
  have hfolf:∀ G O,Fol W' G O w' Wf G O w':=fun G O=>by
   rw [←hWf];exact ⟨hext,fun _=>Nat.le_refl _,fun _ _=>rfl,fun o E sz k _ ho=>⟨k,ho,Nat.le_refl _,fun _=>rfl⟩,fun _ _=>rfl,fun _ h=>⟨h,rfl,rfl⟩,rfl⟩
  obtain ⟨hrp',hmine'⟩:=hs'.rhp;have hrp0:=hrp'
  replace hrp':RHp W' w' hp':=hrp'.dead hhb
  replace hmine':∀ b k,hcl W' b (hp' b) k→Mine w.heap.size k∧∃ f,s'.ob (HBS+s'.nc b)=.hp f∧f b=hp' b:=fun b k hk=>by
   rcases hhb b with h | ⟨h,_⟩
   ·rw [h] at hk ⊢;exact hmine' b k hk
   ·rw [h] at hk;exact hk.elim
  have hclf:∀ b k,hcl Wf b (hp' b) k↔hcl W' b (hp' b) k:=fun b k=>hcl.indep (by rw [←hWf];rfl) (by rw [←hWf];rfl) (by rw [←hWf];rfl) b _ k
  have hSf:∀ k,Wf.S k=frz w W' s' w' k:=fun k=>by rw [←hWf];rfl
  have hS0:∀ b k,hcl W' b (hp' b) k→frz w W' s' w' k=0:=fun b k hk=>by
   unfold frz;split
   ·exact (hrp'.mine b k hk).1
   ·rw [if_pos];obtain ⟨_,g,hg1,hg2⟩:=hmine' b k hk;exact .inr ⟨_,g,hg1,b,by rw [hg2];exact hk⟩
  have hres2:∀ (i:Nat) p u,rs[i]? = some p→vs[i]? = some u→RHw Wf w' p u:=fun i p u e1 e2=>RB.indep rfl rfl rfl rfl (RB.fol (hfolf _ _) (h3 i p u e1 e2))
  refine ⟨_,h4,hp',rs,hPost,_,Wf,rfl,?_,⟨fun b=>by rw [←hWf];exact hrp'.lv b,fun b k hk=>⟨by rw [hSf];exact hS0 b k ((hclf b k).1 hk),(hrp'.mine b k ((hclf b k).1 hk)).2⟩,fun b=>?_,fun b b' k e1 e2=>hrp'.ex b b' k ((hclf b k).1 e1) ((hclf b' k).1 e2)⟩,fun b hl=>?_,toF hs'.below,fun k ⟨b,hk⟩=>?_,fun k hk=>?_⟩
  ·match rs,vs,h2,hres2 with
   | [],_,_,_=>trivial
   | [p],[v],_,h3=>exact h3 0 p v rfl rfl
   | p :: q :: r,vs,h2,h3 =>
     have hne:¬ vs.length=1:=by rw [←h2];simp
     rw [dif_neg hne];exact ⟨vs.toArray,rfl,by simpa using h2,fun i p u e1 e2=>h3 i p u e1 (by simpa using e2)⟩
  ·exact RH.fol (hfolf _ _) (hrp'.at_ b) (fun hn=>(hrp'.lv b).2 hn) (by rw [←hWf];rfl) (fun _ _=>rfl)
  ·have:=hs'.nm0 b hl;rw [←hWf];exact this
  ·obtain ⟨hmk,_⟩:=hmine' b k ((hclf b k).1 hk)
   rcases hmk with h | h
   ·exact .inr h
   ·exact .inl ((hfpB k).1 h)
  ·rw [hSf];unfold frz;rw [if_pos hk];exact hs'.s0 k hk
 rcases hret with rfl | rfl
 ·exact hfin
 ·exact hfin
theorem iI [I:bN] {P:Program} {env:Env} (hE:ay P env) {eqs:List (Nat×List Bool)} (heq:∀ p,p ∈ eqs→EqT P p.1 p.2) (hm:P.follows .mixedOrders=true) {f:Nat} {fn:Func} {c:Code} {pc:PC} {prs:List PR} (hf:P.funcs[f]? = some fn) (hb:fn.body=some c)
 (hc:bW P fn.ntmps eqs c=some pc) (hback:backs pc=true) (hsm:Nat.ble fn.ntmps d9=true) (hr:au (fn.results.toList.map (lU P))=some prs) {R:(Nat→Hb)→List Hw→(Nat→Hb)→List Hw→Prop}
 (hR:∀ hp az hp' rs,R hp az hp' rs→az.length≤fn.ntmps∧∃ nc,pwp env pc (fun e s=>(e=.normal∨e=.ret)∧s.jf prs=some rs∧s.hb=hp') (St.eG nc hp az)):fB P f R:=by
 intro hp az hp' rs has W w vals hI hrp hvals;obtain ⟨hlen,nc,hw⟩:=hR hp az hp' rs has
 letI:Bor:=⟨none,bV W hp,W.lv,W.nm,W.nv,[]⟩
 have hfpB:∀ k,Bor.fp k↔bV W hp k:=fun k=>⟨fun h=>h.elim (fun h=>by cases h) id,.inr⟩
 have toF:∀ {w':World},fD w.heap.size w w'→jF (bV W hp) w w':=fun h=>⟨h.os,h.tape,h.output,h.size,fun k hk hne=>h.block k hk (fun e=>hne ((hfpB k).1 e))⟩
 obtain ⟨W0,hW0⟩:∃ W0:Wit,{ W with nc:=nc,blk:=fun _=>0,val:=fun _=>undef,adr:=fun _=>undef,fp:=fun _ _=>False }=W0:=⟨_,rfl⟩
 refine calls_of_wp hf hb ?_
 have hcl0:∀ o b,cl W0 o ((St.eG nc hp az).ob o) b→HBS≤o∧∃ m,HBS+nc m=o∧hcl W m (hp m) b:=fun o b h=>by
  have h':cl W0 o (if HBS≤o then .hp (fun b=>if HBS+nc b=o then hp b else .no) else .no) b:=h;split at h'
  ·rename_i ho;obtain ⟨m,hm2⟩:=h';dsimp only at hm2;split at hm2
   ·rename_i he;exact ⟨ho,m,he,(hcl.indep (W:=W) (by rw [←hW0]) (by rw [←hW0]) (by rw [←hW0]) m (hp m) b).1 hm2⟩
   ·exact hm2.elim
  ·exact h'.elim
 have hinit:Sim w W.S fn.ntmps W0 (St.eG nc hp az) { tmps:=vals ++ Array.replicate (fn.ntmps - vals.size) undef,defers:=[] } w:=by
  refine ⟨fD.refl _ _,fun b _=>by rw [←hW0],?_,rfl,fun x=>?_,fun o=>?_,fun o o' b h h'=>?_,(fun b h=>by cases h),by rw [←hW0];rfl,fun b=>by rw [nI,←hW0];exact hrp.lv b,Nat.le_of_ble_eq_true hsm,fun b hb2=>by rw [←hW0];exact ⟨hb2,rfl,rfl⟩⟩
  ·have:=hvals.1;simp;omega
  ·show RA _ _ _ _ (match az[x]? with | some p=>.b p.bv | none=>.un) _
   cases hx:az[x]? with
   | none=>trivial
   | some p =>
     have hlt:x < vals.size:=by rw [←hvals.1];exact (List.getElem?_eq_some_iff.1 hx).1
     have:(vals ++ Array.replicate (fn.ntmps - vals.size) undef).getD x undef=vals[x]:=by
      rw [Array.getD_eq_getD_getElem?,Array.getElem?_append_left hlt,Array.getElem?_eq_getElem hlt];rfl
     rw [this];exact RB.indep (W:=W) (by rw [←hW0]) (by rw [←hW0]) (by rw [←hW0]) (by rw [←hW0]) (hvals.2 x p _ hx (Array.getElem?_eq_getElem hlt))
  ·show RO _ _ _ _ _ _ (if HBS≤o then .hp (fun b=>if HBS+nc b=o then hp b else .no) else .no)
   split
   ·rename_i ho;rw [←hW0];exact hrp.uj nc az ho (fun k hk=>(hfpB k).2 hk)
   ·trivial
  ·obtain ⟨_,m,h1,h2⟩:=hcl0 o b h;obtain ⟨_,m',h3,h4⟩:=hcl0 o' b h';have:=hrp.ex m m' b h2 h4;subst this;rw [←h1,←h3]
 refine wp_mono (jJ hE (fun w2 h2=>hI w2 (toF h2)) heq hm c pc hc hback _ _ _ _ _ hw hinit) (fun e a' w' he=>?_);obtain ⟨W',s',hs',hret,hres,hhb⟩:=he
 have hfin:bodyPost P fn (fun e w'=>∃ u W',e=.returned u∧RRH W' w' rs u∧RHp W' w' hp'∧(∀ b,W.lv b→W'.lv b∧W'.nm b=W.nm b∧W'.nv b=W.nv b)∧jF (bV W hp) w w'∧(∀ k,bV W' hp' k→bV W hp k∨w.heap.size≤k)∧∀ k,k < w.heap.size→W'.S k=W.S k) .ret a' w':=by
  refine ⟨hs'.dfs,?_⟩;obtain ⟨vs,h1,h2,h3⟩:=oJ (P:=P) hs' fn.results.toList prs rs hr hres
  have h4:(results fn a'.tmps).run P w'=.ok (if h:vs.length=1 then vs[0] else .tuple vs.toArray) w':=by
   have h5:results fn a'.tmps=(fn.results.mapM (l7 a'.tmps)) >>= fun vs=>pure (if h:vs.size=1 then vs[0] else .tuple vs):=by
    unfold results
    congr 1
   have h6:fn.results=fn.results.toList.toArray:=by simp
   rw [h5,h6,List.mapM_toArray,Sem.run_bind,Sem.run_map,h1];simp
  have hext:=lq hs';obtain ⟨Wf,hWf⟩:∃ Wf:Wit,W'.fin (frz w W' s' w')=Wf:=⟨_,rfl⟩
  have hfolf:∀ G O,Fol W' G O w' Wf G O w':=fun G O=>by
   rw [←hWf];exact ⟨hext,fun _=>Nat.le_refl _,fun _ _=>rfl,fun o E sz k _ ho=>⟨k,ho,Nat.le_refl _,fun _=>rfl⟩,fun _ _=>rfl,fun _ h=>⟨h,rfl,rfl⟩,rfl⟩
  obtain ⟨hrp',hmine'⟩:=hs'.rhp;rw [hhb] at hrp' hmine';have hclf:∀ b k,hcl Wf b (hp' b) k↔hcl W' b (hp' b) k:=fun b k=>hcl.indep (by rw [←hWf];rfl) (by rw [←hWf];rfl) (by rw [←hWf];rfl) b _ k
  have hSf:∀ k,Wf.S k=frz w W' s' w' k:=fun k=>by rw [←hWf];rfl
  have hS0:∀ b k,hcl W' b (hp' b) k→frz w W' s' w' k=0:=fun b k hk=>by
   unfold frz;split
   ·exact (hrp'.mine b k hk).1
   ·rw [if_pos];obtain ⟨_,g,hg1,hg2⟩:=hmine' b k hk;exact .inr ⟨_,g,hg1,b,by rw [hg2];exact hk⟩
  have hres2:∀ (i:Nat) p u,rs[i]? = some p→vs[i]? = some u→RHw Wf w' p u:=fun i p u e1 e2=>RB.indep rfl rfl rfl rfl (RB.fol (hfolf _ _) (h3 i p u e1 e2))
  refine ⟨_,h4,_,Wf,rfl,?_,⟨fun b=>by rw [←hWf];exact hrp'.lv b,fun b k hk=>⟨by rw [hSf];exact hS0 b k ((hclf b k).1 hk),(hrp'.mine b k ((hclf b k).1 hk)).2⟩,fun b=>?_,fun b b' k e1 e2=>hrp'.ex b b' k ((hclf b k).1 e1) ((hclf b' k).1 e2)⟩,fun b hl=>?_,toF hs'.below,fun k ⟨b,hk⟩=>?_,fun k hk=>?_⟩
  ·match rs,vs,h2,hres2 with
   | [],_,_,_=>trivial
   | [p],[v],_,h3=>exact h3 0 p v rfl rfl
   | p :: q :: r,vs,h2,h3 =>
     have hne:¬ vs.length=1:=by rw [←h2];simp
     rw [dif_neg hne];exact ⟨vs.toArray,rfl,by simpa using h2,fun i p u e1 e2=>h3 i p u e1 (by simpa using e2)⟩
  ·exact RH.fol (hfolf _ _) (hrp'.at_ b) (fun hn=>(hrp'.lv b).2 hn) (by rw [←hWf];rfl) (fun _ _=>rfl)
  ·have:=hs'.nm0 b hl;rw [←hWf];exact this
  ·obtain ⟨hmk,_⟩:=hmine' b k ((hclf b k).1 hk)
   rcases hmk with h | h
   ·exact .inr h
   ·exact .inl ((hfpB k).1 h)
  ·rw [hSf];unfold frz;rw [if_pos hk];exact hs'.s0 k hk
 rcases hret with rfl | rfl
 ·exact hfin
 ·exact hfin
section
variable {P:Program}
def pF (P:Program) (t:Nat):Option Bool:=match P.underlying t with
 | some (.int _)=>some false
 | some .bool=>some true
 | _=>none
theorem wC {t:Nat} {kb:Bool} (hb:pF P t=some kb) {x y:Cl} {u v:Value} {r:Bool} {W:Wit} {G:Nat→Nat} {O:Nat→Ob} {w:World} (hx:RC W G O w x u) (hy:RC W G O w y v) (h:ug kb x y=some r) (d:Nat) :
 (Op.equalIn (d+1) t u v).run P w=.ok r w:=by
 unfold pF at hb;unfold ug at h;split at h
 ·rename_i k a k' b;split at h
  ·rename_i hk;cases h;obtain ⟨rfl,_⟩:=RD.dR hx;obtain ⟨rfl,_⟩:=RD.dR hy;rw [Op.equalIn.eq_2];split at hb
   ·rename_i k2 hu;simp [run_underlying hu,hk.2]
   ·cases hb;exact absurd hk.1 (by decide)
   ·cases hb
  ·cases h
 ·rename_i a b;split at h
  ·rename_i hk;cases h;obtain ⟨rfl,_⟩:=RD.dR hx;obtain ⟨rfl,_⟩:=RD.dR hy;rw [Op.equalIn.eq_2];split at hb
   ·cases hb;exact absurd hk (by decide)
   ·rename_i hu;simp [run_underlying hu]
   ·cases hb
  ·cases h
 ·cases h
theorem jH {t:Nat} {kb:Bool} (hb:pF P t=some kb) {xs:Array Value} {i:Nat} {u:Value} (hi:xs[i]? = some u) (w:World):(part t xs i).run P w=.ok u w:=by
 obtain ⟨d,hd,ha⟩:∃ d,P.underlying t=some d∧jh d=false:=by
  unfold pF at hb;split at hb
  ·rename_i k hu;exact ⟨_,hu,rfl⟩
  ·rename_i hu;exact ⟨_,hu,rfl⟩
  ·cases hb
 have:=iE hd w;simp [part,this,ha,hi]
theorem qw {ks:List Bool} {cs ds:List Cl} {r:Bool} {i:Nat} (h:gG (ks.drop i) (cs.drop i) (ds.drop i)=some r) {k:Bool} (hk:ks[i]? = some k) :
 ∃ x y a b,cs[i]? = some x∧ds[i]? = some y∧ug k x y=some a∧gG (ks.drop (i+1)) (cs.drop (i+1)) (ds.drop (i+1))=some b∧r=(a && b):=by
 have hlt:=(List.getElem?_eq_some_iff.1 hk).1;rw [List.drop_eq_getElem_cons hlt] at h
 rcases Nat.lt_or_ge i cs.length with h1 | h1
 ·rcases Nat.lt_or_ge i ds.length with h2 | h2
  ·rw [List.drop_eq_getElem_cons h1,List.drop_eq_getElem_cons h2] at h;simp only [gG] at h;split at h
   ·rename_i a b ha hb;cases h;rw [List.getElem?_eq_getElem hlt] at hk;cases hk;exact ⟨_,_,a,b,List.getElem?_eq_getElem h1,List.getElem?_eq_getElem h2,ha,hb,rfl⟩
   ·cases h
  ·rw [List.drop_eq_nil_of_le h2,List.drop_eq_getElem_cons h1] at h;simp [gG] at h
 ·rw [List.drop_eq_nil_of_le h1] at h;simp [gG] at h
def Jc (P : Program) (fs : Array Field) (ks : List Bool) : Bool := fs.size == ks.length && fs.toList.zipIdx.all fun p => p.1.name != "_" && p.1.offset == p.2 && pF P p.1.type == ks[p.2]?
theorem jK {t:Nat} {fs:Array Field} {ks:List Bool} (hu:P.underlying t=some (.struct fs)) (hst:P.stoodInHeld t=false) (hg:P.eqGuardType P.depth t=false) (hfl:Jc P fs ks=true):EqT P t ks:=by
 refine fun _=>⟨hg,fun xs ys cs ds r W G O w h3 h4 h5=>?_⟩
 show (Op.equalIn (9999+1) t (.agg xs) (.agg ys)).run P w=_
 rw [Op.equalIn.eq_2];simp only [Sem.run_bind,run_underlying hu,Result.andThen_ok,run_program,hst];rw [if_neg (by decide)];unfold Jc at hfl;rw [Bool.and_eq_true] at hfl;obtain ⟨hsz,hall⟩:=hfl;have hsz':fs.size=ks.length:=by simpa using hsz
 have key:∀ (l:List Field) (i:Nat) (r:Bool),l=fs.toList.drop i→gG (ks.drop i) (cs.drop i) (ds.drop i)=some r →
  (forIn l ((none:Option Bool),()) fun f __s =>
   (if f.name ≠ "_" then do
    let __do_lift ←part f.type xs f.offset
    let __do_lift_1 ←part f.type ys f.offset
    let __do_lift ←Op.equalIn 9999 f.type __do_lift __do_lift_1
    if (!__do_lift)=true then pure (ForInStep.done (some false,()))
    else pure (ForInStep.yield (none,()))
   else pure (ForInStep.yield (none,())):Sem (ForInStep (Option Bool×Unit)))).run P w=.ok (if r then none else some false,()) w:=by
  intro l
  induction l with
  | nil =>
    intro i r hl h
    have hge:ks.length≤i:=by
     have:=congrArg List.length hl;simp at this;omega
    rw [List.drop_eq_nil_of_le hge] at h;generalize cs.drop i=a at h;generalize ds.drop i=b at h;cases a <;> cases b <;> simp [gG] at h
    subst h;simp
  | cons f l ih =>
    intro i r hl h
    have hfi:fs[i]? = some f:=by
     have:=congrArg (·[0]?) hl
     simpa using this.symm
    have hilt:=(Array.getElem?_eq_some_iff.1 hfi).1
    have hp:=List.all_eq_true.1 hall (f,i) (by
     rw [List.mk_mem_zipIdx_iff_getElem?]
     simpa using hfi)
    simp only [Bool.and_eq_true,bne_iff_ne,beq_iff_eq] at hp;obtain ⟨⟨hn,ho⟩,hb⟩:=hp;have hk:ks[i]? = some ks[i]:=List.getElem?_eq_getElem (by omega);rw [hk] at hb;obtain ⟨x,y,a,b,e1,e2,e3,e4,rfl⟩:=qw h hk;have hx1:i < xs.size:=by have:=h3.1;have:=(List.getElem?_eq_some_iff.1 e1).1;simp at *;omega
    have hy1:i < ys.size:=by have:=h4.1;have:=(List.getElem?_eq_some_iff.1 e2).1;simp at *;omega
    have hx:xs[i]? = some xs[i]:=Array.getElem?_eq_getElem hx1;have hy:ys[i]? = some ys[i]:=Array.getElem?_eq_getElem hy1;have heq:(Op.equalIn 9999 f.type xs[i] ys[i]).run P w=.ok a w:=wC hb (h3.2 i x xs[i] e1 (by rw [Array.getElem?_toList];exact hx)) (h4.2 i y ys[i] e2 (by rw [Array.getElem?_toList];exact hy)) e3 9998
    rw [List.forIn_cons,if_pos hn,ho];simp only [Sem.run_bind,jH hb hx,jH hb hy,Result.andThen_ok,heq]
    cases a with
    | true =>
      simp only [Bool.not_true,Bool.false_eq_true,if_false,Sem.run_pure,Result.andThen_ok,Bool.true_and]
      exact ih (i+1) b (by
       have:=congrArg List.tail hl
       simpa using this) e4
    | false=>simp
 have hk:=key fs.toList 0 r rfl (by simpa using h5);rw [←Array.forIn_toList,Sem.run_bind,hk];cases r <;> rfl
theorem nZ {t e m:Nat} {ei:TypeInfo} (hu:P.underlying t=some (.array m e)) (hi:P.info? e=some ei) (hsz1:ei.size=1) (hg:P.eqGuardType P.depth t=false) (hb:pF P e=some false):EqT P t (List.replicate m false):=by
 refine fun _=>⟨hg,fun xs ys cs ds r W G O w h3 h4 h5=>?_⟩
 show (Op.equalIn (9999+1) t (.agg xs) (.agg ys)).run P w=_
 rw [Op.equalIn.eq_2];simp only [Sem.run_bind,run_underlying hu,Result.andThen_ok,sizeOf,typeInfo,run_program,hi,Sem.run_pure,hsz1,Nat.mul_one,Std.Legacy.Range.forIn_eq_forIn_range',Std.Legacy.Range.size,Nat.sub_zero,Nat.add_one_sub_one,Nat.div_one]
 have key:∀ (k i:Nat) (r:Bool),i+k=m→gG ((List.replicate m false).drop i) (cs.drop i) (ds.drop i)=some r →
  (forIn (List.range' i k) ((none:Option Bool),()) fun i __s =>
   (do
    let __do_lift ←part e xs i
    let __do_lift_1 ←part e ys i
    let __do_lift ←Op.equalIn 9999 e __do_lift __do_lift_1
    if (!__do_lift)=true then pure (ForInStep.done (some false,()))
    else pure (ForInStep.yield (none,())):Sem (ForInStep (Option Bool×Unit)))).run P w=.ok (if r then none else some false,()) w:=by
  intro k
  induction k with
  | zero =>
    intro i r hl h;rw [List.drop_eq_nil_of_le (by simp;omega)] at h
    generalize cs.drop i=a at h;generalize ds.drop i=b at h;cases a <;> cases b <;> simp [gG] at h
    subst h;simp
  | succ k ih =>
    intro i r hl h
    have hk:(List.replicate m false)[i]? = some false:=by
     rw [List.getElem?_replicate,if_pos (by omega)]
    obtain ⟨x,y,a,b,e1,e2,e3,e4,rfl⟩:=qw h hk;have hx1:i < xs.size:=by have:=h3.1;have:=(List.getElem?_eq_some_iff.1 e1).1;simp at *;omega
    have hy1:i < ys.size:=by have:=h4.1;have:=(List.getElem?_eq_some_iff.1 e2).1;simp at *;omega
    have hx:xs[i]? = some xs[i]:=Array.getElem?_eq_getElem hx1;have hy:ys[i]? = some ys[i]:=Array.getElem?_eq_getElem hy1;have heq:(Op.equalIn 9999 e xs[i] ys[i]).run P w=.ok a w:=wC hb (h3.2 i x xs[i] e1 (by rw [Array.getElem?_toList];exact hx)) (h4.2 i y ys[i] e2 (by rw [Array.getElem?_toList];exact hy)) e3 9998
    rw [List.range'_succ,List.forIn_cons];simp only [Sem.run_bind,jH hb hx,jH hb hy,Result.andThen_ok,heq]
    cases a with
    | true =>
      simp only [Bool.not_true,Bool.false_eq_true,if_false,Sem.run_pure,Result.andThen_ok,Bool.true_and];exact ih (i+1) b (by omega) e4
    | false=>simp
 have hk:=key m 0 r (by omega) (by simpa using h5);rw [hk];cases r <;> rfl
end
theorem qZ {P:Program} {l0 l:List (Nat×List Bool)} (h0:∀ p,p ∈ l0→EqT P p.1 p.2) (h:l.all (fun p=>Nat.ble 1048576 p.1)=true):∀ p,p ∈ l0 ++ l→EqT P p.1 p.2:=by
 intro p hp
 rcases List.mem_append.1 hp with hp | hp
 ·exact h0 p hp
 ·intro hlt;have:=Nat.le_of_ble_eq_true (List.all_eq_true.1 h p hp);omega
theorem aX {α:Sort _} {a b:α} (h:a=b):a=b:=h
section
variable {env:Env} {K:St→Prop} {is:List PI} {s:St} {d:Option Nat} {af:List Nat}
def qm (env:Env) (K:St→Prop) (is:List PI) (s:St) (d:Option Nat) (o:Option (Av×Cg)):Prop:=aA o fun p=>aG env is (s.ap d p.1 p.2) K
theorem tJ {v:Av} {ch:Cg}:qm env K is s d (some (v,ch))=aG env is (s.ap d v ch) K:=aX rfl
def qh (env:Env) (K:St→Prop) (is:List PI) (s:St) (d:Option Nat) (f:Nat) (o:Option (List Pa)):Prop:=aA o fun ps=>(∃ rs,env.d f ps rs∧aG env is (s.ap d (jo rs) .no) K)∨(∃ H rs,env.a f none ps H rs∧aG env is (s.ap d (uO (d.getD 0) (s.gen (d.getD 0)+1) rs) (.new (d.getD 0) (.ab H))) K)∨(∃ E sz rows,env.f f ps E sz rows∧aG env is (s.ap d (.b (.one (.own (d.getD 0) (s.gen (d.getD 0)+1) rows))) (.new (d.getD 0) (.row E sz rows.length))) K)
theorem aC {f:Nat} {ps:List Pa} (rs:List Pa) (h:env.d f ps rs) (k:aG env is (s.ap d (jo rs) .no) K):qh env K is s d f (some ps):=.inl ⟨rs,h,k⟩
theorem iU {f:Nat} {ps:List Pa} {E sz:Nat} (rows:List (List Dt)) (h:env.f f ps E sz rows) (k:aG env is (s.ap d (.b (.one (.own (d.getD 0) (s.gen (d.getD 0)+1) rows))) (.new (d.getD 0) (.row E sz rows.length))) K):qh env K is s d f (some ps):=.inr (.inr ⟨E,sz,rows,h,k⟩)
def Ar (env:Env) (K:St→Prop) (is:List PI) (s:St) (d:Option Nat) (f o:Nat) (oh:Option HP) (oa:Option (List Pa)):Prop:=aA oa fun ps=>aA oh fun H =>
 (∃ H' rs,env.a f (some H) ps H' rs∧aG env is (s.ap d (jo rs) (.ab o H')) K)∨(∃ H2,ps=[]∧env.c f H H2∧aG env is (s.ap d (.b (.one (.ab (d.getD 0) (s.gen (d.getD 0)+1)))) (.new (d.getD 0) (.ab H2))) K)
def Gm (env:Env) (K:St→Prop) (is:List PI) (s:St) (d:Option Nat) (f o:Nat) (od:Option (List Dt)) (oa:Option (List Pa)):Prop:=aA oa fun ps=>aA od fun ds=>∃ ds' rs,env.m f ds ps ds' rs∧ds'.length=ds.length∧aG env is (s.ap d (jo rs) (.wr o 0 (ds'.map .d))) K
def pz (env:Env) (K:St→Prop) (is:List PI) (s:St) (d:Option Nat) (f:Nat) (xs:List PX):Option (Nat×Nat)→Option (Nat×Nat)→Prop
 | some (o,g),_=>Ar env K is s d f o (s.tQ o g) (s.args xs.tail)
 | none,some (o,g)=>Gm env K is s d f o (s.fG o g) (s.args xs.tail)
 | none,none=>qh env K is s d f (s.args xs)
theorem xG {f:Nat} {xs:List PX}:pz env K is s d f xs none none=qh env K is s d f (s.args xs):=aX rfl
theorem A8 {f o g:Nat} {xs:List PX}:pz env K is s d f xs none (some (o,g))=Gm env K is s d f o (s.fG o g) (s.args xs.tail):=aX rfl
theorem xH {f o g:Nat} {xs:List PX} {p:Option (Nat×Nat)}:pz env K is s d f xs (some (o,g)) p=Ar env K is s d f o (s.tQ o g) (s.args xs.tail):=aX rfl
theorem Fv:s.recv []=none:=aX rfl
theorem CW {x:PX} {xs:List PX}:s.recv (x :: xs)=(s.ev x).jk:=aX rfl
theorem Fe:s.dD []=none:=aX rfl
theorem CS {x:PX} {xs:List PX}:s.dD (x :: xs)=(s.ev x).dK:=aX rfl
theorem xJ {o g:Nat}:s.fG o g=if s.gen o=g then (match s.ob o with | .cells cs=>if cs.length≤1000000 then au (cs.map Cl.dt) else none | _=>none) else none:=aX rfl
theorem Gy {o g:Nat}:s.tQ o g=if s.gen o=g then (match s.ob o with | .ab H=>some H | _=>none) else none:=aX rfl
theorem GA {v:Av} {o:Nat} {H:HP}:(s.ap d v (.ab o H)).gen=s.gen:=aX rfl
theorem Jw {v:Av} {o:Nat} {H:HP}:(s.ap d v (.ab o H)).ob=up s.ob o (.ab H):=aX rfl
def nE (env:Env) (K:St→Prop) (is:List PI) (s:St) (d:Option Nat) (op:PO) (t:Nat) (want:Bool):Option (Option Bool)→Prop
 | none=>False
 | some none=>aG env is (s.ap d skp .no) K
 | some (some b)=>(b=want→aG env (⟨d,op,none,[]⟩ :: is) (s.ap (some t) (dL (.bool want)) .no) K)∧(b=!want→aG env is ((s.ap (some t) (dL (.bool !want)) .no).ap d skp .no) K)
theorem mE {op:PO} {t:Nat} {want:Bool}:nE env K is s d op t want (some none)=aG env is (s.ap d skp .no) K:=aX rfl
theorem fQ {op:PO} {t:Nat} {want b:Bool}:nE env K is s d op t want (some (some b))=((b=want→aG env (⟨d,op,none,[]⟩ :: is) (s.ap (some t) (dL (.bool want)) .no) K)∧(b=!want→aG env is ((s.ap (some t) (dL (.bool !want)) .no).ap d skp .no) K)):=aX rfl
theorem pK {t:Nat} {b:Bool} (h:s.gd t=some (some b)):s.boo (.t t)=some b:=by
 unfold St.gd at h;split at h
 ·cases h
 ·rw [Option.map_eq_some_iff] at h;obtain ⟨c,hc,h⟩:=h;cases h;exact hc
theorem AA {b want:Bool}:(some b≠some want)↔b=!want:=by cases b <;> cases want <;> simp
theorem jw {t:Nat} {b:Bool} (h:s.boo (.t t)=some b):s.ap (some t) (dL (.bool b)) .no=s:=by
 have h1:s.sl t=dL (.bool b):=by
  unfold St.boo at h;split at h
  ·rename_i c hc;cases h;exact hc
  ·cases h
 have h2:up s.sl t (dL (.bool b))=s.sl:=by
  funext x
  rw [ak];split
  ·rename_i hx;rw [hx,h1]
  ·rfl
 show (⟨up s.sl t (dL (.bool b)),s.gen,s.ob,s.nc⟩:St)=s
 rw [h2]
theorem vD:aG env [] s K=K s:=aX rfl
theorem yE {op:PO} (h:op.aF=false):aG env (⟨d,op,none,af⟩ :: is) s K=qm env K is s d (op.fn s (d.getD 0)):=by
 change PO.go env s (d.getD 0) (fun v ch=>aG env is (s.ap d v ch) K) op=_
 rw [PO.uI h];rfl
def Dk (env:Env) (K:St→Prop) (is:List PI) (s:St) (d:Option Nat) (f:Nat) (xs:List PX):Option Unit→Prop
 | some _=>pz env K is s d f xs (s.recv xs) (s.dD xs)
 | none=>False
theorem xI {f:Nat} {xs:List PX} {u:Unit}:Dk env K is s d f xs (some u)=pz env K is s d f xs (s.recv xs) (s.dD xs):=aX rfl
def Jf (env:Env) (K:St→Prop) (is:List PI) (s:St) (d:Option Nat):Option Value→Prop
 | some v=>aG env is (s.ap d (dL v) .no) K
 | none=>False
theorem CF {v:Value}:Jf env K is s d (some v)=aG env is (s.ap d (dL v) .no) K:=aX rfl
theorem Ei {f:Nat}:pY f (some (.func (.func f) #[] #[]))=some ():=Hf
theorem JQ {g k:Nat}:gAt env (some (.pointer (some ⟨g,k,none⟩)))=env.t g k:=aX rfl
def wM (env:Env) (K:St→Prop) (is:List PI) (s:St) (d:Option Nat) (c:Nat) (k:HA):Prop:=oU s c (fun v ch=>aG env is (s.ap d v ch) K) k
theorem nH {c:Nat} {z:List Value} (b:Nat) (h:s.lay c b) (k:aG env is (s.ap d (.b (.one (.hv (.p b 0)))) (.hw (HBS+c) [(b,.cells (z.map fun v=>.d (.sc v)))])) K):wM env K is s d c (.new z):=⟨b,h,k⟩
theorem wO {c:Nat} {x:PX} {cs:List Cl} {hs:List Hc} (b:Nat) (h:s.lay c b) (h1:s.cs x=some cs) (h2:hcs cs=some hs) (k:aG env is (s.ap d (.b (.one (.hv (.p b 0)))) (.hw (HBS+c) [(b,.cells hs)])) K):wM env K is s d c (.box x) :=
 ah.2 ⟨hs,by rw [h1];exact h2,b,h,k⟩
theorem BQ {c t:Nat} {x:PX} (l:Int) (b:Nat) (h:s.lay c b) (h2:s.int x=some l) (h1:Maps.Keyed Try.prog t) (k:aG env is (s.ap d (.b (.one (.hv (.m b)))) (.hw (HBS+c) [(b,.map t [] 0)])) K):wM env K is s d c (.mapn t x):=ah.2 ⟨l,h2,h1,b,h,k⟩
theorem kH {y:PX} {news:List (List Dt)} (h:(s.cl y).rows=some news):s.jg y=some news:=by
 unfold St.jg zu;split
 ·rename_i b he;rw [he] at h;cases h
 ·exact h
theorem Il {y:PX} {b E sz:Nat} {rows:List (List Dt)} (h:s.cl y=.hv (.v b)) (h2:s.hb b=.vec E sz rows):s.jg y=some rows:=by
 unfold St.jg zu;rw [h];dsimp only;rw [h2]
theorem y8 {c E sz bytes:Nat} {x y:PX} {news:List (List Dt)} (b:Nat) (h:s.lay c b) (h1:s.cl x=.d (.sc (.slice none 0 0))) (h2:s.jg y=some news) (h3:(∀ r ∈ news,r.length=sz)∧news.length≤1000000∧bytes≤1000000) (k:aG env is (s.ap d (.b (.one (.hv (.v b)))) (.hw (HBS+c) [(b,.vec E sz news)])) K):wM env K is s d c (.app E sz bytes x y) :=
 ah.2 ⟨news,h2,by rw [h1];exact ⟨h3,b,h,k⟩⟩
theorem BP {c E sz bytes a:Nat} {x y:PX} {rows news:List (List Dt)} (b:Nat) (h:s.lay (s.nc a) b) (h1:s.cl x=.hv (.v a)) (h0:s.hb a=.vec E sz rows) (h2:s.jg y=some news) (h3:(∀ r ∈ news,r.length=sz)∧rows.length+news.length≤1000000∧bytes≤1000000) (k:aG env is (s.ap d (.b (.one (.hv (.v b)))) (.hw (HBS+s.nc a) [(a,.dead),(b,.vec E sz (rows ++ news))])) K):wM env K is s d c (.app E sz bytes x y) :=
 ah.2 ⟨news,h2,by rw [h1];exact ah.2 ⟨(E,sz,rows),by rw [h0];rfl,⟨rfl,rfl,h3⟩,b,h,k⟩⟩
theorem EN {c E sz ln:Nat} {z:List Value} {ps:List (Nat×Nat×PX)} {rs:List (Nat×List Cl)} {cs:List Cl} {xs:List Dt} (b:Nat) (h:s.lay c b) (h1:s.parts ps=some rs) (h2:bZ (z.map fun v=>.d (.sc v)) rs=some cs) (h3:au (cs.map Cl.dt)=some xs) (k:aG env is (s.ap d (.b (.one (.hv (.v b)))) (.hw (HBS+c) [(b,.vec E sz (chunks ln sz xs))])) K):wM env K is s d c (.lit E sz z ln ps) :=
 ah.2 ⟨xs,by rw [h1];show (bZ _ rs).bind _=_;rw [h2];exact h3,b,h,k⟩
theorem BR {c sz a E:Nat} {x lo:PX} {rows:List (List Dt)} (l:Nat) (h1:s.cl x=.hv (.v a)) (h0:s.hb a=.vec E sz rows) (h2:s.int lo=some (l:Int)) (h3:l < rows.length) (k:∀ cap,rows.length - l≤cap→cap≤maxLen→aG env is (s.ap d (.b (.one (.hv (.s a (l * sz) (rows.length - l) cap)))) .no) K):wM env K is s d c (.view sz x lo) :=
 ah.2 ⟨a,by rw [h1];rfl,ah.2 ⟨(E,sz,rows),by rw [h0];rfl,ah.2 ⟨(l:Int),h2,⟨rfl,by omega,by show (l:Int) < (rows.length:Int);omega⟩,by simpa using k⟩⟩⟩
def Jk (env:Env) (K:St→Prop) (is:List PI) (s:St) (d:Option Nat) (x:Cl):Prop:=Dx s x (fun v ch=>aG env is (s.ap d v ch) K)
def uz (env:Env) (K:St→Prop) (is:List PI) (s:St) (d:Option Nat) (f:Nat) (oa:Option (List Hw)):Prop:=aA oa fun az=>mQ env s (fun v ch=>aG env is (s.ap d v ch) K) f az
theorem cZ {f:Nat} {az:List Hw} (hp':Nat→Hb) (rs:List Hw) (h:env.h f s.hb az hp' rs) (k:aG env is (s.ap d (xq rs) (.hall hp')) K):uz env K is s d f (some az):=⟨hp',rs,h,.inl k⟩
def zI (env:Env) (K:St→Prop) (is:List PI) (s:St) (d:Option Nat) (f:Nat) (oa:Option (List Hw)):Prop:=aA oa fun az=>uD env s (fun v ch=>aG env is (s.ap d v ch) K) f az
theorem bK {f:Nat} {az:List Hw} (Post:(Nat→Hb)→List Hw→Prop) (h:env.p f s.hb az Post) (k:∀ hp' rs,Post hp' rs→aG env is (s.ap d (xq rs) (.hall hp')) K):zI env K is s d f (some az):=⟨Post,h,k⟩
def zH (env:Env) (K:St→Prop) (is:List PI) (s:St) (d:Option Nat) (f:Nat) (of:Option (List (Nat×Nat)×List (Nat×Nat))) (oa:Option (List Hw)):Prop:=aA of fun p=>aA oa fun az=>mQ env s (fun v ch=>aG env is (s.ap d v ch) K) f (oV p.1 ++ az ++ oV p.2)
theorem uU {f:Nat} {az:List Hw} {a c:List (Nat×Nat)}:zH env K is s d f (some (a,c)) (some az)=uz env K is s d f (some (oV a ++ az ++ oV c)):=aX rfl
theorem Bw {f:Nat} {a c:List (Nat×Nat)}:Af f (.hv (.f f a c))=some (a,c):=by simp [Af]
theorem EP:oV []=[]:=aX rfl
theorem BZ {p:Nat×Nat} {l:List (Nat×Nat)}:oV (p :: l)=.one (.h (.p p.1 p.2)) :: oV l:=aX rfl
theorem Ht:s.hws []=some []:=aX rfl
theorem ER {x:PX} {xs:List PX}:s.hws (x :: xs)=(match s.hw x with | some p=>(s.hws xs).map (p :: ·) | none=>none):=by
 unfold St.hws;simp only [List.map_cons];cases s.hw x <;> rfl
theorem J2 {x:PX}:s.hw x=(s.ev x).hw:=aX rfl
def opS (env:Env) (K:St→Prop) (is:List PI) (s:St) (d:Option Nat) (b:Bool) (op:PO):Prop:=match b with
 | true=>(match op with | .call f xs=>pz env K is s d f xs (s.recv xs) (s.dD xs) | .callv x f xs=>Dk env K is s d f xs (pY f (s.val x)) | .ldg x=>Jf env K is s d (gAt env (s.val x)) | .hal c k=>wM env K is s d c k | .next x=>Jk env K is s d (s.cl x) | .callh f xs=>uz env K is s d f (s.hws xs) | .callp f xs=>zI env K is s d f (s.hws xs) | .callc x f xs=>zH env K is s d f (Af f (s.cl x)) (s.hws xs) | _=>False)
 | false=>qm env K is s d (op.fn s (d.getD 0))
theorem sN {op:PO}:opS env K is s d false op=qm env K is s d (op.fn s (d.getD 0)):=aX rfl
theorem Fa {f:Nat} {xs:List PX}:opS env K is s d true (.call f xs)=pz env K is s d f xs (s.recv xs) (s.dD xs):=aX rfl
theorem CR {x:PX} {f:Nat} {xs:List PX}:opS env K is s d true (.callv x f xs)=Dk env K is s d f xs (pY f (s.val x)):=aX rfl
theorem Ia {x:PX}:opS env K is s d true (.ldg x)=Jf env K is s d (gAt env (s.val x)):=aX rfl
theorem H9 {c:Nat} {k:HA}:opS env K is s d true (.hal c k)=wM env K is s d c k:=aX rfl
theorem E8 {x:PX}:opS env K is s d true (.next x)=Jk env K is s d (s.cl x):=aX rfl
theorem CP {f:Nat} {xs:List PX}:opS env K is s d true (.callh f xs)=uz env K is s d f (s.hws xs):=aX rfl
theorem CQ {f:Nat} {xs:List PX}:opS env K is s d true (.callp f xs)=zI env K is s d f (s.hws xs):=aX rfl
theorem CO {x:PX} {f:Nat} {xs:List PX}:opS env K is s d true (.callc x f xs)=zH env K is s d f (Af f (s.cl x)) (s.hws xs):=aX rfl
theorem yI {op:PO}:aG env (⟨d,op,none,af⟩ :: is) s K=opS env K is s d op.aF op:=by
 cases hc:op.aF with
 | true =>
   cases op <;> first
    | (cases hc;done)
    | (rename_i f xs
       show gB env s (d.getD 0) (fun v ch=>aG env is (s.ap d v ch) K) f xs (s.recv xs) (s.dD xs)=pz env K is s d f xs (s.recv xs) (s.dD xs)
       cases s.recv xs <;> cases s.dD xs <;> rfl)
    | (rename_i x f xs
       show aA (pY f (s.val x)) (fun _=>gB env s (d.getD 0) (fun v ch=>aG env is (s.ap d v ch) K) f xs (s.recv xs) (s.dD xs))=Dk env K is s d f xs (pY f (s.val x))
       cases pY f (s.val x) with
       | none=>rfl
       | some _ =>
         show gB env s (d.getD 0) (fun v ch=>aG env is (s.ap d v ch) K) f xs (s.recv xs) (s.dD xs)=pz env K is s d f xs (s.recv xs) (s.dD xs)
         cases s.recv xs <;> cases s.dD xs <;> rfl)
    | (rename_i x
       show aA (gAt env (s.val x)) (fun v=>aG env is (s.ap d (dL v) .no) K)=Jf env K is s d (gAt env (s.val x))
       cases gAt env (s.val x) <;> rfl)
    | rfl
 | false=>rw [sN,yE hc]
theorem fP {op:PO} {t:Nat} {want:Bool}:aG env (⟨d,op,some (t,want),af⟩ :: is) s K=nE env K is s d op t want (s.gd t):=by
 change aA (s.gd t) _=nE env K is s d op t want (s.gd t)
 cases h:s.gd t with
 | none=>rfl
 | some b =>
   cases b with
   | none=>exact propext ⟨fun k=>k.2 (by simp),fun k=>⟨fun e=>(by simp at e),fun _=>k⟩⟩
   | some b =>
     have hb:=jw (pK h);rw [fQ]
     show ((some b=some want→_)∧(some b≠some want→_))=_
     rw [AA,Option.some.injEq]
     congr 1
     ·apply propext
      refine forall_congr' fun he=>?_
      subst he;rw [hb];rfl
     ·apply propext
      refine forall_congr' fun he=>?_
      rw [←he,hb]
theorem yH {op:PO} {t:Nat} {want:Bool} (h:s.gd t=some (some want)):aG env (⟨d,op,some (t,want),af⟩ :: is) s K=aG env (⟨d,op,none,[]⟩ :: is) s K:=by
 rw [fP,h,fQ,jw (pK h)];exact propext ⟨fun k=>k.1 rfl,fun k=>⟨fun _=>k,fun e=>absurd e (by cases want <;> decide)⟩⟩
theorem yF {op:PO} {t:Nat} {want:Bool} (h:s.gd t=some (some (!want))):aG env (⟨d,op,some (t,want),af⟩ :: is) s K=aG env is (s.ap d skp .no) K:=by
 rw [fP,h,fQ,jw (pK h)];exact propext ⟨fun k=>k.2 rfl,fun k=>⟨fun e=>absurd e (by cases want <;> decide),fun _=>k⟩⟩
theorem yG {op:PO} {t:Nat} {want:Bool} (h:s.gd t=some none):aG env (⟨d,op,some (t,want),af⟩ :: is) s K=aG env is (s.ap d skp .no) K:=by
 rw [fP,h,mE]
abbrev Ft:=List (List Rg×List Rg)
variable {KD:St→Ft→Prop} {acc:Ft}
def Dn (env:Env) (K:St→Ft→Prop) (is:List PI) (s:St) (d:Option Nat) (acc:Ft) (rd:List Rg) (o:Option (Av×Cg)):Prop:=aA o fun p=>bL env is (s.ap d p.1 p.2) ((rd,p.2.wrs) :: acc) K
theorem xY {v:Av} {ch:Cg} {rd:List Rg}:Dn env KD is s d acc rd (some (v,ch))=bL env is (s.ap d v ch) ((rd,ch.wrs) :: acc) KD:=aX rfl
def Gu (env:Env) (K:St→Ft→Prop) (is:List PI) (s:St) (d:Option Nat) (acc:Ft) (f:Nat) (o:Option (List Pa)):Prop:=aA o fun ps =>
 (∃ rs,env.d f ps rs∧bL env is (s.ap d (jo rs) .no) (([(d.getD 0,big - 1,1)],[]) :: acc) K)∨(∃ H rs,env.a f none ps H rs∧bL env is (s.ap d (uO (d.getD 0) (s.gen (d.getD 0)+1) rs) (.new (d.getD 0) (.ab H))) (([(d.getD 0,big - 1,1)],[(d.getD 0,0,big)]) :: acc) K)∨(∃ E sz rows,env.f f ps E sz rows∧bL env is (s.ap d (.b (.one (.own (d.getD 0) (s.gen (d.getD 0)+1) rows))) (.new (d.getD 0) (.row E sz rows.length))) (([(d.getD 0,big - 1,1)],[(d.getD 0,0,big)]) :: acc) K)
theorem iT {f:Nat} {ps:List Pa} (rs:List Pa) (h:env.d f ps rs) (k:bL env is (s.ap d (jo rs) .no) (([(d.getD 0,big - 1,1)],[]) :: acc) KD):Gu env KD is s d acc f (some ps):=.inl ⟨rs,h,k⟩
def Jj (env:Env) (K:St→Ft→Prop) (is:List PI) (s:St) (d:Option Nat) (acc:Ft) (f o:Nat) (oh:Option HP) (oa:Option (List Pa)):Prop:=aA oa fun ps=>aA oh fun H =>
 (∃ H' rs,env.a f (some H) ps H' rs∧bL env is (s.ap d (jo rs) (.ab o H')) (([(o,0,big),(d.getD 0,big - 1,1)],[(o,0,big)]) :: acc) K) ∨
 (∃ H2,ps=[]∧env.c f H H2∧bL env is (s.ap d (.b (.one (.ab (d.getD 0) (s.gen (d.getD 0)+1)))) (.new (d.getD 0) (.ab H2))) (([(o,0,big),(d.getD 0,big - 1,1)],[(d.getD 0,0,big)]) :: acc) K)
def LH (env:Env) (K:St→Ft→Prop) (is:List PI) (s:St) (d:Option Nat) (acc:Ft) (f o:Nat) (od:Option (List Dt)) (oa:Option (List Pa)):Prop:=aA oa fun ps=>aA od fun ds=>∃ ds' rs,env.m f ds ps ds' rs∧ds'.length=ds.length∧bL env is (s.ap d (jo rs) (.wr o 0 (ds'.map .d))) (([(o,0,big),(d.getD 0,big - 1,1)],[(o,0,(ds'.map Cl.d).length)]) :: acc) K
def jX (env:Env) (K:St→Ft→Prop) (is:List PI) (s:St) (d:Option Nat) (acc:Ft) (f:Nat) (xs:List PX):Option (Nat×Nat)→Option (Nat×Nat)→Prop
 | some (o,g),_=>Jj env K is s d acc f o (s.tQ o g) (s.args xs.tail)
 | none,some (o,g)=>LH env K is s d acc f o (s.fG o g) (s.args xs.tail)
 | none,none=>Gu env K is s d acc f (s.args xs)
theorem uV {f:Nat} {xs:List PX}:jX env KD is s d acc f xs none none=Gu env KD is s d acc f (s.args xs):=aX rfl
theorem xE {f o g:Nat} {xs:List PX}:jX env KD is s d acc f xs none (some (o,g))=LH env KD is s d acc f o (s.fG o g) (s.args xs.tail):=aX rfl
theorem uW {f o g:Nat} {xs:List PX} {p:Option (Nat×Nat)}:jX env KD is s d acc f xs (some (o,g)) p=Jj env KD is s d acc f o (s.tQ o g) (s.args xs.tail):=aX rfl
def goD (env:Env) (K:St→Ft→Prop) (is:List PI) (s:St) (d:Option Nat) (acc:Ft) (op:PO):Prop:=op.go env s (d.getD 0) fun v ch=>bL env is (s.ap d v ch) ((op.rd s (d.getD 0),ch.wrs) :: acc) K
def uJ (env:Env) (K:St→Ft→Prop) (is:List PI) (s:St) (d:Option Nat) (acc:Ft) (op:PO) (t:Nat) (want:Bool):Option (Option Bool)→Prop
 | none=>False
 | some none=>bL env is (s.ap d skp .no) ((op.rd s (d.getD 0),[]) :: acc) K
 | some (some b)=>(b=want→goD env K is (s.ap (some t) (dL (.bool want)) .no) d acc op)∧(b=!want→bL env is ((s.ap (some t) (dL (.bool !want)) .no).ap d skp .no) ((op.rd s (d.getD 0),[]) :: acc) K)
theorem qx {op:PO} {t:Nat} {want:Bool}:uJ env KD is s d acc op t want (some none)=bL env is (s.ap d skp .no) ((op.rd s (d.getD 0),[]) :: acc) KD:=aX rfl
theorem iZ {op:PO} {t:Nat} {want b:Bool}:uJ env KD is s d acc op t want (some (some b))=((b=want→goD env KD is (s.ap (some t) (dL (.bool want)) .no) d acc op)∧(b=!want→bL env is ((s.ap (some t) (dL (.bool !want)) .no).ap d skp .no) ((op.rd s (d.getD 0),[]) :: acc) KD)):=aX rfl
theorem Bl:bL env [] s acc KD=KD s acc.reverse:=aX rfl
theorem JR {op:PO} (h:op.aF=false):goD env KD is s d acc op=Dn env KD is s d acc (op.rd s (d.getD 0)) (op.fn s (d.getD 0)):=by
 unfold goD;rw [PO.uI h];rfl
def uE (env:Env) (K:St→Ft→Prop) (is:List PI) (s:St) (d:Option Nat) (acc:Ft) (f:Nat) (xs:List PX):Option Unit→Prop
 | some _=>jX env K is s d acc f xs (s.recv xs) (s.dD xs)
 | none=>False
theorem uX {f:Nat} {xs:List PX} {u:Unit}:uE env KD is s d acc f xs (some u)=jX env KD is s d acc f xs (s.recv xs) (s.dD xs):=aX rfl
def Dw (env:Env) (K:St→Ft→Prop) (is:List PI) (s:St) (d:Option Nat) (acc:Ft):Option Value→Prop
 | some v=>bL env is (s.ap d (dL v) .no) (([],[]) :: acc) K
 | none=>False
theorem zk {v:Value}:Dw env KD is s d acc (some v)=bL env is (s.ap d (dL v) .no) (([],[]) :: acc) KD:=aX rfl
def Hq (env:Env) (K:St→Ft→Prop) (is:List PI) (s:St) (d:Option Nat) (acc:Ft) (c:Nat) (rd:List Rg) (k:HA):Prop:=oU s c (fun v ch=>bL env is (s.ap d v ch) ((rd,ch.wrs) :: acc) K) k
theorem y7 {c E sz bytes:Nat} {rd:List Rg} {x y:PX} {news:List (List Dt)} (b:Nat) (h:s.lay c b) (h1:s.cl x=.d (.sc (.slice none 0 0))) (h2:s.jg y=some news) (h3:(∀ r ∈ news,r.length=sz)∧news.length≤1000000∧bytes≤1000000) (k:bL env is (s.ap d (.b (.one (.hv (.v b)))) (.hw (HBS+c) [(b,.vec E sz news)])) ((rd,[(HBS+c,0,big)]) :: acc) KD):Hq env KD is s d acc c rd (.app E sz bytes x y) :=
 ah.2 ⟨news,h2,by rw [h1];exact ⟨h3,b,h,k⟩⟩
theorem BO {c E sz bytes a:Nat} {rd:List Rg} {x y:PX} {rows news:List (List Dt)} (b:Nat) (h:s.lay (s.nc a) b) (h1:s.cl x=.hv (.v a)) (h0:s.hb a=.vec E sz rows) (h2:s.jg y=some news) (h3:(∀ r ∈ news,r.length=sz)∧rows.length+news.length≤1000000∧bytes≤1000000) (k:bL env is (s.ap d (.b (.one (.hv (.v b)))) (.hw (HBS+s.nc a) [(a,.dead),(b,.vec E sz (rows ++ news))])) ((rd,[(HBS+s.nc a,0,big)]) :: acc) KD):Hq env KD is s d acc c rd (.app E sz bytes x y) :=
 ah.2 ⟨news,h2,by rw [h1];exact ah.2 ⟨(E,sz,rows),by rw [h0];rfl,⟨rfl,rfl,h3⟩,b,h,k⟩⟩
def uy (env:Env) (K:St→Ft→Prop) (is:List PI) (s:St) (d:Option Nat) (acc:Ft) (f:Nat) (oa:Option (List Hw)):Prop:=aA oa fun az=>mQ env s (fun v ch=>bL env is (s.ap d v ch) (([(d9,0,big)],ch.wrs) :: acc) K) f az
theorem mg {f:Nat} {az:List Hw} (hp':Nat→Hb) (rs:List Hw) (h:env.h f s.hb az hp' rs) (k:bL env is (s.ap d (xq rs) (.hall hp')) (([(d9,0,big)],[(d9,0,big)]) :: acc) KD):uy env KD is s d acc f (some az):=⟨hp',rs,h,.inl k⟩
def JC (env:Env) (K:St→Ft→Prop) (is:List PI) (s:St) (d:Option Nat) (acc:Ft) (f:Nat) (oa:Option (List Hw)):Prop:=aA oa fun az=>uD env s (fun v ch=>bL env is (s.ap d v ch) (([],ch.wrs) :: acc) K) f az
def zG (env:Env) (K:St→Ft→Prop) (is:List PI) (s:St) (d:Option Nat) (acc:Ft) (f:Nat) (of:Option (List (Nat×Nat)×List (Nat×Nat))) (oa:Option (List Hw)):Prop:=aA of fun p=>aA oa fun az=>mQ env s (fun v ch=>bL env is (s.ap d v ch) (([(d9,0,big)],ch.wrs) :: acc) K) f (oV p.1 ++ az ++ oV p.2)
theorem uT {f:Nat} {az:List Hw} {a c:List (Nat×Nat)}:zG env KD is s d acc f (some (a,c)) (some az)=uy env KD is s d acc f (some (oV a ++ az ++ oV c)):=aX rfl
def Lm (env:Env) (K:St→Ft→Prop) (is:List PI) (s:St) (d:Option Nat) (acc:Ft) (x:Cl):Prop:=Dx s x (fun v ch=>bL env is (s.ap d v ch) (([],ch.wrs) :: acc) K)
def opD (env:Env) (K:St→Ft→Prop) (is:List PI) (s:St) (d:Option Nat) (acc:Ft) (b:Bool) (op:PO):Prop:=match b with
 | true=>(match op with | .call f xs=>jX env K is s d acc f xs (s.recv xs) (s.dD xs) | .callv x f xs=>uE env K is s d acc f xs (pY f (s.val x)) | .ldg x=>Dw env K is s d acc (gAt env (s.val x)) | .hal c k=>Hq env K is s d acc c ((PO.hal c k).rd s (d.getD 0)) k | .next x=>Lm env K is s d acc (s.cl x) | .callh f xs=>uy env K is s d acc f (s.hws xs) | .callp f xs=>JC env K is s d acc f (s.hws xs) | .callc x f xs=>zG env K is s d acc f (Af f (s.cl x)) (s.hws xs) | _=>False)
 | false=>Dn env K is s d acc (op.rd s (d.getD 0)) (op.fn s (d.getD 0))
theorem sK {op:PO}:opD env KD is s d acc false op=Dn env KD is s d acc (op.rd s (d.getD 0)) (op.fn s (d.getD 0)):=aX rfl
theorem E5 {f:Nat} {xs:List PX}:opD env KD is s d acc true (.call f xs)=jX env KD is s d acc f xs (s.recv xs) (s.dD xs):=aX rfl
theorem CK {x:PX} {f:Nat} {xs:List PX}:opD env KD is s d acc true (.callv x f xs)=uE env KD is s d acc f xs (pY f (s.val x)):=aX rfl
theorem H8 {x:PX}:opD env KD is s d acc true (.ldg x)=Dw env KD is s d acc (gAt env (s.val x)):=aX rfl
theorem H7 {c:Nat} {k:HA}:opD env KD is s d acc true (.hal c k)=Hq env KD is s d acc c ((PO.hal c k).rd s (d.getD 0)) k:=aX rfl
theorem CJ {f:Nat} {xs:List PX}:opD env KD is s d acc true (.callh f xs)=uy env KD is s d acc f (s.hws xs):=aX rfl
theorem CG {x:PX} {f:Nat} {xs:List PX}:opD env KD is s d acc true (.callc x f xs)=zG env KD is s d acc f (Af f (s.cl x)) (s.hws xs):=aX rfl
theorem JU {op:PO}:goD env KD is s d acc op=opD env KD is s d acc op.aF op:=by
 cases hc:op.aF with
 | true =>
   cases op <;> first
    | (cases hc;done)
    | (rename_i f xs
       show gB env s (d.getD 0) (fun v ch=>bL env is (s.ap d v ch) (((PO.call f xs).rd s (d.getD 0),ch.wrs) :: acc) KD) f xs (s.recv xs) (s.dD xs)=jX env KD is s d acc f xs (s.recv xs) (s.dD xs)
       have hrd:(PO.call f xs).rd s (d.getD 0)=match s.recv xs,s.dD xs with | some p,_=>[(p.1,0,big),(d.getD 0,big - 1,1)] | none,some p=>[(p.1,0,big),(d.getD 0,big - 1,1)] | none,none=>[(d.getD 0,big - 1,1)]:=rfl
       rw [hrd];cases s.recv xs <;> cases s.dD xs <;> rfl)
    | (rename_i x f xs
       show aA (pY f (s.val x)) (fun _=>gB env s (d.getD 0) (fun v ch=>bL env is (s.ap d v ch) (((PO.callv x f xs).rd s (d.getD 0),ch.wrs) :: acc) KD) f xs (s.recv xs) (s.dD xs))=uE env KD is s d acc f xs (pY f (s.val x))
       have hrd:(PO.callv x f xs).rd s (d.getD 0)=match s.recv xs,s.dD xs with | some p,_=>[(p.1,0,big),(d.getD 0,big - 1,1)] | none,some p=>[(p.1,0,big),(d.getD 0,big - 1,1)] | none,none=>[(d.getD 0,big - 1,1)]:=rfl
       rw [hrd]
       cases pY f (s.val x) with
       | none=>rfl
       | some u =>
         show gB env s (d.getD 0) (fun v ch=>bL env is (s.ap d v ch) ((match s.recv xs,s.dD xs with | some p,_=>[(p.1,0,big),(d.getD 0,big - 1,1)] | none,some p=>[(p.1,0,big),(d.getD 0,big - 1,1)] | none,none=>[(d.getD 0,big - 1,1)],ch.wrs) :: acc) KD) f xs (s.recv xs) (s.dD xs)=jX env KD is s d acc f xs (s.recv xs) (s.dD xs)
         cases s.recv xs <;> cases s.dD xs <;> rfl)
    | (rename_i x
       show aA (gAt env (s.val x)) (fun v=>bL env is (s.ap d (dL v) .no) (([],[]) :: acc) KD)=Dw env KD is s d acc (gAt env (s.val x))
       cases gAt env (s.val x) <;> rfl)
    | rfl
 | false=>rw [sK,JR hc]
theorem vB {op:PO}:bL env (⟨d,op,none,af⟩ :: is) s acc KD=goD env KD is s d acc op:=aX rfl
theorem iW {op:PO} {t:Nat} {want:Bool}:bL env (⟨d,op,some (t,want),af⟩ :: is) s acc KD=uJ env KD is s d acc op t want (s.gd t):=by
 change aA (s.gd t) _=uJ env KD is s d acc op t want (s.gd t)
 cases h:s.gd t with
 | none=>rfl
 | some b =>
   cases b with
   | none=>exact propext ⟨fun k=>k.2 (by simp),fun k=>⟨fun e=>(by simp at e),fun _=>k⟩⟩
   | some b =>
     have hb:=jw (pK h);rw [iZ]
     show ((some b=some want→_)∧(some b≠some want→_))=_
     rw [AA,Option.some.injEq]
     congr 1
     ·apply propext
      refine forall_congr' fun he=>?_
      subst he;rw [hb];rfl
     ·apply propext
      refine forall_congr' fun he=>?_
      rw [←he,hb];rfl
theorem Ef {op:PO} {t:Nat} {want:Bool} (h:s.gd t=some (some want)):bL env (⟨d,op,some (t,want),af⟩ :: is) s acc KD=goD env KD is s d acc op:=by
 rw [iW,h,iZ,jw (pK h)];exact propext ⟨fun k=>k.1 rfl,fun k=>⟨fun _=>k,fun e=>absurd e (by cases want <;> decide)⟩⟩
theorem Ed {op:PO} {t:Nat} {want:Bool} (h:s.gd t=some (some (!want))):bL env (⟨d,op,some (t,want),af⟩ :: is) s acc KD=bL env is (s.ap d skp .no) ((op.rd s (d.getD 0),[]) :: acc) KD:=by
 rw [iW,h,iZ,jw (pK h)];exact propext ⟨fun k=>k.2 rfl,fun k=>⟨fun e=>absurd e (by cases want <;> decide),fun _=>k⟩⟩
theorem Ee {op:PO} {t:Nat} {want:Bool} (h:s.gd t=some none):bL env (⟨d,op,some (t,want),af⟩ :: is) s acc KD=bL env is (s.ap d skp .no) ((op.rd s (d.getD 0),[]) :: acc) KD:=by
 rw [iW,h,qx]
def l5:Nat→List (Nat×List Cl)→Nat→Bool
 | k,[],n=>k == n
 | k,(o,c) :: r,n=>o == k && l5 (k+c.length) r n
def yS (z:List Cl) (rs:List (Nat×List Cl)):Option (List Cl):=bif l5 0 rs z.length then some (rs.flatMap (·.2)) else bZ z rs
theorem wP:∀ {rs:List (Nat×List Cl)} {k n:Nat},l5 k rs n=true→k≤n
 | [],k,n,h=>by unfold l5 at h;exact Nat.le_of_eq (eq_of_beq h)
 | (o,c) :: r,k,n,h=>by
   unfold l5 at h;rw [Bool.and_eq_true] at h;have:=wP h.2;omega
theorem qA:∀ {rs:List (Nat×List Cl)} {pre suf:List Cl},l5 pre.length rs (pre.length+suf.length)=true→bZ (pre ++ suf) rs=some (pre ++ rs.flatMap (·.2))
 | [],pre,suf,h=>by
   unfold l5 at h;have h1:=eq_of_beq h;have h2:suf=[]:=List.eq_nil_of_length_eq_zero (by omega);subst h2;simp [bZ]
 | (o,c) :: r,pre,suf,h=>by
   unfold l5 at h;rw [Bool.and_eq_true] at h;obtain ⟨h1,h2⟩:=h;have h1:=eq_of_beq h1;subst h1;have h3:=wP h2;have hc:c.length≤suf.length:=by omega
   have hs:splice (pre ++ suf) pre.length c=(pre ++ c) ++ suf.drop c.length:=by
    unfold splice;rw [List.take_left,List.drop_append,List.drop_of_length_le (by omega),List.nil_append]
    congr 2
    omega
   unfold bZ
   rw [if_pos (by rw [List.length_append];omega),hs,qA (pre:=pre ++ c) (suf:=suf.drop c.length) (by
    rw [List.length_append,List.length_drop];have:pre.length+c.length+(suf.length - c.length)=pre.length+suf.length:=by omega
    rw [this];exact h2)]
   simp
theorem wF (z:List Cl) (rs:List (Nat×List Cl)):bZ z rs=yS z rs:=by
 unfold yS
 cases h:l5 0 rs z.length with
 | false=>rfl
 | true =>
   have:=qA (pre:=[]) (suf:=z) (by simpa using h)
   simpa using this
theorem Em {d:Nat} {z:List Value} {ps:List (Nat×Nat×PX)}:PO.fn s d (.build z ps)=(s.parts ps).bind fun ps=>(yS (z.map fun v=>.d (.sc v)) ps).map fun cs=>(.b (.agg cs),.no):=by
 simp only [PO.fn,wF]
theorem Bz {d E sz ln:Nat} {z:List Value} {ps:List (Nat×Nat×PX)}:PO.fn s d (.bslice E sz z ln ps)=(s.parts ps).bind fun ps=>(yS (z.map fun v=>.d (.sc v)) ps).bind fun cs =>
 (au (cs.map Cl.dt)).map fun xs=>(.b (.one (.own d (s.gen d+1) (chunks ln sz xs))),.new d (.row E sz ln)):=by
 simp only [PO.fn,wF]
inductive It where
 | c (x:PC)
 | bl (id:Nat)
 | lp (I:Nat→St→Prop) (n:Nat)
 | sc (l:Nat) (r:PC)
 | ng
def exS (env:Env):List It→(Exit→St→Prop)→Exit→St→Prop
 | [],Q,e,s=>Q e s
 | .c b :: k,Q,e,s=>match e with
   | .normal=>pwp env b (exS env k Q) s
   | e=>exS env k Q e s
 | .bl id :: k,Q,e,s=>match e with
   | .exit i=>if i=id then exS env k Q .normal s else exS env k Q (.exit i) s
   | e=>exS env k Q e s
 | .lp I n :: k,Q,e,s=>match e with
   | .normal=>∃ m,m < n∧I m s
   | e=>exS env k Q e s
 | .sc l r :: k,Q,e,s=>match e with
   | .goto l'=>l'=l∧pwp env r (fun e2 s2=>match e2 with | .goto _=>False | e2=>exS env k Q e2 s2) s
   | e=>exS env k Q e s
 | .ng :: k,Q,e,s=>match e with
   | .goto _=>False
   | e=>exS env k Q e s
variable {k:List It} {Q:Exit→St→Prop}
theorem G9 {e:Exit}:exS env [] Q e s=Q e s:=aX rfl
theorem yL {b:PC}:exS env (.c b :: k) Q .normal s=pwp env b (exS env k Q) s:=aX rfl
theorem Bo {b:PC}:exS env (.c b :: k) Q .ret s=exS env k Q .ret s:=aX rfl
theorem yM {b:PC} {i:Nat}:exS env (.c b :: k) Q (.exit i) s=exS env k Q (.exit i) s:=aX rfl
theorem JJ {id:Nat}:exS env (.bl id :: k) Q .normal s=exS env k Q .normal s:=aX rfl
theorem yK {id:Nat}:exS env (.bl id :: k) Q .ret s=exS env k Q .ret s:=aX rfl
theorem vF {id i:Nat}:exS env (.bl id :: k) Q (.exit i) s=if i=id then exS env k Q .normal s else exS env k Q (.exit i) s:=aX rfl
theorem yO {I:Nat→St→Prop} {n:Nat}:exS env (.lp I n :: k) Q .ret s=exS env k Q .ret s:=aX rfl
theorem vH {I:Nat→St→Prop} {n i:Nat}:exS env (.lp I n :: k) Q (.exit i) s=exS env k Q (.exit i) s:=aX rfl
theorem yN {b:PC} {i:Nat}:exS env (.c b :: k) Q (.goto i) s=exS env k Q (.goto i) s:=aX rfl
theorem vG {id i:Nat}:exS env (.bl id :: k) Q (.goto i) s=exS env k Q (.goto i) s:=aX rfl
theorem vI {I:Nat→St→Prop} {n i:Nat}:exS env (.lp I n :: k) Q (.goto i) s=exS env k Q (.goto i) s:=aX rfl
theorem JL {l:Nat} {r:PC}:exS env (.sc l r :: k) Q .normal s=exS env k Q .normal s:=aX rfl
theorem yR {l:Nat} {r:PC}:exS env (.sc l r :: k) Q .ret s=exS env k Q .ret s:=aX rfl
theorem vK {l i:Nat} {r:PC}:exS env (.sc l r :: k) Q (.exit i) s=exS env k Q (.exit i) s:=aX rfl
theorem JK:exS env (.ng :: k) Q .normal s=exS env k Q .normal s:=aX rfl
theorem yQ:exS env (.ng :: k) Q .ret s=exS env k Q .ret s:=aX rfl
theorem vJ {i:Nat}:exS env (.ng :: k) Q (.exit i) s=exS env k Q (.exit i) s:=aX rfl
theorem yP:exS env (.ng :: k) Q=fun e2 s2=>match e2 with | .goto _=>False | e2=>exS env k Q e2 s2:=by
 funext e s
 cases e <;> rfl
theorem vM {l:Nat} {r:PC}:exS env (.sc l r :: k) Q (.goto l) s=pwp env r (exS env (.ng :: k) Q) s:=by
 rw [yP];exact propext ⟨fun h=>h.2,fun h=>⟨rfl,h⟩⟩
theorem aH {c:PC} (h:pwp env c (exS env [] Q) s):pwp env c Q s:=h
theorem dX {Q':Exit→St→Prop} {c:PC} (sls obs:List Nat) (h:∀ st:St,(∀ x,x ∈ sls→st.sl x=s.sl x)→(∀ o,o ∈ obs→st.gen o=s.gen o∧st.ob o=s.ob o)→pwp env c Q' st):pwp env c Q' s:=h s (fun _ _=>rfl) (fun _ _=>⟨rfl,rfl⟩)
theorem iL {Q':Exit→St→Prop} {c:PC} (P:St→Prop) (hP:P s) (sls obs:List Nat) (h:∀ st:St,P st→(∀ x,x ∈ sls→st.sl x=s.sl x)→(∀ o,o ∈ obs→st.gen o=s.gen o∧st.ob o=s.ob o)→pwp env c Q' st):pwp env c Q' s:=h s hP (fun _ _=>rfl) (fun _ _=>⟨rfl,rfl⟩)
theorem Fq:pwp env .skip (exS env k Q) s=exS env k Q .normal s:=aX rfl
theorem Ie {ops:List PI}:pwp env (.reg false ops) (exS env k Q) s=aG env ops s (exS env k Q .normal):=aX rfl
def drawn (ops:List PI) (K:St→Prop) (s:St) (fts:Ft):Prop:=qY ops fts=true∧K s
def Drw (ops:List PI) (fts:Ft):Prop:=qY ops fts=true
theorem Bd {ops:List PI} {K:St→Prop} {fts:Ft}:drawn ops K s fts=(Drw ops fts∧K s):=aX rfl
theorem Fp {ops:List PI}:pwp env (.reg true ops) (exS env k Q) s=bL env ops s [] (drawn ops (exS env k Q .normal)):=aX rfl
theorem Ih {a b:PC}:pwp env (.seq a b) (exS env k Q) s=pwp env a (exS env (.c b :: k) Q) s:=by
 show pwp env a _ s=_
 congr 1
def I7 (env:Env) (a b:PC) (k:List It) (Q:Exit→St→Prop) (s:St) (o:Option Bool):Prop:=aA o fun t=>(t=true→pwp env a (exS env k Q) s)∧(t=false→pwp env b (exS env k Q) s)
theorem xX {a b:PC} {t:Bool}:I7 env a b k Q s (some t)=((t=true→pwp env a (exS env k Q) s)∧(t=false→pwp env b (exS env k Q) s)):=aX rfl
theorem Fg {c:PX} {a b:PC}:pwp env (.cond c a b) (exS env k Q) s=I7 env a b k Q s (s.boo c):=aX rfl
theorem CU {id:Nat} {c:PC}:pwp env (.block id c) (exS env k Q) s=pwp env c (exS env (.bl id :: k) Q) s:=by
 show pwp env c _ s=_
 congr 1
theorem Fh {id:Nat}:pwp env (.exit id) (exS env k Q) s=exS env k Q (.exit id) s:=aX rfl
theorem Fj {l:Nat}:pwp env (.goto l) (exS env k Q) s=exS env k Q (.goto l) s:=aX rfl
theorem CV {l:Nat} {c r:PC}:pwp env (.scope l c r) (exS env k Q) s=pwp env c (exS env (.sc l r :: k) Q) s:=by
 show pwp env c _ s=_
 congr 1
theorem Ig:pwp env .ret (exS env k Q) s=exS env k Q .ret s:=aX rfl
theorem xk {c:PC} (I:Nat→St→Prop) (n:Nat) (h0:I n s) (h:∀ n s,I n s→pwp env c (exS env (.lp I n :: k) Q) s):pwp env (.loop c) (exS env k Q) s:=by
 refine ⟨I,⟨n,h0⟩,fun n s hI=>?_⟩;have:=h n s hI
 have he:exS env (.lp I n :: k) Q=fun e s'=>match e with | .normal=>∃ m,m < n∧I m s' | e=>exS env k Q e s':=by
  funext e s'
  cases e <;> rfl
 rw [he] at this;exact this
theorem KP {x:Nat} {v:Av} {ch:Cg}:(s.ap (some x) v ch).sl=up s.sl x v:=aX rfl
theorem JA {v:Av} {ch:Cg}:(s.ap none v ch).sl=s.sl:=aX rfl
theorem Ju {v:Av}:(s.ap d v .no).gen=s.gen:=aX rfl
theorem GJ {v:Av} {o off:Nat} {cs:List Cl}:(s.ap d v (.wr o off cs)).gen=s.gen:=aX rfl
theorem GI {v:Av} {o m:Nat}:(s.ap d v (.row o m)).gen=s.gen:=aX rfl
theorem GH {v:Av} {o:Nat} {x:Ob}:(s.ap d v (.new o x)).gen=up s.gen o (s.gen o+1):=aX rfl
theorem KO {v:Av}:(s.ap d v .no).ob=s.ob:=aX rfl
theorem Gf {v:Av} {o off:Nat} {cs:List Cl}:(s.ap d v (.wr o off cs)).ob=up s.ob o (wrF off cs (s.ob o)):=by
 rw [pq];rfl
theorem F9 {v:Av} {o m:Nat}:(s.ap d v (.row o m)).ob=up s.ob o (Ik m (s.ob o)):=by
 rw [pq];rfl
theorem Jz {v:Av} {o:Nat} {x:Ob}:(s.ap d v (.new o x)).ob=up s.ob o x:=aX rfl
theorem KN {v:Av} {ch:Cg}:(s.ap d v ch).nc=s.nc:=aX rfl
theorem GD {v:Av} {o:Nat} {l:List (Nat×Hb)}:(s.ap d v (.hw o l)).gen=s.gen:=aX rfl
theorem Gz {v:Av} {h:Nat→Hb}:(s.ap d v (.hall h)).gen=s.gen:=aX rfl
theorem Jy {v:Av} {c x:Nat} {l:List (Nat×Hb)} (hx:x < 1000000):(s.ap d v (.hw (HBS+c) l)).ob x=s.ob x:=by
 show up s.ob (HBS+c) _ x=_
 rw [ak,if_neg (by unfold HBS;omega)]
theorem Jv {v:Av} {x:Nat} {h:Nat→Hb} (hx:x < 1000000):(s.ap d v (.hall h)).ob x=s.ob x:=by
 show (if HBS≤x then _ else _)=_
 rw [if_neg (by unfold HBS;omega)]
theorem La {v:Av}:(s.ap d v .no).hb=s.hb:=aX rfl
theorem hb_new {v:Av} {o:Nat} {x:Ob} (h:o < 1000000):(s.ap d v (.new o x)).hb=s.hb:=by
 funext b
 exact lZ (o:=o) (fun p hp=>by show up s.ob o x p=_;rw [ak,if_neg hp]) (.inl (by unfold HBS;exact h)) b
theorem Lc {v:Av} {o off:Nat} {cs:List Cl} (h:o < 1000000):(s.ap d v (.wr o off cs)).hb=s.hb:=by
 funext b
 exact lZ (o:=o) (fun p hp=>by rw [Gf,ak,if_neg hp]) (.inl (by unfold HBS;exact h)) b
theorem JZ {v:Av} {o m:Nat} (h:o < 1000000):(s.ap d v (.row o m)).hb=s.hb:=by
 funext b
 exact lZ (o:=o) (fun p hp=>by rw [F9,ak,if_neg hp]) (.inl (by unfold HBS;exact h)) b
theorem KZ {v:Av} {o:Nat} {H:HP} (h:o < 1000000):(s.ap d v (.ab o H)).hb=s.hb:=by
 funext b
 exact lZ (o:=o) (fun p hp=>by show up s.ob o (.ab H) p=_;rw [ak,if_neg hp]) (.inl (by unfold HBS;exact h)) b
theorem AQ {f g:Nat→Hb} {b:Nat}:∀ {l:List (Nat×Hb)},f b=g b→upl f l b=upl g l b
 | [],h=>h
 | (c,x) :: l,h=>by
   show upl (up f c x) l b=upl (up g c x) l b
   exact AQ (l:=l) (by rw [ak,ak,h])
theorem AP {f:Nat→Hb} {b:Nat}:∀ {l:List (Nat×Hb)},(∀ p ∈ l,p.1≠b)→upl f l b=f b
 | [],_=>rfl
 | (c,x) :: l,h=>by
   show upl (up f c x) l b=f b
   rw [AP (fun p hp=>h p (by simp [hp])),ak,if_neg (Ne.symm (h (c,x) (by simp)))]
theorem jY {v:Av} {c:Nat} {l:List (Nat×Hb)} (h:∀ p ∈ l,s.nc p.1=c):(s.ap d v (.hw (HBS+c) l)).hb=upl s.hb l:=by
 funext b
 show dA (up s.ob (HBS+c) (.hp (upl (dA (s.ob (HBS+c))) l)) (HBS+s.nc b)) b=upl s.hb l b
 rw [ak]
 by_cases hb:s.nc b=c
 ·rw [if_pos (by rw [hb])];exact AQ (show dA (s.ob (HBS+c)) b=dA (s.ob (HBS+s.nc b)) b by rw [hb])
 ·rw [if_neg (by omega),AP (fun p hp e=>hb (by rw [←e];exact h p hp))]
  rfl
theorem JX {v:Av} {c b:Nat} {x:Hb} (h:s.nc b=c):(s.ap d v (.hw (HBS+c) [(b,x)])).hb=up s.hb b x:=jY (by simpa using h)
theorem JY {v:Av} {c b b':Nat} {x x':Hb} (h:s.nc b=c) (h':s.nc b'=c):(s.ap d v (.hw (HBS+c) [(b,x),(b',x')])).hb=up (up s.hb b x) b' x':=jY (by simp [h,h'])
theorem JW {v:Av} {h:Nat→Hb}:(s.ap d v (.hall h)).hb=h:=Ai
def I4:Cg→Bool
 | .new o _=>decide (o < 1000000)
 | .wr o _ _=>decide (o < 1000000)
 | .row o _=>decide (o < 1000000)
 | .ab o _=>decide (o < 1000000)
 | _=>true
def aQ (s:St):Prop:=∀ c,wQ (s.ob (HBS+c))=true
theorem aQ.ap {v:Av} {ch:Cg} (h:aQ s) (hc:I4 ch=true):aQ (s.ap d v ch):=fun c=>by
 have hHB:∀ o,decide (o < 1000000)=true→HBS+c≠o:=fun o ho=>by have:=of_decide_eq_true ho;unfold HBS;omega
 rw [pq]
 show wQ (ch.oF s.nc s.ob (HBS+c))=true
 cases ch with
 | no=>exact h c
 | new o x=>simp only [Cg.oF,md,ak,if_neg (hHB o hc)];exact h c
 | wr o off cs=>simp only [Cg.oF,md,ak,if_neg (hHB o hc)];exact h c
 | row o m=>simp only [Cg.oF,md,ak,if_neg (hHB o hc)];exact h c
 | ab o H=>simp only [Cg.oF,md,ak,if_neg (hHB o hc)];exact h c
 | hw o l=>simp only [Cg.oF,md,ak];split;rfl;exact h c
 | hall hp=>simp only [Cg.oF];rw [if_pos (Nat.le_add_right _ _)];rfl
theorem iC {c b:Nat} (h1:s.nc b=c) (h2:aQ s) (h3:s.hb b=.no):s.lay c b:=⟨h1,h2 c,h3⟩
theorem aQ.init {nc:Nat→Nat} {hp:Nat→Hb} {az:List Hw}:aQ (St.eG nc hp az):=fun c=>by
 show wQ (if HBS≤HBS+c then _ else _)=true
 rw [if_pos (Nat.le_add_right _ _)];rfl
def lu:List Hw→Nat→Av
 | [],_=>.un
 | p :: _,0=>.b p.bv
 | _ :: r,n+1=>lu r n
theorem EU (nc:Nat→Nat) (hp:Nat→Hb) (ps:List Hw) (x:Nat):(St.eG nc hp ps).sl x=lu ps x:=by
 show (match ps[x]? with | some p=>Av.b p.bv | none=>.un)=_
 induction ps generalizing x with
 | nil=>simp [lu]
 | cons p r ih =>
   cases x with
   | zero=>rfl
   | succ x=>rw [List.getElem?_cons_succ,ih x];rfl
theorem Cb {nc:Nat→Nat} {hp:Nat→Hb} {ps:List Hw} {x:Nat}:(St.eG nc hp ps).gen x=0:=aX rfl
theorem ET {nc:Nat→Nat} {hp:Nat→Hb} {ps:List Hw} {x:Nat} (h:x < 1000000):(St.eG nc hp ps).ob x=.no:=by
 show (if HBS≤x then _ else _)=_
 rw [if_neg (by unfold HBS;omega)]
theorem ES {nc:Nat→Nat} {hp:Nat→Hb} {ps:List Hw}:(St.eG nc hp ps).nc=nc:=aX rfl
theorem sW {off:Nat} {cs old:List Cl}:wrF off cs (.cells old)=.cells (fC old off cs):=aX rfl
theorem jD {m E sz n:Nat}:Ik m (.row E sz n)=.row E sz m:=aX rfl
def mU:List Pa→Nat→Av
 | [],_=>.un
 | p :: _,0=>.b p.bv
 | _ :: r,n+1=>mU r n
theorem Ak (ps:List Pa) (x:Nat):(St.init ps).sl x=mU ps x:=by
 show (match ps[x]? with | some p=>Av.b p.bv | none=>.un)=_
 induction ps generalizing x with
 | nil=>simp [mU]
 | cons p r ih =>
   cases x with
   | zero=>rfl
   | succ x=>rw [List.getElem?_cons_succ,ih x];rfl
theorem Cj {ds:List Dt} {ps:List Pa}:(St.za ds ps).sl 0=.b (.one (.ptr 0 0 0)):=aX rfl
theorem Cm {ds:List Dt} {ps:List Pa} {x:Nat}:(St.za ds ps).sl (x+1)=mU ps x:=(Ak ps x)
theorem Cc {ds:List Dt} {ps:List Pa} {x:Nat}:(St.za ds ps).gen x=0:=aX rfl
theorem Ce {ds:List Dt} {ps:List Pa}:(St.za ds ps).ob 0=.cells (ds.map .d):=aX rfl
theorem Ci {ds:List Dt} {ps:List Pa} {x:Nat}:(St.za ds ps).ob (x+1)=.no:=aX rfl
theorem EW {ps:List Pa} {x:Nat}:(St.init ps).gen x=0:=aX rfl
theorem Hu {ps:List Pa} {x:Nat}:(St.init ps).ob x=.no:=aX rfl
theorem LQ {x:Nat}:s.ev (.t x)=s.sl x:=aX rfl
theorem JF {k:IntKind} {m:Int}:s.ev (.v (.int k m))=.b (.one (.d (.sc (.int k m)))):=aX rfl
theorem G8 {b:Bool}:s.ev (.v (.bool b))=.b (.one (.d (.sc (.bool b)))):=aX rfl
theorem Bj {b:ByteArray}:s.ev (.v (.string b))=.b (.one (.d (.sc (.string b)))):=aX rfl
theorem JG:s.ev (.v (.slice none 0 0))=.b (.one (.d (.sc (.slice none 0 0)))):=aX rfl
theorem JE {l:Array Value}:s.ev (.v (.agg l))=.b (.agg (l.toList.map fun v=>.d (.sc v))):=aX rfl
theorem JH:s.ev (.v (.pointer none))=.b (.one (.d (.sc (.pointer none)))):=aX rfl
theorem DN:s.args []=some []:=aX rfl
theorem AX {x:PX} {xs:List PX}:s.args (x :: xs)=(match (s.ev x).pa with | some p=>(s.args xs).map (p :: ·) | none=>none):=by
 unfold St.args;simp only [List.map_cons];cases (s.ev x).pa <;> rfl
end
def Within (ms os:List Nat) (s0 st:St):Prop:=(∀ x,ms.contains x=false→st.sl x=s0.sl x)∧∀ o,os.contains o=false→st.gen o=s0.gen o∧st.ob o=s0.ob o
def over (ms os:List Nat) (s0 j:St):St:=⟨fun x=>bif ms.contains x then j.sl x else s0.sl x,fun o=>bif os.contains o then j.gen o else s0.gen o,fun o=>bif os.contains o then j.ob o else s0.ob o,j.nc⟩
theorem Within.refl (ms os:List Nat) (s:St):Within ms os s s:=⟨fun _ _=>rfl,fun _ _=>⟨rfl,rfl⟩⟩
theorem Within.over {ms os:List Nat} {s0 st:St} (h:Within ms os s0 st):∃ j,st=over ms os s0 j:=by
 refine ⟨st,?_⟩;obtain ⟨h1,h2⟩:=h
 have e1:st.sl=(Go.Proofs.Ytkafcpnahpfbfaa.over ms os s0 st).sl:=by
  funext x
  show st.sl x=bif ms.contains x then st.sl x else s0.sl x
  cases hx:ms.contains x with
  | true=>rfl
  | false=>exact h1 x hx
 have e2:st.gen=(Go.Proofs.Ytkafcpnahpfbfaa.over ms os s0 st).gen:=by
  funext x
  show st.gen x=bif os.contains x then st.gen x else s0.gen x
  cases hx:os.contains x with
  | true=>rfl
  | false=>exact (h2 x hx).1
 have e3:st.ob=(Go.Proofs.Ytkafcpnahpfbfaa.over ms os s0 st).ob:=by
  funext x
  show st.ob x=bif os.contains x then st.ob x else s0.ob x
  cases hx:os.contains x with
  | true=>rfl
  | false=>exact (h2 x hx).2
 show (⟨st.sl,st.gen,st.ob,st.nc⟩:St)=⟨(Go.Proofs.Ytkafcpnahpfbfaa.over ms os s0 st).sl,(Go.Proofs.Ytkafcpnahpfbfaa.over ms os s0 st).gen,(Go.Proofs.Ytkafcpnahpfbfaa.over ms os s0 st).ob,st.nc⟩
 rw [←e1,←e2,←e3]
theorem Aw {ms os:List Nat} {s0 j:St} {x:Nat}:(over ms os s0 j).sl x=bif ms.contains x then j.sl x else s0.sl x:=aX rfl
theorem xg {ms os:List Nat} {s0 j:St} {x:Nat}:(over ms os s0 j).gen x=bif os.contains x then j.gen x else s0.gen x:=aX rfl
theorem Au {ms os:List Nat} {s0 j:St} {x:Nat}:(over ms os s0 j).ob x=bif os.contains x then j.ob x else s0.ob x:=aX rfl
theorem aP {ms os:List Nat} {s0 j:St}:Within ms os s0 (over ms os s0 j)=True:=by
 apply propext
 refine ⟨fun _=>trivial,fun _=>⟨fun x hx=>?_,fun o ho=>⟨?_,?_⟩⟩⟩
 ·rw [Aw,hx];rfl
 ·rw [xg,ho];rfl
 ·rw [Au,ho];rfl
def KJ (os:List Nat):Cg→Bool
 | .ab o _=>os.contains o
 | .no=>true
 | .new o _=>os.contains o
 | .wr o _ _=>os.contains o
 | .row o _=>os.contains o
 | .hw o _=>os.contains o
 | .hall _=>false
theorem Within.ap {ms os:List Nat} {s0 s:St} {d:Option Nat} {v:Av} {ch:Cg} (h:Within ms os s0 s) (hd:∀ x,d=some x→ms.contains x=true) (hc:KJ os ch=true):Within ms os s0 (s.ap d v ch):=by
 obtain ⟨h1,h2⟩:=h;rw [pq];refine ⟨fun x hx=>?_,fun o ho=>?_⟩
 ·cases d with
  | none=>exact h1 x hx
  | some y =>
    show up s.sl y v x=_
    rw [ak,if_neg]
    ·exact h1 x hx
    ·rintro rfl;rw [hd x rfl] at hx;cases hx
 ·have key:∀ y:Nat,os.contains y=true→o≠y:=by
   rintro y hy rfl;rw [hy] at ho;cases ho
  show ch.gF s.gen o=_∧ch.oF s.nc s.ob o=_
  cases ch with
  | no=>exact h2 o ho
  | new y x=>simp only [Cg.gF,Cg.oF,Go.Proofs.Ytkafcpnahpfbfaa.md,ak,if_neg (key y hc)];exact h2 o ho
  | wr y off cs=>simp only [Cg.gF,Cg.oF,Go.Proofs.Ytkafcpnahpfbfaa.md,ak,if_neg (key y hc)];exact h2 o ho
  | row y m=>simp only [Cg.gF,Cg.oF,Go.Proofs.Ytkafcpnahpfbfaa.md,ak,if_neg (key y hc)];exact h2 o ho
  | ab y H=>simp only [Cg.gF,Cg.oF,Go.Proofs.Ytkafcpnahpfbfaa.md,ak,if_neg (key y hc)];exact h2 o ho
  | hw y l=>simp only [Cg.gF,Cg.oF,Go.Proofs.Ytkafcpnahpfbfaa.md,ak,if_neg (key y hc)];exact h2 o ho
  | hall h=>cases hc
theorem aT {ms os:List Nat} {s0 s:St} {x:Nat} {v:Av} {ch:Cg} (h:Within ms os s0 s) (hd:ms.contains x=true) (hc:KJ os ch=true):Within ms os s0 (s.ap (some x) v ch):=h.ap (fun y hy=>by cases hy;exact hd) hc
theorem aO {ms os:List Nat} {s0 s:St} {v:Av} {ch:Cg} (h:Within ms os s0 s) (hc:KJ os ch=true):Within ms os s0 (s.ap none v ch):=h.ap (fun y hy=>by cases hy) hc
theorem Within.trans {ms os:List Nat} {a b c:St} (h:Within ms os a b) (k:Within ms os b c):Within ms os a c :=
 ⟨fun x hx=>(k.1 x hx).trans (h.1 x hx),fun o ho=>⟨(k.2 o ho).1.trans (h.2 o ho).1,(k.2 o ho).2.trans (h.2 o ho).2⟩⟩
theorem bH {env:Env} {k:List It} {Q:Exit→St→Prop} {s:St} {c:PC} (ms os:List Nat) (J:Nat→St→Prop) (m0:Nat) (h0:J m0 s)
 (h:∀ m j,J m (over ms os s j)→pwp env c (exS env (.lp (fun m st=>Within ms os s st∧J m st) m :: k) Q) (over ms os s j)):pwp env (.loop c) (exS env k Q) s :=
 xk (fun m st=>Within ms os s st∧J m st) m0 ⟨Within.refl _ _ _,h0⟩ (fun m st ⟨hW,hJ⟩=>by
  obtain ⟨j,rfl⟩:=hW.over;exact h m j hJ)
def bY (ms os:List Nat) (s0 st:St):Prop:=(∀ x,ms.contains x=false→st.sl x=s0.sl x)∧(∀ o,os.contains o=false→st.gen o=s0.gen o∧(o < 1000000→st.ob o=s0.ob o))∧st.nc=s0.nc∧aQ st
def iy (ms os:List Nat) (s0 j:St):St:=⟨fun x=>bif ms.contains x then j.sl x else s0.sl x,fun o=>bif os.contains o then j.gen o else s0.gen o,fun o=>if o < 1000000 then (bif os.contains o then j.ob o else s0.ob o) else j.ob o,s0.nc⟩
theorem bY.refl (ms os:List Nat) {s:St} (h:aQ s):bY ms os s s:=⟨fun _ _=>rfl,fun _ _=>⟨rfl,fun _=>rfl⟩,rfl,h⟩
theorem bY.over {ms os:List Nat} {s0 st:St} (h:bY ms os s0 st):st=iy ms os s0 st:=by
 obtain ⟨h1,h2,h3,_⟩:=h
 have e1:st.sl=(iy ms os s0 st).sl:=by
  funext x
  show st.sl x=bif ms.contains x then st.sl x else s0.sl x
  cases hx:ms.contains x with
  | true=>rfl
  | false=>exact h1 x hx
 have e2:st.gen=(iy ms os s0 st).gen:=by
  funext x
  show st.gen x=bif os.contains x then st.gen x else s0.gen x
  cases hx:os.contains x with
  | true=>rfl
  | false=>exact (h2 x hx).1
 have e3:st.ob=(iy ms os s0 st).ob:=by
  funext x
  show st.ob x=if x < 1000000 then (bif os.contains x then st.ob x else s0.ob x) else st.ob x
  split
  ·rename_i hlt
   cases hx:os.contains x with
   | true=>rfl
   | false=>exact (h2 x hx).2 hlt
  ·rfl
 have e4:st.nc=(iy ms os s0 st).nc:=h3
 show (⟨st.sl,st.gen,st.ob,st.nc⟩:St)=⟨(iy ms os s0 st).sl,(iy ms os s0 st).gen,(iy ms os s0 st).ob,(iy ms os s0 st).nc⟩
 rw [←e1,←e2,←e3,←e4]
theorem w9 {ms os:List Nat} {s0 j:St} {x:Nat}:(iy ms os s0 j).sl x=bif ms.contains x then j.sl x else s0.sl x:=aX rfl
theorem sO {ms os:List Nat} {s0 j:St} {x:Nat}:(iy ms os s0 j).gen x=bif os.contains x then j.gen x else s0.gen x:=aX rfl
theorem wZ {ms os:List Nat} {s0 j:St} {x:Nat} (h:x < 1000000):(iy ms os s0 j).ob x=bif os.contains x then j.ob x else s0.ob x:=by
 show (if x < 1000000 then _ else _)=_
 rw [if_pos h]
theorem Fb {ms os:List Nat} {s0 j:St}:(iy ms os s0 j).nc=s0.nc:=aX rfl
theorem wY {ms os:List Nat} {s0 j:St} (h:j.nc=s0.nc):(iy ms os s0 j).hb=j.hb:=by
 funext b
 show dA (if HBS+s0.nc b < 1000000 then _ else j.ob (HBS+s0.nc b)) b=dA (j.ob (HBS+j.nc b)) b
 rw [if_neg (by unfold HBS;omega),h]
theorem bq {ms os:List Nat} {s0 j:St} (h:aQ j):aQ (iy ms os s0 j):=fun c=>by
 show wQ (if HBS+c < 1000000 then _ else j.ob (HBS+c))=true
 rw [if_neg (by unfold HBS;omega)];exact h c
def ni (os:List Nat):Cg→Bool
 | .ab o _=>os.contains o && decide (o < 1000000)
 | .no=>true
 | .new o _=>os.contains o && decide (o < 1000000)
 | .wr o _ _=>os.contains o && decide (o < 1000000)
 | .row o _=>os.contains o && decide (o < 1000000)
 | .hw o _=>decide (1000000≤o)
 | .hall _=>true
theorem bY.ap {ms os:List Nat} {s0 s:St} {d:Option Nat} {v:Av} {ch:Cg} (h:bY ms os s0 s) (hd:∀ x,d=some x→ms.contains x=true) (hc:ni os ch=true):bY ms os s0 (s.ap d v ch):=by
 obtain ⟨h1,h2,h3,h4⟩:=h;have hlow:I4 ch=true:=by cases ch <;> simp only [ni,Bool.and_eq_true] at hc <;> first | rfl | exact hc.2
 have h4':=h4.ap (d:=d) (v:=v) hlow;rw [pq] at h4' ⊢;refine ⟨fun x hx=>?_,fun o ho=>?_,h3,h4'⟩
 ·cases d with
  | none=>exact h1 x hx
  | some y =>
    show up s.sl y v x=_
    rw [ak,if_neg]
    ·exact h1 x hx
    ·rintro rfl;rw [hd x rfl] at hx;cases hx
 ·have key:∀ y:Nat,os.contains y=true→o≠y:=by
   rintro y hy rfl;rw [hy] at ho;cases ho
  show ch.gF s.gen o=_∧(o < 1000000→ch.oF s.nc s.ob o=_)
  obtain ⟨g1,g2⟩:=h2 o ho
  cases ch with
  | no=>exact ⟨g1,g2⟩
  | new y x=>simp only [ni,Bool.and_eq_true] at hc;simp only [Cg.gF,Cg.oF,Go.Proofs.Ytkafcpnahpfbfaa.md,ak,if_neg (key y hc.1)];exact ⟨g1,g2⟩
  | wr y off cs=>simp only [ni,Bool.and_eq_true] at hc;simp only [Cg.gF,Cg.oF,Go.Proofs.Ytkafcpnahpfbfaa.md,ak,if_neg (key y hc.1)];exact ⟨g1,g2⟩
  | row y m=>simp only [ni,Bool.and_eq_true] at hc;simp only [Cg.gF,Cg.oF,Go.Proofs.Ytkafcpnahpfbfaa.md,ak,if_neg (key y hc.1)];exact ⟨g1,g2⟩
  | ab y H=>simp only [ni,Bool.and_eq_true] at hc;simp only [Cg.gF,Cg.oF,Go.Proofs.Ytkafcpnahpfbfaa.md,ak,if_neg (key y hc.1)];exact ⟨g1,g2⟩
  | hw y l =>
    have hy:=of_decide_eq_true hc;refine ⟨g1,fun hlt=>?_⟩;simp only [Cg.oF,Go.Proofs.Ytkafcpnahpfbfaa.md,ak,if_neg (show o≠y by omega)];exact g2 hlt
  | hall hp =>
    refine ⟨g1,fun hlt=>?_⟩;simp only [Cg.oF];rw [if_neg (by unfold HBS;omega)];exact g2 hlt
theorem aK {ms os:List Nat} {s0 s:St} {x:Nat} {v:Av} {ch:Cg} (h:bY ms os s0 s) (hd:ms.contains x=true) (hc:ni os ch=true):bY ms os s0 (s.ap (some x) v ch):=h.ap (fun y hy=>by cases hy;exact hd) hc
theorem aD {ms os:List Nat} {s0 s:St} {v:Av} {ch:Cg} (h:bY ms os s0 s) (hc:ni os ch=true):bY ms os s0 (s.ap none v ch):=h.ap (fun y hy=>by cases hy) hc
theorem aN {os:List Nat} {c:Nat} {l:List (Nat×Hb)}:ni os (.hw (HBS+c) l)=true:=by unfold ni;exact decide_eq_true (by unfold HBS;omega)
theorem bC {ms os:List Nat} {s0 j:St} (h:aQ j):bY ms os s0 (iy ms os s0 j) :=
 ⟨fun x hx=>by rw [w9,hx];rfl,fun o ho=>⟨by rw [sO,ho];rfl,fun hlt=>by rw [wZ hlt,ho];rfl⟩,rfl,bq h⟩
theorem bY.in' {ms os ms' os':List Nat} {s0 b st:St} (h:bY ms os s0 b) (k:bY ms' os' b st) (hm:ms'.all (fun x=>ms.contains x)=true) (ho:os'.all (fun x=>os.contains x)=true):bY ms os s0 st:=by
 have sub:∀ {l l':List Nat},l'.all (fun x=>l.contains x)=true→∀ x,l.contains x=false→l'.contains x=false:=fun {l l'} hl x hx=>by
  cases h2:l'.contains x with
  | false=>rfl
  | true =>
    have:=List.all_eq_true.1 hl x (by simpa using h2);rw [hx] at this;cases this
 refine ⟨fun x hx=>(k.1 x (sub hm x hx)).trans (h.1 x hx),fun o ho2=>?_,k.2.2.1.trans h.2.2.1,k.2.2.2⟩;obtain ⟨k1,k2⟩:=k.2.1 o (sub ho o ho2);obtain ⟨h1,h2⟩:=h.2.1 o ho2;exact ⟨k1.trans h1,fun hlt=>(k2 hlt).trans (h2 hlt)⟩
theorem dY {env:Env} {k:List It} {Q:Exit→St→Prop} {s:St} {c:PC} (ms os:List Nat) (J:Nat→St→Prop) (m0:Nat) (hs:aQ s) (h0:J m0 s)
 (h:∀ m j,j.nc=s.nc→aQ j→J m (iy ms os s j)→pwp env c (exS env (.lp (fun m st=>bY ms os s st∧J m st) m :: k) Q) (iy ms os s j)):pwp env (.loop c) (exS env k Q) s :=
 xk (fun m st=>bY ms os s st∧J m st) m0 ⟨bY.refl _ _ hs,h0⟩ (fun m st ⟨hW,hJ⟩=>by
  have:=hW.over;rw [this] at hJ ⊢;exact h m st hW.2.2.1 hW.2.2.2 hJ)
theorem fE {x:Int} (h1:-9223372036854775808≤x) (h2:x≤9223372036854775807):IntKind.i64.wrap x=x:=IntWalk.i64_in x ⟨h1,h2⟩
theorem wrN {k:Nat} (h:k≤1000000000):IntKind.i64.wrap ((k:Int)+1)=((k+1:Nat):Int):=by
 rw [fE (by omega) (by omega)];omega
end Go.Proofs.Ytkafcpnahpfbfaa
end
section
namespace Go.Proofs.Ytkafcpnahpfbfaa
open Go Go.RowKit
set_option maxRecDepth 100000
def unN:Option Value→Option (Av×Cg)
 | some (.bool b)=>some (dL (.bool !b),.no)
 | _=>none
def unG:Option Value→Option (Av×Cg)
 | some (.int k n)=>some (dL (.int k (k.wrap (0 - n))),.no)
 | _=>none
def unX:Option Value→Option (Av×Cg)
 | some (.int k n)=>some (dL (.int k (k.wrap (BitVec.ofInt k.bits (if k.signed then -1 else k.max) ^^^ BitVec.ofInt k.bits n).toNat)),.no)
 | _=>none
theorem JN {s:St} {d:Nat} {x:PX}:PO.fn s d (.un .not x)=unN (s.val x):=by
 cases h:s.val x with
 | none=>simp only [PO.fn,h,unN]
 | some v=>cases v <;> simp only [PO.fn,h,unN]
theorem JM {s:St} {d:Nat} {x:PX}:PO.fn s d (.un .neg x)=unG (s.val x):=by
 cases h:s.val x with
 | none=>simp only [PO.fn,h,unG]
 | some v=>cases v <;> simp only [PO.fn,h,unG]
theorem JO {s:St} {d:Nat} {x:PX}:PO.fn s d (.un .xor x)=unX (s.val x):=by
 cases h:s.val x with
 | none=>simp only [PO.fn,h,unX]
 | some v=>cases v <;> simp only [PO.fn,h,unX]
theorem aj {a b:Prop} (x:a) (y:b):a∧b:=⟨x,y⟩
def Jb:=PLift.up (aj @yH<|
 aj @yF<|
 aj @yG<|
 aj @Ef<|
 aj @Ed<|
 aj @Ee<|
 aj @Fq<|
 aj @Ie<|
 aj @Fp<|
 aj @Ih<|
 aj @Fg<|
 aj @CU<|
 aj @Fh<|
 aj @Ig<|
 aj @Fj<|
 @CV)
theorem evP:type_of% Jb.down:=Jb.down
def Ja:=PLift.up (aj @mE<|
 aj @qx<|
 aj @St.gd.eq_1<|
 aj @zi.eq_1<|
 aj @zi.eq_2<|
 aj @zi.eq_3<|
 aj @zi.eq_4<|
 aj @skp.eq_1<|
 aj @yN<|
 aj @vG<|
 aj @vI<|
 aj @JL<|
 aj @yR<|
 aj @vK<|
 aj @vM<|
 aj @JK<|
 aj @yQ<|
 aj @vJ<|
 aj @xX<|
 aj @G9<|
 aj @yL<|
 aj @Bo<|
 aj @yM<|
 aj @JJ<|
 aj @yK<|
 aj @vF<|
 aj @yO<|
 aj @vH<|
 aj @vD<|
 aj @yI<|
 aj @sN<|
 aj @Fa<|
 aj @fP<|
 aj @tJ<|
 aj @fQ<|
 aj @Bl<|
 aj @Bd<|
 aj @List.reverse_cons.{0}<|
 aj @List.reverse_nil.{0}<|
 aj @vB<|
 aj @iW<|
 aj @JU<|
 aj @sK<|
 aj @E5<|
 aj @xY<|
 aj @iZ<|
 aj @xG<|
 aj @xH<|
 aj @A8<|
 aj @xE<|
 aj @uV<|
 aj @uW<|
 aj @CR<|
 aj @Ia<|
 aj @CK<|
 aj @H8<|
 aj @xI<|
 aj @CF<|
 aj @uX<|
 aj @zk<|
 aj @Ei<|
 aj @JQ<|
 aj @H9<|
 aj @E8<|
 aj @CP<|
 aj @CO<|
 aj @CQ<|
 aj @H7<|
 aj @CJ<|
 aj @CG<|
 aj @uU<|
 aj @uT<|
 aj @Bw<|
 aj @EP<|
 @BZ)
theorem evB:type_of% Ja.down:=Ja.down
def Jp:=PLift.up (aj @PO.aF.eq_1<|
 aj @PO.aF.eq_2<|
 aj @PO.aF.eq_3<|
 aj @PO.aF.eq_4<|
 aj @PO.aF.eq_5<|
 aj @PO.aF.eq_6<|
 aj @PO.aF.eq_7<|
 aj @PO.aF.eq_8<|
 aj @PO.aF.eq_9<|
 aj @PO.aF.eq_10<|
 aj @PO.aF.eq_11<|
 aj @PO.aF.eq_12<|
 aj @PO.aF.eq_13<|
 aj @PO.aF.eq_14<|
 aj @PO.aF.eq_15<|
 aj @PO.aF.eq_16<|
 aj @PO.aF.eq_17<|
 aj @PO.aF.eq_18<|
 aj @PO.aF.eq_19<|
 aj @PO.aF.eq_20<|
 aj @PO.aF.eq_21<|
 aj @PO.aF.eq_22<|
 aj @PO.aF.eq_23<|
 aj @PO.aF.eq_24<|
 aj @PO.aF.eq_25<|
 aj @PO.aF.eq_26<|
 aj @PO.aF.eq_27<|
 aj @PO.aF.eq_28<|
 aj @PO.aF.eq_29<|
 aj @PO.aF.eq_30<|
 aj @PO.aF.eq_31<|
 aj @PO.aF.eq_32<|
 aj @PO.aF.eq_33<|
 aj @PO.aF.eq_34<|
 aj @PO.aF.eq_35<|
 aj @PO.aF.eq_36<|
 aj @PO.aF.eq_37<|
 aj @PO.aF.eq_38<|
 aj @PO.aF.eq_39<|
 aj @PO.aF.eq_40<|
 aj @PO.aF.eq_41<|
 aj @PO.aF.eq_42<|
 aj @PO.aF.eq_43<|
 aj @PO.aF.eq_44<|
 aj @PO.aF.eq_45<|
 aj @PO.aF.eq_46<|
 aj @PO.aF.eq_47<|
 aj @PO.aF.eq_48<|
 aj @PO.aF.eq_49<|
 aj @PO.aF.eq_50<|
 aj @PO.aF.eq_51<|
 aj @PO.aF.eq_52<|
 aj @PO.aF.eq_53<|
 aj @PO.aF.eq_54<|
 aj @Option.getD_some.{0}<|
 aj @Option.getD_none.{0}<|
 aj @KP<|
 aj @JA<|
 aj @Ju<|
 aj @GJ<|
 aj @GI<|
 aj @GH<|
 aj @KO<|
 aj @Gf<|
 aj @F9<|
 aj @Jz<|
 aj @sW<|
 aj @jD<|
 aj @Ak<|
 aj @mU.eq_1<|
 aj @mU.eq_2<|
 aj @mU.eq_3<|
 aj @EW<|
 aj @Hu<|
 aj @LQ<|
 aj @JF<|
 aj @G8<|
 aj @Bj<|
 aj @JG<|
 aj @JE<|
 aj @JH<|
 aj @DN<|
 aj @AX<|
 aj @ak<|
 aj @PO.fn.eq_1<|
 aj @PO.fn.eq_2<|
 aj @PO.fn.eq_3<|
 aj @PO.fn.eq_4<|
 aj @PO.fn.eq_5<|
 aj @PO.fn.eq_8<|
 aj @PO.fn.eq_9<|
 aj @PO.fn.eq_10<|
 aj @PO.fn.eq_11<|
 aj @PO.fn.eq_12<|
 aj @PO.fn.eq_13<|
 aj @PO.fn.eq_14<|
 aj @PO.fn.eq_15<|
 aj @PO.fn.eq_16<|
 aj @PO.fn.eq_17<|
 aj @PO.fn.eq_18<|
 aj @PO.fn.eq_23<|
 aj @PO.fn.eq_24<|
 aj @PO.fn.eq_25<|
 aj @PO.fn.eq_26<|
 aj @PO.fn.eq_27<|
 aj @PO.fn.eq_28<|
 aj @PO.fn.eq_29<|
 aj @PO.fn.eq_30<|
 aj @PO.fn.eq_31<|
 aj @PO.fn.eq_32<|
 aj @PO.fn.eq_33<|
 aj @PO.fn.eq_34<|
 aj @PO.fn.eq_35<|
 aj @PO.fn.eq_36<|
 aj @PO.fn.eq_37<|
 aj @PO.fn.eq_38<|
 aj @PO.fn.eq_39<|
 aj @PO.fn.eq_40<|
 aj @PO.fn.eq_41<|
 aj @PO.fn.eq_42<|
 aj @PO.fn.eq_43<|
 aj @PO.fn.eq_44<|
 aj @PO.fn.eq_45<|
 aj @PO.fn.eq_46<|
 aj @PO.fn.eq_47<|
 aj @PO.fn.eq_48<|
 aj @PO.fn.eq_49<|
 aj @PO.fn.eq_50<|
 aj @PO.fn.eq_51<|
 aj @PO.fn.eq_52<|
 aj @PO.fn.eq_53<|
 aj @PO.fn.eq_54<|
 aj @PO.fn.eq_55<|
 aj @PO.fn.eq_56<|
 aj @PO.fn.eq_57<|
 aj @JN<|
 aj @JM<|
 aj @JO<|
 aj @unN.eq_1<|
 aj @unG.eq_1<|
 aj @unX.eq_1<|
 aj @Em<|
 aj @Bz<|
 aj @yS.eq_1<|
 aj @l5.eq_1<|
 aj @l5.eq_2<|
 aj @beq_self_eq_true.{0}<|
 aj @List.flatMap_cons.{0,0}<|
 aj @List.flatMap_nil.{0,0}<|
 aj @PO.rd.eq_1<|
 aj @PO.rd.eq_2<|
 aj @PO.rd.eq_3<|
 aj @PO.rd.eq_4<|
 aj @PO.rd.eq_5<|
 aj @PO.rd.eq_6<|
 aj @PO.rd.eq_7<|
 aj @PO.rd.eq_8<|
 aj @PO.rd.eq_9<|
 aj @PO.rd.eq_10<|
 aj @PO.rd.eq_11<|
 aj @PO.rd.eq_12<|
 aj @PO.rd.eq_13<|
 aj @PO.rd.eq_14<|
 aj @PO.rd.eq_15<|
 aj @PO.rd.eq_16<|
 aj @PO.rd.eq_17<|
 aj @PO.rd.eq_18<|
 aj @PO.rd.eq_19<|
 aj @PO.rd.eq_20<|
 aj @PO.rd.eq_21<|
 aj @PO.rd.eq_22<|
 aj @PO.rd.eq_23<|
 aj @PO.rd.eq_24<|
 aj @PO.rd.eq_25<|
 aj @PO.rd.eq_26<|
 aj @PO.rd.eq_27<|
 aj @PO.rd.eq_28<|
 aj @PO.rd.eq_29<|
 aj @PO.rd.eq_30<|
 aj @PO.rd.eq_31<|
 aj @PO.rd.eq_32<|
 aj @PO.rd.eq_33<|
 aj @Cg.wrs.eq_1<|
 aj @Cg.wrs.eq_2<|
 aj @Cg.wrs.eq_3<|
 aj @Cg.wrs.eq_4<|
 aj @Cg.wrs.eq_5<|
 aj @Cg.wrs.eq_6<|
 aj @Cg.wrs.eq_7<|
 aj @St.cl.eq_1<|
 aj @St.val.eq_1<|
 aj @St.int.eq_1<|
 aj @St.boo.eq_1<|
 aj @St.cs.eq_1<|
 aj @St.parts.eq_1<|
 aj @St.parts.eq_2<|
 aj @dL.eq_1<|
 aj @Cl.rows.eq_1<|
 aj @Cl.rows.eq_2<|
 aj @Cl.rows.eq_3<|
 aj @Cl.rows.eq_4<|
 aj @Cl.rows.eq_5<|
 aj @Cl.dt.eq_1<|
 aj @Cl.dt.eq_2<|
 aj @Cl.dt.eq_3<|
 aj @Cl.dt.eq_4<|
 aj @Cl.dt.eq_5<|
 aj @Bv.pa.eq_1<|
 aj @Bv.pa.eq_2<|
 aj @Av.pa.eq_1<|
 aj @Av.pa.eq_2<|
 aj @Pa.bv.eq_1<|
 aj @Pa.bv.eq_2<|
 aj @jo.eq_1<|
 aj @jo.eq_2<|
 aj @jo.eq_3<|
 aj @au.eq_1<|
 aj @au.eq_2<|
 aj @au.eq_3<|
 aj @kG.eq_1<|
 aj @kG.eq_2<|
 aj @fC.eq_1<|
 aj @fC.eq_2<|
 aj @fC.eq_3<|
 aj @fC.eq_4<|
 aj @splice.eq_1<|
 aj @bZ.eq_1<|
 aj @bZ.eq_2<|
 aj @chunks.eq_1<|
 aj @chunks.eq_2<|
 aj @dU.eq_1<|
 aj @dU.eq_2<|
 aj @dU.eq_3<|
 aj @dU.eq_4<|
 aj @dU.eq_5<|
 aj @dU.eq_6<|
 aj @dU.eq_7<|
 aj @dU.eq_8<|
 aj @dU.eq_9<|
 aj @dU.eq_10<|
 aj @dU.eq_11<|
 aj @dU.eq_12<|
 aj @dU.eq_13<|
 aj @dU.eq_14<|
 aj @dU.eq_15<|
 aj @dU.eq_16<|
 aj @dU.eq_17<|
 aj @dU.eq_18<|
 aj @dU.eq_19<|
 aj @dU.eq_20<|
 aj @dU.eq_21<|
 aj @dU.eq_22<|
 aj @ug.eq_1<|
 aj @ug.eq_2<|
 aj @ug.eq_3<|
 aj @gG.eq_1<|
 aj @gG.eq_2<|
 aj @gG.eq_3<|
 aj @DL.eq_1<|
 aj @DL.eq_2<|
 aj @Option.map_some.{0,0}<|
 aj @Option.map_none.{0,0}<|
 aj @Option.bind_some.{0,0}<|
 aj @List.map_cons.{0,0}<|
 aj @List.map_nil.{0,0}<|
 aj @List.length_cons.{0}<|
 aj @List.length_nil.{0}<|
 aj @List.getElem?_cons_succ.{0}<|
 aj @List.getElem?_cons_zero.{0}<|
 aj @List.take_succ_cons.{0}<|
 aj @List.take_zero.{0}<|
 aj @List.drop_succ_cons.{0}<|
 aj @List.drop_zero.{0}<|
 aj @List.cons_append.{0}<|
 aj @List.nil_append.{0}<|
 aj @List.append_nil.{0}<|
 aj @if_true.{1}<|
 aj @if_false.{1}<|
 aj @ite_true.{1}<|
 aj @ite_false.{1}<|
 aj @ne_eq.{1}<|
 aj @not_true<|
 aj @not_false_eq_true<|
 aj @Nat.add_zero<|
 aj @Nat.zero_add<|
 aj @and_true<|
 aj @true_and<|
 aj @and_self<|
 aj @forall_const.{1}<|
 aj @forall_const.{0}<|
 aj @Bool.not_true<|
 aj @Bool.not_false<|
 aj @Nat.succ_eq_add_one<|
 aj @imp_false<|
 aj @false_imp_iff<|
 aj @forall_false<|
 aj @true_imp_iff<|
 aj @Bool.and_true<|
 aj @Bool.and_false<|
 aj @Bool.true_and<|
 aj @Bool.false_and<|
 aj @implies_true.{1}<|
 aj @implies_true.{0}<|
 aj @Aw<|
 aj @xg<|
 aj @Au<|
 aj @List.contains_cons.{0}<|
 aj @List.contains_nil.{0}<|
 aj @Bool.or_false<|
 aj @Bool.or_true<|
 aj @Bool.false_or<|
 aj @Bool.true_or<|
 aj @cond_true.{1}<|
 aj @cond_false.{1}<|
 aj @Bool.cond_true.{0}<|
 aj @Bool.cond_false.{0}<|
 aj @Int.toNat_natCast<|
 aj @Int.natCast_nonneg<|
 aj @List.getElem?_map.{0,0}<|
 aj @List.length_map.{0,0}<|
 aj @List.mem_cons.{0}<|
 aj @List.not_mem_nil.{0}<|
 aj @forall_eq.{1}<|
 aj @forall_eq_or_imp.{1}<|
 aj @false_or<|
 aj @or_true<|
 aj @true_or<|
 aj @or_false<|
 aj @St.res.eq_1<|
 aj @St.res1.eq_1<|
 aj @St.res1.eq_2<|
 aj @decide_eq_true_eq<|
 aj @decide_eq_false_iff_not<|
 aj @Cl.jk.eq_1<|
 aj @Cl.jk.eq_2<|
 aj @Cl.jk.eq_3<|
 aj @Cl.jk.eq_4<|
 aj @Cl.jk.eq_5<|
 aj @Cl.jk.eq_6<|
 aj @Cl.jk.eq_7<|
 aj @Cl.jk.eq_8<|
 aj @Cl.jk.eq_9<|
 aj @Bv.jk.eq_1<|
 aj @Bv.jk.eq_2<|
 aj @Av.jk.eq_1<|
 aj @Av.jk.eq_2<|
 aj @Av.jk.eq_3<|
 aj @Fv<|
 aj @CW<|
 aj @Gy<|
 aj @Fe<|
 aj @CS<|
 aj @xJ<|
 aj @Cl.dK.eq_1<|
 aj @Cl.dK.eq_2<|
 aj @Cl.dK.eq_3<|
 aj @Cl.dK.eq_4<|
 aj @Cl.dK.eq_5<|
 aj @Cl.dK.eq_6<|
 aj @Cl.dK.eq_7<|
 aj @Cl.dK.eq_8<|
 aj @Cl.dK.eq_9<|
 aj @Bv.dK.eq_1<|
 aj @Bv.dK.eq_2<|
 aj @Av.dK.eq_1<|
 aj @Av.dK.eq_2<|
 aj @Av.dK.eq_3<|
 aj @Cj<|
 aj @Cm<|
 aj @Cc<|
 aj @Ce<|
 aj @Ci<|
 aj @HY.eq_1<|
 aj @HY.eq_2<|
 aj @List.all_cons.{0}<|
 aj @List.all_nil.{0}<|
 aj @GA<|
 aj @Jw<|
 aj @uO.eq_1<|
 aj @uO.eq_2<|
 aj @List.tail_cons.{0}<|
 aj @dw.eq_1<|
 aj @dw.eq_2<|
 aj @dw.eq_3<|
 aj @KN<|
 aj @GD<|
 aj @Gz<|
 aj @Jy<|
 aj @Jv<|
 aj @La<|
 aj @hb_new<|
 aj @Lc<|
 aj @JZ<|
 aj @KZ<|
 aj @JX<|
 aj @JY<|
 aj @JW<|
 aj @EU<|
 aj @lu.eq_1<|
 aj @lu.eq_2<|
 aj @lu.eq_3<|
 aj @Cb<|
 aj @ET<|
 aj @ES<|
 aj @nI<|
 aj @w9<|
 aj @sO<|
 aj @wZ<|
 aj @Fb<|
 aj @wY<|
 aj @St.key.eq_1<|
 aj @scs.eq_1<|
 aj @scs.eq_2<|
 aj @scs.eq_3<|
 aj @J2<|
 aj @Ht<|
 aj @ER<|
 aj @Bv.hw.eq_1<|
 aj @Bv.hw.eq_2<|
 aj @Av.hw.eq_1<|
 aj @Av.hw.eq_2<|
 aj @Cl.hc.eq_1<|
 aj @Cl.hc.eq_2<|
 aj @Cl.hc.eq_3<|
 aj @Cl.hc.eq_4<|
 aj @Cl.hc.eq_5<|
 aj @Hc.cl.eq_1<|
 aj @Hc.cl.eq_2<|
 aj @Hw.bv.eq_1<|
 aj @Hw.bv.eq_2<|
 aj @hcs.eq_1<|
 aj @rG.eq_1<|
 aj @rG.eq_2<|
 aj @xq.eq_1<|
 aj @xq.eq_2<|
 aj @xq.eq_3<|
 aj @St.hps.eq_1<|
 aj @St.hps.eq_2<|
 aj @rdH.eq_1<|
 aj @iJ.eq_1<|
 aj @iJ.eq_2<|
 aj @iJ.eq_3<|
 aj @iJ.eq_4<|
 aj @bvB.eq_1<|
 aj @St.jf.eq_1<|
 aj @St.uP.eq_1<|
 aj @St.uP.eq_2<|
 aj @rdV.eq_1<|
 @rdV.eq_2)
theorem stB:type_of% Jp.down:=Jp.down
end Go.Proofs.Ytkafcpnahpfbfaa
end
section
namespace Go.Proofs.Ytkafcpnahpfbfaa
open Go.RowKit
structure Ev where
 g:Int
 kind:Int
 obj:Int
 off:Int
 k:Int
 n:Int
 fn:Int
 pc:Int
 stack:Int
deriving DecidableEq,Inhabited
def I64 (x:Int):Prop:=-9223372036854775808≤x∧x≤9223372036854775807
def Ev.wf (e:Ev):Prop:=I64 e.g∧I64 e.kind∧I64 e.obj∧I64 e.off∧I64 e.k∧I64 e.n∧I64 e.fn∧I64 e.pc∧I64 e.stack
def Ev.cells (e:Ev):List Value:=[.int .i64 e.g,.int .i64 e.kind,.int .i64 e.obj,.int .i64 e.off,.int .i64 e.k,.int .i64 e.n,.int .i64 e.fn,.int .i64 e.pc,.int .i64 e.stack]
def Ev.val (e:Ev):Value:=.agg #[.int .i64 e.g,.int .i64 e.kind,.int .i64 e.obj,.int .i64 e.off,.int .i64 e.k,.int .i64 e.n,.int .i64 e.fn,.int .i64 e.pc,.int .i64 e.stack]
def kS (k:Int):Bool:=decide (15≤k∧k≤18)
def fK (k:Int):Bool:=decide (1≤k∧k≤20)
def Dl (k:Int):Bool:=decide (15≤k∧k≤20)
def dN (x:Int):Bool:=decide (0≤x∧x≤2147483647)
def Ev.rest (e:Ev):Bool :=
 if e.kind=14 then decide (e.obj=0∧e.off=0∧e.n=0∧1≤e.k∧e.k < 8)
 else if 15≤e.kind∧e.kind≤18 then decide (e.off=0∧e.n≤64)
 else if 19≤e.kind then decide (e.off=0∧e.n≤64∧e.k=0)
 else decide (e.k=0∧e.n=0)
def Ev.valid (e:Ev):Bool:=fK e.kind && decide (0≤e.g∧e.g < 8) &&
 (dN e.obj && dN e.off && dN e.k && dN e.n && dN e.fn && dN e.pc && dN e.stack) && e.rest
structure Ch where
 cap:Int
 sent:Int
 recv:Int
 closed:Bool
deriving DecidableEq,Inhabited
def ch0:Ch:=⟨0,0,0,false⟩
structure Mu where
 locked:Bool
 readers:Int
deriving DecidableEq,Inhabited
def mu0:Mu:=⟨false,0⟩
structure Grp where
 kinds:List Int
 obj:Int
 k:Int
 n:Int
 snd:Int
 rcv:Int
def LU:Grp:=⟨[],0,0,0,0,0⟩
structure TS where
 events:Int
 gor:Int
 chans:Int→Option Ch
 mus:Int×Int→Option Mu
 done:Int×Int→Option Bool
 grp:Grp
def TS.new:TS:=⟨0,1,fun _=>none,fun _=>none,fun _=>none,LU⟩
def upd {κ:Type} [DecidableEq κ] {α:Type} (f:κ→Option α) (x:κ) (v:α):κ→Option α:=fun y=>if y=x then some v else f y
def Ch.count (c:Ch) (kind:Int):Ch:=if kind=15 then { c with sent:=c.sent+1 } else if kind=17 then { c with recv:=c.recv+1 } else c
def TS.count (s:TS) (e:Ev):TS:={ s with chans:=upd s.chans e.obj (((s.chans e.obj).getD ch0).count e.kind) }
def zS (k:Int):Bool:=decide (k=15∨k=16)
def Grp.own (o:Grp) (kind:Int):Int:=if zS kind=true then o.snd else o.rcv
def Grp.other (o:Grp) (kind:Int):Int:=if zS kind=true then o.rcv else o.snd
def Grp.next (o:Grp) (e:Ev):Grp :=
 if zS e.kind=true then { o with kinds:=o.kinds.tail,snd:=e.g } else { o with kinds:=o.kinds.tail,rcv:=e.g }
def Grp.fits (o:Grp) (e:Ev):Bool :=
 decide (e.kind=o.kinds.headD 0∧e.obj=o.obj∧e.k=o.k∧e.n=o.n) && !(decide (o.own e.kind < 0∧e.g=o.other e.kind) || decide (0≤o.own e.kind∧e.g≠o.own e.kind))
def TS.proceed (s:TS) (e:Ev):Option TS :=
 if s.grp.fits e=true then some { s.count e with grp:=s.grp.next e } else none
def TS.chan (s:TS) (e:Ev):Ch:=match s.chans e.obj with
 | some c=>c
 | none=>{ ch0 with cap:=e.n }
def TS.start (s:TS) (e:Ev) (c:Ch) (kinds:List Int) (snd rcv:Int):TS :=
 { s with chans:=upd s.chans e.obj (c.count e.kind),grp:=⟨kinds,e.obj,e.k,e.n,snd,rcv⟩ }
def Ch.missing (c:Ch) (kind:Int) (alone:Bool):Option (List Int) :=
 if kind=15 then (if c.sent - c.recv < c.cap then some [16] else if c.cap=0∧alone=false then some [17,18,16] else none)
 else (if c.recv < c.sent then some [18] else if c.closed=false∧alone=false then some [15,18,16] else none)
def TS.operate (s:TS) (e:Ev):Option TS :=
 let c:=s.chan e
 if c.cap≠e.n then none
 else if e.kind=19 then (if c.closed=true then none else some { s with chans:=upd s.chans e.obj { c with closed:=true } })
 else if e.kind=20 then (if c.closed=true∧c.sent=c.recv then some s else none)
 else if e.kind=15 then (if c.closed=true∨e.k≠c.sent then none else (c.missing 15 (decide (s.gor=1))).map fun l=>s.start e c l e.g (-1))
 else if e.kind=17 then (if e.k≠c.recv then none else (c.missing 17 (decide (s.gor=1))).map fun l=>s.start e c l (-1) e.g)
 else none
def TS.mu (s:TS) (e:Ev):Mu:=(s.mus (e.obj,e.off)).getD mu0
def TS.simple (s:TS) (e:Ev):Option TS :=
 let m:=s.mu e
 let put (m:Mu):Option TS:=some { s with mus:=upd s.mus (e.obj,e.off) m }
 if e.kind=6 then (if m.locked=true∨0 < m.readers then none else put { m with locked:=true })
 else if e.kind=7 then (if m.locked=false then none else put { m with locked:=false })
 else if e.kind=8 then (if m.locked=true then none else put { m with readers:=m.readers+1 })
 else if e.kind=9 then (if m.readers=0 then none else put { m with readers:=m.readers - 1 })
 else if e.kind=12 then (if (s.done (e.obj,e.off)).getD false=true then none else some { s with done:=upd s.done (e.obj,e.off) true })
 else if e.kind=13 then (if (s.done (e.obj,e.off)).getD false=true then some s else none)
 else if e.kind=14 then (if e.k≠s.gor then none else some { s with gor:=s.gor+1 })
 else some s
def TS.isOpen (s:TS):Bool:=decide (0 < s.grp.kinds.length)
def TS.part (s:TS) (e:Ev):Option TS :=
 if s.isOpen=true then s.proceed e else if Dl e.kind=true then s.operate e else s.simple e
def TS.admits (s:TS) (e:Ev):Bool:=e.valid && decide (s.events < 5000) && decide (e.g < s.gor)
def TS.add (s:TS) (e:Ev):Option TS :=
 if s.admits e=true then (s.part e).map fun t=>{ t with events:=t.events+1 } else none
structure TS.wf (s:TS):Prop where
 ev:0≤s.events∧s.events≤5000
 gr:1≤s.gor∧s.gor≤8
 ch:∀ x c,s.chans x=some c→(0≤c.sent∧c.sent≤s.events)∧(0≤c.recv∧c.recv≤s.events)∧(0≤c.cap∧c.cap≤64)
 mu:∀ x m,s.mus x=some m→0≤m.readers∧m.readers≤s.events
 kd:s.grp.kinds.length≤3
section
variable {s:TS} {g kind obj off k en fn pc stack cap sent recv:Int} {closed:Bool}
 (hc:s.chan ⟨g,kind,obj,off,k,en,fn,pc,stack⟩=⟨cap,sent,recv,closed⟩)
include hc
end
end Go.Proofs.Ytkafcpnahpfbfaa
end
section
namespace Go.Proofs.Ytkafcpnahpfbfaa
open Go Go.RowKit
instance:bN:=⟨fun _=>True,fun _ _ _ _=>trivial⟩
abbrev dI (n:Int):Dt:=.sc (.int .i64 n)
abbrev dB (b:Bool):Dt:=.sc (.bool b)
abbrev aI (n:Int):Av:=.b (.one (.d (.sc (.int .i64 n))))
abbrev aB (b:Bool):Av:=.b (.one (.d (.sc (.bool b))))
abbrev pI (n:Int):Pa:=.one (.sc (.int .i64 n))
abbrev pB (b:Bool):Pa:=.one (.sc (.bool b))
def Ev.row (e:Ev):List Dt:=[dI e.g,dI e.kind,dI e.obj,dI e.off,dI e.k,dI e.n,dI e.fn,dI e.pc,dI e.stack]
def Ev.pa (e:Ev):Pa:=.agg e.row
structure RCh where
 obj:Int
 n:Int
 sent:Int
 recv:Int
 closed:Bool
def RCh.row (c:RCh):List Dt:=[dI c.obj,dI c.n,dI c.sent,dI c.recv,dB c.closed]
structure RLk where
 obj:Int
 off:Int
 locked:Bool
 readers:Int
def RLk.row (c:RLk):List Dt:=[dI c.obj,dI c.off,dB c.locked,dI c.readers]
def J5 (p:Int×Int):List Dt:=[dI p.1,dI p.2]
structure RWt where
 kind:Int
 g:Int
 not:Int
def RWt.row (c:RWt):List Dt:=[dI c.kind,dI c.g,dI c.not]
structure RSt where
 count:Int
 gor:Int
 chans:List RCh
 locks:List RLk
 done:List (Int×Int)
 next:List RWt
 obj:Int
 k:Int
 n:Int
def RSt.row (s:RSt):List Dt:=[dI s.count,dI s.gor,.im (s.chans.map RCh.row),.im (s.locks.map RLk.row),.im (s.done.map J5),.im (s.next.map RWt.row),dI s.obj,dI s.k,dI s.n]
def RSt.pa (s:RSt):Pa:=.agg s.row
structure RSt.ok (s:RSt):Prop where
 ct:0≤s.count∧s.count≤1000000
 gr:0≤s.gor∧s.gor≤1000000
 ch:s.chans.length≤900000∧∀ c,c ∈ s.chans→(0≤c.sent∧c.sent≤1000000)∧(0≤c.recv∧c.recv≤1000000)
 lk:s.locks.length≤900000∧∀ c,c ∈ s.locks→0≤c.readers∧c.readers≤1000000
 dn:s.done.length≤900000
 nx:s.next.length≤900000
def RSt.new:RSt:=⟨0,1,[],[],[],[],0,0,0⟩
def RCh.count (c:RCh) (kind:Int):RCh:=if kind=15 then { c with sent:=c.sent+1 } else if kind=17 then { c with recv:=c.recv+1 } else c
def RSt.fits (s:RSt) (w:RWt) (e:Ev):Bool:=!((e.kind != w.kind || (e.obj != s.obj || (e.k != s.k || (e.n != s.n || (decide (0≤w.g) && e.g != w.g))))) || (decide (w.g < 0) && e.g == w.not))
def RSt.admits (s:RSt) (e:Ev):Bool:=e.valid && decide (s.count < 5000) && decide (e.g < s.gor)
end Go.Proofs.Ytkafcpnahpfbfaa
end
section
namespace Go.Proofs.Ytkafcpnahpfbfaa
open Go Go.RowKit
set_option maxRecDepth 100000
def fH:List (Nat×List Bool):=[(41,[false,false,false,false,false,false,false,false,false]),(42,[false,false,false,false,false,false,false,false,false]),(47,List.replicate 2 false),(49,[false,false]),(50,[false,false]),(82,List.replicate 7 false),(113,List.replicate 3 false)]
theorem cK:∀ p,p ∈ fH→EqT Try.prog p.1 p.2:=by
 intro p hp;simp only [fH,List.mem_cons,List.not_mem_nil,or_false] at hp
 rcases hp with rfl | rfl | rfl | rfl | rfl | rfl | rfl
 ·exact jK Try.underlying41 (by kernel_rfl) (by kernel_rfl) (by kernel_rfl)
 ·exact jK Try.underlying42 (by kernel_rfl) (by kernel_rfl) (by kernel_rfl)
 ·exact nZ Try.underlying47 (ei:=(Try.prog.info? 3).getD default) (by kernel_rfl) (by kernel_rfl) (by kernel_rfl) (by kernel_rfl)
 ·exact jK Try.underlying49 (by kernel_rfl) (by kernel_rfl) (by kernel_rfl)
 ·exact jK Try.underlying50 (by kernel_rfl) (by kernel_rfl) (by kernel_rfl)
 ·exact nZ Try.underlying82 (ei:=(Try.prog.info? 3).getD default) (by kernel_rfl) (by kernel_rfl) (by kernel_rfl) (by kernel_rfl)
 ·exact nZ Try.underlying113 (ei:=(Try.prog.info? 3).getD default) (by kernel_rfl) (by kernel_rfl) (by kernel_rfl) (by kernel_rfl)
theorem bA:Try.prog.follows .mixedOrders=true:=by kernel_rfl
def pc13 : PC := .seq (.reg false [⟨(some 1), .box (.t 0), none, []⟩, ⟨(some 2), .nilRow 5 1, none, []⟩, ⟨(some 3), .mv (.v (.int .i64 0)), none, [1]⟩]) (.seq (.seq (.reg false [⟨(some 7), .load (some 3) (.t 1), none, []⟩, ⟨(some 8), .call 17 [(.t 7)], none, [0]⟩, ⟨(some 9), .un .not (.t 8), none, [1]⟩]) (.cond (.t 9) (.seq (.reg false [⟨(some 2), .nilRow 5 1, none, []⟩, ⟨(some 3), .mv (.v (.int .i64 1)), none, [0, 0]⟩]) (.ret)) (.skip))) (.seq (.reg false [⟨(some 10), .call 21 [], none, []⟩, ⟨(some 4), .mv (.t 10), none, [0, 0, 0]⟩]) (.seq (.reg false [⟨(some 11), .load (some 3) (.t 1), none, []⟩, ⟨(some 12), .call 20 [(.t 11)], none, [0]⟩, ⟨(some 5), .mv (.t 12), none, [1, 1, 0, 1]⟩]) (.seq (.seq (.reg false [⟨(some 6), .mv (.v (.int .i64 0)), none, []⟩]) (.block 0 (.loop (.seq (.seq (.reg false [⟨(some 13), .mv (.t 6), none, []⟩, ⟨(some 14), .mv (.t 5), none, []⟩, ⟨(some 15), .len (.t 14), none, [1]⟩, ⟨(some 16), .bin .lss (.t 13) (.t 15), none, [0, 2]⟩]) (.cond (.t 16) (.skip) (.exit 0))) (.seq (.block 1 (.reg false [⟨(some 19), .mv (.t 4), none, []⟩, ⟨(some 20), .mv (.t 5), none, []⟩, ⟨(some 21), .mv (.t 6), none, []⟩, ⟨(some 22), .ixs 1 (.t 20) (.t 21), none, [1, 2]⟩, ⟨(some 23), .load none (.t 22), none, [3]⟩, ⟨(some 24), .append 5 1 1 (.t 19) (.t 23), none, [0, 4]⟩, ⟨(some 4), .mv (.t 24), none, [5, 5, 0, 1, 2, 3, 4, 5]⟩])) (.reg false [⟨(some 17), .mv (.t 6), none, []⟩, ⟨(some 18), .bin .add (.t 17) (.v (.int .i64 1)), none, [0]⟩, ⟨(some 6), .mv (.t 18), none, [1, 0, 1]⟩])))))) (.seq (.reg false [⟨(some 25), .mv (.t 4), none, []⟩, ⟨(some 2), .mv (.t 25), none, [0, 0]⟩, ⟨(some 3), .mv (.v (.int .i64 0)), none, [1, 0, 1]⟩]) (.ret))))))
def pr13 : List PR := [.t 2, .t 3]
abbrev ms13_0 : List Nat := [13, 14, 15, 16, 19, 20, 21, 22, 23, 24, 4, 17, 18, 6]
abbrev os13_0 : List Nat := [4]
theorem bd13:Try.f13.body=some (Try.f13.body.getD .skip):=by kernel_rfl
theorem cp13:bW Try.prog Try.f13.ntmps fH (Try.f13.body.getD .skip)=some pc13:=by kernel_rfl
theorem sp13 [bN] {env:Env} (hE:ay Try.prog env) {R:List Pa→List Pa→Prop} (hR:∀ ps rs,R ps rs→ps.length≤26∧pwp env pc13 (fun e s=>(e=.normal∨e=.ret)∧s.res pr13=some rs) (St.init ps)):Spec Try.prog 13 R :=
 bQ hE cK bA Try.func13 bd13 cp13 (by kernel_rfl) (by kernel_rfl) (by kernel_rfl) hR
def pc17 : PC := .seq (.reg false [⟨(some 1), .box (.t 0), none, []⟩, ⟨(some 2), .mv (.v (.bool false)), none, []⟩]) (.seq (.seq (.reg false [⟨(some 7), .fld 1 (.t 1), none, []⟩, ⟨(some 8), .load (some 2) (.t 7), none, [0]⟩, ⟨(some 9), .call 34 [(.t 8)], none, [1]⟩, ⟨(some 10), .un .not (.t 9), none, [2]⟩, ⟨(some 11), .mv (.t 10), none, [3, 2]⟩, ⟨(some 12), .fld 0 (.t 1), (some (11, false)), [4]⟩, ⟨(some 13), .load none (.t 12), (some (11, false)), [5, 4]⟩, ⟨(some 14), .len (.t 13), (some (11, false)), [6, 4]⟩, ⟨(some 15), .bin .gtr (.t 14) (.v (.int .i64 5000)), (some (11, false)), [7, 4]⟩, ⟨(some 16), .pick (.t 11) (.v (.bool true)) (.t 15), none, [4, 8]⟩]) (.cond (.t 16) (.seq (.reg false [⟨(some 2), .mv (.v (.bool false)), none, []⟩]) (.ret)) (.skip))) (.seq (.seq (.reg false [⟨(some 3), .mv (.v (.int .i64 0)), none, []⟩]) (.block 0 (.loop (.seq (.seq (.reg false [⟨(some 17), .mv (.t 3), none, []⟩, ⟨(some 18), .fld 1 (.t 1), none, []⟩, ⟨(some 19), .fld 0 (.t 18), none, [1]⟩, ⟨(some 20), .load none (.t 19), none, [2]⟩, ⟨(some 21), .len (.t 20), none, [3]⟩, ⟨(some 22), .bin .lss (.t 17) (.t 21), none, [0, 4]⟩]) (.cond (.t 22) (.skip) (.exit 0))) (.seq (.block 1 (.seq (.reg false [⟨(some 25), .fld 1 (.t 1), none, []⟩, ⟨(some 26), .fld 0 (.t 25), none, [0]⟩, ⟨(some 27), .load none (.t 26), none, [1]⟩, ⟨(some 28), .mv (.t 3), none, []⟩, ⟨(some 29), .ixs 2 (.t 27) (.t 28), none, [2, 3]⟩, ⟨(some 30), .fld 0 (.t 29), none, [4]⟩, ⟨(some 31), .load none (.t 30), none, [5]⟩, ⟨(some 32), .bin .gtr (.t 31) (.v (.int .i64 2147483647)), none, [6]⟩, ⟨(some 33), .mv (.t 32), none, [7]⟩, ⟨(some 34), .fld 1 (.t 1), (some (33, false)), [8]⟩, ⟨(some 35), .fld 0 (.t 34), (some (33, false)), [9, 8]⟩, ⟨(some 36), .load none (.t 35), (some (33, false)), [10, 8]⟩, ⟨(some 37), .mv (.t 3), (some (33, false)), [8]⟩, ⟨(some 38), .ixs 2 (.t 36) (.t 37), (some (33, false)), [11, 12, 8]⟩, ⟨(some 39), .fld 1 (.t 38), (some (33, false)), [13, 8]⟩, ⟨(some 40), .load none (.t 39), (some (33, false)), [14, 8]⟩, ⟨(some 41), .bin .gtr (.t 40) (.v (.int .i64 2147483647)), (some (33, false)), [15, 8]⟩, ⟨(some 42), .pick (.t 33) (.v (.bool true)) (.t 41), none, [8, 16]⟩]) (.cond (.t 42) (.seq (.reg false [⟨(some 2), .mv (.v (.bool false)), none, []⟩]) (.ret)) (.skip)))) (.reg false [⟨(some 23), .mv (.t 3), none, []⟩, ⟨(some 24), .bin .add (.t 23) (.v (.int .i64 1)), none, [0]⟩, ⟨(some 3), .mv (.t 24), none, [1, 0, 1]⟩])))))) (.seq (.seq (.reg false [⟨(some 4), .mv (.v (.int .i64 0)), none, []⟩]) (.block 2 (.loop (.seq (.seq (.reg false [⟨(some 43), .mv (.t 4), none, []⟩, ⟨(some 44), .fld 0 (.t 1), none, []⟩, ⟨(some 45), .load none (.t 44), none, [1]⟩, ⟨(some 46), .len (.t 45), none, [2]⟩, ⟨(some 47), .bin .lss (.t 43) (.t 46), none, [0, 3]⟩]) (.cond (.t 47) (.skip) (.exit 2))) (.seq (.block 3 (.seq (.reg true [⟨(some 50), .fld 0 (.t 1), none, []⟩, ⟨(some 51), .load none (.t 50), none, [0]⟩, ⟨(some 52), .mv (.t 4), none, []⟩, ⟨(some 53), .ixs 9 (.t 51) (.t 52), none, [1, 2]⟩, ⟨(some 54), .load (some 9) (.t 53), none, [3]⟩, ⟨(some 55), .call 35 [(.t 54)], none, [4]⟩, ⟨(some 56), .un .not (.t 55), none, [5]⟩, ⟨(some 57), .mv (.t 56), none, [6, 5]⟩, ⟨(some 58), .fld 0 (.t 1), (some (57, false)), [7]⟩, ⟨(some 59), .load none (.t 58), (some (57, false)), [8, 7]⟩, ⟨(some 60), .mv (.t 4), (some (57, false)), [7]⟩, ⟨(some 61), .ixs 9 (.t 59) (.t 60), (some (57, false)), [9, 10, 7]⟩, ⟨(some 62), .fld 8 (.t 61), (some (57, false)), [11, 7]⟩, ⟨(some 63), .load none (.t 62), (some (57, false)), [12, 7]⟩, ⟨(some 64), .fld 1 (.t 1), (some (57, false)), [7]⟩, ⟨(some 65), .fld 0 (.t 64), (some (57, false)), [14, 7]⟩, ⟨(some 66), .load none (.t 65), (some (57, false)), [15, 7]⟩, ⟨(some 67), .len (.t 66), (some (57, false)), [16, 7]⟩, ⟨(some 68), .bin .geq (.t 63) (.t 67), (some (57, false)), [13, 17, 7]⟩, ⟨(some 69), .pick (.t 57) (.v (.bool true)) (.t 68), none, [7, 18]⟩]) (.cond (.t 69) (.seq (.reg false [⟨(some 2), .mv (.v (.bool false)), none, []⟩]) (.ret)) (.skip)))) (.reg false [⟨(some 48), .mv (.t 4), none, []⟩, ⟨(some 49), .bin .add (.t 48) (.v (.int .i64 1)), none, [0]⟩, ⟨(some 4), .mv (.t 49), none, [1, 0, 1]⟩])))))) (.seq (.reg false [⟨(some 70), .load (some 3) (.t 1), none, []⟩, ⟨(some 71), .call 20 [(.t 70)], none, [0]⟩, ⟨(some 5), .mv (.t 71), none, [1, 1, 0, 1]⟩]) (.seq (.seq (.reg false [⟨(some 6), .mv (.v (.int .i64 0)), none, []⟩]) (.block 4 (.loop (.seq (.seq (.reg false [⟨(some 72), .mv (.t 6), none, []⟩, ⟨(some 73), .mv (.t 5), none, []⟩, ⟨(some 74), .len (.t 73), none, [1]⟩, ⟨(some 75), .bin .lss (.t 72) (.t 74), none, [0, 2]⟩]) (.cond (.t 75) (.skip) (.exit 4))) (.seq (.block 5 (.seq (.reg false [⟨(some 78), .mv (.t 5), none, []⟩, ⟨(some 79), .mv (.t 6), none, []⟩, ⟨(some 80), .ixs 1 (.t 78) (.t 79), none, [0, 1]⟩, ⟨(some 81), .load none (.t 80), none, [2]⟩, ⟨(some 82), .len (.t 81), none, [3]⟩, ⟨(some 83), .bin .gtr (.t 82) (.v (.int .i64 1048584)), none, [4]⟩]) (.cond (.t 83) (.seq (.reg false [⟨(some 2), .mv (.v (.bool false)), none, []⟩]) (.ret)) (.skip)))) (.reg false [⟨(some 76), .mv (.t 6), none, []⟩, ⟨(some 77), .bin .add (.t 76) (.v (.int .i64 1)), none, [0]⟩, ⟨(some 6), .mv (.t 77), none, [1, 0, 1]⟩])))))) (.seq (.reg false [⟨(some 2), .mv (.v (.bool true)), none, []⟩]) (.ret)))))))
def pr17 : List PR := [.t 2]
abbrev ms17_0 : List Nat := [17, 18, 19, 20, 21, 22, 25, 26, 27, 28, 29, 30, 31, 32, 33, 34, 35, 36, 37, 38, 39, 40, 41, 42, 2, 23, 24, 3]
abbrev os17_0 : List Nat := []
abbrev ms17_1 : List Nat := [43, 44, 45, 46, 47, 50, 51, 52, 53, 54, 55, 56, 57, 58, 59, 60, 61, 62, 63, 64, 65, 66, 67, 68, 69, 2, 48, 49, 4]
abbrev os17_1 : List Nat := []
abbrev ms17_2 : List Nat := [72, 73, 74, 75, 78, 79, 80, 81, 82, 83, 2, 76, 77, 6]
abbrev os17_2 : List Nat := []
theorem bd17:Try.f17.body=some (Try.f17.body.getD .skip):=by kernel_rfl
theorem cp17:bW Try.prog Try.f17.ntmps fH (Try.f17.body.getD .skip)=some pc17:=by kernel_rfl
theorem sp17 [bN] {env:Env} (hE:ay Try.prog env) {R:List Pa→List Pa→Prop} (hR:∀ ps rs,R ps rs→ps.length≤84∧pwp env pc17 (fun e s=>(e=.normal∨e=.ret)∧s.res pr17=some rs) (St.init ps)):Spec Try.prog 17 R :=
 bQ hE cK bA Try.func17 bd17 cp17 (by kernel_rfl) (by kernel_rfl) (by kernel_rfl) hR
def pc20 : PC := .seq (.reg false [⟨(some 1), .box (.t 0), none, []⟩, ⟨(some 2), .nilRow 31 1, none, []⟩]) (.seq (.reg false [⟨(some 3), .nilRow 31 1, none, []⟩]) (.seq (.reg false [⟨(some 4), .new [(.int .i64 0), (.int .i64 0), (.int .i64 0), (.int .i64 0), (.int .i64 0), (.int .i64 0), (.int .i64 0), (.int .i64 0), (.int .i64 0)], none, []⟩]) (.seq (.reg false [⟨(some 5), .mv (.v (.int .i64 0)), none, []⟩]) (.seq (.seq (.reg false [⟨(some 6), .mv (.v (.int .i64 0)), none, []⟩]) (.block 0 (.loop (.seq (.seq (.reg false [⟨(some 16), .mv (.t 6), none, []⟩, ⟨(some 17), .fld 0 (.t 1), none, []⟩, ⟨(some 18), .load none (.t 17), none, [1]⟩, ⟨(some 19), .len (.t 18), none, [2]⟩, ⟨(some 20), .bin .lss (.t 16) (.t 19), none, [0, 3]⟩]) (.cond (.t 20) (.skip) (.exit 0))) (.seq (.block 1 (.seq (.reg false [⟨(some 23), .mv (.t 6), none, []⟩, ⟨(some 24), .bin .add (.t 23) (.v (.int .i64 16)), none, [0]⟩, ⟨(some 25), .fld 0 (.t 1), none, []⟩, ⟨(some 26), .load none (.t 25), none, [2]⟩, ⟨(some 27), .len (.t 26), none, [3]⟩, ⟨(some 28), .mm false [(.t 24), (.t 27)], none, [1, 4]⟩, ⟨(some 7), .mv (.t 28), none, [5, 0, 1, 2, 3, 4, 5]⟩]) (.seq (.reg false [⟨(some 29), .mv (.t 5), none, []⟩, ⟨(some 8), .mv (.t 29), none, [0, 0]⟩]) (.seq (.seq (.reg false [⟨(some 30), .mv (.t 6), none, []⟩, ⟨(some 9), .mv (.t 30), none, [0, 0]⟩]) (.block 2 (.loop (.seq (.seq (.reg false [⟨(some 31), .mv (.t 9), none, []⟩, ⟨(some 32), .mv (.t 7), none, []⟩, ⟨(some 33), .bin .lss (.t 31) (.t 32), none, [0, 1]⟩]) (.cond (.t 33) (.skip) (.exit 2))) (.seq (.block 3 (.reg false [⟨(some 36), .mv (.t 8), none, []⟩, ⟨(some 37), .fld 0 (.t 1), none, []⟩, ⟨(some 38), .load none (.t 37), none, [1]⟩, ⟨(some 39), .mv (.t 9), none, []⟩, ⟨(some 40), .ixs 9 (.t 38) (.t 39), none, [2, 3]⟩, ⟨(some 41), .fld 8 (.t 40), none, [4]⟩, ⟨(some 42), .load none (.t 41), none, [5]⟩, ⟨(some 43), .bin .add (.t 42) (.v (.int .i64 1)), none, [6]⟩, ⟨(some 44), .mm true [(.t 36), (.t 43)], none, [0, 7]⟩, ⟨(some 8), .mv (.t 44), none, [8, 0, 1, 2, 3, 4, 5, 6, 7, 8]⟩])) (.reg false [⟨(some 34), .mv (.t 9), none, []⟩, ⟨(some 35), .bin .add (.t 34) (.v (.int .i64 1)), none, [0]⟩, ⟨(some 9), .mv (.t 35), none, [1, 0, 1]⟩])))))) (.seq (.reg false [⟨(some 45), .fld 1 (.t 1), none, []⟩, ⟨(some 46), .load (some 2) (.t 45), none, [0]⟩, ⟨(some 47), .mv (.t 5), none, []⟩, ⟨(some 48), .mv (.t 8), none, []⟩, ⟨(some 49), .call 36 [(.t 46), (.t 47), (.t 48)], none, [1, 2, 3]⟩, ⟨(some 10), .mv (.t 49), none, [4, 4, 0, 1, 2, 3, 4]⟩]) (.seq (.reg false [⟨(some 50), .mv (.t 8), none, []⟩, ⟨(some 5), .mv (.t 50), none, [0, 0]⟩]) (.seq (.reg false [⟨(some 51), .mv (.t 10), none, []⟩, ⟨(some 52), .mv (.t 7), none, []⟩, ⟨(some 53), .mv (.t 6), none, []⟩, ⟨(some 54), .bin .sub (.t 52) (.t 53), none, [1, 2]⟩, ⟨(some 55), .call 37 [(.t 54)], none, [3]⟩, ⟨(some 56), .append 5 1 1 (.t 51) (.t 55), none, [0, 4, 4]⟩, ⟨(some 10), .mv (.t 56), none, [5, 5, 0, 1, 2, 3, 4, 5]⟩]) (.seq (.seq (.reg false [⟨(some 57), .mv (.t 6), none, []⟩, ⟨(some 11), .mv (.t 57), none, [0, 0]⟩]) (.block 4 (.loop (.seq (.seq (.reg false [⟨(some 58), .mv (.t 11), none, []⟩, ⟨(some 59), .mv (.t 7), none, []⟩, ⟨(some 60), .bin .lss (.t 58) (.t 59), none, [0, 1]⟩]) (.cond (.t 60) (.skip) (.exit 4))) (.seq (.block 5 (.seq (.reg true [⟨(some 63), .fld 0 (.t 1), none, []⟩, ⟨(some 64), .load none (.t 63), none, [0]⟩, ⟨(some 65), .mv (.t 11), none, []⟩, ⟨(some 66), .ixs 9 (.t 64) (.t 65), none, [1, 2]⟩, ⟨(some 67), .load (some 9) (.t 66), none, [3]⟩, ⟨(some 68), .call 38 [(.t 67)], none, [4]⟩, ⟨(some 69), .load (some 9) (.t 4), none, []⟩, ⟨(some 70), .call 38 [(.t 69)], none, [6, 5]⟩, ⟨(some 12), .mv (.t 68), none, [5, 7, 0, 1, 2, 3, 4, 5]⟩, ⟨(some 13), .mv (.t 70), none, [7, 8, 0, 1, 2, 3, 4, 5, 6, 7, 8]⟩]) (.seq (.seq (.reg false [⟨(some 14), .mv (.v (.int .i64 0)), none, []⟩]) (.block 6 (.loop (.seq (.seq (.reg false [⟨(some 71), .mv (.t 14), none, []⟩, ⟨(some 72), .mv (.t 12), none, []⟩, ⟨(some 73), .len (.t 72), none, [1]⟩, ⟨(some 74), .bin .lss (.t 71) (.t 73), none, [0, 2]⟩]) (.cond (.t 74) (.skip) (.exit 6))) (.seq (.block 7 (.reg true [⟨(some 77), .mv (.t 10), none, []⟩, ⟨(some 78), .mv (.t 12), none, []⟩, ⟨(some 79), .mv (.t 14), none, []⟩, ⟨(some 80), .ixs 1 (.t 78) (.t 79), none, [1, 2]⟩, ⟨(some 81), .load none (.t 80), none, [3]⟩, ⟨(some 82), .mv (.t 13), none, []⟩, ⟨(some 83), .mv (.t 14), none, []⟩, ⟨(some 84), .ixs 1 (.t 82) (.t 83), none, [5, 6]⟩, ⟨(some 85), .load none (.t 84), none, [7]⟩, ⟨(some 86), .bin .sub (.t 81) (.t 85), none, [4, 8]⟩, ⟨(some 87), .call 39 [(.t 86)], none, [9]⟩, ⟨(some 88), .append 5 1 1 (.t 77) (.t 87), none, [0, 10, 10]⟩, ⟨(some 10), .mv (.t 88), none, [11, 11, 0, 1, 2, 3, 4, 5, 6, 7, 8, 9, 10, 11]⟩])) (.reg false [⟨(some 75), .mv (.t 14), none, []⟩, ⟨(some 76), .bin .add (.t 75) (.v (.int .i64 1)), none, [0]⟩, ⟨(some 14), .mv (.t 76), none, [1, 0, 1]⟩])))))) (.reg false [⟨(some 89), .fld 0 (.t 1), none, []⟩, ⟨(some 90), .load none (.t 89), none, [0]⟩, ⟨(some 91), .mv (.t 11), none, []⟩, ⟨(some 92), .ixs 9 (.t 90) (.t 91), none, [1, 2]⟩, ⟨(some 93), .load (some 9) (.t 92), none, [3]⟩, ⟨none, .store 9 (.t 4) (.t 93), none, [4, 0, 1, 2, 3, 4]⟩])))) (.reg false [⟨(some 61), .mv (.t 11), none, []⟩, ⟨(some 62), .bin .add (.t 61) (.v (.int .i64 1)), none, [0]⟩, ⟨(some 11), .mv (.t 62), none, [1, 0, 1]⟩])))))) (.reg false [⟨(some 94), .mv (.t 3), none, []⟩, ⟨(some 95), .mv (.t 10), none, []⟩, ⟨(some 96), .call 40 [(.v (.int .u8 66)), (.t 95)], none, [1]⟩, ⟨(some 97), .bslice 31 1 [(.slice none 0 0)] 1 [(0, 1, (.t 96))], none, [2]⟩, ⟨(some 98), .append 31 1 24 (.t 94) (.t 97), none, [0, 3, 2]⟩, ⟨(some 3), .mv (.t 98), none, [4, 4, 0, 1, 2, 3, 4]⟩]))))))))) (.reg false [⟨(some 21), .mv (.t 6), none, []⟩, ⟨(some 22), .bin .add (.t 21) (.v (.int .i64 16)), none, [0]⟩, ⟨(some 6), .mv (.t 22), none, [1, 0, 1]⟩])))))) (.seq (.reg false [⟨(some 99), .fld 1 (.t 1), none, []⟩, ⟨(some 100), .load (some 2) (.t 99), none, [0]⟩, ⟨(some 101), .mv (.t 5), none, []⟩, ⟨(some 102), .fld 1 (.t 1), none, []⟩, ⟨(some 103), .fld 0 (.t 102), none, [3]⟩, ⟨(some 104), .load none (.t 103), none, [4]⟩, ⟨(some 105), .len (.t 104), none, [5]⟩, ⟨(some 106), .call 36 [(.t 100), (.t 101), (.t 105)], none, [1, 2, 6]⟩, ⟨(some 15), .mv (.t 106), none, [7, 7, 0, 1, 2, 3, 4, 5, 6, 7]⟩]) (.seq (.reg false [⟨(some 107), .mv (.t 3), none, []⟩, ⟨(some 108), .mv (.t 15), none, []⟩, ⟨(some 109), .fld 0 (.t 1), none, []⟩, ⟨(some 110), .load none (.t 109), none, [2]⟩, ⟨(some 111), .len (.t 110), none, [3]⟩, ⟨(some 112), .call 37 [(.t 111)], none, [4]⟩, ⟨(some 113), .append 5 1 1 (.t 108) (.t 112), none, [1, 5, 5]⟩, ⟨(some 114), .call 40 [(.v (.int .u8 69)), (.t 113)], none, [6, 6]⟩, ⟨(some 115), .bslice 31 1 [(.slice none 0 0)] 1 [(0, 1, (.t 114))], none, [7]⟩, ⟨(some 116), .append 31 1 24 (.t 107) (.t 115), none, [0, 8, 7]⟩, ⟨(some 2), .mv (.t 116), none, [9, 9, 0, 1, 2, 3, 4, 5, 6, 7, 8, 9]⟩]) (.ret)))))))
def pr20 : List PR := [.t 2]
abbrev ms20_0 : List Nat := [16, 17, 18, 19, 20, 23, 24, 25, 26, 27, 28, 7, 29, 8, 30, 9, 31, 32, 33, 36, 37, 38, 39, 40, 41, 42, 43, 44, 34, 35, 45, 46, 47, 48, 49, 10, 50, 5, 51, 52, 53, 54, 55, 56, 57, 11, 58, 59, 60, 63, 64, 65, 66, 67, 68, 69, 70, 12, 13, 14, 71, 72, 73, 74, 77, 78, 79, 80, 81, 82, 83, 84, 85, 86, 87, 88, 75, 76, 89, 90, 91, 92, 93, 61, 62, 94, 95, 96, 97, 98, 3, 21, 22, 6]
abbrev os20_0 : List Nat := [10, 4, 97, 3]
abbrev ms20_1 : List Nat := [31, 32, 33, 36, 37, 38, 39, 40, 41, 42, 43, 44, 8, 34, 35, 9]
abbrev os20_1 : List Nat := []
abbrev ms20_2 : List Nat := [58, 59, 60, 63, 64, 65, 66, 67, 68, 69, 70, 12, 13, 14, 71, 72, 73, 74, 77, 78, 79, 80, 81, 82, 83, 84, 85, 86, 87, 88, 10, 75, 76, 89, 90, 91, 92, 93, 61, 62, 11]
abbrev os20_2 : List Nat := [10, 4]
abbrev ms20_3 : List Nat := [71, 72, 73, 74, 77, 78, 79, 80, 81, 82, 83, 84, 85, 86, 87, 88, 10, 75, 76, 14]
abbrev os20_3 : List Nat := [10]
theorem bd20:Try.f20.body=some (Try.f20.body.getD .skip):=by kernel_rfl
theorem cp20:bW Try.prog Try.f20.ntmps fH (Try.f20.body.getD .skip)=some pc20:=by kernel_rfl
theorem sp20 [bN] {env:Env} (hE:ay Try.prog env) {R:List Pa→List Pa→Prop} (hR:∀ ps rs,R ps rs→ps.length≤117∧pwp env pc20 (fun e s=>(e=.normal∨e=.ret)∧s.res pr20=some rs) (St.init ps)):Spec Try.prog 20 R :=
 bQ hE cK bA Try.func20 bd20 cp20 (by kernel_rfl) (by kernel_rfl) (by kernel_rfl) hR
def pc21 : PC := .seq (.reg false [⟨(some 0), .nilRow 5 1, none, []⟩]) (.seq (.reg false [⟨(some 1), .bslice 5 1 [(.int .u8 0), (.int .u8 0), (.int .u8 0), (.int .u8 0), (.int .u8 0), (.int .u8 0), (.int .u8 0), (.int .u8 0)] 8 [(0, 1, (.v (.int .u8 73))), (1, 1, (.v (.int .u8 84))), (2, 1, (.v (.int .u8 82))), (3, 1, (.v (.int .u8 65))), (4, 1, (.v (.int .u8 67))), (5, 1, (.v (.int .u8 69))), (6, 1, (.v (.int .u8 49))), (7, 1, (.v (.int .u8 10)))], none, []⟩, ⟨(some 2), .stm (.t 1), none, [0]⟩, ⟨(some 0), .mv (.t 2), none, [1, 0, 1]⟩]) (.ret))
theorem bd21:Try.f21.body=some (Try.f21.body.getD .skip):=by kernel_rfl
theorem cp21:bW Try.prog Try.f21.ntmps fH (Try.f21.body.getD .skip)=some pc21:=by kernel_rfl
def pc36 : PC := .seq (.reg false [⟨(some 3), .box (.t 0), none, []⟩, ⟨(some 6), .nilRow 5 1, none, []⟩]) (.seq (.reg false [⟨(some 9), .mv (.t 2), none, []⟩, ⟨(some 10), .mv (.t 1), none, []⟩, ⟨(some 11), .bin .sub (.t 9) (.t 10), none, [0, 1]⟩, ⟨(some 12), .call 37 [(.t 11)], none, [2]⟩, ⟨(some 7), .mv (.t 12), none, [3, 3, 0, 1, 2, 3]⟩]) (.seq (.seq (.reg false [⟨(some 13), .mv (.t 1), none, []⟩, ⟨(some 8), .mv (.t 13), none, [0, 0]⟩]) (.block 0 (.loop (.seq (.seq (.reg false [⟨(some 14), .mv (.t 8), none, []⟩, ⟨(some 15), .mv (.t 2), none, []⟩, ⟨(some 16), .bin .lss (.t 14) (.t 15), none, [0, 1]⟩]) (.cond (.t 16) (.skip) (.exit 0))) (.seq (.block 1 (.seq (.reg false [⟨(some 19), .mv (.t 7), none, []⟩, ⟨(some 20), .fld 1 (.t 3), none, []⟩, ⟨(some 21), .load none (.t 20), none, [1]⟩, ⟨(some 22), .mv (.t 8), none, []⟩, ⟨(some 23), .ixs 1 (.t 21) (.t 22), none, [2, 3]⟩, ⟨(some 24), .load none (.t 23), none, [4]⟩, ⟨(some 25), .bin .add (.t 24) (.v (.int .i64 1)), none, [5]⟩, ⟨(some 26), .call 37 [(.t 25)], none, [6]⟩, ⟨(some 27), .append 5 1 1 (.t 19) (.t 26), none, [0, 7, 7]⟩, ⟨(some 7), .mv (.t 27), none, [8, 8, 0, 1, 2, 3, 4, 5, 6, 7, 8]⟩]) (.seq (.reg false [⟨(some 28), .mv (.t 7), none, []⟩, ⟨(some 29), .fld 0 (.t 3), none, []⟩, ⟨(some 30), .load none (.t 29), none, [1]⟩, ⟨(some 31), .mv (.t 8), none, []⟩, ⟨(some 32), .ixs 2 (.t 30) (.t 31), none, [2, 3]⟩, ⟨(some 33), .fld 0 (.t 32), none, [4]⟩, ⟨(some 34), .load none (.t 33), none, [5]⟩, ⟨(some 35), .call 37 [(.t 34)], none, [6]⟩, ⟨(some 36), .append 5 1 1 (.t 28) (.t 35), none, [0, 7, 7]⟩, ⟨(some 7), .mv (.t 36), none, [8, 8, 0, 1, 2, 3, 4, 5, 6, 7, 8]⟩]) (.reg false [⟨(some 37), .mv (.t 7), none, []⟩, ⟨(some 38), .fld 0 (.t 3), none, []⟩, ⟨(some 39), .load none (.t 38), none, [1]⟩, ⟨(some 40), .mv (.t 8), none, []⟩, ⟨(some 41), .ixs 2 (.t 39) (.t 40), none, [2, 3]⟩, ⟨(some 42), .fld 1 (.t 41), none, [4]⟩, ⟨(some 43), .load none (.t 42), none, [5]⟩, ⟨(some 44), .call 37 [(.t 43)], none, [6]⟩, ⟨(some 45), .append 5 1 1 (.t 37) (.t 44), none, [0, 7, 7]⟩, ⟨(some 7), .mv (.t 45), none, [8, 8, 0, 1, 2, 3, 4, 5, 6, 7, 8]⟩])))) (.reg false [⟨(some 17), .mv (.t 8), none, []⟩, ⟨(some 18), .bin .add (.t 17) (.v (.int .i64 1)), none, [0]⟩, ⟨(some 8), .mv (.t 18), none, [1, 0, 1]⟩])))))) (.seq (.reg false [⟨(some 46), .mv (.t 7), none, []⟩, ⟨(some 6), .mv (.t 46), none, [0, 0]⟩]) (.ret))))
abbrev ms36_0 : List Nat := [14, 15, 16, 19, 20, 21, 22, 23, 24, 25, 26, 27, 7, 28, 29, 30, 31, 32, 33, 34, 35, 36, 37, 38, 39, 40, 41, 42, 43, 44, 45, 17, 18, 8]
abbrev os36_0 : List Nat := [7]
theorem bd36:Try.f36.body=some (Try.f36.body.getD .skip):=by kernel_rfl
theorem cp36:bW Try.prog Try.f36.ntmps fH (Try.f36.body.getD .skip)=some pc36:=by kernel_rfl
def pc37 : PC := .seq (.reg false [⟨(some 2), .nilRow 5 1, none, []⟩]) (.seq (.reg false [⟨(some 3), .nilRow 5 1, none, []⟩]) (.seq (.block 0 (.loop (.seq (.seq (.reg false [⟨(some 4), .mv (.t 0), none, []⟩, ⟨(some 5), .bin .geq (.t 4) (.v (.int .i64 128)), none, [0]⟩]) (.cond (.t 5) (.skip) (.exit 0))) (.block 1 (.seq (.reg false [⟨(some 6), .mv (.t 3), none, []⟩, ⟨(some 7), .mv (.t 0), none, []⟩, ⟨(some 8), .bin .rem (.t 7) (.v (.int .i64 128)), none, [1]⟩, ⟨(some 9), .bin .add (.t 8) (.v (.int .i64 128)), none, [2]⟩, ⟨(some 10), .conv .u8 (.t 9), none, [3]⟩, ⟨(some 11), .bslice 5 1 [(.int .u8 0)] 1 [(0, 1, (.t 10))], none, [4]⟩, ⟨(some 12), .append 5 1 1 (.t 6) (.t 11), none, [0, 5]⟩, ⟨(some 3), .mv (.t 12), none, [6, 6, 0, 1, 2, 3, 4, 5, 6]⟩]) (.reg false [⟨(some 13), .mv (.t 0), none, []⟩, ⟨(some 14), .bin .quo (.t 13) (.v (.int .i64 128)), none, [0]⟩, ⟨(some 0), .mv (.t 14), none, [1, 0, 1]⟩])))))) (.seq (.reg false [⟨(some 15), .mv (.t 3), none, []⟩, ⟨(some 16), .mv (.t 0), none, []⟩, ⟨(some 17), .conv .u8 (.t 16), none, [1]⟩, ⟨(some 18), .bslice 5 1 [(.int .u8 0)] 1 [(0, 1, (.t 17))], none, [2]⟩, ⟨(some 19), .append 5 1 1 (.t 15) (.t 18), none, [0, 3]⟩, ⟨(some 2), .mv (.t 19), none, [4, 4, 0, 1, 2, 3, 4]⟩]) (.ret))))
def pr37 : List PR := [.t 2]
abbrev ms37_0 : List Nat := [4, 5, 6, 7, 8, 9, 10, 11, 12, 3, 13, 14, 0]
abbrev os37_0 : List Nat := [11, 3]
theorem bd37:Try.f37.body=some (Try.f37.body.getD .skip):=by kernel_rfl
theorem cp37:bW Try.prog Try.f37.ntmps fH (Try.f37.body.getD .skip)=some pc37:=by kernel_rfl
theorem sp37 [bN] {env:Env} (hE:ay Try.prog env) {R:List Pa→List Pa→Prop} (hR:∀ ps rs,R ps rs→ps.length≤20∧pwp env pc37 (fun e s=>(e=.normal∨e=.ret)∧s.res pr37=some rs) (St.init ps)):Spec Try.prog 37 R :=
 bQ hE cK bA Try.func37 bd37 cp37 (by kernel_rfl) (by kernel_rfl) (by kernel_rfl) hR
def pc38 : PC := .seq (.reg false [⟨(some 1), .box (.t 0), none, []⟩, ⟨(some 2), .nilRow 3 1, none, []⟩]) (.seq (.reg false [⟨(some 3), .fld 0 (.t 1), none, []⟩, ⟨(some 4), .load none (.t 3), none, [0]⟩, ⟨(some 5), .fld 1 (.t 1), none, []⟩, ⟨(some 6), .load none (.t 5), none, [2]⟩, ⟨(some 7), .fld 2 (.t 1), none, []⟩, ⟨(some 8), .load none (.t 7), none, [4]⟩, ⟨(some 9), .fld 3 (.t 1), none, []⟩, ⟨(some 10), .load none (.t 9), none, [6]⟩, ⟨(some 11), .fld 4 (.t 1), none, []⟩, ⟨(some 12), .load none (.t 11), none, [8]⟩, ⟨(some 13), .fld 5 (.t 1), none, []⟩, ⟨(some 14), .load none (.t 13), none, [10]⟩, ⟨(some 15), .fld 6 (.t 1), none, []⟩, ⟨(some 16), .load none (.t 15), none, [12]⟩, ⟨(some 17), .fld 7 (.t 1), none, []⟩, ⟨(some 18), .load none (.t 17), none, [14]⟩, ⟨(some 19), .fld 8 (.t 1), none, []⟩, ⟨(some 20), .load none (.t 19), none, [16]⟩, ⟨(some 21), .bslice 3 1 [(.int .i64 0), (.int .i64 0), (.int .i64 0), (.int .i64 0), (.int .i64 0), (.int .i64 0), (.int .i64 0), (.int .i64 0), (.int .i64 0)] 9 [(0, 1, (.t 4)), (1, 1, (.t 6)), (2, 1, (.t 8)), (3, 1, (.t 10)), (4, 1, (.t 12)), (5, 1, (.t 14)), (6, 1, (.t 16)), (7, 1, (.t 18)), (8, 1, (.t 20))], none, [1, 3, 5, 7, 9, 11, 13, 15, 17]⟩, ⟨(some 2), .mv (.t 21), none, [18, 0, 1, 2, 3, 4, 5, 6, 7, 8, 9, 10, 11, 12, 13, 14, 15, 16, 17, 18]⟩]) (.ret))
def pr38 : List PR := [.t 2]
theorem bd38:Try.f38.body=some (Try.f38.body.getD .skip):=by kernel_rfl
theorem cp38:bW Try.prog Try.f38.ntmps fH (Try.f38.body.getD .skip)=some pc38:=by kernel_rfl
theorem sp38 [bN] {env:Env} (hE:ay Try.prog env) {R:List Pa→List Pa→Prop} (hR:∀ ps rs,R ps rs→ps.length≤22∧pwp env pc38 (fun e s=>(e=.normal∨e=.ret)∧s.res pr38=some rs) (St.init ps)):Spec Try.prog 38 R :=
 bQ hE cK bA Try.func38 bd38 cp38 (by kernel_rfl) (by kernel_rfl) (by kernel_rfl) hR
def pc39 : PC := .seq (.reg false [⟨(some 2), .nilRow 5 1, none, []⟩]) (.seq (.seq (.reg false [⟨(some 3), .mv (.t 0), none, []⟩, ⟨(some 4), .bin .lss (.t 3) (.v (.int .i64 0)), none, [0]⟩]) (.cond (.t 4) (.seq (.reg false [⟨(some 5), .mv (.t 0), none, []⟩, ⟨(some 6), .bin .mul (.v (.int .i64 (-2))) (.t 5), none, [0]⟩, ⟨(some 7), .bin .sub (.t 6) (.v (.int .i64 1)), none, [1]⟩, ⟨(some 8), .call 37 [(.t 7)], none, [2]⟩, ⟨(some 2), .mv (.t 8), none, [3, 3, 0, 1, 2, 3]⟩]) (.ret)) (.skip))) (.seq (.reg false [⟨(some 9), .mv (.t 0), none, []⟩, ⟨(some 10), .bin .mul (.v (.int .i64 2)) (.t 9), none, [0]⟩, ⟨(some 11), .call 37 [(.t 10)], none, [1]⟩, ⟨(some 2), .mv (.t 11), none, [2, 2, 0, 1, 2]⟩]) (.ret)))
def pr39 : List PR := [.t 2]
theorem bd39:Try.f39.body=some (Try.f39.body.getD .skip):=by kernel_rfl
theorem cp39:bW Try.prog Try.f39.ntmps fH (Try.f39.body.getD .skip)=some pc39:=by kernel_rfl
theorem sp39 [bN] {env:Env} (hE:ay Try.prog env) {R:List Pa→List Pa→Prop} (hR:∀ ps rs,R ps rs→ps.length≤12∧pwp env pc39 (fun e s=>(e=.normal∨e=.ret)∧s.res pr39=some rs) (St.init ps)):Spec Try.prog 39 R :=
 bQ hE cK bA Try.func39 bd39 cp39 (by kernel_rfl) (by kernel_rfl) (by kernel_rfl) hR
def pc40 : PC := .seq (.reg false [⟨(some 4), .nilRow 5 1, none, []⟩]) (.seq (.reg false [⟨(some 7), .mv (.t 0), none, []⟩, ⟨(some 8), .bslice 5 1 [(.int .u8 0)] 1 [(0, 1, (.t 7))], none, [0]⟩, ⟨(some 9), .mv (.t 1), none, []⟩, ⟨(some 10), .len (.t 9), none, [2]⟩, ⟨(some 11), .call 37 [(.t 10)], none, [3]⟩, ⟨(some 12), .append 5 1 1 (.t 8) (.t 11), none, [1, 4, 4]⟩, ⟨(some 5), .mv (.t 12), none, [5, 5, 0, 1, 2, 3, 4, 5]⟩]) (.seq (.reg false [⟨(some 13), .mv (.t 5), none, []⟩, ⟨(some 14), .mv (.t 1), none, []⟩, ⟨(some 15), .append 5 1 1 (.t 13) (.t 14), none, [0, 1]⟩, ⟨(some 5), .mv (.t 15), none, [2, 2, 0, 1, 2]⟩]) (.seq (.reg false [⟨(some 16), .mv (.t 5), none, []⟩, ⟨(some 17), .call 52 [(.t 16)], none, [0]⟩, ⟨(some 6), .mv (.t 17), none, [1, 1, 0, 1]⟩]) (.seq (.reg false [⟨(some 18), .mv (.t 5), none, []⟩, ⟨(some 19), .mv (.t 6), none, []⟩, ⟨(some 20), .bin .shr (.t 19) (.v (.int .u64 24)), none, [1]⟩, ⟨(some 21), .conv .u8 (.t 20), none, [2]⟩, ⟨(some 22), .mv (.t 6), none, []⟩, ⟨(some 23), .bin .shr (.t 22) (.v (.int .u64 16)), none, [4]⟩, ⟨(some 24), .conv .u8 (.t 23), none, [5]⟩, ⟨(some 25), .mv (.t 6), none, []⟩, ⟨(some 26), .bin .shr (.t 25) (.v (.int .u64 8)), none, [7]⟩, ⟨(some 27), .conv .u8 (.t 26), none, [8]⟩, ⟨(some 28), .mv (.t 6), none, []⟩, ⟨(some 29), .conv .u8 (.t 28), none, [10]⟩, ⟨(some 30), .bslice 5 1 [(.int .u8 0), (.int .u8 0), (.int .u8 0), (.int .u8 0)] 4 [(0, 1, (.t 21)), (1, 1, (.t 24)), (2, 1, (.t 27)), (3, 1, (.t 29))], none, [3, 6, 9, 11]⟩, ⟨(some 31), .append 5 1 1 (.t 18) (.t 30), none, [0, 12]⟩, ⟨(some 4), .mv (.t 31), none, [13, 13, 0, 1, 2, 3, 4, 5, 6, 7, 8, 9, 10, 11, 12, 13]⟩]) (.ret)))))
def pr40 : List PR := [.t 4]
theorem bd40:Try.f40.body=some (Try.f40.body.getD .skip):=by kernel_rfl
theorem cp40:bW Try.prog Try.f40.ntmps fH (Try.f40.body.getD .skip)=some pc40:=by kernel_rfl
theorem sp40 [bN] {env:Env} (hE:ay Try.prog env) {R:List Pa→List Pa→Prop} (hR:∀ ps rs,R ps rs→ps.length≤32∧pwp env pc40 (fun e s=>(e=.normal∨e=.ret)∧s.res pr40=some rs) (St.init ps)):Spec Try.prog 40 R :=
 bQ hE cK bA Try.func40 bd40 cp40 (by kernel_rfl) (by kernel_rfl) (by kernel_rfl) hR
def pc52 : PC := .seq (.reg false [⟨(some 2), .mv (.v (.int .u32 0)), none, []⟩]) (.seq (.reg false [⟨(some 3), .mv (.v (.int .u32 4294967295)), none, []⟩]) (.seq (.seq (.reg false [⟨(some 4), .mv (.v (.int .i64 0)), none, []⟩]) (.block 0 (.loop (.seq (.seq (.reg false [⟨(some 7), .mv (.t 4), none, []⟩, ⟨(some 8), .mv (.t 0), none, []⟩, ⟨(some 9), .len (.t 8), none, [1]⟩, ⟨(some 10), .bin .lss (.t 7) (.t 9), none, [0, 2]⟩]) (.cond (.t 10) (.skip) (.exit 0))) (.seq (.block 1 (.seq (.reg false [⟨(some 13), .mv (.t 3), none, []⟩, ⟨(some 14), .mv (.t 0), none, []⟩, ⟨(some 15), .mv (.t 4), none, []⟩, ⟨(some 16), .ixs 1 (.t 14) (.t 15), none, [1, 2]⟩, ⟨(some 17), .load none (.t 16), none, [3]⟩, ⟨(some 18), .conv .u32 (.t 17), none, [4]⟩, ⟨(some 19), .bin .xor (.t 13) (.t 18), none, [0, 5]⟩, ⟨(some 3), .mv (.t 19), none, [6, 0, 1, 2, 3, 4, 5, 6]⟩]) (.seq (.reg false [⟨(some 5), .mv (.v (.int .i64 0)), none, []⟩]) (.block 2 (.loop (.seq (.seq (.reg false [⟨(some 20), .mv (.t 5), none, []⟩, ⟨(some 21), .bin .lss (.t 20) (.v (.int .i64 8)), none, [0]⟩]) (.cond (.t 21) (.skip) (.exit 2))) (.seq (.block 3 (.seq (.reg false [⟨(some 24), .mv (.t 3), none, []⟩, ⟨(some 25), .bin .rem (.t 24) (.v (.int .u32 2)), none, [0]⟩, ⟨(some 6), .mv (.t 25), none, [1, 0, 1]⟩]) (.seq (.reg false [⟨(some 26), .mv (.t 3), none, []⟩, ⟨(some 27), .bin .quo (.t 26) (.v (.int .u32 2)), none, [0]⟩, ⟨(some 3), .mv (.t 27), none, [1, 0, 1]⟩]) (.seq (.reg false [⟨(some 28), .mv (.t 6), none, []⟩, ⟨(some 29), .bin .eql (.t 28) (.v (.int .u32 1)), none, [0]⟩]) (.cond (.t 29) (.reg false [⟨(some 30), .mv (.t 3), none, []⟩, ⟨(some 31), .bin .xor (.t 30) (.v (.int .u32 3988292384)), none, [0]⟩, ⟨(some 3), .mv (.t 31), none, [1, 0, 1]⟩]) (.skip)))))) (.reg false [⟨(some 22), .mv (.t 5), none, []⟩, ⟨(some 23), .bin .add (.t 22) (.v (.int .i64 1)), none, [0]⟩, ⟨(some 5), .mv (.t 23), none, [1, 0, 1]⟩])))))))) (.reg false [⟨(some 11), .mv (.t 4), none, []⟩, ⟨(some 12), .bin .add (.t 11) (.v (.int .i64 1)), none, [0]⟩, ⟨(some 4), .mv (.t 12), none, [1, 0, 1]⟩])))))) (.seq (.reg false [⟨(some 32), .mv (.t 3), none, []⟩, ⟨(some 33), .bin .xor (.t 32) (.v (.int .u32 4294967295)), none, [0]⟩, ⟨(some 2), .mv (.t 33), none, [1, 0, 1]⟩]) (.ret))))
def pr52 : List PR := [.t 2]
abbrev ms52_0 : List Nat := [7, 8, 9, 10, 13, 14, 15, 16, 17, 18, 19, 3, 5, 20, 21, 24, 25, 6, 26, 27, 28, 29, 30, 31, 22, 23, 11, 12, 4]
abbrev os52_0 : List Nat := []
abbrev ms52_1 : List Nat := [20, 21, 24, 25, 6, 26, 27, 3, 28, 29, 30, 31, 22, 23, 5]
abbrev os52_1 : List Nat := []
theorem bd52:Try.f52.body=some (Try.f52.body.getD .skip):=by kernel_rfl
theorem cp52:bW Try.prog Try.f52.ntmps fH (Try.f52.body.getD .skip)=some pc52:=by kernel_rfl
theorem sp52 [bN] {env:Env} (hE:ay Try.prog env) {R:List Pa→List Pa→Prop} (hR:∀ ps rs,R ps rs→ps.length≤34∧pwp env pc52 (fun e s=>(e=.normal∨e=.ret)∧s.res pr52=some rs) (St.init ps)):Spec Try.prog 52 R :=
 bQ hE cK bA Try.func52 bd52 cp52 (by kernel_rfl) (by kernel_rfl) (by kernel_rfl) hR
def pc34 : PC := .seq (.reg false [⟨(some 1), .box (.t 0), none, []⟩, ⟨(some 2), .mv (.v (.bool false)), none, []⟩]) (.seq (.seq (.reg false [⟨(some 5), .fld 0 (.t 1), none, []⟩, ⟨(some 6), .load none (.t 5), none, [0]⟩, ⟨(some 7), .len (.t 6), none, [1]⟩, ⟨(some 8), .fld 1 (.t 1), none, []⟩, ⟨(some 9), .load none (.t 8), none, [3]⟩, ⟨(some 10), .len (.t 9), none, [4]⟩, ⟨(some 11), .bin .neq (.t 7) (.t 10), none, [2, 5]⟩]) (.cond (.t 11) (.seq (.reg false [⟨(some 2), .mv (.v (.bool false)), none, []⟩]) (.ret)) (.skip))) (.seq (.seq (.reg false [⟨(some 3), .mv (.v (.int .i64 0)), none, []⟩]) (.block 0 (.loop (.seq (.seq (.reg false [⟨(some 12), .mv (.t 3), none, []⟩, ⟨(some 13), .fld 0 (.t 1), none, []⟩, ⟨(some 14), .load none (.t 13), none, [1]⟩, ⟨(some 15), .len (.t 14), none, [2]⟩, ⟨(some 16), .bin .lss (.t 12) (.t 15), none, [0, 3]⟩]) (.cond (.t 16) (.skip) (.exit 0))) (.seq (.block 1 (.seq (.seq (.reg false [⟨(some 19), .fld 1 (.t 1), none, []⟩, ⟨(some 20), .load none (.t 19), none, [0]⟩, ⟨(some 21), .mv (.t 3), none, []⟩, ⟨(some 22), .ixs 1 (.t 20) (.t 21), none, [1, 2]⟩, ⟨(some 23), .load none (.t 22), none, [3]⟩, ⟨(some 24), .bin .lss (.t 23) (.v (.int .i64 (-1))), none, [4]⟩, ⟨(some 25), .mv (.t 24), none, [5]⟩, ⟨(some 26), .fld 1 (.t 1), (some (25, false)), [6]⟩, ⟨(some 27), .load none (.t 26), (some (25, false)), [7, 6]⟩, ⟨(some 28), .mv (.t 3), (some (25, false)), [6]⟩, ⟨(some 29), .ixs 1 (.t 27) (.t 28), (some (25, false)), [8, 9, 6]⟩, ⟨(some 30), .load none (.t 29), (some (25, false)), [10, 6]⟩, ⟨(some 31), .mv (.t 3), (some (25, false)), [6]⟩, ⟨(some 32), .bin .geq (.t 30) (.t 31), (some (25, false)), [11, 12, 6]⟩, ⟨(some 33), .pick (.t 25) (.v (.bool true)) (.t 32), none, [6, 13]⟩, ⟨(some 34), .mv (.t 33), none, [14, 6]⟩, ⟨(some 35), .fld 0 (.t 1), (some (34, false)), [15]⟩, ⟨(some 36), .load none (.t 35), (some (34, false)), [16, 15]⟩, ⟨(some 37), .mv (.t 3), (some (34, false)), [15]⟩, ⟨(some 38), .ixs 2 (.t 36) (.t 37), (some (34, false)), [17, 18, 15]⟩, ⟨(some 39), .fld 0 (.t 38), (some (34, false)), [19, 15]⟩, ⟨(some 40), .load none (.t 39), (some (34, false)), [20, 15]⟩, ⟨(some 41), .bin .lss (.t 40) (.v (.int .i64 0)), (some (34, false)), [21, 15]⟩, ⟨(some 42), .pick (.t 34) (.v (.bool true)) (.t 41), none, [15, 22]⟩, ⟨(some 43), .mv (.t 42), none, [23, 15]⟩, ⟨(some 44), .fld 0 (.t 1), (some (43, false)), [24]⟩, ⟨(some 45), .load none (.t 44), (some (43, false)), [25, 24]⟩, ⟨(some 46), .mv (.t 3), (some (43, false)), [24]⟩, ⟨(some 47), .ixs 2 (.t 45) (.t 46), (some (43, false)), [26, 27, 24]⟩, ⟨(some 48), .fld 1 (.t 47), (some (43, false)), [28, 24]⟩, ⟨(some 49), .load none (.t 48), (some (43, false)), [29, 24]⟩, ⟨(some 50), .bin .lss (.t 49) (.v (.int .i64 0)), (some (43, false)), [30, 24]⟩, ⟨(some 51), .pick (.t 43) (.v (.bool true)) (.t 50), none, [24, 31]⟩]) (.cond (.t 51) (.seq (.reg false [⟨(some 2), .mv (.v (.bool false)), none, []⟩]) (.ret)) (.skip))) (.seq (.reg false [⟨(some 4), .mv (.v (.int .i64 0)), none, []⟩]) (.block 2 (.loop (.seq (.seq (.reg false [⟨(some 52), .mv (.t 4), none, []⟩, ⟨(some 53), .mv (.t 3), none, []⟩, ⟨(some 54), .bin .lss (.t 52) (.t 53), none, [0, 1]⟩]) (.cond (.t 54) (.skip) (.exit 2))) (.seq (.block 3 (.seq (.reg true [⟨(some 57), .fld 0 (.t 1), none, []⟩, ⟨(some 58), .load none (.t 57), none, [0]⟩, ⟨(some 59), .mv (.t 4), none, []⟩, ⟨(some 60), .ixs 2 (.t 58) (.t 59), none, [1, 2]⟩, ⟨(some 61), .load (some 2) (.t 60), none, [3]⟩, ⟨(some 62), .fld 0 (.t 1), none, []⟩, ⟨(some 63), .load none (.t 62), none, [5]⟩, ⟨(some 64), .mv (.t 3), none, []⟩, ⟨(some 65), .ixs 2 (.t 63) (.t 64), none, [6, 7]⟩, ⟨(some 66), .load (some 2) (.t 65), none, [8]⟩, ⟨(some 67), .eqs false [false, false] (.t 61) (.t 66), none, [4, 9]⟩, ⟨(some 68), .mv (.t 67), none, [10]⟩, ⟨(some 69), .fld 1 (.t 1), (some (68, true)), [11]⟩, ⟨(some 70), .load none (.t 69), (some (68, true)), [12, 11]⟩, ⟨(some 71), .mv (.t 4), (some (68, true)), [11]⟩, ⟨(some 72), .ixs 1 (.t 70) (.t 71), (some (68, true)), [13, 14, 11]⟩, ⟨(some 73), .load none (.t 72), (some (68, true)), [15, 11]⟩, ⟨(some 74), .fld 1 (.t 1), (some (68, true)), [11]⟩, ⟨(some 75), .load none (.t 74), (some (68, true)), [17, 11]⟩, ⟨(some 76), .mv (.t 3), (some (68, true)), [11]⟩, ⟨(some 77), .ixs 1 (.t 75) (.t 76), (some (68, true)), [18, 19, 11]⟩, ⟨(some 78), .load none (.t 77), (some (68, true)), [20, 11]⟩, ⟨(some 79), .bin .eql (.t 73) (.t 78), (some (68, true)), [16, 21, 11]⟩, ⟨(some 80), .pick (.t 68) (.t 79) (.v (.bool false)), none, [11, 22]⟩]) (.cond (.t 80) (.seq (.reg false [⟨(some 2), .mv (.v (.bool false)), none, []⟩]) (.ret)) (.skip)))) (.reg false [⟨(some 55), .mv (.t 4), none, []⟩, ⟨(some 56), .bin .add (.t 55) (.v (.int .i64 1)), none, [0]⟩, ⟨(some 4), .mv (.t 56), none, [1, 0, 1]⟩])))))))) (.reg false [⟨(some 17), .mv (.t 3), none, []⟩, ⟨(some 18), .bin .add (.t 17) (.v (.int .i64 1)), none, [0]⟩, ⟨(some 3), .mv (.t 18), none, [1, 0, 1]⟩])))))) (.seq (.reg false [⟨(some 2), .mv (.v (.bool true)), none, []⟩]) (.ret))))
def pr34 : List PR := [.t 2]
abbrev ms34_0 : List Nat := [12, 13, 14, 15, 16, 19, 20, 21, 22, 23, 24, 25, 26, 27, 28, 29, 30, 31, 32, 33, 34, 35, 36, 37, 38, 39, 40, 41, 42, 43, 44, 45, 46, 47, 48, 49, 50, 51, 2, 4, 52, 53, 54, 57, 58, 59, 60, 61, 62, 63, 64, 65, 66, 67, 68, 69, 70, 71, 72, 73, 74, 75, 76, 77, 78, 79, 80, 55, 56, 17, 18, 3]
abbrev os34_0 : List Nat := []
abbrev ms34_1 : List Nat := [52, 53, 54, 57, 58, 59, 60, 61, 62, 63, 64, 65, 66, 67, 68, 69, 70, 71, 72, 73, 74, 75, 76, 77, 78, 79, 80, 2, 55, 56, 4]
abbrev os34_1 : List Nat := []
theorem bd34:Try.f34.body=some (Try.f34.body.getD .skip):=by kernel_rfl
theorem cp34:bW Try.prog Try.f34.ntmps fH (Try.f34.body.getD .skip)=some pc34:=by kernel_rfl
theorem sp34 [bN] {env:Env} (hE:ay Try.prog env) {R:List Pa→List Pa→Prop} (hR:∀ ps rs,R ps rs→ps.length≤81∧pwp env pc34 (fun e s=>(e=.normal∨e=.ret)∧s.res pr34=some rs) (St.init ps)):Spec Try.prog 34 R :=
 bQ hE cK bA Try.func34 bd34 cp34 (by kernel_rfl) (by kernel_rfl) (by kernel_rfl) hR
def pc35c0 : PC := .seq (.reg false [⟨(some 108), .fld 4 (.t 1), none, []⟩, ⟨(some 109), .load none (.t 108), none, [0]⟩, ⟨(some 110), .bin .eql (.t 109) (.v (.int .i64 0)), none, [1]⟩, ⟨(some 111), .mv (.t 110), none, [2]⟩, ⟨(some 112), .fld 5 (.t 1), (some (111, true)), [3]⟩, ⟨(some 113), .load none (.t 112), (some (111, true)), [4, 3]⟩, ⟨(some 114), .bin .eql (.t 113) (.v (.int .i64 0)), (some (111, true)), [5, 3]⟩, ⟨(some 115), .pick (.t 111) (.t 114) (.v (.bool false)), none, [3, 6]⟩, ⟨(some 2), .mv (.t 115), none, [7, 3, 0, 1, 2, 3, 4, 5, 6, 7]⟩]) (.ret)
def pc35c1 : PC := .seq (.reg false [⟨(some 56), .fld 2 (.t 1), none, []⟩, ⟨(some 57), .load none (.t 56), none, [0]⟩, ⟨(some 58), .bin .eql (.t 57) (.v (.int .i64 0)), none, [1]⟩, ⟨(some 59), .mv (.t 58), none, [2]⟩, ⟨(some 60), .fld 3 (.t 1), (some (59, true)), [3]⟩, ⟨(some 61), .load none (.t 60), (some (59, true)), [4, 3]⟩, ⟨(some 62), .bin .eql (.t 61) (.v (.int .i64 0)), (some (59, true)), [5, 3]⟩, ⟨(some 63), .pick (.t 59) (.t 62) (.v (.bool false)), none, [3, 6]⟩, ⟨(some 64), .mv (.t 63), none, [7, 3]⟩, ⟨(some 65), .fld 5 (.t 1), (some (64, true)), [8]⟩, ⟨(some 66), .load none (.t 65), (some (64, true)), [9, 8]⟩, ⟨(some 67), .bin .eql (.t 66) (.v (.int .i64 0)), (some (64, true)), [10, 8]⟩, ⟨(some 68), .pick (.t 64) (.t 67) (.v (.bool false)), none, [8, 11]⟩, ⟨(some 69), .mv (.t 68), none, [12, 8]⟩, ⟨(some 70), .fld 4 (.t 1), (some (69, true)), [13]⟩, ⟨(some 71), .load none (.t 70), (some (69, true)), [14, 13]⟩, ⟨(some 72), .bin .gtr (.t 71) (.v (.int .i64 0)), (some (69, true)), [15, 13]⟩, ⟨(some 73), .pick (.t 69) (.t 72) (.v (.bool false)), none, [13, 16]⟩, ⟨(some 74), .mv (.t 73), none, [17, 13]⟩, ⟨(some 75), .fld 4 (.t 1), (some (74, true)), [18]⟩, ⟨(some 76), .load none (.t 75), (some (74, true)), [19, 18]⟩, ⟨(some 77), .bin .lss (.t 76) (.v (.int .i64 8)), (some (74, true)), [20, 18]⟩, ⟨(some 78), .pick (.t 74) (.t 77) (.v (.bool false)), none, [18, 21]⟩, ⟨(some 2), .mv (.t 78), none, [22, 18, 0, 1, 2, 3, 4, 5, 6, 7, 8, 9, 10, 11, 12, 13, 14, 15, 16, 17, 18, 19, 20, 21, 22]⟩]) (.ret)
def pc35c2 : PC := .seq (.reg false [⟨(some 84), .fld 3 (.t 1), none, []⟩, ⟨(some 85), .load none (.t 84), none, [0]⟩, ⟨(some 86), .bin .eql (.t 85) (.v (.int .i64 0)), none, [1]⟩, ⟨(some 87), .mv (.t 86), none, [2]⟩, ⟨(some 88), .fld 5 (.t 1), (some (87, true)), [3]⟩, ⟨(some 89), .load none (.t 88), (some (87, true)), [4, 3]⟩, ⟨(some 90), .bin .leq (.t 89) (.v (.int .i64 64)), (some (87, true)), [5, 3]⟩, ⟨(some 91), .pick (.t 87) (.t 90) (.v (.bool false)), none, [3, 6]⟩, ⟨(some 2), .mv (.t 91), none, [7, 3, 0, 1, 2, 3, 4, 5, 6, 7]⟩]) (.ret)
def pc35c3 : PC := .seq (.reg false [⟨(some 95), .fld 3 (.t 1), none, []⟩, ⟨(some 96), .load none (.t 95), none, [0]⟩, ⟨(some 97), .bin .eql (.t 96) (.v (.int .i64 0)), none, [1]⟩, ⟨(some 98), .mv (.t 97), none, [2]⟩, ⟨(some 99), .fld 4 (.t 1), (some (98, true)), [3]⟩, ⟨(some 100), .load none (.t 99), (some (98, true)), [4, 3]⟩, ⟨(some 101), .bin .eql (.t 100) (.v (.int .i64 0)), (some (98, true)), [5, 3]⟩, ⟨(some 102), .pick (.t 98) (.t 101) (.v (.bool false)), none, [3, 6]⟩, ⟨(some 103), .mv (.t 102), none, [7, 3]⟩, ⟨(some 104), .fld 5 (.t 1), (some (103, true)), [8]⟩, ⟨(some 105), .load none (.t 104), (some (103, true)), [9, 8]⟩, ⟨(some 106), .bin .leq (.t 105) (.v (.int .i64 64)), (some (103, true)), [10, 8]⟩, ⟨(some 107), .pick (.t 103) (.t 106) (.v (.bool false)), none, [8, 11]⟩, ⟨(some 2), .mv (.t 107), none, [12, 8, 0, 1, 2, 3, 4, 5, 6, 7, 8, 9, 10, 11, 12]⟩]) (.ret)
def pc35c4 : PC := .seq (.seq (.reg false [⟨(some 93), .bin .eql (.t 53) (.v (.int .i64 19)), none, []⟩, ⟨(some 92), .mv (.t 93), none, [0]⟩]) (.cond (.t 92) (.skip) (.reg false [⟨(some 94), .bin .eql (.t 53) (.v (.int .i64 20)), none, []⟩, ⟨(some 92), .mv (.t 94), none, [0]⟩]))) (.cond (.t 92) (pc35c3) (.skip))
def pc35c5 : PC := .seq (.seq (.reg false [⟨(some 80), .bin .eql (.t 53) (.v (.int .i64 15)), none, []⟩, ⟨(some 79), .mv (.t 80), none, [0]⟩]) (.cond (.t 79) (.skip) (.seq (.reg false [⟨(some 81), .bin .eql (.t 53) (.v (.int .i64 16)), none, []⟩, ⟨(some 79), .mv (.t 81), none, [0]⟩]) (.cond (.t 79) (.skip) (.seq (.reg false [⟨(some 82), .bin .eql (.t 53) (.v (.int .i64 17)), none, []⟩, ⟨(some 79), .mv (.t 82), none, [0]⟩]) (.cond (.t 79) (.skip) (.reg false [⟨(some 83), .bin .eql (.t 53) (.v (.int .i64 18)), none, []⟩, ⟨(some 79), .mv (.t 83), none, [0]⟩]))))))) (.cond (.t 79) (pc35c2) (pc35c4))
def pc35c6 : PC := .seq (.reg false [⟨(some 52), .fld 1 (.t 1), none, []⟩, ⟨(some 53), .load none (.t 52), none, [0]⟩]) (.block 2 (.seq (.reg false [⟨(some 55), .bin .eql (.t 53) (.v (.int .i64 14)), none, []⟩, ⟨(some 54), .mv (.t 55), none, [0]⟩]) (.cond (.t 54) (pc35c1) (pc35c5))))
def pc35c7 : PC := .seq (pc35c6) (pc35c0)
def pc35c8 : PC := .seq (.seq (.reg false [⟨(some 4), .mv (.v (.int .i64 0)), none, []⟩]) (.block 0 (.loop (.seq (.seq (.reg false [⟨(some 34), .mv (.t 4), none, []⟩, ⟨(some 35), .mv (.t 3), none, []⟩, ⟨(some 36), .len (.t 35), none, [1]⟩, ⟨(some 37), .bin .lss (.t 34) (.t 36), none, [0, 2]⟩]) (.cond (.t 37) (.skip) (.exit 0))) (.seq (.block 1 (.seq (.reg false [⟨(some 40), .mv (.t 3), none, []⟩, ⟨(some 41), .mv (.t 4), none, []⟩, ⟨(some 42), .ixs 1 (.t 40) (.t 41), none, [0, 1]⟩, ⟨(some 43), .load none (.t 42), none, [2]⟩, ⟨(some 44), .bin .lss (.t 43) (.v (.int .i64 0)), none, [3]⟩, ⟨(some 45), .mv (.t 44), none, [4]⟩, ⟨(some 46), .mv (.t 3), (some (45, false)), [5]⟩, ⟨(some 47), .mv (.t 4), (some (45, false)), [5]⟩, ⟨(some 48), .ixs 1 (.t 46) (.t 47), (some (45, false)), [6, 7, 5]⟩, ⟨(some 49), .load none (.t 48), (some (45, false)), [8, 5]⟩, ⟨(some 50), .bin .gtr (.t 49) (.v (.int .i64 2147483647)), (some (45, false)), [9, 5]⟩, ⟨(some 51), .pick (.t 45) (.v (.bool true)) (.t 50), none, [5, 10]⟩]) (.cond (.t 51) (.seq (.reg false [⟨(some 2), .mv (.v (.bool false)), none, []⟩]) (.ret)) (.skip)))) (.reg false [⟨(some 38), .mv (.t 4), none, []⟩, ⟨(some 39), .bin .add (.t 38) (.v (.int .i64 1)), none, [0]⟩, ⟨(some 4), .mv (.t 39), none, [1, 0, 1]⟩])))))) (pc35c7)
def pc35c9 : PC := .seq (.reg false [⟨(some 19), .fld 2 (.t 1), none, []⟩, ⟨(some 20), .load none (.t 19), none, [0]⟩, ⟨(some 21), .fld 3 (.t 1), none, []⟩, ⟨(some 22), .load none (.t 21), none, [2]⟩, ⟨(some 23), .fld 4 (.t 1), none, []⟩, ⟨(some 24), .load none (.t 23), none, [4]⟩, ⟨(some 25), .fld 5 (.t 1), none, []⟩, ⟨(some 26), .load none (.t 25), none, [6]⟩, ⟨(some 27), .fld 6 (.t 1), none, []⟩, ⟨(some 28), .load none (.t 27), none, [8]⟩, ⟨(some 29), .fld 7 (.t 1), none, []⟩, ⟨(some 30), .load none (.t 29), none, [10]⟩, ⟨(some 31), .fld 8 (.t 1), none, []⟩, ⟨(some 32), .load none (.t 31), none, [12]⟩, ⟨(some 33), .bslice 3 1 [(.int .i64 0), (.int .i64 0), (.int .i64 0), (.int .i64 0), (.int .i64 0), (.int .i64 0), (.int .i64 0)] 7 [(0, 1, (.t 20)), (1, 1, (.t 22)), (2, 1, (.t 24)), (3, 1, (.t 26)), (4, 1, (.t 28)), (5, 1, (.t 30)), (6, 1, (.t 32))], none, [1, 3, 5, 7, 9, 11, 13]⟩, ⟨(some 3), .mv (.t 33), none, [14, 0, 1, 2, 3, 4, 5, 6, 7, 8, 9, 10, 11, 12, 13, 14]⟩]) (pc35c8)
def pc35 : PC := .seq (.reg false [⟨(some 1), .box (.t 0), none, []⟩, ⟨(some 2), .mv (.v (.bool false)), none, []⟩]) (.seq (.seq (.reg false [⟨(some 5), .fld 0 (.t 1), none, []⟩, ⟨(some 6), .load none (.t 5), none, [0]⟩, ⟨(some 7), .bin .lss (.t 6) (.v (.int .i64 0)), none, [1]⟩, ⟨(some 8), .mv (.t 7), none, [2]⟩, ⟨(some 9), .fld 0 (.t 1), (some (8, false)), [3]⟩, ⟨(some 10), .load none (.t 9), (some (8, false)), [4, 3]⟩, ⟨(some 11), .bin .geq (.t 10) (.v (.int .i64 8)), (some (8, false)), [5, 3]⟩, ⟨(some 12), .pick (.t 8) (.v (.bool true)) (.t 11), none, [3, 6]⟩, ⟨(some 13), .mv (.t 12), none, [7, 3]⟩, ⟨(some 14), .fld 1 (.t 1), (some (13, false)), [8]⟩, ⟨(some 15), .load none (.t 14), (some (13, false)), [9, 8]⟩, ⟨(some 16), .call 54 [(.t 15)], (some (13, false)), [10, 8, 8]⟩, ⟨(some 17), .bin .eql (.t 16) (.v (.string ⟨#[]⟩)), (some (13, false)), [11, 8]⟩, ⟨(some 18), .pick (.t 13) (.v (.bool true)) (.t 17), none, [8, 12]⟩]) (.cond (.t 18) (.seq (.reg false [⟨(some 2), .mv (.v (.bool false)), none, []⟩]) (.ret)) (.skip))) (pc35c9))
def pr35 : List PR := [.t 2]
abbrev ms35_0 : List Nat := [34, 35, 36, 37, 40, 41, 42, 43, 44, 45, 46, 47, 48, 49, 50, 51, 2, 38, 39, 4]
abbrev os35_0 : List Nat := []
theorem bd35:Try.f35.body=some (Try.f35.body.getD .skip):=by kernel_rfl
theorem cp35:bW Try.prog Try.f35.ntmps fH (Try.f35.body.getD .skip)=some pc35:=by kernel_rfl
theorem sp35 [bN] {env:Env} (hE:ay Try.prog env) {R:List Pa→List Pa→Prop} (hR:∀ ps rs,R ps rs→ps.length≤116∧pwp env pc35 (fun e s=>(e=.normal∨e=.ret)∧s.res pr35=some rs) (St.init ps)):Spec Try.prog 35 R :=
 bQ hE cK bA Try.func35 bd35 cp35 (by kernel_rfl) (by kernel_rfl) (by kernel_rfl) hR
def pc54 : PC := .seq (.reg false [⟨(some 2), .mv (.v (.string ⟨#[]⟩)), none, []⟩]) (.seq (.reg false [⟨(some 4), .bslice 9 1 [(.string ⟨#[]⟩), (.string ⟨#[]⟩), (.string ⟨#[]⟩), (.string ⟨#[]⟩), (.string ⟨#[]⟩), (.string ⟨#[]⟩), (.string ⟨#[]⟩), (.string ⟨#[]⟩), (.string ⟨#[]⟩), (.string ⟨#[]⟩), (.string ⟨#[]⟩), (.string ⟨#[]⟩), (.string ⟨#[]⟩), (.string ⟨#[]⟩), (.string ⟨#[]⟩), (.string ⟨#[]⟩), (.string ⟨#[]⟩), (.string ⟨#[]⟩), (.string ⟨#[]⟩), (.string ⟨#[]⟩), (.string ⟨#[]⟩)] 21 [(0, 1, (.v (.string ⟨#[]⟩))), (1, 1, (.v (.string ⟨#[114, 101, 97, 100]⟩))), (2, 1, (.v (.string ⟨#[119, 114, 105, 116, 101]⟩))), (3, 1, (.v (.string ⟨#[97, 116, 111, 109, 105, 99, 45, 114, 101, 97, 100]⟩))), (4, 1, (.v (.string ⟨#[97, 116, 111, 109, 105, 99, 45, 119, 114, 105, 116, 101]⟩))), (5, 1, (.v (.string ⟨#[97, 116, 111, 109, 105, 99, 45, 98, 111, 116, 104]⟩))), (6, 1, (.v (.string ⟨#[108, 111, 99, 107]⟩))), (7, 1, (.v (.string ⟨#[117, 110, 108, 111, 99, 107]⟩))), (8, 1, (.v (.string ⟨#[114, 108, 111, 99, 107]⟩))), (9, 1, (.v (.string ⟨#[114, 117, 110, 108, 111, 99, 107]⟩))), (10, 1, (.v (.string ⟨#[100, 111, 110, 101]⟩))), (11, 1, (.v (.string ⟨#[119, 97, 105, 116]⟩))), (12, 1, (.v (.string ⟨#[111, 110, 99, 101, 45, 101, 110, 100]⟩))), (13, 1, (.v (.string ⟨#[111, 110, 99, 101, 45, 115, 101, 101, 110]⟩))), (14, 1, (.v (.string ⟨#[103, 111]⟩))), (15, 1, (.v (.string ⟨#[115, 101, 110, 100, 45, 115, 116, 97, 114, 116]⟩))), (16, 1, (.v (.string ⟨#[115, 101, 110, 100, 45, 101, 110, 100]⟩))), (17, 1, (.v (.string ⟨#[114, 101, 99, 118, 45, 115, 116, 97, 114, 116]⟩))), (18, 1, (.v (.string ⟨#[114, 101, 99, 118, 45, 101, 110, 100]⟩))), (19, 1, (.v (.string ⟨#[99, 108, 111, 115, 101]⟩))), (20, 1, (.v (.string ⟨#[114, 101, 99, 118, 45, 99, 108, 111, 115, 101, 100]⟩)))], none, []⟩, ⟨(some 3), .mv (.t 4), none, [0, 0]⟩]) (.seq (.seq (.reg false [⟨(some 5), .mv (.t 0), none, []⟩, ⟨(some 6), .bin .lss (.t 5) (.v (.int .i64 1)), none, [0]⟩, ⟨(some 7), .mv (.t 6), none, [1]⟩, ⟨(some 8), .mv (.t 0), (some (7, false)), [2]⟩, ⟨(some 9), .bin .gtr (.t 8) (.v (.int .i64 20)), (some (7, false)), [3, 2]⟩, ⟨(some 10), .pick (.t 7) (.v (.bool true)) (.t 9), none, [2, 4]⟩]) (.cond (.t 10) (.seq (.reg false [⟨(some 2), .mv (.v (.string ⟨#[]⟩)), none, []⟩]) (.ret)) (.skip))) (.seq (.reg false [⟨(some 11), .mv (.t 3), none, []⟩, ⟨(some 12), .mv (.t 0), none, []⟩, ⟨(some 13), .ixs 1 (.t 11) (.t 12), none, [0, 1]⟩, ⟨(some 14), .load none (.t 13), none, [2]⟩, ⟨(some 2), .mv (.t 14), none, [3, 0, 1, 2, 3]⟩]) (.ret))))
def pr54 : List PR := [.t 2]
theorem bd54:Try.f54.body=some (Try.f54.body.getD .skip):=by kernel_rfl
theorem cp54:bW Try.prog Try.f54.ntmps fH (Try.f54.body.getD .skip)=some pc54:=by kernel_rfl
theorem sp54 [bN] {env:Env} (hE:ay Try.prog env) {R:List Pa→List Pa→Prop} (hR:∀ ps rs,R ps rs→ps.length≤15∧pwp env pc54 (fun e s=>(e=.normal∨e=.ret)∧s.res pr54=some rs) (St.init ps)):Spec Try.prog 54 R :=
 bQ hE cK bA Try.func54 bd54 cp54 (by kernel_rfl) (by kernel_rfl) (by kernel_rfl) hR
def pc3 : PC := .seq (.reg false [⟨(some 1), .box (.t 0), none, []⟩, ⟨(some 2), .mv (.v (.bool false)), none, []⟩]) (.seq (.seq (.reg false [⟨(some 7), .call 10 [], none, []⟩, ⟨(some 8), .un .not (.t 7), none, [0]⟩]) (.cond (.t 8) (.seq (.reg false [⟨(some 2), .mv (.v (.bool false)), none, []⟩]) (.ret)) (.skip))) (.seq (.seq (.reg false [⟨(some 9), .load (some 3) (.t 1), none, []⟩, ⟨(some 10), .call 11 [(.t 9)], none, [0]⟩]) (.cond (.t 10) (.seq (.reg false [⟨(some 2), .mv (.v (.bool true)), none, []⟩]) (.ret)) (.skip))) (.seq (.reg false [⟨(some 12), .load (some 3) (.t 1), none, []⟩, ⟨(some 13), .call 12 [(.t 12)], none, [0]⟩, ⟨(some 11), .mv (.t 13), none, [1]⟩, ⟨(some 14), .ext (.t 11) 0, none, [2]⟩, ⟨(some 15), .ext (.t 11) 1, none, [2]⟩, ⟨(some 3), .mv (.t 14), none, [3, 1, 0, 1, 2, 3]⟩, ⟨(some 4), .mv (.t 15), none, [4, 5, 0, 1, 2, 3, 4, 5]⟩]) (.seq (.reg false [⟨(some 17), .load (some 3) (.t 1), none, []⟩, ⟨(some 18), .call 13 [(.t 17)], none, [0]⟩, ⟨(some 16), .mv (.t 18), none, [1]⟩, ⟨(some 19), .ext (.t 16) 0, none, [2]⟩, ⟨(some 20), .ext (.t 16) 1, none, [2]⟩, ⟨(some 5), .mv (.t 19), none, [3, 1, 0, 1, 2, 3]⟩, ⟨(some 6), .mv (.t 20), none, [4, 5, 0, 1, 2, 3, 4, 5]⟩]) (.seq (.reg false [⟨(some 21), .mv (.t 4), none, []⟩, ⟨(some 22), .mv (.t 6), none, []⟩, ⟨(some 23), .bin .eql (.t 21) (.t 22), none, [0, 1]⟩, ⟨(some 24), .mv (.t 23), none, [2]⟩, ⟨(some 25), .mv (.t 3), (some (24, true)), [3]⟩, ⟨(some 26), .bstr (.t 25), (some (24, true)), [4, 3]⟩, ⟨(some 27), .mv (.t 5), (some (24, true)), [3]⟩, ⟨(some 28), .bstr (.t 27), (some (24, true)), [6, 3]⟩, ⟨(some 29), .bin .eql (.t 26) (.t 28), (some (24, true)), [5, 7, 3]⟩, ⟨(some 30), .pick (.t 24) (.t 29) (.v (.bool false)), none, [3, 8]⟩, ⟨(some 2), .mv (.t 30), none, [9, 3, 0, 1, 2, 3, 4, 5, 6, 7, 8, 9]⟩]) (.ret))))))
def pr3 : List PR := [.t 2]
theorem bd3:Try.f3.body=some (Try.f3.body.getD .skip):=by kernel_rfl
theorem cp3:bW Try.prog Try.f3.ntmps fH (Try.f3.body.getD .skip)=some pc3:=by kernel_rfl
theorem sp3 [bN] {env:Env} (hE:ay Try.prog env) {R:List Pa→List Pa→Prop} (hR:∀ ps rs,R ps rs→ps.length≤31∧pwp env pc3 (fun e s=>(e=.normal∨e=.ret)∧s.res pr3=some rs) (St.init ps)):Spec Try.prog 3 R :=
 bQ hE cK bA Try.func3 bd3 cp3 (by kernel_rfl) (by kernel_rfl) (by kernel_rfl) hR
def pc10 : PC := .seq (.reg false [⟨(some 0), .mv (.v (.bool false)), none, []⟩]) (.seq (.reg false [⟨(some 7), .build [(.slice none 0 0), (.slice none 0 0), (.slice none 0 0)] [], none, []⟩, ⟨(some 8), .call 12 [(.t 7)], none, [0]⟩, ⟨(some 6), .mv (.t 8), none, [1]⟩, ⟨(some 9), .ext (.t 6) 0, none, [2]⟩, ⟨(some 10), .ext (.t 6) 1, none, [2]⟩, ⟨(some 1), .mv (.t 9), none, [3, 1, 0, 1, 2, 3]⟩, ⟨(some 2), .mv (.t 10), none, [4, 5, 0, 1, 2, 3, 4, 5]⟩]) (.seq (.reg false [⟨(some 11), .build [(.int .i64 0), (.int .i64 0), (.int .i64 0), (.int .i64 0), (.int .i64 0), (.int .i64 0), (.int .i64 0), (.int .i64 0), (.int .i64 0)] [(1, 1, (.v (.int .i64 1)))], none, []⟩, ⟨(some 12), .bslice 42 9 [(.int .i64 0), (.int .i64 0), (.int .i64 0), (.int .i64 0), (.int .i64 0), (.int .i64 0), (.int .i64 0), (.int .i64 0), (.int .i64 0)] 1 [(0, 9, (.t 11))], none, [0]⟩, ⟨(some 13), .build [(.int .i64 0), (.int .i64 0)] [], none, []⟩, ⟨(some 14), .bslice 50 2 [(.int .i64 0), (.int .i64 0)] 1 [(0, 2, (.t 13))], none, [2]⟩, ⟨(some 15), .bslice 3 1 [(.int .i64 0)] 1 [(0, 1, (.v (.int .i64 (-1))))], none, []⟩, ⟨(some 16), .build [(.slice none 0 0), (.slice none 0 0)] [(0, 1, (.t 14)), (1, 1, (.t 15))], none, [3, 4]⟩, ⟨(some 17), .build [(.slice none 0 0), (.slice none 0 0), (.slice none 0 0)] [(0, 1, (.t 12)), (1, 2, (.t 16))], none, [1, 5]⟩, ⟨(some 3), .new [(.slice none 0 0), (.slice none 0 0), (.slice none 0 0)], none, []⟩, ⟨none, .store 3 (.t 3) (.t 17), none, [7, 6, 0, 1, 2, 3, 4, 5, 6, 7]⟩]) (.seq (.reg false [⟨(some 19), .load (some 3) (.t 3), none, []⟩, ⟨(some 20), .call 12 [(.t 19)], none, [0]⟩, ⟨(some 18), .mv (.t 20), none, [1]⟩, ⟨(some 21), .ext (.t 18) 0, none, [2]⟩, ⟨(some 22), .ext (.t 18) 1, none, [2]⟩, ⟨(some 4), .mv (.t 21), none, [3, 1, 0, 1, 2, 3]⟩, ⟨(some 5), .mv (.t 22), none, [4, 5, 0, 1, 2, 3, 4, 5]⟩]) (.seq (.reg false [⟨(some 23), .mv (.t 2), none, []⟩, ⟨(some 24), .bin .eql (.t 23) (.v (.int .i64 0)), none, [0]⟩, ⟨(some 25), .mv (.t 24), none, [1]⟩, ⟨(some 26), .mv (.t 1), (some (25, true)), [2]⟩, ⟨(some 27), .len (.t 26), (some (25, true)), [3, 2]⟩, ⟨(some 28), .bin .eql (.t 27) (.v (.int .i64 16)), (some (25, true)), [4, 2]⟩, ⟨(some 29), .pick (.t 25) (.t 28) (.v (.bool false)), none, [2, 5]⟩, ⟨(some 30), .mv (.t 29), none, [6, 2]⟩, ⟨(some 31), .mv (.t 1), (some (30, true)), [7]⟩, ⟨(some 32), .slc 1 (.t 31) none (some (.v (.int .i64 12))), (some (30, true)), [8, 7]⟩, ⟨(some 33), .bstr (.t 32), (some (30, true)), [9, 7]⟩, ⟨(some 34), .bin .eql (.t 33) (.v (.string ⟨#[73, 84, 82, 65, 67, 69, 49, 10, 69, 2, 0, 0]⟩)), (some (30, true)), [10, 7]⟩, ⟨(some 35), .pick (.t 30) (.t 34) (.v (.bool false)), none, [7, 11]⟩, ⟨(some 36), .mv (.t 35), none, [12, 7]⟩, ⟨(some 37), .mv (.t 5), (some (36, true)), [13]⟩, ⟨(some 38), .bin .eql (.t 37) (.v (.int .i64 0)), (some (36, true)), [14, 13]⟩, ⟨(some 39), .pick (.t 36) (.t 38) (.v (.bool false)), none, [13, 15]⟩, ⟨(some 40), .mv (.t 39), none, [16, 13]⟩, ⟨(some 41), .mv (.t 4), (some (40, true)), [17]⟩, ⟨(some 42), .len (.t 41), (some (40, true)), [18, 17]⟩, ⟨(some 43), .bin .gtr (.t 42) (.v (.int .i64 24)), (some (40, true)), [19, 17]⟩, ⟨(some 44), .pick (.t 40) (.t 43) (.v (.bool false)), none, [17, 20]⟩, ⟨(some 45), .mv (.t 44), none, [21, 17]⟩, ⟨(some 46), .mv (.t 4), (some (45, true)), [22]⟩, ⟨(some 47), .slc 1 (.t 46) (some (.v (.int .i64 8))) (some (.v (.int .i64 24))), (some (45, true)), [23, 22]⟩, ⟨(some 48), .bstr (.t 47), (some (45, true)), [24, 22]⟩, ⟨(some 49), .bin .eql (.t 48) (.v (.string ⟨#[66, 14, 1, 0, 0, 0, 1, 0, 2, 0, 0, 0, 0, 0, 0, 0]⟩)), (some (45, true)), [25, 22]⟩, ⟨(some 50), .pick (.t 45) (.t 49) (.v (.bool false)), none, [22, 26]⟩, ⟨(some 0), .mv (.t 50), none, [27, 22, 0, 1, 2, 3, 4, 5, 6, 7, 8, 9, 10, 11, 12, 13, 14, 15, 16, 17, 18, 19, 20, 21, 22, 23, 24, 25, 26, 27]⟩]) (.ret)))))
def pr10 : List PR := [.t 0]
theorem bd10:Try.f10.body=some (Try.f10.body.getD .skip):=by kernel_rfl
theorem cp10:bW Try.prog Try.f10.ntmps fH (Try.f10.body.getD .skip)=some pc10:=by kernel_rfl
theorem sp10 [bN] {env:Env} (hE:ay Try.prog env) {R:List Pa→List Pa→Prop} (hR:∀ ps rs,R ps rs→ps.length≤51∧pwp env pc10 (fun e s=>(e=.normal∨e=.ret)∧s.res pr10=some rs) (St.init ps)):Spec Try.prog 10 R :=
 bQ hE cK bA Try.func10 bd10 cp10 (by kernel_rfl) (by kernel_rfl) (by kernel_rfl) hR
def pc11 : PC := .seq (.reg false [⟨(some 1), .box (.t 0), none, []⟩, ⟨(some 2), .mv (.v (.bool false)), none, []⟩]) (.seq (.reg false [⟨(some 3), .fld 0 (.t 1), none, []⟩, ⟨(some 4), .load none (.t 3), none, [0]⟩, ⟨(some 5), .len (.t 4), none, [1]⟩, ⟨(some 6), .bin .gtr (.t 5) (.v (.int .i64 80)), none, [2]⟩, ⟨(some 7), .mv (.t 6), none, [3]⟩, ⟨(some 8), .fld 1 (.t 1), (some (7, false)), [4]⟩, ⟨(some 9), .fld 0 (.t 8), (some (7, false)), [5, 4]⟩, ⟨(some 10), .load none (.t 9), (some (7, false)), [6, 4]⟩, ⟨(some 11), .len (.t 10), (some (7, false)), [7, 4]⟩, ⟨(some 12), .bin .gtr (.t 11) (.v (.int .i64 60)), (some (7, false)), [8, 4]⟩, ⟨(some 13), .pick (.t 7) (.v (.bool true)) (.t 12), none, [4, 9]⟩, ⟨(some 14), .mv (.t 13), none, [10, 4]⟩, ⟨(some 15), .fld 1 (.t 1), (some (14, false)), [11]⟩, ⟨(some 16), .fld 1 (.t 15), (some (14, false)), [12, 11]⟩, ⟨(some 17), .load none (.t 16), (some (14, false)), [13, 11]⟩, ⟨(some 18), .len (.t 17), (some (14, false)), [14, 11]⟩, ⟨(some 19), .bin .gtr (.t 18) (.v (.int .i64 60)), (some (14, false)), [15, 11]⟩, ⟨(some 20), .pick (.t 14) (.v (.bool true)) (.t 19), none, [11, 16]⟩, ⟨(some 2), .mv (.t 20), none, [17, 11, 0, 1, 2, 3, 4, 5, 6, 7, 8, 9, 10, 11, 12, 13, 14, 15, 16, 17]⟩]) (.ret))
def pr11 : List PR := [.t 2]
theorem bd11:Try.f11.body=some (Try.f11.body.getD .skip):=by kernel_rfl
theorem cp11:bW Try.prog Try.f11.ntmps fH (Try.f11.body.getD .skip)=some pc11:=by kernel_rfl
theorem sp11 [bN] {env:Env} (hE:ay Try.prog env) {R:List Pa→List Pa→Prop} (hR:∀ ps rs,R ps rs→ps.length≤21∧pwp env pc11 (fun e s=>(e=.normal∨e=.ret)∧s.res pr11=some rs) (St.init ps)):Spec Try.prog 11 R :=
 bQ hE cK bA Try.func11 bd11 cp11 (by kernel_rfl) (by kernel_rfl) (by kernel_rfl) hR
def pc55 : PC := .seq (.reg false [⟨(some 1), .box (.t 0), none, []⟩, ⟨(some 2), .mv (.v (.bool false)), none, []⟩]) (.seq (.reg false [⟨(some 3), .fld 0 (.t 1), none, []⟩, ⟨(some 4), .load none (.t 3), none, [0]⟩, ⟨(some 5), .bin .geq (.t 4) (.v (.int .i64 0)), none, [1]⟩, ⟨(some 6), .mv (.t 5), none, [2]⟩, ⟨(some 7), .fld 1 (.t 1), (some (6, true)), [3]⟩, ⟨(some 8), .load none (.t 7), (some (6, true)), [4, 3]⟩, ⟨(some 9), .bin .geq (.t 8) (.v (.int .i64 0)), (some (6, true)), [5, 3]⟩, ⟨(some 10), .pick (.t 6) (.t 9) (.v (.bool false)), none, [3, 6]⟩, ⟨(some 2), .mv (.t 10), none, [7, 3, 0, 1, 2, 3, 4, 5, 6, 7]⟩]) (.ret))
def pr55 : List PR := [.t 2]
theorem bd55:Try.f55.body=some (Try.f55.body.getD .skip):=by kernel_rfl
theorem cp55:bW Try.prog Try.f55.ntmps fH (Try.f55.body.getD .skip)=some pc55:=by kernel_rfl
theorem sp55 [bN] {env:Env} (hE:ay Try.prog env) {R:List Pa→List Pa→Prop} (hR:∀ ps rs,R ps rs→ps.length≤11∧pwp env pc55 (fun e s=>(e=.normal∨e=.ret)∧s.res pr55=some rs) (St.init ps)):Spec Try.prog 55 R :=
 bQ hE cK bA Try.func55 bd55 cp55 (by kernel_rfl) (by kernel_rfl) (by kernel_rfl) hR
def pc23 : PC := .seq (.reg false [⟨(some 1), .box (.t 0), none, []⟩, ⟨(some 2), .mv (.v (.bool false)), none, []⟩]) (.seq (.reg false [⟨(some 3), .fld 0 (.t 1), none, []⟩, ⟨(some 4), .load none (.t 3), none, [0]⟩, ⟨(some 5), .bin .leq (.t 4) (.v (.int .i64 2147483647)), none, [1]⟩, ⟨(some 6), .mv (.t 5), none, [2]⟩, ⟨(some 7), .fld 1 (.t 1), (some (6, true)), [3]⟩, ⟨(some 8), .load none (.t 7), (some (6, true)), [4, 3]⟩, ⟨(some 9), .bin .leq (.t 8) (.v (.int .i64 2147483647)), (some (6, true)), [5, 3]⟩, ⟨(some 10), .pick (.t 6) (.t 9) (.v (.bool false)), none, [3, 6]⟩, ⟨(some 2), .mv (.t 10), none, [7, 3, 0, 1, 2, 3, 4, 5, 6, 7]⟩]) (.ret))
def pr23 : List PR := [.t 2]
theorem bd23:Try.f23.body=some (Try.f23.body.getD .skip):=by kernel_rfl
theorem cp23:bW Try.prog Try.f23.ntmps fH (Try.f23.body.getD .skip)=some pc23:=by kernel_rfl
theorem sp23 [bN] {env:Env} (hE:ay Try.prog env) {R:List Pa→List Pa→Prop} (hR:∀ ps rs,R ps rs→ps.length≤11∧pwp env pc23 (fun e s=>(e=.normal∨e=.ret)∧s.res pr23=some rs) (St.init ps)):Spec Try.prog 23 R :=
 bQ hE cK bA Try.func23 bd23 cp23 (by kernel_rfl) (by kernel_rfl) (by kernel_rfl) hR
def pc27 : PC := .seq (.reg false [⟨(some 4), .mv (.v (.int .i64 0)), none, []⟩]) (.seq (.seq (.reg false [⟨(some 7), .mv (.t 1), none, []⟩, ⟨(some 8), .len (.t 7), none, [0]⟩, ⟨(some 9), .mv (.v (.int .i64 0)), none, []⟩]) (.block 0 (.loop (.seq (.reg false [⟨(some 10), .bin .lss (.t 9) (.t 8), none, []⟩]) (.seq (.cond (.t 10) (.skip) (.exit 0)) (.seq (.block 1 (.seq (.reg false [⟨(some 11), .ixs 9 (.t 7) (.t 9), none, []⟩, ⟨(some 12), .load (some 9) (.t 11), none, [0]⟩, ⟨(some 6), .new [(.int .i64 0), (.int .i64 0), (.int .i64 0), (.int .i64 0), (.int .i64 0), (.int .i64 0), (.int .i64 0), (.int .i64 0), (.int .i64 0)], none, []⟩, ⟨none, .store 9 (.t 6) (.t 12), none, [2, 1, 0, 1, 2]⟩]) (.reg false [⟨(some 13), .mv (.t 0), none, []⟩, ⟨(some 14), .fld 8 (.t 6), none, []⟩, ⟨(some 15), .load none (.t 14), none, [1]⟩, ⟨(some 16), .bin .add (.t 15) (.v (.int .i64 1)), none, [2]⟩, ⟨(some 17), .mm true [(.t 13), (.t 16)], none, [0, 3]⟩, ⟨(some 0), .mv (.t 17), none, [4, 0, 1, 2, 3, 4]⟩]))) (.reg false [⟨(some 18), .bin .add (.t 9) (.v (.int .i64 1)), none, []⟩, ⟨(some 9), .mv (.t 18), none, [0]⟩]))))))) (.seq (.reg false [⟨(some 19), .mv (.t 0), none, []⟩, ⟨(some 4), .mv (.t 19), none, [0, 0]⟩]) (.ret)))
def pr27 : List PR := [.t 4]
abbrev ms27_0 : List Nat := [10, 11, 12, 6, 13, 14, 15, 16, 17, 0, 18, 9]
abbrev os27_0 : List Nat := [6]
theorem bd27:Try.f27.body=some (Try.f27.body.getD .skip):=by kernel_rfl
theorem cp27:bW Try.prog Try.f27.ntmps fH (Try.f27.body.getD .skip)=some pc27:=by kernel_rfl
theorem sp27 [bN] {env:Env} (hE:ay Try.prog env) {R:List Pa→List Pa→Prop} (hR:∀ ps rs,R ps rs→ps.length≤20∧pwp env pc27 (fun e s=>(e=.normal∨e=.ret)∧s.res pr27=some rs) (St.init ps)):Spec Try.prog 27 R :=
 bQ hE cK bA Try.func27 bd27 cp27 (by kernel_rfl) (by kernel_rfl) (by kernel_rfl) hR
def pc56 : PC := .seq (.reg false [⟨(some 2), .mv (.v (.int .u32 0)), none, []⟩]) (.seq (.reg false [⟨(some 3), .mv (.v (.int .u32 4294967295)), none, []⟩]) (.seq (.seq (.reg false [⟨(some 7), .mv (.t 0), none, []⟩, ⟨(some 8), .len (.t 7), none, [0]⟩, ⟨(some 9), .mv (.v (.int .i64 0)), none, []⟩]) (.block 0 (.loop (.seq (.reg false [⟨(some 10), .bin .lss (.t 9) (.t 8), none, []⟩]) (.seq (.cond (.t 10) (.skip) (.exit 0)) (.seq (.block 1 (.seq (.reg false [⟨(some 11), .ixs 1 (.t 7) (.t 9), none, []⟩, ⟨(some 12), .load none (.t 11), none, [0]⟩, ⟨(some 5), .mv (.t 12), none, [1, 0, 1]⟩]) (.seq (.reg false [⟨(some 13), .mv (.t 3), none, []⟩, ⟨(some 14), .mv (.t 5), none, []⟩, ⟨(some 15), .conv .u32 (.t 14), none, [1]⟩, ⟨(some 16), .bin .xor (.t 13) (.t 15), none, [0, 2]⟩, ⟨(some 3), .mv (.t 16), none, [3, 0, 1, 2, 3]⟩]) (.seq (.reg false [⟨(some 17), .mv (.v (.int .i64 0)), none, []⟩]) (.block 2 (.loop (.seq (.reg false [⟨(some 18), .bin .lss (.t 17) (.v (.int .i64 8)), none, []⟩]) (.seq (.cond (.t 18) (.skip) (.exit 2)) (.seq (.block 3 (.seq (.reg false [⟨(some 19), .mv (.t 3), none, []⟩, ⟨(some 20), .bin .and (.t 19) (.v (.int .u32 1)), none, [0]⟩, ⟨(some 6), .mv (.t 20), none, [1, 0, 1]⟩]) (.seq (.reg false [⟨(some 21), .mv (.t 3), none, []⟩, ⟨(some 22), .bin .shr (.t 21) (.v (.int .u64 1)), none, [0]⟩, ⟨(some 3), .mv (.t 22), none, [1, 0, 1]⟩]) (.seq (.reg false [⟨(some 23), .mv (.t 6), none, []⟩, ⟨(some 24), .bin .eql (.t 23) (.v (.int .u32 1)), none, [0]⟩]) (.cond (.t 24) (.reg false [⟨(some 25), .mv (.t 3), none, []⟩, ⟨(some 26), .bin .xor (.t 25) (.v (.int .u32 3988292384)), none, [0]⟩, ⟨(some 3), .mv (.t 26), none, [1, 0, 1]⟩]) (.skip)))))) (.reg false [⟨(some 27), .bin .add (.t 17) (.v (.int .i64 1)), none, []⟩, ⟨(some 17), .mv (.t 27), none, [0]⟩])))))))))) (.reg false [⟨(some 28), .bin .add (.t 9) (.v (.int .i64 1)), none, []⟩, ⟨(some 9), .mv (.t 28), none, [0]⟩]))))))) (.seq (.reg false [⟨(some 29), .mv (.t 3), none, []⟩, ⟨(some 30), .un .xor (.t 29), none, [0]⟩, ⟨(some 2), .mv (.t 30), none, [1, 0, 1]⟩]) (.ret))))
def pr56 : List PR := [.t 2]
abbrev ms56_0 : List Nat := [10, 11, 12, 5, 13, 14, 15, 16, 3, 17, 18, 19, 20, 6, 21, 22, 23, 24, 25, 26, 27, 28, 9]
abbrev os56_0 : List Nat := []
abbrev ms56_1 : List Nat := [18, 19, 20, 6, 21, 22, 3, 23, 24, 25, 26, 27, 17]
abbrev os56_1 : List Nat := []
theorem bd56:Try.f56.body=some (Try.f56.body.getD .skip):=by kernel_rfl
theorem cp56:bW Try.prog Try.f56.ntmps fH (Try.f56.body.getD .skip)=some pc56:=by kernel_rfl
theorem sp56 [bN] {env:Env} (hE:ay Try.prog env) {R:List Pa→List Pa→Prop} (hR:∀ ps rs,R ps rs→ps.length≤31∧pwp env pc56 (fun e s=>(e=.normal∨e=.ret)∧s.res pr56=some rs) (St.init ps)):Spec Try.prog 56 R :=
 bQ hE cK bA Try.func56 bd56 cp56 (by kernel_rfl) (by kernel_rfl) (by kernel_rfl) hR
end Go.Proofs.Ytkafcpnahpfbfaa
end
section
namespace Go.Proofs.Ytkafcpnahpfbfaa
open Go Go.RowKit
set_option maxRecDepth 100000
set_option maxHeartbeats 4000000
theorem fT {ms os ms' os':List Nat} {s0 b j:St} (h:Within ms os s0 b) (hm:ms'.all (fun x=>ms.contains x)=true) (ho:os'.all (fun x=>os.contains x)=true):Within ms os s0 (over ms' os' b j):=by
 have sub:∀ {l l':List Nat},l'.all (fun x=>l.contains x)=true→∀ x,l.contains x=false→l'.contains x=false:=fun {l l'} hl x hx=>by
  cases h2:l'.contains x with
  | false=>rfl
  | true =>
    have:=List.all_eq_true.1 hl x (by simpa using h2);rw [hx] at this;cases this
 have k:Within ms' os' b (over ms' os' b j):=aP.mpr trivial;exact ⟨fun x hx=>(k.1 x (sub hm x hx)).trans (h.1 x hx),fun o ho2=>⟨(k.2 o (sub ho o ho2)).1.trans (h.2 o ho2).1,(k.2 o (sub ho o ho2)).2.trans (h.2 o ho2).2⟩⟩
def byR (l:List Nat):List (List Dt):=l.map fun (x:Nat)=>[.sc (.int .u8 (x:Int))]
def dM (l:List Nat):Pa:=.one (.im (byR l))
theorem aY (l:List Nat):(byR l).length=l.length:=List.length_map ..
theorem fA (l l':List Nat):byR l ++ byR l'=byR (l ++ l'):=(List.map_append ..).symm
theorem eB (l:List Nat):(∀ r,r ∈ byR l→r.length=1)=True:=by
 apply propext
 refine ⟨fun _=>trivial,fun _ r hr=>?_⟩;obtain ⟨x,_,rfl⟩:=List.mem_map.1 hr;rfl
theorem Ad {l:List Nat} {i:Nat} {x:Nat} (h:l[i]? = some x):(byR l)[i]? = some [.sc (.int .u8 (x:Int))]:=by
 unfold byR;rw [List.getElem?_map,h];rfl
theorem w8 {x:Nat} (h:x≤255):IntKind.u8.wrap (x:Int)=(x:Int):=IntWalk.u8_in _ ⟨by omega,by omega⟩
theorem w32 {x:Nat} (h:x≤4294967295):IntKind.u32.wrap (x:Int)=(x:Int):=IntWalk.u32_in _ ⟨by omega,by omega⟩
def mF:Nat→Nat→List Nat
 | 0,n=>[n]
 | f+1,n=>if 128≤n then (n % 128+128) :: mF f (n / 128) else [n]
def aS (n:Nat):List Nat:=mF 8 n
theorem wV:∀ f n,(mF f n).length≤f+1
 | 0,_=>Nat.le_refl _
 | f+1,n=>by
   unfold mF;split
   ·have:=wV f (n / 128);rw [List.length_cons];omega
   ·simp
theorem bD (n:Nat):(aS n).length≤9:=wV 8 n
theorem sJ:∀ f n,n < 128 * 128 ^ f→∀ x ∈ mF f n,x≤255
 | 0,n,h,x,hx=>by
   unfold mF at hx;rw [List.mem_singleton.1 hx];omega
 | f+1,n,h,x,hx=>by
   unfold mF at hx;split at hx
   ·rcases List.mem_cons.1 hx with q | q
    ·omega
    ·exact sJ f (n / 128) (by rw [Nat.pow_succ] at h;omega) x q
   ·rw [List.mem_singleton.1 hx];omega
def nO (ps rs:List Pa):Prop:=∃ n:Nat,ps=[pI n]∧n≤9223372036854775807∧rs=[dM (aS n)]
theorem wX {n:Nat} (hn:n≤9223372036854775807) {Q:Exit→St→Prop} (hQ:∀ st:St,st.sl 2=.b (.one (.own 3 1 (byR (aS n))))→st.gen 3=1→st.ob 3=.row 5 1 (aS n).length→Q .ret st):pwp e0 pc37 Q (St.init [pI n]):=by
 unfold pc37
 with_reducible refine aH ?_
 simp only [↓evP,evB,stB,reduceIte,reduceCtorEq,Nat.reduceEqDiff,Nat.reduceAdd,Nat.reduceMul,Nat.reduceLeDiff,Nat.reduceLT,Nat.reduceSub,Nat.reduceBEq,pI];refine bH ms37_0 os37_0 (fun f st=>∃ (m:Nat) (acc:List Nat),m≤n∧m < 128 * 128 ^ f∧acc.length+f=8∧aS n=acc ++ mF f m∧st.sl 0=aI m∧st.sl 3=.b (.one (.own 3 1 (byR acc)))∧st.gen 3=1∧st.ob 3=.row 5 1 acc.length) 8 ?_ ?_
 ·exact ⟨n,[],Nat.le_refl _,by omega,rfl,rfl,by simp only [stB,reduceIte,reduceCtorEq,Nat.reduceEqDiff,Nat.reduceAdd,Nat.reduceMul,Nat.reduceLeDiff,Nat.reduceLT,Nat.reduceSub,Nat.reduceBEq];first | done | rfl,by simp only [stB,reduceIte,reduceCtorEq,Nat.reduceEqDiff,Nat.reduceAdd,Nat.reduceMul,Nat.reduceLeDiff,Nat.reduceLT,Nat.reduceSub,Nat.reduceBEq];first | done | rfl,by simp only [stB,reduceIte,reduceCtorEq,Nat.reduceEqDiff,Nat.reduceAdd,Nat.reduceMul,Nat.reduceLeDiff,Nat.reduceLT,Nat.reduceSub,Nat.reduceBEq],by simp only [stB,reduceIte,reduceCtorEq,Nat.reduceEqDiff,Nat.reduceAdd,Nat.reduceMul,Nat.reduceLeDiff,Nat.reduceLT,Nat.reduceSub,Nat.reduceBEq];first | done | rfl⟩
 rintro f j ⟨m,acc,hmn,hmf,hal,hnum,h0,h3,g3,o3⟩;simp only [stB,reduceIte,reduceCtorEq,Nat.reduceEqDiff,Nat.reduceAdd,Nat.reduceMul,Nat.reduceLeDiff,Nat.reduceLT,Nat.reduceSub,Nat.reduceBEq] at h0 h3 g3 o3
 by_cases hm:128≤m
 ·cases f with
  | zero=>omega
  | succ f =>
    unfold mF at hnum;rw [if_pos hm] at hnum;have hge:(m:Int)≥128:=by omega
    have i0:((128:Int)=0)=False:=by simp
    have h1:(m:Int).tmod 128=((m % 128:Nat):Int):=by rw [Int.tmod_eq_emod_of_nonneg (by omega)];omega
    have h2:(m:Int).tdiv 128=((m / 128:Nat):Int):=by rw [Int.tdiv_eq_ediv_of_nonneg (by omega)];omega
    have h4:IntKind.i64.wrap (((m % 128:Nat):Int)+128)=((m % 128+128:Nat):Int):=by rw [fE (by omega) (by omega)];omega
    have h5:IntKind.u8.wrap ((m % 128+128:Nat):Int)=((m % 128+128:Nat):Int):=w8 (by omega);have h6:IntKind.i64.wrap ((m / 128:Nat):Int)=((m / 128:Nat):Int):=fE (by omega) (by omega);have hb:byR (acc ++ [m % 128+128])=byR acc ++ [[.sc (.int .u8 ((m % 128+128:Nat):Int))]]:=(fA _ _).symm;have hl:=aY acc;have hl2:acc.length≤999999:=by omega
    simp only [↓evP,evB,stB,reduceIte,reduceCtorEq,Nat.reduceEqDiff,Nat.reduceAdd,Nat.reduceMul,Nat.reduceLeDiff,Nat.reduceLT,Nat.reduceSub,Nat.reduceBEq,h0,h3,g3,o3,hge,i0,ne_eq,h1,h2,h4,h5,h6,hl,hl2,decide_true]
    exact ⟨f,by omega,(by repeat' (first | assumption | exact aP.mpr trivial | exact Within.refl _ _ _ | (refine aT ?_ rfl rfl) | (refine aO ?_ rfl))),m / 128,acc ++ [m % 128+128],by omega,by rw [Nat.pow_succ] at hmf;omega,by rw [List.length_append];show acc.length+1+f=8;omega,by rw [hnum,List.append_assoc];rfl,by simp only [stB,reduceIte,reduceCtorEq,Nat.reduceEqDiff,Nat.reduceAdd,Nat.reduceMul,Nat.reduceLeDiff,Nat.reduceLT,Nat.reduceSub,Nat.reduceBEq],by simp only [stB,reduceIte,reduceCtorEq,Nat.reduceEqDiff,Nat.reduceAdd,Nat.reduceMul,Nat.reduceLeDiff,Nat.reduceLT,Nat.reduceSub,Nat.reduceBEq];rw [hb],by simp only [stB,reduceIte,reduceCtorEq,Nat.reduceEqDiff,Nat.reduceAdd,Nat.reduceMul,Nat.reduceLeDiff,Nat.reduceLT,Nat.reduceSub,Nat.reduceBEq,g3],by simp only [stB,reduceIte,reduceCtorEq,Nat.reduceEqDiff,Nat.reduceAdd,Nat.reduceMul,Nat.reduceLeDiff,Nat.reduceLT,Nat.reduceSub,Nat.reduceBEq,o3,jD];rw [List.length_append];first | done | rfl⟩
 ·have hge:¬ (m:Int)≥128:=by omega
  have hf:mF f m=[m]:=by cases f <;> simp [mF,hm]
  have h5:IntKind.u8.wrap (m:Int)=(m:Int):=w8 (by omega);have hb:byR (acc ++ [m])=byR acc ++ [[.sc (.int .u8 (m:Int))]]:=(fA _ _).symm;have hl:=aY acc;have hl2:acc.length≤999999:=by omega
  rw [hf] at hnum;simp only [↓evP,evB,stB,reduceIte,reduceCtorEq,Nat.reduceEqDiff,Nat.reduceAdd,Nat.reduceMul,Nat.reduceLeDiff,Nat.reduceLT,Nat.reduceSub,Nat.reduceBEq,h0,h3,g3,o3,hge,h5,hl,hl2,decide_false];refine hQ _ ?_ ?_ ?_
  ·simp only [stB,reduceIte,reduceCtorEq,Nat.reduceEqDiff,Nat.reduceAdd,Nat.reduceMul,Nat.reduceLeDiff,Nat.reduceLT,Nat.reduceSub,Nat.reduceBEq];rw [hnum,hb]
  ·simp only [stB,reduceIte,reduceCtorEq,Nat.reduceEqDiff,Nat.reduceAdd,Nat.reduceMul,Nat.reduceLeDiff,Nat.reduceLT,Nat.reduceSub,Nat.reduceBEq,g3]
  ·simp only [stB,reduceIte,reduceCtorEq,Nat.reduceEqDiff,Nat.reduceAdd,Nat.reduceMul,Nat.reduceLeDiff,Nat.reduceLT,Nat.reduceSub,Nat.reduceBEq,o3,jD];rw [hnum,List.length_append];first | done | rfl
theorem qH:Spec Try.prog 37 nO:=by
 refine sp37 ay.e0 ?_;rintro ps rs ⟨n,rfl,hn,rfl⟩;refine ⟨by simp,wX hn fun st h1 h2 h3=>⟨.inr rfl,?_⟩⟩;simp only [pr37,St.res,List.map_cons,List.map_nil,St.res1,h1];rfl
def FZ (ps:List Pa) (E sz:Nat) (rows:List (List Dt)):Prop:=∃ n:Nat,ps=[pI n]∧n≤9223372036854775807∧(E=5∧sz=1∧rows=byR (aS n))
theorem Kz:uw Try.prog 37 FZ:=by
 refine lY ay.e0 cK bA Try.func37 bd37 cp37 (by kernel_rfl) (by kernel_rfl) (t:=2) (by kernel_rfl) ?_;rintro ps E sz rows ⟨n,rfl,hn,rfl,rfl,rfl⟩;refine ⟨by simp [Try.ntmps37],wX hn fun st h1 h2 h3=>⟨.inr rfl,?_⟩⟩;unfold St.Ij;simp only [h1,h2,h3,aY,if_true]
def lV (d:Int):Nat:=if d < 0 then (-2 * d - 1).toNat else (2 * d).toNat
def dG (d:Int):List Nat:=aS (lV d)
def vW (ps rs:List Pa):Prop:=∃ d:Int,ps=[pI d]∧(-1000000000000≤d∧d≤1000000000000)∧rs=[dM (dG d)]
theorem FE:Spec Try.prog 39 vW:=by
 refine sp39 (show ay Try.prog (e1 37 nO e0) from ay.e1 qH ay.e0) ?_;rintro ps rs ⟨d,rfl,⟨h1,h2⟩,rfl⟩;refine ⟨by simp,?_⟩;unfold pc39
 with_reducible refine aH ?_
 simp only [↓evP,evB,stB,reduceIte,reduceCtorEq,Nat.reduceEqDiff,Nat.reduceAdd,Nat.reduceMul,Nat.reduceLeDiff,Nat.reduceLT,Nat.reduceSub,Nat.reduceBEq,pI];unfold dG lV
 by_cases hd:d < 0
 ·have w1:IntKind.i64.wrap (-2 * d)=-2 * d:=fE (by omega) (by omega);have w2:IntKind.i64.wrap (-2 * d - 1)=((-2 * d - 1).toNat:Int):=by rw [fE (by omega) (by omega)];omega
  rw [if_pos hd];simp only [↓evP,evB,stB,reduceIte,reduceCtorEq,Nat.reduceEqDiff,Nat.reduceAdd,Nat.reduceMul,Nat.reduceLeDiff,Nat.reduceLT,Nat.reduceSub,Nat.reduceBEq,hd,w1,w2,decide_true];refine aC [dM (aS (-2 * d - 1).toNat)] ⟨_,rfl,by omega,rfl⟩ ?_;simp only [↓evP,evB,stB,reduceIte,reduceCtorEq,Nat.reduceEqDiff,Nat.reduceAdd,Nat.reduceMul,Nat.reduceLeDiff,Nat.reduceLT,Nat.reduceSub,Nat.reduceBEq,dM,pr39]
 ·have w1:IntKind.i64.wrap (2 * d)=((2 * d).toNat:Int):=by rw [fE (by omega) (by omega)];omega
  rw [if_neg hd];simp only [↓evP,evB,stB,reduceIte,reduceCtorEq,Nat.reduceEqDiff,Nat.reduceAdd,Nat.reduceMul,Nat.reduceLeDiff,Nat.reduceLT,Nat.reduceSub,Nat.reduceBEq,hd,w1,decide_false];refine aC [dM (aS (2 * d).toNat)] ⟨_,rfl,by omega,rfl⟩ ?_;simp only [↓evP,evB,stB,reduceIte,reduceCtorEq,Nat.reduceEqDiff,Nat.reduceAdd,Nat.reduceMul,Nat.reduceLeDiff,Nat.reduceLT,Nat.reduceSub,Nat.reduceBEq,dM,pr39]
def xZ (c:Nat):Nat:=if c % 2=1 then (c / 2) ^^^ 3988292384 else c / 2
def mD (c:Nat):Nat→Nat
 | 0=>c
 | k+1=>xZ (mD c k)
def jS (c:Nat):List Nat→Nat
 | []=>c
 | x :: l=>jS (mD (c ^^^ x) 8) l
def crc (l:List Nat):Nat:=jS 4294967295 l ^^^ 4294967295
theorem qL (c:Nat) (l l':List Nat):jS c (l ++ l')=jS (jS c l) l':=by
 induction l generalizing c with
 | nil=>rfl
 | cons x l ih=>exact ih _
theorem GR {c:Nat} (h:c≤4294967295):xZ c≤4294967295:=by
 unfold xZ;split
 ·have:=Nat.xor_lt_two_pow (x:=c / 2) (y:=3988292384) (n:=32) (by omega) (by decide);omega
 ·omega
theorem nP {c:Nat} (h:c≤4294967295):∀ k,mD c k≤4294967295
 | 0=>h
 | k+1=>GR (nP h k)
theorem ru {c x:Nat} (h:c≤4294967295) (h2:x≤4294967295):c ^^^ x≤4294967295:=by
 have:=Nat.xor_lt_two_pow (x:=c) (y:=x) (n:=32) (by omega) (by omega);omega
theorem uf {c:Nat} (h:c≤4294967295) {l:List Nat} (hl:∀ x ∈ l,x≤255):jS c l≤4294967295:=by
 induction l generalizing c with
 | nil=>exact h
 | cons x l ih=>exact ih (nP (ru h (by have:=hl x (List.mem_cons_self ..);omega)) 8) fun y hy=>hl y (List.mem_cons_of_mem _ hy)
theorem x32 {m n:Nat} (hm:m≤4294967295) (hn:n≤4294967295):IntKind.u32.wrap ((BitVec.ofInt IntKind.u32.bits (m:Int) ^^^ BitVec.ofInt IntKind.u32.bits (n:Int)).toNat:Int)=((m ^^^ n:Nat):Int):=by
 have e:(BitVec.ofInt IntKind.u32.bits (m:Int) ^^^ BitVec.ofInt IntKind.u32.bits (n:Int)).toNat=m ^^^ n:=by
  rw [BitVec.toNat_xor,BitVec.toNat_ofInt,BitVec.toNat_ofInt];have hb:(2:Int) ^ IntKind.u32.bits=4294967296:=by decide
  congr 1
  ·show ((m:Int) % ((2 ^ IntKind.u32.bits:Nat):Int)).toNat=m
   rw [show ((2 ^ IntKind.u32.bits:Nat):Int)=4294967296 from by decide];omega
  ·show ((n:Int) % ((2 ^ IntKind.u32.bits:Nat):Int)).toNat=n
   rw [show ((2 ^ IntKind.u32.bits:Nat):Int)=4294967296 from by decide];omega
 rw [e];exact w32 (ru hm hn)
abbrev aU (n:Nat):Av:=.b (.one (.d (.sc (.int .u32 (n:Int)))))
def zV (ps rs:List Pa):Prop:=∃ l:List Nat,ps=[dM l]∧(l.length≤1000000∧∀ x ∈ l,x≤255)∧rs=[.one (.sc (.int .u32 (crc l:Int)))]
theorem Iq:Spec Try.prog 52 zV:=by
 refine sp52 ay.e0 ?_;rintro ps rs ⟨l,rfl,⟨hl,hb⟩,rfl⟩;refine ⟨by simp,?_⟩;unfold pc52
 with_reducible refine aH ?_
 have hbl:=aY l;simp only [↓evP,evB,stB,reduceIte,reduceCtorEq,Nat.reduceEqDiff,Nat.reduceAdd,Nat.reduceMul,Nat.reduceLeDiff,Nat.reduceLT,Nat.reduceSub,Nat.reduceBEq,dM];refine dX [0,3,4] [] (fun S hs ho=>?_);simp only [stB,reduceIte,reduceCtorEq,Nat.reduceEqDiff,Nat.reduceAdd,Nat.reduceMul,Nat.reduceLeDiff,Nat.reduceLT,Nat.reduceSub,Nat.reduceBEq] at hs;obtain ⟨q0,q3,q4⟩:=hs;refine bH ms52_0 os52_0 (fun m st=>∃ k:Nat,m=l.length - k∧k≤l.length∧st.sl 4=aI k∧st.sl 3=aU (jS 4294967295 (l.take k))) l.length ?_ ?_
 ·exact ⟨0,rfl,Nat.zero_le _,q4,q3⟩
 rintro m z ⟨k,rfl,hk,h4,h3⟩;simp only [stB,reduceIte,reduceCtorEq,Nat.reduceEqDiff,Nat.reduceAdd,Nat.reduceMul,Nat.reduceLeDiff,Nat.reduceLT,Nat.reduceSub,Nat.reduceBEq] at h4 h3;have hc0:jS 4294967295 (l.take k)≤4294967295:=uf (by decide) fun x hx=>hb x (List.mem_of_mem_take hx)
 rcases Nat.lt_or_ge k l.length with hlt | hge
 ·obtain ⟨x,hx⟩:∃ x,l[k]? = some x:=⟨_,List.getElem?_eq_getElem hlt⟩
  have hx8:=hb x (List.mem_of_getElem? hx);have hgx:=Ad hx;have klt:(k:Int) < (l.length:Int):=by omega
  have k0:(0:Int)≤(k:Int):=by omega
  have wx:IntKind.u32.wrap (x:Int)=(x:Int):=w32 (by omega);have wc:=x32 hc0 (show x≤4294967295 by omega)
  have hsu:jS 4294967295 (l.take (k+1))=mD (jS 4294967295 (l.take k) ^^^ x) 8:=by
   rw [List.take_add_one,hx,qL];rfl
  have hc1:=ru hc0 (show x≤4294967295 by omega);generalize jS 4294967295 (l.take k)=c at *;simp only [↓evP,evB,stB,reduceIte,reduceCtorEq,Nat.reduceEqDiff,Nat.reduceAdd,Nat.reduceMul,Nat.reduceLeDiff,Nat.reduceLT,Nat.reduceSub,Nat.reduceBEq,q0,h4,h3,hbl,klt,k0,hgx,wx,wc,decide_true]
  refine iL (fun st=>Within ms52_0 os52_0 S st) (by repeat' (first | assumption | exact aP.mpr trivial | exact Within.refl _ _ _ | (refine aT ?_ rfl rfl) | (refine aO ?_ rfl))) [0,3,4,5] [] (fun T hwT hs2 ho2=>?_);simp only [stB,reduceIte,reduceCtorEq,Nat.reduceEqDiff,Nat.reduceAdd,Nat.reduceMul,Nat.reduceLeDiff,Nat.reduceLT,Nat.reduceSub,Nat.reduceBEq,q0,h4] at hs2;obtain ⟨p0,p3,p4,p5⟩:=hs2;obtain ⟨d,hd⟩:∃ d,c ^^^ x=d:=⟨_,rfl⟩
  rw [hd] at p3 hsu hc1;refine bH ms52_1 os52_1 (fun m st=>∃ i:Nat,m=8 - i∧i≤8∧st.sl 5=aI i∧st.sl 3=aU (mD d i)) 8 ?_ ?_
  ·exact ⟨0,rfl,Nat.zero_le _,p5,p3⟩
  rintro m2 z2 ⟨i,rfl,hi,h5,h3'⟩;simp only [stB,reduceIte,reduceCtorEq,Nat.reduceEqDiff,Nat.reduceAdd,Nat.reduceMul,Nat.reduceLeDiff,Nat.reduceLT,Nat.reduceSub,Nat.reduceBEq] at h5 h3'
  rcases Nat.lt_or_ge i 8 with hi8 | hi8
  ·have hcb:=nP hc1 i;have hcs:mD d (i+1)=xZ (mD d i):=rfl;generalize mD d i=b at *;have ilt:(i:Int) < 8:=by omega
   have n2:((2:Int)=0)=False:=by simp
   have t1:(b:Int).tmod 2=((b % 2:Nat):Int):=by rw [Int.tmod_eq_emod_of_nonneg (by omega)];omega
   have t2:(b:Int).tdiv 2=((b / 2:Nat):Int):=by rw [Int.tdiv_eq_ediv_of_nonneg (by omega)];omega
   have t3:IntKind.u32.wrap ((b / 2:Nat):Int)=((b / 2:Nat):Int):=w32 (by omega);have t4:=x32 (m:=b / 2) (n:=3988292384) (by omega) (by decide);unfold xZ at hcs
   by_cases hb1:b % 2=1
   ·have e1:(((b % 2:Nat):Int) == 1)=true:=by rw [hb1];rfl
    rw [if_pos hb1] at hcs;simp only [↓evP,evB,stB,reduceIte,reduceCtorEq,Nat.reduceEqDiff,Nat.reduceAdd,Nat.reduceMul,Nat.reduceLeDiff,Nat.reduceLT,Nat.reduceSub,Nat.reduceBEq,h5,h3',ilt,n2,ne_eq,t1,t2,t3,e1,decide_true];rw [show (3988292384:Int)=((3988292384:Nat):Int) from rfl,t4]
    exact ⟨_,by omega,(by repeat' (first | assumption | exact aP.mpr trivial | exact Within.refl _ _ _ | (refine aT ?_ rfl rfl) | (refine aO ?_ rfl))),i+1,rfl,hi8,by simp only [stB,reduceIte,reduceCtorEq,Nat.reduceEqDiff,Nat.reduceAdd,Nat.reduceMul,Nat.reduceLeDiff,Nat.reduceLT,Nat.reduceSub,Nat.reduceBEq,h5];rw [wrN (by omega)],by simp only [stB,reduceIte,reduceCtorEq,Nat.reduceEqDiff,Nat.reduceAdd,Nat.reduceMul,Nat.reduceLeDiff,Nat.reduceLT,Nat.reduceSub,Nat.reduceBEq];rw [hcs]⟩
   ·have e1:(((b % 2:Nat):Int) == 1)=false:=by
     rw [beq_eq_false_iff_ne];omega
    rw [if_neg hb1] at hcs;simp only [↓evP,evB,stB,reduceIte,reduceCtorEq,Nat.reduceEqDiff,Nat.reduceAdd,Nat.reduceMul,Nat.reduceLeDiff,Nat.reduceLT,Nat.reduceSub,Nat.reduceBEq,h5,h3',ilt,n2,ne_eq,t1,t2,t3,e1,decide_true]
    exact ⟨_,by omega,(by repeat' (first | assumption | exact aP.mpr trivial | exact Within.refl _ _ _ | (refine aT ?_ rfl rfl) | (refine aO ?_ rfl))),i+1,rfl,hi8,by simp only [stB,reduceIte,reduceCtorEq,Nat.reduceEqDiff,Nat.reduceAdd,Nat.reduceMul,Nat.reduceLeDiff,Nat.reduceLT,Nat.reduceSub,Nat.reduceBEq,h5];rw [wrN (by omega)],by simp only [stB,reduceIte,reduceCtorEq,Nat.reduceEqDiff,Nat.reduceAdd,Nat.reduceMul,Nat.reduceLeDiff,Nat.reduceLT,Nat.reduceSub,Nat.reduceBEq];rw [hcs]⟩
  ·have hie:i=8:=by omega
   subst hie;have ilt:¬ ((8:Nat):Int) < 8:=by omega
   simp only [↓evP,evB,stB,reduceIte,reduceCtorEq,Nat.reduceEqDiff,Nat.reduceAdd,Nat.reduceMul,Nat.reduceLeDiff,Nat.reduceLT,Nat.reduceSub,Nat.reduceBEq,p4,h5,h3',ilt,decide_false]
   exact ⟨_,by omega,(by repeat' (first | exact fT hwT rfl rfl | (refine aT ?_ rfl rfl) | (refine aO ?_ rfl))),k+1,rfl,hlt,by simp only [stB,reduceIte,reduceCtorEq,Nat.reduceEqDiff,Nat.reduceAdd,Nat.reduceMul,Nat.reduceLeDiff,Nat.reduceLT,Nat.reduceSub,Nat.reduceBEq,p4];rw [wrN (by omega)],by simp only [stB,reduceIte,reduceCtorEq,Nat.reduceEqDiff,Nat.reduceAdd,Nat.reduceMul,Nat.reduceLeDiff,Nat.reduceLT,Nat.reduceSub,Nat.reduceBEq,h3'];rw [hsu]⟩
 ·have hke:k=l.length:=by omega
  have klt:¬ (k:Int) < (l.length:Int):=by omega
  rw [hke,List.take_length] at h3 hc0;have wc:=x32 hc0 (show 4294967295≤4294967295 by decide);simp only [↓evP,evB,stB,reduceIte,reduceCtorEq,Nat.reduceEqDiff,Nat.reduceAdd,Nat.reduceMul,Nat.reduceLeDiff,Nat.reduceLT,Nat.reduceSub,Nat.reduceBEq,q0,h4,h3,hbl,klt,decide_false];rw [show (4294967295:Int)=((4294967295:Nat):Int) from rfl,wc];simp only [↓evP,evB,stB,reduceIte,reduceCtorEq,Nat.reduceEqDiff,Nat.reduceAdd,Nat.reduceMul,Nat.reduceLeDiff,Nat.reduceLT,Nat.reduceSub,Nat.reduceBEq,pr52];rfl
def Gt (l:List Nat):List Nat:=[crc l / 16777216 % 256,crc l / 65536 % 256,crc l / 256 % 256,crc l % 256]
def bG (kind:Nat) (c:List Nat):List Nat:=kind :: (aS c.length ++ c)
def bO (kind:Nat) (c:List Nat):List Nat:=bG kind c ++ Gt (bG kind c)
theorem w8m (n:Nat):IntKind.u8.wrap (n:Int)=((n % 256:Nat):Int):=by
 have hb:(2:Int) ^ IntKind.u8.bits=256:=by decide
 have hs:IntKind.u8.signed=false:=rfl;unfold IntKind.wrap;dsimp only;rw [hb,if_neg (by rw [hs];simp)]
 omega
theorem LG (n:Nat):Int.fdiv (n:Int) (2 ^ (min (Int.toNat 24) IntKind.u32.bits))=((n / 16777216:Nat):Int):=by
 show Int.fdiv (n:Int) 16777216=_
 rw [Int.fdiv_eq_ediv_of_nonneg _ (by decide)];omega
theorem LD (n:Nat):Int.fdiv (n:Int) (2 ^ (min (Int.toNat 16) IntKind.u32.bits))=((n / 65536:Nat):Int):=by
 show Int.fdiv (n:Int) 65536=_
 rw [Int.fdiv_eq_ediv_of_nonneg _ (by decide)];omega
theorem fd8 (n:Nat):Int.fdiv (n:Int) (2 ^ (min (Int.toNat 8) IntKind.u32.bits))=((n / 256:Nat):Int):=by
 show Int.fdiv (n:Int) 256=_
 rw [Int.fdiv_eq_ediv_of_nonneg _ (by decide)];omega
theorem dW {n:Nat} (h:n≤9223372036854775807):∀ x ∈ aS n,x≤255:=sJ 8 n (by omega)
theorem oN {k:Nat} {c:List Nat} (hk:k≤255) (hc:∀ x ∈ c,x≤255) (hl:c.length≤1000000):∀ x ∈ bG k c,x≤255:=fun x hx=>by
 rcases List.mem_cons.1 hx with q | q
 ·omega
 ·rcases List.mem_append.1 q with q | q
  ·exact dW (by omega) x q
  ·exact hc x q
def rH (ps rs:List Pa):Prop:=∃ (k:Nat) (c:List Nat),ps=[.one (.sc (.int .u8 (k:Int))),dM c]∧(k≤255∧c.length≤900000∧∀ x ∈ c,x≤255)∧rs=[dM (bO k c)]
theorem CY:Spec Try.prog 40 rH:=by
 refine sp40 (show ay Try.prog (e1 37 nO (e1 52 zV e0)) from ay.e1 qH (ay.e1 Iq ay.e0)) ?_;rintro ps rs ⟨k,c,rfl,⟨hk,hl,hc⟩,rfl⟩;refine ⟨by simp,?_⟩;unfold pc40
 with_reducible refine aH ?_
 have hcl:=aY c;have hca:=eB c;have hnl:=bD c.length;have hnl2:=aY (aS c.length);have hna:=eB (aS c.length);simp only [↓evP,evB,stB,reduceIte,reduceCtorEq,Nat.reduceEqDiff,Nat.reduceAdd,Nat.reduceMul,Nat.reduceLeDiff,Nat.reduceLT,Nat.reduceSub,Nat.reduceBEq,dM,hcl];refine aC [dM (aS c.length)] ⟨_,rfl,by omega,rfl⟩ ?_;have g1:1+(aS c.length).length≤1000000:=by omega
 have g2:(aS c.length).length+1+c.length≤1000000:=by omega
 have g3:(1+(aS c.length).length=(aS c.length).length+1)=True:=by simp;omega
 have e1:[Dt.sc (.int .u8 (k:Int))] :: (byR (aS c.length) ++ byR c)=byR (bG k c):=by
  rw [fA];rfl
 have hbl:(bG k c).length=(aS c.length).length+1+c.length:=by
  unfold bG;rw [List.length_cons,List.length_append];omega
 have hbl2:=aY (bG k c);rw [←hbl] at g2;simp only [↓evP,evB,stB,reduceIte,reduceCtorEq,Nat.reduceEqDiff,Nat.reduceAdd,Nat.reduceMul,Nat.reduceLeDiff,Nat.reduceLT,Nat.reduceSub,Nat.reduceBEq,dM,hcl,hca,hnl2,hna,g1,←hbl,g2,g3,e1];refine aC [.one (.sc (.int .u32 (crc (bG k c):Int)))] ⟨bG k c,rfl,⟨by omega,oN hk hc (by omega)⟩,rfl⟩ ?_;have n1:¬ ((24:Int) < 0):=by decide
 have n2:¬ ((16:Int) < 0):=by decide
 have n3:¬ ((8:Int) < 0):=by decide
 have g4:(bG k c).length+4≤1000000:=by omega
 have hblk:byR (bO k c)=byR (bG k c) ++ [[.sc (.int .u8 ((crc (bG k c) / 16777216 % 256:Nat):Int))],[.sc (.int .u8 ((crc (bG k c) / 65536 % 256:Nat):Int))],[.sc (.int .u8 ((crc (bG k c) / 256 % 256:Nat):Int))],[.sc (.int .u8 ((crc (bG k c) % 256:Nat):Int))]]:=(fA _ _).symm;rw [hblk];generalize bG k c=B at *;simp only [↓evP,evB,stB,reduceIte,reduceCtorEq,Nat.reduceEqDiff,Nat.reduceAdd,Nat.reduceMul,Nat.reduceLeDiff,Nat.reduceLT,Nat.reduceSub,Nat.reduceBEq,n1,n2,n3,LG,LD,fd8,w8m,hbl2,g4,pr40]
structure Dep where
 st:List (Int×Int)
 pr:List Int
def aJ (p:Int×Int):List Dt:=[dI p.1,dI p.2]
def Dep.row (d:Dep):List Dt:=[.im (d.st.map aJ),.im (d.pr.map fun x=>[dI x])]
def Dep.pa (d:Dep):Pa:=.agg d.row
def fZ (d:Dep) (i:Nat):Int×Int:=d.st.getD i (0,0)
def iw (d:Dep) (i:Nat):Int:=d.pr.getD i 0
def pJ (d:Dep) (i:Nat):List Nat:=aS (iw d i+1).toNat ++ (aS (fZ d i).1.toNat ++ aS (fZ d i).2.toNat)
def nR (d:Dep) (a k:Nat):List Nat:=(List.range k).flatMap fun i=>pJ d (a+i)
def oQ (d:Dep) (a b:Nat):List Nat:=aS (b - a) ++ nR d a (b - a)
theorem kP (d:Dep) (a k:Nat):nR d a (k+1)=nR d a k ++ pJ d (a+k):=by
 unfold nR;rw [List.range_succ,List.flatMap_append];simp
theorem qo (d:Dep) (i:Nat):(pJ d i).length≤27:=by
 unfold pJ;rw [List.length_append,List.length_append];have:=bD (iw d i+1).toNat;have:=bD (fZ d i).1.toNat;have:=bD (fZ d i).2.toNat;omega
theorem qO (d:Dep) (a k:Nat):(nR d a k).length≤27 * k:=by
 induction k with
 | zero=>exact Nat.zero_le _
 | succ k ih =>
   rw [kP,List.length_append];have:=qo d (a+k);omega
structure Dep.ok (d:Dep):Prop where
 len:d.st.length=d.pr.length
 le:d.st.length≤10000
 pr:∀ x ∈ d.pr, -1≤x∧x≤1000000000000
 st:∀ p ∈ d.st,(0≤p.1∧p.1≤1000000000000)∧(0≤p.2∧p.2≤1000000000000)
def FW (ps:List Pa) (E sz:Nat) (rows:List (List Dt)):Prop:=∃ (d:Dep) (a b:Nat),ps=[d.pa,pI a,pI b]∧(d.ok∧a≤b∧b≤d.st.length)∧(E=5∧sz=1∧rows=byR (oQ d a b))
theorem D9 {d:Dep} {a b:Nat} (hd:d.ok) (hab:a≤b) (hb:b≤d.st.length) {Q:Exit→St→Prop} (hQ:∀ st:St,st.sl 6=.b (.one (.own 12 1 (byR (oQ d a b))))→st.gen 12=1→st.ob 12=.row 5 1 (oQ d a b).length→Q .ret st) :
 pwp (f1 37 FZ (e1 37 nO e0)) pc36 Q (St.init [d.pa,pI a,pI b]):=by
 have hle:=hd.le;unfold pc36
 with_reducible refine aH ?_
 have w0:IntKind.i64.wrap ((b:Int) - (a:Int))=((b - a:Nat):Int):=by rw [fE (by omega) (by omega)];omega
 simp only [↓evP,evB,stB,reduceIte,reduceCtorEq,Nat.reduceEqDiff,Nat.reduceAdd,Nat.reduceMul,Nat.reduceLeDiff,Nat.reduceLT,Nat.reduceSub,Nat.reduceBEq,Dep.pa,Dep.row,pI,w0];refine iU (byR (aS (b - a))) (E:=5) (sz:=1) (by exact ⟨b - a,rfl,by omega,rfl,rfl,rfl⟩) ?_;have hnl:=bD (b - a);have hnl2:=aY (aS (b - a));simp only [↓evP,evB,stB,reduceIte,reduceCtorEq,Nat.reduceEqDiff,Nat.reduceAdd,Nat.reduceMul,Nat.reduceLeDiff,Nat.reduceLT,Nat.reduceSub,Nat.reduceBEq,hnl2];refine bH ms36_0 (12 :: os36_0) (fun m st=>∃ k:Nat,m=(b - a) - k∧k≤b - a∧st.sl 8=aI ((a+k:Nat):Int)∧st.sl 7=.b (.one (.own 12 1 (byR (aS (b - a) ++ nR d a k))))∧st.gen 12=1∧st.ob 12=.row 5 1 (aS (b - a) ++ nR d a k).length) (b - a) ?_ ?_
 ·refine ⟨0,rfl,Nat.zero_le _,by simp only [stB,reduceIte,reduceCtorEq,Nat.reduceEqDiff,Nat.reduceAdd,Nat.reduceMul,Nat.reduceLeDiff,Nat.reduceLT,Nat.reduceSub,Nat.reduceBEq];first | done | rfl,?_,by simp only [stB,reduceIte,reduceCtorEq,Nat.reduceEqDiff,Nat.reduceAdd,Nat.reduceMul,Nat.reduceLeDiff,Nat.reduceLT,Nat.reduceSub,Nat.reduceBEq],?_⟩
  ·simp only [stB,reduceIte,reduceCtorEq,Nat.reduceEqDiff,Nat.reduceAdd,Nat.reduceMul,Nat.reduceLeDiff,Nat.reduceLT,Nat.reduceSub,Nat.reduceBEq];rw [show nR d a 0=[] from rfl,List.append_nil]
  ·simp only [stB,reduceIte,reduceCtorEq,Nat.reduceEqDiff,Nat.reduceAdd,Nat.reduceMul,Nat.reduceLeDiff,Nat.reduceLT,Nat.reduceSub,Nat.reduceBEq];rw [show nR d a 0=[] from rfl,List.append_nil]
 rintro m j ⟨k,rfl,hk,h8,h7,g12,o12⟩;simp only [stB,reduceIte,reduceCtorEq,Nat.reduceEqDiff,Nat.reduceAdd,Nat.reduceMul,Nat.reduceLeDiff,Nat.reduceLT,Nat.reduceSub,Nat.reduceBEq] at h8 h7 g12 o12
 rcases Nat.lt_or_ge k (b - a) with hlt | hge
 ·have hi:a+k < d.st.length:=by omega
  have hi2:a+k < d.pr.length:=by have:=hd.len;omega
  have klt:((a+k:Nat):Int) < (b:Int):=by omega
  have k0:(0:Int)≤((a+k:Nat):Int):=by omega
  have gp:d.pr[a+k]? = some (iw d (a+k)):=by unfold iw;rw [List.getD_eq_getElem?_getD,List.getElem?_eq_getElem hi2];rfl
  have gs:d.st[a+k]? = some (fZ d (a+k)):=by unfold fZ;rw [List.getD_eq_getElem?_getD,List.getElem?_eq_getElem hi];rfl
  have bp:=hd.pr _ (List.mem_of_getElem? gp);have bs:=hd.st _ (List.mem_of_getElem? gs);have hsu:=kP d a k;have hfl:=qO d a k;have hol:=qo d (a+k);unfold pJ at hsu hol;generalize iw d (a+k)=p at *;generalize fZ d (a+k)=s at *;obtain ⟨s1,s2⟩:=s;dsimp only at hsu hol bs;have w1:IntKind.i64.wrap (p+1)=((p+1).toNat:Int):=by rw [fE (by omega) (by omega)];omega
  have e1:s1=(s1.toNat:Int):=by omega
  have e2:s2=(s2.toNat:Int):=by omega
  have w2:IntKind.i64.wrap (((a+k:Nat):Int)+1)=((a+(k+1):Nat):Int):=by rw [fE (by omega) (by omega)];omega
  obtain ⟨B,hB⟩:∃ B,aS (b - a) ++ nR d a k=B:=⟨_,rfl⟩
  have hBl:B.length≤9+27 * k:=by rw [←hB,List.length_append];omega
  rw [hB] at h7 o12;have l1:=bD (p+1).toNat;have l2:=bD s1.toNat;have l3:=bD s2.toNat;have c1:=aY (aS (p+1).toNat);have c2:=aY (aS s1.toNat);have c3:=aY (aS s2.toNat);have a1:=eB (aS (p+1).toNat);have a2:=eB (aS s1.toNat);have a3:=eB (aS s2.toNat);have cB:=aY B
  have hfin:byR B ++ byR (aS (p+1).toNat) ++ byR (aS s1.toNat) ++ byR (aS s2.toNat)=byR (aS (b - a) ++ nR d a (k+1)):=by
   rw [fA,fA,fA,hsu,←hB];simp only [List.append_assoc]
  have hfin2:(aS (b - a) ++ nR d a (k+1)).length=B.length+(aS (p+1).toNat).length+(aS s1.toNat).length+(aS s2.toNat).length:=by
   rw [hsu,←List.append_assoc,hB];simp only [List.length_append];omega
  have g1:B.length+(aS (p+1).toNat).length≤1000000:=by omega
  have g2:B.length+(aS (p+1).toNat).length+(aS s1.toNat).length≤1000000:=by omega
  have g3:B.length+(aS (p+1).toNat).length+(aS s1.toNat).length+(aS s2.toNat).length≤1000000:=by omega
  have rB:(byR B ++ byR (aS (p+1).toNat)).length=B.length+(aS (p+1).toNat).length:=by rw [List.length_append,cB,c1]
  have rB2:(byR B ++ byR (aS (p+1).toNat) ++ byR (aS s1.toNat)).length=B.length+(aS (p+1).toNat).length+(aS s1.toNat).length:=by rw [List.length_append,rB,c2]
  simp only [↓evP,evB,stB,reduceIte,reduceCtorEq,Nat.reduceEqDiff,Nat.reduceAdd,Nat.reduceMul,Nat.reduceLeDiff,Nat.reduceLT,Nat.reduceSub,Nat.reduceBEq,h8,h7,g12,o12,klt,k0,gp,gs,w1,aJ,decide_true];refine aC [dM (aS (p+1).toNat)] (by exact ⟨_,rfl,by omega,rfl⟩) ?_;simp only [↓evP,evB,stB,reduceIte,reduceCtorEq,Nat.reduceEqDiff,Nat.reduceAdd,Nat.reduceMul,Nat.reduceLeDiff,Nat.reduceLT,Nat.reduceSub,Nat.reduceBEq,h8,h7,g12,o12,klt,k0,gp,gs,dM,c1,a1,cB,g1,aJ];refine aC [dM (aS s1.toNat)] (by rw [e1];exact ⟨_,rfl,by omega,by rw [←e1]⟩) ?_
  simp only [↓evP,evB,stB,reduceIte,reduceCtorEq,Nat.reduceEqDiff,Nat.reduceAdd,Nat.reduceMul,Nat.reduceLeDiff,Nat.reduceLT,Nat.reduceSub,Nat.reduceBEq,h8,h7,g12,o12,klt,k0,gp,gs,dM,c1,a1,c2,a2,cB,rB,g1,g2,aJ];refine aC [dM (aS s2.toNat)] (by rw [e2];exact ⟨_,rfl,by omega,by rw [←e2]⟩) ?_
  simp only [↓evP,evB,stB,reduceIte,reduceCtorEq,Nat.reduceEqDiff,Nat.reduceAdd,Nat.reduceMul,Nat.reduceLeDiff,Nat.reduceLT,Nat.reduceSub,Nat.reduceBEq,h8,h7,g12,o12,klt,k0,gp,gs,dM,c1,a1,c2,a2,c3,a3,cB,rB,rB2,g1,g2,g3,aJ]
  exact ⟨_,by omega,(by repeat' (first | assumption | exact aP.mpr trivial | exact Within.refl _ _ _ | (refine aT ?_ rfl rfl) | (refine aO ?_ rfl))),k+1,rfl,hlt,by simp only [stB,reduceIte,reduceCtorEq,Nat.reduceEqDiff,Nat.reduceAdd,Nat.reduceMul,Nat.reduceLeDiff,Nat.reduceLT,Nat.reduceSub,Nat.reduceBEq,h8,w2],by simp only [stB,reduceIte,reduceCtorEq,Nat.reduceEqDiff,Nat.reduceAdd,Nat.reduceMul,Nat.reduceLeDiff,Nat.reduceLT,Nat.reduceSub,Nat.reduceBEq];rw [←hfin];(first | done | simp only [List.append_assoc]),by simp only [stB,reduceIte,reduceCtorEq,Nat.reduceEqDiff,Nat.reduceAdd,Nat.reduceMul,Nat.reduceLeDiff,Nat.reduceLT,Nat.reduceSub,Nat.reduceBEq,g12],by simp only [stB,reduceIte,reduceCtorEq,Nat.reduceEqDiff,Nat.reduceAdd,Nat.reduceMul,Nat.reduceLeDiff,Nat.reduceLT,Nat.reduceSub,Nat.reduceBEq,o12,jD];first | done | rw [hfin2]⟩
 ·have hke:k=b - a:=by omega
  have klt:¬ ((a+k:Nat):Int) < (b:Int):=by omega
  rw [hke] at h7 o12;simp only [↓evP,evB,stB,reduceIte,reduceCtorEq,Nat.reduceEqDiff,Nat.reduceAdd,Nat.reduceMul,Nat.reduceLeDiff,Nat.reduceLT,Nat.reduceSub,Nat.reduceBEq,h8,h7,g12,o12,klt,decide_false];refine hQ _ ?_ ?_ ?_
  ·simp only [stB,reduceIte,reduceCtorEq,Nat.reduceEqDiff,Nat.reduceAdd,Nat.reduceMul,Nat.reduceLeDiff,Nat.reduceLT,Nat.reduceSub,Nat.reduceBEq];first | done | rfl
  ·simp only [stB,reduceIte,reduceCtorEq,Nat.reduceEqDiff,Nat.reduceAdd,Nat.reduceMul,Nat.reduceLeDiff,Nat.reduceLT,Nat.reduceSub,Nat.reduceBEq,g12]
  ·simp only [stB,reduceIte,reduceCtorEq,Nat.reduceEqDiff,Nat.reduceAdd,Nat.reduceMul,Nat.reduceLeDiff,Nat.reduceLT,Nat.reduceSub,Nat.reduceBEq,o12];first | done | rfl
theorem Kv:uw Try.prog 36 FW:=by
 refine lY (ay.f1 Kz (ay.e1 qH ay.e0)) cK bA Try.func36 bd36 cp36 (by kernel_rfl) (by kernel_rfl) (t:=6) (by kernel_rfl) ?_;rintro ps E sz rows ⟨d,a,b,rfl,⟨hd,hab,hb⟩,rfl,rfl,rfl⟩;refine ⟨by simp [Try.ntmps36],D9 hd hab hb fun st h1 h2 h3=>⟨.inr rfl,?_⟩⟩;unfold St.Ij;simp only [h1,h2,h3,aY,if_true]
def Ev.fl (e:Ev):List Int:=[e.g,e.kind,e.obj,e.off,e.k,e.n,e.fn,e.pc,e.stack]
def inR (l:List Int):List (List Dt):=l.map fun x=>[dI x]
def vY (ps rs:List Pa):Prop:=∃ e:Ev,ps=[e.pa]∧rs=[.one (.im (inR e.fl))]
theorem FH:Spec Try.prog 38 vY:=by
 refine sp38 ay.e0 ?_;rintro ps rs ⟨e,rfl,rfl⟩;refine ⟨by simp,?_⟩;unfold pc38
 with_reducible refine aH ?_
 simp only [↓evP,evB,stB,reduceIte,reduceCtorEq,Nat.reduceEqDiff,Nat.reduceAdd,Nat.reduceMul,Nat.reduceLeDiff,Nat.reduceLT,Nat.reduceSub,Nat.reduceBEq,Ev.pa,Ev.row,pr38]
 first | done | rfl
end Go.Proofs.Ytkafcpnahpfbfaa
end
section
namespace Go.Proofs.Ytkafcpnahpfbfaa
open Go Go.RowKit
set_option maxRecDepth 1000000
set_option maxHeartbeats 4000000
def bn (es:List Ev) (n:Nat):Nat:=es.foldl (fun m e=>max m (e.stack+1).toNat) n
def ev0:Ev:=⟨0,0,0,0,0,0,0,0,0⟩
def lst (l:Ev) (es:List Ev):Ev:=es.foldl (fun _ e=>e) l
def pX (l e:Ev):List Nat:=(List.zipWith (fun x y=>x - y) e.fl l.fl).flatMap dG
def eF:Ev→List Ev→List Nat
 | _,[]=>[]
 | l,e :: es=>pX l e ++ eF e es
theorem iD (a b:List Ev) (n:Nat):bn (a ++ b) n=bn b (bn a n):=List.foldl_append ..
theorem qB (a b:List Ev) (l:Ev):lst l (a ++ b)=lst (lst l a) b:=List.foldl_append ..
theorem Hz (l e:Ev):lst l [e]=e:=rfl
theorem oq:∀ (a b:List Ev) (l:Ev),eF l (a ++ b)=eF l a ++ eF (lst l a) b
 | [],_,_=>rfl
 | e :: a,b,l=>by
   show pX l e ++ eF e (a ++ b)=pX l e ++ eF e a ++ eF (lst e a) b
   rw [oq a b e,List.append_assoc]
theorem rZ (l e:Ev):eF l [e]=pX l e:=List.append_nil _
theorem take_at {α:Type} {l:List α} {i:Nat} {x:α} (h:l[i]? = some x):l.take (i+1)=l.take i ++ [x]:=by
 obtain ⟨h1,rfl⟩:=List.getElem?_eq_some_iff.1 h;exact List.take_succ_eq_append_getElem h1
theorem Eh (l e:Ev):(pX l e).length≤81:=by
 have h:∀ (xs:List Int),(xs.flatMap dG).length≤9 * xs.length:=fun xs=>by
  induction xs with
  | nil=>exact Nat.le_refl _
  | cons x xs ih =>
    rw [List.flatMap_cons,List.length_append,List.length_cons];have:(dG x).length≤9:=bD _;omega
 exact Nat.le_trans (h _) (by unfold Ev.fl;simp)
theorem jr:∀ (es:List Ev) (l:Ev),(eF l es).length≤81 * es.length
 | [],_=>Nat.le_refl _
 | e :: es,l=>by
   show (pX l e ++ eF e es).length≤_
   rw [List.length_append,List.length_cons];have:=Eh l e;have:=jr es e;omega
def bF (es:List Ev) (i n:Nat):List Ev:=(es.drop i).take n
def kN (d:Dep) (es:List Ev) (k:Nat):List Nat :=
 oQ d (bn (es.take (16 * k)) 0) (bn (es.take (16 * k+16)) 0) ++ (aS (bF es (16 * k) 16).length ++ eF (lst ev0 (es.take (16 * k))) (bF es (16 * k) 16))
def lW (d:Dep) (es:List Ev):List Nat:=oQ d (bn es 0) d.st.length ++ aS es.length
def dS (es:List Ev):Nat:=(es.length+15) / 16
def ny (d:Dep) (es:List Ev) (k:Nat):List Nat:=bO 66 (kN d es k)
def bJ (d:Dep) (es:List Ev):List (List Nat):=(List.range (dS es)).map (ny d es) ++ [bO 69 (lW d es)]
structure qW (d:Dep) (es:List Ev):Prop where
 dk:d.ok
 len:d.st.length≤1000
 el:es.length≤1000
 ev:∀ e ∈ es,e.valid=true∧e.stack < d.st.length
def bU (es:List Ev) (d:Dep):List Dt:=[.im (es.map Ev.row),.im (d.st.map aJ),.im (d.pr.map fun x=>[dI x])]
def gY (es:List Ev) (d:Dep):Pa:=.agg (bU es d)
def pU (l:List (List Nat)):List (List Dt):=l.map fun b=>[.im (byR b)]
theorem mY (l:List (List Nat)):(pU l).length=l.length:=List.length_map ..
theorem wR {es:List Ev} {m:Nat} (h:∀ e ∈ es,e.valid=true∧e.stack < (m:Int)):∀ {n:Nat},n≤m→bn es n≤m:=by
 induction es with
 | nil=>exact fun h=>h
 | cons e es ih =>
   intro n hn;refine ih (fun x hx=>h x (List.mem_cons_of_mem _ hx)) ?_;have:=(h e (List.mem_cons_self ..)).2
   show max n (e.stack+1).toNat≤m
   omega
theorem nJ (es:List Ev):∀ n:Nat,n≤bn es n:=by
 induction es with
 | nil=>exact fun n=>Nat.le_refl _
 | cons e es ih=>exact fun n=>Nat.le_trans (Nat.le_max_left n _) (ih _)
theorem kF {α:Type} {l:List α} {n:Nat} {x:α} (h:x ∈ l.take n):x ∈ l:=List.mem_of_mem_take h
theorem fV (es:List Ev) (i n:Nat):es.take i ++ bF es i n=es.take (i+n):=by
 unfold bF;rw [List.take_add]
theorem fU (es:List Ev) (i n:Nat):(bF es i n).length=min n (es.length - i):=by
 unfold bF;rw [List.length_take,List.length_drop]
theorem qW.need {d:Dep} {es:List Ev} (h:qW d es) (i:Nat):bn (es.take i) 0≤d.st.length:=wR (fun e he=>h.ev e (kF he)) (Nat.zero_le _)
theorem gK (d:Dep) (a b:Nat):(oQ d a b).length≤9+27 * (b - a):=by
 unfold oQ;rw [List.length_append];have:=bD (b - a);have:=qO d a (b - a);omega
theorem rR {d:Dep} {es:List Ev} (h:qW d es) (k:Nat):(kN d es k).length≤30000:=by
 unfold kN;rw [List.length_append,List.length_append];have h1:=gK d (bn (es.take (16 * k)) 0) (bn (es.take (16 * k+16)) 0);have h2:=h.need (16 * k+16);have h3:=h.len;have h4:=bD (bF es (16 * k) 16).length;have h5:=jr (bF es (16 * k) 16) (lst ev0 (es.take (16 * k)));have h6:=fU es (16 * k) 16;omega
theorem qN {d:Dep} {es:List Ev} (h:qW d es):(lW d es).length≤30000:=by
 unfold lW;rw [List.length_append];have h1:=gK d (bn es 0) d.st.length;have h3:=h.len;have h4:=bD es.length;omega
theorem jy {a b:List Nat} (ha:∀ x ∈ a,x≤255) (hb:∀ x ∈ b,x≤255):∀ x ∈ a ++ b,x≤255:=fun x hx=>by
 rcases List.mem_append.1 hx with q | q
 ·exact ha x q
 ·exact hb x q
theorem rX {d:Dep} (hd:d.ok) (a:Nat):∀ (k:Nat),a+k≤d.st.length→∀ x ∈ nR d a k,x≤255
 | 0,_=>fun x hx=>by cases hx
 | k+1,h=>by
   rw [kP];refine jy (rX hd a k (by omega)) ?_;have hi:a+k < d.st.length:=by omega
   have hi2:a+k < d.pr.length:=by have:=hd.len;omega
   have gp:d.pr[a+k]? = some (iw d (a+k)):=by unfold iw;rw [List.getD_eq_getElem?_getD,List.getElem?_eq_getElem hi2];rfl
   have gs:d.st[a+k]? = some (fZ d (a+k)):=by unfold fZ;rw [List.getD_eq_getElem?_getD,List.getElem?_eq_getElem hi];rfl
   have bp:=hd.pr _ (List.mem_of_getElem? gp);have bs:=hd.st _ (List.mem_of_getElem? gs);exact jy (dW (by omega)) (jy (dW (by omega)) (dW (by omega)))
theorem nY {d:Dep} (hd:d.ok) {a b:Nat} (hab:a≤b) (h:b≤d.st.length):∀ x ∈ oQ d a b,x≤255:=by
 have:=hd.le;exact jy (dW (by omega)) (rX hd a (b - a) (by omega))
theorem yT {e:Ev} (h:e.valid=true):∀ x ∈ e.fl,0≤x∧x≤2147483647:=by
 simp only [Ev.valid,dN,fK,Bool.and_eq_true,decide_eq_true_eq] at h;intro x hx;simp only [Ev.fl,List.mem_cons,List.not_mem_nil,or_false] at hx;omega
def evG (e:Ev):Prop:=∀ x ∈ e.fl,0≤x∧x≤2147483647
theorem Dp:evG ev0:=by
 intro x hx;simp only [Ev.fl,ev0,List.mem_cons,List.not_mem_nil,or_false,or_self] at hx;omega
theorem uN:∀ {es:List Ev} {l:Ev},evG l→(∀ e ∈ es,e.valid=true)→evG (lst l es)
 | [],_,h,_=>h
 | e :: es,_,_,h=>uN (es:=es) (l:=e) (yT (h e (List.mem_cons_self ..))) fun x hx=>h x (List.mem_cons_of_mem _ hx)
theorem Bn {l e:Ev} (hl:evG l) (he:evG e):∀ x ∈ pX l e,x≤255:=by
 intro x hx;unfold pX at hx;obtain ⟨v,hv,hx⟩:=List.mem_flatMap.1 hx
 have hb:-2147483647≤v∧v≤2147483647:=by
  obtain ⟨i,hi,rfl⟩:=List.getElem_of_mem hv;rw [List.getElem_zipWith];have h1:=he (e.fl[i]'(by simp at hi;omega)) (List.getElem_mem _)
  have h2:=hl (l.fl[i]'(by simp at hi;omega)) (List.getElem_mem _)
  omega
 refine dW ?_ x hx;unfold lV;split <;> omega
theorem lX:∀ {es:List Ev} {l:Ev},evG l→(∀ e ∈ es,e.valid=true)→∀ x ∈ eF l es,x≤255
 | [],_,_,_=>fun x hx=>by cases hx
 | e :: es,_,hl,h=>by
   have h1:evG e:=yT (h e (List.mem_cons_self ..));exact jy (Bn hl h1) (lX h1 fun x hx=>h x (List.mem_cons_of_mem _ hx))
theorem oH {es:List Ev} {i n:Nat} {e:Ev} (h:e ∈ bF es i n):e ∈ es:=List.mem_of_mem_drop (List.mem_of_mem_take h)
theorem yg {d:Dep} {es:List Ev} (h:qW d es) (k:Nat):∀ x ∈ kN d es k,x≤255:=by
 have h2:=h.need (16 * k+16);have h6:=fU es (16 * k) 16;refine jy (nY h.dk ?_ h2) (jy (dW (by omega)) (lX (uN Dp fun e he=>(h.ev e (kF he)).1) fun e he=>(h.ev e (oH he)).1));rw [←fV es (16 * k) 16,iD];exact nJ _ _
theorem rW {d:Dep} {es:List Ev} (h:qW d es):∀ x ∈ lW d es,x≤255:=by
 have h2:=h.need es.length;rw [List.take_length] at h2;have:=h.el;exact jy (nY h.dk h2 (Nat.le_refl _)) (dW (by omega))
end Go.Proofs.Ytkafcpnahpfbfaa
end
section
namespace Go.Proofs.Ytkafcpnahpfbfaa
open Go Go.RowKit Go.Shelf
set_option maxRecDepth 1000000
set_option maxHeartbeats 4000000
attribute [local go_sem] Oper.semAt_some
def zJ (b o n k:Nat):Value:=.slice (some ⟨b,o+16 * k * 9,none⟩) (min 16 (n - 16 * k)) (min 16 (n - 16 * k))
def Kp2 (k2 k3:Nat) (W W':World):Prop:=W'.heap[k2]? = W.heap[k2]?∧W'.heap[k3]? = W.heap[k3]?
theorem Kp2.t {k2 k3:Nat} {A B C:World} (h:Kp2 k2 k3 A B) (k:Kp2 k2 k3 B C):Kp2 k2 k3 A C:=⟨k.1.trans h.1,k.2.trans h.2⟩
theorem Kp2.KW {k2 k3:Nat} {A B:World} (h:Kp2 k2 k3 A B):B.cell? ⟨k2,0,none⟩=A.cell? ⟨k2,0,none⟩:=by
 unfold World.cell?;rw [h.1]
theorem Kp2.IZ {k2 k3:Nat} {A B:World} (h:Kp2 k2 k3 A B):B.cell? ⟨k3,0,none⟩=A.cell? ⟨k3,0,none⟩:=by
 unfold World.cell?;rw [h.2]
theorem Bc (F:Fence) (hFw:F=Fence.wide) (n:Nat) (hf:F.fn 47) (hro:F.round=none) (hn:1≤n) (l k2 k3 b o len cap m:Nat) (hlen:len≤1000) (hcap:len≤cap) (hcm:cap≤maxLen) (hm:m=(len+15) / 16) (J Jx:List (Fin m)→World→Prop)
 (hY:∀ pre x W,J pre W→pre.length < m→YieldAt F (n - 1) Try.prog l #[zJ b o len x.1] W fun e W' =>
  (e=.returned (.bool true)∧J (pre ++ [x]) W'∧Kp2 k2 k3 W W')∨(e=.returned (.bool false)∧Jx (pre ++ [x]) W'))
 (hJd:∀ pre W,J pre W→J pre W.drew)
 (W:World) (h2:W.cell? ⟨k2,0,none⟩=some (.slice (some ⟨b,o,none⟩) len cap)) (h3:W.cell? ⟨k3,0,none⟩=some (.int .i64 16)) (h0:J [] W) :
 CallsIn F n Try.prog 47 #[.func (.yield l) #[] #[],.pointer (some ⟨k2,0,none⟩),.pointer (some ⟨k3,0,none⟩)] W fun e W'=>(∃ v,e=.returned v) ∧
  ((∃ ys,ys.map (·.1)=List.range m∧J ys W')∨(∃ pre,True∧Jx pre W')):=by
 refine callsIn_of_wp Try.func47 rfl hf ?_ hro;simp only [Try.ntmps47,List.size_toArray,List.length_cons,List.length_nil,Nat.reduceAdd,Nat.reduceSub,Array.replicate_succ,Array.replicate_zero,List.push_toArray,List.append_toArray,List.nil_append,List.cons_append]
 gi_wp2
 gi_loopw [4] (fun i wr=>∃ (k:Nat) (ys:List (Fin m)),k≤m∧ys.map (·.1)=List.range k∧i=.int .i64 ((16 * k:Nat):Int)∧J ys wr∧Kp2 k2 k3 W wr)
  (fun i _=>len+16 - (intOf i).toNat)
 case atStart=>exact ⟨0,[],Nat.zero_le _,rfl,rfl,h0,⟨rfl,rfl⟩⟩
 case round =>
  obtain ⟨k,ys,hk,hys,rfl,hJs,hkp⟩:=hrel;have h2':=hkp.KW.trans h2;have h3':=hkp.IZ.trans h3
  by_cases hlt:k < m
  ·obtain ⟨fn,tmps,assign,body,hy,hR⟩:=hY ys ⟨k,hlt⟩ wr.drew (hJd _ _ hJs) (by have:=congrArg List.length hys;simp at this;omega)
   dsimp only [zJ] at hy;have hkl:16 * k < len:=by omega
   gi_wp2
   subst hFw;refine wpIn_wide.2 ?_
   go_region
   have hif:(if ((len - 16 * k:Nat):Int) < 16 then ((len - 16 * k:Nat):Int) else 16)=((min 16 (len - 16 * k):Nat):Int):=by split <;> omega
   simp only [hif];obtain ⟨q,hq⟩:∃ q,min 16 (len - 16 * k)=q:=⟨_,rfl⟩
   rw [hq] at hy ⊢;have hq1:16 * k+q≤len:=by omega
   have h2d:wr.drew.cell? ⟨k2,0,none⟩=some (.slice (some ⟨b,o,none⟩) len cap):=h2'
   have hwq:IntKind.i64.wrap (((16 * k:Nat):Int)+(q:Int))=((16 * k+q:Nat):Int):=by
    rw [IntKind.wrap_i64] <;> omega
   gi_wp2
   refine hR.mono ?_;rintro e W3 (⟨rfl,hJ3,hk3⟩ | ⟨rfl,hJx3⟩)
   ·have h33:W3.cell? ⟨k3,0,none⟩=some (.int .i64 16):=hk3.IZ.trans h3'
    have hw16:IntKind.i64.wrap (((16 * k:Nat):Int)+16)=((16 * (k+1):Nat):Int):=by
     rw [IntKind.wrap_i64] <;> omega
    gi_wp2
    go_roundw
    case rel=>exact ⟨k+1,ys ++ [⟨k,hlt⟩],by omega,by rw [List.map_append,hys,List.range_succ];rfl,by simp;omega,hJ3,hkp.t hk3⟩
    case measure=>simp [intOf];omega
   ·gi_wp2
    refine bodyPost_ret (results_none rfl _ _ _) rfl ?_;exact ⟨⟨_,rfl⟩,.inr ⟨_,trivial,hJx3⟩⟩
  ·obtain rfl:k=m:=by omega
   gi_wp2
   go_end0
   exact ⟨⟨_,rfl⟩,.inl ⟨_,hys,hJs⟩⟩
theorem kpb {k2 k3:Nat} {w:World} (h2:k2 < w.heap.size) (h3:k3 < w.heap.size) (W:World) (l:Nat) (o o':Obj) (hl:w.heap.size≤l) (_:W.heap[l]? = some o) (_:o.isCells=false) (_:o.isWalk=false):Kp2 k2 k3 W (W.putObj l o') :=
 ⟨World.putObj_heap_other (by omega),World.putObj_heap_other (by omega)⟩
theorem Ba (F:Fence) (n:Nat) (hf:F.fn 47) (hro:F.round=none) (l k2 k3:Nat) (A:Option Addr) (cap:Nat) {α:Type} (J:List α→World→Prop)
 (W:World) (h2:W.cell? ⟨k2,0,none⟩=some (.slice A 0 cap)) (h0:J [] W) :
 CallsIn F n Try.prog 47 #[.func (.yield l) #[] #[],.pointer (some ⟨k2,0,none⟩),.pointer (some ⟨k3,0,none⟩)] W fun e W'=>(∃ v,e=.returned v)∧J [] W':=by
 refine callsIn_of_wp Try.func47 rfl hf ?_ hro;simp only [Try.ntmps47,List.size_toArray,List.length_cons,List.length_nil,Nat.reduceAdd,Nat.reduceSub,Array.replicate_succ,Array.replicate_zero,List.push_toArray,List.append_toArray,List.nil_append,List.cons_append]
 gi_wp2
 gi_loopw [4] (fun i wr=>i=.int .i64 0∧J [] wr∧wr.cell? ⟨k2,0,none⟩=some (.slice A 0 cap)) (fun _ _=>0)
 case atStart=>exact ⟨rfl,h0,h2⟩
 case round =>
  obtain ⟨rfl,hJs,h2'⟩:=hrel
  gi_wp2
  go_end0
  exact ⟨⟨_,rfl⟩,hJs⟩
theorem uZ {S:Nat→Nat} {es:List Ev} {v:Value} {k2 k3:Nat} {w:World} (n:Nat) (hn:1≤n) (hel:es.length≤1000) (hv:RD S w (.im (es.map Ev.row)) v) (h2:w.cell? ⟨k2,0,none⟩=some v) (h3:w.cell? ⟨k3,0,none⟩=some (.int .i64 16)) (hk2:k2 < w.heap.size) (hk3:k3 < w.heap.size) :
 ∃ enc:Fin (dS es)→Value,(∀ x S' w',RD S' w' (.im (es.map Ev.row)) v→RD S' w' (.im ((bF es (16 * x.1) 16).map Ev.row)) (enc x)) ∧
   SeqStopsK Fence.wide n Try.prog 47 #[.pointer (some ⟨k2,0,none⟩),.pointer (some ⟨k3,0,none⟩)] (fun x=>#[enc x]) (Kp2 k2 k3) (fun ys=>ys.map (·.1)=List.range (dS es)) (fun _=>True) (dS es) w:=by
 by_cases he:es=[]
 ·subst he
  have hA:∃ A c,v=.slice A 0 c:=by
   cases hv with
   | emp A c h=>exact ⟨A,c,rfl⟩
   | im rows sz b o cap f=>exact ⟨_,_,rfl⟩
  obtain ⟨A,c,rfl⟩:=hA;refine ⟨fun _=>undef,fun x=>absurd x.2 (by show ¬ x.1 < (0+15) / 16;omega),fun l J Jx W hW _ _ hY h0=>?_⟩
  have h2':=(hW.cell (p:=⟨k2,0,none⟩) hk2).trans h2;exact (Ba Fence.wide n trivial rfl l k2 k3 A c J W h2' h0).mono fun e W' ⟨he,hj⟩=>⟨he,.inl ⟨[],rfl,hj⟩⟩
 ·have hpos:0 < es.length:=List.length_pos_iff.2 he
  have hA:∃ b o cap,v=.slice (some ⟨b,o,none⟩) es.length cap∧es.length≤cap∧cap≤maxLen:=by
   generalize hr:es.map Ev.row=rows at hv;have hl:rows.length=es.length:=by rw [←hr,List.length_map]
   cases hv with
   | emp A c h=>simp at hl;omega
   | im rows sz b o cap f hc hm=>exact ⟨b,o,cap,by rw [hl],by omega,hm⟩
  obtain ⟨b,o,cap,rfl,hc1,hc2⟩:=hA;refine ⟨fun x=>zJ b o es.length x.1,fun x S' w' h=>?_,fun l J Jx W hW hJ _ hY h0=>?_⟩
  ·generalize hr:es.map Ev.row=rows at h;have hl:rows.length=es.length:=by rw [←hr,List.length_map]
   have hx:=x.2;unfold dS at hx
   have hrows:(bF es (16 * x.1) 16).map Ev.row=(rows.drop (16 * x.1)).take 16:=by
    rw [←hr];unfold bF;rw [List.map_take,List.map_drop]
   have hln:((bF es (16 * x.1) 16).map Ev.row).length=min 16 (es.length - 16 * x.1):=by rw [List.length_map,fU]
   show RD S' w' _ (.slice (some ⟨b,o+16 * x.1 * 9,none⟩) (min 16 (es.length - 16 * x.1)) (min 16 (es.length - 16 * x.1)))
   rw [←hln];rw [hl.symm] at hc1
   have hget:∀ i,i < min 16 (es.length - 16 * x.1)→((bF es (16 * x.1) 16).map Ev.row)[i]? = rows[16 * x.1+i]?:=fun i hi=>by
    rw [hrows,List.getElem?_take,if_pos (by omega),List.getElem?_drop]
   generalize hE:(bF es (16 * x.1) 16).map Ev.row=R at hln hget;generalize hL:es.length=L at h
   cases h with
   | emp A c h=>simp at hl;omega
   | im _ sz _ _ _ f hc hm hsz hcell hd =>
     have hsz9:sz=9:=by
      have h9:∀ r ∈ rows,r.length=9:=by
       rw [←hr];intro r h;obtain ⟨e,_,rfl⟩:=List.mem_map.1 h;rfl
      have hm0:rows[0]'(by omega) ∈ rows:=List.getElem_mem _;exact (hsz _ hm0).symm.trans (h9 _ hm0)
     subst hsz9;refine .im R 9 b (o+16 * x.1 * 9) R.length (fun i j=>f (16 * x.1+i) j) (Nat.le_refl _) (by rw [hln];unfold maxLen at *;omega) (fun r hm=>?_) (fun i j hi hj=>?_) (fun i r j y h1 h2=>?_)
     ·obtain ⟨i,hi⟩:=List.mem_iff_getElem?.1 hm;have hlt:=(List.getElem?_eq_some_iff.1 hi).1;rw [hln] at hlt;rw [hget i hlt] at hi;exact hsz r (List.mem_of_getElem? hi)
     ·rw [hln] at hi;have:=hcell (16 * x.1+i) j (by omega) hj;have e:o+((16 * x.1+i) * 9+j)=o+16 * x.1 * 9+(i * 9+j):=by omega
      rw [e] at this;exact this
     ·have hlt:=(List.getElem?_eq_some_iff.1 h1).1;rw [hln] at hlt;rw [hget i hlt] at h1;exact hd _ r j y h1 h2
  ·have h2':=(hW.cell (p:=⟨k2,0,none⟩) hk2).trans h2;have h3':=(hW.cell (p:=⟨k3,0,none⟩) hk3).trans h3;exact Bc Fence.wide rfl n trivial rfl hn l k2 k3 b o es.length cap (dS es) hel hc1 hc2 rfl J Jx hY (fun pre W h=>hJ pre W W.drew none h ⟨rfl,rfl,rfl,Nat.le_refl _,fun _ _ _=>rfl⟩ (fun r e=>by cases e)) W h2' h3' h0
end Go.Proofs.Ytkafcpnahpfbfaa
end
