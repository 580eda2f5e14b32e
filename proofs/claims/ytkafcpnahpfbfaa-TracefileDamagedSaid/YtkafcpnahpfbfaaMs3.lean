/- Whole codes and functions: what the plain reading says, the program does. -/
import Derived.Test.YtkafcpnahpfbfaaMs2
import Derived.ScopeJumps
import Derived.IntWalk
import Derived.Below
import Derived.Test.YtkafcpnahpfbfaaProg
set_option linter.unusedSimpArgs false
set_option linter.unusedVariables false
section
namespace Go.Proofs.Ytkafcpnahpfbfaa
open Go Go.RowKit
theorem exists_least (p:Nat→Prop) (h:∃ n,p n):∃ n,p n∧∀ m,p m→n≤m:=by
 obtain ⟨n,hn⟩:=h
 induction n using Nat.strongRecOn with
 | _ n ih =>
   by_cases hm:∃ m,m < n∧p m
   ·obtain ⟨m,hlt,hp⟩:=hm;exact ih m hlt hp
   ·exact ⟨n,hn,fun m hp=>by
     rcases Nat.lt_or_ge m n with h | h
     ·exact absurd ⟨m,h,hp⟩ hm
     ·exact h⟩
theorem Ea {P:Program} {Q:Exit→Act→World→Prop} {a:Act} {w:World} {c:Code} (I:Nat→Act→World→Prop) (h0:∃ n,I n a w)
 (round:∀ n a w,I n a w→c.wp P (Exit.then (fun a' w'=>∃ m,m < n∧I m a' w') Q) a w):(Code.loop c).wp P Q a w:=by
 classical
 let μ:Act→World→Nat:=fun a w=>if h:∃ n,I n a w then Classical.choose (exists_least _ h) else 0
 have hμ:∀ a w (h:∃ n,I n a w),I (μ a w) a w∧∀ m,I m a w→μ a w≤m:=fun a w h=>by
  have h1:μ a w=Classical.choose (exists_least _ h):=dif_pos h;rw [h1];exact Classical.choose_spec (exists_least _ h)
 refine wp_loop (fun a w=>∃ n,I n a w) μ h0 (fun a w h=>?_);refine wp_mono (round _ a w (hμ a w h).1) (fun e a' w' he=>?_)
 cases e with
 | normal =>
   obtain ⟨m,hlt,hm⟩:=he;exact ⟨⟨m,hm⟩,Nat.lt_of_le_of_lt ((hμ a' w' ⟨m,hm⟩).2 m hm) hlt⟩
 | _=>exact he
section
variable {P:Program} {n:Nat} {w0:World} {S0:Nat→Nat}
def backs:PC→Bool
 | .reg true ops=>Eh ops
 | .seq a b=>backs a && backs b
 | .cond _ a b=>backs a && backs b
 | .block _ c=>backs c
 | .loop c=>backs c
 | .scope _ c r=>backs c && backs r
 | _=>true
theorem jU [Bor] [I:bT] {env:Env} (hE:aA P env) (hp:∀ w,iD w0.heap.size w0 w→I.p w) {eqs:List (Nat×List Bool)} (heq:∀ p,p ∈ eqs→EqT P p.1 p.2) (hm:P.follows .mixedOrders=true):∀ (c:Code) (pc:PC),bD P n eqs c=some pc→backs pc=true →
 ∀ (Q:Exit→St→Prop) (W:Wit) (s:St) (a:Act) (w:World),pwp env pc Q s→Sim w0 S0 n W s a w→c.wp P (fun e a' w'=>∃ W' s',Sim w0 S0 n W' s' a' w'∧Q e s') a w:=by
 intro c
 induction c with
 | skip=>intro pc hc _ Q W s a w h hs;simp [bD] at hc;subst hc;exact wp_skip ⟨W,s,hs,h⟩
 | region id ops draw =>
   intro pc hc hb Q W s a w h hs;simp only [bD,Option.map_eq_some_iff] at hc;obtain ⟨is,his,rfl⟩:=hc;have hmap:=eF _ _ his
   cases draw with
   | false =>
     refine wp_region ?_;have hlen:is.length=ops.size:=by have:=congrArg List.length hmap;simp at this;omega
     have:=MH hE hp heq (ops:=ops) (Q:=fun e a' w'=>∃ W' s',Sim w0 S0 n W' s' a' w'∧Q e s') (K:=Q .normal) (fun s W a w h1 h2=>⟨W,s,h2,h1⟩) is 0 W s a w (by simpa using hmap) hs h;rw [hlen] at this;rw [List.range_eq_range'];exact this
   | true=>exact CK hE hp heq hm hmap (fun s W a w h1 h2=>⟨W,s,h2,h1⟩) hs hb h id
 | seq x y ihx ihy =>
   intro pc hc hb Q W s a w h hs;simp only [bD] at hc;split at hc
   ·rename_i px py hx hy;cases hc;simp only [backs,Bool.and_eq_true] at hb;refine wp_seq (wp_mono (ihx px hx hb.1 _ W s a w h hs) (fun e a' w' he=>?_));obtain ⟨W',s',hs',hq⟩:=he
    cases e with
    | normal=>exact ihy py hy hb.2 Q W' s' a' w' hq hs'
    | _=>exact ⟨W',s',hs',hq⟩
   ·cases hc
 | cond co x y ihx ihy =>
   intro pc hc hb Q W s a w h hs;simp only [bD] at hc;split at hc
   ·rename_i pcn px py hcn hx hy;cases hc;simp only [backs,Bool.and_eq_true] at hb;obtain ⟨t,ht,h1,h2⟩:=aj.1 h;exact wp_cond_split (sN hs hcn ht) (fun he=>ihx px hx hb.1 Q W s a w (h1 he) hs) (fun he=>ihy py hy hb.2 Q W s a w (h2 he) hs)
   ·cases hc
 | block id x ih =>
   intro pc hc hb Q W s a w h hs;simp only [bD,Option.map_eq_some_iff] at hc;obtain ⟨px,hx,rfl⟩:=hc;refine wp_block (wp_mono (ih px hx hb _ W s a w h hs) (fun e a' w' he=>?_));obtain ⟨W',s',hs',hq⟩:=he
   cases e with
   | exit i =>
     by_cases hi:i=id
     ·simp only [hi,if_true] at hq;simp only [Exit.inBlock,hi,if_true];exact ⟨W',s',hs',hq⟩
     ·simp only [hi,if_false] at hq;simp only [Exit.inBlock,hi,if_false];exact ⟨W',s',hs',hq⟩
   | _=>exact ⟨W',s',hs',hq⟩
 | loop x ih =>
   intro pc hc hb Q W s a w h hs;simp only [bD,Option.map_eq_some_iff] at hc;obtain ⟨px,hx,rfl⟩:=hc;obtain ⟨I,⟨k,hk⟩,hr⟩:=h;refine Ea (fun k a w=>∃ W s,Sim w0 S0 n W s a w∧I k s) ⟨k,W,s,hs,hk⟩ (fun k a w h=>?_);obtain ⟨W,s,hs,hI⟩:=h;refine wp_mono (ih px hx hb _ W s a w (hr k s hI) hs) (fun e a' w' he=>?_);obtain ⟨W',s',hs',hq⟩:=he
   cases e with
   | normal =>
     obtain ⟨m,hlt,hm⟩:=hq;exact ⟨m,hlt,W',s',hs',hm⟩
   | _=>exact ⟨W',s',hs',hq⟩
 | exit id=>intro pc hc _ Q W s a w h hs;simp [bD] at hc;subst hc;exact wp_exit ⟨W,s,hs,h⟩
 | ret=>intro pc hc _ Q W s a w h hs;simp [bD] at hc;subst hc;exact wp_ret ⟨W,s,hs,h⟩
 | rangeFunc=>intro pc hc;simp [bD] at hc
 | scope=>intro pc hc;simp [bD] at hc
 | label=>intro pc hc _ Q W s a w h hs;simp [bD] at hc;subst hc;exact wp_label ⟨W,s,hs,h⟩
 | goto=>intro pc hc _ Q W s a w h hs;simp [bD] at hc;subst hc;exact wp_goto ⟨W,s,hs,h⟩
 | refuse=>intro pc hc;simp [bD] at hc
theorem lS [Bor] [I:bT] {env:Env} (hE:aA P env) (hp:∀ w,iD w0.heap.size w0 w→I.p w) {eqs:List (Nat×List Bool)} (heq:∀ p,p ∈ eqs→EqT P p.1 p.2) (hm:P.follows .mixedOrders=true):∀ (c:Code) (pc:PC),bY P n eqs c=some pc→backs pc=true →
 ∀ (Q:Exit→St→Prop) (W:Wit) (s:St) (a:Act) (w:World),pwp env pc Q s→Sim w0 S0 n W s a w→c.wp P (fun e a' w'=>∃ W' s',Sim w0 S0 n W' s' a' w'∧Q e s') a w:=by
 intro c
 induction c with
 | scope x =>
   intro pc hc hb Q W s a w h hs;simp only [bY] at hc;split at hc
   ·rename_i px pr hx hr;cases hc;simp only [backs,Bool.and_eq_true] at hb;obtain ⟨rest,hf,hrest⟩:=Cc hr
    refine wp_scope_jumps (rest:=rest) 0 (fun a w=>∃ W s,Sim w0 S0 n W s a w∧pwp env pr (fun e2 s2=>match e2 with | .goto _=>False | e2=>Q e2 s2) s) (fun _ _=>0) hf ?_ ?_
    ·refine wp_mono (jU hE hp heq hm x px hx hb.1 _ W s a w h hs) (fun e a' w' he=>?_);obtain ⟨W',s',hs',hq⟩:=he
     cases e with
     | goto l'=>exact ⟨hq.1,W',s',hs',hq.2⟩
     | _=>exact ⟨W',s',hs',hq⟩
    ·rintro a1 w1 ⟨W1,s1,hs1,h1⟩;refine wp_mono (jU hE hp heq hm rest pr hrest hb.2 _ W1 s1 a1 w1 h1 hs1) (fun e a' w' he=>?_);obtain ⟨W',s',hs',hq⟩:=he
     cases e with
     | goto l'=>exact hq.elim
     | _=>exact ⟨W',s',hs',hq⟩
   ·cases hc
 | seq x y ihx ihy =>
   intro pc hc hb Q W s a w h hs;simp only [bY] at hc;split at hc
   ·rename_i px py hx hy;cases hc;simp only [backs,Bool.and_eq_true] at hb;refine wp_seq (wp_mono (ihx px hx hb.1 _ W s a w h hs) (fun e a' w' he=>?_));obtain ⟨W',s',hs',hq⟩:=he
    cases e with
    | normal=>exact ihy py hy hb.2 Q W' s' a' w' hq hs'
    | _=>exact ⟨W',s',hs',hq⟩
   ·cases hc
 | _=>intro pc hc;exact jU hE hp heq hm _ pc hc
end
inductive PR where
 | t (x:Nat)
 | c (x:Nat) (k:Option Nat)
def oV (P:Program):ResultVar→Option PR
 | .tmp t=>some (.t t)
 | .cell a t=>(szT P t).map (.c a)
def St.res1 (s:St):PR→Option Pa
 | .t x=>match s.sl x with
   | .b (.one (.sv o g off ln _ sz))=>if s.gen o=g then (match s.ob o with
     | .cells cs=>if off+ln * sz≤cs.length then (aC (((cs.drop off).take (ln * sz)).map Cl.dt)).map fun xs=>.one (.im (chunks ln sz xs)) else none
     | _=>none) else none
   | v=>v.pa
 | .c x k=>match s.sl x with
   | .b (.one (.ptr o g off))=>if s.gen o=g then (match s.ob o with | .cells cs=>(ni k cs off).bind Av.pa | _=>none) else none
   | _=>none
def St.res (s:St) (rs:List PR):Option (List Pa):=aC (rs.map s.res1)
def St.init (az:List Pa):St:=⟨fun x=>match az[x]? with | some p=>.b p.bv | none=>.un,fun _=>0,fun _=>.no,fun _=>0⟩
def Oa (s:St):PR→Bool
 | .t x=>match s.sl x with
   | .b (.one (.sv _ _ _ _ _ _))=>false
   | _=>true
 | .c _ _=>true
def St.DT (ds:List Dt) (az:List Pa):St:=⟨fun x=>match x with
 | 0=>.b (.one (.ptr 0 0 0))
 | k+1=>match az[k]? with | some p=>.b p.bv | none=>.un,fun _=>0,fun o=>if o=0 then .cells (ds.map .d) else .no,fun _=>0⟩
def pF (tmps:Array Value):ResultVar→Sem Value
 | .tmp t=>pure (tmps.getD t undef)
 | .cell a t=>do loadVar t (←asAddr (tmps.getD a undef))
def Ub (W:Wit) (s:St) (b:Nat):Prop:=(∃ o H,s.ob o=.ab H∧W.fp o b)∨∃ o f,s.ob o=.hp f∧cl W o (.hp f) b
def W00 (blk:Nat→Nat) (S:Nat→Nat):Wit:=⟨blk,fun _=>undef,fun _=>undef,fun _ _=>False,S,fun _=>0,fun _=>undef,fun _ _=>False,fun _=>0,fun _=>False⟩
abbrev DY:Bor:=⟨none,fun _=>False,fun _=>False,fun _=>0,fun _=>undef,[]⟩
theorem Bf (b:Nat):¬ @Bor.fp DY b:=fun h=>by
 rcases h with h | h
 ·cases h
 ·exact h
open Classical in
noncomputable def frz (w0:World) (W:Wit) (s:St) (w:World):Nat→Nat:=fun b=>if b < w0.heap.size then W.S b else if Ub W s b then 0 else W.S b+(match w.heap[b]? with | some (.cells arr _ _)=>arr.size | _=>0)
theorem oD [Bor] {n:Nat} {S0:Nat→Nat} {a:Act} {w0:World} {W:Wit} {s:St} {w:World} (hs:Sim w0 S0 n W s a w):Ext W.S (frz w0 W s w) w w:=fun b i h1 _=>by
 refine ⟨?_,rfl⟩;unfold frz;split
 ·exact h1
 ·split
  ·rename_i hab
   rcases hab with ⟨o,H,ho,hf⟩ | ⟨o,f,ho,m,hf⟩
   ·have:=hs.ob o;rw [ho] at this;rw [(this.2 b hf).2] at h1;omega
   ·have:=hs.ob o;rw [ho] at this;rw [(this.mine m b hf).2.1] at h1;omega
  ·omega
theorem RP.ext {S S':Nat→Nat} {w w':World} (h:Ext S S' w w') {p:Pa} {v:Value} (hp:RP S w p v):RP S' w' p v:=by
 cases p with
 | one x=>exact RD.ext h hp
 | agg xs=>obtain ⟨arr,h1,h2,h3⟩:=hp;exact ⟨arr,h1,h2,fun i x u e1 e2=>RD.ext h (h3 i x u e1 e2)⟩
theorem nZ {α:Type} (n sz:Nat) (xs:List α):(chunks n sz xs).length=n:=by rw [nH];simp
theorem tX {α:Type} {n sz i:Nat} {xs:List α} {r:List α} (h:(chunks n sz xs)[i]? = some r):i < n∧r=(xs.drop (i * sz)).take sz:=by
 have hi:=(List.getElem?_eq_some_iff.1 h).1;rw [nZ] at hi;rw [nH,List.getElem?_map,List.getElem?_range hi] at h;simp only [Option.map_some,Option.some.injEq] at h;exact ⟨hi,h.symm⟩
theorem KT [Bor] {P:Program} {n:Nat} {w0:World} {S0:Nat→Nat} {W:Wit} {s:St} {a:Act} {w:World} (hs:Sim w0 S0 n W s a w) {rv:ResultVar} {r:PR} {p:Pa} (hr:oV P rv=some r) (hp:s.res1 r=some p) (hn:(∀ b,¬ Bor.fp b)∨Oa s r=true) :
 ∃ v,(pF a.tmps rv).run P w=.ok v w∧RP (frz w0 W s w) w p v:=by
 cases rv with
 | tmp t =>
   cases hr;refine ⟨_,rfl,?_⟩;simp only [St.res1] at hp;split at hp
   ·rename_i o g off ln cap sz hsl;split at hp
    ·rename_i hg;split at hp
     ·rename_i cs hob;split at hp
      ·rename_i hle;simp only [Option.map_eq_some_iff] at hp;obtain ⟨xs,hxs,rfl⟩:=hp;have h1:=hs.sl t;rw [hsl] at h1;obtain ⟨b,hv,hlc,hcm,_,hb⟩:=h1;have hb:=hb hg.symm;subst hb;have hro:=hs.ob o;rw [hob] at hro;obtain ⟨arr,T,h4,h5,h6,h7⟩:=hro;have hall:=eF _ _ hxs
       have hxl:xs.length=ln * sz:=by
        have:=congrArg List.length hall;simp at this;omega
       rw [hv]
       have hge:w0.heap.size≤W.blk o:=by
        rcases hn with hn | hn
        ·exact h5.elim id (fun hf=>absurd hf (hn _))
        ·simp only [Oa,hsl] at hn;cases hn
       have hrl:=nZ ln sz xs
       show RD (frz w0 W s w) w (.im (chunks ln sz xs)) _
       have:=RD.block (S:=frz w0 W s w) (w:=w) (rows:=chunks ln sz xs) (b:=W.blk o) (o:=off) (cap:=cap) (sz:=sz) (vs:=(arr.toList.drop off).take (ln * sz)) (fun r hr=>?_) ?_ (fun j u hj=>?_) (by rw [hrl];exact hlc) hcm (fun i r j x hr hx=>?_)
       ·rw [hrl] at this;exact this
       ·obtain ⟨i,hi⟩:=List.getElem?_of_mem hr;obtain ⟨h8,rfl⟩:=tX hi;rw [List.length_take,List.length_drop,hxl];have:(i+1) * sz≤ln * sz:=Nat.mul_le_mul_right _ h8;rw [Nat.add_mul,Nat.one_mul] at this;omega
       ·rw [hrl,List.length_take,List.length_drop,←h7.1];omega
       ·rw [List.getElem?_take] at hj;split at hj
        ·rw [List.getElem?_drop] at hj;have hlt:=(List.getElem?_eq_some_iff.1 hj).1;refine ⟨?_,?_⟩
         ·simp only [World.cell?,h4]
          simpa using hj
         ·unfold frz
          rw [if_neg (by omega),if_neg (fun hab=>by
           rcases hab with ⟨o2,H,ho2,hf⟩ | ⟨o2,f,ho2,hf⟩ <;>
            (have he:=hs.ex o o2 (W.blk o) (by rw [hob];rfl) (by rw [ho2];exact hf)
             subst he;rw [hob] at ho2;cases ho2)),h4]
          simp at hlt ⊢;omega
        ·cases hj
       ·obtain ⟨h8,rfl⟩:=tX hr;rw [List.getElem?_take] at hx;split at hx
        ·rename_i hj;rw [List.getElem?_drop] at hx;have h9:(((cs.drop off).take (ln * sz)).map Cl.dt)[i * sz+j]? = some (some x):=by rw [hall,List.getElem?_map,hx];rfl
         rw [List.getElem?_map,Option.map_eq_some_iff] at h9;obtain ⟨c,hc,hcd⟩:=h9
         have hlt:i * sz+j < ln * sz:=by
          have:(i+1) * sz≤ln * sz:=Nat.mul_le_mul_right _ h8;rw [Nat.add_mul,Nat.one_mul] at this;omega
         rw [List.getElem?_take,if_pos hlt,List.getElem?_drop] at hc;obtain ⟨u,hu⟩:∃ u,arr.toList[off+(i * sz+j)]? = some u:=⟨_,List.getElem?_eq_getElem (by have:=(List.getElem?_eq_some_iff.1 hc).1;rw [←h7.1];exact this)⟩
         refine ⟨u,by rw [List.getElem?_take,if_pos hlt,List.getElem?_drop];exact hu,RD.ext (oD hs) (RC.dt (h7.2 _ _ _ hc hu) hcd)⟩
        ·cases hx
      ·cases hp
     ·cases hp
    ·cases hp
   ·exact RP.ext (oD hs) (RA.pa (hs.sl t) hp)
 | cell c t =>
   simp only [oV,Option.map_eq_some_iff] at hr;obtain ⟨k,hk,rfl⟩:=hr;obtain ⟨d,i,hu,hi,hkk⟩:=oL hk;simp only [St.res1] at hp;split at hp
   ·rename_i o g off hsl;split at hp
    ·rename_i hg;split at hp
     ·rename_i cs hob;simp only [Option.bind_eq_some_iff] at hp;obtain ⟨v,hv,hp⟩:=hp;have h1:=hs.sl c;rw [hsl] at h1;have h2:=h1.2.2 hg.symm;have hro:=hs.ob o;rw [hob] at hro;obtain ⟨arr,T,h4,h5,h6,h7⟩:=hro
      have hcell:∀ (j:Nat) u,arr.toList[j]? = some u→w.cell? ⟨W.blk o,j,none⟩=some u:=fun j u hj=>by
       simp only [World.cell?,h4]
       simpa using hj
      have hag:=jB (P:=P) hu w;unfold pF;dsimp only;rw [h2]
      rcases lW h7 hv with ⟨rfl,c',u,e1,e2,rfl,e3⟩ | ⟨m,rfl,e1,rfl,e2⟩
      ·have hf:kF d=false:=by cases h:kF d <;> simp [h] at hkk ⊢
       rw [hf] at hag;refine ⟨u,?_,RP.ext (oD hs) (RA.pa (G:=s.gen) (O:=s.ob) (v:=.b (.one c')) e3 hp)⟩;simp [asAddr,loadVar,hag,hcell off u e2]
      ·have ht:kF d=true:=by cases h:kF d <;> simp [h] at hkk ⊢
       rw [ht] at hag hkk;simp at hkk;subst hkk;have hlen:((arr.toList.drop off).take i.size).length=i.size:=by simp at e1 ⊢;omega
       have hl:=run_loadCells_list (P:=P) w ⟨W.blk o,off,none⟩ ((arr.toList.drop off).take i.size) (fun j u hj=>by
        rw [addr_add];rw [List.getElem?_take] at hj;split at hj
        ·rw [List.getElem?_drop] at hj;exact hcell _ _ hj
        ·cases hj)
       rw [hlen] at hl;refine ⟨.agg ((arr.toList.drop off).take i.size).toArray,?_,RP.ext (oD hs) (RA.pa (G:=s.gen) (O:=s.ob) (v:=.b (.agg ((cs.drop off).take i.size))) ⟨_,rfl,by simpa using e2⟩ hp)⟩;simp only [asAddr,Sem.run_bind,Sem.run_pure,Result.andThen_ok,loadVar,hag,if_true,sizeOf,typeInfo,run_program,hi,hl]
     ·cases hp
    ·cases hp
   ·cases hp
theorem sD [Bor] {P:Program} {n:Nat} {w0:World} {S0:Nat→Nat} {W:Wit} {s:St} {a:Act} {w:World} (hs:Sim w0 S0 n W s a w):∀ (rvs:List ResultVar) (prs:List PR) (ps:List Pa),aC (rvs.map (oV P))=some prs→s.res prs=some ps→((∀ b,¬ Bor.fp b)∨prs.all (Oa s)=true) →
 ∃ vs:List Value,(rvs.mapM (pF a.tmps)).run P w=.ok vs w∧ps.length=vs.length∧∀ (i:Nat) p u,ps[i]? = some p→vs[i]? = some u→RP (frz w0 W s w) w p u
 | [],prs,ps,h1,h2,hn=>by
   simp [aC] at h1;subst h1;simp [St.res,aC] at h2;subst h2;exact ⟨[],by simp,rfl,fun i p u h=>by simp at h⟩
 | rv :: rvs,prs,ps,h1,h2,hn=>by
   simp only [List.map_cons] at h1
   cases hr:oV P rv with
   | none=>rw [hr] at h1;simp [aC] at h1
   | some r =>
     rw [hr] at h1;simp only [aC,Option.map_eq_some_iff] at h1;obtain ⟨prs',hp,rfl⟩:=h1;simp only [St.res,List.map_cons] at h2
     cases hr1:s.res1 r with
     | none=>rw [hr1] at h2;simp [aC] at h2
     | some p =>
       rw [hr1] at h2;simp only [aC,Option.map_eq_some_iff] at h2;obtain ⟨ps',hps,rfl⟩:=h2;obtain ⟨v,h3,h4⟩:=KT hs hr hr1 (hn.imp id fun h=>by simp only [List.all_cons,Bool.and_eq_true] at h;exact h.1)
       obtain ⟨vs,h5,h6,h7⟩:=sD hs rvs prs' ps' hp hps (hn.imp id fun h=>by simp only [List.all_cons,Bool.and_eq_true] at h;exact h.2)
       refine ⟨v :: vs,?_,by simp [h6],fun i q u e1 e2=>?_⟩
       ·rw [List.mapM_cons,Sem.run_bind,h3,Result.andThen_ok,Sem.run_bind,h5];rfl
       ·cases i with
        | zero=>simp at e1 e2;subst e1;subst e2;exact h4
        | succ i=>exact h7 i q u (by simpa using e1) (by simpa using e2)
theorem iD.none {w w':World} {B:Nat} (h:@iD DY B w w'):Below B w w':=by
 letI:Bor:=DY
 exact ⟨h.os,h.tape,h.output,h.size,fun k hk=>h.block k hk (Bf k)⟩
theorem bX [I:bT] {P:Program} {env:Env} (hE:aA P env) {eqs:List (Nat×List Bool)} (heq:∀ p,p ∈ eqs→EqT P p.1 p.2) (hm:P.follows .mixedOrders=true) {f:Nat} {fn:Func} {c:Code} {pc:PC} {prs:List PR} (hf:P.funcs[f]? = some fn) (hb:fn.body=some c)
 (hc:bY P fn.ntmps eqs c=some pc) (hback:backs pc=true) (hsm:Nat.ble fn.ntmps gI=true) (hr:aC (fn.results.toList.map (oV P))=some prs) {R:List Pa→List Pa→Prop}
 (hR:∀ az rs,R az rs→az.length≤fn.ntmps∧pwp env pc (fun e s=>(e=.normal∨e=.ret)∧s.res prs=some rs) (St.init az)):Spec P f R:=by
 intro az rs has S w vals hwi hvals;obtain ⟨hlen,hw⟩:=hR az rs has
 letI:Bor:=DY
 refine calls_of_wp hf hb ?_
 have hinit:Sim w S fn.ntmps (W00 (fun _=>0) S) (St.init az) { tmps:=vals ++ Array.replicate (fn.ntmps - vals.size) undef,defers:=[] } w:=by
  refine ⟨iD.refl _ _,fun _ _=>rfl,?_,rfl,fun x=>?_,fun _=>trivial,fun o o' b h=>h.elim,(fun b h=>by cases h),rfl,fun b=>⟨fun h=>h.elim,fun h=>h rfl⟩,Nat.le_of_ble_eq_true hsm,fun b h=>h.elim⟩
  ·have:=hvals.1;simp;omega
  ·show RA _ _ _ _ (match az[x]? with | some p=>.b p.bv | none=>.un) _
   cases hx:az[x]? with
   | none=>trivial
   | some p =>
     have hlt:x < vals.size:=by rw [←hvals.1];exact (List.getElem?_eq_some_iff.1 hx).1
     have:(vals ++ Array.replicate (fn.ntmps - vals.size) undef).getD x undef=vals[x]:=by
      rw [Array.getD_eq_getD_getElem?,Array.getElem?_append_left hlt,Array.getElem?_eq_getElem hlt];rfl
     rw [this];exact RP.av (W:=(W00 (fun _=>0) S)) (hvals.2 x p _ hx (Array.getElem?_eq_getElem hlt))
 refine wp_mono (lS hE (fun w2 h2=>I.keep _ _ (iD.none h2) hwi) heq hm c pc hc hback _ _ _ _ _ hw hinit) (fun e a' w' he=>?_);obtain ⟨W',s',hs',hret,hres⟩:=he
 have hfin:bodyPost P fn (fun e w'=>∃ v S',e=.returned v∧RR S' w' rs v∧Below w.heap.size w w'∧∀ b,b < w.heap.size→S' b=S b) .ret a' w':=by
  refine ⟨hs'.dfs,?_⟩;obtain ⟨vs,h1,h2,h3⟩:=sD (P:=P) hs' fn.results.toList prs rs hr hres (.inl Bf)
  have h4:(results fn a'.tmps).run P w'=.ok (if h:vs.length=1 then vs[0] else .tuple vs.toArray) w':=by
   have h5:results fn a'.tmps=(fn.results.mapM (pF a'.tmps)) >>= fun vs=>pure (if h:vs.size=1 then vs[0] else .tuple vs):=by
    unfold results
    congr 1
   have h6:fn.results=fn.results.toList.toArray:=by simp
   rw [h5,h6,List.mapM_toArray,Sem.run_bind,Sem.run_map,h1];simp
  refine ⟨_,h4,_,frz w W' s' w',rfl,?_,iD.none hs'.below,fun b hb=>by unfold frz;rw [if_pos hb];exact hs'.s0 b hb⟩
  match rs,vs,h2,h3 with
  | [],_,_,_=>trivial
  | [p],[v],_,h3=>exact h3 0 p v rfl rfl
  | p :: q :: r,vs,h2,h3 =>
    have hne:¬ vs.length=1:=by rw [←h2];simp
    rw [dif_neg hne];exact ⟨vs.toArray,rfl,by simpa using h2,fun i p u e1 e2=>h3 i p u e1 (by simpa using e2)⟩
 rcases hret with rfl | rfl
 ·exact hfin
 ·exact hfin
def St.OM (s:St) (x:Nat):Option (Nat×Nat×List (List Dt)):=match s.sl x with
 | .b (.one (.own o g rows))=>if s.gen o=g then (match s.ob o with
   | .row E sz n=>if n=rows.length then some (E,sz,rows) else none
   | _=>none) else none
 | _=>none
theorem o7 [I:bT] {P:Program} {env:Env} (hE:aA P env) {eqs:List (Nat×List Bool)} (heq:∀ p,p ∈ eqs→EqT P p.1 p.2) (hm:P.follows .mixedOrders=true) {f:Nat} {fn:Func} {c:Code} {pc:PC} {t:Nat} (hf:P.funcs[f]? = some fn) (hb:fn.body=some c)
 (hc:bY P fn.ntmps eqs c=some pc) (hback:backs pc=true) (hsm:Nat.ble fn.ntmps gI=true) (hr:fn.results=#[.tmp t]) {R:List Pa→Nat→Nat→List (List Dt)→Prop}
 (hR:∀ az E sz rows,R az E sz rows→az.length≤fn.ntmps∧pwp env pc (fun e s=>(e=.normal∨e=.ret)∧s.OM t=some (E,sz,rows)) (St.init az)):yQ P f R:=by
 intro az E sz rows has S w vals hwi hvals;obtain ⟨hlen,hw⟩:=hR az E sz rows has
 letI:Bor:=DY
 refine calls_of_wp hf hb ?_
 have hinit:Sim w S fn.ntmps (W00 (fun _=>0) S) (St.init az) { tmps:=vals ++ Array.replicate (fn.ntmps - vals.size) undef,defers:=[] } w:=by
  refine ⟨iD.refl _ _,fun _ _=>rfl,?_,rfl,fun x=>?_,fun _=>trivial,fun o o' b h=>h.elim,(fun b h=>by cases h),rfl,fun b=>⟨fun h=>h.elim,fun h=>h rfl⟩,Nat.le_of_ble_eq_true hsm,fun b h=>h.elim⟩
  ·have:=hvals.1;simp;omega
  ·show RA _ _ _ _ (match az[x]? with | some p=>.b p.bv | none=>.un) _
   cases hx:az[x]? with
   | none=>trivial
   | some p =>
     have hlt:x < vals.size:=by rw [←hvals.1];exact (List.getElem?_eq_some_iff.1 hx).1
     have:(vals ++ Array.replicate (fn.ntmps - vals.size) undef).getD x undef=vals[x]:=by
      rw [Array.getD_eq_getD_getElem?,Array.getElem?_append_left hlt,Array.getElem?_eq_getElem hlt];rfl
     rw [this];exact RP.av (W:=(W00 (fun _=>0) S)) (hvals.2 x p _ hx (Array.getElem?_eq_getElem hlt))
 refine wp_mono (lS hE (fun w2 h2=>I.keep _ _ (iD.none h2) hwi) heq hm c pc hc hback _ _ _ _ _ hw hinit) (fun e a' w' he=>?_);obtain ⟨W',s',hs',hret,hres⟩:=he
 have hfin:bodyPost P fn (fun e w'=>∃ v S' xs,e=.returned v∧RD S' w' (.im rows) v∧Below w.heap.size w w'∧(∀ b,b < w.heap.size→S' b=S b)∧bI w' w.heap.size E sz v rows.length xs∧(∀ r,r ∈ rows→r.length=sz)∧∀ g,v.ownBlock=some g→S' g≤rows.length * sz) .ret a' w':=by
  refine ⟨hs'.dfs,?_⟩
  have h4:(results fn a'.tmps).run P w'=.ok (a'.tmps.getD t undef) w':=by
   unfold results;rw [hr];simp [pF]
  unfold St.OM at hres;split at hres
  ·rename_i o g rows' hsl;split at hres
   ·rename_i hg;split at hres
    ·rename_i E' sz' n' hob;split at hres
     ·rename_i hn;simp only [Option.some.injEq,Prod.mk.injEq] at hres;obtain ⟨rfl,rfl,rfl⟩:=hres;have h1:=hs'.sl t;rw [hsl] at h1;obtain ⟨hd,_,hown⟩:=h1;obtain ⟨q1,_,q3⟩:=hown hg.symm _ _ _ hob;have hro:=hs'.ob o;rw [hob] at hro;obtain ⟨xs,hxs,hxS⟩:=hro;have hv:=q3 hn;rw [←hv,hn] at hxs;rw [←hv,hn] at hxS;exact ⟨_,h4,_,W'.S,xs,rfl,hd,iD.none hs'.below,fun b hb=>hs'.s0 b hb,hxs,q1,hxS⟩
     ·cases hres
    ·cases hres
   ·cases hres
  ·cases hres
 rcases hret with rfl | rfl
 ·exact hfin
 ·exact hfin
def St.eG (nc:Nat→Nat) (hp:Nat→Hb) (az:List Hw):St:=⟨fun x=>match az[x]? with | some p=>.b p.bv | none=>.un,fun _=>0,fun o=>if HBS≤o then .hp (fun b=>if HBS+nc b=o then hp b else .no) else .no,nc⟩
theorem qJ (nc:Nat→Nat) (hp:Nat→Hb) (az:List Hw):(St.eG nc hp az).hb=hp:=by
 funext b
 show eU (if HBS≤HBS+nc b then _ else _) b=hp b
 rw [if_pos (Nat.le_add_right _ _)]
 show (if HBS+nc b=HBS+nc b then hp b else .no)=_
 rw [if_pos rfl]
def St.zo (s:St):PR→Option Hw
 | .t x=>(s.sl x).hw
 | .c x k=>match s.sl x with
   | .b (.one (.ptr o g off))=>if s.gen o=g then (match s.ob o with | .cells cs=>(ni k cs off).bind Av.hw | _=>none) else none
   | .b (.one (.hv (.p b off)))=>match s.hb b with
     | .cells cs=>(ni k (cs.map Hc.cl) off).bind Av.hw
     | _=>none
   | _=>none
def St.gP (s:St) (rs:List PR):Option (List Hw):=aC (rs.map s.zo)
theorem IL [Bor] {n:Nat} {w0:World} {S0:Nat→Nat} {W:Wit} {s:St} {a:Act} {w:World} {v:Av} {u:Hw} {rv':Value} (h:RA W s.gen s.ob w v rv') (hv:v.hw=some u):RB W s.gen s.ob w u.bv rv':=by
 unfold Av.hw at hv;split at hv
 ·rename_i y
  cases y with
  | one c =>
    simp only [Bv.hw,Option.map_eq_some_iff] at hv;obtain ⟨z,hz,rfl⟩:=hv;exact RC.hc h hz
  | agg cs =>
    simp only [Bv.hw,Option.map_eq_some_iff] at hv;obtain ⟨z,hz,rfl⟩:=hv;obtain ⟨arr,h1,h2⟩:=h;exact ⟨arr,h1,h2.hcs hz⟩
 ·cases hv
theorem xw {P:Program} {t:TypeId} {d:TypeDesc} {i:TypeInfo} {k:Option Nat} (hu:P.underlying t=some d) (hi:P.info? t=some i) (hk:k=if kF d=true then some i.size else none) {W:Wit} {s:St} {w:World} {b off:Nat} {cs:List Cl} {arr:Array Value} {v:Av}
 (hr:RCs W s.gen s.ob w cs arr.toList) (hcell:∀ (j:Nat) u,arr.toList[j]? = some u→w.cell? ⟨b,j,none⟩=some u) (hv:ni k cs off=some v):∃ rv',(loadVar t ⟨b,off,none⟩).run P w=.ok rv' w∧RA W s.gen s.ob w v rv':=by
 have hag:=jB (P:=P) hu w
 rcases lW hr hv with ⟨rfl,c',u,e1,e2,rfl,e3⟩ | ⟨m,rfl,e1,rfl,e2⟩
 ·have hf:kF d=false:=by cases h:kF d <;> simp [h] at hk ⊢
  rw [hf] at hag;exact ⟨u,by simp [loadVar,hag,hcell off u e2],e3⟩
 ·have ht:kF d=true:=by cases h:kF d <;> simp [h] at hk ⊢
  rw [ht] at hag hk;simp at hk;subst hk;have hlen:((arr.toList.drop off).take i.size).length=i.size:=by simp at e1 ⊢;omega
  have hl:=run_loadCells_list (P:=P) w ⟨b,off,none⟩ ((arr.toList.drop off).take i.size) (fun j u hj=>by
   rw [addr_add];rw [List.getElem?_take] at hj;split at hj
   ·rw [List.getElem?_drop] at hj;exact hcell _ _ hj
   ·cases hj)
  rw [hlen] at hl;refine ⟨.agg ((arr.toList.drop off).take i.size).toArray,?_,_,rfl,by simpa using e2⟩;simp only [loadVar,hag,Sem.run_bind,Result.andThen_ok,if_true,sizeOf,typeInfo,run_program,hi,hl,Sem.run_pure]
theorem Ij [Bor] {P:Program} {n:Nat} {w0:World} {S0:Nat→Nat} {W:Wit} {s:St} {a:Act} {w:World} (hs:Sim w0 S0 n W s a w) {rv0:ResultVar} {r:PR} {p:Hw} (hr:oV P rv0=some r) (hp:s.zo r=some p) :
 ∃ v,(pF a.tmps rv0).run P w=.ok v w∧RB W s.gen s.ob w p.bv v:=by
 cases rv0 with
 | tmp t=>cases hr;exact ⟨_,rfl,IL (n:=n) (w0:=w0) (S0:=S0) (a:=a) (hs.sl t) hp⟩
 | cell c t =>
   simp only [oV,Option.map_eq_some_iff] at hr;obtain ⟨k,hk,rfl⟩:=hr;obtain ⟨d,i,hu,hi,hkk⟩:=oL hk;simp only [St.zo] at hp;split at hp
   ·rename_i o g off hsl;split at hp
    ·rename_i hg;split at hp
     ·rename_i cs hob;simp only [Option.bind_eq_some_iff] at hp;obtain ⟨v,hv,hp⟩:=hp;have h1:=hs.sl c;rw [hsl] at h1;have h2:=h1.2.2 hg.symm;have hro:=hs.ob o;rw [hob] at hro;obtain ⟨arr,T,h4,h5,h6,h7⟩:=hro;obtain ⟨rv',g1,g2⟩:=xw (P:=P) hu hi hkk (b:=W.blk o) h7 (fun j u hj=>by simp only [World.cell?,h4];simpa using hj) hv
      refine ⟨rv',?_,IL (n:=n) (w0:=w0) (S0:=S0) (a:=a) g2 hp⟩;unfold pF;dsimp only;rw [h2];simp [asAddr,g1]
     ·cases hp
    ·cases hp
   ·rename_i b off hsl;split at hp
    ·rename_i cs hb;simp only [Option.bind_eq_some_iff] at hp;obtain ⟨v,hv,hp⟩:=hp;have h1:=hs.sl c;rw [hsl] at h1;have h2:a.tmps.getD c undef=.pointer (some ⟨W.nm b,off,none⟩):=h1.1;obtain ⟨⟨arr,T,h4,h7⟩,_⟩:=pz hs hb (by simp);obtain ⟨rv',g1,g2⟩:=xw (P:=P) hu hi hkk (b:=W.nm b) h7 (fun j u hj=>by simp only [World.cell?,h4];simpa using hj) hv
     refine ⟨rv',?_,IL (n:=n) (w0:=w0) (S0:=S0) (a:=a) g2 hp⟩;unfold pF;dsimp only;rw [h2];simp [asAddr,g1]
    ·cases hp
   ·cases hp
theorem rG [Bor] {P:Program} {n:Nat} {w0:World} {S0:Nat→Nat} {W:Wit} {s:St} {a:Act} {w:World} (hs:Sim w0 S0 n W s a w):∀ (rvs:List ResultVar) (prs:List PR) (ps:List Hw),aC (rvs.map (oV P))=some prs→s.gP prs=some ps →
 ∃ vs:List Value,(rvs.mapM (pF a.tmps)).run P w=.ok vs w∧ps.length=vs.length∧∀ (i:Nat) p u,ps[i]? = some p→vs[i]? = some u→RB W s.gen s.ob w p.bv u
 | [],prs,ps,h1,h2=>by
   simp [aC] at h1;subst h1;simp [St.gP,aC] at h2;subst h2;exact ⟨[],by simp,rfl,fun i p u h=>by simp at h⟩
 | rv0 :: rvs,prs,ps,h1,h2=>by
   simp only [List.map_cons] at h1
   cases hr:oV P rv0 with
   | none=>rw [hr] at h1;simp [aC] at h1
   | some r =>
     rw [hr] at h1;simp only [aC,Option.map_eq_some_iff] at h1;obtain ⟨prs',hp,rfl⟩:=h1;simp only [St.gP,List.map_cons] at h2
     cases hr1:s.zo r with
     | none=>rw [hr1] at h2;simp [aC] at h2
     | some p =>
       rw [hr1] at h2;simp only [aC,Option.map_eq_some_iff] at h2;obtain ⟨ps',hps,rfl⟩:=h2;obtain ⟨v,h3,h4⟩:=Ij hs hr hr1;obtain ⟨vs,h5,h6,h7⟩:=rG hs rvs prs' ps' hp hps;refine ⟨v :: vs,?_,by simp [h6],fun i q u e1 e2=>?_⟩
       ·rw [List.mapM_cons,Sem.run_bind,h3,Result.andThen_ok,Sem.run_bind,h5];rfl
       ·cases i with
        | zero=>simp at e1 e2;subst e1;subst e2;exact h4
        | succ i=>exact h7 i q u (by simpa using e1) (by simpa using e2)
def Wit.fin (W:Wit) (S':Nat→Nat):Wit:={ W with S:=S' }
theorem RHp.yJ {W:Wit} {w:World} {hp:Nat→Hb} (h:RHp W w hp) (nc:Nat→Nat) (az:List Hw) {o:Nat} (ho:HBS≤o) [Bor] (hB:∀ k,dG W hp k→Bor.fp k) :
 RP' w.heap.size { W with nc:=nc,blk:=fun _=>0,val:=fun _=>undef,adr:=fun _=>undef,fp:=fun _ _=>False } (St.eG nc hp az).gen (St.eG nc hp az).ob w o (fun b=>if HBS+nc b=o then hp b else .no):=by
 refine ⟨fun b hn=>?_,fun b hn=>?_,fun b k hk=>?_,fun b=>?_,fun b b' k e1 e2=>?_⟩
 ·split at hn
  ·rename_i he;exact he
  ·exact absurd rfl hn
 ·split at hn
  ·exact (h.lv b).2 hn
  ·exact absurd rfl hn
 ·split at hk
  ·have hk':=(hcl.indep (W:=W) rfl rfl rfl b (hp b) k).1 hk;exact ⟨.inr (hB k ⟨b,hk'⟩),(h.mine b k hk').1,(h.mine b k hk').2⟩
  ·exact hk.elim
 ·split
  ·refine RH.indep (W:=W) ?_ ?_ ?_ ?_ ?_ (h.at_ b) <;> rfl
  ·trivial
 ·split at e1
  ·split at e2
   ·exact h.ex b b' k ((hcl.indep (W:=W) rfl rfl rfl b (hp b) k).1 e1) ((hcl.indep (W:=W) rfl rfl rfl b' (hp b') k).1 e2)
   ·exact e2.elim
  ·exact e1.elim
theorem RHp.dead {W:Wit} {w:World} {hp hp':Nat→Hb} (h:RHp W w hp) (hd:∀ b,hp' b=hp b∨(hp' b=.dead∧hp b≠.no)):RHp W w hp':=by
 have hc:∀ b k,hcl W b (hp' b) k→hcl W b (hp b) k:=fun b k hk=>by
  rcases hd b with e | ⟨e,_⟩
  ·rw [←e];exact hk
  ·rw [e] at hk;exact hk.elim
 refine ⟨fun b=>?_,fun b k hk=>h.mine b k (hc b k hk),fun b=>?_,fun b b' k e1 e2=>h.ex b b' k (hc b k e1) (hc b' k e2)⟩
 ·rw [h.lv b]
  rcases hd b with e | ⟨e,e2⟩
  ·rw [e]
  ·rw [e];exact ⟨fun _=>by simp,fun _=>e2⟩
 ·rcases hd b with e | ⟨e,_⟩
  ·rw [e];exact h.at_ b
  ·rw [e];trivial
theorem eP [I:bT] {P:Program} {env:Env} (hE:aA P env) {eqs:List (Nat×List Bool)} (heq:∀ p,p ∈ eqs→EqT P p.1 p.2) (hm:P.follows .mixedOrders=true) {f:Nat} {fn:Func} {c:Code} {pc:PC} {prs:List PR} (hf:P.funcs[f]? = some fn) (hb:fn.body=some c)
 (hc:bY P fn.ntmps eqs c=some pc) (hback:backs pc=true) (hsm:Nat.ble fn.ntmps gI=true) (hr:aC (fn.results.toList.map (oV P))=some prs) {R:(Nat→Hb)→List Hw→((Nat→Hb)→List Hw→Prop)→Prop}
 (hR:∀ hp az Post,R hp az Post→az.length≤fn.ntmps∧∃ nc,pwp env pc (fun e s=>(e=.normal∨e=.ret)∧∃ hp' rs,s.gP prs=some rs∧(∀ b,hp' b=s.hb b∨(hp' b=.dead∧s.hb b≠.no))∧Post hp' rs) (St.eG nc hp az)):dY P f R:=by
 intro hp az Post has W w vals hI hrp hvals;obtain ⟨hlen,nc,hw⟩:=hR hp az Post has
 letI:Bor:=⟨none,dG W hp,W.lv,W.nm,W.nv,[]⟩
 have hfpB:∀ k,Bor.fp k↔dG W hp k:=fun k=>⟨fun h=>h.elim (fun h=>by cases h) id,.inr⟩
 have toF:∀ {w':World},iD w.heap.size w w'→kL (dG W hp) w w':=fun h=>⟨h.os,h.tape,h.output,h.size,fun k hk hne=>h.block k hk (fun e=>hne ((hfpB k).1 e))⟩
 obtain ⟨W0,hW0⟩:∃ W0:Wit,{ W with nc:=nc,blk:=fun _=>0,val:=fun _=>undef,adr:=fun _=>undef,fp:=fun _ _=>False }=W0:=⟨_,rfl⟩
 refine calls_of_wp hf hb ?_
 have hcl0:∀ o b,cl W0 o ((St.eG nc hp az).ob o) b→HBS≤o∧∃ m,HBS+nc m=o∧hcl W m (hp m) b:=fun o b h=>by
  have h':cl W0 o (if HBS≤o then .hp (fun b=>if HBS+nc b=o then hp b else .no) else .no) b:=h;split at h'
  ·rename_i ho;obtain ⟨m,hm2⟩:=h';dsimp only at hm2;split at hm2
   ·rename_i he;exact ⟨ho,m,he,(hcl.indep (W:=W) (by rw [←hW0]) (by rw [←hW0]) (by rw [←hW0]) m (hp m) b).1 hm2⟩
   ·exact hm2.elim
  ·exact h'.elim
 have hinit:Sim w W.S fn.ntmps W0 (St.eG nc hp az) { tmps:=vals ++ Array.replicate (fn.ntmps - vals.size) undef,defers:=[] } w:=by
  refine ⟨iD.refl _ _,fun b _=>by rw [←hW0],?_,rfl,fun x=>?_,fun o=>?_,fun o o' b h h'=>?_,(fun b h=>by cases h),by rw [←hW0];rfl,fun b=>by rw [qJ,←hW0];exact hrp.lv b,Nat.le_of_ble_eq_true hsm,fun b hb2=>by rw [←hW0];exact ⟨hb2,rfl,rfl⟩⟩
  ·have:=hvals.1;simp;omega
  ·show RA _ _ _ _ (match az[x]? with | some p=>.b p.bv | none=>.un) _
   cases hx:az[x]? with
   | none=>trivial
   | some p =>
     have hlt:x < vals.size:=by rw [←hvals.1];exact (List.getElem?_eq_some_iff.1 hx).1
     have:(vals ++ Array.replicate (fn.ntmps - vals.size) undef).getD x undef=vals[x]:=by
      rw [Array.getD_eq_getD_getElem?,Array.getElem?_append_left hlt,Array.getElem?_eq_getElem hlt];rfl
     rw [this];exact RB.indep (W:=W) (by rw [←hW0]) (by rw [←hW0]) (by rw [←hW0]) (by rw [←hW0]) (hvals.2 x p _ hx (Array.getElem?_eq_getElem hlt))
  ·show RO _ _ _ _ _ _ (if HBS≤o then .hp (fun b=>if HBS+nc b=o then hp b else .no) else .no)
   split
   ·rename_i ho;rw [←hW0];exact hrp.yJ nc az ho (fun k hk=>(hfpB k).2 hk)
   ·trivial
  ·obtain ⟨_,m,h1,h2⟩:=hcl0 o b h;obtain ⟨_,m',h3,h4⟩:=hcl0 o' b h';have:=hrp.ex m m' b h2 h4;subst this;rw [←h1,←h3]
 refine wp_mono (lS hE (fun w2 h2=>hI w2 (toF h2)) heq hm c pc hc hback _ _ _ _ _ hw hinit) (fun e a' w' he=>?_);obtain ⟨W',s',hs',hret,hp',rs,hres,hhb,hPost⟩:=he
 have hfin:bodyPost P fn (fun e w'=>∃ hp' rs,Post hp' rs∧∃ u W',e=.returned u∧RRH W' w' rs u∧RHp W' w' hp'∧(∀ b,W.lv b→W'.lv b∧W'.nm b=W.nm b∧W'.nv b=W.nv b)∧kL (dG W hp) w w'∧(∀ k,dG W' hp' k→dG W hp k∨w.heap.size≤k)∧∀ k,k < w.heap.size→W'.S k=W.S k) .ret a' w':=by
  refine ⟨hs'.dfs,?_⟩;obtain ⟨vs,h1,h2,h3⟩:=rG (P:=P) hs' fn.results.toList prs rs hr hres
  have h4:(results fn a'.tmps).run P w'=.ok (if h:vs.length=1 then vs[0] else .tuple vs.toArray) w':=by
   have h5:results fn a'.tmps=(fn.results.mapM (pF a'.tmps)) >>= fun vs=>pure (if h:vs.size=1 then vs[0] else .tuple vs):=by
    unfold results
    congr 1
   have h6:fn.results=fn.results.toList.toArray:=by simp
   rw [h5,h6,List.mapM_toArray,Sem.run_bind,Sem.run_map,h1];simp
  have hext:=oD hs';obtain ⟨Wf,hWf⟩:∃ Wf:Wit,W'.fin (frz w W' s' w')=Wf:=⟨_,rfl⟩
  have hfolf:∀ G O,Fol W' G O w' Wf G O w':=fun G O=>by
   rw [←hWf];exact ⟨hext,fun _=>Nat.le_refl _,fun _ _=>rfl,fun o E sz k _ ho=>⟨k,ho,Nat.le_refl _,fun _=>rfl⟩,fun _ _=>rfl,fun _ h=>⟨h,rfl,rfl⟩,rfl⟩
  obtain ⟨hrp',hmine'⟩:=hs'.rhp;have hrp0:=hrp'
  replace hrp':RHp W' w' hp':=hrp'.dead hhb
  replace hmine':∀ b k,hcl W' b (hp' b) k→Mine w.heap.size k∧∃ f,s'.ob (HBS+s'.nc b)=.hp f∧f b=hp' b:=fun b k hk=>by
   rcases hhb b with h | ⟨h,_⟩
   ·rw [h] at hk ⊢;exact hmine' b k hk
   ·rw [h] at hk;exact hk.elim
  have hclf:∀ b k,hcl Wf b (hp' b) k↔hcl W' b (hp' b) k:=fun b k=>hcl.indep (by rw [←hWf];rfl) (by rw [←hWf];rfl) (by rw [←hWf];rfl) b _ k
  have hSf:∀ k,Wf.S k=frz w W' s' w' k:=fun k=>by rw [←hWf];rfl
  have hS0:∀ b k,hcl W' b (hp' b) k→frz w W' s' w' k=0:=fun b k hk=>by
   unfold frz;split
   ·exact (hrp'.mine b k hk).1
   ·rw [if_pos];obtain ⟨_,g,hg1,hg2⟩:=hmine' b k hk;exact .inr ⟨_,g,hg1,b,by rw [hg2];exact hk⟩
  have hres2:∀ (i:Nat) p u,rs[i]? = some p→vs[i]? = some u→RHw Wf w' p u:=fun i p u e1 e2=>RB.indep rfl rfl rfl rfl (RB.fol (hfolf _ _) (h3 i p u e1 e2))
  refine ⟨_,h4,hp',rs,hPost,_,Wf,rfl,?_,⟨fun b=>by rw [←hWf];exact hrp'.lv b,fun b k hk=>⟨by rw [hSf];exact hS0 b k ((hclf b k).1 hk),(hrp'.mine b k ((hclf b k).1 hk)).2⟩,fun b=>?_,fun b b' k e1 e2=>hrp'.ex b b' k ((hclf b k).1 e1) ((hclf b' k).1 e2)⟩,fun b hl=>?_,toF hs'.below,fun k ⟨b,hk⟩=>?_,fun k hk=>?_⟩
  ·match rs,vs,h2,hres2 with
   | [],_,_,_=>trivial
   | [p],[v],_,h3=>exact h3 0 p v rfl rfl
   | p :: q :: r,vs,h2,h3 =>
     have hne:¬ vs.length=1:=by rw [←h2];simp
     rw [dif_neg hne];exact ⟨vs.toArray,rfl,by simpa using h2,fun i p u e1 e2=>h3 i p u e1 (by simpa using e2)⟩
  ·exact RH.fol (hfolf _ _) (hrp'.at_ b) (fun hn=>(hrp'.lv b).2 hn) (by rw [←hWf];rfl) (fun _ _=>rfl)
  ·have:=hs'.nm0 b hl;rw [←hWf];exact this
  ·obtain ⟨hmk,_⟩:=hmine' b k ((hclf b k).1 hk)
   rcases hmk with h | h
   ·exact .inr h
   ·exact .inl ((hfpB k).1 h)
  ·rw [hSf];unfold frz;rw [if_pos hk];exact hs'.s0 k hk
 rcases hret with rfl | rfl
 ·exact hfin
 ·exact hfin
theorem iR [I:bT] {P:Program} {env:Env} (hE:aA P env) {eqs:List (Nat×List Bool)} (heq:∀ p,p ∈ eqs→EqT P p.1 p.2) (hm:P.follows .mixedOrders=true) {f:Nat} {fn:Func} {c:Code} {pc:PC} {prs:List PR} (hf:P.funcs[f]? = some fn) (hb:fn.body=some c)
 (hc:bY P fn.ntmps eqs c=some pc) (hback:backs pc=true) (hsm:Nat.ble fn.ntmps gI=true) (hr:aC (fn.results.toList.map (oV P))=some prs) {R:(Nat→Hb)→List Hw→(Nat→Hb)→List Hw→Prop}
 (hR:∀ hp az hp' rs,R hp az hp' rs→az.length≤fn.ntmps∧∃ nc,pwp env pc (fun e s=>(e=.normal∨e=.ret)∧s.gP prs=some rs∧s.hb=hp') (St.eG nc hp az)):fK P f R:=by
 intro hp az hp' rs has W w vals hI hrp hvals;obtain ⟨hlen,nc,hw⟩:=hR hp az hp' rs has
 letI:Bor:=⟨none,dG W hp,W.lv,W.nm,W.nv,[]⟩
 have hfpB:∀ k,Bor.fp k↔dG W hp k:=fun k=>⟨fun h=>h.elim (fun h=>by cases h) id,.inr⟩
 have toF:∀ {w':World},iD w.heap.size w w'→kL (dG W hp) w w':=fun h=>⟨h.os,h.tape,h.output,h.size,fun k hk hne=>h.block k hk (fun e=>hne ((hfpB k).1 e))⟩
 obtain ⟨W0,hW0⟩:∃ W0:Wit,{ W with nc:=nc,blk:=fun _=>0,val:=fun _=>undef,adr:=fun _=>undef,fp:=fun _ _=>False }=W0:=⟨_,rfl⟩
 refine calls_of_wp hf hb ?_
 have hcl0:∀ o b,cl W0 o ((St.eG nc hp az).ob o) b→HBS≤o∧∃ m,HBS+nc m=o∧hcl W m (hp m) b:=fun o b h=>by
  have h':cl W0 o (if HBS≤o then .hp (fun b=>if HBS+nc b=o then hp b else .no) else .no) b:=h;split at h'
  ·rename_i ho;obtain ⟨m,hm2⟩:=h';dsimp only at hm2;split at hm2
   ·rename_i he;exact ⟨ho,m,he,(hcl.indep (W:=W) (by rw [←hW0]) (by rw [←hW0]) (by rw [←hW0]) m (hp m) b).1 hm2⟩
   ·exact hm2.elim
  ·exact h'.elim
 have hinit:Sim w W.S fn.ntmps W0 (St.eG nc hp az) { tmps:=vals ++ Array.replicate (fn.ntmps - vals.size) undef,defers:=[] } w:=by
  refine ⟨iD.refl _ _,fun b _=>by rw [←hW0],?_,rfl,fun x=>?_,fun o=>?_,fun o o' b h h'=>?_,(fun b h=>by cases h),by rw [←hW0];rfl,fun b=>by rw [qJ,←hW0];exact hrp.lv b,Nat.le_of_ble_eq_true hsm,fun b hb2=>by rw [←hW0];exact ⟨hb2,rfl,rfl⟩⟩
  ·have:=hvals.1;simp;omega
  ·show RA _ _ _ _ (match az[x]? with | some p=>.b p.bv | none=>.un) _
   cases hx:az[x]? with
   | none=>trivial
   | some p =>
     have hlt:x < vals.size:=by rw [←hvals.1];exact (List.getElem?_eq_some_iff.1 hx).1
     have:(vals ++ Array.replicate (fn.ntmps - vals.size) undef).getD x undef=vals[x]:=by
      rw [Array.getD_eq_getD_getElem?,Array.getElem?_append_left hlt,Array.getElem?_eq_getElem hlt];rfl
     rw [this];exact RB.indep (W:=W) (by rw [←hW0]) (by rw [←hW0]) (by rw [←hW0]) (by rw [←hW0]) (hvals.2 x p _ hx (Array.getElem?_eq_getElem hlt))
  ·show RO _ _ _ _ _ _ (if HBS≤o then .hp (fun b=>if HBS+nc b=o then hp b else .no) else .no)
   split
   ·rename_i ho;rw [←hW0];exact hrp.yJ nc az ho (fun k hk=>(hfpB k).2 hk)
   ·trivial
  ·obtain ⟨_,m,h1,h2⟩:=hcl0 o b h;obtain ⟨_,m',h3,h4⟩:=hcl0 o' b h';have:=hrp.ex m m' b h2 h4;subst this;rw [←h1,←h3]
 refine wp_mono (lS hE (fun w2 h2=>hI w2 (toF h2)) heq hm c pc hc hback _ _ _ _ _ hw hinit) (fun e a' w' he=>?_);obtain ⟨W',s',hs',hret,hres,hhb⟩:=he
 have hfin:bodyPost P fn (fun e w'=>∃ u W',e=.returned u∧RRH W' w' rs u∧RHp W' w' hp'∧(∀ b,W.lv b→W'.lv b∧W'.nm b=W.nm b∧W'.nv b=W.nv b)∧kL (dG W hp) w w'∧(∀ k,dG W' hp' k→dG W hp k∨w.heap.size≤k)∧∀ k,k < w.heap.size→W'.S k=W.S k) .ret a' w':=by
  refine ⟨hs'.dfs,?_⟩;obtain ⟨vs,h1,h2,h3⟩:=rG (P:=P) hs' fn.results.toList prs rs hr hres
  have h4:(results fn a'.tmps).run P w'=.ok (if h:vs.length=1 then vs[0] else .tuple vs.toArray) w':=by
   have h5:results fn a'.tmps=(fn.results.mapM (pF a'.tmps)) >>= fun vs=>pure (if h:vs.size=1 then vs[0] else .tuple vs):=by
    unfold results
    congr 1
   have h6:fn.results=fn.results.toList.toArray:=by simp
   rw [h5,h6,List.mapM_toArray,Sem.run_bind,Sem.run_map,h1];simp
  have hext:=oD hs';obtain ⟨Wf,hWf⟩:∃ Wf:Wit,W'.fin (frz w W' s' w')=Wf:=⟨_,rfl⟩
  have hfolf:∀ G O,Fol W' G O w' Wf G O w':=fun G O=>by
   rw [←hWf];exact ⟨hext,fun _=>Nat.le_refl _,fun _ _=>rfl,fun o E sz k _ ho=>⟨k,ho,Nat.le_refl _,fun _=>rfl⟩,fun _ _=>rfl,fun _ h=>⟨h,rfl,rfl⟩,rfl⟩
  obtain ⟨hrp',hmine'⟩:=hs'.rhp;rw [hhb] at hrp' hmine';have hclf:∀ b k,hcl Wf b (hp' b) k↔hcl W' b (hp' b) k:=fun b k=>hcl.indep (by rw [←hWf];rfl) (by rw [←hWf];rfl) (by rw [←hWf];rfl) b _ k
  have hSf:∀ k,Wf.S k=frz w W' s' w' k:=fun k=>by rw [←hWf];rfl
  have hS0:∀ b k,hcl W' b (hp' b) k→frz w W' s' w' k=0:=fun b k hk=>by
   unfold frz;split
   ·exact (hrp'.mine b k hk).1
   ·rw [if_pos];obtain ⟨_,g,hg1,hg2⟩:=hmine' b k hk;exact .inr ⟨_,g,hg1,b,by rw [hg2];exact hk⟩
  have hres2:∀ (i:Nat) p u,rs[i]? = some p→vs[i]? = some u→RHw Wf w' p u:=fun i p u e1 e2=>RB.indep rfl rfl rfl rfl (RB.fol (hfolf _ _) (h3 i p u e1 e2))
  refine ⟨_,h4,_,Wf,rfl,?_,⟨fun b=>by rw [←hWf];exact hrp'.lv b,fun b k hk=>⟨by rw [hSf];exact hS0 b k ((hclf b k).1 hk),(hrp'.mine b k ((hclf b k).1 hk)).2⟩,fun b=>?_,fun b b' k e1 e2=>hrp'.ex b b' k ((hclf b k).1 e1) ((hclf b' k).1 e2)⟩,fun b hl=>?_,toF hs'.below,fun k ⟨b,hk⟩=>?_,fun k hk=>?_⟩
  ·match rs,vs,h2,hres2 with
   | [],_,_,_=>trivial
   | [p],[v],_,h3=>exact h3 0 p v rfl rfl
   | p :: q :: r,vs,h2,h3 =>
     have hne:¬ vs.length=1:=by rw [←h2];simp
     rw [dif_neg hne];exact ⟨vs.toArray,rfl,by simpa using h2,fun i p u e1 e2=>h3 i p u e1 (by simpa using e2)⟩
  ·exact RH.fol (hfolf _ _) (hrp'.at_ b) (fun hn=>(hrp'.lv b).2 hn) (by rw [←hWf];rfl) (fun _ _=>rfl)
  ·have:=hs'.nm0 b hl;rw [←hWf];exact this
  ·obtain ⟨hmk,_⟩:=hmine' b k ((hclf b k).1 hk)
   rcases hmk with h | h
   ·exact .inr h
   ·exact .inl ((hfpB k).1 h)
  ·rw [hSf];unfold frz;rw [if_pos hk];exact hs'.s0 k hk
 rcases hret with rfl | rfl
 ·exact hfin
 ·exact hfin
section
variable {P:Program}
def sK (P:Program) (t:Nat):Option Bool:=match P.underlying t with
 | some (.int _)=>some false
 | some .bool=>some true
 | _=>none
theorem Aw {t:Nat} {kb:Bool} (hb:sK P t=some kb) {x y:Cl} {u v:Value} {r:Bool} {W:Wit} {G:Nat→Nat} {O:Nat→Ob} {w:World} (hx:RC W G O w x u) (hy:RC W G O w y v) (h:yF kb x y=some r) (d:Nat) :
 (Op.equalIn (d+1) t u v).run P w=.ok r w:=by
 unfold sK at hb;unfold yF at h;split at h
 ·rename_i k a k' b;split at h
  ·rename_i hk;cases h;obtain ⟨rfl,_⟩:=RD.fP hx;obtain ⟨rfl,_⟩:=RD.fP hy;rw [Op.equalIn.eq_2];split at hb
   ·rename_i k2 hu;simp [run_underlying hu,hk.2]
   ·cases hb;exact absurd hk.1 (by decide)
   ·cases hb
  ·cases h
 ·rename_i a b;split at h
  ·rename_i hk;cases h;obtain ⟨rfl,_⟩:=RD.fP hx;obtain ⟨rfl,_⟩:=RD.fP hy;rw [Op.equalIn.eq_2];split at hb
   ·cases hb;exact absurd hk (by decide)
   ·rename_i hu;simp [run_underlying hu]
   ·cases hb
  ·cases h
 ·cases h
theorem lN {t:Nat} {kb:Bool} (hb:sK P t=some kb) {xs:Array Value} {i:Nat} {u:Value} (hi:xs[i]? = some u) (w:World):(part t xs i).run P w=.ok u w:=by
 obtain ⟨d,hd,ha⟩:∃ d,P.underlying t=some d∧kF d=false:=by
  unfold sK at hb;split at hb
  ·rename_i k hu;exact ⟨_,hu,rfl⟩
  ·rename_i hu;exact ⟨_,hu,rfl⟩
  ·cases hb
 have:=jB hd w;simp [part,this,ha,hi]
theorem uq {ks:List Bool} {cs ds:List Cl} {r:Bool} {i:Nat} (h:je (ks.drop i) (cs.drop i) (ds.drop i)=some r) {k:Bool} (hk:ks[i]? = some k) :
 ∃ x y a b,cs[i]? = some x∧ds[i]? = some y∧yF k x y=some a∧je (ks.drop (i+1)) (cs.drop (i+1)) (ds.drop (i+1))=some b∧r=(a && b):=by
 have hlt:=(List.getElem?_eq_some_iff.1 hk).1;rw [List.drop_eq_getElem_cons hlt] at h
 rcases Nat.lt_or_ge i cs.length with h1 | h1
 ·rcases Nat.lt_or_ge i ds.length with h2 | h2
  ·rw [List.drop_eq_getElem_cons h1,List.drop_eq_getElem_cons h2] at h;simp only [je] at h;split at h
   ·rename_i a b ha hb;cases h;rw [List.getElem?_eq_getElem hlt] at hk;cases hk;exact ⟨_,_,a,b,List.getElem?_eq_getElem h1,List.getElem?_eq_getElem h2,ha,hb,rfl⟩
   ·cases h
  ·rw [List.drop_eq_nil_of_le h2,List.drop_eq_getElem_cons h1] at h;simp [je] at h
 ·rw [List.drop_eq_nil_of_le h1] at h;simp [je] at h
def P5 (P : Program) (fs : Array Field) (ks : List Bool) : Bool := fs.size == ks.length && fs.toList.zipIdx.all fun p => p.1.name != "_" && p.1.offset == p.2 && sK P p.1.type == ks[p.2]?
theorem lT {t:Nat} {fs:Array Field} {ks:List Bool} (hu:P.underlying t=some (.struct fs)) (hst:P.stoodInHeld t=false) (hg:P.eqGuardType P.depth t=false) (hfl:P5 P fs ks=true):EqT P t ks:=by
 refine fun _=>⟨hg,fun xs ys cs ds r W G O w h3 h4 h5=>?_⟩
 show (Op.equalIn (9999+1) t (.agg xs) (.agg ys)).run P w=_
 rw [Op.equalIn.eq_2];simp only [Sem.run_bind,run_underlying hu,Result.andThen_ok,run_program,hst];rw [if_neg (by decide)];unfold P5 at hfl;rw [Bool.and_eq_true] at hfl;obtain ⟨hsz,hall⟩:=hfl;have hsz':fs.size=ks.length:=by simpa using hsz
 have key:∀ (l:List Field) (i:Nat) (r:Bool),l=fs.toList.drop i→je (ks.drop i) (cs.drop i) (ds.drop i)=some r →
  (forIn l ((none:Option Bool),()) fun f __s =>
   (if f.name ≠ "_" then do
    let __do_lift ←part f.type xs f.offset
    let __do_lift_1 ←part f.type ys f.offset
    let __do_lift ←Op.equalIn 9999 f.type __do_lift __do_lift_1
    if (!__do_lift)=true then pure (ForInStep.done (some false,()))
    else pure (ForInStep.yield (none,()))
   else pure (ForInStep.yield (none,())):Sem (ForInStep (Option Bool×Unit)))).run P w=.ok (if r then none else some false,()) w:=by
  intro l
  induction l with
  | nil =>
    intro i r hl h
    have hge:ks.length≤i:=by
     have:=congrArg List.length hl;simp at this;omega
    rw [List.drop_eq_nil_of_le hge] at h;generalize cs.drop i=a at h;generalize ds.drop i=b at h;cases a <;> cases b <;> simp [je] at h
    subst h;simp
  | cons f l ih =>
    intro i r hl h
    have hfi:fs[i]? = some f:=by
     have:=congrArg (·[0]?) hl
     simpa using this.symm
    have hilt:=(Array.getElem?_eq_some_iff.1 hfi).1
    have hp:=List.all_eq_true.1 hall (f,i) (by
     rw [List.mk_mem_zipIdx_iff_getElem?]
     simpa using hfi)
    simp only [Bool.and_eq_true,bne_iff_ne,beq_iff_eq] at hp;obtain ⟨⟨hn,ho⟩,hb⟩:=hp;have hk:ks[i]? = some ks[i]:=List.getElem?_eq_getElem (by omega);rw [hk] at hb;obtain ⟨x,y,a,b,e1,e2,e3,e4,rfl⟩:=uq h hk;have hx1:i < xs.size:=by have:=h3.1;have:=(List.getElem?_eq_some_iff.1 e1).1;simp at *;omega
    have hy1:i < ys.size:=by have:=h4.1;have:=(List.getElem?_eq_some_iff.1 e2).1;simp at *;omega
    have hx:xs[i]? = some xs[i]:=Array.getElem?_eq_getElem hx1;have hy:ys[i]? = some ys[i]:=Array.getElem?_eq_getElem hy1;have heq:(Op.equalIn 9999 f.type xs[i] ys[i]).run P w=.ok a w:=Aw hb (h3.2 i x xs[i] e1 (by rw [Array.getElem?_toList];exact hx)) (h4.2 i y ys[i] e2 (by rw [Array.getElem?_toList];exact hy)) e3 9998
    rw [List.forIn_cons,if_pos hn,ho];simp only [Sem.run_bind,lN hb hx,lN hb hy,Result.andThen_ok,heq]
    cases a with
    | true =>
      simp only [Bool.not_true,Bool.false_eq_true,if_false,Sem.run_pure,Result.andThen_ok,Bool.true_and]
      exact ih (i+1) b (by
       have:=congrArg List.tail hl
       simpa using this) e4
    | false=>simp
 have hk:=key fs.toList 0 r rfl (by simpa using h5);rw [←Array.forIn_toList,Sem.run_bind,hk];cases r <;> rfl
theorem qY {t e m:Nat} {ei:TypeInfo} (hu:P.underlying t=some (.array m e)) (hi:P.info? e=some ei) (hsz1:ei.size=1) (hg:P.eqGuardType P.depth t=false) (hb:sK P e=some false):EqT P t (List.replicate m false):=by
 refine fun _=>⟨hg,fun xs ys cs ds r W G O w h3 h4 h5=>?_⟩
 show (Op.equalIn (9999+1) t (.agg xs) (.agg ys)).run P w=_
 rw [Op.equalIn.eq_2];simp only [Sem.run_bind,run_underlying hu,Result.andThen_ok,sizeOf,typeInfo,run_program,hi,Sem.run_pure,hsz1,Nat.mul_one,Std.Legacy.Range.forIn_eq_forIn_range',Std.Legacy.Range.size,Nat.sub_zero,Nat.add_one_sub_one,Nat.div_one]
 have key:∀ (k i:Nat) (r:Bool),i+k=m→je ((List.replicate m false).drop i) (cs.drop i) (ds.drop i)=some r →
  (forIn (List.range' i k) ((none:Option Bool),()) fun i __s =>
   (do
    let __do_lift ←part e xs i
    let __do_lift_1 ←part e ys i
    let __do_lift ←Op.equalIn 9999 e __do_lift __do_lift_1
    if (!__do_lift)=true then pure (ForInStep.done (some false,()))
    else pure (ForInStep.yield (none,())):Sem (ForInStep (Option Bool×Unit)))).run P w=.ok (if r then none else some false,()) w:=by
  intro k
  induction k with
  | zero =>
    intro i r hl h;rw [List.drop_eq_nil_of_le (by simp;omega)] at h
    generalize cs.drop i=a at h;generalize ds.drop i=b at h;cases a <;> cases b <;> simp [je] at h
    subst h;simp
  | succ k ih =>
    intro i r hl h
    have hk:(List.replicate m false)[i]? = some false:=by
     rw [List.getElem?_replicate,if_pos (by omega)]
    obtain ⟨x,y,a,b,e1,e2,e3,e4,rfl⟩:=uq h hk;have hx1:i < xs.size:=by have:=h3.1;have:=(List.getElem?_eq_some_iff.1 e1).1;simp at *;omega
    have hy1:i < ys.size:=by have:=h4.1;have:=(List.getElem?_eq_some_iff.1 e2).1;simp at *;omega
    have hx:xs[i]? = some xs[i]:=Array.getElem?_eq_getElem hx1;have hy:ys[i]? = some ys[i]:=Array.getElem?_eq_getElem hy1;have heq:(Op.equalIn 9999 e xs[i] ys[i]).run P w=.ok a w:=Aw hb (h3.2 i x xs[i] e1 (by rw [Array.getElem?_toList];exact hx)) (h4.2 i y ys[i] e2 (by rw [Array.getElem?_toList];exact hy)) e3 9998
    rw [List.range'_succ,List.forIn_cons];simp only [Sem.run_bind,lN hb hx,lN hb hy,Result.andThen_ok,heq]
    cases a with
    | true =>
      simp only [Bool.not_true,Bool.false_eq_true,if_false,Sem.run_pure,Result.andThen_ok,Bool.true_and];exact ih (i+1) b (by omega) e4
    | false=>simp
 have hk:=key m 0 r (by omega) (by simpa using h5);rw [hk];cases r <;> rfl
end
theorem mO {P:Program} {l0 l:List (Nat×List Bool)} (h0:∀ p,p ∈ l0→EqT P p.1 p.2) (h:l.all (fun p=>Nat.ble 1048576 p.1)=true):∀ p,p ∈ l0 ++ l→EqT P p.1 p.2:=by
 intro p hp
 rcases List.mem_append.1 hp with hp | hp
 ·exact h0 p hp
 ·intro hlt;have:=Nat.le_of_ble_eq_true (List.all_eq_true.1 h p hp);omega
theorem bG {α:Sort _} {a b:α} (h:a=b):a=b:=h
section
variable {env:Env} {K:St→Prop} {is:List PI} {s:St} {d:Option Nat} {af:List Nat}
def tZ (env:Env) (K:St→Prop) (is:List PI) (s:St) (d:Option Nat) (o:Option (Av×Cg)):Prop:=aO o fun p=>aS env is (s.ap d p.1 p.2) K
theorem yh {v:Av} {ch:Cg}:tZ env K is s d (some (v,ch))=aS env is (s.ap d v ch) K:=bG rfl
def tV (env:Env) (K:St→Prop) (is:List PI) (s:St) (d:Option Nat) (f:Nat) (o:Option (List Pa)):Prop:=aO o fun ps=>(∃ rs,env.d f ps rs∧aS env is (s.ap d (kT rs) .no) K)∨(∃ H rs,env.a f none ps H rs∧aS env is (s.ap d (zk (d.getD 0) (s.gen (d.getD 0)+1) rs) (.new (d.getD 0) (.ab H))) K)∨(∃ E sz rows,env.f f ps E sz rows∧aS env is (s.ap d (.b (.one (.own (d.getD 0) (s.gen (d.getD 0)+1) rows))) (.new (d.getD 0) (.row E sz rows.length))) K)
theorem aF {f:Nat} {ps:List Pa} (rs:List Pa) (h:env.d f ps rs) (k:aS env is (s.ap d (kT rs) .no) K):tV env K is s d f (some ps):=.inl ⟨rs,h,k⟩
theorem jT {f:Nat} {ps:List Pa} {E sz:Nat} (rows:List (List Dt)) (h:env.f f ps E sz rows) (k:aS env is (s.ap d (.b (.one (.own (d.getD 0) (s.gen (d.getD 0)+1) rows))) (.new (d.getD 0) (.row E sz rows.length))) K):tV env K is s d f (some ps):=.inr (.inr ⟨E,sz,rows,h,k⟩)
def Fv (env:Env) (K:St→Prop) (is:List PI) (s:St) (d:Option Nat) (f o:Nat) (oh:Option HP) (oa:Option (List Pa)):Prop:=aO oa fun ps=>aO oh fun H =>
 (∃ H' rs,env.a f (some H) ps H' rs∧aS env is (s.ap d (kT rs) (.ab o H')) K)∨(∃ H2,ps=[]∧env.c f H H2∧aS env is (s.ap d (.b (.one (.ab (d.getD 0) (s.gen (d.getD 0)+1)))) (.new (d.getD 0) (.ab H2))) K)
def MC (env:Env) (K:St→Prop) (is:List PI) (s:St) (d:Option Nat) (f o:Nat) (od:Option (List Dt)) (oa:Option (List Pa)):Prop:=aO oa fun ps=>aO od fun ds=>∃ ds' rs,env.m f ds ps ds' rs∧ds'.length=ds.length∧aS env is (s.ap d (kT rs) (.wr o 0 (ds'.map .d))) K
def sH (env:Env) (K:St→Prop) (is:List PI) (s:St) (d:Option Nat) (f:Nat) (xs:List PX):Option (Nat×Nat)→Option (Nat×Nat)→Prop
 | some (o,g),_=>Fv env K is s d f o (s.yw o g) (s.args xs.tail)
 | none,some (o,g)=>MC env K is s d f o (s.iH o g) (s.args xs.tail)
 | none,none=>tV env K is s d f (s.args xs)
theorem BP {f:Nat} {xs:List PX}:sH env K is s d f xs none none=tV env K is s d f (s.args xs):=bG rfl
theorem F6 {f o g:Nat} {xs:List PX}:sH env K is s d f xs none (some (o,g))=MC env K is s d f o (s.iH o g) (s.args xs.tail):=bG rfl
theorem BQ {f o g:Nat} {xs:List PX} {p:Option (Nat×Nat)}:sH env K is s d f xs (some (o,g)) p=Fv env K is s d f o (s.yw o g) (s.args xs.tail):=bG rfl
theorem KO:s.recv []=none:=bG rfl
theorem Ii {x:PX} {xs:List PX}:s.recv (x :: xs)=(s.ev x).kM:=bG rfl
theorem KF:s.eX []=none:=bG rfl
theorem Ib {x:PX} {xs:List PX}:s.eX (x :: xs)=(s.ev x).fC:=bG rfl
theorem BU {o g:Nat}:s.iH o g=if s.gen o=g then (match s.ob o with | .cells cs=>if cs.length≤1000000 then aC (cs.map Cl.dt) else none | _=>none) else none:=bG rfl
theorem M4 {o g:Nat}:s.yw o g=if s.gen o=g then (match s.ob o with | .ab H=>some H | _=>none) else none:=bG rfl
theorem M6 {v:Av} {o:Nat} {H:HP}:(s.ap d v (.ab o H)).gen=s.gen:=bG rfl
theorem Qp {v:Av} {o:Nat} {H:HP}:(s.ap d v (.ab o H)).ob=up s.ob o (.ab H):=bG rfl
def qG (env:Env) (K:St→Prop) (is:List PI) (s:St) (d:Option Nat) (op:PO) (t:Nat) (want:Bool):Option (Option Bool)→Prop
 | none=>False
 | some none=>aS env is (s.ap d skp .no) K
 | some (some b)=>(b=want→aS env (⟨d,op,none,[]⟩ :: is) (s.ap (some t) (fD (.bool want)) .no) K)∧(b=!want→aS env is ((s.ap (some t) (fD (.bool !want)) .no).ap d skp .no) K)
theorem pR {op:PO} {t:Nat} {want:Bool}:qG env K is s d op t want (some none)=aS env is (s.ap d skp .no) K:=bG rfl
theorem iT {op:PO} {t:Nat} {want b:Bool}:qG env K is s d op t want (some (some b))=((b=want→aS env (⟨d,op,none,[]⟩ :: is) (s.ap (some t) (fD (.bool want)) .no) K)∧(b=!want→aS env is ((s.ap (some t) (fD (.bool !want)) .no).ap d skp .no) K)):=bG rfl
theorem sQ {t:Nat} {b:Bool} (h:s.gd t=some (some b)):s.boo (.t t)=some b:=by
 unfold St.gd at h;split at h
 ·cases h
 ·rw [Option.map_eq_some_iff] at h;obtain ⟨c,hc,h⟩:=h;cases h;exact hc
theorem FK {b want:Bool}:(some b≠some want)↔b=!want:=by cases b <;> cases want <;> simp
theorem lq {t:Nat} {b:Bool} (h:s.boo (.t t)=some b):s.ap (some t) (fD (.bool b)) .no=s:=by
 have h1:s.sl t=fD (.bool b):=by
  unfold St.boo at h;split at h
  ·rename_i c hc;cases h;exact hc
  ·cases h
 have h2:up s.sl t (fD (.bool b))=s.sl:=by
  funext x
  rw [ay];split
  ·rename_i hx;rw [hx,h1]
  ·rfl
 show (⟨up s.sl t (fD (.bool b)),s.gen,s.ob,s.nc⟩:St)=s
 rw [h2]
theorem zN:aS env [] s K=K s:=bG rfl
theorem C8 {op:PO} (h:op.aT=false):aS env (⟨d,op,none,af⟩ :: is) s K=tZ env K is s d (op.fn s (d.getD 0)):=by
 change PO.go env s (d.getD 0) (fun v ch=>aS env is (s.ap d v ch) K) op=_
 rw [PO.y9 h];rfl
def IG (env:Env) (K:St→Prop) (is:List PI) (s:St) (d:Option Nat) (f:Nat) (xs:List PX):Option Unit→Prop
 | some _=>sH env K is s d f xs (s.recv xs) (s.eX xs)
 | none=>False
theorem BR {f:Nat} {xs:List PX} {u:Unit}:IG env K is s d f xs (some u)=sH env K is s d f xs (s.recv xs) (s.eX xs):=bG rfl
def P7 (env:Env) (K:St→Prop) (is:List PI) (s:St) (d:Option Nat):Option Value→Prop
 | some v=>aS env is (s.ap d (fD v) .no) K
 | none=>False
theorem Hr {v:Value}:P7 env K is s d (some v)=aS env is (s.ap d (fD v) .no) K:=bG rfl
theorem JC {f:Nat}:tu f (some (.func (.func f) #[] #[]))=some ():=NR
theorem QI {g k:Nat}:gAt env (some (.pointer (some ⟨g,k,none⟩)))=env.t g k:=bG rfl
def vX (env:Env) (K:St→Prop) (is:List PI) (s:St) (d:Option Nat) (c:Nat) (k:HA):Prop:=rW s c (fun v ch=>aS env is (s.ap d v ch) K) k
theorem qI {c:Nat} {z:List Value} (b:Nat) (h:s.lay c b) (k:aS env is (s.ap d (.b (.one (.hv (.p b 0)))) (.hw (HBS+c) [(b,.cells (z.map fun v=>.d (.sc v)))])) K):vX env K is s d c (.new z):=⟨b,h,k⟩
theorem mY {c:Nat} {x:PX} {cs:List Cl} {hs:List Hc} (b:Nat) (h:s.lay c b) (h1:s.cs x=some cs) (h2:hcs cs=some hs) (k:aS env is (s.ap d (.b (.one (.hv (.p b 0)))) (.hw (HBS+c) [(b,.cells hs)])) K):vX env K is s d c (.box x) :=
 aj.2 ⟨hs,by rw [h1];exact h2,b,h,k⟩
theorem AY {c t:Nat} (b:Nat) (h:s.lay c b) (h1:Maps.Keyed Try.prog t) (k:aS env is (s.ap d (.b (.one (.hv (.m b)))) (.hw (HBS+c) [(b,.map t [] 0)])) K):vX env K is s d c (.map t):=⟨h1,b,h,k⟩
theorem GY {c t:Nat} {x:PX} (l:Int) (b:Nat) (h:s.lay c b) (h2:s.int x=some l) (h1:Maps.Keyed Try.prog t) (k:aS env is (s.ap d (.b (.one (.hv (.m b)))) (.hw (HBS+c) [(b,.map t [] 0)])) K):vX env K is s d c (.mapn t x):=aj.2 ⟨l,h2,h1,b,h,k⟩
theorem DN {c t clock bm:Nat} {es:List (Value×Nat×Hw)} {m:PX} (b:Nat) (h:s.lay c b) (h1:s.cl m=.hv (.m bm)) (h2:s.hb bm=.map t es clock) (k:aS env is (s.ap d (.b (.one (.hv (.p b 0)))) (.hw (HBS+c) [(b,.iter bm clock [] clock)])) K):vX env K is s d c (.range m) :=
 aj.2 ⟨bm,by rw [h1];rfl,aj.2 ⟨clock,by rw [h2];rfl,b,h,k⟩⟩
theorem jQ {y:PX} {news:List (List Dt)} (h:(s.cl y).rows=some news):s.jr y=some news:=by
 unfold St.jr zq;split
 ·rename_i b he;rw [he] at h;cases h
 ·exact h
theorem OQ {y:PX} {b E sz:Nat} {rows:List (List Dt)} (h:s.cl y=.hv (.v b)) (h2:s.hb b=.vec E sz rows):s.jr y=some rows:=by
 unfold St.jr zq;rw [h];dsimp only;rw [h2]
theorem DL {c E sz bytes:Nat} {x y:PX} {news:List (List Dt)} (b:Nat) (h:s.lay c b) (h1:s.cl x=.d (.sc (.slice none 0 0))) (h2:s.jr y=some news) (h3:(∀ r ∈ news,r.length=sz)∧news.length≤1000000∧bytes≤1000000) (k:aS env is (s.ap d (.b (.one (.hv (.v b)))) (.hw (HBS+c) [(b,.vec E sz news)])) K):vX env K is s d c (.app E sz bytes x y) :=
 aj.2 ⟨news,h2,by rw [h1];exact ⟨h3,b,h,k⟩⟩
theorem J2 {c E sz bytes a:Nat} {x y:PX} {rows news:List (List Dt)} (b:Nat) (h:s.lay (s.nc a) b) (h1:s.cl x=.hv (.v a)) (h0:s.hb a=.vec E sz rows) (h2:(s.cl y).rows=some news) (h3:(∀ r ∈ news,r.length=sz)∧rows.length+news.length≤1000000∧bytes≤1000000) (k:aS env is (s.ap d (.b (.one (.hv (.v b)))) (.hw (HBS+s.nc a) [(a,.dead),(b,.vec E sz (rows ++ news))])) K):vX env K is s d c (.app E sz bytes x y) :=
 aj.2 ⟨news,jQ h2,by rw [h1];exact aj.2 ⟨(E,sz,rows),by rw [h0];rfl,⟨rfl,rfl,h3⟩,b,h,k⟩⟩
theorem GX {c E sz bytes a:Nat} {x y:PX} {rows news:List (List Dt)} (b:Nat) (h:s.lay (s.nc a) b) (h1:s.cl x=.hv (.v a)) (h0:s.hb a=.vec E sz rows) (h2:s.jr y=some news) (h3:(∀ r ∈ news,r.length=sz)∧rows.length+news.length≤1000000∧bytes≤1000000) (k:aS env is (s.ap d (.b (.one (.hv (.v b)))) (.hw (HBS+s.nc a) [(a,.dead),(b,.vec E sz (rows ++ news))])) K):vX env K is s d c (.app E sz bytes x y) :=
 aj.2 ⟨news,h2,by rw [h1];exact aj.2 ⟨(E,sz,rows),by rw [h0];rfl,⟨rfl,rfl,h3⟩,b,h,k⟩⟩
theorem AX {c E sz ln:Nat} {z:List Value} {ps:List (Nat×Nat×PX)} {rs:List (Nat×List Cl)} {cs:List Cl} {xs:List Dt} (b:Nat) (h:s.lay c b) (h1:s.parts ps=some rs) (h2:dS (z.map fun v=>.d (.sc v)) rs=some cs) (h3:aC (cs.map Cl.dt)=some xs) (k:aS env is (s.ap d (.b (.one (.hv (.v b)))) (.hw (HBS+c) [(b,.vec E sz (chunks ln sz xs))])) K):vX env K is s d c (.lit E sz z ln ps) :=
 aj.2 ⟨xs,by rw [h1];show (dS _ rs).bind _=_;rw [h2];exact h3,b,h,k⟩
theorem GZ {c sz a E:Nat} {x lo:PX} {rows:List (List Dt)} (l:Nat) (h1:s.cl x=.hv (.v a)) (h0:s.hb a=.vec E sz rows) (h2:s.int lo=some (l:Int)) (h3:l < rows.length) (k:∀ cap,rows.length - l≤cap→cap≤maxLen→aS env is (s.ap d (.b (.one (.hv (.s a (l * sz) (rows.length - l) cap)))) .no) K):vX env K is s d c (.view sz x lo) :=
 aj.2 ⟨a,by rw [h1];rfl,aj.2 ⟨(E,sz,rows),by rw [h0];rfl,aj.2 ⟨(l:Int),h2,⟨rfl,by omega,by show (l:Int) < (rows.length:Int);omega⟩,by simpa using k⟩⟩⟩
def MS (env:Env) (K:St→Prop) (is:List PI) (s:St) (d:Option Nat) (x:Cl):Prop:=IV s x (fun v ch=>aS env is (s.ap d v ch) K)
theorem Ad {r b since c0 t clock:Nat} {seen:List Nat} {es:List (Value×Nat×Hw)} (h1:s.hb r=.iter b since seen c0) (h2:s.hb b=.map t es clock) (h3:(∀ e ∈ es,e.2.1 < since)∧since≤c0∧since≤clock)
 (h4:(∀ e ∈ es,seen.contains e.2.1=true)→aS env is (s.ap d (.tup [bvB false]) .no) K)
 (h5:∀ e ∈ es,seen.contains e.2.1=false→aS env is (s.ap d (.tup [bvB true,sI e.1,e.2.2.bv]) (.hw (HBS+s.nc r) [(r,.iter b since (seen ++ [e.2.1]) clock)])) K):MS env K is s d (.hv (.p r 0)) :=
 aj.2 ⟨(b,since,seen,c0),by rw [h1];rfl,aj.2 ⟨(es,clock),by rw [h2];rfl,h3,h4,h5⟩⟩
def yR (env:Env) (K:St→Prop) (is:List PI) (s:St) (d:Option Nat) (f:Nat) (oa:Option (List Hw)):Prop:=aO oa fun az=>qj env s (fun v ch=>aS env is (s.ap d v ch) K) f az
theorem bM {f:Nat} {az:List Hw} (hp':Nat→Hb) (rs:List Hw) (h:env.h f s.hb az hp' rs) (k:aS env is (s.ap d (yK rs) (.hall hp')) K):yR env K is s d f (some az):=⟨hp',rs,h,.inl k⟩
def Em (env:Env) (K:St→Prop) (is:List PI) (s:St) (d:Option Nat) (f:Nat) (oa:Option (List Hw)):Prop:=aO oa fun az=>yS env s (fun v ch=>aS env is (s.ap d v ch) K) f az
theorem bH {f:Nat} {az:List Hw} (Post:(Nat→Hb)→List Hw→Prop) (h:env.p f s.hb az Post) (k:∀ hp' rs,Post hp' rs→aS env is (s.ap d (yK rs) (.hall hp')) K):Em env K is s d f (some az):=⟨Post,h,k⟩
def Ej (env:Env) (K:St→Prop) (is:List PI) (s:St) (d:Option Nat) (f:Nat) (of:Option (List (Nat×Nat)×List (Nat×Nat))) (oa:Option (List Hw)):Prop:=aO of fun p=>aO oa fun az=>qj env s (fun v ch=>aS env is (s.ap d v ch) K) f (rX p.1 ++ az ++ rX p.2)
theorem zB {f:Nat} {az:List Hw} {a c:List (Nat×Nat)}:Ej env K is s d f (some (a,c)) (some az)=yR env K is s d f (some (rX a ++ az ++ rX c)):=bG rfl
theorem Gy {f:Nat} {a c:List (Nat×Nat)}:E8 f (.hv (.f f a c))=some (a,c):=by simp [E8]
theorem J4:rX []=[]:=bG rfl
theorem G7 {p:Nat×Nat} {l:List (Nat×Nat)}:rX (p :: l)=.one (.h (.p p.1 p.2)) :: rX l:=bG rfl
theorem NY:s.hws []=some []:=bG rfl
theorem J5 {x:PX} {xs:List PX}:s.hws (x :: xs)=(match s.hw x with | some p=>(s.hws xs).map (p :: ·) | none=>none):=by
 unfold St.hws;simp only [List.map_cons];cases s.hw x <;> rfl
theorem QU {x:PX}:s.hw x=(s.ev x).hw:=bG rfl
def opS (env:Env) (K:St→Prop) (is:List PI) (s:St) (d:Option Nat) (b:Bool) (op:PO):Prop:=match b with
 | true=>(match op with | .call f xs=>sH env K is s d f xs (s.recv xs) (s.eX xs) | .callv x f xs=>IG env K is s d f xs (tu f (s.val x)) | .ldg x=>P7 env K is s d (gAt env (s.val x)) | .hal c k=>vX env K is s d c k | .next x=>MS env K is s d (s.cl x) | .callh f xs=>yR env K is s d f (s.hws xs) | .callp f xs=>Em env K is s d f (s.hws xs) | .callc x f xs=>Ej env K is s d f (E8 f (s.cl x)) (s.hws xs) | _=>False)
 | false=>tZ env K is s d (op.fn s (d.getD 0))
theorem xI {op:PO}:opS env K is s d false op=tZ env K is s d (op.fn s (d.getD 0)):=bG rfl
theorem Ky {f:Nat} {xs:List PX}:opS env K is s d true (.call f xs)=sH env K is s d f xs (s.recv xs) (s.eX xs):=bG rfl
theorem H9 {x:PX} {f:Nat} {xs:List PX}:opS env K is s d true (.callv x f xs)=IG env K is s d f xs (tu f (s.val x)):=bG rfl
theorem OC {x:PX}:opS env K is s d true (.ldg x)=P7 env K is s d (gAt env (s.val x)):=bG rfl
theorem OB {c:Nat} {k:HA}:opS env K is s d true (.hal c k)=vX env K is s d c k:=bG rfl
theorem Kw {x:PX}:opS env K is s d true (.next x)=MS env K is s d (s.cl x):=bG rfl
theorem H7 {f:Nat} {xs:List PX}:opS env K is s d true (.callh f xs)=yR env K is s d f (s.hws xs):=bG rfl
theorem H8 {f:Nat} {xs:List PX}:opS env K is s d true (.callp f xs)=Em env K is s d f (s.hws xs):=bG rfl
theorem H6 {x:PX} {f:Nat} {xs:List PX}:opS env K is s d true (.callc x f xs)=Ej env K is s d f (E8 f (s.cl x)) (s.hws xs):=bG rfl
theorem Dh {op:PO}:aS env (⟨d,op,none,af⟩ :: is) s K=opS env K is s d op.aT op:=by
 cases hc:op.aT with
 | true =>
   cases op <;> first
    | (cases hc;done)
    | (rename_i f xs
       show jd env s (d.getD 0) (fun v ch=>aS env is (s.ap d v ch) K) f xs (s.recv xs) (s.eX xs)=sH env K is s d f xs (s.recv xs) (s.eX xs)
       cases s.recv xs <;> cases s.eX xs <;> rfl)
    | (rename_i x f xs
       show aO (tu f (s.val x)) (fun _=>jd env s (d.getD 0) (fun v ch=>aS env is (s.ap d v ch) K) f xs (s.recv xs) (s.eX xs))=IG env K is s d f xs (tu f (s.val x))
       cases tu f (s.val x) with
       | none=>rfl
       | some _ =>
         show jd env s (d.getD 0) (fun v ch=>aS env is (s.ap d v ch) K) f xs (s.recv xs) (s.eX xs)=sH env K is s d f xs (s.recv xs) (s.eX xs)
         cases s.recv xs <;> cases s.eX xs <;> rfl)
    | (rename_i x
       show aO (gAt env (s.val x)) (fun v=>aS env is (s.ap d (fD v) .no) K)=P7 env K is s d (gAt env (s.val x))
       cases gAt env (s.val x) <;> rfl)
    | rfl
 | false=>rw [xI,C8 hc]
theorem iP {op:PO} {t:Nat} {want:Bool}:aS env (⟨d,op,some (t,want),af⟩ :: is) s K=qG env K is s d op t want (s.gd t):=by
 change aO (s.gd t) _=qG env K is s d op t want (s.gd t)
 cases h:s.gd t with
 | none=>rfl
 | some b =>
   cases b with
   | none=>exact propext ⟨fun k=>k.2 (by simp),fun k=>⟨fun e=>(by simp at e),fun _=>k⟩⟩
   | some b =>
     have hb:=lq (sQ h);rw [iT]
     show ((some b=some want→_)∧(some b≠some want→_))=_
     rw [FK,Option.some.injEq]
     congr 1
     ·apply propext
      refine forall_congr' fun he=>?_
      subst he;rw [hb];rfl
     ·apply propext
      refine forall_congr' fun he=>?_
      rw [←he,hb]
theorem Df {op:PO} {t:Nat} {want:Bool} (h:s.gd t=some (some want)):aS env (⟨d,op,some (t,want),af⟩ :: is) s K=aS env (⟨d,op,none,[]⟩ :: is) s K:=by
 rw [iP,h,iT,lq (sQ h)];exact propext ⟨fun k=>k.1 rfl,fun k=>⟨fun _=>k,fun e=>absurd e (by cases want <;> decide)⟩⟩
theorem C9 {op:PO} {t:Nat} {want:Bool} (h:s.gd t=some (some (!want))):aS env (⟨d,op,some (t,want),af⟩ :: is) s K=aS env is (s.ap d skp .no) K:=by
 rw [iP,h,iT,lq (sQ h)];exact propext ⟨fun k=>k.2 rfl,fun k=>⟨fun e=>absurd e (by cases want <;> decide),fun _=>k⟩⟩
theorem Dc {op:PO} {t:Nat} {want:Bool} (h:s.gd t=some none):aS env (⟨d,op,some (t,want),af⟩ :: is) s K=aS env is (s.ap d skp .no) K:=by
 rw [iP,h,pR]
abbrev Ft:=List (List Rg×List Rg)
variable {KD:St→Ft→Prop} {acc:Ft}
def IJ (env:Env) (K:St→Ft→Prop) (is:List PI) (s:St) (d:Option Nat) (acc:Ft) (rd:List Rg) (o:Option (Av×Cg)):Prop:=aO o fun p=>dw env is (s.ap d p.1 p.2) ((rd,p.2.wrs) :: acc) K
theorem CF {v:Av} {ch:Cg} {rd:List Rg}:IJ env KD is s d acc rd (some (v,ch))=dw env is (s.ap d v ch) ((rd,ch.wrs) :: acc) KD:=bG rfl
def MO (env:Env) (K:St→Ft→Prop) (is:List PI) (s:St) (d:Option Nat) (acc:Ft) (f:Nat) (o:Option (List Pa)):Prop:=aO o fun ps =>
 (∃ rs,env.d f ps rs∧dw env is (s.ap d (kT rs) .no) (([(d.getD 0,big - 1,1)],[]) :: acc) K)∨(∃ H rs,env.a f none ps H rs∧dw env is (s.ap d (zk (d.getD 0) (s.gen (d.getD 0)+1) rs) (.new (d.getD 0) (.ab H))) (([(d.getD 0,big - 1,1)],[(d.getD 0,0,big)]) :: acc) K)∨(∃ E sz rows,env.f f ps E sz rows∧dw env is (s.ap d (.b (.one (.own (d.getD 0) (s.gen (d.getD 0)+1) rows))) (.new (d.getD 0) (.row E sz rows.length))) (([(d.getD 0,big - 1,1)],[(d.getD 0,0,big)]) :: acc) K)
theorem iW {f:Nat} {ps:List Pa} (rs:List Pa) (h:env.d f ps rs) (k:dw env is (s.ap d (kT rs) .no) (([(d.getD 0,big - 1,1)],[]) :: acc) KD):MO env KD is s d acc f (some ps):=.inl ⟨rs,h,k⟩
def Qb (env:Env) (K:St→Ft→Prop) (is:List PI) (s:St) (d:Option Nat) (acc:Ft) (f o:Nat) (oh:Option HP) (oa:Option (List Pa)):Prop:=aO oa fun ps=>aO oh fun H =>
 (∃ H' rs,env.a f (some H) ps H' rs∧dw env is (s.ap d (kT rs) (.ab o H')) (([(o,0,big),(d.getD 0,big - 1,1)],[(o,0,big)]) :: acc) K) ∨
 (∃ H2,ps=[]∧env.c f H H2∧dw env is (s.ap d (.b (.one (.ab (d.getD 0) (s.gen (d.getD 0)+1)))) (.new (d.getD 0) (.ab H2))) (([(o,0,big),(d.getD 0,big - 1,1)],[(d.getD 0,0,big)]) :: acc) K)
def TN (env:Env) (K:St→Ft→Prop) (is:List PI) (s:St) (d:Option Nat) (acc:Ft) (f o:Nat) (od:Option (List Dt)) (oa:Option (List Pa)):Prop:=aO oa fun ps=>aO od fun ds=>∃ ds' rs,env.m f ds ps ds' rs∧ds'.length=ds.length∧dw env is (s.ap d (kT rs) (.wr o 0 (ds'.map .d))) (([(o,0,big),(d.getD 0,big - 1,1)],[(o,0,(ds'.map Cl.d).length)]) :: acc) K
def mF (env:Env) (K:St→Ft→Prop) (is:List PI) (s:St) (d:Option Nat) (acc:Ft) (f:Nat) (xs:List PX):Option (Nat×Nat)→Option (Nat×Nat)→Prop
 | some (o,g),_=>Qb env K is s d acc f o (s.yw o g) (s.args xs.tail)
 | none,some (o,g)=>TN env K is s d acc f o (s.iH o g) (s.args xs.tail)
 | none,none=>MO env K is s d acc f (s.args xs)
theorem zC {f:Nat} {xs:List PX}:mF env KD is s d acc f xs none none=MO env KD is s d acc f (s.args xs):=bG rfl
theorem BO {f o g:Nat} {xs:List PX}:mF env KD is s d acc f xs none (some (o,g))=TN env KD is s d acc f o (s.iH o g) (s.args xs.tail):=bG rfl
theorem zD {f o g:Nat} {xs:List PX} {p:Option (Nat×Nat)}:mF env KD is s d acc f xs (some (o,g)) p=Qb env KD is s d acc f o (s.yw o g) (s.args xs.tail):=bG rfl
def goD (env:Env) (K:St→Ft→Prop) (is:List PI) (s:St) (d:Option Nat) (acc:Ft) (op:PO):Prop:=op.go env s (d.getD 0) fun v ch=>dw env is (s.ap d v ch) ((op.rd s (d.getD 0),ch.wrs) :: acc) K
def za (env:Env) (K:St→Ft→Prop) (is:List PI) (s:St) (d:Option Nat) (acc:Ft) (op:PO) (t:Nat) (want:Bool):Option (Option Bool)→Prop
 | none=>False
 | some none=>dw env is (s.ap d skp .no) ((op.rd s (d.getD 0),[]) :: acc) K
 | some (some b)=>(b=want→goD env K is (s.ap (some t) (fD (.bool want)) .no) d acc op)∧(b=!want→dw env is ((s.ap (some t) (fD (.bool !want)) .no).ap d skp .no) ((op.rd s (d.getD 0),[]) :: acc) K)
theorem uD {op:PO} {t:Nat} {want:Bool}:za env KD is s d acc op t want (some none)=dw env is (s.ap d skp .no) ((op.rd s (d.getD 0),[]) :: acc) KD:=bG rfl
theorem jY {op:PO} {t:Nat} {want b:Bool}:za env KD is s d acc op t want (some (some b))=((b=want→goD env KD is (s.ap (some t) (fD (.bool want)) .no) d acc op)∧(b=!want→dw env is ((s.ap (some t) (fD (.bool !want)) .no).ap d skp .no) ((op.rd s (d.getD 0),[]) :: acc) KD)):=bG rfl
theorem Gq:dw env [] s acc KD=KD s acc.reverse:=bG rfl
theorem QJ {op:PO} (h:op.aT=false):goD env KD is s d acc op=IJ env KD is s d acc (op.rd s (d.getD 0)) (op.fn s (d.getD 0)):=by
 unfold goD;rw [PO.y9 h];rfl
def yT (env:Env) (K:St→Ft→Prop) (is:List PI) (s:St) (d:Option Nat) (acc:Ft) (f:Nat) (xs:List PX):Option Unit→Prop
 | some _=>mF env K is s d acc f xs (s.recv xs) (s.eX xs)
 | none=>False
theorem zF {f:Nat} {xs:List PX} {u:Unit}:yT env KD is s d acc f xs (some u)=mF env KD is s d acc f xs (s.recv xs) (s.eX xs):=bG rfl
def IU (env:Env) (K:St→Ft→Prop) (is:List PI) (s:St) (d:Option Nat) (acc:Ft):Option Value→Prop
 | some v=>dw env is (s.ap d (fD v) .no) (([],[]) :: acc) K
 | none=>False
theorem DW {v:Value}:IU env KD is s d acc (some v)=dw env is (s.ap d (fD v) .no) (([],[]) :: acc) KD:=bG rfl
def Mc (env:Env) (K:St→Ft→Prop) (is:List PI) (s:St) (d:Option Nat) (acc:Ft) (c:Nat) (rd:List Rg) (k:HA):Prop:=rW s c (fun v ch=>dw env is (s.ap d v ch) ((rd,ch.wrs) :: acc) K) k
theorem DK {c E sz bytes:Nat} {rd:List Rg} {x y:PX} {news:List (List Dt)} (b:Nat) (h:s.lay c b) (h1:s.cl x=.d (.sc (.slice none 0 0))) (h2:s.jr y=some news) (h3:(∀ r ∈ news,r.length=sz)∧news.length≤1000000∧bytes≤1000000) (k:dw env is (s.ap d (.b (.one (.hv (.v b)))) (.hw (HBS+c) [(b,.vec E sz news)])) ((rd,[(HBS+c,0,big)]) :: acc) KD):Mc env KD is s d acc c rd (.app E sz bytes x y) :=
 aj.2 ⟨news,h2,by rw [h1];exact ⟨h3,b,h,k⟩⟩
theorem vJ {c E sz bytes a:Nat} {rd:List Rg} {x y:PX} {rows news:List (List Dt)} (b:Nat) (h:s.lay (s.nc a) b) (h1:s.cl x=.hv (.v a)) (h0:s.hb a=.vec E sz rows) (h2:(s.cl y).rows=some news) (h3:(∀ r ∈ news,r.length=sz)∧rows.length+news.length≤1000000∧bytes≤1000000) (k:dw env is (s.ap d (.b (.one (.hv (.v b)))) (.hw (HBS+s.nc a) [(a,.dead),(b,.vec E sz (rows ++ news))])) ((rd,[(HBS+s.nc a,0,big)]) :: acc) KD):Mc env KD is s d acc c rd (.app E sz bytes x y) :=
 aj.2 ⟨news,jQ h2,by rw [h1];exact aj.2 ⟨(E,sz,rows),by rw [h0];rfl,⟨rfl,rfl,h3⟩,b,h,k⟩⟩
theorem nK {c E sz bytes a:Nat} {rd:List Rg} {x y:PX} {rows news:List (List Dt)} (b:Nat) (h:s.lay (s.nc a) b) (h1:s.cl x=.hv (.v a)) (h0:s.hb a=.vec E sz rows) (h2:s.jr y=some news) (h3:(∀ r ∈ news,r.length=sz)∧rows.length+news.length≤1000000∧bytes≤1000000) (k:dw env is (s.ap d (.b (.one (.hv (.v b)))) (.hw (HBS+s.nc a) [(a,.dead),(b,.vec E sz (rows ++ news))])) ((rd,[(HBS+s.nc a,0,big)]) :: acc) KD):Mc env KD is s d acc c rd (.app E sz bytes x y) :=
 aj.2 ⟨news,h2,by rw [h1];exact aj.2 ⟨(E,sz,rows),by rw [h0];rfl,⟨rfl,rfl,h3⟩,b,h,k⟩⟩
def vV (env:Env) (K:St→Ft→Prop) (is:List PI) (s:St) (d:Option Nat) (acc:Ft) (f:Nat) (oa:Option (List Hw)):Prop:=aO oa fun az=>qj env s (fun v ch=>dw env is (s.ap d v ch) (([(gI,0,big)],ch.wrs) :: acc) K) f az
theorem lJ {f:Nat} {az:List Hw} (hp':Nat→Hb) (rs:List Hw) (h:env.h f s.hb az hp' rs) (k:dw env is (s.ap d (yK rs) (.hall hp')) (([(gI,0,big)],[(gI,0,big)]) :: acc) KD):vV env KD is s d acc f (some az):=⟨hp',rs,h,.inl k⟩
theorem rU {f:Nat} {az:List Hw} (rs:List Hw) (h:env.h f s.hb az s.hb rs) (ha:∀ c,yH (s.ob (HBS+c))=true) (k:dw env is (s.ap d (yK rs) .no) (([(gI,0,big)],[]) :: acc) KD):vV env KD is s d acc f (some az):=⟨s.hb,rs,h,.inr ⟨rfl,ha,k⟩⟩
def Qu (env:Env) (K:St→Ft→Prop) (is:List PI) (s:St) (d:Option Nat) (acc:Ft) (f:Nat) (oa:Option (List Hw)):Prop:=aO oa fun az=>yS env s (fun v ch=>dw env is (s.ap d v ch) (([],ch.wrs) :: acc) K) f az
def Ei (env:Env) (K:St→Ft→Prop) (is:List PI) (s:St) (d:Option Nat) (acc:Ft) (f:Nat) (of:Option (List (Nat×Nat)×List (Nat×Nat))) (oa:Option (List Hw)):Prop:=aO of fun p=>aO oa fun az=>qj env s (fun v ch=>dw env is (s.ap d v ch) (([(gI,0,big)],ch.wrs) :: acc) K) f (rX p.1 ++ az ++ rX p.2)
theorem zA {f:Nat} {az:List Hw} {a c:List (Nat×Nat)}:Ei env KD is s d acc f (some (a,c)) (some az)=vV env KD is s d acc f (some (rX a ++ az ++ rX c)):=bG rfl
def Td (env:Env) (K:St→Ft→Prop) (is:List PI) (s:St) (d:Option Nat) (acc:Ft) (x:Cl):Prop:=IV s x (fun v ch=>dw env is (s.ap d v ch) (([],ch.wrs) :: acc) K)
def opD (env:Env) (K:St→Ft→Prop) (is:List PI) (s:St) (d:Option Nat) (acc:Ft) (b:Bool) (op:PO):Prop:=match b with
 | true=>(match op with | .call f xs=>mF env K is s d acc f xs (s.recv xs) (s.eX xs) | .callv x f xs=>yT env K is s d acc f xs (tu f (s.val x)) | .ldg x=>IU env K is s d acc (gAt env (s.val x)) | .hal c k=>Mc env K is s d acc c ((PO.hal c k).rd s (d.getD 0)) k | .next x=>Td env K is s d acc (s.cl x) | .callh f xs=>vV env K is s d acc f (s.hws xs) | .callp f xs=>Qu env K is s d acc f (s.hws xs) | .callc x f xs=>Ei env K is s d acc f (E8 f (s.cl x)) (s.hws xs) | _=>False)
 | false=>IJ env K is s d acc (op.rd s (d.getD 0)) (op.fn s (d.getD 0))
theorem xH {op:PO}:opD env KD is s d acc false op=IJ env KD is s d acc (op.rd s (d.getD 0)) (op.fn s (d.getD 0)):=bG rfl
theorem Kv {f:Nat} {xs:List PX}:opD env KD is s d acc true (.call f xs)=mF env KD is s d acc f xs (s.recv xs) (s.eX xs):=bG rfl
theorem HY {x:PX} {f:Nat} {xs:List PX}:opD env KD is s d acc true (.callv x f xs)=yT env KD is s d acc f xs (tu f (s.val x)):=bG rfl
theorem OA {x:PX}:opD env KD is s d acc true (.ldg x)=IU env KD is s d acc (gAt env (s.val x)):=bG rfl
theorem Oz {c:Nat} {k:HA}:opD env KD is s d acc true (.hal c k)=Mc env KD is s d acc c ((PO.hal c k).rd s (d.getD 0)) k:=bG rfl
theorem HV {f:Nat} {xs:List PX}:opD env KD is s d acc true (.callh f xs)=vV env KD is s d acc f (s.hws xs):=bG rfl
theorem Hz {x:PX} {f:Nat} {xs:List PX}:opD env KD is s d acc true (.callc x f xs)=Ei env KD is s d acc f (E8 f (s.cl x)) (s.hws xs):=bG rfl
theorem QK {op:PO}:goD env KD is s d acc op=opD env KD is s d acc op.aT op:=by
 cases hc:op.aT with
 | true =>
   cases op <;> first
    | (cases hc;done)
    | (rename_i f xs
       show jd env s (d.getD 0) (fun v ch=>dw env is (s.ap d v ch) (((PO.call f xs).rd s (d.getD 0),ch.wrs) :: acc) KD) f xs (s.recv xs) (s.eX xs)=mF env KD is s d acc f xs (s.recv xs) (s.eX xs)
       have hrd:(PO.call f xs).rd s (d.getD 0)=match s.recv xs,s.eX xs with | some p,_=>[(p.1,0,big),(d.getD 0,big - 1,1)] | none,some p=>[(p.1,0,big),(d.getD 0,big - 1,1)] | none,none=>[(d.getD 0,big - 1,1)]:=rfl
       rw [hrd];cases s.recv xs <;> cases s.eX xs <;> rfl)
    | (rename_i x f xs
       show aO (tu f (s.val x)) (fun _=>jd env s (d.getD 0) (fun v ch=>dw env is (s.ap d v ch) (((PO.callv x f xs).rd s (d.getD 0),ch.wrs) :: acc) KD) f xs (s.recv xs) (s.eX xs))=yT env KD is s d acc f xs (tu f (s.val x))
       have hrd:(PO.callv x f xs).rd s (d.getD 0)=match s.recv xs,s.eX xs with | some p,_=>[(p.1,0,big),(d.getD 0,big - 1,1)] | none,some p=>[(p.1,0,big),(d.getD 0,big - 1,1)] | none,none=>[(d.getD 0,big - 1,1)]:=rfl
       rw [hrd]
       cases tu f (s.val x) with
       | none=>rfl
       | some u =>
         show jd env s (d.getD 0) (fun v ch=>dw env is (s.ap d v ch) ((match s.recv xs,s.eX xs with | some p,_=>[(p.1,0,big),(d.getD 0,big - 1,1)] | none,some p=>[(p.1,0,big),(d.getD 0,big - 1,1)] | none,none=>[(d.getD 0,big - 1,1)],ch.wrs) :: acc) KD) f xs (s.recv xs) (s.eX xs)=mF env KD is s d acc f xs (s.recv xs) (s.eX xs)
         cases s.recv xs <;> cases s.eX xs <;> rfl)
    | (rename_i x
       show aO (gAt env (s.val x)) (fun v=>dw env is (s.ap d (fD v) .no) (([],[]) :: acc) KD)=IU env KD is s d acc (gAt env (s.val x))
       cases gAt env (s.val x) <;> rfl)
    | rfl
 | false=>rw [xH,QJ hc]
theorem zM {op:PO}:dw env (⟨d,op,none,af⟩ :: is) s acc KD=goD env KD is s d acc op:=bG rfl
theorem jW {op:PO} {t:Nat} {want:Bool}:dw env (⟨d,op,some (t,want),af⟩ :: is) s acc KD=za env KD is s d acc op t want (s.gd t):=by
 change aO (s.gd t) _=za env KD is s d acc op t want (s.gd t)
 cases h:s.gd t with
 | none=>rfl
 | some b =>
   cases b with
   | none=>exact propext ⟨fun k=>k.2 (by simp),fun k=>⟨fun e=>(by simp at e),fun _=>k⟩⟩
   | some b =>
     have hb:=lq (sQ h);rw [jY]
     show ((some b=some want→_)∧(some b≠some want→_))=_
     rw [FK,Option.some.injEq]
     congr 1
     ·apply propext
      refine forall_congr' fun he=>?_
      subst he;rw [hb];rfl
     ·apply propext
      refine forall_congr' fun he=>?_
      rw [←he,hb];rfl
theorem JA {op:PO} {t:Nat} {want:Bool} (h:s.gd t=some (some want)):dw env (⟨d,op,some (t,want),af⟩ :: is) s acc KD=goD env KD is s d acc op:=by
 rw [jW,h,jY,lq (sQ h)];exact propext ⟨fun k=>k.1 rfl,fun k=>⟨fun _=>k,fun e=>absurd e (by cases want <;> decide)⟩⟩
theorem Jy {op:PO} {t:Nat} {want:Bool} (h:s.gd t=some (some (!want))):dw env (⟨d,op,some (t,want),af⟩ :: is) s acc KD=dw env is (s.ap d skp .no) ((op.rd s (d.getD 0),[]) :: acc) KD:=by
 rw [jW,h,jY,lq (sQ h)];exact propext ⟨fun k=>k.2 rfl,fun k=>⟨fun e=>absurd e (by cases want <;> decide),fun _=>k⟩⟩
theorem Jz {op:PO} {t:Nat} {want:Bool} (h:s.gd t=some none):dw env (⟨d,op,some (t,want),af⟩ :: is) s acc KD=dw env is (s.ap d skp .no) ((op.rd s (d.getD 0),[]) :: acc) KD:=by
 rw [jW,h,uD]
def o9:Nat→List (Nat×List Cl)→Nat→Bool
 | k,[],n=>k == n
 | k,(o,c) :: r,n=>o == k && o9 (k+c.length) r n
def Dx (z:List Cl) (rs:List (Nat×List Cl)):Option (List Cl):=bif o9 0 rs z.length then some (rs.flatMap (·.2)) else dS z rs
theorem AZ:∀ {rs:List (Nat×List Cl)} {k n:Nat},o9 k rs n=true→k≤n
 | [],k,n,h=>by unfold o9 at h;exact Nat.le_of_eq (eq_of_beq h)
 | (o,c) :: r,k,n,h=>by
   unfold o9 at h;rw [Bool.and_eq_true] at h;have:=AZ h.2;omega
theorem uF:∀ {rs:List (Nat×List Cl)} {pre suf:List Cl},o9 pre.length rs (pre.length+suf.length)=true→dS (pre ++ suf) rs=some (pre ++ rs.flatMap (·.2))
 | [],pre,suf,h=>by
   unfold o9 at h;have h1:=eq_of_beq h;have h2:suf=[]:=List.eq_nil_of_length_eq_zero (by omega);subst h2;simp [dS]
 | (o,c) :: r,pre,suf,h=>by
   unfold o9 at h;rw [Bool.and_eq_true] at h;obtain ⟨h1,h2⟩:=h;have h1:=eq_of_beq h1;subst h1;have h3:=AZ h2;have hc:c.length≤suf.length:=by omega
   have hs:splice (pre ++ suf) pre.length c=(pre ++ c) ++ suf.drop c.length:=by
    unfold splice;rw [List.take_left,List.drop_append,List.drop_of_length_le (by omega),List.nil_append]
    congr 2
    omega
   unfold dS
   rw [if_pos (by rw [List.length_append];omega),hs,uF (pre:=pre ++ c) (suf:=suf.drop c.length) (by
    rw [List.length_append,List.length_drop];have:pre.length+c.length+(suf.length - c.length)=pre.length+suf.length:=by omega
    rw [this];exact h2)]
   simp
theorem AB (z:List Cl) (rs:List (Nat×List Cl)):dS z rs=Dx z rs:=by
 unfold Dx
 cases h:o9 0 rs z.length with
 | false=>rfl
 | true =>
   have:=uF (pre:=[]) (suf:=z) (by simpa using h)
   simpa using this
theorem JE {d:Nat} {z:List Value} {ps:List (Nat×Nat×PX)}:PO.fn s d (.build z ps)=(s.parts ps).bind fun ps=>(Dx (z.map fun v=>.d (.sc v)) ps).map fun cs=>(.b (.agg cs),.no):=by
 simp only [PO.fn,AB]
theorem Gz {d E sz ln:Nat} {z:List Value} {ps:List (Nat×Nat×PX)}:PO.fn s d (.bslice E sz z ln ps)=(s.parts ps).bind fun ps=>(Dx (z.map fun v=>.d (.sc v)) ps).bind fun cs =>
 (aC (cs.map Cl.dt)).map fun xs=>(.b (.one (.own d (s.gen d+1) (chunks ln sz xs))),.new d (.row E sz ln)):=by
 simp only [PO.fn,AB]
inductive It where
 | c (x:PC)
 | bl (id:Nat)
 | lp (I:Nat→St→Prop) (n:Nat)
 | sc (l:Nat) (r:PC)
 | ng
def exS (env:Env):List It→(Exit→St→Prop)→Exit→St→Prop
 | [],Q,e,s=>Q e s
 | .c b :: k,Q,e,s=>match e with
   | .normal=>pwp env b (exS env k Q) s
   | e=>exS env k Q e s
 | .bl id :: k,Q,e,s=>match e with
   | .exit i=>if i=id then exS env k Q .normal s else exS env k Q (.exit i) s
   | e=>exS env k Q e s
 | .lp I n :: k,Q,e,s=>match e with
   | .normal=>∃ m,m < n∧I m s
   | e=>exS env k Q e s
 | .sc l r :: k,Q,e,s=>match e with
   | .goto l'=>l'=l∧pwp env r (fun e2 s2=>match e2 with | .goto _=>False | e2=>exS env k Q e2 s2) s
   | e=>exS env k Q e s
 | .ng :: k,Q,e,s=>match e with
   | .goto _=>False
   | e=>exS env k Q e s
variable {k:List It} {Q:Exit→St→Prop}
theorem NK {e:Exit}:exS env [] Q e s=Q e s:=bG rfl
theorem Dk {b:PC}:exS env (.c b :: k) Q .normal s=pwp env b (exS env k Q) s:=bG rfl
theorem Gt {b:PC}:exS env (.c b :: k) Q .ret s=exS env k Q .ret s:=bG rfl
theorem Dl {b:PC} {i:Nat}:exS env (.c b :: k) Q (.exit i) s=exS env k Q (.exit i) s:=bG rfl
theorem QC {id:Nat}:exS env (.bl id :: k) Q .normal s=exS env k Q .normal s:=bG rfl
theorem Dj {id:Nat}:exS env (.bl id :: k) Q .ret s=exS env k Q .ret s:=bG rfl
theorem zO {id i:Nat}:exS env (.bl id :: k) Q (.exit i) s=if i=id then exS env k Q .normal s else exS env k Q (.exit i) s:=bG rfl
theorem Dp {I:Nat→St→Prop} {n:Nat}:exS env (.lp I n :: k) Q .ret s=exS env k Q .ret s:=bG rfl
theorem zS {I:Nat→St→Prop} {n i:Nat}:exS env (.lp I n :: k) Q (.exit i) s=exS env k Q (.exit i) s:=bG rfl
theorem Dn {b:PC} {i:Nat}:exS env (.c b :: k) Q (.goto i) s=exS env k Q (.goto i) s:=bG rfl
theorem zQ {id i:Nat}:exS env (.bl id :: k) Q (.goto i) s=exS env k Q (.goto i) s:=bG rfl
theorem zT {I:Nat→St→Prop} {n i:Nat}:exS env (.lp I n :: k) Q (.goto i) s=exS env k Q (.goto i) s:=bG rfl
theorem QE {l:Nat} {r:PC}:exS env (.sc l r :: k) Q .normal s=exS env k Q .normal s:=bG rfl
theorem Dv {l:Nat} {r:PC}:exS env (.sc l r :: k) Q .ret s=exS env k Q .ret s:=bG rfl
theorem zV {l i:Nat} {r:PC}:exS env (.sc l r :: k) Q (.exit i) s=exS env k Q (.exit i) s:=bG rfl
theorem QD:exS env (.ng :: k) Q .normal s=exS env k Q .normal s:=bG rfl
theorem Du:exS env (.ng :: k) Q .ret s=exS env k Q .ret s:=bG rfl
theorem zU {i:Nat}:exS env (.ng :: k) Q (.exit i) s=exS env k Q (.exit i) s:=bG rfl
theorem Dq:exS env (.ng :: k) Q=fun e2 s2=>match e2 with | .goto _=>False | e2=>exS env k Q e2 s2:=by
 funext e s
 cases e <;> rfl
theorem zW {l:Nat} {r:PC}:exS env (.sc l r :: k) Q (.goto l) s=pwp env r (exS env (.ng :: k) Q) s:=by
 rw [Dq];exact propext ⟨fun h=>h.2,fun h=>⟨rfl,h⟩⟩
theorem aQ {c:PC} (h:pwp env c (exS env [] Q) s):pwp env c Q s:=h
theorem gy {Q':Exit→St→Prop} {c:PC} (sls obs:List Nat) (h:∀ st:St,(∀ x,x ∈ sls→st.sl x=s.sl x)→(∀ o,o ∈ obs→st.gen o=s.gen o∧st.ob o=s.ob o)→pwp env c Q' st):pwp env c Q' s:=h s (fun _ _=>rfl) (fun _ _=>⟨rfl,rfl⟩)
theorem jH {Q':Exit→St→Prop} {c:PC} (P:St→Prop) (hP:P s) (sls obs:List Nat) (h:∀ st:St,P st→(∀ x,x ∈ sls→st.sl x=s.sl x)→(∀ o,o ∈ obs→st.gen o=s.gen o∧st.ob o=s.ob o)→pwp env c Q' st):pwp env c Q' s:=h s hP (fun _ _=>rfl) (fun _ _=>⟨rfl,rfl⟩)
theorem KL:pwp env .skip (exS env k Q) s=exS env k Q .normal s:=bG rfl
theorem OH {ops:List PI}:pwp env (.reg false ops) (exS env k Q) s=aS env ops s (exS env k Q .normal):=bG rfl
def drawn (ops:List PI) (K:St→Prop) (s:St) (fts:Ft):Prop:=vW ops fts=true∧K s
def Drw (ops:List PI) (fts:Ft):Prop:=vW ops fts=true
theorem Gh {ops:List PI} {K:St→Prop} {fts:Ft}:drawn ops K s fts=(Drw ops fts∧K s):=bG rfl
theorem KJ {ops:List PI}:pwp env (.reg true ops) (exS env k Q) s=dw env ops s [] (drawn ops (exS env k Q .normal)):=bG rfl
theorem OJ {a b:PC}:pwp env (.seq a b) (exS env k Q) s=pwp env a (exS env (.c b :: k) Q) s:=by
 show pwp env a _ s=_
 congr 1
def PU (env:Env) (a b:PC) (k:List It) (Q:Exit→St→Prop) (s:St) (o:Option Bool):Prop:=aO o fun t=>(t=true→pwp env a (exS env k Q) s)∧(t=false→pwp env b (exS env k Q) s)
theorem CB {a b:PC} {t:Bool}:PU env a b k Q s (some t)=((t=true→pwp env a (exS env k Q) s)∧(t=false→pwp env b (exS env k Q) s)):=bG rfl
theorem KG {c:PX} {a b:PC}:pwp env (.cond c a b) (exS env k Q) s=PU env a b k Q s (s.boo c):=bG rfl
theorem Ic {id:Nat} {c:PC}:pwp env (.block id c) (exS env k Q) s=pwp env c (exS env (.bl id :: k) Q) s:=by
 show pwp env c _ s=_
 congr 1
theorem KH {id:Nat}:pwp env (.exit id) (exS env k Q) s=exS env k Q (.exit id) s:=bG rfl
theorem KI {l:Nat}:pwp env (.goto l) (exS env k Q) s=exS env k Q (.goto l) s:=bG rfl
theorem Ie {l:Nat} {c r:PC}:pwp env (.scope l c r) (exS env k Q) s=pwp env c (exS env (.sc l r :: k) Q) s:=by
 show pwp env c _ s=_
 congr 1
theorem OI:pwp env .ret (exS env k Q) s=exS env k Q .ret s:=bG rfl
theorem Br {c:PC} (I:Nat→St→Prop) (n:Nat) (h0:I n s) (h:∀ n s,I n s→pwp env c (exS env (.lp I n :: k) Q) s):pwp env (.loop c) (exS env k Q) s:=by
 refine ⟨I,⟨n,h0⟩,fun n s hI=>?_⟩;have:=h n s hI
 have he:exS env (.lp I n :: k) Q=fun e s'=>match e with | .normal=>∃ m,m < n∧I m s' | e=>exS env k Q e s':=by
  funext e s'
  cases e <;> rfl
 rw [he] at this;exact this
theorem SC {x:Nat} {v:Av} {ch:Cg}:(s.ap (some x) v ch).sl=up s.sl x v:=bG rfl
theorem Qs {v:Av} {ch:Cg}:(s.ap none v ch).sl=s.sl:=bG rfl
theorem Qn {v:Av}:(s.ap d v .no).gen=s.gen:=bG rfl
theorem Na {v:Av} {o off:Nat} {cs:List Cl}:(s.ap d v (.wr o off cs)).gen=s.gen:=bG rfl
theorem M9 {v:Av} {o m:Nat}:(s.ap d v (.row o m)).gen=s.gen:=bG rfl
theorem M8 {v:Av} {o:Nat} {x:Ob}:(s.ap d v (.new o x)).gen=up s.gen o (s.gen o+1):=bG rfl
theorem SB {v:Av}:(s.ap d v .no).ob=s.ob:=bG rfl
theorem L6 {v:Av} {o off:Nat} {cs:List Cl}:(s.ap d v (.wr o off cs)).ob=up s.ob o (wrF off cs (s.ob o)):=by
 rw [sF];rfl
theorem LZ {v:Av} {o m:Nat}:(s.ap d v (.row o m)).ob=up s.ob o (OO m (s.ob o)):=by
 rw [sF];rfl
theorem Qr {v:Av} {o:Nat} {x:Ob}:(s.ap d v (.new o x)).ob=up s.ob o x:=bG rfl
theorem SA {v:Av} {ch:Cg}:(s.ap d v ch).nc=s.nc:=bG rfl
theorem M7 {v:Av} {o:Nat} {l:List (Nat×Hb)}:(s.ap d v (.hw o l)).gen=s.gen:=bG rfl
theorem M5 {v:Av} {h:Nat→Hb}:(s.ap d v (.hall h)).gen=s.gen:=bG rfl
theorem Qq {v:Av} {c x:Nat} {l:List (Nat×Hb)} (hx:x < 1000000):(s.ap d v (.hw (HBS+c) l)).ob x=s.ob x:=by
 show up s.ob (HBS+c) _ x=_
 rw [ay,if_neg (by unfold HBS;omega)]
theorem Qo {v:Av} {x:Nat} {h:Nat→Hb} (hx:x < 1000000):(s.ap d v (.hall h)).ob x=s.ob x:=by
 show (if HBS≤x then _ else _)=_
 rw [if_neg (by unfold HBS;omega)]
theorem SQ {v:Av}:(s.ap d v .no).hb=s.hb:=bG rfl
theorem hb_new {v:Av} {o:Nat} {x:Ob} (h:o < 1000000):(s.ap d v (.new o x)).hb=s.hb:=by
 funext b
 exact o8 (o:=o) (fun p hp=>by show up s.ob o x p=_;rw [ay,if_neg hp]) (.inl (by unfold HBS;exact h)) b
theorem SS {v:Av} {o off:Nat} {cs:List Cl} (h:o < 1000000):(s.ap d v (.wr o off cs)).hb=s.hb:=by
 funext b
 exact o8 (o:=o) (fun p hp=>by rw [L6,ay,if_neg hp]) (.inl (by unfold HBS;exact h)) b
theorem QT {v:Av} {o m:Nat} (h:o < 1000000):(s.ap d v (.row o m)).hb=s.hb:=by
 funext b
 exact o8 (o:=o) (fun p hp=>by rw [LZ,ay,if_neg hp]) (.inl (by unfold HBS;exact h)) b
theorem SN {v:Av} {o:Nat} {H:HP} (h:o < 1000000):(s.ap d v (.ab o H)).hb=s.hb:=by
 funext b
 exact o8 (o:=o) (fun p hp=>by show up s.ob o (.ab H) p=_;rw [ay,if_neg hp]) (.inl (by unfold HBS;exact h)) b
theorem FV {f g:Nat→Hb} {b:Nat}:∀ {l:List (Nat×Hb)},f b=g b→upl f l b=upl g l b
 | [],h=>h
 | (c,x) :: l,h=>by
   show upl (up f c x) l b=upl (up g c x) l b
   exact FV (l:=l) (by rw [ay,ay,h])
theorem FU {f:Nat→Hb} {b:Nat}:∀ {l:List (Nat×Hb)},(∀ p ∈ l,p.1≠b)→upl f l b=f b
 | [],_=>rfl
 | (c,x) :: l,h=>by
   show upl (up f c x) l b=f b
   rw [FU (fun p hp=>h p (by simp [hp])),ay,if_neg (Ne.symm (h (c,x) (by simp)))]
theorem mH {v:Av} {c:Nat} {l:List (Nat×Hb)} (h:∀ p ∈ l,s.nc p.1=c):(s.ap d v (.hw (HBS+c) l)).hb=upl s.hb l:=by
 funext b
 show eU (up s.ob (HBS+c) (.hp (upl (eU (s.ob (HBS+c))) l)) (HBS+s.nc b)) b=upl s.hb l b
 rw [ay]
 by_cases hb:s.nc b=c
 ·rw [if_pos (by rw [hb])];exact FV (show eU (s.ob (HBS+c)) b=eU (s.ob (HBS+s.nc b)) b by rw [hb])
 ·rw [if_neg (by omega),FU (fun p hp e=>hb (by rw [←e];exact h p hp))]
  rfl
theorem QO {v:Av} {c b:Nat} {x:Hb} (h:s.nc b=c):(s.ap d v (.hw (HBS+c) [(b,x)])).hb=up s.hb b x:=mH (by simpa using h)
theorem QS {v:Av} {c b b':Nat} {x x':Hb} (h:s.nc b=c) (h':s.nc b'=c):(s.ap d v (.hw (HBS+c) [(b,x),(b',x')])).hb=up (up s.hb b x) b' x':=mH (by simp [h,h'])
theorem QM {v:Av} {h:Nat→Hb}:(s.ap d v (.hall h)).hb=h:=Fe
def PL:Cg→Bool
 | .new o _=>decide (o < 1000000)
 | .wr o _ _=>decide (o < 1000000)
 | .row o _=>decide (o < 1000000)
 | .ab o _=>decide (o < 1000000)
 | _=>true
def aH (s:St):Prop:=∀ c,yH (s.ob (HBS+c))=true
theorem aH.ap {v:Av} {ch:Cg} (h:aH s) (hc:PL ch=true):aH (s.ap d v ch):=fun c=>by
 have hHB:∀ o,decide (o < 1000000)=true→HBS+c≠o:=fun o ho=>by have:=of_decide_eq_true ho;unfold HBS;omega
 rw [sF]
 show yH (ch.oF s.nc s.ob (HBS+c))=true
 cases ch with
 | no=>exact h c
 | new o x=>simp only [Cg.oF,md,ay,if_neg (hHB o hc)];exact h c
 | wr o off cs=>simp only [Cg.oF,md,ay,if_neg (hHB o hc)];exact h c
 | row o m=>simp only [Cg.oF,md,ay,if_neg (hHB o hc)];exact h c
 | ab o H=>simp only [Cg.oF,md,ay,if_neg (hHB o hc)];exact h c
 | hw o l=>simp only [Cg.oF,md,ay];split;rfl;exact h c
 | hall hp=>simp only [Cg.oF];rw [if_pos (Nat.le_add_right _ _)];rfl
theorem dU {c b:Nat} (h1:s.nc b=c) (h2:aH s) (h3:s.hb b=.no):s.lay c b:=⟨h1,h2 c,h3⟩
theorem aH.init {nc:Nat→Nat} {hp:Nat→Hb} {az:List Hw}:aH (St.eG nc hp az):=fun c=>by
 show yH (if HBS≤HBS+c then _ else _)=true
 rw [if_pos (Nat.le_add_right _ _)];rfl
def oG:List Hw→Nat→Av
 | [],_=>.un
 | p :: _,0=>.b p.bv
 | _ :: r,n+1=>oG r n
theorem J8 (nc:Nat→Nat) (hp:Nat→Hb) (ps:List Hw) (x:Nat):(St.eG nc hp ps).sl x=oG ps x:=by
 show (match ps[x]? with | some p=>Av.b p.bv | none=>.un)=_
 induction ps generalizing x with
 | nil=>simp [oG]
 | cons p r ih =>
   cases x with
   | zero=>rfl
   | succ x=>rw [List.getElem?_cons_succ,ih x];rfl
theorem G8 {nc:Nat→Nat} {hp:Nat→Hb} {ps:List Hw} {x:Nat}:(St.eG nc hp ps).gen x=0:=bG rfl
theorem J7 {nc:Nat→Nat} {hp:Nat→Hb} {ps:List Hw} {x:Nat} (h:x < 1000000):(St.eG nc hp ps).ob x=.no:=by
 show (if HBS≤x then _ else _)=_
 rw [if_neg (by unfold HBS;omega)]
theorem J6 {nc:Nat→Nat} {hp:Nat→Hb} {ps:List Hw}:(St.eG nc hp ps).nc=nc:=bG rfl
theorem Iw {off:Nat} {cs old:List Cl}:wrF off cs (.cells old)=.cells (iC old off cs):=bG rfl
theorem KP {m E sz n:Nat}:OO m (.row E sz n)=.row E sz m:=bG rfl
def ql:List Pa→Nat→Av
 | [],_=>.un
 | p :: _,0=>.b p.bv
 | _ :: r,n+1=>ql r n
theorem Fh (ps:List Pa) (x:Nat):(St.init ps).sl x=ql ps x:=by
 show (match ps[x]? with | some p=>Av.b p.bv | none=>.un)=_
 induction ps generalizing x with
 | nil=>simp [ql]
 | cons p r ih =>
   cases x with
   | zero=>rfl
   | succ x=>rw [List.getElem?_cons_succ,ih x];rfl
theorem Hg {ds:List Dt} {ps:List Pa}:(St.DT ds ps).sl 0=.b (.one (.ptr 0 0 0)):=bG rfl
theorem Hl {ds:List Dt} {ps:List Pa} {x:Nat}:(St.DT ds ps).sl (x+1)=ql ps x:=(Fh ps x)
theorem G9 {ds:List Dt} {ps:List Pa} {x:Nat}:(St.DT ds ps).gen x=0:=bG rfl
theorem He {ds:List Dt} {ps:List Pa}:(St.DT ds ps).ob 0=.cells (ds.map .d):=bG rfl
theorem Hf {ds:List Dt} {ps:List Pa} {x:Nat}:(St.DT ds ps).ob (x+1)=.no:=bG rfl
theorem J9 {ps:List Pa} {x:Nat}:(St.init ps).gen x=0:=bG rfl
theorem NZ {ps:List Pa} {x:Nat}:(St.init ps).ob x=.no:=bG rfl
theorem TY {x:Nat}:s.ev (.t x)=s.sl x:=bG rfl
theorem Qy {k:IntKind} {m:Int}:s.ev (.v (.int k m))=.b (.one (.d (.sc (.int k m)))):=bG rfl
theorem NG {b:Bool}:s.ev (.v (.bool b))=.b (.one (.d (.sc (.bool b)))):=bG rfl
theorem Gp {b:ByteArray}:s.ev (.v (.string b))=.b (.one (.d (.sc (.string b)))):=bG rfl
theorem Qz:s.ev (.v (.slice none 0 0))=.b (.one (.d (.sc (.slice none 0 0)))):=bG rfl
theorem Qx {l:Array Value}:s.ev (.v (.agg l))=.b (.agg (l.toList.map fun v=>.d (.sc v))):=bG rfl
theorem QA:s.ev (.v (.pointer none))=.b (.one (.d (.sc (.pointer none)))):=bG rfl
theorem I9:s.args []=some []:=bG rfl
theorem FY {x:PX} {xs:List PX}:s.args (x :: xs)=(match (s.ev x).pa with | some p=>(s.args xs).map (p :: ·) | none=>none):=by
 unfold St.args;simp only [List.map_cons];cases (s.ev x).pa <;> rfl
end
def Within (ms os:List Nat) (s0 st:St):Prop:=(∀ x,ms.contains x=false→st.sl x=s0.sl x)∧∀ o,os.contains o=false→st.gen o=s0.gen o∧st.ob o=s0.ob o
def over (ms os:List Nat) (s0 j:St):St:=⟨fun x=>bif ms.contains x then j.sl x else s0.sl x,fun o=>bif os.contains o then j.gen o else s0.gen o,fun o=>bif os.contains o then j.ob o else s0.ob o,j.nc⟩
theorem Within.refl (ms os:List Nat) (s:St):Within ms os s s:=⟨fun _ _=>rfl,fun _ _=>⟨rfl,rfl⟩⟩
theorem Within.over {ms os:List Nat} {s0 st:St} (h:Within ms os s0 st):∃ j,st=over ms os s0 j:=by
 refine ⟨st,?_⟩;obtain ⟨h1,h2⟩:=h
 have e1:st.sl=(Go.Proofs.Ytkafcpnahpfbfaa.over ms os s0 st).sl:=by
  funext x
  show st.sl x=bif ms.contains x then st.sl x else s0.sl x
  cases hx:ms.contains x with
  | true=>rfl
  | false=>exact h1 x hx
 have e2:st.gen=(Go.Proofs.Ytkafcpnahpfbfaa.over ms os s0 st).gen:=by
  funext x
  show st.gen x=bif os.contains x then st.gen x else s0.gen x
  cases hx:os.contains x with
  | true=>rfl
  | false=>exact (h2 x hx).1
 have e3:st.ob=(Go.Proofs.Ytkafcpnahpfbfaa.over ms os s0 st).ob:=by
  funext x
  show st.ob x=bif os.contains x then st.ob x else s0.ob x
  cases hx:os.contains x with
  | true=>rfl
  | false=>exact (h2 x hx).2
 show (⟨st.sl,st.gen,st.ob,st.nc⟩:St)=⟨(Go.Proofs.Ytkafcpnahpfbfaa.over ms os s0 st).sl,(Go.Proofs.Ytkafcpnahpfbfaa.over ms os s0 st).gen,(Go.Proofs.Ytkafcpnahpfbfaa.over ms os s0 st).ob,st.nc⟩
 rw [←e1,←e2,←e3]
theorem FD {ms os:List Nat} {s0 j:St} {x:Nat}:(over ms os s0 j).sl x=bif ms.contains x then j.sl x else s0.sl x:=bG rfl
theorem Bq {ms os:List Nat} {s0 j:St} {x:Nat}:(over ms os s0 j).gen x=bif os.contains x then j.gen x else s0.gen x:=bG rfl
theorem FC {ms os:List Nat} {s0 j:St} {x:Nat}:(over ms os s0 j).ob x=bif os.contains x then j.ob x else s0.ob x:=bG rfl
theorem bg {ms os:List Nat} {s0 j:St}:Within ms os s0 (over ms os s0 j)=True:=by
 apply propext
 refine ⟨fun _=>trivial,fun _=>⟨fun x hx=>?_,fun o ho=>⟨?_,?_⟩⟩⟩
 ·rw [FD,hx];rfl
 ·rw [Bq,ho];rfl
 ·rw [FC,ho];rfl
def Sl (os:List Nat):Cg→Bool
 | .ab o _=>os.contains o
 | .no=>true
 | .new o _=>os.contains o
 | .wr o _ _=>os.contains o
 | .row o _=>os.contains o
 | .hw o _=>os.contains o
 | .hall _=>false
theorem Within.ap {ms os:List Nat} {s0 s:St} {d:Option Nat} {v:Av} {ch:Cg} (h:Within ms os s0 s) (hd:∀ x,d=some x→ms.contains x=true) (hc:Sl os ch=true):Within ms os s0 (s.ap d v ch):=by
 obtain ⟨h1,h2⟩:=h;rw [sF];refine ⟨fun x hx=>?_,fun o ho=>?_⟩
 ·cases d with
  | none=>exact h1 x hx
  | some y =>
    show up s.sl y v x=_
    rw [ay,if_neg]
    ·exact h1 x hx
    ·rintro rfl;rw [hd x rfl] at hx;cases hx
 ·have key:∀ y:Nat,os.contains y=true→o≠y:=by
   rintro y hy rfl;rw [hy] at ho;cases ho
  show ch.gF s.gen o=_∧ch.oF s.nc s.ob o=_
  cases ch with
  | no=>exact h2 o ho
  | new y x=>simp only [Cg.gF,Cg.oF,Go.Proofs.Ytkafcpnahpfbfaa.md,ay,if_neg (key y hc)];exact h2 o ho
  | wr y off cs=>simp only [Cg.gF,Cg.oF,Go.Proofs.Ytkafcpnahpfbfaa.md,ay,if_neg (key y hc)];exact h2 o ho
  | row y m=>simp only [Cg.gF,Cg.oF,Go.Proofs.Ytkafcpnahpfbfaa.md,ay,if_neg (key y hc)];exact h2 o ho
  | ab y H=>simp only [Cg.gF,Cg.oF,Go.Proofs.Ytkafcpnahpfbfaa.md,ay,if_neg (key y hc)];exact h2 o ho
  | hw y l=>simp only [Cg.gF,Cg.oF,Go.Proofs.Ytkafcpnahpfbfaa.md,ay,if_neg (key y hc)];exact h2 o ho
  | hall h=>cases hc
theorem bC {ms os:List Nat} {s0 s:St} {x:Nat} {v:Av} {ch:Cg} (h:Within ms os s0 s) (hd:ms.contains x=true) (hc:Sl os ch=true):Within ms os s0 (s.ap (some x) v ch):=h.ap (fun y hy=>by cases hy;exact hd) hc
theorem aY {ms os:List Nat} {s0 s:St} {v:Av} {ch:Cg} (h:Within ms os s0 s) (hc:Sl os ch=true):Within ms os s0 (s.ap none v ch):=h.ap (fun y hy=>by cases hy) hc
theorem Within.trans {ms os:List Nat} {a b c:St} (h:Within ms os a b) (k:Within ms os b c):Within ms os a c :=
 ⟨fun x hx=>(k.1 x hx).trans (h.1 x hx),fun o ho=>⟨(k.2 o ho).1.trans (h.2 o ho).1,(k.2 o ho).2.trans (h.2 o ho).2⟩⟩
theorem bS {env:Env} {k:List It} {Q:Exit→St→Prop} {s:St} {c:PC} (ms os:List Nat) (J:Nat→St→Prop) (m0:Nat) (h0:J m0 s)
 (h:∀ m j,J m (over ms os s j)→pwp env c (exS env (.lp (fun m st=>Within ms os s st∧J m st) m :: k) Q) (over ms os s j)):pwp env (.loop c) (exS env k Q) s :=
 Br (fun m st=>Within ms os s st∧J m st) m0 ⟨Within.refl _ _ _,h0⟩ (fun m st ⟨hW,hJ⟩=>by
  obtain ⟨j,rfl⟩:=hW.over;exact h m j hJ)
def bV (ms os:List Nat) (s0 st:St):Prop:=(∀ x,ms.contains x=false→st.sl x=s0.sl x)∧(∀ o,os.contains o=false→st.gen o=s0.gen o∧(o < 1000000→st.ob o=s0.ob o))∧st.nc=s0.nc∧aH st
def jq (ms os:List Nat) (s0 j:St):St:=⟨fun x=>bif ms.contains x then j.sl x else s0.sl x,fun o=>bif os.contains o then j.gen o else s0.gen o,fun o=>if o < 1000000 then (bif os.contains o then j.ob o else s0.ob o) else j.ob o,s0.nc⟩
theorem bV.refl (ms os:List Nat) {s:St} (h:aH s):bV ms os s s:=⟨fun _ _=>rfl,fun _ _=>⟨rfl,fun _=>rfl⟩,rfl,h⟩
theorem bV.over {ms os:List Nat} {s0 st:St} (h:bV ms os s0 st):st=jq ms os s0 st:=by
 obtain ⟨h1,h2,h3,_⟩:=h
 have e1:st.sl=(jq ms os s0 st).sl:=by
  funext x
  show st.sl x=bif ms.contains x then st.sl x else s0.sl x
  cases hx:ms.contains x with
  | true=>rfl
  | false=>exact h1 x hx
 have e2:st.gen=(jq ms os s0 st).gen:=by
  funext x
  show st.gen x=bif os.contains x then st.gen x else s0.gen x
  cases hx:os.contains x with
  | true=>rfl
  | false=>exact (h2 x hx).1
 have e3:st.ob=(jq ms os s0 st).ob:=by
  funext x
  show st.ob x=if x < 1000000 then (bif os.contains x then st.ob x else s0.ob x) else st.ob x
  split
  ·rename_i hlt
   cases hx:os.contains x with
   | true=>rfl
   | false=>exact (h2 x hx).2 hlt
  ·rfl
 have e4:st.nc=(jq ms os s0 st).nc:=h3
 show (⟨st.sl,st.gen,st.ob,st.nc⟩:St)=⟨(jq ms os s0 st).sl,(jq ms os s0 st).gen,(jq ms os s0 st).ob,(jq ms os s0 st).nc⟩
 rw [←e1,←e2,←e3,←e4]
theorem Bo {ms os:List Nat} {s0 j:St} {x:Nat}:(jq ms os s0 j).sl x=bif ms.contains x then j.sl x else s0.sl x:=bG rfl
theorem xJ {ms os:List Nat} {s0 j:St} {x:Nat}:(jq ms os s0 j).gen x=bif os.contains x then j.gen x else s0.gen x:=bG rfl
theorem Bn {ms os:List Nat} {s0 j:St} {x:Nat} (h:x < 1000000):(jq ms os s0 j).ob x=bif os.contains x then j.ob x else s0.ob x:=by
 show (if x < 1000000 then _ else _)=_
 rw [if_pos h]
theorem Kz {ms os:List Nat} {s0 j:St}:(jq ms os s0 j).nc=s0.nc:=bG rfl
theorem vN {ms os:List Nat} {s0 j:St} (h:j.nc=s0.nc):(jq ms os s0 j).hb=j.hb:=by
 funext b
 show eU (if HBS+s0.nc b < 1000000 then _ else j.ob (HBS+s0.nc b)) b=eU (j.ob (HBS+j.nc b)) b
 rw [if_neg (by unfold HBS;omega),h]
theorem aN {ms os:List Nat} {s0 j:St} (h:aH j):aH (jq ms os s0 j):=fun c=>by
 show yH (if HBS+c < 1000000 then _ else j.ob (HBS+c))=true
 rw [if_neg (by unfold HBS;omega)];exact h c
def qy (os:List Nat):Cg→Bool
 | .ab o _=>os.contains o && decide (o < 1000000)
 | .no=>true
 | .new o _=>os.contains o && decide (o < 1000000)
 | .wr o _ _=>os.contains o && decide (o < 1000000)
 | .row o _=>os.contains o && decide (o < 1000000)
 | .hw o _=>decide (1000000≤o)
 | .hall _=>true
theorem bV.ap {ms os:List Nat} {s0 s:St} {d:Option Nat} {v:Av} {ch:Cg} (h:bV ms os s0 s) (hd:∀ x,d=some x→ms.contains x=true) (hc:qy os ch=true):bV ms os s0 (s.ap d v ch):=by
 obtain ⟨h1,h2,h3,h4⟩:=h;have hlow:PL ch=true:=by cases ch <;> simp only [qy,Bool.and_eq_true] at hc <;> first | rfl | exact hc.2
 have h4':=h4.ap (d:=d) (v:=v) hlow;rw [sF] at h4' ⊢;refine ⟨fun x hx=>?_,fun o ho=>?_,h3,h4'⟩
 ·cases d with
  | none=>exact h1 x hx
  | some y =>
    show up s.sl y v x=_
    rw [ay,if_neg]
    ·exact h1 x hx
    ·rintro rfl;rw [hd x rfl] at hx;cases hx
 ·have key:∀ y:Nat,os.contains y=true→o≠y:=by
   rintro y hy rfl;rw [hy] at ho;cases ho
  show ch.gF s.gen o=_∧(o < 1000000→ch.oF s.nc s.ob o=_)
  obtain ⟨g1,g2⟩:=h2 o ho
  cases ch with
  | no=>exact ⟨g1,g2⟩
  | new y x=>simp only [qy,Bool.and_eq_true] at hc;simp only [Cg.gF,Cg.oF,Go.Proofs.Ytkafcpnahpfbfaa.md,ay,if_neg (key y hc.1)];exact ⟨g1,g2⟩
  | wr y off cs=>simp only [qy,Bool.and_eq_true] at hc;simp only [Cg.gF,Cg.oF,Go.Proofs.Ytkafcpnahpfbfaa.md,ay,if_neg (key y hc.1)];exact ⟨g1,g2⟩
  | row y m=>simp only [qy,Bool.and_eq_true] at hc;simp only [Cg.gF,Cg.oF,Go.Proofs.Ytkafcpnahpfbfaa.md,ay,if_neg (key y hc.1)];exact ⟨g1,g2⟩
  | ab y H=>simp only [qy,Bool.and_eq_true] at hc;simp only [Cg.gF,Cg.oF,Go.Proofs.Ytkafcpnahpfbfaa.md,ay,if_neg (key y hc.1)];exact ⟨g1,g2⟩
  | hw y l =>
    have hy:=of_decide_eq_true hc;refine ⟨g1,fun hlt=>?_⟩;simp only [Cg.oF,Go.Proofs.Ytkafcpnahpfbfaa.md,ay,if_neg (show o≠y by omega)];exact g2 hlt
  | hall hp =>
    refine ⟨g1,fun hlt=>?_⟩;simp only [Cg.oF];rw [if_neg (by unfold HBS;omega)];exact g2 hlt
theorem aJ {ms os:List Nat} {s0 s:St} {x:Nat} {v:Av} {ch:Cg} (h:bV ms os s0 s) (hd:ms.contains x=true) (hc:qy os ch=true):bV ms os s0 (s.ap (some x) v ch):=h.ap (fun y hy=>by cases hy;exact hd) hc
theorem aD {ms os:List Nat} {s0 s:St} {v:Av} {ch:Cg} (h:bV ms os s0 s) (hc:qy os ch=true):bV ms os s0 (s.ap none v ch):=h.ap (fun y hy=>by cases hy) hc
theorem aK {os:List Nat} {c:Nat} {l:List (Nat×Hb)}:qy os (.hw (HBS+c) l)=true:=by unfold qy;exact decide_eq_true (by unfold HBS;omega)
theorem aP {ms os:List Nat} {s0 j:St} (h:aH j):bV ms os s0 (jq ms os s0 j) :=
 ⟨fun x hx=>by rw [Bo,hx];rfl,fun o ho=>⟨by rw [xJ,ho];rfl,fun hlt=>by rw [Bn hlt,ho];rfl⟩,rfl,aN h⟩
theorem bV.in' {ms os ms' os':List Nat} {s0 b st:St} (h:bV ms os s0 b) (k:bV ms' os' b st) (hm:ms'.all (fun x=>ms.contains x)=true) (ho:os'.all (fun x=>os.contains x)=true):bV ms os s0 st:=by
 have sub:∀ {l l':List Nat},l'.all (fun x=>l.contains x)=true→∀ x,l.contains x=false→l'.contains x=false:=fun {l l'} hl x hx=>by
  cases h2:l'.contains x with
  | false=>rfl
  | true =>
    have:=List.all_eq_true.1 hl x (by simpa using h2);rw [hx] at this;cases this
 refine ⟨fun x hx=>(k.1 x (sub hm x hx)).trans (h.1 x hx),fun o ho2=>?_,k.2.2.1.trans h.2.2.1,k.2.2.2⟩;obtain ⟨k1,k2⟩:=k.2.1 o (sub ho o ho2);obtain ⟨h1,h2⟩:=h.2.1 o ho2;exact ⟨k1.trans h1,fun hlt=>(k2 hlt).trans (h2 hlt)⟩
theorem dA {env:Env} {k:List It} {Q:Exit→St→Prop} {s:St} {c:PC} (ms os:List Nat) (J:Nat→St→Prop) (m0:Nat) (hs:aH s) (h0:J m0 s)
 (h:∀ m j,j.nc=s.nc→aH j→J m (jq ms os s j)→pwp env c (exS env (.lp (fun m st=>bV ms os s st∧J m st) m :: k) Q) (jq ms os s j)):pwp env (.loop c) (exS env k Q) s :=
 Br (fun m st=>bV ms os s st∧J m st) m0 ⟨bV.refl _ _ hs,h0⟩ (fun m st ⟨hW,hJ⟩=>by
  have:=hW.over;rw [this] at hJ ⊢;exact h m st hW.2.2.1 hW.2.2.2 hJ)
theorem dP {x:Int} (h1:-9223372036854775808≤x) (h2:x≤9223372036854775807):IntKind.i64.wrap x=x:=IntWalk.i64_in x ⟨h1,h2⟩
theorem wrN {k:Nat} (h:k≤1000000000):IntKind.i64.wrap ((k:Int)+1)=((k+1:Nat):Int):=by
 rw [dP (by omega) (by omega)];omega
end Go.Proofs.Ytkafcpnahpfbfaa
end
section
namespace Go.Proofs.Ytkafcpnahpfbfaa
open Go Go.RowKit
set_option maxRecDepth 100000
def unN:Option Value→Option (Av×Cg)
 | some (.bool b)=>some (fD (.bool !b),.no)
 | _=>none
def unG:Option Value→Option (Av×Cg)
 | some (.int k n)=>some (fD (.int k (k.wrap (0 - n))),.no)
 | _=>none
def unX:Option Value→Option (Av×Cg)
 | some (.int k n)=>some (fD (.int k (k.wrap (BitVec.ofInt k.bits (if k.signed then -1 else k.max) ^^^ BitVec.ofInt k.bits n).toNat)),.no)
 | _=>none
theorem QG {s:St} {d:Nat} {x:PX}:PO.fn s d (.un .not x)=unN (s.val x):=by
 cases h:s.val x with
 | none=>simp only [PO.fn,h,unN]
 | some v=>cases v <;> simp only [PO.fn,h,unN]
theorem QF {s:St} {d:Nat} {x:PX}:PO.fn s d (.un .neg x)=unG (s.val x):=by
 cases h:s.val x with
 | none=>simp only [PO.fn,h,unG]
 | some v=>cases v <;> simp only [PO.fn,h,unG]
theorem QH {s:St} {d:Nat} {x:PX}:PO.fn s d (.un .xor x)=unX (s.val x):=by
 cases h:s.val x with
 | none=>simp only [PO.fn,h,unX]
 | some v=>cases v <;> simp only [PO.fn,h,unX]
theorem au {a b:Prop} (x:a) (y:b):a∧b:=⟨x,y⟩
def PY:=PLift.up (au @Df<|
 au @C9<|
 au @Dc<|
 au @JA<|
 au @Jy<|
 au @Jz<|
 au @KL<|
 au @OH<|
 au @KJ<|
 au @OJ<|
 au @KG<|
 au @Ic<|
 au @KH<|
 au @OI<|
 au @KI<|
 @Ie)
theorem evP:type_of% PY.down:=PY.down
def PW:=PLift.up (au @pR<|
 au @uD<|
 au @St.gd.eq_1<|
 au @DV.eq_1<|
 au @DV.eq_2<|
 au @DV.eq_3<|
 au @DV.eq_4<|
 au @skp.eq_1<|
 au @Dn<|
 au @zQ<|
 au @zT<|
 au @QE<|
 au @Dv<|
 au @zV<|
 au @zW<|
 au @QD<|
 au @Du<|
 au @zU<|
 au @CB<|
 au @NK<|
 au @Dk<|
 au @Gt<|
 au @Dl<|
 au @QC<|
 au @Dj<|
 au @zO<|
 au @Dp<|
 au @zS<|
 au @zN<|
 au @Dh<|
 au @xI<|
 au @Ky<|
 au @iP<|
 au @yh<|
 au @iT<|
 au @Gq<|
 au @Gh<|
 au @List.reverse_cons.{0}<|
 au @List.reverse_nil.{0}<|
 au @zM<|
 au @jW<|
 au @QK<|
 au @xH<|
 au @Kv<|
 au @CF<|
 au @jY<|
 au @BP<|
 au @BQ<|
 au @F6<|
 au @BO<|
 au @zC<|
 au @zD<|
 au @H9<|
 au @OC<|
 au @HY<|
 au @OA<|
 au @BR<|
 au @Hr<|
 au @zF<|
 au @DW<|
 au @JC<|
 au @QI<|
 au @OB<|
 au @Kw<|
 au @H7<|
 au @H6<|
 au @H8<|
 au @Oz<|
 au @HV<|
 au @Hz<|
 au @zB<|
 au @zA<|
 au @Gy<|
 au @J4<|
 @G7)
theorem evB:type_of% PW.down:=PW.down
def Qi:=PLift.up (au @PO.aT.eq_1<|
 au @PO.aT.eq_2<|
 au @PO.aT.eq_3<|
 au @PO.aT.eq_4<|
 au @PO.aT.eq_5<|
 au @PO.aT.eq_6<|
 au @PO.aT.eq_7<|
 au @PO.aT.eq_8<|
 au @PO.aT.eq_9<|
 au @PO.aT.eq_10<|
 au @PO.aT.eq_11<|
 au @PO.aT.eq_12<|
 au @PO.aT.eq_13<|
 au @PO.aT.eq_14<|
 au @PO.aT.eq_15<|
 au @PO.aT.eq_16<|
 au @PO.aT.eq_17<|
 au @PO.aT.eq_18<|
 au @PO.aT.eq_19<|
 au @PO.aT.eq_20<|
 au @PO.aT.eq_21<|
 au @PO.aT.eq_22<|
 au @PO.aT.eq_23<|
 au @PO.aT.eq_24<|
 au @PO.aT.eq_25<|
 au @PO.aT.eq_26<|
 au @PO.aT.eq_27<|
 au @PO.aT.eq_28<|
 au @PO.aT.eq_29<|
 au @PO.aT.eq_30<|
 au @PO.aT.eq_31<|
 au @PO.aT.eq_32<|
 au @PO.aT.eq_33<|
 au @PO.aT.eq_34<|
 au @PO.aT.eq_35<|
 au @PO.aT.eq_36<|
 au @PO.aT.eq_37<|
 au @PO.aT.eq_38<|
 au @PO.aT.eq_39<|
 au @PO.aT.eq_40<|
 au @PO.aT.eq_41<|
 au @PO.aT.eq_42<|
 au @PO.aT.eq_43<|
 au @PO.aT.eq_44<|
 au @PO.aT.eq_45<|
 au @PO.aT.eq_46<|
 au @PO.aT.eq_47<|
 au @PO.aT.eq_48<|
 au @PO.aT.eq_49<|
 au @PO.aT.eq_50<|
 au @PO.aT.eq_51<|
 au @PO.aT.eq_52<|
 au @PO.aT.eq_53<|
 au @PO.aT.eq_54<|
 au @Option.getD_some.{0}<|
 au @Option.getD_none.{0}<|
 au @SC<|
 au @Qs<|
 au @Qn<|
 au @Na<|
 au @M9<|
 au @M8<|
 au @SB<|
 au @L6<|
 au @LZ<|
 au @Qr<|
 au @Iw<|
 au @KP<|
 au @Fh<|
 au @ql.eq_1<|
 au @ql.eq_2<|
 au @ql.eq_3<|
 au @J9<|
 au @NZ<|
 au @TY<|
 au @Qy<|
 au @NG<|
 au @Gp<|
 au @Qz<|
 au @Qx<|
 au @QA<|
 au @I9<|
 au @FY<|
 au @ay<|
 au @PO.fn.eq_1<|
 au @PO.fn.eq_2<|
 au @PO.fn.eq_3<|
 au @PO.fn.eq_4<|
 au @PO.fn.eq_5<|
 au @PO.fn.eq_8<|
 au @PO.fn.eq_9<|
 au @PO.fn.eq_10<|
 au @PO.fn.eq_11<|
 au @PO.fn.eq_12<|
 au @PO.fn.eq_13<|
 au @PO.fn.eq_14<|
 au @PO.fn.eq_15<|
 au @PO.fn.eq_16<|
 au @PO.fn.eq_17<|
 au @PO.fn.eq_18<|
 au @PO.fn.eq_23<|
 au @PO.fn.eq_24<|
 au @PO.fn.eq_25<|
 au @PO.fn.eq_26<|
 au @PO.fn.eq_27<|
 au @PO.fn.eq_28<|
 au @PO.fn.eq_29<|
 au @PO.fn.eq_30<|
 au @PO.fn.eq_31<|
 au @PO.fn.eq_32<|
 au @PO.fn.eq_33<|
 au @PO.fn.eq_34<|
 au @PO.fn.eq_35<|
 au @PO.fn.eq_36<|
 au @PO.fn.eq_37<|
 au @PO.fn.eq_38<|
 au @PO.fn.eq_39<|
 au @PO.fn.eq_40<|
 au @PO.fn.eq_41<|
 au @PO.fn.eq_42<|
 au @PO.fn.eq_43<|
 au @PO.fn.eq_44<|
 au @PO.fn.eq_45<|
 au @PO.fn.eq_46<|
 au @PO.fn.eq_47<|
 au @PO.fn.eq_48<|
 au @PO.fn.eq_49<|
 au @PO.fn.eq_50<|
 au @PO.fn.eq_51<|
 au @PO.fn.eq_52<|
 au @PO.fn.eq_53<|
 au @PO.fn.eq_54<|
 au @PO.fn.eq_55<|
 au @PO.fn.eq_56<|
 au @PO.fn.eq_57<|
 au @QG<|
 au @QF<|
 au @QH<|
 au @unN.eq_1<|
 au @unG.eq_1<|
 au @unX.eq_1<|
 au @JE<|
 au @Gz<|
 au @Dx.eq_1<|
 au @o9.eq_1<|
 au @o9.eq_2<|
 au @beq_self_eq_true.{0}<|
 au @List.flatMap_cons.{0,0}<|
 au @List.flatMap_nil.{0,0}<|
 au @PO.rd.eq_1<|
 au @PO.rd.eq_2<|
 au @PO.rd.eq_3<|
 au @PO.rd.eq_4<|
 au @PO.rd.eq_5<|
 au @PO.rd.eq_6<|
 au @PO.rd.eq_7<|
 au @PO.rd.eq_8<|
 au @PO.rd.eq_9<|
 au @PO.rd.eq_10<|
 au @PO.rd.eq_11<|
 au @PO.rd.eq_12<|
 au @PO.rd.eq_13<|
 au @PO.rd.eq_14<|
 au @PO.rd.eq_15<|
 au @PO.rd.eq_16<|
 au @PO.rd.eq_17<|
 au @PO.rd.eq_18<|
 au @PO.rd.eq_19<|
 au @PO.rd.eq_20<|
 au @PO.rd.eq_21<|
 au @PO.rd.eq_22<|
 au @PO.rd.eq_23<|
 au @PO.rd.eq_24<|
 au @PO.rd.eq_25<|
 au @PO.rd.eq_26<|
 au @PO.rd.eq_27<|
 au @PO.rd.eq_28<|
 au @PO.rd.eq_29<|
 au @PO.rd.eq_30<|
 au @PO.rd.eq_31<|
 au @PO.rd.eq_32<|
 au @PO.rd.eq_33<|
 au @Cg.wrs.eq_1<|
 au @Cg.wrs.eq_2<|
 au @Cg.wrs.eq_3<|
 au @Cg.wrs.eq_4<|
 au @Cg.wrs.eq_5<|
 au @Cg.wrs.eq_6<|
 au @Cg.wrs.eq_7<|
 au @St.cl.eq_1<|
 au @St.val.eq_1<|
 au @St.int.eq_1<|
 au @St.boo.eq_1<|
 au @St.cs.eq_1<|
 au @St.parts.eq_1<|
 au @St.parts.eq_2<|
 au @fD.eq_1<|
 au @Cl.rows.eq_1<|
 au @Cl.rows.eq_2<|
 au @Cl.rows.eq_3<|
 au @Cl.rows.eq_4<|
 au @Cl.rows.eq_5<|
 au @Cl.dt.eq_1<|
 au @Cl.dt.eq_2<|
 au @Cl.dt.eq_3<|
 au @Cl.dt.eq_4<|
 au @Cl.dt.eq_5<|
 au @Bv.pa.eq_1<|
 au @Bv.pa.eq_2<|
 au @Av.pa.eq_1<|
 au @Av.pa.eq_2<|
 au @Pa.bv.eq_1<|
 au @Pa.bv.eq_2<|
 au @kT.eq_1<|
 au @kT.eq_2<|
 au @kT.eq_3<|
 au @aC.eq_1<|
 au @aC.eq_2<|
 au @aC.eq_3<|
 au @ni.eq_1<|
 au @ni.eq_2<|
 au @iC.eq_1<|
 au @iC.eq_2<|
 au @iC.eq_3<|
 au @iC.eq_4<|
 au @splice.eq_1<|
 au @dS.eq_1<|
 au @dS.eq_2<|
 au @chunks.eq_1<|
 au @chunks.eq_2<|
 au @fT.eq_1<|
 au @fT.eq_2<|
 au @fT.eq_3<|
 au @fT.eq_4<|
 au @fT.eq_5<|
 au @fT.eq_6<|
 au @fT.eq_7<|
 au @fT.eq_8<|
 au @fT.eq_9<|
 au @fT.eq_10<|
 au @fT.eq_11<|
 au @fT.eq_12<|
 au @fT.eq_13<|
 au @fT.eq_14<|
 au @fT.eq_15<|
 au @fT.eq_16<|
 au @fT.eq_17<|
 au @fT.eq_18<|
 au @fT.eq_19<|
 au @fT.eq_20<|
 au @fT.eq_21<|
 au @fT.eq_22<|
 au @yF.eq_1<|
 au @yF.eq_2<|
 au @yF.eq_3<|
 au @je.eq_1<|
 au @je.eq_2<|
 au @je.eq_3<|
 au @D6.eq_1<|
 au @D6.eq_2<|
 au @Option.map_some.{0,0}<|
 au @Option.map_none.{0,0}<|
 au @Option.bind_some.{0,0}<|
 au @List.map_cons.{0,0}<|
 au @List.map_nil.{0,0}<|
 au @List.length_cons.{0}<|
 au @List.length_nil.{0}<|
 au @List.getElem?_cons_succ.{0}<|
 au @List.getElem?_cons_zero.{0}<|
 au @List.take_succ_cons.{0}<|
 au @List.take_zero.{0}<|
 au @List.drop_succ_cons.{0}<|
 au @List.drop_zero.{0}<|
 au @List.cons_append.{0}<|
 au @List.nil_append.{0}<|
 au @List.append_nil.{0}<|
 au @if_true.{1}<|
 au @if_false.{1}<|
 au @ite_true.{1}<|
 au @ite_false.{1}<|
 au @ne_eq.{1}<|
 au @not_true<|
 au @not_false_eq_true<|
 au @Nat.add_zero<|
 au @Nat.zero_add<|
 au @and_true<|
 au @true_and<|
 au @and_self<|
 au @forall_const.{1}<|
 au @forall_const.{0}<|
 au @Bool.not_true<|
 au @Bool.not_false<|
 au @Nat.succ_eq_add_one<|
 au @imp_false<|
 au @false_imp_iff<|
 au @forall_false<|
 au @true_imp_iff<|
 au @Bool.and_true<|
 au @Bool.and_false<|
 au @Bool.true_and<|
 au @Bool.false_and<|
 au @implies_true.{1}<|
 au @implies_true.{0}<|
 au @FD<|
 au @Bq<|
 au @FC<|
 au @List.contains_cons.{0}<|
 au @List.contains_nil.{0}<|
 au @Bool.or_false<|
 au @Bool.or_true<|
 au @Bool.false_or<|
 au @Bool.true_or<|
 au @cond_true.{1}<|
 au @cond_false.{1}<|
 au @Bool.cond_true.{0}<|
 au @Bool.cond_false.{0}<|
 au @Int.toNat_natCast<|
 au @Int.natCast_nonneg<|
 au @List.getElem?_map.{0,0}<|
 au @List.length_map.{0,0}<|
 au @List.mem_cons.{0}<|
 au @List.not_mem_nil.{0}<|
 au @forall_eq.{1}<|
 au @forall_eq_or_imp.{1}<|
 au @false_or<|
 au @or_true<|
 au @true_or<|
 au @or_false<|
 au @St.res.eq_1<|
 au @St.res1.eq_1<|
 au @St.res1.eq_2<|
 au @decide_eq_true_eq<|
 au @decide_eq_false_iff_not<|
 au @Cl.kM.eq_1<|
 au @Cl.kM.eq_2<|
 au @Cl.kM.eq_3<|
 au @Cl.kM.eq_4<|
 au @Cl.kM.eq_5<|
 au @Cl.kM.eq_6<|
 au @Cl.kM.eq_7<|
 au @Cl.kM.eq_8<|
 au @Cl.kM.eq_9<|
 au @Bv.kM.eq_1<|
 au @Bv.kM.eq_2<|
 au @Av.kM.eq_1<|
 au @Av.kM.eq_2<|
 au @Av.kM.eq_3<|
 au @KO<|
 au @Ii<|
 au @M4<|
 au @KF<|
 au @Ib<|
 au @BU<|
 au @Cl.fC.eq_1<|
 au @Cl.fC.eq_2<|
 au @Cl.fC.eq_3<|
 au @Cl.fC.eq_4<|
 au @Cl.fC.eq_5<|
 au @Cl.fC.eq_6<|
 au @Cl.fC.eq_7<|
 au @Cl.fC.eq_8<|
 au @Cl.fC.eq_9<|
 au @Bv.fC.eq_1<|
 au @Bv.fC.eq_2<|
 au @Av.fC.eq_1<|
 au @Av.fC.eq_2<|
 au @Av.fC.eq_3<|
 au @Hg<|
 au @Hl<|
 au @G9<|
 au @He<|
 au @Hf<|
 au @Oa.eq_1<|
 au @Oa.eq_2<|
 au @List.all_cons.{0}<|
 au @List.all_nil.{0}<|
 au @M6<|
 au @Qp<|
 au @zk.eq_1<|
 au @zk.eq_2<|
 au @List.tail_cons.{0}<|
 au @dV.eq_1<|
 au @dV.eq_2<|
 au @dV.eq_3<|
 au @SA<|
 au @M7<|
 au @M5<|
 au @Qq<|
 au @Qo<|
 au @SQ<|
 au @hb_new<|
 au @SS<|
 au @QT<|
 au @SN<|
 au @QO<|
 au @QS<|
 au @QM<|
 au @J8<|
 au @oG.eq_1<|
 au @oG.eq_2<|
 au @oG.eq_3<|
 au @G8<|
 au @J7<|
 au @J6<|
 au @qJ<|
 au @Bo<|
 au @xJ<|
 au @Bn<|
 au @Kz<|
 au @vN<|
 au @St.key.eq_1<|
 au @scs.eq_1<|
 au @scs.eq_2<|
 au @scs.eq_3<|
 au @QU<|
 au @NY<|
 au @J5<|
 au @Bv.hw.eq_1<|
 au @Bv.hw.eq_2<|
 au @Av.hw.eq_1<|
 au @Av.hw.eq_2<|
 au @Cl.hc.eq_1<|
 au @Cl.hc.eq_2<|
 au @Cl.hc.eq_3<|
 au @Cl.hc.eq_4<|
 au @Cl.hc.eq_5<|
 au @Hc.cl.eq_1<|
 au @Hc.cl.eq_2<|
 au @Hw.bv.eq_1<|
 au @Hw.bv.eq_2<|
 au @hcs.eq_1<|
 au @sI.eq_1<|
 au @sI.eq_2<|
 au @yK.eq_1<|
 au @yK.eq_2<|
 au @yK.eq_3<|
 au @St.hps.eq_1<|
 au @St.hps.eq_2<|
 au @rdH.eq_1<|
 au @iF.eq_1<|
 au @iF.eq_2<|
 au @iF.eq_3<|
 au @iF.eq_4<|
 au @bvB.eq_1<|
 au @St.gP.eq_1<|
 au @St.zo.eq_1<|
 au @St.zo.eq_2<|
 au @rdV.eq_1<|
 @rdV.eq_2)
theorem stB:type_of% Qi.down:=Qi.down
end Go.Proofs.Ytkafcpnahpfbfaa
end
section
namespace Go.Proofs.Ytkafcpnahpfbfaa
open Go.RowKit
structure Ev where
 g:Int
 kind:Int
 obj:Int
 off:Int
 k:Int
 n:Int
 fn:Int
 pc:Int
 stack:Int
deriving DecidableEq,Inhabited
def I64 (x:Int):Prop:=-9223372036854775808≤x∧x≤9223372036854775807
def Ev.wf (e:Ev):Prop:=I64 e.g∧I64 e.kind∧I64 e.obj∧I64 e.off∧I64 e.k∧I64 e.n∧I64 e.fn∧I64 e.pc∧I64 e.stack
def Ev.cells (e:Ev):List Value:=[.int .i64 e.g,.int .i64 e.kind,.int .i64 e.obj,.int .i64 e.off,.int .i64 e.k,.int .i64 e.n,.int .i64 e.fn,.int .i64 e.pc,.int .i64 e.stack]
def Ev.val (e:Ev):Value:=.agg #[.int .i64 e.g,.int .i64 e.kind,.int .i64 e.obj,.int .i64 e.off,.int .i64 e.k,.int .i64 e.n,.int .i64 e.fn,.int .i64 e.pc,.int .i64 e.stack]
def nR (k:Int):Bool:=decide (15≤k∧k≤18)
def iL (k:Int):Bool:=decide (1≤k∧k≤20)
def II (k:Int):Bool:=decide (15≤k∧k≤20)
def fF (x:Int):Bool:=decide (0≤x∧x≤2147483647)
def Ev.rest (e:Ev):Bool :=
 if e.kind=14 then decide (e.obj=0∧e.off=0∧e.n=0∧1≤e.k∧e.k < 8)
 else if 15≤e.kind∧e.kind≤18 then decide (e.off=0∧e.n≤64)
 else if 19≤e.kind then decide (e.off=0∧e.n≤64∧e.k=0)
 else decide (e.k=0∧e.n=0)
def Ev.valid (e:Ev):Bool:=iL e.kind && decide (0≤e.g∧e.g < 8) &&
 (fF e.obj && fF e.off && fF e.k && fF e.n && fF e.fn && fF e.pc && fF e.stack) && e.rest
structure Ch where
 cap:Int
 sent:Int
 recv:Int
 closed:Bool
deriving DecidableEq,Inhabited
def ch0:Ch:=⟨0,0,0,false⟩
structure Mu where
 locked:Bool
 readers:Int
deriving DecidableEq,Inhabited
def mu0:Mu:=⟨false,0⟩
structure Grp where
 kinds:List Int
 obj:Int
 k:Int
 n:Int
 snd:Int
 rcv:Int
def T9:Grp:=⟨[],0,0,0,0,0⟩
structure TS where
 events:Int
 gor:Int
 chans:Int→Option Ch
 mus:Int×Int→Option Mu
 done:Int×Int→Option Bool
 grp:Grp
def TS.new:TS:=⟨0,1,fun _=>none,fun _=>none,fun _=>none,T9⟩
def upd {κ:Type} [DecidableEq κ] {α:Type} (f:κ→Option α) (x:κ) (v:α):κ→Option α:=fun y=>if y=x then some v else f y
def Ch.count (c:Ch) (kind:Int):Ch:=if kind=15 then { c with sent:=c.sent+1 } else if kind=17 then { c with recv:=c.recv+1 } else c
def TS.count (s:TS) (e:Ev):TS:={ s with chans:=upd s.chans e.obj (((s.chans e.obj).getD ch0).count e.kind) }
def EF (k:Int):Bool:=decide (k=15∨k=16)
def Grp.own (o:Grp) (kind:Int):Int:=if EF kind=true then o.snd else o.rcv
def Grp.other (o:Grp) (kind:Int):Int:=if EF kind=true then o.rcv else o.snd
def Grp.next (o:Grp) (e:Ev):Grp :=
 if EF e.kind=true then { o with kinds:=o.kinds.tail,snd:=e.g } else { o with kinds:=o.kinds.tail,rcv:=e.g }
def Grp.fits (o:Grp) (e:Ev):Bool :=
 decide (e.kind=o.kinds.headD 0∧e.obj=o.obj∧e.k=o.k∧e.n=o.n) && !(decide (o.own e.kind < 0∧e.g=o.other e.kind) || decide (0≤o.own e.kind∧e.g≠o.own e.kind))
def TS.proceed (s:TS) (e:Ev):Option TS :=
 if s.grp.fits e=true then some { s.count e with grp:=s.grp.next e } else none
def TS.chan (s:TS) (e:Ev):Ch:=match s.chans e.obj with
 | some c=>c
 | none=>{ ch0 with cap:=e.n }
def TS.start (s:TS) (e:Ev) (c:Ch) (kinds:List Int) (snd rcv:Int):TS :=
 { s with chans:=upd s.chans e.obj (c.count e.kind),grp:=⟨kinds,e.obj,e.k,e.n,snd,rcv⟩ }
def Ch.missing (c:Ch) (kind:Int) (alone:Bool):Option (List Int) :=
 if kind=15 then (if c.sent - c.recv < c.cap then some [16] else if c.cap=0∧alone=false then some [17,18,16] else none)
 else (if c.recv < c.sent then some [18] else if c.closed=false∧alone=false then some [15,18,16] else none)
def TS.operate (s:TS) (e:Ev):Option TS :=
 let c:=s.chan e
 if c.cap≠e.n then none
 else if e.kind=19 then (if c.closed=true then none else some { s with chans:=upd s.chans e.obj { c with closed:=true } })
 else if e.kind=20 then (if c.closed=true∧c.sent=c.recv then some s else none)
 else if e.kind=15 then (if c.closed=true∨e.k≠c.sent then none else (c.missing 15 (decide (s.gor=1))).map fun l=>s.start e c l e.g (-1))
 else if e.kind=17 then (if e.k≠c.recv then none else (c.missing 17 (decide (s.gor=1))).map fun l=>s.start e c l (-1) e.g)
 else none
def TS.mu (s:TS) (e:Ev):Mu:=(s.mus (e.obj,e.off)).getD mu0
def TS.simple (s:TS) (e:Ev):Option TS :=
 let m:=s.mu e
 let put (m:Mu):Option TS:=some { s with mus:=upd s.mus (e.obj,e.off) m }
 if e.kind=6 then (if m.locked=true∨0 < m.readers then none else put { m with locked:=true })
 else if e.kind=7 then (if m.locked=false then none else put { m with locked:=false })
 else if e.kind=8 then (if m.locked=true then none else put { m with readers:=m.readers+1 })
 else if e.kind=9 then (if m.readers=0 then none else put { m with readers:=m.readers - 1 })
 else if e.kind=12 then (if (s.done (e.obj,e.off)).getD false=true then none else some { s with done:=upd s.done (e.obj,e.off) true })
 else if e.kind=13 then (if (s.done (e.obj,e.off)).getD false=true then some s else none)
 else if e.kind=14 then (if e.k≠s.gor then none else some { s with gor:=s.gor+1 })
 else some s
def TS.isOpen (s:TS):Bool:=decide (0 < s.grp.kinds.length)
def TS.part (s:TS) (e:Ev):Option TS :=
 if s.isOpen=true then s.proceed e else if II e.kind=true then s.operate e else s.simple e
def TS.admits (s:TS) (e:Ev):Bool:=e.valid && decide (s.events < 5000) && decide (e.g < s.gor)
def TS.add (s:TS) (e:Ev):Option TS :=
 if s.admits e=true then (s.part e).map fun t=>{ t with events:=t.events+1 } else none
structure TS.wf (s:TS):Prop where
 ev:0≤s.events∧s.events≤5000
 gr:1≤s.gor∧s.gor≤8
 ch:∀ x c,s.chans x=some c→(0≤c.sent∧c.sent≤s.events)∧(0≤c.recv∧c.recv≤s.events)∧(0≤c.cap∧c.cap≤64)
 mu:∀ x m,s.mus x=some m→0≤m.readers∧m.readers≤s.events
 kd:s.grp.kinds.length≤3
section
variable {s:TS} {g kind obj off k en fn pc stack cap sent recv:Int} {closed:Bool}
 (hc:s.chan ⟨g,kind,obj,off,k,en,fn,pc,stack⟩=⟨cap,sent,recv,closed⟩)
include hc
end
end Go.Proofs.Ytkafcpnahpfbfaa
end
section
namespace Go.Proofs.Ytkafcpnahpfbfaa
open Go Go.RowKit
instance:bT:=⟨fun _=>True,fun _ _ _ _=>trivial⟩
abbrev dI (n:Int):Dt:=.sc (.int .i64 n)
abbrev dB (b:Bool):Dt:=.sc (.bool b)
abbrev aI (n:Int):Av:=.b (.one (.d (.sc (.int .i64 n))))
abbrev aB (b:Bool):Av:=.b (.one (.d (.sc (.bool b))))
abbrev pI (n:Int):Pa:=.one (.sc (.int .i64 n))
abbrev pB (b:Bool):Pa:=.one (.sc (.bool b))
def Ev.row (e:Ev):List Dt:=[dI e.g,dI e.kind,dI e.obj,dI e.off,dI e.k,dI e.n,dI e.fn,dI e.pc,dI e.stack]
def Ev.pa (e:Ev):Pa:=.agg e.row
structure RCh where
 obj:Int
 n:Int
 sent:Int
 recv:Int
 closed:Bool
def RCh.row (c:RCh):List Dt:=[dI c.obj,dI c.n,dI c.sent,dI c.recv,dB c.closed]
structure RLk where
 obj:Int
 off:Int
 locked:Bool
 readers:Int
def RLk.row (c:RLk):List Dt:=[dI c.obj,dI c.off,dB c.locked,dI c.readers]
def QY (p:Int×Int):List Dt:=[dI p.1,dI p.2]
structure RWt where
 kind:Int
 g:Int
 not:Int
def RWt.row (c:RWt):List Dt:=[dI c.kind,dI c.g,dI c.not]
structure RSt where
 count:Int
 gor:Int
 chans:List RCh
 locks:List RLk
 done:List (Int×Int)
 next:List RWt
 obj:Int
 k:Int
 n:Int
def RSt.row (s:RSt):List Dt:=[dI s.count,dI s.gor,.im (s.chans.map RCh.row),.im (s.locks.map RLk.row),.im (s.done.map QY),.im (s.next.map RWt.row),dI s.obj,dI s.k,dI s.n]
def RSt.pa (s:RSt):Pa:=.agg s.row
structure RSt.ok (s:RSt):Prop where
 ct:0≤s.count∧s.count≤1000000
 gr:0≤s.gor∧s.gor≤1000000
 ch:s.chans.length≤900000∧∀ c,c ∈ s.chans→(0≤c.sent∧c.sent≤1000000)∧(0≤c.recv∧c.recv≤1000000)
 lk:s.locks.length≤900000∧∀ c,c ∈ s.locks→0≤c.readers∧c.readers≤1000000
 dn:s.done.length≤900000
 nx:s.next.length≤900000
def RSt.new:RSt:=⟨0,1,[],[],[],[],0,0,0⟩
def RCh.count (c:RCh) (kind:Int):RCh:=if kind=15 then { c with sent:=c.sent+1 } else if kind=17 then { c with recv:=c.recv+1 } else c
def RSt.fits (s:RSt) (w:RWt) (e:Ev):Bool:=!((e.kind != w.kind || (e.obj != s.obj || (e.k != s.k || (e.n != s.n || (decide (0≤w.g) && e.g != w.g))))) || (decide (w.g < 0) && e.g == w.not))
def RSt.admits (s:RSt) (e:Ev):Bool:=e.valid && decide (s.count < 5000) && decide (e.g < s.gor)
end Go.Proofs.Ytkafcpnahpfbfaa
end
section
namespace Go.Proofs.Ytkafcpnahpfbfaa
open Go Go.RowKit
set_option maxRecDepth 100000
def fJ:List (Nat×List Bool):=[(41,[false,false,false,false,false,false,false,false,false]),(42,[false,false,false,false,false,false,false,false,false]),(47,List.replicate 2 false),(49,[false,false]),(50,[false,false]),(82,List.replicate 7 false),(113,List.replicate 3 false)]
theorem bZ:∀ p,p ∈ fJ→EqT Try.prog p.1 p.2:=by
 intro p hp;simp only [fJ,List.mem_cons,List.not_mem_nil,or_false] at hp
 rcases hp with rfl | rfl | rfl | rfl | rfl | rfl | rfl
 ·exact lT Try.underlying41 (by kernel_rfl) (by kernel_rfl) (by kernel_rfl)
 ·exact lT Try.underlying42 (by kernel_rfl) (by kernel_rfl) (by kernel_rfl)
 ·exact qY Try.underlying47 (ei:=(Try.prog.info? 3).getD default) (by kernel_rfl) (by kernel_rfl) (by kernel_rfl) (by kernel_rfl)
 ·exact lT Try.underlying49 (by kernel_rfl) (by kernel_rfl) (by kernel_rfl)
 ·exact lT Try.underlying50 (by kernel_rfl) (by kernel_rfl) (by kernel_rfl)
 ·exact qY Try.underlying82 (ei:=(Try.prog.info? 3).getD default) (by kernel_rfl) (by kernel_rfl) (by kernel_rfl) (by kernel_rfl)
 ·exact qY Try.underlying113 (ei:=(Try.prog.info? 3).getD default) (by kernel_rfl) (by kernel_rfl) (by kernel_rfl) (by kernel_rfl)
theorem bA:Try.prog.follows .mixedOrders=true:=by kernel_rfl
def pc13 : PC := .seq (.reg false [⟨(some 1), .box (.t 0), none, []⟩, ⟨(some 2), .nilRow 5 1, none, []⟩, ⟨(some 3), .mv (.v (.int .i64 0)), none, [1]⟩]) (.seq (.seq (.reg false [⟨(some 7), .load (some 3) (.t 1), none, []⟩, ⟨(some 8), .call 17 [(.t 7)], none, [0]⟩, ⟨(some 9), .un .not (.t 8), none, [1]⟩]) (.cond (.t 9) (.seq (.reg false [⟨(some 2), .nilRow 5 1, none, []⟩, ⟨(some 3), .mv (.v (.int .i64 1)), none, [0, 0]⟩]) (.ret)) (.skip))) (.seq (.reg false [⟨(some 10), .call 21 [], none, []⟩, ⟨(some 4), .mv (.t 10), none, [0, 0, 0]⟩]) (.seq (.reg false [⟨(some 11), .load (some 3) (.t 1), none, []⟩, ⟨(some 12), .call 20 [(.t 11)], none, [0]⟩, ⟨(some 5), .mv (.t 12), none, [1, 1, 0, 1]⟩]) (.seq (.seq (.reg false [⟨(some 6), .mv (.v (.int .i64 0)), none, []⟩]) (.block 0 (.loop (.seq (.seq (.reg false [⟨(some 13), .mv (.t 6), none, []⟩, ⟨(some 14), .mv (.t 5), none, []⟩, ⟨(some 15), .len (.t 14), none, [1]⟩, ⟨(some 16), .bin .lss (.t 13) (.t 15), none, [0, 2]⟩]) (.cond (.t 16) (.skip) (.exit 0))) (.seq (.block 1 (.reg false [⟨(some 19), .mv (.t 4), none, []⟩, ⟨(some 20), .mv (.t 5), none, []⟩, ⟨(some 21), .mv (.t 6), none, []⟩, ⟨(some 22), .ixs 1 (.t 20) (.t 21), none, [1, 2]⟩, ⟨(some 23), .load none (.t 22), none, [3]⟩, ⟨(some 24), .append 5 1 1 (.t 19) (.t 23), none, [0, 4]⟩, ⟨(some 4), .mv (.t 24), none, [5, 5, 0, 1, 2, 3, 4, 5]⟩])) (.reg false [⟨(some 17), .mv (.t 6), none, []⟩, ⟨(some 18), .bin .add (.t 17) (.v (.int .i64 1)), none, [0]⟩, ⟨(some 6), .mv (.t 18), none, [1, 0, 1]⟩])))))) (.seq (.reg false [⟨(some 25), .mv (.t 4), none, []⟩, ⟨(some 2), .mv (.t 25), none, [0, 0]⟩, ⟨(some 3), .mv (.v (.int .i64 0)), none, [1, 0, 1]⟩]) (.ret))))))
def pr13 : List PR := [.t 2, .t 3]
abbrev ms13_0 : List Nat := [13, 14, 15, 16, 19, 20, 21, 22, 23, 24, 4, 17, 18, 6]
abbrev os13_0 : List Nat := [4]
theorem bd13:Try.f13.body=some (Try.f13.body.getD .skip):=by kernel_rfl
theorem cp13:bY Try.prog Try.f13.ntmps fJ (Try.f13.body.getD .skip)=some pc13:=by kernel_rfl
theorem sp13 [bT] {env:Env} (hE:aA Try.prog env) {R:List Pa→List Pa→Prop} (hR:∀ ps rs,R ps rs→ps.length≤26∧pwp env pc13 (fun e s=>(e=.normal∨e=.ret)∧s.res pr13=some rs) (St.init ps)):Spec Try.prog 13 R :=
 bX hE bZ bA Try.func13 bd13 cp13 (by kernel_rfl) (by kernel_rfl) (by kernel_rfl) hR
def pc17 : PC := .seq (.reg false [⟨(some 1), .box (.t 0), none, []⟩, ⟨(some 2), .mv (.v (.bool false)), none, []⟩]) (.seq (.seq (.reg false [⟨(some 7), .fld 1 (.t 1), none, []⟩, ⟨(some 8), .load (some 2) (.t 7), none, [0]⟩, ⟨(some 9), .call 34 [(.t 8)], none, [1]⟩, ⟨(some 10), .un .not (.t 9), none, [2]⟩, ⟨(some 11), .mv (.t 10), none, [3, 2]⟩, ⟨(some 12), .fld 0 (.t 1), (some (11, false)), [4]⟩, ⟨(some 13), .load none (.t 12), (some (11, false)), [5, 4]⟩, ⟨(some 14), .len (.t 13), (some (11, false)), [6, 4]⟩, ⟨(some 15), .bin .gtr (.t 14) (.v (.int .i64 5000)), (some (11, false)), [7, 4]⟩, ⟨(some 16), .pick (.t 11) (.v (.bool true)) (.t 15), none, [4, 8]⟩]) (.cond (.t 16) (.seq (.reg false [⟨(some 2), .mv (.v (.bool false)), none, []⟩]) (.ret)) (.skip))) (.seq (.seq (.reg false [⟨(some 3), .mv (.v (.int .i64 0)), none, []⟩]) (.block 0 (.loop (.seq (.seq (.reg false [⟨(some 17), .mv (.t 3), none, []⟩, ⟨(some 18), .fld 1 (.t 1), none, []⟩, ⟨(some 19), .fld 0 (.t 18), none, [1]⟩, ⟨(some 20), .load none (.t 19), none, [2]⟩, ⟨(some 21), .len (.t 20), none, [3]⟩, ⟨(some 22), .bin .lss (.t 17) (.t 21), none, [0, 4]⟩]) (.cond (.t 22) (.skip) (.exit 0))) (.seq (.block 1 (.seq (.reg false [⟨(some 25), .fld 1 (.t 1), none, []⟩, ⟨(some 26), .fld 0 (.t 25), none, [0]⟩, ⟨(some 27), .load none (.t 26), none, [1]⟩, ⟨(some 28), .mv (.t 3), none, []⟩, ⟨(some 29), .ixs 2 (.t 27) (.t 28), none, [2, 3]⟩, ⟨(some 30), .fld 0 (.t 29), none, [4]⟩, ⟨(some 31), .load none (.t 30), none, [5]⟩, ⟨(some 32), .bin .gtr (.t 31) (.v (.int .i64 2147483647)), none, [6]⟩, ⟨(some 33), .mv (.t 32), none, [7]⟩, ⟨(some 34), .fld 1 (.t 1), (some (33, false)), [8]⟩, ⟨(some 35), .fld 0 (.t 34), (some (33, false)), [9, 8]⟩, ⟨(some 36), .load none (.t 35), (some (33, false)), [10, 8]⟩, ⟨(some 37), .mv (.t 3), (some (33, false)), [8]⟩, ⟨(some 38), .ixs 2 (.t 36) (.t 37), (some (33, false)), [11, 12, 8]⟩, ⟨(some 39), .fld 1 (.t 38), (some (33, false)), [13, 8]⟩, ⟨(some 40), .load none (.t 39), (some (33, false)), [14, 8]⟩, ⟨(some 41), .bin .gtr (.t 40) (.v (.int .i64 2147483647)), (some (33, false)), [15, 8]⟩, ⟨(some 42), .pick (.t 33) (.v (.bool true)) (.t 41), none, [8, 16]⟩]) (.cond (.t 42) (.seq (.reg false [⟨(some 2), .mv (.v (.bool false)), none, []⟩]) (.ret)) (.skip)))) (.reg false [⟨(some 23), .mv (.t 3), none, []⟩, ⟨(some 24), .bin .add (.t 23) (.v (.int .i64 1)), none, [0]⟩, ⟨(some 3), .mv (.t 24), none, [1, 0, 1]⟩])))))) (.seq (.seq (.reg false [⟨(some 4), .mv (.v (.int .i64 0)), none, []⟩]) (.block 2 (.loop (.seq (.seq (.reg false [⟨(some 43), .mv (.t 4), none, []⟩, ⟨(some 44), .fld 0 (.t 1), none, []⟩, ⟨(some 45), .load none (.t 44), none, [1]⟩, ⟨(some 46), .len (.t 45), none, [2]⟩, ⟨(some 47), .bin .lss (.t 43) (.t 46), none, [0, 3]⟩]) (.cond (.t 47) (.skip) (.exit 2))) (.seq (.block 3 (.seq (.reg true [⟨(some 50), .fld 0 (.t 1), none, []⟩, ⟨(some 51), .load none (.t 50), none, [0]⟩, ⟨(some 52), .mv (.t 4), none, []⟩, ⟨(some 53), .ixs 9 (.t 51) (.t 52), none, [1, 2]⟩, ⟨(some 54), .load (some 9) (.t 53), none, [3]⟩, ⟨(some 55), .call 35 [(.t 54)], none, [4]⟩, ⟨(some 56), .un .not (.t 55), none, [5]⟩, ⟨(some 57), .mv (.t 56), none, [6, 5]⟩, ⟨(some 58), .fld 0 (.t 1), (some (57, false)), [7]⟩, ⟨(some 59), .load none (.t 58), (some (57, false)), [8, 7]⟩, ⟨(some 60), .mv (.t 4), (some (57, false)), [7]⟩, ⟨(some 61), .ixs 9 (.t 59) (.t 60), (some (57, false)), [9, 10, 7]⟩, ⟨(some 62), .fld 8 (.t 61), (some (57, false)), [11, 7]⟩, ⟨(some 63), .load none (.t 62), (some (57, false)), [12, 7]⟩, ⟨(some 64), .fld 1 (.t 1), (some (57, false)), [7]⟩, ⟨(some 65), .fld 0 (.t 64), (some (57, false)), [14, 7]⟩, ⟨(some 66), .load none (.t 65), (some (57, false)), [15, 7]⟩, ⟨(some 67), .len (.t 66), (some (57, false)), [16, 7]⟩, ⟨(some 68), .bin .geq (.t 63) (.t 67), (some (57, false)), [13, 17, 7]⟩, ⟨(some 69), .pick (.t 57) (.v (.bool true)) (.t 68), none, [7, 18]⟩]) (.cond (.t 69) (.seq (.reg false [⟨(some 2), .mv (.v (.bool false)), none, []⟩]) (.ret)) (.skip)))) (.reg false [⟨(some 48), .mv (.t 4), none, []⟩, ⟨(some 49), .bin .add (.t 48) (.v (.int .i64 1)), none, [0]⟩, ⟨(some 4), .mv (.t 49), none, [1, 0, 1]⟩])))))) (.seq (.reg false [⟨(some 70), .load (some 3) (.t 1), none, []⟩, ⟨(some 71), .call 20 [(.t 70)], none, [0]⟩, ⟨(some 5), .mv (.t 71), none, [1, 1, 0, 1]⟩]) (.seq (.seq (.reg false [⟨(some 6), .mv (.v (.int .i64 0)), none, []⟩]) (.block 4 (.loop (.seq (.seq (.reg false [⟨(some 72), .mv (.t 6), none, []⟩, ⟨(some 73), .mv (.t 5), none, []⟩, ⟨(some 74), .len (.t 73), none, [1]⟩, ⟨(some 75), .bin .lss (.t 72) (.t 74), none, [0, 2]⟩]) (.cond (.t 75) (.skip) (.exit 4))) (.seq (.block 5 (.seq (.reg false [⟨(some 78), .mv (.t 5), none, []⟩, ⟨(some 79), .mv (.t 6), none, []⟩, ⟨(some 80), .ixs 1 (.t 78) (.t 79), none, [0, 1]⟩, ⟨(some 81), .load none (.t 80), none, [2]⟩, ⟨(some 82), .len (.t 81), none, [3]⟩, ⟨(some 83), .bin .gtr (.t 82) (.v (.int .i64 1048584)), none, [4]⟩]) (.cond (.t 83) (.seq (.reg false [⟨(some 2), .mv (.v (.bool false)), none, []⟩]) (.ret)) (.skip)))) (.reg false [⟨(some 76), .mv (.t 6), none, []⟩, ⟨(some 77), .bin .add (.t 76) (.v (.int .i64 1)), none, [0]⟩, ⟨(some 6), .mv (.t 77), none, [1, 0, 1]⟩])))))) (.seq (.reg false [⟨(some 2), .mv (.v (.bool true)), none, []⟩]) (.ret)))))))
def pr17 : List PR := [.t 2]
abbrev ms17_0 : List Nat := [17, 18, 19, 20, 21, 22, 25, 26, 27, 28, 29, 30, 31, 32, 33, 34, 35, 36, 37, 38, 39, 40, 41, 42, 2, 23, 24, 3]
abbrev os17_0 : List Nat := []
abbrev ms17_1 : List Nat := [43, 44, 45, 46, 47, 50, 51, 52, 53, 54, 55, 56, 57, 58, 59, 60, 61, 62, 63, 64, 65, 66, 67, 68, 69, 2, 48, 49, 4]
abbrev os17_1 : List Nat := []
abbrev ms17_2 : List Nat := [72, 73, 74, 75, 78, 79, 80, 81, 82, 83, 2, 76, 77, 6]
abbrev os17_2 : List Nat := []
theorem bd17:Try.f17.body=some (Try.f17.body.getD .skip):=by kernel_rfl
theorem cp17:bY Try.prog Try.f17.ntmps fJ (Try.f17.body.getD .skip)=some pc17:=by kernel_rfl
theorem sp17 [bT] {env:Env} (hE:aA Try.prog env) {R:List Pa→List Pa→Prop} (hR:∀ ps rs,R ps rs→ps.length≤84∧pwp env pc17 (fun e s=>(e=.normal∨e=.ret)∧s.res pr17=some rs) (St.init ps)):Spec Try.prog 17 R :=
 bX hE bZ bA Try.func17 bd17 cp17 (by kernel_rfl) (by kernel_rfl) (by kernel_rfl) hR
def pc20 : PC := .seq (.reg false [⟨(some 1), .box (.t 0), none, []⟩, ⟨(some 2), .nilRow 31 1, none, []⟩]) (.seq (.reg false [⟨(some 3), .nilRow 31 1, none, []⟩]) (.seq (.reg false [⟨(some 4), .new [(.int .i64 0), (.int .i64 0), (.int .i64 0), (.int .i64 0), (.int .i64 0), (.int .i64 0), (.int .i64 0), (.int .i64 0), (.int .i64 0)], none, []⟩]) (.seq (.reg false [⟨(some 5), .mv (.v (.int .i64 0)), none, []⟩]) (.seq (.seq (.reg false [⟨(some 6), .mv (.v (.int .i64 0)), none, []⟩]) (.block 0 (.loop (.seq (.seq (.reg false [⟨(some 16), .mv (.t 6), none, []⟩, ⟨(some 17), .fld 0 (.t 1), none, []⟩, ⟨(some 18), .load none (.t 17), none, [1]⟩, ⟨(some 19), .len (.t 18), none, [2]⟩, ⟨(some 20), .bin .lss (.t 16) (.t 19), none, [0, 3]⟩]) (.cond (.t 20) (.skip) (.exit 0))) (.seq (.block 1 (.seq (.reg false [⟨(some 23), .mv (.t 6), none, []⟩, ⟨(some 24), .bin .add (.t 23) (.v (.int .i64 16)), none, [0]⟩, ⟨(some 25), .fld 0 (.t 1), none, []⟩, ⟨(some 26), .load none (.t 25), none, [2]⟩, ⟨(some 27), .len (.t 26), none, [3]⟩, ⟨(some 28), .mm false [(.t 24), (.t 27)], none, [1, 4]⟩, ⟨(some 7), .mv (.t 28), none, [5, 0, 1, 2, 3, 4, 5]⟩]) (.seq (.reg false [⟨(some 29), .mv (.t 5), none, []⟩, ⟨(some 8), .mv (.t 29), none, [0, 0]⟩]) (.seq (.seq (.reg false [⟨(some 30), .mv (.t 6), none, []⟩, ⟨(some 9), .mv (.t 30), none, [0, 0]⟩]) (.block 2 (.loop (.seq (.seq (.reg false [⟨(some 31), .mv (.t 9), none, []⟩, ⟨(some 32), .mv (.t 7), none, []⟩, ⟨(some 33), .bin .lss (.t 31) (.t 32), none, [0, 1]⟩]) (.cond (.t 33) (.skip) (.exit 2))) (.seq (.block 3 (.reg false [⟨(some 36), .mv (.t 8), none, []⟩, ⟨(some 37), .fld 0 (.t 1), none, []⟩, ⟨(some 38), .load none (.t 37), none, [1]⟩, ⟨(some 39), .mv (.t 9), none, []⟩, ⟨(some 40), .ixs 9 (.t 38) (.t 39), none, [2, 3]⟩, ⟨(some 41), .fld 8 (.t 40), none, [4]⟩, ⟨(some 42), .load none (.t 41), none, [5]⟩, ⟨(some 43), .bin .add (.t 42) (.v (.int .i64 1)), none, [6]⟩, ⟨(some 44), .mm true [(.t 36), (.t 43)], none, [0, 7]⟩, ⟨(some 8), .mv (.t 44), none, [8, 0, 1, 2, 3, 4, 5, 6, 7, 8]⟩])) (.reg false [⟨(some 34), .mv (.t 9), none, []⟩, ⟨(some 35), .bin .add (.t 34) (.v (.int .i64 1)), none, [0]⟩, ⟨(some 9), .mv (.t 35), none, [1, 0, 1]⟩])))))) (.seq (.reg false [⟨(some 45), .fld 1 (.t 1), none, []⟩, ⟨(some 46), .load (some 2) (.t 45), none, [0]⟩, ⟨(some 47), .mv (.t 5), none, []⟩, ⟨(some 48), .mv (.t 8), none, []⟩, ⟨(some 49), .call 36 [(.t 46), (.t 47), (.t 48)], none, [1, 2, 3]⟩, ⟨(some 10), .mv (.t 49), none, [4, 4, 0, 1, 2, 3, 4]⟩]) (.seq (.reg false [⟨(some 50), .mv (.t 8), none, []⟩, ⟨(some 5), .mv (.t 50), none, [0, 0]⟩]) (.seq (.reg false [⟨(some 51), .mv (.t 10), none, []⟩, ⟨(some 52), .mv (.t 7), none, []⟩, ⟨(some 53), .mv (.t 6), none, []⟩, ⟨(some 54), .bin .sub (.t 52) (.t 53), none, [1, 2]⟩, ⟨(some 55), .call 37 [(.t 54)], none, [3]⟩, ⟨(some 56), .append 5 1 1 (.t 51) (.t 55), none, [0, 4, 4]⟩, ⟨(some 10), .mv (.t 56), none, [5, 5, 0, 1, 2, 3, 4, 5]⟩]) (.seq (.seq (.reg false [⟨(some 57), .mv (.t 6), none, []⟩, ⟨(some 11), .mv (.t 57), none, [0, 0]⟩]) (.block 4 (.loop (.seq (.seq (.reg false [⟨(some 58), .mv (.t 11), none, []⟩, ⟨(some 59), .mv (.t 7), none, []⟩, ⟨(some 60), .bin .lss (.t 58) (.t 59), none, [0, 1]⟩]) (.cond (.t 60) (.skip) (.exit 4))) (.seq (.block 5 (.seq (.reg true [⟨(some 63), .fld 0 (.t 1), none, []⟩, ⟨(some 64), .load none (.t 63), none, [0]⟩, ⟨(some 65), .mv (.t 11), none, []⟩, ⟨(some 66), .ixs 9 (.t 64) (.t 65), none, [1, 2]⟩, ⟨(some 67), .load (some 9) (.t 66), none, [3]⟩, ⟨(some 68), .call 38 [(.t 67)], none, [4]⟩, ⟨(some 69), .load (some 9) (.t 4), none, []⟩, ⟨(some 70), .call 38 [(.t 69)], none, [6, 5]⟩, ⟨(some 12), .mv (.t 68), none, [5, 7, 0, 1, 2, 3, 4, 5]⟩, ⟨(some 13), .mv (.t 70), none, [7, 8, 0, 1, 2, 3, 4, 5, 6, 7, 8]⟩]) (.seq (.seq (.reg false [⟨(some 14), .mv (.v (.int .i64 0)), none, []⟩]) (.block 6 (.loop (.seq (.seq (.reg false [⟨(some 71), .mv (.t 14), none, []⟩, ⟨(some 72), .mv (.t 12), none, []⟩, ⟨(some 73), .len (.t 72), none, [1]⟩, ⟨(some 74), .bin .lss (.t 71) (.t 73), none, [0, 2]⟩]) (.cond (.t 74) (.skip) (.exit 6))) (.seq (.block 7 (.reg true [⟨(some 77), .mv (.t 10), none, []⟩, ⟨(some 78), .mv (.t 12), none, []⟩, ⟨(some 79), .mv (.t 14), none, []⟩, ⟨(some 80), .ixs 1 (.t 78) (.t 79), none, [1, 2]⟩, ⟨(some 81), .load none (.t 80), none, [3]⟩, ⟨(some 82), .mv (.t 13), none, []⟩, ⟨(some 83), .mv (.t 14), none, []⟩, ⟨(some 84), .ixs 1 (.t 82) (.t 83), none, [5, 6]⟩, ⟨(some 85), .load none (.t 84), none, [7]⟩, ⟨(some 86), .bin .sub (.t 81) (.t 85), none, [4, 8]⟩, ⟨(some 87), .call 39 [(.t 86)], none, [9]⟩, ⟨(some 88), .append 5 1 1 (.t 77) (.t 87), none, [0, 10, 10]⟩, ⟨(some 10), .mv (.t 88), none, [11, 11, 0, 1, 2, 3, 4, 5, 6, 7, 8, 9, 10, 11]⟩])) (.reg false [⟨(some 75), .mv (.t 14), none, []⟩, ⟨(some 76), .bin .add (.t 75) (.v (.int .i64 1)), none, [0]⟩, ⟨(some 14), .mv (.t 76), none, [1, 0, 1]⟩])))))) (.reg false [⟨(some 89), .fld 0 (.t 1), none, []⟩, ⟨(some 90), .load none (.t 89), none, [0]⟩, ⟨(some 91), .mv (.t 11), none, []⟩, ⟨(some 92), .ixs 9 (.t 90) (.t 91), none, [1, 2]⟩, ⟨(some 93), .load (some 9) (.t 92), none, [3]⟩, ⟨none, .store 9 (.t 4) (.t 93), none, [4, 0, 1, 2, 3, 4]⟩])))) (.reg false [⟨(some 61), .mv (.t 11), none, []⟩, ⟨(some 62), .bin .add (.t 61) (.v (.int .i64 1)), none, [0]⟩, ⟨(some 11), .mv (.t 62), none, [1, 0, 1]⟩])))))) (.reg false [⟨(some 94), .mv (.t 3), none, []⟩, ⟨(some 95), .mv (.t 10), none, []⟩, ⟨(some 96), .call 40 [(.v (.int .u8 66)), (.t 95)], none, [1]⟩, ⟨(some 97), .bslice 31 1 [(.slice none 0 0)] 1 [(0, 1, (.t 96))], none, [2]⟩, ⟨(some 98), .append 31 1 24 (.t 94) (.t 97), none, [0, 3, 2]⟩, ⟨(some 3), .mv (.t 98), none, [4, 4, 0, 1, 2, 3, 4]⟩]))))))))) (.reg false [⟨(some 21), .mv (.t 6), none, []⟩, ⟨(some 22), .bin .add (.t 21) (.v (.int .i64 16)), none, [0]⟩, ⟨(some 6), .mv (.t 22), none, [1, 0, 1]⟩])))))) (.seq (.reg false [⟨(some 99), .fld 1 (.t 1), none, []⟩, ⟨(some 100), .load (some 2) (.t 99), none, [0]⟩, ⟨(some 101), .mv (.t 5), none, []⟩, ⟨(some 102), .fld 1 (.t 1), none, []⟩, ⟨(some 103), .fld 0 (.t 102), none, [3]⟩, ⟨(some 104), .load none (.t 103), none, [4]⟩, ⟨(some 105), .len (.t 104), none, [5]⟩, ⟨(some 106), .call 36 [(.t 100), (.t 101), (.t 105)], none, [1, 2, 6]⟩, ⟨(some 15), .mv (.t 106), none, [7, 7, 0, 1, 2, 3, 4, 5, 6, 7]⟩]) (.seq (.reg false [⟨(some 107), .mv (.t 3), none, []⟩, ⟨(some 108), .mv (.t 15), none, []⟩, ⟨(some 109), .fld 0 (.t 1), none, []⟩, ⟨(some 110), .load none (.t 109), none, [2]⟩, ⟨(some 111), .len (.t 110), none, [3]⟩, ⟨(some 112), .call 37 [(.t 111)], none, [4]⟩, ⟨(some 113), .append 5 1 1 (.t 108) (.t 112), none, [1, 5, 5]⟩, ⟨(some 114), .call 40 [(.v (.int .u8 69)), (.t 113)], none, [6, 6]⟩, ⟨(some 115), .bslice 31 1 [(.slice none 0 0)] 1 [(0, 1, (.t 114))], none, [7]⟩, ⟨(some 116), .append 31 1 24 (.t 107) (.t 115), none, [0, 8, 7]⟩, ⟨(some 2), .mv (.t 116), none, [9, 9, 0, 1, 2, 3, 4, 5, 6, 7, 8, 9]⟩]) (.ret)))))))
def pr20 : List PR := [.t 2]
abbrev ms20_0 : List Nat := [16, 17, 18, 19, 20, 23, 24, 25, 26, 27, 28, 7, 29, 8, 30, 9, 31, 32, 33, 36, 37, 38, 39, 40, 41, 42, 43, 44, 34, 35, 45, 46, 47, 48, 49, 10, 50, 5, 51, 52, 53, 54, 55, 56, 57, 11, 58, 59, 60, 63, 64, 65, 66, 67, 68, 69, 70, 12, 13, 14, 71, 72, 73, 74, 77, 78, 79, 80, 81, 82, 83, 84, 85, 86, 87, 88, 75, 76, 89, 90, 91, 92, 93, 61, 62, 94, 95, 96, 97, 98, 3, 21, 22, 6]
abbrev os20_0 : List Nat := [10, 4, 97, 3]
abbrev ms20_1 : List Nat := [31, 32, 33, 36, 37, 38, 39, 40, 41, 42, 43, 44, 8, 34, 35, 9]
abbrev os20_1 : List Nat := []
abbrev ms20_2 : List Nat := [58, 59, 60, 63, 64, 65, 66, 67, 68, 69, 70, 12, 13, 14, 71, 72, 73, 74, 77, 78, 79, 80, 81, 82, 83, 84, 85, 86, 87, 88, 10, 75, 76, 89, 90, 91, 92, 93, 61, 62, 11]
abbrev os20_2 : List Nat := [10, 4]
abbrev ms20_3 : List Nat := [71, 72, 73, 74, 77, 78, 79, 80, 81, 82, 83, 84, 85, 86, 87, 88, 10, 75, 76, 14]
abbrev os20_3 : List Nat := [10]
theorem bd20:Try.f20.body=some (Try.f20.body.getD .skip):=by kernel_rfl
theorem cp20:bY Try.prog Try.f20.ntmps fJ (Try.f20.body.getD .skip)=some pc20:=by kernel_rfl
theorem sp20 [bT] {env:Env} (hE:aA Try.prog env) {R:List Pa→List Pa→Prop} (hR:∀ ps rs,R ps rs→ps.length≤117∧pwp env pc20 (fun e s=>(e=.normal∨e=.ret)∧s.res pr20=some rs) (St.init ps)):Spec Try.prog 20 R :=
 bX hE bZ bA Try.func20 bd20 cp20 (by kernel_rfl) (by kernel_rfl) (by kernel_rfl) hR
def pc21 : PC := .seq (.reg false [⟨(some 0), .nilRow 5 1, none, []⟩]) (.seq (.reg false [⟨(some 1), .bslice 5 1 [(.int .u8 0), (.int .u8 0), (.int .u8 0), (.int .u8 0), (.int .u8 0), (.int .u8 0), (.int .u8 0), (.int .u8 0)] 8 [(0, 1, (.v (.int .u8 73))), (1, 1, (.v (.int .u8 84))), (2, 1, (.v (.int .u8 82))), (3, 1, (.v (.int .u8 65))), (4, 1, (.v (.int .u8 67))), (5, 1, (.v (.int .u8 69))), (6, 1, (.v (.int .u8 49))), (7, 1, (.v (.int .u8 10)))], none, []⟩, ⟨(some 2), .stm (.t 1), none, [0]⟩, ⟨(some 0), .mv (.t 2), none, [1, 0, 1]⟩]) (.ret))
def pr21 : List PR := [.t 0]
theorem bd21:Try.f21.body=some (Try.f21.body.getD .skip):=by kernel_rfl
theorem cp21:bY Try.prog Try.f21.ntmps fJ (Try.f21.body.getD .skip)=some pc21:=by kernel_rfl
theorem sp21 [bT] {env:Env} (hE:aA Try.prog env) {R:List Pa→List Pa→Prop} (hR:∀ ps rs,R ps rs→ps.length≤3∧pwp env pc21 (fun e s=>(e=.normal∨e=.ret)∧s.res pr21=some rs) (St.init ps)):Spec Try.prog 21 R :=
 bX hE bZ bA Try.func21 bd21 cp21 (by kernel_rfl) (by kernel_rfl) (by kernel_rfl) hR
def pc36 : PC := .seq (.reg false [⟨(some 3), .box (.t 0), none, []⟩, ⟨(some 6), .nilRow 5 1, none, []⟩]) (.seq (.reg false [⟨(some 9), .mv (.t 2), none, []⟩, ⟨(some 10), .mv (.t 1), none, []⟩, ⟨(some 11), .bin .sub (.t 9) (.t 10), none, [0, 1]⟩, ⟨(some 12), .call 37 [(.t 11)], none, [2]⟩, ⟨(some 7), .mv (.t 12), none, [3, 3, 0, 1, 2, 3]⟩]) (.seq (.seq (.reg false [⟨(some 13), .mv (.t 1), none, []⟩, ⟨(some 8), .mv (.t 13), none, [0, 0]⟩]) (.block 0 (.loop (.seq (.seq (.reg false [⟨(some 14), .mv (.t 8), none, []⟩, ⟨(some 15), .mv (.t 2), none, []⟩, ⟨(some 16), .bin .lss (.t 14) (.t 15), none, [0, 1]⟩]) (.cond (.t 16) (.skip) (.exit 0))) (.seq (.block 1 (.seq (.reg false [⟨(some 19), .mv (.t 7), none, []⟩, ⟨(some 20), .fld 1 (.t 3), none, []⟩, ⟨(some 21), .load none (.t 20), none, [1]⟩, ⟨(some 22), .mv (.t 8), none, []⟩, ⟨(some 23), .ixs 1 (.t 21) (.t 22), none, [2, 3]⟩, ⟨(some 24), .load none (.t 23), none, [4]⟩, ⟨(some 25), .bin .add (.t 24) (.v (.int .i64 1)), none, [5]⟩, ⟨(some 26), .call 37 [(.t 25)], none, [6]⟩, ⟨(some 27), .append 5 1 1 (.t 19) (.t 26), none, [0, 7, 7]⟩, ⟨(some 7), .mv (.t 27), none, [8, 8, 0, 1, 2, 3, 4, 5, 6, 7, 8]⟩]) (.seq (.reg false [⟨(some 28), .mv (.t 7), none, []⟩, ⟨(some 29), .fld 0 (.t 3), none, []⟩, ⟨(some 30), .load none (.t 29), none, [1]⟩, ⟨(some 31), .mv (.t 8), none, []⟩, ⟨(some 32), .ixs 2 (.t 30) (.t 31), none, [2, 3]⟩, ⟨(some 33), .fld 0 (.t 32), none, [4]⟩, ⟨(some 34), .load none (.t 33), none, [5]⟩, ⟨(some 35), .call 37 [(.t 34)], none, [6]⟩, ⟨(some 36), .append 5 1 1 (.t 28) (.t 35), none, [0, 7, 7]⟩, ⟨(some 7), .mv (.t 36), none, [8, 8, 0, 1, 2, 3, 4, 5, 6, 7, 8]⟩]) (.reg false [⟨(some 37), .mv (.t 7), none, []⟩, ⟨(some 38), .fld 0 (.t 3), none, []⟩, ⟨(some 39), .load none (.t 38), none, [1]⟩, ⟨(some 40), .mv (.t 8), none, []⟩, ⟨(some 41), .ixs 2 (.t 39) (.t 40), none, [2, 3]⟩, ⟨(some 42), .fld 1 (.t 41), none, [4]⟩, ⟨(some 43), .load none (.t 42), none, [5]⟩, ⟨(some 44), .call 37 [(.t 43)], none, [6]⟩, ⟨(some 45), .append 5 1 1 (.t 37) (.t 44), none, [0, 7, 7]⟩, ⟨(some 7), .mv (.t 45), none, [8, 8, 0, 1, 2, 3, 4, 5, 6, 7, 8]⟩])))) (.reg false [⟨(some 17), .mv (.t 8), none, []⟩, ⟨(some 18), .bin .add (.t 17) (.v (.int .i64 1)), none, [0]⟩, ⟨(some 8), .mv (.t 18), none, [1, 0, 1]⟩])))))) (.seq (.reg false [⟨(some 46), .mv (.t 7), none, []⟩, ⟨(some 6), .mv (.t 46), none, [0, 0]⟩]) (.ret))))
abbrev ms36_0 : List Nat := [14, 15, 16, 19, 20, 21, 22, 23, 24, 25, 26, 27, 7, 28, 29, 30, 31, 32, 33, 34, 35, 36, 37, 38, 39, 40, 41, 42, 43, 44, 45, 17, 18, 8]
abbrev os36_0 : List Nat := [7]
theorem bd36:Try.f36.body=some (Try.f36.body.getD .skip):=by kernel_rfl
theorem cp36:bY Try.prog Try.f36.ntmps fJ (Try.f36.body.getD .skip)=some pc36:=by kernel_rfl
def pc37 : PC := .seq (.reg false [⟨(some 2), .nilRow 5 1, none, []⟩]) (.seq (.reg false [⟨(some 3), .nilRow 5 1, none, []⟩]) (.seq (.block 0 (.loop (.seq (.seq (.reg false [⟨(some 4), .mv (.t 0), none, []⟩, ⟨(some 5), .bin .geq (.t 4) (.v (.int .i64 128)), none, [0]⟩]) (.cond (.t 5) (.skip) (.exit 0))) (.block 1 (.seq (.reg false [⟨(some 6), .mv (.t 3), none, []⟩, ⟨(some 7), .mv (.t 0), none, []⟩, ⟨(some 8), .bin .rem (.t 7) (.v (.int .i64 128)), none, [1]⟩, ⟨(some 9), .bin .add (.t 8) (.v (.int .i64 128)), none, [2]⟩, ⟨(some 10), .conv .u8 (.t 9), none, [3]⟩, ⟨(some 11), .bslice 5 1 [(.int .u8 0)] 1 [(0, 1, (.t 10))], none, [4]⟩, ⟨(some 12), .append 5 1 1 (.t 6) (.t 11), none, [0, 5]⟩, ⟨(some 3), .mv (.t 12), none, [6, 6, 0, 1, 2, 3, 4, 5, 6]⟩]) (.reg false [⟨(some 13), .mv (.t 0), none, []⟩, ⟨(some 14), .bin .quo (.t 13) (.v (.int .i64 128)), none, [0]⟩, ⟨(some 0), .mv (.t 14), none, [1, 0, 1]⟩])))))) (.seq (.reg false [⟨(some 15), .mv (.t 3), none, []⟩, ⟨(some 16), .mv (.t 0), none, []⟩, ⟨(some 17), .conv .u8 (.t 16), none, [1]⟩, ⟨(some 18), .bslice 5 1 [(.int .u8 0)] 1 [(0, 1, (.t 17))], none, [2]⟩, ⟨(some 19), .append 5 1 1 (.t 15) (.t 18), none, [0, 3]⟩, ⟨(some 2), .mv (.t 19), none, [4, 4, 0, 1, 2, 3, 4]⟩]) (.ret))))
def pr37 : List PR := [.t 2]
abbrev ms37_0 : List Nat := [4, 5, 6, 7, 8, 9, 10, 11, 12, 3, 13, 14, 0]
abbrev os37_0 : List Nat := [11, 3]
theorem bd37:Try.f37.body=some (Try.f37.body.getD .skip):=by kernel_rfl
theorem cp37:bY Try.prog Try.f37.ntmps fJ (Try.f37.body.getD .skip)=some pc37:=by kernel_rfl
theorem sp37 [bT] {env:Env} (hE:aA Try.prog env) {R:List Pa→List Pa→Prop} (hR:∀ ps rs,R ps rs→ps.length≤20∧pwp env pc37 (fun e s=>(e=.normal∨e=.ret)∧s.res pr37=some rs) (St.init ps)):Spec Try.prog 37 R :=
 bX hE bZ bA Try.func37 bd37 cp37 (by kernel_rfl) (by kernel_rfl) (by kernel_rfl) hR
def pc38 : PC := .seq (.reg false [⟨(some 1), .box (.t 0), none, []⟩, ⟨(some 2), .nilRow 3 1, none, []⟩]) (.seq (.reg false [⟨(some 3), .fld 0 (.t 1), none, []⟩, ⟨(some 4), .load none (.t 3), none, [0]⟩, ⟨(some 5), .fld 1 (.t 1), none, []⟩, ⟨(some 6), .load none (.t 5), none, [2]⟩, ⟨(some 7), .fld 2 (.t 1), none, []⟩, ⟨(some 8), .load none (.t 7), none, [4]⟩, ⟨(some 9), .fld 3 (.t 1), none, []⟩, ⟨(some 10), .load none (.t 9), none, [6]⟩, ⟨(some 11), .fld 4 (.t 1), none, []⟩, ⟨(some 12), .load none (.t 11), none, [8]⟩, ⟨(some 13), .fld 5 (.t 1), none, []⟩, ⟨(some 14), .load none (.t 13), none, [10]⟩, ⟨(some 15), .fld 6 (.t 1), none, []⟩, ⟨(some 16), .load none (.t 15), none, [12]⟩, ⟨(some 17), .fld 7 (.t 1), none, []⟩, ⟨(some 18), .load none (.t 17), none, [14]⟩, ⟨(some 19), .fld 8 (.t 1), none, []⟩, ⟨(some 20), .load none (.t 19), none, [16]⟩, ⟨(some 21), .bslice 3 1 [(.int .i64 0), (.int .i64 0), (.int .i64 0), (.int .i64 0), (.int .i64 0), (.int .i64 0), (.int .i64 0), (.int .i64 0), (.int .i64 0)] 9 [(0, 1, (.t 4)), (1, 1, (.t 6)), (2, 1, (.t 8)), (3, 1, (.t 10)), (4, 1, (.t 12)), (5, 1, (.t 14)), (6, 1, (.t 16)), (7, 1, (.t 18)), (8, 1, (.t 20))], none, [1, 3, 5, 7, 9, 11, 13, 15, 17]⟩, ⟨(some 2), .mv (.t 21), none, [18, 0, 1, 2, 3, 4, 5, 6, 7, 8, 9, 10, 11, 12, 13, 14, 15, 16, 17, 18]⟩]) (.ret))
def pr38 : List PR := [.t 2]
theorem bd38:Try.f38.body=some (Try.f38.body.getD .skip):=by kernel_rfl
theorem cp38:bY Try.prog Try.f38.ntmps fJ (Try.f38.body.getD .skip)=some pc38:=by kernel_rfl
theorem sp38 [bT] {env:Env} (hE:aA Try.prog env) {R:List Pa→List Pa→Prop} (hR:∀ ps rs,R ps rs→ps.length≤22∧pwp env pc38 (fun e s=>(e=.normal∨e=.ret)∧s.res pr38=some rs) (St.init ps)):Spec Try.prog 38 R :=
 bX hE bZ bA Try.func38 bd38 cp38 (by kernel_rfl) (by kernel_rfl) (by kernel_rfl) hR
def pc39 : PC := .seq (.reg false [⟨(some 2), .nilRow 5 1, none, []⟩]) (.seq (.seq (.reg false [⟨(some 3), .mv (.t 0), none, []⟩, ⟨(some 4), .bin .lss (.t 3) (.v (.int .i64 0)), none, [0]⟩]) (.cond (.t 4) (.seq (.reg false [⟨(some 5), .mv (.t 0), none, []⟩, ⟨(some 6), .bin .mul (.v (.int .i64 (-2))) (.t 5), none, [0]⟩, ⟨(some 7), .bin .sub (.t 6) (.v (.int .i64 1)), none, [1]⟩, ⟨(some 8), .call 37 [(.t 7)], none, [2]⟩, ⟨(some 2), .mv (.t 8), none, [3, 3, 0, 1, 2, 3]⟩]) (.ret)) (.skip))) (.seq (.reg false [⟨(some 9), .mv (.t 0), none, []⟩, ⟨(some 10), .bin .mul (.v (.int .i64 2)) (.t 9), none, [0]⟩, ⟨(some 11), .call 37 [(.t 10)], none, [1]⟩, ⟨(some 2), .mv (.t 11), none, [2, 2, 0, 1, 2]⟩]) (.ret)))
def pr39 : List PR := [.t 2]
theorem bd39:Try.f39.body=some (Try.f39.body.getD .skip):=by kernel_rfl
theorem cp39:bY Try.prog Try.f39.ntmps fJ (Try.f39.body.getD .skip)=some pc39:=by kernel_rfl
theorem sp39 [bT] {env:Env} (hE:aA Try.prog env) {R:List Pa→List Pa→Prop} (hR:∀ ps rs,R ps rs→ps.length≤12∧pwp env pc39 (fun e s=>(e=.normal∨e=.ret)∧s.res pr39=some rs) (St.init ps)):Spec Try.prog 39 R :=
 bX hE bZ bA Try.func39 bd39 cp39 (by kernel_rfl) (by kernel_rfl) (by kernel_rfl) hR
def pc40 : PC := .seq (.reg false [⟨(some 4), .nilRow 5 1, none, []⟩]) (.seq (.reg false [⟨(some 7), .mv (.t 0), none, []⟩, ⟨(some 8), .bslice 5 1 [(.int .u8 0)] 1 [(0, 1, (.t 7))], none, [0]⟩, ⟨(some 9), .mv (.t 1), none, []⟩, ⟨(some 10), .len (.t 9), none, [2]⟩, ⟨(some 11), .call 37 [(.t 10)], none, [3]⟩, ⟨(some 12), .append 5 1 1 (.t 8) (.t 11), none, [1, 4, 4]⟩, ⟨(some 5), .mv (.t 12), none, [5, 5, 0, 1, 2, 3, 4, 5]⟩]) (.seq (.reg false [⟨(some 13), .mv (.t 5), none, []⟩, ⟨(some 14), .mv (.t 1), none, []⟩, ⟨(some 15), .append 5 1 1 (.t 13) (.t 14), none, [0, 1]⟩, ⟨(some 5), .mv (.t 15), none, [2, 2, 0, 1, 2]⟩]) (.seq (.reg false [⟨(some 16), .mv (.t 5), none, []⟩, ⟨(some 17), .call 52 [(.t 16)], none, [0]⟩, ⟨(some 6), .mv (.t 17), none, [1, 1, 0, 1]⟩]) (.seq (.reg false [⟨(some 18), .mv (.t 5), none, []⟩, ⟨(some 19), .mv (.t 6), none, []⟩, ⟨(some 20), .bin .shr (.t 19) (.v (.int .u64 24)), none, [1]⟩, ⟨(some 21), .conv .u8 (.t 20), none, [2]⟩, ⟨(some 22), .mv (.t 6), none, []⟩, ⟨(some 23), .bin .shr (.t 22) (.v (.int .u64 16)), none, [4]⟩, ⟨(some 24), .conv .u8 (.t 23), none, [5]⟩, ⟨(some 25), .mv (.t 6), none, []⟩, ⟨(some 26), .bin .shr (.t 25) (.v (.int .u64 8)), none, [7]⟩, ⟨(some 27), .conv .u8 (.t 26), none, [8]⟩, ⟨(some 28), .mv (.t 6), none, []⟩, ⟨(some 29), .conv .u8 (.t 28), none, [10]⟩, ⟨(some 30), .bslice 5 1 [(.int .u8 0), (.int .u8 0), (.int .u8 0), (.int .u8 0)] 4 [(0, 1, (.t 21)), (1, 1, (.t 24)), (2, 1, (.t 27)), (3, 1, (.t 29))], none, [3, 6, 9, 11]⟩, ⟨(some 31), .append 5 1 1 (.t 18) (.t 30), none, [0, 12]⟩, ⟨(some 4), .mv (.t 31), none, [13, 13, 0, 1, 2, 3, 4, 5, 6, 7, 8, 9, 10, 11, 12, 13]⟩]) (.ret)))))
def pr40 : List PR := [.t 4]
theorem bd40:Try.f40.body=some (Try.f40.body.getD .skip):=by kernel_rfl
theorem cp40:bY Try.prog Try.f40.ntmps fJ (Try.f40.body.getD .skip)=some pc40:=by kernel_rfl
theorem sp40 [bT] {env:Env} (hE:aA Try.prog env) {R:List Pa→List Pa→Prop} (hR:∀ ps rs,R ps rs→ps.length≤32∧pwp env pc40 (fun e s=>(e=.normal∨e=.ret)∧s.res pr40=some rs) (St.init ps)):Spec Try.prog 40 R :=
 bX hE bZ bA Try.func40 bd40 cp40 (by kernel_rfl) (by kernel_rfl) (by kernel_rfl) hR
def pc52 : PC := .seq (.reg false [⟨(some 2), .mv (.v (.int .u32 0)), none, []⟩]) (.seq (.reg false [⟨(some 3), .mv (.v (.int .u32 4294967295)), none, []⟩]) (.seq (.seq (.reg false [⟨(some 4), .mv (.v (.int .i64 0)), none, []⟩]) (.block 0 (.loop (.seq (.seq (.reg false [⟨(some 7), .mv (.t 4), none, []⟩, ⟨(some 8), .mv (.t 0), none, []⟩, ⟨(some 9), .len (.t 8), none, [1]⟩, ⟨(some 10), .bin .lss (.t 7) (.t 9), none, [0, 2]⟩]) (.cond (.t 10) (.skip) (.exit 0))) (.seq (.block 1 (.seq (.reg false [⟨(some 13), .mv (.t 3), none, []⟩, ⟨(some 14), .mv (.t 0), none, []⟩, ⟨(some 15), .mv (.t 4), none, []⟩, ⟨(some 16), .ixs 1 (.t 14) (.t 15), none, [1, 2]⟩, ⟨(some 17), .load none (.t 16), none, [3]⟩, ⟨(some 18), .conv .u32 (.t 17), none, [4]⟩, ⟨(some 19), .bin .xor (.t 13) (.t 18), none, [0, 5]⟩, ⟨(some 3), .mv (.t 19), none, [6, 0, 1, 2, 3, 4, 5, 6]⟩]) (.seq (.reg false [⟨(some 5), .mv (.v (.int .i64 0)), none, []⟩]) (.block 2 (.loop (.seq (.seq (.reg false [⟨(some 20), .mv (.t 5), none, []⟩, ⟨(some 21), .bin .lss (.t 20) (.v (.int .i64 8)), none, [0]⟩]) (.cond (.t 21) (.skip) (.exit 2))) (.seq (.block 3 (.seq (.reg false [⟨(some 24), .mv (.t 3), none, []⟩, ⟨(some 25), .bin .rem (.t 24) (.v (.int .u32 2)), none, [0]⟩, ⟨(some 6), .mv (.t 25), none, [1, 0, 1]⟩]) (.seq (.reg false [⟨(some 26), .mv (.t 3), none, []⟩, ⟨(some 27), .bin .quo (.t 26) (.v (.int .u32 2)), none, [0]⟩, ⟨(some 3), .mv (.t 27), none, [1, 0, 1]⟩]) (.seq (.reg false [⟨(some 28), .mv (.t 6), none, []⟩, ⟨(some 29), .bin .eql (.t 28) (.v (.int .u32 1)), none, [0]⟩]) (.cond (.t 29) (.reg false [⟨(some 30), .mv (.t 3), none, []⟩, ⟨(some 31), .bin .xor (.t 30) (.v (.int .u32 3988292384)), none, [0]⟩, ⟨(some 3), .mv (.t 31), none, [1, 0, 1]⟩]) (.skip)))))) (.reg false [⟨(some 22), .mv (.t 5), none, []⟩, ⟨(some 23), .bin .add (.t 22) (.v (.int .i64 1)), none, [0]⟩, ⟨(some 5), .mv (.t 23), none, [1, 0, 1]⟩])))))))) (.reg false [⟨(some 11), .mv (.t 4), none, []⟩, ⟨(some 12), .bin .add (.t 11) (.v (.int .i64 1)), none, [0]⟩, ⟨(some 4), .mv (.t 12), none, [1, 0, 1]⟩])))))) (.seq (.reg false [⟨(some 32), .mv (.t 3), none, []⟩, ⟨(some 33), .bin .xor (.t 32) (.v (.int .u32 4294967295)), none, [0]⟩, ⟨(some 2), .mv (.t 33), none, [1, 0, 1]⟩]) (.ret))))
def pr52 : List PR := [.t 2]
abbrev ms52_0 : List Nat := [7, 8, 9, 10, 13, 14, 15, 16, 17, 18, 19, 3, 5, 20, 21, 24, 25, 6, 26, 27, 28, 29, 30, 31, 22, 23, 11, 12, 4]
abbrev os52_0 : List Nat := []
abbrev ms52_1 : List Nat := [20, 21, 24, 25, 6, 26, 27, 3, 28, 29, 30, 31, 22, 23, 5]
abbrev os52_1 : List Nat := []
theorem bd52:Try.f52.body=some (Try.f52.body.getD .skip):=by kernel_rfl
theorem cp52:bY Try.prog Try.f52.ntmps fJ (Try.f52.body.getD .skip)=some pc52:=by kernel_rfl
theorem sp52 [bT] {env:Env} (hE:aA Try.prog env) {R:List Pa→List Pa→Prop} (hR:∀ ps rs,R ps rs→ps.length≤34∧pwp env pc52 (fun e s=>(e=.normal∨e=.ret)∧s.res pr52=some rs) (St.init ps)):Spec Try.prog 52 R :=
 bX hE bZ bA Try.func52 bd52 cp52 (by kernel_rfl) (by kernel_rfl) (by kernel_rfl) hR
def pc34 : PC := .seq (.reg false [⟨(some 1), .box (.t 0), none, []⟩, ⟨(some 2), .mv (.v (.bool false)), none, []⟩]) (.seq (.seq (.reg false [⟨(some 5), .fld 0 (.t 1), none, []⟩, ⟨(some 6), .load none (.t 5), none, [0]⟩, ⟨(some 7), .len (.t 6), none, [1]⟩, ⟨(some 8), .fld 1 (.t 1), none, []⟩, ⟨(some 9), .load none (.t 8), none, [3]⟩, ⟨(some 10), .len (.t 9), none, [4]⟩, ⟨(some 11), .bin .neq (.t 7) (.t 10), none, [2, 5]⟩]) (.cond (.t 11) (.seq (.reg false [⟨(some 2), .mv (.v (.bool false)), none, []⟩]) (.ret)) (.skip))) (.seq (.seq (.reg false [⟨(some 3), .mv (.v (.int .i64 0)), none, []⟩]) (.block 0 (.loop (.seq (.seq (.reg false [⟨(some 12), .mv (.t 3), none, []⟩, ⟨(some 13), .fld 0 (.t 1), none, []⟩, ⟨(some 14), .load none (.t 13), none, [1]⟩, ⟨(some 15), .len (.t 14), none, [2]⟩, ⟨(some 16), .bin .lss (.t 12) (.t 15), none, [0, 3]⟩]) (.cond (.t 16) (.skip) (.exit 0))) (.seq (.block 1 (.seq (.seq (.reg false [⟨(some 19), .fld 1 (.t 1), none, []⟩, ⟨(some 20), .load none (.t 19), none, [0]⟩, ⟨(some 21), .mv (.t 3), none, []⟩, ⟨(some 22), .ixs 1 (.t 20) (.t 21), none, [1, 2]⟩, ⟨(some 23), .load none (.t 22), none, [3]⟩, ⟨(some 24), .bin .lss (.t 23) (.v (.int .i64 (-1))), none, [4]⟩, ⟨(some 25), .mv (.t 24), none, [5]⟩, ⟨(some 26), .fld 1 (.t 1), (some (25, false)), [6]⟩, ⟨(some 27), .load none (.t 26), (some (25, false)), [7, 6]⟩, ⟨(some 28), .mv (.t 3), (some (25, false)), [6]⟩, ⟨(some 29), .ixs 1 (.t 27) (.t 28), (some (25, false)), [8, 9, 6]⟩, ⟨(some 30), .load none (.t 29), (some (25, false)), [10, 6]⟩, ⟨(some 31), .mv (.t 3), (some (25, false)), [6]⟩, ⟨(some 32), .bin .geq (.t 30) (.t 31), (some (25, false)), [11, 12, 6]⟩, ⟨(some 33), .pick (.t 25) (.v (.bool true)) (.t 32), none, [6, 13]⟩, ⟨(some 34), .mv (.t 33), none, [14, 6]⟩, ⟨(some 35), .fld 0 (.t 1), (some (34, false)), [15]⟩, ⟨(some 36), .load none (.t 35), (some (34, false)), [16, 15]⟩, ⟨(some 37), .mv (.t 3), (some (34, false)), [15]⟩, ⟨(some 38), .ixs 2 (.t 36) (.t 37), (some (34, false)), [17, 18, 15]⟩, ⟨(some 39), .fld 0 (.t 38), (some (34, false)), [19, 15]⟩, ⟨(some 40), .load none (.t 39), (some (34, false)), [20, 15]⟩, ⟨(some 41), .bin .lss (.t 40) (.v (.int .i64 0)), (some (34, false)), [21, 15]⟩, ⟨(some 42), .pick (.t 34) (.v (.bool true)) (.t 41), none, [15, 22]⟩, ⟨(some 43), .mv (.t 42), none, [23, 15]⟩, ⟨(some 44), .fld 0 (.t 1), (some (43, false)), [24]⟩, ⟨(some 45), .load none (.t 44), (some (43, false)), [25, 24]⟩, ⟨(some 46), .mv (.t 3), (some (43, false)), [24]⟩, ⟨(some 47), .ixs 2 (.t 45) (.t 46), (some (43, false)), [26, 27, 24]⟩, ⟨(some 48), .fld 1 (.t 47), (some (43, false)), [28, 24]⟩, ⟨(some 49), .load none (.t 48), (some (43, false)), [29, 24]⟩, ⟨(some 50), .bin .lss (.t 49) (.v (.int .i64 0)), (some (43, false)), [30, 24]⟩, ⟨(some 51), .pick (.t 43) (.v (.bool true)) (.t 50), none, [24, 31]⟩]) (.cond (.t 51) (.seq (.reg false [⟨(some 2), .mv (.v (.bool false)), none, []⟩]) (.ret)) (.skip))) (.seq (.reg false [⟨(some 4), .mv (.v (.int .i64 0)), none, []⟩]) (.block 2 (.loop (.seq (.seq (.reg false [⟨(some 52), .mv (.t 4), none, []⟩, ⟨(some 53), .mv (.t 3), none, []⟩, ⟨(some 54), .bin .lss (.t 52) (.t 53), none, [0, 1]⟩]) (.cond (.t 54) (.skip) (.exit 2))) (.seq (.block 3 (.seq (.reg true [⟨(some 57), .fld 0 (.t 1), none, []⟩, ⟨(some 58), .load none (.t 57), none, [0]⟩, ⟨(some 59), .mv (.t 4), none, []⟩, ⟨(some 60), .ixs 2 (.t 58) (.t 59), none, [1, 2]⟩, ⟨(some 61), .load (some 2) (.t 60), none, [3]⟩, ⟨(some 62), .fld 0 (.t 1), none, []⟩, ⟨(some 63), .load none (.t 62), none, [5]⟩, ⟨(some 64), .mv (.t 3), none, []⟩, ⟨(some 65), .ixs 2 (.t 63) (.t 64), none, [6, 7]⟩, ⟨(some 66), .load (some 2) (.t 65), none, [8]⟩, ⟨(some 67), .eqs false [false, false] (.t 61) (.t 66), none, [4, 9]⟩, ⟨(some 68), .mv (.t 67), none, [10]⟩, ⟨(some 69), .fld 1 (.t 1), (some (68, true)), [11]⟩, ⟨(some 70), .load none (.t 69), (some (68, true)), [12, 11]⟩, ⟨(some 71), .mv (.t 4), (some (68, true)), [11]⟩, ⟨(some 72), .ixs 1 (.t 70) (.t 71), (some (68, true)), [13, 14, 11]⟩, ⟨(some 73), .load none (.t 72), (some (68, true)), [15, 11]⟩, ⟨(some 74), .fld 1 (.t 1), (some (68, true)), [11]⟩, ⟨(some 75), .load none (.t 74), (some (68, true)), [17, 11]⟩, ⟨(some 76), .mv (.t 3), (some (68, true)), [11]⟩, ⟨(some 77), .ixs 1 (.t 75) (.t 76), (some (68, true)), [18, 19, 11]⟩, ⟨(some 78), .load none (.t 77), (some (68, true)), [20, 11]⟩, ⟨(some 79), .bin .eql (.t 73) (.t 78), (some (68, true)), [16, 21, 11]⟩, ⟨(some 80), .pick (.t 68) (.t 79) (.v (.bool false)), none, [11, 22]⟩]) (.cond (.t 80) (.seq (.reg false [⟨(some 2), .mv (.v (.bool false)), none, []⟩]) (.ret)) (.skip)))) (.reg false [⟨(some 55), .mv (.t 4), none, []⟩, ⟨(some 56), .bin .add (.t 55) (.v (.int .i64 1)), none, [0]⟩, ⟨(some 4), .mv (.t 56), none, [1, 0, 1]⟩])))))))) (.reg false [⟨(some 17), .mv (.t 3), none, []⟩, ⟨(some 18), .bin .add (.t 17) (.v (.int .i64 1)), none, [0]⟩, ⟨(some 3), .mv (.t 18), none, [1, 0, 1]⟩])))))) (.seq (.reg false [⟨(some 2), .mv (.v (.bool true)), none, []⟩]) (.ret))))
def pr34 : List PR := [.t 2]
abbrev ms34_0 : List Nat := [12, 13, 14, 15, 16, 19, 20, 21, 22, 23, 24, 25, 26, 27, 28, 29, 30, 31, 32, 33, 34, 35, 36, 37, 38, 39, 40, 41, 42, 43, 44, 45, 46, 47, 48, 49, 50, 51, 2, 4, 52, 53, 54, 57, 58, 59, 60, 61, 62, 63, 64, 65, 66, 67, 68, 69, 70, 71, 72, 73, 74, 75, 76, 77, 78, 79, 80, 55, 56, 17, 18, 3]
abbrev os34_0 : List Nat := []
abbrev ms34_1 : List Nat := [52, 53, 54, 57, 58, 59, 60, 61, 62, 63, 64, 65, 66, 67, 68, 69, 70, 71, 72, 73, 74, 75, 76, 77, 78, 79, 80, 2, 55, 56, 4]
abbrev os34_1 : List Nat := []
theorem bd34:Try.f34.body=some (Try.f34.body.getD .skip):=by kernel_rfl
theorem cp34:bY Try.prog Try.f34.ntmps fJ (Try.f34.body.getD .skip)=some pc34:=by kernel_rfl
theorem sp34 [bT] {env:Env} (hE:aA Try.prog env) {R:List Pa→List Pa→Prop} (hR:∀ ps rs,R ps rs→ps.length≤81∧pwp env pc34 (fun e s=>(e=.normal∨e=.ret)∧s.res pr34=some rs) (St.init ps)):Spec Try.prog 34 R :=
 bX hE bZ bA Try.func34 bd34 cp34 (by kernel_rfl) (by kernel_rfl) (by kernel_rfl) hR
def pc35c0 : PC := .seq (.reg false [⟨(some 108), .fld 4 (.t 1), none, []⟩, ⟨(some 109), .load none (.t 108), none, [0]⟩, ⟨(some 110), .bin .eql (.t 109) (.v (.int .i64 0)), none, [1]⟩, ⟨(some 111), .mv (.t 110), none, [2]⟩, ⟨(some 112), .fld 5 (.t 1), (some (111, true)), [3]⟩, ⟨(some 113), .load none (.t 112), (some (111, true)), [4, 3]⟩, ⟨(some 114), .bin .eql (.t 113) (.v (.int .i64 0)), (some (111, true)), [5, 3]⟩, ⟨(some 115), .pick (.t 111) (.t 114) (.v (.bool false)), none, [3, 6]⟩, ⟨(some 2), .mv (.t 115), none, [7, 3, 0, 1, 2, 3, 4, 5, 6, 7]⟩]) (.ret)
def pc35c1 : PC := .seq (.reg false [⟨(some 56), .fld 2 (.t 1), none, []⟩, ⟨(some 57), .load none (.t 56), none, [0]⟩, ⟨(some 58), .bin .eql (.t 57) (.v (.int .i64 0)), none, [1]⟩, ⟨(some 59), .mv (.t 58), none, [2]⟩, ⟨(some 60), .fld 3 (.t 1), (some (59, true)), [3]⟩, ⟨(some 61), .load none (.t 60), (some (59, true)), [4, 3]⟩, ⟨(some 62), .bin .eql (.t 61) (.v (.int .i64 0)), (some (59, true)), [5, 3]⟩, ⟨(some 63), .pick (.t 59) (.t 62) (.v (.bool false)), none, [3, 6]⟩, ⟨(some 64), .mv (.t 63), none, [7, 3]⟩, ⟨(some 65), .fld 5 (.t 1), (some (64, true)), [8]⟩, ⟨(some 66), .load none (.t 65), (some (64, true)), [9, 8]⟩, ⟨(some 67), .bin .eql (.t 66) (.v (.int .i64 0)), (some (64, true)), [10, 8]⟩, ⟨(some 68), .pick (.t 64) (.t 67) (.v (.bool false)), none, [8, 11]⟩, ⟨(some 69), .mv (.t 68), none, [12, 8]⟩, ⟨(some 70), .fld 4 (.t 1), (some (69, true)), [13]⟩, ⟨(some 71), .load none (.t 70), (some (69, true)), [14, 13]⟩, ⟨(some 72), .bin .gtr (.t 71) (.v (.int .i64 0)), (some (69, true)), [15, 13]⟩, ⟨(some 73), .pick (.t 69) (.t 72) (.v (.bool false)), none, [13, 16]⟩, ⟨(some 74), .mv (.t 73), none, [17, 13]⟩, ⟨(some 75), .fld 4 (.t 1), (some (74, true)), [18]⟩, ⟨(some 76), .load none (.t 75), (some (74, true)), [19, 18]⟩, ⟨(some 77), .bin .lss (.t 76) (.v (.int .i64 8)), (some (74, true)), [20, 18]⟩, ⟨(some 78), .pick (.t 74) (.t 77) (.v (.bool false)), none, [18, 21]⟩, ⟨(some 2), .mv (.t 78), none, [22, 18, 0, 1, 2, 3, 4, 5, 6, 7, 8, 9, 10, 11, 12, 13, 14, 15, 16, 17, 18, 19, 20, 21, 22]⟩]) (.ret)
def pc35c2 : PC := .seq (.reg false [⟨(some 84), .fld 3 (.t 1), none, []⟩, ⟨(some 85), .load none (.t 84), none, [0]⟩, ⟨(some 86), .bin .eql (.t 85) (.v (.int .i64 0)), none, [1]⟩, ⟨(some 87), .mv (.t 86), none, [2]⟩, ⟨(some 88), .fld 5 (.t 1), (some (87, true)), [3]⟩, ⟨(some 89), .load none (.t 88), (some (87, true)), [4, 3]⟩, ⟨(some 90), .bin .leq (.t 89) (.v (.int .i64 64)), (some (87, true)), [5, 3]⟩, ⟨(some 91), .pick (.t 87) (.t 90) (.v (.bool false)), none, [3, 6]⟩, ⟨(some 2), .mv (.t 91), none, [7, 3, 0, 1, 2, 3, 4, 5, 6, 7]⟩]) (.ret)
def pc35c3 : PC := .seq (.reg false [⟨(some 95), .fld 3 (.t 1), none, []⟩, ⟨(some 96), .load none (.t 95), none, [0]⟩, ⟨(some 97), .bin .eql (.t 96) (.v (.int .i64 0)), none, [1]⟩, ⟨(some 98), .mv (.t 97), none, [2]⟩, ⟨(some 99), .fld 4 (.t 1), (some (98, true)), [3]⟩, ⟨(some 100), .load none (.t 99), (some (98, true)), [4, 3]⟩, ⟨(some 101), .bin .eql (.t 100) (.v (.int .i64 0)), (some (98, true)), [5, 3]⟩, ⟨(some 102), .pick (.t 98) (.t 101) (.v (.bool false)), none, [3, 6]⟩, ⟨(some 103), .mv (.t 102), none, [7, 3]⟩, ⟨(some 104), .fld 5 (.t 1), (some (103, true)), [8]⟩, ⟨(some 105), .load none (.t 104), (some (103, true)), [9, 8]⟩, ⟨(some 106), .bin .leq (.t 105) (.v (.int .i64 64)), (some (103, true)), [10, 8]⟩, ⟨(some 107), .pick (.t 103) (.t 106) (.v (.bool false)), none, [8, 11]⟩, ⟨(some 2), .mv (.t 107), none, [12, 8, 0, 1, 2, 3, 4, 5, 6, 7, 8, 9, 10, 11, 12]⟩]) (.ret)
def pc35c4 : PC := .seq (.seq (.reg false [⟨(some 93), .bin .eql (.t 53) (.v (.int .i64 19)), none, []⟩, ⟨(some 92), .mv (.t 93), none, [0]⟩]) (.cond (.t 92) (.skip) (.reg false [⟨(some 94), .bin .eql (.t 53) (.v (.int .i64 20)), none, []⟩, ⟨(some 92), .mv (.t 94), none, [0]⟩]))) (.cond (.t 92) (pc35c3) (.skip))
def pc35c5 : PC := .seq (.seq (.reg false [⟨(some 80), .bin .eql (.t 53) (.v (.int .i64 15)), none, []⟩, ⟨(some 79), .mv (.t 80), none, [0]⟩]) (.cond (.t 79) (.skip) (.seq (.reg false [⟨(some 81), .bin .eql (.t 53) (.v (.int .i64 16)), none, []⟩, ⟨(some 79), .mv (.t 81), none, [0]⟩]) (.cond (.t 79) (.skip) (.seq (.reg false [⟨(some 82), .bin .eql (.t 53) (.v (.int .i64 17)), none, []⟩, ⟨(some 79), .mv (.t 82), none, [0]⟩]) (.cond (.t 79) (.skip) (.reg false [⟨(some 83), .bin .eql (.t 53) (.v (.int .i64 18)), none, []⟩, ⟨(some 79), .mv (.t 83), none, [0]⟩]))))))) (.cond (.t 79) (pc35c2) (pc35c4))
def pc35c6 : PC := .seq (.reg false [⟨(some 52), .fld 1 (.t 1), none, []⟩, ⟨(some 53), .load none (.t 52), none, [0]⟩]) (.block 2 (.seq (.reg false [⟨(some 55), .bin .eql (.t 53) (.v (.int .i64 14)), none, []⟩, ⟨(some 54), .mv (.t 55), none, [0]⟩]) (.cond (.t 54) (pc35c1) (pc35c5))))
def pc35c7 : PC := .seq (pc35c6) (pc35c0)
def pc35c8 : PC := .seq (.seq (.reg false [⟨(some 4), .mv (.v (.int .i64 0)), none, []⟩]) (.block 0 (.loop (.seq (.seq (.reg false [⟨(some 34), .mv (.t 4), none, []⟩, ⟨(some 35), .mv (.t 3), none, []⟩, ⟨(some 36), .len (.t 35), none, [1]⟩, ⟨(some 37), .bin .lss (.t 34) (.t 36), none, [0, 2]⟩]) (.cond (.t 37) (.skip) (.exit 0))) (.seq (.block 1 (.seq (.reg false [⟨(some 40), .mv (.t 3), none, []⟩, ⟨(some 41), .mv (.t 4), none, []⟩, ⟨(some 42), .ixs 1 (.t 40) (.t 41), none, [0, 1]⟩, ⟨(some 43), .load none (.t 42), none, [2]⟩, ⟨(some 44), .bin .lss (.t 43) (.v (.int .i64 0)), none, [3]⟩, ⟨(some 45), .mv (.t 44), none, [4]⟩, ⟨(some 46), .mv (.t 3), (some (45, false)), [5]⟩, ⟨(some 47), .mv (.t 4), (some (45, false)), [5]⟩, ⟨(some 48), .ixs 1 (.t 46) (.t 47), (some (45, false)), [6, 7, 5]⟩, ⟨(some 49), .load none (.t 48), (some (45, false)), [8, 5]⟩, ⟨(some 50), .bin .gtr (.t 49) (.v (.int .i64 2147483647)), (some (45, false)), [9, 5]⟩, ⟨(some 51), .pick (.t 45) (.v (.bool true)) (.t 50), none, [5, 10]⟩]) (.cond (.t 51) (.seq (.reg false [⟨(some 2), .mv (.v (.bool false)), none, []⟩]) (.ret)) (.skip)))) (.reg false [⟨(some 38), .mv (.t 4), none, []⟩, ⟨(some 39), .bin .add (.t 38) (.v (.int .i64 1)), none, [0]⟩, ⟨(some 4), .mv (.t 39), none, [1, 0, 1]⟩])))))) (pc35c7)
def pc35c9 : PC := .seq (.reg false [⟨(some 19), .fld 2 (.t 1), none, []⟩, ⟨(some 20), .load none (.t 19), none, [0]⟩, ⟨(some 21), .fld 3 (.t 1), none, []⟩, ⟨(some 22), .load none (.t 21), none, [2]⟩, ⟨(some 23), .fld 4 (.t 1), none, []⟩, ⟨(some 24), .load none (.t 23), none, [4]⟩, ⟨(some 25), .fld 5 (.t 1), none, []⟩, ⟨(some 26), .load none (.t 25), none, [6]⟩, ⟨(some 27), .fld 6 (.t 1), none, []⟩, ⟨(some 28), .load none (.t 27), none, [8]⟩, ⟨(some 29), .fld 7 (.t 1), none, []⟩, ⟨(some 30), .load none (.t 29), none, [10]⟩, ⟨(some 31), .fld 8 (.t 1), none, []⟩, ⟨(some 32), .load none (.t 31), none, [12]⟩, ⟨(some 33), .bslice 3 1 [(.int .i64 0), (.int .i64 0), (.int .i64 0), (.int .i64 0), (.int .i64 0), (.int .i64 0), (.int .i64 0)] 7 [(0, 1, (.t 20)), (1, 1, (.t 22)), (2, 1, (.t 24)), (3, 1, (.t 26)), (4, 1, (.t 28)), (5, 1, (.t 30)), (6, 1, (.t 32))], none, [1, 3, 5, 7, 9, 11, 13]⟩, ⟨(some 3), .mv (.t 33), none, [14, 0, 1, 2, 3, 4, 5, 6, 7, 8, 9, 10, 11, 12, 13, 14]⟩]) (pc35c8)
def pc35 : PC := .seq (.reg false [⟨(some 1), .box (.t 0), none, []⟩, ⟨(some 2), .mv (.v (.bool false)), none, []⟩]) (.seq (.seq (.reg false [⟨(some 5), .fld 0 (.t 1), none, []⟩, ⟨(some 6), .load none (.t 5), none, [0]⟩, ⟨(some 7), .bin .lss (.t 6) (.v (.int .i64 0)), none, [1]⟩, ⟨(some 8), .mv (.t 7), none, [2]⟩, ⟨(some 9), .fld 0 (.t 1), (some (8, false)), [3]⟩, ⟨(some 10), .load none (.t 9), (some (8, false)), [4, 3]⟩, ⟨(some 11), .bin .geq (.t 10) (.v (.int .i64 8)), (some (8, false)), [5, 3]⟩, ⟨(some 12), .pick (.t 8) (.v (.bool true)) (.t 11), none, [3, 6]⟩, ⟨(some 13), .mv (.t 12), none, [7, 3]⟩, ⟨(some 14), .fld 1 (.t 1), (some (13, false)), [8]⟩, ⟨(some 15), .load none (.t 14), (some (13, false)), [9, 8]⟩, ⟨(some 16), .call 54 [(.t 15)], (some (13, false)), [10, 8, 8]⟩, ⟨(some 17), .bin .eql (.t 16) (.v (.string ⟨#[]⟩)), (some (13, false)), [11, 8]⟩, ⟨(some 18), .pick (.t 13) (.v (.bool true)) (.t 17), none, [8, 12]⟩]) (.cond (.t 18) (.seq (.reg false [⟨(some 2), .mv (.v (.bool false)), none, []⟩]) (.ret)) (.skip))) (pc35c9))
def pr35 : List PR := [.t 2]
abbrev ms35_0 : List Nat := [34, 35, 36, 37, 40, 41, 42, 43, 44, 45, 46, 47, 48, 49, 50, 51, 2, 38, 39, 4]
abbrev os35_0 : List Nat := []
theorem bd35:Try.f35.body=some (Try.f35.body.getD .skip):=by kernel_rfl
theorem cp35:bY Try.prog Try.f35.ntmps fJ (Try.f35.body.getD .skip)=some pc35:=by kernel_rfl
theorem sp35 [bT] {env:Env} (hE:aA Try.prog env) {R:List Pa→List Pa→Prop} (hR:∀ ps rs,R ps rs→ps.length≤116∧pwp env pc35 (fun e s=>(e=.normal∨e=.ret)∧s.res pr35=some rs) (St.init ps)):Spec Try.prog 35 R :=
 bX hE bZ bA Try.func35 bd35 cp35 (by kernel_rfl) (by kernel_rfl) (by kernel_rfl) hR
def pc54 : PC := .seq (.reg false [⟨(some 2), .mv (.v (.string ⟨#[]⟩)), none, []⟩]) (.seq (.reg false [⟨(some 4), .bslice 9 1 [(.string ⟨#[]⟩), (.string ⟨#[]⟩), (.string ⟨#[]⟩), (.string ⟨#[]⟩), (.string ⟨#[]⟩), (.string ⟨#[]⟩), (.string ⟨#[]⟩), (.string ⟨#[]⟩), (.string ⟨#[]⟩), (.string ⟨#[]⟩), (.string ⟨#[]⟩), (.string ⟨#[]⟩), (.string ⟨#[]⟩), (.string ⟨#[]⟩), (.string ⟨#[]⟩), (.string ⟨#[]⟩), (.string ⟨#[]⟩), (.string ⟨#[]⟩), (.string ⟨#[]⟩), (.string ⟨#[]⟩), (.string ⟨#[]⟩)] 21 [(0, 1, (.v (.string ⟨#[]⟩))), (1, 1, (.v (.string ⟨#[114, 101, 97, 100]⟩))), (2, 1, (.v (.string ⟨#[119, 114, 105, 116, 101]⟩))), (3, 1, (.v (.string ⟨#[97, 116, 111, 109, 105, 99, 45, 114, 101, 97, 100]⟩))), (4, 1, (.v (.string ⟨#[97, 116, 111, 109, 105, 99, 45, 119, 114, 105, 116, 101]⟩))), (5, 1, (.v (.string ⟨#[97, 116, 111, 109, 105, 99, 45, 98, 111, 116, 104]⟩))), (6, 1, (.v (.string ⟨#[108, 111, 99, 107]⟩))), (7, 1, (.v (.string ⟨#[117, 110, 108, 111, 99, 107]⟩))), (8, 1, (.v (.string ⟨#[114, 108, 111, 99, 107]⟩))), (9, 1, (.v (.string ⟨#[114, 117, 110, 108, 111, 99, 107]⟩))), (10, 1, (.v (.string ⟨#[100, 111, 110, 101]⟩))), (11, 1, (.v (.string ⟨#[119, 97, 105, 116]⟩))), (12, 1, (.v (.string ⟨#[111, 110, 99, 101, 45, 101, 110, 100]⟩))), (13, 1, (.v (.string ⟨#[111, 110, 99, 101, 45, 115, 101, 101, 110]⟩))), (14, 1, (.v (.string ⟨#[103, 111]⟩))), (15, 1, (.v (.string ⟨#[115, 101, 110, 100, 45, 115, 116, 97, 114, 116]⟩))), (16, 1, (.v (.string ⟨#[115, 101, 110, 100, 45, 101, 110, 100]⟩))), (17, 1, (.v (.string ⟨#[114, 101, 99, 118, 45, 115, 116, 97, 114, 116]⟩))), (18, 1, (.v (.string ⟨#[114, 101, 99, 118, 45, 101, 110, 100]⟩))), (19, 1, (.v (.string ⟨#[99, 108, 111, 115, 101]⟩))), (20, 1, (.v (.string ⟨#[114, 101, 99, 118, 45, 99, 108, 111, 115, 101, 100]⟩)))], none, []⟩, ⟨(some 3), .mv (.t 4), none, [0, 0]⟩]) (.seq (.seq (.reg false [⟨(some 5), .mv (.t 0), none, []⟩, ⟨(some 6), .bin .lss (.t 5) (.v (.int .i64 1)), none, [0]⟩, ⟨(some 7), .mv (.t 6), none, [1]⟩, ⟨(some 8), .mv (.t 0), (some (7, false)), [2]⟩, ⟨(some 9), .bin .gtr (.t 8) (.v (.int .i64 20)), (some (7, false)), [3, 2]⟩, ⟨(some 10), .pick (.t 7) (.v (.bool true)) (.t 9), none, [2, 4]⟩]) (.cond (.t 10) (.seq (.reg false [⟨(some 2), .mv (.v (.string ⟨#[]⟩)), none, []⟩]) (.ret)) (.skip))) (.seq (.reg false [⟨(some 11), .mv (.t 3), none, []⟩, ⟨(some 12), .mv (.t 0), none, []⟩, ⟨(some 13), .ixs 1 (.t 11) (.t 12), none, [0, 1]⟩, ⟨(some 14), .load none (.t 13), none, [2]⟩, ⟨(some 2), .mv (.t 14), none, [3, 0, 1, 2, 3]⟩]) (.ret))))
def pr54 : List PR := [.t 2]
theorem bd54:Try.f54.body=some (Try.f54.body.getD .skip):=by kernel_rfl
theorem cp54:bY Try.prog Try.f54.ntmps fJ (Try.f54.body.getD .skip)=some pc54:=by kernel_rfl
theorem sp54 [bT] {env:Env} (hE:aA Try.prog env) {R:List Pa→List Pa→Prop} (hR:∀ ps rs,R ps rs→ps.length≤15∧pwp env pc54 (fun e s=>(e=.normal∨e=.ret)∧s.res pr54=some rs) (St.init ps)):Spec Try.prog 54 R :=
 bX hE bZ bA Try.func54 bd54 cp54 (by kernel_rfl) (by kernel_rfl) (by kernel_rfl) hR
def pc10 : PC := .seq (.reg false [⟨(some 0), .mv (.v (.bool false)), none, []⟩]) (.seq (.reg false [⟨(some 7), .build [(.slice none 0 0), (.slice none 0 0), (.slice none 0 0)] [], none, []⟩, ⟨(some 8), .call 12 [(.t 7)], none, [0]⟩, ⟨(some 6), .mv (.t 8), none, [1]⟩, ⟨(some 9), .ext (.t 6) 0, none, [2]⟩, ⟨(some 10), .ext (.t 6) 1, none, [2]⟩, ⟨(some 1), .mv (.t 9), none, [3, 1, 0, 1, 2, 3]⟩, ⟨(some 2), .mv (.t 10), none, [4, 5, 0, 1, 2, 3, 4, 5]⟩]) (.seq (.reg false [⟨(some 11), .build [(.int .i64 0), (.int .i64 0), (.int .i64 0), (.int .i64 0), (.int .i64 0), (.int .i64 0), (.int .i64 0), (.int .i64 0), (.int .i64 0)] [(1, 1, (.v (.int .i64 1)))], none, []⟩, ⟨(some 12), .bslice 42 9 [(.int .i64 0), (.int .i64 0), (.int .i64 0), (.int .i64 0), (.int .i64 0), (.int .i64 0), (.int .i64 0), (.int .i64 0), (.int .i64 0)] 1 [(0, 9, (.t 11))], none, [0]⟩, ⟨(some 13), .build [(.int .i64 0), (.int .i64 0)] [], none, []⟩, ⟨(some 14), .bslice 50 2 [(.int .i64 0), (.int .i64 0)] 1 [(0, 2, (.t 13))], none, [2]⟩, ⟨(some 15), .bslice 3 1 [(.int .i64 0)] 1 [(0, 1, (.v (.int .i64 (-1))))], none, []⟩, ⟨(some 16), .build [(.slice none 0 0), (.slice none 0 0)] [(0, 1, (.t 14)), (1, 1, (.t 15))], none, [3, 4]⟩, ⟨(some 17), .build [(.slice none 0 0), (.slice none 0 0), (.slice none 0 0)] [(0, 1, (.t 12)), (1, 2, (.t 16))], none, [1, 5]⟩, ⟨(some 3), .new [(.slice none 0 0), (.slice none 0 0), (.slice none 0 0)], none, []⟩, ⟨none, .store 3 (.t 3) (.t 17), none, [7, 6, 0, 1, 2, 3, 4, 5, 6, 7]⟩]) (.seq (.reg false [⟨(some 19), .load (some 3) (.t 3), none, []⟩, ⟨(some 20), .call 12 [(.t 19)], none, [0]⟩, ⟨(some 18), .mv (.t 20), none, [1]⟩, ⟨(some 21), .ext (.t 18) 0, none, [2]⟩, ⟨(some 22), .ext (.t 18) 1, none, [2]⟩, ⟨(some 4), .mv (.t 21), none, [3, 1, 0, 1, 2, 3]⟩, ⟨(some 5), .mv (.t 22), none, [4, 5, 0, 1, 2, 3, 4, 5]⟩]) (.seq (.reg false [⟨(some 23), .mv (.t 2), none, []⟩, ⟨(some 24), .bin .eql (.t 23) (.v (.int .i64 0)), none, [0]⟩, ⟨(some 25), .mv (.t 24), none, [1]⟩, ⟨(some 26), .mv (.t 1), (some (25, true)), [2]⟩, ⟨(some 27), .len (.t 26), (some (25, true)), [3, 2]⟩, ⟨(some 28), .bin .eql (.t 27) (.v (.int .i64 16)), (some (25, true)), [4, 2]⟩, ⟨(some 29), .pick (.t 25) (.t 28) (.v (.bool false)), none, [2, 5]⟩, ⟨(some 30), .mv (.t 29), none, [6, 2]⟩, ⟨(some 31), .mv (.t 1), (some (30, true)), [7]⟩, ⟨(some 32), .slc 1 (.t 31) none (some (.v (.int .i64 12))), (some (30, true)), [8, 7]⟩, ⟨(some 33), .bstr (.t 32), (some (30, true)), [9, 7]⟩, ⟨(some 34), .bin .eql (.t 33) (.v (.string ⟨#[73, 84, 82, 65, 67, 69, 49, 10, 69, 2, 0, 0]⟩)), (some (30, true)), [10, 7]⟩, ⟨(some 35), .pick (.t 30) (.t 34) (.v (.bool false)), none, [7, 11]⟩, ⟨(some 36), .mv (.t 35), none, [12, 7]⟩, ⟨(some 37), .mv (.t 5), (some (36, true)), [13]⟩, ⟨(some 38), .bin .eql (.t 37) (.v (.int .i64 0)), (some (36, true)), [14, 13]⟩, ⟨(some 39), .pick (.t 36) (.t 38) (.v (.bool false)), none, [13, 15]⟩, ⟨(some 40), .mv (.t 39), none, [16, 13]⟩, ⟨(some 41), .mv (.t 4), (some (40, true)), [17]⟩, ⟨(some 42), .len (.t 41), (some (40, true)), [18, 17]⟩, ⟨(some 43), .bin .gtr (.t 42) (.v (.int .i64 24)), (some (40, true)), [19, 17]⟩, ⟨(some 44), .pick (.t 40) (.t 43) (.v (.bool false)), none, [17, 20]⟩, ⟨(some 45), .mv (.t 44), none, [21, 17]⟩, ⟨(some 46), .mv (.t 4), (some (45, true)), [22]⟩, ⟨(some 47), .slc 1 (.t 46) (some (.v (.int .i64 8))) (some (.v (.int .i64 24))), (some (45, true)), [23, 22]⟩, ⟨(some 48), .bstr (.t 47), (some (45, true)), [24, 22]⟩, ⟨(some 49), .bin .eql (.t 48) (.v (.string ⟨#[66, 14, 1, 0, 0, 0, 1, 0, 2, 0, 0, 0, 0, 0, 0, 0]⟩)), (some (45, true)), [25, 22]⟩, ⟨(some 50), .pick (.t 45) (.t 49) (.v (.bool false)), none, [22, 26]⟩, ⟨(some 0), .mv (.t 50), none, [27, 22, 0, 1, 2, 3, 4, 5, 6, 7, 8, 9, 10, 11, 12, 13, 14, 15, 16, 17, 18, 19, 20, 21, 22, 23, 24, 25, 26, 27]⟩]) (.ret)))))
def pr10 : List PR := [.t 0]
theorem bd10:Try.f10.body=some (Try.f10.body.getD .skip):=by kernel_rfl
theorem cp10:bY Try.prog Try.f10.ntmps fJ (Try.f10.body.getD .skip)=some pc10:=by kernel_rfl
theorem sp10 [bT] {env:Env} (hE:aA Try.prog env) {R:List Pa→List Pa→Prop} (hR:∀ ps rs,R ps rs→ps.length≤51∧pwp env pc10 (fun e s=>(e=.normal∨e=.ret)∧s.res pr10=some rs) (St.init ps)):Spec Try.prog 10 R :=
 bX hE bZ bA Try.func10 bd10 cp10 (by kernel_rfl) (by kernel_rfl) (by kernel_rfl) hR
def pc11 : PC := .seq (.reg false [⟨(some 1), .box (.t 0), none, []⟩, ⟨(some 2), .mv (.v (.bool false)), none, []⟩]) (.seq (.reg false [⟨(some 3), .fld 0 (.t 1), none, []⟩, ⟨(some 4), .load none (.t 3), none, [0]⟩, ⟨(some 5), .len (.t 4), none, [1]⟩, ⟨(some 6), .bin .gtr (.t 5) (.v (.int .i64 80)), none, [2]⟩, ⟨(some 7), .mv (.t 6), none, [3]⟩, ⟨(some 8), .fld 1 (.t 1), (some (7, false)), [4]⟩, ⟨(some 9), .fld 0 (.t 8), (some (7, false)), [5, 4]⟩, ⟨(some 10), .load none (.t 9), (some (7, false)), [6, 4]⟩, ⟨(some 11), .len (.t 10), (some (7, false)), [7, 4]⟩, ⟨(some 12), .bin .gtr (.t 11) (.v (.int .i64 60)), (some (7, false)), [8, 4]⟩, ⟨(some 13), .pick (.t 7) (.v (.bool true)) (.t 12), none, [4, 9]⟩, ⟨(some 14), .mv (.t 13), none, [10, 4]⟩, ⟨(some 15), .fld 1 (.t 1), (some (14, false)), [11]⟩, ⟨(some 16), .fld 1 (.t 15), (some (14, false)), [12, 11]⟩, ⟨(some 17), .load none (.t 16), (some (14, false)), [13, 11]⟩, ⟨(some 18), .len (.t 17), (some (14, false)), [14, 11]⟩, ⟨(some 19), .bin .gtr (.t 18) (.v (.int .i64 60)), (some (14, false)), [15, 11]⟩, ⟨(some 20), .pick (.t 14) (.v (.bool true)) (.t 19), none, [11, 16]⟩, ⟨(some 2), .mv (.t 20), none, [17, 11, 0, 1, 2, 3, 4, 5, 6, 7, 8, 9, 10, 11, 12, 13, 14, 15, 16, 17]⟩]) (.ret))
def pr11 : List PR := [.t 2]
theorem bd11:Try.f11.body=some (Try.f11.body.getD .skip):=by kernel_rfl
theorem cp11:bY Try.prog Try.f11.ntmps fJ (Try.f11.body.getD .skip)=some pc11:=by kernel_rfl
theorem sp11 [bT] {env:Env} (hE:aA Try.prog env) {R:List Pa→List Pa→Prop} (hR:∀ ps rs,R ps rs→ps.length≤21∧pwp env pc11 (fun e s=>(e=.normal∨e=.ret)∧s.res pr11=some rs) (St.init ps)):Spec Try.prog 11 R :=
 bX hE bZ bA Try.func11 bd11 cp11 (by kernel_rfl) (by kernel_rfl) (by kernel_rfl) hR
def pc55 : PC := .seq (.reg false [⟨(some 1), .box (.t 0), none, []⟩, ⟨(some 2), .mv (.v (.bool false)), none, []⟩]) (.seq (.reg false [⟨(some 3), .fld 0 (.t 1), none, []⟩, ⟨(some 4), .load none (.t 3), none, [0]⟩, ⟨(some 5), .bin .geq (.t 4) (.v (.int .i64 0)), none, [1]⟩, ⟨(some 6), .mv (.t 5), none, [2]⟩, ⟨(some 7), .fld 1 (.t 1), (some (6, true)), [3]⟩, ⟨(some 8), .load none (.t 7), (some (6, true)), [4, 3]⟩, ⟨(some 9), .bin .geq (.t 8) (.v (.int .i64 0)), (some (6, true)), [5, 3]⟩, ⟨(some 10), .pick (.t 6) (.t 9) (.v (.bool false)), none, [3, 6]⟩, ⟨(some 2), .mv (.t 10), none, [7, 3, 0, 1, 2, 3, 4, 5, 6, 7]⟩]) (.ret))
def pr55 : List PR := [.t 2]
theorem bd55:Try.f55.body=some (Try.f55.body.getD .skip):=by kernel_rfl
theorem cp55:bY Try.prog Try.f55.ntmps fJ (Try.f55.body.getD .skip)=some pc55:=by kernel_rfl
theorem sp55 [bT] {env:Env} (hE:aA Try.prog env) {R:List Pa→List Pa→Prop} (hR:∀ ps rs,R ps rs→ps.length≤11∧pwp env pc55 (fun e s=>(e=.normal∨e=.ret)∧s.res pr55=some rs) (St.init ps)):Spec Try.prog 55 R :=
 bX hE bZ bA Try.func55 bd55 cp55 (by kernel_rfl) (by kernel_rfl) (by kernel_rfl) hR
def pc23 : PC := .seq (.reg false [⟨(some 1), .box (.t 0), none, []⟩, ⟨(some 2), .mv (.v (.bool false)), none, []⟩]) (.seq (.reg false [⟨(some 3), .fld 0 (.t 1), none, []⟩, ⟨(some 4), .load none (.t 3), none, [0]⟩, ⟨(some 5), .bin .leq (.t 4) (.v (.int .i64 2147483647)), none, [1]⟩, ⟨(some 6), .mv (.t 5), none, [2]⟩, ⟨(some 7), .fld 1 (.t 1), (some (6, true)), [3]⟩, ⟨(some 8), .load none (.t 7), (some (6, true)), [4, 3]⟩, ⟨(some 9), .bin .leq (.t 8) (.v (.int .i64 2147483647)), (some (6, true)), [5, 3]⟩, ⟨(some 10), .pick (.t 6) (.t 9) (.v (.bool false)), none, [3, 6]⟩, ⟨(some 2), .mv (.t 10), none, [7, 3, 0, 1, 2, 3, 4, 5, 6, 7]⟩]) (.ret))
def pr23 : List PR := [.t 2]
theorem bd23:Try.f23.body=some (Try.f23.body.getD .skip):=by kernel_rfl
theorem cp23:bY Try.prog Try.f23.ntmps fJ (Try.f23.body.getD .skip)=some pc23:=by kernel_rfl
theorem sp23 [bT] {env:Env} (hE:aA Try.prog env) {R:List Pa→List Pa→Prop} (hR:∀ ps rs,R ps rs→ps.length≤11∧pwp env pc23 (fun e s=>(e=.normal∨e=.ret)∧s.res pr23=some rs) (St.init ps)):Spec Try.prog 23 R :=
 bX hE bZ bA Try.func23 bd23 cp23 (by kernel_rfl) (by kernel_rfl) (by kernel_rfl) hR
def pc27 : PC := .seq (.reg false [⟨(some 4), .mv (.v (.int .i64 0)), none, []⟩]) (.seq (.seq (.reg false [⟨(some 7), .mv (.t 1), none, []⟩, ⟨(some 8), .len (.t 7), none, [0]⟩, ⟨(some 9), .mv (.v (.int .i64 0)), none, []⟩]) (.block 0 (.loop (.seq (.reg false [⟨(some 10), .bin .lss (.t 9) (.t 8), none, []⟩]) (.seq (.cond (.t 10) (.skip) (.exit 0)) (.seq (.block 1 (.seq (.reg false [⟨(some 11), .ixs 9 (.t 7) (.t 9), none, []⟩, ⟨(some 12), .load (some 9) (.t 11), none, [0]⟩, ⟨(some 6), .new [(.int .i64 0), (.int .i64 0), (.int .i64 0), (.int .i64 0), (.int .i64 0), (.int .i64 0), (.int .i64 0), (.int .i64 0), (.int .i64 0)], none, []⟩, ⟨none, .store 9 (.t 6) (.t 12), none, [2, 1, 0, 1, 2]⟩]) (.reg false [⟨(some 13), .mv (.t 0), none, []⟩, ⟨(some 14), .fld 8 (.t 6), none, []⟩, ⟨(some 15), .load none (.t 14), none, [1]⟩, ⟨(some 16), .bin .add (.t 15) (.v (.int .i64 1)), none, [2]⟩, ⟨(some 17), .mm true [(.t 13), (.t 16)], none, [0, 3]⟩, ⟨(some 0), .mv (.t 17), none, [4, 0, 1, 2, 3, 4]⟩]))) (.reg false [⟨(some 18), .bin .add (.t 9) (.v (.int .i64 1)), none, []⟩, ⟨(some 9), .mv (.t 18), none, [0]⟩]))))))) (.seq (.reg false [⟨(some 19), .mv (.t 0), none, []⟩, ⟨(some 4), .mv (.t 19), none, [0, 0]⟩]) (.ret)))
def pr27 : List PR := [.t 4]
abbrev ms27_0 : List Nat := [10, 11, 12, 6, 13, 14, 15, 16, 17, 0, 18, 9]
abbrev os27_0 : List Nat := [6]
theorem bd27:Try.f27.body=some (Try.f27.body.getD .skip):=by kernel_rfl
theorem cp27:bY Try.prog Try.f27.ntmps fJ (Try.f27.body.getD .skip)=some pc27:=by kernel_rfl
theorem sp27 [bT] {env:Env} (hE:aA Try.prog env) {R:List Pa→List Pa→Prop} (hR:∀ ps rs,R ps rs→ps.length≤20∧pwp env pc27 (fun e s=>(e=.normal∨e=.ret)∧s.res pr27=some rs) (St.init ps)):Spec Try.prog 27 R :=
 bX hE bZ bA Try.func27 bd27 cp27 (by kernel_rfl) (by kernel_rfl) (by kernel_rfl) hR
def pc56 : PC := .seq (.reg false [⟨(some 2), .mv (.v (.int .u32 0)), none, []⟩]) (.seq (.reg false [⟨(some 3), .mv (.v (.int .u32 4294967295)), none, []⟩]) (.seq (.seq (.reg false [⟨(some 7), .mv (.t 0), none, []⟩, ⟨(some 8), .len (.t 7), none, [0]⟩, ⟨(some 9), .mv (.v (.int .i64 0)), none, []⟩]) (.block 0 (.loop (.seq (.reg false [⟨(some 10), .bin .lss (.t 9) (.t 8), none, []⟩]) (.seq (.cond (.t 10) (.skip) (.exit 0)) (.seq (.block 1 (.seq (.reg false [⟨(some 11), .ixs 1 (.t 7) (.t 9), none, []⟩, ⟨(some 12), .load none (.t 11), none, [0]⟩, ⟨(some 5), .mv (.t 12), none, [1, 0, 1]⟩]) (.seq (.reg false [⟨(some 13), .mv (.t 3), none, []⟩, ⟨(some 14), .mv (.t 5), none, []⟩, ⟨(some 15), .conv .u32 (.t 14), none, [1]⟩, ⟨(some 16), .bin .xor (.t 13) (.t 15), none, [0, 2]⟩, ⟨(some 3), .mv (.t 16), none, [3, 0, 1, 2, 3]⟩]) (.seq (.reg false [⟨(some 17), .mv (.v (.int .i64 0)), none, []⟩]) (.block 2 (.loop (.seq (.reg false [⟨(some 18), .bin .lss (.t 17) (.v (.int .i64 8)), none, []⟩]) (.seq (.cond (.t 18) (.skip) (.exit 2)) (.seq (.block 3 (.seq (.reg false [⟨(some 19), .mv (.t 3), none, []⟩, ⟨(some 20), .bin .and (.t 19) (.v (.int .u32 1)), none, [0]⟩, ⟨(some 6), .mv (.t 20), none, [1, 0, 1]⟩]) (.seq (.reg false [⟨(some 21), .mv (.t 3), none, []⟩, ⟨(some 22), .bin .shr (.t 21) (.v (.int .u64 1)), none, [0]⟩, ⟨(some 3), .mv (.t 22), none, [1, 0, 1]⟩]) (.seq (.reg false [⟨(some 23), .mv (.t 6), none, []⟩, ⟨(some 24), .bin .eql (.t 23) (.v (.int .u32 1)), none, [0]⟩]) (.cond (.t 24) (.reg false [⟨(some 25), .mv (.t 3), none, []⟩, ⟨(some 26), .bin .xor (.t 25) (.v (.int .u32 3988292384)), none, [0]⟩, ⟨(some 3), .mv (.t 26), none, [1, 0, 1]⟩]) (.skip)))))) (.reg false [⟨(some 27), .bin .add (.t 17) (.v (.int .i64 1)), none, []⟩, ⟨(some 17), .mv (.t 27), none, [0]⟩])))))))))) (.reg false [⟨(some 28), .bin .add (.t 9) (.v (.int .i64 1)), none, []⟩, ⟨(some 9), .mv (.t 28), none, [0]⟩]))))))) (.seq (.reg false [⟨(some 29), .mv (.t 3), none, []⟩, ⟨(some 30), .un .xor (.t 29), none, [0]⟩, ⟨(some 2), .mv (.t 30), none, [1, 0, 1]⟩]) (.ret))))
def pr56 : List PR := [.t 2]
abbrev ms56_0 : List Nat := [10, 11, 12, 5, 13, 14, 15, 16, 3, 17, 18, 19, 20, 6, 21, 22, 23, 24, 25, 26, 27, 28, 9]
abbrev os56_0 : List Nat := []
abbrev ms56_1 : List Nat := [18, 19, 20, 6, 21, 22, 3, 23, 24, 25, 26, 27, 17]
abbrev os56_1 : List Nat := []
theorem bd56:Try.f56.body=some (Try.f56.body.getD .skip):=by kernel_rfl
theorem cp56:bY Try.prog Try.f56.ntmps fJ (Try.f56.body.getD .skip)=some pc56:=by kernel_rfl
theorem sp56 [bT] {env:Env} (hE:aA Try.prog env) {R:List Pa→List Pa→Prop} (hR:∀ ps rs,R ps rs→ps.length≤31∧pwp env pc56 (fun e s=>(e=.normal∨e=.ret)∧s.res pr56=some rs) (St.init ps)):Spec Try.prog 56 R :=
 bX hE bZ bA Try.func56 bd56 cp56 (by kernel_rfl) (by kernel_rfl) (by kernel_rfl) hR
def pc58 : PC := .seq (.reg false [⟨(some 2), .mv (.v (.int .i64 0)), none, []⟩, ⟨(some 3), .mv (.v (.int .i64 0)), none, [0]⟩]) (.seq (.reg false [⟨(some 4), .mv (.v (.int .i64 0)), none, []⟩]) (.seq (.seq (.reg false [⟨(some 7), .mv (.t 0), none, []⟩, ⟨(some 8), .mv (.t 0), none, []⟩, ⟨(some 9), .len (.t 8), none, [1]⟩, ⟨(some 10), .mm false [(.t 9), (.v (.int .i64 5))], none, [2]⟩, ⟨(some 11), .slc 1 (.t 7) none (some (.t 10)), none, [0, 3]⟩, ⟨(some 12), .len (.t 11), none, [4]⟩, ⟨(some 13), .mv (.v (.int .i64 0)), none, []⟩]) (.block 0 (.loop (.seq (.reg false [⟨(some 14), .bin .lss (.t 13) (.t 12), none, []⟩]) (.seq (.cond (.t 14) (.skip) (.exit 0)) (.seq (.block 1 (.seq (.reg false [⟨(some 15), .mv (.t 13), none, []⟩, ⟨(some 16), .ixs 1 (.t 11) (.t 13), none, []⟩, ⟨(some 17), .load none (.t 16), none, [1]⟩, ⟨(some 5), .mv (.t 15), none, [0, 0, 1, 2]⟩, ⟨(some 6), .mv (.t 17), none, [2, 3, 0, 1, 2, 3]⟩]) (.seq (.reg false [⟨(some 18), .mv (.t 4), none, []⟩, ⟨(some 19), .mv (.t 6), none, []⟩, ⟨(some 20), .bin .and (.t 19) (.v (.int .u8 127)), none, [1]⟩, ⟨(some 21), .conv .i64 (.t 20), none, [2]⟩, ⟨(some 22), .mv (.t 5), none, []⟩, ⟨(some 23), .bin .mul (.v (.int .i64 7)) (.t 22), none, [4]⟩, ⟨(some 24), .bin .shl (.t 21) (.t 23), none, [3, 5]⟩, ⟨(some 25), .bin .add (.t 18) (.t 24), none, [0, 6]⟩, ⟨(some 4), .mv (.t 25), none, [7, 0, 1, 2, 3, 4, 5, 6, 7]⟩]) (.seq (.seq (.reg false [⟨(some 26), .mv (.t 6), none, []⟩, ⟨(some 27), .bin .geq (.t 26) (.v (.int .u8 128)), none, [0]⟩]) (.cond (.t 27) (.exit 1) (.skip))) (.seq (.seq (.reg false [⟨(some 28), .mv (.t 4), none, []⟩, ⟨(some 29), .bin .gtr (.t 28) (.v (.int .i64 4294967295)), none, [0]⟩, ⟨(some 30), .mv (.t 29), none, [1]⟩, ⟨(some 31), .mv (.t 5), (some (30, false)), [2]⟩, ⟨(some 32), .bin .gtr (.t 31) (.v (.int .i64 0)), (some (30, false)), [3, 2]⟩, ⟨(some 33), .mv (.t 32), (some (30, false)), [4, 2, 2]⟩, ⟨(some 34), .mv (.t 6), (some (33, true)), [5]⟩, ⟨(some 35), .bin .eql (.t 34) (.v (.int .u8 0)), (some (33, true)), [6, 5]⟩, ⟨(some 36), .pick (.t 33) (.t 35) (.v (.bool false)), (some (30, false)), [5, 7, 2]⟩, ⟨(some 37), .pick (.t 30) (.v (.bool true)) (.t 36), none, [2, 8]⟩]) (.cond (.t 37) (.exit 0) (.skip))) (.seq (.reg false [⟨(some 38), .mv (.t 4), none, []⟩, ⟨(some 39), .mv (.t 5), none, []⟩, ⟨(some 40), .bin .add (.t 39) (.v (.int .i64 1)), none, [1]⟩, ⟨(some 2), .mv (.t 38), none, [0, 0]⟩, ⟨(some 3), .mv (.t 40), none, [2, 3, 0, 1, 2, 3]⟩]) (.ret))))))) (.reg false [⟨(some 41), .bin .add (.t 13) (.v (.int .i64 1)), none, []⟩, ⟨(some 13), .mv (.t 41), none, [0]⟩]))))))) (.seq (.reg false [⟨(some 2), .mv (.v (.int .i64 0)), none, []⟩, ⟨(some 3), .mv (.v (.int .i64 0)), none, [0, 0]⟩]) (.ret))))
def pr58 : List PR := [.t 2, .t 3]
abbrev ms58_0 : List Nat := [14, 15, 16, 17, 5, 6, 18, 19, 20, 21, 22, 23, 24, 25, 4, 26, 27, 28, 29, 30, 31, 32, 33, 34, 35, 36, 37, 38, 39, 40, 2, 3, 41, 13]
abbrev os58_0 : List Nat := []
theorem bd58:Try.f58.body=some (Try.f58.body.getD .skip):=by kernel_rfl
theorem cp58:bY Try.prog Try.f58.ntmps fJ (Try.f58.body.getD .skip)=some pc58:=by kernel_rfl
theorem sp58 [bT] {env:Env} (hE:aA Try.prog env) {R:List Pa→List Pa→Prop} (hR:∀ ps rs,R ps rs→ps.length≤42∧pwp env pc58 (fun e s=>(e=.normal∨e=.ret)∧s.res pr58=some rs) (St.init ps)):Spec Try.prog 58 R :=
 bX hE bZ bA Try.func58 bd58 cp58 (by kernel_rfl) (by kernel_rfl) (by kernel_rfl) hR
def pc49 : PC := .seq (.reg false [⟨(some 4), .mv (.v (.bool false)), none, []⟩]) (.seq (.reg false [⟨(some 5), .mv (.t 0), none, []⟩, ⟨(some 6), .len (.t 5), none, [0]⟩, ⟨(some 7), .mv (.t 1), none, []⟩, ⟨(some 8), .len (.t 7), none, [2]⟩, ⟨(some 9), .bin .geq (.t 6) (.t 8), none, [1, 3]⟩, ⟨(some 10), .mv (.t 9), none, [4]⟩, ⟨(some 11), .mv (.t 0), (some (10, true)), [5]⟩, ⟨(some 12), .mv (.t 1), (some (10, true)), [5]⟩, ⟨(some 13), .len (.t 12), (some (10, true)), [7, 5]⟩, ⟨(some 14), .slc 1 (.t 11) none (some (.t 13)), (some (10, true)), [6, 8, 5]⟩, ⟨(some 15), .mv (.t 1), (some (10, true)), [5]⟩, ⟨(some 16), .call 57 [(.t 14), (.t 15)], (some (10, true)), [9, 10, 5, 5]⟩, ⟨(some 17), .pick (.t 10) (.t 16) (.v (.bool false)), none, [5, 11]⟩, ⟨(some 4), .mv (.t 17), none, [12, 11, 0, 1, 2, 3, 4, 5, 6, 7, 8, 9, 10, 11, 12]⟩]) (.ret))
def pr49 : List PR := [.t 4]
theorem bd49:Try.f49.body=some (Try.f49.body.getD .skip):=by kernel_rfl
theorem cp49:bY Try.prog Try.f49.ntmps fJ (Try.f49.body.getD .skip)=some pc49:=by kernel_rfl
theorem sp49 [bT] {env:Env} (hE:aA Try.prog env) {R:List Pa→List Pa→Prop} (hR:∀ ps rs,R ps rs→ps.length≤18∧pwp env pc49 (fun e s=>(e=.normal∨e=.ret)∧s.res pr49=some rs) (St.init ps)):Spec Try.prog 49 R :=
 bX hE bZ bA Try.func49 bd49 cp49 (by kernel_rfl) (by kernel_rfl) (by kernel_rfl) hR
def pc57 : PC := .seq (.reg false [⟨(some 4), .mv (.v (.bool false)), none, []⟩]) (.seq (.reg false [⟨(some 5), .mv (.t 0), none, []⟩, ⟨(some 6), .bstr (.t 5), none, [0]⟩, ⟨(some 7), .mv (.t 1), none, []⟩, ⟨(some 8), .bstr (.t 7), none, [2]⟩, ⟨(some 9), .bin .eql (.t 6) (.t 8), none, [1, 3]⟩, ⟨(some 4), .mv (.t 9), none, [4, 0, 1, 2, 3, 4]⟩]) (.ret))
def pr57 : List PR := [.t 4]
theorem bd57:Try.f57.body=some (Try.f57.body.getD .skip):=by kernel_rfl
theorem cp57:bY Try.prog Try.f57.ntmps fJ (Try.f57.body.getD .skip)=some pc57:=by kernel_rfl
theorem sp57 [bT] {env:Env} (hE:aA Try.prog env) {R:List Pa→List Pa→Prop} (hR:∀ ps rs,R ps rs→ps.length≤10∧pwp env pc57 (fun e s=>(e=.normal∨e=.ret)∧s.res pr57=some rs) (St.init ps)):Spec Try.prog 57 R :=
 bX hE bZ bA Try.func57 bd57 cp57 (by kernel_rfl) (by kernel_rfl) (by kernel_rfl) hR
end Go.Proofs.Ytkafcpnahpfbfaa
end
section
namespace Go.Proofs.Ytkafcpnahpfbfaa
open Go Go.RowKit
set_option maxRecDepth 100000
set_option maxHeartbeats 4000000
theorem iU {ms os ms' os':List Nat} {s0 b j:St} (h:Within ms os s0 b) (hm:ms'.all (fun x=>ms.contains x)=true) (ho:os'.all (fun x=>os.contains x)=true):Within ms os s0 (over ms' os' b j):=by
 have sub:∀ {l l':List Nat},l'.all (fun x=>l.contains x)=true→∀ x,l.contains x=false→l'.contains x=false:=fun {l l'} hl x hx=>by
  cases h2:l'.contains x with
  | false=>rfl
  | true =>
    have:=List.all_eq_true.1 hl x (by simpa using h2);rw [hx] at this;cases this
 have k:Within ms' os' b (over ms' os' b j):=bg.mpr trivial;exact ⟨fun x hx=>(k.1 x (sub hm x hx)).trans (h.1 x hx),fun o ho2=>⟨(k.2 o (sub ho o ho2)).1.trans (h.2 o ho2).1,(k.2 o (sub ho o ho2)).2.trans (h.2 o ho2).2⟩⟩
def byR (l:List Nat):List (List Dt):=l.map fun (x:Nat)=>[.sc (.int .u8 (x:Int))]
def dL (l:List Nat):Pa:=.one (.im (byR l))
theorem aV (l:List Nat):(byR l).length=l.length:=List.length_map ..
theorem gZ (l l':List Nat):byR l ++ byR l'=byR (l ++ l'):=(List.map_append ..).symm
theorem dR (l:List Nat):(∀ r,r ∈ byR l→r.length=1)=True:=by
 apply propext
 refine ⟨fun _=>trivial,fun _ r hr=>?_⟩;obtain ⟨x,_,rfl⟩:=List.mem_map.1 hr;rfl
theorem EP {l:List Nat} {i:Nat} {x:Nat} (h:l[i]? = some x):(byR l)[i]? = some [.sc (.int .u8 (x:Int))]:=by
 unfold byR;rw [List.getElem?_map,h];rfl
theorem w8 {x:Nat} (h:x≤255):IntKind.u8.wrap (x:Int)=(x:Int):=IntWalk.u8_in _ ⟨by omega,by omega⟩
theorem w32 {x:Nat} (h:x≤4294967295):IntKind.u32.wrap (x:Int)=(x:Int):=IntWalk.u32_in _ ⟨by omega,by omega⟩
def kH:Nat→Nat→List Nat
 | 0,n=>[n]
 | f+1,n=>if 128≤n then (n % 128+128) :: kH f (n / 128) else [n]
def bn (n:Nat):List Nat:=kH 8 n
theorem Bh:∀ f n,(kH f n).length≤f+1
 | 0,_=>Nat.le_refl _
 | f+1,n=>by
   unfold kH;split
   ·have:=Bh f (n / 128);rw [List.length_cons];omega
   ·simp
theorem bO (n:Nat):(bn n).length≤9:=Bh 8 n
theorem xE:∀ f n,n < 128 * 128 ^ f→∀ x ∈ kH f n,x≤255
 | 0,n,h,x,hx=>by
   unfold kH at hx;rw [List.mem_singleton.1 hx];omega
 | f+1,n,h,x,hx=>by
   unfold kH at hx;split at hx
   ·rcases List.mem_cons.1 hx with q | q
    ·omega
    ·exact xE f (n / 128) (by rw [Nat.pow_succ] at h;omega) x q
   ·rw [List.mem_singleton.1 hx];omega
def qN (ps rs:List Pa):Prop:=∃ n:Nat,ps=[pI n]∧n≤9223372036854775807∧rs=[dL (bn n)]
theorem Bl {n:Nat} (hn:n≤9223372036854775807) {Q:Exit→St→Prop} (hQ:∀ st:St,st.sl 2=.b (.one (.own 3 1 (byR (bn n))))→st.gen 3=1→st.ob 3=.row 5 1 (bn n).length→Q .ret st):pwp e0 pc37 Q (St.init [pI n]):=by
 unfold pc37
 with_reducible refine aQ ?_
 simp only [↓evP,evB,stB,Nat.reduceEqDiff,pI];refine bS ms37_0 os37_0 (fun f st=>∃ (m:Nat) (acc:List Nat),m≤n∧m < 128 * 128 ^ f∧acc.length+f=8∧bn n=acc ++ kH f m∧st.sl 0=aI m∧st.sl 3=.b (.one (.own 3 1 (byR acc)))∧st.gen 3=1∧st.ob 3=.row 5 1 acc.length) 8 ?_ ?_
 ·exact ⟨n,[],Nat.le_refl _,by omega,rfl,rfl,by simp only [stB,reduceCtorEq];first | done | rfl,by simp only [stB,Nat.reduceEqDiff];first | done | rfl,by simp only [stB,Nat.reduceEqDiff],by simp only [stB,Nat.reduceEqDiff];first | done | rfl⟩
 rintro f j ⟨m,acc,hmn,hmf,hal,hnum,h0,h3,g3,o3⟩;simp only [stB,reduceCtorEq,Nat.reduceEqDiff,Nat.reduceBEq] at h0 h3 g3 o3
 by_cases hm:128≤m
 ·cases f with
  | zero=>omega
  | succ f =>
    unfold kH at hnum;rw [if_pos hm] at hnum;have hge:(m:Int)≥128:=by omega
    have i0:((128:Int)=0)=False:=by simp
    have h1:(m:Int).tmod 128=((m % 128:Nat):Int):=by rw [Int.tmod_eq_emod_of_nonneg (by omega)];omega
    have h2:(m:Int).tdiv 128=((m / 128:Nat):Int):=by rw [Int.tdiv_eq_ediv_of_nonneg (by omega)];omega
    have h4:IntKind.i64.wrap (((m % 128:Nat):Int)+128)=((m % 128+128:Nat):Int):=by rw [dP (by omega) (by omega)];omega
    have h5:IntKind.u8.wrap ((m % 128+128:Nat):Int)=((m % 128+128:Nat):Int):=w8 (by omega);have h6:IntKind.i64.wrap ((m / 128:Nat):Int)=((m / 128:Nat):Int):=dP (by omega) (by omega);have hb:byR (acc ++ [m % 128+128])=byR acc ++ [[.sc (.int .u8 ((m % 128+128:Nat):Int))]]:=(gZ _ _).symm;have hl:=aV acc;have hl2:acc.length≤999999:=by omega
    simp only [↓evP,evB,stB,reduceCtorEq,Nat.reduceEqDiff,Nat.reduceLeDiff,Nat.reduceBEq,h0,h3,g3,o3,hge,i0,h1,h2,h4,h5,h6,hl,hl2,decide_true]
    exact ⟨f,by omega,(by repeat' (first | assumption | exact bg.mpr trivial | exact Within.refl _ _ _ | (refine bC ?_ rfl rfl) | (refine aY ?_ rfl))),m / 128,acc ++ [m % 128+128],by omega,by rw [Nat.pow_succ] at hmf;omega,by rw [List.length_append];show acc.length+1+f=8;omega,by rw [hnum,List.append_assoc];rfl,by simp only [stB,reduceCtorEq,Nat.reduceBEq],by simp only [stB,reduceCtorEq,Nat.reduceEqDiff,Nat.reduceBEq];rw [hb],by simp only [stB,Nat.reduceEqDiff,Nat.reduceBEq,g3],by simp only [stB,Nat.reduceEqDiff,Nat.reduceBEq,o3];rw [List.length_append];first | done | rfl⟩
 ·have hge:¬ (m:Int)≥128:=by omega
  have hf:kH f m=[m]:=by cases f <;> simp [kH,hm]
  have h5:IntKind.u8.wrap (m:Int)=(m:Int):=w8 (by omega);have hb:byR (acc ++ [m])=byR acc ++ [[.sc (.int .u8 (m:Int))]]:=(gZ _ _).symm;have hl:=aV acc;have hl2:acc.length≤999999:=by omega
  rw [hf] at hnum;simp only [↓evP,evB,stB,reduceCtorEq,Nat.reduceEqDiff,Nat.reduceLeDiff,Nat.reduceBEq,h0,h3,g3,o3,hge,h5,hl,hl2,decide_false];refine hQ _ ?_ ?_ ?_
  ·simp only [stB,Nat.reduceEqDiff,Nat.reduceBEq];rw [hnum,hb]
  ·simp only [stB,Nat.reduceEqDiff,Nat.reduceBEq,g3]
  ·simp only [stB,Nat.reduceEqDiff,Nat.reduceBEq,o3];rw [hnum,List.length_append];first | done | rfl
theorem uP:Spec Try.prog 37 qN:=by
 refine sp37 aA.e0 ?_;rintro ps rs ⟨n,rfl,hn,rfl⟩;refine ⟨by simp,Bl hn fun st h1 h2 h3=>⟨.inr rfl,?_⟩⟩;simp only [pr37,St.res,List.map_cons,List.map_nil,St.res1,h1];rfl
def LM (ps:List Pa) (E sz:Nat) (rows:List (List Dt)):Prop:=∃ n:Nat,ps=[pI n]∧n≤9223372036854775807∧(E=5∧sz=1∧rows=byR (bn n))
theorem RU:yQ Try.prog 37 LM:=by
 refine o7 aA.e0 bZ bA Try.func37 bd37 cp37 (by kernel_rfl) (by kernel_rfl) (t:=2) (by kernel_rfl) ?_;rintro ps E sz rows ⟨n,rfl,hn,rfl,rfl,rfl⟩;refine ⟨by simp [Try.ntmps37],Bl hn fun st h1 h2 h3=>⟨.inr rfl,?_⟩⟩;unfold St.OM;simp only [h1,h2,h3,aV,if_true]
def jV (d:Int):Nat:=if d < 0 then (-2 * d - 1).toNat else (2 * d).toNat
def dZ (d:Int):List Nat:=bn (jV d)
def Ah (ps rs:List Pa):Prop:=∃ d:Int,ps=[pI d]∧(-1000000000000≤d∧d≤1000000000000)∧rs=[dL (dZ d)]
theorem KX:Spec Try.prog 39 Ah:=by
 refine sp39 (show aA Try.prog (e1 37 qN e0) from aA.e1 uP aA.e0) ?_;rintro ps rs ⟨d,rfl,⟨h1,h2⟩,rfl⟩;refine ⟨by simp,?_⟩;unfold pc39
 with_reducible refine aQ ?_
 simp only [↓evP,evB,stB,reduceCtorEq,Nat.reduceEqDiff,pI];unfold dZ jV
 by_cases hd:d < 0
 ·have w1:IntKind.i64.wrap (-2 * d)=-2 * d:=dP (by omega) (by omega);have w2:IntKind.i64.wrap (-2 * d - 1)=((-2 * d - 1).toNat:Int):=by rw [dP (by omega) (by omega)];omega
  rw [if_pos hd];simp only [stB,hd,w1,w2,decide_true];refine aF [dL (bn (-2 * d - 1).toNat)] ⟨_,rfl,by omega,rfl⟩ ?_;simp only [↓evP,evB,stB,reduceCtorEq,Nat.reduceEqDiff,dL,pr39]
 ·have w1:IntKind.i64.wrap (2 * d)=((2 * d).toNat:Int):=by rw [dP (by omega) (by omega)];omega
  rw [if_neg hd];simp only [stB,hd,w1,decide_false];refine aF [dL (bn (2 * d).toNat)] ⟨_,rfl,by omega,rfl⟩ ?_;simp only [↓evP,evB,stB,reduceCtorEq,Nat.reduceEqDiff,dL,pr39]
def wO (c:Nat):Nat:=if c % 2=1 then (c / 2) ^^^ 3988292384 else c / 2
def oq (c:Nat):Nat→Nat
 | 0=>c
 | k+1=>wO (oq c k)
def kN (c:Nat):List Nat→Nat
 | []=>c
 | x :: l=>kN (oq (c ^^^ x) 8) l
def crc (l:List Nat):Nat:=kN 4294967295 l ^^^ 4294967295
theorem mU (c:Nat) (l l':List Nat):kN c (l ++ l')=kN (kN c l) l':=by
 induction l generalizing c with
 | nil=>rfl
 | cons x l ih=>exact ih _
theorem Np {c:Nat} (h:c≤4294967295):wO c≤4294967295:=by
 unfold wO;split
 ·have:=Nat.xor_lt_two_pow (x:=c / 2) (y:=3988292384) (n:=32) (by omega) (by decide);omega
 ·omega
theorem iI {c:Nat} (h:c≤4294967295):∀ k,oq c k≤4294967295
 | 0=>h
 | k+1=>Np (iI h k)
theorem lI {c x:Nat} (h:c≤4294967295) (h2:x≤4294967295):c ^^^ x≤4294967295:=by
 have:=Nat.xor_lt_two_pow (x:=c) (y:=x) (n:=32) (by omega) (by omega);omega
theorem qO {c:Nat} (h:c≤4294967295) {l:List Nat} (hl:∀ x ∈ l,x≤255):kN c l≤4294967295:=by
 induction l generalizing c with
 | nil=>exact h
 | cons x l ih=>exact ih (iI (lI h (by have:=hl x (List.mem_cons_self ..);omega)) 8) fun y hy=>hl y (List.mem_cons_of_mem _ hy)
theorem x32 {m n:Nat} (hm:m≤4294967295) (hn:n≤4294967295):IntKind.u32.wrap ((BitVec.ofInt IntKind.u32.bits (m:Int) ^^^ BitVec.ofInt IntKind.u32.bits (n:Int)).toNat:Int)=((m ^^^ n:Nat):Int):=by
 have e:(BitVec.ofInt IntKind.u32.bits (m:Int) ^^^ BitVec.ofInt IntKind.u32.bits (n:Int)).toNat=m ^^^ n:=by
  rw [BitVec.toNat_xor,BitVec.toNat_ofInt,BitVec.toNat_ofInt];have hb:(2:Int) ^ IntKind.u32.bits=4294967296:=by decide
  congr 1
  ·show ((m:Int) % ((2 ^ IntKind.u32.bits:Nat):Int)).toNat=m
   rw [show ((2 ^ IntKind.u32.bits:Nat):Int)=4294967296 from by decide];omega
  ·show ((n:Int) % ((2 ^ IntKind.u32.bits:Nat):Int)).toNat=n
   rw [show ((2 ^ IntKind.u32.bits:Nat):Int)=4294967296 from by decide];omega
 rw [e];exact w32 (lI hm hn)
abbrev aU (n:Nat):Av:=.b (.one (.d (.sc (.int .u32 (n:Int)))))
def EH (ps rs:List Pa):Prop:=∃ l:List Nat,ps=[dL l]∧(l.length≤1000000∧∀ x ∈ l,x≤255)∧rs=[.one (.sc (.int .u32 (crc l:Int)))]
theorem OU:Spec Try.prog 52 EH:=by
 refine sp52 aA.e0 ?_;rintro ps rs ⟨l,rfl,⟨hl,hb⟩,rfl⟩;refine ⟨by simp,?_⟩;unfold pc52
 with_reducible refine aQ ?_
 have hbl:=aV l;simp only [↓evP,evB,stB,dL];refine gy [0,3,4] [] (fun S hs ho=>?_);simp only [stB,reduceCtorEq,Nat.reduceEqDiff] at hs;obtain ⟨q0,q3,q4⟩:=hs;refine bS ms52_0 os52_0 (fun m st=>∃ k:Nat,m=l.length - k∧k≤l.length∧st.sl 4=aI k∧st.sl 3=aU (kN 4294967295 (l.take k))) l.length ?_ ?_
 ·exact ⟨0,rfl,Nat.zero_le _,q4,q3⟩
 rintro m z ⟨k,rfl,hk,h4,h3⟩;simp only [stB,Nat.reduceBEq] at h4 h3;have hc0:kN 4294967295 (l.take k)≤4294967295:=qO (by decide) fun x hx=>hb x (List.mem_of_mem_take hx)
 rcases Nat.lt_or_ge k l.length with hlt | hge
 ·obtain ⟨x,hx⟩:∃ x,l[k]? = some x:=⟨_,List.getElem?_eq_getElem hlt⟩
  have hx8:=hb x (List.mem_of_getElem? hx);have hgx:=EP hx;have klt:(k:Int) < (l.length:Int):=by omega
  have k0:(0:Int)≤(k:Int):=by omega
  have wx:IntKind.u32.wrap (x:Int)=(x:Int):=w32 (by omega);have wc:=x32 hc0 (show x≤4294967295 by omega)
  have hsu:kN 4294967295 (l.take (k+1))=oq (kN 4294967295 (l.take k) ^^^ x) 8:=by
   rw [List.take_add_one,hx,mU];rfl
  have hc1:=lI hc0 (show x≤4294967295 by omega);generalize kN 4294967295 (l.take k)=c at *;simp only [↓evP,evB,stB,reduceCtorEq,Nat.reduceEqDiff,Nat.reduceBEq,q0,h4,h3,hbl,klt,k0,hgx,wx,wc,decide_true]
  refine jH (fun st=>Within ms52_0 os52_0 S st) (by repeat' (first | assumption | exact bg.mpr trivial | exact Within.refl _ _ _ | (refine bC ?_ rfl rfl) | (refine aY ?_ rfl))) [0,3,4,5] [] (fun T hwT hs2 ho2=>?_);simp only [stB,reduceCtorEq,Nat.reduceEqDiff,Nat.reduceBEq,q0,h4] at hs2;obtain ⟨p0,p3,p4,p5⟩:=hs2;obtain ⟨d,hd⟩:∃ d,c ^^^ x=d:=⟨_,rfl⟩
  rw [hd] at p3 hsu hc1;refine bS ms52_1 os52_1 (fun m st=>∃ i:Nat,m=8 - i∧i≤8∧st.sl 5=aI i∧st.sl 3=aU (oq d i)) 8 ?_ ?_
  ·exact ⟨0,rfl,Nat.zero_le _,p5,p3⟩
  rintro m2 z2 ⟨i,rfl,hi,h5,h3'⟩;simp only [stB,Nat.reduceBEq] at h5 h3'
  rcases Nat.lt_or_ge i 8 with hi8 | hi8
  ·have hcb:=iI hc1 i;have hcs:oq d (i+1)=wO (oq d i):=rfl;generalize oq d i=b at *;have ilt:(i:Int) < 8:=by omega
   have n2:((2:Int)=0)=False:=by simp
   have t1:(b:Int).tmod 2=((b % 2:Nat):Int):=by rw [Int.tmod_eq_emod_of_nonneg (by omega)];omega
   have t2:(b:Int).tdiv 2=((b / 2:Nat):Int):=by rw [Int.tdiv_eq_ediv_of_nonneg (by omega)];omega
   have t3:IntKind.u32.wrap ((b / 2:Nat):Int)=((b / 2:Nat):Int):=w32 (by omega);have t4:=x32 (m:=b / 2) (n:=3988292384) (by omega) (by decide);unfold wO at hcs
   by_cases hb1:b % 2=1
   ·have e1:(((b % 2:Nat):Int) == 1)=true:=by rw [hb1];rfl
    rw [if_pos hb1] at hcs;simp only [↓evP,evB,stB,reduceCtorEq,Nat.reduceEqDiff,Nat.reduceBEq,h5,h3',ilt,n2,t1,t2,t3,e1,decide_true];rw [show (3988292384:Int)=((3988292384:Nat):Int) from rfl,t4]
    exact ⟨_,by omega,(by repeat' (first | assumption | exact bg.mpr trivial | exact Within.refl _ _ _ | (refine bC ?_ rfl rfl) | (refine aY ?_ rfl))),i+1,rfl,hi8,by simp only [stB,Nat.reduceEqDiff,Nat.reduceBEq,h5];rw [wrN (by omega)],by simp only [stB,Nat.reduceEqDiff,Nat.reduceBEq];rw [hcs]⟩
   ·have e1:(((b % 2:Nat):Int) == 1)=false:=by
     rw [beq_eq_false_iff_ne];omega
    rw [if_neg hb1] at hcs;simp only [↓evP,evB,stB,reduceCtorEq,Nat.reduceEqDiff,Nat.reduceBEq,h5,h3',ilt,n2,t1,t2,t3,e1,decide_true]
    exact ⟨_,by omega,(by repeat' (first | assumption | exact bg.mpr trivial | exact Within.refl _ _ _ | (refine bC ?_ rfl rfl) | (refine aY ?_ rfl))),i+1,rfl,hi8,by simp only [stB,Nat.reduceEqDiff,Nat.reduceBEq,h5];rw [wrN (by omega)],by simp only [stB,Nat.reduceEqDiff,Nat.reduceBEq];rw [hcs]⟩
  ·have hie:i=8:=by omega
   subst hie;have ilt:¬ ((8:Nat):Int) < 8:=by omega
   simp only [↓evP,evB,stB,reduceCtorEq,Nat.reduceEqDiff,Nat.reduceSub,Nat.reduceBEq,p4,h5,h3',ilt,decide_false]
   exact ⟨_,by omega,(by repeat' (first | exact iU hwT rfl rfl | (refine bC ?_ rfl rfl) | (refine aY ?_ rfl))),k+1,rfl,hlt,by simp only [stB,Nat.reduceEqDiff,Nat.reduceBEq,p4];rw [wrN (by omega)],by simp only [stB,Nat.reduceEqDiff,Nat.reduceBEq,h3'];rw [hsu]⟩
 ·have hke:k=l.length:=by omega
  have klt:¬ (k:Int) < (l.length:Int):=by omega
  rw [hke,List.take_length] at h3 hc0;have wc:=x32 hc0 (show 4294967295≤4294967295 by decide);simp only [↓evP,evB,stB,reduceCtorEq,Nat.reduceEqDiff,Nat.reduceBEq,q0,h4,h3,hbl,klt,decide_false];rw [show (4294967295:Int)=((4294967295:Nat):Int) from rfl,wc];simp only [stB,Nat.reduceEqDiff,Nat.reduceBEq,pr52];rfl
def fG (l:List Nat):List Nat:=[crc l / 16777216 % 256,crc l / 65536 % 256,crc l / 256 % 256,crc l % 256]
def aX (kind:Nat) (c:List Nat):List Nat:=kind :: (bn c.length ++ c)
def bK (kind:Nat) (c:List Nat):List Nat:=aX kind c ++ fG (aX kind c)
theorem w8m (n:Nat):IntKind.u8.wrap (n:Int)=((n % 256:Nat):Int):=by
 have hb:(2:Int) ^ IntKind.u8.bits=256:=by decide
 have hs:IntKind.u8.signed=false:=rfl;unfold IntKind.wrap;dsimp only;rw [hb,if_neg (by rw [hs];simp)]
 omega
theorem TM (n:Nat):Int.fdiv (n:Int) (2 ^ (min (Int.toNat 24) IntKind.u32.bits))=((n / 16777216:Nat):Int):=by
 show Int.fdiv (n:Int) 16777216=_
 rw [Int.fdiv_eq_ediv_of_nonneg _ (by decide)];omega
theorem TK (n:Nat):Int.fdiv (n:Int) (2 ^ (min (Int.toNat 16) IntKind.u32.bits))=((n / 65536:Nat):Int):=by
 show Int.fdiv (n:Int) 65536=_
 rw [Int.fdiv_eq_ediv_of_nonneg _ (by decide)];omega
theorem fd8 (n:Nat):Int.fdiv (n:Int) (2 ^ (min (Int.toNat 8) IntKind.u32.bits))=((n / 256:Nat):Int):=by
 show Int.fdiv (n:Int) 256=_
 rw [Int.fdiv_eq_ediv_of_nonneg _ (by decide)];omega
theorem fZ {n:Nat} (h:n≤9223372036854775807):∀ x ∈ bn n,x≤255:=xE 8 n (by omega)
theorem jS {k:Nat} {c:List Nat} (hk:k≤255) (hc:∀ x ∈ c,x≤255) (hl:c.length≤1000000):∀ x ∈ aX k c,x≤255:=fun x hx=>by
 rcases List.mem_cons.1 hx with q | q
 ·omega
 ·rcases List.mem_append.1 q with q | q
  ·exact fZ (by omega) x q
  ·exact hc x q
def wC (ps rs:List Pa):Prop:=∃ (k:Nat) (c:List Nat),ps=[.one (.sc (.int .u8 (k:Int))),dL c]∧(k≤255∧c.length≤900000∧∀ x ∈ c,x≤255)∧rs=[dL (bK k c)]
theorem Ik:Spec Try.prog 40 wC:=by
 refine sp40 (show aA Try.prog (e1 37 qN (e1 52 EH e0)) from aA.e1 uP (aA.e1 OU aA.e0)) ?_;rintro ps rs ⟨k,c,rfl,⟨hk,hl,hc⟩,rfl⟩;refine ⟨by simp,?_⟩;unfold pc40
 with_reducible refine aQ ?_
 have hcl:=aV c;have hca:=dR c;have hnl:=bO c.length;have hnl2:=aV (bn c.length);have hna:=dR (bn c.length);simp only [↓evP,evB,stB,reduceCtorEq,Nat.reduceEqDiff,Nat.reduceLeDiff,dL,hcl];refine aF [dL (bn c.length)] ⟨_,rfl,by omega,rfl⟩ ?_;have g1:1+(bn c.length).length≤1000000:=by omega
 have g2:(bn c.length).length+1+c.length≤1000000:=by omega
 have g3:(1+(bn c.length).length=(bn c.length).length+1)=True:=by simp;omega
 have e1:[Dt.sc (.int .u8 (k:Int))] :: (byR (bn c.length) ++ byR c)=byR (aX k c):=by
  rw [gZ];rfl
 have hbl:(aX k c).length=(bn c.length).length+1+c.length:=by
  unfold aX;rw [List.length_cons,List.length_append];omega
 have hbl2:=aV (aX k c);rw [←hbl] at g2;simp only [↓evP,evB,stB,Nat.reduceEqDiff,Nat.reduceLeDiff,dL,hcl,hca,hnl2,hna,g1,←hbl,g2,g3,e1];refine aF [.one (.sc (.int .u32 (crc (aX k c):Int)))] ⟨aX k c,rfl,⟨by omega,jS hk hc (by omega)⟩,rfl⟩ ?_;have n1:¬ ((24:Int) < 0):=by decide
 have n2:¬ ((16:Int) < 0):=by decide
 have n3:¬ ((8:Int) < 0):=by decide
 have g4:(aX k c).length+4≤1000000:=by omega
 have hblk:byR (bK k c)=byR (aX k c) ++ [[.sc (.int .u8 ((crc (aX k c) / 16777216 % 256:Nat):Int))],[.sc (.int .u8 ((crc (aX k c) / 65536 % 256:Nat):Int))],[.sc (.int .u8 ((crc (aX k c) / 256 % 256:Nat):Int))],[.sc (.int .u8 ((crc (aX k c) % 256:Nat):Int))]]:=(gZ _ _).symm;rw [hblk];generalize aX k c=B at *;simp only [↓evP,evB,stB,reduceCtorEq,Nat.reduceEqDiff,Nat.reduceAdd,Nat.reduceLeDiff,n1,n2,n3,TM,TK,fd8,w8m,hbl2,g4,pr40]
structure Dep where
 st:List (Int×Int)
 pr:List Int
def aW (p:Int×Int):List Dt:=[dI p.1,dI p.2]
def Dep.row (d:Dep):List Dt:=[.im (d.st.map aW),.im (d.pr.map fun x=>[dI x])]
def Dep.pa (d:Dep):Pa:=.agg d.row
def dX (d:Dep) (i:Nat):Int×Int:=d.st.getD i (0,0)
def fB (d:Dep) (i:Nat):Int:=d.pr.getD i 0
def mG (d:Dep) (i:Nat):List Nat:=bn (fB d i+1).toNat ++ (bn (dX d i).1.toNat ++ bn (dX d i).2.toNat)
def mM (d:Dep) (a k:Nat):List Nat:=(List.range k).flatMap fun i=>mG d (a+i)
def qQ (d:Dep) (a b:Nat):List Nat:=bn (b - a) ++ mM d a (b - a)
theorem nJ (d:Dep) (a k:Nat):mM d a (k+1)=mM d a k ++ mG d (a+k):=by
 unfold mM;rw [List.range_succ,List.flatMap_append];simp
theorem uh (d:Dep) (i:Nat):(mG d i).length≤27:=by
 unfold mG;rw [List.length_append,List.length_append];have:=bO (fB d i+1).toNat;have:=bO (dX d i).1.toNat;have:=bO (dX d i).2.toNat;omega
theorem vg (d:Dep) (a k:Nat):(mM d a k).length≤27 * k:=by
 induction k with
 | zero=>exact Nat.zero_le _
 | succ k ih =>
   rw [nJ,List.length_append];have:=uh d (a+k);omega
structure Dep.ok (d:Dep):Prop where
 len:d.st.length=d.pr.length
 le:d.st.length≤10000
 pr:∀ x ∈ d.pr, -1≤x∧x≤1000000000000
 st:∀ p ∈ d.st,(0≤p.1∧p.1≤1000000000000)∧(0≤p.2∧p.2≤1000000000000)
def LH (ps:List Pa) (E sz:Nat) (rows:List (List Dt)):Prop:=∃ (d:Dep) (a b:Nat),ps=[d.pa,pI a,pI b]∧(d.ok∧a≤b∧b≤d.st.length)∧(E=5∧sz=1∧rows=byR (qQ d a b))
theorem Jq {d:Dep} {a b:Nat} (hd:d.ok) (hab:a≤b) (hb:b≤d.st.length) {Q:Exit→St→Prop} (hQ:∀ st:St,st.sl 6=.b (.one (.own 12 1 (byR (qQ d a b))))→st.gen 12=1→st.ob 12=.row 5 1 (qQ d a b).length→Q .ret st) :
 pwp (f1 37 LM (e1 37 qN e0)) pc36 Q (St.init [d.pa,pI a,pI b]):=by
 have hle:=hd.le;unfold pc36
 with_reducible refine aQ ?_
 have w0:IntKind.i64.wrap ((b:Int) - (a:Int))=((b - a:Nat):Int):=by rw [dP (by omega) (by omega)];omega
 simp only [↓evP,evB,stB,Nat.reduceEqDiff,Dep.pa,Dep.row,pI,w0];refine jT (byR (bn (b - a))) (E:=5) (sz:=1) (by exact ⟨b - a,rfl,by omega,rfl,rfl,rfl⟩) ?_;have hnl:=bO (b - a);have hnl2:=aV (bn (b - a));simp only [↓evP,evB,stB,Nat.reduceEqDiff,hnl2];refine bS ms36_0 (12 :: os36_0) (fun m st=>∃ k:Nat,m=(b - a) - k∧k≤b - a∧st.sl 8=aI ((a+k:Nat):Int)∧st.sl 7=.b (.one (.own 12 1 (byR (bn (b - a) ++ mM d a k))))∧st.gen 12=1∧st.ob 12=.row 5 1 (bn (b - a) ++ mM d a k).length) (b - a) ?_ ?_
 ·refine ⟨0,rfl,Nat.zero_le _,by simp only [stB,Nat.reduceEqDiff];first | done | rfl,?_,by simp only [stB,Nat.reduceEqDiff],?_⟩
  ·simp only [stB,Nat.reduceEqDiff];rw [show mM d a 0=[] from rfl,List.append_nil]
  ·simp only [stB,Nat.reduceEqDiff];rw [show mM d a 0=[] from rfl,List.append_nil]
 rintro m j ⟨k,rfl,hk,h8,h7,g12,o12⟩;simp only [stB,Nat.reduceEqDiff,Nat.reduceBEq] at h8 h7 g12 o12
 rcases Nat.lt_or_ge k (b - a) with hlt | hge
 ·have hi:a+k < d.st.length:=by omega
  have hi2:a+k < d.pr.length:=by have:=hd.len;omega
  have klt:((a+k:Nat):Int) < (b:Int):=by omega
  have k0:(0:Int)≤((a+k:Nat):Int):=by omega
  have gp:d.pr[a+k]? = some (fB d (a+k)):=by unfold fB;rw [List.getD_eq_getElem?_getD,List.getElem?_eq_getElem hi2];rfl
  have gs:d.st[a+k]? = some (dX d (a+k)):=by unfold dX;rw [List.getD_eq_getElem?_getD,List.getElem?_eq_getElem hi];rfl
  have bp:=hd.pr _ (List.mem_of_getElem? gp);have bs:=hd.st _ (List.mem_of_getElem? gs);have hsu:=nJ d a k;have hfl:=vg d a k;have hol:=uh d (a+k);unfold mG at hsu hol;generalize fB d (a+k)=p at *;generalize dX d (a+k)=s at *;obtain ⟨s1,s2⟩:=s;dsimp only at hsu hol bs;have w1:IntKind.i64.wrap (p+1)=((p+1).toNat:Int):=by rw [dP (by omega) (by omega)];omega
  have e1:s1=(s1.toNat:Int):=by omega
  have e2:s2=(s2.toNat:Int):=by omega
  have w2:IntKind.i64.wrap (((a+k:Nat):Int)+1)=((a+(k+1):Nat):Int):=by rw [dP (by omega) (by omega)];omega
  obtain ⟨B,hB⟩:∃ B,bn (b - a) ++ mM d a k=B:=⟨_,rfl⟩
  have hBl:B.length≤9+27 * k:=by rw [←hB,List.length_append];omega
  rw [hB] at h7 o12;have l1:=bO (p+1).toNat;have l2:=bO s1.toNat;have l3:=bO s2.toNat;have c1:=aV (bn (p+1).toNat);have c2:=aV (bn s1.toNat);have c3:=aV (bn s2.toNat);have a1:=dR (bn (p+1).toNat);have a2:=dR (bn s1.toNat);have a3:=dR (bn s2.toNat);have cB:=aV B
  have hfin:byR B ++ byR (bn (p+1).toNat) ++ byR (bn s1.toNat) ++ byR (bn s2.toNat)=byR (bn (b - a) ++ mM d a (k+1)):=by
   rw [gZ,gZ,gZ,hsu,←hB];simp only [List.append_assoc]
  have hfin2:(bn (b - a) ++ mM d a (k+1)).length=B.length+(bn (p+1).toNat).length+(bn s1.toNat).length+(bn s2.toNat).length:=by
   rw [hsu,←List.append_assoc,hB];simp only [List.length_append];omega
  have g1:B.length+(bn (p+1).toNat).length≤1000000:=by omega
  have g2:B.length+(bn (p+1).toNat).length+(bn s1.toNat).length≤1000000:=by omega
  have g3:B.length+(bn (p+1).toNat).length+(bn s1.toNat).length+(bn s2.toNat).length≤1000000:=by omega
  have rB:(byR B ++ byR (bn (p+1).toNat)).length=B.length+(bn (p+1).toNat).length:=by rw [List.length_append,cB,c1]
  have rB2:(byR B ++ byR (bn (p+1).toNat) ++ byR (bn s1.toNat)).length=B.length+(bn (p+1).toNat).length+(bn s1.toNat).length:=by rw [List.length_append,rB,c2]
  simp only [↓evP,evB,stB,reduceCtorEq,Nat.reduceEqDiff,Nat.reduceBEq,h8,h7,klt,k0,gp,w1,decide_true];refine aF [dL (bn (p+1).toNat)] (by exact ⟨_,rfl,by omega,rfl⟩) ?_;simp only [↓evP,evB,stB,Nat.reduceEqDiff,Nat.reduceAdd,Nat.reduceLeDiff,Nat.reduceBEq,h8,h7,g12,o12,k0,gs,dL,c1,a1,cB,g1,aW];refine aF [dL (bn s1.toNat)] (by rw [e1];exact ⟨_,rfl,by omega,by rw [←e1]⟩) ?_
  simp only [↓evP,evB,stB,Nat.reduceEqDiff,Nat.reduceAdd,Nat.reduceLeDiff,Nat.reduceBEq,h8,h7,g12,o12,k0,gs,dL,c2,a2,rB,g2,aW];refine aF [dL (bn s2.toNat)] (by rw [e2];exact ⟨_,rfl,by omega,by rw [←e2]⟩) ?_
  simp only [↓evP,evB,stB,Nat.reduceEqDiff,Nat.reduceLeDiff,Nat.reduceBEq,h8,g12,o12,dL,c3,a3,rB2,g3]
  exact ⟨_,by omega,(by repeat' (first | assumption | exact bg.mpr trivial | exact Within.refl _ _ _ | (refine bC ?_ rfl rfl) | (refine aY ?_ rfl))),k+1,rfl,hlt,by simp only [stB,Nat.reduceEqDiff,Nat.reduceBEq,h8,w2],by simp only [stB,Nat.reduceEqDiff,Nat.reduceBEq];rw [←hfin];(first | done | simp only [List.append_assoc]),by simp only [stB,Nat.reduceEqDiff,Nat.reduceBEq,g12],by simp only [stB,Nat.reduceEqDiff,Nat.reduceBEq,o12];first | done | rw [hfin2]⟩
 ·have hke:k=b - a:=by omega
  have klt:¬ ((a+k:Nat):Int) < (b:Int):=by omega
  rw [hke] at h7 o12;simp only [↓evP,evB,stB,reduceCtorEq,Nat.reduceEqDiff,Nat.reduceBEq,h8,h7,klt,decide_false];refine hQ _ ?_ ?_ ?_
  ·simp only [stB,Nat.reduceEqDiff,Nat.reduceBEq];first | done | rfl
  ·simp only [stB,Nat.reduceEqDiff,Nat.reduceBEq,g12]
  ·simp only [stB,Nat.reduceEqDiff,Nat.reduceBEq,o12];first | done | rfl
theorem RJ:yQ Try.prog 36 LH:=by
 refine o7 (aA.f1 RU (aA.e1 uP aA.e0)) bZ bA Try.func36 bd36 cp36 (by kernel_rfl) (by kernel_rfl) (t:=6) (by kernel_rfl) ?_;rintro ps E sz rows ⟨d,a,b,rfl,⟨hd,hab,hb⟩,rfl,rfl,rfl⟩;refine ⟨by simp [Try.ntmps36],Jq hd hab hb fun st h1 h2 h3=>⟨.inr rfl,?_⟩⟩;unfold St.OM;simp only [h1,h2,h3,aV,if_true]
def Ev.fl (e:Ev):List Int:=[e.g,e.kind,e.obj,e.off,e.k,e.n,e.fn,e.pc,e.stack]
def inR (l:List Int):List (List Dt):=l.map fun x=>[dI x]
def Ai (ps rs:List Pa):Prop:=∃ e:Ev,ps=[e.pa]∧rs=[.one (.im (inR e.fl))]
theorem KY:Spec Try.prog 38 Ai:=by
 refine sp38 aA.e0 ?_;rintro ps rs ⟨e,rfl,rfl⟩;refine ⟨by simp,?_⟩;unfold pc38
 with_reducible refine aQ ?_
 simp only [↓evP,evB,stB,reduceCtorEq,Nat.reduceEqDiff,Nat.reduceAdd,Nat.reduceLeDiff,Ev.pa,Ev.row,pr38]
 first | done | rfl
end Go.Proofs.Ytkafcpnahpfbfaa
end
section
namespace Go.Proofs.Ytkafcpnahpfbfaa
open Go Go.RowKit
set_option maxRecDepth 1000000
set_option maxHeartbeats 4000000
def bq (es:List Ev) (n:Nat):Nat:=es.foldl (fun m e=>max m (e.stack+1).toNat) n
def ev0:Ev:=⟨0,0,0,0,0,0,0,0,0⟩
def lst (l:Ev) (es:List Ev):Ev:=es.foldl (fun _ e=>e) l
def pO (l e:Ev):List Nat:=(List.zipWith (fun x y=>x - y) e.fl l.fl).flatMap dZ
def eY:Ev→List Ev→List Nat
 | _,[]=>[]
 | l,e :: es=>pO l e ++ eY e es
theorem iV (a b:List Ev) (n:Nat):bq (a ++ b) n=bq b (bq a n):=List.foldl_append ..
theorem oH (a b:List Ev) (l:Ev):lst l (a ++ b)=lst (lst l a) b:=List.foldl_append ..
theorem N8 (l e:Ev):lst l [e]=e:=rfl
theorem qZ:∀ (a b:List Ev) (l:Ev),eY l (a ++ b)=eY l a ++ eY (lst l a) b
 | [],_,_=>rfl
 | e :: a,b,l=>by
   show pO l e ++ eY e (a ++ b)=pO l e ++ eY e a ++ eY (lst e a) b
   rw [qZ a b e,List.append_assoc]
theorem wU (l e:Ev):eY l [e]=pO l e:=List.append_nil _
theorem take_at {α:Type} {l:List α} {i:Nat} {x:α} (h:l[i]? = some x):l.take (i+1)=l.take i ++ [x]:=by
 obtain ⟨h1,rfl⟩:=List.getElem?_eq_some_iff.1 h;exact List.take_succ_eq_append_getElem h1
theorem JB (l e:Ev):(pO l e).length≤81:=by
 have h:∀ (xs:List Int),(xs.flatMap dZ).length≤9 * xs.length:=fun xs=>by
  induction xs with
  | nil=>exact Nat.le_refl _
  | cons x xs ih =>
    rw [List.flatMap_cons,List.length_append,List.length_cons];have:(dZ x).length≤9:=bO _;omega
 exact Nat.le_trans (h _) (by unfold Ev.fl;simp)
theorem kW:∀ (es:List Ev) (l:Ev),(eY l es).length≤81 * es.length
 | [],_=>Nat.le_refl _
 | e :: es,l=>by
   show (pO l e ++ eY e es).length≤_
   rw [List.length_append,List.length_cons];have:=JB l e;have:=kW es e;omega
def bP (es:List Ev) (i n:Nat):List Ev:=(es.drop i).take n
def jF (d:Dep) (es:List Ev) (k:Nat):List Nat :=
 qQ d (bq (es.take (16 * k)) 0) (bq (es.take (16 * k+16)) 0) ++ (bn (bP es (16 * k) 16).length ++ eY (lst ev0 (es.take (16 * k))) (bP es (16 * k) 16))
def oz (d:Dep) (es:List Ev):List Nat:=qQ d (bq es 0) d.st.length ++ bn es.length
def dW (es:List Ev):Nat:=(es.length+15) / 16
def fQ (d:Dep) (es:List Ev) (k:Nat):List Nat:=bK 66 (jF d es k)
def aZ (d:Dep) (es:List Ev):List (List Nat):=(List.range (dW es)).map (fQ d es) ++ [bK 69 (oz d es)]
structure rJ (d:Dep) (es:List Ev):Prop where
 dk:d.ok
 len:d.st.length≤1000
 el:es.length≤1000
 ev:∀ e ∈ es,e.valid=true∧e.stack < d.st.length
def cK (es:List Ev) (d:Dep):List Dt:=[.im (es.map Ev.row),.im (d.st.map aW),.im (d.pr.map fun x=>[dI x])]
def iA (es:List Ev) (d:Dep):Pa:=.agg (cK es d)
def kG (l:List (List Nat)):List (List Dt):=l.map fun b=>[.im (byR b)]
theorem jL (l:List (List Nat)):(kG l).length=l.length:=List.length_map ..
theorem Ba {es:List Ev} {m:Nat} (h:∀ e ∈ es,e.valid=true∧e.stack < (m:Int)):∀ {n:Nat},n≤m→bq es n≤m:=by
 induction es with
 | nil=>exact fun h=>h
 | cons e es ih =>
   intro n hn;refine ih (fun x hx=>h x (List.mem_cons_of_mem _ hx)) ?_;have:=(h e (List.mem_cons_self ..)).2
   show max n (e.stack+1).toNat≤m
   omega
theorem nk (es:List Ev):∀ n:Nat,n≤bq es n:=by
 induction es with
 | nil=>exact fun n=>Nat.le_refl _
 | cons e es ih=>exact fun n=>Nat.le_trans (Nat.le_max_left n _) (ih _)
theorem lD {α:Type} {l:List α} {n:Nat} {x:α} (h:x ∈ l.take n):x ∈ l:=List.mem_of_mem_take h
theorem gY (es:List Ev) (i n:Nat):es.take i ++ bP es i n=es.take (i+n):=by
 unfold bP;rw [List.take_add]
theorem fV (es:List Ev) (i n:Nat):(bP es i n).length=min n (es.length - i):=by
 unfold bP;rw [List.length_take,List.length_drop]
theorem rJ.need {d:Dep} {es:List Ev} (h:rJ d es) (i:Nat):bq (es.take i) 0≤d.st.length:=Ba (fun e he=>h.ev e (lD he)) (Nat.zero_le _)
theorem jg (d:Dep) (a b:Nat):(qQ d a b).length≤9+27 * (b - a):=by
 unfold qQ;rw [List.length_append];have:=bO (b - a);have:=vg d a (b - a);omega
theorem kU {d:Dep} {es:List Ev} (h:rJ d es) (k:Nat):(jF d es k).length≤30000:=by
 unfold jF;rw [List.length_append,List.length_append];have h1:=jg d (bq (es.take (16 * k)) 0) (bq (es.take (16 * k+16)) 0);have h2:=h.need (16 * k+16);have h3:=h.len;have h4:=bO (bP es (16 * k) 16).length;have h5:=kW (bP es (16 * k) 16) (lst ev0 (es.take (16 * k)));have h6:=fV es (16 * k) 16;omega
theorem mV {d:Dep} {es:List Ev} (h:rJ d es):(oz d es).length≤30000:=by
 unfold oz;rw [List.length_append];have h1:=jg d (bq es 0) d.st.length;have h3:=h.len;have h4:=bO es.length;omega
theorem jw {a b:List Nat} (ha:∀ x ∈ a,x≤255) (hb:∀ x ∈ b,x≤255):∀ x ∈ a ++ b,x≤255:=fun x hx=>by
 rcases List.mem_append.1 hx with q | q
 ·exact ha x q
 ·exact hb x q
theorem wR {d:Dep} (hd:d.ok) (a:Nat):∀ (k:Nat),a+k≤d.st.length→∀ x ∈ mM d a k,x≤255
 | 0,_=>fun x hx=>by cases hx
 | k+1,h=>by
   rw [nJ];refine jw (wR hd a k (by omega)) ?_;have hi:a+k < d.st.length:=by omega
   have hi2:a+k < d.pr.length:=by have:=hd.len;omega
   have gp:d.pr[a+k]? = some (fB d (a+k)):=by unfold fB;rw [List.getD_eq_getElem?_getD,List.getElem?_eq_getElem hi2];rfl
   have gs:d.st[a+k]? = some (dX d (a+k)):=by unfold dX;rw [List.getD_eq_getElem?_getD,List.getElem?_eq_getElem hi];rfl
   have bp:=hd.pr _ (List.mem_of_getElem? gp);have bs:=hd.st _ (List.mem_of_getElem? gs);exact jw (fZ (by omega)) (jw (fZ (by omega)) (fZ (by omega)))
theorem qX {d:Dep} (hd:d.ok) {a b:Nat} (hab:a≤b) (h:b≤d.st.length):∀ x ∈ qQ d a b,x≤255:=by
 have:=hd.le;exact jw (fZ (by omega)) (wR hd a (b - a) (by omega))
theorem uy {e:Ev} (h:e.valid=true):∀ x ∈ e.fl,0≤x∧x≤2147483647:=by
 simp only [Ev.valid,fF,iL,Bool.and_eq_true,decide_eq_true_eq] at h;intro x hx;simp only [Ev.fl,List.mem_cons,List.not_mem_nil,or_false] at hx;omega
def evG (e:Ev):Prop:=∀ x ∈ e.fl,0≤x∧x≤2147483647
theorem y8:evG ev0:=by
 intro x hx;simp only [Ev.fl,ev0,List.mem_cons,List.not_mem_nil,or_false,or_self] at hx;omega
theorem uG:∀ {es:List Ev} {l:Ev},evG l→(∀ e ∈ es,e.valid=true)→evG (lst l es)
 | [],_,h,_=>h
 | e :: es,_,_,h=>uG (es:=es) (l:=e) (uy (h e (List.mem_cons_self ..))) fun x hx=>h x (List.mem_cons_of_mem _ hx)
theorem Gs {l e:Ev} (hl:evG l) (he:evG e):∀ x ∈ pO l e,x≤255:=by
 intro x hx;unfold pO at hx;obtain ⟨v,hv,hx⟩:=List.mem_flatMap.1 hx
 have hb:-2147483647≤v∧v≤2147483647:=by
  obtain ⟨i,hi,rfl⟩:=List.getElem_of_mem hv;rw [List.getElem_zipWith];have h1:=he (e.fl[i]'(by simp at hi;omega)) (List.getElem_mem _)
  have h2:=hl (l.fl[i]'(by simp at hi;omega)) (List.getElem_mem _)
  omega
 refine fZ ?_ x hx;unfold jV;split <;> omega
theorem oZ:∀ {es:List Ev} {l:Ev},evG l→(∀ e ∈ es,e.valid=true)→∀ x ∈ eY l es,x≤255
 | [],_,_,_=>fun x hx=>by cases hx
 | e :: es,_,hl,h=>by
   have h1:evG e:=uy (h e (List.mem_cons_self ..));exact jw (Gs hl h1) (oZ h1 fun x hx=>h x (List.mem_cons_of_mem _ hx))
theorem nP {es:List Ev} {i n:Nat} {e:Ev} (h:e ∈ bP es i n):e ∈ es:=List.mem_of_mem_drop (List.mem_of_mem_take h)
theorem oW {d:Dep} {es:List Ev} (h:rJ d es) (k:Nat):∀ x ∈ jF d es k,x≤255:=by
 have h2:=h.need (16 * k+16);have h6:=fV es (16 * k) 16;refine jw (qX h.dk ?_ h2) (jw (fZ (by omega)) (oZ (uG y8 fun e he=>(h.ev e (lD he)).1) fun e he=>(h.ev e (nP he)).1));rw [←gY es (16 * k) 16,iV];exact nk _ _
theorem nI {d:Dep} {es:List Ev} (h:rJ d es):∀ x ∈ oz d es,x≤255:=by
 have h2:=h.need es.length;rw [List.take_length] at h2;have:=h.el;exact jw (qX h.dk h2 (Nat.le_refl _)) (fZ (by omega))
def rdF:Nat→Bool→Nat→Nat→List Nat→Option Nat×List Nat
 | 0,_,_,_,bs=>(none,bs)
 | _+1,_,_,_,[]=>(none,[])
 | f+1,fst,n,p,x :: bs=>if x < 128 then ((if (x=0∧fst=false)∨4294967295 < n+x * p then none else some (n+x * p)),bs) else rdF f false (n+x % 128 * p) (p * 128) bs
structure Rs where
 rest:List Nat
 bad:Bool
def bN (s:Rs):Nat×Rs:=if s.bad=true then (0,s) else match rdF 5 true 0 1 s.rest with
 | (some n,r)=>(n,⟨r,false⟩)
 | (none,r)=>(0,⟨r,true⟩)
theorem Eu:∀ (f:Nat) (fst:Bool) (n p:Nat) (bs:List Nat),(rdF f fst n p bs).2 <:+ bs
 | 0,_,_,_,bs=>List.suffix_refl _
 | _+1,_,_,_,[]=>List.suffix_refl _
 | f+1,fst,n,p,x :: bs=>by
   unfold rdF;split
   ·exact List.suffix_cons x bs
   ·exact (Eu f _ _ _ bs).trans (List.suffix_cons x bs)
theorem zl:∀ (f:Nat) (fst:Bool) (n p:Nat) (bs:List Nat) (m:Nat),(rdF f fst n p bs).1=some m→m≤4294967295∧(rdF f fst n p bs).2.length < bs.length
 | 0,_,_,_,bs,m,h=>by cases h
 | _+1,_,_,_,[],m,h=>by cases h
 | f+1,fst,n,p,x :: bs,m,h=>by
   unfold rdF at h ⊢;split at h
   ·rename_i hx;rw [if_pos hx];dsimp only at h ⊢;split at h
    ·cases h
    ·rename_i hn;cases h;simp only [not_or,Nat.not_lt] at hn;exact ⟨hn.2,Nat.lt_succ_self _⟩
   ·rename_i hx;rw [if_neg hx];obtain ⟨h1,h2⟩:=zl f _ _ _ bs m h;exact ⟨h1,Nat.lt_succ_of_lt h2⟩
theorem jl (s:Rs):(bN s).2.rest <:+ s.rest:=by
 unfold bN;split
 ·exact List.suffix_refl _
 ·have:=Eu 5 true 0 1 s.rest;split <;> rename_i h <;> rw [h] at this <;> exact this
theorem uI {s:Rs} (h:(bN s).2.bad=false):(bN s).2.rest.length < s.rest.length∧s.bad=false:=by
 unfold bN at h ⊢
 by_cases hb:s.bad=true
 ·rw [if_pos hb] at h;rw [hb] at h;cases h
 ·rw [if_neg hb] at h ⊢;split at h
  ·rename_i n r hr;have:=(zl 5 true 0 1 s.rest n (by rw [hr])).2;rw [hr] at this;exact ⟨this,by simpa using hb⟩
  ·cases h
theorem Ld {b r:List Nat} (h:r <:+ b):b.drop (b.length - r.length)=r:=by
 obtain ⟨t,rfl⟩:=h;rw [List.length_append,Nat.add_sub_cancel,List.drop_left]
end Go.Proofs.Ytkafcpnahpfbfaa
end
