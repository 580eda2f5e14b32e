/- Whole codes and functions: what the plain reading says, the program does. -/
import Derived.Test.YtffcpijeebagfaaMf2
import Derived.Test.YtffcpijeebagfaaProg
import Derived.IntWalk
set_option linter.unusedSimpArgs false
set_option linter.unusedVariables false
section
namespace Go.Proofs.Ytffcpijeebagfaa
open Go Go.RowKit
theorem exists_least (p:Nat→Prop) (h:∃ n,p n):∃ n,p n∧∀ m,p m→n≤m:=by
 obtain ⟨n,hn⟩:=h
 induction n using Nat.strongRecOn with
 | _ n ih =>
   by_cases hm:∃ m,m < n∧p m
   ·obtain ⟨m,hlt,hp⟩:=hm;exact ih m hlt hp
   ·exact ⟨n,hn,fun m hp=>by
     rcases Nat.lt_or_ge m n with h | h
     ·exact absurd ⟨m,h,hp⟩ hm
     ·exact h⟩
theorem wp_loop_ix {P:Program} {Q:Exit→Act→World→Prop} {a:Act} {w:World} {c:Code} (I:Nat→Act→World→Prop) (h0:∃ n,I n a w)
 (round:∀ n a w,I n a w→c.wp P (Exit.then (fun a' w'=>∃ m,m < n∧I m a' w') Q) a w):(Code.loop c).wp P Q a w:=by
 classical
 let μ:Act→World→Nat:=fun a w=>if h:∃ n,I n a w then Classical.choose (exists_least _ h) else 0
 have hμ:∀ a w (h:∃ n,I n a w),I (μ a w) a w∧∀ m,I m a w→μ a w≤m:=fun a w h=>by
  have h1:μ a w=Classical.choose (exists_least _ h):=dif_pos h;rw [h1];exact Classical.choose_spec (exists_least _ h)
 refine wp_loop (fun a w=>∃ n,I n a w) μ h0 (fun a w h=>?_);refine wp_mono (round _ a w (hμ a w h).1) (fun e a' w' he=>?_)
 cases e with
 | normal =>
   obtain ⟨m,hlt,hm⟩:=he;exact ⟨⟨m,hm⟩,Nat.lt_of_le_of_lt ((hμ a' w' ⟨m,hm⟩).2 m hm) hlt⟩
 | _=>exact he
section
variable {P:Program} {n:Nat} {w0:World} {S0:Nat→Nat}
def backs:PC→Bool
 | .reg true ops=>backOk ops
 | .seq a b=>backs a && backs b
 | .cond _ a b=>backs a && backs b
 | .block _ c=>backs c
 | .loop c=>backs c
 | _=>true
theorem code_sound [Bor] [I:WInv] {env:Env} (hE:EnvOK P env) (hp:∀ w,ButB w0.heap.size w0 w→I.p w) {eqs:List (Nat×List Bool)} (heq:∀ p,p ∈ eqs→EqT P p.1 p.2) (hm:P.follows .mixedOrders=true):∀ (c:Code) (pc:PC),compC P n eqs c=some pc→backs pc=true →
 ∀ (Q:Exit→St→Prop) (W:Wit) (s:St) (a:Act) (w:World),pwp env pc Q s→Sim w0 S0 n W s a w→c.wp P (fun e a' w'=>∃ W' s',Sim w0 S0 n W' s' a' w'∧Q e s') a w:=by
 intro c
 induction c with
 | skip=>intro pc hc _ Q W s a w h hs;simp [compC] at hc;subst hc;exact wp_skip ⟨W,s,hs,h⟩
 | region id ops draw =>
   intro pc hc hb Q W s a w h hs;simp only [compC,Option.map_eq_some_iff] at hc;obtain ⟨is,his,rfl⟩:=hc;have hmap:=allSome_get _ _ his
   cases draw with
   | false =>
     refine wp_region ?_;have hlen:is.length=ops.size:=by have:=congrArg List.length hmap;simp at this;omega
     have:=pi_ops hE hp heq (ops:=ops) (Q:=fun e a' w'=>∃ W' s',Sim w0 S0 n W' s' a' w'∧Q e s') (K:=Q .normal) (fun s W a w h1 h2=>⟨W,s,h2,h1⟩) is 0 W s a w (by simpa using hmap) hs h;rw [hlen] at this;rw [List.range_eq_range'];exact this
   | true=>exact draw_sound hE hp heq hm hmap (fun s W a w h1 h2=>⟨W,s,h2,h1⟩) hs hb h id
 | seq x y ihx ihy =>
   intro pc hc hb Q W s a w h hs;simp only [compC] at hc;split at hc
   ·rename_i px py hx hy;cases hc;simp only [backs,Bool.and_eq_true] at hb;refine wp_seq (wp_mono (ihx px hx hb.1 _ W s a w h hs) (fun e a' w' he=>?_));obtain ⟨W',s',hs',hq⟩:=he
    cases e with
    | normal=>exact ihy py hy hb.2 Q W' s' a' w' hq hs'
    | _=>exact ⟨W',s',hs',hq⟩
   ·cases hc
 | cond co x y ihx ihy =>
   intro pc hc hb Q W s a w h hs;simp only [compC] at hc;split at hc
   ·rename_i pcn px py hcn hx hy;cases hc;simp only [backs,Bool.and_eq_true] at hb;obtain ⟨t,ht,h1,h2⟩:=withSome_iff.1 h;exact wp_cond_split (boo_ev hs hcn ht) (fun he=>ihx px hx hb.1 Q W s a w (h1 he) hs) (fun he=>ihy py hy hb.2 Q W s a w (h2 he) hs)
   ·cases hc
 | block id x ih =>
   intro pc hc hb Q W s a w h hs;simp only [compC,Option.map_eq_some_iff] at hc;obtain ⟨px,hx,rfl⟩:=hc;refine wp_block (wp_mono (ih px hx hb _ W s a w h hs) (fun e a' w' he=>?_));obtain ⟨W',s',hs',hq⟩:=he
   cases e with
   | exit i =>
     by_cases hi:i=id
     ·simp only [hi,if_true] at hq;simp only [Exit.inBlock,hi,if_true];exact ⟨W',s',hs',hq⟩
     ·simp only [hi,if_false] at hq;simp only [Exit.inBlock,hi,if_false];exact ⟨W',s',hs',hq⟩
   | _=>exact ⟨W',s',hs',hq⟩
 | loop x ih =>
   intro pc hc hb Q W s a w h hs;simp only [compC,Option.map_eq_some_iff] at hc;obtain ⟨px,hx,rfl⟩:=hc;obtain ⟨I,⟨k,hk⟩,hr⟩:=h;refine wp_loop_ix (fun k a w=>∃ W s,Sim w0 S0 n W s a w∧I k s) ⟨k,W,s,hs,hk⟩ (fun k a w h=>?_);obtain ⟨W,s,hs,hI⟩:=h;refine wp_mono (ih px hx hb _ W s a w (hr k s hI) hs) (fun e a' w' he=>?_);obtain ⟨W',s',hs',hq⟩:=he
   cases e with
   | normal =>
     obtain ⟨m,hlt,hm⟩:=hq;exact ⟨m,hlt,W',s',hs',hm⟩
   | _=>exact ⟨W',s',hs',hq⟩
 | exit id=>intro pc hc _ Q W s a w h hs;simp [compC] at hc;subst hc;exact wp_exit ⟨W,s,hs,h⟩
 | ret=>intro pc hc _ Q W s a w h hs;simp [compC] at hc;subst hc;exact wp_ret ⟨W,s,hs,h⟩
 | rangeFunc=>intro pc hc;simp [compC] at hc
 | scope=>intro pc hc;simp [compC] at hc
 | label=>intro pc hc;simp [compC] at hc
 | goto=>intro pc hc;simp [compC] at hc
 | refuse=>intro pc hc;simp [compC] at hc
end
inductive PR where
 | t (x:Nat)
 | c (x:Nat) (k:Option Nat)
def compR (P:Program):ResultVar→Option PR
 | .tmp t=>some (.t t)
 | .cell a t=>(szT P t).map (.c a)
def St.res1 (s:St):PR→Option Pa
 | .t x=>match s.sl x with
   | .b (.one (.sv o g off ln _ sz))=>if s.gen o=g then (match s.ob o with
     | .cells cs=>if off+ln * sz≤cs.length then (allSome (((cs.drop off).take (ln * sz)).map Cl.dt)).map fun xs=>.one (.im (chunks ln sz xs)) else none
     | _=>none) else none
   | v=>v.pa
 | .c x k=>match s.sl x with
   | .b (.one (.ptr o g off))=>if s.gen o=g then (match s.ob o with | .cells cs=>(mkAv k cs off).bind Av.pa | _=>none) else none
   | _=>none
def St.res (s:St) (rs:List PR):Option (List Pa):=allSome (rs.map s.res1)
def St.init (az:List Pa):St:=⟨fun x=>match az[x]? with | some p=>.b p.bv | none=>.un,fun _=>0,fun _=>.no,fun _=>0⟩
def noSv (s:St):PR→Bool
 | .t x=>match s.sl x with
   | .b (.one (.sv _ _ _ _ _ _))=>false
   | _=>true
 | .c _ _=>true
def St.initM (ds:List Dt) (az:List Pa):St:=⟨fun x=>match x with
 | 0=>.b (.one (.ptr 0 0 0))
 | k+1=>match az[k]? with | some p=>.b p.bv | none=>.un,fun _=>0,fun o=>if o=0 then .cells (ds.map .d) else .no,fun _=>0⟩
def rvSem (tmps:Array Value):ResultVar→Sem Value
 | .tmp t=>pure (tmps.getD t undef)
 | .cell a t=>do loadVar t (←asAddr (tmps.getD a undef))
def inAb (W:Wit) (s:St) (b:Nat):Prop:=(∃ o H,s.ob o=.ab H∧W.fp o b)∨∃ o f,s.ob o=.hp f∧cl W o (.hp f) b
def W00 (blk:Nat→Nat) (S:Nat→Nat):Wit:=⟨blk,fun _=>undef,fun _=>undef,fun _ _=>False,S,fun _=>0,fun _=>undef,fun _ _=>False,fun _=>0,fun _=>False⟩
abbrev noBor:Bor:=⟨none,fun _=>False,fun _=>False,fun _=>0,fun _=>undef⟩
theorem noBor_fp (b:Nat):¬ @Bor.fp noBor b:=fun h=>by
 rcases h with h | h
 ·cases h
 ·exact h
open Classical in
noncomputable def frz (w0:World) (W:Wit) (s:St) (w:World):Nat→Nat:=fun b=>if b < w0.heap.size then W.S b else if inAb W s b then 0 else W.S b+(match w.heap[b]? with | some (.cells arr _ _)=>arr.size | _=>0)
theorem frz_ext [Bor] {n:Nat} {S0:Nat→Nat} {a:Act} {w0:World} {W:Wit} {s:St} {w:World} (hs:Sim w0 S0 n W s a w):Ext W.S (frz w0 W s w) w w:=fun b i h1 _=>by
 refine ⟨?_,rfl⟩;unfold frz;split
 ·exact h1
 ·split
  ·rename_i hab
   rcases hab with ⟨o,H,ho,hf⟩ | ⟨o,f,ho,m,hf⟩
   ·have:=hs.ob o;rw [ho] at this;rw [(this.2 b hf).2] at h1;omega
   ·have:=hs.ob o;rw [ho] at this;rw [(this.mine m b hf).2.1] at h1;omega
  ·omega
theorem RP.ext {S S':Nat→Nat} {w w':World} (h:Ext S S' w w') {p:Pa} {v:Value} (hp:RP S w p v):RP S' w' p v:=by
 cases p with
 | one x=>exact RD.ext h hp
 | agg xs=>obtain ⟨arr,h1,h2,h3⟩:=hp;exact ⟨arr,h1,h2,fun i x u e1 e2=>RD.ext h (h3 i x u e1 e2)⟩
theorem chunks_length {α:Type} (n sz:Nat) (xs:List α):(chunks n sz xs).length=n:=by rw [chunks_eq];simp
theorem chunks_get {α:Type} {n sz i:Nat} {xs:List α} {r:List α} (h:(chunks n sz xs)[i]? = some r):i < n∧r=(xs.drop (i * sz)).take sz:=by
 have hi:=(List.getElem?_eq_some_iff.1 h).1;rw [chunks_length] at hi;rw [chunks_eq,List.getElem?_map,List.getElem?_range hi] at h;simp only [Option.map_some,Option.some.injEq] at h;exact ⟨hi,h.symm⟩
theorem run_res1 [Bor] {P:Program} {n:Nat} {w0:World} {S0:Nat→Nat} {W:Wit} {s:St} {a:Act} {w:World} (hs:Sim w0 S0 n W s a w) {rv:ResultVar} {r:PR} {p:Pa} (hr:compR P rv=some r) (hp:s.res1 r=some p) (hn:(∀ b,¬ Bor.fp b)∨noSv s r=true) :
 ∃ v,(rvSem a.tmps rv).run P w=.ok v w∧RP (frz w0 W s w) w p v:=by
 cases rv with
 | tmp t =>
   cases hr;refine ⟨_,rfl,?_⟩;simp only [St.res1] at hp;split at hp
   ·rename_i o g off ln cap sz hsl;split at hp
    ·rename_i hg;split at hp
     ·rename_i cs hob;split at hp
      ·rename_i hle;simp only [Option.map_eq_some_iff] at hp;obtain ⟨xs,hxs,rfl⟩:=hp;have h1:=hs.sl t;rw [hsl] at h1;obtain ⟨b,hv,hlc,hcm,_,hb⟩:=h1;have hb:=hb hg.symm;subst hb;have hro:=hs.ob o;rw [hob] at hro;obtain ⟨arr,T,h4,h5,h6,h7⟩:=hro;have hall:=allSome_get _ _ hxs
       have hxl:xs.length=ln * sz:=by
        have:=congrArg List.length hall;simp at this;omega
       rw [hv]
       have hge:w0.heap.size≤W.blk o:=by
        rcases hn with hn | hn
        ·exact h5.elim id (fun hf=>absurd hf (hn _))
        ·simp only [noSv,hsl] at hn;cases hn
       have hrl:=chunks_length ln sz xs
       show RD (frz w0 W s w) w (.im (chunks ln sz xs)) _
       have:=RD.block (S:=frz w0 W s w) (w:=w) (rows:=chunks ln sz xs) (b:=W.blk o) (o:=off) (cap:=cap) (sz:=sz) (vs:=(arr.toList.drop off).take (ln * sz)) (fun r hr=>?_) ?_ (fun j u hj=>?_) (by rw [hrl];exact hlc) hcm (fun i r j x hr hx=>?_)
       ·rw [hrl] at this;exact this
       ·obtain ⟨i,hi⟩:=List.getElem?_of_mem hr;obtain ⟨h8,rfl⟩:=chunks_get hi;rw [List.length_take,List.length_drop,hxl];have:(i+1) * sz≤ln * sz:=Nat.mul_le_mul_right _ h8;rw [Nat.add_mul,Nat.one_mul] at this;omega
       ·rw [hrl,List.length_take,List.length_drop,←h7.1];omega
       ·rw [List.getElem?_take] at hj;split at hj
        ·rw [List.getElem?_drop] at hj;have hlt:=(List.getElem?_eq_some_iff.1 hj).1;refine ⟨?_,?_⟩
         ·simp only [World.cell?,h4]
          simpa using hj
         ·unfold frz
          rw [if_neg (by omega),if_neg (fun hab=>by
           rcases hab with ⟨o2,H,ho2,hf⟩ | ⟨o2,f,ho2,hf⟩ <;>
            (have he:=hs.ex o o2 (W.blk o) (by rw [hob];rfl) (by rw [ho2];exact hf)
             subst he;rw [hob] at ho2;cases ho2)),h4]
          simp at hlt ⊢;omega
        ·cases hj
       ·obtain ⟨h8,rfl⟩:=chunks_get hr;rw [List.getElem?_take] at hx;split at hx
        ·rename_i hj;rw [List.getElem?_drop] at hx;have h9:(((cs.drop off).take (ln * sz)).map Cl.dt)[i * sz+j]? = some (some x):=by rw [hall,List.getElem?_map,hx];rfl
         rw [List.getElem?_map,Option.map_eq_some_iff] at h9;obtain ⟨c,hc,hcd⟩:=h9
         have hlt:i * sz+j < ln * sz:=by
          have:(i+1) * sz≤ln * sz:=Nat.mul_le_mul_right _ h8;rw [Nat.add_mul,Nat.one_mul] at this;omega
         rw [List.getElem?_take,if_pos hlt,List.getElem?_drop] at hc;obtain ⟨u,hu⟩:∃ u,arr.toList[off+(i * sz+j)]? = some u:=⟨_,List.getElem?_eq_getElem (by have:=(List.getElem?_eq_some_iff.1 hc).1;rw [←h7.1];exact this)⟩
         refine ⟨u,by rw [List.getElem?_take,if_pos hlt,List.getElem?_drop];exact hu,RD.ext (frz_ext hs) (RC.dt (h7.2 _ _ _ hc hu) hcd)⟩
        ·cases hx
      ·cases hp
     ·cases hp
    ·cases hp
   ·exact RP.ext (frz_ext hs) (RA.pa (hs.sl t) hp)
 | cell c t =>
   simp only [compR,Option.map_eq_some_iff] at hr;obtain ⟨k,hk,rfl⟩:=hr;obtain ⟨d,i,hu,hi,hkk⟩:=szT_inv hk;simp only [St.res1] at hp;split at hp
   ·rename_i o g off hsl;split at hp
    ·rename_i hg;split at hp
     ·rename_i cs hob;simp only [Option.bind_eq_some_iff] at hp;obtain ⟨v,hv,hp⟩:=hp;have h1:=hs.sl c;rw [hsl] at h1;have h2:=h1.2.2 hg.symm;have hro:=hs.ob o;rw [hob] at hro;obtain ⟨arr,T,h4,h5,h6,h7⟩:=hro
      have hcell:∀ (j:Nat) u,arr.toList[j]? = some u→w.cell? ⟨W.blk o,j,none⟩=some u:=fun j u hj=>by
       simp only [World.cell?,h4]
       simpa using hj
      have hag:=run_isAgg (P:=P) hu w;unfold rvSem;dsimp only;rw [h2]
      rcases mkAv_cells h7 hv with ⟨rfl,c',u,e1,e2,rfl,e3⟩ | ⟨m,rfl,e1,rfl,e2⟩
      ·have hf:aggT d=false:=by cases h:aggT d <;> simp [h] at hkk ⊢
       rw [hf] at hag;refine ⟨u,?_,RP.ext (frz_ext hs) (RA.pa (G:=s.gen) (O:=s.ob) (v:=.b (.one c')) e3 hp)⟩;simp [asAddr,loadVar,hag,hcell off u e2]
      ·have ht:aggT d=true:=by cases h:aggT d <;> simp [h] at hkk ⊢
       rw [ht] at hag hkk;simp at hkk;subst hkk;have hlen:((arr.toList.drop off).take i.size).length=i.size:=by simp at e1 ⊢;omega
       have hl:=run_loadCells_list (P:=P) w ⟨W.blk o,off,none⟩ ((arr.toList.drop off).take i.size) (fun j u hj=>by
        rw [addr_add];rw [List.getElem?_take] at hj;split at hj
        ·rw [List.getElem?_drop] at hj;exact hcell _ _ hj
        ·cases hj)
       rw [hlen] at hl;refine ⟨.agg ((arr.toList.drop off).take i.size).toArray,?_,RP.ext (frz_ext hs) (RA.pa (G:=s.gen) (O:=s.ob) (v:=.b (.agg ((cs.drop off).take i.size))) ⟨_,rfl,by simpa using e2⟩ hp)⟩;simp only [asAddr,Sem.run_bind,Sem.run_pure,Result.andThen_ok,loadVar,hag,if_true,sizeOf,typeInfo,run_program,hi,hl]
     ·cases hp
    ·cases hp
   ·cases hp
theorem run_results [Bor] {P:Program} {n:Nat} {w0:World} {S0:Nat→Nat} {W:Wit} {s:St} {a:Act} {w:World} (hs:Sim w0 S0 n W s a w):∀ (rvs:List ResultVar) (prs:List PR) (ps:List Pa),allSome (rvs.map (compR P))=some prs→s.res prs=some ps→((∀ b,¬ Bor.fp b)∨prs.all (noSv s)=true) →
 ∃ vs:List Value,(rvs.mapM (rvSem a.tmps)).run P w=.ok vs w∧ps.length=vs.length∧∀ (i:Nat) p u,ps[i]? = some p→vs[i]? = some u→RP (frz w0 W s w) w p u
 | [],prs,ps,h1,h2,hn=>by
   simp [allSome] at h1;subst h1;simp [St.res,allSome] at h2;subst h2;exact ⟨[],by simp,rfl,fun i p u h=>by simp at h⟩
 | rv :: rvs,prs,ps,h1,h2,hn=>by
   simp only [List.map_cons] at h1
   cases hr:compR P rv with
   | none=>rw [hr] at h1;simp [allSome] at h1
   | some r =>
     rw [hr] at h1;simp only [allSome,Option.map_eq_some_iff] at h1;obtain ⟨prs',hp,rfl⟩:=h1;simp only [St.res,List.map_cons] at h2
     cases hr1:s.res1 r with
     | none=>rw [hr1] at h2;simp [allSome] at h2
     | some p =>
       rw [hr1] at h2;simp only [allSome,Option.map_eq_some_iff] at h2;obtain ⟨ps',hps,rfl⟩:=h2;obtain ⟨v,h3,h4⟩:=run_res1 hs hr hr1 (hn.imp id fun h=>by simp only [List.all_cons,Bool.and_eq_true] at h;exact h.1)
       obtain ⟨vs,h5,h6,h7⟩:=run_results hs rvs prs' ps' hp hps (hn.imp id fun h=>by simp only [List.all_cons,Bool.and_eq_true] at h;exact h.2)
       refine ⟨v :: vs,?_,by simp [h6],fun i q u e1 e2=>?_⟩
       ·rw [List.mapM_cons,Sem.run_bind,h3,Result.andThen_ok,Sem.run_bind,h5];rfl
       ·cases i with
        | zero=>simp at e1 e2;subst e1;subst e2;exact h4
        | succ i=>exact h7 i q u (by simpa using e1) (by simpa using e2)
theorem ButB.none {w w':World} {B:Nat} (h:@ButB noBor B w w'):Below B w w':=by
 letI:Bor:=noBor
 exact ⟨h.os,h.tape,h.output,h.size,fun k hk=>h.block k hk (noBor_fp k)⟩
theorem fn_sound [I:WInv] {P:Program} {env:Env} (hE:EnvOK P env) {eqs:List (Nat×List Bool)} (heq:∀ p,p ∈ eqs→EqT P p.1 p.2) (hm:P.follows .mixedOrders=true) {f:Nat} {fn:Func} {c:Code} {pc:PC} {prs:List PR} (hf:P.funcs[f]? = some fn) (hb:fn.body=some c)
 (hc:compC P fn.ntmps eqs c=some pc) (hback:backs pc=true) (hsm:Nat.ble fn.ntmps HALL=true) (hr:allSome (fn.results.toList.map (compR P))=some prs) {R:List Pa→List Pa→Prop}
 (hR:∀ az rs,R az rs→az.length≤fn.ntmps∧pwp env pc (fun e s=>(e=.normal∨e=.ret)∧s.res prs=some rs) (St.init az)):Spec P f R:=by
 intro az rs has S w vals hwi hvals;obtain ⟨hlen,hw⟩:=hR az rs has
 letI:Bor:=noBor
 refine calls_of_wp hf hb ?_
 have hinit:Sim w S fn.ntmps (W00 (fun _=>0) S) (St.init az) { tmps:=vals ++ Array.replicate (fn.ntmps - vals.size) undef,defers:=[] } w:=by
  refine ⟨ButB.refl _ _,fun _ _=>rfl,?_,rfl,fun x=>?_,fun _=>trivial,fun o o' b h=>h.elim,(fun b h=>by cases h),rfl,fun b=>⟨fun h=>h.elim,fun h=>h rfl⟩,Nat.le_of_ble_eq_true hsm,fun b h=>h.elim⟩
  ·have:=hvals.1;simp;omega
  ·show RA _ _ _ _ (match az[x]? with | some p=>.b p.bv | none=>.un) _
   cases hx:az[x]? with
   | none=>trivial
   | some p =>
     have hlt:x < vals.size:=by rw [←hvals.1];exact (List.getElem?_eq_some_iff.1 hx).1
     have:(vals ++ Array.replicate (fn.ntmps - vals.size) undef).getD x undef=vals[x]:=by
      rw [Array.getD_eq_getD_getElem?,Array.getElem?_append_left hlt,Array.getElem?_eq_getElem hlt];rfl
     rw [this];exact RP.av (W:=(W00 (fun _=>0) S)) (hvals.2 x p _ hx (Array.getElem?_eq_getElem hlt))
 refine wp_mono (code_sound hE (fun w2 h2=>I.keep _ _ (ButB.none h2) hwi) heq hm c pc hc hback _ _ _ _ _ hw hinit) (fun e a' w' he=>?_);obtain ⟨W',s',hs',hret,hres⟩:=he
 have hfin:bodyPost P fn (fun e w'=>∃ v S',e=.returned v∧RR S' w' rs v∧Below w.heap.size w w'∧∀ b,b < w.heap.size→S' b=S b) .ret a' w':=by
  refine ⟨hs'.dfs,?_⟩;obtain ⟨vs,h1,h2,h3⟩:=run_results (P:=P) hs' fn.results.toList prs rs hr hres (.inl noBor_fp)
  have h4:(results fn a'.tmps).run P w'=.ok (if h:vs.length=1 then vs[0] else .tuple vs.toArray) w':=by
   have h5:results fn a'.tmps=(fn.results.mapM (rvSem a'.tmps)) >>= fun vs=>pure (if h:vs.size=1 then vs[0] else .tuple vs):=by
    unfold results
    congr 1
   have h6:fn.results=fn.results.toList.toArray:=by simp
   rw [h5,h6,List.mapM_toArray,Sem.run_bind,Sem.run_map,h1];simp
  refine ⟨_,h4,_,frz w W' s' w',rfl,?_,ButB.none hs'.below,fun b hb=>by unfold frz;rw [if_pos hb];exact hs'.s0 b hb⟩
  match rs,vs,h2,h3 with
  | [],_,_,_=>trivial
  | [p],[v],_,h3=>exact h3 0 p v rfl rfl
  | p :: q :: r,vs,h2,h3 =>
    have hne:¬ vs.length=1:=by rw [←h2];simp
    rw [dif_neg hne];exact ⟨vs.toArray,rfl,by simpa using h2,fun i p u e1 e2=>h3 i p u e1 (by simpa using e2)⟩
 rcases hret with rfl | rfl
 ·exact hfin
 ·exact hfin
def St.initH (nc:Nat→Nat) (hp:Nat→Hb) (az:List Hw):St:=⟨fun x=>match az[x]? with | some p=>.b p.bv | none=>.un,fun _=>0,fun o=>if HBS≤o then .hp (fun b=>if HBS+nc b=o then hp b else .no) else .no,nc⟩
theorem initH_hb (nc:Nat→Nat) (hp:Nat→Hb) (az:List Hw):(St.initH nc hp az).hb=hp:=by
 funext b
 show heapOf (if HBS≤HBS+nc b then _ else _) b=hp b
 rw [if_pos (Nat.le_add_right _ _)]
 show (if HBS+nc b=HBS+nc b then hp b else .no)=_
 rw [if_pos rfl]
def St.resH1 (s:St):PR→Option Hw
 | .t x=>(s.sl x).hw
 | .c x k=>match s.sl x with
   | .b (.one (.ptr o g off))=>if s.gen o=g then (match s.ob o with | .cells cs=>(mkAv k cs off).bind Av.hw | _=>none) else none
   | .b (.one (.hv (.p b off)))=>match s.hb b with
     | .cells cs=>(mkAv k (cs.map Hc.cl) off).bind Av.hw
     | _=>none
   | _=>none
def St.resHs (s:St) (rs:List PR):Option (List Hw):=allSome (rs.map s.resH1)
theorem hw_of [Bor] {n:Nat} {w0:World} {S0:Nat→Nat} {W:Wit} {s:St} {a:Act} {w:World} {v:Av} {u:Hw} {rv':Value} (h:RA W s.gen s.ob w v rv') (hv:v.hw=some u):RB W s.gen s.ob w u.bv rv':=by
 unfold Av.hw at hv;split at hv
 ·rename_i y
  cases y with
  | one c =>
    simp only [Bv.hw,Option.map_eq_some_iff] at hv;obtain ⟨z,hz,rfl⟩:=hv;exact RC.hc h hz
  | agg cs =>
    simp only [Bv.hw,Option.map_eq_some_iff] at hv;obtain ⟨z,hz,rfl⟩:=hv;obtain ⟨arr,h1,h2⟩:=h;exact ⟨arr,h1,h2.hcs hz⟩
 ·cases hv
theorem load_part {P:Program} {t:TypeId} {d:TypeDesc} {i:TypeInfo} {k:Option Nat} (hu:P.underlying t=some d) (hi:P.info? t=some i) (hk:k=if aggT d=true then some i.size else none) {W:Wit} {s:St} {w:World} {b off:Nat} {cs:List Cl} {arr:Array Value} {v:Av}
 (hr:RCs W s.gen s.ob w cs arr.toList) (hcell:∀ (j:Nat) u,arr.toList[j]? = some u→w.cell? ⟨b,j,none⟩=some u) (hv:mkAv k cs off=some v):∃ rv',(loadVar t ⟨b,off,none⟩).run P w=.ok rv' w∧RA W s.gen s.ob w v rv':=by
 have hag:=run_isAgg (P:=P) hu w
 rcases mkAv_cells hr hv with ⟨rfl,c',u,e1,e2,rfl,e3⟩ | ⟨m,rfl,e1,rfl,e2⟩
 ·have hf:aggT d=false:=by cases h:aggT d <;> simp [h] at hk ⊢
  rw [hf] at hag;exact ⟨u,by simp [loadVar,hag,hcell off u e2],e3⟩
 ·have ht:aggT d=true:=by cases h:aggT d <;> simp [h] at hk ⊢
  rw [ht] at hag hk;simp at hk;subst hk;have hlen:((arr.toList.drop off).take i.size).length=i.size:=by simp at e1 ⊢;omega
  have hl:=run_loadCells_list (P:=P) w ⟨b,off,none⟩ ((arr.toList.drop off).take i.size) (fun j u hj=>by
   rw [addr_add];rw [List.getElem?_take] at hj;split at hj
   ·rw [List.getElem?_drop] at hj;exact hcell _ _ hj
   ·cases hj)
  rw [hlen] at hl;refine ⟨.agg ((arr.toList.drop off).take i.size).toArray,?_,_,rfl,by simpa using e2⟩;simp only [loadVar,hag,Sem.run_bind,Result.andThen_ok,if_true,sizeOf,typeInfo,run_program,hi,hl,Sem.run_pure]
theorem run_resH1 [Bor] {P:Program} {n:Nat} {w0:World} {S0:Nat→Nat} {W:Wit} {s:St} {a:Act} {w:World} (hs:Sim w0 S0 n W s a w) {rv0:ResultVar} {r:PR} {p:Hw} (hr:compR P rv0=some r) (hp:s.resH1 r=some p) :
 ∃ v,(rvSem a.tmps rv0).run P w=.ok v w∧RB W s.gen s.ob w p.bv v:=by
 cases rv0 with
 | tmp t=>cases hr;exact ⟨_,rfl,hw_of (n:=n) (w0:=w0) (S0:=S0) (a:=a) (hs.sl t) hp⟩
 | cell c t =>
   simp only [compR,Option.map_eq_some_iff] at hr;obtain ⟨k,hk,rfl⟩:=hr;obtain ⟨d,i,hu,hi,hkk⟩:=szT_inv hk;simp only [St.resH1] at hp;split at hp
   ·rename_i o g off hsl;split at hp
    ·rename_i hg;split at hp
     ·rename_i cs hob;simp only [Option.bind_eq_some_iff] at hp;obtain ⟨v,hv,hp⟩:=hp;have h1:=hs.sl c;rw [hsl] at h1;have h2:=h1.2.2 hg.symm;have hro:=hs.ob o;rw [hob] at hro;obtain ⟨arr,T,h4,h5,h6,h7⟩:=hro;obtain ⟨rv',g1,g2⟩:=load_part (P:=P) hu hi hkk (b:=W.blk o) h7 (fun j u hj=>by simp only [World.cell?,h4];simpa using hj) hv
      refine ⟨rv',?_,hw_of (n:=n) (w0:=w0) (S0:=S0) (a:=a) g2 hp⟩;unfold rvSem;dsimp only;rw [h2];simp [asAddr,g1]
     ·cases hp
    ·cases hp
   ·rename_i b off hsl;split at hp
    ·rename_i cs hb;simp only [Option.bind_eq_some_iff] at hp;obtain ⟨v,hv,hp⟩:=hp;have h1:=hs.sl c;rw [hsl] at h1;have h2:a.tmps.getD c undef=.pointer (some ⟨W.nm b,off,none⟩):=h1.1;obtain ⟨⟨arr,T,h4,h7⟩,_⟩:=rh_at hs hb (by simp);obtain ⟨rv',g1,g2⟩:=load_part (P:=P) hu hi hkk (b:=W.nm b) h7 (fun j u hj=>by simp only [World.cell?,h4];simpa using hj) hv
     refine ⟨rv',?_,hw_of (n:=n) (w0:=w0) (S0:=S0) (a:=a) g2 hp⟩;unfold rvSem;dsimp only;rw [h2];simp [asAddr,g1]
    ·cases hp
   ·cases hp
theorem run_resHs [Bor] {P:Program} {n:Nat} {w0:World} {S0:Nat→Nat} {W:Wit} {s:St} {a:Act} {w:World} (hs:Sim w0 S0 n W s a w):∀ (rvs:List ResultVar) (prs:List PR) (ps:List Hw),allSome (rvs.map (compR P))=some prs→s.resHs prs=some ps →
 ∃ vs:List Value,(rvs.mapM (rvSem a.tmps)).run P w=.ok vs w∧ps.length=vs.length∧∀ (i:Nat) p u,ps[i]? = some p→vs[i]? = some u→RB W s.gen s.ob w p.bv u
 | [],prs,ps,h1,h2=>by
   simp [allSome] at h1;subst h1;simp [St.resHs,allSome] at h2;subst h2;exact ⟨[],by simp,rfl,fun i p u h=>by simp at h⟩
 | rv0 :: rvs,prs,ps,h1,h2=>by
   simp only [List.map_cons] at h1
   cases hr:compR P rv0 with
   | none=>rw [hr] at h1;simp [allSome] at h1
   | some r =>
     rw [hr] at h1;simp only [allSome,Option.map_eq_some_iff] at h1;obtain ⟨prs',hp,rfl⟩:=h1;simp only [St.resHs,List.map_cons] at h2
     cases hr1:s.resH1 r with
     | none=>rw [hr1] at h2;simp [allSome] at h2
     | some p =>
       rw [hr1] at h2;simp only [allSome,Option.map_eq_some_iff] at h2;obtain ⟨ps',hps,rfl⟩:=h2;obtain ⟨v,h3,h4⟩:=run_resH1 hs hr hr1;obtain ⟨vs,h5,h6,h7⟩:=run_resHs hs rvs prs' ps' hp hps;refine ⟨v :: vs,?_,by simp [h6],fun i q u e1 e2=>?_⟩
       ·rw [List.mapM_cons,Sem.run_bind,h3,Result.andThen_ok,Sem.run_bind,h5];rfl
       ·cases i with
        | zero=>simp at e1 e2;subst e1;subst e2;exact h4
        | succ i=>exact h7 i q u (by simpa using e1) (by simpa using e2)
def Wit.fin (W:Wit) (S':Nat→Nat):Wit:={ W with S:=S' }
theorem RHp.of_init {W:Wit} {w:World} {hp:Nat→Hb} (h:RHp W w hp) (nc:Nat→Nat) (az:List Hw) {o:Nat} (ho:HBS≤o) [Bor] (hB:∀ k,hpFp W hp k→Bor.fp k) :
 RP' w.heap.size { W with nc:=nc,blk:=fun _=>0,val:=fun _=>undef,adr:=fun _=>undef,fp:=fun _ _=>False } (St.initH nc hp az).gen (St.initH nc hp az).ob w o (fun b=>if HBS+nc b=o then hp b else .no):=by
 refine ⟨fun b hn=>?_,fun b hn=>?_,fun b k hk=>?_,fun b=>?_,fun b b' k e1 e2=>?_⟩
 ·split at hn
  ·rename_i he;exact he
  ·exact absurd rfl hn
 ·split at hn
  ·exact (h.lv b).2 hn
  ·exact absurd rfl hn
 ·split at hk
  ·have hk':=(hcl.indep (W:=W) rfl rfl rfl b (hp b) k).1 hk;exact ⟨.inr (hB k ⟨b,hk'⟩),(h.mine b k hk').1,(h.mine b k hk').2⟩
  ·exact hk.elim
 ·split
  ·refine RH.indep (W:=W) ?_ ?_ ?_ ?_ ?_ (h.at_ b) <;> rfl
  ·trivial
 ·split at e1
  ·split at e2
   ·exact h.ex b b' k ((hcl.indep (W:=W) rfl rfl rfl b (hp b) k).1 e1) ((hcl.indep (W:=W) rfl rfl rfl b' (hp b') k).1 e2)
   ·exact e2.elim
  ·exact e1.elim
theorem RHp.dead {W:Wit} {w:World} {hp hp':Nat→Hb} (h:RHp W w hp) (hd:∀ b,hp' b=hp b∨(hp' b=.dead∧hp b≠.no)):RHp W w hp':=by
 have hc:∀ b k,hcl W b (hp' b) k→hcl W b (hp b) k:=fun b k hk=>by
  rcases hd b with e | ⟨e,_⟩
  ·rw [←e];exact hk
  ·rw [e] at hk;exact hk.elim
 refine ⟨fun b=>?_,fun b k hk=>h.mine b k (hc b k hk),fun b=>?_,fun b b' k e1 e2=>h.ex b b' k (hc b k e1) (hc b' k e2)⟩
 ·rw [h.lv b]
  rcases hd b with e | ⟨e,e2⟩
  ·rw [e]
  ·rw [e];exact ⟨fun _=>by simp,fun _=>e2⟩
 ·rcases hd b with e | ⟨e,_⟩
  ·rw [e];exact h.at_ b
  ·rw [e];trivial
theorem fn_sound_p [I:WInv] {P:Program} {env:Env} (hE:EnvOK P env) {eqs:List (Nat×List Bool)} (heq:∀ p,p ∈ eqs→EqT P p.1 p.2) (hm:P.follows .mixedOrders=true) {f:Nat} {fn:Func} {c:Code} {pc:PC} {prs:List PR} (hf:P.funcs[f]? = some fn) (hb:fn.body=some c)
 (hc:compC P fn.ntmps eqs c=some pc) (hback:backs pc=true) (hsm:Nat.ble fn.ntmps HALL=true) (hr:allSome (fn.results.toList.map (compR P))=some prs) {R:(Nat→Hb)→List Hw→((Nat→Hb)→List Hw→Prop)→Prop}
 (hR:∀ hp az Post,R hp az Post→az.length≤fn.ntmps∧∃ nc,pwp env pc (fun e s=>(e=.normal∨e=.ret)∧∃ hp' rs,s.resHs prs=some rs∧(∀ b,hp' b=s.hb b∨(hp' b=.dead∧s.hb b≠.no))∧Post hp' rs) (St.initH nc hp az)):SpecP P f R:=by
 intro hp az Post has W w vals hI hrp hvals;obtain ⟨hlen,nc,hw⟩:=hR hp az Post has
 letI:Bor:=⟨none,hpFp W hp,W.lv,W.nm,W.nv⟩
 have hfpB:∀ k,Bor.fp k↔hpFp W hp k:=fun k=>⟨fun h=>h.elim (fun h=>by cases h) id,.inr⟩
 have toF:∀ {w':World},ButB w.heap.size w w'→ButF (hpFp W hp) w w':=fun h=>⟨h.os,h.tape,h.output,h.size,fun k hk hne=>h.block k hk (fun e=>hne ((hfpB k).1 e))⟩
 obtain ⟨W0,hW0⟩:∃ W0:Wit,{ W with nc:=nc,blk:=fun _=>0,val:=fun _=>undef,adr:=fun _=>undef,fp:=fun _ _=>False }=W0:=⟨_,rfl⟩
 refine calls_of_wp hf hb ?_
 have hcl0:∀ o b,cl W0 o ((St.initH nc hp az).ob o) b→HBS≤o∧∃ m,HBS+nc m=o∧hcl W m (hp m) b:=fun o b h=>by
  have h':cl W0 o (if HBS≤o then .hp (fun b=>if HBS+nc b=o then hp b else .no) else .no) b:=h;split at h'
  ·rename_i ho;obtain ⟨m,hm2⟩:=h';dsimp only at hm2;split at hm2
   ·rename_i he;exact ⟨ho,m,he,(hcl.indep (W:=W) (by rw [←hW0]) (by rw [←hW0]) (by rw [←hW0]) m (hp m) b).1 hm2⟩
   ·exact hm2.elim
  ·exact h'.elim
 have hinit:Sim w W.S fn.ntmps W0 (St.initH nc hp az) { tmps:=vals ++ Array.replicate (fn.ntmps - vals.size) undef,defers:=[] } w:=by
  refine ⟨ButB.refl _ _,fun b _=>by rw [←hW0],?_,rfl,fun x=>?_,fun o=>?_,fun o o' b h h'=>?_,(fun b h=>by cases h),by rw [←hW0];rfl,fun b=>by rw [initH_hb,←hW0];exact hrp.lv b,Nat.le_of_ble_eq_true hsm,fun b hb2=>by rw [←hW0];exact ⟨hb2,rfl,rfl⟩⟩
  ·have:=hvals.1;simp;omega
  ·show RA _ _ _ _ (match az[x]? with | some p=>.b p.bv | none=>.un) _
   cases hx:az[x]? with
   | none=>trivial
   | some p =>
     have hlt:x < vals.size:=by rw [←hvals.1];exact (List.getElem?_eq_some_iff.1 hx).1
     have:(vals ++ Array.replicate (fn.ntmps - vals.size) undef).getD x undef=vals[x]:=by
      rw [Array.getD_eq_getD_getElem?,Array.getElem?_append_left hlt,Array.getElem?_eq_getElem hlt];rfl
     rw [this];exact RB.indep (W:=W) (by rw [←hW0]) (by rw [←hW0]) (by rw [←hW0]) (by rw [←hW0]) (hvals.2 x p _ hx (Array.getElem?_eq_getElem hlt))
  ·show RO _ _ _ _ _ _ (if HBS≤o then .hp (fun b=>if HBS+nc b=o then hp b else .no) else .no)
   split
   ·rename_i ho;rw [←hW0];exact hrp.of_init nc az ho (fun k hk=>(hfpB k).2 hk)
   ·trivial
  ·obtain ⟨_,m,h1,h2⟩:=hcl0 o b h;obtain ⟨_,m',h3,h4⟩:=hcl0 o' b h';have:=hrp.ex m m' b h2 h4;subst this;rw [←h1,←h3]
 refine wp_mono (code_sound hE (fun w2 h2=>hI w2 (toF h2)) heq hm c pc hc hback _ _ _ _ _ hw hinit) (fun e a' w' he=>?_);obtain ⟨W',s',hs',hret,hp',rs,hres,hhb,hPost⟩:=he
 have hfin:bodyPost P fn (fun e w'=>∃ hp' rs,Post hp' rs∧∃ u W',e=.returned u∧RRH W' w' rs u∧RHp W' w' hp'∧(∀ b,W.lv b→W'.lv b∧W'.nm b=W.nm b∧W'.nv b=W.nv b)∧ButF (hpFp W hp) w w'∧(∀ k,hpFp W' hp' k→hpFp W hp k∨w.heap.size≤k)∧∀ k,k < w.heap.size→W'.S k=W.S k) .ret a' w':=by
  refine ⟨hs'.dfs,?_⟩;obtain ⟨vs,h1,h2,h3⟩:=run_resHs (P:=P) hs' fn.results.toList prs rs hr hres
  have h4:(results fn a'.tmps).run P w'=.ok (if h:vs.length=1 then vs[0] else .tuple vs.toArray) w':=by
   have h5:results fn a'.tmps=(fn.results.mapM (rvSem a'.tmps)) >>= fun vs=>pure (if h:vs.size=1 then vs[0] else .tuple vs):=by
    unfold results
    congr 1
   have h6:fn.results=fn.results.toList.toArray:=by simp
   rw [h5,h6,List.mapM_toArray,Sem.run_bind,Sem.run_map,h1];simp
  have hext:=frz_ext hs';obtain ⟨Wf,hWf⟩:∃ Wf:Wit,W'.fin (frz w W' s' w')=Wf:=⟨_,rfl⟩
  have hfolf:∀ G O,Fol W' G O w' Wf G O w':=fun G O=>by
   rw [←hWf];exact ⟨hext,fun _=>Nat.le_refl _,fun _ _=>rfl,fun o E sz k _ ho=>⟨k,ho,Nat.le_refl _,fun _=>rfl⟩,fun _ _=>rfl,fun _ h=>⟨h,rfl,rfl⟩,rfl⟩
  obtain ⟨hrp',hmine'⟩:=hs'.rhp;have hrp0:=hrp'
  replace hrp':RHp W' w' hp':=hrp'.dead hhb
  replace hmine':∀ b k,hcl W' b (hp' b) k→Mine w.heap.size k∧∃ f,s'.ob (HBS+s'.nc b)=.hp f∧f b=hp' b:=fun b k hk=>by
   rcases hhb b with h | ⟨h,_⟩
   ·rw [h] at hk ⊢;exact hmine' b k hk
   ·rw [h] at hk;exact hk.elim
  have hclf:∀ b k,hcl Wf b (hp' b) k↔hcl W' b (hp' b) k:=fun b k=>hcl.indep (by rw [←hWf];rfl) (by rw [←hWf];rfl) (by rw [←hWf];rfl) b _ k
  have hSf:∀ k,Wf.S k=frz w W' s' w' k:=fun k=>by rw [←hWf];rfl
  have hS0:∀ b k,hcl W' b (hp' b) k→frz w W' s' w' k=0:=fun b k hk=>by
   unfold frz;split
   ·exact (hrp'.mine b k hk).1
   ·rw [if_pos];obtain ⟨_,g,hg1,hg2⟩:=hmine' b k hk;exact .inr ⟨_,g,hg1,b,by rw [hg2];exact hk⟩
  have hres2:∀ (i:Nat) p u,rs[i]? = some p→vs[i]? = some u→RHw Wf w' p u:=fun i p u e1 e2=>RB.indep rfl rfl rfl rfl (RB.fol (hfolf _ _) (h3 i p u e1 e2))
  refine ⟨_,h4,hp',rs,hPost,_,Wf,rfl,?_,⟨fun b=>by rw [←hWf];exact hrp'.lv b,fun b k hk=>⟨by rw [hSf];exact hS0 b k ((hclf b k).1 hk),(hrp'.mine b k ((hclf b k).1 hk)).2⟩,fun b=>?_,fun b b' k e1 e2=>hrp'.ex b b' k ((hclf b k).1 e1) ((hclf b' k).1 e2)⟩,fun b hl=>?_,toF hs'.below,fun k ⟨b,hk⟩=>?_,fun k hk=>?_⟩
  ·match rs,vs,h2,hres2 with
   | [],_,_,_=>trivial
   | [p],[v],_,h3=>exact h3 0 p v rfl rfl
   | p :: q :: r,vs,h2,h3 =>
     have hne:¬ vs.length=1:=by rw [←h2];simp
     rw [dif_neg hne];exact ⟨vs.toArray,rfl,by simpa using h2,fun i p u e1 e2=>h3 i p u e1 (by simpa using e2)⟩
  ·exact RH.fol (hfolf _ _) (hrp'.at_ b) (fun hn=>(hrp'.lv b).2 hn) (by rw [←hWf];rfl) (fun _ _=>rfl)
  ·have:=hs'.nm0 b hl;rw [←hWf];exact this
  ·obtain ⟨hmk,_⟩:=hmine' b k ((hclf b k).1 hk)
   rcases hmk with h | h
   ·exact .inr h
   ·exact .inl ((hfpB k).1 h)
  ·rw [hSf];unfold frz;rw [if_pos hk];exact hs'.s0 k hk
 rcases hret with rfl | rfl
 ·exact hfin
 ·exact hfin
theorem fn_sound_h [I:WInv] {P:Program} {env:Env} (hE:EnvOK P env) {eqs:List (Nat×List Bool)} (heq:∀ p,p ∈ eqs→EqT P p.1 p.2) (hm:P.follows .mixedOrders=true) {f:Nat} {fn:Func} {c:Code} {pc:PC} {prs:List PR} (hf:P.funcs[f]? = some fn) (hb:fn.body=some c)
 (hc:compC P fn.ntmps eqs c=some pc) (hback:backs pc=true) (hsm:Nat.ble fn.ntmps HALL=true) (hr:allSome (fn.results.toList.map (compR P))=some prs) {R:(Nat→Hb)→List Hw→(Nat→Hb)→List Hw→Prop}
 (hR:∀ hp az hp' rs,R hp az hp' rs→az.length≤fn.ntmps∧∃ nc,pwp env pc (fun e s=>(e=.normal∨e=.ret)∧s.resHs prs=some rs∧s.hb=hp') (St.initH nc hp az)):SpecH P f R:=by
 intro hp az hp' rs has W w vals hI hrp hvals;obtain ⟨hlen,nc,hw⟩:=hR hp az hp' rs has
 letI:Bor:=⟨none,hpFp W hp,W.lv,W.nm,W.nv⟩
 have hfpB:∀ k,Bor.fp k↔hpFp W hp k:=fun k=>⟨fun h=>h.elim (fun h=>by cases h) id,.inr⟩
 have toF:∀ {w':World},ButB w.heap.size w w'→ButF (hpFp W hp) w w':=fun h=>⟨h.os,h.tape,h.output,h.size,fun k hk hne=>h.block k hk (fun e=>hne ((hfpB k).1 e))⟩
 obtain ⟨W0,hW0⟩:∃ W0:Wit,{ W with nc:=nc,blk:=fun _=>0,val:=fun _=>undef,adr:=fun _=>undef,fp:=fun _ _=>False }=W0:=⟨_,rfl⟩
 refine calls_of_wp hf hb ?_
 have hcl0:∀ o b,cl W0 o ((St.initH nc hp az).ob o) b→HBS≤o∧∃ m,HBS+nc m=o∧hcl W m (hp m) b:=fun o b h=>by
  have h':cl W0 o (if HBS≤o then .hp (fun b=>if HBS+nc b=o then hp b else .no) else .no) b:=h;split at h'
  ·rename_i ho;obtain ⟨m,hm2⟩:=h';dsimp only at hm2;split at hm2
   ·rename_i he;exact ⟨ho,m,he,(hcl.indep (W:=W) (by rw [←hW0]) (by rw [←hW0]) (by rw [←hW0]) m (hp m) b).1 hm2⟩
   ·exact hm2.elim
  ·exact h'.elim
 have hinit:Sim w W.S fn.ntmps W0 (St.initH nc hp az) { tmps:=vals ++ Array.replicate (fn.ntmps - vals.size) undef,defers:=[] } w:=by
  refine ⟨ButB.refl _ _,fun b _=>by rw [←hW0],?_,rfl,fun x=>?_,fun o=>?_,fun o o' b h h'=>?_,(fun b h=>by cases h),by rw [←hW0];rfl,fun b=>by rw [initH_hb,←hW0];exact hrp.lv b,Nat.le_of_ble_eq_true hsm,fun b hb2=>by rw [←hW0];exact ⟨hb2,rfl,rfl⟩⟩
  ·have:=hvals.1;simp;omega
  ·show RA _ _ _ _ (match az[x]? with | some p=>.b p.bv | none=>.un) _
   cases hx:az[x]? with
   | none=>trivial
   | some p =>
     have hlt:x < vals.size:=by rw [←hvals.1];exact (List.getElem?_eq_some_iff.1 hx).1
     have:(vals ++ Array.replicate (fn.ntmps - vals.size) undef).getD x undef=vals[x]:=by
      rw [Array.getD_eq_getD_getElem?,Array.getElem?_append_left hlt,Array.getElem?_eq_getElem hlt];rfl
     rw [this];exact RB.indep (W:=W) (by rw [←hW0]) (by rw [←hW0]) (by rw [←hW0]) (by rw [←hW0]) (hvals.2 x p _ hx (Array.getElem?_eq_getElem hlt))
  ·show RO _ _ _ _ _ _ (if HBS≤o then .hp (fun b=>if HBS+nc b=o then hp b else .no) else .no)
   split
   ·rename_i ho;rw [←hW0];exact hrp.of_init nc az ho (fun k hk=>(hfpB k).2 hk)
   ·trivial
  ·obtain ⟨_,m,h1,h2⟩:=hcl0 o b h;obtain ⟨_,m',h3,h4⟩:=hcl0 o' b h';have:=hrp.ex m m' b h2 h4;subst this;rw [←h1,←h3]
 refine wp_mono (code_sound hE (fun w2 h2=>hI w2 (toF h2)) heq hm c pc hc hback _ _ _ _ _ hw hinit) (fun e a' w' he=>?_);obtain ⟨W',s',hs',hret,hres,hhb⟩:=he
 have hfin:bodyPost P fn (fun e w'=>∃ u W',e=.returned u∧RRH W' w' rs u∧RHp W' w' hp'∧(∀ b,W.lv b→W'.lv b∧W'.nm b=W.nm b∧W'.nv b=W.nv b)∧ButF (hpFp W hp) w w'∧(∀ k,hpFp W' hp' k→hpFp W hp k∨w.heap.size≤k)∧∀ k,k < w.heap.size→W'.S k=W.S k) .ret a' w':=by
  refine ⟨hs'.dfs,?_⟩;obtain ⟨vs,h1,h2,h3⟩:=run_resHs (P:=P) hs' fn.results.toList prs rs hr hres
  have h4:(results fn a'.tmps).run P w'=.ok (if h:vs.length=1 then vs[0] else .tuple vs.toArray) w':=by
   have h5:results fn a'.tmps=(fn.results.mapM (rvSem a'.tmps)) >>= fun vs=>pure (if h:vs.size=1 then vs[0] else .tuple vs):=by
    unfold results
    congr 1
   have h6:fn.results=fn.results.toList.toArray:=by simp
   rw [h5,h6,List.mapM_toArray,Sem.run_bind,Sem.run_map,h1];simp
  have hext:=frz_ext hs';obtain ⟨Wf,hWf⟩:∃ Wf:Wit,W'.fin (frz w W' s' w')=Wf:=⟨_,rfl⟩
  have hfolf:∀ G O,Fol W' G O w' Wf G O w':=fun G O=>by
   rw [←hWf];exact ⟨hext,fun _=>Nat.le_refl _,fun _ _=>rfl,fun o E sz k _ ho=>⟨k,ho,Nat.le_refl _,fun _=>rfl⟩,fun _ _=>rfl,fun _ h=>⟨h,rfl,rfl⟩,rfl⟩
  obtain ⟨hrp',hmine'⟩:=hs'.rhp;rw [hhb] at hrp' hmine';have hclf:∀ b k,hcl Wf b (hp' b) k↔hcl W' b (hp' b) k:=fun b k=>hcl.indep (by rw [←hWf];rfl) (by rw [←hWf];rfl) (by rw [←hWf];rfl) b _ k
  have hSf:∀ k,Wf.S k=frz w W' s' w' k:=fun k=>by rw [←hWf];rfl
  have hS0:∀ b k,hcl W' b (hp' b) k→frz w W' s' w' k=0:=fun b k hk=>by
   unfold frz;split
   ·exact (hrp'.mine b k hk).1
   ·rw [if_pos];obtain ⟨_,g,hg1,hg2⟩:=hmine' b k hk;exact .inr ⟨_,g,hg1,b,by rw [hg2];exact hk⟩
  have hres2:∀ (i:Nat) p u,rs[i]? = some p→vs[i]? = some u→RHw Wf w' p u:=fun i p u e1 e2=>RB.indep rfl rfl rfl rfl (RB.fol (hfolf _ _) (h3 i p u e1 e2))
  refine ⟨_,h4,_,Wf,rfl,?_,⟨fun b=>by rw [←hWf];exact hrp'.lv b,fun b k hk=>⟨by rw [hSf];exact hS0 b k ((hclf b k).1 hk),(hrp'.mine b k ((hclf b k).1 hk)).2⟩,fun b=>?_,fun b b' k e1 e2=>hrp'.ex b b' k ((hclf b k).1 e1) ((hclf b' k).1 e2)⟩,fun b hl=>?_,toF hs'.below,fun k ⟨b,hk⟩=>?_,fun k hk=>?_⟩
  ·match rs,vs,h2,hres2 with
   | [],_,_,_=>trivial
   | [p],[v],_,h3=>exact h3 0 p v rfl rfl
   | p :: q :: r,vs,h2,h3 =>
     have hne:¬ vs.length=1:=by rw [←h2];simp
     rw [dif_neg hne];exact ⟨vs.toArray,rfl,by simpa using h2,fun i p u e1 e2=>h3 i p u e1 (by simpa using e2)⟩
  ·exact RH.fol (hfolf _ _) (hrp'.at_ b) (fun hn=>(hrp'.lv b).2 hn) (by rw [←hWf];rfl) (fun _ _=>rfl)
  ·have:=hs'.nm0 b hl;rw [←hWf];exact this
  ·obtain ⟨hmk,_⟩:=hmine' b k ((hclf b k).1 hk)
   rcases hmk with h | h
   ·exact .inr h
   ·exact .inl ((hfpB k).1 h)
  ·rw [hSf];unfold frz;rw [if_pos hk];exact hs'.s0 k hk
 rcases hret with rfl | rfl
 ·exact hfin
 ·exact hfin
section
variable {P:Program}
def basicT (P:Program) (t:Nat):Option Bool:=match P.underlying t with
 | some (.int _)=>some false
 | some .bool=>some true
 | _=>none
theorem eq_basic {t:Nat} {kb:Bool} (hb:basicT P t=some kb) {x y:Cl} {u v:Value} {r:Bool} {W:Wit} {G:Nat→Nat} {O:Nat→Ob} {w:World} (hx:RC W G O w x u) (hy:RC W G O w y v) (h:eqCl kb x y=some r) (d:Nat) :
 (Op.equalIn (d+1) t u v).run P w=.ok r w:=by
 unfold basicT at hb;unfold eqCl at h;split at h
 ·rename_i k a k' b;split at h
  ·rename_i hk;cases h;obtain ⟨rfl,_⟩:=RD.sc_inv hx;obtain ⟨rfl,_⟩:=RD.sc_inv hy;rw [Op.equalIn.eq_2];split at hb
   ·rename_i k2 hu;simp [run_underlying hu,hk.2]
   ·cases hb;exact absurd hk.1 (by decide)
   ·cases hb
  ·cases h
 ·rename_i a b;split at h
  ·rename_i hk;cases h;obtain ⟨rfl,_⟩:=RD.sc_inv hx;obtain ⟨rfl,_⟩:=RD.sc_inv hy;rw [Op.equalIn.eq_2];split at hb
   ·cases hb;exact absurd hk (by decide)
   ·rename_i hu;simp [run_underlying hu]
   ·cases hb
  ·cases h
 ·cases h
theorem basic_part {t:Nat} {kb:Bool} (hb:basicT P t=some kb) {xs:Array Value} {i:Nat} {u:Value} (hi:xs[i]? = some u) (w:World):(part t xs i).run P w=.ok u w:=by
 obtain ⟨d,hd,ha⟩:∃ d,P.underlying t=some d∧aggT d=false:=by
  unfold basicT at hb;split at hb
  ·rename_i k hu;exact ⟨_,hu,rfl⟩
  ·rename_i hu;exact ⟨_,hu,rfl⟩
  ·cases hb
 have:=run_isAgg hd w;simp [part,this,ha,hi]
theorem eqCls_cons {ks:List Bool} {cs ds:List Cl} {r:Bool} {i:Nat} (h:eqCls (ks.drop i) (cs.drop i) (ds.drop i)=some r) {k:Bool} (hk:ks[i]? = some k) :
 ∃ x y a b,cs[i]? = some x∧ds[i]? = some y∧eqCl k x y=some a∧eqCls (ks.drop (i+1)) (cs.drop (i+1)) (ds.drop (i+1))=some b∧r=(a && b):=by
 have hlt:=(List.getElem?_eq_some_iff.1 hk).1;rw [List.drop_eq_getElem_cons hlt] at h
 rcases Nat.lt_or_ge i cs.length with h1 | h1
 ·rcases Nat.lt_or_ge i ds.length with h2 | h2
  ·rw [List.drop_eq_getElem_cons h1,List.drop_eq_getElem_cons h2] at h;simp only [eqCls] at h;split at h
   ·rename_i a b ha hb;cases h;rw [List.getElem?_eq_getElem hlt] at hk;cases hk;exact ⟨_,_,a,b,List.getElem?_eq_getElem h1,List.getElem?_eq_getElem h2,ha,hb,rfl⟩
   ·cases h
  ·rw [List.drop_eq_nil_of_le h2,List.drop_eq_getElem_cons h1] at h;simp [eqCls] at h
 ·rw [List.drop_eq_nil_of_le h1] at h;simp [eqCls] at h
def flatS (P : Program) (fs : Array Field) (ks : List Bool) : Bool := fs.size == ks.length && fs.toList.zipIdx.all fun p => p.1.name != "_" && p.1.offset == p.2 && basicT P p.1.type == ks[p.2]?
theorem eqT_struct {t:Nat} {fs:Array Field} {ks:List Bool} (hu:P.underlying t=some (.struct fs)) (hst:P.stoodInHeld t=false) (hg:P.eqGuardType P.depth t=false) (hfl:flatS P fs ks=true):EqT P t ks:=by
 refine fun _=>⟨hg,fun xs ys cs ds r W G O w h3 h4 h5=>?_⟩
 show (Op.equalIn (9999+1) t (.agg xs) (.agg ys)).run P w=_
 rw [Op.equalIn.eq_2];simp only [Sem.run_bind,run_underlying hu,Result.andThen_ok,run_program,hst];rw [if_neg (by decide)];unfold flatS at hfl;rw [Bool.and_eq_true] at hfl;obtain ⟨hsz,hall⟩:=hfl;have hsz':fs.size=ks.length:=by simpa using hsz
 have key:∀ (l:List Field) (i:Nat) (r:Bool),l=fs.toList.drop i→eqCls (ks.drop i) (cs.drop i) (ds.drop i)=some r →
  (forIn l ((none:Option Bool),()) fun f __s =>
   (if f.name ≠ "_" then do
    let __do_lift ←part f.type xs f.offset
    let __do_lift_1 ←part f.type ys f.offset
    let __do_lift ←Op.equalIn 9999 f.type __do_lift __do_lift_1
    if (!__do_lift)=true then pure (ForInStep.done (some false,()))
    else pure (ForInStep.yield (none,()))
   else pure (ForInStep.yield (none,())):Sem (ForInStep (Option Bool×Unit)))).run P w=.ok (if r then none else some false,()) w:=by
  intro l
  induction l with
  | nil =>
    intro i r hl h
    have hge:ks.length≤i:=by
     have:=congrArg List.length hl;simp at this;omega
    rw [List.drop_eq_nil_of_le hge] at h;generalize cs.drop i=a at h;generalize ds.drop i=b at h;cases a <;> cases b <;> simp [eqCls] at h
    subst h;simp
  | cons f l ih =>
    intro i r hl h
    have hfi:fs[i]? = some f:=by
     have:=congrArg (·[0]?) hl
     simpa using this.symm
    have hilt:=(Array.getElem?_eq_some_iff.1 hfi).1
    have hp:=List.all_eq_true.1 hall (f,i) (by
     rw [List.mk_mem_zipIdx_iff_getElem?]
     simpa using hfi)
    simp only [Bool.and_eq_true,bne_iff_ne,beq_iff_eq] at hp;obtain ⟨⟨hn,ho⟩,hb⟩:=hp;have hk:ks[i]? = some ks[i]:=List.getElem?_eq_getElem (by omega);rw [hk] at hb;obtain ⟨x,y,a,b,e1,e2,e3,e4,rfl⟩:=eqCls_cons h hk;have hx1:i < xs.size:=by have:=h3.1;have:=(List.getElem?_eq_some_iff.1 e1).1;simp at *;omega
    have hy1:i < ys.size:=by have:=h4.1;have:=(List.getElem?_eq_some_iff.1 e2).1;simp at *;omega
    have hx:xs[i]? = some xs[i]:=Array.getElem?_eq_getElem hx1;have hy:ys[i]? = some ys[i]:=Array.getElem?_eq_getElem hy1;have heq:(Op.equalIn 9999 f.type xs[i] ys[i]).run P w=.ok a w:=eq_basic hb (h3.2 i x xs[i] e1 (by rw [Array.getElem?_toList];exact hx)) (h4.2 i y ys[i] e2 (by rw [Array.getElem?_toList];exact hy)) e3 9998
    rw [List.forIn_cons,if_pos hn,ho];simp only [Sem.run_bind,basic_part hb hx,basic_part hb hy,Result.andThen_ok,heq]
    cases a with
    | true =>
      simp only [Bool.not_true,Bool.false_eq_true,if_false,Sem.run_pure,Result.andThen_ok,Bool.true_and]
      exact ih (i+1) b (by
       have:=congrArg List.tail hl
       simpa using this) e4
    | false=>simp
 have hk:=key fs.toList 0 r rfl (by simpa using h5);rw [←Array.forIn_toList,Sem.run_bind,hk];cases r <;> rfl
theorem eqT_array {t e m:Nat} {ei:TypeInfo} (hu:P.underlying t=some (.array m e)) (hi:P.info? e=some ei) (hsz1:ei.size=1) (hg:P.eqGuardType P.depth t=false) (hb:basicT P e=some false):EqT P t (List.replicate m false):=by
 refine fun _=>⟨hg,fun xs ys cs ds r W G O w h3 h4 h5=>?_⟩
 show (Op.equalIn (9999+1) t (.agg xs) (.agg ys)).run P w=_
 rw [Op.equalIn.eq_2];simp only [Sem.run_bind,run_underlying hu,Result.andThen_ok,sizeOf,typeInfo,run_program,hi,Sem.run_pure,hsz1,Nat.mul_one,Std.Legacy.Range.forIn_eq_forIn_range',Std.Legacy.Range.size,Nat.sub_zero,Nat.add_one_sub_one,Nat.div_one]
 have key:∀ (k i:Nat) (r:Bool),i+k=m→eqCls ((List.replicate m false).drop i) (cs.drop i) (ds.drop i)=some r →
  (forIn (List.range' i k) ((none:Option Bool),()) fun i __s =>
   (do
    let __do_lift ←part e xs i
    let __do_lift_1 ←part e ys i
    let __do_lift ←Op.equalIn 9999 e __do_lift __do_lift_1
    if (!__do_lift)=true then pure (ForInStep.done (some false,()))
    else pure (ForInStep.yield (none,())):Sem (ForInStep (Option Bool×Unit)))).run P w=.ok (if r then none else some false,()) w:=by
  intro k
  induction k with
  | zero =>
    intro i r hl h;rw [List.drop_eq_nil_of_le (by simp;omega)] at h
    generalize cs.drop i=a at h;generalize ds.drop i=b at h;cases a <;> cases b <;> simp [eqCls] at h
    subst h;simp
  | succ k ih =>
    intro i r hl h
    have hk:(List.replicate m false)[i]? = some false:=by
     rw [List.getElem?_replicate,if_pos (by omega)]
    obtain ⟨x,y,a,b,e1,e2,e3,e4,rfl⟩:=eqCls_cons h hk;have hx1:i < xs.size:=by have:=h3.1;have:=(List.getElem?_eq_some_iff.1 e1).1;simp at *;omega
    have hy1:i < ys.size:=by have:=h4.1;have:=(List.getElem?_eq_some_iff.1 e2).1;simp at *;omega
    have hx:xs[i]? = some xs[i]:=Array.getElem?_eq_getElem hx1;have hy:ys[i]? = some ys[i]:=Array.getElem?_eq_getElem hy1;have heq:(Op.equalIn 9999 e xs[i] ys[i]).run P w=.ok a w:=eq_basic hb (h3.2 i x xs[i] e1 (by rw [Array.getElem?_toList];exact hx)) (h4.2 i y ys[i] e2 (by rw [Array.getElem?_toList];exact hy)) e3 9998
    rw [List.range'_succ,List.forIn_cons];simp only [Sem.run_bind,basic_part hb hx,basic_part hb hy,Result.andThen_ok,heq]
    cases a with
    | true =>
      simp only [Bool.not_true,Bool.false_eq_true,if_false,Sem.run_pure,Result.andThen_ok,Bool.true_and];exact ih (i+1) b (by omega) e4
    | false=>simp
 have hk:=key m 0 r (by omega) (by simpa using h5);rw [hk];cases r <;> rfl
end
theorem eqsH {P:Program} {l0 l:List (Nat×List Bool)} (h0:∀ p,p ∈ l0→EqT P p.1 p.2) (h:l.all (fun p=>Nat.ble 1048576 p.1)=true):∀ p,p ∈ l0 ++ l→EqT P p.1 p.2:=by
 intro p hp
 rcases List.mem_append.1 hp with hp | hp
 ·exact h0 p hp
 ·intro hlt;have:=Nat.le_of_ble_eq_true (List.all_eq_true.1 h p hp);omega
end Go.Proofs.Ytffcpijeebagfaa
end
section
namespace Go.Proofs.Ytffcpijeebagfaa
open Go Go.RowKit
set_option maxRecDepth 100000
def eqsL:List (Nat×List Bool):=[(33,[false,false,false,false,false,false,false,false,false]),(34,[false,false,false,false,false,false,false,false,false]),(52,List.replicate 8 false),(53,List.replicate 8 false),(77,[false,false]),(78,[false,false]),(94,[false,false,false,true]),(95,[false,false,false,true]),(97,[false,false]),(98,[false,false]),(99,[true,false]),(100,[true,false]),(136,List.replicate 7 false),(142,[false,false,false]),(143,[false,false,false]),(145,[false,false,false,false,true]),(146,[false,false,false,false,true]),(150,[false,false,true,false]),(151,[false,false,true,false])]
theorem eqsOK:∀ p,p ∈ eqsL→EqT Try.prog p.1 p.2:=by
 intro p hp;simp only [eqsL,List.mem_cons,List.not_mem_nil,or_false] at hp
 rcases hp with rfl | rfl | rfl | rfl | rfl | rfl | rfl | rfl | rfl | rfl | rfl | rfl | rfl | rfl | rfl | rfl | rfl | rfl | rfl
 ·exact eqT_struct Try.underlying33 (by kernel_rfl) (by kernel_rfl) (by kernel_rfl)
 ·exact eqT_struct Try.underlying34 (by kernel_rfl) (by kernel_rfl) (by kernel_rfl)
 ·exact eqT_array Try.underlying52 (ei:=(Try.prog.info? 3).getD default) (by kernel_rfl) (by kernel_rfl) (by kernel_rfl) (by kernel_rfl)
 ·exact eqT_array Try.underlying53 (ei:=(Try.prog.info? 3).getD default) (by kernel_rfl) (by kernel_rfl) (by kernel_rfl) (by kernel_rfl)
 ·exact eqT_struct Try.underlying77 (by kernel_rfl) (by kernel_rfl) (by kernel_rfl)
 ·exact eqT_struct Try.underlying78 (by kernel_rfl) (by kernel_rfl) (by kernel_rfl)
 ·exact eqT_struct Try.underlying94 (by kernel_rfl) (by kernel_rfl) (by kernel_rfl)
 ·exact eqT_struct Try.underlying95 (by kernel_rfl) (by kernel_rfl) (by kernel_rfl)
 ·exact eqT_struct Try.underlying97 (by kernel_rfl) (by kernel_rfl) (by kernel_rfl)
 ·exact eqT_struct Try.underlying98 (by kernel_rfl) (by kernel_rfl) (by kernel_rfl)
 ·exact eqT_struct Try.underlying99 (by kernel_rfl) (by kernel_rfl) (by kernel_rfl)
 ·exact eqT_struct Try.underlying100 (by kernel_rfl) (by kernel_rfl) (by kernel_rfl)
 ·exact eqT_array Try.underlying136 (ei:=(Try.prog.info? 3).getD default) (by kernel_rfl) (by kernel_rfl) (by kernel_rfl) (by kernel_rfl)
 ·exact eqT_struct Try.underlying142 (by kernel_rfl) (by kernel_rfl) (by kernel_rfl)
 ·exact eqT_struct Try.underlying143 (by kernel_rfl) (by kernel_rfl) (by kernel_rfl)
 ·exact eqT_struct Try.underlying145 (by kernel_rfl) (by kernel_rfl) (by kernel_rfl)
 ·exact eqT_struct Try.underlying146 (by kernel_rfl) (by kernel_rfl) (by kernel_rfl)
 ·exact eqT_struct Try.underlying150 (by kernel_rfl) (by kernel_rfl) (by kernel_rfl)
 ·exact eqT_struct Try.underlying151 (by kernel_rfl) (by kernel_rfl) (by kernel_rfl)
theorem mixedOK:Try.prog.follows .mixedOrders=true:=by kernel_rfl
def pc22 : PC := .seq (.reg false [⟨(some 2), .box (.t 0), none, []⟩, ⟨(some 3), .box (.t 1), none, []⟩, ⟨(some 4), .new [(.int .i64 0), (.int .i64 0), (.slice none 0 0), (.slice none 0 0), (.slice none 0 0), (.slice none 0 0), (.int .i64 0), (.int .i64 0), (.int .i64 0)], none, []⟩, ⟨(some 5), .mv (.v (.bool false)), none, []⟩]) (.seq (.seq (.reg false [⟨(some 8), .load (some 9) (.t 3), none, []⟩, ⟨(some 9), .call 64 [(.t 8)], none, [0]⟩, ⟨(some 10), .un .not (.t 9), none, [1]⟩, ⟨(some 11), .mv (.t 10), none, [2, 1]⟩, ⟨(some 12), .fld 0 (.t 2), (some (11, false)), [3]⟩, ⟨(some 13), .load none (.t 12), (some (11, false)), [4, 3]⟩, ⟨(some 14), .bin .geq (.t 13) (.v (.int .i64 5000)), (some (11, false)), [5, 3]⟩, ⟨(some 15), .pick (.t 11) (.v (.bool true)) (.t 14), none, [3, 6]⟩, ⟨(some 16), .mv (.t 15), none, [7, 3]⟩, ⟨(some 17), .fld 0 (.t 3), (some (16, false)), [8]⟩, ⟨(some 18), .load none (.t 17), (some (16, false)), [9, 8]⟩, ⟨(some 19), .fld 1 (.t 2), (some (16, false)), [8]⟩, ⟨(some 20), .load none (.t 19), (some (16, false)), [11, 8]⟩, ⟨(some 21), .bin .geq (.t 18) (.t 20), (some (16, false)), [10, 12, 8]⟩, ⟨(some 22), .pick (.t 16) (.v (.bool true)) (.t 21), none, [8, 13]⟩]) (.cond (.t 22) (.seq (.reg false [⟨(some 23), .load (some 9) (.t 2), none, []⟩, ⟨none, .store 9 (.t 4) (.t 23), none, [0, 0]⟩, ⟨(some 5), .mv (.v (.bool false)), none, [1, 0, 1]⟩]) (.ret)) (.skip))) (.seq (.reg false [⟨(some 6), .new [(.int .i64 0), (.int .i64 0), (.slice none 0 0), (.slice none 0 0), (.slice none 0 0), (.slice none 0 0), (.int .i64 0), (.int .i64 0), (.int .i64 0)], none, []⟩]) (.seq (.reg false [⟨(some 7), .mv (.v (.bool false)), none, []⟩]) (.seq (.block 0 (.seq (.reg false [⟨(some 31), .fld 5 (.t 2), none, []⟩, ⟨(some 32), .load none (.t 31), none, [0]⟩, ⟨(some 33), .len (.t 32), none, [1]⟩, ⟨(some 34), .bin .gtr (.t 33) (.v (.int .i64 0)), none, [2]⟩, ⟨(some 30), .mv (.t 34), none, [3]⟩]) (.cond (.t 30) (.reg false [⟨(some 36), .load (some 9) (.t 2), none, []⟩, ⟨(some 37), .load (some 9) (.t 3), none, []⟩, ⟨(some 38), .call 65 [(.t 36), (.t 37)], none, [0, 1]⟩, ⟨(some 35), .mv (.t 38), none, [2]⟩, ⟨(some 39), .ext (.t 35) 0, none, [3]⟩, ⟨(some 40), .ext (.t 35) 1, none, [3]⟩, ⟨none, .store 9 (.t 6) (.t 39), none, [4, 2, 0, 1, 2, 3, 4]⟩, ⟨(some 7), .mv (.t 40), none, [5, 6, 0, 1, 2, 3, 4, 5, 6]⟩]) (.seq (.reg false [⟨(some 42), .fld 1 (.t 3), none, []⟩, ⟨(some 43), .load none (.t 42), none, [0]⟩, ⟨(some 44), .call 66 [(.t 43)], none, [1]⟩, ⟨(some 41), .mv (.t 44), none, [2, 2]⟩]) (.cond (.t 41) (.reg false [⟨(some 46), .load (some 9) (.t 2), none, []⟩, ⟨(some 47), .load (some 9) (.t 3), none, []⟩, ⟨(some 48), .call 67 [(.t 46), (.t 47)], none, [0, 1]⟩, ⟨(some 45), .mv (.t 48), none, [2]⟩, ⟨(some 49), .ext (.t 45) 0, none, [3]⟩, ⟨(some 50), .ext (.t 45) 1, none, [3]⟩, ⟨none, .store 9 (.t 6) (.t 49), none, [4, 2, 0, 1, 2, 3, 4]⟩, ⟨(some 7), .mv (.t 50), none, [5, 6, 0, 1, 2, 3, 4, 5, 6]⟩]) (.reg false [⟨(some 25), .load (some 9) (.t 2), none, []⟩, ⟨(some 26), .load (some 9) (.t 3), none, []⟩, ⟨(some 27), .call 68 [(.t 25), (.t 26)], none, [0, 1]⟩, ⟨(some 24), .mv (.t 27), none, [2]⟩, ⟨(some 28), .ext (.t 24) 0, none, [3]⟩, ⟨(some 29), .ext (.t 24) 1, none, [3]⟩, ⟨none, .store 9 (.t 6) (.t 28), none, [4, 2, 0, 1, 2, 3, 4]⟩, ⟨(some 7), .mv (.t 29), none, [5, 6, 0, 1, 2, 3, 4, 5, 6]⟩])))))) (.seq (.seq (.reg false [⟨(some 51), .mv (.t 7), none, []⟩, ⟨(some 52), .un .not (.t 51), none, [0]⟩]) (.cond (.t 52) (.seq (.reg false [⟨(some 53), .load (some 9) (.t 2), none, []⟩, ⟨none, .store 9 (.t 4) (.t 53), none, [0, 0]⟩, ⟨(some 5), .mv (.v (.bool false)), none, [1, 0, 1]⟩]) (.ret)) (.skip))) (.seq (.reg false [⟨(some 54), .fld 0 (.t 6), none, []⟩, ⟨(some 55), .load none (.t 54), none, [0]⟩, ⟨(some 56), .bin .add (.t 55) (.v (.int .i64 1)), none, [1]⟩, ⟨(some 57), .fld 0 (.t 6), none, [0, 1, 2]⟩, ⟨none, .store 1 (.t 57) (.t 56), none, [3, 2, 0, 1, 2]⟩]) (.seq (.reg false [⟨(some 58), .load (some 9) (.t 6), none, []⟩, ⟨none, .store 9 (.t 4) (.t 58), none, [0, 0]⟩, ⟨(some 5), .mv (.v (.bool true)), none, [1, 0, 1]⟩]) (.ret))))))))
def pr22 : List PR := [.c 4 (some 9), .t 5]
theorem bd22:Try.f22.body=some (Try.f22.body.getD .skip):=by kernel_rfl
theorem cp22:compC Try.prog Try.f22.ntmps eqsL (Try.f22.body.getD .skip)=some pc22:=by kernel_rfl
theorem sp22 [WInv] {env:Env} (hE:EnvOK Try.prog env) {R:List Pa→List Pa→Prop} (hR:∀ ps rs,R ps rs→ps.length≤59∧pwp env pc22 (fun e s=>(e=.normal∨e=.ret)∧s.res pr22=some rs) (St.init ps)):Spec Try.prog 22 R :=
 fn_sound hE eqsOK mixedOK Try.func22 bd22 cp22 (by kernel_rfl) (by kernel_rfl) (by kernel_rfl) hR
def pc65c0 : PC := .seq (.reg false [⟨(some 92), .mv (.t 7), none, []⟩, ⟨(some 93), .fld 5 (.t 2), none, [0]⟩, ⟨none, .store 1 (.t 93) (.t 92), none, [1, 0, 0]⟩]) (.seq (.reg false [⟨(some 94), .load (some 9) (.t 2), none, []⟩, ⟨(some 95), .load (some 9) (.t 3), none, []⟩, ⟨(some 96), .call 96 [(.t 94), (.t 95)], none, [0, 1]⟩, ⟨none, .store 9 (.t 4) (.t 96), none, [2, 2, 0, 1, 2]⟩, ⟨(some 5), .mv (.v (.bool true)), none, [3, 0, 1, 2, 3]⟩]) (.ret))
def pc65c1 : PC := .seq (.reg false [⟨(some 8), .mv (.v (.int .i64 1)), none, []⟩]) (.block 0 (.loop (.seq (.seq (.reg false [⟨(some 65), .mv (.t 8), none, []⟩, ⟨(some 66), .fld 5 (.t 2), none, []⟩, ⟨(some 67), .load none (.t 66), none, [1]⟩, ⟨(some 68), .len (.t 67), none, [2]⟩, ⟨(some 69), .bin .lss (.t 65) (.t 68), none, [0, 3]⟩]) (.cond (.t 69) (.skip) (.exit 0))) (.seq (.block 1 (.seq (.reg false [⟨(some 72), .fld 5 (.t 2), none, []⟩, ⟨(some 73), .load none (.t 72), none, [0]⟩, ⟨(some 74), .mv (.t 8), none, []⟩, ⟨(some 75), .ixs 3 (.t 73) (.t 74), none, [1, 2]⟩, ⟨(some 76), .load (some 3) (.t 75), none, [3]⟩, ⟨(some 9), .new [(.int .i64 0), (.int .i64 0), (.int .i64 0)], none, []⟩, ⟨none, .store 3 (.t 9) (.t 76), none, [5, 4, 0, 1, 2, 3, 4, 5]⟩]) (.seq (.seq (.reg false [⟨(some 77), .fld 1 (.t 6), none, []⟩, ⟨(some 78), .load none (.t 77), none, [0]⟩, ⟨(some 79), .bin .lss (.t 78) (.v (.int .i64 0)), none, [1]⟩, ⟨(some 80), .mv (.t 79), none, [2]⟩, ⟨(some 81), .fld 1 (.t 9), (some (80, true)), [3]⟩, ⟨(some 82), .load none (.t 81), (some (80, true)), [4, 3]⟩, ⟨(some 83), .bin .lss (.t 82) (.v (.int .i64 0)), (some (80, true)), [5, 3]⟩, ⟨(some 84), .pick (.t 80) (.t 83) (.v (.bool false)), none, [3, 6]⟩]) (.cond (.t 84) (.reg false [⟨(some 85), .fld 0 (.t 3), none, []⟩, ⟨(some 86), .load none (.t 85), none, [0]⟩, ⟨(some 87), .fld 1 (.t 9), none, [0, 1]⟩, ⟨none, .store 1 (.t 87) (.t 86), none, [2, 1, 0, 1]⟩]) (.skip))) (.reg false [⟨(some 88), .mv (.t 7), none, []⟩, ⟨(some 89), .load (some 3) (.t 9), none, []⟩, ⟨(some 90), .bslice 143 3 [(.int .i64 0), (.int .i64 0), (.int .i64 0)] 1 [(0, 3, (.t 89))], none, [1]⟩, ⟨(some 91), .append 143 3 24 (.t 88) (.t 90), none, [0, 2]⟩, ⟨(some 7), .mv (.t 91), none, [3, 3, 0, 1, 2, 3]⟩])))) (.reg false [⟨(some 70), .mv (.t 8), none, []⟩, ⟨(some 71), .bin .add (.t 70) (.v (.int .i64 1)), none, [0]⟩, ⟨(some 8), .mv (.t 71), none, [1, 0, 1]⟩])))))
def pc65c2 : PC := .seq (.reg false [⟨(some 7), .nilRow 143 3, none, []⟩]) (.seq (pc65c1) (pc65c0))
def pc65c3 : PC := .reg false [⟨(some 14), .fld 1 (.t 3), none, []⟩, ⟨(some 15), .load none (.t 14), none, [0]⟩, ⟨(some 16), .fld 0 (.t 6), none, []⟩, ⟨(some 17), .load none (.t 16), none, [2]⟩, ⟨(some 18), .bin .neq (.t 15) (.t 17), none, [1, 3]⟩, ⟨(some 19), .mv (.t 18), none, [4]⟩, ⟨(some 20), .fld 2 (.t 3), (some (19, false)), [5]⟩, ⟨(some 21), .load none (.t 20), (some (19, false)), [6, 5]⟩, ⟨(some 22), .fld 6 (.t 2), (some (19, false)), [5]⟩, ⟨(some 23), .load none (.t 22), (some (19, false)), [8, 5]⟩, ⟨(some 24), .bin .neq (.t 21) (.t 23), (some (19, false)), [7, 9, 5]⟩, ⟨(some 25), .pick (.t 19) (.v (.bool true)) (.t 24), none, [5, 10]⟩, ⟨(some 26), .mv (.t 25), none, [11, 5]⟩, ⟨(some 27), .fld 4 (.t 3), (some (26, false)), [12]⟩, ⟨(some 28), .load none (.t 27), (some (26, false)), [13, 12]⟩, ⟨(some 29), .fld 7 (.t 2), (some (26, false)), [12]⟩, ⟨(some 30), .load none (.t 29), (some (26, false)), [15, 12]⟩, ⟨(some 31), .bin .neq (.t 28) (.t 30), (some (26, false)), [14, 16, 12]⟩, ⟨(some 32), .pick (.t 26) (.v (.bool true)) (.t 31), none, [12, 17]⟩, ⟨(some 33), .mv (.t 32), none, [18, 12]⟩, ⟨(some 34), .fld 5 (.t 3), (some (33, false)), [19]⟩, ⟨(some 35), .load none (.t 34), (some (33, false)), [20, 19]⟩, ⟨(some 36), .fld 8 (.t 2), (some (33, false)), [19]⟩, ⟨(some 37), .load none (.t 36), (some (33, false)), [22, 19]⟩, ⟨(some 38), .bin .neq (.t 35) (.t 37), (some (33, false)), [21, 23, 19]⟩, ⟨(some 39), .pick (.t 33) (.v (.bool true)) (.t 38), none, [19, 24]⟩, ⟨(some 40), .mv (.t 39), none, [25, 19]⟩, ⟨(some 41), .fld 1 (.t 6), (some (40, false)), [26]⟩, ⟨(some 42), .load none (.t 41), (some (40, false)), [27, 26]⟩, ⟨(some 43), .bin .geq (.t 42) (.v (.int .i64 0)), (some (40, false)), [28, 26]⟩, ⟨(some 44), .mv (.t 43), (some (40, false)), [29, 26, 26]⟩, ⟨(some 45), .fld 0 (.t 3), (some (44, true)), [30]⟩, ⟨(some 46), .load none (.t 45), (some (44, true)), [31, 30]⟩, ⟨(some 47), .fld 1 (.t 6), (some (44, true)), [30]⟩, ⟨(some 48), .load none (.t 47), (some (44, true)), [33, 30]⟩, ⟨(some 49), .bin .neq (.t 46) (.t 48), (some (44, true)), [32, 34, 30]⟩, ⟨(some 50), .pick (.t 44) (.t 49) (.v (.bool false)), (some (40, false)), [30, 35, 26]⟩, ⟨(some 51), .pick (.t 40) (.v (.bool true)) (.t 50), none, [26, 36]⟩, ⟨(some 52), .mv (.t 51), none, [37, 30]⟩, ⟨(some 53), .fld 1 (.t 6), (some (52, false)), [38]⟩, ⟨(some 54), .load none (.t 53), (some (52, false)), [39, 38]⟩, ⟨(some 55), .bin .lss (.t 54) (.v (.int .i64 0)), (some (52, false)), [40, 38]⟩, ⟨(some 56), .mv (.t 55), (some (52, false)), [41, 38, 38]⟩, ⟨(some 57), .fld 0 (.t 3), (some (56, true)), [42]⟩, ⟨(some 58), .load none (.t 57), (some (56, true)), [43, 42]⟩, ⟨(some 59), .fld 2 (.t 6), (some (56, true)), [42]⟩, ⟨(some 60), .load none (.t 59), (some (56, true)), [45, 42]⟩, ⟨(some 61), .bin .eql (.t 58) (.t 60), (some (56, true)), [44, 46, 42]⟩, ⟨(some 62), .pick (.t 56) (.t 61) (.v (.bool false)), (some (52, false)), [42, 47, 38]⟩, ⟨(some 63), .pick (.t 52) (.v (.bool true)) (.t 62), none, [38, 48]⟩]
def pc65c4 : PC := .seq (pc65c3) (.cond (.t 63) (.seq (.reg false [⟨(some 64), .load (some 9) (.t 2), none, []⟩, ⟨none, .store 9 (.t 4) (.t 64), none, [0, 0]⟩, ⟨(some 5), .mv (.v (.bool false)), none, [1, 0, 1]⟩]) (.ret)) (.skip))
def pc65 : PC := .seq (.reg false [⟨(some 2), .box (.t 0), none, []⟩, ⟨(some 3), .box (.t 1), none, []⟩, ⟨(some 4), .new [(.int .i64 0), (.int .i64 0), (.slice none 0 0), (.slice none 0 0), (.slice none 0 0), (.slice none 0 0), (.int .i64 0), (.int .i64 0), (.int .i64 0)], none, []⟩, ⟨(some 5), .mv (.v (.bool false)), none, []⟩]) (.seq (.reg false [⟨(some 10), .fld 5 (.t 2), none, []⟩, ⟨(some 11), .load none (.t 10), none, [0]⟩, ⟨(some 12), .ixs 3 (.t 11) (.v (.int .i64 0)), none, [1]⟩, ⟨(some 13), .load (some 3) (.t 12), none, [2]⟩, ⟨(some 6), .new [(.int .i64 0), (.int .i64 0), (.int .i64 0)], none, []⟩, ⟨none, .store 3 (.t 6) (.t 13), none, [4, 3, 0, 1, 2, 3, 4]⟩]) (.seq (pc65c4) (pc65c2)))
def pr65 : List PR := [.c 4 (some 9), .t 5]
abbrev ms65_0 : List Nat := [65, 66, 67, 68, 69, 72, 73, 74, 75, 76, 9, 77, 78, 79, 80, 81, 82, 83, 84, 85, 86, 87, 88, 89, 90, 91, 7, 70, 71, 8]
abbrev os65_0 : List Nat := [9, 90, 7]
theorem bd65:Try.f65.body=some (Try.f65.body.getD .skip):=by kernel_rfl
theorem cp65:compC Try.prog Try.f65.ntmps eqsL (Try.f65.body.getD .skip)=some pc65:=by kernel_rfl
theorem sp65 [WInv] {env:Env} (hE:EnvOK Try.prog env) {R:List Pa→List Pa→Prop} (hR:∀ ps rs,R ps rs→ps.length≤97∧pwp env pc65 (fun e s=>(e=.normal∨e=.ret)∧s.res pr65=some rs) (St.init ps)):Spec Try.prog 65 R :=
 fn_sound hE eqsOK mixedOK Try.func65 bd65 cp65 (by kernel_rfl) (by kernel_rfl) (by kernel_rfl) hR
def pc67c0 : PC := .seq (.reg false [⟨(some 59), .fld 1 (.t 6), none, []⟩, ⟨(some 60), .load none (.t 59), none, [0]⟩, ⟨(some 61), .bin .eql (.t 60) (.v (.int .i64 0)), none, [1]⟩, ⟨(some 62), .mv (.t 61), none, [2]⟩, ⟨(some 63), .mv (.t 7), (some (62, true)), [3]⟩, ⟨(some 64), .pick (.t 62) (.t 63) (.v (.bool false)), none, [3, 4]⟩]) (.cond (.t 64) (.seq (.reg false [⟨(some 65), .load (some 9) (.t 2), none, []⟩, ⟨(some 66), .load (some 9) (.t 3), none, []⟩, ⟨(some 67), .fld 0 (.t 3), none, []⟩, ⟨(some 68), .load none (.t 67), none, [2]⟩, ⟨(some 69), .build [(.int .i64 0), (.int .i64 0), (.int .i64 0)] [(0, 1, (.v (.int .i64 17))), (1, 1, (.v (.int .i64 (-1)))), (2, 1, (.t 68))], none, [3]⟩, ⟨(some 70), .build [(.int .i64 0), (.int .i64 0), (.int .i64 0)] [(0, 1, (.v (.int .i64 18))), (1, 1, (.v (.int .i64 (-1))))], none, []⟩, ⟨(some 71), .fld 0 (.t 3), none, []⟩, ⟨(some 72), .load none (.t 71), none, [6]⟩, ⟨(some 73), .build [(.int .i64 0), (.int .i64 0), (.int .i64 0)] [(0, 1, (.v (.int .i64 16))), (1, 1, (.t 72))], none, [7]⟩, ⟨(some 74), .bslice 143 3 [(.int .i64 0), (.int .i64 0), (.int .i64 0), (.int .i64 0), (.int .i64 0), (.int .i64 0), (.int .i64 0), (.int .i64 0), (.int .i64 0)] 3 [(0, 3, (.t 69)), (3, 3, (.t 70)), (6, 3, (.t 73))], none, [4, 5, 8]⟩, ⟨(some 75), .call 98 [(.t 65), (.t 66), (.t 74)], none, [0, 1, 9]⟩, ⟨(some 76), .ext (.t 75) 0, none, [10]⟩, ⟨(some 77), .ext (.t 75) 1, none, [10]⟩, ⟨none, .store 9 (.t 4) (.t 76), none, [11, 10, 0, 1, 2, 3, 4, 5, 6, 7, 8, 9, 10, 11, 12]⟩, ⟨(some 5), .mv (.t 77), none, [12, 13, 0, 1, 2, 3, 4, 5, 6, 7, 8, 9, 10, 11, 12, 13]⟩]) (.ret)) (.skip))
def pc67c1 : PC := .seq (.reg false [⟨(some 100), .fld 4 (.t 6), none, []⟩, ⟨(some 101), .load none (.t 100), none, [0]⟩, ⟨(some 102), .un .not (.t 101), none, [1]⟩, ⟨(some 103), .mv (.t 102), none, [2]⟩, ⟨(some 104), .mv (.t 7), (some (103, true)), [3]⟩, ⟨(some 105), .pick (.t 103) (.t 104) (.v (.bool false)), none, [3, 4]⟩]) (.cond (.t 105) (.seq (.reg false [⟨(some 106), .load (some 9) (.t 2), none, []⟩, ⟨(some 107), .load (some 9) (.t 3), none, []⟩, ⟨(some 108), .fld 0 (.t 3), none, []⟩, ⟨(some 109), .load none (.t 108), none, [2]⟩, ⟨(some 110), .build [(.int .i64 0), (.int .i64 0), (.int .i64 0)] [(0, 1, (.v (.int .i64 15))), (1, 1, (.v (.int .i64 (-1)))), (2, 1, (.t 109))], none, [3]⟩, ⟨(some 111), .fld 0 (.t 3), none, []⟩, ⟨(some 112), .load none (.t 111), none, [5]⟩, ⟨(some 113), .build [(.int .i64 0), (.int .i64 0), (.int .i64 0)] [(0, 1, (.v (.int .i64 18))), (1, 1, (.t 112))], none, [6]⟩, ⟨(some 114), .build [(.int .i64 0), (.int .i64 0), (.int .i64 0)] [(0, 1, (.v (.int .i64 16))), (1, 1, (.v (.int .i64 (-1))))], none, []⟩, ⟨(some 115), .bslice 143 3 [(.int .i64 0), (.int .i64 0), (.int .i64 0), (.int .i64 0), (.int .i64 0), (.int .i64 0), (.int .i64 0), (.int .i64 0), (.int .i64 0)] 3 [(0, 3, (.t 110)), (3, 3, (.t 113)), (6, 3, (.t 114))], none, [4, 7, 8]⟩, ⟨(some 116), .call 98 [(.t 106), (.t 107), (.t 115)], none, [0, 1, 9]⟩, ⟨(some 117), .ext (.t 116) 0, none, [10]⟩, ⟨(some 118), .ext (.t 116) 1, none, [10]⟩, ⟨none, .store 9 (.t 4) (.t 117), none, [11, 10, 0, 1, 2, 3, 4, 5, 6, 7, 8, 9, 10, 11, 12]⟩, ⟨(some 5), .mv (.t 118), none, [12, 13, 0, 1, 2, 3, 4, 5, 6, 7, 8, 9, 10, 11, 12, 13]⟩]) (.ret)) (.skip))
def pc67c2 : PC := .seq (.reg false [⟨(some 23), .fld 1 (.t 3), none, []⟩, ⟨(some 24), .load none (.t 23), none, [0]⟩]) (.block 0 (.seq (.reg false [⟨(some 26), .bin .eql (.t 24) (.v (.int .i64 15)), none, []⟩, ⟨(some 25), .mv (.t 26), none, [0]⟩]) (.cond (.t 25) (.seq (.seq (.reg false [⟨(some 27), .fld 4 (.t 3), none, []⟩, ⟨(some 28), .load none (.t 27), none, [0]⟩, ⟨(some 29), .fld 2 (.t 6), none, []⟩, ⟨(some 30), .load none (.t 29), none, [2]⟩, ⟨(some 31), .bin .neq (.t 28) (.t 30), none, [1, 3]⟩, ⟨(some 32), .mv (.t 31), none, [4]⟩, ⟨(some 33), .fld 4 (.t 6), (some (32, false)), [5]⟩, ⟨(some 34), .load none (.t 33), (some (32, false)), [6, 5]⟩, ⟨(some 35), .pick (.t 32) (.v (.bool true)) (.t 34), none, [5, 7]⟩]) (.cond (.t 35) (.seq (.reg false [⟨(some 36), .load (some 9) (.t 2), none, []⟩, ⟨none, .store 9 (.t 4) (.t 36), none, [0, 0]⟩, ⟨(some 5), .mv (.v (.bool false)), none, [1, 0, 1]⟩]) (.ret)) (.skip))) (.seq (.seq (.reg false [⟨(some 37), .fld 1 (.t 6), none, []⟩, ⟨(some 38), .load none (.t 37), none, [0]⟩, ⟨(some 39), .bin .gtr (.t 38) (.v (.int .i64 0)), none, [1]⟩, ⟨(some 40), .mv (.t 39), none, [2]⟩, ⟨(some 41), .fld 2 (.t 6), (some (40, true)), [3]⟩, ⟨(some 42), .load none (.t 41), (some (40, true)), [4, 3]⟩, ⟨(some 43), .fld 3 (.t 6), (some (40, true)), [3]⟩, ⟨(some 44), .load none (.t 43), (some (40, true)), [6, 3]⟩, ⟨(some 45), .bin .sub (.t 42) (.t 44), (some (40, true)), [5, 7, 3]⟩, ⟨(some 46), .fld 1 (.t 6), (some (40, true)), [3]⟩, ⟨(some 47), .load none (.t 46), (some (40, true)), [9, 3]⟩, ⟨(some 48), .bin .lss (.t 45) (.t 47), (some (40, true)), [8, 10, 3]⟩, ⟨(some 49), .pick (.t 40) (.t 48) (.v (.bool false)), none, [3, 11]⟩]) (.cond (.t 49) (.seq (.reg false [⟨(some 50), .load (some 9) (.t 2), none, []⟩, ⟨(some 51), .load (some 9) (.t 3), none, []⟩, ⟨(some 52), .fld 0 (.t 3), none, []⟩, ⟨(some 53), .load none (.t 52), none, [2]⟩, ⟨(some 54), .build [(.int .i64 0), (.int .i64 0), (.int .i64 0)] [(0, 1, (.v (.int .i64 16))), (1, 1, (.t 53))], none, [3]⟩, ⟨(some 55), .bslice 143 3 [(.int .i64 0), (.int .i64 0), (.int .i64 0)] 1 [(0, 3, (.t 54))], none, [4]⟩, ⟨(some 56), .call 98 [(.t 50), (.t 51), (.t 55)], none, [0, 1, 5]⟩, ⟨(some 57), .ext (.t 56) 0, none, [6]⟩, ⟨(some 58), .ext (.t 56) 1, none, [6]⟩, ⟨none, .store 9 (.t 4) (.t 57), none, [7, 6, 0, 1, 2, 3, 4, 5, 6, 7, 8]⟩, ⟨(some 5), .mv (.t 58), none, [8, 9, 0, 1, 2, 3, 4, 5, 6, 7, 8, 9]⟩]) (.ret)) (.skip))) (pc67c0))) (.seq (.reg false [⟨(some 79), .bin .eql (.t 24) (.v (.int .i64 17)), none, []⟩, ⟨(some 78), .mv (.t 79), none, [0]⟩]) (.cond (.t 78) (.seq (.seq (.reg false [⟨(some 80), .fld 4 (.t 3), none, []⟩, ⟨(some 81), .load none (.t 80), none, [0]⟩, ⟨(some 82), .fld 3 (.t 6), none, []⟩, ⟨(some 83), .load none (.t 82), none, [2]⟩, ⟨(some 84), .bin .neq (.t 81) (.t 83), none, [1, 3]⟩]) (.cond (.t 84) (.seq (.reg false [⟨(some 85), .load (some 9) (.t 2), none, []⟩, ⟨none, .store 9 (.t 4) (.t 85), none, [0, 0]⟩, ⟨(some 5), .mv (.v (.bool false)), none, [1, 0, 1]⟩]) (.ret)) (.skip))) (.seq (.seq (.reg false [⟨(some 86), .fld 2 (.t 6), none, []⟩, ⟨(some 87), .load none (.t 86), none, [0]⟩, ⟨(some 88), .fld 3 (.t 6), none, []⟩, ⟨(some 89), .load none (.t 88), none, [2]⟩, ⟨(some 90), .bin .gtr (.t 87) (.t 89), none, [1, 3]⟩]) (.cond (.t 90) (.seq (.reg false [⟨(some 91), .load (some 9) (.t 2), none, []⟩, ⟨(some 92), .load (some 9) (.t 3), none, []⟩, ⟨(some 93), .fld 0 (.t 3), none, []⟩, ⟨(some 94), .load none (.t 93), none, [2]⟩, ⟨(some 95), .build [(.int .i64 0), (.int .i64 0), (.int .i64 0)] [(0, 1, (.v (.int .i64 18))), (1, 1, (.t 94))], none, [3]⟩, ⟨(some 96), .bslice 143 3 [(.int .i64 0), (.int .i64 0), (.int .i64 0)] 1 [(0, 3, (.t 95))], none, [4]⟩, ⟨(some 97), .call 98 [(.t 91), (.t 92), (.t 96)], none, [0, 1, 5]⟩, ⟨(some 98), .ext (.t 97) 0, none, [6]⟩, ⟨(some 99), .ext (.t 97) 1, none, [6]⟩, ⟨none, .store 9 (.t 4) (.t 98), none, [7, 6, 0, 1, 2, 3, 4, 5, 6, 7, 8]⟩, ⟨(some 5), .mv (.t 99), none, [8, 9, 0, 1, 2, 3, 4, 5, 6, 7, 8, 9]⟩]) (.ret)) (.skip))) (pc67c1))) (.seq (.reg false [⟨(some 120), .bin .eql (.t 24) (.v (.int .i64 19)), none, []⟩, ⟨(some 119), .mv (.t 120), none, [0]⟩]) (.cond (.t 119) (.seq (.reg false [⟨(some 121), .fld 4 (.t 6), none, []⟩, ⟨(some 122), .load none (.t 121), none, [0]⟩, ⟨(some 123), .un .not (.t 122), none, [1]⟩]) (.cond (.t 123) (.seq (.reg false [⟨(some 124), .fld 4 (.t 6), none, []⟩, ⟨none, .store 1 (.t 124) (.v (.bool true)), none, [0]⟩]) (.seq (.reg false [⟨(some 125), .load (some 9) (.t 2), none, []⟩, ⟨(some 126), .load (some 5) (.t 6), none, []⟩, ⟨(some 127), .call 99 [(.t 125), (.t 126)], none, [0, 1]⟩, ⟨none, .store 9 (.t 4) (.t 127), none, [2, 2, 0, 1, 2]⟩, ⟨(some 5), .mv (.v (.bool true)), none, [3, 0, 1, 2, 3]⟩]) (.ret))) (.skip))) (.seq (.reg false [⟨(some 129), .bin .eql (.t 24) (.v (.int .i64 20)), none, []⟩, ⟨(some 128), .mv (.t 129), none, [0]⟩]) (.cond (.t 128) (.seq (.reg true [⟨(some 130), .load (some 9) (.t 2), none, []⟩, ⟨(some 131), .fld 4 (.t 6), none, []⟩, ⟨(some 132), .load none (.t 131), none, [1]⟩, ⟨(some 133), .mv (.t 132), none, [2]⟩, ⟨(some 134), .fld 2 (.t 6), (some (133, true)), [3]⟩, ⟨(some 135), .load none (.t 134), (some (133, true)), [4, 3]⟩, ⟨(some 136), .fld 3 (.t 6), (some (133, true)), [3]⟩, ⟨(some 137), .load none (.t 136), (some (133, true)), [6, 3]⟩, ⟨(some 138), .bin .eql (.t 135) (.t 137), (some (133, true)), [5, 7, 3]⟩, ⟨(some 139), .pick (.t 133) (.t 138) (.v (.bool false)), none, [3, 8]⟩, ⟨none, .store 9 (.t 4) (.t 130), none, [0, 3, 0]⟩, ⟨(some 5), .mv (.t 139), none, [9, 10, 0, 1, 2, 3, 4, 5, 6, 7, 8, 9, 10]⟩]) (.ret)) (.skip))))))))))
def pc67 : PC := .seq (.reg false [⟨(some 2), .box (.t 0), none, []⟩, ⟨(some 3), .box (.t 1), none, []⟩, ⟨(some 4), .new [(.int .i64 0), (.int .i64 0), (.slice none 0 0), (.slice none 0 0), (.slice none 0 0), (.slice none 0 0), (.int .i64 0), (.int .i64 0), (.int .i64 0)], none, []⟩, ⟨(some 5), .mv (.v (.bool false)), none, []⟩]) (.seq (.reg false [⟨(some 8), .load (some 9) (.t 2), none, []⟩, ⟨(some 9), .fld 2 (.t 3), none, []⟩, ⟨(some 10), .load none (.t 9), none, [1]⟩, ⟨(some 11), .fld 5 (.t 3), none, []⟩, ⟨(some 12), .load none (.t 11), none, [3]⟩, ⟨(some 13), .call 97 [(.t 8), (.t 10), (.t 12)], none, [0, 2, 4]⟩, ⟨(some 6), .new [(.int .i64 0), (.int .i64 0), (.int .i64 0), (.int .i64 0), (.bool false)], none, []⟩, ⟨none, .store 5 (.t 6) (.t 13), none, [6, 5, 5, 0, 1, 2, 3, 4, 5, 6]⟩]) (.seq (.seq (.reg false [⟨(some 14), .fld 1 (.t 6), none, []⟩, ⟨(some 15), .load none (.t 14), none, [0]⟩, ⟨(some 16), .fld 5 (.t 3), none, []⟩, ⟨(some 17), .load none (.t 16), none, [2]⟩, ⟨(some 18), .bin .neq (.t 15) (.t 17), none, [1, 3]⟩]) (.cond (.t 18) (.seq (.reg false [⟨(some 19), .load (some 9) (.t 2), none, []⟩, ⟨none, .store 9 (.t 4) (.t 19), none, [0, 0]⟩, ⟨(some 5), .mv (.v (.bool false)), none, [1, 0, 1]⟩]) (.ret)) (.skip))) (.seq (.reg false [⟨(some 20), .fld 1 (.t 2), none, []⟩, ⟨(some 21), .load none (.t 20), none, [0]⟩, ⟨(some 22), .bin .gtr (.t 21) (.v (.int .i64 1)), none, [1]⟩, ⟨(some 7), .mv (.t 22), none, [2, 0, 1, 2]⟩]) (.seq (pc67c2) (.seq (.reg false [⟨(some 140), .load (some 9) (.t 2), none, []⟩, ⟨none, .store 9 (.t 4) (.t 140), none, [0, 0]⟩, ⟨(some 5), .mv (.v (.bool false)), none, [1, 0, 1]⟩]) (.ret))))))
def pr67 : List PR := [.c 4 (some 9), .t 5]
theorem bd67:Try.f67.body=some (Try.f67.body.getD .skip):=by kernel_rfl
theorem cp67:compC Try.prog Try.f67.ntmps eqsL (Try.f67.body.getD .skip)=some pc67:=by kernel_rfl
theorem sp67 [WInv] {env:Env} (hE:EnvOK Try.prog env) {R:List Pa→List Pa→Prop} (hR:∀ ps rs,R ps rs→ps.length≤141∧pwp env pc67 (fun e s=>(e=.normal∨e=.ret)∧s.res pr67=some rs) (St.init ps)):Spec Try.prog 67 R :=
 fn_sound hE eqsOK mixedOK Try.func67 bd67 cp67 (by kernel_rfl) (by kernel_rfl) (by kernel_rfl) hR
def pc68 : PC := .seq (.reg false [⟨(some 2), .box (.t 0), none, []⟩, ⟨(some 3), .box (.t 1), none, []⟩, ⟨(some 4), .new [(.int .i64 0), (.int .i64 0), (.slice none 0 0), (.slice none 0 0), (.slice none 0 0), (.slice none 0 0), (.int .i64 0), (.int .i64 0), (.int .i64 0)], none, []⟩, ⟨(some 5), .mv (.v (.bool false)), none, []⟩]) (.seq (.reg false [⟨(some 10), .load (some 9) (.t 2), none, []⟩, ⟨(some 11), .fld 2 (.t 3), none, []⟩, ⟨(some 12), .load none (.t 11), none, [1]⟩, ⟨(some 13), .fld 3 (.t 3), none, []⟩, ⟨(some 14), .load none (.t 13), none, [3]⟩, ⟨(some 15), .call 100 [(.t 10), (.t 12), (.t 14)], none, [0, 2, 4]⟩, ⟨(some 6), .new [(.int .i64 0), (.int .i64 0), (.bool false), (.int .i64 0)], none, []⟩, ⟨none, .store 4 (.t 6) (.t 15), none, [6, 5, 5, 0, 1, 2, 3, 4, 5, 6]⟩]) (.seq (.reg false [⟨(some 16), .fld 2 (.t 6), none, []⟩, ⟨(some 17), .load none (.t 16), none, [0]⟩, ⟨(some 18), .un .not (.t 17), none, [1]⟩, ⟨(some 7), .mv (.t 18), none, [2, 0, 1, 2]⟩]) (.seq (.seq (.reg false [⟨(some 19), .fld 1 (.t 3), none, []⟩, ⟨(some 20), .load none (.t 19), none, [0]⟩]) (.block 0 (.seq (.reg false [⟨(some 22), .bin .eql (.t 20) (.v (.int .i64 6)), none, []⟩, ⟨(some 21), .mv (.t 22), none, [0]⟩]) (.cond (.t 21) (.seq (.reg false [⟨(some 23), .fld 2 (.t 6), none, []⟩, ⟨none, .store 1 (.t 23) (.v (.bool true)), none, [0]⟩]) (.seq (.reg true [⟨(some 24), .load (some 9) (.t 2), none, []⟩, ⟨(some 25), .load (some 4) (.t 6), none, []⟩, ⟨(some 26), .call 101 [(.t 24), (.t 25)], none, [0, 1]⟩, ⟨(some 27), .mv (.t 7), none, []⟩, ⟨(some 28), .mv (.t 27), none, [3, 2]⟩, ⟨(some 29), .fld 3 (.t 6), (some (28, true)), [4]⟩, ⟨(some 30), .load none (.t 29), (some (28, true)), [5, 4]⟩, ⟨(some 31), .bin .eql (.t 30) (.v (.int .i64 0)), (some (28, true)), [6, 4]⟩, ⟨(some 32), .pick (.t 28) (.t 31) (.v (.bool false)), none, [4, 7]⟩, ⟨none, .store 9 (.t 4) (.t 26), none, [2, 4, 0, 1, 2]⟩, ⟨(some 5), .mv (.t 32), none, [8, 9, 0, 1, 2, 3, 4, 5, 6, 7, 8, 9]⟩]) (.ret))) (.seq (.reg false [⟨(some 34), .bin .eql (.t 20) (.v (.int .i64 7)), none, []⟩, ⟨(some 33), .mv (.t 34), none, [0]⟩]) (.cond (.t 33) (.seq (.reg false [⟨(some 35), .fld 2 (.t 6), none, []⟩, ⟨none, .store 1 (.t 35) (.v (.bool false)), none, [0]⟩]) (.seq (.reg false [⟨(some 36), .load (some 9) (.t 2), none, []⟩, ⟨(some 37), .load (some 4) (.t 6), none, []⟩, ⟨(some 38), .call 101 [(.t 36), (.t 37)], none, [0, 1]⟩, ⟨(some 39), .mv (.t 7), none, []⟩, ⟨(some 40), .un .not (.t 39), none, [3]⟩, ⟨none, .store 9 (.t 4) (.t 38), none, [2, 2, 0, 1, 2]⟩, ⟨(some 5), .mv (.t 40), none, [4, 5, 0, 1, 2, 3, 4, 5]⟩]) (.ret))) (.seq (.reg false [⟨(some 42), .bin .eql (.t 20) (.v (.int .i64 8)), none, []⟩, ⟨(some 41), .mv (.t 42), none, [0]⟩]) (.cond (.t 41) (.seq (.reg false [⟨(some 43), .fld 3 (.t 6), none, []⟩, ⟨(some 44), .load none (.t 43), none, [0]⟩, ⟨(some 45), .bin .add (.t 44) (.v (.int .i64 1)), none, [1]⟩, ⟨(some 46), .fld 3 (.t 6), none, [0, 1, 2]⟩, ⟨none, .store 1 (.t 46) (.t 45), none, [3, 2, 0, 1, 2]⟩]) (.seq (.reg false [⟨(some 47), .load (some 9) (.t 2), none, []⟩, ⟨(some 48), .load (some 4) (.t 6), none, []⟩, ⟨(some 49), .call 101 [(.t 47), (.t 48)], none, [0, 1]⟩, ⟨(some 50), .mv (.t 7), none, []⟩, ⟨none, .store 9 (.t 4) (.t 49), none, [2, 2, 0, 1, 2]⟩, ⟨(some 5), .mv (.t 50), none, [3, 4, 0, 1, 2, 3, 4]⟩]) (.ret))) (.seq (.reg false [⟨(some 52), .bin .eql (.t 20) (.v (.int .i64 9)), none, []⟩, ⟨(some 51), .mv (.t 52), none, [0]⟩]) (.cond (.t 51) (.seq (.reg false [⟨(some 53), .fld 3 (.t 6), none, []⟩, ⟨(some 54), .load none (.t 53), none, [0]⟩, ⟨(some 55), .bin .sub (.t 54) (.v (.int .i64 1)), none, [1]⟩, ⟨(some 56), .fld 3 (.t 6), none, [0, 1, 2]⟩, ⟨none, .store 1 (.t 56) (.t 55), none, [3, 2, 0, 1, 2]⟩]) (.seq (.reg true [⟨(some 57), .load (some 9) (.t 2), none, []⟩, ⟨(some 58), .load (some 4) (.t 6), none, []⟩, ⟨(some 59), .call 101 [(.t 57), (.t 58)], none, [0, 1]⟩, ⟨(some 60), .fld 3 (.t 6), none, []⟩, ⟨(some 61), .load none (.t 60), none, [3]⟩, ⟨(some 62), .bin .geq (.t 61) (.v (.int .i64 0)), none, [4]⟩, ⟨none, .store 9 (.t 4) (.t 59), none, [2, 2, 0, 1, 2]⟩, ⟨(some 5), .mv (.t 62), none, [5, 6, 0, 1, 2, 3, 4, 5, 6]⟩]) (.ret))) (.seq (.reg false [⟨(some 64), .bin .eql (.t 20) (.v (.int .i64 12)), none, []⟩, ⟨(some 63), .mv (.t 64), none, [0]⟩]) (.cond (.t 63) (.seq (.reg false [⟨(some 65), .load (some 9) (.t 2), none, []⟩, ⟨(some 66), .fld 2 (.t 3), none, []⟩, ⟨(some 67), .load none (.t 66), none, [1]⟩, ⟨(some 68), .fld 3 (.t 3), none, []⟩, ⟨(some 69), .load none (.t 68), none, [3]⟩, ⟨(some 70), .call 102 [(.t 65), (.t 67), (.t 69)], none, [0, 2, 4]⟩, ⟨(some 8), .mv (.t 70), none, [5, 5, 0, 1, 2, 3, 4, 5]⟩]) (.seq (.reg true [⟨(some 71), .bslice 98 2 [] 0 [], none, []⟩, ⟨(some 72), .fld 4 (.t 2), none, []⟩, ⟨(some 73), .load none (.t 72), none, [1]⟩, ⟨(some 74), .append 98 2 16 (.t 71) (.t 73), none, [0, 2]⟩, ⟨(some 75), .fld 2 (.t 3), none, []⟩, ⟨(some 76), .load none (.t 75), none, [4]⟩, ⟨(some 77), .fld 3 (.t 3), none, []⟩, ⟨(some 78), .load none (.t 77), none, [6]⟩, ⟨(some 79), .build [(.int .i64 0), (.int .i64 0)] [(0, 1, (.t 76)), (1, 1, (.t 78))], none, [5, 7]⟩, ⟨(some 80), .bslice 98 2 [(.int .i64 0), (.int .i64 0)] 1 [(0, 2, (.t 79))], none, [8]⟩, ⟨(some 81), .append 98 2 16 (.t 74) (.t 80), none, [3, 9, 3]⟩, ⟨(some 82), .fld 4 (.t 2), none, [0, 1, 2, 3, 4, 5, 6, 7, 8, 9, 10]⟩, ⟨none, .store 1 (.t 82) (.t 81), none, [11, 10, 10, 0, 1, 2, 3, 4, 5, 6, 7, 8, 9, 10]⟩]) (.seq (.reg false [⟨(some 83), .load (some 9) (.t 2), none, []⟩, ⟨(some 84), .mv (.t 8), none, []⟩, ⟨(some 85), .un .not (.t 84), none, [1]⟩, ⟨none, .store 9 (.t 4) (.t 83), none, [0, 0]⟩, ⟨(some 5), .mv (.t 85), none, [2, 3, 0, 1, 2, 3]⟩]) (.ret)))) (.seq (.reg false [⟨(some 87), .bin .eql (.t 20) (.v (.int .i64 13)), none, []⟩, ⟨(some 86), .mv (.t 87), none, [0]⟩]) (.cond (.t 86) (.seq (.reg true [⟨(some 88), .load (some 9) (.t 2), none, []⟩, ⟨(some 89), .load (some 9) (.t 2), none, []⟩, ⟨(some 90), .fld 2 (.t 3), none, []⟩, ⟨(some 91), .load none (.t 90), none, [2]⟩, ⟨(some 92), .fld 3 (.t 3), none, []⟩, ⟨(some 93), .load none (.t 92), none, [4]⟩, ⟨(some 94), .call 102 [(.t 89), (.t 91), (.t 93)], none, [1, 3, 5]⟩, ⟨none, .store 9 (.t 4) (.t 88), none, [0, 6, 0]⟩, ⟨(some 5), .mv (.t 94), none, [6, 7, 0, 1, 2, 3, 4, 5, 6, 7]⟩]) (.ret)) (.seq (.reg false [⟨(some 96), .bin .eql (.t 20) (.v (.int .i64 14)), none, []⟩, ⟨(some 95), .mv (.t 96), none, [0]⟩]) (.cond (.t 95) (.seq (.reg false [⟨(some 97), .fld 1 (.t 2), none, []⟩, ⟨(some 98), .load none (.t 97), none, [0]⟩, ⟨(some 9), .mv (.t 98), none, [1, 0, 1]⟩]) (.seq (.reg false [⟨(some 99), .fld 1 (.t 2), none, []⟩, ⟨(some 100), .load none (.t 99), none, [0]⟩, ⟨(some 101), .bin .add (.t 100) (.v (.int .i64 1)), none, [1]⟩, ⟨(some 102), .fld 1 (.t 2), none, [0, 1, 2]⟩, ⟨none, .store 1 (.t 102) (.t 101), none, [3, 2, 0, 1, 2]⟩]) (.seq (.reg true [⟨(some 103), .load (some 9) (.t 2), none, []⟩, ⟨(some 104), .fld 4 (.t 3), none, []⟩, ⟨(some 105), .load none (.t 104), none, [1]⟩, ⟨(some 106), .mv (.t 9), none, []⟩, ⟨(some 107), .bin .eql (.t 105) (.t 106), none, [2, 3]⟩, ⟨none, .store 9 (.t 4) (.t 103), none, [0, 0]⟩, ⟨(some 5), .mv (.t 107), none, [4, 5, 0, 1, 2, 3, 4, 5]⟩]) (.ret)))) (.skip))))))))))))))))) (.seq (.reg false [⟨(some 108), .load (some 9) (.t 2), none, []⟩, ⟨none, .store 9 (.t 4) (.t 108), none, [0, 0]⟩, ⟨(some 5), .mv (.v (.bool true)), none, [1, 0, 1]⟩]) (.ret)))))
def pr68 : List PR := [.c 4 (some 9), .t 5]
theorem bd68:Try.f68.body=some (Try.f68.body.getD .skip):=by kernel_rfl
theorem cp68:compC Try.prog Try.f68.ntmps eqsL (Try.f68.body.getD .skip)=some pc68:=by kernel_rfl
theorem sp68 [WInv] {env:Env} (hE:EnvOK Try.prog env) {R:List Pa→List Pa→Prop} (hR:∀ ps rs,R ps rs→ps.length≤109∧pwp env pc68 (fun e s=>(e=.normal∨e=.ret)∧s.res pr68=some rs) (St.init ps)):Spec Try.prog 68 R :=
 fn_sound hE eqsOK mixedOK Try.func68 bd68 cp68 (by kernel_rfl) (by kernel_rfl) (by kernel_rfl) hR
def pc96 : PC := .seq (.reg false [⟨(some 2), .box (.t 0), none, []⟩, ⟨(some 3), .box (.t 1), none, []⟩, ⟨(some 4), .new [(.int .i64 0), (.int .i64 0), (.slice none 0 0), (.slice none 0 0), (.slice none 0 0), (.slice none 0 0), (.int .i64 0), (.int .i64 0), (.int .i64 0)], none, []⟩]) (.seq (.reg false [⟨(some 6), .load (some 9) (.t 2), none, []⟩, ⟨(some 7), .fld 2 (.t 3), none, []⟩, ⟨(some 8), .load none (.t 7), none, [1]⟩, ⟨(some 9), .fld 5 (.t 3), none, []⟩, ⟨(some 10), .load none (.t 9), none, [3]⟩, ⟨(some 11), .call 97 [(.t 6), (.t 8), (.t 10)], none, [0, 2, 4]⟩, ⟨(some 5), .new [(.int .i64 0), (.int .i64 0), (.int .i64 0), (.int .i64 0), (.bool false)], none, []⟩, ⟨none, .store 5 (.t 5) (.t 11), none, [6, 5, 5, 0, 1, 2, 3, 4, 5, 6]⟩]) (.seq (.seq (.reg false [⟨(some 12), .fld 1 (.t 3), none, []⟩, ⟨(some 13), .load none (.t 12), none, [0]⟩]) (.block 0 (.seq (.reg false [⟨(some 16), .bin .eql (.t 13) (.v (.int .i64 15)), none, []⟩, ⟨(some 15), .mv (.t 16), none, [0]⟩]) (.cond (.t 15) (.reg false [⟨(some 17), .fld 2 (.t 5), none, []⟩, ⟨(some 18), .load none (.t 17), none, [0]⟩, ⟨(some 19), .bin .add (.t 18) (.v (.int .i64 1)), none, [1]⟩, ⟨(some 20), .fld 2 (.t 5), none, [0, 1, 2]⟩, ⟨none, .store 1 (.t 20) (.t 19), none, [3, 2, 0, 1, 2]⟩]) (.seq (.reg false [⟨(some 22), .bin .eql (.t 13) (.v (.int .i64 17)), none, []⟩, ⟨(some 21), .mv (.t 22), none, [0]⟩]) (.cond (.t 21) (.reg false [⟨(some 23), .fld 3 (.t 5), none, []⟩, ⟨(some 24), .load none (.t 23), none, [0]⟩, ⟨(some 25), .bin .add (.t 24) (.v (.int .i64 1)), none, [1]⟩, ⟨(some 26), .fld 3 (.t 5), none, [0, 1, 2]⟩, ⟨none, .store 1 (.t 26) (.t 25), none, [3, 2, 0, 1, 2]⟩]) (.seq (.reg false [⟨(some 14), .load (some 9) (.t 2), none, []⟩, ⟨none, .store 9 (.t 4) (.t 14), none, [0, 0]⟩]) (.ret)))))))) (.seq (.reg false [⟨(some 27), .load (some 9) (.t 2), none, []⟩, ⟨(some 28), .load (some 5) (.t 5), none, []⟩, ⟨(some 29), .call 99 [(.t 27), (.t 28)], none, [0, 1]⟩, ⟨none, .store 9 (.t 4) (.t 29), none, [2, 2, 0, 1, 2]⟩]) (.ret))))
def pr96 : List PR := [.c 4 (some 9)]
theorem bd96:Try.f96.body=some (Try.f96.body.getD .skip):=by kernel_rfl
theorem cp96:compC Try.prog Try.f96.ntmps eqsL (Try.f96.body.getD .skip)=some pc96:=by kernel_rfl
theorem sp96 [WInv] {env:Env} (hE:EnvOK Try.prog env) {R:List Pa→List Pa→Prop} (hR:∀ ps rs,R ps rs→ps.length≤30∧pwp env pc96 (fun e s=>(e=.normal∨e=.ret)∧s.res pr96=some rs) (St.init ps)):Spec Try.prog 96 R :=
 fn_sound hE eqsOK mixedOK Try.func96 bd96 cp96 (by kernel_rfl) (by kernel_rfl) (by kernel_rfl) hR
def pc97 : PC := .seq (.reg false [⟨(some 3), .box (.t 0), none, []⟩, ⟨(some 6), .new [(.int .i64 0), (.int .i64 0), (.int .i64 0), (.int .i64 0), (.bool false)], none, []⟩]) (.seq (.seq (.reg false [⟨(some 7), .mv (.v (.int .i64 0)), none, []⟩]) (.block 0 (.loop (.seq (.seq (.reg false [⟨(some 8), .mv (.t 7), none, []⟩, ⟨(some 9), .fld 2 (.t 3), none, []⟩, ⟨(some 10), .load none (.t 9), none, [1]⟩, ⟨(some 11), .len (.t 10), none, [2]⟩, ⟨(some 12), .bin .lss (.t 8) (.t 11), none, [0, 3]⟩]) (.cond (.t 12) (.skip) (.exit 0))) (.seq (.block 1 (.seq (.reg false [⟨(some 15), .fld 2 (.t 3), none, []⟩, ⟨(some 16), .load none (.t 15), none, [0]⟩, ⟨(some 17), .mv (.t 7), none, []⟩, ⟨(some 18), .ixs 5 (.t 16) (.t 17), none, [1, 2]⟩, ⟨(some 19), .fld 0 (.t 18), none, [3]⟩, ⟨(some 20), .load none (.t 19), none, [4]⟩, ⟨(some 21), .mv (.t 1), none, []⟩, ⟨(some 22), .bin .eql (.t 20) (.t 21), none, [5, 6]⟩]) (.cond (.t 22) (.seq (.reg false [⟨(some 23), .fld 2 (.t 3), none, []⟩, ⟨(some 24), .load none (.t 23), none, [0]⟩, ⟨(some 25), .mv (.t 7), none, []⟩, ⟨(some 26), .ixs 5 (.t 24) (.t 25), none, [1, 2]⟩, ⟨(some 27), .load (some 5) (.t 26), none, [3]⟩, ⟨none, .store 5 (.t 6) (.t 27), none, [4, 0, 1, 2, 3, 4]⟩]) (.ret)) (.skip)))) (.reg false [⟨(some 13), .mv (.t 7), none, []⟩, ⟨(some 14), .bin .add (.t 13) (.v (.int .i64 1)), none, [0]⟩, ⟨(some 7), .mv (.t 14), none, [1, 0, 1]⟩])))))) (.seq (.reg false [⟨(some 28), .mv (.t 1), none, []⟩, ⟨(some 29), .mv (.t 2), none, []⟩, ⟨(some 30), .build [(.int .i64 0), (.int .i64 0), (.int .i64 0), (.int .i64 0), (.bool false)] [(0, 1, (.t 28)), (1, 1, (.t 29))], none, [0, 1]⟩, ⟨none, .store 5 (.t 6) (.t 30), none, [2, 0, 1, 2]⟩]) (.ret)))
def pr97 : List PR := [.c 6 (some 5)]
abbrev ms97_0 : List Nat := [8, 9, 10, 11, 12, 15, 16, 17, 18, 19, 20, 21, 22, 23, 24, 25, 26, 27, 13, 14, 7]
abbrev os97_0 : List Nat := [6]
theorem bd97:Try.f97.body=some (Try.f97.body.getD .skip):=by kernel_rfl
theorem cp97:compC Try.prog Try.f97.ntmps eqsL (Try.f97.body.getD .skip)=some pc97:=by kernel_rfl
theorem sp97 [WInv] {env:Env} (hE:EnvOK Try.prog env) {R:List Pa→List Pa→Prop} (hR:∀ ps rs,R ps rs→ps.length≤31∧pwp env pc97 (fun e s=>(e=.normal∨e=.ret)∧s.res pr97=some rs) (St.init ps)):Spec Try.prog 97 R :=
 fn_sound hE eqsOK mixedOK Try.func97 bd97 cp97 (by kernel_rfl) (by kernel_rfl) (by kernel_rfl) hR
def pc98 : PC := .seq (.reg false [⟨(some 3), .box (.t 0), none, []⟩, ⟨(some 4), .box (.t 1), none, []⟩, ⟨(some 6), .new [(.int .i64 0), (.int .i64 0), (.slice none 0 0), (.slice none 0 0), (.slice none 0 0), (.slice none 0 0), (.int .i64 0), (.int .i64 0), (.int .i64 0)], none, []⟩, ⟨(some 7), .mv (.v (.bool false)), none, []⟩]) (.seq (.reg true [⟨(some 8), .mv (.t 2), none, []⟩, ⟨(some 9), .fld 2 (.t 4), none, []⟩, ⟨(some 10), .load none (.t 9), none, [1]⟩, ⟨(some 11), .fld 4 (.t 4), none, []⟩, ⟨(some 12), .load none (.t 11), none, [3]⟩, ⟨(some 13), .fld 5 (.t 4), none, []⟩, ⟨(some 14), .load none (.t 13), none, [5]⟩, ⟨(some 15), .fld 5 (.t 3), none, [0]⟩, ⟨none, .store 1 (.t 15) (.t 8), none, [7, 0, 0]⟩, ⟨(some 16), .fld 6 (.t 3), none, [0, 1, 2, 7, 8]⟩, ⟨none, .store 1 (.t 16) (.t 10), none, [9, 2, 8, 0, 1, 2, 7, 8]⟩, ⟨(some 17), .fld 7 (.t 3), none, [0, 1, 2, 3, 4, 7, 8, 9, 10]⟩, ⟨none, .store 1 (.t 17) (.t 12), none, [11, 4, 10, 0, 1, 2, 3, 4, 7, 8, 9, 10]⟩, ⟨(some 18), .fld 8 (.t 3), none, [0, 1, 2, 3, 4, 5, 6, 7, 8, 9, 10, 11, 12]⟩, ⟨none, .store 1 (.t 18) (.t 14), none, [13, 6, 12, 0, 1, 2, 3, 4, 5, 6, 7, 8, 9, 10, 11, 12]⟩]) (.seq (.reg false [⟨(some 19), .load (some 9) (.t 3), none, []⟩, ⟨(some 20), .load (some 9) (.t 4), none, []⟩, ⟨(some 21), .call 96 [(.t 19), (.t 20)], none, [0, 1]⟩, ⟨none, .store 9 (.t 6) (.t 21), none, [2, 2, 0, 1, 2]⟩, ⟨(some 7), .mv (.v (.bool true)), none, [3, 0, 1, 2, 3]⟩]) (.ret)))
def pr98 : List PR := [.c 6 (some 9), .t 7]
theorem bd98:Try.f98.body=some (Try.f98.body.getD .skip):=by kernel_rfl
theorem cp98:compC Try.prog Try.f98.ntmps eqsL (Try.f98.body.getD .skip)=some pc98:=by kernel_rfl
theorem sp98 [WInv] {env:Env} (hE:EnvOK Try.prog env) {R:List Pa→List Pa→Prop} (hR:∀ ps rs,R ps rs→ps.length≤22∧pwp env pc98 (fun e s=>(e=.normal∨e=.ret)∧s.res pr98=some rs) (St.init ps)):Spec Try.prog 98 R :=
 fn_sound hE eqsOK mixedOK Try.func98 bd98 cp98 (by kernel_rfl) (by kernel_rfl) (by kernel_rfl) hR
def pc99 : PC := .seq (.reg false [⟨(some 2), .box (.t 0), none, []⟩, ⟨(some 3), .box (.t 1), none, []⟩, ⟨(some 4), .new [(.int .i64 0), (.int .i64 0), (.slice none 0 0), (.slice none 0 0), (.slice none 0 0), (.slice none 0 0), (.int .i64 0), (.int .i64 0), (.int .i64 0)], none, []⟩]) (.seq (.reg false [⟨(some 5), .nilRow 146 5, none, []⟩]) (.seq (.seq (.reg false [⟨(some 6), .mv (.v (.int .i64 0)), none, []⟩]) (.block 0 (.loop (.seq (.seq (.reg false [⟨(some 7), .mv (.t 6), none, []⟩, ⟨(some 8), .fld 2 (.t 2), none, []⟩, ⟨(some 9), .load none (.t 8), none, [1]⟩, ⟨(some 10), .len (.t 9), none, [2]⟩, ⟨(some 11), .bin .lss (.t 7) (.t 10), none, [0, 3]⟩]) (.cond (.t 11) (.skip) (.exit 0))) (.seq (.block 1 (.seq (.reg true [⟨(some 14), .fld 2 (.t 2), none, []⟩, ⟨(some 15), .load none (.t 14), none, [0]⟩, ⟨(some 16), .mv (.t 6), none, []⟩, ⟨(some 17), .ixs 5 (.t 15) (.t 16), none, [1, 2]⟩, ⟨(some 18), .fld 0 (.t 17), none, [3]⟩, ⟨(some 19), .load none (.t 18), none, [4]⟩, ⟨(some 20), .fld 0 (.t 3), none, []⟩, ⟨(some 21), .load none (.t 20), none, [6]⟩, ⟨(some 22), .bin .neq (.t 19) (.t 21), none, [5, 7]⟩]) (.cond (.t 22) (.reg false [⟨(some 23), .mv (.t 5), none, []⟩, ⟨(some 24), .fld 2 (.t 2), none, []⟩, ⟨(some 25), .load none (.t 24), none, [1]⟩, ⟨(some 26), .mv (.t 6), none, []⟩, ⟨(some 27), .ixs 5 (.t 25) (.t 26), none, [2, 3]⟩, ⟨(some 28), .load (some 5) (.t 27), none, [4]⟩, ⟨(some 29), .bslice 146 5 [(.int .i64 0), (.int .i64 0), (.int .i64 0), (.int .i64 0), (.bool false)] 1 [(0, 5, (.t 28))], none, [5]⟩, ⟨(some 30), .append 146 5 40 (.t 23) (.t 29), none, [0, 6]⟩, ⟨(some 5), .mv (.t 30), none, [7, 7, 0, 1, 2, 3, 4, 5, 6, 7]⟩]) (.skip)))) (.reg false [⟨(some 12), .mv (.t 6), none, []⟩, ⟨(some 13), .bin .add (.t 12) (.v (.int .i64 1)), none, [0]⟩, ⟨(some 6), .mv (.t 13), none, [1, 0, 1]⟩])))))) (.seq (.reg false [⟨(some 31), .mv (.t 5), none, []⟩, ⟨(some 32), .load (some 5) (.t 3), none, []⟩, ⟨(some 33), .bslice 146 5 [(.int .i64 0), (.int .i64 0), (.int .i64 0), (.int .i64 0), (.bool false)] 1 [(0, 5, (.t 32))], none, [1]⟩, ⟨(some 34), .append 146 5 40 (.t 31) (.t 33), none, [0, 2]⟩, ⟨(some 35), .fld 2 (.t 2), none, [0, 1, 2, 3]⟩, ⟨none, .store 1 (.t 35) (.t 34), none, [4, 3, 3, 0, 1, 2, 3]⟩]) (.seq (.reg false [⟨(some 36), .load (some 9) (.t 2), none, []⟩, ⟨none, .store 9 (.t 4) (.t 36), none, [0, 0]⟩]) (.ret)))))
def pr99 : List PR := [.c 4 (some 9)]
abbrev ms99_0 : List Nat := [7, 8, 9, 10, 11, 14, 15, 16, 17, 18, 19, 20, 21, 22, 23, 24, 25, 26, 27, 28, 29, 30, 5, 12, 13, 6]
abbrev os99_0 : List Nat := [29, 5]
theorem bd99:Try.f99.body=some (Try.f99.body.getD .skip):=by kernel_rfl
theorem cp99:compC Try.prog Try.f99.ntmps eqsL (Try.f99.body.getD .skip)=some pc99:=by kernel_rfl
theorem sp99 [WInv] {env:Env} (hE:EnvOK Try.prog env) {R:List Pa→List Pa→Prop} (hR:∀ ps rs,R ps rs→ps.length≤37∧pwp env pc99 (fun e s=>(e=.normal∨e=.ret)∧s.res pr99=some rs) (St.init ps)):Spec Try.prog 99 R :=
 fn_sound hE eqsOK mixedOK Try.func99 bd99 cp99 (by kernel_rfl) (by kernel_rfl) (by kernel_rfl) hR
def pc100 : PC := .seq (.reg false [⟨(some 3), .box (.t 0), none, []⟩, ⟨(some 6), .new [(.int .i64 0), (.int .i64 0), (.bool false), (.int .i64 0)], none, []⟩]) (.seq (.seq (.reg false [⟨(some 7), .mv (.v (.int .i64 0)), none, []⟩]) (.block 0 (.loop (.seq (.seq (.reg false [⟨(some 8), .mv (.t 7), none, []⟩, ⟨(some 9), .fld 3 (.t 3), none, []⟩, ⟨(some 10), .load none (.t 9), none, [1]⟩, ⟨(some 11), .len (.t 10), none, [2]⟩, ⟨(some 12), .bin .lss (.t 8) (.t 11), none, [0, 3]⟩]) (.cond (.t 12) (.skip) (.exit 0))) (.seq (.block 1 (.seq (.reg false [⟨(some 15), .fld 3 (.t 3), none, []⟩, ⟨(some 16), .load none (.t 15), none, [0]⟩, ⟨(some 17), .mv (.t 7), none, []⟩, ⟨(some 18), .ixs 4 (.t 16) (.t 17), none, [1, 2]⟩, ⟨(some 19), .fld 0 (.t 18), none, [3]⟩, ⟨(some 20), .load none (.t 19), none, [4]⟩, ⟨(some 21), .mv (.t 1), none, []⟩, ⟨(some 22), .bin .eql (.t 20) (.t 21), none, [5, 6]⟩, ⟨(some 23), .mv (.t 22), none, [7]⟩, ⟨(some 24), .fld 3 (.t 3), (some (23, true)), [8]⟩, ⟨(some 25), .load none (.t 24), (some (23, true)), [9, 8]⟩, ⟨(some 26), .mv (.t 7), (some (23, true)), [8]⟩, ⟨(some 27), .ixs 4 (.t 25) (.t 26), (some (23, true)), [10, 11, 8]⟩, ⟨(some 28), .fld 1 (.t 27), (some (23, true)), [12, 8]⟩, ⟨(some 29), .load none (.t 28), (some (23, true)), [13, 8]⟩, ⟨(some 30), .mv (.t 2), (some (23, true)), [8]⟩, ⟨(some 31), .bin .eql (.t 29) (.t 30), (some (23, true)), [14, 15, 8]⟩, ⟨(some 32), .pick (.t 23) (.t 31) (.v (.bool false)), none, [8, 16]⟩]) (.cond (.t 32) (.seq (.reg false [⟨(some 33), .fld 3 (.t 3), none, []⟩, ⟨(some 34), .load none (.t 33), none, [0]⟩, ⟨(some 35), .mv (.t 7), none, []⟩, ⟨(some 36), .ixs 4 (.t 34) (.t 35), none, [1, 2]⟩, ⟨(some 37), .load (some 4) (.t 36), none, [3]⟩, ⟨none, .store 4 (.t 6) (.t 37), none, [4, 0, 1, 2, 3, 4]⟩]) (.ret)) (.skip)))) (.reg false [⟨(some 13), .mv (.t 7), none, []⟩, ⟨(some 14), .bin .add (.t 13) (.v (.int .i64 1)), none, [0]⟩, ⟨(some 7), .mv (.t 14), none, [1, 0, 1]⟩])))))) (.seq (.reg false [⟨(some 38), .mv (.t 1), none, []⟩, ⟨(some 39), .mv (.t 2), none, []⟩, ⟨(some 40), .build [(.int .i64 0), (.int .i64 0), (.bool false), (.int .i64 0)] [(0, 1, (.t 38)), (1, 1, (.t 39))], none, [0, 1]⟩, ⟨none, .store 4 (.t 6) (.t 40), none, [2, 0, 1, 2]⟩]) (.ret)))
def pr100 : List PR := [.c 6 (some 4)]
abbrev ms100_0 : List Nat := [8, 9, 10, 11, 12, 15, 16, 17, 18, 19, 20, 21, 22, 23, 24, 25, 26, 27, 28, 29, 30, 31, 32, 33, 34, 35, 36, 37, 13, 14, 7]
abbrev os100_0 : List Nat := [6]
theorem bd100:Try.f100.body=some (Try.f100.body.getD .skip):=by kernel_rfl
theorem cp100:compC Try.prog Try.f100.ntmps eqsL (Try.f100.body.getD .skip)=some pc100:=by kernel_rfl
theorem sp100 [WInv] {env:Env} (hE:EnvOK Try.prog env) {R:List Pa→List Pa→Prop} (hR:∀ ps rs,R ps rs→ps.length≤41∧pwp env pc100 (fun e s=>(e=.normal∨e=.ret)∧s.res pr100=some rs) (St.init ps)):Spec Try.prog 100 R :=
 fn_sound hE eqsOK mixedOK Try.func100 bd100 cp100 (by kernel_rfl) (by kernel_rfl) (by kernel_rfl) hR
def pc101 : PC := .seq (.reg false [⟨(some 2), .box (.t 0), none, []⟩, ⟨(some 3), .box (.t 1), none, []⟩, ⟨(some 4), .new [(.int .i64 0), (.int .i64 0), (.slice none 0 0), (.slice none 0 0), (.slice none 0 0), (.slice none 0 0), (.int .i64 0), (.int .i64 0), (.int .i64 0)], none, []⟩]) (.seq (.reg false [⟨(some 5), .nilRow 151 4, none, []⟩]) (.seq (.seq (.reg false [⟨(some 6), .mv (.v (.int .i64 0)), none, []⟩]) (.block 0 (.loop (.seq (.seq (.reg false [⟨(some 7), .mv (.t 6), none, []⟩, ⟨(some 8), .fld 3 (.t 2), none, []⟩, ⟨(some 9), .load none (.t 8), none, [1]⟩, ⟨(some 10), .len (.t 9), none, [2]⟩, ⟨(some 11), .bin .lss (.t 7) (.t 10), none, [0, 3]⟩]) (.cond (.t 11) (.skip) (.exit 0))) (.seq (.block 1 (.seq (.reg true [⟨(some 14), .fld 3 (.t 2), none, []⟩, ⟨(some 15), .load none (.t 14), none, [0]⟩, ⟨(some 16), .mv (.t 6), none, []⟩, ⟨(some 17), .ixs 4 (.t 15) (.t 16), none, [1, 2]⟩, ⟨(some 18), .fld 0 (.t 17), none, [3]⟩, ⟨(some 19), .load none (.t 18), none, [4]⟩, ⟨(some 20), .fld 0 (.t 3), none, []⟩, ⟨(some 21), .load none (.t 20), none, [6]⟩, ⟨(some 22), .bin .neq (.t 19) (.t 21), none, [5, 7]⟩, ⟨(some 23), .mv (.t 22), none, [8]⟩, ⟨(some 24), .fld 3 (.t 2), (some (23, false)), [9]⟩, ⟨(some 25), .load none (.t 24), (some (23, false)), [10, 9]⟩, ⟨(some 26), .mv (.t 6), (some (23, false)), [9]⟩, ⟨(some 27), .ixs 4 (.t 25) (.t 26), (some (23, false)), [11, 12, 9]⟩, ⟨(some 28), .fld 1 (.t 27), (some (23, false)), [13, 9]⟩, ⟨(some 29), .load none (.t 28), (some (23, false)), [14, 9]⟩, ⟨(some 30), .fld 1 (.t 3), (some (23, false)), [9]⟩, ⟨(some 31), .load none (.t 30), (some (23, false)), [16, 9]⟩, ⟨(some 32), .bin .neq (.t 29) (.t 31), (some (23, false)), [15, 17, 9]⟩, ⟨(some 33), .pick (.t 23) (.v (.bool true)) (.t 32), none, [9, 18]⟩]) (.cond (.t 33) (.reg false [⟨(some 34), .mv (.t 5), none, []⟩, ⟨(some 35), .fld 3 (.t 2), none, []⟩, ⟨(some 36), .load none (.t 35), none, [1]⟩, ⟨(some 37), .mv (.t 6), none, []⟩, ⟨(some 38), .ixs 4 (.t 36) (.t 37), none, [2, 3]⟩, ⟨(some 39), .load (some 4) (.t 38), none, [4]⟩, ⟨(some 40), .bslice 151 4 [(.int .i64 0), (.int .i64 0), (.bool false), (.int .i64 0)] 1 [(0, 4, (.t 39))], none, [5]⟩, ⟨(some 41), .append 151 4 32 (.t 34) (.t 40), none, [0, 6]⟩, ⟨(some 5), .mv (.t 41), none, [7, 7, 0, 1, 2, 3, 4, 5, 6, 7]⟩]) (.skip)))) (.reg false [⟨(some 12), .mv (.t 6), none, []⟩, ⟨(some 13), .bin .add (.t 12) (.v (.int .i64 1)), none, [0]⟩, ⟨(some 6), .mv (.t 13), none, [1, 0, 1]⟩])))))) (.seq (.reg false [⟨(some 42), .mv (.t 5), none, []⟩, ⟨(some 43), .load (some 4) (.t 3), none, []⟩, ⟨(some 44), .bslice 151 4 [(.int .i64 0), (.int .i64 0), (.bool false), (.int .i64 0)] 1 [(0, 4, (.t 43))], none, [1]⟩, ⟨(some 45), .append 151 4 32 (.t 42) (.t 44), none, [0, 2]⟩, ⟨(some 46), .fld 3 (.t 2), none, [0, 1, 2, 3]⟩, ⟨none, .store 1 (.t 46) (.t 45), none, [4, 3, 3, 0, 1, 2, 3]⟩]) (.seq (.reg false [⟨(some 47), .load (some 9) (.t 2), none, []⟩, ⟨none, .store 9 (.t 4) (.t 47), none, [0, 0]⟩]) (.ret)))))
def pr101 : List PR := [.c 4 (some 9)]
abbrev ms101_0 : List Nat := [7, 8, 9, 10, 11, 14, 15, 16, 17, 18, 19, 20, 21, 22, 23, 24, 25, 26, 27, 28, 29, 30, 31, 32, 33, 34, 35, 36, 37, 38, 39, 40, 41, 5, 12, 13, 6]
abbrev os101_0 : List Nat := [40, 5]
theorem bd101:Try.f101.body=some (Try.f101.body.getD .skip):=by kernel_rfl
theorem cp101:compC Try.prog Try.f101.ntmps eqsL (Try.f101.body.getD .skip)=some pc101:=by kernel_rfl
theorem sp101 [WInv] {env:Env} (hE:EnvOK Try.prog env) {R:List Pa→List Pa→Prop} (hR:∀ ps rs,R ps rs→ps.length≤48∧pwp env pc101 (fun e s=>(e=.normal∨e=.ret)∧s.res pr101=some rs) (St.init ps)):Spec Try.prog 101 R :=
 fn_sound hE eqsOK mixedOK Try.func101 bd101 cp101 (by kernel_rfl) (by kernel_rfl) (by kernel_rfl) hR
def pc102 : PC := .seq (.reg false [⟨(some 3), .box (.t 0), none, []⟩, ⟨(some 6), .mv (.v (.bool false)), none, []⟩]) (.seq (.seq (.reg false [⟨(some 7), .mv (.v (.int .i64 0)), none, []⟩]) (.block 0 (.loop (.seq (.seq (.reg false [⟨(some 8), .mv (.t 7), none, []⟩, ⟨(some 9), .fld 4 (.t 3), none, []⟩, ⟨(some 10), .load none (.t 9), none, [1]⟩, ⟨(some 11), .len (.t 10), none, [2]⟩, ⟨(some 12), .bin .lss (.t 8) (.t 11), none, [0, 3]⟩]) (.cond (.t 12) (.skip) (.exit 0))) (.seq (.block 1 (.seq (.reg false [⟨(some 15), .fld 4 (.t 3), none, []⟩, ⟨(some 16), .load none (.t 15), none, [0]⟩, ⟨(some 17), .mv (.t 7), none, []⟩, ⟨(some 18), .ixs 2 (.t 16) (.t 17), none, [1, 2]⟩, ⟨(some 19), .fld 0 (.t 18), none, [3]⟩, ⟨(some 20), .load none (.t 19), none, [4]⟩, ⟨(some 21), .mv (.t 1), none, []⟩, ⟨(some 22), .bin .eql (.t 20) (.t 21), none, [5, 6]⟩, ⟨(some 23), .mv (.t 22), none, [7]⟩, ⟨(some 24), .fld 4 (.t 3), (some (23, true)), [8]⟩, ⟨(some 25), .load none (.t 24), (some (23, true)), [9, 8]⟩, ⟨(some 26), .mv (.t 7), (some (23, true)), [8]⟩, ⟨(some 27), .ixs 2 (.t 25) (.t 26), (some (23, true)), [10, 11, 8]⟩, ⟨(some 28), .fld 1 (.t 27), (some (23, true)), [12, 8]⟩, ⟨(some 29), .load none (.t 28), (some (23, true)), [13, 8]⟩, ⟨(some 30), .mv (.t 2), (some (23, true)), [8]⟩, ⟨(some 31), .bin .eql (.t 29) (.t 30), (some (23, true)), [14, 15, 8]⟩, ⟨(some 32), .pick (.t 23) (.t 31) (.v (.bool false)), none, [8, 16]⟩]) (.cond (.t 32) (.seq (.reg false [⟨(some 6), .mv (.v (.bool true)), none, []⟩]) (.ret)) (.skip)))) (.reg false [⟨(some 13), .mv (.t 7), none, []⟩, ⟨(some 14), .bin .add (.t 13) (.v (.int .i64 1)), none, [0]⟩, ⟨(some 7), .mv (.t 14), none, [1, 0, 1]⟩])))))) (.seq (.reg false [⟨(some 6), .mv (.v (.bool false)), none, []⟩]) (.ret)))
def pr102 : List PR := [.t 6]
abbrev ms102_0 : List Nat := [8, 9, 10, 11, 12, 15, 16, 17, 18, 19, 20, 21, 22, 23, 24, 25, 26, 27, 28, 29, 30, 31, 32, 6, 13, 14, 7]
abbrev os102_0 : List Nat := []
theorem bd102:Try.f102.body=some (Try.f102.body.getD .skip):=by kernel_rfl
theorem cp102:compC Try.prog Try.f102.ntmps eqsL (Try.f102.body.getD .skip)=some pc102:=by kernel_rfl
theorem sp102 [WInv] {env:Env} (hE:EnvOK Try.prog env) {R:List Pa→List Pa→Prop} (hR:∀ ps rs,R ps rs→ps.length≤33∧pwp env pc102 (fun e s=>(e=.normal∨e=.ret)∧s.res pr102=some rs) (St.init ps)):Spec Try.prog 102 R :=
 fn_sound hE eqsOK mixedOK Try.func102 bd102 cp102 (by kernel_rfl) (by kernel_rfl) (by kernel_rfl) hR
def pc20 : PC := .seq (.reg false [⟨(some 0), .new [(.int .i64 0), (.int .i64 0), (.slice none 0 0), (.slice none 0 0), (.slice none 0 0), (.slice none 0 0), (.int .i64 0), (.int .i64 0), (.int .i64 0)], none, []⟩]) (.seq (.reg false [⟨(some 1), .build [(.int .i64 0), (.int .i64 0), (.slice none 0 0), (.slice none 0 0), (.slice none 0 0), (.slice none 0 0), (.int .i64 0), (.int .i64 0), (.int .i64 0)] [(1, 1, (.v (.int .i64 1)))], none, []⟩, ⟨none, .store 9 (.t 0) (.t 1), none, [0, 0]⟩]) (.ret))
def pr20 : List PR := [.c 0 (some 9)]
theorem bd20:Try.f20.body=some (Try.f20.body.getD .skip):=by kernel_rfl
theorem cp20:compC Try.prog Try.f20.ntmps eqsL (Try.f20.body.getD .skip)=some pc20:=by kernel_rfl
theorem sp20 [WInv] {env:Env} (hE:EnvOK Try.prog env) {R:List Pa→List Pa→Prop} (hR:∀ ps rs,R ps rs→ps.length≤2∧pwp env pc20 (fun e s=>(e=.normal∨e=.ret)∧s.res pr20=some rs) (St.init ps)):Spec Try.prog 20 R :=
 fn_sound hE eqsOK mixedOK Try.func20 bd20 cp20 (by kernel_rfl) (by kernel_rfl) (by kernel_rfl) hR
def pc27 : PC := .seq (.reg false [⟨(some 2), .mv (.v (.bool false)), none, []⟩]) (.seq (.reg false [⟨(some 6), .mv (.t 0), none, []⟩, ⟨(some 7), .call 72 [(.t 6)], none, [0]⟩, ⟨(some 5), .mv (.t 7), none, [1]⟩, ⟨(some 8), .ext (.t 5) 0, none, [2]⟩, ⟨(some 9), .ext (.t 5) 1, none, [2]⟩, ⟨(some 3), .mv (.t 8), none, [3, 1, 0, 1, 2, 3]⟩, ⟨(some 4), .mv (.t 9), none, [4, 5, 0, 1, 2, 3, 4, 5]⟩]) (.seq (.reg false [⟨(some 10), .mv (.t 4), none, []⟩, ⟨(some 2), .mv (.t 10), none, [0, 0]⟩]) (.ret)))
def pr27 : List PR := [.t 2]
theorem bd27:Try.f27.body=some (Try.f27.body.getD .skip):=by kernel_rfl
theorem cp27:compC Try.prog Try.f27.ntmps eqsL (Try.f27.body.getD .skip)=some pc27:=by kernel_rfl
theorem sp27 [WInv] {env:Env} (hE:EnvOK Try.prog env) {R:List Pa→List Pa→Prop} (hR:∀ ps rs,R ps rs→ps.length≤11∧pwp env pc27 (fun e s=>(e=.normal∨e=.ret)∧s.res pr27=some rs) (St.init ps)):Spec Try.prog 27 R :=
 fn_sound hE eqsOK mixedOK Try.func27 bd27 cp27 (by kernel_rfl) (by kernel_rfl) (by kernel_rfl) hR
def pc72 : PC := .seq (.reg false [⟨(some 2), .mv (.v (.int .i64 0)), none, []⟩, ⟨(some 3), .mv (.v (.bool false)), none, [0]⟩]) (.seq (.reg false [⟨(some 8), .call 20 [], none, []⟩, ⟨(some 4), .new [(.int .i64 0), (.int .i64 0), (.slice none 0 0), (.slice none 0 0), (.slice none 0 0), (.slice none 0 0), (.int .i64 0), (.int .i64 0), (.int .i64 0)], none, []⟩, ⟨none, .store 9 (.t 4) (.t 8), none, [1, 0, 0, 0, 1]⟩]) (.seq (.seq (.reg false [⟨(some 5), .mv (.v (.int .i64 0)), none, []⟩]) (.block 0 (.loop (.seq (.seq (.reg false [⟨(some 9), .mv (.t 5), none, []⟩, ⟨(some 10), .mv (.t 0), none, []⟩, ⟨(some 11), .len (.t 10), none, [1]⟩, ⟨(some 12), .bin .lss (.t 9) (.t 11), none, [0, 2]⟩]) (.cond (.t 12) (.skip) (.exit 0))) (.seq (.block 1 (.seq (.reg true [⟨(some 16), .load (some 9) (.t 4), none, []⟩, ⟨(some 17), .mv (.t 0), none, []⟩, ⟨(some 18), .mv (.t 5), none, []⟩, ⟨(some 19), .ixs 9 (.t 17) (.t 18), none, [1, 2]⟩, ⟨(some 20), .load (some 9) (.t 19), none, [3]⟩, ⟨(some 21), .call 22 [(.t 16), (.t 20)], none, [0, 4]⟩, ⟨(some 15), .mv (.t 21), none, [5]⟩, ⟨(some 22), .ext (.t 15) 0, none, [6]⟩, ⟨(some 23), .ext (.t 15) 1, none, [6]⟩, ⟨(some 6), .new [(.int .i64 0), (.int .i64 0), (.slice none 0 0), (.slice none 0 0), (.slice none 0 0), (.slice none 0 0), (.int .i64 0), (.int .i64 0), (.int .i64 0)], none, []⟩, ⟨none, .store 9 (.t 6) (.t 22), none, [9, 7, 5, 0, 1, 2, 3, 4, 5, 6, 7, 9]⟩, ⟨(some 7), .mv (.t 23), none, [8, 10, 0, 1, 2, 3, 4, 5, 6, 7, 8, 9, 10]⟩]) (.seq (.seq (.reg false [⟨(some 24), .mv (.t 7), none, []⟩, ⟨(some 25), .un .not (.t 24), none, [0]⟩]) (.cond (.t 25) (.seq (.reg false [⟨(some 26), .mv (.t 5), none, []⟩, ⟨(some 2), .mv (.t 26), none, [0, 0]⟩, ⟨(some 3), .mv (.v (.bool false)), none, [1, 0, 1]⟩]) (.ret)) (.skip))) (.reg false [⟨(some 27), .load (some 9) (.t 6), none, []⟩, ⟨none, .store 9 (.t 4) (.t 27), none, [0, 0]⟩])))) (.reg false [⟨(some 13), .mv (.t 5), none, []⟩, ⟨(some 14), .bin .add (.t 13) (.v (.int .i64 1)), none, [0]⟩, ⟨(some 5), .mv (.t 14), none, [1, 0, 1]⟩])))))) (.seq (.reg false [⟨(some 28), .mv (.t 0), none, []⟩, ⟨(some 29), .len (.t 28), none, [0]⟩, ⟨(some 2), .mv (.t 29), none, [1, 0, 1]⟩, ⟨(some 3), .mv (.v (.bool true)), none, [2, 0, 1, 2]⟩]) (.ret))))
def pr72 : List PR := [.t 2, .t 3]
abbrev ms72_0 : List Nat := [9, 10, 11, 12, 16, 17, 18, 19, 20, 21, 15, 22, 23, 6, 7, 24, 25, 26, 2, 3, 27, 13, 14, 5]
abbrev os72_0 : List Nat := [6, 4]
theorem bd72:Try.f72.body=some (Try.f72.body.getD .skip):=by kernel_rfl
theorem cp72:compC Try.prog Try.f72.ntmps eqsL (Try.f72.body.getD .skip)=some pc72:=by kernel_rfl
theorem sp72 [WInv] {env:Env} (hE:EnvOK Try.prog env) {R:List Pa→List Pa→Prop} (hR:∀ ps rs,R ps rs→ps.length≤30∧pwp env pc72 (fun e s=>(e=.normal∨e=.ret)∧s.res pr72=some rs) (St.init ps)):Spec Try.prog 72 R :=
 fn_sound hE eqsOK mixedOK Try.func72 bd72 cp72 (by kernel_rfl) (by kernel_rfl) (by kernel_rfl) hR
def pc64c0 : PC := .seq (.reg false [⟨(some 108), .fld 4 (.t 1), none, []⟩, ⟨(some 109), .load none (.t 108), none, [0]⟩, ⟨(some 110), .bin .eql (.t 109) (.v (.int .i64 0)), none, [1]⟩, ⟨(some 111), .mv (.t 110), none, [2]⟩, ⟨(some 112), .fld 5 (.t 1), (some (111, true)), [3]⟩, ⟨(some 113), .load none (.t 112), (some (111, true)), [4, 3]⟩, ⟨(some 114), .bin .eql (.t 113) (.v (.int .i64 0)), (some (111, true)), [5, 3]⟩, ⟨(some 115), .pick (.t 111) (.t 114) (.v (.bool false)), none, [3, 6]⟩, ⟨(some 2), .mv (.t 115), none, [7, 3, 0, 1, 2, 3, 4, 5, 6, 7]⟩]) (.ret)
def pc64c1 : PC := .seq (.reg false [⟨(some 56), .fld 2 (.t 1), none, []⟩, ⟨(some 57), .load none (.t 56), none, [0]⟩, ⟨(some 58), .bin .eql (.t 57) (.v (.int .i64 0)), none, [1]⟩, ⟨(some 59), .mv (.t 58), none, [2]⟩, ⟨(some 60), .fld 3 (.t 1), (some (59, true)), [3]⟩, ⟨(some 61), .load none (.t 60), (some (59, true)), [4, 3]⟩, ⟨(some 62), .bin .eql (.t 61) (.v (.int .i64 0)), (some (59, true)), [5, 3]⟩, ⟨(some 63), .pick (.t 59) (.t 62) (.v (.bool false)), none, [3, 6]⟩, ⟨(some 64), .mv (.t 63), none, [7, 3]⟩, ⟨(some 65), .fld 5 (.t 1), (some (64, true)), [8]⟩, ⟨(some 66), .load none (.t 65), (some (64, true)), [9, 8]⟩, ⟨(some 67), .bin .eql (.t 66) (.v (.int .i64 0)), (some (64, true)), [10, 8]⟩, ⟨(some 68), .pick (.t 64) (.t 67) (.v (.bool false)), none, [8, 11]⟩, ⟨(some 69), .mv (.t 68), none, [12, 8]⟩, ⟨(some 70), .fld 4 (.t 1), (some (69, true)), [13]⟩, ⟨(some 71), .load none (.t 70), (some (69, true)), [14, 13]⟩, ⟨(some 72), .bin .gtr (.t 71) (.v (.int .i64 0)), (some (69, true)), [15, 13]⟩, ⟨(some 73), .pick (.t 69) (.t 72) (.v (.bool false)), none, [13, 16]⟩, ⟨(some 74), .mv (.t 73), none, [17, 13]⟩, ⟨(some 75), .fld 4 (.t 1), (some (74, true)), [18]⟩, ⟨(some 76), .load none (.t 75), (some (74, true)), [19, 18]⟩, ⟨(some 77), .bin .lss (.t 76) (.v (.int .i64 8)), (some (74, true)), [20, 18]⟩, ⟨(some 78), .pick (.t 74) (.t 77) (.v (.bool false)), none, [18, 21]⟩, ⟨(some 2), .mv (.t 78), none, [22, 18, 0, 1, 2, 3, 4, 5, 6, 7, 8, 9, 10, 11, 12, 13, 14, 15, 16, 17, 18, 19, 20, 21, 22]⟩]) (.ret)
def pc64c2 : PC := .seq (.reg false [⟨(some 84), .fld 3 (.t 1), none, []⟩, ⟨(some 85), .load none (.t 84), none, [0]⟩, ⟨(some 86), .bin .eql (.t 85) (.v (.int .i64 0)), none, [1]⟩, ⟨(some 87), .mv (.t 86), none, [2]⟩, ⟨(some 88), .fld 5 (.t 1), (some (87, true)), [3]⟩, ⟨(some 89), .load none (.t 88), (some (87, true)), [4, 3]⟩, ⟨(some 90), .bin .leq (.t 89) (.v (.int .i64 64)), (some (87, true)), [5, 3]⟩, ⟨(some 91), .pick (.t 87) (.t 90) (.v (.bool false)), none, [3, 6]⟩, ⟨(some 2), .mv (.t 91), none, [7, 3, 0, 1, 2, 3, 4, 5, 6, 7]⟩]) (.ret)
def pc64c3 : PC := .seq (.reg false [⟨(some 95), .fld 3 (.t 1), none, []⟩, ⟨(some 96), .load none (.t 95), none, [0]⟩, ⟨(some 97), .bin .eql (.t 96) (.v (.int .i64 0)), none, [1]⟩, ⟨(some 98), .mv (.t 97), none, [2]⟩, ⟨(some 99), .fld 4 (.t 1), (some (98, true)), [3]⟩, ⟨(some 100), .load none (.t 99), (some (98, true)), [4, 3]⟩, ⟨(some 101), .bin .eql (.t 100) (.v (.int .i64 0)), (some (98, true)), [5, 3]⟩, ⟨(some 102), .pick (.t 98) (.t 101) (.v (.bool false)), none, [3, 6]⟩, ⟨(some 103), .mv (.t 102), none, [7, 3]⟩, ⟨(some 104), .fld 5 (.t 1), (some (103, true)), [8]⟩, ⟨(some 105), .load none (.t 104), (some (103, true)), [9, 8]⟩, ⟨(some 106), .bin .leq (.t 105) (.v (.int .i64 64)), (some (103, true)), [10, 8]⟩, ⟨(some 107), .pick (.t 103) (.t 106) (.v (.bool false)), none, [8, 11]⟩, ⟨(some 2), .mv (.t 107), none, [12, 8, 0, 1, 2, 3, 4, 5, 6, 7, 8, 9, 10, 11, 12]⟩]) (.ret)
def pc64c4 : PC := .seq (.seq (.reg false [⟨(some 93), .bin .eql (.t 53) (.v (.int .i64 19)), none, []⟩, ⟨(some 92), .mv (.t 93), none, [0]⟩]) (.cond (.t 92) (.skip) (.reg false [⟨(some 94), .bin .eql (.t 53) (.v (.int .i64 20)), none, []⟩, ⟨(some 92), .mv (.t 94), none, [0]⟩]))) (.cond (.t 92) (pc64c3) (.skip))
def pc64c5 : PC := .seq (.seq (.reg false [⟨(some 80), .bin .eql (.t 53) (.v (.int .i64 15)), none, []⟩, ⟨(some 79), .mv (.t 80), none, [0]⟩]) (.cond (.t 79) (.skip) (.seq (.reg false [⟨(some 81), .bin .eql (.t 53) (.v (.int .i64 16)), none, []⟩, ⟨(some 79), .mv (.t 81), none, [0]⟩]) (.cond (.t 79) (.skip) (.seq (.reg false [⟨(some 82), .bin .eql (.t 53) (.v (.int .i64 17)), none, []⟩, ⟨(some 79), .mv (.t 82), none, [0]⟩]) (.cond (.t 79) (.skip) (.reg false [⟨(some 83), .bin .eql (.t 53) (.v (.int .i64 18)), none, []⟩, ⟨(some 79), .mv (.t 83), none, [0]⟩]))))))) (.cond (.t 79) (pc64c2) (pc64c4))
def pc64c6 : PC := .seq (.reg false [⟨(some 52), .fld 1 (.t 1), none, []⟩, ⟨(some 53), .load none (.t 52), none, [0]⟩]) (.block 2 (.seq (.reg false [⟨(some 55), .bin .eql (.t 53) (.v (.int .i64 14)), none, []⟩, ⟨(some 54), .mv (.t 55), none, [0]⟩]) (.cond (.t 54) (pc64c1) (pc64c5))))
def pc64c7 : PC := .seq (pc64c6) (pc64c0)
def pc64c8 : PC := .seq (.seq (.reg false [⟨(some 4), .mv (.v (.int .i64 0)), none, []⟩]) (.block 0 (.loop (.seq (.seq (.reg false [⟨(some 34), .mv (.t 4), none, []⟩, ⟨(some 35), .mv (.t 3), none, []⟩, ⟨(some 36), .len (.t 35), none, [1]⟩, ⟨(some 37), .bin .lss (.t 34) (.t 36), none, [0, 2]⟩]) (.cond (.t 37) (.skip) (.exit 0))) (.seq (.block 1 (.seq (.reg false [⟨(some 40), .mv (.t 3), none, []⟩, ⟨(some 41), .mv (.t 4), none, []⟩, ⟨(some 42), .ixs 1 (.t 40) (.t 41), none, [0, 1]⟩, ⟨(some 43), .load none (.t 42), none, [2]⟩, ⟨(some 44), .bin .lss (.t 43) (.v (.int .i64 0)), none, [3]⟩, ⟨(some 45), .mv (.t 44), none, [4]⟩, ⟨(some 46), .mv (.t 3), (some (45, false)), [5]⟩, ⟨(some 47), .mv (.t 4), (some (45, false)), [5]⟩, ⟨(some 48), .ixs 1 (.t 46) (.t 47), (some (45, false)), [6, 7, 5]⟩, ⟨(some 49), .load none (.t 48), (some (45, false)), [8, 5]⟩, ⟨(some 50), .bin .gtr (.t 49) (.v (.int .i64 2147483647)), (some (45, false)), [9, 5]⟩, ⟨(some 51), .pick (.t 45) (.v (.bool true)) (.t 50), none, [5, 10]⟩]) (.cond (.t 51) (.seq (.reg false [⟨(some 2), .mv (.v (.bool false)), none, []⟩]) (.ret)) (.skip)))) (.reg false [⟨(some 38), .mv (.t 4), none, []⟩, ⟨(some 39), .bin .add (.t 38) (.v (.int .i64 1)), none, [0]⟩, ⟨(some 4), .mv (.t 39), none, [1, 0, 1]⟩])))))) (pc64c7)
def pc64c9 : PC := .seq (.reg false [⟨(some 19), .fld 2 (.t 1), none, []⟩, ⟨(some 20), .load none (.t 19), none, [0]⟩, ⟨(some 21), .fld 3 (.t 1), none, []⟩, ⟨(some 22), .load none (.t 21), none, [2]⟩, ⟨(some 23), .fld 4 (.t 1), none, []⟩, ⟨(some 24), .load none (.t 23), none, [4]⟩, ⟨(some 25), .fld 5 (.t 1), none, []⟩, ⟨(some 26), .load none (.t 25), none, [6]⟩, ⟨(some 27), .fld 6 (.t 1), none, []⟩, ⟨(some 28), .load none (.t 27), none, [8]⟩, ⟨(some 29), .fld 7 (.t 1), none, []⟩, ⟨(some 30), .load none (.t 29), none, [10]⟩, ⟨(some 31), .fld 8 (.t 1), none, []⟩, ⟨(some 32), .load none (.t 31), none, [12]⟩, ⟨(some 33), .bslice 3 1 [(.int .i64 0), (.int .i64 0), (.int .i64 0), (.int .i64 0), (.int .i64 0), (.int .i64 0), (.int .i64 0)] 7 [(0, 1, (.t 20)), (1, 1, (.t 22)), (2, 1, (.t 24)), (3, 1, (.t 26)), (4, 1, (.t 28)), (5, 1, (.t 30)), (6, 1, (.t 32))], none, [1, 3, 5, 7, 9, 11, 13]⟩, ⟨(some 3), .mv (.t 33), none, [14, 0, 1, 2, 3, 4, 5, 6, 7, 8, 9, 10, 11, 12, 13, 14]⟩]) (pc64c8)
def pc64 : PC := .seq (.reg false [⟨(some 1), .box (.t 0), none, []⟩, ⟨(some 2), .mv (.v (.bool false)), none, []⟩]) (.seq (.seq (.reg false [⟨(some 5), .fld 0 (.t 1), none, []⟩, ⟨(some 6), .load none (.t 5), none, [0]⟩, ⟨(some 7), .bin .lss (.t 6) (.v (.int .i64 0)), none, [1]⟩, ⟨(some 8), .mv (.t 7), none, [2]⟩, ⟨(some 9), .fld 0 (.t 1), (some (8, false)), [3]⟩, ⟨(some 10), .load none (.t 9), (some (8, false)), [4, 3]⟩, ⟨(some 11), .bin .geq (.t 10) (.v (.int .i64 8)), (some (8, false)), [5, 3]⟩, ⟨(some 12), .pick (.t 8) (.v (.bool true)) (.t 11), none, [3, 6]⟩, ⟨(some 13), .mv (.t 12), none, [7, 3]⟩, ⟨(some 14), .fld 1 (.t 1), (some (13, false)), [8]⟩, ⟨(some 15), .load none (.t 14), (some (13, false)), [9, 8]⟩, ⟨(some 16), .call 95 [(.t 15)], (some (13, false)), [10, 8, 8]⟩, ⟨(some 17), .bin .eql (.t 16) (.v (.string ⟨#[]⟩)), (some (13, false)), [11, 8]⟩, ⟨(some 18), .pick (.t 13) (.v (.bool true)) (.t 17), none, [8, 12]⟩]) (.cond (.t 18) (.seq (.reg false [⟨(some 2), .mv (.v (.bool false)), none, []⟩]) (.ret)) (.skip))) (pc64c9))
def pr64 : List PR := [.t 2]
abbrev ms64_0 : List Nat := [34, 35, 36, 37, 40, 41, 42, 43, 44, 45, 46, 47, 48, 49, 50, 51, 2, 38, 39, 4]
abbrev os64_0 : List Nat := []
theorem bd64:Try.f64.body=some (Try.f64.body.getD .skip):=by kernel_rfl
theorem cp64:compC Try.prog Try.f64.ntmps eqsL (Try.f64.body.getD .skip)=some pc64:=by kernel_rfl
theorem sp64 [WInv] {env:Env} (hE:EnvOK Try.prog env) {R:List Pa→List Pa→Prop} (hR:∀ ps rs,R ps rs→ps.length≤116∧pwp env pc64 (fun e s=>(e=.normal∨e=.ret)∧s.res pr64=some rs) (St.init ps)):Spec Try.prog 64 R :=
 fn_sound hE eqsOK mixedOK Try.func64 bd64 cp64 (by kernel_rfl) (by kernel_rfl) (by kernel_rfl) hR
def pc66 : PC := .seq (.reg false [⟨(some 2), .mv (.v (.bool false)), none, []⟩]) (.seq (.reg false [⟨(some 3), .mv (.t 0), none, []⟩, ⟨(some 4), .bin .geq (.t 3) (.v (.int .i64 15)), none, [0]⟩, ⟨(some 5), .mv (.t 4), none, [1]⟩, ⟨(some 6), .mv (.t 0), (some (5, true)), [2]⟩, ⟨(some 7), .bin .leq (.t 6) (.v (.int .i64 20)), (some (5, true)), [3, 2]⟩, ⟨(some 8), .pick (.t 5) (.t 7) (.v (.bool false)), none, [2, 4]⟩, ⟨(some 2), .mv (.t 8), none, [5, 2, 0, 1, 2, 3, 4, 5]⟩]) (.ret))
def pr66 : List PR := [.t 2]
theorem bd66:Try.f66.body=some (Try.f66.body.getD .skip):=by kernel_rfl
theorem cp66:compC Try.prog Try.f66.ntmps eqsL (Try.f66.body.getD .skip)=some pc66:=by kernel_rfl
theorem sp66 [WInv] {env:Env} (hE:EnvOK Try.prog env) {R:List Pa→List Pa→Prop} (hR:∀ ps rs,R ps rs→ps.length≤9∧pwp env pc66 (fun e s=>(e=.normal∨e=.ret)∧s.res pr66=some rs) (St.init ps)):Spec Try.prog 66 R :=
 fn_sound hE eqsOK mixedOK Try.func66 bd66 cp66 (by kernel_rfl) (by kernel_rfl) (by kernel_rfl) hR
def pc95 : PC := .seq (.reg false [⟨(some 2), .mv (.v (.string ⟨#[]⟩)), none, []⟩]) (.seq (.reg false [⟨(some 4), .bslice 9 1 [(.string ⟨#[]⟩), (.string ⟨#[]⟩), (.string ⟨#[]⟩), (.string ⟨#[]⟩), (.string ⟨#[]⟩), (.string ⟨#[]⟩), (.string ⟨#[]⟩), (.string ⟨#[]⟩), (.string ⟨#[]⟩), (.string ⟨#[]⟩), (.string ⟨#[]⟩), (.string ⟨#[]⟩), (.string ⟨#[]⟩), (.string ⟨#[]⟩), (.string ⟨#[]⟩), (.string ⟨#[]⟩), (.string ⟨#[]⟩), (.string ⟨#[]⟩), (.string ⟨#[]⟩), (.string ⟨#[]⟩), (.string ⟨#[]⟩)] 21 [(0, 1, (.v (.string ⟨#[]⟩))), (1, 1, (.v (.string ⟨#[114, 101, 97, 100]⟩))), (2, 1, (.v (.string ⟨#[119, 114, 105, 116, 101]⟩))), (3, 1, (.v (.string ⟨#[97, 116, 111, 109, 105, 99, 45, 114, 101, 97, 100]⟩))), (4, 1, (.v (.string ⟨#[97, 116, 111, 109, 105, 99, 45, 119, 114, 105, 116, 101]⟩))), (5, 1, (.v (.string ⟨#[97, 116, 111, 109, 105, 99, 45, 98, 111, 116, 104]⟩))), (6, 1, (.v (.string ⟨#[108, 111, 99, 107]⟩))), (7, 1, (.v (.string ⟨#[117, 110, 108, 111, 99, 107]⟩))), (8, 1, (.v (.string ⟨#[114, 108, 111, 99, 107]⟩))), (9, 1, (.v (.string ⟨#[114, 117, 110, 108, 111, 99, 107]⟩))), (10, 1, (.v (.string ⟨#[100, 111, 110, 101]⟩))), (11, 1, (.v (.string ⟨#[119, 97, 105, 116]⟩))), (12, 1, (.v (.string ⟨#[111, 110, 99, 101, 45, 101, 110, 100]⟩))), (13, 1, (.v (.string ⟨#[111, 110, 99, 101, 45, 115, 101, 101, 110]⟩))), (14, 1, (.v (.string ⟨#[103, 111]⟩))), (15, 1, (.v (.string ⟨#[115, 101, 110, 100, 45, 115, 116, 97, 114, 116]⟩))), (16, 1, (.v (.string ⟨#[115, 101, 110, 100, 45, 101, 110, 100]⟩))), (17, 1, (.v (.string ⟨#[114, 101, 99, 118, 45, 115, 116, 97, 114, 116]⟩))), (18, 1, (.v (.string ⟨#[114, 101, 99, 118, 45, 101, 110, 100]⟩))), (19, 1, (.v (.string ⟨#[99, 108, 111, 115, 101]⟩))), (20, 1, (.v (.string ⟨#[114, 101, 99, 118, 45, 99, 108, 111, 115, 101, 100]⟩)))], none, []⟩, ⟨(some 3), .mv (.t 4), none, [0, 0]⟩]) (.seq (.seq (.reg false [⟨(some 5), .mv (.t 0), none, []⟩, ⟨(some 6), .bin .lss (.t 5) (.v (.int .i64 1)), none, [0]⟩, ⟨(some 7), .mv (.t 6), none, [1]⟩, ⟨(some 8), .mv (.t 0), (some (7, false)), [2]⟩, ⟨(some 9), .bin .gtr (.t 8) (.v (.int .i64 20)), (some (7, false)), [3, 2]⟩, ⟨(some 10), .pick (.t 7) (.v (.bool true)) (.t 9), none, [2, 4]⟩]) (.cond (.t 10) (.seq (.reg false [⟨(some 2), .mv (.v (.string ⟨#[]⟩)), none, []⟩]) (.ret)) (.skip))) (.seq (.reg false [⟨(some 11), .mv (.t 3), none, []⟩, ⟨(some 12), .mv (.t 0), none, []⟩, ⟨(some 13), .ixs 1 (.t 11) (.t 12), none, [0, 1]⟩, ⟨(some 14), .load none (.t 13), none, [2]⟩, ⟨(some 2), .mv (.t 14), none, [3, 0, 1, 2, 3]⟩]) (.ret))))
def pr95 : List PR := [.t 2]
theorem bd95:Try.f95.body=some (Try.f95.body.getD .skip):=by kernel_rfl
theorem cp95:compC Try.prog Try.f95.ntmps eqsL (Try.f95.body.getD .skip)=some pc95:=by kernel_rfl
theorem sp95 [WInv] {env:Env} (hE:EnvOK Try.prog env) {R:List Pa→List Pa→Prop} (hR:∀ ps rs,R ps rs→ps.length≤15∧pwp env pc95 (fun e s=>(e=.normal∨e=.ret)∧s.res pr95=some rs) (St.init ps)):Spec Try.prog 95 R :=
 fn_sound hE eqsOK mixedOK Try.func95 bd95 cp95 (by kernel_rfl) (by kernel_rfl) (by kernel_rfl) hR
def pc77 : PC := .seq (.reg false [⟨(some 2), .box (.t 0), none, []⟩, ⟨(some 4), .new [(.int .i64 0), (.int .i64 0), (.int .i64 0), (.int .i64 0), (.int .i64 0), (.int .i64 0), (.int .i64 0), (.int .i64 0)], none, []⟩]) (.seq (.seq (.reg false [⟨(some 5), .mv (.t 1), none, []⟩, ⟨(some 6), .bin .geq (.t 5) (.v (.int .i64 0)), none, [0]⟩, ⟨(some 7), .mv (.t 6), none, [1]⟩, ⟨(some 8), .mv (.t 1), (some (7, true)), [2]⟩, ⟨(some 9), .bin .lss (.t 8) (.v (.int .i64 8)), (some (7, true)), [3, 2]⟩, ⟨(some 10), .pick (.t 7) (.t 9) (.v (.bool false)), none, [2, 4]⟩, ⟨(some 11), .mv (.t 10), none, [5, 2]⟩, ⟨(some 12), .mv (.t 1), (some (11, true)), [6]⟩, ⟨(some 13), .ixa 8 1 (.t 2) (.t 12), (some (11, true)), [7, 6]⟩, ⟨(some 14), .load none (.t 13), (some (11, true)), [8, 6]⟩, ⟨(some 15), .bin .lss (.t 14) (.v (.int .i64 9223372036854775807)), (some (11, true)), [9, 6]⟩, ⟨(some 16), .pick (.t 11) (.t 15) (.v (.bool false)), none, [6, 10]⟩]) (.cond (.t 16) (.reg false [⟨(some 17), .mv (.t 1), none, []⟩, ⟨(some 18), .ixa 8 1 (.t 2) (.t 17), none, [0]⟩, ⟨(some 19), .load none (.t 18), none, [1]⟩, ⟨(some 20), .bin .add (.t 19) (.v (.int .i64 1)), none, [2]⟩, ⟨(some 21), .ixa 8 1 (.t 2) (.t 17), none, [0, 0, 1, 2, 3]⟩, ⟨none, .store 1 (.t 21) (.t 20), none, [4, 3, 0, 1, 2, 3]⟩]) (.skip))) (.seq (.reg false [⟨(some 22), .load (some 8) (.t 2), none, []⟩, ⟨none, .store 8 (.t 4) (.t 22), none, [0, 0]⟩]) (.ret)))
def pr77 : List PR := [.c 4 (some 8)]
theorem bd77:Try.f77.body=some (Try.f77.body.getD .skip):=by kernel_rfl
theorem cp77:compC Try.prog Try.f77.ntmps eqsL (Try.f77.body.getD .skip)=some pc77:=by kernel_rfl
theorem sp77 [WInv] {env:Env} (hE:EnvOK Try.prog env) {R:List Pa→List Pa→Prop} (hR:∀ ps rs,R ps rs→ps.length≤23∧pwp env pc77 (fun e s=>(e=.normal∨e=.ret)∧s.res pr77=some rs) (St.init ps)):Spec Try.prog 77 R :=
 fn_sound hE eqsOK mixedOK Try.func77 bd77 cp77 (by kernel_rfl) (by kernel_rfl) (by kernel_rfl) hR
def pc79 : PC := .seq (.reg false [⟨(some 2), .box (.t 0), none, []⟩, ⟨(some 3), .box (.t 1), none, []⟩, ⟨(some 4), .new [(.int .i64 0), (.int .i64 0), (.int .i64 0), (.int .i64 0), (.int .i64 0), (.int .i64 0), (.int .i64 0), (.int .i64 0)], none, []⟩]) (.seq (.seq (.reg false [⟨(some 6), .mv (.v (.int .i64 0)), none, []⟩]) (.block 0 (.loop (.seq (.reg false [⟨(some 7), .bin .lss (.t 6) (.v (.int .i64 8)), none, []⟩]) (.seq (.cond (.t 7) (.skip) (.exit 0)) (.seq (.block 1 (.seq (.reg false [⟨(some 8), .mv (.t 6), none, []⟩, ⟨(some 5), .mv (.t 8), none, [0, 0]⟩]) (.reg true [⟨(some 9), .mv (.t 5), none, []⟩, ⟨(some 10), .mv (.t 5), none, []⟩, ⟨(some 11), .ixa 8 1 (.t 2) (.t 10), none, [1]⟩, ⟨(some 12), .load none (.t 11), none, [2]⟩, ⟨(some 13), .mv (.t 5), none, []⟩, ⟨(some 14), .ixa 8 1 (.t 3) (.t 13), none, [4]⟩, ⟨(some 15), .load none (.t 14), none, [5]⟩, ⟨(some 16), .mm true [(.t 12), (.t 15)], none, [3, 6]⟩, ⟨(some 17), .ixa 8 1 (.t 2) (.t 9), none, [0, 0, 1, 2, 3, 4, 5, 6, 7]⟩, ⟨none, .store 1 (.t 17) (.t 16), none, [8, 7, 0, 1, 2, 3, 4, 5, 6, 7]⟩]))) (.reg false [⟨(some 18), .bin .add (.t 6) (.v (.int .i64 1)), none, []⟩, ⟨(some 6), .mv (.t 18), none, [0]⟩]))))))) (.seq (.reg false [⟨(some 19), .load (some 8) (.t 2), none, []⟩, ⟨none, .store 8 (.t 4) (.t 19), none, [0, 0]⟩]) (.ret)))
def pr79 : List PR := [.c 4 (some 8)]
abbrev ms79_0 : List Nat := [7, 8, 5, 9, 10, 11, 12, 13, 14, 15, 16, 17, 18, 6]
abbrev os79_0 : List Nat := [2]
theorem bd79:Try.f79.body=some (Try.f79.body.getD .skip):=by kernel_rfl
theorem cp79:compC Try.prog Try.f79.ntmps eqsL (Try.f79.body.getD .skip)=some pc79:=by kernel_rfl
theorem sp79 [WInv] {env:Env} (hE:EnvOK Try.prog env) {R:List Pa→List Pa→Prop} (hR:∀ ps rs,R ps rs→ps.length≤20∧pwp env pc79 (fun e s=>(e=.normal∨e=.ret)∧s.res pr79=some rs) (St.init ps)):Spec Try.prog 79 R :=
 fn_sound hE eqsOK mixedOK Try.func79 bd79 cp79 (by kernel_rfl) (by kernel_rfl) (by kernel_rfl) hR
def pc29 : PC := .seq (.reg false [⟨(some 2), .nilRow 53 8, none, []⟩, ⟨(some 3), .mv (.v (.int .i64 0)), none, [0]⟩]) (.seq (.seq (.reg false [⟨(some 9), .mv (.t 0), none, []⟩, ⟨(some 10), .call 27 [(.t 9)], none, [0]⟩, ⟨(some 11), .un .not (.t 10), none, [1]⟩]) (.cond (.t 11) (.seq (.reg false [⟨(some 2), .nilRow 53 8, none, []⟩, ⟨(some 3), .mv (.v (.int .i64 1)), none, [0, 0]⟩]) (.ret)) (.skip))) (.seq (.reg false [⟨(some 12), .mv (.t 0), none, []⟩, ⟨(some 13), .call 73 [(.t 12)], none, [0]⟩, ⟨(some 4), .mv (.t 13), none, [1, 1, 0, 1]⟩]) (.seq (.reg false [⟨(some 5), .nilRow 53 8, none, []⟩]) (.seq (.seq (.reg false [⟨(some 6), .mv (.v (.int .i64 0)), none, []⟩]) (.block 0 (.loop (.seq (.seq (.reg false [⟨(some 14), .mv (.t 6), none, []⟩, ⟨(some 15), .mv (.t 0), none, []⟩, ⟨(some 16), .len (.t 15), none, [1]⟩, ⟨(some 17), .bin .lss (.t 14) (.t 16), none, [0, 2]⟩]) (.cond (.t 17) (.skip) (.exit 0))) (.seq (.block 1 (.seq (.reg false [⟨(some 7), .new [(.int .i64 0), (.int .i64 0), (.int .i64 0), (.int .i64 0), (.int .i64 0), (.int .i64 0), (.int .i64 0), (.int .i64 0)], none, []⟩]) (.seq (.seq (.reg false [⟨(some 8), .mv (.v (.int .i64 0)), none, []⟩]) (.block 2 (.loop (.seq (.seq (.reg false [⟨(some 20), .mv (.t 8), none, []⟩, ⟨(some 21), .mv (.t 6), none, []⟩, ⟨(some 22), .bin .leq (.t 20) (.t 21), none, [0, 1]⟩]) (.cond (.t 22) (.skip) (.exit 2))) (.seq (.block 3 (.seq (.reg false [⟨(some 25), .mv (.t 8), none, []⟩, ⟨(some 26), .mv (.t 6), none, []⟩, ⟨(some 27), .bin .eql (.t 25) (.t 26), none, [0, 1]⟩, ⟨(some 28), .mv (.t 27), none, [2]⟩, ⟨(some 29), .mv (.t 4), (some (28, false)), [3]⟩, ⟨(some 30), .mv (.t 8), (some (28, false)), [3]⟩, ⟨(some 31), .ixs 1 (.t 29) (.t 30), (some (28, false)), [4, 5, 3]⟩, ⟨(some 32), .load none (.t 31), (some (28, false)), [6, 3]⟩, ⟨(some 33), .mv (.t 6), (some (28, false)), [3]⟩, ⟨(some 34), .ixs 1 (.t 32) (.t 33), (some (28, false)), [7, 8, 3]⟩, ⟨(some 35), .load none (.t 34), (some (28, false)), [9, 3]⟩, ⟨(some 36), .pick (.t 28) (.v (.bool true)) (.t 35), none, [3, 10]⟩]) (.cond (.t 36) (.reg false [⟨(some 37), .mv (.t 0), none, []⟩, ⟨(some 38), .mv (.t 8), none, []⟩, ⟨(some 39), .ixs 9 (.t 37) (.t 38), none, [0, 1]⟩, ⟨(some 40), .fld 0 (.t 39), none, [2]⟩, ⟨(some 41), .load none (.t 40), none, [3]⟩, ⟨(some 42), .ixa 8 1 (.t 7) (.t 41), none, [4]⟩, ⟨(some 43), .load none (.t 42), none, [5]⟩, ⟨(some 44), .bin .add (.t 43) (.v (.int .i64 1)), none, [6]⟩, ⟨(some 45), .ixa 8 1 (.t 7) (.t 41), none, [4, 0, 1, 2, 3, 4, 5, 6, 7]⟩, ⟨none, .store 1 (.t 45) (.t 44), none, [8, 7, 0, 1, 2, 3, 4, 5, 6, 7]⟩]) (.skip)))) (.reg false [⟨(some 23), .mv (.t 8), none, []⟩, ⟨(some 24), .bin .add (.t 23) (.v (.int .i64 1)), none, [0]⟩, ⟨(some 8), .mv (.t 24), none, [1, 0, 1]⟩])))))) (.reg false [⟨(some 46), .mv (.t 5), none, []⟩, ⟨(some 47), .load (some 8) (.t 7), none, []⟩, ⟨(some 48), .bslice 53 8 [(.int .i64 0), (.int .i64 0), (.int .i64 0), (.int .i64 0), (.int .i64 0), (.int .i64 0), (.int .i64 0), (.int .i64 0)] 1 [(0, 8, (.t 47))], none, [1]⟩, ⟨(some 49), .append 53 8 64 (.t 46) (.t 48), none, [0, 2]⟩, ⟨(some 5), .mv (.t 49), none, [3, 3, 0, 1, 2, 3]⟩])))) (.reg false [⟨(some 18), .mv (.t 6), none, []⟩, ⟨(some 19), .bin .add (.t 18) (.v (.int .i64 1)), none, [0]⟩, ⟨(some 6), .mv (.t 19), none, [1, 0, 1]⟩])))))) (.seq (.reg false [⟨(some 50), .mv (.t 5), none, []⟩, ⟨(some 2), .mv (.t 50), none, [0, 0]⟩, ⟨(some 3), .mv (.v (.int .i64 0)), none, [1, 0, 1]⟩]) (.ret))))))
def pr29 : List PR := [.t 2, .t 3]
abbrev ms29_0 : List Nat := [14, 15, 16, 17, 7, 8, 20, 21, 22, 25, 26, 27, 28, 29, 30, 31, 32, 33, 34, 35, 36, 37, 38, 39, 40, 41, 42, 43, 44, 45, 23, 24, 46, 47, 48, 49, 5, 18, 19, 6]
abbrev os29_0 : List Nat := [7, 48, 5]
abbrev ms29_1 : List Nat := [20, 21, 22, 25, 26, 27, 28, 29, 30, 31, 32, 33, 34, 35, 36, 37, 38, 39, 40, 41, 42, 43, 44, 45, 23, 24, 8]
abbrev os29_1 : List Nat := [7]
theorem bd29:Try.f29.body=some (Try.f29.body.getD .skip):=by kernel_rfl
theorem cp29:compC Try.prog Try.f29.ntmps eqsL (Try.f29.body.getD .skip)=some pc29:=by kernel_rfl
theorem sp29 [WInv] {env:Env} (hE:EnvOK Try.prog env) {R:List Pa→List Pa→Prop} (hR:∀ ps rs,R ps rs→ps.length≤51∧pwp env pc29 (fun e s=>(e=.normal∨e=.ret)∧s.res pr29=some rs) (St.init ps)):Spec Try.prog 29 R :=
 fn_sound hE eqsOK mixedOK Try.func29 bd29 cp29 (by kernel_rfl) (by kernel_rfl) (by kernel_rfl) hR
def pc111 : PC := .seq (.reg false [⟨(some 6), .mv (.v (.bool false)), none, []⟩]) (.seq (.seq (.reg true [⟨(some 8), .mv (.t 0), none, []⟩, ⟨(some 9), .mv (.t 1), none, []⟩, ⟨(some 10), .ixs 9 (.t 8) (.t 9), none, [0, 1]⟩, ⟨(some 11), .fld 0 (.t 10), none, [2]⟩, ⟨(some 12), .load none (.t 11), none, [3]⟩, ⟨(some 13), .mv (.t 0), none, []⟩, ⟨(some 14), .mv (.t 2), none, []⟩, ⟨(some 15), .ixs 9 (.t 13) (.t 14), none, [5, 6]⟩, ⟨(some 16), .fld 0 (.t 15), none, [7]⟩, ⟨(some 17), .load none (.t 16), none, [8]⟩, ⟨(some 18), .bin .neq (.t 12) (.t 17), none, [4, 9]⟩]) (.cond (.t 18) (.seq (.reg false [⟨(some 6), .mv (.v (.bool false)), none, []⟩]) (.ret)) (.skip))) (.seq (.seq (.reg false [⟨(some 19), .mv (.t 1), none, []⟩, ⟨(some 20), .bin .add (.t 19) (.v (.int .i64 1)), none, [0]⟩, ⟨(some 7), .mv (.t 20), none, [1, 0, 1]⟩]) (.block 0 (.loop (.seq (.seq (.reg false [⟨(some 21), .mv (.t 7), none, []⟩, ⟨(some 22), .mv (.t 2), none, []⟩, ⟨(some 23), .bin .lss (.t 21) (.t 22), none, [0, 1]⟩]) (.cond (.t 23) (.skip) (.exit 0))) (.seq (.block 1 (.seq (.reg true [⟨(some 26), .mv (.t 0), none, []⟩, ⟨(some 27), .mv (.t 7), none, []⟩, ⟨(some 28), .ixs 9 (.t 26) (.t 27), none, [0, 1]⟩, ⟨(some 29), .fld 0 (.t 28), none, [2]⟩, ⟨(some 30), .load none (.t 29), none, [3]⟩, ⟨(some 31), .mv (.t 0), none, []⟩, ⟨(some 32), .mv (.t 1), none, []⟩, ⟨(some 33), .ixs 9 (.t 31) (.t 32), none, [5, 6]⟩, ⟨(some 34), .fld 0 (.t 33), none, [7]⟩, ⟨(some 35), .load none (.t 34), none, [8]⟩, ⟨(some 36), .bin .eql (.t 30) (.t 35), none, [4, 9]⟩]) (.cond (.t 36) (.seq (.reg false [⟨(some 6), .mv (.v (.bool false)), none, []⟩]) (.ret)) (.skip)))) (.reg false [⟨(some 24), .mv (.t 7), none, []⟩, ⟨(some 25), .bin .add (.t 24) (.v (.int .i64 1)), none, [0]⟩, ⟨(some 7), .mv (.t 25), none, [1, 0, 1]⟩])))))) (.seq (.reg false [⟨(some 6), .mv (.v (.bool true)), none, []⟩]) (.ret))))
def pr111 : List PR := [.t 6]
abbrev ms111_0 : List Nat := [21, 22, 23, 26, 27, 28, 29, 30, 31, 32, 33, 34, 35, 36, 6, 24, 25, 7]
abbrev os111_0 : List Nat := []
theorem bd111:Try.f111.body=some (Try.f111.body.getD .skip):=by kernel_rfl
theorem cp111:compC Try.prog Try.f111.ntmps eqsL (Try.f111.body.getD .skip)=some pc111:=by kernel_rfl
theorem sp111 [WInv] {env:Env} (hE:EnvOK Try.prog env) {R:List Pa→List Pa→Prop} (hR:∀ ps rs,R ps rs→ps.length≤37∧pwp env pc111 (fun e s=>(e=.normal∨e=.ret)∧s.res pr111=some rs) (St.init ps)):Spec Try.prog 111 R :=
 fn_sound hE eqsOK mixedOK Try.func111 bd111 cp111 (by kernel_rfl) (by kernel_rfl) (by kernel_rfl) hR
def pc112 : PC := .seq (.reg false [⟨(some 4), .mv (.v (.bool false)), none, []⟩]) (.seq (.seq (.reg false [⟨(some 5), .mv (.v (.int .i64 0)), none, []⟩]) (.block 0 (.loop (.seq (.seq (.reg false [⟨(some 6), .mv (.t 5), none, []⟩, ⟨(some 7), .mv (.t 1), none, []⟩, ⟨(some 8), .bin .lss (.t 6) (.t 7), none, [0, 1]⟩]) (.cond (.t 8) (.skip) (.exit 0))) (.seq (.block 1 (.seq (.reg true [⟨(some 11), .mv (.t 0), none, []⟩, ⟨(some 12), .mv (.t 5), none, []⟩, ⟨(some 13), .ixs 9 (.t 11) (.t 12), none, [0, 1]⟩, ⟨(some 14), .fld 0 (.t 13), none, [2]⟩, ⟨(some 15), .load none (.t 14), none, [3]⟩, ⟨(some 16), .mv (.t 0), none, []⟩, ⟨(some 17), .mv (.t 1), none, []⟩, ⟨(some 18), .ixs 9 (.t 16) (.t 17), none, [5, 6]⟩, ⟨(some 19), .fld 0 (.t 18), none, [7]⟩, ⟨(some 20), .load none (.t 19), none, [8]⟩, ⟨(some 21), .bin .eql (.t 15) (.t 20), none, [4, 9]⟩]) (.cond (.t 21) (.seq (.reg false [⟨(some 4), .mv (.v (.bool false)), none, []⟩]) (.ret)) (.skip)))) (.reg false [⟨(some 9), .mv (.t 5), none, []⟩, ⟨(some 10), .bin .add (.t 9) (.v (.int .i64 1)), none, [0]⟩, ⟨(some 5), .mv (.t 10), none, [1, 0, 1]⟩])))))) (.seq (.reg false [⟨(some 4), .mv (.v (.bool true)), none, []⟩]) (.ret)))
def pr112 : List PR := [.t 4]
abbrev ms112_0 : List Nat := [6, 7, 8, 11, 12, 13, 14, 15, 16, 17, 18, 19, 20, 21, 4, 9, 10, 5]
abbrev os112_0 : List Nat := []
theorem bd112:Try.f112.body=some (Try.f112.body.getD .skip):=by kernel_rfl
theorem cp112:compC Try.prog Try.f112.ntmps eqsL (Try.f112.body.getD .skip)=some pc112:=by kernel_rfl
theorem sp112 [WInv] {env:Env} (hE:EnvOK Try.prog env) {R:List Pa→List Pa→Prop} (hR:∀ ps rs,R ps rs→ps.length≤22∧pwp env pc112 (fun e s=>(e=.normal∨e=.ret)∧s.res pr112=some rs) (St.init ps)):Spec Try.prog 112 R :=
 fn_sound hE eqsOK mixedOK Try.func112 bd112 cp112 (by kernel_rfl) (by kernel_rfl) (by kernel_rfl) hR
def pc113 : PC := .seq (.reg false [⟨(some 6), .mv (.v (.bool false)), none, []⟩]) (.seq (.seq (.reg false [⟨(some 8), .mv (.t 1), none, []⟩, ⟨(some 9), .bin .add (.t 8) (.v (.int .i64 1)), none, [0]⟩, ⟨(some 7), .mv (.t 9), none, [1, 0, 1]⟩]) (.block 0 (.loop (.seq (.seq (.reg false [⟨(some 10), .mv (.t 7), none, []⟩, ⟨(some 11), .mv (.t 2), none, []⟩, ⟨(some 12), .bin .lss (.t 10) (.t 11), none, [0, 1]⟩]) (.cond (.t 12) (.skip) (.exit 0))) (.seq (.block 1 (.seq (.reg true [⟨(some 15), .mv (.t 0), none, []⟩, ⟨(some 16), .mv (.t 7), none, []⟩, ⟨(some 17), .ixs 9 (.t 15) (.t 16), none, [0, 1]⟩, ⟨(some 18), .fld 1 (.t 17), none, [2]⟩, ⟨(some 19), .load none (.t 18), none, [3]⟩, ⟨(some 20), .bin .eql (.t 19) (.v (.int .i64 4)), none, [4]⟩, ⟨(some 21), .mv (.t 20), none, [5]⟩, ⟨(some 22), .mv (.t 0), (some (21, false)), [6]⟩, ⟨(some 23), .mv (.t 7), (some (21, false)), [6]⟩, ⟨(some 24), .ixs 9 (.t 22) (.t 23), (some (21, false)), [7, 8, 6]⟩, ⟨(some 25), .fld 1 (.t 24), (some (21, false)), [9, 6]⟩, ⟨(some 26), .load none (.t 25), (some (21, false)), [10, 6]⟩, ⟨(some 27), .bin .eql (.t 26) (.v (.int .i64 5)), (some (21, false)), [11, 6]⟩, ⟨(some 28), .pick (.t 21) (.v (.bool true)) (.t 27), none, [6, 12]⟩, ⟨(some 29), .mv (.t 28), none, [13, 6]⟩, ⟨(some 30), .mv (.t 0), (some (29, true)), [14]⟩, ⟨(some 31), .mv (.t 7), (some (29, true)), [14]⟩, ⟨(some 32), .ixs 9 (.t 30) (.t 31), (some (29, true)), [15, 16, 14]⟩, ⟨(some 33), .fld 2 (.t 32), (some (29, true)), [17, 14]⟩, ⟨(some 34), .load none (.t 33), (some (29, true)), [18, 14]⟩, ⟨(some 35), .mv (.t 0), (some (29, true)), [14]⟩, ⟨(some 36), .mv (.t 2), (some (29, true)), [14]⟩, ⟨(some 37), .ixs 9 (.t 35) (.t 36), (some (29, true)), [20, 21, 14]⟩, ⟨(some 38), .fld 2 (.t 37), (some (29, true)), [22, 14]⟩, ⟨(some 39), .load none (.t 38), (some (29, true)), [23, 14]⟩, ⟨(some 40), .bin .eql (.t 34) (.t 39), (some (29, true)), [19, 24, 14]⟩, ⟨(some 41), .pick (.t 29) (.t 40) (.v (.bool false)), none, [14, 25]⟩, ⟨(some 42), .mv (.t 41), none, [26, 14]⟩, ⟨(some 43), .mv (.t 0), (some (42, true)), [27]⟩, ⟨(some 44), .mv (.t 7), (some (42, true)), [27]⟩, ⟨(some 45), .ixs 9 (.t 43) (.t 44), (some (42, true)), [28, 29, 27]⟩, ⟨(some 46), .fld 3 (.t 45), (some (42, true)), [30, 27]⟩, ⟨(some 47), .load none (.t 46), (some (42, true)), [31, 27]⟩, ⟨(some 48), .mv (.t 0), (some (42, true)), [27]⟩, ⟨(some 49), .mv (.t 2), (some (42, true)), [27]⟩, ⟨(some 50), .ixs 9 (.t 48) (.t 49), (some (42, true)), [33, 34, 27]⟩, ⟨(some 51), .fld 3 (.t 50), (some (42, true)), [35, 27]⟩, ⟨(some 52), .load none (.t 51), (some (42, true)), [36, 27]⟩, ⟨(some 53), .bin .eql (.t 47) (.t 52), (some (42, true)), [32, 37, 27]⟩, ⟨(some 54), .pick (.t 42) (.t 53) (.v (.bool false)), none, [27, 38]⟩]) (.cond (.t 54) (.seq (.reg false [⟨(some 6), .mv (.v (.bool false)), none, []⟩]) (.ret)) (.skip)))) (.reg false [⟨(some 13), .mv (.t 7), none, []⟩, ⟨(some 14), .bin .add (.t 13) (.v (.int .i64 1)), none, [0]⟩, ⟨(some 7), .mv (.t 14), none, [1, 0, 1]⟩])))))) (.seq (.reg false [⟨(some 6), .mv (.v (.bool true)), none, []⟩]) (.ret)))
def pr113 : List PR := [.t 6]
abbrev ms113_0 : List Nat := [10, 11, 12, 15, 16, 17, 18, 19, 20, 21, 22, 23, 24, 25, 26, 27, 28, 29, 30, 31, 32, 33, 34, 35, 36, 37, 38, 39, 40, 41, 42, 43, 44, 45, 46, 47, 48, 49, 50, 51, 52, 53, 54, 6, 13, 14, 7]
abbrev os113_0 : List Nat := []
theorem bd113:Try.f113.body=some (Try.f113.body.getD .skip):=by kernel_rfl
theorem cp113:compC Try.prog Try.f113.ntmps eqsL (Try.f113.body.getD .skip)=some pc113:=by kernel_rfl
theorem sp113 [WInv] {env:Env} (hE:EnvOK Try.prog env) {R:List Pa→List Pa→Prop} (hR:∀ ps rs,R ps rs→ps.length≤55∧pwp env pc113 (fun e s=>(e=.normal∨e=.ret)∧s.res pr113=some rs) (St.init ps)):Spec Try.prog 113 R :=
 fn_sound hE eqsOK mixedOK Try.func113 bd113 cp113 (by kernel_rfl) (by kernel_rfl) (by kernel_rfl) hR
def pc39 : PC := .seq (.reg false [⟨(some 2), .box (.t 0), none, []⟩, ⟨(some 4), .new [(.int .i64 0), (.int .i64 0), (.int .i64 0), (.int .i64 0), (.int .i64 0), (.int .i64 0), (.int .i64 0), (.int .i64 0)], none, []⟩]) (.seq (.reg false [⟨(some 9), .fld 0 (.t 2), none, []⟩, ⟨(some 10), .load none (.t 9), none, [0]⟩, ⟨(some 11), .call 29 [(.t 10)], none, [1]⟩, ⟨(some 8), .mv (.t 11), none, [2]⟩, ⟨(some 12), .ext (.t 8) 0, none, [3]⟩, ⟨(some 13), .ext (.t 8) 1, none, [3]⟩, ⟨(some 5), .mv (.t 12), none, [4, 2, 0, 1, 2, 3, 4]⟩, ⟨(some 6), .mv (.t 13), none, [5, 6, 0, 1, 2, 3, 4, 5, 6]⟩]) (.seq (.seq (.reg false [⟨(some 14), .fld 0 (.t 2), none, []⟩, ⟨(some 15), .load none (.t 14), none, [0]⟩, ⟨(some 16), .len (.t 15), none, [1]⟩, ⟨(some 17), .bin .sub (.t 16) (.v (.int .i64 1)), none, [2]⟩, ⟨(some 7), .mv (.t 17), none, [3, 0, 1, 2, 3]⟩]) (.block 0 (.loop (.seq (.seq (.reg false [⟨(some 18), .mv (.t 7), none, []⟩, ⟨(some 19), .bin .geq (.t 18) (.v (.int .i64 0)), none, [0]⟩]) (.cond (.t 19) (.skip) (.exit 0))) (.seq (.block 1 (.seq (.reg false [⟨(some 22), .fld 0 (.t 2), none, []⟩, ⟨(some 23), .load none (.t 22), none, [0]⟩, ⟨(some 24), .mv (.t 7), none, []⟩, ⟨(some 25), .ixs 9 (.t 23) (.t 24), none, [1, 2]⟩, ⟨(some 26), .fld 0 (.t 25), none, [3]⟩, ⟨(some 27), .load none (.t 26), none, [4]⟩, ⟨(some 28), .mv (.t 1), none, []⟩, ⟨(some 29), .bin .eql (.t 27) (.t 28), none, [5, 6]⟩, ⟨(some 30), .mv (.t 29), none, [7]⟩, ⟨(some 31), .fld 0 (.t 2), (some (30, false)), [8]⟩, ⟨(some 32), .load none (.t 31), (some (30, false)), [9, 8]⟩, ⟨(some 33), .mv (.t 7), (some (30, false)), [8]⟩, ⟨(some 34), .ixs 9 (.t 32) (.t 33), (some (30, false)), [10, 11, 8]⟩, ⟨(some 35), .fld 1 (.t 34), (some (30, false)), [12, 8]⟩, ⟨(some 36), .load none (.t 35), (some (30, false)), [13, 8]⟩, ⟨(some 37), .bin .eql (.t 36) (.v (.int .i64 14)), (some (30, false)), [14, 8]⟩, ⟨(some 38), .mv (.t 37), (some (30, false)), [15, 8, 8]⟩, ⟨(some 39), .fld 0 (.t 2), (some (38, true)), [16]⟩, ⟨(some 40), .load none (.t 39), (some (38, true)), [17, 16]⟩, ⟨(some 41), .mv (.t 7), (some (38, true)), [16]⟩, ⟨(some 42), .ixs 9 (.t 40) (.t 41), (some (38, true)), [18, 19, 16]⟩, ⟨(some 43), .fld 4 (.t 42), (some (38, true)), [20, 16]⟩, ⟨(some 44), .load none (.t 43), (some (38, true)), [21, 16]⟩, ⟨(some 45), .mv (.t 1), (some (38, true)), [16]⟩, ⟨(some 46), .bin .eql (.t 44) (.t 45), (some (38, true)), [22, 23, 16]⟩, ⟨(some 47), .pick (.t 38) (.t 46) (.v (.bool false)), (some (30, false)), [16, 24, 8]⟩, ⟨(some 48), .pick (.t 30) (.v (.bool true)) (.t 47), none, [8, 25]⟩]) (.cond (.t 48) (.seq (.reg false [⟨(some 49), .mv (.t 5), none, []⟩, ⟨(some 50), .mv (.t 7), none, []⟩, ⟨(some 51), .ixs 8 (.t 49) (.t 50), none, [0, 1]⟩, ⟨(some 52), .load (some 8) (.t 51), none, [2]⟩, ⟨none, .store 8 (.t 4) (.t 52), none, [3, 0, 1, 2, 3]⟩]) (.ret)) (.skip)))) (.reg false [⟨(some 20), .mv (.t 7), none, []⟩, ⟨(some 21), .bin .sub (.t 20) (.v (.int .i64 1)), none, [0]⟩, ⟨(some 7), .mv (.t 21), none, [1, 0, 1]⟩])))))) (.seq (.reg false [⟨(some 53), .build [(.int .i64 0), (.int .i64 0), (.int .i64 0), (.int .i64 0), (.int .i64 0), (.int .i64 0), (.int .i64 0), (.int .i64 0)] [], none, []⟩, ⟨none, .store 8 (.t 4) (.t 53), none, [0, 0]⟩]) (.ret))))
def pr39 : List PR := [.c 4 (some 8)]
abbrev ms39_0 : List Nat := [18, 19, 22, 23, 24, 25, 26, 27, 28, 29, 30, 31, 32, 33, 34, 35, 36, 37, 38, 39, 40, 41, 42, 43, 44, 45, 46, 47, 48, 49, 50, 51, 52, 20, 21, 7]
abbrev os39_0 : List Nat := [4]
theorem bd39:Try.f39.body=some (Try.f39.body.getD .skip):=by kernel_rfl
theorem cp39:compC Try.prog Try.f39.ntmps eqsL (Try.f39.body.getD .skip)=some pc39:=by kernel_rfl
theorem sp39 [WInv] {env:Env} (hE:EnvOK Try.prog env) {R:List Pa→List Pa→Prop} (hR:∀ ps rs,R ps rs→ps.length≤54∧pwp env pc39 (fun e s=>(e=.normal∨e=.ret)∧s.res pr39=some rs) (St.init ps)):Spec Try.prog 39 R :=
 fn_sound hE eqsOK mixedOK Try.func39 bd39 cp39 (by kernel_rfl) (by kernel_rfl) (by kernel_rfl) hR
def pct34 : PC := .seq (.reg false [⟨(some 0), .mv (.v (.pointer none)), none, []⟩]) (.seq (.reg false [⟨(some 1), .callh 19 [], none, []⟩, ⟨(some 2), .hal 3 (.map 117), none, []⟩, ⟨(some 3), .hal 4 (.map 3), none, []⟩, ⟨(some 4), .build [(.pointer none), (.int .i64 0), (.int .i64 0), (.int .i64 0), (.int .i64 0), (.int .i64 0), (.int .i64 0), (.int .i64 0), (.int .i64 0), (.int .i64 0), (.int .i64 0), (.int .i64 0), (.int .i64 0), (.int .i64 0), (.int .i64 0), (.int .i64 0), (.int .i64 0), (.int .i64 0), (.int .i64 0), (.int .i64 0), (.int .i64 0), (.int .i64 0), (.int .i64 0), (.int .i64 0), (.int .i64 0), (.int .i64 0), (.int .i64 0), (.int .i64 0), (.int .i64 0), (.int .i64 0), (.int .i64 0), (.int .i64 0), (.int .i64 0), (.int .i64 0), (.int .i64 0), (.int .i64 0), (.int .i64 0), (.int .i64 0), (.int .i64 0), (.int .i64 0), (.int .i64 0), (.int .i64 0), (.int .i64 0), (.int .i64 0), (.int .i64 0), (.int .i64 0), (.int .i64 0), (.int .i64 0), (.int .i64 0), (.int .i64 0), (.int .i64 0), (.int .i64 0), (.int .i64 0), (.int .i64 0), (.int .i64 0), (.int .i64 0), (.int .i64 0), (.int .i64 0), (.int .i64 0), (.int .i64 0), (.int .i64 0), (.int .i64 0), (.int .i64 0), (.int .i64 0), (.int .i64 0), (.map none), (.map none)] [(0, 1, (.t 1)), (65, 1, (.t 2)), (66, 1, (.t 3))], none, [0, 1, 2]⟩, ⟨(some 5), .hal 6 (.box (.t 4)), none, [3]⟩, ⟨(some 0), .mv (.t 5), none, [4, 0, 0, 1, 2, 3, 4]⟩]) (.ret))
def prt34 : List PR := [.t 0]
def ntt34:Nat:=6
def flt34 : List (Nat × List Bool) := [(5000005, List.replicate 1 false), (6000019, List.replicate 1 false)]
theorem bdt34:Try.f34.body=some (Try.f34.body.getD .skip):=by kernel_rfl
theorem cpt34:compC Try.prog Try.f34.ntmps (eqsL ++ flt34) (Try.f34.body.getD .skip)=some pct34:=by kernel_rfl
theorem spt34 [WInv] {env:Env} (hE:EnvOK Try.prog env) {R:(Nat→Hb)→List Hw→(Nat→Hb)→List Hw→Prop} (hR:∀ hp az hp' rs,R hp az hp' rs→az.length≤6∧∃ nc,pwp env pct34 (fun e s=>(e=.normal∨e=.ret)∧s.resHs prt34=some rs∧s.hb=hp') (St.initH nc hp az)):SpecH Try.prog 34 R :=
 fn_sound_h hE (eqsH eqsOK (by kernel_rfl)) mixedOK Try.func34 bdt34 cpt34 (by kernel_rfl) (by kernel_rfl) (by kernel_rfl) hR
def pct35 : PC := .seq (.reg false [⟨(some 4), .new [(.int .i64 0), (.int .i64 0), (.int .i64 0), (.int .i64 0), (.int .i64 0), (.int .i64 0), (.int .i64 0), (.int .i64 0)], none, []⟩]) (.seq (.seq (.reg false [⟨(some 5), .mv (.t 0), none, []⟩, ⟨(some 6), .pnil false (.t 5), none, [0]⟩, ⟨(some 7), .mv (.t 6), none, [1]⟩, ⟨(some 8), .mv (.t 1), (some (7, false)), [2]⟩, ⟨(some 9), .bin .lss (.t 8) (.v (.int .i64 0)), (some (7, false)), [3, 2]⟩, ⟨(some 10), .pick (.t 7) (.v (.bool true)) (.t 9), none, [2, 4]⟩, ⟨(some 11), .mv (.t 10), none, [5, 2]⟩, ⟨(some 12), .mv (.t 1), (some (11, false)), [6]⟩, ⟨(some 13), .bin .geq (.t 12) (.v (.int .i64 8)), (some (11, false)), [7, 6]⟩, ⟨(some 14), .pick (.t 11) (.v (.bool true)) (.t 13), none, [6, 8]⟩]) (.cond (.t 14) (.seq (.reg false [⟨(some 15), .build [(.int .i64 0), (.int .i64 0), (.int .i64 0), (.int .i64 0), (.int .i64 0), (.int .i64 0), (.int .i64 0), (.int .i64 0)] [], none, []⟩, ⟨none, .store 8 (.t 4) (.t 15), none, [0, 0]⟩]) (.ret)) (.skip))) (.seq (.reg false [⟨(some 16), .mv (.t 0), none, []⟩, ⟨(some 17), .mv (.t 1), none, []⟩, ⟨(some 18), .nilck (.t 16), none, [0]⟩, ⟨(some 19), .fld 1 (.t 18), none, [2]⟩, ⟨(some 20), .ixa 8 8 (.t 19) (.t 17), none, [3, 1]⟩, ⟨(some 21), .load (some 8) (.t 20), none, [4]⟩, ⟨none, .store 8 (.t 4) (.t 21), none, [5, 0, 1, 2, 3, 4, 5]⟩]) (.ret)))
def prt35 : List PR := [.c 4 (some 8)]
def ntt35:Nat:=22
def flt35 : List (Nat × List Bool) := []
theorem bdt35:Try.f35.body=some (Try.f35.body.getD .skip):=by kernel_rfl
theorem cpt35:compC Try.prog Try.f35.ntmps (eqsL ++ flt35) (Try.f35.body.getD .skip)=some pct35:=by kernel_rfl
theorem spt35 [WInv] {env:Env} (hE:EnvOK Try.prog env) {R:(Nat→Hb)→List Hw→(Nat→Hb)→List Hw→Prop} (hR:∀ hp az hp' rs,R hp az hp' rs→az.length≤22∧∃ nc,pwp env pct35 (fun e s=>(e=.normal∨e=.ret)∧s.resHs prt35=some rs∧s.hb=hp') (St.initH nc hp az)):SpecH Try.prog 35 R :=
 fn_sound_h hE (eqsH eqsOK (by kernel_rfl)) mixedOK Try.func35 bdt35 cpt35 (by kernel_rfl) (by kernel_rfl) (by kernel_rfl) hR
def pct36c0 : PC := .seq (.reg false [⟨(some 121), .load none (.t 2), none, []⟩, ⟨(some 122), .load (some 9) (.t 3), none, []⟩, ⟨(some 123), .load (some 2) (.t 7), none, []⟩, ⟨(some 124), .load (some 8) (.t 6), none, []⟩, ⟨(some 125), .callh 81 [(.t 121), (.t 122), (.t 123), (.t 124)], none, [0, 1, 2, 3]⟩]) (.seq (.reg true [⟨(some 126), .load none (.t 2), none, []⟩, ⟨(some 127), .fld 0 (.t 3), none, []⟩, ⟨(some 128), .load none (.t 127), none, [1]⟩, ⟨(some 129), .load (some 8) (.t 6), none, []⟩, ⟨(some 130), .nilck (.t 126), none, [0]⟩, ⟨(some 131), .fld 1 (.t 130), none, [4]⟩, ⟨(some 132), .ixa 8 8 (.t 131) (.t 128), none, [5, 2, 0, 1, 2, 3]⟩, ⟨none, .store 8 (.t 132) (.t 129), none, [6, 3, 0, 1, 2, 3]⟩]) (.seq (.reg false [⟨(some 133), .load (some 8) (.t 6), none, []⟩, ⟨none, .store 8 (.t 4) (.t 133), none, [0, 0]⟩, ⟨(some 5), .mv (.v (.int .i64 0)), none, [1, 0, 1]⟩]) (.ret)))
def pct36c1 : PC := .seq (.reg false [⟨(some 46), .fld 1 (.t 3), none, []⟩, ⟨(some 47), .load none (.t 46), none, [0]⟩]) (.block 1 (.seq (.reg false [⟨(some 49), .bin .eql (.t 47) (.v (.int .i64 6)), none, []⟩, ⟨(some 48), .mv (.t 49), none, [0]⟩]) (.cond (.t 48) (.seq (.reg false [⟨(some 50), .mv (.t 8), none, []⟩, ⟨(some 51), .callc (.t 50) 78 [(.v (.int .i64 0))], none, [0]⟩]) (.reg false [⟨(some 52), .mv (.t 8), none, []⟩, ⟨(some 53), .callc (.t 52) 78 [(.v (.int .i64 1))], none, [0]⟩])) (.seq (.reg false [⟨(some 55), .bin .eql (.t 47) (.v (.int .i64 8)), none, []⟩, ⟨(some 54), .mv (.t 55), none, [0]⟩]) (.cond (.t 54) (.reg false [⟨(some 56), .mv (.t 8), none, []⟩, ⟨(some 57), .callc (.t 56) 78 [(.v (.int .i64 0))], none, [0]⟩]) (.seq (.reg false [⟨(some 59), .bin .eql (.t 47) (.v (.int .i64 11)), none, []⟩, ⟨(some 58), .mv (.t 59), none, [0]⟩]) (.cond (.t 58) (.reg false [⟨(some 60), .mv (.t 8), none, []⟩, ⟨(some 61), .callc (.t 60) 78 [(.v (.int .i64 2))], none, [0]⟩]) (.seq (.reg false [⟨(some 63), .bin .eql (.t 47) (.v (.int .i64 13)), none, []⟩, ⟨(some 62), .mv (.t 63), none, [0]⟩]) (.cond (.t 62) (.reg false [⟨(some 64), .mv (.t 8), none, []⟩, ⟨(some 65), .callc (.t 64) 78 [(.v (.int .i64 3))], none, [0]⟩]) (.seq (.seq (.reg false [⟨(some 67), .bin .eql (.t 47) (.v (.int .i64 3)), none, []⟩, ⟨(some 66), .mv (.t 67), none, [0]⟩]) (.cond (.t 66) (.skip) (.reg false [⟨(some 68), .bin .eql (.t 47) (.v (.int .i64 5)), none, []⟩, ⟨(some 66), .mv (.t 68), none, [0]⟩]))) (.cond (.t 66) (.reg false [⟨(some 69), .mv (.t 8), none, []⟩, ⟨(some 70), .callc (.t 69) 78 [(.v (.int .i64 4))], none, [0]⟩]) (.seq (.reg false [⟨(some 72), .bin .eql (.t 47) (.v (.int .i64 20)), none, []⟩, ⟨(some 71), .mv (.t 72), none, [0]⟩]) (.cond (.t 71) (.reg false [⟨(some 73), .mv (.t 8), none, []⟩, ⟨(some 74), .callc (.t 73) 78 [(.v (.int .i64 5))], none, [0]⟩]) (.seq (.reg false [⟨(some 76), .bin .eql (.t 47) (.v (.int .i64 18)), none, []⟩, ⟨(some 75), .mv (.t 76), none, [0]⟩]) (.cond (.t 75) (.seq (.reg false [⟨(some 77), .load none (.t 2), none, []⟩, ⟨(some 78), .fld 2 (.t 3), none, []⟩, ⟨(some 79), .load none (.t 78), none, [1]⟩, ⟨(some 80), .fld 5 (.t 3), none, []⟩, ⟨(some 81), .load none (.t 80), none, [3]⟩, ⟨(some 82), .callh 80 [(.t 77), (.t 79), (.t 81)], none, [0, 2, 4]⟩, ⟨(some 9), .new [(.slice none 0 0), (.slice none 0 0)], none, []⟩, ⟨none, .store 2 (.t 9) (.t 82), none, [6, 5, 5, 0, 1, 2, 3, 4, 5, 6]⟩]) (.reg true [⟨(some 83), .load (some 8) (.t 6), none, []⟩, ⟨(some 84), .fld 0 (.t 9), none, []⟩, ⟨(some 85), .load none (.t 84), none, [1]⟩, ⟨(some 86), .fld 4 (.t 3), none, []⟩, ⟨(some 87), .load none (.t 86), none, [3]⟩, ⟨(some 88), .fld 0 (.t 9), none, []⟩, ⟨(some 89), .load none (.t 88), none, [5]⟩, ⟨(some 90), .len (.t 89), none, [6]⟩, ⟨(some 91), .bin .rem (.t 87) (.t 90), none, [4, 7]⟩, ⟨(some 92), .ixs 8 (.t 85) (.t 91), none, [2, 8]⟩, ⟨(some 93), .load (some 8) (.t 92), none, [9]⟩, ⟨(some 94), .call 79 [(.t 83), (.t 93)], none, [0, 10]⟩, ⟨none, .store 8 (.t 6) (.t 94), none, [11, 11, 0, 1, 2, 3, 4, 5, 6, 7, 8, 9, 10, 11]⟩])) (.seq (.reg false [⟨(some 96), .bin .eql (.t 47) (.v (.int .i64 16)), none, []⟩, ⟨(some 95), .mv (.t 96), none, [0]⟩]) (.cond (.t 95) (.seq (.reg false [⟨(some 97), .fld 4 (.t 3), none, []⟩, ⟨(some 98), .load none (.t 97), none, [0]⟩, ⟨(some 99), .fld 5 (.t 3), none, []⟩, ⟨(some 100), .load none (.t 99), none, [2]⟩, ⟨(some 101), .bin .sub (.t 98) (.t 100), none, [1, 3]⟩, ⟨(some 10), .mv (.t 101), none, [4, 0, 1, 2, 3, 4]⟩]) (.seq (.reg false [⟨(some 102), .mv (.t 10), none, []⟩, ⟨(some 103), .bin .geq (.t 102) (.v (.int .i64 0)), none, [0]⟩]) (.cond (.t 103) (.seq (.reg false [⟨(some 104), .load none (.t 2), none, []⟩, ⟨(some 105), .fld 2 (.t 3), none, []⟩, ⟨(some 106), .load none (.t 105), none, [1]⟩, ⟨(some 107), .fld 5 (.t 3), none, []⟩, ⟨(some 108), .load none (.t 107), none, [3]⟩, ⟨(some 109), .callh 80 [(.t 104), (.t 106), (.t 108)], none, [0, 2, 4]⟩, ⟨(some 11), .new [(.slice none 0 0), (.slice none 0 0)], none, []⟩, ⟨none, .store 2 (.t 11) (.t 109), none, [6, 5, 5, 0, 1, 2, 3, 4, 5, 6]⟩]) (.reg true [⟨(some 110), .load (some 8) (.t 6), none, []⟩, ⟨(some 111), .fld 1 (.t 11), none, []⟩, ⟨(some 112), .load none (.t 111), none, [1]⟩, ⟨(some 113), .mv (.t 10), none, []⟩, ⟨(some 114), .fld 1 (.t 11), none, []⟩, ⟨(some 115), .load none (.t 114), none, [4]⟩, ⟨(some 116), .len (.t 115), none, [5]⟩, ⟨(some 117), .bin .rem (.t 113) (.t 116), none, [3, 6]⟩, ⟨(some 118), .ixs 8 (.t 112) (.t 117), none, [2, 7]⟩, ⟨(some 119), .load (some 8) (.t 118), none, [8]⟩, ⟨(some 120), .call 79 [(.t 110), (.t 119)], none, [0, 9]⟩, ⟨none, .store 8 (.t 6) (.t 120), none, [10, 10, 0, 1, 2, 3, 4, 5, 6, 7, 8, 9, 10]⟩])) (.skip)))) (.skip))))))))))))))))))
def pct36c2 : PC := .seq (.reg true [⟨(some 30), .load none (.t 2), none, []⟩, ⟨(some 31), .fld 0 (.t 3), none, []⟩, ⟨(some 32), .load none (.t 31), none, [1]⟩, ⟨(some 33), .nilck (.t 30), none, [0]⟩, ⟨(some 34), .fld 1 (.t 33), none, [3]⟩, ⟨(some 35), .ixa 8 8 (.t 34) (.t 32), none, [4, 2]⟩, ⟨(some 36), .load (some 8) (.t 35), none, [5]⟩, ⟨(some 37), .fld 0 (.t 3), none, []⟩, ⟨(some 38), .load none (.t 37), none, [7]⟩, ⟨(some 39), .call 77 [(.t 36), (.t 38)], none, [6, 8]⟩, ⟨(some 6), .hal 7 (.new [(.int .i64 0), (.int .i64 0), (.int .i64 0), (.int .i64 0), (.int .i64 0), (.int .i64 0), (.int .i64 0), (.int .i64 0)]), none, []⟩, ⟨none, .store 8 (.t 6) (.t 39), none, [10, 9, 9, 0, 1, 2, 3, 4, 5, 6, 7, 8, 9, 10]⟩]) (.seq (.reg false [⟨(some 40), .fld 2 (.t 3), none, []⟩, ⟨(some 41), .load none (.t 40), none, [0]⟩, ⟨(some 42), .fld 3 (.t 3), none, []⟩, ⟨(some 43), .load none (.t 42), none, [2]⟩, ⟨(some 44), .build [(.int .i64 0), (.int .i64 0)] [(0, 1, (.t 41)), (1, 1, (.t 43))], none, [1, 3]⟩, ⟨(some 7), .hal 8 (.new [(.int .i64 0), (.int .i64 0)]), none, []⟩, ⟨none, .store 2 (.t 7) (.t 44), none, [5, 4, 0, 1, 2, 3, 4, 5]⟩]) (.seq (.reg false [⟨(some 45), .mkf 78 [] [(.t 6), (.t 2), (.t 7)], none, []⟩, ⟨(some 8), .mv (.t 45), none, [0, 0]⟩]) (.seq (pct36c1) (pct36c0))))
def pct36 : PC := .seq (.reg false [⟨(some 2), .hal 3 (.box (.t 0)), none, []⟩, ⟨(some 3), .box (.t 1), none, []⟩, ⟨(some 4), .new [(.int .i64 0), (.int .i64 0), (.int .i64 0), (.int .i64 0), (.int .i64 0), (.int .i64 0), (.int .i64 0), (.int .i64 0)], none, []⟩, ⟨(some 5), .mv (.v (.int .i64 0)), none, []⟩]) (.seq (.block 0 (.seq (.reg false [⟨(some 13), .load none (.t 2), none, []⟩, ⟨(some 14), .pnil false (.t 13), none, [0]⟩, ⟨(some 12), .mv (.t 14), none, [1]⟩]) (.cond (.t 12) (.seq (.reg false [⟨(some 15), .build [(.int .i64 0), (.int .i64 0), (.int .i64 0), (.int .i64 0), (.int .i64 0), (.int .i64 0), (.int .i64 0), (.int .i64 0)] [], none, []⟩, ⟨none, .store 8 (.t 4) (.t 15), none, [0, 0]⟩, ⟨(some 5), .mv (.v (.int .i64 11)), none, [1, 0, 1]⟩]) (.ret)) (.seq (.reg false [⟨(some 17), .load (some 9) (.t 3), none, []⟩, ⟨(some 18), .call 59 [(.t 17)], none, [0]⟩, ⟨(some 19), .un .not (.t 18), none, [1]⟩, ⟨(some 16), .mv (.t 19), none, [2, 1]⟩]) (.cond (.t 16) (.seq (.reg false [⟨(some 20), .build [(.int .i64 0), (.int .i64 0), (.int .i64 0), (.int .i64 0), (.int .i64 0), (.int .i64 0), (.int .i64 0), (.int .i64 0)] [], none, []⟩, ⟨none, .store 8 (.t 4) (.t 20), none, [0, 0]⟩, ⟨(some 5), .mv (.v (.int .i64 1)), none, [1, 0, 1]⟩]) (.ret)) (.seq (.reg true [⟨(some 22), .load none (.t 2), none, []⟩, ⟨(some 23), .nilck (.t 22), none, [0]⟩, ⟨(some 24), .fld 0 (.t 23), none, [1]⟩, ⟨(some 25), .load none (.t 24), none, [2]⟩, ⟨(some 26), .load (some 9) (.t 3), none, []⟩, ⟨(some 27), .callh 21 [(.t 25), (.t 26)], none, [3, 4]⟩, ⟨(some 28), .un .not (.t 27), none, [5]⟩, ⟨(some 21), .mv (.t 28), none, [6, 5]⟩]) (.cond (.t 21) (.seq (.reg false [⟨(some 29), .build [(.int .i64 0), (.int .i64 0), (.int .i64 0), (.int .i64 0), (.int .i64 0), (.int .i64 0), (.int .i64 0), (.int .i64 0)] [], none, []⟩, ⟨none, .store 8 (.t 4) (.t 29), none, [0, 0]⟩, ⟨(some 5), .mv (.v (.int .i64 11)), none, [1, 0, 1]⟩]) (.ret)) (.skip)))))))) (pct36c2))
def prt36 : List PR := [.c 4 (some 8), .t 5]
def ntt36:Nat:=134
def flt36 : List (Nat × List Bool) := [(5000002, List.replicate 1 false), (5000006, List.replicate 1 false), (5000007, List.replicate 1 false), (6000021, List.replicate 1 false), (6000080, List.replicate 1 false), (6000081, List.replicate 1 false), (7000050, List.replicate 78 false), (7000052, List.replicate 78 false), (7000056, List.replicate 78 false), (7000060, List.replicate 78 false), (7000064, List.replicate 78 false), (7000069, List.replicate 78 false), (7000073, List.replicate 78 false)]
theorem bdt36:Try.f36.body=some (Try.f36.body.getD .skip):=by kernel_rfl
theorem cpt36:compC Try.prog Try.f36.ntmps (eqsL ++ flt36) (Try.f36.body.getD .skip)=some pct36:=by kernel_rfl
theorem spt36 [WInv] {env:Env} (hE:EnvOK Try.prog env) {R:(Nat→Hb)→List Hw→(Nat→Hb)→List Hw→Prop} (hR:∀ hp az hp' rs,R hp az hp' rs→az.length≤134∧∃ nc,pwp env pct36 (fun e s=>(e=.normal∨e=.ret)∧s.resHs prt36=some rs∧s.hb=hp') (St.initH nc hp az)):SpecH Try.prog 36 R :=
 fn_sound_h hE (eqsH eqsOK (by kernel_rfl)) mixedOK Try.func36 bdt36 cpt36 (by kernel_rfl) (by kernel_rfl) (by kernel_rfl) hR
def pct78 : PC := .reg true [⟨(some 5), .load (some 8) (.t 1), none, []⟩, ⟨(some 6), .load none (.t 2), none, []⟩, ⟨(some 7), .nilck (.t 6), none, [1]⟩, ⟨(some 8), .fld 65 (.t 7), none, [2]⟩, ⟨(some 9), .load none (.t 8), none, [3]⟩, ⟨(some 10), .mv (.t 0), none, []⟩, ⟨(some 11), .load (some 2) (.t 3), none, []⟩, ⟨(some 12), .build [(.int .i64 0), (.int .i64 0), (.int .i64 0)] [(0, 1, (.t 10)), (1, 2, (.t 11))], none, [5, 6]⟩, ⟨(some 13), .mlk 117 (.agg [.d (.sc (.int .i64 0)), .d (.sc (.int .i64 0)), .d (.sc (.int .i64 0)), .d (.sc (.int .i64 0)), .d (.sc (.int .i64 0)), .d (.sc (.int .i64 0)), .d (.sc (.int .i64 0)), .d (.sc (.int .i64 0))]) false (.t 9) (.t 12), none, [4, 7]⟩, ⟨(some 14), .call 79 [(.t 5), (.t 13)], none, [0, 8]⟩, ⟨none, .store 8 (.t 1) (.t 14), none, [9, 9, 0, 1, 2, 3, 4, 5, 6, 7, 8, 9]⟩]
def prt78 : List PR := []
def flt78 : List (Nat × List Bool) := []
theorem bdt78:Try.f78.body=some (Try.f78.body.getD .skip):=by kernel_rfl
theorem cpt78:compC Try.prog Try.f78.ntmps (eqsL ++ flt78) (Try.f78.body.getD .skip)=some pct78:=by kernel_rfl
theorem spt78 [WInv] {env:Env} (hE:EnvOK Try.prog env) {R:(Nat→Hb)→List Hw→(Nat→Hb)→List Hw→Prop} (hR:∀ hp az hp' rs,R hp az hp' rs→az.length≤15∧∃ nc,pwp env pct78 (fun e s=>(e=.normal∨e=.ret)∧s.resHs prt78=some rs∧s.hb=hp') (St.initH nc hp az)):SpecH Try.prog 78 R :=
 fn_sound_h hE (eqsH eqsOK (by kernel_rfl)) mixedOK Try.func78 bdt78 cpt78 (by kernel_rfl) (by kernel_rfl) (by kernel_rfl) hR
def pct80 : PC := .seq (.reg false [⟨(some 6), .new [(.slice none 0 0), (.slice none 0 0)], none, []⟩]) (.seq (.reg false [⟨(some 10), .mv (.t 0), none, []⟩, ⟨(some 11), .nilck (.t 10), none, [0]⟩, ⟨(some 12), .fld 66 (.t 11), none, [1]⟩, ⟨(some 13), .load none (.t 12), none, [2]⟩, ⟨(some 14), .mv (.t 1), none, []⟩, ⟨(some 15), .mlk 3 (.agg [.d (.sc (.slice none 0 0)), .d (.sc (.slice none 0 0))]) true (.t 13) (.t 14), none, [3, 4]⟩, ⟨(some 9), .mv (.t 15), none, [5]⟩, ⟨(some 16), .ext (.t 9) 0, none, [6]⟩, ⟨(some 17), .ext (.t 9) 1, none, [6]⟩, ⟨(some 7), .new [(.slice none 0 0), (.slice none 0 0)], none, []⟩, ⟨none, .store 2 (.t 7) (.t 16), none, [9, 7, 0, 1, 2, 3, 4, 5, 6, 7, 9]⟩, ⟨(some 8), .mv (.t 17), none, [8, 10, 0, 1, 2, 3, 4, 5, 6, 7, 8, 9, 10]⟩]) (.seq (.seq (.reg false [⟨(some 18), .mv (.t 8), none, []⟩, ⟨(some 19), .un .not (.t 18), none, [0]⟩]) (.cond (.t 19) (.seq (.reg true [⟨(some 20), .mv (.t 2), none, []⟩, ⟨(some 21), .bin .add (.t 20) (.v (.int .i64 1)), none, [0]⟩, ⟨(some 22), .hal 23 (.mk 8 64 [(.int .i64 0), (.int .i64 0), (.int .i64 0), (.int .i64 0), (.int .i64 0), (.int .i64 0), (.int .i64 0), (.int .i64 0)] (.t 21) (.t 21)), none, [1, 1]⟩, ⟨(some 23), .mv (.t 2), none, []⟩, ⟨(some 24), .bin .add (.t 23) (.v (.int .i64 1)), none, [3]⟩, ⟨(some 25), .hal 26 (.mk 8 64 [(.int .i64 0), (.int .i64 0), (.int .i64 0), (.int .i64 0), (.int .i64 0), (.int .i64 0), (.int .i64 0), (.int .i64 0)] (.t 24) (.t 24)), none, [4, 4]⟩, ⟨(some 26), .build [(.slice none 0 0), (.slice none 0 0)] [(0, 1, (.t 22)), (1, 1, (.t 25))], none, [2, 5]⟩, ⟨none, .store 2 (.t 7) (.t 26), none, [6, 0, 1, 2, 3, 4, 5, 6]⟩]) (.reg true [⟨(some 27), .mv (.t 0), none, []⟩, ⟨(some 28), .nilck (.t 27), none, [0]⟩, ⟨(some 29), .fld 66 (.t 28), none, [1]⟩, ⟨(some 30), .load none (.t 29), none, [2]⟩, ⟨(some 31), .mv (.t 1), none, []⟩, ⟨(some 32), .load (some 2) (.t 7), none, []⟩, ⟨none, .mup 3 (.t 30) (.t 31) (.t 32), none, [3, 4, 5, 0, 1, 2, 3, 4, 5]⟩])) (.skip))) (.seq (.reg false [⟨(some 33), .load (some 2) (.t 7), none, []⟩, ⟨none, .store 2 (.t 6) (.t 33), none, [0, 0]⟩]) (.ret))))
def prt80 : List PR := [.c 6 (some 2)]
def flt80 : List (Nat × List Bool) := [(5000022, List.replicate 1 false), (5000025, List.replicate 1 false)]
theorem bdt80:Try.f80.body=some (Try.f80.body.getD .skip):=by kernel_rfl
theorem cpt80:compC Try.prog Try.f80.ntmps (eqsL ++ flt80) (Try.f80.body.getD .skip)=some pct80:=by kernel_rfl
theorem spt80 [WInv] {env:Env} (hE:EnvOK Try.prog env) {R:(Nat→Hb)→List Hw→(Nat→Hb)→List Hw→Prop} (hR:∀ hp az hp' rs,R hp az hp' rs→az.length≤34∧∃ nc,pwp env pct80 (fun e s=>(e=.normal∨e=.ret)∧s.resHs prt80=some rs∧s.hb=hp') (St.initH nc hp az)):SpecH Try.prog 80 R :=
 fn_sound_h hE (eqsH eqsOK (by kernel_rfl)) mixedOK Try.func80 bdt80 cpt80 (by kernel_rfl) (by kernel_rfl) (by kernel_rfl) hR
def pct81 : PC := .seq (.reg false [⟨(some 4), .hal 5 (.box (.t 0)), none, []⟩, ⟨(some 5), .box (.t 1), none, []⟩, ⟨(some 6), .hal 7 (.box (.t 2)), none, []⟩, ⟨(some 7), .hal 8 (.box (.t 3)), none, []⟩]) (.seq (.reg false [⟨(some 11), .mkf 107 [] [(.t 4), (.t 6), (.t 7)], none, []⟩, ⟨(some 8), .mv (.t 11), none, [0, 0]⟩]) (.seq (.reg false [⟨(some 12), .fld 1 (.t 5), none, []⟩, ⟨(some 13), .load none (.t 12), none, [0]⟩]) (.block 0 (.seq (.reg false [⟨(some 15), .bin .eql (.t 13) (.v (.int .i64 14)), none, []⟩, ⟨(some 14), .mv (.t 15), none, [0]⟩]) (.cond (.t 14) (.reg true [⟨(some 16), .load none (.t 4), none, []⟩, ⟨(some 17), .fld 4 (.t 5), none, []⟩, ⟨(some 18), .load none (.t 17), none, [1]⟩, ⟨(some 19), .load (some 8) (.t 7), none, []⟩, ⟨(some 20), .nilck (.t 16), none, [0]⟩, ⟨(some 21), .fld 1 (.t 20), none, [4]⟩, ⟨(some 22), .ixa 8 8 (.t 21) (.t 18), none, [5, 2, 0, 1, 2, 3]⟩, ⟨none, .store 8 (.t 22) (.t 19), none, [6, 3, 0, 1, 2, 3]⟩]) (.seq (.reg false [⟨(some 24), .bin .eql (.t 13) (.v (.int .i64 7)), none, []⟩, ⟨(some 23), .mv (.t 24), none, [0]⟩]) (.cond (.t 23) (.reg false [⟨(some 25), .mv (.t 8), none, []⟩, ⟨(some 26), .callc (.t 25) 107 [(.v (.int .i64 0))], none, [0]⟩]) (.seq (.reg false [⟨(some 28), .bin .eql (.t 13) (.v (.int .i64 9)), none, []⟩, ⟨(some 27), .mv (.t 28), none, [0]⟩]) (.cond (.t 27) (.reg false [⟨(some 29), .mv (.t 8), none, []⟩, ⟨(some 30), .callc (.t 29) 107 [(.v (.int .i64 1))], none, [0]⟩]) (.seq (.reg false [⟨(some 32), .bin .eql (.t 13) (.v (.int .i64 10)), none, []⟩, ⟨(some 31), .mv (.t 32), none, [0]⟩]) (.cond (.t 31) (.reg false [⟨(some 33), .mv (.t 8), none, []⟩, ⟨(some 34), .callc (.t 33) 107 [(.v (.int .i64 2))], none, [0]⟩]) (.seq (.reg false [⟨(some 36), .bin .eql (.t 13) (.v (.int .i64 12)), none, []⟩, ⟨(some 35), .mv (.t 36), none, [0]⟩]) (.cond (.t 35) (.reg false [⟨(some 37), .mv (.t 8), none, []⟩, ⟨(some 38), .callc (.t 37) 107 [(.v (.int .i64 3))], none, [0]⟩]) (.seq (.reg false [⟨(some 40), .bin .eql (.t 13) (.v (.int .i64 19)), none, []⟩, ⟨(some 39), .mv (.t 40), none, [0]⟩]) (.cond (.t 39) (.reg false [⟨(some 41), .mv (.t 8), none, []⟩, ⟨(some 42), .callc (.t 41) 107 [(.v (.int .i64 5))], none, [0]⟩]) (.seq (.seq (.reg false [⟨(some 44), .bin .eql (.t 13) (.v (.int .i64 4)), none, []⟩, ⟨(some 43), .mv (.t 44), none, [0]⟩]) (.cond (.t 43) (.skip) (.reg false [⟨(some 45), .bin .eql (.t 13) (.v (.int .i64 5)), none, []⟩, ⟨(some 43), .mv (.t 45), none, [0]⟩]))) (.cond (.t 43) (.reg true [⟨(some 46), .load none (.t 4), none, []⟩, ⟨(some 47), .nilck (.t 46), none, [0]⟩, ⟨(some 48), .fld 65 (.t 47), none, [1]⟩, ⟨(some 49), .load none (.t 48), none, [2]⟩, ⟨(some 50), .load (some 2) (.t 6), none, []⟩, ⟨(some 51), .build [(.int .i64 0), (.int .i64 0), (.int .i64 0)] [(0, 1, (.v (.int .i64 4))), (1, 2, (.t 50))], none, [4]⟩, ⟨(some 52), .load (some 8) (.t 7), none, []⟩, ⟨none, .mup 117 (.t 49) (.t 51) (.t 52), none, [3, 5, 6, 0, 1, 2, 3, 4, 5, 6]⟩]) (.seq (.reg false [⟨(some 54), .bin .eql (.t 13) (.v (.int .i64 15)), none, []⟩, ⟨(some 53), .mv (.t 54), none, [0]⟩]) (.cond (.t 53) (.seq (.reg false [⟨(some 55), .load none (.t 4), none, []⟩, ⟨(some 56), .fld 2 (.t 5), none, []⟩, ⟨(some 57), .load none (.t 56), none, [1]⟩, ⟨(some 58), .fld 5 (.t 5), none, []⟩, ⟨(some 59), .load none (.t 58), none, [3]⟩, ⟨(some 60), .callh 80 [(.t 55), (.t 57), (.t 59)], none, [0, 2, 4]⟩, ⟨(some 9), .new [(.slice none 0 0), (.slice none 0 0)], none, []⟩, ⟨none, .store 2 (.t 9) (.t 60), none, [6, 5, 5, 0, 1, 2, 3, 4, 5, 6]⟩]) (.reg true [⟨(some 61), .fld 0 (.t 9), none, []⟩, ⟨(some 62), .load none (.t 61), none, [0]⟩, ⟨(some 63), .fld 4 (.t 5), none, []⟩, ⟨(some 64), .load none (.t 63), none, [2]⟩, ⟨(some 65), .fld 0 (.t 9), none, []⟩, ⟨(some 66), .load none (.t 65), none, [4]⟩, ⟨(some 67), .len (.t 66), none, [5]⟩, ⟨(some 68), .bin .rem (.t 64) (.t 67), none, [3, 6]⟩, ⟨(some 69), .load (some 8) (.t 7), none, []⟩, ⟨(some 70), .ixs 8 (.t 62) (.t 68), none, [1, 7, 0, 1, 2, 3, 4, 5, 6, 7, 8]⟩, ⟨none, .store 8 (.t 70) (.t 69), none, [9, 8, 0, 1, 2, 3, 4, 5, 6, 7, 8]⟩])) (.seq (.reg false [⟨(some 72), .bin .eql (.t 13) (.v (.int .i64 17)), none, []⟩, ⟨(some 71), .mv (.t 72), none, [0]⟩]) (.cond (.t 71) (.seq (.reg false [⟨(some 73), .load none (.t 4), none, []⟩, ⟨(some 74), .fld 2 (.t 5), none, []⟩, ⟨(some 75), .load none (.t 74), none, [1]⟩, ⟨(some 76), .fld 5 (.t 5), none, []⟩, ⟨(some 77), .load none (.t 76), none, [3]⟩, ⟨(some 78), .callh 80 [(.t 73), (.t 75), (.t 77)], none, [0, 2, 4]⟩, ⟨(some 10), .new [(.slice none 0 0), (.slice none 0 0)], none, []⟩, ⟨none, .store 2 (.t 10) (.t 78), none, [6, 5, 5, 0, 1, 2, 3, 4, 5, 6]⟩]) (.reg true [⟨(some 79), .fld 1 (.t 10), none, []⟩, ⟨(some 80), .load none (.t 79), none, [0]⟩, ⟨(some 81), .fld 4 (.t 5), none, []⟩, ⟨(some 82), .load none (.t 81), none, [2]⟩, ⟨(some 83), .fld 1 (.t 10), none, []⟩, ⟨(some 84), .load none (.t 83), none, [4]⟩, ⟨(some 85), .len (.t 84), none, [5]⟩, ⟨(some 86), .bin .rem (.t 82) (.t 85), none, [3, 6]⟩, ⟨(some 87), .load (some 8) (.t 7), none, []⟩, ⟨(some 88), .ixs 8 (.t 80) (.t 86), none, [1, 7, 0, 1, 2, 3, 4, 5, 6, 7, 8]⟩, ⟨none, .store 8 (.t 88) (.t 87), none, [9, 8, 0, 1, 2, 3, 4, 5, 6, 7, 8]⟩])) (.skip))))))))))))))))))))))
def prt81 : List PR := []
def ntt81:Nat:=89
def flt81 : List (Nat × List Bool) := [(5000004, List.replicate 1 false), (5000006, List.replicate 1 false), (5000007, List.replicate 1 false), (6000080, List.replicate 1 false), (7000025, List.replicate 107 false), (7000029, List.replicate 107 false), (7000033, List.replicate 107 false), (7000037, List.replicate 107 false), (7000041, List.replicate 107 false)]
theorem bdt81:Try.f81.body=some (Try.f81.body.getD .skip):=by kernel_rfl
theorem cpt81:compC Try.prog Try.f81.ntmps (eqsL ++ flt81) (Try.f81.body.getD .skip)=some pct81:=by kernel_rfl
theorem spt81 [WInv] {env:Env} (hE:EnvOK Try.prog env) {R:(Nat→Hb)→List Hw→(Nat→Hb)→List Hw→Prop} (hR:∀ hp az hp' rs,R hp az hp' rs→az.length≤89∧∃ nc,pwp env pct81 (fun e s=>(e=.normal∨e=.ret)∧s.resHs prt81=some rs∧s.hb=hp') (St.initH nc hp az)):SpecH Try.prog 81 R :=
 fn_sound_h hE (eqsH eqsOK (by kernel_rfl)) mixedOK Try.func81 bdt81 cpt81 (by kernel_rfl) (by kernel_rfl) (by kernel_rfl) hR
def pct107 : PC := .reg true [⟨(some 5), .load none (.t 1), none, []⟩, ⟨(some 6), .nilck (.t 5), none, [0]⟩, ⟨(some 7), .fld 65 (.t 6), none, [1]⟩, ⟨(some 8), .load none (.t 7), none, [2]⟩, ⟨(some 9), .mv (.t 0), none, []⟩, ⟨(some 10), .load (some 2) (.t 2), none, []⟩, ⟨(some 11), .build [(.int .i64 0), (.int .i64 0), (.int .i64 0)] [(0, 1, (.t 9)), (1, 2, (.t 10))], none, [4, 5]⟩, ⟨(some 12), .load none (.t 1), none, []⟩, ⟨(some 13), .nilck (.t 12), none, [7]⟩, ⟨(some 14), .fld 65 (.t 13), none, [8]⟩, ⟨(some 15), .load none (.t 14), none, [9]⟩, ⟨(some 16), .mv (.t 0), none, []⟩, ⟨(some 17), .load (some 2) (.t 2), none, []⟩, ⟨(some 18), .build [(.int .i64 0), (.int .i64 0), (.int .i64 0)] [(0, 1, (.t 16)), (1, 2, (.t 17))], none, [11, 12]⟩, ⟨(some 19), .mlk 117 (.agg [.d (.sc (.int .i64 0)), .d (.sc (.int .i64 0)), .d (.sc (.int .i64 0)), .d (.sc (.int .i64 0)), .d (.sc (.int .i64 0)), .d (.sc (.int .i64 0)), .d (.sc (.int .i64 0)), .d (.sc (.int .i64 0))]) false (.t 15) (.t 18), none, [10, 13]⟩, ⟨(some 20), .load (some 8) (.t 3), none, []⟩, ⟨(some 21), .call 79 [(.t 19), (.t 20)], none, [14, 15]⟩, ⟨none, .mup 117 (.t 8) (.t 11) (.t 21), none, [3, 6, 16, 16, 0, 1, 2, 3, 4, 5, 6, 7, 8, 9, 10, 11, 12, 13, 14, 15, 16]⟩]
def prt107 : List PR := []
def flt107 : List (Nat × List Bool) := []
theorem bdt107:Try.f107.body=some (Try.f107.body.getD .skip):=by kernel_rfl
theorem cpt107:compC Try.prog Try.f107.ntmps (eqsL ++ flt107) (Try.f107.body.getD .skip)=some pct107:=by kernel_rfl
theorem spt107 [WInv] {env:Env} (hE:EnvOK Try.prog env) {R:(Nat→Hb)→List Hw→(Nat→Hb)→List Hw→Prop} (hR:∀ hp az hp' rs,R hp az hp' rs→az.length≤22∧∃ nc,pwp env pct107 (fun e s=>(e=.normal∨e=.ret)∧s.resHs prt107=some rs∧s.hb=hp') (St.initH nc hp az)):SpecH Try.prog 107 R :=
 fn_sound_h hE (eqsH eqsOK (by kernel_rfl)) mixedOK Try.func107 bdt107 cpt107 (by kernel_rfl) (by kernel_rfl) (by kernel_rfl) hR
def pct40 : PC := .seq (.reg false [⟨(some 2), .mv (.v (.int .i64 0)), none, []⟩]) (.seq (.seq (.reg false [⟨(some 3), .mv (.t 0), none, []⟩, ⟨(some 4), .pnil false (.t 3), none, [0]⟩]) (.cond (.t 4) (.seq (.reg false [⟨(some 2), .mv (.v (.int .i64 0)), none, []⟩]) (.ret)) (.skip))) (.seq (.reg false [⟨(some 5), .mv (.t 0), none, []⟩, ⟨(some 6), .nilck (.t 5), none, [0]⟩, ⟨(some 7), .fld 0 (.t 6), none, [1]⟩, ⟨(some 8), .load none (.t 7), none, [2]⟩, ⟨(some 9), .callh 24 [(.t 8)], none, [3]⟩, ⟨(some 2), .mv (.t 9), none, [4, 4, 0, 1, 2, 3, 4]⟩]) (.ret)))
def prt40 : List PR := [.t 2]
def ntt40:Nat:=10
def flt40 : List (Nat × List Bool) := [(6000024, List.replicate 1 false)]
theorem bdt40:Try.f40.body=some (Try.f40.body.getD .skip):=by kernel_rfl
theorem cpt40:compC Try.prog Try.f40.ntmps (eqsL ++ flt40) (Try.f40.body.getD .skip)=some pct40:=by kernel_rfl
theorem spt40 [WInv] {env:Env} (hE:EnvOK Try.prog env) {R:(Nat→Hb)→List Hw→(Nat→Hb)→List Hw→Prop} (hR:∀ hp az hp' rs,R hp az hp' rs→az.length≤10∧∃ nc,pwp env pct40 (fun e s=>(e=.normal∨e=.ret)∧s.resHs prt40=some rs∧s.hb=hp') (St.initH nc hp az)):SpecH Try.prog 40 R :=
 fn_sound_h hE (eqsH eqsOK (by kernel_rfl)) mixedOK Try.func40 bdt40 cpt40 (by kernel_rfl) (by kernel_rfl) (by kernel_rfl) hR
def pct42 : PC := .seq (.reg false [⟨(some 2), .mv (.v (.int .i64 0)), none, []⟩]) (.seq (.seq (.reg false [⟨(some 9), .mv (.t 0), none, []⟩, ⟨(some 10), .pnil false (.t 9), none, [0]⟩]) (.cond (.t 10) (.seq (.reg false [⟨(some 2), .mv (.v (.int .i64 0)), none, []⟩]) (.ret)) (.skip))) (.seq (.reg false [⟨(some 11), .mv (.t 0), none, []⟩, ⟨(some 12), .nilck (.t 11), none, [0]⟩, ⟨(some 13), .fld 66 (.t 12), none, [1]⟩, ⟨(some 14), .load none (.t 13), none, [2]⟩, ⟨(some 15), .mlen (.t 14), none, [3]⟩, ⟨(some 3), .mv (.t 15), none, [4, 4, 0, 1, 2, 3, 4]⟩]) (.seq (.seq (.reg false [⟨(some 16), .mv (.t 0), none, []⟩, ⟨(some 17), .nilck (.t 16), none, [0]⟩, ⟨(some 18), .fld 65 (.t 17), none, [1]⟩, ⟨(some 19), .load none (.t 18), none, [2]⟩, ⟨(some 20), .hal 21 (.range (.t 19)), none, [3]⟩]) (.block 0 (.loop (.seq (.reg false [⟨(some 21), .next (.t 20), none, []⟩, ⟨(some 22), .ext (.t 21) 0, none, [0]⟩]) (.seq (.cond (.t 22) (.skip) (.exit 0)) (.block 1 (.seq (.reg false [⟨(some 23), .entry (.t 20), none, []⟩, ⟨(some 24), .ext (.t 23) 0, none, [0]⟩, ⟨(some 4), .new [(.int .i64 0), (.int .i64 0), (.int .i64 0)], none, []⟩, ⟨none, .store 3 (.t 4) (.t 24), none, [2, 1, 0, 1, 2]⟩]) (.seq (.reg false [⟨(some 25), .fld 0 (.t 4), none, []⟩, ⟨(some 26), .load none (.t 25), none, [0]⟩]) (.block 2 (.seq (.reg false [⟨(some 30), .bin .eql (.t 26) (.v (.int .i64 1)), none, []⟩, ⟨(some 29), .mv (.t 30), none, [0]⟩]) (.cond (.t 29) (.seq (.reg true [⟨(some 32), .mv (.t 0), none, []⟩, ⟨(some 33), .nilck (.t 32), none, [0]⟩, ⟨(some 34), .fld 65 (.t 33), none, [1]⟩, ⟨(some 35), .load none (.t 34), none, [2]⟩, ⟨(some 36), .fld 1 (.t 4), none, []⟩, ⟨(some 37), .load (some 2) (.t 36), none, [4]⟩, ⟨(some 38), .build [(.int .i64 0), (.int .i64 0), (.int .i64 0)] [(0, 1, (.v (.int .i64 0))), (1, 2, (.t 37))], none, [5]⟩, ⟨(some 39), .mlk 117 (.agg [.d (.sc (.int .i64 0)), .d (.sc (.int .i64 0)), .d (.sc (.int .i64 0)), .d (.sc (.int .i64 0)), .d (.sc (.int .i64 0)), .d (.sc (.int .i64 0)), .d (.sc (.int .i64 0)), .d (.sc (.int .i64 0))]) true (.t 35) (.t 38), none, [3, 6]⟩, ⟨(some 31), .mv (.t 39), none, [7]⟩, ⟨(some 40), .ext (.t 31) 0, none, [8]⟩, ⟨(some 41), .ext (.t 31) 1, none, [8]⟩, ⟨(some 5), .new [(.int .i64 0), (.int .i64 0), (.int .i64 0), (.int .i64 0), (.int .i64 0), (.int .i64 0), (.int .i64 0), (.int .i64 0)], none, []⟩, ⟨none, .store 8 (.t 5) (.t 40), none, [11, 9, 0, 1, 2, 3, 4, 5, 6, 7, 8, 9, 11]⟩, ⟨(some 6), .mv (.t 41), none, [10, 12, 0, 1, 2, 3, 4, 5, 6, 7, 8, 9, 10, 11, 12]⟩]) (.seq (.reg false [⟨(some 42), .mv (.t 6), none, []⟩, ⟨(some 43), .un .not (.t 42), none, [0]⟩]) (.cond (.t 43) (.reg false [⟨(some 44), .mv (.t 3), none, []⟩, ⟨(some 45), .bin .add (.t 44) (.v (.int .i64 1)), none, [0]⟩, ⟨(some 3), .mv (.t 45), none, [1, 0, 1]⟩]) (.skip)))) (.seq (.reg false [⟨(some 47), .bin .eql (.t 26) (.v (.int .i64 5)), none, []⟩, ⟨(some 46), .mv (.t 47), none, [0]⟩]) (.cond (.t 46) (.seq (.reg true [⟨(some 49), .mv (.t 0), none, []⟩, ⟨(some 50), .nilck (.t 49), none, [0]⟩, ⟨(some 51), .fld 66 (.t 50), none, [1]⟩, ⟨(some 52), .load none (.t 51), none, [2]⟩, ⟨(some 53), .fld 1 (.t 4), none, []⟩, ⟨(some 54), .fld 0 (.t 53), none, [4]⟩, ⟨(some 55), .load none (.t 54), none, [5]⟩, ⟨(some 56), .mlk 3 (.agg [.d (.sc (.slice none 0 0)), .d (.sc (.slice none 0 0))]) true (.t 52) (.t 55), none, [3, 6]⟩, ⟨(some 48), .mv (.t 56), none, [7]⟩, ⟨(some 57), .ext (.t 48) 0, none, [8]⟩, ⟨(some 58), .ext (.t 48) 1, none, [8]⟩, ⟨(some 7), .new [(.slice none 0 0), (.slice none 0 0)], none, []⟩, ⟨none, .store 2 (.t 7) (.t 57), none, [11, 9, 0, 1, 2, 3, 4, 5, 6, 7, 8, 9, 11]⟩, ⟨(some 8), .mv (.t 58), none, [10, 12, 0, 1, 2, 3, 4, 5, 6, 7, 8, 9, 10, 11, 12]⟩]) (.seq (.reg false [⟨(some 59), .mv (.t 8), none, []⟩, ⟨(some 60), .un .not (.t 59), none, [0]⟩]) (.cond (.t 60) (.reg false [⟨(some 61), .mv (.t 3), none, []⟩, ⟨(some 62), .bin .add (.t 61) (.v (.int .i64 1)), none, [0]⟩, ⟨(some 3), .mv (.t 62), none, [1, 0, 1]⟩]) (.skip)))) (.reg false [⟨(some 27), .mv (.t 3), none, []⟩, ⟨(some 28), .bin .add (.t 27) (.v (.int .i64 1)), none, [0]⟩, ⟨(some 3), .mv (.t 28), none, [1, 0, 1]⟩])))))))))))))) (.seq (.reg false [⟨(some 63), .mv (.t 3), none, []⟩, ⟨(some 2), .mv (.t 63), none, [0, 0]⟩]) (.ret)))))
def prt42 : List PR := [.t 2]
abbrev mst42_0 : List Nat := [21, 22, 23, 24, 4, 25, 26, 30, 29, 32, 33, 34, 35, 36, 37, 38, 39, 31, 40, 41, 5, 6, 42, 43, 44, 45, 3, 47, 46, 49, 50, 51, 52, 53, 54, 55, 56, 48, 57, 58, 7, 8, 59, 60, 61, 62, 27, 28]
abbrev ost42_0 : List Nat := [4, 5, 7]
def flt42 : List (Nat × List Bool) := []
theorem bdt42:Try.f42.body=some (Try.f42.body.getD .skip):=by kernel_rfl
theorem cpt42:compC Try.prog Try.f42.ntmps (eqsL ++ flt42) (Try.f42.body.getD .skip)=some pct42:=by kernel_rfl
theorem sqt42 [WInv] {env:Env} (hE:EnvOK Try.prog env) {R:(Nat→Hb)→List Hw→((Nat→Hb)→List Hw→Prop)→Prop} (hR:∀ hp az Post,R hp az Post→az.length≤64∧∃ nc,pwp env pct42 (fun e s=>(e=.normal∨e=.ret)∧∃ hp' rs,s.resHs prt42=some rs∧(∀ b,hp' b=s.hb b∨(hp' b=.dead∧s.hb b≠.no))∧Post hp' rs) (St.initH nc hp az)):SpecP Try.prog 42 R :=
 fn_sound_p hE (eqsH eqsOK (by kernel_rfl)) mixedOK Try.func42 bdt42 cpt42 (by kernel_rfl) (by kernel_rfl) (by kernel_rfl) hR
theorem spt42 [WInv] {env:Env} (hE:EnvOK Try.prog env) {R:(Nat→Hb)→List Hw→(Nat→Hb)→List Hw→Prop} (hR:∀ hp az hp' rs,R hp az hp' rs→az.length≤64∧∃ nc,pwp env pct42 (fun e s=>(e=.normal∨e=.ret)∧s.resHs prt42=some rs∧s.hb=hp') (St.initH nc hp az)):SpecH Try.prog 42 R :=
 fn_sound_h hE (eqsH eqsOK (by kernel_rfl)) mixedOK Try.func42 bdt42 cpt42 (by kernel_rfl) (by kernel_rfl) (by kernel_rfl) hR
def pct44 : PC := .seq (.reg false [⟨(some 2), .mv (.v (.pointer none)), none, []⟩]) (.seq (.seq (.reg false [⟨(some 7), .mv (.t 0), none, []⟩, ⟨(some 8), .pnil false (.t 7), none, [0]⟩]) (.cond (.t 8) (.seq (.reg false [⟨(some 2), .mv (.v (.pointer none)), none, []⟩]) (.ret)) (.skip))) (.seq (.reg false [⟨(some 9), .mv (.t 0), none, []⟩, ⟨(some 10), .nilck (.t 9), none, [0]⟩, ⟨(some 11), .load (some 67) (.t 10), none, [1]⟩, ⟨(some 3), .hal 4 (.new [(.pointer none), (.int .i64 0), (.int .i64 0), (.int .i64 0), (.int .i64 0), (.int .i64 0), (.int .i64 0), (.int .i64 0), (.int .i64 0), (.int .i64 0), (.int .i64 0), (.int .i64 0), (.int .i64 0), (.int .i64 0), (.int .i64 0), (.int .i64 0), (.int .i64 0), (.int .i64 0), (.int .i64 0), (.int .i64 0), (.int .i64 0), (.int .i64 0), (.int .i64 0), (.int .i64 0), (.int .i64 0), (.int .i64 0), (.int .i64 0), (.int .i64 0), (.int .i64 0), (.int .i64 0), (.int .i64 0), (.int .i64 0), (.int .i64 0), (.int .i64 0), (.int .i64 0), (.int .i64 0), (.int .i64 0), (.int .i64 0), (.int .i64 0), (.int .i64 0), (.int .i64 0), (.int .i64 0), (.int .i64 0), (.int .i64 0), (.int .i64 0), (.int .i64 0), (.int .i64 0), (.int .i64 0), (.int .i64 0), (.int .i64 0), (.int .i64 0), (.int .i64 0), (.int .i64 0), (.int .i64 0), (.int .i64 0), (.int .i64 0), (.int .i64 0), (.int .i64 0), (.int .i64 0), (.int .i64 0), (.int .i64 0), (.int .i64 0), (.int .i64 0), (.int .i64 0), (.int .i64 0), (.map none), (.map none)]), none, []⟩, ⟨none, .store 67 (.t 3) (.t 11), none, [3, 2, 0, 1, 2, 3]⟩]) (.seq (.reg false [⟨(some 12), .mv (.t 0), none, []⟩, ⟨(some 13), .nilck (.t 12), none, [0]⟩, ⟨(some 14), .fld 0 (.t 13), none, [1]⟩, ⟨(some 15), .load none (.t 14), none, [2]⟩, ⟨(some 16), .callh 23 [(.t 15)], none, [3]⟩, ⟨(some 17), .fld 0 (.t 3), none, [0, 1, 2, 3, 4]⟩, ⟨none, .store 1 (.t 17) (.t 16), none, [5, 4, 4, 0, 1, 2, 3, 4]⟩]) (.seq (.reg false [⟨(some 18), .mv (.t 0), none, []⟩, ⟨(some 19), .nilck (.t 18), none, [0]⟩, ⟨(some 20), .fld 65 (.t 19), none, [1]⟩, ⟨(some 21), .load none (.t 20), none, [2]⟩, ⟨(some 22), .callh 84 [(.t 21)], none, [3]⟩, ⟨(some 23), .fld 65 (.t 3), none, [0, 1, 2, 3, 4]⟩, ⟨none, .store 1 (.t 23) (.t 22), none, [5, 4, 4, 0, 1, 2, 3, 4]⟩]) (.seq (.reg false [⟨(some 24), .hal 25 (.map 3), none, []⟩, ⟨(some 25), .fld 66 (.t 3), none, [0]⟩, ⟨none, .store 1 (.t 25) (.t 24), none, [1, 0, 0]⟩]) (.seq (.seq (.reg false [⟨(some 26), .mv (.t 0), none, []⟩, ⟨(some 27), .nilck (.t 26), none, [0]⟩, ⟨(some 28), .fld 66 (.t 27), none, [1]⟩, ⟨(some 29), .load none (.t 28), none, [2]⟩, ⟨(some 30), .hal 31 (.range (.t 29)), none, [3]⟩]) (.block 0 (.loop (.seq (.reg false [⟨(some 31), .next (.t 30), none, []⟩, ⟨(some 32), .ext (.t 31) 0, none, [0]⟩]) (.seq (.cond (.t 32) (.skip) (.exit 0)) (.block 1 (.seq (.reg false [⟨(some 33), .entry (.t 30), none, []⟩, ⟨(some 34), .ext (.t 33) 0, none, [0]⟩, ⟨(some 35), .ext (.t 33) 1, none, [0]⟩, ⟨(some 5), .new [(.slice none 0 0), (.slice none 0 0)], none, []⟩, ⟨(some 4), .mv (.t 34), none, [1, 0, 1, 3]⟩, ⟨none, .store 2 (.t 5) (.t 35), none, [3, 2, 4, 0, 1, 2, 3, 4]⟩]) (.seq (.reg true [⟨(some 36), .fld 0 (.t 5), none, []⟩, ⟨(some 37), .load none (.t 36), none, [0]⟩, ⟨(some 38), .len (.t 37), none, [1]⟩, ⟨(some 39), .hal 40 (.mk 8 64 [(.int .i64 0), (.int .i64 0), (.int .i64 0), (.int .i64 0), (.int .i64 0), (.int .i64 0), (.int .i64 0), (.int .i64 0)] (.t 38) (.t 38)), none, [2, 2]⟩, ⟨(some 40), .fld 1 (.t 5), none, []⟩, ⟨(some 41), .load none (.t 40), none, [4]⟩, ⟨(some 42), .len (.t 41), none, [5]⟩, ⟨(some 43), .hal 44 (.mk 8 64 [(.int .i64 0), (.int .i64 0), (.int .i64 0), (.int .i64 0), (.int .i64 0), (.int .i64 0), (.int .i64 0), (.int .i64 0)] (.t 42) (.t 42)), none, [6, 6]⟩, ⟨(some 44), .build [(.slice none 0 0), (.slice none 0 0)] [(0, 1, (.t 39)), (1, 1, (.t 43))], none, [3, 7]⟩, ⟨(some 6), .new [(.slice none 0 0), (.slice none 0 0)], none, []⟩, ⟨none, .store 2 (.t 6) (.t 44), none, [9, 8, 0, 1, 2, 3, 4, 5, 6, 7, 8, 9]⟩]) (.seq (.reg false [⟨(some 45), .fld 0 (.t 6), none, []⟩, ⟨(some 46), .load none (.t 45), none, [0]⟩, ⟨(some 47), .fld 0 (.t 5), none, []⟩, ⟨(some 48), .load none (.t 47), none, [2]⟩, ⟨(some 49), .cph 8 (.t 46) (.t 48), none, [1, 3]⟩]) (.seq (.reg false [⟨(some 50), .fld 1 (.t 6), none, []⟩, ⟨(some 51), .load none (.t 50), none, [0]⟩, ⟨(some 52), .fld 1 (.t 5), none, []⟩, ⟨(some 53), .load none (.t 52), none, [2]⟩, ⟨(some 54), .cph 8 (.t 51) (.t 53), none, [1, 3]⟩]) (.reg false [⟨(some 55), .fld 66 (.t 3), none, []⟩, ⟨(some 56), .load none (.t 55), none, [0]⟩, ⟨(some 57), .mv (.t 4), none, []⟩, ⟨(some 58), .load (some 2) (.t 6), none, []⟩, ⟨none, .mup 3 (.t 56) (.t 57) (.t 58), none, [1, 2, 3, 0, 1, 2, 3]⟩]))))))))))) (.seq (.reg false [⟨(some 2), .mv (.t 3), none, []⟩]) (.ret))))))))
def prt44 : List PR := [.t 2]
abbrev mst44_0 : List Nat := [31, 32, 33, 34, 35, 5, 4, 36, 37, 38, 39, 40, 41, 42, 43, 44, 6, 45, 46, 47, 48, 49, 50, 51, 52, 53, 54, 55, 56, 57, 58]
abbrev ost44_0 : List Nat := [5, 6]
def flt44 : List (Nat × List Bool) := [(5000003, List.replicate 1 false), (6000023, List.replicate 1 false), (6000084, List.replicate 1 false), (5000039, List.replicate 1 false), (5000043, List.replicate 1 false)]
theorem bdt44:Try.f44.body=some (Try.f44.body.getD .skip):=by kernel_rfl
theorem cpt44:compC Try.prog Try.f44.ntmps (eqsL ++ flt44) (Try.f44.body.getD .skip)=some pct44:=by kernel_rfl
theorem sqt44 [WInv] {env:Env} (hE:EnvOK Try.prog env) {R:(Nat→Hb)→List Hw→((Nat→Hb)→List Hw→Prop)→Prop} (hR:∀ hp az Post,R hp az Post→az.length≤59∧∃ nc,pwp env pct44 (fun e s=>(e=.normal∨e=.ret)∧∃ hp' rs,s.resHs prt44=some rs∧(∀ b,hp' b=s.hb b∨(hp' b=.dead∧s.hb b≠.no))∧Post hp' rs) (St.initH nc hp az)):SpecP Try.prog 44 R :=
 fn_sound_p hE (eqsH eqsOK (by kernel_rfl)) mixedOK Try.func44 bdt44 cpt44 (by kernel_rfl) (by kernel_rfl) (by kernel_rfl) hR
end Go.Proofs.Ytffcpijeebagfaa
end
section
namespace Go.Proofs.Ytffcpijeebagfaa
open Go Go.RowKit
theorem nrfl {α:Sort _} {a b:α} (h:a=b):a=b:=h
section
variable {env:Env} {K:St→Prop} {is:List PI} {s:St} {d:Option Nat} {af:List Nat}
def contOps (env:Env) (K:St→Prop) (is:List PI) (s:St) (d:Option Nat) (o:Option (Av×Cg)):Prop:=withSome o fun p=>evalOps env is (s.ap d p.1 p.2) K
theorem contOps_some {v:Av} {ch:Cg}:contOps env K is s d (some (v,ch))=evalOps env is (s.ap d v ch) K:=nrfl rfl
def callOps (env:Env) (K:St→Prop) (is:List PI) (s:St) (d:Option Nat) (f:Nat) (o:Option (List Pa)):Prop:=withSome o fun ps=>(∃ rs,env.d f ps rs∧evalOps env is (s.ap d (resAv rs) .no) K)∨(∃ H rs,env.a f none ps H rs∧evalOps env is (s.ap d (newAv (d.getD 0) (s.gen (d.getD 0)+1) rs) (.new (d.getD 0) (.ab H))) K)
theorem callOps_intro {f:Nat} {ps:List Pa} (rs:List Pa) (h:env.d f ps rs) (k:evalOps env is (s.ap d (resAv rs) .no) K):callOps env K is s d f (some ps):=.inl ⟨rs,h,k⟩
def methOps (env:Env) (K:St→Prop) (is:List PI) (s:St) (d:Option Nat) (f o:Nat) (oh:Option HP) (oa:Option (List Pa)):Prop:=withSome oa fun ps=>withSome oh fun H =>
 (∃ H' rs,env.a f (some H) ps H' rs∧evalOps env is (s.ap d (resAv rs) (.ab o H')) K)∨(∃ H2,ps=[]∧env.c f H H2∧evalOps env is (s.ap d (.b (.one (.ab (d.getD 0) (s.gen (d.getD 0)+1)))) (.new (d.getD 0) (.ab H2))) K)
def mutOps (env:Env) (K:St→Prop) (is:List PI) (s:St) (d:Option Nat) (f o:Nat) (od:Option (List Dt)) (oa:Option (List Pa)):Prop:=withSome oa fun ps=>withSome od fun ds=>∃ ds' rs,env.m f ds ps ds' rs∧ds'.length=ds.length∧evalOps env is (s.ap d (resAv rs) (.wr o 0 (ds'.map .d))) K
def callR (env:Env) (K:St→Prop) (is:List PI) (s:St) (d:Option Nat) (f:Nat) (xs:List PX):Option (Nat×Nat)→Option (Nat×Nat)→Prop
 | some (o,g),_=>methOps env K is s d f o (s.abAt o g) (s.args xs.tail)
 | none,some (o,g)=>mutOps env K is s d f o (s.cellsAt o g) (s.args xs.tail)
 | none,none=>callOps env K is s d f (s.args xs)
theorem callR_none {f:Nat} {xs:List PX}:callR env K is s d f xs none none=callOps env K is s d f (s.args xs):=nrfl rfl
theorem callR_ptr {f o g:Nat} {xs:List PX}:callR env K is s d f xs none (some (o,g))=mutOps env K is s d f o (s.cellsAt o g) (s.args xs.tail):=nrfl rfl
theorem callR_some {f o g:Nat} {xs:List PX} {p:Option (Nat×Nat)}:callR env K is s d f xs (some (o,g)) p=methOps env K is s d f o (s.abAt o g) (s.args xs.tail):=nrfl rfl
theorem recv_nil:s.recv []=none:=nrfl rfl
theorem recv_cons {x:PX} {xs:List PX}:s.recv (x :: xs)=(s.ev x).abOf:=nrfl rfl
theorem prcv_nil:s.prcv []=none:=nrfl rfl
theorem prcv_cons {x:PX} {xs:List PX}:s.prcv (x :: xs)=(s.ev x).ptrOf:=nrfl rfl
theorem cellsAt_ob {o g:Nat}:s.cellsAt o g=if s.gen o=g then (match s.ob o with | .cells cs=>if cs.length≤1000000 then allSome (cs.map Cl.dt) else none | _=>none) else none:=nrfl rfl
theorem abAt_ob {o g:Nat}:s.abAt o g=if s.gen o=g then (match s.ob o with | .ab H=>some H | _=>none) else none:=nrfl rfl
theorem ap_genb {v:Av} {o:Nat} {H:HP}:(s.ap d v (.ab o H)).gen=s.gen:=nrfl rfl
theorem ap_obb {v:Av} {o:Nat} {H:HP}:(s.ap d v (.ab o H)).ob=up s.ob o (.ab H):=nrfl rfl
def guardOps (env:Env) (K:St→Prop) (is:List PI) (s:St) (d:Option Nat) (op:PO) (t:Nat) (want:Bool):Option (Option Bool)→Prop
 | none=>False
 | some none=>evalOps env is (s.ap d skp .no) K
 | some (some b)=>(b=want→evalOps env (⟨d,op,none,[]⟩ :: is) (s.ap (some t) (scAv (.bool want)) .no) K)∧(b=!want→evalOps env is ((s.ap (some t) (scAv (.bool !want)) .no).ap d skp .no) K)
theorem guardOps_skp {op:PO} {t:Nat} {want:Bool}:guardOps env K is s d op t want (some none)=evalOps env is (s.ap d skp .no) K:=nrfl rfl
theorem guardOps_some {op:PO} {t:Nat} {want b:Bool}:guardOps env K is s d op t want (some (some b))=((b=want→evalOps env (⟨d,op,none,[]⟩ :: is) (s.ap (some t) (scAv (.bool want)) .no) K)∧(b=!want→evalOps env is ((s.ap (some t) (scAv (.bool !want)) .no).ap d skp .no) K)):=nrfl rfl
theorem gd_boo {t:Nat} {b:Bool} (h:s.gd t=some (some b)):s.boo (.t t)=some b:=by
 unfold St.gd at h;split at h
 ·cases h
 ·rw [Option.map_eq_some_iff] at h;obtain ⟨c,hc,h⟩:=h;cases h;exact hc
theorem some_ne {b want:Bool}:(some b≠some want)↔b=!want:=by cases b <;> cases want <;> simp
theorem boo_self {t:Nat} {b:Bool} (h:s.boo (.t t)=some b):s.ap (some t) (scAv (.bool b)) .no=s:=by
 have h1:s.sl t=scAv (.bool b):=by
  unfold St.boo at h;split at h
  ·rename_i c hc;cases h;exact hc
  ·cases h
 have h2:up s.sl t (scAv (.bool b))=s.sl:=by
  funext x
  rw [up_at];split
  ·rename_i hx;rw [hx,h1]
  ·rfl
 show (⟨up s.sl t (scAv (.bool b)),s.gen,s.ob,s.nc⟩:St)=s
 rw [h2]
theorem evalOps_nil:evalOps env [] s K=K s:=nrfl rfl
theorem evalOps_fn {op:PO} (h:op.isCall=false):evalOps env (⟨d,op,none,af⟩ :: is) s K=contOps env K is s d (op.fn s (d.getD 0)):=by
 change PO.go env s (d.getD 0) (fun v ch=>evalOps env is (s.ap d v ch) K) op=_
 rw [PO.go_fn h];rfl
def callV (env:Env) (K:St→Prop) (is:List PI) (s:St) (d:Option Nat) (f:Nat) (xs:List PX):Option Unit→Prop
 | some _=>callR env K is s d f xs (s.recv xs) (s.prcv xs)
 | none=>False
theorem callV_some {f:Nat} {xs:List PX} {u:Unit}:callV env K is s d f xs (some u)=callR env K is s d f xs (s.recv xs) (s.prcv xs):=nrfl rfl
def ldgV (env:Env) (K:St→Prop) (is:List PI) (s:St) (d:Option Nat):Option Value→Prop
 | some v=>evalOps env is (s.ap d (scAv v) .no) K
 | none=>False
theorem ldgV_some {v:Value}:ldgV env K is s d (some v)=evalOps env is (s.ap d (scAv v) .no) K:=nrfl rfl
theorem fnIsSelf {f:Nat}:fnIs f (some (.func (.func f) #[] #[]))=some ():=fnIs_mk
theorem gAtPtr {g k:Nat}:gAt env (some (.pointer (some ⟨g,k,none⟩)))=env.t g k:=nrfl rfl
def halS (env:Env) (K:St→Prop) (is:List PI) (s:St) (d:Option Nat) (c:Nat) (k:HA):Prop:=halG s c (fun v ch=>evalOps env is (s.ap d v ch) K) k
theorem halS_new {c:Nat} {z:List Value} (b:Nat) (h:s.lay c b) (k:evalOps env is (s.ap d (.b (.one (.hv (.p b 0)))) (.hw (HBS+c) [(b,.cells (z.map fun v=>.d (.sc v)))])) K):halS env K is s d c (.new z):=⟨b,h,k⟩
theorem halS_box {c:Nat} {x:PX} {cs:List Cl} {hs:List Hc} (b:Nat) (h:s.lay c b) (h1:s.cs x=some cs) (h2:hcs cs=some hs) (k:evalOps env is (s.ap d (.b (.one (.hv (.p b 0)))) (.hw (HBS+c) [(b,.cells hs)])) K):halS env K is s d c (.box x) :=
 withSome_iff.2 ⟨hs,by rw [h1];exact h2,b,h,k⟩
theorem halS_map {c t:Nat} (b:Nat) (h:s.lay c b) (h1:Maps.Keyed Try.prog t) (k:evalOps env is (s.ap d (.b (.one (.hv (.m b)))) (.hw (HBS+c) [(b,.map t [] 0)])) K):halS env K is s d c (.map t):=⟨h1,b,h,k⟩
theorem halS_range {c t clock bm:Nat} {es:List (Value×Nat×Hw)} {m:PX} (b:Nat) (h:s.lay c b) (h1:s.cl m=.hv (.m bm)) (h2:s.hb bm=.map t es clock) (k:evalOps env is (s.ap d (.b (.one (.hv (.p b 0)))) (.hw (HBS+c) [(b,.iter bm clock [] clock)])) K):halS env K is s d c (.range m) :=
 withSome_iff.2 ⟨bm,by rw [h1];rfl,withSome_iff.2 ⟨clock,by rw [h2];rfl,b,h,k⟩⟩
def nextS (env:Env) (K:St→Prop) (is:List PI) (s:St) (d:Option Nat) (x:Cl):Prop:=nextG s x (fun v ch=>evalOps env is (s.ap d v ch) K)
theorem nextS_intro {r b since c0 t clock:Nat} {seen:List Nat} {es:List (Value×Nat×Hw)} (h1:s.hb r=.iter b since seen c0) (h2:s.hb b=.map t es clock) (h3:(∀ e ∈ es,e.2.1 < since)∧since≤c0∧since≤clock)
 (h4:(∀ e ∈ es,seen.contains e.2.1=true)→evalOps env is (s.ap d (.tup [bvB false]) .no) K)
 (h5:∀ e ∈ es,seen.contains e.2.1=false→evalOps env is (s.ap d (.tup [bvB true,valBv e.1,e.2.2.bv]) (.hw (HBS+s.nc r) [(r,.iter b since (seen ++ [e.2.1]) clock)])) K):nextS env K is s d (.hv (.p r 0)) :=
 withSome_iff.2 ⟨(b,since,seen,c0),by rw [h1];rfl,withSome_iff.2 ⟨(es,clock),by rw [h2];rfl,h3,h4,h5⟩⟩
def callHS (env:Env) (K:St→Prop) (is:List PI) (s:St) (d:Option Nat) (f:Nat) (oa:Option (List Hw)):Prop:=withSome oa fun az=>callHG env s (fun v ch=>evalOps env is (s.ap d v ch) K) f az
theorem callHS_intro {f:Nat} {az:List Hw} (hp':Nat→Hb) (rs:List Hw) (h:env.h f s.hb az hp' rs) (k:evalOps env is (s.ap d (resH rs) (.hall hp')) K):callHS env K is s d f (some az):=⟨hp',rs,h,k⟩
def callPS (env:Env) (K:St→Prop) (is:List PI) (s:St) (d:Option Nat) (f:Nat) (oa:Option (List Hw)):Prop:=withSome oa fun az=>callPG env s (fun v ch=>evalOps env is (s.ap d v ch) K) f az
theorem callPS_intro {f:Nat} {az:List Hw} (Post:(Nat→Hb)→List Hw→Prop) (h:env.p f s.hb az Post) (k:∀ hp' rs,Post hp' rs→evalOps env is (s.ap d (resH rs) (.hall hp')) K):callPS env K is s d f (some az):=⟨Post,h,k⟩
def callCS (env:Env) (K:St→Prop) (is:List PI) (s:St) (d:Option Nat) (f:Nat) (of:Option (List (Nat×Nat)×List (Nat×Nat))) (oa:Option (List Hw)):Prop:=withSome of fun p=>withSome oa fun az=>callHG env s (fun v ch=>evalOps env is (s.ap d v ch) K) f (hpsW p.1 ++ az ++ hpsW p.2)
theorem callCS_some {f:Nat} {az:List Hw} {a c:List (Nat×Nat)}:callCS env K is s d f (some (a,c)) (some az)=callHS env K is s d f (some (hpsW a ++ az ++ hpsW c)):=nrfl rfl
theorem fnOf_self {f:Nat} {a c:List (Nat×Nat)}:fnOf f (.hv (.f f a c))=some (a,c):=by simp [fnOf]
theorem hpsW_nil:hpsW []=[]:=nrfl rfl
theorem hpsW_cons {p:Nat×Nat} {l:List (Nat×Nat)}:hpsW (p :: l)=.one (.h (.p p.1 p.2)) :: hpsW l:=nrfl rfl
theorem hws_nil:s.hws []=some []:=nrfl rfl
theorem hws_cons {x:PX} {xs:List PX}:s.hws (x :: xs)=(match s.hw x with | some p=>(s.hws xs).map (p :: ·) | none=>none):=by
 unfold St.hws;simp only [List.map_cons];cases s.hw x <;> rfl
theorem hw_evq {x:PX}:s.hw x=(s.ev x).hw:=nrfl rfl
def opS (env:Env) (K:St→Prop) (is:List PI) (s:St) (d:Option Nat) (b:Bool) (op:PO):Prop:=match b with
 | true=>(match op with | .call f xs=>callR env K is s d f xs (s.recv xs) (s.prcv xs) | .callv x f xs=>callV env K is s d f xs (fnIs f (s.val x)) | .ldg x=>ldgV env K is s d (gAt env (s.val x)) | .hal c k=>halS env K is s d c k | .next x=>nextS env K is s d (s.cl x) | .callh f xs=>callHS env K is s d f (s.hws xs) | .callp f xs=>callPS env K is s d f (s.hws xs) | .callc x f xs=>callCS env K is s d f (fnOf f (s.cl x)) (s.hws xs) | _=>False)
 | false=>contOps env K is s d (op.fn s (d.getD 0))
theorem opS_false {op:PO}:opS env K is s d false op=contOps env K is s d (op.fn s (d.getD 0)):=nrfl rfl
theorem opS_true {f:Nat} {xs:List PX}:opS env K is s d true (.call f xs)=callR env K is s d f xs (s.recv xs) (s.prcv xs):=nrfl rfl
theorem opS_callv {x:PX} {f:Nat} {xs:List PX}:opS env K is s d true (.callv x f xs)=callV env K is s d f xs (fnIs f (s.val x)):=nrfl rfl
theorem opS_ldg {x:PX}:opS env K is s d true (.ldg x)=ldgV env K is s d (gAt env (s.val x)):=nrfl rfl
theorem opS_hal {c:Nat} {k:HA}:opS env K is s d true (.hal c k)=halS env K is s d c k:=nrfl rfl
theorem opS_next {x:PX}:opS env K is s d true (.next x)=nextS env K is s d (s.cl x):=nrfl rfl
theorem opS_callh {f:Nat} {xs:List PX}:opS env K is s d true (.callh f xs)=callHS env K is s d f (s.hws xs):=nrfl rfl
theorem opS_callp {f:Nat} {xs:List PX}:opS env K is s d true (.callp f xs)=callPS env K is s d f (s.hws xs):=nrfl rfl
theorem opS_callc {x:PX} {f:Nat} {xs:List PX}:opS env K is s d true (.callc x f xs)=callCS env K is s d f (fnOf f (s.cl x)) (s.hws xs):=nrfl rfl
theorem evalOps_op {op:PO}:evalOps env (⟨d,op,none,af⟩ :: is) s K=opS env K is s d op.isCall op:=by
 cases hc:op.isCall with
 | true =>
   cases op <;> first
    | (cases hc;done)
    | (rename_i f xs
       show callG env s (d.getD 0) (fun v ch=>evalOps env is (s.ap d v ch) K) f xs (s.recv xs) (s.prcv xs)=callR env K is s d f xs (s.recv xs) (s.prcv xs)
       cases s.recv xs <;> cases s.prcv xs <;> rfl)
    | (rename_i x f xs
       show withSome (fnIs f (s.val x)) (fun _=>callG env s (d.getD 0) (fun v ch=>evalOps env is (s.ap d v ch) K) f xs (s.recv xs) (s.prcv xs))=callV env K is s d f xs (fnIs f (s.val x))
       cases fnIs f (s.val x) with
       | none=>rfl
       | some _ =>
         show callG env s (d.getD 0) (fun v ch=>evalOps env is (s.ap d v ch) K) f xs (s.recv xs) (s.prcv xs)=callR env K is s d f xs (s.recv xs) (s.prcv xs)
         cases s.recv xs <;> cases s.prcv xs <;> rfl)
    | (rename_i x
       show withSome (gAt env (s.val x)) (fun v=>evalOps env is (s.ap d (scAv v) .no) K)=ldgV env K is s d (gAt env (s.val x))
       cases gAt env (s.val x) <;> rfl)
    | rfl
 | false=>rw [opS_false,evalOps_fn hc]
theorem evalOps_guard {op:PO} {t:Nat} {want:Bool}:evalOps env (⟨d,op,some (t,want),af⟩ :: is) s K=guardOps env K is s d op t want (s.gd t):=by
 change withSome (s.gd t) _=guardOps env K is s d op t want (s.gd t)
 cases h:s.gd t with
 | none=>rfl
 | some b =>
   cases b with
   | none=>exact propext ⟨fun k=>k.2 (by simp),fun k=>⟨fun e=>(by simp at e),fun _=>k⟩⟩
   | some b =>
     have hb:=boo_self (gd_boo h);rw [guardOps_some]
     show ((some b=some want→_)∧(some b≠some want→_))=_
     rw [some_ne,Option.some.injEq]
     congr 1
     ·apply propext
      refine forall_congr' fun he=>?_
      subst he;rw [hb];rfl
     ·apply propext
      refine forall_congr' fun he=>?_
      rw [←he,hb]
theorem evalOps_gT {op:PO} {t:Nat} {want:Bool} (h:s.gd t=some (some want)):evalOps env (⟨d,op,some (t,want),af⟩ :: is) s K=evalOps env (⟨d,op,none,[]⟩ :: is) s K:=by
 rw [evalOps_guard,h,guardOps_some,boo_self (gd_boo h)];exact propext ⟨fun k=>k.1 rfl,fun k=>⟨fun _=>k,fun e=>absurd e (by cases want <;> decide)⟩⟩
theorem evalOps_gF {op:PO} {t:Nat} {want:Bool} (h:s.gd t=some (some (!want))):evalOps env (⟨d,op,some (t,want),af⟩ :: is) s K=evalOps env is (s.ap d skp .no) K:=by
 rw [evalOps_guard,h,guardOps_some,boo_self (gd_boo h)];exact propext ⟨fun k=>k.2 rfl,fun k=>⟨fun e=>absurd e (by cases want <;> decide),fun _=>k⟩⟩
theorem evalOps_gS {op:PO} {t:Nat} {want:Bool} (h:s.gd t=some none):evalOps env (⟨d,op,some (t,want),af⟩ :: is) s K=evalOps env is (s.ap d skp .no) K:=by
 rw [evalOps_guard,h,guardOps_skp]
abbrev Ft:=List (List Rg×List Rg)
variable {KD:St→Ft→Prop} {acc:Ft}
def contD (env:Env) (K:St→Ft→Prop) (is:List PI) (s:St) (d:Option Nat) (acc:Ft) (rd:List Rg) (o:Option (Av×Cg)):Prop:=withSome o fun p=>evalD env is (s.ap d p.1 p.2) ((rd,p.2.wrs) :: acc) K
theorem contD_some {v:Av} {ch:Cg} {rd:List Rg}:contD env KD is s d acc rd (some (v,ch))=evalD env is (s.ap d v ch) ((rd,ch.wrs) :: acc) KD:=nrfl rfl
def callD (env:Env) (K:St→Ft→Prop) (is:List PI) (s:St) (d:Option Nat) (acc:Ft) (f:Nat) (o:Option (List Pa)):Prop:=withSome o fun ps =>
 (∃ rs,env.d f ps rs∧evalD env is (s.ap d (resAv rs) .no) (([(d.getD 0,big - 1,1)],[]) :: acc) K)∨(∃ H rs,env.a f none ps H rs∧evalD env is (s.ap d (newAv (d.getD 0) (s.gen (d.getD 0)+1) rs) (.new (d.getD 0) (.ab H))) (([(d.getD 0,big - 1,1)],[(d.getD 0,0,big)]) :: acc) K)
theorem callD_intro {f:Nat} {ps:List Pa} (rs:List Pa) (h:env.d f ps rs) (k:evalD env is (s.ap d (resAv rs) .no) (([(d.getD 0,big - 1,1)],[]) :: acc) KD):callD env KD is s d acc f (some ps):=.inl ⟨rs,h,k⟩
def methD (env:Env) (K:St→Ft→Prop) (is:List PI) (s:St) (d:Option Nat) (acc:Ft) (f o:Nat) (oh:Option HP) (oa:Option (List Pa)):Prop:=withSome oa fun ps=>withSome oh fun H =>
 (∃ H' rs,env.a f (some H) ps H' rs∧evalD env is (s.ap d (resAv rs) (.ab o H')) (([(o,0,big),(d.getD 0,big - 1,1)],[(o,0,big)]) :: acc) K) ∨
 (∃ H2,ps=[]∧env.c f H H2∧evalD env is (s.ap d (.b (.one (.ab (d.getD 0) (s.gen (d.getD 0)+1)))) (.new (d.getD 0) (.ab H2))) (([(o,0,big),(d.getD 0,big - 1,1)],[(d.getD 0,0,big)]) :: acc) K)
def mutD (env:Env) (K:St→Ft→Prop) (is:List PI) (s:St) (d:Option Nat) (acc:Ft) (f o:Nat) (od:Option (List Dt)) (oa:Option (List Pa)):Prop:=withSome oa fun ps=>withSome od fun ds=>∃ ds' rs,env.m f ds ps ds' rs∧ds'.length=ds.length∧evalD env is (s.ap d (resAv rs) (.wr o 0 (ds'.map .d))) (([(o,0,big),(d.getD 0,big - 1,1)],[(o,0,(ds'.map Cl.d).length)]) :: acc) K
def callRD (env:Env) (K:St→Ft→Prop) (is:List PI) (s:St) (d:Option Nat) (acc:Ft) (f:Nat) (xs:List PX):Option (Nat×Nat)→Option (Nat×Nat)→Prop
 | some (o,g),_=>methD env K is s d acc f o (s.abAt o g) (s.args xs.tail)
 | none,some (o,g)=>mutD env K is s d acc f o (s.cellsAt o g) (s.args xs.tail)
 | none,none=>callD env K is s d acc f (s.args xs)
theorem callRD_none {f:Nat} {xs:List PX}:callRD env KD is s d acc f xs none none=callD env KD is s d acc f (s.args xs):=nrfl rfl
theorem callRD_ptr {f o g:Nat} {xs:List PX}:callRD env KD is s d acc f xs none (some (o,g))=mutD env KD is s d acc f o (s.cellsAt o g) (s.args xs.tail):=nrfl rfl
theorem callRD_some {f o g:Nat} {xs:List PX} {p:Option (Nat×Nat)}:callRD env KD is s d acc f xs (some (o,g)) p=methD env KD is s d acc f o (s.abAt o g) (s.args xs.tail):=nrfl rfl
def goD (env:Env) (K:St→Ft→Prop) (is:List PI) (s:St) (d:Option Nat) (acc:Ft) (op:PO):Prop:=op.go env s (d.getD 0) fun v ch=>evalD env is (s.ap d v ch) ((op.rd s (d.getD 0),ch.wrs) :: acc) K
def guardD (env:Env) (K:St→Ft→Prop) (is:List PI) (s:St) (d:Option Nat) (acc:Ft) (op:PO) (t:Nat) (want:Bool):Option (Option Bool)→Prop
 | none=>False
 | some none=>evalD env is (s.ap d skp .no) ((op.rd s (d.getD 0),[]) :: acc) K
 | some (some b)=>(b=want→goD env K is (s.ap (some t) (scAv (.bool want)) .no) d acc op)∧(b=!want→evalD env is ((s.ap (some t) (scAv (.bool !want)) .no).ap d skp .no) ((op.rd s (d.getD 0),[]) :: acc) K)
theorem guardD_skp {op:PO} {t:Nat} {want:Bool}:guardD env KD is s d acc op t want (some none)=evalD env is (s.ap d skp .no) ((op.rd s (d.getD 0),[]) :: acc) KD:=nrfl rfl
theorem guardD_some {op:PO} {t:Nat} {want b:Bool}:guardD env KD is s d acc op t want (some (some b))=((b=want→goD env KD is (s.ap (some t) (scAv (.bool want)) .no) d acc op)∧(b=!want→evalD env is ((s.ap (some t) (scAv (.bool !want)) .no).ap d skp .no) ((op.rd s (d.getD 0),[]) :: acc) KD)):=nrfl rfl
theorem evalD_nil:evalD env [] s acc KD=KD s acc.reverse:=nrfl rfl
theorem goD_fn {op:PO} (h:op.isCall=false):goD env KD is s d acc op=contD env KD is s d acc (op.rd s (d.getD 0)) (op.fn s (d.getD 0)):=by
 unfold goD;rw [PO.go_fn h];rfl
def callVD (env:Env) (K:St→Ft→Prop) (is:List PI) (s:St) (d:Option Nat) (acc:Ft) (f:Nat) (xs:List PX):Option Unit→Prop
 | some _=>callRD env K is s d acc f xs (s.recv xs) (s.prcv xs)
 | none=>False
theorem callVD_some {f:Nat} {xs:List PX} {u:Unit}:callVD env KD is s d acc f xs (some u)=callRD env KD is s d acc f xs (s.recv xs) (s.prcv xs):=nrfl rfl
def ldgVD (env:Env) (K:St→Ft→Prop) (is:List PI) (s:St) (d:Option Nat) (acc:Ft):Option Value→Prop
 | some v=>evalD env is (s.ap d (scAv v) .no) (([],[]) :: acc) K
 | none=>False
theorem ldgVD_some {v:Value}:ldgVD env KD is s d acc (some v)=evalD env is (s.ap d (scAv v) .no) (([],[]) :: acc) KD:=nrfl rfl
def halD (env:Env) (K:St→Ft→Prop) (is:List PI) (s:St) (d:Option Nat) (acc:Ft) (c:Nat) (rd:List Rg) (k:HA):Prop:=halG s c (fun v ch=>evalD env is (s.ap d v ch) ((rd,ch.wrs) :: acc) K) k
theorem halD_new {c:Nat} {rd:List Rg} {z:List Value} (b:Nat) (h:s.lay c b) (k:evalD env is (s.ap d (.b (.one (.hv (.p b 0)))) (.hw (HBS+c) [(b,.cells (z.map fun v=>.d (.sc v)))])) ((rd,[(HBS+c,0,big)]) :: acc) KD):halD env KD is s d acc c rd (.new z):=⟨b,h,k⟩
theorem halD_mk {c sz bytes:Nat} {rd:List Rg} {z:List Value} {n m:PX} (l:Int) (b:Nat) (h:s.lay c b) (h1:s.int n=some l) (h2:s.int m=some l) (h3:0≤l∧l≤1000000∧bytes≤1000000) (k:evalD env is (s.ap d (.b (.one (.hv (.s b 0 l.toNat l.toNat)))) (.hw (HBS+c) [(b,.cells ((List.range (l.toNat * sz)).map fun i=>.d (.sc (z.getD (i % sz) undef))))])) ((rd,[(HBS+c,0,big)]) :: acc) KD):halD env KD is s d acc c rd (.mk sz bytes z n m) :=
 withSome_iff.2 ⟨l,h1,withSome_iff.2 ⟨l,h2,⟨h3.1,rfl,h3.2⟩,b,h,k⟩⟩
def callHD (env:Env) (K:St→Ft→Prop) (is:List PI) (s:St) (d:Option Nat) (acc:Ft) (f:Nat) (oa:Option (List Hw)):Prop:=withSome oa fun az=>callHG env s (fun v ch=>evalD env is (s.ap d v ch) (([(HALL,0,big)],ch.wrs) :: acc) K) f az
theorem callHD_intro {f:Nat} {az:List Hw} (hp':Nat→Hb) (rs:List Hw) (h:env.h f s.hb az hp' rs) (k:evalD env is (s.ap d (resH rs) (.hall hp')) (([(HALL,0,big)],[(HALL,0,big)]) :: acc) KD):callHD env KD is s d acc f (some az):=⟨hp',rs,h,k⟩
def callPD (env:Env) (K:St→Ft→Prop) (is:List PI) (s:St) (d:Option Nat) (acc:Ft) (f:Nat) (oa:Option (List Hw)):Prop:=withSome oa fun az=>callPG env s (fun v ch=>evalD env is (s.ap d v ch) (([],ch.wrs) :: acc) K) f az
def callCD (env:Env) (K:St→Ft→Prop) (is:List PI) (s:St) (d:Option Nat) (acc:Ft) (f:Nat) (of:Option (List (Nat×Nat)×List (Nat×Nat))) (oa:Option (List Hw)):Prop:=withSome of fun p=>withSome oa fun az=>callHG env s (fun v ch=>evalD env is (s.ap d v ch) (([(HALL,0,big)],ch.wrs) :: acc) K) f (hpsW p.1 ++ az ++ hpsW p.2)
theorem callCD_some {f:Nat} {az:List Hw} {a c:List (Nat×Nat)}:callCD env KD is s d acc f (some (a,c)) (some az)=callHD env KD is s d acc f (some (hpsW a ++ az ++ hpsW c)):=nrfl rfl
def nextD (env:Env) (K:St→Ft→Prop) (is:List PI) (s:St) (d:Option Nat) (acc:Ft) (x:Cl):Prop:=nextG s x (fun v ch=>evalD env is (s.ap d v ch) (([],ch.wrs) :: acc) K)
def opD (env:Env) (K:St→Ft→Prop) (is:List PI) (s:St) (d:Option Nat) (acc:Ft) (b:Bool) (op:PO):Prop:=match b with
 | true=>(match op with | .call f xs=>callRD env K is s d acc f xs (s.recv xs) (s.prcv xs) | .callv x f xs=>callVD env K is s d acc f xs (fnIs f (s.val x)) | .ldg x=>ldgVD env K is s d acc (gAt env (s.val x)) | .hal c k=>halD env K is s d acc c ((PO.hal c k).rd s (d.getD 0)) k | .next x=>nextD env K is s d acc (s.cl x) | .callh f xs=>callHD env K is s d acc f (s.hws xs) | .callp f xs=>callPD env K is s d acc f (s.hws xs) | .callc x f xs=>callCD env K is s d acc f (fnOf f (s.cl x)) (s.hws xs) | _=>False)
 | false=>contD env K is s d acc (op.rd s (d.getD 0)) (op.fn s (d.getD 0))
theorem opD_false {op:PO}:opD env KD is s d acc false op=contD env KD is s d acc (op.rd s (d.getD 0)) (op.fn s (d.getD 0)):=nrfl rfl
theorem opD_true {f:Nat} {xs:List PX}:opD env KD is s d acc true (.call f xs)=callRD env KD is s d acc f xs (s.recv xs) (s.prcv xs):=nrfl rfl
theorem opD_callv {x:PX} {f:Nat} {xs:List PX}:opD env KD is s d acc true (.callv x f xs)=callVD env KD is s d acc f xs (fnIs f (s.val x)):=nrfl rfl
theorem opD_ldg {x:PX}:opD env KD is s d acc true (.ldg x)=ldgVD env KD is s d acc (gAt env (s.val x)):=nrfl rfl
theorem opD_hal {c:Nat} {k:HA}:opD env KD is s d acc true (.hal c k)=halD env KD is s d acc c ((PO.hal c k).rd s (d.getD 0)) k:=nrfl rfl
theorem opD_callh {f:Nat} {xs:List PX}:opD env KD is s d acc true (.callh f xs)=callHD env KD is s d acc f (s.hws xs):=nrfl rfl
theorem opD_callc {x:PX} {f:Nat} {xs:List PX}:opD env KD is s d acc true (.callc x f xs)=callCD env KD is s d acc f (fnOf f (s.cl x)) (s.hws xs):=nrfl rfl
theorem goD_op {op:PO}:goD env KD is s d acc op=opD env KD is s d acc op.isCall op:=by
 cases hc:op.isCall with
 | true =>
   cases op <;> first
    | (cases hc;done)
    | (rename_i f xs
       show callG env s (d.getD 0) (fun v ch=>evalD env is (s.ap d v ch) (((PO.call f xs).rd s (d.getD 0),ch.wrs) :: acc) KD) f xs (s.recv xs) (s.prcv xs)=callRD env KD is s d acc f xs (s.recv xs) (s.prcv xs)
       have hrd:(PO.call f xs).rd s (d.getD 0)=match s.recv xs,s.prcv xs with | some p,_=>[(p.1,0,big),(d.getD 0,big - 1,1)] | none,some p=>[(p.1,0,big),(d.getD 0,big - 1,1)] | none,none=>[(d.getD 0,big - 1,1)]:=rfl
       rw [hrd];cases s.recv xs <;> cases s.prcv xs <;> rfl)
    | (rename_i x f xs
       show withSome (fnIs f (s.val x)) (fun _=>callG env s (d.getD 0) (fun v ch=>evalD env is (s.ap d v ch) (((PO.callv x f xs).rd s (d.getD 0),ch.wrs) :: acc) KD) f xs (s.recv xs) (s.prcv xs))=callVD env KD is s d acc f xs (fnIs f (s.val x))
       have hrd:(PO.callv x f xs).rd s (d.getD 0)=match s.recv xs,s.prcv xs with | some p,_=>[(p.1,0,big),(d.getD 0,big - 1,1)] | none,some p=>[(p.1,0,big),(d.getD 0,big - 1,1)] | none,none=>[(d.getD 0,big - 1,1)]:=rfl
       rw [hrd]
       cases fnIs f (s.val x) with
       | none=>rfl
       | some u =>
         show callG env s (d.getD 0) (fun v ch=>evalD env is (s.ap d v ch) ((match s.recv xs,s.prcv xs with | some p,_=>[(p.1,0,big),(d.getD 0,big - 1,1)] | none,some p=>[(p.1,0,big),(d.getD 0,big - 1,1)] | none,none=>[(d.getD 0,big - 1,1)],ch.wrs) :: acc) KD) f xs (s.recv xs) (s.prcv xs)=callRD env KD is s d acc f xs (s.recv xs) (s.prcv xs)
         cases s.recv xs <;> cases s.prcv xs <;> rfl)
    | (rename_i x
       show withSome (gAt env (s.val x)) (fun v=>evalD env is (s.ap d (scAv v) .no) (([],[]) :: acc) KD)=ldgVD env KD is s d acc (gAt env (s.val x))
       cases gAt env (s.val x) <;> rfl)
    | rfl
 | false=>rw [opD_false,goD_fn hc]
theorem evalD_plain {op:PO}:evalD env (⟨d,op,none,af⟩ :: is) s acc KD=goD env KD is s d acc op:=nrfl rfl
theorem evalD_guard {op:PO} {t:Nat} {want:Bool}:evalD env (⟨d,op,some (t,want),af⟩ :: is) s acc KD=guardD env KD is s d acc op t want (s.gd t):=by
 change withSome (s.gd t) _=guardD env KD is s d acc op t want (s.gd t)
 cases h:s.gd t with
 | none=>rfl
 | some b =>
   cases b with
   | none=>exact propext ⟨fun k=>k.2 (by simp),fun k=>⟨fun e=>(by simp at e),fun _=>k⟩⟩
   | some b =>
     have hb:=boo_self (gd_boo h);rw [guardD_some]
     show ((some b=some want→_)∧(some b≠some want→_))=_
     rw [some_ne,Option.some.injEq]
     congr 1
     ·apply propext
      refine forall_congr' fun he=>?_
      subst he;rw [hb];rfl
     ·apply propext
      refine forall_congr' fun he=>?_
      rw [←he,hb];rfl
theorem evalD_gT {op:PO} {t:Nat} {want:Bool} (h:s.gd t=some (some want)):evalD env (⟨d,op,some (t,want),af⟩ :: is) s acc KD=goD env KD is s d acc op:=by
 rw [evalD_guard,h,guardD_some,boo_self (gd_boo h)];exact propext ⟨fun k=>k.1 rfl,fun k=>⟨fun _=>k,fun e=>absurd e (by cases want <;> decide)⟩⟩
theorem evalD_gF {op:PO} {t:Nat} {want:Bool} (h:s.gd t=some (some (!want))):evalD env (⟨d,op,some (t,want),af⟩ :: is) s acc KD=evalD env is (s.ap d skp .no) ((op.rd s (d.getD 0),[]) :: acc) KD:=by
 rw [evalD_guard,h,guardD_some,boo_self (gd_boo h)];exact propext ⟨fun k=>k.2 rfl,fun k=>⟨fun e=>absurd e (by cases want <;> decide),fun _=>k⟩⟩
theorem evalD_gS {op:PO} {t:Nat} {want:Bool} (h:s.gd t=some none):evalD env (⟨d,op,some (t,want),af⟩ :: is) s acc KD=evalD env is (s.ap d skp .no) ((op.rd s (d.getD 0),[]) :: acc) KD:=by
 rw [evalD_guard,h,guardD_skp]
inductive It where
 | c (x:PC)
 | bl (id:Nat)
 | lp (I:Nat→St→Prop) (n:Nat)
def exS (env:Env):List It→(Exit→St→Prop)→Exit→St→Prop
 | [],Q,e,s=>Q e s
 | .c b :: k,Q,e,s=>match e with
   | .normal=>pwp env b (exS env k Q) s
   | e=>exS env k Q e s
 | .bl id :: k,Q,e,s=>match e with
   | .exit i=>if i=id then exS env k Q .normal s else exS env k Q (.exit i) s
   | e=>exS env k Q e s
 | .lp I n :: k,Q,e,s=>match e with
   | .normal=>∃ m,m < n∧I m s
   | e=>exS env k Q e s
variable {k:List It} {Q:Exit→St→Prop}
theorem exS_nil {e:Exit}:exS env [] Q e s=Q e s:=nrfl rfl
theorem exS_c {b:PC}:exS env (.c b :: k) Q .normal s=pwp env b (exS env k Q) s:=nrfl rfl
theorem exS_c_ret {b:PC}:exS env (.c b :: k) Q .ret s=exS env k Q .ret s:=nrfl rfl
theorem exS_c_exit {b:PC} {i:Nat}:exS env (.c b :: k) Q (.exit i) s=exS env k Q (.exit i) s:=nrfl rfl
theorem exS_bl {id:Nat}:exS env (.bl id :: k) Q .normal s=exS env k Q .normal s:=nrfl rfl
theorem exS_bl_ret {id:Nat}:exS env (.bl id :: k) Q .ret s=exS env k Q .ret s:=nrfl rfl
theorem exS_bl_exit {id i:Nat}:exS env (.bl id :: k) Q (.exit i) s=if i=id then exS env k Q .normal s else exS env k Q (.exit i) s:=nrfl rfl
theorem exS_lp_ret {I:Nat→St→Prop} {n:Nat}:exS env (.lp I n :: k) Q .ret s=exS env k Q .ret s:=nrfl rfl
theorem exS_lp_exit {I:Nat→St→Prop} {n i:Nat}:exS env (.lp I n :: k) Q (.exit i) s=exS env k Q (.exit i) s:=nrfl rfl
theorem pwp_start {c:PC} (h:pwp env c (exS env [] Q) s):pwp env c Q s:=h
theorem pwp_fresh {Q':Exit→St→Prop} {c:PC} (sls obs:List Nat) (h:∀ st:St,(∀ x,x ∈ sls→st.sl x=s.sl x)→(∀ o,o ∈ obs→st.gen o=s.gen o∧st.ob o=s.ob o)→pwp env c Q' st):pwp env c Q' s:=h s (fun _ _=>rfl) (fun _ _=>⟨rfl,rfl⟩)
theorem pwp_freshP {Q':Exit→St→Prop} {c:PC} (P:St→Prop) (hP:P s) (sls obs:List Nat) (h:∀ st:St,P st→(∀ x,x ∈ sls→st.sl x=s.sl x)→(∀ o,o ∈ obs→st.gen o=s.gen o∧st.ob o=s.ob o)→pwp env c Q' st):pwp env c Q' s:=h s hP (fun _ _=>rfl) (fun _ _=>⟨rfl,rfl⟩)
theorem pwp_skip:pwp env .skip (exS env k Q) s=exS env k Q .normal s:=nrfl rfl
theorem pwp_reg {ops:List PI}:pwp env (.reg false ops) (exS env k Q) s=evalOps env ops s (exS env k Q .normal):=nrfl rfl
def drawn (ops:List PI) (K:St→Prop) (s:St) (fts:Ft):Prop:=drawOk ops fts=true∧K s
def Drw (ops:List PI) (fts:Ft):Prop:=drawOk ops fts=true
theorem drawn_and {ops:List PI} {K:St→Prop} {fts:Ft}:drawn ops K s fts=(Drw ops fts∧K s):=nrfl rfl
theorem pwp_regD {ops:List PI}:pwp env (.reg true ops) (exS env k Q) s=evalD env ops s [] (drawn ops (exS env k Q .normal)):=nrfl rfl
theorem pwp_seq {a b:PC}:pwp env (.seq a b) (exS env k Q) s=pwp env a (exS env (.c b :: k) Q) s:=by
 show pwp env a _ s=_
 congr 1
def condS (env:Env) (a b:PC) (k:List It) (Q:Exit→St→Prop) (s:St) (o:Option Bool):Prop:=withSome o fun t=>(t=true→pwp env a (exS env k Q) s)∧(t=false→pwp env b (exS env k Q) s)
theorem condS_some {a b:PC} {t:Bool}:condS env a b k Q s (some t)=((t=true→pwp env a (exS env k Q) s)∧(t=false→pwp env b (exS env k Q) s)):=nrfl rfl
theorem pwp_cond {c:PX} {a b:PC}:pwp env (.cond c a b) (exS env k Q) s=condS env a b k Q s (s.boo c):=nrfl rfl
theorem pwp_block {id:Nat} {c:PC}:pwp env (.block id c) (exS env k Q) s=pwp env c (exS env (.bl id :: k) Q) s:=by
 show pwp env c _ s=_
 congr 1
theorem pwp_exit {id:Nat}:pwp env (.exit id) (exS env k Q) s=exS env k Q (.exit id) s:=nrfl rfl
theorem pwp_ret:pwp env .ret (exS env k Q) s=exS env k Q .ret s:=nrfl rfl
theorem pwp_loop {c:PC} (I:Nat→St→Prop) (n:Nat) (h0:I n s) (h:∀ n s,I n s→pwp env c (exS env (.lp I n :: k) Q) s):pwp env (.loop c) (exS env k Q) s:=by
 refine ⟨I,⟨n,h0⟩,fun n s hI=>?_⟩;have:=h n s hI
 have he:exS env (.lp I n :: k) Q=fun e s'=>match e with | .normal=>∃ m,m < n∧I m s' | e=>exS env k Q e s':=by
  funext e s'
  cases e <;> rfl
 rw [he] at this;exact this
theorem ap_sl {x:Nat} {v:Av} {ch:Cg}:(s.ap (some x) v ch).sl=up s.sl x v:=nrfl rfl
theorem ap_sl0 {v:Av} {ch:Cg}:(s.ap none v ch).sl=s.sl:=nrfl rfl
theorem ap_gen {v:Av}:(s.ap d v .no).gen=s.gen:=nrfl rfl
theorem ap_genw {v:Av} {o off:Nat} {cs:List Cl}:(s.ap d v (.wr o off cs)).gen=s.gen:=nrfl rfl
theorem ap_genr {v:Av} {o m:Nat}:(s.ap d v (.row o m)).gen=s.gen:=nrfl rfl
theorem ap_genn {v:Av} {o:Nat} {x:Ob}:(s.ap d v (.new o x)).gen=up s.gen o (s.gen o+1):=nrfl rfl
theorem ap_ob {v:Av}:(s.ap d v .no).ob=s.ob:=nrfl rfl
theorem ap_obw {v:Av} {o off:Nat} {cs:List Cl}:(s.ap d v (.wr o off cs)).ob=up s.ob o (wrF off cs (s.ob o)):=by
 rw [ap_eq];rfl
theorem ap_obr {v:Av} {o m:Nat}:(s.ap d v (.row o m)).ob=up s.ob o (rowF m (s.ob o)):=by
 rw [ap_eq];rfl
theorem ap_obn {v:Av} {o:Nat} {x:Ob}:(s.ap d v (.new o x)).ob=up s.ob o x:=nrfl rfl
theorem ap_nc {v:Av} {ch:Cg}:(s.ap d v ch).nc=s.nc:=nrfl rfl
theorem ap_genh {v:Av} {o:Nat} {l:List (Nat×Hb)}:(s.ap d v (.hw o l)).gen=s.gen:=nrfl rfl
theorem ap_gena {v:Av} {h:Nat→Hb}:(s.ap d v (.hall h)).gen=s.gen:=nrfl rfl
theorem ap_obh {v:Av} {c x:Nat} {l:List (Nat×Hb)} (hx:x < 1000000):(s.ap d v (.hw (HBS+c) l)).ob x=s.ob x:=by
 show up s.ob (HBS+c) _ x=_
 rw [up_at,if_neg (by unfold HBS;omega)]
theorem ap_oba {v:Av} {x:Nat} {h:Nat→Hb} (hx:x < 1000000):(s.ap d v (.hall h)).ob x=s.ob x:=by
 show (if HBS≤x then _ else _)=_
 rw [if_neg (by unfold HBS;omega)]
theorem hb_no {v:Av}:(s.ap d v .no).hb=s.hb:=nrfl rfl
theorem hb_new {v:Av} {o:Nat} {x:Ob} (h:o < 1000000):(s.ap d v (.new o x)).hb=s.hb:=by
 funext b
 exact hb_up (o:=o) (fun p hp=>by show up s.ob o x p=_;rw [up_at,if_neg hp]) (.inl (by unfold HBS;exact h)) b
theorem hb_wr {v:Av} {o off:Nat} {cs:List Cl} (h:o < 1000000):(s.ap d v (.wr o off cs)).hb=s.hb:=by
 funext b
 exact hb_up (o:=o) (fun p hp=>by rw [ap_obw,up_at,if_neg hp]) (.inl (by unfold HBS;exact h)) b
theorem hb_row {v:Av} {o m:Nat} (h:o < 1000000):(s.ap d v (.row o m)).hb=s.hb:=by
 funext b
 exact hb_up (o:=o) (fun p hp=>by rw [ap_obr,up_at,if_neg hp]) (.inl (by unfold HBS;exact h)) b
theorem hb_ab {v:Av} {o:Nat} {H:HP} (h:o < 1000000):(s.ap d v (.ab o H)).hb=s.hb:=by
 funext b
 exact hb_up (o:=o) (fun p hp=>by show up s.ob o (.ab H) p=_;rw [up_at,if_neg hp]) (.inl (by unfold HBS;exact h)) b
theorem upl_out {f g:Nat→Hb} {b:Nat}:∀ {l:List (Nat×Hb)},f b=g b→upl f l b=upl g l b
 | [],h=>h
 | (c,x) :: l,h=>by
   show upl (up f c x) l b=upl (up g c x) l b
   exact upl_out (l:=l) (by rw [up_at,up_at,h])
theorem upl_not {f:Nat→Hb} {b:Nat}:∀ {l:List (Nat×Hb)},(∀ p ∈ l,p.1≠b)→upl f l b=f b
 | [],_=>rfl
 | (c,x) :: l,h=>by
   show upl (up f c x) l b=f b
   rw [upl_not (fun p hp=>h p (by simp [hp])),up_at,if_neg (Ne.symm (h (c,x) (by simp)))]
theorem hb_hwl {v:Av} {c:Nat} {l:List (Nat×Hb)} (h:∀ p ∈ l,s.nc p.1=c):(s.ap d v (.hw (HBS+c) l)).hb=upl s.hb l:=by
 funext b
 show heapOf (up s.ob (HBS+c) (.hp (upl (heapOf (s.ob (HBS+c))) l)) (HBS+s.nc b)) b=upl s.hb l b
 rw [up_at]
 by_cases hb:s.nc b=c
 ·rw [if_pos (by rw [hb])];exact upl_out (show heapOf (s.ob (HBS+c)) b=heapOf (s.ob (HBS+s.nc b)) b by rw [hb])
 ·rw [if_neg (by omega),upl_not (fun p hp e=>hb (by rw [←e];exact h p hp))]
  rfl
theorem hb_hw1 {v:Av} {c b:Nat} {x:Hb} (h:s.nc b=c):(s.ap d v (.hw (HBS+c) [(b,x)])).hb=up s.hb b x:=hb_hwl (by simpa using h)
theorem hb_hw2 {v:Av} {c b b':Nat} {x x':Hb} (h:s.nc b=c) (h':s.nc b'=c):(s.ap d v (.hw (HBS+c) [(b,x),(b',x')])).hb=up (up s.hb b x) b' x':=hb_hwl (by simp [h,h'])
theorem hb_all {v:Av} {h:Nat→Hb}:(s.ap d v (.hall h)).hb=h:=hb_hall
def chLow:Cg→Bool
 | .new o _=>decide (o < 1000000)
 | .wr o _ _=>decide (o < 1000000)
 | .row o _=>decide (o < 1000000)
 | .ab o _=>decide (o < 1000000)
 | _=>true
def AllHp (s:St):Prop:=∀ c,isHp (s.ob (HBS+c))=true
theorem AllHp.ap {v:Av} {ch:Cg} (h:AllHp s) (hc:chLow ch=true):AllHp (s.ap d v ch):=fun c=>by
 have hHB:∀ o,decide (o < 1000000)=true→HBS+c≠o:=fun o ho=>by have:=of_decide_eq_true ho;unfold HBS;omega
 rw [ap_eq]
 show isHp (ch.oF s.nc s.ob (HBS+c))=true
 cases ch with
 | no=>exact h c
 | new o x=>simp only [Cg.oF,md,up_at,if_neg (hHB o hc)];exact h c
 | wr o off cs=>simp only [Cg.oF,md,up_at,if_neg (hHB o hc)];exact h c
 | row o m=>simp only [Cg.oF,md,up_at,if_neg (hHB o hc)];exact h c
 | ab o H=>simp only [Cg.oF,md,up_at,if_neg (hHB o hc)];exact h c
 | hw o l=>simp only [Cg.oF,md,up_at];split;rfl;exact h c
 | hall hp=>simp only [Cg.oF];rw [if_pos (Nat.le_add_right _ _)];rfl
theorem lay_of {c b:Nat} (h1:s.nc b=c) (h2:AllHp s) (h3:s.hb b=.no):s.lay c b:=⟨h1,h2 c,h3⟩
theorem AllHp.init {nc:Nat→Nat} {hp:Nat→Hb} {az:List Hw}:AllHp (St.initH nc hp az):=fun c=>by
 show isHp (if HBS≤HBS+c then _ else _)=true
 rw [if_pos (Nat.le_add_right _ _)];rfl
def initSlH:List Hw→Nat→Av
 | [],_=>.un
 | p :: _,0=>.b p.bv
 | _ :: r,n+1=>initSlH r n
theorem initH_sl (nc:Nat→Nat) (hp:Nat→Hb) (ps:List Hw) (x:Nat):(St.initH nc hp ps).sl x=initSlH ps x:=by
 show (match ps[x]? with | some p=>Av.b p.bv | none=>.un)=_
 induction ps generalizing x with
 | nil=>simp [initSlH]
 | cons p r ih =>
   cases x with
   | zero=>rfl
   | succ x=>rw [List.getElem?_cons_succ,ih x];rfl
theorem initH_gen {nc:Nat→Nat} {hp:Nat→Hb} {ps:List Hw} {x:Nat}:(St.initH nc hp ps).gen x=0:=nrfl rfl
theorem initH_ob {nc:Nat→Nat} {hp:Nat→Hb} {ps:List Hw} {x:Nat} (h:x < 1000000):(St.initH nc hp ps).ob x=.no:=by
 show (if HBS≤x then _ else _)=_
 rw [if_neg (by unfold HBS;omega)]
theorem initH_nc {nc:Nat→Nat} {hp:Nat→Hb} {ps:List Hw}:(St.initH nc hp ps).nc=nc:=nrfl rfl
theorem wrF_cells {off:Nat} {cs old:List Cl}:wrF off cs (.cells old)=.cells (wrAt old off cs):=nrfl rfl
theorem rowF_row {m E sz n:Nat}:rowF m (.row E sz n)=.row E sz m:=nrfl rfl
def initSl:List Pa→Nat→Av
 | [],_=>.un
 | p :: _,0=>.b p.bv
 | _ :: r,n+1=>initSl r n
theorem init_sl (ps:List Pa) (x:Nat):(St.init ps).sl x=initSl ps x:=by
 show (match ps[x]? with | some p=>Av.b p.bv | none=>.un)=_
 induction ps generalizing x with
 | nil=>simp [initSl]
 | cons p r ih =>
   cases x with
   | zero=>rfl
   | succ x=>rw [List.getElem?_cons_succ,ih x];rfl
theorem initM_sl0 {ds:List Dt} {ps:List Pa}:(St.initM ds ps).sl 0=.b (.one (.ptr 0 0 0)):=nrfl rfl
theorem initM_slS {ds:List Dt} {ps:List Pa} {x:Nat}:(St.initM ds ps).sl (x+1)=initSl ps x:=(init_sl ps x)
theorem initM_gen {ds:List Dt} {ps:List Pa} {x:Nat}:(St.initM ds ps).gen x=0:=nrfl rfl
theorem initM_ob0 {ds:List Dt} {ps:List Pa}:(St.initM ds ps).ob 0=.cells (ds.map .d):=nrfl rfl
theorem initM_obS {ds:List Dt} {ps:List Pa} {x:Nat}:(St.initM ds ps).ob (x+1)=.no:=nrfl rfl
theorem init_gen {ps:List Pa} {x:Nat}:(St.init ps).gen x=0:=nrfl rfl
theorem init_ob {ps:List Pa} {x:Nat}:(St.init ps).ob x=.no:=nrfl rfl
theorem ev_t {x:Nat}:s.ev (.t x)=s.sl x:=nrfl rfl
theorem ev_int {k:IntKind} {m:Int}:s.ev (.v (.int k m))=.b (.one (.d (.sc (.int k m)))):=nrfl rfl
theorem ev_bool {b:Bool}:s.ev (.v (.bool b))=.b (.one (.d (.sc (.bool b)))):=nrfl rfl
theorem ev_string {b:ByteArray}:s.ev (.v (.string b))=.b (.one (.d (.sc (.string b)))):=nrfl rfl
theorem ev_nil:s.ev (.v (.slice none 0 0))=.b (.one (.d (.sc (.slice none 0 0)))):=nrfl rfl
theorem ev_agg {l:Array Value}:s.ev (.v (.agg l))=.b (.agg (l.toList.map fun v=>.d (.sc v))):=nrfl rfl
theorem ev_ptr:s.ev (.v (.pointer none))=.b (.one (.d (.sc (.pointer none)))):=nrfl rfl
theorem args_nil:s.args []=some []:=nrfl rfl
theorem args_cons {x:PX} {xs:List PX}:s.args (x :: xs)=(match (s.ev x).pa with | some p=>(s.args xs).map (p :: ·) | none=>none):=by
 unfold St.args;simp only [List.map_cons];cases (s.ev x).pa <;> rfl
end
def Within (ms os:List Nat) (s0 st:St):Prop:=(∀ x,ms.contains x=false→st.sl x=s0.sl x)∧∀ o,os.contains o=false→st.gen o=s0.gen o∧st.ob o=s0.ob o
def over (ms os:List Nat) (s0 j:St):St:=⟨fun x=>bif ms.contains x then j.sl x else s0.sl x,fun o=>bif os.contains o then j.gen o else s0.gen o,fun o=>bif os.contains o then j.ob o else s0.ob o,j.nc⟩
theorem Within.refl (ms os:List Nat) (s:St):Within ms os s s:=⟨fun _ _=>rfl,fun _ _=>⟨rfl,rfl⟩⟩
theorem Within.over {ms os:List Nat} {s0 st:St} (h:Within ms os s0 st):∃ j,st=over ms os s0 j:=by
 refine ⟨st,?_⟩;obtain ⟨h1,h2⟩:=h
 have e1:st.sl=(Go.Proofs.Ytffcpijeebagfaa.over ms os s0 st).sl:=by
  funext x
  show st.sl x=bif ms.contains x then st.sl x else s0.sl x
  cases hx:ms.contains x with
  | true=>rfl
  | false=>exact h1 x hx
 have e2:st.gen=(Go.Proofs.Ytffcpijeebagfaa.over ms os s0 st).gen:=by
  funext x
  show st.gen x=bif os.contains x then st.gen x else s0.gen x
  cases hx:os.contains x with
  | true=>rfl
  | false=>exact (h2 x hx).1
 have e3:st.ob=(Go.Proofs.Ytffcpijeebagfaa.over ms os s0 st).ob:=by
  funext x
  show st.ob x=bif os.contains x then st.ob x else s0.ob x
  cases hx:os.contains x with
  | true=>rfl
  | false=>exact (h2 x hx).2
 show (⟨st.sl,st.gen,st.ob,st.nc⟩:St)=⟨(Go.Proofs.Ytffcpijeebagfaa.over ms os s0 st).sl,(Go.Proofs.Ytffcpijeebagfaa.over ms os s0 st).gen,(Go.Proofs.Ytffcpijeebagfaa.over ms os s0 st).ob,st.nc⟩
 rw [←e1,←e2,←e3]
theorem over_sl {ms os:List Nat} {s0 j:St} {x:Nat}:(over ms os s0 j).sl x=bif ms.contains x then j.sl x else s0.sl x:=nrfl rfl
theorem over_gen {ms os:List Nat} {s0 j:St} {x:Nat}:(over ms os s0 j).gen x=bif os.contains x then j.gen x else s0.gen x:=nrfl rfl
theorem over_ob {ms os:List Nat} {s0 j:St} {x:Nat}:(over ms os s0 j).ob x=bif os.contains x then j.ob x else s0.ob x:=nrfl rfl
theorem within_over {ms os:List Nat} {s0 j:St}:Within ms os s0 (over ms os s0 j)=True:=by
 apply propext
 refine ⟨fun _=>trivial,fun _=>⟨fun x hx=>?_,fun o ho=>⟨?_,?_⟩⟩⟩
 ·rw [over_sl,hx];rfl
 ·rw [over_gen,ho];rfl
 ·rw [over_ob,ho];rfl
def chIn (os:List Nat):Cg→Bool
 | .ab o _=>os.contains o
 | .no=>true
 | .new o _=>os.contains o
 | .wr o _ _=>os.contains o
 | .row o _=>os.contains o
 | .hw o _=>os.contains o
 | .hall _=>false
theorem Within.ap {ms os:List Nat} {s0 s:St} {d:Option Nat} {v:Av} {ch:Cg} (h:Within ms os s0 s) (hd:∀ x,d=some x→ms.contains x=true) (hc:chIn os ch=true):Within ms os s0 (s.ap d v ch):=by
 obtain ⟨h1,h2⟩:=h;rw [ap_eq];refine ⟨fun x hx=>?_,fun o ho=>?_⟩
 ·cases d with
  | none=>exact h1 x hx
  | some y =>
    show up s.sl y v x=_
    rw [up_at,if_neg]
    ·exact h1 x hx
    ·rintro rfl;rw [hd x rfl] at hx;cases hx
 ·have key:∀ y:Nat,os.contains y=true→o≠y:=by
   rintro y hy rfl;rw [hy] at ho;cases ho
  show ch.gF s.gen o=_∧ch.oF s.nc s.ob o=_
  cases ch with
  | no=>exact h2 o ho
  | new y x=>simp only [Cg.gF,Cg.oF,Go.Proofs.Ytffcpijeebagfaa.md,up_at,if_neg (key y hc)];exact h2 o ho
  | wr y off cs=>simp only [Cg.gF,Cg.oF,Go.Proofs.Ytffcpijeebagfaa.md,up_at,if_neg (key y hc)];exact h2 o ho
  | row y m=>simp only [Cg.gF,Cg.oF,Go.Proofs.Ytffcpijeebagfaa.md,up_at,if_neg (key y hc)];exact h2 o ho
  | ab y H=>simp only [Cg.gF,Cg.oF,Go.Proofs.Ytffcpijeebagfaa.md,up_at,if_neg (key y hc)];exact h2 o ho
  | hw y l=>simp only [Cg.gF,Cg.oF,Go.Proofs.Ytffcpijeebagfaa.md,up_at,if_neg (key y hc)];exact h2 o ho
  | hall h=>cases hc
theorem within_ap {ms os:List Nat} {s0 s:St} {x:Nat} {v:Av} {ch:Cg} (h:Within ms os s0 s) (hd:ms.contains x=true) (hc:chIn os ch=true):Within ms os s0 (s.ap (some x) v ch):=h.ap (fun y hy=>by cases hy;exact hd) hc
theorem within_ap0 {ms os:List Nat} {s0 s:St} {v:Av} {ch:Cg} (h:Within ms os s0 s) (hc:chIn os ch=true):Within ms os s0 (s.ap none v ch):=h.ap (fun y hy=>by cases hy) hc
theorem Within.trans {ms os:List Nat} {a b c:St} (h:Within ms os a b) (k:Within ms os b c):Within ms os a c :=
 ⟨fun x hx=>(k.1 x hx).trans (h.1 x hx),fun o ho=>⟨(k.2 o ho).1.trans (h.2 o ho).1,(k.2 o ho).2.trans (h.2 o ho).2⟩⟩
theorem pwp_loopW {env:Env} {k:List It} {Q:Exit→St→Prop} {s:St} {c:PC} (ms os:List Nat) (J:Nat→St→Prop) (m0:Nat) (h0:J m0 s)
 (h:∀ m j,J m (over ms os s j)→pwp env c (exS env (.lp (fun m st=>Within ms os s st∧J m st) m :: k) Q) (over ms os s j)):pwp env (.loop c) (exS env k Q) s :=
 pwp_loop (fun m st=>Within ms os s st∧J m st) m0 ⟨Within.refl _ _ _,h0⟩ (fun m st ⟨hW,hJ⟩=>by
  obtain ⟨j,rfl⟩:=hW.over;exact h m j hJ)
def WithinH (ms os:List Nat) (s0 st:St):Prop:=(∀ x,ms.contains x=false→st.sl x=s0.sl x)∧(∀ o,os.contains o=false→st.gen o=s0.gen o∧(o < 1000000→st.ob o=s0.ob o))∧st.nc=s0.nc∧AllHp st
def overH (ms os:List Nat) (s0 j:St):St:=⟨fun x=>bif ms.contains x then j.sl x else s0.sl x,fun o=>bif os.contains o then j.gen o else s0.gen o,fun o=>if o < 1000000 then (bif os.contains o then j.ob o else s0.ob o) else j.ob o,s0.nc⟩
theorem WithinH.refl (ms os:List Nat) {s:St} (h:AllHp s):WithinH ms os s s:=⟨fun _ _=>rfl,fun _ _=>⟨rfl,fun _=>rfl⟩,rfl,h⟩
theorem WithinH.over {ms os:List Nat} {s0 st:St} (h:WithinH ms os s0 st):st=overH ms os s0 st:=by
 obtain ⟨h1,h2,h3,_⟩:=h
 have e1:st.sl=(overH ms os s0 st).sl:=by
  funext x
  show st.sl x=bif ms.contains x then st.sl x else s0.sl x
  cases hx:ms.contains x with
  | true=>rfl
  | false=>exact h1 x hx
 have e2:st.gen=(overH ms os s0 st).gen:=by
  funext x
  show st.gen x=bif os.contains x then st.gen x else s0.gen x
  cases hx:os.contains x with
  | true=>rfl
  | false=>exact (h2 x hx).1
 have e3:st.ob=(overH ms os s0 st).ob:=by
  funext x
  show st.ob x=if x < 1000000 then (bif os.contains x then st.ob x else s0.ob x) else st.ob x
  split
  ·rename_i hlt
   cases hx:os.contains x with
   | true=>rfl
   | false=>exact (h2 x hx).2 hlt
  ·rfl
 have e4:st.nc=(overH ms os s0 st).nc:=h3
 show (⟨st.sl,st.gen,st.ob,st.nc⟩:St)=⟨(overH ms os s0 st).sl,(overH ms os s0 st).gen,(overH ms os s0 st).ob,(overH ms os s0 st).nc⟩
 rw [←e1,←e2,←e3,←e4]
theorem overH_sl {ms os:List Nat} {s0 j:St} {x:Nat}:(overH ms os s0 j).sl x=bif ms.contains x then j.sl x else s0.sl x:=nrfl rfl
theorem overH_gen {ms os:List Nat} {s0 j:St} {x:Nat}:(overH ms os s0 j).gen x=bif os.contains x then j.gen x else s0.gen x:=nrfl rfl
theorem overH_ob {ms os:List Nat} {s0 j:St} {x:Nat} (h:x < 1000000):(overH ms os s0 j).ob x=bif os.contains x then j.ob x else s0.ob x:=by
 show (if x < 1000000 then _ else _)=_
 rw [if_pos h]
theorem overH_nc {ms os:List Nat} {s0 j:St}:(overH ms os s0 j).nc=s0.nc:=nrfl rfl
theorem overH_hb {ms os:List Nat} {s0 j:St} (h:j.nc=s0.nc):(overH ms os s0 j).hb=j.hb:=by
 funext b
 show heapOf (if HBS+s0.nc b < 1000000 then _ else j.ob (HBS+s0.nc b)) b=heapOf (j.ob (HBS+j.nc b)) b
 rw [if_neg (by unfold HBS;omega),h]
theorem overH_hp {ms os:List Nat} {s0 j:St} (h:AllHp j):AllHp (overH ms os s0 j):=fun c=>by
 show isHp (if HBS+c < 1000000 then _ else j.ob (HBS+c))=true
 rw [if_neg (by unfold HBS;omega)];exact h c
def chInH (os:List Nat):Cg→Bool
 | .ab o _=>os.contains o && decide (o < 1000000)
 | .no=>true
 | .new o _=>os.contains o && decide (o < 1000000)
 | .wr o _ _=>os.contains o && decide (o < 1000000)
 | .row o _=>os.contains o && decide (o < 1000000)
 | .hw o _=>decide (1000000≤o)
 | .hall _=>true
theorem WithinH.ap {ms os:List Nat} {s0 s:St} {d:Option Nat} {v:Av} {ch:Cg} (h:WithinH ms os s0 s) (hd:∀ x,d=some x→ms.contains x=true) (hc:chInH os ch=true):WithinH ms os s0 (s.ap d v ch):=by
 obtain ⟨h1,h2,h3,h4⟩:=h;have hlow:chLow ch=true:=by cases ch <;> simp only [chInH,Bool.and_eq_true] at hc <;> first | rfl | exact hc.2
 have h4':=h4.ap (d:=d) (v:=v) hlow;rw [ap_eq] at h4' ⊢;refine ⟨fun x hx=>?_,fun o ho=>?_,h3,h4'⟩
 ·cases d with
  | none=>exact h1 x hx
  | some y =>
    show up s.sl y v x=_
    rw [up_at,if_neg]
    ·exact h1 x hx
    ·rintro rfl;rw [hd x rfl] at hx;cases hx
 ·have key:∀ y:Nat,os.contains y=true→o≠y:=by
   rintro y hy rfl;rw [hy] at ho;cases ho
  show ch.gF s.gen o=_∧(o < 1000000→ch.oF s.nc s.ob o=_)
  obtain ⟨g1,g2⟩:=h2 o ho
  cases ch with
  | no=>exact ⟨g1,g2⟩
  | new y x=>simp only [chInH,Bool.and_eq_true] at hc;simp only [Cg.gF,Cg.oF,Go.Proofs.Ytffcpijeebagfaa.md,up_at,if_neg (key y hc.1)];exact ⟨g1,g2⟩
  | wr y off cs=>simp only [chInH,Bool.and_eq_true] at hc;simp only [Cg.gF,Cg.oF,Go.Proofs.Ytffcpijeebagfaa.md,up_at,if_neg (key y hc.1)];exact ⟨g1,g2⟩
  | row y m=>simp only [chInH,Bool.and_eq_true] at hc;simp only [Cg.gF,Cg.oF,Go.Proofs.Ytffcpijeebagfaa.md,up_at,if_neg (key y hc.1)];exact ⟨g1,g2⟩
  | ab y H=>simp only [chInH,Bool.and_eq_true] at hc;simp only [Cg.gF,Cg.oF,Go.Proofs.Ytffcpijeebagfaa.md,up_at,if_neg (key y hc.1)];exact ⟨g1,g2⟩
  | hw y l =>
    have hy:=of_decide_eq_true hc;refine ⟨g1,fun hlt=>?_⟩;simp only [Cg.oF,Go.Proofs.Ytffcpijeebagfaa.md,up_at,if_neg (show o≠y by omega)];exact g2 hlt
  | hall hp =>
    refine ⟨g1,fun hlt=>?_⟩;simp only [Cg.oF];rw [if_neg (by unfold HBS;omega)];exact g2 hlt
theorem withinH_ap {ms os:List Nat} {s0 s:St} {x:Nat} {v:Av} {ch:Cg} (h:WithinH ms os s0 s) (hd:ms.contains x=true) (hc:chInH os ch=true):WithinH ms os s0 (s.ap (some x) v ch):=h.ap (fun y hy=>by cases hy;exact hd) hc
theorem withinH_ap0 {ms os:List Nat} {s0 s:St} {v:Av} {ch:Cg} (h:WithinH ms os s0 s) (hc:chInH os ch=true):WithinH ms os s0 (s.ap none v ch):=h.ap (fun y hy=>by cases hy) hc
theorem withinH_hw {os:List Nat} {c:Nat} {l:List (Nat×Hb)}:chInH os (.hw (HBS+c) l)=true:=by unfold chInH;exact decide_eq_true (by unfold HBS;omega)
theorem withinH_over {ms os:List Nat} {s0 j:St} (h:AllHp j):WithinH ms os s0 (overH ms os s0 j) :=
 ⟨fun x hx=>by rw [overH_sl,hx];rfl,fun o ho=>⟨by rw [overH_gen,ho];rfl,fun hlt=>by rw [overH_ob hlt,ho];rfl⟩,rfl,overH_hp h⟩
theorem pwp_loopH {env:Env} {k:List It} {Q:Exit→St→Prop} {s:St} {c:PC} (ms os:List Nat) (J:Nat→St→Prop) (m0:Nat) (hs:AllHp s) (h0:J m0 s)
 (h:∀ m j,j.nc=s.nc→AllHp j→J m (overH ms os s j)→pwp env c (exS env (.lp (fun m st=>WithinH ms os s st∧J m st) m :: k) Q) (overH ms os s j)):pwp env (.loop c) (exS env k Q) s :=
 pwp_loop (fun m st=>WithinH ms os s st∧J m st) m0 ⟨WithinH.refl _ _ hs,h0⟩ (fun m st ⟨hW,hJ⟩=>by
  have:=hW.over;rw [this] at hJ ⊢;exact h m st hW.2.2.1 hW.2.2.2 hJ)
theorem wr64 {x:Int} (h1:-9223372036854775808≤x) (h2:x≤9223372036854775807):IntKind.i64.wrap x=x:=IntWalk.i64_in x ⟨h1,h2⟩
theorem wrN {k:Nat} (h:k≤1000000000):IntKind.i64.wrap ((k:Int)+1)=((k+1:Nat):Int):=by
 rw [wr64 (by omega) (by omega)];omega
end Go.Proofs.Ytffcpijeebagfaa
end
