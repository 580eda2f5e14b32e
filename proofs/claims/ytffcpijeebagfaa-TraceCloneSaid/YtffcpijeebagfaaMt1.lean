/- The plain model of events and of the state of a trace: no program in sight. -/
import Derived.Below
import Derived.Maps.OwnSet
import Derived.Deep.Draws
import Derived.DeepKeys5
import Derived.Test.YtffcpijeebagfaaRows
import Derived.WalkKit
import Derived.WalkSpells
import Derived.Outline
import Derived.Handy
import Derived.Deep.Light
import Derived.Lib.Hide
import Derived.RegionTactic
import Derived.BigRegion
import Derived.Deep.QuietTactic
import Derived.BigQuiet
import Derived.Deep.DeepCutAuto
import Derived.Deep.CutBlock
set_option linter.unusedSimpArgs false
set_option linter.unusedVariables false
section
namespace Go.Proofs.Ytffcpijeebagfaa
open Go.RowKit
structure Ev where
 g:Int
 kind:Int
 obj:Int
 off:Int
 k:Int
 n:Int
 fn:Int
 pc:Int
 stack:Int
deriving DecidableEq,Inhabited
def I64 (x:Int):Prop:=-9223372036854775808≤x∧x≤9223372036854775807
def Ev.wf (e:Ev):Prop:=I64 e.g∧I64 e.kind∧I64 e.obj∧I64 e.off∧I64 e.k∧I64 e.n∧I64 e.fn∧I64 e.pc∧I64 e.stack
def Ev.cells (e:Ev):List Value:=[.int .i64 e.g,.int .i64 e.kind,.int .i64 e.obj,.int .i64 e.off,.int .i64 e.k,.int .i64 e.n,.int .i64 e.fn,.int .i64 e.pc,.int .i64 e.stack]
def Ev.val (e:Ev):Value:=.agg #[.int .i64 e.g,.int .i64 e.kind,.int .i64 e.obj,.int .i64 e.off,.int .i64 e.k,.int .i64 e.n,.int .i64 e.fn,.int .i64 e.pc,.int .i64 e.stack]
def numberedB (k:Int):Bool:=decide (15≤k∧k≤18)
def isKindB (k:Int):Bool:=decide (1≤k∧k≤20)
def chanB (k:Int):Bool:=decide (15≤k∧k≤20)
def rangeB (x:Int):Bool:=decide (0≤x∧x≤2147483647)
def Ev.rest (e:Ev):Bool :=
 if e.kind=14 then decide (e.obj=0∧e.off=0∧e.n=0∧1≤e.k∧e.k < 8)
 else if 15≤e.kind∧e.kind≤18 then decide (e.off=0∧e.n≤64)
 else if 19≤e.kind then decide (e.off=0∧e.n≤64∧e.k=0)
 else decide (e.k=0∧e.n=0)
def Ev.valid (e:Ev):Bool:=isKindB e.kind && decide (0≤e.g∧e.g < 8) &&
 (rangeB e.obj && rangeB e.off && rangeB e.k && rangeB e.n && rangeB e.fn && rangeB e.pc && rangeB e.stack) && e.rest
structure Ch where
 cap:Int
 sent:Int
 recv:Int
 closed:Bool
deriving DecidableEq,Inhabited
def ch0:Ch:=⟨0,0,0,false⟩
structure Mu where
 locked:Bool
 readers:Int
deriving DecidableEq,Inhabited
def mu0:Mu:=⟨false,0⟩
structure Grp where
 kinds:List Int
 obj:Int
 k:Int
 n:Int
 snd:Int
 rcv:Int
def grp0:Grp:=⟨[],0,0,0,0,0⟩
structure TS where
 events:Int
 gor:Int
 chans:Int→Option Ch
 mus:Int×Int→Option Mu
 done:Int×Int→Option Bool
 grp:Grp
def TS.new:TS:=⟨0,1,fun _=>none,fun _=>none,fun _=>none,grp0⟩
def upd {κ:Type} [DecidableEq κ] {α:Type} (f:κ→Option α) (x:κ) (v:α):κ→Option α:=fun y=>if y=x then some v else f y
theorem upd_same {κ:Type} [DecidableEq κ] {α:Type} (f:κ→Option α) (x:κ) (v:α):upd f x v x=some v:=if_pos rfl
theorem upd_other {κ:Type} [DecidableEq κ] {α:Type} (f:κ→Option α) {x y:κ} (v:α) (h:y≠x):upd f x v y=f y:=if_neg h
theorem upd_upd {κ:Type} [DecidableEq κ] {α:Type} (f:κ→Option α) (x:κ) (v u:α):upd (upd f x v) x u=upd f x u:=by
 funext y;unfold upd;split <;> rfl
def Ch.count (c:Ch) (kind:Int):Ch:=if kind=15 then { c with sent:=c.sent+1 } else if kind=17 then { c with recv:=c.recv+1 } else c
def TS.count (s:TS) (e:Ev):TS:={ s with chans:=upd s.chans e.obj (((s.chans e.obj).getD ch0).count e.kind) }
def sendsB (k:Int):Bool:=decide (k=15∨k=16)
def Grp.own (o:Grp) (kind:Int):Int:=if sendsB kind=true then o.snd else o.rcv
def Grp.other (o:Grp) (kind:Int):Int:=if sendsB kind=true then o.rcv else o.snd
def Grp.next (o:Grp) (e:Ev):Grp :=
 if sendsB e.kind=true then { o with kinds:=o.kinds.tail,snd:=e.g } else { o with kinds:=o.kinds.tail,rcv:=e.g }
def Grp.fits (o:Grp) (e:Ev):Bool :=
 decide (e.kind=o.kinds.headD 0∧e.obj=o.obj∧e.k=o.k∧e.n=o.n) && !(decide (o.own e.kind < 0∧e.g=o.other e.kind) || decide (0≤o.own e.kind∧e.g≠o.own e.kind))
def TS.proceed (s:TS) (e:Ev):Option TS :=
 if s.grp.fits e=true then some { s.count e with grp:=s.grp.next e } else none
def TS.chan (s:TS) (e:Ev):Ch:=match s.chans e.obj with
 | some c=>c
 | none=>{ ch0 with cap:=e.n }
def TS.start (s:TS) (e:Ev) (c:Ch) (kinds:List Int) (snd rcv:Int):TS :=
 { s with chans:=upd s.chans e.obj (c.count e.kind),grp:=⟨kinds,e.obj,e.k,e.n,snd,rcv⟩ }
def Ch.missing (c:Ch) (kind:Int) (alone:Bool):Option (List Int) :=
 if kind=15 then (if c.sent - c.recv < c.cap then some [16] else if c.cap=0∧alone=false then some [17,18,16] else none)
 else (if c.recv < c.sent then some [18] else if c.closed=false∧alone=false then some [15,18,16] else none)
def TS.operate (s:TS) (e:Ev):Option TS :=
 let c:=s.chan e
 if c.cap≠e.n then none
 else if e.kind=19 then (if c.closed=true then none else some { s with chans:=upd s.chans e.obj { c with closed:=true } })
 else if e.kind=20 then (if c.closed=true∧c.sent=c.recv then some s else none)
 else if e.kind=15 then (if c.closed=true∨e.k≠c.sent then none else (c.missing 15 (decide (s.gor=1))).map fun l=>s.start e c l e.g (-1))
 else if e.kind=17 then (if e.k≠c.recv then none else (c.missing 17 (decide (s.gor=1))).map fun l=>s.start e c l (-1) e.g)
 else none
def TS.mu (s:TS) (e:Ev):Mu:=(s.mus (e.obj,e.off)).getD mu0
def TS.simple (s:TS) (e:Ev):Option TS :=
 let m:=s.mu e
 let put (m:Mu):Option TS:=some { s with mus:=upd s.mus (e.obj,e.off) m }
 if e.kind=6 then (if m.locked=true∨0 < m.readers then none else put { m with locked:=true })
 else if e.kind=7 then (if m.locked=false then none else put { m with locked:=false })
 else if e.kind=8 then (if m.locked=true then none else put { m with readers:=m.readers+1 })
 else if e.kind=9 then (if m.readers=0 then none else put { m with readers:=m.readers - 1 })
 else if e.kind=12 then (if (s.done (e.obj,e.off)).getD false=true then none else some { s with done:=upd s.done (e.obj,e.off) true })
 else if e.kind=13 then (if (s.done (e.obj,e.off)).getD false=true then some s else none)
 else if e.kind=14 then (if e.k≠s.gor then none else some { s with gor:=s.gor+1 })
 else some s
def TS.isOpen (s:TS):Bool:=decide (0 < s.grp.kinds.length)
def TS.part (s:TS) (e:Ev):Option TS :=
 if s.isOpen=true then s.proceed e else if chanB e.kind=true then s.operate e else s.simple e
def TS.admits (s:TS) (e:Ev):Bool:=e.valid && decide (s.events < 5000) && decide (e.g < s.gor)
def TS.add (s:TS) (e:Ev):Option TS :=
 if s.admits e=true then (s.part e).map fun t=>{ t with events:=t.events+1 } else none
structure TS.wf (s:TS):Prop where
 ev:0≤s.events∧s.events≤5000
 gr:1≤s.gor∧s.gor≤8
 ch:∀ x c,s.chans x=some c→(0≤c.sent∧c.sent≤s.events)∧(0≤c.recv∧c.recv≤s.events)∧(0≤c.cap∧c.cap≤64)
 mu:∀ x m,s.mus x=some m→0≤m.readers∧m.readers≤s.events
 kd:s.grp.kinds.length≤3
theorem TS.wf_new:TS.new.wf:=⟨by decide,by decide,(fun _ _ h=>by cases h),(fun _ _ h=>by cases h),by decide⟩
theorem Ev.valid_n {e:Ev} (h:e.valid=true):0≤e.n∧e.n≤2147483647:=by
 simp only [Ev.valid,rangeB,Bool.and_eq_true,decide_eq_true_eq] at h;omega
theorem Ev.valid_obj {e:Ev} (h:e.valid=true):0≤e.obj∧e.obj≤2147483647:=by
 simp only [Ev.valid,rangeB,Bool.and_eq_true,decide_eq_true_eq] at h;omega
theorem Ev.valid_off {e:Ev} (h:e.valid=true):0≤e.off∧e.off≤2147483647:=by
 simp only [Ev.valid,rangeB,Bool.and_eq_true,decide_eq_true_eq] at h;omega
theorem Ev.valid_g {e:Ev} (h:e.valid=true):0≤e.g∧e.g < 8:=by
 simp only [Ev.valid,rangeB,Bool.and_eq_true,decide_eq_true_eq] at h;omega
theorem Ev.valid_cap {e:Ev} (h:e.valid=true) (hk:chanB e.kind=true):e.n≤64:=by
 simp only [Ev.valid,Ev.rest,Bool.and_eq_true] at h;simp only [chanB,decide_eq_true_eq] at hk;have h2:=h.2;rw [if_neg (by omega)] at h2;split at h2
 ·simp at h2;omega
 ·rw [if_pos (by omega)] at h2;simp at h2;omega
theorem Ev.valid_go {e:Ev} (h:e.valid=true) (hk:e.kind=14):1≤e.k∧e.k < 8:=by
 simp only [Ev.valid,Ev.rest,Bool.and_eq_true] at h;have h2:=h.2;rw [if_pos hk] at h2;simp at h2;omega
theorem Ch.count_bd {c:Ch} {B kind:Int} (h:(0≤c.sent∧c.sent≤B)∧(0≤c.recv∧c.recv≤B)∧(0≤c.cap∧c.cap≤64)) :
 (0≤(c.count kind).sent∧(c.count kind).sent≤B+1)∧(0≤(c.count kind).recv∧(c.count kind).recv≤B+1)∧(0≤(c.count kind).cap∧(c.count kind).cap≤64):=by
 unfold Ch.count;split
 ·dsimp only;omega
 ·split
  ·dsimp only;omega
  ·omega
theorem TS.chan_bd {s:TS} (h:s.wf) {e:Ev} (hv:e.valid=true) (hk:chanB e.kind=true) :
 (0≤(s.chan e).sent∧(s.chan e).sent≤s.events)∧(0≤(s.chan e).recv∧(s.chan e).recv≤s.events)∧(0≤(s.chan e).cap∧(s.chan e).cap≤64):=by
 unfold TS.chan;have h1:=h.ev;have h2:=Ev.valid_cap hv hk;have h3:=Ev.valid_n hv
 cases hc:s.chans e.obj with
 | none=>dsimp [ch0];omega
 | some c=>exact h.ch _ _ hc
theorem TS.mu_bd {s:TS} (h:s.wf) (e:Ev):0≤(s.mu e).readers∧(s.mu e).readers≤s.events:=by
 unfold TS.mu;have h1:=h.ev
 cases hc:s.mus (e.obj,e.off) with
 | none=>dsimp [mu0];omega
 | some m=>exact h.mu _ _ hc
theorem upd_all {κ:Type} [DecidableEq κ] {α:Type} {f:κ→Option α} {x:κ} {v:α} {p:α→Prop} (hf:∀ y c,f y=some c→p c) (hv:p v):∀ y c,upd f x v y=some c→p c:=by
 intro y c h;unfold upd at h;split at h
 ·cases h;exact hv
 ·exact hf y c h
theorem TS.part_wf {s t:TS} (h:s.wf) {e:Ev} (hv:e.valid=true) (hp:s.part e=some t) :
 t.events=s.events∧(1≤t.gor∧t.gor≤8)∧(∀ x c,t.chans x=some c→(0≤c.sent∧c.sent≤s.events+1)∧(0≤c.recv∧c.recv≤s.events+1)∧(0≤c.cap∧c.cap≤64)) ∧
  (∀ x m,t.mus x=some m→0≤m.readers∧m.readers≤s.events+1)∧t.grp.kinds.length≤3:=by
 have hch:∀ x c,s.chans x=some c→(0≤c.sent∧c.sent≤s.events+1)∧(0≤c.recv∧c.recv≤s.events+1)∧(0≤c.cap∧c.cap≤64):=fun x c hc=>by
  have:=h.ch x c hc;omega
 have hmu:∀ x m,s.mus x=some m→0≤m.readers∧m.readers≤s.events+1:=fun x m hm=>by
  have:=h.mu x m hm;omega
 have hgr:=h.gr;have hkd:=h.kd;have hev:=h.ev;unfold TS.part at hp;split at hp
 ·-- proceed
  unfold TS.proceed at hp;split at hp
  ·cases hp;refine ⟨rfl,hgr,?_,hmu,?_⟩
   ·refine upd_all hch (Ch.count_bd ?_)
    cases hc:s.chans e.obj with
    | none=>dsimp [ch0];omega
    | some c=>exact h.ch _ _ hc
   ·unfold Grp.next;split <;> (simp;omega)
  ·cases hp
 ·split at hp
  ·-- operate
   rename_i hk;have hb:=TS.chan_bd h hv hk;unfold TS.operate at hp;dsimp only at hp;split at hp
   ·cases hp
   split at hp
   ·split at hp
    ·cases hp
    ·cases hp;exact ⟨rfl,hgr,upd_all hch (by dsimp only;omega),hmu,hkd⟩
   split at hp
   ·split at hp
    ·cases hp;exact ⟨rfl,hgr,hch,hmu,hkd⟩
    ·cases hp
   split at hp
   ·split at hp
    ·cases hp
    ·simp only [Option.map_eq_some_iff] at hp;obtain ⟨l,hl,rfl⟩:=hp;refine ⟨rfl,hgr,upd_all hch (Ch.count_bd hb),hmu,?_⟩;unfold Ch.missing at hl;simp only [if_pos] at hl;split at hl
     ·cases hl;simp [TS.start]
     ·split at hl
      ·cases hl;simp [TS.start]
      ·cases hl
   split at hp
   ·split at hp
    ·cases hp
    ·simp only [Option.map_eq_some_iff] at hp;obtain ⟨l,hl,rfl⟩:=hp;refine ⟨rfl,hgr,upd_all hch (Ch.count_bd hb),hmu,?_⟩;unfold Ch.missing at hl;rw [if_neg (by decide)] at hl;split at hl
     ·cases hl;simp [TS.start]
     ·split at hl
      ·cases hl;simp [TS.start]
      ·cases hl
   ·cases hp
  ·-- simple
   have hm:=TS.mu_bd h e;unfold TS.simple at hp;dsimp only at hp;split at hp
   ·split at hp
    ·cases hp
    ·cases hp;exact ⟨rfl,hgr,hch,upd_all hmu (by dsimp only;omega),hkd⟩
   split at hp
   ·split at hp
    ·cases hp
    ·cases hp;exact ⟨rfl,hgr,hch,upd_all hmu (by dsimp only;omega),hkd⟩
   split at hp
   ·split at hp
    ·cases hp
    ·cases hp;exact ⟨rfl,hgr,hch,upd_all hmu (by dsimp only;omega),hkd⟩
   split at hp
   ·split at hp
    ·cases hp
    ·cases hp;exact ⟨rfl,hgr,hch,upd_all hmu (by dsimp only;omega),hkd⟩
   split at hp
   ·split at hp
    ·cases hp
    ·cases hp;exact ⟨rfl,hgr,hch,hmu,hkd⟩
   split at hp
   ·split at hp
    ·cases hp;exact ⟨rfl,hgr,hch,hmu,hkd⟩
    ·cases hp
   split at hp
   ·rename_i hgo;have:=Ev.valid_go hv hgo;split at hp
    ·cases hp
    ·cases hp;exact ⟨rfl,by dsimp only;omega,hch,hmu,hkd⟩
   ·cases hp;exact ⟨rfl,hgr,hch,hmu,hkd⟩
theorem TS.add_wf {s t:TS} (h:s.wf) {e:Ev} (ha:s.add e=some t):t.wf:=by
 unfold TS.add at ha;split at ha
 ·rename_i had;simp only [TS.admits,Bool.and_eq_true,decide_eq_true_eq] at had;simp only [Option.map_eq_some_iff] at ha;obtain ⟨u,hu,rfl⟩:=ha;obtain ⟨h1,h2,h3,h4,h5⟩:=TS.part_wf h had.1.1 hu;have hev:=h.ev;exact ⟨by dsimp only;omega,h2,fun x c hc=>by have:=h3 x c hc;dsimp only;omega,fun x m hm=>by have:=h4 x m hm;dsimp only;omega,h5⟩
 ·cases ha
section
variable {s:TS} {g kind obj off k en fn pc stack cap sent recv:Int} {closed:Bool}
 (hc:s.chan ⟨g,kind,obj,off,k,en,fn,pc,stack⟩=⟨cap,sent,recv,closed⟩)
include hc
theorem TS.op_eq:s.operate ⟨g,kind,obj,off,k,en,fn,pc,stack⟩ =
 if cap≠en then none
 else if kind=19 then (if closed=true then none else some { s with chans:=upd s.chans obj ⟨cap,sent,recv,true⟩ })
 else if kind=20 then (if closed=true∧sent=recv then some s else none)
 else if kind=15 then (if closed=true∨k≠sent then none else ((⟨cap,sent,recv,closed⟩:Ch).missing 15 (decide (s.gor=1))).map fun l=>s.start ⟨g,kind,obj,off,k,en,fn,pc,stack⟩ ⟨cap,sent,recv,closed⟩ l g (-1))
 else if kind=17 then (if k≠recv then none else ((⟨cap,sent,recv,closed⟩:Ch).missing 17 (decide (s.gor=1))).map fun l=>s.start ⟨g,kind,obj,off,k,en,fn,pc,stack⟩ ⟨cap,sent,recv,closed⟩ l (-1) g)
 else none:=by
 unfold TS.operate;rw [hc]
theorem TS.op_nA (h1:(cap != en)=true):s.operate ⟨g,kind,obj,off,k,en,fn,pc,stack⟩=none:=by
 rw [TS.op_eq hc];simp_all
theorem TS.op_nB (h1:(kind == 19)=true) (h2:closed=true):s.operate ⟨g,kind,obj,off,k,en,fn,pc,stack⟩=none:=by
 rw [TS.op_eq hc];simp_all
theorem TS.op_n20 (h1:(kind == 20)=true) (h2:¬closed=true):s.operate ⟨g,kind,obj,off,k,en,fn,pc,stack⟩=none:=by
 rw [TS.op_eq hc];simp_all
theorem TS.op_nD (h1:(kind == 15)=true) (h2:closed=true):s.operate ⟨g,kind,obj,off,k,en,fn,pc,stack⟩=none:=by
 rw [TS.op_eq hc];simp_all
theorem TS.op_nE (h1:(kind == 15)=true) (h2:(k != sent)=true):s.operate ⟨g,kind,obj,off,k,en,fn,pc,stack⟩=none:=by
 rw [TS.op_eq hc];simp_all
theorem TS.op_nF (h1:(kind == 15)=true) (h2:cap≤sent - recv) (h3:(!s.gor == 1)=false):s.operate ⟨g,kind,obj,off,k,en,fn,pc,stack⟩=none:=by
 rw [TS.op_eq hc];simp_all [Ch.missing];intros;omega
theorem TS.op_nG (h1:(kind == 15)=true) (h2:cap≤sent - recv) (h3:¬cap=0):s.operate ⟨g,kind,obj,off,k,en,fn,pc,stack⟩=none:=by
 rw [TS.op_eq hc];simp_all [Ch.missing];intros;omega
theorem TS.op_nH (h1:(kind == 17)=true) (h2:(k != recv)=true):s.operate ⟨g,kind,obj,off,k,en,fn,pc,stack⟩=none:=by
 rw [TS.op_eq hc];simp_all
theorem TS.op_nI (h1:(kind == 17)=true) (h2:sent≤recv) (h3:closed=true):s.operate ⟨g,kind,obj,off,k,en,fn,pc,stack⟩=none:=by
 have h4:¬ recv < sent:=by omega
 rw [TS.op_eq hc];simp_all [Ch.missing]
theorem TS.op_nJ (h1:(kind == 17)=true) (h2:sent≤recv) (h3:(!s.gor == 1)=false):s.operate ⟨g,kind,obj,off,k,en,fn,pc,stack⟩=none:=by
 have h4:¬ recv < sent:=by omega
 rw [TS.op_eq hc];simp_all [Ch.missing]
theorem TS.op_nK (h1:(kind == 19)=false) (h2:(kind == 20)=false) (h3:(kind == 15)=false) (h4:(kind == 17)=false):s.operate ⟨g,kind,obj,off,k,en,fn,pc,stack⟩=none:=by
 rw [TS.op_eq hc];simp_all
theorem TS.op_s19 (h0:(cap != en)=false) (h1:(kind == 19)=true) (h2:closed=false):s.operate ⟨g,kind,obj,off,k,en,fn,pc,stack⟩=some { s with chans:=upd s.chans obj ⟨cap,sent,recv,true⟩ }:=by
 rw [TS.op_eq hc];simp_all
theorem TS.op_s20 (h0:(cap != en)=false) (h1:(kind == 20)=true) (h2:closed=true):s.operate ⟨g,kind,obj,off,k,en,fn,pc,stack⟩=if sent=recv then some s else none:=by
 rw [TS.op_eq hc];simp_all
theorem TS.op_s15a (h0:(cap != en)=false) (h1:(kind == 15)=true) (h2:¬closed=true) (h3:(k != sent)=false) (h4:sent - recv < cap):s.operate ⟨g,kind,obj,off,k,en,fn,pc,stack⟩=some (s.start ⟨g,kind,obj,off,k,en,fn,pc,stack⟩ ⟨cap,sent,recv,closed⟩ [16] g (-1)):=by
 rw [TS.op_eq hc];simp_all [Ch.missing]
theorem TS.op_s15b (h0:(cap != en)=false) (h1:(kind == 15)=true) (h2:¬closed=true) (h3:(k != sent)=false) (h4:cap≤sent - recv) (h5:cap=0) (h6:(!s.gor == 1)=true):s.operate ⟨g,kind,obj,off,k,en,fn,pc,stack⟩=some (s.start ⟨g,kind,obj,off,k,en,fn,pc,stack⟩ ⟨cap,sent,recv,closed⟩ [17,18,16] g (-1)):=by
 have hm:(⟨cap,sent,recv,closed⟩:Ch).missing 15 (decide (s.gor=1))=some [17,18,16]:=by
  unfold Ch.missing;rw [if_pos rfl];dsimp only;rw [if_neg (by omega),if_pos ⟨h5,by simpa using h6⟩]
 rw [TS.op_eq hc,hm];simp_all
theorem TS.op_s17a (h0:(cap != en)=false) (h1:(kind == 17)=true) (h3:(k != recv)=false) (h4:recv < sent):s.operate ⟨g,kind,obj,off,k,en,fn,pc,stack⟩=some (s.start ⟨g,kind,obj,off,k,en,fn,pc,stack⟩ ⟨cap,sent,recv,closed⟩ [18] (-1) g):=by
 rw [TS.op_eq hc];simp_all [Ch.missing]
theorem TS.op_s17b (h0:(cap != en)=false) (h1:(kind == 17)=true) (h2:¬closed=true) (h3:(k != recv)=false) (h4:sent≤recv) (h6:(!s.gor == 1)=true):s.operate ⟨g,kind,obj,off,k,en,fn,pc,stack⟩=some (s.start ⟨g,kind,obj,off,k,en,fn,pc,stack⟩ ⟨cap,sent,recv,closed⟩ [15,18,16] (-1) g):=by
 have hm:(⟨cap,sent,recv,closed⟩:Ch).missing 17 (decide (s.gor=1))=some [15,18,16]:=by
  unfold Ch.missing;rw [if_neg (by decide)];dsimp only;rw [if_neg (by omega),if_pos ⟨by simpa using h2,by simpa using h6⟩]
 rw [TS.op_eq hc,hm];simp_all
end
end Go.Proofs.Ytffcpijeebagfaa
end
section
namespace Go.Proofs.Ytffcpijeebagfaa
open Go.RowKit Go.Maps
structure But (L:List Nat) (w w':World):Prop where
 os:w'.os=w.os
 tape:w'.tape=w.tape
 output:w'.output=w.output
 size:w.heap.size≤w'.heap.size
 block:∀ k,k < w.heap.size→k ∉ L→w'.heap[k]? = w.heap[k]?
theorem But.refl (L:List Nat) (w:World):But L w w:=⟨rfl,rfl,rfl,Nat.le_refl _,fun _ _ _=>rfl⟩
theorem But.trans {L:List Nat} {a b c:World} (h:But L a b) (k:But L b c):But L a c :=
 ⟨k.os.trans h.os,k.tape.trans h.tape,k.output.trans h.output,Nat.le_trans h.size k.size,fun i hi hn=>(k.block i (Nat.lt_of_lt_of_le hi h.size) hn).trans (h.block i hi hn)⟩
theorem But.mono {L L':List Nat} {a b:World} (h:But L a b) (hs:∀ x ∈ L,x ∈ L'∨a.heap.size≤x):But L' a b :=
 ⟨h.os,h.tape,h.output,h.size,fun i hi hn=>h.block i hi (fun hm=>by rcases hs i hm with h1 | h1;exact hn h1;omega)⟩
theorem But.drewN {L:List Nat} {a b:World} (h:But L a b) (n:Nat):But L a (b.drewN n):=⟨h.os,h.tape,h.output,h.size,h.block⟩
theorem But.drew {L:List Nat} {a b:World} (h:But L a b):But L a b.drew:=⟨h.os,h.tape,h.output,h.size,h.block⟩
theorem But.alloc {L:List Nat} {a b:World} (h:But L a b) (o:Obj):But L a (b.alloc o) :=
 h.trans ⟨rfl,rfl,rfl,by simp,fun k hk _=>Below.heap_alloc _ _ _ hk⟩
theorem But.setCell {L:List Nat} {a b:World} (h:But L a b) {p:Addr} (hp:p.block ∈ L∨a.heap.size≤p.block) (u:Value):But L a (b.setCell p u) :=
 ⟨h.os,h.tape,h.output,by simpa [World.setCell] using h.size,fun k hk hn=>(Below.heap_setCell _ _ _ _ (by rintro rfl;rcases hp with h1 | h1;exact hn h1;omega)).trans (h.block k hk hn)⟩
theorem But.below {L:List Nat} {a b c:World} (h:But L a b) (hb:Below b.heap.size b c):But L a c :=
 h.trans ⟨hb.os,hb.tape,hb.output,hb.size,fun k hk _=>hb.block k hk⟩
theorem But.grown {L:List Nat} {a b c:World} (h:But L a b) {g:Nat} (hg:b.grownBy c (some g)) (hL:g ∈ L∨a.heap.size≤g):But L a c :=
 ⟨hg.os.trans h.os,hg.tape.trans h.tape,hg.output.trans h.output,Nat.le_trans h.size hg.size,fun k hk hn =>
  (hg.block k (Nat.lt_of_lt_of_le hk h.size) (by rintro he;cases he;rcases hL with h1 | h1;exact hn h1;omega)).trans (h.block k hk hn)⟩
theorem But.cell {L:List Nat} {w w':World} (h:But L w w') {p:Addr} (hp:p.block < w.heap.size) (hL:p.block ∉ L):w'.cell? p=w.cell? p:=World.cell?_of_block (w:=w) (h.block p.block hp hL)
theorem But.frozen {L:List Nat} {w w':World} (h:But L w w') {p:Addr} (hp:p.block < w.heap.size) (hL:p.block ∉ L):w'.frozen? p=w.frozen? p:=World.frozen?_of_block (w:=w) (h.block p.block hp hL)
def heldE (v:Value):Option (DataW Value×List MemPlace):=some (.held v,[])
structure KeyT (P:Program) (k:TypeId) {κ:Type} (kv:κ→Value) (ok:κ→Prop):Prop where
 keyed:Keyed P k
 reads:∀ x,ok x→∃ l,keyOf P k (kv x)=some l
 inj:∀ x y,kv x=kv y→x=y
def MapOf {κ:Type} (kv:κ→Value) (w:World) (P:Program) (k:TypeId) (b n:Nat) (f:κ→Option Value):Prop :=
 ∃ D,w.ownsMap P k heldE b n D∧∀ x l,keyOf P k (kv x)=some l→D.atKey l .nil=(match f x with | some v=>.held v | none=>.nil)
section
variable {κ:Type} [DecidableEq κ] {kv:κ→Value} {ok:κ→Prop}
variable {P:Program} {k e t:TypeId} {w w':World} {b n:Nat} {f:κ→Option Value}
omit [DecidableEq κ] in
theorem MapOf.made (w:World) (P:Program) (k:TypeId):MapOf kv (w.alloc (.map #[] 0)) P k w.heap.size 0 (fun _=>none) :=
 ⟨_,World.ownsMap_made w P k heldE,fun _ _ _=>rfl⟩
omit [DecidableEq κ] in
theorem MapOf.lt (h:MapOf kv w P k b n f):b < w.heap.size:=let ⟨_,h,_⟩:=h;h.lt
omit [DecidableEq κ] in
theorem MapOf.keep (h:MapOf kv w P k b n f) (hb:w'.heap[b]? = w.heap[b]?):MapOf kv w' P k b n f :=
 let ⟨D,⟨es,cl,h1,h2⟩,h3⟩:=h
 ⟨D,⟨es,cl,hb.trans h1,h2⟩,h3⟩
omit [DecidableEq κ] in
theorem MapOf.but {L:List Nat} (h:MapOf kv w P k b n f) (hb:But L w w') (hL:b ∉ L):MapOf kv w' P k b n f:=h.keep (hb.block b h.lt hL)
omit [DecidableEq κ] in
theorem MapOf.mono (h:MapOf kv w P k b n f) {n':Nat} (hn:n≤n'):MapOf kv w P k b n' f :=
 let ⟨D,h1,h3⟩:=h
 ⟨D,h1.mono hn,h3⟩
omit [DecidableEq κ] in
theorem MapOf.drewN (h:MapOf kv w P k b n f) (m:Nat):MapOf kv (w.drewN m) P k b n f:=h
omit [DecidableEq κ] in
theorem MapOf.alloc (h:MapOf kv w P k b n f) (o:Obj):MapOf kv (w.alloc o) P k b n f:=h.keep (Below.heap_alloc _ _ _ h.lt)
omit [DecidableEq κ] in
theorem MapOf.setCell (h:MapOf kv w P k b n f) {p:Addr} (hp:b≠p.block) (u:Value):MapOf kv (w.setCell p u) P k b n f:=h.keep (Below.heap_setCell _ _ _ _ hp)
omit [DecidableEq κ] in
theorem MapOf.congr (h:MapOf kv w P k b n f) {g:κ→Option Value} (hg:∀ x,f x=g x):MapOf kv w P k b n g:=by
 have:f=g:=funext hg
 rwa [this] at h
omit [DecidableEq κ] in
theorem MapOf.look (h:MapOf kv w P k b n f) (K:KeyT P k kv ok) (ht:P.underlying t=some (.map k e)) {z:Value} (hz:∀ w,(zeroValue e).run P w=.ok z w) (x:κ) (hx:ok x) :
 (Instr.lookup t (.map (some b)) (kv x) false).run P w=.ok ((f x).getD z) w:=by
 obtain ⟨D,⟨es,clock,hb,F,_,rfl⟩,hf⟩:=h;obtain ⟨kl,hkey⟩:=K.reads x hx;have h3:=hf x kl hkey
 rcases Maps.fit_look false K.keyed ht (hz w) hb F hkey with ⟨hrun,_,hat⟩ | ⟨e0,y,_,_,hrun,hRv,hat,_⟩
 ·rw [hat] at h3
  cases hfk:f x with
  | none=>simpa using hrun
  | some v=>rw [hfk] at h3;cases h3
 ·rw [hat] at h3;simp only [heldE,Option.some.injEq] at hRv;subst hRv
  cases hfk:f x with
  | none=>rw [hfk] at h3;cases h3
  | some v=>rw [hfk] at h3;simp only [DataW.held.injEq] at h3;subst h3;simpa using hrun
omit [DecidableEq κ] in
theorem MapOf.look_ok (h:MapOf kv w P k b n f) (K:KeyT P k kv ok) (ht:P.underlying t=some (.map k e)) {z:Value} (hz:∀ w,(zeroValue e).run P w=.ok z w) (x:κ) (hx:ok x) :
 (Instr.lookup t (.map (some b)) (kv x) true).run P w=.ok (.tuple #[(f x).getD z,.bool (f x).isSome]) w:=by
 obtain ⟨D,⟨es,clock,hb,F,_,rfl⟩,hf⟩:=h;obtain ⟨kl,hkey⟩:=K.reads x hx;have h3:=hf x kl hkey
 rcases Maps.fit_look true K.keyed ht (hz w) hb F hkey with ⟨hrun,_,hat⟩ | ⟨e0,y,_,_,hrun,hRv,hat,_⟩
 ·rw [hat] at h3
  cases hfk:f x with
  | none=>simpa using hrun
  | some v=>rw [hfk] at h3;cases h3
 ·rw [hat] at h3;simp only [heldE,Option.some.injEq] at hRv;subst hRv
  cases hfk:f x with
  | none=>rw [hfk] at h3;cases h3
  | some v=>rw [hfk] at h3;simp only [DataW.held.injEq] at h3;subst h3;simpa using hrun
theorem MapOf.put (h:MapOf kv w P k b n f) (K:KeyT P k kv ok) (ht:P.underlying t=some (.map k e)) (hn:n < maxLen) (x:κ) (hx:ok x) (v:Value) :
 ∃ w',(Instr.mapUpdate t (.map (some b)) (kv x) v).run P w=.ok () w'∧MapOf kv w' P k b (n+1) (upd f x v)∧w.grownBy w' (some b):=by
 obtain ⟨D,hown,hf⟩:=h;obtain ⟨kl,hkey⟩:=K.reads x hx;obtain ⟨w',hrun,h1,h2⟩:=hown.update K.keyed ht hn hkey (val:=v) (d:=.held v) (ps:=[]) rfl;refine ⟨w',hrun,⟨_,h1,fun y l hy=>?_⟩,h2⟩;unfold upd
 by_cases hyx:y=x
 ·subst hyx;rw [hkey] at hy;cases hy;rw [if_pos rfl,atKey_put_same hown.isMap (K.keyed.key hkey)]
 ·rw [if_neg hyx]
  have hne:l≠kl:=by
   rintro rfl;exact hyx (K.inj _ _ (K.keyed.inj hy hkey))
  rw [atKey_put_other hne];exact hf y l hy
theorem KeyT.int {P:Program} {k:TypeId} (hk:P.underlying k=some (.int .i64)):KeyT P k (fun x:Int=>Value.int .i64 x) (fun x=>(Lit.int .i64 x).wf=true) :=
 ⟨int_keyed hk,fun x hx=>⟨_,keyOf_int_mk hk hx⟩,fun x y h=>by injection h⟩
def locV (x:Int×Int):Value:=.agg #[.int .i64 x.1,.int .i64 x.2]
theorem keyLits_int {P:Program} {t:TypeId} (ht:P.underlying t=some (.int .i64)) (d:Nat) {a:Int} (h:(Lit.int .i64 a).wf=true):P.keyLits (d+1) t [.int .i64 a]=some [.int .i64 a]:=by
 simp [Program.keyLits,ht,h]
theorem keyOf_loc {P:Program} {k t:TypeId} {f0 f1:Field} (hk:P.underlying k=some (.struct #[f0,f1])) (ht:P.underlying t=some (.int .i64)) (h0:f0.type=t) (h1:f1.type=t) (o0:f0.offset=0) (o1:f1.offset=1)
 (hn : ((#[f0, f1] : Array Field).all (·.name != "_")) = true) (hc : P.cellsOf k = 2) (hct : P.cellsOf t = 1) (hkt : P.keyType k = true) (hz : 0 < P.types.size) {a b : Int} (ha : (Lit.int .i64 a).wf = true) (hb : (Lit.int .i64 b).wf = true) :
 keyOf P k (locV (a,b))=some (.string (keyBytes [.int .i64 a,.int .i64 b])):=by
 obtain ⟨d,hd⟩:∃ d,P.types.size=d+1:=⟨P.types.size - 1,by omega⟩
 have e1:P.keyLits (d+1+1) k [.int .i64 a,.int .i64 b]=some [.int .i64 a,.int .i64 b]:=by
  unfold Program.keyLits;rw [hk];dsimp only;rw [if_pos ⟨by simp [hc],hn⟩];simp [h0,h1,o0,o1,hct,keyLits_int ht d ha,keyLits_int ht d hb]
 unfold keyOf locV;rw [hk];dsimp only;rw [if_pos (by simp [hkt,Value.formed,hk,hc]),hd];simp only [Value.cells];rw [e1];rfl
theorem KeyT.loc {P:Program} {k t:TypeId} {f0 f1:Field} (K:Keyed P k) (hk:P.underlying k=some (.struct #[f0,f1])) (ht:P.underlying t=some (.int .i64)) (h0:f0.type=t) (h1:f1.type=t) (o0:f0.offset=0) (o1:f1.offset=1)
 (hn : ((#[f0, f1] : Array Field).all (·.name != "_")) = true) (hc : P.cellsOf k = 2) (hct : P.cellsOf t = 1) (hkt : P.keyType k = true) (hz : 0 < P.types.size) :
 KeyT P k locV (fun x=>(Lit.int .i64 x.1).wf=true∧(Lit.int .i64 x.2).wf=true) :=
 ⟨K,fun x hx=>⟨_,keyOf_loc hk ht h0 h1 o0 o1 hn hc hct hkt hz hx.1 hx.2⟩,fun x y h=>by
  obtain ⟨a,b⟩:=x;obtain ⟨c,d⟩:=y;simp [locV] at h;simp [h]⟩
theorem wf_i64 {x:Int} (h:I64 x):(Lit.int .i64 x).wf=true:=by
 simp [Lit.wf,IntKind.min,IntKind.max,IntKind.signed,IntKind.bits];exact ⟨h.1,by have:=h.2;omega⟩
end
end Go.Proofs.Ytffcpijeebagfaa
end
section
namespace Go.Proofs.Ytffcpijeebagfaa
open Go.RowKit
theorem ret_bool {a b:Bool} (h:a=b):Ending.returned (.bool a)=.returned (.bool b):=by rw [h]
theorem numbered_any (k:Int) (w:World):Calls Try.prog 92 #[.int .i64 k] w fun e w'=>e=.returned (.bool (numberedB k))∧w=w':=by
 go_enter Try.func92,Try.ntmps92
 go_wp2
 all_goals (go_ret;refine ⟨ret_bool ?_,rfl⟩;simp [numberedB];omega)
theorem isKind_any (k:Int) (w:World):Calls Try.prog 91 #[.int .i64 k] w fun e w'=>e=.returned (.bool (isKindB k))∧w=w':=by
 go_enter Try.func91,Try.ntmps91
 go_wp2
 all_goals (go_ret;refine ⟨ret_bool ?_,rfl⟩;simp [isKindB];omega)
theorem channel_any (k:Int) (w:World):Calls Try.prog 61 #[.int .i64 k] w fun e w'=>e=.returned (.bool (chanB k))∧w=w':=by
 go_enter Try.func61,Try.ntmps61
 go_wp2_with ((go_at_call 92;refine (numbered_any _ _).mono ?_;rintro e w' ⟨rfl,rfl⟩))
 all_goals (go_ret;refine ⟨ret_bool ?_,rfl⟩;unfold numberedB at *;unfold chanB;simp only [decide_eq_true_eq] at *;rw [Bool.eq_iff_iff];simp;omega)
theorem idx7 (x0 x1 x2 x3 x4 x5 x6:Value) :
 (∀ w,(Instr.index 136 (.agg #[x0,x1,x2,x3,x4,x5,x6]) (.int .i64 0)).run Try.prog w=.ok x0 w)∧(∀ w,(Instr.index 136 (.agg #[x0,x1,x2,x3,x4,x5,x6]) (.int .i64 1)).run Try.prog w=.ok x1 w) ∧
 (∀ w,(Instr.index 136 (.agg #[x0,x1,x2,x3,x4,x5,x6]) (.int .i64 2)).run Try.prog w=.ok x2 w)∧(∀ w,(Instr.index 136 (.agg #[x0,x1,x2,x3,x4,x5,x6]) (.int .i64 3)).run Try.prog w=.ok x3 w) ∧
 (∀ w,(Instr.index 136 (.agg #[x0,x1,x2,x3,x4,x5,x6]) (.int .i64 4)).run Try.prog w=.ok x4 w)∧(∀ w,(Instr.index 136 (.agg #[x0,x1,x2,x3,x4,x5,x6]) (.int .i64 5)).run Try.prog w=.ok x5 w) ∧
 (∀ w,(Instr.index 136 (.agg #[x0,x1,x2,x3,x4,x5,x6]) (.int .i64 6)).run Try.prog w=.ok x6 w) :=
 ⟨fun _=>by kernel_rfl,fun _=>by kernel_rfl,fun _=>by kernel_rfl,fun _=>by kernel_rfl,fun _=>by kernel_rfl,fun _=>by kernel_rfl,fun _=>by kernel_rfl⟩
set_option maxHeartbeats 4000000 in
set_option maxRecDepth 100000 in
theorem evalid_any (e:Ev) (w:World):Calls Try.prog 59 #[e.val] w fun r w'=>r=.returned (.bool e.valid)∧Below w.heap.size w w':=by
 obtain ⟨g,kind,obj,off,k,n,fn,pc,stack⟩:=e;unfold Ev.val;obtain ⟨i0,i1,i2,i3,i4,i5,i6⟩:=idx7 (.int .i64 obj) (.int .i64 off) (.int .i64 k) (.int .i64 n) (.int .i64 fn) (.int .i64 pc) (.int .i64 stack)
 go_enter Try.func59,Try.ntmps59
 go_wp2_with (first | (go_at_call 91;refine (isKind_any _ _).mono ?_;rintro e w' ⟨rfl,rfl⟩))
 all_goals try (refine wp_loop_rounds 8 ?_)
 all_goals try (repeat any_goals (rw [rounds_succ];go_wp2_with (first | (go_at_call 92;refine (numbered_any _ _).mono ?_;rintro e w' ⟨rfl,rfl⟩) | (go_at_call 61;refine (channel_any _ _).mono ?_;rintro e w' ⟨rfl,rfl⟩))))
 all_goals (go_ret;refine ⟨ret_bool ?_,(Below.refl _ _).alloc (Nat.le_refl _) _⟩)
 all_goals (simp only [isKindB,chanB,numberedB,decide_eq_true_eq,beq_iff_eq,beq_eq_false_iff_ne,ne_eq,decide_eq_false_iff_not] at *)
 all_goals (unfold Ev.valid Ev.rest;rw [Bool.eq_iff_iff];simp only [isKindB,rangeB,Bool.and_eq_true,decide_eq_true_eq,Bool.ite_eq_true_distrib,Bool.false_eq_true,false_iff,true_iff,beq_iff_eq,Bool.or_eq_true])
 all_goals clear i0 i1 i2 i3 i4 i5 i6
 all_goals go_light
 all_goals first | omega | (split <;> omega) | (split <;> first | omega | (split <;> omega)) | (split <;> first | omega | (split <;> first | omega | (split <;> omega)))
section
def Ch.val (c:Ch):Value:=.agg #[.int .i64 c.cap,.int .i64 c.sent,.int .i64 c.recv,.bool c.closed]
def Mu.val (m:Mu):Value:=.agg #[.bool m.locked,.int .i64 m.readers]
def iK (x:Int):Value:=.int .i64 x
def chanMap (f:Int→Option Ch) (x:Int):Option Value:=(f x).map Ch.val
def muMap (f:Int×Int→Option Mu) (x:Int×Int):Option Value:=(f x).map Mu.val
def doneMap (f:Int×Int→Option Bool) (x:Int×Int):Option Value:=(f x).map Value.bool
theorem chanMap_upd (f:Int→Option Ch) (x:Int) (c:Ch):upd (chanMap f) x c.val=chanMap (upd f x c):=by
 funext y;unfold upd chanMap;by_cases h:y=x <;> simp [h]
theorem muMap_upd (f:Int×Int→Option Mu) (x:Int×Int) (c:Mu):upd (muMap f) x c.val=muMap (upd f x c):=by
 funext y;unfold upd muMap;by_cases h:y=x <;> simp [h]
theorem doneMap_upd (f:Int×Int→Option Bool) (x:Int×Int) (c:Bool):upd (doneMap f) x (.bool c)=doneMap (upd f x c):=by
 funext y;unfold upd doneMap;by_cases h:y=x <;> simp [h]
theorem zeroCh (w:World):(zeroValue 95).run Try.prog w=.ok ch0.val w:=by kernel_rfl
theorem zeroMu (w:World):(zeroValue 100).run Try.prog w=.ok mu0.val w:=by kernel_rfl
theorem zeroB (w:World):(zeroValue 4).run Try.prog w=.ok (.bool false) w:=by kernel_rfl
theorem keyI:KeyT Try.prog 3 iK (fun x=>(Lit.int .i64 x).wf=true):=KeyT.int Try.underlying3
theorem laidOut:laidOutB Try.prog=true:=by kernel_rfl
theorem keyedL:Maps.Keyed Try.prog 98:=Maps.Keyed.of_law (deep_law_gate laidOut (of_decide_eq_true (by kernel_rfl)) (of_decide_eq_true (by kernel_rfl)) (by kernel_rfl) (by kernel_rfl))
theorem keyL:KeyT Try.prog 98 locV (fun x=>(Lit.int .i64 x.1).wf=true∧(Lit.int .i64 x.2).wf=true) :=
 KeyT.loc keyedL Try.underlying98 Try.underlying3 rfl rfl rfl rfl (by kernel_rfl) (by kernel_rfl) (by kernel_rfl) (by kernel_rfl) (of_decide_eq_true (by kernel_rfl))
class KB where
 p:Nat→Prop
variable [KB]
def KindsAt (w:World) (v:Value) (xs:List Int) (sb:Nat):Prop :=
 ∃ A c,v=.slice A xs.length c∧xs.length≤c∧(0 < xs.length→∃ b o,A=some ⟨b,o,none⟩∧(b≠sb∧KB.p b)∧∀ i x,xs[i]? = some x→w.cell? ⟨b,o+i,none⟩=some (.int .i64 x))
def TCells (s:TS) (bc bm bd:Nat) (kv:Value):Array Value :=
 #[.int .i64 s.events,.int .i64 s.gor,.map (some bc),.map (some bm),.map (some bd),kv,.int .i64 s.grp.obj,.int .i64 s.grp.k,.int .i64 s.grp.n,.int .i64 s.grp.snd,.int .i64 s.grp.rcv]
structure TRep (w:World) (sb bc bm bd N:Nat) (s:TS) (kv:Value):Prop where
 row:w.heap[sb]? = some (.cells (TCells s bc bm bd kv) 92 (0,0))
 kinds:KindsAt w kv s.grp.kinds sb
 chans:MapOf iK w Try.prog 3 bc N (chanMap s.chans)
 mus:MapOf locV w Try.prog 98 bm N (muMap s.mus)
 done:MapOf locV w Try.prog 98 bd N (doneMap s.done)
 ncm:bc≠bm
 ncd:bc≠bd
 nmd:bm≠bd
omit [KB] in
theorem MapOf.ne_cells {κ:Type} {kv:κ→Value} {w:World} {P:Program} {k b n:Nat} {f:κ→Option Value} (h:MapOf kv w P k b n f) {g:Nat} {cs:Array Value} {t:TypeId} {fr:Nat×Nat} (hg:w.heap[g]? = some (.cells cs t fr)):b≠g:=by
 rintro rfl;obtain ⟨_,⟨es,cl,h1,_⟩,_⟩:=h;rw [hg] at h1;cases h1
theorem KindsAt.keep {w w':World} {v:Value} {xs:List Int} {sb:Nat} (h:KindsAt w v xs sb) {L:List Nat} (hb:But L w w') (hL:∀ b cs t fr,w.heap[b]? = some (.cells cs t fr)→b≠sb→b ∉ L):KindsAt w' v xs sb:=by
 obtain ⟨A,c,h1,h2,h3⟩:=h;refine ⟨A,c,h1,h2,fun hn=>?_⟩;obtain ⟨b,o,hA,hne,hc⟩:=h3 hn;refine ⟨b,o,hA,hne,fun i x hx=>?_⟩;have h4:=hc i x hx;have hlt:=block_lt_of_cell h4
 have hblk:∃ cs t fr,w.heap[b]? = some (.cells cs t fr):=by
  unfold World.cell? at h4;dsimp only at h4;split at h4
  ·rename_i cs t fr hh;exact ⟨cs,t,fr,hh⟩
  ·cases h4
 obtain ⟨cs,t,fr,hh⟩:=hblk;exact (World.cell?_of_block (w:=w) (a:=⟨b,o+i,none⟩) (hb.block b hlt (hL b cs t fr hh hne.1))).trans h4
section
variable {w w':World} {sb bc bm bd N:Nat} {s:TS} {kv:Value}
theorem TRep.cell (h:TRep w sb bc bm bd N s kv) (j:Nat):w.cell? ⟨sb,j,none⟩=(TCells s bc bm bd kv)[j]?:=cell_of_row w sb j _ _ _ h.row
theorem TRep.frozen (h:TRep w sb bc bm bd N s kv) (j:Nat):w.frozen? ⟨sb,j,none⟩=false:=frozen_of_row w sb j _ _ h.row
theorem TRep.lt (h:TRep w sb bc bm bd N s kv):sb < w.heap.size:=by
 rcases Nat.lt_or_ge sb w.heap.size with hlt | hge
 ·exact hlt
 ·have:=h.row;rw [Array.getElem?_eq_none hge] at this;cases this
theorem TRep.but (h:TRep w sb bc bm bd N s kv) {L:List Nat} (hb:But L w w') (h0:sb ∉ L) (h1:bc ∉ L) (h2:bm ∉ L) (h3:bd ∉ L) (hL:∀ b cs t fr,w.heap[b]? = some (.cells cs t fr)→b≠sb→b ∉ L):TRep w' sb bc bm bd N s kv :=
 ⟨(hb.block sb h.lt h0).trans h.row,h.kinds.keep hb hL,h.chans.but hb h1,h.mus.but hb h2,h.done.but hb h3,h.ncm,h.ncd,h.nmd⟩
theorem TRep.below (h:TRep w sb bc bm bd N s kv) (hb:Below w.heap.size w w'):TRep w' sb bc bm bd N s kv :=
 h.but (L:=[]) ⟨hb.os,hb.tape,hb.output,hb.size,fun k hk _=>hb.block k hk⟩ (by simp) (by simp) (by simp) (by simp) (fun _ _ _ _ _ _=>by simp)
theorem TRep.mono (h:TRep w sb bc bm bd N s kv) {N':Nat} (hn:N≤N'):TRep w sb bc bm bd N' s kv :=
 ⟨h.row,h.kinds,h.chans.mono hn,h.mus.mono hn,h.done.mono hn,h.ncm,h.ncd,h.nmd⟩
omit [KB] in
theorem KindsAt.kb {K1 K2:KB} {w:World} {v:Value} {xs:List Int} {sb:Nat} (h:@KindsAt K1 w v xs sb) (hk:∀ b,K1.p b→K2.p b):@KindsAt K2 w v xs sb:=by
 obtain ⟨A,c,h1,h2,h3⟩:=h;refine ⟨A,c,h1,h2,fun hn=>?_⟩;obtain ⟨b,o,hA,hne,hc⟩:=h3 hn;exact ⟨b,o,hA,⟨hne.1,hk b hne.2⟩,hc⟩
theorem TRep.new_chans (h:TRep w sb bc bm bd N s kv) (hb:But [bc] w w') {N':Nat} {f:Int→Option Ch} {M:Nat} (hm:MapOf iK w' Try.prog 3 bc M (chanMap f)) (hM:M≤N') (hN:N≤N'):TRep w' sb bc bm bd N' { s with chans:=f } kv :=
 ⟨(hb.block sb h.lt (by simpa using Ne.symm (h.chans.ne_cells h.row))).trans h.row,h.kinds.keep hb (fun b cs t fr hc _ hm=>by
  simp only [List.mem_singleton] at hm;subst hm;exact absurd rfl (h.chans.ne_cells hc)),hm.mono hM,(h.mus.but hb (by simpa using Ne.symm h.ncm)).mono hN,(h.done.but hb (by simpa using Ne.symm h.ncd)).mono hN,h.ncm,h.ncd,h.nmd⟩
theorem TRep.new_mus (h:TRep w sb bc bm bd N s kv) (hb:But [bm] w w') {N':Nat} {f:Int×Int→Option Mu} {M:Nat} (hm:MapOf locV w' Try.prog 98 bm M (muMap f)) (hM:M≤N') (hN:N≤N'):TRep w' sb bc bm bd N' { s with mus:=f } kv :=
 ⟨(hb.block sb h.lt (by simpa using Ne.symm (h.mus.ne_cells h.row))).trans h.row,h.kinds.keep hb (fun b cs t fr hc _ hm=>by
  simp only [List.mem_singleton] at hm;subst hm;exact absurd rfl (h.mus.ne_cells hc)),(h.chans.but hb (by simpa using h.ncm)).mono hN,hm.mono hM,(h.done.but hb (by simpa using Ne.symm h.nmd)).mono hN,h.ncm,h.ncd,h.nmd⟩
theorem TRep.new_done (h:TRep w sb bc bm bd N s kv) (hb:But [bd] w w') {N':Nat} {f:Int×Int→Option Bool} {M:Nat} (hm:MapOf locV w' Try.prog 98 bd M (doneMap f)) (hM:M≤N') (hN:N≤N'):TRep w' sb bc bm bd N' { s with done:=f } kv :=
 ⟨(hb.block sb h.lt (by simpa using Ne.symm (h.done.ne_cells h.row))).trans h.row,h.kinds.keep hb (fun b cs t fr hc _ hm=>by
  simp only [List.mem_singleton] at hm;subst hm;exact absurd rfl (h.done.ne_cells hc)),(h.chans.but hb (by simpa using h.ncd)).mono hN,(h.mus.but hb (by simpa using h.nmd)).mono hN,hm.mono hM,h.ncm,h.ncd,h.nmd⟩
theorem TRep.new_row (h:TRep w sb bc bm bd N s kv) (hb:But [sb] w w') {ev gor:Int} (hr:w'.heap[sb]? = some (.cells (TCells { s with events:=ev,gor:=gor } bc bm bd kv) 92 (0,0))) {N':Nat} (hN:N≤N'):TRep w' sb bc bm bd N' { s with events:=ev,gor:=gor } kv :=
 ⟨hr,h.kinds.keep hb (fun b cs t fr hc hne hm=>hne (by simpa using hm)),(h.chans.but hb (by simpa using h.chans.ne_cells h.row)).mono hN,(h.mus.but hb (by simpa using h.mus.ne_cells h.row)).mono hN,(h.done.but hb (by simpa using h.done.ne_cells h.row)).mono hN,h.ncm,h.ncd,h.nmd⟩
end
omit [KB] in
theorem sends_any (k:Int) (w:World):Calls Try.prog 93 #[.int .i64 k] w fun e w'=>e=.returned (.bool (sendsB k))∧w=w':=by
 go_enter Try.func93,Try.ntmps93
 go_wp2
 all_goals (go_ret;refine ⟨ret_bool ?_,rfl⟩;unfold sendsB;rw [Bool.eq_iff_iff];simp;try omega)
theorem open_any {sb bc bm bd N:Nat} {s:TS} {kv:Value} (w:World) (h:TRep w sb bc bm bd N s kv):Calls Try.prog 25 #[.pointer (some ⟨sb,0,none⟩)] w fun e w'=>e=.returned (.bool s.isOpen)∧w=w':=by
 obtain ⟨A,c,hkv,hlc,_⟩:=h.kinds;have c5:w.cell? ⟨sb,5,none⟩=some (.slice A s.grp.kinds.length c):=by rw [h.cell 5,←hkv];rfl
 clear h hkv hlc
 go_enter Try.func25,Try.ntmps25
 go_wp2
 go_ret
 refine ⟨ret_bool ?_,rfl⟩;unfold TS.isOpen;simp
omit [KB] in
set_option maxRecDepth 100000 in
set_option maxHeartbeats 1000000 in
theorem count_any (sb bc n:Nat) (f:Int→Option Ch) (e:Ev) (w:World) (hc:w.cell? ⟨sb,2,none⟩=some (.map (some bc)))
 (hm:MapOf iK w Try.prog 3 bc n (chanMap f)) (hn:n < maxLen) (hobj:I64 e.obj) (hb:∀ c,(f e.obj).getD ch0=c→(0≤c.sent∧c.sent≤5000)∧(0≤c.recv∧c.recv≤5000)) :
 Calls Try.prog 94 #[.pointer (some ⟨sb,0,none⟩),e.val] w fun r w'=>r=.returned (.tuple #[])∧MapOf iK w' Try.prog 3 bc (n+1) (chanMap (upd f e.obj (((f e.obj).getD ch0).count e.kind)))∧But [bc] w w':=by
 have hb0:=hb _ rfl;clear hb;obtain ⟨c,hcc⟩:∃ c,(f e.obj).getD ch0=c:=⟨_,rfl⟩
 rw [hcc] at hb0 ⊢;obtain ⟨⟨hs,hs2⟩,hr,hr2⟩:=hb0
 have hval:(chanMap f e.obj).getD ch0.val=c.val:=by
  rw [←hcc];unfold chanMap;cases f e.obj <;> rfl
 obtain ⟨g,kind,obj,off,k,en,fn,pc,stack⟩:=e;dsimp only at hcc hobj hval ⊢
 -- what is counted,under names of its own
 obtain ⟨c',hc'⟩:∃ c',c.count kind=c':=⟨_,rfl⟩
 rw [hc'];obtain ⟨cap,sent,recv,closed⟩:=c;obtain ⟨cap',sent',recv',closed'⟩:=c';dsimp only at hs hs2 hr hr2;unfold Ev.val
 have hl:∀ o:Obj,(Instr.lookup 86 (.map (some bc)) (.int .i64 obj) false).run Try.prog ((w.alloc o).drew)=.ok (.agg #[.int .i64 cap,.int .i64 sent,.int .i64 recv,.bool closed]) ((w.alloc o).drew):=fun o=>by
  have h1:MapOf iK (w.alloc o).drew Try.prog 3 bc n (chanMap f):=hm.alloc o;have h2:=h1.look keyI Try.underlying86 zeroCh obj (wf_i64 hobj);rw [hval] at h2;exact h2
 have hl2:∀ o o2:Obj,(Instr.lookup 86 (.map (some bc)) (.int .i64 obj) false).run Try.prog (((w.alloc o).alloc o2).drew)=.ok (.agg #[.int .i64 cap,.int .i64 sent,.int .i64 recv,.bool closed]) (((w.alloc o).alloc o2).drew):=fun o o2=>by
  have h1:MapOf iK ((w.alloc o).alloc o2).drew Try.prog 3 bc n (chanMap f):=(hm.alloc o).alloc o2;have h2:=h1.look keyI Try.underlying86 zeroCh obj (wf_i64 hobj);rw [hval] at h2;exact h2
 have hlt:=block_lt_of_cell hc;dsimp only at hlt;have HM:=Lib.hid hm;clear hm;have HCC:=Lib.hid hcc;clear hcc;have HV:=Lib.hid hval;clear hval;have HC:=Lib.hid hc';clear hc'
 go_enter Try.func94,Try.ntmps94
 go_wp2
 go_region
 go_upto_block 0 with fail
 go_cut [] (fun wx=>MapOf iK wx Try.prog 3 bc n (chanMap f)∧But [bc] w wx∧wx.cell? ⟨sb,2,none⟩=some (.map (some bc))∧wx.cell? ⟨w.heap.size,2,none⟩=some (.int .i64 obj) ∧
  wx.cell? ⟨w.heap.size+1,0,none⟩=some (.int .i64 cap')∧wx.cell? ⟨w.heap.size+1,1,none⟩=some (.int .i64 sent')∧wx.cell? ⟨w.heap.size+1,2,none⟩=some (.int .i64 recv')∧wx.cell? ⟨w.heap.size+1,3,none⟩=some (.bool closed'))
 case first =>
  go_wp2
  all_goals go_meet
  all_goals (case' rel=>refine ⟨(HM.out.alloc _).alloc _,(((But.refl _ _).alloc _).alloc _).drew,?_⟩)
  all_goals (have hc':=HC.out;unfold Ch.count at hc')
  all_goals go_light
  all_goals clear hl hl2
  all_goals simp_all [go_sem]
 case rest =>
  obtain ⟨hm1,hbut,hc2,hobj2,h0,h1,h2,h3⟩:=hcut;obtain ⟨w1,hput,hm2,hg⟩:=(show MapOf iK wc.drew Try.prog 3 bc n (chanMap f) from hm1).put keyI Try.underlying86 hn obj (wf_i64 hobj) (.agg #[.int .i64 cap',.int .i64 sent',.int .i64 recv',.bool closed']);unfold iK at hput
  have hfin:MapOf iK w1 Try.prog 3 bc (n+1) (chanMap (upd f obj ⟨cap',sent',recv',closed'⟩))∧But [bc] w w1:=by
   refine ⟨?_,?_⟩
   ·rw [←chanMap_upd];exact hm2
   ·exact (hbut.drewN 0).drew.grown hg (.inl (by simp))
  have HF:=Lib.hid hfin;clear hfin hm1 hm2 hg hbut
  go_wp2
  go_region
  go_end0
  exact ⟨rfl,HF.out⟩
end
end Go.Proofs.Ytffcpijeebagfaa
end
