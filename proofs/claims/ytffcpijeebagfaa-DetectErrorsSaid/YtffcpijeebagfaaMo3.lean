/- Equality of flat structs and arrays. -/
import Derived.Test.YtffcpijeebagfaaMo2
import Derived.Test.YtffcpijeebagfaaProg
import Derived.IntWalk
import Derived.Below
set_option linter.unusedSimpArgs false
set_option linter.unusedVariables false
section
namespace Go.Proofs.Ytffcpijeebagfaa
open Go Go.RowKit
section
variable {P:Program}
def uH (P:Program) (t:Nat):Option Bool:=match P.underlying t with
 | some (.int _)=>some false
 | some .bool=>some true
 | _=>none
theorem CU {t:Nat} {kb:Bool} (hb:uH P t=some kb) {x y:Cl} {u v:Value} {r:Bool} {W:Wit} {G:Nat→Nat} {O:Nat→Ob} {w:World} (hx:RC W G O w x u) (hy:RC W G O w y v) (h:KN kb x y=some r) (d:Nat) :
 (Op.equalIn (d+1) t u v).run P w=.ok r w:=by
 unfold uH at hb;unfold KN at h;split at h
 ·rename_i k a k' b;split at h
  ·rename_i hk;cases h;obtain ⟨rfl,_⟩:=RD.gq hx;obtain ⟨rfl,_⟩:=RD.gq hy;rw [Op.equalIn.eq_2];split at hb
   ·rename_i k2 hu;simp [run_underlying hu,hk.2]
   ·cases hb;exact absurd hk.1 (by decide)
   ·cases hb
  ·cases h
 ·rename_i a b;split at h
  ·rename_i hk;cases h;obtain ⟨rfl,_⟩:=RD.gq hx;obtain ⟨rfl,_⟩:=RD.gq hy;rw [Op.equalIn.eq_2];split at hb
   ·cases hb;exact absurd hk (by decide)
   ·rename_i hu;simp [run_underlying hu]
   ·cases hb
  ·cases h
 ·cases h
theorem mX {t:Nat} {kb:Bool} (hb:uH P t=some kb) {xs:Array Value} {i:Nat} {u:Value} (hi:xs[i]? = some u) (w:World):(part t xs i).run P w=.ok u w:=by
 obtain ⟨d,hd,ha⟩:∃ d,P.underlying t=some d∧lK d=false:=by
  unfold uH at hb;split at hb
  ·rename_i k hu;exact ⟨_,hu,rfl⟩
  ·rename_i hu;exact ⟨_,hu,rfl⟩
  ·cases hb
 have:=kK hd w;simp [part,this,ha,hi]
theorem vI {ks:List Bool} {cs ds:List Cl} {r:Bool} {i:Nat} (h:lW (ks.drop i) (cs.drop i) (ds.drop i)=some r) {k:Bool} (hk:ks[i]? = some k) :
 ∃ x y a b,cs[i]? = some x∧ds[i]? = some y∧KN k x y=some a∧lW (ks.drop (i+1)) (cs.drop (i+1)) (ds.drop (i+1))=some b∧r=(a && b):=by
 have hlt:=(List.getElem?_eq_some_iff.1 hk).1;rw [List.drop_eq_getElem_cons hlt] at h
 rcases Nat.lt_or_ge i cs.length with h1 | h1
 ·rcases Nat.lt_or_ge i ds.length with h2 | h2
  ·rw [List.drop_eq_getElem_cons h1,List.drop_eq_getElem_cons h2] at h;simp only [lW] at h;split at h
   ·rename_i a b ha hb;cases h;rw [List.getElem?_eq_getElem hlt] at hk;cases hk;exact ⟨_,_,a,b,List.getElem?_eq_getElem h1,List.getElem?_eq_getElem h2,ha,hb,rfl⟩
   ·cases h
  ·rw [List.drop_eq_nil_of_le h2,List.drop_eq_getElem_cons h1] at h;simp [lW] at h
 ·rw [List.drop_eq_nil_of_le h1] at h;simp [lW] at h
def R3 (P : Program) (fs : Array Field) (ks : List Bool) : Bool := fs.size == ks.length && fs.toList.zipIdx.all fun p => p.1.name != "_" && p.1.offset == p.2 && uH P p.1.type == ks[p.2]?
theorem cZ {t:Nat} {fs:Array Field} {ks:List Bool} (hu:P.underlying t=some (.struct fs)) (hst:P.stoodInHeld t=false) (hg:P.eqGuardType P.depth t=false) (hfl:R3 P fs ks=true):EqT P t ks:=by
 refine fun _=>⟨hg,fun xs ys cs ds r W G O w h3 h4 h5=>?_⟩
 show (Op.equalIn (9999+1) t (.agg xs) (.agg ys)).run P w=_
 rw [Op.equalIn.eq_2];simp only [Sem.run_bind,run_underlying hu,Result.andThen_ok,run_program,hst];rw [if_neg (by decide)];unfold R3 at hfl;rw [Bool.and_eq_true] at hfl;obtain ⟨hsz,hall⟩:=hfl;have hsz':fs.size=ks.length:=by simpa using hsz
 have key:∀ (l:List Field) (i:Nat) (r:Bool),l=fs.toList.drop i→lW (ks.drop i) (cs.drop i) (ds.drop i)=some r →
  (forIn l ((none:Option Bool),()) fun f __s =>
   (if f.name ≠ "_" then do
    let __do_lift ←part f.type xs f.offset
    let __do_lift_1 ←part f.type ys f.offset
    let __do_lift ←Op.equalIn 9999 f.type __do_lift __do_lift_1
    if (!__do_lift)=true then pure (ForInStep.done (some false,()))
    else pure (ForInStep.yield (none,()))
   else pure (ForInStep.yield (none,())):Sem (ForInStep (Option Bool×Unit)))).run P w=.ok (if r then none else some false,()) w:=by
  intro l
  induction l with
  | nil =>
    intro i r hl h
    have hge:ks.length≤i:=by
     have:=congrArg List.length hl;simp at this;omega
    rw [List.drop_eq_nil_of_le hge] at h;generalize cs.drop i=a at h;generalize ds.drop i=b at h;cases a <;> cases b <;> simp [lW] at h
    subst h;simp
  | cons f l ih =>
    intro i r hl h
    have hfi:fs[i]? = some f:=by
     have:=congrArg (·[0]?) hl
     simpa using this.symm
    have hilt:=(Array.getElem?_eq_some_iff.1 hfi).1
    have hp:=List.all_eq_true.1 hall (f,i) (by
     rw [List.mk_mem_zipIdx_iff_getElem?]
     simpa using hfi)
    simp only [Bool.and_eq_true,bne_iff_ne,beq_iff_eq] at hp;obtain ⟨⟨hn,ho⟩,hb⟩:=hp;have hk:ks[i]? = some ks[i]:=List.getElem?_eq_getElem (by omega);rw [hk] at hb;obtain ⟨x,y,a,b,e1,e2,e3,e4,rfl⟩:=vI h hk;have hx1:i < xs.size:=by have:=h3.1;have:=(List.getElem?_eq_some_iff.1 e1).1;simp at *;omega
    have hy1:i < ys.size:=by have:=h4.1;have:=(List.getElem?_eq_some_iff.1 e2).1;simp at *;omega
    have hx:xs[i]? = some xs[i]:=Array.getElem?_eq_getElem hx1;have hy:ys[i]? = some ys[i]:=Array.getElem?_eq_getElem hy1;have heq:(Op.equalIn 9999 f.type xs[i] ys[i]).run P w=.ok a w:=CU hb (h3.2 i x xs[i] e1 (by rw [Array.getElem?_toList];exact hx)) (h4.2 i y ys[i] e2 (by rw [Array.getElem?_toList];exact hy)) e3 9998
    rw [List.forIn_cons,if_pos hn,ho];simp only [Sem.run_bind,mX hb hx,mX hb hy,Result.andThen_ok,heq]
    cases a with
    | true =>
      simp only [Bool.not_true,Bool.false_eq_true,if_false,Sem.run_pure,Result.andThen_ok,Bool.true_and]
      exact ih (i+1) b (by
       have:=congrArg List.tail hl
       simpa using this) e4
    | false=>simp
 have hk:=key fs.toList 0 r rfl (by simpa using h5);rw [←Array.forIn_toList,Sem.run_bind,hk];cases r <;> rfl
theorem sW {t e m:Nat} {ei:TypeInfo} (hu:P.underlying t=some (.array m e)) (hi:P.info? e=some ei) (hsz1:ei.size=1) (hg:P.eqGuardType P.depth t=false) (hb:uH P e=some false):EqT P t (List.replicate m false):=by
 refine fun _=>⟨hg,fun xs ys cs ds r W G O w h3 h4 h5=>?_⟩
 show (Op.equalIn (9999+1) t (.agg xs) (.agg ys)).run P w=_
 rw [Op.equalIn.eq_2];simp only [Sem.run_bind,run_underlying hu,Result.andThen_ok,sizeOf,typeInfo,run_program,hi,Sem.run_pure,hsz1,Nat.mul_one,Std.Legacy.Range.forIn_eq_forIn_range',Std.Legacy.Range.size,Nat.sub_zero,Nat.add_one_sub_one,Nat.div_one]
 have key:∀ (k i:Nat) (r:Bool),i+k=m→lW ((List.replicate m false).drop i) (cs.drop i) (ds.drop i)=some r →
  (forIn (List.range' i k) ((none:Option Bool),()) fun i __s =>
   (do
    let __do_lift ←part e xs i
    let __do_lift_1 ←part e ys i
    let __do_lift ←Op.equalIn 9999 e __do_lift __do_lift_1
    if (!__do_lift)=true then pure (ForInStep.done (some false,()))
    else pure (ForInStep.yield (none,())):Sem (ForInStep (Option Bool×Unit)))).run P w=.ok (if r then none else some false,()) w:=by
  intro k
  induction k with
  | zero =>
    intro i r hl h;rw [List.drop_eq_nil_of_le (by simp;omega)] at h
    generalize cs.drop i=a at h;generalize ds.drop i=b at h;cases a <;> cases b <;> simp [lW] at h
    subst h;simp
  | succ k ih =>
    intro i r hl h
    have hk:(List.replicate m false)[i]? = some false:=by
     rw [List.getElem?_replicate,if_pos (by omega)]
    obtain ⟨x,y,a,b,e1,e2,e3,e4,rfl⟩:=vI h hk;have hx1:i < xs.size:=by have:=h3.1;have:=(List.getElem?_eq_some_iff.1 e1).1;simp at *;omega
    have hy1:i < ys.size:=by have:=h4.1;have:=(List.getElem?_eq_some_iff.1 e2).1;simp at *;omega
    have hx:xs[i]? = some xs[i]:=Array.getElem?_eq_getElem hx1;have hy:ys[i]? = some ys[i]:=Array.getElem?_eq_getElem hy1;have heq:(Op.equalIn 9999 e xs[i] ys[i]).run P w=.ok a w:=CU hb (h3.2 i x xs[i] e1 (by rw [Array.getElem?_toList];exact hx)) (h4.2 i y ys[i] e2 (by rw [Array.getElem?_toList];exact hy)) e3 9998
    rw [List.range'_succ,List.forIn_cons];simp only [Sem.run_bind,mX hb hx,mX hb hy,Result.andThen_ok,heq]
    cases a with
    | true =>
      simp only [Bool.not_true,Bool.false_eq_true,if_false,Sem.run_pure,Result.andThen_ok,Bool.true_and];exact ih (i+1) b (by omega) e4
    | false=>simp
 have hk:=key m 0 r (by omega) (by simpa using h5);rw [hk];cases r <;> rfl
end
theorem uT {P:Program} {l0 l:List (Nat×List Bool)} (h0:∀ p,p ∈ l0→EqT P p.1 p.2) (h:l.all (fun p=>Nat.ble 1048576 p.1)=true):∀ p,p ∈ l0 ++ l→EqT P p.1 p.2:=by
 intro p hp
 rcases List.mem_append.1 hp with hp | hp
 ·exact h0 p hp
 ·intro hlt;have:=Nat.le_of_ble_eq_true (List.all_eq_true.1 h p hp);omega
end Go.Proofs.Ytffcpijeebagfaa
end
section
namespace Go.Proofs.Ytffcpijeebagfaa
open Go Go.RowKit
set_option maxRecDepth 100000
def iE:List (Nat×List Bool):=[(33,[false,false,false,false,false,false,false,false,false]),(34,[false,false,false,false,false,false,false,false,false]),(52,List.replicate 8 false),(53,List.replicate 8 false),(77,[false,false]),(78,[false,false]),(94,[false,false,false,true]),(95,[false,false,false,true]),(97,[false,false]),(98,[false,false]),(99,[true,false]),(100,[true,false]),(136,List.replicate 7 false),(142,[false,false,false]),(143,[false,false,false]),(145,[false,false,false,false,true]),(146,[false,false,false,false,true]),(150,[false,false,true,false]),(151,[false,false,true,false])]
theorem dO:∀ p,p ∈ iE→EqT Try.prog p.1 p.2:=by
 intro p hp;simp only [iE,List.mem_cons,List.not_mem_nil,or_false] at hp
 rcases hp with rfl | rfl | rfl | rfl | rfl | rfl | rfl | rfl | rfl | rfl | rfl | rfl | rfl | rfl | rfl | rfl | rfl | rfl | rfl
 ·exact cZ Try.underlying33 (by kernel_rfl) (by kernel_rfl) (by kernel_rfl)
 ·exact cZ Try.underlying34 (by kernel_rfl) (by kernel_rfl) (by kernel_rfl)
 ·exact sW Try.underlying52 (ei:=(Try.prog.info? 3).getD default) (by kernel_rfl) (by kernel_rfl) (by kernel_rfl) (by kernel_rfl)
 ·exact sW Try.underlying53 (ei:=(Try.prog.info? 3).getD default) (by kernel_rfl) (by kernel_rfl) (by kernel_rfl) (by kernel_rfl)
 ·exact cZ Try.underlying77 (by kernel_rfl) (by kernel_rfl) (by kernel_rfl)
 ·exact cZ Try.underlying78 (by kernel_rfl) (by kernel_rfl) (by kernel_rfl)
 ·exact cZ Try.underlying94 (by kernel_rfl) (by kernel_rfl) (by kernel_rfl)
 ·exact cZ Try.underlying95 (by kernel_rfl) (by kernel_rfl) (by kernel_rfl)
 ·exact cZ Try.underlying97 (by kernel_rfl) (by kernel_rfl) (by kernel_rfl)
 ·exact cZ Try.underlying98 (by kernel_rfl) (by kernel_rfl) (by kernel_rfl)
 ·exact cZ Try.underlying99 (by kernel_rfl) (by kernel_rfl) (by kernel_rfl)
 ·exact cZ Try.underlying100 (by kernel_rfl) (by kernel_rfl) (by kernel_rfl)
 ·exact sW Try.underlying136 (ei:=(Try.prog.info? 3).getD default) (by kernel_rfl) (by kernel_rfl) (by kernel_rfl) (by kernel_rfl)
 ·exact cZ Try.underlying142 (by kernel_rfl) (by kernel_rfl) (by kernel_rfl)
 ·exact cZ Try.underlying143 (by kernel_rfl) (by kernel_rfl) (by kernel_rfl)
 ·exact cZ Try.underlying145 (by kernel_rfl) (by kernel_rfl) (by kernel_rfl)
 ·exact cZ Try.underlying146 (by kernel_rfl) (by kernel_rfl) (by kernel_rfl)
 ·exact cZ Try.underlying150 (by kernel_rfl) (by kernel_rfl) (by kernel_rfl)
 ·exact cZ Try.underlying151 (by kernel_rfl) (by kernel_rfl) (by kernel_rfl)
theorem bF:Try.prog.follows .mixedOrders=true:=by kernel_rfl
def pc22 : PC := .seq (.reg false [⟨(some 2), .box (.t 0), none, []⟩, ⟨(some 3), .box (.t 1), none, []⟩, ⟨(some 4), .new [(.int .i64 0), (.int .i64 0), (.slice none 0 0), (.slice none 0 0), (.slice none 0 0), (.slice none 0 0), (.int .i64 0), (.int .i64 0), (.int .i64 0)], none, []⟩, ⟨(some 5), .mv (.v (.bool false)), none, []⟩]) (.seq (.seq (.reg false [⟨(some 8), .load (some 9) (.t 3), none, []⟩, ⟨(some 9), .call 64 [(.t 8)], none, [0]⟩, ⟨(some 10), .un .not (.t 9), none, [1]⟩, ⟨(some 11), .mv (.t 10), none, [2, 1]⟩, ⟨(some 12), .fld 0 (.t 2), (some (11, false)), [3]⟩, ⟨(some 13), .load none (.t 12), (some (11, false)), [4, 3]⟩, ⟨(some 14), .bin .geq (.t 13) (.v (.int .i64 5000)), (some (11, false)), [5, 3]⟩, ⟨(some 15), .pick (.t 11) (.v (.bool true)) (.t 14), none, [3, 6]⟩, ⟨(some 16), .mv (.t 15), none, [7, 3]⟩, ⟨(some 17), .fld 0 (.t 3), (some (16, false)), [8]⟩, ⟨(some 18), .load none (.t 17), (some (16, false)), [9, 8]⟩, ⟨(some 19), .fld 1 (.t 2), (some (16, false)), [8]⟩, ⟨(some 20), .load none (.t 19), (some (16, false)), [11, 8]⟩, ⟨(some 21), .bin .geq (.t 18) (.t 20), (some (16, false)), [10, 12, 8]⟩, ⟨(some 22), .pick (.t 16) (.v (.bool true)) (.t 21), none, [8, 13]⟩]) (.cond (.t 22) (.seq (.reg false [⟨(some 23), .load (some 9) (.t 2), none, []⟩, ⟨none, .store 9 (.t 4) (.t 23), none, [0, 0]⟩, ⟨(some 5), .mv (.v (.bool false)), none, [1, 0, 1]⟩]) (.ret)) (.skip))) (.seq (.reg false [⟨(some 6), .new [(.int .i64 0), (.int .i64 0), (.slice none 0 0), (.slice none 0 0), (.slice none 0 0), (.slice none 0 0), (.int .i64 0), (.int .i64 0), (.int .i64 0)], none, []⟩]) (.seq (.reg false [⟨(some 7), .mv (.v (.bool false)), none, []⟩]) (.seq (.block 0 (.seq (.reg false [⟨(some 31), .fld 5 (.t 2), none, []⟩, ⟨(some 32), .load none (.t 31), none, [0]⟩, ⟨(some 33), .len (.t 32), none, [1]⟩, ⟨(some 34), .bin .gtr (.t 33) (.v (.int .i64 0)), none, [2]⟩, ⟨(some 30), .mv (.t 34), none, [3]⟩]) (.cond (.t 30) (.reg false [⟨(some 36), .load (some 9) (.t 2), none, []⟩, ⟨(some 37), .load (some 9) (.t 3), none, []⟩, ⟨(some 38), .call 65 [(.t 36), (.t 37)], none, [0, 1]⟩, ⟨(some 35), .mv (.t 38), none, [2]⟩, ⟨(some 39), .ext (.t 35) 0, none, [3]⟩, ⟨(some 40), .ext (.t 35) 1, none, [3]⟩, ⟨none, .store 9 (.t 6) (.t 39), none, [4, 2, 0, 1, 2, 3, 4]⟩, ⟨(some 7), .mv (.t 40), none, [5, 6, 0, 1, 2, 3, 4, 5, 6]⟩]) (.seq (.reg false [⟨(some 42), .fld 1 (.t 3), none, []⟩, ⟨(some 43), .load none (.t 42), none, [0]⟩, ⟨(some 44), .call 66 [(.t 43)], none, [1]⟩, ⟨(some 41), .mv (.t 44), none, [2, 2]⟩]) (.cond (.t 41) (.reg false [⟨(some 46), .load (some 9) (.t 2), none, []⟩, ⟨(some 47), .load (some 9) (.t 3), none, []⟩, ⟨(some 48), .call 67 [(.t 46), (.t 47)], none, [0, 1]⟩, ⟨(some 45), .mv (.t 48), none, [2]⟩, ⟨(some 49), .ext (.t 45) 0, none, [3]⟩, ⟨(some 50), .ext (.t 45) 1, none, [3]⟩, ⟨none, .store 9 (.t 6) (.t 49), none, [4, 2, 0, 1, 2, 3, 4]⟩, ⟨(some 7), .mv (.t 50), none, [5, 6, 0, 1, 2, 3, 4, 5, 6]⟩]) (.reg false [⟨(some 25), .load (some 9) (.t 2), none, []⟩, ⟨(some 26), .load (some 9) (.t 3), none, []⟩, ⟨(some 27), .call 68 [(.t 25), (.t 26)], none, [0, 1]⟩, ⟨(some 24), .mv (.t 27), none, [2]⟩, ⟨(some 28), .ext (.t 24) 0, none, [3]⟩, ⟨(some 29), .ext (.t 24) 1, none, [3]⟩, ⟨none, .store 9 (.t 6) (.t 28), none, [4, 2, 0, 1, 2, 3, 4]⟩, ⟨(some 7), .mv (.t 29), none, [5, 6, 0, 1, 2, 3, 4, 5, 6]⟩])))))) (.seq (.seq (.reg false [⟨(some 51), .mv (.t 7), none, []⟩, ⟨(some 52), .un .not (.t 51), none, [0]⟩]) (.cond (.t 52) (.seq (.reg false [⟨(some 53), .load (some 9) (.t 2), none, []⟩, ⟨none, .store 9 (.t 4) (.t 53), none, [0, 0]⟩, ⟨(some 5), .mv (.v (.bool false)), none, [1, 0, 1]⟩]) (.ret)) (.skip))) (.seq (.reg false [⟨(some 54), .fld 0 (.t 6), none, []⟩, ⟨(some 55), .load none (.t 54), none, [0]⟩, ⟨(some 56), .bin .add (.t 55) (.v (.int .i64 1)), none, [1]⟩, ⟨(some 57), .fld 0 (.t 6), none, [0, 1, 2]⟩, ⟨none, .store 1 (.t 57) (.t 56), none, [3, 2, 0, 1, 2]⟩]) (.seq (.reg false [⟨(some 58), .load (some 9) (.t 6), none, []⟩, ⟨none, .store 9 (.t 4) (.t 58), none, [0, 0]⟩, ⟨(some 5), .mv (.v (.bool true)), none, [1, 0, 1]⟩]) (.ret))))))))
def pr22 : List PR := [.c 4 (some 9), .t 5]
theorem bd22:Try.f22.body=some (Try.f22.body.getD .skip):=by kernel_rfl
theorem cp22:bK Try.prog Try.f22.ntmps iE (Try.f22.body.getD .skip)=some pc22:=by kernel_rfl
theorem sp22 [dH] {env:Env} (hE:aG Try.prog env) {R:List Pa→List Pa→Prop} (hR:∀ ps rs,R ps rs→ps.length≤59∧pwp env pc22 (fun e s=>(e=.normal∨e=.ret)∧s.res pr22=some rs) (St.init ps)):Spec Try.prog 22 R :=
 bM hE dO bF Try.func22 bd22 cp22 (by kernel_rfl) (by kernel_rfl) (by kernel_rfl) hR
def pc65c0 : PC := .seq (.reg false [⟨(some 92), .mv (.t 7), none, []⟩, ⟨(some 93), .fld 5 (.t 2), none, [0]⟩, ⟨none, .store 1 (.t 93) (.t 92), none, [1, 0, 0]⟩]) (.seq (.reg false [⟨(some 94), .load (some 9) (.t 2), none, []⟩, ⟨(some 95), .load (some 9) (.t 3), none, []⟩, ⟨(some 96), .call 96 [(.t 94), (.t 95)], none, [0, 1]⟩, ⟨none, .store 9 (.t 4) (.t 96), none, [2, 2, 0, 1, 2]⟩, ⟨(some 5), .mv (.v (.bool true)), none, [3, 0, 1, 2, 3]⟩]) (.ret))
def pc65c1 : PC := .seq (.reg false [⟨(some 8), .mv (.v (.int .i64 1)), none, []⟩]) (.block 0 (.loop (.seq (.seq (.reg false [⟨(some 65), .mv (.t 8), none, []⟩, ⟨(some 66), .fld 5 (.t 2), none, []⟩, ⟨(some 67), .load none (.t 66), none, [1]⟩, ⟨(some 68), .len (.t 67), none, [2]⟩, ⟨(some 69), .bin .lss (.t 65) (.t 68), none, [0, 3]⟩]) (.cond (.t 69) (.skip) (.exit 0))) (.seq (.block 1 (.seq (.reg false [⟨(some 72), .fld 5 (.t 2), none, []⟩, ⟨(some 73), .load none (.t 72), none, [0]⟩, ⟨(some 74), .mv (.t 8), none, []⟩, ⟨(some 75), .ixs 3 (.t 73) (.t 74), none, [1, 2]⟩, ⟨(some 76), .load (some 3) (.t 75), none, [3]⟩, ⟨(some 9), .new [(.int .i64 0), (.int .i64 0), (.int .i64 0)], none, []⟩, ⟨none, .store 3 (.t 9) (.t 76), none, [5, 4, 0, 1, 2, 3, 4, 5]⟩]) (.seq (.seq (.reg false [⟨(some 77), .fld 1 (.t 6), none, []⟩, ⟨(some 78), .load none (.t 77), none, [0]⟩, ⟨(some 79), .bin .lss (.t 78) (.v (.int .i64 0)), none, [1]⟩, ⟨(some 80), .mv (.t 79), none, [2]⟩, ⟨(some 81), .fld 1 (.t 9), (some (80, true)), [3]⟩, ⟨(some 82), .load none (.t 81), (some (80, true)), [4, 3]⟩, ⟨(some 83), .bin .lss (.t 82) (.v (.int .i64 0)), (some (80, true)), [5, 3]⟩, ⟨(some 84), .pick (.t 80) (.t 83) (.v (.bool false)), none, [3, 6]⟩]) (.cond (.t 84) (.reg false [⟨(some 85), .fld 0 (.t 3), none, []⟩, ⟨(some 86), .load none (.t 85), none, [0]⟩, ⟨(some 87), .fld 1 (.t 9), none, [0, 1]⟩, ⟨none, .store 1 (.t 87) (.t 86), none, [2, 1, 0, 1]⟩]) (.skip))) (.reg false [⟨(some 88), .mv (.t 7), none, []⟩, ⟨(some 89), .load (some 3) (.t 9), none, []⟩, ⟨(some 90), .bslice 143 3 [(.int .i64 0), (.int .i64 0), (.int .i64 0)] 1 [(0, 3, (.t 89))], none, [1]⟩, ⟨(some 91), .append 143 3 24 (.t 88) (.t 90), none, [0, 2]⟩, ⟨(some 7), .mv (.t 91), none, [3, 3, 0, 1, 2, 3]⟩])))) (.reg false [⟨(some 70), .mv (.t 8), none, []⟩, ⟨(some 71), .bin .add (.t 70) (.v (.int .i64 1)), none, [0]⟩, ⟨(some 8), .mv (.t 71), none, [1, 0, 1]⟩])))))
def pc65c2 : PC := .seq (.reg false [⟨(some 7), .nilRow 143 3, none, []⟩]) (.seq (pc65c1) (pc65c0))
def pc65c3 : PC := .reg false [⟨(some 14), .fld 1 (.t 3), none, []⟩, ⟨(some 15), .load none (.t 14), none, [0]⟩, ⟨(some 16), .fld 0 (.t 6), none, []⟩, ⟨(some 17), .load none (.t 16), none, [2]⟩, ⟨(some 18), .bin .neq (.t 15) (.t 17), none, [1, 3]⟩, ⟨(some 19), .mv (.t 18), none, [4]⟩, ⟨(some 20), .fld 2 (.t 3), (some (19, false)), [5]⟩, ⟨(some 21), .load none (.t 20), (some (19, false)), [6, 5]⟩, ⟨(some 22), .fld 6 (.t 2), (some (19, false)), [5]⟩, ⟨(some 23), .load none (.t 22), (some (19, false)), [8, 5]⟩, ⟨(some 24), .bin .neq (.t 21) (.t 23), (some (19, false)), [7, 9, 5]⟩, ⟨(some 25), .pick (.t 19) (.v (.bool true)) (.t 24), none, [5, 10]⟩, ⟨(some 26), .mv (.t 25), none, [11, 5]⟩, ⟨(some 27), .fld 4 (.t 3), (some (26, false)), [12]⟩, ⟨(some 28), .load none (.t 27), (some (26, false)), [13, 12]⟩, ⟨(some 29), .fld 7 (.t 2), (some (26, false)), [12]⟩, ⟨(some 30), .load none (.t 29), (some (26, false)), [15, 12]⟩, ⟨(some 31), .bin .neq (.t 28) (.t 30), (some (26, false)), [14, 16, 12]⟩, ⟨(some 32), .pick (.t 26) (.v (.bool true)) (.t 31), none, [12, 17]⟩, ⟨(some 33), .mv (.t 32), none, [18, 12]⟩, ⟨(some 34), .fld 5 (.t 3), (some (33, false)), [19]⟩, ⟨(some 35), .load none (.t 34), (some (33, false)), [20, 19]⟩, ⟨(some 36), .fld 8 (.t 2), (some (33, false)), [19]⟩, ⟨(some 37), .load none (.t 36), (some (33, false)), [22, 19]⟩, ⟨(some 38), .bin .neq (.t 35) (.t 37), (some (33, false)), [21, 23, 19]⟩, ⟨(some 39), .pick (.t 33) (.v (.bool true)) (.t 38), none, [19, 24]⟩, ⟨(some 40), .mv (.t 39), none, [25, 19]⟩, ⟨(some 41), .fld 1 (.t 6), (some (40, false)), [26]⟩, ⟨(some 42), .load none (.t 41), (some (40, false)), [27, 26]⟩, ⟨(some 43), .bin .geq (.t 42) (.v (.int .i64 0)), (some (40, false)), [28, 26]⟩, ⟨(some 44), .mv (.t 43), (some (40, false)), [29, 26, 26]⟩, ⟨(some 45), .fld 0 (.t 3), (some (44, true)), [30]⟩, ⟨(some 46), .load none (.t 45), (some (44, true)), [31, 30]⟩, ⟨(some 47), .fld 1 (.t 6), (some (44, true)), [30]⟩, ⟨(some 48), .load none (.t 47), (some (44, true)), [33, 30]⟩, ⟨(some 49), .bin .neq (.t 46) (.t 48), (some (44, true)), [32, 34, 30]⟩, ⟨(some 50), .pick (.t 44) (.t 49) (.v (.bool false)), (some (40, false)), [30, 35, 26]⟩, ⟨(some 51), .pick (.t 40) (.v (.bool true)) (.t 50), none, [26, 36]⟩, ⟨(some 52), .mv (.t 51), none, [37, 30]⟩, ⟨(some 53), .fld 1 (.t 6), (some (52, false)), [38]⟩, ⟨(some 54), .load none (.t 53), (some (52, false)), [39, 38]⟩, ⟨(some 55), .bin .lss (.t 54) (.v (.int .i64 0)), (some (52, false)), [40, 38]⟩, ⟨(some 56), .mv (.t 55), (some (52, false)), [41, 38, 38]⟩, ⟨(some 57), .fld 0 (.t 3), (some (56, true)), [42]⟩, ⟨(some 58), .load none (.t 57), (some (56, true)), [43, 42]⟩, ⟨(some 59), .fld 2 (.t 6), (some (56, true)), [42]⟩, ⟨(some 60), .load none (.t 59), (some (56, true)), [45, 42]⟩, ⟨(some 61), .bin .eql (.t 58) (.t 60), (some (56, true)), [44, 46, 42]⟩, ⟨(some 62), .pick (.t 56) (.t 61) (.v (.bool false)), (some (52, false)), [42, 47, 38]⟩, ⟨(some 63), .pick (.t 52) (.v (.bool true)) (.t 62), none, [38, 48]⟩]
def pc65c4 : PC := .seq (pc65c3) (.cond (.t 63) (.seq (.reg false [⟨(some 64), .load (some 9) (.t 2), none, []⟩, ⟨none, .store 9 (.t 4) (.t 64), none, [0, 0]⟩, ⟨(some 5), .mv (.v (.bool false)), none, [1, 0, 1]⟩]) (.ret)) (.skip))
def pc65 : PC := .seq (.reg false [⟨(some 2), .box (.t 0), none, []⟩, ⟨(some 3), .box (.t 1), none, []⟩, ⟨(some 4), .new [(.int .i64 0), (.int .i64 0), (.slice none 0 0), (.slice none 0 0), (.slice none 0 0), (.slice none 0 0), (.int .i64 0), (.int .i64 0), (.int .i64 0)], none, []⟩, ⟨(some 5), .mv (.v (.bool false)), none, []⟩]) (.seq (.reg false [⟨(some 10), .fld 5 (.t 2), none, []⟩, ⟨(some 11), .load none (.t 10), none, [0]⟩, ⟨(some 12), .ixs 3 (.t 11) (.v (.int .i64 0)), none, [1]⟩, ⟨(some 13), .load (some 3) (.t 12), none, [2]⟩, ⟨(some 6), .new [(.int .i64 0), (.int .i64 0), (.int .i64 0)], none, []⟩, ⟨none, .store 3 (.t 6) (.t 13), none, [4, 3, 0, 1, 2, 3, 4]⟩]) (.seq (pc65c4) (pc65c2)))
def pr65 : List PR := [.c 4 (some 9), .t 5]
abbrev ms65_0 : List Nat := [65, 66, 67, 68, 69, 72, 73, 74, 75, 76, 9, 77, 78, 79, 80, 81, 82, 83, 84, 85, 86, 87, 88, 89, 90, 91, 7, 70, 71, 8]
abbrev os65_0 : List Nat := [9, 90, 7]
theorem bd65:Try.f65.body=some (Try.f65.body.getD .skip):=by kernel_rfl
theorem cp65:bK Try.prog Try.f65.ntmps iE (Try.f65.body.getD .skip)=some pc65:=by kernel_rfl
theorem sp65 [dH] {env:Env} (hE:aG Try.prog env) {R:List Pa→List Pa→Prop} (hR:∀ ps rs,R ps rs→ps.length≤97∧pwp env pc65 (fun e s=>(e=.normal∨e=.ret)∧s.res pr65=some rs) (St.init ps)):Spec Try.prog 65 R :=
 bM hE dO bF Try.func65 bd65 cp65 (by kernel_rfl) (by kernel_rfl) (by kernel_rfl) hR
def pc67c0 : PC := .seq (.reg false [⟨(some 59), .fld 1 (.t 6), none, []⟩, ⟨(some 60), .load none (.t 59), none, [0]⟩, ⟨(some 61), .bin .eql (.t 60) (.v (.int .i64 0)), none, [1]⟩, ⟨(some 62), .mv (.t 61), none, [2]⟩, ⟨(some 63), .mv (.t 7), (some (62, true)), [3]⟩, ⟨(some 64), .pick (.t 62) (.t 63) (.v (.bool false)), none, [3, 4]⟩]) (.cond (.t 64) (.seq (.reg false [⟨(some 65), .load (some 9) (.t 2), none, []⟩, ⟨(some 66), .load (some 9) (.t 3), none, []⟩, ⟨(some 67), .fld 0 (.t 3), none, []⟩, ⟨(some 68), .load none (.t 67), none, [2]⟩, ⟨(some 69), .build [(.int .i64 0), (.int .i64 0), (.int .i64 0)] [(0, 1, (.v (.int .i64 17))), (1, 1, (.v (.int .i64 (-1)))), (2, 1, (.t 68))], none, [3]⟩, ⟨(some 70), .build [(.int .i64 0), (.int .i64 0), (.int .i64 0)] [(0, 1, (.v (.int .i64 18))), (1, 1, (.v (.int .i64 (-1))))], none, []⟩, ⟨(some 71), .fld 0 (.t 3), none, []⟩, ⟨(some 72), .load none (.t 71), none, [6]⟩, ⟨(some 73), .build [(.int .i64 0), (.int .i64 0), (.int .i64 0)] [(0, 1, (.v (.int .i64 16))), (1, 1, (.t 72))], none, [7]⟩, ⟨(some 74), .bslice 143 3 [(.int .i64 0), (.int .i64 0), (.int .i64 0), (.int .i64 0), (.int .i64 0), (.int .i64 0), (.int .i64 0), (.int .i64 0), (.int .i64 0)] 3 [(0, 3, (.t 69)), (3, 3, (.t 70)), (6, 3, (.t 73))], none, [4, 5, 8]⟩, ⟨(some 75), .call 98 [(.t 65), (.t 66), (.t 74)], none, [0, 1, 9]⟩, ⟨(some 76), .ext (.t 75) 0, none, [10]⟩, ⟨(some 77), .ext (.t 75) 1, none, [10]⟩, ⟨none, .store 9 (.t 4) (.t 76), none, [11, 10, 0, 1, 2, 3, 4, 5, 6, 7, 8, 9, 10, 11, 12]⟩, ⟨(some 5), .mv (.t 77), none, [12, 13, 0, 1, 2, 3, 4, 5, 6, 7, 8, 9, 10, 11, 12, 13]⟩]) (.ret)) (.skip))
def pc67c1 : PC := .seq (.reg false [⟨(some 100), .fld 4 (.t 6), none, []⟩, ⟨(some 101), .load none (.t 100), none, [0]⟩, ⟨(some 102), .un .not (.t 101), none, [1]⟩, ⟨(some 103), .mv (.t 102), none, [2]⟩, ⟨(some 104), .mv (.t 7), (some (103, true)), [3]⟩, ⟨(some 105), .pick (.t 103) (.t 104) (.v (.bool false)), none, [3, 4]⟩]) (.cond (.t 105) (.seq (.reg false [⟨(some 106), .load (some 9) (.t 2), none, []⟩, ⟨(some 107), .load (some 9) (.t 3), none, []⟩, ⟨(some 108), .fld 0 (.t 3), none, []⟩, ⟨(some 109), .load none (.t 108), none, [2]⟩, ⟨(some 110), .build [(.int .i64 0), (.int .i64 0), (.int .i64 0)] [(0, 1, (.v (.int .i64 15))), (1, 1, (.v (.int .i64 (-1)))), (2, 1, (.t 109))], none, [3]⟩, ⟨(some 111), .fld 0 (.t 3), none, []⟩, ⟨(some 112), .load none (.t 111), none, [5]⟩, ⟨(some 113), .build [(.int .i64 0), (.int .i64 0), (.int .i64 0)] [(0, 1, (.v (.int .i64 18))), (1, 1, (.t 112))], none, [6]⟩, ⟨(some 114), .build [(.int .i64 0), (.int .i64 0), (.int .i64 0)] [(0, 1, (.v (.int .i64 16))), (1, 1, (.v (.int .i64 (-1))))], none, []⟩, ⟨(some 115), .bslice 143 3 [(.int .i64 0), (.int .i64 0), (.int .i64 0), (.int .i64 0), (.int .i64 0), (.int .i64 0), (.int .i64 0), (.int .i64 0), (.int .i64 0)] 3 [(0, 3, (.t 110)), (3, 3, (.t 113)), (6, 3, (.t 114))], none, [4, 7, 8]⟩, ⟨(some 116), .call 98 [(.t 106), (.t 107), (.t 115)], none, [0, 1, 9]⟩, ⟨(some 117), .ext (.t 116) 0, none, [10]⟩, ⟨(some 118), .ext (.t 116) 1, none, [10]⟩, ⟨none, .store 9 (.t 4) (.t 117), none, [11, 10, 0, 1, 2, 3, 4, 5, 6, 7, 8, 9, 10, 11, 12]⟩, ⟨(some 5), .mv (.t 118), none, [12, 13, 0, 1, 2, 3, 4, 5, 6, 7, 8, 9, 10, 11, 12, 13]⟩]) (.ret)) (.skip))
def pc67c2 : PC := .seq (.reg false [⟨(some 23), .fld 1 (.t 3), none, []⟩, ⟨(some 24), .load none (.t 23), none, [0]⟩]) (.block 0 (.seq (.reg false [⟨(some 26), .bin .eql (.t 24) (.v (.int .i64 15)), none, []⟩, ⟨(some 25), .mv (.t 26), none, [0]⟩]) (.cond (.t 25) (.seq (.seq (.reg false [⟨(some 27), .fld 4 (.t 3), none, []⟩, ⟨(some 28), .load none (.t 27), none, [0]⟩, ⟨(some 29), .fld 2 (.t 6), none, []⟩, ⟨(some 30), .load none (.t 29), none, [2]⟩, ⟨(some 31), .bin .neq (.t 28) (.t 30), none, [1, 3]⟩, ⟨(some 32), .mv (.t 31), none, [4]⟩, ⟨(some 33), .fld 4 (.t 6), (some (32, false)), [5]⟩, ⟨(some 34), .load none (.t 33), (some (32, false)), [6, 5]⟩, ⟨(some 35), .pick (.t 32) (.v (.bool true)) (.t 34), none, [5, 7]⟩]) (.cond (.t 35) (.seq (.reg false [⟨(some 36), .load (some 9) (.t 2), none, []⟩, ⟨none, .store 9 (.t 4) (.t 36), none, [0, 0]⟩, ⟨(some 5), .mv (.v (.bool false)), none, [1, 0, 1]⟩]) (.ret)) (.skip))) (.seq (.seq (.reg false [⟨(some 37), .fld 1 (.t 6), none, []⟩, ⟨(some 38), .load none (.t 37), none, [0]⟩, ⟨(some 39), .bin .gtr (.t 38) (.v (.int .i64 0)), none, [1]⟩, ⟨(some 40), .mv (.t 39), none, [2]⟩, ⟨(some 41), .fld 2 (.t 6), (some (40, true)), [3]⟩, ⟨(some 42), .load none (.t 41), (some (40, true)), [4, 3]⟩, ⟨(some 43), .fld 3 (.t 6), (some (40, true)), [3]⟩, ⟨(some 44), .load none (.t 43), (some (40, true)), [6, 3]⟩, ⟨(some 45), .bin .sub (.t 42) (.t 44), (some (40, true)), [5, 7, 3]⟩, ⟨(some 46), .fld 1 (.t 6), (some (40, true)), [3]⟩, ⟨(some 47), .load none (.t 46), (some (40, true)), [9, 3]⟩, ⟨(some 48), .bin .lss (.t 45) (.t 47), (some (40, true)), [8, 10, 3]⟩, ⟨(some 49), .pick (.t 40) (.t 48) (.v (.bool false)), none, [3, 11]⟩]) (.cond (.t 49) (.seq (.reg false [⟨(some 50), .load (some 9) (.t 2), none, []⟩, ⟨(some 51), .load (some 9) (.t 3), none, []⟩, ⟨(some 52), .fld 0 (.t 3), none, []⟩, ⟨(some 53), .load none (.t 52), none, [2]⟩, ⟨(some 54), .build [(.int .i64 0), (.int .i64 0), (.int .i64 0)] [(0, 1, (.v (.int .i64 16))), (1, 1, (.t 53))], none, [3]⟩, ⟨(some 55), .bslice 143 3 [(.int .i64 0), (.int .i64 0), (.int .i64 0)] 1 [(0, 3, (.t 54))], none, [4]⟩, ⟨(some 56), .call 98 [(.t 50), (.t 51), (.t 55)], none, [0, 1, 5]⟩, ⟨(some 57), .ext (.t 56) 0, none, [6]⟩, ⟨(some 58), .ext (.t 56) 1, none, [6]⟩, ⟨none, .store 9 (.t 4) (.t 57), none, [7, 6, 0, 1, 2, 3, 4, 5, 6, 7, 8]⟩, ⟨(some 5), .mv (.t 58), none, [8, 9, 0, 1, 2, 3, 4, 5, 6, 7, 8, 9]⟩]) (.ret)) (.skip))) (pc67c0))) (.seq (.reg false [⟨(some 79), .bin .eql (.t 24) (.v (.int .i64 17)), none, []⟩, ⟨(some 78), .mv (.t 79), none, [0]⟩]) (.cond (.t 78) (.seq (.seq (.reg false [⟨(some 80), .fld 4 (.t 3), none, []⟩, ⟨(some 81), .load none (.t 80), none, [0]⟩, ⟨(some 82), .fld 3 (.t 6), none, []⟩, ⟨(some 83), .load none (.t 82), none, [2]⟩, ⟨(some 84), .bin .neq (.t 81) (.t 83), none, [1, 3]⟩]) (.cond (.t 84) (.seq (.reg false [⟨(some 85), .load (some 9) (.t 2), none, []⟩, ⟨none, .store 9 (.t 4) (.t 85), none, [0, 0]⟩, ⟨(some 5), .mv (.v (.bool false)), none, [1, 0, 1]⟩]) (.ret)) (.skip))) (.seq (.seq (.reg false [⟨(some 86), .fld 2 (.t 6), none, []⟩, ⟨(some 87), .load none (.t 86), none, [0]⟩, ⟨(some 88), .fld 3 (.t 6), none, []⟩, ⟨(some 89), .load none (.t 88), none, [2]⟩, ⟨(some 90), .bin .gtr (.t 87) (.t 89), none, [1, 3]⟩]) (.cond (.t 90) (.seq (.reg false [⟨(some 91), .load (some 9) (.t 2), none, []⟩, ⟨(some 92), .load (some 9) (.t 3), none, []⟩, ⟨(some 93), .fld 0 (.t 3), none, []⟩, ⟨(some 94), .load none (.t 93), none, [2]⟩, ⟨(some 95), .build [(.int .i64 0), (.int .i64 0), (.int .i64 0)] [(0, 1, (.v (.int .i64 18))), (1, 1, (.t 94))], none, [3]⟩, ⟨(some 96), .bslice 143 3 [(.int .i64 0), (.int .i64 0), (.int .i64 0)] 1 [(0, 3, (.t 95))], none, [4]⟩, ⟨(some 97), .call 98 [(.t 91), (.t 92), (.t 96)], none, [0, 1, 5]⟩, ⟨(some 98), .ext (.t 97) 0, none, [6]⟩, ⟨(some 99), .ext (.t 97) 1, none, [6]⟩, ⟨none, .store 9 (.t 4) (.t 98), none, [7, 6, 0, 1, 2, 3, 4, 5, 6, 7, 8]⟩, ⟨(some 5), .mv (.t 99), none, [8, 9, 0, 1, 2, 3, 4, 5, 6, 7, 8, 9]⟩]) (.ret)) (.skip))) (pc67c1))) (.seq (.reg false [⟨(some 120), .bin .eql (.t 24) (.v (.int .i64 19)), none, []⟩, ⟨(some 119), .mv (.t 120), none, [0]⟩]) (.cond (.t 119) (.seq (.reg false [⟨(some 121), .fld 4 (.t 6), none, []⟩, ⟨(some 122), .load none (.t 121), none, [0]⟩, ⟨(some 123), .un .not (.t 122), none, [1]⟩]) (.cond (.t 123) (.seq (.reg false [⟨(some 124), .fld 4 (.t 6), none, []⟩, ⟨none, .store 1 (.t 124) (.v (.bool true)), none, [0]⟩]) (.seq (.reg false [⟨(some 125), .load (some 9) (.t 2), none, []⟩, ⟨(some 126), .load (some 5) (.t 6), none, []⟩, ⟨(some 127), .call 99 [(.t 125), (.t 126)], none, [0, 1]⟩, ⟨none, .store 9 (.t 4) (.t 127), none, [2, 2, 0, 1, 2]⟩, ⟨(some 5), .mv (.v (.bool true)), none, [3, 0, 1, 2, 3]⟩]) (.ret))) (.skip))) (.seq (.reg false [⟨(some 129), .bin .eql (.t 24) (.v (.int .i64 20)), none, []⟩, ⟨(some 128), .mv (.t 129), none, [0]⟩]) (.cond (.t 128) (.seq (.reg true [⟨(some 130), .load (some 9) (.t 2), none, []⟩, ⟨(some 131), .fld 4 (.t 6), none, []⟩, ⟨(some 132), .load none (.t 131), none, [1]⟩, ⟨(some 133), .mv (.t 132), none, [2]⟩, ⟨(some 134), .fld 2 (.t 6), (some (133, true)), [3]⟩, ⟨(some 135), .load none (.t 134), (some (133, true)), [4, 3]⟩, ⟨(some 136), .fld 3 (.t 6), (some (133, true)), [3]⟩, ⟨(some 137), .load none (.t 136), (some (133, true)), [6, 3]⟩, ⟨(some 138), .bin .eql (.t 135) (.t 137), (some (133, true)), [5, 7, 3]⟩, ⟨(some 139), .pick (.t 133) (.t 138) (.v (.bool false)), none, [3, 8]⟩, ⟨none, .store 9 (.t 4) (.t 130), none, [0, 3, 0]⟩, ⟨(some 5), .mv (.t 139), none, [9, 10, 0, 1, 2, 3, 4, 5, 6, 7, 8, 9, 10]⟩]) (.ret)) (.skip))))))))))
def pc67 : PC := .seq (.reg false [⟨(some 2), .box (.t 0), none, []⟩, ⟨(some 3), .box (.t 1), none, []⟩, ⟨(some 4), .new [(.int .i64 0), (.int .i64 0), (.slice none 0 0), (.slice none 0 0), (.slice none 0 0), (.slice none 0 0), (.int .i64 0), (.int .i64 0), (.int .i64 0)], none, []⟩, ⟨(some 5), .mv (.v (.bool false)), none, []⟩]) (.seq (.reg false [⟨(some 8), .load (some 9) (.t 2), none, []⟩, ⟨(some 9), .fld 2 (.t 3), none, []⟩, ⟨(some 10), .load none (.t 9), none, [1]⟩, ⟨(some 11), .fld 5 (.t 3), none, []⟩, ⟨(some 12), .load none (.t 11), none, [3]⟩, ⟨(some 13), .call 97 [(.t 8), (.t 10), (.t 12)], none, [0, 2, 4]⟩, ⟨(some 6), .new [(.int .i64 0), (.int .i64 0), (.int .i64 0), (.int .i64 0), (.bool false)], none, []⟩, ⟨none, .store 5 (.t 6) (.t 13), none, [6, 5, 5, 0, 1, 2, 3, 4, 5, 6]⟩]) (.seq (.seq (.reg false [⟨(some 14), .fld 1 (.t 6), none, []⟩, ⟨(some 15), .load none (.t 14), none, [0]⟩, ⟨(some 16), .fld 5 (.t 3), none, []⟩, ⟨(some 17), .load none (.t 16), none, [2]⟩, ⟨(some 18), .bin .neq (.t 15) (.t 17), none, [1, 3]⟩]) (.cond (.t 18) (.seq (.reg false [⟨(some 19), .load (some 9) (.t 2), none, []⟩, ⟨none, .store 9 (.t 4) (.t 19), none, [0, 0]⟩, ⟨(some 5), .mv (.v (.bool false)), none, [1, 0, 1]⟩]) (.ret)) (.skip))) (.seq (.reg false [⟨(some 20), .fld 1 (.t 2), none, []⟩, ⟨(some 21), .load none (.t 20), none, [0]⟩, ⟨(some 22), .bin .gtr (.t 21) (.v (.int .i64 1)), none, [1]⟩, ⟨(some 7), .mv (.t 22), none, [2, 0, 1, 2]⟩]) (.seq (pc67c2) (.seq (.reg false [⟨(some 140), .load (some 9) (.t 2), none, []⟩, ⟨none, .store 9 (.t 4) (.t 140), none, [0, 0]⟩, ⟨(some 5), .mv (.v (.bool false)), none, [1, 0, 1]⟩]) (.ret))))))
def pr67 : List PR := [.c 4 (some 9), .t 5]
theorem bd67:Try.f67.body=some (Try.f67.body.getD .skip):=by kernel_rfl
theorem cp67:bK Try.prog Try.f67.ntmps iE (Try.f67.body.getD .skip)=some pc67:=by kernel_rfl
theorem sp67 [dH] {env:Env} (hE:aG Try.prog env) {R:List Pa→List Pa→Prop} (hR:∀ ps rs,R ps rs→ps.length≤141∧pwp env pc67 (fun e s=>(e=.normal∨e=.ret)∧s.res pr67=some rs) (St.init ps)):Spec Try.prog 67 R :=
 bM hE dO bF Try.func67 bd67 cp67 (by kernel_rfl) (by kernel_rfl) (by kernel_rfl) hR
def pc68 : PC := .seq (.reg false [⟨(some 2), .box (.t 0), none, []⟩, ⟨(some 3), .box (.t 1), none, []⟩, ⟨(some 4), .new [(.int .i64 0), (.int .i64 0), (.slice none 0 0), (.slice none 0 0), (.slice none 0 0), (.slice none 0 0), (.int .i64 0), (.int .i64 0), (.int .i64 0)], none, []⟩, ⟨(some 5), .mv (.v (.bool false)), none, []⟩]) (.seq (.reg false [⟨(some 10), .load (some 9) (.t 2), none, []⟩, ⟨(some 11), .fld 2 (.t 3), none, []⟩, ⟨(some 12), .load none (.t 11), none, [1]⟩, ⟨(some 13), .fld 3 (.t 3), none, []⟩, ⟨(some 14), .load none (.t 13), none, [3]⟩, ⟨(some 15), .call 100 [(.t 10), (.t 12), (.t 14)], none, [0, 2, 4]⟩, ⟨(some 6), .new [(.int .i64 0), (.int .i64 0), (.bool false), (.int .i64 0)], none, []⟩, ⟨none, .store 4 (.t 6) (.t 15), none, [6, 5, 5, 0, 1, 2, 3, 4, 5, 6]⟩]) (.seq (.reg false [⟨(some 16), .fld 2 (.t 6), none, []⟩, ⟨(some 17), .load none (.t 16), none, [0]⟩, ⟨(some 18), .un .not (.t 17), none, [1]⟩, ⟨(some 7), .mv (.t 18), none, [2, 0, 1, 2]⟩]) (.seq (.seq (.reg false [⟨(some 19), .fld 1 (.t 3), none, []⟩, ⟨(some 20), .load none (.t 19), none, [0]⟩]) (.block 0 (.seq (.reg false [⟨(some 22), .bin .eql (.t 20) (.v (.int .i64 6)), none, []⟩, ⟨(some 21), .mv (.t 22), none, [0]⟩]) (.cond (.t 21) (.seq (.reg false [⟨(some 23), .fld 2 (.t 6), none, []⟩, ⟨none, .store 1 (.t 23) (.v (.bool true)), none, [0]⟩]) (.seq (.reg true [⟨(some 24), .load (some 9) (.t 2), none, []⟩, ⟨(some 25), .load (some 4) (.t 6), none, []⟩, ⟨(some 26), .call 101 [(.t 24), (.t 25)], none, [0, 1]⟩, ⟨(some 27), .mv (.t 7), none, []⟩, ⟨(some 28), .mv (.t 27), none, [3, 2]⟩, ⟨(some 29), .fld 3 (.t 6), (some (28, true)), [4]⟩, ⟨(some 30), .load none (.t 29), (some (28, true)), [5, 4]⟩, ⟨(some 31), .bin .eql (.t 30) (.v (.int .i64 0)), (some (28, true)), [6, 4]⟩, ⟨(some 32), .pick (.t 28) (.t 31) (.v (.bool false)), none, [4, 7]⟩, ⟨none, .store 9 (.t 4) (.t 26), none, [2, 4, 0, 1, 2]⟩, ⟨(some 5), .mv (.t 32), none, [8, 9, 0, 1, 2, 3, 4, 5, 6, 7, 8, 9]⟩]) (.ret))) (.seq (.reg false [⟨(some 34), .bin .eql (.t 20) (.v (.int .i64 7)), none, []⟩, ⟨(some 33), .mv (.t 34), none, [0]⟩]) (.cond (.t 33) (.seq (.reg false [⟨(some 35), .fld 2 (.t 6), none, []⟩, ⟨none, .store 1 (.t 35) (.v (.bool false)), none, [0]⟩]) (.seq (.reg false [⟨(some 36), .load (some 9) (.t 2), none, []⟩, ⟨(some 37), .load (some 4) (.t 6), none, []⟩, ⟨(some 38), .call 101 [(.t 36), (.t 37)], none, [0, 1]⟩, ⟨(some 39), .mv (.t 7), none, []⟩, ⟨(some 40), .un .not (.t 39), none, [3]⟩, ⟨none, .store 9 (.t 4) (.t 38), none, [2, 2, 0, 1, 2]⟩, ⟨(some 5), .mv (.t 40), none, [4, 5, 0, 1, 2, 3, 4, 5]⟩]) (.ret))) (.seq (.reg false [⟨(some 42), .bin .eql (.t 20) (.v (.int .i64 8)), none, []⟩, ⟨(some 41), .mv (.t 42), none, [0]⟩]) (.cond (.t 41) (.seq (.reg false [⟨(some 43), .fld 3 (.t 6), none, []⟩, ⟨(some 44), .load none (.t 43), none, [0]⟩, ⟨(some 45), .bin .add (.t 44) (.v (.int .i64 1)), none, [1]⟩, ⟨(some 46), .fld 3 (.t 6), none, [0, 1, 2]⟩, ⟨none, .store 1 (.t 46) (.t 45), none, [3, 2, 0, 1, 2]⟩]) (.seq (.reg false [⟨(some 47), .load (some 9) (.t 2), none, []⟩, ⟨(some 48), .load (some 4) (.t 6), none, []⟩, ⟨(some 49), .call 101 [(.t 47), (.t 48)], none, [0, 1]⟩, ⟨(some 50), .mv (.t 7), none, []⟩, ⟨none, .store 9 (.t 4) (.t 49), none, [2, 2, 0, 1, 2]⟩, ⟨(some 5), .mv (.t 50), none, [3, 4, 0, 1, 2, 3, 4]⟩]) (.ret))) (.seq (.reg false [⟨(some 52), .bin .eql (.t 20) (.v (.int .i64 9)), none, []⟩, ⟨(some 51), .mv (.t 52), none, [0]⟩]) (.cond (.t 51) (.seq (.reg false [⟨(some 53), .fld 3 (.t 6), none, []⟩, ⟨(some 54), .load none (.t 53), none, [0]⟩, ⟨(some 55), .bin .sub (.t 54) (.v (.int .i64 1)), none, [1]⟩, ⟨(some 56), .fld 3 (.t 6), none, [0, 1, 2]⟩, ⟨none, .store 1 (.t 56) (.t 55), none, [3, 2, 0, 1, 2]⟩]) (.seq (.reg true [⟨(some 57), .load (some 9) (.t 2), none, []⟩, ⟨(some 58), .load (some 4) (.t 6), none, []⟩, ⟨(some 59), .call 101 [(.t 57), (.t 58)], none, [0, 1]⟩, ⟨(some 60), .fld 3 (.t 6), none, []⟩, ⟨(some 61), .load none (.t 60), none, [3]⟩, ⟨(some 62), .bin .geq (.t 61) (.v (.int .i64 0)), none, [4]⟩, ⟨none, .store 9 (.t 4) (.t 59), none, [2, 2, 0, 1, 2]⟩, ⟨(some 5), .mv (.t 62), none, [5, 6, 0, 1, 2, 3, 4, 5, 6]⟩]) (.ret))) (.seq (.reg false [⟨(some 64), .bin .eql (.t 20) (.v (.int .i64 12)), none, []⟩, ⟨(some 63), .mv (.t 64), none, [0]⟩]) (.cond (.t 63) (.seq (.reg false [⟨(some 65), .load (some 9) (.t 2), none, []⟩, ⟨(some 66), .fld 2 (.t 3), none, []⟩, ⟨(some 67), .load none (.t 66), none, [1]⟩, ⟨(some 68), .fld 3 (.t 3), none, []⟩, ⟨(some 69), .load none (.t 68), none, [3]⟩, ⟨(some 70), .call 102 [(.t 65), (.t 67), (.t 69)], none, [0, 2, 4]⟩, ⟨(some 8), .mv (.t 70), none, [5, 5, 0, 1, 2, 3, 4, 5]⟩]) (.seq (.reg true [⟨(some 71), .bslice 98 2 [] 0 [], none, []⟩, ⟨(some 72), .fld 4 (.t 2), none, []⟩, ⟨(some 73), .load none (.t 72), none, [1]⟩, ⟨(some 74), .append 98 2 16 (.t 71) (.t 73), none, [0, 2]⟩, ⟨(some 75), .fld 2 (.t 3), none, []⟩, ⟨(some 76), .load none (.t 75), none, [4]⟩, ⟨(some 77), .fld 3 (.t 3), none, []⟩, ⟨(some 78), .load none (.t 77), none, [6]⟩, ⟨(some 79), .build [(.int .i64 0), (.int .i64 0)] [(0, 1, (.t 76)), (1, 1, (.t 78))], none, [5, 7]⟩, ⟨(some 80), .bslice 98 2 [(.int .i64 0), (.int .i64 0)] 1 [(0, 2, (.t 79))], none, [8]⟩, ⟨(some 81), .append 98 2 16 (.t 74) (.t 80), none, [3, 9, 3]⟩, ⟨(some 82), .fld 4 (.t 2), none, [0, 1, 2, 3, 4, 5, 6, 7, 8, 9, 10]⟩, ⟨none, .store 1 (.t 82) (.t 81), none, [11, 10, 10, 0, 1, 2, 3, 4, 5, 6, 7, 8, 9, 10]⟩]) (.seq (.reg false [⟨(some 83), .load (some 9) (.t 2), none, []⟩, ⟨(some 84), .mv (.t 8), none, []⟩, ⟨(some 85), .un .not (.t 84), none, [1]⟩, ⟨none, .store 9 (.t 4) (.t 83), none, [0, 0]⟩, ⟨(some 5), .mv (.t 85), none, [2, 3, 0, 1, 2, 3]⟩]) (.ret)))) (.seq (.reg false [⟨(some 87), .bin .eql (.t 20) (.v (.int .i64 13)), none, []⟩, ⟨(some 86), .mv (.t 87), none, [0]⟩]) (.cond (.t 86) (.seq (.reg true [⟨(some 88), .load (some 9) (.t 2), none, []⟩, ⟨(some 89), .load (some 9) (.t 2), none, []⟩, ⟨(some 90), .fld 2 (.t 3), none, []⟩, ⟨(some 91), .load none (.t 90), none, [2]⟩, ⟨(some 92), .fld 3 (.t 3), none, []⟩, ⟨(some 93), .load none (.t 92), none, [4]⟩, ⟨(some 94), .call 102 [(.t 89), (.t 91), (.t 93)], none, [1, 3, 5]⟩, ⟨none, .store 9 (.t 4) (.t 88), none, [0, 6, 0]⟩, ⟨(some 5), .mv (.t 94), none, [6, 7, 0, 1, 2, 3, 4, 5, 6, 7]⟩]) (.ret)) (.seq (.reg false [⟨(some 96), .bin .eql (.t 20) (.v (.int .i64 14)), none, []⟩, ⟨(some 95), .mv (.t 96), none, [0]⟩]) (.cond (.t 95) (.seq (.reg false [⟨(some 97), .fld 1 (.t 2), none, []⟩, ⟨(some 98), .load none (.t 97), none, [0]⟩, ⟨(some 9), .mv (.t 98), none, [1, 0, 1]⟩]) (.seq (.reg false [⟨(some 99), .fld 1 (.t 2), none, []⟩, ⟨(some 100), .load none (.t 99), none, [0]⟩, ⟨(some 101), .bin .add (.t 100) (.v (.int .i64 1)), none, [1]⟩, ⟨(some 102), .fld 1 (.t 2), none, [0, 1, 2]⟩, ⟨none, .store 1 (.t 102) (.t 101), none, [3, 2, 0, 1, 2]⟩]) (.seq (.reg true [⟨(some 103), .load (some 9) (.t 2), none, []⟩, ⟨(some 104), .fld 4 (.t 3), none, []⟩, ⟨(some 105), .load none (.t 104), none, [1]⟩, ⟨(some 106), .mv (.t 9), none, []⟩, ⟨(some 107), .bin .eql (.t 105) (.t 106), none, [2, 3]⟩, ⟨none, .store 9 (.t 4) (.t 103), none, [0, 0]⟩, ⟨(some 5), .mv (.t 107), none, [4, 5, 0, 1, 2, 3, 4, 5]⟩]) (.ret)))) (.skip))))))))))))))))) (.seq (.reg false [⟨(some 108), .load (some 9) (.t 2), none, []⟩, ⟨none, .store 9 (.t 4) (.t 108), none, [0, 0]⟩, ⟨(some 5), .mv (.v (.bool true)), none, [1, 0, 1]⟩]) (.ret)))))
def pr68 : List PR := [.c 4 (some 9), .t 5]
theorem bd68:Try.f68.body=some (Try.f68.body.getD .skip):=by kernel_rfl
theorem cp68:bK Try.prog Try.f68.ntmps iE (Try.f68.body.getD .skip)=some pc68:=by kernel_rfl
theorem sp68 [dH] {env:Env} (hE:aG Try.prog env) {R:List Pa→List Pa→Prop} (hR:∀ ps rs,R ps rs→ps.length≤109∧pwp env pc68 (fun e s=>(e=.normal∨e=.ret)∧s.res pr68=some rs) (St.init ps)):Spec Try.prog 68 R :=
 bM hE dO bF Try.func68 bd68 cp68 (by kernel_rfl) (by kernel_rfl) (by kernel_rfl) hR
def pc96 : PC := .seq (.reg false [⟨(some 2), .box (.t 0), none, []⟩, ⟨(some 3), .box (.t 1), none, []⟩, ⟨(some 4), .new [(.int .i64 0), (.int .i64 0), (.slice none 0 0), (.slice none 0 0), (.slice none 0 0), (.slice none 0 0), (.int .i64 0), (.int .i64 0), (.int .i64 0)], none, []⟩]) (.seq (.reg false [⟨(some 6), .load (some 9) (.t 2), none, []⟩, ⟨(some 7), .fld 2 (.t 3), none, []⟩, ⟨(some 8), .load none (.t 7), none, [1]⟩, ⟨(some 9), .fld 5 (.t 3), none, []⟩, ⟨(some 10), .load none (.t 9), none, [3]⟩, ⟨(some 11), .call 97 [(.t 6), (.t 8), (.t 10)], none, [0, 2, 4]⟩, ⟨(some 5), .new [(.int .i64 0), (.int .i64 0), (.int .i64 0), (.int .i64 0), (.bool false)], none, []⟩, ⟨none, .store 5 (.t 5) (.t 11), none, [6, 5, 5, 0, 1, 2, 3, 4, 5, 6]⟩]) (.seq (.seq (.reg false [⟨(some 12), .fld 1 (.t 3), none, []⟩, ⟨(some 13), .load none (.t 12), none, [0]⟩]) (.block 0 (.seq (.reg false [⟨(some 16), .bin .eql (.t 13) (.v (.int .i64 15)), none, []⟩, ⟨(some 15), .mv (.t 16), none, [0]⟩]) (.cond (.t 15) (.reg false [⟨(some 17), .fld 2 (.t 5), none, []⟩, ⟨(some 18), .load none (.t 17), none, [0]⟩, ⟨(some 19), .bin .add (.t 18) (.v (.int .i64 1)), none, [1]⟩, ⟨(some 20), .fld 2 (.t 5), none, [0, 1, 2]⟩, ⟨none, .store 1 (.t 20) (.t 19), none, [3, 2, 0, 1, 2]⟩]) (.seq (.reg false [⟨(some 22), .bin .eql (.t 13) (.v (.int .i64 17)), none, []⟩, ⟨(some 21), .mv (.t 22), none, [0]⟩]) (.cond (.t 21) (.reg false [⟨(some 23), .fld 3 (.t 5), none, []⟩, ⟨(some 24), .load none (.t 23), none, [0]⟩, ⟨(some 25), .bin .add (.t 24) (.v (.int .i64 1)), none, [1]⟩, ⟨(some 26), .fld 3 (.t 5), none, [0, 1, 2]⟩, ⟨none, .store 1 (.t 26) (.t 25), none, [3, 2, 0, 1, 2]⟩]) (.seq (.reg false [⟨(some 14), .load (some 9) (.t 2), none, []⟩, ⟨none, .store 9 (.t 4) (.t 14), none, [0, 0]⟩]) (.ret)))))))) (.seq (.reg false [⟨(some 27), .load (some 9) (.t 2), none, []⟩, ⟨(some 28), .load (some 5) (.t 5), none, []⟩, ⟨(some 29), .call 99 [(.t 27), (.t 28)], none, [0, 1]⟩, ⟨none, .store 9 (.t 4) (.t 29), none, [2, 2, 0, 1, 2]⟩]) (.ret))))
def pr96 : List PR := [.c 4 (some 9)]
theorem bd96:Try.f96.body=some (Try.f96.body.getD .skip):=by kernel_rfl
theorem cp96:bK Try.prog Try.f96.ntmps iE (Try.f96.body.getD .skip)=some pc96:=by kernel_rfl
theorem sp96 [dH] {env:Env} (hE:aG Try.prog env) {R:List Pa→List Pa→Prop} (hR:∀ ps rs,R ps rs→ps.length≤30∧pwp env pc96 (fun e s=>(e=.normal∨e=.ret)∧s.res pr96=some rs) (St.init ps)):Spec Try.prog 96 R :=
 bM hE dO bF Try.func96 bd96 cp96 (by kernel_rfl) (by kernel_rfl) (by kernel_rfl) hR
def pc97 : PC := .seq (.reg false [⟨(some 3), .box (.t 0), none, []⟩, ⟨(some 6), .new [(.int .i64 0), (.int .i64 0), (.int .i64 0), (.int .i64 0), (.bool false)], none, []⟩]) (.seq (.seq (.reg false [⟨(some 7), .mv (.v (.int .i64 0)), none, []⟩]) (.block 0 (.loop (.seq (.seq (.reg false [⟨(some 8), .mv (.t 7), none, []⟩, ⟨(some 9), .fld 2 (.t 3), none, []⟩, ⟨(some 10), .load none (.t 9), none, [1]⟩, ⟨(some 11), .len (.t 10), none, [2]⟩, ⟨(some 12), .bin .lss (.t 8) (.t 11), none, [0, 3]⟩]) (.cond (.t 12) (.skip) (.exit 0))) (.seq (.block 1 (.seq (.reg false [⟨(some 15), .fld 2 (.t 3), none, []⟩, ⟨(some 16), .load none (.t 15), none, [0]⟩, ⟨(some 17), .mv (.t 7), none, []⟩, ⟨(some 18), .ixs 5 (.t 16) (.t 17), none, [1, 2]⟩, ⟨(some 19), .fld 0 (.t 18), none, [3]⟩, ⟨(some 20), .load none (.t 19), none, [4]⟩, ⟨(some 21), .mv (.t 1), none, []⟩, ⟨(some 22), .bin .eql (.t 20) (.t 21), none, [5, 6]⟩]) (.cond (.t 22) (.seq (.reg false [⟨(some 23), .fld 2 (.t 3), none, []⟩, ⟨(some 24), .load none (.t 23), none, [0]⟩, ⟨(some 25), .mv (.t 7), none, []⟩, ⟨(some 26), .ixs 5 (.t 24) (.t 25), none, [1, 2]⟩, ⟨(some 27), .load (some 5) (.t 26), none, [3]⟩, ⟨none, .store 5 (.t 6) (.t 27), none, [4, 0, 1, 2, 3, 4]⟩]) (.ret)) (.skip)))) (.reg false [⟨(some 13), .mv (.t 7), none, []⟩, ⟨(some 14), .bin .add (.t 13) (.v (.int .i64 1)), none, [0]⟩, ⟨(some 7), .mv (.t 14), none, [1, 0, 1]⟩])))))) (.seq (.reg false [⟨(some 28), .mv (.t 1), none, []⟩, ⟨(some 29), .mv (.t 2), none, []⟩, ⟨(some 30), .build [(.int .i64 0), (.int .i64 0), (.int .i64 0), (.int .i64 0), (.bool false)] [(0, 1, (.t 28)), (1, 1, (.t 29))], none, [0, 1]⟩, ⟨none, .store 5 (.t 6) (.t 30), none, [2, 0, 1, 2]⟩]) (.ret)))
def pr97 : List PR := [.c 6 (some 5)]
abbrev ms97_0 : List Nat := [8, 9, 10, 11, 12, 15, 16, 17, 18, 19, 20, 21, 22, 23, 24, 25, 26, 27, 13, 14, 7]
abbrev os97_0 : List Nat := [6]
theorem bd97:Try.f97.body=some (Try.f97.body.getD .skip):=by kernel_rfl
theorem cp97:bK Try.prog Try.f97.ntmps iE (Try.f97.body.getD .skip)=some pc97:=by kernel_rfl
theorem sp97 [dH] {env:Env} (hE:aG Try.prog env) {R:List Pa→List Pa→Prop} (hR:∀ ps rs,R ps rs→ps.length≤31∧pwp env pc97 (fun e s=>(e=.normal∨e=.ret)∧s.res pr97=some rs) (St.init ps)):Spec Try.prog 97 R :=
 bM hE dO bF Try.func97 bd97 cp97 (by kernel_rfl) (by kernel_rfl) (by kernel_rfl) hR
def pc98 : PC := .seq (.reg false [⟨(some 3), .box (.t 0), none, []⟩, ⟨(some 4), .box (.t 1), none, []⟩, ⟨(some 6), .new [(.int .i64 0), (.int .i64 0), (.slice none 0 0), (.slice none 0 0), (.slice none 0 0), (.slice none 0 0), (.int .i64 0), (.int .i64 0), (.int .i64 0)], none, []⟩, ⟨(some 7), .mv (.v (.bool false)), none, []⟩]) (.seq (.reg true [⟨(some 8), .mv (.t 2), none, []⟩, ⟨(some 9), .fld 2 (.t 4), none, []⟩, ⟨(some 10), .load none (.t 9), none, [1]⟩, ⟨(some 11), .fld 4 (.t 4), none, []⟩, ⟨(some 12), .load none (.t 11), none, [3]⟩, ⟨(some 13), .fld 5 (.t 4), none, []⟩, ⟨(some 14), .load none (.t 13), none, [5]⟩, ⟨(some 15), .fld 5 (.t 3), none, [0]⟩, ⟨none, .store 1 (.t 15) (.t 8), none, [7, 0, 0]⟩, ⟨(some 16), .fld 6 (.t 3), none, [0, 1, 2, 7, 8]⟩, ⟨none, .store 1 (.t 16) (.t 10), none, [9, 2, 8, 0, 1, 2, 7, 8]⟩, ⟨(some 17), .fld 7 (.t 3), none, [0, 1, 2, 3, 4, 7, 8, 9, 10]⟩, ⟨none, .store 1 (.t 17) (.t 12), none, [11, 4, 10, 0, 1, 2, 3, 4, 7, 8, 9, 10]⟩, ⟨(some 18), .fld 8 (.t 3), none, [0, 1, 2, 3, 4, 5, 6, 7, 8, 9, 10, 11, 12]⟩, ⟨none, .store 1 (.t 18) (.t 14), none, [13, 6, 12, 0, 1, 2, 3, 4, 5, 6, 7, 8, 9, 10, 11, 12]⟩]) (.seq (.reg false [⟨(some 19), .load (some 9) (.t 3), none, []⟩, ⟨(some 20), .load (some 9) (.t 4), none, []⟩, ⟨(some 21), .call 96 [(.t 19), (.t 20)], none, [0, 1]⟩, ⟨none, .store 9 (.t 6) (.t 21), none, [2, 2, 0, 1, 2]⟩, ⟨(some 7), .mv (.v (.bool true)), none, [3, 0, 1, 2, 3]⟩]) (.ret)))
def pr98 : List PR := [.c 6 (some 9), .t 7]
theorem bd98:Try.f98.body=some (Try.f98.body.getD .skip):=by kernel_rfl
theorem cp98:bK Try.prog Try.f98.ntmps iE (Try.f98.body.getD .skip)=some pc98:=by kernel_rfl
theorem sp98 [dH] {env:Env} (hE:aG Try.prog env) {R:List Pa→List Pa→Prop} (hR:∀ ps rs,R ps rs→ps.length≤22∧pwp env pc98 (fun e s=>(e=.normal∨e=.ret)∧s.res pr98=some rs) (St.init ps)):Spec Try.prog 98 R :=
 bM hE dO bF Try.func98 bd98 cp98 (by kernel_rfl) (by kernel_rfl) (by kernel_rfl) hR
def pc99 : PC := .seq (.reg false [⟨(some 2), .box (.t 0), none, []⟩, ⟨(some 3), .box (.t 1), none, []⟩, ⟨(some 4), .new [(.int .i64 0), (.int .i64 0), (.slice none 0 0), (.slice none 0 0), (.slice none 0 0), (.slice none 0 0), (.int .i64 0), (.int .i64 0), (.int .i64 0)], none, []⟩]) (.seq (.reg false [⟨(some 5), .nilRow 146 5, none, []⟩]) (.seq (.seq (.reg false [⟨(some 6), .mv (.v (.int .i64 0)), none, []⟩]) (.block 0 (.loop (.seq (.seq (.reg false [⟨(some 7), .mv (.t 6), none, []⟩, ⟨(some 8), .fld 2 (.t 2), none, []⟩, ⟨(some 9), .load none (.t 8), none, [1]⟩, ⟨(some 10), .len (.t 9), none, [2]⟩, ⟨(some 11), .bin .lss (.t 7) (.t 10), none, [0, 3]⟩]) (.cond (.t 11) (.skip) (.exit 0))) (.seq (.block 1 (.seq (.reg true [⟨(some 14), .fld 2 (.t 2), none, []⟩, ⟨(some 15), .load none (.t 14), none, [0]⟩, ⟨(some 16), .mv (.t 6), none, []⟩, ⟨(some 17), .ixs 5 (.t 15) (.t 16), none, [1, 2]⟩, ⟨(some 18), .fld 0 (.t 17), none, [3]⟩, ⟨(some 19), .load none (.t 18), none, [4]⟩, ⟨(some 20), .fld 0 (.t 3), none, []⟩, ⟨(some 21), .load none (.t 20), none, [6]⟩, ⟨(some 22), .bin .neq (.t 19) (.t 21), none, [5, 7]⟩]) (.cond (.t 22) (.reg false [⟨(some 23), .mv (.t 5), none, []⟩, ⟨(some 24), .fld 2 (.t 2), none, []⟩, ⟨(some 25), .load none (.t 24), none, [1]⟩, ⟨(some 26), .mv (.t 6), none, []⟩, ⟨(some 27), .ixs 5 (.t 25) (.t 26), none, [2, 3]⟩, ⟨(some 28), .load (some 5) (.t 27), none, [4]⟩, ⟨(some 29), .bslice 146 5 [(.int .i64 0), (.int .i64 0), (.int .i64 0), (.int .i64 0), (.bool false)] 1 [(0, 5, (.t 28))], none, [5]⟩, ⟨(some 30), .append 146 5 40 (.t 23) (.t 29), none, [0, 6]⟩, ⟨(some 5), .mv (.t 30), none, [7, 7, 0, 1, 2, 3, 4, 5, 6, 7]⟩]) (.skip)))) (.reg false [⟨(some 12), .mv (.t 6), none, []⟩, ⟨(some 13), .bin .add (.t 12) (.v (.int .i64 1)), none, [0]⟩, ⟨(some 6), .mv (.t 13), none, [1, 0, 1]⟩])))))) (.seq (.reg false [⟨(some 31), .mv (.t 5), none, []⟩, ⟨(some 32), .load (some 5) (.t 3), none, []⟩, ⟨(some 33), .bslice 146 5 [(.int .i64 0), (.int .i64 0), (.int .i64 0), (.int .i64 0), (.bool false)] 1 [(0, 5, (.t 32))], none, [1]⟩, ⟨(some 34), .append 146 5 40 (.t 31) (.t 33), none, [0, 2]⟩, ⟨(some 35), .fld 2 (.t 2), none, [0, 1, 2, 3]⟩, ⟨none, .store 1 (.t 35) (.t 34), none, [4, 3, 3, 0, 1, 2, 3]⟩]) (.seq (.reg false [⟨(some 36), .load (some 9) (.t 2), none, []⟩, ⟨none, .store 9 (.t 4) (.t 36), none, [0, 0]⟩]) (.ret)))))
def pr99 : List PR := [.c 4 (some 9)]
abbrev ms99_0 : List Nat := [7, 8, 9, 10, 11, 14, 15, 16, 17, 18, 19, 20, 21, 22, 23, 24, 25, 26, 27, 28, 29, 30, 5, 12, 13, 6]
abbrev os99_0 : List Nat := [29, 5]
theorem bd99:Try.f99.body=some (Try.f99.body.getD .skip):=by kernel_rfl
theorem cp99:bK Try.prog Try.f99.ntmps iE (Try.f99.body.getD .skip)=some pc99:=by kernel_rfl
theorem sp99 [dH] {env:Env} (hE:aG Try.prog env) {R:List Pa→List Pa→Prop} (hR:∀ ps rs,R ps rs→ps.length≤37∧pwp env pc99 (fun e s=>(e=.normal∨e=.ret)∧s.res pr99=some rs) (St.init ps)):Spec Try.prog 99 R :=
 bM hE dO bF Try.func99 bd99 cp99 (by kernel_rfl) (by kernel_rfl) (by kernel_rfl) hR
def pc100 : PC := .seq (.reg false [⟨(some 3), .box (.t 0), none, []⟩, ⟨(some 6), .new [(.int .i64 0), (.int .i64 0), (.bool false), (.int .i64 0)], none, []⟩]) (.seq (.seq (.reg false [⟨(some 7), .mv (.v (.int .i64 0)), none, []⟩]) (.block 0 (.loop (.seq (.seq (.reg false [⟨(some 8), .mv (.t 7), none, []⟩, ⟨(some 9), .fld 3 (.t 3), none, []⟩, ⟨(some 10), .load none (.t 9), none, [1]⟩, ⟨(some 11), .len (.t 10), none, [2]⟩, ⟨(some 12), .bin .lss (.t 8) (.t 11), none, [0, 3]⟩]) (.cond (.t 12) (.skip) (.exit 0))) (.seq (.block 1 (.seq (.reg false [⟨(some 15), .fld 3 (.t 3), none, []⟩, ⟨(some 16), .load none (.t 15), none, [0]⟩, ⟨(some 17), .mv (.t 7), none, []⟩, ⟨(some 18), .ixs 4 (.t 16) (.t 17), none, [1, 2]⟩, ⟨(some 19), .fld 0 (.t 18), none, [3]⟩, ⟨(some 20), .load none (.t 19), none, [4]⟩, ⟨(some 21), .mv (.t 1), none, []⟩, ⟨(some 22), .bin .eql (.t 20) (.t 21), none, [5, 6]⟩, ⟨(some 23), .mv (.t 22), none, [7]⟩, ⟨(some 24), .fld 3 (.t 3), (some (23, true)), [8]⟩, ⟨(some 25), .load none (.t 24), (some (23, true)), [9, 8]⟩, ⟨(some 26), .mv (.t 7), (some (23, true)), [8]⟩, ⟨(some 27), .ixs 4 (.t 25) (.t 26), (some (23, true)), [10, 11, 8]⟩, ⟨(some 28), .fld 1 (.t 27), (some (23, true)), [12, 8]⟩, ⟨(some 29), .load none (.t 28), (some (23, true)), [13, 8]⟩, ⟨(some 30), .mv (.t 2), (some (23, true)), [8]⟩, ⟨(some 31), .bin .eql (.t 29) (.t 30), (some (23, true)), [14, 15, 8]⟩, ⟨(some 32), .pick (.t 23) (.t 31) (.v (.bool false)), none, [8, 16]⟩]) (.cond (.t 32) (.seq (.reg false [⟨(some 33), .fld 3 (.t 3), none, []⟩, ⟨(some 34), .load none (.t 33), none, [0]⟩, ⟨(some 35), .mv (.t 7), none, []⟩, ⟨(some 36), .ixs 4 (.t 34) (.t 35), none, [1, 2]⟩, ⟨(some 37), .load (some 4) (.t 36), none, [3]⟩, ⟨none, .store 4 (.t 6) (.t 37), none, [4, 0, 1, 2, 3, 4]⟩]) (.ret)) (.skip)))) (.reg false [⟨(some 13), .mv (.t 7), none, []⟩, ⟨(some 14), .bin .add (.t 13) (.v (.int .i64 1)), none, [0]⟩, ⟨(some 7), .mv (.t 14), none, [1, 0, 1]⟩])))))) (.seq (.reg false [⟨(some 38), .mv (.t 1), none, []⟩, ⟨(some 39), .mv (.t 2), none, []⟩, ⟨(some 40), .build [(.int .i64 0), (.int .i64 0), (.bool false), (.int .i64 0)] [(0, 1, (.t 38)), (1, 1, (.t 39))], none, [0, 1]⟩, ⟨none, .store 4 (.t 6) (.t 40), none, [2, 0, 1, 2]⟩]) (.ret)))
def pr100 : List PR := [.c 6 (some 4)]
abbrev ms100_0 : List Nat := [8, 9, 10, 11, 12, 15, 16, 17, 18, 19, 20, 21, 22, 23, 24, 25, 26, 27, 28, 29, 30, 31, 32, 33, 34, 35, 36, 37, 13, 14, 7]
abbrev os100_0 : List Nat := [6]
theorem bd100:Try.f100.body=some (Try.f100.body.getD .skip):=by kernel_rfl
theorem cp100:bK Try.prog Try.f100.ntmps iE (Try.f100.body.getD .skip)=some pc100:=by kernel_rfl
theorem sp100 [dH] {env:Env} (hE:aG Try.prog env) {R:List Pa→List Pa→Prop} (hR:∀ ps rs,R ps rs→ps.length≤41∧pwp env pc100 (fun e s=>(e=.normal∨e=.ret)∧s.res pr100=some rs) (St.init ps)):Spec Try.prog 100 R :=
 bM hE dO bF Try.func100 bd100 cp100 (by kernel_rfl) (by kernel_rfl) (by kernel_rfl) hR
def pc101 : PC := .seq (.reg false [⟨(some 2), .box (.t 0), none, []⟩, ⟨(some 3), .box (.t 1), none, []⟩, ⟨(some 4), .new [(.int .i64 0), (.int .i64 0), (.slice none 0 0), (.slice none 0 0), (.slice none 0 0), (.slice none 0 0), (.int .i64 0), (.int .i64 0), (.int .i64 0)], none, []⟩]) (.seq (.reg false [⟨(some 5), .nilRow 151 4, none, []⟩]) (.seq (.seq (.reg false [⟨(some 6), .mv (.v (.int .i64 0)), none, []⟩]) (.block 0 (.loop (.seq (.seq (.reg false [⟨(some 7), .mv (.t 6), none, []⟩, ⟨(some 8), .fld 3 (.t 2), none, []⟩, ⟨(some 9), .load none (.t 8), none, [1]⟩, ⟨(some 10), .len (.t 9), none, [2]⟩, ⟨(some 11), .bin .lss (.t 7) (.t 10), none, [0, 3]⟩]) (.cond (.t 11) (.skip) (.exit 0))) (.seq (.block 1 (.seq (.reg true [⟨(some 14), .fld 3 (.t 2), none, []⟩, ⟨(some 15), .load none (.t 14), none, [0]⟩, ⟨(some 16), .mv (.t 6), none, []⟩, ⟨(some 17), .ixs 4 (.t 15) (.t 16), none, [1, 2]⟩, ⟨(some 18), .fld 0 (.t 17), none, [3]⟩, ⟨(some 19), .load none (.t 18), none, [4]⟩, ⟨(some 20), .fld 0 (.t 3), none, []⟩, ⟨(some 21), .load none (.t 20), none, [6]⟩, ⟨(some 22), .bin .neq (.t 19) (.t 21), none, [5, 7]⟩, ⟨(some 23), .mv (.t 22), none, [8]⟩, ⟨(some 24), .fld 3 (.t 2), (some (23, false)), [9]⟩, ⟨(some 25), .load none (.t 24), (some (23, false)), [10, 9]⟩, ⟨(some 26), .mv (.t 6), (some (23, false)), [9]⟩, ⟨(some 27), .ixs 4 (.t 25) (.t 26), (some (23, false)), [11, 12, 9]⟩, ⟨(some 28), .fld 1 (.t 27), (some (23, false)), [13, 9]⟩, ⟨(some 29), .load none (.t 28), (some (23, false)), [14, 9]⟩, ⟨(some 30), .fld 1 (.t 3), (some (23, false)), [9]⟩, ⟨(some 31), .load none (.t 30), (some (23, false)), [16, 9]⟩, ⟨(some 32), .bin .neq (.t 29) (.t 31), (some (23, false)), [15, 17, 9]⟩, ⟨(some 33), .pick (.t 23) (.v (.bool true)) (.t 32), none, [9, 18]⟩]) (.cond (.t 33) (.reg false [⟨(some 34), .mv (.t 5), none, []⟩, ⟨(some 35), .fld 3 (.t 2), none, []⟩, ⟨(some 36), .load none (.t 35), none, [1]⟩, ⟨(some 37), .mv (.t 6), none, []⟩, ⟨(some 38), .ixs 4 (.t 36) (.t 37), none, [2, 3]⟩, ⟨(some 39), .load (some 4) (.t 38), none, [4]⟩, ⟨(some 40), .bslice 151 4 [(.int .i64 0), (.int .i64 0), (.bool false), (.int .i64 0)] 1 [(0, 4, (.t 39))], none, [5]⟩, ⟨(some 41), .append 151 4 32 (.t 34) (.t 40), none, [0, 6]⟩, ⟨(some 5), .mv (.t 41), none, [7, 7, 0, 1, 2, 3, 4, 5, 6, 7]⟩]) (.skip)))) (.reg false [⟨(some 12), .mv (.t 6), none, []⟩, ⟨(some 13), .bin .add (.t 12) (.v (.int .i64 1)), none, [0]⟩, ⟨(some 6), .mv (.t 13), none, [1, 0, 1]⟩])))))) (.seq (.reg false [⟨(some 42), .mv (.t 5), none, []⟩, ⟨(some 43), .load (some 4) (.t 3), none, []⟩, ⟨(some 44), .bslice 151 4 [(.int .i64 0), (.int .i64 0), (.bool false), (.int .i64 0)] 1 [(0, 4, (.t 43))], none, [1]⟩, ⟨(some 45), .append 151 4 32 (.t 42) (.t 44), none, [0, 2]⟩, ⟨(some 46), .fld 3 (.t 2), none, [0, 1, 2, 3]⟩, ⟨none, .store 1 (.t 46) (.t 45), none, [4, 3, 3, 0, 1, 2, 3]⟩]) (.seq (.reg false [⟨(some 47), .load (some 9) (.t 2), none, []⟩, ⟨none, .store 9 (.t 4) (.t 47), none, [0, 0]⟩]) (.ret)))))
def pr101 : List PR := [.c 4 (some 9)]
abbrev ms101_0 : List Nat := [7, 8, 9, 10, 11, 14, 15, 16, 17, 18, 19, 20, 21, 22, 23, 24, 25, 26, 27, 28, 29, 30, 31, 32, 33, 34, 35, 36, 37, 38, 39, 40, 41, 5, 12, 13, 6]
abbrev os101_0 : List Nat := [40, 5]
theorem bd101:Try.f101.body=some (Try.f101.body.getD .skip):=by kernel_rfl
theorem cp101:bK Try.prog Try.f101.ntmps iE (Try.f101.body.getD .skip)=some pc101:=by kernel_rfl
theorem sp101 [dH] {env:Env} (hE:aG Try.prog env) {R:List Pa→List Pa→Prop} (hR:∀ ps rs,R ps rs→ps.length≤48∧pwp env pc101 (fun e s=>(e=.normal∨e=.ret)∧s.res pr101=some rs) (St.init ps)):Spec Try.prog 101 R :=
 bM hE dO bF Try.func101 bd101 cp101 (by kernel_rfl) (by kernel_rfl) (by kernel_rfl) hR
def pc102 : PC := .seq (.reg false [⟨(some 3), .box (.t 0), none, []⟩, ⟨(some 6), .mv (.v (.bool false)), none, []⟩]) (.seq (.seq (.reg false [⟨(some 7), .mv (.v (.int .i64 0)), none, []⟩]) (.block 0 (.loop (.seq (.seq (.reg false [⟨(some 8), .mv (.t 7), none, []⟩, ⟨(some 9), .fld 4 (.t 3), none, []⟩, ⟨(some 10), .load none (.t 9), none, [1]⟩, ⟨(some 11), .len (.t 10), none, [2]⟩, ⟨(some 12), .bin .lss (.t 8) (.t 11), none, [0, 3]⟩]) (.cond (.t 12) (.skip) (.exit 0))) (.seq (.block 1 (.seq (.reg false [⟨(some 15), .fld 4 (.t 3), none, []⟩, ⟨(some 16), .load none (.t 15), none, [0]⟩, ⟨(some 17), .mv (.t 7), none, []⟩, ⟨(some 18), .ixs 2 (.t 16) (.t 17), none, [1, 2]⟩, ⟨(some 19), .fld 0 (.t 18), none, [3]⟩, ⟨(some 20), .load none (.t 19), none, [4]⟩, ⟨(some 21), .mv (.t 1), none, []⟩, ⟨(some 22), .bin .eql (.t 20) (.t 21), none, [5, 6]⟩, ⟨(some 23), .mv (.t 22), none, [7]⟩, ⟨(some 24), .fld 4 (.t 3), (some (23, true)), [8]⟩, ⟨(some 25), .load none (.t 24), (some (23, true)), [9, 8]⟩, ⟨(some 26), .mv (.t 7), (some (23, true)), [8]⟩, ⟨(some 27), .ixs 2 (.t 25) (.t 26), (some (23, true)), [10, 11, 8]⟩, ⟨(some 28), .fld 1 (.t 27), (some (23, true)), [12, 8]⟩, ⟨(some 29), .load none (.t 28), (some (23, true)), [13, 8]⟩, ⟨(some 30), .mv (.t 2), (some (23, true)), [8]⟩, ⟨(some 31), .bin .eql (.t 29) (.t 30), (some (23, true)), [14, 15, 8]⟩, ⟨(some 32), .pick (.t 23) (.t 31) (.v (.bool false)), none, [8, 16]⟩]) (.cond (.t 32) (.seq (.reg false [⟨(some 6), .mv (.v (.bool true)), none, []⟩]) (.ret)) (.skip)))) (.reg false [⟨(some 13), .mv (.t 7), none, []⟩, ⟨(some 14), .bin .add (.t 13) (.v (.int .i64 1)), none, [0]⟩, ⟨(some 7), .mv (.t 14), none, [1, 0, 1]⟩])))))) (.seq (.reg false [⟨(some 6), .mv (.v (.bool false)), none, []⟩]) (.ret)))
def pr102 : List PR := [.t 6]
abbrev ms102_0 : List Nat := [8, 9, 10, 11, 12, 15, 16, 17, 18, 19, 20, 21, 22, 23, 24, 25, 26, 27, 28, 29, 30, 31, 32, 6, 13, 14, 7]
abbrev os102_0 : List Nat := []
theorem bd102:Try.f102.body=some (Try.f102.body.getD .skip):=by kernel_rfl
theorem cp102:bK Try.prog Try.f102.ntmps iE (Try.f102.body.getD .skip)=some pc102:=by kernel_rfl
theorem sp102 [dH] {env:Env} (hE:aG Try.prog env) {R:List Pa→List Pa→Prop} (hR:∀ ps rs,R ps rs→ps.length≤33∧pwp env pc102 (fun e s=>(e=.normal∨e=.ret)∧s.res pr102=some rs) (St.init ps)):Spec Try.prog 102 R :=
 bM hE dO bF Try.func102 bd102 cp102 (by kernel_rfl) (by kernel_rfl) (by kernel_rfl) hR
def pc20 : PC := .seq (.reg false [⟨(some 0), .new [(.int .i64 0), (.int .i64 0), (.slice none 0 0), (.slice none 0 0), (.slice none 0 0), (.slice none 0 0), (.int .i64 0), (.int .i64 0), (.int .i64 0)], none, []⟩]) (.seq (.reg false [⟨(some 1), .build [(.int .i64 0), (.int .i64 0), (.slice none 0 0), (.slice none 0 0), (.slice none 0 0), (.slice none 0 0), (.int .i64 0), (.int .i64 0), (.int .i64 0)] [(1, 1, (.v (.int .i64 1)))], none, []⟩, ⟨none, .store 9 (.t 0) (.t 1), none, [0, 0]⟩]) (.ret))
def pr20 : List PR := [.c 0 (some 9)]
theorem bd20:Try.f20.body=some (Try.f20.body.getD .skip):=by kernel_rfl
theorem cp20:bK Try.prog Try.f20.ntmps iE (Try.f20.body.getD .skip)=some pc20:=by kernel_rfl
theorem sp20 [dH] {env:Env} (hE:aG Try.prog env) {R:List Pa→List Pa→Prop} (hR:∀ ps rs,R ps rs→ps.length≤2∧pwp env pc20 (fun e s=>(e=.normal∨e=.ret)∧s.res pr20=some rs) (St.init ps)):Spec Try.prog 20 R :=
 bM hE dO bF Try.func20 bd20 cp20 (by kernel_rfl) (by kernel_rfl) (by kernel_rfl) hR
def pc27 : PC := .seq (.reg false [⟨(some 2), .mv (.v (.bool false)), none, []⟩]) (.seq (.reg false [⟨(some 6), .mv (.t 0), none, []⟩, ⟨(some 7), .call 72 [(.t 6)], none, [0]⟩, ⟨(some 5), .mv (.t 7), none, [1]⟩, ⟨(some 8), .ext (.t 5) 0, none, [2]⟩, ⟨(some 9), .ext (.t 5) 1, none, [2]⟩, ⟨(some 3), .mv (.t 8), none, [3, 1, 0, 1, 2, 3]⟩, ⟨(some 4), .mv (.t 9), none, [4, 5, 0, 1, 2, 3, 4, 5]⟩]) (.seq (.reg false [⟨(some 10), .mv (.t 4), none, []⟩, ⟨(some 2), .mv (.t 10), none, [0, 0]⟩]) (.ret)))
def pr27 : List PR := [.t 2]
theorem bd27:Try.f27.body=some (Try.f27.body.getD .skip):=by kernel_rfl
theorem cp27:bK Try.prog Try.f27.ntmps iE (Try.f27.body.getD .skip)=some pc27:=by kernel_rfl
theorem sp27 [dH] {env:Env} (hE:aG Try.prog env) {R:List Pa→List Pa→Prop} (hR:∀ ps rs,R ps rs→ps.length≤11∧pwp env pc27 (fun e s=>(e=.normal∨e=.ret)∧s.res pr27=some rs) (St.init ps)):Spec Try.prog 27 R :=
 bM hE dO bF Try.func27 bd27 cp27 (by kernel_rfl) (by kernel_rfl) (by kernel_rfl) hR
def pc72 : PC := .seq (.reg false [⟨(some 2), .mv (.v (.int .i64 0)), none, []⟩, ⟨(some 3), .mv (.v (.bool false)), none, [0]⟩]) (.seq (.reg false [⟨(some 8), .call 20 [], none, []⟩, ⟨(some 4), .new [(.int .i64 0), (.int .i64 0), (.slice none 0 0), (.slice none 0 0), (.slice none 0 0), (.slice none 0 0), (.int .i64 0), (.int .i64 0), (.int .i64 0)], none, []⟩, ⟨none, .store 9 (.t 4) (.t 8), none, [1, 0, 0, 0, 1]⟩]) (.seq (.seq (.reg false [⟨(some 5), .mv (.v (.int .i64 0)), none, []⟩]) (.block 0 (.loop (.seq (.seq (.reg false [⟨(some 9), .mv (.t 5), none, []⟩, ⟨(some 10), .mv (.t 0), none, []⟩, ⟨(some 11), .len (.t 10), none, [1]⟩, ⟨(some 12), .bin .lss (.t 9) (.t 11), none, [0, 2]⟩]) (.cond (.t 12) (.skip) (.exit 0))) (.seq (.block 1 (.seq (.reg true [⟨(some 16), .load (some 9) (.t 4), none, []⟩, ⟨(some 17), .mv (.t 0), none, []⟩, ⟨(some 18), .mv (.t 5), none, []⟩, ⟨(some 19), .ixs 9 (.t 17) (.t 18), none, [1, 2]⟩, ⟨(some 20), .load (some 9) (.t 19), none, [3]⟩, ⟨(some 21), .call 22 [(.t 16), (.t 20)], none, [0, 4]⟩, ⟨(some 15), .mv (.t 21), none, [5]⟩, ⟨(some 22), .ext (.t 15) 0, none, [6]⟩, ⟨(some 23), .ext (.t 15) 1, none, [6]⟩, ⟨(some 6), .new [(.int .i64 0), (.int .i64 0), (.slice none 0 0), (.slice none 0 0), (.slice none 0 0), (.slice none 0 0), (.int .i64 0), (.int .i64 0), (.int .i64 0)], none, []⟩, ⟨none, .store 9 (.t 6) (.t 22), none, [9, 7, 5, 0, 1, 2, 3, 4, 5, 6, 7, 9]⟩, ⟨(some 7), .mv (.t 23), none, [8, 10, 0, 1, 2, 3, 4, 5, 6, 7, 8, 9, 10]⟩]) (.seq (.seq (.reg false [⟨(some 24), .mv (.t 7), none, []⟩, ⟨(some 25), .un .not (.t 24), none, [0]⟩]) (.cond (.t 25) (.seq (.reg false [⟨(some 26), .mv (.t 5), none, []⟩, ⟨(some 2), .mv (.t 26), none, [0, 0]⟩, ⟨(some 3), .mv (.v (.bool false)), none, [1, 0, 1]⟩]) (.ret)) (.skip))) (.reg false [⟨(some 27), .load (some 9) (.t 6), none, []⟩, ⟨none, .store 9 (.t 4) (.t 27), none, [0, 0]⟩])))) (.reg false [⟨(some 13), .mv (.t 5), none, []⟩, ⟨(some 14), .bin .add (.t 13) (.v (.int .i64 1)), none, [0]⟩, ⟨(some 5), .mv (.t 14), none, [1, 0, 1]⟩])))))) (.seq (.reg false [⟨(some 28), .mv (.t 0), none, []⟩, ⟨(some 29), .len (.t 28), none, [0]⟩, ⟨(some 2), .mv (.t 29), none, [1, 0, 1]⟩, ⟨(some 3), .mv (.v (.bool true)), none, [2, 0, 1, 2]⟩]) (.ret))))
def pr72 : List PR := [.t 2, .t 3]
abbrev ms72_0 : List Nat := [9, 10, 11, 12, 16, 17, 18, 19, 20, 21, 15, 22, 23, 6, 7, 24, 25, 26, 2, 3, 27, 13, 14, 5]
abbrev os72_0 : List Nat := [6, 4]
theorem bd72:Try.f72.body=some (Try.f72.body.getD .skip):=by kernel_rfl
theorem cp72:bK Try.prog Try.f72.ntmps iE (Try.f72.body.getD .skip)=some pc72:=by kernel_rfl
theorem sp72 [dH] {env:Env} (hE:aG Try.prog env) {R:List Pa→List Pa→Prop} (hR:∀ ps rs,R ps rs→ps.length≤30∧pwp env pc72 (fun e s=>(e=.normal∨e=.ret)∧s.res pr72=some rs) (St.init ps)):Spec Try.prog 72 R :=
 bM hE dO bF Try.func72 bd72 cp72 (by kernel_rfl) (by kernel_rfl) (by kernel_rfl) hR
def pc64c0 : PC := .seq (.reg false [⟨(some 108), .fld 4 (.t 1), none, []⟩, ⟨(some 109), .load none (.t 108), none, [0]⟩, ⟨(some 110), .bin .eql (.t 109) (.v (.int .i64 0)), none, [1]⟩, ⟨(some 111), .mv (.t 110), none, [2]⟩, ⟨(some 112), .fld 5 (.t 1), (some (111, true)), [3]⟩, ⟨(some 113), .load none (.t 112), (some (111, true)), [4, 3]⟩, ⟨(some 114), .bin .eql (.t 113) (.v (.int .i64 0)), (some (111, true)), [5, 3]⟩, ⟨(some 115), .pick (.t 111) (.t 114) (.v (.bool false)), none, [3, 6]⟩, ⟨(some 2), .mv (.t 115), none, [7, 3, 0, 1, 2, 3, 4, 5, 6, 7]⟩]) (.ret)
def pc64c1 : PC := .seq (.reg false [⟨(some 56), .fld 2 (.t 1), none, []⟩, ⟨(some 57), .load none (.t 56), none, [0]⟩, ⟨(some 58), .bin .eql (.t 57) (.v (.int .i64 0)), none, [1]⟩, ⟨(some 59), .mv (.t 58), none, [2]⟩, ⟨(some 60), .fld 3 (.t 1), (some (59, true)), [3]⟩, ⟨(some 61), .load none (.t 60), (some (59, true)), [4, 3]⟩, ⟨(some 62), .bin .eql (.t 61) (.v (.int .i64 0)), (some (59, true)), [5, 3]⟩, ⟨(some 63), .pick (.t 59) (.t 62) (.v (.bool false)), none, [3, 6]⟩, ⟨(some 64), .mv (.t 63), none, [7, 3]⟩, ⟨(some 65), .fld 5 (.t 1), (some (64, true)), [8]⟩, ⟨(some 66), .load none (.t 65), (some (64, true)), [9, 8]⟩, ⟨(some 67), .bin .eql (.t 66) (.v (.int .i64 0)), (some (64, true)), [10, 8]⟩, ⟨(some 68), .pick (.t 64) (.t 67) (.v (.bool false)), none, [8, 11]⟩, ⟨(some 69), .mv (.t 68), none, [12, 8]⟩, ⟨(some 70), .fld 4 (.t 1), (some (69, true)), [13]⟩, ⟨(some 71), .load none (.t 70), (some (69, true)), [14, 13]⟩, ⟨(some 72), .bin .gtr (.t 71) (.v (.int .i64 0)), (some (69, true)), [15, 13]⟩, ⟨(some 73), .pick (.t 69) (.t 72) (.v (.bool false)), none, [13, 16]⟩, ⟨(some 74), .mv (.t 73), none, [17, 13]⟩, ⟨(some 75), .fld 4 (.t 1), (some (74, true)), [18]⟩, ⟨(some 76), .load none (.t 75), (some (74, true)), [19, 18]⟩, ⟨(some 77), .bin .lss (.t 76) (.v (.int .i64 8)), (some (74, true)), [20, 18]⟩, ⟨(some 78), .pick (.t 74) (.t 77) (.v (.bool false)), none, [18, 21]⟩, ⟨(some 2), .mv (.t 78), none, [22, 18, 0, 1, 2, 3, 4, 5, 6, 7, 8, 9, 10, 11, 12, 13, 14, 15, 16, 17, 18, 19, 20, 21, 22]⟩]) (.ret)
def pc64c2 : PC := .seq (.reg false [⟨(some 84), .fld 3 (.t 1), none, []⟩, ⟨(some 85), .load none (.t 84), none, [0]⟩, ⟨(some 86), .bin .eql (.t 85) (.v (.int .i64 0)), none, [1]⟩, ⟨(some 87), .mv (.t 86), none, [2]⟩, ⟨(some 88), .fld 5 (.t 1), (some (87, true)), [3]⟩, ⟨(some 89), .load none (.t 88), (some (87, true)), [4, 3]⟩, ⟨(some 90), .bin .leq (.t 89) (.v (.int .i64 64)), (some (87, true)), [5, 3]⟩, ⟨(some 91), .pick (.t 87) (.t 90) (.v (.bool false)), none, [3, 6]⟩, ⟨(some 2), .mv (.t 91), none, [7, 3, 0, 1, 2, 3, 4, 5, 6, 7]⟩]) (.ret)
def pc64c3 : PC := .seq (.reg false [⟨(some 95), .fld 3 (.t 1), none, []⟩, ⟨(some 96), .load none (.t 95), none, [0]⟩, ⟨(some 97), .bin .eql (.t 96) (.v (.int .i64 0)), none, [1]⟩, ⟨(some 98), .mv (.t 97), none, [2]⟩, ⟨(some 99), .fld 4 (.t 1), (some (98, true)), [3]⟩, ⟨(some 100), .load none (.t 99), (some (98, true)), [4, 3]⟩, ⟨(some 101), .bin .eql (.t 100) (.v (.int .i64 0)), (some (98, true)), [5, 3]⟩, ⟨(some 102), .pick (.t 98) (.t 101) (.v (.bool false)), none, [3, 6]⟩, ⟨(some 103), .mv (.t 102), none, [7, 3]⟩, ⟨(some 104), .fld 5 (.t 1), (some (103, true)), [8]⟩, ⟨(some 105), .load none (.t 104), (some (103, true)), [9, 8]⟩, ⟨(some 106), .bin .leq (.t 105) (.v (.int .i64 64)), (some (103, true)), [10, 8]⟩, ⟨(some 107), .pick (.t 103) (.t 106) (.v (.bool false)), none, [8, 11]⟩, ⟨(some 2), .mv (.t 107), none, [12, 8, 0, 1, 2, 3, 4, 5, 6, 7, 8, 9, 10, 11, 12]⟩]) (.ret)
def pc64c4 : PC := .seq (.seq (.reg false [⟨(some 93), .bin .eql (.t 53) (.v (.int .i64 19)), none, []⟩, ⟨(some 92), .mv (.t 93), none, [0]⟩]) (.cond (.t 92) (.skip) (.reg false [⟨(some 94), .bin .eql (.t 53) (.v (.int .i64 20)), none, []⟩, ⟨(some 92), .mv (.t 94), none, [0]⟩]))) (.cond (.t 92) (pc64c3) (.skip))
def pc64c5 : PC := .seq (.seq (.reg false [⟨(some 80), .bin .eql (.t 53) (.v (.int .i64 15)), none, []⟩, ⟨(some 79), .mv (.t 80), none, [0]⟩]) (.cond (.t 79) (.skip) (.seq (.reg false [⟨(some 81), .bin .eql (.t 53) (.v (.int .i64 16)), none, []⟩, ⟨(some 79), .mv (.t 81), none, [0]⟩]) (.cond (.t 79) (.skip) (.seq (.reg false [⟨(some 82), .bin .eql (.t 53) (.v (.int .i64 17)), none, []⟩, ⟨(some 79), .mv (.t 82), none, [0]⟩]) (.cond (.t 79) (.skip) (.reg false [⟨(some 83), .bin .eql (.t 53) (.v (.int .i64 18)), none, []⟩, ⟨(some 79), .mv (.t 83), none, [0]⟩]))))))) (.cond (.t 79) (pc64c2) (pc64c4))
def pc64c6 : PC := .seq (.reg false [⟨(some 52), .fld 1 (.t 1), none, []⟩, ⟨(some 53), .load none (.t 52), none, [0]⟩]) (.block 2 (.seq (.reg false [⟨(some 55), .bin .eql (.t 53) (.v (.int .i64 14)), none, []⟩, ⟨(some 54), .mv (.t 55), none, [0]⟩]) (.cond (.t 54) (pc64c1) (pc64c5))))
def pc64c7 : PC := .seq (pc64c6) (pc64c0)
def pc64c8 : PC := .seq (.seq (.reg false [⟨(some 4), .mv (.v (.int .i64 0)), none, []⟩]) (.block 0 (.loop (.seq (.seq (.reg false [⟨(some 34), .mv (.t 4), none, []⟩, ⟨(some 35), .mv (.t 3), none, []⟩, ⟨(some 36), .len (.t 35), none, [1]⟩, ⟨(some 37), .bin .lss (.t 34) (.t 36), none, [0, 2]⟩]) (.cond (.t 37) (.skip) (.exit 0))) (.seq (.block 1 (.seq (.reg false [⟨(some 40), .mv (.t 3), none, []⟩, ⟨(some 41), .mv (.t 4), none, []⟩, ⟨(some 42), .ixs 1 (.t 40) (.t 41), none, [0, 1]⟩, ⟨(some 43), .load none (.t 42), none, [2]⟩, ⟨(some 44), .bin .lss (.t 43) (.v (.int .i64 0)), none, [3]⟩, ⟨(some 45), .mv (.t 44), none, [4]⟩, ⟨(some 46), .mv (.t 3), (some (45, false)), [5]⟩, ⟨(some 47), .mv (.t 4), (some (45, false)), [5]⟩, ⟨(some 48), .ixs 1 (.t 46) (.t 47), (some (45, false)), [6, 7, 5]⟩, ⟨(some 49), .load none (.t 48), (some (45, false)), [8, 5]⟩, ⟨(some 50), .bin .gtr (.t 49) (.v (.int .i64 2147483647)), (some (45, false)), [9, 5]⟩, ⟨(some 51), .pick (.t 45) (.v (.bool true)) (.t 50), none, [5, 10]⟩]) (.cond (.t 51) (.seq (.reg false [⟨(some 2), .mv (.v (.bool false)), none, []⟩]) (.ret)) (.skip)))) (.reg false [⟨(some 38), .mv (.t 4), none, []⟩, ⟨(some 39), .bin .add (.t 38) (.v (.int .i64 1)), none, [0]⟩, ⟨(some 4), .mv (.t 39), none, [1, 0, 1]⟩])))))) (pc64c7)
def pc64c9 : PC := .seq (.reg false [⟨(some 19), .fld 2 (.t 1), none, []⟩, ⟨(some 20), .load none (.t 19), none, [0]⟩, ⟨(some 21), .fld 3 (.t 1), none, []⟩, ⟨(some 22), .load none (.t 21), none, [2]⟩, ⟨(some 23), .fld 4 (.t 1), none, []⟩, ⟨(some 24), .load none (.t 23), none, [4]⟩, ⟨(some 25), .fld 5 (.t 1), none, []⟩, ⟨(some 26), .load none (.t 25), none, [6]⟩, ⟨(some 27), .fld 6 (.t 1), none, []⟩, ⟨(some 28), .load none (.t 27), none, [8]⟩, ⟨(some 29), .fld 7 (.t 1), none, []⟩, ⟨(some 30), .load none (.t 29), none, [10]⟩, ⟨(some 31), .fld 8 (.t 1), none, []⟩, ⟨(some 32), .load none (.t 31), none, [12]⟩, ⟨(some 33), .bslice 3 1 [(.int .i64 0), (.int .i64 0), (.int .i64 0), (.int .i64 0), (.int .i64 0), (.int .i64 0), (.int .i64 0)] 7 [(0, 1, (.t 20)), (1, 1, (.t 22)), (2, 1, (.t 24)), (3, 1, (.t 26)), (4, 1, (.t 28)), (5, 1, (.t 30)), (6, 1, (.t 32))], none, [1, 3, 5, 7, 9, 11, 13]⟩, ⟨(some 3), .mv (.t 33), none, [14, 0, 1, 2, 3, 4, 5, 6, 7, 8, 9, 10, 11, 12, 13, 14]⟩]) (pc64c8)
def pc64 : PC := .seq (.reg false [⟨(some 1), .box (.t 0), none, []⟩, ⟨(some 2), .mv (.v (.bool false)), none, []⟩]) (.seq (.seq (.reg false [⟨(some 5), .fld 0 (.t 1), none, []⟩, ⟨(some 6), .load none (.t 5), none, [0]⟩, ⟨(some 7), .bin .lss (.t 6) (.v (.int .i64 0)), none, [1]⟩, ⟨(some 8), .mv (.t 7), none, [2]⟩, ⟨(some 9), .fld 0 (.t 1), (some (8, false)), [3]⟩, ⟨(some 10), .load none (.t 9), (some (8, false)), [4, 3]⟩, ⟨(some 11), .bin .geq (.t 10) (.v (.int .i64 8)), (some (8, false)), [5, 3]⟩, ⟨(some 12), .pick (.t 8) (.v (.bool true)) (.t 11), none, [3, 6]⟩, ⟨(some 13), .mv (.t 12), none, [7, 3]⟩, ⟨(some 14), .fld 1 (.t 1), (some (13, false)), [8]⟩, ⟨(some 15), .load none (.t 14), (some (13, false)), [9, 8]⟩, ⟨(some 16), .call 95 [(.t 15)], (some (13, false)), [10, 8, 8]⟩, ⟨(some 17), .bin .eql (.t 16) (.v (.string ⟨#[]⟩)), (some (13, false)), [11, 8]⟩, ⟨(some 18), .pick (.t 13) (.v (.bool true)) (.t 17), none, [8, 12]⟩]) (.cond (.t 18) (.seq (.reg false [⟨(some 2), .mv (.v (.bool false)), none, []⟩]) (.ret)) (.skip))) (pc64c9))
def pr64 : List PR := [.t 2]
abbrev ms64_0 : List Nat := [34, 35, 36, 37, 40, 41, 42, 43, 44, 45, 46, 47, 48, 49, 50, 51, 2, 38, 39, 4]
abbrev os64_0 : List Nat := []
theorem bd64:Try.f64.body=some (Try.f64.body.getD .skip):=by kernel_rfl
theorem cp64:bK Try.prog Try.f64.ntmps iE (Try.f64.body.getD .skip)=some pc64:=by kernel_rfl
theorem sp64 [dH] {env:Env} (hE:aG Try.prog env) {R:List Pa→List Pa→Prop} (hR:∀ ps rs,R ps rs→ps.length≤116∧pwp env pc64 (fun e s=>(e=.normal∨e=.ret)∧s.res pr64=some rs) (St.init ps)):Spec Try.prog 64 R :=
 bM hE dO bF Try.func64 bd64 cp64 (by kernel_rfl) (by kernel_rfl) (by kernel_rfl) hR
def pc66 : PC := .seq (.reg false [⟨(some 2), .mv (.v (.bool false)), none, []⟩]) (.seq (.reg false [⟨(some 3), .mv (.t 0), none, []⟩, ⟨(some 4), .bin .geq (.t 3) (.v (.int .i64 15)), none, [0]⟩, ⟨(some 5), .mv (.t 4), none, [1]⟩, ⟨(some 6), .mv (.t 0), (some (5, true)), [2]⟩, ⟨(some 7), .bin .leq (.t 6) (.v (.int .i64 20)), (some (5, true)), [3, 2]⟩, ⟨(some 8), .pick (.t 5) (.t 7) (.v (.bool false)), none, [2, 4]⟩, ⟨(some 2), .mv (.t 8), none, [5, 2, 0, 1, 2, 3, 4, 5]⟩]) (.ret))
def pr66 : List PR := [.t 2]
theorem bd66:Try.f66.body=some (Try.f66.body.getD .skip):=by kernel_rfl
theorem cp66:bK Try.prog Try.f66.ntmps iE (Try.f66.body.getD .skip)=some pc66:=by kernel_rfl
theorem sp66 [dH] {env:Env} (hE:aG Try.prog env) {R:List Pa→List Pa→Prop} (hR:∀ ps rs,R ps rs→ps.length≤9∧pwp env pc66 (fun e s=>(e=.normal∨e=.ret)∧s.res pr66=some rs) (St.init ps)):Spec Try.prog 66 R :=
 bM hE dO bF Try.func66 bd66 cp66 (by kernel_rfl) (by kernel_rfl) (by kernel_rfl) hR
def pc85 : PC := .seq (.reg false [⟨(some 2), .box (.t 0), none, []⟩, ⟨(some 3), .box (.t 1), none, []⟩, ⟨(some 4), .mv (.v (.bool false)), none, []⟩]) (.seq (.reg false [⟨(some 5), .fld 1 (.t 2), none, []⟩, ⟨(some 6), .load none (.t 5), none, [0]⟩, ⟨(some 7), .call 89 [(.t 6)], none, [1]⟩, ⟨(some 8), .mv (.t 7), none, [2, 2]⟩, ⟨(some 9), .fld 1 (.t 3), (some (8, true)), [3]⟩, ⟨(some 10), .load none (.t 9), (some (8, true)), [4, 3]⟩, ⟨(some 11), .call 89 [(.t 10)], (some (8, true)), [5, 3, 3]⟩, ⟨(some 12), .pick (.t 8) (.t 11) (.v (.bool false)), none, [3, 6]⟩, ⟨(some 13), .mv (.t 12), none, [7, 6]⟩, ⟨(some 14), .fld 0 (.t 2), (some (13, true)), [8]⟩, ⟨(some 15), .load none (.t 14), (some (13, true)), [9, 8]⟩, ⟨(some 16), .fld 0 (.t 3), (some (13, true)), [8]⟩, ⟨(some 17), .load none (.t 16), (some (13, true)), [11, 8]⟩, ⟨(some 18), .bin .neq (.t 15) (.t 17), (some (13, true)), [10, 12, 8]⟩, ⟨(some 19), .pick (.t 13) (.t 18) (.v (.bool false)), none, [8, 13]⟩, ⟨(some 20), .mv (.t 19), none, [14, 8]⟩, ⟨(some 21), .fld 2 (.t 2), (some (20, true)), [15]⟩, ⟨(some 22), .load none (.t 21), (some (20, true)), [16, 15]⟩, ⟨(some 23), .fld 2 (.t 3), (some (20, true)), [15]⟩, ⟨(some 24), .load none (.t 23), (some (20, true)), [18, 15]⟩, ⟨(some 25), .bin .eql (.t 22) (.t 24), (some (20, true)), [17, 19, 15]⟩, ⟨(some 26), .pick (.t 20) (.t 25) (.v (.bool false)), none, [15, 20]⟩, ⟨(some 27), .mv (.t 26), none, [21, 15]⟩, ⟨(some 28), .fld 3 (.t 2), (some (27, true)), [22]⟩, ⟨(some 29), .load none (.t 28), (some (27, true)), [23, 22]⟩, ⟨(some 30), .fld 3 (.t 3), (some (27, true)), [22]⟩, ⟨(some 31), .load none (.t 30), (some (27, true)), [25, 22]⟩, ⟨(some 32), .bin .eql (.t 29) (.t 31), (some (27, true)), [24, 26, 22]⟩, ⟨(some 33), .pick (.t 27) (.t 32) (.v (.bool false)), none, [22, 27]⟩, ⟨(some 34), .mv (.t 33), none, [28, 22]⟩, ⟨(some 35), .fld 1 (.t 2), (some (34, true)), [29]⟩, ⟨(some 36), .load none (.t 35), (some (34, true)), [30, 29]⟩, ⟨(some 37), .bin .eql (.t 36) (.v (.int .i64 2)), (some (34, true)), [31, 29]⟩, ⟨(some 38), .mv (.t 37), (some (34, true)), [32, 29, 29]⟩, ⟨(some 39), .fld 1 (.t 3), (some (38, false)), [33]⟩, ⟨(some 40), .load none (.t 39), (some (38, false)), [34, 33]⟩, ⟨(some 41), .bin .eql (.t 40) (.v (.int .i64 2)), (some (38, false)), [35, 33]⟩, ⟨(some 42), .pick (.t 38) (.v (.bool true)) (.t 41), (some (34, true)), [33, 36, 29]⟩, ⟨(some 43), .pick (.t 34) (.t 42) (.v (.bool false)), none, [29, 37]⟩, ⟨(some 4), .mv (.t 43), none, [38, 33, 0, 1, 2, 3, 4, 5, 6, 7, 8, 9, 10, 11, 12, 13, 14, 15, 16, 17, 18, 19, 20, 21, 22, 23, 24, 25, 26, 27, 28, 29, 30, 31, 32, 33, 34, 35, 36, 37, 38]⟩]) (.ret))
def pr85 : List PR := [.t 4]
theorem bd85:Try.f85.body=some (Try.f85.body.getD .skip):=by kernel_rfl
theorem cp85:bK Try.prog Try.f85.ntmps iE (Try.f85.body.getD .skip)=some pc85:=by kernel_rfl
theorem sp85 [dH] {env:Env} (hE:aG Try.prog env) {R:List Pa→List Pa→Prop} (hR:∀ ps rs,R ps rs→ps.length≤44∧pwp env pc85 (fun e s=>(e=.normal∨e=.ret)∧s.res pr85=some rs) (St.init ps)):Spec Try.prog 85 R :=
 bM hE dO bF Try.func85 bd85 cp85 (by kernel_rfl) (by kernel_rfl) (by kernel_rfl) hR
def pc89 : PC := .seq (.reg false [⟨(some 2), .mv (.v (.bool false)), none, []⟩]) (.seq (.reg false [⟨(some 3), .mv (.t 0), none, []⟩, ⟨(some 4), .bin .eql (.t 3) (.v (.int .i64 1)), none, [0]⟩, ⟨(some 5), .mv (.t 4), none, [1]⟩, ⟨(some 6), .mv (.t 0), (some (5, false)), [2]⟩, ⟨(some 7), .bin .eql (.t 6) (.v (.int .i64 2)), (some (5, false)), [3, 2]⟩, ⟨(some 8), .pick (.t 5) (.v (.bool true)) (.t 7), none, [2, 4]⟩, ⟨(some 2), .mv (.t 8), none, [5, 2, 0, 1, 2, 3, 4, 5]⟩]) (.ret))
def pr89 : List PR := [.t 2]
theorem bd89:Try.f89.body=some (Try.f89.body.getD .skip):=by kernel_rfl
theorem cp89:bK Try.prog Try.f89.ntmps iE (Try.f89.body.getD .skip)=some pc89:=by kernel_rfl
theorem sp89 [dH] {env:Env} (hE:aG Try.prog env) {R:List Pa→List Pa→Prop} (hR:∀ ps rs,R ps rs→ps.length≤9∧pwp env pc89 (fun e s=>(e=.normal∨e=.ret)∧s.res pr89=some rs) (St.init ps)):Spec Try.prog 89 R :=
 bM hE dO bF Try.func89 bd89 cp89 (by kernel_rfl) (by kernel_rfl) (by kernel_rfl) hR
def pc95 : PC := .seq (.reg false [⟨(some 2), .mv (.v (.string ⟨#[]⟩)), none, []⟩]) (.seq (.reg false [⟨(some 4), .bslice 9 1 [(.string ⟨#[]⟩), (.string ⟨#[]⟩), (.string ⟨#[]⟩), (.string ⟨#[]⟩), (.string ⟨#[]⟩), (.string ⟨#[]⟩), (.string ⟨#[]⟩), (.string ⟨#[]⟩), (.string ⟨#[]⟩), (.string ⟨#[]⟩), (.string ⟨#[]⟩), (.string ⟨#[]⟩), (.string ⟨#[]⟩), (.string ⟨#[]⟩), (.string ⟨#[]⟩), (.string ⟨#[]⟩), (.string ⟨#[]⟩), (.string ⟨#[]⟩), (.string ⟨#[]⟩), (.string ⟨#[]⟩), (.string ⟨#[]⟩)] 21 [(0, 1, (.v (.string ⟨#[]⟩))), (1, 1, (.v (.string ⟨#[114, 101, 97, 100]⟩))), (2, 1, (.v (.string ⟨#[119, 114, 105, 116, 101]⟩))), (3, 1, (.v (.string ⟨#[97, 116, 111, 109, 105, 99, 45, 114, 101, 97, 100]⟩))), (4, 1, (.v (.string ⟨#[97, 116, 111, 109, 105, 99, 45, 119, 114, 105, 116, 101]⟩))), (5, 1, (.v (.string ⟨#[97, 116, 111, 109, 105, 99, 45, 98, 111, 116, 104]⟩))), (6, 1, (.v (.string ⟨#[108, 111, 99, 107]⟩))), (7, 1, (.v (.string ⟨#[117, 110, 108, 111, 99, 107]⟩))), (8, 1, (.v (.string ⟨#[114, 108, 111, 99, 107]⟩))), (9, 1, (.v (.string ⟨#[114, 117, 110, 108, 111, 99, 107]⟩))), (10, 1, (.v (.string ⟨#[100, 111, 110, 101]⟩))), (11, 1, (.v (.string ⟨#[119, 97, 105, 116]⟩))), (12, 1, (.v (.string ⟨#[111, 110, 99, 101, 45, 101, 110, 100]⟩))), (13, 1, (.v (.string ⟨#[111, 110, 99, 101, 45, 115, 101, 101, 110]⟩))), (14, 1, (.v (.string ⟨#[103, 111]⟩))), (15, 1, (.v (.string ⟨#[115, 101, 110, 100, 45, 115, 116, 97, 114, 116]⟩))), (16, 1, (.v (.string ⟨#[115, 101, 110, 100, 45, 101, 110, 100]⟩))), (17, 1, (.v (.string ⟨#[114, 101, 99, 118, 45, 115, 116, 97, 114, 116]⟩))), (18, 1, (.v (.string ⟨#[114, 101, 99, 118, 45, 101, 110, 100]⟩))), (19, 1, (.v (.string ⟨#[99, 108, 111, 115, 101]⟩))), (20, 1, (.v (.string ⟨#[114, 101, 99, 118, 45, 99, 108, 111, 115, 101, 100]⟩)))], none, []⟩, ⟨(some 3), .mv (.t 4), none, [0, 0]⟩]) (.seq (.seq (.reg false [⟨(some 5), .mv (.t 0), none, []⟩, ⟨(some 6), .bin .lss (.t 5) (.v (.int .i64 1)), none, [0]⟩, ⟨(some 7), .mv (.t 6), none, [1]⟩, ⟨(some 8), .mv (.t 0), (some (7, false)), [2]⟩, ⟨(some 9), .bin .gtr (.t 8) (.v (.int .i64 20)), (some (7, false)), [3, 2]⟩, ⟨(some 10), .pick (.t 7) (.v (.bool true)) (.t 9), none, [2, 4]⟩]) (.cond (.t 10) (.seq (.reg false [⟨(some 2), .mv (.v (.string ⟨#[]⟩)), none, []⟩]) (.ret)) (.skip))) (.seq (.reg false [⟨(some 11), .mv (.t 3), none, []⟩, ⟨(some 12), .mv (.t 0), none, []⟩, ⟨(some 13), .ixs 1 (.t 11) (.t 12), none, [0, 1]⟩, ⟨(some 14), .load none (.t 13), none, [2]⟩, ⟨(some 2), .mv (.t 14), none, [3, 0, 1, 2, 3]⟩]) (.ret))))
def pr95 : List PR := [.t 2]
theorem bd95:Try.f95.body=some (Try.f95.body.getD .skip):=by kernel_rfl
theorem cp95:bK Try.prog Try.f95.ntmps iE (Try.f95.body.getD .skip)=some pc95:=by kernel_rfl
theorem sp95 [dH] {env:Env} (hE:aG Try.prog env) {R:List Pa→List Pa→Prop} (hR:∀ ps rs,R ps rs→ps.length≤15∧pwp env pc95 (fun e s=>(e=.normal∨e=.ret)∧s.res pr95=some rs) (St.init ps)):Spec Try.prog 95 R :=
 bM hE dO bF Try.func95 bd95 cp95 (by kernel_rfl) (by kernel_rfl) (by kernel_rfl) hR
def pc77 : PC := .seq (.reg false [⟨(some 2), .box (.t 0), none, []⟩, ⟨(some 4), .new [(.int .i64 0), (.int .i64 0), (.int .i64 0), (.int .i64 0), (.int .i64 0), (.int .i64 0), (.int .i64 0), (.int .i64 0)], none, []⟩]) (.seq (.seq (.reg false [⟨(some 5), .mv (.t 1), none, []⟩, ⟨(some 6), .bin .geq (.t 5) (.v (.int .i64 0)), none, [0]⟩, ⟨(some 7), .mv (.t 6), none, [1]⟩, ⟨(some 8), .mv (.t 1), (some (7, true)), [2]⟩, ⟨(some 9), .bin .lss (.t 8) (.v (.int .i64 8)), (some (7, true)), [3, 2]⟩, ⟨(some 10), .pick (.t 7) (.t 9) (.v (.bool false)), none, [2, 4]⟩, ⟨(some 11), .mv (.t 10), none, [5, 2]⟩, ⟨(some 12), .mv (.t 1), (some (11, true)), [6]⟩, ⟨(some 13), .ixa 8 1 (.t 2) (.t 12), (some (11, true)), [7, 6]⟩, ⟨(some 14), .load none (.t 13), (some (11, true)), [8, 6]⟩, ⟨(some 15), .bin .lss (.t 14) (.v (.int .i64 9223372036854775807)), (some (11, true)), [9, 6]⟩, ⟨(some 16), .pick (.t 11) (.t 15) (.v (.bool false)), none, [6, 10]⟩]) (.cond (.t 16) (.reg false [⟨(some 17), .mv (.t 1), none, []⟩, ⟨(some 18), .ixa 8 1 (.t 2) (.t 17), none, [0]⟩, ⟨(some 19), .load none (.t 18), none, [1]⟩, ⟨(some 20), .bin .add (.t 19) (.v (.int .i64 1)), none, [2]⟩, ⟨(some 21), .ixa 8 1 (.t 2) (.t 17), none, [0, 0, 1, 2, 3]⟩, ⟨none, .store 1 (.t 21) (.t 20), none, [4, 3, 0, 1, 2, 3]⟩]) (.skip))) (.seq (.reg false [⟨(some 22), .load (some 8) (.t 2), none, []⟩, ⟨none, .store 8 (.t 4) (.t 22), none, [0, 0]⟩]) (.ret)))
def pr77 : List PR := [.c 4 (some 8)]
theorem bd77:Try.f77.body=some (Try.f77.body.getD .skip):=by kernel_rfl
theorem cp77:bK Try.prog Try.f77.ntmps iE (Try.f77.body.getD .skip)=some pc77:=by kernel_rfl
theorem sp77 [dH] {env:Env} (hE:aG Try.prog env) {R:List Pa→List Pa→Prop} (hR:∀ ps rs,R ps rs→ps.length≤23∧pwp env pc77 (fun e s=>(e=.normal∨e=.ret)∧s.res pr77=some rs) (St.init ps)):Spec Try.prog 77 R :=
 bM hE dO bF Try.func77 bd77 cp77 (by kernel_rfl) (by kernel_rfl) (by kernel_rfl) hR
def pc79 : PC := .seq (.reg false [⟨(some 2), .box (.t 0), none, []⟩, ⟨(some 3), .box (.t 1), none, []⟩, ⟨(some 4), .new [(.int .i64 0), (.int .i64 0), (.int .i64 0), (.int .i64 0), (.int .i64 0), (.int .i64 0), (.int .i64 0), (.int .i64 0)], none, []⟩]) (.seq (.seq (.reg false [⟨(some 6), .mv (.v (.int .i64 0)), none, []⟩]) (.block 0 (.loop (.seq (.reg false [⟨(some 7), .bin .lss (.t 6) (.v (.int .i64 8)), none, []⟩]) (.seq (.cond (.t 7) (.skip) (.exit 0)) (.seq (.block 1 (.seq (.reg false [⟨(some 8), .mv (.t 6), none, []⟩, ⟨(some 5), .mv (.t 8), none, [0, 0]⟩]) (.reg true [⟨(some 9), .mv (.t 5), none, []⟩, ⟨(some 10), .mv (.t 5), none, []⟩, ⟨(some 11), .ixa 8 1 (.t 2) (.t 10), none, [1]⟩, ⟨(some 12), .load none (.t 11), none, [2]⟩, ⟨(some 13), .mv (.t 5), none, []⟩, ⟨(some 14), .ixa 8 1 (.t 3) (.t 13), none, [4]⟩, ⟨(some 15), .load none (.t 14), none, [5]⟩, ⟨(some 16), .mm true [(.t 12), (.t 15)], none, [3, 6]⟩, ⟨(some 17), .ixa 8 1 (.t 2) (.t 9), none, [0, 0, 1, 2, 3, 4, 5, 6, 7]⟩, ⟨none, .store 1 (.t 17) (.t 16), none, [8, 7, 0, 1, 2, 3, 4, 5, 6, 7]⟩]))) (.reg false [⟨(some 18), .bin .add (.t 6) (.v (.int .i64 1)), none, []⟩, ⟨(some 6), .mv (.t 18), none, [0]⟩]))))))) (.seq (.reg false [⟨(some 19), .load (some 8) (.t 2), none, []⟩, ⟨none, .store 8 (.t 4) (.t 19), none, [0, 0]⟩]) (.ret)))
def pr79 : List PR := [.c 4 (some 8)]
abbrev ms79_0 : List Nat := [7, 8, 5, 9, 10, 11, 12, 13, 14, 15, 16, 17, 18, 6]
abbrev os79_0 : List Nat := [2]
theorem bd79:Try.f79.body=some (Try.f79.body.getD .skip):=by kernel_rfl
theorem cp79:bK Try.prog Try.f79.ntmps iE (Try.f79.body.getD .skip)=some pc79:=by kernel_rfl
theorem sp79 [dH] {env:Env} (hE:aG Try.prog env) {R:List Pa→List Pa→Prop} (hR:∀ ps rs,R ps rs→ps.length≤20∧pwp env pc79 (fun e s=>(e=.normal∨e=.ret)∧s.res pr79=some rs) (St.init ps)):Spec Try.prog 79 R :=
 bM hE dO bF Try.func79 bd79 cp79 (by kernel_rfl) (by kernel_rfl) (by kernel_rfl) hR
def pc48 : PC := .seq (.reg false [⟨(some 2), .nilRow 78 2, none, []⟩]) (.seq (.seq (.reg false [⟨(some 7), .mv (.t 0), none, []⟩, ⟨(some 8), .call 27 [(.t 7)], none, [0]⟩, ⟨(some 9), .un .not (.t 8), none, [1]⟩]) (.cond (.t 9) (.seq (.reg false [⟨(some 2), .nilRow 78 2, none, []⟩]) (.ret)) (.skip))) (.seq (.reg false [⟨(some 10), .mv (.t 0), none, []⟩, ⟨(some 11), .call 73 [(.t 10)], none, [0]⟩, ⟨(some 3), .mv (.t 11), none, [1, 1, 0, 1]⟩]) (.seq (.reg false [⟨(some 4), .nilRow 78 2, none, []⟩]) (.seq (.seq (.reg false [⟨(some 5), .mv (.v (.int .i64 0)), none, []⟩]) (.block 0 (.loop (.seq (.seq (.reg false [⟨(some 12), .mv (.t 5), none, []⟩, ⟨(some 13), .mv (.t 0), none, []⟩, ⟨(some 14), .len (.t 13), none, [1]⟩, ⟨(some 15), .bin .lss (.t 12) (.t 14), none, [0, 2]⟩]) (.cond (.t 15) (.skip) (.exit 0))) (.seq (.block 1 (.seq (.reg false [⟨(some 6), .mv (.v (.int .i64 0)), none, []⟩]) (.block 2 (.loop (.seq (.seq (.reg false [⟨(some 18), .mv (.t 6), none, []⟩, ⟨(some 19), .mv (.t 5), none, []⟩, ⟨(some 20), .bin .lss (.t 18) (.t 19), none, [0, 1]⟩]) (.cond (.t 20) (.skip) (.exit 2))) (.seq (.block 3 (.seq (.reg true [⟨(some 23), .mv (.t 0), none, []⟩, ⟨(some 24), .mv (.t 6), none, []⟩, ⟨(some 25), .ixs 9 (.t 23) (.t 24), none, [0, 1]⟩, ⟨(some 26), .load (some 9) (.t 25), none, [2]⟩, ⟨(some 27), .mv (.t 0), none, []⟩, ⟨(some 28), .mv (.t 5), none, []⟩, ⟨(some 29), .ixs 9 (.t 27) (.t 28), none, [4, 5]⟩, ⟨(some 30), .load (some 9) (.t 29), none, [6]⟩, ⟨(some 31), .call 85 [(.t 26), (.t 30)], none, [3, 7]⟩, ⟨(some 32), .mv (.t 31), none, [8, 8]⟩, ⟨(some 33), .mv (.t 3), (some (32, true)), [9]⟩, ⟨(some 34), .mv (.t 6), (some (32, true)), [9]⟩, ⟨(some 35), .ixs 1 (.t 33) (.t 34), (some (32, true)), [10, 11, 9]⟩, ⟨(some 36), .load none (.t 35), (some (32, true)), [12, 9]⟩, ⟨(some 37), .mv (.t 5), (some (32, true)), [9]⟩, ⟨(some 38), .ixs 1 (.t 36) (.t 37), (some (32, true)), [13, 14, 9]⟩, ⟨(some 39), .load none (.t 38), (some (32, true)), [15, 9]⟩, ⟨(some 40), .un .not (.t 39), (some (32, true)), [16, 9]⟩, ⟨(some 41), .pick (.t 32) (.t 40) (.v (.bool false)), none, [9, 17]⟩]) (.cond (.t 41) (.reg false [⟨(some 42), .mv (.t 4), none, []⟩, ⟨(some 43), .mv (.t 6), none, []⟩, ⟨(some 44), .mv (.t 5), none, []⟩, ⟨(some 45), .build [(.int .i64 0), (.int .i64 0)] [(0, 1, (.t 43)), (1, 1, (.t 44))], none, [1, 2]⟩, ⟨(some 46), .bslice 78 2 [(.int .i64 0), (.int .i64 0)] 1 [(0, 2, (.t 45))], none, [3]⟩, ⟨(some 47), .append 78 2 16 (.t 42) (.t 46), none, [0, 4]⟩, ⟨(some 4), .mv (.t 47), none, [5, 5, 0, 1, 2, 3, 4, 5]⟩]) (.skip)))) (.reg false [⟨(some 21), .mv (.t 6), none, []⟩, ⟨(some 22), .bin .add (.t 21) (.v (.int .i64 1)), none, [0]⟩, ⟨(some 6), .mv (.t 22), none, [1, 0, 1]⟩]))))))) (.reg false [⟨(some 16), .mv (.t 5), none, []⟩, ⟨(some 17), .bin .add (.t 16) (.v (.int .i64 1)), none, [0]⟩, ⟨(some 5), .mv (.t 17), none, [1, 0, 1]⟩])))))) (.seq (.reg false [⟨(some 48), .mv (.t 4), none, []⟩, ⟨(some 2), .mv (.t 48), none, [0, 0]⟩]) (.ret))))))
def pr48 : List PR := [.t 2]
abbrev ms48_0 : List Nat := [12, 13, 14, 15, 6, 18, 19, 20, 23, 24, 25, 26, 27, 28, 29, 30, 31, 32, 33, 34, 35, 36, 37, 38, 39, 40, 41, 42, 43, 44, 45, 46, 47, 4, 21, 22, 16, 17, 5]
abbrev os48_0 : List Nat := [46, 4]
abbrev ms48_1 : List Nat := [18, 19, 20, 23, 24, 25, 26, 27, 28, 29, 30, 31, 32, 33, 34, 35, 36, 37, 38, 39, 40, 41, 42, 43, 44, 45, 46, 47, 4, 21, 22, 6]
abbrev os48_1 : List Nat := [46, 4]
theorem bd48:Try.f48.body=some (Try.f48.body.getD .skip):=by kernel_rfl
theorem cp48:bK Try.prog Try.f48.ntmps iE (Try.f48.body.getD .skip)=some pc48:=by kernel_rfl
theorem sp48 [dH] {env:Env} (hE:aG Try.prog env) {R:List Pa→List Pa→Prop} (hR:∀ ps rs,R ps rs→ps.length≤49∧pwp env pc48 (fun e s=>(e=.normal∨e=.ret)∧s.res pr48=some rs) (St.init ps)):Spec Try.prog 48 R :=
 bM hE dO bF Try.func48 bd48 cp48 (by kernel_rfl) (by kernel_rfl) (by kernel_rfl) hR
def pc111 : PC := .seq (.reg false [⟨(some 6), .mv (.v (.bool false)), none, []⟩]) (.seq (.seq (.reg true [⟨(some 8), .mv (.t 0), none, []⟩, ⟨(some 9), .mv (.t 1), none, []⟩, ⟨(some 10), .ixs 9 (.t 8) (.t 9), none, [0, 1]⟩, ⟨(some 11), .fld 0 (.t 10), none, [2]⟩, ⟨(some 12), .load none (.t 11), none, [3]⟩, ⟨(some 13), .mv (.t 0), none, []⟩, ⟨(some 14), .mv (.t 2), none, []⟩, ⟨(some 15), .ixs 9 (.t 13) (.t 14), none, [5, 6]⟩, ⟨(some 16), .fld 0 (.t 15), none, [7]⟩, ⟨(some 17), .load none (.t 16), none, [8]⟩, ⟨(some 18), .bin .neq (.t 12) (.t 17), none, [4, 9]⟩]) (.cond (.t 18) (.seq (.reg false [⟨(some 6), .mv (.v (.bool false)), none, []⟩]) (.ret)) (.skip))) (.seq (.seq (.reg false [⟨(some 19), .mv (.t 1), none, []⟩, ⟨(some 20), .bin .add (.t 19) (.v (.int .i64 1)), none, [0]⟩, ⟨(some 7), .mv (.t 20), none, [1, 0, 1]⟩]) (.block 0 (.loop (.seq (.seq (.reg false [⟨(some 21), .mv (.t 7), none, []⟩, ⟨(some 22), .mv (.t 2), none, []⟩, ⟨(some 23), .bin .lss (.t 21) (.t 22), none, [0, 1]⟩]) (.cond (.t 23) (.skip) (.exit 0))) (.seq (.block 1 (.seq (.reg true [⟨(some 26), .mv (.t 0), none, []⟩, ⟨(some 27), .mv (.t 7), none, []⟩, ⟨(some 28), .ixs 9 (.t 26) (.t 27), none, [0, 1]⟩, ⟨(some 29), .fld 0 (.t 28), none, [2]⟩, ⟨(some 30), .load none (.t 29), none, [3]⟩, ⟨(some 31), .mv (.t 0), none, []⟩, ⟨(some 32), .mv (.t 1), none, []⟩, ⟨(some 33), .ixs 9 (.t 31) (.t 32), none, [5, 6]⟩, ⟨(some 34), .fld 0 (.t 33), none, [7]⟩, ⟨(some 35), .load none (.t 34), none, [8]⟩, ⟨(some 36), .bin .eql (.t 30) (.t 35), none, [4, 9]⟩]) (.cond (.t 36) (.seq (.reg false [⟨(some 6), .mv (.v (.bool false)), none, []⟩]) (.ret)) (.skip)))) (.reg false [⟨(some 24), .mv (.t 7), none, []⟩, ⟨(some 25), .bin .add (.t 24) (.v (.int .i64 1)), none, [0]⟩, ⟨(some 7), .mv (.t 25), none, [1, 0, 1]⟩])))))) (.seq (.reg false [⟨(some 6), .mv (.v (.bool true)), none, []⟩]) (.ret))))
def pr111 : List PR := [.t 6]
abbrev ms111_0 : List Nat := [21, 22, 23, 26, 27, 28, 29, 30, 31, 32, 33, 34, 35, 36, 6, 24, 25, 7]
abbrev os111_0 : List Nat := []
theorem bd111:Try.f111.body=some (Try.f111.body.getD .skip):=by kernel_rfl
theorem cp111:bK Try.prog Try.f111.ntmps iE (Try.f111.body.getD .skip)=some pc111:=by kernel_rfl
theorem sp111 [dH] {env:Env} (hE:aG Try.prog env) {R:List Pa→List Pa→Prop} (hR:∀ ps rs,R ps rs→ps.length≤37∧pwp env pc111 (fun e s=>(e=.normal∨e=.ret)∧s.res pr111=some rs) (St.init ps)):Spec Try.prog 111 R :=
 bM hE dO bF Try.func111 bd111 cp111 (by kernel_rfl) (by kernel_rfl) (by kernel_rfl) hR
def pc112 : PC := .seq (.reg false [⟨(some 4), .mv (.v (.bool false)), none, []⟩]) (.seq (.seq (.reg false [⟨(some 5), .mv (.v (.int .i64 0)), none, []⟩]) (.block 0 (.loop (.seq (.seq (.reg false [⟨(some 6), .mv (.t 5), none, []⟩, ⟨(some 7), .mv (.t 1), none, []⟩, ⟨(some 8), .bin .lss (.t 6) (.t 7), none, [0, 1]⟩]) (.cond (.t 8) (.skip) (.exit 0))) (.seq (.block 1 (.seq (.reg true [⟨(some 11), .mv (.t 0), none, []⟩, ⟨(some 12), .mv (.t 5), none, []⟩, ⟨(some 13), .ixs 9 (.t 11) (.t 12), none, [0, 1]⟩, ⟨(some 14), .fld 0 (.t 13), none, [2]⟩, ⟨(some 15), .load none (.t 14), none, [3]⟩, ⟨(some 16), .mv (.t 0), none, []⟩, ⟨(some 17), .mv (.t 1), none, []⟩, ⟨(some 18), .ixs 9 (.t 16) (.t 17), none, [5, 6]⟩, ⟨(some 19), .fld 0 (.t 18), none, [7]⟩, ⟨(some 20), .load none (.t 19), none, [8]⟩, ⟨(some 21), .bin .eql (.t 15) (.t 20), none, [4, 9]⟩]) (.cond (.t 21) (.seq (.reg false [⟨(some 4), .mv (.v (.bool false)), none, []⟩]) (.ret)) (.skip)))) (.reg false [⟨(some 9), .mv (.t 5), none, []⟩, ⟨(some 10), .bin .add (.t 9) (.v (.int .i64 1)), none, [0]⟩, ⟨(some 5), .mv (.t 10), none, [1, 0, 1]⟩])))))) (.seq (.reg false [⟨(some 4), .mv (.v (.bool true)), none, []⟩]) (.ret)))
def pr112 : List PR := [.t 4]
abbrev ms112_0 : List Nat := [6, 7, 8, 11, 12, 13, 14, 15, 16, 17, 18, 19, 20, 21, 4, 9, 10, 5]
abbrev os112_0 : List Nat := []
theorem bd112:Try.f112.body=some (Try.f112.body.getD .skip):=by kernel_rfl
theorem cp112:bK Try.prog Try.f112.ntmps iE (Try.f112.body.getD .skip)=some pc112:=by kernel_rfl
theorem sp112 [dH] {env:Env} (hE:aG Try.prog env) {R:List Pa→List Pa→Prop} (hR:∀ ps rs,R ps rs→ps.length≤22∧pwp env pc112 (fun e s=>(e=.normal∨e=.ret)∧s.res pr112=some rs) (St.init ps)):Spec Try.prog 112 R :=
 bM hE dO bF Try.func112 bd112 cp112 (by kernel_rfl) (by kernel_rfl) (by kernel_rfl) hR
def pc113 : PC := .seq (.reg false [⟨(some 6), .mv (.v (.bool false)), none, []⟩]) (.seq (.seq (.reg false [⟨(some 8), .mv (.t 1), none, []⟩, ⟨(some 9), .bin .add (.t 8) (.v (.int .i64 1)), none, [0]⟩, ⟨(some 7), .mv (.t 9), none, [1, 0, 1]⟩]) (.block 0 (.loop (.seq (.seq (.reg false [⟨(some 10), .mv (.t 7), none, []⟩, ⟨(some 11), .mv (.t 2), none, []⟩, ⟨(some 12), .bin .lss (.t 10) (.t 11), none, [0, 1]⟩]) (.cond (.t 12) (.skip) (.exit 0))) (.seq (.block 1 (.seq (.reg true [⟨(some 15), .mv (.t 0), none, []⟩, ⟨(some 16), .mv (.t 7), none, []⟩, ⟨(some 17), .ixs 9 (.t 15) (.t 16), none, [0, 1]⟩, ⟨(some 18), .fld 1 (.t 17), none, [2]⟩, ⟨(some 19), .load none (.t 18), none, [3]⟩, ⟨(some 20), .bin .eql (.t 19) (.v (.int .i64 4)), none, [4]⟩, ⟨(some 21), .mv (.t 20), none, [5]⟩, ⟨(some 22), .mv (.t 0), (some (21, false)), [6]⟩, ⟨(some 23), .mv (.t 7), (some (21, false)), [6]⟩, ⟨(some 24), .ixs 9 (.t 22) (.t 23), (some (21, false)), [7, 8, 6]⟩, ⟨(some 25), .fld 1 (.t 24), (some (21, false)), [9, 6]⟩, ⟨(some 26), .load none (.t 25), (some (21, false)), [10, 6]⟩, ⟨(some 27), .bin .eql (.t 26) (.v (.int .i64 5)), (some (21, false)), [11, 6]⟩, ⟨(some 28), .pick (.t 21) (.v (.bool true)) (.t 27), none, [6, 12]⟩, ⟨(some 29), .mv (.t 28), none, [13, 6]⟩, ⟨(some 30), .mv (.t 0), (some (29, true)), [14]⟩, ⟨(some 31), .mv (.t 7), (some (29, true)), [14]⟩, ⟨(some 32), .ixs 9 (.t 30) (.t 31), (some (29, true)), [15, 16, 14]⟩, ⟨(some 33), .fld 2 (.t 32), (some (29, true)), [17, 14]⟩, ⟨(some 34), .load none (.t 33), (some (29, true)), [18, 14]⟩, ⟨(some 35), .mv (.t 0), (some (29, true)), [14]⟩, ⟨(some 36), .mv (.t 2), (some (29, true)), [14]⟩, ⟨(some 37), .ixs 9 (.t 35) (.t 36), (some (29, true)), [20, 21, 14]⟩, ⟨(some 38), .fld 2 (.t 37), (some (29, true)), [22, 14]⟩, ⟨(some 39), .load none (.t 38), (some (29, true)), [23, 14]⟩, ⟨(some 40), .bin .eql (.t 34) (.t 39), (some (29, true)), [19, 24, 14]⟩, ⟨(some 41), .pick (.t 29) (.t 40) (.v (.bool false)), none, [14, 25]⟩, ⟨(some 42), .mv (.t 41), none, [26, 14]⟩, ⟨(some 43), .mv (.t 0), (some (42, true)), [27]⟩, ⟨(some 44), .mv (.t 7), (some (42, true)), [27]⟩, ⟨(some 45), .ixs 9 (.t 43) (.t 44), (some (42, true)), [28, 29, 27]⟩, ⟨(some 46), .fld 3 (.t 45), (some (42, true)), [30, 27]⟩, ⟨(some 47), .load none (.t 46), (some (42, true)), [31, 27]⟩, ⟨(some 48), .mv (.t 0), (some (42, true)), [27]⟩, ⟨(some 49), .mv (.t 2), (some (42, true)), [27]⟩, ⟨(some 50), .ixs 9 (.t 48) (.t 49), (some (42, true)), [33, 34, 27]⟩, ⟨(some 51), .fld 3 (.t 50), (some (42, true)), [35, 27]⟩, ⟨(some 52), .load none (.t 51), (some (42, true)), [36, 27]⟩, ⟨(some 53), .bin .eql (.t 47) (.t 52), (some (42, true)), [32, 37, 27]⟩, ⟨(some 54), .pick (.t 42) (.t 53) (.v (.bool false)), none, [27, 38]⟩]) (.cond (.t 54) (.seq (.reg false [⟨(some 6), .mv (.v (.bool false)), none, []⟩]) (.ret)) (.skip)))) (.reg false [⟨(some 13), .mv (.t 7), none, []⟩, ⟨(some 14), .bin .add (.t 13) (.v (.int .i64 1)), none, [0]⟩, ⟨(some 7), .mv (.t 14), none, [1, 0, 1]⟩])))))) (.seq (.reg false [⟨(some 6), .mv (.v (.bool true)), none, []⟩]) (.ret)))
def pr113 : List PR := [.t 6]
abbrev ms113_0 : List Nat := [10, 11, 12, 15, 16, 17, 18, 19, 20, 21, 22, 23, 24, 25, 26, 27, 28, 29, 30, 31, 32, 33, 34, 35, 36, 37, 38, 39, 40, 41, 42, 43, 44, 45, 46, 47, 48, 49, 50, 51, 52, 53, 54, 6, 13, 14, 7]
abbrev os113_0 : List Nat := []
theorem bd113:Try.f113.body=some (Try.f113.body.getD .skip):=by kernel_rfl
theorem cp113:bK Try.prog Try.f113.ntmps iE (Try.f113.body.getD .skip)=some pc113:=by kernel_rfl
theorem sp113 [dH] {env:Env} (hE:aG Try.prog env) {R:List Pa→List Pa→Prop} (hR:∀ ps rs,R ps rs→ps.length≤55∧pwp env pc113 (fun e s=>(e=.normal∨e=.ret)∧s.res pr113=some rs) (St.init ps)):Spec Try.prog 113 R :=
 bM hE dO bF Try.func113 bd113 cp113 (by kernel_rfl) (by kernel_rfl) (by kernel_rfl) hR
def pc49 : PC := .seq (.reg false [⟨(some 2), .box (.t 0), none, []⟩, ⟨(some 3), .box (.t 1), none, []⟩, ⟨(some 4), .new [(.slice none 0 0)], none, []⟩, ⟨(some 5), .nilRow 3 1, none, []⟩, ⟨(some 6), .mv (.v (.int .i64 0)), none, [3]⟩]) (.seq (.seq (.reg false [⟨(some 12), .load (some 9) (.t 3), none, []⟩, ⟨(some 13), .call 64 [(.t 12)], none, [0]⟩, ⟨(some 14), .un .not (.t 13), none, [1]⟩]) (.cond (.t 14) (.seq (.reg false [⟨(some 15), .load (some 1) (.t 2), none, []⟩, ⟨none, .store 1 (.t 4) (.t 15), none, [0, 0]⟩, ⟨(some 5), .nilRow 3 1, none, [1, 0, 1]⟩, ⟨(some 6), .mv (.v (.int .i64 1)), none, [2, 0, 1, 2]⟩]) (.ret)) (.skip))) (.seq (.reg true [⟨(some 16), .bslice 34 9 [] 0 [], none, []⟩, ⟨(some 17), .fld 0 (.t 2), none, []⟩, ⟨(some 18), .load none (.t 17), none, [1]⟩, ⟨(some 19), .append 34 9 72 (.t 16) (.t 18), none, [0, 2]⟩, ⟨(some 20), .load (some 9) (.t 3), none, []⟩, ⟨(some 21), .bslice 34 9 [(.int .i64 0), (.int .i64 0), (.int .i64 0), (.int .i64 0), (.int .i64 0), (.int .i64 0), (.int .i64 0), (.int .i64 0), (.int .i64 0)] 1 [(0, 9, (.t 20))], none, [4]⟩, ⟨(some 22), .append 34 9 72 (.t 19) (.t 21), none, [3, 5, 3]⟩, ⟨(some 7), .mv (.t 22), none, [6, 6, 0, 1, 2, 3, 4, 5, 6]⟩]) (.seq (.seq (.reg false [⟨(some 23), .mv (.t 7), none, []⟩, ⟨(some 24), .call 27 [(.t 23)], none, [0]⟩, ⟨(some 25), .un .not (.t 24), none, [1]⟩]) (.cond (.t 25) (.seq (.reg false [⟨(some 26), .load (some 1) (.t 2), none, []⟩, ⟨none, .store 1 (.t 4) (.t 26), none, [0, 0]⟩, ⟨(some 5), .nilRow 3 1, none, [1, 0, 1]⟩, ⟨(some 6), .mv (.v (.int .i64 11)), none, [2, 0, 1, 2]⟩]) (.ret)) (.skip))) (.seq (.reg false [⟨(some 27), .mv (.t 7), none, []⟩, ⟨(some 28), .len (.t 27), none, [0]⟩, ⟨(some 29), .bin .sub (.t 28) (.v (.int .i64 1)), none, [1]⟩, ⟨(some 8), .mv (.t 29), none, [2, 0, 1, 2]⟩]) (.seq (.reg false [⟨(some 30), .mv (.t 7), none, []⟩, ⟨(some 31), .call 73 [(.t 30)], none, [0]⟩, ⟨(some 9), .mv (.t 31), none, [1, 1, 0, 1]⟩]) (.seq (.reg false [⟨(some 10), .nilRow 3 1, none, []⟩]) (.seq (.seq (.reg false [⟨(some 11), .mv (.v (.int .i64 0)), none, []⟩]) (.block 0 (.loop (.seq (.seq (.reg false [⟨(some 32), .mv (.t 11), none, []⟩, ⟨(some 33), .mv (.t 8), none, []⟩, ⟨(some 34), .bin .lss (.t 32) (.t 33), none, [0, 1]⟩]) (.cond (.t 34) (.skip) (.exit 0))) (.seq (.block 1 (.seq (.reg true [⟨(some 37), .mv (.t 7), none, []⟩, ⟨(some 38), .mv (.t 11), none, []⟩, ⟨(some 39), .ixs 9 (.t 37) (.t 38), none, [0, 1]⟩, ⟨(some 40), .load (some 9) (.t 39), none, [2]⟩, ⟨(some 41), .mv (.t 7), none, []⟩, ⟨(some 42), .mv (.t 8), none, []⟩, ⟨(some 43), .ixs 9 (.t 41) (.t 42), none, [4, 5]⟩, ⟨(some 44), .load (some 9) (.t 43), none, [6]⟩, ⟨(some 45), .call 85 [(.t 40), (.t 44)], none, [3, 7]⟩, ⟨(some 46), .mv (.t 45), none, [8, 8]⟩, ⟨(some 47), .mv (.t 9), (some (46, true)), [9]⟩, ⟨(some 48), .mv (.t 11), (some (46, true)), [9]⟩, ⟨(some 49), .ixs 1 (.t 47) (.t 48), (some (46, true)), [10, 11, 9]⟩, ⟨(some 50), .load none (.t 49), (some (46, true)), [12, 9]⟩, ⟨(some 51), .mv (.t 8), (some (46, true)), [9]⟩, ⟨(some 52), .ixs 1 (.t 50) (.t 51), (some (46, true)), [13, 14, 9]⟩, ⟨(some 53), .load none (.t 52), (some (46, true)), [15, 9]⟩, ⟨(some 54), .un .not (.t 53), (some (46, true)), [16, 9]⟩, ⟨(some 55), .pick (.t 46) (.t 54) (.v (.bool false)), none, [9, 17]⟩]) (.cond (.t 55) (.reg false [⟨(some 56), .mv (.t 10), none, []⟩, ⟨(some 57), .mv (.t 11), none, []⟩, ⟨(some 58), .bslice 3 1 [(.int .i64 0)] 1 [(0, 1, (.t 57))], none, [1]⟩, ⟨(some 59), .append 3 1 8 (.t 56) (.t 58), none, [0, 2]⟩, ⟨(some 10), .mv (.t 59), none, [3, 3, 0, 1, 2, 3]⟩]) (.skip)))) (.reg false [⟨(some 35), .mv (.t 11), none, []⟩, ⟨(some 36), .bin .add (.t 35) (.v (.int .i64 1)), none, [0]⟩, ⟨(some 11), .mv (.t 36), none, [1, 0, 1]⟩])))))) (.seq (.reg false [⟨(some 60), .mv (.t 7), none, []⟩, ⟨(some 61), .build [(.slice none 0 0)] [(0, 1, (.t 60))], none, [0]⟩, ⟨(some 62), .mv (.t 10), none, []⟩, ⟨none, .store 1 (.t 4) (.t 61), none, [1, 0, 1]⟩, ⟨(some 5), .mv (.t 62), none, [2, 3, 0, 1, 2, 3]⟩, ⟨(some 6), .mv (.v (.int .i64 0)), none, [4, 0, 1, 2, 3, 4]⟩]) (.ret)))))))))
def pr49 : List PR := [.c 4 (some 1), .t 5, .t 6]
abbrev ms49_0 : List Nat := [32, 33, 34, 37, 38, 39, 40, 41, 42, 43, 44, 45, 46, 47, 48, 49, 50, 51, 52, 53, 54, 55, 56, 57, 58, 59, 10, 35, 36, 11]
abbrev os49_0 : List Nat := [58, 10]
theorem bd49:Try.f49.body=some (Try.f49.body.getD .skip):=by kernel_rfl
theorem cp49:bK Try.prog Try.f49.ntmps iE (Try.f49.body.getD .skip)=some pc49:=by kernel_rfl
theorem sp49 [dH] {env:Env} (hE:aG Try.prog env) {R:List Pa→List Pa→Prop} (hR:∀ ps rs,R ps rs→ps.length≤63∧pwp env pc49 (fun e s=>(e=.normal∨e=.ret)∧s.res pr49=some rs) (St.init ps)):Spec Try.prog 49 R :=
 bM hE dO bF Try.func49 bd49 cp49 (by kernel_rfl) (by kernel_rfl) (by kernel_rfl) hR
def pc86 : PC := .seq (.reg false [⟨(some 2), .mv (.v (.bool false)), none, []⟩]) (.seq (.reg false [⟨(some 3), .mv (.t 0), none, []⟩, ⟨(some 4), .bin .eql (.t 3) (.v (.int .i64 1)), none, [0]⟩, ⟨(some 5), .mv (.t 4), none, [1]⟩, ⟨(some 6), .mv (.t 0), (some (5, false)), [2]⟩, ⟨(some 7), .bin .eql (.t 6) (.v (.int .i64 2)), (some (5, false)), [3, 2]⟩, ⟨(some 8), .pick (.t 5) (.v (.bool true)) (.t 7), none, [2, 4]⟩, ⟨(some 2), .mv (.t 8), none, [5, 2, 0, 1, 2, 3, 4, 5]⟩]) (.ret))
def pr86 : List PR := [.t 2]
theorem bd86:Try.f86.body=some (Try.f86.body.getD .skip):=by kernel_rfl
theorem cp86:bK Try.prog Try.f86.ntmps iE (Try.f86.body.getD .skip)=some pc86:=by kernel_rfl
theorem sp86 [dH] {env:Env} (hE:aG Try.prog env) {R:List Pa→List Pa→Prop} (hR:∀ ps rs,R ps rs→ps.length≤9∧pwp env pc86 (fun e s=>(e=.normal∨e=.ret)∧s.res pr86=some rs) (St.init ps)):Spec Try.prog 86 R :=
 bM hE dO bF Try.func86 bd86 cp86 (by kernel_rfl) (by kernel_rfl) (by kernel_rfl) hR
def pc87 : PC := .seq (.reg false [⟨(some 2), .box (.t 0), none, []⟩, ⟨(some 3), .box (.t 1), none, []⟩, ⟨(some 4), .mv (.v (.bool false)), none, []⟩]) (.seq (.reg false [⟨(some 5), .fld 1 (.t 2), none, []⟩, ⟨(some 6), .load none (.t 5), none, [0]⟩, ⟨(some 7), .call 86 [(.t 6)], none, [1]⟩, ⟨(some 8), .mv (.t 7), none, [2, 2]⟩, ⟨(some 9), .fld 1 (.t 3), (some (8, true)), [3]⟩, ⟨(some 10), .load none (.t 9), (some (8, true)), [4, 3]⟩, ⟨(some 11), .call 86 [(.t 10)], (some (8, true)), [5, 3, 3]⟩, ⟨(some 12), .pick (.t 8) (.t 11) (.v (.bool false)), none, [3, 6]⟩, ⟨(some 13), .mv (.t 12), none, [7, 6]⟩, ⟨(some 14), .fld 0 (.t 2), (some (13, true)), [8]⟩, ⟨(some 15), .load none (.t 14), (some (13, true)), [9, 8]⟩, ⟨(some 16), .fld 0 (.t 3), (some (13, true)), [8]⟩, ⟨(some 17), .load none (.t 16), (some (13, true)), [11, 8]⟩, ⟨(some 18), .bin .neq (.t 15) (.t 17), (some (13, true)), [10, 12, 8]⟩, ⟨(some 19), .pick (.t 13) (.t 18) (.v (.bool false)), none, [8, 13]⟩, ⟨(some 20), .mv (.t 19), none, [14, 8]⟩, ⟨(some 21), .fld 2 (.t 2), (some (20, true)), [15]⟩, ⟨(some 22), .load none (.t 21), (some (20, true)), [16, 15]⟩, ⟨(some 23), .fld 2 (.t 3), (some (20, true)), [15]⟩, ⟨(some 24), .load none (.t 23), (some (20, true)), [18, 15]⟩, ⟨(some 25), .bin .eql (.t 22) (.t 24), (some (20, true)), [17, 19, 15]⟩, ⟨(some 26), .pick (.t 20) (.t 25) (.v (.bool false)), none, [15, 20]⟩, ⟨(some 27), .mv (.t 26), none, [21, 15]⟩, ⟨(some 28), .fld 3 (.t 2), (some (27, true)), [22]⟩, ⟨(some 29), .load none (.t 28), (some (27, true)), [23, 22]⟩, ⟨(some 30), .fld 3 (.t 3), (some (27, true)), [22]⟩, ⟨(some 31), .load none (.t 30), (some (27, true)), [25, 22]⟩, ⟨(some 32), .bin .eql (.t 29) (.t 31), (some (27, true)), [24, 26, 22]⟩, ⟨(some 33), .pick (.t 27) (.t 32) (.v (.bool false)), none, [22, 27]⟩, ⟨(some 34), .mv (.t 33), none, [28, 22]⟩, ⟨(some 35), .fld 1 (.t 2), (some (34, true)), [29]⟩, ⟨(some 36), .load none (.t 35), (some (34, true)), [30, 29]⟩, ⟨(some 37), .fld 1 (.t 3), (some (34, true)), [29]⟩, ⟨(some 38), .load none (.t 37), (some (34, true)), [32, 29]⟩, ⟨(some 39), .mm true [(.t 36), (.t 38)], (some (34, true)), [31, 33, 29]⟩, ⟨(some 40), .bin .eql (.t 39) (.v (.int .i64 2)), (some (34, true)), [34, 29]⟩, ⟨(some 41), .pick (.t 34) (.t 40) (.v (.bool false)), none, [29, 35]⟩, ⟨(some 4), .mv (.t 41), none, [36, 29, 0, 1, 2, 3, 4, 5, 6, 7, 8, 9, 10, 11, 12, 13, 14, 15, 16, 17, 18, 19, 20, 21, 22, 23, 24, 25, 26, 27, 28, 29, 30, 31, 32, 33, 34, 35, 36]⟩]) (.ret))
def pr87 : List PR := [.t 4]
theorem bd87:Try.f87.body=some (Try.f87.body.getD .skip):=by kernel_rfl
theorem cp87:bK Try.prog Try.f87.ntmps iE (Try.f87.body.getD .skip)=some pc87:=by kernel_rfl
theorem sp87 [dH] {env:Env} (hE:aG Try.prog env) {R:List Pa→List Pa→Prop} (hR:∀ ps rs,R ps rs→ps.length≤42∧pwp env pc87 (fun e s=>(e=.normal∨e=.ret)∧s.res pr87=some rs) (St.init ps)):Spec Try.prog 87 R :=
 bM hE dO bF Try.func87 bd87 cp87 (by kernel_rfl) (by kernel_rfl) (by kernel_rfl) hR
end Go.Proofs.Ytffcpijeebagfaa
end
section
namespace Go.Proofs.Ytffcpijeebagfaa
open Go Go.RowKit
theorem bP {α:Sort _} {a b:α} (h:a=b):a=b:=h
section
variable {env:Env} {K:St→Prop} {is:List PI} {s:St} {d:Option Nat} {af:List Nat}
def vH (env:Env) (K:St→Prop) (is:List PI) (s:St) (d:Option Nat) (o:Option (Av×Cg)):Prop:=aO o fun p=>bq env is (s.ap d p.1 p.2) K
theorem zu {v:Av} {ch:Cg}:vH env K is s d (some (v,ch))=bq env is (s.ap d v ch) K:=bP rfl
def zT (env:Env) (K:St→Prop) (is:List PI) (s:St) (d:Option Nat) (f:Nat) (o:Option (List Pa)):Prop:=aO o fun ps=>(∃ rs,env.d f ps rs∧bq env is (s.ap d (lX rs) .no) K)∨(∃ H rs,env.a f none ps H rs∧bq env is (s.ap d (AR (d.getD 0) (s.gen (d.getD 0)+1) rs) (.new (d.getD 0) (.ab H))) K)
theorem aC {f:Nat} {ps:List Pa} (rs:List Pa) (h:env.d f ps rs) (k:bq env is (s.ap d (lX rs) .no) K):zT env K is s d f (some ps):=.inl ⟨rs,h,k⟩
def He (env:Env) (K:St→Prop) (is:List PI) (s:St) (d:Option Nat) (f o:Nat) (oh:Option HP) (oa:Option (List Pa)):Prop:=aO oa fun ps=>aO oh fun H =>
 (∃ H' rs,env.a f (some H) ps H' rs∧bq env is (s.ap d (lX rs) (.ab o H')) K)∨(∃ H2,ps=[]∧env.c f H H2∧bq env is (s.ap d (.b (.one (.ab (d.getD 0) (s.gen (d.getD 0)+1)))) (.new (d.getD 0) (.ab H2))) K)
def OH (env:Env) (K:St→Prop) (is:List PI) (s:St) (d:Option Nat) (f o:Nat) (od:Option (List Dt)) (oa:Option (List Pa)):Prop:=aO oa fun ps=>aO od fun ds=>∃ ds' rs,env.m f ds ps ds' rs∧ds'.length=ds.length∧bq env is (s.ap d (lX rs) (.wr o 0 (ds'.map .d))) K
def uy (env:Env) (K:St→Prop) (is:List PI) (s:St) (d:Option Nat) (f:Nat) (xs:List PX):Option (Nat×Nat)→Option (Nat×Nat)→Prop
 | some (o,g),_=>He env K is s d f o (s.zL o g) (s.args xs.tail)
 | none,some (o,g)=>OH env K is s d f o (s.jE o g) (s.args xs.tail)
 | none,none=>zT env K is s d f (s.args xs)
theorem DZ {f:Nat} {xs:List PX}:uy env K is s d f xs none none=zT env K is s d f (s.args xs):=bP rfl
theorem Io {f o g:Nat} {xs:List PX}:uy env K is s d f xs none (some (o,g))=OH env K is s d f o (s.jE o g) (s.args xs.tail):=bP rfl
theorem D5 {f o g:Nat} {xs:List PX} {p:Option (Nat×Nat)}:uy env K is s d f xs (some (o,g)) p=He env K is s d f o (s.zL o g) (s.args xs.tail):=bP rfl
theorem Nl:s.recv []=none:=bP rfl
theorem JQ {x:PX} {xs:List PX}:s.recv (x :: xs)=(s.ev x).lS:=bP rfl
theorem Nb:s.gy []=none:=bP rfl
theorem JJ {x:PX} {xs:List PX}:s.gy (x :: xs)=(s.ev x).gY:=bP rfl
theorem D7 {o g:Nat}:s.jE o g=if s.gen o=g then (match s.ob o with | .cells cs=>if cs.length≤1000000 then aD (cs.map Cl.dt) else none | _=>none) else none:=bP rfl
theorem Pj {o g:Nat}:s.zL o g=if s.gen o=g then (match s.ob o with | .ab H=>some H | _=>none) else none:=bP rfl
theorem Pv {v:Av} {o:Nat} {H:HP}:(s.ap d v (.ab o H)).gen=s.gen:=bP rfl
theorem SH {v:Av} {o:Nat} {H:HP}:(s.ap d v (.ab o H)).ob=up s.ob o (.ab H):=bP rfl
def rE (env:Env) (K:St→Prop) (is:List PI) (s:St) (d:Option Nat) (op:PO) (t:Nat) (want:Bool):Option (Option Bool)→Prop
 | none=>False
 | some none=>bq env is (s.ap d skp .no) K
 | some (some b)=>(b=want→bq env (⟨d,op,none,[]⟩ :: is) (s.ap (some t) (gZ (.bool want)) .no) K)∧(b=!want→bq env is ((s.ap (some t) (gZ (.bool !want)) .no).ap d skp .no) K)
theorem qB {op:PO} {t:Nat} {want:Bool}:rE env K is s d op t want (some none)=bq env is (s.ap d skp .no) K:=bP rfl
theorem jN {op:PO} {t:Nat} {want b:Bool}:rE env K is s d op t want (some (some b))=((b=want→bq env (⟨d,op,none,[]⟩ :: is) (s.ap (some t) (gZ (.bool want)) .no) K)∧(b=!want→bq env is ((s.ap (some t) (gZ (.bool !want)) .no).ap d skp .no) K)):=bP rfl
theorem uK {t:Nat} {b:Bool} (h:s.gd t=some (some b)):s.boo (.t t)=some b:=by
 unfold St.gd at h;split at h
 ·cases h
 ·rw [Option.map_eq_some_iff] at h;obtain ⟨c,hc,h⟩:=h;cases h;exact hc
theorem H7 {b want:Bool}:(some b≠some want)↔b=!want:=by cases b <;> cases want <;> simp
theorem mH {t:Nat} {b:Bool} (h:s.boo (.t t)=some b):s.ap (some t) (gZ (.bool b)) .no=s:=by
 have h1:s.sl t=gZ (.bool b):=by
  unfold St.boo at h;split at h
  ·rename_i c hc;cases h;exact hc
  ·cases h
 have h2:up s.sl t (gZ (.bool b))=s.sl:=by
  funext x
  rw [aA];split
  ·rename_i hx;rw [hx,h1]
  ·rfl
 show (⟨up s.sl t (gZ (.bool b)),s.gen,s.ob,s.nc⟩:St)=s
 rw [h2]
theorem Bz:bq env [] s K=K s:=bP rfl
theorem Eu {op:PO} (h:op.bf=false):bq env (⟨d,op,none,af⟩ :: is) s K=vH env K is s d (op.fn s (d.getD 0)):=by
 change PO.go env s (d.getD 0) (fun v ch=>bq env is (s.ap d v ch) K) op=_
 rw [PO.AB h];rfl
def Ku (env:Env) (K:St→Prop) (is:List PI) (s:St) (d:Option Nat) (f:Nat) (xs:List PX):Option Unit→Prop
 | some _=>uy env K is s d f xs (s.recv xs) (s.gy xs)
 | none=>False
theorem D6 {f:Nat} {xs:List PX} {u:Unit}:Ku env K is s d f xs (some u)=uy env K is s d f xs (s.recv xs) (s.gy xs):=bP rfl
def R7 (env:Env) (K:St→Prop) (is:List PI) (s:St) (d:Option Nat):Option Value→Prop
 | some v=>bq env is (s.ap d (gZ v) .no) K
 | none=>False
theorem Js {v:Value}:R7 env K is s d (some v)=bq env is (s.ap d (gZ v) .no) K:=bP rfl
theorem Lx {f:Nat}:uU f (some (.func (.func f) #[] #[]))=some ():=Qc
theorem Ti {g k:Nat}:gAt env (some (.pointer (some ⟨g,k,none⟩)))=env.t g k:=bP rfl
def Ox (env:Env) (K:St→Prop) (is:List PI) (s:St) (d:Option Nat) (c:Nat) (k:HA):Prop:=xJ s c (fun v ch=>bq env is (s.ap d v ch) K) k
theorem C9 {c:Nat} {z:List Value} (b:Nat) (h:s.lay c b) (k:bq env is (s.ap d (.b (.one (.hv (.p b 0)))) (.hw (HBS+c) [(b,.cells (z.map fun v=>.d (.sc v)))])) K):Ox env K is s d c (.new z):=⟨b,h,k⟩
theorem aY {c:Nat} {x:PX} {cs:List Cl} {hs:List Hc} (b:Nat) (h:s.lay c b) (h1:s.cs x=some cs) (h2:hcs cs=some hs) (k:bq env is (s.ap d (.b (.one (.hv (.p b 0)))) (.hw (HBS+c) [(b,.cells hs)])) K):Ox env K is s d c (.box x) :=
 aj.2 ⟨hs,by rw [h1];exact h2,b,h,k⟩
theorem wX {c t:Nat} (b:Nat) (h:s.lay c b) (h1:Maps.Keyed Try.prog t) (k:bq env is (s.ap d (.b (.one (.hv (.m b)))) (.hw (HBS+c) [(b,.map t [] 0)])) K):Ox env K is s d c (.map t):=⟨h1,b,h,k⟩
theorem vM {c t clock bm:Nat} {es:List (Value×Nat×Hw)} {m:PX} (b:Nat) (h:s.lay c b) (h1:s.cl m=.hv (.m bm)) (h2:s.hb bm=.map t es clock) (k:bq env is (s.ap d (.b (.one (.hv (.p b 0)))) (.hw (HBS+c) [(b,.iter bm clock [] clock)])) K):Ox env K is s d c (.range m) :=
 aj.2 ⟨bm,by rw [h1];rfl,aj.2 ⟨clock,by rw [h2];rfl,b,h,k⟩⟩
def O5 (env:Env) (K:St→Prop) (is:List PI) (s:St) (d:Option Nat) (x:Cl):Prop:=KF s x (fun v ch=>bq env is (s.ap d v ch) K)
theorem uf {r b since c0 t clock:Nat} {seen:List Nat} {es:List (Value×Nat×Hw)} (h1:s.hb r=.iter b since seen c0) (h2:s.hb b=.map t es clock) (h3:(∀ e ∈ es,e.2.1 < since)∧since≤c0∧since≤clock)
 (h4:(∀ e ∈ es,seen.contains e.2.1=true)→bq env is (s.ap d (.tup [bvB false]) .no) K)
 (h5:∀ e ∈ es,seen.contains e.2.1=false→bq env is (s.ap d (.tup [bvB true,rU e.1,e.2.2.bv]) (.hw (HBS+s.nc r) [(r,.iter b since (seen ++ [e.2.1]) clock)])) K):O5 env K is s d (.hv (.p r 0)) :=
 aj.2 ⟨(b,since,seen,c0),by rw [h1];rfl,aj.2 ⟨(es,clock),by rw [h2];rfl,h3,h4,h5⟩⟩
def Ar (env:Env) (K:St→Prop) (is:List PI) (s:St) (d:Option Nat) (f:Nat) (oa:Option (List Hw)):Prop:=aO oa fun az=>qP env s (fun v ch=>bq env is (s.ap d v ch) K) f az
theorem aN {f:Nat} {az:List Hw} (hp':Nat→Hb) (rs:List Hw) (h:env.h f s.hb az hp' rs) (k:bq env is (s.ap d (Af rs) (.hall hp')) K):Ar env K is s d f (some az):=⟨hp',rs,h,.inl k⟩
def FY (env:Env) (K:St→Prop) (is:List PI) (s:St) (d:Option Nat) (f:Nat) (oa:Option (List Hw)):Prop:=aO oa fun az=>Au env s (fun v ch=>bq env is (s.ap d v ch) K) f az
theorem dW {f:Nat} {az:List Hw} (Post:(Nat→Hb)→List Hw→Prop) (h:env.p f s.hb az Post) (k:∀ hp' rs,Post hp' rs→bq env is (s.ap d (Af rs) (.hall hp')) K):FY env K is s d f (some az):=⟨Post,h,k⟩
def FX (env:Env) (K:St→Prop) (is:List PI) (s:St) (d:Option Nat) (f:Nat) (of:Option (List (Nat×Nat)×List (Nat×Nat))) (oa:Option (List Hw)):Prop:=aO of fun p=>aO oa fun az=>qP env s (fun v ch=>bq env is (s.ap d v ch) K) f (tY p.1 ++ az ++ tY p.2)
theorem Ba {f:Nat} {az:List Hw} {a c:List (Nat×Nat)}:FX env K is s d f (some (a,c)) (some az)=Ar env K is s d f (some (tY a ++ az ++ tY c)):=bP rfl
theorem IX {f:Nat} {a c:List (Nat×Nat)}:GL f (.hv (.f f a c))=some (a,c):=by simp [GL]
theorem MC:tY []=[]:=bP rfl
theorem Ji {p:Nat×Nat} {l:List (Nat×Nat)}:tY (p :: l)=.one (.h (.p p.1 p.2)) :: tY l:=bP rfl
theorem Qi:s.hws []=some []:=bP rfl
theorem MF {x:PX} {xs:List PX}:s.hws (x :: xs)=(match s.hw x with | some p=>(s.hws xs).map (p :: ·) | none=>none):=by
 unfold St.hws;simp only [List.map_cons];cases s.hw x <;> rfl
theorem TA {x:PX}:s.hw x=(s.ev x).hw:=bP rfl
def opS (env:Env) (K:St→Prop) (is:List PI) (s:St) (d:Option Nat) (b:Bool) (op:PO):Prop:=match b with
 | true=>(match op with | .call f xs=>uy env K is s d f xs (s.recv xs) (s.gy xs) | .callv x f xs=>Ku env K is s d f xs (uU f (s.val x)) | .ldg x=>R7 env K is s d (gAt env (s.val x)) | .hal c k=>Ox env K is s d c k | .next x=>O5 env K is s d (s.cl x) | .callh f xs=>Ar env K is s d f (s.hws xs) | .callp f xs=>FY env K is s d f (s.hws xs) | .callc x f xs=>FX env K is s d f (GL f (s.cl x)) (s.hws xs) | _=>False)
 | false=>vH env K is s d (op.fn s (d.getD 0))
theorem yQ {op:PO}:opS env K is s d false op=vH env K is s d (op.fn s (d.getD 0)):=bP rfl
theorem M8 {f:Nat} {xs:List PX}:opS env K is s d true (.call f xs)=uy env K is s d f xs (s.recv xs) (s.gy xs):=bP rfl
theorem JG {x:PX} {f:Nat} {xs:List PX}:opS env K is s d true (.callv x f xs)=Ku env K is s d f xs (uU f (s.val x)):=bP rfl
theorem QH {x:PX}:opS env K is s d true (.ldg x)=R7 env K is s d (gAt env (s.val x)):=bP rfl
theorem QG {c:Nat} {k:HA}:opS env K is s d true (.hal c k)=Ox env K is s d c k:=bP rfl
theorem M7 {x:PX}:opS env K is s d true (.next x)=O5 env K is s d (s.cl x):=bP rfl
theorem JE {f:Nat} {xs:List PX}:opS env K is s d true (.callh f xs)=Ar env K is s d f (s.hws xs):=bP rfl
theorem JF {f:Nat} {xs:List PX}:opS env K is s d true (.callp f xs)=FY env K is s d f (s.hws xs):=bP rfl
theorem JD {x:PX} {f:Nat} {xs:List PX}:opS env K is s d true (.callc x f xs)=FX env K is s d f (GL f (s.cl x)) (s.hws xs):=bP rfl
theorem EC {op:PO}:bq env (⟨d,op,none,af⟩ :: is) s K=opS env K is s d op.bf op:=by
 cases hc:op.bf with
 | true =>
   cases op <;> first
    | (cases hc;done)
    | (rename_i f xs
       show jU env s (d.getD 0) (fun v ch=>bq env is (s.ap d v ch) K) f xs (s.recv xs) (s.gy xs)=uy env K is s d f xs (s.recv xs) (s.gy xs)
       cases s.recv xs <;> cases s.gy xs <;> rfl)
    | (rename_i x f xs
       show aO (uU f (s.val x)) (fun _=>jU env s (d.getD 0) (fun v ch=>bq env is (s.ap d v ch) K) f xs (s.recv xs) (s.gy xs))=Ku env K is s d f xs (uU f (s.val x))
       cases uU f (s.val x) with
       | none=>rfl
       | some _ =>
         show jU env s (d.getD 0) (fun v ch=>bq env is (s.ap d v ch) K) f xs (s.recv xs) (s.gy xs)=uy env K is s d f xs (s.recv xs) (s.gy xs)
         cases s.recv xs <;> cases s.gy xs <;> rfl)
    | (rename_i x
       show aO (gAt env (s.val x)) (fun v=>bq env is (s.ap d (gZ v) .no) K)=R7 env K is s d (gAt env (s.val x))
       cases gAt env (s.val x) <;> rfl)
    | rfl
 | false=>rw [yQ,Eu hc]
theorem jL {op:PO} {t:Nat} {want:Bool}:bq env (⟨d,op,some (t,want),af⟩ :: is) s K=rE env K is s d op t want (s.gd t):=by
 change aO (s.gd t) _=rE env K is s d op t want (s.gd t)
 cases h:s.gd t with
 | none=>rfl
 | some b =>
   cases b with
   | none=>exact propext ⟨fun k=>k.2 (by simp),fun k=>⟨fun e=>(by simp at e),fun _=>k⟩⟩
   | some b =>
     have hb:=mH (uK h);rw [jN]
     show ((some b=some want→_)∧(some b≠some want→_))=_
     rw [H7,Option.some.injEq]
     congr 1
     ·apply propext
      refine forall_congr' fun he=>?_
      subst he;rw [hb];rfl
     ·apply propext
      refine forall_congr' fun he=>?_
      rw [←he,hb]
theorem Ez {op:PO} {t:Nat} {want:Bool} (h:s.gd t=some (some want)):bq env (⟨d,op,some (t,want),af⟩ :: is) s K=bq env (⟨d,op,none,[]⟩ :: is) s K:=by
 rw [jL,h,jN,mH (uK h)];exact propext ⟨fun k=>k.1 rfl,fun k=>⟨fun _=>k,fun e=>absurd e (by cases want <;> decide)⟩⟩
theorem Ew {op:PO} {t:Nat} {want:Bool} (h:s.gd t=some (some (!want))):bq env (⟨d,op,some (t,want),af⟩ :: is) s K=bq env is (s.ap d skp .no) K:=by
 rw [jL,h,jN,mH (uK h)];exact propext ⟨fun k=>k.2 rfl,fun k=>⟨fun e=>absurd e (by cases want <;> decide),fun _=>k⟩⟩
theorem Ey {op:PO} {t:Nat} {want:Bool} (h:s.gd t=some none):bq env (⟨d,op,some (t,want),af⟩ :: is) s K=bq env is (s.ap d skp .no) K:=by
 rw [jL,h,qB]
abbrev Ft:=List (List Rg×List Rg)
variable {KD:St→Ft→Prop} {acc:Ft}
def Kw (env:Env) (K:St→Ft→Prop) (is:List PI) (s:St) (d:Option Nat) (acc:Ft) (rd:List Rg) (o:Option (Av×Cg)):Prop:=aO o fun p=>dP env is (s.ap d p.1 p.2) ((rd,p.2.wrs) :: acc) K
theorem Ei {v:Av} {ch:Cg} {rd:List Rg}:Kw env KD is s d acc rd (some (v,ch))=dP env is (s.ap d v ch) ((rd,ch.wrs) :: acc) KD:=bP rfl
def OY (env:Env) (K:St→Ft→Prop) (is:List PI) (s:St) (d:Option Nat) (acc:Ft) (f:Nat) (o:Option (List Pa)):Prop:=aO o fun ps =>
 (∃ rs,env.d f ps rs∧dP env is (s.ap d (lX rs) .no) (([(d.getD 0,big - 1,1)],[]) :: acc) K)∨(∃ H rs,env.a f none ps H rs∧dP env is (s.ap d (AR (d.getD 0) (s.gen (d.getD 0)+1) rs) (.new (d.getD 0) (.ab H))) (([(d.getD 0,big - 1,1)],[(d.getD 0,0,big)]) :: acc) K)
theorem bQ {f:Nat} {ps:List Pa} (rs:List Pa) (h:env.d f ps rs) (k:dP env is (s.ap d (lX rs) .no) (([(d.getD 0,big - 1,1)],[]) :: acc) KD):OY env KD is s d acc f (some ps):=.inl ⟨rs,h,k⟩
def Si (env:Env) (K:St→Ft→Prop) (is:List PI) (s:St) (d:Option Nat) (acc:Ft) (f o:Nat) (oh:Option HP) (oa:Option (List Pa)):Prop:=aO oa fun ps=>aO oh fun H =>
 (∃ H' rs,env.a f (some H) ps H' rs∧dP env is (s.ap d (lX rs) (.ab o H')) (([(o,0,big),(d.getD 0,big - 1,1)],[(o,0,big)]) :: acc) K) ∨
 (∃ H2,ps=[]∧env.c f H H2∧dP env is (s.ap d (.b (.one (.ab (d.getD 0) (s.gen (d.getD 0)+1)))) (.new (d.getD 0) (.ab H2))) (([(o,0,big),(d.getD 0,big - 1,1)],[(d.getD 0,0,big)]) :: acc) K)
def VH (env:Env) (K:St→Ft→Prop) (is:List PI) (s:St) (d:Option Nat) (acc:Ft) (f o:Nat) (od:Option (List Dt)) (oa:Option (List Pa)):Prop:=aO oa fun ps=>aO od fun ds=>∃ ds' rs,env.m f ds ps ds' rs∧ds'.length=ds.length∧dP env is (s.ap d (lX rs) (.wr o 0 (ds'.map .d))) (([(o,0,big),(d.getD 0,big - 1,1)],[(o,0,(ds'.map Cl.d).length)]) :: acc) K
def nI (env:Env) (K:St→Ft→Prop) (is:List PI) (s:St) (d:Option Nat) (acc:Ft) (f:Nat) (xs:List PX):Option (Nat×Nat)→Option (Nat×Nat)→Prop
 | some (o,g),_=>Si env K is s d acc f o (s.zL o g) (s.args xs.tail)
 | none,some (o,g)=>VH env K is s d acc f o (s.jE o g) (s.args xs.tail)
 | none,none=>OY env K is s d acc f (s.args xs)
theorem Bd {f:Nat} {xs:List PX}:nI env KD is s d acc f xs none none=OY env KD is s d acc f (s.args xs):=bP rfl
theorem DY {f o g:Nat} {xs:List PX}:nI env KD is s d acc f xs none (some (o,g))=VH env KD is s d acc f o (s.jE o g) (s.args xs.tail):=bP rfl
theorem Bf {f o g:Nat} {xs:List PX} {p:Option (Nat×Nat)}:nI env KD is s d acc f xs (some (o,g)) p=Si env KD is s d acc f o (s.zL o g) (s.args xs.tail):=bP rfl
def goD (env:Env) (K:St→Ft→Prop) (is:List PI) (s:St) (d:Option Nat) (acc:Ft) (op:PO):Prop:=op.go env s (d.getD 0) fun v ch=>dP env is (s.ap d v ch) ((op.rd s (d.getD 0),ch.wrs) :: acc) K
def AL (env:Env) (K:St→Ft→Prop) (is:List PI) (s:St) (d:Option Nat) (acc:Ft) (op:PO) (t:Nat) (want:Bool):Option (Option Bool)→Prop
 | none=>False
 | some none=>dP env is (s.ap d skp .no) ((op.rd s (d.getD 0),[]) :: acc) K
 | some (some b)=>(b=want→goD env K is (s.ap (some t) (gZ (.bool want)) .no) d acc op)∧(b=!want→dP env is ((s.ap (some t) (gZ (.bool !want)) .no).ap d skp .no) ((op.rd s (d.getD 0),[]) :: acc) K)
theorem vK {op:PO} {t:Nat} {want:Bool}:AL env KD is s d acc op t want (some none)=dP env is (s.ap d skp .no) ((op.rd s (d.getD 0),[]) :: acc) KD:=bP rfl
theorem lG {op:PO} {t:Nat} {want b:Bool}:AL env KD is s d acc op t want (some (some b))=((b=want→goD env KD is (s.ap (some t) (gZ (.bool want)) .no) d acc op)∧(b=!want→dP env is ((s.ap (some t) (gZ (.bool !want)) .no).ap d skp .no) ((op.rd s (d.getD 0),[]) :: acc) KD)):=bP rfl
theorem IV:dP env [] s acc KD=KD s acc.reverse:=bP rfl
theorem Tj {op:PO} (h:op.bf=false):goD env KD is s d acc op=Kw env KD is s d acc (op.rd s (d.getD 0)) (op.fn s (d.getD 0)):=by
 unfold goD;rw [PO.AB h];rfl
def Aw (env:Env) (K:St→Ft→Prop) (is:List PI) (s:St) (d:Option Nat) (acc:Ft) (f:Nat) (xs:List PX):Option Unit→Prop
 | some _=>nI env K is s d acc f xs (s.recv xs) (s.gy xs)
 | none=>False
theorem Bg {f:Nat} {xs:List PX} {u:Unit}:Aw env KD is s d acc f xs (some u)=nI env KD is s d acc f xs (s.recv xs) (s.gy xs):=bP rfl
def KC (env:Env) (K:St→Ft→Prop) (is:List PI) (s:St) (d:Option Nat) (acc:Ft):Option Value→Prop
 | some v=>dP env is (s.ap d (gZ v) .no) (([],[]) :: acc) K
 | none=>False
theorem EY {v:Value}:KC env KD is s d acc (some v)=dP env is (s.ap d (gZ v) .no) (([],[]) :: acc) KD:=bP rfl
def Ov (env:Env) (K:St→Ft→Prop) (is:List PI) (s:St) (d:Option Nat) (acc:Ft) (c:Nat) (rd:List Rg) (k:HA):Prop:=xJ s c (fun v ch=>dP env is (s.ap d v ch) ((rd,ch.wrs) :: acc) K) k
theorem MB {c:Nat} {rd:List Rg} {z:List Value} (b:Nat) (h:s.lay c b) (k:dP env is (s.ap d (.b (.one (.hv (.p b 0)))) (.hw (HBS+c) [(b,.cells (z.map fun v=>.d (.sc v)))])) ((rd,[(HBS+c,0,big)]) :: acc) KD):Ov env KD is s d acc c rd (.new z):=⟨b,h,k⟩
theorem GU {c sz bytes:Nat} {rd:List Rg} {z:List Value} {n m:PX} (l:Int) (b:Nat) (h:s.lay c b) (h1:s.int n=some l) (h2:s.int m=some l) (h3:0≤l∧l≤1000000∧bytes≤1000000) (k:dP env is (s.ap d (.b (.one (.hv (.s b 0 l.toNat l.toNat)))) (.hw (HBS+c) [(b,.cells ((List.range (l.toNat * sz)).map fun i=>.d (.sc (z.getD (i % sz) undef))))])) ((rd,[(HBS+c,0,big)]) :: acc) KD):Ov env KD is s d acc c rd (.mk sz bytes z n m) :=
 aj.2 ⟨l,h1,aj.2 ⟨l,h2,⟨h3.1,rfl,h3.2⟩,b,h,k⟩⟩
theorem Jf {c E sz bytes:Nat} {rd:List Rg} {x y:PX} {news:List (List Dt)} (b:Nat) (h:s.lay c b) (h1:s.cl x=.d (.sc (.slice none 0 0))) (h2:(s.cl y).rows=some news) (h3:(∀ r ∈ news,r.length=sz)∧news.length≤1000000∧bytes≤1000000) (k:dP env is (s.ap d (.b (.one (.hv (.v b)))) (.hw (HBS+c) [(b,.vec E sz news)])) ((rd,[(HBS+c,0,big)]) :: acc) KD):Ov env KD is s d acc c rd (.app E sz bytes x y) :=
 aj.2 ⟨news,h2,by rw [h1];exact ⟨h3,b,h,k⟩⟩
theorem Me {c E sz bytes a:Nat} {rd:List Rg} {x y:PX} {rows news:List (List Dt)} (b:Nat) (h:s.lay (s.nc a) b) (h1:s.cl x=.hv (.v a)) (h0:s.hb a=.vec E sz rows) (h2:(s.cl y).rows=some news) (h3:(∀ r ∈ news,r.length=sz)∧rows.length+news.length≤1000000∧bytes≤1000000) (k:dP env is (s.ap d (.b (.one (.hv (.v b)))) (.hw (HBS+s.nc a) [(a,.dead),(b,.vec E sz (rows ++ news))])) ((rd,[(HBS+s.nc a,0,big)]) :: acc) KD):Ov env KD is s d acc c rd (.app E sz bytes x y) :=
 aj.2 ⟨news,h2,by rw [h1];exact aj.2 ⟨(E,sz,rows),by rw [h0];rfl,⟨rfl,rfl,h3⟩,b,h,k⟩⟩
def xG (env:Env) (K:St→Ft→Prop) (is:List PI) (s:St) (d:Option Nat) (acc:Ft) (f:Nat) (oa:Option (List Hw)):Prop:=aO oa fun az=>qP env s (fun v ch=>dP env is (s.ap d v ch) (([(jm,0,big)],ch.wrs) :: acc) K) f az
theorem mM {f:Nat} {az:List Hw} (hp':Nat→Hb) (rs:List Hw) (h:env.h f s.hb az hp' rs) (k:dP env is (s.ap d (Af rs) (.hall hp')) (([(jm,0,big)],[(jm,0,big)]) :: acc) KD):xG env KD is s d acc f (some az):=⟨hp',rs,h,.inl k⟩
theorem Bc {f:Nat} {az:List Hw} (rs:List Hw) (h:env.h f s.hb az s.hb rs) (ha:∀ c,Dc (s.ob (HBS+c))=true) (k:dP env is (s.ap d (Af rs) .no) (([(jm,0,big)],[]) :: acc) KD):xG env KD is s d acc f (some az):=⟨s.hb,rs,h,.inr ⟨rfl,ha,k⟩⟩
def SN (env:Env) (K:St→Ft→Prop) (is:List PI) (s:St) (d:Option Nat) (acc:Ft) (f:Nat) (oa:Option (List Hw)):Prop:=aO oa fun az=>Au env s (fun v ch=>dP env is (s.ap d v ch) (([],ch.wrs) :: acc) K) f az
def FW (env:Env) (K:St→Ft→Prop) (is:List PI) (s:St) (d:Option Nat) (acc:Ft) (f:Nat) (of:Option (List (Nat×Nat)×List (Nat×Nat))) (oa:Option (List Hw)):Prop:=aO of fun p=>aO oa fun az=>qP env s (fun v ch=>dP env is (s.ap d v ch) (([(jm,0,big)],ch.wrs) :: acc) K) f (tY p.1 ++ az ++ tY p.2)
theorem A8 {f:Nat} {az:List Hw} {a c:List (Nat×Nat)}:FW env KD is s d acc f (some (a,c)) (some az)=xG env KD is s d acc f (some (tY a ++ az ++ tY c)):=bP rfl
def U5 (env:Env) (K:St→Ft→Prop) (is:List PI) (s:St) (d:Option Nat) (acc:Ft) (x:Cl):Prop:=KF s x (fun v ch=>dP env is (s.ap d v ch) (([],ch.wrs) :: acc) K)
def opD (env:Env) (K:St→Ft→Prop) (is:List PI) (s:St) (d:Option Nat) (acc:Ft) (b:Bool) (op:PO):Prop:=match b with
 | true=>(match op with | .call f xs=>nI env K is s d acc f xs (s.recv xs) (s.gy xs) | .callv x f xs=>Aw env K is s d acc f xs (uU f (s.val x)) | .ldg x=>KC env K is s d acc (gAt env (s.val x)) | .hal c k=>Ov env K is s d acc c ((PO.hal c k).rd s (d.getD 0)) k | .next x=>U5 env K is s d acc (s.cl x) | .callh f xs=>xG env K is s d acc f (s.hws xs) | .callp f xs=>SN env K is s d acc f (s.hws xs) | .callc x f xs=>FW env K is s d acc f (GL f (s.cl x)) (s.hws xs) | _=>False)
 | false=>Kw env K is s d acc (op.rd s (d.getD 0)) (op.fn s (d.getD 0))
theorem yP {op:PO}:opD env KD is s d acc false op=Kw env KD is s d acc (op.rd s (d.getD 0)) (op.fn s (d.getD 0)):=bP rfl
theorem M6 {f:Nat} {xs:List PX}:opD env KD is s d acc true (.call f xs)=nI env KD is s d acc f xs (s.recv xs) (s.gy xs):=bP rfl
theorem JC {x:PX} {f:Nat} {xs:List PX}:opD env KD is s d acc true (.callv x f xs)=Aw env KD is s d acc f xs (uU f (s.val x)):=bP rfl
theorem QF {x:PX}:opD env KD is s d acc true (.ldg x)=KC env KD is s d acc (gAt env (s.val x)):=bP rfl
theorem QE {c:Nat} {k:HA}:opD env KD is s d acc true (.hal c k)=Ov env KD is s d acc c ((PO.hal c k).rd s (d.getD 0)) k:=bP rfl
theorem JB {f:Nat} {xs:List PX}:opD env KD is s d acc true (.callh f xs)=xG env KD is s d acc f (s.hws xs):=bP rfl
theorem JA {x:PX} {f:Nat} {xs:List PX}:opD env KD is s d acc true (.callc x f xs)=FW env KD is s d acc f (GL f (s.cl x)) (s.hws xs):=bP rfl
theorem Tm {op:PO}:goD env KD is s d acc op=opD env KD is s d acc op.bf op:=by
 cases hc:op.bf with
 | true =>
   cases op <;> first
    | (cases hc;done)
    | (rename_i f xs
       show jU env s (d.getD 0) (fun v ch=>dP env is (s.ap d v ch) (((PO.call f xs).rd s (d.getD 0),ch.wrs) :: acc) KD) f xs (s.recv xs) (s.gy xs)=nI env KD is s d acc f xs (s.recv xs) (s.gy xs)
       have hrd:(PO.call f xs).rd s (d.getD 0)=match s.recv xs,s.gy xs with | some p,_=>[(p.1,0,big),(d.getD 0,big - 1,1)] | none,some p=>[(p.1,0,big),(d.getD 0,big - 1,1)] | none,none=>[(d.getD 0,big - 1,1)]:=rfl
       rw [hrd];cases s.recv xs <;> cases s.gy xs <;> rfl)
    | (rename_i x f xs
       show aO (uU f (s.val x)) (fun _=>jU env s (d.getD 0) (fun v ch=>dP env is (s.ap d v ch) (((PO.callv x f xs).rd s (d.getD 0),ch.wrs) :: acc) KD) f xs (s.recv xs) (s.gy xs))=Aw env KD is s d acc f xs (uU f (s.val x))
       have hrd:(PO.callv x f xs).rd s (d.getD 0)=match s.recv xs,s.gy xs with | some p,_=>[(p.1,0,big),(d.getD 0,big - 1,1)] | none,some p=>[(p.1,0,big),(d.getD 0,big - 1,1)] | none,none=>[(d.getD 0,big - 1,1)]:=rfl
       rw [hrd]
       cases uU f (s.val x) with
       | none=>rfl
       | some u =>
         show jU env s (d.getD 0) (fun v ch=>dP env is (s.ap d v ch) ((match s.recv xs,s.gy xs with | some p,_=>[(p.1,0,big),(d.getD 0,big - 1,1)] | none,some p=>[(p.1,0,big),(d.getD 0,big - 1,1)] | none,none=>[(d.getD 0,big - 1,1)],ch.wrs) :: acc) KD) f xs (s.recv xs) (s.gy xs)=nI env KD is s d acc f xs (s.recv xs) (s.gy xs)
         cases s.recv xs <;> cases s.gy xs <;> rfl)
    | (rename_i x
       show aO (gAt env (s.val x)) (fun v=>dP env is (s.ap d (gZ v) .no) (([],[]) :: acc) KD)=KC env KD is s d acc (gAt env (s.val x))
       cases gAt env (s.val x) <;> rfl)
    | rfl
 | false=>rw [yP,Tj hc]
theorem Bw {op:PO}:dP env (⟨d,op,none,af⟩ :: is) s acc KD=goD env KD is s d acc op:=bP rfl
theorem lF {op:PO} {t:Nat} {want:Bool}:dP env (⟨d,op,some (t,want),af⟩ :: is) s acc KD=AL env KD is s d acc op t want (s.gd t):=by
 change aO (s.gd t) _=AL env KD is s d acc op t want (s.gd t)
 cases h:s.gd t with
 | none=>rfl
 | some b =>
   cases b with
   | none=>exact propext ⟨fun k=>k.2 (by simp),fun k=>⟨fun e=>(by simp at e),fun _=>k⟩⟩
   | some b =>
     have hb:=mH (uK h);rw [lG]
     show ((some b=some want→_)∧(some b≠some want→_))=_
     rw [H7,Option.some.injEq]
     congr 1
     ·apply propext
      refine forall_congr' fun he=>?_
      subst he;rw [hb];rfl
     ·apply propext
      refine forall_congr' fun he=>?_
      rw [←he,hb];rfl
theorem Lu {op:PO} {t:Nat} {want:Bool} (h:s.gd t=some (some want)):dP env (⟨d,op,some (t,want),af⟩ :: is) s acc KD=goD env KD is s d acc op:=by
 rw [lF,h,lG,mH (uK h)];exact propext ⟨fun k=>k.1 rfl,fun k=>⟨fun _=>k,fun e=>absurd e (by cases want <;> decide)⟩⟩
theorem Lr {op:PO} {t:Nat} {want:Bool} (h:s.gd t=some (some (!want))):dP env (⟨d,op,some (t,want),af⟩ :: is) s acc KD=dP env is (s.ap d skp .no) ((op.rd s (d.getD 0),[]) :: acc) KD:=by
 rw [lF,h,lG,mH (uK h)];exact propext ⟨fun k=>k.2 rfl,fun k=>⟨fun e=>absurd e (by cases want <;> decide),fun _=>k⟩⟩
theorem Ls {op:PO} {t:Nat} {want:Bool} (h:s.gd t=some none):dP env (⟨d,op,some (t,want),af⟩ :: is) s acc KD=dP env is (s.ap d skp .no) ((op.rd s (d.getD 0),[]) :: acc) KD:=by
 rw [lF,h,vK]
inductive It where
 | c (x:PC)
 | bl (id:Nat)
 | lp (I:Nat→St→Prop) (n:Nat)
def exS (env:Env):List It→(Exit→St→Prop)→Exit→St→Prop
 | [],Q,e,s=>Q e s
 | .c b :: k,Q,e,s=>match e with
   | .normal=>pwp env b (exS env k Q) s
   | e=>exS env k Q e s
 | .bl id :: k,Q,e,s=>match e with
   | .exit i=>if i=id then exS env k Q .normal s else exS env k Q (.exit i) s
   | e=>exS env k Q e s
 | .lp I n :: k,Q,e,s=>match e with
   | .normal=>∃ m,m < n∧I m s
   | e=>exS env k Q e s
variable {k:List It} {Q:Exit→St→Prop}
theorem P9 {e:Exit}:exS env [] Q e s=Q e s:=bP rfl
theorem RZ {b:PC}:exS env (.c b :: k) Q .normal s=pwp env b (exS env k Q) s:=bP rfl
theorem IW {b:PC}:exS env (.c b :: k) Q .ret s=exS env k Q .ret s:=bP rfl
theorem EF {b:PC} {i:Nat}:exS env (.c b :: k) Q (.exit i) s=exS env k Q (.exit i) s:=bP rfl
theorem S9 {id:Nat}:exS env (.bl id :: k) Q .normal s=exS env k Q .normal s:=bP rfl
theorem ED {id:Nat}:exS env (.bl id :: k) Q .ret s=exS env k Q .ret s:=bP rfl
theorem BA {id i:Nat}:exS env (.bl id :: k) Q (.exit i) s=if i=id then exS env k Q .normal s else exS env k Q (.exit i) s:=bP rfl
theorem EG {I:Nat→St→Prop} {n:Nat}:exS env (.lp I n :: k) Q .ret s=exS env k Q .ret s:=bP rfl
theorem BD {I:Nat→St→Prop} {n i:Nat}:exS env (.lp I n :: k) Q (.exit i) s=exS env k Q (.exit i) s:=bP rfl
theorem aH {c:PC} (h:pwp env c (exS env [] Q) s):pwp env c Q s:=h
theorem mE {Q':Exit→St→Prop} {c:PC} (sls obs:List Nat) (h:∀ st:St,(∀ x,x ∈ sls→st.sl x=s.sl x)→(∀ o,o ∈ obs→st.gen o=s.gen o∧st.ob o=s.ob o)→pwp env c Q' st):pwp env c Q' s:=h s (fun _ _=>rfl) (fun _ _=>⟨rfl,rfl⟩)
theorem Fa {Q':Exit→St→Prop} {c:PC} (P:St→Prop) (hP:P s) (sls obs:List Nat) (h:∀ st:St,P st→(∀ x,x ∈ sls→st.sl x=s.sl x)→(∀ o,o ∈ obs→st.gen o=s.gen o∧st.ob o=s.ob o)→pwp env c Q' st):pwp env c Q' s:=h s hP (fun _ _=>rfl) (fun _ _=>⟨rfl,rfl⟩)
theorem Nj:pwp env .skip (exS env k Q) s=exS env k Q .normal s:=bP rfl
theorem QS {ops:List PI}:pwp env (.reg false ops) (exS env k Q) s=bq env ops s (exS env k Q .normal):=bP rfl
def drawn (ops:List PI) (K:St→Prop) (s:St) (fts:Ft):Prop:=xI ops fts=true∧K s
def Drw (ops:List PI) (fts:Ft):Prop:=xI ops fts=true
theorem Iy {ops:List PI} {K:St→Prop} {fts:Ft}:drawn ops K s fts=(Drw ops fts∧K s):=bP rfl
theorem Ni {ops:List PI}:pwp env (.reg true ops) (exS env k Q) s=dP env ops s [] (drawn ops (exS env k Q .normal)):=bP rfl
theorem QU {a b:PC}:pwp env (.seq a b) (exS env k Q) s=pwp env a (exS env (.c b :: k) Q) s:=by
 show pwp env a _ s=_
 congr 1
def RU (env:Env) (a b:PC) (k:List It) (Q:Exit→St→Prop) (s:St) (o:Option Bool):Prop:=aO o fun t=>(t=true→pwp env a (exS env k Q) s)∧(t=false→pwp env b (exS env k Q) s)
theorem Eh {a b:PC} {t:Bool}:RU env a b k Q s (some t)=((t=true→pwp env a (exS env k Q) s)∧(t=false→pwp env b (exS env k Q) s)):=bP rfl
theorem Nc {c:PX} {a b:PC}:pwp env (.cond c a b) (exS env k Q) s=RU env a b k Q s (s.boo c):=bP rfl
theorem JK {id:Nat} {c:PC}:pwp env (.block id c) (exS env k Q) s=pwp env c (exS env (.bl id :: k) Q) s:=by
 show pwp env c _ s=_
 congr 1
theorem Nh {id:Nat}:pwp env (.exit id) (exS env k Q) s=exS env k Q (.exit id) s:=bP rfl
theorem QT:pwp env .ret (exS env k Q) s=exS env k Q .ret s:=bP rfl
theorem Dp {c:PC} (I:Nat→St→Prop) (n:Nat) (h0:I n s) (h:∀ n s,I n s→pwp env c (exS env (.lp I n :: k) Q) s):pwp env (.loop c) (exS env k Q) s:=by
 refine ⟨I,⟨n,h0⟩,fun n s hI=>?_⟩;have:=h n s hI
 have he:exS env (.lp I n :: k) Q=fun e s'=>match e with | .normal=>∃ m,m < n∧I m s' | e=>exS env k Q e s':=by
  funext e s'
  cases e <;> rfl
 rw [he] at this;exact this
theorem UU {x:Nat} {v:Av} {ch:Cg}:(s.ap (some x) v ch).sl=up s.sl x v:=bP rfl
theorem SL {v:Av} {ch:Cg}:(s.ap none v ch).sl=s.sl:=bP rfl
theorem SF {v:Av}:(s.ap d v .no).gen=s.gen:=bP rfl
theorem PD {v:Av} {o off:Nat} {cs:List Cl}:(s.ap d v (.wr o off cs)).gen=s.gen:=bP rfl
theorem Pz {v:Av} {o m:Nat}:(s.ap d v (.row o m)).gen=s.gen:=bP rfl
theorem Py {v:Av} {o:Nat} {x:Ob}:(s.ap d v (.new o x)).gen=up s.gen o (s.gen o+1):=bP rfl
theorem UR {v:Av}:(s.ap d v .no).ob=s.ob:=bP rfl
theorem Oo {v:Av} {o off:Nat} {cs:List Cl}:(s.ap d v (.wr o off cs)).ob=up s.ob o (wrF off cs (s.ob o)):=by
 rw [uw];rfl
theorem Om {v:Av} {o m:Nat}:(s.ap d v (.row o m)).ob=up s.ob o (Q0 m (s.ob o)):=by
 rw [uw];rfl
theorem SK {v:Av} {o:Nat} {x:Ob}:(s.ap d v (.new o x)).ob=up s.ob o x:=bP rfl
theorem UQ {v:Av} {ch:Cg}:(s.ap d v ch).nc=s.nc:=bP rfl
theorem Px {v:Av} {o:Nat} {l:List (Nat×Hb)}:(s.ap d v (.hw o l)).gen=s.gen:=bP rfl
theorem Pq {v:Av} {h:Nat→Hb}:(s.ap d v (.hall h)).gen=s.gen:=bP rfl
theorem SI {v:Av} {c x:Nat} {l:List (Nat×Hb)} (hx:x < 1000000):(s.ap d v (.hw (HBS+c) l)).ob x=s.ob x:=by
 show up s.ob (HBS+c) _ x=_
 rw [aA,if_neg (by unfold HBS;omega)]
theorem SG {v:Av} {x:Nat} {h:Nat→Hb} (hx:x < 1000000):(s.ap d v (.hall h)).ob x=s.ob x:=by
 show (if HBS≤x then _ else _)=_
 rw [if_neg (by unfold HBS;omega)]
theorem UZ {v:Av}:(s.ap d v .no).hb=s.hb:=bP rfl
theorem hb_new {v:Av} {o:Nat} {x:Ob} (h:o < 1000000):(s.ap d v (.new o x)).hb=s.hb:=by
 funext b
 exact rG (o:=o) (fun p hp=>by show up s.ob o x p=_;rw [aA,if_neg hp]) (.inl (by unfold HBS;exact h)) b
theorem U0 {v:Av} {o off:Nat} {cs:List Cl} (h:o < 1000000):(s.ap d v (.wr o off cs)).hb=s.hb:=by
 funext b
 exact rG (o:=o) (fun p hp=>by rw [Oo,aA,if_neg hp]) (.inl (by unfold HBS;exact h)) b
theorem Tz {v:Av} {o m:Nat} (h:o < 1000000):(s.ap d v (.row o m)).hb=s.hb:=by
 funext b
 exact rG (o:=o) (fun p hp=>by rw [Om,aA,if_neg hp]) (.inl (by unfold HBS;exact h)) b
theorem UY {v:Av} {o:Nat} {H:HP} (h:o < 1000000):(s.ap d v (.ab o H)).hb=s.hb:=by
 funext b
 exact rG (o:=o) (fun p hp=>by show up s.ob o (.ab H) p=_;rw [aA,if_neg hp]) (.inl (by unfold HBS;exact h)) b
theorem Ie {f g:Nat→Hb} {b:Nat}:∀ {l:List (Nat×Hb)},f b=g b→upl f l b=upl g l b
 | [],h=>h
 | (c,x) :: l,h=>by
   show upl (up f c x) l b=upl (up g c x) l b
   exact Ie (l:=l) (by rw [aA,aA,h])
theorem Ic {f:Nat→Hb} {b:Nat}:∀ {l:List (Nat×Hb)},(∀ p ∈ l,p.1≠b)→upl f l b=f b
 | [],_=>rfl
 | (c,x) :: l,h=>by
   show upl (up f c x) l b=f b
   rw [Ic (fun p hp=>h p (by simp [hp])),aA,if_neg (Ne.symm (h (c,x) (by simp)))]
theorem Oy {v:Av} {c:Nat} {l:List (Nat×Hb)} (h:∀ p ∈ l,s.nc p.1=c):(s.ap d v (.hw (HBS+c) l)).hb=upl s.hb l:=by
 funext b
 show fZ (up s.ob (HBS+c) (.hp (upl (fZ (s.ob (HBS+c))) l)) (HBS+s.nc b)) b=upl s.hb l b
 rw [aA]
 by_cases hb:s.nc b=c
 ·rw [if_pos (by rw [hb])];exact Ie (show fZ (s.ob (HBS+c)) b=fZ (s.ob (HBS+s.nc b)) b by rw [hb])
 ·rw [if_neg (by omega),Ic (fun p hp e=>hb (by rw [←e];exact h p hp))]
  rfl
theorem Tt {v:Av} {c b:Nat} {x:Hb} (h:s.nc b=c):(s.ap d v (.hw (HBS+c) [(b,x)])).hb=up s.hb b x:=Oy (by simpa using h)
theorem Tv {v:Av} {c b b':Nat} {x x':Hb} (h:s.nc b=c) (h':s.nc b'=c):(s.ap d v (.hw (HBS+c) [(b,x),(b',x')])).hb=up (up s.hb b x) b' x':=Oy (by simp [h,h'])
theorem Tq {v:Av} {h:Nat→Hb}:(s.ap d v (.hall h)).hb=h:=GV
def RS:Cg→Bool
 | .new o _=>decide (o < 1000000)
 | .wr o _ _=>decide (o < 1000000)
 | .row o _=>decide (o < 1000000)
 | .ab o _=>decide (o < 1000000)
 | _=>true
def aF (s:St):Prop:=∀ c,Dc (s.ob (HBS+c))=true
theorem aF.ap {v:Av} {ch:Cg} (h:aF s) (hc:RS ch=true):aF (s.ap d v ch):=fun c=>by
 have hHB:∀ o,decide (o < 1000000)=true→HBS+c≠o:=fun o ho=>by have:=of_decide_eq_true ho;unfold HBS;omega
 rw [uw]
 show Dc (ch.oF s.nc s.ob (HBS+c))=true
 cases ch with
 | no=>exact h c
 | new o x=>simp only [Cg.oF,md,aA,if_neg (hHB o hc)];exact h c
 | wr o off cs=>simp only [Cg.oF,md,aA,if_neg (hHB o hc)];exact h c
 | row o m=>simp only [Cg.oF,md,aA,if_neg (hHB o hc)];exact h c
 | ab o H=>simp only [Cg.oF,md,aA,if_neg (hHB o hc)];exact h c
 | hw o l=>simp only [Cg.oF,md,aA];split;rfl;exact h c
 | hall hp=>simp only [Cg.oF];rw [if_pos (Nat.le_add_right _ _)];rfl
theorem bG {c b:Nat} (h1:s.nc b=c) (h2:aF s) (h3:s.hb b=.no):s.lay c b:=⟨h1,h2 c,h3⟩
theorem aF.init {nc:Nat→Nat} {hp:Nat→Hb} {az:List Hw}:aF (St.gB nc hp az):=fun c=>by
 show Dc (if HBS≤HBS+c then _ else _)=true
 rw [if_pos (Nat.le_add_right _ _)];rfl
def pJ:List Hw→Nat→Av
 | [],_=>.un
 | p :: _,0=>.b p.bv
 | _ :: r,n+1=>pJ r n
theorem MJ (nc:Nat→Nat) (hp:Nat→Hb) (ps:List Hw) (x:Nat):(St.gB nc hp ps).sl x=pJ ps x:=by
 show (match ps[x]? with | some p=>Av.b p.bv | none=>.un)=_
 induction ps generalizing x with
 | nil=>simp [pJ]
 | cons p r ih =>
   cases x with
   | zero=>rfl
   | succ x=>rw [List.getElem?_cons_succ,ih x];rfl
theorem Jk {nc:Nat→Nat} {hp:Nat→Hb} {ps:List Hw} {x:Nat}:(St.gB nc hp ps).gen x=0:=bP rfl
theorem MI {nc:Nat→Nat} {hp:Nat→Hb} {ps:List Hw} {x:Nat} (h:x < 1000000):(St.gB nc hp ps).ob x=.no:=by
 show (if HBS≤x then _ else _)=_
 rw [if_neg (by unfold HBS;omega)]
theorem MH {nc:Nat→Nat} {hp:Nat→Hb} {ps:List Hw}:(St.gB nc hp ps).nc=nc:=bP rfl
theorem Kr {off:Nat} {cs old:List Cl}:wrF off cs (.cells old)=.cells (iQ old off cs):=bP rfl
theorem Nr {m E sz n:Nat}:Q0 m (.row E sz n)=.row E sz m:=bP rfl
def qQ:List Pa→Nat→Av
 | [],_=>.un
 | p :: _,0=>.b p.bv
 | _ :: r,n+1=>qQ r n
theorem GY (ps:List Pa) (x:Nat):(St.init ps).sl x=qQ ps x:=by
 show (match ps[x]? with | some p=>Av.b p.bv | none=>.un)=_
 induction ps generalizing x with
 | nil=>simp [qQ]
 | cons p r ih =>
   cases x with
   | zero=>rfl
   | succ x=>rw [List.getElem?_cons_succ,ih x];rfl
theorem Jp {ds:List Dt} {ps:List Pa}:(St.ES ds ps).sl 0=.b (.one (.ptr 0 0 0)):=bP rfl
theorem Jq {ds:List Dt} {ps:List Pa} {x:Nat}:(St.ES ds ps).sl (x+1)=qQ ps x:=(GY ps x)
theorem Jl {ds:List Dt} {ps:List Pa} {x:Nat}:(St.ES ds ps).gen x=0:=bP rfl
theorem Jm {ds:List Dt} {ps:List Pa}:(St.ES ds ps).ob 0=.cells (ds.map .d):=bP rfl
theorem Jo {ds:List Dt} {ps:List Pa} {x:Nat}:(St.ES ds ps).ob (x+1)=.no:=bP rfl
theorem MK {ps:List Pa} {x:Nat}:(St.init ps).gen x=0:=bP rfl
theorem Ql {ps:List Pa} {x:Nat}:(St.init ps).ob x=.no:=bP rfl
theorem VK {x:Nat}:s.ev (.t x)=s.sl x:=bP rfl
theorem SV {k:IntKind} {m:Int}:s.ev (.v (.int k m))=.b (.one (.d (.sc (.int k m)))):=bP rfl
theorem P8 {b:Bool}:s.ev (.v (.bool b))=.b (.one (.d (.sc (.bool b)))):=bP rfl
theorem IU {b:ByteArray}:s.ev (.v (.string b))=.b (.one (.d (.sc (.string b)))):=bP rfl
theorem SX:s.ev (.v (.slice none 0 0))=.b (.one (.d (.sc (.slice none 0 0)))):=bP rfl
theorem SS {l:Array Value}:s.ev (.v (.agg l))=.b (.agg (l.toList.map fun v=>.d (.sc v))):=bP rfl
theorem SY:s.ev (.v (.pointer none))=.b (.one (.d (.sc (.pointer none)))):=bP rfl
theorem KW:s.args []=some []:=bP rfl
theorem Il {x:PX} {xs:List PX}:s.args (x :: xs)=(match (s.ev x).pa with | some p=>(s.args xs).map (p :: ·) | none=>none):=by
 unfold St.args;simp only [List.map_cons];cases (s.ev x).pa <;> rfl
end
def Within (ms os:List Nat) (s0 st:St):Prop:=(∀ x,ms.contains x=false→st.sl x=s0.sl x)∧∀ o,os.contains o=false→st.gen o=s0.gen o∧st.ob o=s0.ob o
def over (ms os:List Nat) (s0 j:St):St:=⟨fun x=>bif ms.contains x then j.sl x else s0.sl x,fun o=>bif os.contains o then j.gen o else s0.gen o,fun o=>bif os.contains o then j.ob o else s0.ob o,j.nc⟩
theorem Within.refl (ms os:List Nat) (s:St):Within ms os s s:=⟨fun _ _=>rfl,fun _ _=>⟨rfl,rfl⟩⟩
theorem Within.over {ms os:List Nat} {s0 st:St} (h:Within ms os s0 st):∃ j,st=over ms os s0 j:=by
 refine ⟨st,?_⟩;obtain ⟨h1,h2⟩:=h
 have e1:st.sl=(Go.Proofs.Ytffcpijeebagfaa.over ms os s0 st).sl:=by
  funext x
  show st.sl x=bif ms.contains x then st.sl x else s0.sl x
  cases hx:ms.contains x with
  | true=>rfl
  | false=>exact h1 x hx
 have e2:st.gen=(Go.Proofs.Ytffcpijeebagfaa.over ms os s0 st).gen:=by
  funext x
  show st.gen x=bif os.contains x then st.gen x else s0.gen x
  cases hx:os.contains x with
  | true=>rfl
  | false=>exact (h2 x hx).1
 have e3:st.ob=(Go.Proofs.Ytffcpijeebagfaa.over ms os s0 st).ob:=by
  funext x
  show st.ob x=bif os.contains x then st.ob x else s0.ob x
  cases hx:os.contains x with
  | true=>rfl
  | false=>exact (h2 x hx).2
 show (⟨st.sl,st.gen,st.ob,st.nc⟩:St)=⟨(Go.Proofs.Ytffcpijeebagfaa.over ms os s0 st).sl,(Go.Proofs.Ytffcpijeebagfaa.over ms os s0 st).gen,(Go.Proofs.Ytffcpijeebagfaa.over ms os s0 st).ob,st.nc⟩
 rw [←e1,←e2,←e3]
theorem Ht {ms os:List Nat} {s0 j:St} {x:Nat}:(over ms os s0 j).sl x=bif ms.contains x then j.sl x else s0.sl x:=bP rfl
theorem Dn {ms os:List Nat} {s0 j:St} {x:Nat}:(over ms os s0 j).gen x=bif os.contains x then j.gen x else s0.gen x:=bP rfl
theorem Hr {ms os:List Nat} {s0 j:St} {x:Nat}:(over ms os s0 j).ob x=bif os.contains x then j.ob x else s0.ob x:=bP rfl
theorem aW {ms os:List Nat} {s0 j:St}:Within ms os s0 (over ms os s0 j)=True:=by
 apply propext
 refine ⟨fun _=>trivial,fun _=>⟨fun x hx=>?_,fun o ho=>⟨?_,?_⟩⟩⟩
 ·rw [Ht,hx];rfl
 ·rw [Dn,ho];rfl
 ·rw [Hr,ho];rfl
def UL (os:List Nat):Cg→Bool
 | .ab o _=>os.contains o
 | .no=>true
 | .new o _=>os.contains o
 | .wr o _ _=>os.contains o
 | .row o _=>os.contains o
 | .hw o _=>os.contains o
 | .hall _=>false
theorem Within.ap {ms os:List Nat} {s0 s:St} {d:Option Nat} {v:Av} {ch:Cg} (h:Within ms os s0 s) (hd:∀ x,d=some x→ms.contains x=true) (hc:UL os ch=true):Within ms os s0 (s.ap d v ch):=by
 obtain ⟨h1,h2⟩:=h;rw [uw];refine ⟨fun x hx=>?_,fun o ho=>?_⟩
 ·cases d with
  | none=>exact h1 x hx
  | some y =>
    show up s.sl y v x=_
    rw [aA,if_neg]
    ·exact h1 x hx
    ·rintro rfl;rw [hd x rfl] at hx;cases hx
 ·have key:∀ y:Nat,os.contains y=true→o≠y:=by
   rintro y hy rfl;rw [hy] at ho;cases ho
  show ch.gF s.gen o=_∧ch.oF s.nc s.ob o=_
  cases ch with
  | no=>exact h2 o ho
  | new y x=>simp only [Cg.gF,Cg.oF,Go.Proofs.Ytffcpijeebagfaa.md,aA,if_neg (key y hc)];exact h2 o ho
  | wr y off cs=>simp only [Cg.gF,Cg.oF,Go.Proofs.Ytffcpijeebagfaa.md,aA,if_neg (key y hc)];exact h2 o ho
  | row y m=>simp only [Cg.gF,Cg.oF,Go.Proofs.Ytffcpijeebagfaa.md,aA,if_neg (key y hc)];exact h2 o ho
  | ab y H=>simp only [Cg.gF,Cg.oF,Go.Proofs.Ytffcpijeebagfaa.md,aA,if_neg (key y hc)];exact h2 o ho
  | hw y l=>simp only [Cg.gF,Cg.oF,Go.Proofs.Ytffcpijeebagfaa.md,aA,if_neg (key y hc)];exact h2 o ho
  | hall h=>cases hc
theorem bH {ms os:List Nat} {s0 s:St} {x:Nat} {v:Av} {ch:Cg} (h:Within ms os s0 s) (hd:ms.contains x=true) (hc:UL os ch=true):Within ms os s0 (s.ap (some x) v ch):=h.ap (fun y hy=>by cases hy;exact hd) hc
theorem bg {ms os:List Nat} {s0 s:St} {v:Av} {ch:Cg} (h:Within ms os s0 s) (hc:UL os ch=true):Within ms os s0 (s.ap none v ch):=h.ap (fun y hy=>by cases hy) hc
theorem Within.trans {ms os:List Nat} {a b c:St} (h:Within ms os a b) (k:Within ms os b c):Within ms os a c :=
 ⟨fun x hx=>(k.1 x hx).trans (h.1 x hx),fun o ho=>⟨(k.2 o ho).1.trans (h.2 o ho).1,(k.2 o ho).2.trans (h.2 o ho).2⟩⟩
theorem dZ {env:Env} {k:List It} {Q:Exit→St→Prop} {s:St} {c:PC} (ms os:List Nat) (J:Nat→St→Prop) (m0:Nat) (h0:J m0 s)
 (h:∀ m j,J m (over ms os s j)→pwp env c (exS env (.lp (fun m st=>Within ms os s st∧J m st) m :: k) Q) (over ms os s j)):pwp env (.loop c) (exS env k Q) s :=
 Dp (fun m st=>Within ms os s st∧J m st) m0 ⟨Within.refl _ _ _,h0⟩ (fun m st ⟨hW,hJ⟩=>by
  obtain ⟨j,rfl⟩:=hW.over;exact h m j hJ)
def eB (ms os:List Nat) (s0 st:St):Prop:=(∀ x,ms.contains x=false→st.sl x=s0.sl x)∧(∀ o,os.contains o=false→st.gen o=s0.gen o∧(o < 1000000→st.ob o=s0.ob o))∧st.nc=s0.nc∧aF st
def kH (ms os:List Nat) (s0 j:St):St:=⟨fun x=>bif ms.contains x then j.sl x else s0.sl x,fun o=>bif os.contains o then j.gen o else s0.gen o,fun o=>if o < 1000000 then (bif os.contains o then j.ob o else s0.ob o) else j.ob o,s0.nc⟩
theorem eB.refl (ms os:List Nat) {s:St} (h:aF s):eB ms os s s:=⟨fun _ _=>rfl,fun _ _=>⟨rfl,fun _=>rfl⟩,rfl,h⟩
theorem eB.over {ms os:List Nat} {s0 st:St} (h:eB ms os s0 st):st=kH ms os s0 st:=by
 obtain ⟨h1,h2,h3,_⟩:=h
 have e1:st.sl=(kH ms os s0 st).sl:=by
  funext x
  show st.sl x=bif ms.contains x then st.sl x else s0.sl x
  cases hx:ms.contains x with
  | true=>rfl
  | false=>exact h1 x hx
 have e2:st.gen=(kH ms os s0 st).gen:=by
  funext x
  show st.gen x=bif os.contains x then st.gen x else s0.gen x
  cases hx:os.contains x with
  | true=>rfl
  | false=>exact (h2 x hx).1
 have e3:st.ob=(kH ms os s0 st).ob:=by
  funext x
  show st.ob x=if x < 1000000 then (bif os.contains x then st.ob x else s0.ob x) else st.ob x
  split
  ·rename_i hlt
   cases hx:os.contains x with
   | true=>rfl
   | false=>exact (h2 x hx).2 hlt
  ·rfl
 have e4:st.nc=(kH ms os s0 st).nc:=h3
 show (⟨st.sl,st.gen,st.ob,st.nc⟩:St)=⟨(kH ms os s0 st).sl,(kH ms os s0 st).gen,(kH ms os s0 st).ob,(kH ms os s0 st).nc⟩
 rw [←e1,←e2,←e3,←e4]
theorem Dl {ms os:List Nat} {s0 j:St} {x:Nat}:(kH ms os s0 j).sl x=bif ms.contains x then j.sl x else s0.sl x:=bP rfl
theorem yR {ms os:List Nat} {s0 j:St} {x:Nat}:(kH ms os s0 j).gen x=bif os.contains x then j.gen x else s0.gen x:=bP rfl
theorem Dk {ms os:List Nat} {s0 j:St} {x:Nat} (h:x < 1000000):(kH ms os s0 j).ob x=bif os.contains x then j.ob x else s0.ob x:=by
 show (if x < 1000000 then _ else _)=_
 rw [if_pos h]
theorem Na {ms os:List Nat} {s0 j:St}:(kH ms os s0 j).nc=s0.nc:=bP rfl
theorem M9 {ms os:List Nat} {s0 j:St} (h:j.nc=s0.nc):(kH ms os s0 j).hb=j.hb:=by
 funext b
 show fZ (if HBS+s0.nc b < 1000000 then _ else j.ob (HBS+s0.nc b)) b=fZ (j.ob (HBS+j.nc b)) b
 rw [if_neg (by unfold HBS;omega),h]
theorem iP {ms os:List Nat} {s0 j:St} (h:aF j):aF (kH ms os s0 j):=fun c=>by
 show Dc (if HBS+c < 1000000 then _ else j.ob (HBS+c))=true
 rw [if_neg (by unfold HBS;omega)];exact h c
def qW (os:List Nat):Cg→Bool
 | .ab o _=>os.contains o && decide (o < 1000000)
 | .no=>true
 | .new o _=>os.contains o && decide (o < 1000000)
 | .wr o _ _=>os.contains o && decide (o < 1000000)
 | .row o _=>os.contains o && decide (o < 1000000)
 | .hw o _=>decide (1000000≤o)
 | .hall _=>true
theorem eB.ap {ms os:List Nat} {s0 s:St} {d:Option Nat} {v:Av} {ch:Cg} (h:eB ms os s0 s) (hd:∀ x,d=some x→ms.contains x=true) (hc:qW os ch=true):eB ms os s0 (s.ap d v ch):=by
 obtain ⟨h1,h2,h3,h4⟩:=h;have hlow:RS ch=true:=by cases ch <;> simp only [qW,Bool.and_eq_true] at hc <;> first | rfl | exact hc.2
 have h4':=h4.ap (d:=d) (v:=v) hlow;rw [uw] at h4' ⊢;refine ⟨fun x hx=>?_,fun o ho=>?_,h3,h4'⟩
 ·cases d with
  | none=>exact h1 x hx
  | some y =>
    show up s.sl y v x=_
    rw [aA,if_neg]
    ·exact h1 x hx
    ·rintro rfl;rw [hd x rfl] at hx;cases hx
 ·have key:∀ y:Nat,os.contains y=true→o≠y:=by
   rintro y hy rfl;rw [hy] at ho;cases ho
  show ch.gF s.gen o=_∧(o < 1000000→ch.oF s.nc s.ob o=_)
  obtain ⟨g1,g2⟩:=h2 o ho
  cases ch with
  | no=>exact ⟨g1,g2⟩
  | new y x=>simp only [qW,Bool.and_eq_true] at hc;simp only [Cg.gF,Cg.oF,Go.Proofs.Ytffcpijeebagfaa.md,aA,if_neg (key y hc.1)];exact ⟨g1,g2⟩
  | wr y off cs=>simp only [qW,Bool.and_eq_true] at hc;simp only [Cg.gF,Cg.oF,Go.Proofs.Ytffcpijeebagfaa.md,aA,if_neg (key y hc.1)];exact ⟨g1,g2⟩
  | row y m=>simp only [qW,Bool.and_eq_true] at hc;simp only [Cg.gF,Cg.oF,Go.Proofs.Ytffcpijeebagfaa.md,aA,if_neg (key y hc.1)];exact ⟨g1,g2⟩
  | ab y H=>simp only [qW,Bool.and_eq_true] at hc;simp only [Cg.gF,Cg.oF,Go.Proofs.Ytffcpijeebagfaa.md,aA,if_neg (key y hc.1)];exact ⟨g1,g2⟩
  | hw y l =>
    have hy:=of_decide_eq_true hc;refine ⟨g1,fun hlt=>?_⟩;simp only [Cg.oF,Go.Proofs.Ytffcpijeebagfaa.md,aA,if_neg (show o≠y by omega)];exact g2 hlt
  | hall hp =>
    refine ⟨g1,fun hlt=>?_⟩;simp only [Cg.oF];rw [if_neg (by unfold HBS;omega)];exact g2 hlt
theorem bA {ms os:List Nat} {s0 s:St} {x:Nat} {v:Av} {ch:Cg} (h:eB ms os s0 s) (hd:ms.contains x=true) (hc:qW os ch=true):eB ms os s0 (s.ap (some x) v ch):=h.ap (fun y hy=>by cases hy;exact hd) hc
theorem aZ {ms os:List Nat} {s0 s:St} {v:Av} {ch:Cg} (h:eB ms os s0 s) (hc:qW os ch=true):eB ms os s0 (s.ap none v ch):=h.ap (fun y hy=>by cases hy) hc
theorem bB {os:List Nat} {c:Nat} {l:List (Nat×Hb)}:qW os (.hw (HBS+c) l)=true:=by unfold qW;exact decide_eq_true (by unfold HBS;omega)
theorem bJ {ms os:List Nat} {s0 j:St} (h:aF j):eB ms os s0 (kH ms os s0 j) :=
 ⟨fun x hx=>by rw [Dl,hx];rfl,fun o ho=>⟨by rw [yR,ho];rfl,fun hlt=>by rw [Dk hlt,ho];rfl⟩,rfl,iP h⟩
theorem eB.in' {ms os ms' os':List Nat} {s0 b st:St} (h:eB ms os s0 b) (k:eB ms' os' b st) (hm:ms'.all (fun x=>ms.contains x)=true) (ho:os'.all (fun x=>os.contains x)=true):eB ms os s0 st:=by
 have sub:∀ {l l':List Nat},l'.all (fun x=>l.contains x)=true→∀ x,l.contains x=false→l'.contains x=false:=fun {l l'} hl x hx=>by
  cases h2:l'.contains x with
  | false=>rfl
  | true =>
    have:=List.all_eq_true.1 hl x (by simpa using h2);rw [hx] at this;cases this
 refine ⟨fun x hx=>(k.1 x (sub hm x hx)).trans (h.1 x hx),fun o ho2=>?_,k.2.2.1.trans h.2.2.1,k.2.2.2⟩;obtain ⟨k1,k2⟩:=k.2.1 o (sub ho o ho2);obtain ⟨h1,h2⟩:=h.2.1 o ho2;exact ⟨k1.trans h1,fun hlt=>(k2 hlt).trans (h2 hlt)⟩
theorem iD {env:Env} {k:List It} {Q:Exit→St→Prop} {s:St} {c:PC} (ms os:List Nat) (J:Nat→St→Prop) (m0:Nat) (hs:aF s) (h0:J m0 s)
 (h:∀ m j,j.nc=s.nc→aF j→J m (kH ms os s j)→pwp env c (exS env (.lp (fun m st=>eB ms os s st∧J m st) m :: k) Q) (kH ms os s j)):pwp env (.loop c) (exS env k Q) s :=
 Dp (fun m st=>eB ms os s st∧J m st) m0 ⟨eB.refl _ _ hs,h0⟩ (fun m st ⟨hW,hJ⟩=>by
  have:=hW.over;rw [this] at hJ ⊢;exact h m st hW.2.2.1 hW.2.2.2 hJ)
theorem pY {x:Int} (h1:-9223372036854775808≤x) (h2:x≤9223372036854775807):IntKind.i64.wrap x=x:=IntWalk.i64_in x ⟨h1,h2⟩
theorem wrN {k:Nat} (h:k≤1000000000):IntKind.i64.wrap ((k:Int)+1)=((k+1:Nat):Int):=by
 rw [pY (by omega) (by omega)];omega
end Go.Proofs.Ytffcpijeebagfaa
end
section
namespace Go.Proofs.Ytffcpijeebagfaa
open Go Go.RowKit
set_option maxRecDepth 100000
def unN:Option Value→Option (Av×Cg)
 | some (.bool b)=>some (gZ (.bool !b),.no)
 | _=>none
def unG:Option Value→Option (Av×Cg)
 | some (.int k n)=>some (gZ (.int k (k.wrap (0 - n))),.no)
 | _=>none
def unX:Option Value→Option (Av×Cg)
 | some (.int k n)=>some (gZ (.int k (k.wrap (BitVec.ofInt k.bits (if k.signed then -1 else k.max) ^^^ BitVec.ofInt k.bits n).toNat)),.no)
 | _=>none
theorem Td {s:St} {d:Nat} {x:PX}:PO.fn s d (.un .not x)=unN (s.val x):=by
 cases h:s.val x with
 | none=>simp only [PO.fn,h,unN]
 | some v=>cases v <;> simp only [PO.fn,h,unN]
theorem Tc {s:St} {d:Nat} {x:PX}:PO.fn s d (.un .neg x)=unG (s.val x):=by
 cases h:s.val x with
 | none=>simp only [PO.fn,h,unG]
 | some v=>cases v <;> simp only [PO.fn,h,unG]
theorem Tf {s:St} {d:Nat} {x:PX}:PO.fn s d (.un .xor x)=unX (s.val x):=by
 cases h:s.val x with
 | none=>simp only [PO.fn,h,unX]
 | some v=>cases v <;> simp only [PO.fn,h,unX]
theorem au {a b:Prop} (x:a) (y:b):a∧b:=⟨x,y⟩
def RY:=PLift.up (au @Ez<|
 au @Ew<|
 au @Ey<|
 au @Lu<|
 au @Lr<|
 au @Ls<|
 au @Nj<|
 au @QS<|
 au @Ni<|
 au @QU<|
 au @Nc<|
 au @JK<|
 au @Nh<|
 @QT)
theorem evP:type_of% RY.down:=RY.down
def RX:=PLift.up (au @qB<|
 au @vK<|
 au @St.gd.eq_1<|
 au @EU.eq_1<|
 au @EU.eq_2<|
 au @EU.eq_3<|
 au @EU.eq_4<|
 au @skp.eq_1<|
 au @Eh<|
 au @P9<|
 au @RZ<|
 au @IW<|
 au @EF<|
 au @S9<|
 au @ED<|
 au @BA<|
 au @EG<|
 au @BD<|
 au @Bz<|
 au @EC<|
 au @yQ<|
 au @M8<|
 au @jL<|
 au @zu<|
 au @jN<|
 au @IV<|
 au @Iy<|
 au @List.reverse_cons.{0}<|
 au @List.reverse_nil.{0}<|
 au @Bw<|
 au @lF<|
 au @Tm<|
 au @yP<|
 au @M6<|
 au @Ei<|
 au @lG<|
 au @DZ<|
 au @D5<|
 au @Io<|
 au @DY<|
 au @Bd<|
 au @Bf<|
 au @JG<|
 au @QH<|
 au @JC<|
 au @QF<|
 au @D6<|
 au @Js<|
 au @Bg<|
 au @EY<|
 au @Lx<|
 au @Ti<|
 au @QG<|
 au @M7<|
 au @JE<|
 au @JD<|
 au @JF<|
 au @QE<|
 au @JB<|
 au @JA<|
 au @Ba<|
 au @A8<|
 au @IX<|
 au @MC<|
 @Ji)
theorem evB:type_of% RX.down:=RX.down
def Sr:=PLift.up (au @PO.bf.eq_1<|
 au @PO.bf.eq_2<|
 au @PO.bf.eq_3<|
 au @PO.bf.eq_4<|
 au @PO.bf.eq_5<|
 au @PO.bf.eq_6<|
 au @PO.bf.eq_7<|
 au @PO.bf.eq_8<|
 au @PO.bf.eq_9<|
 au @PO.bf.eq_10<|
 au @PO.bf.eq_11<|
 au @PO.bf.eq_12<|
 au @PO.bf.eq_13<|
 au @PO.bf.eq_14<|
 au @PO.bf.eq_15<|
 au @PO.bf.eq_16<|
 au @PO.bf.eq_17<|
 au @PO.bf.eq_18<|
 au @PO.bf.eq_19<|
 au @PO.bf.eq_20<|
 au @PO.bf.eq_21<|
 au @PO.bf.eq_22<|
 au @PO.bf.eq_23<|
 au @PO.bf.eq_24<|
 au @PO.bf.eq_25<|
 au @PO.bf.eq_26<|
 au @PO.bf.eq_27<|
 au @PO.bf.eq_28<|
 au @PO.bf.eq_29<|
 au @PO.bf.eq_30<|
 au @PO.bf.eq_31<|
 au @PO.bf.eq_32<|
 au @PO.bf.eq_33<|
 au @PO.bf.eq_34<|
 au @PO.bf.eq_35<|
 au @PO.bf.eq_36<|
 au @PO.bf.eq_37<|
 au @PO.bf.eq_38<|
 au @PO.bf.eq_39<|
 au @PO.bf.eq_40<|
 au @PO.bf.eq_41<|
 au @PO.bf.eq_42<|
 au @PO.bf.eq_43<|
 au @PO.bf.eq_44<|
 au @PO.bf.eq_45<|
 au @PO.bf.eq_46<|
 au @PO.bf.eq_47<|
 au @PO.bf.eq_48<|
 au @PO.bf.eq_49<|
 au @PO.bf.eq_50<|
 au @PO.bf.eq_51<|
 au @PO.bf.eq_52<|
 au @PO.bf.eq_53<|
 au @Option.getD_some.{0}<|
 au @Option.getD_none.{0}<|
 au @UU<|
 au @SL<|
 au @SF<|
 au @PD<|
 au @Pz<|
 au @Py<|
 au @UR<|
 au @Oo<|
 au @Om<|
 au @SK<|
 au @Kr<|
 au @Nr<|
 au @GY<|
 au @qQ.eq_1<|
 au @qQ.eq_2<|
 au @qQ.eq_3<|
 au @MK<|
 au @Ql<|
 au @VK<|
 au @SV<|
 au @P8<|
 au @IU<|
 au @SX<|
 au @SS<|
 au @SY<|
 au @KW<|
 au @Il<|
 au @aA<|
 au @PO.fn.eq_1<|
 au @PO.fn.eq_2<|
 au @PO.fn.eq_3<|
 au @PO.fn.eq_4<|
 au @PO.fn.eq_5<|
 au @PO.fn.eq_6<|
 au @PO.fn.eq_7<|
 au @PO.fn.eq_8<|
 au @PO.fn.eq_9<|
 au @PO.fn.eq_10<|
 au @PO.fn.eq_11<|
 au @PO.fn.eq_12<|
 au @PO.fn.eq_13<|
 au @PO.fn.eq_14<|
 au @PO.fn.eq_15<|
 au @PO.fn.eq_16<|
 au @PO.fn.eq_17<|
 au @PO.fn.eq_18<|
 au @PO.fn.eq_23<|
 au @PO.fn.eq_24<|
 au @PO.fn.eq_25<|
 au @PO.fn.eq_26<|
 au @PO.fn.eq_27<|
 au @PO.fn.eq_28<|
 au @PO.fn.eq_29<|
 au @PO.fn.eq_30<|
 au @PO.fn.eq_31<|
 au @PO.fn.eq_32<|
 au @PO.fn.eq_33<|
 au @PO.fn.eq_34<|
 au @PO.fn.eq_35<|
 au @PO.fn.eq_36<|
 au @PO.fn.eq_37<|
 au @PO.fn.eq_38<|
 au @PO.fn.eq_39<|
 au @PO.fn.eq_40<|
 au @PO.fn.eq_41<|
 au @PO.fn.eq_42<|
 au @PO.fn.eq_43<|
 au @PO.fn.eq_44<|
 au @PO.fn.eq_45<|
 au @PO.fn.eq_46<|
 au @PO.fn.eq_47<|
 au @PO.fn.eq_48<|
 au @PO.fn.eq_49<|
 au @PO.fn.eq_50<|
 au @PO.fn.eq_51<|
 au @PO.fn.eq_52<|
 au @PO.fn.eq_53<|
 au @PO.fn.eq_54<|
 au @PO.fn.eq_55<|
 au @PO.fn.eq_56<|
 au @Td<|
 au @Tc<|
 au @Tf<|
 au @unN.eq_1<|
 au @unG.eq_1<|
 au @unX.eq_1<|
 au @PO.rd.eq_1<|
 au @PO.rd.eq_2<|
 au @PO.rd.eq_3<|
 au @PO.rd.eq_4<|
 au @PO.rd.eq_5<|
 au @PO.rd.eq_6<|
 au @PO.rd.eq_7<|
 au @PO.rd.eq_8<|
 au @PO.rd.eq_9<|
 au @PO.rd.eq_10<|
 au @PO.rd.eq_11<|
 au @PO.rd.eq_12<|
 au @PO.rd.eq_13<|
 au @PO.rd.eq_14<|
 au @PO.rd.eq_15<|
 au @PO.rd.eq_16<|
 au @PO.rd.eq_17<|
 au @PO.rd.eq_18<|
 au @PO.rd.eq_19<|
 au @PO.rd.eq_20<|
 au @PO.rd.eq_21<|
 au @PO.rd.eq_22<|
 au @PO.rd.eq_23<|
 au @PO.rd.eq_24<|
 au @PO.rd.eq_25<|
 au @PO.rd.eq_26<|
 au @PO.rd.eq_27<|
 au @PO.rd.eq_28<|
 au @PO.rd.eq_29<|
 au @PO.rd.eq_30<|
 au @PO.rd.eq_31<|
 au @Cg.wrs.eq_1<|
 au @Cg.wrs.eq_2<|
 au @Cg.wrs.eq_3<|
 au @Cg.wrs.eq_4<|
 au @Cg.wrs.eq_5<|
 au @Cg.wrs.eq_6<|
 au @Cg.wrs.eq_7<|
 au @St.cl.eq_1<|
 au @St.val.eq_1<|
 au @St.int.eq_1<|
 au @St.boo.eq_1<|
 au @St.cs.eq_1<|
 au @St.parts.eq_1<|
 au @St.parts.eq_2<|
 au @gZ.eq_1<|
 au @Cl.rows.eq_1<|
 au @Cl.rows.eq_2<|
 au @Cl.rows.eq_3<|
 au @Cl.rows.eq_4<|
 au @Cl.rows.eq_5<|
 au @Cl.dt.eq_1<|
 au @Cl.dt.eq_2<|
 au @Cl.dt.eq_3<|
 au @Cl.dt.eq_4<|
 au @Cl.dt.eq_5<|
 au @Bv.pa.eq_1<|
 au @Bv.pa.eq_2<|
 au @Av.pa.eq_1<|
 au @Av.pa.eq_2<|
 au @Pa.bv.eq_1<|
 au @Pa.bv.eq_2<|
 au @lX.eq_1<|
 au @lX.eq_2<|
 au @lX.eq_3<|
 au @aD.eq_1<|
 au @aD.eq_2<|
 au @aD.eq_3<|
 au @ou.eq_1<|
 au @ou.eq_2<|
 au @iQ.eq_1<|
 au @iQ.eq_2<|
 au @iQ.eq_3<|
 au @iQ.eq_4<|
 au @splice.eq_1<|
 au @jG.eq_1<|
 au @jG.eq_2<|
 au @chunks.eq_1<|
 au @chunks.eq_2<|
 au @iJ.eq_1<|
 au @iJ.eq_2<|
 au @iJ.eq_3<|
 au @iJ.eq_4<|
 au @iJ.eq_5<|
 au @iJ.eq_6<|
 au @iJ.eq_7<|
 au @iJ.eq_8<|
 au @iJ.eq_9<|
 au @iJ.eq_10<|
 au @iJ.eq_11<|
 au @iJ.eq_12<|
 au @iJ.eq_13<|
 au @iJ.eq_14<|
 au @iJ.eq_15<|
 au @iJ.eq_16<|
 au @iJ.eq_17<|
 au @iJ.eq_18<|
 au @iJ.eq_19<|
 au @iJ.eq_20<|
 au @iJ.eq_21<|
 au @iJ.eq_22<|
 au @KN.eq_1<|
 au @KN.eq_2<|
 au @KN.eq_3<|
 au @lW.eq_1<|
 au @lW.eq_2<|
 au @lW.eq_3<|
 au @Fz.eq_1<|
 au @Fz.eq_2<|
 au @Option.map_some.{0,0}<|
 au @Option.map_none.{0,0}<|
 au @Option.bind_some.{0,0}<|
 au @List.map_cons.{0,0}<|
 au @List.map_nil.{0,0}<|
 au @List.length_cons.{0}<|
 au @List.length_nil.{0}<|
 au @List.getElem?_cons_succ.{0}<|
 au @List.getElem?_cons_zero.{0}<|
 au @List.take_succ_cons.{0}<|
 au @List.take_zero.{0}<|
 au @List.drop_succ_cons.{0}<|
 au @List.drop_zero.{0}<|
 au @List.cons_append.{0}<|
 au @List.nil_append.{0}<|
 au @List.append_nil.{0}<|
 au @if_true.{1}<|
 au @if_false.{1}<|
 au @ite_true.{1}<|
 au @ite_false.{1}<|
 au @ne_eq.{1}<|
 au @not_true<|
 au @not_false_eq_true<|
 au @Nat.add_zero<|
 au @Nat.zero_add<|
 au @and_true<|
 au @true_and<|
 au @and_self<|
 au @forall_const.{1}<|
 au @forall_const.{0}<|
 au @Bool.not_true<|
 au @Bool.not_false<|
 au @Nat.succ_eq_add_one<|
 au @imp_false<|
 au @false_imp_iff<|
 au @forall_false<|
 au @true_imp_iff<|
 au @Bool.and_true<|
 au @Bool.and_false<|
 au @Bool.true_and<|
 au @Bool.false_and<|
 au @implies_true.{1}<|
 au @implies_true.{0}<|
 au @Ht<|
 au @Dn<|
 au @Hr<|
 au @List.contains_cons.{0}<|
 au @List.contains_nil.{0}<|
 au @Bool.or_false<|
 au @Bool.or_true<|
 au @Bool.false_or<|
 au @Bool.true_or<|
 au @cond_true.{1}<|
 au @cond_false.{1}<|
 au @Bool.cond_true.{0}<|
 au @Bool.cond_false.{0}<|
 au @Int.toNat_natCast<|
 au @Int.natCast_nonneg<|
 au @List.getElem?_map.{0,0}<|
 au @List.length_map.{0,0}<|
 au @List.mem_cons.{0}<|
 au @List.not_mem_nil.{0}<|
 au @forall_eq.{1}<|
 au @forall_eq_or_imp.{1}<|
 au @false_or<|
 au @or_true<|
 au @true_or<|
 au @or_false<|
 au @St.res.eq_1<|
 au @St.res1.eq_1<|
 au @St.res1.eq_2<|
 au @decide_eq_true_eq<|
 au @decide_eq_false_iff_not<|
 au @Cl.lS.eq_1<|
 au @Cl.lS.eq_2<|
 au @Cl.lS.eq_3<|
 au @Cl.lS.eq_4<|
 au @Cl.lS.eq_5<|
 au @Cl.lS.eq_6<|
 au @Cl.lS.eq_7<|
 au @Cl.lS.eq_8<|
 au @Cl.lS.eq_9<|
 au @Bv.lS.eq_1<|
 au @Bv.lS.eq_2<|
 au @Av.lS.eq_1<|
 au @Av.lS.eq_2<|
 au @Av.lS.eq_3<|
 au @Nl<|
 au @JQ<|
 au @Pj<|
 au @Nb<|
 au @JJ<|
 au @D7<|
 au @Cl.gY.eq_1<|
 au @Cl.gY.eq_2<|
 au @Cl.gY.eq_3<|
 au @Cl.gY.eq_4<|
 au @Cl.gY.eq_5<|
 au @Cl.gY.eq_6<|
 au @Cl.gY.eq_7<|
 au @Cl.gY.eq_8<|
 au @Cl.gY.eq_9<|
 au @Bv.gY.eq_1<|
 au @Bv.gY.eq_2<|
 au @Av.gY.eq_1<|
 au @Av.gY.eq_2<|
 au @Av.gY.eq_3<|
 au @Jp<|
 au @Jq<|
 au @Jl<|
 au @Jm<|
 au @Jo<|
 au @QC.eq_1<|
 au @QC.eq_2<|
 au @List.all_cons.{0}<|
 au @List.all_nil.{0}<|
 au @Pv<|
 au @SH<|
 au @AR.eq_1<|
 au @AR.eq_2<|
 au @List.tail_cons.{0}<|
 au @kD.eq_1<|
 au @kD.eq_2<|
 au @kD.eq_3<|
 au @UQ<|
 au @Px<|
 au @Pq<|
 au @SI<|
 au @SG<|
 au @UZ<|
 au @hb_new<|
 au @U0<|
 au @Tz<|
 au @UY<|
 au @Tt<|
 au @Tv<|
 au @Tq<|
 au @MJ<|
 au @pJ.eq_1<|
 au @pJ.eq_2<|
 au @pJ.eq_3<|
 au @Jk<|
 au @MI<|
 au @MH<|
 au @wZ<|
 au @Dl<|
 au @yR<|
 au @Dk<|
 au @Na<|
 au @M9<|
 au @St.key.eq_1<|
 au @scs.eq_1<|
 au @scs.eq_2<|
 au @scs.eq_3<|
 au @TA<|
 au @Qi<|
 au @MF<|
 au @Bv.hw.eq_1<|
 au @Bv.hw.eq_2<|
 au @Av.hw.eq_1<|
 au @Av.hw.eq_2<|
 au @Cl.hc.eq_1<|
 au @Cl.hc.eq_2<|
 au @Cl.hc.eq_3<|
 au @Cl.hc.eq_4<|
 au @Cl.hc.eq_5<|
 au @Hc.cl.eq_1<|
 au @Hc.cl.eq_2<|
 au @Hw.bv.eq_1<|
 au @Hw.bv.eq_2<|
 au @hcs.eq_1<|
 au @rU.eq_1<|
 au @rU.eq_2<|
 au @Af.eq_1<|
 au @Af.eq_2<|
 au @Af.eq_3<|
 au @St.hps.eq_1<|
 au @St.hps.eq_2<|
 au @rdH.eq_1<|
 au @eU.eq_1<|
 au @eU.eq_2<|
 au @eU.eq_3<|
 au @eU.eq_4<|
 au @bvB.eq_1<|
 au @St.iw.eq_1<|
 au @St.AU.eq_1<|
 @St.AU.eq_2)
theorem stB:type_of% Sr.down:=Sr.down
end Go.Proofs.Ytffcpijeebagfaa
end
section
namespace Go.Proofs.Ytffcpijeebagfaa
open Go.RowKit
structure Ev where
 g:Int
 kind:Int
 obj:Int
 off:Int
 k:Int
 n:Int
 fn:Int
 pc:Int
 stack:Int
deriving DecidableEq,Inhabited
def I64 (x:Int):Prop:=-9223372036854775808≤x∧x≤9223372036854775807
def Ev.wf (e:Ev):Prop:=I64 e.g∧I64 e.kind∧I64 e.obj∧I64 e.off∧I64 e.k∧I64 e.n∧I64 e.fn∧I64 e.pc∧I64 e.stack
def Ev.cells (e:Ev):List Value:=[.int .i64 e.g,.int .i64 e.kind,.int .i64 e.obj,.int .i64 e.off,.int .i64 e.k,.int .i64 e.n,.int .i64 e.fn,.int .i64 e.pc,.int .i64 e.stack]
def Ev.val (e:Ev):Value:=.agg #[.int .i64 e.g,.int .i64 e.kind,.int .i64 e.obj,.int .i64 e.off,.int .i64 e.k,.int .i64 e.n,.int .i64 e.fn,.int .i64 e.pc,.int .i64 e.stack]
def oL (k:Int):Bool:=decide (15≤k∧k≤18)
def jH (k:Int):Bool:=decide (1≤k∧k≤20)
def dL (k:Int):Bool:=decide (15≤k∧k≤20)
def jD (k:Int):Bool:=decide (k=1∨k=2)
def fH (x:Int):Bool:=decide (0≤x∧x≤2147483647)
def Ev.rest (e:Ev):Bool :=
 if e.kind=14 then decide (e.obj=0∧e.off=0∧e.n=0∧1≤e.k∧e.k < 8)
 else if 15≤e.kind∧e.kind≤18 then decide (e.off=0∧e.n≤64)
 else if 19≤e.kind then decide (e.off=0∧e.n≤64∧e.k=0)
 else decide (e.k=0∧e.n=0)
def Ev.valid (e:Ev):Bool:=jH e.kind && decide (0≤e.g∧e.g < 8) &&
 (fH e.obj && fH e.off && fH e.k && fH e.n && fH e.fn && fH e.pc && fH e.stack) && e.rest
structure Ch where
 cap:Int
 sent:Int
 recv:Int
 closed:Bool
deriving DecidableEq,Inhabited
def ch0:Ch:=⟨0,0,0,false⟩
structure Mu where
 locked:Bool
 readers:Int
deriving DecidableEq,Inhabited
def mu0:Mu:=⟨false,0⟩
structure Grp where
 kinds:List Int
 obj:Int
 k:Int
 n:Int
 snd:Int
 rcv:Int
def R4:Grp:=⟨[],0,0,0,0,0⟩
structure TS where
 events:Int
 gor:Int
 chans:Int→Option Ch
 mus:Int×Int→Option Mu
 done:Int×Int→Option Bool
 grp:Grp
def TS.new:TS:=⟨0,1,fun _=>none,fun _=>none,fun _=>none,R4⟩
def upd {κ:Type} [DecidableEq κ] {α:Type} (f:κ→Option α) (x:κ) (v:α):κ→Option α:=fun y=>if y=x then some v else f y
theorem upd_same {κ:Type} [DecidableEq κ] {α:Type} (f:κ→Option α) (x:κ) (v:α):upd f x v x=some v:=if_pos rfl
theorem fJ {κ:Type} [DecidableEq κ] {α:Type} (f:κ→Option α) {x y:κ} (v:α) (h:y≠x):upd f x v y=f y:=if_neg h
theorem Ru {κ:Type} [DecidableEq κ] {α:Type} (f:κ→Option α) (x:κ) (v u:α):upd (upd f x v) x u=upd f x u:=by
 funext y;unfold upd;split <;> rfl
def Ch.count (c:Ch) (kind:Int):Ch:=if kind=15 then { c with sent:=c.sent+1 } else if kind=17 then { c with recv:=c.recv+1 } else c
def TS.count (s:TS) (e:Ev):TS:={ s with chans:=upd s.chans e.obj (((s.chans e.obj).getD ch0).count e.kind) }
def jk (k:Int):Bool:=decide (k=15∨k=16)
def Grp.own (o:Grp) (kind:Int):Int:=if jk kind=true then o.snd else o.rcv
def Grp.other (o:Grp) (kind:Int):Int:=if jk kind=true then o.rcv else o.snd
def Grp.next (o:Grp) (e:Ev):Grp :=
 if jk e.kind=true then { o with kinds:=o.kinds.tail,snd:=e.g } else { o with kinds:=o.kinds.tail,rcv:=e.g }
def Grp.fits (o:Grp) (e:Ev):Bool :=
 decide (e.kind=o.kinds.headD 0∧e.obj=o.obj∧e.k=o.k∧e.n=o.n) && !(decide (o.own e.kind < 0∧e.g=o.other e.kind) || decide (0≤o.own e.kind∧e.g≠o.own e.kind))
def TS.proceed (s:TS) (e:Ev):Option TS :=
 if s.grp.fits e=true then some { s.count e with grp:=s.grp.next e } else none
def TS.chan (s:TS) (e:Ev):Ch:=match s.chans e.obj with
 | some c=>c
 | none=>{ ch0 with cap:=e.n }
def TS.start (s:TS) (e:Ev) (c:Ch) (kinds:List Int) (snd rcv:Int):TS :=
 { s with chans:=upd s.chans e.obj (c.count e.kind),grp:=⟨kinds,e.obj,e.k,e.n,snd,rcv⟩ }
def Ch.missing (c:Ch) (kind:Int) (alone:Bool):Option (List Int) :=
 if kind=15 then (if c.sent - c.recv < c.cap then some [16] else if c.cap=0∧alone=false then some [17,18,16] else none)
 else (if c.recv < c.sent then some [18] else if c.closed=false∧alone=false then some [15,18,16] else none)
def TS.operate (s:TS) (e:Ev):Option TS :=
 let c:=s.chan e
 if c.cap≠e.n then none
 else if e.kind=19 then (if c.closed=true then none else some { s with chans:=upd s.chans e.obj { c with closed:=true } })
 else if e.kind=20 then (if c.closed=true∧c.sent=c.recv then some s else none)
 else if e.kind=15 then (if c.closed=true∨e.k≠c.sent then none else (c.missing 15 (decide (s.gor=1))).map fun l=>s.start e c l e.g (-1))
 else if e.kind=17 then (if e.k≠c.recv then none else (c.missing 17 (decide (s.gor=1))).map fun l=>s.start e c l (-1) e.g)
 else none
def TS.mu (s:TS) (e:Ev):Mu:=(s.mus (e.obj,e.off)).getD mu0
def TS.simple (s:TS) (e:Ev):Option TS :=
 let m:=s.mu e
 let put (m:Mu):Option TS:=some { s with mus:=upd s.mus (e.obj,e.off) m }
 if e.kind=6 then (if m.locked=true∨0 < m.readers then none else put { m with locked:=true })
 else if e.kind=7 then (if m.locked=false then none else put { m with locked:=false })
 else if e.kind=8 then (if m.locked=true then none else put { m with readers:=m.readers+1 })
 else if e.kind=9 then (if m.readers=0 then none else put { m with readers:=m.readers - 1 })
 else if e.kind=12 then (if (s.done (e.obj,e.off)).getD false=true then none else some { s with done:=upd s.done (e.obj,e.off) true })
 else if e.kind=13 then (if (s.done (e.obj,e.off)).getD false=true then some s else none)
 else if e.kind=14 then (if e.k≠s.gor then none else some { s with gor:=s.gor+1 })
 else some s
def TS.isOpen (s:TS):Bool:=decide (0 < s.grp.kinds.length)
def TS.part (s:TS) (e:Ev):Option TS :=
 if s.isOpen=true then s.proceed e else if dL e.kind=true then s.operate e else s.simple e
def TS.admits (s:TS) (e:Ev):Bool:=e.valid && decide (s.events < 5000) && decide (e.g < s.gor)
def TS.add (s:TS) (e:Ev):Option TS :=
 if s.admits e=true then (s.part e).map fun t=>{ t with events:=t.events+1 } else none
structure TS.wf (s:TS):Prop where
 ev:0≤s.events∧s.events≤5000
 gr:1≤s.gor∧s.gor≤8
 ch:∀ x c,s.chans x=some c→(0≤c.sent∧c.sent≤s.events)∧(0≤c.recv∧c.recv≤s.events)∧(0≤c.cap∧c.cap≤64)
 mu:∀ x m,s.mus x=some m→0≤m.readers∧m.readers≤s.events
 kd:s.grp.kinds.length≤3
theorem TS.OU:TS.new.wf:=⟨by decide,by decide,(fun _ _ h=>by cases h),(fun _ _ h=>by cases h),by decide⟩
theorem Ev.nH {e:Ev} (h:e.valid=true):0≤e.n∧e.n≤2147483647:=by
 simp only [Ev.valid,fH,Bool.and_eq_true,decide_eq_true_eq] at h;omega
theorem Ev.sG {e:Ev} (h:e.valid=true):0≤e.k∧e.k≤2147483647:=by
 simp only [Ev.valid,fH,Bool.and_eq_true,decide_eq_true_eq] at h;omega
theorem Ev.oP {e:Ev} (h:e.valid=true):0≤e.obj∧e.obj≤2147483647:=by
 simp only [Ev.valid,fH,Bool.and_eq_true,decide_eq_true_eq] at h;omega
theorem Ev.zi {e:Ev} (h:e.valid=true):0≤e.off∧e.off≤2147483647:=by
 simp only [Ev.valid,fH,Bool.and_eq_true,decide_eq_true_eq] at h;omega
theorem Ev.wL {e:Ev} (h:e.valid=true):0≤e.g∧e.g < 8:=by
 simp only [Ev.valid,fH,Bool.and_eq_true,decide_eq_true_eq] at h;omega
theorem Ev.FK {e:Ev} (h:e.valid=true):1≤e.kind∧e.kind≤20:=by
 simp only [Ev.valid,jH,Bool.and_eq_true,decide_eq_true_eq] at h;omega
theorem Ev.J8 {e:Ev} (h:e.valid=true) (hk:dL e.kind=true):e.n≤64:=by
 simp only [Ev.valid,Ev.rest,Bool.and_eq_true] at h;simp only [dL,decide_eq_true_eq] at hk;have h2:=h.2;rw [if_neg (by omega)] at h2;split at h2
 ·simp at h2;omega
 ·rw [if_pos (by omega)] at h2;simp at h2;omega
theorem Ev.rV {e:Ev} (h:e.valid=true) (hk:e.kind=14):1≤e.k∧e.k < 8:=by
 simp only [Ev.valid,Ev.rest,Bool.and_eq_true] at h;have h2:=h.2;rw [if_pos hk] at h2;simp at h2;omega
theorem Ch.wS {c:Ch} {B kind:Int} (h:(0≤c.sent∧c.sent≤B)∧(0≤c.recv∧c.recv≤B)∧(0≤c.cap∧c.cap≤64)) :
 (0≤(c.count kind).sent∧(c.count kind).sent≤B+1)∧(0≤(c.count kind).recv∧(c.count kind).recv≤B+1)∧(0≤(c.count kind).cap∧(c.count kind).cap≤64):=by
 unfold Ch.count;split
 ·dsimp only;omega
 ·split
  ·dsimp only;omega
  ·omega
theorem TS.Gw {s:TS} (h:s.wf) {e:Ev} (hv:e.valid=true) (hk:dL e.kind=true) :
 (0≤(s.chan e).sent∧(s.chan e).sent≤s.events)∧(0≤(s.chan e).recv∧(s.chan e).recv≤s.events)∧(0≤(s.chan e).cap∧(s.chan e).cap≤64):=by
 unfold TS.chan;have h1:=h.ev;have h2:=Ev.J8 hv hk;have h3:=Ev.nH hv
 cases hc:s.chans e.obj with
 | none=>dsimp [ch0];omega
 | some c=>exact h.ch _ _ hc
theorem TS.Sj {s:TS} (h:s.wf) (e:Ev):0≤(s.mu e).readers∧(s.mu e).readers≤s.events:=by
 unfold TS.mu;have h1:=h.ev
 cases hc:s.mus (e.obj,e.off) with
 | none=>dsimp [mu0];omega
 | some m=>exact h.mu _ _ hc
theorem lU {κ:Type} [DecidableEq κ] {α:Type} {f:κ→Option α} {x:κ} {v:α} {p:α→Prop} (hf:∀ y c,f y=some c→p c) (hv:p v):∀ y c,upd f x v y=some c→p c:=by
 intro y c h;unfold upd at h;split at h
 ·cases h;exact hv
 ·exact hf y c h
theorem TS.Hu {s t:TS} (h:s.wf) {e:Ev} (hv:e.valid=true) (hp:s.part e=some t) :
 t.events=s.events∧(1≤t.gor∧t.gor≤8)∧(∀ x c,t.chans x=some c→(0≤c.sent∧c.sent≤s.events+1)∧(0≤c.recv∧c.recv≤s.events+1)∧(0≤c.cap∧c.cap≤64)) ∧
  (∀ x m,t.mus x=some m→0≤m.readers∧m.readers≤s.events+1)∧t.grp.kinds.length≤3:=by
 have hch:∀ x c,s.chans x=some c→(0≤c.sent∧c.sent≤s.events+1)∧(0≤c.recv∧c.recv≤s.events+1)∧(0≤c.cap∧c.cap≤64):=fun x c hc=>by
  have:=h.ch x c hc;omega
 have hmu:∀ x m,s.mus x=some m→0≤m.readers∧m.readers≤s.events+1:=fun x m hm=>by
  have:=h.mu x m hm;omega
 have hgr:=h.gr;have hkd:=h.kd;have hev:=h.ev;unfold TS.part at hp;split at hp
 ·-- proceed
  unfold TS.proceed at hp;split at hp
  ·cases hp;refine ⟨rfl,hgr,?_,hmu,?_⟩
   ·refine lU hch (Ch.wS ?_)
    cases hc:s.chans e.obj with
    | none=>dsimp [ch0];omega
    | some c=>exact h.ch _ _ hc
   ·unfold Grp.next;split <;> (simp;omega)
  ·cases hp
 ·split at hp
  ·-- operate
   rename_i hk;have hb:=TS.Gw h hv hk;unfold TS.operate at hp;dsimp only at hp;split at hp
   ·cases hp
   split at hp
   ·split at hp
    ·cases hp
    ·cases hp;exact ⟨rfl,hgr,lU hch (by dsimp only;omega),hmu,hkd⟩
   split at hp
   ·split at hp
    ·cases hp;exact ⟨rfl,hgr,hch,hmu,hkd⟩
    ·cases hp
   split at hp
   ·split at hp
    ·cases hp
    ·simp only [Option.map_eq_some_iff] at hp;obtain ⟨l,hl,rfl⟩:=hp;refine ⟨rfl,hgr,lU hch (Ch.wS hb),hmu,?_⟩;unfold Ch.missing at hl;simp only [if_pos] at hl;split at hl
     ·cases hl;simp [TS.start]
     ·split at hl
      ·cases hl;simp [TS.start]
      ·cases hl
   split at hp
   ·split at hp
    ·cases hp
    ·simp only [Option.map_eq_some_iff] at hp;obtain ⟨l,hl,rfl⟩:=hp;refine ⟨rfl,hgr,lU hch (Ch.wS hb),hmu,?_⟩;unfold Ch.missing at hl;rw [if_neg (by decide)] at hl;split at hl
     ·cases hl;simp [TS.start]
     ·split at hl
      ·cases hl;simp [TS.start]
      ·cases hl
   ·cases hp
  ·-- simple
   have hm:=TS.Sj h e;unfold TS.simple at hp;dsimp only at hp;split at hp
   ·split at hp
    ·cases hp
    ·cases hp;exact ⟨rfl,hgr,hch,lU hmu (by dsimp only;omega),hkd⟩
   split at hp
   ·split at hp
    ·cases hp
    ·cases hp;exact ⟨rfl,hgr,hch,lU hmu (by dsimp only;omega),hkd⟩
   split at hp
   ·split at hp
    ·cases hp
    ·cases hp;exact ⟨rfl,hgr,hch,lU hmu (by dsimp only;omega),hkd⟩
   split at hp
   ·split at hp
    ·cases hp
    ·cases hp;exact ⟨rfl,hgr,hch,lU hmu (by dsimp only;omega),hkd⟩
   split at hp
   ·split at hp
    ·cases hp
    ·cases hp;exact ⟨rfl,hgr,hch,hmu,hkd⟩
   split at hp
   ·split at hp
    ·cases hp;exact ⟨rfl,hgr,hch,hmu,hkd⟩
    ·cases hp
   split at hp
   ·rename_i hgo;have:=Ev.rV hv hgo;split at hp
    ·cases hp
    ·cases hp;exact ⟨rfl,by dsimp only;omega,hch,hmu,hkd⟩
   ·cases hp;exact ⟨rfl,hgr,hch,hmu,hkd⟩
theorem TS.add_wf {s t:TS} (h:s.wf) {e:Ev} (ha:s.add e=some t):t.wf:=by
 unfold TS.add at ha;split at ha
 ·rename_i had;simp only [TS.admits,Bool.and_eq_true,decide_eq_true_eq] at had;simp only [Option.map_eq_some_iff] at ha;obtain ⟨u,hu,rfl⟩:=ha;obtain ⟨h1,h2,h3,h4,h5⟩:=TS.Hu h had.1.1 hu;have hev:=h.ev;exact ⟨by dsimp only;omega,h2,fun x c hc=>by have:=h3 x c hc;dsimp only;omega,fun x m hm=>by have:=h4 x m hm;dsimp only;omega,h5⟩
 ·cases ha
section
variable {s:TS} {g kind obj off k en fn pc stack cap sent recv:Int} {closed:Bool}
 (hc:s.chan ⟨g,kind,obj,off,k,en,fn,pc,stack⟩=⟨cap,sent,recv,closed⟩)
include hc
theorem TS.kX:s.operate ⟨g,kind,obj,off,k,en,fn,pc,stack⟩ =
 if cap≠en then none
 else if kind=19 then (if closed=true then none else some { s with chans:=upd s.chans obj ⟨cap,sent,recv,true⟩ })
 else if kind=20 then (if closed=true∧sent=recv then some s else none)
 else if kind=15 then (if closed=true∨k≠sent then none else ((⟨cap,sent,recv,closed⟩:Ch).missing 15 (decide (s.gor=1))).map fun l=>s.start ⟨g,kind,obj,off,k,en,fn,pc,stack⟩ ⟨cap,sent,recv,closed⟩ l g (-1))
 else if kind=17 then (if k≠recv then none else ((⟨cap,sent,recv,closed⟩:Ch).missing 17 (decide (s.gor=1))).map fun l=>s.start ⟨g,kind,obj,off,k,en,fn,pc,stack⟩ ⟨cap,sent,recv,closed⟩ l (-1) g)
 else none:=by
 unfold TS.operate;rw [hc]
theorem TS.U6 (h1:(cap != en)=true):s.operate ⟨g,kind,obj,off,k,en,fn,pc,stack⟩=none:=by
 rw [TS.kX hc];simp_all
theorem TS.U7 (h1:(kind == 19)=true) (h2:closed=true):s.operate ⟨g,kind,obj,off,k,en,fn,pc,stack⟩=none:=by
 rw [TS.kX hc];simp_all
theorem TS.TY (h1:(kind == 20)=true) (h2:¬closed=true):s.operate ⟨g,kind,obj,off,k,en,fn,pc,stack⟩=none:=by
 rw [TS.kX hc];simp_all
theorem TS.U8 (h1:(kind == 15)=true) (h2:closed=true):s.operate ⟨g,kind,obj,off,k,en,fn,pc,stack⟩=none:=by
 rw [TS.kX hc];simp_all
theorem TS.U9 (h1:(kind == 15)=true) (h2:(k != sent)=true):s.operate ⟨g,kind,obj,off,k,en,fn,pc,stack⟩=none:=by
 rw [TS.kX hc];simp_all
theorem TS.Va (h1:(kind == 15)=true) (h2:cap≤sent - recv) (h3:(!s.gor == 1)=false):s.operate ⟨g,kind,obj,off,k,en,fn,pc,stack⟩=none:=by
 rw [TS.kX hc];simp_all [Ch.missing];intros;omega
theorem TS.Vb (h1:(kind == 15)=true) (h2:cap≤sent - recv) (h3:¬cap=0):s.operate ⟨g,kind,obj,off,k,en,fn,pc,stack⟩=none:=by
 rw [TS.kX hc];simp_all [Ch.missing];intros;omega
theorem TS.Vd (h1:(kind == 17)=true) (h2:(k != recv)=true):s.operate ⟨g,kind,obj,off,k,en,fn,pc,stack⟩=none:=by
 rw [TS.kX hc];simp_all
theorem TS.Ve (h1:(kind == 17)=true) (h2:sent≤recv) (h3:closed=true):s.operate ⟨g,kind,obj,off,k,en,fn,pc,stack⟩=none:=by
 have h4:¬ recv < sent:=by omega
 rw [TS.kX hc];simp_all [Ch.missing]
theorem TS.Vf (h1:(kind == 17)=true) (h2:sent≤recv) (h3:(!s.gor == 1)=false):s.operate ⟨g,kind,obj,off,k,en,fn,pc,stack⟩=none:=by
 have h4:¬ recv < sent:=by omega
 rw [TS.kX hc];simp_all [Ch.missing]
theorem TS.Vg (h1:(kind == 19)=false) (h2:(kind == 20)=false) (h3:(kind == 15)=false) (h4:(kind == 17)=false):s.operate ⟨g,kind,obj,off,k,en,fn,pc,stack⟩=none:=by
 rw [TS.kX hc];simp_all
theorem TS.T9 (h0:(cap != en)=false) (h1:(kind == 19)=true) (h2:closed=false):s.operate ⟨g,kind,obj,off,k,en,fn,pc,stack⟩=some { s with chans:=upd s.chans obj ⟨cap,sent,recv,true⟩ }:=by
 rw [TS.kX hc];simp_all
theorem TS.Ua (h0:(cap != en)=false) (h1:(kind == 20)=true) (h2:closed=true):s.operate ⟨g,kind,obj,off,k,en,fn,pc,stack⟩=if sent=recv then some s else none:=by
 rw [TS.kX hc];simp_all
theorem TS.QI (h0:(cap != en)=false) (h1:(kind == 15)=true) (h2:¬closed=true) (h3:(k != sent)=false) (h4:sent - recv < cap):s.operate ⟨g,kind,obj,off,k,en,fn,pc,stack⟩=some (s.start ⟨g,kind,obj,off,k,en,fn,pc,stack⟩ ⟨cap,sent,recv,closed⟩ [16] g (-1)):=by
 rw [TS.kX hc];simp_all [Ch.missing]
theorem TS.QJ (h0:(cap != en)=false) (h1:(kind == 15)=true) (h2:¬closed=true) (h3:(k != sent)=false) (h4:cap≤sent - recv) (h5:cap=0) (h6:(!s.gor == 1)=true):s.operate ⟨g,kind,obj,off,k,en,fn,pc,stack⟩=some (s.start ⟨g,kind,obj,off,k,en,fn,pc,stack⟩ ⟨cap,sent,recv,closed⟩ [17,18,16] g (-1)):=by
 have hm:(⟨cap,sent,recv,closed⟩:Ch).missing 15 (decide (s.gor=1))=some [17,18,16]:=by
  unfold Ch.missing;rw [if_pos rfl];dsimp only;rw [if_neg (by omega),if_pos ⟨h5,by simpa using h6⟩]
 rw [TS.kX hc,hm];simp_all
theorem TS.QK (h0:(cap != en)=false) (h1:(kind == 17)=true) (h3:(k != recv)=false) (h4:recv < sent):s.operate ⟨g,kind,obj,off,k,en,fn,pc,stack⟩=some (s.start ⟨g,kind,obj,off,k,en,fn,pc,stack⟩ ⟨cap,sent,recv,closed⟩ [18] (-1) g):=by
 rw [TS.kX hc];simp_all [Ch.missing]
theorem TS.QL (h0:(cap != en)=false) (h1:(kind == 17)=true) (h2:¬closed=true) (h3:(k != recv)=false) (h4:sent≤recv) (h6:(!s.gor == 1)=true):s.operate ⟨g,kind,obj,off,k,en,fn,pc,stack⟩=some (s.start ⟨g,kind,obj,off,k,en,fn,pc,stack⟩ ⟨cap,sent,recv,closed⟩ [15,18,16] (-1) g):=by
 have hm:(⟨cap,sent,recv,closed⟩:Ch).missing 17 (decide (s.gor=1))=some [15,18,16]:=by
  unfold Ch.missing;rw [if_neg (by decide)];dsimp only;rw [if_neg (by omega),if_pos ⟨by simpa using h2,by simpa using h6⟩]
 rw [TS.kX hc,hm];simp_all
end
end Go.Proofs.Ytffcpijeebagfaa
end
section
namespace Go.Proofs.Ytffcpijeebagfaa
def TS.steps (s:TS):List Ev→Option TS
 | []=>some s
 | e :: l=>(s.add e).bind fun t=>t.steps l
def TS.chk (s:TS):List Ev→Nat
 | []=>0
 | e :: l=>match s.add e with
   | some t=>t.chk l+1
   | none=>0
theorem TS.mP (s:TS) (l m:List Ev):s.steps (l ++ m)=(s.steps l).bind fun t=>t.steps m:=by
 induction l generalizing s with
 | nil=>rfl
 | cons e l ih =>
   simp only [List.cons_append,TS.steps]
   cases s.add e with
   | none=>rfl
   | some t=>simpa using ih t
theorem TS.wE (s:TS) (l:List Ev) (e:Ev):s.steps (l ++ [e])=(s.steps l).bind fun t=>t.add e:=by
 rw [TS.mP]
 congr 1
 funext t
 simp [TS.steps]
theorem TS.uE {s:TS} {l:List Ev} {k:Nat} (h:k < l.length):s.steps (l.take (k+1))=(s.steps (l.take k)).bind fun t=>t.add l[k]:=by
 rw [List.take_succ_eq_append_getElem h,TS.wE]
theorem TS.NJ {s t:TS} (h:s.wf) {l:List Ev} (hs:s.steps l=some t):t.wf:=by
 induction l generalizing s with
 | nil=>simp [TS.steps] at hs;subst hs;exact h
 | cons e l ih =>
   simp only [TS.steps,Option.bind_eq_some_iff] at hs;obtain ⟨u,hu,hs⟩:=hs;exact ih (TS.add_wf h hu) hs
theorem TS.Az {s:TS} {l:List Ev} {k:Nat} (hk:k≤l.length) {t:TS} (hs:s.steps (l.take k)=some t) (hn:∀ e,l[k]? = some e→t.add e=none):s.chk l=k:=by
 induction l generalizing s k with
 | nil=>simp at hk;subst hk;rfl
 | cons e l ih =>
   cases k with
   | zero =>
     simp [TS.steps] at hs;subst hs;have:=hn e rfl;simp [TS.chk,this]
   | succ k =>
     simp only [List.take_succ_cons,TS.steps,Option.bind_eq_some_iff] at hs;obtain ⟨u,hu,hs⟩:=hs;simp only [TS.chk,hu];rw [ih (by simpa using hk) hs (fun e' he'=>hn e' (by simpa using he'))]
theorem TS.yu (s:TS) (l:List Ev) {k:Nat} (hk:k≤s.chk l):∃ t,s.steps (l.take k)=some t:=by
 induction l generalizing s k with
 | nil=>simp [TS.chk] at hk;subst hk;exact ⟨s,rfl⟩
 | cons e l ih =>
   cases k with
   | zero=>exact ⟨s,rfl⟩
   | succ k =>
     simp only [TS.chk] at hk
     cases ha:s.add e with
     | none=>rw [ha] at hk;simp at hk
     | some u =>
       rw [ha] at hk;obtain ⟨t,ht⟩:=ih u (k:=k) (by simpa using hk);exact ⟨t,by simp [TS.steps,ha,ht]⟩
theorem TS.La (s:TS) (l:List Ev) (k:Nat):s.chk (l.take k)=min (s.chk l) k:=by
 induction l generalizing s k with
 | nil=>simp [TS.chk]
 | cons e l ih =>
   cases k with
   | zero=>simp [TS.chk]
   | succ k =>
     simp only [List.take_succ_cons,TS.chk]
     cases s.add e with
     | none=>simp
     | some t=>simp only [ih];omega
def TS.sH (s:TS) (l:List Ev):Nat→Nat
 | 0=>0
 | k+1=>match s.steps (l.take (k+1)) with
   | some t=>if t.isOpen=true then s.sH l k else k+1
   | none=>s.sH l k
def chk (l:List Ev):Nat:=TS.new.chk l
theorem Qb (l:List Ev) (i:Nat) (e:Ev) (h:l[i]? = some e) (j:Nat) (x:Value) (hx:e.cells[j]? = some x):(l.flatMap Ev.cells)[i * 9+j]? = some x:=by
 have hlen:∀ e:Ev,e.cells.length=9:=fun _=>rfl
 have hj:j < 9:=by rw [←hlen e];exact (List.getElem?_eq_some_iff.1 hx).1
 induction l generalizing i with
 | nil=>cases h
 | cons a l ih =>
   rw [List.flatMap_cons]
   cases i with
   | zero =>
     simp at h;subst h;rw [List.getElem?_append_left (by rw [hlen];omega)]
     simpa using hx
   | succ i =>
     rw [List.getElem?_append_right (by rw [hlen];omega),hlen,show (i+1) * 9+j - 9=i * 9+j by omega]
     exact ih i (by simpa using h)
end Go.Proofs.Ytffcpijeebagfaa
end
section
namespace Go.Proofs.Ytffcpijeebagfaa
open Go Go.RowKit
instance:dH:=⟨fun _=>True,fun _ _ _ _=>trivial⟩
abbrev dI (n:Int):Dt:=.sc (.int .i64 n)
abbrev dB (b:Bool):Dt:=.sc (.bool b)
abbrev aI (n:Int):Av:=.b (.one (.d (.sc (.int .i64 n))))
abbrev pI (n:Int):Pa:=.one (.sc (.int .i64 n))
abbrev pB (b:Bool):Pa:=.one (.sc (.bool b))
def Ev.row (e:Ev):List Dt:=[dI e.g,dI e.kind,dI e.obj,dI e.off,dI e.k,dI e.n,dI e.fn,dI e.pc,dI e.stack]
def Ev.pa (e:Ev):Pa:=.agg e.row
def l9 (l:List Ev):Dt:=.im (l.map Ev.row)
def jc (l:List Ev):Pa:=.one (l9 l)
structure RCh where
 obj:Int
 n:Int
 sent:Int
 recv:Int
 closed:Bool
def RCh.row (c:RCh):List Dt:=[dI c.obj,dI c.n,dI c.sent,dI c.recv,dB c.closed]
structure RLk where
 obj:Int
 off:Int
 locked:Bool
 readers:Int
def RLk.row (c:RLk):List Dt:=[dI c.obj,dI c.off,dB c.locked,dI c.readers]
def AQ (p:Int×Int):List Dt:=[dI p.1,dI p.2]
structure RWt where
 kind:Int
 g:Int
 not:Int
def RWt.row (c:RWt):List Dt:=[dI c.kind,dI c.g,dI c.not]
structure RSt where
 count:Int
 gor:Int
 chans:List RCh
 locks:List RLk
 done:List (Int×Int)
 next:List RWt
 obj:Int
 k:Int
 n:Int
def RSt.row (s:RSt):List Dt:=[dI s.count,dI s.gor,.im (s.chans.map RCh.row),.im (s.locks.map RLk.row),.im (s.done.map AQ),.im (s.next.map RWt.row),dI s.obj,dI s.k,dI s.n]
def RSt.pa (s:RSt):Pa:=.agg s.row
structure RSt.ok (s:RSt):Prop where
 ct:0≤s.count∧s.count≤1000000
 gr:0≤s.gor∧s.gor≤1000000
 ch:s.chans.length≤900000∧∀ c,c ∈ s.chans→(0≤c.sent∧c.sent≤1000000)∧(0≤c.recv∧c.recv≤1000000)
 lk:s.locks.length≤900000∧∀ c,c ∈ s.locks→0≤c.readers∧c.readers≤1000000
 dn:s.done.length≤900000
 nx:s.next.length≤900000
def RSt.new:RSt:=⟨0,1,[],[],[],[],0,0,0⟩
def RSt.channel (s:RSt) (obj n:Int):RCh:=(s.chans.find? (fun c=>c.obj == obj)).getD ⟨obj,n,0,0,false⟩
def RSt.bN (s:RSt) (c:RCh):RSt:={ s with chans:=s.chans.filter (fun d=>d.obj != c.obj) ++ [c] }
def RSt.lock (s:RSt) (obj off:Int):RLk:=(s.locks.find? (fun c=>c.obj == obj && c.off == off)).getD ⟨obj,off,false,0⟩
def RSt.dM (s:RSt) (c:RLk):RSt:={ s with locks:=s.locks.filter (fun d=>d.obj != c.obj || d.off != c.off) ++ [c] }
def RSt.isDone (s:RSt) (obj off:Int):Bool:=s.done.any (fun c=>c.1 == obj && c.2 == off)
def RCh.count (c:RCh) (kind:Int):RCh:=if kind=15 then { c with sent:=c.sent+1 } else if kind=17 then { c with recv:=c.recv+1 } else c
def RSt.counted (s:RSt) (e:Ev):RSt:=if e.kind=15∨e.kind=17 then s.bN ((s.channel e.obj e.n).count e.kind) else s
def RSt.begin (s:RSt) (e:Ev) (next:List RWt):RSt:=RSt.counted { s with next:=next,obj:=e.obj,k:=e.k,n:=e.n } e
def RSt.fits (s:RSt) (w:RWt) (e:Ev):Bool:=!((e.kind != w.kind || (e.obj != s.obj || (e.k != s.k || (e.n != s.n || (decide (0≤w.g) && e.g != w.g))))) || (decide (w.g < 0) && e.g == w.not))
def RWt.known (w:RWt) (g:Int) (x:RWt):RWt:=if w.g < 0∧x.g < 0 then { x with g:=g } else x
def RSt.jB (s:RSt) (e:Ev):RSt×Bool:=match s.next with
 | []=>(s,false)
 | w :: rest=>if s.fits w e=true then (RSt.counted { s with next:=rest.map (w.known e.g) } e,true) else (s,false)
def RSt.fA (s:RSt) (e:Ev):RSt×Bool :=
 if (s.channel e.obj e.n).n≠e.n then (s,false)
 else if e.kind=15 then
  if e.k≠(s.channel e.obj e.n).sent then (s,false)
  else if (s.channel e.obj e.n).closed=true then (s,false)
  else if 0 < (s.channel e.obj e.n).n∧(s.channel e.obj e.n).sent - (s.channel e.obj e.n).recv < (s.channel e.obj e.n).n then (s.begin e [⟨16,e.g,0⟩],true)
  else if (s.channel e.obj e.n).n=0∧1 < s.gor then (s.begin e [⟨17, -1,e.g⟩,⟨18, -1,0⟩,⟨16,e.g,0⟩],true)
  else (s,false)
 else if e.kind=17 then
  if e.k≠(s.channel e.obj e.n).recv then (s,false)
  else if (s.channel e.obj e.n).recv < (s.channel e.obj e.n).sent then (s.begin e [⟨18,e.g,0⟩],true)
  else if (s.channel e.obj e.n).closed=false∧1 < s.gor then (s.begin e [⟨15, -1,e.g⟩,⟨18,e.g,0⟩,⟨16, -1,0⟩],true)
  else (s,false)
 else if e.kind=19 then
  if (s.channel e.obj e.n).closed=true then (s,false) else (s.bN { s.channel e.obj e.n with closed:=true },true)
 else if e.kind=20 then (s,(s.channel e.obj e.n).closed && (s.channel e.obj e.n).sent == (s.channel e.obj e.n).recv)
 else (s,false)
def RSt.eY (s:RSt) (e:Ev):RSt×Bool :=
 if e.kind=6 then (s.dM { s.lock e.obj e.off with locked:=true },!(s.lock e.obj e.off).locked && (s.lock e.obj e.off).readers == 0)
 else if e.kind=7 then (s.dM { s.lock e.obj e.off with locked:=false },(s.lock e.obj e.off).locked)
 else if e.kind=8 then (s.dM { s.lock e.obj e.off with readers:=(s.lock e.obj e.off).readers+1 },!(s.lock e.obj e.off).locked)
 else if e.kind=9 then (s.dM { s.lock e.obj e.off with readers:=(s.lock e.obj e.off).readers - 1 },decide (0≤(s.lock e.obj e.off).readers - 1))
 else if e.kind=12 then ({ s with done:=s.done ++ [(e.obj,e.off)] },!s.isDone e.obj e.off)
 else if e.kind=13 then (s,s.isDone e.obj e.off)
 else if e.kind=14 then ({ s with gor:=s.gor+1 },e.k == s.gor)
 else (s,true)
def RSt.kY (s:RSt) (e:Ev):RSt×Bool:=if 0 < s.next.length then s.jB e else if dL e.kind=true then s.fA e else s.eY e
def RSt.admits (s:RSt) (e:Ev):Bool:=e.valid && decide (s.count < 5000) && decide (e.g < s.gor)
def RSt.qc (s:RSt) (e:Ev):RSt×Bool :=
 if s.admits e=true∧(s.kY e).2=true then ({ (s.kY e).1 with count:=(s.kY e).1.count+1 },true) else (s,false)
theorem CV {α:Type} {l:List α} {p:α→Bool} {k:Nat} {c:α} (hno:∀ i c,i < k→l[i]? = some c→p c=false) (hc:l[k]? = some c) (he:p c=true):l.find? p=some c:=by
 rw [List.find?_eq_some_iff_getElem];refine ⟨he,k,(List.getElem?_eq_some_iff.1 hc).1,(List.getElem?_eq_some_iff.1 hc).2,fun j hj=>?_⟩;have h1:=List.getElem?_eq_getElem (show j < l.length by have:=(List.getElem?_eq_some_iff.1 hc).1;omega)
 rw [hno j _ hj h1];rfl
theorem yF {α:Type} {l:List α} {p:α→Bool} (hno:∀ i c,i < l.length→l[i]? = some c→p c=false):l.find? p=none:=by
 rw [List.find?_eq_none];intro c hc;obtain ⟨i,hi,rfl⟩:=List.getElem_of_mem hc;rw [hno i _ hi (List.getElem?_eq_getElem hi)];decide
theorem rY {α:Type} {l:List α} {p:α→Bool} {k:Nat} {c:α} (hno:∀ i c,i < k→l[i]? = some c→p c=false) (hc:l[k]? = some c) (he:p c=false):∀ i c,i < k+1→l[i]? = some c→p c=false:=by
 intro i c' hi hc'
 rcases Nat.lt_or_eq_of_le (Nat.le_of_lt_succ hi) with h | h
 ·exact hno i c' h hc'
 ·subst h;rw [hc] at hc';cases hc';exact he
theorem KT {α:Type} {l:List α} {p:α→Bool} (hno:∀ i c,i < l.length→l[i]? = some c→p c=false):l.any p=false:=by
 rw [List.any_eq_false];intro c hc;obtain ⟨i,hi,rfl⟩:=List.getElem_of_mem hc;rw [hno i _ hi (List.getElem?_eq_getElem hi)];decide
theorem ji {α:Type} {l:List α} {p:α→Bool} {k:Nat} {c:α} (hc:l[k]? = some c):(l.take (k+1)).filter p=(l.take k).filter p ++ (if p c=true then [c] else []):=by
 obtain ⟨hk,rfl⟩:=List.getElem?_eq_some_iff.1 hc;rw [List.take_succ_eq_append_getElem hk,List.filter_append]
 congr 1
 cases h:p l[k] <;> simp [h]
theorem nQ {α:Type} (l:List α) (p:α→Bool) (k:Nat):((l.take k).filter p).length≤k :=
 Nat.le_trans (List.length_filter_le _ _) (List.length_take_le _ _)
theorem xq {α:Type} {f:α→List Dt} {n:Nat} (h:∀ x,(f x).length=n) (l:List α):(∀ r,r ∈ l.map f→r.length=n)=True:=by
 apply propext
 refine ⟨fun _=>trivial,fun _ r hr=>?_⟩;obtain ⟨x,_,rfl⟩:=List.mem_map.1 hr;exact h x
end Go.Proofs.Ytffcpijeebagfaa
end
section
namespace Go.Proofs.Ytffcpijeebagfaa
open Go
abbrev Ck:=List Int
def ckZ:Ck:=List.replicate 8 0
def aQ (a b:Ck):Ck:=List.zipWith (fun x y=>if y > x then y else x) a b
def FD (a b:Ev):Bool :=
 if a.obj≠b.obj then false
 else if a.off≠b.off then false
 else if b.kind=18 then a.kind == 15 && a.k == b.k
 else if b.kind=16 then a.kind == 17 && b.k == a.k+b.n
 else if b.kind=20 then a.kind == 19
 else if b.kind=6 then a.kind == 7 || a.kind == 9
 else if b.kind=8 then a.kind == 7
 else if b.kind=11 then a.kind == 10
 else if b.kind=13 then a.kind == 12
 else false
structure SSt where
 cur:List Ck
 birth:List Ck
 out:List Ck
def bT (s:SSt) (e:Ev):Ck:=if s.cur.getD e.g.toNat ckZ=ckZ then s.birth.getD e.g.toNat ckZ else s.cur.getD e.g.toNat ckZ
def kQ (f e:Ev):Bool:=f.obj == e.obj && (f.off == e.off && (f.kind == 4 || f.kind == 5))
def xK (out:List Ck) (e f:Ev) (i:Nat) (p:Ck×Int):Ck×Int :=
 (if FD f e=true then aQ p.1 (out.getD i ckZ) else p.1,if kQ f e=true then (i:Int) else p.2)
def jf (l:List Ev) (out:List Ck) (e:Ev) (p:Ck×Int):Nat→Ck×Int
 | 0=>p
 | i+1=>xK out e (l.getD i default) i (jf l out e p i)
def vC (e:Ev) (at_:Int):Bool:=decide (0≤at_) && (e.kind == 3 || e.kind == 5)
def VG (out:List Ck) (e:Ev) (p:Ck×Int):Ck :=
 let c:=if vC e p.2=true then aQ p.1 (out.getD p.2.toNat ckZ) else p.1
 c.set e.g.toNat (c.getD e.g.toNat 0+1)
def dU (l:List Ev) (s:SSt) (e:Ev) (j:Nat):Ck:=VG s.out e (jf l s.out e (bT s e, -1) j)
def SSt.step (l:List Ev) (s:SSt) (e:Ev) (j:Nat):SSt :=
 ⟨s.cur.set e.g.toNat (dU l s e j),if e.kind=14 then s.birth.set e.k.toNat (dU l s e j) else s.birth,s.out ++ [dU l s e j]⟩
def aX (l:List Ev):Nat→SSt
 | 0=>⟨List.replicate 8 ckZ,List.replicate 8 ckZ,[]⟩
 | j+1=>(aX l j).step l (l.getD j default) j
def lg (l:List Ev):List Ck:=(aX l l.length).out
def COk (n:Int) (c:Ck):Prop:=c.length=8∧∀ x,x ∈ c→0≤x∧x≤n
theorem COk.z {n:Int} (h:0≤n):COk n ckZ:=⟨rfl,fun x hx=>by simp [ckZ] at hx;omega⟩
theorem COk.mono {n m:Int} (h:n≤m) {c:Ck} (hc:COk n c):COk m c:=⟨hc.1,fun x hx=>by have:=hc.2 x hx;omega⟩
theorem COk.join {n:Int} {a b:Ck} (ha:COk n a) (hb:COk n b):COk n (aQ a b):=by
 refine ⟨by unfold aQ;rw [List.length_zipWith,ha.1,hb.1];rfl,fun x hx=>?_⟩
 unfold aQ at hx;obtain ⟨i,hi⟩:=List.getElem?_of_mem hx;rw [List.getElem?_zipWith] at hi;split at hi
 ·rename_i u v hu hv;cases hi;have h1:=ha.2 u (List.mem_of_getElem? hu);have h2:=hb.2 v (List.mem_of_getElem? hv);split <;> omega
 ·cases hi
theorem COk.getD {n:Int} (h:0≤n) {l:List Ck} (hl:∀ c,c ∈ l→COk n c) (i:Nat):COk n (l.getD i ckZ):=by
 rw [List.getD_eq_getElem?_getD]
 cases hi:l[i]? with
 | none=>exact COk.z h
 | some c=>exact hl c (List.mem_of_getElem? hi)
theorem COk.tick {n:Int} {c:Ck} (hc:COk n c) (i:Nat):COk (n+1) (c.set i (c.getD i 0+1)):=by
 refine ⟨by rw [List.length_set];exact hc.1,fun x hx=>?_⟩
 rcases List.mem_or_eq_of_mem_set hx with h | h
 ·have:=hc.2 x h;omega
 ·subst h;rw [List.getD_eq_getElem?_getD]
  cases hi:c[i]? with
  | none =>
    have h8:=hc.1;have:=hc.2 (c[0]'(by omega)) (List.getElem_mem _);simp;omega
  | some y=>have:=hc.2 y (List.mem_of_getElem? hi);simp;omega
structure SOk (s:SSt) (j:Nat):Prop where
 cl:s.cur.length=8
 bl:s.birth.length=8
 ol:s.out.length=j
 cc:∀ c,c ∈ s.cur→COk j c
 bc:∀ c,c ∈ s.birth→COk j c
 oc:∀ c,c ∈ s.out→COk j c
theorem SOk.start {s:SSt} {j:Nat} (h:SOk s j) (e:Ev):COk j (bT s e):=by
 unfold bT;split
 ·exact COk.getD (by omega) h.bc _
 ·exact COk.getD (by omega) h.cc _
theorem SOk.jf {s:SSt} {j:Nat} (h:SOk s j) (l:List Ev) (e:Ev) (i:Nat):COk j (jf l s.out e (bT s e, -1) i).1∧-1≤(Go.Proofs.Ytffcpijeebagfaa.jf l s.out e (bT s e, -1) i).2∧(Go.Proofs.Ytffcpijeebagfaa.jf l s.out e (bT s e, -1) i).2 < i:=by
 induction i with
 | zero=>exact ⟨h.start e,by simp [Go.Proofs.Ytffcpijeebagfaa.jf],by simp [Go.Proofs.Ytffcpijeebagfaa.jf]⟩
 | succ i ih =>
   obtain ⟨h1,h2,h3⟩:=ih;simp only [Go.Proofs.Ytffcpijeebagfaa.jf,xK];refine ⟨?_,?_,?_⟩
   ·split
    ·exact h1.join (COk.getD (by omega) h.oc _)
    ·exact h1
   ·split <;> omega
   ·split <;> omega
theorem SOk.pre {s:SSt} {j:Nat} (h:SOk s j) (l:List Ev) (e:Ev):COk j (let p:=Go.Proofs.Ytffcpijeebagfaa.jf l s.out e (bT s e, -1) j;if vC e p.2=true then aQ p.1 (s.out.getD p.2.toNat ckZ) else p.1):=by
 dsimp only;split
 ·exact (h.jf l e j).1.join (COk.getD (by omega) h.oc _)
 ·exact (h.jf l e j).1
theorem SOk.clock {s:SSt} {j:Nat} (h:SOk s j) (l:List Ev) (e:Ev):COk ((j+1:Nat):Int) (dU l s e j):=by
 have:=(h.pre l e).tick e.g.toNat;unfold dU VG;exact this.mono (by omega)
theorem SOk.step {s:SSt} {j:Nat} (h:SOk s j) (l:List Ev) (e:Ev):SOk (s.step l e j) (j+1):=by
 have hc:=h.clock l e;have up:∀ c,COk (j:Int) c→COk ((j+1:Nat):Int) c:=fun c h=>h.mono (by omega)
 refine ⟨?_,?_,?_,fun c hm=>?_,fun c hm=>?_,fun c hm=>?_⟩
 ·simp [SSt.step,h.cl]
 ·simp only [SSt.step];split <;> simp [h.bl]
 ·simp [SSt.step,h.ol]
 ·rcases List.mem_or_eq_of_mem_set hm with hm | rfl
  ·exact up c (h.cc c hm)
  ·exact hc
 ·simp only [SSt.step] at hm;split at hm
  ·rcases List.mem_or_eq_of_mem_set hm with hm | rfl
   ·exact up c (h.bc c hm)
   ·exact hc
  ·exact up c (h.bc c hm)
 ·simp only [SSt.step,List.mem_append,List.mem_singleton] at hm
  rcases hm with hm | rfl
  ·exact up c (h.oc c hm)
  ·exact hc
theorem dh (l:List Ev) (j:Nat):SOk (aX l j) j:=by
 induction j with
 | zero=>exact ⟨rfl,rfl,rfl,fun c hc=>by simp [aX] at hc;subst hc;exact COk.z (by omega),fun c hc=>by simp [aX] at hc;subst hc;exact COk.z (by omega),fun c hc=>by simp [aX] at hc⟩
 | succ j ih=>exact ih.step l _
theorem wC (l:List Ev):∀ c,c ∈ lg l→COk l.length c:=(dh l l.length).oc
end Go.Proofs.Ytffcpijeebagfaa
end
section
namespace Go.Proofs.Ytffcpijeebagfaa
open Go Go.RowKit
set_option maxRecDepth 100000
set_option maxHeartbeats 4000000
def Kv (c:Ck):List Dt:=c.map dI
def kI (c:Ck):Pa:=.agg (Kv c)
def aK (c:Ck):List Cl:=c.map fun x=>.d (dI x)
theorem dN (c:Ck):aD ((aK c).map Cl.dt)=some (Kv c):=by
 induction c with
 | nil=>rfl
 | cons x c ih =>
   show (aD ((aK c).map Cl.dt)).map (dI x :: ·)=_
   rw [ih];rfl
theorem eG (c:Ck):(Kv c).map Cl.d=aK c:=by unfold Kv aK;rw [List.map_map];rfl
theorem aJ (c:Ck):(aK c).length=c.length:=List.length_map ..
theorem iI (c:Ck) (i:Nat) (x:Int) (h:c[i]? = some x):(aK c)[i]? = some (.d (dI x)):=by unfold aK;rw [List.getElem?_map,h];rfl
theorem tX (c:Ck) (i:Nat) (x:Int) (h:i < c.length):iQ (aK c) i [.d (dI x)]=aK (c.set i x):=by
 induction c generalizing i with
 | nil=>simp at h
 | cons y c ih =>
   cases i with
   | zero =>
     simp only [aK,List.map_cons,iQ,List.set_cons_zero]
     congr 1
     cases c <;> rfl
   | succ i =>
     simp only [aK,List.map_cons,List.set_cons_succ,iQ]
     congr 1
     exact ih i (by simpa using h)
theorem Kq {cs ds:List Cl} (h:cs.length=ds.length):iQ cs 0 ds=ds:=by
 induction cs generalizing ds with
 | nil=>cases ds with
   | nil=>rfl
   | cons d ds=>simp at h
 | cons c cs ih=>cases ds with
   | nil=>simp at h
   | cons d ds =>
     simp only [iQ];rw [ih (by simpa using h)]
theorem lV {c:Ck} (h:c.length=8):iQ [.d (.sc (.int .i64 0)),.d (.sc (.int .i64 0)),.d (.sc (.int .i64 0)),.d (.sc (.int .i64 0)),.d (.sc (.int .i64 0)),.d (.sc (.int .i64 0)),.d (.sc (.int .i64 0)),.d (.sc (.int .i64 0))] 0 (aK c)=aK c :=
 Kq (by rw [aJ,h];rfl)
def fQ (a b:Ck) (k:Nat):Ck:=aQ (a.take k) (b.take k) ++ a.drop k
theorem BN (a b:Ck):fQ a b 0=a:=by simp [fQ,aQ]
theorem EW {a b:Ck} (ha:a.length=8) (hb:b.length=8):fQ a b 8=aQ a b:=by
 unfold fQ;rw [List.take_of_length_le (by omega),List.take_of_length_le (by omega),List.drop_eq_nil_of_le (by omega),List.append_nil]
theorem ig {a b:Ck} (ha:a.length=8) (hb:b.length=8) {k:Nat} (hk:k≤8):(fQ a b k).length=8:=by
 unfold fQ aQ;rw [List.length_append,List.length_zipWith,List.length_take,List.length_take,List.length_drop];omega
theorem EX {a b:Ck} (ha:a.length=8) (hb:b.length=8) {k:Nat} (hk:k < 8) {x:Int} (hx:a[k]? = some x):(fQ a b k)[k]? = some x:=by
 have hl:(aQ (a.take k) (b.take k)).length=k:=by unfold aQ;rw [List.length_zipWith,List.length_take,List.length_take];omega
 unfold fQ;rw [List.getElem?_append_right (by omega),hl,Nat.sub_self,List.getElem?_drop,Nat.add_zero];exact hx
theorem BM {a b:Ck} (ha:a.length=8) (hb:b.length=8) {k:Nat} (hk:k < 8) {x y:Int} (hx:a[k]? = some x) (hy:b[k]? = some y):(fQ a b k).set k (if y > x then y else x)=fQ a b (k+1):=by
 have hl:(aQ (a.take k) (b.take k)).length=k:=by unfold aQ;rw [List.length_zipWith,List.length_take,List.length_take];omega
 unfold fQ;rw [List.set_append_right _ _ (by omega),hl,Nat.sub_self,List.drop_eq_getElem_cons (by omega),List.set_cons_zero];have e1:a.take (k+1)=a.take k ++ [x]:=by rw [List.take_add_one,hx];rfl
 have e2:b.take (k+1)=b.take k ++ [y]:=by rw [List.take_add_one,hy];rfl
 rw [e1,e2];unfold aQ;rw [List.zipWith_append (by rw [List.length_take,List.length_take];omega)]
 simp
def kE (ps rs:List Pa):Prop:=∃ a b:Ck,ps=[kI a,kI b]∧(a.length=8∧b.length=8)∧rs=[kI (aQ a b)]
theorem OO:Spec Try.prog 79 kE:=by
 refine sp79 aG.e0 ?_;rintro ps rs ⟨a,b,rfl,⟨ha,hb⟩,rfl⟩;refine ⟨by simp,?_⟩;unfold pc79;refine aH ?_;simp only [↓evP,evB,stB,Nat.reduceEqDiff,kI,eG];refine dZ ms79_0 os79_0 (fun m st=>∃ k:Nat,m=8 - k∧k≤8∧st.sl 6=aI k∧st.gen 2=1∧st.ob 2=.cells (aK (fQ a b k))) 8 ?_ ?_
 ·exact ⟨0,rfl,Nat.zero_le _,by simp only [stB,Nat.reduceEqDiff];rfl,by simp only [stB,Nat.reduceEqDiff],by simp only [stB,Nat.reduceEqDiff,BN]⟩
 ·rintro m j ⟨k,rfl,hk,h6,g2,o2⟩;simp only [stB,reduceIte,seval] at h6 g2 o2
  rcases Nat.lt_or_ge k 8 with hlt | hge
  ·obtain ⟨x,hx⟩:∃ x,a[k]? = some x:=⟨_,List.getElem?_eq_getElem (by omega)⟩
   obtain ⟨y,hy⟩:∃ y,b[k]? = some y:=⟨_,List.getElem?_eq_getElem (by omega)⟩
   have hlt':(k:Int) < 8:=by omega
   have h0:(0:Int)≤(k:Int):=by omega
   have hlt8:(k:Int) < ((8:Nat):Int):=by omega
   have e1:=iI _ _ _ (EX ha hb hlt hx);have e2:=iI _ _ _ hy;have e3:k+1≤(aK (fQ a b k)).length:=by rw [aJ,ig ha hb hk];omega
   have e4:=(tX (fQ a b k) k (if y > x then y else x) (by rw [ig ha hb hk];omega)).trans (congrArg aK (BM ha hb hlt hx hy))
   simp only [↓evP,evB,stB,reduceIte,seval,h6,g2,o2,hlt',h0,e1,e2,e3,Nat.mul_one,List.foldl_cons,List.foldl_nil];refine ⟨(by unfold Drw;kernel_rfl),?_⟩
   exact ⟨_,by omega,(by repeat' (first | assumption | exact aW.mpr trivial | exact Within.refl _ _ _ | (refine bH ?_ rfl rfl) | (refine bg ?_ rfl))),k+1,rfl,by omega,by simp only [stB,reduceIte,seval];rw [wrN (by omega)],by simp only [stB,reduceIte,seval,g2],by simp only [stB,reduceIte,seval,o2];rw [e4]⟩
  ·have hk8:k=8:=by omega
   subst hk8;have hlt':¬ ((8:Nat):Int) < 8:=by omega
   have e3:0+8≤(aK (fQ a b 8)).length:=by rw [aJ,ig ha hb (by omega)];omega
   have e4:(aK (fQ a b 8)).take 8=aK (fQ a b 8):=List.take_of_length_le (by rw [aJ,ig ha hb (by omega)];omega)
   have e5:(aK (fQ a b 8)).length=8:=by rw [aJ,ig ha hb (by omega)]
   simp only [↓evP,evB,stB,reduceIte,reduceCtorEq,seval,h6,g2,o2,e4,e5,lV (ig ha hb (Nat.le_refl 8)),dN,pr79];rw [EW ha hb]
theorem ld8 {a:Ck} (ha:a.length=8):0+8≤(aK a).length∧(aK a).take 8=aK a:=by
 have h:(aK a).length=8:=by rw [aJ,ha]
 exact ⟨by omega,List.take_of_length_le (by omega)⟩
def iH (c:Ck) (g:Int):Ck:=if 0≤g∧g < 8∧c.getD g.toNat 0 < 9223372036854775807 then c.set g.toNat (c.getD g.toNat 0+1) else c
theorem qM {c:Ck} {g:Int}:(iH c g).length=c.length:=by unfold iH;split <;> simp
theorem NP {c:Ck} (hc:c.length=8) {g:Int} (h0:0≤g) (h8:g < 8):c[g.toNat]? = some (c.getD g.toNat 0):=by
 rw [List.getD_eq_getElem?_getD,List.getElem?_eq_getElem (show g.toNat < c.length by omega)];rfl
def RG (c:Ck):Prop:=∀ x,x ∈ c→-9223372036854775808≤x∧x≤9223372036854775807
def xC (ps rs:List Pa):Prop:=∃ (c:Ck) (g:Int),ps=[kI c,pI g]∧(c.length=8∧RG c)∧rs=[kI (iH c g)]
theorem xC.mk {c:Ck} {g:Int} (h:c.length=8) (ho:RG c):xC [kI c,pI g] [kI (iH c g)]:=⟨c,g,rfl,⟨h,ho⟩,rfl⟩
theorem Q7:Spec Try.prog 77 xC:=by
 refine sp77 aG.e0 ?_;rintro ps rs ⟨c,g,rfl,⟨hc,ho⟩,rfl⟩;refine ⟨by simp,?_⟩;obtain ⟨a1,a2⟩:=ld8 hc;have a5:(aK c).length=8:=by rw [aJ,hc]
 unfold pc77;refine aH ?_;simp only [↓evP,evB,stB,reduceIte,reduceCtorEq,seval,kI,eG];have done:iH c g=c→True:=fun _=>trivial
 by_cases h0:g≥0
 case neg =>
  have ht:iH c g=c:=by unfold iH;rw [if_neg (by omega)]
  simp only [↓evP,evB,stB,reduceIte,reduceCtorEq,seval,h0,decide_false,a2,a5,lV hc,dN,ht,pr77]
 by_cases h8:g < 8
 case neg =>
  have ht:iH c g=c:=by unfold iH;rw [if_neg (by omega)]
  simp only [↓evP,evB,stB,reduceIte,reduceCtorEq,seval,h0,h8,decide_true,decide_false,a2,a5,lV hc,dN,ht,pr77]
 have hg:=NP hc h0 h8;have e1:=iI _ _ _ hg;have h8':g < ((8:Nat):Int):=by omega
 have h0':0≤g:=h0
 by_cases hm:c.getD g.toNat 0 < 9223372036854775807
 ·have ht:iH c g=c.set g.toNat (c.getD g.toNat 0+1):=by unfold iH;rw [if_pos ⟨h0,h8,hm⟩]
  have hw:IntKind.i64.wrap (c.getD g.toNat 0+1)=c.getD g.toNat 0+1:=pY (by have:=(ho _ (List.mem_of_getElem? hg)).1;omega) (by omega)
  have e4:=tX c g.toNat (c.getD g.toNat 0+1) (by omega);have e3:g.toNat+1≤(aK c).length:=by omega
  have l2:(c.set g.toNat (c.getD g.toNat 0+1)).length=8:=by rw [List.length_set,hc]
  obtain ⟨b1,b2⟩:=ld8 l2;have b5:(aK (c.set g.toNat (c.getD g.toNat 0+1))).length=8:=by rw [aJ,l2]
  simp only [↓evP,evB,stB,reduceIte,reduceCtorEq,seval,h0,h8,hm,e1,e3,hw,Nat.mul_one,decide_true,e4,b2,b5,lV l2,dN,ht,pr77]
 ·have ht:iH c g=c:=by unfold iH;rw [if_neg (by omega)]
  simp only [↓evP,evB,stB,reduceIte,reduceCtorEq,seval,h0,h8,hm,e1,Nat.mul_one,decide_true,decide_false,a2,a5,lV hc,dN,ht,pr77]
end Go.Proofs.Ytffcpijeebagfaa
end
section
namespace Go.Proofs.Ytffcpijeebagfaa
open Go Go.RowKit
section
def jr:Pa→Hw
 | .one x=>.one (.d x)
 | .agg xs=>.agg (xs.map .d)
theorem QN (p:Pa):(jr p).bv=p.bv:=by
 cases p with
 | one x=>rfl
 | agg xs =>
   show Bv.agg ((xs.map Hc.d).map Hc.cl)=.agg (xs.map Cl.d)
   rw [List.map_map];rfl
theorem Ad {W:Wit} {w:World} {p:Pa} {v:Value}:RHw W w (jr p) v↔RP W.S w p v:=by
 unfold RHw;rw [QN]
 cases p with
 | one x=>exact Iff.rfl
 | agg xs =>
   constructor
   ·rintro ⟨arr,h1,h2,h3⟩;refine ⟨arr,h1,by simpa using h2,fun i x u e1 e2=>h3 i (.d x) u (by rw [List.getElem?_map,e1];rfl) (by rw [Array.getElem?_toList];exact e2)⟩
   ·rintro ⟨arr,h1,h2,h3⟩;refine ⟨arr,h1,by simpa using h2,fun i c u e1 e2=>?_⟩;rw [List.getElem?_map,Option.map_eq_some_iff] at e1;obtain ⟨x,hx,rfl⟩:=e1;exact h3 i x u hx (by rw [Array.getElem?_toList] at e2;exact e2)
theorem E8 {W:Wit} {w:World} {ps:List Pa} {vals:Array Value}:oQ W w (ps.map jr) vals↔RPs W.S w ps vals:=by
 constructor
 ·rintro ⟨h1,h2⟩;exact ⟨by simpa using h1,fun i p u e1 e2=>Ad.1 (h2 i _ u (by rw [List.getElem?_map,e1];rfl) e2)⟩
 ·rintro ⟨h1,h2⟩;refine ⟨by simpa using h1,fun i p u e1 e2=>?_⟩;rw [List.getElem?_map,Option.map_eq_some_iff] at e1;obtain ⟨x,hx,rfl⟩:=e1;exact Ad.2 (h2 i x u hx e2)
theorem VI {W:Wit} {w:World} {rs:List Pa} {u:Value}:RRH W w (rs.map jr) u↔RR W.S w rs u:=by
 match rs with
 | []=>exact Iff.rfl
 | [p]=>exact Ad
 | p :: q :: r =>
   constructor
   ·rintro ⟨vs,h1,h2⟩;exact ⟨vs,h1,E8.1 h2⟩
   ·rintro ⟨vs,h1,h2⟩;exact ⟨vs,h1,E8.2 h2⟩
theorem RHp.upd {W W':Wit} {w w':World} {hp:Nat→Hb} (h:RHp W w hp) (hf:Fol W G0 O0 w W' G0 O0 w') {b:Nat} {x:Hb} (hx:x≠.no) (hlv:∀ m,W'.lv m↔m=b∨W.lv m) (hhf:∀ m,m≠b→W'.hf m=W.hf m)
 (hS:∀ k,k < w.heap.size→W'.S k=W.S k) (hsz:w.heap.size≤w'.heap.size) (hbl:∀ m,m≠b→∀ k,hcl W m (hp m) k→w'.heap[k]? = w.heap[k]?) (hn:RH W' G0 O0 w' b x)
 (hm:∀ k,hcl W' b x k→W'.S k=0∧k < w'.heap.size∧∀ m,m≠b→¬ hcl W m (hp m) k):RHp W' w' (up hp b x):=by
 have hat:∀ m,m≠b→up hp b x m=hp m:=fun m hm2=>by rw [aA,if_neg hm2]
 have hself:up hp b x b=x:=by rw [aA,if_pos rfl]
 have hc:∀ m,m≠b→∀ k,hcl W' m (up hp b x m) k↔hcl W m (hp m) k:=fun m hm2 k=>by
  rw [hat m hm2];exact hcl.fol hf (fun hne=>(h.lv m).2 hne) (hhf m hm2) k
 refine ⟨fun m=>?_,fun m k hk=>?_,fun m=>?_,fun m m' k e1 e2=>?_⟩
 ·rw [hlv]
  by_cases hmb:m=b
  ·subst hmb;rw [hself];exact ⟨fun _=>hx,fun _=>.inl rfl⟩
  ·rw [hat m hmb,←h.lv m];exact ⟨fun q=>q.resolve_left hmb,.inr⟩
 ·by_cases hmb:m=b
  ·subst hmb;rw [hself] at hk;exact ⟨(hm k hk).1,(hm k hk).2.1⟩
  ·obtain ⟨q1,q2⟩:=h.mine m k ((hc m hmb k).1 hk);exact ⟨by rw [hS k q2];exact q1,by omega⟩
 ·by_cases hmb:m=b
  ·subst hmb;rw [hself];exact hn
  ·rw [hat m hmb];exact RH.fol hf (h.at_ m) (fun hne=>(h.lv m).2 hne) (hhf m hmb) (hbl m hmb)
 ·by_cases hmb:m=b
  ·by_cases hmb':m'=b
   ·rw [hmb,hmb']
   ·subst hmb;rw [hself] at e1;exact absurd ((hc m' hmb' k).1 e2) ((hm k e1).2.2 m' hmb')
  ·by_cases hmb':m'=b
   ·subst hmb';rw [hself] at e2;exact absurd ((hc m hmb k).1 e1) ((hm k e2).2.2 m hmb)
   ·exact h.ex m m' k ((hc m hmb k).1 e1) ((hc m' hmb' k).1 e2)
theorem GX {W:Wit} {w:World} {b:Nat} {az:List Hw} {vals:Array Value} (h:oQ W w (.one (.h (.v b)) :: az) vals):W.lv b∧∃ vals':Array Value,vals=#[W.nv b] ++ vals'∧oQ W w az vals':=by
 obtain ⟨h1,h2⟩:=h;have hpos:0 < vals.size:=by rw [←h1];simp
 have h0:=h2 0 _ vals[0] rfl (Array.getElem?_eq_getElem hpos);obtain ⟨e1,e2,e3⟩:vals[0]=rv W (.v b)∧_∧W.lv b:=h0;refine ⟨e3,vals.extract 1 vals.size,?_,?_,fun i x u q1 q2=>h2 (i+1) x u q1 ?_⟩
 ·apply Array.ext'
  have:vals.toList≠[]:=fun hn=>by
   have h3:=congrArg List.length hn;rw [Array.length_toList] at h3;have h4:vals.size=0:=h3;omega
  obtain ⟨y,ys,hy⟩:=List.exists_cons_of_ne_nil this;have hv:vals=(y :: ys).toArray:=by apply Array.ext';simpa using hy
  subst hv;have:y=W.nv b:=e1;subst this;simp
 ·simp;simp at h1;omega
 ·rw [Array.getElem?_extract] at q2;split at q2
  ·rw [←q2,Nat.add_comm]
  ·cases q2
theorem zS {W:Wit} {w w':World} {fp:Nat→Prop} {S':Nat→Nat} (h:lY fp w w') (h0:∀ b,fp b→W.S b=0) (hS:∀ b,b < w.heap.size→S' b=W.S b):Ext W.S S' w w':=fun b i h1 h2=>by
 have hlt:=cell_lt h2;have hnf:¬ fp b:=fun q=>by rw [h0 b q] at h1;omega
 exact ⟨by rw [hS b hlt];exact h1,by simp [World.cell?,h.block b hlt hnf]⟩
variable {P:Program} {f:Nat}
theorem uq.toH [I:dH] {R:Option HP→List Pa→HP→List Pa→Prop} (h:uq P f R):iF P f (fun hp az hp' rs=>∃ b H ps H' rs',az=.one (.h (.v b)) :: ps.map jr∧hp b=.ab H∧R (some H) ps H' rs'∧hp'=up hp b (.ab H')∧rs=rs'.map jr):=by
 rintro hp az hp' rs ⟨b,H,ps,H',rs',rfl,hb,hR,rfl,rfl⟩ W w vals hI hrp hvals;obtain ⟨hlb,vals',rfl,hv'⟩:=GX hvals;have hat:H.r w (W.nv b) (W.hf b):=by have:=hrp.at_ b;rw [hb] at this;exact this
 have hmine:∀ k,W.hf b k→W.S k=0∧k < w.heap.size:=fun k hk=>hrp.mine b k (by rw [hb];exact hk)
 refine (h _ _ _ _ hR W.S w vals' (hI w ⟨rfl,rfl,rfl,Nat.le_refl _,fun _ _ _=>rfl⟩) (E8.1 hv') (W.nv b) (W.hf b) hat (fun k hk=>(hmine k hk).1)).mono ?_;rintro e w' ⟨u,S',fp',rfl,q1,q2,q3,q4,q5⟩
 obtain ⟨W',hW'⟩:∃ W':Wit,{ W with S:=S',hf:=up W.hf b fp' }=W':=⟨_,rfl⟩
 have e1:W'.S=S':=by rw [←hW']
 have e2:W'.nm=W.nm∧W'.nv=W.nv∧W'.lv=W.lv:=by rw [←hW'];exact ⟨rfl,rfl,rfl⟩
 have e3:W'.hf=up W.hf b fp':=by rw [←hW']
 have hfol:Fol W G0 O0 w W' G0 O0 w':=⟨by rw [e1];exact zS q3 (fun k hk=>(hmine k hk).1) q5,fun _=>Nat.le_refl _,fun _ _=>by rw [←hW'],fun o E sz n' _ ho=>(by cases ho),fun _ _=>by rw [←hW'],fun m hm=>⟨by rw [e2.2.2];exact hm,by rw [e2.1],by rw [e2.2.1]⟩,by rw [←hW']⟩
 have hsub:∀ k,W.hf b k→jR W hp k:=fun k hk=>⟨b,by rw [hb];exact hk⟩
 have hrp':RHp W' w' (up hp b (.ab H')):=by
  refine hrp.upd hfol (by simp) (fun m=>?_) (fun m hm=>by rw [e3,aA,if_neg hm]) (fun k hk=>by rw [e1];exact q5 k hk) q3.size (fun m hm k hk=>?_) ?_ (fun k hk=>?_)
  ·rw [e2.2.2];exact ⟨.inr,fun q=>q.elim (fun q=>by rw [q];exact hlb) id⟩
  ·have:=(hrp.mine m k hk).2;refine q3.block k this (fun hf2=>hm (hrp.ex m b k hk (by rw [hb];exact hf2)))
  ·show H'.r w' (W'.nv b) (W'.hf b)
   rw [e2.2.1,e3,aA,if_pos rfl];exact q2
  ·have hk':W'.hf b k:=hk;rw [e3,aA,if_pos rfl] at hk';obtain ⟨r1,r2⟩:=q4 k hk';refine ⟨by rw [e1];exact r2,H'.lt _ _ _ _ q2 hk',fun m hm hk2=>?_⟩
   rcases r1 with r1 | r1
   ·exact hm (hrp.ex m b k hk2 (by rw [hb];exact r1))
   ·have:=(hrp.mine m k hk2).2;omega
 refine ⟨u,W',rfl,VI.2 (by rw [e1];exact q1),hrp',fun m hm=>⟨by rw [e2.2.2];exact hm,by rw [e2.1],by rw [e2.2.1]⟩,⟨q3.os,q3.tape,q3.output,q3.size,fun k hk hn=>q3.block k hk (fun q=>hn (hsub k q))⟩,fun k hk=>?_,fun k hk=>by rw [e1];exact q5 k hk⟩
 obtain ⟨m,hm⟩:=hk
 by_cases hmb:m=b
 ·subst hmb;rw [aA,if_pos rfl] at hm;have hk':W'.hf m k:=hm;rw [e3,aA,if_pos rfl] at hk';exact (q4 k hk').1.imp (hsub k) id
 ·rw [aA,if_neg hmb] at hm;refine .inl ⟨m,(hcl.fol hfol (fun hne=>(hrp.lv m).2 hne) (by rw [e3,aA,if_neg hmb]) k).1 hm⟩
theorem Hf {W:Wit} {w w':World} {hp:Nat→Hb} {b:Nat} {H:HP} {S':Nat→Nat} {adr:Value} {fp':Nat→Prop} (hrp:RHp W w hp) (hb:hp b=.no) (hone:adr.oneCell'=true) (hr:H.r w' adr fp') (hbe:Below w.heap.size w w') (hfp:∀ k,fp' k→w.heap.size≤k∧S' k=0) (hS:∀ k,k < w.heap.size→S' k=W.S k)
 {W':Wit} (hW':W'={ W with S:=S',nv:=up W.nv b adr,hf:=up W.hf b fp',lv:=fun m=>m=b∨W.lv m }) :
 RHp W' w' (up hp b (.ab H))∧(∀ m,W.lv m→W'.lv m∧W'.nm m=W.nm m∧W'.nv m=W.nv m)∧lY (jR W hp) w w'∧(∀ k,jR W' (up hp b (.ab H)) k→jR W hp k∨w.heap.size≤k)∧(∀ k,k < w.heap.size→W'.S k=W.S k)∧RHw W' w' (.one (.h (.v b))) adr:=by
 have hnl:¬ W.lv b:=fun q=>(hrp.lv b).1 q hb
 have hne:∀ m,W.lv m→m≠b:=fun m hm e=>hnl (e ▸ hm)
 have e1:W'.S=S':=by rw [hW']
 have hnm:∀ m,W.lv m→W'.lv m∧W'.nm m=W.nm m∧W'.nv m=W.nv m:=fun m hm=>by
  rw [hW'];exact ⟨.inr hm,rfl,by show up W.nv b adr m=_;rw [aA,if_neg (hne m hm)]⟩
 have hfol:Fol W G0 O0 w W' G0 O0 w':=⟨by
  rw [e1];exact zS (fp:=fun _=>False) ⟨hbe.os,hbe.tape,hbe.output,hbe.size,fun k hk _=>hbe.block k hk⟩ (fun _ q=>q.elim) hS,fun _=>Nat.le_refl _,fun _ _=>by rw [hW'],fun o E sz n' _ ho=>(by cases ho),fun _ _=>by rw [hW'],hnm,by rw [hW']⟩
 have ehf:W'.hf=up W.hf b fp':=by rw [hW']
 have env':W'.nv b=adr:=by rw [hW'];show up W.nv b adr b=_;rw [aA,if_pos rfl]
 have hself:W'.hf b=fp':=by rw [ehf,aA,if_pos rfl]
 refine ⟨hrp.upd hfol (by simp) (fun m=>by rw [hW']) (fun m hm=>by rw [ehf,aA,if_neg hm]) (fun k hk=>by rw [e1];exact hS k hk) hbe.size (fun m hm k hk=>hbe.block k (hrp.mine m k hk).2) ?_ (fun k hk=>?_),hnm,⟨hbe.os,hbe.tape,hbe.output,hbe.size,fun k hk _=>hbe.block k hk⟩,fun k ⟨m,hm⟩=>?_,fun k hk=>by rw [e1];exact hS k hk,?_⟩
 ·show H.r w' (W'.nv b) (W'.hf b)
  rw [env',hself];exact hr
 ·have hk':W'.hf b k:=hk;rw [hself] at hk';refine ⟨by rw [e1];exact (hfp k hk').2,H.lt _ _ _ _ hr hk',fun m hm hk2=>?_⟩
  have:=(hrp.mine m k hk2).2;have:=(hfp k hk').1;omega
 ·by_cases hmb:m=b
  ·subst hmb;rw [aA,if_pos rfl] at hm;have hk':W'.hf m k:=hm;rw [hself] at hk';exact .inr (hfp k hk').1
  ·rw [aA,if_neg hmb] at hm;exact .inl ⟨m,(hcl.fol hfol (fun hne=>(hrp.lv m).2 hne) (by rw [ehf,aA,if_neg hmb]) k).1 hm⟩
 ·refine ⟨env'.symm,hone,?_⟩
  show W'.lv b
  rw [hW'];exact .inl rfl
theorem uq.VP [I:dH] {R:Option HP→List Pa→HP→List Pa→Prop} (h:uq P f R):iF P f (fun hp az hp' rs=>∃ b ps H',az=ps.map jr∧hp b=.no∧R none ps H' []∧hp'=up hp b (.ab H')∧rs=[.one (.h (.v b))]):=by
 rintro hp az hp' rs ⟨b,ps,H',rfl,hb,hR,rfl,rfl⟩ W w vals hI hrp hvals;refine (h _ _ _ _ hR W.S w vals (hI w ⟨rfl,rfl,rfl,Nat.le_refl _,fun _ _ _=>rfl⟩) (E8.1 hvals)).mono ?_;rintro e w' ⟨u,S',adr,fp',rfl,q1,q2,q3,q4,q5,q6⟩;obtain ⟨r1,r2,r3,r4,r5,r6⟩:=Hf hrp hb q2 q3 q4 q5 q6 rfl;have hu:u=adr:=q1;exact ⟨u,_,rfl,by rw [hu];exact r6,r1,r2,r3,r4,r5⟩
theorem Kt.toH [I:dH] {R:HP→HP→Prop} (h:Kt P f R):iF P f (fun hp az hp' rs=>∃ b H b2 H2,az=[.one (.h (.v b))]∧hp b=.ab H∧hp b2=.no∧R H H2∧hp'=up hp b2 (.ab H2)∧rs=[.one (.h (.v b2))]):=by
 rintro hp az hp' rs ⟨b,H,b2,H2,rfl,hb,hb2,hR,rfl,rfl⟩ W w vals hI hrp hvals;obtain ⟨hlb,vals',rfl,hv'⟩:=GX hvals
 have hz:vals'=#[]:=by
  have:=hv'.1;simp at this;exact Array.size_eq_zero_iff.1 this.symm
 subst hz;have hat:H.r w (W.nv b) (W.hf b):=by have:=hrp.at_ b;rw [hb] at this;exact this
 refine (h _ _ hR w (W.nv b) (W.hf b) (hI w ⟨rfl,rfl,rfl,Nat.le_refl _,fun _ _ _=>rfl⟩) hat).mono ?_;rintro e w' ⟨adr,fp',rfl,q2,q3,q4,q5⟩;obtain ⟨r1,r2,r3,r4,r5,r6⟩:=Hf (S':=fun k=>if k < w.heap.size then W.S k else 0) hrp hb2 q2 q3 q4 (fun k hk=>⟨q5 k hk,if_neg (by have:=q5 k hk;omega)⟩) (fun k hk=>if_pos hk) rfl
 exact ⟨adr,_,rfl,r6,r1,r2,r3,r4,r5⟩
theorem jI.toS [I:dH] {R:(Nat→Hb)→List Hw→((Nat→Hb)→List Hw→Prop)→Prop} (h:jI P f R):Spec P f (fun ps rs=>∃ Post,R (fun _=>.no) (ps.map jr) Post∧∀ hp' rs',Post hp' rs'→rs'=rs.map jr):=by
 rintro ps rs ⟨Post,hR,hP⟩ S w vals hI hvals;have hemp:∀ (W:Wit) k,¬ jR W (fun _=>.no) k:=fun W k ⟨b,q⟩=>q
 let W:Wit:=⟨fun _=>0,fun _=>undef,fun _=>undef,fun _ _=>False,S,fun _=>0,fun _=>undef,fun _ _=>False,fun _=>0,fun _=>False⟩
 have tob:∀ {w':World},lY (jR W (fun _=>.no)) w w'→Below w.heap.size w w':=fun q=>⟨q.os,q.tape,q.output,q.size,fun k hk=>q.block k hk (hemp W k)⟩
 refine (h _ _ _ hR W w vals (fun w' q=>I.keep w w' (tob q) hI) ⟨fun b=>⟨fun q=>q.elim,fun q=>absurd rfl q⟩,fun b k q=>q.elim,fun b=>trivial,fun b b' k q=>q.elim⟩ (E8.2 hvals)).mono ?_;rintro e w' ⟨hp',rs',hPo,u,W',rfl,q1,q2,q3,q4,q5,q6⟩;have:=hP hp' rs' hPo;subst this;exact ⟨u,W'.S,rfl,VI.1 q1,tob q4,q6⟩
end
end Go.Proofs.Ytffcpijeebagfaa
end
