/- For every input DetectErrors returns true, and what came in reads afterwards as it did. No conditions. -/
import Derived.Test.YtffcpijeebagfaaMo10
import Derived.Test.YtffcpijeebagfaaRows
set_option linter.unusedSimpArgs false
set_option linter.unusedVariables false
section
namespace Go.Proofs.Ytffcpijeebagfaa
open Go.ChangeShapes Go.WideShapes Go.ChangeAt Go.RowKit
set_option maxRecDepth 100000 in
theorem detectErrors_lifted (os:Os) (started:os.Started) (H:Type) (enc:TypeId×Value→H) :
 ReturnsInHanded {} Try.checked os 12 .any (Rows.detectErrorsSpec.pre6 enc Try.prog Try.f12 Rows.detectErrorsRow.domain false) (Rows.detectErrorsSpec.post enc Try.prog Try.f12 false true false false):=by
 refine returnsInHanded_of_change (C:=Try.checked) Try.own started (by kernel_rfl) Try.func12
  (ChangeSpec.witness6 (enc:=enc) (C:=Try.checked) false ⟨#[],#[.slice none 0 0,.agg #[.int .i64 0,.int .i64 0,.int .i64 0,.int .i64 0,.int .i64 0,.int .i64 0,.int .i64 0,.int .i64 0,.int .i64 0],.int .i64 0],[]⟩ 8 (by kernel_rfl) (by kernel_rfl) (by kernel_rfl) (by kernel_rfl)) ?_
 intro W base args ds gs before hval0 hW hcnd _;have hval:∀ (j:Nat) t v,Try.f12.params[j]? = some t→args[j]? = some v→Value.okWide Try.prog W .any base t v:=hval0
 have hW':=hW;obtain ⟨p,q,hA0,hV,rfl,hfz,hnd⟩:=hW;have hA:DataW.TrodAll enc Try.prog W 0 (fun _=>true) true Try.f12.params.toList args.toList ds p:=hA0;have hB:=hA;rw [Try.params12] at hA hval;obtain ⟨v0,v1,v2,d0,d1,d2,p0,p1,p2,rfl,rfl,rfl,h0,h1,h2⟩:=trodAll_three hA;obtain ⟨rfl,rfl⟩:=trodVars_none hV;obtain ⟨l0,hl0,_⟩:=BO (hval 0 22 v0 rfl rfl) h0;obtain ⟨xs1,hxs1,rfl,_⟩:=JH Try.underlying34 (by kernel_rfl) (by kernel_rfl) Try.underlying3 (by kernel_rfl) (n:=9) rfl (hval 1 34 v1 rfl rfl) h1;obtain ⟨e1,he1⟩:=Jt hxs1;obtain ⟨g2,rfl,rfl,rfl,w2⟩:=open_int Try.underlying3 (hval 2 3 v2 rfl rfl) h2;clear hA0 hval0;have r0:RP (World.cellsOf W) W (jc l0) v0:=Gh.rd hl0 D8;have r1:RP (World.cellsOf W) W e1.pa (.agg (xs1.map (Value.int .i64)).toArray):=by rw [he1];exact RP.TV (vs:=e1.cells) e1.Jz
 have r2:RP (World.cellsOf W) W (pI g2) (.int .i64 g2):=RP.mkInt g2;have hR:N9 [jc l0,e1.pa,pI g2] [pB true]:=⟨l0,e1,g2,rfl,rfl⟩;have hlaw:=(UW NC).true hR trivial (RPs.mk3 r0 r1 r2);clear hR hA hval r0 r1 r2 hl0 h0 h1 w2 h2;refine hlaw.mono fun e W' ⟨he,bel⟩=>?_
 subst he;exact ⟨_,rfl,_,_,_,[],_,[],hW',trodAll_mk1 (shut_bool Try.underlying4 _),pX Try.laidOut bel (by kernel_rfl) hB,rfl,bel.frame _,fun h=>by cases h⟩
theorem detectErrors_holds:Rows.DetectErrorsSaid :=
 OpenClaim.holds_of_wide 12 Try.f12 rfl rfl rfl rfl rfl rfl rfl ⟨rfl,rfl,rfl,rfl,rfl⟩ rfl rfl rfl rfl rfl (by kernel_rfl) Try.func12 (by kernel_rfl)
  (of_decide_eq_true (by kernel_rfl)) (by unfold Func.isWrapper;first | (rw [if_pos (by decide +kernel)];kernel_rfl) | (rw [if_neg (by decide +kernel)];exact ⟨rfl,rfl⟩))
  (fun os started H enc _=>detectErrors_lifted os started H enc)
#print axioms detectErrors_holds
end Go.Proofs.Ytffcpijeebagfaa
end
