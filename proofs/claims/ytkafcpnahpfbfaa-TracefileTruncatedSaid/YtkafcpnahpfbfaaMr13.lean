/- For every input TracefileTruncated returns true, and what came in reads afterwards as it did. No conditions. -/
import Derived.Test.YtkafcpnahpfbfaaMr12
import Derived.Test.YtkafcpnahpfbfaaRows
set_option linter.unusedSimpArgs false
set_option linter.unusedVariables false
section
namespace Go.Proofs.Ytkafcpnahpfbfaa
open Go.ChangeShapes Go.WideShapes Go.ChangeAt Go.RowKit
set_option maxRecDepth 100000 in
theorem tracefileTruncated_lifted (os:Os) (started:os.Started) (H:Type) (enc:TypeId×Value→H) :
 ReturnsInHanded {} Try.checked os 8 .any (Rows.tracefileTruncatedSpec.pre6 enc Try.prog Try.f8 Rows.tracefileTruncatedRow.domain false) (Rows.tracefileTruncatedSpec.post enc Try.prog Try.f8 false true false false):=by
 refine returnsInHanded_of_change (C:=Try.checked) Try.own started (by kernel_rfl) Try.func8
  (ChangeSpec.witness6 (enc:=enc) (C:=Try.checked) false ⟨#[],#[.agg #[.slice none 0 0,.slice none 0 0,.slice none 0 0],.int .i64 0],[]⟩ 8 (by kernel_rfl) (by kernel_rfl) (by kernel_rfl) (by kernel_rfl)) ?_
 intro W base args ds gs before hval0 hW hcnd _;have hval:∀ (j:Nat) t v,Try.f8.params[j]? = some t→args[j]? = some v→Value.okWide Try.prog W .any base t v:=hval0
 have hW':=hW;obtain ⟨p,q,hA0,hV,rfl,hfz,hnd⟩:=hW;have hA:DataW.TrodAll enc Try.prog W 0 (fun _=>true) true Try.f8.params.toList args.toList ds p:=hA0;have hB:=hA;rw [Try.params8] at hA hval;obtain ⟨v0,v1,d0,d1,p0,p1,rfl,rfl,rfl,h0,h1⟩:=trodAll_two hA;obtain ⟨rfl,rfl⟩:=trodVars_none hV;obtain ⟨l0,k0,b0,r0⟩:=DL (hval 0 28 v0 rfl rfl) h0;have r0:=r0 _ BH;obtain ⟨g1,rfl,rfl,rfl,w1⟩:=open_int Try.underlying3 (hval 1 3 v1 rfl rfl) h1;have r1:RP (World.cellsOf W) W (pI g1) (.int .i64 g1):=RP.mkInt g1;have b1:=ny w1;clear hA0 hval0;have hR:Lm [iO l0 k0,pI g1] [pB true]:=⟨l0,k0,g1,rfl,⟨b0,b1⟩,rfl⟩;have hlaw:=SQ.true hR trivial (RPs.mk2 r0 r1);clear hR hA hval r0 h0 r1 h1;refine hlaw.mono fun e W' ⟨he,bel⟩=>?_
 subst he;exact ⟨_,rfl,_,_,_,[],_,[],hW',trodAll_mk1 (shut_bool Try.underlying4 _),oq Try.laidOut bel (by kernel_rfl) hB,rfl,bel.frame _,fun h=>by cases h⟩
theorem tracefileTruncated_holds:Rows.TracefileTruncatedSaid :=
 OpenClaim.holds_of_wide 8 Try.f8 rfl rfl rfl rfl rfl rfl rfl ⟨rfl,rfl,rfl,rfl,rfl⟩ rfl rfl rfl rfl rfl (by kernel_rfl) Try.func8 (by kernel_rfl)
  (of_decide_eq_true (by kernel_rfl)) (by unfold Func.isWrapper;first | (rw [if_pos (by decide +kernel)];kernel_rfl) | (rw [if_neg (by decide +kernel)];exact ⟨rfl,rfl⟩))
  (fun os started H enc _=>tracefileTruncated_lifted os started H enc)
#print axioms tracefileTruncated_holds
end Go.Proofs.Ytkafcpnahpfbfaa
end
