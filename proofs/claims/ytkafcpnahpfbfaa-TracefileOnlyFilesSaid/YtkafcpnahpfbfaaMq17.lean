/- For every input TracefileOnlyFiles returns true, and what came in reads afterwards as it did. No conditions. -/
import Derived.Test.YtkafcpnahpfbfaaMq13
import Derived.Test.YtkafcpnahpfbfaaRows
set_option linter.unusedSimpArgs false
set_option linter.unusedVariables false
section
namespace Go.Proofs.Ytkafcpnahpfbfaa
open Go.ChangeShapes Go.WideShapes Go.ChangeAt Go.RowKit
set_option maxRecDepth 100000 in
theorem tracefileOnlyFiles_lifted (os:Os) (started:os.Started) (H:Type) (enc:TypeId×Value→H) :
 ReturnsInHanded {} Try.checked os 6 .any (Rows.tracefileOnlyFilesSpec.pre6 enc Try.prog Try.f6 Rows.tracefileOnlyFilesRow.domain false) (Rows.tracefileOnlyFilesSpec.post enc Try.prog Try.f6 false true false false):=by
 refine returnsInHanded_of_change (C:=Try.checked) Try.own started (by kernel_rfl) Try.func6
  (ChangeSpec.witness6 (enc:=enc) (C:=Try.checked) false ⟨#[],#[.slice none 0 0],[]⟩ 8 (by kernel_rfl) (by kernel_rfl) (by kernel_rfl) (by kernel_rfl)) ?_
 intro W base args ds gs before hval0 hW hcnd _;have hval:∀ (j:Nat) t v,Try.f6.params[j]? = some t→args[j]? = some v→Value.okWide Try.prog W .any base t v:=hval0
 have hW':=hW;obtain ⟨p,q,hA0,hV,rfl,hfz,hnd⟩:=hW;have hA:DataW.TrodAll enc Try.prog W 0 (fun _=>true) true Try.f6.params.toList args.toList ds p:=hA0;have hB:=hA;rw [Try.params6] at hA hval;obtain ⟨v0,d0,rfl,rfl,h0⟩:=trodAll_one hA;obtain ⟨rfl,rfl⟩:=trodVars_none hV;obtain ⟨l0,b0,r0⟩:=qB (hval 0 31 v0 rfl rfl) h0;have r0:=r0 _ mF;clear hA0 hval0;have hR:zU [cu l0] [pB true]:=⟨l0,rfl,b0,rfl⟩;have hlaw:=Vz.true hR trivial (RPs.mk1 r0);clear hR hA hval r0 h0;refine hlaw.mono fun e W' ⟨he,bel⟩=>?_
 subst he;exact ⟨_,rfl,_,_,_,[],_,[],hW',trodAll_mk1 (shut_bool Try.underlying4 _),iF Try.laidOut bel (by kernel_rfl) hB,rfl,bel.frame _,fun h=>by cases h⟩
theorem tracefileOnlyFiles_holds:Rows.TracefileOnlyFilesSaid :=
 OpenClaim.holds_of_wide 6 Try.f6 rfl rfl rfl rfl rfl rfl rfl ⟨rfl,rfl,rfl,rfl,rfl⟩ rfl rfl rfl rfl rfl (by kernel_rfl) Try.func6 (by kernel_rfl)
  (of_decide_eq_true (by kernel_rfl)) (by unfold Func.isWrapper;first | (rw [if_pos (by decide +kernel)];kernel_rfl) | (rw [if_neg (by decide +kernel)];exact ⟨rfl,rfl⟩))
  (fun os started H enc _=>tracefileOnlyFiles_lifted os started H enc)
#print axioms tracefileOnlyFiles_holds
end Go.Proofs.Ytkafcpnahpfbfaa
end
