/- For every input TraceClone returns true, and what came in reads afterwards as it did. No conditions. -/
import Derived.Test.YtffcpijeebagfaaMt8
import Derived.Test.YtffcpijeebagfaaRows
set_option linter.unusedSimpArgs false
set_option linter.unusedVariables false
section
namespace Go.Proofs.Ytffcpijeebagfaa
open Go.ChangeShapes Go.WideShapes Go.ChangeAt Go.RowKit
set_option maxRecDepth 100000 in
theorem traceClone_lifted (os:Os) (started:os.Started) (H:Type) (enc:TypeId×Value→H) :
 ReturnsInHanded {} Try.checked os 3 .any (Rows.traceCloneSpec.pre6 enc Try.prog Try.f3 Rows.traceCloneRow.domain false) (Rows.traceCloneSpec.post enc Try.prog Try.f3 false true false false):=by
 refine returnsInHanded_of_change (C:=Try.checked) Try.own started (by kernel_rfl) Try.func3
  (ChangeSpec.witness6 (enc:=enc) (C:=Try.checked) false ⟨#[],#[.slice none 0 0,.slice none 0 0],[]⟩ 8 (by kernel_rfl) (by kernel_rfl) (by kernel_rfl) (by kernel_rfl)) ?_
 intro W base args ds gs before hval0 hW hcnd _;have hval:∀ (j:Nat) t v,Try.f3.params[j]? = some t→args[j]? = some v→Value.okWide Try.prog W .any base t v:=hval0
 have hW':=hW;obtain ⟨p,q,hA0,hV,rfl,hfz,hnd⟩:=hW;have hA:DataW.TrodAll enc Try.prog W 0 (fun _=>true) true Try.f3.params.toList args.toList ds p:=hA0;have hB:=hA;rw [Try.params3] at hA hval;obtain ⟨v0,v1,d0,d1,p0,p1,rfl,rfl,rfl,h0,h1⟩:=trodAll_two hA;obtain ⟨rfl,rfl⟩:=trodVars_none hV;obtain ⟨l0,hl0,_⟩:=open_events (hval 0 22 v0 rfl rfl) h0;obtain ⟨l1,hl1,_⟩:=open_events (hval 1 22 v1 rfl rfl) h1;clear hA0 hval0;have r0:RP (World.cellsOf W) W (evsPa l0) v0:=EvAt.rd hl0 cellsOf_lt;have r1:RP (World.cellsOf W) W (evsPa l1) v1:=EvAt.rd hl1 cellsOf_lt;have hR:R_tclone [evsPa l0,evsPa l1] [pB true]:=⟨l0,l1,rfl,⟨(by obtain ⟨A,c,_,h1,h2,_⟩:=hl0;omega),(by obtain ⟨A,c,_,h1,h2,_⟩:=hl1;omega)⟩,rfl⟩
 have hlaw:=s_tclone.true hR trivial (RPs.mk2 r0 r1);clear hR hA hval r0 r1 hl0 h0 hl1 h1;refine hlaw.mono fun e W' ⟨he,bel⟩=>?_
 subst he;exact ⟨_,rfl,_,_,_,[],_,[],hW',trodAll_mk1 (shut_bool Try.underlying4 _),trodAll_below Try.laidOut bel (by kernel_rfl) hB,rfl,bel.frame _,fun h=>by cases h⟩
theorem traceClone_holds:Rows.TraceCloneSaid :=
 OpenClaim.holds_of_wide 3 Try.f3 rfl rfl rfl rfl rfl rfl rfl ⟨rfl,rfl,rfl,rfl,rfl⟩ rfl rfl rfl rfl rfl (by kernel_rfl) Try.func3 (by kernel_rfl)
  (of_decide_eq_true (by kernel_rfl)) (by unfold Func.isWrapper;first | (rw [if_pos (by decide +kernel)];kernel_rfl) | (rw [if_neg (by decide +kernel)];exact ⟨rfl,rfl⟩))
  (fun os started H enc _=>traceClone_lifted os started H enc)
#print axioms traceClone_holds
end Go.Proofs.Ytffcpijeebagfaa
end
