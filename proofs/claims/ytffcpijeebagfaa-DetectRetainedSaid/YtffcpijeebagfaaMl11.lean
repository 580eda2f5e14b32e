/- For every input DetectRetained returns true, and what came in reads afterwards as it did. No conditions. -/
import Derived.Test.YtffcpijeebagfaaMl10
import Derived.Test.YtffcpijeebagfaaRows
set_option linter.unusedSimpArgs false
set_option linter.unusedVariables false
section
namespace Go.Proofs.Ytffcpijeebagfaa
open Go.ChangeShapes Go.WideShapes Go.ChangeAt Go.RowKit
set_option maxRecDepth 100000 in
theorem detectRetained_lifted (os:Os) (started:os.Started) (H:Type) (enc:TypeId×Value→H) :
 ReturnsInHanded {} Try.checked os 13 .any (Rows.detectRetainedSpec.pre6 enc Try.prog Try.f13 Rows.detectRetainedRow.domain false) (Rows.detectRetainedSpec.post enc Try.prog Try.f13 false true false false):=by
 refine returnsInHanded_of_change (C:=Try.checked) Try.own started (by kernel_rfl) Try.func13
  (ChangeSpec.witness6 (enc:=enc) (C:=Try.checked) false ⟨#[],#[.slice none 0 0],[]⟩ 8 (by kernel_rfl) (by kernel_rfl) (by kernel_rfl) (by kernel_rfl)) ?_
 intro W base args ds gs before hval0 hW hcnd _;have hval:∀ (j:Nat) t v,Try.f13.params[j]? = some t→args[j]? = some v→Value.okWide Try.prog W .any base t v:=hval0
 have hW':=hW;obtain ⟨p,q,hA0,hV,rfl,hfz,hnd⟩:=hW;have hA:DataW.TrodAll enc Try.prog W 0 (fun _=>true) true Try.f13.params.toList args.toList ds p:=hA0;have hB:=hA;rw [Try.params13] at hA hval;obtain ⟨v0,d0,rfl,rfl,h0⟩:=trodAll_one hA;obtain ⟨rfl,rfl⟩:=trodVars_none hV;obtain ⟨l0,hl0,_⟩:=tY (hval 0 22 v0 rfl rfl) h0;clear hA0 hval0;have r0:RP (World.cellsOf W) W (fV l0) v0:=Ed.rd hl0 vC;have hR:Ov [fV l0] [pB true]:=⟨l0,rfl,(by obtain ⟨A,c,_,h1,h2,_⟩:=hl0;omega),rfl⟩
 have hlaw:=(Vu NT).true hR trivial (RPs.mk1 r0);clear hR hA hval r0 hl0 h0;refine hlaw.mono fun e W' ⟨he,bel⟩=>?_
 subst he;exact ⟨_,rfl,_,_,_,[],_,[],hW',trodAll_mk1 (shut_bool Try.underlying4 _),mg Try.laidOut bel (by kernel_rfl) hB,rfl,bel.frame _,fun h=>by cases h⟩
theorem detectRetained_holds:Rows.DetectRetainedSaid :=
 OpenClaim.holds_of_wide 13 Try.f13 rfl rfl rfl rfl rfl rfl rfl ⟨rfl,rfl,rfl,rfl,rfl⟩ rfl rfl rfl rfl rfl (by kernel_rfl) Try.func13 (by kernel_rfl)
  (of_decide_eq_true (by kernel_rfl)) (by unfold Func.isWrapper;first | (rw [if_pos (by decide +kernel)];kernel_rfl) | (rw [if_neg (by decide +kernel)];exact ⟨rfl,rfl⟩))
  (fun os started H enc _=>detectRetained_lifted os started H enc)
#print axioms detectRetained_holds
end Go.Proofs.Ytffcpijeebagfaa
end
