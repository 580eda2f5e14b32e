/- For every input DetectRaces returns true, and what came in reads afterwards as it did. No conditions. -/
import Derived.Test.YtffcpijeebagfaaMk10
import Derived.Test.YtffcpijeebagfaaRows
set_option linter.unusedSimpArgs false
set_option linter.unusedVariables false
section
namespace Go.Proofs.Ytffcpijeebagfaa
open Go.ChangeShapes Go.WideShapes Go.ChangeAt Go.RowKit
set_option maxRecDepth 100000 in
theorem detectRaces_lifted (os:Os) (started:os.Started) (H:Type) (enc:TypeId×Value→H) :
 ReturnsInHanded {} Try.checked os 15 .any (Rows.detectRacesSpec.pre6 enc Try.prog Try.f15 Rows.detectRacesRow.domain false) (Rows.detectRacesSpec.post enc Try.prog Try.f15 false true false false):=by
 refine returnsInHanded_of_change (C:=Try.checked) Try.own started (by kernel_rfl) Try.func15
  (ChangeSpec.witness6 (enc:=enc) (C:=Try.checked) false ⟨#[],#[.slice none 0 0],[]⟩ 8 (by kernel_rfl) (by kernel_rfl) (by kernel_rfl) (by kernel_rfl)) ?_
 intro W base args ds gs before hval0 hW hcnd _;have hval:∀ (j:Nat) t v,Try.f15.params[j]? = some t→args[j]? = some v→Value.okWide Try.prog W .any base t v:=hval0
 have hW':=hW;obtain ⟨p,q,hA0,hV,rfl,hfz,hnd⟩:=hW;have hA:DataW.TrodAll enc Try.prog W 0 (fun _=>true) true Try.f15.params.toList args.toList ds p:=hA0;have hB:=hA;rw [Try.params15] at hA hval;obtain ⟨v0,d0,rfl,rfl,h0⟩:=trodAll_one hA;obtain ⟨rfl,rfl⟩:=trodVars_none hV;obtain ⟨l0,hl0,_⟩:=lQ (hval 0 22 v0 rfl rfl) h0;clear hA0 hval0;have r0:RP (World.cellsOf W) W (fH l0) v0:=zV.rd hl0 ny;have hR:Gg [fH l0] [pB true]:=⟨l0,rfl,(by obtain ⟨A,c,_,h1,h2,_⟩:=hl0;omega),rfl⟩
 have hlaw:=(SL NV).true hR trivial (RPs.mk1 r0);clear hR hA hval r0 hl0 h0;refine hlaw.mono fun e W' ⟨he,bel⟩=>?_
 subst he;exact ⟨_,rfl,_,_,_,[],_,[],hW',trodAll_mk1 (shut_bool Try.underlying4 _),jg Try.laidOut bel (by kernel_rfl) hB,rfl,bel.frame _,fun h=>by cases h⟩
theorem detectRaces_holds:Rows.DetectRacesSaid :=
 OpenClaim.holds_of_wide 15 Try.f15 rfl rfl rfl rfl rfl rfl rfl ⟨rfl,rfl,rfl,rfl,rfl⟩ rfl rfl rfl rfl rfl (by kernel_rfl) Try.func15 (by kernel_rfl)
  (of_decide_eq_true (by kernel_rfl)) (by unfold Func.isWrapper;first | (rw [if_pos (by decide +kernel)];kernel_rfl) | (rw [if_neg (by decide +kernel)];exact ⟨rfl,rfl⟩))
  (fun os started H enc _=>detectRaces_lifted os started H enc)
#print axioms detectRaces_holds
end Go.Proofs.Ytffcpijeebagfaa
end
