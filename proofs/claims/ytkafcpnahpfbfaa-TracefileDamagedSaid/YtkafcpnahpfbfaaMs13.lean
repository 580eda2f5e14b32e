/- For every input TracefileDamaged returns true, and what came in reads afterwards as it did. No conditions. -/
import Derived.Test.YtkafcpnahpfbfaaMs12
import Derived.Test.YtkafcpnahpfbfaaRows
set_option linter.unusedSimpArgs false
set_option linter.unusedVariables false
section
namespace Go.Proofs.Ytkafcpnahpfbfaa
open Go.ChangeShapes Go.WideShapes Go.ChangeAt Go.RowKit
set_option maxRecDepth 100000 in
theorem tracefileDamaged_lifted (os:Os) (started:os.Started) (H:Type) (enc:TypeId×Value→H) :
 ReturnsInHanded {} Try.checked os 9 .any (Rows.tracefileDamagedSpec.pre6 enc Try.prog Try.f9 Rows.tracefileDamagedRow.domain false) (Rows.tracefileDamagedSpec.post enc Try.prog Try.f9 false true false false):=by
 refine returnsInHanded_of_change (C:=Try.checked) Try.own started (by kernel_rfl) Try.func9
  (ChangeSpec.witness6 (enc:=enc) (C:=Try.checked) false ⟨#[],#[.agg #[.slice none 0 0,.slice none 0 0,.slice none 0 0],.agg #[.int .i64 0,.int .i64 0],.int .u8 0],[]⟩ 8 (by kernel_rfl) (by kernel_rfl) (by kernel_rfl) (by kernel_rfl)) ?_
 intro W base args ds gs before hval0 hW hcnd _;have hval:∀ (j:Nat) t v,Try.f9.params[j]? = some t→args[j]? = some v→Value.okWide Try.prog W .any base t v:=hval0
 have hW':=hW;obtain ⟨p,q,hA0,hV,rfl,hfz,hnd⟩:=hW;have hA:DataW.TrodAll enc Try.prog W 0 (fun _=>true) true Try.f9.params.toList args.toList ds p:=hA0;have hB:=hA;rw [Try.params9] at hA hval;obtain ⟨v0,v1,v2,d0,d1,d2,p0,p1,p2,rfl,rfl,rfl,h0,h1,h2⟩:=trodAll_three hA;obtain ⟨rfl,rfl⟩:=trodVars_none hV;obtain ⟨l0,k0,b0,r0⟩:=D5 (hval 0 28 v0 rfl rfl) h0;have r0:=r0 _ BX;obtain ⟨x1,y1,b1,rfl⟩:=open_pair (hval 1 47 v1 rfl rfl) h1
 have r1:RP (World.cellsOf W) W (.agg [dI x1,dI y1]) (.agg #[.int .i64 x1,.int .i64 y1]):=RP.QZ (vs:=[.int .i64 x1,.int .i64 y1]) (fun u hu=>by simp at hu;rcases hu with rfl | rfl <;> rfl)
 obtain ⟨g2,b2,rfl⟩:=Ia (hval 2 5 v2 rfl rfl) h2;have r2:RP (World.cellsOf W) W (.one (.sc (.int .u8 (g2:Nat)))) (.int .u8 (g2:Nat)):=.sc _ rfl;clear hA0 hval0;have hR:Pz [iA l0 k0,.agg [dI x1,dI y1],.one (.sc (.int .u8 (g2:Nat)))] [pB true]:=⟨l0,k0,x1,y1,g2,rfl,⟨b0,b1,b2⟩,rfl⟩;have hlaw:=TD.true hR trivial (RPs.mk3 r0 r1 r2);clear hR hA hval r0 h0 r1 h1 r2 h2;refine hlaw.mono fun e W' ⟨he,bel⟩=>?_
 subst he;exact ⟨_,rfl,_,_,_,[],_,[],hW',trodAll_mk1 (shut_bool Try.underlying4 _),oM Try.laidOut bel (by kernel_rfl) hB,rfl,bel.frame _,fun h=>by cases h⟩
theorem tracefileDamaged_holds:Rows.TracefileDamagedSaid :=
 OpenClaim.holds_of_wide 9 Try.f9 rfl rfl rfl rfl rfl rfl rfl ⟨rfl,rfl,rfl,rfl,rfl⟩ rfl rfl rfl rfl rfl (by kernel_rfl) Try.func9 (by kernel_rfl)
  (of_decide_eq_true (by kernel_rfl)) (by unfold Func.isWrapper;first | (rw [if_pos (by decide +kernel)];kernel_rfl) | (rw [if_neg (by decide +kernel)];exact ⟨rfl,rfl⟩))
  (fun os started H enc _=>tracefileDamaged_lifted os started H enc)
#print axioms tracefileDamaged_holds
end Go.Proofs.Ytkafcpnahpfbfaa
end
