/- For every list of events, every number and every address TraceProject returns true, and all three read afterwards as they did. No conditions. -/
import Derived.Test.YtkdagjlkejefnaaSpc
import Derived.Test.YtkdagjlkejefnaaLift
import Derived.Test.YtkdagjlkejefnaaRows
set_option linter.unusedSimpArgs false
set_option linter.unusedVariables false
namespace Go.Proofs.Ytkdagjlkejefnaa
open Go.ChangeShapes Go.WideShapes Go.ChangeAt Go.RowKit

set_option maxRecDepth 100000 in
theorem traceProject_lifted (os : Os) (started : os.Started) (H : Type) (enc : TypeId × Value → H) :
    ReturnsInHanded {} Try.checked os 10 .any (Rows.traceProjectSpec.pre6 enc Try.prog Try.f10 Rows.traceProjectRow.domain false) (Rows.traceProjectSpec.post enc Try.prog Try.f10 false true false false) := by
  refine returnsInHanded_of_change (C := Try.checked) Try.own started (by kernel_rfl) Try.func10
    (ChangeSpec.witness6 (enc := enc) (C := Try.checked) false ⟨#[], #[.slice none 0 0, .int .i64 0, .agg #[.int .i64 0, .int .i64 0]], []⟩ 8 (by kernel_rfl) (by kernel_rfl) (by kernel_rfl) (by kernel_rfl)) ?_
  intro W base args ds gs before hval0 hW hcnd _
  have hval : ∀ (j : Nat) t v, Try.f10.params[j]? = some t → args[j]? = some v → Value.okWide Try.prog W .any base t v := hval0
  have hW' := hW
  obtain ⟨p, q, hA0, hV, rfl, hfz, hnd⟩ := hW
  have hA : DataW.TrodAll enc Try.prog W 0 (fun _ => true) true Try.f10.params.toList args.toList ds p := hA0
  have hB := hA
  rw [Try.params10] at hA hval
  obtain ⟨v0, v1, v2, d0, d1, d2, p0, p1, p2, rfl, rfl, rfl, h0, h1, h2⟩ := trodAll_three hA
  obtain ⟨rfl, rfl⟩ := trodVars_none hV
  obtain ⟨l, hl, _⟩ := open_events (hval 0 22 v0 rfl rfl) h0
  obtain ⟨g, rfl, rfl, rfl, w1⟩ := open_int Try.underlying3 (hval 1 3 v1 rfl rfl) h1
  obtain ⟨xs, hxs, rfl, _⟩ := open_flat Try.underlying48 (by kernel_rfl) (by kernel_rfl) Try.underlying3 (by kernel_rfl) (n := 2) rfl (hval 2 48 v2 rfl rfl) h2
  obtain ⟨x, y, rfl⟩ := list_two hxs
  clear hA0 hval0
  have r0 : RP (World.cellsOf W) W (evsPa l) v0 := EvAt.rd hl cellsOf_lt
  have r1 : RP (World.cellsOf W) W (pI g) (.int .i64 g) := RP.mkInt g
  have r2 : RP (World.cellsOf W) W (locPa x y) (.agg #[.int .i64 x, .int .i64 y]) := RP.mkFlat (vs := [.int .i64 x, .int .i64 y]) (by intro u hu; simp at hu; rcases hu with rfl | rfl <;> rfl)
  have hR : R_tproject [evsPa l, pI g, locPa x y] [pB true] := ⟨l, g, x, y, rfl, rfl⟩
  have hlaw := s_tproject.true hR (RPs.mk3 r0 r1 r2)
  clear hl r0 r1 r2 hR h0 h1 h2 hA hval w1
  refine hlaw.mono fun e W' ⟨he, bel⟩ => ?_
  subst he
  exact ⟨_, rfl, _, _, _, [], _, [], hW', trodAll_mk1 (shut_bool Try.underlying4 _), trodAll_below Try.laidOut bel (by kernel_rfl) hB, rfl, bel.frame _, fun h => by cases h⟩

theorem traceProject_holds : Rows.TraceProjectSaid :=
  OpenClaim.holds_of_wide 10 Try.f10 rfl rfl rfl rfl rfl rfl rfl ⟨rfl, rfl, rfl, rfl, rfl⟩ rfl rfl rfl rfl rfl (by kernel_rfl) Try.func10 (by kernel_rfl)
    (of_decide_eq_true (by kernel_rfl)) (by unfold Func.isWrapper; first | (rw [if_pos (by decide +kernel)]; kernel_rfl) | (rw [if_neg (by decide +kernel)]; exact ⟨rfl, rfl⟩))
    (fun os started H enc _ => traceProject_lifted os started H enc)
#print axioms traceProject_holds
end Go.Proofs.Ytkdagjlkejefnaa
