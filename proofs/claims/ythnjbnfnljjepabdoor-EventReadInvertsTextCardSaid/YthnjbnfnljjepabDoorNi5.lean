/- For every input EventReadInvertsText returns true, and what came in reads afterwards as it did; the library's listed variables hold what the program's text lays. No conditions. -/
import Derived.Test.YthnjbnfnljjepabDoorNi4
import Derived.Test.YthnjbnfnljjepabDoorRows
import Derived.Test.YthnjbnfnljjepabDoorTie
import Derived.Test.YthnjbnfnljjepabDoorCards
import Derived.ChangeSame
import Derived.ChangeMaps5
import Derived.RowKit
import Derived.RowKit3
import Derived.JoinedAt
import Derived.SevenTiedAt
set_option linter.unusedSimpArgs false
set_option linter.unusedVariables false
namespace Go.Proofs.YthnjbnfnljjepabDoor
open Go.ChangeShapes Go.WideShapes Go.ChangeAt Go.RowKit
set_option maxRecDepth 1000000
open Go.ChangeMaps (open_string shut_string)

theorem eventReadInvertsText_lifted (os : Os) (started : os.Started) (H : Type) (enc : TypeId × Value → H) :
    ReturnsInHanded {} Tryd.checked os 5 .any (fun w args => (Rows.eventReadInvertsTextSpec.pre enc Tryd.prog Tryd.f5 Rows.eventReadInvertsTextRow.domain false w args ∧ laidMet Tryd.prog laidL w) ∧ sizedMet enc Tryd.prog Tryd.f5 (OpenSpec.ofChange Rows.eventReadInvertsTextSpec) false w args)
      (Rows.eventReadInvertsTextSpec.post enc Tryd.prog Tryd.f5 false true false false) := by
  refine returnsInHanded_shaped (C := Tryd.checked) (X := fun w _ => laidMet Tryd.prog laidL w) (fun _ _ _ hh h => h.of_heap hh) Tryd.own started (by kernel_rfl) Tryd.func5
    (row_witness (enc := enc) os #[.agg #[.int .i64 0, .int .i64 0, .int .i64 0, .int .i64 0, .int .i64 0, .int .i64 0, .int .i64 0, .int .i64 0, .int .i64 0]] 8 (by kernel_rfl) (by kernel_rfl) (by kernel_rfl)) ?_
  intro W base args ds gs before hval0 hW _ hsz0 hL hshp
  have hval : ∀ (j : Nat) t v, Tryd.f5.params[j]? = some t → args[j]? = some v → Value.okWide Tryd.prog W .any base t v := hval0
  have hW' := hW
  obtain ⟨p, q, hA0, hV, rfl, hfz, hnd⟩ := hW
  have hA : DataW.TrodAll enc Tryd.prog W 0 (fun _ => true) true Tryd.f5.params.toList args.toList ds p := hA0
  have hB := hA
  have hdoor := door_of_laid hL hshp
  rw [Tryd.params5] at hA hval
  obtain ⟨v0, d0, rfl, rfl, h0⟩ := trodAll_one hA
  obtain ⟨rfl, rfl⟩ := trodVars_none hV
  obtain ⟨e0, rfl⟩ := open_ev (hval 0 23 v0 rfl rfl) h0
  clear hA0 hval0 hL hA hval
  have hR : R_linv [e0.pa] [pB true] := ⟨e0, rfl, rfl⟩
  have hlaw := s_linv.true (S := fun _ => 0) hR hdoor (RPs.mk1 ev_rp)
  refine hlaw.mono fun e W' ⟨he, bel⟩ => ?_
  subst he
  exact ⟨_, rfl, _, _, _, [], _, [], hW', trodAll_mk1 (shut_bool Tryd.underlying4 _), trodAll_below Tryd.laidOut bel (by kernel_rfl) hB, rfl, bel.frame _, fun h => by cases h⟩

theorem eventReadInvertsText_said : Rows.EventReadInvertsTextSaid :=
  OpenClaim.holds_of_wide 5 Tryd.f5 rfl rfl rfl rfl rfl rfl rfl ⟨rfl, rfl, rfl, rfl, rfl⟩ rfl rfl rfl rfl rfl (by kernel_rfl) Tryd.func5 (by kernel_rfl)
    (of_decide_eq_true (by kernel_rfl)) (by unfold Func.isWrapper; first | (rw [if_pos (by decide +kernel)]; kernel_rfl) | (rw [if_neg (by decide +kernel)]; exact ⟨rfl, rfl⟩))
    (fun os started H enc _ => eventReadInvertsText_lifted os started H enc)

theorem eventReadInvertsText_holds : Rows.EventReadInvertsTextCardSaid :=
  Claim7.holds_tied_plain_at .later [] [.data, .data, .data, .data, .sentinel, .sentinel, .data, .pinned] true Rows.eventReadInvertsTextCard.stood.harness true
    eventReadInvertsText_said (fun _ h => by cases h) (by kernel_rfl) (fun _ h => by cases h) eventReadInvertsText_row_tie rfl ⟨rfl, rfl⟩ (by kernel_rfl) rfl
    (fun f fn hf hfn => by
      obtain rfl : f = 5 := Option.some.inj ((show Tryd.prog.funcNamed Rows.eventReadInvertsTextRow.func = some 5 by kernel_rfl).symm.trans hf) |>.symm
      obtain rfl : fn = Tryd.f5 := (Option.some.inj (Tryd.func5.symm.trans hfn)).symm
      exact ⟨by kernel_rfl, fun j t ht => by
        rw [Tryd.params5] at ht
        have hall : ∀ t ∈ (#[23] : Array Nat), Tryd.prog.wantsStandIn t = false := by intro t ht; simp at ht; subst ht; kernel_rfl
        exact hall t (Array.mem_of_getElem? ht)⟩)
    (by kernel_rfl)
#print axioms eventReadInvertsText_holds
end Go.Proofs.YthnjbnfnljjepabDoor
