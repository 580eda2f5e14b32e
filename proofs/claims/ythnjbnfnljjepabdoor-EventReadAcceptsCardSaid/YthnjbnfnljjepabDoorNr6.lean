/- For every input EventReadAccepts returns true, and what came in reads afterwards as it did; the library's listed variables hold what the program's text lays. No conditions. -/
import Derived.Test.YthnjbnfnljjepabDoorNr5
import Derived.Test.YthnjbnfnljjepabDoorRows
import Derived.Test.YthnjbnfnljjepabDoorTie
import Derived.Test.YthnjbnfnljjepabDoorCards
import Derived.ChangeSame
import Derived.ChangeMaps5
import Derived.RowKit
import Derived.RowKit3
import Derived.JoinedAt
import Derived.SevenTiedAt
set_option linter.unusedSimpArgs false
set_option linter.unusedVariables false
namespace Go.Proofs.YthnjbnfnljjepabDoor
open Go.ChangeShapes Go.WideShapes Go.ChangeAt Go.RowKit
set_option maxRecDepth 1000000
open Go.ChangeMaps (open_string shut_string)

theorem eventReadAccepts_lifted (os : Os) (started : os.Started) (H : Type) (enc : TypeId × Value → H) :
    ReturnsInHanded {} Tryd.checked os 6 .any (fun w args => (Rows.eventReadAcceptsSpec.pre enc Tryd.prog Tryd.f6 Rows.eventReadAcceptsRow.domain false w args ∧ laidMet Tryd.prog laidL w) ∧ sizedMet enc Tryd.prog Tryd.f6 (OpenSpec.ofChange Rows.eventReadAcceptsSpec) false w args)
      (Rows.eventReadAcceptsSpec.post enc Tryd.prog Tryd.f6 false true false false) := by
  refine returnsInHanded_shaped (C := Tryd.checked) (X := fun w _ => laidMet Tryd.prog laidL w) (fun _ _ _ hh h => h.of_heap hh) Tryd.own started (by kernel_rfl) Tryd.func6
    (row_witness (enc := enc) os #[.string ⟨#[]⟩] 8 (by kernel_rfl) (by kernel_rfl) (by kernel_rfl)) ?_
  intro W base args ds gs before hval0 hW _ hsz0 hL hshp
  have hval : ∀ (j : Nat) t v, Tryd.f6.params[j]? = some t → args[j]? = some v → Value.okWide Tryd.prog W .any base t v := hval0
  have hW' := hW
  obtain ⟨p, q, hA0, hV, rfl, hfz, hnd⟩ := hW
  have hA : DataW.TrodAll enc Tryd.prog W 0 (fun _ => true) true Tryd.f6.params.toList args.toList ds p := hA0
  have hB := hA
  have hdoor := door_of_laid hL hshp
  rw [Tryd.params6] at hA hval
  obtain ⟨v0, d0, rfl, rfl, h0⟩ := trodAll_one hA
  obtain ⟨rfl, rfl⟩ := trodVars_none hV
  obtain ⟨s0, rfl, rfl, rfl, w0⟩ := open_string Tryd.underlying9 (hval 0 9 v0 rfl rfl) h0
  clear hA0 hval0 hL hA hval
  have hR : R_laccepts [pS s0] [pB true] := ⟨s0, rfl, rfl⟩
  have hlaw := s_laccepts.true (S := fun _ => 0) hR hdoor (RPs.mk1 (.sc _ rfl))
  refine hlaw.mono fun e W' ⟨he, bel⟩ => ?_
  subst he
  exact ⟨_, rfl, _, _, _, [], _, [], hW', trodAll_mk1 (shut_bool Tryd.underlying4 _), trodAll_below Tryd.laidOut bel (by kernel_rfl) hB, rfl, bel.frame _, fun h => by cases h⟩

theorem eventReadAccepts_said : Rows.EventReadAcceptsSaid :=
  OpenClaim.holds_of_wide 6 Tryd.f6 rfl rfl rfl rfl rfl rfl rfl ⟨rfl, rfl, rfl, rfl, rfl⟩ rfl rfl rfl rfl rfl (by kernel_rfl) Tryd.func6 (by kernel_rfl)
    (of_decide_eq_true (by kernel_rfl)) (by unfold Func.isWrapper; first | (rw [if_pos (by decide +kernel)]; kernel_rfl) | (rw [if_neg (by decide +kernel)]; exact ⟨rfl, rfl⟩))
    (fun os started H enc _ => eventReadAccepts_lifted os started H enc)

theorem eventReadAccepts_holds : Rows.EventReadAcceptsCardSaid :=
  Claim7.holds_tied_plain_at .later [] [.data, .data, .data, .data, .sentinel, .sentinel, .data, .pinned] true Rows.eventReadAcceptsCard.stood.harness true
    eventReadAccepts_said (fun _ h => by cases h) (by kernel_rfl) (fun _ h => by cases h) eventReadAccepts_row_tie rfl ⟨rfl, rfl⟩ (by kernel_rfl) rfl
    (fun f fn hf hfn => by
      obtain rfl : f = 6 := Option.some.inj ((show Tryd.prog.funcNamed Rows.eventReadAcceptsRow.func = some 6 by kernel_rfl).symm.trans hf) |>.symm
      obtain rfl : fn = Tryd.f6 := (Option.some.inj (Tryd.func6.symm.trans hfn)).symm
      exact ⟨by kernel_rfl, fun j t ht => by
        rw [Tryd.params6] at ht
        have hall : ∀ t ∈ (#[9] : Array Nat), Tryd.prog.wantsStandIn t = false := by intro t ht; simp at ht; subst ht; kernel_rfl
        exact hall t (Array.mem_of_getElem? ht)⟩)
    (by kernel_rfl)
#print axioms eventReadAccepts_holds
end Go.Proofs.YthnjbnfnljjepabDoor
