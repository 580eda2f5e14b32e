/- One start that fits a row of this seat. -/
import Derived.Test.YthnjbnfnljjepaaDoorMl3
import Derived.ChangeSame
import Derived.LaidLaws
section
set_option linter.unusedSimpArgs false
set_option linter.unusedVariables false
namespace Go.Proofs.YthnjbnfnljjepaaDoor
open Go Go.RowKit

set_option maxRecDepth 100000
theorem laid_vars (os : Os) (args : Array Value) : ((laidWorld os).forCall (fun _ _ => 0) ⟨#[], args, []⟩).variablesRefB Tryd.checked.prog = true := by kernel_rfl
theorem laid_rest (os : Os) (args : Array Value) : (((laidWorld os).forCall (fun _ _ => 0) ⟨#[], args, []⟩).heap.toList.drop Tryd.checked.prog.globals.size).take ((begin Tryd.checked.prog (fun _ _ => 0) default).world.heap.size - Tryd.checked.prog.globals.size) =
      (begin Tryd.checked.prog (fun _ _ => 0) default).world.heap.toList.drop Tryd.checked.prog.globals.size := by kernel_rfl
theorem row_witness {H : Type} {enc : TypeId × Value → H} (os : Os) {f : FuncId} {fn : Func} {s : ChangeSpec} {conds : List PathCond} (args : Array Value) (fuel : Nat)
    (hok : Input.okWideB Tryd.checked.prog ((laidWorld os).forCall (fun _ _ => 0) ⟨#[], args, []⟩) f ⟨#[], args, []⟩ = true)
    (hpre : s.preB enc Tryd.checked.prog fn conds false ((laidWorld os).forCall (fun _ _ => 0) ⟨#[], args, []⟩).memory args fuel = true)
    (hsz : s.sizedB enc Tryd.checked.prog fn false ((laidWorld os).forCall (fun _ _ => 0) ⟨#[], args, []⟩).memory args fuel = true) :
    ∃ (w : World) (tape : Tape) (i : Input), w.os = os ∧ (w.forCall tape i).Shaped Tryd.checked.prog ∧ i.vars = [] ∧ Input.okWide Tryd.checked.prog (w.forCall tape i) .any w.heap.size f i ∧
      ((s.pre enc Tryd.checked.prog fn conds false (w.forCall tape i).memory i.args ∧ laidMet Tryd.prog laidL (w.forCall tape i).memory) ∧ sizedMet enc Tryd.checked.prog fn (OpenSpec.ofChange s) false (w.forCall tape i).memory i.args) ∧ ({ modest := false } : Assume).holds Tryd.checked.prog (lone (Frame.enter Tryd.checked.prog f i.args .normal) [] (w.forCall tape i)) :=
  ⟨laidWorld os, fun _ _ => 0, ⟨#[], args, []⟩, rfl, World.shaped_of_RefB (laid_vars os args) (laid_rest os args), (Input.okWide_of_okWideB (base := 0) hok).1, (Input.okWide_of_okWideB hok).2, ⟨⟨ChangeSpec.pre_of_preB hpre, laid_met os args⟩, sizedMet_of_sizedB hsz⟩, by
    simp only [Assume.holds]
    exact ⟨by simp, by simp, fun _ => Modest.zero, by simp, by simp⟩⟩
end Go.Proofs.YthnjbnfnljjepaaDoor
end
section
set_option linter.unusedSimpArgs false
set_option linter.unusedVariables false
namespace Go.Proofs.YthnjbnfnljjepaaDoor
open Go.ChangeShapes Go.WideShapes Go.ChangeAt Go.RowKit
set_option maxRecDepth 1000000

theorem okWide_clock {W : World} {r : Reach} {b : Nat} {v : Value} (h : Value.okWide Tryd.prog W r b 23 v) : ∃ xs : Array Value, v = .agg xs ∧ xs.size = 8 := by
  simp only [Value.okWide, Tryd.underlying23] at h
  obtain ⟨cs, h1, h2, _⟩ := h
  exact ⟨cs, h1, h2.trans (by kernel_rfl)⟩
theorem ck_rp {S : Nat → Nat} {W : World} {c : Ck} : RP S W (ckPa c) (.agg (c.map (Value.int .i64)).toArray) := by
  have h : ckPa c = .agg ((c.map (Value.int .i64)).map Dt.sc) := by unfold ckPa ckRow; rw [List.map_map]; rfl
  rw [h]
  exact RP.mkFlat (fun u hu => by obtain ⟨x, _, rfl⟩ := List.mem_map.1 hu; rfl)

end Go.Proofs.YthnjbnfnljjepaaDoor
end
