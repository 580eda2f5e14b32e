/- Regions in the order of the text, whole codes, functions. -/
import Derived.Test.YtkdagjlkejefnaaPj
set_option linter.unusedSimpArgs false
set_option linter.unusedVariables false
namespace Go.Proofs.Ytkdagjlkejefnaa
open Go Go.RowKit

section
variable {P : Program} {n : Nat} {w0 : World} {S0 : Nat → Nat}

theorem pi_ops {env : Env} (hE : EnvOK P env) {eqs : List (Nat × List Bool)} (heq : ∀ p, p ∈ eqs → EqT P p.1 p.2) {ops : Array Oper} {Q : Exit → Act → World → Prop} {K : St → Prop}
    (hK : ∀ s W a w, K s → Sim w0 S0 n W s a w → Q .normal a w) : ∀ (is : List PI) (k : Nat) (W : Wit) (s : St) (a : Act) (w : World), (ops.toList.drop k).map (compI P n eqs ops) = is.map some → Sim w0 S0 n W s a w → evalOps env is s K →
      wpOps P ops Q (List.range' k is.length) a w := by
  intro is
  induction is with
  | nil => intro k W s a w _ hs h; exact hK s W a w h hs
  | cons i is ih =>
    intro k W s a w hm hs h
    have hlt : k < ops.toList.length := by
      rcases Nat.lt_or_ge k ops.toList.length with h | h
      · exact h
      · rw [List.drop_eq_nil_of_le h] at hm; simp at hm
    rw [List.drop_eq_getElem_cons hlt] at hm
    simp only [List.map_cons, List.cons.injEq] at hm
    rw [List.length_cons, List.range'_succ, wpOps_cons]
    refine pi_wpOp hE heq (by simp) hm.1 hs h (fun v ch W' a' w' h1 h2 => ?_)
    exact ih (k + 1) W' _ a' w' hm.2 h2 h1

end
end Go.Proofs.Ytkdagjlkejefnaa
