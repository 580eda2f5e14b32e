/- The walks of package event's tests: isKind, numbered, Channel, Memory, Valid. -/
import Derived.Test.YtkdagjlkejefnaaRows
import Derived.Test.YtkdagjlkejefnaaKit
import Derived.WalkKit
import Derived.WalkSpells
import Derived.Outline
import Derived.Handy
import Derived.Deep.Light
import Derived.Lib.Hide
namespace Go.Proofs.Ytkdagjlkejefnaa
open Go.RowKit

theorem ret_bool {a b : Bool} (h : a = b) : Ending.returned (.bool a) = .returned (.bool b) := by rw [h]
theorem ret_int {a b : Int} (h : a = b) : Ending.returned (.int .i64 a) = .returned (.int .i64 b) := by rw [h]

theorem numbered_any (k : Int) (w : World) : Calls Try.prog 65 #[.int .i64 k] w fun e w' => e = .returned (.bool (numberedB k)) ∧ w = w' := by
  go_enter Try.func65, Try.ntmps65
  go_wp2
  all_goals (go_ret; refine ⟨ret_bool ?_, rfl⟩; simp [numberedB]; omega)
theorem isKind_any (k : Int) (w : World) : Calls Try.prog 64 #[.int .i64 k] w fun e w' => e = .returned (.bool (isKindB k)) ∧ w = w' := by
  go_enter Try.func64, Try.ntmps64
  go_wp2
  all_goals (go_ret; refine ⟨ret_bool ?_, rfl⟩; simp [isKindB]; omega)
theorem channel_any (k : Int) (w : World) : Calls Try.prog 44 #[.int .i64 k] w fun e w' => e = .returned (.bool (chanB k)) ∧ w = w' := by
  go_enter Try.func44, Try.ntmps44
  go_wp2_with ((go_at_call 65; refine (numbered_any _ _).mono ?_; rintro e w' ⟨rfl, rfl⟩))
  all_goals (go_ret; refine ⟨ret_bool ?_, rfl⟩; unfold numberedB at *; unfold chanB; simp only [decide_eq_true_eq] at *; rw [Bool.eq_iff_iff]; simp; omega)
theorem memory_any (k : Int) (w : World) : Calls Try.prog 49 #[.int .i64 k] w fun e w' => e = .returned (.bool (memB k)) ∧ w = w' := by
  go_enter Try.func49, Try.ntmps49
  go_wp2
  all_goals (go_ret; refine ⟨ret_bool ?_, rfl⟩; unfold memB; rw [Bool.eq_iff_iff]; simp; try omega)

theorem idx7 (x0 x1 x2 x3 x4 x5 x6 : Value) :
    (∀ w, (Instr.index 92 (.agg #[x0, x1, x2, x3, x4, x5, x6]) (.int .i64 0)).run Try.prog w = .ok x0 w) ∧ (∀ w, (Instr.index 92 (.agg #[x0, x1, x2, x3, x4, x5, x6]) (.int .i64 1)).run Try.prog w = .ok x1 w) ∧
    (∀ w, (Instr.index 92 (.agg #[x0, x1, x2, x3, x4, x5, x6]) (.int .i64 2)).run Try.prog w = .ok x2 w) ∧ (∀ w, (Instr.index 92 (.agg #[x0, x1, x2, x3, x4, x5, x6]) (.int .i64 3)).run Try.prog w = .ok x3 w) ∧
    (∀ w, (Instr.index 92 (.agg #[x0, x1, x2, x3, x4, x5, x6]) (.int .i64 4)).run Try.prog w = .ok x4 w) ∧ (∀ w, (Instr.index 92 (.agg #[x0, x1, x2, x3, x4, x5, x6]) (.int .i64 5)).run Try.prog w = .ok x5 w) ∧
    (∀ w, (Instr.index 92 (.agg #[x0, x1, x2, x3, x4, x5, x6]) (.int .i64 6)).run Try.prog w = .ok x6 w) :=
  ⟨fun _ => by kernel_rfl, fun _ => by kernel_rfl, fun _ => by kernel_rfl, fun _ => by kernel_rfl, fun _ => by kernel_rfl, fun _ => by kernel_rfl, fun _ => by kernel_rfl⟩

set_option maxHeartbeats 4000000 in
set_option maxRecDepth 100000 in
theorem evalid_any (e : Ev) (w : World) : Calls Try.prog 42 #[e.val] w fun r w' => r = .returned (.bool e.valid) ∧ Below w.heap.size w w' := by
  obtain ⟨g, kind, obj, off, k, n, fn, pc, stack⟩ := e
  unfold Ev.val
  obtain ⟨i0, i1, i2, i3, i4, i5, i6⟩ := idx7 (.int .i64 obj) (.int .i64 off) (.int .i64 k) (.int .i64 n) (.int .i64 fn) (.int .i64 pc) (.int .i64 stack)
  go_enter Try.func42, Try.ntmps42
  go_wp2_with (first | (go_at_call 64; refine (isKind_any _ _).mono ?_; rintro e w' ⟨rfl, rfl⟩))
  all_goals try (refine wp_loop_rounds 8 ?_)
  all_goals try (repeat any_goals (rw [rounds_succ]; go_wp2_with (first | (go_at_call 65; refine (numbered_any _ _).mono ?_; rintro e w' ⟨rfl, rfl⟩) | (go_at_call 44; refine (channel_any _ _).mono ?_; rintro e w' ⟨rfl, rfl⟩))))
  all_goals (go_ret; refine ⟨ret_bool ?_, (Below.refl _ _).alloc (Nat.le_refl _) _⟩)
  all_goals (simp only [isKindB, chanB, numberedB, decide_eq_true_eq, beq_iff_eq, beq_eq_false_iff_ne, ne_eq, decide_eq_false_iff_not] at *)
  all_goals (unfold Ev.valid Ev.rest; rw [Bool.eq_iff_iff]; simp only [isKindB, rangeB, Bool.and_eq_true, decide_eq_true_eq, Bool.ite_eq_true_distrib, Bool.false_eq_true, false_iff, true_iff, beq_iff_eq, Bool.or_eq_true])
  all_goals clear i0 i1 i2 i3 i4 i5 i6
  all_goals go_light
  all_goals first | omega | (split <;> omega) | (split <;> first | omega | (split <;> omega)) | (split <;> first | omega | (split <;> first | omega | (split <;> omega)))
end Go.Proofs.Ytkdagjlkejefnaa
