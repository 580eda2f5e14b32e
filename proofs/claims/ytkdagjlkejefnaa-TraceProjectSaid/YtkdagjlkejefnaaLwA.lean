/- The first statement of the laws on traces: awake. -/
import Derived.Test.YtkdagjlkejefnaaTrF
namespace Go.Proofs.Ytkdagjlkejefnaa
open Go.RowKit

theorem flat_at (l : List Ev) (i : Nat) (e : Ev) (h : l[i]? = some e) (j : Nat) (x : Value) (hx : e.cells[j]? = some x) : (l.flatMap Ev.cells)[i * 9 + j]? = some x := by
  have hlen : ∀ e : Ev, e.cells.length = 9 := fun _ => rfl
  have hj : j < 9 := by rw [← hlen e]; exact (List.getElem?_eq_some_iff.1 hx).1
  induction l generalizing i with
  | nil => cases h
  | cons a l ih =>
    rw [List.flatMap_cons]
    cases i with
    | zero =>
      simp at h; subst h
      rw [List.getElem?_append_left (by rw [hlen]; omega)]
      simpa using hx
    | succ i =>
      rw [List.getElem?_append_right (by rw [hlen]; omega), hlen, show (i + 1) * 9 + j - 9 = i * 9 + j by omega]
      exact ih i (by simpa using h)

theorem EvAt.lit {w : World} {b : Nat} {t : TypeId} {fr : Nat × Nat} {cs : Array Value} (l : List Ev) (h : w.heap[b]? = some (.cells cs t fr)) (hcs : cs.toList = l.flatMap Ev.cells) (hl : l.length ≤ 1000) : EvAt w (.slice (some ⟨b, 0, none⟩) l.length l.length) l := by
  refine ⟨_, _, rfl, Nat.le_refl _, by omega, fun _ => ⟨b, 0, rfl, fun i e hi j x hx => ?_⟩⟩
  rw [cell_of_row w b _ _ _ _ h, Nat.zero_add]
  have := flat_at l i e hi j x hx
  rw [← hcs] at this
  simpa using this

theorem EvAt.take {w : World} {A : Option Addr} {n c : Nat} {l : List Ev} (h : EvAt w (.slice A n c) l) {k : Nat} (hk : k ≤ l.length) : EvAt w (.slice A k c) (l.take k) := by
  obtain ⟨A', c', h1, h2, h3, h4⟩ := h
  simp only [Value.slice.injEq] at h1
  obtain ⟨rfl, rfl, rfl⟩ := h1
  have hlen : (l.take k).length = k := by simp; omega
  refine ⟨A, c, by rw [hlen], by rw [hlen]; omega, h3, fun hn => ?_⟩
  rw [hlen] at hn
  obtain ⟨b, o, hA, hc⟩ := h4 (by omega)
  refine ⟨b, o, hA, fun i e hi j x hx => hc i e ?_ j x hx⟩
  rw [List.getElem?_take] at hi
  split at hi
  · exact hi
  · cases hi

def evL1 : List Ev := [⟨0, 14, 0, 0, 1, 0, 0, 0, 0⟩, ⟨0, 15, 5, 0, 0, 0, 0, 0, 0⟩, ⟨1, 17, 5, 0, 0, 0, 0, 0, 0⟩, ⟨1, 18, 5, 0, 0, 0, 0, 0, 0⟩, ⟨0, 16, 5, 0, 0, 0, 0, 0, 0⟩]
def evL2 : List Ev := [⟨0, 6, 1, 0, 0, 0, 0, 0, 0⟩, ⟨0, 6, 1, 0, 0, 0, 0, 0, 0⟩]
def evL3 : List Ev := [⟨0, 17, 5, 0, 0, 1, 0, 0, 0⟩]
theorem chkL1 : chk evL1 = 5 := by decide
theorem chkL2 : chk evL2 = 1 := by decide
theorem chkL3 : chk evL3 = 0 := by decide
theorem wholeL1 : wholeOf (evL1.take 3) = 1 := by decide

set_option maxRecDepth 100000 in
set_option maxHeartbeats 4000000 in
theorem awake_any (w : World) : Calls Try.prog 12 #[] w fun r w' => r = .returned (.bool true) ∧ Below w.heap.size w w' := by
  have hC2 : ∀ (w : World) (v : Value), EvAt w v evL2 → Calls Try.prog 13 #[v] w fun r w' => r = .returned (.tuple #[.int .i64 1, .bool false]) ∧ Below w.heap.size w w' := fun w v h => by
    have := check_any w v evL2 h (by decide)
    unfold CheckPost at this; rw [chkL2] at this; exact this
  have hC3 : ∀ (w : World) (v : Value), EvAt w v evL3 → Calls Try.prog 13 #[v] w fun r w' => r = .returned (.tuple #[.int .i64 0, .bool false]) ∧ Below w.heap.size w w' := fun w v h => by
    have := check_any w v evL3 h (by decide)
    unfold CheckPost at this; rw [chkL3] at this; exact this
  have hV : ∀ (w : World) (v : Value), EvAt w v evL1 → Calls Try.prog 15 #[v] w fun r w' => r = .returned (.bool true) ∧ Below w.heap.size w w' := fun w v h => by
    have := valid_any w v evL1 h (by decide)
    rw [chkL1] at this; exact this
  have hW : ∀ (w : World) (v : Value), EvAt w v (evL1.take 3) → Calls Try.prog 17 #[v] w fun r w' => r = .returned (.int .i64 1) ∧ Below w.heap.size w w' := fun w v h => by
    have := whole_any w v (evL1.take 3) h (by decide)
    rw [wholeL1] at this; exact this
  have HC2 := Lib.hid hC2; clear hC2
  have HC3 := Lib.hid hC3; clear hC3
  have HV := Lib.hid hV; clear hV
  have HW := Lib.hid hW; clear hW
  go_enter Try.func12, Try.ntmps12
  go_upto_region 2 with fail
  generalize hX : World.alloc w _ = W1
  have ha1 : EvAt W1 (.slice (some ⟨w.heap.size, 0, none⟩) 5 5) evL1 := by rw [← hX]; exact EvAt.lit evL1 (heap_alloc_new w _) rfl (by decide)
  have hb1 : Below w.heap.size w W1 := by rw [← hX]; exact (Below.refl _ _).alloc (Nat.le_refl _) _
  clear hX
  have HA1 := Lib.hid ha1; clear ha1
  have HB1 := Lib.hid hb1; clear hb1
  go_wp2_with fail
  refine (HC2.out _ _ (EvAt.lit evL2 (heap_alloc_new _ _) rfl (by decide))).mono ?_
  rintro r w2 ⟨rfl, hb2⟩
  have hb2' : Below W1.heap.size W1 w2 := ((Below.refl _ _).alloc (Nat.le_refl _) _).trans (hb2.mono (by simp))
  have HB2 := Lib.hid hb2'; clear hb2 hb2'
  go_wp2_with fail
  refine (HC3.out _ _ (EvAt.lit evL3 (heap_alloc_new _ _) rfl (by decide))).mono ?_
  rintro r w3 ⟨rfl, hb3⟩
  have hb3' : Below W1.heap.size W1 w3 := HB2.out.trans (((Below.refl _ _).alloc HB2.out.size _).trans (hb3.mono (by have := HB2.out.size; simp; omega)))
  have HB3 := Lib.hid hb3'; clear hb3 hb3'
  go_wp2_with fail
  refine (HV.out _ _ (HA1.out.keep HB3.out)).mono ?_
  rintro r w4 ⟨rfl, hb4⟩
  have hb4' : Below W1.heap.size W1 w4 := HB3.out.trans (hb4.mono HB3.out.size)
  have HB4 := Lib.hid hb4'; clear hb4 hb4'
  go_wp2_with fail
  refine (HW.out _ _ ((HA1.out.keep HB4.out).take (k := 3) (by decide))).mono ?_
  rintro r w5 ⟨rfl, hb5⟩
  have hb5' : Below w.heap.size w w5 := HB1.out.trans ((HB4.out.trans (hb5.mono HB4.out.size)).mono HB1.out.size)
  have HB5 := Lib.hid hb5'; clear hb5 hb5'
  go_wp2
  go_ret
  exact ⟨rfl, HB5.out⟩
end Go.Proofs.Ytkdagjlkejefnaa
