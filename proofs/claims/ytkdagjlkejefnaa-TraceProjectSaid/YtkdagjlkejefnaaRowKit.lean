/- A list of events as an argument of a row. -/
import Derived.Test.YtkdagjlkejefnaaTrF
import Derived.ProofKit
import Derived.Deep.Slices
import Derived.Deep.Fields
import Derived.ChangeSame
set_option linter.unusedSimpArgs false
set_option linter.unusedVariables false
namespace Go.Proofs.Ytkdagjlkejefnaa
open Go.RowKit Go.WideShapes Go.ChangeShapes Go.Deep

section
variable {H : Type} {enc : TypeId × Value → H} {P : Program} {w : World} {base : Nat} {spare : Nat → Bool} {held : Bool}
theorem open_slice_fields {t e : TypeId} {fs : Array Field} {fuel : Nat} {cs : List Value} {x : DataW H × List MemPlace} (ht : P.underlying t = some (.slice e)) (he : P.underlying e = some (.struct fs))
    (hone : oneCellFields P fs = true) (hC : P.cellsOf e = fs.size) (h : DataW.trod enc P w base spare held fuel t cs = some x) :
    (cs = [.slice none 0 0] ∧ x = (.nil, [])) ∨
    ∃ (a : Addr) (len cap m : Nat) (D : Nat → DataW H) (Pl : Nat → List MemPlace), cs = [.slice (some a) len cap] ∧ base ≤ a.block ∧ len ≤ cap ∧ cap ≤ maxLen ∧ m = (if spare a.block then cap else len) ∧
      x = (.slice ((List.range len).map D) ((List.range (m - len)).map fun j => D (len + j)), MemPlace.row a (m * fs.size) ++ (List.range m).flatMap Pl) ∧
      ∀ i, i < m → ∃ (ys : List (DataW H × List MemPlace)) (n : Nat), D i = .agg (ys.map (·.1)) ∧ Pl i = ys.flatMap (·.2) ∧ ys.length = fs.size ∧
        ∀ (j : Nat) (f : Field), fs[j]? = some f → ∃ (v : Value) (y : DataW H × List MemPlace), w.cell? (a.add (i * fs.size + j)) = some v ∧ ys[j]? = some y ∧ DataW.trod enc P w base spare held n f.type [v] = some y := by
  rcases open_slice ht h with h0 | ⟨a, len, cap, m, n, D, Pl, hcs, hb, hl, hm, hmm, hx, hi⟩
  · exact .inl h0
  · refine .inr ⟨a, len, cap, m, D, Pl, hcs, hb, hl, hm, hmm, by rw [hC] at hx; exact hx, fun i him => ?_⟩
    obtain ⟨cs', hc, ht'⟩ := hi i him
    rw [hC] at hc
    obtain ⟨ys, n', hn', hy, hlen, hyl, hf⟩ := DataW.trod_struct he ht'
    obtain ⟨_, hcl, hat⟩ := World.cells?_some hc
    simp only [Prod.mk.injEq] at hy
    refine ⟨ys, n', hy.1, hy.2, hyl, fun j f hj => ?_⟩
    obtain ⟨ho, hk⟩ := hone_of hone j f hj
    have hjl : j < fs.size := (Array.getElem?_eq_some_iff.1 hj).1
    have hcell := hat j hjl
    have hv : cs'[j]? = some (cs'[j]'(by omega)) := List.getElem?_eq_getElem (by omega)
    have h1 := hf j f hj
    rw [ho, hk] at h1
    have hone' : (cs'.drop j).take 1 = [cs'[j]'(by omega)] := by
      rw [List.drop_eq_getElem_cons (by omega)]
      rfl
    rw [hone'] at h1
    have hys : ys[j]? = some (ys[j]'(by omega)) := List.getElem?_eq_getElem (by omega)
    refine ⟨_, _, ?_, hys, h1.trans hys⟩
    rw [← Go.Deep.add_add, hcell, hv]
end

theorem Try.laidOut : laidOutB Try.prog = true := by kernel_rfl
theorem Try.own : ownKnob Try.prog.godebug = none := by kernel_rfl

theorem trod_int_field {H : Type} {enc : TypeId × Value → H} {P : Program} {w : World} {base n : Nat} {spare : Nat → Bool} {held : Bool} {t : TypeId} (ht : P.underlying t = some (.int .i64)) {v : Value} {y : DataW H × List MemPlace} (h : DataW.trod enc P w base spare held n t [v] = some y) : ∃ x, v = .int .i64 x ∧ (Lit.int .i64 x).wf = true := by
  obtain ⟨x, hx, _, hw⟩ := DataW.trod_int ht h
  simp at hx
  exact ⟨x, hx, hw⟩

theorem i64_of_wf {x : Int} (h : (Lit.int .i64 x).wf = true) : -9223372036854775808 ≤ x ∧ x ≤ 9223372036854775807 := by
  simp [Lit.wf, IntKind.min, IntKind.max, IntKind.signed, IntKind.bits] at h
  omega

set_option maxHeartbeats 1000000 in
theorem open_events {H : Type} {enc : TypeId × Value → H} {w : World} {r : Reach} {b0 : Nat} {v : Value} {d : DataW H} {ps : List MemPlace}
    (hv : Value.okWide Try.prog w r b0 22 v) (h : DataW.Trod enc Try.prog w 0 (fun _ => true) true 22 v d ps) : ∃ l : List Ev, EvAt w v l ∧ ∀ e ∈ l, ∀ x ∈ e.cells, ∃ n : Int, x = .int .i64 n ∧ (-9223372036854775808 ≤ n ∧ n ≤ 9223372036854775807) := by
  obtain ⟨a, len, cap, rfl⟩ := okWide_slice Try.underlying22 hv
  obtain ⟨fuel, hf⟩ := h
  rcases open_slice_fields Try.underlying22 Try.underlying31 (by kernel_rfl) (by kernel_rfl) hf with ⟨hcs, _⟩ | ⟨A, n, c, m, D, Pl, hcs, _, hnc, hcm, hm, _, hi⟩
  · simp [Value.cells] at hcs
    obtain ⟨rfl, rfl, rfl⟩ := hcs
    exact ⟨[], ⟨none, 0, rfl, Nat.le_refl _, by omega, fun hh => absurd hh (by decide)⟩, fun e he => by cases he⟩
  · simp [Value.cells] at hcs
    obtain ⟨rfl, rfl, rfl⟩ := hcs
    have hev : ∀ i, ∃ e : Ev, i < cap → (∀ j x, e.cells[j]? = some x → w.cell? (A.add (i * 9 + j)) = some x) ∧ ∀ x ∈ e.cells, ∃ n : Int, x = .int .i64 n ∧ (-9223372036854775808 ≤ n ∧ n ≤ 9223372036854775807) := by
      intro i
      by_cases him : i < cap
      case neg => exact ⟨⟨0, 0, 0, 0, 0, 0, 0, 0, 0⟩, fun hh => absurd hh him⟩
      obtain ⟨ys, n', _, _, _, hf'⟩ := hi i (by simpa [hm] using him)
      obtain ⟨c0, y0, r0, _, t0⟩ := hf' 0 _ rfl
      obtain ⟨x0, rfl, b0⟩ := trod_int_field Try.underlying3 t0
      obtain ⟨c1, y1, r1, _, t1⟩ := hf' 1 _ rfl
      obtain ⟨x1, rfl, b1⟩ := trod_int_field Try.underlying3 t1
      obtain ⟨c2, y2, r2, _, t2⟩ := hf' 2 _ rfl
      obtain ⟨x2, rfl, b2⟩ := trod_int_field Try.underlying3 t2
      obtain ⟨c3, y3, r3, _, t3⟩ := hf' 3 _ rfl
      obtain ⟨x3, rfl, b3⟩ := trod_int_field Try.underlying3 t3
      obtain ⟨c4, y4, r4, _, t4⟩ := hf' 4 _ rfl
      obtain ⟨x4, rfl, b4⟩ := trod_int_field Try.underlying3 t4
      obtain ⟨c5, y5, r5, _, t5⟩ := hf' 5 _ rfl
      obtain ⟨x5, rfl, b5⟩ := trod_int_field Try.underlying3 t5
      obtain ⟨c6, y6, r6, _, t6⟩ := hf' 6 _ rfl
      obtain ⟨x6, rfl, b6⟩ := trod_int_field Try.underlying3 t6
      obtain ⟨c7, y7, r7, _, t7⟩ := hf' 7 _ rfl
      obtain ⟨x7, rfl, b7⟩ := trod_int_field Try.underlying3 t7
      obtain ⟨c8, y8, r8, _, t8⟩ := hf' 8 _ rfl
      obtain ⟨x8, rfl, b8⟩ := trod_int_field Try.underlying3 t8
      refine ⟨⟨x0, x1, x2, x3, x4, x5, x6, x7, x8⟩, fun _ => ⟨fun j x hx => ?_, fun x hx => ?_⟩⟩
      · match j, hx with
        | 0, hx => cases hx; exact r0
        | 1, hx => cases hx; exact r1
        | 2, hx => cases hx; exact r2
        | 3, hx => cases hx; exact r3
        | 4, hx => cases hx; exact r4
        | 5, hx => cases hx; exact r5
        | 6, hx => cases hx; exact r6
        | 7, hx => cases hx; exact r7
        | 8, hx => cases hx; exact r8
        | j + 9, hx => simp [Ev.cells] at hx
      · simp only [Ev.cells, List.mem_cons, List.not_mem_nil, or_false] at hx
        rcases hx with rfl | rfl | rfl | rfl | rfl | rfl | rfl | rfl | rfl
        · exact ⟨x0, rfl, i64_of_wf b0⟩
        · exact ⟨x1, rfl, i64_of_wf b1⟩
        · exact ⟨x2, rfl, i64_of_wf b2⟩
        · exact ⟨x3, rfl, i64_of_wf b3⟩
        · exact ⟨x4, rfl, i64_of_wf b4⟩
        · exact ⟨x5, rfl, i64_of_wf b5⟩
        · exact ⟨x6, rfl, i64_of_wf b6⟩
        · exact ⟨x7, rfl, i64_of_wf b7⟩
        · exact ⟨x8, rfl, i64_of_wf b8⟩
    obtain ⟨f, hf2⟩ := Classical.skolem.1 hev
    refine ⟨(List.range len).map f, ⟨some A, cap, by simp, by simp; omega, by unfold maxLen at hcm; omega, fun hn => ?_⟩, fun e he x hx => ?_⟩
    · have hn' : 0 < len := by simpa using hn
      have h00 := (hf2 0 (by omega)).1 0 _ rfl
      have hsp := World.cell?_spot h00
      obtain ⟨b, o, sp⟩ := A
      simp [Addr.add] at hsp
      subst hsp
      refine ⟨b, o, rfl, fun i e hi' j x hx => ?_⟩
      simp only [List.getElem?_map] at hi'
      have hin : i < len := by
        rcases Nat.lt_or_ge i len with h1 | h1
        · exact h1
        · rw [List.getElem?_eq_none (by simpa using h1)] at hi'; cases hi'
      rw [List.getElem?_range hin] at hi'
      simp at hi'; subst hi'
      have := (hf2 i (by omega)).1 j x hx
      unfold Addr.add at this
      split at this
      · rename_i h0; rw [h0]; exact this
      · exact this
    · obtain ⟨i, hi1, rfl⟩ := List.mem_map.1 he
      exact (hf2 i (by have := List.mem_range.1 hi1; omega)).2 x hx
end Go.Proofs.Ytkdagjlkejefnaa
