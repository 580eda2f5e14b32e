/- A list of events as an argument of a row. -/
import Derived.Test.YtkdagjlkejefnaaMb5
import Derived.ProofKit
import Derived.Deep.Slices
import Derived.Deep.Fields
import Derived.ChangeSame
import Derived.OwnWalk
import Derived.LoopTactic
import Derived.BigRegion
import Derived.BigQuiet
import Derived.Deep.QuietTactic
section
set_option linter.unusedSimpArgs false
set_option linter.unusedVariables false
namespace Go.Proofs.Ytkdagjlkejefnaa
open Go.RowKit Go.WideShapes Go.ChangeShapes Go.Deep

section
variable {H : Type} {enc : TypeId × Value → H} {P : Program} {w : World} {base : Nat} {spare : Nat → Bool} {held : Bool}
theorem open_slice_fields {t e : TypeId} {fs : Array Field} {fuel : Nat} {cs : List Value} {x : DataW H × List MemPlace} (ht : P.underlying t = some (.slice e)) (he : P.underlying e = some (.struct fs))
    (hone : oneCellFields P fs = true) (hC : P.cellsOf e = fs.size) (h : DataW.trod enc P w base spare held fuel t cs = some x) :
    (cs = [.slice none 0 0] ∧ x = (.nil, [])) ∨
    ∃ (a : Addr) (len cap m : Nat) (D : Nat → DataW H) (Pl : Nat → List MemPlace), cs = [.slice (some a) len cap] ∧ base ≤ a.block ∧ len ≤ cap ∧ cap ≤ maxLen ∧ m = (if spare a.block then cap else len) ∧
      x = (.slice ((List.range len).map D) ((List.range (m - len)).map fun j => D (len + j)), MemPlace.row a (m * fs.size) ++ (List.range m).flatMap Pl) ∧
      ∀ i, i < m → ∃ (ys : List (DataW H × List MemPlace)) (n : Nat), D i = .agg (ys.map (·.1)) ∧ Pl i = ys.flatMap (·.2) ∧ ys.length = fs.size ∧
        ∀ (j : Nat) (f : Field), fs[j]? = some f → ∃ (v : Value) (y : DataW H × List MemPlace), w.cell? (a.add (i * fs.size + j)) = some v ∧ ys[j]? = some y ∧ DataW.trod enc P w base spare held n f.type [v] = some y := by
  rcases open_slice ht h with h0 | ⟨a, len, cap, m, n, D, Pl, hcs, hb, hl, hm, hmm, hx, hi⟩
  · exact .inl h0
  · refine .inr ⟨a, len, cap, m, D, Pl, hcs, hb, hl, hm, hmm, by rw [hC] at hx; exact hx, fun i him => ?_⟩
    obtain ⟨cs', hc, ht'⟩ := hi i him
    rw [hC] at hc
    obtain ⟨ys, n', hn', hy, hlen, hyl, hf⟩ := DataW.trod_struct he ht'
    obtain ⟨_, hcl, hat⟩ := World.cells?_some hc
    simp only [Prod.mk.injEq] at hy
    refine ⟨ys, n', hy.1, hy.2, hyl, fun j f hj => ?_⟩
    obtain ⟨ho, hk⟩ := hone_of hone j f hj
    have hjl : j < fs.size := (Array.getElem?_eq_some_iff.1 hj).1
    have hcell := hat j hjl
    have hv : cs'[j]? = some (cs'[j]'(by omega)) := List.getElem?_eq_getElem (by omega)
    have h1 := hf j f hj
    rw [ho, hk] at h1
    have hone' : (cs'.drop j).take 1 = [cs'[j]'(by omega)] := by
      rw [List.drop_eq_getElem_cons (by omega)]
      rfl
    rw [hone'] at h1
    have hys : ys[j]? = some (ys[j]'(by omega)) := List.getElem?_eq_getElem (by omega)
    refine ⟨_, _, ?_, hys, h1.trans hys⟩
    rw [← Go.Deep.add_add, hcell, hv]
end

theorem Try.laidOut : laidOutB Try.prog = true := by kernel_rfl
theorem Try.own : ownKnob Try.prog.godebug = none := by kernel_rfl

theorem trod_int_field {H : Type} {enc : TypeId × Value → H} {P : Program} {w : World} {base n : Nat} {spare : Nat → Bool} {held : Bool} {t : TypeId} (ht : P.underlying t = some (.int .i64)) {v : Value} {y : DataW H × List MemPlace} (h : DataW.trod enc P w base spare held n t [v] = some y) : ∃ x, v = .int .i64 x ∧ (Lit.int .i64 x).wf = true := by
  obtain ⟨x, hx, _, hw⟩ := DataW.trod_int ht h
  simp at hx
  exact ⟨x, hx, hw⟩

theorem i64_of_wf {x : Int} (h : (Lit.int .i64 x).wf = true) : -9223372036854775808 ≤ x ∧ x ≤ 9223372036854775807 := by
  simp [Lit.wf, IntKind.min, IntKind.max, IntKind.signed, IntKind.bits] at h
  omega

set_option maxHeartbeats 1000000 in
theorem open_events {H : Type} {enc : TypeId × Value → H} {w : World} {r : Reach} {b0 : Nat} {v : Value} {d : DataW H} {ps : List MemPlace}
    (hv : Value.okWide Try.prog w r b0 22 v) (h : DataW.Trod enc Try.prog w 0 (fun _ => true) true 22 v d ps) : ∃ l : List Ev, EvAt w v l ∧ ∀ e ∈ l, ∀ x ∈ e.cells, ∃ n : Int, x = .int .i64 n ∧ (-9223372036854775808 ≤ n ∧ n ≤ 9223372036854775807) := by
  obtain ⟨a, len, cap, rfl⟩ := okWide_slice Try.underlying22 hv
  obtain ⟨fuel, hf⟩ := h
  rcases open_slice_fields Try.underlying22 Try.underlying31 (by kernel_rfl) (by kernel_rfl) hf with ⟨hcs, _⟩ | ⟨A, n, c, m, D, Pl, hcs, _, hnc, hcm, hm, _, hi⟩
  · simp [Value.cells] at hcs
    obtain ⟨rfl, rfl, rfl⟩ := hcs
    exact ⟨[], ⟨none, 0, rfl, Nat.le_refl _, by omega, fun hh => absurd hh (by decide)⟩, fun e he => by cases he⟩
  · simp [Value.cells] at hcs
    obtain ⟨rfl, rfl, rfl⟩ := hcs
    have hev : ∀ i, ∃ e : Ev, i < cap → (∀ j x, e.cells[j]? = some x → w.cell? (A.add (i * 9 + j)) = some x) ∧ ∀ x ∈ e.cells, ∃ n : Int, x = .int .i64 n ∧ (-9223372036854775808 ≤ n ∧ n ≤ 9223372036854775807) := by
      intro i
      by_cases him : i < cap
      case neg => exact ⟨⟨0, 0, 0, 0, 0, 0, 0, 0, 0⟩, fun hh => absurd hh him⟩
      obtain ⟨ys, n', _, _, _, hf'⟩ := hi i (by simpa [hm] using him)
      obtain ⟨c0, y0, r0, _, t0⟩ := hf' 0 _ rfl
      obtain ⟨x0, rfl, b0⟩ := trod_int_field Try.underlying3 t0
      obtain ⟨c1, y1, r1, _, t1⟩ := hf' 1 _ rfl
      obtain ⟨x1, rfl, b1⟩ := trod_int_field Try.underlying3 t1
      obtain ⟨c2, y2, r2, _, t2⟩ := hf' 2 _ rfl
      obtain ⟨x2, rfl, b2⟩ := trod_int_field Try.underlying3 t2
      obtain ⟨c3, y3, r3, _, t3⟩ := hf' 3 _ rfl
      obtain ⟨x3, rfl, b3⟩ := trod_int_field Try.underlying3 t3
      obtain ⟨c4, y4, r4, _, t4⟩ := hf' 4 _ rfl
      obtain ⟨x4, rfl, b4⟩ := trod_int_field Try.underlying3 t4
      obtain ⟨c5, y5, r5, _, t5⟩ := hf' 5 _ rfl
      obtain ⟨x5, rfl, b5⟩ := trod_int_field Try.underlying3 t5
      obtain ⟨c6, y6, r6, _, t6⟩ := hf' 6 _ rfl
      obtain ⟨x6, rfl, b6⟩ := trod_int_field Try.underlying3 t6
      obtain ⟨c7, y7, r7, _, t7⟩ := hf' 7 _ rfl
      obtain ⟨x7, rfl, b7⟩ := trod_int_field Try.underlying3 t7
      obtain ⟨c8, y8, r8, _, t8⟩ := hf' 8 _ rfl
      obtain ⟨x8, rfl, b8⟩ := trod_int_field Try.underlying3 t8
      refine ⟨⟨x0, x1, x2, x3, x4, x5, x6, x7, x8⟩, fun _ => ⟨fun j x hx => ?_, fun x hx => ?_⟩⟩
      · match j, hx with
        | 0, hx => cases hx; exact r0
        | 1, hx => cases hx; exact r1
        | 2, hx => cases hx; exact r2
        | 3, hx => cases hx; exact r3
        | 4, hx => cases hx; exact r4
        | 5, hx => cases hx; exact r5
        | 6, hx => cases hx; exact r6
        | 7, hx => cases hx; exact r7
        | 8, hx => cases hx; exact r8
        | j + 9, hx => simp [Ev.cells] at hx
      · simp only [Ev.cells, List.mem_cons, List.not_mem_nil, or_false] at hx
        rcases hx with rfl | rfl | rfl | rfl | rfl | rfl | rfl | rfl | rfl
        · exact ⟨x0, rfl, i64_of_wf b0⟩
        · exact ⟨x1, rfl, i64_of_wf b1⟩
        · exact ⟨x2, rfl, i64_of_wf b2⟩
        · exact ⟨x3, rfl, i64_of_wf b3⟩
        · exact ⟨x4, rfl, i64_of_wf b4⟩
        · exact ⟨x5, rfl, i64_of_wf b5⟩
        · exact ⟨x6, rfl, i64_of_wf b6⟩
        · exact ⟨x7, rfl, i64_of_wf b7⟩
        · exact ⟨x8, rfl, i64_of_wf b8⟩
    obtain ⟨f, hf2⟩ := Classical.skolem.1 hev
    refine ⟨(List.range len).map f, ⟨some A, cap, by simp, by simp; omega, by unfold maxLen at hcm; omega, fun hn => ?_⟩, fun e he x hx => ?_⟩
    · have hn' : 0 < len := by simpa using hn
      have h00 := (hf2 0 (by omega)).1 0 _ rfl
      have hsp := World.cell?_spot h00
      obtain ⟨b, o, sp⟩ := A
      simp [Addr.add] at hsp
      subst hsp
      refine ⟨b, o, rfl, fun i e hi' j x hx => ?_⟩
      simp only [List.getElem?_map] at hi'
      have hin : i < len := by
        rcases Nat.lt_or_ge i len with h1 | h1
        · exact h1
        · rw [List.getElem?_eq_none (by simpa using h1)] at hi'; cases hi'
      rw [List.getElem?_range hin] at hi'
      simp at hi'; subst hi'
      have := (hf2 i (by omega)).1 j x hx
      unfold Addr.add at this
      split at this
      · rename_i h0; rw [h0]; exact this
      · exact this
    · obtain ⟨i, hi1, rfl⟩ := List.mem_map.1 he
      exact (hf2 i (by have := List.mem_range.1 hi1; omega)).2 x hx
end Go.Proofs.Ytkdagjlkejefnaa
end
section
set_option linter.unusedSimpArgs false
set_option linter.unusedVariables false
namespace Go.Proofs.Ytkdagjlkejefnaa
open Go Go.RowKit

theorem Ev.row_cell {e : Ev} {j : Nat} {x : Value} (h : e.cells[j]? = some x) : e.row[j]? = some (.sc x) := by
  show (e.cells.map Dt.sc)[j]? = _
  rw [List.getElem?_map, h]; rfl
/-- events as data are events in the world -/
theorem RD.evs {S : Nat → Nat} {w : World} {l : List Ev} {v : Value} (h : RD S w (evsD l) v) : EvAt w v l := by
  unfold evsD at h
  generalize hr : l.map Ev.row = rows at h
  cases h with
  | emp A c hc =>
    cases l with
    | nil => exact ⟨A, c, rfl, Nat.zero_le _, by unfold maxLen at hc; omega, fun h => absurd h (by decide)⟩
    | cons e l => simp at hr
  | im rows sz b o cap f hc hm hsz hcell hd =>
    have hlen : l.length = rows.length := by rw [← hr]; simp
    refine ⟨_, cap, by rw [hlen], by omega, by unfold maxLen at hm; omega, fun hpos => ⟨b, o, rfl, fun i e hi j x hx => ?_⟩⟩
    have hil := (List.getElem?_eq_some_iff.1 hi).1
    have hrow : rows[i]? = some e.row := by rw [← hr, List.getElem?_map, hi]; rfl
    have h9 : 9 = sz := hsz _ (List.mem_of_getElem? hrow)
    have hj : j < 9 := (List.getElem?_eq_some_iff.1 hx).1
    have h1 := hd i _ j _ hrow (Ev.row_cell hx)
    have h2 := (hcell i j (by omega) (by omega)).1
    rw [(RD.sc_inv h1).1, ← h9] at h2
    exact h2
theorem flat_at' {α : Type} {cells : α → List Value} {sz : Nat} (hlen : ∀ e, (cells e).length = sz) (l : List α) (i : Nat) (e : α) (h : l[i]? = some e) (j : Nat) (x : Value) (hx : (cells e)[j]? = some x) : (l.flatMap cells)[i * sz + j]? = some x := by
  have hj : j < sz := by rw [← hlen e]; exact (List.getElem?_eq_some_iff.1 hx).1
  induction l generalizing i with
  | nil => cases h
  | cons a l ih =>
    rw [List.flatMap_cons]
    cases i with
    | zero =>
      simp at h; subst h
      rw [List.getElem?_append_left (by rw [hlen]; omega)]
      simpa using hx
    | succ i =>
      rw [List.getElem?_append_right (by rw [hlen, Nat.succ_mul]; omega), hlen, show (i + 1) * sz + j - sz = i * sz + j by rw [Nat.succ_mul]; omega]
      exact ih i (by simpa using h)
/-- a row of one's own reads as data -/
theorem rows_own {w : World} {B sz : Nat} {E : TypeId} {v : Value} {α : Type} (l : List α) (cells : α → List Value) (hsz : ∀ x, (cells x).length = sz) (hone : ∀ x u, u ∈ cells x → u.oneCell' = true) (h : w.ownsRow B E sz v l.length (l.flatMap cells)) (S : Nat → Nat) :
    ∃ S', RD S' w (.im (l.map fun x => (cells x).map Dt.sc)) v ∧ ∀ b, b < B → S' b = S b := by
  obtain ⟨h1, h2⟩ := h
  rcases h2 with ⟨rfl, h3⟩ | ⟨g, cap, cur, rfl, h3, h4, h5, h6, h7, h8⟩
  · have : l = [] := by cases l with
      | nil => rfl
      | cons a l => simp at h3
    subst this
    exact ⟨S, .emp _ _ (by unfold maxLen; omega), fun _ _ => rfl⟩
  · have key : ∀ i e, l[i]? = some e → ∀ j x, (cells e)[j]? = some x → w.cell? ⟨g, 0 + (i * sz + j), none⟩ = some x := fun i e hi j x hx => by
      rw [cell_of_row w g _ _ _ _ h4, Nat.zero_add]
      have hfl := flat_at' hsz l i e hi j x hx
      rw [← h8, List.getElem?_take] at hfl
      split at hfl
      · simpa using hfl
      · cases hfl
    refine ⟨fun b => if b = g then l.length * sz else S b, ?_, fun b hb => if_neg (by omega)⟩
    have hl : l.length = (l.map fun x => (cells x).map Dt.sc).length := by simp
    have hsl : Value.slice (some ⟨g, 0, none⟩) l.length cap = .slice (some ⟨g, 0, none⟩) (l.map fun x => (cells x).map Dt.sc).length cap := by rw [← hl]
    rw [hsl]
    refine RD.im _ sz g 0 cap (fun i j => (l.flatMap cells).getD (i * sz + j) undef) (by rw [← hl]; exact h5) h6 ?_ ?_ ?_
    · intro r hr
      obtain ⟨x, _, rfl⟩ := List.mem_map.1 hr
      simp [hsz]
    · intro i j hi hj
      rw [← hl] at hi
      have hil : l[i]? = some l[i] := List.getElem?_eq_getElem hi
      have hjl : (cells l[i])[j]? = some ((cells l[i])[j]'(by rw [hsz]; exact hj)) := List.getElem?_eq_getElem _
      have hfl := flat_at' hsz l i _ hil j _ hjl
      refine ⟨?_, ?_⟩
      · rw [key i _ hil j _ hjl]
        simp [List.getD, hfl]
      · simp only [if_true]
        have : (i + 1) * sz ≤ l.length * sz := Nat.mul_le_mul_right _ hi
        rw [Nat.succ_mul] at this
        omega
    · intro i r j x hr hx
      rw [List.getElem?_map, Option.map_eq_some_iff] at hr
      obtain ⟨e, he, rfl⟩ := hr
      rw [List.getElem?_map, Option.map_eq_some_iff] at hx
      obtain ⟨u, hu, rfl⟩ := hx
      have hfl := flat_at' hsz l i e he j u hu
      simp only [List.getD, hfl, Option.getD_some]
      exact .sc u (hone e u (List.mem_of_getElem? hu))

/-- events of an argument as data -/
theorem EvAt.rd {w : World} {v : Value} {l : List Ev} (h : EvAt w v l) {S : Nat → Nat} (hS : ∀ b i, (w.cell? ⟨b, i, none⟩).isSome = true → i < S b) : RD S w (evsD l) v := by
  obtain ⟨A, c, rfl, h2, h3, h4⟩ := h
  by_cases hl : 0 < l.length
  · obtain ⟨b, o, rfl, hc⟩ := h4 hl
    unfold evsD
    rw [show l.length = (l.map Ev.row).length by simp]
    have hcl : ∀ i j, i < l.length → j < 9 → ∃ e x, l[i]? = some e ∧ e.cells[j]? = some x ∧ (l.flatMap Ev.cells).getD (i * 9 + j) undef = x ∧ w.cell? ⟨b, o + (i * 9 + j), none⟩ = some x := fun i j hi hj => by
      have hil : l[i]? = some l[i] := List.getElem?_eq_getElem hi
      have hjl : l[i].cells[j]? = some (l[i].cells[j]'hj) := List.getElem?_eq_getElem _
      exact ⟨_, _, hil, hjl, by simp [List.getD, flat_at l i _ hil j _ hjl], hc i _ hil j _ hjl⟩
    refine RD.im _ 9 b o c (fun i j => (l.flatMap Ev.cells).getD (i * 9 + j) undef) (by simpa using h2) (by unfold maxLen; omega) ?_ ?_ ?_
    · intro r hr
      obtain ⟨x, _, rfl⟩ := List.mem_map.1 hr
      rfl
    · intro i j hi hj
      obtain ⟨e, x, _, _, h5, h6⟩ := hcl i j (by simpa using hi) hj
      rw [h5]
      exact ⟨h6, hS b _ (by rw [h6]; rfl)⟩
    · intro i r j x hr hx
      rw [List.getElem?_map, Option.map_eq_some_iff] at hr
      obtain ⟨e, he, rfl⟩ := hr
      have hj : j < 9 := (List.getElem?_eq_some_iff.1 hx).1
      obtain ⟨e', u, h7, h8, h5, h6⟩ := hcl i j (List.getElem?_eq_some_iff.1 he).1 hj
      rw [he] at h7; cases h7
      rw [h5]
      have := Ev.row_cell h8
      rw [hx] at this; cases this
      refine .sc u ?_
      have := List.mem_of_getElem? h8
      simp only [Ev.cells, List.mem_cons, List.not_mem_nil, or_false] at this
      rcases this with rfl | rfl | rfl | rfl | rfl | rfl | rfl | rfl | rfl <;> rfl
  · have : l = [] := by cases l with
      | nil => rfl
      | cons a l => simp at hl
    subst this
    exact .emp _ _ (by unfold maxLen; omega)

/-- as many cells of a block as there are -/
def World.cellsOf (w : World) (b : Nat) : Nat := match w.heap[b]? with
  | some (.cells arr _ _) => arr.size
  | _ => 0
theorem cellsOf_lt {w : World} (b i : Nat) (h : (w.cell? ⟨b, i, none⟩).isSome = true) : i < World.cellsOf w b := by
  unfold World.cellsOf
  unfold World.cell? at h
  cases hb : w.heap[b]? with
  | none => simp [hb] at h
  | some x =>
    cases x with
    | cells arr T fr => simp only [hb] at h; simpa using h
    | _ => simp [hb] at h

def intsD (l : List Int) : Dt := .im (l.map fun x => [dI x])
theorem RPs.nth {S : Nat → Nat} {w : World} {ps : List Pa} {vs : Array Value} (h : RPs S w ps vs) {i : Nat} {p : Pa} (hp : ps[i]? = some p) : ∃ u, vs[i]? = some u ∧ RP S w p u := by
  have hi : i < vs.size := by rw [← h.1]; exact (List.getElem?_eq_some_iff.1 hp).1
  exact ⟨vs[i], Array.getElem?_eq_getElem hi, h.2 i p _ hp (Array.getElem?_eq_getElem hi)⟩
theorem RPs.one {S : Nat → Nat} {w : World} {p : Pa} {vs : Array Value} (h : RPs S w [p] vs) : ∃ u, vs = #[u] ∧ RP S w p u := by
  obtain ⟨u, h1, h2⟩ := h.nth (i := 0) rfl
  refine ⟨u, ?_, h2⟩
  have h3 := h.1
  apply Array.ext_getElem?
  intro j
  match j with
  | 0 => simpa using h1
  | j + 1 => rw [Array.getElem?_eq_none (by simp at h3; omega), Array.getElem?_eq_none (by simp)]
theorem RPs.two {S : Nat → Nat} {w : World} {p q : Pa} {vs : Array Value} (h : RPs S w [p, q] vs) : ∃ u v, vs = #[u, v] ∧ RP S w p u ∧ RP S w q v := by
  obtain ⟨u, h1, h2⟩ := h.nth (i := 0) rfl
  obtain ⟨v, h3, h4⟩ := h.nth (i := 1) rfl
  refine ⟨u, v, ?_, h2, h4⟩
  have h5 := h.1
  apply Array.ext_getElem?
  intro j
  match j with
  | 0 => simpa using h1
  | 1 => simpa using h3
  | j + 2 => rw [Array.getElem?_eq_none (by simp at h5; omega), Array.getElem?_eq_none (by simp)]
theorem RPs.three {S : Nat → Nat} {w : World} {p q r : Pa} {vs : Array Value} (h : RPs S w [p, q, r] vs) : ∃ u v x, vs = #[u, v, x] ∧ RP S w p u ∧ RP S w q v ∧ RP S w r x := by
  obtain ⟨u, h1, h2⟩ := h.nth (i := 0) rfl
  obtain ⟨v, h3, h4⟩ := h.nth (i := 1) rfl
  obtain ⟨x, h6, h7⟩ := h.nth (i := 2) rfl
  refine ⟨u, v, x, ?_, h2, h4, h7⟩
  have h5 := h.1
  apply Array.ext_getElem?
  intro j
  match j with
  | 0 => simpa using h1
  | 1 => simpa using h3
  | 2 => simpa using h6
  | j + 3 => rw [Array.getElem?_eq_none (by simp at h5; omega), Array.getElem?_eq_none (by simp)]
theorem RPs.nil {S : Nat → Nat} {w : World} {vs : Array Value} (h : RPs S w [] vs) : vs = #[] := by
  have h3 := h.1
  apply Array.ext_getElem?
  intro j
  rw [Array.getElem?_eq_none (by simp at h3; omega), Array.getElem?_eq_none (by simp)]
theorem RPs.mk1 {S : Nat → Nat} {w : World} {p : Pa} {u : Value} (h : RP S w p u) : RPs S w [p] #[u] := ⟨rfl, fun i q v h1 h2 => by
  match i with
  | 0 => cases h1; simp at h2; subst h2; exact h
  | i + 1 => simp at h1⟩
theorem RPs.mk2 {S : Nat → Nat} {w : World} {p q : Pa} {u v : Value} (h : RP S w p u) (k : RP S w q v) : RPs S w [p, q] #[u, v] := ⟨rfl, fun i r x h1 h2 => by
  match i with
  | 0 => cases h1; simp at h2; subst h2; exact h
  | 1 => cases h1; simp at h2; subst h2; exact k
  | i + 2 => simp at h1⟩
theorem RPs.mk3 {S : Nat → Nat} {w : World} {p q r : Pa} {u v x : Value} (h : RP S w p u) (k : RP S w q v) (m : RP S w r x) : RPs S w [p, q, r] #[u, v, x] := ⟨rfl, fun i o y h1 h2 => by
  match i with
  | 0 => cases h1; simp at h2; subst h2; exact h
  | 1 => cases h1; simp at h2; subst h2; exact k
  | 2 => cases h1; simp at h2; subst h2; exact m
  | i + 3 => simp at h1⟩
theorem RP.int {S : Nat → Nat} {w : World} {n : Int} {u : Value} (h : RP S w (pI n) u) : u = .int .i64 n := (RD.sc_inv h).1
theorem RP.mkInt {S : Nat → Nat} {w : World} (n : Int) : RP S w (pI n) (.int .i64 n) := .sc _ rfl
theorem RP.mkBool {S : Nat → Nat} {w : World} (n : Bool) : RP S w (pB n) (.bool n) := .sc _ rfl
theorem RP.bool {S : Nat → Nat} {w : World} {n : Bool} {u : Value} (h : RP S w (pB n) u) : u = .bool n := (RD.sc_inv h).1
/-- a struct of numbers -/
theorem RP.flat {S : Nat → Nat} {w : World} {vs : List Value} {u : Value} (h : RP S w (.agg (vs.map Dt.sc)) u) : u = .agg vs.toArray := by
  obtain ⟨arr, rfl, h2, h3⟩ := h
  congr 1
  apply Array.ext_getElem?
  intro j
  simp only [List.getElem?_toArray]
  rw [List.length_map] at h2
  cases hj : vs[j]? with
  | none => rw [Array.getElem?_eq_none]; rw [List.getElem?_eq_none_iff] at hj; omega
  | some x =>
    have hlt : j < arr.size := by have := (List.getElem?_eq_some_iff.1 hj).1; omega
    rw [Array.getElem?_eq_getElem hlt, (RD.sc_inv (h3 j (.sc x) arr[j] (by rw [List.getElem?_map, hj]; rfl) (Array.getElem?_eq_getElem hlt))).1]
theorem RP.mkFlat {S : Nat → Nat} {w : World} {vs : List Value} (h : ∀ u, u ∈ vs → u.oneCell' = true) : RP S w (.agg (vs.map Dt.sc)) (.agg vs.toArray) := by
  refine ⟨_, rfl, by simp, fun i x u h1 h2 => ?_⟩
  rw [List.getElem?_map, Option.map_eq_some_iff] at h1
  obtain ⟨y, hy, rfl⟩ := h1
  simp [hy] at h2
  subst h2
  exact .sc _ (h y (List.mem_of_getElem? hy))
end Go.Proofs.Ytkdagjlkejefnaa
end
section
set_option linter.unusedSimpArgs false
set_option linter.unusedVariables false
namespace Go.Proofs.Ytkdagjlkejefnaa
open Go.RowKit

theorem EvAt.lit {w : World} {b : Nat} {t : TypeId} {fr : Nat × Nat} {cs : Array Value} (l : List Ev) (h : w.heap[b]? = some (.cells cs t fr)) (hcs : cs.toList = l.flatMap Ev.cells) (hl : l.length ≤ 1000) : EvAt w (.slice (some ⟨b, 0, none⟩) l.length l.length) l := by
  refine ⟨_, _, rfl, Nat.le_refl _, by omega, fun _ => ⟨b, 0, rfl, fun i e hi j x hx => ?_⟩⟩
  rw [cell_of_row w b _ _ _ _ h, Nat.zero_add]
  have := flat_at l i e hi j x hx
  rw [← hcs] at this
  simpa using this

theorem EvAt.take {w : World} {A : Option Addr} {n c : Nat} {l : List Ev} (h : EvAt w (.slice A n c) l) {k : Nat} (hk : k ≤ l.length) : EvAt w (.slice A k c) (l.take k) := by
  obtain ⟨A', c', h1, h2, h3, h4⟩ := h
  simp only [Value.slice.injEq] at h1
  obtain ⟨rfl, rfl, rfl⟩ := h1
  have hlen : (l.take k).length = k := by simp; omega
  refine ⟨A, c, by rw [hlen], by rw [hlen]; omega, h3, fun hn => ?_⟩
  rw [hlen] at hn
  obtain ⟨b, o, hA, hc⟩ := h4 (by omega)
  refine ⟨b, o, hA, fun i e hi j x hx => hc i e ?_ j x hx⟩
  rw [List.getElem?_take] at hi
  split at hi
  · exact hi
  · cases hi

def evL1 : List Ev := [⟨0, 14, 0, 0, 1, 0, 0, 0, 0⟩, ⟨0, 15, 5, 0, 0, 0, 0, 0, 0⟩, ⟨1, 17, 5, 0, 0, 0, 0, 0, 0⟩, ⟨1, 18, 5, 0, 0, 0, 0, 0, 0⟩, ⟨0, 16, 5, 0, 0, 0, 0, 0, 0⟩]
def evL2 : List Ev := [⟨0, 6, 1, 0, 0, 0, 0, 0, 0⟩, ⟨0, 6, 1, 0, 0, 0, 0, 0, 0⟩]
def evL3 : List Ev := [⟨0, 17, 5, 0, 0, 1, 0, 0, 0⟩]
theorem chkL1 : chk evL1 = 5 := by decide
theorem chkL2 : chk evL2 = 1 := by decide
theorem chkL3 : chk evL3 = 0 := by decide
theorem wholeL1 : wholeOf (evL1.take 3) = 1 := by decide

set_option maxRecDepth 100000 in
set_option maxHeartbeats 4000000 in
theorem awake_any (w : World) : Calls Try.prog 12 #[] w fun r w' => r = .returned (.bool true) ∧ Below w.heap.size w w' := by
  have hC2 : ∀ (w : World) (v : Value), EvAt w v evL2 → Calls Try.prog 13 #[v] w fun r w' => r = .returned (.tuple #[.int .i64 1, .bool false]) ∧ Below w.heap.size w w' := fun w v h => by
    have := check_any w v evL2 h (by decide)
    unfold CheckPost at this; rw [chkL2] at this; exact this
  have hC3 : ∀ (w : World) (v : Value), EvAt w v evL3 → Calls Try.prog 13 #[v] w fun r w' => r = .returned (.tuple #[.int .i64 0, .bool false]) ∧ Below w.heap.size w w' := fun w v h => by
    have := check_any w v evL3 h (by decide)
    unfold CheckPost at this; rw [chkL3] at this; exact this
  have hV : ∀ (w : World) (v : Value), EvAt w v evL1 → Calls Try.prog 15 #[v] w fun r w' => r = .returned (.bool true) ∧ Below w.heap.size w w' := fun w v h => by
    have := valid_any w v evL1 h (by decide)
    rw [chkL1] at this; exact this
  have hW : ∀ (w : World) (v : Value), EvAt w v (evL1.take 3) → Calls Try.prog 17 #[v] w fun r w' => r = .returned (.int .i64 1) ∧ Below w.heap.size w w' := fun w v h => by
    have := whole_any w v (evL1.take 3) h (by decide)
    rw [wholeL1] at this; exact this
  have HC2 := Lib.hid hC2; clear hC2
  have HC3 := Lib.hid hC3; clear hC3
  have HV := Lib.hid hV; clear hV
  have HW := Lib.hid hW; clear hW
  go_enter Try.func12, Try.ntmps12
  go_upto_region 2 with fail
  generalize hX : World.alloc w _ = W1
  have ha1 : EvAt W1 (.slice (some ⟨w.heap.size, 0, none⟩) 5 5) evL1 := by rw [← hX]; exact EvAt.lit evL1 (heap_alloc_new w _) rfl (by decide)
  have hb1 : Below w.heap.size w W1 := by rw [← hX]; exact (Below.refl _ _).alloc (Nat.le_refl _) _
  clear hX
  have HA1 := Lib.hid ha1; clear ha1
  have HB1 := Lib.hid hb1; clear hb1
  go_wp2_with fail
  refine (HC2.out _ _ (EvAt.lit evL2 (heap_alloc_new _ _) rfl (by decide))).mono ?_
  rintro r w2 ⟨rfl, hb2⟩
  have hb2' : Below W1.heap.size W1 w2 := ((Below.refl _ _).alloc (Nat.le_refl _) _).trans (hb2.mono (by simp))
  have HB2 := Lib.hid hb2'; clear hb2 hb2'
  go_wp2_with fail
  refine (HC3.out _ _ (EvAt.lit evL3 (heap_alloc_new _ _) rfl (by decide))).mono ?_
  rintro r w3 ⟨rfl, hb3⟩
  have hb3' : Below W1.heap.size W1 w3 := HB2.out.trans (((Below.refl _ _).alloc HB2.out.size _).trans (hb3.mono (by have := HB2.out.size; simp; omega)))
  have HB3 := Lib.hid hb3'; clear hb3 hb3'
  go_wp2_with fail
  refine (HV.out _ _ (HA1.out.keep HB3.out)).mono ?_
  rintro r w4 ⟨rfl, hb4⟩
  have hb4' : Below W1.heap.size W1 w4 := HB3.out.trans (hb4.mono HB3.out.size)
  have HB4 := Lib.hid hb4'; clear hb4 hb4'
  go_wp2_with fail
  refine (HW.out _ _ ((HA1.out.keep HB4.out).take (k := 3) (by decide))).mono ?_
  rintro r w5 ⟨rfl, hb5⟩
  have hb5' : Below w.heap.size w w5 := HB1.out.trans ((HB4.out.trans (hb5.mono HB4.out.size)).mono HB1.out.size)
  have HB5 := Lib.hid hb5'; clear hb5 hb5'
  go_wp2
  go_ret
  exact ⟨rfl, HB5.out⟩
end Go.Proofs.Ytkdagjlkejefnaa
end
section
set_option linter.unusedSimpArgs false
set_option linter.unusedVariables false
namespace Go.Proofs.Ytkdagjlkejefnaa
open Go.RowKit

theorem cells_new (w : World) (cs : Array Value) (t : TypeId) (n : Nat) (hn : n = w.heap.size) (fr : Nat × Nat) : ∀ (j : Nat) (u : Value), cs.toList[j]? = some u → (w.alloc (.cells cs t fr)).cell? ((⟨n, 0, none⟩ : Addr).add j) = some u := by
  intro j u h
  subst hn
  have h2 : (w.alloc (.cells cs t fr)).cell? ⟨w.heap.size, j, none⟩ = some u := by
    rw [cell_of_row _ _ _ _ _ _ (heap_alloc_new w _)]
    simpa using h
  unfold Addr.add
  split
  · rename_i h0; subst h0; exact h2
  · simpa using h2

theorem Below.own {w w' : World} {b : Nat} {e : TypeId} {s : Nat} {v : Value} {n : Nat} {xs : List Value} (h : w.ownsRow b e s v n xs) (hb : Below w.heap.size w w') : w'.ownsRow b e s v n xs := by
  refine ⟨h.1, h.2.imp id fun ⟨g, cap, cur, h1, h2, h3, h4⟩ => ⟨g, cap, cur, h1, h2, ?_, h4⟩⟩
  rw [hb.block g (by have := (Array.getElem?_eq_some_iff.1 h3).1; exact this)]
  exact h3

/-- an owned row of events reads as events -/
theorem EvAt.own {w : World} {b : Nat} {t : TypeId} {v : Value} {l : List Ev} (h : w.ownsRow b t 9 v l.length (l.flatMap Ev.cells)) : EvAt w v l := by
  obtain ⟨h1, h2⟩ := h
  rcases h2 with ⟨rfl, h3⟩ | ⟨g, cap, cur, rfl, h3, h4, h5, h6, h7, h8⟩
  · exact ⟨none, 0, by rw [h3], by omega, by omega, fun hn => absurd hn (by omega)⟩
  · refine ⟨_, _, rfl, h5, by unfold maxLen at h6; omega, fun _ => ⟨g, 0, rfl, fun i e hi j x hx => ?_⟩⟩
    rw [cell_of_row w g _ _ _ _ h4, Nat.zero_add]
    have hfl : (l.flatMap Ev.cells)[i * 9 + j]? = some x := flat_at l i e hi j x hx
    rw [← h8] at hfl
    rw [List.getElem?_take] at hfl
    split at hfl
    · simpa using hfl
    · cases hfl

theorem Try.infoEv : (Try.prog.info? 31).map (fun i => (i.zero, i.size, i.bytes)) = some (some (.agg #[.int .i64 0, .int .i64 0, .int .i64 0, .int .i64 0, .int .i64 0, .int .i64 0, .int .i64 0, .int .i64 0, .int .i64 0]), 9, 72) := by kernel_rfl

def selG (g : Int) (l : List Ev) : List Ev := l.filter (fun e => e.g == g)
theorem selG_hit {g : Int} {l : List Ev} {k : Nat} {e : Ev} (h : l[k]? = some e) (hg : e.g = g) : selG g (l.take (k + 1)) = selG g (l.take k) ++ [e] := by
  obtain ⟨hk, rfl⟩ := List.getElem?_eq_some_iff.1 h
  unfold selG
  rw [List.take_succ_eq_append_getElem hk, List.filter_append, List.filter_cons]
  simp [hg]
theorem selG_miss {g : Int} {l : List Ev} {k : Nat} {e : Ev} (h : l[k]? = some e) (hg : ¬ e.g = g) : selG g (l.take (k + 1)) = selG g (l.take k) := by
  obtain ⟨hk, rfl⟩ := List.getElem?_eq_some_iff.1 h
  unfold selG
  rw [List.take_succ_eq_append_getElem hk, List.filter_append, List.filter_cons]
  simp [hg]
theorem selG_le (g : Int) (l : List Ev) (k : Nat) : (selG g (l.take k)).length ≤ k := by
  have h1 := List.length_filter_le (fun e : Ev => e.g == g) (l.take k)
  have h2 := List.length_take_le k l
  unfold selG; omega

/-- the nine cells of element k -/
theorem EvAt.at {w : World} {v : Value} {l : List Ev} (h : EvAt w v l) {k : Nat} {e : Ev} (hk : l[k]? = some e) : ∃ b o c, v = .slice (some ⟨b, o, none⟩) l.length c ∧ ∀ j x, e.cells[j]? = some x → w.cell? ⟨b, o + (k * 9 + j), none⟩ = some x := by
  obtain ⟨A, c, rfl, h2, h3, h4⟩ := h
  obtain ⟨b, o, rfl, hc⟩ := h4 (by have := (List.getElem?_eq_some_iff.1 hk).1; omega)
  exact ⟨b, o, c, rfl, fun j x hx => hc k e hk j x hx⟩

set_option maxRecDepth 100000 in
set_option maxHeartbeats 4000000 in
theorem project_any (w : World) (v : Value) (l : List Ev) (h : EvAt w v l) (hl : l.length ≤ 1000000) (g : Int) : Calls Try.prog 30 #[v, .int .i64 g] w fun r w' => ∃ v', r = .returned v' ∧ w'.ownsRow w.heap.size 31 9 v' (selG g l).length ((selG g l).flatMap Ev.cells) ∧ Below w.heap.size w w' := by
  obtain ⟨i0, hi, hz0, hz1, hz2⟩ := info_parts Try.infoEv
  obtain ⟨A, c, rfl, hlc, hc63, hA⟩ := h
  have HA := Lib.hid hA; clear hA
  go_enter Try.func30, Try.ntmps30
  go_wp2
  go_loopw [5, 10] (fun v' n wr => ∃ k : Nat, k ≤ l.length ∧ n = .int .i64 k ∧ wr.ownsRow w.heap.size 31 9 v' (selG g (l.take k)).length ((selG g (l.take k)).flatMap Ev.cells) ∧ Below w.heap.size w wr)
    (fun _ n _ => l.length - (intOf n).toNat)
  case atStart => exact ⟨0, Nat.zero_le _, rfl, World.ownsRow_nil _ _ _ _, Below.refl _ _⟩
  case round =>
    obtain ⟨k, hk, rfl, hown, hb⟩ := hrel
    have hsl := selG_le g l k
    by_cases hlt : k < l.length
    · obtain ⟨b, o, rfl, hcell⟩ := HA.out (by omega)
      obtain ⟨e, he⟩ : ∃ e, l[k]? = some e := ⟨_, List.getElem?_eq_getElem hlt⟩
      have hcl : ∀ j x, e.cells[j]? = some x → wr.cell? ⟨b, o + (k * 9 + j), none⟩ = some x := fun j x hx => by
        have h5 := hcell k e he j x hx
        exact (hb.cell (block_lt_of_cell h5)).trans h5
      have HE := Lib.hid he; clear he
      obtain ⟨g1, kind, obj, off, ek, en, fn, pc, stack⟩ := e
      have q0 : wr.cell? ⟨b, o + k * 9, none⟩ = some (.int .i64 g1) := hcl 0 _ rfl
      have q1 : wr.cell? ⟨b, o + k * 9 + 1, none⟩ = some (.int .i64 kind) := hcl 1 _ rfl
      have q2 : wr.cell? ⟨b, o + k * 9 + 2, none⟩ = some (.int .i64 obj) := hcl 2 _ rfl
      have q3 : wr.cell? ⟨b, o + k * 9 + 3, none⟩ = some (.int .i64 off) := hcl 3 _ rfl
      have q4 : wr.cell? ⟨b, o + k * 9 + 4, none⟩ = some (.int .i64 ek) := hcl 4 _ rfl
      have q5 : wr.cell? ⟨b, o + k * 9 + 5, none⟩ = some (.int .i64 en) := hcl 5 _ rfl
      have q6 : wr.cell? ⟨b, o + k * 9 + 6, none⟩ = some (.int .i64 fn) := hcl 6 _ rfl
      have q7 : wr.cell? ⟨b, o + k * 9 + 7, none⟩ = some (.int .i64 pc) := hcl 7 _ rfl
      have q8 : wr.cell? ⟨b, o + k * 9 + 8, none⟩ = some (.int .i64 stack) := hcl 8 _ rfl
      clear hcl hcell
      by_cases hg : g1 = g
      · subst hg
        go_wp2_with (at_builtin; refine wpList_append_own _ rfl _ _ 22 rfl w.heap.size 31 i0 (.agg #[.int .i64 0, .int .i64 0, .int .i64 0, .int .i64 0, .int .i64 0, .int .i64 0, .int .i64 0, .int .i64 0, .int .i64 0]) 9 72 Try.underlying22 hi hz0 hz1 hz2 rfl (by decide) _ _ _ rfl ((hown.alloc _).alloc _) ⟨wr.heap.size + 1, 0, none⟩ 1 1 (Ev.cells ⟨g1, kind, obj, off, ek, en, fn, pc, stack⟩) rfl rfl ?c1 ?c2 ?c3 ?c4 ?c5 ?_)
        case c1 => exact fun j u hj => cells_new (wr.alloc _) _ _ _ (by simp) _ j u hj
        case c2 =>
          intro u hu
          simp only [Ev.cells, List.mem_cons, List.not_mem_nil, or_false] at hu
          rcases hu with rfl | rfl | rfl | rfl | rfl | rfl | rfl | rfl | rfl <;> rfl
        case c3 => unfold maxLen; omega
        case c4 => omega
        case c5 => have := hb.size; simp; omega
        · intro v' w1 hown' hgrow _
          have hb' : Below w.heap.size w w1 := ((hb.alloc hb.size _).alloc (by have := hb.size; simp; omega) _).grown hgrow (by have := hb.size; simp; omega) (fun j hj => (hown.lt j hj).1)
          have hst := selG_hit HE.out rfl
          rw [show (selG g1 (l.take k)).length + 1 = (selG g1 (l.take (k + 1))).length by rw [hst]; simp, show (selG g1 (l.take k)).flatMap Ev.cells ++ Ev.cells ⟨g1, kind, obj, off, ek, en, fn, pc, stack⟩ = (selG g1 (l.take (k + 1))).flatMap Ev.cells by rw [hst]; simp] at hown'
          clear hgrow hown hst q0 q1 q2 q3 q4 q5 q6 q7 q8
          go_wp2_with fail
          go_roundw
          case rel => exact ⟨k + 1, by omega, by go_num, hown', hb'⟩
          case measure => simp [intOf]; omega
      · have hst := selG_miss HE.out hg
        go_wp2_with fail
        go_roundw
        case rel => exact ⟨k + 1, by omega, by go_num, by rw [hst]; exact hown.alloc _, hb.alloc hb.size _⟩
        case measure => simp [intOf]; omega
    · have hkl : k = l.length := by omega
      subst hkl
      rw [List.take_length] at hown
      go_wp2_with fail
      go_ret
      exact ⟨_, rfl, hown, hb⟩
set_option maxRecDepth 100000 in
set_option maxHeartbeats 4000000 in
theorem rproject_any (w : World) (v : Value) (l : List Ev) (h : EvAt w v l) (hl : l.length ≤ 1000000) (g : Int) : Calls Try.prog 31 #[v, .int .i64 g] w fun r w' => ∃ v', r = .returned v' ∧ w'.ownsRow w.heap.size 31 9 v' (selG g l).length ((selG g l).flatMap Ev.cells) ∧ Below w.heap.size w w' := by
  obtain ⟨i0, hi, hz0, hz1, hz2⟩ := info_parts Try.infoEv
  obtain ⟨A, c, rfl, hlc, hc63, hA⟩ := h
  have HA := Lib.hid hA; clear hA
  go_enter Try.func31, Try.ntmps31
  go_wp2
  go_loopw [5, 6] (fun v' n wr => ∃ k : Nat, k ≤ l.length ∧ n = .int .i64 k ∧ wr.ownsRow w.heap.size 31 9 v' (selG g (l.take k)).length ((selG g (l.take k)).flatMap Ev.cells) ∧ Below w.heap.size w wr)
    (fun _ n _ => l.length - (intOf n).toNat)
  case atStart => exact ⟨0, Nat.zero_le _, rfl, World.ownsRow_nil _ _ _ _, Below.refl _ _⟩
  case round =>
    obtain ⟨k, hk, rfl, hown, hb⟩ := hrel
    have hsl := selG_le g l k
    by_cases hlt : k < l.length
    · obtain ⟨b, o, rfl, hcell⟩ := HA.out (by omega)
      obtain ⟨e, he⟩ : ∃ e, l[k]? = some e := ⟨_, List.getElem?_eq_getElem hlt⟩
      have hcl : ∀ j x, e.cells[j]? = some x → wr.cell? ⟨b, o + (k * 9 + j), none⟩ = some x := fun j x hx => by
        have h5 := hcell k e he j x hx
        exact (hb.cell (block_lt_of_cell h5)).trans h5
      have HE := Lib.hid he; clear he
      obtain ⟨g1, kind, obj, off, ek, en, fn, pc, stack⟩ := e
      have q0 : wr.cell? ⟨b, o + k * 9, none⟩ = some (.int .i64 g1) := hcl 0 _ rfl
      have q1 : wr.cell? ⟨b, o + k * 9 + 1, none⟩ = some (.int .i64 kind) := hcl 1 _ rfl
      have q2 : wr.cell? ⟨b, o + k * 9 + 2, none⟩ = some (.int .i64 obj) := hcl 2 _ rfl
      have q3 : wr.cell? ⟨b, o + k * 9 + 3, none⟩ = some (.int .i64 off) := hcl 3 _ rfl
      have q4 : wr.cell? ⟨b, o + k * 9 + 4, none⟩ = some (.int .i64 ek) := hcl 4 _ rfl
      have q5 : wr.cell? ⟨b, o + k * 9 + 5, none⟩ = some (.int .i64 en) := hcl 5 _ rfl
      have q6 : wr.cell? ⟨b, o + k * 9 + 6, none⟩ = some (.int .i64 fn) := hcl 6 _ rfl
      have q7 : wr.cell? ⟨b, o + k * 9 + 7, none⟩ = some (.int .i64 pc) := hcl 7 _ rfl
      have q8 : wr.cell? ⟨b, o + k * 9 + 8, none⟩ = some (.int .i64 stack) := hcl 8 _ rfl
      clear hcl hcell
      by_cases hg : g1 = g
      · subst hg
        go_wp2_with (at_builtin; refine wpList_append_own _ rfl _ _ 22 rfl w.heap.size 31 i0 (.agg #[.int .i64 0, .int .i64 0, .int .i64 0, .int .i64 0, .int .i64 0, .int .i64 0, .int .i64 0, .int .i64 0, .int .i64 0]) 9 72 Try.underlying22 hi hz0 hz1 hz2 rfl (by decide) _ _ _ rfl (hown.alloc _) ⟨wr.heap.size, 0, none⟩ 1 1 (Ev.cells ⟨g1, kind, obj, off, ek, en, fn, pc, stack⟩) rfl rfl ?c1 ?c2 ?c3 ?c4 ?c5 ?_)
        case c1 => exact fun j u hj => cells_new wr _ _ _ rfl _ j u hj
        case c2 =>
          intro u hu
          simp only [Ev.cells, List.mem_cons, List.not_mem_nil, or_false] at hu
          rcases hu with rfl | rfl | rfl | rfl | rfl | rfl | rfl | rfl | rfl <;> rfl
        case c3 => unfold maxLen; omega
        case c4 => omega
        case c5 => have := hb.size; simp; omega
        · intro v' w1 hown' hgrow _
          have hb' : Below w.heap.size w w1 := (hb.alloc hb.size _).grown hgrow (by have := hb.size; simp; omega) (fun j hj => (hown.lt j hj).1)
          have hst := selG_hit HE.out rfl
          rw [show (selG g1 (l.take k)).length + 1 = (selG g1 (l.take (k + 1))).length by rw [hst]; simp, show (selG g1 (l.take k)).flatMap Ev.cells ++ Ev.cells ⟨g1, kind, obj, off, ek, en, fn, pc, stack⟩ = (selG g1 (l.take (k + 1))).flatMap Ev.cells by rw [hst]; simp] at hown'
          clear hgrow hown hst q0 q1 q2 q3 q4 q5 q6 q7 q8
          go_wp2_with fail
          go_roundw
          case rel => exact ⟨k + 1, by omega, by go_num, hown', hb'⟩
          case measure => simp [intOf]; omega
      · have hst := selG_miss HE.out hg
        go_wp2_with fail
        go_roundw
        case rel => exact ⟨k + 1, by omega, by go_num, by rw [hst]; exact hown, hb⟩
        case measure => simp [intOf]; omega
    · have hkl : k = l.length := by omega
      subst hkl
      rw [List.take_length] at hown
      go_wp2_with fail
      go_ret
      exact ⟨_, rfl, hown, hb⟩
end Go.Proofs.Ytkdagjlkejefnaa
end
section
set_option linter.unusedSimpArgs false
set_option linter.unusedVariables false
namespace Go.Proofs.Ytkdagjlkejefnaa
open Go.RowKit

theorem rmemory_any (k : Int) (w : World) : Calls Try.prog 50 #[.int .i64 k] w fun e w' => e = .returned (.bool (memB k)) ∧ w = w' := by
  go_enter Try.func50, Try.ntmps50
  go_wp2
  all_goals (go_ret; refine ⟨ret_bool ?_, rfl⟩; unfold memB; rw [Bool.eq_iff_iff]; simp; try omega)

/-- event i is an access to the address -/
def atB (l : List Ev) (x y : Int) (i : Nat) : Bool := match l[i]? with
  | some e => memB e.kind && (e.obj == x && e.off == y)
  | none => false
def atL (l : List Ev) (x y : Int) (k : Nat) : List Nat := (List.range k).filter (atB l x y)
def intCells (l : List Nat) : List Value := l.map fun (i : Nat) => Value.int .i64 (i : Int)
theorem atL_hit {l : List Ev} {x y : Int} {k : Nat} (h : atB l x y k = true) : atL l x y (k + 1) = atL l x y k ++ [k] := by
  unfold atL; rw [List.range_succ, List.filter_append]; simp [h]
theorem atL_miss {l : List Ev} {x y : Int} {k : Nat} (h : atB l x y k = false) : atL l x y (k + 1) = atL l x y k := by
  unfold atL; rw [List.range_succ, List.filter_append]; simp [h]
theorem atL_le (l : List Ev) (x y : Int) (k : Nat) : (atL l x y k).length ≤ k := by
  have := List.length_filter_le (atB l x y) (List.range k)
  unfold atL; simpa using this

theorem Try.infoInt : (Try.prog.info? 3).map (fun i => (i.zero, i.size, i.bytes)) = some (some (.int .i64 0), 1, 8) := by kernel_rfl

set_option maxRecDepth 100000 in
set_option maxHeartbeats 4000000 in
theorem at_any (w : World) (v : Value) (l : List Ev) (h : EvAt w v l) (hl : l.length ≤ 1000000) (x y : Int) : Calls Try.prog 27 #[v, .agg #[.int .i64 x, .int .i64 y]] w fun r w' => ∃ v', r = .returned v' ∧ w'.ownsRow w.heap.size 3 1 v' (atL l x y l.length).length (intCells (atL l x y l.length)) ∧ Below w.heap.size w w' := by
  obtain ⟨i0, hi, hz0, hz1, hz2⟩ := info_parts Try.infoInt
  obtain ⟨A, c, rfl, hlc, hc63, hA⟩ := h
  have HA := Lib.hid hA; clear hA
  go_enter Try.func27, Try.ntmps27
  go_wp2
  generalize hX : World.alloc w _ = W
  have p0 : W.cell? ⟨w.heap.size, 0, none⟩ = some (.int .i64 x) := by rw [← hX]; exact cells_new w #[.int .i64 x, .int .i64 y] _ _ rfl _ 0 _ rfl
  have p1 : W.cell? ⟨w.heap.size, 1, none⟩ = some (.int .i64 y) := by rw [← hX]; exact cells_new w #[.int .i64 x, .int .i64 y] _ _ rfl _ 1 _ rfl
  have hbW : Below w.heap.size w W := by rw [← hX]; exact (Below.refl _ _).alloc (Nat.le_refl _) _
  have hWs : W.heap.size = w.heap.size + 1 := by rw [← hX]; simp
  clear hX
  go_loopw [5, 10] (fun v' n wr => ∃ k : Nat, k ≤ l.length ∧ n = .int .i64 k ∧ wr.ownsRow W.heap.size 3 1 v' (atL l x y k).length (intCells (atL l x y k)) ∧ Below W.heap.size W wr)
    (fun _ n _ => l.length - (intOf n).toNat)
  case atStart => exact ⟨0, Nat.zero_le _, rfl, World.ownsRow_nil _ _ _ _, Below.refl _ _⟩
  case round =>
    obtain ⟨k, hk, rfl, hown, hb⟩ := hrel
    have hsl := atL_le l x y k
    have s0 := (hb.cell (by rw [hWs]; simp)).trans p0
    have s1 := (hb.cell (by rw [hWs]; simp)).trans p1
    have hlt2 : w.heap.size < wr.heap.size := by have := hb.size; omega
    have HWs := Lib.hid hWs; clear hWs
    by_cases hlt : k < l.length
    · obtain ⟨b, o, rfl, hcell⟩ := HA.out (by omega)
      obtain ⟨e, he⟩ : ∃ e, l[k]? = some e := ⟨_, List.getElem?_eq_getElem hlt⟩
      have hcl : ∀ j x, e.cells[j]? = some x → wr.cell? ⟨b, o + (k * 9 + j), none⟩ = some x := fun j x hx => by
        have h5 := hcell k e he j x hx
        have h6 := (hbW.cell (block_lt_of_cell h5)).trans h5
        exact (hb.cell (block_lt_of_cell h6)).trans h6
      have hat : atB l x y k = (memB e.kind && (e.obj == x && e.off == y)) := by unfold atB; rw [he]
      have HAT := Lib.hid hat; clear hat he
      obtain ⟨g1, kind, obj, off, ek, en, fn, pc, stack⟩ := e
      have q0 : wr.cell? ⟨b, o + k * 9, none⟩ = some (.int .i64 g1) := hcl 0 _ rfl
      have q1 : wr.cell? ⟨b, o + k * 9 + 1, none⟩ = some (.int .i64 kind) := hcl 1 _ rfl
      have q2 : wr.cell? ⟨b, o + k * 9 + 2, none⟩ = some (.int .i64 obj) := hcl 2 _ rfl
      have q3 : wr.cell? ⟨b, o + k * 9 + 3, none⟩ = some (.int .i64 off) := hcl 3 _ rfl
      have q4 : wr.cell? ⟨b, o + k * 9 + 4, none⟩ = some (.int .i64 ek) := hcl 4 _ rfl
      have q5 : wr.cell? ⟨b, o + k * 9 + 5, none⟩ = some (.int .i64 en) := hcl 5 _ rfl
      have q6 : wr.cell? ⟨b, o + k * 9 + 6, none⟩ = some (.int .i64 fn) := hcl 6 _ rfl
      have q7 : wr.cell? ⟨b, o + k * 9 + 7, none⟩ = some (.int .i64 pc) := hcl 7 _ rfl
      have q8 : wr.cell? ⟨b, o + k * 9 + 8, none⟩ = some (.int .i64 stack) := hcl 8 _ rfl
      clear hcl hcell
      cases hm : memB kind with
      | false =>
        have hM := memory_any kind
        rw [hm] at hM
        have HM := Lib.hid hM; clear hM
        have hst := atL_miss (k := k) (by rw [HAT.out]; simp only [hm, Bool.false_and])
        clear hm
        go_wp2_with ((go_at_call 49; refine (HM.out _).mono ?_; rintro r w2 ⟨rfl, rfl⟩))
        go_roundw
        case rel => exact ⟨k + 1, by omega, by go_num, by rw [hst]; exact hown.alloc _, hb.alloc hb.size _⟩
        case measure => simp [intOf]; omega
      | true =>
        have hM := memory_any kind
        rw [hm] at hM
        have HM := Lib.hid hM; clear hM
        by_cases hxy : obj = x ∧ off = y
        · obtain ⟨rfl, rfl⟩ := hxy
          have hst := atL_hit (k := k) (by rw [HAT.out]; simp [hm])
          clear hm
          go_wp2_with (first
            | (go_at_call 49; refine (HM.out _).mono ?_; rintro r w2 ⟨rfl, rfl⟩)
            | (at_builtin; refine wpList_append_own _ rfl _ _ 49 rfl W.heap.size 3 i0 (.int .i64 0) 1 8 Try.underlying49 hi hz0 hz1 hz2 rfl (by decide) _ _ _ rfl ((hown.alloc _).alloc _) ⟨wr.heap.size + 1, 0, none⟩ 1 1 [.int .i64 k] rfl rfl ?c1 ?c2 ?c3 ?c4 ?c5 ?_))
          case c1 => exact fun j u hj => cells_new (wr.alloc _) #[_] _ _ (by simp) _ j u hj
          case c2 => intro u hu; simp at hu; subst hu; rfl
          case c3 => unfold maxLen; omega
          case c4 => omega
          case c5 => have := hb.size; simp; omega
          intro v' w1 hown' hgrow _
          have hb' : Below W.heap.size W w1 := ((hb.alloc hb.size _).alloc (by have := hb.size; simp; omega) _).grown hgrow (by have := hb.size; simp; omega) (fun j hj => (hown.lt j hj).1)
          rw [show (atL l obj off k).length + 1 = (atL l obj off (k + 1)).length by rw [hst]; simp, show intCells (atL l obj off k) ++ [.int .i64 k] = intCells (atL l obj off (k + 1)) by rw [hst]; simp [intCells]] at hown'
          clear hgrow hown hst q0 q1 q2 q3 q4 q5 q6 q7 q8 s0 s1
          go_wp2_with fail
          go_roundw
          case rel => exact ⟨k + 1, by omega, by go_num, hown', hb'⟩
          case measure => simp [intOf]; omega
        · by_cases hx : obj = x
          case pos =>
           subst hx
           have hy : ¬ off = y := fun h2 => hxy ⟨rfl, h2⟩
           have hy' : ¬ y = off := fun h2 => hy h2.symm
           clear hxy
           have hst := atL_miss (k := k) (by rw [HAT.out]; simp [hm, hy])
           clear hm
           go_wp2_with ((go_at_call 49; refine (HM.out _).mono ?_; rintro r w2 ⟨rfl, rfl⟩))
           all_goals go_roundw
           case rel => exact ⟨k + 1, by omega, by go_num, by rw [hst]; exact hown.alloc _, hb.alloc hb.size _⟩
           case measure => simp [intOf]; omega
          case neg =>
           have hx' : ¬ x = obj := fun h2 => hx h2.symm
           clear hxy
           have hst := atL_miss (k := k) (by rw [HAT.out]; simp [hm, hx])
           clear hm
           go_wp2_with ((go_at_call 49; refine (HM.out _).mono ?_; rintro r w2 ⟨rfl, rfl⟩))
           all_goals go_roundw
           case rel => exact ⟨k + 1, by omega, by go_num, by rw [hst]; exact hown.alloc _, hb.alloc hb.size _⟩
           case measure => simp [intOf]; omega
    · have hkl : k = l.length := by omega
      subst hkl
      go_wp2_with fail
      go_ret
      exact ⟨_, rfl, ⟨hown.1, hown.2.imp id fun ⟨g, cap, cur, h1, h2, h3⟩ => ⟨g, cap, cur, h1, Nat.le_trans hbW.size h2, h3⟩⟩, hbW.trans (hb.mono hbW.size)⟩
end Go.Proofs.Ytkdagjlkejefnaa
end
section
set_option linter.unusedSimpArgs false
set_option linter.unusedVariables false
namespace Go.Proofs.Ytkdagjlkejefnaa
open Go.RowKit

set_option maxRecDepth 100000 in
set_option maxHeartbeats 4000000 in
theorem rat_any (w : World) (v : Value) (l : List Ev) (h : EvAt w v l) (hl : l.length ≤ 1000000) (x y : Int) : Calls Try.prog 28 #[v, .agg #[.int .i64 x, .int .i64 y]] w fun r w' => ∃ v', r = .returned v' ∧ w'.ownsRow w.heap.size 3 1 v' (atL l x y l.length).length (intCells (atL l x y l.length)) ∧ Below w.heap.size w w' := by
  obtain ⟨i0, hi, hz0, hz1, hz2⟩ := info_parts Try.infoInt
  obtain ⟨A, c, rfl, hlc, hc63, hA⟩ := h
  have HA := Lib.hid hA; clear hA
  go_enter Try.func28, Try.ntmps28
  go_wp2
  generalize hX : World.alloc w _ = W
  have p0 : W.cell? ⟨w.heap.size, 0, none⟩ = some (.int .i64 x) := by rw [← hX]; exact cells_new w #[.int .i64 x, .int .i64 y] _ _ rfl _ 0 _ rfl
  have p1 : W.cell? ⟨w.heap.size, 1, none⟩ = some (.int .i64 y) := by rw [← hX]; exact cells_new w #[.int .i64 x, .int .i64 y] _ _ rfl _ 1 _ rfl
  have hbW : Below w.heap.size w W := by rw [← hX]; exact (Below.refl _ _).alloc (Nat.le_refl _) _
  have hWs : W.heap.size = w.heap.size + 1 := by rw [← hX]; simp
  clear hX
  go_loopw [5, 6] (fun v' n wr => ∃ k : Nat, k ≤ l.length ∧ n = .int .i64 k ∧ wr.ownsRow W.heap.size 3 1 v' (atL l x y k).length (intCells (atL l x y k)) ∧ Below W.heap.size W wr)
    (fun _ n _ => l.length - (intOf n).toNat)
  case atStart => exact ⟨0, Nat.zero_le _, rfl, World.ownsRow_nil _ _ _ _, Below.refl _ _⟩
  case round =>
    obtain ⟨k, hk, rfl, hown, hb⟩ := hrel
    have hsl := atL_le l x y k
    have s0 := (hb.cell (by rw [hWs]; simp)).trans p0
    have s1 := (hb.cell (by rw [hWs]; simp)).trans p1
    have hlt2 : w.heap.size < wr.heap.size := by have := hb.size; omega
    have HWs := Lib.hid hWs; clear hWs
    by_cases hlt : k < l.length
    · obtain ⟨b, o, rfl, hcell⟩ := HA.out (by omega)
      obtain ⟨e, he⟩ : ∃ e, l[k]? = some e := ⟨_, List.getElem?_eq_getElem hlt⟩
      have hcl : ∀ j x, e.cells[j]? = some x → wr.cell? ⟨b, o + (k * 9 + j), none⟩ = some x := fun j x hx => by
        have h5 := hcell k e he j x hx
        have h6 := (hbW.cell (block_lt_of_cell h5)).trans h5
        exact (hb.cell (block_lt_of_cell h6)).trans h6
      have hat : atB l x y k = (memB e.kind && (e.obj == x && e.off == y)) := by unfold atB; rw [he]
      have HAT := Lib.hid hat; clear hat he
      obtain ⟨g1, kind, obj, off, ek, en, fn, pc, stack⟩ := e
      have ik : (k : Int) < (l.length : Int) := by omega
      have q0 : wr.cell? ⟨b, o + k * 9, none⟩ = some (.int .i64 g1) := hcl 0 _ rfl
      have q1 : wr.cell? ⟨b, o + k * 9 + 1, none⟩ = some (.int .i64 kind) := hcl 1 _ rfl
      have q2 : wr.cell? ⟨b, o + k * 9 + 2, none⟩ = some (.int .i64 obj) := hcl 2 _ rfl
      have q3 : wr.cell? ⟨b, o + k * 9 + 3, none⟩ = some (.int .i64 off) := hcl 3 _ rfl
      have q4 : wr.cell? ⟨b, o + k * 9 + 4, none⟩ = some (.int .i64 ek) := hcl 4 _ rfl
      have q5 : wr.cell? ⟨b, o + k * 9 + 5, none⟩ = some (.int .i64 en) := hcl 5 _ rfl
      have q6 : wr.cell? ⟨b, o + k * 9 + 6, none⟩ = some (.int .i64 fn) := hcl 6 _ rfl
      have q7 : wr.cell? ⟨b, o + k * 9 + 7, none⟩ = some (.int .i64 pc) := hcl 7 _ rfl
      have q8 : wr.cell? ⟨b, o + k * 9 + 8, none⟩ = some (.int .i64 stack) := hcl 8 _ rfl
      clear hcl hcell
      cases hm : memB kind with
      | false =>
        have hM := rmemory_any kind
        rw [hm] at hM
        have HM := Lib.hid hM; clear hM
        have hst := atL_miss (k := k) (by rw [HAT.out]; simp only [hm, Bool.false_and])
        clear hm
        go_wp2_with fail
        go_quiet ((go_at_call 50; exact Calls.quiet_of_same ((HM.out _).mono (fun _ _ h => ⟨h.1, h.2.symm⟩))))
        go_wp2
        go_roundw
        case rel => exact ⟨k + 1, by omega, by go_num, by rw [hst]; exact hown, ⟨hb.os, hb.tape, hb.output, hb.size, hb.block⟩⟩
        case measure => simp [intOf]; omega
      | true =>
        have hM := rmemory_any kind
        rw [hm] at hM
        have HM := Lib.hid hM; clear hM
        by_cases hxy : obj = x ∧ off = y
        · obtain ⟨rfl, rfl⟩ := hxy
          have hst := atL_hit (k := k) (by rw [HAT.out]; simp [hm])
          clear hm
          go_wp2_with fail
          go_quiet ((go_at_call 50; exact Calls.quiet_of_same ((HM.out _).mono (fun _ _ h => ⟨h.1, h.2.symm⟩))))
          go_wp2_with (at_builtin; refine wpList_append_own _ rfl _ _ 49 rfl W.heap.size 3 i0 (.int .i64 0) 1 8 Try.underlying49 hi hz0 hz1 hz2 rfl (by decide) _ _ _ rfl ((show (wr.drewN _).ownsRow _ _ _ _ _ _ from hown).alloc _) ⟨wr.heap.size, 0, none⟩ 1 1 [.int .i64 k] rfl rfl ?c1 ?c2 ?c3 ?c4 ?c5 ?_)
          case c1 => exact fun j u hj => cells_new (wr.drewN _) #[_] _ _ rfl _ j u hj
          case c2 => intro u hu; simp at hu; subst hu; rfl
          case c3 => unfold maxLen; omega
          case c4 => omega
          case c5 => have := hb.size; simp; omega
          intro v' w1 hown' hgrow _
          have hb' : Below W.heap.size W w1 := ((show Below W.heap.size W (wr.drewN _) from ⟨hb.os, hb.tape, hb.output, hb.size, hb.block⟩).alloc hb.size _).grown hgrow (by have := hb.size; simp; omega) (fun j hj => (hown.lt j hj).1)
          rw [show (atL l obj off k).length + 1 = (atL l obj off (k + 1)).length by rw [hst]; simp, show intCells (atL l obj off k) ++ [.int .i64 k] = intCells (atL l obj off (k + 1)) by rw [hst]; simp [intCells]] at hown'
          clear hgrow hown hst q0 q1 q2 q3 q4 q5 q6 q7 q8 s0 s1
          go_wp2_with fail
          go_roundw
          case rel => exact ⟨k + 1, by omega, by go_num, hown', hb'⟩
          case measure => simp [intOf]; omega
        · by_cases hx : obj = x
          case pos =>
           subst hx
           have hy : ¬ off = y := fun h2 => hxy ⟨rfl, h2⟩
           have hd : (off == y) = false := by simpa using hy
           clear hxy
           have hst := atL_miss (k := k) (by rw [HAT.out]; simp [hm, hy])
           clear hm
           go_wp2_with fail
           go_quiet ((go_at_call 50; exact Calls.quiet_of_same ((HM.out _).mono (fun _ _ h => ⟨h.1, h.2.symm⟩))))
           go_wp2
           go_roundw
           case rel => exact ⟨k + 1, by omega, by go_num, by rw [hst]; exact hown, ⟨hb.os, hb.tape, hb.output, hb.size, hb.block⟩⟩
           case measure => simp [intOf]; omega
          case neg =>
           have hd : (obj == x) = false := by simpa using hx
           clear hxy
           have hst := atL_miss (k := k) (by rw [HAT.out]; simp [hm, hx])
           clear hm
           go_wp2_with fail
           go_quiet ((go_at_call 50; exact Calls.quiet_of_same ((HM.out _).mono (fun _ _ h => ⟨h.1, h.2.symm⟩))))
           go_wp2
           go_roundw
           case rel => exact ⟨k + 1, by omega, by go_num, by rw [hst]; exact hown, ⟨hb.os, hb.tape, hb.output, hb.size, hb.block⟩⟩
           case measure => simp [intOf]; omega
    · have hkl : k = l.length := by omega
      subst hkl
      go_wp2_with fail
      go_ret
      exact ⟨_, rfl, ⟨hown.1, hown.2.imp id fun ⟨g, cap, cur, h1, h2, h3⟩ => ⟨g, cap, cur, h1, Nat.le_trans hbW.size h2, h3⟩⟩, hbW.trans (hb.mono hbW.size)⟩
end Go.Proofs.Ytkdagjlkejefnaa
end
section
set_option linter.unusedSimpArgs false
set_option linter.unusedVariables false
namespace Go.Proofs.Ytkdagjlkejefnaa
open Go Go.RowKit
set_option maxRecDepth 100000
set_option maxHeartbeats 4000000

theorem Ev.cells_one (e : Ev) (u : Value) (h : u ∈ e.cells) : u.oneCell' = true := by
  simp only [Ev.cells, List.mem_cons, List.not_mem_nil, or_false] at h
  rcases h with rfl | rfl | rfl | rfl | rfl | rfl | rfl | rfl | rfl <;> rfl
theorem ev_own {w : World} {B : Nat} {E : TypeId} {v : Value} {l : List Ev} (h : w.ownsRow B E 9 v l.length (l.flatMap Ev.cells)) (S : Nat → Nat) : ∃ S', RD S' w (evsD l) v ∧ ∀ b, b < B → S' b = S b :=
  rows_own l Ev.cells (fun _ => rfl) Ev.cells_one h S
theorem int_own {w : World} {B : Nat} {E : TypeId} {v : Value} {l : List Nat} (h : w.ownsRow B E 1 v l.length (intCells l)) (S : Nat → Nat) : ∃ S', RD S' w (intsD (l.map fun (i : Nat) => (i : Int))) v ∧ ∀ b, b < B → S' b = S b := by
  have h' : w.ownsRow B E 1 v l.length (l.flatMap fun (i : Nat) => [.int .i64 (i : Int)]) := by
    rw [show (l.flatMap fun (i : Nat) => [Value.int .i64 (i : Int)]) = intCells l by unfold intCells; rw [List.map_eq_flatMap]]; exact h
  have := rows_own l (fun (i : Nat) => [.int .i64 (i : Int)]) (fun _ => rfl) (fun x u h => by simp at h; subst h; rfl) h' S
  obtain ⟨S', h1, h2⟩ := this
  refine ⟨S', ?_, h2⟩
  unfold intsD
  rw [List.map_map]
  exact h1

def locPa (x y : Int) : Pa := .agg (locRow (x, y))
theorem RP.loc {S : Nat → Nat} {w : World} {x y : Int} {u : Value} (h : RP S w (locPa x y) u) : u = .agg #[.int .i64 x, .int .i64 y] := RP.flat (vs := [.int .i64 x, .int .i64 y]) h

def R_at (ps rs : List Pa) : Prop := ∃ (l : List Ev) (x y : Int), ps = [evsPa l, locPa x y] ∧ l.length ≤ 1000000 ∧ rs = [.one (intsD ((atL l x y l.length).map fun (i : Nat) => (i : Int)))]
theorem s_tAt : Spec Try.prog 27 R_at := by
  rintro ps rs ⟨l, x, y, rfl, hl, rfl⟩ S w vals _ hv
  obtain ⟨u, v, rfl, h1, h2⟩ := hv.two
  obtain rfl := h2.loc
  refine (at_any w u l (RD.evs h1) hl x y).mono ?_
  rintro r w' ⟨v', rfl, h3, h4⟩
  obtain ⟨S', h5, h6⟩ := int_own h3 S
  exact ⟨v', S', rfl, h5, h4, h6⟩
theorem s_rAt : Spec Try.prog 28 R_at := by
  rintro ps rs ⟨l, x, y, rfl, hl, rfl⟩ S w vals _ hv
  obtain ⟨u, v, rfl, h1, h2⟩ := hv.two
  obtain rfl := h2.loc
  refine (rat_any w u l (RD.evs h1) hl x y).mono ?_
  rintro r w' ⟨v', rfl, h3, h4⟩
  obtain ⟨S', h5, h6⟩ := int_own h3 S
  exact ⟨v', S', rfl, h5, h4, h6⟩
def R_project (ps rs : List Pa) : Prop := ∃ (l : List Ev) (g : Int), ps = [evsPa l, pI g] ∧ l.length ≤ 1000000 ∧ rs = [evsPa (selG g l)]
theorem s_tProject : Spec Try.prog 30 R_project := by
  rintro ps rs ⟨l, x, rfl, hl, rfl⟩ S w vals _ hv
  obtain ⟨u, v, rfl, h1, h2⟩ := hv.two
  obtain rfl := h2.int
  refine (project_any w u l (RD.evs h1) hl x).mono ?_
  rintro r w' ⟨v', rfl, h3, h4⟩
  obtain ⟨S', h5, h6⟩ := ev_own h3 S
  exact ⟨v', S', rfl, h5, h4, h6⟩
theorem s_rProject : Spec Try.prog 31 R_project := by
  rintro ps rs ⟨l, x, rfl, hl, rfl⟩ S w vals _ hv
  obtain ⟨u, v, rfl, h1, h2⟩ := hv.two
  obtain rfl := h2.int
  refine (rproject_any w u l (RD.evs h1) hl x).mono ?_
  rintro r w' ⟨v', rfl, h3, h4⟩
  obtain ⟨S', h5, h6⟩ := ev_own h3 S
  exact ⟨v', S', rfl, h5, h4, h6⟩
def R_awake (ps rs : List Pa) : Prop := ps = [] ∧ rs = [pB true]
theorem s_awake : Spec Try.prog 12 R_awake := by
  rintro ps rs ⟨rfl, rfl⟩ S w vals _ hv
  obtain rfl := hv.nil
  refine (awake_any w).mono ?_
  rintro r w' ⟨rfl, h4⟩
  exact ⟨_, S, rfl, RP.mkBool true, h4, fun _ _ => rfl⟩
def R_same (ps rs : List Pa) : Prop := ∃ l : List Ev, ps = [evsPa l, evsPa l] ∧ l.length ≤ 1000000 ∧ rs = [pB true]
theorem s_same : Spec Try.prog 29 R_same := by
  refine sp29 EnvOK.e0 ?_
  rintro ps rs ⟨l, rfl, hlen, rfl⟩
  refine ⟨by simp, ?_⟩
  unfold pc29
  refine pwp_start ?_
  simp only [↓evP, evB, stB, reduceIte, reduceCtorEq, Nat.reduceEqDiff, Nat.reduceAdd, Nat.reduceMul, Nat.reduceLeDiff, Nat.reduceLT, Nat.reduceSub, Nat.reduceBEq, evsPa, evsD, bne_self_eq_false, reduceCtorEq]
  refine pwp_loopW ms29_0 os29_0 (fun m st => ∃ k : Nat, m = l.length - k ∧ k ≤ l.length ∧ st.sl 5 = aI k) l.length ?_ ?_
  · exact ⟨0, rfl, Nat.zero_le _, by simp only [stB, reduceIte, reduceCtorEq, Nat.reduceEqDiff, Nat.reduceAdd, Nat.reduceMul, Nat.reduceLeDiff, Nat.reduceLT, Nat.reduceSub, Nat.reduceBEq]; rfl⟩
  · rintro m j ⟨k, rfl, hk, h5⟩
    simp only [stB, reduceIte, reduceCtorEq, Nat.reduceEqDiff, Nat.reduceAdd, Nat.reduceMul, Nat.reduceLeDiff, Nat.reduceLT, Nat.reduceSub, Nat.reduceBEq] at h5
    rcases Nat.lt_or_ge k l.length with hlt | hge
    · obtain ⟨c, hc⟩ : ∃ c, l[k]? = some c := ⟨_, List.getElem?_eq_getElem hlt⟩
      simp only [↓evP, evB, stB, reduceIte, reduceCtorEq, Nat.reduceEqDiff, Nat.reduceAdd, Nat.reduceMul, Nat.reduceLeDiff, Nat.reduceLT, Nat.reduceSub, Nat.reduceBEq, h5, hc, Ev.row, pr29, bne_self_eq_false, beq_self_eq_true, Bool.false_eq_true]
      refine fun _ => ⟨(by unfold Drw; kernel_rfl), ?_⟩
      exact ⟨_, by omega, (by repeat' (first | assumption | exact within_over.mpr trivial | exact Within.refl _ _ _ | (refine within_ap ?_ rfl rfl) | (refine within_ap0 ?_ rfl))), k + 1, rfl, by omega, by simp only [stB, reduceIte, reduceCtorEq, Nat.reduceEqDiff, Nat.reduceAdd, Nat.reduceMul, Nat.reduceLeDiff, Nat.reduceLT, Nat.reduceSub, Nat.reduceBEq, h5]; rw [wrN (by omega)]⟩
    · simp only [↓evP, evB, stB, reduceIte, reduceCtorEq, Nat.reduceEqDiff, Nat.reduceAdd, Nat.reduceMul, Nat.reduceLeDiff, Nat.reduceLT, Nat.reduceSub, Nat.reduceBEq, h5, pr29]
      exact fun h => absurd h (by omega)

def R_tproject (ps rs : List Pa) : Prop := ∃ (l : List Ev) (g x y : Int), ps = [evsPa l, pI g, locPa x y] ∧ rs = [pB true]
def env_tproject : Env := e1 12 R_awake (e1 27 R_at (e1 28 R_at (e1 30 R_project (e1 31 R_project (e1 29 R_same e0)))))
theorem env_tproject_ok : EnvOK Try.prog env_tproject := EnvOK.e1 s_awake (EnvOK.e1 s_tAt (EnvOK.e1 s_rAt (EnvOK.e1 s_tProject (EnvOK.e1 s_rProject (EnvOK.e1 s_same EnvOK.e0)))))
theorem s_tproject : Spec Try.prog 10 R_tproject := by
  refine sp10 env_tproject_ok ?_
  rintro ps rs ⟨l, g, x, y, rfl, rfl⟩
  refine ⟨by simp, ?_⟩
  unfold pc10
  refine pwp_start ?_
  simp only [↓evP, evB, stB, reduceIte, reduceCtorEq, Nat.reduceEqDiff, Nat.reduceAdd, Nat.reduceMul, Nat.reduceLeDiff, Nat.reduceLT, Nat.reduceSub, Nat.reduceBEq, evsPa, evsD, locPa, locRow]
  refine callOps_intro [pB true] ⟨rfl, rfl⟩ ?_
  simp only [↓evP, evB, stB, reduceIte, reduceCtorEq, Nat.reduceEqDiff, Nat.reduceAdd, Nat.reduceMul, Nat.reduceLeDiff, Nat.reduceLT, Nat.reduceSub, Nat.reduceBEq, pr10]
  refine fun hlen => ?_
  have hl : l.length ≤ 1000000 := by omega
  refine callD_intro [.one (intsD ((atL l x y l.length).map fun (i : Nat) => (i : Int)))] ⟨l, x, y, rfl, hl, rfl⟩ ?_
  simp only [↓evP, evB, stB, reduceIte, reduceCtorEq, Nat.reduceEqDiff, Nat.reduceAdd, Nat.reduceMul, Nat.reduceLeDiff, Nat.reduceLT, Nat.reduceSub, Nat.reduceBEq]
  refine callD_intro [.one (intsD ((atL l x y l.length).map fun (i : Nat) => (i : Int)))] ⟨l, x, y, rfl, hl, rfl⟩ ?_
  have hal := atL_le l x y l.length
  generalize atL l x y l.length = al at hal
  simp only [↓evP, evB, stB, reduceIte, reduceCtorEq, Nat.reduceEqDiff, Nat.reduceAdd, Nat.reduceMul, Nat.reduceLeDiff, Nat.reduceLT, Nat.reduceSub, Nat.reduceBEq, intsD, bne_self_eq_false]
  refine ⟨(by unfold Drw; kernel_rfl), ?_⟩
  have hsg : (selG g l).length ≤ l.length := List.length_filter_le _ _
  refine callOps_intro [evsPa (selG g l)] ⟨l, g, rfl, hl, rfl⟩ ?_
  simp only [↓evP, evB, stB, reduceIte, reduceCtorEq, Nat.reduceEqDiff, Nat.reduceAdd, Nat.reduceMul, Nat.reduceLeDiff, Nat.reduceLT, Nat.reduceSub, Nat.reduceBEq, evsPa, evsD]
  refine callOps_intro [evsPa (selG g l)] ⟨l, g, rfl, hl, rfl⟩ ?_
  simp only [↓evP, evB, stB, reduceIte, reduceCtorEq, Nat.reduceEqDiff, Nat.reduceAdd, Nat.reduceMul, Nat.reduceLeDiff, Nat.reduceLT, Nat.reduceSub, Nat.reduceBEq, evsPa, evsD]
  refine callOps_intro [pB true] ⟨selG g l, rfl, by omega, rfl⟩ ?_
  simp only [↓evP, evB, stB, reduceIte, reduceCtorEq, Nat.reduceEqDiff, Nat.reduceAdd, Nat.reduceMul, Nat.reduceLeDiff, Nat.reduceLT, Nat.reduceSub, Nat.reduceBEq]
  refine pwp_loopW ms10_0 os10_0 (fun m st => ∃ k : Nat, m = al.length - k ∧ k ≤ al.length ∧ st.sl 38 = aI k) al.length ?_ ?_
  · exact ⟨0, rfl, Nat.zero_le _, by simp only [stB, reduceIte, reduceCtorEq, Nat.reduceEqDiff, Nat.reduceAdd, Nat.reduceMul, Nat.reduceLeDiff, Nat.reduceLT, Nat.reduceSub, Nat.reduceBEq]; rfl⟩
  · rintro m j ⟨k, rfl, hk, h5⟩
    simp only [stB, reduceIte, reduceCtorEq, Nat.reduceEqDiff, Nat.reduceAdd, Nat.reduceMul, Nat.reduceLeDiff, Nat.reduceLT, Nat.reduceSub, Nat.reduceBEq] at h5
    rcases Nat.lt_or_ge k al.length with hlt | hge
    · obtain ⟨c, hc⟩ : ∃ c, al[k]? = some c := ⟨_, List.getElem?_eq_getElem hlt⟩
      simp only [↓evP, evB, stB, reduceIte, reduceCtorEq, Nat.reduceEqDiff, Nat.reduceAdd, Nat.reduceMul, Nat.reduceLeDiff, Nat.reduceLT, Nat.reduceSub, Nat.reduceBEq, h5, hc, pr10, bne_self_eq_false, Bool.false_eq_true]
      refine fun _ => ⟨(by unfold Drw; kernel_rfl), ?_⟩
      exact ⟨_, by omega, (by repeat' (first | assumption | exact within_over.mpr trivial | exact Within.refl _ _ _ | (refine within_ap ?_ rfl rfl) | (refine within_ap0 ?_ rfl))), k + 1, rfl, by omega, by simp only [stB, reduceIte, reduceCtorEq, Nat.reduceEqDiff, Nat.reduceAdd, Nat.reduceMul, Nat.reduceLeDiff, Nat.reduceLT, Nat.reduceSub, Nat.reduceBEq, h5]; rw [wrN (by omega)]⟩
    · simp only [↓evP, evB, stB, reduceIte, reduceCtorEq, Nat.reduceEqDiff, Nat.reduceAdd, Nat.reduceMul, Nat.reduceLeDiff, Nat.reduceLT, Nat.reduceSub, Nat.reduceBEq, h5, pr10]
      exact fun h => absurd h (by omega)
end Go.Proofs.Ytkdagjlkejefnaa
end
section
set_option linter.unusedSimpArgs false
set_option linter.unusedVariables false
namespace Go.Proofs.Ytkdagjlkejefnaa
open Go.RowKit
set_option maxRecDepth 100000
set_option maxHeartbeats 4000000

theorem sgor_any {sb bc bm bd N : Nat} {s : TS} {kv : Value} (w : World) (h : TRep w sb bc bm bd N s kv) : Calls Try.prog 22 #[.pointer (some ⟨sb, 0, none⟩)] w fun e w' => e = .returned (.int .i64 s.gor) ∧ w = w' := by
  have h1 : w.cell? ⟨sb, 1, none⟩ = some (.int .i64 s.gor) := by rw [h.cell 1]; rfl
  go_enter Try.func22, Try.ntmps22
  go_wp2
  go_ret
  exact ⟨rfl, rfl⟩
/-- the number of goroutines of a valid trace -/
def GorPost (w : World) (l : List Ev) (r : Ending) (w' : World) : Prop :=
  ∃ t, TS.new.steps (l.take (chk l)) = some t ∧ r = .returned (.int .i64 (if chk l = l.length then t.gor else 0)) ∧ Below w.heap.size w w'
theorem goroutines_any (w : World) (v : Value) (l : List Ev) (h : EvAt w v l) (hl : l.length ≤ 1000000) : Calls Try.prog 25 #[v] w (GorPost w l) := by
  have hf := follow_any w v l h hl
  obtain ⟨A, c, rfl, hlc, hc63, hA⟩ := h
  have HF := Lib.hid hf; clear hf hA
  go_enter Try.func25, Try.ntmps25
  go_wp2_with ((go_at_call 33; refine HF.out.mono ?_; rintro r w1 ⟨sb, bc, bm, bd, N, kv, t, rfl, hst, hT, hb⟩; have h1 : w1.cell? ⟨sb, 1, none⟩ = some (.int .i64 t.gor) := (by rw [hT.cell 1]; rfl)))
  · go_ret
    exact ⟨t, hst, by rw [if_neg (by omega)]; rfl, hb⟩
  · go_ret
    have hle := TS.chk_le TS.new l
    exact ⟨t, hst, by rw [if_pos (by unfold chk at *; omega)]; rfl, hb⟩
end Go.Proofs.Ytkdagjlkejefnaa
end
section
set_option linter.unusedSimpArgs false
set_option linter.unusedVariables false
namespace Go.Proofs.Ytkdagjlkejefnaa
open Go Go.RowKit
set_option maxRecDepth 100000
set_option maxHeartbeats 4000000

def R_channel (ps rs : List Pa) : Prop := ∃ (s : RSt) (obj n : Int), ps = [s.pa, pI obj, pI n] ∧ s.chans.length ≤ 1000000 ∧ rs = [.agg (s.channel obj n).row]
theorem s_channel : Spec Try.prog 55 R_channel := by
  refine sp55 EnvOK.e0 ?_
  rintro ps rs ⟨s, obj, n, rfl, hlen, rfl⟩
  refine ⟨by simp, ?_⟩
  unfold pc55
  refine pwp_start ?_
  simp only [↓evP, evB, stB, reduceIte, reduceCtorEq, Nat.reduceEqDiff, Nat.reduceAdd, Nat.reduceMul, Nat.reduceLeDiff, Nat.reduceLT, Nat.reduceSub, Nat.reduceBEq, RSt.pa, RSt.row]
  refine pwp_loopW ms55_0 os55_0 (fun m st => ∃ k : Nat, m = s.chans.length - k ∧ k ≤ s.chans.length ∧ (∀ i c, i < k → s.chans[i]? = some c → (c.obj == obj) = false) ∧ st.sl 7 = aI k ∧ st.ob 6 = .cells [.d (dI 0), .d (dI 0), .d (dI 0), .d (dI 0), .d (dB false)] ∧ st.gen 6 = 1) s.chans.length ?_ ?_
  · exact ⟨0, rfl, Nat.zero_le _, fun i c hi => absurd hi (Nat.not_lt_zero _), by simp only [stB, reduceIte, reduceCtorEq, Nat.reduceEqDiff, Nat.reduceAdd, Nat.reduceMul, Nat.reduceLeDiff, Nat.reduceLT, Nat.reduceSub, Nat.reduceBEq]; rfl, by simp only [stB, reduceIte, reduceCtorEq, Nat.reduceEqDiff, Nat.reduceAdd, Nat.reduceMul, Nat.reduceLeDiff, Nat.reduceLT, Nat.reduceSub, Nat.reduceBEq], by simp only [stB, reduceIte, reduceCtorEq, Nat.reduceEqDiff, Nat.reduceAdd, Nat.reduceMul, Nat.reduceLeDiff, Nat.reduceLT, Nat.reduceSub, Nat.reduceBEq]⟩
  · rintro m j ⟨k, rfl, hk, hno, h7, h6, g6⟩
    simp only [stB, reduceIte, reduceCtorEq, Nat.reduceEqDiff, Nat.reduceAdd, Nat.reduceMul, Nat.reduceLeDiff, Nat.reduceLT, Nat.reduceSub, Nat.reduceBEq] at h7 h6 g6
    rcases Nat.lt_or_ge k s.chans.length with hlt | hge
    · obtain ⟨c, hc⟩ : ∃ c, s.chans[k]? = some c := ⟨_, List.getElem?_eq_getElem hlt⟩
      simp only [↓evP, evB, stB, reduceIte, reduceCtorEq, Nat.reduceEqDiff, Nat.reduceAdd, Nat.reduceMul, Nat.reduceLeDiff, Nat.reduceLT, Nat.reduceSub, Nat.reduceBEq, h7, h6, g6, hc, RCh.row, pr55]
      refine ⟨fun _ => ⟨fun he => ?_, fun he => ?_⟩, fun h => absurd hlt (by omega)⟩
      · unfold RSt.channel; rw [find_hit hno hc he]; rfl
      · exact ⟨_, by omega, (by repeat' (first | assumption | exact within_over.mpr trivial | exact Within.refl _ _ _ | (refine within_ap ?_ rfl rfl) | (refine within_ap0 ?_ rfl))), k + 1, rfl, by omega, no_succ hno hc he, by simp only [stB, reduceIte, reduceCtorEq, Nat.reduceEqDiff, Nat.reduceAdd, Nat.reduceMul, Nat.reduceLeDiff, Nat.reduceLT, Nat.reduceSub, Nat.reduceBEq, h7]; rw [wrN (by omega)], by simp only [stB, reduceIte, reduceCtorEq, Nat.reduceEqDiff, Nat.reduceAdd, Nat.reduceMul, Nat.reduceLeDiff, Nat.reduceLT, Nat.reduceSub, Nat.reduceBEq, h6], by simp only [stB, reduceIte, reduceCtorEq, Nat.reduceEqDiff, Nat.reduceAdd, Nat.reduceMul, Nat.reduceLeDiff, Nat.reduceLT, Nat.reduceSub, Nat.reduceBEq, g6]⟩
    · simp only [↓evP, evB, stB, reduceIte, reduceCtorEq, Nat.reduceEqDiff, Nat.reduceAdd, Nat.reduceMul, Nat.reduceLeDiff, Nat.reduceLT, Nat.reduceSub, Nat.reduceBEq, h7, h6, g6, pr55]
      refine ⟨fun h => absurd h (by omega), fun h => ?_⟩
      unfold RSt.channel; rw [find_miss (fun i c hi hc => hno i c (by omega) hc)]; rfl

def R_setChannel (ps rs : List Pa) : Prop := ∃ (s : RSt) (c : RCh), ps = [s.pa, .agg c.row] ∧ s.chans.length ≤ 900000 ∧ rs = [(s.setChannel c).pa]
theorem s_setChannel : Spec Try.prog 60 R_setChannel := by
  refine sp60 EnvOK.e0 ?_
  rintro ps rs ⟨s, c, rfl, hlen, rfl⟩
  refine ⟨by simp, ?_⟩
  unfold pc60
  refine pwp_start ?_
  simp only [↓evP, evB, stB, reduceIte, reduceCtorEq, Nat.reduceEqDiff, Nat.reduceAdd, Nat.reduceMul, Nat.reduceLeDiff, Nat.reduceLT, Nat.reduceSub, Nat.reduceBEq, RSt.pa, RSt.row, RCh.row]
  refine pwp_loopW ms60_0 os60_0 (fun m st => ∃ k : Nat, m = s.chans.length - k ∧ k ≤ s.chans.length ∧ st.sl 6 = aI k ∧ st.gen 5 = 1 ∧ st.sl 5 = .b (.one (.own 5 1 (((s.chans.take k).filter (fun d => d.obj != c.obj)).map RCh.row))) ∧ st.ob 5 = .row 78 5 ((s.chans.take k).filter (fun d => d.obj != c.obj)).length) s.chans.length ?_ ?_
  · exact ⟨0, rfl, Nat.zero_le _, by simp only [stB, reduceIte, reduceCtorEq, Nat.reduceEqDiff, Nat.reduceAdd, Nat.reduceMul, Nat.reduceLeDiff, Nat.reduceLT, Nat.reduceSub, Nat.reduceBEq]; rfl, by simp only [stB, reduceIte, reduceCtorEq, Nat.reduceEqDiff, Nat.reduceAdd, Nat.reduceMul, Nat.reduceLeDiff, Nat.reduceLT, Nat.reduceSub, Nat.reduceBEq], by simp only [stB, reduceIte, reduceCtorEq, Nat.reduceEqDiff, Nat.reduceAdd, Nat.reduceMul, Nat.reduceLeDiff, Nat.reduceLT, Nat.reduceSub, Nat.reduceBEq, List.filter_nil], by simp only [stB, reduceIte, reduceCtorEq, Nat.reduceEqDiff, Nat.reduceAdd, Nat.reduceMul, Nat.reduceLeDiff, Nat.reduceLT, Nat.reduceSub, Nat.reduceBEq, List.filter_nil]⟩
  · rintro m j ⟨k, rfl, hk, h6, g5, h5, o5⟩
    simp only [stB, reduceIte, reduceCtorEq, Nat.reduceEqDiff, Nat.reduceAdd, Nat.reduceMul, Nat.reduceLeDiff, Nat.reduceLT, Nat.reduceSub, Nat.reduceBEq] at h6 g5 h5 o5
    rcases Nat.lt_or_ge k s.chans.length with hlt | hge
    · obtain ⟨d, hd⟩ : ∃ d, s.chans[k]? = some d := ⟨_, List.getElem?_eq_getElem hlt⟩
      have hb : ((s.chans.take k).filter (fun d => d.obj != c.obj)).length + 1 ≤ 1000000 := by have := filter_take_le s.chans (fun d => d.obj != c.obj) k; omega
      simp only [↓evP, evB, stB, reduceIte, reduceCtorEq, Nat.reduceEqDiff, Nat.reduceAdd, Nat.reduceMul, Nat.reduceLeDiff, Nat.reduceLT, Nat.reduceSub, Nat.reduceBEq, h6, g5, h5, o5, hd, RCh.row, hb]
      refine ⟨fun _ => ⟨(by unfold Drw; kernel_rfl), fun he => ?_, fun he => ?_⟩, fun h => absurd hlt (by omega)⟩
      · exact ⟨_, by omega, (by repeat' (first | assumption | exact within_over.mpr trivial | exact Within.refl _ _ _ | (refine within_ap ?_ rfl rfl) | (refine within_ap0 ?_ rfl))), k + 1, rfl, by omega, by simp only [stB, reduceIte, reduceCtorEq, Nat.reduceEqDiff, Nat.reduceAdd, Nat.reduceMul, Nat.reduceLeDiff, Nat.reduceLT, Nat.reduceSub, Nat.reduceBEq, h6]; rw [wrN (by omega)], by simp only [stB, reduceIte, reduceCtorEq, Nat.reduceEqDiff, Nat.reduceAdd, Nat.reduceMul, Nat.reduceLeDiff, Nat.reduceLT, Nat.reduceSub, Nat.reduceBEq, g5], by simp only [stB, reduceIte, reduceCtorEq, Nat.reduceEqDiff, Nat.reduceAdd, Nat.reduceMul, Nat.reduceLeDiff, Nat.reduceLT, Nat.reduceSub, Nat.reduceBEq, h5, filter_succ hd, he, List.map_append, RCh.row], by simp only [stB, reduceIte, reduceCtorEq, Nat.reduceEqDiff, Nat.reduceAdd, Nat.reduceMul, Nat.reduceLeDiff, Nat.reduceLT, Nat.reduceSub, Nat.reduceBEq, o5, filter_succ hd, he, List.length_append]⟩
      · exact ⟨_, by omega, (by repeat' (first | assumption | exact within_over.mpr trivial | exact Within.refl _ _ _ | (refine within_ap ?_ rfl rfl) | (refine within_ap0 ?_ rfl))), k + 1, rfl, by omega, by simp only [stB, reduceIte, reduceCtorEq, Nat.reduceEqDiff, Nat.reduceAdd, Nat.reduceMul, Nat.reduceLeDiff, Nat.reduceLT, Nat.reduceSub, Nat.reduceBEq, h6]; rw [wrN (by omega)], by simp only [stB, reduceIte, reduceCtorEq, Nat.reduceEqDiff, Nat.reduceAdd, Nat.reduceMul, Nat.reduceLeDiff, Nat.reduceLT, Nat.reduceSub, Nat.reduceBEq, g5], by simp [stB, reduceIte, reduceCtorEq, Nat.reduceEqDiff, Nat.reduceAdd, Nat.reduceMul, Nat.reduceLeDiff, Nat.reduceLT, Nat.reduceSub, Nat.reduceBEq, h5, filter_succ hd, he], by simp [stB, reduceIte, reduceCtorEq, Nat.reduceEqDiff, Nat.reduceAdd, Nat.reduceMul, Nat.reduceLeDiff, Nat.reduceLT, Nat.reduceSub, Nat.reduceBEq, o5, filter_succ hd, he]⟩
    · have hkl : k = s.chans.length := by omega
      subst hkl
      rw [List.take_length] at h5 o5
      have hb : (s.chans.filter (fun d => d.obj != c.obj)).length + 1 ≤ 1000000 := by have := List.length_filter_le (fun d : RCh => d.obj != c.obj) s.chans; omega
      simp only [↓evP, evB, stB, reduceIte, reduceCtorEq, Nat.reduceEqDiff, Nat.reduceAdd, Nat.reduceMul, Nat.reduceLeDiff, Nat.reduceLT, Nat.reduceSub, Nat.reduceBEq, h6, g5, h5, o5, hb, pr60]
      refine ⟨fun h => absurd h (by omega), fun _ => ?_⟩
      simp [RSt.setChannel, RCh.row, RSt.pa, RSt.row]

end Go.Proofs.Ytkdagjlkejefnaa
end
section
set_option linter.unusedSimpArgs false
set_option linter.unusedVariables false
namespace Go.Proofs.Ytkdagjlkejefnaa
open Go Go.RowKit
set_option maxRecDepth 100000
set_option maxHeartbeats 4000000

def R_lock (ps rs : List Pa) : Prop := ∃ (s : RSt) (obj off : Int), ps = [s.pa, pI obj, pI off] ∧ s.locks.length ≤ 1000000 ∧ rs = [.agg (s.lock obj off).row]
theorem s_lock : Spec Try.prog 61 R_lock := by
  refine sp61 EnvOK.e0 ?_
  rintro ps rs ⟨s, obj, off, rfl, hlen, rfl⟩
  refine ⟨by simp, ?_⟩
  unfold pc61
  refine pwp_start ?_
  simp only [↓evP, evB, stB, reduceIte, reduceCtorEq, Nat.reduceEqDiff, Nat.reduceAdd, Nat.reduceMul, Nat.reduceLeDiff, Nat.reduceLT, Nat.reduceSub, Nat.reduceBEq, RSt.pa, RSt.row]
  refine pwp_loopW ms61_0 os61_0 (fun m st => ∃ k : Nat, m = s.locks.length - k ∧ k ≤ s.locks.length ∧ (∀ i c, i < k → s.locks[i]? = some c → (c.obj == obj && c.off == off) = false) ∧ st.sl 7 = aI k ∧ st.ob 6 = .cells [.d (dI 0), .d (dI 0), .d (dB false), .d (dI 0)] ∧ st.gen 6 = 1) s.locks.length ?_ ?_
  · exact ⟨0, rfl, Nat.zero_le _, fun i c hi => absurd hi (Nat.not_lt_zero _), by simp only [stB, reduceIte, reduceCtorEq, Nat.reduceEqDiff, Nat.reduceAdd, Nat.reduceMul, Nat.reduceLeDiff, Nat.reduceLT, Nat.reduceSub, Nat.reduceBEq]; rfl, by simp only [stB, reduceIte, reduceCtorEq, Nat.reduceEqDiff, Nat.reduceAdd, Nat.reduceMul, Nat.reduceLeDiff, Nat.reduceLT, Nat.reduceSub, Nat.reduceBEq], by simp only [stB, reduceIte, reduceCtorEq, Nat.reduceEqDiff, Nat.reduceAdd, Nat.reduceMul, Nat.reduceLeDiff, Nat.reduceLT, Nat.reduceSub, Nat.reduceBEq]⟩
  · rintro m j ⟨k, rfl, hk, hno, h7, h6, g6⟩
    simp only [stB, reduceIte, reduceCtorEq, Nat.reduceEqDiff, Nat.reduceAdd, Nat.reduceMul, Nat.reduceLeDiff, Nat.reduceLT, Nat.reduceSub, Nat.reduceBEq] at h7 h6 g6
    rcases Nat.lt_or_ge k s.locks.length with hlt | hge
    · obtain ⟨c, hc⟩ : ∃ c, s.locks[k]? = some c := ⟨_, List.getElem?_eq_getElem hlt⟩
      simp only [↓evP, evB, stB, reduceIte, reduceCtorEq, Nat.reduceEqDiff, Nat.reduceAdd, Nat.reduceMul, Nat.reduceLeDiff, Nat.reduceLT, Nat.reduceSub, Nat.reduceBEq, h7, h6, g6, hc, RLk.row, pr61]
      refine ⟨fun _ => ⟨fun e1 => ⟨fun e2 => ?_, fun e2 => ?_⟩, fun e1 => ?_⟩, fun h => absurd hlt (by omega)⟩
      · unfold RSt.lock; rw [find_hit hno hc (by rw [e1, e2]; rfl)]; rfl
      · exact ⟨_, by omega, (by repeat' (first | assumption | exact within_over.mpr trivial | exact Within.refl _ _ _ | (refine within_ap ?_ rfl rfl) | (refine within_ap0 ?_ rfl))), k + 1, rfl, by omega, no_succ hno hc (by rw [e2, Bool.and_false]), by simp only [stB, reduceIte, reduceCtorEq, Nat.reduceEqDiff, Nat.reduceAdd, Nat.reduceMul, Nat.reduceLeDiff, Nat.reduceLT, Nat.reduceSub, Nat.reduceBEq, h7]; rw [wrN (by omega)], by simp only [stB, reduceIte, reduceCtorEq, Nat.reduceEqDiff, Nat.reduceAdd, Nat.reduceMul, Nat.reduceLeDiff, Nat.reduceLT, Nat.reduceSub, Nat.reduceBEq, h6], by simp only [stB, reduceIte, reduceCtorEq, Nat.reduceEqDiff, Nat.reduceAdd, Nat.reduceMul, Nat.reduceLeDiff, Nat.reduceLT, Nat.reduceSub, Nat.reduceBEq, g6]⟩
      · exact ⟨_, by omega, (by repeat' (first | assumption | exact within_over.mpr trivial | exact Within.refl _ _ _ | (refine within_ap ?_ rfl rfl) | (refine within_ap0 ?_ rfl))), k + 1, rfl, by omega, no_succ hno hc (by rw [e1]; rfl), by simp only [stB, reduceIte, reduceCtorEq, Nat.reduceEqDiff, Nat.reduceAdd, Nat.reduceMul, Nat.reduceLeDiff, Nat.reduceLT, Nat.reduceSub, Nat.reduceBEq, h7]; rw [wrN (by omega)], by simp only [stB, reduceIte, reduceCtorEq, Nat.reduceEqDiff, Nat.reduceAdd, Nat.reduceMul, Nat.reduceLeDiff, Nat.reduceLT, Nat.reduceSub, Nat.reduceBEq, h6], by simp only [stB, reduceIte, reduceCtorEq, Nat.reduceEqDiff, Nat.reduceAdd, Nat.reduceMul, Nat.reduceLeDiff, Nat.reduceLT, Nat.reduceSub, Nat.reduceBEq, g6]⟩
    · simp only [↓evP, evB, stB, reduceIte, reduceCtorEq, Nat.reduceEqDiff, Nat.reduceAdd, Nat.reduceMul, Nat.reduceLeDiff, Nat.reduceLT, Nat.reduceSub, Nat.reduceBEq, h7, h6, g6, pr61]
      refine ⟨fun h => absurd h (by omega), fun h => ?_⟩
      unfold RSt.lock; rw [find_miss (fun i c hi hc => hno i c (by omega) hc)]; rfl

def R_setLock (ps rs : List Pa) : Prop := ∃ (s : RSt) (c : RLk), ps = [s.pa, .agg c.row] ∧ s.locks.length ≤ 900000 ∧ rs = [(s.setLock c).pa]
theorem s_setLock : Spec Try.prog 62 R_setLock := by
  refine sp62 EnvOK.e0 ?_
  rintro ps rs ⟨s, c, rfl, hlen, rfl⟩
  refine ⟨by simp, ?_⟩
  unfold pc62
  refine pwp_start ?_
  simp only [↓evP, evB, stB, reduceIte, reduceCtorEq, Nat.reduceEqDiff, Nat.reduceAdd, Nat.reduceMul, Nat.reduceLeDiff, Nat.reduceLT, Nat.reduceSub, Nat.reduceBEq, RSt.pa, RSt.row, RLk.row]
  refine pwp_loopW ms62_0 os62_0 (fun m st => ∃ k : Nat, m = s.locks.length - k ∧ k ≤ s.locks.length ∧ st.sl 6 = aI k ∧ st.gen 5 = 1 ∧ st.sl 5 = .b (.one (.own 5 1 (((s.locks.take k).filter (fun d => d.obj != c.obj || d.off != c.off)).map RLk.row))) ∧ st.ob 5 = .row 88 4 ((s.locks.take k).filter (fun d => d.obj != c.obj || d.off != c.off)).length) s.locks.length ?_ ?_
  · exact ⟨0, rfl, Nat.zero_le _, by simp only [stB, reduceIte, reduceCtorEq, Nat.reduceEqDiff, Nat.reduceAdd, Nat.reduceMul, Nat.reduceLeDiff, Nat.reduceLT, Nat.reduceSub, Nat.reduceBEq]; rfl, by simp only [stB, reduceIte, reduceCtorEq, Nat.reduceEqDiff, Nat.reduceAdd, Nat.reduceMul, Nat.reduceLeDiff, Nat.reduceLT, Nat.reduceSub, Nat.reduceBEq], by simp only [stB, reduceIte, reduceCtorEq, Nat.reduceEqDiff, Nat.reduceAdd, Nat.reduceMul, Nat.reduceLeDiff, Nat.reduceLT, Nat.reduceSub, Nat.reduceBEq, List.filter_nil], by simp only [stB, reduceIte, reduceCtorEq, Nat.reduceEqDiff, Nat.reduceAdd, Nat.reduceMul, Nat.reduceLeDiff, Nat.reduceLT, Nat.reduceSub, Nat.reduceBEq, List.filter_nil]⟩
  · rintro m j ⟨k, rfl, hk, h6, g5, h5, o5⟩
    simp only [stB, reduceIte, reduceCtorEq, Nat.reduceEqDiff, Nat.reduceAdd, Nat.reduceMul, Nat.reduceLeDiff, Nat.reduceLT, Nat.reduceSub, Nat.reduceBEq] at h6 g5 h5 o5
    rcases Nat.lt_or_ge k s.locks.length with hlt | hge
    · obtain ⟨d, hd⟩ : ∃ d, s.locks[k]? = some d := ⟨_, List.getElem?_eq_getElem hlt⟩
      have hb : ((s.locks.take k).filter (fun d => d.obj != c.obj || d.off != c.off)).length + 1 ≤ 1000000 := by have := filter_take_le s.locks (fun d => d.obj != c.obj || d.off != c.off) k; omega
      simp only [↓evP, evB, stB, reduceIte, reduceCtorEq, Nat.reduceEqDiff, Nat.reduceAdd, Nat.reduceMul, Nat.reduceLeDiff, Nat.reduceLT, Nat.reduceSub, Nat.reduceBEq, h6, g5, h5, o5, hd, RLk.row, hb]
      refine ⟨fun _ => ?_, fun h => absurd hlt (by omega)⟩
      repeat' (first | apply And.intro | intro)
      all_goals first
        | (unfold Drw; kernel_rfl)
        | exact ⟨_, by omega, (by repeat' (first | assumption | exact within_over.mpr trivial | exact Within.refl _ _ _ | (refine within_ap ?_ rfl rfl) | (refine within_ap0 ?_ rfl))), k + 1, rfl, by omega, by simp only [stB, reduceIte, reduceCtorEq, Nat.reduceEqDiff, Nat.reduceAdd, Nat.reduceMul, Nat.reduceLeDiff, Nat.reduceLT, Nat.reduceSub, Nat.reduceBEq, h6]; rw [wrN (by omega)], by simp only [stB, reduceIte, reduceCtorEq, Nat.reduceEqDiff, Nat.reduceAdd, Nat.reduceMul, Nat.reduceLeDiff, Nat.reduceLT, Nat.reduceSub, Nat.reduceBEq, g5], by simp [stB, reduceIte, reduceCtorEq, Nat.reduceEqDiff, Nat.reduceAdd, Nat.reduceMul, Nat.reduceLeDiff, Nat.reduceLT, Nat.reduceSub, Nat.reduceBEq, h5, filter_succ hd, RLk.row, *], by simp [stB, reduceIte, reduceCtorEq, Nat.reduceEqDiff, Nat.reduceAdd, Nat.reduceMul, Nat.reduceLeDiff, Nat.reduceLT, Nat.reduceSub, Nat.reduceBEq, o5, filter_succ hd, *]⟩
        | skip
    · have hkl : k = s.locks.length := by omega
      subst hkl
      rw [List.take_length] at h5 o5
      have hb : (s.locks.filter (fun d => d.obj != c.obj || d.off != c.off)).length + 1 ≤ 1000000 := by have := List.length_filter_le (fun d : RLk => d.obj != c.obj || d.off != c.off) s.locks; omega
      simp only [↓evP, evB, stB, reduceIte, reduceCtorEq, Nat.reduceEqDiff, Nat.reduceAdd, Nat.reduceMul, Nat.reduceLeDiff, Nat.reduceLT, Nat.reduceSub, Nat.reduceBEq, h6, g5, h5, o5, hb, pr62]
      refine ⟨fun h => absurd h (by omega), fun _ => ?_⟩
      simp [RSt.setLock, RLk.row, RSt.pa, RSt.row]
end Go.Proofs.Ytkdagjlkejefnaa
end
section
set_option linter.unusedSimpArgs false
set_option linter.unusedVariables false
namespace Go.Proofs.Ytkdagjlkejefnaa
open Go Go.RowKit
set_option maxRecDepth 100000
set_option maxHeartbeats 4000000


def R_done (ps rs : List Pa) : Prop := ∃ (s : RSt) (obj off : Int), ps = [s.pa, pI obj, pI off] ∧ s.done.length ≤ 1000000 ∧ rs = [pB (s.isDone obj off)]
theorem s_done : Spec Try.prog 63 R_done := by
  refine sp63 EnvOK.e0 ?_
  rintro ps rs ⟨s, obj, off, rfl, hlen, rfl⟩
  refine ⟨by simp, ?_⟩
  unfold pc63
  refine pwp_start ?_
  simp only [↓evP, evB, stB, reduceIte, reduceCtorEq, Nat.reduceEqDiff, Nat.reduceAdd, Nat.reduceMul, Nat.reduceLeDiff, Nat.reduceLT, Nat.reduceSub, Nat.reduceBEq, RSt.pa, RSt.row]
  refine pwp_loopW ms63_0 os63_0 (fun m st => ∃ k : Nat, m = s.done.length - k ∧ k ≤ s.done.length ∧ (∀ i c, i < k → s.done[i]? = some c → (c.1 == obj && c.2 == off) = false) ∧ st.sl 7 = aI k) s.done.length ?_ ?_
  · exact ⟨0, rfl, Nat.zero_le _, fun i c hi => absurd hi (Nat.not_lt_zero _), by simp only [stB, reduceIte, reduceCtorEq, Nat.reduceEqDiff, Nat.reduceAdd, Nat.reduceMul, Nat.reduceLeDiff, Nat.reduceLT, Nat.reduceSub, Nat.reduceBEq]; rfl⟩
  · rintro m j ⟨k, rfl, hk, hno, h7⟩
    simp only [stB, reduceIte, reduceCtorEq, Nat.reduceEqDiff, Nat.reduceAdd, Nat.reduceMul, Nat.reduceLeDiff, Nat.reduceLT, Nat.reduceSub, Nat.reduceBEq] at h7
    rcases Nat.lt_or_ge k s.done.length with hlt | hge
    · obtain ⟨c, hc⟩ : ∃ c, s.done[k]? = some c := ⟨_, List.getElem?_eq_getElem hlt⟩
      simp only [↓evP, evB, stB, reduceIte, reduceCtorEq, Nat.reduceEqDiff, Nat.reduceAdd, Nat.reduceMul, Nat.reduceLeDiff, Nat.reduceLT, Nat.reduceSub, Nat.reduceBEq, h7, hc, locRow, pr63]
      refine ⟨fun _ => ⟨fun e1 => ⟨fun e2 => ?_, fun e2 => ?_⟩, fun e1 => ?_⟩, fun h => absurd hlt (by omega)⟩
      · unfold RSt.isDone
        rw [List.any_eq_true.2 ⟨c, List.mem_of_getElem? hc, by rw [e1, e2]; rfl⟩]
      · exact ⟨_, by omega, (by repeat' (first | assumption | exact within_over.mpr trivial | exact Within.refl _ _ _ | (refine within_ap ?_ rfl rfl) | (refine within_ap0 ?_ rfl))), k + 1, rfl, by omega, no_succ hno hc (by rw [e2, Bool.and_false]), by simp only [stB, reduceIte, reduceCtorEq, Nat.reduceEqDiff, Nat.reduceAdd, Nat.reduceMul, Nat.reduceLeDiff, Nat.reduceLT, Nat.reduceSub, Nat.reduceBEq, h7]; rw [wrN (by omega)]⟩
      · exact ⟨_, by omega, (by repeat' (first | assumption | exact within_over.mpr trivial | exact Within.refl _ _ _ | (refine within_ap ?_ rfl rfl) | (refine within_ap0 ?_ rfl))), k + 1, rfl, by omega, no_succ hno hc (by rw [e1]; rfl), by simp only [stB, reduceIte, reduceCtorEq, Nat.reduceEqDiff, Nat.reduceAdd, Nat.reduceMul, Nat.reduceLeDiff, Nat.reduceLT, Nat.reduceSub, Nat.reduceBEq, h7]; rw [wrN (by omega)]⟩
    · simp only [↓evP, evB, stB, reduceIte, reduceCtorEq, Nat.reduceEqDiff, Nat.reduceAdd, Nat.reduceMul, Nat.reduceLeDiff, Nat.reduceLT, Nat.reduceSub, Nat.reduceBEq, h7, pr63]
      refine ⟨fun h => absurd h (by omega), fun h => ?_⟩
      unfold RSt.isDone; rw [any_miss (fun i c hi hc => hno i c (by omega) hc)]

def env_counted : Env := e1 55 R_channel (e1 60 R_setChannel e0)
theorem env_counted_ok : EnvOK Try.prog env_counted := EnvOK.e1 s_channel (EnvOK.e1 s_setChannel EnvOK.e0)
theorem RSt.channel_bd {s : RSt} (h : s.ok) (obj n : Int) : (0 ≤ (s.channel obj n).sent ∧ (s.channel obj n).sent ≤ 1000000) ∧ (0 ≤ (s.channel obj n).recv ∧ (s.channel obj n).recv ≤ 1000000) := by
  unfold RSt.channel
  cases hf : s.chans.find? (fun c => c.obj == obj) with
  | none => simp
  | some c => exact h.ch.2 c (List.mem_of_find?_eq_some hf)
def R_counted (ps rs : List Pa) : Prop := ∃ (s : RSt) (e : Ev), ps = [s.pa, e.pa] ∧ s.ok ∧ rs = [(s.counted e).pa]
theorem s_counted : Spec Try.prog 58 R_counted := by
  refine sp58 env_counted_ok ?_
  rintro ps rs ⟨s, e, rfl, hok, rfl⟩
  refine ⟨by simp, ?_⟩
  obtain ⟨⟨c1, c2⟩, c3, c4⟩ := RSt.channel_bd hok e.obj e.n
  unfold pc58
  refine pwp_start ?_
  simp only [↓evP, evB, stB, reduceIte, reduceCtorEq, Nat.reduceEqDiff, Nat.reduceAdd, Nat.reduceMul, Nat.reduceLeDiff, Nat.reduceLT, Nat.reduceSub, Nat.reduceBEq, RSt.pa, RSt.row, Ev.pa, Ev.row]
  refine callOps_intro [.agg (s.channel e.obj e.n).row] ⟨s, e.obj, e.n, rfl, by have := hok.ch.1; omega, rfl⟩ ?_
  simp only [↓evP, evB, stB, reduceIte, reduceCtorEq, Nat.reduceEqDiff, Nat.reduceAdd, Nat.reduceMul, Nat.reduceLeDiff, Nat.reduceLT, Nat.reduceSub, Nat.reduceBEq, RCh.row, pr58]
  refine ⟨fun h15 => ?_, fun h15 => ⟨fun h17 => ?_, fun h17 => ?_⟩⟩
  · rw [wr64 (by omega) (by omega)]
    refine callOps_intro [(s.setChannel { s.channel e.obj e.n with sent := (s.channel e.obj e.n).sent + 1 }).pa] ⟨s, { s.channel e.obj e.n with sent := (s.channel e.obj e.n).sent + 1 }, rfl, hok.ch.1, rfl⟩ ?_
    simp only [↓evP, evB, stB, reduceIte, reduceCtorEq, Nat.reduceEqDiff, Nat.reduceAdd, Nat.reduceMul, Nat.reduceLeDiff, Nat.reduceLT, Nat.reduceSub, Nat.reduceBEq, RSt.pa, RSt.row, pr58]
    unfold RSt.counted RCh.count
    rw [if_pos (Or.inl (beq_iff_eq.1 h15)), if_pos (beq_iff_eq.1 h15)]
  · rw [wr64 (by omega) (by omega)]
    refine callOps_intro [(s.setChannel { s.channel e.obj e.n with recv := (s.channel e.obj e.n).recv + 1 }).pa] ⟨s, { s.channel e.obj e.n with recv := (s.channel e.obj e.n).recv + 1 }, rfl, hok.ch.1, rfl⟩ ?_
    simp only [↓evP, evB, stB, reduceIte, reduceCtorEq, Nat.reduceEqDiff, Nat.reduceAdd, Nat.reduceMul, Nat.reduceLeDiff, Nat.reduceLT, Nat.reduceSub, Nat.reduceBEq, RSt.pa, RSt.row, pr58]
    unfold RSt.counted RCh.count
    rw [if_pos (Or.inr (beq_iff_eq.1 h17)), if_neg (beq_eq_false_iff_ne.1 h15), if_pos (beq_iff_eq.1 h17)]
  · unfold RSt.counted
    rw [if_neg (fun h => h.elim (beq_eq_false_iff_ne.1 h15) (beq_eq_false_iff_ne.1 h17))]

def R_begin (ps rs : List Pa) : Prop := ∃ (s : RSt) (e : Ev) (next : List RWt), ps = [s.pa, e.pa, .one (.im (next.map RWt.row))] ∧ (s.ok ∧ next.length ≤ 900000) ∧ rs = [(s.begin e next).pa, pB true]
def env_begin : Env := e1 58 R_counted e0
theorem env_begin_ok : EnvOK Try.prog env_begin := EnvOK.e1 s_counted EnvOK.e0
theorem s_begin : Spec Try.prog 59 R_begin := by
  refine sp59 env_begin_ok ?_
  rintro ps rs ⟨s, e, next, rfl, ⟨hok, hn⟩, rfl⟩
  refine ⟨by simp, ?_⟩
  unfold pc59
  refine pwp_start ?_
  simp only [↓evP, evB, stB, reduceIte, reduceCtorEq, Nat.reduceEqDiff, Nat.reduceAdd, Nat.reduceMul, Nat.reduceLeDiff, Nat.reduceLT, Nat.reduceSub, Nat.reduceBEq, RSt.pa, RSt.row, Ev.pa, Ev.row]
  refine ⟨(by unfold Drw; kernel_rfl), ?_⟩
  refine callOps_intro [(s.begin e next).pa] ⟨{ s with next := next, obj := e.obj, k := e.k, n := e.n }, e, rfl, ⟨hok.ct, hok.gr, hok.ch, hok.lk, hok.dn, hn⟩, rfl⟩ ?_
  simp only [↓evP, evB, stB, reduceIte, reduceCtorEq, Nat.reduceEqDiff, Nat.reduceAdd, Nat.reduceMul, Nat.reduceLeDiff, Nat.reduceLT, Nat.reduceSub, Nat.reduceBEq, RSt.pa, RSt.row, pr59]
end Go.Proofs.Ytkdagjlkejefnaa
end
