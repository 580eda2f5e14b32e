/- Contracts about worlds turned into contracts about data. -/
import Derived.Test.YtkdagjlkejefnaaDat
import Derived.Test.YtkdagjlkejefnaaSelC
import Derived.Test.YtkdagjlkejefnaaRowKit
set_option linter.unusedSimpArgs false
set_option linter.unusedVariables false
namespace Go.Proofs.Ytkdagjlkejefnaa
open Go Go.RowKit

theorem Ev.row_cell {e : Ev} {j : Nat} {x : Value} (h : e.cells[j]? = some x) : e.row[j]? = some (.sc x) := by
  show (e.cells.map Dt.sc)[j]? = _
  rw [List.getElem?_map, h]; rfl
/-- events as data are events in the world -/
theorem RD.evs {S : Nat → Nat} {w : World} {l : List Ev} {v : Value} (h : RD S w (evsD l) v) : EvAt w v l := by
  unfold evsD at h
  generalize hr : l.map Ev.row = rows at h
  cases h with
  | emp A c hc =>
    cases l with
    | nil => exact ⟨A, c, rfl, Nat.zero_le _, by unfold maxLen at hc; omega, fun h => absurd h (by decide)⟩
    | cons e l => simp at hr
  | im rows sz b o cap f hc hm hsz hcell hd =>
    have hlen : l.length = rows.length := by rw [← hr]; simp
    refine ⟨_, cap, by rw [hlen], by omega, by unfold maxLen at hm; omega, fun hpos => ⟨b, o, rfl, fun i e hi j x hx => ?_⟩⟩
    have hil := (List.getElem?_eq_some_iff.1 hi).1
    have hrow : rows[i]? = some e.row := by rw [← hr, List.getElem?_map, hi]; rfl
    have h9 : 9 = sz := hsz _ (List.mem_of_getElem? hrow)
    have hj : j < 9 := (List.getElem?_eq_some_iff.1 hx).1
    have h1 := hd i _ j _ hrow (Ev.row_cell hx)
    have h2 := (hcell i j (by omega) (by omega)).1
    rw [(RD.sc_inv h1).1, ← h9] at h2
    exact h2
theorem flat_at' {α : Type} {cells : α → List Value} {sz : Nat} (hlen : ∀ e, (cells e).length = sz) (l : List α) (i : Nat) (e : α) (h : l[i]? = some e) (j : Nat) (x : Value) (hx : (cells e)[j]? = some x) : (l.flatMap cells)[i * sz + j]? = some x := by
  have hj : j < sz := by rw [← hlen e]; exact (List.getElem?_eq_some_iff.1 hx).1
  induction l generalizing i with
  | nil => cases h
  | cons a l ih =>
    rw [List.flatMap_cons]
    cases i with
    | zero =>
      simp at h; subst h
      rw [List.getElem?_append_left (by rw [hlen]; omega)]
      simpa using hx
    | succ i =>
      rw [List.getElem?_append_right (by rw [hlen, Nat.succ_mul]; omega), hlen, show (i + 1) * sz + j - sz = i * sz + j by rw [Nat.succ_mul]; omega]
      exact ih i (by simpa using h)
/-- a row of one's own reads as data -/
theorem rows_own {w : World} {B sz : Nat} {E : TypeId} {v : Value} {α : Type} (l : List α) (cells : α → List Value) (hsz : ∀ x, (cells x).length = sz) (hone : ∀ x u, u ∈ cells x → u.oneCell' = true) (h : w.ownsRow B E sz v l.length (l.flatMap cells)) (S : Nat → Nat) :
    ∃ S', RD S' w (.im (l.map fun x => (cells x).map Dt.sc)) v ∧ ∀ b, b < B → S' b = S b := by
  obtain ⟨h1, h2⟩ := h
  rcases h2 with ⟨rfl, h3⟩ | ⟨g, cap, cur, rfl, h3, h4, h5, h6, h7, h8⟩
  · have : l = [] := by cases l with
      | nil => rfl
      | cons a l => simp at h3
    subst this
    exact ⟨S, .emp _ _ (by unfold maxLen; omega), fun _ _ => rfl⟩
  · have key : ∀ i e, l[i]? = some e → ∀ j x, (cells e)[j]? = some x → w.cell? ⟨g, 0 + (i * sz + j), none⟩ = some x := fun i e hi j x hx => by
      rw [cell_of_row w g _ _ _ _ h4, Nat.zero_add]
      have hfl := flat_at' hsz l i e hi j x hx
      rw [← h8, List.getElem?_take] at hfl
      split at hfl
      · simpa using hfl
      · cases hfl
    refine ⟨fun b => if b = g then l.length * sz else S b, ?_, fun b hb => if_neg (by omega)⟩
    have hl : l.length = (l.map fun x => (cells x).map Dt.sc).length := by simp
    have hsl : Value.slice (some ⟨g, 0, none⟩) l.length cap = .slice (some ⟨g, 0, none⟩) (l.map fun x => (cells x).map Dt.sc).length cap := by rw [← hl]
    rw [hsl]
    refine RD.im _ sz g 0 cap (fun i j => (l.flatMap cells).getD (i * sz + j) undef) (by rw [← hl]; exact h5) h6 ?_ ?_ ?_
    · intro r hr
      obtain ⟨x, _, rfl⟩ := List.mem_map.1 hr
      simp [hsz]
    · intro i j hi hj
      rw [← hl] at hi
      have hil : l[i]? = some l[i] := List.getElem?_eq_getElem hi
      have hjl : (cells l[i])[j]? = some ((cells l[i])[j]'(by rw [hsz]; exact hj)) := List.getElem?_eq_getElem _
      have hfl := flat_at' hsz l i _ hil j _ hjl
      refine ⟨?_, ?_⟩
      · rw [key i _ hil j _ hjl]
        simp [List.getD, hfl]
      · simp only [if_true]
        have : (i + 1) * sz ≤ l.length * sz := Nat.mul_le_mul_right _ hi
        rw [Nat.succ_mul] at this
        omega
    · intro i r j x hr hx
      rw [List.getElem?_map, Option.map_eq_some_iff] at hr
      obtain ⟨e, he, rfl⟩ := hr
      rw [List.getElem?_map, Option.map_eq_some_iff] at hx
      obtain ⟨u, hu, rfl⟩ := hx
      have hfl := flat_at' hsz l i e he j u hu
      simp only [List.getD, hfl, Option.getD_some]
      exact .sc u (hone e u (List.mem_of_getElem? hu))

/-- events of an argument as data -/
theorem EvAt.rd {w : World} {v : Value} {l : List Ev} (h : EvAt w v l) {S : Nat → Nat} (hS : ∀ b i, (w.cell? ⟨b, i, none⟩).isSome = true → i < S b) : RD S w (evsD l) v := by
  obtain ⟨A, c, rfl, h2, h3, h4⟩ := h
  by_cases hl : 0 < l.length
  · obtain ⟨b, o, rfl, hc⟩ := h4 hl
    unfold evsD
    rw [show l.length = (l.map Ev.row).length by simp]
    have hcl : ∀ i j, i < l.length → j < 9 → ∃ e x, l[i]? = some e ∧ e.cells[j]? = some x ∧ (l.flatMap Ev.cells).getD (i * 9 + j) undef = x ∧ w.cell? ⟨b, o + (i * 9 + j), none⟩ = some x := fun i j hi hj => by
      have hil : l[i]? = some l[i] := List.getElem?_eq_getElem hi
      have hjl : l[i].cells[j]? = some (l[i].cells[j]'hj) := List.getElem?_eq_getElem _
      exact ⟨_, _, hil, hjl, by simp [List.getD, flat_at l i _ hil j _ hjl], hc i _ hil j _ hjl⟩
    refine RD.im _ 9 b o c (fun i j => (l.flatMap Ev.cells).getD (i * 9 + j) undef) (by simpa using h2) (by unfold maxLen; omega) ?_ ?_ ?_
    · intro r hr
      obtain ⟨x, _, rfl⟩ := List.mem_map.1 hr
      rfl
    · intro i j hi hj
      obtain ⟨e, x, _, _, h5, h6⟩ := hcl i j (by simpa using hi) hj
      rw [h5]
      exact ⟨h6, hS b _ (by rw [h6]; rfl)⟩
    · intro i r j x hr hx
      rw [List.getElem?_map, Option.map_eq_some_iff] at hr
      obtain ⟨e, he, rfl⟩ := hr
      have hj : j < 9 := (List.getElem?_eq_some_iff.1 hx).1
      obtain ⟨e', u, h7, h8, h5, h6⟩ := hcl i j (List.getElem?_eq_some_iff.1 he).1 hj
      rw [he] at h7; cases h7
      rw [h5]
      have := Ev.row_cell h8
      rw [hx] at this; cases this
      refine .sc u ?_
      have := List.mem_of_getElem? h8
      simp only [Ev.cells, List.mem_cons, List.not_mem_nil, or_false] at this
      rcases this with rfl | rfl | rfl | rfl | rfl | rfl | rfl | rfl | rfl <;> rfl
  · have : l = [] := by cases l with
      | nil => rfl
      | cons a l => simp at hl
    subst this
    exact .emp _ _ (by unfold maxLen; omega)

/-- as many cells of a block as there are -/
def World.cellsOf (w : World) (b : Nat) : Nat := match w.heap[b]? with
  | some (.cells arr _ _) => arr.size
  | _ => 0
theorem cellsOf_lt {w : World} (b i : Nat) (h : (w.cell? ⟨b, i, none⟩).isSome = true) : i < World.cellsOf w b := by
  unfold World.cellsOf
  unfold World.cell? at h
  cases hb : w.heap[b]? with
  | none => simp [hb] at h
  | some x =>
    cases x with
    | cells arr T fr => simp only [hb] at h; simpa using h
    | _ => simp [hb] at h

def intsD (l : List Int) : Dt := .im (l.map fun x => [dI x])
theorem RPs.nth {S : Nat → Nat} {w : World} {ps : List Pa} {vs : Array Value} (h : RPs S w ps vs) {i : Nat} {p : Pa} (hp : ps[i]? = some p) : ∃ u, vs[i]? = some u ∧ RP S w p u := by
  have hi : i < vs.size := by rw [← h.1]; exact (List.getElem?_eq_some_iff.1 hp).1
  exact ⟨vs[i], Array.getElem?_eq_getElem hi, h.2 i p _ hp (Array.getElem?_eq_getElem hi)⟩
theorem RPs.one {S : Nat → Nat} {w : World} {p : Pa} {vs : Array Value} (h : RPs S w [p] vs) : ∃ u, vs = #[u] ∧ RP S w p u := by
  obtain ⟨u, h1, h2⟩ := h.nth (i := 0) rfl
  refine ⟨u, ?_, h2⟩
  have h3 := h.1
  apply Array.ext_getElem?
  intro j
  match j with
  | 0 => simpa using h1
  | j + 1 => rw [Array.getElem?_eq_none (by simp at h3; omega), Array.getElem?_eq_none (by simp)]
theorem RPs.two {S : Nat → Nat} {w : World} {p q : Pa} {vs : Array Value} (h : RPs S w [p, q] vs) : ∃ u v, vs = #[u, v] ∧ RP S w p u ∧ RP S w q v := by
  obtain ⟨u, h1, h2⟩ := h.nth (i := 0) rfl
  obtain ⟨v, h3, h4⟩ := h.nth (i := 1) rfl
  refine ⟨u, v, ?_, h2, h4⟩
  have h5 := h.1
  apply Array.ext_getElem?
  intro j
  match j with
  | 0 => simpa using h1
  | 1 => simpa using h3
  | j + 2 => rw [Array.getElem?_eq_none (by simp at h5; omega), Array.getElem?_eq_none (by simp)]
theorem RPs.three {S : Nat → Nat} {w : World} {p q r : Pa} {vs : Array Value} (h : RPs S w [p, q, r] vs) : ∃ u v x, vs = #[u, v, x] ∧ RP S w p u ∧ RP S w q v ∧ RP S w r x := by
  obtain ⟨u, h1, h2⟩ := h.nth (i := 0) rfl
  obtain ⟨v, h3, h4⟩ := h.nth (i := 1) rfl
  obtain ⟨x, h6, h7⟩ := h.nth (i := 2) rfl
  refine ⟨u, v, x, ?_, h2, h4, h7⟩
  have h5 := h.1
  apply Array.ext_getElem?
  intro j
  match j with
  | 0 => simpa using h1
  | 1 => simpa using h3
  | 2 => simpa using h6
  | j + 3 => rw [Array.getElem?_eq_none (by simp at h5; omega), Array.getElem?_eq_none (by simp)]
theorem RPs.nil {S : Nat → Nat} {w : World} {vs : Array Value} (h : RPs S w [] vs) : vs = #[] := by
  have h3 := h.1
  apply Array.ext_getElem?
  intro j
  rw [Array.getElem?_eq_none (by simp at h3; omega), Array.getElem?_eq_none (by simp)]
theorem RPs.mk1 {S : Nat → Nat} {w : World} {p : Pa} {u : Value} (h : RP S w p u) : RPs S w [p] #[u] := ⟨rfl, fun i q v h1 h2 => by
  match i with
  | 0 => cases h1; simp at h2; subst h2; exact h
  | i + 1 => simp at h1⟩
theorem RPs.mk2 {S : Nat → Nat} {w : World} {p q : Pa} {u v : Value} (h : RP S w p u) (k : RP S w q v) : RPs S w [p, q] #[u, v] := ⟨rfl, fun i r x h1 h2 => by
  match i with
  | 0 => cases h1; simp at h2; subst h2; exact h
  | 1 => cases h1; simp at h2; subst h2; exact k
  | i + 2 => simp at h1⟩
theorem RPs.mk3 {S : Nat → Nat} {w : World} {p q r : Pa} {u v x : Value} (h : RP S w p u) (k : RP S w q v) (m : RP S w r x) : RPs S w [p, q, r] #[u, v, x] := ⟨rfl, fun i o y h1 h2 => by
  match i with
  | 0 => cases h1; simp at h2; subst h2; exact h
  | 1 => cases h1; simp at h2; subst h2; exact k
  | 2 => cases h1; simp at h2; subst h2; exact m
  | i + 3 => simp at h1⟩
theorem RP.int {S : Nat → Nat} {w : World} {n : Int} {u : Value} (h : RP S w (pI n) u) : u = .int .i64 n := (RD.sc_inv h).1
theorem RP.mkInt {S : Nat → Nat} {w : World} (n : Int) : RP S w (pI n) (.int .i64 n) := .sc _ rfl
theorem RP.mkBool {S : Nat → Nat} {w : World} (n : Bool) : RP S w (pB n) (.bool n) := .sc _ rfl
theorem RP.bool {S : Nat → Nat} {w : World} {n : Bool} {u : Value} (h : RP S w (pB n) u) : u = .bool n := (RD.sc_inv h).1
/-- a struct of numbers -/
theorem RP.flat {S : Nat → Nat} {w : World} {vs : List Value} {u : Value} (h : RP S w (.agg (vs.map Dt.sc)) u) : u = .agg vs.toArray := by
  obtain ⟨arr, rfl, h2, h3⟩ := h
  congr 1
  apply Array.ext_getElem?
  intro j
  simp only [List.getElem?_toArray]
  rw [List.length_map] at h2
  cases hj : vs[j]? with
  | none => rw [Array.getElem?_eq_none]; rw [List.getElem?_eq_none_iff] at hj; omega
  | some x =>
    have hlt : j < arr.size := by have := (List.getElem?_eq_some_iff.1 hj).1; omega
    rw [Array.getElem?_eq_getElem hlt, (RD.sc_inv (h3 j (.sc x) arr[j] (by rw [List.getElem?_map, hj]; rfl) (Array.getElem?_eq_getElem hlt))).1]
theorem RP.mkFlat {S : Nat → Nat} {w : World} {vs : List Value} (h : ∀ u, u ∈ vs → u.oneCell' = true) : RP S w (.agg (vs.map Dt.sc)) (.agg vs.toArray) := by
  refine ⟨_, rfl, by simp, fun i x u h1 h2 => ?_⟩
  rw [List.getElem?_map, Option.map_eq_some_iff] at h1
  obtain ⟨y, hy, rfl⟩ := h1
  simp [hy] at h2
  subst h2
  exact .sc _ (h y (List.mem_of_getElem? hy))
end Go.Proofs.Ytkdagjlkejefnaa
