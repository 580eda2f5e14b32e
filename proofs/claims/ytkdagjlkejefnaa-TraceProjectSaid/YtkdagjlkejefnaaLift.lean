/- From the arguments of a row to data, and back. -/
import Derived.Test.YtkdagjlkejefnaaCon
import Derived.OpenShut
set_option linter.unusedSimpArgs false
set_option linter.unusedVariables false
namespace Go.Proofs.Ytkdagjlkejefnaa
open Go Go.RowKit Go.WideShapes Go.ChangeShapes Go.Deep

theorem trodAll_below {H : Type} {enc : TypeId × Value → H} {P : Program} (hl : laidOutB P = true) {W W' : World} (hb : Below W.heap.size W W') :
    ∀ {ts : List TypeId} {vs : List Value} {ds : List (DataW H)} {ps : List MemPlace}, (ts.all fun t => P.readableRec t && decide (t < P.types.size)) = true → DataW.TrodAll enc P W 0 (fun _ => true) true ts vs ds ps → DataW.TrodAll enc P W' 0 (fun b => decide (b < W.heap.size)) true ts vs ds ps
  | [], vs, ds, ps, _, h => by obtain ⟨rfl, rfl, rfl⟩ := trodAll_nil h; exact trodAll_mk0
  | t :: ts, vs, ds, ps, ht, h => by
    obtain ⟨v, vs', d, ds', p, q, rfl, rfl, rfl, h1, h2⟩ := trodAll_cons h
    simp only [List.all_cons, Bool.and_eq_true, decide_eq_true_eq] at ht
    have lt : ∀ x ∈ p, x.block < W.heap.size := by obtain ⟨m, hm⟩ := h1; exact DataW.trod_lt m _ _ _ hm
    exact trodAll_cons_mk (Below.trod hl ht.1.1 ht.1.2 h1 hb lt) (trodAll_below hl hb (by rw [Bool.eq_iff_iff] at *; simpa using ht.2) h2)

/-- a struct of numbers -/
theorem open_flat {H : Type} {enc : TypeId × Value → H} {P : Program} {w : World} {r : Reach} {b0 base : Nat} {spare : Nat → Bool} {held : Bool} {t : TypeId} {fs : Array Field} (ht : P.underlying t = some (.struct fs)) (hone : oneCellFields P fs = true) (hC : P.cellsOf t = fs.size)
    {tI : TypeId} (hI : P.underlying tI = some (.int .i64)) (hint0 : fs.toList.all (fun f => f.type == tI) = true) {n : Nat} (hn : fs.size = n) {v : Value} {d : DataW H} {ps : List MemPlace} (hv : Value.okWide P w r b0 t v) (h : DataW.Trod enc P w base spare held t v d ps) :
    ∃ l : List Int, l.length = n ∧ v = .agg (l.map (Value.int .i64)).toArray ∧ ∀ x, x ∈ l → -9223372036854775808 ≤ x ∧ x ≤ 9223372036854775807 := by
  have hint : ∀ (i : Nat) (f : Field), fs[i]? = some f → P.underlying f.type = some (.int .i64) := fun i f hf => by
    have h1 := List.all_eq_true.1 hint0 f (List.mem_of_getElem? (i := i) (by simpa using hf))
    rw [beq_iff_eq.1 h1]; exact hI
  subst hn
  obtain ⟨cs, rfl, hcs⟩ := okWide_struct ht hv
  obtain ⟨fuel, hf⟩ := h
  obtain ⟨xs, n, _, _, hl, hlen, hfs⟩ := DataW.trod_struct ht hf
  have key : ∀ i, ∃ x : Int, i < fs.size → cs[i]? = some (.int .i64 x) ∧ -9223372036854775808 ≤ x ∧ x ≤ 9223372036854775807 := by
    intro i
    by_cases hi : i < fs.size
    · have hfi : fs[i]? = some fs[i] := Array.getElem?_eq_getElem hi
      obtain ⟨ho, hk⟩ := hone_of hone i _ hfi
      have h1 := hfs i _ hfi
      rw [ho, hk] at h1
      have hic : i < cs.size := by omega
      have hone' : ((Value.agg cs).cells.toList.drop i).take 1 = [cs[i]'hic] := by
        show (cs.toList.drop i).take 1 = _
        rw [List.drop_eq_getElem_cons (by simpa using hic)]
        simp
      rw [hone'] at h1
      have hxs : xs[i]? = some (xs[i]'(by omega)) := List.getElem?_eq_getElem _
      rw [hxs] at h1
      obtain ⟨x, hx, hw⟩ := trod_int_field (hint i _ hfi) h1
      exact ⟨x, fun _ => ⟨by rw [Array.getElem?_eq_getElem hic, hx], i64_of_wf hw⟩⟩
    · exact ⟨0, fun h => absurd h hi⟩
  obtain ⟨g, hg⟩ := Classical.skolem.1 key
  refine ⟨(List.range fs.size).map g, by simp, ?_, fun x hx => ?_⟩
  · congr 1
    apply Array.ext_getElem?
    intro i
    simp only [List.getElem?_toArray, List.getElem?_map]
    rcases Nat.lt_or_ge i fs.size with hi | hi
    · rw [(hg i hi).1, List.getElem?_range hi]; rfl
    · rw [Array.getElem?_eq_none (by omega), List.getElem?_eq_none (by simpa using hi)]; rfl
  · simp only [List.mem_map, List.mem_range] at hx
    obtain ⟨i, hi, rfl⟩ := hx
    exact (hg i hi).2

theorem list_two {α : Type} {l : List α} (h : l.length = 2) : ∃ x y, l = [x, y] := by
  match l, h with
  | [x, y], _ => exact ⟨x, y, rfl⟩
theorem list_nine {l : List Int} (h : l.length = 9) : ∃ e : Ev, l.map (Value.int .i64) = e.cells := by
  match l, h with
  | [a, b, c, d, e, f, g, i, j], _ => exact ⟨⟨a, b, c, d, e, f, g, i, j⟩, rfl⟩
/-- what a contract on data that answers 'true' says of a call -/
theorem Spec.true {P : Program} {f : Nat} {R : List Pa → List Pa → Prop} (hs : Spec P f R) {ps : List Pa} (hR : R ps [pB true]) {S : Nat → Nat} {w : World} {vals : Array Value} (hv : RPs S w ps vals) :
    Calls P f vals w fun e w' => e = .returned (.bool true) ∧ Below w.heap.size w w' := by
  refine (hs ps _ hR S w vals hv).mono ?_
  rintro e w' ⟨v, S', rfl, h1, h2, _⟩
  exact ⟨by rw [RP.bool h1], h2⟩
end Go.Proofs.Ytkdagjlkejefnaa
