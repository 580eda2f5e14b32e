/- The operations that make memory, read it or write it: each does what its plain reading says. -/
import Derived.Test.YtkdagjlkejefnaaPd
import Derived.Deep.Upon
import Derived.Laws.Rows
set_option linter.unusedSimpArgs false
set_option linter.unusedVariables false
namespace Go.Proofs.Ytkdagjlkejefnaa
open Go Go.RowKit

section
variable {n : Nat} {P : Program} {o : Oper}


theorem good_load (hd : ∀ d, o.dst = some d → d < n) {t : TypeId} {d : TypeDesc} {i : TypeInfo} {xo : Operand} {x : PX} {k : Option Nat} (hop : o.op = .load t xo) (hu : P.underlying t = some d) (hi : P.info? t = some i)
    (hk : k = if aggT d = true then some i.size else none) (hx : cX xo = some x) : Good P n o (.load k x) :=
  .of_pure hd fun w0 S0 W s a w v ch hs hf => by
    -- what a load of the cells vs at ⟨b, base⟩ brings
    have key : ∀ (cs : List Cl) (vs : List Value) (b base off : Nat) (v : Av), a.eval xo = .pointer (some ⟨b, base + off, none⟩) → RCs W s.gen s.ob w cs vs → (∀ j u, vs[j]? = some u → w.cell? ⟨b, base + j, none⟩ = some u) → mkAv k cs off = some v →
        ∃ rv, (execOp a.eval o).run P w = .ok (.value rv) w ∧ RA W s.gen s.ob w v rv := fun cs vs b base off v he hr hc hv => by
      have hag := run_isAgg (P := P) hu w
      rcases mkAv_cells hr hv with ⟨rfl, c, u, h1, h2, rfl, h3⟩ | ⟨m, rfl, h1, rfl, h2⟩
      · have hf : aggT d = false := by cases h : aggT d <;> simp [h] at hk ⊢
        rw [hf] at hag
        refine ⟨u, ?_, h3⟩
        simp [execOp, hop, Instr.loadAt, he, Instr.sureAddr, loadVar, hag, hc off u h2]
      · have ht : aggT d = true := by cases h : aggT d <;> simp [h] at hk ⊢
        rw [ht] at hag hk
        simp at hk
        subst hk
        have hlen : ((vs.drop off).take i.size).length = i.size := by simp; omega
        have hl := run_loadCells_list (P := P) w ⟨b, base + off, none⟩ ((vs.drop off).take i.size) (fun j u hj => by
          rw [addr_add]
          rw [List.getElem?_take] at hj
          split at hj
          · rw [List.getElem?_drop] at hj
            have := hc _ _ hj
            rw [← Nat.add_assoc] at this
            exact this
          · cases hj)
        rw [hlen] at hl
        refine ⟨.agg ((vs.drop off).take i.size).toArray, ?_, _, rfl, by simpa using h2⟩
        simp [execOp, hop, Instr.loadAt, he, Instr.sureAddr, loadVar, hag, sizeOf, typeInfo, hi, hl]
    simp only [PO.fn] at hf
    split at hf
    · rename_i o' g off heq
      split at hf
      · rename_i hg
        split at hf
        · rename_i cs hob
          simp only [Option.map_eq_some_iff, Prod.mk.injEq] at hf
          obtain ⟨v', hv, rfl, rfl⟩ := hf
          obtain ⟨h1, h2, h3⟩ := cl_ev hs hx heq (by simp)
          have hro := hs.ob o'
          rw [hob] at hro
          obtain ⟨arr, T, h4, h5, h6, h7⟩ := hro
          refine ⟨rfl, key cs arr.toList (W.blk o') 0 off v' (by rw [Nat.zero_add]; exact h3 hg.symm) h7 (fun j u hj => ?_) hv⟩
          rw [Nat.zero_add]
          simp only [World.cell?, h4]
          simpa using hj
        · cases hf
      · cases hf
    · rename_i row off heq
      simp only [Option.map_eq_some_iff, Prod.mk.injEq] at hf
      obtain ⟨v', hv, rfl, rfl⟩ := hf
      obtain ⟨b, o', h1, h2⟩ := cl_ev hs hx heq (by simp)
      have hex : ∀ j : Nat, ∃ u, ∀ x, row[j]? = some x → w.cell? ⟨b, o' + j, none⟩ = some u ∧ RD W.S w x u := fun j => by
        cases hj : row[j]? with
        | none => exact ⟨undef, fun x h => by cases h⟩
        | some y =>
          obtain ⟨u, h3, _, h5⟩ := h2 j y hj
          exact ⟨u, fun x h => by cases h; exact ⟨h3, h5⟩⟩
      obtain ⟨f, hf⟩ := Classical.skolem.1 hex
      refine ⟨rfl, key (row.map .d) ((List.range row.length).map f) b o' off v' h1 ⟨by simp, fun j c u h3 h4 => ?_⟩ (fun j u hj => ?_) hv⟩
      · simp only [List.getElem?_map, Option.map_eq_some_iff] at h3 h4
        obtain ⟨y, hy, rfl⟩ := h3
        obtain ⟨k', hk', rfl⟩ := h4
        have hlt := (List.getElem?_eq_some_iff.1 hy).1
        rw [List.getElem?_range hlt] at hk'
        cases hk'
        exact (hf j y hy).2
      · simp only [List.getElem?_map, Option.map_eq_some_iff] at hj
        obtain ⟨k', hk', rfl⟩ := hj
        have hlt : j < row.length := by
          rcases Nat.lt_or_ge j row.length with h | h
          · exact h
          · rw [List.getElem?_eq_none (by simpa using h)] at hk'; cases hk'
        rw [List.getElem?_range hlt] at hk'
        cases hk'
        exact (hf j _ (List.getElem?_eq_getElem hlt)).1
    · cases hf

/-! ### A new object -/
theorem cl_lt {w0 : World} {S0 : Nat → Nat} {W : Wit} {s : St} {a : Act} {w : World} (hs : Sim w0 S0 n W s a w) {o b : Nat} (h : cl W o (s.ob o) b) : w0.heap.size ≤ b ∧ b < w.heap.size := by
  have hro := hs.ob o
  generalize s.ob o = x at h hro
  cases x with
  | no => exact h.elim
  | cells cs =>
    obtain ⟨arr, T, h1, h2, _⟩ := hro
    have : W.blk o = b := h
    subst this
    exact ⟨h2, (Array.getElem?_eq_some_iff.1 h1).1⟩
  | row E sz m =>
    obtain ⟨xs, h1, _⟩ := hro
    exact h1.lt b h
  | ab H => exact ⟨(hro.2 b h).1, H.lt _ _ _ _ hro.1 h⟩

/-- object d is made anew: in a new block, or without one -/
theorem Sim.new {w0 : World} {S0 : Nat → Nat} {W : Wit} {s : St} {a : Act} {w : World} (hs : Sim w0 S0 n W s a w) {d : Nat} (hd : d < n) {w' : World} {x : Ob} {v : Av} {rv : Value} (u : Value) (σ : Nat)
    (hw : (∀ b, b < w.heap.size → w'.heap[b]? = w.heap[b]?) ∧ w.heap.size ≤ w'.heap.size ∧ w'.os = w.os ∧ w'.tape = w.tape ∧ w'.output = w.output)
    (hv : RA { W with blk := up W.blk d w.heap.size, val := up W.val d u, S := up W.S w.heap.size σ } (up s.gen d (s.gen d + 1)) (up s.ob d x) w' v rv)
    (ho : RO w0.heap.size { W with blk := up W.blk d w.heap.size, val := up W.val d u, S := up W.S w.heap.size σ } (up s.gen d (s.gen d + 1)) (up s.ob d x) w' d x)
    (hc : ∀ b, cl { W with blk := up W.blk d w.heap.size, val := up W.val d u, S := up W.S w.heap.size σ } d x b → w.heap.size ≤ b) :
    Sim w0 S0 n { W with blk := up W.blk d w.heap.size, val := up W.val d u, S := up W.S w.heap.size σ } (s.ap (some d) v (.new d x)) (a.put (some d) rv) w' := by
  have hbs := hs.below.size
  have hfol : Fol W s.gen s.ob w { W with blk := up W.blk d w.heap.size, val := up W.val d u, S := up W.S w.heap.size σ } (up s.gen d (s.gen d + 1)) (up s.ob d x) w' := by
    refine ⟨fun b i h1 h2 => ?_, fun o' => ?_, fun o' h => ?_, fun o' E sz n' h h2 => ?_, fun _ _ => rfl⟩
    · have hlt : b < w.heap.size := by
        cases hcell : w.cell? ⟨b, i, none⟩ with
        | none => rw [hcell] at h2; cases h2
        | some y =>
          rcases Nat.lt_or_ge b w.heap.size with h | h
          · exact h
          · simp [World.cell?, Array.getElem?_eq_none h] at hcell
      refine ⟨?_, by simp [World.cell?, hw.1 b hlt]⟩
      show i < up W.S w.heap.size σ b
      rw [up_at, if_neg (by omega)]
      exact h1
    · rw [up_at]; split <;> (try omega)
      rename_i h; rw [h]; omega
    · have : o' ≠ d := by rintro rfl; rw [up_at, if_pos rfl] at h; omega
      show up W.blk d w.heap.size o' = _
      rw [up_at, if_neg this]
    · have : o' ≠ d := by rintro rfl; rw [up_at, if_pos rfl] at h; omega
      rw [up_at, if_neg this] at h2
      refine ⟨n', h2, Nat.le_refl _, fun _ => ?_⟩
      show up W.val d u o' = _
      rw [up_at, if_neg this]
  refine hs.step (fun d' h => by cases h; exact hd) hfol ⟨hw.2.2.1, hw.2.2.2.1, hw.2.2.2.2, hw.2.1, fun b hb => hw.1 b (by omega)⟩ (fun b hb => ?_) hv (fun o' => ?_) (fun o1 o2 b h1 h2 => ?_)
  · show up W.S w.heap.size σ b = _
    rw [up_at, if_neg (by omega)]
  · by_cases h : o' = d
    · subst h
      show RO _ _ _ _ _ _ (up s.ob o' x o')
      rw [up_at, if_pos rfl]
      exact ho
    · show RO _ _ _ _ _ _ (up s.ob d x o')
      rw [up_at, if_neg h]
      refine RO.fol hfol (hs.ob o') (by rw [up_at, if_neg h]) (by show up W.val d u o' = _; rw [up_at, if_neg h]) rfl (fun b hb => ?_)
      obtain ⟨h1, h2⟩ := cl_lt hs hb
      exact ⟨hw.1 b h2, by show up W.S w.heap.size σ b = _; rw [up_at, if_neg (by omega)]⟩
  · -- no two objects claim one block
    have claim : ∀ o' b, cl { W with blk := up W.blk d w.heap.size, val := up W.val d u, S := up W.S w.heap.size σ } o' ((s.ap (some d) v (.new d x)).ob o') b → (o' = d ∧ w.heap.size ≤ b) ∨ (o' ≠ d ∧ cl W o' (s.ob o') b ∧ b < w.heap.size) := fun o' b h => by
      have h' : cl { W with blk := up W.blk d w.heap.size, val := up W.val d u, S := up W.S w.heap.size σ } o' (up s.ob d x o') b := h
      rw [up_at] at h'
      by_cases hod : o' = d
      · rw [if_pos hod] at h'
        subst hod
        exact .inl ⟨rfl, hc b h'⟩
      · rw [if_neg hod] at h'
        have : cl W o' (s.ob o') b := by
          generalize s.ob o' = y at h' ⊢
          cases y with
          | no => exact h'
          | cells cs => have h2 : up W.blk d w.heap.size o' = b := h'; rw [up_at, if_neg hod] at h2; exact h2
          | row E sz m => have h2 : (up W.val d u o').ownBlock = some b := h'; rw [up_at, if_neg hod] at h2; exact h2
          | ab H => exact h'
        exact .inr ⟨hod, this, (cl_lt hs this).2⟩
    rcases claim o1 b h1 with ⟨rfl, hb1⟩ | ⟨hn1, hc1, hb1⟩ <;> rcases claim o2 b h2 with ⟨rfl, hb2⟩ | ⟨hn2, hc2, hb2⟩
    · rfl
    · omega
    · omega
    · exact hs.ex _ _ _ hc1 hc2

/-- a block of cells is made -/
theorem Sim.newCells {w0 : World} {S0 : Nat → Nat} {W : Wit} {s : St} {a : Act} {w : World} (hs : Sim w0 S0 n W s a w) {d : Nat} (hd : d < n) {cs : List Cl} {arr : Array Value} (T : TypeId) (hr : RCs W s.gen s.ob w cs arr.toList) :
    ∃ W', Sim w0 S0 n W' (s.ap (some d) (.b (.one (.ptr d (s.gen d + 1) 0))) (.new d (.cells cs))) (a.put (some d) (.pointer (some ⟨w.heap.size, 0, none⟩))) (w.alloc (.cells arr T)) := by
  refine ⟨_, hs.new hd (W.val d) 0 ⟨fun b hb => heap_alloc_old w _ b hb, by simp, rfl, rfl, rfl⟩ ?_ ?_ ?_⟩
  · refine ⟨rfl, by rw [up_at, if_pos rfl]; exact Nat.le_refl _, fun _ => ?_⟩
    show _ = Value.pointer (some ⟨up W.blk d w.heap.size d, 0, none⟩)
    rw [up_at, if_pos rfl]
  · refine ⟨arr, T, ?_, ?_, ?_, ?_⟩
    · show (w.alloc _).heap[up W.blk d w.heap.size d]? = _
      rw [up_at, if_pos rfl]
      exact heap_alloc_new w _
    · show _ ≤ up W.blk d w.heap.size d
      rw [up_at, if_pos rfl]
      exact hs.below.size
    · show up W.S w.heap.size 0 (up W.blk d w.heap.size d) = 0
      rw [up_at, up_at, if_pos rfl, if_pos rfl]
    · refine RCs.fol ?_ hr
      refine ⟨fun b i h1 h2 => ?_, fun o' => ?_, fun o' h => ?_, fun o' E sz n' h h2 => ?_, fun _ _ => rfl⟩
      · have hlt : b < w.heap.size := by
          cases hcell : w.cell? ⟨b, i, none⟩ with
          | none => rw [hcell] at h2; cases h2
          | some y =>
            rcases Nat.lt_or_ge b w.heap.size with h | h
            · exact h
            · simp [World.cell?, Array.getElem?_eq_none h] at hcell
        refine ⟨?_, by simp [World.cell?, heap_alloc_old w _ b hlt]⟩
        show i < up W.S w.heap.size 0 b
        rw [up_at, if_neg (by omega)]
        exact h1
      · rw [up_at]; split <;> (try omega)
        rename_i h; rw [h]; omega
      · have : o' ≠ d := by rintro rfl; rw [up_at, if_pos rfl] at h; omega
        show up W.blk d w.heap.size o' = _
        rw [up_at, if_neg this]
      · have : o' ≠ d := by rintro rfl; rw [up_at, if_pos rfl] at h; omega
        rw [up_at, if_neg this] at h2
        refine ⟨n', h2, Nat.le_refl _, fun _ => ?_⟩
        show up W.val d (W.val d) o' = _
        rw [up_at, if_neg this]
  · intro b hb
    have h2 : up W.blk d w.heap.size d = b := hb
    rw [up_at, if_pos rfl] at h2
    omega

theorem good_box {d : Nat} (ho : o.dst = some d) (hd : d < n) {t : TypeId} {xo : Operand} {x : PX} (hop : o.op = .box t xo) (hx : cX xo = some x) : Good P n o (.box x) := by
  intro w0 S0 W s a w v ch hs hf
  simp only [PO.fn, Option.map_eq_some_iff, Prod.mk.injEq, ho, Option.getD_some] at hf
  obtain ⟨cs, hc, rfl, rfl⟩ := hf
  have hr := cs_ev hs hx hc
  obtain ⟨W', h⟩ := hs.newCells hd t hr
  rw [ho]
  exact ⟨W', _, _, .inl (by simp [execOp, hop, Instr.box, newVar, newRow]), h⟩

theorem good_new {d : Nat} (ho : o.dst = some d) (hd : d < n) {t : TypeId} {i : TypeInfo} {z : Value} (hop : o.op = .alloc t) (hi : P.info? t = some i) (hz : i.zero = some z) (hone : ∀ v ∈ z.cells.toList, v.oneCell' = true) : Good P n o (.new z.cells.toList) := by
  intro w0 S0 W s a w v ch hs hf
  simp only [PO.fn, Option.some.injEq, Prod.mk.injEq, ho, Option.getD_some] at hf
  obtain ⟨rfl, rfl⟩ := hf
  obtain ⟨W', h⟩ := hs.newCells hd (cs := z.cells.toList.map fun v => .d (.sc v)) (arr := z.cells) t ⟨by simp, fun i c u h1 h2 => by
    simp only [List.getElem?_map, h2, Option.map_some, Option.some.injEq] at h1
    subst h1
    exact RD.sc _ (hone u (List.mem_of_getElem? h2))⟩
  rw [ho]
  exact ⟨W', _, _, .inl (by simp [execOp, hop, Instr.alloc, zeroValue, typeInfo, hi, hz, newVar, newRow]), h⟩

theorem good_nilRow {d : Nat} (ho : o.dst = some d) (hd : d < n) {E sz : Nat} (hop : o.op = .assign (.const (.slice none 0 0))) : Good P n o (.nilRow E sz) := by
  intro w0 S0 W s a w v ch hs hf
  simp only [PO.fn, Option.some.injEq, Prod.mk.injEq, ho, Option.getD_some] at hf
  obtain ⟨rfl, rfl⟩ := hf
  rw [ho]
  refine ⟨_, .slice none 0 0, w, .inl (by simp [execOp, hop, Act.eval]), hs.new hd (.slice none 0 0) (W.S w.heap.size) ⟨fun _ _ => rfl, Nat.le_refl _, rfl, rfl, rfl⟩ ?_ ?_ ?_⟩
  · refine ⟨.emp none 0 (by unfold maxLen; omega), by rw [up_at, if_pos rfl]; exact Nat.le_refl _, fun _ E' sz' n' h => ?_⟩
    rw [up_at, if_pos rfl] at h
    cases h
    refine ⟨fun r hr => (by cases hr), by simp, fun _ => ?_⟩
    show _ = up W.val d (.slice none 0 0) d
    rw [up_at, if_pos rfl]
  · refine ⟨[], ?_, ?_⟩
    · show w.ownsRow _ _ _ (up W.val d (.slice none 0 0) d) _ _
      rw [up_at, if_pos rfl]
      exact World.ownsRow_nil _ _ _ _
    · intro g hg
      have h2 : (up W.val d (.slice none 0 0) d).ownBlock = some g := hg
      rw [up_at, if_pos rfl] at h2
      cases h2
  · intro b hb
    have h2 : (up W.val d (.slice none 0 0) d).ownBlock = some b := hb
    rw [up_at, if_pos rfl] at h2
    cases h2
end
end Go.Proofs.Ytkdagjlkejefnaa
