/- Slice literals and append: each does what its plain reading says. -/
import Derived.Test.YtkdagjlkejefnaaPg
set_option linter.unusedSimpArgs false
set_option linter.unusedVariables false
namespace Go.Proofs.Ytkdagjlkejefnaa
open Go Go.RowKit

section
variable {n : Nat} {P : Program} {o : Oper}

theorem good_bslice {d : Nat} (ho : o.dst = some d) (hd : d < n) {t E ln : Nat} {ei : TypeInfo} {ze : Value} {ps : Array (Nat × Operand)} {qs : List (Nat × Nat × PX)} (hop : o.op = .buildSlice t ln ps)
    (ht : P.underlying t = some (.slice E)) (hi : P.info? E = some ei) (hze : ei.zero = some ze) (hzo : ∀ v ∈ ze.cells.toList, v.oneCell' = true) (hzs : ze.cells.size = ei.size) (hsz : 0 < ei.size) (hln : ln * ei.size ≤ 16777216)
    (hl : ps.toList.length = qs.length) (hpl : ∀ (j : Nat) i xo off k x, ps.toList[j]? = some (i, xo) → qs[j]? = some (off, k, x) → (some (i * ei.size, ei.size) : Option (Nat × Nat)) = some (off, k) ∧ cX xo = some x) :
    Good P n o (.bslice E ei.size ((Array.range (ln * ei.size)).map (ze.cells[· % ze.cells.size]!)).toList ln qs) := by
  intro w0 S0 W s a w v ch hs hf
  obtain ⟨z, hz⟩ : ∃ z, (Array.range (ln * ei.size)).map (ze.cells[· % ze.cells.size]!) = z := ⟨_, rfl⟩
  rw [hz] at hf
  have hzone : ∀ v ∈ z.toList, v.oneCell' = true := by
    intro v hv
    rw [← hz] at hv
    simp only [Array.toList_map, List.mem_map] at hv
    obtain ⟨k, _, rfl⟩ := hv
    have hlt : k % ze.cells.size < ze.cells.size := Nat.mod_lt _ (by omega)
    rw [getElem!_pos ze.cells _ hlt]
    exact hzo _ (by simp)
  have hzlen : z.size = ln * ei.size := by rw [← hz]; simp
  simp only [PO.fn, Option.bind_eq_some_iff, Option.map_eq_some_iff, Prod.mk.injEq, ho, Option.getD_some] at hf
  obtain ⟨rs, hrs, cs, hcs, xs, hxs, rfl, rfl⟩ := hf
  rw [chunks_eq]
  have hz0 : RCs W s.gen s.ob w (z.toList.map fun v => Cl.d (.sc v)) z.toList := ⟨by simp, fun i c u h1 h2 => by
    simp only [List.getElem?_map, h2, Option.map_some, Option.some.injEq] at h1
    subst h1
    exact RD.sc _ (hzone u (List.mem_of_getElem? h2))⟩
  obtain ⟨cells, h1, h2⟩ := fill_ok hs (place := fun i => some (i * ei.size, ei.size)) ps.toList qs rs _ cs z hl hpl hrs hcs hz0
  have hclen : cells.size = ln * ei.size := by
    -- the cells keep their number
    have key : ∀ (rs : List (Nat × List Cl)) (c0 c1 : List Cl), fillAll c0 rs = some c1 → c1.length = c0.length := by
      intro rs
      induction rs with
      | nil => intro c0 c1 h; simp [fillAll] at h; subst h; rfl
      | cons p rs ih =>
        intro c0 c1 h
        obtain ⟨off, nw⟩ := p
        simp only [fillAll] at h
        split at h
        · rename_i hle
          rw [ih _ _ h]
          exact splice_length c0 off nw hle
        · cases h
    have h3 := key _ _ _ hcs
    have h4 := h2.1
    simp only [List.length_map, Array.length_toList] at h3 h4
    omega
  have hxl : xs.length = ln * ei.size := by
    have := congrArg List.length (allSome_get _ _ hxs)
    have h4 := h2.1
    simp at this h4
    omega
  have hxr : ∀ (j : Nat) x, xs[j]? = some x → ∃ u, cells.toList[j]? = some u ∧ RD W.S w x u := fun j x hj => by
    have h3 := congrArg (·[j]?) (allSome_get _ _ hxs)
    simp only [List.getElem?_map, hj, Option.map_some] at h3
    cases hc : cs[j]? with
    | none => rw [hc] at h3; simp at h3
    | some c =>
      rw [hc] at h3
      simp at h3
      have hlt : j < cells.toList.length := by rw [← h2.1]; exact (List.getElem?_eq_some_iff.1 hc).1
      refine ⟨cells.toList[j], List.getElem?_eq_getElem hlt, RC.dt (h2.2 j c _ hc (List.getElem?_eq_getElem hlt)) h3⟩
  obtain ⟨rows, hrows⟩ : ∃ rows, (List.range ln).map (fun i => (xs.drop (i * ei.size)).take ei.size) = rows := ⟨_, rfl⟩
  rw [hrows]
  have hrl : rows.length = ln := by rw [← hrows]; simp
  have hlnm : ln ≤ 16777216 := Nat.le_trans (Nat.le_mul_of_pos_right ln hsz) hln
  have hrsz : ∀ r, r ∈ rows → r.length = ei.size := by
    intro r hr
    rw [← hrows] at hr
    simp only [List.mem_map, List.mem_range] at hr
    obtain ⟨i, hi2, rfl⟩ := hr
    have : (i + 1) * ei.size ≤ ln * ei.size := Nat.mul_le_mul_right _ hi2
    rw [Nat.add_mul, Nat.one_mul] at this
    simp [hxl]
    omega
  rw [ho]
  refine ⟨_, .slice (some ⟨w.heap.size, 0, none⟩) ln ln, w.alloc (.cells cells E), .inl ?_, hs.new hd (.slice (some ⟨w.heap.size, 0, none⟩) ln ln) (ln * ei.size) ⟨fun b hb => heap_alloc_old w _ b hb, by simp, rfl, rfl, rfl⟩ ?_ ?_ ?_⟩
  · have hfill : Instr.fill (fun i => some (i * ei.size, ei.size)) z (ps.toList.map fun p => (p.1, a.eval p.2)) = some cells := h1
    have hmap : (ps.map fun (i, x) => (i, a.eval x)).toList = ps.toList.map fun p => (p.1, a.eval p.2) := by simp
    have h24 : ¬ (16777216 < ln * ei.size) := by omega
    by_cases h0 : ln * ei.size = 0
    · have hz0' : z = #[] := by
        apply Array.eq_empty_of_size_eq_zero; rw [hzlen, h0]
      have hln0 : ln = 0 := by
        rcases Nat.mul_eq_zero.1 h0 with h | h
        · exact h
        · omega
      subst hln0
      rw [hz0'] at hfill
      have hr0 : ∀ f : Nat → Value, Array.map f (Array.range 0) = #[] := fun f => by simp
      simp only [execOp, hop, Instr.buildSlice, run_underlying ht, sizeOf, typeInfo, hi, Sem.run_bind, Result.andThen_ok]
      simp [hi, hmap, hr0, hfill, newRow]
    · have hz' : (Array.range (ln * ei.size)).map (fun k => ze.cells[k % ze.cells.size]!) = z := hz
      simp only [execOp, hop, Instr.buildSlice, run_underlying ht, sizeOf, typeInfo, zeroValue, hi, hze, Sem.run_bind, Result.andThen_ok]
      simp [hi, hze, hmap, hz', hfill, newRow, h24, h0]
  · -- what is read
    refine ⟨?_, by rw [up_at, if_pos rfl]; exact Nat.le_refl _, fun _ E' sz' n' h => ?_⟩
    · have hext : Ext W.S (up W.S w.heap.size (ln * ei.size)) w (w.alloc (.cells cells E)) := fun b i h1 h2 => by
        have hlt : b < w.heap.size := by
          cases hcell : w.cell? ⟨b, i, none⟩ with
          | none => rw [hcell] at h2; cases h2
          | some y =>
            rcases Nat.lt_or_ge b w.heap.size with h | h
            · exact h
            · simp [World.cell?, Array.getElem?_eq_none h] at hcell
        refine ⟨?_, by simp [World.cell?, heap_alloc_old w _ b hlt]⟩
        rw [up_at, if_neg (by omega)]
        exact h1
      have hR : RD (up W.S w.heap.size (ln * ei.size)) (w.alloc (.cells cells E)) (.im rows) (.slice (some ⟨w.heap.size, 0, none⟩) rows.length ln) := by
       refine RD.block (vs := cells.toList) (sz := ei.size) hrsz (by rw [hrl]; simpa using hclen) (fun j u hj => ⟨?_, ?_⟩) (by omega) (by unfold maxLen; omega) (fun i r j x hr hx => ?_)
       · simp only [World.cell?, heap_alloc_new, Nat.zero_add]
         simpa using hj
       · show 0 + j < up W.S w.heap.size (ln * ei.size) w.heap.size
         rw [up_at, if_pos rfl]
         have := (List.getElem?_eq_some_iff.1 hj).1
         simp at this
         omega
       · have hil := (List.getElem?_eq_some_iff.1 hr).1
         rw [hrl] at hil
         rw [← hrows, List.getElem?_map, List.getElem?_range hil] at hr
         simp only [Option.map_some, Option.some.injEq] at hr
         subst hr
         rw [List.getElem?_take] at hx
         split at hx
         · rw [List.getElem?_drop] at hx
           obtain ⟨u, h3, h4⟩ := hxr _ _ hx
           exact ⟨u, h3, RD.ext hext h4⟩
         · cases hx
      rw [hrl] at hR
      exact hR
    · rw [up_at, if_pos rfl] at h
      cases h
      refine ⟨hrsz, by omega, fun _ => ?_⟩
      show _ = up W.val d (.slice (some ⟨w.heap.size, 0, none⟩) ln ln) d
      rw [up_at, if_pos rfl]
  · refine ⟨cells.toList, ?_, ?_⟩
    · show (w.alloc _).ownsRow _ _ _ (up W.val d (.slice (some ⟨w.heap.size, 0, none⟩) ln ln) d) _ _
      rw [up_at, if_pos rfl]
      exact ⟨by simpa using hclen, .inr ⟨w.heap.size, ln, cells, rfl, hs.below.size, heap_alloc_new w _, Nat.le_refl _, by unfold maxLen; omega, hclen, by rw [List.take_of_length_le]; simp [hclen]⟩⟩
    · intro g hg
      have h2 : (up W.val d (.slice (some ⟨w.heap.size, 0, none⟩) ln ln) d).ownBlock = some g := hg
      rw [up_at, if_pos rfl] at h2
      have h3 : w.heap.size = g := by simpa [Value.ownBlock] using h2
      subst h3
      show up W.S w.heap.size (ln * ei.size) w.heap.size ≤ _
      rw [up_at, if_pos rfl]
      exact Nat.le_refl _
  · intro b hb
    have h2 : (up W.val d (.slice (some ⟨w.heap.size, 0, none⟩) ln ln) d).ownBlock = some b := hb
    rw [up_at, if_pos rfl] at h2
    have h3 : w.heap.size = b := by simpa [Value.ownBlock] using h2
    omega

/-- a row that is the call's own has grown: in its block, or into a new one -/
theorem Sim.grow {w0 : World} {S0 : Nat → Nat} {W : Wit} {s : St} {a : Act} {w : World} (hs : Sim w0 S0 n W s a w) {d : Nat} (hd : d < n) {o' E sz k m : Nat} (hob : s.ob o' = .row E sz k) (hm : 0 < m)
    {w' : World} {h cap : Nat} {cur : Array Value} {xs : List Value} {rows : List (List Dt)} (hlen : rows.length = k + m) (hsz : ∀ r, r ∈ rows → r.length = sz)
    (hw : (∀ b, b < w.heap.size → b ≠ h → w'.heap[b]? = w.heap[b]?) ∧ w.heap.size ≤ w'.heap.size ∧ w'.os = w.os ∧ w'.tape = w.tape ∧ w'.output = w.output)
    (hrow : w'.heap[h]? = some (.cells cur E (0, 0))) (hbase : w0.heap.size ≤ h) (hc1 : k + m ≤ cap) (hc2 : cap ≤ maxLen) (hc3 : cur.size = cap * sz) (hxl : xs.length = (k + m) * sz) (hc4 : cur.toList.take ((k + m) * sz) = xs)
    (hh : h = w.heap.size ∨ ((W.val o').ownBlock = some h ∧ ∀ i, i < k * sz → w'.cell? ⟨h, i, none⟩ = w.cell? ⟨h, i, none⟩))
    (hrd : ∀ i r j x, rows[i]? = some r → r[j]? = some x → ∃ u, xs[i * sz + j]? = some u ∧ RD W.S w x u) :
    Sim w0 S0 n { W with val := up W.val o' (.slice (some ⟨h, 0, none⟩) (k + m) cap), S := up W.S h ((k + m) * sz) } (s.ap (some d) (.b (.one (.own o' (s.gen o') rows))) (.row o' (k + m)))
      (a.put (some d) (.slice (some ⟨h, 0, none⟩) (k + m) cap)) w' := by
  obtain ⟨ys, hys, hyS⟩ : ∃ ys, w.ownsRow w0.heap.size E sz (W.val o') k ys ∧ ∀ g, (W.val o').ownBlock = some g → W.S g ≤ k * sz := by
    have := hs.ob o'
    rw [hob] at this
    exact this
  have hap : (s.ap (some d) (.b (.one (.own o' (s.gen o') rows))) (.row o' (k + m))).ob = up s.ob o' (.row E sz (k + m)) := by
    show up s.ob o' _ = _
    rw [hob]
  have hlt : ∀ b i, (w.cell? ⟨b, i, none⟩).isSome = true → b < w.heap.size := fun b i h2 => by
    cases hcell : w.cell? ⟨b, i, none⟩ with
    | none => rw [hcell] at h2; cases h2
    | some y =>
      rcases Nat.lt_or_ge b w.heap.size with h | h
      · exact h
      · simp [World.cell?, Array.getElem?_eq_none h] at hcell
  have hext : Ext W.S (up W.S h ((k + m) * sz)) w w' := fun b i h1 h2 => by
    by_cases hb : b = h
    · subst hb
      rcases hh with hh | ⟨hh1, hh2⟩
      · have := hlt _ _ h2; omega
      · have := hyS _ hh1
        refine ⟨?_, hh2 i (by omega)⟩
        rw [up_at, if_pos rfl, Nat.add_mul]
        omega
    · refine ⟨by rw [up_at, if_neg hb]; exact h1, ?_⟩
      simp [World.cell?, hw.1 b (hlt _ _ h2) hb]
  have hfol : Fol W s.gen s.ob w { W with val := up W.val o' (.slice (some ⟨h, 0, none⟩) (k + m) cap), S := up W.S h ((k + m) * sz) } s.gen (up s.ob o' (.row E sz (k + m))) w' := by
    refine ⟨hext, fun _ => Nat.le_refl _, fun _ _ => rfl, fun o2 E2 sz2 n2 _ ho2 => ?_, fun _ _ => rfl⟩
    rw [up_at] at ho2
    split at ho2
    · rename_i he
      cases ho2
      exact ⟨k, by rw [he]; exact hob, by omega, fun hk => by omega⟩
    · rename_i he
      refine ⟨n2, ho2, Nat.le_refl _, fun _ => ?_⟩
      show up W.val o' _ o2 = _
      rw [up_at, if_neg he]
  refine hs.step (fun d' h => by cases h; exact hd) (by rw [hap]; exact hfol) ⟨hw.2.2.1, hw.2.2.2.1, hw.2.2.2.2, hw.2.1, fun b hb => hw.1 b (Nat.lt_of_lt_of_le hb hs.below.size) (by omega)⟩ (fun b hb => ?_) ?_ (fun o2 => ?_) (fun o1 o2 b c1 c2 => ?_)
  · show up W.S h _ b = _
    rw [up_at, if_neg (by omega)]
  · rw [hap]
    refine ⟨?_, Nat.le_refl _, fun _ E2 sz2 n2 ho2 => ?_⟩
    · have hR : RD (up W.S h ((k + m) * sz)) w' (.im rows) (.slice (some ⟨h, 0, none⟩) rows.length cap) := by
       refine RD.block (vs := xs) hsz (by rw [hxl, hlen]) (fun j u hj => ⟨?_, ?_⟩) (by omega) hc2 (fun i r j x hr hx => ?_)
       · rw [← hc4, List.getElem?_take] at hj
         split at hj
         · simp only [World.cell?, hrow, Nat.zero_add]
           simpa using hj
         · cases hj
       · show 0 + j < up W.S h _ h
         rw [up_at, if_pos rfl]
         have := (List.getElem?_eq_some_iff.1 hj).1
         omega
       · obtain ⟨u, h3, h4⟩ := hrd i r j x hr hx
         exact ⟨u, h3, RD.ext hext h4⟩
      rw [hlen] at hR
      exact hR
    · rw [up_at, if_pos rfl] at ho2
      cases ho2
      refine ⟨hsz, by omega, fun _ => ?_⟩
      show _ = up W.val o' _ o'
      rw [up_at, if_pos rfl]
  · rw [hap]
    by_cases he : o2 = o'
    · subst he
      rw [up_at, if_pos rfl]
      refine ⟨xs, ?_, fun g hg => ?_⟩
      · show w'.ownsRow _ _ _ (up W.val o2 _ o2) _ _
        rw [up_at, if_pos rfl]
        exact ⟨hxl, .inr ⟨h, cap, cur, rfl, hbase, hrow, hc1, hc2, hc3, hc4⟩⟩
      · have h2 : (up W.val o2 (.slice (some ⟨h, 0, none⟩) (k + m) cap) o2).ownBlock = some g := hg
        rw [up_at, if_pos rfl] at h2
        have h3 : h = g := by simpa [Value.ownBlock] using h2
        subst h3
        show up W.S h _ h ≤ _
        rw [up_at, if_pos rfl]
        exact Nat.le_refl _
    · rw [up_at, if_neg he]
      refine RO.fol hfol (hs.ob o2) rfl (by show up W.val o' _ o2 = _; rw [up_at, if_neg he]) rfl (fun b hb => ?_)
      have hbh : b ≠ h := by
        rintro rfl
        rcases hh with hh | ⟨hh1, _⟩
        · have := (cl_lt hs hb).2; omega
        · exact he (hs.ex _ _ _ hb (by rw [hob]; exact hh1))
      exact ⟨hw.1 b (cl_lt hs hb).2 hbh, by show up W.S h _ b = _; rw [up_at, if_neg hbh]⟩
  · have claim : ∀ o3 b, cl { W with val := up W.val o' (.slice (some ⟨h, 0, none⟩) (k + m) cap), S := up W.S h ((k + m) * sz) } o3 ((s.ap (some d) (.b (.one (.own o' (s.gen o') rows))) (.row o' (k + m))).ob o3) b → (o3 = o' ∧ b = h) ∨ (o3 ≠ o' ∧ b ≠ h ∧ cl W o3 (s.ob o3) b) := fun o3 b hb => by
      rw [hap, up_at] at hb
      split at hb
      · rename_i he
        subst he
        have h2 : (up W.val o3 (.slice (some ⟨h, 0, none⟩) (k + m) cap) o3).ownBlock = some b := hb
        rw [up_at, if_pos rfl] at h2
        have h3 : h = b := by simpa [Value.ownBlock] using h2
        exact .inl ⟨rfl, h3.symm⟩
      · rename_i he
        have hb' : cl W o3 (s.ob o3) b := by
          generalize s.ob o3 = y at hb ⊢
          cases y with
          | no => exact hb
          | cells cs => exact hb
          | row E sz m => have h2 : (up W.val o' _ o3).ownBlock = some b := hb; rw [up_at, if_neg he] at h2; exact h2
          | ab H => exact hb
        refine .inr ⟨he, ?_, hb'⟩
        rintro rfl
        rcases hh with hh | ⟨hh1, _⟩
        · have := (cl_lt hs hb').2; omega
        · exact he (hs.ex _ _ _ hb' (by rw [hob]; exact hh1))
    rcases claim o1 b c1 with ⟨h1, h2⟩ | ⟨h1, h2, h3⟩ <;> rcases claim o2 b c2 with ⟨k1, k2⟩ | ⟨k1, k2, k3⟩
    · rw [h1, k1]
    · exact absurd h2 k2
    · exact absurd k2 h2
    · exact hs.ex _ _ _ h3 k3

theorem run_append_zero {t E : Nat} {ei : TypeInfo} (ht : P.underlying t = some (.slice E)) (hi : P.info? E = some ei) (ty : TypeId) (A B : Option Addr) (len cap c : Nat) (hle : len ≤ cap) (w : World) :
    (Builtin.append_ #[t, t] ty #[.slice A len cap, .slice B 0 c]).run P w = .ok (.slice A len cap) w := by
  cases A <;> cases B <;> simp [Builtin.append_, run_underlying ht, sizeOf, typeInfo, hi, Builtin.lenOf, hle, Builtin.firstCells, loadCells, loadCellsFrom, storeCells]

theorem good_append {d : Nat} (ho : o.dst = some d) (hd : d < n) {t E : Nat} {ei : TypeInfo} {ze : Value} {xo yo : Operand} {x y : PX} {c : Call} (hop : o.op = .call c) (hc : c.callee = .builtin .append) (ha : c.args = #[xo, yo]) (hat : c.argTypes = #[t, t])
    (ht : P.underlying t = some (.slice E)) (hi : P.info? E = some ei) (hze : ei.zero = some ze) (hzs : ze.cells.size = ei.size) (hsz : 0 < ei.size) (hx : cX xo = some x) (hy : cX yo = some y) : Good P n o (.append E ei.size ei.bytes x y) := by
  intro w0 S0 W s a w v ch hs hf
  rw [ho]
  simp only [PO.fn] at hf
  split at hf
  · rename_i o' g rows news heq hnews
    split at hf
    · rename_i hg
      subst hg
      split at hf
      · rename_i E' sz' k hob
        split at hf
        · rename_i hcond
          obtain ⟨rfl, rfl, rfl, hnsz, hbd, hby⟩ := hcond
          cases hf
          obtain ⟨hrd, _, hown⟩ := cl_ev hs hx heq (by simp)
          obtain ⟨hrsz, _, hval⟩ := hown rfl E' ei.size rows.length hob
          have hval := hval rfl
          obtain ⟨xs, hxs, hxS⟩ : ∃ ys, w.ownsRow w0.heap.size E' ei.size (W.val o') rows.length ys ∧ ∀ g, (W.val o').ownBlock = some g → W.S g ≤ rows.length * ei.size := by
            have := hs.ob o'
            rw [hob] at this
            exact this
          obtain ⟨A, cap2, vs, e0, e1, e2, e3, e4, e5, e6⟩ := (rows_ev hs hy hnews).flat hnsz
          have hrun : ∀ (r : Value) (w' : World), (Builtin.append_ #[t, t] o.type #[W.val o', .slice A news.length cap2]).run P w = .ok r w' → (execOp a.eval o).run P w = .ok (.value r) w' := fun r w' h =>
            run_builtin hop hc Builtin.append_ (fun _ _ _ _ => rfl) (by rw [ha, hat]; simpa [hval, e0] using h)
          by_cases hm : news.length = 0
          · -- nothing is appended
            have hn0 : news = [] := List.eq_nil_of_length_eq_zero hm
            subst hn0
            obtain ⟨B, cap, hB, hBc⟩ : ∃ B cap, W.val o' = .slice B rows.length cap ∧ rows.length ≤ cap := by
              rcases hxs.2 with ⟨h1, h2⟩ | ⟨g, cap, cur, h1, _, _, h4, _⟩
              · exact ⟨none, 0, by rw [h1, h2], by omega⟩
              · exact ⟨_, cap, h1, h4⟩
            have happ : (s.ap (some d) (.b (.one (.own o' (s.gen o') (rows ++ [])))) (.row o' (rows.length + ([] : List (List Dt)).length))) = s.ap (some d) (.b (.one (.own o' (s.gen o') rows))) .no := by
              simp only [St.ap, List.append_nil, List.length_nil]
              congr 1
              funext z
              rw [up_at]
              split
              · rename_i hz; rw [hz, hob]; rfl
              · rfl
            rw [happ]
            refine ⟨W, a.eval xo, w, .inl (hrun _ _ ?_), hs.put (fun d' h => by cases h; exact hd) ?_⟩
            · rw [hval, hB]
              exact run_append_zero ht hi _ _ _ _ _ _ hBc w
            · exact ⟨hrd, Nat.le_refl _, hown⟩
          · have hm0 : 0 < news.length := Nat.pos_of_ne_zero hm
            obtain ⟨b, off, rfl, e7⟩ : ∃ b o, A = some ⟨b, o, none⟩ ∧ ∀ j u, vs[j]? = some u → w.cell? ⟨b, o + j, none⟩ = some u ∧ o + j < W.S b := by
              rcases e6 with e6 | e6
              · rw [e6] at hm0; simp at hm0
              · exact e6
            have hnv : ∀ (j : Nat) u, vs[j]? = some u → w.cell? ((⟨b, off, none⟩ : Addr).add j) = some u := fun j u hj => by rw [addr_add]; exact (e7 j u hj).1
            have hbytes : (rows.length + news.length) * ei.bytes ≤ 1000000 * 1000000 := Nat.mul_le_mul hbd hby
            have hlen : (rows ++ news).length = rows.length + news.length := List.length_append
            have hall : ∀ r, r ∈ rows ++ news → r.length = ei.size := fun r hr => by
              rcases List.mem_append.1 hr with h | h
              · exact hrsz r h
              · exact hnsz r h
            have hxl : (xs ++ vs).length = (rows.length + news.length) * ei.size := by rw [List.length_append, hxs.1, e3, Nat.add_mul]
            -- the cells that the row holds read as its rows
            have hrow : ∀ (i : Nat) r (j : Nat) x, rows[i]? = some r → r[j]? = some x → ∃ u, xs[i * ei.size + j]? = some u ∧ RD W.S w x u := fun i r j x hr hx => by
              obtain ⟨A', cap', vs', f0, f1, f2, f3, f4, f5, f6⟩ := hrd.flat hrsz
              obtain ⟨u, h1, h2⟩ := f5 i r j x hr hx
              rcases f6 with f6 | ⟨b', o2, rfl, f7⟩
              · rw [f6] at hr; simp at hr
              · have h3 := (f7 _ _ h1).1
                rw [hval] at f0
                rcases hxs.2 with ⟨k1, k2⟩ | ⟨g, cap, cur, k1, k2, k3, k4, k5, k6, k7⟩
                · rw [k1] at f0; simp at f0
                · rw [k1] at f0
                  simp only [Value.slice.injEq, Option.some.injEq, Addr.mk.injEq] at f0
                  obtain ⟨⟨rfl, rfl, _⟩, _⟩ := f0
                  have hlt := (List.getElem?_eq_some_iff.1 h1).1
                  rw [f3, ← hxs.1] at hlt
                  have h4 := hxs.cells (g := g) (by rw [k1]; rfl) _ _ (List.getElem?_eq_getElem hlt)
                  rw [addr_add] at h4
                  rw [h3] at h4
                  cases h4
                  exact ⟨_, List.getElem?_eq_getElem hlt, h2⟩
            have hboth : ∀ (i : Nat) r (j : Nat) x, (rows ++ news)[i]? = some r → r[j]? = some x → ∃ u, (xs ++ vs)[i * ei.size + j]? = some u ∧ RD W.S w x u := fun i r j x hr hx => by
              have hjl := (List.getElem?_eq_some_iff.1 hx).1
              rw [hall r (List.mem_of_getElem? hr)] at hjl
              by_cases hi : i < rows.length
              · rw [List.getElem?_append_left hi] at hr
                obtain ⟨u, h1, h2⟩ := hrow i r j x hr hx
                exact ⟨u, by rw [List.getElem?_append_left (List.getElem?_eq_some_iff.1 h1).1]; exact h1, h2⟩
              · rw [List.getElem?_append_right (by omega)] at hr
                obtain ⟨u, h1, h2⟩ := e5 _ r j x hr hx
                refine ⟨u, ?_, h2⟩
                have hge : xs.length ≤ i * ei.size + j := by
                  rw [hxs.1]
                  exact Nat.le_trans (Nat.mul_le_mul_right _ (by omega)) (Nat.le_add_right _ _)
                rw [List.getElem?_append_right hge, hxs.1, show i * ei.size + j - rows.length * ei.size = (i - rows.length) * ei.size + j by
                  rw [Nat.sub_mul]
                  have : rows.length * ei.size ≤ i * ei.size := Nat.mul_le_mul_right _ (by omega)
                  omega]
                exact h1
            have h63 : rows.length + news.length ≤ maxLen := by unfold maxLen; omega
            -- a new block
            have fresh : ∀ old, old < rows.length + news.length → (Builtin.append_ #[t, t] o.type #[W.val o', .slice (some ⟨b, off, none⟩) news.length cap2]).run P w =
                .ok (.slice (some ⟨w.heap.size, 0, none⟩) (rows.length + news.length) (grownCap w (rows.length + news.length) old E'))
                  (w.drew.alloc (.cells (xs.toArray ++ vs.toArray ++ Builtin.zeroCells ze.cells (grownCap w (rows.length + news.length) old E' - (rows.length + news.length))) E')) →
                ∃ W' rv w', ((execOp a.eval o).run P w = .ok (.value rv) w' ∨ ((execOp a.eval o).run P w = .ok .skip w' ∧ rv = undef)) ∧
                  Sim w0 S0 n W' (s.ap (some d) (.b (.one (.own o' (s.gen o') (rows ++ news)))) (.row o' (rows.length + news.length))) (a.put (some d) rv) w' := fun old ho hr => by
              have hge := grownCap_ge w (rows.length + news.length) old E'
              refine ⟨_, _, _, .inl (hrun _ _ hr), hs.grow hd hob hm0 (xs := xs ++ vs) hlen hall ⟨fun b' hb' _ => heap_alloc_old w.drew _ b' hb', by simp, rfl, rfl, rfl⟩ (heap_alloc_new w.drew _) hs.below.size hge (grownCap_le_maxLen w _ old E' h63) ?_ hxl ?_ (.inl rfl) hboth⟩
              · simp only [Array.size_append, List.size_toArray, size_zeroCells, hzs, hxs.1, e3, ← Nat.add_mul]
                congr 1
                omega
              · simp only [Array.toList_append, List.append_assoc]
                rw [← List.append_assoc, ← hxl]
                exact List.take_left
            rcases hxs.2 with ⟨h1, h2⟩ | ⟨g, cap, cur, h1, h2, h3, h4, h5, h6, h7⟩
            · have hx0 : xs = [] := List.eq_nil_of_length_eq_zero (by rw [hxs.1, h2, Nat.zero_mul])
              refine fresh 0 (by omega) ?_
              have hr := run_append_nil (P := P) w t o.type E' ei ze ht hi hze ⟨b, off, none⟩ news.length cap2 vs e3 hnv hm0 (by unfold maxLen at h63; omega) (by rw [h2, Nat.zero_add] at hbytes; omega)
              rw [h1, h2, hx0]
              simpa using hr
            · by_cases hroom : rows.length + news.length ≤ cap
              · have hfit : rows.length * ei.size + vs.length ≤ cur.size := by rw [e3, h6, ← Nat.add_mul]; exact Nat.mul_le_mul_right _ hroom
                have hr := run_append_room (P := P) w t o.type E' ei ht hi g rows.length cap cur h3 ⟨b, off, none⟩ news.length cap2 vs e3 hnv e4 hroom hfit
                rw [← h1] at hr
                refine ⟨_, _, _, .inl (hrun _ _ hr), hs.grow hd hob hm0 (xs := xs ++ vs) hlen hall ⟨fun b' _ hb' => setRow_other w g b' _ hb', by simp, rfl, rfl, rfl⟩ (setRow_heap w g cur _ E' (0, 0) h3) h2 hroom h5 ?_ hxl ?_ (.inr ⟨by rw [h1]; rfl, fun i hi => ?_⟩) hboth⟩
                · simp only [List.size_toArray, List.length_append, List.length_take, List.length_drop, Array.length_toList]
                  omega
                · rw [h7, ← hxl]
                  exact List.take_left
                · have hil : i < cur.size := by omega
                  simp only [World.cell?, setRow_heap w g cur _ E' (0, 0) h3, h3]
                  simp only [Option.isSome_none, Bool.false_eq_true, if_false, List.getElem?_toArray]
                  rw [List.append_assoc, List.getElem?_append_left (by simp; omega), List.getElem?_take, if_pos hi]
                  simp
              · refine fresh cap (by omega) ?_
                have holds : ∀ (j : Nat) u, xs[j]? = some u → w.cell? ((⟨g, 0, none⟩ : Addr).add j) = some u := hxs.cells (g := g) (by rw [h1]; rfl)
                have hr := run_append_grow (P := P) w t o.type E' ei ze ht hi hze ⟨g, 0, none⟩ rows.length cap xs hxs.1 holds ⟨b, off, none⟩ news.length cap2 vs e3 hnv (by omega) (by unfold maxLen at h63; omega) (growslice_fits (by omega) (by omega))
                rw [h1]
                exact hr
        · cases hf
      · cases hf
    · cases hf
  · cases hf
end
end Go.Proofs.Ytkdagjlkejefnaa
