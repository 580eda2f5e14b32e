/- Literals, slices of slices, append: each does what its plain reading says. -/
import Derived.Test.YtkdagjlkejefnaaPf
set_option linter.unusedSimpArgs false
set_option linter.unusedVariables false
namespace Go.Proofs.Ytkdagjlkejefnaa
open Go Go.RowKit

section
variable {n : Nat} {P : Program} {o : Oper}

theorem RC.dt {W : Wit} {G : Nat → Nat} {O : Nat → Ob} {w : World} {c : Cl} {x : Dt} {v : Value} (h : RC W G O w c v) (hd : c.dt = some x) : RD W.S w x v := by
  unfold Cl.dt at hd
  split at hd
  · cases hd
    obtain ⟨rfl, _⟩ := RD.sc_inv (show RD W.S w _ v from h)
    exact .emp none 0 (by unfold maxLen; omega)
  · cases hd; exact h
  · cases hd; exact h.1
  · cases hd

theorem allSome_get {α : Type} : ∀ (l : List (Option α)) (xs : List α), allSome l = some xs → l = xs.map some
  | [], xs, h => by simp [allSome] at h; subst h; rfl
  | none :: _, xs, h => by simp [allSome] at h
  | some x :: l, xs, h => by
    simp only [allSome, Option.map_eq_some_iff] at h
    obtain ⟨ys, hy, rfl⟩ := h
    rw [allSome_get l ys hy]; rfl

/-- rows in the midst of a block -/
theorem RD.block {S : Nat → Nat} {w : World} {rows : List (List Dt)} {b o cap sz : Nat} {vs : List Value} (hsz : ∀ r, r ∈ rows → r.length = sz) (hl : vs.length = rows.length * sz)
    (hc : ∀ j u, vs[j]? = some u → w.cell? ⟨b, o + j, none⟩ = some u ∧ o + j < S b) (hcap : rows.length ≤ cap) (hm : cap ≤ maxLen)
    (hd : ∀ i r j x, rows[i]? = some r → r[j]? = some x → ∃ u, vs[i * sz + j]? = some u ∧ RD S w x u) : RD S w (.im rows) (.slice (some ⟨b, o, none⟩) rows.length cap) := by
  refine .im rows sz b o cap (fun i j => vs.getD (i * sz + j) undef) hcap hm hsz (fun i j hi hj => ?_) (fun i r j x hr hx => ?_)
  · have hlt : i * sz + j < vs.length := by
      rw [hl]
      calc i * sz + j < i * sz + sz := by omega
        _ = (i + 1) * sz := by rw [Nat.add_mul, Nat.one_mul]
        _ ≤ rows.length * sz := Nat.mul_le_mul_right _ hi
    have h1 := List.getElem?_eq_getElem hlt
    obtain ⟨h2, h3⟩ := hc _ _ h1
    refine ⟨?_, h3⟩
    rw [h2, List.getD_eq_getElem?_getD, h1]
    rfl
  · obtain ⟨u, h1, h2⟩ := hd i r j x hr hx
    rw [List.getD_eq_getElem?_getD, h1]
    exact h2

/-- .. and back: the cells of a slice that is read -/
theorem RD.flat {S : Nat → Nat} {w : World} {rows : List (List Dt)} {v : Value} (h : RD S w (.im rows) v) {sz : Nat} (hsz : ∀ r, r ∈ rows → r.length = sz) :
    ∃ (A : Option Addr) (cap : Nat) (vs : List Value), v = .slice A rows.length cap ∧ rows.length ≤ cap ∧ cap ≤ maxLen ∧ vs.length = rows.length * sz ∧ (∀ u ∈ vs, u.oneCell' = true) ∧
      (∀ i r j x, rows[i]? = some r → r[j]? = some x → ∃ u, vs[i * sz + j]? = some u ∧ RD S w x u) ∧
      (rows = [] ∨ ∃ b o, A = some ⟨b, o, none⟩ ∧ ∀ j u, vs[j]? = some u → w.cell? ⟨b, o + j, none⟩ = some u ∧ o + j < S b) := by
  cases h with
  | emp A c h => exact ⟨A, c, [], rfl, by simp, h, by simp, fun u hu => (by cases hu), fun i r j x hr => (by simp at hr), .inl rfl⟩
  | im _ sz' b o cap f hc hm hsz' hcell hd =>
    by_cases hz : rows = []
    · subst hz
      exact ⟨_, cap, [], rfl, by simp, hm, by simp, fun u hu => (by cases hu), fun i r j x hr => (by simp at hr), .inl rfl⟩
    have hss : sz' = sz := by
      cases rows with
      | nil => exact absurd rfl hz
      | cons r rs => rw [← hsz r (by simp), hsz' r (by simp)]
    subst hss
    have hget : ∀ i j, i < rows.length → j < sz' → ((List.range (rows.length * sz')).map fun k => f (k / sz') (k % sz'))[i * sz' + j]? = some (f i j) := fun i j hi hj => by
      have hlt : i * sz' + j < rows.length * sz' := by
        calc i * sz' + j < i * sz' + sz' := by omega
          _ = (i + 1) * sz' := by rw [Nat.add_mul, Nat.one_mul]
          _ ≤ rows.length * sz' := Nat.mul_le_mul_right _ hi
      rw [List.getElem?_map, List.getElem?_range hlt]
      simp only [Option.map_some, Option.some.injEq]
      rw [Nat.mul_comm i sz', Nat.mul_add_div (by omega), Nat.div_eq_of_lt hj, Nat.mul_add_mod, Nat.mod_eq_of_lt hj, Nat.add_zero]
    refine ⟨_, cap, (List.range (rows.length * sz')).map fun k => f (k / sz') (k % sz'), rfl, hc, hm, by simp, fun u hu => ?_, fun i r j x hr hx => ?_, .inr ⟨b, o, rfl, fun j u hj => ?_⟩⟩
    · simp only [List.mem_map, List.mem_range] at hu
      obtain ⟨k, hk, rfl⟩ := hu
      have hp : 0 < sz' := by
        rcases Nat.eq_zero_or_pos sz' with h | h
        · subst h; simp at hk
        · exact h
      have h1 : k / sz' < rows.length := Nat.div_lt_of_lt_mul (by rw [Nat.mul_comm]; exact hk)
      have h2 := Nat.mod_lt k hp
      have h3 : rows[k / sz']? = some rows[k / sz'] := List.getElem?_eq_getElem h1
      have h4 : (rows[k / sz']).length = sz' := hsz' _ (List.getElem_mem h1)
      exact (hd _ _ _ _ h3 (List.getElem?_eq_getElem (by rw [h4]; exact h2))).one
    · have hil := (List.getElem?_eq_some_iff.1 hr).1
      have hjl := (List.getElem?_eq_some_iff.1 hx).1
      rw [hsz' r (List.mem_of_getElem? hr)] at hjl
      exact ⟨_, hget i j hil hjl, hd i r j x hr hx⟩
    · have hj1 := (List.getElem?_eq_some_iff.1 hj).1
      simp at hj1
      have hp : 0 < sz' := by
        rcases Nat.eq_zero_or_pos sz' with h | h
        · subst h; simp at hj1
        · exact h
      have h1 : j / sz' < rows.length := Nat.div_lt_of_lt_mul (by rw [Nat.mul_comm]; exact hj1)
      have h2 := Nat.mod_lt j hp
      have h3 : j / sz' * sz' + j % sz' = j := by rw [Nat.mul_comm]; exact Nat.div_add_mod j sz'
      have h4 := hget (j / sz') (j % sz') h1 h2
      rw [h3] at h4
      rw [h4] at hj
      cases hj
      have := hcell (j / sz') (j % sz') h1 h2
      rw [h3] at this
      exact this

theorem good_build (hd : ∀ d, o.dst = some d → d < n) {t : TypeId} {ps : Array (Nat × Operand)} {qs : List (Nat × Nat × PX)} {z : Array Value} {place : Nat → Option (Nat × Nat)} (hop : o.op = .build t ps)
    (hb : ∀ vals, P.built t vals = Instr.fill place z vals) (hz : ∀ v ∈ z.toList, v.oneCell' = true)
    (hl : ps.toList.length = qs.length) (hpl : ∀ (j : Nat) i xo off k x, ps.toList[j]? = some (i, xo) → qs[j]? = some (off, k, x) → place i = some (off, k) ∧ cX xo = some x) : Good P n o (.build z.toList qs) :=
  .of_pure hd fun w0 S0 W s a w v ch hs hf => by
    simp only [PO.fn, Option.bind_eq_some_iff, Option.map_eq_some_iff, Prod.mk.injEq] at hf
    obtain ⟨rs, hrs, cs, hcs, rfl, rfl⟩ := hf
    have hz0 : RCs W s.gen s.ob w (z.toList.map fun v => Cl.d (.sc v)) z.toList := ⟨by simp, fun i c u h1 h2 => by
      simp only [List.getElem?_map, h2, Option.map_some, Option.some.injEq] at h1
      subst h1
      exact RD.sc _ (hz u (List.mem_of_getElem? h2))⟩
    obtain ⟨cells, h1, h2⟩ := fill_ok hs ps.toList qs rs _ cs z hl hpl hrs hcs hz0
    refine ⟨rfl, .agg cells, ?_, cells, rfl, h2⟩
    have h3 := run_build (P := P) w t (ps.map fun (i, x) => (i, a.eval x)) cells (by rw [hb, Array.toList_map]; exact h1)
    simp only [execOp, hop, Sem.run_bind, h3, Result.andThen_ok, Sem.run_pure]

theorem good_slc (hd : ∀ d, o.dst = some d → d < n) {t e : TypeId} {ei : TypeInfo} {xo : Operand} {x : PX} {lo hi : Option Operand} {l h : Option PX} (hop : o.op = .slice t xo lo hi none) (ht : P.underlying t = some (.slice e)) (hi' : P.info? e = some ei) (hx : cX xo = some x)
    (hl : lo.map cX = l.map some) (hh : hi.map cX = h.map some) : Good P n o (.slc ei.size x l h) :=
  .of_pure hd fun w0 S0 W s a w v ch hs hf => by
    simp only [PO.fn] at hf
    split at hf
    · rename_i rows hr
      have hrd := rows_ev hs hx hr
      split at hf
      · rename_i lv hv h1 h2
        split at hf
        · rename_i hc
          cases hf
          obtain ⟨A, cap, vs, e0, e1, e2, e3, e4, e5, e6⟩ := hrd.flat hc.2.2.2
          -- what the operation hands back
          have hlen : ((rows.take hv.toNat).drop lv.toNat).length = hv.toNat - lv.toNat := by simp; omega
          have hres : ∀ B : Option Addr, (cap = lv.toNat ∨ B = A.map (·.add (lv.toNat * ei.size))) → RD W.S w (.im ((rows.take hv.toNat).drop lv.toNat)) (.slice B (hv.toNat - lv.toNat) (cap - lv.toNat)) := fun B hB => by
            by_cases hz : hv.toNat = lv.toNat
            · have : (rows.take hv.toNat).drop lv.toNat = [] := List.eq_nil_of_length_eq_zero (by rw [hlen]; omega)
              rw [this, hz, Nat.sub_self]
              exact .emp B _ (by omega)
            · have hB2 : B = A.map (·.add (lv.toNat * ei.size)) := by
                rcases hB with hB | hB
                · omega
                · exact hB
              rcases e6 with e6 | ⟨b, o', rfl, e7⟩
              · subst e6; simp at hc; omega
              rw [hB2, ← hlen]
              simp only [Option.map_some, addr_add]
              refine RD.block (vs := (vs.take (hv.toNat * ei.size)).drop (lv.toNat * ei.size)) (sz := ei.size) (fun r hr => hc.2.2.2 r (List.mem_of_mem_take (List.mem_of_mem_drop hr))) ?_ (fun j u hj => ?_) (by rw [hlen]; omega) (by omega) (fun i r j x' hr hx' => ?_)
              · have hm : hv.toNat * ei.size ≤ rows.length * ei.size := Nat.mul_le_mul_right _ (by omega)
                rw [hlen, List.length_drop, List.length_take, e3, Nat.min_eq_left hm, Nat.sub_mul]
              · rw [List.getElem?_drop, List.getElem?_take] at hj
                split at hj
                · have := e7 _ _ hj
                  rw [← Nat.add_assoc] at this
                  exact this
                · cases hj
              · rw [List.getElem?_drop, List.getElem?_take] at hr
                split at hr
                · rename_i hlt
                  obtain ⟨u, h3, h4⟩ := e5 _ _ _ _ hr hx'
                  refine ⟨u, ?_, h4⟩
                  have hjl := (List.getElem?_eq_some_iff.1 hx').1
                  rw [hc.2.2.2 r (List.mem_of_getElem? hr)] at hjl
                  have hlt2 : lv.toNat * ei.size + (i * ei.size + j) < hv.toNat * ei.size := by
                    calc lv.toNat * ei.size + (i * ei.size + j) < lv.toNat * ei.size + (i * ei.size + ei.size) := by omega
                      _ = (lv.toNat + (i + 1)) * ei.size := by rw [Nat.add_mul, Nat.add_mul, Nat.one_mul]
                      _ ≤ hv.toNat * ei.size := Nat.mul_le_mul_right _ (by omega)
                  rw [List.getElem?_drop, List.getElem?_take, if_pos hlt2, ← Nat.add_assoc, ← Nat.add_mul]
                  exact h3
                · cases hr
          have fin : ∀ B, (cap = lv.toNat ∨ B = A.map (·.add (lv.toNat * ei.size))) → (Instr.sliceAt t (a.eval xo) (lo.map a.eval) (hi.map a.eval) none).run P w = .ok (.slice B (hv.toNat - lv.toNat) (cap - lv.toNat)) w →
              Cg.no = Cg.no ∧ ∃ rv, (execOp a.eval o).run P w = .ok (.value rv) w ∧ RA W s.gen s.ob w (.b (.one (.d (.im ((rows.take hv.toNat).drop lv.toNat))))) rv := fun B hB hrun =>
            ⟨rfl, _, by simp only [execOp, hop, Option.map_none, Sem.run_bind, hrun, Result.andThen_ok, Sem.run_pure], hres B hB⟩
          -- the bounds
          have hbounds : (Instr.sliceBounds true rows.length cap (lo.map a.eval) (hi.map a.eval) none).run P w = .ok (lv.toNat, hv.toNat, cap) w := by
            have hc0 : 0 ≤ hv := by omega
            have hc1 : 0 ≤ lv := by omega
            have hc2 : hv ≤ (cap : Int) := by omega
            have hc3 : lv ≤ hv := by omega
            have hc4 : hv ≤ (rows.length : Int) := hc.2.2.1
            cases lo with
            | none =>
              cases l with
              | some _ => simp at hl
              | none =>
                simp at h1
                subst h1
                cases hi with
                | none =>
                  cases h with
                  | some _ => simp at hh
                  | none =>
                    simp at h2
                    subst h2
                    simp [Instr.sliceBounds]
                | some ho =>
                  cases h with
                  | none => simp at hh
                  | some hx' =>
                    simp at hh h2
                    obtain ⟨kk, e2⟩ := int_ev hs hh h2
                    simp [Instr.sliceBounds, e2, Instr.sliceBound, asIntOf, hc0, hc2]
            | some lo' =>
              cases l with
              | none => simp at hl
              | some lx =>
                simp at hl h1
                obtain ⟨k1, e1⟩ := int_ev hs hl h1
                cases hi with
                | none =>
                  cases h with
                  | some _ => simp at hh
                  | none =>
                    simp at h2
                    subst h2
                    simp [e1, Instr.sliceBounds, Instr.sliceBound, asIntOf, hc1, hc3]
                | some ho =>
                  cases h with
                  | none => simp at hh
                  | some hx' =>
                    simp at hh h2
                    obtain ⟨kk, e2⟩ := int_ev hs hh h2
                    have hc5 : lv ≤ (hv.toNat : Int) := by omega
                    simp [e1, Instr.sliceBounds, e2, Instr.sliceBound, asIntOf, hc0, hc1, hc2]
                    omega
          by_cases hcl : cap = lv.toNat
          · refine fin A (.inl hcl) ?_
            rw [hcl] at hbounds
            simp [Instr.sliceAt, Instr.slice, run_underlying ht, e0, hbounds, sizeOf, typeInfo, hi', hcl]
          · refine fin _ (.inr rfl) ?_
            simp [Instr.sliceAt, Instr.slice, run_underlying ht, e0, hbounds, sizeOf, typeInfo, hi', hcl]
        · cases hf
      · cases hf
    · cases hf
end
end Go.Proofs.Ytkdagjlkejefnaa
