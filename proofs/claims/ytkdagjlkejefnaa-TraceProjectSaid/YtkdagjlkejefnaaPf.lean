/- Stores, literals, slices of slices, append. -/
import Derived.Test.YtkdagjlkejefnaaPe
set_option linter.unusedSimpArgs false
set_option linter.unusedVariables false
namespace Go.Proofs.Ytkdagjlkejefnaa
open Go Go.RowKit

section
variable {n : Nat} {P : Program} {o : Oper}

theorem splice_get {α : Type} (l : List α) (off : Nat) (m : List α) (h : off + m.length ≤ l.length) (j : Nat) :
    (l.take off ++ m ++ l.drop (off + m.length))[j]? = if off ≤ j ∧ j < off + m.length then m[j - off]? else l[j]? := by
  have h1 : (l.take off).length = off := by simp; omega
  by_cases c1 : j < off
  · rw [if_neg (by omega), List.append_assoc, List.getElem?_append_left (by omega), List.getElem?_take, if_pos c1]
  · by_cases c2 : j < off + m.length
    · rw [if_pos (by omega), List.append_assoc, List.getElem?_append_right (by omega), h1, List.getElem?_append_left (by omega)]
    · rw [if_neg (by omega), List.getElem?_append_right (by simp; omega), List.getElem?_drop]
      simp only [List.length_append, h1]
      congr 1
      omega
theorem splice_length {α : Type} (l : List α) (off : Nat) (m : List α) (h : off + m.length ≤ l.length) : (l.take off ++ m ++ l.drop (off + m.length)).length = l.length := by
  simp; omega
theorem RCs.splice {W : Wit} {G : Nat → Nat} {O : Nat → Ob} {w : World} {cs ds : List Cl} {vs us : List Value} {off : Nat} (h1 : RCs W G O w cs vs) (h2 : RCs W G O w ds us) (hl : off + us.length ≤ vs.length) :
    RCs W G O w (splice cs off ds) (vs.take off ++ us ++ vs.drop (off + us.length)) := by
  have hl2 : off + ds.length ≤ cs.length := by rw [h1.1, h2.1]; exact hl
  refine ⟨?_, fun i c u e1 e2 => ?_⟩
  · show (cs.take off ++ ds ++ cs.drop (off + ds.length)).length = _
    rw [splice_length _ _ _ hl2, splice_length _ _ _ hl, h1.1]
  · have e1' : (cs.take off ++ ds ++ cs.drop (off + ds.length))[i]? = some c := e1
    rw [splice_get _ _ _ hl2] at e1'
    rw [splice_get _ _ _ hl] at e2
    rw [h2.1] at e1'
    split at e1'
    · rename_i hc
      rw [if_pos hc] at e2
      exact h2.2 _ _ _ e1' e2
    · rename_i hc
      rw [if_neg hc] at e2
      exact h1.2 _ _ _ e1' e2

theorem wrAt_splice : ∀ (cs : List Cl) (off : Nat) (ds : List Cl), off + ds.length ≤ cs.length → wrAt cs off ds = splice cs off ds
  | [], off, ds, h => by
    have h1 : ds = [] := by simp at h; exact h.2
    subst h1; simp [wrAt, Go.Proofs.Ytkdagjlkejefnaa.splice]
  | c :: cs, 0, [], _ => by simp [wrAt, Go.Proofs.Ytkdagjlkejefnaa.splice]
  | c :: cs, 0, d :: ds, h => by
    have := wrAt_splice cs 0 ds (by simp at h ⊢; omega)
    simp only [wrAt, this]
    simp [Go.Proofs.Ytkdagjlkejefnaa.splice]
  | c :: cs, k + 1, ds, h => by
    have := wrAt_splice cs k ds (by simp at h ⊢; omega)
    simp only [wrAt, this]
    simp [Go.Proofs.Ytkdagjlkejefnaa.splice, Nat.succ_add]

theorem good_store (hd : o.dst = none) {t : TypeId} {i : TypeInfo} {ao xo : Operand} {x y : PX} (hop : o.op = .store t ao xo) (hi : P.info? t = some i) (hx : cX ao = some x) (hy : cX xo = some y) : Good P n o (.store i.size x y) := by
  intro w0 S0 W s a w v ch hs hf
  simp only [PO.fn] at hf
  split at hf
  · rename_i o' g off nw heq hnw
    split at hf
    · rename_i hg
      split at hf
      · rename_i cs hob
        split at hf
        · rename_i hle
          cases hf
          obtain ⟨h1, h2, h3⟩ := cl_ev hs hx heq (by simp)
          have hp := h3 hg.1.symm
          have hvs := cs_ev hs hy hnw
          have hro := hs.ob o'
          rw [hob] at hro
          obtain ⟨arr, T, h4, h5, h6, h7⟩ := hro
          obtain ⟨vals, hvals⟩ : ∃ l, (a.eval xo).cells.toList = l := ⟨_, rfl⟩
          rw [hvals] at hvs
          have hlv : vals.length = i.size := by rw [← hvs.1]; exact hg.2
          have hla : off + vals.length ≤ arr.size := by
            have := h7.1; simp at this; omega
          have hst := run_storeCells_at P (W.blk o') off T vals 0 arr w h4 (by omega) hvs.one
          simp only [Nat.add_zero] at hst
          have hcz : (a.eval xo).cells.size = i.size := by rw [← hlv, ← hvals]; simp
          rw [hd]
          obtain ⟨arr', harr'⟩ : ∃ arr', (arr.toList.take off ++ vals ++ arr.toList.drop (off + vals.length)).toArray = arr' := ⟨_, rfl⟩
          rw [harr'] at hst
          have hal : arr'.toList = arr.toList.take off ++ vals ++ arr.toList.drop (off + vals.length) := by rw [← harr']
          have hrow : (w.setRow (W.blk o') arr').heap[W.blk o']? = some (.cells arr' T (0, 0)) := setRow_heap w _ arr _ T (0, 0) h4
          have hoth : ∀ k, k ≠ W.blk o' → (w.setRow (W.blk o') arr').heap[k]? = w.heap[k]? := fun k hk => setRow_other w _ k _ hk
          have hfol : Fol W s.gen s.ob w W s.gen (up s.ob o' (.cells (splice cs off nw))) (w.setRow (W.blk o') arr') := by
            refine ⟨fun b k hk _ => ⟨hk, ?_⟩, fun _ => Nat.le_refl _, fun _ _ => rfl, fun o2 E sz n' _ ho2 => ?_, fun _ _ => rfl⟩
            · have hne : b ≠ W.blk o' := by rintro rfl; rw [h6] at hk; omega
              simp [World.cell?, hoth b hne]
            · rw [up_at] at ho2
              split at ho2
              · cases ho2
              · exact ⟨n', ho2, Nat.le_refl _, fun _ => rfl⟩
          refine ⟨W, undef, w.setRow (W.blk o') arr', .inr ⟨?_, rfl⟩, ?_⟩
          · simp [execOp, hop, Instr.storeAt, hp, Instr.sureAddr, storeVar, sizeOf, typeInfo, hi, hcz, hvals, hst]
          · have hap : (s.ap none .un (.wr o' off nw)).ob = up s.ob o' (.cells (splice cs off nw)) := by
              show up s.ob o' _ = _
              rw [hob, ← wrAt_splice cs off nw (by omega)]
            refine hs.step (fun _ h => by cases h) (by rw [hap]; exact hfol) ⟨rfl, rfl, rfl, by simp, fun k hk => hoth k (by omega)⟩ (fun _ _ => rfl) trivial (fun o2 => ?_) (fun o1 o2 b c1 c2 => ?_)
            · rw [hap]
              by_cases h : o2 = o'
              · subst h
                rw [up_at, if_pos rfl]
                refine ⟨arr', T, hrow, h5, h6, ?_⟩
                rw [hal]
                exact (RCs.fol hfol h7).splice (RCs.fol hfol hvs) (by simpa using hla)
              · rw [up_at, if_neg h]
                refine RO.fol hfol (hs.ob o2) rfl rfl rfl (fun b hb => ⟨hoth b ?_, rfl⟩)
                rintro rfl
                exact h (hs.ex _ _ _ hb (by rw [hob]; rfl))
            · have claim : ∀ o3 b, cl W o3 ((s.ap none .un (.wr o' off nw)).ob o3) b → cl W o3 (s.ob o3) b := fun o3 b hb => by
                rw [hap, up_at] at hb
                split at hb
                · rename_i h; subst h; rw [hob]; exact hb
                · exact hb
              exact hs.ex _ _ _ (claim _ _ c1) (claim _ _ c2)
        · cases hf
      · cases hf
    · cases hf
  · cases hf

/-! ### literals -/
theorem foldl_set : ∀ (vs : List Value) (k off : Nat) (cells : Array Value), off + k + vs.length ≤ cells.size →
    (((vs.zipIdx k).foldl (fun cs p => cs.setIfInBounds (off + p.2) p.1) cells).toList = cells.toList.take (off + k) ++ vs ++ cells.toList.drop (off + k + vs.length))
  | [], k, off, cells, _ => by simp
  | v :: vs, k, off, cells, h => by
    simp only [List.zipIdx_cons, List.foldl_cons]
    rw [foldl_set vs (k + 1) off _ (by simp at h ⊢; omega)]
    apply List.ext_getElem?
    intro j
    have h1 : off + (k + 1) + vs.length ≤ (cells.setIfInBounds (off + k) v).toList.length := by simp at h ⊢; omega
    have h2 : off + k + (v :: vs).length ≤ cells.toList.length := by simp at h ⊢; omega
    rw [splice_get _ _ _ h1, splice_get _ _ _ h2]
    simp only [List.length_cons, Array.toList_setIfInBounds] at *
    by_cases c1 : off + (k + 1) ≤ j ∧ j < off + (k + 1) + vs.length
    · rw [if_pos c1, if_pos (by omega), show j - (off + k) = (j - (off + (k + 1))) + 1 by omega, List.getElem?_cons_succ]
    · rw [if_neg c1]
      by_cases c2 : j = off + k
      · subst c2
        rw [if_pos (by omega)]
        simp only [Nat.sub_self, List.getElem?_cons_zero]
        rw [List.getElem?_set_self (by simp; omega)]
      · rw [if_neg (by omega), List.getElem?_set_ne (by omega)]

/-- the places of a literal's parts -/
def placeOk (place : Nat → Option (Nat × Nat)) : List (Nat × Operand) → List (Nat × Nat × PX) → Bool
  | [], [] => true
  | (i, xo) :: r, (off, k, x) :: r' => (match place i, cX xo with
      | some (o', k'), some (.t t) => (match x with | .t t' => o' == off && k' == k && t == t' | _ => false)
      | some (o', k'), some (.v v) => (match x, xo with | .v _, .const _ => false | _, _ => false)
      | _, _ => false) && placeOk place r r'
  | _, _ => false

theorem fill_ok {w0 : World} {S0 : Nat → Nat} {W : Wit} {s : St} {a : Act} {w : World} (hs : Sim w0 S0 n W s a w) {place : Nat → Option (Nat × Nat)} :
    ∀ (ps : List (Nat × Operand)) (qs : List (Nat × Nat × PX)) (rs : List (Nat × List Cl)) (cs cs' : List Cl) (cells : Array Value),
      ps.length = qs.length → (∀ (j : Nat) i xo off k x, ps[j]? = some (i, xo) → qs[j]? = some (off, k, x) → place i = some (off, k) ∧ cX xo = some x) →
      s.parts qs = some rs → fillAll cs rs = some cs' → RCs W s.gen s.ob w cs cells.toList →
      ∃ cells', Instr.fill place cells (ps.map fun p => (p.1, a.eval p.2)) = some cells' ∧ RCs W s.gen s.ob w cs' cells'.toList
  | [], [], rs, cs, cs', cells, _, _, hp, hfl, hr => by
    simp [St.parts] at hp; subst hp
    simp [fillAll] at hfl; subst hfl
    exact ⟨cells, rfl, hr⟩
  | [], _ :: _, _, _, _, _, hl, _, _, _, _ => by simp at hl
  | _ :: _, [], _, _, _, _, hl, _, _, _, _ => by simp at hl
  | (i, xo) :: ps, (off, k, x) :: qs, rs, cs, cs', cells, hl, hpl, hp, hfl, hr => by
    obtain ⟨h1, h2⟩ := hpl 0 i xo off k x rfl rfl
    simp only [St.parts] at hp
    split at hp
    · rename_i c hc
      split at hp
      · rename_i hck
        simp only [Option.map_eq_some_iff] at hp
        obtain ⟨rs', hrs, rfl⟩ := hp
        simp only [fillAll] at hfl
        split at hfl
        · rename_i hle
          have hvc := cs_ev hs h2 hc
          have hsz : (a.eval xo).cells.size = k := by rw [← hck, hvc.1]; simp
          have hle2 : off + (a.eval xo).cells.toList.length ≤ cells.toList.length := by
            have := hr.1; have := hvc.1; omega
          have hnew := hr.splice hvc (off := off) hle2
          have hset := foldl_set (a.eval xo).cells.toList 0 off cells (by simpa using hle2)
          simp only [Nat.add_zero] at hset
          have hz : ((a.eval xo).cells.zipIdx.foldl (fun cs (c, j) => cs.setIfInBounds (off + j) c) cells).toList = cells.toList.take off ++ (a.eval xo).cells.toList ++ cells.toList.drop (off + (a.eval xo).cells.toList.length) := by
            rw [← hset, ← Array.foldl_toList, Array.toList_zipIdx]
          rw [← hz] at hnew
          obtain ⟨cells', h3, h4⟩ := fill_ok hs ps qs rs' (splice cs off c) cs' _ (by simpa using hl) (fun j => hpl (j + 1)) hrs hfl hnew
          refine ⟨cells', ?_, h4⟩
          simp only [List.map_cons, Instr.fill, h1]
          rw [if_neg]
          · exact h3
          · simp at hle2
            simp [hsz]
            omega
        · cases hfl
      · cases hp
    · cases hp
end
end Go.Proofs.Ytkdagjlkejefnaa
