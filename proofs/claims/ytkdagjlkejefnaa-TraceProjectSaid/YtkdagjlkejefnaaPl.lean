/- Regions that draw their order: what is not ordered does not touch each other, so every order ends alike. -/
import Derived.Test.YtkdagjlkejefnaaPk
set_option linter.unusedSimpArgs false
set_option linter.unusedVariables false
namespace Go.Proofs.Ytkdagjlkejefnaa
open Go Go.RowKit

theorem wrAt_get : ∀ (cs : List Cl) (off : Nat) (ds : List Cl) (i : Nat), (wrAt cs off ds)[i]? = if off ≤ i ∧ i < off + ds.length ∧ i < cs.length then ds[i - off]? else cs[i]?
  | [], off, ds, i => by simp [wrAt]
  | c :: cs, 0, [], i => by simp [wrAt]
  | c :: cs, 0, d :: ds, i => by
    simp only [wrAt]
    cases i with
    | zero => simp
    | succ i =>
      rw [List.getElem?_cons_succ, wrAt_get cs 0 ds i]
      by_cases h : i < ds.length ∧ i < cs.length
      · rw [if_pos ⟨by omega, by omega, h.2⟩, if_pos ⟨by omega, by simp; omega, by simp; exact h.2⟩]
        simp
      · rw [if_neg (by intro h2; exact h ⟨by omega, h2.2.2⟩), if_neg (by intro h2; simp at h2; exact h ⟨by omega, h2.2⟩)]
        simp
  | c :: cs, k + 1, ds, i => by
    simp only [wrAt]
    cases i with
    | zero => simp
    | succ i =>
      rw [List.getElem?_cons_succ, wrAt_get cs k ds i]
      by_cases h : k ≤ i ∧ i < k + ds.length ∧ i < cs.length
      · rw [if_pos h, if_pos ⟨by omega, by omega, by simp; exact h.2.2⟩, show i + 1 - (k + 1) = i - k by omega]
      · rw [if_neg h, if_neg (by intro h2; simp at h2; exact h ⟨h2.1, by omega, h2.2.2⟩)]
        simp
theorem wrAt_length (cs : List Cl) (off : Nat) (ds : List Cl) : (wrAt cs off ds).length = cs.length := by
  apply Nat.le_antisymm
  · rcases Nat.lt_or_ge cs.length (wrAt cs off ds).length with h | h
    · have h1 := List.getElem?_eq_getElem h
      rw [wrAt_get, if_neg (by omega), List.getElem?_eq_none (Nat.le_refl _)] at h1
      cases h1
    · exact h
  · rcases Nat.lt_or_ge (wrAt cs off ds).length cs.length with h | h
    · have h1 : (wrAt cs off ds)[(wrAt cs off ds).length]? = none := List.getElem?_eq_none (Nat.le_refl _)
      rw [wrAt_get] at h1
      split at h1
      · rename_i h2
        rw [List.getElem?_eq_getElem (by omega)] at h1
        cases h1
      · rw [List.getElem?_eq_getElem h] at h1
        cases h1
    · exact h
theorem wrAt_comm (cs : List Cl) {a b : Nat} {xs ys : List Cl} (h : a + xs.length ≤ b ∨ b + ys.length ≤ a) : wrAt (wrAt cs a xs) b ys = wrAt (wrAt cs b ys) a xs := by
  apply List.ext_getElem?
  intro i
  rw [wrAt_get, wrAt_get, wrAt_get, wrAt_get, wrAt_length, wrAt_length]
  (repeat' split) <;> first | rfl | (exfalso; omega)

/-- the object is as before in a range -/
def rgEq : Ob → Ob → Nat → Nat → Prop
  | .cells cs, .cells ds, off, n => cs.length = ds.length ∧ ∀ i, off ≤ i → i < off + n → cs[i]? = ds[i]?
  | x, y, _, _ => x = y
theorem rgEq.refl (x : Ob) (off n : Nat) : rgEq x x off n := by cases x <;> simp [rgEq]

/-- two states agree in what an operation looks at: slots, ranges -/
structure Agree (looks : List Nat) (rd : List Rg) (s t : St) : Prop where
  sl : ∀ x, x ∈ looks → s.sl x = t.sl x
  ob : ∀ r, r ∈ rd → s.gen r.1 = t.gen r.1 ∧ rgEq (s.ob r.1) (t.ob r.1) r.2.1 r.2.2

section
variable {s t : St}

theorem ev_agree {x : PX} (h : ∀ y, y ∈ x.slots → s.sl y = t.sl y) : s.ev x = t.ev x := by
  cases x with
  | t n => exact h n (by simp [PX.slots])
  | v c => rfl
theorem cl_agree {x : PX} (h : ∀ y, y ∈ x.slots → s.sl y = t.sl y) : s.cl x = t.cl x := by unfold St.cl; rw [ev_agree h]
theorem val_agree {x : PX} (h : ∀ y, y ∈ x.slots → s.sl y = t.sl y) : s.val x = t.val x := by unfold St.val; rw [ev_agree h]
theorem int_agree {x : PX} (h : ∀ y, y ∈ x.slots → s.sl y = t.sl y) : s.int x = t.int x := by unfold St.int; rw [ev_agree h]
theorem boo_agree {x : PX} (h : ∀ y, y ∈ x.slots → s.sl y = t.sl y) : s.boo x = t.boo x := by unfold St.boo; rw [ev_agree h]
theorem cs_agree {x : PX} (h : ∀ y, y ∈ x.slots → s.sl y = t.sl y) : s.cs x = t.cs x := by unfold St.cs; rw [ev_agree h]
theorem parts_agree : ∀ (ps : List (Nat × Nat × PX)), (∀ y, y ∈ ps.flatMap (fun p => p.2.2.slots) → s.sl y = t.sl y) → s.parts ps = t.parts ps
  | [], _ => rfl
  | (o, k, x) :: r, h => by
    simp only [St.parts]
    rw [cs_agree (x := x) (fun y hy => h y (by simp [hy])), parts_agree r (fun y hy => h y (by simp only [List.flatMap_cons, List.mem_append]; exact .inr hy))]
theorem args_agree : ∀ (xs : List PX), (∀ y, y ∈ xs.flatMap PX.slots → s.sl y = t.sl y) → s.args xs = t.args xs
  | [], _ => rfl
  | x :: r, h => by
    have h1 := args_agree r (fun y hy => h y (by simp only [List.flatMap_cons, List.mem_append]; exact .inr hy))
    unfold St.args at h1 ⊢
    simp only [List.map_cons]
    rw [ev_agree (x := x) (fun y hy => h y (by simp only [List.flatMap_cons, List.mem_append]; exact .inl hy))]
    cases (t.ev x).pa with
    | none => rfl
    | some p => simp only [allSome, h1]
theorem vals_agree : ∀ (xs : List PX), (∀ y, y ∈ xs.flatMap PX.slots → s.sl y = t.sl y) → xs.map s.val = xs.map t.val
  | [], _ => rfl
  | x :: r, h => by
    simp only [List.map_cons]
    rw [val_agree (x := x) (fun y hy => h y (by simp only [List.flatMap_cons, List.mem_append]; exact .inl hy)), vals_agree r (fun y hy => h y (by simp only [List.flatMap_cons, List.mem_append]; exact .inr hy))]
theorem oint_agree {x : Option PX} (h : ∀ y, y ∈ oslots x → s.sl y = t.sl y) : x.map s.int = x.map t.int := by
  cases x with
  | none => rfl
  | some x => simp only [Option.map_some, int_agree (x := x) h]

theorem mkAv_agree {k : Option Nat} {cs ds : List Cl} {off : Nat} (hl : cs.length = ds.length) (h : ∀ i, off ≤ i → i < off + k.getD 1 → cs[i]? = ds[i]?) : mkAv k cs off = mkAv k ds off := by
  cases k with
  | none => simp only [mkAv]; rw [h off (Nat.le_refl _) (by simp)]
  | some k =>
    simp only [mkAv, hl]
    split
    · congr 3
      apply List.ext_getElem?
      intro i
      rw [List.getElem?_take, List.getElem?_take]
      split
      · rw [List.getElem?_drop, List.getElem?_drop]
        exact h _ (by omega) (by simp; omega)
      · rfl
    · rfl

/-- an operation does the same in two states that agree in what it looks at -/
theorem fn_agree {po : PO} {d : Nat} (h : Agree po.slots (po.rd s d) s t) : po.fn s d = po.fn t d := by
  obtain ⟨hs, ho⟩ := h
  cases po <;> simp only [PO.slots, List.mem_append] at hs <;> simp only [PO.fn]
  case mv x => rw [ev_agree hs]
  case nilRow E sz => rw [show s.gen d = t.gen d from (ho (d, big - 1, 1) (by simp only [PO.rd, List.mem_singleton])).1]
  case pick c a b => rw [boo_agree (x := c) (fun y hy => hs y (.inl (.inl hy))), ev_agree (x := a) (fun y hy => hs y (.inl (.inr hy))), ev_agree (x := b) (fun y hy => hs y (.inr hy))]
  case box x => rw [cs_agree hs, show s.gen d = t.gen d from (ho (d, big - 1, 1) (by simp only [PO.rd, List.mem_singleton])).1]
  case new z => rw [show s.gen d = t.gen d from (ho (d, big - 1, 1) (by simp only [PO.rd, List.mem_singleton])).1]
  case build z ps => rw [parts_agree ps hs]
  case bslice E sz z ln ps => rw [parts_agree ps hs, show s.gen d = t.gen d from (ho (d, big - 1, 1) (by simp only [PO.rd, List.mem_singleton])).1]
  case load k a =>
    have hc := cl_agree (x := a) hs
    simp only [PO.rd] at ho
    rw [← hc]
    split
    · rename_i o g off heq
      rw [heq] at ho
      obtain ⟨h1, h2⟩ := ho _ (List.mem_singleton.2 rfl)
      dsimp only at h1 h2
      rw [h1]
      split
      · generalize s.ob o = x at h2 ⊢
        generalize t.ob o = y at h2 ⊢
        cases x <;> cases y <;> simp only [rgEq] at h2 <;> (try dsimp only) <;> first | rfl | (cases h2; done) | (rw [mkAv_agree h2.1 h2.2]) | (rw [h2])
      · rfl
    · rfl
    · rfl
  case store sz a x =>
    have hc := cl_agree (x := a) (fun y hy => hs y (.inl hy))
    have hx := cs_agree (x := x) (fun y hy => hs y (.inr hy))
    simp only [PO.rd] at ho
    rw [← hc, ← hx]
    split
    · rename_i o g off nw heq hnw
      rw [heq] at ho
      obtain ⟨h1, h2⟩ := ho _ (List.mem_singleton.2 rfl)
      dsimp only at h1 h2
      rw [h1]
      split
      · generalize s.ob o = x at h2 ⊢
        generalize t.ob o = y at h2 ⊢
        cases x <;> cases y <;> simp only [rgEq] at h2 <;> (try dsimp only) <;> first | rfl | (cases h2; done) | (rw [h2.1]) | (rw [h2])
      · rfl
    · rfl
  case fld off x =>
    have hc := cl_agree (x := x) hs
    simp only [PO.rd] at ho
    rw [← hc]
    split
    · rename_i o g k heq
      rw [heq] at ho
      rw [show s.gen o = t.gen o from (ho (o, big - 1, 1) (by simp only [List.mem_singleton])).1]
    · rfl
    · rfl
  case fldv off k x => rw [ev_agree hs]
  case ixa ln sz x i =>
    have hc := cl_agree (x := x) (fun y hy => hs y (.inl hy))
    have hi := int_agree (x := i) (fun y hy => hs y (.inr hy))
    simp only [PO.rd] at ho
    rw [← hc, ← hi]
    split
    · rename_i o g off k heq hk
      rw [heq] at ho
      rw [show s.gen o = t.gen o from (ho (o, big - 1, 1) (by simp only [List.mem_singleton])).1]
    · rfl
    · rfl
  case ixs sz x i => rw [cl_agree (x := x) (fun y hy => hs y (.inl hy)), int_agree (x := i) (fun y hy => hs y (.inr hy))]
  case ixv ln sz k x i => rw [ev_agree (x := x) (fun y hy => hs y (.inl hy)), int_agree (x := i) (fun y hy => hs y (.inr hy))]
  case ixstr x i => rw [val_agree (x := x) (fun y hy => hs y (.inl hy)), int_agree (x := i) (fun y hy => hs y (.inr hy))]
  case bin op x y => rw [val_agree (x := x) (fun y hy => hs y (.inl hy)), val_agree (x := y) (fun y hy => hs y (.inr hy))]
  case eqb neg x y => rw [boo_agree (x := x) (fun y hy => hs y (.inl hy)), boo_agree (x := y) (fun y hy => hs y (.inr hy))]
  case eqs neg m x y => rw [ev_agree (x := x) (fun y hy => hs y (.inl hy)), ev_agree (x := y) (fun y hy => hs y (.inr hy))]
  case un op x => rw [val_agree hs]
  case conv k x => rw [int_agree hs]
  case slc sz x lo hi => rw [cl_agree (x := x) (fun y hy => hs y (.inl (.inl hy))), oint_agree (x := lo) (fun y hy => hs y (.inl (.inr hy))), oint_agree (x := hi) (fun y hy => hs y (.inr hy))]
  case substr x lo hi => rw [val_agree (x := x) (fun y hy => hs y (.inl (.inl hy))), oint_agree (x := lo) (fun y hy => hs y (.inl (.inr hy))), oint_agree (x := hi) (fun y hy => hs y (.inr hy))]
  case len x => rw [cl_agree hs]
  case strlen x => rw [val_agree hs]
  case append E sz bytes x y =>
    have hc := cl_agree (x := x) (fun y hy => hs y (.inl hy))
    have hy := cl_agree (x := y) (fun y hy => hs y (.inr hy))
    simp only [PO.rd] at ho
    rw [← hc, ← hy]
    split
    · rename_i o g rows news heq hnews
      rw [heq] at ho
      obtain ⟨h1, h2⟩ := ho _ (List.mem_singleton.2 rfl)
      dsimp only at h1 h2
      rw [h1]
      split
      · generalize s.ob o = x at h2 ⊢
        generalize t.ob o = y at h2 ⊢
        cases x <;> cases y <;> simp only [rgEq] at h2 <;> (try dsimp only) <;> first | rfl | (cases h2; done) | (cases h2; rfl)
      · rfl
    · rfl
  case mm big xs => rw [vals_agree xs hs]
  case ext x i => rw [ev_agree hs]
  case nilck x =>
    have hc := cl_agree (x := x) hs
    simp only [PO.rd] at ho
    rw [← hc]
    split
    · rename_i o g k heq
      rw [heq] at ho
      rw [show s.gen o = t.gen o from (ho (o, big - 1, 1) (by simp only [List.mem_singleton])).1]
    · rfl

theorem go_agree {env : Env} {i : PI} {K : Av → Cg → Prop} (h : Agree i.looks (i.rd s) s t) : i.go env s K → i.go env t K := by
  have hop : i.op.go env s (i.dst.getD 0) K → i.op.go env t (i.dst.getD 0) K := fun hg => by
    have h1 : ∀ x, x ∈ i.op.slots → s.sl x = t.sl x := fun x hx => h.sl x (by unfold PI.looks; exact List.mem_append_left _ hx)
    cases hc : i.op with
    | call f xs =>
      rw [hc] at hg h1
      obtain ⟨as, e1, rs, e2, e3⟩ := withSome_iff.1 hg
      exact withSome_iff.2 ⟨as, by rw [← args_agree xs h1]; exact e1, rs, e2, e3⟩
    | _ =>
      rw [hc, PO.go_fn rfl] at hg
      rw [PO.go_fn rfl]
      obtain ⟨p, e1, e2⟩ := withSome_iff.1 hg
      refine withSome_iff.2 ⟨p, ?_, e2⟩
      rw [← e1]
      refine (fn_agree ⟨fun x hx => h1 x (by rw [hc]; exact hx), fun r hr => h.ob r ?_⟩).symm
      unfold PI.rd
      rw [hc]
      exact hr
  intro hg
  unfold PI.go at hg ⊢
  cases hgd : i.guard with
  | none => rw [hgd] at hg; exact hop hg
  | some p =>
    obtain ⟨x, want⟩ := p
    rw [hgd] at hg
    obtain ⟨b, e1, e2, e3⟩ := withSome_iff.1 hg
    refine withSome_iff.2 ⟨b, ?_, fun hb => hop (e2 hb), e3⟩
    rw [← e1]
    exact (boo_agree (x := .t x) (fun y hy => h.sl y (by
      unfold PI.looks
      rw [hgd]
      exact List.mem_append_right _ hy))).symm
end
end Go.Proofs.Ytkdagjlkejefnaa
