/- Regions that draw their order: what is not ordered does not touch each other, so every order ends alike. -/
import Derived.Test.YthnjbnfnljjepabDoorNi1
import Derived.IntWalk
import Derived.Shelf.Strings.Builder1
import Derived.Shelf.Strings.Builder2
import Derived.Shelf.Strings.OnBuilder
import Derived.Shelf.Small.Wraps
import Derived.Shelf.Strconv.Atoi
import Derived.Shelf.Strconv.Itoa0
import Derived.Shelf.Strconv.Itoa1
import Derived.Shelf.LaysM
import Derived.Shelf.Strconv.Itoa2
import Derived.Shelf.Strconv.Itoa3
import Derived.Shelf.Strconv.AtoiErrFast
import Derived.Shelf.Strconv.ParseIntEmpty
import Derived.Shelf.Strconv.AtoiFail
import Derived.Shelf.Strconv.Clone
import Derived.Shelf.Strconv.SyntaxError
import Derived.Shelf.LaysC
import Derived.Shelf.Strconv.ToError
import Derived.Shelf.Strconv.Lower
import Derived.Shelf.Strconv.ParseUint10
import Derived.Shelf.Strconv.ParseUint10Empty
import Derived.Shelf.Strconv.ParseUint10Any
import Derived.Shelf.Strconv.ParseInt10
import Derived.Shelf.Strconv.AtoiLong
import Derived.Shelf.Strconv.AtoiInnerAll
import Derived.Shelf.Strconv.RangeError
import Derived.Shelf.Strconv.ToErrorRange
import Derived.Shelf.Strconv.AtoiAll
import Derived.Shelf.Strconv.ErrVarAll
import Derived.Shelf.Strings.Search1
import Derived.Shelf.Strings.Search2
import Derived.Shelf.Strings.Search3
import Derived.Shelf.Strings.Cut
import Derived.Shelf.Strings.Count
import Derived.Shelf.Strings.Shaped
import Derived.Shelf.Strings.Prefix
import Derived.Shelf.Strings.Split
import Derived.Shelf.Unicode.DecodeSlow
import Derived.Test.YthnjbnfnljjepabDoorProg
import Derived.Below
import Derived.OpenShut
import Derived.ProofKit
import Derived.Deep.Slices
import Derived.Deep.Fields
import Derived.ChangeSame
import Derived.Lib.SmallJoins
import Derived.Lib.AppendIntMem
import Derived.Lib.SplitLaws
section
set_option linter.unusedSimpArgs false
set_option linter.unusedVariables false
namespace Go.Proofs.YthnjbnfnljjepabDoor
open Go Go.RowKit

theorem wrAt_get : ∀ (cs : List Cl) (off : Nat) (ds : List Cl) (i : Nat), (wrAt cs off ds)[i]? = if off ≤ i ∧ i < off + ds.length ∧ i < cs.length then ds[i - off]? else cs[i]?
  | [], off, ds, i => by simp [wrAt]
  | c :: cs, 0, [], i => by simp [wrAt]
  | c :: cs, 0, d :: ds, i => by
    simp only [wrAt]
    cases i with
    | zero => simp
    | succ i =>
      rw [List.getElem?_cons_succ, wrAt_get cs 0 ds i]
      by_cases h : i < ds.length ∧ i < cs.length
      · rw [if_pos ⟨by omega, by omega, h.2⟩, if_pos ⟨by omega, by simp; omega, by simp; exact h.2⟩]
        simp
      · rw [if_neg (by intro h2; exact h ⟨by omega, h2.2.2⟩), if_neg (by intro h2; simp at h2; exact h ⟨by omega, h2.2⟩)]
        simp
  | c :: cs, k + 1, ds, i => by
    simp only [wrAt]
    cases i with
    | zero => simp
    | succ i =>
      rw [List.getElem?_cons_succ, wrAt_get cs k ds i]
      by_cases h : k ≤ i ∧ i < k + ds.length ∧ i < cs.length
      · rw [if_pos h, if_pos ⟨by omega, by omega, by simp; exact h.2.2⟩, show i + 1 - (k + 1) = i - k by omega]
      · rw [if_neg h, if_neg (by intro h2; simp at h2; exact h ⟨h2.1, by omega, h2.2.2⟩)]
        simp
theorem wrAt_length (cs : List Cl) (off : Nat) (ds : List Cl) : (wrAt cs off ds).length = cs.length := by
  apply Nat.le_antisymm
  · rcases Nat.lt_or_ge cs.length (wrAt cs off ds).length with h | h
    · have h1 := List.getElem?_eq_getElem h
      rw [wrAt_get, if_neg (by omega), List.getElem?_eq_none (Nat.le_refl _)] at h1
      cases h1
    · exact h
  · rcases Nat.lt_or_ge (wrAt cs off ds).length cs.length with h | h
    · have h1 : (wrAt cs off ds)[(wrAt cs off ds).length]? = none := List.getElem?_eq_none (Nat.le_refl _)
      rw [wrAt_get] at h1
      split at h1
      · rename_i h2
        rw [List.getElem?_eq_getElem (by omega)] at h1
        cases h1
      · rw [List.getElem?_eq_getElem h] at h1
        cases h1
    · exact h
theorem wrAt_comm (cs : List Cl) {a b : Nat} {xs ys : List Cl} (h : a + xs.length ≤ b ∨ b + ys.length ≤ a) : wrAt (wrAt cs a xs) b ys = wrAt (wrAt cs b ys) a xs := by
  apply List.ext_getElem?
  intro i
  rw [wrAt_get, wrAt_get, wrAt_get, wrAt_get, wrAt_length, wrAt_length]
  (repeat' split) <;> first | rfl | (exfalso; omega)

/-- the object is az before in a range -/
def rgEq : Ob → Ob → Nat → Nat → Prop
  | .cells cs, .cells ds, off, n => cs.length = ds.length ∧ ∀ i, off ≤ i → i < off + n → cs[i]? = ds[i]?
  | x, y, _, _ => x = y
theorem rgEq.refl (x : Ob) (off n : Nat) : rgEq x x off n := by cases x <;> simp [rgEq]

/-- two states agree in what an operation looks at: slots, ranges -/
structure Agree (looks : List Nat) (rd : List Rg) (s t : St) : Prop where
  sl : ∀ x, x ∈ looks → s.sl x = t.sl x
  ob : ∀ r, r ∈ rd → s.gen r.1 = t.gen r.1 ∧ rgEq (s.ob r.1) (t.ob r.1) r.2.1 r.2.2

section
variable {s t : St}

theorem ev_agree {x : PX} (h : ∀ y, y ∈ x.slots → s.sl y = t.sl y) : s.ev x = t.ev x := by
  cases x with
  | t n => exact h n (by simp [PX.slots])
  | v c => rfl
theorem cl_agree {x : PX} (h : ∀ y, y ∈ x.slots → s.sl y = t.sl y) : s.cl x = t.cl x := by unfold St.cl; rw [ev_agree h]
theorem val_agree {x : PX} (h : ∀ y, y ∈ x.slots → s.sl y = t.sl y) : s.val x = t.val x := by unfold St.val; rw [ev_agree h]
theorem int_agree {x : PX} (h : ∀ y, y ∈ x.slots → s.sl y = t.sl y) : s.int x = t.int x := by unfold St.int; rw [ev_agree h]
theorem boo_agree {x : PX} (h : ∀ y, y ∈ x.slots → s.sl y = t.sl y) : s.boo x = t.boo x := by unfold St.boo; rw [ev_agree h]
theorem cs_agree {x : PX} (h : ∀ y, y ∈ x.slots → s.sl y = t.sl y) : s.cs x = t.cs x := by unfold St.cs; rw [ev_agree h]
theorem parts_agree : ∀ (ps : List (Nat × Nat × PX)), (∀ y, y ∈ ps.flatMap (fun p => p.2.2.slots) → s.sl y = t.sl y) → s.parts ps = t.parts ps
  | [], _ => rfl
  | (o, k, x) :: r, h => by
    simp only [St.parts]
    rw [cs_agree (x := x) (fun y hy => h y (by simp [hy])), parts_agree r (fun y hy => h y (by simp only [List.flatMap_cons, List.mem_append]; exact .inr hy))]
theorem args_agree : ∀ (xs : List PX), (∀ y, y ∈ xs.flatMap PX.slots → s.sl y = t.sl y) → s.args xs = t.args xs
  | [], _ => rfl
  | x :: r, h => by
    have h1 := args_agree r (fun y hy => h y (by simp only [List.flatMap_cons, List.mem_append]; exact .inr hy))
    unfold St.args at h1 ⊢
    simp only [List.map_cons]
    rw [ev_agree (x := x) (fun y hy => h y (by simp only [List.flatMap_cons, List.mem_append]; exact .inl hy))]
    cases (t.ev x).pa with
    | none => rfl
    | some p => simp only [allSome, h1]
theorem recv_agree (xs : List PX) (h : ∀ y, y ∈ xs.flatMap PX.slots → s.sl y = t.sl y) : s.recv xs = t.recv xs := by
  cases xs with
  | nil => rfl
  | cons x xs =>
    show (s.ev x).abOf = (t.ev x).abOf
    rw [ev_agree (fun y hy => h y (by simp only [List.flatMap_cons, List.mem_append]; exact .inl hy))]
theorem abAt_agree {o g : Nat} {off n : Nat} (hg : s.gen o = t.gen o) (ho : rgEq (s.ob o) (t.ob o) off n) : s.abAt o g = t.abAt o g := by
  unfold St.abAt
  rw [hg]
  generalize s.ob o = x at *
  generalize t.ob o = y at *
  cases x <;> cases y <;> simp only [rgEq] at ho <;> first | (cases ho; done) | rfl | (cases ho; rfl)
theorem vals_agree : ∀ (xs : List PX), (∀ y, y ∈ xs.flatMap PX.slots → s.sl y = t.sl y) → xs.map s.val = xs.map t.val
  | [], _ => rfl
  | x :: r, h => by
    simp only [List.map_cons]
    rw [val_agree (x := x) (fun y hy => h y (by simp only [List.flatMap_cons, List.mem_append]; exact .inl hy)), vals_agree r (fun y hy => h y (by simp only [List.flatMap_cons, List.mem_append]; exact .inr hy))]
theorem oint_agree {x : Option PX} (h : ∀ y, y ∈ oslots x → s.sl y = t.sl y) : x.map s.int = x.map t.int := by
  cases x with
  | none => rfl
  | some x => simp only [Option.map_some, int_agree (x := x) h]

theorem mkAv_agree {k : Option Nat} {cs ds : List Cl} {off : Nat} (hl : cs.length = ds.length) (h : ∀ i, off ≤ i → i < off + k.getD 1 → cs[i]? = ds[i]?) : mkAv k cs off = mkAv k ds off := by
  cases k with
  | none => simp only [mkAv]; rw [h off (Nat.le_refl _) (by simp)]
  | some k =>
    simp only [mkAv, hl]
    split
    · congr 3
      apply List.ext_getElem?
      intro i
      rw [List.getElem?_take, List.getElem?_take]
      split
      · rw [List.getElem?_drop, List.getElem?_drop]
        exact h _ (by omega) (by simp; omega)
      · rfl
    · rfl

/-- an operation does the same in two states that agree in what it looks at -/
theorem fn_agree {po : PO} {d : Nat} (h : Agree po.slots (po.rd s d) s t) : po.fn s d = po.fn t d := by
  obtain ⟨hs, ho⟩ := h
  cases po <;> simp only [PO.slots, List.mem_append] at hs <;> simp only [PO.fn]
  case mv x => rw [ev_agree hs]
  case nilRow E sz => rw [show s.gen d = t.gen d from (ho (d, big - 1, 1) (by simp only [PO.rd, List.mem_singleton])).1]
  case pick c a b => rw [boo_agree (x := c) (fun y hy => hs y (.inl (.inl hy))), ev_agree (x := a) (fun y hy => hs y (.inl (.inr hy))), ev_agree (x := b) (fun y hy => hs y (.inr hy))]
  case box x => rw [cs_agree hs, show s.gen d = t.gen d from (ho (d, big - 1, 1) (by simp only [PO.rd, List.mem_singleton])).1]
  case new z => rw [show s.gen d = t.gen d from (ho (d, big - 1, 1) (by simp only [PO.rd, List.mem_singleton])).1]
  case build z ps => rw [parts_agree ps hs]
  case bslice E sz z ln ps => rw [parts_agree ps hs, show s.gen d = t.gen d from (ho (d, big - 1, 1) (by simp only [PO.rd, List.mem_singleton])).1]
  case load k a =>
    have hc := cl_agree (x := a) hs
    simp only [PO.rd] at ho
    rw [← hc]
    split
    · rename_i o g off heq
      rw [heq] at ho
      obtain ⟨h1, h2⟩ := ho _ (List.mem_singleton.2 rfl)
      dsimp only at h1 h2
      rw [h1]
      split
      · generalize s.ob o = x at h2 ⊢
        generalize t.ob o = y at h2 ⊢
        cases x <;> cases y <;> simp only [rgEq] at h2 <;> (try dsimp only) <;> first | rfl | (cases h2; done) | (rw [mkAv_agree h2.1 h2.2]) | (rw [h2])
      · rfl
    · rfl
    · rfl
  case store sz a x =>
    have hc := cl_agree (x := a) (fun y hy => hs y (.inl hy))
    have hx := cs_agree (x := x) (fun y hy => hs y (.inr hy))
    simp only [PO.rd] at ho
    rw [← hc, ← hx]
    split
    · rename_i o g off nw heq hnw
      rw [heq] at ho
      obtain ⟨h1, h2⟩ := ho _ (List.mem_singleton.2 rfl)
      dsimp only at h1 h2
      rw [h1]
      split
      · generalize s.ob o = x at h2 ⊢
        generalize t.ob o = y at h2 ⊢
        cases x <;> cases y <;> simp only [rgEq] at h2 <;> (try dsimp only) <;> first | rfl | (cases h2; done) | (rw [h2.1]) | (rw [h2])
      · rfl
    · rfl
  case fld off x =>
    have hc := cl_agree (x := x) hs
    simp only [PO.rd] at ho
    rw [← hc]
    split
    · rename_i o g k heq
      rw [heq] at ho
      rw [show s.gen o = t.gen o from (ho (o, big - 1, 1) (by simp only [List.mem_singleton])).1]
    · rfl
    · rfl
  case fldv off k x => rw [ev_agree hs]
  case ixa ln sz x i =>
    have hc := cl_agree (x := x) (fun y hy => hs y (.inl hy))
    have hi := int_agree (x := i) (fun y hy => hs y (.inr hy))
    simp only [PO.rd] at ho
    rw [← hc, ← hi]
    split
    · rename_i o g off k heq hk
      rw [heq] at ho
      rw [show s.gen o = t.gen o from (ho (o, big - 1, 1) (by simp only [List.mem_singleton])).1]
    · rfl
    · rfl
  case ixs sz x i =>
    have hc := cl_agree (x := x) (fun y hy => hs y (.inl hy))
    have hi := int_agree (x := i) (fun y hy => hs y (.inr hy))
    simp only [PO.rd] at ho
    rw [← hc, ← hi]
    split
    · split
      · rename_i o g off ln cap sz2 heq
        rw [heq] at ho
        rw [show s.gen o = t.gen o from (ho (o, big - 1, 1) (by simp only [List.mem_singleton])).1]
      · rfl
    · rfl
  case ixv ln sz k x i => rw [ev_agree (x := x) (fun y hy => hs y (.inl hy)), int_agree (x := i) (fun y hy => hs y (.inr hy))]
  case ixstr x i => rw [val_agree (x := x) (fun y hy => hs y (.inl hy)), int_agree (x := i) (fun y hy => hs y (.inr hy))]
  case bin op x y => rw [val_agree (x := x) (fun y hy => hs y (.inl hy)), val_agree (x := y) (fun y hy => hs y (.inr hy))]
  case eqb neg x y => rw [boo_agree (x := x) (fun y hy => hs y (.inl hy)), boo_agree (x := y) (fun y hy => hs y (.inr hy))]
  case eqs neg m x y => rw [ev_agree (x := x) (fun y hy => hs y (.inl hy)), ev_agree (x := y) (fun y hy => hs y (.inr hy))]
  case un op x => rw [val_agree hs]
  case conv k x => rw [int_agree hs]
  case slc sz x lo hi => rw [cl_agree (x := x) (fun y hy => hs y (.inl (.inl hy))), oint_agree (x := lo) (fun y hy => hs y (.inl (.inr hy))), oint_agree (x := hi) (fun y hy => hs y (.inr hy))]
  case substr x lo hi => rw [val_agree (x := x) (fun y hy => hs y (.inl (.inl hy))), oint_agree (x := lo) (fun y hy => hs y (.inl (.inr hy))), oint_agree (x := hi) (fun y hy => hs y (.inr hy))]
  case len x => rw [cl_agree hs]
  case strlen x => rw [val_agree hs]
  case append E sz bytes x y =>
    have hc := cl_agree (x := x) (fun y hy => hs y (.inl hy))
    have hy := cl_agree (x := y) (fun y hy => hs y (.inr hy))
    simp only [PO.rd] at ho
    rw [← hc, ← hy]
    split
    · rename_i o g rows news heq hnews
      rw [heq] at ho
      obtain ⟨h1, h2⟩ := ho _ (List.mem_singleton.2 rfl)
      dsimp only at h1 h2
      rw [h1]
      split
      · generalize s.ob o = x at h2 ⊢
        generalize t.ob o = y at h2 ⊢
        cases x <;> cases y <;> simp only [rgEq] at h2 <;> (try dsimp only) <;> first | rfl | (cases h2; done) | (cases h2; rfl)
      · rfl
    · rfl
    · rfl
  case mm big xs => rw [vals_agree xs hs]
  case ext x i => rw [ev_agree hs]
  case mk sz bytes z n c =>
    rw [int_agree (x := n) (fun y hy => hs y (.inl hy)), int_agree (x := c) (fun y hy => hs y (.inr hy))]
    rw [show s.gen d = t.gen d from (ho (d, big - 1, 1) (by simp only [PO.rd, List.mem_singleton])).1]
  case slc3 sz x lo hi mx => rw [cl_agree (x := x) (fun y hy => hs y (.inl (.inl (.inl hy)))), oint_agree (x := lo) (fun y hy => hs y (.inl (.inl (.inr hy)))), int_agree (x := hi) (fun y hy => hs y (.inl (.inr hy))), int_agree (x := mx) (fun y hy => hs y (.inr hy))]
  case sla ln sz x i =>
    have hc := cl_agree (x := x) (fun y hy => hs y (.inl hy))
    have hi := int_agree (x := i) (fun y hy => hs y (.inr hy))
    simp only [PO.rd] at ho
    rw [← hc, ← hi]
    split
    · rename_i o g off k heq hk
      rw [heq] at ho
      rw [show s.gen o = t.gen o from (ho (o, big - 1, 1) (by simp only [List.mem_singleton])).1]
    · rfl
  case niq neg x => rw [cl_agree hs]
  case ixg ln sz g i => rw [int_agree (x := i) hs]
  case bstr x => rw [cl_agree hs]
  case nilck x =>
    have hc := cl_agree (x := x) hs
    simp only [PO.rd] at ho
    rw [← hc]
    split
    · rename_i o g k heq
      rw [heq] at ho
      rw [show s.gen o = t.gen o from (ho (o, big - 1, 1) (by simp only [List.mem_singleton])).1]
    · rfl

theorem go_agree {env : Env} {i : PI} {K : Av → Cg → Prop} (h : Agree i.looks (i.rd s) s t) : i.go env s K → i.go env t K := by
  have hop : i.op.go env s (i.dst.getD 0) K → i.op.go env t (i.dst.getD 0) K := fun hg => by
    have h1 : ∀ x, x ∈ i.op.slots → s.sl x = t.sl x := fun x hx => h.sl x (by unfold PI.looks; exact List.mem_append_left _ hx)
    cases hc : i.op with
    | call f xs =>
      rw [hc] at hg h1
      have hr := h.ob
      unfold PI.rd at hr
      rw [hc] at hr
      have hrc := recv_agree xs h1
      have hg' : callG env s (i.dst.getD 0) K f xs (s.recv xs) := hg
      show callG env t (i.dst.getD 0) K f xs (t.recv xs)
      simp only [PO.rd] at hr
      rw [← hrc]
      cases hre : s.recv xs with
      | none =>
        rw [hre] at hg' hr
        have hgd := (hr (i.dst.getD 0, big - 1, 1) (by simp)).1
        obtain ⟨az, e1, e2⟩ := withSome_iff.1 hg'
        refine withSome_iff.2 ⟨az, by rw [← args_agree xs h1]; exact e1, ?_⟩
        rw [← show s.gen (i.dst.getD 0) = t.gen (i.dst.getD 0) from hgd]
        exact e2
      | some p =>
        obtain ⟨o, g⟩ := p
        rw [hre] at hg' hr
        have hgd := (hr (i.dst.getD 0, big - 1, 1) (by simp)).1
        have hob := hr (o, 0, big) (by simp)
        obtain ⟨az, e1, e2⟩ := withSome_iff.1 hg'
        obtain ⟨H, e3, e4⟩ := withSome_iff.1 e2
        refine withSome_iff.2 ⟨az, by rw [← args_agree xs.tail (fun y hy => h1 y (by
          cases xs with
          | nil => exact hy
          | cons z zs => simp only [PO.slots, List.flatMap_cons, List.mem_append]; exact .inr hy))]; exact e1, ?_⟩
        refine withSome_iff.2 ⟨H, by rw [← abAt_agree hob.1 hob.2]; exact e3, ?_⟩
        rw [← show s.gen (i.dst.getD 0) = t.gen (i.dst.getD 0) from hgd]
        exact e4
    | callv xv f xs =>
      rw [hc] at hg h1
      obtain ⟨u0, hu0, hg⟩ := withSome_iff.1 hg
      refine withSome_iff.2 ⟨u0, by rw [← val_agree (x := xv) (fun y hy => h1 y (List.mem_append_left _ hy))]; exact hu0, ?_⟩
      have h1 : ∀ x, x ∈ (PO.call f xs).slots → s.sl x = t.sl x := fun x hx => h1 x (List.mem_append_right _ hx)
      have hr := h.ob
      unfold PI.rd at hr
      rw [hc] at hr
      have hrc := recv_agree xs h1
      have hg' : callG env s (i.dst.getD 0) K f xs (s.recv xs) := hg
      show callG env t (i.dst.getD 0) K f xs (t.recv xs)
      simp only [PO.rd] at hr
      rw [← hrc]
      cases hre : s.recv xs with
      | none =>
        rw [hre] at hg' hr
        have hgd := (hr (i.dst.getD 0, big - 1, 1) (by simp)).1
        obtain ⟨az, e1, e2⟩ := withSome_iff.1 hg'
        refine withSome_iff.2 ⟨az, by rw [← args_agree xs h1]; exact e1, ?_⟩
        rw [← show s.gen (i.dst.getD 0) = t.gen (i.dst.getD 0) from hgd]
        exact e2
      | some p =>
        obtain ⟨o, g⟩ := p
        rw [hre] at hg' hr
        have hgd := (hr (i.dst.getD 0, big - 1, 1) (by simp)).1
        have hob := hr (o, 0, big) (by simp)
        obtain ⟨az, e1, e2⟩ := withSome_iff.1 hg'
        obtain ⟨H, e3, e4⟩ := withSome_iff.1 e2
        refine withSome_iff.2 ⟨az, by rw [← args_agree xs.tail (fun y hy => h1 y (by
          cases xs with
          | nil => exact hy
          | cons z zs => simp only [PO.slots, List.flatMap_cons, List.mem_append]; exact .inr hy))]; exact e1, ?_⟩
        refine withSome_iff.2 ⟨H, by rw [← abAt_agree hob.1 hob.2]; exact e3, ?_⟩
        rw [← show s.gen (i.dst.getD 0) = t.gen (i.dst.getD 0) from hgd]
        exact e4
    | ldg x =>
      rw [hc] at hg h1
      obtain ⟨v, hv, hk⟩ := withSome_iff.1 hg
      exact withSome_iff.2 ⟨v, by rw [← val_agree (x := x) h1]; exact hv, hk⟩
    | _ =>
      rw [hc, PO.go_fn rfl] at hg
      rw [PO.go_fn rfl]
      obtain ⟨p, e1, e2⟩ := withSome_iff.1 hg
      refine withSome_iff.2 ⟨p, ?_, e2⟩
      rw [← e1]
      refine (fn_agree ⟨fun x hx => h1 x (by rw [hc]; exact hx), fun r hr => h.ob r ?_⟩).symm
      unfold PI.rd
      rw [hc]
      exact hr
  intro hg
  unfold PI.go at hg ⊢
  cases hgd : i.guard with
  | none => rw [hgd] at hg; exact hop hg
  | some p =>
    obtain ⟨x, want⟩ := p
    rw [hgd] at hg
    obtain ⟨b, e1, e2, e3⟩ := withSome_iff.1 hg
    refine withSome_iff.2 ⟨b, ?_, fun hb => hop (e2 hb), e3⟩
    rw [← e1]
    have h1 := boo_agree (x := .t x) (fun y hy => h.sl y (by
      unfold PI.looks
      rw [hgd]
      exact List.mem_append_right _ hy))
    have h2 := h.sl x (by
      unfold PI.looks
      rw [hgd]
      exact List.mem_append_right _ (List.mem_singleton.2 rfl))
    unfold St.gd
    rw [h1, h2]
end
end Go.Proofs.YthnjbnfnljjepabDoor
end
section
set_option linter.unusedSimpArgs false
set_option linter.unusedVariables false
namespace Go.Proofs.YthnjbnfnljjepabDoor
open Go Go.RowKit

/-- an operation that has been read: what it brought, what it looked at -/
structure En where
  i : PI
  v : Av
  ch : Cg
  rd : List Rg
def St.en (s : St) (e : En) : St := s.ap e.i.dst e.v e.ch
/-- the entries that L names, in the order of the text -/
def stF : List En → Nat → (Nat → Bool) → St → St
  | [], _, _, s => s
  | e :: r, k, L, s => stF r (k + 1) L (cond (L k) (s.en e) s)

/-- e does not touch what f looks at or writes -/
def IndE (e f : En) : Prop := indep1 e.i f.i e.ch.wrs f.rd f.ch.wrs = true ∧ indep1 f.i e.i f.ch.wrs e.rd e.ch.wrs = true

theorem rgApart_iff {a b : Rg} : rgApart a b = true ↔ a.1 ≠ b.1 ∨ (a.2.2 < big ∧ b.2.2 < big ∧ (a.2.1 + a.2.2 ≤ b.2.1 ∨ b.2.1 + b.2.2 ≤ a.2.1)) := by
  simp [rgApart, and_assoc]
theorem rgsApart_iff {xs ys : List Rg} : rgsApart xs ys = true ↔ ∀ x, x ∈ xs → ∀ y, y ∈ ys → x.1 ≠ y.1 ∨ (x.2.2 < big ∧ y.2.2 < big ∧ (x.2.1 + x.2.2 ≤ y.2.1 ∨ y.2.1 + y.2.2 ≤ x.2.1)) := by
  unfold rgsApart
  rw [List.all_eq_true]
  constructor
  · intro h x hx y hy
    exact rgApart_iff.1 (List.all_eq_true.1 (h x hx) y hy)
  · intro h x hx
    exact List.all_eq_true.2 fun y hy => rgApart_iff.2 (h x hx y hy)
theorem notIn_iff {d : Option Nat} {l : List Nat} : notIn d l = true ↔ ∀ x, d = some x → x ∉ l := by
  cases d with
  | none => simp [notIn]
  | some d => simp [notIn]

theorem up_comm {α : Type} (f : Nat → α) {a b : Nat} (h : a ≠ b) (x y : α) : up (up f a x) b y = up (up f b y) a x := by
  funext z
  simp only [up_at]
  (repeat' split) <;> first | rfl | (exfalso; omega)
def md {α : Type} (f : Nat → α) (a : Nat) (F : α → α) : Nat → α := up f a (F (f a))
theorem md_comm {α : Type} (f : Nat → α) {a b : Nat} (h : a ≠ b) (F G : α → α) : md (md f a F) b G = md (md f b G) a F := by
  have h1 : md f a F b = f b := by unfold md; rw [up_at, if_neg (Ne.symm h)]
  have h2 : md f b G a = f a := by unfold md; rw [up_at, if_neg h]
  show up (md f a F) b (G (md f a F b)) = up (md f b G) a (F (md f b G a))
  rw [h1, h2]
  exact up_comm f h _ _
theorem md_same {α : Type} (f : Nat → α) (a : Nat) (F G : α → α) : md (md f a F) a G = md f a (fun x => G (F x)) := by
  funext z
  unfold md
  simp only [up_at]
  by_cases h : z = a
  · simp [h]
  · simp [h]

def Cg.gF : Cg → (Nat → Nat) → Nat → Nat
  | .new o _, f => md f o (· + 1)
  | _, f => f
def wrF (off : Nat) (cs : List Cl) : Ob → Ob
  | .cells old => .cells (wrAt old off cs)
  | x => x
def rowF (n : Nat) : Ob → Ob
  | .row E sz _ => .row E sz n
  | x => x
def Cg.oF : Cg → (Nat → Ob) → Nat → Ob
  | .no, f => f
  | .new o x, f => md f o (fun _ => x)
  | .wr o off cs, f => md f o (wrF off cs)
  | .row o n, f => md f o (rowF n)
  | .ab o H, f => md f o (fun _ => .ab H)
def dF (dst : Option Nat) (v : Av) (f : Nat → Av) : Nat → Av := match dst with
  | some d => up f d v
  | none => f
theorem ap_eq (s : St) (dst : Option Nat) (v : Av) (ch : Cg) : s.ap dst v ch = ⟨dF dst v s.sl, ch.gF s.gen, ch.oF s.ob⟩ := by
  cases ch <;> first
    | rfl
    | (simp only [St.ap, Cg.gF, Cg.oF, md, wrF, rowF]
       congr 2
       (split <;> simp_all))

theorem wrF_comm {a b : Nat} {xs ys : List Cl} (h : a + xs.length ≤ b ∨ b + ys.length ≤ a) (x : Ob) : wrF b ys (wrF a xs x) = wrF a xs (wrF b ys x) := by
  cases x <;> try rfl
  simp only [wrF]
  rw [wrAt_comm _ h]

theorem chs_comm {c d : Cg} (h : rgsApart c.wrs d.wrs = true) (G : Nat → Nat) (O : Nat → Ob) : d.gF (c.gF G) = c.gF (d.gF G) ∧ d.oF (c.oF O) = c.oF (d.oF O) := by
  have hw := rgsApart_iff.1 h
  cases c <;> cases d <;> simp only [Cg.wrs] at hw <;> (try exact ⟨rfl, rfl⟩)
  all_goals
    have hh := hw _ (List.mem_singleton.2 rfl) _ (List.mem_singleton.2 rfl)
    dsimp only at hh
    simp only [Cg.gF, Cg.oF]
  case wr.wr a x xs b y ys =>
    refine ⟨trivial, ?_⟩
    by_cases he : a = b
    · subst he
      have hd : x + xs.length ≤ y ∨ y + ys.length ≤ x := by
        rcases hh with hh | hh
        · exact absurd rfl hh
        · exact hh.2.2
      rw [md_same, md_same]
      congr 1
      funext z
      exact wrF_comm hd z
    · exact md_comm _ he _ _
  all_goals
    have hne := hh.resolve_right (fun h => by have := h.1; have := h.2.1; omega)
    first
      | exact ⟨md_comm _ hne _ _, md_comm _ hne _ _⟩
      | exact ⟨trivial, md_comm _ hne _ _⟩

theorem IndE.symm {e f : En} (h : IndE e f) : IndE f e := ⟨h.2, h.1⟩
/-- two entries that are apart may change places -/
theorem en_comm {s : St} {e f : En} (h : IndE e f) : (s.en e).en f = (s.en f).en e := by
  obtain ⟨h1, h2⟩ := h
  simp only [indep1, Bool.and_eq_true] at h1 h2
  obtain ⟨⟨⟨_, _⟩, hw⟩, hd⟩ := h1
  have hd' := notIn_iff.1 hd
  obtain ⟨hg, ho⟩ := chs_comm hw s.gen s.ob
  unfold St.en
  simp only [ap_eq]
  rw [hg, ho]
  congr 1
  cases hd1 : e.i.dst with
  | none => rfl
  | some a =>
    cases hd2 : f.i.dst with
    | none => rfl
    | some b =>
      have hne : a ≠ b := by
        have := hd' a hd1
        rw [hd2] at this
        simpa using this
      exact up_comm _ hne _ _

theorem rgEq.md {x y : Ob} {off n : Nat} (h : rgEq x y off n) : ∀ F : Ob → Ob, (F = (fun _ => F x) ∨ (∃ a cs, F = wrF a cs) ∨ ∃ k, F = rowF k) → rgEq (F x) (F y) off n := by
  intro F hF
  rcases hF with hF | ⟨a, cs, rfl⟩ | ⟨k, rfl⟩
  · have : F y = F x := by rw [hF]
    rw [this]; exact rgEq.refl _ _ _
  · cases x <;> cases y <;> simp only [rgEq] at h <;> first | (cases h; done) | skip
    · exact rgEq.refl _ _ _
    · refine ⟨by rw [wrAt_length, wrAt_length]; exact h.1, fun i h1 h2 => ?_⟩
      rw [wrAt_get, wrAt_get, h.1, h.2 i h1 h2]
    · rw [h]; exact rgEq.refl _ _ _
    · rw [h]; exact rgEq.refl _ _ _
  · cases x <;> cases y <;> simp only [rgEq] at h <;> first | (cases h; done) | skip
    · exact rgEq.refl _ _ _
    · exact ⟨h.1, h.2⟩
    · rw [h]; exact rgEq.refl _ _ _
    · rw [h]; exact rgEq.refl _ _ _

/-- the same entry in both -/
theorem Agree.both {looks : List Nat} {rd : List Rg} {s t : St} (h : Agree looks rd s t) (e : En) : Agree looks rd (s.en e) (t.en e) := by
  unfold St.en
  rw [ap_eq, ap_eq]
  refine ⟨fun x hx => ?_, fun r hr => ?_⟩
  · show dF _ _ s.sl x = dF _ _ t.sl x
    cases e.i.dst with
    | none => exact h.sl x hx
    | some d =>
      show up s.sl d e.v x = up t.sl d e.v x
      rw [up_at, up_at, h.sl x hx]
  · obtain ⟨h1, h2⟩ := h.ob r hr
    show e.ch.gF s.gen r.1 = e.ch.gF t.gen r.1 ∧ rgEq (e.ch.oF s.ob r.1) (e.ch.oF t.ob r.1) _ _
    cases e.ch with
    | no => exact ⟨h1, h2⟩
    | new o x =>
      simp only [Cg.gF, Cg.oF, Go.Proofs.YthnjbnfnljjepabDoor.md, up_at]
      by_cases he : r.1 = o
      · rw [if_pos he, if_pos he, if_pos he, if_pos he]
        rw [he] at h1
        exact ⟨by rw [h1], rgEq.refl _ _ _⟩
      · rw [if_neg he, if_neg he, if_neg he, if_neg he]
        exact ⟨h1, h2⟩
    | wr o a cs =>
      simp only [Cg.gF, Cg.oF, Go.Proofs.YthnjbnfnljjepabDoor.md, up_at]
      refine ⟨h1, ?_⟩
      by_cases he : r.1 = o
      · rw [if_pos he, if_pos he]
        rw [he] at h2
        exact rgEq.md h2 _ (.inr (.inl ⟨a, cs, rfl⟩))
      · rw [if_neg he, if_neg he]
        exact h2
    | row o k =>
      simp only [Cg.gF, Cg.oF, Go.Proofs.YthnjbnfnljjepabDoor.md, up_at]
      refine ⟨h1, ?_⟩
      by_cases he : r.1 = o
      · rw [if_pos he, if_pos he]
        rw [he] at h2
        exact rgEq.md h2 _ (.inr (.inr ⟨k, rfl⟩))
      · rw [if_neg he, if_neg he]
        exact h2
    | ab o H =>
      simp only [Cg.gF, Cg.oF, Go.Proofs.YthnjbnfnljjepabDoor.md, up_at]
      refine ⟨h1, ?_⟩
      by_cases he : r.1 = o
      · rw [if_pos he, if_pos he]
        exact rgEq.refl _ _ _
      · rw [if_neg he, if_neg he]
        exact h2

theorem Agree.refl (looks : List Nat) (rd : List Rg) (s : St) : Agree looks rd s s := ⟨fun _ _ => rfl, fun _ _ => ⟨rfl, rgEq.refl _ _ _⟩⟩
theorem rgEq.symm {x y : Ob} {off n : Nat} (h : rgEq x y off n) : rgEq y x off n := by
  cases x <;> cases y <;> simp only [rgEq] at h ⊢ <;> first | (cases h; done) | exact h.symm | exact ⟨h.1.symm, fun i a b => (h.2 i a b).symm⟩ | skip
theorem rgEq.trans {x y z : Ob} {off n : Nat} (h : rgEq x y off n) (k : rgEq y z off n) : rgEq x z off n := by
  cases x <;> cases y <;> simp only [rgEq] at h <;> first | (cases h; done) | skip
  · exact k
  · cases z <;> simp only [rgEq] at k ⊢ <;> first | (cases k; done) | exact ⟨h.1.trans k.1, fun i a b => (h.2 i a b).trans (k.2 i a b)⟩
  · rw [h]; exact k
  · rw [h]; exact k
theorem Agree.symm {looks : List Nat} {rd : List Rg} {s t : St} (h : Agree looks rd s t) : Agree looks rd t s := ⟨fun x hx => (h.sl x hx).symm, fun r hr => ⟨(h.ob r hr).1.symm, (h.ob r hr).2.symm⟩⟩
theorem Agree.trans {looks : List Nat} {rd : List Rg} {s t u : St} (h : Agree looks rd s t) (k : Agree looks rd t u) : Agree looks rd s u :=
  ⟨fun x hx => (h.sl x hx).trans (k.sl x hx), fun r hr => ⟨(h.ob r hr).1.trans (k.ob r hr).1, (h.ob r hr).2.trans (k.ob r hr).2⟩⟩

/-- an entry that does not touch what is looked at -/
theorem Agree.skip {s : St} {e f : En} (h : IndE e f) : Agree f.i.looks f.rd s (s.en e) := by
  obtain ⟨h1, _⟩ := h
  simp only [indep1, Bool.and_eq_true] at h1
  obtain ⟨⟨⟨hl, hr⟩, _⟩, _⟩ := h1
  have hl' := notIn_iff.1 hl
  have hr' := rgsApart_iff.1 hr
  unfold St.en
  rw [ap_eq]
  refine ⟨fun x hx => ?_, fun r hrr => ?_⟩
  · show s.sl x = dF _ _ s.sl x
    cases hd : e.i.dst with
    | none => rfl
    | some d =>
      show _ = up s.sl d e.v x
      rw [up_at, if_neg]
      rintro rfl
      exact hl' x hd hx
  · show s.gen r.1 = e.ch.gF s.gen r.1 ∧ rgEq (s.ob r.1) (e.ch.oF s.ob r.1) _ _
    cases hc : e.ch with
    | no => exact ⟨rfl, rgEq.refl _ _ _⟩
    | new o x =>
      rw [hc] at hr'
      have hne := (hr' _ (List.mem_singleton.2 rfl) r hrr).resolve_right (fun h => by have := h.1; dsimp only at this; omega)
      dsimp only at hne
      simp only [Cg.gF, Cg.oF, Go.Proofs.YthnjbnfnljjepabDoor.md, up_at, if_neg (Ne.symm hne)]
      exact ⟨trivial, rgEq.refl _ _ _⟩
    | row o k =>
      rw [hc] at hr'
      have hne := (hr' _ (List.mem_singleton.2 rfl) r hrr).resolve_right (fun h => by have := h.1; dsimp only at this; omega)
      dsimp only at hne
      simp only [Cg.gF, Cg.oF, Go.Proofs.YthnjbnfnljjepabDoor.md, up_at, if_neg (Ne.symm hne)]
      exact ⟨trivial, rgEq.refl _ _ _⟩
    | ab o H =>
      rw [hc] at hr'
      have hne := (hr' _ (List.mem_singleton.2 rfl) r hrr).resolve_right (fun h => by have := h.1; dsimp only at this; omega)
      dsimp only at hne
      simp only [Cg.gF, Cg.oF, Go.Proofs.YthnjbnfnljjepabDoor.md, up_at, if_neg (Ne.symm hne)]
      exact ⟨trivial, rgEq.refl _ _ _⟩
    | wr o a cs =>
      rw [hc] at hr'
      have hh := hr' _ (List.mem_singleton.2 rfl) r hrr
      dsimp only at hh
      simp only [Cg.gF, Cg.oF, Go.Proofs.YthnjbnfnljjepabDoor.md, up_at]
      refine ⟨trivial, ?_⟩
      by_cases he : r.1 = o
      · rw [if_pos he, he]
        have hd := (hh.resolve_left (by rw [he]; exact fun h => h rfl)).2.2
        cases s.ob o with
        | cells old =>
          refine ⟨(wrAt_length _ _ _).symm, fun i h1 h2 => ?_⟩
          rw [wrAt_get, if_neg]
          rintro ⟨h3, h4, h5⟩
          omega
        | no => exact rgEq.refl _ _ _
        | row _ _ _ => exact rgEq.refl _ _ _
        | ab _ => exact rgEq.refl _ _ _
      · rw [if_neg he]; exact rgEq.refl _ _ _

/-! ### every order -/
theorem stF_set : ∀ (es : List En) (k : Nat) (L : Nat → Bool) (j : Nat) (e : En) (s : St), k ≤ j → es[j - k]? = some e → L j = false →
    (∀ (i : Nat) f, j < i → es[i - k]? = some f → L i = true → IndE e f) → stF es k (fun i => if i = j then true else L i) s = (stF es k L s).en e
  | [], k, L, j, e, s, hk, he, _, _ => by simp at he
  | f :: r, k, L, j, e, s, hk, he, hL, hi => by
    by_cases hkj : k = j
    · subst hkj
      simp at he
      subst he
      -- behind it nothing is set anew; it moves to the end
      have mv : ∀ (r : List En) (k' : Nat) (s : St), k < k' → (∀ (i : Nat) g, k < i → r[i - k']? = some g → k' ≤ i → L i = true → IndE f g) → stF r k' (fun i => if i = k then true else L i) (s.en f) = (stF r k' L s).en f := by
        intro r
        induction r with
        | nil => intro k' s _ _; rfl
        | cons g r ih =>
          intro k' s hkk hg
          show stF r (k' + 1) _ (cond (if k' = k then true else L k') ((s.en f).en g) (s.en f)) = (stF r (k' + 1) L (cond (L k') (s.en g) s)).en f
          rw [if_neg (show ¬ k' = k by omega)]
          cases hL' : L k' with
          | true =>
            simp only [cond]
            rw [en_comm (hg k' g hkk (by simp) (Nat.le_refl _) hL')]
            exact ih (k' + 1) _ (by omega) (fun i g' h1 h2 h3 h4 => hg i g' h1 (by
              rw [show i - k' = (i - (k' + 1)) + 1 by omega, List.getElem?_cons_succ]; exact h2) (by omega) h4)
          | false =>
            simp only [cond]
            exact ih (k' + 1) _ (by omega) (fun i g' h1 h2 h3 h4 => hg i g' h1 (by
              rw [show i - k' = (i - (k' + 1)) + 1 by omega, List.getElem?_cons_succ]; exact h2) (by omega) h4)
      simp only [stF, if_true, hL, cond]
      exact mv r (k + 1) s (by omega) (fun i g h1 h2 h3 h4 => hi i g h1 (by
        rw [show i - k = (i - (k + 1)) + 1 by omega, List.getElem?_cons_succ]; exact h2) h4)
    · show stF r (k + 1) _ (cond (if k = j then true else L k) (s.en f) s) = (stF r (k + 1) L (cond (L k) (s.en f) s)).en e
      rw [if_neg hkj]
      exact stF_set r (k + 1) L j e _ (by omega) (by
        rw [show j - k = (j - (k + 1)) + 1 by omega, List.getElem?_cons_succ] at he; exact he) hL (fun i g h1 h2 h3 => hi i g h1 (by
        rw [show i - k = (i - (k + 1)) + 1 by omega, List.getElem?_cons_succ]; exact h2) h3)

theorem stF_agree {j : En} : ∀ (es : List En) (k : Nat) (L M : Nat → Bool) (s t : St), Agree j.i.looks j.rd s t →
    (∀ (i : Nat) e, k ≤ i → es[i - k]? = some e → L i = M i ∨ IndE e j) → Agree j.i.looks j.rd (stF es k L s) (stF es k M t)
  | [], _, _, _, _, _, h, _ => h
  | e :: r, k, L, M, s, t, h, hi => by
    simp only [stF]
    refine stF_agree r (k + 1) L M _ _ ?_ (fun i e' h1 h2 => hi i e' (by omega) (by
      rw [show i - k = (i - (k + 1)) + 1 by omega, List.getElem?_cons_succ]; exact h2))
    rcases hi k e (Nat.le_refl _) (by simp) with he | he
    · rw [he]
      cases M k
      · exact h
      · exact h.both e
    · cases L k <;> cases M k
      · exact h
      · exact h.trans (Agree.skip he)
      · exact (Agree.skip he).symm.trans h
      · exact h.both e

theorem stF_all : ∀ (es : List En) (k m : Nat) (s : St), stF es k (fun i => decide (i < m)) s = (es.take (m - k)).foldl St.en s
  | [], k, m, s => by simp [stF]
  | e :: r, k, m, s => by
    show stF r (k + 1) _ (cond (decide (k < m)) (s.en e) s) = _
    rw [stF_all r (k + 1) m]
    by_cases h : k < m
    · rw [decide_eq_true h, show m - k = (m - (k + 1)) + 1 by omega]
      rfl
    · rw [decide_eq_false h, show m - k = 0 by omega, show m - (k + 1) = 0 by omega]
      rfl
end Go.Proofs.YthnjbnfnljjepabDoor
end
section
set_option linter.unusedSimpArgs false
set_option linter.unusedVariables false
namespace Go.Proofs.YthnjbnfnljjepabDoor
open Go Go.RowKit

theorem go_inv {env : Env} {i : PI} {s : St} {K : Av → Cg → Prop} (h : i.go env s K) : ∃ v ch, i.go env s (fun v' ch' => v' = v ∧ ch' = ch) ∧ K v ch := by
  have hop : ∀ K : Av → Cg → Prop, i.op.go env s (i.dst.getD 0) K → ∃ v ch, i.op.go env s (i.dst.getD 0) (fun v' ch' => v' = v ∧ ch' = ch) ∧ K v ch := fun K hg => by
    cases hc : i.op with
    | call f xs =>
      rw [hc] at hg
      have hg' : callG env s (i.dst.getD 0) K f xs (s.recv xs) := hg
      show ∃ v ch, callG env s (i.dst.getD 0) (fun v' ch' => v' = v ∧ ch' = ch) f xs (s.recv xs) ∧ K v ch
      cases hre : s.recv xs with
      | none =>
        rw [hre] at hg'
        obtain ⟨az, e1, e2⟩ := withSome_iff.1 hg'
        rcases e2 with ⟨rs, e2, e3⟩ | ⟨H, rs, e2, e3⟩
        · exact ⟨_, _, withSome_iff.2 ⟨az, e1, .inl ⟨rs, e2, rfl, rfl⟩⟩, e3⟩
        · exact ⟨_, _, withSome_iff.2 ⟨az, e1, .inr ⟨H, rs, e2, rfl, rfl⟩⟩, e3⟩
      | some p =>
        obtain ⟨o, g⟩ := p
        rw [hre] at hg'
        obtain ⟨az, e1, e2⟩ := withSome_iff.1 hg'
        obtain ⟨H, e3, e4⟩ := withSome_iff.1 e2
        rcases e4 with ⟨H', rs, e5, e6⟩ | ⟨H2, e0, e5, e6⟩
        · exact ⟨_, _, withSome_iff.2 ⟨az, e1, withSome_iff.2 ⟨H, e3, .inl ⟨H', rs, e5, rfl, rfl⟩⟩⟩, e6⟩
        · exact ⟨_, _, withSome_iff.2 ⟨az, e1, withSome_iff.2 ⟨H, e3, .inr ⟨H2, e0, e5, rfl, rfl⟩⟩⟩, e6⟩
    | callv xv f xs =>
      rw [hc] at hg
      obtain ⟨u0, hu0, hg⟩ := withSome_iff.1 hg
      suffices hh : ∃ v ch, callG env s (i.dst.getD 0) (fun v' ch' => v' = v ∧ ch' = ch) f xs (s.recv xs) ∧ K v ch by
        obtain ⟨v, ch, h1, h2⟩ := hh
        exact ⟨v, ch, withSome_iff.2 ⟨u0, hu0, h1⟩, h2⟩
      have hg' : callG env s (i.dst.getD 0) K f xs (s.recv xs) := hg
      show ∃ v ch, callG env s (i.dst.getD 0) (fun v' ch' => v' = v ∧ ch' = ch) f xs (s.recv xs) ∧ K v ch
      cases hre : s.recv xs with
      | none =>
        rw [hre] at hg'
        obtain ⟨az, e1, e2⟩ := withSome_iff.1 hg'
        rcases e2 with ⟨rs, e2, e3⟩ | ⟨H, rs, e2, e3⟩
        · exact ⟨_, _, withSome_iff.2 ⟨az, e1, .inl ⟨rs, e2, rfl, rfl⟩⟩, e3⟩
        · exact ⟨_, _, withSome_iff.2 ⟨az, e1, .inr ⟨H, rs, e2, rfl, rfl⟩⟩, e3⟩
      | some p =>
        obtain ⟨o, g⟩ := p
        rw [hre] at hg'
        obtain ⟨az, e1, e2⟩ := withSome_iff.1 hg'
        obtain ⟨H, e3, e4⟩ := withSome_iff.1 e2
        rcases e4 with ⟨H', rs, e5, e6⟩ | ⟨H2, e0, e5, e6⟩
        · exact ⟨_, _, withSome_iff.2 ⟨az, e1, withSome_iff.2 ⟨H, e3, .inl ⟨H', rs, e5, rfl, rfl⟩⟩⟩, e6⟩
        · exact ⟨_, _, withSome_iff.2 ⟨az, e1, withSome_iff.2 ⟨H, e3, .inr ⟨H2, e0, e5, rfl, rfl⟩⟩⟩, e6⟩
    | ldg x =>
      rw [hc] at hg
      obtain ⟨v, hv, hk⟩ := withSome_iff.1 hg
      exact ⟨_, _, withSome_iff.2 ⟨v, hv, rfl, rfl⟩, hk⟩
    | _ =>
      rw [hc, PO.go_fn rfl] at hg
      obtain ⟨⟨v, ch⟩, e1, e2⟩ := withSome_iff.1 hg
      exact ⟨v, ch, by rw [PO.go_fn rfl]; exact withSome_iff.2 ⟨(v, ch), e1, rfl, rfl⟩, e2⟩
  unfold PI.go at h ⊢
  cases hg : i.guard with
  | none => rw [hg] at h; exact hop K h
  | some p =>
    obtain ⟨t, want⟩ := p
    rw [hg] at h
    obtain ⟨b, e1, e2, e3⟩ := withSome_iff.1 h
    by_cases hb : b = some want
    · obtain ⟨v, ch, e4, e5⟩ := hop K (e2 hb)
      exact ⟨v, ch, withSome_iff.2 ⟨b, e1, fun _ => e4, fun h => absurd hb h⟩, e5⟩
    · exact ⟨skp, .no, withSome_iff.2 ⟨b, e1, fun h => absurd h hb, fun _ => ⟨rfl, rfl⟩⟩, e3 hb⟩

theorem evalD_inv {env : Env} : ∀ (is : List PI) (s : St) (acc : List (List Rg × List Rg)) (K : St → List (List Rg × List Rg) → Prop), evalD env is s acc K →
    ∃ es : List En, es.map (·.i) = is ∧ (∀ (j : Nat) e, es[j]? = some e → e.i.go env ((es.take j).foldl St.en s) (fun v ch => v = e.v ∧ ch = e.ch) ∧ e.rd = e.i.rd ((es.take j).foldl St.en s)) ∧
      K (es.foldl St.en s) (acc.reverse ++ es.map fun e => (e.rd, e.ch.wrs))
  | [], s, acc, K, h => ⟨[], rfl, fun j e h => by simp at h, by simpa [evalD] using h⟩
  | i :: is, s, acc, K, h => by
    obtain ⟨v, ch, h1, h2⟩ := go_inv h
    obtain ⟨es, h3, h4, h5⟩ := evalD_inv is _ _ K h2
    refine ⟨⟨i, v, ch, i.rd s⟩ :: es, by simp [h3], fun j e he => ?_, ?_⟩
    · cases j with
      | zero => simp at he; subst he; exact ⟨h1, rfl⟩
      | succ j => exact h4 j e (by simpa using he)
    · have h6 := h5
      simp only [List.reverse_cons, List.append_assoc, List.singleton_append] at h6
      exact h6

/-! the order that the text lays down -/
def Closed (is : List PI) (L : Nat → Bool) : Prop := ∀ (k : Nat) i, is[k]? = some i → L k = true → ∀ e, e ∈ i.after → L e = true

theorem fold_bit (acc : List Nat) : ∀ (l : List Nat) (m x : Nat), (l.foldl (fun m e => m ||| (1 <<< e) ||| acc.getD e 0) m).testBit x = true → m.testBit x = true ∨ ∃ e, e ∈ l ∧ (x = e ∨ (acc.getD e 0).testBit x = true)
  | [], m, x, h => .inl h
  | e :: l, m, x, h => by
    rcases fold_bit acc l _ x h with h1 | ⟨e', h1, h2⟩
    · simp only [Nat.testBit_or, Bool.or_eq_true, Nat.one_shiftLeft, Nat.testBit_two_pow] at h1
      rcases h1 with (h1 | h1) | h1
      · exact .inl h1
      · exact .inr ⟨e, by simp, .inl (by simpa [eq_comm] using h1)⟩
      · exact .inr ⟨e, by simp, .inr h1⟩
    · exact .inr ⟨e', by simp [h1], h2⟩

theorem masks_ok (is : List PI) {L : Nat → Bool} (hL : Closed is L) : ∀ (r : List PI) (acc : List Nat), r = is.drop acc.length →
    (∀ (j : Nat) i x, is[j]? = some i → (acc.getD j 0).testBit x = true → (∀ e, e ∈ i.after → L e = true) → L x = true) →
    ∀ (j : Nat) i x, is[j]? = some i → ((masks acc r).getD j 0).testBit x = true → (∀ e, e ∈ i.after → L e = true) → L x = true
  | [], acc, _, h => h
  | p :: r, acc, hr, h => by
    simp only [masks]
    have hp : is[acc.length]? = some p := by
      have := congrArg (·[0]?) hr
      simpa using this.symm
    refine masks_ok is hL r _ (by
      have := congrArg List.tail hr
      simpa using this) (fun j i x hj hb ha => ?_)
    by_cases hlt : j < acc.length
    · refine h j i x hj ?_ ha
      rw [List.getD_eq_getElem?_getD, List.getElem?_append_left hlt] at hb
      rwa [List.getD_eq_getElem?_getD]
    · by_cases he : j = acc.length
      · subst he
        rw [hp] at hj
        cases hj
        rw [List.getD_eq_getElem?_getD, List.getElem?_append_right (Nat.le_refl _)] at hb
        simp only [Nat.sub_self, List.getElem?_cons_zero, Option.getD_some] at hb
        rcases fold_bit acc _ _ _ hb with h1 | ⟨e, h1, h2⟩
        · simp at h1
        · rcases h2 with rfl | h2
          · exact ha _ h1
          · cases hee : is[e]? with
            | none =>
              have : acc.getD e 0 = 0 := by
                rw [List.getD_eq_getElem?_getD]
                have h3 := List.getElem?_eq_none_iff.1 hee
                have h4 := (List.getElem?_eq_some_iff.1 hp).1
                rw [List.getElem?_eq_none (by omega)]
                rfl
              rw [this] at h2
              simp at h2
            | some i' => exact h e i' x hee h2 (hL e i' hee (ha e h1))
      · have hge : acc.length + 1 ≤ j := by omega
        rw [List.getD_eq_getElem?_getD, List.getElem?_eq_none (by simp; omega)] at hb
        simp at hb

/-- no edge points forward -/
def backOk (is : List PI) : Bool := is.zipIdx.all fun p => p.1.after.all fun e => decide (e < p.2)

theorem mem_after {P : Program} {n : Nat} {eqs : List (Nat × List Bool)} {ops : Array Oper} {o : Oper} {i : PI} (h : compI P n eqs ops o = some i) : i.after = o.after.toList.filterMap fun e => if Region.binds .any e = true then some e.on else none := by
  unfold compI at h
  split at h
  · split at h
    · split at h
      · cases h; rfl
      · split at h
        · cases h; rfl
        · cases h
    · cases h
  · cases h

section
variable {P : Program} {n : Nat} {w0 : World} {S0 : Nat → Nat}

theorem draw_sound [I : WInv] {env : Env} (hE : EnvOK P env) (hp : I.p w0) {eqs : List (Nat × List Bool)} (heq : ∀ p, p ∈ eqs → EqT P p.1 p.2) (hm : P.follows .mixedOrders = true) {ops : Array Oper} {is : List PI} (hc : ops.toList.map (compI P n eqs ops) = is.map some) {Q : Exit → Act → World → Prop} {K : St → Prop}
    (hK : ∀ s W a w, K s → Sim w0 S0 n W s a w → Q .normal a w) {W : Wit} {s : St} {a : Act} {w : World} (hs : Sim w0 S0 n W s a w) (hback : backOk is = true) (hev : evalD env is s [] fun s' fts => drawOk is fts = true ∧ K s') (id : Nat) : (Code.region id ops true).wp P Q a w := by
  obtain ⟨es, hes, hgo, hdraw, hfin⟩ := evalD_inv is s [] _ hev
  simp only [List.reverse_nil, List.nil_append] at hdraw
  have hlen : es.length = is.length := by rw [← hes]; simp
  have hlen2 : ops.size = is.length := by
    have := congrArg List.length hc; simpa using this
  have hei : ∀ (j : Nat) e, es[j]? = some e → is[j]? = some e.i := fun j e h => by rw [← hes, List.getElem?_map, h]; rfl
  have hoi : ∀ (j : Nat) i, is[j]? = some i → ∃ o, ops[j]? = some o ∧ compI P n eqs ops o = some i := fun j i h => by
    have h1 := congrArg (·[j]?) hc
    simp only [List.getElem?_map, h, Option.map_some] at h1
    cases ho : ops[j]? with
    | none => rw [Array.getElem?_toList, ho] at h1; simp at h1
    | some o => rw [Array.getElem?_toList, ho] at h1; simp at h1; exact ⟨o, rfl, h1⟩
  -- what is not ordered is apart
  have hind : ∀ (i j : Nat) e f, i < j → es[i]? = some e → es[j]? = some f → ((masks [] is).getD j 0).testBit i = false → IndE e f := fun i j e f hij he hf hb => by
    unfold drawOk at hdraw
    have h1 := List.all_eq_true.1 hdraw j (List.mem_range.2 (by rw [← hlen]; exact (List.getElem?_eq_some_iff.1 hf).1))
    have h2 := List.all_eq_true.1 h1 i (List.mem_range.2 hij)
    rw [hb, Bool.false_or, hei i e he, hei j f hf, List.getElem?_map, List.getElem?_map, he, hf] at h2
    simp only [Option.map_some, Bool.and_eq_true] at h2
    exact h2
  refine wp_region_any hm ?_
  have main : ∀ (fuel : Nat) (listed : Array Bool) (R : List Nat) (W : Wit) (a : Act) (w : World), listed.size = ops.size → Closed is (fun k => listed.getD k false) → R.length = fuel → (∀ j, j < ops.size → listed.getD j false = false → j ∈ R) →
      Sim w0 S0 n W (stF es 0 (fun k => listed.getD k false) s) a w → wpAny P .any ops Q fuel listed a w := by
    intro fuel
    -- if nothing is left, all is done
    have done : ∀ (listed : Array Bool) (W : Wit) (a : Act) (w : World), (∀ j, j < ops.size → listed.getD j false = true) → Sim w0 S0 n W (stF es 0 (fun k => listed.getD k false) s) a w → Q .normal a w := fun listed W a w hall hsim => by
      refine hK _ W a w hfin ?_
      have h1 : stF es 0 (fun k => listed.getD k false) s = stF es 0 (fun k => decide (k < es.length)) s := by
        have : ∀ (r : List En) (k : Nat) (s : St), k + r.length ≤ es.length → stF r k (fun k => listed.getD k false) s = stF r k (fun k => decide (k < es.length)) s := by
          intro r
          induction r with
          | nil => intro k s _; rfl
          | cons e r ih =>
            intro k s hk
            simp only [List.length_cons] at hk
            show stF r (k + 1) _ (cond (listed.getD k false) (s.en e) s) = stF r (k + 1) _ (cond (decide (k < es.length)) (s.en e) s)
            rw [hall k (by omega), decide_eq_true (show k < es.length by omega)]
            exact ih (k + 1) _ (by omega)
        exact this es 0 s (by omega)
      rw [h1, stF_all] at hsim
      simpa using hsim
    have stuck : ∀ (listed : Array Bool), listed.size = ops.size → Region.ready .any ops listed = [] → ∀ j, j < ops.size → listed.getD j false = true := fun listed hsz hr => by
      intro j
      induction j using Nat.strongRecOn with
      | _ j ih =>
        intro hj
        cases hb : listed.getD j false with
        | true => rfl
        | false =>
          exfalso
          have : j ∈ Region.ready .any ops listed := by
            rw [mem_ready]
            obtain ⟨o, ho, hco⟩ := hoi j _ (List.getElem?_eq_getElem (by omega))
            refine ⟨by rw [Array.getD_eq_getD_getElem?] at hb ⊢; rw [Array.getElem?_eq_getElem (by omega)] at hb ⊢; simpa using hb, o, ho, fun e he hbind => ?_⟩
            have hmem : e.on ∈ is[j].after := by
              rw [mem_after hco]
              exact List.mem_filterMap.2 ⟨e, by simpa using he, by rw [if_pos hbind]⟩
            have hlt : e.on < j := by
              unfold backOk at hback
              have h1 := List.all_eq_true.1 hback (is[j], j) (by
                rw [List.mk_mem_zipIdx_iff_getElem?]
                exact List.getElem?_eq_getElem (by omega))
              simpa using List.all_eq_true.1 h1 _ hmem
            exact ih e.on hlt (by omega)
          rw [hr] at this
          cases this
    induction fuel with
    | zero =>
      intro listed R W a w hsz _ hR hall hsim
      have hR0 : R = [] := List.eq_nil_of_length_eq_zero hR
      subst hR0
      have hall' : ∀ j, j < ops.size → listed.getD j false = true := fun j hj => by
        cases hb : listed.getD j false with
        | true => rfl
        | false => exact absurd (hall j hj hb) (by simp)
      refine ⟨?_, done listed W a w hall' hsim⟩
      apply List.eq_nil_iff_forall_not_mem.2
      intro j hj
      obtain ⟨h1, o, ho, _⟩ := mem_ready.1 hj
      have hlt := (Array.getElem?_eq_some_iff.1 ho).1
      have h2 := hall' j hlt
      rw [Array.getD_eq_getD_getElem?, Array.getElem?_eq_getElem (by omega)] at h1 h2
      simp at h1 h2
      rw [h1] at h2
      cases h2
    | succ fuel ih =>
      intro listed R W a w hsz hcl hR hall hsim
      refine ⟨fun hr => done listed W a w (stuck listed hsz hr) hsim, fun j hj => ?_⟩
      obtain ⟨h1, o, ho, hpre⟩ := mem_ready.1 hj
      have hlt := (Array.getElem?_eq_some_iff.1 ho).1
      have hLj : listed.getD j false = false := by
        rw [Array.getD_eq_getD_getElem?, Array.getElem?_eq_getElem (by omega)] at h1 ⊢
        simpa using h1
      obtain ⟨e, he⟩ : ∃ e, es[j]? = some e := ⟨_, List.getElem?_eq_getElem (by omega)⟩
      have hij := hei j e he
      obtain ⟨o', ho', hco⟩ := hoi j _ hij
      rw [ho] at ho'
      cases ho'
      have hafter : ∀ x, x ∈ e.i.after → listed.getD x false = true := fun x hx => by
        rw [mem_after hco] at hx
        obtain ⟨ed, h2, h3⟩ := List.mem_filterMap.1 hx
        split at h3
        · rename_i hb
          cases h3
          exact hpre ed (by simpa using h2) hb
        · cases h3
      -- what the other entries do to this one
      have happart : ∀ (i : Nat) f, es[i]? = some f → i ≠ j → listed.getD i false ≠ decide (i < j) → IndE f e := fun i f hf hne hL => by
        rcases Nat.lt_or_ge i j with hij2 | hij2
        · rw [decide_eq_true hij2] at hL
          cases hb : ((masks [] is).getD j 0).testBit i with
          | false => exact hind i j f e hij2 hf he hb
          | true =>
            exfalso
            have := masks_ok is hcl is [] rfl (fun j i x _ h => by simp at h) j e.i i hij hb hafter
            exact hL this
        · have hgt : j < i := by omega
          rw [decide_eq_false (by omega)] at hL
          have hLi : listed.getD i false = true := by
            cases h : listed.getD i false with
            | true => rfl
            | false => exact absurd h hL
          cases hb : ((masks [] is).getD i 0).testBit j with
          | false => exact (hind j i e f hgt he hf hb).symm
          | true =>
            exfalso
            have := masks_ok is hcl is [] rfl (fun j i x _ h => by simp at h) i f.i j (hei i f hf) hb (hcl i f.i (hei i f hf) hLi)
            rw [hLj] at this
            cases this
      obtain ⟨hg, hrd⟩ := hgo j e he
      have hagree : Agree e.i.looks e.rd ((es.take j).foldl St.en s) (stF es 0 (fun k => listed.getD k false) s) := by
        have h2 := stF_all es 0 j s
        simp only [Nat.sub_zero] at h2
        rw [← h2]
        refine stF_agree es 0 _ _ s s (Agree.refl _ _ _) (fun i f _ hf => ?_)
        rw [Nat.sub_zero] at hf
        by_cases hij2 : i = j
        · subst hij2
          exact .inl (by rw [hLj]; simp)
        · by_cases hL : decide (i < j) = listed.getD i false
          · exact .inl hL
          · exact .inr (happart i f hf hij2 (fun h => hL h.symm))
      rw [hrd] at hagree
      refine pi_wpOp hE hp heq ho hco hsim (go_agree hagree hg) (fun v ch W' a' w' hv hsim' => ?_)
      obtain ⟨rfl, rfl⟩ := hv
      have hset := stF_set es 0 (fun k => listed.getD k false) j e s (Nat.zero_le _) (by rw [Nat.sub_zero]; exact he) hLj (fun i f hij2 hf hL => by
        rw [Nat.sub_zero] at hf
        exact (happart i f hf (by omega) (by rw [hL, decide_eq_false (by omega)]; decide)).symm)
      have hfl : (fun k => (listed.setIfInBounds j true).getD k false) = fun i => if i = j then true else listed.getD i false := by
        funext i
        rw [Array.getD_eq_getD_getElem?, Array.getElem?_setIfInBounds]
        by_cases hi : j = i
        · subst hi
          simp [hsz, hlt]
        · rw [if_neg hi, if_neg (Ne.symm hi), Array.getD_eq_getD_getElem?]
      refine ih (listed.setIfInBounds j true) (R.erase j) W' a' w' (by simpa using hsz) ?_ ?_ ?_ ?_
      · intro k i hk hL x hx
        rw [hfl] at hL ⊢
        dsimp only at hL ⊢
        split
        · rfl
        · split at hL
          · rename_i hkj
            subst hkj
            rw [hij] at hk
            cases hk
            exact hafter x hx
          · exact hcl k i hk hL x hx
      · rw [List.length_erase_of_mem (hall j hlt hLj), hR]
        rfl
      · intro i hi hL
        have hne : i ≠ j := by
          rintro rfl
          have := congrFun hfl i
          rw [this, if_pos rfl] at hL
          cases hL
        have := congrFun hfl i
        rw [this, if_neg hne] at hL
        exact (List.mem_erase_of_ne hne).2 (hall i hi hL)
      · rw [hfl, hset]
        exact hsim'
  have hfl0 : (fun k => (Array.replicate ops.size false).getD k false) = fun _ => false := by
    funext k
    rw [Array.getD_eq_getD_getElem?, Array.getElem?_replicate]
    split <;> rfl
  have hst0 : ∀ (r : List En) (k : Nat) (s : St), stF r k (fun _ => false) s = s := by
    intro r
    induction r with
    | nil => intro k s; rfl
    | cons e r ih => intro k s; exact ih (k + 1) s
  refine main ops.size _ (List.range ops.size) W a _ (by simp) ?_ (by simp) (fun j hj _ => List.mem_range.2 hj) ?_
  · intro k i _ hL
    rw [hfl0] at hL
    cases hL
  · rw [hfl0, hst0]
    exact hs.drew _
end
end Go.Proofs.YthnjbnfnljjepabDoor
end
section
set_option linter.unusedSimpArgs false
set_option linter.unusedVariables false
namespace Go.Proofs.YthnjbnfnljjepabDoor
open Go Go.RowKit

theorem exists_least (p : Nat → Prop) (h : ∃ n, p n) : ∃ n, p n ∧ ∀ m, p m → n ≤ m := by
  obtain ⟨n, hn⟩ := h
  induction n using Nat.strongRecOn with
  | _ n ih =>
    by_cases hm : ∃ m, m < n ∧ p m
    · obtain ⟨m, hlt, hp⟩ := hm
      exact ih m hlt hp
    · exact ⟨n, hn, fun m hp => by
        rcases Nat.lt_or_ge m n with h | h
        · exact absurd ⟨m, h, hp⟩ hm
        · exact h⟩

/-- a loop by an index that every round lowers -/
theorem wp_loop_ix {P : Program} {Q : Exit → Act → World → Prop} {a : Act} {w : World} {c : Code} (I : Nat → Act → World → Prop) (h0 : ∃ n, I n a w)
    (round : ∀ n a w, I n a w → c.wp P (Exit.then (fun a' w' => ∃ m, m < n ∧ I m a' w') Q) a w) : (Code.loop c).wp P Q a w := by
  classical
  let μ : Act → World → Nat := fun a w => if h : ∃ n, I n a w then Classical.choose (exists_least _ h) else 0
  have hμ : ∀ a w (h : ∃ n, I n a w), I (μ a w) a w ∧ ∀ m, I m a w → μ a w ≤ m := fun a w h => by
    have h1 : μ a w = Classical.choose (exists_least _ h) := dif_pos h
    rw [h1]
    exact Classical.choose_spec (exists_least _ h)
  refine wp_loop (fun a w => ∃ n, I n a w) μ h0 (fun a w h => ?_)
  refine wp_mono (round _ a w (hμ a w h).1) (fun e a' w' he => ?_)
  cases e with
  | normal =>
    obtain ⟨m, hlt, hm⟩ := he
    exact ⟨⟨m, hm⟩, Nat.lt_of_le_of_lt ((hμ a' w' ⟨m, hm⟩).2 m hm) hlt⟩
  | _ => exact he

section
variable {P : Program} {n : Nat} {w0 : World} {S0 : Nat → Nat}

/-- no edge of the code points forward in a region that draws -/
def backs : PC → Bool
  | .reg true ops => backOk ops
  | .seq a b => backs a && backs b
  | .cond _ a b => backs a && backs b
  | .block _ c => backs c
  | .loop c => backs c
  | _ => true

theorem code_sound [I : WInv] {env : Env} (hE : EnvOK P env) (hp : I.p w0) {eqs : List (Nat × List Bool)} (heq : ∀ p, p ∈ eqs → EqT P p.1 p.2) (hm : P.follows .mixedOrders = true) : ∀ (c : Code) (pc : PC), compC P n eqs c = some pc → backs pc = true →
    ∀ (Q : Exit → St → Prop) (W : Wit) (s : St) (a : Act) (w : World), pwp env pc Q s → Sim w0 S0 n W s a w → c.wp P (fun e a' w' => ∃ W' s', Sim w0 S0 n W' s' a' w' ∧ Q e s') a w := by
  intro c
  induction c with
  | skip => intro pc hc _ Q W s a w h hs; simp [compC] at hc; subst hc; exact wp_skip ⟨W, s, hs, h⟩
  | region id ops draw =>
    intro pc hc hb Q W s a w h hs
    simp only [compC, Option.map_eq_some_iff] at hc
    obtain ⟨is, his, rfl⟩ := hc
    have hmap := allSome_get _ _ his
    cases draw with
    | false =>
      refine wp_region ?_
      have hlen : is.length = ops.size := by have := congrArg List.length hmap; simp at this; omega
      have := pi_ops hE hp heq (ops := ops) (Q := fun e a' w' => ∃ W' s', Sim w0 S0 n W' s' a' w' ∧ Q e s') (K := Q .normal) (fun s W a w h1 h2 => ⟨W, s, h2, h1⟩) is 0 W s a w (by simpa using hmap) hs h
      rw [hlen] at this
      rw [List.range_eq_range']
      exact this
    | true => exact draw_sound hE hp heq hm hmap (fun s W a w h1 h2 => ⟨W, s, h2, h1⟩) hs hb h id
  | seq x y ihx ihy =>
    intro pc hc hb Q W s a w h hs
    simp only [compC] at hc
    split at hc
    · rename_i px py hx hy
      cases hc
      simp only [backs, Bool.and_eq_true] at hb
      refine wp_seq (wp_mono (ihx px hx hb.1 _ W s a w h hs) (fun e a' w' he => ?_))
      obtain ⟨W', s', hs', hq⟩ := he
      cases e with
      | normal => exact ihy py hy hb.2 Q W' s' a' w' hq hs'
      | _ => exact ⟨W', s', hs', hq⟩
    · cases hc
  | cond co x y ihx ihy =>
    intro pc hc hb Q W s a w h hs
    simp only [compC] at hc
    split at hc
    · rename_i pcn px py hcn hx hy
      cases hc
      simp only [backs, Bool.and_eq_true] at hb
      obtain ⟨t, ht, h1, h2⟩ := withSome_iff.1 h
      exact wp_cond_split (boo_ev hs hcn ht) (fun he => ihx px hx hb.1 Q W s a w (h1 he) hs) (fun he => ihy py hy hb.2 Q W s a w (h2 he) hs)
    · cases hc
  | block id x ih =>
    intro pc hc hb Q W s a w h hs
    simp only [compC, Option.map_eq_some_iff] at hc
    obtain ⟨px, hx, rfl⟩ := hc
    refine wp_block (wp_mono (ih px hx hb _ W s a w h hs) (fun e a' w' he => ?_))
    obtain ⟨W', s', hs', hq⟩ := he
    cases e with
    | exit i =>
      by_cases hi : i = id
      · simp only [hi, if_true] at hq
        simp only [Exit.inBlock, hi, if_true]
        exact ⟨W', s', hs', hq⟩
      · simp only [hi, if_false] at hq
        simp only [Exit.inBlock, hi, if_false]
        exact ⟨W', s', hs', hq⟩
    | _ => exact ⟨W', s', hs', hq⟩
  | loop x ih =>
    intro pc hc hb Q W s a w h hs
    simp only [compC, Option.map_eq_some_iff] at hc
    obtain ⟨px, hx, rfl⟩ := hc
    obtain ⟨I, ⟨k, hk⟩, hr⟩ := h
    refine wp_loop_ix (fun k a w => ∃ W s, Sim w0 S0 n W s a w ∧ I k s) ⟨k, W, s, hs, hk⟩ (fun k a w h => ?_)
    obtain ⟨W, s, hs, hI⟩ := h
    refine wp_mono (ih px hx hb _ W s a w (hr k s hI) hs) (fun e a' w' he => ?_)
    obtain ⟨W', s', hs', hq⟩ := he
    cases e with
    | normal =>
      obtain ⟨m, hlt, hm⟩ := hq
      exact ⟨m, hlt, W', s', hs', hm⟩
    | _ => exact ⟨W', s', hs', hq⟩
  | exit id => intro pc hc _ Q W s a w h hs; simp [compC] at hc; subst hc; exact wp_exit ⟨W, s, hs, h⟩
  | ret => intro pc hc _ Q W s a w h hs; simp [compC] at hc; subst hc; exact wp_ret ⟨W, s, hs, h⟩
  | rangeFunc => intro pc hc; simp [compC] at hc
  | scope => intro pc hc; simp [compC] at hc
  | label => intro pc hc; simp [compC] at hc
  | goto => intro pc hc; simp [compC] at hc
  | refuse => intro pc hc; simp [compC] at hc
end

/-! ### functions -/
inductive PR where
  | t (x : Nat)
  | c (x : Nat) (k : Option Nat)
def compR (P : Program) : ResultVar → Option PR
  | .tmp t => some (.t t)
  | .cell a t => (szT P t).map (.c a)
def St.res1 (s : St) : PR → Option Pa
  | .t x => match s.sl x with
    | .b (.one (.sv o g off ln _ sz)) => if s.gen o = g then (match s.ob o with
      | .cells cs => if off + ln * sz ≤ cs.length then (allSome (((cs.drop off).take (ln * sz)).map Cl.dt)).map fun xs => .one (.im (chunks ln sz xs)) else none
      | _ => none) else none
    | v => v.pa
  | .c x k => match s.sl x with
    | .b (.one (.ptr o g off)) => if s.gen o = g then (match s.ob o with | .cells cs => (mkAv k cs off).bind Av.pa | _ => none) else none
    | _ => none
def St.res (s : St) (rs : List PR) : Option (List Pa) := allSome (rs.map s.res1)
def St.init (az : List Pa) : St := ⟨fun x => match az[x]? with | some p => .b p.bv | none => .un, fun _ => 0, fun _ => .no⟩

def rvSem (tmps : Array Value) : ResultVar → Sem Value
  | .tmp t => pure (tmps.getD t undef)
  | .cell a t => do loadVar t (← asAddr (tmps.getD a undef))

/-- at the end of a call all that was made is settled, but the objects of other makers -/
def inAb (W : Wit) (s : St) (b : Nat) : Prop := ∃ o H, s.ob o = .ab H ∧ W.fp o b
open Classical in
noncomputable def frz (w0 : World) (W : Wit) (s : St) (w : World) : Nat → Nat := fun b => if b < w0.heap.size then W.S b else if inAb W s b then 0 else W.S b + (match w.heap[b]? with | some (.cells arr _ _) => arr.size | _ => 0)
theorem frz_ext {n : Nat} {S0 : Nat → Nat} {a : Act} {w0 : World} {W : Wit} {s : St} {w : World} (hs : Sim w0 S0 n W s a w) : Ext W.S (frz w0 W s w) w w := fun b i h1 _ => by
  refine ⟨?_, rfl⟩
  unfold frz
  split
  · exact h1
  · split
    · rename_i hab
      obtain ⟨o, H, ho, hf⟩ := hab
      have := hs.ob o
      rw [ho] at this
      rw [(this.2 b hf).2] at h1
      omega
    · omega
theorem RP.ext {S S' : Nat → Nat} {w w' : World} (h : Ext S S' w w') {p : Pa} {v : Value} (hp : RP S w p v) : RP S' w' p v := by
  cases p with
  | one x => exact RD.ext h hp
  | agg xs => obtain ⟨arr, h1, h2, h3⟩ := hp; exact ⟨arr, h1, h2, fun i x u e1 e2 => RD.ext h (h3 i x u e1 e2)⟩
theorem chunks_length {α : Type} (n sz : Nat) (xs : List α) : (chunks n sz xs).length = n := by rw [chunks_eq]; simp
theorem chunks_get {α : Type} {n sz i : Nat} {xs : List α} {r : List α} (h : (chunks n sz xs)[i]? = some r) : i < n ∧ r = (xs.drop (i * sz)).take sz := by
  have hi := (List.getElem?_eq_some_iff.1 h).1
  rw [chunks_length] at hi
  rw [chunks_eq, List.getElem?_map, List.getElem?_range hi] at h
  simp only [Option.map_some, Option.some.injEq] at h
  exact ⟨hi, h.symm⟩

theorem run_res1 {P : Program} {n : Nat} {w0 : World} {S0 : Nat → Nat} {W : Wit} {s : St} {a : Act} {w : World} (hs : Sim w0 S0 n W s a w) {rv : ResultVar} {r : PR} {p : Pa} (hr : compR P rv = some r) (hp : s.res1 r = some p) :
    ∃ v, (rvSem a.tmps rv).run P w = .ok v w ∧ RP (frz w0 W s w) w p v := by
  cases rv with
  | tmp t =>
    cases hr
    refine ⟨_, rfl, ?_⟩
    simp only [St.res1] at hp
    split at hp
    · rename_i o g off ln cap sz hsl
      split at hp
      · rename_i hg
        split at hp
        · rename_i cs hob
          split at hp
          · rename_i hle
            simp only [Option.map_eq_some_iff] at hp
            obtain ⟨xs, hxs, rfl⟩ := hp
            have h1 := hs.sl t
            rw [hsl] at h1
            obtain ⟨b, hv, hlc, hcm, _, hb⟩ := h1
            have hb := hb hg.symm
            subst hb
            have hro := hs.ob o
            rw [hob] at hro
            obtain ⟨arr, T, h4, h5, h6, h7⟩ := hro
            have hall := allSome_get _ _ hxs
            have hxl : xs.length = ln * sz := by
              have := congrArg List.length hall
              simp at this
              omega
            rw [hv]
            have hrl := chunks_length ln sz xs
            show RD (frz w0 W s w) w (.im (chunks ln sz xs)) _
            have := RD.block (S := frz w0 W s w) (w := w) (rows := chunks ln sz xs) (b := W.blk o) (o := off) (cap := cap) (sz := sz) (vs := (arr.toList.drop off).take (ln * sz)) (fun r hr => ?_) ?_ (fun j u hj => ?_) (by rw [hrl]; exact hlc) hcm (fun i r j x hr hx => ?_)
            · rw [hrl] at this; exact this
            · obtain ⟨i, hi⟩ := List.getElem?_of_mem hr
              obtain ⟨h8, rfl⟩ := chunks_get hi
              rw [List.length_take, List.length_drop, hxl]
              have : (i + 1) * sz ≤ ln * sz := Nat.mul_le_mul_right _ h8
              rw [Nat.add_mul, Nat.one_mul] at this
              omega
            · rw [hrl, List.length_take, List.length_drop, ← h7.1]
              omega
            · rw [List.getElem?_take] at hj
              split at hj
              · rw [List.getElem?_drop] at hj
                have hlt := (List.getElem?_eq_some_iff.1 hj).1
                refine ⟨?_, ?_⟩
                · simp only [World.cell?, h4]
                  simpa using hj
                · unfold frz
                  rw [if_neg (by omega), if_neg (fun hab => by
                    obtain ⟨o2, H, ho2, hf⟩ := hab
                    have he := hs.ex o o2 (W.blk o) (by rw [hob]; rfl) (by rw [ho2]; exact hf)
                    subst he
                    rw [hob] at ho2
                    cases ho2), h4]
                  simp at hlt ⊢
                  omega
              · cases hj
            · obtain ⟨h8, rfl⟩ := chunks_get hr
              rw [List.getElem?_take] at hx
              split at hx
              · rename_i hj
                rw [List.getElem?_drop] at hx
                have h9 : (((cs.drop off).take (ln * sz)).map Cl.dt)[i * sz + j]? = some (some x) := by rw [hall, List.getElem?_map, hx]; rfl
                rw [List.getElem?_map, Option.map_eq_some_iff] at h9
                obtain ⟨c, hc, hcd⟩ := h9
                have hlt : i * sz + j < ln * sz := by
                  have : (i + 1) * sz ≤ ln * sz := Nat.mul_le_mul_right _ h8
                  rw [Nat.add_mul, Nat.one_mul] at this
                  omega
                rw [List.getElem?_take, if_pos hlt, List.getElem?_drop] at hc
                obtain ⟨u, hu⟩ : ∃ u, arr.toList[off + (i * sz + j)]? = some u := ⟨_, List.getElem?_eq_getElem (by have := (List.getElem?_eq_some_iff.1 hc).1; rw [← h7.1]; exact this)⟩
                refine ⟨u, by rw [List.getElem?_take, if_pos hlt, List.getElem?_drop]; exact hu, RD.ext (frz_ext hs) (RC.dt (h7.2 _ _ _ hc hu) hcd)⟩
              · cases hx
          · cases hp
        · cases hp
      · cases hp
    · exact RP.ext (frz_ext hs) (RA.pa (hs.sl t) hp)
  | cell c t =>
    simp only [compR, Option.map_eq_some_iff] at hr
    obtain ⟨k, hk, rfl⟩ := hr
    obtain ⟨d, i, hu, hi, hkk⟩ := szT_inv hk
    simp only [St.res1] at hp
    split at hp
    · rename_i o g off hsl
      split at hp
      · rename_i hg
        split at hp
        · rename_i cs hob
          simp only [Option.bind_eq_some_iff] at hp
          obtain ⟨v, hv, hp⟩ := hp
          have h1 := hs.sl c
          rw [hsl] at h1
          have h2 := h1.2.2 hg.symm
          have hro := hs.ob o
          rw [hob] at hro
          obtain ⟨arr, T, h4, h5, h6, h7⟩ := hro
          have hcell : ∀ (j : Nat) u, arr.toList[j]? = some u → w.cell? ⟨W.blk o, j, none⟩ = some u := fun j u hj => by
            simp only [World.cell?, h4]
            simpa using hj
          have hag := run_isAgg (P := P) hu w
          unfold rvSem
          dsimp only
          rw [h2]
          rcases mkAv_cells h7 hv with ⟨rfl, c', u, e1, e2, rfl, e3⟩ | ⟨m, rfl, e1, rfl, e2⟩
          · have hf : aggT d = false := by cases h : aggT d <;> simp [h] at hkk ⊢
            rw [hf] at hag
            refine ⟨u, ?_, RP.ext (frz_ext hs) (RA.pa (G := s.gen) (O := s.ob) (v := .b (.one c')) e3 hp)⟩
            simp [asAddr, loadVar, hag, hcell off u e2]
          · have ht : aggT d = true := by cases h : aggT d <;> simp [h] at hkk ⊢
            rw [ht] at hag hkk
            simp at hkk
            subst hkk
            have hlen : ((arr.toList.drop off).take i.size).length = i.size := by simp at e1 ⊢; omega
            have hl := run_loadCells_list (P := P) w ⟨W.blk o, off, none⟩ ((arr.toList.drop off).take i.size) (fun j u hj => by
              rw [addr_add]
              rw [List.getElem?_take] at hj
              split at hj
              · rw [List.getElem?_drop] at hj
                exact hcell _ _ hj
              · cases hj)
            rw [hlen] at hl
            refine ⟨.agg ((arr.toList.drop off).take i.size).toArray, ?_, RP.ext (frz_ext hs) (RA.pa (G := s.gen) (O := s.ob) (v := .b (.agg ((cs.drop off).take i.size))) ⟨_, rfl, by simpa using e2⟩ hp)⟩
            simp only [asAddr, Sem.run_bind, Sem.run_pure, Result.andThen_ok, loadVar, hag, if_true, sizeOf, typeInfo, run_program, hi, hl]
        · cases hp
      · cases hp
    · cases hp

theorem run_results {P : Program} {n : Nat} {w0 : World} {S0 : Nat → Nat} {W : Wit} {s : St} {a : Act} {w : World} (hs : Sim w0 S0 n W s a w) : ∀ (rvs : List ResultVar) (prs : List PR) (ps : List Pa), allSome (rvs.map (compR P)) = some prs → s.res prs = some ps →
    ∃ vs : List Value, (rvs.mapM (rvSem a.tmps)).run P w = .ok vs w ∧ ps.length = vs.length ∧ ∀ (i : Nat) p u, ps[i]? = some p → vs[i]? = some u → RP (frz w0 W s w) w p u
  | [], prs, ps, h1, h2 => by
    simp [allSome] at h1; subst h1
    simp [St.res, allSome] at h2; subst h2
    exact ⟨[], by simp, rfl, fun i p u h => by simp at h⟩
  | rv :: rvs, prs, ps, h1, h2 => by
    simp only [List.map_cons] at h1
    cases hr : compR P rv with
    | none => rw [hr] at h1; simp [allSome] at h1
    | some r =>
      rw [hr] at h1
      simp only [allSome, Option.map_eq_some_iff] at h1
      obtain ⟨prs', hp, rfl⟩ := h1
      simp only [St.res, List.map_cons] at h2
      cases hr1 : s.res1 r with
      | none => rw [hr1] at h2; simp [allSome] at h2
      | some p =>
        rw [hr1] at h2
        simp only [allSome, Option.map_eq_some_iff] at h2
        obtain ⟨ps', hps, rfl⟩ := h2
        obtain ⟨v, h3, h4⟩ := run_res1 hs hr hr1
        obtain ⟨vs, h5, h6, h7⟩ := run_results hs rvs prs' ps' hp hps
        refine ⟨v :: vs, ?_, by simp [h6], fun i q u e1 e2 => ?_⟩
        · rw [List.mapM_cons, Sem.run_bind, h3, Result.andThen_ok, Sem.run_bind, h5]
          rfl
        · cases i with
          | zero => simp at e1 e2; subst e1; subst e2; exact h4
          | succ i => exact h7 i q u (by simpa using e1) (by simpa using e2)

theorem fn_sound [I : WInv] {P : Program} {env : Env} (hE : EnvOK P env) {eqs : List (Nat × List Bool)} (heq : ∀ p, p ∈ eqs → EqT P p.1 p.2) (hm : P.follows .mixedOrders = true) {f : Nat} {fn : Func} {c : Code} {pc : PC} {prs : List PR} (hf : P.funcs[f]? = some fn) (hb : fn.body = some c)
    (hc : compC P fn.ntmps eqs c = some pc) (hback : backs pc = true) (hr : allSome (fn.results.toList.map (compR P)) = some prs) {R : List Pa → List Pa → Prop}
    (hR : ∀ az rs, R az rs → az.length ≤ fn.ntmps ∧ pwp env pc (fun e s => (e = .normal ∨ e = .ret) ∧ s.res prs = some rs) (St.init az)) : Spec P f R := by
  intro az rs has S w vals hwi hvals
  obtain ⟨hlen, hw⟩ := hR az rs has
  refine calls_of_wp hf hb ?_
  have hinit : Sim w S fn.ntmps ⟨fun _ => 0, fun _ => undef, fun _ => undef, fun _ _ => False, S⟩ (St.init az) { tmps := vals ++ Array.replicate (fn.ntmps - vals.size) undef, defers := [] } w := by
    refine ⟨Below.refl _ _, fun _ _ => rfl, ?_, rfl, fun x => ?_, fun _ => trivial, fun o o' b h => h.elim⟩
    · have := hvals.1
      simp; omega
    · show RA _ _ _ _ (match az[x]? with | some p => .b p.bv | none => .un) _
      cases hx : az[x]? with
      | none => trivial
      | some p =>
        have hlt : x < vals.size := by rw [← hvals.1]; exact (List.getElem?_eq_some_iff.1 hx).1
        have : (vals ++ Array.replicate (fn.ntmps - vals.size) undef).getD x undef = vals[x] := by
          rw [Array.getD_eq_getD_getElem?, Array.getElem?_append_left hlt, Array.getElem?_eq_getElem hlt]
          rfl
        rw [this]
        exact RP.av (W := ⟨fun _ => 0, fun _ => undef, fun _ => undef, fun _ _ => False, S⟩) (hvals.2 x p _ hx (Array.getElem?_eq_getElem hlt))
  refine wp_mono (code_sound hE hwi heq hm c pc hc hback _ _ _ _ _ hw hinit) (fun e a' w' he => ?_)
  obtain ⟨W', s', hs', hret, hres⟩ := he
  have hfin : bodyPost P fn (fun e w' => ∃ v S', e = .returned v ∧ RR S' w' rs v ∧ Below w.heap.size w w' ∧ ∀ b, b < w.heap.size → S' b = S b) .ret a' w' := by
    refine ⟨hs'.dfs, ?_⟩
    obtain ⟨vs, h1, h2, h3⟩ := run_results (P := P) hs' fn.results.toList prs rs hr hres
    have h4 : (results fn a'.tmps).run P w' = .ok (if h : vs.length = 1 then vs[0] else .tuple vs.toArray) w' := by
      have h5 : results fn a'.tmps = (fn.results.mapM (rvSem a'.tmps)) >>= fun vs => pure (if h : vs.size = 1 then vs[0] else .tuple vs) := by
        unfold results
        congr 1
      have h6 : fn.results = fn.results.toList.toArray := by simp
      rw [h5, h6, List.mapM_toArray, Sem.run_bind, Sem.run_map, h1]
      simp
    refine ⟨_, h4, _, frz w W' s' w', rfl, ?_, hs'.below, fun b hb => by unfold frz; rw [if_pos hb]; exact hs'.s0 b hb⟩
    match rs, vs, h2, h3 with
    | [], _, _, _ => trivial
    | [p], [v], _, h3 => exact h3 0 p v rfl rfl
    | p :: q :: r, vs, h2, h3 =>
      have hne : ¬ vs.length = 1 := by rw [← h2]; simp
      rw [dif_neg hne]
      exact ⟨vs.toArray, rfl, by simpa using h2, fun i p u e1 e2 => h3 i p u e1 (by simpa using e2)⟩
  rcases hret with rfl | rfl
  · exact hfin
  · exact hfin

/-- the same for a function that hands back an object of another maker, and data -/
theorem fn_sound_new [I : WInv] {P : Program} {env : Env} (hE : EnvOK P env) {eqs : List (Nat × List Bool)} (heq : ∀ p, p ∈ eqs → EqT P p.1 p.2) (hm : P.follows .mixedOrders = true) {f : Nat} {fn : Func} {c : Code} {pc : PC} {t0 : Nat} {rv0 : ResultVar} {rvs : List ResultVar} {prs : List PR} (hf : P.funcs[f]? = some fn) (hb : fn.body = some c)
    (hc : compC P fn.ntmps eqs c = some pc) (hback : backs pc = true) (hrv : fn.results.toList = rv0 :: rvs) (hr0 : compR P rv0 = some (.t t0)) (hr : allSome (rvs.map (compR P)) = some prs) {R : List Pa → HP → List Pa → Prop}
    (hR : ∀ az H rs, R az H rs → az.length ≤ fn.ntmps ∧ pwp env pc (fun e s => (e = .normal ∨ e = .ret) ∧ (∃ o, s.sl t0 = .b (.one (.ab o (s.gen o))) ∧ s.ob o = .ab H) ∧ s.res prs = some rs) (St.init az)) : SpecA P f (fun Ho az H rs => Ho = none ∧ R az H rs) := by
  rintro Ho az H rs ⟨rfl, has⟩ S w vals hwi hvals
  obtain ⟨hlen, hw⟩ := hR az H rs has
  refine calls_of_wp hf hb ?_
  have hinit : Sim w S fn.ntmps ⟨fun _ => 0, fun _ => undef, fun _ => undef, fun _ _ => False, S⟩ (St.init az) { tmps := vals ++ Array.replicate (fn.ntmps - vals.size) undef, defers := [] } w := by
    refine ⟨Below.refl _ _, fun _ _ => rfl, ?_, rfl, fun x => ?_, fun _ => trivial, fun o o' b h => h.elim⟩
    · have := hvals.1
      simp; omega
    · show RA _ _ _ _ (match az[x]? with | some p => .b p.bv | none => .un) _
      cases hx : az[x]? with
      | none => trivial
      | some p =>
        have hlt : x < vals.size := by rw [← hvals.1]; exact (List.getElem?_eq_some_iff.1 hx).1
        have : (vals ++ Array.replicate (fn.ntmps - vals.size) undef).getD x undef = vals[x] := by
          rw [Array.getD_eq_getD_getElem?, Array.getElem?_append_left hlt, Array.getElem?_eq_getElem hlt]
          rfl
        rw [this]
        exact RP.av (W := ⟨fun _ => 0, fun _ => undef, fun _ => undef, fun _ _ => False, S⟩) (hvals.2 x p _ hx (Array.getElem?_eq_getElem hlt))
  refine wp_mono (code_sound hE hwi heq hm c pc hc hback _ _ _ _ _ hw hinit) (fun e a' w' he => ?_)
  obtain ⟨W', s', hs', hret, ⟨o, hsl, hob⟩, hres⟩ := he
  have hfin : bodyPost P fn (fun e w' => ∃ u S' adr fp', e = .returned u ∧ RN S' w' adr rs u ∧ adr.oneCell' = true ∧ H.r w' adr fp' ∧ Below w.heap.size w w' ∧ (∀ b, fp' b → w.heap.size ≤ b ∧ S' b = 0) ∧ ∀ b, b < w.heap.size → S' b = S b) .ret a' w' := by
    refine ⟨hs'.dfs, ?_⟩
    obtain ⟨vs, h1, h2, h3⟩ := run_results (P := P) hs' rvs prs rs hr hres
    have hro := hs'.ob o
    rw [hob] at hro
    have hslot := hs'.sl t0
    rw [hsl] at hslot
    have hadr := hslot.2.2 rfl
    have hrv0 : (rvSem a'.tmps rv0).run P w' = .ok (W'.adr o) w' := by
      cases rv0 with
      | tmp t => cases hr0; show (pure (a'.tmps.getD t0 undef) : Sem Value).run P w' = _; rw [hadr]; rfl
      | cell x t => simp only [compR, Option.map_eq_some_iff] at hr0; obtain ⟨_, _, h⟩ := hr0; cases h
    have h4 : (results fn a'.tmps).run P w' = .ok (if h : (W'.adr o :: vs).length = 1 then (W'.adr o :: vs)[0] else .tuple (W'.adr o :: vs).toArray) w' := by
      have h5 : results fn a'.tmps = (fn.results.mapM (rvSem a'.tmps)) >>= fun vs => pure (if h : vs.size = 1 then vs[0] else .tuple vs) := by
        unfold results
        congr 1
      have h6 : fn.results = (rv0 :: rvs).toArray := by rw [← hrv]
      rw [h5, h6, List.mapM_toArray, Sem.run_bind, Sem.run_map, List.mapM_cons, Sem.run_bind, hrv0, Result.andThen_ok, Sem.run_bind, h1]
      simp
    refine ⟨_, h4, _, frz w W' s' w', W'.adr o, W'.fp o, rfl, ?_, by rw [← hadr]; exact hslot.1, hro.1, hs'.below, fun b hb => ⟨(hro.2 b hb).1, ?_⟩, fun b hb => by unfold frz; rw [if_pos hb]; exact hs'.s0 b hb⟩
    · match rs, vs, h2, h3 with
      | [], [], _, _ => rfl
      | p :: r, vs, h2, h3 =>
        have hne : ¬ (W'.adr o :: vs).length = 1 := by rw [List.length_cons, ← h2]; simp
        rw [dif_neg hne]
        refine ⟨vs.toArray, by simp, by simpa using h2, fun i p u e1 e2 => h3 i p u e1 (by simpa using e2)⟩
    · unfold frz
      rw [if_neg (by have := (hro.2 b hb).1; omega), if_pos ⟨o, H, hob, hb⟩]
  rcases hret with rfl | rfl
  · exact hfin
  · exact hfin
end Go.Proofs.YthnjbnfnljjepabDoor
end
section
set_option linter.unusedSimpArgs false
set_option linter.unusedVariables false
namespace Go.Proofs.YthnjbnfnljjepabDoor
open Go Go.RowKit

section
variable {P : Program}
/-- a basic type: some kb, kb whether it is bool -/
def basicT (P : Program) (t : Nat) : Option Bool := match P.underlying t with
  | some (.int _) => some false
  | some .bool => some true
  | _ => none

theorem eq_basic {t : Nat} {kb : Bool} (hb : basicT P t = some kb) {x y : Cl} {u v : Value} {r : Bool} {W : Wit} {G : Nat → Nat} {O : Nat → Ob} {w : World} (hx : RC W G O w x u) (hy : RC W G O w y v) (h : eqCl kb x y = some r) (d : Nat) :
    (Op.equalIn (d + 1) t u v).run P w = .ok r w := by
  unfold basicT at hb
  unfold eqCl at h
  split at h
  · rename_i k a k' b
    split at h
    · rename_i hk
      cases h
      obtain ⟨rfl, _⟩ := RD.sc_inv hx
      obtain ⟨rfl, _⟩ := RD.sc_inv hy
      rw [Op.equalIn.eq_2]
      split at hb
      · rename_i k2 hu; simp [run_underlying hu, hk.2]
      · cases hb; exact absurd hk.1 (by decide)
      · cases hb
    · cases h
  · rename_i a b
    split at h
    · rename_i hk
      cases h
      obtain ⟨rfl, _⟩ := RD.sc_inv hx
      obtain ⟨rfl, _⟩ := RD.sc_inv hy
      rw [Op.equalIn.eq_2]
      split at hb
      · cases hb; exact absurd hk (by decide)
      · rename_i hu; simp [run_underlying hu]
      · cases hb
    · cases h
  · cases h

theorem basic_part {t : Nat} {kb : Bool} (hb : basicT P t = some kb) {xs : Array Value} {i : Nat} {u : Value} (hi : xs[i]? = some u) (w : World) : (part t xs i).run P w = .ok u w := by
  obtain ⟨d, hd, ha⟩ : ∃ d, P.underlying t = some d ∧ aggT d = false := by
    unfold basicT at hb
    split at hb
    · rename_i k hu; exact ⟨_, hu, rfl⟩
    · rename_i hu; exact ⟨_, hu, rfl⟩
    · cases hb
  have := run_isAgg hd w
  simp [part, this, ha, hi]

theorem eqCls_cons {ks : List Bool} {cs ds : List Cl} {r : Bool} {i : Nat} (h : eqCls (ks.drop i) (cs.drop i) (ds.drop i) = some r) {k : Bool} (hk : ks[i]? = some k) :
    ∃ x y a b, cs[i]? = some x ∧ ds[i]? = some y ∧ eqCl k x y = some a ∧ eqCls (ks.drop (i + 1)) (cs.drop (i + 1)) (ds.drop (i + 1)) = some b ∧ r = (a && b) := by
  have hlt := (List.getElem?_eq_some_iff.1 hk).1
  rw [List.drop_eq_getElem_cons hlt] at h
  rcases Nat.lt_or_ge i cs.length with h1 | h1
  · rcases Nat.lt_or_ge i ds.length with h2 | h2
    · rw [List.drop_eq_getElem_cons h1, List.drop_eq_getElem_cons h2] at h
      simp only [eqCls] at h
      split at h
      · rename_i a b ha hb
        cases h
        rw [List.getElem?_eq_getElem hlt] at hk
        cases hk
        exact ⟨_, _, a, b, List.getElem?_eq_getElem h1, List.getElem?_eq_getElem h2, ha, hb, rfl⟩
      · cases h
    · rw [List.drop_eq_nil_of_le h2, List.drop_eq_getElem_cons h1] at h
      simp [eqCls] at h
  · rw [List.drop_eq_nil_of_le h1] at h
    simp [eqCls] at h

/-- a struct whose fields are ints and bools -/
def flatS (P : Program) (fs : Array Field) (ks : List Bool) : Bool := fs.size == ks.length && fs.toList.zipIdx.all fun p => p.1.name != "_" && p.1.offset == p.2 && basicT P p.1.type == ks[p.2]?

theorem eqT_struct {t : Nat} {fs : Array Field} {ks : List Bool} (hu : P.underlying t = some (.struct fs)) (hst : P.stoodInHeld t = false) (hg : P.eqGuardType P.depth t = false) (hfl : flatS P fs ks = true) : EqT P t ks := by
  refine fun _ => ⟨hg, fun xs ys cs ds r W G O w h3 h4 h5 => ?_⟩
  show (Op.equalIn (9999 + 1) t (.agg xs) (.agg ys)).run P w = _
  rw [Op.equalIn.eq_2]
  simp only [Sem.run_bind, run_underlying hu, Result.andThen_ok, run_program, hst]
  rw [if_neg (by decide)]
  unfold flatS at hfl
  rw [Bool.and_eq_true] at hfl
  obtain ⟨hsz, hall⟩ := hfl
  have hsz' : fs.size = ks.length := by simpa using hsz
  have key : ∀ (l : List Field) (i : Nat) (r : Bool), l = fs.toList.drop i → eqCls (ks.drop i) (cs.drop i) (ds.drop i) = some r →
      (forIn l ((none : Option Bool), ()) fun f __s =>
        (if f.name ≠ "_" then do
          let __do_lift ← part f.type xs f.offset
          let __do_lift_1 ← part f.type ys f.offset
          let __do_lift ← Op.equalIn 9999 f.type __do_lift __do_lift_1
          if (!__do_lift) = true then pure (ForInStep.done (some false, ()))
          else pure (ForInStep.yield (none, ()))
        else pure (ForInStep.yield (none, ())) : Sem (ForInStep (Option Bool × Unit)))).run P w = .ok (if r then none else some false, ()) w := by
    intro l
    induction l with
    | nil =>
      intro i r hl h
      have hge : ks.length ≤ i := by
        have := congrArg List.length hl
        simp at this; omega
      rw [List.drop_eq_nil_of_le hge] at h
      generalize cs.drop i = a at h
      generalize ds.drop i = b at h
      cases a <;> cases b <;> simp [eqCls] at h
      subst h
      simp
    | cons f l ih =>
      intro i r hl h
      have hfi : fs[i]? = some f := by
        have := congrArg (·[0]?) hl
        simpa using this.symm
      have hilt := (Array.getElem?_eq_some_iff.1 hfi).1
      have hp := List.all_eq_true.1 hall (f, i) (by
        rw [List.mk_mem_zipIdx_iff_getElem?]
        simpa using hfi)
      simp only [Bool.and_eq_true, bne_iff_ne, beq_iff_eq] at hp
      obtain ⟨⟨hn, ho⟩, hb⟩ := hp
      have hk : ks[i]? = some ks[i] := List.getElem?_eq_getElem (by omega)
      rw [hk] at hb
      obtain ⟨x, y, a, b, e1, e2, e3, e4, rfl⟩ := eqCls_cons h hk
      have hx1 : i < xs.size := by have := h3.1; have := (List.getElem?_eq_some_iff.1 e1).1; simp at *; omega
      have hy1 : i < ys.size := by have := h4.1; have := (List.getElem?_eq_some_iff.1 e2).1; simp at *; omega
      have hx : xs[i]? = some xs[i] := Array.getElem?_eq_getElem hx1
      have hy : ys[i]? = some ys[i] := Array.getElem?_eq_getElem hy1
      have heq : (Op.equalIn 9999 f.type xs[i] ys[i]).run P w = .ok a w := eq_basic hb (h3.2 i x xs[i] e1 (by rw [Array.getElem?_toList]; exact hx)) (h4.2 i y ys[i] e2 (by rw [Array.getElem?_toList]; exact hy)) e3 9998
      rw [List.forIn_cons, if_pos hn, ho]
      simp only [Sem.run_bind, basic_part hb hx, basic_part hb hy, Result.andThen_ok, heq]
      cases a with
      | true =>
        simp only [Bool.not_true, Bool.false_eq_true, if_false, Sem.run_pure, Result.andThen_ok, Bool.true_and]
        exact ih (i + 1) b (by
          have := congrArg List.tail hl
          simpa using this) e4
      | false => simp
  have hk := key fs.toList 0 r rfl (by simpa using h5)
  rw [← Array.forIn_toList, Sem.run_bind, hk]
  cases r <;> rfl

theorem eqT_array {t e m : Nat} {ei : TypeInfo} (hu : P.underlying t = some (.array m e)) (hi : P.info? e = some ei) (hsz1 : ei.size = 1) (hg : P.eqGuardType P.depth t = false) (hb : basicT P e = some false) : EqT P t (List.replicate m false) := by
  refine fun _ => ⟨hg, fun xs ys cs ds r W G O w h3 h4 h5 => ?_⟩
  show (Op.equalIn (9999 + 1) t (.agg xs) (.agg ys)).run P w = _
  rw [Op.equalIn.eq_2]
  simp only [Sem.run_bind, run_underlying hu, Result.andThen_ok, sizeOf, typeInfo, run_program, hi, Sem.run_pure, hsz1, Nat.mul_one, Std.Legacy.Range.forIn_eq_forIn_range', Std.Legacy.Range.size, Nat.sub_zero, Nat.add_one_sub_one, Nat.div_one]
  have key : ∀ (k i : Nat) (r : Bool), i + k = m → eqCls ((List.replicate m false).drop i) (cs.drop i) (ds.drop i) = some r →
      (forIn (List.range' i k) ((none : Option Bool), ()) fun i __s =>
        (do
          let __do_lift ← part e xs i
          let __do_lift_1 ← part e ys i
          let __do_lift ← Op.equalIn 9999 e __do_lift __do_lift_1
          if (!__do_lift) = true then pure (ForInStep.done (some false, ()))
          else pure (ForInStep.yield (none, ())) : Sem (ForInStep (Option Bool × Unit)))).run P w = .ok (if r then none else some false, ()) w := by
    intro k
    induction k with
    | zero =>
      intro i r hl h
      rw [List.drop_eq_nil_of_le (by simp; omega)] at h
      generalize cs.drop i = a at h
      generalize ds.drop i = b at h
      cases a <;> cases b <;> simp [eqCls] at h
      subst h
      simp
    | succ k ih =>
      intro i r hl h
      have hk : (List.replicate m false)[i]? = some false := by
        rw [List.getElem?_replicate, if_pos (by omega)]
      obtain ⟨x, y, a, b, e1, e2, e3, e4, rfl⟩ := eqCls_cons h hk
      have hx1 : i < xs.size := by have := h3.1; have := (List.getElem?_eq_some_iff.1 e1).1; simp at *; omega
      have hy1 : i < ys.size := by have := h4.1; have := (List.getElem?_eq_some_iff.1 e2).1; simp at *; omega
      have hx : xs[i]? = some xs[i] := Array.getElem?_eq_getElem hx1
      have hy : ys[i]? = some ys[i] := Array.getElem?_eq_getElem hy1
      have heq : (Op.equalIn 9999 e xs[i] ys[i]).run P w = .ok a w := eq_basic hb (h3.2 i x xs[i] e1 (by rw [Array.getElem?_toList]; exact hx)) (h4.2 i y ys[i] e2 (by rw [Array.getElem?_toList]; exact hy)) e3 9998
      rw [List.range'_succ, List.forIn_cons]
      simp only [Sem.run_bind, basic_part hb hx, basic_part hb hy, Result.andThen_ok, heq]
      cases a with
      | true =>
        simp only [Bool.not_true, Bool.false_eq_true, if_false, Sem.run_pure, Result.andThen_ok, Bool.true_and]
        exact ih (i + 1) b (by omega) e4
      | false => simp
  have hk := key m 0 r (by omega) (by simpa using h5)
  rw [hk]
  cases r <;> rfl
end
end Go.Proofs.YthnjbnfnljjepabDoor
end
section
set_option linter.unusedSimpArgs false
set_option linter.unusedVariables false
namespace Go.Proofs.YthnjbnfnljjepabDoor
open Go Go.RowKit

theorem nrfl {α : Sort _} {a b : α} (h : a = b) : a = b := h
section
variable {env : Env} {K : St → Prop} {is : List PI} {s : St} {d : Option Nat} {af : List Nat}

def contOps (env : Env) (K : St → Prop) (is : List PI) (s : St) (d : Option Nat) (o : Option (Av × Cg)) : Prop := withSome o fun p => evalOps env is (s.ap d p.1 p.2) K
theorem contOps_some {v : Av} {ch : Cg} : contOps env K is s d (some (v, ch)) = evalOps env is (s.ap d v ch) K := nrfl rfl
def callOps (env : Env) (K : St → Prop) (is : List PI) (s : St) (d : Option Nat) (f : Nat) (o : Option (List Pa)) : Prop := withSome o fun ps => (∃ rs, env.d f ps rs ∧ evalOps env is (s.ap d (resAv rs) .no) K) ∨ (∃ H rs, env.a f none ps H rs ∧ evalOps env is (s.ap d (newAv (d.getD 0) (s.gen (d.getD 0) + 1) rs) (.new (d.getD 0) (.ab H))) K)
theorem callOps_intro {f : Nat} {ps : List Pa} (rs : List Pa) (h : env.d f ps rs) (k : evalOps env is (s.ap d (resAv rs) .no) K) : callOps env K is s d f (some ps) := .inl ⟨rs, h, k⟩
theorem callOps_new {f : Nat} {ps : List Pa} (H : HP) (rs : List Pa) (h : env.a f none ps H rs) (k : evalOps env is (s.ap d (newAv (d.getD 0) (s.gen (d.getD 0) + 1) rs) (.new (d.getD 0) (.ab H))) K) : callOps env K is s d f (some ps) := .inr ⟨H, rs, h, k⟩
def methOps (env : Env) (K : St → Prop) (is : List PI) (s : St) (d : Option Nat) (f o : Nat) (oh : Option HP) (oa : Option (List Pa)) : Prop := withSome oa fun ps => withSome oh fun H =>
  (∃ H' rs, env.a f (some H) ps H' rs ∧ evalOps env is (s.ap d (resAv rs) (.ab o H')) K) ∨ (∃ H2, ps = [] ∧ env.c f H H2 ∧ evalOps env is (s.ap d (.b (.one (.ab (d.getD 0) (s.gen (d.getD 0) + 1)))) (.new (d.getD 0) (.ab H2))) K)
theorem methOps_intro {f o : Nat} {H : HP} {ps : List Pa} (H' : HP) (rs : List Pa) (h : env.a f (some H) ps H' rs) (k : evalOps env is (s.ap d (resAv rs) (.ab o H')) K) : methOps env K is s d f o (some H) (some ps) := .inl ⟨H', rs, h, k⟩
theorem methOps_clone {f o : Nat} {H : HP} (H2 : HP) (h : env.c f H H2) (k : evalOps env is (s.ap d (.b (.one (.ab (d.getD 0) (s.gen (d.getD 0) + 1)))) (.new (d.getD 0) (.ab H2))) K) : methOps env K is s d f o (some H) (some []) := .inr ⟨H2, rfl, h, k⟩
def callR (env : Env) (K : St → Prop) (is : List PI) (s : St) (d : Option Nat) (f : Nat) (xs : List PX) : Option (Nat × Nat) → Prop
  | some (o, g) => methOps env K is s d f o (s.abAt o g) (s.args xs.tail)
  | none => callOps env K is s d f (s.args xs)
theorem callR_none {f : Nat} {xs : List PX} : callR env K is s d f xs none = callOps env K is s d f (s.args xs) := nrfl rfl
theorem callR_some {f o g : Nat} {xs : List PX} : callR env K is s d f xs (some (o, g)) = methOps env K is s d f o (s.abAt o g) (s.args xs.tail) := nrfl rfl
theorem recv_nil : s.recv [] = none := nrfl rfl
theorem recv_cons {x : PX} {xs : List PX} : s.recv (x :: xs) = (s.ev x).abOf := nrfl rfl
theorem abAt_ob {o g : Nat} : s.abAt o g = if s.gen o = g then (match s.ob o with | .ab H => some H | _ => none) else none := nrfl rfl
theorem ap_genb {v : Av} {o : Nat} {H : HP} : (s.ap d v (.ab o H)).gen = s.gen := nrfl rfl
theorem ap_obb {v : Av} {o : Nat} {H : HP} : (s.ap d v (.ab o H)).ob = up s.ob o (.ab H) := nrfl rfl
def guardOps (env : Env) (K : St → Prop) (is : List PI) (s : St) (d : Option Nat) (op : PO) (t : Nat) (want : Bool) : Option (Option Bool) → Prop
  | none => False
  | some none => evalOps env is (s.ap d skp .no) K
  | some (some b) => (b = want → evalOps env (⟨d, op, none, []⟩ :: is) (s.ap (some t) (scAv (.bool want)) .no) K) ∧ (b = !want → evalOps env is ((s.ap (some t) (scAv (.bool !want)) .no).ap d skp .no) K)
theorem guardOps_skp {op : PO} {t : Nat} {want : Bool} : guardOps env K is s d op t want (some none) = evalOps env is (s.ap d skp .no) K := nrfl rfl
theorem guardOps_some {op : PO} {t : Nat} {want b : Bool} : guardOps env K is s d op t want (some (some b)) = ((b = want → evalOps env (⟨d, op, none, []⟩ :: is) (s.ap (some t) (scAv (.bool want)) .no) K) ∧ (b = !want → evalOps env is ((s.ap (some t) (scAv (.bool !want)) .no).ap d skp .no) K)) := nrfl rfl
theorem gd_boo {t : Nat} {b : Bool} (h : s.gd t = some (some b)) : s.boo (.t t) = some b := by
  unfold St.gd at h
  split at h
  · cases h
  · rw [Option.map_eq_some_iff] at h
    obtain ⟨c, hc, h⟩ := h
    cases h; exact hc
theorem some_ne {b want : Bool} : (some b ≠ some want) ↔ b = !want := by cases b <;> cases want <;> simp
theorem boo_self {t : Nat} {b : Bool} (h : s.boo (.t t) = some b) : s.ap (some t) (scAv (.bool b)) .no = s := by
  have h1 : s.sl t = scAv (.bool b) := by
    unfold St.boo at h
    split at h
    · rename_i c hc
      cases h
      exact hc
    · cases h
  have h2 : up s.sl t (scAv (.bool b)) = s.sl := by
    funext x
    rw [up_at]
    split
    · rename_i hx; rw [hx, h1]
    · rfl
  show (⟨up s.sl t (scAv (.bool b)), s.gen, s.ob⟩ : St) = s
  rw [h2]
theorem evalOps_nil : evalOps env [] s K = K s := nrfl rfl
theorem evalOps_fn {op : PO} (h : op.isCall = false) : evalOps env (⟨d, op, none, af⟩ :: is) s K = contOps env K is s d (op.fn s (d.getD 0)) := by
  change PO.go env s (d.getD 0) (fun v ch => evalOps env is (s.ap d v ch) K) op = _
  rw [PO.go_fn h]
  rfl
def callV (env : Env) (K : St → Prop) (is : List PI) (s : St) (d : Option Nat) (f : Nat) (xs : List PX) : Option Unit → Prop
  | some _ => callR env K is s d f xs (s.recv xs)
  | none => False
theorem callV_some {f : Nat} {xs : List PX} {u : Unit} : callV env K is s d f xs (some u) = callR env K is s d f xs (s.recv xs) := nrfl rfl
def ldgV (env : Env) (K : St → Prop) (is : List PI) (s : St) (d : Option Nat) : Option Value → Prop
  | some v => evalOps env is (s.ap d (scAv v) .no) K
  | none => False
theorem ldgV_some {v : Value} : ldgV env K is s d (some v) = evalOps env is (s.ap d (scAv v) .no) K := nrfl rfl
theorem fnIsSelf {f : Nat} : fnIs f (some (.func (.func f) #[] #[])) = some () := fnIs_mk
theorem gAtPtr {g k : Nat} : gAt env (some (.pointer (some ⟨g, k, none⟩))) = env.t g k := nrfl rfl
def opS (env : Env) (K : St → Prop) (is : List PI) (s : St) (d : Option Nat) (b : Bool) (op : PO) : Prop := match b with
  | true => (match op with | .call f xs => callR env K is s d f xs (s.recv xs) | .callv x f xs => callV env K is s d f xs (fnIs f (s.val x)) | .ldg x => ldgV env K is s d (gAt env (s.val x)) | _ => False)
  | false => contOps env K is s d (op.fn s (d.getD 0))
theorem opS_false {op : PO} : opS env K is s d false op = contOps env K is s d (op.fn s (d.getD 0)) := nrfl rfl
theorem opS_true {f : Nat} {xs : List PX} : opS env K is s d true (.call f xs) = callR env K is s d f xs (s.recv xs) := nrfl rfl
theorem opS_callv {x : PX} {f : Nat} {xs : List PX} : opS env K is s d true (.callv x f xs) = callV env K is s d f xs (fnIs f (s.val x)) := nrfl rfl
theorem opS_ldg {x : PX} : opS env K is s d true (.ldg x) = ldgV env K is s d (gAt env (s.val x)) := nrfl rfl
theorem evalOps_op {op : PO} : evalOps env (⟨d, op, none, af⟩ :: is) s K = opS env K is s d op.isCall op := by
  cases hc : op.isCall with
  | true =>
    cases op <;> first
      | (cases hc; done)
      | (rename_i f xs
         show callG env s (d.getD 0) (fun v ch => evalOps env is (s.ap d v ch) K) f xs (s.recv xs) = callR env K is s d f xs (s.recv xs)
         cases s.recv xs <;> rfl)
      | (rename_i x f xs
         show withSome (fnIs f (s.val x)) (fun _ => callG env s (d.getD 0) (fun v ch => evalOps env is (s.ap d v ch) K) f xs (s.recv xs)) = callV env K is s d f xs (fnIs f (s.val x))
         cases fnIs f (s.val x) with
         | none => rfl
         | some _ =>
           show callG env s (d.getD 0) (fun v ch => evalOps env is (s.ap d v ch) K) f xs (s.recv xs) = callR env K is s d f xs (s.recv xs)
           cases s.recv xs <;> rfl)
      | (rename_i x
         show withSome (gAt env (s.val x)) (fun v => evalOps env is (s.ap d (scAv v) .no) K) = ldgV env K is s d (gAt env (s.val x))
         cases gAt env (s.val x) <;> rfl)
  | false => rw [opS_false, evalOps_fn hc]
theorem evalOps_guard {op : PO} {t : Nat} {want : Bool} : evalOps env (⟨d, op, some (t, want), af⟩ :: is) s K = guardOps env K is s d op t want (s.gd t) := by
  change withSome (s.gd t) _ = guardOps env K is s d op t want (s.gd t)
  cases h : s.gd t with
  | none => rfl
  | some b =>
    cases b with
    | none => exact propext ⟨fun k => k.2 (by simp), fun k => ⟨fun e => (by simp at e), fun _ => k⟩⟩
    | some b =>
      have hb := boo_self (gd_boo h)
      rw [guardOps_some]
      show ((some b = some want → _) ∧ (some b ≠ some want → _)) = _
      rw [some_ne, Option.some.injEq]
      congr 1
      · apply propext
        refine forall_congr' fun he => ?_
        subst he
        rw [hb]
        rfl
      · apply propext
        refine forall_congr' fun he => ?_
        rw [← he, hb]
theorem evalOps_gT {op : PO} {t : Nat} {want : Bool} (h : s.gd t = some (some want)) : evalOps env (⟨d, op, some (t, want), af⟩ :: is) s K = evalOps env (⟨d, op, none, []⟩ :: is) s K := by
  rw [evalOps_guard, h, guardOps_some, boo_self (gd_boo h)]
  exact propext ⟨fun k => k.1 rfl, fun k => ⟨fun _ => k, fun e => absurd e (by cases want <;> decide)⟩⟩
theorem evalOps_gF {op : PO} {t : Nat} {want : Bool} (h : s.gd t = some (some (!want))) : evalOps env (⟨d, op, some (t, want), af⟩ :: is) s K = evalOps env is (s.ap d skp .no) K := by
  rw [evalOps_guard, h, guardOps_some, boo_self (gd_boo h)]
  exact propext ⟨fun k => k.2 rfl, fun k => ⟨fun e => absurd e (by cases want <;> decide), fun _ => k⟩⟩
theorem evalOps_gS {op : PO} {t : Nat} {want : Bool} (h : s.gd t = some none) : evalOps env (⟨d, op, some (t, want), af⟩ :: is) s K = evalOps env is (s.ap d skp .no) K := by
  rw [evalOps_guard, h, guardOps_skp]

abbrev Ft := List (List Rg × List Rg)
variable {KD : St → Ft → Prop} {acc : Ft}
def contD (env : Env) (K : St → Ft → Prop) (is : List PI) (s : St) (d : Option Nat) (acc : Ft) (rd : List Rg) (o : Option (Av × Cg)) : Prop := withSome o fun p => evalD env is (s.ap d p.1 p.2) ((rd, p.2.wrs) :: acc) K
theorem contD_some {v : Av} {ch : Cg} {rd : List Rg} : contD env KD is s d acc rd (some (v, ch)) = evalD env is (s.ap d v ch) ((rd, ch.wrs) :: acc) KD := nrfl rfl
def callD (env : Env) (K : St → Ft → Prop) (is : List PI) (s : St) (d : Option Nat) (acc : Ft) (f : Nat) (o : Option (List Pa)) : Prop := withSome o fun ps =>
  (∃ rs, env.d f ps rs ∧ evalD env is (s.ap d (resAv rs) .no) (([(d.getD 0, big - 1, 1)], []) :: acc) K) ∨ (∃ H rs, env.a f none ps H rs ∧ evalD env is (s.ap d (newAv (d.getD 0) (s.gen (d.getD 0) + 1) rs) (.new (d.getD 0) (.ab H))) (([(d.getD 0, big - 1, 1)], [(d.getD 0, 0, big)]) :: acc) K)
theorem callD_intro {f : Nat} {ps : List Pa} (rs : List Pa) (h : env.d f ps rs) (k : evalD env is (s.ap d (resAv rs) .no) (([(d.getD 0, big - 1, 1)], []) :: acc) KD) : callD env KD is s d acc f (some ps) := .inl ⟨rs, h, k⟩
theorem callD_new {f : Nat} {ps : List Pa} (H : HP) (rs : List Pa) (h : env.a f none ps H rs) (k : evalD env is (s.ap d (newAv (d.getD 0) (s.gen (d.getD 0) + 1) rs) (.new (d.getD 0) (.ab H))) (([(d.getD 0, big - 1, 1)], [(d.getD 0, 0, big)]) :: acc) KD) : callD env KD is s d acc f (some ps) := .inr ⟨H, rs, h, k⟩
def methD (env : Env) (K : St → Ft → Prop) (is : List PI) (s : St) (d : Option Nat) (acc : Ft) (f o : Nat) (oh : Option HP) (oa : Option (List Pa)) : Prop := withSome oa fun ps => withSome oh fun H =>
  (∃ H' rs, env.a f (some H) ps H' rs ∧ evalD env is (s.ap d (resAv rs) (.ab o H')) (([(o, 0, big), (d.getD 0, big - 1, 1)], [(o, 0, big)]) :: acc) K) ∨
  (∃ H2, ps = [] ∧ env.c f H H2 ∧ evalD env is (s.ap d (.b (.one (.ab (d.getD 0) (s.gen (d.getD 0) + 1)))) (.new (d.getD 0) (.ab H2))) (([(o, 0, big), (d.getD 0, big - 1, 1)], [(d.getD 0, 0, big)]) :: acc) K)
theorem methD_intro {f o : Nat} {H : HP} {ps : List Pa} (H' : HP) (rs : List Pa) (h : env.a f (some H) ps H' rs) (k : evalD env is (s.ap d (resAv rs) (.ab o H')) (([(o, 0, big), (d.getD 0, big - 1, 1)], [(o, 0, big)]) :: acc) KD) : methD env KD is s d acc f o (some H) (some ps) := .inl ⟨H', rs, h, k⟩
def callRD (env : Env) (K : St → Ft → Prop) (is : List PI) (s : St) (d : Option Nat) (acc : Ft) (f : Nat) (xs : List PX) : Option (Nat × Nat) → Prop
  | some (o, g) => methD env K is s d acc f o (s.abAt o g) (s.args xs.tail)
  | none => callD env K is s d acc f (s.args xs)
theorem callRD_none {f : Nat} {xs : List PX} : callRD env KD is s d acc f xs none = callD env KD is s d acc f (s.args xs) := nrfl rfl
theorem callRD_some {f o g : Nat} {xs : List PX} : callRD env KD is s d acc f xs (some (o, g)) = methD env KD is s d acc f o (s.abAt o g) (s.args xs.tail) := nrfl rfl
/-- a guarded operation -/
def goD (env : Env) (K : St → Ft → Prop) (is : List PI) (s : St) (d : Option Nat) (acc : Ft) (op : PO) : Prop := op.go env s (d.getD 0) fun v ch => evalD env is (s.ap d v ch) ((op.rd s (d.getD 0), ch.wrs) :: acc) K
def guardD (env : Env) (K : St → Ft → Prop) (is : List PI) (s : St) (d : Option Nat) (acc : Ft) (op : PO) (t : Nat) (want : Bool) : Option (Option Bool) → Prop
  | none => False
  | some none => evalD env is (s.ap d skp .no) ((op.rd s (d.getD 0), []) :: acc) K
  | some (some b) => (b = want → goD env K is (s.ap (some t) (scAv (.bool want)) .no) d acc op) ∧ (b = !want → evalD env is ((s.ap (some t) (scAv (.bool !want)) .no).ap d skp .no) ((op.rd s (d.getD 0), []) :: acc) K)
theorem guardD_skp {op : PO} {t : Nat} {want : Bool} : guardD env KD is s d acc op t want (some none) = evalD env is (s.ap d skp .no) ((op.rd s (d.getD 0), []) :: acc) KD := nrfl rfl
theorem guardD_some {op : PO} {t : Nat} {want b : Bool} : guardD env KD is s d acc op t want (some (some b)) = ((b = want → goD env KD is (s.ap (some t) (scAv (.bool want)) .no) d acc op) ∧ (b = !want → evalD env is ((s.ap (some t) (scAv (.bool !want)) .no).ap d skp .no) ((op.rd s (d.getD 0), []) :: acc) KD)) := nrfl rfl
theorem evalD_nil : evalD env [] s acc KD = KD s acc.reverse := nrfl rfl
theorem goD_fn {op : PO} (h : op.isCall = false) : goD env KD is s d acc op = contD env KD is s d acc (op.rd s (d.getD 0)) (op.fn s (d.getD 0)) := by
  unfold goD
  rw [PO.go_fn h]
  rfl
def callVD (env : Env) (K : St → Ft → Prop) (is : List PI) (s : St) (d : Option Nat) (acc : Ft) (f : Nat) (xs : List PX) : Option Unit → Prop
  | some _ => callRD env K is s d acc f xs (s.recv xs)
  | none => False
theorem callVD_some {f : Nat} {xs : List PX} {u : Unit} : callVD env KD is s d acc f xs (some u) = callRD env KD is s d acc f xs (s.recv xs) := nrfl rfl
def ldgVD (env : Env) (K : St → Ft → Prop) (is : List PI) (s : St) (d : Option Nat) (acc : Ft) : Option Value → Prop
  | some v => evalD env is (s.ap d (scAv v) .no) (([], []) :: acc) K
  | none => False
theorem ldgVD_some {v : Value} : ldgVD env KD is s d acc (some v) = evalD env is (s.ap d (scAv v) .no) (([], []) :: acc) KD := nrfl rfl
def opD (env : Env) (K : St → Ft → Prop) (is : List PI) (s : St) (d : Option Nat) (acc : Ft) (b : Bool) (op : PO) : Prop := match b with
  | true => (match op with | .call f xs => callRD env K is s d acc f xs (s.recv xs) | .callv x f xs => callVD env K is s d acc f xs (fnIs f (s.val x)) | .ldg x => ldgVD env K is s d acc (gAt env (s.val x)) | _ => False)
  | false => contD env K is s d acc (op.rd s (d.getD 0)) (op.fn s (d.getD 0))
theorem opD_false {op : PO} : opD env KD is s d acc false op = contD env KD is s d acc (op.rd s (d.getD 0)) (op.fn s (d.getD 0)) := nrfl rfl
theorem opD_true {f : Nat} {xs : List PX} : opD env KD is s d acc true (.call f xs) = callRD env KD is s d acc f xs (s.recv xs) := nrfl rfl
theorem opD_callv {x : PX} {f : Nat} {xs : List PX} : opD env KD is s d acc true (.callv x f xs) = callVD env KD is s d acc f xs (fnIs f (s.val x)) := nrfl rfl
theorem opD_ldg {x : PX} : opD env KD is s d acc true (.ldg x) = ldgVD env KD is s d acc (gAt env (s.val x)) := nrfl rfl
theorem goD_op {op : PO} : goD env KD is s d acc op = opD env KD is s d acc op.isCall op := by
  cases hc : op.isCall with
  | true =>
    cases op <;> first
      | (cases hc; done)
      | (rename_i f xs
         show callG env s (d.getD 0) (fun v ch => evalD env is (s.ap d v ch) (((PO.call f xs).rd s (d.getD 0), ch.wrs) :: acc) KD) f xs (s.recv xs) = callRD env KD is s d acc f xs (s.recv xs)
         have hrd : (PO.call f xs).rd s (d.getD 0) = match s.recv xs with | some p => [(p.1, 0, big), (d.getD 0, big - 1, 1)] | none => [(d.getD 0, big - 1, 1)] := rfl
         rw [hrd]
         cases s.recv xs <;> rfl)
      | (rename_i x f xs
         show withSome (fnIs f (s.val x)) (fun _ => callG env s (d.getD 0) (fun v ch => evalD env is (s.ap d v ch) (((PO.callv x f xs).rd s (d.getD 0), ch.wrs) :: acc) KD) f xs (s.recv xs)) = callVD env KD is s d acc f xs (fnIs f (s.val x))
         have hrd : (PO.callv x f xs).rd s (d.getD 0) = match s.recv xs with | some p => [(p.1, 0, big), (d.getD 0, big - 1, 1)] | none => [(d.getD 0, big - 1, 1)] := rfl
         rw [hrd]
         cases fnIs f (s.val x) with
         | none => rfl
         | some u =>
           show callG env s (d.getD 0) (fun v ch => evalD env is (s.ap d v ch) ((match s.recv xs with | some p => [(p.1, 0, big), (d.getD 0, big - 1, 1)] | none => [(d.getD 0, big - 1, 1)], ch.wrs) :: acc) KD) f xs (s.recv xs) = callRD env KD is s d acc f xs (s.recv xs)
           cases s.recv xs <;> rfl)
      | (rename_i x
         show withSome (gAt env (s.val x)) (fun v => evalD env is (s.ap d (scAv v) .no) (([], []) :: acc) KD) = ldgVD env KD is s d acc (gAt env (s.val x))
         cases gAt env (s.val x) <;> rfl)
  | false => rw [opD_false, goD_fn hc]
theorem evalD_plain {op : PO} : evalD env (⟨d, op, none, af⟩ :: is) s acc KD = goD env KD is s d acc op := nrfl rfl
theorem evalD_guard {op : PO} {t : Nat} {want : Bool} : evalD env (⟨d, op, some (t, want), af⟩ :: is) s acc KD = guardD env KD is s d acc op t want (s.gd t) := by
  change withSome (s.gd t) _ = guardD env KD is s d acc op t want (s.gd t)
  cases h : s.gd t with
  | none => rfl
  | some b =>
    cases b with
    | none => exact propext ⟨fun k => k.2 (by simp), fun k => ⟨fun e => (by simp at e), fun _ => k⟩⟩
    | some b =>
      have hb := boo_self (gd_boo h)
      rw [guardD_some]
      show ((some b = some want → _) ∧ (some b ≠ some want → _)) = _
      rw [some_ne, Option.some.injEq]
      congr 1
      · apply propext
        refine forall_congr' fun he => ?_
        subst he
        rw [hb]
        rfl
      · apply propext
        refine forall_congr' fun he => ?_
        rw [← he, hb]
        rfl
theorem evalD_gT {op : PO} {t : Nat} {want : Bool} (h : s.gd t = some (some want)) : evalD env (⟨d, op, some (t, want), af⟩ :: is) s acc KD = goD env KD is s d acc op := by
  rw [evalD_guard, h, guardD_some, boo_self (gd_boo h)]
  exact propext ⟨fun k => k.1 rfl, fun k => ⟨fun _ => k, fun e => absurd e (by cases want <;> decide)⟩⟩
theorem evalD_gF {op : PO} {t : Nat} {want : Bool} (h : s.gd t = some (some (!want))) : evalD env (⟨d, op, some (t, want), af⟩ :: is) s acc KD = evalD env is (s.ap d skp .no) ((op.rd s (d.getD 0), []) :: acc) KD := by
  rw [evalD_guard, h, guardD_some, boo_self (gd_boo h)]
  exact propext ⟨fun k => k.2 rfl, fun k => ⟨fun e => absurd e (by cases want <;> decide), fun _ => k⟩⟩
theorem evalD_gS {op : PO} {t : Nat} {want : Bool} (h : s.gd t = some none) : evalD env (⟨d, op, some (t, want), af⟩ :: is) s acc KD = evalD env is (s.ap d skp .no) ((op.rd s (d.getD 0), []) :: acc) KD := by
  rw [evalD_guard, h, guardD_skp]

/-- what comes behind: codes, ends of blocks, of loops -/
inductive It where
  | c (x : PC)
  | bl (id : Nat)
  | lp (I : Nat → St → Prop) (n : Nat)
def exS (env : Env) : List It → (Exit → St → Prop) → Exit → St → Prop
  | [], Q, e, s => Q e s
  | .c b :: k, Q, e, s => match e with
    | .normal => pwp env b (exS env k Q) s
    | e => exS env k Q e s
  | .bl id :: k, Q, e, s => match e with
    | .exit i => if i = id then exS env k Q .normal s else exS env k Q (.exit i) s
    | e => exS env k Q e s
  | .lp I n :: k, Q, e, s => match e with
    | .normal => ∃ m, m < n ∧ I m s
    | e => exS env k Q e s

variable {k : List It} {Q : Exit → St → Prop}
theorem exS_nil {e : Exit} : exS env [] Q e s = Q e s := nrfl rfl
theorem exS_c {b : PC} : exS env (.c b :: k) Q .normal s = pwp env b (exS env k Q) s := nrfl rfl
theorem exS_c_ret {b : PC} : exS env (.c b :: k) Q .ret s = exS env k Q .ret s := nrfl rfl
theorem exS_c_exit {b : PC} {i : Nat} : exS env (.c b :: k) Q (.exit i) s = exS env k Q (.exit i) s := nrfl rfl
theorem exS_bl {id : Nat} : exS env (.bl id :: k) Q .normal s = exS env k Q .normal s := nrfl rfl
theorem exS_bl_ret {id : Nat} : exS env (.bl id :: k) Q .ret s = exS env k Q .ret s := nrfl rfl
theorem exS_bl_exit {id i : Nat} : exS env (.bl id :: k) Q (.exit i) s = if i = id then exS env k Q .normal s else exS env k Q (.exit i) s := nrfl rfl
theorem exS_lp {I : Nat → St → Prop} {n : Nat} : exS env (.lp I n :: k) Q .normal s = ∃ m, m < n ∧ I m s := nrfl rfl
theorem exS_lp_ret {I : Nat → St → Prop} {n : Nat} : exS env (.lp I n :: k) Q .ret s = exS env k Q .ret s := nrfl rfl
theorem exS_lp_exit {I : Nat → St → Prop} {n i : Nat} : exS env (.lp I n :: k) Q (.exit i) s = exS env k Q (.exit i) s := nrfl rfl

theorem pwp_start {c : PC} (h : pwp env c (exS env [] Q) s) : pwp env c Q s := h
/-- go on from a state of which only these slots and objects are known -/
theorem pwp_fresh {Q' : Exit → St → Prop} {c : PC} (sls obs : List Nat) (h : ∀ st : St, (∀ x, x ∈ sls → st.sl x = s.sl x) → (∀ o, o ∈ obs → st.gen o = s.gen o ∧ st.ob o = s.ob o) → pwp env c Q' st) : pwp env c Q' s := h s (fun _ _ => rfl) (fun _ _ => ⟨rfl, rfl⟩)
/-- the same with something known of the whole state -/
theorem pwp_freshP {Q' : Exit → St → Prop} {c : PC} (P : St → Prop) (hP : P s) (sls obs : List Nat) (h : ∀ st : St, P st → (∀ x, x ∈ sls → st.sl x = s.sl x) → (∀ o, o ∈ obs → st.gen o = s.gen o ∧ st.ob o = s.ob o) → pwp env c Q' st) : pwp env c Q' s := h s hP (fun _ _ => rfl) (fun _ _ => ⟨rfl, rfl⟩)
theorem pwp_skip : pwp env .skip (exS env k Q) s = exS env k Q .normal s := nrfl rfl
theorem pwp_reg {ops : List PI} : pwp env (.reg false ops) (exS env k Q) s = evalOps env ops s (exS env k Q .normal) := nrfl rfl
def drawn (ops : List PI) (K : St → Prop) (s : St) (fts : Ft) : Prop := drawOk ops fts = true ∧ K s
/-- the check of a drawn region: closed by drw -/
def Drw (ops : List PI) (fts : Ft) : Prop := drawOk ops fts = true
theorem drawn_and {ops : List PI} {K : St → Prop} {fts : Ft} : drawn ops K s fts = (Drw ops fts ∧ K s) := nrfl rfl
theorem pwp_regD {ops : List PI} : pwp env (.reg true ops) (exS env k Q) s = evalD env ops s [] (drawn ops (exS env k Q .normal)) := nrfl rfl
theorem pwp_seq {a b : PC} : pwp env (.seq a b) (exS env k Q) s = pwp env a (exS env (.c b :: k) Q) s := by
  show pwp env a _ s = _
  congr 1
def condS (env : Env) (a b : PC) (k : List It) (Q : Exit → St → Prop) (s : St) (o : Option Bool) : Prop := withSome o fun t => (t = true → pwp env a (exS env k Q) s) ∧ (t = false → pwp env b (exS env k Q) s)
theorem condS_some {a b : PC} {t : Bool} : condS env a b k Q s (some t) = ((t = true → pwp env a (exS env k Q) s) ∧ (t = false → pwp env b (exS env k Q) s)) := nrfl rfl
theorem pwp_cond {c : PX} {a b : PC} : pwp env (.cond c a b) (exS env k Q) s = condS env a b k Q s (s.boo c) := nrfl rfl
theorem pwp_block {id : Nat} {c : PC} : pwp env (.block id c) (exS env k Q) s = pwp env c (exS env (.bl id :: k) Q) s := by
  show pwp env c _ s = _
  congr 1
theorem pwp_exit {id : Nat} : pwp env (.exit id) (exS env k Q) s = exS env k Q (.exit id) s := nrfl rfl
theorem pwp_ret : pwp env .ret (exS env k Q) s = exS env k Q .ret s := nrfl rfl
theorem pwp_loop {c : PC} (I : Nat → St → Prop) (n : Nat) (h0 : I n s) (h : ∀ n s, I n s → pwp env c (exS env (.lp I n :: k) Q) s) : pwp env (.loop c) (exS env k Q) s := by
  refine ⟨I, ⟨n, h0⟩, fun n s hI => ?_⟩
  have := h n s hI
  have he : exS env (.lp I n :: k) Q = fun e s' => match e with | .normal => ∃ m, m < n ∧ I m s' | e => exS env k Q e s' := by
    funext e s'
    cases e <;> rfl
  rw [he] at this
  exact this

/-! the parts of a state -/
theorem ap_sl {x : Nat} {v : Av} {ch : Cg} : (s.ap (some x) v ch).sl = up s.sl x v := nrfl rfl
theorem ap_sl0 {v : Av} {ch : Cg} : (s.ap none v ch).sl = s.sl := nrfl rfl
theorem ap_gen {v : Av} : (s.ap d v .no).gen = s.gen := nrfl rfl
theorem ap_genw {v : Av} {o off : Nat} {cs : List Cl} : (s.ap d v (.wr o off cs)).gen = s.gen := nrfl rfl
theorem ap_genr {v : Av} {o m : Nat} : (s.ap d v (.row o m)).gen = s.gen := nrfl rfl
theorem ap_genn {v : Av} {o : Nat} {x : Ob} : (s.ap d v (.new o x)).gen = up s.gen o (s.gen o + 1) := nrfl rfl
theorem ap_ob {v : Av} : (s.ap d v .no).ob = s.ob := nrfl rfl
theorem ap_obw {v : Av} {o off : Nat} {cs : List Cl} : (s.ap d v (.wr o off cs)).ob = up s.ob o (wrF off cs (s.ob o)) := by
  rw [ap_eq]; rfl
theorem ap_obr {v : Av} {o m : Nat} : (s.ap d v (.row o m)).ob = up s.ob o (rowF m (s.ob o)) := by
  rw [ap_eq]; rfl
theorem ap_obn {v : Av} {o : Nat} {x : Ob} : (s.ap d v (.new o x)).ob = up s.ob o x := nrfl rfl
theorem wrF_cells {off : Nat} {cs old : List Cl} : wrF off cs (.cells old) = .cells (wrAt old off cs) := nrfl rfl
theorem rowF_row {m E sz n : Nat} : rowF m (.row E sz n) = .row E sz m := nrfl rfl

def initSl : List Pa → Nat → Av
  | [], _ => .un
  | p :: _, 0 => .b p.bv
  | _ :: r, n + 1 => initSl r n
theorem init_sl (ps : List Pa) (x : Nat) : (St.init ps).sl x = initSl ps x := by
  show (match ps[x]? with | some p => Av.b p.bv | none => .un) = _
  induction ps generalizing x with
  | nil => simp [initSl]
  | cons p r ih =>
    cases x with
    | zero => rfl
    | succ x => rw [List.getElem?_cons_succ, ih x]; rfl
theorem init_gen {ps : List Pa} {x : Nat} : (St.init ps).gen x = 0 := nrfl rfl
theorem init_ob {ps : List Pa} {x : Nat} : (St.init ps).ob x = .no := nrfl rfl

theorem ev_t {x : Nat} : s.ev (.t x) = s.sl x := nrfl rfl
theorem ev_int {k : IntKind} {m : Int} : s.ev (.v (.int k m)) = .b (.one (.d (.sc (.int k m)))) := nrfl rfl
theorem ev_bool {b : Bool} : s.ev (.v (.bool b)) = .b (.one (.d (.sc (.bool b)))) := nrfl rfl
theorem ev_string {b : ByteArray} : s.ev (.v (.string b)) = .b (.one (.d (.sc (.string b)))) := nrfl rfl
theorem ev_nil : s.ev (.v (.slice none 0 0)) = .b (.one (.d (.sc (.slice none 0 0)))) := nrfl rfl
theorem ev_agg {l : Array Value} : s.ev (.v (.agg l)) = .b (.agg (l.toList.map fun v => .d (.sc v))) := nrfl rfl
theorem ev_ptr : s.ev (.v (.pointer none)) = .b (.one (.d (.sc (.pointer none)))) := nrfl rfl

theorem args_nil : s.args [] = some [] := nrfl rfl
theorem args_cons {x : PX} {xs : List PX} : s.args (x :: xs) = (match (s.ev x).pa with | some p => (s.args xs).map (p :: ·) | none => none) := by
  unfold St.args
  simp only [List.map_cons]
  cases (s.ev x).pa <;> rfl
end

/-- st is s0 but for the slots ms and the objects os -/
def Within (ms os : List Nat) (s0 st : St) : Prop := (∀ x, ms.contains x = false → st.sl x = s0.sl x) ∧ ∀ o, os.contains o = false → st.gen o = s0.gen o ∧ st.ob o = s0.ob o
def over (ms os : List Nat) (s0 j : St) : St := ⟨fun x => bif ms.contains x then j.sl x else s0.sl x, fun o => bif os.contains o then j.gen o else s0.gen o, fun o => bif os.contains o then j.ob o else s0.ob o⟩
theorem Within.refl (ms os : List Nat) (s : St) : Within ms os s s := ⟨fun _ _ => rfl, fun _ _ => ⟨rfl, rfl⟩⟩
theorem Within.over {ms os : List Nat} {s0 st : St} (h : Within ms os s0 st) : ∃ j, st = over ms os s0 j := by
  refine ⟨st, ?_⟩
  obtain ⟨h1, h2⟩ := h
  have e1 : st.sl = (Go.Proofs.YthnjbnfnljjepabDoor.over ms os s0 st).sl := by
    funext x
    show st.sl x = bif ms.contains x then st.sl x else s0.sl x
    cases hx : ms.contains x with
    | true => rfl
    | false => exact h1 x hx
  have e2 : st.gen = (Go.Proofs.YthnjbnfnljjepabDoor.over ms os s0 st).gen := by
    funext x
    show st.gen x = bif os.contains x then st.gen x else s0.gen x
    cases hx : os.contains x with
    | true => rfl
    | false => exact (h2 x hx).1
  have e3 : st.ob = (Go.Proofs.YthnjbnfnljjepabDoor.over ms os s0 st).ob := by
    funext x
    show st.ob x = bif os.contains x then st.ob x else s0.ob x
    cases hx : os.contains x with
    | true => rfl
    | false => exact (h2 x hx).2
  show (⟨st.sl, st.gen, st.ob⟩ : St) = ⟨(Go.Proofs.YthnjbnfnljjepabDoor.over ms os s0 st).sl, (Go.Proofs.YthnjbnfnljjepabDoor.over ms os s0 st).gen, (Go.Proofs.YthnjbnfnljjepabDoor.over ms os s0 st).ob⟩
  rw [← e1, ← e2, ← e3]
theorem over_sl {ms os : List Nat} {s0 j : St} {x : Nat} : (over ms os s0 j).sl x = bif ms.contains x then j.sl x else s0.sl x := nrfl rfl
theorem over_gen {ms os : List Nat} {s0 j : St} {x : Nat} : (over ms os s0 j).gen x = bif os.contains x then j.gen x else s0.gen x := nrfl rfl
theorem over_ob {ms os : List Nat} {s0 j : St} {x : Nat} : (over ms os s0 j).ob x = bif os.contains x then j.ob x else s0.ob x := nrfl rfl
theorem within_over {ms os : List Nat} {s0 j : St} : Within ms os s0 (over ms os s0 j) = True := by
  apply propext
  refine ⟨fun _ => trivial, fun _ => ⟨fun x hx => ?_, fun o ho => ⟨?_, ?_⟩⟩⟩
  · rw [over_sl, hx]; rfl
  · rw [over_gen, ho]; rfl
  · rw [over_ob, ho]; rfl
theorem within_self {ms os : List Nat} {s : St} : Within ms os s s = True := propext ⟨fun _ => trivial, fun _ => Within.refl _ _ _⟩
def chIn (os : List Nat) : Cg → Bool
  | .ab o _ => os.contains o
  | .no => true
  | .new o _ => os.contains o
  | .wr o _ _ => os.contains o
  | .row o _ => os.contains o
theorem Within.ap {ms os : List Nat} {s0 s : St} {d : Option Nat} {v : Av} {ch : Cg} (h : Within ms os s0 s) (hd : ∀ x, d = some x → ms.contains x = true) (hc : chIn os ch = true) : Within ms os s0 (s.ap d v ch) := by
  obtain ⟨h1, h2⟩ := h
  rw [ap_eq]
  refine ⟨fun x hx => ?_, fun o ho => ?_⟩
  · cases d with
    | none => exact h1 x hx
    | some y =>
      show up s.sl y v x = _
      rw [up_at, if_neg]
      · exact h1 x hx
      · rintro rfl
        rw [hd x rfl] at hx
        cases hx
  · have key : ∀ y : Nat, os.contains y = true → o ≠ y := by
      rintro y hy rfl
      rw [hy] at ho; cases ho
    show ch.gF s.gen o = _ ∧ ch.oF s.ob o = _
    cases ch with
    | no => exact h2 o ho
    | new y x => simp only [Cg.gF, Cg.oF, Go.Proofs.YthnjbnfnljjepabDoor.md, up_at, if_neg (key y hc)]; exact h2 o ho
    | wr y off cs => simp only [Cg.gF, Cg.oF, Go.Proofs.YthnjbnfnljjepabDoor.md, up_at, if_neg (key y hc)]; exact h2 o ho
    | row y m => simp only [Cg.gF, Cg.oF, Go.Proofs.YthnjbnfnljjepabDoor.md, up_at, if_neg (key y hc)]; exact h2 o ho
    | ab y H => simp only [Cg.gF, Cg.oF, Go.Proofs.YthnjbnfnljjepabDoor.md, up_at, if_neg (key y hc)]; exact h2 o ho
theorem within_ap {ms os : List Nat} {s0 s : St} {x : Nat} {v : Av} {ch : Cg} (h : Within ms os s0 s) (hd : ms.contains x = true) (hc : chIn os ch = true) : Within ms os s0 (s.ap (some x) v ch) := h.ap (fun y hy => by cases hy; exact hd) hc
theorem within_ap0 {ms os : List Nat} {s0 s : St} {v : Av} {ch : Cg} (h : Within ms os s0 s) (hc : chIn os ch = true) : Within ms os s0 (s.ap none v ch) := h.ap (fun y hy => by cases hy) hc
theorem Within.trans {ms os : List Nat} {a b c : St} (h : Within ms os a b) (k : Within ms os b c) : Within ms os a c :=
  ⟨fun x hx => (k.1 x hx).trans (h.1 x hx), fun o ho => ⟨(k.2 o ho).1.trans (h.2 o ho).1, (k.2 o ho).2.trans (h.2 o ho).2⟩⟩

/-- a loop that turns the slots ms and the objects os alone -/
theorem pwp_loopW {env : Env} {k : List It} {Q : Exit → St → Prop} {s : St} {c : PC} (ms os : List Nat) (J : Nat → St → Prop) (m0 : Nat) (h0 : J m0 s)
    (h : ∀ m j, J m (over ms os s j) → pwp env c (exS env (.lp (fun m st => Within ms os s st ∧ J m st) m :: k) Q) (over ms os s j)) : pwp env (.loop c) (exS env k Q) s :=
  pwp_loop (fun m st => Within ms os s st ∧ J m st) m0 ⟨Within.refl _ _ _, h0⟩ (fun m st ⟨hW, hJ⟩ => by
    obtain ⟨j, rfl⟩ := hW.over
    exact h m j hJ)

/-! numbers -/
theorem wr64 {x : Int} (h1 : -9223372036854775808 ≤ x) (h2 : x ≤ 9223372036854775807) : IntKind.i64.wrap x = x := IntWalk.i64_in x ⟨h1, h2⟩
theorem wrN {k : Nat} (h : k ≤ 1000000000) : IntKind.i64.wrap ((k : Int) + 1) = ((k + 1 : Nat) : Int) := by
  rw [wr64 (by omega) (by omega)]; omega
end Go.Proofs.YthnjbnfnljjepabDoor
end
section
set_option linter.unusedSimpArgs false
set_option linter.unusedVariables false
namespace Go.Proofs.YthnjbnfnljjepabDoor
open Go Go.RowKit
set_option maxRecDepth 100000
def unN : Option Value → Option (Av × Cg)
  | some (.bool b) => some (scAv (.bool !b), .no)
  | _ => none
def unG : Option Value → Option (Av × Cg)
  | some (.int k n) => some (scAv (.int k (k.wrap (0 - n))), .no)
  | _ => none
def unX : Option Value → Option (Av × Cg)
  | some (.int k n) => some (scAv (.int k (k.wrap (BitVec.ofInt k.bits (if k.signed then -1 else k.max) ^^^ BitVec.ofInt k.bits n).toNat)), .no)
  | _ => none
theorem fn_not {s : St} {d : Nat} {x : PX} : PO.fn s d (.un .not x) = unN (s.val x) := by
  cases h : s.val x with
  | none => simp only [PO.fn, h, unN]
  | some v => cases v <;> simp only [PO.fn, h, unN]
theorem fn_neg {s : St} {d : Nat} {x : PX} : PO.fn s d (.un .neg x) = unG (s.val x) := by
  cases h : s.val x with
  | none => simp only [PO.fn, h, unG]
  | some v => cases v <;> simp only [PO.fn, h, unG]
theorem fn_xor {s : St} {d : Nat} {x : PX} : PO.fn s d (.un .xor x) = unX (s.val x) := by
  cases h : s.val x with
  | none => simp only [PO.fn, h, unX]
  | some v => cases v <;> simp only [PO.fn, h, unX]
theorem evP : type_of% (
  And.intro @evalOps_gT <|
  And.intro @evalOps_gF <|
  And.intro @evalOps_gS <|
  And.intro @evalD_gT <|
  And.intro @evalD_gF <|
  And.intro @evalD_gS <|
  And.intro @pwp_skip <|
  And.intro @pwp_reg <|
  And.intro @pwp_regD <|
  And.intro @pwp_seq <|
  And.intro @pwp_cond <|
  And.intro @pwp_block <|
  And.intro @pwp_exit <|
  @pwp_ret) :=
  And.intro @evalOps_gT <|
  And.intro @evalOps_gF <|
  And.intro @evalOps_gS <|
  And.intro @evalD_gT <|
  And.intro @evalD_gF <|
  And.intro @evalD_gS <|
  And.intro @pwp_skip <|
  And.intro @pwp_reg <|
  And.intro @pwp_regD <|
  And.intro @pwp_seq <|
  And.intro @pwp_cond <|
  And.intro @pwp_block <|
  And.intro @pwp_exit <|
  @pwp_ret
theorem evB : type_of% (
  And.intro @guardOps_skp <|
  And.intro @guardD_skp <|
  And.intro @St.gd.eq_1 <|
  And.intro @isSkp.eq_1 <|
  And.intro @isSkp.eq_2 <|
  And.intro @isSkp.eq_3 <|
  And.intro @isSkp.eq_4 <|
  And.intro @skp.eq_1 <|
  And.intro @condS_some <|
  And.intro @exS_nil <|
  And.intro @exS_c <|
  And.intro @exS_c_ret <|
  And.intro @exS_c_exit <|
  And.intro @exS_bl <|
  And.intro @exS_bl_ret <|
  And.intro @exS_bl_exit <|
  And.intro @exS_lp_ret <|
  And.intro @exS_lp_exit <|
  And.intro @evalOps_nil <|
  And.intro @evalOps_op <|
  And.intro @opS_false <|
  And.intro @opS_true <|
  And.intro @evalOps_guard <|
  And.intro @contOps_some <|
  And.intro @guardOps_some <|
  And.intro @evalD_nil <|
  And.intro @drawn_and <|
  And.intro @List.reverse_cons.{0} <|
  And.intro @List.reverse_nil.{0} <|
  And.intro @evalD_plain <|
  And.intro @evalD_guard <|
  And.intro @goD_op <|
  And.intro @opD_false <|
  And.intro @opD_true <|
  And.intro @contD_some <|
  And.intro @guardD_some <|
  And.intro @callR_none <|
  And.intro @callR_some <|
  And.intro @callRD_none <|
  And.intro @callRD_some <|
  And.intro @opS_callv <|
  And.intro @opS_ldg <|
  And.intro @opD_callv <|
  And.intro @opD_ldg <|
  And.intro @callV_some <|
  And.intro @ldgV_some <|
  And.intro @callVD_some <|
  And.intro @ldgVD_some <|
  And.intro @fnIsSelf <|
  @gAtPtr) :=
  And.intro @guardOps_skp <|
  And.intro @guardD_skp <|
  And.intro @St.gd.eq_1 <|
  And.intro @isSkp.eq_1 <|
  And.intro @isSkp.eq_2 <|
  And.intro @isSkp.eq_3 <|
  And.intro @isSkp.eq_4 <|
  And.intro @skp.eq_1 <|
  And.intro @condS_some <|
  And.intro @exS_nil <|
  And.intro @exS_c <|
  And.intro @exS_c_ret <|
  And.intro @exS_c_exit <|
  And.intro @exS_bl <|
  And.intro @exS_bl_ret <|
  And.intro @exS_bl_exit <|
  And.intro @exS_lp_ret <|
  And.intro @exS_lp_exit <|
  And.intro @evalOps_nil <|
  And.intro @evalOps_op <|
  And.intro @opS_false <|
  And.intro @opS_true <|
  And.intro @evalOps_guard <|
  And.intro @contOps_some <|
  And.intro @guardOps_some <|
  And.intro @evalD_nil <|
  And.intro @drawn_and <|
  And.intro @List.reverse_cons.{0} <|
  And.intro @List.reverse_nil.{0} <|
  And.intro @evalD_plain <|
  And.intro @evalD_guard <|
  And.intro @goD_op <|
  And.intro @opD_false <|
  And.intro @opD_true <|
  And.intro @contD_some <|
  And.intro @guardD_some <|
  And.intro @callR_none <|
  And.intro @callR_some <|
  And.intro @callRD_none <|
  And.intro @callRD_some <|
  And.intro @opS_callv <|
  And.intro @opS_ldg <|
  And.intro @opD_callv <|
  And.intro @opD_ldg <|
  And.intro @callV_some <|
  And.intro @ldgV_some <|
  And.intro @callVD_some <|
  And.intro @ldgVD_some <|
  And.intro @fnIsSelf <|
  @gAtPtr
theorem stB : type_of% (
  And.intro @PO.isCall.eq_1 <|
  And.intro @PO.isCall.eq_2 <|
  And.intro @PO.isCall.eq_3 <|
  And.intro @PO.isCall.eq_4 <|
  And.intro @PO.isCall.eq_5 <|
  And.intro @PO.isCall.eq_6 <|
  And.intro @PO.isCall.eq_7 <|
  And.intro @PO.isCall.eq_8 <|
  And.intro @PO.isCall.eq_9 <|
  And.intro @PO.isCall.eq_10 <|
  And.intro @PO.isCall.eq_11 <|
  And.intro @PO.isCall.eq_12 <|
  And.intro @PO.isCall.eq_13 <|
  And.intro @PO.isCall.eq_14 <|
  And.intro @PO.isCall.eq_15 <|
  And.intro @PO.isCall.eq_16 <|
  And.intro @PO.isCall.eq_17 <|
  And.intro @PO.isCall.eq_18 <|
  And.intro @PO.isCall.eq_19 <|
  And.intro @PO.isCall.eq_20 <|
  And.intro @PO.isCall.eq_21 <|
  And.intro @PO.isCall.eq_22 <|
  And.intro @PO.isCall.eq_23 <|
  And.intro @PO.isCall.eq_24 <|
  And.intro @PO.isCall.eq_25 <|
  And.intro @PO.isCall.eq_26 <|
  And.intro @PO.isCall.eq_27 <|
  And.intro @PO.isCall.eq_28 <|
  And.intro @PO.isCall.eq_29 <|
  And.intro @PO.isCall.eq_30 <|
  And.intro @PO.isCall.eq_31 <|
  And.intro @PO.isCall.eq_32 <|
  And.intro @PO.isCall.eq_33 <|
  And.intro @PO.isCall.eq_34 <|
  And.intro @PO.isCall.eq_35 <|
  And.intro @PO.isCall.eq_36 <|
  And.intro @PO.isCall.eq_37 <|
  And.intro @PO.isCall.eq_38 <|
  And.intro @Option.getD_some.{0} <|
  And.intro @Option.getD_none.{0} <|
  And.intro @ap_sl <|
  And.intro @ap_sl0 <|
  And.intro @ap_gen <|
  And.intro @ap_genw <|
  And.intro @ap_genr <|
  And.intro @ap_genn <|
  And.intro @ap_ob <|
  And.intro @ap_obw <|
  And.intro @ap_obr <|
  And.intro @ap_obn <|
  And.intro @wrF_cells <|
  And.intro @rowF_row <|
  And.intro @init_sl <|
  And.intro @initSl.eq_1 <|
  And.intro @initSl.eq_2 <|
  And.intro @initSl.eq_3 <|
  And.intro @init_gen <|
  And.intro @init_ob <|
  And.intro @ev_t <|
  And.intro @ev_int <|
  And.intro @ev_bool <|
  And.intro @ev_string <|
  And.intro @ev_nil <|
  And.intro @ev_agg <|
  And.intro @ev_ptr <|
  And.intro @args_nil <|
  And.intro @args_cons <|
  And.intro @up_at <|
  And.intro @PO.fn.eq_1 <|
  And.intro @PO.fn.eq_2 <|
  And.intro @PO.fn.eq_3 <|
  And.intro @PO.fn.eq_4 <|
  And.intro @PO.fn.eq_5 <|
  And.intro @PO.fn.eq_6 <|
  And.intro @PO.fn.eq_7 <|
  And.intro @PO.fn.eq_8 <|
  And.intro @PO.fn.eq_9 <|
  And.intro @PO.fn.eq_10 <|
  And.intro @PO.fn.eq_11 <|
  And.intro @PO.fn.eq_12 <|
  And.intro @PO.fn.eq_13 <|
  And.intro @PO.fn.eq_14 <|
  And.intro @PO.fn.eq_15 <|
  And.intro @PO.fn.eq_16 <|
  And.intro @PO.fn.eq_17 <|
  And.intro @PO.fn.eq_18 <|
  And.intro @PO.fn.eq_23 <|
  And.intro @PO.fn.eq_24 <|
  And.intro @PO.fn.eq_25 <|
  And.intro @PO.fn.eq_26 <|
  And.intro @PO.fn.eq_27 <|
  And.intro @PO.fn.eq_28 <|
  And.intro @PO.fn.eq_29 <|
  And.intro @PO.fn.eq_30 <|
  And.intro @PO.fn.eq_31 <|
  And.intro @PO.fn.eq_32 <|
  And.intro @PO.fn.eq_33 <|
  And.intro @PO.fn.eq_34 <|
  And.intro @PO.fn.eq_35 <|
  And.intro @PO.fn.eq_36 <|
  And.intro @PO.fn.eq_37 <|
  And.intro @PO.fn.eq_38 <|
  And.intro @PO.fn.eq_39 <|
  And.intro @PO.fn.eq_40 <|
  And.intro @PO.fn.eq_41 <|
  And.intro @fn_not <|
  And.intro @fn_neg <|
  And.intro @fn_xor <|
  And.intro @unN.eq_1 <|
  And.intro @unG.eq_1 <|
  And.intro @unX.eq_1 <|
  And.intro @PO.rd.eq_1 <|
  And.intro @PO.rd.eq_2 <|
  And.intro @PO.rd.eq_3 <|
  And.intro @PO.rd.eq_4 <|
  And.intro @PO.rd.eq_5 <|
  And.intro @PO.rd.eq_6 <|
  And.intro @PO.rd.eq_7 <|
  And.intro @PO.rd.eq_8 <|
  And.intro @PO.rd.eq_9 <|
  And.intro @PO.rd.eq_10 <|
  And.intro @PO.rd.eq_11 <|
  And.intro @PO.rd.eq_12 <|
  And.intro @PO.rd.eq_13 <|
  And.intro @PO.rd.eq_14 <|
  And.intro @PO.rd.eq_15 <|
  And.intro @PO.rd.eq_16 <|
  And.intro @Cg.wrs.eq_1 <|
  And.intro @Cg.wrs.eq_2 <|
  And.intro @Cg.wrs.eq_3 <|
  And.intro @Cg.wrs.eq_4 <|
  And.intro @Cg.wrs.eq_5 <|
  And.intro @St.cl.eq_1 <|
  And.intro @St.val.eq_1 <|
  And.intro @St.int.eq_1 <|
  And.intro @St.boo.eq_1 <|
  And.intro @St.cs.eq_1 <|
  And.intro @St.parts.eq_1 <|
  And.intro @St.parts.eq_2 <|
  And.intro @scAv.eq_1 <|
  And.intro @Cl.rows.eq_1 <|
  And.intro @Cl.rows.eq_2 <|
  And.intro @Cl.rows.eq_3 <|
  And.intro @Cl.rows.eq_4 <|
  And.intro @Cl.rows.eq_5 <|
  And.intro @Cl.dt.eq_1 <|
  And.intro @Cl.dt.eq_2 <|
  And.intro @Cl.dt.eq_3 <|
  And.intro @Cl.dt.eq_4 <|
  And.intro @Cl.dt.eq_5 <|
  And.intro @Bv.pa.eq_1 <|
  And.intro @Bv.pa.eq_2 <|
  And.intro @Av.pa.eq_1 <|
  And.intro @Av.pa.eq_2 <|
  And.intro @Pa.bv.eq_1 <|
  And.intro @Pa.bv.eq_2 <|
  And.intro @resAv.eq_1 <|
  And.intro @resAv.eq_2 <|
  And.intro @resAv.eq_3 <|
  And.intro @allSome.eq_1 <|
  And.intro @allSome.eq_2 <|
  And.intro @allSome.eq_3 <|
  And.intro @mkAv.eq_1 <|
  And.intro @mkAv.eq_2 <|
  And.intro @wrAt.eq_1 <|
  And.intro @wrAt.eq_2 <|
  And.intro @wrAt.eq_3 <|
  And.intro @wrAt.eq_4 <|
  And.intro @splice.eq_1 <|
  And.intro @fillAll.eq_1 <|
  And.intro @fillAll.eq_2 <|
  And.intro @chunks.eq_1 <|
  And.intro @chunks.eq_2 <|
  And.intro @scBin.eq_1 <|
  And.intro @scBin.eq_2 <|
  And.intro @scBin.eq_3 <|
  And.intro @scBin.eq_4 <|
  And.intro @scBin.eq_5 <|
  And.intro @scBin.eq_6 <|
  And.intro @scBin.eq_7 <|
  And.intro @scBin.eq_8 <|
  And.intro @scBin.eq_9 <|
  And.intro @scBin.eq_10 <|
  And.intro @scBin.eq_11 <|
  And.intro @scBin.eq_12 <|
  And.intro @scBin.eq_13 <|
  And.intro @scBin.eq_14 <|
  And.intro @scBin.eq_15 <|
  And.intro @scBin.eq_16 <|
  And.intro @scBin.eq_17 <|
  And.intro @scBin.eq_18 <|
  And.intro @scBin.eq_19 <|
  And.intro @scBin.eq_20 <|
  And.intro @scBin.eq_21 <|
  And.intro @scBin.eq_22 <|
  And.intro @eqCl.eq_1 <|
  And.intro @eqCl.eq_2 <|
  And.intro @eqCl.eq_3 <|
  And.intro @eqCls.eq_1 <|
  And.intro @eqCls.eq_2 <|
  And.intro @eqCls.eq_3 <|
  And.intro @scMM.eq_1 <|
  And.intro @scMM.eq_2 <|
  And.intro @Option.map_some.{0,0} <|
  And.intro @Option.map_none.{0,0} <|
  And.intro @Option.bind_some.{0,0} <|
  And.intro @List.map_cons.{0,0} <|
  And.intro @List.map_nil.{0,0} <|
  And.intro @List.length_cons.{0} <|
  And.intro @List.length_nil.{0} <|
  And.intro @List.getElem?_cons_succ.{0} <|
  And.intro @List.getElem?_cons_zero.{0} <|
  And.intro @List.take_succ_cons.{0} <|
  And.intro @List.take_zero.{0} <|
  And.intro @List.drop_succ_cons.{0} <|
  And.intro @List.drop_zero.{0} <|
  And.intro @List.cons_append.{0} <|
  And.intro @List.nil_append.{0} <|
  And.intro @List.append_nil.{0} <|
  And.intro @if_true.{1} <|
  And.intro @if_false.{1} <|
  And.intro @ite_true.{1} <|
  And.intro @ite_false.{1} <|
  And.intro @ne_eq.{1} <|
  And.intro @not_true <|
  And.intro @not_false_eq_true <|
  And.intro @Nat.add_zero <|
  And.intro @Nat.zero_add <|
  And.intro @and_true <|
  And.intro @true_and <|
  And.intro @and_self <|
  And.intro @forall_const.{1} <|
  And.intro @forall_const.{0} <|
  And.intro @Bool.not_true <|
  And.intro @Bool.not_false <|
  And.intro @Nat.succ_eq_add_one <|
  And.intro @imp_false <|
  And.intro @false_imp_iff <|
  And.intro @forall_false <|
  And.intro @true_imp_iff <|
  And.intro @Bool.and_true <|
  And.intro @Bool.and_false <|
  And.intro @Bool.true_and <|
  And.intro @Bool.false_and <|
  And.intro @implies_true.{1} <|
  And.intro @implies_true.{0} <|
  And.intro @over_sl <|
  And.intro @over_gen <|
  And.intro @over_ob <|
  And.intro @List.contains_cons.{0} <|
  And.intro @List.contains_nil.{0} <|
  And.intro @Bool.or_false <|
  And.intro @Bool.or_true <|
  And.intro @Bool.false_or <|
  And.intro @Bool.true_or <|
  And.intro @cond_true.{1} <|
  And.intro @cond_false.{1} <|
  And.intro @Bool.cond_true.{0} <|
  And.intro @Bool.cond_false.{0} <|
  And.intro @Int.toNat_natCast <|
  And.intro @Int.natCast_nonneg <|
  And.intro @List.getElem?_map.{0,0} <|
  And.intro @List.length_map.{0,0} <|
  And.intro @List.mem_cons.{0} <|
  And.intro @List.not_mem_nil.{0} <|
  And.intro @forall_eq.{1} <|
  And.intro @forall_eq_or_imp.{1} <|
  And.intro @false_or <|
  And.intro @or_true <|
  And.intro @true_or <|
  And.intro @or_false <|
  And.intro @St.res.eq_1 <|
  And.intro @St.res1.eq_1 <|
  And.intro @St.res1.eq_2 <|
  And.intro @decide_eq_true_eq <|
  And.intro @decide_eq_false_iff_not <|
  And.intro @Cl.abOf.eq_1 <|
  And.intro @Cl.abOf.eq_2 <|
  And.intro @Cl.abOf.eq_3 <|
  And.intro @Cl.abOf.eq_4 <|
  And.intro @Cl.abOf.eq_5 <|
  And.intro @Cl.abOf.eq_6 <|
  And.intro @Cl.abOf.eq_7 <|
  And.intro @Cl.abOf.eq_8 <|
  And.intro @Bv.abOf.eq_1 <|
  And.intro @Bv.abOf.eq_2 <|
  And.intro @Av.abOf.eq_1 <|
  And.intro @Av.abOf.eq_2 <|
  And.intro @Av.abOf.eq_3 <|
  And.intro @recv_nil <|
  And.intro @recv_cons <|
  And.intro @abAt_ob <|
  And.intro @ap_genb <|
  And.intro @ap_obb <|
  And.intro @newAv.eq_1 <|
  And.intro @newAv.eq_2 <|
  And.intro @List.tail_cons.{0} <|
  And.intro @rowBytes.eq_1 <|
  And.intro @rowBytes.eq_2 <|
  @rowBytes.eq_3) :=
  And.intro @PO.isCall.eq_1 <|
  And.intro @PO.isCall.eq_2 <|
  And.intro @PO.isCall.eq_3 <|
  And.intro @PO.isCall.eq_4 <|
  And.intro @PO.isCall.eq_5 <|
  And.intro @PO.isCall.eq_6 <|
  And.intro @PO.isCall.eq_7 <|
  And.intro @PO.isCall.eq_8 <|
  And.intro @PO.isCall.eq_9 <|
  And.intro @PO.isCall.eq_10 <|
  And.intro @PO.isCall.eq_11 <|
  And.intro @PO.isCall.eq_12 <|
  And.intro @PO.isCall.eq_13 <|
  And.intro @PO.isCall.eq_14 <|
  And.intro @PO.isCall.eq_15 <|
  And.intro @PO.isCall.eq_16 <|
  And.intro @PO.isCall.eq_17 <|
  And.intro @PO.isCall.eq_18 <|
  And.intro @PO.isCall.eq_19 <|
  And.intro @PO.isCall.eq_20 <|
  And.intro @PO.isCall.eq_21 <|
  And.intro @PO.isCall.eq_22 <|
  And.intro @PO.isCall.eq_23 <|
  And.intro @PO.isCall.eq_24 <|
  And.intro @PO.isCall.eq_25 <|
  And.intro @PO.isCall.eq_26 <|
  And.intro @PO.isCall.eq_27 <|
  And.intro @PO.isCall.eq_28 <|
  And.intro @PO.isCall.eq_29 <|
  And.intro @PO.isCall.eq_30 <|
  And.intro @PO.isCall.eq_31 <|
  And.intro @PO.isCall.eq_32 <|
  And.intro @PO.isCall.eq_33 <|
  And.intro @PO.isCall.eq_34 <|
  And.intro @PO.isCall.eq_35 <|
  And.intro @PO.isCall.eq_36 <|
  And.intro @PO.isCall.eq_37 <|
  And.intro @PO.isCall.eq_38 <|
  And.intro @Option.getD_some.{0} <|
  And.intro @Option.getD_none.{0} <|
  And.intro @ap_sl <|
  And.intro @ap_sl0 <|
  And.intro @ap_gen <|
  And.intro @ap_genw <|
  And.intro @ap_genr <|
  And.intro @ap_genn <|
  And.intro @ap_ob <|
  And.intro @ap_obw <|
  And.intro @ap_obr <|
  And.intro @ap_obn <|
  And.intro @wrF_cells <|
  And.intro @rowF_row <|
  And.intro @init_sl <|
  And.intro @initSl.eq_1 <|
  And.intro @initSl.eq_2 <|
  And.intro @initSl.eq_3 <|
  And.intro @init_gen <|
  And.intro @init_ob <|
  And.intro @ev_t <|
  And.intro @ev_int <|
  And.intro @ev_bool <|
  And.intro @ev_string <|
  And.intro @ev_nil <|
  And.intro @ev_agg <|
  And.intro @ev_ptr <|
  And.intro @args_nil <|
  And.intro @args_cons <|
  And.intro @up_at <|
  And.intro @PO.fn.eq_1 <|
  And.intro @PO.fn.eq_2 <|
  And.intro @PO.fn.eq_3 <|
  And.intro @PO.fn.eq_4 <|
  And.intro @PO.fn.eq_5 <|
  And.intro @PO.fn.eq_6 <|
  And.intro @PO.fn.eq_7 <|
  And.intro @PO.fn.eq_8 <|
  And.intro @PO.fn.eq_9 <|
  And.intro @PO.fn.eq_10 <|
  And.intro @PO.fn.eq_11 <|
  And.intro @PO.fn.eq_12 <|
  And.intro @PO.fn.eq_13 <|
  And.intro @PO.fn.eq_14 <|
  And.intro @PO.fn.eq_15 <|
  And.intro @PO.fn.eq_16 <|
  And.intro @PO.fn.eq_17 <|
  And.intro @PO.fn.eq_18 <|
  And.intro @PO.fn.eq_23 <|
  And.intro @PO.fn.eq_24 <|
  And.intro @PO.fn.eq_25 <|
  And.intro @PO.fn.eq_26 <|
  And.intro @PO.fn.eq_27 <|
  And.intro @PO.fn.eq_28 <|
  And.intro @PO.fn.eq_29 <|
  And.intro @PO.fn.eq_30 <|
  And.intro @PO.fn.eq_31 <|
  And.intro @PO.fn.eq_32 <|
  And.intro @PO.fn.eq_33 <|
  And.intro @PO.fn.eq_34 <|
  And.intro @PO.fn.eq_35 <|
  And.intro @PO.fn.eq_36 <|
  And.intro @PO.fn.eq_37 <|
  And.intro @PO.fn.eq_38 <|
  And.intro @PO.fn.eq_39 <|
  And.intro @PO.fn.eq_40 <|
  And.intro @PO.fn.eq_41 <|
  And.intro @fn_not <|
  And.intro @fn_neg <|
  And.intro @fn_xor <|
  And.intro @unN.eq_1 <|
  And.intro @unG.eq_1 <|
  And.intro @unX.eq_1 <|
  And.intro @PO.rd.eq_1 <|
  And.intro @PO.rd.eq_2 <|
  And.intro @PO.rd.eq_3 <|
  And.intro @PO.rd.eq_4 <|
  And.intro @PO.rd.eq_5 <|
  And.intro @PO.rd.eq_6 <|
  And.intro @PO.rd.eq_7 <|
  And.intro @PO.rd.eq_8 <|
  And.intro @PO.rd.eq_9 <|
  And.intro @PO.rd.eq_10 <|
  And.intro @PO.rd.eq_11 <|
  And.intro @PO.rd.eq_12 <|
  And.intro @PO.rd.eq_13 <|
  And.intro @PO.rd.eq_14 <|
  And.intro @PO.rd.eq_15 <|
  And.intro @PO.rd.eq_16 <|
  And.intro @Cg.wrs.eq_1 <|
  And.intro @Cg.wrs.eq_2 <|
  And.intro @Cg.wrs.eq_3 <|
  And.intro @Cg.wrs.eq_4 <|
  And.intro @Cg.wrs.eq_5 <|
  And.intro @St.cl.eq_1 <|
  And.intro @St.val.eq_1 <|
  And.intro @St.int.eq_1 <|
  And.intro @St.boo.eq_1 <|
  And.intro @St.cs.eq_1 <|
  And.intro @St.parts.eq_1 <|
  And.intro @St.parts.eq_2 <|
  And.intro @scAv.eq_1 <|
  And.intro @Cl.rows.eq_1 <|
  And.intro @Cl.rows.eq_2 <|
  And.intro @Cl.rows.eq_3 <|
  And.intro @Cl.rows.eq_4 <|
  And.intro @Cl.rows.eq_5 <|
  And.intro @Cl.dt.eq_1 <|
  And.intro @Cl.dt.eq_2 <|
  And.intro @Cl.dt.eq_3 <|
  And.intro @Cl.dt.eq_4 <|
  And.intro @Cl.dt.eq_5 <|
  And.intro @Bv.pa.eq_1 <|
  And.intro @Bv.pa.eq_2 <|
  And.intro @Av.pa.eq_1 <|
  And.intro @Av.pa.eq_2 <|
  And.intro @Pa.bv.eq_1 <|
  And.intro @Pa.bv.eq_2 <|
  And.intro @resAv.eq_1 <|
  And.intro @resAv.eq_2 <|
  And.intro @resAv.eq_3 <|
  And.intro @allSome.eq_1 <|
  And.intro @allSome.eq_2 <|
  And.intro @allSome.eq_3 <|
  And.intro @mkAv.eq_1 <|
  And.intro @mkAv.eq_2 <|
  And.intro @wrAt.eq_1 <|
  And.intro @wrAt.eq_2 <|
  And.intro @wrAt.eq_3 <|
  And.intro @wrAt.eq_4 <|
  And.intro @splice.eq_1 <|
  And.intro @fillAll.eq_1 <|
  And.intro @fillAll.eq_2 <|
  And.intro @chunks.eq_1 <|
  And.intro @chunks.eq_2 <|
  And.intro @scBin.eq_1 <|
  And.intro @scBin.eq_2 <|
  And.intro @scBin.eq_3 <|
  And.intro @scBin.eq_4 <|
  And.intro @scBin.eq_5 <|
  And.intro @scBin.eq_6 <|
  And.intro @scBin.eq_7 <|
  And.intro @scBin.eq_8 <|
  And.intro @scBin.eq_9 <|
  And.intro @scBin.eq_10 <|
  And.intro @scBin.eq_11 <|
  And.intro @scBin.eq_12 <|
  And.intro @scBin.eq_13 <|
  And.intro @scBin.eq_14 <|
  And.intro @scBin.eq_15 <|
  And.intro @scBin.eq_16 <|
  And.intro @scBin.eq_17 <|
  And.intro @scBin.eq_18 <|
  And.intro @scBin.eq_19 <|
  And.intro @scBin.eq_20 <|
  And.intro @scBin.eq_21 <|
  And.intro @scBin.eq_22 <|
  And.intro @eqCl.eq_1 <|
  And.intro @eqCl.eq_2 <|
  And.intro @eqCl.eq_3 <|
  And.intro @eqCls.eq_1 <|
  And.intro @eqCls.eq_2 <|
  And.intro @eqCls.eq_3 <|
  And.intro @scMM.eq_1 <|
  And.intro @scMM.eq_2 <|
  And.intro @Option.map_some.{0,0} <|
  And.intro @Option.map_none.{0,0} <|
  And.intro @Option.bind_some.{0,0} <|
  And.intro @List.map_cons.{0,0} <|
  And.intro @List.map_nil.{0,0} <|
  And.intro @List.length_cons.{0} <|
  And.intro @List.length_nil.{0} <|
  And.intro @List.getElem?_cons_succ.{0} <|
  And.intro @List.getElem?_cons_zero.{0} <|
  And.intro @List.take_succ_cons.{0} <|
  And.intro @List.take_zero.{0} <|
  And.intro @List.drop_succ_cons.{0} <|
  And.intro @List.drop_zero.{0} <|
  And.intro @List.cons_append.{0} <|
  And.intro @List.nil_append.{0} <|
  And.intro @List.append_nil.{0} <|
  And.intro @if_true.{1} <|
  And.intro @if_false.{1} <|
  And.intro @ite_true.{1} <|
  And.intro @ite_false.{1} <|
  And.intro @ne_eq.{1} <|
  And.intro @not_true <|
  And.intro @not_false_eq_true <|
  And.intro @Nat.add_zero <|
  And.intro @Nat.zero_add <|
  And.intro @and_true <|
  And.intro @true_and <|
  And.intro @and_self <|
  And.intro @forall_const.{1} <|
  And.intro @forall_const.{0} <|
  And.intro @Bool.not_true <|
  And.intro @Bool.not_false <|
  And.intro @Nat.succ_eq_add_one <|
  And.intro @imp_false <|
  And.intro @false_imp_iff <|
  And.intro @forall_false <|
  And.intro @true_imp_iff <|
  And.intro @Bool.and_true <|
  And.intro @Bool.and_false <|
  And.intro @Bool.true_and <|
  And.intro @Bool.false_and <|
  And.intro @implies_true.{1} <|
  And.intro @implies_true.{0} <|
  And.intro @over_sl <|
  And.intro @over_gen <|
  And.intro @over_ob <|
  And.intro @List.contains_cons.{0} <|
  And.intro @List.contains_nil.{0} <|
  And.intro @Bool.or_false <|
  And.intro @Bool.or_true <|
  And.intro @Bool.false_or <|
  And.intro @Bool.true_or <|
  And.intro @cond_true.{1} <|
  And.intro @cond_false.{1} <|
  And.intro @Bool.cond_true.{0} <|
  And.intro @Bool.cond_false.{0} <|
  And.intro @Int.toNat_natCast <|
  And.intro @Int.natCast_nonneg <|
  And.intro @List.getElem?_map.{0,0} <|
  And.intro @List.length_map.{0,0} <|
  And.intro @List.mem_cons.{0} <|
  And.intro @List.not_mem_nil.{0} <|
  And.intro @forall_eq.{1} <|
  And.intro @forall_eq_or_imp.{1} <|
  And.intro @false_or <|
  And.intro @or_true <|
  And.intro @true_or <|
  And.intro @or_false <|
  And.intro @St.res.eq_1 <|
  And.intro @St.res1.eq_1 <|
  And.intro @St.res1.eq_2 <|
  And.intro @decide_eq_true_eq <|
  And.intro @decide_eq_false_iff_not <|
  And.intro @Cl.abOf.eq_1 <|
  And.intro @Cl.abOf.eq_2 <|
  And.intro @Cl.abOf.eq_3 <|
  And.intro @Cl.abOf.eq_4 <|
  And.intro @Cl.abOf.eq_5 <|
  And.intro @Cl.abOf.eq_6 <|
  And.intro @Cl.abOf.eq_7 <|
  And.intro @Cl.abOf.eq_8 <|
  And.intro @Bv.abOf.eq_1 <|
  And.intro @Bv.abOf.eq_2 <|
  And.intro @Av.abOf.eq_1 <|
  And.intro @Av.abOf.eq_2 <|
  And.intro @Av.abOf.eq_3 <|
  And.intro @recv_nil <|
  And.intro @recv_cons <|
  And.intro @abAt_ob <|
  And.intro @ap_genb <|
  And.intro @ap_obb <|
  And.intro @newAv.eq_1 <|
  And.intro @newAv.eq_2 <|
  And.intro @List.tail_cons.{0} <|
  And.intro @rowBytes.eq_1 <|
  And.intro @rowBytes.eq_2 <|
  @rowBytes.eq_3
end Go.Proofs.YthnjbnfnljjepabDoor
end
section
namespace Go.Proofs
open Go.Shelf
def Tryd.lays156_ren : Go.Shelf.Ren := ⟨fun | 156 => 31 | 165 => 42 | 166 => 43 | 169 => 44 | 240 => 50 | 241 => 51 | 276 => 63 | 277 => 64 | n => n, fun | 31 => 38 | 9 => 9 | 3 => 3 | 4 => 4 | 0 => 0 | 20 => 20 | 72 => 54 | 76 => 58 | 70 => 51 | 37 => 52 | 75 => 57 | 127 => 65 | 164 => 75 | 5 => 5 | 80 => 60 | n => n, fun | n => n⟩
theorem Tryd.lays156 : Go.Proofs.Lays.n156 Tryd.prog Tryd.lays156_ren := {
  mixed := by kernel_rfl
  f156 := Tryd.func31.trans (congrArg some (by kernel_rfl))
  f165 := Tryd.func42.trans (congrArg some (by kernel_rfl))
  f166 := Tryd.func43.trans (congrArg some (by kernel_rfl))
  f169 := Tryd.func44.trans (congrArg some (by kernel_rfl))
  f240 := Tryd.func50.trans (congrArg some (by kernel_rfl))
  f241 := Tryd.func51.trans (congrArg some (by kernel_rfl))
  f276 := Tryd.func63.trans (congrArg some (by kernel_rfl))
  f277 := Tryd.func64.trans (congrArg some (by kernel_rfl))
  t0 := Tryd.underlying0
  a0 := Tryd.isAgg0
  z0 := Tryd.sizeOf0
  v0 := Tryd.zeroValue0
  t3 := Tryd.underlying3
  a3 := Tryd.isAgg3
  z3 := Tryd.sizeOf3
  v3 := Tryd.zeroValue3
  t4 := Tryd.underlying4
  a4 := Tryd.isAgg4
  z4 := Tryd.sizeOf4
  v4 := Tryd.zeroValue4
  t9 := Tryd.underlying9
  a9 := Tryd.isAgg9
  z9 := Tryd.sizeOf9
  v9 := Tryd.zeroValue9
  t20 := Tryd.underlying20
  a20 := Tryd.isAgg20
  z20 := Tryd.sizeOf20
  v20 := Tryd.zeroValue20
  t31 := Tryd.underlying38
  a31 := Tryd.isAgg38
  z31 := Tryd.sizeOf38
  v31 := Tryd.zeroValue38
  t37 := Tryd.underlying52
  a37 := Tryd.isAgg52
  z37 := Tryd.sizeOf52
  v37 := Tryd.zeroValue52
  t70 := Tryd.underlying51
  a70 := Tryd.isAgg51
  z70 := Tryd.sizeOf51
  v70 := Tryd.zeroValue51
  t72 := Tryd.underlying54
  a72 := Tryd.isAgg54
  z72 := Tryd.sizeOf54
  v72 := Tryd.zeroValue54
  t75 := Tryd.underlying57
  a75 := Tryd.isAgg57
  z75 := Tryd.sizeOf57
  v75 := Tryd.zeroValue57
  t76 := Tryd.underlying58
  a76 := Tryd.isAgg58
  z76 := Tryd.sizeOf58
  v76 := Tryd.zeroValue58
  t127 := Tryd.underlying65
  a127 := Tryd.isAgg65
  z127 := Tryd.sizeOf65
  v127 := Tryd.zeroValue65
  t164 := Tryd.underlying75
  a164 := Tryd.isAgg75
  z164 := Tryd.sizeOf75
  v164 := Tryd.zeroValue75 }
theorem Tryd.Builder_Extra_156 : Builder.Extra Tryd.prog Tryd.lays156_ren := {
  sizeBuilder := by kernel_rfl
  liesBuilder := by kernel_rfl
  t5 := Tryd.underlying5
  a5 := Tryd.isAgg5
  z5 := Tryd.sizeOf5
  v5 := Tryd.zeroValue5
  infoByte := by kernel_rfl
  cellsByte := by kernel_rfl
  sizeByte := by kernel_rfl
  neB5 := by decide }
open Go.RowKit in
/-- No element: the empty string; the world is as it was. (Whatever the slice's address and capacity: a nil slice too.) (LAID: no walk: one application.) -/
theorem Tryd.strings_Join_none (a : Option Addr) (c : Nat) (sep : ByteArray) (w : World) :
    Calls Tryd.prog 31 #[.slice a 0 c, .string sep] w fun e w' => e = .returned (.string ⟨#[]⟩) ∧ w' = w := Any.strings_Join_none Tryd.lays156 Tryd.Builder_Extra_156 a c sep w
open Go.RowKit in
/-- strings.Join: "Join concatenates the elements of its first argument to create a single string. The separator string sep is placed between elements in the resulting string.": HOWEVER MANY ELEMENTS. Below the heap's end the world is as it was. (LAID: no walk: one application.) -/
theorem Tryd.strings_Join (bk o c : Nat) (xs : List ByteArray) (sep : ByteArray) (w : World) (hcells : ∀ (j : Nat) x, xs[j]? = some x → w.cell? ⟨bk, o + j, none⟩ = some (.string x)) (hbk : bk < w.heap.size) (hN : xs.length ≤ 140737488355328) (hcap : xs.length ≤ c) (hlen : (Lib.join (xs.map (·.data.toList)) sep.data.toList).length ≤ 140737488355328) :
    Calls Tryd.prog 31 #[.slice (some ⟨bk, o, none⟩) xs.length c, .string sep] w fun e w' => e = .returned (.string ⟨(Lib.join (xs.map (·.data.toList)) sep.data.toList).toArray⟩) ∧ Below w.heap.size w w' := Any.strings_Join Tryd.lays156 Tryd.Builder_Extra_156 bk o c xs sep w hcells hbk hN hcap hlen
def Tryd.lays103_ren : Go.Shelf.Ren := ⟨fun | 103 => 37 | 210 => 48 | 206 => 58 | n => n, fun | 9 => 9 | 4 => 4 | 24 => 44 | 3 => 3 | n => n, fun | n => n⟩
theorem Tryd.lays103 : Go.Proofs.Lays.n103 Tryd.prog Tryd.lays103_ren := {
  mixed := by kernel_rfl
  f103 := Tryd.func37.trans (congrArg some (by kernel_rfl))
  f206 := Tryd.func58.trans (congrArg some (by kernel_rfl))
  f210 := Tryd.func48.trans (congrArg some (by kernel_rfl))
  t3 := Tryd.underlying3
  a3 := Tryd.isAgg3
  z3 := Tryd.sizeOf3
  v3 := Tryd.zeroValue3
  t4 := Tryd.underlying4
  a4 := Tryd.isAgg4
  z4 := Tryd.sizeOf4
  v4 := Tryd.zeroValue4
  t9 := Tryd.underlying9
  a9 := Tryd.isAgg9
  z9 := Tryd.sizeOf9
  v9 := Tryd.zeroValue9
  t24 := Tryd.underlying44
  a24 := Tryd.isAgg44
  z24 := Tryd.sizeOf44
  v24 := Tryd.zeroValue44 }
open Go.RowKit in
/-- strings.CutPrefix: "CutPrefix returns s without the provided leading prefix string and reports whether it found the prefix. If s doesn't start with prefix, CutPrefix returns s, false. If prefix is the empty string, CutPrefix returns s, true.": IT RETURNS '(Lib.trimPrefix s p, Lib.hasPrefix s p)'; the world is as it was. (LAID: no walk: one application.) -/
theorem Tryd.strings_CutPrefix (s p : ByteArray) (w : World) :
    Calls Tryd.prog 37 #[.string s, .string p] w fun e w' => e = .returned (.tuple #[.string ⟨(Lib.trimPrefix s.data.toList p.data.toList).toArray⟩, .bool (Lib.hasPrefix s.data.toList p.data.toList)]) ∧ w' = w := Any.strings_CutPrefix Tryd.lays103 s p w
def Tryd.laysM171_ren : Go.Shelf.Ren := ⟨fun | 171 => 30 | 243 => 41 | 246 => 49 | 283 => 59 | 284 => 60 | 285 => 61 | 286 => 62 | 129 => 75 | 317 => 74 | 318 => 76 | 319 => 77 | 320 => 78 | 337 => 87 | 338 => 88 | n => n, fun | 3 => 3 | 9 => 9 | 2 => 2 | 4 => 4 | 171 => 69 | 0 => 0 | 53 => 70 | 37 => 52 | 5 => 5 | 173 => 73 | 212 => 89 | 51 => 90 | 20 => 20 | 213 => 91 | 46 => 92 | 232 => 111 | 233 => 112 | n => n, fun | 17 => 1 | 18 => 7 | 19 => 8 | n => n⟩
theorem Tryd.laysM171 : Go.Proofs.LaysM.n171 Tryd.prog Tryd.laysM171_ren := {
  mixed := by kernel_rfl
  f129 := Tryd.func75.trans (congrArg some (by kernel_rfl))
  f171 := Tryd.func30.trans (congrArg some (by kernel_rfl))
  f243 := Tryd.func41.trans (congrArg some (by kernel_rfl))
  f246 := Tryd.func49.trans (congrArg some (by kernel_rfl))
  f283 := Tryd.func59.trans (congrArg some (by kernel_rfl))
  f284 := Tryd.func60.trans (congrArg some (by kernel_rfl))
  f285 := Tryd.func61.trans (congrArg some (by kernel_rfl))
  f286 := Tryd.func62.trans (congrArg some (by kernel_rfl))
  f317 := Tryd.func74.trans (congrArg some (by kernel_rfl))
  f318 := Tryd.func76.trans (congrArg some (by kernel_rfl))
  f319 := Tryd.func77.trans (congrArg some (by kernel_rfl))
  f320 := Tryd.func78.trans (congrArg some (by kernel_rfl))
  f337 := Tryd.func87.trans (congrArg some (by kernel_rfl))
  f338 := Tryd.func88.trans (congrArg some (by kernel_rfl))
  t0 := Tryd.underlying0
  a0 := Tryd.isAgg0
  z0 := Tryd.sizeOf0
  v0 := Tryd.zeroValue0
  t2 := Tryd.underlying2
  a2 := Tryd.isAgg2
  z2 := Tryd.sizeOf2
  v2 := Tryd.zeroValue2
  t3 := Tryd.underlying3
  a3 := Tryd.isAgg3
  z3 := Tryd.sizeOf3
  v3 := Tryd.zeroValue3
  t4 := Tryd.underlying4
  a4 := Tryd.isAgg4
  z4 := Tryd.sizeOf4
  v4 := Tryd.zeroValue4
  t5 := Tryd.underlying5
  a5 := Tryd.isAgg5
  z5 := Tryd.sizeOf5
  v5 := Tryd.zeroValue5
  t9 := Tryd.underlying9
  a9 := Tryd.isAgg9
  z9 := Tryd.sizeOf9
  v9 := Tryd.zeroValue9
  t20 := Tryd.underlying20
  a20 := Tryd.isAgg20
  z20 := Tryd.sizeOf20
  v20 := Tryd.zeroValue20
  t37 := Tryd.underlying52
  a37 := Tryd.isAgg52
  z37 := Tryd.sizeOf52
  v37 := Tryd.zeroValue52
  t46 := Tryd.underlying92
  a46 := Tryd.isAgg92
  z46 := Tryd.sizeOf92
  v46 := Tryd.zeroValue92
  t51 := Tryd.underlying90
  a51 := Tryd.isAgg90
  z51 := Tryd.sizeOf90
  v51 := Tryd.zeroValue90
  t53 := Tryd.underlying70
  a53 := Tryd.isAgg70
  z53 := Tryd.sizeOf70
  v53 := Tryd.zeroValue70
  t171 := Tryd.underlying69
  a171 := Tryd.isAgg69
  z171 := Tryd.sizeOf69
  v171 := Tryd.zeroValue69
  t173 := Tryd.underlying73
  a173 := Tryd.isAgg73
  z173 := Tryd.sizeOf73
  v173 := Tryd.zeroValue73
  t212 := Tryd.underlying89
  a212 := Tryd.isAgg89
  z212 := Tryd.sizeOf89
  v212 := Tryd.zeroValue89
  t213 := Tryd.underlying91
  a213 := Tryd.isAgg91
  z213 := Tryd.sizeOf91
  t232 := Tryd.underlying111
  a232 := Tryd.isAgg111
  z232 := Tryd.sizeOf111
  v232 := Tryd.zeroValue111
  t233 := Tryd.underlying112
  a233 := Tryd.isAgg112
  z233 := Tryd.sizeOf112
  v233 := Tryd.zeroValue112
  g17 := by kernel_rfl
  g18 := by kernel_rfl
  g19 := by kernel_rfl
  i0 := by kernel_rfl
  i2 := by kernel_rfl
  i3 := by kernel_rfl
  i4 := by kernel_rfl
  i5 := by kernel_rfl
  i9 := by kernel_rfl
  i20 := by kernel_rfl
  i37 := by kernel_rfl
  i46 := by kernel_rfl
  i51 := by kernel_rfl
  i53 := by kernel_rfl
  i171 := by kernel_rfl
  i173 := by kernel_rfl
  i212 := by kernel_rfl
  i232 := by kernel_rfl
  i233 := by kernel_rfl
  m17 := by kernel_rfl
  m18 := by kernel_rfl
  m19 := by kernel_rfl }
open Go.RowKit Go.Sort Go.Lib in
/-- strconv.Itoa: "Itoa is equivalent to FormatInt(int64(i), 10).": i's DECIMAL NUMERAL ('Lib.itoa': a '-' where i is negative, then the digits), FOR EVERY int. The world behind the call: the world before it, new blocks behind the heap (the library's 'var a [24]byte'), draws. (LAID: no walk: one application.) -/
theorem Tryd.strconv_Itoa (n : Int) (h0 : -9223372036854775808 ≤ n) (h1 : n ≤ 9223372036854775807) (w : World) (htab : Lib.TabIs Tryd.prog w "internal/strconv.uint64pow10" .u64 Lib.pow10Tab) :
    Calls Tryd.prog 30 #[.int .i64 n] w fun e w' => e = .returned (.string ⟨(Lib.itoa n).toArray⟩) ∧ ∃ k os, w' = grow (w.drewN k) os := Any.strconv_Itoa Tryd.laysM171 n h0 h1 w htab
def Tryd.laysC172_ren : Go.Shelf.Ren := ⟨fun | 172 => 46 | 244 => 55 | 245 => 56 | 247 => 69 | 279 => 70 | 280 => 71 | 281 => 72 | 282 => 73 | 287 => 84 | 316 => 85 | 171 => 30 | 205 => 86 | 321 => 91 | 322 => 92 | 243 => 41 | 246 => 49 | 283 => 59 | 284 => 60 | 285 => 61 | 286 => 62 | 129 => 75 | 317 => 74 | 318 => 76 | 319 => 77 | 320 => 78 | 337 => 87 | 338 => 88 | n => n, fun | 9 => 9 | 3 => 3 | 75 => 57 | 76 => 58 | 4 => 4 | 5 => 5 | 167 => 81 | 37 => 52 | 0 => 0 | 85 => 82 | 2 => 2 | 168 => 84 | 53 => 70 | 175 => 94 | 46 => 92 | 210 => 98 | 127 => 65 | 145 => 110 | 143 => 108 | 21 => 21 | 171 => 69 | 173 => 73 | 212 => 89 | 51 => 90 | 20 => 20 | 213 => 91 | 232 => 111 | 233 => 112 | 80 => 60 | n => n, fun | 15 => 3 | 16 => 4 | 17 => 1 | 18 => 7 | 19 => 8 | n => n⟩
theorem Tryd.laysC172 : Go.Proofs.LaysC.n172 Tryd.prog Tryd.laysC172_ren := {
  mixed := by kernel_rfl
  f129 := Tryd.func75.trans (congrArg some (by kernel_rfl))
  f171 := Tryd.func30.trans (congrArg some (by kernel_rfl))
  f172 := Tryd.func46.trans (congrArg some (by kernel_rfl))
  f205 := Tryd.func86.trans (congrArg some (by kernel_rfl))
  f243 := Tryd.func41.trans (congrArg some (by kernel_rfl))
  f244 := Tryd.func55.trans (congrArg some (by kernel_rfl))
  f245 := Tryd.func56.trans (congrArg some (by kernel_rfl))
  f246 := Tryd.func49.trans (congrArg some (by kernel_rfl))
  f247 := Tryd.func69.trans (congrArg some (by kernel_rfl))
  f279 := Tryd.func70.trans (congrArg some (by kernel_rfl))
  f280 := Tryd.func71.trans (congrArg some (by kernel_rfl))
  f281 := Tryd.func72.trans (congrArg some (by kernel_rfl))
  f282 := Tryd.func73.trans (congrArg some (by kernel_rfl))
  f283 := Tryd.func59.trans (congrArg some (by kernel_rfl))
  f284 := Tryd.func60.trans (congrArg some (by kernel_rfl))
  f285 := Tryd.func61.trans (congrArg some (by kernel_rfl))
  f286 := Tryd.func62.trans (congrArg some (by kernel_rfl))
  f287 := Tryd.func84.trans (congrArg some (by kernel_rfl))
  f316 := Tryd.func85.trans (congrArg some (by kernel_rfl))
  f317 := Tryd.func74.trans (congrArg some (by kernel_rfl))
  f318 := Tryd.func76.trans (congrArg some (by kernel_rfl))
  f319 := Tryd.func77.trans (congrArg some (by kernel_rfl))
  f320 := Tryd.func78.trans (congrArg some (by kernel_rfl))
  f321 := Tryd.func91.trans (congrArg some (by kernel_rfl))
  f322 := Tryd.func92.trans (congrArg some (by kernel_rfl))
  f337 := Tryd.func87.trans (congrArg some (by kernel_rfl))
  f338 := Tryd.func88.trans (congrArg some (by kernel_rfl))
  t0 := Tryd.underlying0
  a0 := Tryd.isAgg0
  z0 := Tryd.sizeOf0
  v0 := Tryd.zeroValue0
  t2 := Tryd.underlying2
  a2 := Tryd.isAgg2
  z2 := Tryd.sizeOf2
  v2 := Tryd.zeroValue2
  t3 := Tryd.underlying3
  a3 := Tryd.isAgg3
  z3 := Tryd.sizeOf3
  v3 := Tryd.zeroValue3
  t4 := Tryd.underlying4
  a4 := Tryd.isAgg4
  z4 := Tryd.sizeOf4
  v4 := Tryd.zeroValue4
  t5 := Tryd.underlying5
  a5 := Tryd.isAgg5
  z5 := Tryd.sizeOf5
  v5 := Tryd.zeroValue5
  t9 := Tryd.underlying9
  a9 := Tryd.isAgg9
  z9 := Tryd.sizeOf9
  v9 := Tryd.zeroValue9
  t20 := Tryd.underlying20
  a20 := Tryd.isAgg20
  z20 := Tryd.sizeOf20
  v20 := Tryd.zeroValue20
  t21 := Tryd.underlying21
  a21 := Tryd.isAgg21
  z21 := Tryd.sizeOf21
  v21 := Tryd.zeroValue21
  t37 := Tryd.underlying52
  a37 := Tryd.isAgg52
  z37 := Tryd.sizeOf52
  v37 := Tryd.zeroValue52
  t46 := Tryd.underlying92
  a46 := Tryd.isAgg92
  z46 := Tryd.sizeOf92
  v46 := Tryd.zeroValue92
  t51 := Tryd.underlying90
  a51 := Tryd.isAgg90
  z51 := Tryd.sizeOf90
  v51 := Tryd.zeroValue90
  t53 := Tryd.underlying70
  a53 := Tryd.isAgg70
  z53 := Tryd.sizeOf70
  v53 := Tryd.zeroValue70
  t75 := Tryd.underlying57
  a75 := Tryd.isAgg57
  z75 := Tryd.sizeOf57
  v75 := Tryd.zeroValue57
  t76 := Tryd.underlying58
  a76 := Tryd.isAgg58
  z76 := Tryd.sizeOf58
  v76 := Tryd.zeroValue58
  t85 := Tryd.underlying82
  a85 := Tryd.isAgg82
  z85 := Tryd.sizeOf82
  v85 := Tryd.zeroValue82
  t127 := Tryd.underlying65
  a127 := Tryd.isAgg65
  z127 := Tryd.sizeOf65
  v127 := Tryd.zeroValue65
  t143 := Tryd.underlying108
  a143 := Tryd.isAgg108
  z143 := Tryd.sizeOf108
  v143 := Tryd.zeroValue108
  t145 := Tryd.underlying110
  a145 := Tryd.isAgg110
  z145 := Tryd.sizeOf110
  v145 := Tryd.zeroValue110
  t167 := Tryd.underlying81
  a167 := Tryd.isAgg81
  z167 := Tryd.sizeOf81
  v167 := Tryd.zeroValue81
  t168 := Tryd.underlying84
  a168 := Tryd.isAgg84
  z168 := Tryd.sizeOf84
  v168 := Tryd.zeroValue84
  t171 := Tryd.underlying69
  a171 := Tryd.isAgg69
  z171 := Tryd.sizeOf69
  v171 := Tryd.zeroValue69
  t173 := Tryd.underlying73
  a173 := Tryd.isAgg73
  z173 := Tryd.sizeOf73
  v173 := Tryd.zeroValue73
  t175 := Tryd.underlying94
  a175 := Tryd.isAgg94
  z175 := Tryd.sizeOf94
  v175 := Tryd.zeroValue94
  t210 := Tryd.underlying98
  a210 := Tryd.isAgg98
  z210 := Tryd.sizeOf98
  v210 := Tryd.zeroValue98
  t212 := Tryd.underlying89
  a212 := Tryd.isAgg89
  z212 := Tryd.sizeOf89
  v212 := Tryd.zeroValue89
  t213 := Tryd.underlying91
  a213 := Tryd.isAgg91
  z213 := Tryd.sizeOf91
  t232 := Tryd.underlying111
  a232 := Tryd.isAgg111
  z232 := Tryd.sizeOf111
  v232 := Tryd.zeroValue111
  t233 := Tryd.underlying112
  a233 := Tryd.isAgg112
  z233 := Tryd.sizeOf112
  v233 := Tryd.zeroValue112
  g15 := by kernel_rfl
  g16 := by kernel_rfl
  g17 := by kernel_rfl
  g18 := by kernel_rfl
  g19 := by kernel_rfl
  t80 := Tryd.underlying60
  a80 := Tryd.isAgg60
  z80 := Tryd.sizeOf60
  v80 := Tryd.zeroValue60
  i0 := by kernel_rfl
  i2 := by kernel_rfl
  i3 := by kernel_rfl
  i4 := by kernel_rfl
  i5 := by kernel_rfl
  i9 := by kernel_rfl
  i20 := by kernel_rfl
  i21 := by kernel_rfl
  i37 := by kernel_rfl
  i46 := by kernel_rfl
  i51 := by kernel_rfl
  i53 := by kernel_rfl
  i75 := by kernel_rfl
  i76 := by kernel_rfl
  i80 := by kernel_rfl
  i85 := by kernel_rfl
  i127 := by kernel_rfl
  i143 := by kernel_rfl
  i145 := by kernel_rfl
  i167 := by kernel_rfl
  i168 := by kernel_rfl
  i171 := by kernel_rfl
  i173 := by kernel_rfl
  i175 := by kernel_rfl
  i210 := by kernel_rfl
  i212 := by kernel_rfl
  i232 := by kernel_rfl
  i233 := by kernel_rfl
  m15 := by kernel_rfl
  m16 := by kernel_rfl
  m17 := by kernel_rfl
  m18 := by kernel_rfl
  m19 := by kernel_rfl
  c0 := by kernel_rfl
  c2 := by kernel_rfl
  c3 := by kernel_rfl
  c4 := by kernel_rfl
  c5 := by kernel_rfl
  c9 := by kernel_rfl
  c20 := by kernel_rfl
  c21 := by kernel_rfl
  c37 := by kernel_rfl
  c46 := by kernel_rfl
  c51 := by kernel_rfl
  c53 := by kernel_rfl
  c75 := by kernel_rfl
  c76 := by kernel_rfl
  c80 := by kernel_rfl
  c85 := by kernel_rfl
  c127 := by kernel_rfl
  c143 := by kernel_rfl
  c145 := by kernel_rfl
  c167 := by kernel_rfl
  c168 := by kernel_rfl
  c171 := by kernel_rfl
  c173 := by kernel_rfl
  c175 := by kernel_rfl
  c210 := by kernel_rfl
  c212 := by kernel_rfl
  c213 := by kernel_rfl
  c232 := by kernel_rfl
  c233 := by kernel_rfl }
open Go.RowKit in
/-- strconv.Atoi, AT EVERY STRING THAT SPELLS AN int ('Lib.atoiAll .. = .ok v'; of whatever length: leading zeros count): v, AND NO ERROR. The world: as it was, or with the one new row that '[]byte(..)' lays. (LAID: no walk: one application.) -/
theorem Tryd.strconv_Atoi_ok (s : ByteArray) (hmax : s.size ≤ 9223372036854775806) (v : Int) (h : Lib.atoiAll s.data.toList = .ok v) (w : World) :
    Calls Tryd.prog 46 #[.string s] w fun e w' => e = .returned (.tuple #[.int .i64 v, .nilIface]) ∧ (w' = w ∨ ∃ t, w' = Lib.bytesWorld w 5 t) := Any.strconv_Atoi_ok Tryd.laysC172 s hmax v h w
open Go.RowKit in
theorem Tryd.strconv_Atoi_syntax_var (s : ByteArray) (hlim : s.size ≤ 281474976710656) (h : Lib.atoiAll s.data.toList = Lib.NumEnd.syntax) (tp : TypeId) (p : Value) (w : World) (hvar : w.var? Tryd.prog "strconv.ErrSyntax" = some #[.iface tp p]) :
    Calls Tryd.prog 46 #[.string s] w fun e w' => ∃ N, e = .returned (.tuple #[.int .i64 0, .iface 84 (.pointer (some ⟨N, 0, none⟩))]) ∧ w.heap.size ≤ N ∧ w'.heap[N]? = some (.cells #[.string ⟨#[65, 116, 111, 105]⟩, .string s, .iface tp p] 98 (0, 0)) ∧ Below w.heap.size w w' := Any.strconv_Atoi_syntax_var Tryd.laysC172 s hlim h tp p w hvar
open Go.RowKit in
theorem Tryd.strconv_Atoi_range_var (s : ByteArray) (hlim : s.size ≤ 281474976710656) (h : Lib.atoiAll s.data.toList = .range) (tp : TypeId) (p : Value) (w : World) (hvar : w.var? Tryd.prog "strconv.ErrRange" = some #[.iface tp p]) :
    Calls Tryd.prog 46 #[.string s] w fun e w' => ∃ N, e = .returned (.tuple #[.int .i64 (Lib.atoiSat s.data.toList), .iface 84 (.pointer (some ⟨N, 0, none⟩))]) ∧ w.heap.size ≤ N ∧ w'.heap[N]? = some (.cells #[.string ⟨#[65, 116, 111, 105]⟩, .string s, .iface tp p] 98 (0, 0)) ∧ Below w.heap.size w w' := Any.strconv_Atoi_range_var Tryd.laysC172 s hlim h tp p w hvar
def Tryd.lays145_ren : Go.Shelf.Ren := ⟨fun | 145 => 47 | 220 => 57 | 219 => 68 | 217 => 80 | 225 => 81 | 224 => 82 | 267 => 83 | 266 => 89 | 314 => 90 | n => n, fun | 9 => 9 | 4 => 4 | 59 => 62 | 3 => 3 | 5 => 5 | 46 => 92 | 146 => 105 | 51 => 90 | n => n, fun | 1 => 2 | n => n⟩
theorem Tryd.lays145 : Go.Proofs.Lays.n145 Tryd.prog Tryd.lays145_ren := {
  mixed := by kernel_rfl
  f145 := Tryd.func47.trans (congrArg some (by kernel_rfl))
  f217 := Tryd.func80.trans (congrArg some (by kernel_rfl))
  f219 := Tryd.func68.trans (congrArg some (by kernel_rfl))
  f220 := Tryd.func57.trans (congrArg some (by kernel_rfl))
  f224 := Tryd.func82.trans (congrArg some (by kernel_rfl))
  f225 := Tryd.func81.trans (congrArg some (by kernel_rfl))
  f266 := Tryd.func89.trans (congrArg some (by kernel_rfl))
  f267 := Tryd.func83.trans (congrArg some (by kernel_rfl))
  f314 := Tryd.func90.trans (congrArg some (by kernel_rfl))
  t3 := Tryd.underlying3
  a3 := Tryd.isAgg3
  z3 := Tryd.sizeOf3
  v3 := Tryd.zeroValue3
  t4 := Tryd.underlying4
  a4 := Tryd.isAgg4
  z4 := Tryd.sizeOf4
  v4 := Tryd.zeroValue4
  t5 := Tryd.underlying5
  a5 := Tryd.isAgg5
  z5 := Tryd.sizeOf5
  v5 := Tryd.zeroValue5
  t9 := Tryd.underlying9
  a9 := Tryd.isAgg9
  z9 := Tryd.sizeOf9
  v9 := Tryd.zeroValue9
  t46 := Tryd.underlying92
  a46 := Tryd.isAgg92
  z46 := Tryd.sizeOf92
  v46 := Tryd.zeroValue92
  t51 := Tryd.underlying90
  a51 := Tryd.isAgg90
  z51 := Tryd.sizeOf90
  v51 := Tryd.zeroValue90
  t59 := Tryd.underlying62
  a59 := Tryd.isAgg62
  z59 := Tryd.sizeOf62
  v59 := Tryd.zeroValue62
  t146 := Tryd.underlying105
  a146 := Tryd.isAgg105
  z146 := Tryd.sizeOf105
  v146 := Tryd.zeroValue105
  g1 := by kernel_rfl }
open Go.RowKit Go.Lib in
/-- strings.Cut: "Cut slices s around the first instance of sep, returning the text before and after sep. The found result reports whether sep appears in s. If sep does not appear in s, cut returns s, "", false.": IT RETURNS 'Lib.cut s sep'; the world is as it was but for the count of draws. (LAID: no walk: one application.) -/
theorem Tryd.strings_Cut (s sep : ByteArray) (m : Int) (w : World) (hs : s.size < 4294967281) (hm : w.cell? ⟨2, 0, none⟩ = some (.int .i64 m)) :
    Calls Tryd.prog 47 #[.string s, .string sep] w fun e w' => e = .returned (.tuple #[.string ⟨(Lib.cut s.data.toList sep.data.toList).1.toArray⟩, .string ⟨(Lib.cut s.data.toList sep.data.toList).2.1.toArray⟩, .bool (Lib.cut s.data.toList sep.data.toList).2.2]) ∧ ∃ n, w' = w.drewN n := Any.strings_Cut Tryd.lays145 s sep m w hs hm
def Tryd.lays146_ren : Go.Shelf.Ren := ⟨fun | 146 => 33 | 221 => 45 | 268 => 52 | 138 => 53 | 143 => 54 | 195 => 65 | 197 => 66 | 218 => 67 | 219 => 68 | 260 => 79 | 217 => 80 | 225 => 81 | 224 => 82 | 267 => 83 | 266 => 89 | 314 => 90 | n => n, fun | 9 => 9 | 31 => 38 | 3 => 3 | 4 => 4 | 0 => 0 | 105 => 78 | 21 => 21 | 5 => 5 | 46 => 92 | 119 => 101 | 139 => 104 | 138 => 103 | 146 => 105 | 51 => 90 | n => n, fun | 1 => 2 | 3 => 5 | 4 => 6 | n => n⟩
theorem Tryd.lays146 : Go.Proofs.Lays.n146 Tryd.prog Tryd.lays146_ren := {
  mixed := by kernel_rfl
  f138 := Tryd.func53.trans (congrArg some (by kernel_rfl))
  f143 := Tryd.func54.trans (congrArg some (by kernel_rfl))
  f146 := Tryd.func33.trans (congrArg some (by kernel_rfl))
  f195 := Tryd.func65.trans (congrArg some (by kernel_rfl))
  f197 := Tryd.func66.trans (congrArg some (by kernel_rfl))
  f217 := Tryd.func80.trans (congrArg some (by kernel_rfl))
  f218 := Tryd.func67.trans (congrArg some (by kernel_rfl))
  f219 := Tryd.func68.trans (congrArg some (by kernel_rfl))
  f221 := Tryd.func45.trans (congrArg some (by kernel_rfl))
  f224 := Tryd.func82.trans (congrArg some (by kernel_rfl))
  f225 := Tryd.func81.trans (congrArg some (by kernel_rfl))
  f260 := Tryd.func79.trans (congrArg some (by kernel_rfl))
  f266 := Tryd.func89.trans (congrArg some (by kernel_rfl))
  f267 := Tryd.func83.trans (congrArg some (by kernel_rfl))
  f268 := Tryd.func52.trans (congrArg some (by kernel_rfl))
  f314 := Tryd.func90.trans (congrArg some (by kernel_rfl))
  t0 := Tryd.underlying0
  a0 := Tryd.isAgg0
  z0 := Tryd.sizeOf0
  v0 := Tryd.zeroValue0
  t3 := Tryd.underlying3
  a3 := Tryd.isAgg3
  z3 := Tryd.sizeOf3
  v3 := Tryd.zeroValue3
  t4 := Tryd.underlying4
  a4 := Tryd.isAgg4
  z4 := Tryd.sizeOf4
  v4 := Tryd.zeroValue4
  t5 := Tryd.underlying5
  a5 := Tryd.isAgg5
  z5 := Tryd.sizeOf5
  v5 := Tryd.zeroValue5
  t9 := Tryd.underlying9
  a9 := Tryd.isAgg9
  z9 := Tryd.sizeOf9
  v9 := Tryd.zeroValue9
  t21 := Tryd.underlying21
  a21 := Tryd.isAgg21
  z21 := Tryd.sizeOf21
  v21 := Tryd.zeroValue21
  t31 := Tryd.underlying38
  a31 := Tryd.isAgg38
  z31 := Tryd.sizeOf38
  v31 := Tryd.zeroValue38
  t46 := Tryd.underlying92
  a46 := Tryd.isAgg92
  z46 := Tryd.sizeOf92
  v46 := Tryd.zeroValue92
  t51 := Tryd.underlying90
  a51 := Tryd.isAgg90
  z51 := Tryd.sizeOf90
  v51 := Tryd.zeroValue90
  t105 := Tryd.underlying78
  a105 := Tryd.isAgg78
  z105 := Tryd.sizeOf78
  v105 := Tryd.zeroValue78
  t119 := Tryd.underlying101
  a119 := Tryd.isAgg101
  z119 := Tryd.sizeOf101
  t138 := Tryd.underlying103
  a138 := Tryd.isAgg103
  z138 := Tryd.sizeOf103
  v138 := Tryd.zeroValue103
  t139 := Tryd.underlying104
  a139 := Tryd.isAgg104
  z139 := Tryd.sizeOf104
  v139 := Tryd.zeroValue104
  t146 := Tryd.underlying105
  a146 := Tryd.isAgg105
  z146 := Tryd.sizeOf105
  v146 := Tryd.zeroValue105
  g1 := by kernel_rfl
  g3 := by kernel_rfl
  g4 := by kernel_rfl }
open Go.RowKit Go.Lib in
/-- strings.Split. (LAID: no walk: one application.) -/
theorem Tryd.strings_Split (s sep : ByteArray) (m : Int) (w : World) (hs : s.size < 4294967281) (hm : w.cell? ⟨2, 0, none⟩ = some (.int .i64 m)) (h1 : 1 ≤ sep.size) :
    Calls Tryd.prog 33 #[.string s, .string sep] w fun e w' =>
      e = .returned (.slice (some ⟨w.heap.size, 0, none⟩) (Lib.countB s sep + 1) (Lib.countB s sep + 1)) ∧ w' = w.alloc (.cells ((Lib.splitB sep 0 (Lib.countB s sep) s).map Value.string).toArray 9) := Any.strings_Split Tryd.lays146 (by kernel_rfl) s sep m w hs hm h1
end Go.Proofs
end
section
set_option linter.unusedSimpArgs false
set_option linter.unusedVariables false
namespace Go.Proofs.YthnjbnfnljjepabDoor
open Go.RowKit

structure Ev where
  g : Int
  kind : Int
  obj : Int
  off : Int
  k : Int
  n : Int
  fn : Int
  pc : Int
  stack : Int
deriving DecidableEq, Inhabited

def I64 (x : Int) : Prop := -9223372036854775808 ≤ x ∧ x ≤ 9223372036854775807
/-- every field is an int64 -/
def Ev.wf (e : Ev) : Prop := I64 e.g ∧ I64 e.kind ∧ I64 e.obj ∧ I64 e.off ∧ I64 e.k ∧ I64 e.n ∧ I64 e.fn ∧ I64 e.pc ∧ I64 e.stack

def Ev.cells (e : Ev) : List Value := [.int .i64 e.g, .int .i64 e.kind, .int .i64 e.obj, .int .i64 e.off, .int .i64 e.k, .int .i64 e.n, .int .i64 e.fn, .int .i64 e.pc, .int .i64 e.stack]
def Ev.val (e : Ev) : Value := .agg #[.int .i64 e.g, .int .i64 e.kind, .int .i64 e.obj, .int .i64 e.off, .int .i64 e.k, .int .i64 e.n, .int .i64 e.fn, .int .i64 e.pc, .int .i64 e.stack]

def numberedB (k : Int) : Bool := decide (15 ≤ k ∧ k ≤ 18)
def isKindB (k : Int) : Bool := decide (1 ≤ k ∧ k ≤ 20)
def chanB (k : Int) : Bool := decide (15 ≤ k ∧ k ≤ 20)
def memB (k : Int) : Bool := decide (k = 1 ∨ k = 2)
def rangeB (x : Int) : Bool := decide (0 ≤ x ∧ x ≤ 2147483647)
def Ev.rest (e : Ev) : Bool :=
  if e.kind = 14 then decide (e.obj = 0 ∧ e.off = 0 ∧ e.n = 0 ∧ 1 ≤ e.k ∧ e.k < 8)
  else if 15 ≤ e.kind ∧ e.kind ≤ 18 then decide (e.off = 0 ∧ e.n ≤ 64)
  else if 19 ≤ e.kind then decide (e.off = 0 ∧ e.n ≤ 64 ∧ e.k = 0)
  else decide (e.k = 0 ∧ e.n = 0)
/-- what both texts call a valid event -/
def Ev.valid (e : Ev) : Bool := isKindB e.kind && decide (0 ≤ e.g ∧ e.g < 8) &&
  (rangeB e.obj && rangeB e.off && rangeB e.k && rangeB e.n && rangeB e.fn && rangeB e.pc && rangeB e.stack) && e.rest

/-! The state of a trace, as the program keeps it. -/
structure Ch where
  cap : Int
  sent : Int
  recv : Int
  closed : Bool
deriving DecidableEq, Inhabited
def ch0 : Ch := ⟨0, 0, 0, false⟩
structure Mu where
  locked : Bool
  readers : Int
deriving DecidableEq, Inhabited
def mu0 : Mu := ⟨false, 0⟩
structure Grp where
  kinds : List Int
  obj : Int
  k : Int
  n : Int
  snd : Int
  rcv : Int
def grp0 : Grp := ⟨[], 0, 0, 0, 0, 0⟩
structure TS where
  events : Int
  gor : Int
  chans : Int → Option Ch
  mus : Int × Int → Option Mu
  done : Int × Int → Option Bool
  grp : Grp
def TS.new : TS := ⟨0, 1, fun _ => none, fun _ => none, fun _ => none, grp0⟩

/-- f, but v at x -/
def upd {κ : Type} [DecidableEq κ] {α : Type} (f : κ → Option α) (x : κ) (v : α) : κ → Option α := fun y => if y = x then some v else f y
theorem upd_same {κ : Type} [DecidableEq κ] {α : Type} (f : κ → Option α) (x : κ) (v : α) : upd f x v x = some v := if_pos rfl
theorem upd_other {κ : Type} [DecidableEq κ] {α : Type} (f : κ → Option α) {x y : κ} (v : α) (h : y ≠ x) : upd f x v y = f y := if_neg h
theorem upd_upd {κ : Type} [DecidableEq κ] {α : Type} (f : κ → Option α) (x : κ) (v u : α) : upd (upd f x v) x u = upd f x u := by
  funext y; unfold upd; split <;> rfl

def Ch.count (c : Ch) (kind : Int) : Ch := if kind = 15 then { c with sent := c.sent + 1 } else if kind = 17 then { c with recv := c.recv + 1 } else c
def TS.count (s : TS) (e : Ev) : TS := { s with chans := upd s.chans e.obj (((s.chans e.obj).getD ch0).count e.kind) }

def sendsB (k : Int) : Bool := decide (k = 15 ∨ k = 16)
def Grp.own (o : Grp) (kind : Int) : Int := if sendsB kind = true then o.snd else o.rcv
def Grp.other (o : Grp) (kind : Int) : Int := if sendsB kind = true then o.rcv else o.snd
def Grp.next (o : Grp) (e : Ev) : Grp :=
  if sendsB e.kind = true then { o with kinds := o.kinds.tail, snd := e.g } else { o with kinds := o.kinds.tail, rcv := e.g }
def Grp.fits (o : Grp) (e : Ev) : Bool :=
  decide (e.kind = o.kinds.headD 0 ∧ e.obj = o.obj ∧ e.k = o.k ∧ e.n = o.n) && !(decide (o.own e.kind < 0 ∧ e.g = o.other e.kind) || decide (0 ≤ o.own e.kind ∧ e.g ≠ o.own e.kind))
def TS.proceed (s : TS) (e : Ev) : Option TS :=
  if s.grp.fits e = true then some { s.count e with grp := s.grp.next e } else none

def TS.chan (s : TS) (e : Ev) : Ch := match s.chans e.obj with
  | some c => c
  | none => { ch0 with cap := e.n }
def TS.start (s : TS) (e : Ev) (c : Ch) (kinds : List Int) (snd rcv : Int) : TS :=
  { s with chans := upd s.chans e.obj (c.count e.kind), grp := ⟨kinds, e.obj, e.k, e.n, snd, rcv⟩ }
/-- the events that are missing behind the first one of a group -/
def Ch.missing (c : Ch) (kind : Int) (alone : Bool) : Option (List Int) :=
  if kind = 15 then (if c.sent - c.recv < c.cap then some [16] else if c.cap = 0 ∧ alone = false then some [17, 18, 16] else none)
  else (if c.recv < c.sent then some [18] else if c.closed = false ∧ alone = false then some [15, 18, 16] else none)
def TS.operate (s : TS) (e : Ev) : Option TS :=
  let c := s.chan e
  if c.cap ≠ e.n then none
  else if e.kind = 19 then (if c.closed = true then none else some { s with chans := upd s.chans e.obj { c with closed := true } })
  else if e.kind = 20 then (if c.closed = true ∧ c.sent = c.recv then some s else none)
  else if e.kind = 15 then (if c.closed = true ∨ e.k ≠ c.sent then none else (c.missing 15 (decide (s.gor = 1))).map fun l => s.start e c l e.g (-1))
  else if e.kind = 17 then (if e.k ≠ c.recv then none else (c.missing 17 (decide (s.gor = 1))).map fun l => s.start e c l (-1) e.g)
  else none

def TS.mu (s : TS) (e : Ev) : Mu := (s.mus (e.obj, e.off)).getD mu0
def TS.simple (s : TS) (e : Ev) : Option TS :=
  let m := s.mu e
  let put (m : Mu) : Option TS := some { s with mus := upd s.mus (e.obj, e.off) m }
  if e.kind = 6 then (if m.locked = true ∨ 0 < m.readers then none else put { m with locked := true })
  else if e.kind = 7 then (if m.locked = false then none else put { m with locked := false })
  else if e.kind = 8 then (if m.locked = true then none else put { m with readers := m.readers + 1 })
  else if e.kind = 9 then (if m.readers = 0 then none else put { m with readers := m.readers - 1 })
  else if e.kind = 12 then (if (s.done (e.obj, e.off)).getD false = true then none else some { s with done := upd s.done (e.obj, e.off) true })
  else if e.kind = 13 then (if (s.done (e.obj, e.off)).getD false = true then some s else none)
  else if e.kind = 14 then (if e.k ≠ s.gor then none else some { s with gor := s.gor + 1 })
  else some s

def TS.isOpen (s : TS) : Bool := decide (0 < s.grp.kinds.length)
def TS.part (s : TS) (e : Ev) : Option TS :=
  if s.isOpen = true then s.proceed e else if chanB e.kind = true then s.operate e else s.simple e
def TS.admits (s : TS) (e : Ev) : Bool := e.valid && decide (s.events < 5000) && decide (e.g < s.gor)
def TS.add (s : TS) (e : Ev) : Option TS :=
  if s.admits e = true then (s.part e).map fun t => { t with events := t.events + 1 } else none

/-- what bounds the numbers of a state -/
structure TS.wf (s : TS) : Prop where
  ev : 0 ≤ s.events ∧ s.events ≤ 5000
  gr : 1 ≤ s.gor ∧ s.gor ≤ 8
  ch : ∀ x c, s.chans x = some c → (0 ≤ c.sent ∧ c.sent ≤ s.events) ∧ (0 ≤ c.recv ∧ c.recv ≤ s.events) ∧ (0 ≤ c.cap ∧ c.cap ≤ 64)
  mu : ∀ x m, s.mus x = some m → 0 ≤ m.readers ∧ m.readers ≤ s.events
  kd : s.grp.kinds.length ≤ 3

theorem TS.wf_new : TS.new.wf := ⟨by decide, by decide, (fun _ _ h => by cases h), (fun _ _ h => by cases h), by decide⟩

theorem Ev.valid_n {e : Ev} (h : e.valid = true) : 0 ≤ e.n ∧ e.n ≤ 2147483647 := by
  simp only [Ev.valid, rangeB, Bool.and_eq_true, decide_eq_true_eq] at h; omega
theorem Ev.valid_k {e : Ev} (h : e.valid = true) : 0 ≤ e.k ∧ e.k ≤ 2147483647 := by
  simp only [Ev.valid, rangeB, Bool.and_eq_true, decide_eq_true_eq] at h; omega
theorem Ev.valid_obj {e : Ev} (h : e.valid = true) : 0 ≤ e.obj ∧ e.obj ≤ 2147483647 := by
  simp only [Ev.valid, rangeB, Bool.and_eq_true, decide_eq_true_eq] at h; omega
theorem Ev.valid_off {e : Ev} (h : e.valid = true) : 0 ≤ e.off ∧ e.off ≤ 2147483647 := by
  simp only [Ev.valid, rangeB, Bool.and_eq_true, decide_eq_true_eq] at h; omega
theorem Ev.valid_g {e : Ev} (h : e.valid = true) : 0 ≤ e.g ∧ e.g < 8 := by
  simp only [Ev.valid, rangeB, Bool.and_eq_true, decide_eq_true_eq] at h; omega
theorem Ev.valid_kind {e : Ev} (h : e.valid = true) : 1 ≤ e.kind ∧ e.kind ≤ 20 := by
  simp only [Ev.valid, isKindB, Bool.and_eq_true, decide_eq_true_eq] at h; omega
theorem Ev.valid_cap {e : Ev} (h : e.valid = true) (hk : chanB e.kind = true) : e.n ≤ 64 := by
  simp only [Ev.valid, Ev.rest, Bool.and_eq_true] at h
  simp only [chanB, decide_eq_true_eq] at hk
  have h2 := h.2
  rw [if_neg (by omega)] at h2
  split at h2
  · simp at h2; omega
  · rw [if_pos (by omega)] at h2; simp at h2; omega
theorem Ev.valid_go {e : Ev} (h : e.valid = true) (hk : e.kind = 14) : 1 ≤ e.k ∧ e.k < 8 := by
  simp only [Ev.valid, Ev.rest, Bool.and_eq_true] at h
  have h2 := h.2
  rw [if_pos hk] at h2
  simp at h2; omega

theorem Ch.count_bd {c : Ch} {B kind : Int} (h : (0 ≤ c.sent ∧ c.sent ≤ B) ∧ (0 ≤ c.recv ∧ c.recv ≤ B) ∧ (0 ≤ c.cap ∧ c.cap ≤ 64)) :
    (0 ≤ (c.count kind).sent ∧ (c.count kind).sent ≤ B + 1) ∧ (0 ≤ (c.count kind).recv ∧ (c.count kind).recv ≤ B + 1) ∧ (0 ≤ (c.count kind).cap ∧ (c.count kind).cap ≤ 64) := by
  unfold Ch.count
  split
  · dsimp only; omega
  · split
    · dsimp only; omega
    · omega

theorem TS.chan_bd {s : TS} (h : s.wf) {e : Ev} (hv : e.valid = true) (hk : chanB e.kind = true) :
    (0 ≤ (s.chan e).sent ∧ (s.chan e).sent ≤ s.events) ∧ (0 ≤ (s.chan e).recv ∧ (s.chan e).recv ≤ s.events) ∧ (0 ≤ (s.chan e).cap ∧ (s.chan e).cap ≤ 64) := by
  unfold TS.chan
  have h1 := h.ev
  have h2 := Ev.valid_cap hv hk
  have h3 := Ev.valid_n hv
  cases hc : s.chans e.obj with
  | none => dsimp [ch0]; omega
  | some c => exact h.ch _ _ hc
theorem TS.mu_bd {s : TS} (h : s.wf) (e : Ev) : 0 ≤ (s.mu e).readers ∧ (s.mu e).readers ≤ s.events := by
  unfold TS.mu
  have h1 := h.ev
  cases hc : s.mus (e.obj, e.off) with
  | none => dsimp [mu0]; omega
  | some m => exact h.mu _ _ hc

theorem upd_all {κ : Type} [DecidableEq κ] {α : Type} {f : κ → Option α} {x : κ} {v : α} {p : α → Prop} (hf : ∀ y c, f y = some c → p c) (hv : p v) : ∀ y c, upd f x v y = some c → p c := by
  intro y c h
  unfold upd at h
  split at h
  · cases h; exact hv
  · exact hf y c h

/-- a state that an event leads to is bounded, one event more being counted -/
theorem TS.part_wf {s t : TS} (h : s.wf) {e : Ev} (hv : e.valid = true) (hp : s.part e = some t) :
    t.events = s.events ∧ (1 ≤ t.gor ∧ t.gor ≤ 8) ∧ (∀ x c, t.chans x = some c → (0 ≤ c.sent ∧ c.sent ≤ s.events + 1) ∧ (0 ≤ c.recv ∧ c.recv ≤ s.events + 1) ∧ (0 ≤ c.cap ∧ c.cap ≤ 64)) ∧
      (∀ x m, t.mus x = some m → 0 ≤ m.readers ∧ m.readers ≤ s.events + 1) ∧ t.grp.kinds.length ≤ 3 := by
  have hch : ∀ x c, s.chans x = some c → (0 ≤ c.sent ∧ c.sent ≤ s.events + 1) ∧ (0 ≤ c.recv ∧ c.recv ≤ s.events + 1) ∧ (0 ≤ c.cap ∧ c.cap ≤ 64) := fun x c hc => by
    have := h.ch x c hc; omega
  have hmu : ∀ x m, s.mus x = some m → 0 ≤ m.readers ∧ m.readers ≤ s.events + 1 := fun x m hm => by
    have := h.mu x m hm; omega
  have hgr := h.gr
  have hkd := h.kd
  have hev := h.ev
  unfold TS.part at hp
  split at hp
  · -- proceed
    unfold TS.proceed at hp
    split at hp
    · cases hp
      refine ⟨rfl, hgr, ?_, hmu, ?_⟩
      · refine upd_all hch (Ch.count_bd ?_)
        cases hc : s.chans e.obj with
        | none => dsimp [ch0]; omega
        | some c => exact h.ch _ _ hc
      · unfold Grp.next
        split <;> (simp; omega)
    · cases hp
  · split at hp
    · -- operate
      rename_i hk
      have hb := TS.chan_bd h hv hk
      unfold TS.operate at hp
      dsimp only at hp
      split at hp
      · cases hp
      split at hp
      · split at hp
        · cases hp
        · cases hp
          exact ⟨rfl, hgr, upd_all hch (by dsimp only; omega), hmu, hkd⟩
      split at hp
      · split at hp
        · cases hp; exact ⟨rfl, hgr, hch, hmu, hkd⟩
        · cases hp
      split at hp
      · split at hp
        · cases hp
        · simp only [Option.map_eq_some_iff] at hp
          obtain ⟨l, hl, rfl⟩ := hp
          refine ⟨rfl, hgr, upd_all hch (Ch.count_bd hb), hmu, ?_⟩
          unfold Ch.missing at hl
          simp only [if_pos] at hl
          split at hl
          · cases hl; simp [TS.start]
          · split at hl
            · cases hl; simp [TS.start]
            · cases hl
      split at hp
      · split at hp
        · cases hp
        · simp only [Option.map_eq_some_iff] at hp
          obtain ⟨l, hl, rfl⟩ := hp
          refine ⟨rfl, hgr, upd_all hch (Ch.count_bd hb), hmu, ?_⟩
          unfold Ch.missing at hl
          rw [if_neg (by decide)] at hl
          split at hl
          · cases hl; simp [TS.start]
          · split at hl
            · cases hl; simp [TS.start]
            · cases hl
      · cases hp
    · -- simple
      have hm := TS.mu_bd h e
      unfold TS.simple at hp
      dsimp only at hp
      split at hp
      · split at hp
        · cases hp
        · cases hp; exact ⟨rfl, hgr, hch, upd_all hmu (by dsimp only; omega), hkd⟩
      split at hp
      · split at hp
        · cases hp
        · cases hp; exact ⟨rfl, hgr, hch, upd_all hmu (by dsimp only; omega), hkd⟩
      split at hp
      · split at hp
        · cases hp
        · cases hp; exact ⟨rfl, hgr, hch, upd_all hmu (by dsimp only; omega), hkd⟩
      split at hp
      · split at hp
        · cases hp
        · cases hp; exact ⟨rfl, hgr, hch, upd_all hmu (by dsimp only; omega), hkd⟩
      split at hp
      · split at hp
        · cases hp
        · cases hp; exact ⟨rfl, hgr, hch, hmu, hkd⟩
      split at hp
      · split at hp
        · cases hp; exact ⟨rfl, hgr, hch, hmu, hkd⟩
        · cases hp
      split at hp
      · rename_i hgo
        have := Ev.valid_go hv hgo
        split at hp
        · cases hp
        · cases hp; exact ⟨rfl, by dsimp only; omega, hch, hmu, hkd⟩
      · cases hp; exact ⟨rfl, hgr, hch, hmu, hkd⟩

theorem TS.add_wf {s t : TS} (h : s.wf) {e : Ev} (ha : s.add e = some t) : t.wf := by
  unfold TS.add at ha
  split at ha
  · rename_i had
    simp only [TS.admits, Bool.and_eq_true, decide_eq_true_eq] at had
    simp only [Option.map_eq_some_iff] at ha
    obtain ⟨u, hu, rfl⟩ := ha
    obtain ⟨h1, h2, h3, h4, h5⟩ := TS.part_wf h had.1.1 hu
    have hev := h.ev
    exact ⟨by dsimp only; omega, h2, fun x c hc => by have := h3 x c hc; dsimp only; omega, fun x m hm => by have := h4 x m hm; dsimp only; omega, h5⟩
  · cases ha

/-! what operate comes to, way by way, the tests in the walk's own form -/
section
variable {s : TS} {g kind obj off k en fn pc stack cap sent recv : Int} {closed : Bool}
  (hc : s.chan ⟨g, kind, obj, off, k, en, fn, pc, stack⟩ = ⟨cap, sent, recv, closed⟩)
include hc
theorem TS.op_eq : s.operate ⟨g, kind, obj, off, k, en, fn, pc, stack⟩ =
    if cap ≠ en then none
    else if kind = 19 then (if closed = true then none else some { s with chans := upd s.chans obj ⟨cap, sent, recv, true⟩ })
    else if kind = 20 then (if closed = true ∧ sent = recv then some s else none)
    else if kind = 15 then (if closed = true ∨ k ≠ sent then none else ((⟨cap, sent, recv, closed⟩ : Ch).missing 15 (decide (s.gor = 1))).map fun l => s.start ⟨g, kind, obj, off, k, en, fn, pc, stack⟩ ⟨cap, sent, recv, closed⟩ l g (-1))
    else if kind = 17 then (if k ≠ recv then none else ((⟨cap, sent, recv, closed⟩ : Ch).missing 17 (decide (s.gor = 1))).map fun l => s.start ⟨g, kind, obj, off, k, en, fn, pc, stack⟩ ⟨cap, sent, recv, closed⟩ l (-1) g)
    else none := by
  unfold TS.operate; rw [hc]
theorem TS.op_nA (h1 : (cap != en) = true) : s.operate ⟨g, kind, obj, off, k, en, fn, pc, stack⟩ = none := by
  rw [TS.op_eq hc]; simp_all
theorem TS.op_nB (h1 : (kind == 19) = true) (h2 : closed = true) : s.operate ⟨g, kind, obj, off, k, en, fn, pc, stack⟩ = none := by
  rw [TS.op_eq hc]; simp_all
theorem TS.op_n20 (h1 : (kind == 20) = true) (h2 : ¬closed = true) : s.operate ⟨g, kind, obj, off, k, en, fn, pc, stack⟩ = none := by
  rw [TS.op_eq hc]; simp_all
theorem TS.op_nD (h1 : (kind == 15) = true) (h2 : closed = true) : s.operate ⟨g, kind, obj, off, k, en, fn, pc, stack⟩ = none := by
  rw [TS.op_eq hc]; simp_all
theorem TS.op_nE (h1 : (kind == 15) = true) (h2 : (k != sent) = true) : s.operate ⟨g, kind, obj, off, k, en, fn, pc, stack⟩ = none := by
  rw [TS.op_eq hc]; simp_all
theorem TS.op_nF (h1 : (kind == 15) = true) (h2 : cap ≤ sent - recv) (h3 : (!s.gor == 1) = false) : s.operate ⟨g, kind, obj, off, k, en, fn, pc, stack⟩ = none := by
  rw [TS.op_eq hc]; simp_all [Ch.missing]; intros; omega
theorem TS.op_nG (h1 : (kind == 15) = true) (h2 : cap ≤ sent - recv) (h3 : ¬cap = 0) : s.operate ⟨g, kind, obj, off, k, en, fn, pc, stack⟩ = none := by
  rw [TS.op_eq hc]; simp_all [Ch.missing]; intros; omega
theorem TS.op_nH (h1 : (kind == 17) = true) (h2 : (k != recv) = true) : s.operate ⟨g, kind, obj, off, k, en, fn, pc, stack⟩ = none := by
  rw [TS.op_eq hc]; simp_all
theorem TS.op_nI (h1 : (kind == 17) = true) (h2 : sent ≤ recv) (h3 : closed = true) : s.operate ⟨g, kind, obj, off, k, en, fn, pc, stack⟩ = none := by
  have h4 : ¬ recv < sent := by omega
  rw [TS.op_eq hc]; simp_all [Ch.missing]
theorem TS.op_nJ (h1 : (kind == 17) = true) (h2 : sent ≤ recv) (h3 : (!s.gor == 1) = false) : s.operate ⟨g, kind, obj, off, k, en, fn, pc, stack⟩ = none := by
  have h4 : ¬ recv < sent := by omega
  rw [TS.op_eq hc]; simp_all [Ch.missing]
theorem TS.op_nK (h1 : (kind == 19) = false) (h2 : (kind == 20) = false) (h3 : (kind == 15) = false) (h4 : (kind == 17) = false) : s.operate ⟨g, kind, obj, off, k, en, fn, pc, stack⟩ = none := by
  rw [TS.op_eq hc]; simp_all
theorem TS.op_s19 (h0 : (cap != en) = false) (h1 : (kind == 19) = true) (h2 : closed = false) : s.operate ⟨g, kind, obj, off, k, en, fn, pc, stack⟩ = some { s with chans := upd s.chans obj ⟨cap, sent, recv, true⟩ } := by
  rw [TS.op_eq hc]; simp_all
theorem TS.op_s20 (h0 : (cap != en) = false) (h1 : (kind == 20) = true) (h2 : closed = true) : s.operate ⟨g, kind, obj, off, k, en, fn, pc, stack⟩ = if sent = recv then some s else none := by
  rw [TS.op_eq hc]; simp_all
theorem TS.op_s15a (h0 : (cap != en) = false) (h1 : (kind == 15) = true) (h2 : ¬closed = true) (h3 : (k != sent) = false) (h4 : sent - recv < cap) : s.operate ⟨g, kind, obj, off, k, en, fn, pc, stack⟩ = some (s.start ⟨g, kind, obj, off, k, en, fn, pc, stack⟩ ⟨cap, sent, recv, closed⟩ [16] g (-1)) := by
  rw [TS.op_eq hc]; simp_all [Ch.missing]
theorem TS.op_s15b (h0 : (cap != en) = false) (h1 : (kind == 15) = true) (h2 : ¬closed = true) (h3 : (k != sent) = false) (h4 : cap ≤ sent - recv) (h5 : cap = 0) (h6 : (!s.gor == 1) = true) : s.operate ⟨g, kind, obj, off, k, en, fn, pc, stack⟩ = some (s.start ⟨g, kind, obj, off, k, en, fn, pc, stack⟩ ⟨cap, sent, recv, closed⟩ [17, 18, 16] g (-1)) := by
  have hm : (⟨cap, sent, recv, closed⟩ : Ch).missing 15 (decide (s.gor = 1)) = some [17, 18, 16] := by
    unfold Ch.missing
    rw [if_pos rfl]
    dsimp only
    rw [if_neg (by omega), if_pos ⟨h5, by simpa using h6⟩]
  rw [TS.op_eq hc, hm]; simp_all
theorem TS.op_s17a (h0 : (cap != en) = false) (h1 : (kind == 17) = true) (h3 : (k != recv) = false) (h4 : recv < sent) : s.operate ⟨g, kind, obj, off, k, en, fn, pc, stack⟩ = some (s.start ⟨g, kind, obj, off, k, en, fn, pc, stack⟩ ⟨cap, sent, recv, closed⟩ [18] (-1) g) := by
  rw [TS.op_eq hc]; simp_all [Ch.missing]
theorem TS.op_s17b (h0 : (cap != en) = false) (h1 : (kind == 17) = true) (h2 : ¬closed = true) (h3 : (k != recv) = false) (h4 : sent ≤ recv) (h6 : (!s.gor == 1) = true) : s.operate ⟨g, kind, obj, off, k, en, fn, pc, stack⟩ = some (s.start ⟨g, kind, obj, off, k, en, fn, pc, stack⟩ ⟨cap, sent, recv, closed⟩ [15, 18, 16] (-1) g) := by
  have hm : (⟨cap, sent, recv, closed⟩ : Ch).missing 17 (decide (s.gor = 1)) = some [15, 18, 16] := by
    unfold Ch.missing
    rw [if_neg (by decide)]
    dsimp only
    rw [if_neg (by omega), if_pos ⟨by simpa using h2, by simpa using h6⟩]
  rw [TS.op_eq hc, hm]; simp_all
end
end Go.Proofs.YthnjbnfnljjepabDoor
end
section
set_option linter.unusedSimpArgs false
set_option linter.unusedVariables false
namespace Go.Proofs.YthnjbnfnljjepabDoor
open Go Go.RowKit Go.WideShapes Go.ChangeShapes Go.Deep

theorem Tryd.laidOut : laidOutB Tryd.prog = true := by kernel_rfl
theorem Tryd.own : ownKnob Tryd.prog.godebug = none := by kernel_rfl
theorem Tryd.mixed : Tryd.prog.follows .mixedOrders = true := by kernel_rfl

theorem var_stays {P : Program} {w w' : World} {n : String} {cs : Array Value} (h : w.var? P n = some cs) (hb : Below w.heap.size w w') : w'.var? P n = some cs := by
  unfold World.var? at h ⊢
  cases hg : P.globalNamed n with
  | none => simp [hg] at h
  | some g =>
    simp only [hg, Option.bind_some] at h ⊢
    have hlt : g < w.heap.size := by
      rcases Nat.lt_or_ge g w.heap.size with h' | h'
      · exact h'
      · simp [Array.getElem?_eq_none h'] at h
    rw [hb.block g hlt]
    exact h
def kindNames : List ByteArray := [⟨#[]⟩, ⟨#[114, 101, 97, 100]⟩, ⟨#[119, 114, 105, 116, 101]⟩, ⟨#[97, 116, 111, 109, 105, 99, 45, 114, 101, 97, 100]⟩, ⟨#[97, 116, 111, 109, 105, 99, 45, 119, 114, 105, 116, 101]⟩, ⟨#[97, 116, 111, 109, 105, 99, 45, 98, 111, 116, 104]⟩, ⟨#[108, 111, 99, 107]⟩, ⟨#[117, 110, 108, 111, 99, 107]⟩, ⟨#[114, 108, 111, 99, 107]⟩, ⟨#[114, 117, 110, 108, 111, 99, 107]⟩, ⟨#[100, 111, 110, 101]⟩, ⟨#[119, 97, 105, 116]⟩, ⟨#[111, 110, 99, 101, 45, 101, 110, 100]⟩, ⟨#[111, 110, 99, 101, 45, 115, 101, 101, 110]⟩, ⟨#[103, 111]⟩, ⟨#[115, 101, 110, 100, 45, 115, 116, 97, 114, 116]⟩, ⟨#[115, 101, 110, 100, 45, 101, 110, 100]⟩, ⟨#[114, 101, 99, 118, 45, 115, 116, 97, 114, 116]⟩, ⟨#[114, 101, 99, 118, 45, 101, 110, 100]⟩, ⟨#[99, 108, 111, 115, 101]⟩, ⟨#[114, 101, 99, 118, 45, 99, 108, 111, 115, 101, 100]⟩]
/-- the names of the kinds, as the table has them -/
def namesV : List Value := kindNames.map Value.string
/-- what the library's variables hold, and the program's own table -/
structure Door (w : World) : Prop where
  p10 : Lib.TabIs Tryd.prog w "internal/strconv.uint64pow10" .u64 Lib.pow10Tab
  es : ∃ tp p, w.var? Tryd.prog "strconv.ErrSyntax" = some #[.iface tp p]
  er : ∃ tp p, w.var? Tryd.prog "strconv.ErrRange" = some #[.iface tp p]
  nm : ∀ k v, namesV[k]? = some v → w.cell? ⟨0, k, none⟩ = some v
  mx : ∃ m, w.cell? ⟨2, 0, none⟩ = some (.int .i64 m)
theorem cell_stays {w w' : World} {a : Addr} {v : Value} (h : w.cell? a = some v) (hb : Below w.heap.size w w') : w'.cell? a = some v := by
  have hlt : a.block < w.heap.size := by
    rcases Nat.lt_or_ge a.block w.heap.size with h' | h'
    · exact h'
    · simp [World.cell?, Array.getElem?_eq_none h'] at h
  exact (hb.cell hlt).trans h
theorem Door.keep {w w' : World} (hb : Below w.heap.size w w') (h : Door w) : Door w' := by
  obtain ⟨h1, ⟨t4, p4, h4⟩, ⟨t5, p5, h5⟩, h6, m, h7⟩ := h
  exact ⟨var_stays h1 hb, ⟨t4, p4, var_stays h4 hb⟩, ⟨t5, p5, var_stays h5 hb⟩, fun k v hk => cell_stays (h6 k v hk) hb, m, cell_stays h7 hb⟩
instance : WInv := ⟨Door, fun _ _ hb h => h.keep hb⟩

abbrev dI (n : Int) : Dt := .sc (.int .i64 n)
abbrev dB (b : Bool) : Dt := .sc (.bool b)
abbrev aI (n : Int) : Av := .b (.one (.d (.sc (.int .i64 n))))
abbrev aB (b : Bool) : Av := .b (.one (.d (.sc (.bool b))))
abbrev pI (n : Int) : Pa := .one (.sc (.int .i64 n))
abbrev pB (b : Bool) : Pa := .one (.sc (.bool b))
abbrev pS (b : ByteArray) : Pa := .one (.sc (.string b))
/-- as many cells of a block as there are -/
def World.cellsOf (w : World) (b : Nat) : Nat := match w.heap[b]? with
  | some (.cells arr _ _) => arr.size
  | _ => 0
theorem cellsOf_lt {w : World} (b i : Nat) (h : (w.cell? ⟨b, i, none⟩).isSome = true) : i < World.cellsOf w b := by
  unfold World.cellsOf
  unfold World.cell? at h
  cases hb : w.heap[b]? with
  | none => simp [hb] at h
  | some x =>
    cases x with
    | cells arr T fr => simp only [hb] at h; simpa using h
    | _ => simp [hb] at h

def intsD (l : List Int) : Dt := .im (l.map fun x => [dI x])
theorem RPs.nth {S : Nat → Nat} {w : World} {ps : List Pa} {vs : Array Value} (h : RPs S w ps vs) {i : Nat} {p : Pa} (hp : ps[i]? = some p) : ∃ u, vs[i]? = some u ∧ RP S w p u := by
  have hi : i < vs.size := by rw [← h.1]; exact (List.getElem?_eq_some_iff.1 hp).1
  exact ⟨vs[i], Array.getElem?_eq_getElem hi, h.2 i p _ hp (Array.getElem?_eq_getElem hi)⟩
theorem RPs.one {S : Nat → Nat} {w : World} {p : Pa} {vs : Array Value} (h : RPs S w [p] vs) : ∃ u, vs = #[u] ∧ RP S w p u := by
  obtain ⟨u, h1, h2⟩ := h.nth (i := 0) rfl
  refine ⟨u, ?_, h2⟩
  have h3 := h.1
  apply Array.ext_getElem?
  intro j
  match j with
  | 0 => simpa using h1
  | j + 1 => rw [Array.getElem?_eq_none (by simp at h3; omega), Array.getElem?_eq_none (by simp)]
theorem RPs.two {S : Nat → Nat} {w : World} {p q : Pa} {vs : Array Value} (h : RPs S w [p, q] vs) : ∃ u v, vs = #[u, v] ∧ RP S w p u ∧ RP S w q v := by
  obtain ⟨u, h1, h2⟩ := h.nth (i := 0) rfl
  obtain ⟨v, h3, h4⟩ := h.nth (i := 1) rfl
  refine ⟨u, v, ?_, h2, h4⟩
  have h5 := h.1
  apply Array.ext_getElem?
  intro j
  match j with
  | 0 => simpa using h1
  | 1 => simpa using h3
  | j + 2 => rw [Array.getElem?_eq_none (by simp at h5; omega), Array.getElem?_eq_none (by simp)]
theorem RPs.three {S : Nat → Nat} {w : World} {p q r : Pa} {vs : Array Value} (h : RPs S w [p, q, r] vs) : ∃ u v x, vs = #[u, v, x] ∧ RP S w p u ∧ RP S w q v ∧ RP S w r x := by
  obtain ⟨u, h1, h2⟩ := h.nth (i := 0) rfl
  obtain ⟨v, h3, h4⟩ := h.nth (i := 1) rfl
  obtain ⟨x, h6, h7⟩ := h.nth (i := 2) rfl
  refine ⟨u, v, x, ?_, h2, h4, h7⟩
  have h5 := h.1
  apply Array.ext_getElem?
  intro j
  match j with
  | 0 => simpa using h1
  | 1 => simpa using h3
  | 2 => simpa using h6
  | j + 3 => rw [Array.getElem?_eq_none (by simp at h5; omega), Array.getElem?_eq_none (by simp)]
theorem RPs.nil {S : Nat → Nat} {w : World} {vs : Array Value} (h : RPs S w [] vs) : vs = #[] := by
  have h3 := h.1
  apply Array.ext_getElem?
  intro j
  rw [Array.getElem?_eq_none (by simp at h3; omega), Array.getElem?_eq_none (by simp)]
theorem RPs.mk1 {S : Nat → Nat} {w : World} {p : Pa} {u : Value} (h : RP S w p u) : RPs S w [p] #[u] := ⟨rfl, fun i q v h1 h2 => by
  match i with
  | 0 => cases h1; simp at h2; subst h2; exact h
  | i + 1 => simp at h1⟩
theorem RPs.mk2 {S : Nat → Nat} {w : World} {p q : Pa} {u v : Value} (h : RP S w p u) (k : RP S w q v) : RPs S w [p, q] #[u, v] := ⟨rfl, fun i r x h1 h2 => by
  match i with
  | 0 => cases h1; simp at h2; subst h2; exact h
  | 1 => cases h1; simp at h2; subst h2; exact k
  | i + 2 => simp at h1⟩
theorem RPs.mk3 {S : Nat → Nat} {w : World} {p q r : Pa} {u v x : Value} (h : RP S w p u) (k : RP S w q v) (m : RP S w r x) : RPs S w [p, q, r] #[u, v, x] := ⟨rfl, fun i o y h1 h2 => by
  match i with
  | 0 => cases h1; simp at h2; subst h2; exact h
  | 1 => cases h1; simp at h2; subst h2; exact k
  | 2 => cases h1; simp at h2; subst h2; exact m
  | i + 3 => simp at h1⟩
theorem RP.int {S : Nat → Nat} {w : World} {n : Int} {u : Value} (h : RP S w (pI n) u) : u = .int .i64 n := (RD.sc_inv h).1
theorem RP.mkInt {S : Nat → Nat} {w : World} (n : Int) : RP S w (pI n) (.int .i64 n) := .sc _ rfl
theorem RP.mkBool {S : Nat → Nat} {w : World} (n : Bool) : RP S w (pB n) (.bool n) := .sc _ rfl
theorem RP.bool {S : Nat → Nat} {w : World} {n : Bool} {u : Value} (h : RP S w (pB n) u) : u = .bool n := (RD.sc_inv h).1
/-- a struct of numbers -/
theorem RP.flat {S : Nat → Nat} {w : World} {vs : List Value} {u : Value} (h : RP S w (.agg (vs.map Dt.sc)) u) : u = .agg vs.toArray := by
  obtain ⟨arr, rfl, h2, h3⟩ := h
  congr 1
  apply Array.ext_getElem?
  intro j
  simp only [List.getElem?_toArray]
  rw [List.length_map] at h2
  cases hj : vs[j]? with
  | none => rw [Array.getElem?_eq_none]; rw [List.getElem?_eq_none_iff] at hj; omega
  | some x =>
    have hlt : j < arr.size := by have := (List.getElem?_eq_some_iff.1 hj).1; omega
    rw [Array.getElem?_eq_getElem hlt, (RD.sc_inv (h3 j (.sc x) arr[j] (by rw [List.getElem?_map, hj]; rfl) (Array.getElem?_eq_getElem hlt))).1]
theorem RP.mkFlat {S : Nat → Nat} {w : World} {vs : List Value} (h : ∀ u, u ∈ vs → u.oneCell' = true) : RP S w (.agg (vs.map Dt.sc)) (.agg vs.toArray) := by
  refine ⟨_, rfl, by simp, fun i x u h1 h2 => ?_⟩
  rw [List.getElem?_map, Option.map_eq_some_iff] at h1
  obtain ⟨y, hy, rfl⟩ := h1
  simp [hy] at h2
  subst h2
  exact .sc _ (h y (List.mem_of_getElem? hy))
theorem trod_int_field {H : Type} {enc : TypeId × Value → H} {P : Program} {w : World} {base n : Nat} {spare : Nat → Bool} {held : Bool} {t : TypeId} (ht : P.underlying t = some (.int .i64)) {v : Value} {y : DataW H × List MemPlace} (h : DataW.trod enc P w base spare held n t [v] = some y) : ∃ x, v = .int .i64 x ∧ (Lit.int .i64 x).wf = true := by
  obtain ⟨x, hx, _, hw⟩ := DataW.trod_int ht h
  simp at hx
  exact ⟨x, hx, hw⟩

theorem i64_of_wf {x : Int} (h : (Lit.int .i64 x).wf = true) : -9223372036854775808 ≤ x ∧ x ≤ 9223372036854775807 := by
  simp [Lit.wf, IntKind.min, IntKind.max, IntKind.signed, IntKind.bits] at h
  omega

theorem trodAll_below {H : Type} {enc : TypeId × Value → H} {P : Program} (hl : laidOutB P = true) {W W' : World} (hb : Below W.heap.size W W') :
    ∀ {ts : List TypeId} {vs : List Value} {ds : List (DataW H)} {ps : List MemPlace}, (ts.all fun t => P.readableRec t && decide (t < P.types.size)) = true → DataW.TrodAll enc P W 0 (fun _ => true) true ts vs ds ps → DataW.TrodAll enc P W' 0 (fun b => decide (b < W.heap.size)) true ts vs ds ps
  | [], vs, ds, ps, _, h => by obtain ⟨rfl, rfl, rfl⟩ := trodAll_nil h; exact trodAll_mk0
  | t :: ts, vs, ds, ps, ht, h => by
    obtain ⟨v, vs', d, ds', p, q, rfl, rfl, rfl, h1, h2⟩ := trodAll_cons h
    simp only [List.all_cons, Bool.and_eq_true, decide_eq_true_eq] at ht
    have lt : ∀ x ∈ p, x.block < W.heap.size := by obtain ⟨m, hm⟩ := h1; exact DataW.trod_lt m _ _ _ hm
    exact trodAll_cons_mk (Below.trod hl ht.1.1 ht.1.2 h1 hb lt) (trodAll_below hl hb (by rw [Bool.eq_iff_iff] at *; simpa using ht.2) h2)

/-- what a contract on data that answers 'true' says of a call -/
theorem Spec.true [I : WInv] {P : Program} {f : Nat} {R : List Pa → List Pa → Prop} (hs : Spec P f R) {ps : List Pa} (hR : R ps [pB true]) {S : Nat → Nat} {w : World} {vals : Array Value} (hw : I.p w) (hv : RPs S w ps vals) :
    Calls P f vals w fun e w' => e = .returned (.bool true) ∧ Below w.heap.size w w' := by
  refine (hs ps _ hR S w vals hw hv).mono ?_
  rintro e w' ⟨v, S', rfl, h1, h2, _⟩
  exact ⟨by rw [RP.bool h1], h2⟩

/-- an array of numbers -/
theorem open_nums {H : Type} {enc : TypeId × Value → H} {P : Program} {w : World} {r : Reach} {b0 base : Nat} {spare : Nat → Bool} {held : Bool} {t tI : TypeId} {n : Nat} (ht : P.underlying t = some (.array n tI)) (hI : P.underlying tI = some (.int .i64)) (hcI : P.cellsOf tI = 1) (hct : P.cellsOf t = n)
    {v : Value} {d : DataW H} {ps : List MemPlace} (hv : ∃ xs : Array Value, v = .agg xs ∧ xs.size = n) (h : DataW.Trod enc P w base spare held t v d ps) :
    ∃ l : List Int, l.length = n ∧ v = .agg (l.map (Value.int .i64)).toArray ∧ ∀ x, x ∈ l → -9223372036854775808 ≤ x ∧ x ≤ 9223372036854775807 := by
  obtain ⟨cs, rfl, hcs⟩ := hv
  obtain ⟨fuel, hf⟩ := h
  obtain ⟨xs, m, _, _, hl, hlen, hfs⟩ := DataW.trod_array ht hf
  have key : ∀ i, ∃ x : Int, i < n → cs[i]? = some (.int .i64 x) ∧ -9223372036854775808 ≤ x ∧ x ≤ 9223372036854775807 := by
    intro i
    by_cases hi : i < n
    · have h1 := hfs i hi
      rw [hcI, Nat.mul_one] at h1
      have hic : i < cs.size := by omega
      have hone' : ((Value.agg cs).cells.toList.drop i).take 1 = [cs[i]'hic] := by
        show (cs.toList.drop i).take 1 = _
        rw [List.drop_eq_getElem_cons (by simpa using hic)]
        simp
      rw [hone'] at h1
      have hxs : xs[i]? = some (xs[i]'(by omega)) := List.getElem?_eq_getElem _
      rw [hxs] at h1
      obtain ⟨x, hx, hw⟩ := trod_int_field hI h1
      exact ⟨x, fun _ => ⟨by rw [Array.getElem?_eq_getElem hic, hx], i64_of_wf hw⟩⟩
    · exact ⟨0, fun h => absurd h hi⟩
  obtain ⟨g, hg⟩ := Classical.skolem.1 key
  refine ⟨(List.range n).map g, by simp, ?_, fun x hx => ?_⟩
  · congr 1
    apply Array.ext_getElem?
    intro i
    simp only [List.getElem?_toArray, List.getElem?_map]
    rcases Nat.lt_or_ge i n with hi | hi
    · rw [(hg i hi).1, List.getElem?_range hi]; rfl
    · rw [Array.getElem?_eq_none (by omega), List.getElem?_eq_none (by simpa using hi)]; rfl
  · simp only [List.mem_map, List.mem_range] at hx
    obtain ⟨i, hi, rfl⟩ := hx
    exact (hg i hi).2
def Ev.row (e : Ev) : List Dt := [dI e.g, dI e.kind, dI e.obj, dI e.off, dI e.k, dI e.n, dI e.fn, dI e.pc, dI e.stack]
def Ev.pa (e : Ev) : Pa := .agg e.row
def evsD (l : List Ev) : Dt := .im (l.map Ev.row)
def evsPa (l : List Ev) : Pa := .one (evsD l)

end Go.Proofs.YthnjbnfnljjepabDoor
end
section
set_option linter.unusedSimpArgs false
set_option linter.unusedVariables false
namespace Go.Proofs.YthnjbnfnljjepabDoor
open Go Go.RowKit Go.Sort

abbrev strB (l : List UInt8) : ByteArray := ⟨l.toArray⟩
theorem strB_inj {a b : ByteArray} (h : a.data.toList = b.data.toList) : a = b := by
  cases a; cases b; simp at h; subst h; rfl
abbrev rowsS (xs : List ByteArray) : List (List Dt) := xs.map fun x => [Dt.sc (.string x)]
abbrev pL (xs : List ByteArray) : Pa := .one (.im (rowsS xs))

theorem RP.str {S : Nat → Nat} {w : World} {s : ByteArray} {u : Value} (h : RP S w (pS s) u) : u = .string s := (RD.sc_inv h).1
theorem below_grow' (w : World) (k : Nat) (os : Array Obj) : Below w.heap.size w (grow (w.drewN k) os) := Lib.below_grow _ w (Nat.le_refl _) k os

def R_itoa (ps rs : List Pa) : Prop := ∃ n : Int, (-9223372036854775808 ≤ n ∧ n ≤ 9223372036854775807) ∧ ps = [pI n] ∧ rs = [pS (strB (Lib.itoa n))]
theorem s_itoa : Spec Tryd.prog 30 R_itoa := by
  rintro az rs ⟨n, hn, rfl, rfl⟩ S w vals hI hv
  obtain ⟨u, rfl, h1⟩ := hv.one
  rw [RP.int h1]
  refine (Tryd.strconv_Itoa n hn.1 hn.2 w hI.p10).mono ?_
  rintro e w' ⟨rfl, k, os, rfl⟩
  exact ⟨_, S, rfl, .sc _ rfl, below_grow' w k os, fun _ _ => rfl⟩

def R_atoi (ps rs : List Pa) : Prop := ∃ s : ByteArray, s.size ≤ 1000000 ∧ ps = [pS s] ∧ rs = match Lib.atoiAll s.data.toList with
  | .ok v => [pI v, .one (.sc .nilIface)]
  | .range => [pI (Lib.atoiSat s.data.toList), .one .nn]
  | _ => [pI 0, .one .nn]
theorem below_bytes (w : World) (t : TypeId) (s : ByteArray) : Below w.heap.size w (Lib.bytesWorld w t s) := by
  exact ⟨rfl, rfl, rfl, by rw [Lib.bytesWorld_size]; omega, fun k hk => Lib.bytesWorld_at_old w t s k hk⟩
theorem s_atoi : Spec Tryd.prog 46 R_atoi := by
  rintro az rs ⟨s, hs, rfl, rfl⟩ S w vals hI hv
  obtain ⟨u, rfl, h1⟩ := hv.one
  rw [RP.str h1]
  cases ha : Lib.atoiAll s.data.toList with
  | ok v =>
    refine (Tryd.strconv_Atoi_ok s (by omega) v ha w).mono ?_
    rintro e w' ⟨rfl, hb⟩
    refine ⟨_, S, rfl, ⟨_, rfl, RPs.mk2 (RP.mkInt v) (.sc _ rfl)⟩, ?_, fun _ _ => rfl⟩
    rcases hb with rfl | ⟨t, rfl⟩
    · exact Below.refl _ _
    · exact below_bytes _ _ _
  | range =>
    obtain ⟨tp, p, hvar⟩ := hI.er
    refine (Tryd.strconv_Atoi_range_var s (by omega) ha tp p w hvar).mono ?_
    rintro e w' ⟨N, rfl, _, _, hb⟩
    exact ⟨_, S, rfl, ⟨_, rfl, RPs.mk2 (RP.mkInt _) (.nn _ _)⟩, hb, fun _ _ => rfl⟩
  | _ =>
    obtain ⟨tp, p, hvar⟩ := hI.es
    refine (Tryd.strconv_Atoi_syntax_var s (by omega) ha tp p w hvar).mono ?_
    rintro e w' ⟨N, rfl, _, _, hb⟩
    exact ⟨_, S, rfl, ⟨_, rfl, RPs.mk2 (RP.mkInt 0) (.nn _ _)⟩, hb, fun _ _ => rfl⟩

/-- a slice of strings that a call has made -/
theorem rd_strs {S : Nat → Nat} {w w' : World} {A : Nat} {t : TypeId} {xs : List ByteArray} (hA : w.heap.size ≤ A)
    (ho : w'.ownsRow w.heap.size t 1 (.slice (some ⟨A, 0, none⟩) xs.length xs.length) xs.length (xs.map Value.string)) :
    ∃ S', RD S' w' (.im (rowsS xs)) (.slice (some ⟨A, 0, none⟩) xs.length xs.length) ∧ ∀ b, b < w.heap.size → S' b = S b := by
  obtain ⟨_, ho⟩ := ho
  rcases ho with ⟨h, _⟩ | ⟨g, cap, cur, he, _, hg, hc, hm, hsz, htk⟩
  · cases h
  cases he
  refine ⟨fun b => if b = A then xs.length else S b, ?_, fun b hb => if_neg (by omega)⟩
  have hcell : ∀ i, i < xs.length → w'.cell? ⟨A, i, none⟩ = some (.string (xs.getD i default)) := fun i hi => by
    have h1 : cur.toList[i]? = some (.string (xs.getD i default)) := by
      have h2 := congrArg (·[i]?) htk
      simp only [List.getElem?_take, Nat.mul_one, if_pos hi, List.getElem?_map] at h2
      rw [h2, List.getElem?_eq_getElem hi]
      simp [List.getD, List.getElem?_eq_getElem hi]
    simp only [World.cell?, hg]
    simpa using h1
  have h := RD.im (S := fun b => if b = A then xs.length else S b) (w := w') (rowsS xs) 1 A 0 xs.length (fun i _ => .string (xs.getD i default)) (by simp [rowsS]) hm (fun r hr => by simp only [rowsS, List.mem_map] at hr; obtain ⟨_, _, rfl⟩ := hr; rfl)
    (fun i j hi hj => by
      have hi' : i < xs.length := by simpa [rowsS] using hi
      have hj0 : j = 0 := by omega
      subst hj0
      rw [show 0 + (i * 1 + 0) = i by omega]
      exact ⟨hcell i hi', by simp [hi']⟩)
    (fun i r j x hr hx => by
      simp only [rowsS, List.getElem?_map, Option.map_eq_some_iff] at hr
      obtain ⟨y, hy, rfl⟩ := hr
      match j, hx with
      | 0, hx =>
        simp at hx
        subst hx
        simp only [List.getD, hy, Option.getD_some]
        exact .sc _ rfl
      | j + 1, hx => simp at hx)
  simpa [rowsS] using h

def R_join (ps rs : List Pa) : Prop := ∃ (xs : List ByteArray) (sep : ByteArray), xs.length ≤ 1000000 ∧ (Lib.join (xs.map (·.data.toList)) sep.data.toList).length ≤ 1000000 ∧ ps = [pL xs, pS sep] ∧ rs = [pS (strB (Lib.join (xs.map (·.data.toList)) sep.data.toList))]
theorem s_join : Spec Tryd.prog 31 R_join := by
  rintro az rs ⟨xs, sep, hx, hl, rfl, rfl⟩ S w vals hI hv
  obtain ⟨u, u2, rfl, h1, h2⟩ := hv.two
  rw [RP.str h2]
  have h1' : RD S w (.im (rowsS xs)) u := h1
  obtain ⟨A, cap, vs, e0, e1, e2, e3, e4, e5, e6⟩ := h1'.flat (sz := 1) (fun r hr => by simp only [rowsS, List.mem_map] at hr; obtain ⟨_, _, rfl⟩ := hr; rfl)
  have hlen : (rowsS xs).length = xs.length := by simp [rowsS]
  by_cases hz : xs = []
  · subst hz
    rw [e0]
    refine (Tryd.strings_Join_none A cap sep w).mono ?_
    rintro e w' ⟨rfl, rfl⟩
    exact ⟨_, S, rfl, .sc _ rfl, Below.refl _ _, fun _ _ => rfl⟩
  rcases e6 with h | ⟨b, o, rfl, h7⟩
  · simp [rowsS] at h; exact absurd h hz
  rw [e0, hlen]
  have hcells : ∀ (j : Nat) x, xs[j]? = some x → w.cell? ⟨b, o + j, none⟩ = some (.string x) := fun j x hj => by
    obtain ⟨u', h3, h4⟩ := e5 j [Dt.sc (.string x)] 0 (.sc (.string x)) (by simp [rowsS, hj]) rfl
    rw [(RD.sc_inv h4).1, show j * 1 + 0 = j by omega] at h3
    exact (h7 j _ h3).1
  have hbk : b < w.heap.size := by
    obtain ⟨x, hx0⟩ : ∃ x, xs[0]? = some x := by cases xs with
      | nil => exact absurd rfl hz
      | cons x _ => exact ⟨x, rfl⟩
    have h3 := hcells 0 x hx0
    rcases Nat.lt_or_ge b w.heap.size with h' | h'
    · exact h'
    · simp [World.cell?, Array.getElem?_eq_none h'] at h3
  refine (Tryd.strings_Join b o cap xs sep w hcells hbk (by omega) (by omega) (by omega)).mono ?_
  rintro e w' ⟨rfl, hb⟩
  exact ⟨_, S, rfl, .sc _ rfl, hb, fun _ _ => rfl⟩

def R_cutp (ps rs : List Pa) : Prop := ∃ s p : ByteArray, ps = [pS s, pS p] ∧ rs = [pS (strB (Lib.trimPrefix s.data.toList p.data.toList)), pB (Lib.hasPrefix s.data.toList p.data.toList)]
theorem s_cutp : Spec Tryd.prog 37 R_cutp := by
  rintro az rs ⟨s, p, rfl, rfl⟩ S w vals hI hv
  obtain ⟨u, u2, rfl, h1, h2⟩ := hv.two
  rw [RP.str h1, RP.str h2]
  refine (Tryd.strings_CutPrefix s p w).mono ?_
  rintro e w' ⟨rfl, rfl⟩
  exact ⟨_, S, rfl, ⟨_, rfl, RPs.mk2 (.sc _ rfl) (RP.mkBool _)⟩, Below.refl _ _, fun _ _ => rfl⟩
def R_cut (ps rs : List Pa) : Prop := ∃ s sep : ByteArray, s.size ≤ 1000000 ∧ ps = [pS s, pS sep] ∧ rs = [pS (strB (Lib.cut s.data.toList sep.data.toList).1), pS (strB (Lib.cut s.data.toList sep.data.toList).2.1), pB (Lib.cut s.data.toList sep.data.toList).2.2]
theorem s_cut : Spec Tryd.prog 47 R_cut := by
  rintro az rs ⟨s, p, hs, rfl, rfl⟩ S w vals hI hv
  obtain ⟨u, u2, rfl, h1, h2⟩ := hv.two
  rw [RP.str h1, RP.str h2]
  obtain ⟨m, hm⟩ := hI.mx
  refine (Tryd.strings_Cut s p m w (by omega) hm).mono ?_
  rintro e w' ⟨rfl, q, rfl⟩
  exact ⟨_, S, rfl, ⟨_, rfl, RPs.mk3 (.sc _ rfl) (.sc _ rfl) (RP.mkBool _)⟩, ⟨rfl, rfl, rfl, Nat.le_refl _, fun _ _ => rfl⟩, fun _ _ => rfl⟩
def splitL (s sep : ByteArray) : List ByteArray := Lib.splitB sep 0 (Lib.countB s sep) s
def R_split (ps rs : List Pa) : Prop := ∃ s sep : ByteArray, s.size ≤ 1000000 ∧ 1 ≤ sep.size ∧ ps = [pS s, pS sep] ∧ rs = [pL (splitL s sep)]
theorem splitL_length (s sep : ByteArray) (h1 : 1 ≤ sep.size) : (splitL s sep).length = Lib.countB s sep + 1 := Lib.splitB_all sep h1 0 _ s rfl
theorem s_split : Spec Tryd.prog 33 R_split := by
  rintro az rs ⟨s, p, hs, hp, rfl, rfl⟩ S w vals hI hv
  obtain ⟨u, u2, rfl, h1, h2⟩ := hv.two
  rw [RP.str h1, RP.str h2]
  obtain ⟨m, hm⟩ := hI.mx
  refine (Tryd.strings_Split s p m w (by omega) hm hp).mono ?_
  rintro e w' ⟨rfl, rfl⟩
  have hl := splitL_length s p hp
  have hle := Lib.countB_le p hp _ s (Nat.le_refl _)
  obtain ⟨S', h2, h3⟩ := rd_strs (S := S) (w := w) (w' := w.alloc (.cells ((splitL s p).map Value.string).toArray 9)) (A := w.heap.size) (t := 9) (xs := splitL s p) (Nat.le_refl _)
    ⟨by simp, .inr ⟨w.heap.size, (splitL s p).length, ((splitL s p).map Value.string).toArray, rfl, Nat.le_refl _, heap_alloc_new _ _, Nat.le_refl _, by unfold maxLen; omega, by simp, by simp [List.take_of_length_le]⟩⟩
  rw [hl] at h2
  exact ⟨_, S', rfl, h2, (Below.refl _ _).alloc (Nat.le_refl _) _, h3⟩
end Go.Proofs.YthnjbnfnljjepabDoor
end
