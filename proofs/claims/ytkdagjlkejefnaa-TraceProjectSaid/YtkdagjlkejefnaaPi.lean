/- From the code of a program to its plain reading. -/
import Derived.Test.YtkdagjlkejefnaaPh
set_option linter.unusedSimpArgs false
set_option linter.unusedVariables false
namespace Go.Proofs.Ytkdagjlkejefnaa
open Go Go.RowKit

def isNil : Operand → Bool
  | .const (.slice none 0 0) => true
  | _ => false
def cO (x : Option Operand) : Option (Option PX) := match x with
  | none => some none
  | some y => (cX y).map some
def cParts (place : Nat → Option (Nat × Nat)) : List (Nat × Operand) → Option (List (Nat × Nat × PX))
  | [] => some []
  | (i, xo) :: r => match place i, cX xo with
    | some (off, k), some x => (cParts place r).map ((off, k, x) :: ·)
    | _, _ => none
def places (P : Program) (t : Nat) : Option (Array Value × (Nat → Option (Nat × Nat))) :=
  match P.info? t, P.underlying t with
  | some it, some (.array _ e) =>
    match it.zero, P.info? e with
    | some z, some ie => some (z.cells, fun i => some (i * ie.size, ie.size))
    | _, _ => none
  | some it, some (.struct fields) =>
    match it.zero, fields.toList.mapM (fun f => (P.info? f.type).map fun i => (f.offset, i.size)) with
    | some z, some places => some (z.cells, (places.toArray[·]?))
    | _, _ => none
  | _, _ => none
def allOne (z : Array Value) : Bool := z.toList.all Value.oneCell'
/-- the size that a load of the type reads: none: one cell -/
def szT (P : Program) (t : Nat) : Option (Option Nat) := match P.underlying t, P.info? t with
  | some d, some i => some (if aggT d = true then some i.size else none)
  | _, _ => none

def compB (P : Program) (b : Builtin) (dst : Option Nat) (ats : Array Nat) (args : Array Operand) : Option PO :=
  match b, ats.toList, args.toList with
  | .len, [t], [x] => match P.underlying t with
    | some (.slice _) => (cX x).map .len
    | some .string => (cX x).map .strlen
    | some (.array m _) => some (.alen m)
    | _ => none
  | .append, [t, t'], [x, y] => match P.underlying t, cX x, cX y, dst with
    | some (.slice E), some x, some y, some _ => match P.info? E with
      | some i => match i.zero with
        | some z => if t = t' ∧ z.cells.size = i.size ∧ 0 < i.size then some (.append E i.size i.bytes x y) else none
        | none => none
      | none => none
    | _, _, _, _ => none
  | .max, _, xs => (allSome (xs.map cX)).map (.mm true)
  | .min, _, xs => (allSome (xs.map cX)).map (.mm false)
  | _, _, _ => none

def compOp (P : Program) (eqs : List (Nat × List Bool)) (o : Oper) : Option PO :=
  match o.op with
  | .move x => (cX x).map .mv
  | .assign x => if isNil x = true then (match P.underlying o.type, o.dst with
      | some (.slice E), some _ => (P.info? E).map fun i => .nilRow E i.size
      | _, _ => none) else (cX x).map .mv
  | .pick c a b => match cX c, cX a, cX b with
    | some c, some a, some b => some (.pick c a b)
    | _, _, _ => none
  | .box _ x => if o.dst.isSome = true then (cX x).map .box else none
  | .alloc t => match P.info? t, o.dst with
    | some i, some _ => match i.zero with
      | some z => if allOne z.cells = true then some (.new z.cells.toList) else none
      | none => none
    | _, _ => none
  | .build t ps => match places P t with
    | some (z, place) => if allOne z = true then (cParts place ps.toList).map (.build z.toList) else none
    | none => none
  | .buildSlice t ln ps => match P.underlying t, o.dst with
    | some (.slice E), some _ => match P.info? E with
      | some i => match i.zero with
        | some z => if allOne z.cells = true ∧ z.cells.size = i.size ∧ 0 < i.size ∧ ln * i.size ≤ 16777216 then
            (cParts (fun k => some (k * i.size, i.size)) ps.toList).map (.bslice E i.size ((Array.range (ln * i.size)).map (z.cells[· % z.cells.size]!)).toList ln) else none
        | none => none
      | none => none
    | _, _ => none
  | .load t a => match szT P t, cX a with
    | some k, some a => some (.load k a)
    | _, _ => none
  | .store t a x => match P.info? t, cX a, cX x, o.dst with
    | some i, some a, some x, none => some (.store i.size a x)
    | _, _, _, _ => none
  | .fieldAddr t x i => match P.underlying t, cX x with
    | some (.struct fs), some x => match fs[i]? with
      | some f => match P.info? f.type with
        | some fi => if fi.size = 0 then none else some (.fld f.offset x)
        | none => none
      | none => none
    | _, _ => none
  | .field t x i => match P.underlying t, cX x with
    | some (.struct fs), some x => match fs[i]? with
      | some f => (szT P f.type).map fun k => .fldv f.offset k x
      | none => none
    | _, _ => none
  | .indexAddr t x i => match P.underlying t, cX x, cX i with
    | some (.array ln e), some x, some i => (P.info? e).map fun ei => .ixa ln ei.size x i
    | some (.slice e), some x, some i => (P.info? e).map fun ei => .ixs ei.size x i
    | _, _, _ => none
  | .index t x i => match P.underlying t, cX x, cX i with
    | some (.array ln e), some x, some i => match P.info? e, szT P e with
      | some ei, some k => some (.ixv ln ei.size k x i)
      | _, _ => none
    | some .string, some x, some i => some (.ixstr x i)
    | _, _, _ => none
  | .binOp op t x y _ => match cX x, cX y with
    | some x, some y => match op, P.underlying t with
      | .eql, some .bool => some (.eqb false x y)
      | .neq, some .bool => some (.eqb true x y)
      | .eql, some (.struct _) => (eqs.lookup t).map fun m => .eqs false m x y
      | .neq, some (.struct _) => (eqs.lookup t).map fun m => .eqs true m x y
      | .eql, some (.array _ _) => (eqs.lookup t).map fun m => .eqs false m x y
      | .neq, some (.array _ _) => (eqs.lookup t).map fun m => .eqs true m x y
      | op, _ => some (.bin op x y)
    | _, _ => none
  | .unOp op _ x => (cX x).map (.un op)
  | .convert t u x => match P.underlying t, P.underlying u, cX x with
    | some _, some (.int k), some x => some (.conv k x)
    | _, _, _ => none
  | .slice t x lo hi none => match P.underlying t, cX x, cO lo, cO hi with
    | some (.slice e), some x, some lo, some hi => (P.info? e).map fun ei => .slc ei.size x lo hi
    | some .string, some x, some lo, some hi => some (.substr x lo hi)
    | _, _, _, _ => none
  | .extract x i => (cX x).map (.ext · i)
  | .nilCheck x => (cX x).map .nilck
  | .call c => match c.callee with
    | .builtin b => compB P b o.dst c.argTypes c.args
    | .value (.func f) => match P.funcs[f]? with
      | some fn => if fn.name ≠ "runtime.NumGoroutine" ∧ fn.body.isSome = true then (allSome (c.args.toList.map cX)).map (.call f) else none
      | none => none
    | _ => none
  | _ => none

section
variable {P : Program} {n : Nat} {o : Oper}

theorem cO_map {lo : Option Operand} {l : Option PX} (h : cO lo = some l) : lo.map cX = l.map some := by
  cases lo with
  | none => simp [cO] at h; subst h; rfl
  | some x =>
    simp only [cO, Option.map_eq_some_iff] at h
    obtain ⟨y, hy, rfl⟩ := h
    simp [hy]
theorem cParts_get (place : Nat → Option (Nat × Nat)) : ∀ (ps : List (Nat × Operand)) (qs : List (Nat × Nat × PX)), cParts place ps = some qs →
    ps.length = qs.length ∧ ∀ (j : Nat) i xo off k x, ps[j]? = some (i, xo) → qs[j]? = some (off, k, x) → place i = some (off, k) ∧ cX xo = some x
  | [], qs, h => by simp [cParts] at h; subst h; exact ⟨rfl, fun j i xo off k x h => by simp at h⟩
  | (i, xo) :: r, qs, h => by
    simp only [cParts] at h
    split at h
    · rename_i off k x h1 h2
      simp only [Option.map_eq_some_iff] at h
      obtain ⟨qs', h3, rfl⟩ := h
      obtain ⟨h4, h5⟩ := cParts_get place r qs' h3
      refine ⟨by simp [h4], fun j i' xo' off' k' x' e1 e2 => ?_⟩
      cases j with
      | zero =>
        simp at e1 e2
        obtain ⟨rfl, rfl⟩ := e1
        obtain ⟨rfl, rfl, rfl⟩ := e2
        exact ⟨h1, h2⟩
      | succ j => exact h5 j i' xo' off' k' x' (by simpa using e1) (by simpa using e2)
    · cases h
theorem places_built {t : Nat} {z : Array Value} {place : Nat → Option (Nat × Nat)} (h : places P t = some (z, place)) : ∀ vals, P.built t vals = Instr.fill place z vals := by
  intro vals
  unfold places at h
  unfold Program.built
  split at h
  · rename_i it a e h1 h2
    split at h
    · rename_i zz ie h3 h4
      cases h
      simp [h1, h2, h3, h4]
    · cases h
  · rename_i it fields h1 h2
    split at h
    · rename_i zz pl h3 h4
      cases h
      simp [h1, h2, h3, h4]
    · cases h
  · cases h
theorem allOne_mem {z : Array Value} (h : allOne z = true) : ∀ v ∈ z.toList, v.oneCell' = true := List.all_eq_true.1 h
theorem szT_inv {t : Nat} {k : Option Nat} (h : szT P t = some k) : ∃ d i, P.underlying t = some d ∧ P.info? t = some i ∧ k = if aggT d = true then some i.size else none := by
  unfold szT at h
  split at h
  · rename_i d i h1 h2
    cases h
    exact ⟨d, i, h1, h2, rfl⟩
  · cases h
theorem lookup_mem {l : List (Nat × List Bool)} {t : Nat} {m : List Bool} (h : l.lookup t = some m) : (t, m) ∈ l := by
  induction l with
  | nil => cases h
  | cons p l ih =>
    obtain ⟨a, b⟩ := p
    rw [List.lookup_cons] at h
    split at h
    · rename_i he
      cases h
      have : t = a := by simpa using he
      subst this
      simp
    · exact List.mem_cons_of_mem _ (ih h)

theorem arr1 {α : Type} {a : Array α} {x : α} (h : a.toList = [x]) : a = #[x] := by rw [← Array.toArray_toList (xs := a), h]
theorem arr2 {α : Type} {a : Array α} {x y : α} (h : a.toList = [x, y]) : a = #[x, y] := by rw [← Array.toArray_toList (xs := a), h]

theorem compB_good {b : Builtin} {c : Call} {po : PO} (hd : ∀ d, o.dst = some d → d < n) (hop : o.op = .call c) (hc : c.callee = .builtin b) (h : compB P b o.dst c.argTypes c.args = some po) : Good P n o po := by
  unfold compB at h
  split at h
  · rename_i t x h1 h2
    have a1 := arr1 h1
    have a2 := arr1 h2
    split at h
    · rename_i e h3
      simp only [Option.map_eq_some_iff] at h
      obtain ⟨x', hx, rfl⟩ := h
      exact good_len hd hop hc a2 a1 h3 hx
    · rename_i h3
      simp only [Option.map_eq_some_iff] at h
      obtain ⟨x', hx, rfl⟩ := h
      exact good_strlen hd hop hc a2 a1 h3 hx
    · rename_i m e h3
      cases h
      exact good_alen hd hop hc a2 a1 h3
    · cases h
  · rename_i t t' x y h1 h2
    have a1 := arr2 h1
    have a2 := arr2 h2
    split at h
    · rename_i E x' y' d h3 h4 h5 h6
      split at h
      · rename_i i h7
        split at h
        · rename_i z h8
          split at h
          · rename_i hcond
            cases h
            obtain ⟨rfl, h9, h10⟩ := hcond
            exact good_append h6 (hd _ h6) hop hc a2 a1 h3 h7 h8 h9 h10 h4 h5
          · cases h
        · cases h
      · cases h
    · cases h
  · simp only [Option.map_eq_some_iff] at h
    obtain ⟨xs, hx, rfl⟩ := h
    exact good_mm hd (big := true) hop hc rfl hx
  · simp only [Option.map_eq_some_iff] at h
    obtain ⟨xs, hx, rfl⟩ := h
    exact good_mm hd (big := false) hop hc rfl hx
  · cases h

theorem compOp_good {eqs : List (Nat × List Bool)} (heq : ∀ p, p ∈ eqs → EqT P p.1 p.2) {po : PO} (hd : ∀ d, o.dst = some d → d < n) (h : compOp P eqs o = some po) (hnc : po.isCall = false) : Good P n o po := by
  unfold compOp at h
  split at h
  · rename_i x hop
    simp only [Option.map_eq_some_iff] at h
    obtain ⟨x', hx, rfl⟩ := h
    exact good_mv hd (.inl hop) hx
  · rename_i x hop
    split at h
    · rename_i hn
      split at h
      · rename_i E d h1 h2
        simp only [Option.map_eq_some_iff] at h
        obtain ⟨i, hi, rfl⟩ := h
        have : x = .const (.slice none 0 0) := by
          unfold isNil at hn
          split at hn
          · rfl
          · cases hn
        subst this
        exact good_nilRow h2 (hd _ h2) hop
      · cases h
    · simp only [Option.map_eq_some_iff] at h
      obtain ⟨x', hx, rfl⟩ := h
      exact good_mv hd (.inr hop) hx
  · rename_i c a b hop
    split at h
    · rename_i h1 h2 h3
      cases h
      exact good_pick hd hop h1 h2 h3
    · cases h
  · rename_i t x hop
    split at h
    · rename_i hs
      simp only [Option.map_eq_some_iff] at h
      obtain ⟨x', hx, rfl⟩ := h
      obtain ⟨d, hdd⟩ := Option.isSome_iff_exists.1 hs
      exact good_box hdd (hd _ hdd) hop hx
    · cases h
  · rename_i t hop
    split at h
    · rename_i i d h1 h2
      split at h
      · rename_i z h3
        split at h
        · rename_i h4
          cases h
          exact good_new h2 (hd _ h2) hop h1 h3 (allOne_mem h4)
        · cases h
      · cases h
    · cases h
  · rename_i t ps hop
    split at h
    · rename_i z place h1
      split at h
      · rename_i h2
        simp only [Option.map_eq_some_iff] at h
        obtain ⟨qs, h3, rfl⟩ := h
        obtain ⟨h4, h5⟩ := cParts_get place _ _ h3
        exact good_build hd hop (places_built h1) (allOne_mem h2) h4 h5
      · cases h
    · cases h
  · rename_i t ln ps hop
    split at h
    · rename_i E d h1 h2
      split at h
      · rename_i i h3
        split at h
        · rename_i z h4
          split at h
          · rename_i hcond
            simp only [Option.map_eq_some_iff] at h
            obtain ⟨qs, h5, rfl⟩ := h
            obtain ⟨h6, h7⟩ := cParts_get _ _ _ h5
            exact good_bslice h2 (hd _ h2) hop h1 h3 h4 (allOne_mem hcond.1) hcond.2.1 hcond.2.2.1 hcond.2.2.2 h6 h7
          · cases h
        · cases h
      · cases h
    · cases h
  · rename_i t a hop
    split at h
    · rename_i k x h1 h2
      cases h
      obtain ⟨d, i, h3, h4, h5⟩ := szT_inv h1
      exact good_load hd hop h3 h4 h5 h2
    · cases h
  · rename_i t a x hop
    split at h
    · rename_i h1 h2 h3 h4
      cases h
      exact good_store h4 hop h1 h2 h3
    · cases h
  · rename_i t x i hop
    split at h
    · rename_i fs x' h1 h2
      split at h
      · rename_i f h3
        split at h
        · rename_i fi h4
          split at h
          · cases h
          · rename_i h5
            cases h
            exact good_fld hd hop h1 h3 rfl h4 h5 h2
        · cases h
      · cases h
    · cases h
  · rename_i t x i hop
    split at h
    · rename_i fs x' h1 h2
      split at h
      · rename_i f h3
        simp only [Option.map_eq_some_iff] at h
        obtain ⟨k, h4, rfl⟩ := h
        obtain ⟨d, fi, h5, h6, h7⟩ := szT_inv h4
        exact good_fldv hd hop h1 h3 rfl h5 h6 h7 h2
      · cases h
    · cases h
  · rename_i t x i hop
    split at h
    · rename_i ln e x' i' h1 h2 h3
      simp only [Option.map_eq_some_iff] at h
      obtain ⟨ei, h4, rfl⟩ := h
      exact good_ixa hd hop h1 h4 h2 h3
    · rename_i e x' i' h1 h2 h3
      simp only [Option.map_eq_some_iff] at h
      obtain ⟨ei, h4, rfl⟩ := h
      exact good_ixs hd hop h1 h4 h2 h3
    · cases h
  · rename_i t x i hop
    split at h
    · rename_i ln e x' i' h1 h2 h3
      split at h
      · rename_i ei k h4 h5
        cases h
        obtain ⟨d, fi, h6, h7, h8⟩ := szT_inv h5
        rw [h4] at h7
        cases h7
        exact good_ixv hd hop h1 h6 h4 h8 h2 h3
      · cases h
    · rename_i x' i' h1 h2 h3
      cases h
      exact good_ixstr hd hop h1 h2 h3
    · cases h
  · rename_i op t x y u hop
    split at h
    · rename_i x' y' h1 h2
      split at h
      · rename_i h3; cases h; exact good_eqb hd (neg := false) hop h3 h1 h2
      · rename_i h3; cases h; exact good_eqb hd (neg := true) hop h3 h1 h2
      · simp only [Option.map_eq_some_iff] at h; obtain ⟨m, h4, rfl⟩ := h; exact good_eqs hd (neg := false) hop (heq _ (lookup_mem h4)) h1 h2
      · simp only [Option.map_eq_some_iff] at h; obtain ⟨m, h4, rfl⟩ := h; exact good_eqs hd (neg := true) hop (heq _ (lookup_mem h4)) h1 h2
      · simp only [Option.map_eq_some_iff] at h; obtain ⟨m, h4, rfl⟩ := h; exact good_eqs hd (neg := false) hop (heq _ (lookup_mem h4)) h1 h2
      · simp only [Option.map_eq_some_iff] at h; obtain ⟨m, h4, rfl⟩ := h; exact good_eqs hd (neg := true) hop (heq _ (lookup_mem h4)) h1 h2
      · cases h; exact good_bin hd hop h1 h2
    · cases h
  · rename_i op t x hop
    simp only [Option.map_eq_some_iff] at h
    obtain ⟨x', hx, rfl⟩ := h
    exact good_un hd hop hx
  · rename_i t u x hop
    split at h
    · rename_i ds k x' h1 h2 h3
      cases h
      exact good_conv hd hop h1 h2 h3
    · cases h
  · rename_i t x lo hi hop
    split at h
    · rename_i e x' lo' hi' h1 h2 h3 h4
      simp only [Option.map_eq_some_iff] at h
      obtain ⟨ei, h5, rfl⟩ := h
      exact good_slc hd hop h1 h5 h2 (cO_map h3) (cO_map h4)
    · rename_i x' lo' hi' h1 h2 h3 h4
      cases h
      exact good_substr hd hop h1 h2 (cO_map h3) (cO_map h4)
    · cases h
  · rename_i x i hop
    simp only [Option.map_eq_some_iff] at h
    obtain ⟨x', hx, rfl⟩ := h
    exact good_ext hd hop hx
  · rename_i x hop
    simp only [Option.map_eq_some_iff] at h
    obtain ⟨x', hx, rfl⟩ := h
    exact good_nilck hd hop hx
  · rename_i c hop
    split at h
    · rename_i b hc
      exact compB_good hd hop hc h
    · rename_i f hc
      split at h
      · split at h
        · simp only [Option.map_eq_some_iff] at h
          obtain ⟨xs, _, rfl⟩ := h
          cases hnc
        · cases h
      · cases h
    · cases h
  · cases h
end
end Go.Proofs.Ytkdagjlkejefnaa
