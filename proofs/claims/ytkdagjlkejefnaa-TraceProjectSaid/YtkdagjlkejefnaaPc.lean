/- The operations that turn nothing: each does what its plain reading says. -/
import Derived.Test.YtkdagjlkejefnaaPb
import Derived.Laws.Cells
import Derived.Laws.Tables
import Derived.Laws.CopyRow
set_option linter.unusedSimpArgs false
set_option linter.unusedVariables false
namespace Go.Proofs.Ytkdagjlkejefnaa
open Go Go.RowKit

def aggT : TypeDesc → Bool
  | .struct _ => true
  | .array _ _ => true
  | _ => false

def cX : Operand → Option PX
  | .tmp t => some (.t t)
  | .const (.agg a) => if a.toList.all Value.oneCell' = true then some (.v (.agg a)) else none
  | .const (.tuple _) => none
  | .const v => some (.v v)
  | _ => none

section
variable {w0 : World} {S0 : Nat → Nat} {n : Nat} {W : Wit} {s : St} {a : Act} {w : World}

theorem constAv_one {v : Value} (h : v.oneCell' = true) : constAv v = .b (.one (.d (.sc v))) := by
  cases v <;> first | rfl | (simp [Value.oneCell'] at h)

theorem evX (h : Sim w0 S0 n W s a w) {xo : Operand} {x : PX} (hx : cX xo = some x) : RA W s.gen s.ob w (s.ev x) (a.eval xo) := by
  cases xo with
  | tmp t => simp [cX] at hx; subst hx; exact h.ev t
  | global g => simp [cX] at hx
  | func f => simp [cX] at hx
  | const v =>
    by_cases h1 : v.oneCell' = true
    · have : x = .v v := by
        cases v <;> first | (simp [Value.oneCell'] at h1; done) | (simp [cX] at hx; exact hx.symm)
      subst this
      simp only [St.ev, constAv_one h1]
      exact RD.sc _ h1
    · cases v with
      | agg arr =>
        simp only [cX] at hx
        split at hx
        · rename_i ha
          cases hx
          refine ⟨arr, rfl, by simp, fun i c u h2 h3 => ?_⟩
          simp only [List.getElem?_map, Array.getElem?_toList] at h2 h3
          rw [h3] at h2
          simp at h2
          subst h2
          exact RD.sc _ (List.all_eq_true.1 ha u (by
            have := Array.mem_of_getElem? h3
            simpa using this))
        · cases hx
      | tuple _ => simp [cX] at hx
      | _ => exact absurd rfl h1

theorem RD.sc_inv {S : Nat → Nat} {v u : Value} (h : RD S w (.sc v) u) : u = v ∧ v.oneCell' = true := by
  cases h with
  | sc _ h => exact ⟨rfl, h⟩

theorem val_ev (h : Sim w0 S0 n W s a w) {xo : Operand} {x : PX} (hx : cX xo = some x) {v : Value} (hv : s.val x = some v) : a.eval xo = v ∧ v.oneCell' = true := by
  have := evX h hx
  unfold St.val at hv
  split at hv
  · rename_i u heq
    rw [heq] at this
    cases hv
    exact RD.sc_inv this
  · cases hv
theorem int_ev (h : Sim w0 S0 n W s a w) {xo : Operand} {x : PX} (hx : cX xo = some x) {m : Int} (hv : s.int x = some m) : ∃ k, a.eval xo = .int k m := by
  have := evX h hx
  unfold St.int at hv
  split at hv
  · rename_i k u heq
    rw [heq] at this
    cases hv
    exact ⟨k, (RD.sc_inv this).1⟩
  · cases hv
theorem boo_ev (h : Sim w0 S0 n W s a w) {xo : Operand} {x : PX} (hx : cX xo = some x) {m : Bool} (hv : s.boo x = some m) : a.eval xo = .bool m := by
  have := evX h hx
  unfold St.boo at hv
  split at hv
  · rename_i u heq
    rw [heq] at this
    cases hv
    exact (RD.sc_inv this).1
  · cases hv
theorem cl_ev (h : Sim w0 S0 n W s a w) {xo : Operand} {x : PX} (hx : cX xo = some x) {c : Cl} (hc : s.cl x = c) (hu : c ≠ .un) : RC W s.gen s.ob w c (a.eval xo) := by
  have := evX h hx
  unfold St.cl at hc
  split at hc
  · rename_i u heq
    rw [heq] at this
    subst hc
    exact this
  · exact absurd hc.symm hu
theorem cells_one {v : Value} (h : v.oneCell' = true) : v.cells = #[v] := by
  cases v <;> first | rfl | (simp [Value.oneCell'] at h)
theorem cs_ev (h : Sim w0 S0 n W s a w) {xo : Operand} {x : PX} (hx : cX xo = some x) {cs : List Cl} (hc : s.cs x = some cs) : RCs W s.gen s.ob w cs (a.eval xo).cells.toList := by
  have := evX h hx
  unfold St.cs at hc
  split at hc
  · rename_i u heq
    rw [heq] at this
    cases hc
    have h1 : RC W s.gen s.ob w u (a.eval xo) := this
    rw [cells_one h1.one]
    refine ⟨rfl, fun i c v h2 h3 => ?_⟩
    cases i with
    | zero => simp at h2 h3; subst h2; subst h3; exact h1
    | succ i => simp at h2
  · rename_i u heq
    rw [heq] at this
    cases hc
    obtain ⟨arr, h1, h2⟩ := this
    rw [h1]
    exact h2
  · cases hc
theorem RCs.one {G : Nat → Nat} {O : Nat → Ob} {cs : List Cl} {vs : List Value} (h : RCs W G O w cs vs) : ∀ v ∈ vs, v.oneCell' = true := by
  intro v hv
  obtain ⟨i, hi, rfl⟩ := List.getElem_of_mem hv
  exact (h.2 i _ _ (List.getElem?_eq_getElem (by rw [h.1]; exact hi)) (List.getElem?_eq_getElem hi)).one

/-- o does what its reading po says -/
def Good (P : Program) (n : Nat) (o : Oper) (po : PO) : Prop :=
  ∀ (w0 : World) (S0 : Nat → Nat) (W : Wit) (s : St) (a : Act) (w : World) (v : Av) (ch : Cg), Sim w0 S0 n W s a w → po.fn s (o.dst.getD 0) = some (v, ch) →
    ∃ W' rv w', ((execOp a.eval o).run P w = .ok (.value rv) w' ∨ ((execOp a.eval o).run P w = .ok .skip w' ∧ rv = undef)) ∧ Sim w0 S0 n W' (s.ap o.dst v ch) (a.put o.dst rv) w'

/-- .. an operation that turns nothing -/
theorem Good.of_pure {P : Program} {o : Oper} {po : PO} (hd : ∀ d, o.dst = some d → d < n)
    (h : ∀ (w0 : World) (S0 : Nat → Nat) (W : Wit) (s : St) (a : Act) (w : World) (v : Av) (ch : Cg), Sim w0 S0 n W s a w → po.fn s (o.dst.getD 0) = some (v, ch) →
      ch = .no ∧ ∃ rv, (execOp a.eval o).run P w = .ok (.value rv) w ∧ RA W s.gen s.ob w v rv) : Good P n o po := by
  intro w0 S0 W s a w v ch hs hf
  obtain ⟨rfl, rv, h1, h2⟩ := h w0 S0 W s a w v ch hs hf
  exact ⟨W, rv, w, .inl h1, hs.put hd h2⟩

variable {P : Program} {o : Oper} (hd : ∀ d, o.dst = some d → d < n)
include hd

theorem good_mv {xo : Operand} {x : PX} (hop : o.op = .move xo ∨ o.op = .assign xo) (hx : cX xo = some x) : Good P n o (.mv x) :=
  .of_pure hd fun w0 S0 W s a w v ch hs hf => by
    simp only [PO.fn, Option.some.injEq, Prod.mk.injEq] at hf
    obtain ⟨rfl, rfl⟩ := hf
    refine ⟨rfl, a.eval xo, ?_, evX hs hx⟩
    rcases hop with h | h <;> simp [execOp, h]

theorem good_pick {co ao bo : Operand} {c x y : PX} (hop : o.op = .pick co ao bo) (hc : cX co = some c) (hx : cX ao = some x) (hy : cX bo = some y) : Good P n o (.pick c x y) :=
  .of_pure hd fun w0 S0 W s a w v ch hs hf => by
    simp only [PO.fn, Option.map_eq_some_iff, Prod.mk.injEq] at hf
    obtain ⟨t, ht, rfl, rfl⟩ := hf
    have h1 := boo_ev hs hc ht
    refine ⟨rfl, if t then a.eval ao else a.eval bo, ?_, ?_⟩
    · simp [execOp, hop, h1, asBool]
    · cases t
      · exact evX hs hy
      · exact evX hs hx



omit hd in
theorem addr_add {b off k : Nat} : (⟨b, off, none⟩ : Addr).add k = ⟨b, off + k, none⟩ := by
  unfold Addr.add; split
  · rename_i h; subst h; rfl
  · rfl

omit hd in
theorem run_isAgg {t : TypeId} {d : TypeDesc} (hu : P.underlying t = some d) (w : World) : (isAgg t).run P w = .ok (aggT d) w := by
  simp only [isAgg, Sem.run_bind, run_underlying hu, Result.andThen_ok]
  cases d <;> rfl

omit hd in
theorem mkAv_cells {k : Option Nat} {cs : List Cl} {vs : List Value} {off : Nat} {v : Av} (hr : RCs W s.gen s.ob w cs vs) (hv : mkAv k cs off = some v) :
    (k = none ∧ ∃ c u, cs[off]? = some c ∧ vs[off]? = some u ∧ v = .b (.one c) ∧ RC W s.gen s.ob w c u) ∨
    (∃ m, k = some m ∧ off + m ≤ vs.length ∧ v = .b (.agg ((cs.drop off).take m)) ∧ RCs W s.gen s.ob w ((cs.drop off).take m) ((vs.drop off).take m)) := by
  cases k with
  | none =>
    simp only [mkAv, Option.map_eq_some_iff] at hv
    obtain ⟨c, hc, rfl⟩ := hv
    have hlt := (List.getElem?_eq_some_iff.1 hc).1
    rw [hr.1] at hlt
    exact .inl ⟨rfl, c, vs[off], hc, List.getElem?_eq_getElem hlt, rfl, hr.2 off c _ hc (List.getElem?_eq_getElem hlt)⟩
  | some m =>
    simp only [mkAv] at hv
    split at hv
    · rename_i hle
      cases hv
      refine .inr ⟨m, rfl, by rw [← hr.1]; exact hle, rfl, by simp [hr.1], fun i c u h1 h2 => ?_⟩
      rw [List.getElem?_take] at h1 h2
      split at h1
      · rename_i hlt
        rw [if_pos hlt, List.getElem?_drop] at h2
        rw [List.getElem?_drop] at h1
        exact hr.2 _ _ _ h1 h2
      · cases h1
    · cases hv

omit hd in
theorem run_part {t : TypeId} {d : TypeDesc} {i : TypeInfo} (hu : P.underlying t = some d) (hi : P.info? t = some i) {k : Option Nat} (hk : k = if aggT d = true then some i.size else none)
    {cs : List Cl} {arr : Array Value} {off : Nat} {v : Av} (hr : RCs W s.gen s.ob w cs arr.toList) (hv : mkAv k cs off = some v) :
    ∃ rv, (part t arr off).run P w = .ok rv w ∧ RA W s.gen s.ob w v rv := by
  have hag := run_isAgg (P := P) hu w
  rcases mkAv_cells hr hv with ⟨rfl, c, u, h1, h2, rfl, h3⟩ | ⟨m, rfl, h1, rfl, h2⟩
  · have : aggT d = false := by cases h : aggT d <;> simp [h] at hk ⊢
    rw [this] at hag
    have h4 : arr[off]? = some u := by simpa using h2
    exact ⟨u, by simp [part, hag, h4], h3⟩
  · have : aggT d = true := by cases h : aggT d <;> simp [h] at hk ⊢
    rw [this] at hag hk
    simp at hk
    subst hk
    refine ⟨.agg (arr.extract off (off + i.size)), by simp [part, hag, sizeOf, typeInfo, hi], _, rfl, ?_⟩
    have : (arr.extract off (off + i.size)).toList = (arr.toList.drop off).take i.size := by
      simp [Array.toList_extract, List.extract_eq_take_drop]
    rw [this]
    exact h2

theorem good_fld {t : TypeId} {fs : Array Field} {i off : Nat} {f : Field} {fi : TypeInfo} {xo : Operand} {x : PX} (hop : o.op = .fieldAddr t xo i) (hu : P.underlying t = some (.struct fs)) (hfi : fs[i]? = some f) (hoff : f.offset = off)
    (hi : P.info? f.type = some fi) (hz : fi.size ≠ 0) (hx : cX xo = some x) : Good P n o (.fld off x) :=
  .of_pure hd fun w0 S0 W s a w v ch hs hf => by
    have key : ∀ b k, a.eval xo = .pointer (some ⟨b, k, none⟩) → (execOp a.eval o).run P w = .ok (.value (.pointer (some ⟨b, k + off, none⟩))) w := fun b k he => by
      simp [execOp, hop, Instr.fieldAt, run_underlying hu, hfi, he, Instr.sureAddr, fieldPlace, sizeOf, typeInfo, hi, hz, hoff, addr_add]
    simp only [PO.fn] at hf
    split at hf
    · rename_i o' g k heq
      split at hf
      · rename_i hg
        cases hf
        obtain ⟨h1, h2, h3⟩ := cl_ev hs hx heq (by simp)
        exact ⟨rfl, _, key _ _ (h3 hg.symm), rfl, h2, fun _ => rfl⟩
      · cases hf
    · rename_i row k heq
      cases hf
      obtain ⟨b, k', h1, h2⟩ := cl_ev hs hx heq (by simp)
      exact ⟨rfl, _, key _ _ h1, b, k', by rw [Nat.add_assoc], h2⟩
    · cases hf

theorem good_fldv {t : TypeId} {fs : Array Field} {i off : Nat} {f : Field} {fd : TypeDesc} {fi : TypeInfo} {xo : Operand} {x : PX} {k : Option Nat} (hop : o.op = .field t xo i) (hu : P.underlying t = some (.struct fs)) (hfi : fs[i]? = some f) (hoff : f.offset = off)
    (hfu : P.underlying f.type = some fd) (hi : P.info? f.type = some fi) (hk : k = if aggT fd = true then some fi.size else none) (hx : cX xo = some x) : Good P n o (.fldv off k x) :=
  .of_pure hd fun w0 S0 W s a w v ch hs hf => by
    simp only [PO.fn] at hf
    split at hf
    · rename_i cs heq
      simp only [Option.map_eq_some_iff, Prod.mk.injEq] at hf
      obtain ⟨v', hv, rfl, rfl⟩ := hf
      have := evX hs hx
      rw [heq] at this
      obtain ⟨arr, h1, h2⟩ := this
      obtain ⟨rv, h3, h4⟩ := run_part hfu hi hk h2 hv
      refine ⟨rfl, rv, ?_, h4⟩
      simp [execOp, hop, Instr.field, run_underlying hu, hfi, h1, asAgg, hoff, h3]
    · cases hf

theorem good_ixa {t e ln : Nat} {ei : TypeInfo} {xo io : Operand} {x i : PX} (hop : o.op = .indexAddr t xo io) (hu : P.underlying t = some (.array ln e)) (hi : P.info? e = some ei) (hx : cX xo = some x) (hix : cX io = some i) : Good P n o (.ixa ln ei.size x i) :=
  .of_pure hd fun w0 S0 W s a w v ch hs hf => by
    have key : ∀ b off kk k, a.eval xo = .pointer (some ⟨b, off, none⟩) → a.eval io = .int kk k → 0 ≤ k → k < (ln : Int) → (execOp a.eval o).run P w = .ok (.value (.pointer (some ⟨b, off + k.toNat * ei.size, none⟩))) w := fun b off kk k he hk h0 h1 => by
      simp [execOp, hop, Instr.indexAt, run_underlying hu, he, hk, asIntOf, Instr.sureAddr, h0, h1, sizeOf, typeInfo, hi, addr_add]
    simp only [PO.fn] at hf
    split at hf
    · rename_i o' g off k heq hk
      split at hf
      · rename_i hg
        cases hf
        obtain ⟨h1, h2, h3⟩ := cl_ev hs hx heq (by simp)
        obtain ⟨kk, hk⟩ := int_ev hs hix hk
        exact ⟨rfl, _, key _ _ _ _ (h3 hg.1.symm) hk hg.2.1 hg.2.2, rfl, h2, fun _ => rfl⟩
      · cases hf
    · rename_i row off k heq hk
      split at hf
      · rename_i hg
        cases hf
        obtain ⟨b, k', h1, h2⟩ := cl_ev hs hx heq (by simp)
        obtain ⟨kk, hk⟩ := int_ev hs hix hk
        exact ⟨rfl, _, key _ _ _ _ h1 hk hg.1 hg.2, b, k', by rw [Nat.add_assoc], h2⟩
      · cases hf
    · cases hf

omit hd in
theorem RD.len {S : Nat → Nat} {rows : List (List Dt)} {v : Value} (h : RD S w (.im rows) v) : ∃ A c, v = .slice A rows.length c ∧ rows.length ≤ c ∧ c ≤ maxLen := by
  cases h with
  | emp A c h => exact ⟨A, c, rfl, by simp, h⟩
  | im _ sz b o cap f hc hm => exact ⟨_, cap, rfl, hc, hm⟩
omit hd in
theorem RD.row {S : Nat → Nat} {rows : List (List Dt)} {v : Value} (h : RD S w (.im rows) v) {i : Nat} {r : List Dt} (hr : rows[i]? = some r) :
    ∃ b o c, v = .slice (some ⟨b, o, none⟩) rows.length c ∧ ∀ j x, r[j]? = some x → ∃ u, w.cell? ⟨b, o + (i * r.length + j), none⟩ = some u ∧ o + (i * r.length + j) < S b ∧ RD S w x u := by
  cases h with
  | emp A c h => simp at hr
  | im _ sz b o cap f hc hm hsz hcell hd =>
    refine ⟨b, o, cap, rfl, fun j x hj => ?_⟩
    have hil := (List.getElem?_eq_some_iff.1 hr).1
    have hjl := (List.getElem?_eq_some_iff.1 hj).1
    have hrl : r.length = sz := hsz r (List.mem_of_getElem? hr)
    rw [hrl] at hjl ⊢
    obtain ⟨h1, h2⟩ := hcell i j hil hjl
    exact ⟨_, h1, h2, hd i r j x hr hj⟩
omit hd in
theorem rows_ev (h : Sim w0 S0 n W s a w) {xo : Operand} {x : PX} (hx : cX xo = some x) {rows : List (List Dt)} (hr : (s.cl x).rows = some rows) : RD W.S w (.im rows) (a.eval xo) := by
  unfold Cl.rows at hr
  split at hr
  · rename_i r heq
    cases hr
    exact cl_ev h hx heq (by simp)
  · rename_i heq
    cases hr
    have h1 : RD W.S w (.sc (.slice none 0 0)) (a.eval xo) := cl_ev h hx heq (by simp)
    obtain ⟨h2, _⟩ := RD.sc_inv h1
    rw [h2]
    exact .emp none 0 (by unfold maxLen; omega)
  · rename_i o g r heq
    cases hr
    exact (cl_ev h hx heq (by simp)).1
  · cases hr

theorem good_ixs {t e : Nat} {ei : TypeInfo} {xo io : Operand} {x i : PX} (hop : o.op = .indexAddr t xo io) (hu : P.underlying t = some (.slice e)) (hi : P.info? e = some ei) (hx : cX xo = some x) (hix : cX io = some i) : Good P n o (.ixs ei.size x i) :=
  .of_pure hd fun w0 S0 W s a w v ch hs hf => by
    simp only [PO.fn] at hf
    split at hf
    · rename_i rows k hr hk
      split at hf
      · rename_i h0
        split at hf
        · rename_i row hrow
          split at hf
          · rename_i hsz
            cases hf
            obtain ⟨kk, hk⟩ := int_ev hs hix hk
            obtain ⟨b, o', c, h1, h2⟩ := (rows_ev hs hx hr).row hrow
            have hlt : k < (rows.length : Int) := by have := (List.getElem?_eq_some_iff.1 hrow).1; omega
            refine ⟨rfl, .pointer (some ⟨b, o' + k.toNat * ei.size, none⟩), ?_, b, o' + k.toNat * ei.size, rfl, fun j y hj => ?_⟩
            · simp [execOp, hop, Instr.indexAt, run_underlying hu, h1, hk, asIntOf, h0, hlt, sizeOf, typeInfo, hi, addr_add]
            · obtain ⟨u, h3, h4, h5⟩ := h2 j y hj
              rw [hsz] at h3 h4
              exact ⟨u, by rw [Nat.add_assoc]; exact h3, by rw [Nat.add_assoc]; exact h4, h5⟩
          · cases hf
        · cases hf
      · cases hf
    · cases hf

theorem good_ixv {t e ln : Nat} {ei : TypeInfo} {ed : TypeDesc} {xo io : Operand} {x i : PX} {k : Option Nat} (hop : o.op = .index t xo io) (hu : P.underlying t = some (.array ln e)) (heu : P.underlying e = some ed) (hi : P.info? e = some ei)
    (hk : k = if aggT ed = true then some ei.size else none) (hx : cX xo = some x) (hix : cX io = some i) : Good P n o (.ixv ln ei.size k x i) :=
  .of_pure hd fun w0 S0 W s a w v ch hs hf => by
    simp only [PO.fn] at hf
    split at hf
    · rename_i cs m heq hm
      split at hf
      · rename_i h0
        simp only [Option.map_eq_some_iff, Prod.mk.injEq] at hf
        obtain ⟨v', hv, rfl, rfl⟩ := hf
        have := evX hs hx
        rw [heq] at this
        obtain ⟨arr, h1, h2⟩ := this
        obtain ⟨kk, hm⟩ := int_ev hs hix hm
        obtain ⟨rv, h3, h4⟩ := run_part heu hi hk h2 hv
        refine ⟨rfl, rv, ?_, h4⟩
        simp [execOp, hop, Instr.index, run_underlying hu, h1, hm, asIntOf, h0.1, h0.2, sizeOf, typeInfo, hi, h3]
      · cases hf
    · cases hf

theorem good_ixstr {t : Nat} {xo io : Operand} {x i : PX} (hop : o.op = .index t xo io) (hu : P.underlying t = some .string) (hx : cX xo = some x) (hix : cX io = some i) : Good P n o (.ixstr x i) :=
  .of_pure hd fun w0 S0 W s a w v ch hs hf => by
    simp only [PO.fn] at hf
    split at hf
    · rename_i b m heq hm
      split at hf
      · rename_i h0
        simp only [Option.map_eq_some_iff, Prod.mk.injEq] at hf
        obtain ⟨c, hc, rfl, rfl⟩ := hf
        obtain ⟨h1, _⟩ := val_ev hs hx heq
        obtain ⟨kk, hm⟩ := int_ev hs hix hm
        refine ⟨rfl, .int .u8 c.toNat, ?_, RD.sc _ rfl⟩
        simp [execOp, hop, Instr.index, run_underlying hu, h1, hm, asIntOf, h0, hc]
      · cases hf
    · cases hf
end
end Go.Proofs.Ytkdagjlkejefnaa
