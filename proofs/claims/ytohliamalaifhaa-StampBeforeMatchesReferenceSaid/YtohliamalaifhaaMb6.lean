/- Words for memory and for maps, over any program. -/
import Derived.Test.YtohliamalaifhaaMb5
import Derived.Maps.OwnSet
import Derived.Deep.Draws
import Derived.Below
import Derived.DeepKeys5
import Derived.Test.YtohliamalaifhaaRows
import Derived.WalkKit
import Derived.WalkSpells
import Derived.Outline
import Derived.Handy
import Derived.Deep.Light
import Derived.Lib.Hide
import Derived.RegionTactic
import Derived.BigRegion
import Derived.Deep.QuietTactic
import Derived.BigQuiet
import Derived.Deep.DeepCutAuto
import Derived.Deep.CutBlock
section
set_option linter.unusedSimpArgs false
set_option linter.unusedVariables false
namespace Go.Proofs.Ytohliamalaifhaa
open Go.RowKit Go.Maps

/-- Everything but the blocks named in L is as it was. -/
structure But (L : List Nat) (w w' : World) : Prop where
  os : w'.os = w.os
  tape : w'.tape = w.tape
  output : w'.output = w.output
  size : w.heap.size ≤ w'.heap.size
  block : ∀ k, k < w.heap.size → k ∉ L → w'.heap[k]? = w.heap[k]?

theorem But.refl (L : List Nat) (w : World) : But L w w := ⟨rfl, rfl, rfl, Nat.le_refl _, fun _ _ _ => rfl⟩
theorem But.trans {L : List Nat} {a b c : World} (h : But L a b) (k : But L b c) : But L a c :=
  ⟨k.os.trans h.os, k.tape.trans h.tape, k.output.trans h.output, Nat.le_trans h.size k.size, fun i hi hn => (k.block i (Nat.lt_of_lt_of_le hi h.size) hn).trans (h.block i hi hn)⟩
theorem But.mono {L L' : List Nat} {a b : World} (h : But L a b) (hs : ∀ x ∈ L, x ∈ L' ∨ a.heap.size ≤ x) : But L' a b :=
  ⟨h.os, h.tape, h.output, h.size, fun i hi hn => h.block i hi (fun hm => by rcases hs i hm with h1 | h1; exact hn h1; omega)⟩
theorem But.drewN {L : List Nat} {a b : World} (h : But L a b) (n : Nat) : But L a (b.drewN n) := ⟨h.os, h.tape, h.output, h.size, h.block⟩
theorem But.drew {L : List Nat} {a b : World} (h : But L a b) : But L a b.drew := ⟨h.os, h.tape, h.output, h.size, h.block⟩
theorem But.alloc {L : List Nat} {a b : World} (h : But L a b) (o : Obj) : But L a (b.alloc o) :=
  h.trans ⟨rfl, rfl, rfl, by simp, fun k hk _ => Below.heap_alloc _ _ _ hk⟩
theorem But.setCell {L : List Nat} {a b : World} (h : But L a b) {p : Addr} (hp : p.block ∈ L ∨ a.heap.size ≤ p.block) (u : Value) : But L a (b.setCell p u) :=
  ⟨h.os, h.tape, h.output, by simpa [World.setCell] using h.size, fun k hk hn => (Below.heap_setCell _ _ _ _ (by rintro rfl; rcases hp with h1 | h1; exact hn h1; omega)).trans (h.block k hk hn)⟩
theorem But.below {L : List Nat} {a b c : World} (h : But L a b) (hb : Below b.heap.size b c) : But L a c :=
  h.trans ⟨hb.os, hb.tape, hb.output, hb.size, fun k hk _ => hb.block k hk⟩
theorem But.grown {L : List Nat} {a b c : World} (h : But L a b) {g : Nat} (hg : b.grownBy c (some g)) (hL : g ∈ L ∨ a.heap.size ≤ g) : But L a c :=
  ⟨hg.os.trans h.os, hg.tape.trans h.tape, hg.output.trans h.output, Nat.le_trans h.size hg.size, fun k hk hn =>
    (hg.block k (Nat.lt_of_lt_of_le hk h.size) (by rintro he; cases he; rcases hL with h1 | h1; exact hn h1; omega)).trans (h.block k hk hn)⟩
theorem But.to_below {w w' : World} (h : But [] w w') : Below w.heap.size w w' := ⟨h.os, h.tape, h.output, h.size, fun k hk => h.block k hk (by simp)⟩

theorem But.cell {L : List Nat} {w w' : World} (h : But L w w') {p : Addr} (hp : p.block < w.heap.size) (hL : p.block ∉ L) : w'.cell? p = w.cell? p := World.cell?_of_block (w := w) (h.block p.block hp hL)
theorem But.frozen {L : List Nat} {w w' : World} (h : But L w w') {p : Addr} (hp : p.block < w.heap.size) (hL : p.block ∉ L) : w'.frozen? p = w.frozen? p := World.frozen?_of_block (w := w) (h.block p.block hp hL)

/-- An element kept as it is. -/
def heldE (v : Value) : Option (DataW Value × List MemPlace) := some (.held v, [])


/-- The keys of type k, as the Lean type κ has them. -/
structure KeyT (P : Program) (k : TypeId) {κ : Type} (kv : κ → Value) (ok : κ → Prop) : Prop where
  keyed : Keyed P k
  reads : ∀ x, ok x → ∃ l, keyOf P k (kv x) = some l
  inj : ∀ x y, kv x = kv y → x = y

/-- Block b is a map of at most n entries; at the key x it holds f x. -/
def MapOf {κ : Type} (kv : κ → Value) (w : World) (P : Program) (k : TypeId) (b n : Nat) (f : κ → Option Value) : Prop :=
  ∃ D, w.ownsMap P k heldE b n D ∧ ∀ x l, keyOf P k (kv x) = some l → D.atKey l .nil = (match f x with | some v => .held v | none => .nil)

section
variable {κ : Type} [DecidableEq κ] {kv : κ → Value} {ok : κ → Prop}
variable {P : Program} {k e t : TypeId} {w w' : World} {b n : Nat} {f : κ → Option Value}

omit [DecidableEq κ] in
theorem MapOf.made (w : World) (P : Program) (k : TypeId) : MapOf kv (w.alloc (.map #[] 0)) P k w.heap.size 0 (fun _ => none) :=
  ⟨_, World.ownsMap_made w P k heldE, fun _ _ _ => rfl⟩
omit [DecidableEq κ] in
theorem MapOf.lt (h : MapOf kv w P k b n f) : b < w.heap.size := let ⟨_, h, _⟩ := h; h.lt
omit [DecidableEq κ] in
theorem MapOf.keep (h : MapOf kv w P k b n f) (hb : w'.heap[b]? = w.heap[b]?) : MapOf kv w' P k b n f :=
  let ⟨D, ⟨es, cl, h1, h2⟩, h3⟩ := h
  ⟨D, ⟨es, cl, hb.trans h1, h2⟩, h3⟩
omit [DecidableEq κ] in
theorem MapOf.but {L : List Nat} (h : MapOf kv w P k b n f) (hb : But L w w') (hL : b ∉ L) : MapOf kv w' P k b n f := h.keep (hb.block b h.lt hL)
omit [DecidableEq κ] in
theorem MapOf.mono (h : MapOf kv w P k b n f) {n' : Nat} (hn : n ≤ n') : MapOf kv w P k b n' f :=
  let ⟨D, h1, h3⟩ := h
  ⟨D, h1.mono hn, h3⟩
omit [DecidableEq κ] in
theorem MapOf.drewN (h : MapOf kv w P k b n f) (m : Nat) : MapOf kv (w.drewN m) P k b n f := h
omit [DecidableEq κ] in
theorem MapOf.alloc (h : MapOf kv w P k b n f) (o : Obj) : MapOf kv (w.alloc o) P k b n f := h.keep (Below.heap_alloc _ _ _ h.lt)
omit [DecidableEq κ] in
theorem MapOf.setCell (h : MapOf kv w P k b n f) {p : Addr} (hp : b ≠ p.block) (u : Value) : MapOf kv (w.setCell p u) P k b n f := h.keep (Below.heap_setCell _ _ _ _ hp)
omit [DecidableEq κ] in
theorem MapOf.congr (h : MapOf kv w P k b n f) {g : κ → Option Value} (hg : ∀ x, f x = g x) : MapOf kv w P k b n g := by
  have : f = g := funext hg
  rwa [this] at h

omit [DecidableEq κ] in
theorem MapOf.look (h : MapOf kv w P k b n f) (K : KeyT P k kv ok) (ht : P.underlying t = some (.map k e)) {z : Value} (hz : ∀ w, (zeroValue e).run P w = .ok z w) (x : κ) (hx : ok x) :
    (Instr.lookup t (.map (some b)) (kv x) false).run P w = .ok ((f x).getD z) w := by
  obtain ⟨D, ⟨es, clock, hb, F, _, rfl⟩, hf⟩ := h
  obtain ⟨kl, hkey⟩ := K.reads x hx
  have h3 := hf x kl hkey
  rcases Maps.fit_look false K.keyed ht (hz w) hb F hkey with ⟨hrun, _, hat⟩ | ⟨e0, y, _, _, hrun, hRv, hat, _⟩
  · rw [hat] at h3
    cases hfk : f x with
    | none => simpa using hrun
    | some v => rw [hfk] at h3; cases h3
  · rw [hat] at h3
    simp only [heldE, Option.some.injEq] at hRv
    subst hRv
    cases hfk : f x with
    | none => rw [hfk] at h3; cases h3
    | some v => rw [hfk] at h3; simp only [DataW.held.injEq] at h3; subst h3; simpa using hrun

omit [DecidableEq κ] in
theorem MapOf.look_ok (h : MapOf kv w P k b n f) (K : KeyT P k kv ok) (ht : P.underlying t = some (.map k e)) {z : Value} (hz : ∀ w, (zeroValue e).run P w = .ok z w) (x : κ) (hx : ok x) :
    (Instr.lookup t (.map (some b)) (kv x) true).run P w = .ok (.tuple #[(f x).getD z, .bool (f x).isSome]) w := by
  obtain ⟨D, ⟨es, clock, hb, F, _, rfl⟩, hf⟩ := h
  obtain ⟨kl, hkey⟩ := K.reads x hx
  have h3 := hf x kl hkey
  rcases Maps.fit_look true K.keyed ht (hz w) hb F hkey with ⟨hrun, _, hat⟩ | ⟨e0, y, _, _, hrun, hRv, hat, _⟩
  · rw [hat] at h3
    cases hfk : f x with
    | none => simpa using hrun
    | some v => rw [hfk] at h3; cases h3
  · rw [hat] at h3
    simp only [heldE, Option.some.injEq] at hRv
    subst hRv
    cases hfk : f x with
    | none => rw [hfk] at h3; cases h3
    | some v => rw [hfk] at h3; simp only [DataW.held.injEq] at h3; subst h3; simpa using hrun

theorem MapOf.put (h : MapOf kv w P k b n f) (K : KeyT P k kv ok) (ht : P.underlying t = some (.map k e)) (hn : n < maxLen) (x : κ) (hx : ok x) (v : Value) :
    ∃ w', (Instr.mapUpdate t (.map (some b)) (kv x) v).run P w = .ok () w' ∧ MapOf kv w' P k b (n + 1) (upd f x v) ∧ w.grownBy w' (some b) := by
  obtain ⟨D, hown, hf⟩ := h
  obtain ⟨kl, hkey⟩ := K.reads x hx
  obtain ⟨w', hrun, h1, h2⟩ := hown.update K.keyed ht hn hkey (val := v) (d := .held v) (ps := []) rfl
  refine ⟨w', hrun, ⟨_, h1, fun y l hy => ?_⟩, h2⟩
  unfold upd
  by_cases hyx : y = x
  · subst hyx
    rw [hkey] at hy
    cases hy
    rw [if_pos rfl, atKey_put_same hown.isMap (K.keyed.key hkey)]
  · rw [if_neg hyx]
    have hne : l ≠ kl := by
      rintro rfl
      exact hyx (K.inj _ _ (K.keyed.inj hy hkey))
    rw [atKey_put_other hne]
    exact hf y l hy

theorem wpList_put (w : World) {ops : Array Oper} {rest : List Oper} {o : Oper} {a : Act} {Q : Exit → Act → World → Prop}
    (hg : o.guard = none) (m x v : Operand) (t : TypeId) (hop : o.op = Op.mapUpdate t m x v) (K : KeyT P k kv ok) (ht : P.underlying t = some (.map k e))
    (hm : a.eval m = .map (some b)) (h : MapOf kv w P k b n f) (hn : n < maxLen) (y : κ) (hx : a.eval x = kv y) (hy : ok y) (val : Value) (hv : a.eval v = val)
    (hK : ∀ w', MapOf kv w' P k b (n + 1) (upd f y val) → w.grownBy w' (some b) → wpList P ops Q rest (a.put o.dst undef) w') :
    wpList P ops Q (o :: rest) a w := by
  refine wpList_plain hg fun K' hK' => ?_
  obtain ⟨w', hrun, r1, r2⟩ := h.put K ht hn y hy val
  unfold Oper.wp
  simp [execOp, hop, hm, hx, hv, hrun, Result.andThen]
  exact hK' _ _ (hK w' r1 r2)

theorem KeyT.int {P : Program} {k : TypeId} (hk : P.underlying k = some (.int .i64)) : KeyT P k (fun x : Int => Value.int .i64 x) (fun x => (Lit.int .i64 x).wf = true) :=
  ⟨int_keyed hk, fun x hx => ⟨_, keyOf_int_mk hk hx⟩, fun x y h => by injection h⟩

/-- A struct of two ints as a key. -/
def locV (x : Int × Int) : Value := .agg #[.int .i64 x.1, .int .i64 x.2]
theorem keyLits_int {P : Program} {t : TypeId} (ht : P.underlying t = some (.int .i64)) (d : Nat) {a : Int} (h : (Lit.int .i64 a).wf = true) : P.keyLits (d + 1) t [.int .i64 a] = some [.int .i64 a] := by
  simp [Program.keyLits, ht, h]
theorem keyOf_loc {P : Program} {k t : TypeId} {f0 f1 : Field} (hk : P.underlying k = some (.struct #[f0, f1])) (ht : P.underlying t = some (.int .i64)) (h0 : f0.type = t) (h1 : f1.type = t) (o0 : f0.offset = 0) (o1 : f1.offset = 1)
    (hn : ((#[f0, f1] : Array Field).all (·.name != "_")) = true) (hc : P.cellsOf k = 2) (hct : P.cellsOf t = 1) (hkt : P.keyType k = true) (hz : 0 < P.types.size) {a b : Int} (ha : (Lit.int .i64 a).wf = true) (hb : (Lit.int .i64 b).wf = true) :
    keyOf P k (locV (a, b)) = some (.string (keyBytes [.int .i64 a, .int .i64 b])) := by
  obtain ⟨d, hd⟩ : ∃ d, P.types.size = d + 1 := ⟨P.types.size - 1, by omega⟩
  have e1 : P.keyLits (d + 1 + 1) k [.int .i64 a, .int .i64 b] = some [.int .i64 a, .int .i64 b] := by
    unfold Program.keyLits
    rw [hk]
    dsimp only
    rw [if_pos ⟨by simp [hc], hn⟩]
    simp [h0, h1, o0, o1, hct, keyLits_int ht d ha, keyLits_int ht d hb]
  unfold keyOf locV
  rw [hk]
  dsimp only
  rw [if_pos (by simp [hkt, Value.formed, hk, hc]), hd]
  simp only [Value.cells]
  rw [e1]
  rfl
theorem KeyT.loc {P : Program} {k t : TypeId} {f0 f1 : Field} (K : Keyed P k) (hk : P.underlying k = some (.struct #[f0, f1])) (ht : P.underlying t = some (.int .i64)) (h0 : f0.type = t) (h1 : f1.type = t) (o0 : f0.offset = 0) (o1 : f1.offset = 1)
    (hn : ((#[f0, f1] : Array Field).all (·.name != "_")) = true) (hc : P.cellsOf k = 2) (hct : P.cellsOf t = 1) (hkt : P.keyType k = true) (hz : 0 < P.types.size) :
    KeyT P k locV (fun x => (Lit.int .i64 x.1).wf = true ∧ (Lit.int .i64 x.2).wf = true) :=
  ⟨K, fun x hx => ⟨_, keyOf_loc hk ht h0 h1 o0 o1 hn hc hct hkt hz hx.1 hx.2⟩, fun x y h => by
    obtain ⟨a, b⟩ := x
    obtain ⟨c, d⟩ := y
    simp [locV] at h
    simp [h]⟩
theorem wf_i64 {x : Int} (h : I64 x) : (Lit.int .i64 x).wf = true := by
  simp [Lit.wf, IntKind.min, IntKind.max, IntKind.signed, IntKind.bits]; exact ⟨h.1, by have := h.2; omega⟩
end
end Go.Proofs.Ytohliamalaifhaa
end
section
set_option linter.unusedSimpArgs false
set_option linter.unusedVariables false
namespace Go.Proofs.Ytohliamalaifhaa
open Go.RowKit

theorem ret_bool {a b : Bool} (h : a = b) : Ending.returned (.bool a) = .returned (.bool b) := by rw [h]
theorem ret_int {a b : Int} (h : a = b) : Ending.returned (.int .i64 a) = .returned (.int .i64 b) := by rw [h]

theorem numbered_any (k : Int) (w : World) : Calls Try.prog 52 #[.int .i64 k] w fun e w' => e = .returned (.bool (numberedB k)) ∧ w = w' := by
  go_enter Try.func52, Try.ntmps52
  go_wp2
  all_goals (go_ret; refine ⟨ret_bool ?_, rfl⟩; simp [numberedB]; omega)
theorem isKind_any (k : Int) (w : World) : Calls Try.prog 51 #[.int .i64 k] w fun e w' => e = .returned (.bool (isKindB k)) ∧ w = w' := by
  go_enter Try.func51, Try.ntmps51
  go_wp2
  all_goals (go_ret; refine ⟨ret_bool ?_, rfl⟩; simp [isKindB]; omega)
theorem channel_any (k : Int) (w : World) : Calls Try.prog 48 #[.int .i64 k] w fun e w' => e = .returned (.bool (chanB k)) ∧ w = w' := by
  go_enter Try.func48, Try.ntmps48
  go_wp2_with ((go_at_call 52; refine (numbered_any _ _).mono ?_; rintro e w' ⟨rfl, rfl⟩))
  all_goals (go_ret; refine ⟨ret_bool ?_, rfl⟩; unfold numberedB at *; unfold chanB; simp only [decide_eq_true_eq] at *; rw [Bool.eq_iff_iff]; simp; omega)

theorem idx7 (x0 x1 x2 x3 x4 x5 x6 : Value) :
    (∀ w, (Instr.index 85 (.agg #[x0, x1, x2, x3, x4, x5, x6]) (.int .i64 0)).run Try.prog w = .ok x0 w) ∧ (∀ w, (Instr.index 85 (.agg #[x0, x1, x2, x3, x4, x5, x6]) (.int .i64 1)).run Try.prog w = .ok x1 w) ∧
    (∀ w, (Instr.index 85 (.agg #[x0, x1, x2, x3, x4, x5, x6]) (.int .i64 2)).run Try.prog w = .ok x2 w) ∧ (∀ w, (Instr.index 85 (.agg #[x0, x1, x2, x3, x4, x5, x6]) (.int .i64 3)).run Try.prog w = .ok x3 w) ∧
    (∀ w, (Instr.index 85 (.agg #[x0, x1, x2, x3, x4, x5, x6]) (.int .i64 4)).run Try.prog w = .ok x4 w) ∧ (∀ w, (Instr.index 85 (.agg #[x0, x1, x2, x3, x4, x5, x6]) (.int .i64 5)).run Try.prog w = .ok x5 w) ∧
    (∀ w, (Instr.index 85 (.agg #[x0, x1, x2, x3, x4, x5, x6]) (.int .i64 6)).run Try.prog w = .ok x6 w) :=
  ⟨fun _ => by kernel_rfl, fun _ => by kernel_rfl, fun _ => by kernel_rfl, fun _ => by kernel_rfl, fun _ => by kernel_rfl, fun _ => by kernel_rfl, fun _ => by kernel_rfl⟩

set_option maxHeartbeats 4000000 in
set_option maxRecDepth 100000 in
theorem evalid_any (e : Ev) (w : World) : Calls Try.prog 46 #[e.val] w fun r w' => r = .returned (.bool e.valid) ∧ Below w.heap.size w w' := by
  obtain ⟨g, kind, obj, off, k, n, fn, pc, stack⟩ := e
  unfold Ev.val
  obtain ⟨i0, i1, i2, i3, i4, i5, i6⟩ := idx7 (.int .i64 obj) (.int .i64 off) (.int .i64 k) (.int .i64 n) (.int .i64 fn) (.int .i64 pc) (.int .i64 stack)
  go_enter Try.func46, Try.ntmps46
  go_wp2_with (first | (go_at_call 51; refine (isKind_any _ _).mono ?_; rintro e w' ⟨rfl, rfl⟩))
  all_goals try (refine wp_loop_rounds 8 ?_)
  all_goals try (repeat any_goals (rw [rounds_succ]; go_wp2_with (first | (go_at_call 52; refine (numbered_any _ _).mono ?_; rintro e w' ⟨rfl, rfl⟩) | (go_at_call 48; refine (channel_any _ _).mono ?_; rintro e w' ⟨rfl, rfl⟩))))
  all_goals (go_ret; refine ⟨ret_bool ?_, (Below.refl _ _).alloc (Nat.le_refl _) _⟩)
  all_goals (simp only [isKindB, chanB, numberedB, decide_eq_true_eq, beq_iff_eq, beq_eq_false_iff_ne, ne_eq, decide_eq_false_iff_not] at *)
  all_goals (unfold Ev.valid Ev.rest; rw [Bool.eq_iff_iff]; simp only [isKindB, rangeB, Bool.and_eq_true, decide_eq_true_eq, Bool.ite_eq_true_distrib, Bool.false_eq_true, false_iff, true_iff, beq_iff_eq, Bool.or_eq_true])
  all_goals clear i0 i1 i2 i3 i4 i5 i6
  all_goals go_light
  all_goals first | omega | (split <;> omega) | (split <;> first | omega | (split <;> omega)) | (split <;> first | omega | (split <;> first | omega | (split <;> omega)))
end Go.Proofs.Ytohliamalaifhaa
end
section
set_option linter.unusedSimpArgs false
set_option linter.unusedVariables false
namespace Go.Proofs.Ytohliamalaifhaa
open Go.RowKit

def Ch.val (c : Ch) : Value := .agg #[.int .i64 c.cap, .int .i64 c.sent, .int .i64 c.recv, .bool c.closed]
def Mu.val (m : Mu) : Value := .agg #[.bool m.locked, .int .i64 m.readers]
def iK (x : Int) : Value := .int .i64 x
def chanMap (f : Int → Option Ch) (x : Int) : Option Value := (f x).map Ch.val
def muMap (f : Int × Int → Option Mu) (x : Int × Int) : Option Value := (f x).map Mu.val
def doneMap (f : Int × Int → Option Bool) (x : Int × Int) : Option Value := (f x).map Value.bool

theorem chanMap_upd (f : Int → Option Ch) (x : Int) (c : Ch) : upd (chanMap f) x c.val = chanMap (upd f x c) := by
  funext y; unfold upd chanMap; by_cases h : y = x <;> simp [h]
theorem muMap_upd (f : Int × Int → Option Mu) (x : Int × Int) (c : Mu) : upd (muMap f) x c.val = muMap (upd f x c) := by
  funext y; unfold upd muMap; by_cases h : y = x <;> simp [h]
theorem doneMap_upd (f : Int × Int → Option Bool) (x : Int × Int) (c : Bool) : upd (doneMap f) x (.bool c) = doneMap (upd f x c) := by
  funext y; unfold upd doneMap; by_cases h : y = x <;> simp [h]

theorem zeroCh (w : World) : (zeroValue 90).run Try.prog w = .ok ch0.val w := by kernel_rfl
theorem zeroMu (w : World) : (zeroValue 93).run Try.prog w = .ok mu0.val w := by kernel_rfl
theorem zeroB (w : World) : (zeroValue 4).run Try.prog w = .ok (.bool false) w := by kernel_rfl
theorem keyI : KeyT Try.prog 3 iK (fun x => (Lit.int .i64 x).wf = true) := KeyT.int Try.underlying3
theorem laidOut : laidOutB Try.prog = true := by kernel_rfl
theorem keyedL : Maps.Keyed Try.prog 76 := Maps.Keyed.of_law (deep_law_gate laidOut (of_decide_eq_true (by kernel_rfl)) (of_decide_eq_true (by kernel_rfl)) (by kernel_rfl) (by kernel_rfl))
theorem keyL : KeyT Try.prog 76 locV (fun x => (Lit.int .i64 x.1).wf = true ∧ (Lit.int .i64 x.2).wf = true) :=
  KeyT.loc keyedL Try.underlying76 Try.underlying3 rfl rfl rfl rfl (by kernel_rfl) (by kernel_rfl) (by kernel_rfl) (by kernel_rfl) (of_decide_eq_true (by kernel_rfl))

/-- the slice v of ints reads as xs, outside of block sb -/
def KindsAt (w : World) (v : Value) (xs : List Int) (sb : Nat) : Prop :=
  ∃ A c, v = .slice A xs.length c ∧ xs.length ≤ c ∧ (0 < xs.length → ∃ b o, A = some ⟨b, o, none⟩ ∧ b ≠ sb ∧ ∀ i x, xs[i]? = some x → w.cell? ⟨b, o + i, none⟩ = some (.int .i64 x))

def TCells (s : TS) (bc bm bd : Nat) (kv : Value) : Array Value :=
  #[.int .i64 s.events, .int .i64 s.gor, .map (some bc), .map (some bm), .map (some bd), kv, .int .i64 s.grp.obj, .int .i64 s.grp.k, .int .i64 s.grp.n, .int .i64 s.grp.snd, .int .i64 s.grp.rcv]
/-- the state s lies in block sb, its maps in bc, bm, bd -/
structure TRep (w : World) (sb bc bm bd N : Nat) (s : TS) (kv : Value) : Prop where
  row : w.heap[sb]? = some (.cells (TCells s bc bm bd kv) 83 (0, 0))
  kinds : KindsAt w kv s.grp.kinds sb
  chans : MapOf iK w Try.prog 3 bc N (chanMap s.chans)
  mus : MapOf locV w Try.prog 76 bm N (muMap s.mus)
  done : MapOf locV w Try.prog 76 bd N (doneMap s.done)
  ncm : bc ≠ bm
  ncd : bc ≠ bd
  nmd : bm ≠ bd

theorem MapOf.ne_cells {κ : Type} {kv : κ → Value} {w : World} {P : Program} {k b n : Nat} {f : κ → Option Value} (h : MapOf kv w P k b n f) {g : Nat} {cs : Array Value} {t : TypeId} {fr : Nat × Nat} (hg : w.heap[g]? = some (.cells cs t fr)) : b ≠ g := by
  rintro rfl
  obtain ⟨_, ⟨es, cl, h1, _⟩, _⟩ := h
  rw [hg] at h1
  cases h1

theorem KindsAt.keep {w w' : World} {v : Value} {xs : List Int} {sb : Nat} (h : KindsAt w v xs sb) {L : List Nat} (hb : But L w w') (hL : ∀ b cs t fr, w.heap[b]? = some (.cells cs t fr) → b ≠ sb → b ∉ L) : KindsAt w' v xs sb := by
  obtain ⟨A, c, h1, h2, h3⟩ := h
  refine ⟨A, c, h1, h2, fun hn => ?_⟩
  obtain ⟨b, o, hA, hne, hc⟩ := h3 hn
  refine ⟨b, o, hA, hne, fun i x hx => ?_⟩
  have h4 := hc i x hx
  have hlt := block_lt_of_cell h4
  have hblk : ∃ cs t fr, w.heap[b]? = some (.cells cs t fr) := by
    unfold World.cell? at h4
    dsimp only at h4
    split at h4
    · rename_i cs t fr hh; exact ⟨cs, t, fr, hh⟩
    · cases h4
  obtain ⟨cs, t, fr, hh⟩ := hblk
  exact (World.cell?_of_block (w := w) (a := ⟨b, o + i, none⟩) (hb.block b hlt (hL b cs t fr hh hne))).trans h4

section
variable {w w' : World} {sb bc bm bd N : Nat} {s : TS} {kv : Value}
theorem TRep.cell (h : TRep w sb bc bm bd N s kv) (j : Nat) : w.cell? ⟨sb, j, none⟩ = (TCells s bc bm bd kv)[j]? := cell_of_row w sb j _ _ _ h.row
theorem TRep.frozen (h : TRep w sb bc bm bd N s kv) (j : Nat) : w.frozen? ⟨sb, j, none⟩ = false := frozen_of_row w sb j _ _ h.row
theorem TRep.lt (h : TRep w sb bc bm bd N s kv) : sb < w.heap.size := by
  rcases Nat.lt_or_ge sb w.heap.size with hlt | hge
  · exact hlt
  · have := h.row; rw [Array.getElem?_eq_none hge] at this; cases this
/-- nothing of the state is touched -/
theorem TRep.but (h : TRep w sb bc bm bd N s kv) {L : List Nat} (hb : But L w w') (h0 : sb ∉ L) (h1 : bc ∉ L) (h2 : bm ∉ L) (h3 : bd ∉ L) (hL : ∀ b cs t fr, w.heap[b]? = some (.cells cs t fr) → b ≠ sb → b ∉ L) : TRep w' sb bc bm bd N s kv :=
  ⟨(hb.block sb h.lt h0).trans h.row, h.kinds.keep hb hL, h.chans.but hb h1, h.mus.but hb h2, h.done.but hb h3, h.ncm, h.ncd, h.nmd⟩
theorem TRep.below (h : TRep w sb bc bm bd N s kv) (hb : Below w.heap.size w w') : TRep w' sb bc bm bd N s kv :=
  h.but (L := []) ⟨hb.os, hb.tape, hb.output, hb.size, fun k hk _ => hb.block k hk⟩ (by simp) (by simp) (by simp) (by simp) (fun _ _ _ _ _ _ => by simp)
theorem TRep.mono (h : TRep w sb bc bm bd N s kv) {N' : Nat} (hn : N ≤ N') : TRep w sb bc bm bd N' s kv :=
  ⟨h.row, h.kinds, h.chans.mono hn, h.mus.mono hn, h.done.mono hn, h.ncm, h.ncd, h.nmd⟩
/-- only the map of the channels is turned -/
theorem TRep.new_chans (h : TRep w sb bc bm bd N s kv) (hb : But [bc] w w') {N' : Nat} {f : Int → Option Ch} {M : Nat} (hm : MapOf iK w' Try.prog 3 bc M (chanMap f)) (hM : M ≤ N') (hN : N ≤ N') : TRep w' sb bc bm bd N' { s with chans := f } kv :=
  ⟨(hb.block sb h.lt (by simpa using Ne.symm (h.chans.ne_cells h.row))).trans h.row, h.kinds.keep hb (fun b cs t fr hc _ hm => by
      simp only [List.mem_singleton] at hm; subst hm; exact absurd rfl (h.chans.ne_cells hc)), hm.mono hM, (h.mus.but hb (by simpa using Ne.symm h.ncm)).mono hN, (h.done.but hb (by simpa using Ne.symm h.ncd)).mono hN, h.ncm, h.ncd, h.nmd⟩
/-- only the map of the mutexes is turned -/
theorem TRep.new_mus (h : TRep w sb bc bm bd N s kv) (hb : But [bm] w w') {N' : Nat} {f : Int × Int → Option Mu} {M : Nat} (hm : MapOf locV w' Try.prog 76 bm M (muMap f)) (hM : M ≤ N') (hN : N ≤ N') : TRep w' sb bc bm bd N' { s with mus := f } kv :=
  ⟨(hb.block sb h.lt (by simpa using Ne.symm (h.mus.ne_cells h.row))).trans h.row, h.kinds.keep hb (fun b cs t fr hc _ hm => by
      simp only [List.mem_singleton] at hm; subst hm; exact absurd rfl (h.mus.ne_cells hc)), (h.chans.but hb (by simpa using h.ncm)).mono hN, hm.mono hM, (h.done.but hb (by simpa using Ne.symm h.nmd)).mono hN, h.ncm, h.ncd, h.nmd⟩
/-- only the map of what is done is turned -/
theorem TRep.new_done (h : TRep w sb bc bm bd N s kv) (hb : But [bd] w w') {N' : Nat} {f : Int × Int → Option Bool} {M : Nat} (hm : MapOf locV w' Try.prog 76 bd M (doneMap f)) (hM : M ≤ N') (hN : N ≤ N') : TRep w' sb bc bm bd N' { s with done := f } kv :=
  ⟨(hb.block sb h.lt (by simpa using Ne.symm (h.done.ne_cells h.row))).trans h.row, h.kinds.keep hb (fun b cs t fr hc _ hm => by
      simp only [List.mem_singleton] at hm; subst hm; exact absurd rfl (h.done.ne_cells hc)), (h.chans.but hb (by simpa using h.ncd)).mono hN, (h.mus.but hb (by simpa using h.nmd)).mono hN, hm.mono hM, h.ncm, h.ncd, h.nmd⟩
/-- the two counters, in the first two cells -/
theorem TRep.new_row (h : TRep w sb bc bm bd N s kv) (hb : But [sb] w w') {ev gor : Int} (hr : w'.heap[sb]? = some (.cells (TCells { s with events := ev, gor := gor } bc bm bd kv) 83 (0, 0))) {N' : Nat} (hN : N ≤ N') : TRep w' sb bc bm bd N' { s with events := ev, gor := gor } kv :=
  ⟨hr, h.kinds.keep hb (fun b cs t fr hc hne hm => hne (by simpa using hm)), (h.chans.but hb (by simpa using h.chans.ne_cells h.row)).mono hN, (h.mus.but hb (by simpa using h.mus.ne_cells h.row)).mono hN, (h.done.but hb (by simpa using h.done.ne_cells h.row)).mono hN, h.ncm, h.ncd, h.nmd⟩
end

theorem sends_any (k : Int) (w : World) : Calls Try.prog 53 #[.int .i64 k] w fun e w' => e = .returned (.bool (sendsB k)) ∧ w = w' := by
  go_enter Try.func53, Try.ntmps53
  go_wp2
  all_goals (go_ret; refine ⟨ret_bool ?_, rfl⟩; unfold sendsB; rw [Bool.eq_iff_iff]; simp; try omega)

theorem open_any {sb bc bm bd N : Nat} {s : TS} {kv : Value} (w : World) (h : TRep w sb bc bm bd N s kv) : Calls Try.prog 37 #[.pointer (some ⟨sb, 0, none⟩)] w fun e w' => e = .returned (.bool s.isOpen) ∧ w = w' := by
  obtain ⟨A, c, hkv, hlc, _⟩ := h.kinds
  have c5 : w.cell? ⟨sb, 5, none⟩ = some (.slice A s.grp.kinds.length c) := by rw [h.cell 5, ← hkv]; rfl
  clear h hkv hlc
  go_enter Try.func37, Try.ntmps37
  go_wp2
  go_ret
  refine ⟨ret_bool ?_, rfl⟩
  unfold TS.isOpen
  simp

set_option maxRecDepth 100000 in
set_option maxHeartbeats 1000000 in
theorem count_any (sb bc n : Nat) (f : Int → Option Ch) (e : Ev) (w : World) (hc : w.cell? ⟨sb, 2, none⟩ = some (.map (some bc)))
    (hm : MapOf iK w Try.prog 3 bc n (chanMap f)) (hn : n < maxLen) (hobj : I64 e.obj) (hb : ∀ c, (f e.obj).getD ch0 = c → (0 ≤ c.sent ∧ c.sent ≤ 5000) ∧ (0 ≤ c.recv ∧ c.recv ≤ 5000)) :
    Calls Try.prog 54 #[.pointer (some ⟨sb, 0, none⟩), e.val] w fun r w' => r = .returned (.tuple #[]) ∧ MapOf iK w' Try.prog 3 bc (n + 1) (chanMap (upd f e.obj (((f e.obj).getD ch0).count e.kind))) ∧ But [bc] w w' := by
  have hb0 := hb _ rfl
  clear hb
  obtain ⟨c, hcc⟩ : ∃ c, (f e.obj).getD ch0 = c := ⟨_, rfl⟩
  rw [hcc] at hb0 ⊢
  obtain ⟨⟨hs, hs2⟩, hr, hr2⟩ := hb0
  have hval : (chanMap f e.obj).getD ch0.val = c.val := by
    rw [← hcc]; unfold chanMap; cases f e.obj <;> rfl
  obtain ⟨g, kind, obj, off, k, en, fn, pc, stack⟩ := e
  dsimp only at hcc hobj hval ⊢
  -- what is counted, under names of its own
  obtain ⟨c', hc'⟩ : ∃ c', c.count kind = c' := ⟨_, rfl⟩
  rw [hc']
  obtain ⟨cap, sent, recv, closed⟩ := c
  obtain ⟨cap', sent', recv', closed'⟩ := c'
  dsimp only at hs hs2 hr hr2
  unfold Ev.val
  have hl : ∀ o : Obj, (Instr.lookup 77 (.map (some bc)) (.int .i64 obj) false).run Try.prog ((w.alloc o).drew) = .ok (.agg #[.int .i64 cap, .int .i64 sent, .int .i64 recv, .bool closed]) ((w.alloc o).drew) := fun o => by
    have h1 : MapOf iK (w.alloc o).drew Try.prog 3 bc n (chanMap f) := hm.alloc o
    have h2 := h1.look keyI Try.underlying77 zeroCh obj (wf_i64 hobj)
    rw [hval] at h2; exact h2
  have hl2 : ∀ o o2 : Obj, (Instr.lookup 77 (.map (some bc)) (.int .i64 obj) false).run Try.prog (((w.alloc o).alloc o2).drew) = .ok (.agg #[.int .i64 cap, .int .i64 sent, .int .i64 recv, .bool closed]) (((w.alloc o).alloc o2).drew) := fun o o2 => by
    have h1 : MapOf iK ((w.alloc o).alloc o2).drew Try.prog 3 bc n (chanMap f) := (hm.alloc o).alloc o2
    have h2 := h1.look keyI Try.underlying77 zeroCh obj (wf_i64 hobj)
    rw [hval] at h2; exact h2
  have hlt := block_lt_of_cell hc
  dsimp only at hlt
  have HM := Lib.hid hm; clear hm
  have HCC := Lib.hid hcc; clear hcc
  have HV := Lib.hid hval; clear hval
  have HC := Lib.hid hc'; clear hc'
  go_enter Try.func54, Try.ntmps54
  go_wp2
  go_region
  go_upto_block 0 with fail
  go_cut [] (fun wx => MapOf iK wx Try.prog 3 bc n (chanMap f) ∧ But [bc] w wx ∧ wx.cell? ⟨sb, 2, none⟩ = some (.map (some bc)) ∧ wx.cell? ⟨w.heap.size, 2, none⟩ = some (.int .i64 obj) ∧
    wx.cell? ⟨w.heap.size + 1, 0, none⟩ = some (.int .i64 cap') ∧ wx.cell? ⟨w.heap.size + 1, 1, none⟩ = some (.int .i64 sent') ∧ wx.cell? ⟨w.heap.size + 1, 2, none⟩ = some (.int .i64 recv') ∧ wx.cell? ⟨w.heap.size + 1, 3, none⟩ = some (.bool closed'))
  case first =>
    go_wp2
    all_goals go_meet
    all_goals (case' rel => refine ⟨(HM.out.alloc _).alloc _, (((But.refl _ _).alloc _).alloc _).drew, ?_⟩)
    all_goals (have hc' := HC.out; unfold Ch.count at hc')
    all_goals go_light
    all_goals clear hl hl2
    all_goals simp_all [go_sem]
  case rest =>
    obtain ⟨hm1, hbut, hc2, hobj2, h0, h1, h2, h3⟩ := hcut
    obtain ⟨w1, hput, hm2, hg⟩ := (show MapOf iK wc.drew Try.prog 3 bc n (chanMap f) from hm1).put keyI Try.underlying77 hn obj (wf_i64 hobj) (.agg #[.int .i64 cap', .int .i64 sent', .int .i64 recv', .bool closed'])
    unfold iK at hput
    have hfin : MapOf iK w1 Try.prog 3 bc (n + 1) (chanMap (upd f obj ⟨cap', sent', recv', closed'⟩)) ∧ But [bc] w w1 := by
      refine ⟨?_, ?_⟩
      · rw [← chanMap_upd]; exact hm2
      · exact (hbut.drewN 0).drew.grown hg (.inl (by simp))
    have HF := Lib.hid hfin; clear hfin hm1 hm2 hg hbut
    go_wp2
    go_region
    go_end0
    exact ⟨rfl, HF.out⟩
end Go.Proofs.Ytohliamalaifhaa
end
section
set_option linter.unusedSimpArgs false
set_option linter.unusedVariables false
namespace Go.Proofs.Ytohliamalaifhaa
open Go.RowKit

set_option maxRecDepth 100000 in
set_option maxHeartbeats 4000000 in
theorem operate_any {sb bc bm bd N : Nat} {s : TS} {kv : Value} (w : World) (h : TRep w sb bc bm bd N s kv) (hs : s.wf) (hN : N + 2 < maxLen) (e : Ev) (hv : e.valid = true) (hk : chanB e.kind = true) :
    Calls Try.prog 49 #[.pointer (some ⟨sb, 0, none⟩), e.val] w fun r w' => r = .returned (.bool (s.operate e).isSome) ∧ (∃ kv', TRep w' sb bc bm bd (N + 2) ((s.operate e).getD s) kv') ∧ But [sb, bc] w w' := by
  have hbd := TS.chan_bd hs hv hk
  have hvo := Ev.valid_obj hv
  have hiobj : I64 e.obj := ⟨by omega, by omega⟩
  have hval : ((chanMap s.chans e.obj).getD ch0.val) = ((s.chans e.obj).getD ch0).val := by unfold chanMap; cases s.chans e.obj <;> rfl
  have hsome : (chanMap s.chans e.obj).isSome = (s.chans e.obj).isSome := by unfold chanMap; cases s.chans e.obj <;> rfl
  obtain ⟨cr, hcr⟩ : ∃ c, (s.chans e.obj).getD ch0 = c := ⟨_, rfl⟩
  obtain ⟨kn, hkn⟩ : ∃ b, (s.chans e.obj).isSome = b := ⟨_, rfl⟩
  rw [hcr] at hval
  rw [hkn] at hsome
  obtain ⟨c, hc⟩ : ∃ c, s.chan e = c := ⟨_, rfl⟩
  have hck : c = if kn = true then cr else { cr with cap := e.n } := by
    rw [← hc, ← hkn, ← hcr]; unfold TS.chan; cases s.chans e.obj <;> rfl
  rw [hc] at hbd
  obtain ⟨⟨hs1, hs2⟩, ⟨hr1, hr2⟩, hc1, hc2⟩ := hbd
  have hev := hs.ev
  have hs3 : c.sent ≤ 5000 := by omega
  have hr3 : c.recv ≤ 5000 := by omega
  have c1 : w.cell? ⟨sb, 1, none⟩ = some (.int .i64 s.gor) := h.cell 1
  have c2 : w.cell? ⟨sb, 2, none⟩ = some (.map (some bc)) := h.cell 2
  have hlt := h.lt
  have hm := h.chans
  have HH := Lib.hid h; clear h
  have HS := Lib.hid hs; clear hs
  have HCc := Lib.hid hc; clear hc
  have HCR := Lib.hid hcr; clear hcr
  have HKN := Lib.hid hkn; clear hkn
  obtain ⟨g, kind, obj, off, k, en, fn, pc, stack⟩ := e
  obtain ⟨rcap, rsent, rrecv, rclosed⟩ := cr
  obtain ⟨cap, sent, recv, closed⟩ := c
  dsimp only at *
  have hl : ∀ o : Obj, (Instr.lookup 77 (.map (some bc)) (.int .i64 obj) true).run Try.prog ((w.alloc o).drew) = .ok (.tuple #[.agg #[.int .i64 rcap, .int .i64 rsent, .int .i64 rrecv, .bool rclosed], .bool kn]) ((w.alloc o).drew) := fun o => by
    have h1 : MapOf iK (w.alloc o).drew Try.prog 3 bc N (chanMap s.chans) := hm.alloc o
    have h2 := h1.look_ok keyI Try.underlying77 zeroCh obj (wf_i64 hiobj)
    rw [hval, hsome] at h2; exact h2
  have hl2 : ∀ o o2 : Obj, (Instr.lookup 77 (.map (some bc)) (.int .i64 obj) true).run Try.prog (((w.alloc o).alloc o2).drew) = .ok (.tuple #[.agg #[.int .i64 rcap, .int .i64 rsent, .int .i64 rrecv, .bool rclosed], .bool kn]) (((w.alloc o).alloc o2).drew) := fun o o2 => by
    have h1 : MapOf iK ((w.alloc o).alloc o2).drew Try.prog 3 bc N (chanMap s.chans) := (hm.alloc o).alloc o2
    have h2 := h1.look_ok keyI Try.underlying77 zeroCh obj (wf_i64 hiobj)
    rw [hval, hsome] at h2; exact h2
  have HM := Lib.hid hm; clear hm
  have HV := Lib.hid hval; clear hval
  have HSo := Lib.hid hsome; clear hsome
  have HCK := Lib.hid hck; clear hck
  unfold Ev.val
  go_enter Try.func49, Try.ntmps49
  go_wp2
  go_region
  go_upto_if 20 with fail
  go_cut [] (fun wx => Below w.heap.size w wx ∧ w.heap.size + 1 < wx.heap.size ∧
    wx.cell? ⟨w.heap.size, 0, none⟩ = some (.int .i64 g) ∧ wx.cell? ⟨w.heap.size, 1, none⟩ = some (.int .i64 kind) ∧ wx.cell? ⟨w.heap.size, 2, none⟩ = some (.int .i64 obj) ∧ wx.cell? ⟨w.heap.size, 3, none⟩ = some (.int .i64 off) ∧
    wx.cell? ⟨w.heap.size, 4, none⟩ = some (.int .i64 k) ∧ wx.cell? ⟨w.heap.size, 5, none⟩ = some (.int .i64 en) ∧ wx.cell? ⟨w.heap.size, 6, none⟩ = some (.int .i64 fn) ∧ wx.cell? ⟨w.heap.size, 7, none⟩ = some (.int .i64 pc) ∧ wx.cell? ⟨w.heap.size, 8, none⟩ = some (.int .i64 stack) ∧
    wx.heap[w.heap.size + 1]? = some (.cells #[.int .i64 cap, .int .i64 sent, .int .i64 recv, .bool closed] 90 (0, 0)))
  case first =>
    go_wp2
    all_goals go_meet
    all_goals (case' rel => refine ⟨(((Below.refl _ _).alloc (Nat.le_refl _) _).alloc (by simp) _).drew, by simp, ?_⟩)
    all_goals (have hck := HCK.out; simp_all only [Bool.not_eq_true', Bool.not_eq_false', if_true, if_false, Bool.false_eq_true, Ch.mk.injEq])
    all_goals (obtain ⟨rfl, rfl, rfl, rfl⟩ := hck)
    all_goals (refine ⟨?_, ?_, ?_, ?_, ?_, ?_, ?_, ?_, ?_, heap_alloc2_new w _ _⟩ <;> simp [go_sem])
  case rest =>
    obtain ⟨wa, rfl⟩ : ∃ wa : World, wa = wc := ⟨_, rfl⟩
    obtain ⟨hb0, hz, e0, e1, e2, e3, e4, e5, e6, e7, e8, hrow⟩ := hcut
    have k0 : wa.cell? ⟨w.heap.size + 1, 0, none⟩ = some (.int .i64 cap) := cell_of_row wa _ 0 _ _ _ hrow
    have k1 : wa.cell? ⟨w.heap.size + 1, 1, none⟩ = some (.int .i64 sent) := cell_of_row wa _ 1 _ _ _ hrow
    have k2 : wa.cell? ⟨w.heap.size + 1, 2, none⟩ = some (.int .i64 recv) := cell_of_row wa _ 2 _ _ _ hrow
    have k3 : wa.cell? ⟨w.heap.size + 1, 3, none⟩ = some (.bool closed) := cell_of_row wa _ 3 _ _ _ hrow
    have kf : wa.frozen? ⟨w.heap.size + 1, 3, none⟩ = false := frozen_of_row wa _ 3 _ _ hrow
    have d1 : wa.cell? ⟨sb, 1, none⟩ = some (.int .i64 s.gor) := (hb0.cell (p := ⟨sb, 1, none⟩) hlt).trans c1
    have d2 : wa.cell? ⟨sb, 2, none⟩ = some (.map (some bc)) := (hb0.cell (p := ⟨sb, 2, none⟩) hlt).trans c2
    have hlt2 : sb < wa.heap.size := by omega
    have hlt3 : w.heap.size < wa.heap.size := by omega
    clear hl hl2 c1 c2
    have HB0 := Lib.hid hb0; clear hb0
    have HROW := Lib.hid hrow; clear hrow
    have hno : ∀ w' : World, s.operate ⟨g, kind, obj, off, k, en, fn, pc, stack⟩ = none → Below w.heap.size w w' → Ending.returned (.bool false) = .returned (.bool (s.operate ⟨g, kind, obj, off, k, en, fn, pc, stack⟩).isSome) ∧ (∃ kv', TRep w' sb bc bm bd (N + 2) ((s.operate ⟨g, kind, obj, off, k, en, fn, pc, stack⟩).getD s) kv') ∧ But [sb, bc] w w' := fun w' ho hb => by
      rw [ho]; exact ⟨rfl, ⟨kv, (HH.out.below hb).mono (by omega)⟩, (But.refl _ _).below hb⟩
    have HNO := Lib.hid hno; clear hno
    go_upto_block 0 with fail
    · rename_i hne
      go_ret
      exact HNO.out _ (TS.op_nA HCc.out hne) HB0.out
    · go_cut [] (fun wx => ∃ (l : List Int) (snd rcv : Int) (gb : Nat), s.operate ⟨g, kind, obj, off, k, en, fn, pc, stack⟩ = some (s.start ⟨g, kind, obj, off, k, en, fn, pc, stack⟩ ⟨cap, sent, recv, closed⟩ l snd rcv) ∧ Below w.heap.size w wx ∧ w.heap.size + 1 < wx.heap.size ∧ wa.heap.size < wx.heap.size ∧ w.heap.size < gb ∧ gb ≠ sb ∧
        wx.cell? ⟨w.heap.size, 0, none⟩ = some (.int .i64 g) ∧ wx.cell? ⟨w.heap.size, 1, none⟩ = some (.int .i64 kind) ∧ wx.cell? ⟨w.heap.size, 2, none⟩ = some (.int .i64 obj) ∧ wx.cell? ⟨w.heap.size, 3, none⟩ = some (.int .i64 off) ∧
        wx.cell? ⟨w.heap.size, 4, none⟩ = some (.int .i64 k) ∧ wx.cell? ⟨w.heap.size, 5, none⟩ = some (.int .i64 en) ∧ wx.cell? ⟨w.heap.size, 6, none⟩ = some (.int .i64 fn) ∧ wx.cell? ⟨w.heap.size, 7, none⟩ = some (.int .i64 pc) ∧ wx.cell? ⟨w.heap.size, 8, none⟩ = some (.int .i64 stack) ∧
        wx.cell? ⟨w.heap.size + 1, 0, none⟩ = some (.int .i64 cap) ∧ wx.cell? ⟨w.heap.size + 1, 1, none⟩ = some (.int .i64 sent) ∧ wx.cell? ⟨w.heap.size + 1, 2, none⟩ = some (.int .i64 recv) ∧ wx.cell? ⟨w.heap.size + 1, 3, none⟩ = some (.bool closed) ∧
        wx.cell? ⟨wa.heap.size, 0, none⟩ = some (.slice (some ⟨gb, 0, none⟩) l.length l.length) ∧ wx.cell? ⟨wa.heap.size, 1, none⟩ = some (.int .i64 obj) ∧ wx.cell? ⟨wa.heap.size, 2, none⟩ = some (.int .i64 k) ∧ wx.cell? ⟨wa.heap.size, 3, none⟩ = some (.int .i64 en) ∧
        wx.cell? ⟨wa.heap.size, 4, none⟩ = some (.int .i64 snd) ∧ wx.cell? ⟨wa.heap.size, 5, none⟩ = some (.int .i64 rcv) ∧ (∀ i x, l[i]? = some x → wx.cell? ⟨gb, i, none⟩ = some (.int .i64 x)))
      case first =>
        go_wp2_with fail
        all_goals (have hcc := HCc.out)
        all_goals first
          | (go_meet; first
            | refine ⟨[16], g, -1, wa.heap.size + 1, TS.op_s15a hcc ‹_› ‹_› ‹_› ‹_› ‹_›, ?_⟩
            | refine ⟨[17, 18, 16], g, -1, wa.heap.size + 1, TS.op_s15b hcc ‹_› ‹_› ‹_› ‹_› ‹_› ‹_› ‹_›, ?_⟩
            | refine ⟨[18], -1, g, wa.heap.size + 1, TS.op_s17a hcc ‹_› ‹_› ‹_› ‹_›, ?_⟩
            | refine ⟨[15, 18, 16], -1, g, wa.heap.size + 1, TS.op_s17b hcc ‹_› ‹_› ‹_› ‹_› ‹_› ‹_›, ?_⟩)
          | (go_ret; refine HNO.out _ ?_ (HB0.out.alloc (by omega) _); first | exact TS.op_nB hcc ‹_› ‹_› | exact TS.op_n20 hcc ‹_› ‹_› | exact TS.op_nD hcc ‹_› ‹_› | exact TS.op_nE hcc ‹_› ‹_› | exact TS.op_nF hcc ‹_› ‹_› ‹_› | exact TS.op_nG hcc ‹_› ‹_› ‹_› | exact TS.op_nH hcc ‹_› ‹_› | exact TS.op_nI hcc ‹_› ‹_› ‹_› | exact TS.op_nJ hcc ‹_› ‹_› ‹_› | exact TS.op_nK hcc ‹_› ‹_› ‹_› ‹_›)
          | skip
        · -- close
          have hmw : MapOf iK wa Try.prog 3 bc N (chanMap s.chans) := HM.out.keep (HB0.out.block bc HM.out.lt)
          have hbl := HM.out.lt
          generalize hW : World.alloc (World.setCell _ _ _) _ = W
          have f1 : W.cell? ⟨sb, 2, none⟩ = some (.map (some bc)) := by rw [← hW]; clear hW; simp [go_sem, *]
          have f2 : W.cell? ⟨w.heap.size, 2, none⟩ = some (.int .i64 obj) := by rw [← hW]; clear hW; simp [go_sem, *]
          have f3 : W.cell? ⟨w.heap.size + 1, 0, none⟩ = some (.int .i64 cap) := by rw [← hW]; clear hW; simp [go_sem, *]
          have f4 : W.cell? ⟨w.heap.size + 1, 1, none⟩ = some (.int .i64 sent) := by rw [← hW]; clear hW; simp [go_sem, *]
          have f5 : W.cell? ⟨w.heap.size + 1, 2, none⟩ = some (.int .i64 recv) := by rw [← hW]; clear hW; simp [go_sem, *]
          have f6 : W.cell? ⟨w.heap.size + 1, 3, none⟩ = some (.bool true) := by rw [← hW]; clear hW; simp [go_sem, *]
          have hmW : MapOf iK W Try.prog 3 bc N (chanMap s.chans) := by rw [← hW]; exact (hmw.setCell (by simp; omega) _).alloc _
          have hBW : Below w.heap.size w W := by rw [← hW]; exact (HB0.out.setCell (by simp) _).alloc (by simp; omega) _
          obtain ⟨w1, hput, hm2, hg⟩ := (show MapOf iK W.drew Try.prog 3 bc N (chanMap s.chans) from hmW).put keyI Try.underlying77 (by omega) obj (wf_i64 hiobj) (.agg #[.int .i64 cap, .int .i64 sent, .int .i64 recv, .bool true])
          unfold iK at hput
          have hfin : TRep w1 sb bc bm bd (N + 2) { s with chans := upd s.chans obj ⟨cap, sent, recv, true⟩ } kv ∧ But [sb, bc] w w1 := by
            have hbt : But [bc] w w1 := ((But.refl _ _).below hBW).drew.grown hg (.inl (by simp))
            exact ⟨HH.out.new_chans hbt (by rw [← chanMap_upd]; exact hm2) (by omega) (by omega), hbt.mono (by simp)⟩
          have HF := Lib.hid hfin; clear hfin hm2 hg hBW hmW hmw hW HNO
          have hop := TS.op_s19 hcc ‹_› ‹_› ‹_›
          have HOP := Lib.hid hop; clear hop hcc
          go_region
          go_wp2
          go_ret
          rw [HOP.out]
          exact ⟨rfl, ⟨_, HF.out.1⟩, HF.out.2⟩
        · -- a receive of a closed channel
          have hop := TS.op_s20 hcc ‹_› ‹_› ‹_›
          go_ret
          rw [hop]
          refine ⟨ret_bool ?_, ⟨kv, ?_⟩, (But.refl _ _).below (HB0.out.alloc (by omega) _)⟩
          · by_cases hsr : sent = recv <;> simp [hsr]
          · have hgd : (if sent = recv then some s else none).getD s = s := by split <;> rfl
            rw [hgd]
            exact (HH.out.below (HB0.out.alloc (by omega) _)).mono (by omega)
        all_goals clear hcc HNO
        all_goals refine ⟨(HB0.out.alloc (by omega) _).alloc (by simp; omega) _, by simp; omega, by simp; omega, by omega, by omega, ?_⟩
        all_goals go_light
        all_goals refine ⟨?_, ?_, ?_, ?_, ?_, ?_, ?_, ?_, ?_, ?_, ?_, ?_, ?_, ?_, ?_, ?_, ?_, ?_, ?_, ?_⟩
        all_goals first | (simp [go_sem, *]; done) | (rintro (_ | _ | _ | i) x hx <;> simp at hx <;> subst hx <;> simp [go_sem])
      case rest =>
        obtain ⟨l, snd, rcv, gb, hop, hb1, z1, z2, z3, z4, e0, e1, e2, e3, e4, e5, e6, e7, e8, k0, k1, k2, k3, o0, o1, o2, o3, o4, o5, hl⟩ := hcut
        clear d1 d2 hlt2
        have hbl := HM.out.lt
        have hne : bc ≠ sb := HM.out.ne_cells HH.out.row
        have hmc : MapOf iK wc Try.prog 3 bc N (chanMap s.chans) := HM.out.keep (hb1.block bc hbl)
        obtain ⟨w1, hput, hm2, hg⟩ := (show MapOf iK wc.drew Try.prog 3 bc N (chanMap s.chans) from hmc).put keyI Try.underlying77 (by omega) obj (wf_i64 hiobj) (.agg #[.int .i64 cap, .int .i64 sent, .int .i64 recv, .bool closed])
        unfold iK at hput
        have hb2 : But [bc] wc w1 := (But.refl _ _).drew.grown hg (.inl (by simp))
        have hrow0 : wc.heap[sb]? = some (.cells (TCells s bc bm bd kv) 83 (0, 0)) := (hb1.block sb hlt).trans HH.out.row
        have hrow1 : w1.heap[sb]? = some (.cells (TCells s bc bm bd kv) 83 (0, 0)) := (hb2.block sb (by omega) (by simpa using Ne.symm hne)).trans hrow0
        have d2 : wc.cell? ⟨sb, 2, none⟩ = some (.map (some bc)) := cell_of_row wc sb 2 _ _ _ hrow0
        have s5 : w1.cell? ⟨sb, 5, none⟩ = some kv := cell_of_row w1 sb 5 _ _ _ hrow1
        have s6 : w1.cell? ⟨sb, 6, none⟩ = some (.int .i64 s.grp.obj) := cell_of_row w1 sb 6 _ _ _ hrow1
        have s7 : w1.cell? ⟨sb, 7, none⟩ = some (.int .i64 s.grp.k) := cell_of_row w1 sb 7 _ _ _ hrow1
        have s8 : w1.cell? ⟨sb, 8, none⟩ = some (.int .i64 s.grp.n) := cell_of_row w1 sb 8 _ _ _ hrow1
        have s9 : w1.cell? ⟨sb, 9, none⟩ = some (.int .i64 s.grp.snd) := cell_of_row w1 sb 9 _ _ _ hrow1
        have s10 : w1.cell? ⟨sb, 10, none⟩ = some (.int .i64 s.grp.rcv) := cell_of_row w1 sb 10 _ _ _ hrow1
        have sf : ∀ j, w1.frozen? ⟨sb, j, none⟩ = false := fun j => frozen_of_row w1 sb j _ _ hrow1
        have keepc : ∀ b j v, b < wc.heap.size → b ≠ bc → wc.cell? ⟨b, j, none⟩ = some v → w1.cell? ⟨b, j, none⟩ = some v := fun b j v h1 h2 h3 => (hb2.cell (p := ⟨b, j, none⟩) h1 (by simpa using h2)).trans h3
        have f0 := keepc _ _ _ (by omega) (by omega) e0
        have f1 := keepc _ _ _ (by omega) (by omega) e1
        have f2 := keepc _ _ _ (by omega) (by omega) e2
        have f3 := keepc _ _ _ (by omega) (by omega) e3
        have f4 := keepc _ _ _ (by omega) (by omega) e4
        have f5 := keepc _ _ _ (by omega) (by omega) e5
        have f6 := keepc _ _ _ (by omega) (by omega) e6
        have f7 := keepc _ _ _ (by omega) (by omega) e7
        have f8 := keepc _ _ _ (by omega) (by omega) e8
        have p0 := keepc _ _ _ (by omega) (by omega) o0
        have p1 := keepc _ _ _ (by omega) (by omega) o1
        have p2 := keepc _ _ _ (by omega) (by omega) o2
        have p3 := keepc _ _ _ (by omega) (by omega) o3
        have p4 := keepc _ _ _ (by omega) (by omega) o4
        have p5 := keepc _ _ _ (by omega) (by omega) o5
        have HL := Lib.hid hl; clear hl
        have HM2 := Lib.hid hm2; clear hm2 hmc hg
        have HB1 := Lib.hid hb1; clear hb1
        have HB2 := Lib.hid hb2; clear hb2
        have HOP := Lib.hid hop; clear hop
        have HR1 := Lib.hid hrow1; clear hrow1 hrow0 keepc HNO
        go_wp2
        go_region
        go_wp2_with fail
        generalize hW : World.setCell _ _ _ = W2
        have hrow2 : W2.heap[sb]? = some (.cells (TCells (s.start ⟨g, kind, obj, off, k, en, fn, pc, stack⟩ ⟨cap, sent, recv, closed⟩ l snd rcv) bc bm bd (.slice (some ⟨gb, 0, none⟩) l.length l.length)) 83 (0, 0)) := by
          rw [← hW]
          exact heap_setCell_same _ _ _ _ _ _ (heap_setCell_same _ _ _ _ _ _ (heap_setCell_same _ _ _ _ _ _ (heap_setCell_same _ _ _ _ _ _ (heap_setCell_same _ _ _ _ _ _ (heap_setCell_same _ _ _ _ _ _ HR1.out)))))
        have hb3 : But [sb] w1 W2 := by
          rw [← hW]
          exact ((((((But.refl _ _).setCell (.inl (by simp)) _).setCell (.inl (by simp)) _).setCell (.inl (by simp)) _).setCell (.inl (by simp)) _).setCell (.inl (by simp)) _).setCell (.inl (by simp)) _
        clear hW
        have hm4 : MapOf iK W2 Try.prog 3 bc (N + 1) (chanMap (upd s.chans obj ⟨cap, sent, recv, closed⟩)) := by
          rw [← chanMap_upd]; exact HM2.out.but hb3 (by simpa using hne)
        refine (count_any sb bc (N + 1) (upd s.chans obj ⟨cap, sent, recv, closed⟩) ⟨g, kind, obj, off, k, en, fn, pc, stack⟩ W2 (cell_of_row W2 sb 2 _ _ _ hrow2) hm4 (by omega) hiobj (fun c hc => by rw [upd_same] at hc; cases hc; exact ⟨⟨hs1, hs3⟩, hr1, hr3⟩)).mono ?_
        rintro r w3 ⟨rfl, hm5, hb4⟩
        have hfin : TRep w3 sb bc bm bd (N + 2) (s.start ⟨g, kind, obj, off, k, en, fn, pc, stack⟩ ⟨cap, sent, recv, closed⟩ l snd rcv) (.slice (some ⟨gb, 0, none⟩) l.length l.length) ∧ But [sb, bc] w w3 := by
          have hbt : But [sb, bc] w w3 := (((But.refl _ _).below HB1.out).trans (HB2.out.mono (by simp))).trans ((hb3.mono (by simp)).trans (hb4.mono (by simp)))
          have hsz1 := HB2.out.size
          have hsz2 := hb3.size
          refine ⟨⟨(hb4.block sb (by omega) (by simpa using Ne.symm hne)).trans hrow2, ⟨_, _, rfl, Nat.le_refl _, fun hl0 => ⟨gb, 0, rfl, z4, fun i x hx => ?_⟩⟩, ?_, (HH.out.mus.but hbt ?_).mono (by omega), (HH.out.done.but hbt ?_).mono (by omega), HH.out.ncm, HH.out.ncd, HH.out.nmd⟩, hbt⟩
          · have hx0 := HL.out i x hx
            have hlt0 := block_lt_of_cell hx0
            dsimp only at hlt0
            have hgbc : gb ≠ bc := by omega
            rw [Nat.zero_add]
            exact (hb4.cell (p := ⟨gb, i, none⟩) (by dsimp only; omega) (by simpa using hgbc)).trans ((hb3.cell (p := ⟨gb, i, none⟩) (by dsimp only; omega) (by simpa using z4)).trans ((HB2.out.cell (p := ⟨gb, i, none⟩) hlt0 (by simpa using hgbc)).trans hx0))
          · have h1 : upd (upd s.chans obj ⟨cap, sent, recv, closed⟩) obj (((upd s.chans obj ⟨cap, sent, recv, closed⟩ obj).getD ch0).count kind) = upd s.chans obj ((⟨cap, sent, recv, closed⟩ : Ch).count kind) := by
              rw [upd_upd, upd_same]; rfl
            rw [h1] at hm5
            exact hm5
          · simp only [List.mem_cons, List.not_mem_nil, or_false, not_or]; exact ⟨HH.out.mus.ne_cells HH.out.row, Ne.symm HH.out.ncm⟩
          · simp only [List.mem_cons, List.not_mem_nil, or_false, not_or]; exact ⟨HH.out.done.ne_cells HH.out.row, Ne.symm HH.out.ncd⟩
        have HF := Lib.hid hfin; clear hfin hm5 hb4 hm4 hb3 hrow2
        go_wp2
        go_ret
        rw [HOP.out]
        exact ⟨rfl, ⟨_, HF.out.1⟩, HF.out.2⟩
end Go.Proofs.Ytohliamalaifhaa
end
