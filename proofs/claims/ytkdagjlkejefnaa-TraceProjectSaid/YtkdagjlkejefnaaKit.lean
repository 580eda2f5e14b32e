/- Words for memory and for maps, over any program. -/
import Derived.Maps.OwnSet
import Derived.Deep.Draws
import Derived.Below
import Derived.DeepKeys5
import Derived.Test.YtkdagjlkejefnaaModel
namespace Go.Proofs.Ytkdagjlkejefnaa
open Go.RowKit Go.Maps

/-- Everything but the blocks named in L is as it was. -/
structure But (L : List Nat) (w w' : World) : Prop where
  os : w'.os = w.os
  tape : w'.tape = w.tape
  output : w'.output = w.output
  size : w.heap.size ≤ w'.heap.size
  block : ∀ k, k < w.heap.size → k ∉ L → w'.heap[k]? = w.heap[k]?

theorem But.refl (L : List Nat) (w : World) : But L w w := ⟨rfl, rfl, rfl, Nat.le_refl _, fun _ _ _ => rfl⟩
theorem But.trans {L : List Nat} {a b c : World} (h : But L a b) (k : But L b c) : But L a c :=
  ⟨k.os.trans h.os, k.tape.trans h.tape, k.output.trans h.output, Nat.le_trans h.size k.size, fun i hi hn => (k.block i (Nat.lt_of_lt_of_le hi h.size) hn).trans (h.block i hi hn)⟩
theorem But.mono {L L' : List Nat} {a b : World} (h : But L a b) (hs : ∀ x ∈ L, x ∈ L' ∨ a.heap.size ≤ x) : But L' a b :=
  ⟨h.os, h.tape, h.output, h.size, fun i hi hn => h.block i hi (fun hm => by rcases hs i hm with h1 | h1; exact hn h1; omega)⟩
theorem But.drewN {L : List Nat} {a b : World} (h : But L a b) (n : Nat) : But L a (b.drewN n) := ⟨h.os, h.tape, h.output, h.size, h.block⟩
theorem But.drew {L : List Nat} {a b : World} (h : But L a b) : But L a b.drew := ⟨h.os, h.tape, h.output, h.size, h.block⟩
theorem But.alloc {L : List Nat} {a b : World} (h : But L a b) (o : Obj) : But L a (b.alloc o) :=
  h.trans ⟨rfl, rfl, rfl, by simp, fun k hk _ => Below.heap_alloc _ _ _ hk⟩
theorem But.setCell {L : List Nat} {a b : World} (h : But L a b) {p : Addr} (hp : p.block ∈ L ∨ a.heap.size ≤ p.block) (u : Value) : But L a (b.setCell p u) :=
  ⟨h.os, h.tape, h.output, by simpa [World.setCell] using h.size, fun k hk hn => (Below.heap_setCell _ _ _ _ (by rintro rfl; rcases hp with h1 | h1; exact hn h1; omega)).trans (h.block k hk hn)⟩
theorem But.below {L : List Nat} {a b c : World} (h : But L a b) (hb : Below b.heap.size b c) : But L a c :=
  h.trans ⟨hb.os, hb.tape, hb.output, hb.size, fun k hk _ => hb.block k hk⟩
theorem But.grown {L : List Nat} {a b c : World} (h : But L a b) {g : Nat} (hg : b.grownBy c (some g)) (hL : g ∈ L ∨ a.heap.size ≤ g) : But L a c :=
  ⟨hg.os.trans h.os, hg.tape.trans h.tape, hg.output.trans h.output, Nat.le_trans h.size hg.size, fun k hk hn =>
    (hg.block k (Nat.lt_of_lt_of_le hk h.size) (by rintro he; cases he; rcases hL with h1 | h1; exact hn h1; omega)).trans (h.block k hk hn)⟩
theorem But.to_below {w w' : World} (h : But [] w w') : Below w.heap.size w w' := ⟨h.os, h.tape, h.output, h.size, fun k hk => h.block k hk (by simp)⟩

theorem But.cell {L : List Nat} {w w' : World} (h : But L w w') {p : Addr} (hp : p.block < w.heap.size) (hL : p.block ∉ L) : w'.cell? p = w.cell? p := World.cell?_of_block (w := w) (h.block p.block hp hL)
theorem But.frozen {L : List Nat} {w w' : World} (h : But L w w') {p : Addr} (hp : p.block < w.heap.size) (hL : p.block ∉ L) : w'.frozen? p = w.frozen? p := World.frozen?_of_block (w := w) (h.block p.block hp hL)

/-- An element kept as it is. -/
def heldE (v : Value) : Option (DataW Value × List MemPlace) := some (.held v, [])


/-- The keys of type k, as the Lean type κ has them. -/
structure KeyT (P : Program) (k : TypeId) {κ : Type} (kv : κ → Value) (ok : κ → Prop) : Prop where
  keyed : Keyed P k
  reads : ∀ x, ok x → ∃ l, keyOf P k (kv x) = some l
  inj : ∀ x y, kv x = kv y → x = y

/-- Block b is a map of at most n entries; at the key x it holds f x. -/
def MapOf {κ : Type} (kv : κ → Value) (w : World) (P : Program) (k : TypeId) (b n : Nat) (f : κ → Option Value) : Prop :=
  ∃ D, w.ownsMap P k heldE b n D ∧ ∀ x l, keyOf P k (kv x) = some l → D.atKey l .nil = (match f x with | some v => .held v | none => .nil)

section
variable {κ : Type} [DecidableEq κ] {kv : κ → Value} {ok : κ → Prop}
variable {P : Program} {k e t : TypeId} {w w' : World} {b n : Nat} {f : κ → Option Value}

omit [DecidableEq κ] in
theorem MapOf.made (w : World) (P : Program) (k : TypeId) : MapOf kv (w.alloc (.map #[] 0)) P k w.heap.size 0 (fun _ => none) :=
  ⟨_, World.ownsMap_made w P k heldE, fun _ _ _ => rfl⟩
omit [DecidableEq κ] in
theorem MapOf.lt (h : MapOf kv w P k b n f) : b < w.heap.size := let ⟨_, h, _⟩ := h; h.lt
omit [DecidableEq κ] in
theorem MapOf.keep (h : MapOf kv w P k b n f) (hb : w'.heap[b]? = w.heap[b]?) : MapOf kv w' P k b n f :=
  let ⟨D, ⟨es, cl, h1, h2⟩, h3⟩ := h
  ⟨D, ⟨es, cl, hb.trans h1, h2⟩, h3⟩
omit [DecidableEq κ] in
theorem MapOf.but {L : List Nat} (h : MapOf kv w P k b n f) (hb : But L w w') (hL : b ∉ L) : MapOf kv w' P k b n f := h.keep (hb.block b h.lt hL)
omit [DecidableEq κ] in
theorem MapOf.mono (h : MapOf kv w P k b n f) {n' : Nat} (hn : n ≤ n') : MapOf kv w P k b n' f :=
  let ⟨D, h1, h3⟩ := h
  ⟨D, h1.mono hn, h3⟩
omit [DecidableEq κ] in
theorem MapOf.drewN (h : MapOf kv w P k b n f) (m : Nat) : MapOf kv (w.drewN m) P k b n f := h
omit [DecidableEq κ] in
theorem MapOf.alloc (h : MapOf kv w P k b n f) (o : Obj) : MapOf kv (w.alloc o) P k b n f := h.keep (Below.heap_alloc _ _ _ h.lt)
omit [DecidableEq κ] in
theorem MapOf.setCell (h : MapOf kv w P k b n f) {p : Addr} (hp : b ≠ p.block) (u : Value) : MapOf kv (w.setCell p u) P k b n f := h.keep (Below.heap_setCell _ _ _ _ hp)
omit [DecidableEq κ] in
theorem MapOf.congr (h : MapOf kv w P k b n f) {g : κ → Option Value} (hg : ∀ x, f x = g x) : MapOf kv w P k b n g := by
  have : f = g := funext hg
  rwa [this] at h

omit [DecidableEq κ] in
theorem MapOf.look (h : MapOf kv w P k b n f) (K : KeyT P k kv ok) (ht : P.underlying t = some (.map k e)) {z : Value} (hz : ∀ w, (zeroValue e).run P w = .ok z w) (x : κ) (hx : ok x) :
    (Instr.lookup t (.map (some b)) (kv x) false).run P w = .ok ((f x).getD z) w := by
  obtain ⟨D, ⟨es, clock, hb, F, _, rfl⟩, hf⟩ := h
  obtain ⟨kl, hkey⟩ := K.reads x hx
  have h3 := hf x kl hkey
  rcases Maps.fit_look false K.keyed ht (hz w) hb F hkey with ⟨hrun, _, hat⟩ | ⟨e0, y, _, _, hrun, hRv, hat, _⟩
  · rw [hat] at h3
    cases hfk : f x with
    | none => simpa using hrun
    | some v => rw [hfk] at h3; cases h3
  · rw [hat] at h3
    simp only [heldE, Option.some.injEq] at hRv
    subst hRv
    cases hfk : f x with
    | none => rw [hfk] at h3; cases h3
    | some v => rw [hfk] at h3; simp only [DataW.held.injEq] at h3; subst h3; simpa using hrun

omit [DecidableEq κ] in
theorem MapOf.look_ok (h : MapOf kv w P k b n f) (K : KeyT P k kv ok) (ht : P.underlying t = some (.map k e)) {z : Value} (hz : ∀ w, (zeroValue e).run P w = .ok z w) (x : κ) (hx : ok x) :
    (Instr.lookup t (.map (some b)) (kv x) true).run P w = .ok (.tuple #[(f x).getD z, .bool (f x).isSome]) w := by
  obtain ⟨D, ⟨es, clock, hb, F, _, rfl⟩, hf⟩ := h
  obtain ⟨kl, hkey⟩ := K.reads x hx
  have h3 := hf x kl hkey
  rcases Maps.fit_look true K.keyed ht (hz w) hb F hkey with ⟨hrun, _, hat⟩ | ⟨e0, y, _, _, hrun, hRv, hat, _⟩
  · rw [hat] at h3
    cases hfk : f x with
    | none => simpa using hrun
    | some v => rw [hfk] at h3; cases h3
  · rw [hat] at h3
    simp only [heldE, Option.some.injEq] at hRv
    subst hRv
    cases hfk : f x with
    | none => rw [hfk] at h3; cases h3
    | some v => rw [hfk] at h3; simp only [DataW.held.injEq] at h3; subst h3; simpa using hrun

theorem MapOf.put (h : MapOf kv w P k b n f) (K : KeyT P k kv ok) (ht : P.underlying t = some (.map k e)) (hn : n < maxLen) (x : κ) (hx : ok x) (v : Value) :
    ∃ w', (Instr.mapUpdate t (.map (some b)) (kv x) v).run P w = .ok () w' ∧ MapOf kv w' P k b (n + 1) (upd f x v) ∧ w.grownBy w' (some b) := by
  obtain ⟨D, hown, hf⟩ := h
  obtain ⟨kl, hkey⟩ := K.reads x hx
  obtain ⟨w', hrun, h1, h2⟩ := hown.update K.keyed ht hn hkey (val := v) (d := .held v) (ps := []) rfl
  refine ⟨w', hrun, ⟨_, h1, fun y l hy => ?_⟩, h2⟩
  unfold upd
  by_cases hyx : y = x
  · subst hyx
    rw [hkey] at hy
    cases hy
    rw [if_pos rfl, atKey_put_same hown.isMap (K.keyed.key hkey)]
  · rw [if_neg hyx]
    have hne : l ≠ kl := by
      rintro rfl
      exact hyx (K.inj _ _ (K.keyed.inj hy hkey))
    rw [atKey_put_other hne]
    exact hf y l hy

theorem wpList_put (w : World) {ops : Array Oper} {rest : List Oper} {o : Oper} {a : Act} {Q : Exit → Act → World → Prop}
    (hg : o.guard = none) (m x v : Operand) (t : TypeId) (hop : o.op = Op.mapUpdate t m x v) (K : KeyT P k kv ok) (ht : P.underlying t = some (.map k e))
    (hm : a.eval m = .map (some b)) (h : MapOf kv w P k b n f) (hn : n < maxLen) (y : κ) (hx : a.eval x = kv y) (hy : ok y) (val : Value) (hv : a.eval v = val)
    (hK : ∀ w', MapOf kv w' P k b (n + 1) (upd f y val) → w.grownBy w' (some b) → wpList P ops Q rest (a.put o.dst undef) w') :
    wpList P ops Q (o :: rest) a w := by
  refine wpList_plain hg fun K' hK' => ?_
  obtain ⟨w', hrun, r1, r2⟩ := h.put K ht hn y hy val
  unfold Oper.wp
  simp [execOp, hop, hm, hx, hv, hrun, Result.andThen]
  exact hK' _ _ (hK w' r1 r2)

theorem KeyT.int {P : Program} {k : TypeId} (hk : P.underlying k = some (.int .i64)) : KeyT P k (fun x : Int => Value.int .i64 x) (fun x => (Lit.int .i64 x).wf = true) :=
  ⟨int_keyed hk, fun x hx => ⟨_, keyOf_int_mk hk hx⟩, fun x y h => by injection h⟩

/-- A struct of two ints as a key. -/
def locV (x : Int × Int) : Value := .agg #[.int .i64 x.1, .int .i64 x.2]
theorem keyLits_int {P : Program} {t : TypeId} (ht : P.underlying t = some (.int .i64)) (d : Nat) {a : Int} (h : (Lit.int .i64 a).wf = true) : P.keyLits (d + 1) t [.int .i64 a] = some [.int .i64 a] := by
  simp [Program.keyLits, ht, h]
theorem keyOf_loc {P : Program} {k t : TypeId} {f0 f1 : Field} (hk : P.underlying k = some (.struct #[f0, f1])) (ht : P.underlying t = some (.int .i64)) (h0 : f0.type = t) (h1 : f1.type = t) (o0 : f0.offset = 0) (o1 : f1.offset = 1)
    (hn : ((#[f0, f1] : Array Field).all (·.name != "_")) = true) (hc : P.cellsOf k = 2) (hct : P.cellsOf t = 1) (hkt : P.keyType k = true) (hz : 0 < P.types.size) {a b : Int} (ha : (Lit.int .i64 a).wf = true) (hb : (Lit.int .i64 b).wf = true) :
    keyOf P k (locV (a, b)) = some (.string (keyBytes [.int .i64 a, .int .i64 b])) := by
  obtain ⟨d, hd⟩ : ∃ d, P.types.size = d + 1 := ⟨P.types.size - 1, by omega⟩
  have e1 : P.keyLits (d + 1 + 1) k [.int .i64 a, .int .i64 b] = some [.int .i64 a, .int .i64 b] := by
    unfold Program.keyLits
    rw [hk]
    dsimp only
    rw [if_pos ⟨by simp [hc], hn⟩]
    simp [h0, h1, o0, o1, hct, keyLits_int ht d ha, keyLits_int ht d hb]
  unfold keyOf locV
  rw [hk]
  dsimp only
  rw [if_pos (by simp [hkt, Value.formed, hk, hc]), hd]
  simp only [Value.cells]
  rw [e1]
  rfl
theorem KeyT.loc {P : Program} {k t : TypeId} {f0 f1 : Field} (K : Keyed P k) (hk : P.underlying k = some (.struct #[f0, f1])) (ht : P.underlying t = some (.int .i64)) (h0 : f0.type = t) (h1 : f1.type = t) (o0 : f0.offset = 0) (o1 : f1.offset = 1)
    (hn : ((#[f0, f1] : Array Field).all (·.name != "_")) = true) (hc : P.cellsOf k = 2) (hct : P.cellsOf t = 1) (hkt : P.keyType k = true) (hz : 0 < P.types.size) :
    KeyT P k locV (fun x => (Lit.int .i64 x.1).wf = true ∧ (Lit.int .i64 x.2).wf = true) :=
  ⟨K, fun x hx => ⟨_, keyOf_loc hk ht h0 h1 o0 o1 hn hc hct hkt hz hx.1 hx.2⟩, fun x y h => by
    obtain ⟨a, b⟩ := x
    obtain ⟨c, d⟩ := y
    simp [locV] at h
    simp [h]⟩
theorem wf_i64 {x : Int} (h : I64 x) : (Lit.int .i64 x).wf = true := by
  simp [Lit.wf, IntKind.min, IntKind.max, IntKind.signed, IntKind.bits]; exact ⟨h.1, by have := h.2; omega⟩
end
end Go.Proofs.Ytkdagjlkejefnaa
