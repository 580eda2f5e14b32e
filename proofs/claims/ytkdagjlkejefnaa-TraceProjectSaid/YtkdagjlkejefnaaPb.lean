/- How plain values lie in a world. -/
import Derived.Test.YtkdagjlkejefnaaPa
set_option linter.unusedSimpArgs false
set_option linter.unusedVariables false
namespace Go.Proofs.Ytkdagjlkejefnaa
open Go Go.RowKit

/-- the datum x is the value v; S b: so many cells of block b are settled -/
inductive RD (S : Nat → Nat) (w : World) : Dt → Value → Prop
  | sc (v : Value) (h : v.oneCell' = true) : RD S w (.sc v) v
  | emp (A : Option Addr) (c : Nat) (h : c ≤ maxLen) : RD S w (.im []) (.slice A 0 c)
  | im (rows : List (List Dt)) (sz b o cap : Nat) (f : Nat → Nat → Value) (hc : rows.length ≤ cap) (hm : cap ≤ maxLen) (hsz : ∀ r, r ∈ rows → r.length = sz)
      (hcell : ∀ i j, i < rows.length → j < sz → w.cell? ⟨b, o + (i * sz + j), none⟩ = some (f i j) ∧ o + (i * sz + j) < S b)
      (hd : ∀ i r j x, rows[i]? = some r → r[j]? = some x → RD S w x (f i j)) : RD S w (.im rows) (.slice (some ⟨b, o, none⟩) rows.length cap)

/-- what was settled stays -/
def Ext (S S' : Nat → Nat) (w w' : World) : Prop := ∀ b i, i < S b → (w.cell? ⟨b, i, none⟩).isSome = true → i < S' b ∧ w'.cell? ⟨b, i, none⟩ = w.cell? ⟨b, i, none⟩
theorem Ext.refl (S : Nat → Nat) (w : World) : Ext S S w w := fun _ _ h _ => ⟨h, rfl⟩
theorem Ext.trans {S S' S'' : Nat → Nat} {w w' w'' : World} (h : Ext S S' w w') (k : Ext S' S'' w' w'') : Ext S S'' w w'' := fun b i hi hc => by
  obtain ⟨h1, h2⟩ := h b i hi hc
  obtain ⟨k1, k2⟩ := k b i h1 (by rw [h2]; exact hc)
  exact ⟨k1, k2.trans h2⟩

theorem RD.ext {S S' : Nat → Nat} {w w' : World} (h : Ext S S' w w') {x : Dt} {v : Value} (hx : RD S w x v) : RD S' w' x v := by
  induction hx with
  | sc v h => exact .sc v h
  | emp A c h => exact .emp A c h
  | im rows sz b o cap f hc hm hsz hcell hd ih =>
    refine .im rows sz b o cap f hc hm hsz (fun i j hi hj => ?_) ih
    obtain ⟨h1, h2⟩ := hcell i j hi hj
    obtain ⟨h3, h4⟩ := h b _ h2 (by rw [h1]; rfl)
    exact ⟨h4.trans h1, h3⟩
theorem RD.one {S : Nat → Nat} {w : World} {x : Dt} {v : Value} (hx : RD S w x v) : v.oneCell' = true := by
  cases hx with
  | sc v h => exact h
  | emp => rfl
  | im => rfl

structure Wit where
  blk : Nat → Nat
  val : Nat → Value
  adr : Nat → Value
  fp : Nat → Nat → Prop
  S : Nat → Nat

def RC (W : Wit) (G : Nat → Nat) (O : Nat → Ob) (w : World) : Cl → Value → Prop
  | .un, v => v.oneCell' = true
  | .d x, v => RD W.S w x v
  | .own o g rows, v => RD W.S w (.im rows) v ∧ g ≤ G o ∧ (g = G o → ∀ E sz n, O o = .row E sz n → (∀ r, r ∈ rows → r.length = sz) ∧ rows.length ≤ n ∧ (n = rows.length → v = W.val o))
  | .ptr o g off, v => v.oneCell' = true ∧ g ≤ G o ∧ (g = G o → v = .pointer (some ⟨W.blk o, off, none⟩))
  | .el row off, v => ∃ b o, v = .pointer (some ⟨b, o + off, none⟩) ∧ ∀ j x, row[j]? = some x → ∃ u, w.cell? ⟨b, o + j, none⟩ = some u ∧ o + j < W.S b ∧ RD W.S w x u
  | .ab o g, v => v.oneCell' = true ∧ g ≤ G o ∧ (g = G o → v = W.adr o)

theorem RC.one {W : Wit} {G : Nat → Nat} {O : Nat → Ob} {w : World} {c : Cl} {v : Value} (h : RC W G O w c v) : v.oneCell' = true := by
  cases c with
  | un => exact h
  | d x => exact RD.one h
  | own o g rows => exact RD.one h.1
  | ptr o g off => exact h.1
  | el row off => obtain ⟨b, o, rfl, _⟩ := h; rfl
  | ab o g => exact h.1

def RCs (W : Wit) (G : Nat → Nat) (O : Nat → Ob) (w : World) (cs : List Cl) (vs : List Value) : Prop :=
  cs.length = vs.length ∧ ∀ (i : Nat) c u, cs[i]? = some c → vs[i]? = some u → RC W G O w c u
def RB (W : Wit) (G : Nat → Nat) (O : Nat → Ob) (w : World) : Bv → Value → Prop
  | .one c, v => RC W G O w c v
  | .agg cs, v => ∃ arr : Array Value, v = .agg arr ∧ RCs W G O w cs arr.toList
def RA (W : Wit) (G : Nat → Nat) (O : Nat → Ob) (w : World) : Av → Value → Prop
  | .un, _ => True
  | .b x, v => RB W G O w x v
  | .tup xs, v => ∃ vs : Array Value, v = .tuple vs ∧ xs.length = vs.size ∧ ∀ (i : Nat) x u, xs[i]? = some x → vs[i]? = some u → RB W G O w x u

def RO (B : Nat) (W : Wit) (G : Nat → Nat) (O : Nat → Ob) (w : World) (o : Nat) : Ob → Prop
  | .no => True
  | .cells cs => ∃ arr T, w.heap[W.blk o]? = some (.cells arr T (0, 0)) ∧ B ≤ W.blk o ∧ W.S (W.blk o) = 0 ∧ RCs W G O w cs arr.toList
  | .row E sz n => ∃ xs, w.ownsRow B E sz (W.val o) n xs ∧ ∀ g, (W.val o).ownBlock = some g → W.S g ≤ n * sz
  | .ab H => H.r w (W.adr o) (W.fp o) ∧ ∀ b, W.fp o b → B ≤ b ∧ W.S b = 0
def cl (W : Wit) (o : Nat) : Ob → Nat → Prop
  | .no, _ => False
  | .cells _, b => W.blk o = b
  | .row _ _ _, b => (W.val o).ownBlock = some b
  | .ab _, b => W.fp o b

/-- how what is known follows from one moment to a later one -/
structure Fol (W : Wit) (G : Nat → Nat) (O : Nat → Ob) (w : World) (W' : Wit) (G' : Nat → Nat) (O' : Nat → Ob) (w' : World) : Prop where
  ext : Ext W.S W'.S w w'
  gen : ∀ o, G o ≤ G' o
  blk : ∀ o, G' o = G o → W'.blk o = W.blk o
  own : ∀ o E sz n', G' o = G o → O' o = .row E sz n' → ∃ n, O o = .row E sz n ∧ n ≤ n' ∧ (n = n' → W'.val o = W.val o)
  adr : ∀ o, G' o = G o → W'.adr o = W.adr o

section
variable {W W' : Wit} {G G' : Nat → Nat} {O O' : Nat → Ob} {w w' : World}
theorem RC.fol (h : Fol W G O w W' G' O' w') {c : Cl} {v : Value} (hc : RC W G O w c v) : RC W' G' O' w' c v := by
  cases c with
  | un => exact hc
  | d x => exact RD.ext h.ext hc
  | own o g rows =>
    obtain ⟨h1, h2, h3⟩ := hc
    refine ⟨RD.ext h.ext h1, Nat.le_trans h2 (h.gen o), fun hg E sz n' hO => ?_⟩
    have hgg : G' o = G o := by have := h.gen o; omega
    obtain ⟨n, hn, hle, hval⟩ := h.own o E sz n' hgg hO
    obtain ⟨h6, h4, h5⟩ := h3 (by omega) E sz n hn
    refine ⟨h6, by omega, fun he => ?_⟩
    have : n = n' := by omega
    rw [hval this]
    exact h5 (by omega)
  | ptr o g off =>
    obtain ⟨h1, h2, h3⟩ := hc
    refine ⟨h1, Nat.le_trans h2 (h.gen o), fun hg => ?_⟩
    have hgg : G' o = G o := by have := h.gen o; omega
    rw [h.blk o hgg]
    exact h3 (by omega)
  | el row off =>
    obtain ⟨b, o, h1, h2⟩ := hc
    refine ⟨b, o, h1, fun j x hj => ?_⟩
    obtain ⟨u, h3, h4, h5⟩ := h2 j x hj
    obtain ⟨h6, h7⟩ := h.ext b _ h4 (by rw [h3]; rfl)
    exact ⟨u, h7.trans h3, h6, RD.ext h.ext h5⟩
  | ab o g =>
    obtain ⟨h1, h2, h3⟩ := hc
    refine ⟨h1, Nat.le_trans h2 (h.gen o), fun hg => ?_⟩
    have hgg : G' o = G o := by have := h.gen o; omega
    rw [h.adr o hgg]
    exact h3 (by omega)
theorem RCs.fol (h : Fol W G O w W' G' O' w') {cs : List Cl} {vs : List Value} (hc : RCs W G O w cs vs) : RCs W' G' O' w' cs vs :=
  ⟨hc.1, fun i c u h1 h2 => RC.fol h (hc.2 i c u h1 h2)⟩
theorem RB.fol (h : Fol W G O w W' G' O' w') {x : Bv} {v : Value} (hc : RB W G O w x v) : RB W' G' O' w' x v := by
  cases x with
  | one c => exact RC.fol h hc
  | agg cs => obtain ⟨arr, h1, h2⟩ := hc; exact ⟨arr, h1, RCs.fol h h2⟩
theorem RA.fol (h : Fol W G O w W' G' O' w') {x : Av} {v : Value} (hc : RA W G O w x v) : RA W' G' O' w' x v := by
  cases x with
  | un => trivial
  | b x => exact RB.fol h hc
  | tup xs => obtain ⟨vs, h1, h2, h3⟩ := hc; exact ⟨vs, h1, h2, fun i x u h4 h5 => RB.fol h (h3 i x u h4 h5)⟩
/-- an object whose blocks are not touched -/
theorem RO.fol (h : Fol W G O w W' G' O' w') {B o : Nat} {x : Ob} (hc : RO B W G O w o x) (hg : G' o = G o) (hv : W'.val o = W.val o) (hf : W'.fp o = W.fp o)
    (hb : ∀ b, cl W o x b → w'.heap[b]? = w.heap[b]? ∧ W'.S b = W.S b) : RO B W' G' O' w' o x := by
  cases x with
  | no => trivial
  | cells cs =>
    obtain ⟨arr, T, h1, h2, h3, h4⟩ := hc
    obtain ⟨k1, k2⟩ := hb (W.blk o) rfl
    have := h.blk o hg
    exact ⟨arr, T, by rw [this, k1]; exact h1, by rw [this]; exact h2, by rw [this, k2]; exact h3, RCs.fol h h4⟩
  | row E sz n =>
    obtain ⟨xs, h1, h2⟩ := hc
    refine ⟨xs, ?_, fun g hg2 => ?_⟩
    · rw [hv]
      refine ⟨h1.1, h1.2.imp id fun ⟨g, cap, cur, e1, e2, e3, e4⟩ => ⟨g, cap, cur, e1, e2, ?_, e4⟩⟩
      rw [(hb g (by show (W.val o).ownBlock = some g; rw [e1]; rfl)).1]
      exact e3
    · rw [hv] at hg2
      rw [(hb g hg2).2]
      exact h2 g hg2
  | ab H =>
    obtain ⟨h1, h2⟩ := hc
    have hadr := h.adr o hg
    refine ⟨?_, fun b hb2 => ?_⟩
    · rw [hadr, hf]
      exact H.keep _ _ _ _ h1 (fun b hb2 => (hb b hb2).1)
    · rw [hf] at hb2
      rw [(hb b hb2).2]
      exact h2 b hb2
end

structure Sim (w0 : World) (S0 : Nat → Nat) (n : Nat) (W : Wit) (s : St) (a : Act) (w : World) : Prop where
  below : Below w0.heap.size w0 w
  s0 : ∀ b, b < w0.heap.size → W.S b = S0 b
  len : a.tmps.size = n
  dfs : a.defers = []
  sl : ∀ x, RA W s.gen s.ob w (s.sl x) (a.tmps.getD x undef)
  ob : ∀ o, RO w0.heap.size W s.gen s.ob w o (s.ob o)
  ex : ∀ o o' b, cl W o (s.ob o) b → cl W o' (s.ob o') b → o = o'

theorem Sim.ev {w0 : World} {S0 : Nat → Nat} {n : Nat} {W : Wit} {s : St} {a : Act} {w : World} (h : Sim w0 S0 n W s a w) (t : Nat) : RA W s.gen s.ob w (s.sl t) (a.eval (.tmp t)) := by
  have := h.sl t
  simpa [Act.eval] using this

theorem getD_put {a : Act} {d : Nat} {v : Value} (hd : d < a.tmps.size) (x : Nat) : (a.put (some d) v).tmps.getD x undef = if x = d then v else a.tmps.getD x undef := by
  simp only [Act.put, Array.getD_eq_getD_getElem?]
  by_cases hx : x = d
  · subst hx; simp [hd]
  · rw [Array.getElem?_setIfInBounds_ne (Ne.symm hx), if_neg hx]

/-- a step: the world, the objects, and one slot -/
theorem Sim.step {w0 : World} {S0 : Nat → Nat} {n : Nat} {W : Wit} {s : St} {a : Act} {w : World} (h : Sim w0 S0 n W s a w) {W' : Wit} {w' : World} {dst : Option Nat} {v : Av} {ch : Cg} {rv : Value}
    (hd : ∀ d, dst = some d → d < n)
    (hf : Fol W s.gen s.ob w W' (s.ap dst v ch).gen (s.ap dst v ch).ob w') (hb : Below w0.heap.size w w') (hS : ∀ b, b < w0.heap.size → W'.S b = W.S b)
    (hv : RA W' (s.ap dst v ch).gen (s.ap dst v ch).ob w' v rv)
    (ho : ∀ o, RO w0.heap.size W' (s.ap dst v ch).gen (s.ap dst v ch).ob w' o ((s.ap dst v ch).ob o))
    (hx : ∀ o o' b, cl W' o ((s.ap dst v ch).ob o) b → cl W' o' ((s.ap dst v ch).ob o') b → o = o') : Sim w0 S0 n W' (s.ap dst v ch) (a.put dst rv) w' := by
  refine ⟨h.below.trans hb, fun b hb2 => (hS b hb2).trans (h.s0 b hb2), ?_, ?_, fun x => ?_, ho, hx⟩
  · cases dst <;> simp [Act.put, h.len]
  · cases dst <;> simp [Act.put, h.dfs]
  · cases dst with
    | none => exact RA.fol hf (h.sl x)
    | some d =>
      rw [getD_put (by rw [h.len]; exact hd d rfl)]
      show RA _ _ _ _ (up s.sl d v x) _
      rw [up_at]
      split
      · exact hv
      · exact RA.fol hf (h.sl x)

theorem Fol.same {W : Wit} {G : Nat → Nat} {O : Nat → Ob} {w w' : World} (hw : w'.heap = w.heap) : Fol W G O w W G O w' :=
  ⟨fun b i h1 _ => ⟨h1, by simp [World.cell?, hw]⟩, fun _ => Nat.le_refl _, fun _ _ => rfl, fun o E sz n _ ho => ⟨n, ho, Nat.le_refl _, fun _ => rfl⟩, fun _ _ => rfl⟩

/-- an operation that turns nothing -/
theorem Sim.put {w0 : World} {S0 : Nat → Nat} {n : Nat} {W : Wit} {s : St} {a : Act} {w : World} (h : Sim w0 S0 n W s a w) {dst : Option Nat} (hd : ∀ d, dst = some d → d < n) {v : Av} {rv : Value}
    (hv : RA W s.gen s.ob w v rv) : Sim w0 S0 n W (s.ap dst v .no) (a.put dst rv) w :=
  h.step hd (Fol.same rfl) (Below.refl _ _) (fun _ _ => rfl) hv h.ob h.ex
theorem Sim.drew {w0 : World} {S0 : Nat → Nat} {n : Nat} {W : Wit} {s : St} {a : Act} {w : World} (h : Sim w0 S0 n W s a w) (k : Nat) : Sim w0 S0 n W s a { w with drawn := k } :=
  ⟨⟨h.below.os, h.below.tape, h.below.output, h.below.size, h.below.block⟩, h.s0, h.len, h.dfs, fun x => RA.fol (Fol.same (w := w) (w' := { w with drawn := k }) rfl) (h.sl x), fun o => RO.fol (Fol.same (w := w) (w' := { w with drawn := k }) rfl) (h.ob o) rfl rfl rfl (fun _ _ => ⟨rfl, rfl⟩), h.ex⟩
end Go.Proofs.Ytkdagjlkejefnaa
