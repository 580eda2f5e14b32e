/- A region that draws its order, whose operations read old memory and whose callees make memory of their own at most: one walk, in the order of the text. -/
import Derived.Test.YtkdagjlkejefnaaKit
import Derived.Deep.QuietTactic
import Derived.BigQuiet
namespace Go.Proofs.Ytkdagjlkejefnaa
open Go.RowKit

/-- A world that is W but for new blocks. -/
structure QW (W : World) where
  w : World
  h : Below W.heap.size W w

theorem QW.cell {W : World} (x : QW W) {p : Addr} {v : Value} (hp : p.block < W.heap.size) (h : W.cell? p = some v) : x.w.cell? p = some v := (x.h.cell hp).trans h
def QW.refl (W : World) : QW W := ⟨W, Below.refl _ _⟩
instance QW.nonempty (W : World) : Nonempty (QW W) := ⟨QW.refl W⟩

theorem wp_region_quietQ {P : Program} {id : Nat} {Q : Exit → Act → World → Prop} {a : Act} {W : World} {l : List Oper} (hm : P.follows .mixedOrders = true) (hB : Region.lexB .any l.toArray = true)
    (h : wpQuiet P l.toArray (fun w' => ∃ x : QW W, w' = x.w) (fun a' => ∀ x : QW W, Q .normal a' x.w) l a) : (Code.region id l.toArray true).wp P Q a W := by
  refine wp_region_quiet (C := fun w' => ∃ x : QW W, w' = x.w) hm hB ⟨⟨_, (Below.refl _ _).drew⟩, rfl⟩ ?_
  have mono : ∀ (l' : List Oper) (a : Act), wpQuiet P l.toArray (fun w' => ∃ x : QW W, w' = x.w) (fun a' => ∀ x : QW W, Q .normal a' x.w) l' a →
      wpQuiet P l.toArray (fun w' => ∃ x : QW W, w' = x.w) (fun a' => ∀ w', (∃ x : QW W, w' = x.w) → Q .normal a' w') l' a := by
    intro l'
    induction l' with
    | nil => intro a h w' hw; obtain ⟨x, rfl⟩ := hw; exact h x
    | cons o r ih =>
      intro a h
      unfold wpQuiet at h ⊢
      split
      · rename_i hw
        rw [if_pos hw] at h
        exact Oper.quiet_mono ih h
      · rename_i hw
        rw [if_neg hw] at h
        exact ih _ h
  exact mono _ _ (by simpa using h)

/-- A call whose contract says 'nothing old has turned'. -/
theorem QW.call {P : Program} {f : FuncId} {args : Array Value} {v : Value} {W : World} (x : QW W) (c : ∀ w, Calls P f args w fun e w' => e = .returned v ∧ Below w.heap.size w w') :
    Calls P f args x.w fun e w'' => e = .returned v ∧ ∃ y : QW W, w'' = y.w :=
  (c x.w).mono fun _ w' ⟨h1, h2⟩ => ⟨h1, ⟨w', x.h.trans (h2.mono x.h.size)⟩, rfl⟩
/-- .. or that it has not turned at all. -/
theorem QW.call_same {P : Program} {f : FuncId} {args : Array Value} {v : Value} {W : World} (x : QW W) (c : ∀ w, Calls P f args w fun e w' => e = .returned v ∧ w = w') :
    Calls P f args x.w fun e w'' => e = .returned v ∧ ∃ y : QW W, w'' = y.w :=
  (c x.w).mono fun _ w' ⟨h1, h2⟩ => ⟨h1, x, h2.symm⟩
/-- A contract that leans on facts of the world. -/
theorem QW.call_of {P : Program} {f : FuncId} {args : Array Value} {v : Value} {W : World} (x : QW W) (c : Calls P f args x.w fun e w' => e = .returned v ∧ Below x.w.heap.size x.w w') :
    Calls P f args x.w fun e w'' => e = .returned v ∧ ∃ y : QW W, w'' = y.w :=
  c.mono fun _ w' ⟨h1, h2⟩ => ⟨h1, ⟨w', x.h.trans (h2.mono x.h.size)⟩, rfl⟩
end Go.Proofs.Ytkdagjlkejefnaa
