/- Events and the states of the reference of chapter 30 as plain data. -/
import Derived.Test.YtkdagjlkejefnaaPq
import Derived.Test.YtkdagjlkejefnaaModelC
set_option linter.unusedSimpArgs false
set_option linter.unusedVariables false
namespace Go.Proofs.Ytkdagjlkejefnaa
open Go Go.RowKit

abbrev dI (n : Int) : Dt := .sc (.int .i64 n)
abbrev dB (b : Bool) : Dt := .sc (.bool b)
abbrev aI (n : Int) : Av := .b (.one (.d (.sc (.int .i64 n))))
abbrev aB (b : Bool) : Av := .b (.one (.d (.sc (.bool b))))
abbrev pI (n : Int) : Pa := .one (.sc (.int .i64 n))
abbrev pB (b : Bool) : Pa := .one (.sc (.bool b))
def Ev.row (e : Ev) : List Dt := [dI e.g, dI e.kind, dI e.obj, dI e.off, dI e.k, dI e.n, dI e.fn, dI e.pc, dI e.stack]
def Ev.pa (e : Ev) : Pa := .agg e.row
def evsD (l : List Ev) : Dt := .im (l.map Ev.row)
def evsPa (l : List Ev) : Pa := .one (evsD l)

structure RCh where
  obj : Int
  n : Int
  sent : Int
  recv : Int
  closed : Bool
def RCh.row (c : RCh) : List Dt := [dI c.obj, dI c.n, dI c.sent, dI c.recv, dB c.closed]
structure RLk where
  obj : Int
  off : Int
  locked : Bool
  readers : Int
def RLk.row (c : RLk) : List Dt := [dI c.obj, dI c.off, dB c.locked, dI c.readers]
def locRow (p : Int × Int) : List Dt := [dI p.1, dI p.2]
structure RWt where
  kind : Int
  g : Int
  not : Int
def RWt.row (c : RWt) : List Dt := [dI c.kind, dI c.g, dI c.not]
structure RSt where
  count : Int
  gor : Int
  chans : List RCh
  locks : List RLk
  done : List (Int × Int)
  next : List RWt
  obj : Int
  k : Int
  n : Int
def RSt.row (s : RSt) : List Dt := [dI s.count, dI s.gor, .im (s.chans.map RCh.row), .im (s.locks.map RLk.row), .im (s.done.map locRow), .im (s.next.map RWt.row), dI s.obj, dI s.k, dI s.n]
def RSt.pa (s : RSt) : Pa := .agg s.row
/-- what bounds the numbers of a state -/
structure RSt.ok (s : RSt) : Prop where
  ct : 0 ≤ s.count ∧ s.count ≤ 1000000
  gr : 0 ≤ s.gor ∧ s.gor ≤ 1000000
  ch : s.chans.length ≤ 900000 ∧ ∀ c, c ∈ s.chans → (0 ≤ c.sent ∧ c.sent ≤ 1000000) ∧ (0 ≤ c.recv ∧ c.recv ≤ 1000000)
  lk : s.locks.length ≤ 900000 ∧ ∀ c, c ∈ s.locks → 0 ≤ c.readers ∧ c.readers ≤ 1000000
  dn : s.done.length ≤ 900000
  nx : s.next.length ≤ 900000

def RSt.new : RSt := ⟨0, 1, [], [], [], [], 0, 0, 0⟩
def RSt.channel (s : RSt) (obj n : Int) : RCh := (s.chans.find? (fun c => c.obj == obj)).getD ⟨obj, n, 0, 0, false⟩
def RSt.setChannel (s : RSt) (c : RCh) : RSt := { s with chans := s.chans.filter (fun d => d.obj != c.obj) ++ [c] }
def RSt.lock (s : RSt) (obj off : Int) : RLk := (s.locks.find? (fun c => c.obj == obj && c.off == off)).getD ⟨obj, off, false, 0⟩
def RSt.setLock (s : RSt) (c : RLk) : RSt := { s with locks := s.locks.filter (fun d => d.obj != c.obj || d.off != c.off) ++ [c] }
def RSt.isDone (s : RSt) (obj off : Int) : Bool := s.done.any (fun c => c.1 == obj && c.2 == off)
def RCh.count (c : RCh) (kind : Int) : RCh := if kind = 15 then { c with sent := c.sent + 1 } else if kind = 17 then { c with recv := c.recv + 1 } else c
def RSt.counted (s : RSt) (e : Ev) : RSt := if e.kind = 15 ∨ e.kind = 17 then s.setChannel ((s.channel e.obj e.n).count e.kind) else s
def RSt.begin (s : RSt) (e : Ev) (next : List RWt) : RSt := RSt.counted { s with next := next, obj := e.obj, k := e.k, n := e.n } e

theorem find_hit {α : Type} {l : List α} {p : α → Bool} {k : Nat} {c : α} (hno : ∀ i c, i < k → l[i]? = some c → p c = false) (hc : l[k]? = some c) (he : p c = true) : l.find? p = some c := by
  rw [List.find?_eq_some_iff_getElem]
  refine ⟨he, k, (List.getElem?_eq_some_iff.1 hc).1, (List.getElem?_eq_some_iff.1 hc).2, fun j hj => ?_⟩
  have h1 := List.getElem?_eq_getElem (show j < l.length by have := (List.getElem?_eq_some_iff.1 hc).1; omega)
  rw [hno j _ hj h1]; rfl
theorem find_miss {α : Type} {l : List α} {p : α → Bool} (hno : ∀ i c, i < l.length → l[i]? = some c → p c = false) : l.find? p = none := by
  rw [List.find?_eq_none]
  intro c hc
  obtain ⟨i, hi, rfl⟩ := List.getElem_of_mem hc
  rw [hno i _ hi (List.getElem?_eq_getElem hi)]; decide
theorem no_succ {α : Type} {l : List α} {p : α → Bool} {k : Nat} {c : α} (hno : ∀ i c, i < k → l[i]? = some c → p c = false) (hc : l[k]? = some c) (he : p c = false) : ∀ i c, i < k + 1 → l[i]? = some c → p c = false := by
  intro i c' hi hc'
  rcases Nat.lt_or_eq_of_le (Nat.le_of_lt_succ hi) with h | h
  · exact hno i c' h hc'
  · subst h; rw [hc] at hc'; cases hc'; exact he
theorem any_miss {α : Type} {l : List α} {p : α → Bool} (hno : ∀ i c, i < l.length → l[i]? = some c → p c = false) : l.any p = false := by
  rw [List.any_eq_false]
  intro c hc
  obtain ⟨i, hi, rfl⟩ := List.getElem_of_mem hc
  rw [hno i _ hi (List.getElem?_eq_getElem hi)]; decide
theorem filter_succ {α : Type} {l : List α} {p : α → Bool} {k : Nat} {c : α} (hc : l[k]? = some c) : (l.take (k + 1)).filter p = (l.take k).filter p ++ (if p c = true then [c] else []) := by
  obtain ⟨hk, rfl⟩ := List.getElem?_eq_some_iff.1 hc
  rw [List.take_succ_eq_append_getElem hk, List.filter_append]
  congr 1
  cases h : p l[k] <;> simp [h]
theorem filter_take_le {α : Type} (l : List α) (p : α → Bool) (k : Nat) : ((l.take k).filter p).length ≤ k :=
  Nat.le_trans (List.length_filter_le _ _) (List.length_take_le _ _)

theorem rows_len {α : Type} {f : α → List Dt} {n : Nat} (h : ∀ x, (f x).length = n) (l : List α) : (∀ r, r ∈ l.map f → r.length = n) = True := by
  apply propext
  refine ⟨fun _ => trivial, fun _ r hr => ?_⟩
  obtain ⟨x, _, rfl⟩ := List.mem_map.1 hr
  exact h x
end Go.Proofs.Ytkdagjlkejefnaa
