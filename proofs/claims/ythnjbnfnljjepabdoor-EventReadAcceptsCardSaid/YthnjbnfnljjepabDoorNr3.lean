/- The plain model of events and of the state of a trace: no program in sight. -/
import Derived.Test.YthnjbnfnljjepabDoorNr2
import Derived.Below
import Derived.OpenShut
import Derived.ProofKit
import Derived.Deep.Slices
import Derived.Deep.Fields
import Derived.ChangeSame
import Derived.Lib.SmallJoins
import Derived.Lib.AppendIntMem
import Derived.Lib.SplitLaws
import Derived.Test.YthnjbnfnljjepabDoorProg
import Derived.Lib.ItoaLen
import Derived.Lib.JoinLaws
section
set_option linter.unusedSimpArgs false
set_option linter.unusedVariables false
namespace Go.Proofs.YthnjbnfnljjepabDoor
open Go.RowKit

structure Ev where
  g : Int
  kind : Int
  obj : Int
  off : Int
  k : Int
  n : Int
  fn : Int
  pc : Int
  stack : Int
deriving DecidableEq, Inhabited

def I64 (x : Int) : Prop := -9223372036854775808 ≤ x ∧ x ≤ 9223372036854775807
/-- every field is an int64 -/
def Ev.wf (e : Ev) : Prop := I64 e.g ∧ I64 e.kind ∧ I64 e.obj ∧ I64 e.off ∧ I64 e.k ∧ I64 e.n ∧ I64 e.fn ∧ I64 e.pc ∧ I64 e.stack

def Ev.cells (e : Ev) : List Value := [.int .i64 e.g, .int .i64 e.kind, .int .i64 e.obj, .int .i64 e.off, .int .i64 e.k, .int .i64 e.n, .int .i64 e.fn, .int .i64 e.pc, .int .i64 e.stack]
def Ev.val (e : Ev) : Value := .agg #[.int .i64 e.g, .int .i64 e.kind, .int .i64 e.obj, .int .i64 e.off, .int .i64 e.k, .int .i64 e.n, .int .i64 e.fn, .int .i64 e.pc, .int .i64 e.stack]

def numberedB (k : Int) : Bool := decide (15 ≤ k ∧ k ≤ 18)
def isKindB (k : Int) : Bool := decide (1 ≤ k ∧ k ≤ 20)
def chanB (k : Int) : Bool := decide (15 ≤ k ∧ k ≤ 20)
def memB (k : Int) : Bool := decide (k = 1 ∨ k = 2)
def rangeB (x : Int) : Bool := decide (0 ≤ x ∧ x ≤ 2147483647)
def Ev.rest (e : Ev) : Bool :=
  if e.kind = 14 then decide (e.obj = 0 ∧ e.off = 0 ∧ e.n = 0 ∧ 1 ≤ e.k ∧ e.k < 8)
  else if 15 ≤ e.kind ∧ e.kind ≤ 18 then decide (e.off = 0 ∧ e.n ≤ 64)
  else if 19 ≤ e.kind then decide (e.off = 0 ∧ e.n ≤ 64 ∧ e.k = 0)
  else decide (e.k = 0 ∧ e.n = 0)
/-- what both texts call a valid event -/
def Ev.valid (e : Ev) : Bool := isKindB e.kind && decide (0 ≤ e.g ∧ e.g < 8) &&
  (rangeB e.obj && rangeB e.off && rangeB e.k && rangeB e.n && rangeB e.fn && rangeB e.pc && rangeB e.stack) && e.rest

/-! The state of a trace, as the program keeps it. -/
structure Ch where
  cap : Int
  sent : Int
  recv : Int
  closed : Bool
deriving DecidableEq, Inhabited
def ch0 : Ch := ⟨0, 0, 0, false⟩
structure Mu where
  locked : Bool
  readers : Int
deriving DecidableEq, Inhabited
def mu0 : Mu := ⟨false, 0⟩
structure Grp where
  kinds : List Int
  obj : Int
  k : Int
  n : Int
  snd : Int
  rcv : Int
def grp0 : Grp := ⟨[], 0, 0, 0, 0, 0⟩
structure TS where
  events : Int
  gor : Int
  chans : Int → Option Ch
  mus : Int × Int → Option Mu
  done : Int × Int → Option Bool
  grp : Grp
def TS.new : TS := ⟨0, 1, fun _ => none, fun _ => none, fun _ => none, grp0⟩

/-- f, but v at x -/
def upd {κ : Type} [DecidableEq κ] {α : Type} (f : κ → Option α) (x : κ) (v : α) : κ → Option α := fun y => if y = x then some v else f y
theorem upd_same {κ : Type} [DecidableEq κ] {α : Type} (f : κ → Option α) (x : κ) (v : α) : upd f x v x = some v := if_pos rfl
theorem upd_other {κ : Type} [DecidableEq κ] {α : Type} (f : κ → Option α) {x y : κ} (v : α) (h : y ≠ x) : upd f x v y = f y := if_neg h
theorem upd_upd {κ : Type} [DecidableEq κ] {α : Type} (f : κ → Option α) (x : κ) (v u : α) : upd (upd f x v) x u = upd f x u := by
  funext y; unfold upd; split <;> rfl

def Ch.count (c : Ch) (kind : Int) : Ch := if kind = 15 then { c with sent := c.sent + 1 } else if kind = 17 then { c with recv := c.recv + 1 } else c
def TS.count (s : TS) (e : Ev) : TS := { s with chans := upd s.chans e.obj (((s.chans e.obj).getD ch0).count e.kind) }

def sendsB (k : Int) : Bool := decide (k = 15 ∨ k = 16)
def Grp.own (o : Grp) (kind : Int) : Int := if sendsB kind = true then o.snd else o.rcv
def Grp.other (o : Grp) (kind : Int) : Int := if sendsB kind = true then o.rcv else o.snd
def Grp.next (o : Grp) (e : Ev) : Grp :=
  if sendsB e.kind = true then { o with kinds := o.kinds.tail, snd := e.g } else { o with kinds := o.kinds.tail, rcv := e.g }
def Grp.fits (o : Grp) (e : Ev) : Bool :=
  decide (e.kind = o.kinds.headD 0 ∧ e.obj = o.obj ∧ e.k = o.k ∧ e.n = o.n) && !(decide (o.own e.kind < 0 ∧ e.g = o.other e.kind) || decide (0 ≤ o.own e.kind ∧ e.g ≠ o.own e.kind))
def TS.proceed (s : TS) (e : Ev) : Option TS :=
  if s.grp.fits e = true then some { s.count e with grp := s.grp.next e } else none

def TS.chan (s : TS) (e : Ev) : Ch := match s.chans e.obj with
  | some c => c
  | none => { ch0 with cap := e.n }
def TS.start (s : TS) (e : Ev) (c : Ch) (kinds : List Int) (snd rcv : Int) : TS :=
  { s with chans := upd s.chans e.obj (c.count e.kind), grp := ⟨kinds, e.obj, e.k, e.n, snd, rcv⟩ }
/-- the events that are missing behind the first one of a group -/
def Ch.missing (c : Ch) (kind : Int) (alone : Bool) : Option (List Int) :=
  if kind = 15 then (if c.sent - c.recv < c.cap then some [16] else if c.cap = 0 ∧ alone = false then some [17, 18, 16] else none)
  else (if c.recv < c.sent then some [18] else if c.closed = false ∧ alone = false then some [15, 18, 16] else none)
def TS.operate (s : TS) (e : Ev) : Option TS :=
  let c := s.chan e
  if c.cap ≠ e.n then none
  else if e.kind = 19 then (if c.closed = true then none else some { s with chans := upd s.chans e.obj { c with closed := true } })
  else if e.kind = 20 then (if c.closed = true ∧ c.sent = c.recv then some s else none)
  else if e.kind = 15 then (if c.closed = true ∨ e.k ≠ c.sent then none else (c.missing 15 (decide (s.gor = 1))).map fun l => s.start e c l e.g (-1))
  else if e.kind = 17 then (if e.k ≠ c.recv then none else (c.missing 17 (decide (s.gor = 1))).map fun l => s.start e c l (-1) e.g)
  else none

def TS.mu (s : TS) (e : Ev) : Mu := (s.mus (e.obj, e.off)).getD mu0
def TS.simple (s : TS) (e : Ev) : Option TS :=
  let m := s.mu e
  let put (m : Mu) : Option TS := some { s with mus := upd s.mus (e.obj, e.off) m }
  if e.kind = 6 then (if m.locked = true ∨ 0 < m.readers then none else put { m with locked := true })
  else if e.kind = 7 then (if m.locked = false then none else put { m with locked := false })
  else if e.kind = 8 then (if m.locked = true then none else put { m with readers := m.readers + 1 })
  else if e.kind = 9 then (if m.readers = 0 then none else put { m with readers := m.readers - 1 })
  else if e.kind = 12 then (if (s.done (e.obj, e.off)).getD false = true then none else some { s with done := upd s.done (e.obj, e.off) true })
  else if e.kind = 13 then (if (s.done (e.obj, e.off)).getD false = true then some s else none)
  else if e.kind = 14 then (if e.k ≠ s.gor then none else some { s with gor := s.gor + 1 })
  else some s

def TS.isOpen (s : TS) : Bool := decide (0 < s.grp.kinds.length)
def TS.part (s : TS) (e : Ev) : Option TS :=
  if s.isOpen = true then s.proceed e else if chanB e.kind = true then s.operate e else s.simple e
def TS.admits (s : TS) (e : Ev) : Bool := e.valid && decide (s.events < 5000) && decide (e.g < s.gor)
def TS.add (s : TS) (e : Ev) : Option TS :=
  if s.admits e = true then (s.part e).map fun t => { t with events := t.events + 1 } else none

/-- what bounds the numbers of a state -/
structure TS.wf (s : TS) : Prop where
  ev : 0 ≤ s.events ∧ s.events ≤ 5000
  gr : 1 ≤ s.gor ∧ s.gor ≤ 8
  ch : ∀ x c, s.chans x = some c → (0 ≤ c.sent ∧ c.sent ≤ s.events) ∧ (0 ≤ c.recv ∧ c.recv ≤ s.events) ∧ (0 ≤ c.cap ∧ c.cap ≤ 64)
  mu : ∀ x m, s.mus x = some m → 0 ≤ m.readers ∧ m.readers ≤ s.events
  kd : s.grp.kinds.length ≤ 3

theorem TS.wf_new : TS.new.wf := ⟨by decide, by decide, (fun _ _ h => by cases h), (fun _ _ h => by cases h), by decide⟩

theorem Ev.valid_n {e : Ev} (h : e.valid = true) : 0 ≤ e.n ∧ e.n ≤ 2147483647 := by
  simp only [Ev.valid, rangeB, Bool.and_eq_true, decide_eq_true_eq] at h; omega
theorem Ev.valid_k {e : Ev} (h : e.valid = true) : 0 ≤ e.k ∧ e.k ≤ 2147483647 := by
  simp only [Ev.valid, rangeB, Bool.and_eq_true, decide_eq_true_eq] at h; omega
theorem Ev.valid_obj {e : Ev} (h : e.valid = true) : 0 ≤ e.obj ∧ e.obj ≤ 2147483647 := by
  simp only [Ev.valid, rangeB, Bool.and_eq_true, decide_eq_true_eq] at h; omega
theorem Ev.valid_off {e : Ev} (h : e.valid = true) : 0 ≤ e.off ∧ e.off ≤ 2147483647 := by
  simp only [Ev.valid, rangeB, Bool.and_eq_true, decide_eq_true_eq] at h; omega
theorem Ev.valid_g {e : Ev} (h : e.valid = true) : 0 ≤ e.g ∧ e.g < 8 := by
  simp only [Ev.valid, rangeB, Bool.and_eq_true, decide_eq_true_eq] at h; omega
theorem Ev.valid_kind {e : Ev} (h : e.valid = true) : 1 ≤ e.kind ∧ e.kind ≤ 20 := by
  simp only [Ev.valid, isKindB, Bool.and_eq_true, decide_eq_true_eq] at h; omega
theorem Ev.valid_cap {e : Ev} (h : e.valid = true) (hk : chanB e.kind = true) : e.n ≤ 64 := by
  simp only [Ev.valid, Ev.rest, Bool.and_eq_true] at h
  simp only [chanB, decide_eq_true_eq] at hk
  have h2 := h.2
  rw [if_neg (by omega)] at h2
  split at h2
  · simp at h2; omega
  · rw [if_pos (by omega)] at h2; simp at h2; omega
theorem Ev.valid_go {e : Ev} (h : e.valid = true) (hk : e.kind = 14) : 1 ≤ e.k ∧ e.k < 8 := by
  simp only [Ev.valid, Ev.rest, Bool.and_eq_true] at h
  have h2 := h.2
  rw [if_pos hk] at h2
  simp at h2; omega

theorem Ch.count_bd {c : Ch} {B kind : Int} (h : (0 ≤ c.sent ∧ c.sent ≤ B) ∧ (0 ≤ c.recv ∧ c.recv ≤ B) ∧ (0 ≤ c.cap ∧ c.cap ≤ 64)) :
    (0 ≤ (c.count kind).sent ∧ (c.count kind).sent ≤ B + 1) ∧ (0 ≤ (c.count kind).recv ∧ (c.count kind).recv ≤ B + 1) ∧ (0 ≤ (c.count kind).cap ∧ (c.count kind).cap ≤ 64) := by
  unfold Ch.count
  split
  · dsimp only; omega
  · split
    · dsimp only; omega
    · omega

theorem TS.chan_bd {s : TS} (h : s.wf) {e : Ev} (hv : e.valid = true) (hk : chanB e.kind = true) :
    (0 ≤ (s.chan e).sent ∧ (s.chan e).sent ≤ s.events) ∧ (0 ≤ (s.chan e).recv ∧ (s.chan e).recv ≤ s.events) ∧ (0 ≤ (s.chan e).cap ∧ (s.chan e).cap ≤ 64) := by
  unfold TS.chan
  have h1 := h.ev
  have h2 := Ev.valid_cap hv hk
  have h3 := Ev.valid_n hv
  cases hc : s.chans e.obj with
  | none => dsimp [ch0]; omega
  | some c => exact h.ch _ _ hc
theorem TS.mu_bd {s : TS} (h : s.wf) (e : Ev) : 0 ≤ (s.mu e).readers ∧ (s.mu e).readers ≤ s.events := by
  unfold TS.mu
  have h1 := h.ev
  cases hc : s.mus (e.obj, e.off) with
  | none => dsimp [mu0]; omega
  | some m => exact h.mu _ _ hc

theorem upd_all {κ : Type} [DecidableEq κ] {α : Type} {f : κ → Option α} {x : κ} {v : α} {p : α → Prop} (hf : ∀ y c, f y = some c → p c) (hv : p v) : ∀ y c, upd f x v y = some c → p c := by
  intro y c h
  unfold upd at h
  split at h
  · cases h; exact hv
  · exact hf y c h

/-- a state that an event leads to is bounded, one event more being counted -/
theorem TS.part_wf {s t : TS} (h : s.wf) {e : Ev} (hv : e.valid = true) (hp : s.part e = some t) :
    t.events = s.events ∧ (1 ≤ t.gor ∧ t.gor ≤ 8) ∧ (∀ x c, t.chans x = some c → (0 ≤ c.sent ∧ c.sent ≤ s.events + 1) ∧ (0 ≤ c.recv ∧ c.recv ≤ s.events + 1) ∧ (0 ≤ c.cap ∧ c.cap ≤ 64)) ∧
      (∀ x m, t.mus x = some m → 0 ≤ m.readers ∧ m.readers ≤ s.events + 1) ∧ t.grp.kinds.length ≤ 3 := by
  have hch : ∀ x c, s.chans x = some c → (0 ≤ c.sent ∧ c.sent ≤ s.events + 1) ∧ (0 ≤ c.recv ∧ c.recv ≤ s.events + 1) ∧ (0 ≤ c.cap ∧ c.cap ≤ 64) := fun x c hc => by
    have := h.ch x c hc; omega
  have hmu : ∀ x m, s.mus x = some m → 0 ≤ m.readers ∧ m.readers ≤ s.events + 1 := fun x m hm => by
    have := h.mu x m hm; omega
  have hgr := h.gr
  have hkd := h.kd
  have hev := h.ev
  unfold TS.part at hp
  split at hp
  · -- proceed
    unfold TS.proceed at hp
    split at hp
    · cases hp
      refine ⟨rfl, hgr, ?_, hmu, ?_⟩
      · refine upd_all hch (Ch.count_bd ?_)
        cases hc : s.chans e.obj with
        | none => dsimp [ch0]; omega
        | some c => exact h.ch _ _ hc
      · unfold Grp.next
        split <;> (simp; omega)
    · cases hp
  · split at hp
    · -- operate
      rename_i hk
      have hb := TS.chan_bd h hv hk
      unfold TS.operate at hp
      dsimp only at hp
      split at hp
      · cases hp
      split at hp
      · split at hp
        · cases hp
        · cases hp
          exact ⟨rfl, hgr, upd_all hch (by dsimp only; omega), hmu, hkd⟩
      split at hp
      · split at hp
        · cases hp; exact ⟨rfl, hgr, hch, hmu, hkd⟩
        · cases hp
      split at hp
      · split at hp
        · cases hp
        · simp only [Option.map_eq_some_iff] at hp
          obtain ⟨l, hl, rfl⟩ := hp
          refine ⟨rfl, hgr, upd_all hch (Ch.count_bd hb), hmu, ?_⟩
          unfold Ch.missing at hl
          simp only [if_pos] at hl
          split at hl
          · cases hl; simp [TS.start]
          · split at hl
            · cases hl; simp [TS.start]
            · cases hl
      split at hp
      · split at hp
        · cases hp
        · simp only [Option.map_eq_some_iff] at hp
          obtain ⟨l, hl, rfl⟩ := hp
          refine ⟨rfl, hgr, upd_all hch (Ch.count_bd hb), hmu, ?_⟩
          unfold Ch.missing at hl
          rw [if_neg (by decide)] at hl
          split at hl
          · cases hl; simp [TS.start]
          · split at hl
            · cases hl; simp [TS.start]
            · cases hl
      · cases hp
    · -- simple
      have hm := TS.mu_bd h e
      unfold TS.simple at hp
      dsimp only at hp
      split at hp
      · split at hp
        · cases hp
        · cases hp; exact ⟨rfl, hgr, hch, upd_all hmu (by dsimp only; omega), hkd⟩
      split at hp
      · split at hp
        · cases hp
        · cases hp; exact ⟨rfl, hgr, hch, upd_all hmu (by dsimp only; omega), hkd⟩
      split at hp
      · split at hp
        · cases hp
        · cases hp; exact ⟨rfl, hgr, hch, upd_all hmu (by dsimp only; omega), hkd⟩
      split at hp
      · split at hp
        · cases hp
        · cases hp; exact ⟨rfl, hgr, hch, upd_all hmu (by dsimp only; omega), hkd⟩
      split at hp
      · split at hp
        · cases hp
        · cases hp; exact ⟨rfl, hgr, hch, hmu, hkd⟩
      split at hp
      · split at hp
        · cases hp; exact ⟨rfl, hgr, hch, hmu, hkd⟩
        · cases hp
      split at hp
      · rename_i hgo
        have := Ev.valid_go hv hgo
        split at hp
        · cases hp
        · cases hp; exact ⟨rfl, by dsimp only; omega, hch, hmu, hkd⟩
      · cases hp; exact ⟨rfl, hgr, hch, hmu, hkd⟩

theorem TS.add_wf {s t : TS} (h : s.wf) {e : Ev} (ha : s.add e = some t) : t.wf := by
  unfold TS.add at ha
  split at ha
  · rename_i had
    simp only [TS.admits, Bool.and_eq_true, decide_eq_true_eq] at had
    simp only [Option.map_eq_some_iff] at ha
    obtain ⟨u, hu, rfl⟩ := ha
    obtain ⟨h1, h2, h3, h4, h5⟩ := TS.part_wf h had.1.1 hu
    have hev := h.ev
    exact ⟨by dsimp only; omega, h2, fun x c hc => by have := h3 x c hc; dsimp only; omega, fun x m hm => by have := h4 x m hm; dsimp only; omega, h5⟩
  · cases ha

/-! what operate comes to, way by way, the tests in the walk's own form -/
section
variable {s : TS} {g kind obj off k en fn pc stack cap sent recv : Int} {closed : Bool}
  (hc : s.chan ⟨g, kind, obj, off, k, en, fn, pc, stack⟩ = ⟨cap, sent, recv, closed⟩)
include hc
theorem TS.op_eq : s.operate ⟨g, kind, obj, off, k, en, fn, pc, stack⟩ =
    if cap ≠ en then none
    else if kind = 19 then (if closed = true then none else some { s with chans := upd s.chans obj ⟨cap, sent, recv, true⟩ })
    else if kind = 20 then (if closed = true ∧ sent = recv then some s else none)
    else if kind = 15 then (if closed = true ∨ k ≠ sent then none else ((⟨cap, sent, recv, closed⟩ : Ch).missing 15 (decide (s.gor = 1))).map fun l => s.start ⟨g, kind, obj, off, k, en, fn, pc, stack⟩ ⟨cap, sent, recv, closed⟩ l g (-1))
    else if kind = 17 then (if k ≠ recv then none else ((⟨cap, sent, recv, closed⟩ : Ch).missing 17 (decide (s.gor = 1))).map fun l => s.start ⟨g, kind, obj, off, k, en, fn, pc, stack⟩ ⟨cap, sent, recv, closed⟩ l (-1) g)
    else none := by
  unfold TS.operate; rw [hc]
theorem TS.op_nA (h1 : (cap != en) = true) : s.operate ⟨g, kind, obj, off, k, en, fn, pc, stack⟩ = none := by
  rw [TS.op_eq hc]; simp_all
theorem TS.op_nB (h1 : (kind == 19) = true) (h2 : closed = true) : s.operate ⟨g, kind, obj, off, k, en, fn, pc, stack⟩ = none := by
  rw [TS.op_eq hc]; simp_all
theorem TS.op_n20 (h1 : (kind == 20) = true) (h2 : ¬closed = true) : s.operate ⟨g, kind, obj, off, k, en, fn, pc, stack⟩ = none := by
  rw [TS.op_eq hc]; simp_all
theorem TS.op_nD (h1 : (kind == 15) = true) (h2 : closed = true) : s.operate ⟨g, kind, obj, off, k, en, fn, pc, stack⟩ = none := by
  rw [TS.op_eq hc]; simp_all
theorem TS.op_nE (h1 : (kind == 15) = true) (h2 : (k != sent) = true) : s.operate ⟨g, kind, obj, off, k, en, fn, pc, stack⟩ = none := by
  rw [TS.op_eq hc]; simp_all
theorem TS.op_nF (h1 : (kind == 15) = true) (h2 : cap ≤ sent - recv) (h3 : (!s.gor == 1) = false) : s.operate ⟨g, kind, obj, off, k, en, fn, pc, stack⟩ = none := by
  rw [TS.op_eq hc]; simp_all [Ch.missing]; intros; omega
theorem TS.op_nG (h1 : (kind == 15) = true) (h2 : cap ≤ sent - recv) (h3 : ¬cap = 0) : s.operate ⟨g, kind, obj, off, k, en, fn, pc, stack⟩ = none := by
  rw [TS.op_eq hc]; simp_all [Ch.missing]; intros; omega
theorem TS.op_nH (h1 : (kind == 17) = true) (h2 : (k != recv) = true) : s.operate ⟨g, kind, obj, off, k, en, fn, pc, stack⟩ = none := by
  rw [TS.op_eq hc]; simp_all
theorem TS.op_nI (h1 : (kind == 17) = true) (h2 : sent ≤ recv) (h3 : closed = true) : s.operate ⟨g, kind, obj, off, k, en, fn, pc, stack⟩ = none := by
  have h4 : ¬ recv < sent := by omega
  rw [TS.op_eq hc]; simp_all [Ch.missing]
theorem TS.op_nJ (h1 : (kind == 17) = true) (h2 : sent ≤ recv) (h3 : (!s.gor == 1) = false) : s.operate ⟨g, kind, obj, off, k, en, fn, pc, stack⟩ = none := by
  have h4 : ¬ recv < sent := by omega
  rw [TS.op_eq hc]; simp_all [Ch.missing]
theorem TS.op_nK (h1 : (kind == 19) = false) (h2 : (kind == 20) = false) (h3 : (kind == 15) = false) (h4 : (kind == 17) = false) : s.operate ⟨g, kind, obj, off, k, en, fn, pc, stack⟩ = none := by
  rw [TS.op_eq hc]; simp_all
theorem TS.op_s19 (h0 : (cap != en) = false) (h1 : (kind == 19) = true) (h2 : closed = false) : s.operate ⟨g, kind, obj, off, k, en, fn, pc, stack⟩ = some { s with chans := upd s.chans obj ⟨cap, sent, recv, true⟩ } := by
  rw [TS.op_eq hc]; simp_all
theorem TS.op_s20 (h0 : (cap != en) = false) (h1 : (kind == 20) = true) (h2 : closed = true) : s.operate ⟨g, kind, obj, off, k, en, fn, pc, stack⟩ = if sent = recv then some s else none := by
  rw [TS.op_eq hc]; simp_all
theorem TS.op_s15a (h0 : (cap != en) = false) (h1 : (kind == 15) = true) (h2 : ¬closed = true) (h3 : (k != sent) = false) (h4 : sent - recv < cap) : s.operate ⟨g, kind, obj, off, k, en, fn, pc, stack⟩ = some (s.start ⟨g, kind, obj, off, k, en, fn, pc, stack⟩ ⟨cap, sent, recv, closed⟩ [16] g (-1)) := by
  rw [TS.op_eq hc]; simp_all [Ch.missing]
theorem TS.op_s15b (h0 : (cap != en) = false) (h1 : (kind == 15) = true) (h2 : ¬closed = true) (h3 : (k != sent) = false) (h4 : cap ≤ sent - recv) (h5 : cap = 0) (h6 : (!s.gor == 1) = true) : s.operate ⟨g, kind, obj, off, k, en, fn, pc, stack⟩ = some (s.start ⟨g, kind, obj, off, k, en, fn, pc, stack⟩ ⟨cap, sent, recv, closed⟩ [17, 18, 16] g (-1)) := by
  have hm : (⟨cap, sent, recv, closed⟩ : Ch).missing 15 (decide (s.gor = 1)) = some [17, 18, 16] := by
    unfold Ch.missing
    rw [if_pos rfl]
    dsimp only
    rw [if_neg (by omega), if_pos ⟨h5, by simpa using h6⟩]
  rw [TS.op_eq hc, hm]; simp_all
theorem TS.op_s17a (h0 : (cap != en) = false) (h1 : (kind == 17) = true) (h3 : (k != recv) = false) (h4 : recv < sent) : s.operate ⟨g, kind, obj, off, k, en, fn, pc, stack⟩ = some (s.start ⟨g, kind, obj, off, k, en, fn, pc, stack⟩ ⟨cap, sent, recv, closed⟩ [18] (-1) g) := by
  rw [TS.op_eq hc]; simp_all [Ch.missing]
theorem TS.op_s17b (h0 : (cap != en) = false) (h1 : (kind == 17) = true) (h2 : ¬closed = true) (h3 : (k != recv) = false) (h4 : sent ≤ recv) (h6 : (!s.gor == 1) = true) : s.operate ⟨g, kind, obj, off, k, en, fn, pc, stack⟩ = some (s.start ⟨g, kind, obj, off, k, en, fn, pc, stack⟩ ⟨cap, sent, recv, closed⟩ [15, 18, 16] (-1) g) := by
  have hm : (⟨cap, sent, recv, closed⟩ : Ch).missing 17 (decide (s.gor = 1)) = some [15, 18, 16] := by
    unfold Ch.missing
    rw [if_neg (by decide)]
    dsimp only
    rw [if_neg (by omega), if_pos ⟨by simpa using h2, by simpa using h6⟩]
  rw [TS.op_eq hc, hm]; simp_all
end
end Go.Proofs.YthnjbnfnljjepabDoor
end
section
set_option linter.unusedSimpArgs false
set_option linter.unusedVariables false
namespace Go.Proofs.YthnjbnfnljjepabDoor
open Go Go.RowKit Go.WideShapes Go.ChangeShapes Go.Deep

theorem Tryd.laidOut : laidOutB Tryd.prog = true := by kernel_rfl
theorem Tryd.own : ownKnob Tryd.prog.godebug = none := by kernel_rfl
theorem Tryd.mixed : Tryd.prog.follows .mixedOrders = true := by kernel_rfl

theorem var_stays {P : Program} {w w' : World} {n : String} {cs : Array Value} (h : w.var? P n = some cs) (hb : Below w.heap.size w w') : w'.var? P n = some cs := by
  unfold World.var? at h ⊢
  cases hg : P.globalNamed n with
  | none => simp [hg] at h
  | some g =>
    simp only [hg, Option.bind_some] at h ⊢
    have hlt : g < w.heap.size := by
      rcases Nat.lt_or_ge g w.heap.size with h' | h'
      · exact h'
      · simp [Array.getElem?_eq_none h'] at h
    rw [hb.block g hlt]
    exact h
def kindNames : List ByteArray := [⟨#[]⟩, ⟨#[114, 101, 97, 100]⟩, ⟨#[119, 114, 105, 116, 101]⟩, ⟨#[97, 116, 111, 109, 105, 99, 45, 114, 101, 97, 100]⟩, ⟨#[97, 116, 111, 109, 105, 99, 45, 119, 114, 105, 116, 101]⟩, ⟨#[97, 116, 111, 109, 105, 99, 45, 98, 111, 116, 104]⟩, ⟨#[108, 111, 99, 107]⟩, ⟨#[117, 110, 108, 111, 99, 107]⟩, ⟨#[114, 108, 111, 99, 107]⟩, ⟨#[114, 117, 110, 108, 111, 99, 107]⟩, ⟨#[100, 111, 110, 101]⟩, ⟨#[119, 97, 105, 116]⟩, ⟨#[111, 110, 99, 101, 45, 101, 110, 100]⟩, ⟨#[111, 110, 99, 101, 45, 115, 101, 101, 110]⟩, ⟨#[103, 111]⟩, ⟨#[115, 101, 110, 100, 45, 115, 116, 97, 114, 116]⟩, ⟨#[115, 101, 110, 100, 45, 101, 110, 100]⟩, ⟨#[114, 101, 99, 118, 45, 115, 116, 97, 114, 116]⟩, ⟨#[114, 101, 99, 118, 45, 101, 110, 100]⟩, ⟨#[99, 108, 111, 115, 101]⟩, ⟨#[114, 101, 99, 118, 45, 99, 108, 111, 115, 101, 100]⟩]
/-- the names of the kinds, as the table has them -/
def namesV : List Value := kindNames.map Value.string
/-- what the library's variables hold, and the program's own table -/
structure Door (w : World) : Prop where
  p10 : Lib.TabIs Tryd.prog w "internal/strconv.uint64pow10" .u64 Lib.pow10Tab
  es : ∃ tp p, w.var? Tryd.prog "strconv.ErrSyntax" = some #[.iface tp p]
  er : ∃ tp p, w.var? Tryd.prog "strconv.ErrRange" = some #[.iface tp p]
  nm : ∀ k v, namesV[k]? = some v → w.cell? ⟨0, k, none⟩ = some v
  mx : ∃ m, w.cell? ⟨2, 0, none⟩ = some (.int .i64 m)
theorem cell_stays {w w' : World} {a : Addr} {v : Value} (h : w.cell? a = some v) (hb : Below w.heap.size w w') : w'.cell? a = some v := by
  have hlt : a.block < w.heap.size := by
    rcases Nat.lt_or_ge a.block w.heap.size with h' | h'
    · exact h'
    · simp [World.cell?, Array.getElem?_eq_none h'] at h
  exact (hb.cell hlt).trans h
theorem Door.keep {w w' : World} (hb : Below w.heap.size w w') (h : Door w) : Door w' := by
  obtain ⟨h1, ⟨t4, p4, h4⟩, ⟨t5, p5, h5⟩, h6, m, h7⟩ := h
  exact ⟨var_stays h1 hb, ⟨t4, p4, var_stays h4 hb⟩, ⟨t5, p5, var_stays h5 hb⟩, fun k v hk => cell_stays (h6 k v hk) hb, m, cell_stays h7 hb⟩
instance : WInv := ⟨Door, fun _ _ hb h => h.keep hb⟩

abbrev dI (n : Int) : Dt := .sc (.int .i64 n)
abbrev dB (b : Bool) : Dt := .sc (.bool b)
abbrev aI (n : Int) : Av := .b (.one (.d (.sc (.int .i64 n))))
abbrev aB (b : Bool) : Av := .b (.one (.d (.sc (.bool b))))
abbrev pI (n : Int) : Pa := .one (.sc (.int .i64 n))
abbrev pB (b : Bool) : Pa := .one (.sc (.bool b))
abbrev pS (b : ByteArray) : Pa := .one (.sc (.string b))
/-- as many cells of a block as there are -/
def World.cellsOf (w : World) (b : Nat) : Nat := match w.heap[b]? with
  | some (.cells arr _ _) => arr.size
  | _ => 0
theorem cellsOf_lt {w : World} (b i : Nat) (h : (w.cell? ⟨b, i, none⟩).isSome = true) : i < World.cellsOf w b := by
  unfold World.cellsOf
  unfold World.cell? at h
  cases hb : w.heap[b]? with
  | none => simp [hb] at h
  | some x =>
    cases x with
    | cells arr T fr => simp only [hb] at h; simpa using h
    | _ => simp [hb] at h

def intsD (l : List Int) : Dt := .im (l.map fun x => [dI x])
theorem RPs.nth {S : Nat → Nat} {w : World} {ps : List Pa} {vs : Array Value} (h : RPs S w ps vs) {i : Nat} {p : Pa} (hp : ps[i]? = some p) : ∃ u, vs[i]? = some u ∧ RP S w p u := by
  have hi : i < vs.size := by rw [← h.1]; exact (List.getElem?_eq_some_iff.1 hp).1
  exact ⟨vs[i], Array.getElem?_eq_getElem hi, h.2 i p _ hp (Array.getElem?_eq_getElem hi)⟩
theorem RPs.one {S : Nat → Nat} {w : World} {p : Pa} {vs : Array Value} (h : RPs S w [p] vs) : ∃ u, vs = #[u] ∧ RP S w p u := by
  obtain ⟨u, h1, h2⟩ := h.nth (i := 0) rfl
  refine ⟨u, ?_, h2⟩
  have h3 := h.1
  apply Array.ext_getElem?
  intro j
  match j with
  | 0 => simpa using h1
  | j + 1 => rw [Array.getElem?_eq_none (by simp at h3; omega), Array.getElem?_eq_none (by simp)]
theorem RPs.two {S : Nat → Nat} {w : World} {p q : Pa} {vs : Array Value} (h : RPs S w [p, q] vs) : ∃ u v, vs = #[u, v] ∧ RP S w p u ∧ RP S w q v := by
  obtain ⟨u, h1, h2⟩ := h.nth (i := 0) rfl
  obtain ⟨v, h3, h4⟩ := h.nth (i := 1) rfl
  refine ⟨u, v, ?_, h2, h4⟩
  have h5 := h.1
  apply Array.ext_getElem?
  intro j
  match j with
  | 0 => simpa using h1
  | 1 => simpa using h3
  | j + 2 => rw [Array.getElem?_eq_none (by simp at h5; omega), Array.getElem?_eq_none (by simp)]
theorem RPs.three {S : Nat → Nat} {w : World} {p q r : Pa} {vs : Array Value} (h : RPs S w [p, q, r] vs) : ∃ u v x, vs = #[u, v, x] ∧ RP S w p u ∧ RP S w q v ∧ RP S w r x := by
  obtain ⟨u, h1, h2⟩ := h.nth (i := 0) rfl
  obtain ⟨v, h3, h4⟩ := h.nth (i := 1) rfl
  obtain ⟨x, h6, h7⟩ := h.nth (i := 2) rfl
  refine ⟨u, v, x, ?_, h2, h4, h7⟩
  have h5 := h.1
  apply Array.ext_getElem?
  intro j
  match j with
  | 0 => simpa using h1
  | 1 => simpa using h3
  | 2 => simpa using h6
  | j + 3 => rw [Array.getElem?_eq_none (by simp at h5; omega), Array.getElem?_eq_none (by simp)]
theorem RPs.nil {S : Nat → Nat} {w : World} {vs : Array Value} (h : RPs S w [] vs) : vs = #[] := by
  have h3 := h.1
  apply Array.ext_getElem?
  intro j
  rw [Array.getElem?_eq_none (by simp at h3; omega), Array.getElem?_eq_none (by simp)]
theorem RPs.mk1 {S : Nat → Nat} {w : World} {p : Pa} {u : Value} (h : RP S w p u) : RPs S w [p] #[u] := ⟨rfl, fun i q v h1 h2 => by
  match i with
  | 0 => cases h1; simp at h2; subst h2; exact h
  | i + 1 => simp at h1⟩
theorem RPs.mk2 {S : Nat → Nat} {w : World} {p q : Pa} {u v : Value} (h : RP S w p u) (k : RP S w q v) : RPs S w [p, q] #[u, v] := ⟨rfl, fun i r x h1 h2 => by
  match i with
  | 0 => cases h1; simp at h2; subst h2; exact h
  | 1 => cases h1; simp at h2; subst h2; exact k
  | i + 2 => simp at h1⟩
theorem RPs.mk3 {S : Nat → Nat} {w : World} {p q r : Pa} {u v x : Value} (h : RP S w p u) (k : RP S w q v) (m : RP S w r x) : RPs S w [p, q, r] #[u, v, x] := ⟨rfl, fun i o y h1 h2 => by
  match i with
  | 0 => cases h1; simp at h2; subst h2; exact h
  | 1 => cases h1; simp at h2; subst h2; exact k
  | 2 => cases h1; simp at h2; subst h2; exact m
  | i + 3 => simp at h1⟩
theorem RP.int {S : Nat → Nat} {w : World} {n : Int} {u : Value} (h : RP S w (pI n) u) : u = .int .i64 n := (RD.sc_inv h).1
theorem RP.mkInt {S : Nat → Nat} {w : World} (n : Int) : RP S w (pI n) (.int .i64 n) := .sc _ rfl
theorem RP.mkBool {S : Nat → Nat} {w : World} (n : Bool) : RP S w (pB n) (.bool n) := .sc _ rfl
theorem RP.bool {S : Nat → Nat} {w : World} {n : Bool} {u : Value} (h : RP S w (pB n) u) : u = .bool n := (RD.sc_inv h).1
/-- a struct of numbers -/
theorem RP.flat {S : Nat → Nat} {w : World} {vs : List Value} {u : Value} (h : RP S w (.agg (vs.map Dt.sc)) u) : u = .agg vs.toArray := by
  obtain ⟨arr, rfl, h2, h3⟩ := h
  congr 1
  apply Array.ext_getElem?
  intro j
  simp only [List.getElem?_toArray]
  rw [List.length_map] at h2
  cases hj : vs[j]? with
  | none => rw [Array.getElem?_eq_none]; rw [List.getElem?_eq_none_iff] at hj; omega
  | some x =>
    have hlt : j < arr.size := by have := (List.getElem?_eq_some_iff.1 hj).1; omega
    rw [Array.getElem?_eq_getElem hlt, (RD.sc_inv (h3 j (.sc x) arr[j] (by rw [List.getElem?_map, hj]; rfl) (Array.getElem?_eq_getElem hlt))).1]
theorem RP.mkFlat {S : Nat → Nat} {w : World} {vs : List Value} (h : ∀ u, u ∈ vs → u.oneCell' = true) : RP S w (.agg (vs.map Dt.sc)) (.agg vs.toArray) := by
  refine ⟨_, rfl, by simp, fun i x u h1 h2 => ?_⟩
  rw [List.getElem?_map, Option.map_eq_some_iff] at h1
  obtain ⟨y, hy, rfl⟩ := h1
  simp [hy] at h2
  subst h2
  exact .sc _ (h y (List.mem_of_getElem? hy))
theorem trod_int_field {H : Type} {enc : TypeId × Value → H} {P : Program} {w : World} {base n : Nat} {spare : Nat → Bool} {held : Bool} {t : TypeId} (ht : P.underlying t = some (.int .i64)) {v : Value} {y : DataW H × List MemPlace} (h : DataW.trod enc P w base spare held n t [v] = some y) : ∃ x, v = .int .i64 x ∧ (Lit.int .i64 x).wf = true := by
  obtain ⟨x, hx, _, hw⟩ := DataW.trod_int ht h
  simp at hx
  exact ⟨x, hx, hw⟩

theorem i64_of_wf {x : Int} (h : (Lit.int .i64 x).wf = true) : -9223372036854775808 ≤ x ∧ x ≤ 9223372036854775807 := by
  simp [Lit.wf, IntKind.min, IntKind.max, IntKind.signed, IntKind.bits] at h
  omega

theorem trodAll_below {H : Type} {enc : TypeId × Value → H} {P : Program} (hl : laidOutB P = true) {W W' : World} (hb : Below W.heap.size W W') :
    ∀ {ts : List TypeId} {vs : List Value} {ds : List (DataW H)} {ps : List MemPlace}, (ts.all fun t => P.readableRec t && decide (t < P.types.size)) = true → DataW.TrodAll enc P W 0 (fun _ => true) true ts vs ds ps → DataW.TrodAll enc P W' 0 (fun b => decide (b < W.heap.size)) true ts vs ds ps
  | [], vs, ds, ps, _, h => by obtain ⟨rfl, rfl, rfl⟩ := trodAll_nil h; exact trodAll_mk0
  | t :: ts, vs, ds, ps, ht, h => by
    obtain ⟨v, vs', d, ds', p, q, rfl, rfl, rfl, h1, h2⟩ := trodAll_cons h
    simp only [List.all_cons, Bool.and_eq_true, decide_eq_true_eq] at ht
    have lt : ∀ x ∈ p, x.block < W.heap.size := by obtain ⟨m, hm⟩ := h1; exact DataW.trod_lt m _ _ _ hm
    exact trodAll_cons_mk (Below.trod hl ht.1.1 ht.1.2 h1 hb lt) (trodAll_below hl hb (by rw [Bool.eq_iff_iff] at *; simpa using ht.2) h2)

/-- what a contract on data that answers 'true' says of a call -/
theorem Spec.true [I : WInv] {P : Program} {f : Nat} {R : List Pa → List Pa → Prop} (hs : Spec P f R) {ps : List Pa} (hR : R ps [pB true]) {S : Nat → Nat} {w : World} {vals : Array Value} (hw : I.p w) (hv : RPs S w ps vals) :
    Calls P f vals w fun e w' => e = .returned (.bool true) ∧ Below w.heap.size w w' := by
  refine (hs ps _ hR S w vals hw hv).mono ?_
  rintro e w' ⟨v, S', rfl, h1, h2, _⟩
  exact ⟨by rw [RP.bool h1], h2⟩

/-- an array of numbers -/
theorem open_nums {H : Type} {enc : TypeId × Value → H} {P : Program} {w : World} {r : Reach} {b0 base : Nat} {spare : Nat → Bool} {held : Bool} {t tI : TypeId} {n : Nat} (ht : P.underlying t = some (.array n tI)) (hI : P.underlying tI = some (.int .i64)) (hcI : P.cellsOf tI = 1) (hct : P.cellsOf t = n)
    {v : Value} {d : DataW H} {ps : List MemPlace} (hv : ∃ xs : Array Value, v = .agg xs ∧ xs.size = n) (h : DataW.Trod enc P w base spare held t v d ps) :
    ∃ l : List Int, l.length = n ∧ v = .agg (l.map (Value.int .i64)).toArray ∧ ∀ x, x ∈ l → -9223372036854775808 ≤ x ∧ x ≤ 9223372036854775807 := by
  obtain ⟨cs, rfl, hcs⟩ := hv
  obtain ⟨fuel, hf⟩ := h
  obtain ⟨xs, m, _, _, hl, hlen, hfs⟩ := DataW.trod_array ht hf
  have key : ∀ i, ∃ x : Int, i < n → cs[i]? = some (.int .i64 x) ∧ -9223372036854775808 ≤ x ∧ x ≤ 9223372036854775807 := by
    intro i
    by_cases hi : i < n
    · have h1 := hfs i hi
      rw [hcI, Nat.mul_one] at h1
      have hic : i < cs.size := by omega
      have hone' : ((Value.agg cs).cells.toList.drop i).take 1 = [cs[i]'hic] := by
        show (cs.toList.drop i).take 1 = _
        rw [List.drop_eq_getElem_cons (by simpa using hic)]
        simp
      rw [hone'] at h1
      have hxs : xs[i]? = some (xs[i]'(by omega)) := List.getElem?_eq_getElem _
      rw [hxs] at h1
      obtain ⟨x, hx, hw⟩ := trod_int_field hI h1
      exact ⟨x, fun _ => ⟨by rw [Array.getElem?_eq_getElem hic, hx], i64_of_wf hw⟩⟩
    · exact ⟨0, fun h => absurd h hi⟩
  obtain ⟨g, hg⟩ := Classical.skolem.1 key
  refine ⟨(List.range n).map g, by simp, ?_, fun x hx => ?_⟩
  · congr 1
    apply Array.ext_getElem?
    intro i
    simp only [List.getElem?_toArray, List.getElem?_map]
    rcases Nat.lt_or_ge i n with hi | hi
    · rw [(hg i hi).1, List.getElem?_range hi]; rfl
    · rw [Array.getElem?_eq_none (by omega), List.getElem?_eq_none (by simpa using hi)]; rfl
  · simp only [List.mem_map, List.mem_range] at hx
    obtain ⟨i, hi, rfl⟩ := hx
    exact (hg i hi).2
def Ev.row (e : Ev) : List Dt := [dI e.g, dI e.kind, dI e.obj, dI e.off, dI e.k, dI e.n, dI e.fn, dI e.pc, dI e.stack]
def Ev.pa (e : Ev) : Pa := .agg e.row
def evsD (l : List Ev) : Dt := .im (l.map Ev.row)
def evsPa (l : List Ev) : Pa := .one (evsD l)

end Go.Proofs.YthnjbnfnljjepabDoor
end
section
set_option linter.unusedSimpArgs false
set_option linter.unusedVariables false
namespace Go.Proofs.YthnjbnfnljjepabDoor
open Go Go.RowKit Go.Sort

abbrev strB (l : List UInt8) : ByteArray := ⟨l.toArray⟩
theorem strB_inj {a b : ByteArray} (h : a.data.toList = b.data.toList) : a = b := by
  cases a; cases b; simp at h; subst h; rfl
abbrev rowsS (xs : List ByteArray) : List (List Dt) := xs.map fun x => [Dt.sc (.string x)]
abbrev pL (xs : List ByteArray) : Pa := .one (.im (rowsS xs))

theorem RP.str {S : Nat → Nat} {w : World} {s : ByteArray} {u : Value} (h : RP S w (pS s) u) : u = .string s := (RD.sc_inv h).1
theorem below_grow' (w : World) (k : Nat) (os : Array Obj) : Below w.heap.size w (grow (w.drewN k) os) := Lib.below_grow _ w (Nat.le_refl _) k os

def R_itoa (ps rs : List Pa) : Prop := ∃ n : Int, (-9223372036854775808 ≤ n ∧ n ≤ 9223372036854775807) ∧ ps = [pI n] ∧ rs = [pS (strB (Lib.itoa n))]
theorem s_itoa : Spec Tryd.prog 30 R_itoa := by
  rintro az rs ⟨n, hn, rfl, rfl⟩ S w vals hI hv
  obtain ⟨u, rfl, h1⟩ := hv.one
  rw [RP.int h1]
  refine (Tryd.strconv_Itoa n hn.1 hn.2 w hI.p10).mono ?_
  rintro e w' ⟨rfl, k, os, rfl⟩
  exact ⟨_, S, rfl, .sc _ rfl, below_grow' w k os, fun _ _ => rfl⟩

def R_atoi (ps rs : List Pa) : Prop := ∃ s : ByteArray, s.size ≤ 1000000 ∧ ps = [pS s] ∧ rs = match Lib.atoiAll s.data.toList with
  | .ok v => [pI v, .one (.sc .nilIface)]
  | .range => [pI (Lib.atoiSat s.data.toList), .one .nn]
  | _ => [pI 0, .one .nn]
theorem below_bytes (w : World) (t : TypeId) (s : ByteArray) : Below w.heap.size w (Lib.bytesWorld w t s) := by
  exact ⟨rfl, rfl, rfl, by rw [Lib.bytesWorld_size]; omega, fun k hk => Lib.bytesWorld_at_old w t s k hk⟩
theorem s_atoi : Spec Tryd.prog 46 R_atoi := by
  rintro az rs ⟨s, hs, rfl, rfl⟩ S w vals hI hv
  obtain ⟨u, rfl, h1⟩ := hv.one
  rw [RP.str h1]
  cases ha : Lib.atoiAll s.data.toList with
  | ok v =>
    refine (Tryd.strconv_Atoi_ok s (by omega) v ha w).mono ?_
    rintro e w' ⟨rfl, hb⟩
    refine ⟨_, S, rfl, ⟨_, rfl, RPs.mk2 (RP.mkInt v) (.sc _ rfl)⟩, ?_, fun _ _ => rfl⟩
    rcases hb with rfl | ⟨t, rfl⟩
    · exact Below.refl _ _
    · exact below_bytes _ _ _
  | range =>
    obtain ⟨tp, p, hvar⟩ := hI.er
    refine (Tryd.strconv_Atoi_range_var s (by omega) ha tp p w hvar).mono ?_
    rintro e w' ⟨N, rfl, _, _, hb⟩
    exact ⟨_, S, rfl, ⟨_, rfl, RPs.mk2 (RP.mkInt _) (.nn _ _)⟩, hb, fun _ _ => rfl⟩
  | _ =>
    obtain ⟨tp, p, hvar⟩ := hI.es
    refine (Tryd.strconv_Atoi_syntax_var s (by omega) ha tp p w hvar).mono ?_
    rintro e w' ⟨N, rfl, _, _, hb⟩
    exact ⟨_, S, rfl, ⟨_, rfl, RPs.mk2 (RP.mkInt 0) (.nn _ _)⟩, hb, fun _ _ => rfl⟩

/-- a slice of strings that a call has made -/
theorem rd_strs {S : Nat → Nat} {w w' : World} {A : Nat} {t : TypeId} {xs : List ByteArray} (hA : w.heap.size ≤ A)
    (ho : w'.ownsRow w.heap.size t 1 (.slice (some ⟨A, 0, none⟩) xs.length xs.length) xs.length (xs.map Value.string)) :
    ∃ S', RD S' w' (.im (rowsS xs)) (.slice (some ⟨A, 0, none⟩) xs.length xs.length) ∧ ∀ b, b < w.heap.size → S' b = S b := by
  obtain ⟨_, ho⟩ := ho
  rcases ho with ⟨h, _⟩ | ⟨g, cap, cur, he, _, hg, hc, hm, hsz, htk⟩
  · cases h
  cases he
  refine ⟨fun b => if b = A then xs.length else S b, ?_, fun b hb => if_neg (by omega)⟩
  have hcell : ∀ i, i < xs.length → w'.cell? ⟨A, i, none⟩ = some (.string (xs.getD i default)) := fun i hi => by
    have h1 : cur.toList[i]? = some (.string (xs.getD i default)) := by
      have h2 := congrArg (·[i]?) htk
      simp only [List.getElem?_take, Nat.mul_one, if_pos hi, List.getElem?_map] at h2
      rw [h2, List.getElem?_eq_getElem hi]
      simp [List.getD, List.getElem?_eq_getElem hi]
    simp only [World.cell?, hg]
    simpa using h1
  have h := RD.im (S := fun b => if b = A then xs.length else S b) (w := w') (rowsS xs) 1 A 0 xs.length (fun i _ => .string (xs.getD i default)) (by simp [rowsS]) hm (fun r hr => by simp only [rowsS, List.mem_map] at hr; obtain ⟨_, _, rfl⟩ := hr; rfl)
    (fun i j hi hj => by
      have hi' : i < xs.length := by simpa [rowsS] using hi
      have hj0 : j = 0 := by omega
      subst hj0
      rw [show 0 + (i * 1 + 0) = i by omega]
      exact ⟨hcell i hi', by simp [hi']⟩)
    (fun i r j x hr hx => by
      simp only [rowsS, List.getElem?_map, Option.map_eq_some_iff] at hr
      obtain ⟨y, hy, rfl⟩ := hr
      match j, hx with
      | 0, hx =>
        simp at hx
        subst hx
        simp only [List.getD, hy, Option.getD_some]
        exact .sc _ rfl
      | j + 1, hx => simp at hx)
  simpa [rowsS] using h

def R_join (ps rs : List Pa) : Prop := ∃ (xs : List ByteArray) (sep : ByteArray), xs.length ≤ 1000000 ∧ (Lib.join (xs.map (·.data.toList)) sep.data.toList).length ≤ 1000000 ∧ ps = [pL xs, pS sep] ∧ rs = [pS (strB (Lib.join (xs.map (·.data.toList)) sep.data.toList))]
theorem s_join : Spec Tryd.prog 31 R_join := by
  rintro az rs ⟨xs, sep, hx, hl, rfl, rfl⟩ S w vals hI hv
  obtain ⟨u, u2, rfl, h1, h2⟩ := hv.two
  rw [RP.str h2]
  have h1' : RD S w (.im (rowsS xs)) u := h1
  obtain ⟨A, cap, vs, e0, e1, e2, e3, e4, e5, e6⟩ := h1'.flat (sz := 1) (fun r hr => by simp only [rowsS, List.mem_map] at hr; obtain ⟨_, _, rfl⟩ := hr; rfl)
  have hlen : (rowsS xs).length = xs.length := by simp [rowsS]
  by_cases hz : xs = []
  · subst hz
    rw [e0]
    refine (Tryd.strings_Join_none A cap sep w).mono ?_
    rintro e w' ⟨rfl, rfl⟩
    exact ⟨_, S, rfl, .sc _ rfl, Below.refl _ _, fun _ _ => rfl⟩
  rcases e6 with h | ⟨b, o, rfl, h7⟩
  · simp [rowsS] at h; exact absurd h hz
  rw [e0, hlen]
  have hcells : ∀ (j : Nat) x, xs[j]? = some x → w.cell? ⟨b, o + j, none⟩ = some (.string x) := fun j x hj => by
    obtain ⟨u', h3, h4⟩ := e5 j [Dt.sc (.string x)] 0 (.sc (.string x)) (by simp [rowsS, hj]) rfl
    rw [(RD.sc_inv h4).1, show j * 1 + 0 = j by omega] at h3
    exact (h7 j _ h3).1
  have hbk : b < w.heap.size := by
    obtain ⟨x, hx0⟩ : ∃ x, xs[0]? = some x := by cases xs with
      | nil => exact absurd rfl hz
      | cons x _ => exact ⟨x, rfl⟩
    have h3 := hcells 0 x hx0
    rcases Nat.lt_or_ge b w.heap.size with h' | h'
    · exact h'
    · simp [World.cell?, Array.getElem?_eq_none h'] at h3
  refine (Tryd.strings_Join b o cap xs sep w hcells hbk (by omega) (by omega) (by omega)).mono ?_
  rintro e w' ⟨rfl, hb⟩
  exact ⟨_, S, rfl, .sc _ rfl, hb, fun _ _ => rfl⟩

def R_cutp (ps rs : List Pa) : Prop := ∃ s p : ByteArray, ps = [pS s, pS p] ∧ rs = [pS (strB (Lib.trimPrefix s.data.toList p.data.toList)), pB (Lib.hasPrefix s.data.toList p.data.toList)]
theorem s_cutp : Spec Tryd.prog 37 R_cutp := by
  rintro az rs ⟨s, p, rfl, rfl⟩ S w vals hI hv
  obtain ⟨u, u2, rfl, h1, h2⟩ := hv.two
  rw [RP.str h1, RP.str h2]
  refine (Tryd.strings_CutPrefix s p w).mono ?_
  rintro e w' ⟨rfl, rfl⟩
  exact ⟨_, S, rfl, ⟨_, rfl, RPs.mk2 (.sc _ rfl) (RP.mkBool _)⟩, Below.refl _ _, fun _ _ => rfl⟩
def R_cut (ps rs : List Pa) : Prop := ∃ s sep : ByteArray, s.size ≤ 1000000 ∧ ps = [pS s, pS sep] ∧ rs = [pS (strB (Lib.cut s.data.toList sep.data.toList).1), pS (strB (Lib.cut s.data.toList sep.data.toList).2.1), pB (Lib.cut s.data.toList sep.data.toList).2.2]
theorem s_cut : Spec Tryd.prog 47 R_cut := by
  rintro az rs ⟨s, p, hs, rfl, rfl⟩ S w vals hI hv
  obtain ⟨u, u2, rfl, h1, h2⟩ := hv.two
  rw [RP.str h1, RP.str h2]
  obtain ⟨m, hm⟩ := hI.mx
  refine (Tryd.strings_Cut s p m w (by omega) hm).mono ?_
  rintro e w' ⟨rfl, q, rfl⟩
  exact ⟨_, S, rfl, ⟨_, rfl, RPs.mk3 (.sc _ rfl) (.sc _ rfl) (RP.mkBool _)⟩, ⟨rfl, rfl, rfl, Nat.le_refl _, fun _ _ => rfl⟩, fun _ _ => rfl⟩
def splitL (s sep : ByteArray) : List ByteArray := Lib.splitB sep 0 (Lib.countB s sep) s
def R_split (ps rs : List Pa) : Prop := ∃ s sep : ByteArray, s.size ≤ 1000000 ∧ 1 ≤ sep.size ∧ ps = [pS s, pS sep] ∧ rs = [pL (splitL s sep)]
theorem splitL_length (s sep : ByteArray) (h1 : 1 ≤ sep.size) : (splitL s sep).length = Lib.countB s sep + 1 := Lib.splitB_all sep h1 0 _ s rfl
theorem s_split : Spec Tryd.prog 33 R_split := by
  rintro az rs ⟨s, p, hs, hp, rfl, rfl⟩ S w vals hI hv
  obtain ⟨u, u2, rfl, h1, h2⟩ := hv.two
  rw [RP.str h1, RP.str h2]
  obtain ⟨m, hm⟩ := hI.mx
  refine (Tryd.strings_Split s p m w (by omega) hm hp).mono ?_
  rintro e w' ⟨rfl, rfl⟩
  have hl := splitL_length s p hp
  have hle := Lib.countB_le p hp _ s (Nat.le_refl _)
  obtain ⟨S', h2, h3⟩ := rd_strs (S := S) (w := w) (w' := w.alloc (.cells ((splitL s p).map Value.string).toArray 9)) (A := w.heap.size) (t := 9) (xs := splitL s p) (Nat.le_refl _)
    ⟨by simp, .inr ⟨w.heap.size, (splitL s p).length, ((splitL s p).map Value.string).toArray, rfl, Nat.le_refl _, heap_alloc_new _ _, Nat.le_refl _, by unfold maxLen; omega, by simp, by simp [List.take_of_length_le]⟩⟩
  rw [hl] at h2
  exact ⟨_, S', rfl, h2, (Below.refl _ _).alloc (Nat.le_refl _) _, h3⟩
end Go.Proofs.YthnjbnfnljjepabDoor
end
section
namespace Go.Proofs.YthnjbnfnljjepabDoor
open Go Go.RowKit
set_option linter.unusedSimpArgs false
set_option linter.unusedVariables false
set_option maxRecDepth 100000

def eqsL : List (Nat × List Bool) := [(1048584, List.replicate 30 false), (1048589, List.replicate 30 false), (1048598, List.replicate 30 false), (1048607, List.replicate 30 false), (1048612, List.replicate 30 false), (1048618, List.replicate 30 false), (1048623, List.replicate 30 false), (1048633, List.replicate 30 false), (1048639, List.replicate 30 false), (1048644, List.replicate 30 false), (22, [false, false, false, false, false, false, false, false, false]), (23, [false, false, false, false, false, false, false, false, false]), (33, List.replicate 7 false), (69, List.replicate 24 false), (89, List.replicate 20 false), (91, List.replicate 65 false), (101, List.replicate 256 false), (102, [false, false]), (103, [false, false]), (111, List.replicate 32 false), (112, List.replicate 64 false)]
theorem eqsOK : ∀ p, p ∈ eqsL → EqT Tryd.prog p.1 p.2 := by
  intro p hp
  simp only [eqsL, List.mem_cons, List.not_mem_nil, or_false] at hp
  rcases hp with rfl | rfl | rfl | rfl | rfl | rfl | rfl | rfl | rfl | rfl | rfl | rfl | rfl | rfl | rfl | rfl | rfl | rfl | rfl | rfl | rfl
  · exact fun h => absurd h (by decide)
  · exact fun h => absurd h (by decide)
  · exact fun h => absurd h (by decide)
  · exact fun h => absurd h (by decide)
  · exact fun h => absurd h (by decide)
  · exact fun h => absurd h (by decide)
  · exact fun h => absurd h (by decide)
  · exact fun h => absurd h (by decide)
  · exact fun h => absurd h (by decide)
  · exact fun h => absurd h (by decide)
  · exact eqT_struct Tryd.underlying22 (by kernel_rfl) (by kernel_rfl) (by kernel_rfl)
  · exact eqT_struct Tryd.underlying23 (by kernel_rfl) (by kernel_rfl) (by kernel_rfl)
  · exact eqT_array Tryd.underlying33 (ei := (Tryd.prog.info? 3).getD default) (by kernel_rfl) (by kernel_rfl) (by kernel_rfl) (by kernel_rfl)
  · exact eqT_array Tryd.underlying69 (ei := (Tryd.prog.info? 5).getD default) (by kernel_rfl) (by kernel_rfl) (by kernel_rfl) (by kernel_rfl)
  · exact eqT_array Tryd.underlying89 (ei := (Tryd.prog.info? 70).getD default) (by kernel_rfl) (by kernel_rfl) (by kernel_rfl) (by kernel_rfl)
  · exact eqT_array Tryd.underlying91 (ei := (Tryd.prog.info? 5).getD default) (by kernel_rfl) (by kernel_rfl) (by kernel_rfl) (by kernel_rfl)
  · exact eqT_array Tryd.underlying101 (ei := (Tryd.prog.info? 5).getD default) (by kernel_rfl) (by kernel_rfl) (by kernel_rfl) (by kernel_rfl)
  · exact eqT_struct Tryd.underlying102 (by kernel_rfl) (by kernel_rfl) (by kernel_rfl)
  · exact eqT_struct Tryd.underlying103 (by kernel_rfl) (by kernel_rfl) (by kernel_rfl)
  · exact eqT_array Tryd.underlying111 (ei := (Tryd.prog.info? 5).getD default) (by kernel_rfl) (by kernel_rfl) (by kernel_rfl) (by kernel_rfl)
  · exact eqT_array Tryd.underlying112 (ei := (Tryd.prog.info? 5).getD default) (by kernel_rfl) (by kernel_rfl) (by kernel_rfl) (by kernel_rfl)
theorem mixedOK : Tryd.prog.follows .mixedOrders = true := by kernel_rfl

/-! interleave/interleavelaw20.EventValid -/
def pc3 : PC :=
 .seq (.reg false [⟨(some 1), .box (.t 0), none, []⟩,
       ⟨(some 2), .mv (.v (.bool false)), none, []⟩])
  (.seq (.seq (.reg false [⟨(some 3), .call 10 [], none, []⟩,
         ⟨(some 4), .un .not (.t 3), none, [0]⟩])
    (.cond (.t 4)
      (.seq (.reg false [⟨(some 2), .mv (.v (.bool false)), none, []⟩])
       (.ret))
      (.skip)))
   (.seq (.reg true [⟨(some 5), .load (some 9) (.t 1), none, []⟩,
         ⟨(some 6), .call 11 [(.t 5)], none, [0]⟩,
         ⟨(some 7), .load (some 9) (.t 1), none, []⟩,
         ⟨(some 8), .call 12 [(.t 7)], none, [2, 1]⟩,
         ⟨(some 9), .eqb false (.t 6) (.t 8), none, [1, 3]⟩,
         ⟨(some 2), .mv (.t 9), none, [4, 3, 0, 1, 2, 3, 4]⟩])
    (.ret)))
def pr3 : List PR := [.t 2]
theorem bd3 : Tryd.f3.body = some (Tryd.f3.body.getD .skip) := by kernel_rfl
theorem cp3 : compC Tryd.prog Tryd.f3.ntmps eqsL (Tryd.f3.body.getD .skip) = some pc3 := by kernel_rfl
theorem sp3 [WInv] {env : Env} (hE : EnvOK Tryd.prog env) {R : List Pa → List Pa → Prop} (hR : ∀ ps rs, R ps rs → ps.length ≤ 10 ∧ pwp env pc3 (fun e s => (e = .normal ∨ e = .ret) ∧ s.res pr3 = some rs) (St.init ps)) : Spec Tryd.prog 3 R :=
  fn_sound hE eqsOK mixedOK Tryd.func3 bd3 cp3 (by kernel_rfl) (by kernel_rfl) hR

/-! interleave/interleavelaw20.EventText -/
def pc4 : PC :=
 .seq (.reg false [⟨(some 1), .box (.t 0), none, []⟩,
       ⟨(some 2), .mv (.v (.bool false)), none, []⟩])
  (.seq (.seq (.reg false [⟨(some 3), .call 10 [], none, []⟩,
         ⟨(some 4), .un .not (.t 3), none, [0]⟩])
    (.cond (.t 4)
      (.seq (.reg false [⟨(some 2), .mv (.v (.bool false)), none, []⟩])
       (.ret))
      (.skip)))
   (.seq (.reg true [⟨(some 5), .load (some 9) (.t 1), none, []⟩,
         ⟨(some 6), .call 13 [(.t 5)], none, [0]⟩,
         ⟨(some 7), .load (some 9) (.t 1), none, []⟩,
         ⟨(some 8), .call 14 [(.t 7)], none, [2, 1]⟩,
         ⟨(some 9), .bin .eql (.t 6) (.t 8), none, [1, 3]⟩,
         ⟨(some 2), .mv (.t 9), none, [4, 3, 0, 1, 2, 3, 4]⟩])
    (.ret)))
def pr4 : List PR := [.t 2]
theorem bd4 : Tryd.f4.body = some (Tryd.f4.body.getD .skip) := by kernel_rfl
theorem cp4 : compC Tryd.prog Tryd.f4.ntmps eqsL (Tryd.f4.body.getD .skip) = some pc4 := by kernel_rfl
theorem sp4 [WInv] {env : Env} (hE : EnvOK Tryd.prog env) {R : List Pa → List Pa → Prop} (hR : ∀ ps rs, R ps rs → ps.length ≤ 10 ∧ pwp env pc4 (fun e s => (e = .normal ∨ e = .ret) ∧ s.res pr4 = some rs) (St.init ps)) : Spec Tryd.prog 4 R :=
  fn_sound hE eqsOK mixedOK Tryd.func4 bd4 cp4 (by kernel_rfl) (by kernel_rfl) hR

/-! interleave/interleavelaw20.EventReadInvertsText -/
def pc5 : PC :=
 .seq (.reg false [⟨(some 1), .box (.t 0), none, []⟩,
       ⟨(some 2), .mv (.v (.bool false)), none, []⟩])
  (.seq (.seq (.reg false [⟨(some 5), .call 10 [], none, []⟩,
         ⟨(some 6), .un .not (.t 5), none, [0]⟩])
    (.cond (.t 6)
      (.seq (.reg false [⟨(some 2), .mv (.v (.bool false)), none, []⟩])
       (.ret))
      (.skip)))
   (.seq (.seq (.reg false [⟨(some 7), .load (some 9) (.t 1), none, []⟩,
          ⟨(some 8), .call 12 [(.t 7)], none, [0]⟩,
          ⟨(some 9), .un .not (.t 8), none, [1]⟩])
     (.cond (.t 9)
       (.seq (.reg false [⟨(some 2), .mv (.v (.bool true)), none, []⟩])
        (.ret))
       (.skip)))
    (.seq (.reg false [⟨(some 11), .load (some 9) (.t 1), none, []⟩,
          ⟨(some 12), .call 14 [(.t 11)], none, [0]⟩,
          ⟨(some 13), .call 15 [(.t 12)], none, [1, 1]⟩,
          ⟨(some 10), .mv (.t 13), none, [2]⟩,
          ⟨(some 14), .ext (.t 10) 0, none, [3]⟩,
          ⟨(some 15), .ext (.t 10) 1, none, [3]⟩,
          ⟨(some 3), .new [(.int .i64 0), (.int .i64 0), (.int .i64 0), (.int .i64 0), (.int .i64 0), (.int .i64 0), (.int .i64 0), (.int .i64 0), (.int .i64 0)], none, []⟩,
          ⟨none, .store 9 (.t 3) (.t 14), none, [6, 4, 2, 0, 1, 2, 3, 4, 6]⟩,
          ⟨(some 4), .mv (.t 15), none, [5, 7, 0, 1, 2, 3, 4, 5, 6, 7]⟩])
     (.seq (.reg false [⟨(some 16), .mv (.t 4), none, []⟩,
           ⟨(some 17), .bin .eql (.t 16) (.v (.int .i64 0)), none, [0]⟩,
           ⟨(some 18), .mv (.t 17), none, [1]⟩,
           ⟨(some 19), .load (some 9) (.t 3), (some (18, true)), [2]⟩,
           ⟨(some 20), .load (some 9) (.t 1), (some (18, true)), [2]⟩,
           ⟨(some 21), .eqs false [false, false, false, false, false, false, false, false, false] (.t 19) (.t 20), (some (18, true)), [3, 4, 2]⟩,
           ⟨(some 22), .pick (.t 18) (.t 21) (.v (.bool false)), none, [2, 5]⟩,
           ⟨(some 2), .mv (.t 22), none, [6, 2, 0, 1, 2, 3, 4, 5, 6]⟩])
      (.ret)))))
def pr5 : List PR := [.t 2]
theorem bd5 : Tryd.f5.body = some (Tryd.f5.body.getD .skip) := by kernel_rfl
theorem cp5 : compC Tryd.prog Tryd.f5.ntmps eqsL (Tryd.f5.body.getD .skip) = some pc5 := by kernel_rfl
theorem sp5 [WInv] {env : Env} (hE : EnvOK Tryd.prog env) {R : List Pa → List Pa → Prop} (hR : ∀ ps rs, R ps rs → ps.length ≤ 23 ∧ pwp env pc5 (fun e s => (e = .normal ∨ e = .ret) ∧ s.res pr5 = some rs) (St.init ps)) : Spec Tryd.prog 5 R :=
  fn_sound hE eqsOK mixedOK Tryd.func5 bd5 cp5 (by kernel_rfl) (by kernel_rfl) hR

/-! interleave/interleavelaw20.EventReadAccepts -/
def pc6 : PC :=
 .seq (.reg false [⟨(some 2), .mv (.v (.bool false)), none, []⟩])
  (.seq (.seq (.reg false [⟨(some 7), .call 10 [], none, []⟩,
         ⟨(some 8), .un .not (.t 7), none, [0]⟩])
    (.cond (.t 8)
      (.seq (.reg false [⟨(some 2), .mv (.v (.bool false)), none, []⟩])
       (.ret))
      (.skip)))
   (.seq (.seq (.reg false [⟨(some 9), .mv (.t 0), none, []⟩,
          ⟨(some 10), .strlen (.t 9), none, [0]⟩,
          ⟨(some 11), .bin .gtr (.t 10) (.v (.int .i64 1000)), none, [1]⟩])
     (.cond (.t 11)
       (.seq (.reg false [⟨(some 2), .mv (.v (.bool true)), none, []⟩])
        (.ret))
       (.skip)))
    (.seq (.reg false [⟨(some 13), .mv (.t 0), none, []⟩,
          ⟨(some 14), .call 15 [(.t 13)], none, [0]⟩,
          ⟨(some 12), .mv (.t 14), none, [1]⟩,
          ⟨(some 15), .ext (.t 12) 0, none, [2]⟩,
          ⟨(some 16), .ext (.t 12) 1, none, [2]⟩,
          ⟨(some 3), .new [(.int .i64 0), (.int .i64 0), (.int .i64 0), (.int .i64 0), (.int .i64 0), (.int .i64 0), (.int .i64 0), (.int .i64 0), (.int .i64 0)], none, []⟩,
          ⟨none, .store 9 (.t 3) (.t 15), none, [5, 3, 1, 0, 1, 2, 3, 5]⟩,
          ⟨(some 4), .mv (.t 16), none, [4, 6, 0, 1, 2, 3, 4, 5, 6]⟩])
     (.seq (.reg false [⟨(some 18), .mv (.t 0), none, []⟩,
           ⟨(some 19), .call 16 [(.t 18)], none, [0]⟩,
           ⟨(some 17), .mv (.t 19), none, [1]⟩,
           ⟨(some 20), .ext (.t 17) 0, none, [2]⟩,
           ⟨(some 21), .ext (.t 17) 1, none, [2]⟩,
           ⟨(some 5), .new [(.int .i64 0), (.int .i64 0), (.int .i64 0), (.int .i64 0), (.int .i64 0), (.int .i64 0), (.int .i64 0), (.int .i64 0), (.int .i64 0)], none, []⟩,
           ⟨none, .store 9 (.t 5) (.t 20), none, [5, 3, 1, 0, 1, 2, 3, 5]⟩,
           ⟨(some 6), .mv (.t 21), none, [4, 6, 0, 1, 2, 3, 4, 5, 6]⟩])
      (.seq (.seq (.reg false [⟨(some 22), .mv (.t 4), none, []⟩,
             ⟨(some 23), .mv (.t 6), none, []⟩,
             ⟨(some 24), .bin .neq (.t 22) (.t 23), none, [0, 1]⟩,
             ⟨(some 25), .mv (.t 24), none, [2]⟩,
             ⟨(some 26), .load (some 9) (.t 3), (some (25, false)), [3]⟩,
             ⟨(some 27), .load (some 9) (.t 5), (some (25, false)), [3]⟩,
             ⟨(some 28), .eqs true [false, false, false, false, false, false, false, false, false] (.t 26) (.t 27), (some (25, false)), [4, 5, 3]⟩,
             ⟨(some 29), .pick (.t 25) (.v (.bool true)) (.t 28), none, [3, 6]⟩])
        (.cond (.t 29)
          (.seq (.reg false [⟨(some 2), .mv (.v (.bool false)), none, []⟩])
           (.ret))
          (.skip)))
       (.seq (.reg false [⟨(some 30), .mv (.t 4), none, []⟩,
             ⟨(some 31), .bin .eql (.t 30) (.v (.int .i64 0)), none, [0]⟩,
             ⟨(some 32), .mv (.t 31), none, [1]⟩,
             ⟨(some 33), .load (some 9) (.t 3), (some (32, true)), [2]⟩,
             ⟨(some 34), .call 11 [(.t 33)], (some (32, true)), [3, 2, 2]⟩,
             ⟨(some 35), .pick (.t 32) (.t 34) (.v (.bool false)), none, [2, 4]⟩,
             ⟨(some 36), .mv (.t 35), none, [5, 4]⟩,
             ⟨(some 37), .load (some 9) (.t 3), (some (36, true)), [6]⟩,
             ⟨(some 38), .call 13 [(.t 37)], (some (36, true)), [7, 6, 6]⟩,
             ⟨(some 39), .mv (.t 0), (some (36, true)), [6]⟩,
             ⟨(some 40), .bin .eql (.t 38) (.t 39), (some (36, true)), [8, 9, 6]⟩,
             ⟨(some 41), .pick (.t 36) (.t 40) (.v (.bool false)), none, [6, 10]⟩,
             ⟨(some 42), .mv (.t 41), none, [11, 8]⟩,
             ⟨(some 43), .mv (.t 4), (some (42, false)), [12]⟩,
             ⟨(some 44), .bin .eql (.t 43) (.v (.int .i64 8)), (some (42, false)), [13, 12]⟩,
             ⟨(some 45), .mv (.t 44), (some (42, false)), [14, 12, 12]⟩,
             ⟨(some 46), .load (some 9) (.t 3), (some (45, true)), [15]⟩,
             ⟨(some 47), .build [(.int .i64 0), (.int .i64 0), (.int .i64 0), (.int .i64 0), (.int .i64 0), (.int .i64 0), (.int .i64 0), (.int .i64 0), (.int .i64 0)] [], (some (45, true)), [15]⟩,
             ⟨(some 48), .eqs false [false, false, false, false, false, false, false, false, false] (.t 46) (.t 47), (some (45, true)), [16, 17, 15]⟩,
             ⟨(some 49), .pick (.t 45) (.t 48) (.v (.bool false)), (some (42, false)), [15, 18, 12]⟩,
             ⟨(some 50), .pick (.t 42) (.v (.bool true)) (.t 49), none, [12, 19]⟩,
             ⟨(some 2), .mv (.t 50), none, [20, 15, 0, 1, 2, 3, 4, 5, 6, 7, 8, 9, 10, 11, 12, 13, 14, 15, 16, 17, 18, 19, 20]⟩])
        (.ret)))))))
def pr6 : List PR := [.t 2]
theorem bd6 : Tryd.f6.body = some (Tryd.f6.body.getD .skip) := by kernel_rfl
theorem cp6 : compC Tryd.prog Tryd.f6.ntmps eqsL (Tryd.f6.body.getD .skip) = some pc6 := by kernel_rfl
theorem sp6 [WInv] {env : Env} (hE : EnvOK Tryd.prog env) {R : List Pa → List Pa → Prop} (hR : ∀ ps rs, R ps rs → ps.length ≤ 51 ∧ pwp env pc6 (fun e s => (e = .normal ∨ e = .ret) ∧ s.res pr6 = some rs) (St.init ps)) : Spec Tryd.prog 6 R :=
  fn_sound hE eqsOK mixedOK Tryd.func6 bd6 cp6 (by kernel_rfl) (by kernel_rfl) hR

/-! interleave/interleavelaw20.EventConflict -/
def pc7 : PC :=
 .seq (.reg false [⟨(some 2), .box (.t 0), none, []⟩,
       ⟨(some 3), .box (.t 1), none, []⟩,
       ⟨(some 4), .mv (.v (.bool false)), none, []⟩])
  (.seq (.seq (.reg false [⟨(some 6), .call 10 [], none, []⟩,
         ⟨(some 7), .un .not (.t 6), none, [0]⟩])
    (.cond (.t 7)
      (.seq (.reg false [⟨(some 4), .mv (.v (.bool false)), none, []⟩])
       (.ret))
      (.skip)))
   (.seq (.reg false [⟨(some 8), .load (some 9) (.t 2), none, []⟩,
         ⟨(some 9), .load (some 9) (.t 3), none, []⟩,
         ⟨(some 10), .call 17 [(.t 8), (.t 9)], none, [0, 1]⟩,
         ⟨(some 5), .mv (.t 10), none, [2, 2, 0, 1, 2]⟩])
    (.seq (.reg false [⟨(some 11), .load (some 9) (.t 2), none, []⟩,
          ⟨(some 12), .load (some 9) (.t 3), none, []⟩,
          ⟨(some 13), .call 18 [(.t 11), (.t 12)], none, [0, 1]⟩,
          ⟨(some 14), .mv (.t 5), none, []⟩,
          ⟨(some 15), .eqb false (.t 13) (.t 14), none, [2, 3]⟩,
          ⟨(some 16), .mv (.t 15), none, [4, 2]⟩,
          ⟨(some 17), .load (some 9) (.t 3), (some (16, true)), [5]⟩,
          ⟨(some 18), .load (some 9) (.t 2), (some (16, true)), [5]⟩,
          ⟨(some 19), .call 18 [(.t 17), (.t 18)], (some (16, true)), [6, 7, 5, 5]⟩,
          ⟨(some 20), .mv (.t 5), (some (16, true)), [5]⟩,
          ⟨(some 21), .eqb false (.t 19) (.t 20), (some (16, true)), [8, 9, 5]⟩,
          ⟨(some 22), .pick (.t 16) (.t 21) (.v (.bool false)), none, [5, 10]⟩,
          ⟨(some 23), .mv (.t 22), none, [11, 8]⟩,
          ⟨(some 24), .load (some 9) (.t 2), (some (23, true)), [12]⟩,
          ⟨(some 25), .load (some 9) (.t 2), (some (23, true)), [12]⟩,
          ⟨(some 26), .call 18 [(.t 24), (.t 25)], (some (23, true)), [13, 14, 12, 12]⟩,
          ⟨(some 27), .un .not (.t 26), (some (23, true)), [15, 12]⟩,
          ⟨(some 28), .pick (.t 23) (.t 27) (.v (.bool false)), none, [12, 16]⟩,
          ⟨(some 4), .mv (.t 28), none, [17, 15, 0, 1, 2, 3, 4, 5, 6, 7, 8, 9, 10, 11, 12, 13, 14, 15, 16, 17]⟩])
     (.ret))))
def pr7 : List PR := [.t 4]
theorem bd7 : Tryd.f7.body = some (Tryd.f7.body.getD .skip) := by kernel_rfl
theorem cp7 : compC Tryd.prog Tryd.f7.ntmps eqsL (Tryd.f7.body.getD .skip) = some pc7 := by kernel_rfl
theorem sp7 [WInv] {env : Env} (hE : EnvOK Tryd.prog env) {R : List Pa → List Pa → Prop} (hR : ∀ ps rs, R ps rs → ps.length ≤ 29 ∧ pwp env pc7 (fun e s => (e = .normal ∨ e = .ret) ∧ s.res pr7 = some rs) (St.init ps)) : Spec Tryd.prog 7 R :=
  fn_sound hE eqsOK mixedOK Tryd.func7 bd7 cp7 (by kernel_rfl) (by kernel_rfl) hR

/-! interleave/interleavelaw20.EventKinds -/
def pc8 : PC :=
 .seq (.reg false [⟨(some 2), .mv (.v (.bool false)), none, []⟩])
  (.seq (.seq (.reg false [⟨(some 3), .call 10 [], none, []⟩,
         ⟨(some 4), .un .not (.t 3), none, [0]⟩])
    (.cond (.t 4)
      (.seq (.reg false [⟨(some 2), .mv (.v (.bool false)), none, []⟩])
       (.ret))
      (.skip)))
   (.seq (.seq (.reg false [⟨(some 5), .mv (.t 0), none, []⟩,
          ⟨(some 6), .call 19 [(.t 5)], none, [0]⟩,
          ⟨(some 7), .mv (.t 0), none, []⟩,
          ⟨(some 8), .call 20 [(.t 7)], none, [2, 1]⟩,
          ⟨(some 9), .eqb true (.t 6) (.t 8), none, [1, 3]⟩,
          ⟨(some 10), .mv (.t 9), none, [4, 3]⟩,
          ⟨(some 11), .mv (.t 0), (some (10, false)), [5]⟩,
          ⟨(some 12), .call 21 [(.t 11)], (some (10, false)), [6, 5, 5]⟩,
          ⟨(some 13), .mv (.t 0), (some (10, false)), [5]⟩,
          ⟨(some 14), .call 22 [(.t 13)], (some (10, false)), [8, 7, 5]⟩,
          ⟨(some 15), .eqb true (.t 12) (.t 14), (some (10, false)), [7, 9, 5]⟩,
          ⟨(some 16), .pick (.t 10) (.v (.bool true)) (.t 15), none, [5, 10]⟩])
     (.cond (.t 16)
       (.seq (.reg false [⟨(some 2), .mv (.v (.bool false)), none, []⟩])
        (.ret))
       (.skip)))
    (.seq (.reg false [⟨(some 17), .mv (.t 0), none, []⟩,
          ⟨(some 18), .call 23 [(.t 17)], none, [0]⟩,
          ⟨(some 19), .mv (.t 0), none, []⟩,
          ⟨(some 20), .call 24 [(.t 19)], none, [2, 1]⟩,
          ⟨(some 21), .eqb false (.t 18) (.t 20), none, [1, 3]⟩,
          ⟨(some 22), .mv (.t 21), none, [4, 3]⟩,
          ⟨(some 23), .mv (.t 0), (some (22, true)), [5]⟩,
          ⟨(some 24), .call 25 [(.t 23)], (some (22, true)), [6, 5, 5]⟩,
          ⟨(some 25), .mv (.t 0), (some (22, true)), [5]⟩,
          ⟨(some 26), .call 26 [(.t 25)], (some (22, true)), [8, 7, 5]⟩,
          ⟨(some 27), .eqb false (.t 24) (.t 26), (some (22, true)), [7, 9, 5]⟩,
          ⟨(some 28), .pick (.t 22) (.t 27) (.v (.bool false)), none, [5, 10]⟩,
          ⟨(some 2), .mv (.t 28), none, [11, 9, 0, 1, 2, 3, 4, 5, 6, 7, 8, 9, 10, 11]⟩])
     (.ret))))
def pr8 : List PR := [.t 2]
theorem bd8 : Tryd.f8.body = some (Tryd.f8.body.getD .skip) := by kernel_rfl
theorem cp8 : compC Tryd.prog Tryd.f8.ntmps eqsL (Tryd.f8.body.getD .skip) = some pc8 := by kernel_rfl
theorem sp8 [WInv] {env : Env} (hE : EnvOK Tryd.prog env) {R : List Pa → List Pa → Prop} (hR : ∀ ps rs, R ps rs → ps.length ≤ 29 ∧ pwp env pc8 (fun e s => (e = .normal ∨ e = .ret) ∧ s.res pr8 = some rs) (St.init ps)) : Spec Tryd.prog 8 R :=
  fn_sound hE eqsOK mixedOK Tryd.func8 bd8 cp8 (by kernel_rfl) (by kernel_rfl) hR

/-! interleave/interleavelaw20.EventMemoryApart -/
def pc9 : PC :=
 .seq (.reg false [⟨(some 2), .mv (.v (.bool false)), none, []⟩])
  (.seq (.seq (.reg false [⟨(some 4), .call 10 [], none, []⟩,
         ⟨(some 5), .un .not (.t 4), none, [0]⟩])
    (.cond (.t 5)
      (.seq (.reg false [⟨(some 2), .mv (.v (.bool false)), none, []⟩])
       (.ret))
      (.skip)))
   (.seq (.reg false [⟨(some 6), .mv (.t 0), none, []⟩,
         ⟨(some 7), .call 23 [(.t 6)], none, [0]⟩,
         ⟨(some 8), .mv (.t 7), none, [1, 1]⟩,
         ⟨(some 9), .mv (.t 0), (some (8, false)), [2]⟩,
         ⟨(some 10), .call 25 [(.t 9)], (some (8, false)), [3, 2, 2]⟩,
         ⟨(some 11), .pick (.t 8) (.v (.bool true)) (.t 10), none, [2, 4]⟩,
         ⟨(some 3), .mv (.t 11), none, [5, 4, 0, 1, 2, 3, 4, 5]⟩])
    (.seq (.seq (.reg false [⟨(some 12), .mv (.t 0), none, []⟩,
           ⟨(some 13), .call 19 [(.t 12)], none, [0]⟩,
           ⟨(some 14), .mv (.t 13), none, [1, 1]⟩,
           ⟨(some 15), .mv (.t 3), (some (14, true)), [2]⟩,
           ⟨(some 16), .mv (.t 15), (some (14, true)), [3, 2, 2]⟩,
           ⟨(some 17), .mv (.t 0), (some (16, false)), [4]⟩,
           ⟨(some 18), .call 21 [(.t 17)], (some (16, false)), [5, 4, 4]⟩,
           ⟨(some 19), .pick (.t 16) (.v (.bool true)) (.t 18), (some (14, true)), [4, 6, 2]⟩,
           ⟨(some 20), .pick (.t 14) (.t 19) (.v (.bool false)), none, [2, 7]⟩])
      (.cond (.t 20)
        (.seq (.reg false [⟨(some 2), .mv (.v (.bool false)), none, []⟩])
         (.ret))
        (.skip)))
     (.seq (.reg false [⟨(some 21), .mv (.t 3), none, []⟩,
           ⟨(some 22), .mv (.t 21), none, [0]⟩,
           ⟨(some 23), .mv (.t 0), (some (22, false)), [1]⟩,
           ⟨(some 24), .call 19 [(.t 23)], (some (22, false)), [2, 1, 1]⟩,
           ⟨(some 25), .pick (.t 22) (.v (.bool true)) (.t 24), none, [1, 3]⟩,
           ⟨(some 26), .mv (.t 0), none, []⟩,
           ⟨(some 27), .bin .geq (.t 26) (.v (.int .i64 1)), none, [5]⟩,
           ⟨(some 28), .mv (.t 27), none, [6, 3]⟩,
           ⟨(some 29), .mv (.t 0), (some (28, true)), [7]⟩,
           ⟨(some 30), .bin .leq (.t 29) (.v (.int .i64 20)), (some (28, true)), [8, 7]⟩,
           ⟨(some 31), .pick (.t 28) (.t 30) (.v (.bool false)), none, [7, 9]⟩,
           ⟨(some 32), .eqb false (.t 25) (.t 31), none, [4, 10]⟩,
           ⟨(some 2), .mv (.t 32), none, [11, 7, 0, 1, 2, 3, 4, 5, 6, 7, 8, 9, 10, 11]⟩])
      (.ret)))))
def pr9 : List PR := [.t 2]
theorem bd9 : Tryd.f9.body = some (Tryd.f9.body.getD .skip) := by kernel_rfl
theorem cp9 : compC Tryd.prog Tryd.f9.ntmps eqsL (Tryd.f9.body.getD .skip) = some pc9 := by kernel_rfl
theorem sp9 [WInv] {env : Env} (hE : EnvOK Tryd.prog env) {R : List Pa → List Pa → Prop} (hR : ∀ ps rs, R ps rs → ps.length ≤ 33 ∧ pwp env pc9 (fun e s => (e = .normal ∨ e = .ret) ∧ s.res pr9 = some rs) (St.init ps)) : Spec Tryd.prog 9 R :=
  fn_sound hE eqsOK mixedOK Tryd.func9 bd9 cp9 (by kernel_rfl) (by kernel_rfl) hR

/-! interleave/interleavelaw20.awake -/
def pc10 : PC :=
 .seq (.reg false [⟨(some 0), .mv (.v (.bool false)), none, []⟩])
  (.seq (.reg false [⟨(some 7), .build [(.int .i64 0), (.int .i64 0), (.int .i64 0), (.int .i64 0), (.int .i64 0), (.int .i64 0), (.int .i64 0), (.int .i64 0), (.int .i64 0)] [(0, 1, (.v (.int .i64 2))), (1, 1, (.v (.int .i64 2))), (2, 1, (.v (.int .i64 17))), (3, 1, (.v (.int .i64 3))), (6, 1, (.v (.int .i64 4))), (7, 1, (.v (.int .i64 12))), (8, 1, (.v (.int .i64 5)))], none, []⟩,
        ⟨(some 1), .new [(.int .i64 0), (.int .i64 0), (.int .i64 0), (.int .i64 0), (.int .i64 0), (.int .i64 0), (.int .i64 0), (.int .i64 0), (.int .i64 0)], none, []⟩,
        ⟨none, .store 9 (.t 1) (.t 7), none, [1, 0, 0, 1]⟩])
   (.seq (.reg false [⟨(some 8), .build [(.int .i64 0), (.int .i64 0), (.int .i64 0), (.int .i64 0), (.int .i64 0), (.int .i64 0), (.int .i64 0), (.int .i64 0), (.int .i64 0)] [(0, 1, (.v (.int .i64 1))), (1, 1, (.v (.int .i64 15))), (2, 1, (.v (.int .i64 9))), (4, 1, (.v (.int .i64 3))), (5, 1, (.v (.int .i64 2))), (6, 1, (.v (.int .i64 4))), (7, 1, (.v (.int .i64 12))), (8, 1, (.v (.int .i64 5)))], none, []⟩,
         ⟨(some 2), .new [(.int .i64 0), (.int .i64 0), (.int .i64 0), (.int .i64 0), (.int .i64 0), (.int .i64 0), (.int .i64 0), (.int .i64 0), (.int .i64 0)], none, []⟩,
         ⟨none, .store 9 (.t 2) (.t 8), none, [1, 0, 0, 1]⟩])
    (.seq (.reg false [⟨(some 10), .call 15 [(.v (.string ⟨#[103, 49, 32, 115, 101, 110, 100, 45, 115, 116, 97, 114, 116, 32, 57, 32, 51, 47, 50, 32, 64, 52, 58, 49, 50, 32, 35, 53]⟩))], none, []⟩,
          ⟨(some 9), .mv (.t 10), none, [0]⟩,
          ⟨(some 11), .ext (.t 9) 0, none, [1]⟩,
          ⟨(some 12), .ext (.t 9) 1, none, [1]⟩,
          ⟨(some 3), .new [(.int .i64 0), (.int .i64 0), (.int .i64 0), (.int .i64 0), (.int .i64 0), (.int .i64 0), (.int .i64 0), (.int .i64 0), (.int .i64 0)], none, []⟩,
          ⟨none, .store 9 (.t 3) (.t 11), none, [4, 2, 0, 0, 1, 2, 4]⟩,
          ⟨(some 4), .mv (.t 12), none, [3, 5, 0, 1, 2, 3, 4, 5]⟩])
     (.seq (.reg false [⟨(some 14), .call 15 [(.v (.string ⟨#[103, 48, 49, 32, 114, 101, 97, 100, 32, 49, 46, 48, 32, 64, 48, 58, 48, 32, 35, 48]⟩))], none, []⟩,
           ⟨(some 13), .mv (.t 14), none, [0]⟩,
           ⟨(some 15), .ext (.t 13) 0, none, [1]⟩,
           ⟨(some 16), .ext (.t 13) 1, none, [1]⟩,
           ⟨(some 5), .new [(.int .i64 0), (.int .i64 0), (.int .i64 0), (.int .i64 0), (.int .i64 0), (.int .i64 0), (.int .i64 0), (.int .i64 0), (.int .i64 0)], none, []⟩,
           ⟨none, .store 9 (.t 5) (.t 15), none, [4, 2, 0, 0, 1, 2, 4]⟩,
           ⟨(some 6), .mv (.t 16), none, [3, 5, 0, 1, 2, 3, 4, 5]⟩])
      (.seq (.reg false [⟨(some 17), .load (some 9) (.t 1), none, []⟩,
            ⟨(some 18), .call 13 [(.t 17)], none, [0]⟩,
            ⟨(some 19), .bin .eql (.t 18) (.v (.string ⟨#[103, 50, 32, 119, 114, 105, 116, 101, 32, 49, 55, 46, 51, 32, 64, 52, 58, 49, 50, 32, 35, 53]⟩)), none, [1]⟩,
            ⟨(some 20), .mv (.t 19), none, [2, 1]⟩,
            ⟨(some 21), .mv (.t 4), (some (20, true)), [3]⟩,
            ⟨(some 22), .bin .eql (.t 21) (.v (.int .i64 0)), (some (20, true)), [4, 3]⟩,
            ⟨(some 23), .pick (.t 20) (.t 22) (.v (.bool false)), none, [3, 5]⟩,
            ⟨(some 24), .mv (.t 23), none, [6, 3]⟩,
            ⟨(some 25), .load (some 9) (.t 3), (some (24, true)), [7]⟩,
            ⟨(some 26), .load (some 9) (.t 2), (some (24, true)), [7]⟩,
            ⟨(some 27), .eqs false [false, false, false, false, false, false, false, false, false] (.t 25) (.t 26), (some (24, true)), [8, 9, 7]⟩,
            ⟨(some 28), .pick (.t 24) (.t 27) (.v (.bool false)), none, [7, 10]⟩,
            ⟨(some 29), .mv (.t 28), none, [11, 7]⟩,
            ⟨(some 30), .mv (.t 6), (some (29, true)), [12]⟩,
            ⟨(some 31), .bin .eql (.t 30) (.v (.int .i64 8)), (some (29, true)), [13, 12]⟩,
            ⟨(some 32), .pick (.t 29) (.t 31) (.v (.bool false)), none, [12, 14]⟩,
            ⟨(some 33), .mv (.t 32), none, [15, 12]⟩,
            ⟨(some 34), .call 19 [(.v (.int .i64 1))], (some (33, true)), [16, 16]⟩,
            ⟨(some 35), .pick (.t 33) (.t 34) (.v (.bool false)), none, [16, 17]⟩,
            ⟨(some 36), .mv (.t 35), none, [18, 17]⟩,
            ⟨(some 37), .call 25 [(.v (.int .i64 14))], (some (36, true)), [19, 19]⟩,
            ⟨(some 38), .pick (.t 36) (.t 37) (.v (.bool false)), none, [19, 20]⟩,
            ⟨(some 0), .mv (.t 38), none, [21, 20, 0, 1, 2, 3, 4, 5, 6, 7, 8, 9, 10, 11, 12, 13, 14, 15, 16, 17, 18, 19, 20, 21]⟩])
       (.ret))))))
def pr10 : List PR := [.t 0]
theorem bd10 : Tryd.f10.body = some (Tryd.f10.body.getD .skip) := by kernel_rfl
theorem cp10 : compC Tryd.prog Tryd.f10.ntmps eqsL (Tryd.f10.body.getD .skip) = some pc10 := by kernel_rfl
theorem sp10 [WInv] {env : Env} (hE : EnvOK Tryd.prog env) {R : List Pa → List Pa → Prop} (hR : ∀ ps rs, R ps rs → ps.length ≤ 39 ∧ pwp env pc10 (fun e s => (e = .normal ∨ e = .ret) ∧ s.res pr10 = some rs) (St.init ps)) : Spec Tryd.prog 10 R :=
  fn_sound hE eqsOK mixedOK Tryd.func10 bd10 cp10 (by kernel_rfl) (by kernel_rfl) hR

/-! interleave/event.Valid -/
def pc11 : PC :=
 .seq (.reg false [⟨(some 1), .box (.t 0), none, []⟩,
       ⟨(some 2), .mv (.v (.bool false)), none, []⟩])
  (.seq (.seq (.reg false [⟨(some 5), .fld 1 (.t 1), none, []⟩,
         ⟨(some 6), .load none (.t 5), none, [0]⟩,
         ⟨(some 7), .call 27 [(.t 6)], none, [1]⟩,
         ⟨(some 8), .un .not (.t 7), none, [2]⟩,
         ⟨(some 9), .mv (.t 8), none, [3, 2]⟩,
         ⟨(some 10), .fld 0 (.t 1), (some (9, false)), [4]⟩,
         ⟨(some 11), .load none (.t 10), (some (9, false)), [5, 4]⟩,
         ⟨(some 12), .bin .lss (.t 11) (.v (.int .i64 0)), (some (9, false)), [6, 4]⟩,
         ⟨(some 13), .pick (.t 9) (.v (.bool true)) (.t 12), none, [4, 7]⟩,
         ⟨(some 14), .mv (.t 13), none, [8, 4]⟩,
         ⟨(some 15), .fld 0 (.t 1), (some (14, false)), [9]⟩,
         ⟨(some 16), .load none (.t 15), (some (14, false)), [10, 9]⟩,
         ⟨(some 17), .bin .geq (.t 16) (.v (.int .i64 8)), (some (14, false)), [11, 9]⟩,
         ⟨(some 18), .pick (.t 14) (.v (.bool true)) (.t 17), none, [9, 12]⟩])
    (.cond (.t 18)
      (.seq (.reg false [⟨(some 2), .mv (.v (.bool false)), none, []⟩])
       (.ret))
      (.skip)))
   (.seq (.seq (.reg false [⟨(some 19), .fld 2 (.t 1), none, []⟩,
          ⟨(some 20), .load none (.t 19), none, [0]⟩,
          ⟨(some 21), .fld 3 (.t 1), none, []⟩,
          ⟨(some 22), .load none (.t 21), none, [2]⟩,
          ⟨(some 23), .fld 4 (.t 1), none, []⟩,
          ⟨(some 24), .load none (.t 23), none, [4]⟩,
          ⟨(some 25), .fld 5 (.t 1), none, []⟩,
          ⟨(some 26), .load none (.t 25), none, [6]⟩,
          ⟨(some 27), .fld 6 (.t 1), none, []⟩,
          ⟨(some 28), .load none (.t 27), none, [8]⟩,
          ⟨(some 29), .fld 7 (.t 1), none, []⟩,
          ⟨(some 30), .load none (.t 29), none, [10]⟩,
          ⟨(some 31), .fld 8 (.t 1), none, []⟩,
          ⟨(some 32), .load none (.t 31), none, [12]⟩,
          ⟨(some 33), .build [(.int .i64 0), (.int .i64 0), (.int .i64 0), (.int .i64 0), (.int .i64 0), (.int .i64 0), (.int .i64 0)] [(0, 1, (.t 20)), (1, 1, (.t 22)), (2, 1, (.t 24)), (3, 1, (.t 26)), (4, 1, (.t 28)), (5, 1, (.t 30)), (6, 1, (.t 32))], none, [1, 3, 5, 7, 9, 11, 13]⟩,
          ⟨(some 34), .mv (.v (.int .i64 0)), none, []⟩])
     (.block 0 (.loop (.seq (.reg false [⟨(some 35), .bin .lss (.t 34) (.v (.int .i64 7)), none, []⟩])
        (.seq (.cond (.t 35)
           (.skip)
           (.exit 0))
         (.seq (.block 1 (.seq (.reg false [⟨(some 36), .ixv 7 1 none (.t 33) (.t 34), none, []⟩,
                 ⟨(some 4), .mv (.t 36), none, [0, 0]⟩])
            (.seq (.reg false [⟨(some 37), .mv (.t 4), none, []⟩,
                  ⟨(some 38), .bin .lss (.t 37) (.v (.int .i64 0)), none, [0]⟩,
                  ⟨(some 39), .mv (.t 38), none, [1]⟩,
                  ⟨(some 40), .mv (.t 4), (some (39, false)), [2]⟩,
                  ⟨(some 41), .bin .gtr (.t 40) (.v (.int .i64 2147483647)), (some (39, false)), [3, 2]⟩,
                  ⟨(some 42), .pick (.t 39) (.v (.bool true)) (.t 41), none, [2, 4]⟩])
             (.cond (.t 42)
               (.seq (.reg false [⟨(some 2), .mv (.v (.bool false)), none, []⟩])
                (.ret))
               (.skip)))))
          (.reg false [⟨(some 43), .bin .add (.t 34) (.v (.int .i64 1)), none, []⟩,
               ⟨(some 34), .mv (.t 43), none, [0]⟩])))))))
    (.seq (.block 2 (.seq (.reg false [⟨(some 45), .fld 1 (.t 1), none, []⟩,
            ⟨(some 46), .load none (.t 45), none, [0]⟩,
            ⟨(some 47), .bin .eql (.t 46) (.v (.int .i64 14)), none, [1]⟩,
            ⟨(some 44), .mv (.t 47), none, [2]⟩])
       (.cond (.t 44)
         (.seq (.reg false [⟨(some 48), .fld 2 (.t 1), none, []⟩,
               ⟨(some 49), .load none (.t 48), none, [0]⟩,
               ⟨(some 50), .bin .eql (.t 49) (.v (.int .i64 0)), none, [1]⟩,
               ⟨(some 51), .mv (.t 50), none, [2]⟩,
               ⟨(some 52), .fld 3 (.t 1), (some (51, true)), [3]⟩,
               ⟨(some 53), .load none (.t 52), (some (51, true)), [4, 3]⟩,
               ⟨(some 54), .bin .eql (.t 53) (.v (.int .i64 0)), (some (51, true)), [5, 3]⟩,
               ⟨(some 55), .pick (.t 51) (.t 54) (.v (.bool false)), none, [3, 6]⟩,
               ⟨(some 56), .mv (.t 55), none, [7, 3]⟩,
               ⟨(some 57), .fld 5 (.t 1), (some (56, true)), [8]⟩,
               ⟨(some 58), .load none (.t 57), (some (56, true)), [9, 8]⟩,
               ⟨(some 59), .bin .eql (.t 58) (.v (.int .i64 0)), (some (56, true)), [10, 8]⟩,
               ⟨(some 60), .pick (.t 56) (.t 59) (.v (.bool false)), none, [8, 11]⟩,
               ⟨(some 61), .mv (.t 60), none, [12, 8]⟩,
               ⟨(some 62), .fld 4 (.t 1), (some (61, true)), [13]⟩,
               ⟨(some 63), .load none (.t 62), (some (61, true)), [14, 13]⟩,
               ⟨(some 64), .bin .geq (.t 63) (.v (.int .i64 1)), (some (61, true)), [15, 13]⟩,
               ⟨(some 65), .pick (.t 61) (.t 64) (.v (.bool false)), none, [13, 16]⟩,
               ⟨(some 66), .mv (.t 65), none, [17, 13]⟩,
               ⟨(some 67), .fld 4 (.t 1), (some (66, true)), [18]⟩,
               ⟨(some 68), .load none (.t 67), (some (66, true)), [19, 18]⟩,
               ⟨(some 69), .bin .lss (.t 68) (.v (.int .i64 8)), (some (66, true)), [20, 18]⟩,
               ⟨(some 70), .pick (.t 66) (.t 69) (.v (.bool false)), none, [18, 21]⟩,
               ⟨(some 2), .mv (.t 70), none, [22, 18, 0, 1, 2, 3, 4, 5, 6, 7, 8, 9, 10, 11, 12, 13, 14, 15, 16, 17, 18, 19, 20, 21, 22]⟩])
          (.ret))
         (.seq (.reg false [⟨(some 72), .fld 1 (.t 1), none, []⟩,
               ⟨(some 73), .load none (.t 72), none, [0]⟩,
               ⟨(some 74), .call 21 [(.t 73)], none, [1]⟩,
               ⟨(some 71), .mv (.t 74), none, [2, 2]⟩])
          (.cond (.t 71)
            (.seq (.reg false [⟨(some 75), .fld 3 (.t 1), none, []⟩,
                  ⟨(some 76), .load none (.t 75), none, [0]⟩,
                  ⟨(some 77), .bin .eql (.t 76) (.v (.int .i64 0)), none, [1]⟩,
                  ⟨(some 78), .mv (.t 77), none, [2]⟩,
                  ⟨(some 79), .fld 5 (.t 1), (some (78, true)), [3]⟩,
                  ⟨(some 80), .load none (.t 79), (some (78, true)), [4, 3]⟩,
                  ⟨(some 81), .bin .leq (.t 80) (.v (.int .i64 64)), (some (78, true)), [5, 3]⟩,
                  ⟨(some 82), .pick (.t 78) (.t 81) (.v (.bool false)), none, [3, 6]⟩,
                  ⟨(some 83), .mv (.t 82), none, [7, 3]⟩,
                  ⟨(some 84), .fld 4 (.t 1), (some (83, true)), [8]⟩,
                  ⟨(some 85), .load none (.t 84), (some (83, true)), [9, 8]⟩,
                  ⟨(some 86), .bin .eql (.t 85) (.v (.int .i64 0)), (some (83, true)), [10, 8]⟩,
                  ⟨(some 87), .mv (.t 86), (some (83, true)), [11, 8, 8]⟩,
                  ⟨(some 88), .fld 1 (.t 1), (some (87, false)), [12]⟩,
                  ⟨(some 89), .load none (.t 88), (some (87, false)), [13, 12]⟩,
                  ⟨(some 90), .call 28 [(.t 89)], (some (87, false)), [14, 12, 12]⟩,
                  ⟨(some 91), .pick (.t 87) (.v (.bool true)) (.t 90), (some (83, true)), [12, 15, 8]⟩,
                  ⟨(some 92), .pick (.t 83) (.t 91) (.v (.bool false)), none, [8, 16]⟩,
                  ⟨(some 2), .mv (.t 92), none, [17, 15, 0, 1, 2, 3, 4, 5, 6, 7, 8, 9, 10, 11, 12, 13, 14, 15, 16, 17]⟩])
             (.ret))
            (.skip))))))
     (.seq (.reg false [⟨(some 93), .fld 4 (.t 1), none, []⟩,
           ⟨(some 94), .load none (.t 93), none, [0]⟩,
           ⟨(some 95), .bin .eql (.t 94) (.v (.int .i64 0)), none, [1]⟩,
           ⟨(some 96), .mv (.t 95), none, [2]⟩,
           ⟨(some 97), .fld 5 (.t 1), (some (96, true)), [3]⟩,
           ⟨(some 98), .load none (.t 97), (some (96, true)), [4, 3]⟩,
           ⟨(some 99), .bin .eql (.t 98) (.v (.int .i64 0)), (some (96, true)), [5, 3]⟩,
           ⟨(some 100), .pick (.t 96) (.t 99) (.v (.bool false)), none, [3, 6]⟩,
           ⟨(some 2), .mv (.t 100), none, [7, 3, 0, 1, 2, 3, 4, 5, 6, 7]⟩])
      (.ret)))))
def pr11 : List PR := [.t 2]
abbrev ms11_0 : List Nat := [35, 36, 4, 37, 38, 39, 40, 41, 42, 2, 43, 34]
abbrev os11_0 : List Nat := []
theorem bd11 : Tryd.f11.body = some (Tryd.f11.body.getD .skip) := by kernel_rfl
theorem cp11 : compC Tryd.prog Tryd.f11.ntmps eqsL (Tryd.f11.body.getD .skip) = some pc11 := by kernel_rfl
theorem sp11 [WInv] {env : Env} (hE : EnvOK Tryd.prog env) {R : List Pa → List Pa → Prop} (hR : ∀ ps rs, R ps rs → ps.length ≤ 101 ∧ pwp env pc11 (fun e s => (e = .normal ∨ e = .ret) ∧ s.res pr11 = some rs) (St.init ps)) : Spec Tryd.prog 11 R :=
  fn_sound hE eqsOK mixedOK Tryd.func11 bd11 cp11 (by kernel_rfl) (by kernel_rfl) hR

/-! interleave/interleaveref20.Valid -/
def pc12c0 : PC :=
 .seq (.reg false [⟨(some 108), .fld 4 (.t 1), none, []⟩,
            ⟨(some 109), .load none (.t 108), none, [0]⟩,
            ⟨(some 110), .bin .eql (.t 109) (.v (.int .i64 0)), none, [1]⟩,
            ⟨(some 111), .mv (.t 110), none, [2]⟩,
            ⟨(some 112), .fld 5 (.t 1), (some (111, true)), [3]⟩,
            ⟨(some 113), .load none (.t 112), (some (111, true)), [4, 3]⟩,
            ⟨(some 114), .bin .eql (.t 113) (.v (.int .i64 0)), (some (111, true)), [5, 3]⟩,
            ⟨(some 115), .pick (.t 111) (.t 114) (.v (.bool false)), none, [3, 6]⟩,
            ⟨(some 2), .mv (.t 115), none, [7, 3, 0, 1, 2, 3, 4, 5, 6, 7]⟩])
       (.ret)
def pc12c1 : PC :=
 .seq (.reg false [⟨(some 56), .fld 2 (.t 1), none, []⟩,
                 ⟨(some 57), .load none (.t 56), none, [0]⟩,
                 ⟨(some 58), .bin .eql (.t 57) (.v (.int .i64 0)), none, [1]⟩,
                 ⟨(some 59), .mv (.t 58), none, [2]⟩,
                 ⟨(some 60), .fld 3 (.t 1), (some (59, true)), [3]⟩,
                 ⟨(some 61), .load none (.t 60), (some (59, true)), [4, 3]⟩,
                 ⟨(some 62), .bin .eql (.t 61) (.v (.int .i64 0)), (some (59, true)), [5, 3]⟩,
                 ⟨(some 63), .pick (.t 59) (.t 62) (.v (.bool false)), none, [3, 6]⟩,
                 ⟨(some 64), .mv (.t 63), none, [7, 3]⟩,
                 ⟨(some 65), .fld 5 (.t 1), (some (64, true)), [8]⟩,
                 ⟨(some 66), .load none (.t 65), (some (64, true)), [9, 8]⟩,
                 ⟨(some 67), .bin .eql (.t 66) (.v (.int .i64 0)), (some (64, true)), [10, 8]⟩,
                 ⟨(some 68), .pick (.t 64) (.t 67) (.v (.bool false)), none, [8, 11]⟩,
                 ⟨(some 69), .mv (.t 68), none, [12, 8]⟩,
                 ⟨(some 70), .fld 4 (.t 1), (some (69, true)), [13]⟩,
                 ⟨(some 71), .load none (.t 70), (some (69, true)), [14, 13]⟩,
                 ⟨(some 72), .bin .gtr (.t 71) (.v (.int .i64 0)), (some (69, true)), [15, 13]⟩,
                 ⟨(some 73), .pick (.t 69) (.t 72) (.v (.bool false)), none, [13, 16]⟩,
                 ⟨(some 74), .mv (.t 73), none, [17, 13]⟩,
                 ⟨(some 75), .fld 4 (.t 1), (some (74, true)), [18]⟩,
                 ⟨(some 76), .load none (.t 75), (some (74, true)), [19, 18]⟩,
                 ⟨(some 77), .bin .lss (.t 76) (.v (.int .i64 8)), (some (74, true)), [20, 18]⟩,
                 ⟨(some 78), .pick (.t 74) (.t 77) (.v (.bool false)), none, [18, 21]⟩,
                 ⟨(some 2), .mv (.t 78), none, [22, 18, 0, 1, 2, 3, 4, 5, 6, 7, 8, 9, 10, 11, 12, 13, 14, 15, 16, 17, 18, 19, 20, 21, 22]⟩])
            (.ret)
def pc12c2 : PC :=
 .seq (.reg false [⟨(some 84), .fld 3 (.t 1), none, []⟩,
                    ⟨(some 85), .load none (.t 84), none, [0]⟩,
                    ⟨(some 86), .bin .eql (.t 85) (.v (.int .i64 0)), none, [1]⟩,
                    ⟨(some 87), .mv (.t 86), none, [2]⟩,
                    ⟨(some 88), .fld 5 (.t 1), (some (87, true)), [3]⟩,
                    ⟨(some 89), .load none (.t 88), (some (87, true)), [4, 3]⟩,
                    ⟨(some 90), .bin .leq (.t 89) (.v (.int .i64 64)), (some (87, true)), [5, 3]⟩,
                    ⟨(some 91), .pick (.t 87) (.t 90) (.v (.bool false)), none, [3, 6]⟩,
                    ⟨(some 2), .mv (.t 91), none, [7, 3, 0, 1, 2, 3, 4, 5, 6, 7]⟩])
               (.ret)
def pc12c3 : PC :=
 .seq (.reg false [⟨(some 95), .fld 3 (.t 1), none, []⟩,
                       ⟨(some 96), .load none (.t 95), none, [0]⟩,
                       ⟨(some 97), .bin .eql (.t 96) (.v (.int .i64 0)), none, [1]⟩,
                       ⟨(some 98), .mv (.t 97), none, [2]⟩,
                       ⟨(some 99), .fld 4 (.t 1), (some (98, true)), [3]⟩,
                       ⟨(some 100), .load none (.t 99), (some (98, true)), [4, 3]⟩,
                       ⟨(some 101), .bin .eql (.t 100) (.v (.int .i64 0)), (some (98, true)), [5, 3]⟩,
                       ⟨(some 102), .pick (.t 98) (.t 101) (.v (.bool false)), none, [3, 6]⟩,
                       ⟨(some 103), .mv (.t 102), none, [7, 3]⟩,
                       ⟨(some 104), .fld 5 (.t 1), (some (103, true)), [8]⟩,
                       ⟨(some 105), .load none (.t 104), (some (103, true)), [9, 8]⟩,
                       ⟨(some 106), .bin .leq (.t 105) (.v (.int .i64 64)), (some (103, true)), [10, 8]⟩,
                       ⟨(some 107), .pick (.t 103) (.t 106) (.v (.bool false)), none, [8, 11]⟩,
                       ⟨(some 2), .mv (.t 107), none, [12, 8, 0, 1, 2, 3, 4, 5, 6, 7, 8, 9, 10, 11, 12]⟩])
                  (.ret)
def pc12c4 : PC :=
 .seq (.seq (.reg false [⟨(some 93), .bin .eql (.t 53) (.v (.int .i64 19)), none, []⟩,
                     ⟨(some 92), .mv (.t 93), none, [0]⟩])
                (.cond (.t 92)
                  (.skip)
                  (.reg false [⟨(some 94), .bin .eql (.t 53) (.v (.int .i64 20)), none, []⟩,
                       ⟨(some 92), .mv (.t 94), none, [0]⟩])))
               (.cond (.t 92)
                 (pc12c3)
                 (.skip))
def pc12c5 : PC :=
 .seq (.seq (.reg false [⟨(some 80), .bin .eql (.t 53) (.v (.int .i64 15)), none, []⟩,
                  ⟨(some 79), .mv (.t 80), none, [0]⟩])
             (.cond (.t 79)
               (.skip)
               (.seq (.reg false [⟨(some 81), .bin .eql (.t 53) (.v (.int .i64 16)), none, []⟩,
                     ⟨(some 79), .mv (.t 81), none, [0]⟩])
                (.cond (.t 79)
                  (.skip)
                  (.seq (.reg false [⟨(some 82), .bin .eql (.t 53) (.v (.int .i64 17)), none, []⟩,
                        ⟨(some 79), .mv (.t 82), none, [0]⟩])
                   (.cond (.t 79)
                     (.skip)
                     (.reg false [⟨(some 83), .bin .eql (.t 53) (.v (.int .i64 18)), none, []⟩,
                          ⟨(some 79), .mv (.t 83), none, [0]⟩])))))))
            (.cond (.t 79)
              (pc12c2)
              (pc12c4))
def pc12c6 : PC :=
 .seq (.reg false [⟨(some 52), .fld 1 (.t 1), none, []⟩,
            ⟨(some 53), .load none (.t 52), none, [0]⟩])
       (.block 2 (.seq (.reg false [⟨(some 55), .bin .eql (.t 53) (.v (.int .i64 14)), none, []⟩,
              ⟨(some 54), .mv (.t 55), none, [0]⟩])
         (.cond (.t 54)
           (pc12c1)
           (pc12c5))))
def pc12c7 : PC :=
 .seq (pc12c6)
      (pc12c0)
def pc12c8 : PC :=
 .seq (.seq (.reg false [⟨(some 4), .mv (.v (.int .i64 0)), none, []⟩])
      (.block 0 (.loop (.seq (.seq (.reg false [⟨(some 34), .mv (.t 4), none, []⟩,
               ⟨(some 35), .mv (.t 3), none, []⟩,
               ⟨(some 36), .len (.t 35), none, [1]⟩,
               ⟨(some 37), .bin .lss (.t 34) (.t 36), none, [0, 2]⟩])
          (.cond (.t 37)
            (.skip)
            (.exit 0)))
         (.seq (.block 1 (.seq (.reg false [⟨(some 40), .mv (.t 3), none, []⟩,
                 ⟨(some 41), .mv (.t 4), none, []⟩,
                 ⟨(some 42), .ixs 1 (.t 40) (.t 41), none, [0, 1]⟩,
                 ⟨(some 43), .load none (.t 42), none, [2]⟩,
                 ⟨(some 44), .bin .lss (.t 43) (.v (.int .i64 0)), none, [3]⟩,
                 ⟨(some 45), .mv (.t 44), none, [4]⟩,
                 ⟨(some 46), .mv (.t 3), (some (45, false)), [5]⟩,
                 ⟨(some 47), .mv (.t 4), (some (45, false)), [5]⟩,
                 ⟨(some 48), .ixs 1 (.t 46) (.t 47), (some (45, false)), [6, 7, 5]⟩,
                 ⟨(some 49), .load none (.t 48), (some (45, false)), [8, 5]⟩,
                 ⟨(some 50), .bin .gtr (.t 49) (.v (.int .i64 2147483647)), (some (45, false)), [9, 5]⟩,
                 ⟨(some 51), .pick (.t 45) (.v (.bool true)) (.t 50), none, [5, 10]⟩])
            (.cond (.t 51)
              (.seq (.reg false [⟨(some 2), .mv (.v (.bool false)), none, []⟩])
               (.ret))
              (.skip))))
          (.reg false [⟨(some 38), .mv (.t 4), none, []⟩,
               ⟨(some 39), .bin .add (.t 38) (.v (.int .i64 1)), none, [0]⟩,
               ⟨(some 4), .mv (.t 39), none, [1, 0, 1]⟩]))))))
     (pc12c7)
def pc12c9 : PC :=
 .seq (.reg false [⟨(some 19), .fld 2 (.t 1), none, []⟩,
         ⟨(some 20), .load none (.t 19), none, [0]⟩,
         ⟨(some 21), .fld 3 (.t 1), none, []⟩,
         ⟨(some 22), .load none (.t 21), none, [2]⟩,
         ⟨(some 23), .fld 4 (.t 1), none, []⟩,
         ⟨(some 24), .load none (.t 23), none, [4]⟩,
         ⟨(some 25), .fld 5 (.t 1), none, []⟩,
         ⟨(some 26), .load none (.t 25), none, [6]⟩,
         ⟨(some 27), .fld 6 (.t 1), none, []⟩,
         ⟨(some 28), .load none (.t 27), none, [8]⟩,
         ⟨(some 29), .fld 7 (.t 1), none, []⟩,
         ⟨(some 30), .load none (.t 29), none, [10]⟩,
         ⟨(some 31), .fld 8 (.t 1), none, []⟩,
         ⟨(some 32), .load none (.t 31), none, [12]⟩,
         ⟨(some 33), .bslice 3 1 [(.int .i64 0), (.int .i64 0), (.int .i64 0), (.int .i64 0), (.int .i64 0), (.int .i64 0), (.int .i64 0)] 7 [(0, 1, (.t 20)), (1, 1, (.t 22)), (2, 1, (.t 24)), (3, 1, (.t 26)), (4, 1, (.t 28)), (5, 1, (.t 30)), (6, 1, (.t 32))], none, [1, 3, 5, 7, 9, 11, 13]⟩,
         ⟨(some 3), .mv (.t 33), none, [14, 0, 1, 2, 3, 4, 5, 6, 7, 8, 9, 10, 11, 12, 13, 14]⟩])
    (pc12c8)
def pc12 : PC :=
 .seq (.reg false [⟨(some 1), .box (.t 0), none, []⟩,
       ⟨(some 2), .mv (.v (.bool false)), none, []⟩])
  (.seq (.seq (.reg false [⟨(some 5), .fld 0 (.t 1), none, []⟩,
         ⟨(some 6), .load none (.t 5), none, [0]⟩,
         ⟨(some 7), .bin .lss (.t 6) (.v (.int .i64 0)), none, [1]⟩,
         ⟨(some 8), .mv (.t 7), none, [2]⟩,
         ⟨(some 9), .fld 0 (.t 1), (some (8, false)), [3]⟩,
         ⟨(some 10), .load none (.t 9), (some (8, false)), [4, 3]⟩,
         ⟨(some 11), .bin .geq (.t 10) (.v (.int .i64 8)), (some (8, false)), [5, 3]⟩,
         ⟨(some 12), .pick (.t 8) (.v (.bool true)) (.t 11), none, [3, 6]⟩,
         ⟨(some 13), .mv (.t 12), none, [7, 3]⟩,
         ⟨(some 14), .fld 1 (.t 1), (some (13, false)), [8]⟩,
         ⟨(some 15), .load none (.t 14), (some (13, false)), [9, 8]⟩,
         ⟨(some 16), .call 29 [(.t 15)], (some (13, false)), [10, 8, 8]⟩,
         ⟨(some 17), .bin .eql (.t 16) (.v (.string ⟨#[]⟩)), (some (13, false)), [11, 8]⟩,
         ⟨(some 18), .pick (.t 13) (.v (.bool true)) (.t 17), none, [8, 12]⟩])
    (.cond (.t 18)
      (.seq (.reg false [⟨(some 2), .mv (.v (.bool false)), none, []⟩])
       (.ret))
      (.skip)))
   (pc12c9))
def pr12 : List PR := [.t 2]
abbrev ms12_0 : List Nat := [34, 35, 36, 37, 40, 41, 42, 43, 44, 45, 46, 47, 48, 49, 50, 51, 2, 38, 39, 4]
abbrev os12_0 : List Nat := []
theorem bd12 : Tryd.f12.body = some (Tryd.f12.body.getD .skip) := by kernel_rfl
theorem cp12 : compC Tryd.prog Tryd.f12.ntmps eqsL (Tryd.f12.body.getD .skip) = some pc12 := by kernel_rfl
theorem sp12 [WInv] {env : Env} (hE : EnvOK Tryd.prog env) {R : List Pa → List Pa → Prop} (hR : ∀ ps rs, R ps rs → ps.length ≤ 116 ∧ pwp env pc12 (fun e s => (e = .normal ∨ e = .ret) ∧ s.res pr12 = some rs) (St.init ps)) : Spec Tryd.prog 12 R :=
  fn_sound hE eqsOK mixedOK Tryd.func12 bd12 cp12 (by kernel_rfl) (by kernel_rfl) hR

/-! interleave/event.Text -/
def pc13 : PC :=
 .seq (.reg false [⟨(some 1), .box (.t 0), none, []⟩,
       ⟨(some 2), .mv (.v (.string ⟨#[]⟩)), none, []⟩])
  (.seq (.seq (.reg false [⟨(some 5), .load (some 9) (.t 1), none, []⟩,
         ⟨(some 6), .call 11 [(.t 5)], none, [0]⟩,
         ⟨(some 7), .un .not (.t 6), none, [1]⟩])
    (.cond (.t 7)
      (.seq (.reg false [⟨(some 2), .mv (.v (.string ⟨#[]⟩)), none, []⟩])
       (.ret))
      (.skip)))
   (.seq (.reg false [⟨(some 3), .mv (.v (.func (.func 30) #[] #[])), none, []⟩])
    (.seq (.reg true [⟨(some 8), .mv (.t 3), none, []⟩,
          ⟨(some 9), .fld 2 (.t 1), none, []⟩,
          ⟨(some 10), .load none (.t 9), none, [1]⟩,
          ⟨(some 11), .callv (.t 8) 30 [(.t 10)], none, [0, 2]⟩,
          ⟨(some 12), .bin .add (.t 11) (.v (.string ⟨#[46]⟩)), none, [3]⟩,
          ⟨(some 13), .mv (.t 3), none, []⟩,
          ⟨(some 14), .fld 3 (.t 1), none, []⟩,
          ⟨(some 15), .load none (.t 14), none, [6]⟩,
          ⟨(some 16), .callv (.t 13) 30 [(.t 15)], none, [5, 7, 3]⟩,
          ⟨(some 17), .bin .add (.t 12) (.t 16), none, [4, 8]⟩,
          ⟨(some 4), .mv (.t 17), none, [9, 8, 0, 1, 2, 3, 4, 5, 6, 7, 8, 9]⟩])
     (.seq (.block 0 (.seq (.reg false [⟨(some 19), .fld 1 (.t 1), none, []⟩,
             ⟨(some 20), .load none (.t 19), none, [0]⟩,
             ⟨(some 21), .bin .eql (.t 20) (.v (.int .i64 14)), none, [1]⟩,
             ⟨(some 18), .mv (.t 21), none, [2]⟩])
        (.cond (.t 18)
          (.reg false [⟨(some 22), .mv (.t 3), none, []⟩,
               ⟨(some 23), .fld 4 (.t 1), none, []⟩,
               ⟨(some 24), .load none (.t 23), none, [1]⟩,
               ⟨(some 25), .callv (.t 22) 30 [(.t 24)], none, [0, 2]⟩,
               ⟨(some 26), .bin .add (.v (.string ⟨#[103]⟩)) (.t 25), none, [3]⟩,
               ⟨(some 4), .mv (.t 26), none, [4, 3, 0, 1, 2, 3, 4]⟩])
          (.seq (.reg false [⟨(some 28), .fld 1 (.t 1), none, []⟩,
                ⟨(some 29), .load none (.t 28), none, [0]⟩,
                ⟨(some 30), .call 21 [(.t 29)], none, [1]⟩,
                ⟨(some 27), .mv (.t 30), none, [2, 2]⟩])
           (.cond (.t 27)
             (.reg true [⟨(some 31), .mv (.t 3), none, []⟩,
                  ⟨(some 32), .fld 2 (.t 1), none, []⟩,
                  ⟨(some 33), .load none (.t 32), none, [1]⟩,
                  ⟨(some 34), .callv (.t 31) 30 [(.t 33)], none, [0, 2]⟩,
                  ⟨(some 35), .bin .add (.t 34) (.v (.string ⟨#[32]⟩)), none, [3]⟩,
                  ⟨(some 36), .mv (.t 3), none, []⟩,
                  ⟨(some 37), .fld 4 (.t 1), none, []⟩,
                  ⟨(some 38), .load none (.t 37), none, [6]⟩,
                  ⟨(some 39), .callv (.t 36) 30 [(.t 38)], none, [5, 7, 3]⟩,
                  ⟨(some 40), .bin .add (.t 35) (.t 39), none, [4, 8]⟩,
                  ⟨(some 41), .bin .add (.t 40) (.v (.string ⟨#[47]⟩)), none, [9]⟩,
                  ⟨(some 42), .mv (.t 3), none, []⟩,
                  ⟨(some 43), .fld 5 (.t 1), none, []⟩,
                  ⟨(some 44), .load none (.t 43), none, [12]⟩,
                  ⟨(some 45), .callv (.t 42) 30 [(.t 44)], none, [11, 13, 8]⟩,
                  ⟨(some 46), .bin .add (.t 41) (.t 45), none, [10, 14]⟩,
                  ⟨(some 4), .mv (.t 46), none, [15, 14, 0, 1, 2, 3, 4, 5, 6, 7, 8, 9, 10, 11, 12, 13, 14, 15]⟩])
             (.skip))))))
      (.seq (.reg true [⟨(some 47), .mv (.t 3), none, []⟩,
            ⟨(some 48), .fld 0 (.t 1), none, []⟩,
            ⟨(some 49), .load none (.t 48), none, [1]⟩,
            ⟨(some 50), .callv (.t 47) 30 [(.t 49)], none, [0, 2]⟩,
            ⟨(some 51), .bin .add (.v (.string ⟨#[103]⟩)) (.t 50), none, [3]⟩,
            ⟨(some 52), .fld 1 (.t 1), none, []⟩,
            ⟨(some 53), .load none (.t 52), none, [5]⟩,
            ⟨(some 54), .ixg 21 1 0 (.t 53), none, [6]⟩,
            ⟨(some 55), .ldg (.t 54), none, [7]⟩,
            ⟨(some 56), .mv (.t 4), none, []⟩,
            ⟨(some 57), .mv (.t 3), none, []⟩,
            ⟨(some 58), .fld 6 (.t 1), none, []⟩,
            ⟨(some 59), .load none (.t 58), none, [11]⟩,
            ⟨(some 60), .callv (.t 57) 30 [(.t 59)], none, [10, 12, 3]⟩,
            ⟨(some 61), .bin .add (.v (.string ⟨#[64]⟩)) (.t 60), none, [13]⟩,
            ⟨(some 62), .bin .add (.t 61) (.v (.string ⟨#[58]⟩)), none, [14]⟩,
            ⟨(some 63), .mv (.t 3), none, []⟩,
            ⟨(some 64), .fld 7 (.t 1), none, []⟩,
            ⟨(some 65), .load none (.t 64), none, [17]⟩,
            ⟨(some 66), .callv (.t 63) 30 [(.t 65)], none, [16, 18, 13]⟩,
            ⟨(some 67), .bin .add (.t 62) (.t 66), none, [15, 19]⟩,
            ⟨(some 68), .mv (.t 3), none, []⟩,
            ⟨(some 69), .fld 8 (.t 1), none, []⟩,
            ⟨(some 70), .load none (.t 69), none, [22]⟩,
            ⟨(some 71), .callv (.t 68) 30 [(.t 70)], none, [21, 23, 19]⟩,
            ⟨(some 72), .bin .add (.v (.string ⟨#[35]⟩)) (.t 71), none, [24]⟩,
            ⟨(some 73), .bslice 9 1 [(.string ⟨#[]⟩), (.string ⟨#[]⟩), (.string ⟨#[]⟩), (.string ⟨#[]⟩), (.string ⟨#[]⟩)] 5 [(0, 1, (.t 51)), (1, 1, (.t 55)), (2, 1, (.t 56)), (3, 1, (.t 67)), (4, 1, (.t 72))], none, [4, 8, 9, 20, 25]⟩,
            ⟨(some 74), .call 31 [(.t 73), (.v (.string ⟨#[32]⟩))], none, [26, 24]⟩,
            ⟨(some 2), .mv (.t 74), none, [27, 27, 0, 1, 2, 3, 4, 5, 6, 7, 8, 9, 10, 11, 12, 13, 14, 15, 16, 17, 18, 19, 20, 21, 22, 23, 24, 25, 26, 27]⟩])
       (.ret))))))
def pr13 : List PR := [.t 2]
theorem bd13 : Tryd.f13.body = some (Tryd.f13.body.getD .skip) := by kernel_rfl
theorem cp13 : compC Tryd.prog Tryd.f13.ntmps eqsL (Tryd.f13.body.getD .skip) = some pc13 := by kernel_rfl
theorem sp13 [WInv] {env : Env} (hE : EnvOK Tryd.prog env) {R : List Pa → List Pa → Prop} (hR : ∀ ps rs, R ps rs → ps.length ≤ 75 ∧ pwp env pc13 (fun e s => (e = .normal ∨ e = .ret) ∧ s.res pr13 = some rs) (St.init ps)) : Spec Tryd.prog 13 R :=
  fn_sound hE eqsOK mixedOK Tryd.func13 bd13 cp13 (by kernel_rfl) (by kernel_rfl) hR

/-! interleave/interleaveref20.Text -/
def pc14 : PC :=
 .seq (.reg false [⟨(some 1), .box (.t 0), none, []⟩,
       ⟨(some 2), .mv (.v (.string ⟨#[]⟩)), none, []⟩])
  (.seq (.seq (.reg false [⟨(some 4), .load (some 9) (.t 1), none, []⟩,
         ⟨(some 5), .call 12 [(.t 4)], none, [0]⟩,
         ⟨(some 6), .un .not (.t 5), none, [1]⟩])
    (.cond (.t 6)
      (.seq (.reg false [⟨(some 2), .mv (.v (.string ⟨#[]⟩)), none, []⟩])
       (.ret))
      (.skip)))
   (.seq (.reg true [⟨(some 7), .fld 0 (.t 1), none, []⟩,
         ⟨(some 8), .load none (.t 7), none, [0]⟩,
         ⟨(some 9), .call 32 [(.t 8)], none, [1]⟩,
         ⟨(some 10), .bin .add (.v (.string ⟨#[103]⟩)) (.t 9), none, [2]⟩,
         ⟨(some 11), .bin .add (.t 10) (.v (.string ⟨#[32]⟩)), none, [3]⟩,
         ⟨(some 12), .fld 1 (.t 1), none, []⟩,
         ⟨(some 13), .load none (.t 12), none, [5]⟩,
         ⟨(some 14), .call 29 [(.t 13)], none, [6, 2]⟩,
         ⟨(some 15), .bin .add (.t 11) (.t 14), none, [4, 7]⟩,
         ⟨(some 16), .bin .add (.t 15) (.v (.string ⟨#[32]⟩)), none, [8]⟩,
         ⟨(some 3), .mv (.t 16), none, [9, 7, 0, 1, 2, 3, 4, 5, 6, 7, 8, 9]⟩])
    (.seq (.block 0 (.seq (.reg false [⟨(some 28), .fld 1 (.t 1), none, []⟩,
            ⟨(some 29), .load none (.t 28), none, [0]⟩,
            ⟨(some 30), .bin .eql (.t 29) (.v (.int .i64 14)), none, [1]⟩,
            ⟨(some 27), .mv (.t 30), none, [2]⟩])
       (.cond (.t 27)
         (.reg false [⟨(some 31), .mv (.t 3), none, []⟩,
              ⟨(some 32), .bin .add (.t 31) (.v (.string ⟨#[103]⟩)), none, [0]⟩,
              ⟨(some 33), .fld 4 (.t 1), none, []⟩,
              ⟨(some 34), .load none (.t 33), none, [2]⟩,
              ⟨(some 35), .call 32 [(.t 34)], none, [3]⟩,
              ⟨(some 36), .bin .add (.t 32) (.t 35), none, [1, 4]⟩,
              ⟨(some 3), .mv (.t 36), none, [5, 4, 0, 1, 2, 3, 4, 5]⟩])
         (.seq (.reg false [⟨(some 38), .fld 1 (.t 1), none, []⟩,
               ⟨(some 39), .load none (.t 38), none, [0]⟩,
               ⟨(some 40), .call 22 [(.t 39)], none, [1]⟩,
               ⟨(some 37), .mv (.t 40), none, [2, 2]⟩])
          (.cond (.t 37)
            (.reg true [⟨(some 41), .mv (.t 3), none, []⟩,
                 ⟨(some 42), .fld 2 (.t 1), none, []⟩,
                 ⟨(some 43), .load none (.t 42), none, [1]⟩,
                 ⟨(some 44), .call 32 [(.t 43)], none, [2]⟩,
                 ⟨(some 45), .bin .add (.t 41) (.t 44), none, [0, 3]⟩,
                 ⟨(some 46), .bin .add (.t 45) (.v (.string ⟨#[32]⟩)), none, [4]⟩,
                 ⟨(some 47), .fld 4 (.t 1), none, []⟩,
                 ⟨(some 48), .load none (.t 47), none, [6]⟩,
                 ⟨(some 49), .call 32 [(.t 48)], none, [7, 3]⟩,
                 ⟨(some 50), .bin .add (.t 46) (.t 49), none, [5, 8]⟩,
                 ⟨(some 51), .bin .add (.t 50) (.v (.string ⟨#[47]⟩)), none, [9]⟩,
                 ⟨(some 52), .fld 5 (.t 1), none, []⟩,
                 ⟨(some 53), .load none (.t 52), none, [11]⟩,
                 ⟨(some 54), .call 32 [(.t 53)], none, [12, 8]⟩,
                 ⟨(some 55), .bin .add (.t 51) (.t 54), none, [10, 13]⟩,
                 ⟨(some 3), .mv (.t 55), none, [14, 13, 0, 1, 2, 3, 4, 5, 6, 7, 8, 9, 10, 11, 12, 13, 14]⟩])
            (.reg true [⟨(some 17), .mv (.t 3), none, []⟩,
                 ⟨(some 18), .fld 2 (.t 1), none, []⟩,
                 ⟨(some 19), .load none (.t 18), none, [1]⟩,
                 ⟨(some 20), .call 32 [(.t 19)], none, [2]⟩,
                 ⟨(some 21), .bin .add (.t 17) (.t 20), none, [0, 3]⟩,
                 ⟨(some 22), .bin .add (.t 21) (.v (.string ⟨#[46]⟩)), none, [4]⟩,
                 ⟨(some 23), .fld 3 (.t 1), none, []⟩,
                 ⟨(some 24), .load none (.t 23), none, [6]⟩,
                 ⟨(some 25), .call 32 [(.t 24)], none, [7, 3]⟩,
                 ⟨(some 26), .bin .add (.t 22) (.t 25), none, [5, 8]⟩,
                 ⟨(some 3), .mv (.t 26), none, [9, 8, 0, 1, 2, 3, 4, 5, 6, 7, 8, 9]⟩]))))))
     (.seq (.reg true [⟨(some 56), .mv (.t 3), none, []⟩,
           ⟨(some 57), .bin .add (.t 56) (.v (.string ⟨#[32, 64]⟩)), none, [0]⟩,
           ⟨(some 58), .fld 6 (.t 1), none, []⟩,
           ⟨(some 59), .load none (.t 58), none, [2]⟩,
           ⟨(some 60), .call 32 [(.t 59)], none, [3]⟩,
           ⟨(some 61), .bin .add (.t 57) (.t 60), none, [1, 4]⟩,
           ⟨(some 62), .bin .add (.t 61) (.v (.string ⟨#[58]⟩)), none, [5]⟩,
           ⟨(some 63), .fld 7 (.t 1), none, []⟩,
           ⟨(some 64), .load none (.t 63), none, [7]⟩,
           ⟨(some 65), .call 32 [(.t 64)], none, [8, 4]⟩,
           ⟨(some 66), .bin .add (.t 62) (.t 65), none, [6, 9]⟩,
           ⟨(some 67), .bin .add (.t 66) (.v (.string ⟨#[32, 35]⟩)), none, [10]⟩,
           ⟨(some 68), .fld 8 (.t 1), none, []⟩,
           ⟨(some 69), .load none (.t 68), none, [12]⟩,
           ⟨(some 70), .call 32 [(.t 69)], none, [13, 9]⟩,
           ⟨(some 71), .bin .add (.t 67) (.t 70), none, [11, 14]⟩,
           ⟨(some 2), .mv (.t 71), none, [15, 14, 0, 1, 2, 3, 4, 5, 6, 7, 8, 9, 10, 11, 12, 13, 14, 15]⟩])
      (.ret)))))
def pr14 : List PR := [.t 2]
theorem bd14 : Tryd.f14.body = some (Tryd.f14.body.getD .skip) := by kernel_rfl
theorem cp14 : compC Tryd.prog Tryd.f14.ntmps eqsL (Tryd.f14.body.getD .skip) = some pc14 := by kernel_rfl
theorem sp14 [WInv] {env : Env} (hE : EnvOK Tryd.prog env) {R : List Pa → List Pa → Prop} (hR : ∀ ps rs, R ps rs → ps.length ≤ 72 ∧ pwp env pc14 (fun e s => (e = .normal ∨ e = .ret) ∧ s.res pr14 = some rs) (St.init ps)) : Spec Tryd.prog 14 R :=
  fn_sound hE eqsOK mixedOK Tryd.func14 bd14 cp14 (by kernel_rfl) (by kernel_rfl) hR

/-! interleave/event.Read -/
def pc15 : PC :=
 .seq (.reg false [⟨(some 2), .new [(.int .i64 0), (.int .i64 0), (.int .i64 0), (.int .i64 0), (.int .i64 0), (.int .i64 0), (.int .i64 0), (.int .i64 0), (.int .i64 0)], none, []⟩,
       ⟨(some 3), .mv (.v (.int .i64 0)), none, []⟩])
  (.seq (.reg false [⟨(some 9), .mv (.t 0), none, []⟩,
        ⟨(some 10), .call 33 [(.t 9), (.v (.string ⟨#[32]⟩))], none, [0]⟩,
        ⟨(some 4), .mv (.t 10), none, [1, 1, 0, 1]⟩])
   (.seq (.seq (.reg false [⟨(some 11), .mv (.t 4), none, []⟩,
          ⟨(some 12), .len (.t 11), none, [0]⟩,
          ⟨(some 13), .bin .lss (.t 12) (.v (.int .i64 5)), none, [1]⟩,
          ⟨(some 14), .mv (.t 13), none, [2]⟩,
          ⟨(some 15), .mv (.t 4), (some (14, false)), [3]⟩,
          ⟨(some 16), .len (.t 15), (some (14, false)), [4, 3]⟩,
          ⟨(some 17), .bin .gtr (.t 16) (.v (.int .i64 6)), (some (14, false)), [5, 3]⟩,
          ⟨(some 18), .pick (.t 14) (.v (.bool true)) (.t 17), none, [3, 6]⟩])
     (.cond (.t 18)
       (.seq (.reg false [⟨(some 19), .build [(.int .i64 0), (.int .i64 0), (.int .i64 0), (.int .i64 0), (.int .i64 0), (.int .i64 0), (.int .i64 0), (.int .i64 0), (.int .i64 0)] [], none, []⟩,
             ⟨none, .store 9 (.t 2) (.t 19), none, [0, 0]⟩,
             ⟨(some 3), .mv (.v (.int .i64 8)), none, [1, 0, 1]⟩])
        (.ret))
       (.skip)))
    (.seq (.reg true [⟨(some 20), .mv (.t 4), none, []⟩,
          ⟨(some 21), .ixs 1 (.t 20) (.v (.int .i64 0)), none, [0]⟩,
          ⟨(some 22), .load none (.t 21), none, [1]⟩,
          ⟨(some 23), .call 34 [(.t 22), (.v (.string ⟨#[103]⟩))], none, [2]⟩,
          ⟨(some 24), .mv (.t 4), none, []⟩,
          ⟨(some 25), .ixs 1 (.t 24) (.v (.int .i64 1)), none, [4]⟩,
          ⟨(some 26), .load none (.t 25), none, [5]⟩,
          ⟨(some 27), .call 35 [(.t 26)], none, [6, 3]⟩,
          ⟨(some 28), .build [(.int .i64 0), (.int .i64 0), (.int .i64 0), (.int .i64 0), (.int .i64 0), (.int .i64 0), (.int .i64 0), (.int .i64 0), (.int .i64 0)] [(0, 1, (.t 23)), (1, 1, (.t 27))], none, [3, 7]⟩,
          ⟨(some 5), .new [(.int .i64 0), (.int .i64 0), (.int .i64 0), (.int .i64 0), (.int .i64 0), (.int .i64 0), (.int .i64 0), (.int .i64 0), (.int .i64 0)], none, []⟩,
          ⟨none, .store 9 (.t 5) (.t 28), none, [9, 8, 7, 0, 1, 2, 3, 4, 5, 6, 7, 8, 9]⟩])
     (.seq (.block 0 (.seq (.reg false [⟨(some 39), .fld 1 (.t 5), none, []⟩,
             ⟨(some 40), .load none (.t 39), none, [0]⟩,
             ⟨(some 41), .bin .eql (.t 40) (.v (.int .i64 14)), none, [1]⟩,
             ⟨(some 38), .mv (.t 41), none, [2]⟩])
        (.cond (.t 38)
          (.reg false [⟨(some 42), .mv (.t 4), none, []⟩,
               ⟨(some 43), .ixs 1 (.t 42) (.v (.int .i64 2)), none, [0]⟩,
               ⟨(some 44), .load none (.t 43), none, [1]⟩,
               ⟨(some 45), .call 34 [(.t 44), (.v (.string ⟨#[103]⟩))], none, [2]⟩,
               ⟨(some 46), .fld 4 (.t 5), none, [0, 1, 2, 3]⟩,
               ⟨none, .store 1 (.t 46) (.t 45), none, [4, 3, 3, 0, 1, 2, 3]⟩])
          (.seq (.reg false [⟨(some 48), .fld 1 (.t 5), none, []⟩,
                ⟨(some 49), .load none (.t 48), none, [0]⟩,
                ⟨(some 50), .call 21 [(.t 49)], none, [1]⟩,
                ⟨(some 47), .mv (.t 50), none, [2, 2]⟩])
           (.cond (.t 47)
             (.seq (.reg false [⟨(some 51), .mv (.t 4), none, []⟩,
                   ⟨(some 52), .ixs 1 (.t 51) (.v (.int .i64 2)), none, [0]⟩,
                   ⟨(some 53), .load none (.t 52), none, [1]⟩,
                   ⟨(some 54), .call 34 [(.t 53), (.v (.string ⟨#[]⟩))], none, [2]⟩,
                   ⟨(some 55), .fld 2 (.t 5), none, [0, 1, 2, 3]⟩,
                   ⟨none, .store 1 (.t 55) (.t 54), none, [4, 3, 3, 0, 1, 2, 3]⟩])
              (.reg false [⟨(some 57), .mv (.t 4), none, []⟩,
                   ⟨(some 58), .ixs 1 (.t 57) (.v (.int .i64 3)), none, [0]⟩,
                   ⟨(some 59), .load none (.t 58), none, [1]⟩,
                   ⟨(some 60), .call 36 [(.t 59), (.v (.string ⟨#[47]⟩))], none, [2]⟩,
                   ⟨(some 56), .mv (.t 60), none, [3]⟩,
                   ⟨(some 61), .ext (.t 56) 0, none, [4]⟩,
                   ⟨(some 62), .ext (.t 56) 1, none, [4]⟩,
                   ⟨(some 63), .fld 4 (.t 5), none, [0, 1, 2, 3, 4, 5]⟩,
                   ⟨none, .store 1 (.t 63) (.t 61), none, [7, 5, 3, 0, 1, 2, 3, 4, 5]⟩,
                   ⟨(some 64), .fld 5 (.t 5), none, [0, 1, 2, 3, 4, 5, 6, 7, 8]⟩,
                   ⟨none, .store 1 (.t 64) (.t 62), none, [9, 6, 8, 0, 1, 2, 3, 4, 5, 6, 7, 8]⟩]))
             (.reg false [⟨(some 30), .mv (.t 4), none, []⟩,
                  ⟨(some 31), .ixs 1 (.t 30) (.v (.int .i64 2)), none, [0]⟩,
                  ⟨(some 32), .load none (.t 31), none, [1]⟩,
                  ⟨(some 33), .call 36 [(.t 32), (.v (.string ⟨#[46]⟩))], none, [2]⟩,
                  ⟨(some 29), .mv (.t 33), none, [3]⟩,
                  ⟨(some 34), .ext (.t 29) 0, none, [4]⟩,
                  ⟨(some 35), .ext (.t 29) 1, none, [4]⟩,
                  ⟨(some 36), .fld 2 (.t 5), none, [0, 1, 2, 3, 4, 5]⟩,
                  ⟨none, .store 1 (.t 36) (.t 34), none, [7, 5, 3, 0, 1, 2, 3, 4, 5]⟩,
                  ⟨(some 37), .fld 3 (.t 5), none, [0, 1, 2, 3, 4, 5, 6, 7, 8]⟩,
                  ⟨none, .store 1 (.t 37) (.t 35), none, [9, 6, 8, 0, 1, 2, 3, 4, 5, 6, 7, 8]⟩]))))))
      (.seq (.reg false [⟨(some 65), .mv (.t 4), none, []⟩,
            ⟨(some 66), .mv (.t 4), none, []⟩,
            ⟨(some 67), .len (.t 66), none, [1]⟩,
            ⟨(some 68), .bin .sub (.t 67) (.v (.int .i64 2)), none, [2]⟩,
            ⟨(some 69), .slc 1 (.t 65) (some (.t 68)) none, none, [0, 3]⟩,
            ⟨(some 6), .mv (.t 69), none, [4, 0, 1, 2, 3, 4]⟩])
       (.seq (.seq (.reg false [⟨(some 71), .mv (.t 6), none, []⟩,
              ⟨(some 72), .ixs 1 (.t 71) (.v (.int .i64 0)), none, [0]⟩,
              ⟨(some 73), .load none (.t 72), none, [1]⟩,
              ⟨(some 74), .call 37 [(.t 73), (.v (.string ⟨#[64]⟩))], none, [2]⟩,
              ⟨(some 70), .mv (.t 74), none, [3]⟩,
              ⟨(some 75), .ext (.t 70) 0, none, [4]⟩,
              ⟨(some 76), .ext (.t 70) 1, none, [4]⟩,
              ⟨(some 7), .mv (.t 75), none, [5, 3, 0, 1, 2, 3, 4, 5]⟩,
              ⟨(some 8), .mv (.t 76), none, [6, 7, 0, 1, 2, 3, 4, 5, 6, 7]⟩])
         (.seq (.reg false [⟨(some 77), .mv (.t 8), none, []⟩])
          (.cond (.t 77)
            (.reg false [⟨(some 79), .mv (.t 7), none, []⟩,
                 ⟨(some 80), .call 36 [(.t 79), (.v (.string ⟨#[58]⟩))], none, [0]⟩,
                 ⟨(some 78), .mv (.t 80), none, [1]⟩,
                 ⟨(some 81), .ext (.t 78) 0, none, [2]⟩,
                 ⟨(some 82), .ext (.t 78) 1, none, [2]⟩,
                 ⟨(some 83), .fld 6 (.t 5), none, [0, 1, 2, 3]⟩,
                 ⟨none, .store 1 (.t 83) (.t 81), none, [5, 3, 1, 0, 1, 2, 3]⟩,
                 ⟨(some 84), .fld 7 (.t 5), none, [0, 1, 2, 3, 4, 5, 6]⟩,
                 ⟨none, .store 1 (.t 84) (.t 82), none, [7, 4, 6, 0, 1, 2, 3, 4, 5, 6]⟩])
            (.skip))))
        (.seq (.reg false [⟨(some 85), .mv (.t 6), none, []⟩,
              ⟨(some 86), .ixs 1 (.t 85) (.v (.int .i64 1)), none, [0]⟩,
              ⟨(some 87), .load none (.t 86), none, [1]⟩,
              ⟨(some 88), .call 34 [(.t 87), (.v (.string ⟨#[35]⟩))], none, [2]⟩,
              ⟨(some 89), .fld 8 (.t 5), none, [0, 1, 2, 3]⟩,
              ⟨none, .store 1 (.t 89) (.t 88), none, [4, 3, 3, 0, 1, 2, 3]⟩])
         (.seq (.seq (.reg false [⟨(some 90), .load (some 9) (.t 5), none, []⟩,
                ⟨(some 91), .call 11 [(.t 90)], none, [0]⟩,
                ⟨(some 92), .un .not (.t 91), none, [1]⟩,
                ⟨(some 93), .mv (.t 92), none, [2, 1]⟩,
                ⟨(some 94), .load (some 9) (.t 5), (some (93, false)), [3]⟩,
                ⟨(some 95), .call 13 [(.t 94)], (some (93, false)), [4, 3, 3]⟩,
                ⟨(some 96), .mv (.t 0), (some (93, false)), [3]⟩,
                ⟨(some 97), .bin .neq (.t 95) (.t 96), (some (93, false)), [5, 6, 3]⟩,
                ⟨(some 98), .pick (.t 93) (.v (.bool true)) (.t 97), none, [3, 7]⟩])
           (.cond (.t 98)
             (.seq (.reg false [⟨(some 99), .build [(.int .i64 0), (.int .i64 0), (.int .i64 0), (.int .i64 0), (.int .i64 0), (.int .i64 0), (.int .i64 0), (.int .i64 0), (.int .i64 0)] [], none, []⟩,
                   ⟨none, .store 9 (.t 2) (.t 99), none, [0, 0]⟩,
                   ⟨(some 3), .mv (.v (.int .i64 8)), none, [1, 0, 1]⟩])
              (.ret))
             (.skip)))
          (.seq (.reg false [⟨(some 100), .load (some 9) (.t 5), none, []⟩,
                ⟨none, .store 9 (.t 2) (.t 100), none, [0, 0]⟩,
                ⟨(some 3), .mv (.v (.int .i64 0)), none, [1, 0, 1]⟩])
           (.ret))))))))))
def pr15 : List PR := [.c 2 (some 9), .t 3]
theorem bd15 : Tryd.f15.body = some (Tryd.f15.body.getD .skip) := by kernel_rfl
theorem cp15 : compC Tryd.prog Tryd.f15.ntmps eqsL (Tryd.f15.body.getD .skip) = some pc15 := by kernel_rfl
theorem sp15 [WInv] {env : Env} (hE : EnvOK Tryd.prog env) {R : List Pa → List Pa → Prop} (hR : ∀ ps rs, R ps rs → ps.length ≤ 101 ∧ pwp env pc15 (fun e s => (e = .normal ∨ e = .ret) ∧ s.res pr15 = some rs) (St.init ps)) : Spec Tryd.prog 15 R :=
  fn_sound hE eqsOK mixedOK Tryd.func15 bd15 cp15 (by kernel_rfl) (by kernel_rfl) hR

/-! interleave/interleaveref20.Read -/
def pc16 : PC :=
 .seq (.reg false [⟨(some 2), .new [(.int .i64 0), (.int .i64 0), (.int .i64 0), (.int .i64 0), (.int .i64 0), (.int .i64 0), (.int .i64 0), (.int .i64 0), (.int .i64 0)], none, []⟩,
       ⟨(some 3), .mv (.v (.int .i64 0)), none, []⟩])
  (.seq (.reg false [⟨(some 7), .mv (.t 0), none, []⟩,
        ⟨(some 8), .build [(.string ⟨#[]⟩), (.int .i64 0), (.bool false)] [(0, 1, (.t 7))], none, [0]⟩,
        ⟨(some 9), .box (.t 8), none, [1]⟩,
        ⟨(some 4), .mv (.t 9), none, [2, 0, 1, 2]⟩])
   (.seq (.reg false [⟨(some 5), .new [(.int .i64 0), (.int .i64 0), (.int .i64 0), (.int .i64 0), (.int .i64 0), (.int .i64 0), (.int .i64 0), (.int .i64 0), (.int .i64 0)], none, []⟩])
    (.seq (.reg false [⟨(some 10), .mv (.t 4), none, []⟩,
          ⟨(some 11), .call 38 [(.t 10), (.v (.string ⟨#[103]⟩))], none, [0]⟩])
     (.seq (.reg false [⟨(some 12), .mv (.t 4), none, []⟩,
           ⟨(some 13), .call 39 [(.t 12)], none, [0]⟩,
           ⟨(some 14), .fld 0 (.t 5), none, [0, 1]⟩,
           ⟨none, .store 1 (.t 14) (.t 13), none, [2, 1, 1, 0, 1]⟩])
      (.seq (.reg false [⟨(some 15), .mv (.t 4), none, []⟩,
            ⟨(some 16), .call 38 [(.t 15), (.v (.string ⟨#[32]⟩))], none, [0]⟩])
       (.seq (.seq (.reg false [⟨(some 6), .mv (.v (.int .i64 1)), none, []⟩])
         (.block 0 (.loop (.seq (.seq (.reg false [⟨(some 17), .mv (.t 6), none, []⟩,
                  ⟨(some 18), .bin .leq (.t 17) (.v (.int .i64 20)), none, [0]⟩,
                  ⟨(some 19), .mv (.t 18), none, [1]⟩,
                  ⟨(some 20), .fld 1 (.t 5), (some (19, true)), [2]⟩,
                  ⟨(some 21), .load none (.t 20), (some (19, true)), [3, 2]⟩,
                  ⟨(some 22), .bin .eql (.t 21) (.v (.int .i64 0)), (some (19, true)), [4, 2]⟩,
                  ⟨(some 23), .pick (.t 19) (.t 22) (.v (.bool false)), none, [2, 5]⟩])
             (.cond (.t 23)
               (.skip)
               (.exit 0)))
            (.seq (.block 1 (.seq (.reg false [⟨(some 26), .mv (.t 4), none, []⟩,
                    ⟨(some 27), .mv (.t 6), none, []⟩,
                    ⟨(some 28), .call 29 [(.t 27)], none, [1]⟩,
                    ⟨(some 29), .bin .add (.t 28) (.v (.string ⟨#[32]⟩)), none, [2]⟩,
                    ⟨(some 30), .call 40 [(.t 26), (.t 29)], none, [0, 3, 2]⟩])
               (.cond (.t 30)
                 (.reg false [⟨(some 31), .mv (.t 6), none, []⟩,
                      ⟨(some 32), .fld 1 (.t 5), none, [0]⟩,
                      ⟨none, .store 1 (.t 32) (.t 31), none, [1, 0, 0]⟩])
                 (.skip))))
             (.reg false [⟨(some 24), .mv (.t 6), none, []⟩,
                  ⟨(some 25), .bin .add (.t 24) (.v (.int .i64 1)), none, [0]⟩,
                  ⟨(some 6), .mv (.t 25), none, [1, 0, 1]⟩]))))))
        (.seq (.block 2 (.seq (.reg false [⟨(some 42), .fld 1 (.t 5), none, []⟩,
                ⟨(some 43), .load none (.t 42), none, [0]⟩,
                ⟨(some 44), .bin .eql (.t 43) (.v (.int .i64 0)), none, [1]⟩,
                ⟨(some 41), .mv (.t 44), none, [2]⟩])
           (.cond (.t 41)
             (.reg false [⟨(some 45), .mv (.t 4), none, []⟩,
                  ⟨(some 46), .nilck (.t 45), none, [0, 0]⟩,
                  ⟨(some 47), .fld 2 (.t 46), none, [1, 0]⟩,
                  ⟨none, .store 1 (.t 47) (.v (.bool true)), none, [2, 0]⟩])
             (.seq (.reg false [⟨(some 49), .fld 1 (.t 5), none, []⟩,
                   ⟨(some 50), .load none (.t 49), none, [0]⟩,
                   ⟨(some 51), .bin .eql (.t 50) (.v (.int .i64 14)), none, [1]⟩,
                   ⟨(some 48), .mv (.t 51), none, [2]⟩])
              (.cond (.t 48)
                (.seq (.reg false [⟨(some 52), .mv (.t 4), none, []⟩,
                      ⟨(some 53), .call 38 [(.t 52), (.v (.string ⟨#[103]⟩))], none, [0]⟩])
                 (.reg false [⟨(some 54), .mv (.t 4), none, []⟩,
                      ⟨(some 55), .call 39 [(.t 54)], none, [0]⟩,
                      ⟨(some 56), .fld 4 (.t 5), none, [0, 1]⟩,
                      ⟨none, .store 1 (.t 56) (.t 55), none, [2, 1, 1, 0, 1]⟩]))
                (.seq (.reg false [⟨(some 58), .fld 1 (.t 5), none, []⟩,
                      ⟨(some 59), .load none (.t 58), none, [0]⟩,
                      ⟨(some 60), .call 22 [(.t 59)], none, [1]⟩,
                      ⟨(some 57), .mv (.t 60), none, [2, 2]⟩])
                 (.cond (.t 57)
                   (.seq (.reg false [⟨(some 61), .mv (.t 4), none, []⟩,
                         ⟨(some 62), .call 39 [(.t 61)], none, [0]⟩,
                         ⟨(some 63), .fld 2 (.t 5), none, [0, 1]⟩,
                         ⟨none, .store 1 (.t 63) (.t 62), none, [2, 1, 1, 0, 1]⟩])
                    (.seq (.reg false [⟨(some 64), .mv (.t 4), none, []⟩,
                          ⟨(some 65), .call 38 [(.t 64), (.v (.string ⟨#[32]⟩))], none, [0]⟩])
                     (.seq (.reg false [⟨(some 66), .mv (.t 4), none, []⟩,
                           ⟨(some 67), .call 39 [(.t 66)], none, [0]⟩,
                           ⟨(some 68), .fld 4 (.t 5), none, [0, 1]⟩,
                           ⟨none, .store 1 (.t 68) (.t 67), none, [2, 1, 1, 0, 1]⟩])
                      (.seq (.reg false [⟨(some 69), .mv (.t 4), none, []⟩,
                            ⟨(some 70), .call 38 [(.t 69), (.v (.string ⟨#[47]⟩))], none, [0]⟩])
                       (.reg false [⟨(some 71), .mv (.t 4), none, []⟩,
                            ⟨(some 72), .call 39 [(.t 71)], none, [0]⟩,
                            ⟨(some 73), .fld 5 (.t 5), none, [0, 1]⟩,
                            ⟨none, .store 1 (.t 73) (.t 72), none, [2, 1, 1, 0, 1]⟩])))))
                   (.seq (.reg false [⟨(some 33), .mv (.t 4), none, []⟩,
                         ⟨(some 34), .call 39 [(.t 33)], none, [0]⟩,
                         ⟨(some 35), .fld 2 (.t 5), none, [0, 1]⟩,
                         ⟨none, .store 1 (.t 35) (.t 34), none, [2, 1, 1, 0, 1]⟩])
                    (.seq (.reg false [⟨(some 36), .mv (.t 4), none, []⟩,
                          ⟨(some 37), .call 38 [(.t 36), (.v (.string ⟨#[46]⟩))], none, [0]⟩])
                     (.reg false [⟨(some 38), .mv (.t 4), none, []⟩,
                          ⟨(some 39), .call 39 [(.t 38)], none, [0]⟩,
                          ⟨(some 40), .fld 3 (.t 5), none, [0, 1]⟩,
                          ⟨none, .store 1 (.t 40) (.t 39), none, [2, 1, 1, 0, 1]⟩]))))))))))
         (.seq (.reg false [⟨(some 74), .mv (.t 4), none, []⟩,
               ⟨(some 75), .call 38 [(.t 74), (.v (.string ⟨#[32, 64]⟩))], none, [0]⟩])
          (.seq (.reg false [⟨(some 76), .mv (.t 4), none, []⟩,
                ⟨(some 77), .call 39 [(.t 76)], none, [0]⟩,
                ⟨(some 78), .fld 6 (.t 5), none, [0, 1]⟩,
                ⟨none, .store 1 (.t 78) (.t 77), none, [2, 1, 1, 0, 1]⟩])
           (.seq (.reg false [⟨(some 79), .mv (.t 4), none, []⟩,
                 ⟨(some 80), .call 38 [(.t 79), (.v (.string ⟨#[58]⟩))], none, [0]⟩])
            (.seq (.reg false [⟨(some 81), .mv (.t 4), none, []⟩,
                  ⟨(some 82), .call 39 [(.t 81)], none, [0]⟩,
                  ⟨(some 83), .fld 7 (.t 5), none, [0, 1]⟩,
                  ⟨none, .store 1 (.t 83) (.t 82), none, [2, 1, 1, 0, 1]⟩])
             (.seq (.reg false [⟨(some 84), .mv (.t 4), none, []⟩,
                   ⟨(some 85), .call 38 [(.t 84), (.v (.string ⟨#[32, 35]⟩))], none, [0]⟩])
              (.seq (.reg false [⟨(some 86), .mv (.t 4), none, []⟩,
                    ⟨(some 87), .call 39 [(.t 86)], none, [0]⟩,
                    ⟨(some 88), .fld 8 (.t 5), none, [0, 1]⟩,
                    ⟨none, .store 1 (.t 88) (.t 87), none, [2, 1, 1, 0, 1]⟩])
               (.seq (.seq (.reg false [⟨(some 89), .mv (.t 4), none, []⟩,
                      ⟨(some 90), .nilck (.t 89), none, [0]⟩,
                      ⟨(some 91), .fld 2 (.t 90), none, [1]⟩,
                      ⟨(some 92), .load none (.t 91), none, [2]⟩,
                      ⟨(some 93), .mv (.t 92), none, [3]⟩,
                      ⟨(some 94), .mv (.t 4), (some (93, false)), [4]⟩,
                      ⟨(some 95), .nilck (.t 94), (some (93, false)), [5, 4]⟩,
                      ⟨(some 96), .fld 1 (.t 95), (some (93, false)), [6, 4]⟩,
                      ⟨(some 97), .load none (.t 96), (some (93, false)), [7, 4]⟩,
                      ⟨(some 98), .mv (.t 0), (some (93, false)), [4]⟩,
                      ⟨(some 99), .strlen (.t 98), (some (93, false)), [9, 4]⟩,
                      ⟨(some 100), .bin .lss (.t 97) (.t 99), (some (93, false)), [8, 10, 4]⟩,
                      ⟨(some 101), .pick (.t 93) (.v (.bool true)) (.t 100), none, [4, 11]⟩,
                      ⟨(some 102), .mv (.t 101), none, [12, 4]⟩,
                      ⟨(some 103), .load (some 9) (.t 5), (some (102, false)), [13]⟩,
                      ⟨(some 104), .call 12 [(.t 103)], (some (102, false)), [14, 13, 13]⟩,
                      ⟨(some 105), .un .not (.t 104), (some (102, false)), [15, 13]⟩,
                      ⟨(some 106), .pick (.t 102) (.v (.bool true)) (.t 105), none, [13, 16]⟩])
                 (.cond (.t 106)
                   (.seq (.reg false [⟨(some 107), .build [(.int .i64 0), (.int .i64 0), (.int .i64 0), (.int .i64 0), (.int .i64 0), (.int .i64 0), (.int .i64 0), (.int .i64 0), (.int .i64 0)] [], none, []⟩,
                         ⟨none, .store 9 (.t 2) (.t 107), none, [0, 0]⟩,
                         ⟨(some 3), .mv (.v (.int .i64 8)), none, [1, 0, 1]⟩])
                    (.ret))
                   (.skip)))
                (.seq (.reg false [⟨(some 108), .load (some 9) (.t 5), none, []⟩,
                      ⟨none, .store 9 (.t 2) (.t 108), none, [0, 0]⟩,
                      ⟨(some 3), .mv (.v (.int .i64 0)), none, [1, 0, 1]⟩])
                 (.ret))))))))))))))))
def pr16 : List PR := [.c 2 (some 9), .t 3]
abbrev ms16_0 : List Nat := [17, 18, 19, 20, 21, 22, 23, 26, 27, 28, 29, 30, 31, 32, 24, 25, 6]
abbrev os16_0 : List Nat := [5]
theorem bd16 : Tryd.f16.body = some (Tryd.f16.body.getD .skip) := by kernel_rfl
theorem cp16 : compC Tryd.prog Tryd.f16.ntmps eqsL (Tryd.f16.body.getD .skip) = some pc16 := by kernel_rfl
theorem sp16 [WInv] {env : Env} (hE : EnvOK Tryd.prog env) {R : List Pa → List Pa → Prop} (hR : ∀ ps rs, R ps rs → ps.length ≤ 109 ∧ pwp env pc16 (fun e s => (e = .normal ∨ e = .ret) ∧ s.res pr16 = some rs) (St.init ps)) : Spec Tryd.prog 16 R :=
  fn_sound hE eqsOK mixedOK Tryd.func16 bd16 cp16 (by kernel_rfl) (by kernel_rfl) hR

/-! interleave/interleaveref20.Conflict -/
def pc17 : PC :=
 .seq (.reg false [⟨(some 2), .box (.t 0), none, []⟩,
       ⟨(some 3), .box (.t 1), none, []⟩,
       ⟨(some 4), .mv (.v (.bool false)), none, []⟩])
  (.seq (.reg false [⟨(some 5), .fld 1 (.t 2), none, []⟩,
        ⟨(some 6), .load none (.t 5), none, [0]⟩,
        ⟨(some 7), .call 20 [(.t 6)], none, [1]⟩,
        ⟨(some 8), .mv (.t 7), none, [2, 2]⟩,
        ⟨(some 9), .fld 1 (.t 3), (some (8, true)), [3]⟩,
        ⟨(some 10), .load none (.t 9), (some (8, true)), [4, 3]⟩,
        ⟨(some 11), .call 20 [(.t 10)], (some (8, true)), [5, 3, 3]⟩,
        ⟨(some 12), .pick (.t 8) (.t 11) (.v (.bool false)), none, [3, 6]⟩,
        ⟨(some 13), .mv (.t 12), none, [7, 6]⟩,
        ⟨(some 14), .fld 0 (.t 2), (some (13, true)), [8]⟩,
        ⟨(some 15), .load none (.t 14), (some (13, true)), [9, 8]⟩,
        ⟨(some 16), .fld 0 (.t 3), (some (13, true)), [8]⟩,
        ⟨(some 17), .load none (.t 16), (some (13, true)), [11, 8]⟩,
        ⟨(some 18), .bin .neq (.t 15) (.t 17), (some (13, true)), [10, 12, 8]⟩,
        ⟨(some 19), .pick (.t 13) (.t 18) (.v (.bool false)), none, [8, 13]⟩,
        ⟨(some 20), .mv (.t 19), none, [14, 8]⟩,
        ⟨(some 21), .fld 2 (.t 2), (some (20, true)), [15]⟩,
        ⟨(some 22), .load none (.t 21), (some (20, true)), [16, 15]⟩,
        ⟨(some 23), .fld 2 (.t 3), (some (20, true)), [15]⟩,
        ⟨(some 24), .load none (.t 23), (some (20, true)), [18, 15]⟩,
        ⟨(some 25), .bin .eql (.t 22) (.t 24), (some (20, true)), [17, 19, 15]⟩,
        ⟨(some 26), .pick (.t 20) (.t 25) (.v (.bool false)), none, [15, 20]⟩,
        ⟨(some 27), .mv (.t 26), none, [21, 15]⟩,
        ⟨(some 28), .fld 3 (.t 2), (some (27, true)), [22]⟩,
        ⟨(some 29), .load none (.t 28), (some (27, true)), [23, 22]⟩,
        ⟨(some 30), .fld 3 (.t 3), (some (27, true)), [22]⟩,
        ⟨(some 31), .load none (.t 30), (some (27, true)), [25, 22]⟩,
        ⟨(some 32), .bin .eql (.t 29) (.t 31), (some (27, true)), [24, 26, 22]⟩,
        ⟨(some 33), .pick (.t 27) (.t 32) (.v (.bool false)), none, [22, 27]⟩,
        ⟨(some 34), .mv (.t 33), none, [28, 22]⟩,
        ⟨(some 35), .fld 1 (.t 2), (some (34, true)), [29]⟩,
        ⟨(some 36), .load none (.t 35), (some (34, true)), [30, 29]⟩,
        ⟨(some 37), .bin .eql (.t 36) (.v (.int .i64 2)), (some (34, true)), [31, 29]⟩,
        ⟨(some 38), .mv (.t 37), (some (34, true)), [32, 29, 29]⟩,
        ⟨(some 39), .fld 1 (.t 3), (some (38, false)), [33]⟩,
        ⟨(some 40), .load none (.t 39), (some (38, false)), [34, 33]⟩,
        ⟨(some 41), .bin .eql (.t 40) (.v (.int .i64 2)), (some (38, false)), [35, 33]⟩,
        ⟨(some 42), .pick (.t 38) (.v (.bool true)) (.t 41), (some (34, true)), [33, 36, 29]⟩,
        ⟨(some 43), .pick (.t 34) (.t 42) (.v (.bool false)), none, [29, 37]⟩,
        ⟨(some 4), .mv (.t 43), none, [38, 33, 0, 1, 2, 3, 4, 5, 6, 7, 8, 9, 10, 11, 12, 13, 14, 15, 16, 17, 18, 19, 20, 21, 22, 23, 24, 25, 26, 27, 28, 29, 30, 31, 32, 33, 34, 35, 36, 37, 38]⟩])
   (.ret))
def pr17 : List PR := [.t 4]
theorem bd17 : Tryd.f17.body = some (Tryd.f17.body.getD .skip) := by kernel_rfl
theorem cp17 : compC Tryd.prog Tryd.f17.ntmps eqsL (Tryd.f17.body.getD .skip) = some pc17 := by kernel_rfl
theorem sp17 [WInv] {env : Env} (hE : EnvOK Tryd.prog env) {R : List Pa → List Pa → Prop} (hR : ∀ ps rs, R ps rs → ps.length ≤ 44 ∧ pwp env pc17 (fun e s => (e = .normal ∨ e = .ret) ∧ s.res pr17 = some rs) (St.init ps)) : Spec Tryd.prog 17 R :=
  fn_sound hE eqsOK mixedOK Tryd.func17 bd17 cp17 (by kernel_rfl) (by kernel_rfl) hR

/-! interleave/event.Conflict -/
def pc18 : PC :=
 .seq (.reg false [⟨(some 2), .box (.t 0), none, []⟩,
       ⟨(some 3), .box (.t 1), none, []⟩,
       ⟨(some 4), .mv (.v (.bool false)), none, []⟩])
  (.seq (.reg false [⟨(some 5), .fld 1 (.t 2), none, []⟩,
        ⟨(some 6), .load none (.t 5), none, [0]⟩,
        ⟨(some 7), .call 19 [(.t 6)], none, [1]⟩,
        ⟨(some 8), .mv (.t 7), none, [2, 2]⟩,
        ⟨(some 9), .fld 1 (.t 3), (some (8, true)), [3]⟩,
        ⟨(some 10), .load none (.t 9), (some (8, true)), [4, 3]⟩,
        ⟨(some 11), .call 19 [(.t 10)], (some (8, true)), [5, 3, 3]⟩,
        ⟨(some 12), .pick (.t 8) (.t 11) (.v (.bool false)), none, [3, 6]⟩,
        ⟨(some 13), .mv (.t 12), none, [7, 6]⟩,
        ⟨(some 14), .fld 0 (.t 2), (some (13, true)), [8]⟩,
        ⟨(some 15), .load none (.t 14), (some (13, true)), [9, 8]⟩,
        ⟨(some 16), .fld 0 (.t 3), (some (13, true)), [8]⟩,
        ⟨(some 17), .load none (.t 16), (some (13, true)), [11, 8]⟩,
        ⟨(some 18), .bin .neq (.t 15) (.t 17), (some (13, true)), [10, 12, 8]⟩,
        ⟨(some 19), .pick (.t 13) (.t 18) (.v (.bool false)), none, [8, 13]⟩,
        ⟨(some 20), .mv (.t 19), none, [14, 8]⟩,
        ⟨(some 21), .fld 2 (.t 2), (some (20, true)), [15]⟩,
        ⟨(some 22), .load none (.t 21), (some (20, true)), [16, 15]⟩,
        ⟨(some 23), .fld 2 (.t 3), (some (20, true)), [15]⟩,
        ⟨(some 24), .load none (.t 23), (some (20, true)), [18, 15]⟩,
        ⟨(some 25), .bin .eql (.t 22) (.t 24), (some (20, true)), [17, 19, 15]⟩,
        ⟨(some 26), .pick (.t 20) (.t 25) (.v (.bool false)), none, [15, 20]⟩,
        ⟨(some 27), .mv (.t 26), none, [21, 15]⟩,
        ⟨(some 28), .fld 3 (.t 2), (some (27, true)), [22]⟩,
        ⟨(some 29), .load none (.t 28), (some (27, true)), [23, 22]⟩,
        ⟨(some 30), .fld 3 (.t 3), (some (27, true)), [22]⟩,
        ⟨(some 31), .load none (.t 30), (some (27, true)), [25, 22]⟩,
        ⟨(some 32), .bin .eql (.t 29) (.t 31), (some (27, true)), [24, 26, 22]⟩,
        ⟨(some 33), .pick (.t 27) (.t 32) (.v (.bool false)), none, [22, 27]⟩,
        ⟨(some 34), .mv (.t 33), none, [28, 22]⟩,
        ⟨(some 35), .fld 1 (.t 2), (some (34, true)), [29]⟩,
        ⟨(some 36), .load none (.t 35), (some (34, true)), [30, 29]⟩,
        ⟨(some 37), .fld 1 (.t 3), (some (34, true)), [29]⟩,
        ⟨(some 38), .load none (.t 37), (some (34, true)), [32, 29]⟩,
        ⟨(some 39), .mm true [(.t 36), (.t 38)], (some (34, true)), [31, 33, 29]⟩,
        ⟨(some 40), .bin .eql (.t 39) (.v (.int .i64 2)), (some (34, true)), [34, 29]⟩,
        ⟨(some 41), .pick (.t 34) (.t 40) (.v (.bool false)), none, [29, 35]⟩,
        ⟨(some 4), .mv (.t 41), none, [36, 29, 0, 1, 2, 3, 4, 5, 6, 7, 8, 9, 10, 11, 12, 13, 14, 15, 16, 17, 18, 19, 20, 21, 22, 23, 24, 25, 26, 27, 28, 29, 30, 31, 32, 33, 34, 35, 36]⟩])
   (.ret))
def pr18 : List PR := [.t 4]
theorem bd18 : Tryd.f18.body = some (Tryd.f18.body.getD .skip) := by kernel_rfl
theorem cp18 : compC Tryd.prog Tryd.f18.ntmps eqsL (Tryd.f18.body.getD .skip) = some pc18 := by kernel_rfl
theorem sp18 [WInv] {env : Env} (hE : EnvOK Tryd.prog env) {R : List Pa → List Pa → Prop} (hR : ∀ ps rs, R ps rs → ps.length ≤ 42 ∧ pwp env pc18 (fun e s => (e = .normal ∨ e = .ret) ∧ s.res pr18 = some rs) (St.init ps)) : Spec Tryd.prog 18 R :=
  fn_sound hE eqsOK mixedOK Tryd.func18 bd18 cp18 (by kernel_rfl) (by kernel_rfl) hR

/-! interleave/event.Memory -/
def pc19 : PC :=
 .seq (.reg false [⟨(some 2), .mv (.v (.bool false)), none, []⟩])
  (.seq (.reg false [⟨(some 3), .mv (.t 0), none, []⟩,
        ⟨(some 4), .bin .eql (.t 3) (.v (.int .i64 1)), none, [0]⟩,
        ⟨(some 5), .mv (.t 4), none, [1]⟩,
        ⟨(some 6), .mv (.t 0), (some (5, false)), [2]⟩,
        ⟨(some 7), .bin .eql (.t 6) (.v (.int .i64 2)), (some (5, false)), [3, 2]⟩,
        ⟨(some 8), .pick (.t 5) (.v (.bool true)) (.t 7), none, [2, 4]⟩,
        ⟨(some 2), .mv (.t 8), none, [5, 2, 0, 1, 2, 3, 4, 5]⟩])
   (.ret))
def pr19 : List PR := [.t 2]
theorem bd19 : Tryd.f19.body = some (Tryd.f19.body.getD .skip) := by kernel_rfl
theorem cp19 : compC Tryd.prog Tryd.f19.ntmps eqsL (Tryd.f19.body.getD .skip) = some pc19 := by kernel_rfl
theorem sp19 [WInv] {env : Env} (hE : EnvOK Tryd.prog env) {R : List Pa → List Pa → Prop} (hR : ∀ ps rs, R ps rs → ps.length ≤ 9 ∧ pwp env pc19 (fun e s => (e = .normal ∨ e = .ret) ∧ s.res pr19 = some rs) (St.init ps)) : Spec Tryd.prog 19 R :=
  fn_sound hE eqsOK mixedOK Tryd.func19 bd19 cp19 (by kernel_rfl) (by kernel_rfl) hR

/-! interleave/interleaveref20.Memory -/
def pc20 : PC :=
 .seq (.reg false [⟨(some 2), .mv (.v (.bool false)), none, []⟩])
  (.seq (.reg false [⟨(some 3), .mv (.t 0), none, []⟩,
        ⟨(some 4), .bin .eql (.t 3) (.v (.int .i64 1)), none, [0]⟩,
        ⟨(some 5), .mv (.t 4), none, [1]⟩,
        ⟨(some 6), .mv (.t 0), (some (5, false)), [2]⟩,
        ⟨(some 7), .bin .eql (.t 6) (.v (.int .i64 2)), (some (5, false)), [3, 2]⟩,
        ⟨(some 8), .pick (.t 5) (.v (.bool true)) (.t 7), none, [2, 4]⟩,
        ⟨(some 2), .mv (.t 8), none, [5, 2, 0, 1, 2, 3, 4, 5]⟩])
   (.ret))
def pr20 : List PR := [.t 2]
theorem bd20 : Tryd.f20.body = some (Tryd.f20.body.getD .skip) := by kernel_rfl
theorem cp20 : compC Tryd.prog Tryd.f20.ntmps eqsL (Tryd.f20.body.getD .skip) = some pc20 := by kernel_rfl
theorem sp20 [WInv] {env : Env} (hE : EnvOK Tryd.prog env) {R : List Pa → List Pa → Prop} (hR : ∀ ps rs, R ps rs → ps.length ≤ 9 ∧ pwp env pc20 (fun e s => (e = .normal ∨ e = .ret) ∧ s.res pr20 = some rs) (St.init ps)) : Spec Tryd.prog 20 R :=
  fn_sound hE eqsOK mixedOK Tryd.func20 bd20 cp20 (by kernel_rfl) (by kernel_rfl) hR

/-! interleave/event.Channel -/
def pc21 : PC :=
 .seq (.reg false [⟨(some 2), .mv (.v (.bool false)), none, []⟩])
  (.seq (.reg false [⟨(some 3), .mv (.t 0), none, []⟩,
        ⟨(some 4), .call 28 [(.t 3)], none, [0]⟩,
        ⟨(some 5), .mv (.t 4), none, [1, 1]⟩,
        ⟨(some 6), .mv (.t 0), (some (5, false)), [2]⟩,
        ⟨(some 7), .bin .eql (.t 6) (.v (.int .i64 19)), (some (5, false)), [3, 2]⟩,
        ⟨(some 8), .pick (.t 5) (.v (.bool true)) (.t 7), none, [2, 4]⟩,
        ⟨(some 9), .mv (.t 8), none, [5, 2]⟩,
        ⟨(some 10), .mv (.t 0), (some (9, false)), [6]⟩,
        ⟨(some 11), .bin .eql (.t 10) (.v (.int .i64 20)), (some (9, false)), [7, 6]⟩,
        ⟨(some 12), .pick (.t 9) (.v (.bool true)) (.t 11), none, [6, 8]⟩,
        ⟨(some 2), .mv (.t 12), none, [9, 6, 0, 1, 2, 3, 4, 5, 6, 7, 8, 9]⟩])
   (.ret))
def pr21 : List PR := [.t 2]
theorem bd21 : Tryd.f21.body = some (Tryd.f21.body.getD .skip) := by kernel_rfl
theorem cp21 : compC Tryd.prog Tryd.f21.ntmps eqsL (Tryd.f21.body.getD .skip) = some pc21 := by kernel_rfl
theorem sp21 [WInv] {env : Env} (hE : EnvOK Tryd.prog env) {R : List Pa → List Pa → Prop} (hR : ∀ ps rs, R ps rs → ps.length ≤ 13 ∧ pwp env pc21 (fun e s => (e = .normal ∨ e = .ret) ∧ s.res pr21 = some rs) (St.init ps)) : Spec Tryd.prog 21 R :=
  fn_sound hE eqsOK mixedOK Tryd.func21 bd21 cp21 (by kernel_rfl) (by kernel_rfl) hR

/-! interleave/interleaveref20.Channel -/
def pc22 : PC :=
 .seq (.reg false [⟨(some 2), .mv (.v (.bool false)), none, []⟩])
  (.seq (.reg false [⟨(some 3), .mv (.t 0), none, []⟩,
        ⟨(some 4), .bin .geq (.t 3) (.v (.int .i64 15)), none, [0]⟩,
        ⟨(some 5), .mv (.t 4), none, [1]⟩,
        ⟨(some 6), .mv (.t 0), (some (5, true)), [2]⟩,
        ⟨(some 7), .bin .leq (.t 6) (.v (.int .i64 20)), (some (5, true)), [3, 2]⟩,
        ⟨(some 8), .pick (.t 5) (.t 7) (.v (.bool false)), none, [2, 4]⟩,
        ⟨(some 2), .mv (.t 8), none, [5, 2, 0, 1, 2, 3, 4, 5]⟩])
   (.ret))
def pr22 : List PR := [.t 2]
theorem bd22 : Tryd.f22.body = some (Tryd.f22.body.getD .skip) := by kernel_rfl
theorem cp22 : compC Tryd.prog Tryd.f22.ntmps eqsL (Tryd.f22.body.getD .skip) = some pc22 := by kernel_rfl
theorem sp22 [WInv] {env : Env} (hE : EnvOK Tryd.prog env) {R : List Pa → List Pa → Prop} (hR : ∀ ps rs, R ps rs → ps.length ≤ 9 ∧ pwp env pc22 (fun e s => (e = .normal ∨ e = .ret) ∧ s.res pr22 = some rs) (St.init ps)) : Spec Tryd.prog 22 R :=
  fn_sound hE eqsOK mixedOK Tryd.func22 bd22 cp22 (by kernel_rfl) (by kernel_rfl) hR

/-! interleave/event.Acquires -/
def pc23 : PC :=
 .seq (.reg false [⟨(some 2), .mv (.v (.bool false)), none, []⟩])
  (.seq (.seq (.reg false [⟨(some 3), .mv (.t 0), none, []⟩])
    (.block 0 (.seq (.seq (.reg false [⟨(some 5), .bin .eql (.t 3) (.v (.int .i64 3)), none, []⟩,
            ⟨(some 4), .mv (.t 5), none, [0]⟩])
       (.cond (.t 4)
         (.skip)
         (.seq (.reg false [⟨(some 6), .bin .eql (.t 3) (.v (.int .i64 5)), none, []⟩,
               ⟨(some 4), .mv (.t 6), none, [0]⟩])
          (.cond (.t 4)
            (.skip)
            (.seq (.reg false [⟨(some 7), .bin .eql (.t 3) (.v (.int .i64 6)), none, []⟩,
                  ⟨(some 4), .mv (.t 7), none, [0]⟩])
             (.cond (.t 4)
               (.skip)
               (.seq (.reg false [⟨(some 8), .bin .eql (.t 3) (.v (.int .i64 8)), none, []⟩,
                     ⟨(some 4), .mv (.t 8), none, [0]⟩])
                (.cond (.t 4)
                  (.skip)
                  (.seq (.reg false [⟨(some 9), .bin .eql (.t 3) (.v (.int .i64 11)), none, []⟩,
                        ⟨(some 4), .mv (.t 9), none, [0]⟩])
                   (.cond (.t 4)
                     (.skip)
                     (.seq (.reg false [⟨(some 10), .bin .eql (.t 3) (.v (.int .i64 13)), none, []⟩,
                           ⟨(some 4), .mv (.t 10), none, [0]⟩])
                      (.cond (.t 4)
                        (.skip)
                        (.seq (.reg false [⟨(some 11), .bin .eql (.t 3) (.v (.int .i64 16)), none, []⟩,
                              ⟨(some 4), .mv (.t 11), none, [0]⟩])
                         (.cond (.t 4)
                           (.skip)
                           (.seq (.reg false [⟨(some 12), .bin .eql (.t 3) (.v (.int .i64 18)), none, []⟩,
                                 ⟨(some 4), .mv (.t 12), none, [0]⟩])
                            (.cond (.t 4)
                              (.skip)
                              (.reg false [⟨(some 13), .bin .eql (.t 3) (.v (.int .i64 20)), none, []⟩,
                                   ⟨(some 4), .mv (.t 13), none, [0]⟩])))))))))))))))))
      (.cond (.t 4)
        (.seq (.reg false [⟨(some 2), .mv (.v (.bool true)), none, []⟩])
         (.ret))
        (.skip)))))
   (.seq (.reg false [⟨(some 2), .mv (.v (.bool false)), none, []⟩])
    (.ret)))
def pr23 : List PR := [.t 2]
theorem bd23 : Tryd.f23.body = some (Tryd.f23.body.getD .skip) := by kernel_rfl
theorem cp23 : compC Tryd.prog Tryd.f23.ntmps eqsL (Tryd.f23.body.getD .skip) = some pc23 := by kernel_rfl
theorem sp23 [WInv] {env : Env} (hE : EnvOK Tryd.prog env) {R : List Pa → List Pa → Prop} (hR : ∀ ps rs, R ps rs → ps.length ≤ 14 ∧ pwp env pc23 (fun e s => (e = .normal ∨ e = .ret) ∧ s.res pr23 = some rs) (St.init ps)) : Spec Tryd.prog 23 R :=
  fn_sound hE eqsOK mixedOK Tryd.func23 bd23 cp23 (by kernel_rfl) (by kernel_rfl) hR

/-! interleave/interleaveref20.Acquires -/
def pc24 : PC :=
 .seq (.reg false [⟨(some 2), .mv (.v (.bool false)), none, []⟩])
  (.seq (.seq (.reg false [⟨(some 3), .mv (.t 0), none, []⟩])
    (.block 0 (.seq (.seq (.reg false [⟨(some 5), .bin .eql (.t 3) (.v (.int .i64 3)), none, []⟩,
            ⟨(some 4), .mv (.t 5), none, [0]⟩])
       (.cond (.t 4)
         (.skip)
         (.seq (.reg false [⟨(some 6), .bin .eql (.t 3) (.v (.int .i64 5)), none, []⟩,
               ⟨(some 4), .mv (.t 6), none, [0]⟩])
          (.cond (.t 4)
            (.skip)
            (.seq (.reg false [⟨(some 7), .bin .eql (.t 3) (.v (.int .i64 6)), none, []⟩,
                  ⟨(some 4), .mv (.t 7), none, [0]⟩])
             (.cond (.t 4)
               (.skip)
               (.seq (.reg false [⟨(some 8), .bin .eql (.t 3) (.v (.int .i64 8)), none, []⟩,
                     ⟨(some 4), .mv (.t 8), none, [0]⟩])
                (.cond (.t 4)
                  (.skip)
                  (.seq (.reg false [⟨(some 9), .bin .eql (.t 3) (.v (.int .i64 11)), none, []⟩,
                        ⟨(some 4), .mv (.t 9), none, [0]⟩])
                   (.cond (.t 4)
                     (.skip)
                     (.seq (.reg false [⟨(some 10), .bin .eql (.t 3) (.v (.int .i64 13)), none, []⟩,
                           ⟨(some 4), .mv (.t 10), none, [0]⟩])
                      (.cond (.t 4)
                        (.skip)
                        (.seq (.reg false [⟨(some 11), .bin .eql (.t 3) (.v (.int .i64 16)), none, []⟩,
                              ⟨(some 4), .mv (.t 11), none, [0]⟩])
                         (.cond (.t 4)
                           (.skip)
                           (.seq (.reg false [⟨(some 12), .bin .eql (.t 3) (.v (.int .i64 18)), none, []⟩,
                                 ⟨(some 4), .mv (.t 12), none, [0]⟩])
                            (.cond (.t 4)
                              (.skip)
                              (.reg false [⟨(some 13), .bin .eql (.t 3) (.v (.int .i64 20)), none, []⟩,
                                   ⟨(some 4), .mv (.t 13), none, [0]⟩])))))))))))))))))
      (.cond (.t 4)
        (.seq (.reg false [⟨(some 2), .mv (.v (.bool true)), none, []⟩])
         (.ret))
        (.skip)))))
   (.seq (.reg false [⟨(some 2), .mv (.v (.bool false)), none, []⟩])
    (.ret)))
def pr24 : List PR := [.t 2]
theorem bd24 : Tryd.f24.body = some (Tryd.f24.body.getD .skip) := by kernel_rfl
theorem cp24 : compC Tryd.prog Tryd.f24.ntmps eqsL (Tryd.f24.body.getD .skip) = some pc24 := by kernel_rfl
theorem sp24 [WInv] {env : Env} (hE : EnvOK Tryd.prog env) {R : List Pa → List Pa → Prop} (hR : ∀ ps rs, R ps rs → ps.length ≤ 14 ∧ pwp env pc24 (fun e s => (e = .normal ∨ e = .ret) ∧ s.res pr24 = some rs) (St.init ps)) : Spec Tryd.prog 24 R :=
  fn_sound hE eqsOK mixedOK Tryd.func24 bd24 cp24 (by kernel_rfl) (by kernel_rfl) hR

/-! interleave/event.Releases -/
def pc25 : PC :=
 .seq (.reg false [⟨(some 2), .mv (.v (.bool false)), none, []⟩])
  (.seq (.seq (.reg false [⟨(some 3), .mv (.t 0), none, []⟩])
    (.block 0 (.seq (.seq (.reg false [⟨(some 5), .bin .eql (.t 3) (.v (.int .i64 4)), none, []⟩,
            ⟨(some 4), .mv (.t 5), none, [0]⟩])
       (.cond (.t 4)
         (.skip)
         (.seq (.reg false [⟨(some 6), .bin .eql (.t 3) (.v (.int .i64 5)), none, []⟩,
               ⟨(some 4), .mv (.t 6), none, [0]⟩])
          (.cond (.t 4)
            (.skip)
            (.seq (.reg false [⟨(some 7), .bin .eql (.t 3) (.v (.int .i64 7)), none, []⟩,
                  ⟨(some 4), .mv (.t 7), none, [0]⟩])
             (.cond (.t 4)
               (.skip)
               (.seq (.reg false [⟨(some 8), .bin .eql (.t 3) (.v (.int .i64 9)), none, []⟩,
                     ⟨(some 4), .mv (.t 8), none, [0]⟩])
                (.cond (.t 4)
                  (.skip)
                  (.seq (.reg false [⟨(some 9), .bin .eql (.t 3) (.v (.int .i64 10)), none, []⟩,
                        ⟨(some 4), .mv (.t 9), none, [0]⟩])
                   (.cond (.t 4)
                     (.skip)
                     (.seq (.reg false [⟨(some 10), .bin .eql (.t 3) (.v (.int .i64 12)), none, []⟩,
                           ⟨(some 4), .mv (.t 10), none, [0]⟩])
                      (.cond (.t 4)
                        (.skip)
                        (.seq (.reg false [⟨(some 11), .bin .eql (.t 3) (.v (.int .i64 14)), none, []⟩,
                              ⟨(some 4), .mv (.t 11), none, [0]⟩])
                         (.cond (.t 4)
                           (.skip)
                           (.seq (.reg false [⟨(some 12), .bin .eql (.t 3) (.v (.int .i64 15)), none, []⟩,
                                 ⟨(some 4), .mv (.t 12), none, [0]⟩])
                            (.cond (.t 4)
                              (.skip)
                              (.seq (.reg false [⟨(some 13), .bin .eql (.t 3) (.v (.int .i64 17)), none, []⟩,
                                    ⟨(some 4), .mv (.t 13), none, [0]⟩])
                               (.cond (.t 4)
                                 (.skip)
                                 (.reg false [⟨(some 14), .bin .eql (.t 3) (.v (.int .i64 19)), none, []⟩,
                                      ⟨(some 4), .mv (.t 14), none, [0]⟩])))))))))))))))))))
      (.cond (.t 4)
        (.seq (.reg false [⟨(some 2), .mv (.v (.bool true)), none, []⟩])
         (.ret))
        (.skip)))))
   (.seq (.reg false [⟨(some 2), .mv (.v (.bool false)), none, []⟩])
    (.ret)))
def pr25 : List PR := [.t 2]
theorem bd25 : Tryd.f25.body = some (Tryd.f25.body.getD .skip) := by kernel_rfl
theorem cp25 : compC Tryd.prog Tryd.f25.ntmps eqsL (Tryd.f25.body.getD .skip) = some pc25 := by kernel_rfl
theorem sp25 [WInv] {env : Env} (hE : EnvOK Tryd.prog env) {R : List Pa → List Pa → Prop} (hR : ∀ ps rs, R ps rs → ps.length ≤ 15 ∧ pwp env pc25 (fun e s => (e = .normal ∨ e = .ret) ∧ s.res pr25 = some rs) (St.init ps)) : Spec Tryd.prog 25 R :=
  fn_sound hE eqsOK mixedOK Tryd.func25 bd25 cp25 (by kernel_rfl) (by kernel_rfl) hR

/-! interleave/interleaveref20.Releases -/
def pc26 : PC :=
 .seq (.reg false [⟨(some 2), .mv (.v (.bool false)), none, []⟩])
  (.seq (.seq (.reg false [⟨(some 3), .mv (.t 0), none, []⟩])
    (.block 0 (.seq (.seq (.reg false [⟨(some 5), .bin .eql (.t 3) (.v (.int .i64 4)), none, []⟩,
            ⟨(some 4), .mv (.t 5), none, [0]⟩])
       (.cond (.t 4)
         (.skip)
         (.seq (.reg false [⟨(some 6), .bin .eql (.t 3) (.v (.int .i64 5)), none, []⟩,
               ⟨(some 4), .mv (.t 6), none, [0]⟩])
          (.cond (.t 4)
            (.skip)
            (.seq (.reg false [⟨(some 7), .bin .eql (.t 3) (.v (.int .i64 7)), none, []⟩,
                  ⟨(some 4), .mv (.t 7), none, [0]⟩])
             (.cond (.t 4)
               (.skip)
               (.seq (.reg false [⟨(some 8), .bin .eql (.t 3) (.v (.int .i64 9)), none, []⟩,
                     ⟨(some 4), .mv (.t 8), none, [0]⟩])
                (.cond (.t 4)
                  (.skip)
                  (.seq (.reg false [⟨(some 9), .bin .eql (.t 3) (.v (.int .i64 10)), none, []⟩,
                        ⟨(some 4), .mv (.t 9), none, [0]⟩])
                   (.cond (.t 4)
                     (.skip)
                     (.seq (.reg false [⟨(some 10), .bin .eql (.t 3) (.v (.int .i64 12)), none, []⟩,
                           ⟨(some 4), .mv (.t 10), none, [0]⟩])
                      (.cond (.t 4)
                        (.skip)
                        (.seq (.reg false [⟨(some 11), .bin .eql (.t 3) (.v (.int .i64 14)), none, []⟩,
                              ⟨(some 4), .mv (.t 11), none, [0]⟩])
                         (.cond (.t 4)
                           (.skip)
                           (.seq (.reg false [⟨(some 12), .bin .eql (.t 3) (.v (.int .i64 15)), none, []⟩,
                                 ⟨(some 4), .mv (.t 12), none, [0]⟩])
                            (.cond (.t 4)
                              (.skip)
                              (.seq (.reg false [⟨(some 13), .bin .eql (.t 3) (.v (.int .i64 17)), none, []⟩,
                                    ⟨(some 4), .mv (.t 13), none, [0]⟩])
                               (.cond (.t 4)
                                 (.skip)
                                 (.reg false [⟨(some 14), .bin .eql (.t 3) (.v (.int .i64 19)), none, []⟩,
                                      ⟨(some 4), .mv (.t 14), none, [0]⟩])))))))))))))))))))
      (.cond (.t 4)
        (.seq (.reg false [⟨(some 2), .mv (.v (.bool true)), none, []⟩])
         (.ret))
        (.skip)))))
   (.seq (.reg false [⟨(some 2), .mv (.v (.bool false)), none, []⟩])
    (.ret)))
def pr26 : List PR := [.t 2]
theorem bd26 : Tryd.f26.body = some (Tryd.f26.body.getD .skip) := by kernel_rfl
theorem cp26 : compC Tryd.prog Tryd.f26.ntmps eqsL (Tryd.f26.body.getD .skip) = some pc26 := by kernel_rfl
theorem sp26 [WInv] {env : Env} (hE : EnvOK Tryd.prog env) {R : List Pa → List Pa → Prop} (hR : ∀ ps rs, R ps rs → ps.length ≤ 15 ∧ pwp env pc26 (fun e s => (e = .normal ∨ e = .ret) ∧ s.res pr26 = some rs) (St.init ps)) : Spec Tryd.prog 26 R :=
  fn_sound hE eqsOK mixedOK Tryd.func26 bd26 cp26 (by kernel_rfl) (by kernel_rfl) hR

/-! interleave/event.isKind -/
def pc27 : PC :=
 .seq (.reg false [⟨(some 2), .mv (.v (.bool false)), none, []⟩])
  (.seq (.reg false [⟨(some 3), .mv (.t 0), none, []⟩,
        ⟨(some 4), .bin .geq (.t 3) (.v (.int .i64 1)), none, [0]⟩,
        ⟨(some 5), .mv (.t 4), none, [1]⟩,
        ⟨(some 6), .mv (.t 0), (some (5, true)), [2]⟩,
        ⟨(some 7), .bin .leq (.t 6) (.v (.int .i64 20)), (some (5, true)), [3, 2]⟩,
        ⟨(some 8), .pick (.t 5) (.t 7) (.v (.bool false)), none, [2, 4]⟩,
        ⟨(some 2), .mv (.t 8), none, [5, 2, 0, 1, 2, 3, 4, 5]⟩])
   (.ret))
def pr27 : List PR := [.t 2]
theorem bd27 : Tryd.f27.body = some (Tryd.f27.body.getD .skip) := by kernel_rfl
theorem cp27 : compC Tryd.prog Tryd.f27.ntmps eqsL (Tryd.f27.body.getD .skip) = some pc27 := by kernel_rfl
theorem sp27 [WInv] {env : Env} (hE : EnvOK Tryd.prog env) {R : List Pa → List Pa → Prop} (hR : ∀ ps rs, R ps rs → ps.length ≤ 9 ∧ pwp env pc27 (fun e s => (e = .normal ∨ e = .ret) ∧ s.res pr27 = some rs) (St.init ps)) : Spec Tryd.prog 27 R :=
  fn_sound hE eqsOK mixedOK Tryd.func27 bd27 cp27 (by kernel_rfl) (by kernel_rfl) hR

/-! interleave/event.numbered -/
def pc28 : PC :=
 .seq (.reg false [⟨(some 2), .mv (.v (.bool false)), none, []⟩])
  (.seq (.reg false [⟨(some 3), .mv (.t 0), none, []⟩,
        ⟨(some 4), .bin .geq (.t 3) (.v (.int .i64 15)), none, [0]⟩,
        ⟨(some 5), .mv (.t 4), none, [1]⟩,
        ⟨(some 6), .mv (.t 0), (some (5, true)), [2]⟩,
        ⟨(some 7), .bin .leq (.t 6) (.v (.int .i64 18)), (some (5, true)), [3, 2]⟩,
        ⟨(some 8), .pick (.t 5) (.t 7) (.v (.bool false)), none, [2, 4]⟩,
        ⟨(some 2), .mv (.t 8), none, [5, 2, 0, 1, 2, 3, 4, 5]⟩])
   (.ret))
def pr28 : List PR := [.t 2]
theorem bd28 : Tryd.f28.body = some (Tryd.f28.body.getD .skip) := by kernel_rfl
theorem cp28 : compC Tryd.prog Tryd.f28.ntmps eqsL (Tryd.f28.body.getD .skip) = some pc28 := by kernel_rfl
theorem sp28 [WInv] {env : Env} (hE : EnvOK Tryd.prog env) {R : List Pa → List Pa → Prop} (hR : ∀ ps rs, R ps rs → ps.length ≤ 9 ∧ pwp env pc28 (fun e s => (e = .normal ∨ e = .ret) ∧ s.res pr28 = some rs) (St.init ps)) : Spec Tryd.prog 28 R :=
  fn_sound hE eqsOK mixedOK Tryd.func28 bd28 cp28 (by kernel_rfl) (by kernel_rfl) hR

/-! interleave/interleaveref20.Name -/
def pc29 : PC :=
 .seq (.reg false [⟨(some 2), .mv (.v (.string ⟨#[]⟩)), none, []⟩])
  (.seq (.reg false [⟨(some 4), .bslice 9 1 [(.string ⟨#[]⟩), (.string ⟨#[]⟩), (.string ⟨#[]⟩), (.string ⟨#[]⟩), (.string ⟨#[]⟩), (.string ⟨#[]⟩), (.string ⟨#[]⟩), (.string ⟨#[]⟩), (.string ⟨#[]⟩), (.string ⟨#[]⟩), (.string ⟨#[]⟩), (.string ⟨#[]⟩), (.string ⟨#[]⟩), (.string ⟨#[]⟩), (.string ⟨#[]⟩), (.string ⟨#[]⟩), (.string ⟨#[]⟩), (.string ⟨#[]⟩), (.string ⟨#[]⟩), (.string ⟨#[]⟩), (.string ⟨#[]⟩)] 21 [(0, 1, (.v (.string ⟨#[]⟩))), (1, 1, (.v (.string ⟨#[114, 101, 97, 100]⟩))), (2, 1, (.v (.string ⟨#[119, 114, 105, 116, 101]⟩))), (3, 1, (.v (.string ⟨#[97, 116, 111, 109, 105, 99, 45, 114, 101, 97, 100]⟩))), (4, 1, (.v (.string ⟨#[97, 116, 111, 109, 105, 99, 45, 119, 114, 105, 116, 101]⟩))), (5, 1, (.v (.string ⟨#[97, 116, 111, 109, 105, 99, 45, 98, 111, 116, 104]⟩))), (6, 1, (.v (.string ⟨#[108, 111, 99, 107]⟩))), (7, 1, (.v (.string ⟨#[117, 110, 108, 111, 99, 107]⟩))), (8, 1, (.v (.string ⟨#[114, 108, 111, 99, 107]⟩))), (9, 1, (.v (.string ⟨#[114, 117, 110, 108, 111, 99, 107]⟩))), (10, 1, (.v (.string ⟨#[100, 111, 110, 101]⟩))), (11, 1, (.v (.string ⟨#[119, 97, 105, 116]⟩))), (12, 1, (.v (.string ⟨#[111, 110, 99, 101, 45, 101, 110, 100]⟩))), (13, 1, (.v (.string ⟨#[111, 110, 99, 101, 45, 115, 101, 101, 110]⟩))), (14, 1, (.v (.string ⟨#[103, 111]⟩))), (15, 1, (.v (.string ⟨#[115, 101, 110, 100, 45, 115, 116, 97, 114, 116]⟩))), (16, 1, (.v (.string ⟨#[115, 101, 110, 100, 45, 101, 110, 100]⟩))), (17, 1, (.v (.string ⟨#[114, 101, 99, 118, 45, 115, 116, 97, 114, 116]⟩))), (18, 1, (.v (.string ⟨#[114, 101, 99, 118, 45, 101, 110, 100]⟩))), (19, 1, (.v (.string ⟨#[99, 108, 111, 115, 101]⟩))), (20, 1, (.v (.string ⟨#[114, 101, 99, 118, 45, 99, 108, 111, 115, 101, 100]⟩)))], none, []⟩,
        ⟨(some 3), .mv (.t 4), none, [0, 0]⟩])
   (.seq (.seq (.reg false [⟨(some 5), .mv (.t 0), none, []⟩,
          ⟨(some 6), .bin .lss (.t 5) (.v (.int .i64 1)), none, [0]⟩,
          ⟨(some 7), .mv (.t 6), none, [1]⟩,
          ⟨(some 8), .mv (.t 0), (some (7, false)), [2]⟩,
          ⟨(some 9), .bin .gtr (.t 8) (.v (.int .i64 20)), (some (7, false)), [3, 2]⟩,
          ⟨(some 10), .pick (.t 7) (.v (.bool true)) (.t 9), none, [2, 4]⟩])
     (.cond (.t 10)
       (.seq (.reg false [⟨(some 2), .mv (.v (.string ⟨#[]⟩)), none, []⟩])
        (.ret))
       (.skip)))
    (.seq (.reg false [⟨(some 11), .mv (.t 3), none, []⟩,
          ⟨(some 12), .mv (.t 0), none, []⟩,
          ⟨(some 13), .ixs 1 (.t 11) (.t 12), none, [0, 1]⟩,
          ⟨(some 14), .load none (.t 13), none, [2]⟩,
          ⟨(some 2), .mv (.t 14), none, [3, 0, 1, 2, 3]⟩])
     (.ret))))
def pr29 : List PR := [.t 2]
theorem bd29 : Tryd.f29.body = some (Tryd.f29.body.getD .skip) := by kernel_rfl
theorem cp29 : compC Tryd.prog Tryd.f29.ntmps eqsL (Tryd.f29.body.getD .skip) = some pc29 := by kernel_rfl
theorem sp29 [WInv] {env : Env} (hE : EnvOK Tryd.prog env) {R : List Pa → List Pa → Prop} (hR : ∀ ps rs, R ps rs → ps.length ≤ 15 ∧ pwp env pc29 (fun e s => (e = .normal ∨ e = .ret) ∧ s.res pr29 = some rs) (St.init ps)) : Spec Tryd.prog 29 R :=
  fn_sound hE eqsOK mixedOK Tryd.func29 bd29 cp29 (by kernel_rfl) (by kernel_rfl) hR

/-! interleave/interleaveref20.Decimal -/
def pc32 : PC :=
 .seq (.reg false [⟨(some 2), .mv (.v (.string ⟨#[]⟩)), none, []⟩])
  (.seq (.reg false [⟨(some 3), .mv (.v (.string ⟨#[]⟩)), none, []⟩])
   (.seq (.block 0 (.loop (.seq (.seq (.reg false [⟨(some 4), .mv (.t 0), none, []⟩,
             ⟨(some 5), .bin .geq (.t 4) (.v (.int .i64 10)), none, [0]⟩])
        (.cond (.t 5)
          (.skip)
          (.exit 0)))
       (.block 1 (.seq (.reg false [⟨(some 6), .mv (.t 0), none, []⟩,
              ⟨(some 7), .bin .rem (.t 6) (.v (.int .i64 10)), none, [0]⟩,
              ⟨(some 8), .bin .add (.v (.int .i64 48)) (.t 7), none, [1]⟩,
              ⟨(some 9), .conv .u8 (.t 8), none, [2]⟩,
              ⟨(some 10), .bslice 5 1 [(.int .u8 0)] 1 [(0, 1, (.t 9))], none, [3]⟩,
              ⟨(some 11), .bstr (.t 10), none, [4]⟩,
              ⟨(some 12), .mv (.t 3), none, []⟩,
              ⟨(some 13), .bin .add (.t 11) (.t 12), none, [5, 6]⟩,
              ⟨(some 3), .mv (.t 13), none, [7, 0, 1, 2, 3, 4, 5, 6, 7]⟩])
         (.reg false [⟨(some 14), .mv (.t 0), none, []⟩,
              ⟨(some 15), .bin .quo (.t 14) (.v (.int .i64 10)), none, [0]⟩,
              ⟨(some 0), .mv (.t 15), none, [1, 0, 1]⟩]))))))
    (.seq (.reg false [⟨(some 16), .mv (.t 0), none, []⟩,
          ⟨(some 17), .bin .add (.v (.int .i64 48)) (.t 16), none, [0]⟩,
          ⟨(some 18), .conv .u8 (.t 17), none, [1]⟩,
          ⟨(some 19), .bslice 5 1 [(.int .u8 0)] 1 [(0, 1, (.t 18))], none, [2]⟩,
          ⟨(some 20), .bstr (.t 19), none, [3]⟩,
          ⟨(some 21), .mv (.t 3), none, []⟩,
          ⟨(some 22), .bin .add (.t 20) (.t 21), none, [4, 5]⟩,
          ⟨(some 2), .mv (.t 22), none, [6, 0, 1, 2, 3, 4, 5, 6]⟩])
     (.ret))))
def pr32 : List PR := [.t 2]
abbrev ms32_0 : List Nat := [4, 5, 6, 7, 8, 9, 10, 11, 12, 13, 3, 14, 15, 0]
abbrev os32_0 : List Nat := [10]
theorem bd32 : Tryd.f32.body = some (Tryd.f32.body.getD .skip) := by kernel_rfl
theorem cp32 : compC Tryd.prog Tryd.f32.ntmps eqsL (Tryd.f32.body.getD .skip) = some pc32 := by kernel_rfl
theorem sp32 [WInv] {env : Env} (hE : EnvOK Tryd.prog env) {R : List Pa → List Pa → Prop} (hR : ∀ ps rs, R ps rs → ps.length ≤ 23 ∧ pwp env pc32 (fun e s => (e = .normal ∨ e = .ret) ∧ s.res pr32 = some rs) (St.init ps)) : Spec Tryd.prog 32 R :=
  fn_sound hE eqsOK mixedOK Tryd.func32 bd32 cp32 (by kernel_rfl) (by kernel_rfl) hR

/-! interleave/event.number -/
def pc34 : PC :=
 .seq (.reg false [⟨(some 4), .mv (.v (.int .i64 0)), none, []⟩])
  (.seq (.reg false [⟨(some 10), .mv (.t 0), none, []⟩,
        ⟨(some 11), .mv (.t 1), none, []⟩,
        ⟨(some 12), .call 37 [(.t 10), (.t 11)], none, [0, 1]⟩,
        ⟨(some 9), .mv (.t 12), none, [2]⟩,
        ⟨(some 13), .ext (.t 9) 0, none, [3]⟩,
        ⟨(some 14), .ext (.t 9) 1, none, [3]⟩,
        ⟨(some 5), .mv (.t 13), none, [4, 2, 0, 1, 2, 3, 4]⟩,
        ⟨(some 6), .mv (.t 14), none, [5, 6, 0, 1, 2, 3, 4, 5, 6]⟩])
   (.seq (.reg false [⟨(some 16), .mv (.t 5), none, []⟩,
         ⟨(some 17), .call 46 [(.t 16)], none, [0]⟩,
         ⟨(some 15), .mv (.t 17), none, [1]⟩,
         ⟨(some 18), .ext (.t 15) 0, none, [2]⟩,
         ⟨(some 19), .ext (.t 15) 1, none, [2]⟩,
         ⟨(some 7), .mv (.t 18), none, [3, 1, 0, 1, 2, 3]⟩,
         ⟨(some 8), .mv (.t 19), none, [4, 5, 0, 1, 2, 3, 4, 5]⟩])
    (.seq (.seq (.reg false [⟨(some 20), .mv (.t 6), none, []⟩,
           ⟨(some 21), .un .not (.t 20), none, [0]⟩,
           ⟨(some 22), .mv (.t 21), none, [1]⟩,
           ⟨(some 23), .mv (.t 8), (some (22, false)), [2]⟩,
           ⟨(some 24), .niq true (.t 23), (some (22, false)), [3, 2]⟩,
           ⟨(some 25), .pick (.t 22) (.v (.bool true)) (.t 24), none, [2, 4]⟩])
      (.cond (.t 25)
        (.seq (.reg false [⟨(some 4), .mv (.v (.int .i64 (-1))), none, []⟩])
         (.ret))
        (.skip)))
     (.seq (.reg false [⟨(some 26), .mv (.t 7), none, []⟩,
           ⟨(some 4), .mv (.t 26), none, [0, 0]⟩])
      (.ret)))))
def pr34 : List PR := [.t 4]
theorem bd34 : Tryd.f34.body = some (Tryd.f34.body.getD .skip) := by kernel_rfl
theorem cp34 : compC Tryd.prog Tryd.f34.ntmps eqsL (Tryd.f34.body.getD .skip) = some pc34 := by kernel_rfl
theorem sp34 [WInv] {env : Env} (hE : EnvOK Tryd.prog env) {R : List Pa → List Pa → Prop} (hR : ∀ ps rs, R ps rs → ps.length ≤ 27 ∧ pwp env pc34 (fun e s => (e = .normal ∨ e = .ret) ∧ s.res pr34 = some rs) (St.init ps)) : Spec Tryd.prog 34 R :=
  fn_sound hE eqsOK mixedOK Tryd.func34 bd34 cp34 (by kernel_rfl) (by kernel_rfl) hR

/-! interleave/event.kindOf -/
def pc35 : PC :=
 .seq (.reg false [⟨(some 2), .mv (.v (.int .i64 0)), none, []⟩])
  (.seq (.seq (.reg false [⟨(some 4), .mv (.v (.int .i64 0)), none, []⟩])
    (.block 0 (.loop (.seq (.reg false [⟨(some 5), .bin .lss (.t 4) (.v (.int .i64 21)), none, []⟩])
       (.seq (.cond (.t 5)
          (.skip)
          (.exit 0))
        (.seq (.block 1 (.seq (.reg false [⟨(some 6), .mv (.t 4), none, []⟩,
                ⟨(some 3), .mv (.t 6), none, [0, 0]⟩])
           (.seq (.reg false [⟨(some 7), .mv (.t 3), none, []⟩,
                 ⟨(some 8), .bin .gtr (.t 7) (.v (.int .i64 0)), none, [0]⟩,
                 ⟨(some 9), .mv (.t 8), none, [1]⟩,
                 ⟨(some 10), .mv (.t 3), (some (9, true)), [2]⟩,
                 ⟨(some 11), .ixg 21 1 0 (.t 10), (some (9, true)), [3, 2]⟩,
                 ⟨(some 12), .ldg (.t 11), (some (9, true)), [4, 2]⟩,
                 ⟨(some 13), .mv (.t 0), (some (9, true)), [2]⟩,
                 ⟨(some 14), .bin .eql (.t 12) (.t 13), (some (9, true)), [5, 6, 2]⟩,
                 ⟨(some 15), .pick (.t 9) (.t 14) (.v (.bool false)), none, [2, 7]⟩])
            (.cond (.t 15)
              (.seq (.reg false [⟨(some 16), .mv (.t 3), none, []⟩,
                    ⟨(some 2), .mv (.t 16), none, [0, 0]⟩])
               (.ret))
              (.skip)))))
         (.reg false [⟨(some 17), .bin .add (.t 4) (.v (.int .i64 1)), none, []⟩,
              ⟨(some 4), .mv (.t 17), none, [0]⟩])))))))
   (.seq (.reg false [⟨(some 2), .mv (.v (.int .i64 0)), none, []⟩])
    (.ret)))
def pr35 : List PR := [.t 2]
abbrev ms35_0 : List Nat := [5, 6, 3, 7, 8, 9, 10, 11, 12, 13, 14, 15, 16, 2, 17, 4]
abbrev os35_0 : List Nat := []
theorem bd35 : Tryd.f35.body = some (Tryd.f35.body.getD .skip) := by kernel_rfl
theorem cp35 : compC Tryd.prog Tryd.f35.ntmps eqsL (Tryd.f35.body.getD .skip) = some pc35 := by kernel_rfl
theorem sp35 [WInv] {env : Env} (hE : EnvOK Tryd.prog env) {R : List Pa → List Pa → Prop} (hR : ∀ ps rs, R ps rs → ps.length ≤ 18 ∧ pwp env pc35 (fun e s => (e = .normal ∨ e = .ret) ∧ s.res pr35 = some rs) (St.init ps)) : Spec Tryd.prog 35 R :=
  fn_sound hE eqsOK mixedOK Tryd.func35 bd35 cp35 (by kernel_rfl) (by kernel_rfl) hR

/-! interleave/event.pair -/
def pc36 : PC :=
 .seq (.reg false [⟨(some 4), .mv (.v (.int .i64 0)), none, []⟩,
       ⟨(some 5), .mv (.v (.int .i64 0)), none, [0]⟩])
  (.seq (.reg false [⟨(some 10), .mv (.t 0), none, []⟩,
        ⟨(some 11), .mv (.t 1), none, []⟩,
        ⟨(some 12), .call 47 [(.t 10), (.t 11)], none, [0, 1]⟩,
        ⟨(some 9), .mv (.t 12), none, [2]⟩,
        ⟨(some 13), .ext (.t 9) 0, none, [3]⟩,
        ⟨(some 14), .ext (.t 9) 1, none, [3]⟩,
        ⟨(some 15), .ext (.t 9) 2, none, [3]⟩,
        ⟨(some 6), .mv (.t 13), none, [4, 2, 0, 1, 2, 3, 4]⟩,
        ⟨(some 7), .mv (.t 14), none, [5, 7, 0, 1, 2, 3, 4, 5, 7]⟩,
        ⟨(some 8), .mv (.t 15), none, [6, 8, 0, 1, 2, 3, 4, 5, 6, 7, 8]⟩])
   (.seq (.seq (.reg false [⟨(some 16), .mv (.t 8), none, []⟩,
          ⟨(some 17), .un .not (.t 16), none, [0]⟩])
     (.cond (.t 17)
       (.seq (.reg false [⟨(some 4), .mv (.v (.int .i64 (-1))), none, []⟩,
             ⟨(some 5), .mv (.v (.int .i64 (-1))), none, [0, 0]⟩])
        (.ret))
       (.skip)))
    (.seq (.reg false [⟨(some 18), .mv (.t 6), none, []⟩,
          ⟨(some 19), .call 34 [(.t 18), (.v (.string ⟨#[]⟩))], none, [0]⟩,
          ⟨(some 20), .mv (.t 7), none, []⟩,
          ⟨(some 21), .call 34 [(.t 20), (.v (.string ⟨#[]⟩))], none, [2, 1]⟩,
          ⟨(some 4), .mv (.t 19), none, [1, 3, 0, 1]⟩,
          ⟨(some 5), .mv (.t 21), none, [3, 4, 0, 1, 2, 3, 4]⟩])
     (.ret))))
def pr36 : List PR := [.t 4, .t 5]
theorem bd36 : Tryd.f36.body = some (Tryd.f36.body.getD .skip) := by kernel_rfl
theorem cp36 : compC Tryd.prog Tryd.f36.ntmps eqsL (Tryd.f36.body.getD .skip) = some pc36 := by kernel_rfl
theorem sp36 [WInv] {env : Env} (hE : EnvOK Tryd.prog env) {R : List Pa → List Pa → Prop} (hR : ∀ ps rs, R ps rs → ps.length ≤ 22 ∧ pwp env pc36 (fun e s => (e = .normal ∨ e = .ret) ∧ s.res pr36 = some rs) (St.init ps)) : Spec Tryd.prog 36 R :=
  fn_sound hE eqsOK mixedOK Tryd.func36 bd36 cp36 (by kernel_rfl) (by kernel_rfl) hR


end Go.Proofs.YthnjbnfnljjepabDoor
end
section
set_option linter.unusedSimpArgs false
set_option linter.unusedVariables false
namespace Go.Proofs.YthnjbnfnljjepabDoor
open Go Go.RowKit
set_option maxRecDepth 100000
set_option maxHeartbeats 4000000

def R_channel20 (ps rs : List Pa) : Prop := ∃ k : Int, ps = [pI k] ∧ rs = [pB (chanB k)]
theorem s_channel20 : Spec Tryd.prog 22 R_channel20 := by
  refine sp22 EnvOK.e0 ?_
  rintro ps rs ⟨k, rfl, rfl⟩
  refine ⟨by simp, ?_⟩
  unfold pc22
  refine pwp_start ?_
  simp only [↓evP, evB, stB, reduceIte, reduceCtorEq, Nat.reduceEqDiff, Nat.reduceAdd, Nat.reduceMul, Nat.reduceLeDiff, Nat.reduceLT, Nat.reduceSub, Nat.reduceBEq, pr22]
  refine ⟨fun h => ?_, fun h => ?_⟩
  · unfold chanB; rw [decide_eq_decide.2 (show (15 ≤ k ∧ k ≤ 20) ↔ k ≤ 20 from ⟨fun h => h.2, fun h2 => ⟨h, h2⟩⟩)]
  · unfold chanB; rw [decide_eq_false (fun h2 => h h2.1)]
/-- the names of the kinds -/
def R_name (ps rs : List Pa) : Prop := ∃ k : Int, ps = [pI k] ∧ ∃ s, rs = [.one (.sc (.string s))] ∧ s = (if k < 1 ∨ 20 < k then ⟨#[]⟩ else (kindNames[k.toNat]?).getD ⟨#[]⟩)
theorem s_name : Spec Tryd.prog 29 R_name := by
  refine sp29 EnvOK.e0 ?_
  rintro ps rs ⟨k, rfl, s, rfl, hs⟩
  refine ⟨by simp, ?_⟩
  unfold pc29
  refine pwp_start ?_
  by_cases h1 : k < 1
  · rw [if_pos (.inl h1)] at hs
    subst hs
    simp only [↓evP, evB, stB, reduceIte, reduceCtorEq, Nat.reduceEqDiff, Nat.reduceAdd, Nat.reduceMul, Nat.reduceLeDiff, Nat.reduceLT, Nat.reduceSub, Nat.reduceBEq, h1, pr29]
  by_cases h2 : k > 20
  · rw [if_pos (.inr h2)] at hs
    subst hs
    simp only [↓evP, evB, stB, reduceIte, reduceCtorEq, Nat.reduceEqDiff, Nat.reduceAdd, Nat.reduceMul, Nat.reduceLeDiff, Nat.reduceLT, Nat.reduceSub, Nat.reduceBEq, h1, h2, decide_true, decide_false, pr29]
  rw [if_neg (fun h => h.elim h1 h2)] at hs
  obtain ⟨m, rfl⟩ := Int.eq_ofNat_of_zero_le (show 0 ≤ k by omega)
  obtain ⟨u, hu⟩ : ∃ u, kindNames[m]? = some u := ⟨_, List.getElem?_eq_getElem (by show m < 21; omega)⟩
  rw [Int.toNat_natCast, hu, Option.getD_some] at hs
  subst hs
  have hrow : (kindNames.map fun x => [Dt.sc (.string x)])[m]? = some [.sc (.string s)] := by rw [List.getElem?_map, hu]; rfl
  unfold kindNames at hrow
  simp only [List.map_cons, List.map_nil] at hrow
  simp only [↓evP, evB, stB, reduceIte, reduceCtorEq, Nat.reduceEqDiff, Nat.reduceAdd, Nat.reduceMul, Nat.reduceLeDiff, Nat.reduceLT, Nat.reduceSub, Nat.reduceBEq, h1, h2, decide_true, decide_false, hrow, pr29]
end Go.Proofs.YthnjbnfnljjepabDoor
end
section
set_option linter.unusedSimpArgs false
set_option linter.unusedVariables false
namespace Go.Proofs.YthnjbnfnljjepabDoor
open Go Go.RowKit
set_option maxRecDepth 100000
set_option maxHeartbeats 4000000

def R_valid20 (ps rs : List Pa) : Prop := ∃ e : Ev, ps = [e.pa] ∧ rs = [pB e.valid]
def env_valid20 : Env := e1 29 R_name e0
theorem env_valid20_ok : EnvOK Tryd.prog env_valid20 := EnvOK.e1 s_name EnvOK.e0

theorem valid20_c1 {e : Ev} (hr : 0 ≤ e.k) (Q : Exit → St → Prop)
    (hQ : ∀ st, st.res pr12 = some [pB (decide (e.obj = 0 ∧ e.off = 0 ∧ e.n = 0 ∧ 1 ≤ e.k ∧ e.k < 8))] → Q .ret st) (st : St)
    (h1 : st.sl 1 = .b (.one (.ptr 1 1 0))) (g1 : st.gen 1 = 1) (o1 : st.ob 1 = .cells (e.row.map .d)) :
    pwp env_valid20 pc12c1 (exS env_valid20 [It.bl 2, It.c pc12c0] Q) st := by
  simp only [Ev.row, List.map_cons, List.map_nil] at o1
  unfold pc12c1
  simp only [↓evP, evB, stB, reduceIte, reduceCtorEq, Nat.reduceEqDiff, Nat.reduceAdd, Nat.reduceMul, Nat.reduceLeDiff, Nat.reduceLT, Nat.reduceSub, Nat.reduceBEq, h1, g1, o1]
  repeat' (first | apply And.intro | intro)
  all_goals (refine hQ _ ?_; simp only [stB, reduceIte, reduceCtorEq, Nat.reduceEqDiff, Nat.reduceAdd, Nat.reduceMul, Nat.reduceLeDiff, Nat.reduceLT, Nat.reduceSub, Nat.reduceBEq, pr12]; refine congrArg (fun b => some [pB b]) (Bool.eq_iff_iff.2 ?_); simp only [beq_iff_eq, beq_eq_false_iff_ne, ne_eq, decide_eq_true_eq, decide_eq_false_iff_not, Bool.false_eq_true, reduceCtorEq, false_iff, true_iff, iff_false, iff_true] at *; omega)
theorem valid20_c2 {e : Ev} (hr : 0 ≤ e.k) (Q : Exit → St → Prop)
    (hQ : ∀ st, st.res pr12 = some [pB (decide (e.off = 0 ∧ e.n ≤ 64))] → Q .ret st) (st : St)
    (h1 : st.sl 1 = .b (.one (.ptr 1 1 0))) (g1 : st.gen 1 = 1) (o1 : st.ob 1 = .cells (e.row.map .d)) :
    pwp env_valid20 pc12c2 (exS env_valid20 [It.bl 2, It.c pc12c0] Q) st := by
  simp only [Ev.row, List.map_cons, List.map_nil] at o1
  unfold pc12c2
  simp only [↓evP, evB, stB, reduceIte, reduceCtorEq, Nat.reduceEqDiff, Nat.reduceAdd, Nat.reduceMul, Nat.reduceLeDiff, Nat.reduceLT, Nat.reduceSub, Nat.reduceBEq, h1, g1, o1]
  repeat' (first | apply And.intro | intro)
  all_goals (refine hQ _ ?_; simp only [stB, reduceIte, reduceCtorEq, Nat.reduceEqDiff, Nat.reduceAdd, Nat.reduceMul, Nat.reduceLeDiff, Nat.reduceLT, Nat.reduceSub, Nat.reduceBEq, pr12]; refine congrArg (fun b => some [pB b]) (Bool.eq_iff_iff.2 ?_); simp only [beq_iff_eq, beq_eq_false_iff_ne, ne_eq, decide_eq_true_eq, decide_eq_false_iff_not, Bool.false_eq_true, reduceCtorEq, false_iff, true_iff, iff_false, iff_true] at *; omega)
theorem valid20_c3 {e : Ev} (hr : 0 ≤ e.k) (Q : Exit → St → Prop)
    (hQ : ∀ st, st.res pr12 = some [pB (decide (e.off = 0 ∧ e.n ≤ 64 ∧ e.k = 0))] → Q .ret st) (st : St)
    (h1 : st.sl 1 = .b (.one (.ptr 1 1 0))) (g1 : st.gen 1 = 1) (o1 : st.ob 1 = .cells (e.row.map .d)) :
    pwp env_valid20 pc12c3 (exS env_valid20 [It.bl 2, It.c pc12c0] Q) st := by
  simp only [Ev.row, List.map_cons, List.map_nil] at o1
  unfold pc12c3
  simp only [↓evP, evB, stB, reduceIte, reduceCtorEq, Nat.reduceEqDiff, Nat.reduceAdd, Nat.reduceMul, Nat.reduceLeDiff, Nat.reduceLT, Nat.reduceSub, Nat.reduceBEq, h1, g1, o1]
  repeat' (first | apply And.intro | intro)
  all_goals (refine hQ _ ?_; simp only [stB, reduceIte, reduceCtorEq, Nat.reduceEqDiff, Nat.reduceAdd, Nat.reduceMul, Nat.reduceLeDiff, Nat.reduceLT, Nat.reduceSub, Nat.reduceBEq, pr12]; refine congrArg (fun b => some [pB b]) (Bool.eq_iff_iff.2 ?_); simp only [beq_iff_eq, beq_eq_false_iff_ne, ne_eq, decide_eq_true_eq, decide_eq_false_iff_not, Bool.false_eq_true, reduceCtorEq, false_iff, true_iff, iff_false, iff_true] at *; omega)
theorem valid20_c0 {e : Ev} (hr : 0 ≤ e.k) (Q : Exit → St → Prop)
    (hQ : ∀ st, st.res pr12 = some [pB (decide (e.k = 0 ∧ e.n = 0))] → Q .ret st) (st : St)
    (h1 : st.sl 1 = .b (.one (.ptr 1 1 0))) (g1 : st.gen 1 = 1) (o1 : st.ob 1 = .cells (e.row.map .d)) :
    pwp env_valid20 pc12c0 (exS env_valid20 [] Q) st := by
  simp only [Ev.row, List.map_cons, List.map_nil] at o1
  unfold pc12c0
  simp only [↓evP, evB, stB, reduceIte, reduceCtorEq, Nat.reduceEqDiff, Nat.reduceAdd, Nat.reduceMul, Nat.reduceLeDiff, Nat.reduceLT, Nat.reduceSub, Nat.reduceBEq, h1, g1, o1]
  repeat' (first | apply And.intro | intro)
  all_goals (refine hQ _ ?_; simp only [stB, reduceIte, reduceCtorEq, Nat.reduceEqDiff, Nat.reduceAdd, Nat.reduceMul, Nat.reduceLeDiff, Nat.reduceLT, Nat.reduceSub, Nat.reduceBEq, pr12]; refine congrArg (fun b => some [pB b]) (Bool.eq_iff_iff.2 ?_); simp only [beq_iff_eq, beq_eq_false_iff_ne, ne_eq, decide_eq_true_eq, decide_eq_false_iff_not, Bool.false_eq_true, reduceCtorEq, false_iff, true_iff, iff_false, iff_true] at *; omega)

theorem valid20_tail {e : Ev} (hk : 1 ≤ e.kind) (hk2 : e.kind ≤ 20) (hr : rangeB e.k = true) (Q : Exit → St → Prop)
    (hQ : ∀ st, st.res pr12 = some [pB e.rest] → Q .ret st) (st : St)
    (h1 : st.sl 1 = .b (.one (.ptr 1 1 0))) (g1 : st.gen 1 = 1) (o1 : st.ob 1 = .cells (e.row.map .d)) :
    pwp env_valid20 pc12c7 (exS env_valid20 [] Q) st := by
  have o1' := o1
  simp only [Ev.row, List.map_cons, List.map_nil] at o1
  have hr' : 0 ≤ e.k := by unfold rangeB at hr; simp at hr; omega
  unfold pc12c7 pc12c6
  cases k14 : (e.kind == 14) with
  | true =>
    simp only [↓evP, evB, stB, reduceIte, reduceCtorEq, Nat.reduceEqDiff, Nat.reduceAdd, Nat.reduceMul, Nat.reduceLeDiff, Nat.reduceLT, Nat.reduceSub, Nat.reduceBEq, h1, g1, o1, k14]
    have hre : e.rest = decide (e.obj = 0 ∧ e.off = 0 ∧ e.n = 0 ∧ 1 ≤ e.k ∧ e.k < 8) := by unfold Ev.rest; rw [if_pos (beq_iff_eq.1 k14)]
    rw [hre] at hQ
    exact valid20_c1 hr' Q hQ _ (by simp only [stB, reduceIte, reduceCtorEq, Nat.reduceEqDiff, Nat.reduceAdd, Nat.reduceMul, Nat.reduceLeDiff, Nat.reduceLT, Nat.reduceSub, Nat.reduceBEq, h1]) (by simp only [stB, reduceIte, reduceCtorEq, Nat.reduceEqDiff, Nat.reduceAdd, Nat.reduceMul, Nat.reduceLeDiff, Nat.reduceLT, Nat.reduceSub, Nat.reduceBEq, g1]) (by simp only [stB, reduceIte, reduceCtorEq, Nat.reduceEqDiff, Nat.reduceAdd, Nat.reduceMul, Nat.reduceLeDiff, Nat.reduceLT, Nat.reduceSub, Nat.reduceBEq, o1, Ev.row])
  | false =>
  have n14 := beq_eq_false_iff_ne.1 k14
  cases k15 : (e.kind == 15) with
  | true =>
    simp only [↓evP, evB, stB, reduceIte, reduceCtorEq, Nat.reduceEqDiff, Nat.reduceAdd, Nat.reduceMul, Nat.reduceLeDiff, Nat.reduceLT, Nat.reduceSub, Nat.reduceBEq, h1, g1, o1, k14]
    unfold pc12c5
    simp only [↓evP, evB, stB, reduceIte, reduceCtorEq, Nat.reduceEqDiff, Nat.reduceAdd, Nat.reduceMul, Nat.reduceLeDiff, Nat.reduceLT, Nat.reduceSub, Nat.reduceBEq, h1, g1, o1, k14, k15]
    have hre : e.rest = decide (e.off = 0 ∧ e.n ≤ 64) := by unfold Ev.rest; rw [if_neg n14, if_pos (by have := beq_iff_eq.1 k15; omega)]
    rw [hre] at hQ
    exact valid20_c2 hr' Q hQ _ (by simp only [stB, reduceIte, reduceCtorEq, Nat.reduceEqDiff, Nat.reduceAdd, Nat.reduceMul, Nat.reduceLeDiff, Nat.reduceLT, Nat.reduceSub, Nat.reduceBEq, h1]) (by simp only [stB, reduceIte, reduceCtorEq, Nat.reduceEqDiff, Nat.reduceAdd, Nat.reduceMul, Nat.reduceLeDiff, Nat.reduceLT, Nat.reduceSub, Nat.reduceBEq, g1]) (by simp only [stB, reduceIte, reduceCtorEq, Nat.reduceEqDiff, Nat.reduceAdd, Nat.reduceMul, Nat.reduceLeDiff, Nat.reduceLT, Nat.reduceSub, Nat.reduceBEq, o1, Ev.row])
  | false =>
  have n15 := beq_eq_false_iff_ne.1 k15
  cases k16 : (e.kind == 16) with
  | true =>
    simp only [↓evP, evB, stB, reduceIte, reduceCtorEq, Nat.reduceEqDiff, Nat.reduceAdd, Nat.reduceMul, Nat.reduceLeDiff, Nat.reduceLT, Nat.reduceSub, Nat.reduceBEq, h1, g1, o1, k14]
    unfold pc12c5
    simp only [↓evP, evB, stB, reduceIte, reduceCtorEq, Nat.reduceEqDiff, Nat.reduceAdd, Nat.reduceMul, Nat.reduceLeDiff, Nat.reduceLT, Nat.reduceSub, Nat.reduceBEq, h1, g1, o1, k14, k15, k16]
    have hre : e.rest = decide (e.off = 0 ∧ e.n ≤ 64) := by unfold Ev.rest; rw [if_neg n14, if_pos (by have := beq_iff_eq.1 k16; omega)]
    rw [hre] at hQ
    exact valid20_c2 hr' Q hQ _ (by simp only [stB, reduceIte, reduceCtorEq, Nat.reduceEqDiff, Nat.reduceAdd, Nat.reduceMul, Nat.reduceLeDiff, Nat.reduceLT, Nat.reduceSub, Nat.reduceBEq, h1]) (by simp only [stB, reduceIte, reduceCtorEq, Nat.reduceEqDiff, Nat.reduceAdd, Nat.reduceMul, Nat.reduceLeDiff, Nat.reduceLT, Nat.reduceSub, Nat.reduceBEq, g1]) (by simp only [stB, reduceIte, reduceCtorEq, Nat.reduceEqDiff, Nat.reduceAdd, Nat.reduceMul, Nat.reduceLeDiff, Nat.reduceLT, Nat.reduceSub, Nat.reduceBEq, o1, Ev.row])
  | false =>
  have n16 := beq_eq_false_iff_ne.1 k16
  cases k17 : (e.kind == 17) with
  | true =>
    simp only [↓evP, evB, stB, reduceIte, reduceCtorEq, Nat.reduceEqDiff, Nat.reduceAdd, Nat.reduceMul, Nat.reduceLeDiff, Nat.reduceLT, Nat.reduceSub, Nat.reduceBEq, h1, g1, o1, k14]
    unfold pc12c5
    simp only [↓evP, evB, stB, reduceIte, reduceCtorEq, Nat.reduceEqDiff, Nat.reduceAdd, Nat.reduceMul, Nat.reduceLeDiff, Nat.reduceLT, Nat.reduceSub, Nat.reduceBEq, h1, g1, o1, k14, k15, k16, k17]
    have hre : e.rest = decide (e.off = 0 ∧ e.n ≤ 64) := by unfold Ev.rest; rw [if_neg n14, if_pos (by have := beq_iff_eq.1 k17; omega)]
    rw [hre] at hQ
    exact valid20_c2 hr' Q hQ _ (by simp only [stB, reduceIte, reduceCtorEq, Nat.reduceEqDiff, Nat.reduceAdd, Nat.reduceMul, Nat.reduceLeDiff, Nat.reduceLT, Nat.reduceSub, Nat.reduceBEq, h1]) (by simp only [stB, reduceIte, reduceCtorEq, Nat.reduceEqDiff, Nat.reduceAdd, Nat.reduceMul, Nat.reduceLeDiff, Nat.reduceLT, Nat.reduceSub, Nat.reduceBEq, g1]) (by simp only [stB, reduceIte, reduceCtorEq, Nat.reduceEqDiff, Nat.reduceAdd, Nat.reduceMul, Nat.reduceLeDiff, Nat.reduceLT, Nat.reduceSub, Nat.reduceBEq, o1, Ev.row])
  | false =>
  have n17 := beq_eq_false_iff_ne.1 k17
  cases k18 : (e.kind == 18) with
  | true =>
    simp only [↓evP, evB, stB, reduceIte, reduceCtorEq, Nat.reduceEqDiff, Nat.reduceAdd, Nat.reduceMul, Nat.reduceLeDiff, Nat.reduceLT, Nat.reduceSub, Nat.reduceBEq, h1, g1, o1, k14]
    unfold pc12c5
    simp only [↓evP, evB, stB, reduceIte, reduceCtorEq, Nat.reduceEqDiff, Nat.reduceAdd, Nat.reduceMul, Nat.reduceLeDiff, Nat.reduceLT, Nat.reduceSub, Nat.reduceBEq, h1, g1, o1, k14, k15, k16, k17, k18]
    have hre : e.rest = decide (e.off = 0 ∧ e.n ≤ 64) := by unfold Ev.rest; rw [if_neg n14, if_pos (by have := beq_iff_eq.1 k18; omega)]
    rw [hre] at hQ
    exact valid20_c2 hr' Q hQ _ (by simp only [stB, reduceIte, reduceCtorEq, Nat.reduceEqDiff, Nat.reduceAdd, Nat.reduceMul, Nat.reduceLeDiff, Nat.reduceLT, Nat.reduceSub, Nat.reduceBEq, h1]) (by simp only [stB, reduceIte, reduceCtorEq, Nat.reduceEqDiff, Nat.reduceAdd, Nat.reduceMul, Nat.reduceLeDiff, Nat.reduceLT, Nat.reduceSub, Nat.reduceBEq, g1]) (by simp only [stB, reduceIte, reduceCtorEq, Nat.reduceEqDiff, Nat.reduceAdd, Nat.reduceMul, Nat.reduceLeDiff, Nat.reduceLT, Nat.reduceSub, Nat.reduceBEq, o1, Ev.row])
  | false =>
  have n18 := beq_eq_false_iff_ne.1 k18
  cases k19 : (e.kind == 19) with
  | true =>
    simp only [↓evP, evB, stB, reduceIte, reduceCtorEq, Nat.reduceEqDiff, Nat.reduceAdd, Nat.reduceMul, Nat.reduceLeDiff, Nat.reduceLT, Nat.reduceSub, Nat.reduceBEq, h1, g1, o1, k14]
    unfold pc12c5
    simp only [↓evP, evB, stB, reduceIte, reduceCtorEq, Nat.reduceEqDiff, Nat.reduceAdd, Nat.reduceMul, Nat.reduceLeDiff, Nat.reduceLT, Nat.reduceSub, Nat.reduceBEq, h1, g1, o1, k14, k15, k16, k17, k18]
    unfold pc12c4
    simp only [↓evP, evB, stB, reduceIte, reduceCtorEq, Nat.reduceEqDiff, Nat.reduceAdd, Nat.reduceMul, Nat.reduceLeDiff, Nat.reduceLT, Nat.reduceSub, Nat.reduceBEq, h1, g1, o1, k14, k15, k16, k17, k18, k19]
    have hre : e.rest = decide (e.off = 0 ∧ e.n ≤ 64 ∧ e.k = 0) := by unfold Ev.rest; rw [if_neg n14, if_neg (by omega), if_pos (by have := beq_iff_eq.1 k19; omega)]
    rw [hre] at hQ
    exact valid20_c3 hr' Q hQ _ (by simp only [stB, reduceIte, reduceCtorEq, Nat.reduceEqDiff, Nat.reduceAdd, Nat.reduceMul, Nat.reduceLeDiff, Nat.reduceLT, Nat.reduceSub, Nat.reduceBEq, h1]) (by simp only [stB, reduceIte, reduceCtorEq, Nat.reduceEqDiff, Nat.reduceAdd, Nat.reduceMul, Nat.reduceLeDiff, Nat.reduceLT, Nat.reduceSub, Nat.reduceBEq, g1]) (by simp only [stB, reduceIte, reduceCtorEq, Nat.reduceEqDiff, Nat.reduceAdd, Nat.reduceMul, Nat.reduceLeDiff, Nat.reduceLT, Nat.reduceSub, Nat.reduceBEq, o1, Ev.row])
  | false =>
  have n19 := beq_eq_false_iff_ne.1 k19
  cases k20 : (e.kind == 20) with
  | true =>
    simp only [↓evP, evB, stB, reduceIte, reduceCtorEq, Nat.reduceEqDiff, Nat.reduceAdd, Nat.reduceMul, Nat.reduceLeDiff, Nat.reduceLT, Nat.reduceSub, Nat.reduceBEq, h1, g1, o1, k14]
    unfold pc12c5
    simp only [↓evP, evB, stB, reduceIte, reduceCtorEq, Nat.reduceEqDiff, Nat.reduceAdd, Nat.reduceMul, Nat.reduceLeDiff, Nat.reduceLT, Nat.reduceSub, Nat.reduceBEq, h1, g1, o1, k14, k15, k16, k17, k18]
    unfold pc12c4
    simp only [↓evP, evB, stB, reduceIte, reduceCtorEq, Nat.reduceEqDiff, Nat.reduceAdd, Nat.reduceMul, Nat.reduceLeDiff, Nat.reduceLT, Nat.reduceSub, Nat.reduceBEq, h1, g1, o1, k14, k15, k16, k17, k18, k19, k20]
    have hre : e.rest = decide (e.off = 0 ∧ e.n ≤ 64 ∧ e.k = 0) := by unfold Ev.rest; rw [if_neg n14, if_neg (by omega), if_pos (by have := beq_iff_eq.1 k20; omega)]
    rw [hre] at hQ
    exact valid20_c3 hr' Q hQ _ (by simp only [stB, reduceIte, reduceCtorEq, Nat.reduceEqDiff, Nat.reduceAdd, Nat.reduceMul, Nat.reduceLeDiff, Nat.reduceLT, Nat.reduceSub, Nat.reduceBEq, h1]) (by simp only [stB, reduceIte, reduceCtorEq, Nat.reduceEqDiff, Nat.reduceAdd, Nat.reduceMul, Nat.reduceLeDiff, Nat.reduceLT, Nat.reduceSub, Nat.reduceBEq, g1]) (by simp only [stB, reduceIte, reduceCtorEq, Nat.reduceEqDiff, Nat.reduceAdd, Nat.reduceMul, Nat.reduceLeDiff, Nat.reduceLT, Nat.reduceSub, Nat.reduceBEq, o1, Ev.row])
  | false =>
  have n20 := beq_eq_false_iff_ne.1 k20
  simp only [↓evP, evB, stB, reduceIte, reduceCtorEq, Nat.reduceEqDiff, Nat.reduceAdd, Nat.reduceMul, Nat.reduceLeDiff, Nat.reduceLT, Nat.reduceSub, Nat.reduceBEq, h1, g1, o1, k14]
  unfold pc12c5
  simp only [↓evP, evB, stB, reduceIte, reduceCtorEq, Nat.reduceEqDiff, Nat.reduceAdd, Nat.reduceMul, Nat.reduceLeDiff, Nat.reduceLT, Nat.reduceSub, Nat.reduceBEq, h1, g1, o1, k14, k15, k16, k17, k18]
  unfold pc12c4
  simp only [↓evP, evB, stB, reduceIte, reduceCtorEq, Nat.reduceEqDiff, Nat.reduceAdd, Nat.reduceMul, Nat.reduceLeDiff, Nat.reduceLT, Nat.reduceSub, Nat.reduceBEq, h1, g1, o1, k14, k15, k16, k17, k18, k19, k20]
  have hre : e.rest = decide (e.k = 0 ∧ e.n = 0) := by unfold Ev.rest; rw [if_neg n14, if_neg (by omega), if_neg (by omega)]
  rw [hre] at hQ
  exact valid20_c0 hr' Q hQ _ (by simp only [stB, reduceIte, reduceCtorEq, Nat.reduceEqDiff, Nat.reduceAdd, Nat.reduceMul, Nat.reduceLeDiff, Nat.reduceLT, Nat.reduceSub, Nat.reduceBEq, h1]) (by simp only [stB, reduceIte, reduceCtorEq, Nat.reduceEqDiff, Nat.reduceAdd, Nat.reduceMul, Nat.reduceLeDiff, Nat.reduceLT, Nat.reduceSub, Nat.reduceBEq, g1]) (by simp only [stB, reduceIte, reduceCtorEq, Nat.reduceEqDiff, Nat.reduceAdd, Nat.reduceMul, Nat.reduceLeDiff, Nat.reduceLT, Nat.reduceSub, Nat.reduceBEq, o1, Ev.row])

theorem ba_loop (bs : ByteArray) : ∀ n i r, bs.size - i = n → ByteArray.toList.loop bs i r = r.reverse ++ bs.data.toList.drop i := by
  intro n
  induction n with
  | zero =>
    intro i r h
    unfold ByteArray.toList.loop
    rw [if_neg (by omega), List.drop_eq_nil_of_le (by show bs.data.toList.length ≤ i; rw [Array.length_toList]; show bs.size ≤ i; omega), List.append_nil]
  | succ n ih =>
    intro i r h
    have hi : i < bs.data.toList.length := by rw [Array.length_toList]; show i < bs.size; omega
    unfold ByteArray.toList.loop
    rw [if_pos (by omega), ih (i + 1) _ (by omega), List.drop_eq_getElem_cons hi, List.reverse_cons, List.append_assoc]
    congr 1
    show bs.get! i :: _ = _
    congr 1
    show bs.data[i]! = _
    rw [getElem!_pos bs.data i (by simpa using hi)]
    rfl
theorem ba_toList (bs : ByteArray) : bs.toList = bs.data.toList := by
  unfold ByteArray.toList
  rw [ba_loop bs _ 0 [] rfl]; rfl
def Ev.fields (e : Ev) : List Int := [e.obj, e.off, e.k, e.n, e.fn, e.pc, e.stack]
def kname (k : Int) : ByteArray := if k < 1 ∨ 20 < k then ⟨#[]⟩ else (kindNames[k.toNat]?).getD ⟨#[]⟩
theorem kname_empty (k : Int) : ((kname k).toList == (⟨#[]⟩ : ByteArray).toList) = !isKindB k := by
  unfold kname isKindB
  by_cases h : k < 1 ∨ 20 < k
  · rw [if_pos h, decide_eq_false (by omega), ba_toList]; decide
  · rw [if_neg h, decide_eq_true (by omega)]
    obtain ⟨m, rfl⟩ := Int.eq_ofNat_of_zero_le (show 0 ≤ k by omega)
    rw [Int.toNat_natCast]
    have : ∀ m : Fin 21, 1 ≤ m.val → (((kindNames[m.val]?).getD ⟨#[]⟩).data.toList == (⟨#[]⟩ : ByteArray).data.toList) = false := by decide +kernel
    rw [ba_toList, ba_toList]
    exact this ⟨m, by omega⟩ (by show 1 ≤ m; omega)
theorem Ev.valid_eq (e : Ev) : e.valid = (isKindB e.kind && decide (0 ≤ e.g ∧ e.g < 8) && e.fields.all rangeB && e.rest) := by
  unfold Ev.valid Ev.fields
  simp only [List.all_cons, List.all_nil, Bool.and_true, Bool.and_assoc]
theorem s_valid20 : Spec Tryd.prog 12 R_valid20 := by
  refine sp12 env_valid20_ok ?_
  rintro ps rs ⟨e, rfl, rfl⟩
  refine ⟨by simp, ?_⟩
  unfold pc12
  refine pwp_start ?_
  by_cases q1 : e.g < 0
  · have hv : e.valid = false := by rw [Ev.valid_eq, decide_eq_false (show ¬ (0 ≤ e.g ∧ e.g < 8) by omega)]; simp
    simp only [↓evP, evB, stB, reduceIte, reduceCtorEq, Nat.reduceEqDiff, Nat.reduceAdd, Nat.reduceMul, Nat.reduceLeDiff, Nat.reduceLT, Nat.reduceSub, Nat.reduceBEq, Ev.pa, Ev.row, q1, decide_true, decide_false, hv, pr12]
  by_cases q2 : e.g ≥ 8
  · have hv : e.valid = false := by rw [Ev.valid_eq, decide_eq_false (show ¬ (0 ≤ e.g ∧ e.g < 8) by omega)]; simp
    simp only [↓evP, evB, stB, reduceIte, reduceCtorEq, Nat.reduceEqDiff, Nat.reduceAdd, Nat.reduceMul, Nat.reduceLeDiff, Nat.reduceLT, Nat.reduceSub, Nat.reduceBEq, Ev.pa, Ev.row, q1, q2, decide_true, decide_false, hv, pr12]
  have hg : decide (0 ≤ e.g ∧ e.g < 8) = true := decide_eq_true (by omega)
  simp only [↓evP, evB, stB, reduceIte, reduceCtorEq, Nat.reduceEqDiff, Nat.reduceAdd, Nat.reduceMul, Nat.reduceLeDiff, Nat.reduceLT, Nat.reduceSub, Nat.reduceBEq, Ev.pa, Ev.row, q1, q2, decide_true, decide_false]
  refine callOps_intro [.one (.sc (.string (kname e.kind)))] ⟨e.kind, rfl, kname e.kind, rfl, rfl⟩ ?_
  cases hk : isKindB e.kind with
  | false =>
    have hv : e.valid = false := by rw [Ev.valid_eq, hk]; rfl
    simp only [↓evP, evB, stB, reduceIte, reduceCtorEq, Nat.reduceEqDiff, Nat.reduceAdd, Nat.reduceMul, Nat.reduceLeDiff, Nat.reduceLT, Nat.reduceSub, Nat.reduceBEq, kname_empty, hk, hv, pr12]
  | true =>
    simp only [↓evP, evB, stB, reduceIte, reduceCtorEq, Nat.reduceEqDiff, Nat.reduceAdd, Nat.reduceMul, Nat.reduceLeDiff, Nat.reduceLT, Nat.reduceSub, Nat.reduceBEq, kname_empty, hk]
    refine pwp_fresh [1] [1] (fun st hs ho => ?_)
    simp only [stB, reduceIte, reduceCtorEq, Nat.reduceEqDiff, Nat.reduceAdd, Nat.reduceMul, Nat.reduceLeDiff, Nat.reduceLT, Nat.reduceSub, Nat.reduceBEq] at hs ho
    obtain ⟨g1, o1⟩ := ho
    unfold pc12c9
    simp only [↓evP, evB, stB, reduceIte, reduceCtorEq, Nat.reduceEqDiff, Nat.reduceAdd, Nat.reduceMul, Nat.reduceLeDiff, Nat.reduceLT, Nat.reduceSub, Nat.reduceBEq, hs, g1, o1]
    refine pwp_fresh [1, 3] [1, 33] (fun st' hs' ho' => ?_)
    simp only [stB, reduceIte, reduceCtorEq, Nat.reduceEqDiff, Nat.reduceAdd, Nat.reduceMul, Nat.reduceLeDiff, Nat.reduceLT, Nat.reduceSub, Nat.reduceBEq, hs, g1, o1] at hs' ho'
    clear hs g1 o1
    obtain ⟨h1, h3⟩ := hs'
    obtain ⟨⟨g1, o1⟩, g33, o33⟩ := ho'
    unfold pc12c8
    simp only [↓evP, evB, stB, reduceIte, reduceCtorEq, Nat.reduceEqDiff, Nat.reduceAdd, Nat.reduceMul, Nat.reduceLeDiff, Nat.reduceLT, Nat.reduceSub, Nat.reduceBEq, h1, h3, g1, o1, g33, o33]
    refine pwp_loopW ms12_0 os12_0 (fun m st => ∃ k : Nat, m = 7 - k ∧ k ≤ 7 ∧ (e.fields.take k).all rangeB = true ∧ st.sl 4 = aI k) 7 ?_ ?_
    · exact ⟨0, rfl, by omega, rfl, by simp only [stB, reduceIte, reduceCtorEq, Nat.reduceEqDiff, Nat.reduceAdd, Nat.reduceMul, Nat.reduceLeDiff, Nat.reduceLT, Nat.reduceSub, Nat.reduceBEq]; rfl⟩
    · rintro m j ⟨k, rfl, hk7, hall, h4⟩
      simp only [stB, reduceIte, reduceCtorEq, Nat.reduceEqDiff, Nat.reduceAdd, Nat.reduceMul, Nat.reduceLeDiff, Nat.reduceLT, Nat.reduceSub, Nat.reduceBEq] at h4
      rcases Nat.lt_or_ge k 7 with hlt | hge
      · obtain ⟨x, hx⟩ : ∃ x, e.fields[k]? = some x := ⟨_, List.getElem?_eq_getElem (show k < e.fields.length from hlt)⟩
        have hrow : (e.fields.map fun x => [dI x])[k]? = some [dI x] := by rw [List.getElem?_map, hx]; rfl
        unfold Ev.fields at hrow
        simp only [List.map_cons, List.map_nil] at hrow
        have hl7 : (k : Int) < ((7 : Nat) : Int) := by omega
        have hmem : x ∈ e.fields := List.mem_of_getElem? hx
        by_cases x1 : x < 0
        · have hv : e.valid = false := by
            rw [Ev.valid_eq, (by rw [List.all_eq_false]; exact ⟨x, hmem, by unfold rangeB; rw [decide_eq_false (by omega)]; decide⟩ : e.fields.all rangeB = false)]; simp
          simp only [↓evP, evB, stB, reduceIte, reduceCtorEq, Nat.reduceEqDiff, Nat.reduceAdd, Nat.reduceMul, Nat.reduceLeDiff, Nat.reduceLT, Nat.reduceSub, Nat.reduceBEq, h1, h3, g1, o1, h4, g33, o33, hrow, hl7, x1, decide_true, decide_false, hv, pr12]
        by_cases x2 : x > 2147483647
        · have hv : e.valid = false := by
            rw [Ev.valid_eq, (by rw [List.all_eq_false]; exact ⟨x, hmem, by unfold rangeB; rw [decide_eq_false (by omega)]; decide⟩ : e.fields.all rangeB = false)]; simp
          simp only [↓evP, evB, stB, reduceIte, reduceCtorEq, Nat.reduceEqDiff, Nat.reduceAdd, Nat.reduceMul, Nat.reduceLeDiff, Nat.reduceLT, Nat.reduceSub, Nat.reduceBEq, h1, h3, g1, o1, h4, g33, o33, hrow, hl7, x1, x2, decide_true, decide_false, hv, pr12]
        simp only [↓evP, evB, stB, reduceIte, reduceCtorEq, Nat.reduceEqDiff, Nat.reduceAdd, Nat.reduceMul, Nat.reduceLeDiff, Nat.reduceLT, Nat.reduceSub, Nat.reduceBEq, h1, h3, g1, o1, h4, g33, o33, hrow, hl7, x1, x2, decide_true, decide_false]
        exact ⟨_, by omega, (by repeat' (first | assumption | exact within_over.mpr trivial | exact Within.refl _ _ _ | (refine within_ap ?_ rfl rfl) | (refine within_ap0 ?_ rfl))), k + 1, rfl, by omega, by rw [List.take_add_one, hx, List.all_append, hall]; simp only [Option.toList_some, List.all_cons, List.all_nil]; unfold rangeB; rw [decide_eq_true (by omega)]; rfl, by simp only [stB, reduceIte, reduceCtorEq, Nat.reduceEqDiff, Nat.reduceAdd, Nat.reduceMul, Nat.reduceLeDiff, Nat.reduceLT, Nat.reduceSub, Nat.reduceBEq, h4]; rw [wrN (by omega)]⟩
      · have hk77 : k = 7 := by omega
        subst hk77
        have hl7 : ¬ ((7 : Nat) : Int) < ((7 : Nat) : Int) := by omega
        simp only [↓evP, evB, stB, reduceIte, reduceCtorEq, Nat.reduceEqDiff, Nat.reduceAdd, Nat.reduceMul, Nat.reduceLeDiff, Nat.reduceLT, Nat.reduceSub, Nat.reduceBEq, h1, h3, g1, o1, h4, g33, o33, hl7]
        have hall' : e.fields.all rangeB = true := hall
        have hk' := hk
        unfold isKindB at hk'
        have hv : e.valid = e.rest := by rw [Ev.valid_eq, hk, hg, hall']; rfl
        have hrk : rangeB e.k = true := List.all_eq_true.1 hall' _ (by unfold Ev.fields; simp)
        rw [hv]
        exact valid20_tail (of_decide_eq_true hk').1 (of_decide_eq_true hk').2 hrk _ (fun st'' h => ⟨.inr rfl, h⟩) _ (by simp only [stB, reduceIte, reduceCtorEq, Nat.reduceEqDiff, Nat.reduceAdd, Nat.reduceMul, Nat.reduceLeDiff, Nat.reduceLT, Nat.reduceSub, Nat.reduceBEq, h1]) (by simp only [stB, reduceIte, reduceCtorEq, Nat.reduceEqDiff, Nat.reduceAdd, Nat.reduceMul, Nat.reduceLeDiff, Nat.reduceLT, Nat.reduceSub, Nat.reduceBEq, g1]) (by simp only [stB, reduceIte, reduceCtorEq, Nat.reduceEqDiff, Nat.reduceAdd, Nat.reduceMul, Nat.reduceLeDiff, Nat.reduceLT, Nat.reduceSub, Nat.reduceBEq, o1, Ev.row])
end Go.Proofs.YthnjbnfnljjepabDoor
end
section
set_option linter.unusedSimpArgs false
set_option linter.unusedVariables false
namespace Go.Proofs.YthnjbnfnljjepabDoor
open Go Go.RowKit
set_option maxRecDepth 100000
set_option maxHeartbeats 4000000

def acqB (k : Int) : Bool := decide (k = 3 ∨ k = 5 ∨ k = 6 ∨ k = 8 ∨ k = 11 ∨ k = 13 ∨ k = 16 ∨ k = 18 ∨ k = 20)
def relB (k : Int) : Bool := decide (k = 4 ∨ k = 5 ∨ k = 7 ∨ k = 9 ∨ k = 10 ∨ k = 12 ∨ k = 14 ∨ k = 15 ∨ k = 17 ∨ k = 19)
def R_kB (b : Int → Bool) (ps rs : List Pa) : Prop := ∃ k : Int, ps = [pI k] ∧ rs = [pB (b k)]
theorem R_kB.mk {b : Int → Bool} (k : Int) : R_kB b [pI k] [pB (b k)] := ⟨k, rfl, rfl⟩
theorem some_pB {a b : Bool} (h : a = b) : (some [Pa.one (Dt.sc (.bool a))] : Option (List Pa)) = some [pB b] := by rw [h]
theorem s_isKind : Spec Tryd.prog 27 (R_kB isKindB) := by
  refine sp27 (EnvOK.e0) ?_
  rintro ps rs ⟨k, rfl, rfl⟩
  refine ⟨by simp, ?_⟩
  unfold pc27
  refine pwp_start ?_
  simp only [↓evP, evB, stB, reduceIte, reduceCtorEq, Nat.reduceEqDiff, Nat.reduceAdd, Nat.reduceMul, Nat.reduceLeDiff, Nat.reduceLT, Nat.reduceSub, Nat.reduceBEq, pr27]
  repeat' (first | apply And.intro | intro)
  all_goals (try simp only [beq_iff_eq, beq_eq_false_iff_ne, ne_eq, ge_iff_le, gt_iff_lt, Int.not_lt, Int.not_le] at *)
  all_goals (refine some_pB (Bool.eq_iff_iff.2 ?_); simp only [isKindB, decide_eq_true_eq, beq_iff_eq, reduceCtorEq, false_iff, true_iff, Bool.false_eq_true]; omega)
theorem s_numbered : Spec Tryd.prog 28 (R_kB numberedB) := by
  refine sp28 (EnvOK.e0) ?_
  rintro ps rs ⟨k, rfl, rfl⟩
  refine ⟨by simp, ?_⟩
  unfold pc28
  refine pwp_start ?_
  simp only [↓evP, evB, stB, reduceIte, reduceCtorEq, Nat.reduceEqDiff, Nat.reduceAdd, Nat.reduceMul, Nat.reduceLeDiff, Nat.reduceLT, Nat.reduceSub, Nat.reduceBEq, pr28]
  repeat' (first | apply And.intro | intro)
  all_goals (try simp only [beq_iff_eq, beq_eq_false_iff_ne, ne_eq, ge_iff_le, gt_iff_lt, Int.not_lt, Int.not_le] at *)
  all_goals (refine some_pB (Bool.eq_iff_iff.2 ?_); simp only [numberedB, decide_eq_true_eq, beq_iff_eq, reduceCtorEq, false_iff, true_iff, Bool.false_eq_true]; omega)
theorem s_channel : Spec Tryd.prog 21 (R_kB chanB) := by
  refine sp21 (EnvOK.e1 s_numbered EnvOK.e0) ?_
  rintro ps rs ⟨k, rfl, rfl⟩
  refine ⟨by simp, ?_⟩
  unfold pc21
  refine pwp_start ?_
  simp only [↓evP, evB, stB, reduceIte, reduceCtorEq, Nat.reduceEqDiff, Nat.reduceAdd, Nat.reduceMul, Nat.reduceLeDiff, Nat.reduceLT, Nat.reduceSub, Nat.reduceBEq, pr21]
  refine callOps_intro [pB (numberedB k)] (by exact R_kB.mk k) ?_
  cases hn : numberedB k <;> simp only [↓evP, evB, stB, reduceIte, reduceCtorEq, Nat.reduceEqDiff, Nat.reduceAdd, Nat.reduceMul, Nat.reduceLeDiff, Nat.reduceLT, Nat.reduceSub, Nat.reduceBEq, pr21] <;> simp only [numberedB, decide_eq_true_eq, decide_eq_false_iff_not] at hn
  repeat' (first | apply And.intro | intro)
  all_goals (try simp only [beq_iff_eq, beq_eq_false_iff_ne, ne_eq, ge_iff_le, gt_iff_lt, Int.not_lt, Int.not_le] at *)
  all_goals (refine some_pB (Bool.eq_iff_iff.2 ?_); simp only [chanB, decide_eq_true_eq, beq_iff_eq, reduceCtorEq, false_iff, true_iff, Bool.false_eq_true]; omega)
theorem s_memory : Spec Tryd.prog 19 (R_kB memB) := by
  refine sp19 (EnvOK.e0) ?_
  rintro ps rs ⟨k, rfl, rfl⟩
  refine ⟨by simp, ?_⟩
  unfold pc19
  refine pwp_start ?_
  simp only [↓evP, evB, stB, reduceIte, reduceCtorEq, Nat.reduceEqDiff, Nat.reduceAdd, Nat.reduceMul, Nat.reduceLeDiff, Nat.reduceLT, Nat.reduceSub, Nat.reduceBEq, pr19]
  repeat' (first | apply And.intro | intro)
  all_goals (try simp only [beq_iff_eq, beq_eq_false_iff_ne, ne_eq, ge_iff_le, gt_iff_lt, Int.not_lt, Int.not_le] at *)
  all_goals (refine some_pB (Bool.eq_iff_iff.2 ?_); simp only [memB, decide_eq_true_eq, beq_iff_eq, reduceCtorEq, false_iff, true_iff, Bool.false_eq_true]; omega)
theorem s_rmemory : Spec Tryd.prog 20 (R_kB memB) := by
  refine sp20 (EnvOK.e0) ?_
  rintro ps rs ⟨k, rfl, rfl⟩
  refine ⟨by simp, ?_⟩
  unfold pc20
  refine pwp_start ?_
  simp only [↓evP, evB, stB, reduceIte, reduceCtorEq, Nat.reduceEqDiff, Nat.reduceAdd, Nat.reduceMul, Nat.reduceLeDiff, Nat.reduceLT, Nat.reduceSub, Nat.reduceBEq, pr20]
  repeat' (first | apply And.intro | intro)
  all_goals (try simp only [beq_iff_eq, beq_eq_false_iff_ne, ne_eq, ge_iff_le, gt_iff_lt, Int.not_lt, Int.not_le] at *)
  all_goals (refine some_pB (Bool.eq_iff_iff.2 ?_); simp only [memB, decide_eq_true_eq, beq_iff_eq, reduceCtorEq, false_iff, true_iff, Bool.false_eq_true]; omega)
theorem s_acq : Spec Tryd.prog 23 (R_kB acqB) := by
  refine sp23 (EnvOK.e0) ?_
  rintro ps rs ⟨k, rfl, rfl⟩
  refine ⟨by simp, ?_⟩
  unfold pc23
  refine pwp_start ?_
  simp only [↓evP, evB, stB, reduceIte, reduceCtorEq, Nat.reduceEqDiff, Nat.reduceAdd, Nat.reduceMul, Nat.reduceLeDiff, Nat.reduceLT, Nat.reduceSub, Nat.reduceBEq, pr23]
  repeat' (first | apply And.intro | intro)
  all_goals (try simp only [beq_iff_eq, beq_eq_false_iff_ne, ne_eq, ge_iff_le, gt_iff_lt, Int.not_lt, Int.not_le] at *)
  all_goals (refine some_pB (Bool.eq_iff_iff.2 ?_); simp only [acqB, decide_eq_true_eq, beq_iff_eq, reduceCtorEq, false_iff, true_iff, Bool.false_eq_true]; omega)
theorem s_racq : Spec Tryd.prog 24 (R_kB acqB) := by
  refine sp24 (EnvOK.e0) ?_
  rintro ps rs ⟨k, rfl, rfl⟩
  refine ⟨by simp, ?_⟩
  unfold pc24
  refine pwp_start ?_
  simp only [↓evP, evB, stB, reduceIte, reduceCtorEq, Nat.reduceEqDiff, Nat.reduceAdd, Nat.reduceMul, Nat.reduceLeDiff, Nat.reduceLT, Nat.reduceSub, Nat.reduceBEq, pr24]
  repeat' (first | apply And.intro | intro)
  all_goals (try simp only [beq_iff_eq, beq_eq_false_iff_ne, ne_eq, ge_iff_le, gt_iff_lt, Int.not_lt, Int.not_le] at *)
  all_goals (refine some_pB (Bool.eq_iff_iff.2 ?_); simp only [acqB, decide_eq_true_eq, beq_iff_eq, reduceCtorEq, false_iff, true_iff, Bool.false_eq_true]; omega)
theorem s_rel : Spec Tryd.prog 25 (R_kB relB) := by
  refine sp25 (EnvOK.e0) ?_
  rintro ps rs ⟨k, rfl, rfl⟩
  refine ⟨by simp, ?_⟩
  unfold pc25
  refine pwp_start ?_
  simp only [↓evP, evB, stB, reduceIte, reduceCtorEq, Nat.reduceEqDiff, Nat.reduceAdd, Nat.reduceMul, Nat.reduceLeDiff, Nat.reduceLT, Nat.reduceSub, Nat.reduceBEq, pr25]
  repeat' (first | apply And.intro | intro)
  all_goals (try simp only [beq_iff_eq, beq_eq_false_iff_ne, ne_eq, ge_iff_le, gt_iff_lt, Int.not_lt, Int.not_le] at *)
  all_goals (refine some_pB (Bool.eq_iff_iff.2 ?_); simp only [relB, decide_eq_true_eq, beq_iff_eq, reduceCtorEq, false_iff, true_iff, Bool.false_eq_true]; omega)
theorem s_rrel : Spec Tryd.prog 26 (R_kB relB) := by
  refine sp26 (EnvOK.e0) ?_
  rintro ps rs ⟨k, rfl, rfl⟩
  refine ⟨by simp, ?_⟩
  unfold pc26
  refine pwp_start ?_
  simp only [↓evP, evB, stB, reduceIte, reduceCtorEq, Nat.reduceEqDiff, Nat.reduceAdd, Nat.reduceMul, Nat.reduceLeDiff, Nat.reduceLT, Nat.reduceSub, Nat.reduceBEq, pr26]
  repeat' (first | apply And.intro | intro)
  all_goals (try simp only [beq_iff_eq, beq_eq_false_iff_ne, ne_eq, ge_iff_le, gt_iff_lt, Int.not_lt, Int.not_le] at *)
  all_goals (refine some_pB (Bool.eq_iff_iff.2 ?_); simp only [relB, decide_eq_true_eq, beq_iff_eq, reduceCtorEq, false_iff, true_iff, Bool.false_eq_true]; omega)
end Go.Proofs.YthnjbnfnljjepabDoor
end
section
set_option linter.unusedSimpArgs false
set_option linter.unusedVariables false
namespace Go.Proofs.YthnjbnfnljjepabDoor
open Go Go.RowKit
set_option maxRecDepth 100000
set_option maxHeartbeats 4000000

def env_ev : Env := e1 27 (R_kB isKindB) (e1 21 (R_kB chanB) (e1 28 (R_kB numberedB) e0))
theorem env_ev_ok : EnvOK Tryd.prog env_ev := EnvOK.e1 s_isKind (EnvOK.e1 s_channel (EnvOK.e1 s_numbered EnvOK.e0))
theorem s_valid : Spec Tryd.prog 11 R_valid20 := by
  refine sp11 env_ev_ok ?_
  rintro ps rs ⟨e, rfl, rfl⟩
  refine ⟨by simp, ?_⟩
  unfold pc11
  refine pwp_start ?_
  simp only [↓evP, evB, stB, reduceIte, reduceCtorEq, Nat.reduceEqDiff, Nat.reduceAdd, Nat.reduceMul, Nat.reduceLeDiff, Nat.reduceLT, Nat.reduceSub, Nat.reduceBEq, Ev.pa, Ev.row, List.map_cons, List.map_nil]
  refine callOps_intro [pB (isKindB e.kind)] (by exact R_kB.mk e.kind) ?_
  cases hk : isKindB e.kind with
  | false =>
    have hv : e.valid = false := by rw [Ev.valid_eq, hk]; rfl
    simp only [↓evP, evB, stB, reduceIte, reduceCtorEq, Nat.reduceEqDiff, Nat.reduceAdd, Nat.reduceMul, Nat.reduceLeDiff, Nat.reduceLT, Nat.reduceSub, Nat.reduceBEq, hv, pr11]
  | true =>
  by_cases q1 : e.g < 0
  · have hv : e.valid = false := by rw [Ev.valid_eq, decide_eq_false (show ¬ (0 ≤ e.g ∧ e.g < 8) by omega)]; simp
    simp only [↓evP, evB, stB, reduceIte, reduceCtorEq, Nat.reduceEqDiff, Nat.reduceAdd, Nat.reduceMul, Nat.reduceLeDiff, Nat.reduceLT, Nat.reduceSub, Nat.reduceBEq, q1, decide_true, decide_false, hv, pr11]
  by_cases q2 : e.g ≥ 8
  · have hv : e.valid = false := by rw [Ev.valid_eq, decide_eq_false (show ¬ (0 ≤ e.g ∧ e.g < 8) by omega)]; simp
    simp only [↓evP, evB, stB, reduceIte, reduceCtorEq, Nat.reduceEqDiff, Nat.reduceAdd, Nat.reduceMul, Nat.reduceLeDiff, Nat.reduceLT, Nat.reduceSub, Nat.reduceBEq, q1, q2, decide_true, decide_false, hv, pr11]
  have hg : decide (0 ≤ e.g ∧ e.g < 8) = true := decide_eq_true (by omega)
  simp only [↓evP, evB, stB, reduceIte, reduceCtorEq, Nat.reduceEqDiff, Nat.reduceAdd, Nat.reduceMul, Nat.reduceLeDiff, Nat.reduceLT, Nat.reduceSub, Nat.reduceBEq, q1, q2, decide_true, decide_false]
  refine pwp_loopW ms11_0 os11_0 (fun m st => ∃ k : Nat, m = 7 - k ∧ k ≤ 7 ∧ (e.fields.take k).all rangeB = true ∧ st.sl 34 = aI k) 7 ?_ ?_
  · exact ⟨0, rfl, by omega, rfl, by simp only [stB, reduceIte, reduceCtorEq, Nat.reduceEqDiff, Nat.reduceAdd, Nat.reduceMul, Nat.reduceLeDiff, Nat.reduceLT, Nat.reduceSub, Nat.reduceBEq]; rfl⟩
  · rintro m j ⟨k, rfl, hk7, hall, h4⟩
    simp only [stB, reduceIte, reduceCtorEq, Nat.reduceEqDiff, Nat.reduceAdd, Nat.reduceMul, Nat.reduceLeDiff, Nat.reduceLT, Nat.reduceSub, Nat.reduceBEq] at h4
    rcases Nat.lt_or_ge k 7 with hlt | hge
    · obtain ⟨x, hx⟩ : ∃ x, e.fields[k]? = some x := ⟨_, List.getElem?_eq_getElem (show k < e.fields.length from hlt)⟩
      have hrow : (e.fields.map fun x => Cl.d (dI x))[k]? = some (.d (dI x)) := by rw [List.getElem?_map, hx]; rfl
      unfold Ev.fields at hrow
      simp only [List.map_cons, List.map_nil] at hrow
      have hl7 : (k : Int) < 7 := by omega
      have hl7' : (k : Int) < ((7 : Nat) : Int) := by omega
      have h0 : (0 : Int) ≤ (k : Int) := by omega
      have hmem : x ∈ e.fields := List.mem_of_getElem? hx
      by_cases x1 : x < 0
      · have hv : e.valid = false := by
          rw [Ev.valid_eq, (by rw [List.all_eq_false]; exact ⟨x, hmem, by unfold rangeB; rw [decide_eq_false (by omega)]; decide⟩ : e.fields.all rangeB = false)]; simp
        simp only [↓evP, evB, stB, reduceIte, reduceCtorEq, Nat.reduceEqDiff, Nat.reduceAdd, Nat.reduceMul, Nat.reduceLeDiff, Nat.reduceLT, Nat.reduceSub, Nat.reduceBEq, h4, hrow, hl7, hl7', h0, x1, Nat.mul_one, decide_true, decide_false, hv, pr11]
      by_cases x2 : x > 2147483647
      · have hv : e.valid = false := by
          rw [Ev.valid_eq, (by rw [List.all_eq_false]; exact ⟨x, hmem, by unfold rangeB; rw [decide_eq_false (by omega)]; decide⟩ : e.fields.all rangeB = false)]; simp
        simp only [↓evP, evB, stB, reduceIte, reduceCtorEq, Nat.reduceEqDiff, Nat.reduceAdd, Nat.reduceMul, Nat.reduceLeDiff, Nat.reduceLT, Nat.reduceSub, Nat.reduceBEq, h4, hrow, hl7, hl7', h0, x1, x2, Nat.mul_one, decide_true, decide_false, hv, pr11]
      simp only [↓evP, evB, stB, reduceIte, reduceCtorEq, Nat.reduceEqDiff, Nat.reduceAdd, Nat.reduceMul, Nat.reduceLeDiff, Nat.reduceLT, Nat.reduceSub, Nat.reduceBEq, h4, hrow, hl7, hl7', h0, x1, x2, Nat.mul_one, decide_true, decide_false]
      exact ⟨_, by omega, (by repeat' (first | assumption | exact within_over.mpr trivial | exact Within.refl _ _ _ | (refine within_ap ?_ rfl rfl) | (refine within_ap0 ?_ rfl))), k + 1, rfl, by omega, by rw [List.take_add_one, hx, List.all_append, hall]; simp only [Option.toList_some, List.all_cons, List.all_nil]; unfold rangeB; rw [decide_eq_true (by omega)]; rfl, by simp only [stB, reduceIte, reduceCtorEq, Nat.reduceEqDiff, Nat.reduceAdd, Nat.reduceMul, Nat.reduceLeDiff, Nat.reduceLT, Nat.reduceSub, Nat.reduceBEq, h4]; rw [wrN (by omega)]⟩
    · have hk77 : k = 7 := by omega
      subst hk77
      have hl7 : ¬ ((7 : Nat) : Int) < 7 := by omega
      have hall' : e.fields.all rangeB = true := hall
      have hk' := hk
      unfold isKindB at hk'
      have hk1 := (of_decide_eq_true hk').1
      have hk2 := (of_decide_eq_true hk').2
      have hv : e.valid = e.rest := by rw [Ev.valid_eq, hk, hg, hall']; rfl
      have hrk : rangeB e.k = true := List.all_eq_true.1 hall' _ (by unfold Ev.fields; simp)
      unfold rangeB at hrk
      have hr' := (of_decide_eq_true hrk).1
      clear hall hall' hrk hk7 hge
      cases k14 : (e.kind == 14) with
      | true =>
        have hre : e.rest = decide (e.obj = 0 ∧ e.off = 0 ∧ e.n = 0 ∧ 1 ≤ e.k ∧ e.k < 8) := by unfold Ev.rest; rw [if_pos (beq_iff_eq.1 k14)]
        rw [hv, hre]
        simp only [↓evP, evB, stB, reduceIte, reduceCtorEq, Nat.reduceEqDiff, Nat.reduceAdd, Nat.reduceMul, Nat.reduceLeDiff, Nat.reduceLT, Nat.reduceSub, Nat.reduceBEq, h4, hl7, k14, pr11]
        repeat' (first | apply And.intro | intro)
        all_goals (simp only [beq_iff_eq, beq_eq_false_iff_ne, ne_eq, ge_iff_le, gt_iff_lt, Int.not_lt, Int.not_le, decide_eq_true_eq, decide_eq_false_iff_not] at *)
        all_goals (refine some_pB (Bool.eq_iff_iff.2 ?_); simp only [decide_eq_true_eq, beq_iff_eq, reduceCtorEq, false_iff, true_iff, Bool.false_eq_true]; omega)
      | false =>
        have n14 := beq_eq_false_iff_ne.1 k14
        simp only [↓evP, evB, stB, reduceIte, reduceCtorEq, Nat.reduceEqDiff, Nat.reduceAdd, Nat.reduceMul, Nat.reduceLeDiff, Nat.reduceLT, Nat.reduceSub, Nat.reduceBEq, h4, hl7, k14]
        refine callOps_intro [pB (chanB e.kind)] (by exact R_kB.mk e.kind) ?_
        cases hc : chanB e.kind with
        | false =>
          have hc' := of_decide_eq_false hc
          have hre : e.rest = decide (e.k = 0 ∧ e.n = 0) := by unfold Ev.rest; rw [if_neg n14, if_neg (by omega), if_neg (by omega)]
          rw [hv, hre]
          simp only [↓evP, evB, stB, reduceIte, reduceCtorEq, Nat.reduceEqDiff, Nat.reduceAdd, Nat.reduceMul, Nat.reduceLeDiff, Nat.reduceLT, Nat.reduceSub, Nat.reduceBEq, pr11]
          repeat' (first | apply And.intro | intro)
          all_goals (simp only [beq_iff_eq, beq_eq_false_iff_ne, ne_eq, ge_iff_le, gt_iff_lt, Int.not_lt, Int.not_le, decide_eq_true_eq, decide_eq_false_iff_not] at *)
          all_goals (refine some_pB (Bool.eq_iff_iff.2 ?_); simp only [decide_eq_true_eq, beq_iff_eq, reduceCtorEq, false_iff, true_iff, Bool.false_eq_true]; omega)
        | true =>
          have hc' := of_decide_eq_true hc
          have hre : e.rest = decide (e.off = 0 ∧ e.n ≤ 64 ∧ (e.k = 0 ∨ e.kind ≤ 18)) := by
            unfold Ev.rest; rw [if_neg n14]
            by_cases h18 : e.kind ≤ 18
            · rw [if_pos ⟨hc'.1, h18⟩]; exact decide_eq_decide.2 ⟨fun h => ⟨h.1, h.2, .inr h18⟩, fun h => ⟨h.1, h.2.1⟩⟩
            · rw [if_neg (fun h => h18 h.2), if_pos (by omega)]; exact decide_eq_decide.2 ⟨fun h => ⟨h.1, h.2.1, .inl h.2.2⟩, fun h => ⟨h.1, h.2.1, h.2.2.resolve_right h18⟩⟩
          rw [hv, hre]
          obtain ⟨T, hT⟩ : ∃ T, T = decide (e.off = 0 ∧ e.n ≤ 64 ∧ (e.k = 0 ∨ e.kind ≤ 18)) := ⟨_, rfl⟩
          rw [← hT]
          clear hre hv
          cases z1 : (e.off == 0) with
          | false =>
            have y1 := beq_eq_false_iff_ne.1 z1
            have e1 : T = false := hT.trans (decide_eq_false (by omega))
            simp only [↓evP, evB, stB, reduceIte, reduceCtorEq, Nat.reduceEqDiff, Nat.reduceAdd, Nat.reduceMul, Nat.reduceLeDiff, Nat.reduceLT, Nat.reduceSub, Nat.reduceBEq, z1, e1, pr11]
          | true =>
          have y1 := beq_iff_eq.1 z1
          by_cases z2 : e.n ≤ 64
          case neg =>
            have e1 : T = false := hT.trans (decide_eq_false (by omega))
            simp only [↓evP, evB, stB, reduceIte, reduceCtorEq, Nat.reduceEqDiff, Nat.reduceAdd, Nat.reduceMul, Nat.reduceLeDiff, Nat.reduceLT, Nat.reduceSub, Nat.reduceBEq, z1, z2, e1, decide_false, pr11]
          cases z3 : (e.k == 0) with
          | true =>
            have y3 := beq_iff_eq.1 z3
            have e1 : T = true := hT.trans (decide_eq_true (by omega))
            simp only [↓evP, evB, stB, reduceIte, reduceCtorEq, Nat.reduceEqDiff, Nat.reduceAdd, Nat.reduceMul, Nat.reduceLeDiff, Nat.reduceLT, Nat.reduceSub, Nat.reduceBEq, z1, z2, z3, e1, decide_true, pr11]
          | false =>
            have y3 := beq_eq_false_iff_ne.1 z3
            simp only [↓evP, evB, stB, reduceIte, reduceCtorEq, Nat.reduceEqDiff, Nat.reduceAdd, Nat.reduceMul, Nat.reduceLeDiff, Nat.reduceLT, Nat.reduceSub, Nat.reduceBEq, z1, z2, z3, decide_true]
            refine callOps_intro [pB (numberedB e.kind)] (by exact R_kB.mk e.kind) ?_
            have hn : numberedB e.kind = T := by rw [hT]; unfold numberedB; exact decide_eq_decide.2 ⟨fun h => ⟨y1, z2, .inr h.2⟩, fun h => ⟨hc'.1, h.2.2.resolve_left y3⟩⟩
            simp only [↓evP, evB, stB, reduceIte, reduceCtorEq, Nat.reduceEqDiff, Nat.reduceAdd, Nat.reduceMul, Nat.reduceLeDiff, Nat.reduceLT, Nat.reduceSub, Nat.reduceBEq, hn, pr11]
end Go.Proofs.YthnjbnfnljjepabDoor
end
section
set_option linter.unusedSimpArgs false
set_option linter.unusedVariables false
namespace Go.Proofs.YthnjbnfnljjepabDoor
open Go Go.RowKit
set_option maxRecDepth 1000000
set_option maxHeartbeats 4000000

theorem strB_append (a b : List UInt8) : strB a ++ strB b = strB (a ++ b) := strB_inj (by simp [strB])
theorem strB_size (a : List UInt8) : (strB a).size = a.length := by
  show (a.toArray).size = _
  simp
/-- two strings are put together -/
theorem cat_ok (a b : List UInt8) (h : a.length + b.length ≤ 1000) : ((((strB a).size + (strB b).size : Nat)) : Int) ≤ 9223372036854775807 := by rw [strB_size, strB_size]; omega
def kn (k : Int) : List UInt8 := (kname k).data.toList
def objText (e : Ev) : List UInt8 :=
  if e.kind = 14 then [103] ++ Lib.itoa e.k
  else if chanB e.kind = true then Lib.itoa e.obj ++ [32] ++ Lib.itoa e.k ++ [47] ++ Lib.itoa e.n
  else Lib.itoa e.obj ++ [46] ++ Lib.itoa e.off
def words5 (e : Ev) : List (List UInt8) := [[103] ++ Lib.itoa e.g, kn e.kind, objText e, [64] ++ Lib.itoa e.fn ++ [58] ++ Lib.itoa e.pc, [35] ++ Lib.itoa e.stack]
def etext (e : Ev) : List UInt8 := if e.valid = true then Lib.join (words5 e) [32] else []
/-- what a valid event's fields lie between -/
structure Ev.In (e : Ev) : Prop where
  g : 0 ≤ e.g ∧ e.g < 8
  kind : 1 ≤ e.kind ∧ e.kind ≤ 20
  obj : 0 ≤ e.obj ∧ e.obj ≤ 2147483647
  off : 0 ≤ e.off ∧ e.off ≤ 2147483647
  k : 0 ≤ e.k ∧ e.k ≤ 2147483647
  n : 0 ≤ e.n ∧ e.n ≤ 2147483647
  fn : 0 ≤ e.fn ∧ e.fn ≤ 2147483647
  pc : 0 ≤ e.pc ∧ e.pc ≤ 2147483647
  stack : 0 ≤ e.stack ∧ e.stack ≤ 2147483647
theorem Ev.In.of {e : Ev} (h : e.valid = true) : e.In := by
  unfold Ev.valid isKindB rangeB at h
  simp only [Bool.and_eq_true, decide_eq_true_eq] at h
  obtain ⟨⟨⟨h1, h2⟩, ⟨⟨⟨⟨⟨⟨h3, h4⟩, h5⟩, h6⟩, h7⟩, h8⟩, h9⟩⟩, _⟩ := h
  exact ⟨h2, h1, h3, h4, h5, h6, h7, h8, h9⟩
theorem il {n : Int} (h : 0 ≤ n ∧ n ≤ 2147483647) : (Lib.itoa n).length ≤ 21 := Lib.itoa_length_le n (by omega) (by omega)
theorem kn_le (k : Int) : (kn k).length ≤ 12 := by
  unfold kn kname
  split
  · simp
  · rename_i h
    obtain ⟨m, rfl⟩ := Int.eq_ofNat_of_zero_le (show 0 ≤ k by omega)
    have : ∀ m : Fin 21, (((kindNames[m.val]?).getD ⟨#[]⟩).data.toList).length ≤ 12 := by decide +kernel
    exact this ⟨m, by omega⟩
theorem kn_cell {k : Int} (h : 1 ≤ k ∧ k ≤ 20) : namesV[k.toNat]? = some (.string (strB (kn k))) := by
  obtain ⟨m, rfl⟩ := Int.eq_ofNat_of_zero_le (show 0 ≤ k by omega)
  unfold kn kname namesV
  rw [if_neg (by omega), Int.toNat_natCast, List.getElem?_map]
  obtain ⟨u, hu⟩ : ∃ u, kindNames[m]? = some u := ⟨_, List.getElem?_eq_getElem (by show m < 21; omega)⟩
  rw [hu]
  simp only [Option.map_some, Option.getD_some]
theorem objText_le {e : Ev} (h : e.In) : (objText e).length ≤ 70 := by
  have h1 := il h.obj; have h2 := il h.off; have h3 := il h.k; have h4 := il h.n
  unfold objText
  split
  · simp <;> omega
  · split <;> simp <;> omega
theorem words5_le {e : Ev} (h : e.In) : (Lib.join (words5 e) [32]).length ≤ 300 := by
  have h1 := objText_le h; have h2 := kn_le e.kind; have h3 := il (n := e.g) (by have := h.g; omega); have h4 := il h.fn; have h5 := il h.pc; have h6 := il h.stack
  unfold words5
  rw [Lib.join_length]
  simp [Lib.lens]
  all_goals (try omega)

def R_etext (ps rs : List Pa) : Prop := ∃ e : Ev, ps = [e.pa] ∧ rs = [pS (strB (etext e))]
theorem R_etext.mk (e : Ev) : R_etext [e.pa] [pS (strB (etext e))] := ⟨e, rfl, rfl⟩
def env_etext : Env := e1 11 R_valid20 (e1 21 (R_kB chanB) (e1 30 R_itoa (e1 31 R_join (t1 0 namesV e0))))
theorem namesV_one (v : Value) (h : v ∈ namesV) : v.oneCell' = true := by unfold namesV at h; obtain ⟨x, _, rfl⟩ := List.mem_map.1 h; rfl
theorem env_etext_ok : EnvOK Tryd.prog env_etext := EnvOK.e1 s_valid (EnvOK.e1 s_channel (EnvOK.e1 s_itoa (EnvOK.e1 s_join (EnvOK.t1 namesV_one (fun w hw k v hk => Door.nm hw k v hk) EnvOK.e0))))
theorem s_etext : Spec Tryd.prog 13 R_etext := by
  refine sp13 env_etext_ok ?_
  rintro ps rs ⟨e, rfl, rfl⟩
  refine ⟨by simp, ?_⟩
  unfold pc13
  refine pwp_start ?_
  simp only [↓evP, evB, stB, reduceIte, reduceCtorEq, Nat.reduceEqDiff, Nat.reduceAdd, Nat.reduceMul, Nat.reduceLeDiff, Nat.reduceLT, Nat.reduceSub, Nat.reduceBEq, Ev.pa, Ev.row, List.map_cons, List.map_nil]
  refine callOps_intro [pB e.valid] (by exact ⟨e, rfl, rfl⟩) ?_
  cases hv : e.valid with
  | false =>
    have ht : etext e = [] := by unfold etext; rw [hv]; rfl
    simp only [↓evP, evB, stB, reduceIte, reduceCtorEq, Nat.reduceEqDiff, Nat.reduceAdd, Nat.reduceMul, Nat.reduceLeDiff, Nat.reduceLT, Nat.reduceSub, Nat.reduceBEq, ht, pr13]
  | true =>
  have hi := Ev.In.of hv
  have ht : etext e = Lib.join (words5 e) [32] := by unfold etext; rw [hv]; rfl
  have l1 := il hi.obj; have l2 := il hi.off; have l3 := il hi.k; have l4 := il hi.n; have l5 := il (n := e.g) (by have := hi.g; omega); have l6 := il hi.fn; have l7 := il hi.pc; have l8 := il hi.stack
  have c1 : ((((strB (Lib.itoa e.obj)).size + (⟨#[46]⟩ : ByteArray).size : Nat)) : Int) ≤ 9223372036854775807 := cat_ok (Lib.itoa e.obj) ([46]) (by simp; omega)
  have n1 : (strB (Lib.itoa e.obj)) ++ (⟨#[46]⟩ : ByteArray) = strB (Lib.itoa e.obj ++ [46]) := (strB_append (Lib.itoa e.obj) ([46])).trans (by simp)
  have c2 : ((((strB (Lib.itoa e.obj ++ [46])).size + (strB (Lib.itoa e.off)).size : Nat)) : Int) ≤ 9223372036854775807 := cat_ok (Lib.itoa e.obj ++ [46]) (Lib.itoa e.off) (by simp; omega)
  have n2 : (strB (Lib.itoa e.obj ++ [46])) ++ (strB (Lib.itoa e.off)) = strB (Lib.itoa e.obj ++ [46] ++ Lib.itoa e.off) := (strB_append (Lib.itoa e.obj ++ [46]) (Lib.itoa e.off)).trans (by simp)
  have c3 : ((((⟨#[103]⟩ : ByteArray).size + (strB (Lib.itoa e.k)).size : Nat)) : Int) ≤ 9223372036854775807 := cat_ok ([103]) (Lib.itoa e.k) (by simp; omega)
  have n3 : (⟨#[103]⟩ : ByteArray) ++ (strB (Lib.itoa e.k)) = strB (103 :: Lib.itoa e.k) := (strB_append ([103]) (Lib.itoa e.k)).trans (by simp)
  have c4 : ((((strB (Lib.itoa e.obj)).size + (⟨#[32]⟩ : ByteArray).size : Nat)) : Int) ≤ 9223372036854775807 := cat_ok (Lib.itoa e.obj) ([32]) (by simp; omega)
  have n4 : (strB (Lib.itoa e.obj)) ++ (⟨#[32]⟩ : ByteArray) = strB (Lib.itoa e.obj ++ [32]) := (strB_append (Lib.itoa e.obj) ([32])).trans (by simp)
  have c5 : ((((strB (Lib.itoa e.obj ++ [32])).size + (strB (Lib.itoa e.k)).size : Nat)) : Int) ≤ 9223372036854775807 := cat_ok (Lib.itoa e.obj ++ [32]) (Lib.itoa e.k) (by simp; omega)
  have n5 : (strB (Lib.itoa e.obj ++ [32])) ++ (strB (Lib.itoa e.k)) = strB (Lib.itoa e.obj ++ [32] ++ Lib.itoa e.k) := (strB_append (Lib.itoa e.obj ++ [32]) (Lib.itoa e.k)).trans (by simp)
  have c6 : ((((strB (Lib.itoa e.obj ++ [32] ++ Lib.itoa e.k)).size + (⟨#[47]⟩ : ByteArray).size : Nat)) : Int) ≤ 9223372036854775807 := cat_ok (Lib.itoa e.obj ++ [32] ++ Lib.itoa e.k) ([47]) (by simp; omega)
  have n6 : (strB (Lib.itoa e.obj ++ [32] ++ Lib.itoa e.k)) ++ (⟨#[47]⟩ : ByteArray) = strB (Lib.itoa e.obj ++ [32] ++ Lib.itoa e.k ++ [47]) := (strB_append (Lib.itoa e.obj ++ [32] ++ Lib.itoa e.k) ([47])).trans (by simp)
  have c7 : ((((strB (Lib.itoa e.obj ++ [32] ++ Lib.itoa e.k ++ [47])).size + (strB (Lib.itoa e.n)).size : Nat)) : Int) ≤ 9223372036854775807 := cat_ok (Lib.itoa e.obj ++ [32] ++ Lib.itoa e.k ++ [47]) (Lib.itoa e.n) (by simp; omega)
  have n7 : (strB (Lib.itoa e.obj ++ [32] ++ Lib.itoa e.k ++ [47])) ++ (strB (Lib.itoa e.n)) = strB (Lib.itoa e.obj ++ [32] ++ Lib.itoa e.k ++ [47] ++ Lib.itoa e.n) := (strB_append (Lib.itoa e.obj ++ [32] ++ Lib.itoa e.k ++ [47]) (Lib.itoa e.n)).trans (by simp)
  have c8 : ((((⟨#[103]⟩ : ByteArray).size + (strB (Lib.itoa e.g)).size : Nat)) : Int) ≤ 9223372036854775807 := cat_ok ([103]) (Lib.itoa e.g) (by simp; omega)
  have n8 : (⟨#[103]⟩ : ByteArray) ++ (strB (Lib.itoa e.g)) = strB (103 :: Lib.itoa e.g) := (strB_append ([103]) (Lib.itoa e.g)).trans (by simp)
  have c9 : ((((⟨#[64]⟩ : ByteArray).size + (strB (Lib.itoa e.fn)).size : Nat)) : Int) ≤ 9223372036854775807 := cat_ok ([64]) (Lib.itoa e.fn) (by simp; omega)
  have n9 : (⟨#[64]⟩ : ByteArray) ++ (strB (Lib.itoa e.fn)) = strB (64 :: Lib.itoa e.fn) := (strB_append ([64]) (Lib.itoa e.fn)).trans (by simp)
  have c10 : ((((strB (64 :: Lib.itoa e.fn)).size + (⟨#[58]⟩ : ByteArray).size : Nat)) : Int) ≤ 9223372036854775807 := cat_ok (64 :: Lib.itoa e.fn) ([58]) (by simp; omega)
  have n10 : (strB (64 :: Lib.itoa e.fn)) ++ (⟨#[58]⟩ : ByteArray) = strB (64 :: (Lib.itoa e.fn ++ [58])) := (strB_append (64 :: Lib.itoa e.fn) ([58])).trans (by simp)
  have c11 : ((((strB (64 :: (Lib.itoa e.fn ++ [58]))).size + (strB (Lib.itoa e.pc)).size : Nat)) : Int) ≤ 9223372036854775807 := cat_ok (64 :: (Lib.itoa e.fn ++ [58])) (Lib.itoa e.pc) (by simp; omega)
  have n11 : (strB (64 :: (Lib.itoa e.fn ++ [58]))) ++ (strB (Lib.itoa e.pc)) = strB (64 :: (Lib.itoa e.fn ++ [58] ++ Lib.itoa e.pc)) := (strB_append (64 :: (Lib.itoa e.fn ++ [58])) (Lib.itoa e.pc)).trans (by simp)
  have c12 : ((((⟨#[35]⟩ : ByteArray).size + (strB (Lib.itoa e.stack)).size : Nat)) : Int) ≤ 9223372036854775807 := cat_ok ([35]) (Lib.itoa e.stack) (by simp; omega)
  have n12 : (⟨#[35]⟩ : ByteArray) ++ (strB (Lib.itoa e.stack)) = strB (35 :: Lib.itoa e.stack) := (strB_append ([35]) (Lib.itoa e.stack)).trans (by simp)
  simp only [↓evP, evB, stB, reduceIte, reduceCtorEq, Nat.reduceEqDiff, Nat.reduceAdd, Nat.reduceMul, Nat.reduceLeDiff, Nat.reduceLT, Nat.reduceSub, Nat.reduceBEq]
  refine callD_intro [pS (strB (Lib.itoa e.obj))] ⟨e.obj, by have := hi.obj; omega, rfl, rfl⟩ ?_
  simp only [↓evP, evB, stB, reduceIte, reduceCtorEq, Nat.reduceEqDiff, Nat.reduceAdd, Nat.reduceMul, Nat.reduceLeDiff, Nat.reduceLT, Nat.reduceSub, Nat.reduceBEq, c1, n1]
  refine callD_intro [pS (strB (Lib.itoa e.off))] ⟨e.off, by have := hi.off; omega, rfl, rfl⟩ ?_
  simp only [↓evP, evB, stB, reduceIte, reduceCtorEq, Nat.reduceEqDiff, Nat.reduceAdd, Nat.reduceMul, Nat.reduceLeDiff, Nat.reduceLT, Nat.reduceSub, Nat.reduceBEq, c1, n1, c2, n2]
  refine ⟨(by unfold Drw; refine Eq.trans (b := true) ?_ rfl; kernel_rfl), ?_⟩
  have hT : env_etext.t 0 e.kind.toNat = some (.string (strB (kn e.kind))) := kn_cell hi.kind
  have k0 : (0 : Int) ≤ e.kind := by have := hi.kind; omega
  have k21 : e.kind < ((21 : Nat) : Int) := by have := hi.kind; omega
  have hmap : ((words5 e).map strB).map (·.data.toList) = words5 e := by
    rw [List.map_map]
    exact (List.map_congr_left fun _ _ => rfl).trans (List.map_id _)
  cases k14 : (e.kind == 14) with
  | true =>
    have hob : objText e = [103] ++ Lib.itoa e.k := by unfold objText; rw [if_pos (beq_iff_eq.1 k14)]
    have hw5 : words5 e = [[103] ++ Lib.itoa e.g, kn e.kind, [103] ++ Lib.itoa e.k, [64] ++ Lib.itoa e.fn ++ [58] ++ Lib.itoa e.pc, [35] ++ Lib.itoa e.stack] := by unfold words5; rw [hob]
    simp only [↓evP, evB, stB, reduceIte, reduceCtorEq, Nat.reduceEqDiff, Nat.reduceAdd, Nat.reduceMul, Nat.reduceLeDiff, Nat.reduceLT, Nat.reduceSub, Nat.reduceBEq, k14]
    refine callOps_intro [pS (strB (Lib.itoa e.k))] ⟨e.k, by have := hi.k; omega, rfl, rfl⟩ ?_
    simp only [↓evP, evB, stB, reduceIte, reduceCtorEq, Nat.reduceEqDiff, Nat.reduceAdd, Nat.reduceMul, Nat.reduceLeDiff, Nat.reduceLT, Nat.reduceSub, Nat.reduceBEq, c3, n3]
    refine callD_intro [pS (strB (Lib.itoa e.g))] ⟨e.g, by have := hi.g; omega, rfl, rfl⟩ ?_
    simp only [↓evP, evB, stB, reduceIte, reduceCtorEq, Nat.reduceEqDiff, Nat.reduceAdd, Nat.reduceMul, Nat.reduceLeDiff, Nat.reduceLT, Nat.reduceSub, Nat.reduceBEq, c8, n8, hT, k0, k21, Nat.mul_one]
    refine callD_intro [pS (strB (Lib.itoa e.fn))] ⟨e.fn, by have := hi.fn; omega, rfl, rfl⟩ ?_
    simp only [↓evP, evB, stB, reduceIte, reduceCtorEq, Nat.reduceEqDiff, Nat.reduceAdd, Nat.reduceMul, Nat.reduceLeDiff, Nat.reduceLT, Nat.reduceSub, Nat.reduceBEq, c9, n9, c10, n10]
    refine callD_intro [pS (strB (Lib.itoa e.pc))] ⟨e.pc, by have := hi.pc; omega, rfl, rfl⟩ ?_
    simp only [↓evP, evB, stB, reduceIte, reduceCtorEq, Nat.reduceEqDiff, Nat.reduceAdd, Nat.reduceMul, Nat.reduceLeDiff, Nat.reduceLT, Nat.reduceSub, Nat.reduceBEq, c11, n11]
    refine callD_intro [pS (strB (Lib.itoa e.stack))] ⟨e.stack, by have := hi.stack; omega, rfl, rfl⟩ ?_
    simp only [↓evP, evB, stB, reduceIte, reduceCtorEq, Nat.reduceEqDiff, Nat.reduceAdd, Nat.reduceMul, Nat.reduceLeDiff, Nat.reduceLT, Nat.reduceSub, Nat.reduceBEq, c12, n12]
    refine callD_intro [pS (strB (etext e))] ⟨(words5 e).map strB, ⟨#[32]⟩, by unfold words5; simp, by rw [hmap]; exact Nat.le_trans (words5_le hi) (by omega), by rw [hw5]; rfl, by rw [hmap, ht]⟩ ?_
    simp only [↓evP, evB, stB, reduceIte, reduceCtorEq, Nat.reduceEqDiff, Nat.reduceAdd, Nat.reduceMul, Nat.reduceLeDiff, Nat.reduceLT, Nat.reduceSub, Nat.reduceBEq, pr13]
    exact (by unfold Drw; refine Eq.trans (b := true) ?_ rfl; kernel_rfl)
  | false =>
    have n14 := beq_eq_false_iff_ne.1 k14
    simp only [↓evP, evB, stB, reduceIte, reduceCtorEq, Nat.reduceEqDiff, Nat.reduceAdd, Nat.reduceMul, Nat.reduceLeDiff, Nat.reduceLT, Nat.reduceSub, Nat.reduceBEq, k14]
    refine callOps_intro [pB (chanB e.kind)] (by exact R_kB.mk e.kind) ?_
    cases hc : chanB e.kind with
    | true =>
      have hob : objText e = Lib.itoa e.obj ++ [32] ++ Lib.itoa e.k ++ [47] ++ Lib.itoa e.n := by unfold objText; rw [if_neg n14, if_pos hc]
      have hw5 : words5 e = [[103] ++ Lib.itoa e.g, kn e.kind, Lib.itoa e.obj ++ [32] ++ Lib.itoa e.k ++ [47] ++ Lib.itoa e.n, [64] ++ Lib.itoa e.fn ++ [58] ++ Lib.itoa e.pc, [35] ++ Lib.itoa e.stack] := by unfold words5; rw [hob]
      simp only [↓evP, evB, stB, reduceIte, reduceCtorEq, Nat.reduceEqDiff, Nat.reduceAdd, Nat.reduceMul, Nat.reduceLeDiff, Nat.reduceLT, Nat.reduceSub, Nat.reduceBEq]
      refine callD_intro [pS (strB (Lib.itoa e.obj))] ⟨e.obj, by have := hi.obj; omega, rfl, rfl⟩ ?_
      simp only [↓evP, evB, stB, reduceIte, reduceCtorEq, Nat.reduceEqDiff, Nat.reduceAdd, Nat.reduceMul, Nat.reduceLeDiff, Nat.reduceLT, Nat.reduceSub, Nat.reduceBEq, c4, n4]
      refine callD_intro [pS (strB (Lib.itoa e.k))] ⟨e.k, by have := hi.k; omega, rfl, rfl⟩ ?_
      simp only [↓evP, evB, stB, reduceIte, reduceCtorEq, Nat.reduceEqDiff, Nat.reduceAdd, Nat.reduceMul, Nat.reduceLeDiff, Nat.reduceLT, Nat.reduceSub, Nat.reduceBEq, c5, n5, c6, n6]
      refine callD_intro [pS (strB (Lib.itoa e.n))] ⟨e.n, by have := hi.n; omega, rfl, rfl⟩ ?_
      simp only [↓evP, evB, stB, reduceIte, reduceCtorEq, Nat.reduceEqDiff, Nat.reduceAdd, Nat.reduceMul, Nat.reduceLeDiff, Nat.reduceLT, Nat.reduceSub, Nat.reduceBEq, c7, n7]
      refine ⟨(by unfold Drw; refine Eq.trans (b := true) ?_ rfl; kernel_rfl), ?_⟩
      refine callD_intro [pS (strB (Lib.itoa e.g))] ⟨e.g, by have := hi.g; omega, rfl, rfl⟩ ?_
      simp only [↓evP, evB, stB, reduceIte, reduceCtorEq, Nat.reduceEqDiff, Nat.reduceAdd, Nat.reduceMul, Nat.reduceLeDiff, Nat.reduceLT, Nat.reduceSub, Nat.reduceBEq, c8, n8, hT, k0, k21, Nat.mul_one]
      refine callD_intro [pS (strB (Lib.itoa e.fn))] ⟨e.fn, by have := hi.fn; omega, rfl, rfl⟩ ?_
      simp only [↓evP, evB, stB, reduceIte, reduceCtorEq, Nat.reduceEqDiff, Nat.reduceAdd, Nat.reduceMul, Nat.reduceLeDiff, Nat.reduceLT, Nat.reduceSub, Nat.reduceBEq, c9, n9, c10, n10]
      refine callD_intro [pS (strB (Lib.itoa e.pc))] ⟨e.pc, by have := hi.pc; omega, rfl, rfl⟩ ?_
      simp only [↓evP, evB, stB, reduceIte, reduceCtorEq, Nat.reduceEqDiff, Nat.reduceAdd, Nat.reduceMul, Nat.reduceLeDiff, Nat.reduceLT, Nat.reduceSub, Nat.reduceBEq, c11, n11]
      refine callD_intro [pS (strB (Lib.itoa e.stack))] ⟨e.stack, by have := hi.stack; omega, rfl, rfl⟩ ?_
      simp only [↓evP, evB, stB, reduceIte, reduceCtorEq, Nat.reduceEqDiff, Nat.reduceAdd, Nat.reduceMul, Nat.reduceLeDiff, Nat.reduceLT, Nat.reduceSub, Nat.reduceBEq, c12, n12]
      refine callD_intro [pS (strB (etext e))] ⟨(words5 e).map strB, ⟨#[32]⟩, by unfold words5; simp, by rw [hmap]; exact Nat.le_trans (words5_le hi) (by omega), by rw [hw5]; rfl, by rw [hmap, ht]⟩ ?_
      simp only [↓evP, evB, stB, reduceIte, reduceCtorEq, Nat.reduceEqDiff, Nat.reduceAdd, Nat.reduceMul, Nat.reduceLeDiff, Nat.reduceLT, Nat.reduceSub, Nat.reduceBEq, pr13]
      exact (by unfold Drw; refine Eq.trans (b := true) ?_ rfl; kernel_rfl)
    | false =>
      have hob : objText e = Lib.itoa e.obj ++ [46] ++ Lib.itoa e.off := by unfold objText; rw [if_neg n14, if_neg (by rw [hc]; simp)]
      have hw5 : words5 e = [[103] ++ Lib.itoa e.g, kn e.kind, Lib.itoa e.obj ++ [46] ++ Lib.itoa e.off, [64] ++ Lib.itoa e.fn ++ [58] ++ Lib.itoa e.pc, [35] ++ Lib.itoa e.stack] := by unfold words5; rw [hob]
      simp only [↓evP, evB, stB, reduceIte, reduceCtorEq, Nat.reduceEqDiff, Nat.reduceAdd, Nat.reduceMul, Nat.reduceLeDiff, Nat.reduceLT, Nat.reduceSub, Nat.reduceBEq]
      refine callD_intro [pS (strB (Lib.itoa e.g))] ⟨e.g, by have := hi.g; omega, rfl, rfl⟩ ?_
      simp only [↓evP, evB, stB, reduceIte, reduceCtorEq, Nat.reduceEqDiff, Nat.reduceAdd, Nat.reduceMul, Nat.reduceLeDiff, Nat.reduceLT, Nat.reduceSub, Nat.reduceBEq, c8, n8, hT, k0, k21, Nat.mul_one]
      refine callD_intro [pS (strB (Lib.itoa e.fn))] ⟨e.fn, by have := hi.fn; omega, rfl, rfl⟩ ?_
      simp only [↓evP, evB, stB, reduceIte, reduceCtorEq, Nat.reduceEqDiff, Nat.reduceAdd, Nat.reduceMul, Nat.reduceLeDiff, Nat.reduceLT, Nat.reduceSub, Nat.reduceBEq, c9, n9, c10, n10]
      refine callD_intro [pS (strB (Lib.itoa e.pc))] ⟨e.pc, by have := hi.pc; omega, rfl, rfl⟩ ?_
      simp only [↓evP, evB, stB, reduceIte, reduceCtorEq, Nat.reduceEqDiff, Nat.reduceAdd, Nat.reduceMul, Nat.reduceLeDiff, Nat.reduceLT, Nat.reduceSub, Nat.reduceBEq, c11, n11]
      refine callD_intro [pS (strB (Lib.itoa e.stack))] ⟨e.stack, by have := hi.stack; omega, rfl, rfl⟩ ?_
      simp only [↓evP, evB, stB, reduceIte, reduceCtorEq, Nat.reduceEqDiff, Nat.reduceAdd, Nat.reduceMul, Nat.reduceLeDiff, Nat.reduceLT, Nat.reduceSub, Nat.reduceBEq, c12, n12]
      refine callD_intro [pS (strB (etext e))] ⟨(words5 e).map strB, ⟨#[32]⟩, by unfold words5; simp, by rw [hmap]; exact Nat.le_trans (words5_le hi) (by omega), by rw [hw5]; rfl, by rw [hmap, ht]⟩ ?_
      simp only [↓evP, evB, stB, reduceIte, reduceCtorEq, Nat.reduceEqDiff, Nat.reduceAdd, Nat.reduceMul, Nat.reduceLeDiff, Nat.reduceLT, Nat.reduceSub, Nat.reduceBEq, pr13]
      exact (by unfold Drw; refine Eq.trans (b := true) ?_ rfl; kernel_rfl)
end Go.Proofs.YthnjbnfnljjepabDoor
end
section
set_option linter.unusedSimpArgs false
set_option linter.unusedVariables false
namespace Go.Proofs.YthnjbnfnljjepabDoor
open Go Go.RowKit
set_option maxRecDepth 100000
set_option maxHeartbeats 4000000

theorem strings_eq (a b : ByteArray) : (a.toList == b.toList) = decide (a.data.toList = b.data.toList) := by
  rw [ba_toList, ba_toList, Bool.eq_iff_iff]; simp
theorem data_len (s : ByteArray) : s.data.toList.length = s.size := by simp
theorem trimPrefix_le (s p : List UInt8) : (Lib.trimPrefix s p).length ≤ s.length := by
  unfold Lib.trimPrefix
  split
  · rw [List.length_drop]; omega
  · exact Nat.le_refl _
/-- the number behind a prefix -/
def numE (s p : List UInt8) : Int := if Lib.hasPrefix s p = true then (match Lib.atoiAll (Lib.trimPrefix s p) with | .ok v => v | _ => -1) else -1
def R_number (ps rs : List Pa) : Prop := ∃ s p : ByteArray, ps = [pS s, pS p] ∧ s.size ≤ 1000000 ∧ rs = [pI (numE s.data.toList p.data.toList)]
theorem R_number.mk (s p : ByteArray) (h : s.size ≤ 1000000) : R_number [pS s, pS p] [pI (numE s.data.toList p.data.toList)] := ⟨s, p, rfl, h, rfl⟩
def env_num : Env := e1 37 R_cutp (e1 46 R_atoi e0)
theorem env_num_ok : EnvOK Tryd.prog env_num := EnvOK.e1 s_cutp (EnvOK.e1 s_atoi EnvOK.e0)
theorem s_number : Spec Tryd.prog 34 R_number := by
  refine sp34 env_num_ok ?_
  rintro ps rs ⟨s, p, rfl, hs, rfl⟩
  refine ⟨by simp, ?_⟩
  have hle := trimPrefix_le s.data.toList p.data.toList
  have hss := data_len s
  unfold pc34
  refine pwp_start ?_
  simp only [↓evP, evB, stB, reduceIte, reduceCtorEq, Nat.reduceEqDiff, Nat.reduceAdd, Nat.reduceMul, Nat.reduceLeDiff, Nat.reduceLT, Nat.reduceSub, Nat.reduceBEq]
  refine callOps_intro [pS (strB (Lib.trimPrefix s.data.toList p.data.toList)), pB (Lib.hasPrefix s.data.toList p.data.toList)] ⟨s, p, rfl, rfl⟩ ?_
  simp only [↓evP, evB, stB, reduceIte, reduceCtorEq, Nat.reduceEqDiff, Nat.reduceAdd, Nat.reduceMul, Nat.reduceLeDiff, Nat.reduceLT, Nat.reduceSub, Nat.reduceBEq]
  cases ha : Lib.atoiAll (Lib.trimPrefix s.data.toList p.data.toList) with
  | ok v =>
    refine callOps_intro [pI v, .one (.sc .nilIface)] ⟨strB (Lib.trimPrefix s.data.toList p.data.toList), by rw [strB_size]; omega, rfl, by rw [show (strB (Lib.trimPrefix s.data.toList p.data.toList)).data.toList = Lib.trimPrefix s.data.toList p.data.toList from rfl, ha]⟩ ?_
    cases hp : Lib.hasPrefix s.data.toList p.data.toList with
    | true =>
      have hn : numE s.data.toList p.data.toList = v := by unfold numE; rw [if_pos hp, ha]
      simp only [↓evP, evB, stB, reduceIte, reduceCtorEq, Nat.reduceEqDiff, Nat.reduceAdd, Nat.reduceMul, Nat.reduceLeDiff, Nat.reduceLT, Nat.reduceSub, Nat.reduceBEq, hn, pr34]
    | false =>
      have hn : numE s.data.toList p.data.toList = -1 := by unfold numE; rw [if_neg (by rw [hp]; simp)]
      simp only [↓evP, evB, stB, reduceIte, reduceCtorEq, Nat.reduceEqDiff, Nat.reduceAdd, Nat.reduceMul, Nat.reduceLeDiff, Nat.reduceLT, Nat.reduceSub, Nat.reduceBEq, hn, pr34]
  | _ =>
    refine callOps_intro [pI _, .one .nn] ⟨strB (Lib.trimPrefix s.data.toList p.data.toList), by rw [strB_size]; omega, rfl, by rw [show (strB (Lib.trimPrefix s.data.toList p.data.toList)).data.toList = Lib.trimPrefix s.data.toList p.data.toList from rfl, ha]⟩ ?_
    have hn : numE s.data.toList p.data.toList = -1 := by unfold numE; rw [ha]; split <;> rfl
    cases hp : Lib.hasPrefix s.data.toList p.data.toList <;> simp only [↓evP, evB, stB, reduceIte, reduceCtorEq, Nat.reduceEqDiff, Nat.reduceAdd, Nat.reduceMul, Nat.reduceLeDiff, Nat.reduceLT, Nat.reduceSub, Nat.reduceBEq, hn, pr34]

theorem cut_le (s sep : List UInt8) : (Lib.cut s sep).1.length ≤ s.length ∧ (Lib.cut s sep).2.1.length ≤ s.length := by
  unfold Lib.cut
  split
  · simp; omega
  · simp
def pairE (s sep : List UInt8) : Int × Int := if (Lib.cut s sep).2.2 = true then (numE (Lib.cut s sep).1 [], numE (Lib.cut s sep).2.1 []) else (-1, -1)
def R_pair (ps rs : List Pa) : Prop := ∃ s sep : ByteArray, ps = [pS s, pS sep] ∧ s.size ≤ 1000000 ∧ rs = [pI (pairE s.data.toList sep.data.toList).1, pI (pairE s.data.toList sep.data.toList).2]
theorem R_pair.mk (s sep : ByteArray) (h : s.size ≤ 1000000) : R_pair [pS s, pS sep] [pI (pairE s.data.toList sep.data.toList).1, pI (pairE s.data.toList sep.data.toList).2] := ⟨s, sep, rfl, h, rfl⟩
def env_pair : Env := e1 47 R_cut (e1 34 R_number e0)
theorem env_pair_ok : EnvOK Tryd.prog env_pair := EnvOK.e1 s_cut (EnvOK.e1 s_number EnvOK.e0)
theorem s_pair : Spec Tryd.prog 36 R_pair := by
  refine sp36 env_pair_ok ?_
  rintro ps rs ⟨s, sep, rfl, hs, rfl⟩
  refine ⟨by simp, ?_⟩
  have hle := cut_le s.data.toList sep.data.toList
  have hss := data_len s
  unfold pc36
  refine pwp_start ?_
  simp only [↓evP, evB, stB, reduceIte, reduceCtorEq, Nat.reduceEqDiff, Nat.reduceAdd, Nat.reduceMul, Nat.reduceLeDiff, Nat.reduceLT, Nat.reduceSub, Nat.reduceBEq]
  refine callOps_intro [pS (strB (Lib.cut s.data.toList sep.data.toList).1), pS (strB (Lib.cut s.data.toList sep.data.toList).2.1), pB (Lib.cut s.data.toList sep.data.toList).2.2] ⟨s, sep, hs, rfl, rfl⟩ ?_
  cases hc : (Lib.cut s.data.toList sep.data.toList).2.2 with
  | false =>
    have hn : pairE s.data.toList sep.data.toList = (-1, -1) := by unfold pairE; rw [if_neg (by rw [hc]; simp)]
    simp only [↓evP, evB, stB, reduceIte, reduceCtorEq, Nat.reduceEqDiff, Nat.reduceAdd, Nat.reduceMul, Nat.reduceLeDiff, Nat.reduceLT, Nat.reduceSub, Nat.reduceBEq, hn, pI, pr36]
  | true =>
    have hn : pairE s.data.toList sep.data.toList = (numE (Lib.cut s.data.toList sep.data.toList).1 [], numE (Lib.cut s.data.toList sep.data.toList).2.1 []) := by unfold pairE; rw [if_pos hc]
    simp only [↓evP, evB, stB, reduceIte, reduceCtorEq, Nat.reduceEqDiff, Nat.reduceAdd, Nat.reduceMul, Nat.reduceLeDiff, Nat.reduceLT, Nat.reduceSub, Nat.reduceBEq]
    refine callOps_intro [pI (numE (Lib.cut s.data.toList sep.data.toList).1 [])] ⟨strB (Lib.cut s.data.toList sep.data.toList).1, ⟨#[]⟩, rfl, by rw [strB_size]; omega, rfl⟩ ?_
    simp only [↓evP, evB, stB, reduceIte, reduceCtorEq, Nat.reduceEqDiff, Nat.reduceAdd, Nat.reduceMul, Nat.reduceLeDiff, Nat.reduceLT, Nat.reduceSub, Nat.reduceBEq]
    refine callOps_intro [pI (numE (Lib.cut s.data.toList sep.data.toList).2.1 [])] ⟨strB (Lib.cut s.data.toList sep.data.toList).2.1, ⟨#[]⟩, rfl, by rw [strB_size]; omega, rfl⟩ ?_
    simp only [↓evP, evB, stB, reduceIte, reduceCtorEq, Nat.reduceEqDiff, Nat.reduceAdd, Nat.reduceMul, Nat.reduceLeDiff, Nat.reduceLT, Nat.reduceSub, Nat.reduceBEq, hn, pI, pr36]

/-- the kind with a name -/
def kindGo (n : List UInt8) : Nat → List ByteArray → Nat
  | _, [] => 0
  | k, x :: xs => if x.data.toList = n then k else kindGo n (k + 1) xs
def kindIx (n : List UInt8) : Nat := kindGo n 1 (kindNames.drop 1)
def R_kindOf (ps rs : List Pa) : Prop := ∃ s : ByteArray, ps = [pS s] ∧ rs = [pI (kindIx s.data.toList)]
theorem R_kindOf.mk (s : ByteArray) : R_kindOf [pS s] [pI (kindIx s.data.toList)] := ⟨s, rfl, rfl⟩
def env_kind : Env := t1 0 namesV e0
theorem env_kind_ok : EnvOK Tryd.prog env_kind := EnvOK.t1 namesV_one (fun w hw k v hk => Door.nm hw k v hk) EnvOK.e0
theorem s_kindOf : Spec Tryd.prog 35 R_kindOf := by
  refine sp35 env_kind_ok ?_
  rintro ps rs ⟨s, rfl, rfl⟩
  refine ⟨by simp, ?_⟩
  unfold pc35
  refine pwp_start ?_
  simp only [↓evP, evB, stB, reduceIte, reduceCtorEq, Nat.reduceEqDiff, Nat.reduceAdd, Nat.reduceMul, Nat.reduceLeDiff, Nat.reduceLT, Nat.reduceSub, Nat.reduceBEq]
  refine pwp_loopW ms35_0 os35_0 (fun m st => ∃ k : Nat, m = 21 - k ∧ k ≤ 21 ∧ st.sl 4 = aI k ∧ (k = 0 ∨ kindIx s.data.toList = kindGo s.data.toList k (kindNames.drop k))) 21 ?_ ?_
  · exact ⟨0, rfl, by omega, by simp only [stB, reduceIte, reduceCtorEq, Nat.reduceEqDiff, Nat.reduceAdd, Nat.reduceMul, Nat.reduceLeDiff, Nat.reduceLT, Nat.reduceSub, Nat.reduceBEq]; rfl, .inl rfl⟩
  · rintro m j ⟨k, rfl, hk, h4, hq⟩
    simp only [stB, reduceIte, reduceCtorEq, Nat.reduceEqDiff, Nat.reduceAdd, Nat.reduceMul, Nat.reduceLeDiff, Nat.reduceLT, Nat.reduceSub, Nat.reduceBEq] at h4
    rcases Nat.lt_or_ge k 21 with hlt | hge
    · have hlt' : (k : Int) < 21 := by omega
      by_cases hz : k = 0
      · subst hz
        have h00 : ¬ ((0 : Nat) : Int) > 0 := by omega
        simp only [↓evP, evB, stB, reduceIte, reduceCtorEq, Nat.reduceEqDiff, Nat.reduceAdd, Nat.reduceMul, Nat.reduceLeDiff, Nat.reduceLT, Nat.reduceSub, Nat.reduceBEq, h4, hlt', h00, decide_false]
        exact ⟨_, by omega, (by repeat' (first | assumption | exact within_over.mpr trivial | exact Within.refl _ _ _ | (refine within_ap ?_ rfl rfl) | (refine within_ap0 ?_ rfl))), 1, rfl, by omega, by simp only [stB, reduceIte, reduceCtorEq, Nat.reduceEqDiff, Nat.reduceAdd, Nat.reduceMul, Nat.reduceLeDiff, Nat.reduceLT, Nat.reduceSub, Nat.reduceBEq, h4]; rw [wrN (by omega)], .inr rfl⟩
      have hpos : (k : Int) > 0 := by omega
      have h0 : (0 : Int) ≤ (k : Int) := by omega
      have h21 : (k : Int) < ((21 : Nat) : Int) := by omega
      have hq := hq.resolve_left hz
      obtain ⟨u, hu⟩ : ∃ u, kindNames[k]? = some u := ⟨_, List.getElem?_eq_getElem (by show k < 21; omega)⟩
      have hT : env_kind.t 0 k = some (.string u) := by
        show namesV[k]? = _
        unfold namesV; rw [List.getElem?_map, hu]; rfl
      have hd : kindNames.drop k = u :: kindNames.drop (k + 1) := by
        obtain ⟨hl, rfl⟩ := List.getElem?_eq_some_iff.1 hu
        exact List.drop_eq_getElem_cons hl
      rw [hd] at hq
      unfold kindGo at hq
      have hse := strings_eq u s
      by_cases he : u.data.toList = s.data.toList
      · rw [if_pos he] at hq
        rw [decide_eq_true he] at hse
        simp only [↓evP, evB, stB, reduceIte, reduceCtorEq, Nat.reduceEqDiff, Nat.reduceAdd, Nat.reduceMul, Nat.reduceLeDiff, Nat.reduceLT, Nat.reduceSub, Nat.reduceBEq, h4, hlt', hpos, h0, h21, hT, hse, decide_true, Nat.mul_one, Int.toNat_natCast, hq, pr35]
      · rw [if_neg he] at hq
        rw [decide_eq_false he] at hse
        simp only [↓evP, evB, stB, reduceIte, reduceCtorEq, Nat.reduceEqDiff, Nat.reduceAdd, Nat.reduceMul, Nat.reduceLeDiff, Nat.reduceLT, Nat.reduceSub, Nat.reduceBEq, h4, hlt', hpos, h0, h21, hT, hse, decide_true, Nat.mul_one, Int.toNat_natCast]
        exact ⟨_, by omega, (by repeat' (first | assumption | exact within_over.mpr trivial | exact Within.refl _ _ _ | (refine within_ap ?_ rfl rfl) | (refine within_ap0 ?_ rfl))), k + 1, rfl, by omega, by simp only [stB, reduceIte, reduceCtorEq, Nat.reduceEqDiff, Nat.reduceAdd, Nat.reduceMul, Nat.reduceLeDiff, Nat.reduceLT, Nat.reduceSub, Nat.reduceBEq, h4]; rw [wrN (by omega)], .inr hq⟩
    · have hk21 : k = 21 := by omega
      subst hk21
      have hlt' : ¬ ((21 : Nat) : Int) < 21 := by omega
      have hq := hq.resolve_left (by omega)
      have hz : kindIx s.data.toList = 0 := hq
      simp only [↓evP, evB, stB, reduceIte, reduceCtorEq, Nat.reduceEqDiff, Nat.reduceAdd, Nat.reduceMul, Nat.reduceLeDiff, Nat.reduceLT, Nat.reduceSub, Nat.reduceBEq, h4, hlt', hz, pr35]
      rfl
end Go.Proofs.YthnjbnfnljjepabDoor
end
