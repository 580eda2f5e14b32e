/- The plain model of events and of the state of a trace: no program in sight. -/
import Derived.Below
namespace Go.Proofs.Ytkdagjlkejefnaa
open Go.RowKit

structure Ev where
  g : Int
  kind : Int
  obj : Int
  off : Int
  k : Int
  n : Int
  fn : Int
  pc : Int
  stack : Int
deriving DecidableEq, Inhabited

def I64 (x : Int) : Prop := -9223372036854775808 ≤ x ∧ x ≤ 9223372036854775807
/-- every field is an int64 -/
def Ev.wf (e : Ev) : Prop := I64 e.g ∧ I64 e.kind ∧ I64 e.obj ∧ I64 e.off ∧ I64 e.k ∧ I64 e.n ∧ I64 e.fn ∧ I64 e.pc ∧ I64 e.stack

def Ev.cells (e : Ev) : List Value := [.int .i64 e.g, .int .i64 e.kind, .int .i64 e.obj, .int .i64 e.off, .int .i64 e.k, .int .i64 e.n, .int .i64 e.fn, .int .i64 e.pc, .int .i64 e.stack]
def Ev.val (e : Ev) : Value := .agg #[.int .i64 e.g, .int .i64 e.kind, .int .i64 e.obj, .int .i64 e.off, .int .i64 e.k, .int .i64 e.n, .int .i64 e.fn, .int .i64 e.pc, .int .i64 e.stack]

def numberedB (k : Int) : Bool := decide (15 ≤ k ∧ k ≤ 18)
def isKindB (k : Int) : Bool := decide (1 ≤ k ∧ k ≤ 20)
def chanB (k : Int) : Bool := decide (15 ≤ k ∧ k ≤ 20)
def memB (k : Int) : Bool := decide (k = 1 ∨ k = 2)
def rangeB (x : Int) : Bool := decide (0 ≤ x ∧ x ≤ 2147483647)
def Ev.rest (e : Ev) : Bool :=
  if e.kind = 14 then decide (e.obj = 0 ∧ e.off = 0 ∧ e.n = 0 ∧ 1 ≤ e.k ∧ e.k < 8)
  else if 15 ≤ e.kind ∧ e.kind ≤ 18 then decide (e.off = 0 ∧ e.n ≤ 64)
  else if 19 ≤ e.kind then decide (e.off = 0 ∧ e.n ≤ 64 ∧ e.k = 0)
  else decide (e.k = 0 ∧ e.n = 0)
/-- what both texts call a valid event -/
def Ev.valid (e : Ev) : Bool := isKindB e.kind && decide (0 ≤ e.g ∧ e.g < 8) &&
  (rangeB e.obj && rangeB e.off && rangeB e.k && rangeB e.n && rangeB e.fn && rangeB e.pc && rangeB e.stack) && e.rest

/-! The state of a trace, as the program keeps it. -/
structure Ch where
  cap : Int
  sent : Int
  recv : Int
  closed : Bool
deriving DecidableEq, Inhabited
def ch0 : Ch := ⟨0, 0, 0, false⟩
structure Mu where
  locked : Bool
  readers : Int
deriving DecidableEq, Inhabited
def mu0 : Mu := ⟨false, 0⟩
structure Grp where
  kinds : List Int
  obj : Int
  k : Int
  n : Int
  snd : Int
  rcv : Int
def grp0 : Grp := ⟨[], 0, 0, 0, 0, 0⟩
structure TS where
  events : Int
  gor : Int
  chans : Int → Option Ch
  mus : Int × Int → Option Mu
  done : Int × Int → Option Bool
  grp : Grp
def TS.new : TS := ⟨0, 1, fun _ => none, fun _ => none, fun _ => none, grp0⟩

/-- f, but v at x -/
def upd {κ : Type} [DecidableEq κ] {α : Type} (f : κ → Option α) (x : κ) (v : α) : κ → Option α := fun y => if y = x then some v else f y
theorem upd_same {κ : Type} [DecidableEq κ] {α : Type} (f : κ → Option α) (x : κ) (v : α) : upd f x v x = some v := if_pos rfl
theorem upd_other {κ : Type} [DecidableEq κ] {α : Type} (f : κ → Option α) {x y : κ} (v : α) (h : y ≠ x) : upd f x v y = f y := if_neg h
theorem upd_upd {κ : Type} [DecidableEq κ] {α : Type} (f : κ → Option α) (x : κ) (v u : α) : upd (upd f x v) x u = upd f x u := by
  funext y; unfold upd; split <;> rfl

def Ch.count (c : Ch) (kind : Int) : Ch := if kind = 15 then { c with sent := c.sent + 1 } else if kind = 17 then { c with recv := c.recv + 1 } else c
def TS.count (s : TS) (e : Ev) : TS := { s with chans := upd s.chans e.obj (((s.chans e.obj).getD ch0).count e.kind) }

def sendsB (k : Int) : Bool := decide (k = 15 ∨ k = 16)
def Grp.own (o : Grp) (kind : Int) : Int := if sendsB kind = true then o.snd else o.rcv
def Grp.other (o : Grp) (kind : Int) : Int := if sendsB kind = true then o.rcv else o.snd
def Grp.next (o : Grp) (e : Ev) : Grp :=
  if sendsB e.kind = true then { o with kinds := o.kinds.tail, snd := e.g } else { o with kinds := o.kinds.tail, rcv := e.g }
def Grp.fits (o : Grp) (e : Ev) : Bool :=
  decide (e.kind = o.kinds.headD 0 ∧ e.obj = o.obj ∧ e.k = o.k ∧ e.n = o.n) && !(decide (o.own e.kind < 0 ∧ e.g = o.other e.kind) || decide (0 ≤ o.own e.kind ∧ e.g ≠ o.own e.kind))
def TS.proceed (s : TS) (e : Ev) : Option TS :=
  if s.grp.fits e = true then some { s.count e with grp := s.grp.next e } else none

def TS.chan (s : TS) (e : Ev) : Ch := match s.chans e.obj with
  | some c => c
  | none => { ch0 with cap := e.n }
def TS.start (s : TS) (e : Ev) (c : Ch) (kinds : List Int) (snd rcv : Int) : TS :=
  { s with chans := upd s.chans e.obj (c.count e.kind), grp := ⟨kinds, e.obj, e.k, e.n, snd, rcv⟩ }
/-- the events that are missing behind the first one of a group -/
def Ch.missing (c : Ch) (kind : Int) (alone : Bool) : Option (List Int) :=
  if kind = 15 then (if c.sent - c.recv < c.cap then some [16] else if c.cap = 0 ∧ alone = false then some [17, 18, 16] else none)
  else (if c.recv < c.sent then some [18] else if c.closed = false ∧ alone = false then some [15, 18, 16] else none)
def TS.operate (s : TS) (e : Ev) : Option TS :=
  let c := s.chan e
  if c.cap ≠ e.n then none
  else if e.kind = 19 then (if c.closed = true then none else some { s with chans := upd s.chans e.obj { c with closed := true } })
  else if e.kind = 20 then (if c.closed = true ∧ c.sent = c.recv then some s else none)
  else if e.kind = 15 then (if c.closed = true ∨ e.k ≠ c.sent then none else (c.missing 15 (decide (s.gor = 1))).map fun l => s.start e c l e.g (-1))
  else if e.kind = 17 then (if e.k ≠ c.recv then none else (c.missing 17 (decide (s.gor = 1))).map fun l => s.start e c l (-1) e.g)
  else none

def TS.mu (s : TS) (e : Ev) : Mu := (s.mus (e.obj, e.off)).getD mu0
def TS.simple (s : TS) (e : Ev) : Option TS :=
  let m := s.mu e
  let put (m : Mu) : Option TS := some { s with mus := upd s.mus (e.obj, e.off) m }
  if e.kind = 6 then (if m.locked = true ∨ 0 < m.readers then none else put { m with locked := true })
  else if e.kind = 7 then (if m.locked = false then none else put { m with locked := false })
  else if e.kind = 8 then (if m.locked = true then none else put { m with readers := m.readers + 1 })
  else if e.kind = 9 then (if m.readers = 0 then none else put { m with readers := m.readers - 1 })
  else if e.kind = 12 then (if (s.done (e.obj, e.off)).getD false = true then none else some { s with done := upd s.done (e.obj, e.off) true })
  else if e.kind = 13 then (if (s.done (e.obj, e.off)).getD false = true then some s else none)
  else if e.kind = 14 then (if e.k ≠ s.gor then none else some { s with gor := s.gor + 1 })
  else some s

def TS.isOpen (s : TS) : Bool := decide (0 < s.grp.kinds.length)
def TS.part (s : TS) (e : Ev) : Option TS :=
  if s.isOpen = true then s.proceed e else if chanB e.kind = true then s.operate e else s.simple e
def TS.admits (s : TS) (e : Ev) : Bool := e.valid && decide (s.events < 5000) && decide (e.g < s.gor)
def TS.add (s : TS) (e : Ev) : Option TS :=
  if s.admits e = true then (s.part e).map fun t => { t with events := t.events + 1 } else none

/-- what bounds the numbers of a state -/
structure TS.wf (s : TS) : Prop where
  ev : 0 ≤ s.events ∧ s.events ≤ 5000
  gr : 1 ≤ s.gor ∧ s.gor ≤ 8
  ch : ∀ x c, s.chans x = some c → (0 ≤ c.sent ∧ c.sent ≤ s.events) ∧ (0 ≤ c.recv ∧ c.recv ≤ s.events) ∧ (0 ≤ c.cap ∧ c.cap ≤ 64)
  mu : ∀ x m, s.mus x = some m → 0 ≤ m.readers ∧ m.readers ≤ s.events
  kd : s.grp.kinds.length ≤ 3

theorem TS.wf_new : TS.new.wf := ⟨by decide, by decide, (fun _ _ h => by cases h), (fun _ _ h => by cases h), by decide⟩

theorem Ev.valid_n {e : Ev} (h : e.valid = true) : 0 ≤ e.n ∧ e.n ≤ 2147483647 := by
  simp only [Ev.valid, rangeB, Bool.and_eq_true, decide_eq_true_eq] at h; omega
theorem Ev.valid_k {e : Ev} (h : e.valid = true) : 0 ≤ e.k ∧ e.k ≤ 2147483647 := by
  simp only [Ev.valid, rangeB, Bool.and_eq_true, decide_eq_true_eq] at h; omega
theorem Ev.valid_obj {e : Ev} (h : e.valid = true) : 0 ≤ e.obj ∧ e.obj ≤ 2147483647 := by
  simp only [Ev.valid, rangeB, Bool.and_eq_true, decide_eq_true_eq] at h; omega
theorem Ev.valid_off {e : Ev} (h : e.valid = true) : 0 ≤ e.off ∧ e.off ≤ 2147483647 := by
  simp only [Ev.valid, rangeB, Bool.and_eq_true, decide_eq_true_eq] at h; omega
theorem Ev.valid_g {e : Ev} (h : e.valid = true) : 0 ≤ e.g ∧ e.g < 8 := by
  simp only [Ev.valid, rangeB, Bool.and_eq_true, decide_eq_true_eq] at h; omega
theorem Ev.valid_kind {e : Ev} (h : e.valid = true) : 1 ≤ e.kind ∧ e.kind ≤ 20 := by
  simp only [Ev.valid, isKindB, Bool.and_eq_true, decide_eq_true_eq] at h; omega
theorem Ev.valid_cap {e : Ev} (h : e.valid = true) (hk : chanB e.kind = true) : e.n ≤ 64 := by
  simp only [Ev.valid, Ev.rest, Bool.and_eq_true] at h
  simp only [chanB, decide_eq_true_eq] at hk
  have h2 := h.2
  rw [if_neg (by omega)] at h2
  split at h2
  · simp at h2; omega
  · rw [if_pos (by omega)] at h2; simp at h2; omega
theorem Ev.valid_go {e : Ev} (h : e.valid = true) (hk : e.kind = 14) : 1 ≤ e.k ∧ e.k < 8 := by
  simp only [Ev.valid, Ev.rest, Bool.and_eq_true] at h
  have h2 := h.2
  rw [if_pos hk] at h2
  simp at h2; omega

theorem Ch.count_bd {c : Ch} {B kind : Int} (h : (0 ≤ c.sent ∧ c.sent ≤ B) ∧ (0 ≤ c.recv ∧ c.recv ≤ B) ∧ (0 ≤ c.cap ∧ c.cap ≤ 64)) :
    (0 ≤ (c.count kind).sent ∧ (c.count kind).sent ≤ B + 1) ∧ (0 ≤ (c.count kind).recv ∧ (c.count kind).recv ≤ B + 1) ∧ (0 ≤ (c.count kind).cap ∧ (c.count kind).cap ≤ 64) := by
  unfold Ch.count
  split
  · dsimp only; omega
  · split
    · dsimp only; omega
    · omega

theorem TS.chan_bd {s : TS} (h : s.wf) {e : Ev} (hv : e.valid = true) (hk : chanB e.kind = true) :
    (0 ≤ (s.chan e).sent ∧ (s.chan e).sent ≤ s.events) ∧ (0 ≤ (s.chan e).recv ∧ (s.chan e).recv ≤ s.events) ∧ (0 ≤ (s.chan e).cap ∧ (s.chan e).cap ≤ 64) := by
  unfold TS.chan
  have h1 := h.ev
  have h2 := Ev.valid_cap hv hk
  have h3 := Ev.valid_n hv
  cases hc : s.chans e.obj with
  | none => dsimp [ch0]; omega
  | some c => exact h.ch _ _ hc
theorem TS.mu_bd {s : TS} (h : s.wf) (e : Ev) : 0 ≤ (s.mu e).readers ∧ (s.mu e).readers ≤ s.events := by
  unfold TS.mu
  have h1 := h.ev
  cases hc : s.mus (e.obj, e.off) with
  | none => dsimp [mu0]; omega
  | some m => exact h.mu _ _ hc

theorem upd_all {κ : Type} [DecidableEq κ] {α : Type} {f : κ → Option α} {x : κ} {v : α} {p : α → Prop} (hf : ∀ y c, f y = some c → p c) (hv : p v) : ∀ y c, upd f x v y = some c → p c := by
  intro y c h
  unfold upd at h
  split at h
  · cases h; exact hv
  · exact hf y c h

/-- a state that an event leads to is bounded, one event more being counted -/
theorem TS.part_wf {s t : TS} (h : s.wf) {e : Ev} (hv : e.valid = true) (hp : s.part e = some t) :
    t.events = s.events ∧ (1 ≤ t.gor ∧ t.gor ≤ 8) ∧ (∀ x c, t.chans x = some c → (0 ≤ c.sent ∧ c.sent ≤ s.events + 1) ∧ (0 ≤ c.recv ∧ c.recv ≤ s.events + 1) ∧ (0 ≤ c.cap ∧ c.cap ≤ 64)) ∧
      (∀ x m, t.mus x = some m → 0 ≤ m.readers ∧ m.readers ≤ s.events + 1) ∧ t.grp.kinds.length ≤ 3 := by
  have hch : ∀ x c, s.chans x = some c → (0 ≤ c.sent ∧ c.sent ≤ s.events + 1) ∧ (0 ≤ c.recv ∧ c.recv ≤ s.events + 1) ∧ (0 ≤ c.cap ∧ c.cap ≤ 64) := fun x c hc => by
    have := h.ch x c hc; omega
  have hmu : ∀ x m, s.mus x = some m → 0 ≤ m.readers ∧ m.readers ≤ s.events + 1 := fun x m hm => by
    have := h.mu x m hm; omega
  have hgr := h.gr
  have hkd := h.kd
  have hev := h.ev
  unfold TS.part at hp
  split at hp
  · -- proceed
    unfold TS.proceed at hp
    split at hp
    · cases hp
      refine ⟨rfl, hgr, ?_, hmu, ?_⟩
      · refine upd_all hch (Ch.count_bd ?_)
        cases hc : s.chans e.obj with
        | none => dsimp [ch0]; omega
        | some c => exact h.ch _ _ hc
      · unfold Grp.next
        split <;> (simp; omega)
    · cases hp
  · split at hp
    · -- operate
      rename_i hk
      have hb := TS.chan_bd h hv hk
      unfold TS.operate at hp
      dsimp only at hp
      split at hp
      · cases hp
      split at hp
      · split at hp
        · cases hp
        · cases hp
          exact ⟨rfl, hgr, upd_all hch (by dsimp only; omega), hmu, hkd⟩
      split at hp
      · split at hp
        · cases hp; exact ⟨rfl, hgr, hch, hmu, hkd⟩
        · cases hp
      split at hp
      · split at hp
        · cases hp
        · simp only [Option.map_eq_some_iff] at hp
          obtain ⟨l, hl, rfl⟩ := hp
          refine ⟨rfl, hgr, upd_all hch (Ch.count_bd hb), hmu, ?_⟩
          unfold Ch.missing at hl
          simp only [if_pos] at hl
          split at hl
          · cases hl; simp [TS.start]
          · split at hl
            · cases hl; simp [TS.start]
            · cases hl
      split at hp
      · split at hp
        · cases hp
        · simp only [Option.map_eq_some_iff] at hp
          obtain ⟨l, hl, rfl⟩ := hp
          refine ⟨rfl, hgr, upd_all hch (Ch.count_bd hb), hmu, ?_⟩
          unfold Ch.missing at hl
          rw [if_neg (by decide)] at hl
          split at hl
          · cases hl; simp [TS.start]
          · split at hl
            · cases hl; simp [TS.start]
            · cases hl
      · cases hp
    · -- simple
      have hm := TS.mu_bd h e
      unfold TS.simple at hp
      dsimp only at hp
      split at hp
      · split at hp
        · cases hp
        · cases hp; exact ⟨rfl, hgr, hch, upd_all hmu (by dsimp only; omega), hkd⟩
      split at hp
      · split at hp
        · cases hp
        · cases hp; exact ⟨rfl, hgr, hch, upd_all hmu (by dsimp only; omega), hkd⟩
      split at hp
      · split at hp
        · cases hp
        · cases hp; exact ⟨rfl, hgr, hch, upd_all hmu (by dsimp only; omega), hkd⟩
      split at hp
      · split at hp
        · cases hp
        · cases hp; exact ⟨rfl, hgr, hch, upd_all hmu (by dsimp only; omega), hkd⟩
      split at hp
      · split at hp
        · cases hp
        · cases hp; exact ⟨rfl, hgr, hch, hmu, hkd⟩
      split at hp
      · split at hp
        · cases hp; exact ⟨rfl, hgr, hch, hmu, hkd⟩
        · cases hp
      split at hp
      · rename_i hgo
        have := Ev.valid_go hv hgo
        split at hp
        · cases hp
        · cases hp; exact ⟨rfl, by dsimp only; omega, hch, hmu, hkd⟩
      · cases hp; exact ⟨rfl, hgr, hch, hmu, hkd⟩

theorem TS.add_wf {s t : TS} (h : s.wf) {e : Ev} (ha : s.add e = some t) : t.wf := by
  unfold TS.add at ha
  split at ha
  · rename_i had
    simp only [TS.admits, Bool.and_eq_true, decide_eq_true_eq] at had
    simp only [Option.map_eq_some_iff] at ha
    obtain ⟨u, hu, rfl⟩ := ha
    obtain ⟨h1, h2, h3, h4, h5⟩ := TS.part_wf h had.1.1 hu
    have hev := h.ev
    exact ⟨by dsimp only; omega, h2, fun x c hc => by have := h3 x c hc; dsimp only; omega, fun x m hm => by have := h4 x m hm; dsimp only; omega, h5⟩
  · cases ha

/-! what operate comes to, way by way, the tests in the walk's own form -/
section
variable {s : TS} {g kind obj off k en fn pc stack cap sent recv : Int} {closed : Bool}
  (hc : s.chan ⟨g, kind, obj, off, k, en, fn, pc, stack⟩ = ⟨cap, sent, recv, closed⟩)
include hc
theorem TS.op_eq : s.operate ⟨g, kind, obj, off, k, en, fn, pc, stack⟩ =
    if cap ≠ en then none
    else if kind = 19 then (if closed = true then none else some { s with chans := upd s.chans obj ⟨cap, sent, recv, true⟩ })
    else if kind = 20 then (if closed = true ∧ sent = recv then some s else none)
    else if kind = 15 then (if closed = true ∨ k ≠ sent then none else ((⟨cap, sent, recv, closed⟩ : Ch).missing 15 (decide (s.gor = 1))).map fun l => s.start ⟨g, kind, obj, off, k, en, fn, pc, stack⟩ ⟨cap, sent, recv, closed⟩ l g (-1))
    else if kind = 17 then (if k ≠ recv then none else ((⟨cap, sent, recv, closed⟩ : Ch).missing 17 (decide (s.gor = 1))).map fun l => s.start ⟨g, kind, obj, off, k, en, fn, pc, stack⟩ ⟨cap, sent, recv, closed⟩ l (-1) g)
    else none := by
  unfold TS.operate; rw [hc]
theorem TS.op_nA (h1 : (cap != en) = true) : s.operate ⟨g, kind, obj, off, k, en, fn, pc, stack⟩ = none := by
  rw [TS.op_eq hc]; simp_all
theorem TS.op_nB (h1 : (kind == 19) = true) (h2 : closed = true) : s.operate ⟨g, kind, obj, off, k, en, fn, pc, stack⟩ = none := by
  rw [TS.op_eq hc]; simp_all
theorem TS.op_n20 (h1 : (kind == 20) = true) (h2 : ¬closed = true) : s.operate ⟨g, kind, obj, off, k, en, fn, pc, stack⟩ = none := by
  rw [TS.op_eq hc]; simp_all
theorem TS.op_nD (h1 : (kind == 15) = true) (h2 : closed = true) : s.operate ⟨g, kind, obj, off, k, en, fn, pc, stack⟩ = none := by
  rw [TS.op_eq hc]; simp_all
theorem TS.op_nE (h1 : (kind == 15) = true) (h2 : (k != sent) = true) : s.operate ⟨g, kind, obj, off, k, en, fn, pc, stack⟩ = none := by
  rw [TS.op_eq hc]; simp_all
theorem TS.op_nF (h1 : (kind == 15) = true) (h2 : cap ≤ sent - recv) (h3 : (!s.gor == 1) = false) : s.operate ⟨g, kind, obj, off, k, en, fn, pc, stack⟩ = none := by
  rw [TS.op_eq hc]; simp_all [Ch.missing]; intros; omega
theorem TS.op_nG (h1 : (kind == 15) = true) (h2 : cap ≤ sent - recv) (h3 : ¬cap = 0) : s.operate ⟨g, kind, obj, off, k, en, fn, pc, stack⟩ = none := by
  rw [TS.op_eq hc]; simp_all [Ch.missing]; intros; omega
theorem TS.op_nH (h1 : (kind == 17) = true) (h2 : (k != recv) = true) : s.operate ⟨g, kind, obj, off, k, en, fn, pc, stack⟩ = none := by
  rw [TS.op_eq hc]; simp_all
theorem TS.op_nI (h1 : (kind == 17) = true) (h2 : sent ≤ recv) (h3 : closed = true) : s.operate ⟨g, kind, obj, off, k, en, fn, pc, stack⟩ = none := by
  have h4 : ¬ recv < sent := by omega
  rw [TS.op_eq hc]; simp_all [Ch.missing]
theorem TS.op_nJ (h1 : (kind == 17) = true) (h2 : sent ≤ recv) (h3 : (!s.gor == 1) = false) : s.operate ⟨g, kind, obj, off, k, en, fn, pc, stack⟩ = none := by
  have h4 : ¬ recv < sent := by omega
  rw [TS.op_eq hc]; simp_all [Ch.missing]
theorem TS.op_nK (h1 : (kind == 19) = false) (h2 : (kind == 20) = false) (h3 : (kind == 15) = false) (h4 : (kind == 17) = false) : s.operate ⟨g, kind, obj, off, k, en, fn, pc, stack⟩ = none := by
  rw [TS.op_eq hc]; simp_all
theorem TS.op_s19 (h0 : (cap != en) = false) (h1 : (kind == 19) = true) (h2 : closed = false) : s.operate ⟨g, kind, obj, off, k, en, fn, pc, stack⟩ = some { s with chans := upd s.chans obj ⟨cap, sent, recv, true⟩ } := by
  rw [TS.op_eq hc]; simp_all
theorem TS.op_s20 (h0 : (cap != en) = false) (h1 : (kind == 20) = true) (h2 : closed = true) : s.operate ⟨g, kind, obj, off, k, en, fn, pc, stack⟩ = if sent = recv then some s else none := by
  rw [TS.op_eq hc]; simp_all
theorem TS.op_s15a (h0 : (cap != en) = false) (h1 : (kind == 15) = true) (h2 : ¬closed = true) (h3 : (k != sent) = false) (h4 : sent - recv < cap) : s.operate ⟨g, kind, obj, off, k, en, fn, pc, stack⟩ = some (s.start ⟨g, kind, obj, off, k, en, fn, pc, stack⟩ ⟨cap, sent, recv, closed⟩ [16] g (-1)) := by
  rw [TS.op_eq hc]; simp_all [Ch.missing]
theorem TS.op_s15b (h0 : (cap != en) = false) (h1 : (kind == 15) = true) (h2 : ¬closed = true) (h3 : (k != sent) = false) (h4 : cap ≤ sent - recv) (h5 : cap = 0) (h6 : (!s.gor == 1) = true) : s.operate ⟨g, kind, obj, off, k, en, fn, pc, stack⟩ = some (s.start ⟨g, kind, obj, off, k, en, fn, pc, stack⟩ ⟨cap, sent, recv, closed⟩ [17, 18, 16] g (-1)) := by
  have hm : (⟨cap, sent, recv, closed⟩ : Ch).missing 15 (decide (s.gor = 1)) = some [17, 18, 16] := by
    unfold Ch.missing
    rw [if_pos rfl]
    dsimp only
    rw [if_neg (by omega), if_pos ⟨h5, by simpa using h6⟩]
  rw [TS.op_eq hc, hm]; simp_all
theorem TS.op_s17a (h0 : (cap != en) = false) (h1 : (kind == 17) = true) (h3 : (k != recv) = false) (h4 : recv < sent) : s.operate ⟨g, kind, obj, off, k, en, fn, pc, stack⟩ = some (s.start ⟨g, kind, obj, off, k, en, fn, pc, stack⟩ ⟨cap, sent, recv, closed⟩ [18] (-1) g) := by
  rw [TS.op_eq hc]; simp_all [Ch.missing]
theorem TS.op_s17b (h0 : (cap != en) = false) (h1 : (kind == 17) = true) (h2 : ¬closed = true) (h3 : (k != recv) = false) (h4 : sent ≤ recv) (h6 : (!s.gor == 1) = true) : s.operate ⟨g, kind, obj, off, k, en, fn, pc, stack⟩ = some (s.start ⟨g, kind, obj, off, k, en, fn, pc, stack⟩ ⟨cap, sent, recv, closed⟩ [15, 18, 16] (-1) g) := by
  have hm : (⟨cap, sent, recv, closed⟩ : Ch).missing 17 (decide (s.gor = 1)) = some [15, 18, 16] := by
    unfold Ch.missing
    rw [if_neg (by decide)]
    dsimp only
    rw [if_neg (by omega), if_pos ⟨by simpa using h2, by simpa using h6⟩]
  rw [TS.op_eq hc, hm]; simp_all
end
end Go.Proofs.Ytkdagjlkejefnaa
