/- Following a trace: how many events are possible, and where no group is open. -/
import Derived.Test.YtkdagjlkejefnaaModel
namespace Go.Proofs.Ytkdagjlkejefnaa

/-- the state behind a list of events, if all are possible -/
def TS.steps (s : TS) : List Ev → Option TS
  | [] => some s
  | e :: l => (s.add e).bind fun t => t.steps l
/-- how many are possible at the beginning -/
def TS.chk (s : TS) : List Ev → Nat
  | [] => 0
  | e :: l => match s.add e with
    | some t => t.chk l + 1
    | none => 0

theorem TS.steps_append (s : TS) (l m : List Ev) : s.steps (l ++ m) = (s.steps l).bind fun t => t.steps m := by
  induction l generalizing s with
  | nil => rfl
  | cons e l ih =>
    simp only [List.cons_append, TS.steps]
    cases s.add e with
    | none => rfl
    | some t => simpa using ih t
theorem TS.steps_snoc (s : TS) (l : List Ev) (e : Ev) : s.steps (l ++ [e]) = (s.steps l).bind fun t => t.add e := by
  rw [TS.steps_append]
  congr 1
  funext t
  simp [TS.steps]
theorem TS.steps_take_succ {s : TS} {l : List Ev} {k : Nat} (h : k < l.length) : s.steps (l.take (k + 1)) = (s.steps (l.take k)).bind fun t => t.add l[k] := by
  rw [List.take_succ_eq_append_getElem h, TS.steps_snoc]
theorem TS.chk_le (s : TS) (l : List Ev) : s.chk l ≤ l.length := by
  induction l generalizing s with
  | nil => simp [TS.chk]
  | cons e l ih =>
    simp only [TS.chk]
    split
    · rename_i t _; have := ih t; simp; omega
    · simp
theorem TS.steps_wf {s t : TS} (h : s.wf) {l : List Ev} (hs : s.steps l = some t) : t.wf := by
  induction l generalizing s with
  | nil => simp [TS.steps] at hs; subst hs; exact h
  | cons e l ih =>
    simp only [TS.steps, Option.bind_eq_some_iff] at hs
    obtain ⟨u, hu, hs⟩ := hs
    exact ih (TS.add_wf h hu) hs
/-- what the loop finds is that number -/
theorem TS.chk_of {s : TS} {l : List Ev} {k : Nat} (hk : k ≤ l.length) {t : TS} (hs : s.steps (l.take k) = some t) (hn : ∀ e, l[k]? = some e → t.add e = none) : s.chk l = k := by
  induction l generalizing s k with
  | nil => simp at hk; subst hk; rfl
  | cons e l ih =>
    cases k with
    | zero =>
      simp [TS.steps] at hs
      subst hs
      have := hn e rfl
      simp [TS.chk, this]
    | succ k =>
      simp only [List.take_succ_cons, TS.steps, Option.bind_eq_some_iff] at hs
      obtain ⟨u, hu, hs⟩ := hs
      simp only [TS.chk, hu]
      rw [ih (by simpa using hk) hs (fun e' he' => hn e' (by simpa using he'))]
/-- up to that number all are possible -/
theorem TS.chk_steps (s : TS) (l : List Ev) {k : Nat} (hk : k ≤ s.chk l) : ∃ t, s.steps (l.take k) = some t := by
  induction l generalizing s k with
  | nil => simp [TS.chk] at hk; subst hk; exact ⟨s, rfl⟩
  | cons e l ih =>
    cases k with
    | zero => exact ⟨s, rfl⟩
    | succ k =>
      simp only [TS.chk] at hk
      cases ha : s.add e with
      | none => rw [ha] at hk; simp at hk
      | some u =>
        rw [ha] at hk
        obtain ⟨t, ht⟩ := ih u (k := k) (by simpa using hk)
        exact ⟨t, by simp [TS.steps, ha, ht]⟩
theorem TS.chk_stop (s : TS) (l : List Ev) {t : TS} (hs : s.steps (l.take (s.chk l)) = some t) : ∀ e, l[s.chk l]? = some e → t.add e = none := by
  induction l generalizing s with
  | nil => intro e he; simp at he
  | cons a l ih =>
    intro e he
    cases ha : s.add a with
    | none =>
      simp only [TS.chk, ha] at he hs
      simp [TS.steps] at hs he
      subst hs; subst he; exact ha
    | some u =>
      simp only [TS.chk, ha] at he hs
      simp only [List.take_succ_cons, TS.steps, ha, Option.bind_some] at hs
      exact ih u hs e (by simpa using he)
theorem TS.chk_take (s : TS) (l : List Ev) (k : Nat) : s.chk (l.take k) = min (s.chk l) k := by
  induction l generalizing s k with
  | nil => simp [TS.chk]
  | cons e l ih =>
    cases k with
    | zero => simp [TS.chk]
    | succ k =>
      simp only [List.take_succ_cons, TS.chk]
      cases s.add e with
      | none => simp
      | some t => simp only [ih]; omega

/-- the last place up to k behind which no group is open -/
def TS.wholeTo (s : TS) (l : List Ev) : Nat → Nat
  | 0 => 0
  | k + 1 => match s.steps (l.take (k + 1)) with
    | some t => if t.isOpen = true then s.wholeTo l k else k + 1
    | none => s.wholeTo l k
theorem TS.wholeTo_le (s : TS) (l : List Ev) (k : Nat) : s.wholeTo l k ≤ k := by
  induction k with
  | zero => simp [TS.wholeTo]
  | succ k ih =>
    simp only [TS.wholeTo]
    split
    · split
      · omega
      · omega
    · omega
def chk (l : List Ev) : Nat := TS.new.chk l
def wholeOf (l : List Ev) : Nat := TS.new.wholeTo l (chk l)
end Go.Proofs.Ytkdagjlkejefnaa
