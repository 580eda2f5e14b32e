/- What simple comes to, way by way, the tests in the walk's own form. -/
import Derived.Test.YtkdagjlkejefnaaModel
namespace Go.Proofs.Ytkdagjlkejefnaa
section
variable {s : TS} {g kind obj off k en fn pc stack readers : Int} {locked : Bool}
  (hm : s.mu ⟨g, kind, obj, off, k, en, fn, pc, stack⟩ = ⟨locked, readers⟩)
include hm
theorem TS.si_eq : s.simple ⟨g, kind, obj, off, k, en, fn, pc, stack⟩ =
    if kind = 6 then (if locked = true ∨ 0 < readers then none else some { s with mus := upd s.mus (obj, off) ⟨true, readers⟩ })
    else if kind = 7 then (if locked = false then none else some { s with mus := upd s.mus (obj, off) ⟨false, readers⟩ })
    else if kind = 8 then (if locked = true then none else some { s with mus := upd s.mus (obj, off) ⟨locked, readers + 1⟩ })
    else if kind = 9 then (if readers = 0 then none else some { s with mus := upd s.mus (obj, off) ⟨locked, readers - 1⟩ })
    else if kind = 12 then (if (s.done (obj, off)).getD false = true then none else some { s with done := upd s.done (obj, off) true })
    else if kind = 13 then (if (s.done (obj, off)).getD false = true then some s else none)
    else if kind = 14 then (if k ≠ s.gor then none else some { s with gor := s.gor + 1 })
    else some s := by
  unfold TS.simple; rw [hm]
theorem TS.si_6a (h1 : (kind == 6) = true) (h2 : locked = true) : s.simple ⟨g, kind, obj, off, k, en, fn, pc, stack⟩ = none := by rw [TS.si_eq hm]; simp_all
theorem TS.si_6b (h1 : (kind == 6) = true) (h2 : 0 < readers) : s.simple ⟨g, kind, obj, off, k, en, fn, pc, stack⟩ = none := by rw [TS.si_eq hm]; simp_all
theorem TS.si_6c (h1 : (kind == 6) = true) (h2 : ¬locked = true) (h3 : readers ≤ 0) : s.simple ⟨g, kind, obj, off, k, en, fn, pc, stack⟩ = some { s with mus := upd s.mus (obj, off) ⟨true, readers⟩ } := by
  rw [TS.si_eq hm, if_pos (by simpa using h1), if_neg (by rw [not_or]; exact ⟨h2, by omega⟩)]
theorem TS.si_7a (h1 : (kind == 7) = true) (h2 : (!locked) = true) : s.simple ⟨g, kind, obj, off, k, en, fn, pc, stack⟩ = none := by rw [TS.si_eq hm]; simp_all
theorem TS.si_7b (h1 : (kind == 7) = true) (h2 : (!locked) = false) : s.simple ⟨g, kind, obj, off, k, en, fn, pc, stack⟩ = some { s with mus := upd s.mus (obj, off) ⟨false, readers⟩ } := by rw [TS.si_eq hm]; simp_all
theorem TS.si_8a (h1 : (kind == 8) = true) (h2 : locked = true) : s.simple ⟨g, kind, obj, off, k, en, fn, pc, stack⟩ = none := by rw [TS.si_eq hm]; simp_all
theorem TS.si_8b (h1 : (kind == 8) = true) (h2 : locked = false) : s.simple ⟨g, kind, obj, off, k, en, fn, pc, stack⟩ = some { s with mus := upd s.mus (obj, off) ⟨locked, readers + 1⟩ } := by rw [TS.si_eq hm]; simp_all
theorem TS.si_9a (h1 : (kind == 9) = true) (h2 : (readers == 0) = true) : s.simple ⟨g, kind, obj, off, k, en, fn, pc, stack⟩ = none := by rw [TS.si_eq hm]; simp_all
theorem TS.si_9b (h1 : (kind == 9) = true) (h2 : (readers == 0) = false) : s.simple ⟨g, kind, obj, off, k, en, fn, pc, stack⟩ = some { s with mus := upd s.mus (obj, off) ⟨locked, readers - 1⟩ } := by rw [TS.si_eq hm]; simp_all
theorem TS.si_12 (h1 : (kind == 12) = true) : s.simple ⟨g, kind, obj, off, k, en, fn, pc, stack⟩ = if (s.done (obj, off)).getD false = true then none else some { s with done := upd s.done (obj, off) true } := by
  have hk : kind = 12 := by simpa using h1
  subst hk; rw [TS.si_eq hm]; simp
theorem TS.si_13 (h1 : (kind == 13) = true) : s.simple ⟨g, kind, obj, off, k, en, fn, pc, stack⟩ = if (s.done (obj, off)).getD false = true then some s else none := by
  have hk : kind = 13 := by simpa using h1
  subst hk; rw [TS.si_eq hm]; simp
theorem TS.si_14a (h1 : (kind == 14) = true) (h2 : (k != s.gor) = true) : s.simple ⟨g, kind, obj, off, k, en, fn, pc, stack⟩ = none := by rw [TS.si_eq hm]; simp_all
theorem TS.si_14b (h1 : (kind == 14) = true) (h2 : (k != s.gor) = false) : s.simple ⟨g, kind, obj, off, k, en, fn, pc, stack⟩ = some { s with gor := s.gor + 1 } := by rw [TS.si_eq hm]; simp_all
theorem TS.si_no (h6 : (kind == 6) = false) (h7 : (kind == 7) = false) (h8 : (kind == 8) = false) (h9 : (kind == 9) = false) (h12 : (kind == 12) = false) (h13 : (kind == 13) = false) (h14 : (kind == 14) = false) :
    s.simple ⟨g, kind, obj, off, k, en, fn, pc, stack⟩ = some s := by rw [TS.si_eq hm]; simp_all
end
end Go.Proofs.Ytkdagjlkejefnaa
