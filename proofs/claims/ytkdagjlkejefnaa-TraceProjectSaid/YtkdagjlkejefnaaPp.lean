/- Equality of flat structs and arrays. -/
import Derived.Test.YtkdagjlkejefnaaPo
set_option linter.unusedSimpArgs false
set_option linter.unusedVariables false
namespace Go.Proofs.Ytkdagjlkejefnaa
open Go Go.RowKit

section
variable {P : Program}
/-- a basic type: some kb, kb whether it is bool -/
def basicT (P : Program) (t : Nat) : Option Bool := match P.underlying t with
  | some (.int _) => some false
  | some .bool => some true
  | _ => none

theorem eq_basic {t : Nat} {kb : Bool} (hb : basicT P t = some kb) {x y : Cl} {u v : Value} {r : Bool} {W : Wit} {G : Nat → Nat} {O : Nat → Ob} {w : World} (hx : RC W G O w x u) (hy : RC W G O w y v) (h : eqCl kb x y = some r) (d : Nat) :
    (Op.equalIn (d + 1) t u v).run P w = .ok r w := by
  unfold basicT at hb
  unfold eqCl at h
  split at h
  · rename_i k a k' b
    split at h
    · rename_i hk
      cases h
      obtain ⟨rfl, _⟩ := RD.sc_inv hx
      obtain ⟨rfl, _⟩ := RD.sc_inv hy
      rw [Op.equalIn.eq_2]
      split at hb
      · rename_i k2 hu; simp [run_underlying hu, hk.2]
      · cases hb; exact absurd hk.1 (by decide)
      · cases hb
    · cases h
  · rename_i a b
    split at h
    · rename_i hk
      cases h
      obtain ⟨rfl, _⟩ := RD.sc_inv hx
      obtain ⟨rfl, _⟩ := RD.sc_inv hy
      rw [Op.equalIn.eq_2]
      split at hb
      · cases hb; exact absurd hk (by decide)
      · rename_i hu; simp [run_underlying hu]
      · cases hb
    · cases h
  · cases h

theorem basic_part {t : Nat} {kb : Bool} (hb : basicT P t = some kb) {xs : Array Value} {i : Nat} {u : Value} (hi : xs[i]? = some u) (w : World) : (part t xs i).run P w = .ok u w := by
  obtain ⟨d, hd, ha⟩ : ∃ d, P.underlying t = some d ∧ aggT d = false := by
    unfold basicT at hb
    split at hb
    · rename_i k hu; exact ⟨_, hu, rfl⟩
    · rename_i hu; exact ⟨_, hu, rfl⟩
    · cases hb
  have := run_isAgg hd w
  simp [part, this, ha, hi]

theorem eqCls_cons {ks : List Bool} {cs ds : List Cl} {r : Bool} {i : Nat} (h : eqCls (ks.drop i) (cs.drop i) (ds.drop i) = some r) {k : Bool} (hk : ks[i]? = some k) :
    ∃ x y a b, cs[i]? = some x ∧ ds[i]? = some y ∧ eqCl k x y = some a ∧ eqCls (ks.drop (i + 1)) (cs.drop (i + 1)) (ds.drop (i + 1)) = some b ∧ r = (a && b) := by
  have hlt := (List.getElem?_eq_some_iff.1 hk).1
  rw [List.drop_eq_getElem_cons hlt] at h
  rcases Nat.lt_or_ge i cs.length with h1 | h1
  · rcases Nat.lt_or_ge i ds.length with h2 | h2
    · rw [List.drop_eq_getElem_cons h1, List.drop_eq_getElem_cons h2] at h
      simp only [eqCls] at h
      split at h
      · rename_i a b ha hb
        cases h
        rw [List.getElem?_eq_getElem hlt] at hk
        cases hk
        exact ⟨_, _, a, b, List.getElem?_eq_getElem h1, List.getElem?_eq_getElem h2, ha, hb, rfl⟩
      · cases h
    · rw [List.drop_eq_nil_of_le h2, List.drop_eq_getElem_cons h1] at h
      simp [eqCls] at h
  · rw [List.drop_eq_nil_of_le h1] at h
    simp [eqCls] at h

/-- a struct whose fields are ints and bools -/
def flatS (P : Program) (fs : Array Field) (ks : List Bool) : Bool := fs.size == ks.length && fs.toList.zipIdx.all fun p => p.1.name != "_" && p.1.offset == p.2 && basicT P p.1.type == ks[p.2]?

theorem eqT_struct {t : Nat} {fs : Array Field} {ks : List Bool} (hu : P.underlying t = some (.struct fs)) (hst : P.stoodInHeld t = false) (hg : P.eqGuardType P.depth t = false) (hfl : flatS P fs ks = true) : EqT P t ks := by
  refine ⟨hg, fun xs ys cs ds r W G O w h3 h4 h5 => ?_⟩
  show (Op.equalIn (9999 + 1) t (.agg xs) (.agg ys)).run P w = _
  rw [Op.equalIn.eq_2]
  simp only [Sem.run_bind, run_underlying hu, Result.andThen_ok, run_program, hst]
  rw [if_neg (by decide)]
  unfold flatS at hfl
  rw [Bool.and_eq_true] at hfl
  obtain ⟨hsz, hall⟩ := hfl
  have hsz' : fs.size = ks.length := by simpa using hsz
  have key : ∀ (l : List Field) (i : Nat) (r : Bool), l = fs.toList.drop i → eqCls (ks.drop i) (cs.drop i) (ds.drop i) = some r →
      (forIn l ((none : Option Bool), ()) fun f __s =>
        (if f.name ≠ "_" then do
          let __do_lift ← part f.type xs f.offset
          let __do_lift_1 ← part f.type ys f.offset
          let __do_lift ← Op.equalIn 9999 f.type __do_lift __do_lift_1
          if (!__do_lift) = true then pure (ForInStep.done (some false, ()))
          else pure (ForInStep.yield (none, ()))
        else pure (ForInStep.yield (none, ())) : Sem (ForInStep (Option Bool × Unit)))).run P w = .ok (if r then none else some false, ()) w := by
    intro l
    induction l with
    | nil =>
      intro i r hl h
      have hge : ks.length ≤ i := by
        have := congrArg List.length hl
        simp at this; omega
      rw [List.drop_eq_nil_of_le hge] at h
      generalize cs.drop i = a at h
      generalize ds.drop i = b at h
      cases a <;> cases b <;> simp [eqCls] at h
      subst h
      simp
    | cons f l ih =>
      intro i r hl h
      have hfi : fs[i]? = some f := by
        have := congrArg (·[0]?) hl
        simpa using this.symm
      have hilt := (Array.getElem?_eq_some_iff.1 hfi).1
      have hp := List.all_eq_true.1 hall (f, i) (by
        rw [List.mk_mem_zipIdx_iff_getElem?]
        simpa using hfi)
      simp only [Bool.and_eq_true, bne_iff_ne, beq_iff_eq] at hp
      obtain ⟨⟨hn, ho⟩, hb⟩ := hp
      have hk : ks[i]? = some ks[i] := List.getElem?_eq_getElem (by omega)
      rw [hk] at hb
      obtain ⟨x, y, a, b, e1, e2, e3, e4, rfl⟩ := eqCls_cons h hk
      have hx1 : i < xs.size := by have := h3.1; have := (List.getElem?_eq_some_iff.1 e1).1; simp at *; omega
      have hy1 : i < ys.size := by have := h4.1; have := (List.getElem?_eq_some_iff.1 e2).1; simp at *; omega
      have hx : xs[i]? = some xs[i] := Array.getElem?_eq_getElem hx1
      have hy : ys[i]? = some ys[i] := Array.getElem?_eq_getElem hy1
      have heq : (Op.equalIn 9999 f.type xs[i] ys[i]).run P w = .ok a w := eq_basic hb (h3.2 i x xs[i] e1 (by rw [Array.getElem?_toList]; exact hx)) (h4.2 i y ys[i] e2 (by rw [Array.getElem?_toList]; exact hy)) e3 9998
      rw [List.forIn_cons, if_pos hn, ho]
      simp only [Sem.run_bind, basic_part hb hx, basic_part hb hy, Result.andThen_ok, heq]
      cases a with
      | true =>
        simp only [Bool.not_true, Bool.false_eq_true, if_false, Sem.run_pure, Result.andThen_ok, Bool.true_and]
        exact ih (i + 1) b (by
          have := congrArg List.tail hl
          simpa using this) e4
      | false => simp
  have hk := key fs.toList 0 r rfl (by simpa using h5)
  rw [← Array.forIn_toList, Sem.run_bind, hk]
  cases r <;> rfl

theorem eqT_array {t e m : Nat} {ei : TypeInfo} (hu : P.underlying t = some (.array m e)) (hi : P.info? e = some ei) (hsz1 : ei.size = 1) (hg : P.eqGuardType P.depth t = false) (hb : basicT P e = some false) : EqT P t (List.replicate m false) := by
  refine ⟨hg, fun xs ys cs ds r W G O w h3 h4 h5 => ?_⟩
  show (Op.equalIn (9999 + 1) t (.agg xs) (.agg ys)).run P w = _
  rw [Op.equalIn.eq_2]
  simp only [Sem.run_bind, run_underlying hu, Result.andThen_ok, sizeOf, typeInfo, run_program, hi, Sem.run_pure, hsz1, Nat.mul_one, Std.Legacy.Range.forIn_eq_forIn_range', Std.Legacy.Range.size, Nat.sub_zero, Nat.add_one_sub_one, Nat.div_one]
  have key : ∀ (k i : Nat) (r : Bool), i + k = m → eqCls ((List.replicate m false).drop i) (cs.drop i) (ds.drop i) = some r →
      (forIn (List.range' i k) ((none : Option Bool), ()) fun i __s =>
        (do
          let __do_lift ← part e xs i
          let __do_lift_1 ← part e ys i
          let __do_lift ← Op.equalIn 9999 e __do_lift __do_lift_1
          if (!__do_lift) = true then pure (ForInStep.done (some false, ()))
          else pure (ForInStep.yield (none, ())) : Sem (ForInStep (Option Bool × Unit)))).run P w = .ok (if r then none else some false, ()) w := by
    intro k
    induction k with
    | zero =>
      intro i r hl h
      rw [List.drop_eq_nil_of_le (by simp; omega)] at h
      generalize cs.drop i = a at h
      generalize ds.drop i = b at h
      cases a <;> cases b <;> simp [eqCls] at h
      subst h
      simp
    | succ k ih =>
      intro i r hl h
      have hk : (List.replicate m false)[i]? = some false := by
        rw [List.getElem?_replicate, if_pos (by omega)]
      obtain ⟨x, y, a, b, e1, e2, e3, e4, rfl⟩ := eqCls_cons h hk
      have hx1 : i < xs.size := by have := h3.1; have := (List.getElem?_eq_some_iff.1 e1).1; simp at *; omega
      have hy1 : i < ys.size := by have := h4.1; have := (List.getElem?_eq_some_iff.1 e2).1; simp at *; omega
      have hx : xs[i]? = some xs[i] := Array.getElem?_eq_getElem hx1
      have hy : ys[i]? = some ys[i] := Array.getElem?_eq_getElem hy1
      have heq : (Op.equalIn 9999 e xs[i] ys[i]).run P w = .ok a w := eq_basic hb (h3.2 i x xs[i] e1 (by rw [Array.getElem?_toList]; exact hx)) (h4.2 i y ys[i] e2 (by rw [Array.getElem?_toList]; exact hy)) e3 9998
      rw [List.range'_succ, List.forIn_cons]
      simp only [Sem.run_bind, basic_part hb hx, basic_part hb hy, Result.andThen_ok, heq]
      cases a with
      | true =>
        simp only [Bool.not_true, Bool.false_eq_true, if_false, Sem.run_pure, Result.andThen_ok, Bool.true_and]
        exact ih (i + 1) b (by omega) e4
      | false => simp
  have hk := key m 0 r (by omega) (by simpa using h5)
  rw [hk]
  cases r <;> rfl
end
end Go.Proofs.Ytkdagjlkejefnaa
