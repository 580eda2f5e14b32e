/- Arithmetic, comparisons, conversions, slices: each does what its plain reading says. -/
import Derived.Test.YtkdagjlkejefnaaPc
set_option linter.unusedSimpArgs false
set_option linter.unusedVariables false
namespace Go.Proofs.Ytkdagjlkejefnaa
open Go Go.RowKit

section
variable {n : Nat} {P : Program} {o : Oper}

theorem guard_no {op : BinOp} {t : TypeId} {x y : Operand} {a b : Value} (h1 : ∀ arr, a ≠ .agg arr) (h2 : a ≠ .nilIface) (w : World) : (eqGuard op t x y a b).run P w = .ok () w := by
  unfold eqGuard
  cases op <;> (try rfl) <;> (cases a <;> first | (exact absurd rfl (h1 _)) | (exact absurd rfl h2) | rfl)

theorem good_bin (hd : ∀ d, o.dst = some d → d < n) {op : BinOp} {t u : TypeId} {xo yo : Operand} {x y : PX} (hop : o.op = .binOp op t xo yo u) (hx : cX xo = some x) (hy : cX yo = some y) : Good P n o (.bin op x y) :=
  .of_pure hd fun w0 S0 W s a w v ch hs hf => by
    simp only [PO.fn] at hf
    split at hf
    · rename_i va vb ha hb
      simp only [Option.map_eq_some_iff, Prod.mk.injEq] at hf
      obtain ⟨r, hr, rfl, rfl⟩ := hf
      obtain ⟨ea, _⟩ := val_ev hs hx ha
      obtain ⟨eb, _⟩ := val_ev hs hy hb
      have hg : (eqGuard op t xo yo va vb).run P w = .ok () w := by
        refine guard_no (fun arr he => ?_) (fun he => ?_) w
        · subst he; cases vb <;> simp [scBin] at hr
        · subst he; cases vb <;> simp [scBin] at hr
      have hone : r.oneCell' = true ∧ (binOp op t va vb).run P w = .ok r w := by
        unfold scBin at hr
        split at hr
        · rename_i k i k' j
          cases op <;> simp only at hr <;> (try (cases hr; done)) <;> (try split at hr) <;> (try (cases hr; done))
          all_goals first
            | (rename_i h; cases hr; first | subst h | (have h0 := h.2; have h1 := h.1; subst h1) | skip)
            | skip
          all_goals refine ⟨rfl, ?_⟩
          all_goals first
            | (simp only [binOp, Op.shift, if_neg h]; rfl)
            | simp_all [binOp, Op.intArith, Op.intDiv, Op.intBits, Op.intCmp, Op.shift]
        · rename_i p q
          cases op <;> simp only at hr <;> (try (cases hr; done)) <;> (try split at hr) <;> (try (cases hr; done))
          all_goals cases hr
          all_goals refine ⟨rfl, ?_⟩
          all_goals simp_all [binOp, Op.stringOp, IntKind.max, IntKind.signed, IntKind.bits]
          all_goals (try omega)
        · cases hr
      refine ⟨rfl, r, ?_, RD.sc _ hone.1⟩
      simp [execOp, hop, ea, eb, hg, hone.2]
    · cases hf

theorem run_eq_bool {t : TypeId} (hu : P.underlying t = some .bool) (va vb : Bool) (w : World) : (Op.equal t (.bool va) (.bool vb)).run P w = .ok (va == vb) w := by
  show (Op.equalIn (9999 + 1) t (.bool va) (.bool vb)).run P w = _
  rw [Op.equalIn.eq_2]
  simp [run_underlying hu]

theorem good_eqb (hd : ∀ d, o.dst = some d → d < n) {neg : Bool} {t u : TypeId} {xo yo : Operand} {x y : PX} (hop : o.op = .binOp (if neg then .neq else .eql) t xo yo u) (hu : P.underlying t = some .bool) (hx : cX xo = some x) (hy : cX yo = some y) : Good P n o (.eqb neg x y) :=
  .of_pure hd fun w0 S0 W s a w v ch hs hf => by
    simp only [PO.fn] at hf
    split at hf
    · rename_i va vb ha hb
      cases hf
      have ea := boo_ev hs hx ha
      have eb := boo_ev hs hy hb
      have hg : ∀ op, (eqGuard op t xo yo (.bool va) (.bool vb)).run P w = .ok () w := fun op => guard_no (fun _ h => by cases h) (by simp) w
      refine ⟨rfl, .bool (if neg then !(va == vb) else va == vb), ?_, RD.sc _ rfl⟩
      have he : (Op.equal t (.bool va) (.bool vb)).run P w = .ok (va == vb) w := run_eq_bool hu va vb w
      cases neg <;> simp [execOp, hop, ea, eb, hg, binOp, he]
    · cases hf

/-- equality at the type t of cells of the kinds ks: cell by cell -/
def EqT (P : Program) (t : Nat) (ks : List Bool) : Prop := P.eqGuardType P.depth t = false ∧
  ∀ (xs ys : Array Value) (cs ds : List Cl) (r : Bool) (W : Wit) (G : Nat → Nat) (O : Nat → Ob) (w : World), RCs W G O w cs xs.toList → RCs W G O w ds ys.toList → eqCls ks cs ds = some r →
    (Op.equal t (.agg xs) (.agg ys)).run P w = .ok r w

theorem good_eqs (hd : ∀ d, o.dst = some d → d < n) {neg : Bool} {t u : Nat} {ks : List Bool} {xo yo : Operand} {x y : PX} (hop : o.op = .binOp (if neg then .neq else .eql) t xo yo u) (ht : EqT P t ks) (hx : cX xo = some x) (hy : cX yo = some y) : Good P n o (.eqs neg ks x y) :=
  .of_pure hd fun w0 S0 W s a w v ch hs hf => by
    simp only [PO.fn] at hf
    split at hf
    · rename_i ca cb ha hb
      simp only [Option.map_eq_some_iff, Prod.mk.injEq] at hf
      obtain ⟨r, hr, rfl, rfl⟩ := hf
      have e1 := evX hs hx
      have e2 := evX hs hy
      rw [ha] at e1
      rw [hb] at e2
      obtain ⟨xs, h1, h2⟩ := e1
      obtain ⟨ys, h3, h4⟩ := e2
      have he := ht.2 xs ys _ _ r W _ _ w h2 h4 hr
      have hg : ∀ op, (eqGuard op t xo yo (.agg xs) (.agg ys)).run P w = .ok () w := fun op => by
        unfold eqGuard
        cases op <;> (try rfl) <;> simp [ht.1]
      refine ⟨rfl, .bool (if neg then !r else r), ?_, RD.sc _ rfl⟩
      cases neg <;> simp [execOp, hop, h1, h3, hg, binOp, he]
    · cases hf

theorem good_un (hd : ∀ d, o.dst = some d → d < n) {op : UnOp} {t : TypeId} {xo : Operand} {x : PX} (hop : o.op = .unOp op t xo) (hx : cX xo = some x) : Good P n o (.un op x) :=
  .of_pure hd fun w0 S0 W s a w v ch hs hf => by
    simp only [PO.fn] at hf
    split at hf
    · rename_i b hv
      cases hf
      obtain ⟨e, _⟩ := val_ev hs hx hv
      exact ⟨rfl, .bool !b, by simp [execOp, hop, e, Op.unary], RD.sc _ rfl⟩
    · rename_i k m hv
      cases hf
      obtain ⟨e, _⟩ := val_ev hs hx hv
      exact ⟨rfl, .int k (k.wrap (0 - m)), by simp [execOp, hop, e, Op.unary, Op.intArith], RD.sc _ rfl⟩
    · rename_i k m hv
      cases hf
      obtain ⟨e, _⟩ := val_ev hs hx hv
      exact ⟨rfl, _, by simp [execOp, hop, e, Op.unary, Op.intBits], RD.sc _ rfl⟩
    · cases hf

theorem good_conv (hd : ∀ d, o.dst = some d → d < n) {t u : TypeId} {k : IntKind} {ds : TypeDesc} {xo : Operand} {x : PX} (hop : o.op = .convert t u xo) (ht : P.underlying t = some ds) (hu : P.underlying u = some (.int k)) (hx : cX xo = some x) : Good P n o (.conv k x) :=
  .of_pure hd fun w0 S0 W s a w v ch hs hf => by
    simp only [PO.fn, Option.map_eq_some_iff, Prod.mk.injEq] at hf
    obtain ⟨m, hm, rfl, rfl⟩ := hf
    obtain ⟨kk, e⟩ := int_ev hs hx hm
    refine ⟨rfl, .int k (k.wrap m), ?_, RD.sc _ rfl⟩
    simp [execOp, hop, e, convert, run_underlying ht, run_underlying hu, Conv.intToInt]


theorem run_builtin {o : Oper} {b : Builtin} {c : Call} {a : Act} {w : World} (hop : o.op = .call c) (hc : c.callee = .builtin b) (f : Array TypeId → TypeId → Array Value → Sem Value)
    (hb : ∀ at_ ty cs args, builtin b at_ ty cs args = (do pure (.value (← f at_ ty args)))) {v : Value} {w' : World} (h : (f c.argTypes o.type (c.args.map a.eval)).run P w = .ok v w') : (execOp a.eval o).run P w = .ok (.value v) w' := by
  simp only [execOp, hop, resolve, hc, Sem.run_bind, Sem.run_pure, Result.andThen_ok, invoke, hb, h]


theorem good_len (hd : ∀ d, o.dst = some d → d < n) {t e : TypeId} {xo : Operand} {x : PX} {c : Call} (hop : o.op = .call c) (hc : c.callee = .builtin .len) (ha : c.args = #[xo]) (hat : c.argTypes = #[t]) (ht : P.underlying t = some (.slice e)) (hx : cX xo = some x) : Good P n o (.len x) :=
  .of_pure hd fun w0 S0 W s a w v ch hs hf => by
    simp only [PO.fn, Option.map_eq_some_iff, Prod.mk.injEq] at hf
    obtain ⟨rows, hr, rfl, rfl⟩ := hf
    obtain ⟨A, cap, e, _⟩ := (rows_ev hs hx hr).len
    refine ⟨rfl, .int .i64 rows.length, run_builtin hop hc Builtin.len_ (fun _ _ _ _ => rfl) ?_, RD.sc _ rfl⟩
    rw [ha, hat]
    simp [Builtin.len_, run_underlying ht, goInt, e]
theorem good_strlen (hd : ∀ d, o.dst = some d → d < n) {t : TypeId} {xo : Operand} {x : PX} {c : Call} (hop : o.op = .call c) (hc : c.callee = .builtin .len) (ha : c.args = #[xo]) (hat : c.argTypes = #[t]) (ht : P.underlying t = some .string) (hx : cX xo = some x) : Good P n o (.strlen x) :=
  .of_pure hd fun w0 S0 W s a w v ch hs hf => by
    simp only [PO.fn] at hf
    split at hf
    · rename_i b hb
      cases hf
      obtain ⟨e, _⟩ := val_ev hs hx hb
      refine ⟨rfl, .int .i64 b.size, run_builtin hop hc Builtin.len_ (fun _ _ _ _ => rfl) ?_, RD.sc _ rfl⟩
      rw [ha, hat]
      simp [Builtin.len_, run_underlying ht, goInt, e]
    · cases hf
theorem good_alen (hd : ∀ d, o.dst = some d → d < n) {t e m : TypeId} {xo : Operand} {c : Call} (hop : o.op = .call c) (hc : c.callee = .builtin .len) (ha : c.args = #[xo]) (hat : c.argTypes = #[t]) (ht : P.underlying t = some (.array m e)) : Good P n o (.alen m) :=
  .of_pure hd fun w0 S0 W s a w v ch hs hf => by
    simp only [PO.fn, Option.some.injEq, Prod.mk.injEq] at hf
    obtain ⟨rfl, rfl⟩ := hf
    refine ⟨rfl, .int .i64 m, run_builtin hop hc Builtin.len_ (fun _ _ _ _ => rfl) ?_, RD.sc _ rfl⟩
    rw [ha, hat]
    simp [Builtin.len_, run_underlying ht, goInt]

def mmF (big : Bool) (acc y : Option Value) : Option Value := match acc, y with
  | some a, some b => scMM big a b
  | _, _ => none
theorem mmF_none (big : Bool) (z : Option Value) : mmF big z none = none := by cases z <;> rfl

theorem good_mm (hd : ∀ d, o.dst = some d → d < n) {big : Bool} {xo : List Operand} {xs : List PX} {c : Call} (hop : o.op = .call c) (hc : c.callee = .builtin (if big then .max else .min)) (ha : c.args.toList = xo) (hx : allSome (xo.map cX) = some xs) : Good P n o (.mm big xs) :=
  .of_pure hd fun w0 S0 W s a w v ch hs hf => by
    -- the arguments, one by one
    have args : ∀ (xo : List Operand) (xs : List PX) (vs : List (Option Value)), allSome (xo.map cX) = some xs → xs.map s.val = vs → (∀ y ∈ vs, y ≠ none) → (xo.map a.eval).map some = vs := by
      intro xo
      induction xo with
      | nil => intro xs vs h1 h2 _; simp [allSome] at h1; subst h1; simpa using h2
      | cons y ys ih =>
        intro xs vs h1 h2 h3
        simp only [List.map_cons] at h1
        cases hy : cX y with
        | none => rw [hy] at h1; simp [allSome] at h1
        | some y' =>
          rw [hy] at h1
          simp only [allSome, Option.map_eq_some_iff] at h1
          obtain ⟨zs, hz, rfl⟩ := h1
          simp only [List.map_cons] at h2
          subst h2
          cases hv : s.val y' with
          | none => exact absurd (by simp [hv]) (h3 none (by simp [hv]))
          | some u =>
            obtain ⟨e, _⟩ := val_ev hs hy hv
            have := ih zs _ hz rfl (fun y hy => h3 y (by simp only [List.mem_cons]; exact .inr hy))
            simp only [List.map_cons, e, hv, this]
    have none_fold : ∀ l : List (Option Value), l.foldl (mmF big) none = none := by
      intro l
      induction l with
      | nil => rfl
      | cons y l ih => simp only [List.foldl_cons]; exact ih
    have fold : ∀ (l : List Value) (u r : Value), (l.map some).foldl (mmF big) (some u) = some r →
        (l.foldlM (if big then Builtin.max2 else Builtin.min2) u).run P w = .ok r w ∧ (l = [] → r = u) ∧ (l ≠ [] → r.oneCell' = true) := by
      intro l
      induction l with
      | nil => intro u r h; simp at h; subst h; exact ⟨by simp, fun _ => rfl, fun h => absurd rfl h⟩
      | cons y l ih =>
        intro u r h
        simp only [List.map_cons, List.foldl_cons] at h
        replace h : (l.map some).foldl (mmF big) (scMM big u y) = some r := h
        cases hm : scMM big u y with
        | none => rw [hm, none_fold] at h; cases h
        | some z =>
          rw [hm] at h
          obtain ⟨h1, h2, h3⟩ := ih z r h
          have hz : z.oneCell' = true ∧ ((if big then Builtin.max2 else Builtin.min2) u y).run P w = .ok z w := by
            unfold scMM at hm
            split at hm
            · split at hm
              · cases hm
                refine ⟨rfl, ?_⟩
                cases big <;> simp [Builtin.max2, Builtin.min2]
              · cases hm
            · cases hm
          refine ⟨by simp only [List.foldlM_cons, Sem.run_bind, hz.2, Result.andThen_ok]; exact h1, (fun h => by cases h), fun _ => ?_⟩
          cases l with
          | nil => rw [h2 rfl]; exact hz.1
          | cons _ _ => exact h3 (by simp)
    simp only [PO.fn] at hf
    split at hf
    · rename_i u rest heq
      simp only [Option.map_eq_some_iff, Prod.mk.injEq] at hf
      obtain ⟨r, hr, rfl, rfl⟩ := hf
      replace hr : rest.foldl (mmF big) u = some r := hr
      have hnone : ∀ y ∈ rest, y ≠ none := by
        intro y hy hn
        subst hn
        have : ∀ (l : List (Option Value)) (z : Option Value), none ∈ l → l.foldl (mmF big) z = none := by
          intro l
          induction l with
          | nil => intro z h; cases h
          | cons q l ih =>
            intro z h
            rcases List.mem_cons.1 h with h | h
            · subst h
              simp only [List.foldl_cons]
              rw [mmF_none]; exact none_fold l
            · exact ih _ h
        rw [this rest _ hy] at hr
        cases hr
      have hal := args xo xs _ hx heq (by
        intro y hy
        rcases List.mem_cons.1 hy with h | h
        · rw [h]; simp
        · exact hnone y h)
      cases hxo : xo.map a.eval with
      | nil => rw [hxo] at hal; simp at hal
      | cons u' l =>
        rw [hxo] at hal
        simp only [List.map_cons, List.cons.injEq, Option.some.injEq] at hal
        obtain ⟨rfl, rfl⟩ := hal
        obtain ⟨h1, h2, h3⟩ := fold l u' r hr
        have hone : r.oneCell' = true := by
          cases l with
          | nil =>
            rw [h2 rfl]
            cases xs with
            | nil => simp at heq
            | cons x0 xr =>
              simp only [List.map_cons, List.cons.injEq] at heq
              cases xo with
              | nil => simp at hxo
              | cons y0 yr =>
                simp only [List.map_cons] at hx
                cases hy : cX y0 with
                | none => rw [hy] at hx; simp [allSome] at hx
                | some y' =>
                  rw [hy] at hx
                  simp only [allSome, Option.map_eq_some_iff] at hx
                  obtain ⟨zs, hz, he⟩ := hx
                  cases he
                  exact (val_ev hs hy heq.1).2
          | cons _ _ => exact h3 (by simp)
        refine ⟨rfl, r, ?_, RD.sc _ hone⟩
        have hargs : (c.args.map a.eval).toList = u' :: l := by rw [Array.toList_map, ha, hxo]
        cases big with
        | false =>
          refine run_builtin hop hc Builtin.min_ (fun _ _ _ _ => rfl) ?_
          simp only [Builtin.min_, hargs]
          simpa using h1
        | true =>
          refine run_builtin hop hc Builtin.max_ (fun _ _ _ _ => rfl) ?_
          simp only [Builtin.max_, hargs]
          simpa using h1
    · cases hf

theorem good_ext (hd : ∀ d, o.dst = some d → d < n) {xo : Operand} {x : PX} {i : Nat} (hop : o.op = .extract xo i) (hx : cX xo = some x) : Good P n o (.ext x i) :=
  .of_pure hd fun w0 S0 W s a w v ch hs hf => by
    simp only [PO.fn] at hf
    split at hf
    · rename_i xs heq
      simp only [Option.map_eq_some_iff, Prod.mk.injEq] at hf
      obtain ⟨b, hb, rfl, rfl⟩ := hf
      have := evX hs hx
      rw [heq] at this
      obtain ⟨vs, h1, h2, h3⟩ := this
      have hlt : i < vs.size := by have := (List.getElem?_eq_some_iff.1 hb).1; omega
      refine ⟨rfl, vs[i], ?_, h3 i b _ hb (by simp [hlt])⟩
      simp [execOp, hop, h1, Instr.extract, hlt]
    · cases hf

theorem good_nilck (hd : ∀ d, o.dst = some d → d < n) {xo : Operand} {x : PX} (hop : o.op = .nilCheck xo) (hx : cX xo = some x) : Good P n o (.nilck x) :=
  .of_pure hd fun w0 S0 W s a w v ch hs hf => by
    simp only [PO.fn] at hf
    split at hf
    · rename_i o' g off heq
      split at hf
      · rename_i hg
        cases hf
        obtain ⟨h1, h2, h3⟩ := cl_ev hs hx heq (by simp)
        have := h3 hg.symm
        refine ⟨rfl, a.eval xo, ?_, h1, h2, h3⟩
        simp [execOp, hop, this]
      · cases hf
    · cases hf

theorem good_substr (hd : ∀ d, o.dst = some d → d < n) {t : TypeId} {xo : Operand} {x : PX} {lo hi : Option Operand} {l h : Option PX} (hop : o.op = .slice t xo lo hi none) (ht : P.underlying t = some .string) (hx : cX xo = some x)
    (hl : lo.map cX = l.map some) (hh : hi.map cX = h.map some) : Good P n o (.substr x l h) :=
  .of_pure hd fun w0 S0 W s a w v ch hs hf => by
    simp only [PO.fn] at hf
    split at hf
    · rename_i b hb
      obtain ⟨e, _⟩ := val_ev hs hx hb
      split at hf
      · rename_i lv hv h1 h2
        split at hf
        · rename_i hc
          cases hf
          refine ⟨rfl, _, ?_, RD.sc _ rfl⟩
          have hlo : ∀ y, (lo.map a.eval).elim (pure 0) (fun v => Instr.sliceBound v y (if (none : Option Value).isSome then .slice3C else .sliceB)) = (lo.map a.eval).elim (pure 0) (fun v => Instr.sliceBound v y .sliceB) := fun y => rfl
          cases lo with
          | none =>
            cases l with
            | some _ => simp at hl
            | none =>
              simp at h1
              subst h1
              cases hi with
              | none =>
                cases h with
                | some _ => simp at hh
                | none =>
                  simp at h2
                  subst h2
                  simp [execOp, hop, Instr.sliceAt, Instr.slice, run_underlying ht, e, Instr.sliceBounds]
              | some ho =>
                cases h with
                | none => simp at hh
                | some hx' =>
                  simp at hh h2
                  obtain ⟨kk, e2⟩ := int_ev hs hh h2
                  have hc1 : 0 ≤ hv := by omega
                  have hc2 : hv ≤ (b.size : Int) := by omega
                  simp [execOp, hop, Instr.sliceAt, Instr.slice, run_underlying ht, e, Instr.sliceBounds, e2, Instr.sliceBound, asIntOf, hc1, hc2]
          | some lo' =>
            cases l with
            | none => simp at hl
            | some lx =>
              simp at hl h1
              obtain ⟨k1, e1⟩ := int_ev hs hl h1
              cases hi with
              | none =>
                cases h with
                | some _ => simp at hh
                | none =>
                  simp at h2
                  subst h2
                  have hc1 : 0 ≤ lv := by omega
                  have hc2 : lv ≤ (b.size : Int) := by omega
                  simp [execOp, hop, Instr.sliceAt, Instr.slice, run_underlying ht, e, e1, Instr.sliceBounds, Instr.sliceBound, asIntOf, hc1, hc2]
              | some ho =>
                cases h with
                | none => simp at hh
                | some hx' =>
                  simp at hh h2
                  obtain ⟨kk, e2⟩ := int_ev hs hh h2
                  have hc0 : 0 ≤ hv := by omega
                  have hc1 : 0 ≤ lv := by omega
                  have hc2 : hv ≤ (b.size : Int) := by omega
                  have hc3 : lv ≤ (hv.toNat : Int) := by omega
                  simp [execOp, hop, Instr.sliceAt, Instr.slice, run_underlying ht, e, e1, Instr.sliceBounds, e2, Instr.sliceBound, asIntOf, hc0, hc1, hc2]
                  omega
        · cases hf
      · cases hf
    · cases hf
end
end Go.Proofs.Ytkdagjlkejefnaa
