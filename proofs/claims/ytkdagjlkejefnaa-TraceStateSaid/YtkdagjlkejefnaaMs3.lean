/- Arithmetic, comparisons, conversions, slices: each does what its plain reading says. -/
import Derived.Test.YtkdagjlkejefnaaMs2
import Derived.Deep.Upon
import Derived.Laws.Rows
import Derived.Laws.MakeOwn
section
set_option linter.unusedSimpArgs false
set_option linter.unusedVariables false
namespace Go.Proofs.Ytkdagjlkejefnaa
open Go Go.RowKit

section
variable {n : Nat} {P : Program} {o : Oper}

theorem guard_no {op : BinOp} {t : TypeId} {x y : Operand} {a b : Value} (h1 : ∀ arr, a ≠ .agg arr) (h2 : a ≠ .nilIface) (w : World) : (eqGuard op t x y a b).run P w = .ok () w := by
  unfold eqGuard
  cases op <;> (try rfl) <;> (cases a <;> first | (exact absurd rfl (h1 _)) | (exact absurd rfl h2) | rfl)

theorem good_bin (hd : ∀ d, o.dst = some d → d < n) {op : BinOp} {t u : TypeId} {xo yo : Operand} {x y : PX} (hop : o.op = .binOp op t xo yo u) (hx : cX xo = some x) (hy : cX yo = some y) : Good P n o (.bin op x y) :=
  .of_pure hd fun w0 S0 W s a w v ch hs hf => by
    simp only [PO.fn] at hf
    split at hf
    · rename_i va vb ha hb
      simp only [Option.map_eq_some_iff, Prod.mk.injEq] at hf
      obtain ⟨r, hr, rfl, rfl⟩ := hf
      obtain ⟨ea, _⟩ := val_ev hs hx ha
      obtain ⟨eb, _⟩ := val_ev hs hy hb
      have hg : (eqGuard op t xo yo va vb).run P w = .ok () w := by
        refine guard_no (fun arr he => ?_) (fun he => ?_) w
        · subst he; cases vb <;> simp [scBin] at hr
        · subst he; cases vb <;> simp [scBin] at hr
      have hone : r.oneCell' = true ∧ (binOp op t va vb).run P w = .ok r w := by
        unfold scBin at hr
        split at hr
        · rename_i k i k' j
          cases op <;> simp only at hr <;> (try (cases hr; done)) <;> (try split at hr) <;> (try (cases hr; done))
          all_goals first
            | (rename_i h; cases hr; first | subst h | (have h0 := h.2; have h1 := h.1; subst h1) | skip)
            | skip
          all_goals refine ⟨rfl, ?_⟩
          all_goals first
            | (simp only [binOp, Op.shift, if_neg h]; rfl)
            | simp_all [binOp, Op.intArith, Op.intDiv, Op.intBits, Op.intCmp, Op.shift]
        · rename_i p q
          cases op <;> simp only at hr <;> (try (cases hr; done)) <;> (try split at hr) <;> (try (cases hr; done))
          all_goals cases hr
          all_goals refine ⟨rfl, ?_⟩
          all_goals simp_all [binOp, Op.stringOp, IntKind.max, IntKind.signed, IntKind.bits]
          all_goals (try omega)
        · cases hr
      refine ⟨rfl, r, ?_, RD.sc _ hone.1⟩
      simp [execOp, hop, ea, eb, hg, hone.2]
    · cases hf

theorem run_eq_bool {t : TypeId} (hu : P.underlying t = some .bool) (va vb : Bool) (w : World) : (Op.equal t (.bool va) (.bool vb)).run P w = .ok (va == vb) w := by
  show (Op.equalIn (9999 + 1) t (.bool va) (.bool vb)).run P w = _
  rw [Op.equalIn.eq_2]
  simp [run_underlying hu]

theorem good_eqb (hd : ∀ d, o.dst = some d → d < n) {neg : Bool} {t u : TypeId} {xo yo : Operand} {x y : PX} (hop : o.op = .binOp (if neg then .neq else .eql) t xo yo u) (hu : P.underlying t = some .bool) (hx : cX xo = some x) (hy : cX yo = some y) : Good P n o (.eqb neg x y) :=
  .of_pure hd fun w0 S0 W s a w v ch hs hf => by
    simp only [PO.fn] at hf
    split at hf
    · rename_i va vb ha hb
      cases hf
      have ea := boo_ev hs hx ha
      have eb := boo_ev hs hy hb
      have hg : ∀ op, (eqGuard op t xo yo (.bool va) (.bool vb)).run P w = .ok () w := fun op => guard_no (fun _ h => by cases h) (by simp) w
      refine ⟨rfl, .bool (if neg then !(va == vb) else va == vb), ?_, RD.sc _ rfl⟩
      have he : (Op.equal t (.bool va) (.bool vb)).run P w = .ok (va == vb) w := run_eq_bool hu va vb w
      cases neg <;> simp [execOp, hop, ea, eb, hg, binOp, he]
    · cases hf

/-- equality at the type t of cells of the kinds ks: cell by cell -/
def EqT (P : Program) (t : Nat) (ks : List Bool) : Prop := P.eqGuardType P.depth t = false ∧
  ∀ (xs ys : Array Value) (cs ds : List Cl) (r : Bool) (W : Wit) (G : Nat → Nat) (O : Nat → Ob) (w : World), RCs W G O w cs xs.toList → RCs W G O w ds ys.toList → eqCls ks cs ds = some r →
    (Op.equal t (.agg xs) (.agg ys)).run P w = .ok r w

theorem good_eqs (hd : ∀ d, o.dst = some d → d < n) {neg : Bool} {t u : Nat} {ks : List Bool} {xo yo : Operand} {x y : PX} (hop : o.op = .binOp (if neg then .neq else .eql) t xo yo u) (ht : EqT P t ks) (hx : cX xo = some x) (hy : cX yo = some y) : Good P n o (.eqs neg ks x y) :=
  .of_pure hd fun w0 S0 W s a w v ch hs hf => by
    simp only [PO.fn] at hf
    split at hf
    · rename_i ca cb ha hb
      simp only [Option.map_eq_some_iff, Prod.mk.injEq] at hf
      obtain ⟨r, hr, rfl, rfl⟩ := hf
      have e1 := evX hs hx
      have e2 := evX hs hy
      rw [ha] at e1
      rw [hb] at e2
      obtain ⟨xs, h1, h2⟩ := e1
      obtain ⟨ys, h3, h4⟩ := e2
      have he := ht.2 xs ys _ _ r W _ _ w h2 h4 hr
      have hg : ∀ op, (eqGuard op t xo yo (.agg xs) (.agg ys)).run P w = .ok () w := fun op => by
        unfold eqGuard
        cases op <;> (try rfl) <;> simp [ht.1]
      refine ⟨rfl, .bool (if neg then !r else r), ?_, RD.sc _ rfl⟩
      cases neg <;> simp [execOp, hop, h1, h3, hg, binOp, he]
    · cases hf

theorem good_un (hd : ∀ d, o.dst = some d → d < n) {op : UnOp} {t : TypeId} {xo : Operand} {x : PX} (hop : o.op = .unOp op t xo) (hx : cX xo = some x) : Good P n o (.un op x) :=
  .of_pure hd fun w0 S0 W s a w v ch hs hf => by
    simp only [PO.fn] at hf
    split at hf
    · rename_i b hv
      cases hf
      obtain ⟨e, _⟩ := val_ev hs hx hv
      exact ⟨rfl, .bool !b, by simp [execOp, hop, e, Op.unary], RD.sc _ rfl⟩
    · rename_i k m hv
      cases hf
      obtain ⟨e, _⟩ := val_ev hs hx hv
      exact ⟨rfl, .int k (k.wrap (0 - m)), by simp [execOp, hop, e, Op.unary, Op.intArith], RD.sc _ rfl⟩
    · rename_i k m hv
      cases hf
      obtain ⟨e, _⟩ := val_ev hs hx hv
      exact ⟨rfl, _, by simp [execOp, hop, e, Op.unary, Op.intBits], RD.sc _ rfl⟩
    · cases hf

theorem good_conv (hd : ∀ d, o.dst = some d → d < n) {t u : TypeId} {k : IntKind} {ds : TypeDesc} {xo : Operand} {x : PX} (hop : o.op = .convert t u xo) (ht : P.underlying t = some ds) (hu : P.underlying u = some (.int k)) (hx : cX xo = some x) : Good P n o (.conv k x) :=
  .of_pure hd fun w0 S0 W s a w v ch hs hf => by
    simp only [PO.fn, Option.map_eq_some_iff, Prod.mk.injEq] at hf
    obtain ⟨m, hm, rfl, rfl⟩ := hf
    obtain ⟨kk, e⟩ := int_ev hs hx hm
    refine ⟨rfl, .int k (k.wrap m), ?_, RD.sc _ rfl⟩
    simp [execOp, hop, e, convert, run_underlying ht, run_underlying hu, Conv.intToInt]


theorem run_builtin {o : Oper} {b : Builtin} {c : Call} {a : Act} {w : World} (hop : o.op = .call c) (hc : c.callee = .builtin b) (f : Array TypeId → TypeId → Array Value → Sem Value)
    (hb : ∀ at_ ty cs args, builtin b at_ ty cs args = (do pure (.value (← f at_ ty args)))) {v : Value} {w' : World} (h : (f c.argTypes o.type (c.args.map a.eval)).run P w = .ok v w') : (execOp a.eval o).run P w = .ok (.value v) w' := by
  simp only [execOp, hop, resolve, hc, Sem.run_bind, Sem.run_pure, Result.andThen_ok, invoke, hb, h]


theorem good_len (hd : ∀ d, o.dst = some d → d < n) {t e : TypeId} {xo : Operand} {x : PX} {c : Call} (hop : o.op = .call c) (hc : c.callee = .builtin .len) (ha : c.args = #[xo]) (hat : c.argTypes = #[t]) (ht : P.underlying t = some (.slice e)) (hx : cX xo = some x) : Good P n o (.len x) :=
  .of_pure hd fun w0 S0 W s a w v ch hs hf => by
    simp only [PO.fn] at hf
    split at hf
    · rename_i o' g off ln cap sz2 heq
      cases hf
      obtain ⟨b, h1, _⟩ := cl_ev hs hx heq (by simp)
      refine ⟨rfl, .int .i64 ln, run_builtin hop hc Builtin.len_ (fun _ _ _ _ => rfl) ?_, RD.sc _ rfl⟩
      rw [ha, hat]
      simp [Builtin.len_, run_underlying ht, goInt, h1]
    · simp only [Option.map_eq_some_iff, Prod.mk.injEq] at hf
      obtain ⟨rows, hr, rfl, rfl⟩ := hf
      obtain ⟨A, cap, e, _⟩ := (rows_ev hs hx hr).len
      refine ⟨rfl, .int .i64 rows.length, run_builtin hop hc Builtin.len_ (fun _ _ _ _ => rfl) ?_, RD.sc _ rfl⟩
      rw [ha, hat]
      simp [Builtin.len_, run_underlying ht, goInt, e]
theorem good_strlen (hd : ∀ d, o.dst = some d → d < n) {t : TypeId} {xo : Operand} {x : PX} {c : Call} (hop : o.op = .call c) (hc : c.callee = .builtin .len) (ha : c.args = #[xo]) (hat : c.argTypes = #[t]) (ht : P.underlying t = some .string) (hx : cX xo = some x) : Good P n o (.strlen x) :=
  .of_pure hd fun w0 S0 W s a w v ch hs hf => by
    simp only [PO.fn] at hf
    split at hf
    · rename_i b hb
      cases hf
      obtain ⟨e, _⟩ := val_ev hs hx hb
      refine ⟨rfl, .int .i64 b.size, run_builtin hop hc Builtin.len_ (fun _ _ _ _ => rfl) ?_, RD.sc _ rfl⟩
      rw [ha, hat]
      simp [Builtin.len_, run_underlying ht, goInt, e]
    · cases hf
theorem good_alen (hd : ∀ d, o.dst = some d → d < n) {t e m : TypeId} {xo : Operand} {c : Call} (hop : o.op = .call c) (hc : c.callee = .builtin .len) (ha : c.args = #[xo]) (hat : c.argTypes = #[t]) (ht : P.underlying t = some (.array m e)) : Good P n o (.alen m) :=
  .of_pure hd fun w0 S0 W s a w v ch hs hf => by
    simp only [PO.fn, Option.some.injEq, Prod.mk.injEq] at hf
    obtain ⟨rfl, rfl⟩ := hf
    refine ⟨rfl, .int .i64 m, run_builtin hop hc Builtin.len_ (fun _ _ _ _ => rfl) ?_, RD.sc _ rfl⟩
    rw [ha, hat]
    simp [Builtin.len_, run_underlying ht, goInt]

def mmF (big : Bool) (acc y : Option Value) : Option Value := match acc, y with
  | some a, some b => scMM big a b
  | _, _ => none
theorem mmF_none (big : Bool) (z : Option Value) : mmF big z none = none := by cases z <;> rfl

theorem good_mm (hd : ∀ d, o.dst = some d → d < n) {big : Bool} {xo : List Operand} {xs : List PX} {c : Call} (hop : o.op = .call c) (hc : c.callee = .builtin (if big then .max else .min)) (ha : c.args.toList = xo) (hx : allSome (xo.map cX) = some xs) : Good P n o (.mm big xs) :=
  .of_pure hd fun w0 S0 W s a w v ch hs hf => by
    -- the arguments, one by one
    have args : ∀ (xo : List Operand) (xs : List PX) (vs : List (Option Value)), allSome (xo.map cX) = some xs → xs.map s.val = vs → (∀ y ∈ vs, y ≠ none) → (xo.map a.eval).map some = vs := by
      intro xo
      induction xo with
      | nil => intro xs vs h1 h2 _; simp [allSome] at h1; subst h1; simpa using h2
      | cons y ys ih =>
        intro xs vs h1 h2 h3
        simp only [List.map_cons] at h1
        cases hy : cX y with
        | none => rw [hy] at h1; simp [allSome] at h1
        | some y' =>
          rw [hy] at h1
          simp only [allSome, Option.map_eq_some_iff] at h1
          obtain ⟨zs, hz, rfl⟩ := h1
          simp only [List.map_cons] at h2
          subst h2
          cases hv : s.val y' with
          | none => exact absurd (by simp [hv]) (h3 none (by simp [hv]))
          | some u =>
            obtain ⟨e, _⟩ := val_ev hs hy hv
            have := ih zs _ hz rfl (fun y hy => h3 y (by simp only [List.mem_cons]; exact .inr hy))
            simp only [List.map_cons, e, hv, this]
    have none_fold : ∀ l : List (Option Value), l.foldl (mmF big) none = none := by
      intro l
      induction l with
      | nil => rfl
      | cons y l ih => simp only [List.foldl_cons]; exact ih
    have fold : ∀ (l : List Value) (u r : Value), (l.map some).foldl (mmF big) (some u) = some r →
        (l.foldlM (if big then Builtin.max2 else Builtin.min2) u).run P w = .ok r w ∧ (l = [] → r = u) ∧ (l ≠ [] → r.oneCell' = true) := by
      intro l
      induction l with
      | nil => intro u r h; simp at h; subst h; exact ⟨by simp, fun _ => rfl, fun h => absurd rfl h⟩
      | cons y l ih =>
        intro u r h
        simp only [List.map_cons, List.foldl_cons] at h
        replace h : (l.map some).foldl (mmF big) (scMM big u y) = some r := h
        cases hm : scMM big u y with
        | none => rw [hm, none_fold] at h; cases h
        | some z =>
          rw [hm] at h
          obtain ⟨h1, h2, h3⟩ := ih z r h
          have hz : z.oneCell' = true ∧ ((if big then Builtin.max2 else Builtin.min2) u y).run P w = .ok z w := by
            unfold scMM at hm
            split at hm
            · split at hm
              · cases hm
                refine ⟨rfl, ?_⟩
                cases big <;> simp [Builtin.max2, Builtin.min2]
              · cases hm
            · cases hm
          refine ⟨by simp only [List.foldlM_cons, Sem.run_bind, hz.2, Result.andThen_ok]; exact h1, (fun h => by cases h), fun _ => ?_⟩
          cases l with
          | nil => rw [h2 rfl]; exact hz.1
          | cons _ _ => exact h3 (by simp)
    simp only [PO.fn] at hf
    split at hf
    · rename_i u rest heq
      simp only [Option.map_eq_some_iff, Prod.mk.injEq] at hf
      obtain ⟨r, hr, rfl, rfl⟩ := hf
      replace hr : rest.foldl (mmF big) u = some r := hr
      have hnone : ∀ y ∈ rest, y ≠ none := by
        intro y hy hn
        subst hn
        have : ∀ (l : List (Option Value)) (z : Option Value), none ∈ l → l.foldl (mmF big) z = none := by
          intro l
          induction l with
          | nil => intro z h; cases h
          | cons q l ih =>
            intro z h
            rcases List.mem_cons.1 h with h | h
            · subst h
              simp only [List.foldl_cons]
              rw [mmF_none]; exact none_fold l
            · exact ih _ h
        rw [this rest _ hy] at hr
        cases hr
      have hal := args xo xs _ hx heq (by
        intro y hy
        rcases List.mem_cons.1 hy with h | h
        · rw [h]; simp
        · exact hnone y h)
      cases hxo : xo.map a.eval with
      | nil => rw [hxo] at hal; simp at hal
      | cons u' l =>
        rw [hxo] at hal
        simp only [List.map_cons, List.cons.injEq, Option.some.injEq] at hal
        obtain ⟨rfl, rfl⟩ := hal
        obtain ⟨h1, h2, h3⟩ := fold l u' r hr
        have hone : r.oneCell' = true := by
          cases l with
          | nil =>
            rw [h2 rfl]
            cases xs with
            | nil => simp at heq
            | cons x0 xr =>
              simp only [List.map_cons, List.cons.injEq] at heq
              cases xo with
              | nil => simp at hxo
              | cons y0 yr =>
                simp only [List.map_cons] at hx
                cases hy : cX y0 with
                | none => rw [hy] at hx; simp [allSome] at hx
                | some y' =>
                  rw [hy] at hx
                  simp only [allSome, Option.map_eq_some_iff] at hx
                  obtain ⟨zs, hz, he⟩ := hx
                  cases he
                  exact (val_ev hs hy heq.1).2
          | cons _ _ => exact h3 (by simp)
        refine ⟨rfl, r, ?_, RD.sc _ hone⟩
        have hargs : (c.args.map a.eval).toList = u' :: l := by rw [Array.toList_map, ha, hxo]
        cases big with
        | false =>
          refine run_builtin hop hc Builtin.min_ (fun _ _ _ _ => rfl) ?_
          simp only [Builtin.min_, hargs]
          simpa using h1
        | true =>
          refine run_builtin hop hc Builtin.max_ (fun _ _ _ _ => rfl) ?_
          simp only [Builtin.max_, hargs]
          simpa using h1
    · cases hf

theorem good_ext (hd : ∀ d, o.dst = some d → d < n) {xo : Operand} {x : PX} {i : Nat} (hop : o.op = .extract xo i) (hx : cX xo = some x) : Good P n o (.ext x i) :=
  .of_pure hd fun w0 S0 W s a w v ch hs hf => by
    simp only [PO.fn] at hf
    split at hf
    · rename_i xs heq
      simp only [Option.map_eq_some_iff, Prod.mk.injEq] at hf
      obtain ⟨b, hb, rfl, rfl⟩ := hf
      have := evX hs hx
      rw [heq] at this
      obtain ⟨vs, h1, h2, h3⟩ := this
      have hlt : i < vs.size := by have := (List.getElem?_eq_some_iff.1 hb).1; omega
      refine ⟨rfl, vs[i], ?_, h3 i b _ hb (by simp [hlt])⟩
      simp [execOp, hop, h1, Instr.extract, hlt]
    · cases hf

theorem good_nilck (hd : ∀ d, o.dst = some d → d < n) {xo : Operand} {x : PX} (hop : o.op = .nilCheck xo) (hx : cX xo = some x) : Good P n o (.nilck x) :=
  .of_pure hd fun w0 S0 W s a w v ch hs hf => by
    simp only [PO.fn] at hf
    split at hf
    · rename_i o' g off heq
      split at hf
      · rename_i hg
        cases hf
        obtain ⟨h1, h2, h3⟩ := cl_ev hs hx heq (by simp)
        have := h3 hg.symm
        refine ⟨rfl, a.eval xo, ?_, h1, h2, h3⟩
        simp [execOp, hop, this]
      · cases hf
    · cases hf

theorem good_substr (hd : ∀ d, o.dst = some d → d < n) {t : TypeId} {xo : Operand} {x : PX} {lo hi : Option Operand} {l h : Option PX} (hop : o.op = .slice t xo lo hi none) (ht : P.underlying t = some .string) (hx : cX xo = some x)
    (hl : lo.map cX = l.map some) (hh : hi.map cX = h.map some) : Good P n o (.substr x l h) :=
  .of_pure hd fun w0 S0 W s a w v ch hs hf => by
    simp only [PO.fn] at hf
    split at hf
    · rename_i b hb
      obtain ⟨e, _⟩ := val_ev hs hx hb
      split at hf
      · rename_i lv hv h1 h2
        split at hf
        · rename_i hc
          cases hf
          refine ⟨rfl, _, ?_, RD.sc _ rfl⟩
          have hlo : ∀ y, (lo.map a.eval).elim (pure 0) (fun v => Instr.sliceBound v y (if (none : Option Value).isSome then .slice3C else .sliceB)) = (lo.map a.eval).elim (pure 0) (fun v => Instr.sliceBound v y .sliceB) := fun y => rfl
          cases lo with
          | none =>
            cases l with
            | some _ => simp at hl
            | none =>
              simp at h1
              subst h1
              cases hi with
              | none =>
                cases h with
                | some _ => simp at hh
                | none =>
                  simp at h2
                  subst h2
                  simp [execOp, hop, Instr.sliceAt, Instr.slice, run_underlying ht, e, Instr.sliceBounds]
              | some ho =>
                cases h with
                | none => simp at hh
                | some hx' =>
                  simp at hh h2
                  obtain ⟨kk, e2⟩ := int_ev hs hh h2
                  have hc1 : 0 ≤ hv := by omega
                  have hc2 : hv ≤ (b.size : Int) := by omega
                  simp [execOp, hop, Instr.sliceAt, Instr.slice, run_underlying ht, e, Instr.sliceBounds, e2, Instr.sliceBound, asIntOf, hc1, hc2]
          | some lo' =>
            cases l with
            | none => simp at hl
            | some lx =>
              simp at hl h1
              obtain ⟨k1, e1⟩ := int_ev hs hl h1
              cases hi with
              | none =>
                cases h with
                | some _ => simp at hh
                | none =>
                  simp at h2
                  subst h2
                  have hc1 : 0 ≤ lv := by omega
                  have hc2 : lv ≤ (b.size : Int) := by omega
                  simp [execOp, hop, Instr.sliceAt, Instr.slice, run_underlying ht, e, e1, Instr.sliceBounds, Instr.sliceBound, asIntOf, hc1, hc2]
              | some ho =>
                cases h with
                | none => simp at hh
                | some hx' =>
                  simp at hh h2
                  obtain ⟨kk, e2⟩ := int_ev hs hh h2
                  have hc0 : 0 ≤ hv := by omega
                  have hc1 : 0 ≤ lv := by omega
                  have hc2 : hv ≤ (b.size : Int) := by omega
                  have hc3 : lv ≤ (hv.toNat : Int) := by omega
                  simp [execOp, hop, Instr.sliceAt, Instr.slice, run_underlying ht, e, e1, Instr.sliceBounds, e2, Instr.sliceBound, asIntOf, hc0, hc1, hc2]
                  omega
        · cases hf
      · cases hf
    · cases hf
end
end Go.Proofs.Ytkdagjlkejefnaa
end
section
set_option linter.unusedSimpArgs false
set_option linter.unusedVariables false
namespace Go.Proofs.Ytkdagjlkejefnaa
open Go Go.RowKit

section
variable {n : Nat} {P : Program} {o : Oper}


theorem good_load (hd : ∀ d, o.dst = some d → d < n) {t : TypeId} {d : TypeDesc} {i : TypeInfo} {xo : Operand} {x : PX} {k : Option Nat} (hop : o.op = .load t xo) (hu : P.underlying t = some d) (hi : P.info? t = some i)
    (hk : k = if aggT d = true then some i.size else none) (hx : cX xo = some x) : Good P n o (.load k x) :=
  .of_pure hd fun w0 S0 W s a w v ch hs hf => by
    -- what a load of the cells vs at ⟨b, base⟩ brings
    have key : ∀ (cs : List Cl) (vs : List Value) (b base off : Nat) (v : Av), a.eval xo = .pointer (some ⟨b, base + off, none⟩) → RCs W s.gen s.ob w cs vs → (∀ j u, vs[j]? = some u → w.cell? ⟨b, base + j, none⟩ = some u) → mkAv k cs off = some v →
        ∃ rv, (execOp a.eval o).run P w = .ok (.value rv) w ∧ RA W s.gen s.ob w v rv := fun cs vs b base off v he hr hc hv => by
      have hag := run_isAgg (P := P) hu w
      rcases mkAv_cells hr hv with ⟨rfl, c, u, h1, h2, rfl, h3⟩ | ⟨m, rfl, h1, rfl, h2⟩
      · have hf : aggT d = false := by cases h : aggT d <;> simp [h] at hk ⊢
        rw [hf] at hag
        refine ⟨u, ?_, h3⟩
        simp [execOp, hop, Instr.loadAt, he, Instr.sureAddr, loadVar, hag, hc off u h2]
      · have ht : aggT d = true := by cases h : aggT d <;> simp [h] at hk ⊢
        rw [ht] at hag hk
        simp at hk
        subst hk
        have hlen : ((vs.drop off).take i.size).length = i.size := by simp; omega
        have hl := run_loadCells_list (P := P) w ⟨b, base + off, none⟩ ((vs.drop off).take i.size) (fun j u hj => by
          rw [addr_add]
          rw [List.getElem?_take] at hj
          split at hj
          · rw [List.getElem?_drop] at hj
            have := hc _ _ hj
            rw [← Nat.add_assoc] at this
            exact this
          · cases hj)
        rw [hlen] at hl
        refine ⟨.agg ((vs.drop off).take i.size).toArray, ?_, _, rfl, by simpa using h2⟩
        simp [execOp, hop, Instr.loadAt, he, Instr.sureAddr, loadVar, hag, sizeOf, typeInfo, hi, hl]
    simp only [PO.fn] at hf
    split at hf
    · rename_i o' g off heq
      split at hf
      · rename_i hg
        split at hf
        · rename_i cs hob
          simp only [Option.map_eq_some_iff, Prod.mk.injEq] at hf
          obtain ⟨v', hv, rfl, rfl⟩ := hf
          obtain ⟨h1, h2, h3⟩ := cl_ev hs hx heq (by simp)
          have hro := hs.ob o'
          rw [hob] at hro
          obtain ⟨arr, T, h4, h5, h6, h7⟩ := hro
          refine ⟨rfl, key cs arr.toList (W.blk o') 0 off v' (by rw [Nat.zero_add]; exact h3 hg.symm) h7 (fun j u hj => ?_) hv⟩
          rw [Nat.zero_add]
          simp only [World.cell?, h4]
          simpa using hj
        · cases hf
      · cases hf
    · rename_i row off heq
      simp only [Option.map_eq_some_iff, Prod.mk.injEq] at hf
      obtain ⟨v', hv, rfl, rfl⟩ := hf
      obtain ⟨b, o', h1, h2⟩ := cl_ev hs hx heq (by simp)
      have hex : ∀ j : Nat, ∃ u, ∀ x, row[j]? = some x → w.cell? ⟨b, o' + j, none⟩ = some u ∧ RD W.S w x u := fun j => by
        cases hj : row[j]? with
        | none => exact ⟨undef, fun x h => by cases h⟩
        | some y =>
          obtain ⟨u, h3, _, h5⟩ := h2 j y hj
          exact ⟨u, fun x h => by cases h; exact ⟨h3, h5⟩⟩
      obtain ⟨f, hf⟩ := Classical.skolem.1 hex
      refine ⟨rfl, key (row.map .d) ((List.range row.length).map f) b o' off v' h1 ⟨by simp, fun j c u h3 h4 => ?_⟩ (fun j u hj => ?_) hv⟩
      · simp only [List.getElem?_map, Option.map_eq_some_iff] at h3 h4
        obtain ⟨y, hy, rfl⟩ := h3
        obtain ⟨k', hk', rfl⟩ := h4
        have hlt := (List.getElem?_eq_some_iff.1 hy).1
        rw [List.getElem?_range hlt] at hk'
        cases hk'
        exact (hf j y hy).2
      · simp only [List.getElem?_map, Option.map_eq_some_iff] at hj
        obtain ⟨k', hk', rfl⟩ := hj
        have hlt : j < row.length := by
          rcases Nat.lt_or_ge j row.length with h | h
          · exact h
          · rw [List.getElem?_eq_none (by simpa using h)] at hk'; cases hk'
        rw [List.getElem?_range hlt] at hk'
        cases hk'
        exact (hf j _ (List.getElem?_eq_getElem hlt)).1
    · cases hf

/-! ### A new object -/
theorem cl_lt {w0 : World} {S0 : Nat → Nat} {W : Wit} {s : St} {a : Act} {w : World} (hs : Sim w0 S0 n W s a w) {o b : Nat} (h : cl W o (s.ob o) b) : w0.heap.size ≤ b ∧ b < w.heap.size := by
  have hro := hs.ob o
  generalize s.ob o = x at h hro
  cases x with
  | no => exact h.elim
  | cells cs =>
    obtain ⟨arr, T, h1, h2, _⟩ := hro
    have : W.blk o = b := h
    subst this
    exact ⟨h2, (Array.getElem?_eq_some_iff.1 h1).1⟩
  | row E sz m =>
    obtain ⟨xs, h1, _⟩ := hro
    exact h1.lt b h
  | ab H => exact ⟨(hro.2 b h).1, H.lt _ _ _ _ hro.1 h⟩

/-- object d is made anew: in a new block, or without one -/
theorem Sim.new {w0 : World} {S0 : Nat → Nat} {W : Wit} {s : St} {a : Act} {w : World} (hs : Sim w0 S0 n W s a w) {d : Nat} (hd : d < n) {w' : World} {x : Ob} {v : Av} {rv : Value} (u : Value) (σ : Nat)
    (hw : (∀ b, b < w.heap.size → w'.heap[b]? = w.heap[b]?) ∧ w.heap.size ≤ w'.heap.size ∧ w'.os = w.os ∧ w'.tape = w.tape ∧ w'.output = w.output)
    (hv : RA { W with blk := up W.blk d w.heap.size, val := up W.val d u, S := up W.S w.heap.size σ } (up s.gen d (s.gen d + 1)) (up s.ob d x) w' v rv)
    (ho : RO w0.heap.size { W with blk := up W.blk d w.heap.size, val := up W.val d u, S := up W.S w.heap.size σ } (up s.gen d (s.gen d + 1)) (up s.ob d x) w' d x)
    (hc : ∀ b, cl { W with blk := up W.blk d w.heap.size, val := up W.val d u, S := up W.S w.heap.size σ } d x b → w.heap.size ≤ b) :
    Sim w0 S0 n { W with blk := up W.blk d w.heap.size, val := up W.val d u, S := up W.S w.heap.size σ } (s.ap (some d) v (.new d x)) (a.put (some d) rv) w' := by
  have hbs := hs.below.size
  have hfol : Fol W s.gen s.ob w { W with blk := up W.blk d w.heap.size, val := up W.val d u, S := up W.S w.heap.size σ } (up s.gen d (s.gen d + 1)) (up s.ob d x) w' := by
    refine ⟨fun b i h1 h2 => ?_, fun o' => ?_, fun o' h => ?_, fun o' E sz n' h h2 => ?_, fun _ _ => rfl⟩
    · have hlt : b < w.heap.size := by
        cases hcell : w.cell? ⟨b, i, none⟩ with
        | none => rw [hcell] at h2; cases h2
        | some y =>
          rcases Nat.lt_or_ge b w.heap.size with h | h
          · exact h
          · simp [World.cell?, Array.getElem?_eq_none h] at hcell
      refine ⟨?_, by simp [World.cell?, hw.1 b hlt]⟩
      show i < up W.S w.heap.size σ b
      rw [up_at, if_neg (by omega)]
      exact h1
    · rw [up_at]; split <;> (try omega)
      rename_i h; rw [h]; omega
    · have : o' ≠ d := by rintro rfl; rw [up_at, if_pos rfl] at h; omega
      show up W.blk d w.heap.size o' = _
      rw [up_at, if_neg this]
    · have : o' ≠ d := by rintro rfl; rw [up_at, if_pos rfl] at h; omega
      rw [up_at, if_neg this] at h2
      refine ⟨n', h2, Nat.le_refl _, fun _ => ?_⟩
      show up W.val d u o' = _
      rw [up_at, if_neg this]
  refine hs.step (fun d' h => by cases h; exact hd) hfol ⟨hw.2.2.1, hw.2.2.2.1, hw.2.2.2.2, hw.2.1, fun b hb => hw.1 b (by omega)⟩ (fun b hb => ?_) hv (fun o' => ?_) (fun o1 o2 b h1 h2 => ?_)
  · show up W.S w.heap.size σ b = _
    rw [up_at, if_neg (by omega)]
  · by_cases h : o' = d
    · subst h
      show RO _ _ _ _ _ _ (up s.ob o' x o')
      rw [up_at, if_pos rfl]
      exact ho
    · show RO _ _ _ _ _ _ (up s.ob d x o')
      rw [up_at, if_neg h]
      refine RO.fol hfol (hs.ob o') (by rw [up_at, if_neg h]) (by show up W.val d u o' = _; rw [up_at, if_neg h]) rfl (fun b hb => ?_)
      obtain ⟨h1, h2⟩ := cl_lt hs hb
      exact ⟨hw.1 b h2, by show up W.S w.heap.size σ b = _; rw [up_at, if_neg (by omega)]⟩
  · -- no two objects claim one block
    have claim : ∀ o' b, cl { W with blk := up W.blk d w.heap.size, val := up W.val d u, S := up W.S w.heap.size σ } o' ((s.ap (some d) v (.new d x)).ob o') b → (o' = d ∧ w.heap.size ≤ b) ∨ (o' ≠ d ∧ cl W o' (s.ob o') b ∧ b < w.heap.size) := fun o' b h => by
      have h' : cl { W with blk := up W.blk d w.heap.size, val := up W.val d u, S := up W.S w.heap.size σ } o' (up s.ob d x o') b := h
      rw [up_at] at h'
      by_cases hod : o' = d
      · rw [if_pos hod] at h'
        subst hod
        exact .inl ⟨rfl, hc b h'⟩
      · rw [if_neg hod] at h'
        have : cl W o' (s.ob o') b := by
          generalize s.ob o' = y at h' ⊢
          cases y with
          | no => exact h'
          | cells cs => have h2 : up W.blk d w.heap.size o' = b := h'; rw [up_at, if_neg hod] at h2; exact h2
          | row E sz m => have h2 : (up W.val d u o').ownBlock = some b := h'; rw [up_at, if_neg hod] at h2; exact h2
          | ab H => exact h'
        exact .inr ⟨hod, this, (cl_lt hs this).2⟩
    rcases claim o1 b h1 with ⟨rfl, hb1⟩ | ⟨hn1, hc1, hb1⟩ <;> rcases claim o2 b h2 with ⟨rfl, hb2⟩ | ⟨hn2, hc2, hb2⟩
    · rfl
    · omega
    · omega
    · exact hs.ex _ _ _ hc1 hc2

/-- a block of cells is made -/
theorem Sim.newCells {w0 : World} {S0 : Nat → Nat} {W : Wit} {s : St} {a : Act} {w : World} (hs : Sim w0 S0 n W s a w) {d : Nat} (hd : d < n) {cs : List Cl} {arr : Array Value} (T : TypeId) (hr : RCs W s.gen s.ob w cs arr.toList) :
    ∃ W', Sim w0 S0 n W' (s.ap (some d) (.b (.one (.ptr d (s.gen d + 1) 0))) (.new d (.cells cs))) (a.put (some d) (.pointer (some ⟨w.heap.size, 0, none⟩))) (w.alloc (.cells arr T)) := by
  refine ⟨_, hs.new hd (W.val d) 0 ⟨fun b hb => heapOld w _ b hb, by simp, rfl, rfl, rfl⟩ ?_ ?_ ?_⟩
  · refine ⟨rfl, by rw [up_at, if_pos rfl]; exact Nat.le_refl _, fun _ => ?_⟩
    show _ = Value.pointer (some ⟨up W.blk d w.heap.size d, 0, none⟩)
    rw [up_at, if_pos rfl]
  · refine ⟨arr, T, ?_, ?_, ?_, ?_⟩
    · show (w.alloc _).heap[up W.blk d w.heap.size d]? = _
      rw [up_at, if_pos rfl]
      exact heap_alloc_new w _
    · show _ ≤ up W.blk d w.heap.size d
      rw [up_at, if_pos rfl]
      exact hs.below.size
    · show up W.S w.heap.size 0 (up W.blk d w.heap.size d) = 0
      rw [up_at, up_at, if_pos rfl, if_pos rfl]
    · refine RCs.fol ?_ hr
      refine ⟨fun b i h1 h2 => ?_, fun o' => ?_, fun o' h => ?_, fun o' E sz n' h h2 => ?_, fun _ _ => rfl⟩
      · have hlt : b < w.heap.size := by
          cases hcell : w.cell? ⟨b, i, none⟩ with
          | none => rw [hcell] at h2; cases h2
          | some y =>
            rcases Nat.lt_or_ge b w.heap.size with h | h
            · exact h
            · simp [World.cell?, Array.getElem?_eq_none h] at hcell
        refine ⟨?_, by simp [World.cell?, heapOld w _ b hlt]⟩
        show i < up W.S w.heap.size 0 b
        rw [up_at, if_neg (by omega)]
        exact h1
      · rw [up_at]; split <;> (try omega)
        rename_i h; rw [h]; omega
      · have : o' ≠ d := by rintro rfl; rw [up_at, if_pos rfl] at h; omega
        show up W.blk d w.heap.size o' = _
        rw [up_at, if_neg this]
      · have : o' ≠ d := by rintro rfl; rw [up_at, if_pos rfl] at h; omega
        rw [up_at, if_neg this] at h2
        refine ⟨n', h2, Nat.le_refl _, fun _ => ?_⟩
        show up W.val d (W.val d) o' = _
        rw [up_at, if_neg this]
  · intro b hb
    have h2 : up W.blk d w.heap.size d = b := hb
    rw [up_at, if_pos rfl] at h2
    omega

/-- a block of cells is made, and handed back as a slice -/
theorem Sim.newSv {w0 : World} {S0 : Nat → Nat} {W : Wit} {s : St} {a : Act} {w : World} (hs : Sim w0 S0 n W s a w) {d : Nat} (hd : d < n) {cs : List Cl} {arr : Array Value} (T : TypeId) (hr : RCs W s.gen s.ob w cs arr.toList) {ln szx : Nat} (hln : ln ≤ maxLen) :
    ∃ W', Sim w0 S0 n W' (s.ap (some d) (.b (.one (.sv d (s.gen d + 1) 0 ln ln szx))) (.new d (.cells cs))) (a.put (some d) (.slice (some ⟨w.heap.size, 0, none⟩) ln ln)) (w.alloc (.cells arr T)) := by
  refine ⟨_, hs.new hd (W.val d) 0 ⟨fun b hb => heapOld w _ b hb, by simp, rfl, rfl, rfl⟩ ?_ ?_ ?_⟩
  · refine ⟨w.heap.size, rfl, Nat.le_refl _, hln, by rw [up_at, if_pos rfl]; exact Nat.le_refl _, fun _ => ?_⟩
    show _ = up W.blk d w.heap.size d
    rw [up_at, if_pos rfl]
  · refine ⟨arr, T, ?_, ?_, ?_, ?_⟩
    · show (w.alloc _).heap[up W.blk d w.heap.size d]? = _
      rw [up_at, if_pos rfl]
      exact heap_alloc_new w _
    · show _ ≤ up W.blk d w.heap.size d
      rw [up_at, if_pos rfl]
      exact hs.below.size
    · show up W.S w.heap.size 0 (up W.blk d w.heap.size d) = 0
      rw [up_at, up_at, if_pos rfl, if_pos rfl]
    · refine RCs.fol ?_ hr
      refine ⟨fun b i h1 h2 => ?_, fun o' => ?_, fun o' h => ?_, fun o' E sz n' h h2 => ?_, fun _ _ => rfl⟩
      · have hlt : b < w.heap.size := by
          cases hcell : w.cell? ⟨b, i, none⟩ with
          | none => rw [hcell] at h2; cases h2
          | some y =>
            rcases Nat.lt_or_ge b w.heap.size with h | h
            · exact h
            · simp [World.cell?, Array.getElem?_eq_none h] at hcell
        refine ⟨?_, by simp [World.cell?, heapOld w _ b hlt]⟩
        show i < up W.S w.heap.size 0 b
        rw [up_at, if_neg (by omega)]
        exact h1
      · rw [up_at]; split <;> (try omega)
        rename_i h; rw [h]; omega
      · have : o' ≠ d := by rintro rfl; rw [up_at, if_pos rfl] at h; omega
        show up W.blk d w.heap.size o' = _
        rw [up_at, if_neg this]
      · have : o' ≠ d := by rintro rfl; rw [up_at, if_pos rfl] at h; omega
        rw [up_at, if_neg this] at h2
        refine ⟨n', h2, Nat.le_refl _, fun _ => ?_⟩
        show up W.val d (W.val d) o' = _
        rw [up_at, if_neg this]
  · intro b hb
    have h2 : up W.blk d w.heap.size d = b := hb
    rw [up_at, if_pos rfl] at h2
    omega

theorem good_mk {d : Nat} (ho : o.dst = some d) (hd : d < n) {t E : TypeId} {i : TypeInfo} {z : Value} {lo co : Operand} {l c : PX} (hop : o.op = .makeSlice t lo co) (ht : P.underlying t = some (.slice E)) (hi : P.info? E = some i) (hz : i.zero = some z) (hzs : z.cells.size = i.size) (hone : ∀ v ∈ z.cells.toList, v.oneCell' = true)
    (hl : cX lo = some l) (hc : cX co = some c) : Good P n o (.mk i.size i.bytes z.cells.toList l c) := by
  intro w0 S0 W s a w v ch hs hf
  simp only [PO.fn, ho, Option.getD_some] at hf
  split at hf
  · rename_i lv cv h1 h2
    split at hf
    · rename_i hcond
      obtain ⟨h0, rfl, hbd, hby⟩ := hcond
      cases hf
      obtain ⟨kl, e1⟩ := int_ev hs hl h1
      obtain ⟨kc, e2⟩ := int_ev hs hc h2
      have hbytes : (i.bytes : Int) * lv ≤ 281474976710656 := by
        have h3 : i.bytes * lv.toNat ≤ 1000000 * 1000000 := Nat.mul_le_mul hby (by omega)
        have h4 : (i.bytes : Int) * lv = ((i.bytes * lv.toNat : Nat) : Int) := by rw [Int.natCast_mul, Int.toNat_of_nonneg h0]
        omega
      have hr := run_make (P := P) w t E i z ht hi hz kl kc lv lv h0 (Int.le_refl _) hbytes (by omega)
      obtain ⟨W', h⟩ := hs.newSv hd (cs := (List.range (lv.toNat * i.size)).map fun k => .d (.sc (z.cells.toList.getD (k % i.size) undef))) (arr := madeCells z.cells (lv.toNat * i.size)) E ⟨by simp [size_madeCells], fun k c u h3 h4 => by
        have hk := (List.getElem?_eq_some_iff.1 h3).1
        rw [List.length_map, List.length_range] at hk
        have hpos : 0 < i.size := by
          rcases Nat.eq_zero_or_pos i.size with h | h
          · rw [h, Nat.mul_zero] at hk; omega
          · exact h
        have hmod : k % i.size < z.cells.size := by rw [hzs]; exact Nat.mod_lt _ hpos
        rw [List.getElem?_map, List.getElem?_range hk] at h3
        simp only [Option.map_some, Option.some.injEq] at h3
        subst h3
        simp only [madeCells, Array.toList_map, List.getElem?_map, Array.toList_range, List.getElem?_range hk, Option.map_some, Option.some.injEq] at h4
        subst h4
        have he : z.cells.toList.getD (k % i.size) undef = z.cells[k % z.cells.size]! := by
          rw [hzs, List.getD_eq_getElem?_getD, Array.getElem?_toList, getElem!_pos z.cells _ (by rw [← hzs] at hmod ⊢; exact hmod), Array.getElem?_eq_getElem hmod]; rfl
        rw [he]
        refine RD.sc _ (hone _ ?_)
        rw [hzs, getElem!_pos z.cells _ hmod]
        exact Array.getElem_mem_toList hmod⟩ (ln := lv.toNat) (szx := i.size) (by unfold maxLen; omega)
      rw [ho]
      exact ⟨W', _, _, .inl (by simp only [execOp, hop, e1, e2, Sem.run_bind, hr, Result.andThen_ok, Sem.run_pure]), h⟩
    · cases hf
  · cases hf

theorem good_box {d : Nat} (ho : o.dst = some d) (hd : d < n) {t : TypeId} {xo : Operand} {x : PX} (hop : o.op = .box t xo) (hx : cX xo = some x) : Good P n o (.box x) := by
  intro w0 S0 W s a w v ch hs hf
  simp only [PO.fn, Option.map_eq_some_iff, Prod.mk.injEq, ho, Option.getD_some] at hf
  obtain ⟨cs, hc, rfl, rfl⟩ := hf
  have hr := cs_ev hs hx hc
  obtain ⟨W', h⟩ := hs.newCells hd t hr
  rw [ho]
  exact ⟨W', _, _, .inl (by simp [execOp, hop, Instr.box, newVar, newRow]), h⟩

theorem good_new {d : Nat} (ho : o.dst = some d) (hd : d < n) {t : TypeId} {i : TypeInfo} {z : Value} (hop : o.op = .alloc t) (hi : P.info? t = some i) (hz : i.zero = some z) (hone : ∀ v ∈ z.cells.toList, v.oneCell' = true) : Good P n o (.new z.cells.toList) := by
  intro w0 S0 W s a w v ch hs hf
  simp only [PO.fn, Option.some.injEq, Prod.mk.injEq, ho, Option.getD_some] at hf
  obtain ⟨rfl, rfl⟩ := hf
  obtain ⟨W', h⟩ := hs.newCells hd (cs := z.cells.toList.map fun v => .d (.sc v)) (arr := z.cells) t ⟨by simp, fun i c u h1 h2 => by
    simp only [List.getElem?_map, h2, Option.map_some, Option.some.injEq] at h1
    subst h1
    exact RD.sc _ (hone u (List.mem_of_getElem? h2))⟩
  rw [ho]
  exact ⟨W', _, _, .inl (by simp [execOp, hop, Instr.alloc, zeroValue, typeInfo, hi, hz, newVar, newRow]), h⟩

theorem good_nilRow {d : Nat} (ho : o.dst = some d) (hd : d < n) {E sz : Nat} (hop : o.op = .assign (.const (.slice none 0 0))) : Good P n o (.nilRow E sz) := by
  intro w0 S0 W s a w v ch hs hf
  simp only [PO.fn, Option.some.injEq, Prod.mk.injEq, ho, Option.getD_some] at hf
  obtain ⟨rfl, rfl⟩ := hf
  rw [ho]
  refine ⟨_, .slice none 0 0, w, .inl (by simp [execOp, hop, Act.eval]), hs.new hd (.slice none 0 0) (W.S w.heap.size) ⟨fun _ _ => rfl, Nat.le_refl _, rfl, rfl, rfl⟩ ?_ ?_ ?_⟩
  · refine ⟨.emp none 0 (by unfold maxLen; omega), by rw [up_at, if_pos rfl]; exact Nat.le_refl _, fun _ E' sz' n' h => ?_⟩
    rw [up_at, if_pos rfl] at h
    cases h
    refine ⟨fun r hr => (by cases hr), by simp, fun _ => ?_⟩
    show _ = up W.val d (.slice none 0 0) d
    rw [up_at, if_pos rfl]
  · refine ⟨[], ?_, ?_⟩
    · show w.ownsRow _ _ _ (up W.val d (.slice none 0 0) d) _ _
      rw [up_at, if_pos rfl]
      exact World.ownsRow_nil _ _ _ _
    · intro g hg
      have h2 : (up W.val d (.slice none 0 0) d).ownBlock = some g := hg
      rw [up_at, if_pos rfl] at h2
      cases h2
  · intro b hb
    have h2 : (up W.val d (.slice none 0 0) d).ownBlock = some b := hb
    rw [up_at, if_pos rfl] at h2
    cases h2
end
end Go.Proofs.Ytkdagjlkejefnaa
end
section
set_option linter.unusedSimpArgs false
set_option linter.unusedVariables false
namespace Go.Proofs.Ytkdagjlkejefnaa
open Go Go.RowKit

section
variable {n : Nat} {P : Program} {o : Oper}

theorem splice_get {α : Type} (l : List α) (off : Nat) (m : List α) (h : off + m.length ≤ l.length) (j : Nat) :
    (l.take off ++ m ++ l.drop (off + m.length))[j]? = if off ≤ j ∧ j < off + m.length then m[j - off]? else l[j]? := by
  have h1 : (l.take off).length = off := by simp; omega
  by_cases c1 : j < off
  · rw [if_neg (by omega), List.append_assoc, List.getElem?_append_left (by omega), List.getElem?_take, if_pos c1]
  · by_cases c2 : j < off + m.length
    · rw [if_pos (by omega), List.append_assoc, List.getElem?_append_right (by omega), h1, List.getElem?_append_left (by omega)]
    · rw [if_neg (by omega), List.getElem?_append_right (by simp; omega), List.getElem?_drop]
      simp only [List.length_append, h1]
      congr 1
      omega
theorem splice_length {α : Type} (l : List α) (off : Nat) (m : List α) (h : off + m.length ≤ l.length) : (l.take off ++ m ++ l.drop (off + m.length)).length = l.length := by
  simp; omega
theorem RCs.splice {W : Wit} {G : Nat → Nat} {O : Nat → Ob} {w : World} {cs ds : List Cl} {vs us : List Value} {off : Nat} (h1 : RCs W G O w cs vs) (h2 : RCs W G O w ds us) (hl : off + us.length ≤ vs.length) :
    RCs W G O w (splice cs off ds) (vs.take off ++ us ++ vs.drop (off + us.length)) := by
  have hl2 : off + ds.length ≤ cs.length := by rw [h1.1, h2.1]; exact hl
  refine ⟨?_, fun i c u e1 e2 => ?_⟩
  · show (cs.take off ++ ds ++ cs.drop (off + ds.length)).length = _
    rw [splice_length _ _ _ hl2, splice_length _ _ _ hl, h1.1]
  · have e1' : (cs.take off ++ ds ++ cs.drop (off + ds.length))[i]? = some c := e1
    rw [splice_get _ _ _ hl2] at e1'
    rw [splice_get _ _ _ hl] at e2
    rw [h2.1] at e1'
    split at e1'
    · rename_i hc
      rw [if_pos hc] at e2
      exact h2.2 _ _ _ e1' e2
    · rename_i hc
      rw [if_neg hc] at e2
      exact h1.2 _ _ _ e1' e2

theorem wrAt_splice : ∀ (cs : List Cl) (off : Nat) (ds : List Cl), off + ds.length ≤ cs.length → wrAt cs off ds = splice cs off ds
  | [], off, ds, h => by
    have h1 : ds = [] := by simp at h; exact h.2
    subst h1; simp [wrAt, Go.Proofs.Ytkdagjlkejefnaa.splice]
  | c :: cs, 0, [], _ => by simp [wrAt, Go.Proofs.Ytkdagjlkejefnaa.splice]
  | c :: cs, 0, d :: ds, h => by
    have := wrAt_splice cs 0 ds (by simp at h ⊢; omega)
    simp only [wrAt, this]
    simp [Go.Proofs.Ytkdagjlkejefnaa.splice]
  | c :: cs, k + 1, ds, h => by
    have := wrAt_splice cs k ds (by simp at h ⊢; omega)
    simp only [wrAt, this]
    simp [Go.Proofs.Ytkdagjlkejefnaa.splice, Nat.succ_add]

theorem good_store (hd : o.dst = none) {t : TypeId} {i : TypeInfo} {ao xo : Operand} {x y : PX} (hop : o.op = .store t ao xo) (hi : P.info? t = some i) (hx : cX ao = some x) (hy : cX xo = some y) : Good P n o (.store i.size x y) := by
  intro w0 S0 W s a w v ch hs hf
  simp only [PO.fn] at hf
  split at hf
  · rename_i o' g off nw heq hnw
    split at hf
    · rename_i hg
      split at hf
      · rename_i cs hob
        split at hf
        · rename_i hle
          cases hf
          obtain ⟨h1, h2, h3⟩ := cl_ev hs hx heq (by simp)
          have hp := h3 hg.1.symm
          have hvs := cs_ev hs hy hnw
          have hro := hs.ob o'
          rw [hob] at hro
          obtain ⟨arr, T, h4, h5, h6, h7⟩ := hro
          obtain ⟨vals, hvals⟩ : ∃ l, (a.eval xo).cells.toList = l := ⟨_, rfl⟩
          rw [hvals] at hvs
          have hlv : vals.length = i.size := by rw [← hvs.1]; exact hg.2
          have hla : off + vals.length ≤ arr.size := by
            have := h7.1; simp at this; omega
          have hst := run_storeCells_at P (W.blk o') off T vals 0 arr w h4 (by omega) hvs.one
          simp only [Nat.add_zero] at hst
          have hcz : (a.eval xo).cells.size = i.size := by rw [← hlv, ← hvals]; simp
          rw [hd]
          obtain ⟨arr', harr'⟩ : ∃ arr', (arr.toList.take off ++ vals ++ arr.toList.drop (off + vals.length)).toArray = arr' := ⟨_, rfl⟩
          rw [harr'] at hst
          have hal : arr'.toList = arr.toList.take off ++ vals ++ arr.toList.drop (off + vals.length) := by rw [← harr']
          have hrow : (w.setRow (W.blk o') arr').heap[W.blk o']? = some (.cells arr' T (0, 0)) := setRow_heap w _ arr _ T (0, 0) h4
          have hoth : ∀ k, k ≠ W.blk o' → (w.setRow (W.blk o') arr').heap[k]? = w.heap[k]? := fun k hk => setRow_other w _ k _ hk
          have hfol : Fol W s.gen s.ob w W s.gen (up s.ob o' (.cells (splice cs off nw))) (w.setRow (W.blk o') arr') := by
            refine ⟨fun b k hk _ => ⟨hk, ?_⟩, fun _ => Nat.le_refl _, fun _ _ => rfl, fun o2 E sz n' _ ho2 => ?_, fun _ _ => rfl⟩
            · have hne : b ≠ W.blk o' := by rintro rfl; rw [h6] at hk; omega
              simp [World.cell?, hoth b hne]
            · rw [up_at] at ho2
              split at ho2
              · cases ho2
              · exact ⟨n', ho2, Nat.le_refl _, fun _ => rfl⟩
          refine ⟨W, undef, w.setRow (W.blk o') arr', .inr ⟨?_, rfl⟩, ?_⟩
          · simp [execOp, hop, Instr.storeAt, hp, Instr.sureAddr, storeVar, sizeOf, typeInfo, hi, hcz, hvals, hst]
          · have hap : (s.ap none .un (.wr o' off nw)).ob = up s.ob o' (.cells (splice cs off nw)) := by
              show up s.ob o' _ = _
              rw [hob, ← wrAt_splice cs off nw (by omega)]
            refine hs.step (fun _ h => by cases h) (by rw [hap]; exact hfol) ⟨rfl, rfl, rfl, by simp, fun k hk => hoth k (by omega)⟩ (fun _ _ => rfl) trivial (fun o2 => ?_) (fun o1 o2 b c1 c2 => ?_)
            · rw [hap]
              by_cases h : o2 = o'
              · subst h
                rw [up_at, if_pos rfl]
                refine ⟨arr', T, hrow, h5, h6, ?_⟩
                rw [hal]
                exact (RCs.fol hfol h7).splice (RCs.fol hfol hvs) (by simpa using hla)
              · rw [up_at, if_neg h]
                refine RO.fol hfol (hs.ob o2) rfl rfl rfl (fun b hb => ⟨hoth b ?_, rfl⟩)
                rintro rfl
                exact h (hs.ex _ _ _ hb (by rw [hob]; rfl))
            · have claim : ∀ o3 b, cl W o3 ((s.ap none .un (.wr o' off nw)).ob o3) b → cl W o3 (s.ob o3) b := fun o3 b hb => by
                rw [hap, up_at] at hb
                split at hb
                · rename_i h; subst h; rw [hob]; exact hb
                · exact hb
              exact hs.ex _ _ _ (claim _ _ c1) (claim _ _ c2)
        · cases hf
      · cases hf
    · cases hf
  · cases hf

/-! ### literals -/
theorem foldl_set : ∀ (vs : List Value) (k off : Nat) (cells : Array Value), off + k + vs.length ≤ cells.size →
    (((vs.zipIdx k).foldl (fun cs p => cs.setIfInBounds (off + p.2) p.1) cells).toList = cells.toList.take (off + k) ++ vs ++ cells.toList.drop (off + k + vs.length))
  | [], k, off, cells, _ => by simp
  | v :: vs, k, off, cells, h => by
    simp only [List.zipIdx_cons, List.foldl_cons]
    rw [foldl_set vs (k + 1) off _ (by simp at h ⊢; omega)]
    apply List.ext_getElem?
    intro j
    have h1 : off + (k + 1) + vs.length ≤ (cells.setIfInBounds (off + k) v).toList.length := by simp at h ⊢; omega
    have h2 : off + k + (v :: vs).length ≤ cells.toList.length := by simp at h ⊢; omega
    rw [splice_get _ _ _ h1, splice_get _ _ _ h2]
    simp only [List.length_cons, Array.toList_setIfInBounds] at *
    by_cases c1 : off + (k + 1) ≤ j ∧ j < off + (k + 1) + vs.length
    · rw [if_pos c1, if_pos (by omega), show j - (off + k) = (j - (off + (k + 1))) + 1 by omega, List.getElem?_cons_succ]
    · rw [if_neg c1]
      by_cases c2 : j = off + k
      · subst c2
        rw [if_pos (by omega)]
        simp only [Nat.sub_self, List.getElem?_cons_zero]
        rw [List.getElem?_set_self (by simp; omega)]
      · rw [if_neg (by omega), List.getElem?_set_ne (by omega)]

/-- the places of a literal's parts -/
def placeOk (place : Nat → Option (Nat × Nat)) : List (Nat × Operand) → List (Nat × Nat × PX) → Bool
  | [], [] => true
  | (i, xo) :: r, (off, k, x) :: r' => (match place i, cX xo with
      | some (o', k'), some (.t t) => (match x with | .t t' => o' == off && k' == k && t == t' | _ => false)
      | some (o', k'), some (.v v) => (match x, xo with | .v _, .const _ => false | _, _ => false)
      | _, _ => false) && placeOk place r r'
  | _, _ => false

theorem fill_ok {w0 : World} {S0 : Nat → Nat} {W : Wit} {s : St} {a : Act} {w : World} (hs : Sim w0 S0 n W s a w) {place : Nat → Option (Nat × Nat)} :
    ∀ (ps : List (Nat × Operand)) (qs : List (Nat × Nat × PX)) (rs : List (Nat × List Cl)) (cs cs' : List Cl) (cells : Array Value),
      ps.length = qs.length → (∀ (j : Nat) i xo off k x, ps[j]? = some (i, xo) → qs[j]? = some (off, k, x) → place i = some (off, k) ∧ cX xo = some x) →
      s.parts qs = some rs → fillAll cs rs = some cs' → RCs W s.gen s.ob w cs cells.toList →
      ∃ cells', Instr.fill place cells (ps.map fun p => (p.1, a.eval p.2)) = some cells' ∧ RCs W s.gen s.ob w cs' cells'.toList
  | [], [], rs, cs, cs', cells, _, _, hp, hfl, hr => by
    simp [St.parts] at hp; subst hp
    simp [fillAll] at hfl; subst hfl
    exact ⟨cells, rfl, hr⟩
  | [], _ :: _, _, _, _, _, hl, _, _, _, _ => by simp at hl
  | _ :: _, [], _, _, _, _, hl, _, _, _, _ => by simp at hl
  | (i, xo) :: ps, (off, k, x) :: qs, rs, cs, cs', cells, hl, hpl, hp, hfl, hr => by
    obtain ⟨h1, h2⟩ := hpl 0 i xo off k x rfl rfl
    simp only [St.parts] at hp
    split at hp
    · rename_i c hc
      split at hp
      · rename_i hck
        simp only [Option.map_eq_some_iff] at hp
        obtain ⟨rs', hrs, rfl⟩ := hp
        simp only [fillAll] at hfl
        split at hfl
        · rename_i hle
          have hvc := cs_ev hs h2 hc
          have hsz : (a.eval xo).cells.size = k := by rw [← hck, hvc.1]; simp
          have hle2 : off + (a.eval xo).cells.toList.length ≤ cells.toList.length := by
            have := hr.1; have := hvc.1; omega
          have hnew := hr.splice hvc (off := off) hle2
          have hset := foldl_set (a.eval xo).cells.toList 0 off cells (by simpa using hle2)
          simp only [Nat.add_zero] at hset
          have hz : ((a.eval xo).cells.zipIdx.foldl (fun cs (c, j) => cs.setIfInBounds (off + j) c) cells).toList = cells.toList.take off ++ (a.eval xo).cells.toList ++ cells.toList.drop (off + (a.eval xo).cells.toList.length) := by
            rw [← hset, ← Array.foldl_toList, Array.toList_zipIdx]
          rw [← hz] at hnew
          obtain ⟨cells', h3, h4⟩ := fill_ok hs ps qs rs' (splice cs off c) cs' _ (by simpa using hl) (fun j => hpl (j + 1)) hrs hfl hnew
          refine ⟨cells', ?_, h4⟩
          simp only [List.map_cons, Instr.fill, h1]
          rw [if_neg]
          · exact h3
          · simp at hle2
            simp [hsz]
            omega
        · cases hfl
      · cases hp
    · cases hp
end
end Go.Proofs.Ytkdagjlkejefnaa
end
section
set_option linter.unusedSimpArgs false
set_option linter.unusedVariables false
namespace Go.Proofs.Ytkdagjlkejefnaa
open Go Go.RowKit

section
variable {n : Nat} {P : Program} {o : Oper}

theorem RC.dt {W : Wit} {G : Nat → Nat} {O : Nat → Ob} {w : World} {c : Cl} {x : Dt} {v : Value} (h : RC W G O w c v) (hd : c.dt = some x) : RD W.S w x v := by
  unfold Cl.dt at hd
  split at hd
  · cases hd
    obtain ⟨rfl, _⟩ := RD.sc_inv (show RD W.S w _ v from h)
    exact .emp none 0 (by unfold maxLen; omega)
  · cases hd; exact h
  · cases hd; exact h.1
  · cases hd; exact h.1
  · cases hd

theorem allSome_get {α : Type} : ∀ (l : List (Option α)) (xs : List α), allSome l = some xs → l = xs.map some
  | [], xs, h => by simp [allSome] at h; subst h; rfl
  | none :: _, xs, h => by simp [allSome] at h
  | some x :: l, xs, h => by
    simp only [allSome, Option.map_eq_some_iff] at h
    obtain ⟨ys, hy, rfl⟩ := h
    rw [allSome_get l ys hy]; rfl

/-- rows in the midst of a block -/
theorem RD.block {S : Nat → Nat} {w : World} {rows : List (List Dt)} {b o cap sz : Nat} {vs : List Value} (hsz : ∀ r, r ∈ rows → r.length = sz) (hl : vs.length = rows.length * sz)
    (hc : ∀ j u, vs[j]? = some u → w.cell? ⟨b, o + j, none⟩ = some u ∧ o + j < S b) (hcap : rows.length ≤ cap) (hm : cap ≤ maxLen)
    (hd : ∀ i r j x, rows[i]? = some r → r[j]? = some x → ∃ u, vs[i * sz + j]? = some u ∧ RD S w x u) : RD S w (.im rows) (.slice (some ⟨b, o, none⟩) rows.length cap) := by
  refine .im rows sz b o cap (fun i j => vs.getD (i * sz + j) undef) hcap hm hsz (fun i j hi hj => ?_) (fun i r j x hr hx => ?_)
  · have hlt : i * sz + j < vs.length := by
      rw [hl]
      calc i * sz + j < i * sz + sz := by omega
        _ = (i + 1) * sz := by rw [Nat.add_mul, Nat.one_mul]
        _ ≤ rows.length * sz := Nat.mul_le_mul_right _ hi
    have h1 := List.getElem?_eq_getElem hlt
    obtain ⟨h2, h3⟩ := hc _ _ h1
    refine ⟨?_, h3⟩
    rw [h2, List.getD_eq_getElem?_getD, h1]
    rfl
  · obtain ⟨u, h1, h2⟩ := hd i r j x hr hx
    rw [List.getD_eq_getElem?_getD, h1]
    exact h2

/-- .. and back: the cells of a slice that is read -/
theorem RD.flat {S : Nat → Nat} {w : World} {rows : List (List Dt)} {v : Value} (h : RD S w (.im rows) v) {sz : Nat} (hsz : ∀ r, r ∈ rows → r.length = sz) :
    ∃ (A : Option Addr) (cap : Nat) (vs : List Value), v = .slice A rows.length cap ∧ rows.length ≤ cap ∧ cap ≤ maxLen ∧ vs.length = rows.length * sz ∧ (∀ u ∈ vs, u.oneCell' = true) ∧
      (∀ i r j x, rows[i]? = some r → r[j]? = some x → ∃ u, vs[i * sz + j]? = some u ∧ RD S w x u) ∧
      (rows = [] ∨ ∃ b o, A = some ⟨b, o, none⟩ ∧ ∀ j u, vs[j]? = some u → w.cell? ⟨b, o + j, none⟩ = some u ∧ o + j < S b) := by
  cases h with
  | emp A c h => exact ⟨A, c, [], rfl, by simp, h, by simp, fun u hu => (by cases hu), fun i r j x hr => (by simp at hr), .inl rfl⟩
  | im _ sz' b o cap f hc hm hsz' hcell hd =>
    by_cases hz : rows = []
    · subst hz
      exact ⟨_, cap, [], rfl, by simp, hm, by simp, fun u hu => (by cases hu), fun i r j x hr => (by simp at hr), .inl rfl⟩
    have hss : sz' = sz := by
      cases rows with
      | nil => exact absurd rfl hz
      | cons r rs => rw [← hsz r (by simp), hsz' r (by simp)]
    subst hss
    have hget : ∀ i j, i < rows.length → j < sz' → ((List.range (rows.length * sz')).map fun k => f (k / sz') (k % sz'))[i * sz' + j]? = some (f i j) := fun i j hi hj => by
      have hlt : i * sz' + j < rows.length * sz' := by
        calc i * sz' + j < i * sz' + sz' := by omega
          _ = (i + 1) * sz' := by rw [Nat.add_mul, Nat.one_mul]
          _ ≤ rows.length * sz' := Nat.mul_le_mul_right _ hi
      rw [List.getElem?_map, List.getElem?_range hlt]
      simp only [Option.map_some, Option.some.injEq]
      rw [Nat.mul_comm i sz', Nat.mul_add_div (by omega), Nat.div_eq_of_lt hj, Nat.mul_add_mod, Nat.mod_eq_of_lt hj, Nat.add_zero]
    refine ⟨_, cap, (List.range (rows.length * sz')).map fun k => f (k / sz') (k % sz'), rfl, hc, hm, by simp, fun u hu => ?_, fun i r j x hr hx => ?_, .inr ⟨b, o, rfl, fun j u hj => ?_⟩⟩
    · simp only [List.mem_map, List.mem_range] at hu
      obtain ⟨k, hk, rfl⟩ := hu
      have hp : 0 < sz' := by
        rcases Nat.eq_zero_or_pos sz' with h | h
        · subst h; simp at hk
        · exact h
      have h1 : k / sz' < rows.length := Nat.div_lt_of_lt_mul (by rw [Nat.mul_comm]; exact hk)
      have h2 := Nat.mod_lt k hp
      have h3 : rows[k / sz']? = some rows[k / sz'] := List.getElem?_eq_getElem h1
      have h4 : (rows[k / sz']).length = sz' := hsz' _ (List.getElem_mem h1)
      exact (hd _ _ _ _ h3 (List.getElem?_eq_getElem (by rw [h4]; exact h2))).one
    · have hil := (List.getElem?_eq_some_iff.1 hr).1
      have hjl := (List.getElem?_eq_some_iff.1 hx).1
      rw [hsz' r (List.mem_of_getElem? hr)] at hjl
      exact ⟨_, hget i j hil hjl, hd i r j x hr hx⟩
    · have hj1 := (List.getElem?_eq_some_iff.1 hj).1
      simp at hj1
      have hp : 0 < sz' := by
        rcases Nat.eq_zero_or_pos sz' with h | h
        · subst h; simp at hj1
        · exact h
      have h1 : j / sz' < rows.length := Nat.div_lt_of_lt_mul (by rw [Nat.mul_comm]; exact hj1)
      have h2 := Nat.mod_lt j hp
      have h3 : j / sz' * sz' + j % sz' = j := by rw [Nat.mul_comm]; exact Nat.div_add_mod j sz'
      have h4 := hget (j / sz') (j % sz') h1 h2
      rw [h3] at h4
      rw [h4] at hj
      cases hj
      have := hcell (j / sz') (j % sz') h1 h2
      rw [h3] at this
      exact this

theorem good_build (hd : ∀ d, o.dst = some d → d < n) {t : TypeId} {ps : Array (Nat × Operand)} {qs : List (Nat × Nat × PX)} {z : Array Value} {place : Nat → Option (Nat × Nat)} (hop : o.op = .build t ps)
    (hb : ∀ vals, P.built t vals = Instr.fill place z vals) (hz : ∀ v ∈ z.toList, v.oneCell' = true)
    (hl : ps.toList.length = qs.length) (hpl : ∀ (j : Nat) i xo off k x, ps.toList[j]? = some (i, xo) → qs[j]? = some (off, k, x) → place i = some (off, k) ∧ cX xo = some x) : Good P n o (.build z.toList qs) :=
  .of_pure hd fun w0 S0 W s a w v ch hs hf => by
    simp only [PO.fn, Option.bind_eq_some_iff, Option.map_eq_some_iff, Prod.mk.injEq] at hf
    obtain ⟨rs, hrs, cs, hcs, rfl, rfl⟩ := hf
    have hz0 : RCs W s.gen s.ob w (z.toList.map fun v => Cl.d (.sc v)) z.toList := ⟨by simp, fun i c u h1 h2 => by
      simp only [List.getElem?_map, h2, Option.map_some, Option.some.injEq] at h1
      subst h1
      exact RD.sc _ (hz u (List.mem_of_getElem? h2))⟩
    obtain ⟨cells, h1, h2⟩ := fill_ok hs ps.toList qs rs _ cs z hl hpl hrs hcs hz0
    refine ⟨rfl, .agg cells, ?_, cells, rfl, h2⟩
    have h3 := run_build (P := P) w t (ps.map fun (i, x) => (i, a.eval x)) cells (by rw [hb, Array.toList_map]; exact h1)
    simp only [execOp, hop, Sem.run_bind, h3, Result.andThen_ok, Sem.run_pure]

/-- a part of the rows of a slice -/
theorem RD.sub {S : Nat → Nat} {w : World} {rows : List (List Dt)} {A : Option Addr} {cap sz : Nat} (hrd : RD S w (.im rows) (.slice A rows.length cap)) (hall : ∀ r, r ∈ rows → r.length = sz) {l h c : Nat} (hlh : l ≤ h) (hh : h ≤ rows.length) (hc : h ≤ c) (hcm : c ≤ maxLen)
    {B : Option Addr} (hB : h = l ∨ B = A.map (·.add (l * sz))) : RD S w (.im ((rows.take h).drop l)) (.slice B (h - l) (c - l)) := by
  obtain ⟨A', cap', vs, e0, e1, e2, e3, e4, e5, e6⟩ := hrd.flat hall
  simp only [Value.slice.injEq] at e0
  obtain ⟨rfl, _, rfl⟩ := e0
  have hlen : ((rows.take h).drop l).length = h - l := by simp; omega
  by_cases hz : h = l
  · have : (rows.take h).drop l = [] := List.eq_nil_of_length_eq_zero (by rw [hlen]; omega)
    rw [this, hz, Nat.sub_self]
    exact .emp B _ (by omega)
  · have hB2 : B = A.map (·.add (l * sz)) := by
      rcases hB with hB | hB
      · omega
      · exact hB
    rcases e6 with e6 | ⟨b, o', rfl, e7⟩
    · subst e6; simp at hh; omega
    rw [hB2, ← hlen]
    simp only [Option.map_some, addr_add]
    refine RD.block (vs := (vs.take (h * sz)).drop (l * sz)) (sz := sz) (fun r hr => hall r (List.mem_of_mem_take (List.mem_of_mem_drop hr))) ?_ (fun j u hj => ?_) (by rw [hlen]; omega) (by omega) (fun i r j x' hr hx' => ?_)
    · have hm : h * sz ≤ rows.length * sz := Nat.mul_le_mul_right _ (by omega)
      rw [hlen, List.length_drop, List.length_take, e3, Nat.min_eq_left hm, Nat.sub_mul]
    · rw [List.getElem?_drop, List.getElem?_take] at hj
      split at hj
      · have := e7 _ _ hj
        rw [← Nat.add_assoc] at this
        exact this
      · cases hj
    · rw [List.getElem?_drop, List.getElem?_take] at hr
      split at hr
      · rename_i hlt
        obtain ⟨u, h3, h4⟩ := e5 _ _ _ _ hr hx'
        refine ⟨u, ?_, h4⟩
        have hjl := (List.getElem?_eq_some_iff.1 hx').1
        rw [hall r (List.mem_of_getElem? hr)] at hjl
        have hlt2 : l * sz + (i * sz + j) < h * sz := by
          calc l * sz + (i * sz + j) < l * sz + (i * sz + sz) := by omega
            _ = (l + (i + 1)) * sz := by rw [Nat.add_mul, Nat.add_mul, Nat.one_mul]
            _ ≤ h * sz := Nat.mul_le_mul_right _ (by omega)
        rw [List.getElem?_drop, List.getElem?_take, if_pos hlt2, ← Nat.add_assoc, ← Nat.add_mul]
        exact h3
      · cases hr

theorem good_slc3 (hd : ∀ d, o.dst = some d → d < n) {t e : TypeId} {ei : TypeInfo} {xo : Operand} {x : PX} {lo : Option Operand} {ho mo : Operand} {l : Option PX} {h m : PX} (hop : o.op = .slice t xo lo (some ho) (some mo)) (ht : P.underlying t = some (.slice e)) (hi' : P.info? e = some ei) (hx : cX xo = some x)
    (hl : lo.map cX = l.map some) (hh : cX ho = some h) (hm : cX mo = some m) : Good P n o (.slc3 ei.size x l h m) :=
  .of_pure hd fun w0 S0 W s a w v ch hs hf => by
    simp only [PO.fn] at hf
    split at hf
    · rename_i rows hr
      have hrd := rows_ev hs hx hr
      split at hf
      · rename_i lv hv mv h1 h2 h3
        split at hf
        · rename_i hc
          obtain ⟨hc1, hc3, rfl, hc4, hall⟩ := hc
          cases hf
          obtain ⟨A, cap, e0, hcap, hcm⟩ := hrd.len
          rw [e0] at hrd
          obtain ⟨kh, eh⟩ := int_ev hs hh h2
          obtain ⟨km, em⟩ := int_ev hs hm h3
          have hc0 : 0 ≤ hv := by omega
          have hc2 : hv ≤ (cap : Int) := by omega
          have hmx : max hv 0 = hv := by omega
          have hir : ¬ hv < hv := by omega
          have hlen : ((rows.take hv.toNat).drop lv.toNat).length = hv.toNat - lv.toNat := by simp; omega
          have hbounds : (Instr.sliceBounds true rows.length cap (lo.map a.eval) (some (a.eval ho)) (some (a.eval mo))).run P w = .ok (lv.toNat, hv.toNat, hv.toNat) w := by
            cases lo with
            | none =>
              cases l with
              | some _ => simp at hl
              | none =>
                simp at h1
                subst h1
                simp [Instr.sliceBounds, eh, em, Instr.sliceBound, asIntOf, hc0, hc2, hmx]
            | some lo' =>
              cases l with
              | none => simp at hl
              | some lx =>
                simp at hl h1
                obtain ⟨k1, e1⟩ := int_ev hs hl h1
                have hc5 : lv ≤ (hv.toNat : Int) := by omega
                simp [e1, Instr.sliceBounds, eh, em, Instr.sliceBound, asIntOf, hc0, hc1, hc2, hmx, hc3]
          have hres : ∀ B : Option Addr, (hv.toNat = lv.toNat ∨ B = A.map (·.add (lv.toNat * ei.size))) → RA W s.gen s.ob w (.b (.one (.ti ((rows.take hv.toNat).drop lv.toNat)))) (.slice B (hv.toNat - lv.toNat) (hv.toNat - lv.toNat)) := fun B hB => by
            refine ⟨RD.sub hrd hall (by omega) (by omega) (Nat.le_refl _) (by omega) hB, B, ?_⟩
            rw [hlen]
          by_cases hcl : hv.toNat = lv.toNat
          · refine ⟨rfl, _, ?_, hres A (.inl hcl)⟩
            rw [hcl] at hbounds
            simp [execOp, hop, Instr.sliceAt, Instr.slice, run_underlying ht, e0, hbounds, sizeOf, typeInfo, hi', hcl]
          · refine ⟨rfl, _, ?_, hres _ (.inr rfl)⟩
            simp [execOp, hop, Instr.sliceAt, Instr.slice, run_underlying ht, e0, hbounds, sizeOf, typeInfo, hi', hcl]
        · cases hf
      · cases hf
    · cases hf

theorem good_slc (hd : ∀ d, o.dst = some d → d < n) {t e : TypeId} {ei : TypeInfo} {xo : Operand} {x : PX} {lo hi : Option Operand} {l h : Option PX} (hop : o.op = .slice t xo lo hi none) (ht : P.underlying t = some (.slice e)) (hi' : P.info? e = some ei) (hx : cX xo = some x)
    (hl : lo.map cX = l.map some) (hh : hi.map cX = h.map some) : Good P n o (.slc ei.size x l h) :=
  .of_pure hd fun w0 S0 W s a w v ch hs hf => by
    simp only [PO.fn] at hf
    split at hf
    · rename_i rows hr
      have hrd := rows_ev hs hx hr
      split at hf
      · rename_i lv hv h1 h2
        split at hf
        · rename_i hc
          cases hf
          obtain ⟨A, cap, vs, e0, e1, e2, e3, e4, e5, e6⟩ := hrd.flat hc.2.2.2
          -- what the operation hands back
          have hlen : ((rows.take hv.toNat).drop lv.toNat).length = hv.toNat - lv.toNat := by simp; omega
          have hres : ∀ B : Option Addr, (cap = lv.toNat ∨ B = A.map (·.add (lv.toNat * ei.size))) → RD W.S w (.im ((rows.take hv.toNat).drop lv.toNat)) (.slice B (hv.toNat - lv.toNat) (cap - lv.toNat)) := fun B hB => by
            by_cases hz : hv.toNat = lv.toNat
            · have : (rows.take hv.toNat).drop lv.toNat = [] := List.eq_nil_of_length_eq_zero (by rw [hlen]; omega)
              rw [this, hz, Nat.sub_self]
              exact .emp B _ (by omega)
            · have hB2 : B = A.map (·.add (lv.toNat * ei.size)) := by
                rcases hB with hB | hB
                · omega
                · exact hB
              rcases e6 with e6 | ⟨b, o', rfl, e7⟩
              · subst e6; simp at hc; omega
              rw [hB2, ← hlen]
              simp only [Option.map_some, addr_add]
              refine RD.block (vs := (vs.take (hv.toNat * ei.size)).drop (lv.toNat * ei.size)) (sz := ei.size) (fun r hr => hc.2.2.2 r (List.mem_of_mem_take (List.mem_of_mem_drop hr))) ?_ (fun j u hj => ?_) (by rw [hlen]; omega) (by omega) (fun i r j x' hr hx' => ?_)
              · have hm : hv.toNat * ei.size ≤ rows.length * ei.size := Nat.mul_le_mul_right _ (by omega)
                rw [hlen, List.length_drop, List.length_take, e3, Nat.min_eq_left hm, Nat.sub_mul]
              · rw [List.getElem?_drop, List.getElem?_take] at hj
                split at hj
                · have := e7 _ _ hj
                  rw [← Nat.add_assoc] at this
                  exact this
                · cases hj
              · rw [List.getElem?_drop, List.getElem?_take] at hr
                split at hr
                · rename_i hlt
                  obtain ⟨u, h3, h4⟩ := e5 _ _ _ _ hr hx'
                  refine ⟨u, ?_, h4⟩
                  have hjl := (List.getElem?_eq_some_iff.1 hx').1
                  rw [hc.2.2.2 r (List.mem_of_getElem? hr)] at hjl
                  have hlt2 : lv.toNat * ei.size + (i * ei.size + j) < hv.toNat * ei.size := by
                    calc lv.toNat * ei.size + (i * ei.size + j) < lv.toNat * ei.size + (i * ei.size + ei.size) := by omega
                      _ = (lv.toNat + (i + 1)) * ei.size := by rw [Nat.add_mul, Nat.add_mul, Nat.one_mul]
                      _ ≤ hv.toNat * ei.size := Nat.mul_le_mul_right _ (by omega)
                  rw [List.getElem?_drop, List.getElem?_take, if_pos hlt2, ← Nat.add_assoc, ← Nat.add_mul]
                  exact h3
                · cases hr
          have fin : ∀ B, (cap = lv.toNat ∨ B = A.map (·.add (lv.toNat * ei.size))) → (Instr.sliceAt t (a.eval xo) (lo.map a.eval) (hi.map a.eval) none).run P w = .ok (.slice B (hv.toNat - lv.toNat) (cap - lv.toNat)) w →
              Cg.no = Cg.no ∧ ∃ rv, (execOp a.eval o).run P w = .ok (.value rv) w ∧ RA W s.gen s.ob w (.b (.one (.d (.im ((rows.take hv.toNat).drop lv.toNat))))) rv := fun B hB hrun =>
            ⟨rfl, _, by simp only [execOp, hop, Option.map_none, Sem.run_bind, hrun, Result.andThen_ok, Sem.run_pure], hres B hB⟩
          -- the bounds
          have hbounds : (Instr.sliceBounds true rows.length cap (lo.map a.eval) (hi.map a.eval) none).run P w = .ok (lv.toNat, hv.toNat, cap) w := by
            have hc0 : 0 ≤ hv := by omega
            have hc1 : 0 ≤ lv := by omega
            have hc2 : hv ≤ (cap : Int) := by omega
            have hc3 : lv ≤ hv := by omega
            have hc4 : hv ≤ (rows.length : Int) := hc.2.2.1
            cases lo with
            | none =>
              cases l with
              | some _ => simp at hl
              | none =>
                simp at h1
                subst h1
                cases hi with
                | none =>
                  cases h with
                  | some _ => simp at hh
                  | none =>
                    simp at h2
                    subst h2
                    simp [Instr.sliceBounds]
                | some ho =>
                  cases h with
                  | none => simp at hh
                  | some hx' =>
                    simp at hh h2
                    obtain ⟨kk, e2⟩ := int_ev hs hh h2
                    simp [Instr.sliceBounds, e2, Instr.sliceBound, asIntOf, hc0, hc2]
            | some lo' =>
              cases l with
              | none => simp at hl
              | some lx =>
                simp at hl h1
                obtain ⟨k1, e1⟩ := int_ev hs hl h1
                cases hi with
                | none =>
                  cases h with
                  | some _ => simp at hh
                  | none =>
                    simp at h2
                    subst h2
                    simp [e1, Instr.sliceBounds, Instr.sliceBound, asIntOf, hc1, hc3]
                | some ho =>
                  cases h with
                  | none => simp at hh
                  | some hx' =>
                    simp at hh h2
                    obtain ⟨kk, e2⟩ := int_ev hs hh h2
                    have hc5 : lv ≤ (hv.toNat : Int) := by omega
                    simp [e1, Instr.sliceBounds, e2, Instr.sliceBound, asIntOf, hc0, hc1, hc2]
                    omega
          by_cases hcl : cap = lv.toNat
          · refine fin A (.inl hcl) ?_
            rw [hcl] at hbounds
            simp [Instr.sliceAt, Instr.slice, run_underlying ht, e0, hbounds, sizeOf, typeInfo, hi', hcl]
          · refine fin _ (.inr rfl) ?_
            simp [Instr.sliceAt, Instr.slice, run_underlying ht, e0, hbounds, sizeOf, typeInfo, hi', hcl]
        · cases hf
      · cases hf
    · cases hf
end
end Go.Proofs.Ytkdagjlkejefnaa
end
section
set_option linter.unusedSimpArgs false
set_option linter.unusedVariables false
namespace Go.Proofs.Ytkdagjlkejefnaa
open Go Go.RowKit

section
variable {n : Nat} {P : Program} {o : Oper}

theorem good_bslice {d : Nat} (ho : o.dst = some d) (hd : d < n) {t E ln : Nat} {ei : TypeInfo} {ze : Value} {ps : Array (Nat × Operand)} {qs : List (Nat × Nat × PX)} (hop : o.op = .buildSlice t ln ps)
    (ht : P.underlying t = some (.slice E)) (hi : P.info? E = some ei) (hze : ei.zero = some ze) (hzo : ∀ v ∈ ze.cells.toList, v.oneCell' = true) (hzs : ze.cells.size = ei.size) (hsz : 0 < ei.size) (hln : ln * ei.size ≤ 16777216)
    (hl : ps.toList.length = qs.length) (hpl : ∀ (j : Nat) i xo off k x, ps.toList[j]? = some (i, xo) → qs[j]? = some (off, k, x) → (some (i * ei.size, ei.size) : Option (Nat × Nat)) = some (off, k) ∧ cX xo = some x) :
    Good P n o (.bslice E ei.size ((Array.range (ln * ei.size)).map (ze.cells[· % ze.cells.size]!)).toList ln qs) := by
  intro w0 S0 W s a w v ch hs hf
  obtain ⟨z, hz⟩ : ∃ z, (Array.range (ln * ei.size)).map (ze.cells[· % ze.cells.size]!) = z := ⟨_, rfl⟩
  rw [hz] at hf
  have hzone : ∀ v ∈ z.toList, v.oneCell' = true := by
    intro v hv
    rw [← hz] at hv
    simp only [Array.toList_map, List.mem_map] at hv
    obtain ⟨k, _, rfl⟩ := hv
    have hlt : k % ze.cells.size < ze.cells.size := Nat.mod_lt _ (by omega)
    rw [getElem!_pos ze.cells _ hlt]
    exact hzo _ (by simp)
  have hzlen : z.size = ln * ei.size := by rw [← hz]; simp
  simp only [PO.fn, Option.bind_eq_some_iff, Option.map_eq_some_iff, Prod.mk.injEq, ho, Option.getD_some] at hf
  obtain ⟨rs, hrs, cs, hcs, xs, hxs, rfl, rfl⟩ := hf
  rw [chunks_eq]
  have hz0 : RCs W s.gen s.ob w (z.toList.map fun v => Cl.d (.sc v)) z.toList := ⟨by simp, fun i c u h1 h2 => by
    simp only [List.getElem?_map, h2, Option.map_some, Option.some.injEq] at h1
    subst h1
    exact RD.sc _ (hzone u (List.mem_of_getElem? h2))⟩
  obtain ⟨cells, h1, h2⟩ := fill_ok hs (place := fun i => some (i * ei.size, ei.size)) ps.toList qs rs _ cs z hl hpl hrs hcs hz0
  have hclen : cells.size = ln * ei.size := by
    -- the cells keep their number
    have key : ∀ (rs : List (Nat × List Cl)) (c0 c1 : List Cl), fillAll c0 rs = some c1 → c1.length = c0.length := by
      intro rs
      induction rs with
      | nil => intro c0 c1 h; simp [fillAll] at h; subst h; rfl
      | cons p rs ih =>
        intro c0 c1 h
        obtain ⟨off, nw⟩ := p
        simp only [fillAll] at h
        split at h
        · rename_i hle
          rw [ih _ _ h]
          exact splice_length c0 off nw hle
        · cases h
    have h3 := key _ _ _ hcs
    have h4 := h2.1
    simp only [List.length_map, Array.length_toList] at h3 h4
    omega
  have hxl : xs.length = ln * ei.size := by
    have := congrArg List.length (allSome_get _ _ hxs)
    have h4 := h2.1
    simp at this h4
    omega
  have hxr : ∀ (j : Nat) x, xs[j]? = some x → ∃ u, cells.toList[j]? = some u ∧ RD W.S w x u := fun j x hj => by
    have h3 := congrArg (·[j]?) (allSome_get _ _ hxs)
    simp only [List.getElem?_map, hj, Option.map_some] at h3
    cases hc : cs[j]? with
    | none => rw [hc] at h3; simp at h3
    | some c =>
      rw [hc] at h3
      simp at h3
      have hlt : j < cells.toList.length := by rw [← h2.1]; exact (List.getElem?_eq_some_iff.1 hc).1
      refine ⟨cells.toList[j], List.getElem?_eq_getElem hlt, RC.dt (h2.2 j c _ hc (List.getElem?_eq_getElem hlt)) h3⟩
  obtain ⟨rows, hrows⟩ : ∃ rows, (List.range ln).map (fun i => (xs.drop (i * ei.size)).take ei.size) = rows := ⟨_, rfl⟩
  rw [hrows]
  have hrl : rows.length = ln := by rw [← hrows]; simp
  have hlnm : ln ≤ 16777216 := Nat.le_trans (Nat.le_mul_of_pos_right ln hsz) hln
  have hrsz : ∀ r, r ∈ rows → r.length = ei.size := by
    intro r hr
    rw [← hrows] at hr
    simp only [List.mem_map, List.mem_range] at hr
    obtain ⟨i, hi2, rfl⟩ := hr
    have : (i + 1) * ei.size ≤ ln * ei.size := Nat.mul_le_mul_right _ hi2
    rw [Nat.add_mul, Nat.one_mul] at this
    simp [hxl]
    omega
  rw [ho]
  refine ⟨_, .slice (some ⟨w.heap.size, 0, none⟩) ln ln, w.alloc (.cells cells E), .inl ?_, hs.new hd (.slice (some ⟨w.heap.size, 0, none⟩) ln ln) (ln * ei.size) ⟨fun b hb => heapOld w _ b hb, by simp, rfl, rfl, rfl⟩ ?_ ?_ ?_⟩
  · have hfill : Instr.fill (fun i => some (i * ei.size, ei.size)) z (ps.toList.map fun p => (p.1, a.eval p.2)) = some cells := h1
    have hmap : (ps.map fun (i, x) => (i, a.eval x)).toList = ps.toList.map fun p => (p.1, a.eval p.2) := by simp
    have h24 : ¬ (16777216 < ln * ei.size) := by omega
    by_cases h0 : ln * ei.size = 0
    · have hz0' : z = #[] := by
        apply Array.eq_empty_of_size_eq_zero; rw [hzlen, h0]
      have hln0 : ln = 0 := by
        rcases Nat.mul_eq_zero.1 h0 with h | h
        · exact h
        · omega
      subst hln0
      rw [hz0'] at hfill
      have hr0 : ∀ f : Nat → Value, Array.map f (Array.range 0) = #[] := fun f => by simp
      simp only [execOp, hop, Instr.buildSlice, run_underlying ht, sizeOf, typeInfo, hi, Sem.run_bind, Result.andThen_ok]
      simp [hi, hmap, hr0, hfill, newRow]
    · have hz' : (Array.range (ln * ei.size)).map (fun k => ze.cells[k % ze.cells.size]!) = z := hz
      simp only [execOp, hop, Instr.buildSlice, run_underlying ht, sizeOf, typeInfo, zeroValue, hi, hze, Sem.run_bind, Result.andThen_ok]
      simp [hi, hze, hmap, hz', hfill, newRow, h24, h0]
  · -- what is read
    refine ⟨?_, by rw [up_at, if_pos rfl]; exact Nat.le_refl _, fun _ E' sz' n' h => ?_⟩
    · have hext : Ext W.S (up W.S w.heap.size (ln * ei.size)) w (w.alloc (.cells cells E)) := fun b i h1 h2 => by
        have hlt : b < w.heap.size := by
          cases hcell : w.cell? ⟨b, i, none⟩ with
          | none => rw [hcell] at h2; cases h2
          | some y =>
            rcases Nat.lt_or_ge b w.heap.size with h | h
            · exact h
            · simp [World.cell?, Array.getElem?_eq_none h] at hcell
        refine ⟨?_, by simp [World.cell?, heapOld w _ b hlt]⟩
        rw [up_at, if_neg (by omega)]
        exact h1
      have hR : RD (up W.S w.heap.size (ln * ei.size)) (w.alloc (.cells cells E)) (.im rows) (.slice (some ⟨w.heap.size, 0, none⟩) rows.length ln) := by
       refine RD.block (vs := cells.toList) (sz := ei.size) hrsz (by rw [hrl]; simpa using hclen) (fun j u hj => ⟨?_, ?_⟩) (by omega) (by unfold maxLen; omega) (fun i r j x hr hx => ?_)
       · simp only [World.cell?, heap_alloc_new, Nat.zero_add]
         simpa using hj
       · show 0 + j < up W.S w.heap.size (ln * ei.size) w.heap.size
         rw [up_at, if_pos rfl]
         have := (List.getElem?_eq_some_iff.1 hj).1
         simp at this
         omega
       · have hil := (List.getElem?_eq_some_iff.1 hr).1
         rw [hrl] at hil
         rw [← hrows, List.getElem?_map, List.getElem?_range hil] at hr
         simp only [Option.map_some, Option.some.injEq] at hr
         subst hr
         rw [List.getElem?_take] at hx
         split at hx
         · rw [List.getElem?_drop] at hx
           obtain ⟨u, h3, h4⟩ := hxr _ _ hx
           exact ⟨u, h3, RD.ext hext h4⟩
         · cases hx
      rw [hrl] at hR
      exact hR
    · rw [up_at, if_pos rfl] at h
      cases h
      refine ⟨hrsz, by omega, fun _ => ?_⟩
      show _ = up W.val d (.slice (some ⟨w.heap.size, 0, none⟩) ln ln) d
      rw [up_at, if_pos rfl]
  · refine ⟨cells.toList, ?_, ?_⟩
    · show (w.alloc _).ownsRow _ _ _ (up W.val d (.slice (some ⟨w.heap.size, 0, none⟩) ln ln) d) _ _
      rw [up_at, if_pos rfl]
      exact ⟨by simpa using hclen, .inr ⟨w.heap.size, ln, cells, rfl, hs.below.size, heap_alloc_new w _, Nat.le_refl _, by unfold maxLen; omega, hclen, by rw [List.take_of_length_le]; simp [hclen]⟩⟩
    · intro g hg
      have h2 : (up W.val d (.slice (some ⟨w.heap.size, 0, none⟩) ln ln) d).ownBlock = some g := hg
      rw [up_at, if_pos rfl] at h2
      have h3 : w.heap.size = g := by simpa [Value.ownBlock] using h2
      subst h3
      show up W.S w.heap.size (ln * ei.size) w.heap.size ≤ _
      rw [up_at, if_pos rfl]
      exact Nat.le_refl _
  · intro b hb
    have h2 : (up W.val d (.slice (some ⟨w.heap.size, 0, none⟩) ln ln) d).ownBlock = some b := hb
    rw [up_at, if_pos rfl] at h2
    have h3 : w.heap.size = b := by simpa [Value.ownBlock] using h2
    omega

/-- a row that is the call's own has grown: in its block, or into a new one -/
theorem Sim.grow {w0 : World} {S0 : Nat → Nat} {W : Wit} {s : St} {a : Act} {w : World} (hs : Sim w0 S0 n W s a w) {d : Nat} (hd : d < n) {o' E sz k m : Nat} (hob : s.ob o' = .row E sz k) (hm : 0 < m)
    {w' : World} {h cap : Nat} {cur : Array Value} {xs : List Value} {rows : List (List Dt)} (hlen : rows.length = k + m) (hsz : ∀ r, r ∈ rows → r.length = sz)
    (hw : (∀ b, b < w.heap.size → b ≠ h → w'.heap[b]? = w.heap[b]?) ∧ w.heap.size ≤ w'.heap.size ∧ w'.os = w.os ∧ w'.tape = w.tape ∧ w'.output = w.output)
    (hrow : w'.heap[h]? = some (.cells cur E (0, 0))) (hbase : w0.heap.size ≤ h) (hc1 : k + m ≤ cap) (hc2 : cap ≤ maxLen) (hc3 : cur.size = cap * sz) (hxl : xs.length = (k + m) * sz) (hc4 : cur.toList.take ((k + m) * sz) = xs)
    (hh : h = w.heap.size ∨ ((W.val o').ownBlock = some h ∧ ∀ i, i < k * sz → w'.cell? ⟨h, i, none⟩ = w.cell? ⟨h, i, none⟩))
    (hrd : ∀ i r j x, rows[i]? = some r → r[j]? = some x → ∃ u, xs[i * sz + j]? = some u ∧ RD W.S w x u) :
    Sim w0 S0 n { W with val := up W.val o' (.slice (some ⟨h, 0, none⟩) (k + m) cap), S := up W.S h ((k + m) * sz) } (s.ap (some d) (.b (.one (.own o' (s.gen o') rows))) (.row o' (k + m)))
      (a.put (some d) (.slice (some ⟨h, 0, none⟩) (k + m) cap)) w' := by
  obtain ⟨ys, hys, hyS⟩ : ∃ ys, w.ownsRow w0.heap.size E sz (W.val o') k ys ∧ ∀ g, (W.val o').ownBlock = some g → W.S g ≤ k * sz := by
    have := hs.ob o'
    rw [hob] at this
    exact this
  have hap : (s.ap (some d) (.b (.one (.own o' (s.gen o') rows))) (.row o' (k + m))).ob = up s.ob o' (.row E sz (k + m)) := by
    show up s.ob o' _ = _
    rw [hob]
  have hlt : ∀ b i, (w.cell? ⟨b, i, none⟩).isSome = true → b < w.heap.size := fun b i h2 => by
    cases hcell : w.cell? ⟨b, i, none⟩ with
    | none => rw [hcell] at h2; cases h2
    | some y =>
      rcases Nat.lt_or_ge b w.heap.size with h | h
      · exact h
      · simp [World.cell?, Array.getElem?_eq_none h] at hcell
  have hext : Ext W.S (up W.S h ((k + m) * sz)) w w' := fun b i h1 h2 => by
    by_cases hb : b = h
    · subst hb
      rcases hh with hh | ⟨hh1, hh2⟩
      · have := hlt _ _ h2; omega
      · have := hyS _ hh1
        refine ⟨?_, hh2 i (by omega)⟩
        rw [up_at, if_pos rfl, Nat.add_mul]
        omega
    · refine ⟨by rw [up_at, if_neg hb]; exact h1, ?_⟩
      simp [World.cell?, hw.1 b (hlt _ _ h2) hb]
  have hfol : Fol W s.gen s.ob w { W with val := up W.val o' (.slice (some ⟨h, 0, none⟩) (k + m) cap), S := up W.S h ((k + m) * sz) } s.gen (up s.ob o' (.row E sz (k + m))) w' := by
    refine ⟨hext, fun _ => Nat.le_refl _, fun _ _ => rfl, fun o2 E2 sz2 n2 _ ho2 => ?_, fun _ _ => rfl⟩
    rw [up_at] at ho2
    split at ho2
    · rename_i he
      cases ho2
      exact ⟨k, by rw [he]; exact hob, by omega, fun hk => by omega⟩
    · rename_i he
      refine ⟨n2, ho2, Nat.le_refl _, fun _ => ?_⟩
      show up W.val o' _ o2 = _
      rw [up_at, if_neg he]
  refine hs.step (fun d' h => by cases h; exact hd) (by rw [hap]; exact hfol) ⟨hw.2.2.1, hw.2.2.2.1, hw.2.2.2.2, hw.2.1, fun b hb => hw.1 b (Nat.lt_of_lt_of_le hb hs.below.size) (by omega)⟩ (fun b hb => ?_) ?_ (fun o2 => ?_) (fun o1 o2 b c1 c2 => ?_)
  · show up W.S h _ b = _
    rw [up_at, if_neg (by omega)]
  · rw [hap]
    refine ⟨?_, Nat.le_refl _, fun _ E2 sz2 n2 ho2 => ?_⟩
    · have hR : RD (up W.S h ((k + m) * sz)) w' (.im rows) (.slice (some ⟨h, 0, none⟩) rows.length cap) := by
       refine RD.block (vs := xs) hsz (by rw [hxl, hlen]) (fun j u hj => ⟨?_, ?_⟩) (by omega) hc2 (fun i r j x hr hx => ?_)
       · rw [← hc4, List.getElem?_take] at hj
         split at hj
         · simp only [World.cell?, hrow, Nat.zero_add]
           simpa using hj
         · cases hj
       · show 0 + j < up W.S h _ h
         rw [up_at, if_pos rfl]
         have := (List.getElem?_eq_some_iff.1 hj).1
         omega
       · obtain ⟨u, h3, h4⟩ := hrd i r j x hr hx
         exact ⟨u, h3, RD.ext hext h4⟩
      rw [hlen] at hR
      exact hR
    · rw [up_at, if_pos rfl] at ho2
      cases ho2
      refine ⟨hsz, by omega, fun _ => ?_⟩
      show _ = up W.val o' _ o'
      rw [up_at, if_pos rfl]
  · rw [hap]
    by_cases he : o2 = o'
    · subst he
      rw [up_at, if_pos rfl]
      refine ⟨xs, ?_, fun g hg => ?_⟩
      · show w'.ownsRow _ _ _ (up W.val o2 _ o2) _ _
        rw [up_at, if_pos rfl]
        exact ⟨hxl, .inr ⟨h, cap, cur, rfl, hbase, hrow, hc1, hc2, hc3, hc4⟩⟩
      · have h2 : (up W.val o2 (.slice (some ⟨h, 0, none⟩) (k + m) cap) o2).ownBlock = some g := hg
        rw [up_at, if_pos rfl] at h2
        have h3 : h = g := by simpa [Value.ownBlock] using h2
        subst h3
        show up W.S h _ h ≤ _
        rw [up_at, if_pos rfl]
        exact Nat.le_refl _
    · rw [up_at, if_neg he]
      refine RO.fol hfol (hs.ob o2) rfl (by show up W.val o' _ o2 = _; rw [up_at, if_neg he]) rfl (fun b hb => ?_)
      have hbh : b ≠ h := by
        rintro rfl
        rcases hh with hh | ⟨hh1, _⟩
        · have := (cl_lt hs hb).2; omega
        · exact he (hs.ex _ _ _ hb (by rw [hob]; exact hh1))
      exact ⟨hw.1 b (cl_lt hs hb).2 hbh, by show up W.S h _ b = _; rw [up_at, if_neg hbh]⟩
  · have claim : ∀ o3 b, cl { W with val := up W.val o' (.slice (some ⟨h, 0, none⟩) (k + m) cap), S := up W.S h ((k + m) * sz) } o3 ((s.ap (some d) (.b (.one (.own o' (s.gen o') rows))) (.row o' (k + m))).ob o3) b → (o3 = o' ∧ b = h) ∨ (o3 ≠ o' ∧ b ≠ h ∧ cl W o3 (s.ob o3) b) := fun o3 b hb => by
      rw [hap, up_at] at hb
      split at hb
      · rename_i he
        subst he
        have h2 : (up W.val o3 (.slice (some ⟨h, 0, none⟩) (k + m) cap) o3).ownBlock = some b := hb
        rw [up_at, if_pos rfl] at h2
        have h3 : h = b := by simpa [Value.ownBlock] using h2
        exact .inl ⟨rfl, h3.symm⟩
      · rename_i he
        have hb' : cl W o3 (s.ob o3) b := by
          generalize s.ob o3 = y at hb ⊢
          cases y with
          | no => exact hb
          | cells cs => exact hb
          | row E sz m => have h2 : (up W.val o' _ o3).ownBlock = some b := hb; rw [up_at, if_neg he] at h2; exact h2
          | ab H => exact hb
        refine .inr ⟨he, ?_, hb'⟩
        rintro rfl
        rcases hh with hh | ⟨hh1, _⟩
        · have := (cl_lt hs hb').2; omega
        · exact he (hs.ex _ _ _ hb' (by rw [hob]; exact hh1))
    rcases claim o1 b c1 with ⟨h1, h2⟩ | ⟨h1, h2, h3⟩ <;> rcases claim o2 b c2 with ⟨k1, k2⟩ | ⟨k1, k2, k3⟩
    · rw [h1, k1]
    · exact absurd h2 k2
    · exact absurd k2 h2
    · exact hs.ex _ _ _ h3 k3

theorem run_append_zero {t E : Nat} {ei : TypeInfo} (ht : P.underlying t = some (.slice E)) (hi : P.info? E = some ei) (ty : TypeId) (A B : Option Addr) (len cap c : Nat) (hle : len ≤ cap) (w : World) :
    (Builtin.append_ #[t, t] ty #[.slice A len cap, .slice B 0 c]).run P w = .ok (.slice A len cap) w := by
  cases A <;> cases B <;> simp [Builtin.append_, run_underlying ht, sizeOf, typeInfo, hi, Builtin.lenOf, hle, Builtin.firstCells, loadCells, loadCellsFrom, storeCells]

theorem Sim.called0 {w0 : World} {S0 : Nat → Nat} {W : Wit} {s : St} {a : Act} {w : World} (hs : Sim w0 S0 n W s a w) {S' : Nat → Nat} {w' : World} (hb : Below w.heap.size w w') (hS : ∀ b, b < w.heap.size → S' b = W.S b) {dst : Option Nat} (hd : ∀ d, dst = some d → d < n) {v : Av} {rv : Value}
    (hv : RA { W with S := S' } s.gen s.ob w' v rv) : Sim w0 S0 n { W with S := S' } (s.ap dst v .no) (a.put dst rv) w' := by
  have hfol : Fol W s.gen s.ob w { W with S := S' } s.gen s.ob w' := by
    refine ⟨fun b i h1 h2 => ?_, fun _ => Nat.le_refl _, fun _ _ => rfl, fun o E sz k _ ho => ⟨k, ho, Nat.le_refl _, fun _ => rfl⟩, fun _ _ => rfl⟩
    have hlt : b < w.heap.size := by
      cases hcell : w.cell? ⟨b, i, none⟩ with
      | none => rw [hcell] at h2; cases h2
      | some y =>
        rcases Nat.lt_or_ge b w.heap.size with h | h
        · exact h
        · simp [World.cell?, Array.getElem?_eq_none h] at hcell
    exact ⟨by show i < S' b; rw [hS b hlt]; exact h1, by simp [World.cell?, hb.block b hlt]⟩
  refine hs.step hd hfol (hb.mono hs.below.size) (fun b hb2 => hS b (Nat.lt_of_lt_of_le hb2 hs.below.size)) hv (fun o => ?_) hs.ex
  exact RO.fol hfol (hs.ob o) rfl rfl rfl (fun b hb2 => ⟨hb.block b (cl_lt hs hb2).2, hS b (cl_lt hs hb2).2⟩)
/-- what is appended to a slice without room lies in a new block -/
theorem append_ti {t E : Nat} {ei : TypeInfo} {ze : Value} (ht : P.underlying t = some (.slice E)) (hi : P.info? E = some ei) (hze : ei.zero = some ze) (hzs : ze.cells.size = ei.size) (hsz : 0 < ei.size) {S : Nat → Nat} {w : World} {rows news : List (List Dt)} {A : Option Addr} {v : Value} (ty : TypeId)
    (hx : RD S w (.im rows) (.slice A rows.length rows.length)) (hy : RD S w (.im news) v) (h1 : ∀ r, r ∈ rows → r.length = ei.size) (h2 : ∀ r, r ∈ news → r.length = ei.size) (hbd : rows.length + news.length ≤ 1000000) (hby : ei.bytes ≤ 1000000) :
    ∃ S' rv w', (Builtin.append_ #[t, t] ty #[.slice A rows.length rows.length, v]).run P w = .ok rv w' ∧ RD S' w' (.im (rows ++ news)) rv ∧ Below w.heap.size w w' ∧ ∀ b, b < w.heap.size → S' b = S b := by
  obtain ⟨B, cap2, vs, e0, e1, e2, e3, e4, e5, e6⟩ := hy.flat h2
  subst e0
  by_cases hm : news.length = 0
  · have hn0 : news = [] := List.eq_nil_of_length_eq_zero hm
    subst hn0
    refine ⟨S, _, w, run_append_zero ht hi _ _ _ _ _ _ (Nat.le_refl _) w, by rw [List.append_nil]; exact hx, Below.refl _ _, fun _ _ => rfl⟩
  · have hm0 : 0 < news.length := Nat.pos_of_ne_zero hm
    obtain ⟨A', cap', xs, f0, f1, f2, f3, f4, f5, f6⟩ := hx.flat h1
    simp only [Value.slice.injEq] at f0
    obtain ⟨rfl, _, rfl⟩ := f0
    obtain ⟨b, off, rfl, e7⟩ : ∃ b o, B = some ⟨b, o, none⟩ ∧ ∀ j u, vs[j]? = some u → w.cell? ⟨b, o + j, none⟩ = some u ∧ o + j < S b := by
      rcases e6 with e6 | e6
      · rw [e6] at hm0; simp at hm0
      · exact e6
    have hnv : ∀ (j : Nat) u, vs[j]? = some u → w.cell? ((⟨b, off, none⟩ : Addr).add j) = some u := fun j u hj => by rw [addr_add]; exact (e7 j u hj).1
    have hbytes : (rows.length + news.length) * ei.bytes ≤ 1000000 * 1000000 := Nat.mul_le_mul hbd hby
    have h63 : rows.length + news.length ≤ maxLen := by unfold maxLen; omega
    have hall : ∀ r, r ∈ rows ++ news → r.length = ei.size := fun r hr => by
      rcases List.mem_append.1 hr with h | h
      · exact h1 r h
      · exact h2 r h
    have hxl : (xs ++ vs).length = (rows.length + news.length) * ei.size := by rw [List.length_append, f3, e3, Nat.add_mul]
    have hboth : ∀ (i : Nat) r (j : Nat) x, (rows ++ news)[i]? = some r → r[j]? = some x → ∃ u, (xs ++ vs)[i * ei.size + j]? = some u ∧ RD S w x u := fun i r j x hr hx' => by
      have hjl := (List.getElem?_eq_some_iff.1 hx').1
      rw [hall r (List.mem_of_getElem? hr)] at hjl
      by_cases hi : i < rows.length
      · rw [List.getElem?_append_left hi] at hr
        obtain ⟨u, k1, k2⟩ := f5 i r j x hr hx'
        exact ⟨u, by rw [List.getElem?_append_left (List.getElem?_eq_some_iff.1 k1).1]; exact k1, k2⟩
      · rw [List.getElem?_append_right (by omega)] at hr
        obtain ⟨u, k1, k2⟩ := e5 _ r j x hr hx'
        refine ⟨u, ?_, k2⟩
        have hge : xs.length ≤ i * ei.size + j := by
          rw [f3]
          exact Nat.le_trans (Nat.mul_le_mul_right _ (by omega)) (Nat.le_add_right _ _)
        rw [List.getElem?_append_right hge, f3, show i * ei.size + j - rows.length * ei.size = (i - rows.length) * ei.size + j by
          rw [Nat.sub_mul]
          have : rows.length * ei.size ≤ i * ei.size := Nat.mul_le_mul_right _ (by omega)
          omega]
        exact k1
    have fresh : ∀ (cells : Array Value) (cap : Nat) (w1 : World), cells.toList.take ((rows.length + news.length) * ei.size) = xs ++ vs → rows.length + news.length ≤ cap → cap ≤ maxLen → w1.heap = w.heap → w1.os = w.os → w1.tape = w.tape → w1.output = w.output →
        RD (up S w.heap.size ((rows.length + news.length) * ei.size)) (w1.alloc (.cells cells E)) (.im (rows ++ news)) (.slice (some ⟨w.heap.size, 0, none⟩) (rows.length + news.length) cap) ∧ Below w.heap.size w (w1.alloc (.cells cells E)) ∧ ∀ b, b < w.heap.size → up S w.heap.size ((rows.length + news.length) * ei.size) b = S b := fun cells cap w1 hcell hc1 hc2 hh ho ht' hout => by
      have hold : ∀ b, b < w.heap.size → (w1.alloc (.cells cells E)).heap[b]? = w.heap[b]? := fun b hb => by rw [heapOld w1 _ b (by rw [hh]; exact hb), hh]
      have hnew : (w1.alloc (.cells cells E)).heap[w.heap.size]? = some (.cells cells E (0, 0)) := by
        have := heap_alloc_new w1 (.cells cells E)
        rw [hh] at this; exact this
      have hlt : ∀ b i, (w.cell? ⟨b, i, none⟩).isSome = true → b < w.heap.size := fun b i h2 => by
        cases hcell : w.cell? ⟨b, i, none⟩ with
        | none => rw [hcell] at h2; cases h2
        | some y =>
          rcases Nat.lt_or_ge b w.heap.size with h | h
          · exact h
          · simp [World.cell?, Array.getElem?_eq_none h] at hcell
      have hext : Ext S (up S w.heap.size ((rows.length + news.length) * ei.size)) w (w1.alloc (.cells cells E)) := fun b i k1 k2 => by
        have := hlt b i k2
        refine ⟨by rw [up_at, if_neg (by omega)]; exact k1, by simp [World.cell?, hold b this]⟩
      refine ⟨?_, ⟨ho, ht', hout, by show w.heap.size ≤ (w1.heap.push _).size; rw [Array.size_push, hh]; omega, hold⟩, fun b hb => by rw [up_at, if_neg (by omega)]⟩
      have := RD.block (S := up S w.heap.size ((rows.length + news.length) * ei.size)) (w := w1.alloc (.cells cells E)) (rows := rows ++ news) (b := w.heap.size) (o := 0) (cap := cap) (sz := ei.size) (vs := xs ++ vs) hall (by rw [hxl, List.length_append]) (fun j u hj => ⟨?_, ?_⟩) (by rw [List.length_append]; exact hc1) hc2 (fun i r j x hr hx' => ?_)
      · rw [List.length_append] at this; exact this
      · rw [← hcell, List.getElem?_take] at hj
        split at hj
        · simp only [World.cell?, hnew, Nat.zero_add]
          simpa using hj
        · cases hj
      · rw [up_at, if_pos rfl]
        have := (List.getElem?_eq_some_iff.1 hj).1
        omega
      · obtain ⟨u, k1, k2⟩ := hboth i r j x hr hx'
        exact ⟨u, k1, RD.ext hext k2⟩
    by_cases hA : ∃ ad, A = some ad
    · obtain ⟨ad, rfl⟩ := hA
      have holds : ∀ (j : Nat) u, xs[j]? = some u → w.cell? (ad.add j) = some u := fun j u hj => by
        rcases f6 with f6 | ⟨b', o', h, f7⟩
        · have : xs = [] := List.eq_nil_of_length_eq_zero (by rw [f3, f6]; simp)
          rw [this] at hj; simp at hj
        · cases h
          rw [addr_add]; exact (f7 j u hj).1
      have hr := run_append_grow (P := P) w t ty E ei ze ht hi hze ad rows.length rows.length xs f3 holds ⟨b, off, none⟩ news.length cap2 vs e3 hnv (by omega) (by unfold maxLen at h63; omega) (growslice_fits (by omega) (by omega))
      refine ⟨_, _, _, hr, fresh _ _ w.drew ?_ (grownCap_ge w _ _ E) (grownCap_le_maxLen w _ _ E h63) rfl rfl rfl rfl⟩
      simp only [Array.toList_append, List.append_assoc]
      rw [← List.append_assoc, ← hxl]
      exact List.take_left
    · have hAn : A = none := by
        cases A with
        | none => rfl
        | some ad => exact absurd ⟨ad, rfl⟩ hA
      subst hAn
      have hr0 : rows = [] := by
        rcases f6 with f6 | ⟨b', o', h, _⟩
        · exact f6
        · cases h
      subst hr0
      have hx0 : xs = [] := List.eq_nil_of_length_eq_zero (by rw [f3]; simp)
      subst hx0
      have hr := run_append_nil (P := P) w t ty E ei ze ht hi hze ⟨b, off, none⟩ news.length cap2 vs e3 hnv hm0 (by unfold maxLen at h63; simp at h63; omega) (by simp at hbytes; omega)
      have hfr := fresh (vs.toArray ++ Builtin.zeroCells ze.cells (grownCap w news.length 0 E - news.length)) (grownCap w news.length 0 E) w.drew (by
        simp only [Array.toList_append, List.nil_append, List.length_nil, Nat.zero_add]
        rw [← e3]; exact List.take_left) (by simpa using grownCap_ge w news.length 0 E) (grownCap_le_maxLen w _ _ E (by simpa using h63)) rfl rfl rfl rfl
      simp only [List.length_nil, Nat.zero_add] at hfr
      exact ⟨_, _, _, hr, hfr⟩

theorem good_append {d : Nat} (ho : o.dst = some d) (hd : d < n) {t E : Nat} {ei : TypeInfo} {ze : Value} {xo yo : Operand} {x y : PX} {c : Call} (hop : o.op = .call c) (hc : c.callee = .builtin .append) (ha : c.args = #[xo, yo]) (hat : c.argTypes = #[t, t])
    (ht : P.underlying t = some (.slice E)) (hi : P.info? E = some ei) (hze : ei.zero = some ze) (hzs : ze.cells.size = ei.size) (hsz : 0 < ei.size) (hx : cX xo = some x) (hy : cX yo = some y) : Good P n o (.append E ei.size ei.bytes x y) := by
  intro w0 S0 W s a w v ch hs hf
  rw [ho]
  simp only [PO.fn] at hf
  split at hf
  · rename_i o' g rows news heq hnews
    split at hf
    · rename_i hg
      subst hg
      split at hf
      · rename_i E' sz' k hob
        split at hf
        · rename_i hcond
          obtain ⟨rfl, rfl, rfl, hnsz, hbd, hby⟩ := hcond
          cases hf
          obtain ⟨hrd, _, hown⟩ := cl_ev hs hx heq (by simp)
          obtain ⟨hrsz, _, hval⟩ := hown rfl E' ei.size rows.length hob
          have hval := hval rfl
          obtain ⟨xs, hxs, hxS⟩ : ∃ ys, w.ownsRow w0.heap.size E' ei.size (W.val o') rows.length ys ∧ ∀ g, (W.val o').ownBlock = some g → W.S g ≤ rows.length * ei.size := by
            have := hs.ob o'
            rw [hob] at this
            exact this
          obtain ⟨A, cap2, vs, e0, e1, e2, e3, e4, e5, e6⟩ := (rows_ev hs hy hnews).flat hnsz
          have hrun : ∀ (r : Value) (w' : World), (Builtin.append_ #[t, t] o.type #[W.val o', .slice A news.length cap2]).run P w = .ok r w' → (execOp a.eval o).run P w = .ok (.value r) w' := fun r w' h =>
            run_builtin hop hc Builtin.append_ (fun _ _ _ _ => rfl) (by rw [ha, hat]; simpa [hval, e0] using h)
          by_cases hm : news.length = 0
          · -- nothing is appended
            have hn0 : news = [] := List.eq_nil_of_length_eq_zero hm
            subst hn0
            obtain ⟨B, cap, hB, hBc⟩ : ∃ B cap, W.val o' = .slice B rows.length cap ∧ rows.length ≤ cap := by
              rcases hxs.2 with ⟨h1, h2⟩ | ⟨g, cap, cur, h1, _, _, h4, _⟩
              · exact ⟨none, 0, by rw [h1, h2], by omega⟩
              · exact ⟨_, cap, h1, h4⟩
            have happ : (s.ap (some d) (.b (.one (.own o' (s.gen o') (rows ++ [])))) (.row o' (rows.length + ([] : List (List Dt)).length))) = s.ap (some d) (.b (.one (.own o' (s.gen o') rows))) .no := by
              simp only [St.ap, List.append_nil, List.length_nil]
              congr 1
              funext z
              rw [up_at]
              split
              · rename_i hz; rw [hz, hob]; rfl
              · rfl
            rw [happ]
            refine ⟨W, a.eval xo, w, .inl (hrun _ _ ?_), hs.put (fun d' h => by cases h; exact hd) ?_⟩
            · rw [hval, hB]
              exact run_append_zero ht hi _ _ _ _ _ _ hBc w
            · exact ⟨hrd, Nat.le_refl _, hown⟩
          · have hm0 : 0 < news.length := Nat.pos_of_ne_zero hm
            obtain ⟨b, off, rfl, e7⟩ : ∃ b o, A = some ⟨b, o, none⟩ ∧ ∀ j u, vs[j]? = some u → w.cell? ⟨b, o + j, none⟩ = some u ∧ o + j < W.S b := by
              rcases e6 with e6 | e6
              · rw [e6] at hm0; simp at hm0
              · exact e6
            have hnv : ∀ (j : Nat) u, vs[j]? = some u → w.cell? ((⟨b, off, none⟩ : Addr).add j) = some u := fun j u hj => by rw [addr_add]; exact (e7 j u hj).1
            have hbytes : (rows.length + news.length) * ei.bytes ≤ 1000000 * 1000000 := Nat.mul_le_mul hbd hby
            have hlen : (rows ++ news).length = rows.length + news.length := List.length_append
            have hall : ∀ r, r ∈ rows ++ news → r.length = ei.size := fun r hr => by
              rcases List.mem_append.1 hr with h | h
              · exact hrsz r h
              · exact hnsz r h
            have hxl : (xs ++ vs).length = (rows.length + news.length) * ei.size := by rw [List.length_append, hxs.1, e3, Nat.add_mul]
            -- the cells that the row holds read as its rows
            have hrow : ∀ (i : Nat) r (j : Nat) x, rows[i]? = some r → r[j]? = some x → ∃ u, xs[i * ei.size + j]? = some u ∧ RD W.S w x u := fun i r j x hr hx => by
              obtain ⟨A', cap', vs', f0, f1, f2, f3, f4, f5, f6⟩ := hrd.flat hrsz
              obtain ⟨u, h1, h2⟩ := f5 i r j x hr hx
              rcases f6 with f6 | ⟨b', o2, rfl, f7⟩
              · rw [f6] at hr; simp at hr
              · have h3 := (f7 _ _ h1).1
                rw [hval] at f0
                rcases hxs.2 with ⟨k1, k2⟩ | ⟨g, cap, cur, k1, k2, k3, k4, k5, k6, k7⟩
                · rw [k1] at f0; simp at f0
                · rw [k1] at f0
                  simp only [Value.slice.injEq, Option.some.injEq, Addr.mk.injEq] at f0
                  obtain ⟨⟨rfl, rfl, _⟩, _⟩ := f0
                  have hlt := (List.getElem?_eq_some_iff.1 h1).1
                  rw [f3, ← hxs.1] at hlt
                  have h4 := hxs.cells (g := g) (by rw [k1]; rfl) _ _ (List.getElem?_eq_getElem hlt)
                  rw [addr_add] at h4
                  rw [h3] at h4
                  cases h4
                  exact ⟨_, List.getElem?_eq_getElem hlt, h2⟩
            have hboth : ∀ (i : Nat) r (j : Nat) x, (rows ++ news)[i]? = some r → r[j]? = some x → ∃ u, (xs ++ vs)[i * ei.size + j]? = some u ∧ RD W.S w x u := fun i r j x hr hx => by
              have hjl := (List.getElem?_eq_some_iff.1 hx).1
              rw [hall r (List.mem_of_getElem? hr)] at hjl
              by_cases hi : i < rows.length
              · rw [List.getElem?_append_left hi] at hr
                obtain ⟨u, h1, h2⟩ := hrow i r j x hr hx
                exact ⟨u, by rw [List.getElem?_append_left (List.getElem?_eq_some_iff.1 h1).1]; exact h1, h2⟩
              · rw [List.getElem?_append_right (by omega)] at hr
                obtain ⟨u, h1, h2⟩ := e5 _ r j x hr hx
                refine ⟨u, ?_, h2⟩
                have hge : xs.length ≤ i * ei.size + j := by
                  rw [hxs.1]
                  exact Nat.le_trans (Nat.mul_le_mul_right _ (by omega)) (Nat.le_add_right _ _)
                rw [List.getElem?_append_right hge, hxs.1, show i * ei.size + j - rows.length * ei.size = (i - rows.length) * ei.size + j by
                  rw [Nat.sub_mul]
                  have : rows.length * ei.size ≤ i * ei.size := Nat.mul_le_mul_right _ (by omega)
                  omega]
                exact h1
            have h63 : rows.length + news.length ≤ maxLen := by unfold maxLen; omega
            -- a new block
            have fresh : ∀ old, old < rows.length + news.length → (Builtin.append_ #[t, t] o.type #[W.val o', .slice (some ⟨b, off, none⟩) news.length cap2]).run P w =
                .ok (.slice (some ⟨w.heap.size, 0, none⟩) (rows.length + news.length) (grownCap w (rows.length + news.length) old E'))
                  (w.drew.alloc (.cells (xs.toArray ++ vs.toArray ++ Builtin.zeroCells ze.cells (grownCap w (rows.length + news.length) old E' - (rows.length + news.length))) E')) →
                ∃ W' rv w', ((execOp a.eval o).run P w = .ok (.value rv) w' ∨ ((execOp a.eval o).run P w = .ok .skip w' ∧ rv = undef)) ∧
                  Sim w0 S0 n W' (s.ap (some d) (.b (.one (.own o' (s.gen o') (rows ++ news)))) (.row o' (rows.length + news.length))) (a.put (some d) rv) w' := fun old ho hr => by
              have hge := grownCap_ge w (rows.length + news.length) old E'
              refine ⟨_, _, _, .inl (hrun _ _ hr), hs.grow hd hob hm0 (xs := xs ++ vs) hlen hall ⟨fun b' hb' _ => heapOld w.drew _ b' hb', by simp, rfl, rfl, rfl⟩ (heap_alloc_new w.drew _) hs.below.size hge (grownCap_le_maxLen w _ old E' h63) ?_ hxl ?_ (.inl rfl) hboth⟩
              · simp only [Array.size_append, List.size_toArray, size_zeroCells, hzs, hxs.1, e3, ← Nat.add_mul]
                congr 1
                omega
              · simp only [Array.toList_append, List.append_assoc]
                rw [← List.append_assoc, ← hxl]
                exact List.take_left
            rcases hxs.2 with ⟨h1, h2⟩ | ⟨g, cap, cur, h1, h2, h3, h4, h5, h6, h7⟩
            · have hx0 : xs = [] := List.eq_nil_of_length_eq_zero (by rw [hxs.1, h2, Nat.zero_mul])
              refine fresh 0 (by omega) ?_
              have hr := run_append_nil (P := P) w t o.type E' ei ze ht hi hze ⟨b, off, none⟩ news.length cap2 vs e3 hnv hm0 (by unfold maxLen at h63; omega) (by rw [h2, Nat.zero_add] at hbytes; omega)
              rw [h1, h2, hx0]
              simpa using hr
            · by_cases hroom : rows.length + news.length ≤ cap
              · have hfit : rows.length * ei.size + vs.length ≤ cur.size := by rw [e3, h6, ← Nat.add_mul]; exact Nat.mul_le_mul_right _ hroom
                have hr := run_append_room (P := P) w t o.type E' ei ht hi g rows.length cap cur h3 ⟨b, off, none⟩ news.length cap2 vs e3 hnv e4 hroom hfit
                rw [← h1] at hr
                refine ⟨_, _, _, .inl (hrun _ _ hr), hs.grow hd hob hm0 (xs := xs ++ vs) hlen hall ⟨fun b' _ hb' => setRow_other w g b' _ hb', by simp, rfl, rfl, rfl⟩ (setRow_heap w g cur _ E' (0, 0) h3) h2 hroom h5 ?_ hxl ?_ (.inr ⟨by rw [h1]; rfl, fun i hi => ?_⟩) hboth⟩
                · simp only [List.size_toArray, List.length_append, List.length_take, List.length_drop, Array.length_toList]
                  omega
                · rw [h7, ← hxl]
                  exact List.take_left
                · have hil : i < cur.size := by omega
                  simp only [World.cell?, setRow_heap w g cur _ E' (0, 0) h3, h3]
                  simp only [Option.isSome_none, Bool.false_eq_true, if_false, List.getElem?_toArray]
                  rw [List.append_assoc, List.getElem?_append_left (by simp; omega), List.getElem?_take, if_pos hi]
                  simp
              · refine fresh cap (by omega) ?_
                have holds : ∀ (j : Nat) u, xs[j]? = some u → w.cell? ((⟨g, 0, none⟩ : Addr).add j) = some u := hxs.cells (g := g) (by rw [h1]; rfl)
                have hr := run_append_grow (P := P) w t o.type E' ei ze ht hi hze ⟨g, 0, none⟩ rows.length cap xs hxs.1 holds ⟨b, off, none⟩ news.length cap2 vs e3 hnv (by omega) (by unfold maxLen at h63; omega) (growslice_fits (by omega) (by omega))
                rw [h1]
                exact hr
        · cases hf
      · cases hf
    · cases hf
  · rename_i rows news heq hnews
    split at hf
    · rename_i hcond
      obtain ⟨hall, hnsz, hbd, hby⟩ := hcond
      cases hf
      obtain ⟨hrd, A, hA⟩ := cl_ev hs hx heq (by simp)
      rw [hA] at hrd
      obtain ⟨S', rv, w', k1, k2, k3, k4⟩ := append_ti ht hi hze hzs hsz o.type hrd (rows_ev hs hy hnews) hall hnsz hbd hby
      exact ⟨_, rv, w', .inl (run_builtin hop hc Builtin.append_ (fun _ _ _ _ => rfl) (by rw [ha, hat]; simpa [hA] using k1)), hs.called0 k3 k4 (fun d' h => by cases h; exact hd) k2⟩
    · cases hf
  · cases hf
end
end Go.Proofs.Ytkdagjlkejefnaa
end
section
set_option linter.unusedSimpArgs false
set_option linter.unusedVariables false
namespace Go.Proofs.Ytkdagjlkejefnaa
open Go Go.RowKit

def isNil : Operand → Bool
  | .const (.slice none 0 0) => true
  | _ => false
def cO (x : Option Operand) : Option (Option PX) := match x with
  | none => some none
  | some y => (cX y).map some
def cParts (place : Nat → Option (Nat × Nat)) : List (Nat × Operand) → Option (List (Nat × Nat × PX))
  | [] => some []
  | (i, xo) :: r => match place i, cX xo with
    | some (off, k), some x => (cParts place r).map ((off, k, x) :: ·)
    | _, _ => none
def places (P : Program) (t : Nat) : Option (Array Value × (Nat → Option (Nat × Nat))) :=
  match P.info? t, P.underlying t with
  | some it, some (.array _ e) =>
    match it.zero, P.info? e with
    | some z, some ie => some (z.cells, fun i => some (i * ie.size, ie.size))
    | _, _ => none
  | some it, some (.struct fields) =>
    match it.zero, fields.toList.mapM (fun f => (P.info? f.type).map fun i => (f.offset, i.size)) with
    | some z, some places => some (z.cells, (places.toArray[·]?))
    | _, _ => none
  | _, _ => none
def allOne (z : Array Value) : Bool := z.toList.all Value.oneCell'
/-- the size that a load of the type reads: none: one cell -/
def szT (P : Program) (t : Nat) : Option (Option Nat) := match P.underlying t, P.info? t with
  | some d, some i => some (if aggT d = true then some i.size else none)
  | _, _ => none

def compB (P : Program) (b : Builtin) (dst : Option Nat) (ats : Array Nat) (args : Array Operand) : Option PO :=
  match b, ats.toList, args.toList with
  | .len, [t], [x] => match P.underlying t with
    | some (.slice _) => (cX x).map .len
    | some .string => (cX x).map .strlen
    | some (.array m _) => some (.alen m)
    | _ => none
  | .append, [t, t'], [x, y] => match P.underlying t, cX x, cX y, dst with
    | some (.slice E), some x, some y, some _ => match P.info? E with
      | some i => match i.zero with
        | some z => if t = t' ∧ z.cells.size = i.size ∧ 0 < i.size then some (.append E i.size i.bytes x y) else none
        | none => none
      | none => none
    | _, _, _, _ => none
  | .max, _, xs => (allSome (xs.map cX)).map (.mm true)
  | .min, _, xs => (allSome (xs.map cX)).map (.mm false)
  | _, _, _ => none

def compOp (P : Program) (eqs : List (Nat × List Bool)) (o : Oper) : Option PO :=
  match o.op with
  | .move x => (cX x).map .mv
  | .assign x => if isNil x = true then (match P.underlying o.type, o.dst with
      | some (.slice E), some _ => (P.info? E).map fun i => .nilRow E i.size
      | _, _ => none) else (cX x).map .mv
  | .pick c a b => match cX c, cX a, cX b with
    | some c, some a, some b => some (.pick c a b)
    | _, _, _ => none
  | .box _ x => if o.dst.isSome = true then (cX x).map .box else none
  | .alloc t => match P.info? t, o.dst with
    | some i, some _ => match i.zero with
      | some z => if allOne z.cells = true then some (.new z.cells.toList) else none
      | none => none
    | _, _ => none
  | .build t ps => match places P t with
    | some (z, place) => if allOne z = true then (cParts place ps.toList).map (.build z.toList) else none
    | none => none
  | .buildSlice t ln ps => match P.underlying t, o.dst with
    | some (.slice E), some _ => match P.info? E with
      | some i => match i.zero with
        | some z => if allOne z.cells = true ∧ z.cells.size = i.size ∧ 0 < i.size ∧ ln * i.size ≤ 16777216 then
            (cParts (fun k => some (k * i.size, i.size)) ps.toList).map (.bslice E i.size ((Array.range (ln * i.size)).map (z.cells[· % z.cells.size]!)).toList ln) else none
        | none => none
      | none => none
    | _, _ => none
  | .load t a => match szT P t, cX a with
    | some k, some a => some (.load k a)
    | _, _ => none
  | .store t a x => match P.info? t, cX a, cX x, o.dst with
    | some i, some a, some x, none => some (.store i.size a x)
    | _, _, _, _ => none
  | .fieldAddr t x i => match P.underlying t, cX x with
    | some (.struct fs), some x => match fs[i]? with
      | some f => match P.info? f.type with
        | some fi => if fi.size = 0 then none else some (.fld f.offset x)
        | none => none
      | none => none
    | _, _ => none
  | .field t x i => match P.underlying t, cX x with
    | some (.struct fs), some x => match fs[i]? with
      | some f => (szT P f.type).map fun k => .fldv f.offset k x
      | none => none
    | _, _ => none
  | .indexAddr t x i => match P.underlying t, cX x, cX i with
    | some (.array ln e), some x, some i => (P.info? e).map fun ei => .ixa ln ei.size x i
    | some (.slice e), some x, some i => (P.info? e).map fun ei => .ixs ei.size x i
    | _, _, _ => none
  | .index t x i => match P.underlying t, cX x, cX i with
    | some (.array ln e), some x, some i => match P.info? e, szT P e with
      | some ei, some k => some (.ixv ln ei.size k x i)
      | _, _ => none
    | some .string, some x, some i => some (.ixstr x i)
    | _, _, _ => none
  | .binOp op t x y _ => match cX x, cX y with
    | some x, some y => match op, P.underlying t with
      | .eql, some .bool => some (.eqb false x y)
      | .neq, some .bool => some (.eqb true x y)
      | .eql, some (.struct _) => (eqs.lookup t).map fun m => .eqs false m x y
      | .neq, some (.struct _) => (eqs.lookup t).map fun m => .eqs true m x y
      | .eql, some (.array _ _) => (eqs.lookup t).map fun m => .eqs false m x y
      | .neq, some (.array _ _) => (eqs.lookup t).map fun m => .eqs true m x y
      | op, _ => some (.bin op x y)
    | _, _ => none
  | .unOp op _ x => (cX x).map (.un op)
  | .convert t u x => match P.underlying t, P.underlying u, cX x with
    | some _, some (.int k), some x => some (.conv k x)
    | _, _, _ => none
  | .makeSlice t l c => match P.underlying t, cX l, cX c, o.dst with
    | some (.slice E), some l, some c, some _ => match P.info? E with
      | some i => match i.zero with
        | some z => if allOne z.cells = true ∧ z.cells.size = i.size then some (.mk i.size i.bytes z.cells.toList l c) else none
        | none => none
      | none => none
    | _, _, _, _ => none
  | .slice t x lo (some hi) (some mx) => match P.underlying t, cX x, cO lo, cX hi, cX mx with
    | some (.slice e), some x, some lo, some hi, some mx => (P.info? e).map fun ei => .slc3 ei.size x lo hi mx
    | _, _, _, _, _ => none
  | .slice t x lo hi none => match P.underlying t, cX x, cO lo, cO hi with
    | some (.slice e), some x, some lo, some hi => (P.info? e).map fun ei => .slc ei.size x lo hi
    | some .string, some x, some lo, some hi => some (.substr x lo hi)
    | _, _, _, _ => none
  | .extract x i => (cX x).map (.ext · i)
  | .nilCheck x => (cX x).map .nilck
  | .call c => match c.callee with
    | .builtin b => compB P b o.dst c.argTypes c.args
    | .value (.func f) => match P.funcs[f]? with
      | some fn => if fn.name ≠ "runtime.NumGoroutine" ∧ fn.body.isSome = true then (allSome (c.args.toList.map cX)).map (.call f) else none
      | none => none
    | _ => none
  | _ => none

section
variable {P : Program} {n : Nat} {o : Oper}

theorem cO_map {lo : Option Operand} {l : Option PX} (h : cO lo = some l) : lo.map cX = l.map some := by
  cases lo with
  | none => simp [cO] at h; subst h; rfl
  | some x =>
    simp only [cO, Option.map_eq_some_iff] at h
    obtain ⟨y, hy, rfl⟩ := h
    simp [hy]
theorem cParts_get (place : Nat → Option (Nat × Nat)) : ∀ (ps : List (Nat × Operand)) (qs : List (Nat × Nat × PX)), cParts place ps = some qs →
    ps.length = qs.length ∧ ∀ (j : Nat) i xo off k x, ps[j]? = some (i, xo) → qs[j]? = some (off, k, x) → place i = some (off, k) ∧ cX xo = some x
  | [], qs, h => by simp [cParts] at h; subst h; exact ⟨rfl, fun j i xo off k x h => by simp at h⟩
  | (i, xo) :: r, qs, h => by
    simp only [cParts] at h
    split at h
    · rename_i off k x h1 h2
      simp only [Option.map_eq_some_iff] at h
      obtain ⟨qs', h3, rfl⟩ := h
      obtain ⟨h4, h5⟩ := cParts_get place r qs' h3
      refine ⟨by simp [h4], fun j i' xo' off' k' x' e1 e2 => ?_⟩
      cases j with
      | zero =>
        simp at e1 e2
        obtain ⟨rfl, rfl⟩ := e1
        obtain ⟨rfl, rfl, rfl⟩ := e2
        exact ⟨h1, h2⟩
      | succ j => exact h5 j i' xo' off' k' x' (by simpa using e1) (by simpa using e2)
    · cases h
theorem places_built {t : Nat} {z : Array Value} {place : Nat → Option (Nat × Nat)} (h : places P t = some (z, place)) : ∀ vals, P.built t vals = Instr.fill place z vals := by
  intro vals
  unfold places at h
  unfold Program.built
  split at h
  · rename_i it a e h1 h2
    split at h
    · rename_i zz ie h3 h4
      cases h
      simp [h1, h2, h3, h4]
    · cases h
  · rename_i it fields h1 h2
    split at h
    · rename_i zz pl h3 h4
      cases h
      simp [h1, h2, h3, h4]
    · cases h
  · cases h
theorem allOne_mem {z : Array Value} (h : allOne z = true) : ∀ v ∈ z.toList, v.oneCell' = true := List.all_eq_true.1 h
theorem szT_inv {t : Nat} {k : Option Nat} (h : szT P t = some k) : ∃ d i, P.underlying t = some d ∧ P.info? t = some i ∧ k = if aggT d = true then some i.size else none := by
  unfold szT at h
  split at h
  · rename_i d i h1 h2
    cases h
    exact ⟨d, i, h1, h2, rfl⟩
  · cases h
theorem lookup_mem {l : List (Nat × List Bool)} {t : Nat} {m : List Bool} (h : l.lookup t = some m) : (t, m) ∈ l := by
  induction l with
  | nil => cases h
  | cons p l ih =>
    obtain ⟨a, b⟩ := p
    rw [List.lookup_cons] at h
    split at h
    · rename_i he
      cases h
      have : t = a := by simpa using he
      subst this
      simp
    · exact List.mem_cons_of_mem _ (ih h)

theorem arr1 {α : Type} {a : Array α} {x : α} (h : a.toList = [x]) : a = #[x] := by rw [← Array.toArray_toList (xs := a), h]
theorem arr2 {α : Type} {a : Array α} {x y : α} (h : a.toList = [x, y]) : a = #[x, y] := by rw [← Array.toArray_toList (xs := a), h]

theorem compB_good {b : Builtin} {c : Call} {po : PO} (hd : ∀ d, o.dst = some d → d < n) (hop : o.op = .call c) (hc : c.callee = .builtin b) (h : compB P b o.dst c.argTypes c.args = some po) : Good P n o po := by
  unfold compB at h
  split at h
  · rename_i t x h1 h2
    have a1 := arr1 h1
    have a2 := arr1 h2
    split at h
    · rename_i e h3
      simp only [Option.map_eq_some_iff] at h
      obtain ⟨x', hx, rfl⟩ := h
      exact good_len hd hop hc a2 a1 h3 hx
    · rename_i h3
      simp only [Option.map_eq_some_iff] at h
      obtain ⟨x', hx, rfl⟩ := h
      exact good_strlen hd hop hc a2 a1 h3 hx
    · rename_i m e h3
      cases h
      exact good_alen hd hop hc a2 a1 h3
    · cases h
  · rename_i t t' x y h1 h2
    have a1 := arr2 h1
    have a2 := arr2 h2
    split at h
    · rename_i E x' y' d h3 h4 h5 h6
      split at h
      · rename_i i h7
        split at h
        · rename_i z h8
          split at h
          · rename_i hcond
            cases h
            obtain ⟨rfl, h9, h10⟩ := hcond
            exact good_append h6 (hd _ h6) hop hc a2 a1 h3 h7 h8 h9 h10 h4 h5
          · cases h
        · cases h
      · cases h
    · cases h
  · simp only [Option.map_eq_some_iff] at h
    obtain ⟨xs, hx, rfl⟩ := h
    exact good_mm hd (big := true) hop hc rfl hx
  · simp only [Option.map_eq_some_iff] at h
    obtain ⟨xs, hx, rfl⟩ := h
    exact good_mm hd (big := false) hop hc rfl hx
  · cases h

theorem compOp_good {eqs : List (Nat × List Bool)} (heq : ∀ p, p ∈ eqs → EqT P p.1 p.2) {po : PO} (hd : ∀ d, o.dst = some d → d < n) (h : compOp P eqs o = some po) (hnc : po.isCall = false) : Good P n o po := by
  unfold compOp at h
  split at h
  · rename_i x hop
    simp only [Option.map_eq_some_iff] at h
    obtain ⟨x', hx, rfl⟩ := h
    exact good_mv hd (.inl hop) hx
  · rename_i x hop
    split at h
    · rename_i hn
      split at h
      · rename_i E d h1 h2
        simp only [Option.map_eq_some_iff] at h
        obtain ⟨i, hi, rfl⟩ := h
        have : x = .const (.slice none 0 0) := by
          unfold isNil at hn
          split at hn
          · rfl
          · cases hn
        subst this
        exact good_nilRow h2 (hd _ h2) hop
      · cases h
    · simp only [Option.map_eq_some_iff] at h
      obtain ⟨x', hx, rfl⟩ := h
      exact good_mv hd (.inr hop) hx
  · rename_i c a b hop
    split at h
    · rename_i h1 h2 h3
      cases h
      exact good_pick hd hop h1 h2 h3
    · cases h
  · rename_i t x hop
    split at h
    · rename_i hs
      simp only [Option.map_eq_some_iff] at h
      obtain ⟨x', hx, rfl⟩ := h
      obtain ⟨d, hdd⟩ := Option.isSome_iff_exists.1 hs
      exact good_box hdd (hd _ hdd) hop hx
    · cases h
  · rename_i t hop
    split at h
    · rename_i i d h1 h2
      split at h
      · rename_i z h3
        split at h
        · rename_i h4
          cases h
          exact good_new h2 (hd _ h2) hop h1 h3 (allOne_mem h4)
        · cases h
      · cases h
    · cases h
  · rename_i t ps hop
    split at h
    · rename_i z place h1
      split at h
      · rename_i h2
        simp only [Option.map_eq_some_iff] at h
        obtain ⟨qs, h3, rfl⟩ := h
        obtain ⟨h4, h5⟩ := cParts_get place _ _ h3
        exact good_build hd hop (places_built h1) (allOne_mem h2) h4 h5
      · cases h
    · cases h
  · rename_i t ln ps hop
    split at h
    · rename_i E d h1 h2
      split at h
      · rename_i i h3
        split at h
        · rename_i z h4
          split at h
          · rename_i hcond
            simp only [Option.map_eq_some_iff] at h
            obtain ⟨qs, h5, rfl⟩ := h
            obtain ⟨h6, h7⟩ := cParts_get _ _ _ h5
            exact good_bslice h2 (hd _ h2) hop h1 h3 h4 (allOne_mem hcond.1) hcond.2.1 hcond.2.2.1 hcond.2.2.2 h6 h7
          · cases h
        · cases h
      · cases h
    · cases h
  · rename_i t a hop
    split at h
    · rename_i k x h1 h2
      cases h
      obtain ⟨d, i, h3, h4, h5⟩ := szT_inv h1
      exact good_load hd hop h3 h4 h5 h2
    · cases h
  · rename_i t a x hop
    split at h
    · rename_i h1 h2 h3 h4
      cases h
      exact good_store h4 hop h1 h2 h3
    · cases h
  · rename_i t x i hop
    split at h
    · rename_i fs x' h1 h2
      split at h
      · rename_i f h3
        split at h
        · rename_i fi h4
          split at h
          · cases h
          · rename_i h5
            cases h
            exact good_fld hd hop h1 h3 rfl h4 h5 h2
        · cases h
      · cases h
    · cases h
  · rename_i t x i hop
    split at h
    · rename_i fs x' h1 h2
      split at h
      · rename_i f h3
        simp only [Option.map_eq_some_iff] at h
        obtain ⟨k, h4, rfl⟩ := h
        obtain ⟨d, fi, h5, h6, h7⟩ := szT_inv h4
        exact good_fldv hd hop h1 h3 rfl h5 h6 h7 h2
      · cases h
    · cases h
  · rename_i t x i hop
    split at h
    · rename_i ln e x' i' h1 h2 h3
      simp only [Option.map_eq_some_iff] at h
      obtain ⟨ei, h4, rfl⟩ := h
      exact good_ixa hd hop h1 h4 h2 h3
    · rename_i e x' i' h1 h2 h3
      simp only [Option.map_eq_some_iff] at h
      obtain ⟨ei, h4, rfl⟩ := h
      exact good_ixs hd hop h1 h4 h2 h3
    · cases h
  · rename_i t x i hop
    split at h
    · rename_i ln e x' i' h1 h2 h3
      split at h
      · rename_i ei k h4 h5
        cases h
        obtain ⟨d, fi, h6, h7, h8⟩ := szT_inv h5
        rw [h4] at h7
        cases h7
        exact good_ixv hd hop h1 h6 h4 h8 h2 h3
      · cases h
    · rename_i x' i' h1 h2 h3
      cases h
      exact good_ixstr hd hop h1 h2 h3
    · cases h
  · rename_i op t x y u hop
    split at h
    · rename_i x' y' h1 h2
      split at h
      · rename_i h3; cases h; exact good_eqb hd (neg := false) hop h3 h1 h2
      · rename_i h3; cases h; exact good_eqb hd (neg := true) hop h3 h1 h2
      · simp only [Option.map_eq_some_iff] at h; obtain ⟨m, h4, rfl⟩ := h; exact good_eqs hd (neg := false) hop (heq _ (lookup_mem h4)) h1 h2
      · simp only [Option.map_eq_some_iff] at h; obtain ⟨m, h4, rfl⟩ := h; exact good_eqs hd (neg := true) hop (heq _ (lookup_mem h4)) h1 h2
      · simp only [Option.map_eq_some_iff] at h; obtain ⟨m, h4, rfl⟩ := h; exact good_eqs hd (neg := false) hop (heq _ (lookup_mem h4)) h1 h2
      · simp only [Option.map_eq_some_iff] at h; obtain ⟨m, h4, rfl⟩ := h; exact good_eqs hd (neg := true) hop (heq _ (lookup_mem h4)) h1 h2
      · cases h; exact good_bin hd hop h1 h2
    · cases h
  · rename_i op t x hop
    simp only [Option.map_eq_some_iff] at h
    obtain ⟨x', hx, rfl⟩ := h
    exact good_un hd hop hx
  · rename_i t u x hop
    split at h
    · rename_i ds k x' h1 h2 h3
      cases h
      exact good_conv hd hop h1 h2 h3
    · cases h
  · rename_i t lo co hop
    split at h
    · rename_i E l c d h1 h2 h3 h4
      split at h
      · rename_i i h5
        split at h
        · rename_i z h6
          split at h
          · rename_i hcond
            cases h
            exact good_mk h4 (hd _ h4) hop h1 h5 h6 hcond.2 (allOne_mem hcond.1) h2 h3
          · cases h
        · cases h
      · cases h
    · cases h
  · rename_i t x lo hi mx hop
    split at h
    · rename_i e x' lo' hi' mx' h1 h2 h3 h4 h5
      simp only [Option.map_eq_some_iff] at h
      obtain ⟨ei, h6, rfl⟩ := h
      exact good_slc3 hd hop h1 h6 h2 (cO_map h3) h4 h5
    · cases h
  · rename_i t x lo hi hop
    split at h
    · rename_i e x' lo' hi' h1 h2 h3 h4
      simp only [Option.map_eq_some_iff] at h
      obtain ⟨ei, h5, rfl⟩ := h
      exact good_slc hd hop h1 h5 h2 (cO_map h3) (cO_map h4)
    · rename_i x' lo' hi' h1 h2 h3 h4
      cases h
      exact good_substr hd hop h1 h2 (cO_map h3) (cO_map h4)
    · cases h
  · rename_i x i hop
    simp only [Option.map_eq_some_iff] at h
    obtain ⟨x', hx, rfl⟩ := h
    exact good_ext hd hop hx
  · rename_i x hop
    simp only [Option.map_eq_some_iff] at h
    obtain ⟨x', hx, rfl⟩ := h
    exact good_nilck hd hop hx
  · rename_i c hop
    split at h
    · rename_i b hc
      exact compB_good hd hop hc h
    · rename_i f hc
      split at h
      · split at h
        · simp only [Option.map_eq_some_iff] at h
          obtain ⟨xs, _, rfl⟩ := h
          cases hnc
        · cases h
      · cases h
    · cases h
  · cases h
end
end Go.Proofs.Ytkdagjlkejefnaa
end
section
set_option linter.unusedSimpArgs false
set_option linter.unusedVariables false
namespace Go.Proofs.Ytkdagjlkejefnaa
open Go Go.RowKit

/-- data handed over -/
def RP (S : Nat → Nat) (w : World) : Pa → Value → Prop
  | .one x, v => RD S w x v
  | .agg xs, v => ∃ arr : Array Value, v = .agg arr ∧ xs.length = arr.size ∧ ∀ (i : Nat) x u, xs[i]? = some x → arr[i]? = some u → RD S w x u
def RPs (S : Nat → Nat) (w : World) (ps : List Pa) (vs : Array Value) : Prop := ps.length = vs.size ∧ ∀ (i : Nat) p u, ps[i]? = some p → vs[i]? = some u → RP S w p u
/-- results: none, one, several -/
def RR (S : Nat → Nat) (w : World) : List Pa → Value → Prop
  | [], _ => True
  | [p], v => RP S w p v
  | ps, v => ∃ vs : Array Value, v = .tuple vs ∧ RPs S w ps vs

/-- what is known of the world at every call: it stays where the old blocks stay -/
class WInv where
  p : World → Prop
  keep : ∀ w w' : World, Below w.heap.size w w' → p w → p w'

/-- what function f does with data: R arguments results -/
def Spec [I : WInv] (P : Program) (f : Nat) (R : List Pa → List Pa → Prop) : Prop :=
  ∀ az rs, R az rs → ∀ (S : Nat → Nat) (w : World) (vals : Array Value), I.p w → RPs S w az vals →
    Calls P f vals w fun e w' => ∃ v S', e = .returned v ∧ RR S' w' rs v ∧ Below w.heap.size w w' ∧ ∀ b, b < w.heap.size → S' b = S b
/-- all but the blocks fp is az it was -/
structure ButF (fp : Nat → Prop) (w w' : World) : Prop where
  os : w'.os = w.os
  tape : w'.tape = w.tape
  output : w'.output = w.output
  size : w.heap.size ≤ w'.heap.size
  block : ∀ k, k < w.heap.size → ¬ fp k → w'.heap[k]? = w.heap[k]?
/-- an object that is made comes first -/
def RN (S : Nat → Nat) (w : World) (adr : Value) : List Pa → Value → Prop
  | [], v => v = adr
  | rs, v => ∃ vs : Array Value, v = .tuple (#[adr] ++ vs) ∧ RPs S w rs vs
/-- what function f does with an object of another maker, or which it makes -/
def SpecA [I : WInv] (P : Program) (f : Nat) (R : Option HP → List Pa → HP → List Pa → Prop) : Prop :=
  ∀ Ho az H' rs, R Ho az H' rs → ∀ (S : Nat → Nat) (w : World) (vals : Array Value), I.p w → RPs S w az vals → match Ho with
    | some H => ∀ v fp, H.r w v fp → (∀ b, fp b → S b = 0) → Calls P f (#[v] ++ vals) w fun e w' => ∃ u S' fp', e = .returned u ∧ RR S' w' rs u ∧ H'.r w' v fp' ∧ ButF fp w w' ∧ (∀ b, fp' b → (fp b ∨ w.heap.size ≤ b) ∧ S' b = 0) ∧ ∀ b, b < w.heap.size → S' b = S b
    | none => Calls P f vals w fun e w' => ∃ u S' adr fp', e = .returned u ∧ RN S' w' adr rs u ∧ adr.oneCell' = true ∧ H'.r w' adr fp' ∧ Below w.heap.size w w' ∧ (∀ b, fp' b → w.heap.size ≤ b ∧ S' b = 0) ∧ ∀ b, b < w.heap.size → S' b = S b
def SpecC [I : WInv] (P : Program) (f : Nat) (R : HP → HP → Prop) : Prop :=
  ∀ H H2, R H H2 → ∀ (w : World) (v : Value) (fp : Nat → Prop), I.p w → H.r w v fp → Calls P f #[v] w fun e w' => ∃ adr fp', e = .returned adr ∧ adr.oneCell' = true ∧ H2.r w' adr fp' ∧ Below w.heap.size w w' ∧ ∀ b, fp' b → w.heap.size ≤ b
structure EnvOK [WInv] (P : Program) (env : Env) : Prop where
  d : ∀ f, Spec P f (env.d f)
  a : ∀ f, SpecA P f (env.a f)
  c : ∀ f, SpecC P f (env.c f)

def e0 : Env := ⟨fun _ _ _ => False, fun _ _ _ _ _ => False, fun _ _ _ => False⟩
def e1 (g : Nat) (R : List Pa → List Pa → Prop) (rest : Env) : Env := ⟨fun f az rs => if f = g then R az rs else rest.d f az rs, rest.a, rest.c⟩
def a1 (g : Nat) (R : Option HP → List Pa → HP → List Pa → Prop) (rest : Env) : Env := ⟨rest.d, fun f Ho az H rs => if f = g then R Ho az H rs else rest.a f Ho az H rs, rest.c⟩
def c1 (g : Nat) (R : HP → HP → Prop) (rest : Env) : Env := ⟨rest.d, rest.a, fun f H H2 => if f = g then R H H2 else rest.c f H H2⟩
theorem EnvOK.e0 [WInv] {P : Program} : EnvOK P e0 := ⟨fun _ _ _ h => h.elim, fun _ _ _ _ _ h => h.elim, fun _ _ _ h => h.elim⟩
theorem EnvOK.e1 [WInv] {P : Program} {g : Nat} {R : List Pa → List Pa → Prop} {rest : Env} (h : Spec P g R) (hr : EnvOK P rest) : EnvOK P (e1 g R rest) := by
  refine ⟨fun f az rs hR => ?_, hr.a, hr.c⟩
  unfold Go.Proofs.Ytkdagjlkejefnaa.e1 at hR
  dsimp only at hR
  split at hR
  · rename_i he; subst he; exact h az rs hR
  · exact hr.d f az rs hR
theorem EnvOK.a1 [WInv] {P : Program} {g : Nat} {R : Option HP → List Pa → HP → List Pa → Prop} {rest : Env} (h : SpecA P g R) (hr : EnvOK P rest) : EnvOK P (a1 g R rest) := by
  refine ⟨hr.d, fun f Ho az H rs hR => ?_, hr.c⟩
  unfold Go.Proofs.Ytkdagjlkejefnaa.a1 at hR
  dsimp only at hR
  split at hR
  · rename_i he; subst he; exact h Ho az H rs hR
  · exact hr.a f Ho az H rs hR
theorem EnvOK.c1 [WInv] {P : Program} {g : Nat} {R : HP → HP → Prop} {rest : Env} (h : SpecC P g R) (hr : EnvOK P rest) : EnvOK P (c1 g R rest) := by
  refine ⟨hr.d, hr.a, fun f H H2 hR => ?_⟩
  unfold Go.Proofs.Ytkdagjlkejefnaa.c1 at hR
  dsimp only at hR
  split at hR
  · rename_i he; subst he; exact h H H2 hR
  · exact hr.c f H H2 hR

def dstOk (n : Nat) : Option Nat → Bool
  | some d => decide (d < n)
  | none => true
theorem dstOk_lt {n : Nat} {x : Option Nat} (h : dstOk n x = true) : ∀ d, x = some d → d < n := by
  rintro d rfl
  simpa [dstOk] using h

def compI (P : Program) (n : Nat) (eqs : List (Nat × List Bool)) (ops : Array Oper) (o : Oper) : Option PI :=
  match compOp P eqs o with
  | some po => if dstOk n o.dst = true then
      match o.guard with
      | none => some { dst := o.dst, op := po, guard := none, after := o.after.toList.filterMap fun e => if Region.binds .any e = true then some e.on else none }
      | some (g, want) => match (ops[g]?).bind (·.dst) with
        | some t => some { dst := o.dst, op := po, guard := some (t, want), after := o.after.toList.filterMap fun e => if Region.binds .any e = true then some e.on else none }
        | none => none
    else none
  | none => none

def compC (P : Program) (n : Nat) (eqs : List (Nat × List Bool)) : Code → Option PC
  | .skip => some .skip
  | .region _ ops draw => (allSome (ops.toList.map (compI P n eqs ops))).map (.reg draw)
  | .seq a b => match compC P n eqs a, compC P n eqs b with
    | some a, some b => some (.seq a b)
    | _, _ => none
  | .cond c a b => match cX c, compC P n eqs a, compC P n eqs b with
    | some c, some a, some b => some (.cond c a b)
    | _, _, _ => none
  | .block id c => (compC P n eqs c).map (.block id)
  | .loop c => (compC P n eqs c).map .loop
  | .exit id => some (.exit id)
  | .ret => some .ret
  | _ => none

section
variable {P : Program} {n : Nat} {w0 : World} {S0 : Nat → Nat} {W : Wit} {s : St} {a : Act} {w : World}

theorem RA.pa {G : Nat → Nat} {O : Nat → Ob} {v : Av} {p : Pa} {u : Value} (h : RA W G O w v u) (hp : v.pa = some p) : RP W.S w p u := by
  cases v with
  | un => cases hp
  | tup xs => cases hp
  | b x =>
    cases x with
    | one c =>
      simp only [Av.pa, Bv.pa, Option.map_eq_some_iff] at hp
      obtain ⟨y, hy, rfl⟩ := hp
      exact RC.dt h hy
    | agg cs =>
      simp only [Av.pa, Bv.pa, Option.map_eq_some_iff] at hp
      obtain ⟨ys, hy, rfl⟩ := hp
      obtain ⟨arr, h1, h2, h3⟩ := h
      have h4 := allSome_get _ _ hy
      refine ⟨arr, h1, ?_, fun i x u' h5 h6 => ?_⟩
      · have := congrArg List.length h4; simp at this h2; omega
      · have h7 := congrArg (·[i]?) h4
        simp only [List.getElem?_map, h5, Option.map_some] at h7
        cases hc : cs[i]? with
        | none => rw [hc] at h7; simp at h7
        | some c =>
          rw [hc] at h7
          simp at h7
          exact RC.dt (h3 i c u' hc (by simpa using h6)) h7

theorem RP.av {G : Nat → Nat} {O : Nat → Ob} {p : Pa} {u : Value} (h : RP W.S w p u) : RB W G O w p.bv u := by
  cases p with
  | one x => exact h
  | agg xs =>
    obtain ⟨arr, h1, h2, h3⟩ := h
    refine ⟨arr, h1, by simp [h2], fun i c u' h4 h5 => ?_⟩
    simp only [List.getElem?_map, Option.map_eq_some_iff] at h4
    obtain ⟨x, hx, rfl⟩ := h4
    exact h3 i x u' hx (by simpa using h5)
theorem RR.av {G : Nat → Nat} {O : Nat → Ob} {ps : List Pa} {u : Value} (h : RR W.S w ps u) : RA W G O w (resAv ps) u := by
  match ps with
  | [] => trivial
  | [p] => exact RP.av h
  | p :: q :: r =>
    obtain ⟨vs, h1, h2, h3⟩ := h
    refine ⟨vs, h1, by simpa using h2, fun i x u' h4 h5 => ?_⟩
    have h4' : ((p :: q :: r).map Pa.bv)[i]? = some x := h4
    rw [List.getElem?_map, Option.map_eq_some_iff] at h4'
    obtain ⟨y, hy, rfl⟩ := h4'
    exact RP.av (h3 i y u' hy h5)

/-- a callee has made new blocks -/
theorem Sim.called (hs : Sim w0 S0 n W s a w) {S' : Nat → Nat} {w' : World} (hb : Below w.heap.size w w') (hS : ∀ b, b < w.heap.size → S' b = W.S b) {dst : Option Nat} (hd : ∀ d, dst = some d → d < n) {v : Av} {rv : Value}
    (hv : RA { W with S := S' } s.gen s.ob w' v rv) : Sim w0 S0 n { W with S := S' } (s.ap dst v .no) (a.put dst rv) w' := by
  have hfol : Fol W s.gen s.ob w { W with S := S' } s.gen s.ob w' := by
    refine ⟨fun b i h1 h2 => ?_, fun _ => Nat.le_refl _, fun _ _ => rfl, fun o E sz k _ ho => ⟨k, ho, Nat.le_refl _, fun _ => rfl⟩, fun _ _ => rfl⟩
    have hlt : b < w.heap.size := by
      cases hcell : w.cell? ⟨b, i, none⟩ with
      | none => rw [hcell] at h2; cases h2
      | some y =>
        rcases Nat.lt_or_ge b w.heap.size with h | h
        · exact h
        · simp [World.cell?, Array.getElem?_eq_none h] at hcell
    exact ⟨by show i < S' b; rw [hS b hlt]; exact h1, by simp [World.cell?, hb.block b hlt]⟩
  refine hs.step hd hfol (hb.mono hs.below.size) (fun b hb2 => hS b (Nat.lt_of_lt_of_le hb2 hs.below.size)) hv (fun o => ?_) hs.ex
  exact RO.fol hfol (hs.ob o) rfl rfl rfl (fun b hb2 => ⟨hb.block b (cl_lt hs hb2).2, hS b (cl_lt hs hb2).2⟩)

theorem cell_lt {w : World} {b i : Nat} (h : (w.cell? ⟨b, i, none⟩).isSome = true) : b < w.heap.size := by
  cases hcell : w.cell? ⟨b, i, none⟩ with
  | none => rw [hcell] at h; cases h
  | some y =>
    rcases Nat.lt_or_ge b w.heap.size with h | h
    · exact h
    · simp [World.cell?, Array.getElem?_eq_none h] at hcell
/-- a method has turned its object -/
theorem Sim.meth (hs : Sim w0 S0 n W s a w) {o : Nat} {H H' : HP} (ho : s.ob o = .ab H) {S' : Nat → Nat} {fp' : Nat → Prop} {w' : World} (hb : ButF (W.fp o) w w') (hr : H'.r w' (W.adr o) fp') (hfp : ∀ b, fp' b → (W.fp o b ∨ w.heap.size ≤ b) ∧ S' b = 0)
    (hS : ∀ b, b < w.heap.size → S' b = W.S b) {dst : Option Nat} (hd : ∀ d, dst = some d → d < n) {v : Av} {rv : Value} (hv : RA { W with S := S', fp := up W.fp o fp' } s.gen (up s.ob o (.ab H')) w' v rv) :
    Sim w0 S0 n { W with S := S', fp := up W.fp o fp' } (s.ap dst v (.ab o H')) (a.put dst rv) w' := by
  have hro := hs.ob o
  rw [ho] at hro
  obtain ⟨_, hfo⟩ := hro
  have hbs := hs.below.size
  have hclf : ∀ b, W.fp o b → cl W o (s.ob o) b := fun b h => by rw [ho]; exact h
  have hfol : Fol W s.gen s.ob w { W with S := S', fp := up W.fp o fp' } s.gen (up s.ob o (.ab H')) w' := by
    refine ⟨fun b i h1 h2 => ?_, fun _ => Nat.le_refl _, fun _ _ => rfl, fun o' E sz k _ hk => ?_, fun _ _ => rfl⟩
    · have hlt := cell_lt h2
      have hnf : ¬ W.fp o b := fun h => by rw [(hfo b h).2] at h1; omega
      exact ⟨by show i < S' b; rw [hS b hlt]; exact h1, by simp [World.cell?, hb.block b hlt hnf]⟩
    · rw [up_at] at hk
      split at hk
      · cases hk
      · exact ⟨k, hk, Nat.le_refl _, fun _ => rfl⟩
  refine hs.step hd hfol ⟨hb.os, hb.tape, hb.output, hb.size, fun b hb2 => hb.block b (by omega) (fun h => by have := (hfo b h).1; omega)⟩ (fun b hb2 => hS b (by omega)) hv (fun o' => ?_) (fun o1 o2 b h1 h2 => ?_)
  · show RO _ _ _ _ _ _ (up s.ob o (.ab H') o')
    rw [up_at]
    split
    · rename_i he
      subst he
      refine ⟨?_, fun b hb2 => ?_⟩
      · show H'.r w' (W.adr o') (up W.fp o' fp' o')
        rw [up_at, if_pos rfl]; exact hr
      · have hb3 : up W.fp o' fp' o' b := hb2
        rw [up_at, if_pos rfl] at hb3
        obtain ⟨h3, h4⟩ := hfp b hb3
        exact ⟨h3.elim (fun h => (hfo b h).1) (fun h => by omega), h4⟩
    · rename_i he
      refine RO.fol hfol (hs.ob o') rfl rfl (by show up W.fp o fp' o' = _; rw [up_at, if_neg he]) (fun b hb2 => ?_)
      have hlt := (cl_lt hs hb2).2
      exact ⟨hb.block b hlt (fun h => he (hs.ex _ _ _ hb2 (hclf b h))), hS b hlt⟩
  · have claim : ∀ o' b, cl { W with S := S', fp := up W.fp o fp' } o' ((s.ap dst v (.ab o H')).ob o') b → (o' = o ∧ fp' b) ∨ (o' ≠ o ∧ cl W o' (s.ob o') b) := fun o' b h => by
      have h' : cl { W with S := S', fp := up W.fp o fp' } o' (up s.ob o (.ab H') o') b := h
      rw [up_at] at h'
      by_cases he : o' = o
      · rw [if_pos he] at h'
        subst he
        have h2 : up W.fp o' fp' o' b := h'
        rw [up_at, if_pos rfl] at h2
        exact .inl ⟨rfl, h2⟩
      · rw [if_neg he] at h'
        refine .inr ⟨he, ?_⟩
        generalize s.ob o' = y at h' ⊢
        cases y with
        | no => exact h'
        | cells cs => exact h'
        | row E sz m => exact h'
        | ab H2 => have h2 : up W.fp o fp' o' b := h'; rw [up_at, if_neg he] at h2; exact h2
    rcases claim o1 b h1 with ⟨e1, g1⟩ | ⟨n1, g1⟩ <;> rcases claim o2 b h2 with ⟨e2, g2⟩ | ⟨n2, g2⟩
    · rw [e1, e2]
    · have hlt := (cl_lt hs g2).2
      rcases (hfp b g1).1 with h | h
      · exact absurd (hs.ex _ _ _ g2 (hclf b h)) n2
      · omega
    · have hlt := (cl_lt hs g1).2
      rcases (hfp b g2).1 with h | h
      · exact absurd (hs.ex _ _ _ g1 (hclf b h)) n1
      · omega
    · exact hs.ex _ _ _ g1 g2
/-- a callee has made an object -/
theorem Sim.made (hs : Sim w0 S0 n W s a w) {d : Nat} {H' : HP} {S' : Nat → Nat} {adr : Value} {fp' : Nat → Prop} {w' : World} (hb : Below w.heap.size w w') (hr : H'.r w' adr fp') (hfp : ∀ b, fp' b → w.heap.size ≤ b ∧ S' b = 0)
    (hS : ∀ b, b < w.heap.size → S' b = W.S b) {dst : Option Nat} (hd : ∀ d, dst = some d → d < n) {v : Av} {rv : Value} (hv : RA { W with S := S', adr := up W.adr d adr, fp := up W.fp d fp' } (up s.gen d (s.gen d + 1)) (up s.ob d (.ab H')) w' v rv) :
    Sim w0 S0 n { W with S := S', adr := up W.adr d adr, fp := up W.fp d fp' } (s.ap dst v (.new d (.ab H'))) (a.put dst rv) w' := by
  have hbs := hs.below.size
  have hfol : Fol W s.gen s.ob w { W with S := S', adr := up W.adr d adr, fp := up W.fp d fp' } (up s.gen d (s.gen d + 1)) (up s.ob d (.ab H')) w' := by
    refine ⟨fun b i h1 h2 => ?_, fun o' => ?_, fun o' h => rfl, fun o' E sz n' h h2 => ?_, fun o' h => ?_⟩
    · have hlt := cell_lt h2
      exact ⟨by show i < S' b; rw [hS b hlt]; exact h1, by simp [World.cell?, hb.block b hlt]⟩
    · rw [up_at]; split <;> (try omega)
      rename_i h; rw [h]; omega
    · have : o' ≠ d := by rintro rfl; rw [up_at, if_pos rfl] at h; omega
      rw [up_at, if_neg this] at h2
      exact ⟨n', h2, Nat.le_refl _, fun _ => rfl⟩
    · have : o' ≠ d := by rintro rfl; rw [up_at, if_pos rfl] at h; omega
      show up W.adr d adr o' = _
      rw [up_at, if_neg this]
  refine hs.step hd hfol (hb.mono hs.below.size) (fun b hb2 => hS b (by omega)) hv (fun o' => ?_) (fun o1 o2 b h1 h2 => ?_)
  · show RO _ _ _ _ _ _ (up s.ob d (.ab H') o')
    rw [up_at]
    split
    · rename_i he
      subst he
      refine ⟨?_, fun b hb2 => ?_⟩
      · show H'.r w' (up W.adr o' adr o') (up W.fp o' fp' o')
        rw [up_at, if_pos rfl, up_at, if_pos rfl]; exact hr
      · have hb3 : up W.fp o' fp' o' b := hb2
        rw [up_at, if_pos rfl] at hb3
        obtain ⟨h3, h4⟩ := hfp b hb3
        exact ⟨by omega, h4⟩
    · rename_i he
      refine RO.fol hfol (hs.ob o') (by rw [up_at, if_neg he]) rfl (by show up W.fp d fp' o' = _; rw [up_at, if_neg he]) (fun b hb2 => ?_)
      have hlt := (cl_lt hs hb2).2
      exact ⟨hb.block b hlt, hS b hlt⟩
  · have claim : ∀ o' b, cl { W with S := S', adr := up W.adr d adr, fp := up W.fp d fp' } o' ((s.ap dst v (.new d (.ab H'))).ob o') b → (o' = d ∧ w.heap.size ≤ b) ∨ (o' ≠ d ∧ cl W o' (s.ob o') b ∧ b < w.heap.size) := fun o' b h => by
      have h' : cl { W with S := S', adr := up W.adr d adr, fp := up W.fp d fp' } o' (up s.ob d (.ab H') o') b := h
      rw [up_at] at h'
      by_cases he : o' = d
      · rw [if_pos he] at h'
        subst he
        have h2 : up W.fp o' fp' o' b := h'
        rw [up_at, if_pos rfl] at h2
        exact .inl ⟨rfl, (hfp b h2).1⟩
      · rw [if_neg he] at h'
        have : cl W o' (s.ob o') b := by
          generalize s.ob o' = y at h' ⊢
          cases y with
          | no => exact h'
          | cells cs => exact h'
          | row E sz m => exact h'
          | ab H2 => have h2 : up W.fp d fp' o' b := h'; rw [up_at, if_neg he] at h2; exact h2
        exact .inr ⟨he, this, (cl_lt hs this).2⟩
    rcases claim o1 b h1 with ⟨e1, g1⟩ | ⟨n1, g1, l1⟩ <;> rcases claim o2 b h2 with ⟨e2, g2⟩ | ⟨n2, g2, l2⟩
    · rw [e1, e2]
    · omega
    · omega
    · exact hs.ex _ _ _ g1 g2
theorem RN.av {G : Nat → Nat} {O : Nat → Ob} {d : Nat} {adr : Value} {S' : Nat → Nat} {fp' : Nat → Prop} (h1c : adr.oneCell' = true) {ps : List Pa} {u : Value} (h : RN S' w adr ps u) : RA { W with S := S', adr := up W.adr d adr, fp := up W.fp d fp' } (up G d (G d + 1)) O w (newAv d (G d + 1) ps) u := by
  have hab : RC { W with S := S', adr := up W.adr d adr, fp := up W.fp d fp' } (up G d (G d + 1)) O w (.ab d (G d + 1)) adr := by
    refine ⟨h1c, by rw [up_at, if_pos rfl]; exact Nat.le_refl _, fun _ => ?_⟩
    show adr = up W.adr d adr d
    rw [up_at, if_pos rfl]
  match ps with
  | [] =>
    have h' : u = adr := h
    subst h'
    exact hab
  | p :: q =>
    obtain ⟨vs, h2, h3, h4⟩ := h
    refine ⟨#[adr] ++ vs, h2, by simp at h3 ⊢; omega, fun i x u' h5 h6 => ?_⟩
    cases i with
    | zero =>
      have h6' : some adr = some u' := by rw [← h6, Array.getElem?_append_left (by simp)]; rfl
      simp at h5
      subst h5; cases h6'
      exact hab
    | succ i =>
      have h5' : ((p :: q).map Pa.bv)[i]? = some x := by simpa using h5
      rw [List.getElem?_map, Option.map_eq_some_iff] at h5'
      obtain ⟨y, hy, rfl⟩ := h5'
      have h6' : vs[i]? = some u' := by
        rw [Array.getElem?_append_right (by simp)] at h6
        simpa using h6
      exact RP.av (h4 i y u' hy h6')

theorem recv_ev (hs : Sim w0 S0 n W s a w) {y : Operand} {x : PX} (hx : cX y = some x) {o g : Nat} (hr : (s.ev x).abOf = some (o, g)) {H : HP} (hH : s.abAt o g = some H) : a.eval y = W.adr o ∧ s.ob o = .ab H := by
  unfold St.abAt at hH
  split at hH
  · rename_i hg
    split at hH
    · rename_i H2 hob
      cases hH
      refine ⟨?_, hob⟩
      have hev := evX hs hx
      cases hv : s.ev x with
      | un => rw [hv] at hr; cases hr
      | tup ys => rw [hv] at hr; cases hr
      | b z =>
        rw [hv] at hr hev
        cases z with
        | agg cs => cases hr
        | one c =>
          cases c <;> simp only [Av.abOf, Bv.abOf, Cl.abOf] at hr <;> cases hr
          exact hev.2.2 hg.symm
    · cases hH
  · cases hH

theorem args_ev (hs : Sim w0 S0 n W s a w) : ∀ (xo : List Operand) (xs : List PX) (az : List Pa), allSome (xo.map cX) = some xs → s.args xs = some az →
    az.length = xo.length ∧ ∀ (i : Nat) p y, az[i]? = some p → xo[i]? = some y → RP W.S w p (a.eval y) := by
  intro xo
  induction xo with
  | nil =>
    intro xs az h1 h2
    simp [allSome] at h1; subst h1
    simp [St.args, allSome] at h2; subst h2
    exact ⟨rfl, fun i p y h => by simp at h⟩
  | cons y ys ih =>
    intro xs az h1 h2
    simp only [List.map_cons] at h1
    cases hy : cX y with
    | none => rw [hy] at h1; simp [allSome] at h1
    | some x =>
      rw [hy] at h1
      simp only [allSome, Option.map_eq_some_iff] at h1
      obtain ⟨xs', hxs, rfl⟩ := h1
      simp only [St.args, List.map_cons] at h2
      cases hp : (s.ev x).pa with
      | none => rw [hp] at h2; simp [allSome] at h2
      | some p =>
        rw [hp] at h2
        simp only [allSome, Option.map_eq_some_iff] at h2
        obtain ⟨az', has, rfl⟩ := h2
        obtain ⟨h3, h4⟩ := ih xs' az' hxs has
        refine ⟨by simp [h3], fun i q z e1 e2 => ?_⟩
        cases i with
        | zero =>
          simp at e1 e2
          subst e1; subst e2
          exact RA.pa (evX hs hy) hp
        | succ i => exact h4 i q z (by simpa using e1) (by simpa using e2)

/-- one operation, behind its guard -/
theorem pi_wpOp [I : WInv] {env : Env} (hE : EnvOK P env) (hp : I.p w0) {eqs : List (Nat × List Bool)} (heq : ∀ p, p ∈ eqs → EqT P p.1 p.2) {ops : Array Oper} {o : Oper} {i : PI} {idx : Nat} {Q : Exit → Act → World → Prop} (hi : ops[idx]? = some o) (hc : compI P n eqs ops o = some i) (hs : Sim w0 S0 n W s a w)
    {K : Av → Cg → Prop} (hgo : i.go env s K) {K' : Act → World → Prop} (hK : ∀ v ch W' a' w', K v ch → Sim w0 S0 n W' (s.ap i.dst v ch) a' w' → K' a' w') : wpOp P ops Q idx K' a w := by
  unfold compI at hc
  split at hc
  · rename_i po hpo
    split at hc
    · rename_i hdst
      have hd := dstOk_lt hdst
      -- the operation itself
      have op : ∀ K : Av → Cg → Prop, (∀ v ch W' a' w', K v ch → Sim w0 S0 n W' (s.ap o.dst v ch) a' w' → K' a' w') → po.go env s (o.dst.getD 0) K → o.wp P a w K' Q := fun K hK hg => by
        cases hcall : po.isCall with
        | false =>
          have hg' : ∃ v ch, po.fn s (o.dst.getD 0) = some (v, ch) ∧ K v ch := by
            have h1 : withSome (po.fn s (o.dst.getD 0)) (fun p => K p.1 p.2) := by
              cases po <;> first | exact hg | cases hcall
            obtain ⟨⟨v, ch⟩, h2, h3⟩ := withSome_iff.1 h1
            exact ⟨v, ch, h2, h3⟩
          obtain ⟨v, ch, h1, h2⟩ := hg'
          obtain ⟨W', rv, w', h3, h4⟩ := compOp_good heq hd hpo hcall w0 S0 W s a w v ch hs h1
          unfold Oper.wp
          rcases h3 with h3 | ⟨h3, rfl⟩
          · rw [h3]; exact hK v ch W' _ _ h2 h4
          · rw [h3]; exact hK v ch W' _ _ h2 h4
        | true =>
          cases po with
          | call f xs =>
            unfold compOp at hpo
            split at hpo
            case h_22 c hop =>
              split at hpo
              · rename_i b hcb
                unfold compB at hpo
                (repeat' split at hpo) <;> (first | (cases hpo; done) | (simp only [Option.map_eq_some_iff] at hpo; obtain ⟨_, _, h⟩ := hpo; cases h))
              · rename_i f' hcf
                split at hpo
                · rename_i fn hfn
                  split at hpo
                  · rename_i hcond
                    simp only [Option.map_eq_some_iff] at hpo
                    obtain ⟨xs', hxs, heqc⟩ := hpo
                    cases heqc
                    have hrun : (execOp a.eval o).run P w = .ok (.enter f (c.args.map a.eval)) w := by
                      have hn := hcond.1
                      have hb2 : fn.body ≠ none := by
                        intro hb
                        have := hcond.2
                        rw [hb] at this; cases this
                      simp [execOp, hop, resolve, hcf, Act.eval, Deferred.ofValue, invoke, callFunc, hfn, hn, hb2]
                    unfold Oper.wp
                    rw [hrun]
                    have hwi := I.keep _ _ hs.below hp
                    have hg' : callG env s (o.dst.getD 0) K f xs (s.recv xs) := hg
                    cases hrc : s.recv xs with
                    | none =>
                      rw [hrc] at hg'
                      obtain ⟨az, h1, hg'⟩ := withSome_iff.1 hg'
                      obtain ⟨h4, h5⟩ := args_ev hs _ _ _ hxs h1
                      have hargs : RPs W.S w az (c.args.map a.eval) := ⟨by simpa using h4, fun i p u e1 e2 => by
                        rw [Array.getElem?_map, Option.map_eq_some_iff] at e2
                        obtain ⟨y, hy, rfl⟩ := e2
                        exact h5 i p y e1 (by simpa using hy)⟩
                      rcases hg' with ⟨rs, h2, h3⟩ | ⟨H, rs, h2, h3⟩
                      · refine (hE.d f az rs h2 W.S w (c.args.map a.eval) hwi hargs).mono ?_
                        rintro e w' ⟨v, S', rfl, h6, h7, h8⟩
                        exact hK _ _ _ _ _ h3 (hs.called h7 h8 hd (RR.av (W := { W with S := S' }) h6))
                      · refine (hE.a f none az H rs h2 W.S w (c.args.map a.eval) hwi hargs).mono ?_
                        rintro e w' ⟨u, S', adr, fp', rfl, h6, h7, h8, h9, h10, h11⟩
                        exact hK _ _ _ _ _ h3 (hs.made h9 h8 h10 h11 hd (RN.av h7 h6))
                    | some og =>
                      obtain ⟨ob, gg⟩ := og
                      rw [hrc] at hg'
                      obtain ⟨az, h1, hg2⟩ := withSome_iff.1 hg'
                      obtain ⟨H, hH, hg3⟩ := withSome_iff.1 hg2
                      cases hcl : c.args.toList with
                      | nil =>
                        rw [hcl] at hxs
                        simp only [List.map_nil, allSome, Option.some.injEq] at hxs
                        rw [← hxs] at hrc; cases hrc
                      | cons y ys =>
                        rw [hcl] at hxs
                        simp only [List.map_cons] at hxs
                        cases hy : cX y with
                        | none => rw [hy] at hxs; simp [allSome] at hxs
                        | some x =>
                          rw [hy] at hxs
                          simp only [allSome, Option.map_eq_some_iff] at hxs
                          obtain ⟨xs'', hxs'', rfl⟩ := hxs
                          obtain ⟨hadr, hob⟩ := recv_ev hs hy hrc hH
                          obtain ⟨h4, h5⟩ := args_ev hs ys xs'' az hxs'' h1
                          have hvals : c.args.map a.eval = #[W.adr ob] ++ (ys.map a.eval).toArray := by
                            have : c.args = (y :: ys).toArray := by rw [← hcl]
                            rw [this]
                            simp [hadr]
                          have hargs : RPs W.S w az (ys.map a.eval).toArray := ⟨by simpa using h4, fun i p u e1 e2 => by
                            simp only [List.getElem?_toArray, List.getElem?_map, Option.map_eq_some_iff] at e2
                            obtain ⟨z, hz, rfl⟩ := e2
                            exact h5 i p z e1 hz⟩
                          have hro := hs.ob ob
                          rw [hob] at hro
                          rw [hvals]
                          rcases hg3 with ⟨H', rs, h2, h3⟩ | ⟨H2, has, h2, h3⟩
                          · refine (hE.a f (some H) az H' rs h2 W.S w _ hwi hargs (W.adr ob) (W.fp ob) hro.1 (fun b hb => (hro.2 b hb).2)).mono ?_
                            rintro e w' ⟨u, S', fp', rfl, h6, h7, h8, h9, h10⟩
                            exact hK _ _ _ _ _ h3 (hs.meth hob h8 h7 h9 h10 hd (RR.av (W := { W with S := S', fp := up W.fp ob fp' }) h6))
                          · subst has
                            have hys : ys = [] := List.eq_nil_of_length_eq_zero h4.symm
                            subst hys
                            refine (hE.c f H H2 h2 w (W.adr ob) (W.fp ob) hwi hro.1).mono ?_
                            rintro e w' ⟨adr, fp', rfl, h6, h7, h8, h9⟩
                            exact hK _ _ _ _ _ h3 (hs.made (S' := fun b => if b < w.heap.size then W.S b else 0) h8 h7 (fun b hb => ⟨h9 b hb, if_neg (by have := h9 b hb; omega)⟩) (fun b hb => if_pos hb) hd (RN.av (ps := []) h6 rfl))
                  · cases hpo
                · cases hpo
              · cases hpo
            all_goals first
              | (cases hpo; done)
              | ((repeat' split at hpo) <;> (first | (cases hpo; done) | (simp only [Option.map_eq_some_iff] at hpo; obtain ⟨_, _, h⟩ := hpo; cases h)))
              | (simp only [Option.map_eq_some_iff] at hpo; obtain ⟨_, _, h⟩ := hpo; cases h)
          | _ => cases hcall
      unfold wpOp
      simp only [hi]
      split at hc
      · rename_i hg
        cases hc
        have hw : Region.wanted o (yielded ops a.tmps) = true := by simp [Region.wanted, hg]
        rw [if_pos hw]
        exact .inl (op K hK hgo)
      · rename_i g want hg
        split at hc
        · rename_i t ht
          cases hc
          obtain ⟨b, hb, h1, h2⟩ := withSome_iff.1 hgo
          have hy : yielded ops a.tmps g = b := by
            unfold St.gd at hb
            split at hb
            · rename_i hsk
              cases hb
              have h3 := hs.sl t
              have hslot : a.tmps.getD t undef = .tuple #[] := by
                cases hv : s.sl t with
                | un => rw [hv] at hsk; cases hsk
                | b x => rw [hv] at hsk; cases hsk
                | tup xs =>
                  cases xs with
                  | cons x xs => rw [hv] at hsk; cases hsk
                  | nil =>
                    rw [hv] at h3
                    obtain ⟨vs, e1, e2, _⟩ := h3
                    have : vs = #[] := by apply Array.eq_empty_of_size_eq_zero; simpa using e2.symm
                    rw [e1, this]
              unfold yielded
              rw [ht]
              simp only [Option.bind_some]
              cases hq : a.tmps[t]? with
              | none => rfl
              | some u => simp [hq] at hslot; rw [hslot]
            · rw [Option.map_eq_some_iff] at hb
              obtain ⟨c, hc, rfl⟩ := hb
              have hslot : a.tmps.getD t undef = .bool c := by
                have := boo_ev hs (xo := .tmp t) (x := .t t) rfl hc
                simpa [Act.eval] using this
              unfold yielded
              rw [ht]
              simp only [Option.bind_some]
              cases hq : a.tmps[t]? with
              | none => simp [hq, undef] at hslot
              | some u => simp [hq] at hslot; rw [hslot]
          by_cases hbw : b = some want
          · have hw : Region.wanted o (yielded ops a.tmps) = true := by simp [Region.wanted, hg, hy, hbw]
            rw [if_pos hw]
            exact .inl (op K hK (h1 hbw))
          · have hw : Region.wanted o (yielded ops a.tmps) = false := by simp [Region.wanted, hg, hy, hbw]
            rw [if_neg (by rw [hw]; decide)]
            exact hK _ _ _ _ _ (h2 hbw) (hs.put hd ⟨#[], rfl, rfl, fun i x u h => by simp at h⟩)
        · cases hc
    · cases hc
  · cases hc
end
end Go.Proofs.Ytkdagjlkejefnaa
end
section
set_option linter.unusedSimpArgs false
set_option linter.unusedVariables false
namespace Go.Proofs.Ytkdagjlkejefnaa
open Go Go.RowKit

section
variable {P : Program} {n : Nat} {w0 : World} {S0 : Nat → Nat}

theorem pi_ops [I : WInv] {env : Env} (hE : EnvOK P env) (hp : I.p w0) {eqs : List (Nat × List Bool)} (heq : ∀ p, p ∈ eqs → EqT P p.1 p.2) {ops : Array Oper} {Q : Exit → Act → World → Prop} {K : St → Prop}
    (hK : ∀ s W a w, K s → Sim w0 S0 n W s a w → Q .normal a w) : ∀ (is : List PI) (k : Nat) (W : Wit) (s : St) (a : Act) (w : World), (ops.toList.drop k).map (compI P n eqs ops) = is.map some → Sim w0 S0 n W s a w → evalOps env is s K →
      wpOps P ops Q (List.range' k is.length) a w := by
  intro is
  induction is with
  | nil => intro k W s a w _ hs h; exact hK s W a w h hs
  | cons i is ih =>
    intro k W s a w hm hs h
    have hlt : k < ops.toList.length := by
      rcases Nat.lt_or_ge k ops.toList.length with h | h
      · exact h
      · rw [List.drop_eq_nil_of_le h] at hm; simp at hm
    rw [List.drop_eq_getElem_cons hlt] at hm
    simp only [List.map_cons, List.cons.injEq] at hm
    rw [List.length_cons, List.range'_succ, wpOps_cons]
    refine pi_wpOp hE hp heq (by simp) hm.1 hs h (fun v ch W' a' w' h1 h2 => ?_)
    exact ih (k + 1) W' _ a' w' hm.2 h2 h1

end
end Go.Proofs.Ytkdagjlkejefnaa
end
section
set_option linter.unusedSimpArgs false
set_option linter.unusedVariables false
namespace Go.Proofs.Ytkdagjlkejefnaa
open Go Go.RowKit

theorem wrAt_get : ∀ (cs : List Cl) (off : Nat) (ds : List Cl) (i : Nat), (wrAt cs off ds)[i]? = if off ≤ i ∧ i < off + ds.length ∧ i < cs.length then ds[i - off]? else cs[i]?
  | [], off, ds, i => by simp [wrAt]
  | c :: cs, 0, [], i => by simp [wrAt]
  | c :: cs, 0, d :: ds, i => by
    simp only [wrAt]
    cases i with
    | zero => simp
    | succ i =>
      rw [List.getElem?_cons_succ, wrAt_get cs 0 ds i]
      by_cases h : i < ds.length ∧ i < cs.length
      · rw [if_pos ⟨by omega, by omega, h.2⟩, if_pos ⟨by omega, by simp; omega, by simp; exact h.2⟩]
        simp
      · rw [if_neg (by intro h2; exact h ⟨by omega, h2.2.2⟩), if_neg (by intro h2; simp at h2; exact h ⟨by omega, h2.2⟩)]
        simp
  | c :: cs, k + 1, ds, i => by
    simp only [wrAt]
    cases i with
    | zero => simp
    | succ i =>
      rw [List.getElem?_cons_succ, wrAt_get cs k ds i]
      by_cases h : k ≤ i ∧ i < k + ds.length ∧ i < cs.length
      · rw [if_pos h, if_pos ⟨by omega, by omega, by simp; exact h.2.2⟩, show i + 1 - (k + 1) = i - k by omega]
      · rw [if_neg h, if_neg (by intro h2; simp at h2; exact h ⟨h2.1, by omega, h2.2.2⟩)]
        simp
theorem wrAt_length (cs : List Cl) (off : Nat) (ds : List Cl) : (wrAt cs off ds).length = cs.length := by
  apply Nat.le_antisymm
  · rcases Nat.lt_or_ge cs.length (wrAt cs off ds).length with h | h
    · have h1 := List.getElem?_eq_getElem h
      rw [wrAt_get, if_neg (by omega), List.getElem?_eq_none (Nat.le_refl _)] at h1
      cases h1
    · exact h
  · rcases Nat.lt_or_ge (wrAt cs off ds).length cs.length with h | h
    · have h1 : (wrAt cs off ds)[(wrAt cs off ds).length]? = none := List.getElem?_eq_none (Nat.le_refl _)
      rw [wrAt_get] at h1
      split at h1
      · rename_i h2
        rw [List.getElem?_eq_getElem (by omega)] at h1
        cases h1
      · rw [List.getElem?_eq_getElem h] at h1
        cases h1
    · exact h
theorem wrAt_comm (cs : List Cl) {a b : Nat} {xs ys : List Cl} (h : a + xs.length ≤ b ∨ b + ys.length ≤ a) : wrAt (wrAt cs a xs) b ys = wrAt (wrAt cs b ys) a xs := by
  apply List.ext_getElem?
  intro i
  rw [wrAt_get, wrAt_get, wrAt_get, wrAt_get, wrAt_length, wrAt_length]
  (repeat' split) <;> first | rfl | (exfalso; omega)

/-- the object is az before in a range -/
def rgEq : Ob → Ob → Nat → Nat → Prop
  | .cells cs, .cells ds, off, n => cs.length = ds.length ∧ ∀ i, off ≤ i → i < off + n → cs[i]? = ds[i]?
  | x, y, _, _ => x = y
theorem rgEq.refl (x : Ob) (off n : Nat) : rgEq x x off n := by cases x <;> simp [rgEq]

/-- two states agree in what an operation looks at: slots, ranges -/
structure Agree (looks : List Nat) (rd : List Rg) (s t : St) : Prop where
  sl : ∀ x, x ∈ looks → s.sl x = t.sl x
  ob : ∀ r, r ∈ rd → s.gen r.1 = t.gen r.1 ∧ rgEq (s.ob r.1) (t.ob r.1) r.2.1 r.2.2

section
variable {s t : St}

theorem ev_agree {x : PX} (h : ∀ y, y ∈ x.slots → s.sl y = t.sl y) : s.ev x = t.ev x := by
  cases x with
  | t n => exact h n (by simp [PX.slots])
  | v c => rfl
theorem cl_agree {x : PX} (h : ∀ y, y ∈ x.slots → s.sl y = t.sl y) : s.cl x = t.cl x := by unfold St.cl; rw [ev_agree h]
theorem val_agree {x : PX} (h : ∀ y, y ∈ x.slots → s.sl y = t.sl y) : s.val x = t.val x := by unfold St.val; rw [ev_agree h]
theorem int_agree {x : PX} (h : ∀ y, y ∈ x.slots → s.sl y = t.sl y) : s.int x = t.int x := by unfold St.int; rw [ev_agree h]
theorem boo_agree {x : PX} (h : ∀ y, y ∈ x.slots → s.sl y = t.sl y) : s.boo x = t.boo x := by unfold St.boo; rw [ev_agree h]
theorem cs_agree {x : PX} (h : ∀ y, y ∈ x.slots → s.sl y = t.sl y) : s.cs x = t.cs x := by unfold St.cs; rw [ev_agree h]
theorem parts_agree : ∀ (ps : List (Nat × Nat × PX)), (∀ y, y ∈ ps.flatMap (fun p => p.2.2.slots) → s.sl y = t.sl y) → s.parts ps = t.parts ps
  | [], _ => rfl
  | (o, k, x) :: r, h => by
    simp only [St.parts]
    rw [cs_agree (x := x) (fun y hy => h y (by simp [hy])), parts_agree r (fun y hy => h y (by simp only [List.flatMap_cons, List.mem_append]; exact .inr hy))]
theorem args_agree : ∀ (xs : List PX), (∀ y, y ∈ xs.flatMap PX.slots → s.sl y = t.sl y) → s.args xs = t.args xs
  | [], _ => rfl
  | x :: r, h => by
    have h1 := args_agree r (fun y hy => h y (by simp only [List.flatMap_cons, List.mem_append]; exact .inr hy))
    unfold St.args at h1 ⊢
    simp only [List.map_cons]
    rw [ev_agree (x := x) (fun y hy => h y (by simp only [List.flatMap_cons, List.mem_append]; exact .inl hy))]
    cases (t.ev x).pa with
    | none => rfl
    | some p => simp only [allSome, h1]
theorem recv_agree (xs : List PX) (h : ∀ y, y ∈ xs.flatMap PX.slots → s.sl y = t.sl y) : s.recv xs = t.recv xs := by
  cases xs with
  | nil => rfl
  | cons x xs =>
    show (s.ev x).abOf = (t.ev x).abOf
    rw [ev_agree (fun y hy => h y (by simp only [List.flatMap_cons, List.mem_append]; exact .inl hy))]
theorem abAt_agree {o g : Nat} {off n : Nat} (hg : s.gen o = t.gen o) (ho : rgEq (s.ob o) (t.ob o) off n) : s.abAt o g = t.abAt o g := by
  unfold St.abAt
  rw [hg]
  generalize s.ob o = x at *
  generalize t.ob o = y at *
  cases x <;> cases y <;> simp only [rgEq] at ho <;> first | (cases ho; done) | rfl | (cases ho; rfl)
theorem vals_agree : ∀ (xs : List PX), (∀ y, y ∈ xs.flatMap PX.slots → s.sl y = t.sl y) → xs.map s.val = xs.map t.val
  | [], _ => rfl
  | x :: r, h => by
    simp only [List.map_cons]
    rw [val_agree (x := x) (fun y hy => h y (by simp only [List.flatMap_cons, List.mem_append]; exact .inl hy)), vals_agree r (fun y hy => h y (by simp only [List.flatMap_cons, List.mem_append]; exact .inr hy))]
theorem oint_agree {x : Option PX} (h : ∀ y, y ∈ oslots x → s.sl y = t.sl y) : x.map s.int = x.map t.int := by
  cases x with
  | none => rfl
  | some x => simp only [Option.map_some, int_agree (x := x) h]

theorem mkAv_agree {k : Option Nat} {cs ds : List Cl} {off : Nat} (hl : cs.length = ds.length) (h : ∀ i, off ≤ i → i < off + k.getD 1 → cs[i]? = ds[i]?) : mkAv k cs off = mkAv k ds off := by
  cases k with
  | none => simp only [mkAv]; rw [h off (Nat.le_refl _) (by simp)]
  | some k =>
    simp only [mkAv, hl]
    split
    · congr 3
      apply List.ext_getElem?
      intro i
      rw [List.getElem?_take, List.getElem?_take]
      split
      · rw [List.getElem?_drop, List.getElem?_drop]
        exact h _ (by omega) (by simp; omega)
      · rfl
    · rfl

/-- an operation does the same in two states that agree in what it looks at -/
theorem fn_agree {po : PO} {d : Nat} (h : Agree po.slots (po.rd s d) s t) : po.fn s d = po.fn t d := by
  obtain ⟨hs, ho⟩ := h
  cases po <;> simp only [PO.slots, List.mem_append] at hs <;> simp only [PO.fn]
  case mv x => rw [ev_agree hs]
  case nilRow E sz => rw [show s.gen d = t.gen d from (ho (d, big - 1, 1) (by simp only [PO.rd, List.mem_singleton])).1]
  case pick c a b => rw [boo_agree (x := c) (fun y hy => hs y (.inl (.inl hy))), ev_agree (x := a) (fun y hy => hs y (.inl (.inr hy))), ev_agree (x := b) (fun y hy => hs y (.inr hy))]
  case box x => rw [cs_agree hs, show s.gen d = t.gen d from (ho (d, big - 1, 1) (by simp only [PO.rd, List.mem_singleton])).1]
  case new z => rw [show s.gen d = t.gen d from (ho (d, big - 1, 1) (by simp only [PO.rd, List.mem_singleton])).1]
  case build z ps => rw [parts_agree ps hs]
  case bslice E sz z ln ps => rw [parts_agree ps hs, show s.gen d = t.gen d from (ho (d, big - 1, 1) (by simp only [PO.rd, List.mem_singleton])).1]
  case load k a =>
    have hc := cl_agree (x := a) hs
    simp only [PO.rd] at ho
    rw [← hc]
    split
    · rename_i o g off heq
      rw [heq] at ho
      obtain ⟨h1, h2⟩ := ho _ (List.mem_singleton.2 rfl)
      dsimp only at h1 h2
      rw [h1]
      split
      · generalize s.ob o = x at h2 ⊢
        generalize t.ob o = y at h2 ⊢
        cases x <;> cases y <;> simp only [rgEq] at h2 <;> (try dsimp only) <;> first | rfl | (cases h2; done) | (rw [mkAv_agree h2.1 h2.2]) | (rw [h2])
      · rfl
    · rfl
    · rfl
  case store sz a x =>
    have hc := cl_agree (x := a) (fun y hy => hs y (.inl hy))
    have hx := cs_agree (x := x) (fun y hy => hs y (.inr hy))
    simp only [PO.rd] at ho
    rw [← hc, ← hx]
    split
    · rename_i o g off nw heq hnw
      rw [heq] at ho
      obtain ⟨h1, h2⟩ := ho _ (List.mem_singleton.2 rfl)
      dsimp only at h1 h2
      rw [h1]
      split
      · generalize s.ob o = x at h2 ⊢
        generalize t.ob o = y at h2 ⊢
        cases x <;> cases y <;> simp only [rgEq] at h2 <;> (try dsimp only) <;> first | rfl | (cases h2; done) | (rw [h2.1]) | (rw [h2])
      · rfl
    · rfl
  case fld off x =>
    have hc := cl_agree (x := x) hs
    simp only [PO.rd] at ho
    rw [← hc]
    split
    · rename_i o g k heq
      rw [heq] at ho
      rw [show s.gen o = t.gen o from (ho (o, big - 1, 1) (by simp only [List.mem_singleton])).1]
    · rfl
    · rfl
  case fldv off k x => rw [ev_agree hs]
  case ixa ln sz x i =>
    have hc := cl_agree (x := x) (fun y hy => hs y (.inl hy))
    have hi := int_agree (x := i) (fun y hy => hs y (.inr hy))
    simp only [PO.rd] at ho
    rw [← hc, ← hi]
    split
    · rename_i o g off k heq hk
      rw [heq] at ho
      rw [show s.gen o = t.gen o from (ho (o, big - 1, 1) (by simp only [List.mem_singleton])).1]
    · rfl
    · rfl
  case ixs sz x i =>
    have hc := cl_agree (x := x) (fun y hy => hs y (.inl hy))
    have hi := int_agree (x := i) (fun y hy => hs y (.inr hy))
    simp only [PO.rd] at ho
    rw [← hc, ← hi]
    split
    · split
      · rename_i o g off ln cap sz2 heq
        rw [heq] at ho
        rw [show s.gen o = t.gen o from (ho (o, big - 1, 1) (by simp only [List.mem_singleton])).1]
      · rfl
    · rfl
  case ixv ln sz k x i => rw [ev_agree (x := x) (fun y hy => hs y (.inl hy)), int_agree (x := i) (fun y hy => hs y (.inr hy))]
  case ixstr x i => rw [val_agree (x := x) (fun y hy => hs y (.inl hy)), int_agree (x := i) (fun y hy => hs y (.inr hy))]
  case bin op x y => rw [val_agree (x := x) (fun y hy => hs y (.inl hy)), val_agree (x := y) (fun y hy => hs y (.inr hy))]
  case eqb neg x y => rw [boo_agree (x := x) (fun y hy => hs y (.inl hy)), boo_agree (x := y) (fun y hy => hs y (.inr hy))]
  case eqs neg m x y => rw [ev_agree (x := x) (fun y hy => hs y (.inl hy)), ev_agree (x := y) (fun y hy => hs y (.inr hy))]
  case un op x => rw [val_agree hs]
  case conv k x => rw [int_agree hs]
  case slc sz x lo hi => rw [cl_agree (x := x) (fun y hy => hs y (.inl (.inl hy))), oint_agree (x := lo) (fun y hy => hs y (.inl (.inr hy))), oint_agree (x := hi) (fun y hy => hs y (.inr hy))]
  case substr x lo hi => rw [val_agree (x := x) (fun y hy => hs y (.inl (.inl hy))), oint_agree (x := lo) (fun y hy => hs y (.inl (.inr hy))), oint_agree (x := hi) (fun y hy => hs y (.inr hy))]
  case len x => rw [cl_agree hs]
  case strlen x => rw [val_agree hs]
  case append E sz bytes x y =>
    have hc := cl_agree (x := x) (fun y hy => hs y (.inl hy))
    have hy := cl_agree (x := y) (fun y hy => hs y (.inr hy))
    simp only [PO.rd] at ho
    rw [← hc, ← hy]
    split
    · rename_i o g rows news heq hnews
      rw [heq] at ho
      obtain ⟨h1, h2⟩ := ho _ (List.mem_singleton.2 rfl)
      dsimp only at h1 h2
      rw [h1]
      split
      · generalize s.ob o = x at h2 ⊢
        generalize t.ob o = y at h2 ⊢
        cases x <;> cases y <;> simp only [rgEq] at h2 <;> (try dsimp only) <;> first | rfl | (cases h2; done) | (cases h2; rfl)
      · rfl
    · rfl
    · rfl
  case mm big xs => rw [vals_agree xs hs]
  case ext x i => rw [ev_agree hs]
  case mk sz bytes z n c =>
    rw [int_agree (x := n) (fun y hy => hs y (.inl hy)), int_agree (x := c) (fun y hy => hs y (.inr hy))]
    rw [show s.gen d = t.gen d from (ho (d, big - 1, 1) (by simp only [PO.rd, List.mem_singleton])).1]
  case slc3 sz x lo hi mx => rw [cl_agree (x := x) (fun y hy => hs y (.inl (.inl (.inl hy)))), oint_agree (x := lo) (fun y hy => hs y (.inl (.inl (.inr hy)))), int_agree (x := hi) (fun y hy => hs y (.inl (.inr hy))), int_agree (x := mx) (fun y hy => hs y (.inr hy))]
  case nilck x =>
    have hc := cl_agree (x := x) hs
    simp only [PO.rd] at ho
    rw [← hc]
    split
    · rename_i o g k heq
      rw [heq] at ho
      rw [show s.gen o = t.gen o from (ho (o, big - 1, 1) (by simp only [List.mem_singleton])).1]
    · rfl

theorem go_agree {env : Env} {i : PI} {K : Av → Cg → Prop} (h : Agree i.looks (i.rd s) s t) : i.go env s K → i.go env t K := by
  have hop : i.op.go env s (i.dst.getD 0) K → i.op.go env t (i.dst.getD 0) K := fun hg => by
    have h1 : ∀ x, x ∈ i.op.slots → s.sl x = t.sl x := fun x hx => h.sl x (by unfold PI.looks; exact List.mem_append_left _ hx)
    cases hc : i.op with
    | call f xs =>
      rw [hc] at hg h1
      have hr := h.ob
      unfold PI.rd at hr
      rw [hc] at hr
      have hrc := recv_agree xs h1
      have hg' : callG env s (i.dst.getD 0) K f xs (s.recv xs) := hg
      show callG env t (i.dst.getD 0) K f xs (t.recv xs)
      simp only [PO.rd] at hr
      rw [← hrc]
      cases hre : s.recv xs with
      | none =>
        rw [hre] at hg' hr
        have hgd := (hr (i.dst.getD 0, big - 1, 1) (by simp)).1
        obtain ⟨az, e1, e2⟩ := withSome_iff.1 hg'
        refine withSome_iff.2 ⟨az, by rw [← args_agree xs h1]; exact e1, ?_⟩
        rw [← show s.gen (i.dst.getD 0) = t.gen (i.dst.getD 0) from hgd]
        exact e2
      | some p =>
        obtain ⟨o, g⟩ := p
        rw [hre] at hg' hr
        have hgd := (hr (i.dst.getD 0, big - 1, 1) (by simp)).1
        have hob := hr (o, 0, big) (by simp)
        obtain ⟨az, e1, e2⟩ := withSome_iff.1 hg'
        obtain ⟨H, e3, e4⟩ := withSome_iff.1 e2
        refine withSome_iff.2 ⟨az, by rw [← args_agree xs.tail (fun y hy => h1 y (by
          cases xs with
          | nil => exact hy
          | cons z zs => simp only [PO.slots, List.flatMap_cons, List.mem_append]; exact .inr hy))]; exact e1, ?_⟩
        refine withSome_iff.2 ⟨H, by rw [← abAt_agree hob.1 hob.2]; exact e3, ?_⟩
        rw [← show s.gen (i.dst.getD 0) = t.gen (i.dst.getD 0) from hgd]
        exact e4
    | _ =>
      rw [hc, PO.go_fn rfl] at hg
      rw [PO.go_fn rfl]
      obtain ⟨p, e1, e2⟩ := withSome_iff.1 hg
      refine withSome_iff.2 ⟨p, ?_, e2⟩
      rw [← e1]
      refine (fn_agree ⟨fun x hx => h1 x (by rw [hc]; exact hx), fun r hr => h.ob r ?_⟩).symm
      unfold PI.rd
      rw [hc]
      exact hr
  intro hg
  unfold PI.go at hg ⊢
  cases hgd : i.guard with
  | none => rw [hgd] at hg; exact hop hg
  | some p =>
    obtain ⟨x, want⟩ := p
    rw [hgd] at hg
    obtain ⟨b, e1, e2, e3⟩ := withSome_iff.1 hg
    refine withSome_iff.2 ⟨b, ?_, fun hb => hop (e2 hb), e3⟩
    rw [← e1]
    have h1 := boo_agree (x := .t x) (fun y hy => h.sl y (by
      unfold PI.looks
      rw [hgd]
      exact List.mem_append_right _ hy))
    have h2 := h.sl x (by
      unfold PI.looks
      rw [hgd]
      exact List.mem_append_right _ (List.mem_singleton.2 rfl))
    unfold St.gd
    rw [h1, h2]
end
end Go.Proofs.Ytkdagjlkejefnaa
end
section
set_option linter.unusedSimpArgs false
set_option linter.unusedVariables false
namespace Go.Proofs.Ytkdagjlkejefnaa
open Go Go.RowKit

/-- an operation that has been read: what it brought, what it looked at -/
structure En where
  i : PI
  v : Av
  ch : Cg
  rd : List Rg
def St.en (s : St) (e : En) : St := s.ap e.i.dst e.v e.ch
/-- the entries that L names, in the order of the text -/
def stF : List En → Nat → (Nat → Bool) → St → St
  | [], _, _, s => s
  | e :: r, k, L, s => stF r (k + 1) L (cond (L k) (s.en e) s)

/-- e does not touch what f looks at or writes -/
def IndE (e f : En) : Prop := indep1 e.i f.i e.ch.wrs f.rd f.ch.wrs = true ∧ indep1 f.i e.i f.ch.wrs e.rd e.ch.wrs = true

theorem rgApart_iff {a b : Rg} : rgApart a b = true ↔ a.1 ≠ b.1 ∨ (a.2.2 < big ∧ b.2.2 < big ∧ (a.2.1 + a.2.2 ≤ b.2.1 ∨ b.2.1 + b.2.2 ≤ a.2.1)) := by
  simp [rgApart, and_assoc]
theorem rgsApart_iff {xs ys : List Rg} : rgsApart xs ys = true ↔ ∀ x, x ∈ xs → ∀ y, y ∈ ys → x.1 ≠ y.1 ∨ (x.2.2 < big ∧ y.2.2 < big ∧ (x.2.1 + x.2.2 ≤ y.2.1 ∨ y.2.1 + y.2.2 ≤ x.2.1)) := by
  unfold rgsApart
  rw [List.all_eq_true]
  constructor
  · intro h x hx y hy
    exact rgApart_iff.1 (List.all_eq_true.1 (h x hx) y hy)
  · intro h x hx
    exact List.all_eq_true.2 fun y hy => rgApart_iff.2 (h x hx y hy)
theorem notIn_iff {d : Option Nat} {l : List Nat} : notIn d l = true ↔ ∀ x, d = some x → x ∉ l := by
  cases d with
  | none => simp [notIn]
  | some d => simp [notIn]

theorem up_comm {α : Type} (f : Nat → α) {a b : Nat} (h : a ≠ b) (x y : α) : up (up f a x) b y = up (up f b y) a x := by
  funext z
  simp only [up_at]
  (repeat' split) <;> first | rfl | (exfalso; omega)
def md {α : Type} (f : Nat → α) (a : Nat) (F : α → α) : Nat → α := up f a (F (f a))
theorem md_comm {α : Type} (f : Nat → α) {a b : Nat} (h : a ≠ b) (F G : α → α) : md (md f a F) b G = md (md f b G) a F := by
  have h1 : md f a F b = f b := by unfold md; rw [up_at, if_neg (Ne.symm h)]
  have h2 : md f b G a = f a := by unfold md; rw [up_at, if_neg h]
  show up (md f a F) b (G (md f a F b)) = up (md f b G) a (F (md f b G a))
  rw [h1, h2]
  exact up_comm f h _ _
theorem md_same {α : Type} (f : Nat → α) (a : Nat) (F G : α → α) : md (md f a F) a G = md f a (fun x => G (F x)) := by
  funext z
  unfold md
  simp only [up_at]
  by_cases h : z = a
  · simp [h]
  · simp [h]

def Cg.gF : Cg → (Nat → Nat) → Nat → Nat
  | .new o _, f => md f o (· + 1)
  | _, f => f
def wrF (off : Nat) (cs : List Cl) : Ob → Ob
  | .cells old => .cells (wrAt old off cs)
  | x => x
def rowF (n : Nat) : Ob → Ob
  | .row E sz _ => .row E sz n
  | x => x
def Cg.oF : Cg → (Nat → Ob) → Nat → Ob
  | .no, f => f
  | .new o x, f => md f o (fun _ => x)
  | .wr o off cs, f => md f o (wrF off cs)
  | .row o n, f => md f o (rowF n)
  | .ab o H, f => md f o (fun _ => .ab H)
def dF (dst : Option Nat) (v : Av) (f : Nat → Av) : Nat → Av := match dst with
  | some d => up f d v
  | none => f
theorem ap_eq (s : St) (dst : Option Nat) (v : Av) (ch : Cg) : s.ap dst v ch = ⟨dF dst v s.sl, ch.gF s.gen, ch.oF s.ob⟩ := by
  cases ch <;> first
    | rfl
    | (simp only [St.ap, Cg.gF, Cg.oF, md, wrF, rowF]
       congr 2
       (split <;> simp_all))

theorem wrF_comm {a b : Nat} {xs ys : List Cl} (h : a + xs.length ≤ b ∨ b + ys.length ≤ a) (x : Ob) : wrF b ys (wrF a xs x) = wrF a xs (wrF b ys x) := by
  cases x <;> try rfl
  simp only [wrF]
  rw [wrAt_comm _ h]

theorem chs_comm {c d : Cg} (h : rgsApart c.wrs d.wrs = true) (G : Nat → Nat) (O : Nat → Ob) : d.gF (c.gF G) = c.gF (d.gF G) ∧ d.oF (c.oF O) = c.oF (d.oF O) := by
  have hw := rgsApart_iff.1 h
  cases c <;> cases d <;> simp only [Cg.wrs] at hw <;> (try exact ⟨rfl, rfl⟩)
  all_goals
    have hh := hw _ (List.mem_singleton.2 rfl) _ (List.mem_singleton.2 rfl)
    dsimp only at hh
    simp only [Cg.gF, Cg.oF]
  case wr.wr a x xs b y ys =>
    refine ⟨trivial, ?_⟩
    by_cases he : a = b
    · subst he
      have hd : x + xs.length ≤ y ∨ y + ys.length ≤ x := by
        rcases hh with hh | hh
        · exact absurd rfl hh
        · exact hh.2.2
      rw [md_same, md_same]
      congr 1
      funext z
      exact wrF_comm hd z
    · exact md_comm _ he _ _
  all_goals
    have hne := hh.resolve_right (fun h => by have := h.1; have := h.2.1; omega)
    first
      | exact ⟨md_comm _ hne _ _, md_comm _ hne _ _⟩
      | exact ⟨trivial, md_comm _ hne _ _⟩

theorem IndE.symm {e f : En} (h : IndE e f) : IndE f e := ⟨h.2, h.1⟩
/-- two entries that are apart may change places -/
theorem en_comm {s : St} {e f : En} (h : IndE e f) : (s.en e).en f = (s.en f).en e := by
  obtain ⟨h1, h2⟩ := h
  simp only [indep1, Bool.and_eq_true] at h1 h2
  obtain ⟨⟨⟨_, _⟩, hw⟩, hd⟩ := h1
  have hd' := notIn_iff.1 hd
  obtain ⟨hg, ho⟩ := chs_comm hw s.gen s.ob
  unfold St.en
  simp only [ap_eq]
  rw [hg, ho]
  congr 1
  cases hd1 : e.i.dst with
  | none => rfl
  | some a =>
    cases hd2 : f.i.dst with
    | none => rfl
    | some b =>
      have hne : a ≠ b := by
        have := hd' a hd1
        rw [hd2] at this
        simpa using this
      exact up_comm _ hne _ _

theorem rgEq.md {x y : Ob} {off n : Nat} (h : rgEq x y off n) : ∀ F : Ob → Ob, (F = (fun _ => F x) ∨ (∃ a cs, F = wrF a cs) ∨ ∃ k, F = rowF k) → rgEq (F x) (F y) off n := by
  intro F hF
  rcases hF with hF | ⟨a, cs, rfl⟩ | ⟨k, rfl⟩
  · have : F y = F x := by rw [hF]
    rw [this]; exact rgEq.refl _ _ _
  · cases x <;> cases y <;> simp only [rgEq] at h <;> first | (cases h; done) | skip
    · exact rgEq.refl _ _ _
    · refine ⟨by rw [wrAt_length, wrAt_length]; exact h.1, fun i h1 h2 => ?_⟩
      rw [wrAt_get, wrAt_get, h.1, h.2 i h1 h2]
    · rw [h]; exact rgEq.refl _ _ _
    · rw [h]; exact rgEq.refl _ _ _
  · cases x <;> cases y <;> simp only [rgEq] at h <;> first | (cases h; done) | skip
    · exact rgEq.refl _ _ _
    · exact ⟨h.1, h.2⟩
    · rw [h]; exact rgEq.refl _ _ _
    · rw [h]; exact rgEq.refl _ _ _

/-- the same entry in both -/
theorem Agree.both {looks : List Nat} {rd : List Rg} {s t : St} (h : Agree looks rd s t) (e : En) : Agree looks rd (s.en e) (t.en e) := by
  unfold St.en
  rw [ap_eq, ap_eq]
  refine ⟨fun x hx => ?_, fun r hr => ?_⟩
  · show dF _ _ s.sl x = dF _ _ t.sl x
    cases e.i.dst with
    | none => exact h.sl x hx
    | some d =>
      show up s.sl d e.v x = up t.sl d e.v x
      rw [up_at, up_at, h.sl x hx]
  · obtain ⟨h1, h2⟩ := h.ob r hr
    show e.ch.gF s.gen r.1 = e.ch.gF t.gen r.1 ∧ rgEq (e.ch.oF s.ob r.1) (e.ch.oF t.ob r.1) _ _
    cases e.ch with
    | no => exact ⟨h1, h2⟩
    | new o x =>
      simp only [Cg.gF, Cg.oF, Go.Proofs.Ytkdagjlkejefnaa.md, up_at]
      by_cases he : r.1 = o
      · rw [if_pos he, if_pos he, if_pos he, if_pos he]
        rw [he] at h1
        exact ⟨by rw [h1], rgEq.refl _ _ _⟩
      · rw [if_neg he, if_neg he, if_neg he, if_neg he]
        exact ⟨h1, h2⟩
    | wr o a cs =>
      simp only [Cg.gF, Cg.oF, Go.Proofs.Ytkdagjlkejefnaa.md, up_at]
      refine ⟨h1, ?_⟩
      by_cases he : r.1 = o
      · rw [if_pos he, if_pos he]
        rw [he] at h2
        exact rgEq.md h2 _ (.inr (.inl ⟨a, cs, rfl⟩))
      · rw [if_neg he, if_neg he]
        exact h2
    | row o k =>
      simp only [Cg.gF, Cg.oF, Go.Proofs.Ytkdagjlkejefnaa.md, up_at]
      refine ⟨h1, ?_⟩
      by_cases he : r.1 = o
      · rw [if_pos he, if_pos he]
        rw [he] at h2
        exact rgEq.md h2 _ (.inr (.inr ⟨k, rfl⟩))
      · rw [if_neg he, if_neg he]
        exact h2
    | ab o H =>
      simp only [Cg.gF, Cg.oF, Go.Proofs.Ytkdagjlkejefnaa.md, up_at]
      refine ⟨h1, ?_⟩
      by_cases he : r.1 = o
      · rw [if_pos he, if_pos he]
        exact rgEq.refl _ _ _
      · rw [if_neg he, if_neg he]
        exact h2

theorem Agree.refl (looks : List Nat) (rd : List Rg) (s : St) : Agree looks rd s s := ⟨fun _ _ => rfl, fun _ _ => ⟨rfl, rgEq.refl _ _ _⟩⟩
theorem rgEq.symm {x y : Ob} {off n : Nat} (h : rgEq x y off n) : rgEq y x off n := by
  cases x <;> cases y <;> simp only [rgEq] at h ⊢ <;> first | (cases h; done) | exact h.symm | exact ⟨h.1.symm, fun i a b => (h.2 i a b).symm⟩ | skip
theorem rgEq.trans {x y z : Ob} {off n : Nat} (h : rgEq x y off n) (k : rgEq y z off n) : rgEq x z off n := by
  cases x <;> cases y <;> simp only [rgEq] at h <;> first | (cases h; done) | skip
  · exact k
  · cases z <;> simp only [rgEq] at k ⊢ <;> first | (cases k; done) | exact ⟨h.1.trans k.1, fun i a b => (h.2 i a b).trans (k.2 i a b)⟩
  · rw [h]; exact k
  · rw [h]; exact k
theorem Agree.symm {looks : List Nat} {rd : List Rg} {s t : St} (h : Agree looks rd s t) : Agree looks rd t s := ⟨fun x hx => (h.sl x hx).symm, fun r hr => ⟨(h.ob r hr).1.symm, (h.ob r hr).2.symm⟩⟩
theorem Agree.trans {looks : List Nat} {rd : List Rg} {s t u : St} (h : Agree looks rd s t) (k : Agree looks rd t u) : Agree looks rd s u :=
  ⟨fun x hx => (h.sl x hx).trans (k.sl x hx), fun r hr => ⟨(h.ob r hr).1.trans (k.ob r hr).1, (h.ob r hr).2.trans (k.ob r hr).2⟩⟩

/-- an entry that does not touch what is looked at -/
theorem Agree.skip {s : St} {e f : En} (h : IndE e f) : Agree f.i.looks f.rd s (s.en e) := by
  obtain ⟨h1, _⟩ := h
  simp only [indep1, Bool.and_eq_true] at h1
  obtain ⟨⟨⟨hl, hr⟩, _⟩, _⟩ := h1
  have hl' := notIn_iff.1 hl
  have hr' := rgsApart_iff.1 hr
  unfold St.en
  rw [ap_eq]
  refine ⟨fun x hx => ?_, fun r hrr => ?_⟩
  · show s.sl x = dF _ _ s.sl x
    cases hd : e.i.dst with
    | none => rfl
    | some d =>
      show _ = up s.sl d e.v x
      rw [up_at, if_neg]
      rintro rfl
      exact hl' x hd hx
  · show s.gen r.1 = e.ch.gF s.gen r.1 ∧ rgEq (s.ob r.1) (e.ch.oF s.ob r.1) _ _
    cases hc : e.ch with
    | no => exact ⟨rfl, rgEq.refl _ _ _⟩
    | new o x =>
      rw [hc] at hr'
      have hne := (hr' _ (List.mem_singleton.2 rfl) r hrr).resolve_right (fun h => by have := h.1; dsimp only at this; omega)
      dsimp only at hne
      simp only [Cg.gF, Cg.oF, Go.Proofs.Ytkdagjlkejefnaa.md, up_at, if_neg (Ne.symm hne)]
      exact ⟨trivial, rgEq.refl _ _ _⟩
    | row o k =>
      rw [hc] at hr'
      have hne := (hr' _ (List.mem_singleton.2 rfl) r hrr).resolve_right (fun h => by have := h.1; dsimp only at this; omega)
      dsimp only at hne
      simp only [Cg.gF, Cg.oF, Go.Proofs.Ytkdagjlkejefnaa.md, up_at, if_neg (Ne.symm hne)]
      exact ⟨trivial, rgEq.refl _ _ _⟩
    | ab o H =>
      rw [hc] at hr'
      have hne := (hr' _ (List.mem_singleton.2 rfl) r hrr).resolve_right (fun h => by have := h.1; dsimp only at this; omega)
      dsimp only at hne
      simp only [Cg.gF, Cg.oF, Go.Proofs.Ytkdagjlkejefnaa.md, up_at, if_neg (Ne.symm hne)]
      exact ⟨trivial, rgEq.refl _ _ _⟩
    | wr o a cs =>
      rw [hc] at hr'
      have hh := hr' _ (List.mem_singleton.2 rfl) r hrr
      dsimp only at hh
      simp only [Cg.gF, Cg.oF, Go.Proofs.Ytkdagjlkejefnaa.md, up_at]
      refine ⟨trivial, ?_⟩
      by_cases he : r.1 = o
      · rw [if_pos he, he]
        have hd := (hh.resolve_left (by rw [he]; exact fun h => h rfl)).2.2
        cases s.ob o with
        | cells old =>
          refine ⟨(wrAt_length _ _ _).symm, fun i h1 h2 => ?_⟩
          rw [wrAt_get, if_neg]
          rintro ⟨h3, h4, h5⟩
          omega
        | no => exact rgEq.refl _ _ _
        | row _ _ _ => exact rgEq.refl _ _ _
        | ab _ => exact rgEq.refl _ _ _
      · rw [if_neg he]; exact rgEq.refl _ _ _

/-! ### every order -/
theorem stF_set : ∀ (es : List En) (k : Nat) (L : Nat → Bool) (j : Nat) (e : En) (s : St), k ≤ j → es[j - k]? = some e → L j = false →
    (∀ (i : Nat) f, j < i → es[i - k]? = some f → L i = true → IndE e f) → stF es k (fun i => if i = j then true else L i) s = (stF es k L s).en e
  | [], k, L, j, e, s, hk, he, _, _ => by simp at he
  | f :: r, k, L, j, e, s, hk, he, hL, hi => by
    by_cases hkj : k = j
    · subst hkj
      simp at he
      subst he
      -- behind it nothing is set anew; it moves to the end
      have mv : ∀ (r : List En) (k' : Nat) (s : St), k < k' → (∀ (i : Nat) g, k < i → r[i - k']? = some g → k' ≤ i → L i = true → IndE f g) → stF r k' (fun i => if i = k then true else L i) (s.en f) = (stF r k' L s).en f := by
        intro r
        induction r with
        | nil => intro k' s _ _; rfl
        | cons g r ih =>
          intro k' s hkk hg
          show stF r (k' + 1) _ (cond (if k' = k then true else L k') ((s.en f).en g) (s.en f)) = (stF r (k' + 1) L (cond (L k') (s.en g) s)).en f
          rw [if_neg (show ¬ k' = k by omega)]
          cases hL' : L k' with
          | true =>
            simp only [cond]
            rw [en_comm (hg k' g hkk (by simp) (Nat.le_refl _) hL')]
            exact ih (k' + 1) _ (by omega) (fun i g' h1 h2 h3 h4 => hg i g' h1 (by
              rw [show i - k' = (i - (k' + 1)) + 1 by omega, List.getElem?_cons_succ]; exact h2) (by omega) h4)
          | false =>
            simp only [cond]
            exact ih (k' + 1) _ (by omega) (fun i g' h1 h2 h3 h4 => hg i g' h1 (by
              rw [show i - k' = (i - (k' + 1)) + 1 by omega, List.getElem?_cons_succ]; exact h2) (by omega) h4)
      simp only [stF, if_true, hL, cond]
      exact mv r (k + 1) s (by omega) (fun i g h1 h2 h3 h4 => hi i g h1 (by
        rw [show i - k = (i - (k + 1)) + 1 by omega, List.getElem?_cons_succ]; exact h2) h4)
    · show stF r (k + 1) _ (cond (if k = j then true else L k) (s.en f) s) = (stF r (k + 1) L (cond (L k) (s.en f) s)).en e
      rw [if_neg hkj]
      exact stF_set r (k + 1) L j e _ (by omega) (by
        rw [show j - k = (j - (k + 1)) + 1 by omega, List.getElem?_cons_succ] at he; exact he) hL (fun i g h1 h2 h3 => hi i g h1 (by
        rw [show i - k = (i - (k + 1)) + 1 by omega, List.getElem?_cons_succ]; exact h2) h3)

theorem stF_agree {j : En} : ∀ (es : List En) (k : Nat) (L M : Nat → Bool) (s t : St), Agree j.i.looks j.rd s t →
    (∀ (i : Nat) e, k ≤ i → es[i - k]? = some e → L i = M i ∨ IndE e j) → Agree j.i.looks j.rd (stF es k L s) (stF es k M t)
  | [], _, _, _, _, _, h, _ => h
  | e :: r, k, L, M, s, t, h, hi => by
    simp only [stF]
    refine stF_agree r (k + 1) L M _ _ ?_ (fun i e' h1 h2 => hi i e' (by omega) (by
      rw [show i - k = (i - (k + 1)) + 1 by omega, List.getElem?_cons_succ]; exact h2))
    rcases hi k e (Nat.le_refl _) (by simp) with he | he
    · rw [he]
      cases M k
      · exact h
      · exact h.both e
    · cases L k <;> cases M k
      · exact h
      · exact h.trans (Agree.skip he)
      · exact (Agree.skip he).symm.trans h
      · exact h.both e

theorem stF_all : ∀ (es : List En) (k m : Nat) (s : St), stF es k (fun i => decide (i < m)) s = (es.take (m - k)).foldl St.en s
  | [], k, m, s => by simp [stF]
  | e :: r, k, m, s => by
    show stF r (k + 1) _ (cond (decide (k < m)) (s.en e) s) = _
    rw [stF_all r (k + 1) m]
    by_cases h : k < m
    · rw [decide_eq_true h, show m - k = (m - (k + 1)) + 1 by omega]
      rfl
    · rw [decide_eq_false h, show m - k = 0 by omega, show m - (k + 1) = 0 by omega]
      rfl
end Go.Proofs.Ytkdagjlkejefnaa
end
section
set_option linter.unusedSimpArgs false
set_option linter.unusedVariables false
namespace Go.Proofs.Ytkdagjlkejefnaa
open Go Go.RowKit

theorem go_inv {env : Env} {i : PI} {s : St} {K : Av → Cg → Prop} (h : i.go env s K) : ∃ v ch, i.go env s (fun v' ch' => v' = v ∧ ch' = ch) ∧ K v ch := by
  have hop : ∀ K : Av → Cg → Prop, i.op.go env s (i.dst.getD 0) K → ∃ v ch, i.op.go env s (i.dst.getD 0) (fun v' ch' => v' = v ∧ ch' = ch) ∧ K v ch := fun K hg => by
    cases hc : i.op with
    | call f xs =>
      rw [hc] at hg
      have hg' : callG env s (i.dst.getD 0) K f xs (s.recv xs) := hg
      show ∃ v ch, callG env s (i.dst.getD 0) (fun v' ch' => v' = v ∧ ch' = ch) f xs (s.recv xs) ∧ K v ch
      cases hre : s.recv xs with
      | none =>
        rw [hre] at hg'
        obtain ⟨az, e1, e2⟩ := withSome_iff.1 hg'
        rcases e2 with ⟨rs, e2, e3⟩ | ⟨H, rs, e2, e3⟩
        · exact ⟨_, _, withSome_iff.2 ⟨az, e1, .inl ⟨rs, e2, rfl, rfl⟩⟩, e3⟩
        · exact ⟨_, _, withSome_iff.2 ⟨az, e1, .inr ⟨H, rs, e2, rfl, rfl⟩⟩, e3⟩
      | some p =>
        obtain ⟨o, g⟩ := p
        rw [hre] at hg'
        obtain ⟨az, e1, e2⟩ := withSome_iff.1 hg'
        obtain ⟨H, e3, e4⟩ := withSome_iff.1 e2
        rcases e4 with ⟨H', rs, e5, e6⟩ | ⟨H2, e0, e5, e6⟩
        · exact ⟨_, _, withSome_iff.2 ⟨az, e1, withSome_iff.2 ⟨H, e3, .inl ⟨H', rs, e5, rfl, rfl⟩⟩⟩, e6⟩
        · exact ⟨_, _, withSome_iff.2 ⟨az, e1, withSome_iff.2 ⟨H, e3, .inr ⟨H2, e0, e5, rfl, rfl⟩⟩⟩, e6⟩
    | _ =>
      rw [hc, PO.go_fn rfl] at hg
      obtain ⟨⟨v, ch⟩, e1, e2⟩ := withSome_iff.1 hg
      exact ⟨v, ch, by rw [PO.go_fn rfl]; exact withSome_iff.2 ⟨(v, ch), e1, rfl, rfl⟩, e2⟩
  unfold PI.go at h ⊢
  cases hg : i.guard with
  | none => rw [hg] at h; exact hop K h
  | some p =>
    obtain ⟨t, want⟩ := p
    rw [hg] at h
    obtain ⟨b, e1, e2, e3⟩ := withSome_iff.1 h
    by_cases hb : b = some want
    · obtain ⟨v, ch, e4, e5⟩ := hop K (e2 hb)
      exact ⟨v, ch, withSome_iff.2 ⟨b, e1, fun _ => e4, fun h => absurd hb h⟩, e5⟩
    · exact ⟨skp, .no, withSome_iff.2 ⟨b, e1, fun h => absurd h hb, fun _ => ⟨rfl, rfl⟩⟩, e3 hb⟩

theorem evalD_inv {env : Env} : ∀ (is : List PI) (s : St) (acc : List (List Rg × List Rg)) (K : St → List (List Rg × List Rg) → Prop), evalD env is s acc K →
    ∃ es : List En, es.map (·.i) = is ∧ (∀ (j : Nat) e, es[j]? = some e → e.i.go env ((es.take j).foldl St.en s) (fun v ch => v = e.v ∧ ch = e.ch) ∧ e.rd = e.i.rd ((es.take j).foldl St.en s)) ∧
      K (es.foldl St.en s) (acc.reverse ++ es.map fun e => (e.rd, e.ch.wrs))
  | [], s, acc, K, h => ⟨[], rfl, fun j e h => by simp at h, by simpa [evalD] using h⟩
  | i :: is, s, acc, K, h => by
    obtain ⟨v, ch, h1, h2⟩ := go_inv h
    obtain ⟨es, h3, h4, h5⟩ := evalD_inv is _ _ K h2
    refine ⟨⟨i, v, ch, i.rd s⟩ :: es, by simp [h3], fun j e he => ?_, ?_⟩
    · cases j with
      | zero => simp at he; subst he; exact ⟨h1, rfl⟩
      | succ j => exact h4 j e (by simpa using he)
    · have h6 := h5
      simp only [List.reverse_cons, List.append_assoc, List.singleton_append] at h6
      exact h6

/-! the order that the text lays down -/
def Closed (is : List PI) (L : Nat → Bool) : Prop := ∀ (k : Nat) i, is[k]? = some i → L k = true → ∀ e, e ∈ i.after → L e = true

theorem fold_bit (acc : List Nat) : ∀ (l : List Nat) (m x : Nat), (l.foldl (fun m e => m ||| (1 <<< e) ||| acc.getD e 0) m).testBit x = true → m.testBit x = true ∨ ∃ e, e ∈ l ∧ (x = e ∨ (acc.getD e 0).testBit x = true)
  | [], m, x, h => .inl h
  | e :: l, m, x, h => by
    rcases fold_bit acc l _ x h with h1 | ⟨e', h1, h2⟩
    · simp only [Nat.testBit_or, Bool.or_eq_true, Nat.one_shiftLeft, Nat.testBit_two_pow] at h1
      rcases h1 with (h1 | h1) | h1
      · exact .inl h1
      · exact .inr ⟨e, by simp, .inl (by simpa [eq_comm] using h1)⟩
      · exact .inr ⟨e, by simp, .inr h1⟩
    · exact .inr ⟨e', by simp [h1], h2⟩

theorem masks_ok (is : List PI) {L : Nat → Bool} (hL : Closed is L) : ∀ (r : List PI) (acc : List Nat), r = is.drop acc.length →
    (∀ (j : Nat) i x, is[j]? = some i → (acc.getD j 0).testBit x = true → (∀ e, e ∈ i.after → L e = true) → L x = true) →
    ∀ (j : Nat) i x, is[j]? = some i → ((masks acc r).getD j 0).testBit x = true → (∀ e, e ∈ i.after → L e = true) → L x = true
  | [], acc, _, h => h
  | p :: r, acc, hr, h => by
    simp only [masks]
    have hp : is[acc.length]? = some p := by
      have := congrArg (·[0]?) hr
      simpa using this.symm
    refine masks_ok is hL r _ (by
      have := congrArg List.tail hr
      simpa using this) (fun j i x hj hb ha => ?_)
    by_cases hlt : j < acc.length
    · refine h j i x hj ?_ ha
      rw [List.getD_eq_getElem?_getD, List.getElem?_append_left hlt] at hb
      rwa [List.getD_eq_getElem?_getD]
    · by_cases he : j = acc.length
      · subst he
        rw [hp] at hj
        cases hj
        rw [List.getD_eq_getElem?_getD, List.getElem?_append_right (Nat.le_refl _)] at hb
        simp only [Nat.sub_self, List.getElem?_cons_zero, Option.getD_some] at hb
        rcases fold_bit acc _ _ _ hb with h1 | ⟨e, h1, h2⟩
        · simp at h1
        · rcases h2 with rfl | h2
          · exact ha _ h1
          · cases hee : is[e]? with
            | none =>
              have : acc.getD e 0 = 0 := by
                rw [List.getD_eq_getElem?_getD]
                have h3 := List.getElem?_eq_none_iff.1 hee
                have h4 := (List.getElem?_eq_some_iff.1 hp).1
                rw [List.getElem?_eq_none (by omega)]
                rfl
              rw [this] at h2
              simp at h2
            | some i' => exact h e i' x hee h2 (hL e i' hee (ha e h1))
      · have hge : acc.length + 1 ≤ j := by omega
        rw [List.getD_eq_getElem?_getD, List.getElem?_eq_none (by simp; omega)] at hb
        simp at hb

/-- no edge points forward -/
def backOk (is : List PI) : Bool := is.zipIdx.all fun p => p.1.after.all fun e => decide (e < p.2)

theorem mem_after {P : Program} {n : Nat} {eqs : List (Nat × List Bool)} {ops : Array Oper} {o : Oper} {i : PI} (h : compI P n eqs ops o = some i) : i.after = o.after.toList.filterMap fun e => if Region.binds .any e = true then some e.on else none := by
  unfold compI at h
  split at h
  · split at h
    · split at h
      · cases h; rfl
      · split at h
        · cases h; rfl
        · cases h
    · cases h
  · cases h

section
variable {P : Program} {n : Nat} {w0 : World} {S0 : Nat → Nat}

theorem draw_sound [I : WInv] {env : Env} (hE : EnvOK P env) (hp : I.p w0) {eqs : List (Nat × List Bool)} (heq : ∀ p, p ∈ eqs → EqT P p.1 p.2) (hm : P.follows .mixedOrders = true) {ops : Array Oper} {is : List PI} (hc : ops.toList.map (compI P n eqs ops) = is.map some) {Q : Exit → Act → World → Prop} {K : St → Prop}
    (hK : ∀ s W a w, K s → Sim w0 S0 n W s a w → Q .normal a w) {W : Wit} {s : St} {a : Act} {w : World} (hs : Sim w0 S0 n W s a w) (hback : backOk is = true) (hev : evalD env is s [] fun s' fts => drawOk is fts = true ∧ K s') (id : Nat) : (Code.region id ops true).wp P Q a w := by
  obtain ⟨es, hes, hgo, hdraw, hfin⟩ := evalD_inv is s [] _ hev
  simp only [List.reverse_nil, List.nil_append] at hdraw
  have hlen : es.length = is.length := by rw [← hes]; simp
  have hlen2 : ops.size = is.length := by
    have := congrArg List.length hc; simpa using this
  have hei : ∀ (j : Nat) e, es[j]? = some e → is[j]? = some e.i := fun j e h => by rw [← hes, List.getElem?_map, h]; rfl
  have hoi : ∀ (j : Nat) i, is[j]? = some i → ∃ o, ops[j]? = some o ∧ compI P n eqs ops o = some i := fun j i h => by
    have h1 := congrArg (·[j]?) hc
    simp only [List.getElem?_map, h, Option.map_some] at h1
    cases ho : ops[j]? with
    | none => rw [Array.getElem?_toList, ho] at h1; simp at h1
    | some o => rw [Array.getElem?_toList, ho] at h1; simp at h1; exact ⟨o, rfl, h1⟩
  -- what is not ordered is apart
  have hind : ∀ (i j : Nat) e f, i < j → es[i]? = some e → es[j]? = some f → ((masks [] is).getD j 0).testBit i = false → IndE e f := fun i j e f hij he hf hb => by
    unfold drawOk at hdraw
    have h1 := List.all_eq_true.1 hdraw j (List.mem_range.2 (by rw [← hlen]; exact (List.getElem?_eq_some_iff.1 hf).1))
    have h2 := List.all_eq_true.1 h1 i (List.mem_range.2 hij)
    rw [hb, Bool.false_or, hei i e he, hei j f hf, List.getElem?_map, List.getElem?_map, he, hf] at h2
    simp only [Option.map_some, Bool.and_eq_true] at h2
    exact h2
  refine wp_region_any hm ?_
  have main : ∀ (fuel : Nat) (listed : Array Bool) (R : List Nat) (W : Wit) (a : Act) (w : World), listed.size = ops.size → Closed is (fun k => listed.getD k false) → R.length = fuel → (∀ j, j < ops.size → listed.getD j false = false → j ∈ R) →
      Sim w0 S0 n W (stF es 0 (fun k => listed.getD k false) s) a w → wpAny P .any ops Q fuel listed a w := by
    intro fuel
    -- if nothing is left, all is done
    have done : ∀ (listed : Array Bool) (W : Wit) (a : Act) (w : World), (∀ j, j < ops.size → listed.getD j false = true) → Sim w0 S0 n W (stF es 0 (fun k => listed.getD k false) s) a w → Q .normal a w := fun listed W a w hall hsim => by
      refine hK _ W a w hfin ?_
      have h1 : stF es 0 (fun k => listed.getD k false) s = stF es 0 (fun k => decide (k < es.length)) s := by
        have : ∀ (r : List En) (k : Nat) (s : St), k + r.length ≤ es.length → stF r k (fun k => listed.getD k false) s = stF r k (fun k => decide (k < es.length)) s := by
          intro r
          induction r with
          | nil => intro k s _; rfl
          | cons e r ih =>
            intro k s hk
            simp only [List.length_cons] at hk
            show stF r (k + 1) _ (cond (listed.getD k false) (s.en e) s) = stF r (k + 1) _ (cond (decide (k < es.length)) (s.en e) s)
            rw [hall k (by omega), decide_eq_true (show k < es.length by omega)]
            exact ih (k + 1) _ (by omega)
        exact this es 0 s (by omega)
      rw [h1, stF_all] at hsim
      simpa using hsim
    have stuck : ∀ (listed : Array Bool), listed.size = ops.size → Region.ready .any ops listed = [] → ∀ j, j < ops.size → listed.getD j false = true := fun listed hsz hr => by
      intro j
      induction j using Nat.strongRecOn with
      | _ j ih =>
        intro hj
        cases hb : listed.getD j false with
        | true => rfl
        | false =>
          exfalso
          have : j ∈ Region.ready .any ops listed := by
            rw [mem_ready]
            obtain ⟨o, ho, hco⟩ := hoi j _ (List.getElem?_eq_getElem (by omega))
            refine ⟨by rw [Array.getD_eq_getD_getElem?] at hb ⊢; rw [Array.getElem?_eq_getElem (by omega)] at hb ⊢; simpa using hb, o, ho, fun e he hbind => ?_⟩
            have hmem : e.on ∈ is[j].after := by
              rw [mem_after hco]
              exact List.mem_filterMap.2 ⟨e, by simpa using he, by rw [if_pos hbind]⟩
            have hlt : e.on < j := by
              unfold backOk at hback
              have h1 := List.all_eq_true.1 hback (is[j], j) (by
                rw [List.mk_mem_zipIdx_iff_getElem?]
                exact List.getElem?_eq_getElem (by omega))
              simpa using List.all_eq_true.1 h1 _ hmem
            exact ih e.on hlt (by omega)
          rw [hr] at this
          cases this
    induction fuel with
    | zero =>
      intro listed R W a w hsz _ hR hall hsim
      have hR0 : R = [] := List.eq_nil_of_length_eq_zero hR
      subst hR0
      have hall' : ∀ j, j < ops.size → listed.getD j false = true := fun j hj => by
        cases hb : listed.getD j false with
        | true => rfl
        | false => exact absurd (hall j hj hb) (by simp)
      refine ⟨?_, done listed W a w hall' hsim⟩
      apply List.eq_nil_iff_forall_not_mem.2
      intro j hj
      obtain ⟨h1, o, ho, _⟩ := mem_ready.1 hj
      have hlt := (Array.getElem?_eq_some_iff.1 ho).1
      have h2 := hall' j hlt
      rw [Array.getD_eq_getD_getElem?, Array.getElem?_eq_getElem (by omega)] at h1 h2
      simp at h1 h2
      rw [h1] at h2
      cases h2
    | succ fuel ih =>
      intro listed R W a w hsz hcl hR hall hsim
      refine ⟨fun hr => done listed W a w (stuck listed hsz hr) hsim, fun j hj => ?_⟩
      obtain ⟨h1, o, ho, hpre⟩ := mem_ready.1 hj
      have hlt := (Array.getElem?_eq_some_iff.1 ho).1
      have hLj : listed.getD j false = false := by
        rw [Array.getD_eq_getD_getElem?, Array.getElem?_eq_getElem (by omega)] at h1 ⊢
        simpa using h1
      obtain ⟨e, he⟩ : ∃ e, es[j]? = some e := ⟨_, List.getElem?_eq_getElem (by omega)⟩
      have hij := hei j e he
      obtain ⟨o', ho', hco⟩ := hoi j _ hij
      rw [ho] at ho'
      cases ho'
      have hafter : ∀ x, x ∈ e.i.after → listed.getD x false = true := fun x hx => by
        rw [mem_after hco] at hx
        obtain ⟨ed, h2, h3⟩ := List.mem_filterMap.1 hx
        split at h3
        · rename_i hb
          cases h3
          exact hpre ed (by simpa using h2) hb
        · cases h3
      -- what the other entries do to this one
      have happart : ∀ (i : Nat) f, es[i]? = some f → i ≠ j → listed.getD i false ≠ decide (i < j) → IndE f e := fun i f hf hne hL => by
        rcases Nat.lt_or_ge i j with hij2 | hij2
        · rw [decide_eq_true hij2] at hL
          cases hb : ((masks [] is).getD j 0).testBit i with
          | false => exact hind i j f e hij2 hf he hb
          | true =>
            exfalso
            have := masks_ok is hcl is [] rfl (fun j i x _ h => by simp at h) j e.i i hij hb hafter
            exact hL this
        · have hgt : j < i := by omega
          rw [decide_eq_false (by omega)] at hL
          have hLi : listed.getD i false = true := by
            cases h : listed.getD i false with
            | true => rfl
            | false => exact absurd h hL
          cases hb : ((masks [] is).getD i 0).testBit j with
          | false => exact (hind j i e f hgt he hf hb).symm
          | true =>
            exfalso
            have := masks_ok is hcl is [] rfl (fun j i x _ h => by simp at h) i f.i j (hei i f hf) hb (hcl i f.i (hei i f hf) hLi)
            rw [hLj] at this
            cases this
      obtain ⟨hg, hrd⟩ := hgo j e he
      have hagree : Agree e.i.looks e.rd ((es.take j).foldl St.en s) (stF es 0 (fun k => listed.getD k false) s) := by
        have h2 := stF_all es 0 j s
        simp only [Nat.sub_zero] at h2
        rw [← h2]
        refine stF_agree es 0 _ _ s s (Agree.refl _ _ _) (fun i f _ hf => ?_)
        rw [Nat.sub_zero] at hf
        by_cases hij2 : i = j
        · subst hij2
          exact .inl (by rw [hLj]; simp)
        · by_cases hL : decide (i < j) = listed.getD i false
          · exact .inl hL
          · exact .inr (happart i f hf hij2 (fun h => hL h.symm))
      rw [hrd] at hagree
      refine pi_wpOp hE hp heq ho hco hsim (go_agree hagree hg) (fun v ch W' a' w' hv hsim' => ?_)
      obtain ⟨rfl, rfl⟩ := hv
      have hset := stF_set es 0 (fun k => listed.getD k false) j e s (Nat.zero_le _) (by rw [Nat.sub_zero]; exact he) hLj (fun i f hij2 hf hL => by
        rw [Nat.sub_zero] at hf
        exact (happart i f hf (by omega) (by rw [hL, decide_eq_false (by omega)]; decide)).symm)
      have hfl : (fun k => (listed.setIfInBounds j true).getD k false) = fun i => if i = j then true else listed.getD i false := by
        funext i
        rw [Array.getD_eq_getD_getElem?, Array.getElem?_setIfInBounds]
        by_cases hi : j = i
        · subst hi
          simp [hsz, hlt]
        · rw [if_neg hi, if_neg (Ne.symm hi), Array.getD_eq_getD_getElem?]
      refine ih (listed.setIfInBounds j true) (R.erase j) W' a' w' (by simpa using hsz) ?_ ?_ ?_ ?_
      · intro k i hk hL x hx
        rw [hfl] at hL ⊢
        dsimp only at hL ⊢
        split
        · rfl
        · split at hL
          · rename_i hkj
            subst hkj
            rw [hij] at hk
            cases hk
            exact hafter x hx
          · exact hcl k i hk hL x hx
      · rw [List.length_erase_of_mem (hall j hlt hLj), hR]
        rfl
      · intro i hi hL
        have hne : i ≠ j := by
          rintro rfl
          have := congrFun hfl i
          rw [this, if_pos rfl] at hL
          cases hL
        have := congrFun hfl i
        rw [this, if_neg hne] at hL
        exact (List.mem_erase_of_ne hne).2 (hall i hi hL)
      · rw [hfl, hset]
        exact hsim'
  have hfl0 : (fun k => (Array.replicate ops.size false).getD k false) = fun _ => false := by
    funext k
    rw [Array.getD_eq_getD_getElem?, Array.getElem?_replicate]
    split <;> rfl
  have hst0 : ∀ (r : List En) (k : Nat) (s : St), stF r k (fun _ => false) s = s := by
    intro r
    induction r with
    | nil => intro k s; rfl
    | cons e r ih => intro k s; exact ih (k + 1) s
  refine main ops.size _ (List.range ops.size) W a _ (by simp) ?_ (by simp) (fun j hj _ => List.mem_range.2 hj) ?_
  · intro k i _ hL
    rw [hfl0] at hL
    cases hL
  · rw [hfl0, hst0]
    exact hs.drew _
end
end Go.Proofs.Ytkdagjlkejefnaa
end
section
set_option linter.unusedSimpArgs false
set_option linter.unusedVariables false
namespace Go.Proofs.Ytkdagjlkejefnaa
open Go Go.RowKit

theorem exists_least (p : Nat → Prop) (h : ∃ n, p n) : ∃ n, p n ∧ ∀ m, p m → n ≤ m := by
  obtain ⟨n, hn⟩ := h
  induction n using Nat.strongRecOn with
  | _ n ih =>
    by_cases hm : ∃ m, m < n ∧ p m
    · obtain ⟨m, hlt, hp⟩ := hm
      exact ih m hlt hp
    · exact ⟨n, hn, fun m hp => by
        rcases Nat.lt_or_ge m n with h | h
        · exact absurd ⟨m, h, hp⟩ hm
        · exact h⟩

/-- a loop by an index that every round lowers -/
theorem wp_loop_ix {P : Program} {Q : Exit → Act → World → Prop} {a : Act} {w : World} {c : Code} (I : Nat → Act → World → Prop) (h0 : ∃ n, I n a w)
    (round : ∀ n a w, I n a w → c.wp P (Exit.then (fun a' w' => ∃ m, m < n ∧ I m a' w') Q) a w) : (Code.loop c).wp P Q a w := by
  classical
  let μ : Act → World → Nat := fun a w => if h : ∃ n, I n a w then Classical.choose (exists_least _ h) else 0
  have hμ : ∀ a w (h : ∃ n, I n a w), I (μ a w) a w ∧ ∀ m, I m a w → μ a w ≤ m := fun a w h => by
    have h1 : μ a w = Classical.choose (exists_least _ h) := dif_pos h
    rw [h1]
    exact Classical.choose_spec (exists_least _ h)
  refine wp_loop (fun a w => ∃ n, I n a w) μ h0 (fun a w h => ?_)
  refine wp_mono (round _ a w (hμ a w h).1) (fun e a' w' he => ?_)
  cases e with
  | normal =>
    obtain ⟨m, hlt, hm⟩ := he
    exact ⟨⟨m, hm⟩, Nat.lt_of_le_of_lt ((hμ a' w' ⟨m, hm⟩).2 m hm) hlt⟩
  | _ => exact he

section
variable {P : Program} {n : Nat} {w0 : World} {S0 : Nat → Nat}

/-- no edge of the code points forward in a region that draws -/
def backs : PC → Bool
  | .reg true ops => backOk ops
  | .seq a b => backs a && backs b
  | .cond _ a b => backs a && backs b
  | .block _ c => backs c
  | .loop c => backs c
  | _ => true

theorem code_sound [I : WInv] {env : Env} (hE : EnvOK P env) (hp : I.p w0) {eqs : List (Nat × List Bool)} (heq : ∀ p, p ∈ eqs → EqT P p.1 p.2) (hm : P.follows .mixedOrders = true) : ∀ (c : Code) (pc : PC), compC P n eqs c = some pc → backs pc = true →
    ∀ (Q : Exit → St → Prop) (W : Wit) (s : St) (a : Act) (w : World), pwp env pc Q s → Sim w0 S0 n W s a w → c.wp P (fun e a' w' => ∃ W' s', Sim w0 S0 n W' s' a' w' ∧ Q e s') a w := by
  intro c
  induction c with
  | skip => intro pc hc _ Q W s a w h hs; simp [compC] at hc; subst hc; exact wp_skip ⟨W, s, hs, h⟩
  | region id ops draw =>
    intro pc hc hb Q W s a w h hs
    simp only [compC, Option.map_eq_some_iff] at hc
    obtain ⟨is, his, rfl⟩ := hc
    have hmap := allSome_get _ _ his
    cases draw with
    | false =>
      refine wp_region ?_
      have hlen : is.length = ops.size := by have := congrArg List.length hmap; simp at this; omega
      have := pi_ops hE hp heq (ops := ops) (Q := fun e a' w' => ∃ W' s', Sim w0 S0 n W' s' a' w' ∧ Q e s') (K := Q .normal) (fun s W a w h1 h2 => ⟨W, s, h2, h1⟩) is 0 W s a w (by simpa using hmap) hs h
      rw [hlen] at this
      rw [List.range_eq_range']
      exact this
    | true => exact draw_sound hE hp heq hm hmap (fun s W a w h1 h2 => ⟨W, s, h2, h1⟩) hs hb h id
  | seq x y ihx ihy =>
    intro pc hc hb Q W s a w h hs
    simp only [compC] at hc
    split at hc
    · rename_i px py hx hy
      cases hc
      simp only [backs, Bool.and_eq_true] at hb
      refine wp_seq (wp_mono (ihx px hx hb.1 _ W s a w h hs) (fun e a' w' he => ?_))
      obtain ⟨W', s', hs', hq⟩ := he
      cases e with
      | normal => exact ihy py hy hb.2 Q W' s' a' w' hq hs'
      | _ => exact ⟨W', s', hs', hq⟩
    · cases hc
  | cond co x y ihx ihy =>
    intro pc hc hb Q W s a w h hs
    simp only [compC] at hc
    split at hc
    · rename_i pcn px py hcn hx hy
      cases hc
      simp only [backs, Bool.and_eq_true] at hb
      obtain ⟨t, ht, h1, h2⟩ := withSome_iff.1 h
      exact wp_cond_split (boo_ev hs hcn ht) (fun he => ihx px hx hb.1 Q W s a w (h1 he) hs) (fun he => ihy py hy hb.2 Q W s a w (h2 he) hs)
    · cases hc
  | block id x ih =>
    intro pc hc hb Q W s a w h hs
    simp only [compC, Option.map_eq_some_iff] at hc
    obtain ⟨px, hx, rfl⟩ := hc
    refine wp_block (wp_mono (ih px hx hb _ W s a w h hs) (fun e a' w' he => ?_))
    obtain ⟨W', s', hs', hq⟩ := he
    cases e with
    | exit i =>
      by_cases hi : i = id
      · simp only [hi, if_true] at hq
        simp only [Exit.inBlock, hi, if_true]
        exact ⟨W', s', hs', hq⟩
      · simp only [hi, if_false] at hq
        simp only [Exit.inBlock, hi, if_false]
        exact ⟨W', s', hs', hq⟩
    | _ => exact ⟨W', s', hs', hq⟩
  | loop x ih =>
    intro pc hc hb Q W s a w h hs
    simp only [compC, Option.map_eq_some_iff] at hc
    obtain ⟨px, hx, rfl⟩ := hc
    obtain ⟨I, ⟨k, hk⟩, hr⟩ := h
    refine wp_loop_ix (fun k a w => ∃ W s, Sim w0 S0 n W s a w ∧ I k s) ⟨k, W, s, hs, hk⟩ (fun k a w h => ?_)
    obtain ⟨W, s, hs, hI⟩ := h
    refine wp_mono (ih px hx hb _ W s a w (hr k s hI) hs) (fun e a' w' he => ?_)
    obtain ⟨W', s', hs', hq⟩ := he
    cases e with
    | normal =>
      obtain ⟨m, hlt, hm⟩ := hq
      exact ⟨m, hlt, W', s', hs', hm⟩
    | _ => exact ⟨W', s', hs', hq⟩
  | exit id => intro pc hc _ Q W s a w h hs; simp [compC] at hc; subst hc; exact wp_exit ⟨W, s, hs, h⟩
  | ret => intro pc hc _ Q W s a w h hs; simp [compC] at hc; subst hc; exact wp_ret ⟨W, s, hs, h⟩
  | rangeFunc => intro pc hc; simp [compC] at hc
  | scope => intro pc hc; simp [compC] at hc
  | label => intro pc hc; simp [compC] at hc
  | goto => intro pc hc; simp [compC] at hc
  | refuse => intro pc hc; simp [compC] at hc
end

/-! ### functions -/
inductive PR where
  | t (x : Nat)
  | c (x : Nat) (k : Option Nat)
def compR (P : Program) : ResultVar → Option PR
  | .tmp t => some (.t t)
  | .cell a t => (szT P t).map (.c a)
def St.res1 (s : St) : PR → Option Pa
  | .t x => match s.sl x with
    | .b (.one (.sv o g off ln _ sz)) => if s.gen o = g then (match s.ob o with
      | .cells cs => if off + ln * sz ≤ cs.length then (allSome (((cs.drop off).take (ln * sz)).map Cl.dt)).map fun xs => .one (.im (chunks ln sz xs)) else none
      | _ => none) else none
    | v => v.pa
  | .c x k => match s.sl x with
    | .b (.one (.ptr o g off)) => if s.gen o = g then (match s.ob o with | .cells cs => (mkAv k cs off).bind Av.pa | _ => none) else none
    | _ => none
def St.res (s : St) (rs : List PR) : Option (List Pa) := allSome (rs.map s.res1)
def St.init (az : List Pa) : St := ⟨fun x => match az[x]? with | some p => .b p.bv | none => .un, fun _ => 0, fun _ => .no⟩

def rvSem (tmps : Array Value) : ResultVar → Sem Value
  | .tmp t => pure (tmps.getD t undef)
  | .cell a t => do loadVar t (← asAddr (tmps.getD a undef))

/-- at the end of a call all that was made is settled, but the objects of other makers -/
def inAb (W : Wit) (s : St) (b : Nat) : Prop := ∃ o H, s.ob o = .ab H ∧ W.fp o b
open Classical in
noncomputable def frz (w0 : World) (W : Wit) (s : St) (w : World) : Nat → Nat := fun b => if b < w0.heap.size then W.S b else if inAb W s b then 0 else W.S b + (match w.heap[b]? with | some (.cells arr _ _) => arr.size | _ => 0)
theorem frz_ext {n : Nat} {S0 : Nat → Nat} {a : Act} {w0 : World} {W : Wit} {s : St} {w : World} (hs : Sim w0 S0 n W s a w) : Ext W.S (frz w0 W s w) w w := fun b i h1 _ => by
  refine ⟨?_, rfl⟩
  unfold frz
  split
  · exact h1
  · split
    · rename_i hab
      obtain ⟨o, H, ho, hf⟩ := hab
      have := hs.ob o
      rw [ho] at this
      rw [(this.2 b hf).2] at h1
      omega
    · omega
theorem RP.ext {S S' : Nat → Nat} {w w' : World} (h : Ext S S' w w') {p : Pa} {v : Value} (hp : RP S w p v) : RP S' w' p v := by
  cases p with
  | one x => exact RD.ext h hp
  | agg xs => obtain ⟨arr, h1, h2, h3⟩ := hp; exact ⟨arr, h1, h2, fun i x u e1 e2 => RD.ext h (h3 i x u e1 e2)⟩
theorem chunks_length {α : Type} (n sz : Nat) (xs : List α) : (chunks n sz xs).length = n := by rw [chunks_eq]; simp
theorem chunks_get {α : Type} {n sz i : Nat} {xs : List α} {r : List α} (h : (chunks n sz xs)[i]? = some r) : i < n ∧ r = (xs.drop (i * sz)).take sz := by
  have hi := (List.getElem?_eq_some_iff.1 h).1
  rw [chunks_length] at hi
  rw [chunks_eq, List.getElem?_map, List.getElem?_range hi] at h
  simp only [Option.map_some, Option.some.injEq] at h
  exact ⟨hi, h.symm⟩

theorem run_res1 {P : Program} {n : Nat} {w0 : World} {S0 : Nat → Nat} {W : Wit} {s : St} {a : Act} {w : World} (hs : Sim w0 S0 n W s a w) {rv : ResultVar} {r : PR} {p : Pa} (hr : compR P rv = some r) (hp : s.res1 r = some p) :
    ∃ v, (rvSem a.tmps rv).run P w = .ok v w ∧ RP (frz w0 W s w) w p v := by
  cases rv with
  | tmp t =>
    cases hr
    refine ⟨_, rfl, ?_⟩
    simp only [St.res1] at hp
    split at hp
    · rename_i o g off ln cap sz hsl
      split at hp
      · rename_i hg
        split at hp
        · rename_i cs hob
          split at hp
          · rename_i hle
            simp only [Option.map_eq_some_iff] at hp
            obtain ⟨xs, hxs, rfl⟩ := hp
            have h1 := hs.sl t
            rw [hsl] at h1
            obtain ⟨b, hv, hlc, hcm, _, hb⟩ := h1
            have hb := hb hg.symm
            subst hb
            have hro := hs.ob o
            rw [hob] at hro
            obtain ⟨arr, T, h4, h5, h6, h7⟩ := hro
            have hall := allSome_get _ _ hxs
            have hxl : xs.length = ln * sz := by
              have := congrArg List.length hall
              simp at this
              omega
            rw [hv]
            have hrl := chunks_length ln sz xs
            show RD (frz w0 W s w) w (.im (chunks ln sz xs)) _
            have := RD.block (S := frz w0 W s w) (w := w) (rows := chunks ln sz xs) (b := W.blk o) (o := off) (cap := cap) (sz := sz) (vs := (arr.toList.drop off).take (ln * sz)) (fun r hr => ?_) ?_ (fun j u hj => ?_) (by rw [hrl]; exact hlc) hcm (fun i r j x hr hx => ?_)
            · rw [hrl] at this; exact this
            · obtain ⟨i, hi⟩ := List.getElem?_of_mem hr
              obtain ⟨h8, rfl⟩ := chunks_get hi
              rw [List.length_take, List.length_drop, hxl]
              have : (i + 1) * sz ≤ ln * sz := Nat.mul_le_mul_right _ h8
              rw [Nat.add_mul, Nat.one_mul] at this
              omega
            · rw [hrl, List.length_take, List.length_drop, ← h7.1]
              omega
            · rw [List.getElem?_take] at hj
              split at hj
              · rw [List.getElem?_drop] at hj
                have hlt := (List.getElem?_eq_some_iff.1 hj).1
                refine ⟨?_, ?_⟩
                · simp only [World.cell?, h4]
                  simpa using hj
                · unfold frz
                  rw [if_neg (by omega), if_neg (fun hab => by
                    obtain ⟨o2, H, ho2, hf⟩ := hab
                    have he := hs.ex o o2 (W.blk o) (by rw [hob]; rfl) (by rw [ho2]; exact hf)
                    subst he
                    rw [hob] at ho2
                    cases ho2), h4]
                  simp at hlt ⊢
                  omega
              · cases hj
            · obtain ⟨h8, rfl⟩ := chunks_get hr
              rw [List.getElem?_take] at hx
              split at hx
              · rename_i hj
                rw [List.getElem?_drop] at hx
                have h9 : (((cs.drop off).take (ln * sz)).map Cl.dt)[i * sz + j]? = some (some x) := by rw [hall, List.getElem?_map, hx]; rfl
                rw [List.getElem?_map, Option.map_eq_some_iff] at h9
                obtain ⟨c, hc, hcd⟩ := h9
                have hlt : i * sz + j < ln * sz := by
                  have : (i + 1) * sz ≤ ln * sz := Nat.mul_le_mul_right _ h8
                  rw [Nat.add_mul, Nat.one_mul] at this
                  omega
                rw [List.getElem?_take, if_pos hlt, List.getElem?_drop] at hc
                obtain ⟨u, hu⟩ : ∃ u, arr.toList[off + (i * sz + j)]? = some u := ⟨_, List.getElem?_eq_getElem (by have := (List.getElem?_eq_some_iff.1 hc).1; rw [← h7.1]; exact this)⟩
                refine ⟨u, by rw [List.getElem?_take, if_pos hlt, List.getElem?_drop]; exact hu, RD.ext (frz_ext hs) (RC.dt (h7.2 _ _ _ hc hu) hcd)⟩
              · cases hx
          · cases hp
        · cases hp
      · cases hp
    · exact RP.ext (frz_ext hs) (RA.pa (hs.sl t) hp)
  | cell c t =>
    simp only [compR, Option.map_eq_some_iff] at hr
    obtain ⟨k, hk, rfl⟩ := hr
    obtain ⟨d, i, hu, hi, hkk⟩ := szT_inv hk
    simp only [St.res1] at hp
    split at hp
    · rename_i o g off hsl
      split at hp
      · rename_i hg
        split at hp
        · rename_i cs hob
          simp only [Option.bind_eq_some_iff] at hp
          obtain ⟨v, hv, hp⟩ := hp
          have h1 := hs.sl c
          rw [hsl] at h1
          have h2 := h1.2.2 hg.symm
          have hro := hs.ob o
          rw [hob] at hro
          obtain ⟨arr, T, h4, h5, h6, h7⟩ := hro
          have hcell : ∀ (j : Nat) u, arr.toList[j]? = some u → w.cell? ⟨W.blk o, j, none⟩ = some u := fun j u hj => by
            simp only [World.cell?, h4]
            simpa using hj
          have hag := run_isAgg (P := P) hu w
          unfold rvSem
          dsimp only
          rw [h2]
          rcases mkAv_cells h7 hv with ⟨rfl, c', u, e1, e2, rfl, e3⟩ | ⟨m, rfl, e1, rfl, e2⟩
          · have hf : aggT d = false := by cases h : aggT d <;> simp [h] at hkk ⊢
            rw [hf] at hag
            refine ⟨u, ?_, RP.ext (frz_ext hs) (RA.pa (G := s.gen) (O := s.ob) (v := .b (.one c')) e3 hp)⟩
            simp [asAddr, loadVar, hag, hcell off u e2]
          · have ht : aggT d = true := by cases h : aggT d <;> simp [h] at hkk ⊢
            rw [ht] at hag hkk
            simp at hkk
            subst hkk
            have hlen : ((arr.toList.drop off).take i.size).length = i.size := by simp at e1 ⊢; omega
            have hl := run_loadCells_list (P := P) w ⟨W.blk o, off, none⟩ ((arr.toList.drop off).take i.size) (fun j u hj => by
              rw [addr_add]
              rw [List.getElem?_take] at hj
              split at hj
              · rw [List.getElem?_drop] at hj
                exact hcell _ _ hj
              · cases hj)
            rw [hlen] at hl
            refine ⟨.agg ((arr.toList.drop off).take i.size).toArray, ?_, RP.ext (frz_ext hs) (RA.pa (G := s.gen) (O := s.ob) (v := .b (.agg ((cs.drop off).take i.size))) ⟨_, rfl, by simpa using e2⟩ hp)⟩
            simp only [asAddr, Sem.run_bind, Sem.run_pure, Result.andThen_ok, loadVar, hag, if_true, sizeOf, typeInfo, run_program, hi, hl]
        · cases hp
      · cases hp
    · cases hp

theorem run_results {P : Program} {n : Nat} {w0 : World} {S0 : Nat → Nat} {W : Wit} {s : St} {a : Act} {w : World} (hs : Sim w0 S0 n W s a w) : ∀ (rvs : List ResultVar) (prs : List PR) (ps : List Pa), allSome (rvs.map (compR P)) = some prs → s.res prs = some ps →
    ∃ vs : List Value, (rvs.mapM (rvSem a.tmps)).run P w = .ok vs w ∧ ps.length = vs.length ∧ ∀ (i : Nat) p u, ps[i]? = some p → vs[i]? = some u → RP (frz w0 W s w) w p u
  | [], prs, ps, h1, h2 => by
    simp [allSome] at h1; subst h1
    simp [St.res, allSome] at h2; subst h2
    exact ⟨[], by simp, rfl, fun i p u h => by simp at h⟩
  | rv :: rvs, prs, ps, h1, h2 => by
    simp only [List.map_cons] at h1
    cases hr : compR P rv with
    | none => rw [hr] at h1; simp [allSome] at h1
    | some r =>
      rw [hr] at h1
      simp only [allSome, Option.map_eq_some_iff] at h1
      obtain ⟨prs', hp, rfl⟩ := h1
      simp only [St.res, List.map_cons] at h2
      cases hr1 : s.res1 r with
      | none => rw [hr1] at h2; simp [allSome] at h2
      | some p =>
        rw [hr1] at h2
        simp only [allSome, Option.map_eq_some_iff] at h2
        obtain ⟨ps', hps, rfl⟩ := h2
        obtain ⟨v, h3, h4⟩ := run_res1 hs hr hr1
        obtain ⟨vs, h5, h6, h7⟩ := run_results hs rvs prs' ps' hp hps
        refine ⟨v :: vs, ?_, by simp [h6], fun i q u e1 e2 => ?_⟩
        · rw [List.mapM_cons, Sem.run_bind, h3, Result.andThen_ok, Sem.run_bind, h5]
          rfl
        · cases i with
          | zero => simp at e1 e2; subst e1; subst e2; exact h4
          | succ i => exact h7 i q u (by simpa using e1) (by simpa using e2)

theorem fn_sound [I : WInv] {P : Program} {env : Env} (hE : EnvOK P env) {eqs : List (Nat × List Bool)} (heq : ∀ p, p ∈ eqs → EqT P p.1 p.2) (hm : P.follows .mixedOrders = true) {f : Nat} {fn : Func} {c : Code} {pc : PC} {prs : List PR} (hf : P.funcs[f]? = some fn) (hb : fn.body = some c)
    (hc : compC P fn.ntmps eqs c = some pc) (hback : backs pc = true) (hr : allSome (fn.results.toList.map (compR P)) = some prs) {R : List Pa → List Pa → Prop}
    (hR : ∀ az rs, R az rs → az.length ≤ fn.ntmps ∧ pwp env pc (fun e s => (e = .normal ∨ e = .ret) ∧ s.res prs = some rs) (St.init az)) : Spec P f R := by
  intro az rs has S w vals hwi hvals
  obtain ⟨hlen, hw⟩ := hR az rs has
  refine calls_of_wp hf hb ?_
  have hinit : Sim w S fn.ntmps ⟨fun _ => 0, fun _ => undef, fun _ => undef, fun _ _ => False, S⟩ (St.init az) { tmps := vals ++ Array.replicate (fn.ntmps - vals.size) undef, defers := [] } w := by
    refine ⟨Below.refl _ _, fun _ _ => rfl, ?_, rfl, fun x => ?_, fun _ => trivial, fun o o' b h => h.elim⟩
    · have := hvals.1
      simp; omega
    · show RA _ _ _ _ (match az[x]? with | some p => .b p.bv | none => .un) _
      cases hx : az[x]? with
      | none => trivial
      | some p =>
        have hlt : x < vals.size := by rw [← hvals.1]; exact (List.getElem?_eq_some_iff.1 hx).1
        have : (vals ++ Array.replicate (fn.ntmps - vals.size) undef).getD x undef = vals[x] := by
          rw [Array.getD_eq_getD_getElem?, Array.getElem?_append_left hlt, Array.getElem?_eq_getElem hlt]
          rfl
        rw [this]
        exact RP.av (W := ⟨fun _ => 0, fun _ => undef, fun _ => undef, fun _ _ => False, S⟩) (hvals.2 x p _ hx (Array.getElem?_eq_getElem hlt))
  refine wp_mono (code_sound hE hwi heq hm c pc hc hback _ _ _ _ _ hw hinit) (fun e a' w' he => ?_)
  obtain ⟨W', s', hs', hret, hres⟩ := he
  have hfin : bodyPost P fn (fun e w' => ∃ v S', e = .returned v ∧ RR S' w' rs v ∧ Below w.heap.size w w' ∧ ∀ b, b < w.heap.size → S' b = S b) .ret a' w' := by
    refine ⟨hs'.dfs, ?_⟩
    obtain ⟨vs, h1, h2, h3⟩ := run_results (P := P) hs' fn.results.toList prs rs hr hres
    have h4 : (results fn a'.tmps).run P w' = .ok (if h : vs.length = 1 then vs[0] else .tuple vs.toArray) w' := by
      have h5 : results fn a'.tmps = (fn.results.mapM (rvSem a'.tmps)) >>= fun vs => pure (if h : vs.size = 1 then vs[0] else .tuple vs) := by
        unfold results
        congr 1
      have h6 : fn.results = fn.results.toList.toArray := by simp
      rw [h5, h6, List.mapM_toArray, Sem.run_bind, Sem.run_map, h1]
      simp
    refine ⟨_, h4, _, frz w W' s' w', rfl, ?_, hs'.below, fun b hb => by unfold frz; rw [if_pos hb]; exact hs'.s0 b hb⟩
    match rs, vs, h2, h3 with
    | [], _, _, _ => trivial
    | [p], [v], _, h3 => exact h3 0 p v rfl rfl
    | p :: q :: r, vs, h2, h3 =>
      have hne : ¬ vs.length = 1 := by rw [← h2]; simp
      rw [dif_neg hne]
      exact ⟨vs.toArray, rfl, by simpa using h2, fun i p u e1 e2 => h3 i p u e1 (by simpa using e2)⟩
  rcases hret with rfl | rfl
  · exact hfin
  · exact hfin

/-- the same for a function that hands back an object of another maker, and data -/
theorem fn_sound_new [I : WInv] {P : Program} {env : Env} (hE : EnvOK P env) {eqs : List (Nat × List Bool)} (heq : ∀ p, p ∈ eqs → EqT P p.1 p.2) (hm : P.follows .mixedOrders = true) {f : Nat} {fn : Func} {c : Code} {pc : PC} {t0 : Nat} {rv0 : ResultVar} {rvs : List ResultVar} {prs : List PR} (hf : P.funcs[f]? = some fn) (hb : fn.body = some c)
    (hc : compC P fn.ntmps eqs c = some pc) (hback : backs pc = true) (hrv : fn.results.toList = rv0 :: rvs) (hr0 : compR P rv0 = some (.t t0)) (hr : allSome (rvs.map (compR P)) = some prs) {R : List Pa → HP → List Pa → Prop}
    (hR : ∀ az H rs, R az H rs → az.length ≤ fn.ntmps ∧ pwp env pc (fun e s => (e = .normal ∨ e = .ret) ∧ (∃ o, s.sl t0 = .b (.one (.ab o (s.gen o))) ∧ s.ob o = .ab H) ∧ s.res prs = some rs) (St.init az)) : SpecA P f (fun Ho az H rs => Ho = none ∧ R az H rs) := by
  rintro Ho az H rs ⟨rfl, has⟩ S w vals hwi hvals
  obtain ⟨hlen, hw⟩ := hR az H rs has
  refine calls_of_wp hf hb ?_
  have hinit : Sim w S fn.ntmps ⟨fun _ => 0, fun _ => undef, fun _ => undef, fun _ _ => False, S⟩ (St.init az) { tmps := vals ++ Array.replicate (fn.ntmps - vals.size) undef, defers := [] } w := by
    refine ⟨Below.refl _ _, fun _ _ => rfl, ?_, rfl, fun x => ?_, fun _ => trivial, fun o o' b h => h.elim⟩
    · have := hvals.1
      simp; omega
    · show RA _ _ _ _ (match az[x]? with | some p => .b p.bv | none => .un) _
      cases hx : az[x]? with
      | none => trivial
      | some p =>
        have hlt : x < vals.size := by rw [← hvals.1]; exact (List.getElem?_eq_some_iff.1 hx).1
        have : (vals ++ Array.replicate (fn.ntmps - vals.size) undef).getD x undef = vals[x] := by
          rw [Array.getD_eq_getD_getElem?, Array.getElem?_append_left hlt, Array.getElem?_eq_getElem hlt]
          rfl
        rw [this]
        exact RP.av (W := ⟨fun _ => 0, fun _ => undef, fun _ => undef, fun _ _ => False, S⟩) (hvals.2 x p _ hx (Array.getElem?_eq_getElem hlt))
  refine wp_mono (code_sound hE hwi heq hm c pc hc hback _ _ _ _ _ hw hinit) (fun e a' w' he => ?_)
  obtain ⟨W', s', hs', hret, ⟨o, hsl, hob⟩, hres⟩ := he
  have hfin : bodyPost P fn (fun e w' => ∃ u S' adr fp', e = .returned u ∧ RN S' w' adr rs u ∧ adr.oneCell' = true ∧ H.r w' adr fp' ∧ Below w.heap.size w w' ∧ (∀ b, fp' b → w.heap.size ≤ b ∧ S' b = 0) ∧ ∀ b, b < w.heap.size → S' b = S b) .ret a' w' := by
    refine ⟨hs'.dfs, ?_⟩
    obtain ⟨vs, h1, h2, h3⟩ := run_results (P := P) hs' rvs prs rs hr hres
    have hro := hs'.ob o
    rw [hob] at hro
    have hslot := hs'.sl t0
    rw [hsl] at hslot
    have hadr := hslot.2.2 rfl
    have hrv0 : (rvSem a'.tmps rv0).run P w' = .ok (W'.adr o) w' := by
      cases rv0 with
      | tmp t => cases hr0; show (pure (a'.tmps.getD t0 undef) : Sem Value).run P w' = _; rw [hadr]; rfl
      | cell x t => simp only [compR, Option.map_eq_some_iff] at hr0; obtain ⟨_, _, h⟩ := hr0; cases h
    have h4 : (results fn a'.tmps).run P w' = .ok (if h : (W'.adr o :: vs).length = 1 then (W'.adr o :: vs)[0] else .tuple (W'.adr o :: vs).toArray) w' := by
      have h5 : results fn a'.tmps = (fn.results.mapM (rvSem a'.tmps)) >>= fun vs => pure (if h : vs.size = 1 then vs[0] else .tuple vs) := by
        unfold results
        congr 1
      have h6 : fn.results = (rv0 :: rvs).toArray := by rw [← hrv]
      rw [h5, h6, List.mapM_toArray, Sem.run_bind, Sem.run_map, List.mapM_cons, Sem.run_bind, hrv0, Result.andThen_ok, Sem.run_bind, h1]
      simp
    refine ⟨_, h4, _, frz w W' s' w', W'.adr o, W'.fp o, rfl, ?_, by rw [← hadr]; exact hslot.1, hro.1, hs'.below, fun b hb => ⟨(hro.2 b hb).1, ?_⟩, fun b hb => by unfold frz; rw [if_pos hb]; exact hs'.s0 b hb⟩
    · match rs, vs, h2, h3 with
      | [], [], _, _ => rfl
      | p :: r, vs, h2, h3 =>
        have hne : ¬ (W'.adr o :: vs).length = 1 := by rw [List.length_cons, ← h2]; simp
        rw [dif_neg hne]
        refine ⟨vs.toArray, by simp, by simpa using h2, fun i p u e1 e2 => h3 i p u e1 (by simpa using e2)⟩
    · unfold frz
      rw [if_neg (by have := (hro.2 b hb).1; omega), if_pos ⟨o, H, hob, hb⟩]
  rcases hret with rfl | rfl
  · exact hfin
  · exact hfin
end Go.Proofs.Ytkdagjlkejefnaa
end
section
set_option linter.unusedSimpArgs false
set_option linter.unusedVariables false
namespace Go.Proofs.Ytkdagjlkejefnaa
open Go Go.RowKit

section
variable {P : Program}
/-- a basic type: some kb, kb whether it is bool -/
def basicT (P : Program) (t : Nat) : Option Bool := match P.underlying t with
  | some (.int _) => some false
  | some .bool => some true
  | _ => none

theorem eq_basic {t : Nat} {kb : Bool} (hb : basicT P t = some kb) {x y : Cl} {u v : Value} {r : Bool} {W : Wit} {G : Nat → Nat} {O : Nat → Ob} {w : World} (hx : RC W G O w x u) (hy : RC W G O w y v) (h : eqCl kb x y = some r) (d : Nat) :
    (Op.equalIn (d + 1) t u v).run P w = .ok r w := by
  unfold basicT at hb
  unfold eqCl at h
  split at h
  · rename_i k a k' b
    split at h
    · rename_i hk
      cases h
      obtain ⟨rfl, _⟩ := RD.sc_inv hx
      obtain ⟨rfl, _⟩ := RD.sc_inv hy
      rw [Op.equalIn.eq_2]
      split at hb
      · rename_i k2 hu; simp [run_underlying hu, hk.2]
      · cases hb; exact absurd hk.1 (by decide)
      · cases hb
    · cases h
  · rename_i a b
    split at h
    · rename_i hk
      cases h
      obtain ⟨rfl, _⟩ := RD.sc_inv hx
      obtain ⟨rfl, _⟩ := RD.sc_inv hy
      rw [Op.equalIn.eq_2]
      split at hb
      · cases hb; exact absurd hk (by decide)
      · rename_i hu; simp [run_underlying hu]
      · cases hb
    · cases h
  · cases h

theorem basic_part {t : Nat} {kb : Bool} (hb : basicT P t = some kb) {xs : Array Value} {i : Nat} {u : Value} (hi : xs[i]? = some u) (w : World) : (part t xs i).run P w = .ok u w := by
  obtain ⟨d, hd, ha⟩ : ∃ d, P.underlying t = some d ∧ aggT d = false := by
    unfold basicT at hb
    split at hb
    · rename_i k hu; exact ⟨_, hu, rfl⟩
    · rename_i hu; exact ⟨_, hu, rfl⟩
    · cases hb
  have := run_isAgg hd w
  simp [part, this, ha, hi]

theorem eqCls_cons {ks : List Bool} {cs ds : List Cl} {r : Bool} {i : Nat} (h : eqCls (ks.drop i) (cs.drop i) (ds.drop i) = some r) {k : Bool} (hk : ks[i]? = some k) :
    ∃ x y a b, cs[i]? = some x ∧ ds[i]? = some y ∧ eqCl k x y = some a ∧ eqCls (ks.drop (i + 1)) (cs.drop (i + 1)) (ds.drop (i + 1)) = some b ∧ r = (a && b) := by
  have hlt := (List.getElem?_eq_some_iff.1 hk).1
  rw [List.drop_eq_getElem_cons hlt] at h
  rcases Nat.lt_or_ge i cs.length with h1 | h1
  · rcases Nat.lt_or_ge i ds.length with h2 | h2
    · rw [List.drop_eq_getElem_cons h1, List.drop_eq_getElem_cons h2] at h
      simp only [eqCls] at h
      split at h
      · rename_i a b ha hb
        cases h
        rw [List.getElem?_eq_getElem hlt] at hk
        cases hk
        exact ⟨_, _, a, b, List.getElem?_eq_getElem h1, List.getElem?_eq_getElem h2, ha, hb, rfl⟩
      · cases h
    · rw [List.drop_eq_nil_of_le h2, List.drop_eq_getElem_cons h1] at h
      simp [eqCls] at h
  · rw [List.drop_eq_nil_of_le h1] at h
    simp [eqCls] at h

/-- a struct whose fields are ints and bools -/
def flatS (P : Program) (fs : Array Field) (ks : List Bool) : Bool := fs.size == ks.length && fs.toList.zipIdx.all fun p => p.1.name != "_" && p.1.offset == p.2 && basicT P p.1.type == ks[p.2]?

theorem eqT_struct {t : Nat} {fs : Array Field} {ks : List Bool} (hu : P.underlying t = some (.struct fs)) (hst : P.stoodInHeld t = false) (hg : P.eqGuardType P.depth t = false) (hfl : flatS P fs ks = true) : EqT P t ks := by
  refine ⟨hg, fun xs ys cs ds r W G O w h3 h4 h5 => ?_⟩
  show (Op.equalIn (9999 + 1) t (.agg xs) (.agg ys)).run P w = _
  rw [Op.equalIn.eq_2]
  simp only [Sem.run_bind, run_underlying hu, Result.andThen_ok, run_program, hst]
  rw [if_neg (by decide)]
  unfold flatS at hfl
  rw [Bool.and_eq_true] at hfl
  obtain ⟨hsz, hall⟩ := hfl
  have hsz' : fs.size = ks.length := by simpa using hsz
  have key : ∀ (l : List Field) (i : Nat) (r : Bool), l = fs.toList.drop i → eqCls (ks.drop i) (cs.drop i) (ds.drop i) = some r →
      (forIn l ((none : Option Bool), ()) fun f __s =>
        (if f.name ≠ "_" then do
          let __do_lift ← part f.type xs f.offset
          let __do_lift_1 ← part f.type ys f.offset
          let __do_lift ← Op.equalIn 9999 f.type __do_lift __do_lift_1
          if (!__do_lift) = true then pure (ForInStep.done (some false, ()))
          else pure (ForInStep.yield (none, ()))
        else pure (ForInStep.yield (none, ())) : Sem (ForInStep (Option Bool × Unit)))).run P w = .ok (if r then none else some false, ()) w := by
    intro l
    induction l with
    | nil =>
      intro i r hl h
      have hge : ks.length ≤ i := by
        have := congrArg List.length hl
        simp at this; omega
      rw [List.drop_eq_nil_of_le hge] at h
      generalize cs.drop i = a at h
      generalize ds.drop i = b at h
      cases a <;> cases b <;> simp [eqCls] at h
      subst h
      simp
    | cons f l ih =>
      intro i r hl h
      have hfi : fs[i]? = some f := by
        have := congrArg (·[0]?) hl
        simpa using this.symm
      have hilt := (Array.getElem?_eq_some_iff.1 hfi).1
      have hp := List.all_eq_true.1 hall (f, i) (by
        rw [List.mk_mem_zipIdx_iff_getElem?]
        simpa using hfi)
      simp only [Bool.and_eq_true, bne_iff_ne, beq_iff_eq] at hp
      obtain ⟨⟨hn, ho⟩, hb⟩ := hp
      have hk : ks[i]? = some ks[i] := List.getElem?_eq_getElem (by omega)
      rw [hk] at hb
      obtain ⟨x, y, a, b, e1, e2, e3, e4, rfl⟩ := eqCls_cons h hk
      have hx1 : i < xs.size := by have := h3.1; have := (List.getElem?_eq_some_iff.1 e1).1; simp at *; omega
      have hy1 : i < ys.size := by have := h4.1; have := (List.getElem?_eq_some_iff.1 e2).1; simp at *; omega
      have hx : xs[i]? = some xs[i] := Array.getElem?_eq_getElem hx1
      have hy : ys[i]? = some ys[i] := Array.getElem?_eq_getElem hy1
      have heq : (Op.equalIn 9999 f.type xs[i] ys[i]).run P w = .ok a w := eq_basic hb (h3.2 i x xs[i] e1 (by rw [Array.getElem?_toList]; exact hx)) (h4.2 i y ys[i] e2 (by rw [Array.getElem?_toList]; exact hy)) e3 9998
      rw [List.forIn_cons, if_pos hn, ho]
      simp only [Sem.run_bind, basic_part hb hx, basic_part hb hy, Result.andThen_ok, heq]
      cases a with
      | true =>
        simp only [Bool.not_true, Bool.false_eq_true, if_false, Sem.run_pure, Result.andThen_ok, Bool.true_and]
        exact ih (i + 1) b (by
          have := congrArg List.tail hl
          simpa using this) e4
      | false => simp
  have hk := key fs.toList 0 r rfl (by simpa using h5)
  rw [← Array.forIn_toList, Sem.run_bind, hk]
  cases r <;> rfl

theorem eqT_array {t e m : Nat} {ei : TypeInfo} (hu : P.underlying t = some (.array m e)) (hi : P.info? e = some ei) (hsz1 : ei.size = 1) (hg : P.eqGuardType P.depth t = false) (hb : basicT P e = some false) : EqT P t (List.replicate m false) := by
  refine ⟨hg, fun xs ys cs ds r W G O w h3 h4 h5 => ?_⟩
  show (Op.equalIn (9999 + 1) t (.agg xs) (.agg ys)).run P w = _
  rw [Op.equalIn.eq_2]
  simp only [Sem.run_bind, run_underlying hu, Result.andThen_ok, sizeOf, typeInfo, run_program, hi, Sem.run_pure, hsz1, Nat.mul_one, Std.Legacy.Range.forIn_eq_forIn_range', Std.Legacy.Range.size, Nat.sub_zero, Nat.add_one_sub_one, Nat.div_one]
  have key : ∀ (k i : Nat) (r : Bool), i + k = m → eqCls ((List.replicate m false).drop i) (cs.drop i) (ds.drop i) = some r →
      (forIn (List.range' i k) ((none : Option Bool), ()) fun i __s =>
        (do
          let __do_lift ← part e xs i
          let __do_lift_1 ← part e ys i
          let __do_lift ← Op.equalIn 9999 e __do_lift __do_lift_1
          if (!__do_lift) = true then pure (ForInStep.done (some false, ()))
          else pure (ForInStep.yield (none, ())) : Sem (ForInStep (Option Bool × Unit)))).run P w = .ok (if r then none else some false, ()) w := by
    intro k
    induction k with
    | zero =>
      intro i r hl h
      rw [List.drop_eq_nil_of_le (by simp; omega)] at h
      generalize cs.drop i = a at h
      generalize ds.drop i = b at h
      cases a <;> cases b <;> simp [eqCls] at h
      subst h
      simp
    | succ k ih =>
      intro i r hl h
      have hk : (List.replicate m false)[i]? = some false := by
        rw [List.getElem?_replicate, if_pos (by omega)]
      obtain ⟨x, y, a, b, e1, e2, e3, e4, rfl⟩ := eqCls_cons h hk
      have hx1 : i < xs.size := by have := h3.1; have := (List.getElem?_eq_some_iff.1 e1).1; simp at *; omega
      have hy1 : i < ys.size := by have := h4.1; have := (List.getElem?_eq_some_iff.1 e2).1; simp at *; omega
      have hx : xs[i]? = some xs[i] := Array.getElem?_eq_getElem hx1
      have hy : ys[i]? = some ys[i] := Array.getElem?_eq_getElem hy1
      have heq : (Op.equalIn 9999 e xs[i] ys[i]).run P w = .ok a w := eq_basic hb (h3.2 i x xs[i] e1 (by rw [Array.getElem?_toList]; exact hx)) (h4.2 i y ys[i] e2 (by rw [Array.getElem?_toList]; exact hy)) e3 9998
      rw [List.range'_succ, List.forIn_cons]
      simp only [Sem.run_bind, basic_part hb hx, basic_part hb hy, Result.andThen_ok, heq]
      cases a with
      | true =>
        simp only [Bool.not_true, Bool.false_eq_true, if_false, Sem.run_pure, Result.andThen_ok, Bool.true_and]
        exact ih (i + 1) b (by omega) e4
      | false => simp
  have hk := key m 0 r (by omega) (by simpa using h5)
  rw [hk]
  cases r <;> rfl
end
end Go.Proofs.Ytkdagjlkejefnaa
end
