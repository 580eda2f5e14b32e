/- Regions that draw their order, whole codes, functions. -/
import Derived.Test.YtohliamalaifhaaMb1
section
set_option linter.unusedSimpArgs false
set_option linter.unusedVariables false
namespace Go.Proofs.Ytohliamalaifhaa
open Go Go.RowKit

theorem go_inv {env : Env} {i : PI} {s : St} {K : Av → Cg → Prop} (h : i.go env s K) : ∃ v ch, i.go env s (fun v' ch' => v' = v ∧ ch' = ch) ∧ K v ch := by
  have hop : ∀ K : Av → Cg → Prop, i.op.go env s (i.dst.getD 0) K → ∃ v ch, i.op.go env s (i.dst.getD 0) (fun v' ch' => v' = v ∧ ch' = ch) ∧ K v ch := fun K hg => by
    cases hc : i.op with
    | call f xs =>
      rw [hc] at hg
      obtain ⟨as, e1, rs, e2, e3⟩ := withSome_iff.1 hg
      exact ⟨_, _, withSome_iff.2 ⟨as, e1, rs, e2, rfl, rfl⟩, e3⟩
    | _ =>
      rw [hc, PO.go_fn rfl] at hg
      obtain ⟨⟨v, ch⟩, e1, e2⟩ := withSome_iff.1 hg
      exact ⟨v, ch, by rw [PO.go_fn rfl]; exact withSome_iff.2 ⟨(v, ch), e1, rfl, rfl⟩, e2⟩
  unfold PI.go at h ⊢
  cases hg : i.guard with
  | none => rw [hg] at h; exact hop K h
  | some p =>
    obtain ⟨t, want⟩ := p
    rw [hg] at h
    obtain ⟨b, e1, e2, e3⟩ := withSome_iff.1 h
    by_cases hb : b = some want
    · obtain ⟨v, ch, e4, e5⟩ := hop K (e2 hb)
      exact ⟨v, ch, withSome_iff.2 ⟨b, e1, fun _ => e4, fun h => absurd hb h⟩, e5⟩
    · exact ⟨skp, .no, withSome_iff.2 ⟨b, e1, fun h => absurd h hb, fun _ => ⟨rfl, rfl⟩⟩, e3 hb⟩

theorem evalD_inv {env : Env} : ∀ (is : List PI) (s : St) (acc : List (List Rg × List Rg)) (K : St → List (List Rg × List Rg) → Prop), evalD env is s acc K →
    ∃ es : List En, es.map (·.i) = is ∧ (∀ (j : Nat) e, es[j]? = some e → e.i.go env ((es.take j).foldl St.en s) (fun v ch => v = e.v ∧ ch = e.ch) ∧ e.rd = e.i.rd ((es.take j).foldl St.en s)) ∧
      K (es.foldl St.en s) (acc.reverse ++ es.map fun e => (e.rd, e.ch.wrs))
  | [], s, acc, K, h => ⟨[], rfl, fun j e h => by simp at h, by simpa [evalD] using h⟩
  | i :: is, s, acc, K, h => by
    obtain ⟨v, ch, h1, h2⟩ := go_inv h
    obtain ⟨es, h3, h4, h5⟩ := evalD_inv is _ _ K h2
    refine ⟨⟨i, v, ch, i.rd s⟩ :: es, by simp [h3], fun j e he => ?_, ?_⟩
    · cases j with
      | zero => simp at he; subst he; exact ⟨h1, rfl⟩
      | succ j => exact h4 j e (by simpa using he)
    · have h6 := h5
      simp only [List.reverse_cons, List.append_assoc, List.singleton_append] at h6
      exact h6

/-! the order that the text lays down -/
def Closed (is : List PI) (L : Nat → Bool) : Prop := ∀ (k : Nat) i, is[k]? = some i → L k = true → ∀ e, e ∈ i.after → L e = true

theorem fold_bit (acc : List Nat) : ∀ (l : List Nat) (m x : Nat), (l.foldl (fun m e => m ||| (1 <<< e) ||| acc.getD e 0) m).testBit x = true → m.testBit x = true ∨ ∃ e, e ∈ l ∧ (x = e ∨ (acc.getD e 0).testBit x = true)
  | [], m, x, h => .inl h
  | e :: l, m, x, h => by
    rcases fold_bit acc l _ x h with h1 | ⟨e', h1, h2⟩
    · simp only [Nat.testBit_or, Bool.or_eq_true, Nat.one_shiftLeft, Nat.testBit_two_pow] at h1
      rcases h1 with (h1 | h1) | h1
      · exact .inl h1
      · exact .inr ⟨e, by simp, .inl (by simpa [eq_comm] using h1)⟩
      · exact .inr ⟨e, by simp, .inr h1⟩
    · exact .inr ⟨e', by simp [h1], h2⟩

theorem masks_ok (is : List PI) {L : Nat → Bool} (hL : Closed is L) : ∀ (r : List PI) (acc : List Nat), r = is.drop acc.length →
    (∀ (j : Nat) i x, is[j]? = some i → (acc.getD j 0).testBit x = true → (∀ e, e ∈ i.after → L e = true) → L x = true) →
    ∀ (j : Nat) i x, is[j]? = some i → ((masks acc r).getD j 0).testBit x = true → (∀ e, e ∈ i.after → L e = true) → L x = true
  | [], acc, _, h => h
  | p :: r, acc, hr, h => by
    simp only [masks]
    have hp : is[acc.length]? = some p := by
      have := congrArg (·[0]?) hr
      simpa using this.symm
    refine masks_ok is hL r _ (by
      have := congrArg List.tail hr
      simpa using this) (fun j i x hj hb ha => ?_)
    by_cases hlt : j < acc.length
    · refine h j i x hj ?_ ha
      rw [List.getD_eq_getElem?_getD, List.getElem?_append_left hlt] at hb
      rwa [List.getD_eq_getElem?_getD]
    · by_cases he : j = acc.length
      · subst he
        rw [hp] at hj
        cases hj
        rw [List.getD_eq_getElem?_getD, List.getElem?_append_right (Nat.le_refl _)] at hb
        simp only [Nat.sub_self, List.getElem?_cons_zero, Option.getD_some] at hb
        rcases fold_bit acc _ _ _ hb with h1 | ⟨e, h1, h2⟩
        · simp at h1
        · rcases h2 with rfl | h2
          · exact ha _ h1
          · cases hee : is[e]? with
            | none =>
              have : acc.getD e 0 = 0 := by
                rw [List.getD_eq_getElem?_getD]
                have h3 := List.getElem?_eq_none_iff.1 hee
                have h4 := (List.getElem?_eq_some_iff.1 hp).1
                rw [List.getElem?_eq_none (by omega)]
                rfl
              rw [this] at h2
              simp at h2
            | some i' => exact h e i' x hee h2 (hL e i' hee (ha e h1))
      · have hge : acc.length + 1 ≤ j := by omega
        rw [List.getD_eq_getElem?_getD, List.getElem?_eq_none (by simp; omega)] at hb
        simp at hb

/-- no edge points forward -/
def backOk (is : List PI) : Bool := is.zipIdx.all fun p => p.1.after.all fun e => decide (e < p.2)

theorem mem_after {P : Program} {n : Nat} {eqs : List (Nat × List Bool)} {ops : Array Oper} {o : Oper} {i : PI} (h : compI P n eqs ops o = some i) : i.after = o.after.toList.filterMap fun e => if Region.binds .any e = true then some e.on else none := by
  unfold compI at h
  split at h
  · split at h
    · split at h
      · cases h; rfl
      · split at h
        · cases h; rfl
        · cases h
    · cases h
  · cases h

section
variable {P : Program} {n : Nat} {w0 : World} {S0 : Nat → Nat}

theorem draw_sound [I : WInv] {env : Env} (hE : EnvOK P env) (hp : I.p w0) {eqs : List (Nat × List Bool)} (heq : ∀ p, p ∈ eqs → EqT P p.1 p.2) (hm : P.follows .mixedOrders = true) {ops : Array Oper} {is : List PI} (hc : ops.toList.map (compI P n eqs ops) = is.map some) {Q : Exit → Act → World → Prop} {K : St → Prop}
    (hK : ∀ s W a w, K s → Sim w0 S0 n W s a w → Q .normal a w) {W : Wit} {s : St} {a : Act} {w : World} (hs : Sim w0 S0 n W s a w) (hback : backOk is = true) (hev : evalD env is s [] fun s' fts => drawOk is fts = true ∧ K s') (id : Nat) : (Code.region id ops true).wp P Q a w := by
  obtain ⟨es, hes, hgo, hdraw, hfin⟩ := evalD_inv is s [] _ hev
  simp only [List.reverse_nil, List.nil_append] at hdraw
  have hlen : es.length = is.length := by rw [← hes]; simp
  have hlen2 : ops.size = is.length := by
    have := congrArg List.length hc; simpa using this
  have hei : ∀ (j : Nat) e, es[j]? = some e → is[j]? = some e.i := fun j e h => by rw [← hes, List.getElem?_map, h]; rfl
  have hoi : ∀ (j : Nat) i, is[j]? = some i → ∃ o, ops[j]? = some o ∧ compI P n eqs ops o = some i := fun j i h => by
    have h1 := congrArg (·[j]?) hc
    simp only [List.getElem?_map, h, Option.map_some] at h1
    cases ho : ops[j]? with
    | none => rw [Array.getElem?_toList, ho] at h1; simp at h1
    | some o => rw [Array.getElem?_toList, ho] at h1; simp at h1; exact ⟨o, rfl, h1⟩
  -- what is not ordered is apart
  have hind : ∀ (i j : Nat) e f, i < j → es[i]? = some e → es[j]? = some f → ((masks [] is).getD j 0).testBit i = false → IndE e f := fun i j e f hij he hf hb => by
    unfold drawOk at hdraw
    have h1 := List.all_eq_true.1 hdraw j (List.mem_range.2 (by rw [← hlen]; exact (List.getElem?_eq_some_iff.1 hf).1))
    have h2 := List.all_eq_true.1 h1 i (List.mem_range.2 hij)
    rw [hb, Bool.false_or, hei i e he, hei j f hf, List.getElem?_map, List.getElem?_map, he, hf] at h2
    simp only [Option.map_some, Bool.and_eq_true] at h2
    exact h2
  refine wp_region_any hm ?_
  have main : ∀ (fuel : Nat) (listed : Array Bool) (R : List Nat) (W : Wit) (a : Act) (w : World), listed.size = ops.size → Closed is (fun k => listed.getD k false) → R.length = fuel → (∀ j, j < ops.size → listed.getD j false = false → j ∈ R) →
      Sim w0 S0 n W (stF es 0 (fun k => listed.getD k false) s) a w → wpAny P .any ops Q fuel listed a w := by
    intro fuel
    -- if nothing is left, all is done
    have done : ∀ (listed : Array Bool) (W : Wit) (a : Act) (w : World), (∀ j, j < ops.size → listed.getD j false = true) → Sim w0 S0 n W (stF es 0 (fun k => listed.getD k false) s) a w → Q .normal a w := fun listed W a w hall hsim => by
      refine hK _ W a w hfin ?_
      have h1 : stF es 0 (fun k => listed.getD k false) s = stF es 0 (fun k => decide (k < es.length)) s := by
        have : ∀ (r : List En) (k : Nat) (s : St), k + r.length ≤ es.length → stF r k (fun k => listed.getD k false) s = stF r k (fun k => decide (k < es.length)) s := by
          intro r
          induction r with
          | nil => intro k s _; rfl
          | cons e r ih =>
            intro k s hk
            simp only [List.length_cons] at hk
            show stF r (k + 1) _ (cond (listed.getD k false) (s.en e) s) = stF r (k + 1) _ (cond (decide (k < es.length)) (s.en e) s)
            rw [hall k (by omega), decide_eq_true (show k < es.length by omega)]
            exact ih (k + 1) _ (by omega)
        exact this es 0 s (by omega)
      rw [h1, stF_all] at hsim
      simpa using hsim
    have stuck : ∀ (listed : Array Bool), listed.size = ops.size → Region.ready .any ops listed = [] → ∀ j, j < ops.size → listed.getD j false = true := fun listed hsz hr => by
      intro j
      induction j using Nat.strongRecOn with
      | _ j ih =>
        intro hj
        cases hb : listed.getD j false with
        | true => rfl
        | false =>
          exfalso
          have : j ∈ Region.ready .any ops listed := by
            rw [mem_ready]
            obtain ⟨o, ho, hco⟩ := hoi j _ (List.getElem?_eq_getElem (by omega))
            refine ⟨by rw [Array.getD_eq_getD_getElem?] at hb ⊢; rw [Array.getElem?_eq_getElem (by omega)] at hb ⊢; simpa using hb, o, ho, fun e he hbind => ?_⟩
            have hmem : e.on ∈ is[j].after := by
              rw [mem_after hco]
              exact List.mem_filterMap.2 ⟨e, by simpa using he, by rw [if_pos hbind]⟩
            have hlt : e.on < j := by
              unfold backOk at hback
              have h1 := List.all_eq_true.1 hback (is[j], j) (by
                rw [List.mk_mem_zipIdx_iff_getElem?]
                exact List.getElem?_eq_getElem (by omega))
              simpa using List.all_eq_true.1 h1 _ hmem
            exact ih e.on hlt (by omega)
          rw [hr] at this
          cases this
    induction fuel with
    | zero =>
      intro listed R W a w hsz _ hR hall hsim
      have hR0 : R = [] := List.eq_nil_of_length_eq_zero hR
      subst hR0
      have hall' : ∀ j, j < ops.size → listed.getD j false = true := fun j hj => by
        cases hb : listed.getD j false with
        | true => rfl
        | false => exact absurd (hall j hj hb) (by simp)
      refine ⟨?_, done listed W a w hall' hsim⟩
      apply List.eq_nil_iff_forall_not_mem.2
      intro j hj
      obtain ⟨h1, o, ho, _⟩ := mem_ready.1 hj
      have hlt := (Array.getElem?_eq_some_iff.1 ho).1
      have h2 := hall' j hlt
      rw [Array.getD_eq_getD_getElem?, Array.getElem?_eq_getElem (by omega)] at h1 h2
      simp at h1 h2
      rw [h1] at h2
      cases h2
    | succ fuel ih =>
      intro listed R W a w hsz hcl hR hall hsim
      refine ⟨fun hr => done listed W a w (stuck listed hsz hr) hsim, fun j hj => ?_⟩
      obtain ⟨h1, o, ho, hpre⟩ := mem_ready.1 hj
      have hlt := (Array.getElem?_eq_some_iff.1 ho).1
      have hLj : listed.getD j false = false := by
        rw [Array.getD_eq_getD_getElem?, Array.getElem?_eq_getElem (by omega)] at h1 ⊢
        simpa using h1
      obtain ⟨e, he⟩ : ∃ e, es[j]? = some e := ⟨_, List.getElem?_eq_getElem (by omega)⟩
      have hij := hei j e he
      obtain ⟨o', ho', hco⟩ := hoi j _ hij
      rw [ho] at ho'
      cases ho'
      have hafter : ∀ x, x ∈ e.i.after → listed.getD x false = true := fun x hx => by
        rw [mem_after hco] at hx
        obtain ⟨ed, h2, h3⟩ := List.mem_filterMap.1 hx
        split at h3
        · rename_i hb
          cases h3
          exact hpre ed (by simpa using h2) hb
        · cases h3
      -- what the other entries do to this one
      have happart : ∀ (i : Nat) f, es[i]? = some f → i ≠ j → listed.getD i false ≠ decide (i < j) → IndE f e := fun i f hf hne hL => by
        rcases Nat.lt_or_ge i j with hij2 | hij2
        · rw [decide_eq_true hij2] at hL
          cases hb : ((masks [] is).getD j 0).testBit i with
          | false => exact hind i j f e hij2 hf he hb
          | true =>
            exfalso
            have := masks_ok is hcl is [] rfl (fun j i x _ h => by simp at h) j e.i i hij hb hafter
            exact hL this
        · have hgt : j < i := by omega
          rw [decide_eq_false (by omega)] at hL
          have hLi : listed.getD i false = true := by
            cases h : listed.getD i false with
            | true => rfl
            | false => exact absurd h hL
          cases hb : ((masks [] is).getD i 0).testBit j with
          | false => exact (hind j i e f hgt he hf hb).symm
          | true =>
            exfalso
            have := masks_ok is hcl is [] rfl (fun j i x _ h => by simp at h) i f.i j (hei i f hf) hb (hcl i f.i (hei i f hf) hLi)
            rw [hLj] at this
            cases this
      obtain ⟨hg, hrd⟩ := hgo j e he
      have hagree : Agree e.i.looks e.rd ((es.take j).foldl St.en s) (stF es 0 (fun k => listed.getD k false) s) := by
        have h2 := stF_all es 0 j s
        simp only [Nat.sub_zero] at h2
        rw [← h2]
        refine stF_agree es 0 _ _ s s (Agree.refl _ _ _) (fun i f _ hf => ?_)
        rw [Nat.sub_zero] at hf
        by_cases hij2 : i = j
        · subst hij2
          exact .inl (by rw [hLj]; simp)
        · by_cases hL : decide (i < j) = listed.getD i false
          · exact .inl hL
          · exact .inr (happart i f hf hij2 (fun h => hL h.symm))
      rw [hrd] at hagree
      refine pi_wpOp hE hp heq ho hco hsim (go_agree hagree hg) (fun v ch W' a' w' hv hsim' => ?_)
      obtain ⟨rfl, rfl⟩ := hv
      have hset := stF_set es 0 (fun k => listed.getD k false) j e s (Nat.zero_le _) (by rw [Nat.sub_zero]; exact he) hLj (fun i f hij2 hf hL => by
        rw [Nat.sub_zero] at hf
        exact (happart i f hf (by omega) (by rw [hL, decide_eq_false (by omega)]; decide)).symm)
      have hfl : (fun k => (listed.setIfInBounds j true).getD k false) = fun i => if i = j then true else listed.getD i false := by
        funext i
        rw [Array.getD_eq_getD_getElem?, Array.getElem?_setIfInBounds]
        by_cases hi : j = i
        · subst hi
          simp [hsz, hlt]
        · rw [if_neg hi, if_neg (Ne.symm hi), Array.getD_eq_getD_getElem?]
      refine ih (listed.setIfInBounds j true) (R.erase j) W' a' w' (by simpa using hsz) ?_ ?_ ?_ ?_
      · intro k i hk hL x hx
        rw [hfl] at hL ⊢
        dsimp only at hL ⊢
        split
        · rfl
        · split at hL
          · rename_i hkj
            subst hkj
            rw [hij] at hk
            cases hk
            exact hafter x hx
          · exact hcl k i hk hL x hx
      · rw [List.length_erase_of_mem (hall j hlt hLj), hR]
        rfl
      · intro i hi hL
        have hne : i ≠ j := by
          rintro rfl
          have := congrFun hfl i
          rw [this, if_pos rfl] at hL
          cases hL
        have := congrFun hfl i
        rw [this, if_neg hne] at hL
        exact (List.mem_erase_of_ne hne).2 (hall i hi hL)
      · rw [hfl, hset]
        exact hsim'
  have hfl0 : (fun k => (Array.replicate ops.size false).getD k false) = fun _ => false := by
    funext k
    rw [Array.getD_eq_getD_getElem?, Array.getElem?_replicate]
    split <;> rfl
  have hst0 : ∀ (r : List En) (k : Nat) (s : St), stF r k (fun _ => false) s = s := by
    intro r
    induction r with
    | nil => intro k s; rfl
    | cons e r ih => intro k s; exact ih (k + 1) s
  refine main ops.size _ (List.range ops.size) W a _ (by simp) ?_ (by simp) (fun j hj _ => List.mem_range.2 hj) ?_
  · intro k i _ hL
    rw [hfl0] at hL
    cases hL
  · rw [hfl0, hst0]
    exact hs.drew _
end
end Go.Proofs.Ytohliamalaifhaa
end
section
set_option linter.unusedSimpArgs false
set_option linter.unusedVariables false
namespace Go.Proofs.Ytohliamalaifhaa
open Go Go.RowKit

theorem exists_least (p : Nat → Prop) (h : ∃ n, p n) : ∃ n, p n ∧ ∀ m, p m → n ≤ m := by
  obtain ⟨n, hn⟩ := h
  induction n using Nat.strongRecOn with
  | _ n ih =>
    by_cases hm : ∃ m, m < n ∧ p m
    · obtain ⟨m, hlt, hp⟩ := hm
      exact ih m hlt hp
    · exact ⟨n, hn, fun m hp => by
        rcases Nat.lt_or_ge m n with h | h
        · exact absurd ⟨m, h, hp⟩ hm
        · exact h⟩

/-- a loop by an index that every round lowers -/
theorem wp_loop_ix {P : Program} {Q : Exit → Act → World → Prop} {a : Act} {w : World} {c : Code} (I : Nat → Act → World → Prop) (h0 : ∃ n, I n a w)
    (round : ∀ n a w, I n a w → c.wp P (Exit.then (fun a' w' => ∃ m, m < n ∧ I m a' w') Q) a w) : (Code.loop c).wp P Q a w := by
  classical
  let μ : Act → World → Nat := fun a w => if h : ∃ n, I n a w then Classical.choose (exists_least _ h) else 0
  have hμ : ∀ a w (h : ∃ n, I n a w), I (μ a w) a w ∧ ∀ m, I m a w → μ a w ≤ m := fun a w h => by
    have h1 : μ a w = Classical.choose (exists_least _ h) := dif_pos h
    rw [h1]
    exact Classical.choose_spec (exists_least _ h)
  refine wp_loop (fun a w => ∃ n, I n a w) μ h0 (fun a w h => ?_)
  refine wp_mono (round _ a w (hμ a w h).1) (fun e a' w' he => ?_)
  cases e with
  | normal =>
    obtain ⟨m, hlt, hm⟩ := he
    exact ⟨⟨m, hm⟩, Nat.lt_of_le_of_lt ((hμ a' w' ⟨m, hm⟩).2 m hm) hlt⟩
  | _ => exact he

section
variable {P : Program} {n : Nat} {w0 : World} {S0 : Nat → Nat}

/-- no edge of the code points forward in a region that draws -/
def backs : PC → Bool
  | .reg true ops => backOk ops
  | .seq a b => backs a && backs b
  | .cond _ a b => backs a && backs b
  | .block _ c => backs c
  | .loop c => backs c
  | _ => true

theorem code_sound [I : WInv] {env : Env} (hE : EnvOK P env) (hp : I.p w0) {eqs : List (Nat × List Bool)} (heq : ∀ p, p ∈ eqs → EqT P p.1 p.2) (hm : P.follows .mixedOrders = true) : ∀ (c : Code) (pc : PC), compC P n eqs c = some pc → backs pc = true →
    ∀ (Q : Exit → St → Prop) (W : Wit) (s : St) (a : Act) (w : World), pwp env pc Q s → Sim w0 S0 n W s a w → c.wp P (fun e a' w' => ∃ W' s', Sim w0 S0 n W' s' a' w' ∧ Q e s') a w := by
  intro c
  induction c with
  | skip => intro pc hc _ Q W s a w h hs; simp [compC] at hc; subst hc; exact wp_skip ⟨W, s, hs, h⟩
  | region id ops draw =>
    intro pc hc hb Q W s a w h hs
    simp only [compC, Option.map_eq_some_iff] at hc
    obtain ⟨is, his, rfl⟩ := hc
    have hmap := allSome_get _ _ his
    cases draw with
    | false =>
      refine wp_region ?_
      have hlen : is.length = ops.size := by have := congrArg List.length hmap; simp at this; omega
      have := pi_ops hE hp heq (ops := ops) (Q := fun e a' w' => ∃ W' s', Sim w0 S0 n W' s' a' w' ∧ Q e s') (K := Q .normal) (fun s W a w h1 h2 => ⟨W, s, h2, h1⟩) is 0 W s a w (by simpa using hmap) hs h
      rw [hlen] at this
      rw [List.range_eq_range']
      exact this
    | true => exact draw_sound hE hp heq hm hmap (fun s W a w h1 h2 => ⟨W, s, h2, h1⟩) hs hb h id
  | seq x y ihx ihy =>
    intro pc hc hb Q W s a w h hs
    simp only [compC] at hc
    split at hc
    · rename_i px py hx hy
      cases hc
      simp only [backs, Bool.and_eq_true] at hb
      refine wp_seq (wp_mono (ihx px hx hb.1 _ W s a w h hs) (fun e a' w' he => ?_))
      obtain ⟨W', s', hs', hq⟩ := he
      cases e with
      | normal => exact ihy py hy hb.2 Q W' s' a' w' hq hs'
      | _ => exact ⟨W', s', hs', hq⟩
    · cases hc
  | cond co x y ihx ihy =>
    intro pc hc hb Q W s a w h hs
    simp only [compC] at hc
    split at hc
    · rename_i pcn px py hcn hx hy
      cases hc
      simp only [backs, Bool.and_eq_true] at hb
      obtain ⟨t, ht, h1, h2⟩ := withSome_iff.1 h
      exact wp_cond_split (boo_ev hs hcn ht) (fun he => ihx px hx hb.1 Q W s a w (h1 he) hs) (fun he => ihy py hy hb.2 Q W s a w (h2 he) hs)
    · cases hc
  | block id x ih =>
    intro pc hc hb Q W s a w h hs
    simp only [compC, Option.map_eq_some_iff] at hc
    obtain ⟨px, hx, rfl⟩ := hc
    refine wp_block (wp_mono (ih px hx hb _ W s a w h hs) (fun e a' w' he => ?_))
    obtain ⟨W', s', hs', hq⟩ := he
    cases e with
    | exit i =>
      by_cases hi : i = id
      · simp only [hi, if_true] at hq
        simp only [Exit.inBlock, hi, if_true]
        exact ⟨W', s', hs', hq⟩
      · simp only [hi, if_false] at hq
        simp only [Exit.inBlock, hi, if_false]
        exact ⟨W', s', hs', hq⟩
    | _ => exact ⟨W', s', hs', hq⟩
  | loop x ih =>
    intro pc hc hb Q W s a w h hs
    simp only [compC, Option.map_eq_some_iff] at hc
    obtain ⟨px, hx, rfl⟩ := hc
    obtain ⟨I, ⟨k, hk⟩, hr⟩ := h
    refine wp_loop_ix (fun k a w => ∃ W s, Sim w0 S0 n W s a w ∧ I k s) ⟨k, W, s, hs, hk⟩ (fun k a w h => ?_)
    obtain ⟨W, s, hs, hI⟩ := h
    refine wp_mono (ih px hx hb _ W s a w (hr k s hI) hs) (fun e a' w' he => ?_)
    obtain ⟨W', s', hs', hq⟩ := he
    cases e with
    | normal =>
      obtain ⟨m, hlt, hm⟩ := hq
      exact ⟨m, hlt, W', s', hs', hm⟩
    | _ => exact ⟨W', s', hs', hq⟩
  | exit id => intro pc hc _ Q W s a w h hs; simp [compC] at hc; subst hc; exact wp_exit ⟨W, s, hs, h⟩
  | ret => intro pc hc _ Q W s a w h hs; simp [compC] at hc; subst hc; exact wp_ret ⟨W, s, hs, h⟩
  | rangeFunc => intro pc hc; simp [compC] at hc
  | scope => intro pc hc; simp [compC] at hc
  | label => intro pc hc; simp [compC] at hc
  | goto => intro pc hc; simp [compC] at hc
  | refuse => intro pc hc; simp [compC] at hc
end

/-! ### functions -/
inductive PR where
  | t (x : Nat)
  | c (x : Nat) (k : Option Nat)
def compR (P : Program) : ResultVar → Option PR
  | .tmp t => some (.t t)
  | .cell a t => (szT P t).map (.c a)
def St.res1 (s : St) : PR → Option Pa
  | .t x => match s.sl x with
    | .b (.one (.sv o g off ln _ sz)) => if s.gen o = g then (match s.ob o with
      | .cells cs => if off + ln * sz ≤ cs.length then (allSome (((cs.drop off).take (ln * sz)).map Cl.dt)).map fun xs => .one (.im (chunks ln sz xs)) else none
      | _ => none) else none
    | v => v.pa
  | .c x k => match s.sl x with
    | .b (.one (.ptr o g off)) => if s.gen o = g then (match s.ob o with | .cells cs => (mkAv k cs off).bind Av.pa | _ => none) else none
    | _ => none
def St.res (s : St) (rs : List PR) : Option (List Pa) := allSome (rs.map s.res1)
def St.init (as : List Pa) : St := ⟨fun x => match as[x]? with | some p => .b p.bv | none => .un, fun _ => 0, fun _ => .no⟩

def rvSem (tmps : Array Value) : ResultVar → Sem Value
  | .tmp t => pure (tmps.getD t undef)
  | .cell a t => do loadVar t (← asAddr (tmps.getD a undef))

/-- at the end of a call all that was made is settled -/
def frz (w0 : World) (W : Wit) (w : World) : Nat → Nat := fun b => if b < w0.heap.size then W.S b else W.S b + (match w.heap[b]? with | some (.cells arr _ _) => arr.size | _ => 0)
theorem frz_ext (w0 : World) (W : Wit) (w : World) : Ext W.S (frz w0 W w) w w := fun b i h1 _ => by
  refine ⟨?_, rfl⟩
  unfold frz
  split <;> omega
theorem RP.ext {S S' : Nat → Nat} {w w' : World} (h : Ext S S' w w') {p : Pa} {v : Value} (hp : RP S w p v) : RP S' w' p v := by
  cases p with
  | one x => exact RD.ext h hp
  | agg xs => obtain ⟨arr, h1, h2, h3⟩ := hp; exact ⟨arr, h1, h2, fun i x u e1 e2 => RD.ext h (h3 i x u e1 e2)⟩
theorem chunks_length {α : Type} (n sz : Nat) (xs : List α) : (chunks n sz xs).length = n := by rw [chunks_eq]; simp
theorem chunks_get {α : Type} {n sz i : Nat} {xs : List α} {r : List α} (h : (chunks n sz xs)[i]? = some r) : i < n ∧ r = (xs.drop (i * sz)).take sz := by
  have hi := (List.getElem?_eq_some_iff.1 h).1
  rw [chunks_length] at hi
  rw [chunks_eq, List.getElem?_map, List.getElem?_range hi] at h
  simp only [Option.map_some, Option.some.injEq] at h
  exact ⟨hi, h.symm⟩

theorem run_res1 {P : Program} {n : Nat} {w0 : World} {S0 : Nat → Nat} {W : Wit} {s : St} {a : Act} {w : World} (hs : Sim w0 S0 n W s a w) {rv : ResultVar} {r : PR} {p : Pa} (hr : compR P rv = some r) (hp : s.res1 r = some p) :
    ∃ v, (rvSem a.tmps rv).run P w = .ok v w ∧ RP (frz w0 W w) w p v := by
  cases rv with
  | tmp t =>
    cases hr
    refine ⟨_, rfl, ?_⟩
    simp only [St.res1] at hp
    split at hp
    · rename_i o g off ln cap sz hsl
      split at hp
      · rename_i hg
        split at hp
        · rename_i cs hob
          split at hp
          · rename_i hle
            simp only [Option.map_eq_some_iff] at hp
            obtain ⟨xs, hxs, rfl⟩ := hp
            have h1 := hs.sl t
            rw [hsl] at h1
            obtain ⟨b, hv, hlc, hcm, _, hb⟩ := h1
            have hb := hb hg.symm
            subst hb
            have hro := hs.ob o
            rw [hob] at hro
            obtain ⟨arr, T, h4, h5, h6, h7⟩ := hro
            have hall := allSome_get _ _ hxs
            have hxl : xs.length = ln * sz := by
              have := congrArg List.length hall
              simp at this
              omega
            rw [hv]
            have hrl := chunks_length ln sz xs
            show RD (frz w0 W w) w (.im (chunks ln sz xs)) _
            have := RD.block (S := frz w0 W w) (w := w) (rows := chunks ln sz xs) (b := W.blk o) (o := off) (cap := cap) (sz := sz) (vs := (arr.toList.drop off).take (ln * sz)) (fun r hr => ?_) ?_ (fun j u hj => ?_) (by rw [hrl]; exact hlc) hcm (fun i r j x hr hx => ?_)
            · rw [hrl] at this; exact this
            · obtain ⟨i, hi⟩ := List.getElem?_of_mem hr
              obtain ⟨h8, rfl⟩ := chunks_get hi
              rw [List.length_take, List.length_drop, hxl]
              have : (i + 1) * sz ≤ ln * sz := Nat.mul_le_mul_right _ h8
              rw [Nat.add_mul, Nat.one_mul] at this
              omega
            · rw [hrl, List.length_take, List.length_drop, ← h7.1]
              omega
            · rw [List.getElem?_take] at hj
              split at hj
              · rw [List.getElem?_drop] at hj
                have hlt := (List.getElem?_eq_some_iff.1 hj).1
                refine ⟨?_, ?_⟩
                · simp only [World.cell?, h4]
                  simpa using hj
                · unfold frz
                  rw [if_neg (by omega), h4]
                  simp at hlt ⊢
                  omega
              · cases hj
            · obtain ⟨h8, rfl⟩ := chunks_get hr
              rw [List.getElem?_take] at hx
              split at hx
              · rename_i hj
                rw [List.getElem?_drop] at hx
                have h9 : (((cs.drop off).take (ln * sz)).map Cl.dt)[i * sz + j]? = some (some x) := by rw [hall, List.getElem?_map, hx]; rfl
                rw [List.getElem?_map, Option.map_eq_some_iff] at h9
                obtain ⟨c, hc, hcd⟩ := h9
                have hlt : i * sz + j < ln * sz := by
                  have : (i + 1) * sz ≤ ln * sz := Nat.mul_le_mul_right _ h8
                  rw [Nat.add_mul, Nat.one_mul] at this
                  omega
                rw [List.getElem?_take, if_pos hlt, List.getElem?_drop] at hc
                obtain ⟨u, hu⟩ : ∃ u, arr.toList[off + (i * sz + j)]? = some u := ⟨_, List.getElem?_eq_getElem (by have := (List.getElem?_eq_some_iff.1 hc).1; rw [← h7.1]; exact this)⟩
                refine ⟨u, by rw [List.getElem?_take, if_pos hlt, List.getElem?_drop]; exact hu, RD.ext (frz_ext w0 W w) (RC.dt (h7.2 _ _ _ hc hu) hcd)⟩
              · cases hx
          · cases hp
        · cases hp
      · cases hp
    · exact RP.ext (frz_ext w0 W w) (RA.pa (hs.sl t) hp)
  | cell c t =>
    simp only [compR, Option.map_eq_some_iff] at hr
    obtain ⟨k, hk, rfl⟩ := hr
    obtain ⟨d, i, hu, hi, hkk⟩ := szT_inv hk
    simp only [St.res1] at hp
    split at hp
    · rename_i o g off hsl
      split at hp
      · rename_i hg
        split at hp
        · rename_i cs hob
          simp only [Option.bind_eq_some_iff] at hp
          obtain ⟨v, hv, hp⟩ := hp
          have h1 := hs.sl c
          rw [hsl] at h1
          have h2 := h1.2.2 hg.symm
          have hro := hs.ob o
          rw [hob] at hro
          obtain ⟨arr, T, h4, h5, h6, h7⟩ := hro
          have hcell : ∀ (j : Nat) u, arr.toList[j]? = some u → w.cell? ⟨W.blk o, j, none⟩ = some u := fun j u hj => by
            simp only [World.cell?, h4]
            simpa using hj
          have hag := run_isAgg (P := P) hu w
          unfold rvSem
          dsimp only
          rw [h2]
          rcases mkAv_cells h7 hv with ⟨rfl, c', u, e1, e2, rfl, e3⟩ | ⟨m, rfl, e1, rfl, e2⟩
          · have hf : aggT d = false := by cases h : aggT d <;> simp [h] at hkk ⊢
            rw [hf] at hag
            refine ⟨u, ?_, RP.ext (frz_ext w0 W w) (RA.pa (G := s.gen) (O := s.ob) (v := .b (.one c')) e3 hp)⟩
            simp [asAddr, loadVar, hag, hcell off u e2]
          · have ht : aggT d = true := by cases h : aggT d <;> simp [h] at hkk ⊢
            rw [ht] at hag hkk
            simp at hkk
            subst hkk
            have hlen : ((arr.toList.drop off).take i.size).length = i.size := by simp at e1 ⊢; omega
            have hl := run_loadCells_list (P := P) w ⟨W.blk o, off, none⟩ ((arr.toList.drop off).take i.size) (fun j u hj => by
              rw [addr_add]
              rw [List.getElem?_take] at hj
              split at hj
              · rw [List.getElem?_drop] at hj
                exact hcell _ _ hj
              · cases hj)
            rw [hlen] at hl
            refine ⟨.agg ((arr.toList.drop off).take i.size).toArray, ?_, RP.ext (frz_ext w0 W w) (RA.pa (G := s.gen) (O := s.ob) (v := .b (.agg ((cs.drop off).take i.size))) ⟨_, rfl, by simpa using e2⟩ hp)⟩
            simp only [asAddr, Sem.run_bind, Sem.run_pure, Result.andThen_ok, loadVar, hag, if_true, sizeOf, typeInfo, run_program, hi, hl]
        · cases hp
      · cases hp
    · cases hp

theorem run_results {P : Program} {n : Nat} {w0 : World} {S0 : Nat → Nat} {W : Wit} {s : St} {a : Act} {w : World} (hs : Sim w0 S0 n W s a w) : ∀ (rvs : List ResultVar) (prs : List PR) (ps : List Pa), allSome (rvs.map (compR P)) = some prs → s.res prs = some ps →
    ∃ vs : List Value, (rvs.mapM (rvSem a.tmps)).run P w = .ok vs w ∧ ps.length = vs.length ∧ ∀ (i : Nat) p u, ps[i]? = some p → vs[i]? = some u → RP (frz w0 W w) w p u
  | [], prs, ps, h1, h2 => by
    simp [allSome] at h1; subst h1
    simp [St.res, allSome] at h2; subst h2
    exact ⟨[], by simp, rfl, fun i p u h => by simp at h⟩
  | rv :: rvs, prs, ps, h1, h2 => by
    simp only [List.map_cons] at h1
    cases hr : compR P rv with
    | none => rw [hr] at h1; simp [allSome] at h1
    | some r =>
      rw [hr] at h1
      simp only [allSome, Option.map_eq_some_iff] at h1
      obtain ⟨prs', hp, rfl⟩ := h1
      simp only [St.res, List.map_cons] at h2
      cases hr1 : s.res1 r with
      | none => rw [hr1] at h2; simp [allSome] at h2
      | some p =>
        rw [hr1] at h2
        simp only [allSome, Option.map_eq_some_iff] at h2
        obtain ⟨ps', hps, rfl⟩ := h2
        obtain ⟨v, h3, h4⟩ := run_res1 hs hr hr1
        obtain ⟨vs, h5, h6, h7⟩ := run_results hs rvs prs' ps' hp hps
        refine ⟨v :: vs, ?_, by simp [h6], fun i q u e1 e2 => ?_⟩
        · rw [List.mapM_cons, Sem.run_bind, h3, Result.andThen_ok, Sem.run_bind, h5]
          rfl
        · cases i with
          | zero => simp at e1 e2; subst e1; subst e2; exact h4
          | succ i => exact h7 i q u (by simpa using e1) (by simpa using e2)

theorem fn_sound [I : WInv] {P : Program} {env : Env} (hE : EnvOK P env) {eqs : List (Nat × List Bool)} (heq : ∀ p, p ∈ eqs → EqT P p.1 p.2) (hm : P.follows .mixedOrders = true) {f : Nat} {fn : Func} {c : Code} {pc : PC} {prs : List PR} (hf : P.funcs[f]? = some fn) (hb : fn.body = some c)
    (hc : compC P fn.ntmps eqs c = some pc) (hback : backs pc = true) (hr : allSome (fn.results.toList.map (compR P)) = some prs) {R : List Pa → List Pa → Prop}
    (hR : ∀ as rs, R as rs → as.length ≤ fn.ntmps ∧ pwp env pc (fun e s => (e = .normal ∨ e = .ret) ∧ s.res prs = some rs) (St.init as)) : Spec P f R := by
  intro as rs has S w vals hwi hvals
  obtain ⟨hlen, hw⟩ := hR as rs has
  refine calls_of_wp hf hb ?_
  have hinit : Sim w S fn.ntmps ⟨fun _ => 0, fun _ => undef, fun _ => undef, fun _ _ => False, S⟩ (St.init as) { tmps := vals ++ Array.replicate (fn.ntmps - vals.size) undef, defers := [] } w := by
    refine ⟨Below.refl _ _, fun _ _ => rfl, ?_, rfl, fun x => ?_, fun _ => trivial, fun o o' b h => h.elim⟩
    · have := hvals.1
      simp; omega
    · show RA _ _ _ _ (match as[x]? with | some p => .b p.bv | none => .un) _
      cases hx : as[x]? with
      | none => trivial
      | some p =>
        have hlt : x < vals.size := by rw [← hvals.1]; exact (List.getElem?_eq_some_iff.1 hx).1
        have : (vals ++ Array.replicate (fn.ntmps - vals.size) undef).getD x undef = vals[x] := by
          rw [Array.getD_eq_getD_getElem?, Array.getElem?_append_left hlt, Array.getElem?_eq_getElem hlt]
          rfl
        rw [this]
        exact RP.av (W := ⟨fun _ => 0, fun _ => undef, fun _ => undef, fun _ _ => False, S⟩) (hvals.2 x p _ hx (Array.getElem?_eq_getElem hlt))
  refine wp_mono (code_sound hE hwi heq hm c pc hc hback _ _ _ _ _ hw hinit) (fun e a' w' he => ?_)
  obtain ⟨W', s', hs', hret, hres⟩ := he
  have hfin : bodyPost P fn (fun e w' => ∃ v S', e = .returned v ∧ RR S' w' rs v ∧ Below w.heap.size w w' ∧ ∀ b, b < w.heap.size → S' b = S b) .ret a' w' := by
    refine ⟨hs'.dfs, ?_⟩
    obtain ⟨vs, h1, h2, h3⟩ := run_results (P := P) hs' fn.results.toList prs rs hr hres
    have h4 : (results fn a'.tmps).run P w' = .ok (if h : vs.length = 1 then vs[0] else .tuple vs.toArray) w' := by
      have h5 : results fn a'.tmps = (fn.results.mapM (rvSem a'.tmps)) >>= fun vs => pure (if h : vs.size = 1 then vs[0] else .tuple vs) := by
        unfold results
        congr 1
      have h6 : fn.results = fn.results.toList.toArray := by simp
      rw [h5, h6, List.mapM_toArray, Sem.run_bind, Sem.run_map, h1]
      simp
    refine ⟨_, h4, _, frz w W' w', rfl, ?_, hs'.below, fun b hb => by unfold frz; rw [if_pos hb]; exact hs'.s0 b hb⟩
    match rs, vs, h2, h3 with
    | [], _, _, _ => trivial
    | [p], [v], _, h3 => exact h3 0 p v rfl rfl
    | p :: q :: r, vs, h2, h3 =>
      have hne : ¬ vs.length = 1 := by rw [← h2]; simp
      rw [dif_neg hne]
      exact ⟨vs.toArray, rfl, by simpa using h2, fun i p u e1 e2 => h3 i p u e1 (by simpa using e2)⟩
  rcases hret with rfl | rfl
  · exact hfin
  · exact hfin
end Go.Proofs.Ytohliamalaifhaa
end
section
set_option linter.unusedSimpArgs false
set_option linter.unusedVariables false
namespace Go.Proofs.Ytohliamalaifhaa
open Go Go.RowKit

section
variable {P : Program}
/-- a basic type: some kb, kb whether it is bool -/
def basicT (P : Program) (t : Nat) : Option Bool := match P.underlying t with
  | some (.int _) => some false
  | some .bool => some true
  | _ => none

theorem eq_basic {t : Nat} {kb : Bool} (hb : basicT P t = some kb) {x y : Cl} {u v : Value} {r : Bool} {W : Wit} {G : Nat → Nat} {O : Nat → Ob} {w : World} (hx : RC W G O w x u) (hy : RC W G O w y v) (h : eqCl kb x y = some r) (d : Nat) :
    (Op.equalIn (d + 1) t u v).run P w = .ok r w := by
  unfold basicT at hb
  unfold eqCl at h
  split at h
  · rename_i k a k' b
    split at h
    · rename_i hk
      cases h
      obtain ⟨rfl, _⟩ := RD.sc_inv hx
      obtain ⟨rfl, _⟩ := RD.sc_inv hy
      rw [Op.equalIn.eq_2]
      split at hb
      · rename_i k2 hu; simp [run_underlying hu, hk.2]
      · cases hb; exact absurd hk.1 (by decide)
      · cases hb
    · cases h
  · rename_i a b
    split at h
    · rename_i hk
      cases h
      obtain ⟨rfl, _⟩ := RD.sc_inv hx
      obtain ⟨rfl, _⟩ := RD.sc_inv hy
      rw [Op.equalIn.eq_2]
      split at hb
      · cases hb; exact absurd hk (by decide)
      · rename_i hu; simp [run_underlying hu]
      · cases hb
    · cases h
  · cases h

theorem basic_part {t : Nat} {kb : Bool} (hb : basicT P t = some kb) {xs : Array Value} {i : Nat} {u : Value} (hi : xs[i]? = some u) (w : World) : (part t xs i).run P w = .ok u w := by
  obtain ⟨d, hd, ha⟩ : ∃ d, P.underlying t = some d ∧ aggT d = false := by
    unfold basicT at hb
    split at hb
    · rename_i k hu; exact ⟨_, hu, rfl⟩
    · rename_i hu; exact ⟨_, hu, rfl⟩
    · cases hb
  have := run_isAgg hd w
  simp [part, this, ha, hi]

theorem eqCls_cons {ks : List Bool} {cs ds : List Cl} {r : Bool} {i : Nat} (h : eqCls (ks.drop i) (cs.drop i) (ds.drop i) = some r) {k : Bool} (hk : ks[i]? = some k) :
    ∃ x y a b, cs[i]? = some x ∧ ds[i]? = some y ∧ eqCl k x y = some a ∧ eqCls (ks.drop (i + 1)) (cs.drop (i + 1)) (ds.drop (i + 1)) = some b ∧ r = (a && b) := by
  have hlt := (List.getElem?_eq_some_iff.1 hk).1
  rw [List.drop_eq_getElem_cons hlt] at h
  rcases Nat.lt_or_ge i cs.length with h1 | h1
  · rcases Nat.lt_or_ge i ds.length with h2 | h2
    · rw [List.drop_eq_getElem_cons h1, List.drop_eq_getElem_cons h2] at h
      simp only [eqCls] at h
      split at h
      · rename_i a b ha hb
        cases h
        rw [List.getElem?_eq_getElem hlt] at hk
        cases hk
        exact ⟨_, _, a, b, List.getElem?_eq_getElem h1, List.getElem?_eq_getElem h2, ha, hb, rfl⟩
      · cases h
    · rw [List.drop_eq_nil_of_le h2, List.drop_eq_getElem_cons h1] at h
      simp [eqCls] at h
  · rw [List.drop_eq_nil_of_le h1] at h
    simp [eqCls] at h

/-- a struct whose fields are ints and bools -/
def flatS (P : Program) (fs : Array Field) (ks : List Bool) : Bool := fs.size == ks.length && fs.toList.zipIdx.all fun p => p.1.name != "_" && p.1.offset == p.2 && basicT P p.1.type == ks[p.2]?

theorem eqT_struct {t : Nat} {fs : Array Field} {ks : List Bool} (hu : P.underlying t = some (.struct fs)) (hst : P.stoodInHeld t = false) (hg : P.eqGuardType P.depth t = false) (hfl : flatS P fs ks = true) : EqT P t ks := by
  refine ⟨hg, fun xs ys cs ds r W G O w h3 h4 h5 => ?_⟩
  show (Op.equalIn (9999 + 1) t (.agg xs) (.agg ys)).run P w = _
  rw [Op.equalIn.eq_2]
  simp only [Sem.run_bind, run_underlying hu, Result.andThen_ok, run_program, hst]
  rw [if_neg (by decide)]
  unfold flatS at hfl
  rw [Bool.and_eq_true] at hfl
  obtain ⟨hsz, hall⟩ := hfl
  have hsz' : fs.size = ks.length := by simpa using hsz
  have key : ∀ (l : List Field) (i : Nat) (r : Bool), l = fs.toList.drop i → eqCls (ks.drop i) (cs.drop i) (ds.drop i) = some r →
      (forIn l ((none : Option Bool), ()) fun f __s =>
        (if f.name ≠ "_" then do
          let __do_lift ← part f.type xs f.offset
          let __do_lift_1 ← part f.type ys f.offset
          let __do_lift ← Op.equalIn 9999 f.type __do_lift __do_lift_1
          if (!__do_lift) = true then pure (ForInStep.done (some false, ()))
          else pure (ForInStep.yield (none, ()))
        else pure (ForInStep.yield (none, ())) : Sem (ForInStep (Option Bool × Unit)))).run P w = .ok (if r then none else some false, ()) w := by
    intro l
    induction l with
    | nil =>
      intro i r hl h
      have hge : ks.length ≤ i := by
        have := congrArg List.length hl
        simp at this; omega
      rw [List.drop_eq_nil_of_le hge] at h
      generalize cs.drop i = a at h
      generalize ds.drop i = b at h
      cases a <;> cases b <;> simp [eqCls] at h
      subst h
      simp
    | cons f l ih =>
      intro i r hl h
      have hfi : fs[i]? = some f := by
        have := congrArg (·[0]?) hl
        simpa using this.symm
      have hilt := (Array.getElem?_eq_some_iff.1 hfi).1
      have hp := List.all_eq_true.1 hall (f, i) (by
        rw [List.mk_mem_zipIdx_iff_getElem?]
        simpa using hfi)
      simp only [Bool.and_eq_true, bne_iff_ne, beq_iff_eq] at hp
      obtain ⟨⟨hn, ho⟩, hb⟩ := hp
      have hk : ks[i]? = some ks[i] := List.getElem?_eq_getElem (by omega)
      rw [hk] at hb
      obtain ⟨x, y, a, b, e1, e2, e3, e4, rfl⟩ := eqCls_cons h hk
      have hx1 : i < xs.size := by have := h3.1; have := (List.getElem?_eq_some_iff.1 e1).1; simp at *; omega
      have hy1 : i < ys.size := by have := h4.1; have := (List.getElem?_eq_some_iff.1 e2).1; simp at *; omega
      have hx : xs[i]? = some xs[i] := Array.getElem?_eq_getElem hx1
      have hy : ys[i]? = some ys[i] := Array.getElem?_eq_getElem hy1
      have heq : (Op.equalIn 9999 f.type xs[i] ys[i]).run P w = .ok a w := eq_basic hb (h3.2 i x xs[i] e1 (by rw [Array.getElem?_toList]; exact hx)) (h4.2 i y ys[i] e2 (by rw [Array.getElem?_toList]; exact hy)) e3 9998
      rw [List.forIn_cons, if_pos hn, ho]
      simp only [Sem.run_bind, basic_part hb hx, basic_part hb hy, Result.andThen_ok, heq]
      cases a with
      | true =>
        simp only [Bool.not_true, Bool.false_eq_true, if_false, Sem.run_pure, Result.andThen_ok, Bool.true_and]
        exact ih (i + 1) b (by
          have := congrArg List.tail hl
          simpa using this) e4
      | false => simp
  have hk := key fs.toList 0 r rfl (by simpa using h5)
  rw [← Array.forIn_toList, Sem.run_bind, hk]
  cases r <;> rfl

theorem eqT_array {t e m : Nat} {ei : TypeInfo} (hu : P.underlying t = some (.array m e)) (hi : P.info? e = some ei) (hsz1 : ei.size = 1) (hg : P.eqGuardType P.depth t = false) (hb : basicT P e = some false) : EqT P t (List.replicate m false) := by
  refine ⟨hg, fun xs ys cs ds r W G O w h3 h4 h5 => ?_⟩
  show (Op.equalIn (9999 + 1) t (.agg xs) (.agg ys)).run P w = _
  rw [Op.equalIn.eq_2]
  simp only [Sem.run_bind, run_underlying hu, Result.andThen_ok, sizeOf, typeInfo, run_program, hi, Sem.run_pure, hsz1, Nat.mul_one, Std.Legacy.Range.forIn_eq_forIn_range', Std.Legacy.Range.size, Nat.sub_zero, Nat.add_one_sub_one, Nat.div_one]
  have key : ∀ (k i : Nat) (r : Bool), i + k = m → eqCls ((List.replicate m false).drop i) (cs.drop i) (ds.drop i) = some r →
      (forIn (List.range' i k) ((none : Option Bool), ()) fun i __s =>
        (do
          let __do_lift ← part e xs i
          let __do_lift_1 ← part e ys i
          let __do_lift ← Op.equalIn 9999 e __do_lift __do_lift_1
          if (!__do_lift) = true then pure (ForInStep.done (some false, ()))
          else pure (ForInStep.yield (none, ())) : Sem (ForInStep (Option Bool × Unit)))).run P w = .ok (if r then none else some false, ()) w := by
    intro k
    induction k with
    | zero =>
      intro i r hl h
      rw [List.drop_eq_nil_of_le (by simp; omega)] at h
      generalize cs.drop i = a at h
      generalize ds.drop i = b at h
      cases a <;> cases b <;> simp [eqCls] at h
      subst h
      simp
    | succ k ih =>
      intro i r hl h
      have hk : (List.replicate m false)[i]? = some false := by
        rw [List.getElem?_replicate, if_pos (by omega)]
      obtain ⟨x, y, a, b, e1, e2, e3, e4, rfl⟩ := eqCls_cons h hk
      have hx1 : i < xs.size := by have := h3.1; have := (List.getElem?_eq_some_iff.1 e1).1; simp at *; omega
      have hy1 : i < ys.size := by have := h4.1; have := (List.getElem?_eq_some_iff.1 e2).1; simp at *; omega
      have hx : xs[i]? = some xs[i] := Array.getElem?_eq_getElem hx1
      have hy : ys[i]? = some ys[i] := Array.getElem?_eq_getElem hy1
      have heq : (Op.equalIn 9999 e xs[i] ys[i]).run P w = .ok a w := eq_basic hb (h3.2 i x xs[i] e1 (by rw [Array.getElem?_toList]; exact hx)) (h4.2 i y ys[i] e2 (by rw [Array.getElem?_toList]; exact hy)) e3 9998
      rw [List.range'_succ, List.forIn_cons]
      simp only [Sem.run_bind, basic_part hb hx, basic_part hb hy, Result.andThen_ok, heq]
      cases a with
      | true =>
        simp only [Bool.not_true, Bool.false_eq_true, if_false, Sem.run_pure, Result.andThen_ok, Bool.true_and]
        exact ih (i + 1) b (by omega) e4
      | false => simp
  have hk := key m 0 r (by omega) (by simpa using h5)
  rw [hk]
  cases r <;> rfl
end
end Go.Proofs.Ytohliamalaifhaa
end
