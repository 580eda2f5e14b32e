/- Regions that draw their order, whole codes, functions. -/
import Derived.Test.YtkdagjlkejefnaaPm
set_option linter.unusedSimpArgs false
set_option linter.unusedVariables false
namespace Go.Proofs.Ytkdagjlkejefnaa
open Go Go.RowKit

theorem go_inv {env : Env} {i : PI} {s : St} {K : Av → Cg → Prop} (h : i.go env s K) : ∃ v ch, i.go env s (fun v' ch' => v' = v ∧ ch' = ch) ∧ K v ch := by
  have hop : ∀ K : Av → Cg → Prop, i.op.go env s (i.dst.getD 0) K → ∃ v ch, i.op.go env s (i.dst.getD 0) (fun v' ch' => v' = v ∧ ch' = ch) ∧ K v ch := fun K hg => by
    cases hc : i.op with
    | call f xs =>
      rw [hc] at hg
      obtain ⟨as, e1, rs, e2, e3⟩ := withSome_iff.1 hg
      exact ⟨_, _, withSome_iff.2 ⟨as, e1, rs, e2, rfl, rfl⟩, e3⟩
    | _ =>
      rw [hc, PO.go_fn rfl] at hg
      obtain ⟨⟨v, ch⟩, e1, e2⟩ := withSome_iff.1 hg
      exact ⟨v, ch, by rw [PO.go_fn rfl]; exact withSome_iff.2 ⟨(v, ch), e1, rfl, rfl⟩, e2⟩
  unfold PI.go at h ⊢
  cases hg : i.guard with
  | none => rw [hg] at h; exact hop K h
  | some p =>
    obtain ⟨t, want⟩ := p
    rw [hg] at h
    obtain ⟨b, e1, e2, e3⟩ := withSome_iff.1 h
    by_cases hb : b = want
    · obtain ⟨v, ch, e4, e5⟩ := hop K (e2 hb)
      exact ⟨v, ch, withSome_iff.2 ⟨b, e1, fun _ => e4, fun h => by rw [hb] at h; cases want <;> cases h⟩, e5⟩
    · exact ⟨.un, .no, withSome_iff.2 ⟨b, e1, fun h => absurd h hb, fun _ => ⟨rfl, rfl⟩⟩, e3 (by cases b <;> cases want <;> first | rfl | exact absurd rfl hb)⟩

theorem evalD_inv {env : Env} : ∀ (is : List PI) (s : St) (acc : List (List Rg × List Rg)) (K : St → List (List Rg × List Rg) → Prop), evalD env is s acc K →
    ∃ es : List En, es.map (·.i) = is ∧ (∀ (j : Nat) e, es[j]? = some e → e.i.go env ((es.take j).foldl St.en s) (fun v ch => v = e.v ∧ ch = e.ch) ∧ e.rd = e.i.rd ((es.take j).foldl St.en s)) ∧
      K (es.foldl St.en s) (acc.reverse ++ es.map fun e => (e.rd, e.ch.wrs))
  | [], s, acc, K, h => ⟨[], rfl, fun j e h => by simp at h, by simpa [evalD] using h⟩
  | i :: is, s, acc, K, h => by
    obtain ⟨v, ch, h1, h2⟩ := go_inv h
    obtain ⟨es, h3, h4, h5⟩ := evalD_inv is _ _ K h2
    refine ⟨⟨i, v, ch, i.rd s⟩ :: es, by simp [h3], fun j e he => ?_, ?_⟩
    · cases j with
      | zero => simp at he; subst he; exact ⟨h1, rfl⟩
      | succ j => exact h4 j e (by simpa using he)
    · have h6 := h5
      simp only [List.reverse_cons, List.append_assoc, List.singleton_append] at h6
      exact h6

/-! the order that the text lays down -/
def Closed (is : List PI) (L : Nat → Bool) : Prop := ∀ (k : Nat) i, is[k]? = some i → L k = true → ∀ e, e ∈ i.after → L e = true

theorem fold_bit (acc : List Nat) : ∀ (l : List Nat) (m x : Nat), (l.foldl (fun m e => m ||| (1 <<< e) ||| acc.getD e 0) m).testBit x = true → m.testBit x = true ∨ ∃ e, e ∈ l ∧ (x = e ∨ (acc.getD e 0).testBit x = true)
  | [], m, x, h => .inl h
  | e :: l, m, x, h => by
    rcases fold_bit acc l _ x h with h1 | ⟨e', h1, h2⟩
    · simp only [Nat.testBit_or, Bool.or_eq_true, Nat.one_shiftLeft, Nat.testBit_two_pow] at h1
      rcases h1 with (h1 | h1) | h1
      · exact .inl h1
      · exact .inr ⟨e, by simp, .inl (by simpa [eq_comm] using h1)⟩
      · exact .inr ⟨e, by simp, .inr h1⟩
    · exact .inr ⟨e', by simp [h1], h2⟩

theorem masks_ok (is : List PI) {L : Nat → Bool} (hL : Closed is L) : ∀ (r : List PI) (acc : List Nat), r = is.drop acc.length →
    (∀ (j : Nat) i x, is[j]? = some i → (acc.getD j 0).testBit x = true → (∀ e, e ∈ i.after → L e = true) → L x = true) →
    ∀ (j : Nat) i x, is[j]? = some i → ((masks acc r).getD j 0).testBit x = true → (∀ e, e ∈ i.after → L e = true) → L x = true
  | [], acc, _, h => h
  | p :: r, acc, hr, h => by
    simp only [masks]
    have hp : is[acc.length]? = some p := by
      have := congrArg (·[0]?) hr
      simpa using this.symm
    refine masks_ok is hL r _ (by
      have := congrArg List.tail hr
      simpa using this) (fun j i x hj hb ha => ?_)
    by_cases hlt : j < acc.length
    · refine h j i x hj ?_ ha
      rw [List.getD_eq_getElem?_getD, List.getElem?_append_left hlt] at hb
      rwa [List.getD_eq_getElem?_getD]
    · by_cases he : j = acc.length
      · subst he
        rw [hp] at hj
        cases hj
        rw [List.getD_eq_getElem?_getD, List.getElem?_append_right (Nat.le_refl _)] at hb
        simp only [Nat.sub_self, List.getElem?_cons_zero, Option.getD_some] at hb
        rcases fold_bit acc _ _ _ hb with h1 | ⟨e, h1, h2⟩
        · simp at h1
        · rcases h2 with rfl | h2
          · exact ha _ h1
          · cases hee : is[e]? with
            | none =>
              have : acc.getD e 0 = 0 := by
                rw [List.getD_eq_getElem?_getD]
                have h3 := List.getElem?_eq_none_iff.1 hee
                have h4 := (List.getElem?_eq_some_iff.1 hp).1
                rw [List.getElem?_eq_none (by omega)]
                rfl
              rw [this] at h2
              simp at h2
            | some i' => exact h e i' x hee h2 (hL e i' hee (ha e h1))
      · have hge : acc.length + 1 ≤ j := by omega
        rw [List.getD_eq_getElem?_getD, List.getElem?_eq_none (by simp; omega)] at hb
        simp at hb

/-- no edge points forward -/
def backOk (is : List PI) : Bool := is.zipIdx.all fun p => p.1.after.all fun e => decide (e < p.2)

theorem mem_after {P : Program} {n : Nat} {eqs : List (Nat × List Bool)} {ops : Array Oper} {o : Oper} {i : PI} (h : compI P n eqs ops o = some i) : i.after = o.after.toList.filterMap fun e => if Region.binds .any e = true then some e.on else none := by
  unfold compI at h
  split at h
  · split at h
    · split at h
      · cases h; rfl
      · split at h
        · cases h; rfl
        · cases h
    · cases h
  · cases h

section
variable {P : Program} {n : Nat} {w0 : World} {S0 : Nat → Nat}

theorem draw_sound {env : Env} (hE : EnvOK P env) {eqs : List (Nat × List Bool)} (heq : ∀ p, p ∈ eqs → EqT P p.1 p.2) (hm : P.follows .mixedOrders = true) {ops : Array Oper} {is : List PI} (hc : ops.toList.map (compI P n eqs ops) = is.map some) {Q : Exit → Act → World → Prop} {K : St → Prop}
    (hK : ∀ s W a w, K s → Sim w0 S0 n W s a w → Q .normal a w) {W : Wit} {s : St} {a : Act} {w : World} (hs : Sim w0 S0 n W s a w) (hback : backOk is = true) (hev : evalD env is s [] fun s' fts => drawOk is fts = true ∧ K s') (id : Nat) : (Code.region id ops true).wp P Q a w := by
  obtain ⟨es, hes, hgo, hdraw, hfin⟩ := evalD_inv is s [] _ hev
  simp only [List.reverse_nil, List.nil_append] at hdraw
  have hlen : es.length = is.length := by rw [← hes]; simp
  have hlen2 : ops.size = is.length := by
    have := congrArg List.length hc; simpa using this
  have hei : ∀ (j : Nat) e, es[j]? = some e → is[j]? = some e.i := fun j e h => by rw [← hes, List.getElem?_map, h]; rfl
  have hoi : ∀ (j : Nat) i, is[j]? = some i → ∃ o, ops[j]? = some o ∧ compI P n eqs ops o = some i := fun j i h => by
    have h1 := congrArg (·[j]?) hc
    simp only [List.getElem?_map, h, Option.map_some] at h1
    cases ho : ops[j]? with
    | none => rw [Array.getElem?_toList, ho] at h1; simp at h1
    | some o => rw [Array.getElem?_toList, ho] at h1; simp at h1; exact ⟨o, rfl, h1⟩
  -- what is not ordered is apart
  have hind : ∀ (i j : Nat) e f, i < j → es[i]? = some e → es[j]? = some f → ((masks [] is).getD j 0).testBit i = false → IndE e f := fun i j e f hij he hf hb => by
    unfold drawOk at hdraw
    have h1 := List.all_eq_true.1 hdraw j (List.mem_range.2 (by rw [← hlen]; exact (List.getElem?_eq_some_iff.1 hf).1))
    have h2 := List.all_eq_true.1 h1 i (List.mem_range.2 hij)
    rw [hb, Bool.false_or, hei i e he, hei j f hf, List.getElem?_map, List.getElem?_map, he, hf] at h2
    simp only [Option.map_some, Bool.and_eq_true] at h2
    exact h2
  refine wp_region_any hm ?_
  have main : ∀ (fuel : Nat) (listed : Array Bool) (R : List Nat) (W : Wit) (a : Act) (w : World), listed.size = ops.size → Closed is (fun k => listed.getD k false) → R.length = fuel → (∀ j, j < ops.size → listed.getD j false = false → j ∈ R) →
      Sim w0 S0 n W (stF es 0 (fun k => listed.getD k false) s) a w → wpAny P .any ops Q fuel listed a w := by
    intro fuel
    -- if nothing is left, all is done
    have done : ∀ (listed : Array Bool) (W : Wit) (a : Act) (w : World), (∀ j, j < ops.size → listed.getD j false = true) → Sim w0 S0 n W (stF es 0 (fun k => listed.getD k false) s) a w → Q .normal a w := fun listed W a w hall hsim => by
      refine hK _ W a w hfin ?_
      have h1 : stF es 0 (fun k => listed.getD k false) s = stF es 0 (fun k => decide (k < es.length)) s := by
        have : ∀ (r : List En) (k : Nat) (s : St), k + r.length ≤ es.length → stF r k (fun k => listed.getD k false) s = stF r k (fun k => decide (k < es.length)) s := by
          intro r
          induction r with
          | nil => intro k s _; rfl
          | cons e r ih =>
            intro k s hk
            simp only [List.length_cons] at hk
            show stF r (k + 1) _ (cond (listed.getD k false) (s.en e) s) = stF r (k + 1) _ (cond (decide (k < es.length)) (s.en e) s)
            rw [hall k (by omega), decide_eq_true (show k < es.length by omega)]
            exact ih (k + 1) _ (by omega)
        exact this es 0 s (by omega)
      rw [h1, stF_all] at hsim
      simpa using hsim
    have stuck : ∀ (listed : Array Bool), listed.size = ops.size → Region.ready .any ops listed = [] → ∀ j, j < ops.size → listed.getD j false = true := fun listed hsz hr => by
      intro j
      induction j using Nat.strongRecOn with
      | _ j ih =>
        intro hj
        cases hb : listed.getD j false with
        | true => rfl
        | false =>
          exfalso
          have : j ∈ Region.ready .any ops listed := by
            rw [mem_ready]
            obtain ⟨o, ho, hco⟩ := hoi j _ (List.getElem?_eq_getElem (by omega))
            refine ⟨by rw [Array.getD_eq_getD_getElem?] at hb ⊢; rw [Array.getElem?_eq_getElem (by omega)] at hb ⊢; simpa using hb, o, ho, fun e he hbind => ?_⟩
            have hmem : e.on ∈ is[j].after := by
              rw [mem_after hco]
              exact List.mem_filterMap.2 ⟨e, by simpa using he, by rw [if_pos hbind]⟩
            have hlt : e.on < j := by
              unfold backOk at hback
              have h1 := List.all_eq_true.1 hback (is[j], j) (by
                rw [List.mk_mem_zipIdx_iff_getElem?]
                exact List.getElem?_eq_getElem (by omega))
              simpa using List.all_eq_true.1 h1 _ hmem
            exact ih e.on hlt (by omega)
          rw [hr] at this
          cases this
    induction fuel with
    | zero =>
      intro listed R W a w hsz _ hR hall hsim
      have hR0 : R = [] := List.eq_nil_of_length_eq_zero hR
      subst hR0
      have hall' : ∀ j, j < ops.size → listed.getD j false = true := fun j hj => by
        cases hb : listed.getD j false with
        | true => rfl
        | false => exact absurd (hall j hj hb) (by simp)
      refine ⟨?_, done listed W a w hall' hsim⟩
      apply List.eq_nil_iff_forall_not_mem.2
      intro j hj
      obtain ⟨h1, o, ho, _⟩ := mem_ready.1 hj
      have hlt := (Array.getElem?_eq_some_iff.1 ho).1
      have h2 := hall' j hlt
      rw [Array.getD_eq_getD_getElem?, Array.getElem?_eq_getElem (by omega)] at h1 h2
      simp at h1 h2
      rw [h1] at h2
      cases h2
    | succ fuel ih =>
      intro listed R W a w hsz hcl hR hall hsim
      refine ⟨fun hr => done listed W a w (stuck listed hsz hr) hsim, fun j hj => ?_⟩
      obtain ⟨h1, o, ho, hpre⟩ := mem_ready.1 hj
      have hlt := (Array.getElem?_eq_some_iff.1 ho).1
      have hLj : listed.getD j false = false := by
        rw [Array.getD_eq_getD_getElem?, Array.getElem?_eq_getElem (by omega)] at h1 ⊢
        simpa using h1
      obtain ⟨e, he⟩ : ∃ e, es[j]? = some e := ⟨_, List.getElem?_eq_getElem (by omega)⟩
      have hij := hei j e he
      obtain ⟨o', ho', hco⟩ := hoi j _ hij
      rw [ho] at ho'
      cases ho'
      have hafter : ∀ x, x ∈ e.i.after → listed.getD x false = true := fun x hx => by
        rw [mem_after hco] at hx
        obtain ⟨ed, h2, h3⟩ := List.mem_filterMap.1 hx
        split at h3
        · rename_i hb
          cases h3
          exact hpre ed (by simpa using h2) hb
        · cases h3
      -- what the other entries do to this one
      have happart : ∀ (i : Nat) f, es[i]? = some f → i ≠ j → listed.getD i false ≠ decide (i < j) → IndE f e := fun i f hf hne hL => by
        rcases Nat.lt_or_ge i j with hij2 | hij2
        · rw [decide_eq_true hij2] at hL
          cases hb : ((masks [] is).getD j 0).testBit i with
          | false => exact hind i j f e hij2 hf he hb
          | true =>
            exfalso
            have := masks_ok is hcl is [] rfl (fun j i x _ h => by simp at h) j e.i i hij hb hafter
            exact hL this
        · have hgt : j < i := by omega
          rw [decide_eq_false (by omega)] at hL
          have hLi : listed.getD i false = true := by
            cases h : listed.getD i false with
            | true => rfl
            | false => exact absurd h hL
          cases hb : ((masks [] is).getD i 0).testBit j with
          | false => exact (hind j i e f hgt he hf hb).symm
          | true =>
            exfalso
            have := masks_ok is hcl is [] rfl (fun j i x _ h => by simp at h) i f.i j (hei i f hf) hb (hcl i f.i (hei i f hf) hLi)
            rw [hLj] at this
            cases this
      obtain ⟨hg, hrd⟩ := hgo j e he
      have hagree : Agree e.i.looks e.rd ((es.take j).foldl St.en s) (stF es 0 (fun k => listed.getD k false) s) := by
        have h2 := stF_all es 0 j s
        simp only [Nat.sub_zero] at h2
        rw [← h2]
        refine stF_agree es 0 _ _ s s (Agree.refl _ _ _) (fun i f _ hf => ?_)
        rw [Nat.sub_zero] at hf
        by_cases hij2 : i = j
        · subst hij2
          exact .inl (by rw [hLj]; simp)
        · by_cases hL : decide (i < j) = listed.getD i false
          · exact .inl hL
          · exact .inr (happart i f hf hij2 (fun h => hL h.symm))
      rw [hrd] at hagree
      refine pi_wpOp hE heq ho hco hsim (go_agree hagree hg) (fun v ch W' a' w' hv hsim' => ?_)
      obtain ⟨rfl, rfl⟩ := hv
      have hset := stF_set es 0 (fun k => listed.getD k false) j e s (Nat.zero_le _) (by rw [Nat.sub_zero]; exact he) hLj (fun i f hij2 hf hL => by
        rw [Nat.sub_zero] at hf
        exact (happart i f hf (by omega) (by rw [hL, decide_eq_false (by omega)]; decide)).symm)
      have hfl : (fun k => (listed.setIfInBounds j true).getD k false) = fun i => if i = j then true else listed.getD i false := by
        funext i
        rw [Array.getD_eq_getD_getElem?, Array.getElem?_setIfInBounds]
        by_cases hi : j = i
        · subst hi
          simp [hsz, hlt]
        · rw [if_neg hi, if_neg (Ne.symm hi), Array.getD_eq_getD_getElem?]
      refine ih (listed.setIfInBounds j true) (R.erase j) W' a' w' (by simpa using hsz) ?_ ?_ ?_ ?_
      · intro k i hk hL x hx
        rw [hfl] at hL ⊢
        dsimp only at hL ⊢
        split
        · rfl
        · split at hL
          · rename_i hkj
            subst hkj
            rw [hij] at hk
            cases hk
            exact hafter x hx
          · exact hcl k i hk hL x hx
      · rw [List.length_erase_of_mem (hall j hlt hLj), hR]
        rfl
      · intro i hi hL
        have hne : i ≠ j := by
          rintro rfl
          have := congrFun hfl i
          rw [this, if_pos rfl] at hL
          cases hL
        have := congrFun hfl i
        rw [this, if_neg hne] at hL
        exact (List.mem_erase_of_ne hne).2 (hall i hi hL)
      · rw [hfl, hset]
        exact hsim'
  have hfl0 : (fun k => (Array.replicate ops.size false).getD k false) = fun _ => false := by
    funext k
    rw [Array.getD_eq_getD_getElem?, Array.getElem?_replicate]
    split <;> rfl
  have hst0 : ∀ (r : List En) (k : Nat) (s : St), stF r k (fun _ => false) s = s := by
    intro r
    induction r with
    | nil => intro k s; rfl
    | cons e r ih => intro k s; exact ih (k + 1) s
  refine main ops.size _ (List.range ops.size) W a _ (by simp) ?_ (by simp) (fun j hj _ => List.mem_range.2 hj) ?_
  · intro k i _ hL
    rw [hfl0] at hL
    cases hL
  · rw [hfl0, hst0]
    exact hs.drew _
end
end Go.Proofs.Ytkdagjlkejefnaa
