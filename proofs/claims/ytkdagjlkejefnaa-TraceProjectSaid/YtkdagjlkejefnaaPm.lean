/- Regions that draw their order, whole codes, functions. -/
import Derived.Test.YtkdagjlkejefnaaPl
set_option linter.unusedSimpArgs false
set_option linter.unusedVariables false
namespace Go.Proofs.Ytkdagjlkejefnaa
open Go Go.RowKit

/-- an operation that has been read: what it brought, what it looked at -/
structure En where
  i : PI
  v : Av
  ch : Cg
  rd : List Rg
def St.en (s : St) (e : En) : St := s.ap e.i.dst e.v e.ch
/-- the entries that L names, in the order of the text -/
def stF : List En → Nat → (Nat → Bool) → St → St
  | [], _, _, s => s
  | e :: r, k, L, s => stF r (k + 1) L (cond (L k) (s.en e) s)

/-- e does not touch what f looks at or writes -/
def IndE (e f : En) : Prop := indep1 e.i f.i e.ch.wrs f.rd f.ch.wrs = true ∧ indep1 f.i e.i f.ch.wrs e.rd e.ch.wrs = true

theorem rgApart_iff {a b : Rg} : rgApart a b = true ↔ a.1 ≠ b.1 ∨ (a.2.2 < big ∧ b.2.2 < big ∧ (a.2.1 + a.2.2 ≤ b.2.1 ∨ b.2.1 + b.2.2 ≤ a.2.1)) := by
  simp [rgApart, and_assoc]
theorem rgsApart_iff {xs ys : List Rg} : rgsApart xs ys = true ↔ ∀ x, x ∈ xs → ∀ y, y ∈ ys → x.1 ≠ y.1 ∨ (x.2.2 < big ∧ y.2.2 < big ∧ (x.2.1 + x.2.2 ≤ y.2.1 ∨ y.2.1 + y.2.2 ≤ x.2.1)) := by
  unfold rgsApart
  rw [List.all_eq_true]
  constructor
  · intro h x hx y hy
    exact rgApart_iff.1 (List.all_eq_true.1 (h x hx) y hy)
  · intro h x hx
    exact List.all_eq_true.2 fun y hy => rgApart_iff.2 (h x hx y hy)
theorem notIn_iff {d : Option Nat} {l : List Nat} : notIn d l = true ↔ ∀ x, d = some x → x ∉ l := by
  cases d with
  | none => simp [notIn]
  | some d => simp [notIn]

theorem up_comm {α : Type} (f : Nat → α) {a b : Nat} (h : a ≠ b) (x y : α) : up (up f a x) b y = up (up f b y) a x := by
  funext z
  simp only [up_at]
  (repeat' split) <;> first | rfl | (exfalso; omega)
def md {α : Type} (f : Nat → α) (a : Nat) (F : α → α) : Nat → α := up f a (F (f a))
theorem md_comm {α : Type} (f : Nat → α) {a b : Nat} (h : a ≠ b) (F G : α → α) : md (md f a F) b G = md (md f b G) a F := by
  have h1 : md f a F b = f b := by unfold md; rw [up_at, if_neg (Ne.symm h)]
  have h2 : md f b G a = f a := by unfold md; rw [up_at, if_neg h]
  show up (md f a F) b (G (md f a F b)) = up (md f b G) a (F (md f b G a))
  rw [h1, h2]
  exact up_comm f h _ _
theorem md_same {α : Type} (f : Nat → α) (a : Nat) (F G : α → α) : md (md f a F) a G = md f a (fun x => G (F x)) := by
  funext z
  unfold md
  simp only [up_at]
  by_cases h : z = a
  · simp [h]
  · simp [h]

def Cg.gF : Cg → (Nat → Nat) → Nat → Nat
  | .new o _, f => md f o (· + 1)
  | _, f => f
def wrF (off : Nat) (cs : List Cl) : Ob → Ob
  | .cells old => .cells (wrAt old off cs)
  | x => x
def rowF (n : Nat) : Ob → Ob
  | .row E sz _ => .row E sz n
  | x => x
def Cg.oF : Cg → (Nat → Ob) → Nat → Ob
  | .no, f => f
  | .new o x, f => md f o (fun _ => x)
  | .wr o off cs, f => md f o (wrF off cs)
  | .row o n, f => md f o (rowF n)
def dF (dst : Option Nat) (v : Av) (f : Nat → Av) : Nat → Av := match dst with
  | some d => up f d v
  | none => f
theorem ap_eq (s : St) (dst : Option Nat) (v : Av) (ch : Cg) : s.ap dst v ch = ⟨dF dst v s.sl, ch.gF s.gen, ch.oF s.ob⟩ := by
  cases ch <;> first
    | rfl
    | (simp only [St.ap, Cg.gF, Cg.oF, md, wrF, rowF]
       congr 2
       (split <;> simp_all))

theorem wrF_comm {a b : Nat} {xs ys : List Cl} (h : a + xs.length ≤ b ∨ b + ys.length ≤ a) (x : Ob) : wrF b ys (wrF a xs x) = wrF a xs (wrF b ys x) := by
  cases x <;> try rfl
  simp only [wrF]
  rw [wrAt_comm _ h]

theorem chs_comm {c d : Cg} (h : rgsApart c.wrs d.wrs = true) (G : Nat → Nat) (O : Nat → Ob) : d.gF (c.gF G) = c.gF (d.gF G) ∧ d.oF (c.oF O) = c.oF (d.oF O) := by
  have hw := rgsApart_iff.1 h
  cases c <;> cases d <;> simp only [Cg.wrs] at hw <;> (try exact ⟨rfl, rfl⟩)
  all_goals
    have hh := hw _ (List.mem_singleton.2 rfl) _ (List.mem_singleton.2 rfl)
    dsimp only at hh
    simp only [Cg.gF, Cg.oF]
  case wr.wr a x xs b y ys =>
    refine ⟨trivial, ?_⟩
    by_cases he : a = b
    · subst he
      have hd : x + xs.length ≤ y ∨ y + ys.length ≤ x := by
        rcases hh with hh | hh
        · exact absurd rfl hh
        · exact hh.2.2
      rw [md_same, md_same]
      congr 1
      funext z
      exact wrF_comm hd z
    · exact md_comm _ he _ _
  all_goals
    have hne := hh.resolve_right (fun h => by have := h.1; have := h.2.1; omega)
    first
      | exact ⟨md_comm _ hne _ _, md_comm _ hne _ _⟩
      | exact ⟨trivial, md_comm _ hne _ _⟩

theorem IndE.symm {e f : En} (h : IndE e f) : IndE f e := ⟨h.2, h.1⟩
/-- two entries that are apart may change places -/
theorem en_comm {s : St} {e f : En} (h : IndE e f) : (s.en e).en f = (s.en f).en e := by
  obtain ⟨h1, h2⟩ := h
  simp only [indep1, Bool.and_eq_true] at h1 h2
  obtain ⟨⟨⟨_, _⟩, hw⟩, hd⟩ := h1
  have hd' := notIn_iff.1 hd
  obtain ⟨hg, ho⟩ := chs_comm hw s.gen s.ob
  unfold St.en
  simp only [ap_eq]
  rw [hg, ho]
  congr 1
  cases hd1 : e.i.dst with
  | none => rfl
  | some a =>
    cases hd2 : f.i.dst with
    | none => rfl
    | some b =>
      have hne : a ≠ b := by
        have := hd' a hd1
        rw [hd2] at this
        simpa using this
      exact up_comm _ hne _ _

theorem rgEq.md {x y : Ob} {off n : Nat} (h : rgEq x y off n) : ∀ F : Ob → Ob, (F = (fun _ => F x) ∨ (∃ a cs, F = wrF a cs) ∨ ∃ k, F = rowF k) → rgEq (F x) (F y) off n := by
  intro F hF
  rcases hF with hF | ⟨a, cs, rfl⟩ | ⟨k, rfl⟩
  · have : F y = F x := by rw [hF]
    rw [this]; exact rgEq.refl _ _ _
  · cases x <;> cases y <;> simp only [rgEq] at h <;> first | (cases h; done) | skip
    · exact rgEq.refl _ _ _
    · refine ⟨by rw [wrAt_length, wrAt_length]; exact h.1, fun i h1 h2 => ?_⟩
      rw [wrAt_get, wrAt_get, h.1, h.2 i h1 h2]
    · rw [h]; exact rgEq.refl _ _ _
    · rw [h]; exact rgEq.refl _ _ _
  · cases x <;> cases y <;> simp only [rgEq] at h <;> first | (cases h; done) | skip
    · exact rgEq.refl _ _ _
    · exact ⟨h.1, h.2⟩
    · rw [h]; exact rgEq.refl _ _ _
    · rw [h]; exact rgEq.refl _ _ _

/-- the same entry in both -/
theorem Agree.both {looks : List Nat} {rd : List Rg} {s t : St} (h : Agree looks rd s t) (e : En) : Agree looks rd (s.en e) (t.en e) := by
  unfold St.en
  rw [ap_eq, ap_eq]
  refine ⟨fun x hx => ?_, fun r hr => ?_⟩
  · show dF _ _ s.sl x = dF _ _ t.sl x
    cases e.i.dst with
    | none => exact h.sl x hx
    | some d =>
      show up s.sl d e.v x = up t.sl d e.v x
      rw [up_at, up_at, h.sl x hx]
  · obtain ⟨h1, h2⟩ := h.ob r hr
    show e.ch.gF s.gen r.1 = e.ch.gF t.gen r.1 ∧ rgEq (e.ch.oF s.ob r.1) (e.ch.oF t.ob r.1) _ _
    cases e.ch with
    | no => exact ⟨h1, h2⟩
    | new o x =>
      simp only [Cg.gF, Cg.oF, Go.Proofs.Ytkdagjlkejefnaa.md, up_at]
      by_cases he : r.1 = o
      · rw [if_pos he, if_pos he, if_pos he, if_pos he]
        rw [he] at h1
        exact ⟨by rw [h1], rgEq.refl _ _ _⟩
      · rw [if_neg he, if_neg he, if_neg he, if_neg he]
        exact ⟨h1, h2⟩
    | wr o a cs =>
      simp only [Cg.gF, Cg.oF, Go.Proofs.Ytkdagjlkejefnaa.md, up_at]
      refine ⟨h1, ?_⟩
      by_cases he : r.1 = o
      · rw [if_pos he, if_pos he]
        rw [he] at h2
        exact rgEq.md h2 _ (.inr (.inl ⟨a, cs, rfl⟩))
      · rw [if_neg he, if_neg he]
        exact h2
    | row o k =>
      simp only [Cg.gF, Cg.oF, Go.Proofs.Ytkdagjlkejefnaa.md, up_at]
      refine ⟨h1, ?_⟩
      by_cases he : r.1 = o
      · rw [if_pos he, if_pos he]
        rw [he] at h2
        exact rgEq.md h2 _ (.inr (.inr ⟨k, rfl⟩))
      · rw [if_neg he, if_neg he]
        exact h2

theorem Agree.refl (looks : List Nat) (rd : List Rg) (s : St) : Agree looks rd s s := ⟨fun _ _ => rfl, fun _ _ => ⟨rfl, rgEq.refl _ _ _⟩⟩
theorem rgEq.symm {x y : Ob} {off n : Nat} (h : rgEq x y off n) : rgEq y x off n := by
  cases x <;> cases y <;> simp only [rgEq] at h ⊢ <;> first | (cases h; done) | exact h.symm | exact ⟨h.1.symm, fun i a b => (h.2 i a b).symm⟩ | skip
theorem rgEq.trans {x y z : Ob} {off n : Nat} (h : rgEq x y off n) (k : rgEq y z off n) : rgEq x z off n := by
  cases x <;> cases y <;> simp only [rgEq] at h <;> first | (cases h; done) | skip
  · exact k
  · cases z <;> simp only [rgEq] at k ⊢ <;> first | (cases k; done) | exact ⟨h.1.trans k.1, fun i a b => (h.2 i a b).trans (k.2 i a b)⟩
  · rw [h]; exact k
  · rw [h]; exact k
theorem Agree.symm {looks : List Nat} {rd : List Rg} {s t : St} (h : Agree looks rd s t) : Agree looks rd t s := ⟨fun x hx => (h.sl x hx).symm, fun r hr => ⟨(h.ob r hr).1.symm, (h.ob r hr).2.symm⟩⟩
theorem Agree.trans {looks : List Nat} {rd : List Rg} {s t u : St} (h : Agree looks rd s t) (k : Agree looks rd t u) : Agree looks rd s u :=
  ⟨fun x hx => (h.sl x hx).trans (k.sl x hx), fun r hr => ⟨(h.ob r hr).1.trans (k.ob r hr).1, (h.ob r hr).2.trans (k.ob r hr).2⟩⟩

/-- an entry that does not touch what is looked at -/
theorem Agree.skip {s : St} {e f : En} (h : IndE e f) : Agree f.i.looks f.rd s (s.en e) := by
  obtain ⟨h1, _⟩ := h
  simp only [indep1, Bool.and_eq_true] at h1
  obtain ⟨⟨⟨hl, hr⟩, _⟩, _⟩ := h1
  have hl' := notIn_iff.1 hl
  have hr' := rgsApart_iff.1 hr
  unfold St.en
  rw [ap_eq]
  refine ⟨fun x hx => ?_, fun r hrr => ?_⟩
  · show s.sl x = dF _ _ s.sl x
    cases hd : e.i.dst with
    | none => rfl
    | some d =>
      show _ = up s.sl d e.v x
      rw [up_at, if_neg]
      rintro rfl
      exact hl' x hd hx
  · show s.gen r.1 = e.ch.gF s.gen r.1 ∧ rgEq (s.ob r.1) (e.ch.oF s.ob r.1) _ _
    cases hc : e.ch with
    | no => exact ⟨rfl, rgEq.refl _ _ _⟩
    | new o x =>
      rw [hc] at hr'
      have hne := (hr' _ (List.mem_singleton.2 rfl) r hrr).resolve_right (fun h => by have := h.1; dsimp only at this; omega)
      dsimp only at hne
      simp only [Cg.gF, Cg.oF, Go.Proofs.Ytkdagjlkejefnaa.md, up_at, if_neg (Ne.symm hne)]
      exact ⟨trivial, rgEq.refl _ _ _⟩
    | row o k =>
      rw [hc] at hr'
      have hne := (hr' _ (List.mem_singleton.2 rfl) r hrr).resolve_right (fun h => by have := h.1; dsimp only at this; omega)
      dsimp only at hne
      simp only [Cg.gF, Cg.oF, Go.Proofs.Ytkdagjlkejefnaa.md, up_at, if_neg (Ne.symm hne)]
      exact ⟨trivial, rgEq.refl _ _ _⟩
    | wr o a cs =>
      rw [hc] at hr'
      have hh := hr' _ (List.mem_singleton.2 rfl) r hrr
      dsimp only at hh
      simp only [Cg.gF, Cg.oF, Go.Proofs.Ytkdagjlkejefnaa.md, up_at]
      refine ⟨trivial, ?_⟩
      by_cases he : r.1 = o
      · rw [if_pos he, he]
        have hd := (hh.resolve_left (by rw [he]; exact fun h => h rfl)).2.2
        cases s.ob o with
        | cells old =>
          refine ⟨(wrAt_length _ _ _).symm, fun i h1 h2 => ?_⟩
          rw [wrAt_get, if_neg]
          rintro ⟨h3, h4, h5⟩
          omega
        | no => exact rgEq.refl _ _ _
        | row _ _ _ => exact rgEq.refl _ _ _
        | ab _ => exact rgEq.refl _ _ _
      · rw [if_neg he]; exact rgEq.refl _ _ _

/-! ### every order -/
theorem stF_set : ∀ (es : List En) (k : Nat) (L : Nat → Bool) (j : Nat) (e : En) (s : St), k ≤ j → es[j - k]? = some e → L j = false →
    (∀ (i : Nat) f, j < i → es[i - k]? = some f → L i = true → IndE e f) → stF es k (fun i => if i = j then true else L i) s = (stF es k L s).en e
  | [], k, L, j, e, s, hk, he, _, _ => by simp at he
  | f :: r, k, L, j, e, s, hk, he, hL, hi => by
    by_cases hkj : k = j
    · subst hkj
      simp at he
      subst he
      -- behind it nothing is set anew; it moves to the end
      have mv : ∀ (r : List En) (k' : Nat) (s : St), k < k' → (∀ (i : Nat) g, k < i → r[i - k']? = some g → k' ≤ i → L i = true → IndE f g) → stF r k' (fun i => if i = k then true else L i) (s.en f) = (stF r k' L s).en f := by
        intro r
        induction r with
        | nil => intro k' s _ _; rfl
        | cons g r ih =>
          intro k' s hkk hg
          show stF r (k' + 1) _ (cond (if k' = k then true else L k') ((s.en f).en g) (s.en f)) = (stF r (k' + 1) L (cond (L k') (s.en g) s)).en f
          rw [if_neg (show ¬ k' = k by omega)]
          cases hL' : L k' with
          | true =>
            simp only [cond]
            rw [en_comm (hg k' g hkk (by simp) (Nat.le_refl _) hL')]
            exact ih (k' + 1) _ (by omega) (fun i g' h1 h2 h3 h4 => hg i g' h1 (by
              rw [show i - k' = (i - (k' + 1)) + 1 by omega, List.getElem?_cons_succ]; exact h2) (by omega) h4)
          | false =>
            simp only [cond]
            exact ih (k' + 1) _ (by omega) (fun i g' h1 h2 h3 h4 => hg i g' h1 (by
              rw [show i - k' = (i - (k' + 1)) + 1 by omega, List.getElem?_cons_succ]; exact h2) (by omega) h4)
      simp only [stF, if_true, hL, cond]
      exact mv r (k + 1) s (by omega) (fun i g h1 h2 h3 h4 => hi i g h1 (by
        rw [show i - k = (i - (k + 1)) + 1 by omega, List.getElem?_cons_succ]; exact h2) h4)
    · show stF r (k + 1) _ (cond (if k = j then true else L k) (s.en f) s) = (stF r (k + 1) L (cond (L k) (s.en f) s)).en e
      rw [if_neg hkj]
      exact stF_set r (k + 1) L j e _ (by omega) (by
        rw [show j - k = (j - (k + 1)) + 1 by omega, List.getElem?_cons_succ] at he; exact he) hL (fun i g h1 h2 h3 => hi i g h1 (by
        rw [show i - k = (i - (k + 1)) + 1 by omega, List.getElem?_cons_succ]; exact h2) h3)

theorem stF_agree {j : En} : ∀ (es : List En) (k : Nat) (L M : Nat → Bool) (s t : St), Agree j.i.looks j.rd s t →
    (∀ (i : Nat) e, k ≤ i → es[i - k]? = some e → L i = M i ∨ IndE e j) → Agree j.i.looks j.rd (stF es k L s) (stF es k M t)
  | [], _, _, _, _, _, h, _ => h
  | e :: r, k, L, M, s, t, h, hi => by
    simp only [stF]
    refine stF_agree r (k + 1) L M _ _ ?_ (fun i e' h1 h2 => hi i e' (by omega) (by
      rw [show i - k = (i - (k + 1)) + 1 by omega, List.getElem?_cons_succ]; exact h2))
    rcases hi k e (Nat.le_refl _) (by simp) with he | he
    · rw [he]
      cases M k
      · exact h
      · exact h.both e
    · cases L k <;> cases M k
      · exact h
      · exact h.trans (Agree.skip he)
      · exact (Agree.skip he).symm.trans h
      · exact h.both e

theorem stF_all : ∀ (es : List En) (k m : Nat) (s : St), stF es k (fun i => decide (i < m)) s = (es.take (m - k)).foldl St.en s
  | [], k, m, s => by simp [stF]
  | e :: r, k, m, s => by
    show stF r (k + 1) _ (cond (decide (k < m)) (s.en e) s) = _
    rw [stF_all r (k + 1) m]
    by_cases h : k < m
    · rw [decide_eq_true h, show m - k = (m - (k + 1)) + 1 by omega]
      rfl
    · rw [decide_eq_false h, show m - k = 0 by omega, show m - (k + 1) = 0 by omega]
      rfl
end Go.Proofs.Ytkdagjlkejefnaa
