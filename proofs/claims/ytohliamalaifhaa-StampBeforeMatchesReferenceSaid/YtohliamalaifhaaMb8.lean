/- The walks of New, follow, Check, Valid and Whole. -/
import Derived.Test.YtohliamalaifhaaMb7
import Derived.LoopTactic
import Derived.ProofKit
import Derived.Deep.Slices
import Derived.Deep.Fields
import Derived.ChangeSame
import Derived.OwnWalk
import Derived.Deep.OwnRows
import Derived.Deep.LoopGhost
section
set_option linter.unusedSimpArgs false
set_option linter.unusedVariables false
namespace Go.Proofs.Ytohliamalaifhaa
open Go.RowKit

/-- a new state in new blocks -/
def NewPost (w : World) (r : Ending) (w' : World) : Prop :=
  ∃ sb bc bm bd kv, r = .returned (.pointer (some ⟨sb, 0, none⟩)) ∧ TRep w' sb bc bm bd 0 TS.new kv ∧ (w.heap.size ≤ sb ∧ w.heap.size ≤ bc ∧ w.heap.size ≤ bm ∧ w.heap.size ≤ bd) ∧ Below w.heap.size w w'

theorem new_any (w : World) : Calls Try.prog 35 #[] w (NewPost w) := by
  have hmm := @run_makeMap Try.prog
  go_enter Try.func35, Try.ntmps35
  go_wp2
  go_ret
  refine ⟨w.heap.size + 1 + 1 + 1, w.heap.size, w.heap.size + 1, w.heap.size + 1 + 1, .slice none 0 0, rfl, ⟨?_, ⟨none, 0, rfl, Nat.le_refl _, fun h => absurd h (by decide)⟩, ?_, ?_, ?_, by omega, by omega, by omega⟩, ⟨by omega, by omega, by omega, by omega⟩, ?_⟩
  · have h1 := heap_alloc_new (((w.alloc (.map #[] 0)).alloc (.map #[] 0)).alloc (.map #[] 0)) (.cells (TCells TS.new w.heap.size (w.heap.size + 1) (w.heap.size + 1 + 1) (.slice none 0 0)) 83)
    simpa [TCells, TS.new, grp0] using h1
  · exact (((MapOf.made w Try.prog 3).alloc _).alloc _).alloc _
  · have h1 := ((MapOf.made (kv := locV) (w.alloc (.map #[] 0)) Try.prog 76).alloc (.map #[] 0)).alloc (.cells (TCells TS.new w.heap.size (w.heap.size + 1) (w.heap.size + 1 + 1) (.slice none 0 0)) 83)
    simp [TCells, TS.new, grp0] at h1; exact h1
  · have h1 := (MapOf.made (kv := locV) ((w.alloc (.map #[] 0)).alloc (.map #[] 0)) Try.prog 76).alloc (.cells (TCells TS.new w.heap.size (w.heap.size + 1) (w.heap.size + 1 + 1) (.slice none 0 0)) 83)
    simp [TCells, TS.new, grp0] at h1; exact h1
  · exact ((((Below.refl _ _).alloc (Nat.le_refl _) _).alloc (by simp) _).alloc (by simp; omega) _).alloc (by simp; omega) _

theorem But.belowOf {L : List Nat} {a b : World} (h : But L a b) {B : Nat} (hB : B ≤ a.heap.size) (hL : ∀ x ∈ L, B ≤ x) : Below B a b :=
  ⟨h.os, h.tape, h.output, h.size, fun k hk => h.block k (by omega) (fun hm => by have := hL k hm; omega)⟩

/-- the slice v reads as the events l -/
def EvAt (w : World) (v : Value) (l : List Ev) : Prop :=
  ∃ A c, v = .slice A l.length c ∧ l.length ≤ c ∧ c ≤ 9223372036854775807 ∧ (0 < l.length → ∃ b o, A = some ⟨b, o, none⟩ ∧ ∀ i e, l[i]? = some e → ∀ j x, e.cells[j]? = some x → w.cell? ⟨b, o + (i * 9 + j), none⟩ = some x)
theorem EvAt.keep {w w' : World} {v : Value} {l : List Ev} (h : EvAt w v l) (hb : Below w.heap.size w w') : EvAt w' v l := by
  obtain ⟨A, c, h1, h2, h3, h4⟩ := h
  refine ⟨A, c, h1, h2, h3, fun hn => ?_⟩
  obtain ⟨b, o, hA, hc⟩ := h4 hn
  refine ⟨b, o, hA, fun i e hi j x hx => ?_⟩
  have h5 := hc i e hi j x hx
  exact (hb.cell (block_lt_of_cell h5)).trans h5

/-- what follow hands back -/
def FollowPost (w : World) (l : List Ev) (r : Ending) (w' : World) : Prop :=
  ∃ sb bc bm bd N kv t, r = .returned (.tuple #[.pointer (some ⟨sb, 0, none⟩), .int .i64 (chk l), .int .i64 (wholeOf l)]) ∧ TS.new.steps (l.take (chk l)) = some t ∧ TRep w' sb bc bm bd N t kv ∧ Below w.heap.size w w'

set_option maxRecDepth 100000 in
set_option maxHeartbeats 4000000 in
theorem follow_any (w : World) (v : Value) (l : List Ev) (h : EvAt w v l) (hl : l.length ≤ 1000000) : Calls Try.prog 29 #[v] w (FollowPost w l) := by
  obtain ⟨A, c, rfl, hlc, hc63, hA⟩ := h
  have HA := Lib.hid hA; clear hA
  go_enter Try.func29, Try.ntmps29
  go_wp2_with ((go_at_call 35; refine (new_any _).mono ?_; rintro r w1 ⟨sb, bc, bm, bd, kv0, rfl, hT, ⟨z0, z1, z2, z3⟩, hb⟩))
  have HT := Lib.hid hT; clear hT
  have HB := Lib.hid hb; clear hb
  go_loopw [3, 4] (fun n wh wr => ∃ (k : Nat) (t : TS) (kv : Value), k ≤ l.length ∧ n = .int .i64 k ∧ wh = .int .i64 (TS.new.wholeTo l k) ∧ TS.new.steps (l.take k) = some t ∧ TRep wr sb bc bm bd (2 * k) t kv ∧ Below w.heap.size w wr)
    (fun n _ _ => l.length - (intOf n).toNat)
  case atStart => exact ⟨0, TS.new, kv0, Nat.zero_le _, rfl, rfl, rfl, HT.out, HB.out⟩
  case round =>
    obtain ⟨k, t, kv, hk, rfl, rfl, hst, hT, hb⟩ := hrel
    have hwl := TS.wholeTo_le TS.new l k
    have HST := Lib.hid hst; clear hst
    have HT1 := Lib.hid hT; clear hT
    have HB1 := Lib.hid hb; clear hb
    by_cases hlt : k < l.length
    · obtain ⟨b, o, rfl, hcell⟩ := HA.out (by omega)
      have hcl : ∀ j x, (l[k]).cells[j]? = some x → wr.cell? ⟨b, o + (k * 9 + j), none⟩ = some x := fun j x hx => by
        have h5 := hcell k l[k] (List.getElem?_eq_getElem hlt) j x hx
        exact (HB1.out.cell (block_lt_of_cell h5)).trans h5
      obtain ⟨e, he⟩ : ∃ e, l[k] = e := ⟨_, rfl⟩
      rw [he] at hcl
      obtain ⟨g, kind, obj, off, ek, en, fn, pc, stack⟩ := e
      have q0 : wr.cell? ⟨b, o + k * 9, none⟩ = some (.int .i64 g) := hcl 0 _ rfl
      have q1 : wr.cell? ⟨b, o + k * 9 + 1, none⟩ = some (.int .i64 kind) := hcl 1 _ rfl
      have q2 : wr.cell? ⟨b, o + k * 9 + 2, none⟩ = some (.int .i64 obj) := hcl 2 _ rfl
      have q3 : wr.cell? ⟨b, o + k * 9 + 3, none⟩ = some (.int .i64 off) := hcl 3 _ rfl
      have q4 : wr.cell? ⟨b, o + k * 9 + 4, none⟩ = some (.int .i64 ek) := hcl 4 _ rfl
      have q5 : wr.cell? ⟨b, o + k * 9 + 5, none⟩ = some (.int .i64 en) := hcl 5 _ rfl
      have q6 : wr.cell? ⟨b, o + k * 9 + 6, none⟩ = some (.int .i64 fn) := hcl 6 _ rfl
      have q7 : wr.cell? ⟨b, o + k * 9 + 7, none⟩ = some (.int .i64 pc) := hcl 7 _ rfl
      have q8 : wr.cell? ⟨b, o + k * 9 + 8, none⟩ = some (.int .i64 stack) := hcl 8 _ rfl
      clear hcl hcell
      have HE := Lib.hid he; clear he
      have hwf : t.wf := TS.steps_wf TS.wf_new HST.out
      have hsucc := TS.steps_take_succ (s := TS.new) hlt
      rw [HST.out, HE.out] at hsucc
      simp only [Option.bind_some] at hsucc
      have hadd := add_head wr HT1.out hwf (by unfold maxLen; omega) ⟨g, kind, obj, off, ek, en, fn, pc, stack⟩
      clear hwf
      cases ha : t.add ⟨g, kind, obj, off, ek, en, fn, pc, stack⟩ with
      | none =>
        rw [ha] at hadd hsucc
        have hchk : chk l = k := TS.chk_of hk HST.out (fun e' he' => by
          rw [List.getElem?_eq_getElem hlt] at he'
          have h6 := HE.out
          rw [Option.some.inj he'] at h6
          rw [h6]; exact ha)
        have HCK := Lib.hid hchk; clear hchk hsucc ha
        have HADD := Lib.hid hadd; clear hadd
        go_wp2_with fail
        refine HADD.out.mono ?_
        rintro r w2 ⟨rfl, ⟨kv', hT2⟩, hb2⟩
        have hfin : FollowPost w l (.returned (.tuple #[.pointer (some ⟨sb, 0, none⟩), .int .i64 k, .int .i64 (TS.new.wholeTo l k)])) w2 := by
          refine ⟨sb, bc, bm, bd, _, kv', t, ?_, ?_, hT2, HB1.out.trans (hb2.belowOf HB1.out.size ?_)⟩
          · unfold wholeOf; rw [HCK.out]
          · rw [HCK.out]; exact HST.out
          · simp only [List.mem_cons, List.not_mem_nil, or_false, forall_eq_or_imp, forall_eq]; exact ⟨z0, z1, z2, z3⟩
        have HF := Lib.hid hfin; clear hfin hT2 hb2
        go_wp2_with fail
        go_ret3
        exact HF.out
      | some u =>
        rw [ha] at hadd hsucc
        have HSU := Lib.hid hsucc; clear hsucc ha
        have HADD := Lib.hid hadd; clear hadd
        go_wp2_with fail
        refine HADD.out.mono ?_
        rintro r w2 ⟨rfl, ⟨kv', hT2⟩, hb2⟩
        simp only [Option.getD_some] at hT2
        have hfin : Below w.heap.size w w2 := HB1.out.trans (hb2.belowOf HB1.out.size (by simp only [List.mem_cons, List.not_mem_nil, or_false, forall_eq_or_imp, forall_eq]; exact ⟨z0, z1, z2, z3⟩))
        have HF := Lib.hid hfin; clear hfin hb2
        have hop := open_any w2 hT2
        have HT2 := Lib.hid hT2; clear hT2
        have hwt : TS.new.wholeTo l (k + 1) = if u.isOpen = true then TS.new.wholeTo l k else k + 1 := by
          simp only [TS.wholeTo]; rw [HSU.out]
        cases ho : u.isOpen with
        | true =>
          rw [ho] at hop hwt
          have HO := Lib.hid hop; clear hop
          have HW := Lib.hid hwt; clear hwt ho
          go_wp2_with ((go_at_call 37; refine HO.out.mono ?_; rintro r w3 ⟨rfl, rfl⟩))
          go_roundw
          case rel => exact ⟨k + 1, u, kv', by omega, by go_num, by rw [HW.out]; rfl, HSU.out, HT2.out, HF.out⟩
          case measure => simp [intOf]; omega
        | false =>
          rw [ho] at hop hwt
          have HO := Lib.hid hop; clear hop
          have HW := Lib.hid hwt; clear hwt ho
          go_wp2_with ((go_at_call 37; refine HO.out.mono ?_; rintro r w3 ⟨rfl, rfl⟩))
          go_roundw
          case rel => exact ⟨k + 1, u, kv', by omega, by go_num, by rw [HW.out]; go_num, HSU.out, HT2.out, HF.out⟩
          case measure => simp [intOf]; omega
    · have hkl : k = l.length := by omega
      have hchk : chk l = k := TS.chk_of hk HST.out (fun e' he' => by rw [List.getElem?_eq_none (by omega)] at he'; cases he')
      have hfin : FollowPost w l (.returned (.tuple #[.pointer (some ⟨sb, 0, none⟩), .int .i64 k, .int .i64 (TS.new.wholeTo l k)])) wr := by
        refine ⟨sb, bc, bm, bd, _, kv, t, ?_, ?_, HT1.out, HB1.out⟩
        · unfold wholeOf; rw [hchk]
        · rw [hchk]; exact HST.out
      have HF := Lib.hid hfin; clear hfin hchk hkl
      go_wp2_with fail
      go_ret3
      exact HF.out

/-- what Check hands back -/
def CheckPost (w : World) (l : List Ev) (r : Ending) (w' : World) : Prop :=
  r = .returned (.tuple #[.int .i64 (chk l), .bool (decide (chk l = l.length))]) ∧ Below w.heap.size w w'

theorem check_any (w : World) (v : Value) (l : List Ev) (h : EvAt w v l) (hl : l.length ≤ 1000000) : Calls Try.prog 21 #[v] w (CheckPost w l) := by
  have hf := follow_any w v l h hl
  obtain ⟨A, c, rfl, hlc, hc63, hA⟩ := h
  have HF := Lib.hid hf; clear hf hA
  go_enter Try.func21, Try.ntmps21
  go_wp2_with ((go_at_call 29; refine HF.out.mono ?_; rintro r w1 ⟨sb, bc, bm, bd, N, kv, t, rfl, hst, hT, hb⟩))
  go_ret2
  refine ⟨?_, hb⟩
  have h1 : ((chk l : Int) == (l.length : Int)) = decide (chk l = l.length) := by
    rw [Bool.eq_iff_iff]; simp; omega
  simp [h1]

theorem valid_any (w : World) (v : Value) (l : List Ev) (h : EvAt w v l) (hl : l.length ≤ 1000000) : Calls Try.prog 17 #[v] w fun r w' => r = .returned (.bool (decide (chk l = l.length))) ∧ Below w.heap.size w w' := by
  have hf := check_any w v l h hl
  obtain ⟨A, c, rfl, hlc, hc63, hA⟩ := h
  have HF := Lib.hid hf; clear hf hA
  go_enter Try.func17, Try.ntmps17
  go_wp2_with ((go_at_call 21; refine HF.out.mono ?_; rintro r w1 ⟨rfl, hb⟩))
  go_ret
  exact ⟨rfl, hb⟩

end Go.Proofs.Ytohliamalaifhaa
end
section
set_option linter.unusedSimpArgs false
set_option linter.unusedVariables false
namespace Go.Proofs.Ytohliamalaifhaa
open Go.RowKit Go.WideShapes Go.ChangeShapes Go.Deep

section
variable {H : Type} {enc : TypeId × Value → H} {P : Program} {w : World} {base : Nat} {spare : Nat → Bool} {held : Bool}
theorem open_slice_fields {t e : TypeId} {fs : Array Field} {fuel : Nat} {cs : List Value} {x : DataW H × List MemPlace} (ht : P.underlying t = some (.slice e)) (he : P.underlying e = some (.struct fs))
    (hone : oneCellFields P fs = true) (hC : P.cellsOf e = fs.size) (h : DataW.trod enc P w base spare held fuel t cs = some x) :
    (cs = [.slice none 0 0] ∧ x = (.nil, [])) ∨
    ∃ (a : Addr) (len cap m : Nat) (D : Nat → DataW H) (Pl : Nat → List MemPlace), cs = [.slice (some a) len cap] ∧ base ≤ a.block ∧ len ≤ cap ∧ cap ≤ maxLen ∧ m = (if spare a.block then cap else len) ∧
      x = (.slice ((List.range len).map D) ((List.range (m - len)).map fun j => D (len + j)), MemPlace.row a (m * fs.size) ++ (List.range m).flatMap Pl) ∧
      ∀ i, i < m → ∃ (ys : List (DataW H × List MemPlace)) (n : Nat), D i = .agg (ys.map (·.1)) ∧ Pl i = ys.flatMap (·.2) ∧ ys.length = fs.size ∧
        ∀ (j : Nat) (f : Field), fs[j]? = some f → ∃ (v : Value) (y : DataW H × List MemPlace), w.cell? (a.add (i * fs.size + j)) = some v ∧ ys[j]? = some y ∧ DataW.trod enc P w base spare held n f.type [v] = some y := by
  rcases open_slice ht h with h0 | ⟨a, len, cap, m, n, D, Pl, hcs, hb, hl, hm, hmm, hx, hi⟩
  · exact .inl h0
  · refine .inr ⟨a, len, cap, m, D, Pl, hcs, hb, hl, hm, hmm, by rw [hC] at hx; exact hx, fun i him => ?_⟩
    obtain ⟨cs', hc, ht'⟩ := hi i him
    rw [hC] at hc
    obtain ⟨ys, n', hn', hy, hlen, hyl, hf⟩ := DataW.trod_struct he ht'
    obtain ⟨_, hcl, hat⟩ := World.cells?_some hc
    simp only [Prod.mk.injEq] at hy
    refine ⟨ys, n', hy.1, hy.2, hyl, fun j f hj => ?_⟩
    obtain ⟨ho, hk⟩ := hone_of hone j f hj
    have hjl : j < fs.size := (Array.getElem?_eq_some_iff.1 hj).1
    have hcell := hat j hjl
    have hv : cs'[j]? = some (cs'[j]'(by omega)) := List.getElem?_eq_getElem (by omega)
    have h1 := hf j f hj
    rw [ho, hk] at h1
    have hone' : (cs'.drop j).take 1 = [cs'[j]'(by omega)] := by
      rw [List.drop_eq_getElem_cons (by omega)]
      rfl
    rw [hone'] at h1
    have hys : ys[j]? = some (ys[j]'(by omega)) := List.getElem?_eq_getElem (by omega)
    refine ⟨_, _, ?_, hys, h1.trans hys⟩
    rw [← Go.Deep.add_add, hcell, hv]
end

theorem Try.laidOut : laidOutB Try.prog = true := by kernel_rfl
theorem Try.own : ownKnob Try.prog.godebug = none := by kernel_rfl

theorem trod_int_field {H : Type} {enc : TypeId × Value → H} {P : Program} {w : World} {base n : Nat} {spare : Nat → Bool} {held : Bool} {t : TypeId} (ht : P.underlying t = some (.int .i64)) {v : Value} {y : DataW H × List MemPlace} (h : DataW.trod enc P w base spare held n t [v] = some y) : ∃ x, v = .int .i64 x ∧ (Lit.int .i64 x).wf = true := by
  obtain ⟨x, hx, _, hw⟩ := DataW.trod_int ht h
  simp at hx
  exact ⟨x, hx, hw⟩

theorem i64_of_wf {x : Int} (h : (Lit.int .i64 x).wf = true) : -9223372036854775808 ≤ x ∧ x ≤ 9223372036854775807 := by
  simp [Lit.wf, IntKind.min, IntKind.max, IntKind.signed, IntKind.bits] at h
  omega

set_option maxRecDepth 100000 in
set_option maxHeartbeats 1000000 in
theorem open_events {H : Type} {enc : TypeId × Value → H} {w : World} {r : Reach} {b0 : Nat} {v : Value} {d : DataW H} {ps : List MemPlace}
    (hv : Value.okWide Try.prog w r b0 22 v) (h : DataW.Trod enc Try.prog w 0 (fun _ => true) true 22 v d ps) : ∃ l : List Ev, EvAt w v l ∧ ∀ e ∈ l, ∀ x ∈ e.cells, ∃ n : Int, x = .int .i64 n ∧ (-9223372036854775808 ≤ n ∧ n ≤ 9223372036854775807) := by
  obtain ⟨a, len, cap, rfl⟩ := okWide_slice Try.underlying22 hv
  obtain ⟨fuel, hf⟩ := h
  rcases open_slice_fields Try.underlying22 Try.underlying33 (by kernel_rfl) (by kernel_rfl) hf with ⟨hcs, _⟩ | ⟨A, n, c, m, D, Pl, hcs, _, hnc, hcm, hm, _, hi⟩
  · simp [Value.cells] at hcs
    obtain ⟨rfl, rfl, rfl⟩ := hcs
    exact ⟨[], ⟨none, 0, rfl, Nat.le_refl _, by omega, fun hh => absurd hh (by decide)⟩, fun e he => by cases he⟩
  · simp [Value.cells] at hcs
    obtain ⟨rfl, rfl, rfl⟩ := hcs
    have hev : ∀ i, ∃ e : Ev, i < cap → (∀ j x, e.cells[j]? = some x → w.cell? (A.add (i * 9 + j)) = some x) ∧ ∀ x ∈ e.cells, ∃ n : Int, x = .int .i64 n ∧ (-9223372036854775808 ≤ n ∧ n ≤ 9223372036854775807) := by
      intro i
      by_cases him : i < cap
      case neg => exact ⟨⟨0, 0, 0, 0, 0, 0, 0, 0, 0⟩, fun hh => absurd hh him⟩
      obtain ⟨ys, n', _, _, _, hf'⟩ := hi i (by simpa [hm] using him)
      obtain ⟨c0, y0, r0, _, t0⟩ := hf' 0 _ rfl
      obtain ⟨x0, rfl, b0⟩ := trod_int_field Try.underlying3 t0
      obtain ⟨c1, y1, r1, _, t1⟩ := hf' 1 _ rfl
      obtain ⟨x1, rfl, b1⟩ := trod_int_field Try.underlying3 t1
      obtain ⟨c2, y2, r2, _, t2⟩ := hf' 2 _ rfl
      obtain ⟨x2, rfl, b2⟩ := trod_int_field Try.underlying3 t2
      obtain ⟨c3, y3, r3, _, t3⟩ := hf' 3 _ rfl
      obtain ⟨x3, rfl, b3⟩ := trod_int_field Try.underlying3 t3
      obtain ⟨c4, y4, r4, _, t4⟩ := hf' 4 _ rfl
      obtain ⟨x4, rfl, b4⟩ := trod_int_field Try.underlying3 t4
      obtain ⟨c5, y5, r5, _, t5⟩ := hf' 5 _ rfl
      obtain ⟨x5, rfl, b5⟩ := trod_int_field Try.underlying3 t5
      obtain ⟨c6, y6, r6, _, t6⟩ := hf' 6 _ rfl
      obtain ⟨x6, rfl, b6⟩ := trod_int_field Try.underlying3 t6
      obtain ⟨c7, y7, r7, _, t7⟩ := hf' 7 _ rfl
      obtain ⟨x7, rfl, b7⟩ := trod_int_field Try.underlying3 t7
      obtain ⟨c8, y8, r8, _, t8⟩ := hf' 8 _ rfl
      obtain ⟨x8, rfl, b8⟩ := trod_int_field Try.underlying3 t8
      refine ⟨⟨x0, x1, x2, x3, x4, x5, x6, x7, x8⟩, fun _ => ⟨fun j x hx => ?_, fun x hx => ?_⟩⟩
      · match j, hx with
        | 0, hx => cases hx; exact r0
        | 1, hx => cases hx; exact r1
        | 2, hx => cases hx; exact r2
        | 3, hx => cases hx; exact r3
        | 4, hx => cases hx; exact r4
        | 5, hx => cases hx; exact r5
        | 6, hx => cases hx; exact r6
        | 7, hx => cases hx; exact r7
        | 8, hx => cases hx; exact r8
        | j + 9, hx => simp [Ev.cells] at hx
      · simp only [Ev.cells, List.mem_cons, List.not_mem_nil, or_false] at hx
        rcases hx with rfl | rfl | rfl | rfl | rfl | rfl | rfl | rfl | rfl
        · exact ⟨x0, rfl, i64_of_wf b0⟩
        · exact ⟨x1, rfl, i64_of_wf b1⟩
        · exact ⟨x2, rfl, i64_of_wf b2⟩
        · exact ⟨x3, rfl, i64_of_wf b3⟩
        · exact ⟨x4, rfl, i64_of_wf b4⟩
        · exact ⟨x5, rfl, i64_of_wf b5⟩
        · exact ⟨x6, rfl, i64_of_wf b6⟩
        · exact ⟨x7, rfl, i64_of_wf b7⟩
        · exact ⟨x8, rfl, i64_of_wf b8⟩
    obtain ⟨f, hf2⟩ := Classical.skolem.1 hev
    refine ⟨(List.range len).map f, ⟨some A, cap, by simp, by simp; omega, by unfold maxLen at hcm; omega, fun hn => ?_⟩, fun e he x hx => ?_⟩
    · have hn' : 0 < len := by simpa using hn
      have h00 := (hf2 0 (by omega)).1 0 _ rfl
      have hsp := World.cell?_spot h00
      obtain ⟨b, o, sp⟩ := A
      simp [Addr.add] at hsp
      subst hsp
      refine ⟨b, o, rfl, fun i e hi' j x hx => ?_⟩
      simp only [List.getElem?_map] at hi'
      have hin : i < len := by
        rcases Nat.lt_or_ge i len with h1 | h1
        · exact h1
        · rw [List.getElem?_eq_none (by simpa using h1)] at hi'; cases hi'
      rw [List.getElem?_range hin] at hi'
      simp at hi'; subst hi'
      have := (hf2 i (by omega)).1 j x hx
      unfold Addr.add at this
      split at this
      · rename_i h0; rw [h0]; exact this
      · exact this
    · obtain ⟨i, hi1, rfl⟩ := List.mem_map.1 he
      exact (hf2 i (by have := List.mem_range.1 hi1; omega)).2 x hx
end Go.Proofs.Ytohliamalaifhaa
end
section
set_option linter.unusedSimpArgs false
set_option linter.unusedVariables false
namespace Go.Proofs.Ytohliamalaifhaa
open Go Go.RowKit

theorem Ev.row_cell {e : Ev} {j : Nat} {x : Value} (h : e.cells[j]? = some x) : e.row[j]? = some (.sc x) := by
  show (e.cells.map Dt.sc)[j]? = _
  rw [List.getElem?_map, h]; rfl
/-- events as data are events in the world -/
theorem RD.evs {S : Nat → Nat} {w : World} {l : List Ev} {v : Value} (h : RD S w (evsD l) v) : EvAt w v l := by
  unfold evsD at h
  generalize hr : l.map Ev.row = rows at h
  cases h with
  | emp A c hc =>
    cases l with
    | nil => exact ⟨A, c, rfl, Nat.zero_le _, by unfold maxLen at hc; omega, fun h => absurd h (by decide)⟩
    | cons e l => simp at hr
  | im rows sz b o cap f hc hm hsz hcell hd =>
    have hlen : l.length = rows.length := by rw [← hr]; simp
    refine ⟨_, cap, by rw [hlen], by omega, by unfold maxLen at hm; omega, fun hpos => ⟨b, o, rfl, fun i e hi j x hx => ?_⟩⟩
    have hil := (List.getElem?_eq_some_iff.1 hi).1
    have hrow : rows[i]? = some e.row := by rw [← hr, List.getElem?_map, hi]; rfl
    have h9 : 9 = sz := hsz _ (List.mem_of_getElem? hrow)
    have hj : j < 9 := (List.getElem?_eq_some_iff.1 hx).1
    have h1 := hd i _ j _ hrow (Ev.row_cell hx)
    have h2 := (hcell i j (by omega) (by omega)).1
    rw [(RD.sc_inv h1).1, ← h9] at h2
    exact h2
theorem flat_at' {α : Type} {cells : α → List Value} {sz : Nat} (hlen : ∀ e, (cells e).length = sz) (l : List α) (i : Nat) (e : α) (h : l[i]? = some e) (j : Nat) (x : Value) (hx : (cells e)[j]? = some x) : (l.flatMap cells)[i * sz + j]? = some x := by
  have hj : j < sz := by rw [← hlen e]; exact (List.getElem?_eq_some_iff.1 hx).1
  induction l generalizing i with
  | nil => cases h
  | cons a l ih =>
    rw [List.flatMap_cons]
    cases i with
    | zero =>
      simp at h; subst h
      rw [List.getElem?_append_left (by rw [hlen]; omega)]
      simpa using hx
    | succ i =>
      rw [List.getElem?_append_right (by rw [hlen, Nat.succ_mul]; omega), hlen, show (i + 1) * sz + j - sz = i * sz + j by rw [Nat.succ_mul]; omega]
      exact ih i (by simpa using h)
/-- a row of one's own reads as data -/
theorem rows_own {w : World} {B sz : Nat} {E : TypeId} {v : Value} {α : Type} (l : List α) (cells : α → List Value) (hsz : ∀ x, (cells x).length = sz) (hone : ∀ x u, u ∈ cells x → u.oneCell' = true) (h : w.ownsRow B E sz v l.length (l.flatMap cells)) (S : Nat → Nat) :
    ∃ S', RD S' w (.im (l.map fun x => (cells x).map Dt.sc)) v ∧ ∀ b, b < B → S' b = S b := by
  obtain ⟨h1, h2⟩ := h
  rcases h2 with ⟨rfl, h3⟩ | ⟨g, cap, cur, rfl, h3, h4, h5, h6, h7, h8⟩
  · have : l = [] := by cases l with
      | nil => rfl
      | cons a l => simp at h3
    subst this
    exact ⟨S, .emp _ _ (by unfold maxLen; omega), fun _ _ => rfl⟩
  · have key : ∀ i e, l[i]? = some e → ∀ j x, (cells e)[j]? = some x → w.cell? ⟨g, 0 + (i * sz + j), none⟩ = some x := fun i e hi j x hx => by
      rw [cell_of_row w g _ _ _ _ h4, Nat.zero_add]
      have hfl := flat_at' hsz l i e hi j x hx
      rw [← h8, List.getElem?_take] at hfl
      split at hfl
      · simpa using hfl
      · cases hfl
    refine ⟨fun b => if b = g then l.length * sz else S b, ?_, fun b hb => if_neg (by omega)⟩
    have hl : l.length = (l.map fun x => (cells x).map Dt.sc).length := by simp
    have hsl : Value.slice (some ⟨g, 0, none⟩) l.length cap = .slice (some ⟨g, 0, none⟩) (l.map fun x => (cells x).map Dt.sc).length cap := by rw [← hl]
    rw [hsl]
    refine RD.im _ sz g 0 cap (fun i j => (l.flatMap cells).getD (i * sz + j) undef) (by rw [← hl]; exact h5) h6 ?_ ?_ ?_
    · intro r hr
      obtain ⟨x, _, rfl⟩ := List.mem_map.1 hr
      simp [hsz]
    · intro i j hi hj
      rw [← hl] at hi
      have hil : l[i]? = some l[i] := List.getElem?_eq_getElem hi
      have hjl : (cells l[i])[j]? = some ((cells l[i])[j]'(by rw [hsz]; exact hj)) := List.getElem?_eq_getElem _
      have hfl := flat_at' hsz l i _ hil j _ hjl
      refine ⟨?_, ?_⟩
      · rw [key i _ hil j _ hjl]
        simp [List.getD, hfl]
      · simp only [if_true]
        have : (i + 1) * sz ≤ l.length * sz := Nat.mul_le_mul_right _ hi
        rw [Nat.succ_mul] at this
        omega
    · intro i r j x hr hx
      rw [List.getElem?_map, Option.map_eq_some_iff] at hr
      obtain ⟨e, he, rfl⟩ := hr
      rw [List.getElem?_map, Option.map_eq_some_iff] at hx
      obtain ⟨u, hu, rfl⟩ := hx
      have hfl := flat_at' hsz l i e he j u hu
      simp only [List.getD, hfl, Option.getD_some]
      exact .sc u (hone e u (List.mem_of_getElem? hu))

/-- events of an argument as data -/
theorem EvAt.rd {w : World} {v : Value} {l : List Ev} (h : EvAt w v l) {S : Nat → Nat} (hS : ∀ b i, (w.cell? ⟨b, i, none⟩).isSome = true → i < S b) : RD S w (evsD l) v := by
  obtain ⟨A, c, rfl, h2, h3, h4⟩ := h
  by_cases hl : 0 < l.length
  · obtain ⟨b, o, rfl, hc⟩ := h4 hl
    unfold evsD
    rw [show l.length = (l.map Ev.row).length by simp]
    have hcl : ∀ i j, i < l.length → j < 9 → ∃ e x, l[i]? = some e ∧ e.cells[j]? = some x ∧ (l.flatMap Ev.cells).getD (i * 9 + j) undef = x ∧ w.cell? ⟨b, o + (i * 9 + j), none⟩ = some x := fun i j hi hj => by
      have hil : l[i]? = some l[i] := List.getElem?_eq_getElem hi
      have hjl : l[i].cells[j]? = some (l[i].cells[j]'hj) := List.getElem?_eq_getElem _
      exact ⟨_, _, hil, hjl, by simp [List.getD, flat_at l i _ hil j _ hjl], hc i _ hil j _ hjl⟩
    refine RD.im _ 9 b o c (fun i j => (l.flatMap Ev.cells).getD (i * 9 + j) undef) (by simpa using h2) (by unfold maxLen; omega) ?_ ?_ ?_
    · intro r hr
      obtain ⟨x, _, rfl⟩ := List.mem_map.1 hr
      rfl
    · intro i j hi hj
      obtain ⟨e, x, _, _, h5, h6⟩ := hcl i j (by simpa using hi) hj
      rw [h5]
      exact ⟨h6, hS b _ (by rw [h6]; rfl)⟩
    · intro i r j x hr hx
      rw [List.getElem?_map, Option.map_eq_some_iff] at hr
      obtain ⟨e, he, rfl⟩ := hr
      have hj : j < 9 := (List.getElem?_eq_some_iff.1 hx).1
      obtain ⟨e', u, h7, h8, h5, h6⟩ := hcl i j (List.getElem?_eq_some_iff.1 he).1 hj
      rw [he] at h7; cases h7
      rw [h5]
      have := Ev.row_cell h8
      rw [hx] at this; cases this
      refine .sc u ?_
      have := List.mem_of_getElem? h8
      simp only [Ev.cells, List.mem_cons, List.not_mem_nil, or_false] at this
      rcases this with rfl | rfl | rfl | rfl | rfl | rfl | rfl | rfl | rfl <;> rfl
  · have : l = [] := by cases l with
      | nil => rfl
      | cons a l => simp at hl
    subst this
    exact .emp _ _ (by unfold maxLen; omega)

/-- as many cells of a block as there are -/
def World.cellsOf (w : World) (b : Nat) : Nat := match w.heap[b]? with
  | some (.cells arr _ _) => arr.size
  | _ => 0
theorem cellsOf_lt {w : World} (b i : Nat) (h : (w.cell? ⟨b, i, none⟩).isSome = true) : i < World.cellsOf w b := by
  unfold World.cellsOf
  unfold World.cell? at h
  cases hb : w.heap[b]? with
  | none => simp [hb] at h
  | some x =>
    cases x with
    | cells arr T fr => simp only [hb] at h; simpa using h
    | _ => simp [hb] at h

def intsD (l : List Int) : Dt := .im (l.map fun x => [dI x])
theorem RPs.nth {S : Nat → Nat} {w : World} {ps : List Pa} {vs : Array Value} (h : RPs S w ps vs) {i : Nat} {p : Pa} (hp : ps[i]? = some p) : ∃ u, vs[i]? = some u ∧ RP S w p u := by
  have hi : i < vs.size := by rw [← h.1]; exact (List.getElem?_eq_some_iff.1 hp).1
  exact ⟨vs[i], Array.getElem?_eq_getElem hi, h.2 i p _ hp (Array.getElem?_eq_getElem hi)⟩
theorem RPs.one {S : Nat → Nat} {w : World} {p : Pa} {vs : Array Value} (h : RPs S w [p] vs) : ∃ u, vs = #[u] ∧ RP S w p u := by
  obtain ⟨u, h1, h2⟩ := h.nth (i := 0) rfl
  refine ⟨u, ?_, h2⟩
  have h3 := h.1
  apply Array.ext_getElem?
  intro j
  match j with
  | 0 => simpa using h1
  | j + 1 => rw [Array.getElem?_eq_none (by simp at h3; omega), Array.getElem?_eq_none (by simp)]
theorem RPs.two {S : Nat → Nat} {w : World} {p q : Pa} {vs : Array Value} (h : RPs S w [p, q] vs) : ∃ u v, vs = #[u, v] ∧ RP S w p u ∧ RP S w q v := by
  obtain ⟨u, h1, h2⟩ := h.nth (i := 0) rfl
  obtain ⟨v, h3, h4⟩ := h.nth (i := 1) rfl
  refine ⟨u, v, ?_, h2, h4⟩
  have h5 := h.1
  apply Array.ext_getElem?
  intro j
  match j with
  | 0 => simpa using h1
  | 1 => simpa using h3
  | j + 2 => rw [Array.getElem?_eq_none (by simp at h5; omega), Array.getElem?_eq_none (by simp)]
theorem RPs.three {S : Nat → Nat} {w : World} {p q r : Pa} {vs : Array Value} (h : RPs S w [p, q, r] vs) : ∃ u v x, vs = #[u, v, x] ∧ RP S w p u ∧ RP S w q v ∧ RP S w r x := by
  obtain ⟨u, h1, h2⟩ := h.nth (i := 0) rfl
  obtain ⟨v, h3, h4⟩ := h.nth (i := 1) rfl
  obtain ⟨x, h6, h7⟩ := h.nth (i := 2) rfl
  refine ⟨u, v, x, ?_, h2, h4, h7⟩
  have h5 := h.1
  apply Array.ext_getElem?
  intro j
  match j with
  | 0 => simpa using h1
  | 1 => simpa using h3
  | 2 => simpa using h6
  | j + 3 => rw [Array.getElem?_eq_none (by simp at h5; omega), Array.getElem?_eq_none (by simp)]
theorem RPs.nil {S : Nat → Nat} {w : World} {vs : Array Value} (h : RPs S w [] vs) : vs = #[] := by
  have h3 := h.1
  apply Array.ext_getElem?
  intro j
  rw [Array.getElem?_eq_none (by simp at h3; omega), Array.getElem?_eq_none (by simp)]
theorem RPs.mk1 {S : Nat → Nat} {w : World} {p : Pa} {u : Value} (h : RP S w p u) : RPs S w [p] #[u] := ⟨rfl, fun i q v h1 h2 => by
  match i with
  | 0 => cases h1; simp at h2; subst h2; exact h
  | i + 1 => simp at h1⟩
theorem RPs.mk2 {S : Nat → Nat} {w : World} {p q : Pa} {u v : Value} (h : RP S w p u) (k : RP S w q v) : RPs S w [p, q] #[u, v] := ⟨rfl, fun i r x h1 h2 => by
  match i with
  | 0 => cases h1; simp at h2; subst h2; exact h
  | 1 => cases h1; simp at h2; subst h2; exact k
  | i + 2 => simp at h1⟩
theorem RPs.mk3 {S : Nat → Nat} {w : World} {p q r : Pa} {u v x : Value} (h : RP S w p u) (k : RP S w q v) (m : RP S w r x) : RPs S w [p, q, r] #[u, v, x] := ⟨rfl, fun i o y h1 h2 => by
  match i with
  | 0 => cases h1; simp at h2; subst h2; exact h
  | 1 => cases h1; simp at h2; subst h2; exact k
  | 2 => cases h1; simp at h2; subst h2; exact m
  | i + 3 => simp at h1⟩
theorem RP.int {S : Nat → Nat} {w : World} {n : Int} {u : Value} (h : RP S w (pI n) u) : u = .int .i64 n := (RD.sc_inv h).1
theorem RP.mkInt {S : Nat → Nat} {w : World} (n : Int) : RP S w (pI n) (.int .i64 n) := .sc _ rfl
theorem RP.mkBool {S : Nat → Nat} {w : World} (n : Bool) : RP S w (pB n) (.bool n) := .sc _ rfl
theorem RP.bool {S : Nat → Nat} {w : World} {n : Bool} {u : Value} (h : RP S w (pB n) u) : u = .bool n := (RD.sc_inv h).1
/-- a struct of numbers -/
theorem RP.flat {S : Nat → Nat} {w : World} {vs : List Value} {u : Value} (h : RP S w (.agg (vs.map Dt.sc)) u) : u = .agg vs.toArray := by
  obtain ⟨arr, rfl, h2, h3⟩ := h
  congr 1
  apply Array.ext_getElem?
  intro j
  simp only [List.getElem?_toArray]
  rw [List.length_map] at h2
  cases hj : vs[j]? with
  | none => rw [Array.getElem?_eq_none]; rw [List.getElem?_eq_none_iff] at hj; omega
  | some x =>
    have hlt : j < arr.size := by have := (List.getElem?_eq_some_iff.1 hj).1; omega
    rw [Array.getElem?_eq_getElem hlt, (RD.sc_inv (h3 j (.sc x) arr[j] (by rw [List.getElem?_map, hj]; rfl) (Array.getElem?_eq_getElem hlt))).1]
theorem RP.mkFlat {S : Nat → Nat} {w : World} {vs : List Value} (h : ∀ u, u ∈ vs → u.oneCell' = true) : RP S w (.agg (vs.map Dt.sc)) (.agg vs.toArray) := by
  refine ⟨_, rfl, by simp, fun i x u h1 h2 => ?_⟩
  rw [List.getElem?_map, Option.map_eq_some_iff] at h1
  obtain ⟨y, hy, rfl⟩ := h1
  simp [hy] at h2
  subst h2
  exact .sc _ (h y (List.mem_of_getElem? hy))
end Go.Proofs.Ytohliamalaifhaa
end
section
set_option linter.unusedSimpArgs false
set_option linter.unusedVariables false
namespace Go.Proofs.Ytohliamalaifhaa
open Go Go.RowKit Go.Deep
open Classical

theorem Try.infoBoolRow : (Try.prog.info? 34).map (fun i => (i.zero, i.size, i.bytes)) = some (some (.slice none 0 0), 1, 24) := by kernel_rfl
theorem Try.infoBool1 : (Try.prog.info? 4).map (fun i => (i.zero, i.size, i.bytes)) = some (some (.bool false), 1, 1) := by kernel_rfl

theorem RD.bel {S : Nat → Nat} {w w' : World} (hb : Below w.heap.size w w') {x : Dt} {v : Value} (h : RD S w x v) : RD S w' x v := by
  refine RD.ext (S := S) (w := w) (fun b i hi hc => ⟨hi, hb.cell ?_⟩) h
  show b < w.heap.size
  rcases Nat.lt_or_ge b w.heap.size with h1 | h1
  · exact h1
  · unfold World.cell? at hc
    rw [Array.getElem?_eq_none h1] at hc
    cases hc

def topR (N n k : Nat) : Nat → Value := fun i => if i < k then .slice (some ⟨N + 1 + i, 0, none⟩) n n else .slice none 0 0
/-- k rows are made -/
structure GridA (w wr : World) (n k : Nat) : Prop where
  bel : Below w.heap.size w wr
  size : wr.heap.size = w.heap.size + 1 + k
  top : wr.rowIs w.heap.size 34 n (topR w.heap.size n k)
  row : ∀ i, i < k → wr.rowIs (w.heap.size + 1 + i) 4 n (fun _ => .bool false)
/-- the matrix -/
structure GridM (w wr : World) (n : Nat) (M : Nat → Nat → Prop) : Prop where
  bel : Below w.heap.size w wr
  size : w.heap.size + 1 + n ≤ wr.heap.size
  top : wr.rowIs w.heap.size 34 n (topR w.heap.size n n)
  row : ∀ i, i < n → wr.rowIs (w.heap.size + 1 + i) 4 n (fun j => .bool (decide (M i j)))
theorem gridA_start (w : World) (n : Nat) : GridA w (w.alloc (.cells (madeCells #[.slice none 0 0] n) 34)) n 0 :=
  ⟨(Below.refl _ _).alloc (Nat.le_refl _) _, by simp, (World.rowIs_made w _ n 34).congr (fun j _ => by simp [topR]), fun j hj => absurd hj (Nat.not_lt_zero _)⟩
theorem gridA_step {w wr : World} {n k : Nat} (h : GridA w wr n k) :
    GridA w ((wr.alloc (.cells (madeCells #[.bool false] n) 4)).setCell ⟨w.heap.size, k, none⟩ (.slice (some ⟨w.heap.size + 1 + k, 0, none⟩) n n)) n (k + 1) := by
  have hnew := World.rowIs_made wr (.bool false) n 4
  rw [h.size] at hnew
  refine ⟨(h.bel.alloc (by rw [h.size]; omega) _).setCell (Nat.le_refl _) _, by simp [h.size]; omega, ((h.top.alloc _).set k _).congr (fun j _ => ?_), fun i hi => ?_⟩
  · simp only [topR]
    by_cases e : j = k
    · subst e; simp
    · rw [if_neg e]
      by_cases hlt : j < k
      · rw [if_pos hlt, if_pos (by omega)]
      · rw [if_neg hlt, if_neg (by omega)]
  · rcases Nat.lt_or_eq_of_le (Nat.le_of_lt_succ hi) with h1 | h1
    · exact ((h.row i h1).alloc _).setOther (by show w.heap.size + 1 + i ≠ w.heap.size; omega) _
    · subst h1
      exact hnew.setOther (by show w.heap.size + 1 + i ≠ w.heap.size; omega) _
theorem gridM_of {w wr : World} {n : Nat} (h : GridA w wr n n) {M : Nat → Nat → Prop} (hM : ∀ x y, ¬ M x y) : GridM w wr n M :=
  ⟨h.bel, by rw [h.size]; exact Nat.le_refl _, h.top, fun i hi => (h.row i hi).congr (fun j _ => by rw [decide_eq_false (hM i j)])⟩
theorem GridM.below {w wr w' : World} {n : Nat} {M : Nat → Nat → Prop} (h : GridM w wr n M) (hb : Below wr.heap.size wr w') : GridM w w' n M :=
  ⟨h.bel.trans (hb.mono h.bel.size), Nat.le_trans h.size hb.size, h.top.of_block (hb.block _ h.top.lt), fun i hi => (h.row i hi).of_block (hb.block _ (h.row i hi).lt)⟩
theorem GridM.congr {w wr : World} {n : Nat} {M M' : Nat → Nat → Prop} (h : GridM w wr n M) (hM : ∀ x y, x < n → y < n → (M x y ↔ M' x y)) : GridM w wr n M' :=
  ⟨h.bel, h.size, h.top, fun i hi => (h.row i hi).congr (fun j hj => by rw [decide_eq_decide.2 (hM i j hi hj)])⟩
theorem GridM.set {w wr : World} {n : Nat} {M : Nat → Nat → Prop} (h : GridM w wr n M) (a c : Nat) : GridM w (wr.setCell ⟨w.heap.size + 1 + a, c, none⟩ (.bool true)) n (fun x y => (x = a ∧ y = c) ∨ M x y) := by
  refine ⟨h.bel.setCell (by show w.heap.size ≤ w.heap.size + 1 + a; omega) _, by simpa using h.size, h.top.setOther (by show w.heap.size ≠ w.heap.size + 1 + a; omega) _, fun i hi => ?_⟩
  by_cases hia : i = a
  · subst hia
    refine ((h.row i hi).set c _).congr (fun j _ => ?_)
    by_cases hj : j = c
    · rw [if_pos hj]; exact congrArg Value.bool (@decide_eq_true _ (propDecidable _) (.inl ⟨rfl, hj⟩)).symm
    · rw [if_neg hj]
      exact congrArg (fun p => Value.bool (@decide p (propDecidable p))) (propext (⟨.inr, fun h => h.elim (fun h => absurd h.2 hj) id⟩ : M i j ↔ (i = i ∧ j = c) ∨ M i j))
  · refine ((h.row i hi).setOther (by show w.heap.size + 1 + i ≠ w.heap.size + 1 + a; omega) _).congr (fun j _ => ?_)
    exact congrArg (fun p => Value.bool (@decide p (propDecidable p))) (propext (⟨.inr, fun h => h.elim (fun h => absurd h.1 hia) id⟩ : M i j ↔ (i = a ∧ j = c) ∨ M i j))
theorem GridM.head {w wr : World} {n : Nat} {M : Nat → Nat → Prop} (h : GridM w wr n M) {i : Nat} (hi : i < n) : wr.cell? ⟨w.heap.size, i, none⟩ = some (.slice (some ⟨w.heap.size + 1 + i, 0, none⟩) n n) := by
  have := h.top.cell hi
  simpa [topR, hi] using this

section
variable (l : List Ev)
def mA (j : Nat) (x y : Nat) : Prop := y < j ∧ HB l x y
def mB (j m : Nat) (x y : Nat) : Prop := (y < j ∧ HB l x y) ∨ (y = j ∧ ∃ k, m ≤ k ∧ k < j ∧ Imm l k j ∧ HBE l x k)
def mC (j i k : Nat) (x y : Nat) : Prop := mB l j (i + 1) x y ∨ (y = j ∧ (x = i ∨ (x < k ∧ HB l x i)))
variable {l}
theorem mB_start {j x y : Nat} : mA l j x y ↔ mB l j j x y := ⟨.inl, fun h => h.elim id (fun ⟨_, k, h1, h2, _⟩ => by omega)⟩
theorem mB_skip {j i x y : Nat} (hn : ¬ Imm l i j) : mB l j (i + 1) x y ↔ mB l j i x y := by
  refine ⟨fun h => h.imp id (fun ⟨h1, k, h2, h3⟩ => ⟨h1, k, by omega, h3⟩), fun h => h.imp id (fun ⟨h1, k, h2, h3, h4, h5⟩ => ⟨h1, k, ?_, h3, h4, h5⟩)⟩
  rcases Nat.lt_or_eq_of_le h2 with h6 | h6
  · exact h6
  · subst h6; exact absurd h4 hn
theorem mC_start {j i x y : Nat} : ((x = i ∧ y = j) ∨ mB l j (i + 1) x y) ↔ mC l j i 0 x y :=
  ⟨fun h => h.elim (fun ⟨h1, h2⟩ => .inr ⟨h2, .inl h1⟩) .inl, fun h => h.elim .inr (fun ⟨h1, h2⟩ => h2.elim (fun h3 => .inl ⟨h3, h1⟩) (fun h3 => by omega))⟩
theorem mC_read {j i k : Nat} (hij : i < j) : mC l j i k k i ↔ HB l k i := by
  refine ⟨fun h => ?_, fun h => .inl (.inl ⟨hij, h⟩)⟩
  rcases h with (h | ⟨h, _⟩) | ⟨h, _⟩
  · exact h.2
  · omega
  · omega
theorem mC_hit {j i k x y : Nat} (hk : HB l k i) : ((x = k ∧ y = j) ∨ mC l j i k x y) ↔ mC l j i (k + 1) x y := by
  refine ⟨fun h => ?_, fun h => ?_⟩
  · rcases h with ⟨rfl, h2⟩ | h | ⟨h1, h | h⟩
    · exact .inr ⟨h2, .inr ⟨by omega, hk⟩⟩
    · exact .inl h
    · exact .inr ⟨h1, .inl h⟩
    · exact .inr ⟨h1, .inr ⟨by omega, h.2⟩⟩
  · rcases h with h | ⟨h1, h | h⟩
    · exact .inr (.inl h)
    · exact .inr (.inr ⟨h1, .inl h⟩)
    · by_cases hx : x = k
      · exact .inl ⟨hx, h1⟩
      · exact .inr (.inr ⟨h1, .inr ⟨by omega, h.2⟩⟩)
theorem mC_miss {j i k x y : Nat} (hk : ¬ HB l k i) : mC l j i k x y ↔ mC l j i (k + 1) x y := by
  refine ⟨fun h => ?_, fun h => ?_⟩
  · rcases h with h | ⟨h1, h | h⟩
    · exact .inl h
    · exact .inr ⟨h1, .inl h⟩
    · exact .inr ⟨h1, .inr ⟨by omega, h.2⟩⟩
  · rcases h with h | ⟨h1, h | h⟩
    · exact .inl h
    · exact .inr ⟨h1, .inl h⟩
    · by_cases hx : x = k
      · subst hx; exact absurd h.2 hk
      · exact .inr ⟨h1, .inr ⟨by omega, h.2⟩⟩
theorem mC_end {j i x y : Nat} (hij : i < j) (hi : Imm l i j) : mC l j i i x y ↔ mB l j i x y := by
  refine ⟨fun h => ?_, fun h => ?_⟩
  · rcases h with (h | ⟨h1, k, h2, h3⟩) | ⟨h1, h | h⟩
    · exact .inl h
    · exact .inr ⟨h1, k, by omega, h3⟩
    · exact .inr ⟨h1, i, Nat.le_refl _, hij, hi, .inl h⟩
    · exact .inr ⟨h1, i, Nat.le_refl _, hij, hi, .inr h.2⟩
  · rcases h with h | ⟨h1, k, h2, h3, h4, h5⟩
    · exact .inl (.inl h)
    · rcases Nat.lt_or_eq_of_le h2 with h6 | h6
      · exact .inl (.inr ⟨h1, k, h6, h3, h4, h5⟩)
      · subst h6
        exact .inr ⟨h1, h5.elim .inl (fun h7 => .inr ⟨h7.lt, h7⟩)⟩
theorem mB_end {j x y : Nat} : mB l j 0 x y ↔ mA l (j + 1) x y := by
  refine ⟨fun h => ?_, fun h => ?_⟩
  · rcases h with h | ⟨h1, k, _, h3, h4, h5⟩
    · exact ⟨by omega, h.2⟩
    · subst h1
      exact ⟨by omega, HB_iff.2 ⟨k, h3, h4, h5⟩⟩
  · rcases Nat.lt_or_eq_of_le (Nat.le_of_lt_succ h.1) with h1 | h1
    · exact .inl ⟨h1, h.2⟩
    · subst h1
      obtain ⟨k, h3, h4, h5⟩ := HB_iff.1 h.2
      exact .inr ⟨rfl, k, Nat.zero_le _, h3, h4, h5⟩
end

set_option maxRecDepth 100000 in
set_option maxHeartbeats 4000000 in
theorem rel_walk (w : World) (S : Nat → Nat) (v : Value) (l : List Ev) (hv : RD S w (evsD l) v) (hl : l.length ≤ 1000000) (hval : ∀ e, e ∈ l → e.valid = true) :
    Calls Try.prog 14 #[v] w fun e w' => e = .returned (.slice (some ⟨w.heap.size, 0, none⟩) l.length l.length) ∧ GridM w w' l.length (HB l) := by
  have hlen := hv.len
  rw [List.length_map] at hlen
  obtain ⟨A, c, rfl, hc, hm⟩ := hlen
  have HI0 : ∀ (wr : World) (i j : Nat), Below w.heap.size w wr → i < l.length → j < l.length → i < j → Calls Try.prog 20 #[.slice A l.length c, .int .i64 i, .int .i64 j] wr (fun e w' => e = .returned (.bool (decide (Imm l i j))) ∧ Below wr.heap.size wr w') := by
    intro wr i j hb hi hj hij
    have hr := Ev.valid_rg (hval _ (evAt_mem hi))
    have := s_imm34 _ _ ⟨l, i, j, rfl, ⟨hi, hj, hij, hl, hr.2.1.1, hr.2.1.2, hr.2.2.1.1, hr.2.2.1.2⟩, rfl⟩ S wr #[.slice A l.length c, .int .i64 i, .int .i64 j] trivial (RPs.mk3 (hv.bel hb) (RP.mkInt _) (RP.mkInt _))
    refine this.mono ?_
    rintro e w' ⟨v, S', rfl, h1, h2, _⟩
    exact ⟨by rw [RP.bool h1], h2⟩
  have HI := Lib.hid HI0; clear HI0 hv hval
  have hmk1 := run_make_row' (P := Try.prog) 30 34 (.slice none 0 0) 24 Try.underlying30 Try.infoBoolRow rfl .i64 .i64 l.length (by omega) (by omega)
  go_enter Try.func14, Try.ntmps14
  go_wp2
  go_loopg [4] l.length (fun g i wr => ∃ k : Nat, k ≤ l.length ∧ g = l.length - k ∧ i = .int .i64 k ∧ GridA w wr l.length k)
  case atStart => exact ⟨0, Nat.zero_le _, rfl, rfl, gridA_start _ _⟩
  case round =>
    obtain ⟨k, hk, rfl, rfl, hG⟩ := hrel
    have hsize := hG.size
    have hmk2 := run_make_row' (P := Try.prog) 34 4 (.bool false) 1 Try.underlying34 Try.infoBool1 rfl .i64 .i64 l.length (by omega) (by omega)
    have hst1 : k < l.length → ∀ o, (wr.alloc o).cell? ⟨w.heap.size, k, none⟩ = some (topR w.heap.size l.length k k) := fun h o => (hG.top.alloc o).cell h
    have hst2 : ∀ o, (wr.alloc o).frozen? ⟨w.heap.size, k, none⟩ = false := fun o => (hG.top.alloc o).frozen k
    clear hmk1
    go_wp2
    · have hk' : k < l.length := by assumption
      have hS := gridA_step hG
      go_roundg (l.length - (k + 1))
      case measure => omega
      case rel => exact ⟨k + 1, by omega, rfl, by go_num, hS⟩
    · have hkl : k = l.length := by omega
      subst hkl
      have hM0 : GridM w wr l.length (mA l 0) := gridM_of hG (fun x y h => Nat.not_lt_zero _ h.1)
      clear hmk2 hst1 hst2 hsize hG
      simp only [Nat.lt_irrefl, decide_false]
      go_loopg [5] l.length (fun g i wr => ∃ j : Nat, j ≤ l.length ∧ g = l.length - j ∧ i = .int .i64 j ∧ GridM w wr l.length (mA l j))
      case atStart => exact ⟨0, Nat.zero_le _, rfl, rfl, hM0⟩
      case round =>
        obtain ⟨j, hj, rfl, rfl, hM⟩ := hrel
        clear hM0
        by_cases hjl : j < l.length
        · go_wp2
          go_loopg [6] j (fun g i wr => ((g = 0 ∧ i = .int .i64 (-1)) ∨ (∃ m : Nat, g = m + 1 ∧ i = .int .i64 m)) ∧ g ≤ j ∧ GridM w wr l.length (mB l j g))
          case atStart =>
            refine ⟨?_, Nat.le_refl _, hM.congr (fun x y _ _ => mB_start)⟩
            rcases j with _ | j
            · exact .inl ⟨rfl, by first | rfl | go_num⟩
            · exact .inr ⟨j, rfl, by go_num⟩
          case round =>
            obtain ⟨hg, hgj, hB⟩ := hrel
            rcases hg with ⟨rfl, rfl⟩ | ⟨i, rfl, rfl⟩
            · go_wp2
              have hE := hB.congr (fun x y _ _ => mB_end)
              go_roundg (l.length - (j + 1))
              case measure => omega
              case rel => exact ⟨j + 1, by omega, rfl, by go_num, hE⟩
            · have hi0 : (0 : Int) ≤ (i : Int) := by omega
              have hCall := HI.out wr i j hB.bel (by omega) hjl (by omega)
              by_cases him : Imm l i j
              · rw [decide_eq_true him] at hCall
                have HC := Lib.hid hCall; clear hCall
                go_wp2_with (go_at_call 20; refine HC.out.mono ?_; rintro e w1 ⟨rfl, hb1⟩
                             have hB1 := hB.below hb1
                             have q1 := hB1.head (i := i) (by omega)
                             have q2 := (hB1.row i (by omega)).cell hjl
                             have q3 := (hB1.row i (by omega)).frozen j
                             have hij : (j : Int) < (l.length : Int) := by omega
                             have hil : (i : Int) < (l.length : Int) := by omega
                             have hS1 := (hB1.set i j).congr (fun x y _ _ => mC_start)
                             clear hB hb1 HC)
                clear hB1 q1 q2 q3
                go_loopg [7] i (fun g x wr => ∃ k : Nat, k ≤ i ∧ g = i - k ∧ x = .int .i64 k ∧ GridM w wr l.length (mC l j i k))
                case atStart => exact ⟨0, Nat.zero_le _, rfl, rfl, hS1⟩
                case round =>
                  obtain ⟨k, hk2, rfl, rfl, hC⟩ := hrel
                  clear hS1
                  by_cases hki : k < i
                  · have hk0 : (0 : Int) ≤ (k : Int) := by omega
                    have hkl : (k : Int) < (l.length : Int) := by omega
                    have q1 := hC.head (i := k) (by omega)
                    have q2 := (hC.row k (by omega)).cell (i := i) (by omega)
                    have q4 := (hC.row k (by omega)).cell (i := j) hjl
                    have q3 := (hC.row k (by omega)).frozen j
                    skip
                    by_cases hhb : HB l k i
                    · rw [decide_eq_true ((mC_read (by omega)).2 hhb)] at q2
                      have hS2 := (hC.set k j).congr (fun x y _ _ => mC_hit hhb)
                      go_wp2
                      clear q1 q2 q3 q4
                      go_roundg (i - (k + 1))
                      case measure => omega
                      case rel => exact ⟨k + 1, by omega, rfl, by go_num, hS2⟩
                    · rw [decide_eq_false (fun h => hhb ((mC_read (by omega)).1 h))] at q2
                      have hS2 := hC.congr (fun x y _ _ => mC_miss hhb)
                      go_wp2
                      clear q1 q2 q3 q4
                      go_roundg (i - (k + 1))
                      case measure => omega
                      case rel => exact ⟨k + 1, by omega, rfl, by go_num, hS2⟩
                  · have hki' : k = i := by omega
                    subst hki'
                    have hE := hC.congr (fun x y _ _ => mC_end (by omega) him)
                    go_wp2
                    go_roundg k
                    case measure => omega
                    case rel =>
                      refine ⟨?_, by omega, hE⟩
                      rcases k with _ | k
                      · exact .inl ⟨rfl, by first | rfl | go_num⟩
                      · exact .inr ⟨k, rfl, by go_num⟩
              · rw [decide_eq_false him] at hCall
                have HC := Lib.hid hCall; clear hCall
                go_wp2_with (go_at_call 20; refine HC.out.mono ?_; rintro e w1 ⟨rfl, hb1⟩
                             have hS1 := (hB.below hb1).congr (fun x y _ _ => mB_skip him)
                             clear hB hb1 HC)
                go_roundg i
                case measure => omega
                case rel =>
                  refine ⟨?_, by omega, hS1⟩
                  rcases i with _ | i
                  · exact .inl ⟨rfl, by first | rfl | go_num⟩
                  · exact .inr ⟨i, rfl, by go_num⟩
        · have hjl' : j = l.length := by omega
          subst hjl'
          go_wp2
          go_ret
          exact ⟨rfl, hM.congr (fun x y _ hy => ⟨fun h => h.2, fun h => ⟨hy, h⟩⟩)⟩
end Go.Proofs.Ytohliamalaifhaa
end
section
set_option linter.unusedSimpArgs false
set_option linter.unusedVariables false
namespace Go.Proofs.Ytohliamalaifhaa
open Go

def RCh.conv (c : RCh) : Ch := ⟨c.n, c.sent, c.recv, c.closed⟩
def RLk.conv (c : RLk) : Mu := ⟨c.locked, c.readers⟩
/-- the five shapes of an open group, and the closed one -/
inductive RelG : List RWt → List Int → Int → Int → Prop
  | none (a b : Int) : RelG [] [] a b
  | snd (g b : Int) (h : 0 ≤ g) : RelG [⟨16, g, 0⟩] [16] g b
  | rcv (a g : Int) (h : 0 ≤ g) : RelG [⟨18, g, 0⟩] [18] a g
  | wait (g : Int) (h : 0 ≤ g) : RelG [⟨17, -1, g⟩, ⟨18, -1, 0⟩, ⟨16, g, 0⟩] [17, 18, 16] g (-1)
  | ask (g : Int) (h : 0 ≤ g) : RelG [⟨15, -1, g⟩, ⟨18, g, 0⟩, ⟨16, -1, 0⟩] [15, 18, 16] (-1) g
  | both (a b : Int) (h : 0 ≤ a) (k : 0 ≤ b) : RelG [⟨18, b, 0⟩, ⟨16, a, 0⟩] [18, 16] a b

/-- a receive that waits for its send, a send that waits for its receive -/
def asks (l : List Int) : Int := if l.headD 0 = 15 then 1 else if l.headD 0 = 17 then -1 else 0
structure Rel (r : RSt) (t : TS) : Prop where
  ct : r.count = t.events
  gr : r.gor = t.gor
  ch : ∀ x, t.chans x = (r.chans.find? (fun c => c.obj == x)).map RCh.conv
  lk : ∀ x y, t.mus (x, y) = (r.locks.find? (fun c => c.obj == x && c.off == y)).map RLk.conv
  dn : ∀ x y, (t.done (x, y)).getD false = r.isDone x y
  gp : RelG r.next t.grp.kinds t.grp.snd t.grp.rcv
  go : r.next ≠ [] → t.grp.obj = r.obj ∧ t.grp.k = r.k ∧ t.grp.n = r.n ∧ (t.chans r.obj).isSome = true
  bal : ∀ x c, t.chans x = some c → c.recv ≤ c.sent + (if x = r.obj then asks t.grp.kinds else 0)
  clen : (r.chans.length : Int) ≤ r.count
  cbd : ∀ c, c ∈ r.chans → (0 ≤ c.sent ∧ c.sent ≤ r.count) ∧ (0 ≤ c.recv ∧ c.recv ≤ r.count)
  llen : (r.locks.length : Int) ≤ r.count
  lbd : ∀ c, c ∈ r.locks → 0 ≤ c.readers ∧ c.readers ≤ r.count
  dlen : (r.done.length : Int) ≤ r.count

theorem Rel.new : Rel RSt.new TS.new :=
  ⟨rfl, rfl, fun _ => rfl, fun _ _ => rfl, fun _ _ => rfl, .none _ _, fun h => absurd rfl h, (fun _ _ h => by cases h), (by decide), (fun _ h => by cases h), (by decide), (fun _ h => by cases h), (by decide)⟩
theorem RelG.len {l : List RWt} {k : List Int} {a b : Int} (h : RelG l k a b) : l.length ≤ 3 := by cases h <;> simp
theorem RelG.kinds {l : List RWt} {k : List Int} {a b : Int} (h : RelG l k a b) : k = l.map (·.kind) := by cases h <;> rfl
theorem Rel.ok {r : RSt} {t : TS} (h : Rel r t) (hw : t.wf) : r.ok := by
  have h1 := hw.ev
  have h2 := hw.gr
  have h3 := h.gp.len
  have h4 := h.ct
  have h5 := h.gr
  have h6 := h.clen
  have h7 := h.llen
  have h8 := h.dlen
  refine ⟨by omega, by omega, ⟨by omega, fun c hc => ?_⟩, ⟨by omega, fun c hc => ?_⟩, by omega, by omega⟩
  · have := h.cbd c hc; omega
  · have := h.lbd c hc; omega

/-- looking up behind a replacement -/
theorem find_set {α : Type} (l : List α) (p q : α → Bool) (c : α) (hc : p c = true → ∀ d, d ∈ l → p d = true → q d = false) (hn : p c = false → ∀ d, d ∈ l → p d = true → q d = true) :
    (l.filter q ++ [c]).find? p = if p c = true then some c else l.find? p := by
  rw [List.find?_append]
  cases hp : p c with
  | true =>
    have h1 : (l.filter q).find? p = none := by
      rw [List.find?_eq_none]
      intro x hx h2
      obtain ⟨h3, h4⟩ := List.mem_filter.1 hx
      rw [hc hp x h3 h2] at h4
      cases h4
    simp [h1, hp]
  | false =>
    have h1 : (l.filter q).find? p = l.find? p := by
      have hn' := hn hp
      clear hn hc
      induction l with
      | nil => rfl
      | cons a l ih =>
        have ih' := ih (fun d hd => hn' d (List.mem_cons_of_mem _ hd))
        rw [List.filter_cons, List.find?_cons]
        cases hpa : p a with
        | true => rw [if_pos (hn' a List.mem_cons_self hpa), List.find?_cons, hpa]
        | false =>
          cases hq : q a with
          | true => rw [if_pos rfl, List.find?_cons, hpa]; exact ih'
          | false => rw [if_neg (by decide)]; exact ih'
    simp [h1, hp]
theorem find_setChannel (r : RSt) (c : RCh) (x : Int) : (r.setChannel c).chans.find? (fun d => d.obj == x) = if c.obj = x then some c else r.chans.find? (fun d => d.obj == x) := by
  have := find_set r.chans (fun d => d.obj == x) (fun d => d.obj != c.obj) c (fun h d _ h2 => by simp at h h2 ⊢; rw [h, h2]) (fun h d _ h2 => by simp at h h2 ⊢; rw [h2]; exact fun h3 => h h3.symm)
  simpa [RSt.setChannel] using this
theorem find_setLock (r : RSt) (c : RLk) (x y : Int) : (r.setLock c).locks.find? (fun d => d.obj == x && d.off == y) = if c.obj = x ∧ c.off = y then some c else r.locks.find? (fun d => d.obj == x && d.off == y) := by
  have := find_set r.locks (fun d => d.obj == x && d.off == y) (fun d => d.obj != c.obj || d.off != c.off) c
    (fun h d _ h2 => by simp at h h2 ⊢; rw [h.1, h.2, h2.1, h2.2]; exact ⟨rfl, rfl⟩)
    (fun h d _ h2 => by simp at h h2 ⊢; rw [h2.1, h2.2]; by_cases h3 : c.obj = x
                        · right; exact fun h4 => h h3 h4.symm
                        · left; exact fun h4 => h3 h4.symm)
  simpa [RSt.setLock] using this

theorem Rel.channel {r : RSt} {t : TS} (h : Rel r t) (e : Ev) : (r.channel e.obj e.n).conv = t.chan e ∧ (r.channel e.obj e.n).obj = e.obj := by
  unfold RSt.channel TS.chan
  rw [h.ch]
  cases hf : r.chans.find? (fun c => c.obj == e.obj) with
  | none => exact ⟨rfl, rfl⟩
  | some c => exact ⟨rfl, by have := List.find?_some hf; simpa using this⟩
theorem Rel.lock {r : RSt} {t : TS} (h : Rel r t) (e : Ev) : (r.lock e.obj e.off).conv = t.mu e ∧ (r.lock e.obj e.off).obj = e.obj ∧ (r.lock e.obj e.off).off = e.off := by
  unfold RSt.lock TS.mu
  rw [h.lk]
  cases hf : r.locks.find? (fun c => c.obj == e.obj && c.off == e.off) with
  | none => exact ⟨rfl, rfl, rfl⟩
  | some c => exact ⟨rfl, by have := List.find?_some hf; simp at this; exact this.1, by have := List.find?_some hf; simp at this; exact this.2⟩
theorem Rel.channel_bd {r : RSt} {t : TS} (h : Rel r t) (hc : 0 ≤ r.count) (obj n : Int) : (0 ≤ (r.channel obj n).sent ∧ (r.channel obj n).sent ≤ r.count) ∧ (0 ≤ (r.channel obj n).recv ∧ (r.channel obj n).recv ≤ r.count) := by
  unfold RSt.channel
  cases hf : r.chans.find? (fun c => c.obj == obj) with
  | none => simp [hc]
  | some c => exact h.cbd c (List.mem_of_find?_eq_some hf)
theorem Rel.lock_bd {r : RSt} {t : TS} (h : Rel r t) (hc : 0 ≤ r.count) (obj off : Int) : 0 ≤ (r.lock obj off).readers ∧ (r.lock obj off).readers ≤ r.count := by
  unfold RSt.lock
  cases hf : r.locks.find? (fun c => c.obj == obj && c.off == off) with
  | none => simp [hc]
  | some c => exact h.lbd c (List.mem_of_find?_eq_some hf)
theorem RelG.nil_asks {l : List RWt} {k : List Int} {a b : Int} (h : RelG l k a b) (hl : l = []) : asks k = 0 := by subst hl; cases h; rfl

/-- a channel is put, a group goes on -/
theorem Rel.put {r : RSt} {t : TS} (h : Rel r t) (c : RCh) (hs : 0 ≤ c.sent ∧ c.sent ≤ r.count + 1) (hr : 0 ≤ c.recv ∧ c.recv ≤ r.count + 1) (nx : List RWt) (ob kk nn : Int) (o : Grp) (hg : RelG nx o.kinds o.snd o.rcv)
    (ho : nx ≠ [] → o.obj = ob ∧ o.k = kk ∧ o.n = nn ∧ ob = c.obj) (hb : c.recv ≤ c.sent + asks o.kinds) (hold : ∀ x d, x ≠ c.obj → t.chans x = some d → d.recv ≤ d.sent) :
    Rel { r.setChannel c with next := nx, obj := ob, k := kk, n := nn, count := r.count + 1 } { t with chans := upd t.chans c.obj c.conv, grp := o, events := t.events + 1 } := by
  refine ⟨by simp only [h.ct], h.gr, fun x => ?_, h.lk, h.dn, hg, fun hne => ?_, fun x d hd => ?_, ?_, fun d hd => ?_, ?_, fun d hd => ?_, ?_⟩
  · have h1 := find_setChannel r c x
    dsimp only
    rw [h1]
    by_cases hx : c.obj = x
    · subst hx; rw [upd_same, if_pos rfl]; rfl
    · rw [upd_other _ _ (fun h2 => hx h2.symm), if_neg hx, h.ch]
  · obtain ⟨h1, h2, h3, h4⟩ := ho hne
    exact ⟨h1, h2, h3, by dsimp only; rw [h4, upd_same]; rfl⟩
  · dsimp only at hd ⊢
    by_cases hx : x = c.obj
    · subst hx
      rw [upd_same] at hd; cases hd
      by_cases hn : nx = []
      · rw [hg.nil_asks hn] at hb ⊢
        show c.recv ≤ c.sent + _
        split <;> omega
      · rw [if_pos (ho hn).2.2.2.symm]; exact hb
    · rw [upd_other _ _ hx] at hd
      have := hold x d hx hd
      by_cases hn : nx = []
      · rw [hg.nil_asks hn]; split <;> omega
      · rw [if_neg (fun h2 => hx (h2.trans (ho hn).2.2.2))]; omega
  · have h1 := List.length_filter_le (fun d : RCh => d.obj != c.obj) r.chans
    have h2 := h.clen
    simp only [RSt.setChannel, List.length_append, List.length_cons, List.length_nil]
    omega
  · simp only [RSt.setChannel, List.mem_append, List.mem_filter, List.mem_singleton] at hd
    rcases hd with ⟨hd, _⟩ | rfl
    · have := h.cbd d hd; dsimp only; omega
    · dsimp only; omega
  · have := h.llen; dsimp only [RSt.setChannel]; omega
  · have := h.lbd d hd; dsimp only [RSt.setChannel]; omega
  · have := h.dlen; dsimp only [RSt.setChannel]; omega

/-- only the group goes on -/
theorem Rel.keep {r : RSt} {t : TS} (h : Rel r t) (nx : List RWt) (o : Grp) (hg : RelG nx o.kinds o.snd o.rcv) (ho : nx ≠ [] → o.obj = r.obj ∧ o.k = r.k ∧ o.n = r.n ∧ (t.chans r.obj).isSome = true) (ha : asks o.kinds = asks t.grp.kinds) :
    Rel { r with next := nx, count := r.count + 1 } { t with grp := o, events := t.events + 1 } := by
  refine ⟨by simp only [h.ct], h.gr, h.ch, h.lk, h.dn, hg, ho, fun x d hd => ?_, ?_, fun d hd => ?_, ?_, fun d hd => ?_, ?_⟩
  · dsimp only; rw [ha]; exact h.bal x d hd
  · have := h.clen; dsimp only; omega
  · have := h.cbd d hd; dsimp only; omega
  · have := h.llen; dsimp only; omega
  · have := h.lbd d hd; dsimp only; omega
  · have := h.dlen; dsimp only; omega
/-- a mutex is put -/
theorem Rel.putLock {r : RSt} {t : TS} (h : Rel r t) (c : RLk) (hr : 0 ≤ c.readers ∧ c.readers ≤ r.count + 1) :
    Rel { r.setLock c with count := r.count + 1 } { t with mus := upd t.mus (c.obj, c.off) c.conv, events := t.events + 1 } := by
  refine ⟨by simp only [h.ct], h.gr, h.ch, fun x y => ?_, h.dn, h.gp, h.go, h.bal, ?_, fun d hd => ?_, ?_, fun d hd => ?_, ?_⟩
  · have h1 := find_setLock r c x y
    dsimp only
    rw [h1]
    by_cases hx : c.obj = x ∧ c.off = y
    · obtain ⟨rfl, rfl⟩ := hx; rw [upd_same, if_pos ⟨rfl, rfl⟩]; rfl
    · rw [upd_other _ _ (fun h2 => hx (by cases h2; exact ⟨rfl, rfl⟩)), if_neg hx, h.lk]
  · have := h.clen; dsimp only [RSt.setLock]; omega
  · have := h.cbd d hd; dsimp only [RSt.setLock]; omega
  · have h1 := List.length_filter_le (fun d : RLk => d.obj != c.obj || d.off != c.off) r.locks
    have h2 := h.llen
    simp only [RSt.setLock, List.length_append, List.length_cons, List.length_nil]
    omega
  · simp only [RSt.setLock, List.mem_append, List.mem_filter, List.mem_singleton] at hd
    rcases hd with ⟨hd, _⟩ | rfl
    · have := h.lbd d hd; dsimp only; omega
    · dsimp only; omega
  · have := h.dlen; dsimp only [RSt.setLock]; omega

def Ans (p : RSt × Bool) (o : Option TS) : Prop := match o with
  | some t' => p.2 = true ∧ Rel { p.1 with count := p.1.count + 1 } { t' with events := t'.events + 1 }
  | none => p.2 = false

theorem Rel.other {r : RSt} {t : TS} (h : Rel r t) (hc : 0 ≤ r.count) (e : Ev) (hn : r.next = []) : Ans (r.otherR e) (t.simple e) := by
  obtain ⟨hm, ho, hf⟩ := h.lock e
  have hb := h.lock_bd hc e.obj e.off
  have hd := h.dn e.obj e.off
  unfold RSt.otherR TS.simple
  rw [← hm, hd]
  clear hm
  generalize r.lock e.obj e.off = m at ho hf hb ⊢
  obtain ⟨mo, mf, ml, mr⟩ := m
  dsimp only [RLk.conv] at ho hf hb ⊢
  subst ho; subst hf
  have same : Rel { r with count := r.count + 1 } { t with events := t.events + 1 } := Rel.keep h r.next t.grp h.gp h.go rfl
  by_cases k6 : e.kind = 6
  · rw [if_pos k6, if_pos k6]
    by_cases hl : ml = true ∨ 0 < mr
    · rw [if_pos hl]
      show (!ml && mr == 0) = false
      rcases hl with rfl | hl
      · rfl
      · rw [beq_eq_false_iff_ne.2 (by omega), Bool.and_false]
    · rw [if_neg hl]
      have h1 : ml = false := by cases ml <;> simp at hl ⊢
      have h2 : mr = 0 := by omega
      subst h1; subst h2
      exact ⟨rfl, Rel.putLock h ⟨e.obj, e.off, true, 0⟩ ⟨by dsimp only; omega, by dsimp only; omega⟩⟩
  rw [if_neg k6, if_neg k6]
  by_cases k7 : e.kind = 7
  · rw [if_pos k7, if_pos k7]
    cases ml with
    | false => rw [if_pos rfl]; rfl
    | true => rw [if_neg (by decide)]; exact ⟨rfl, Rel.putLock h ⟨e.obj, e.off, false, mr⟩ ⟨hb.1, by dsimp only; omega⟩⟩
  rw [if_neg k7, if_neg k7]
  by_cases k8 : e.kind = 8
  · rw [if_pos k8, if_pos k8]
    cases ml with
    | true => rw [if_pos rfl]; rfl
    | false => rw [if_neg (by decide)]; exact ⟨rfl, Rel.putLock h ⟨e.obj, e.off, false, mr + 1⟩ ⟨by dsimp only; omega, by dsimp only; omega⟩⟩
  rw [if_neg k8, if_neg k8]
  by_cases k9 : e.kind = 9
  · rw [if_pos k9, if_pos k9]
    by_cases hl : mr = 0
    · rw [if_pos hl]; subst hl; rfl
    · rw [if_neg hl]
      exact ⟨decide_eq_true (show 0 ≤ mr - 1 by omega), Rel.putLock h ⟨e.obj, e.off, ml, mr - 1⟩ ⟨by dsimp only; omega, by dsimp only; omega⟩⟩
  rw [if_neg k9, if_neg k9]
  by_cases k12 : e.kind = 12
  · rw [if_pos k12, if_pos k12]
    cases hdo : r.isDone e.obj e.off with
    | true => rw [if_pos rfl]; rfl
    | false =>
      rw [if_neg (by decide)]
      refine ⟨rfl, by simp only [h.ct], h.gr, h.ch, h.lk, fun x y => ?_, h.gp, h.go, h.bal, ?_, fun d hd => ?_, ?_, fun d hd => ?_, ?_⟩
      · unfold RSt.isDone
        dsimp only
        rw [List.any_append]
        by_cases hx : (x, y) = (e.obj, e.off)
        · cases hx; rw [upd_same]; simp
        · rw [upd_other _ _ hx, h.dn]
          have : ((e.obj == x) && (e.off == y)) = false := by
            rw [Bool.eq_false_iff]
            intro h2
            simp only [Bool.and_eq_true, beq_iff_eq] at h2
            exact hx (by rw [h2.1, h2.2])
          unfold RSt.isDone
          simp [this]
      · have := h.clen; dsimp only; omega
      · have := h.cbd d hd; dsimp only; omega
      · have := h.llen; dsimp only; omega
      · have := h.lbd d hd; dsimp only; omega
      · have := h.dlen; simp only [List.length_append, List.length_cons, List.length_nil]; omega
  rw [if_neg k12, if_neg k12]
  by_cases k13 : e.kind = 13
  · rw [if_pos k13, if_pos k13]
    cases hdo : r.isDone e.obj e.off with
    | true => rw [if_pos rfl]; exact ⟨rfl, same⟩
    | false => rw [if_neg (by decide)]; rfl
  rw [if_neg k13, if_neg k13]
  by_cases k14 : e.kind = 14
  · rw [if_pos k14, if_pos k14, h.gr]
    by_cases hk : e.k = t.gor
    · rw [if_neg (fun h => h hk)]
      refine ⟨beq_iff_eq.2 hk, by simp only [h.ct], ?_, h.ch, h.lk, h.dn, h.gp, h.go, h.bal, ?_, fun d hd => ?_, ?_, fun d hd => ?_, ?_⟩
      · rfl
      · have := h.clen; dsimp only; omega
      · have := h.cbd d hd; dsimp only; omega
      · have := h.llen; dsimp only; omega
      · have := h.lbd d hd; dsimp only; omega
      · have := h.dlen; dsimp only; omega
    · rw [if_pos hk]; exact beq_eq_false_iff_ne.2 hk
  rw [if_neg k14, if_neg k14]
  exact ⟨rfl, same⟩
end Go.Proofs.Ytohliamalaifhaa
end
section
set_option linter.unusedSimpArgs false
set_option linter.unusedVariables false
namespace Go.Proofs.Ytohliamalaifhaa
open Go

theorem fits_eq {r : RSt} {o : Grp} {w : RWt} {l : List RWt} {e : Ev} (hg : RelG (w :: l) o.kinds o.snd o.rcv) (h1 : o.obj = r.obj) (h2 : o.k = r.k) (h3 : o.n = r.n) : r.fits w e = o.fits e := by
  obtain ⟨kinds, ob, k, n, snd, rcv⟩ := o
  dsimp only at hg h1 h2 h3
  subst h1; subst h2; subst h3
  rw [Bool.eq_iff_iff]
  unfold RSt.fits Grp.fits Grp.own Grp.other sendsB
  cases hg <;> (by_cases hk : e.kind = 15 ∨ e.kind = 16) <;> simp [hk] <;> omega

theorem RelG.inv {w : RWt} {l : List RWt} {k : List Int} {a b : Int} (h : RelG (w :: l) k a b) :
    (w = ⟨16, a, 0⟩ ∧ l = [] ∧ k = [16] ∧ 0 ≤ a) ∨ (w = ⟨18, b, 0⟩ ∧ l = [] ∧ k = [18] ∧ 0 ≤ b) ∨ (w = ⟨17, -1, a⟩ ∧ l = [⟨18, -1, 0⟩, ⟨16, a, 0⟩] ∧ k = [17, 18, 16] ∧ 0 ≤ a) ∨
    (w = ⟨15, -1, b⟩ ∧ l = [⟨18, b, 0⟩, ⟨16, -1, 0⟩] ∧ k = [15, 18, 16] ∧ 0 ≤ b) ∨ (w = ⟨18, b, 0⟩ ∧ l = [⟨16, a, 0⟩] ∧ k = [18, 16] ∧ 0 ≤ a ∧ 0 ≤ b) := by
  cases h with
  | snd g b h => exact .inl ⟨rfl, rfl, rfl, h⟩
  | rcv a g h => exact .inr (.inl ⟨rfl, rfl, rfl, h⟩)
  | wait g h => exact .inr (.inr (.inl ⟨rfl, rfl, rfl, h⟩))
  | ask g h => exact .inr (.inr (.inr (.inl ⟨rfl, rfl, rfl, h⟩)))
  | both a b h k => exact .inr (.inr (.inr (.inr ⟨rfl, rfl, rfl, h, k⟩)))
theorem upd_id {κ : Type} [DecidableEq κ] {α : Type} {f : κ → Option α} {x : κ} {v : α} (h : f x = some v) : upd f x v = f := by
  funext y
  by_cases hy : y = x
  · subst hy; rw [upd_same, h]
  · rw [upd_other _ _ hy]
theorem TS.count_id {t : TS} {e : Ev} {c : Ch} (h : t.chans e.obj = some c) (h5 : e.kind ≠ 15) (h7 : e.kind ≠ 17) : t.count e = t := by
  unfold TS.count Ch.count
  rw [h, Option.getD_some, if_neg h5, if_neg h7, upd_id h]

theorem Rel.group {r : RSt} {t : TS} (h : Rel r t) (e : Ev) (hv : 0 ≤ e.g) (hc : 0 ≤ r.count) (hn : r.next ≠ []) : Ans (r.groupR e) (t.proceed e) := by
  obtain ⟨h1, h2, h3, h4⟩ := h.go hn
  obtain ⟨c, hc4⟩ := Option.isSome_iff_exists.1 h4
  have hgp := h.gp
  unfold RSt.groupR TS.proceed
  cases hnx : r.next with
  | nil => exact absurd hnx hn
  | cons w l =>
    rw [hnx] at hgp
    dsimp only
    rw [fits_eq hgp h1 h2 h3]
    cases hf : t.grp.fits e with
    | false => rw [if_neg (by decide), if_neg (by decide)]; rfl
    | true =>
      rw [if_pos rfl, if_pos rfl]
      have hfit := hf
      unfold Grp.fits at hfit
      simp only [Bool.and_eq_true, decide_eq_true_eq, Bool.not_eq_true', Bool.or_eq_false_iff, decide_eq_false_iff_not] at hfit
      obtain ⟨⟨f1, f2, f3, f4⟩, f5, f6⟩ := hfit
      have hbal := h.bal
      have hob : e.obj = r.obj := f2.trans h1
      have hc5 : t.chans e.obj = some c := by rw [hob]; exact hc4
      -- the channel of the group
      have hch : (r.channel e.obj e.n).conv = c ∧ (r.channel e.obj e.n).obj = e.obj := by
        have h5 := h.channel e
        unfold TS.chan at h5
        rw [hc5] at h5
        exact h5
      have hbd := h.channel_bd hc e.obj e.n
      generalize hd : r.channel e.obj e.n = d at hch hbd
      obtain ⟨hcd, hdo⟩ := hch
      refine ⟨rfl, ?_⟩
      dsimp only
      unfold RSt.counted
      rcases hgp.inv with ⟨rfl, rfl, hk, g0⟩ | ⟨rfl, rfl, hk, g0⟩ | ⟨rfl, rfl, hk, g0⟩ | ⟨rfl, rfl, hk, g0⟩ | ⟨rfl, rfl, hk, g0, g1⟩
      · have hek : e.kind = 16 := by rw [f1, hk]; rfl
        have hgn : t.grp.next e = { t.grp with kinds := [], snd := e.g } := by unfold Grp.next sendsB; rw [if_pos (by simp [hek]), hk]; rfl
        rw [if_neg (by omega), TS.count_id hc5 (by omega) (by omega), hgn]
        exact Rel.keep h [] _ (.none _ _) (fun h => absurd rfl h) (by rw [hk]; rfl)
      · have hek : e.kind = 18 := by rw [f1, hk]; rfl
        have hgn : t.grp.next e = { t.grp with kinds := [], rcv := e.g } := by unfold Grp.next sendsB; rw [if_neg (by simp [hek]), hk]; rfl
        rw [if_neg (by omega), TS.count_id hc5 (by omega) (by omega), hgn]
        exact Rel.keep h [] _ (.none _ _) (fun h => absurd rfl h) (by rw [hk]; rfl)
      · have hek : e.kind = 17 := by rw [f1, hk]; rfl
        have hgn : t.grp.next e = { t.grp with kinds := [18, 16], rcv := e.g } := by unfold Grp.next sendsB; rw [if_neg (by simp [hek]), hk]; rfl
        have hb := hbal _ _ hc4
        rw [if_pos rfl, hk] at hb
        rw [if_pos (.inr hek), hgn]
        have hb' : c.recv ≤ c.sent + (-1) := hb
        have := Rel.put h { d with recv := d.recv + 1 } (by dsimp only; omega) (by dsimp only; omega) [⟨18, e.g, 0⟩, ⟨16, t.grp.snd, 0⟩] r.obj r.k r.n { t.grp with kinds := [18, 16], rcv := e.g } (.both _ _ g0 hv)
          (fun _ => ⟨h1, h2, h3, by show r.obj = d.obj; rw [hdo, hob]⟩) (by rw [← hcd] at hb'; show d.recv + 1 ≤ d.sent + 0; unfold RCh.conv at hb'; dsimp only at hb'; omega)
          (fun x y hx hy => by have h6 := hbal x y hy; rw [if_neg (fun h7 => hx (by show x = d.obj; rw [h7, hdo, hob]))] at h6; omega)
        have hd2 : RSt.channel { r with next := List.map ((⟨17, -1, t.grp.snd⟩ : RWt).known e.g) [⟨18, -1, 0⟩, ⟨16, t.grp.snd, 0⟩] } e.obj e.n = d := hd
        have hnx2 : List.map ((⟨17, -1, t.grp.snd⟩ : RWt).known e.g) [⟨18, -1, 0⟩, ⟨16, t.grp.snd, 0⟩] = [⟨18, e.g, 0⟩, ⟨16, t.grp.snd, 0⟩] := by
          simp only [List.map_cons, List.map_nil, RWt.known]
          rw [if_pos (by decide), if_neg (fun h => by omega)]
        have ht : t.count e = { t with chans := upd t.chans d.obj ({ d with recv := d.recv + 1 } : RCh).conv } := by
          unfold TS.count Ch.count
          rw [hc5, hek, hdo, Option.getD_some, if_neg (by decide), if_pos rfl, ← hcd]; rfl
        rw [hd2, hnx2, ht]
        unfold RCh.count
        rw [if_neg (by omega), if_pos hek]
        exact this
      · have hek : e.kind = 15 := by rw [f1, hk]; rfl
        have hgn : t.grp.next e = { t.grp with kinds := [18, 16], snd := e.g } := by unfold Grp.next sendsB; rw [if_pos (by simp [hek]), hk]; rfl
        have hb := hbal _ _ hc4
        rw [if_pos rfl, hk] at hb
        rw [if_pos (.inl hek), hgn]
        have hb' : c.recv ≤ c.sent + 1 := hb
        have := Rel.put h { d with sent := d.sent + 1 } (by dsimp only; omega) (by dsimp only; omega) [⟨18, t.grp.rcv, 0⟩, ⟨16, e.g, 0⟩] r.obj r.k r.n { t.grp with kinds := [18, 16], snd := e.g } (.both _ _ hv g0)
          (fun _ => ⟨h1, h2, h3, by show r.obj = d.obj; rw [hdo, hob]⟩) (by rw [← hcd] at hb'; show d.recv ≤ d.sent + 1 + 0; unfold RCh.conv at hb'; dsimp only at hb'; omega)
          (fun x y hx hy => by have h6 := hbal x y hy; rw [if_neg (fun h7 => hx (by show x = d.obj; rw [h7, hdo, hob]))] at h6; omega)
        have hd2 : RSt.channel { r with next := List.map ((⟨15, -1, t.grp.rcv⟩ : RWt).known e.g) [⟨18, t.grp.rcv, 0⟩, ⟨16, -1, 0⟩] } e.obj e.n = d := hd
        have hnx2 : List.map ((⟨15, -1, t.grp.rcv⟩ : RWt).known e.g) [⟨18, t.grp.rcv, 0⟩, ⟨16, -1, 0⟩] = [⟨18, t.grp.rcv, 0⟩, ⟨16, e.g, 0⟩] := by
          simp only [List.map_cons, List.map_nil, RWt.known]
          rw [if_neg (fun h => by omega), if_pos (by decide)]
        have ht : t.count e = { t with chans := upd t.chans d.obj ({ d with sent := d.sent + 1 } : RCh).conv } := by
          unfold TS.count Ch.count
          rw [hc5, hek, hdo, Option.getD_some, if_pos rfl, ← hcd]; rfl
        rw [hd2, hnx2, ht]
        unfold RCh.count
        rw [if_pos hek]
        exact this
      · have hek : e.kind = 18 := by rw [f1, hk]; rfl
        have hgn : t.grp.next e = { t.grp with kinds := [16], rcv := e.g } := by unfold Grp.next sendsB; rw [if_neg (by simp [hek]), hk]; rfl
        rw [if_neg (by omega), TS.count_id hc5 (by omega) (by omega), hgn]
        have hnx2 : List.map ((⟨18, t.grp.rcv, 0⟩ : RWt).known e.g) [⟨16, t.grp.snd, 0⟩] = [⟨16, t.grp.snd, 0⟩] := by
          simp only [List.map_cons, List.map_nil, RWt.known]
          rw [if_neg (fun h => by omega)]
        rw [hnx2]
        exact Rel.keep h [⟨16, t.grp.snd, 0⟩] { t.grp with kinds := [16], rcv := e.g } (.snd _ _ g0) (fun _ => ⟨h1, h2, h3, h4⟩) (by rw [hk]; rfl)

theorem set_count (r : RSt) (c : RCh) : (r.setChannel c).count = r.count := rfl
theorem Rel.transfer {r : RSt} {t : TS} (h : Rel r t) (e : Ev) (hv : 0 ≤ e.g) (hc : 0 ≤ r.count) (hgor : 1 ≤ r.gor) (hn : r.next = []) : Ans (r.transferR e) (t.operate e) := by
  obtain ⟨hm, ho⟩ := h.channel e
  have hb := h.channel_bd hc e.obj e.n
  have hgr := h.gr
  have hbal : ∀ x c, t.chans x = some c → c.recv ≤ c.sent := fun x c hx => by
    have h1 := h.bal x c hx
    have h2 := h.gp.nil_asks hn
    rw [h2] at h1; split at h1 <;> omega
  have hbc : (r.channel e.obj e.n).recv ≤ (r.channel e.obj e.n).sent := by
    have h1 := hm
    unfold TS.chan at h1
    cases hc : t.chans e.obj with
    | none => rw [hc] at h1; have h2 := congrArg Ch.recv h1; have h3 := congrArg Ch.sent h1; dsimp only [RCh.conv, ch0] at h2 h3; omega
    | some c => rw [hc] at h1; have h4 := hbal _ _ hc; have h2 := congrArg Ch.recv h1; have h3 := congrArg Ch.sent h1; dsimp only [RCh.conv] at h2 h3; omega
  have hbegin : ∀ (nx : List RWt), RSt.begin r e nx = if e.kind = 15 ∨ e.kind = 17 then ({ r.setChannel ((r.channel e.obj e.n).count e.kind) with next := nx, obj := e.obj, k := e.k, n := e.n } : RSt) else { r with next := nx, obj := e.obj, k := e.k, n := e.n } := fun nx => by
    unfold RSt.begin RSt.counted; split <;> rfl
  unfold RSt.transferR TS.operate
  simp only [hbegin]
  rw [← hm]
  clear hm hbegin
  generalize r.channel e.obj e.n = d at ho hb hbc ⊢
  dsimp only [RCh.conv, Ch.missing, TS.start]
  have put : ∀ (c : RCh) (nx : List RWt) (o : Grp), c.obj = d.obj → (0 ≤ c.sent ∧ c.sent ≤ r.count + 1) → (0 ≤ c.recv ∧ c.recv ≤ r.count + 1) → RelG nx o.kinds o.snd o.rcv → (o.obj = e.obj ∧ o.k = e.k ∧ o.n = e.n) → c.recv ≤ c.sent + asks o.kinds →
      Rel { r.setChannel c with next := nx, obj := e.obj, k := e.k, n := e.n, count := r.count + 1 } { t with chans := upd t.chans e.obj c.conv, grp := o, events := t.events + 1 } := fun c nx o h1 h2 h3 h4 h5 h6 => by
    have := Rel.put h c h2 h3 nx e.obj e.k e.n o h4 (fun _ => ⟨h5.1, h5.2.1, h5.2.2, by rw [h1, ho]⟩) h6 (fun x y _ hy => hbal x y hy)
    rw [show c.obj = e.obj by rw [h1, ho]] at this
    exact this
  by_cases q1 : d.n = e.n
  case neg => simp only [q1, ne_eq, not_true_eq_false, not_false_eq_true, if_true, if_false, reduceIte, Int.reduceEq, true_or, or_true, false_or, or_false, or_self, true_and, and_true, false_and, and_false, and_self, Option.map_some, Option.map_none, Bool.false_eq_true, reduceCtorEq, decide_eq_false_iff_not, Bool.true_and, Bool.false_and, Bool.true_eq_false]; rfl
  simp only [q1, ne_eq, not_true_eq_false, not_false_eq_true, if_true, if_false, reduceIte, Int.reduceEq, true_or, or_true, false_or, or_false, or_self, true_and, and_true, false_and, and_false, and_self, Option.map_some, Option.map_none, Bool.false_eq_true, reduceCtorEq, decide_eq_false_iff_not, Bool.true_and, Bool.false_and, Bool.true_eq_false]
  by_cases k15 : e.kind = 15
  · simp only [k15, ne_eq, not_true_eq_false, not_false_eq_true, if_true, if_false, reduceIte, Int.reduceEq, true_or, or_true, false_or, or_false, or_self, true_and, and_true, false_and, and_false, and_self, Option.map_some, Option.map_none, Bool.false_eq_true, reduceCtorEq, decide_eq_false_iff_not, Bool.true_and, Bool.false_and, Bool.true_eq_false, RCh.count, Ch.count]
    by_cases q2 : e.k = d.sent
    case neg => simp only [q2, ne_eq, not_true_eq_false, not_false_eq_true, if_true, if_false, reduceIte, Int.reduceEq, true_or, or_true, false_or, or_false, or_self, true_and, and_true, false_and, and_false, and_self, Option.map_some, Option.map_none, Bool.false_eq_true, reduceCtorEq, decide_eq_false_iff_not, Bool.true_and, Bool.false_and, Bool.true_eq_false]; rfl
    simp only [q2, ne_eq, not_true_eq_false, not_false_eq_true, if_true, if_false, reduceIte, Int.reduceEq, true_or, or_true, false_or, or_false, or_self, true_and, and_true, false_and, and_false, and_self, Option.map_some, Option.map_none, Bool.false_eq_true, reduceCtorEq, decide_eq_false_iff_not, Bool.true_and, Bool.false_and, Bool.true_eq_false]
    cases q3 : d.closed with
    | true => simp only [ne_eq, not_true_eq_false, not_false_eq_true, if_true, if_false, reduceIte, Int.reduceEq, true_or, or_true, false_or, or_false, or_self, true_and, and_true, false_and, and_false, and_self, Option.map_some, Option.map_none, Bool.false_eq_true, reduceCtorEq, decide_eq_false_iff_not, Bool.true_and, Bool.false_and, Bool.true_eq_false]; rfl
    | false =>
      simp only [ne_eq, not_true_eq_false, not_false_eq_true, if_true, if_false, reduceIte, Int.reduceEq, true_or, or_true, false_or, or_false, or_self, true_and, and_true, false_and, and_false, and_self, Option.map_some, Option.map_none, Bool.false_eq_true, reduceCtorEq, decide_eq_false_iff_not, Bool.true_and, Bool.false_and, Bool.true_eq_false]
      by_cases q4 : d.sent - d.recv < e.n
      · rw [if_pos ⟨by omega, q4⟩, if_pos q4]
        refine ⟨rfl, ?_⟩
        have := put { d with sent := d.sent + 1 } [⟨16, e.g, 0⟩] ⟨[16], e.obj, e.k, e.n, e.g, -1⟩ rfl (by dsimp only; omega) (by dsimp only; omega) (.snd _ _ hv) ⟨rfl, rfl, rfl⟩ (by show d.recv ≤ d.sent + 1 + 0; omega)
        simpa only [RCh.conv, set_count, q1, q2, q3] using this
      · rw [if_neg (fun h => q4 h.2), if_neg q4]
        by_cases q5 : e.n = 0 ∧ ¬ t.gor = 1
        · rw [if_pos ⟨q5.1, by omega⟩, if_pos q5]
          refine ⟨rfl, ?_⟩
          have := put { d with sent := d.sent + 1 } [⟨17, -1, e.g⟩, ⟨18, -1, 0⟩, ⟨16, e.g, 0⟩] ⟨[17, 18, 16], e.obj, e.k, e.n, e.g, -1⟩ rfl (by dsimp only; omega) (by dsimp only; omega) (.wait _ hv) ⟨rfl, rfl, rfl⟩ (by show d.recv ≤ d.sent + 1 + (-1); omega)
          simpa only [RCh.conv, set_count, q1, q2, q3] using this
        · rw [if_neg (fun h => q5 ⟨h.1, by omega⟩), if_neg q5]; rfl
  simp only [k15, ne_eq, not_true_eq_false, not_false_eq_true, if_true, if_false, reduceIte, Int.reduceEq, true_or, or_true, false_or, or_false, or_self, true_and, and_true, false_and, and_false, and_self, Option.map_some, Option.map_none, Bool.false_eq_true, reduceCtorEq, decide_eq_false_iff_not, Bool.true_and, Bool.false_and, Bool.true_eq_false]
  by_cases k17 : e.kind = 17
  · simp only [k17, ne_eq, not_true_eq_false, not_false_eq_true, if_true, if_false, reduceIte, Int.reduceEq, true_or, or_true, false_or, or_false, or_self, true_and, and_true, false_and, and_false, and_self, Option.map_some, Option.map_none, Bool.false_eq_true, reduceCtorEq, decide_eq_false_iff_not, Bool.true_and, Bool.false_and, Bool.true_eq_false, RCh.count, Ch.count]
    by_cases q2 : e.k = d.recv
    case neg => simp only [q2, ne_eq, not_true_eq_false, not_false_eq_true, if_true, if_false, reduceIte, Int.reduceEq, true_or, or_true, false_or, or_false, or_self, true_and, and_true, false_and, and_false, and_self, Option.map_some, Option.map_none, Bool.false_eq_true, reduceCtorEq, decide_eq_false_iff_not, Bool.true_and, Bool.false_and, Bool.true_eq_false]; rfl
    simp only [q2, ne_eq, not_true_eq_false, not_false_eq_true, if_true, if_false, reduceIte, Int.reduceEq, true_or, or_true, false_or, or_false, or_self, true_and, and_true, false_and, and_false, and_self, Option.map_some, Option.map_none, Bool.false_eq_true, reduceCtorEq, decide_eq_false_iff_not, Bool.true_and, Bool.false_and, Bool.true_eq_false]
    by_cases q4 : d.recv < d.sent
    · rw [if_pos q4, if_pos q4]
      refine ⟨rfl, ?_⟩
      have := put { d with recv := d.recv + 1 } [⟨18, e.g, 0⟩] ⟨[18], e.obj, e.k, e.n, -1, e.g⟩ rfl (by dsimp only; omega) (by dsimp only; omega) (.rcv _ _ hv) ⟨rfl, rfl, rfl⟩ (by show d.recv + 1 ≤ d.sent + 0; omega)
      simpa only [RCh.conv, set_count, q1, q2] using this
    · rw [if_neg q4, if_neg q4]
      by_cases q5 : d.closed = false ∧ ¬ t.gor = 1
      · rw [if_pos ⟨q5.1, by omega⟩, if_pos q5]
        refine ⟨rfl, ?_⟩
        have := put { d with recv := d.recv + 1 } [⟨15, -1, e.g⟩, ⟨18, e.g, 0⟩, ⟨16, -1, 0⟩] ⟨[15, 18, 16], e.obj, e.k, e.n, -1, e.g⟩ rfl (by dsimp only; omega) (by dsimp only; omega) (.ask _ hv) ⟨rfl, rfl, rfl⟩ (by show d.recv + 1 ≤ d.sent + 1; omega)
        simpa only [RCh.conv, set_count, q1, q2] using this
      · rw [if_neg (fun h => q5 ⟨h.1, by omega⟩), if_neg q5]; rfl
  simp only [k17, ne_eq, not_true_eq_false, not_false_eq_true, if_true, if_false, reduceIte, Int.reduceEq, true_or, or_true, false_or, or_false, or_self, true_and, and_true, false_and, and_false, and_self, Option.map_some, Option.map_none, Bool.false_eq_true, reduceCtorEq, decide_eq_false_iff_not, Bool.true_and, Bool.false_and, Bool.true_eq_false]
  by_cases k19 : e.kind = 19
  · simp only [k19, ne_eq, not_true_eq_false, not_false_eq_true, if_true, if_false, reduceIte, Int.reduceEq, true_or, or_true, false_or, or_false, or_self, true_and, and_true, false_and, and_false, and_self, Option.map_some, Option.map_none, Bool.false_eq_true, reduceCtorEq, decide_eq_false_iff_not, Bool.true_and, Bool.false_and, Bool.true_eq_false]
    cases q3 : d.closed with
    | true => simp only [ne_eq, not_true_eq_false, not_false_eq_true, if_true, if_false, reduceIte, Int.reduceEq, true_or, or_true, false_or, or_false, or_self, true_and, and_true, false_and, and_false, and_self, Option.map_some, Option.map_none, Bool.false_eq_true, reduceCtorEq, decide_eq_false_iff_not, Bool.true_and, Bool.false_and, Bool.true_eq_false]; rfl
    | false =>
      simp only [ne_eq, not_true_eq_false, not_false_eq_true, if_true, if_false, reduceIte, Int.reduceEq, true_or, or_true, false_or, or_false, or_self, true_and, and_true, false_and, and_false, and_self, Option.map_some, Option.map_none, Bool.false_eq_true, reduceCtorEq, decide_eq_false_iff_not, Bool.true_and, Bool.false_and, Bool.true_eq_false]
      refine ⟨rfl, ?_⟩
      have h1 := Rel.put h { d with closed := true } (by dsimp only; omega) (by dsimp only; omega) r.next r.obj r.k r.n t.grp h.gp (fun h2 => absurd hn h2) (by rw [h.gp.nil_asks hn]; dsimp only; omega) (fun x y _ hy => hbal x y hy)
      simp only [RCh.conv, q1, ho] at h1
      rw [← q1, ho]
      rw [← q1] at h1
      exact h1
  simp only [k19, ne_eq, not_true_eq_false, not_false_eq_true, if_true, if_false, reduceIte, Int.reduceEq, true_or, or_true, false_or, or_false, or_self, true_and, and_true, false_and, and_false, and_self, Option.map_some, Option.map_none, Bool.false_eq_true, reduceCtorEq, decide_eq_false_iff_not, Bool.true_and, Bool.false_and, Bool.true_eq_false]
  by_cases k20 : e.kind = 20
  · simp only [k20, ne_eq, not_true_eq_false, not_false_eq_true, if_true, if_false, reduceIte, Int.reduceEq, true_or, or_true, false_or, or_false, or_self, true_and, and_true, false_and, and_false, and_self, Option.map_some, Option.map_none, Bool.false_eq_true, reduceCtorEq, decide_eq_false_iff_not, Bool.true_and, Bool.false_and, Bool.true_eq_false]
    show Ans (r, d.closed && d.sent == d.recv) (if d.closed = true ∧ d.sent = d.recv then some t else none)
    by_cases q4 : d.closed = true ∧ d.sent = d.recv
    · rw [if_pos q4]
      refine ⟨?_, Rel.keep h r.next t.grp h.gp h.go rfl⟩
      dsimp only
      rw [q4.1, beq_iff_eq.2 q4.2]; rfl
    · rw [if_neg q4]
      show (d.closed && d.sent == d.recv) = false
      rw [Bool.eq_false_iff]
      intro h1
      simp only [Bool.and_eq_true, beq_iff_eq] at h1
      exact q4 h1
  simp only [k20, ne_eq, not_true_eq_false, not_false_eq_true, if_true, if_false, reduceIte, Int.reduceEq, true_or, or_true, false_or, or_false, or_self, true_and, and_true, false_and, and_false, and_self, Option.map_some, Option.map_none, Bool.false_eq_true, reduceCtorEq, decide_eq_false_iff_not, Bool.true_and, Bool.false_and, Bool.true_eq_false]
  rfl

theorem Rel.step {r : RSt} {t : TS} (h : Rel r t) (hw : t.wf) (e : Ev) : match t.add e with
    | some t' => ∃ r', r.addR e = (r', true) ∧ Rel r' t'
    | none => r.addR e = (r, false) := by
  have had : r.admits e = t.admits e := by unfold RSt.admits TS.admits; rw [h.ct, h.gr]
  unfold TS.add RSt.addR
  rw [had]
  cases ha : t.admits e with
  | false => simp
  | true =>
    have hv : e.valid = true := by unfold TS.admits at ha; simp only [Bool.and_eq_true] at ha; exact ha.1.1
    have hg := (Ev.valid_g hv).1
    have hc : 0 ≤ r.count := by rw [h.ct]; exact hw.ev.1
    have hgr : 1 ≤ r.gor := by rw [h.gr]; exact hw.gr.1
    have hans : Ans (r.partR e) (t.part e) := by
      have hk := h.gp.kinds
      by_cases hn : r.next = []
      · have h1 : r.partR e = if chanB e.kind = true then r.transferR e else r.otherR e := by unfold RSt.partR; rw [hn]; exact if_neg (Nat.lt_irrefl 0)
        have h2 : t.part e = if chanB e.kind = true then t.operate e else t.simple e := by unfold TS.part TS.isOpen; rw [hk, hn]; exact if_neg (by simp)
        rw [h1, h2]
        by_cases hch : chanB e.kind = true
        · rw [if_pos hch, if_pos hch]; exact h.transfer e hg hc hgr hn
        · rw [if_neg hch, if_neg hch]; exact h.other hc e hn
      · have hpos : 0 < r.next.length := List.length_pos_iff.2 hn
        have h1 : r.partR e = r.groupR e := by unfold RSt.partR; exact if_pos hpos
        have h2 : t.part e = t.proceed e := by unfold TS.part TS.isOpen; rw [hk, List.length_map]; exact if_pos (decide_eq_true hpos)
        rw [h1, h2]
        exact h.group e hg hc hn
    rw [if_pos rfl]
    unfold Ans at hans
    cases hp : t.part e with
    | none =>
      rw [hp] at hans
      rw [if_neg (by rw [hans]; simp)]
      rfl
    | some t' =>
      rw [hp] at hans
      rw [if_pos ⟨rfl, hans.1⟩]
      exact ⟨_, rfl, hans.2⟩
end Go.Proofs.Ytohliamalaifhaa
end
section
set_option linter.unusedSimpArgs false
set_option linter.unusedVariables false
namespace Go.Proofs.Ytohliamalaifhaa
open Go

theorem steps_rel {r : RSt} {s t : TS} (hr : Rel r s) (hw : s.wf) {l : List Ev} (h : s.steps l = some t) : ∃ r', Rel r' t := by
  induction l generalizing r s with
  | nil => simp [TS.steps] at h; subst h; exact ⟨r, hr⟩
  | cons e l ih =>
    simp only [TS.steps, Option.bind_eq_some_iff] at h
    obtain ⟨u, hu, hs⟩ := h
    have := hr.step hw e
    rw [hu] at this
    obtain ⟨r', _, h2⟩ := this
    exact ih h2 (TS.add_wf hw hu) hs
/-- the kinds that an open group waits for -/
def TS.kok (t : TS) : Prop := t.isOpen = true → 15 ≤ t.grp.kinds.headD 0 ∧ t.grp.kinds.headD 0 ≤ 18
theorem Rel.kok {r : RSt} {t : TS} (h : Rel r t) : t.kok := fun ho => by
  have hg := h.gp
  unfold TS.isOpen at ho
  generalize r.next = nx at hg
  generalize t.grp.snd = sa at hg
  generalize t.grp.rcv = sb at hg
  generalize t.grp.kinds = ks at hg ho ⊢
  cases hg <;> simp at ho ⊢

/-- where an event that is possible comes from -/
theorem add_cases {t u : TS} {e : Ev} (h : t.add e = some u) : e.valid = true ∧ ∃ v, { v with events := v.events + 1 } = u ∧ ((t.isOpen = true ∧ t.proceed e = some v) ∨ (t.isOpen = false ∧ chanB e.kind = true ∧ t.operate e = some v) ∨ (t.isOpen = false ∧ chanB e.kind = false ∧ t.simple e = some v)) := by
  unfold TS.add at h
  split at h
  · rename_i ha
    simp only [Option.map_eq_some_iff] at h
    obtain ⟨v, hv, rfl⟩ := h
    unfold TS.admits at ha
    simp only [Bool.and_eq_true] at ha
    refine ⟨ha.1.1, v, rfl, ?_⟩
    unfold TS.part at hv
    split at hv
    · rename_i ho; exact .inl ⟨ho, hv⟩
    · rename_i ho
      have ho : t.isOpen = false := by simpa using ho
      split at hv
      · rename_i hc; exact .inr (.inl ⟨ho, hc, hv⟩)
      · rename_i hc; exact .inr (.inr ⟨ho, by simpa using hc, hv⟩)
  · cases h
theorem proceed_eq {t v : TS} {e : Ev} (h : t.proceed e = some v) : t.grp.fits e = true ∧ v = { t.count e with grp := t.grp.next e } := by
  unfold TS.proceed at h
  split at h
  · rename_i hf; cases h; exact ⟨hf, rfl⟩
  · cases h
theorem operate_mus {t v : TS} {e : Ev} (h : t.operate e = some v) : v.mus = t.mus := by
  unfold TS.operate at h
  dsimp only at h
  repeat' split at h
  all_goals first
    | (cases h; done)
    | (cases h; rfl)
    | (simp only [Option.map_eq_some_iff] at h; obtain ⟨ks, _, rfl⟩ := h; rfl)
def TS.locked (t : TS) (x : Int × Int) : Bool := ((t.mus x).getD mu0).locked
/-- a locked mutex stays so up to its unlock, and is not locked again -/
theorem locked_keep {t u : TS} {e : Ev} (hk : t.kok) (h : t.add e = some u) {x : Int × Int} (hl : t.locked x = true) :
    ((e.obj, e.off) = x ∧ e.kind = 7) ∨ (u.locked x = true ∧ ((e.obj, e.off) = x → e.kind ≠ 6 ∧ e.kind ≠ 8)) := by
  obtain ⟨_, v, rfl, hv⟩ := add_cases h
  rcases hv with ⟨ho, hv⟩ | ⟨ho, hc, hv⟩ | ⟨ho, hc, hv⟩
  · obtain ⟨hf, rfl⟩ := proceed_eq hv
    have hkk := hk ho
    unfold Grp.fits at hf
    simp only [Bool.and_eq_true, decide_eq_true_eq] at hf
    exact .inr ⟨hl, fun _ => by have := hf.1.1; omega⟩
  · have := operate_mus hv
    unfold chanB at hc
    simp only [decide_eq_true_eq] at hc
    exact .inr ⟨by unfold TS.locked at hl ⊢; dsimp only; rw [this]; exact hl, fun _ => by omega⟩
  · by_cases hx : (e.obj, e.off) = x
    · subst hx
      have hm : (t.mu e).locked = true := hl
      unfold TS.simple at hv
      dsimp only at hv
      by_cases k6 : e.kind = 6
      · rw [if_pos k6, if_pos (.inl hm)] at hv; cases hv
      rw [if_neg k6] at hv
      by_cases k7 : e.kind = 7
      · exact .inl ⟨rfl, k7⟩
      rw [if_neg k7] at hv
      by_cases k8 : e.kind = 8
      · rw [if_pos k8, if_pos hm] at hv; cases hv
      rw [if_neg k8] at hv
      refine .inr ⟨?_, fun _ => ⟨k6, k8⟩⟩
      by_cases k9 : e.kind = 9
      · rw [if_pos k9] at hv
        split at hv
        · cases hv
        · cases hv
          unfold TS.locked
          dsimp only
          rw [upd_same]; exact hm
      rw [if_neg k9] at hv
      repeat' split at hv
      all_goals first
        | (cases hv; done)
        | (cases hv; exact hl)
    · refine .inr ⟨?_, fun h => absurd h hx⟩
      have hne : x ≠ (e.obj, e.off) := fun h => hx h.symm
      unfold TS.simple at hv
      dsimp only at hv
      unfold TS.locked at hl ⊢
      repeat' split at hv
      all_goals first
        | (cases hv; done)
        | (cases hv; dsimp only; rw [upd_other _ _ hne]; exact hl)
        | (cases hv; exact hl)
theorem lock_locks {t u : TS} {e : Ev} (hk : t.kok) (h : t.add e = some u) (h6 : e.kind = 6) : u.locked (e.obj, e.off) = true := by
  obtain ⟨_, v, rfl, hv⟩ := add_cases h
  rcases hv with ⟨ho, hv⟩ | ⟨ho, hc, hv⟩ | ⟨ho, hc, hv⟩
  · obtain ⟨hf, rfl⟩ := proceed_eq hv
    have hkk := hk ho
    unfold Grp.fits at hf
    simp only [Bool.and_eq_true, decide_eq_true_eq] at hf
    have := hf.1.1; omega
  · unfold chanB at hc
    simp only [decide_eq_true_eq] at hc; omega
  · unfold TS.simple at hv
    dsimp only at hv
    rw [if_pos h6] at hv
    split at hv
    · cases hv
    · cases hv
      unfold TS.locked
      dsimp only
      rw [upd_same]; rfl
/-- the scan behind a lock -/
def exclIn (x y : Int) : List Ev → Bool
  | [] => true
  | b :: bs => if b.obj ≠ x then exclIn x y bs else if b.off ≠ y then exclIn x y bs else if b.kind = 6 ∨ b.kind = 8 then false else if b.kind = 7 then true else exclIn x y bs
theorem excl_rest {r : RSt} {t u : TS} (hr : Rel r t) (hw : t.wf) {x y : Int} (hl : t.locked (x, y) = true) {l : List Ev} (h : t.steps l = some u) : exclIn x y l = true := by
  induction l generalizing r t with
  | nil => rfl
  | cons e l ih =>
    simp only [TS.steps, Option.bind_eq_some_iff] at h
    obtain ⟨v, hv, hs⟩ := h
    have hst := hr.step hw e
    rw [hv] at hst
    obtain ⟨r', _, hr'⟩ := hst
    have hkeep := locked_keep hr.kok hv hl
    simp only [exclIn]
    by_cases ho : e.obj = x
    · by_cases hf : e.off = y
      · rw [if_neg (by omega), if_neg (by omega)]
        rcases hkeep with ⟨_, h7⟩ | ⟨hl', hn⟩
        · rw [if_neg (by omega), if_pos h7]
        · have := hn (by rw [ho, hf])
          rw [if_neg (by omega)]
          split
          · rfl
          · exact ih hr' (TS.add_wf hw hv) hl' hs
      · rw [if_neg (by omega), if_pos hf]
        rcases hkeep with ⟨hh, _⟩ | ⟨hl', _⟩
        · simp only [Prod.mk.injEq] at hh; exact absurd hh.2 hf
        · exact ih hr' (TS.add_wf hw hv) hl' hs
    · rw [if_pos ho]
      rcases hkeep with ⟨hh, _⟩ | ⟨hl', _⟩
      · simp only [Prod.mk.injEq] at hh; exact absurd hh.1 ho
      · exact ih hr' (TS.add_wf hw hv) hl' hs
theorem excl_valid {l : List Ev} (hc : chk l = l.length) {i : Nat} {a : Ev} (ha : l[i]? = some a) (h6 : a.kind = 6) : exclIn a.obj a.off (l.drop (i + 1)) = true := by
  obtain ⟨u, hu⟩ := TS.chk_steps TS.new l (Nat.le_refl _)
  unfold chk at hc
  rw [hc, List.take_length] at hu
  obtain ⟨hi, hai⟩ := List.getElem?_eq_some_iff.1 ha
  have hsplit : l = l.take i ++ (a :: l.drop (i + 1)) := by rw [← hai, ← List.drop_eq_getElem_cons hi, List.take_append_drop]
  rw [hsplit, TS.steps_append, Option.bind_eq_some_iff] at hu
  obtain ⟨t, ht, hu⟩ := hu
  simp only [TS.steps, Option.bind_eq_some_iff] at hu
  obtain ⟨v, hv, hu⟩ := hu
  obtain ⟨r, hr⟩ := steps_rel Rel.new TS.wf_new ht
  have hw := TS.steps_wf TS.wf_new ht
  have hst := hr.step hw a
  rw [hv] at hst
  obtain ⟨r', _, hr'⟩ := hst
  exact excl_rest hr' (TS.add_wf hw hv) (lock_locks hr.kok hv h6) hu
end Go.Proofs.Ytohliamalaifhaa
end
section
set_option linter.unusedSimpArgs false
set_option linter.unusedVariables false
namespace Go.Proofs.Ytohliamalaifhaa
open Go

def TS.w15 (t : TS) (x : Int) : Int := if x = t.grp.obj ∧ t.grp.kinds.headD 0 = 15 then 1 else 0
def TS.w17 (t : TS) (x : Int) : Int := if x = t.grp.obj ∧ t.grp.kinds.headD 0 = 17 then 1 else 0
structure TBal (t : TS) : Prop where
  a : ∀ x c, t.chans x = some c → c.sent + t.w15 x ≤ c.recv + c.cap + t.w17 x
  b : ∀ x c, t.chans x = some c → c.recv + t.w17 x ≤ c.sent + t.w15 x
  op : t.isOpen = true → ∃ c, t.chans t.grp.obj = some c ∧ c.cap = t.grp.n
theorem TBal.new : TBal TS.new := ⟨fun _ _ h => (by cases h), fun _ _ h => (by cases h), fun h => (by cases h)⟩
def TS.sentOf (t : TS) (x : Int) : Int := ((t.chans x).getD ch0).sent
def TS.recvOf (t : TS) (x : Int) : Int := ((t.chans x).getD ch0).recv
structure TCnt (t u : TS) (e : Ev) : Prop where
  s : ∀ x, u.sentOf x = t.sentOf x + if e.obj = x ∧ e.kind = 15 then 1 else 0
  r : ∀ x, u.recvOf x = t.recvOf x + if e.obj = x ∧ e.kind = 17 then 1 else 0
theorem count_sent (c : Ch) (k : Int) : (c.count k).sent = c.sent + if k = 15 then 1 else 0 := by
  unfold Ch.count; split
  · rfl
  · split <;> simp
theorem count_recv (c : Ch) (k : Int) : (c.count k).recv = c.recv + if k = 17 then 1 else 0 := by
  unfold Ch.count; split
  · rename_i h; rw [if_neg (by omega)]; simp
  · split
    · rfl
    · simp
theorem count_cap (c : Ch) (k : Int) : (c.count k).cap = c.cap := by
  unfold Ch.count; split
  · rfl
  · split <;> rfl
/-- the counts when the channel of the event is counted -/
theorem cnt_upd {t : TS} {e : Ev} {c : Ch} (hs : c.sent = t.sentOf e.obj) (hr : c.recv = t.recvOf e.obj) {v : TS} (hv : v.chans = upd t.chans e.obj (c.count e.kind)) : TCnt t v e := by
  refine ⟨fun x => ?_, fun x => ?_⟩
  · unfold TS.sentOf; rw [hv]
    by_cases hx : x = e.obj
    · subst hx; rw [upd_same]; simp only [Option.getD_some]; rw [count_sent, hs]; unfold TS.sentOf; simp
    · rw [upd_other _ _ hx, if_neg (fun h => hx h.1.symm)]; simp
  · unfold TS.recvOf; rw [hv]
    by_cases hx : x = e.obj
    · subst hx; rw [upd_same]; simp only [Option.getD_some]; rw [count_recv, hr]; unfold TS.recvOf; simp
    · rw [upd_other _ _ hx, if_neg (fun h => hx h.1.symm)]; simp
theorem cnt_same {t v : TS} {e : Ev} (h5 : e.kind ≠ 15) (h7 : e.kind ≠ 17) (hs : ∀ x, v.sentOf x = t.sentOf x) (hr : ∀ x, v.recvOf x = t.recvOf x) : TCnt t v e :=
  ⟨fun x => by rw [hs, if_neg (fun h => h5 h.2)]; simp, fun x => by rw [hr, if_neg (fun h => h7 h.2)]; simp⟩
theorem chan_sent {t : TS} (e : Ev) : (t.chan e).sent = t.sentOf e.obj ∧ (t.chan e).recv = t.recvOf e.obj := by
  unfold TS.chan TS.sentOf TS.recvOf
  cases t.chans e.obj with
  | none => exact ⟨rfl, rfl⟩
  | some c => exact ⟨rfl, rfl⟩
theorem closed_w {r : RSt} {t : TS} (h : Rel r t) (ho : t.isOpen = false) (x : Int) : t.w15 x = 0 ∧ t.w17 x = 0 := by
  have hk : t.grp.kinds = [] := by
    unfold TS.isOpen at ho
    cases hk : t.grp.kinds with
    | nil => rfl
    | cons a l => rw [hk] at ho; simp at ho
  unfold TS.w15 TS.w17
  rw [hk]
  exact ⟨if_neg (fun h => by simp at h), if_neg (fun h => by simp at h)⟩
/-- what is known of the channel of an event of a closed group -/
theorem chan_bal {r : RSt} {t : TS} (h : Rel r t) (hb : TBal t) (ho : t.isOpen = false) {e : Ev} (hn : 0 ≤ e.n) : (t.chan e).sent ≤ (t.chan e).recv + (t.chan e).cap ∧ (t.chan e).recv ≤ (t.chan e).sent := by
  unfold TS.chan
  cases hc : t.chans e.obj with
  | none => exact ⟨by show (0 : Int) ≤ 0 + e.n; omega, Int.le_refl _⟩
  | some c =>
    have h1 := hb.a _ _ hc
    have h2 := hb.b _ _ hc
    obtain ⟨w1, w2⟩ := closed_w h ho e.obj
    rw [w1, w2] at h1 h2
    dsimp only
    exact ⟨by omega, by omega⟩
/-- a channel put at the place of an event; the others stay -/
theorem bal_put {r : RSt} {t : TS} (h : Rel r t) (hb : TBal t) (ho : t.isOpen = false) {e : Ev} {c : Ch} {v : TS} (hv : v.chans = upd t.chans e.obj c) (hw : ∀ x, x ≠ e.obj → v.w15 x = 0 ∧ v.w17 x = 0)
    (ha : c.sent + v.w15 e.obj ≤ c.recv + c.cap + v.w17 e.obj) (hbb : c.recv + v.w17 e.obj ≤ c.sent + v.w15 e.obj) (hop : v.isOpen = true → v.grp.obj = e.obj ∧ c.cap = v.grp.n) : TBal v := by
  have oth : ∀ x d, x ≠ e.obj → v.chans x = some d → d.sent ≤ d.recv + d.cap ∧ d.recv ≤ d.sent := fun x d hx hd => by
    rw [hv, upd_other _ _ hx] at hd
    have h1 := hb.a _ _ hd
    have h2 := hb.b _ _ hd
    obtain ⟨w1, w2⟩ := closed_w h ho x
    rw [w1, w2] at h1 h2
    exact ⟨by omega, by omega⟩
  refine ⟨fun x d hd => ?_, fun x d hd => ?_, fun ho' => ?_⟩
  · by_cases hx : x = e.obj
    · subst hx; rw [hv, upd_same] at hd; cases hd; exact ha
    · obtain ⟨w1, w2⟩ := hw x hx
      have := oth x d hx hd; omega
  · by_cases hx : x = e.obj
    · subst hx; rw [hv, upd_same] at hd; cases hd; exact hbb
    · obtain ⟨w1, w2⟩ := hw x hx
      have := oth x d hx hd; omega
  · obtain ⟨h1, h2⟩ := hop ho'
    exact ⟨c, by rw [h1, hv, upd_same], h2⟩
theorem bal_operate {r : RSt} {t : TS} (h : Rel r t) (hb : TBal t) (ho : t.isOpen = false) {e : Ev} (hn : 0 ≤ e.n) {v : TS} (hv : t.operate e = some v) : TBal v ∧ TCnt t v e ∧ ∃ c, v.chans e.obj = some c ∧ c.cap = e.n := by
  have hcb := chan_bal h hb ho hn
  obtain ⟨hs, hr⟩ := chan_sent (t := t) e
  unfold TS.operate at hv
  dsimp only at hv
  split at hv
  · cases hv
  rename_i hcap
  have hcap : (t.chan e).cap = e.n := by simpa using hcap
  have hstart : ∀ ks a b, (ks.headD 0 = 15 ∨ ks.headD 0 = 17 ∨ (ks.headD 0 ≠ 15 ∧ ks.headD 0 ≠ 17)) → v = t.start e (t.chan e) ks a b →
      ((t.chan e).count e.kind).sent + (if ks.headD 0 = 15 then 1 else 0) ≤ ((t.chan e).count e.kind).recv + (t.chan e).cap + (if ks.headD 0 = 17 then 1 else 0) →
      ((t.chan e).count e.kind).recv + (if ks.headD 0 = 17 then 1 else 0) ≤ ((t.chan e).count e.kind).sent + (if ks.headD 0 = 15 then 1 else 0) → TBal v ∧ TCnt t v e ∧ ∃ c, v.chans e.obj = some c ∧ c.cap = e.n := fun ks a b _ hve h1 h2 => by
    subst hve
    have w1 : (t.start e (t.chan e) ks a b).w15 e.obj = if ks.headD 0 = 15 then 1 else 0 := by
      show (if e.obj = e.obj ∧ ks.headD 0 = 15 then (1 : Int) else 0) = _
      simp
    have w2 : (t.start e (t.chan e) ks a b).w17 e.obj = if ks.headD 0 = 17 then 1 else 0 := by
      show (if e.obj = e.obj ∧ ks.headD 0 = 17 then (1 : Int) else 0) = _
      simp
    refine ⟨bal_put (e := e) h hb ho rfl (fun x hx => ⟨if_neg (fun hh => hx hh.1), if_neg (fun hh => hx hh.1)⟩) (by rw [w1, w2, count_cap]; exact h1) (by rw [w1, w2]; exact h2) (fun _ => ⟨rfl, by rw [count_cap]; exact hcap⟩), cnt_upd hs hr rfl, _, upd_same _ _ _, by rw [count_cap]; exact hcap⟩
  split at hv
  · rename_i k19
    split at hv
    · cases hv
    · cases hv
      refine ⟨bal_put (e := e) (c := { t.chan e with closed := true }) h hb ho rfl (fun x _ => closed_w h ho x) ?_ ?_ (fun ho' => absurd (show t.isOpen = true from ho') (by rw [ho]; decide)), cnt_same (by omega) (by omega) (fun x => ?_) (fun x => ?_), _, upd_same _ _ _, hcap⟩
      · have := closed_w h ho e.obj
        show (t.chan e).sent + t.w15 e.obj ≤ (t.chan e).recv + (t.chan e).cap + t.w17 e.obj
        omega
      · have := closed_w h ho e.obj
        show (t.chan e).recv + t.w17 e.obj ≤ (t.chan e).sent + t.w15 e.obj
        omega
      · unfold TS.sentOf
        dsimp only
        by_cases hx : x = e.obj
        · subst hx; rw [upd_same]; exact hs
        · rw [upd_other _ _ hx]
      · unfold TS.recvOf
        dsimp only
        by_cases hx : x = e.obj
        · subst hx; rw [upd_same]; exact hr
        · rw [upd_other _ _ hx]
  · split at hv
    · rename_i k20
      split at hv
      · rename_i hcl
        cases hv
        refine ⟨hb, cnt_same (by omega) (by omega) (fun _ => rfl) (fun _ => rfl), ?_⟩
        cases hc : t.chans e.obj with
        | none => unfold TS.chan at hcl; rw [hc] at hcl; cases hcl.1
        | some c => exact ⟨c, rfl, by unfold TS.chan at hcap; rw [hc] at hcap; exact hcap⟩
      · cases hv
    · split at hv
      · rename_i k15
        split at hv
        · cases hv
        · simp only [Option.map_eq_some_iff] at hv
          obtain ⟨ks, hm, rfl⟩ := hv
          unfold Ch.missing at hm
          rw [if_pos rfl] at hm
          split at hm
          · rename_i hlt
            cases hm
            exact hstart _ _ _ (by decide) rfl (by rw [count_sent, count_recv]; simp [k15]; omega) (by rw [count_sent, count_recv]; simp [k15]; omega)
          · split at hm
            · rename_i hc0
              cases hm
              exact hstart _ _ _ (by decide) rfl (by rw [count_sent, count_recv]; simp [k15]; omega) (by rw [count_sent, count_recv]; simp [k15]; omega)
            · cases hm
      · split at hv
        · rename_i k17
          split at hv
          · cases hv
          · simp only [Option.map_eq_some_iff] at hv
            obtain ⟨ks, hm, rfl⟩ := hv
            unfold Ch.missing at hm
            rw [if_neg (by decide)] at hm
            split at hm
            · rename_i hlt
              cases hm
              exact hstart _ _ _ (by decide) rfl (by rw [count_sent, count_recv]; simp [k17]; omega) (by rw [count_sent, count_recv]; simp [k17]; omega)
            · split at hm
              · cases hm
                exact hstart _ _ _ (by decide) rfl (by rw [count_sent, count_recv]; simp [k17]; omega) (by rw [count_sent, count_recv]; simp [k17]; omega)
              · cases hm
        · cases hv
theorem bal_simple {t : TS} (hb : TBal t) {e : Ev} (hk : chanB e.kind = false) {v : TS} (hv : t.simple e = some v) : TBal v ∧ TCnt t v e := by
  have hk' : e.kind ≠ 15 ∧ e.kind ≠ 17 := by
    unfold chanB at hk
    simp only [decide_eq_false_iff_not] at hk
    omega
  have h : v.chans = t.chans ∧ v.grp = t.grp := by
    unfold TS.simple at hv
    dsimp only at hv
    repeat' split at hv
    all_goals first
      | (cases hv; done)
      | (cases hv; exact ⟨rfl, rfl⟩)
  obtain ⟨h1, h2⟩ := h
  have w15 : ∀ x, v.w15 x = t.w15 x := fun x => by unfold TS.w15; rw [h2]
  have w17 : ∀ x, v.w17 x = t.w17 x := fun x => by unfold TS.w17; rw [h2]
  refine ⟨⟨fun x c hc => ?_, fun x c hc => ?_, fun ho => ?_⟩, cnt_same hk'.1 hk'.2 (fun x => by unfold TS.sentOf; rw [h1]) (fun x => by unfold TS.recvOf; rw [h1])⟩
  · rw [w15, w17]; rw [h1] at hc; exact hb.a x c hc
  · rw [w15, w17]; rw [h1] at hc; exact hb.b x c hc
  · rw [h1, h2]; exact hb.op (by unfold TS.isOpen at ho ⊢; rw [h2] at ho; exact ho)
theorem bal_proceed {r : RSt} {t : TS} (h : Rel r t) (hb : TBal t) (ho : t.isOpen = true) {e : Ev} {v : TS} (hv : t.proceed e = some v) : TBal v ∧ TCnt t v e ∧ ∃ c, v.chans e.obj = some c ∧ c.cap = e.n := by
  obtain ⟨hf, rfl⟩ := proceed_eq hv
  unfold Grp.fits at hf
  simp only [Bool.and_eq_true, decide_eq_true_eq] at hf
  obtain ⟨⟨hk, hobj, hkk, hn⟩, _⟩ := hf
  obtain ⟨c, hc, hcap⟩ := hb.op ho
  have hgn : (t.grp.next e).obj = t.grp.obj ∧ (t.grp.next e).n = t.grp.n ∧ (t.grp.next e).kinds = t.grp.kinds.tail := by unfold Grp.next; split <;> exact ⟨rfl, rfl, rfl⟩
  obtain ⟨g1, g2, g3⟩ := hgn
  rw [← hobj] at hc
  have hch : (t.count e).chans = upd t.chans e.obj (c.count e.kind) := by unfold TS.count; dsimp only; rw [hc]; rfl
  have hh : (t.grp.kinds.headD 0 = 15 ∨ t.grp.kinds.headD 0 = 16 ∨ t.grp.kinds.headD 0 = 17 ∨ t.grp.kinds.headD 0 = 18) ∧ t.grp.kinds.tail.headD 0 ≠ 15 ∧ t.grp.kinds.tail.headD 0 ≠ 17 := by
    have hg := h.gp
    unfold TS.isOpen at ho
    generalize r.next = nx at hg
    generalize t.grp.snd = sa at hg
    generalize t.grp.rcv = sb at hg
    generalize t.grp.kinds = ks at hg ho ⊢
    cases hg <;> simp at ho ⊢
  have hek : e.kind = 15 ∨ e.kind = 16 ∨ e.kind = 17 ∨ e.kind = 18 := by rw [hk]; exact hh.1
  have hA := hb.a _ _ hc
  have hB := hb.b _ _ hc
  have e15 : t.w15 e.obj = if e.kind = 15 then 1 else 0 := by unfold TS.w15; rw [hk]; simp [hobj]
  have e17 : t.w17 e.obj = if e.kind = 17 then 1 else 0 := by unfold TS.w17; rw [hk]; simp [hobj]
  rw [e15, e17] at hA hB
  have n15 : ∀ x, TS.w15 { t.count e with grp := t.grp.next e } x = 0 := fun x => by unfold TS.w15; dsimp only; rw [g3]; exact if_neg (fun hx => hh.2.1 hx.2)
  have n17 : ∀ x, TS.w17 { t.count e with grp := t.grp.next e } x = 0 := fun x => by unfold TS.w17; dsimp only; rw [g3]; exact if_neg (fun hx => hh.2.2 hx.2)
  have o15 : ∀ x, x ≠ e.obj → t.w15 x = 0 := fun x hx => if_neg (fun hh => hx (by rw [hobj]; exact hh.1))
  have o17 : ∀ x, x ≠ e.obj → t.w17 x = 0 := fun x hx => if_neg (fun hh => hx (by rw [hobj]; exact hh.1))
  refine ⟨⟨fun x d hd => ?_, fun x d hd => ?_, fun _ => ?_⟩, cnt_upd (c := c) (by unfold TS.sentOf; rw [hc]; rfl) (by unfold TS.recvOf; rw [hc]; rfl) hch, c.count e.kind, by show (t.count e).chans e.obj = _; rw [hch, upd_same], by rw [count_cap, hcap, hn]⟩
  · rw [n15, n17]
    have hd : (t.count e).chans x = some d := hd
    by_cases hx : x = e.obj
    · subst hx
      rw [hch, upd_same] at hd; cases hd
      rw [count_sent, count_recv, count_cap]
      rcases hek with q | q | q | q <;> rw [q] at hA hB ⊢ <;> simp at hA hB ⊢ <;> omega
    · rw [hch, upd_other _ _ hx] at hd
      have := hb.a _ _ hd
      rw [o15 x hx, o17 x hx] at this
      exact this
  · rw [n15, n17]
    have hd : (t.count e).chans x = some d := hd
    by_cases hx : x = e.obj
    · subst hx
      rw [hch, upd_same] at hd; cases hd
      rw [count_sent, count_recv]
      rcases hek with q | q | q | q <;> rw [q] at hA hB ⊢ <;> simp at hA hB ⊢ <;> omega
    · rw [hch, upd_other _ _ hx] at hd
      have := hb.b _ _ hd
      rw [o15 x hx, o17 x hx] at this
      exact this
  · refine ⟨c.count e.kind, ?_, ?_⟩
    · show (t.count e).chans (t.grp.next e).obj = _
      rw [g1, ← hobj, hch, upd_same]
    · rw [count_cap, hcap]; show _ = (t.grp.next e).n; rw [g2]

theorem bal_add {r : RSt} {t u : TS} (h : Rel r t) (hb : TBal t) {e : Ev} (ha : t.add e = some u) : TBal u ∧ TCnt t u e ∧ (chanB e.kind = true → ∃ c, u.chans e.obj = some c ∧ c.cap = e.n) := by
  obtain ⟨hv, v, rfl, hc⟩ := add_cases ha
  have hn := (Ev.valid_n hv).1
  have lift : TBal v → TBal { v with events := v.events + 1 } := fun h => ⟨h.a, h.b, h.op⟩
  have liftc : TCnt t v e → TCnt t { v with events := v.events + 1 } e := fun h => ⟨h.s, h.r⟩
  rcases hc with ⟨ho, hc⟩ | ⟨ho, hk, hc⟩ | ⟨ho, hk, hc⟩
  · obtain ⟨h1, h2, h3⟩ := bal_proceed h hb ho hc
    exact ⟨lift h1, liftc h2, fun _ => h3⟩
  · obtain ⟨h1, h2, h3⟩ := bal_operate h hb ho hn hc
    exact ⟨lift h1, liftc h2, fun _ => h3⟩
  · obtain ⟨h1, h2⟩ := bal_simple hb hk hc
    exact ⟨lift h1, liftc h2, fun h => by rw [hk] at h; cases h⟩
/-- the scan of a channel -/
def balL (x : Int) (s r : Int) : List Ev → Bool
  | [] => true
  | e :: l =>
    if e.obj ≠ x then balL x s r l
    else if chanB e.kind = false then balL x s r l
    else if (if e.kind = 15 then s + 1 else s) - (if e.kind = 17 then r + 1 else r) > e.n + 1 ∨ (if e.kind = 17 then r + 1 else r) - (if e.kind = 15 then s + 1 else s) > 1 then false
    else balL x (if e.kind = 15 then s + 1 else s) (if e.kind = 17 then r + 1 else r) l
theorem bal_rest {r : RSt} {t u : TS} (hr : Rel r t) (hw : t.wf) (hb : TBal t) (x : Int) {l : List Ev} (h : t.steps l = some u) : balL x (t.sentOf x) (t.recvOf x) l = true := by
  induction l generalizing r t with
  | nil => rfl
  | cons e l ih =>
    simp only [TS.steps, Option.bind_eq_some_iff] at h
    obtain ⟨v, hv, hs⟩ := h
    have hst := hr.step hw e
    rw [hv] at hst
    obtain ⟨r', _, hr'⟩ := hst
    obtain ⟨hbv, hcn, hch⟩ := bal_add hr hb hv
    have hrest := ih hr' (TS.add_wf hw hv) hbv hs
    have h1 := hcn.s x
    have h2 := hcn.r x
    simp only [balL]
    by_cases ho : e.obj = x
    · subst ho
      rw [if_neg (by omega)]
      cases hk : chanB e.kind with
      | false =>
        have hk' : e.kind ≠ 15 ∧ e.kind ≠ 17 := by
          unfold chanB at hk
          simp only [decide_eq_false_iff_not] at hk
          omega
        rw [if_neg (fun h => hk'.1 h.2)] at h1
        rw [if_neg (fun h => hk'.2 h.2)] at h2
        rw [if_pos rfl]
        rw [h1, h2] at hrest
        simpa using hrest
      | true =>
        rw [if_neg (by decide)]
        obtain ⟨c, hc, hcap⟩ := hch hk
        have ha := hbv.a _ _ hc
        have hbb := hbv.b _ _ hc
        have es : v.sentOf e.obj = c.sent := by unfold TS.sentOf; rw [hc]; rfl
        have er : v.recvOf e.obj = c.recv := by unfold TS.recvOf; rw [hc]; rfl
        have w1 : 0 ≤ v.w15 e.obj ∧ v.w15 e.obj ≤ 1 := by unfold TS.w15; split <;> omega
        have w2 : 0 ≤ v.w17 e.obj ∧ v.w17 e.obj ≤ 1 := by unfold TS.w17; split <;> omega
        have s1 : (if e.kind = 15 then t.sentOf e.obj + 1 else t.sentOf e.obj) = c.sent := by rw [← es, h1]; by_cases q : e.kind = 15 <;> simp [q]
        have s2 : (if e.kind = 17 then t.recvOf e.obj + 1 else t.recvOf e.obj) = c.recv := by rw [← er, h2]; by_cases q : e.kind = 17 <;> simp [q]
        rw [s1, s2, if_neg (by omega), ← es, ← er]
        exact hrest
    · rw [if_pos ho]
      rw [if_neg (fun h => ho h.1)] at h1 h2
      rw [h1, h2] at hrest
      simpa using hrest
theorem bal_valid {l : List Ev} (hc : chk l = l.length) (x : Int) : balL x 0 0 l = true := by
  obtain ⟨u, hu⟩ := TS.chk_steps TS.new l (Nat.le_refl _)
  unfold chk at hc
  rw [hc, List.take_length] at hu
  exact bal_rest Rel.new TS.wf_new TBal.new x hu
end Go.Proofs.Ytohliamalaifhaa
end
section
set_option linter.unusedSimpArgs false
set_option linter.unusedVariables false
namespace Go.Proofs.Ytohliamalaifhaa
open Go

theorem add_gor {r : RSt} {t u : TS} {e : Ev} (hr : Rel r t) (h : t.add e = some u) : t.gor ≤ u.gor ∧ (e.kind = 14 → e.k = t.gor ∧ u.gor = t.gor + 1) := by
  have hk := hr.kok
  obtain ⟨_, v, rfl, hv⟩ := add_cases h
  rcases hv with ⟨ho, hv⟩ | ⟨ho, hc, hv⟩ | ⟨ho, hc, hv⟩
  · obtain ⟨hf, rfl⟩ := proceed_eq hv
    have hkk := hk ho
    unfold Grp.fits at hf
    simp only [Bool.and_eq_true, decide_eq_true_eq] at hf
    have := hf.1.1
    exact ⟨Int.le_refl _, fun h14 => by omega⟩
  · unfold chanB at hc
    simp only [decide_eq_true_eq] at hc
    refine ⟨?_, fun h14 => by omega⟩
    unfold TS.operate at hv
    dsimp only at hv
    repeat' split at hv
    all_goals first
      | (cases hv; done)
      | (cases hv; exact Int.le_refl _)
      | (simp only [Option.map_eq_some_iff] at hv; obtain ⟨ks, _, rfl⟩ := hv; exact Int.le_refl _)
  · by_cases h14 : e.kind = 14
    · unfold TS.simple at hv
      dsimp only at hv
      rw [if_neg (by omega), if_neg (by omega), if_neg (by omega), if_neg (by omega), if_neg (by omega), if_neg (by omega), if_pos h14] at hv
      split at hv
      · cases hv
      · rename_i hne
        cases hv
        exact ⟨by dsimp only; omega, fun _ => ⟨by omega, rfl⟩⟩
    · refine ⟨?_, fun h => absurd h h14⟩
      unfold TS.simple at hv
      dsimp only at hv
      repeat' split at hv
      all_goals first
        | (cases hv; done)
        | (cases hv; exact Int.le_refl _)
        | (exfalso; omega)
theorem cap_keep {t u : TS} {e : Ev} (h : t.add e = some u) {x : Int} {c : Ch} (hc : t.chans x = some c) : ∃ c', u.chans x = some c' ∧ c'.cap = c.cap := by
  have hput : ∀ c1 : Ch, (e.obj = x → c1.cap = c.cap) → ∃ c', upd t.chans e.obj c1 x = some c' ∧ c'.cap = c.cap := fun c1 h1 => by
    by_cases hx : x = e.obj
    · subst hx; exact ⟨c1, upd_same _ _ _, h1 rfl⟩
    · exact ⟨c, by rw [upd_other _ _ hx]; exact hc, rfl⟩
  obtain ⟨_, v, rfl, hv⟩ := add_cases h
  rcases hv with ⟨ho, hv⟩ | ⟨ho, hk, hv⟩ | ⟨ho, hk, hv⟩
  · obtain ⟨hf, rfl⟩ := proceed_eq hv
    refine hput _ (fun hx => ?_)
    subst hx
    rw [count_cap, hc]; rfl
  · have hch : e.obj = x → (t.chan e).cap = c.cap := fun hx => by subst hx; unfold TS.chan; rw [hc]
    unfold TS.operate at hv
    dsimp only at hv
    repeat' split at hv
    all_goals first
      | (cases hv; done)
      | (cases hv; exact ⟨c, hc, rfl⟩)
      | (cases hv; exact hput _ hch)
      | (simp only [Option.map_eq_some_iff] at hv; obtain ⟨ks, _, rfl⟩ := hv; exact hput _ (fun hx => by rw [count_cap]; exact hch hx))
  · unfold TS.simple at hv
    dsimp only at hv
    repeat' split at hv
    all_goals first
      | (cases hv; done)
      | (cases hv; exact ⟨c, hc, rfl⟩)

/-- the state before event n of a valid list -/
def tsAt (l : List Ev) (n : Nat) : TS := (TS.new.steps (l.take n)).getD TS.new
section
variable {l : List Ev} (hc : chk l = l.length)
include hc
theorem tsAt_steps {n : Nat} (hn : n ≤ l.length) : TS.new.steps (l.take n) = some (tsAt l n) := by
  obtain ⟨u, hu⟩ := TS.chk_steps TS.new l (Nat.le_refl _)
  unfold chk at hc
  rw [hc, List.take_length] at hu
  rw [← List.take_append_drop n l, TS.steps_append, Option.bind_eq_some_iff] at hu
  obtain ⟨t, ht, _⟩ := hu
  unfold tsAt
  rw [ht]; rfl
theorem tsAt_succ {n : Nat} (hn : n < l.length) : (tsAt l n).add (evAt l n) = some (tsAt l (n + 1)) := by
  have h1 := tsAt_steps hc (n := n) (by omega)
  have h2 := tsAt_steps hc (n := n + 1) hn
  have he : l[n]? = some (evAt l n) := by rw [evAt_of (List.getElem?_eq_getElem hn)]; exact List.getElem?_eq_getElem hn
  rw [List.take_add_one, he, TS.steps_append, h1] at h2
  simp only [Option.toList_some, Option.bind_some, TS.steps] at h2
  cases ha : (tsAt l n).add (evAt l n) with
  | none => rw [ha] at h2; cases h2
  | some u => rw [ha] at h2; simpa using h2
omit hc in
theorem tsAt_zero : tsAt l 0 = TS.new := rfl
theorem tsAt_good {n : Nat} (hn : n ≤ l.length) : (∃ r, Rel r (tsAt l n)) ∧ (tsAt l n).wf ∧ TBal (tsAt l n) := by
  induction n with
  | zero => exact ⟨⟨_, Rel.new⟩, TS.wf_new, TBal.new⟩
  | succ n ih =>
    obtain ⟨⟨r, hr⟩, hw, hb⟩ := ih (by omega)
    have ha := tsAt_succ hc (n := n) hn
    have hst := hr.step hw (evAt l n)
    rw [ha] at hst
    obtain ⟨r', _, hr'⟩ := hst
    exact ⟨⟨r', hr'⟩, TS.add_wf hw ha, (bal_add hr hb ha).1⟩
theorem tsAt_gor {m n : Nat} (hmn : m ≤ n) (hn : n ≤ l.length) : (tsAt l m).gor ≤ (tsAt l n).gor := by
  induction n with
  | zero => have : m = 0 := by omega
            subst this; exact Int.le_refl _
  | succ n ih =>
    rcases Nat.lt_or_eq_of_le hmn with h | h
    · obtain ⟨⟨r, hr⟩, _, _⟩ := tsAt_good hc (n := n) (by omega)
      have h1 := (add_gor hr (tsAt_succ hc hn)).1
      have h2 := ih (by omega) (by omega)
      omega
    · subst h; exact Int.le_refl _
theorem tsAt_cap {m n : Nat} (hmn : m ≤ n) (hn : n ≤ l.length) {x : Int} {c : Ch} (h : (tsAt l m).chans x = some c) : ∃ c', (tsAt l n).chans x = some c' ∧ c'.cap = c.cap := by
  induction n with
  | zero => have : m = 0 := by omega
            subst this; exact ⟨c, h, rfl⟩
  | succ n ih =>
    rcases Nat.lt_or_eq_of_le hmn with h1 | h1
    · obtain ⟨c', h2, h3⟩ := ih (by omega) (by omega)
      obtain ⟨c'', h4, h5⟩ := cap_keep (tsAt_succ hc hn) h2
      exact ⟨c'', h4, h5.trans h3⟩
    · subst h1; exact ⟨c, h, rfl⟩
theorem chan_n {p q : Nat} (hpq : p ≤ q) (hq : q < l.length) (kp : chanB (evAt l p).kind = true) (kq : chanB (evAt l q).kind = true) (ho : (evAt l p).obj = (evAt l q).obj) : (evAt l p).n = (evAt l q).n := by
  have after : ∀ n, n < l.length → chanB (evAt l n).kind = true → ∃ c, (tsAt l (n + 1)).chans (evAt l n).obj = some c ∧ c.cap = (evAt l n).n := fun n hn hk => by
    obtain ⟨⟨r, hr⟩, _, hb⟩ := tsAt_good hc (n := n) (by omega)
    exact (bal_add hr hb (tsAt_succ hc hn)).2.2 hk
  obtain ⟨c, h1, h2⟩ := after p (by omega) kp
  obtain ⟨d, h3, h4⟩ := after q hq kq
  obtain ⟨c', h5, h6⟩ := tsAt_cap hc (m := p + 1) (n := q + 1) (by omega) hq h1
  rw [ho, h3] at h5
  cases h5
  omega
theorem VL.of : VL l := by
  refine ⟨?_, fun p q hp hq h1 h2 h3 => ?_, fun p q hp hq h1 h2 h3 => ?_⟩
  · intro e he
    obtain ⟨i, hi, rfl⟩ := List.getElem_of_mem he
    have h1 := tsAt_succ hc hi
    rw [evAt_of (List.getElem?_eq_getElem hi)] at h1
    exact (add_cases h1).1
  · have key : ∀ p q, p < q → q < l.length → (evAt l p).kind = 14 → (evAt l q).kind = 14 → (evAt l p).k ≠ (evAt l q).k := fun p q hpq hq h1 h2 => by
      obtain ⟨⟨r, hr⟩, _, _⟩ := tsAt_good hc (n := p) (by omega)
      obtain ⟨⟨r', hr'⟩, _, _⟩ := tsAt_good hc (n := q) (by omega)
      have a1 := (add_gor hr (tsAt_succ hc (by omega))).2 h1
      have a2 := (add_gor hr' (tsAt_succ hc hq)).2 h2
      have a3 := tsAt_gor hc (m := p + 1) (n := q) hpq (by omega)
      omega
    rcases Nat.lt_trichotomy p q with h | h | h
    · exact absurd h3 (key p q h hq h1 h2)
    · exact h
    · exact absurd h3.symm (key q p h hp h2 h1)
  · have k1 : chanB (evAt l p).kind = true := by unfold chanB; simp [h1]
    have k2 : chanB (evAt l q).kind = true := by unfold chanB; simp [h2]
    rcases Nat.le_total p q with h | h
    · exact chan_n hc h hq k1 k2 h3
    · exact (chan_n hc h hp k2 k1 h3.symm).symm
end
end Go.Proofs.Ytohliamalaifhaa
end
section
namespace Go.Proofs.Ytohliamalaifhaa
open Go Go.RowKit
set_option linter.unusedSimpArgs false
set_option linter.unusedVariables false
set_option maxRecDepth 100000

/-! interleave/stamp.stamps -/
def pch18c0 : PC :=
 .seq (.reg false [⟨(some 93), .fld 0 (.t 7), none, []⟩,
                        ⟨(some 94), .load none (.t 93), none, [0]⟩,
                        ⟨(some 95), .ixa 8 1 (.t 8) (.t 94), none, [1]⟩,
                        ⟨(some 96), .load none (.t 95), none, [2]⟩,
                        ⟨(some 97), .bin .add (.t 96) (.v (.int .i64 1)), none, [3]⟩,
                        ⟨(some 98), .ixa 8 1 (.t 8) (.t 94), none, [1, 0, 1, 2, 3, 4]⟩,
                        ⟨none, .store 1 (.t 98) (.t 97), none, [5, 4, 0, 1, 2, 3, 4]⟩])
                   (.seq (.reg true [⟨(some 99), .mv (.t 5), none, []⟩,
                         ⟨(some 100), .mv (.t 6), none, []⟩,
                         ⟨(some 101), .fld 0 (.t 7), none, []⟩,
                         ⟨(some 102), .load none (.t 101), none, [2]⟩,
                         ⟨(some 103), .load (some 8) (.t 8), none, []⟩,
                         ⟨(some 104), .load (some 8) (.t 8), none, []⟩,
                         ⟨(some 105), .ixs 8 (.t 99) (.t 100), none, [0, 1, 0, 1, 4]⟩,
                         ⟨none, .store 8 (.t 105) (.t 103), none, [6, 4, 0, 1, 4]⟩,
                         ⟨(some 106), .ixa 8 8 (.t 3) (.t 102), none, [3, 0, 1, 2, 3, 4, 5, 6, 7]⟩,
                         ⟨none, .store 8 (.t 106) (.t 104), none, [8, 5, 7, 0, 1, 2, 3, 4, 5, 6, 7]⟩])
                    (.seq (.reg false [⟨(some 107), .fld 1 (.t 7), none, []⟩,
                          ⟨(some 108), .load none (.t 107), none, [0]⟩,
                          ⟨(some 109), .bin .eql (.t 108) (.v (.int .i64 14)), none, [1]⟩])
                     (.cond (.t 109)
                       (.reg false [⟨(some 110), .fld 4 (.t 7), none, []⟩,
                            ⟨(some 111), .load none (.t 110), none, [0]⟩,
                            ⟨(some 112), .load (some 8) (.t 8), none, []⟩,
                            ⟨(some 113), .ixa 8 8 (.t 4) (.t 111), none, [1, 0, 1, 2]⟩,
                            ⟨none, .store 8 (.t 113) (.t 112), none, [3, 2, 0, 1, 2]⟩])
                       (.skip))))
def pch18c1 : PC :=
 .seq (.seq (.reg false [⟨(some 75), .mv (.t 9), none, []⟩,
                        ⟨(some 76), .bin .geq (.t 75) (.v (.int .i64 0)), none, [0]⟩,
                        ⟨(some 77), .mv (.t 76), none, [1]⟩,
                        ⟨(some 78), .fld 1 (.t 7), (some (77, true)), [2]⟩,
                        ⟨(some 79), .load none (.t 78), (some (77, true)), [3, 2]⟩,
                        ⟨(some 80), .bin .eql (.t 79) (.v (.int .i64 3)), (some (77, true)), [4, 2]⟩,
                        ⟨(some 81), .mv (.t 80), (some (77, true)), [5, 2, 2]⟩,
                        ⟨(some 82), .fld 1 (.t 7), (some (81, false)), [6]⟩,
                        ⟨(some 83), .load none (.t 82), (some (81, false)), [7, 6]⟩,
                        ⟨(some 84), .bin .eql (.t 83) (.v (.int .i64 5)), (some (81, false)), [8, 6]⟩,
                        ⟨(some 85), .pick (.t 81) (.v (.bool true)) (.t 84), (some (77, true)), [6, 9, 2]⟩,
                        ⟨(some 86), .pick (.t 77) (.t 85) (.v (.bool false)), none, [2, 10]⟩])
                   (.cond (.t 86)
                     (.reg true [⟨(some 87), .load (some 8) (.t 8), none, []⟩,
                          ⟨(some 88), .mv (.t 5), none, []⟩,
                          ⟨(some 89), .mv (.t 9), none, []⟩,
                          ⟨(some 90), .ixs 8 (.t 88) (.t 89), none, [1, 2]⟩,
                          ⟨(some 91), .load (some 8) (.t 90), none, [3]⟩,
                          ⟨(some 92), .call 23 [(.t 87), (.t 91)], none, [0, 4]⟩,
                          ⟨none, .store 8 (.t 8) (.t 92), none, [5, 5, 0, 1, 2, 3, 4, 5]⟩])
                     (.skip)))
                  (pch18c0)
def pch18c2 : PC :=
 .block 3 (.seq (.reg false [⟨(some 39), .mv (.t 37), none, []⟩,
                              ⟨(some 40), .ixs 9 (.t 35) (.t 37), none, []⟩,
                              ⟨(some 41), .load (some 9) (.t 40), none, [1]⟩,
                              ⟨(some 11), .new [(.int .i64 0), (.int .i64 0), (.int .i64 0), (.int .i64 0), (.int .i64 0), (.int .i64 0), (.int .i64 0), (.int .i64 0), (.int .i64 0)], none, []⟩,
                              ⟨(some 10), .mv (.t 39), none, [0, 0, 1, 2, 3]⟩,
                              ⟨none, .store 9 (.t 11) (.t 41), none, [3, 2, 4, 0, 1, 2, 3, 4]⟩])
                         (.seq (.seq (.reg false [⟨(some 42), .load (some 9) (.t 11), none, []⟩,
                                ⟨(some 43), .load (some 9) (.t 7), none, []⟩,
                                ⟨(some 44), .call 22 [(.t 42), (.t 43)], none, [0, 1]⟩])
                           (.cond (.t 44)
                             (.reg true [⟨(some 45), .load (some 8) (.t 8), none, []⟩,
                                  ⟨(some 46), .mv (.t 5), none, []⟩,
                                  ⟨(some 47), .mv (.t 10), none, []⟩,
                                  ⟨(some 48), .ixs 8 (.t 46) (.t 47), none, [1, 2]⟩,
                                  ⟨(some 49), .load (some 8) (.t 48), none, [3]⟩,
                                  ⟨(some 50), .call 23 [(.t 45), (.t 49)], none, [0, 4]⟩,
                                  ⟨none, .store 8 (.t 8) (.t 50), none, [5, 5, 0, 1, 2, 3, 4, 5]⟩])
                             (.skip)))
                          (.seq (.reg false [⟨(some 51), .fld 2 (.t 11), none, []⟩,
                                ⟨(some 52), .load none (.t 51), none, [0]⟩,
                                ⟨(some 53), .fld 2 (.t 7), none, []⟩,
                                ⟨(some 54), .load none (.t 53), none, [2]⟩,
                                ⟨(some 55), .bin .eql (.t 52) (.t 54), none, [1, 3]⟩,
                                ⟨(some 56), .mv (.t 55), none, [4]⟩,
                                ⟨(some 57), .fld 3 (.t 11), (some (56, true)), [5]⟩,
                                ⟨(some 58), .load none (.t 57), (some (56, true)), [6, 5]⟩,
                                ⟨(some 59), .fld 3 (.t 7), (some (56, true)), [5]⟩,
                                ⟨(some 60), .load none (.t 59), (some (56, true)), [8, 5]⟩,
                                ⟨(some 61), .bin .eql (.t 58) (.t 60), (some (56, true)), [7, 9, 5]⟩,
                                ⟨(some 62), .pick (.t 56) (.t 61) (.v (.bool false)), none, [5, 10]⟩,
                                ⟨(some 63), .mv (.t 62), none, [11, 5]⟩,
                                ⟨(some 64), .fld 1 (.t 11), (some (63, true)), [12]⟩,
                                ⟨(some 65), .load none (.t 64), (some (63, true)), [13, 12]⟩,
                                ⟨(some 66), .bin .eql (.t 65) (.v (.int .i64 4)), (some (63, true)), [14, 12]⟩,
                                ⟨(some 67), .mv (.t 66), (some (63, true)), [15, 12, 12]⟩,
                                ⟨(some 68), .fld 1 (.t 11), (some (67, false)), [16]⟩,
                                ⟨(some 69), .load none (.t 68), (some (67, false)), [17, 16]⟩,
                                ⟨(some 70), .bin .eql (.t 69) (.v (.int .i64 5)), (some (67, false)), [18, 16]⟩,
                                ⟨(some 71), .pick (.t 67) (.v (.bool true)) (.t 70), (some (63, true)), [16, 19, 12]⟩,
                                ⟨(some 72), .pick (.t 63) (.t 71) (.v (.bool false)), none, [12, 20]⟩])
                           (.cond (.t 72)
                             (.reg false [⟨(some 73), .mv (.t 10), none, []⟩,
                                  ⟨(some 9), .mv (.t 73), none, [0, 0]⟩])
                             (.skip)))))
def pch18c3 : PC :=
 .seq (.reg false [⟨(some 33), .mv (.t 0), none, []⟩,
                       ⟨(some 34), .mv (.t 6), none, []⟩,
                       ⟨(some 35), .slc 9 (.t 33) none (some (.t 34)), none, [0, 1]⟩,
                       ⟨(some 36), .len (.t 35), none, [2]⟩,
                       ⟨(some 37), .mv (.v (.int .i64 0)), none, []⟩])
                  (.block 2 (.loop (.seq (.reg false [⟨(some 38), .bin .lss (.t 37) (.t 36), none, []⟩])
                     (.seq (.cond (.t 38)
                        (.skip)
                        (.exit 2))
                      (.seq (pch18c2)
                       (.reg false [⟨(some 74), .bin .add (.t 37) (.v (.int .i64 1)), none, []⟩,
                            ⟨(some 37), .mv (.t 74), none, [0]⟩]))))))
def pch18c4 : PC :=
 .block 1 (.seq (.reg false [⟨(some 19), .mv (.t 17), none, []⟩,
                  ⟨(some 20), .ixs 9 (.t 15) (.t 17), none, []⟩,
                  ⟨(some 21), .load (some 9) (.t 20), none, [1]⟩,
                  ⟨(some 7), .new [(.int .i64 0), (.int .i64 0), (.int .i64 0), (.int .i64 0), (.int .i64 0), (.int .i64 0), (.int .i64 0), (.int .i64 0), (.int .i64 0)], none, []⟩,
                  ⟨(some 6), .mv (.t 19), none, [0, 0, 1, 2, 3]⟩,
                  ⟨none, .store 9 (.t 7) (.t 21), none, [3, 2, 4, 0, 1, 2, 3, 4]⟩])
             (.seq (.reg false [⟨(some 22), .fld 0 (.t 7), none, []⟩,
                   ⟨(some 23), .load none (.t 22), none, [0]⟩,
                   ⟨(some 24), .ixa 8 8 (.t 3) (.t 23), none, [1]⟩,
                   ⟨(some 25), .load (some 8) (.t 24), none, [2]⟩,
                   ⟨(some 8), .new [(.int .i64 0), (.int .i64 0), (.int .i64 0), (.int .i64 0), (.int .i64 0), (.int .i64 0), (.int .i64 0), (.int .i64 0)], none, []⟩,
                   ⟨none, .store 8 (.t 8) (.t 25), none, [4, 3, 0, 1, 2, 3, 4]⟩])
              (.seq (.seq (.reg false [⟨(some 26), .load (some 8) (.t 8), none, []⟩,
                     ⟨(some 27), .build [(.int .i64 0), (.int .i64 0), (.int .i64 0), (.int .i64 0), (.int .i64 0), (.int .i64 0), (.int .i64 0), (.int .i64 0)] [], none, []⟩,
                     ⟨(some 28), .eqs false [false, false, false, false, false, false, false, false] (.t 26) (.t 27), none, [0, 1]⟩])
                (.cond (.t 28)
                  (.reg false [⟨(some 29), .fld 0 (.t 7), none, []⟩,
                       ⟨(some 30), .load none (.t 29), none, [0]⟩,
                       ⟨(some 31), .ixa 8 8 (.t 4) (.t 30), none, [1]⟩,
                       ⟨(some 32), .load (some 8) (.t 31), none, [2]⟩,
                       ⟨none, .store 8 (.t 8) (.t 32), none, [3, 0, 1, 2, 3]⟩])
                  (.skip)))
               (.seq (.reg false [⟨(some 9), .mv (.v (.int .i64 (-1))), none, []⟩])
                (.seq (pch18c3)
                 (pch18c1))))))
def pch18c5 : PC :=
 .seq (.reg false [⟨(some 15), .mv (.t 0), none, []⟩,
           ⟨(some 16), .len (.t 15), none, [0]⟩,
           ⟨(some 17), .mv (.v (.int .i64 0)), none, []⟩])
      (.block 0 (.loop (.seq (.reg false [⟨(some 18), .bin .lss (.t 17) (.t 16), none, []⟩])
         (.seq (.cond (.t 18)
            (.skip)
            (.exit 0))
          (.seq (pch18c4)
           (.reg false [⟨(some 114), .bin .add (.t 17) (.v (.int .i64 1)), none, []⟩,
                ⟨(some 17), .mv (.t 114), none, [0]⟩]))))))
def pch18 : PC :=
 .seq (.reg false [⟨(some 2), .nilRow 36 8, none, []⟩])
  (.seq (.reg false [⟨(some 3), .new [(.int .i64 0), (.int .i64 0), (.int .i64 0), (.int .i64 0), (.int .i64 0), (.int .i64 0), (.int .i64 0), (.int .i64 0), (.int .i64 0), (.int .i64 0), (.int .i64 0), (.int .i64 0), (.int .i64 0), (.int .i64 0), (.int .i64 0), (.int .i64 0), (.int .i64 0), (.int .i64 0), (.int .i64 0), (.int .i64 0), (.int .i64 0), (.int .i64 0), (.int .i64 0), (.int .i64 0), (.int .i64 0), (.int .i64 0), (.int .i64 0), (.int .i64 0), (.int .i64 0), (.int .i64 0), (.int .i64 0), (.int .i64 0), (.int .i64 0), (.int .i64 0), (.int .i64 0), (.int .i64 0), (.int .i64 0), (.int .i64 0), (.int .i64 0), (.int .i64 0), (.int .i64 0), (.int .i64 0), (.int .i64 0), (.int .i64 0), (.int .i64 0), (.int .i64 0), (.int .i64 0), (.int .i64 0), (.int .i64 0), (.int .i64 0), (.int .i64 0), (.int .i64 0), (.int .i64 0), (.int .i64 0), (.int .i64 0), (.int .i64 0), (.int .i64 0), (.int .i64 0), (.int .i64 0), (.int .i64 0), (.int .i64 0), (.int .i64 0), (.int .i64 0), (.int .i64 0)], none, []⟩,
        ⟨(some 4), .new [(.int .i64 0), (.int .i64 0), (.int .i64 0), (.int .i64 0), (.int .i64 0), (.int .i64 0), (.int .i64 0), (.int .i64 0), (.int .i64 0), (.int .i64 0), (.int .i64 0), (.int .i64 0), (.int .i64 0), (.int .i64 0), (.int .i64 0), (.int .i64 0), (.int .i64 0), (.int .i64 0), (.int .i64 0), (.int .i64 0), (.int .i64 0), (.int .i64 0), (.int .i64 0), (.int .i64 0), (.int .i64 0), (.int .i64 0), (.int .i64 0), (.int .i64 0), (.int .i64 0), (.int .i64 0), (.int .i64 0), (.int .i64 0), (.int .i64 0), (.int .i64 0), (.int .i64 0), (.int .i64 0), (.int .i64 0), (.int .i64 0), (.int .i64 0), (.int .i64 0), (.int .i64 0), (.int .i64 0), (.int .i64 0), (.int .i64 0), (.int .i64 0), (.int .i64 0), (.int .i64 0), (.int .i64 0), (.int .i64 0), (.int .i64 0), (.int .i64 0), (.int .i64 0), (.int .i64 0), (.int .i64 0), (.int .i64 0), (.int .i64 0), (.int .i64 0), (.int .i64 0), (.int .i64 0), (.int .i64 0), (.int .i64 0), (.int .i64 0), (.int .i64 0), (.int .i64 0)], none, []⟩])
   (.seq (.reg false [⟨(some 12), .mv (.t 0), none, []⟩,
         ⟨(some 13), .len (.t 12), none, [0]⟩,
         ⟨(some 14), .mk 8 64 [(.int .i64 0), (.int .i64 0), (.int .i64 0), (.int .i64 0), (.int .i64 0), (.int .i64 0), (.int .i64 0), (.int .i64 0)] (.t 13) (.t 13), none, [1, 1]⟩,
         ⟨(some 5), .mv (.t 14), none, [2, 0, 1, 2]⟩])
    (.seq (pch18c5)
     (.seq (.reg false [⟨(some 115), .mv (.t 5), none, []⟩,
           ⟨(some 2), .mv (.t 115), none, [0, 0]⟩])
      (.ret)))))
def prh18 : List PR := [.t 2]
abbrev msh18_0 : List Nat := [18, 19, 20, 21, 7, 6, 22, 23, 24, 25, 8, 26, 27, 28, 29, 30, 31, 32, 9, 33, 34, 35, 36, 37, 38, 39, 40, 41, 11, 10, 42, 43, 44, 45, 46, 47, 48, 49, 50, 51, 52, 53, 54, 55, 56, 57, 58, 59, 60, 61, 62, 63, 64, 65, 66, 67, 68, 69, 70, 71, 72, 73, 74, 75, 76, 77, 78, 79, 80, 81, 82, 83, 84, 85, 86, 87, 88, 89, 90, 91, 92, 93, 94, 95, 96, 97, 98, 99, 100, 101, 102, 103, 104, 105, 106, 107, 108, 109, 110, 111, 112, 113, 114, 17]
abbrev osh18_0 : List Nat := [7, 8, 11, 105, 3, 4]
abbrev msh18_1 : List Nat := [38, 39, 40, 41, 11, 10, 42, 43, 44, 45, 46, 47, 48, 49, 50, 51, 52, 53, 54, 55, 56, 57, 58, 59, 60, 61, 62, 63, 64, 65, 66, 67, 68, 69, 70, 71, 72, 73, 9, 74, 37]
abbrev osh18_1 : List Nat := [11, 8]
theorem bdh18 : Try.f18.body = some (Try.f18.body.getD .skip) := by kernel_rfl
theorem cph18 : compC Try.prog Try.f18.ntmps eqsL (Try.f18.body.getD .skip) = some pch18 := by kernel_rfl
theorem sph18 [WInv] {env : Env} (hE : EnvOK Try.prog env) {R : List Pa → List Pa → Prop} (hR : ∀ ps rs, R ps rs → ps.length ≤ 116 ∧ pwp env pch18 (fun e s => (e = .normal ∨ e = .ret) ∧ s.res prh18 = some rs) (St.init ps)) : Spec Try.prog 18 R :=
  fn_sound hE eqsOK mixedOK Try.func18 bdh18 cph18 (by kernel_rfl) (by kernel_rfl) hR


end Go.Proofs.Ytohliamalaifhaa
end
section
set_option linter.unusedSimpArgs false
set_option linter.unusedVariables false
namespace Go.Proofs.Ytohliamalaifhaa
open Go Go.RowKit
set_option maxRecDepth 100000
set_option maxHeartbeats 4000000

def ckRow (c : Ck) : List Dt := c.map dI
def ckPa (c : Ck) : Pa := .agg (ckRow c)
def ckCells (c : Ck) : List Cl := c.map fun x => .d (dI x)
theorem ckCells_dt (c : Ck) : allSome ((ckCells c).map Cl.dt) = some (ckRow c) := by
  induction c with
  | nil => rfl
  | cons x c ih =>
    show (allSome ((ckCells c).map Cl.dt)).map (dI x :: ·) = _
    rw [ih]; rfl
theorem ckRow_cells (c : Ck) : (ckRow c).map Cl.d = ckCells c := by unfold ckRow ckCells; rw [List.map_map]; rfl
theorem ckCells_length (c : Ck) : (ckCells c).length = c.length := List.length_map ..
theorem ckCells_get (c : Ck) (i : Nat) (x : Int) (h : c[i]? = some x) : (ckCells c)[i]? = some (.d (dI x)) := by unfold ckCells; rw [List.getElem?_map, h]; rfl
theorem ckCells_set (c : Ck) (i : Nat) (x : Int) (h : i < c.length) : wrAt (ckCells c) i [.d (dI x)] = ckCells (c.set i x) := by
  induction c generalizing i with
  | nil => simp at h
  | cons y c ih =>
    cases i with
    | zero =>
      simp only [ckCells, List.map_cons, wrAt, List.set_cons_zero]
      congr 1
      cases c <;> rfl
    | succ i =>
      simp only [ckCells, List.map_cons, List.set_cons_succ, wrAt]
      congr 1
      exact ih i (by simpa using h)
theorem wrAt_full {cs ds : List Cl} (h : cs.length = ds.length) : wrAt cs 0 ds = ds := by
  induction cs generalizing ds with
  | nil => cases ds with
    | nil => rfl
    | cons d ds => simp at h
  | cons c cs ih => cases ds with
    | nil => simp at h
    | cons d ds =>
      simp only [wrAt]
      rw [ih (by simpa using h)]
theorem wr_new8 {c : Ck} (h : c.length = 8) : wrAt [.d (.sc (.int .i64 0)), .d (.sc (.int .i64 0)), .d (.sc (.int .i64 0)), .d (.sc (.int .i64 0)), .d (.sc (.int .i64 0)), .d (.sc (.int .i64 0)), .d (.sc (.int .i64 0)), .d (.sc (.int .i64 0))] 0 (ckCells c) = ckCells c :=
  wrAt_full (by rw [ckCells_length, h]; rfl)
def joinTo (a b : Ck) (k : Nat) : Ck := joinC (a.take k) (b.take k) ++ a.drop k
theorem joinTo_zero (a b : Ck) : joinTo a b 0 = a := by simp [joinTo, joinC]
theorem joinTo_all {a b : Ck} (ha : a.length = 8) (hb : b.length = 8) : joinTo a b 8 = joinC a b := by
  unfold joinTo
  rw [List.take_of_length_le (by omega), List.take_of_length_le (by omega), List.drop_eq_nil_of_le (by omega), List.append_nil]
theorem joinTo_length {a b : Ck} (ha : a.length = 8) (hb : b.length = 8) {k : Nat} (hk : k ≤ 8) : (joinTo a b k).length = 8 := by
  unfold joinTo joinC
  rw [List.length_append, List.length_zipWith, List.length_take, List.length_take, List.length_drop]; omega
theorem joinTo_get {a b : Ck} (ha : a.length = 8) (hb : b.length = 8) {k : Nat} (hk : k < 8) {x : Int} (hx : a[k]? = some x) : (joinTo a b k)[k]? = some x := by
  have hl : (joinC (a.take k) (b.take k)).length = k := by unfold joinC; rw [List.length_zipWith, List.length_take, List.length_take]; omega
  unfold joinTo
  rw [List.getElem?_append_right (by omega), hl, Nat.sub_self, List.getElem?_drop, Nat.add_zero]; exact hx
theorem joinTo_succ {a b : Ck} (ha : a.length = 8) (hb : b.length = 8) {k : Nat} (hk : k < 8) {x y : Int} (hx : a[k]? = some x) (hy : b[k]? = some y) : (joinTo a b k).set k (if y > x then y else x) = joinTo a b (k + 1) := by
  have hl : (joinC (a.take k) (b.take k)).length = k := by unfold joinC; rw [List.length_zipWith, List.length_take, List.length_take]; omega
  unfold joinTo
  rw [List.set_append_right _ _ (by omega), hl, Nat.sub_self, List.drop_eq_getElem_cons (by omega), List.set_cons_zero]
  have e1 : a.take (k + 1) = a.take k ++ [x] := by rw [List.take_add_one, hx]; rfl
  have e2 : b.take (k + 1) = b.take k ++ [y] := by rw [List.take_add_one, hy]; rfl
  rw [e1, e2]
  unfold joinC
  rw [List.zipWith_append (by rw [List.length_take, List.length_take]; omega)]
  simp
def R_join (ps rs : List Pa) : Prop := ∃ a b : Ck, ps = [ckPa a, ckPa b] ∧ (a.length = 8 ∧ b.length = 8) ∧ rs = [ckPa (joinC a b)]
theorem s_join : Spec Try.prog 23 R_join := by
  refine sp23 EnvOK.e0 ?_
  rintro ps rs ⟨a, b, rfl, ⟨ha, hb⟩, rfl⟩
  refine ⟨by simp, ?_⟩
  unfold pc23
  refine pwp_start ?_
  simp only [↓evP, evB, stB, reduceIte, reduceCtorEq, Nat.reduceEqDiff, Nat.reduceAdd, Nat.reduceMul, Nat.reduceLeDiff, Nat.reduceLT, Nat.reduceSub, Nat.reduceBEq, ckPa, ckRow_cells]
  refine pwp_loopW ms23_0 os23_0 (fun m st => ∃ k : Nat, m = 8 - k ∧ k ≤ 8 ∧ st.sl 6 = aI k ∧ st.gen 2 = 1 ∧ st.ob 2 = .cells (ckCells (joinTo a b k))) 8 ?_ ?_
  · exact ⟨0, rfl, Nat.zero_le _, by simp only [stB, reduceIte, reduceCtorEq, Nat.reduceEqDiff, Nat.reduceAdd, Nat.reduceMul, Nat.reduceLeDiff, Nat.reduceLT, Nat.reduceSub, Nat.reduceBEq]; rfl, by simp only [stB, reduceIte, reduceCtorEq, Nat.reduceEqDiff, Nat.reduceAdd, Nat.reduceMul, Nat.reduceLeDiff, Nat.reduceLT, Nat.reduceSub, Nat.reduceBEq], by simp only [stB, reduceIte, reduceCtorEq, Nat.reduceEqDiff, Nat.reduceAdd, Nat.reduceMul, Nat.reduceLeDiff, Nat.reduceLT, Nat.reduceSub, Nat.reduceBEq, joinTo_zero]⟩
  · rintro m j ⟨k, rfl, hk, h6, g2, o2⟩
    simp only [stB, reduceIte, reduceCtorEq, Nat.reduceEqDiff, Nat.reduceAdd, Nat.reduceMul, Nat.reduceLeDiff, Nat.reduceLT, Nat.reduceSub, Nat.reduceBEq] at h6 g2 o2
    rcases Nat.lt_or_ge k 8 with hlt | hge
    · obtain ⟨x, hx⟩ : ∃ x, a[k]? = some x := ⟨_, List.getElem?_eq_getElem (by omega)⟩
      obtain ⟨y, hy⟩ : ∃ y, b[k]? = some y := ⟨_, List.getElem?_eq_getElem (by omega)⟩
      have hlt' : (k : Int) < 8 := by omega
      have h0 : (0 : Int) ≤ (k : Int) := by omega
      have hlt8 : (k : Int) < ((8 : Nat) : Int) := by omega
      have e1 := ckCells_get _ _ _ (joinTo_get ha hb hlt hx)
      have e2 := ckCells_get _ _ _ hy
      have e3 : k + 1 ≤ (ckCells (joinTo a b k)).length := by rw [ckCells_length, joinTo_length ha hb hk]; omega
      have e4 := (ckCells_set (joinTo a b k) k (if y > x then y else x) (by rw [joinTo_length ha hb hk]; omega)).trans (congrArg ckCells (joinTo_succ ha hb hlt hx hy))
      simp only [↓evP, evB, stB, reduceIte, reduceCtorEq, Nat.reduceEqDiff, Nat.reduceAdd, Nat.reduceMul, Nat.reduceLeDiff, Nat.reduceLT, Nat.reduceSub, Nat.reduceBEq, h6, g2, o2, hlt', hlt8, h0, e1, e2, e3, e4, Nat.mul_one, List.foldl_cons, List.foldl_nil]
      refine ⟨(by unfold Drw; kernel_rfl), ?_⟩
      exact ⟨_, by omega, (by repeat' (first | assumption | exact within_over.mpr trivial | exact Within.refl _ _ _ | (refine within_ap ?_ rfl rfl) | (refine within_ap0 ?_ rfl))), k + 1, rfl, by omega, by simp only [stB, reduceIte, reduceCtorEq, Nat.reduceEqDiff, Nat.reduceAdd, Nat.reduceMul, Nat.reduceLeDiff, Nat.reduceLT, Nat.reduceSub, Nat.reduceBEq, h6]; rw [wrN (by omega)], by simp only [stB, reduceIte, reduceCtorEq, Nat.reduceEqDiff, Nat.reduceAdd, Nat.reduceMul, Nat.reduceLeDiff, Nat.reduceLT, Nat.reduceSub, Nat.reduceBEq, g2], by simp only [stB, reduceIte, reduceCtorEq, Nat.reduceEqDiff, Nat.reduceAdd, Nat.reduceMul, Nat.reduceLeDiff, Nat.reduceLT, Nat.reduceSub, Nat.reduceBEq, o2, wrF_cells]; rw [e4]⟩
    · have hk8 : k = 8 := by omega
      subst hk8
      have hlt' : ¬ ((8 : Nat) : Int) < 8 := by omega
      have e3 : 0 + 8 ≤ (ckCells (joinTo a b 8)).length := by rw [ckCells_length, joinTo_length ha hb (by omega)]; omega
      have e4 : (ckCells (joinTo a b 8)).take 8 = ckCells (joinTo a b 8) := List.take_of_length_le (by rw [ckCells_length, joinTo_length ha hb (by omega)]; omega)
      have e5 : (ckCells (joinTo a b 8)).length = 8 := by rw [ckCells_length, joinTo_length ha hb (by omega)]
      simp only [↓evP, evB, stB, reduceIte, reduceCtorEq, Nat.reduceEqDiff, Nat.reduceAdd, Nat.reduceMul, Nat.reduceLeDiff, Nat.reduceLT, Nat.reduceSub, Nat.reduceBEq, h6, g2, o2, hlt', e3, e4, e5, wr_new8 (joinTo_length ha hb (Nat.le_refl 8)), ckCells_dt, pr23]
      rw [joinTo_all ha hb]

theorem sync_bne {a b : Int} (h : (a != b) = false) : ¬ a ≠ b := fun h' => by rw [bne_iff_ne.2 h'] at h; cases h
def R_sync (ps rs : List Pa) : Prop := ∃ a b : Ev, ps = [a.pa, b.pa] ∧ (0 ≤ a.k ∧ a.k ≤ 2147483647 ∧ 0 ≤ b.n ∧ b.n ≤ 2147483647) ∧ rs = [pB (syncB a b)]
theorem s_sync : Spec Try.prog 22 R_sync := by
  refine sp22 EnvOK.e0 ?_
  rintro ps rs ⟨a, b, rfl, ⟨h1, h2, h3, h4⟩, rfl⟩
  refine ⟨by simp, ?_⟩
  have hw : IntKind.i64.wrap (a.k + b.n) = a.k + b.n := wr64 (by omega) (by omega)
  have hs : syncB a b = syncB a b := rfl
  conv at hs => rhs; unfold syncB
  unfold pc22
  refine pwp_start ?_
  cases q1 : (a.obj != b.obj) with
  | true =>
    rw [if_pos (bne_iff_ne.1 q1)] at hs
    simp only [↓evP, evB, stB, reduceIte, reduceCtorEq, Nat.reduceEqDiff, Nat.reduceAdd, Nat.reduceMul, Nat.reduceLeDiff, Nat.reduceLT, Nat.reduceSub, Nat.reduceBEq, Ev.pa, Ev.row, q1, hs, pr22]
  | false =>
  rw [if_neg (sync_bne q1)] at hs
  cases q2 : (a.off != b.off) with
  | true =>
    rw [if_pos (bne_iff_ne.1 q2)] at hs
    simp only [↓evP, evB, stB, reduceIte, reduceCtorEq, Nat.reduceEqDiff, Nat.reduceAdd, Nat.reduceMul, Nat.reduceLeDiff, Nat.reduceLT, Nat.reduceSub, Nat.reduceBEq, Ev.pa, Ev.row, q1, q2, hs, pr22]
  | false =>
  rw [if_neg (sync_bne q2)] at hs
  cases k18 : (b.kind == 18) with
  | true =>
    rw [if_pos (beq_iff_eq.1 k18)] at hs
    simp only [↓evP, evB, stB, reduceIte, reduceCtorEq, Nat.reduceEqDiff, Nat.reduceAdd, Nat.reduceMul, Nat.reduceLeDiff, Nat.reduceLT, Nat.reduceSub, Nat.reduceBEq, Ev.pa, Ev.row, q1, q2, k18, hw, pr22]
    rw [hs]
    clear hs
    refine ⟨fun h => by rw [h, Bool.true_and], fun h => by rw [h]; rfl⟩
  | false =>
  rw [if_neg (beq_eq_false_iff_ne.1 k18)] at hs
  cases k16 : (b.kind == 16) with
  | true =>
    rw [if_pos (beq_iff_eq.1 k16)] at hs
    simp only [↓evP, evB, stB, reduceIte, reduceCtorEq, Nat.reduceEqDiff, Nat.reduceAdd, Nat.reduceMul, Nat.reduceLeDiff, Nat.reduceLT, Nat.reduceSub, Nat.reduceBEq, Ev.pa, Ev.row, q1, q2, k18, k16, hw, pr22]
    rw [hs]
    clear hs
    refine ⟨fun h => by rw [h, Bool.true_and], fun h => by rw [h]; rfl⟩
  | false =>
  rw [if_neg (beq_eq_false_iff_ne.1 k16)] at hs
  cases k20 : (b.kind == 20) with
  | true =>
    rw [if_pos (beq_iff_eq.1 k20)] at hs
    simp only [↓evP, evB, stB, reduceIte, reduceCtorEq, Nat.reduceEqDiff, Nat.reduceAdd, Nat.reduceMul, Nat.reduceLeDiff, Nat.reduceLT, Nat.reduceSub, Nat.reduceBEq, Ev.pa, Ev.row, q1, q2, k18, k16, k20, hw, pr22]
    rw [hs]
  | false =>
  rw [if_neg (beq_eq_false_iff_ne.1 k20)] at hs
  cases k6 : (b.kind == 6) with
  | true =>
    rw [if_pos (beq_iff_eq.1 k6)] at hs
    simp only [↓evP, evB, stB, reduceIte, reduceCtorEq, Nat.reduceEqDiff, Nat.reduceAdd, Nat.reduceMul, Nat.reduceLeDiff, Nat.reduceLT, Nat.reduceSub, Nat.reduceBEq, Ev.pa, Ev.row, q1, q2, k18, k16, k20, k6, hw, pr22]
    rw [hs]
    clear hs
    refine ⟨fun h => by rw [h, Bool.false_or], fun h => by rw [h]; rfl⟩
  | false =>
  rw [if_neg (beq_eq_false_iff_ne.1 k6)] at hs
  cases k8 : (b.kind == 8) with
  | true =>
    rw [if_pos (beq_iff_eq.1 k8)] at hs
    simp only [↓evP, evB, stB, reduceIte, reduceCtorEq, Nat.reduceEqDiff, Nat.reduceAdd, Nat.reduceMul, Nat.reduceLeDiff, Nat.reduceLT, Nat.reduceSub, Nat.reduceBEq, Ev.pa, Ev.row, q1, q2, k18, k16, k20, k6, k8, hw, pr22]
    rw [hs]
  | false =>
  rw [if_neg (beq_eq_false_iff_ne.1 k8)] at hs
  cases k11 : (b.kind == 11) with
  | true =>
    rw [if_pos (beq_iff_eq.1 k11)] at hs
    simp only [↓evP, evB, stB, reduceIte, reduceCtorEq, Nat.reduceEqDiff, Nat.reduceAdd, Nat.reduceMul, Nat.reduceLeDiff, Nat.reduceLT, Nat.reduceSub, Nat.reduceBEq, Ev.pa, Ev.row, q1, q2, k18, k16, k20, k6, k8, k11, hw, pr22]
    rw [hs]
  | false =>
  rw [if_neg (beq_eq_false_iff_ne.1 k11)] at hs
  cases k13 : (b.kind == 13) with
  | true =>
    rw [if_pos (beq_iff_eq.1 k13)] at hs
    simp only [↓evP, evB, stB, reduceIte, reduceCtorEq, Nat.reduceEqDiff, Nat.reduceAdd, Nat.reduceMul, Nat.reduceLeDiff, Nat.reduceLT, Nat.reduceSub, Nat.reduceBEq, Ev.pa, Ev.row, q1, q2, k18, k16, k20, k6, k8, k11, k13, hw, pr22]
    rw [hs]
  | false =>
  rw [if_neg (beq_eq_false_iff_ne.1 k13)] at hs
  simp only [↓evP, evB, stB, reduceIte, reduceCtorEq, Nat.reduceEqDiff, Nat.reduceAdd, Nat.reduceMul, Nat.reduceLeDiff, Nat.reduceLT, Nat.reduceSub, Nat.reduceBEq, Ev.pa, Ev.row, q1, q2, k18, k16, k20, k6, k8, k11, k13, hs, pr22]
end Go.Proofs.Ytohliamalaifhaa
end
section
set_option linter.unusedSimpArgs false
set_option linter.unusedVariables false
namespace Go.Proofs.Ytohliamalaifhaa
open Go Go.RowKit
set_option maxRecDepth 100000
set_option maxHeartbeats 4000000

theorem within_in {ms os ms' os' : List Nat} {s0 b j : St} (h : Within ms os s0 b) (hm : ms'.all (fun x => ms.contains x) = true) (ho : os'.all (fun x => os.contains x) = true) : Within ms os s0 (over ms' os' b j) := by
  have h1 : ∀ x, ms.contains x = false → ms'.contains x = false := fun x hx => by
    cases hc : ms'.contains x with
    | false => rfl
    | true => rw [List.all_eq_true] at hm; rw [hm x (by simpa using hc)] at hx; cases hx
  have h2 : ∀ x, os.contains x = false → os'.contains x = false := fun x hx => by
    cases hc : os'.contains x with
    | false => rfl
    | true => rw [List.all_eq_true] at ho; rw [ho x (by simpa using hc)] at hx; cases hx
  refine ⟨fun x hx => ?_, fun o hx => ⟨?_, ?_⟩⟩
  · rw [over_sl, h1 x hx]; exact h.1 x hx
  · rw [over_gen, h2 o hx]; exact (h.2 o hx).1
  · rw [over_ob, h2 o hx]; exact (h.2 o hx).2
def All8 (cs : List Ck) : Prop := ∀ c, c ∈ cs → c.length = 8
def flatC (cs : List Ck) : List Cl := cs.flatMap ckCells
theorem flatC_cons (c : Ck) (cs : List Ck) : flatC (c :: cs) = ckCells c ++ flatC cs := rfl
theorem flatC_len {cs : List Ck} (h : All8 cs) : (flatC cs).length = cs.length * 8 := by
  induction cs with
  | nil => rfl
  | cons c cs ih =>
    rw [flatC_cons, List.length_append, ckCells_length, h c (by simp), ih (fun d hd => h d (by simp [hd])), List.length_cons]; omega
theorem flatC_get {cs : List Ck} (h : All8 cs) {i : Nat} {c : Ck} (hi : cs[i]? = some c) : ((flatC cs).drop (i * 8)).take 8 = ckCells c := by
  induction cs generalizing i with
  | nil => simp at hi
  | cons d cs ih =>
    have hd := h d (by simp)
    cases i with
    | zero =>
      simp at hi; subst hi
      rw [Nat.zero_mul, List.drop_zero, flatC_cons, List.take_left' (by rw [ckCells_length, hd])]
    | succ i =>
      rw [flatC_cons, show (i + 1) * 8 = (ckCells d).length + i * 8 by rw [ckCells_length, hd]; omega, List.drop_append, List.drop_eq_nil_of_le (by omega), List.nil_append, Nat.add_sub_cancel_left]
      exact ih (fun x hx => h x (by simp [hx])) (by simpa using hi)
theorem wrAt_app_left {a b ds : List Cl} (h : ds.length = a.length) : wrAt (a ++ b) 0 ds = ds ++ b := by
  induction a generalizing ds with
  | nil =>
    have : ds = [] := List.eq_nil_of_length_eq_zero (by simpa using h)
    subst this
    cases b <;> rfl
  | cons x a ih => cases ds with
    | nil => simp at h
    | cons d ds =>
      simp only [List.cons_append, wrAt]
      rw [ih (by simpa using h)]
theorem wrAt_app_right {a b ds : List Cl} {k : Nat} : wrAt (a ++ b) (a.length + k) ds = a ++ wrAt b k ds := by
  induction a with
  | nil => simp
  | cons x a ih =>
    rw [List.cons_append, List.length_cons, show a.length + 1 + k = (a.length + k) + 1 by omega]
    simp only [wrAt, List.cons_append]
    rw [ih]
theorem flatC_set {cs : List Ck} (h : All8 cs) {i : Nat} (hi : i < cs.length) {d : Ck} (hd : d.length = 8) : wrAt (flatC cs) (i * 8) (ckCells d) = flatC (cs.set i d) := by
  induction cs generalizing i with
  | nil => simp at hi
  | cons c cs ih =>
    have hc := h c (by simp)
    cases i with
    | zero =>
      rw [Nat.zero_mul, flatC_cons, wrAt_app_left (by rw [ckCells_length, ckCells_length, hd, hc]), List.set_cons_zero, flatC_cons]
    | succ i =>
      rw [flatC_cons, show (i + 1) * 8 = (ckCells c).length + i * 8 by rw [ckCells_length, hc]; omega, wrAt_app_right, ih (fun x hx => h x (by simp [hx])) (by simpa using hi), List.set_cons_succ, flatC_cons]
theorem All8.set {cs : List Ck} (h : All8 cs) {i : Nat} {d : Ck} (hd : d.length = 8) : All8 (cs.set i d) := fun c hc => by
  rcases List.mem_or_eq_of_mem_set hc with hc | rfl
  · exact h c hc
  · exact hd
theorem All8.rep (n : Nat) : All8 (List.replicate n ckZ) := fun c hc => by simp at hc; rw [hc.2]; rfl
theorem All8.app {a b : List Ck} (ha : All8 a) (hb : All8 b) : All8 (a ++ b) := fun c hc => by
  rcases List.mem_append.1 hc with h | h
  · exact ha c h
  · exact hb c h
theorem mk_flat (n : Nat) : ((List.range (n * 8)).map fun i => Cl.d (.sc (([.int .i64 0, .int .i64 0, .int .i64 0, .int .i64 0, .int .i64 0, .int .i64 0, .int .i64 0, .int .i64 0] : List Value).getD (i % 8) undef))) = flatC (List.replicate n ckZ) := by
  have h1 : ((List.range (n * 8)).map fun i => Cl.d (.sc (([.int .i64 0, .int .i64 0, .int .i64 0, .int .i64 0, .int .i64 0, .int .i64 0, .int .i64 0, .int .i64 0] : List Value).getD (i % 8) undef))) = List.replicate (n * 8) (Cl.d (dI 0)) := by
    rw [List.eq_replicate_iff]
    refine ⟨by simp, fun c hc => ?_⟩
    obtain ⟨i, _, rfl⟩ := List.mem_map.1 hc
    have : i % 8 < 8 := Nat.mod_lt _ (by decide)
    have h : ∀ m : Fin 8, (([.int .i64 0, .int .i64 0, .int .i64 0, .int .i64 0, .int .i64 0, .int .i64 0, .int .i64 0, .int .i64 0] : List Value).getD m.val undef) = .int .i64 0 := by intro m; match m with
      | ⟨0, _⟩ => rfl
      | ⟨1, _⟩ => rfl
      | ⟨2, _⟩ => rfl
      | ⟨3, _⟩ => rfl
      | ⟨4, _⟩ => rfl
      | ⟨5, _⟩ => rfl
      | ⟨6, _⟩ => rfl
      | ⟨7, _⟩ => rfl
    rw [h ⟨i % 8, this⟩]
  rw [h1]
  clear h1
  induction n with
  | zero => rfl
  | succ n ih =>
    rw [List.replicate_succ, flatC_cons, ← ih, show (n + 1) * 8 = 8 + n * 8 by omega, ← List.replicate_append_replicate]
    rfl
theorem eqCls_ck {a b : Ck} (h : a.length = b.length) : eqCls (List.replicate a.length false) (ckCells a) (ckCells b) = some (decide (a = b)) := by
  induction a generalizing b with
  | nil =>
    cases b with
    | nil => rfl
    | cons y b => simp at h
  | cons x a ih =>
    cases b with
    | nil => simp at h
    | cons y b =>
      have h2 := ih (b := b) (by simpa using h)
      rw [List.length_cons, List.replicate_succ]
      show (match eqCl false (.d (dI x)) (.d (dI y)), eqCls (List.replicate a.length false) (ckCells a) (ckCells b) with | some p, some q => some (p && q) | _, _ => none) = _
      rw [h2]
      show some ((x == y) && decide (a = b)) = _
      congr 1
      rw [Bool.eq_iff_iff]; simp
theorem eqs_zero {a : Ck} (h : a.length = 8) : eqCls [false, false, false, false, false, false, false, false] (ckCells a) [.d (.sc (.int .i64 0)), .d (.sc (.int .i64 0)), .d (.sc (.int .i64 0)), .d (.sc (.int .i64 0)), .d (.sc (.int .i64 0)), .d (.sc (.int .i64 0)), .d (.sc (.int .i64 0)), .d (.sc (.int .i64 0))] = some (decide (a = ckZ)) := by
  have := eqCls_ck (a := a) (b := ckZ) (by rw [h]; rfl)
  rw [h] at this
  exact this
theorem flatC_dt {cs : List Ck} : allSome ((flatC cs).map Cl.dt) = some (cs.flatMap ckRow) := by
  have happ : ∀ (a b : List (Option Dt)) (x y : List Dt), allSome a = some x → allSome b = some y → allSome (a ++ b) = some (x ++ y) := by
    intro a
    induction a with
    | nil => intro b x y h1 h2; simp [allSome] at h1; subst h1; exact h2
    | cons o a ih =>
      intro b x y h1 h2
      cases o with
      | none => simp [allSome] at h1
      | some o =>
        simp only [allSome, Option.map_eq_some_iff] at h1
        obtain ⟨z, h3, rfl⟩ := h1
        simp only [List.cons_append, allSome, ih b z y h3 h2, Option.map_some]
  induction cs with
  | nil => rfl
  | cons c cs ih =>
    rw [flatC_cons, List.map_append, List.flatMap_cons]
    exact happ _ _ _ _ (ckCells_dt c) ih
theorem chunks_rows {cs : List Ck} (h : All8 cs) : chunks cs.length 8 (cs.flatMap ckRow) = cs.map ckRow := by
  induction cs with
  | nil => rfl
  | cons c cs ih =>
    have hc : (ckRow c).length = 8 := by unfold ckRow; rw [List.length_map]; exact h c (by simp)
    rw [List.length_cons, chunks, List.flatMap_cons, List.take_left' hc, List.drop_left' hc, ih (fun d hd => h d (by simp [hd])), List.map_cons]
end Go.Proofs.Ytohliamalaifhaa
end
