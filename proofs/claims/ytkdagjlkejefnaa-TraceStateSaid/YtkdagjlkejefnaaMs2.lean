/- The walk of (*trace.State).proceed. -/
import Derived.Test.YtkdagjlkejefnaaMs1
import Derived.Deep.QuietTactic
import Derived.BigQuiet
import Derived.LaidEqlPtr
import Derived.LoopTactic
import Derived.Below
import Derived.Laws.AppendOwn
import Derived.Calls
import Derived.Orders
import Derived.Laws.Cells
import Derived.Laws.Tables
import Derived.Laws.CopyRow
section
set_option linter.unusedSimpArgs false
set_option linter.unusedVariables false
namespace Go.Proofs.Ytkdagjlkejefnaa
open Go.RowKit
variable [KB]

/-- What the walks of proceed know of the world behind the first box. -/
structure PW (W : World) (sb bc eb b o c : Nat) (g kind obj off k en fn pc stack : Int) (k0 : Int) (ln : Nat) (gobj gk gn snd rcv : Int) : Prop where
  c2 : W.cell? ⟨sb, 2, none⟩ = some (.map (some bc))
  c5 : W.cell? ⟨sb, 5, none⟩ = some (.slice (some ⟨b, o, none⟩) ln c)
  c6 : W.cell? ⟨sb, 6, none⟩ = some (.int .i64 gobj)
  c7 : W.cell? ⟨sb, 7, none⟩ = some (.int .i64 gk)
  c8 : W.cell? ⟨sb, 8, none⟩ = some (.int .i64 gn)
  c9 : W.cell? ⟨sb, 9, none⟩ = some (.int .i64 snd)
  c10 : W.cell? ⟨sb, 10, none⟩ = some (.int .i64 rcv)
  f5 : W.frozen? ⟨sb, 5, none⟩ = false
  f9 : W.frozen? ⟨sb, 9, none⟩ = false
  f10 : W.frozen? ⟨sb, 10, none⟩ = false
  ck : W.cell? ⟨b, o, none⟩ = some (.int .i64 k0)
  e0 : W.cell? ⟨eb, 0, none⟩ = some (.int .i64 g)
  e1 : W.cell? ⟨eb, 1, none⟩ = some (.int .i64 kind)
  e2 : W.cell? ⟨eb, 2, none⟩ = some (.int .i64 obj)
  e3 : W.cell? ⟨eb, 3, none⟩ = some (.int .i64 off)
  e4 : W.cell? ⟨eb, 4, none⟩ = some (.int .i64 k)
  e5 : W.cell? ⟨eb, 5, none⟩ = some (.int .i64 en)
  e6 : W.cell? ⟨eb, 6, none⟩ = some (.int .i64 fn)
  e7 : W.cell? ⟨eb, 7, none⟩ = some (.int .i64 pc)
  e8 : W.cell? ⟨eb, 8, none⟩ = some (.int .i64 stack)

theorem PW.make {sb bc bm bd N : Nat} {s : TS} {kv : Value} {w : World} (h : TRep w sb bc bm bd N s kv) (g kind obj off k en fn pc stack : Int) (k0 : Int) (ks : List Int) (hk : s.grp.kinds = k0 :: ks) :
    ∃ b o c, kv = .slice (some ⟨b, o, none⟩) (ks.length + 1) c ∧ ks.length + 1 ≤ c ∧ (b ≠ sb ∧ KB.p b) ∧ b < w.heap.size ∧ (∀ i x, s.grp.kinds[i]? = some x → w.cell? ⟨b, o + i, none⟩ = some (.int .i64 x)) ∧
      PW (w.alloc (.cells #[.int .i64 g, .int .i64 kind, .int .i64 obj, .int .i64 off, .int .i64 k, .int .i64 en, .int .i64 fn, .int .i64 pc, .int .i64 stack] 31)) sb bc w.heap.size b o c g kind obj off k en fn pc stack k0 (ks.length + 1) s.grp.obj s.grp.k s.grp.n s.grp.snd s.grp.rcv := by
  obtain ⟨A, c, hkv, hlc, hh⟩ := h.kinds
  obtain ⟨b, o, rfl, hb, hc⟩ := hh (by rw [hk]; simp)
  have hlen : s.grp.kinds.length = ks.length + 1 := by rw [hk]; rfl
  rw [hlen] at hkv hlc
  have hck := hc 0 k0 (by rw [hk]; rfl)
  rw [Nat.add_zero] at hck
  have hblt := block_lt_of_cell hck
  dsimp only at hblt
  have hslt := h.lt
  have old : ∀ (q j : Nat) (v : Value) (O : Obj), q < w.heap.size → w.cell? ⟨q, j, none⟩ = some v → (w.alloc O).cell? ⟨q, j, none⟩ = some v := fun q j v O hq hv => by
    rw [World.cell?_alloc_lt w O ⟨q, j, none⟩ hq]; exact hv
  have oldf : ∀ (j : Nat) (O : Obj), (w.alloc O).frozen? ⟨sb, j, none⟩ = false := fun j O => by
    rw [((Below.refl w.heap.size w).alloc (Nat.le_refl _) O).frozen (p := ⟨sb, j, none⟩) hslt]; exact h.frozen j
  refine ⟨b, o, c, hkv, hlc, hb, hblt, hc, ?_⟩
  have nw : ∀ (j : Nat) (cs : Array Value), (w.alloc (.cells cs 31)).cell? ⟨w.heap.size, j, none⟩ = cs[j]? := fun j cs => cell_of_row _ _ _ _ _ _ (heap_alloc_new w _)
  exact ⟨old _ _ _ _ hslt (h.cell 2), old _ _ _ _ hslt (by rw [h.cell 5, ← hkv]; rfl), old _ _ _ _ hslt (h.cell 6), old _ _ _ _ hslt (h.cell 7), old _ _ _ _ hslt (h.cell 8), old _ _ _ _ hslt (h.cell 9), old _ _ _ _ hslt (h.cell 10),
    oldf _ _, oldf _ _, oldf _ _, old _ _ _ _ hblt hck, nw _ _, nw _ _, nw _ _, nw _ _, nw _ _, nw _ _, nw _ _, nw _ _, nw _ _⟩

theorem proceed_fin {sb bc bm bd N : Nat} {s : TS} {kv : Value} {w W2 : World} (h : TRep w sb bc bm bd N s kv) (hN : N + 2 < maxLen) (e : Ev) (hio : I64 e.obj)
    (hcb : ∀ c, (s.chans e.obj).getD ch0 = c → (0 ≤ c.sent ∧ c.sent ≤ 5000) ∧ (0 ≤ c.recv ∧ c.recv ≤ 5000)) {kv2 : Value} {g' : Grp}
    (hrow2 : W2.heap[sb]? = some (.cells (TCells { s with grp := g' } bc bm bd kv2) 66 (0, 0))) (hb2 : But [sb] w W2) (hk2 : KindsAt W2 kv2 g'.kinds sb) :
    Calls Try.prog 67 #[.pointer (some ⟨sb, 0, none⟩), e.val] W2 fun r w3 => r = .returned (.tuple #[]) ∧ ((∃ kv', TRep w3 sb bc bm bd (N + 2) { s.count e with grp := g' } kv') ∧ But [sb, bc] w w3) := by
  have hne := h.chans.ne_cells h.row
  have hlt := h.lt
  have hsz := hb2.size
  refine (count_any sb bc N s.chans e W2 (cell_of_row W2 sb 2 _ _ _ hrow2) (h.chans.but hb2 (by simpa using hne)) (by omega) hio hcb).mono ?_
  rintro r w3 ⟨rfl, hm5, hb4⟩
  have hbt : But [sb, bc] w w3 := (hb2.mono (by simp)).trans (hb4.mono (by simp))
  refine ⟨rfl, ⟨kv2, ⟨(hb4.block sb (by omega) (by simpa using Ne.symm hne)).trans hrow2, hk2.keep hb4 (fun b cs t fr hc _ hm => ?_), hm5.mono (by omega), (h.mus.but hbt ?_).mono (by omega), (h.done.but hbt ?_).mono (by omega), h.ncm, h.ncd, h.nmd⟩⟩, hbt⟩
  · simp only [List.mem_singleton] at hm; subst hm
    exact absurd rfl ((h.chans.but hb2 (by simpa using hne)).ne_cells hc)
  · simp only [List.mem_cons, List.not_mem_nil, or_false, not_or]; exact ⟨h.mus.ne_cells h.row, Ne.symm h.ncm⟩
  · simp only [List.mem_cons, List.not_mem_nil, or_false, not_or]; exact ⟨h.done.ne_cells h.row, Ne.symm h.ncd⟩

omit [KB] in
theorem below_drewN {B : Nat} {a w : World} (h : Below B a w) (n : Nat) : Below B a (w.drewN n) := ⟨h.os, h.tape, h.output, h.size, h.block⟩

set_option maxRecDepth 100000 in
set_option maxHeartbeats 4000000 in
theorem proceed_mis {sb bc bm bd N : Nat} {s : TS} {kv : Value} (w : World) (h : TRep w sb bc bm bd N s kv) (e : Ev) (k0 : Int) (ks : List Int) (hk : s.grp.kinds = k0 :: ks)
    (hm : (e.kind != k0) = true ∨ ((e.kind != k0) = false ∧ (e.obj != s.grp.obj) = true) ∨ ((e.kind != k0) = false ∧ (e.obj != s.grp.obj) = false ∧ (e.k != s.grp.k) = true) ∨ ((e.kind != k0) = false ∧ (e.obj != s.grp.obj) = false ∧ (e.k != s.grp.k) = false ∧ (e.n != s.grp.n) = true)) :
    Calls Try.prog 43 #[.pointer (some ⟨sb, 0, none⟩), e.val] w fun r w' => r = .returned (.bool false) ∧ Below w.heap.size w w' := by
  obtain ⟨g, kind, obj, off, k, en, fn, pc, stack⟩ := e
  obtain ⟨b, o, c, hkv, hlc, ⟨hbsb, hkbb⟩, hblt, hcs, hp⟩ := PW.make h g kind obj off k en fn pc stack k0 ks hk
  have hsb := h.lt
  have HH := Lib.hid h; clear h
  have HK := Lib.hid hk; clear hk
  have HKV := Lib.hid hkv; clear hkv
  have HCS := Lib.hid hcs; clear hcs
  dsimp only at *
  unfold Ev.val
  go_enter Try.func43, Try.ntmps43
  go_upto_region 1 with fail
  generalize hW : World.alloc w _ = W at *
  have hB : Below w.heap.size w W := by rw [← hW]; exact (Below.refl _ _).alloc (Nat.le_refl _) _
  have hz : w.heap.size < W.heap.size := by rw [← hW]; simp
  clear hW
  have HB := Lib.hid hB; clear hB
  obtain ⟨c2, c5, c6, c7, c8, c9, c10, f5, f9, f10, ck, e0, e1, e2, e3, e4, e5, e6, e7, e8⟩ := hp
  rcases hm with h1 | ⟨h1, h2⟩ | ⟨h1, h2, h3⟩ | ⟨h1, h2, h3, h4⟩
  all_goals
    go_wp2
    go_quiet (fail)
    go_wp2
    go_ret
    exact ⟨rfl, by repeat (first | exact HB.out | refine below_drewN ?_ _)⟩

set_option maxRecDepth 100000 in
set_option maxHeartbeats 4000000 in
theorem proceed_noS {sb bc bm bd N : Nat} {s : TS} {kv : Value} (w : World) (h : TRep w sb bc bm bd N s kv) (e : Ev) (k0 : Int) (ks : List Int) (hk : s.grp.kinds = k0 :: ks)
    (h1 : (e.kind != k0) = false) (h2 : (e.obj != s.grp.obj) = false) (h3 : (e.k != s.grp.k) = false) (h4 : (e.n != s.grp.n) = false) (hs : sendsB e.kind = true) (hm : (decide (s.grp.snd < 0) = true ∧ (e.g == s.grp.rcv) = true) ∨ (decide (s.grp.snd < 0) = false ∧ decide (0 ≤ s.grp.snd) = true ∧ (e.g != s.grp.snd) = true)) :
    Calls Try.prog 43 #[.pointer (some ⟨sb, 0, none⟩), e.val] w fun r w' => r = .returned (.bool false) ∧ Below w.heap.size w w' := by
  obtain ⟨g, kind, obj, off, k, en, fn, pc, stack⟩ := e
  obtain ⟨b, o, c, hkv, hlc, ⟨hbsb, hkbb⟩, hblt, hcs, hp⟩ := PW.make h g kind obj off k en fn pc stack k0 ks hk
  have hsb := h.lt
  have HH := Lib.hid h; clear h
  have HK := Lib.hid hk; clear hk
  have HKV := Lib.hid hkv; clear hkv
  have HCS := Lib.hid hcs; clear hcs
  dsimp only at *
  unfold Ev.val
  go_enter Try.func43, Try.ntmps43
  go_upto_region 1 with fail
  generalize hW : World.alloc w _ = W at *
  have hB : Below w.heap.size w W := by rw [← hW]; exact (Below.refl _ _).alloc (Nat.le_refl _) _
  have hz : w.heap.size < W.heap.size := by rw [← hW]; simp
  clear hW
  have HB := Lib.hid hB; clear hB
  obtain ⟨c2, c5, c6, c7, c8, c9, c10, f5, f9, f10, ck, e0, e1, e2, e3, e4, e5, e6, e7, e8⟩ := hp
  rcases hm with ⟨h5, h6⟩ | ⟨h5, h6, h7⟩
  all_goals
    go_wp2
    go_quiet (fail)
    go_wp2
    go_quiet (fail)
    go_wp2_with (go_at_call 66; refine (sends_any _ _).mono ?_; rintro e w' ⟨rfl, rfl⟩)
    go_quiet (fail)
    go_wp2
    go_quiet (fail)
    go_wp2
    go_ret
    exact ⟨rfl, by repeat (first | exact HB.out | refine below_drewN ?_ _)⟩

set_option maxRecDepth 100000 in
set_option maxHeartbeats 4000000 in
theorem proceed_yesS {sb bc bm bd N : Nat} {s : TS} {kv : Value} (w : World) (h : TRep w sb bc bm bd N s kv) (hN : N + 2 < maxLen) (e : Ev) (hio : I64 e.obj) (k0 : Int) (ks : List Int) (hk : s.grp.kinds = k0 :: ks)
    (hcb : ∀ c, (s.chans e.obj).getD ch0 = c → (0 ≤ c.sent ∧ c.sent ≤ 5000) ∧ (0 ≤ c.recv ∧ c.recv ≤ 5000))
    (h1 : (e.kind != k0) = false) (h2 : (e.obj != s.grp.obj) = false) (h3 : (e.k != s.grp.k) = false) (h4 : (e.n != s.grp.n) = false) (hs : sendsB e.kind = true) (hm : (decide (s.grp.snd < 0) = true ∧ (e.g == s.grp.rcv) = false ∧ decide (0 ≤ s.grp.snd) = false) ∨ (decide (s.grp.snd < 0) = false ∧ decide (0 ≤ s.grp.snd) = true ∧ (e.g != s.grp.snd) = false)) :
    Calls Try.prog 43 #[.pointer (some ⟨sb, 0, none⟩), e.val] w fun r w' => r = .returned (.bool true) ∧ (∃ kv', TRep w' sb bc bm bd (N + 2) { s.count e with grp := s.grp.next e } kv') ∧ But [sb, bc] w w' := by
  obtain ⟨g, kind, obj, off, k, en, fn, pc, stack⟩ := e
  obtain ⟨b, o, c, hkv, hlc, ⟨hbsb, hkbb⟩, hblt, hcs, hp⟩ := PW.make h g kind obj off k en fn pc stack k0 ks hk
  have hsb := h.lt
  have HH := Lib.hid h; clear h
  have HK := Lib.hid hk; clear hk
  have HKV := Lib.hid hkv; clear hkv
  have HCS := Lib.hid hcs; clear hcs
  dsimp only at *
  unfold Ev.val
  go_enter Try.func43, Try.ntmps43
  go_upto_region 1 with fail
  generalize hW : World.alloc w _ = W at *
  have hB : Below w.heap.size w W := by rw [← hW]; exact (Below.refl _ _).alloc (Nat.le_refl _) _
  have hz : w.heap.size < W.heap.size := by rw [← hW]; simp
  clear hW
  have HB := Lib.hid hB; clear hB
  obtain ⟨c2, c5, c6, c7, c8, c9, c10, f5, f9, f10, ck, e0, e1, e2, e3, e4, e5, e6, e7, e8⟩ := hp
  have HCB := Lib.hid hcb; clear hcb
  rcases hm with ⟨h5, h6, h7⟩ | ⟨h5, h6, h7⟩
  all_goals
    go_wp2
    go_quiet (fail)
    go_wp2
    go_quiet (fail)
    go_wp2_with (go_at_call 66; refine (sends_any _ _).mono ?_; rintro e w' ⟨rfl, rfl⟩)
    go_quiet (fail)
    go_wp2
    go_quiet (fail)
    go_upto_region 10 with fail
    generalize hV : World.setCell _ _ _ = V
    have hrow : V.heap[sb]? = some (.cells ((TCells s bc bm bd kv).setIfInBounds 9 (.int .i64 g)) 66 (0, 0)) := by
      rw [← hV]; exact heap_setCell_same _ _ _ _ _ _ ((HB.out.block sb hsb).trans HH.out.row)
    have hbV : But [sb] W V := by rw [← hV]; exact ((But.refl _ _).drewN _).setCell (.inl (by simp)) _
    clear hV c2 c5 c6 c7 c8 c9 c10 f5 f9 f10 ck
    have ke : ∀ j v, W.cell? ⟨w.heap.size, j, none⟩ = some v → V.cell? ⟨w.heap.size, j, none⟩ = some v := fun j v hv => (hbV.cell (p := ⟨w.heap.size, j, none⟩) hz (by simp; omega)).trans hv
    have e0 := ke _ _ e0
    have e1 := ke _ _ e1
    have e2 := ke _ _ e2
    have e3 := ke _ _ e3
    have e4 := ke _ _ e4
    have e5 := ke _ _ e5
    have e6 := ke _ _ e6
    have e7 := ke _ _ e7
    have e8 := ke _ _ e8
    have c5 : V.cell? ⟨sb, 5, none⟩ = some (.slice (some ⟨b, o, none⟩) (ks.length + 1) c) := by rw [cell_of_row V sb 5 _ _ _ hrow, ← HKV.out]; rfl
    have f5 : V.frozen? ⟨sb, 5, none⟩ = false := frozen_of_row V sb 5 _ _ hrow
    have HR := Lib.hid hrow; clear hrow ke
    have HBV := Lib.hid hbV; clear hbV
    by_cases hc1 : c = 1
    · subst hc1
      go_wp2_with fail
      have hks : ks = [] := by cases ks with | nil => rfl | cons a l => simp at hlc
      generalize hW2 : World.setCell V _ _ = W2
      have hrow2 : W2.heap[sb]? = some (.cells (TCells { s with grp := s.grp.next ⟨g, kind, obj, off, k, en, fn, pc, stack⟩ } bc bm bd (.slice (some ⟨b, o, none⟩) 0 0)) 66 (0, 0)) := by
        rw [← hW2, heap_setCell_same _ _ _ _ _ _ HR.out]; simp [TCells, Grp.next, hs]
      have hb2 : But [sb] w W2 := by
        rw [← hW2]; exact (((But.refl _ _).below HB.out).trans HBV.out).setCell (.inl (by simp)) _
      clear hW2
      have hk2 : KindsAt W2 (.slice (some ⟨b, o, none⟩) 0 0) (s.grp.next ⟨g, kind, obj, off, k, en, fn, pc, stack⟩).kinds sb := by
        have hkk : (s.grp.next ⟨g, kind, obj, off, k, en, fn, pc, stack⟩).kinds = [] := by simp [Grp.next, hs, HK.out, hks]
        rw [hkk]; exact ⟨_, _, rfl, Nat.le_refl _, fun h0 => absurd h0 (by simp)⟩
      refine (proceed_fin HH.out hN ⟨g, kind, obj, off, k, en, fn, pc, stack⟩ hio HCB.out hrow2 hb2 hk2).mono ?_
      rintro r w3 ⟨rfl, hfin⟩
      have HF := Lib.hid hfin; clear hfin hrow2 hb2 hk2
      go_wp2
      go_ret
      exact ⟨rfl, HF.out⟩
    · have hc2 : 1 < c := by omega
      go_wp2_with fail
      generalize hW2 : World.setCell V _ _ = W2
      have hrow2 : W2.heap[sb]? = some (.cells (TCells { s with grp := s.grp.next ⟨g, kind, obj, off, k, en, fn, pc, stack⟩ } bc bm bd (.slice (some ⟨b, o + 1, none⟩) ks.length (c - 1))) 66 (0, 0)) := by
        rw [← hW2, heap_setCell_same _ _ _ _ _ _ HR.out]; simp [TCells, Grp.next, hs]
      have hb2 : But [sb] w W2 := by
        rw [← hW2]; exact (((But.refl _ _).below HB.out).trans HBV.out).setCell (.inl (by simp)) _
      clear hW2
      have hk2 : KindsAt W2 (.slice (some ⟨b, o + 1, none⟩) ks.length (c - 1)) (s.grp.next ⟨g, kind, obj, off, k, en, fn, pc, stack⟩).kinds sb := by
        have hkk : (s.grp.next ⟨g, kind, obj, off, k, en, fn, pc, stack⟩).kinds = ks := by simp [Grp.next, hs, HK.out]
        rw [hkk]
        refine ⟨_, _, rfl, by omega, fun h0 => ⟨b, o + 1, rfl, ⟨hbsb, hkbb⟩, fun i x hx => ?_⟩⟩
        have hx0 := HCS.out (i + 1) x (by rw [HK.out]; simpa using hx)
        rw [show o + 1 + i = o + (i + 1) by omega]
        exact (hb2.cell (p := ⟨b, o + (i + 1), none⟩) hblt (by simpa using hbsb)).trans hx0
      refine (proceed_fin HH.out hN ⟨g, kind, obj, off, k, en, fn, pc, stack⟩ hio HCB.out hrow2 hb2 hk2).mono ?_
      rintro r w3 ⟨rfl, hfin⟩
      have HF := Lib.hid hfin; clear hfin hrow2 hb2 hk2
      go_wp2
      go_ret
      exact ⟨rfl, HF.out⟩

set_option maxRecDepth 100000 in
set_option maxHeartbeats 4000000 in
theorem proceed_noR {sb bc bm bd N : Nat} {s : TS} {kv : Value} (w : World) (h : TRep w sb bc bm bd N s kv) (e : Ev) (k0 : Int) (ks : List Int) (hk : s.grp.kinds = k0 :: ks)
    (h1 : (e.kind != k0) = false) (h2 : (e.obj != s.grp.obj) = false) (h3 : (e.k != s.grp.k) = false) (h4 : (e.n != s.grp.n) = false) (hs : sendsB e.kind = false) (hm : (decide (s.grp.rcv < 0) = true ∧ (e.g == s.grp.snd) = true) ∨ (decide (s.grp.rcv < 0) = false ∧ decide (0 ≤ s.grp.rcv) = true ∧ (e.g != s.grp.rcv) = true)) :
    Calls Try.prog 43 #[.pointer (some ⟨sb, 0, none⟩), e.val] w fun r w' => r = .returned (.bool false) ∧ Below w.heap.size w w' := by
  obtain ⟨g, kind, obj, off, k, en, fn, pc, stack⟩ := e
  obtain ⟨b, o, c, hkv, hlc, ⟨hbsb, hkbb⟩, hblt, hcs, hp⟩ := PW.make h g kind obj off k en fn pc stack k0 ks hk
  have hsb := h.lt
  have HH := Lib.hid h; clear h
  have HK := Lib.hid hk; clear hk
  have HKV := Lib.hid hkv; clear hkv
  have HCS := Lib.hid hcs; clear hcs
  dsimp only at *
  unfold Ev.val
  go_enter Try.func43, Try.ntmps43
  go_upto_region 1 with fail
  generalize hW : World.alloc w _ = W at *
  have hB : Below w.heap.size w W := by rw [← hW]; exact (Below.refl _ _).alloc (Nat.le_refl _) _
  have hz : w.heap.size < W.heap.size := by rw [← hW]; simp
  clear hW
  have HB := Lib.hid hB; clear hB
  obtain ⟨c2, c5, c6, c7, c8, c9, c10, f5, f9, f10, ck, e0, e1, e2, e3, e4, e5, e6, e7, e8⟩ := hp
  rcases hm with ⟨h5, h6⟩ | ⟨h5, h6, h7⟩
  all_goals
    go_wp2
    go_quiet (fail)
    go_wp2
    go_quiet (fail)
    go_wp2_with (go_at_call 66; refine (sends_any _ _).mono ?_; rintro e w' ⟨rfl, rfl⟩)
    go_quiet (fail)
    go_wp2
    go_ret
    exact ⟨rfl, by repeat (first | exact HB.out | refine below_drewN ?_ _)⟩

set_option maxRecDepth 100000 in
set_option maxHeartbeats 4000000 in
theorem proceed_yesR {sb bc bm bd N : Nat} {s : TS} {kv : Value} (w : World) (h : TRep w sb bc bm bd N s kv) (hN : N + 2 < maxLen) (e : Ev) (hio : I64 e.obj) (k0 : Int) (ks : List Int) (hk : s.grp.kinds = k0 :: ks)
    (hcb : ∀ c, (s.chans e.obj).getD ch0 = c → (0 ≤ c.sent ∧ c.sent ≤ 5000) ∧ (0 ≤ c.recv ∧ c.recv ≤ 5000))
    (h1 : (e.kind != k0) = false) (h2 : (e.obj != s.grp.obj) = false) (h3 : (e.k != s.grp.k) = false) (h4 : (e.n != s.grp.n) = false) (hs : sendsB e.kind = false) (hm : (decide (s.grp.rcv < 0) = true ∧ (e.g == s.grp.snd) = false ∧ decide (0 ≤ s.grp.rcv) = false) ∨ (decide (s.grp.rcv < 0) = false ∧ decide (0 ≤ s.grp.rcv) = true ∧ (e.g != s.grp.rcv) = false)) :
    Calls Try.prog 43 #[.pointer (some ⟨sb, 0, none⟩), e.val] w fun r w' => r = .returned (.bool true) ∧ (∃ kv', TRep w' sb bc bm bd (N + 2) { s.count e with grp := s.grp.next e } kv') ∧ But [sb, bc] w w' := by
  obtain ⟨g, kind, obj, off, k, en, fn, pc, stack⟩ := e
  obtain ⟨b, o, c, hkv, hlc, ⟨hbsb, hkbb⟩, hblt, hcs, hp⟩ := PW.make h g kind obj off k en fn pc stack k0 ks hk
  have hsb := h.lt
  have HH := Lib.hid h; clear h
  have HK := Lib.hid hk; clear hk
  have HKV := Lib.hid hkv; clear hkv
  have HCS := Lib.hid hcs; clear hcs
  dsimp only at *
  unfold Ev.val
  go_enter Try.func43, Try.ntmps43
  go_upto_region 1 with fail
  generalize hW : World.alloc w _ = W at *
  have hB : Below w.heap.size w W := by rw [← hW]; exact (Below.refl _ _).alloc (Nat.le_refl _) _
  have hz : w.heap.size < W.heap.size := by rw [← hW]; simp
  clear hW
  have HB := Lib.hid hB; clear hB
  obtain ⟨c2, c5, c6, c7, c8, c9, c10, f5, f9, f10, ck, e0, e1, e2, e3, e4, e5, e6, e7, e8⟩ := hp
  have HCB := Lib.hid hcb; clear hcb
  rcases hm with ⟨h5, h6, h7⟩ | ⟨h5, h6, h7⟩
  all_goals
    go_wp2
    go_quiet (fail)
    go_wp2
    go_quiet (fail)
    go_wp2_with (go_at_call 66; refine (sends_any _ _).mono ?_; rintro e w' ⟨rfl, rfl⟩)
    go_quiet (fail)
    go_upto_region 10 with fail
    generalize hV : World.setCell _ _ _ = V
    have hrow : V.heap[sb]? = some (.cells ((TCells s bc bm bd kv).setIfInBounds 10 (.int .i64 g)) 66 (0, 0)) := by
      rw [← hV]; exact heap_setCell_same _ _ _ _ _ _ ((HB.out.block sb hsb).trans HH.out.row)
    have hbV : But [sb] W V := by rw [← hV]; exact ((But.refl _ _).drewN _).setCell (.inl (by simp)) _
    clear hV c2 c5 c6 c7 c8 c9 c10 f5 f9 f10 ck
    have ke : ∀ j v, W.cell? ⟨w.heap.size, j, none⟩ = some v → V.cell? ⟨w.heap.size, j, none⟩ = some v := fun j v hv => (hbV.cell (p := ⟨w.heap.size, j, none⟩) hz (by simp; omega)).trans hv
    have e0 := ke _ _ e0
    have e1 := ke _ _ e1
    have e2 := ke _ _ e2
    have e3 := ke _ _ e3
    have e4 := ke _ _ e4
    have e5 := ke _ _ e5
    have e6 := ke _ _ e6
    have e7 := ke _ _ e7
    have e8 := ke _ _ e8
    have c5 : V.cell? ⟨sb, 5, none⟩ = some (.slice (some ⟨b, o, none⟩) (ks.length + 1) c) := by rw [cell_of_row V sb 5 _ _ _ hrow, ← HKV.out]; rfl
    have f5 : V.frozen? ⟨sb, 5, none⟩ = false := frozen_of_row V sb 5 _ _ hrow
    have HR := Lib.hid hrow; clear hrow ke
    have HBV := Lib.hid hbV; clear hbV
    by_cases hc1 : c = 1
    · subst hc1
      go_wp2_with fail
      have hks : ks = [] := by cases ks with | nil => rfl | cons a l => simp at hlc
      generalize hW2 : World.setCell V _ _ = W2
      have hrow2 : W2.heap[sb]? = some (.cells (TCells { s with grp := s.grp.next ⟨g, kind, obj, off, k, en, fn, pc, stack⟩ } bc bm bd (.slice (some ⟨b, o, none⟩) 0 0)) 66 (0, 0)) := by
        rw [← hW2, heap_setCell_same _ _ _ _ _ _ HR.out]; simp [TCells, Grp.next, hs]
      have hb2 : But [sb] w W2 := by
        rw [← hW2]; exact (((But.refl _ _).below HB.out).trans HBV.out).setCell (.inl (by simp)) _
      clear hW2
      have hk2 : KindsAt W2 (.slice (some ⟨b, o, none⟩) 0 0) (s.grp.next ⟨g, kind, obj, off, k, en, fn, pc, stack⟩).kinds sb := by
        have hkk : (s.grp.next ⟨g, kind, obj, off, k, en, fn, pc, stack⟩).kinds = [] := by simp [Grp.next, hs, HK.out, hks]
        rw [hkk]; exact ⟨_, _, rfl, Nat.le_refl _, fun h0 => absurd h0 (by simp)⟩
      refine (proceed_fin HH.out hN ⟨g, kind, obj, off, k, en, fn, pc, stack⟩ hio HCB.out hrow2 hb2 hk2).mono ?_
      rintro r w3 ⟨rfl, hfin⟩
      have HF := Lib.hid hfin; clear hfin hrow2 hb2 hk2
      go_wp2
      go_ret
      exact ⟨rfl, HF.out⟩
    · have hc2 : 1 < c := by omega
      go_wp2_with fail
      generalize hW2 : World.setCell V _ _ = W2
      have hrow2 : W2.heap[sb]? = some (.cells (TCells { s with grp := s.grp.next ⟨g, kind, obj, off, k, en, fn, pc, stack⟩ } bc bm bd (.slice (some ⟨b, o + 1, none⟩) ks.length (c - 1))) 66 (0, 0)) := by
        rw [← hW2, heap_setCell_same _ _ _ _ _ _ HR.out]; simp [TCells, Grp.next, hs]
      have hb2 : But [sb] w W2 := by
        rw [← hW2]; exact (((But.refl _ _).below HB.out).trans HBV.out).setCell (.inl (by simp)) _
      clear hW2
      have hk2 : KindsAt W2 (.slice (some ⟨b, o + 1, none⟩) ks.length (c - 1)) (s.grp.next ⟨g, kind, obj, off, k, en, fn, pc, stack⟩).kinds sb := by
        have hkk : (s.grp.next ⟨g, kind, obj, off, k, en, fn, pc, stack⟩).kinds = ks := by simp [Grp.next, hs, HK.out]
        rw [hkk]
        refine ⟨_, _, rfl, by omega, fun h0 => ⟨b, o + 1, rfl, ⟨hbsb, hkbb⟩, fun i x hx => ?_⟩⟩
        have hx0 := HCS.out (i + 1) x (by rw [HK.out]; simpa using hx)
        rw [show o + 1 + i = o + (i + 1) by omega]
        exact (hb2.cell (p := ⟨b, o + (i + 1), none⟩) hblt (by simpa using hbsb)).trans hx0
      refine (proceed_fin HH.out hN ⟨g, kind, obj, off, k, en, fn, pc, stack⟩ hio HCB.out hrow2 hb2 hk2).mono ?_
      rintro r w3 ⟨rfl, hfin⟩
      have HF := Lib.hid hfin; clear hfin hrow2 hb2 hk2
      go_wp2
      go_ret
      exact ⟨rfl, HF.out⟩

theorem proceed_any {sb bc bm bd N : Nat} {s : TS} {kv : Value} (w : World) (h : TRep w sb bc bm bd N s kv) (hs : s.wf) (hN : N + 2 < maxLen) (e : Ev) (hv : e.valid = true) (ho : s.isOpen = true) :
    Calls Try.prog 43 #[.pointer (some ⟨sb, 0, none⟩), e.val] w fun r w' => r = .returned (.bool (s.proceed e).isSome) ∧ (∃ kv', TRep w' sb bc bm bd (N + 2) ((s.proceed e).getD s) kv') ∧ But [sb, bc] w w' := by
  obtain ⟨k0, ks, hk⟩ : ∃ k0 ks, s.grp.kinds = k0 :: ks := by
    unfold TS.isOpen at ho
    cases hkk : s.grp.kinds with
    | nil => rw [hkk] at ho; simp at ho
    | cons a l => exact ⟨a, l, rfl⟩
  have hio : I64 e.obj := by have := Ev.valid_obj hv; exact ⟨by omega, by omega⟩
  have hcb : ∀ c, (s.chans e.obj).getD ch0 = c → (0 ≤ c.sent ∧ c.sent ≤ 5000) ∧ (0 ≤ c.recv ∧ c.recv ≤ 5000) := by
    rintro c rfl
    have := hs.ev
    cases hc : s.chans e.obj with
    | none => simp [ch0]
    | some c => have := hs.ch _ _ hc; simp only [Option.getD_some]; omega
  have no : s.proceed e = none → ∀ {P : Prop}, (Calls Try.prog 43 #[.pointer (some ⟨sb, 0, none⟩), e.val] w fun r w' => r = .returned (.bool false) ∧ Below w.heap.size w w') →
      Calls Try.prog 43 #[.pointer (some ⟨sb, 0, none⟩), e.val] w fun r w' => r = .returned (.bool (s.proceed e).isSome) ∧ (∃ kv', TRep w' sb bc bm bd (N + 2) ((s.proceed e).getD s) kv') ∧ But [sb, bc] w w' := fun hn _ hc => by
    rw [hn]
    exact hc.mono fun r w' ⟨h1, h2⟩ => ⟨h1, ⟨kv, (h.below h2).mono (by omega)⟩, (But.refl _ _).below h2⟩
  have hfd : s.grp.fits e = (decide (e.kind = k0 ∧ e.obj = s.grp.obj ∧ e.k = s.grp.k ∧ e.n = s.grp.n) && !(decide (s.grp.own e.kind < 0 ∧ e.g = s.grp.other e.kind) || decide (0 ≤ s.grp.own e.kind ∧ e.g ≠ s.grp.own e.kind))) := by
    unfold Grp.fits; rw [hk]; rfl
  by_cases m1 : e.kind = k0 ∧ e.obj = s.grp.obj ∧ e.k = s.grp.k ∧ e.n = s.grp.n
  · obtain ⟨a1, a2, a3, a4⟩ := m1
    have b1 : (e.kind != k0) = false := by simp [a1]
    have b2 : (e.obj != s.grp.obj) = false := by simp [a2]
    have b3 : (e.k != s.grp.k) = false := by simp [a3]
    have b4 : (e.n != s.grp.n) = false := by simp [a4]
    rw [decide_eq_true (⟨a1, a2, a3, a4⟩ : _ ∧ _ ∧ _ ∧ _), Bool.true_and] at hfd
    cases hsd : sendsB e.kind with
    | true =>
      have own : s.grp.own e.kind = s.grp.snd := by unfold Grp.own; rw [if_pos hsd]
      have oth : s.grp.other e.kind = s.grp.rcv := by unfold Grp.other; rw [if_pos hsd]
      rw [own, oth] at hfd
      by_cases q1 : s.grp.snd < 0
      · by_cases q2 : e.g = s.grp.rcv
        · refine no ?_ (P := True) (proceed_noS w h e k0 ks hk b1 b2 b3 b4 hsd (.inl ⟨by simpa using q1, by simpa using q2⟩))
          unfold TS.proceed; rw [if_neg]; rw [hfd]; simp [q1, q2]
        · have hy : s.proceed e = some { s.count e with grp := s.grp.next e } := by
            unfold TS.proceed; rw [if_pos]; rw [hfd]; simp [q2]; omega
          rw [hy]
          exact proceed_yesS w h hN e hio k0 ks hk hcb b1 b2 b3 b4 hsd (.inl ⟨by simpa using q1, by simpa using q2, by simpa using q1⟩)
      · by_cases q2 : e.g = s.grp.snd
        · have hy : s.proceed e = some { s.count e with grp := s.grp.next e } := by
            unfold TS.proceed; rw [if_pos]; rw [hfd]; simp [q2]; omega
          rw [hy]
          exact proceed_yesS w h hN e hio k0 ks hk hcb b1 b2 b3 b4 hsd (.inr ⟨by simpa using q1, by simp; omega, by simpa using q2⟩)
        · refine no ?_ (P := True) (proceed_noS w h e k0 ks hk b1 b2 b3 b4 hsd (.inr ⟨by simpa using q1, by simp; omega, by simpa using q2⟩))
          unfold TS.proceed; rw [if_neg]; rw [hfd]; simp [q2]; omega
    | false =>
      have own : s.grp.own e.kind = s.grp.rcv := by unfold Grp.own; rw [if_neg (by rw [hsd]; decide)]
      have oth : s.grp.other e.kind = s.grp.snd := by unfold Grp.other; rw [if_neg (by rw [hsd]; decide)]
      rw [own, oth] at hfd
      by_cases q1 : s.grp.rcv < 0
      · by_cases q2 : e.g = s.grp.snd
        · refine no ?_ (P := True) (proceed_noR w h e k0 ks hk b1 b2 b3 b4 hsd (.inl ⟨by simpa using q1, by simpa using q2⟩))
          unfold TS.proceed; rw [if_neg]; rw [hfd]; simp [q1, q2]
        · have hy : s.proceed e = some { s.count e with grp := s.grp.next e } := by
            unfold TS.proceed; rw [if_pos]; rw [hfd]; simp [q2]; omega
          rw [hy]
          exact proceed_yesR w h hN e hio k0 ks hk hcb b1 b2 b3 b4 hsd (.inl ⟨by simpa using q1, by simpa using q2, by simpa using q1⟩)
      · by_cases q2 : e.g = s.grp.rcv
        · have hy : s.proceed e = some { s.count e with grp := s.grp.next e } := by
            unfold TS.proceed; rw [if_pos]; rw [hfd]; simp [q2]; omega
          rw [hy]
          exact proceed_yesR w h hN e hio k0 ks hk hcb b1 b2 b3 b4 hsd (.inr ⟨by simpa using q1, by simp; omega, by simpa using q2⟩)
        · refine no ?_ (P := True) (proceed_noR w h e k0 ks hk b1 b2 b3 b4 hsd (.inr ⟨by simpa using q1, by simp; omega, by simpa using q2⟩))
          unfold TS.proceed; rw [if_neg]; rw [hfd]; simp [q2]; omega
  · refine no ?_ (P := True) (proceed_mis w h e k0 ks hk ?_)
    · unfold TS.proceed; rw [if_neg]; rw [hfd, decide_eq_false m1]; simp
    · by_cases a1 : e.kind = k0
      · by_cases a2 : e.obj = s.grp.obj
        · by_cases a3 : e.k = s.grp.k
          · have a4 : e.n ≠ s.grp.n := fun a4 => m1 ⟨a1, a2, a3, a4⟩
            exact .inr (.inr (.inr ⟨by simp [a1], by simp [a2], by simp [a3], by simpa using a4⟩))
          · exact .inr (.inr (.inl ⟨by simp [a1], by simp [a2], by simpa using a3⟩))
        · exact .inr (.inl ⟨by simp [a1], by simpa using a2⟩)
      · exact .inl (by simpa using a1)

end Go.Proofs.Ytkdagjlkejefnaa
end
section
set_option linter.unusedSimpArgs false
set_option linter.unusedVariables false
namespace Go.Proofs.Ytkdagjlkejefnaa
section
variable {s : TS} {g kind obj off k en fn pc stack readers : Int} {locked : Bool}
  (hm : s.mu ⟨g, kind, obj, off, k, en, fn, pc, stack⟩ = ⟨locked, readers⟩)
include hm
theorem TS.si_eq : s.simple ⟨g, kind, obj, off, k, en, fn, pc, stack⟩ =
    if kind = 6 then (if locked = true ∨ 0 < readers then none else some { s with mus := upd s.mus (obj, off) ⟨true, readers⟩ })
    else if kind = 7 then (if locked = false then none else some { s with mus := upd s.mus (obj, off) ⟨false, readers⟩ })
    else if kind = 8 then (if locked = true then none else some { s with mus := upd s.mus (obj, off) ⟨locked, readers + 1⟩ })
    else if kind = 9 then (if readers = 0 then none else some { s with mus := upd s.mus (obj, off) ⟨locked, readers - 1⟩ })
    else if kind = 12 then (if (s.done (obj, off)).getD false = true then none else some { s with done := upd s.done (obj, off) true })
    else if kind = 13 then (if (s.done (obj, off)).getD false = true then some s else none)
    else if kind = 14 then (if k ≠ s.gor then none else some { s with gor := s.gor + 1 })
    else some s := by
  unfold TS.simple; rw [hm]
theorem TS.si_6a (h1 : (kind == 6) = true) (h2 : locked = true) : s.simple ⟨g, kind, obj, off, k, en, fn, pc, stack⟩ = none := by rw [TS.si_eq hm]; simp_all
theorem TS.si_6b (h1 : (kind == 6) = true) (h2 : 0 < readers) : s.simple ⟨g, kind, obj, off, k, en, fn, pc, stack⟩ = none := by rw [TS.si_eq hm]; simp_all
theorem TS.si_6c (h1 : (kind == 6) = true) (h2 : ¬locked = true) (h3 : readers ≤ 0) : s.simple ⟨g, kind, obj, off, k, en, fn, pc, stack⟩ = some { s with mus := upd s.mus (obj, off) ⟨true, readers⟩ } := by
  rw [TS.si_eq hm, if_pos (by simpa using h1), if_neg (by rw [not_or]; exact ⟨h2, by omega⟩)]
theorem TS.si_7a (h1 : (kind == 7) = true) (h2 : (!locked) = true) : s.simple ⟨g, kind, obj, off, k, en, fn, pc, stack⟩ = none := by rw [TS.si_eq hm]; simp_all
theorem TS.si_7b (h1 : (kind == 7) = true) (h2 : (!locked) = false) : s.simple ⟨g, kind, obj, off, k, en, fn, pc, stack⟩ = some { s with mus := upd s.mus (obj, off) ⟨false, readers⟩ } := by rw [TS.si_eq hm]; simp_all
theorem TS.si_8a (h1 : (kind == 8) = true) (h2 : locked = true) : s.simple ⟨g, kind, obj, off, k, en, fn, pc, stack⟩ = none := by rw [TS.si_eq hm]; simp_all
theorem TS.si_8b (h1 : (kind == 8) = true) (h2 : locked = false) : s.simple ⟨g, kind, obj, off, k, en, fn, pc, stack⟩ = some { s with mus := upd s.mus (obj, off) ⟨locked, readers + 1⟩ } := by rw [TS.si_eq hm]; simp_all
theorem TS.si_9a (h1 : (kind == 9) = true) (h2 : (readers == 0) = true) : s.simple ⟨g, kind, obj, off, k, en, fn, pc, stack⟩ = none := by rw [TS.si_eq hm]; simp_all
theorem TS.si_9b (h1 : (kind == 9) = true) (h2 : (readers == 0) = false) : s.simple ⟨g, kind, obj, off, k, en, fn, pc, stack⟩ = some { s with mus := upd s.mus (obj, off) ⟨locked, readers - 1⟩ } := by rw [TS.si_eq hm]; simp_all
theorem TS.si_12 (h1 : (kind == 12) = true) : s.simple ⟨g, kind, obj, off, k, en, fn, pc, stack⟩ = if (s.done (obj, off)).getD false = true then none else some { s with done := upd s.done (obj, off) true } := by
  have hk : kind = 12 := by simpa using h1
  subst hk; rw [TS.si_eq hm]; simp
theorem TS.si_13 (h1 : (kind == 13) = true) : s.simple ⟨g, kind, obj, off, k, en, fn, pc, stack⟩ = if (s.done (obj, off)).getD false = true then some s else none := by
  have hk : kind = 13 := by simpa using h1
  subst hk; rw [TS.si_eq hm]; simp
theorem TS.si_14a (h1 : (kind == 14) = true) (h2 : (k != s.gor) = true) : s.simple ⟨g, kind, obj, off, k, en, fn, pc, stack⟩ = none := by rw [TS.si_eq hm]; simp_all
theorem TS.si_14b (h1 : (kind == 14) = true) (h2 : (k != s.gor) = false) : s.simple ⟨g, kind, obj, off, k, en, fn, pc, stack⟩ = some { s with gor := s.gor + 1 } := by rw [TS.si_eq hm]; simp_all
theorem TS.si_no (h6 : (kind == 6) = false) (h7 : (kind == 7) = false) (h8 : (kind == 8) = false) (h9 : (kind == 9) = false) (h12 : (kind == 12) = false) (h13 : (kind == 13) = false) (h14 : (kind == 14) = false) :
    s.simple ⟨g, kind, obj, off, k, en, fn, pc, stack⟩ = some s := by rw [TS.si_eq hm]; simp_all
end
end Go.Proofs.Ytkdagjlkejefnaa
end
section
set_option linter.unusedSimpArgs false
set_option linter.unusedVariables false
namespace Go.Proofs.Ytkdagjlkejefnaa
open Go.RowKit
variable [KB]

set_option maxRecDepth 100000 in
set_option maxHeartbeats 4000000 in
theorem simple_any {sb bc bm bd N : Nat} {s : TS} {kv : Value} (w : World) (h : TRep w sb bc bm bd N s kv) (hs : s.wf) (hN : N + 2 < maxLen) (e : Ev) (hv : e.valid = true) :
    Calls Try.prog 46 #[.pointer (some ⟨sb, 0, none⟩), e.val] w fun r w' => r = .returned (.bool (s.simple e).isSome) ∧ (∃ kv', TRep w' sb bc bm bd (N + 2) ((s.simple e).getD s) kv') ∧ But [sb, bm, bd] w w' := by
  have hbd := TS.mu_bd hs e
  have hvo := Ev.valid_obj hv
  have hvf := Ev.valid_off hv
  have hio : (Lit.int .i64 e.obj).wf = true ∧ (Lit.int .i64 e.off).wf = true := ⟨wf_i64 ⟨by omega, by omega⟩, wf_i64 ⟨by omega, by omega⟩⟩
  have hval : ((muMap s.mus (e.obj, e.off)).getD mu0.val) = (s.mu e).val := by unfold muMap TS.mu; cases s.mus (e.obj, e.off) <;> rfl
  obtain ⟨m, hm0⟩ : ∃ m, s.mu e = m := ⟨_, rfl⟩
  rw [hm0] at hval hbd
  have hev := hs.ev
  have hgr := hs.gr
  have c1 : w.cell? ⟨sb, 1, none⟩ = some (.int .i64 s.gor) := h.cell 1
  have c3 : w.cell? ⟨sb, 3, none⟩ = some (.map (some bm)) := h.cell 3
  have c4 : w.cell? ⟨sb, 4, none⟩ = some (.map (some bd)) := h.cell 4
  have hlt := h.lt
  have hmm := h.mus
  have HH := Lib.hid h; clear h
  have HS := Lib.hid hs; clear hs
  have HM0 := Lib.hid hm0; clear hm0
  obtain ⟨g, kind, obj, off, k, en, fn, pc, stack⟩ := e
  obtain ⟨locked, readers⟩ := m
  dsimp only at *
  have hl : ∀ o1 o2 : Obj, (Instr.lookup 61 (.map (some bm)) (.agg #[.int .i64 obj, .int .i64 off]) false).run Try.prog (((w.alloc o1).alloc o2).drew) = .ok (.agg #[.bool locked, .int .i64 readers]) (((w.alloc o1).alloc o2).drew) := fun o1 o2 => by
    have h1 : MapOf locV ((w.alloc o1).alloc o2).drew Try.prog 48 bm N (muMap s.mus) := (hmm.alloc o1).alloc o2
    have h2 := h1.look keyL Try.underlying61 zeroMu (obj, off) hio
    rw [hval] at h2; exact h2
  have hl2 : ∀ o1 o2 o3 : Obj, (Instr.lookup 61 (.map (some bm)) (.agg #[.int .i64 obj, .int .i64 off]) false).run Try.prog ((((w.alloc o1).alloc o2).alloc o3).drew) = .ok (.agg #[.bool locked, .int .i64 readers]) ((((w.alloc o1).alloc o2).alloc o3).drew) := fun o1 o2 o3 => by
    have h1 : MapOf locV (((w.alloc o1).alloc o2).alloc o3).drew Try.prog 48 bm N (muMap s.mus) := ((hmm.alloc o1).alloc o2).alloc o3
    have h2 := h1.look keyL Try.underlying61 zeroMu (obj, off) hio
    rw [hval] at h2; exact h2
  have HM := Lib.hid hmm; clear hmm
  have HV := Lib.hid hval; clear hval
  have HIO := Lib.hid hio; clear hio
  have hlt1 : sb < w.heap.size + 1 := by omega
  unfold Ev.val
  go_enter Try.func46, Try.ntmps46
  go_wp2
  go_region
  go_upto_block 0 with fail
  generalize hW : World.drew _ = W
  have hb0 : Below w.heap.size w W := by rw [← hW]; exact ((((Below.refl _ _).alloc (Nat.le_refl _) _).alloc (by simp) _).alloc (by simp; omega) _).drew
  have hz : w.heap.size + 2 < W.heap.size := by rw [← hW]; simp
  have e0 : W.cell? ⟨w.heap.size, 4, none⟩ = some (.int .i64 k) := by rw [← hW]; simp [go_sem]
  have l0 : W.cell? ⟨w.heap.size + 1, 0, none⟩ = some (.int .i64 obj) := by rw [← hW]; simp [go_sem]
  have l1 : W.cell? ⟨w.heap.size + 1, 1, none⟩ = some (.int .i64 off) := by rw [← hW]; simp [go_sem]
  have m0 : W.cell? ⟨w.heap.size + 2, 0, none⟩ = some (.bool locked) := by rw [← hW]; simp [go_sem]
  have m1 : W.cell? ⟨w.heap.size + 2, 1, none⟩ = some (.int .i64 readers) := by rw [← hW]; simp [go_sem]
  have mf : ∀ j, W.frozen? ⟨w.heap.size + 2, j, none⟩ = false := fun j => by rw [← hW]; simp [go_sem]
  clear hW
  have d1 : W.cell? ⟨sb, 1, none⟩ = some (.int .i64 s.gor) := (hb0.cell (p := ⟨sb, 1, none⟩) hlt).trans c1
  have d3 : W.cell? ⟨sb, 3, none⟩ = some (.map (some bm)) := (hb0.cell (p := ⟨sb, 3, none⟩) hlt).trans c3
  have d4 : W.cell? ⟨sb, 4, none⟩ = some (.map (some bd)) := (hb0.cell (p := ⟨sb, 4, none⟩) hlt).trans c4
  clear hl hl2 c1 c3 c4
  have HB0 := Lib.hid hb0; clear hb0
  have d1f : W.frozen? ⟨sb, 1, none⟩ = false := (HB0.out.frozen (p := ⟨sb, 1, none⟩) hlt).trans (HH.out.frozen 1)
  obtain ⟨dn, hdn⟩ : ∃ dn, (s.done (obj, off)).getD false = dn := ⟨_, rfl⟩
  have hdl : (Instr.lookup 62 (.map (some bd)) (.agg #[.int .i64 obj, .int .i64 off]) false).run Try.prog W.drew = .ok (.bool dn) W.drew := by
    have h1 : MapOf locV W.drew Try.prog 48 bd N (doneMap s.done) := HH.out.done.keep (HB0.out.block bd HH.out.done.lt)
    have h2 := h1.look keyL Try.underlying62 zeroB (obj, off) HIO.out
    have h3 : ((doneMap s.done (obj, off)).getD (.bool false)) = .bool dn := by rw [← hdn]; unfold doneMap; cases s.done (obj, off) <;> rfl
    rw [h3] at h2; exact h2
  have HDN := Lib.hid hdn; clear hdn
  have hno : ∀ w' : World, s.simple ⟨g, kind, obj, off, k, en, fn, pc, stack⟩ = none → Below w.heap.size w w' → Ending.returned (.bool false) = .returned (.bool (s.simple ⟨g, kind, obj, off, k, en, fn, pc, stack⟩).isSome) ∧ (∃ kv', TRep w' sb bc bm bd (N + 2) ((s.simple ⟨g, kind, obj, off, k, en, fn, pc, stack⟩).getD s) kv') ∧ But [sb, bm, bd] w w' := fun w' ho hb => by
    rw [ho]; exact ⟨rfl, ⟨kv, (HH.out.below hb).mono (by omega)⟩, (But.refl _ _).below hb⟩
  have HNO := Lib.hid hno; clear hno
  have hsame : ∀ w' : World, s.simple ⟨g, kind, obj, off, k, en, fn, pc, stack⟩ = some s → Below w.heap.size w w' → Ending.returned (.bool true) = .returned (.bool (s.simple ⟨g, kind, obj, off, k, en, fn, pc, stack⟩).isSome) ∧ (∃ kv', TRep w' sb bc bm bd (N + 2) ((s.simple ⟨g, kind, obj, off, k, en, fn, pc, stack⟩).getD s) kv') ∧ But [sb, bm, bd] w w' := fun w' ho hb => by
    rw [ho]; exact ⟨rfl, ⟨kv, (HH.out.below hb).mono (by omega)⟩, (But.refl _ _).below hb⟩
  have HSA := Lib.hid hsame; clear hsame
  go_cut [] (fun wx => ∃ (lk' : Bool) (rd' : Int), s.simple ⟨g, kind, obj, off, k, en, fn, pc, stack⟩ = some { s with mus := upd s.mus (obj, off) ⟨lk', rd'⟩ } ∧ Below w.heap.size w wx ∧ w.heap.size + 2 < wx.heap.size ∧
    wx.cell? ⟨w.heap.size + 1, 0, none⟩ = some (.int .i64 obj) ∧ wx.cell? ⟨w.heap.size + 1, 1, none⟩ = some (.int .i64 off) ∧ wx.cell? ⟨w.heap.size + 2, 0, none⟩ = some (.bool lk') ∧ wx.cell? ⟨w.heap.size + 2, 1, none⟩ = some (.int .i64 rd'))
  case first =>
    go_wp2_with fail
    all_goals (have hmm := HM0.out)
    all_goals first
      | (go_meet; first
        | refine ⟨true, readers, TS.si_6c hmm ‹_› ‹_› ‹_›, ?_⟩
        | refine ⟨false, readers, TS.si_7b hmm ‹_› ‹_›, ?_⟩
        | refine ⟨locked, readers + 1, TS.si_8b hmm ‹_› ‹_›, ?_⟩
        | refine ⟨locked, readers - 1, TS.si_9b hmm ‹_› ‹_›, ?_⟩)
      | (go_ret; refine HNO.out _ ?_ HB0.out; first | exact TS.si_6a hmm ‹_› ‹_› | exact TS.si_6b hmm ‹_› ‹_› | exact TS.si_7a hmm ‹_› ‹_› | exact TS.si_8a hmm ‹_› ‹_› | exact TS.si_9a hmm ‹_› ‹_›)
      | (go_ret; exact HSA.out _ (TS.si_no hmm ‹_› ‹_› ‹_› ‹_› ‹_› ‹_› ‹_›) HB0.out)
      | skip
    -- the four ways that write the mutex
    all_goals try (refine ⟨HB0.out.setCell (by simp; omega) _, by simpa [World.setCell] using hz, ?_, ?_, ?_, ?_⟩ <;> simp [go_sem, *]; done)
    · -- once-end
      go_region
      by_cases hd : dn = true
      · subst hd
        go_wp2
        go_ret
        refine HNO.out _ ?_ HB0.out.drew
        rw [TS.si_12 hmm ‹_›, if_pos HDN.out]
      · have hd0 : dn = false := by simpa using hd
        subst hd0
        have hop : s.simple ⟨g, kind, obj, off, k, en, fn, pc, stack⟩ = some { s with done := upd s.done (obj, off) true } := by
          rw [TS.si_12 hmm ‹_›, if_neg (by rw [HDN.out]; decide)]
        have HOP := Lib.hid hop; clear hop hmm
        have hmd : MapOf locV W.drew.drew Try.prog 48 bd N (doneMap s.done) := HH.out.done.keep (HB0.out.block bd HH.out.done.lt)
        obtain ⟨w1, hput, hm2, hg⟩ := hmd.put keyL Try.underlying62 (by omega) (obj, off) HIO.out (.bool true)
        unfold locV at hput
        have hfin : TRep w1 sb bc bm bd (N + 2) { s with done := upd s.done (obj, off) true } kv ∧ But [sb, bm, bd] w w1 := by
          have hbt : But [bd] w w1 := ((But.refl _ _).below HB0.out).drew.drew.grown hg (.inl (by simp))
          exact ⟨HH.out.new_done hbt (by rw [← doneMap_upd]; exact hm2) (by omega) (by omega), hbt.mono (by simp)⟩
        have HF := Lib.hid hfin; clear hfin hm2 hg hmd
        go_wp2
        go_region
        go_wp2
        go_ret
        rw [HOP.out]
        exact ⟨rfl, ⟨_, HF.out.1⟩, HF.out.2⟩
    · -- once-seen
      go_region
      have hop := TS.si_13 hmm ‹_›
      rw [HDN.out] at hop
      have HOP := Lib.hid hop; clear hop hmm
      go_wp2
      go_ret
      rw [HOP.out]
      refine ⟨ret_bool ?_, ⟨kv, ?_⟩, (But.refl _ _).below HB0.out.drew⟩
      · cases dn <;> rfl
      · have hgd : (if dn = true then some s else none).getD s = s := by split <;> rfl
        rw [hgd]
        exact (HH.out.below HB0.out.drew).mono (by omega)
    · -- go
      go_region
      go_wp2
      · go_ret
        exact HNO.out _ (TS.si_14a hmm ‹_› ‹_›) HB0.out.drew
      · have hop := TS.si_14b hmm ‹_› ‹_›
        go_ret
        rw [hop]
        generalize hX : World.drew _ = X
        have hb1 : But [sb] w X := by rw [← hX]; exact (((But.refl _ _).below HB0.out).setCell (.inl (by simp)) _).drew
        have hr1 : X.heap[sb]? = some (.cells (TCells { s with gor := s.gor + 1 } bc bm bd kv) 66 (0, 0)) := by
          rw [← hX]; exact heap_setCell_same W sb 1 _ _ _ ((HB0.out.block sb hlt).trans HH.out.row)
        clear hX
        exact ⟨rfl, ⟨kv, HH.out.new_row hb1 hr1 (by omega)⟩, hb1.mono (by simp)⟩
  case rest =>
    obtain ⟨lk', rd', hop, hb1, z1, l0', l1', m0', m1'⟩ := hcut
    clear l0 l1 m0 m1 mf hdl d3 d4 d1 d1f
    have hmd : MapOf locV wc.drew Try.prog 48 bm N (muMap s.mus) := HH.out.mus.keep (hb1.block bm HH.out.mus.lt)
    obtain ⟨w1, hput, hm2, hg⟩ := hmd.put keyL Try.underlying61 (by omega) (obj, off) HIO.out (.agg #[.bool lk', .int .i64 rd'])
    unfold locV at hput
    have c3 : wc.cell? ⟨sb, 3, none⟩ = some (.map (some bm)) := (hb1.cell (p := ⟨sb, 3, none⟩) hlt).trans (HH.out.cell 3)
    have hfin : TRep w1 sb bc bm bd (N + 2) { s with mus := upd s.mus (obj, off) ⟨lk', rd'⟩ } kv ∧ But [sb, bm, bd] w w1 := by
      have hbt : But [bm] w w1 := ((But.refl _ _).below hb1).drew.grown hg (.inl (by simp))
      exact ⟨HH.out.new_mus hbt (by rw [← muMap_upd]; exact hm2) (by omega) (by omega), hbt.mono (by simp)⟩
    have HF := Lib.hid hfin; clear hfin hm2 hg hmd hb1
    have HOP := Lib.hid hop; clear hop
    go_wp2
    go_region
    go_wp2
    go_ret
    rw [HOP.out]
    exact ⟨rfl, ⟨_, HF.out.1⟩, HF.out.2⟩
end Go.Proofs.Ytkdagjlkejefnaa
end
section
set_option linter.unusedSimpArgs false
set_option linter.unusedVariables false
namespace Go.Proofs.Ytkdagjlkejefnaa
open Go.RowKit

/-- A world that is W but for new blocks. -/
structure QW (W : World) where
  w : World
  h : Below W.heap.size W w

theorem QW.cell {W : World} (x : QW W) {p : Addr} {v : Value} (hp : p.block < W.heap.size) (h : W.cell? p = some v) : x.w.cell? p = some v := (x.h.cell hp).trans h
def QW.refl (W : World) : QW W := ⟨W, Below.refl _ _⟩
instance QW.nonempty (W : World) : Nonempty (QW W) := ⟨QW.refl W⟩

theorem wp_region_quietQ {P : Program} {id : Nat} {Q : Exit → Act → World → Prop} {a : Act} {W : World} {l : List Oper} (hm : P.follows .mixedOrders = true) (hB : Region.lexB .any l.toArray = true)
    (h : wpQuiet P l.toArray (fun w' => ∃ x : QW W, w' = x.w) (fun a' => ∀ x : QW W, Q .normal a' x.w) l a) : (Code.region id l.toArray true).wp P Q a W := by
  refine wp_region_quiet (C := fun w' => ∃ x : QW W, w' = x.w) hm hB ⟨⟨_, (Below.refl _ _).drew⟩, rfl⟩ ?_
  have mono : ∀ (l' : List Oper) (a : Act), wpQuiet P l.toArray (fun w' => ∃ x : QW W, w' = x.w) (fun a' => ∀ x : QW W, Q .normal a' x.w) l' a →
      wpQuiet P l.toArray (fun w' => ∃ x : QW W, w' = x.w) (fun a' => ∀ w', (∃ x : QW W, w' = x.w) → Q .normal a' w') l' a := by
    intro l'
    induction l' with
    | nil => intro a h w' hw; obtain ⟨x, rfl⟩ := hw; exact h x
    | cons o r ih =>
      intro a h
      unfold wpQuiet at h ⊢
      split
      · rename_i hw
        rw [if_pos hw] at h
        exact Oper.quiet_mono ih h
      · rename_i hw
        rw [if_neg hw] at h
        exact ih _ h
  exact mono _ _ (by simpa using h)

/-- A call whose contract says 'nothing old has turned'. -/
theorem QW.call {P : Program} {f : FuncId} {args : Array Value} {v : Value} {W : World} (x : QW W) (c : ∀ w, Calls P f args w fun e w' => e = .returned v ∧ Below w.heap.size w w') :
    Calls P f args x.w fun e w'' => e = .returned v ∧ ∃ y : QW W, w'' = y.w :=
  (c x.w).mono fun _ w' ⟨h1, h2⟩ => ⟨h1, ⟨w', x.h.trans (h2.mono x.h.size)⟩, rfl⟩
/-- .. or that it has not turned at all. -/
theorem QW.call_same {P : Program} {f : FuncId} {args : Array Value} {v : Value} {W : World} (x : QW W) (c : ∀ w, Calls P f args w fun e w' => e = .returned v ∧ w = w') :
    Calls P f args x.w fun e w'' => e = .returned v ∧ ∃ y : QW W, w'' = y.w :=
  (c x.w).mono fun _ w' ⟨h1, h2⟩ => ⟨h1, x, h2.symm⟩
/-- A contract that leans on facts of the world. -/
theorem QW.call_of {P : Program} {f : FuncId} {args : Array Value} {v : Value} {W : World} (x : QW W) (c : Calls P f args x.w fun e w' => e = .returned v ∧ Below x.w.heap.size x.w w') :
    Calls P f args x.w fun e w'' => e = .returned v ∧ ∃ y : QW W, w'' = y.w :=
  c.mono fun _ w' ⟨h1, h2⟩ => ⟨h1, ⟨w', x.h.trans (h2.mono x.h.size)⟩, rfl⟩
end Go.Proofs.Ytkdagjlkejefnaa
end
section
set_option linter.unusedSimpArgs false
set_option linter.unusedVariables false
namespace Go.Proofs.Ytkdagjlkejefnaa
open Go.RowKit
variable [KB]

def StB (P : World → Prop) : Prop := ∀ w w', P w → Below w.heap.size w w' → P w'

set_option maxRecDepth 100000 in
set_option maxHeartbeats 8000000 in
theorem add_head {sb bc bm bd N : Nat} {s : TS} {kv : Value} (w : World) (h : TRep w sb bc bm bd N s kv) (hs : s.wf) (hN : N + 2 < maxLen) (e : Ev) (hkb0 : ∀ b, w.heap.size ≤ b → KB.p b) :
    Calls Try.prog 21 #[.pointer (some ⟨sb, 0, none⟩), e.val] w fun r w' => r = .returned (.bool (s.add e).isSome) ∧ (∃ kv', TRep w' sb bc bm bd (N + 2) ((s.add e).getD s) kv') ∧ But [sb, bc, bm, bd] w w' := by
  have hlt := h.lt
  have c0 : w.cell? ⟨sb, 0, none⟩ = some (.int .i64 s.events) := h.cell 0
  have c1 : w.cell? ⟨sb, 1, none⟩ = some (.int .i64 s.gor) := h.cell 1
  have hev := hs.ev
  have hno : s.add e = none → ∀ w', Below w.heap.size w w' → Ending.returned (.bool false) = .returned (.bool (s.add e).isSome) ∧ (∃ kv', TRep w' sb bc bm bd (N + 2) ((s.add e).getD s) kv') ∧ But [sb, bc, bm, bd] w w' := fun ha w' hb => by
    rw [ha]; exact ⟨rfl, ⟨kv, (h.below hb).mono (by omega)⟩, (But.refl _ _).below hb⟩
  have HNO := Lib.hid hno; clear hno
  have HH := Lib.hid h; clear h
  have HS := Lib.hid hs; clear hs
  have HKB := Lib.hid hkb0; clear hkb0

  obtain ⟨g, kind, obj, off, k, en, fn, pc, stack⟩ := e
  unfold Ev.val
  go_enter Try.func21, Try.ntmps21
  go_upto_region 1 with fail
  generalize hW : World.alloc w _ = W
  have hB : Below w.heap.size w W := by rw [← hW]; exact (Below.refl _ _).alloc (Nat.le_refl _) _
  have hz : w.heap.size < W.heap.size := by rw [← hW]; simp
  have e0 : W.cell? ⟨w.heap.size, 0, none⟩ = some (.int .i64 g) := by rw [← hW]; exact cell_of_row _ _ _ _ _ _ (heap_alloc_new w _)
  have e1 : W.cell? ⟨w.heap.size, 1, none⟩ = some (.int .i64 kind) := by rw [← hW]; exact cell_of_row _ _ _ _ _ _ (heap_alloc_new w _)
  have e2 : W.cell? ⟨w.heap.size, 2, none⟩ = some (.int .i64 obj) := by rw [← hW]; exact cell_of_row _ _ _ _ _ _ (heap_alloc_new w _)
  have e3 : W.cell? ⟨w.heap.size, 3, none⟩ = some (.int .i64 off) := by rw [← hW]; exact cell_of_row _ _ _ _ _ _ (heap_alloc_new w _)
  have e4 : W.cell? ⟨w.heap.size, 4, none⟩ = some (.int .i64 k) := by rw [← hW]; exact cell_of_row _ _ _ _ _ _ (heap_alloc_new w _)
  have e5 : W.cell? ⟨w.heap.size, 5, none⟩ = some (.int .i64 en) := by rw [← hW]; exact cell_of_row _ _ _ _ _ _ (heap_alloc_new w _)
  have e6 : W.cell? ⟨w.heap.size, 6, none⟩ = some (.int .i64 fn) := by rw [← hW]; exact cell_of_row _ _ _ _ _ _ (heap_alloc_new w _)
  have e7 : W.cell? ⟨w.heap.size, 7, none⟩ = some (.int .i64 pc) := by rw [← hW]; exact cell_of_row _ _ _ _ _ _ (heap_alloc_new w _)
  have e8 : W.cell? ⟨w.heap.size, 8, none⟩ = some (.int .i64 stack) := by rw [← hW]; exact cell_of_row _ _ _ _ _ _ (heap_alloc_new w _)
  clear hW
  have d0 : W.cell? ⟨sb, 0, none⟩ = some (.int .i64 s.events) := (hB.cell (p := ⟨sb, 0, none⟩) hlt).trans c0
  have d1 : W.cell? ⟨sb, 1, none⟩ = some (.int .i64 s.gor) := (hB.cell (p := ⟨sb, 1, none⟩) hlt).trans c1
  have hltW : sb < W.heap.size := by omega
  clear c0 c1
  have HB := Lib.hid hB; clear hB
  have q0 : ∀ x : QW W, x.w.cell? ⟨w.heap.size, 0, none⟩ = some (.int .i64 g) := fun x => x.cell hz e0
  have q1 : ∀ x : QW W, x.w.cell? ⟨w.heap.size, 1, none⟩ = some (.int .i64 kind) := fun x => x.cell hz e1
  have q2 : ∀ x : QW W, x.w.cell? ⟨w.heap.size, 2, none⟩ = some (.int .i64 obj) := fun x => x.cell hz e2
  have q3 : ∀ x : QW W, x.w.cell? ⟨w.heap.size, 3, none⟩ = some (.int .i64 off) := fun x => x.cell hz e3
  have q4 : ∀ x : QW W, x.w.cell? ⟨w.heap.size, 4, none⟩ = some (.int .i64 k) := fun x => x.cell hz e4
  have q5 : ∀ x : QW W, x.w.cell? ⟨w.heap.size, 5, none⟩ = some (.int .i64 en) := fun x => x.cell hz e5
  have q6 : ∀ x : QW W, x.w.cell? ⟨w.heap.size, 6, none⟩ = some (.int .i64 fn) := fun x => x.cell hz e6
  have q7 : ∀ x : QW W, x.w.cell? ⟨w.heap.size, 7, none⟩ = some (.int .i64 pc) := fun x => x.cell hz e7
  have q8 : ∀ x : QW W, x.w.cell? ⟨w.heap.size, 8, none⟩ = some (.int .i64 stack) := fun x => x.cell hz e8
  have q9 : ∀ x : QW W, x.w.cell? ⟨sb, 0, none⟩ = some (.int .i64 s.events) := fun x => x.cell hltW d0
  have q10 : ∀ x : QW W, x.w.cell? ⟨sb, 1, none⟩ = some (.int .i64 s.gor) := fun x => x.cell hltW d1

  clear e0 e1 e2 e3 e4 e5 e6 e7 e8 d0 d1
  cases hv : Ev.valid ⟨g, kind, obj, off, k, en, fn, pc, stack⟩ with
  | false =>
    have hnone : s.add ⟨g, kind, obj, off, k, en, fn, pc, stack⟩ = none := by unfold TS.add TS.admits; rw [hv]; rfl
    have HNN := Lib.hid hnone; clear hnone
    have hV : ∀ w : World, Calls Try.prog 42 #[.agg #[.int .i64 g, .int .i64 kind, .int .i64 obj, .int .i64 off, .int .i64 k, .int .i64 en, .int .i64 fn, .int .i64 pc, .int .i64 stack]] w fun r w' => r = .returned (.bool false) ∧ Below w.heap.size w w' := fun w => by
      have := evalid_any ⟨g, kind, obj, off, k, en, fn, pc, stack⟩ w
      rw [hv] at this; exact this
    have HV := Lib.hid hV; clear hV hv
    refine wp_region_quietQ (by kernel_rfl) (by kernel_rfl) ?_
    repeat (go_big_quiet_step ((go_at_call 42; exact QW.call _ HV.out)))
    refine wpQuiet_nil ?_
    intro x
    obtain ⟨w1, hb1⟩ := x
    dsimp only
    go_wp2
    go_ret
    exact HNO.out HNN.out _ (HB.out.trans (hb1.mono HB.out.size))
  | true =>
    have hV : ∀ w : World, Calls Try.prog 42 #[.agg #[.int .i64 g, .int .i64 kind, .int .i64 obj, .int .i64 off, .int .i64 k, .int .i64 en, .int .i64 fn, .int .i64 pc, .int .i64 stack]] w fun r w' => r = .returned (.bool true) ∧ Below w.heap.size w w' := fun w => by
      have := evalid_any ⟨g, kind, obj, off, k, en, fn, pc, stack⟩ w
      rw [hv] at this; exact this
    have HV := Lib.hid hV; clear hV
    by_cases h5 : 5000 ≤ s.events
    · have hnone : s.add ⟨g, kind, obj, off, k, en, fn, pc, stack⟩ = none := by unfold TS.add TS.admits; rw [if_neg]; simp; omega
      have HNN := Lib.hid hnone; clear hnone hv
      have h5d : decide (5000 ≤ s.events) = true := by simpa using h5
      refine wp_region_quietQ (by kernel_rfl) (by kernel_rfl) ?_
      repeat (go_big_quiet_step ((go_at_call 42; exact QW.call _ HV.out)))
      refine wpQuiet_nil ?_
      intro x
      obtain ⟨w1, hb1⟩ := x
      dsimp only
      go_wp2
      go_ret
      exact HNO.out HNN.out _ (HB.out.trans (hb1.mono HB.out.size))
    have h5d : decide (5000 ≤ s.events) = false := by simpa using h5
    by_cases hg : s.gor ≤ g
    · have hnone : s.add ⟨g, kind, obj, off, k, en, fn, pc, stack⟩ = none := by unfold TS.add TS.admits; rw [if_neg]; simp; omega
      have HNN := Lib.hid hnone; clear hnone hv
      have hgd : decide (s.gor ≤ g) = true := by simpa using hg
      refine wp_region_quietQ (by kernel_rfl) (by kernel_rfl) ?_
      repeat (go_big_quiet_step ((go_at_call 42; exact QW.call _ HV.out)))
      refine wpQuiet_nil ?_
      intro x
      obtain ⟨w1, hb1⟩ := x
      dsimp only
      go_wp2
      go_ret
      exact HNO.out HNN.out _ (HB.out.trans (hb1.mono HB.out.size))
    have hgd : decide (s.gor ≤ g) = false := by simpa using hg
    have had : s.admits ⟨g, kind, obj, off, k, en, fn, pc, stack⟩ = true := by unfold TS.admits; rw [hv]; simp; omega
    have HAD := Lib.hid had; clear had
    refine wp_region_quietQ (by kernel_rfl) (by kernel_rfl) ?_
    repeat (go_big_quiet_step ((go_at_call 42; exact QW.call _ HV.out)))
    refine wpQuiet_nil ?_
    intro x
    have p0 := q0 x
    have p1 := q1 x
    have p2 := q2 x
    have p3 := q3 x
    have p4 := q4 x
    have p5 := q5 x
    have p6 := q6 x
    have p7 := q7 x
    have p8 := q8 x
    clear q0 q1 q2 q3 q4 q5 q6 q7 q8 q9 q10 HNO HV h5d hgd
    obtain ⟨w1, hb1⟩ := x
    dsimp only at p0 p1 p2 p3 p4 p5 p6 p7 p8 ⊢
    have hb2 : Below w.heap.size w w1 := HB.out.trans (hb1.mono HB.out.size)
    have hT := HH.out.below hb2
    have HT := Lib.hid hT; clear hT
    have HB2 := Lib.hid hb2; clear hb2 hb1
    have HVd := Lib.hid hv; clear hv
    go_upto_block 0 with fail
    go_cut [5] (fun s5 wx => s5 = .bool (s.part ⟨g, kind, obj, off, k, en, fn, pc, stack⟩).isSome ∧ (∃ kv', TRep wx sb bc bm bd (N + 2) ((s.part ⟨g, kind, obj, off, k, en, fn, pc, stack⟩).getD s) kv') ∧ But [sb, bc, bm, bd] w wx)
    case first =>
      cases ho : s.isOpen with
      | true =>
        have hpt : s.part ⟨g, kind, obj, off, k, en, fn, pc, stack⟩ = s.proceed ⟨g, kind, obj, off, k, en, fn, pc, stack⟩ := by unfold TS.part; rw [if_pos ho]
        have HPT := Lib.hid hpt; clear hpt
        have hO : Calls Try.prog 23 #[.pointer (some ⟨sb, 0, none⟩)] w1 fun e w' => e = .returned (.bool true) ∧ w1 = w' := by have := open_any w1 HT.out; rw [ho] at this; exact this
        have HO := Lib.hid hO; clear hO
        have HHO := Lib.hid ho; clear ho
        go_wp2_with ((go_at_call 23; refine HO.out.mono ?_; rintro e w' ⟨rfl, rfl⟩))
        refine (proceed_any w1 HT.out HS.out hN ⟨g, kind, obj, off, k, en, fn, pc, stack⟩ HVd.out HHO.out).mono ?_
        rintro r w2 ⟨rfl, hT2, hb3⟩
        have hfin : (∃ kv', TRep w2 sb bc bm bd (N + 2) ((s.part ⟨g, kind, obj, off, k, en, fn, pc, stack⟩).getD s) kv') ∧ But [sb, bc, bm, bd] w w2 := ⟨by rw [HPT.out]; exact hT2, ((But.refl _ _).below HB2.out).trans (hb3.mono (by simp))⟩
        have HF := Lib.hid hfin; clear hfin hT2 hb3
        go_wp2_with fail
        go_meet
        exact ⟨by rw [HPT.out], HF.out.1, HF.out.2⟩
      | false =>
        have hO : Calls Try.prog 23 #[.pointer (some ⟨sb, 0, none⟩)] w1 fun e w' => e = .returned (.bool false) ∧ w1 = w' := by have := open_any w1 HT.out; rw [ho] at this; exact this
        have HO := Lib.hid hO; clear hO
        cases hch : chanB kind with
        | true =>
          have hpt : s.part ⟨g, kind, obj, off, k, en, fn, pc, stack⟩ = s.operate ⟨g, kind, obj, off, k, en, fn, pc, stack⟩ := by unfold TS.part; rw [if_neg (by rw [ho]; decide), if_pos hch]
          have HPT := Lib.hid hpt; clear hpt
          have hC : ∀ w : World, Calls Try.prog 44 #[.int .i64 kind] w fun e w' => e = .returned (.bool true) ∧ w = w' := fun w => by have := channel_any kind w; rw [hch] at this; exact this
          have HC := Lib.hid hC; clear hC
          have HCH := Lib.hid hch; clear hch ho
          go_wp2_with (first | (go_at_call 23; refine HO.out.mono ?_; rintro e w' ⟨rfl, rfl⟩) | (go_at_call 44; refine (HC.out _).mono ?_; rintro e w' ⟨rfl, rfl⟩))
          refine (operate_any w1 HT.out HS.out hN ⟨g, kind, obj, off, k, en, fn, pc, stack⟩ HVd.out HCH.out (fun b hb => HKB.out b (Nat.le_trans HB2.out.size hb))).mono ?_
          rintro r w2 ⟨rfl, hT2, hb3⟩
          have hfin : (∃ kv', TRep w2 sb bc bm bd (N + 2) ((s.part ⟨g, kind, obj, off, k, en, fn, pc, stack⟩).getD s) kv') ∧ But [sb, bc, bm, bd] w w2 := ⟨by rw [HPT.out]; exact hT2, ((But.refl _ _).below HB2.out).trans (hb3.mono (by simp))⟩
          have HF := Lib.hid hfin; clear hfin hT2 hb3
          go_wp2_with fail
          go_meet
          exact ⟨by rw [HPT.out], HF.out.1, HF.out.2⟩
        | false =>
          have hpt : s.part ⟨g, kind, obj, off, k, en, fn, pc, stack⟩ = s.simple ⟨g, kind, obj, off, k, en, fn, pc, stack⟩ := by unfold TS.part; rw [if_neg (by rw [ho]; decide), if_neg (by dsimp only; rw [hch]; decide)]
          have HPT := Lib.hid hpt; clear hpt
          have hC : ∀ w : World, Calls Try.prog 44 #[.int .i64 kind] w fun e w' => e = .returned (.bool false) ∧ w = w' := fun w => by have := channel_any kind w; rw [hch] at this; exact this
          have HC := Lib.hid hC; clear hC hch ho
          go_wp2_with (first | (go_at_call 23; refine HO.out.mono ?_; rintro e w' ⟨rfl, rfl⟩) | (go_at_call 44; refine (HC.out _).mono ?_; rintro e w' ⟨rfl, rfl⟩))
          refine (simple_any w1 HT.out HS.out hN ⟨g, kind, obj, off, k, en, fn, pc, stack⟩ HVd.out).mono ?_
          rintro r w2 ⟨rfl, hT2, hb3⟩
          have hfin : (∃ kv', TRep w2 sb bc bm bd (N + 2) ((s.part ⟨g, kind, obj, off, k, en, fn, pc, stack⟩).getD s) kv') ∧ But [sb, bc, bm, bd] w w2 := ⟨by rw [HPT.out]; exact hT2, ((But.refl _ _).below HB2.out).trans (hb3.mono (by simp))⟩
          have HF := Lib.hid hfin; clear hfin hT2 hb3
          go_wp2_with fail
          go_meet
          exact ⟨by rw [HPT.out], HF.out.1, HF.out.2⟩
    case rest =>
      clear p0 p1 p2 p3 p4 p5 p6 p7 p8
      obtain ⟨rfl, ⟨kv', hT2⟩, hbt⟩ := hcut
      have hadd : s.add ⟨g, kind, obj, off, k, en, fn, pc, stack⟩ = (s.part ⟨g, kind, obj, off, k, en, fn, pc, stack⟩).map fun t => { t with events := t.events + 1 } := by unfold TS.add; rw [if_pos HAD.out]
      cases hp : s.part ⟨g, kind, obj, off, k, en, fn, pc, stack⟩ with
      | none =>
        rw [hp] at hadd hT2
        have HADD := Lib.hid hadd; clear hadd
        have HT2 := Lib.hid hT2; clear hT2
        have HBT := Lib.hid hbt; clear hbt hp
        go_wp2
        go_ret
        rw [HADD.out]
        exact ⟨rfl, ⟨kv', HT2.out⟩, HBT.out⟩
      | some t =>
        have hw := TS.part_wf HS.out HVd.out hp
        have he1 : t.events = s.events := hw.1
        rw [hp] at hadd hT2
        simp only [Option.getD_some] at hT2
        have c0 : wc.cell? ⟨sb, 0, none⟩ = some (.int .i64 t.events) := hT2.cell 0
        have f0 : wc.frozen? ⟨sb, 0, none⟩ = false := hT2.frozen 0
        have he2 : 0 ≤ t.events := by omega
        have he3 : t.events ≤ 5000 := by omega
        clear hw he1
        have HADD := Lib.hid hadd; clear hadd
        have HT2 := Lib.hid hT2; clear hT2
        have HBT := Lib.hid hbt; clear hbt hp
        go_wp2
        go_ret
        rw [HADD.out]
        generalize hX : World.setCell _ _ _ = X
        have hb1 : But [sb] wc X := by rw [← hX]; exact (But.refl _ _).setCell (.inl (by simp)) _
        have hr1 : X.heap[sb]? = some (.cells (TCells { t with events := t.events + 1 } bc bm bd kv') 66 (0, 0)) := by
          rw [← hX]; exact heap_setCell_same wc sb 0 _ _ _ HT2.out.row
        clear hX
        exact ⟨rfl, ⟨kv', HT2.out.new_row hb1 hr1 (Nat.le_refl _)⟩, HBT.out.trans (hb1.mono (by simp))⟩

end Go.Proofs.Ytkdagjlkejefnaa
end
section
set_option linter.unusedSimpArgs false
set_option linter.unusedVariables false
namespace Go.Proofs.Ytkdagjlkejefnaa

/-- the state behind a list of events, if all are possible -/
def TS.steps (s : TS) : List Ev → Option TS
  | [] => some s
  | e :: l => (s.add e).bind fun t => t.steps l
/-- how many are possible at the beginning -/
def TS.chk (s : TS) : List Ev → Nat
  | [] => 0
  | e :: l => match s.add e with
    | some t => t.chk l + 1
    | none => 0

theorem TS.steps_append (s : TS) (l m : List Ev) : s.steps (l ++ m) = (s.steps l).bind fun t => t.steps m := by
  induction l generalizing s with
  | nil => rfl
  | cons e l ih =>
    simp only [List.cons_append, TS.steps]
    cases s.add e with
    | none => rfl
    | some t => simpa using ih t
theorem TS.steps_snoc (s : TS) (l : List Ev) (e : Ev) : s.steps (l ++ [e]) = (s.steps l).bind fun t => t.add e := by
  rw [TS.steps_append]
  congr 1
  funext t
  simp [TS.steps]
theorem TS.steps_take_succ {s : TS} {l : List Ev} {k : Nat} (h : k < l.length) : s.steps (l.take (k + 1)) = (s.steps (l.take k)).bind fun t => t.add l[k] := by
  rw [List.take_succ_eq_append_getElem h, TS.steps_snoc]
theorem TS.chk_le (s : TS) (l : List Ev) : s.chk l ≤ l.length := by
  induction l generalizing s with
  | nil => simp [TS.chk]
  | cons e l ih =>
    simp only [TS.chk]
    split
    · rename_i t _; have := ih t; simp; omega
    · simp
theorem TS.steps_wf {s t : TS} (h : s.wf) {l : List Ev} (hs : s.steps l = some t) : t.wf := by
  induction l generalizing s with
  | nil => simp [TS.steps] at hs; subst hs; exact h
  | cons e l ih =>
    simp only [TS.steps, Option.bind_eq_some_iff] at hs
    obtain ⟨u, hu, hs⟩ := hs
    exact ih (TS.add_wf h hu) hs
/-- what the loop finds is that number -/
theorem TS.chk_of {s : TS} {l : List Ev} {k : Nat} (hk : k ≤ l.length) {t : TS} (hs : s.steps (l.take k) = some t) (hn : ∀ e, l[k]? = some e → t.add e = none) : s.chk l = k := by
  induction l generalizing s k with
  | nil => simp at hk; subst hk; rfl
  | cons e l ih =>
    cases k with
    | zero =>
      simp [TS.steps] at hs
      subst hs
      have := hn e rfl
      simp [TS.chk, this]
    | succ k =>
      simp only [List.take_succ_cons, TS.steps, Option.bind_eq_some_iff] at hs
      obtain ⟨u, hu, hs⟩ := hs
      simp only [TS.chk, hu]
      rw [ih (by simpa using hk) hs (fun e' he' => hn e' (by simpa using he'))]
/-- up to that number all are possible -/
theorem TS.chk_steps (s : TS) (l : List Ev) {k : Nat} (hk : k ≤ s.chk l) : ∃ t, s.steps (l.take k) = some t := by
  induction l generalizing s k with
  | nil => simp [TS.chk] at hk; subst hk; exact ⟨s, rfl⟩
  | cons e l ih =>
    cases k with
    | zero => exact ⟨s, rfl⟩
    | succ k =>
      simp only [TS.chk] at hk
      cases ha : s.add e with
      | none => rw [ha] at hk; simp at hk
      | some u =>
        rw [ha] at hk
        obtain ⟨t, ht⟩ := ih u (k := k) (by simpa using hk)
        exact ⟨t, by simp [TS.steps, ha, ht]⟩
theorem TS.chk_stop (s : TS) (l : List Ev) {t : TS} (hs : s.steps (l.take (s.chk l)) = some t) : ∀ e, l[s.chk l]? = some e → t.add e = none := by
  induction l generalizing s with
  | nil => intro e he; simp at he
  | cons a l ih =>
    intro e he
    cases ha : s.add a with
    | none =>
      simp only [TS.chk, ha] at he hs
      simp [TS.steps] at hs he
      subst hs; subst he; exact ha
    | some u =>
      simp only [TS.chk, ha] at he hs
      simp only [List.take_succ_cons, TS.steps, ha, Option.bind_some] at hs
      exact ih u hs e (by simpa using he)
theorem TS.chk_take (s : TS) (l : List Ev) (k : Nat) : s.chk (l.take k) = min (s.chk l) k := by
  induction l generalizing s k with
  | nil => simp [TS.chk]
  | cons e l ih =>
    cases k with
    | zero => simp [TS.chk]
    | succ k =>
      simp only [List.take_succ_cons, TS.chk]
      cases s.add e with
      | none => simp
      | some t => simp only [ih]; omega

/-- the last place up to k behind which no group is open -/
def TS.wholeTo (s : TS) (l : List Ev) : Nat → Nat
  | 0 => 0
  | k + 1 => match s.steps (l.take (k + 1)) with
    | some t => if t.isOpen = true then s.wholeTo l k else k + 1
    | none => s.wholeTo l k
theorem TS.wholeTo_le (s : TS) (l : List Ev) (k : Nat) : s.wholeTo l k ≤ k := by
  induction k with
  | zero => simp [TS.wholeTo]
  | succ k ih =>
    simp only [TS.wholeTo]
    split
    · split
      · omega
      · omega
    · omega
def chk (l : List Ev) : Nat := TS.new.chk l
def wholeOf (l : List Ev) : Nat := TS.new.wholeTo l (chk l)
theorem flat_at (l : List Ev) (i : Nat) (e : Ev) (h : l[i]? = some e) (j : Nat) (x : Value) (hx : e.cells[j]? = some x) : (l.flatMap Ev.cells)[i * 9 + j]? = some x := by
  have hlen : ∀ e : Ev, e.cells.length = 9 := fun _ => rfl
  have hj : j < 9 := by rw [← hlen e]; exact (List.getElem?_eq_some_iff.1 hx).1
  induction l generalizing i with
  | nil => cases h
  | cons a l ih =>
    rw [List.flatMap_cons]
    cases i with
    | zero =>
      simp at h; subst h
      rw [List.getElem?_append_left (by rw [hlen]; omega)]
      simpa using hx
    | succ i =>
      rw [List.getElem?_append_right (by rw [hlen]; omega), hlen, show (i + 1) * 9 + j - 9 = i * 9 + j by omega]
      exact ih i (by simpa using h)

end Go.Proofs.Ytkdagjlkejefnaa
end
section
set_option linter.unusedSimpArgs false
set_option linter.unusedVariables false
namespace Go.Proofs.Ytkdagjlkejefnaa
open Go.RowKit
section
variable [KB]

/-- a new state in new blocks -/
def NewPost (w : World) (r : Ending) (w' : World) : Prop :=
  ∃ sb bc bm bd kv, r = .returned (.pointer (some ⟨sb, 0, none⟩)) ∧ TRep w' sb bc bm bd 0 TS.new kv ∧ (w.heap.size ≤ sb ∧ w.heap.size ≤ bc ∧ w.heap.size ≤ bm ∧ w.heap.size ≤ bd) ∧ Below w.heap.size w w'

theorem new_any (w : World) : Calls Try.prog 18 #[] w (NewPost w) := by
  have hmm := @run_makeMap Try.prog
  go_enter Try.func18, Try.ntmps18
  go_wp2
  go_ret
  refine ⟨w.heap.size + 1 + 1 + 1, w.heap.size, w.heap.size + 1, w.heap.size + 1 + 1, .slice none 0 0, rfl, ⟨?_, ⟨none, 0, rfl, Nat.le_refl _, fun h => absurd h (by decide)⟩, ?_, ?_, ?_, by omega, by omega, by omega⟩, ⟨by omega, by omega, by omega, by omega⟩, ?_⟩
  · have h1 := heap_alloc_new (((w.alloc (.map #[] 0)).alloc (.map #[] 0)).alloc (.map #[] 0)) (.cells (TCells TS.new w.heap.size (w.heap.size + 1) (w.heap.size + 1 + 1) (.slice none 0 0)) 66)
    simpa [TCells, TS.new, grp0] using h1
  · exact (((MapOf.made w Try.prog 3).alloc _).alloc _).alloc _
  · have h1 := ((MapOf.made (kv := locV) (w.alloc (.map #[] 0)) Try.prog 48).alloc (.map #[] 0)).alloc (.cells (TCells TS.new w.heap.size (w.heap.size + 1) (w.heap.size + 1 + 1) (.slice none 0 0)) 66)
    simp [TCells, TS.new, grp0] at h1; exact h1
  · have h1 := (MapOf.made (kv := locV) ((w.alloc (.map #[] 0)).alloc (.map #[] 0)) Try.prog 48).alloc (.cells (TCells TS.new w.heap.size (w.heap.size + 1) (w.heap.size + 1 + 1) (.slice none 0 0)) 66)
    simp [TCells, TS.new, grp0] at h1; exact h1
  · exact ((((Below.refl _ _).alloc (Nat.le_refl _) _).alloc (by simp) _).alloc (by simp; omega) _).alloc (by simp; omega) _

end
/-- the kinds may lie anywhere -/
instance kbAll : KB := ⟨fun _ => True⟩

theorem But.belowOf {L : List Nat} {a b : World} (h : But L a b) {B : Nat} (hB : B ≤ a.heap.size) (hL : ∀ x ∈ L, B ≤ x) : Below B a b :=
  ⟨h.os, h.tape, h.output, h.size, fun k hk => h.block k (by omega) (fun hm => by have := hL k hm; omega)⟩

/-- the slice v reads as the events l -/
def EvAt (w : World) (v : Value) (l : List Ev) : Prop :=
  ∃ A c, v = .slice A l.length c ∧ l.length ≤ c ∧ c ≤ 9223372036854775807 ∧ (0 < l.length → ∃ b o, A = some ⟨b, o, none⟩ ∧ ∀ i e, l[i]? = some e → ∀ j x, e.cells[j]? = some x → w.cell? ⟨b, o + (i * 9 + j), none⟩ = some x)
theorem EvAt.keep {w w' : World} {v : Value} {l : List Ev} (h : EvAt w v l) (hb : Below w.heap.size w w') : EvAt w' v l := by
  obtain ⟨A, c, h1, h2, h3, h4⟩ := h
  refine ⟨A, c, h1, h2, h3, fun hn => ?_⟩
  obtain ⟨b, o, hA, hc⟩ := h4 hn
  refine ⟨b, o, hA, fun i e hi j x hx => ?_⟩
  have h5 := hc i e hi j x hx
  exact (hb.cell (block_lt_of_cell h5)).trans h5

/-- what follow hands back -/
def FollowPost (w : World) (l : List Ev) (r : Ending) (w' : World) : Prop :=
  ∃ sb bc bm bd N kv t, r = .returned (.tuple #[.pointer (some ⟨sb, 0, none⟩), .int .i64 (chk l), .int .i64 (wholeOf l)]) ∧ TS.new.steps (l.take (chk l)) = some t ∧ TRep w' sb bc bm bd N t kv ∧ Below w.heap.size w w'

set_option maxRecDepth 100000 in
set_option maxHeartbeats 4000000 in
theorem follow_any (w : World) (v : Value) (l : List Ev) (h : EvAt w v l) (hl : l.length ≤ 1000000) : Calls Try.prog 33 #[v] w (FollowPost w l) := by
  obtain ⟨A, c, rfl, hlc, hc63, hA⟩ := h
  have HA := Lib.hid hA; clear hA
  go_enter Try.func33, Try.ntmps33
  go_wp2_with ((go_at_call 18; refine (new_any _).mono ?_; rintro r w1 ⟨sb, bc, bm, bd, kv0, rfl, hT, ⟨z0, z1, z2, z3⟩, hb⟩))
  have HT := Lib.hid hT; clear hT
  have HB := Lib.hid hb; clear hb
  go_loopw [3, 4] (fun n wh wr => ∃ (k : Nat) (t : TS) (kv : Value), k ≤ l.length ∧ n = .int .i64 k ∧ wh = .int .i64 (TS.new.wholeTo l k) ∧ TS.new.steps (l.take k) = some t ∧ TRep wr sb bc bm bd (2 * k) t kv ∧ Below w.heap.size w wr)
    (fun n _ _ => l.length - (intOf n).toNat)
  case atStart => exact ⟨0, TS.new, kv0, Nat.zero_le _, rfl, rfl, rfl, HT.out, HB.out⟩
  case round =>
    obtain ⟨k, t, kv, hk, rfl, rfl, hst, hT, hb⟩ := hrel
    have hwl := TS.wholeTo_le TS.new l k
    have HST := Lib.hid hst; clear hst
    have HT1 := Lib.hid hT; clear hT
    have HB1 := Lib.hid hb; clear hb
    by_cases hlt : k < l.length
    · obtain ⟨b, o, rfl, hcell⟩ := HA.out (by omega)
      have hcl : ∀ j x, (l[k]).cells[j]? = some x → wr.cell? ⟨b, o + (k * 9 + j), none⟩ = some x := fun j x hx => by
        have h5 := hcell k l[k] (List.getElem?_eq_getElem hlt) j x hx
        exact (HB1.out.cell (block_lt_of_cell h5)).trans h5
      obtain ⟨e, he⟩ : ∃ e, l[k] = e := ⟨_, rfl⟩
      rw [he] at hcl
      obtain ⟨g, kind, obj, off, ek, en, fn, pc, stack⟩ := e
      have q0 : wr.cell? ⟨b, o + k * 9, none⟩ = some (.int .i64 g) := hcl 0 _ rfl
      have q1 : wr.cell? ⟨b, o + k * 9 + 1, none⟩ = some (.int .i64 kind) := hcl 1 _ rfl
      have q2 : wr.cell? ⟨b, o + k * 9 + 2, none⟩ = some (.int .i64 obj) := hcl 2 _ rfl
      have q3 : wr.cell? ⟨b, o + k * 9 + 3, none⟩ = some (.int .i64 off) := hcl 3 _ rfl
      have q4 : wr.cell? ⟨b, o + k * 9 + 4, none⟩ = some (.int .i64 ek) := hcl 4 _ rfl
      have q5 : wr.cell? ⟨b, o + k * 9 + 5, none⟩ = some (.int .i64 en) := hcl 5 _ rfl
      have q6 : wr.cell? ⟨b, o + k * 9 + 6, none⟩ = some (.int .i64 fn) := hcl 6 _ rfl
      have q7 : wr.cell? ⟨b, o + k * 9 + 7, none⟩ = some (.int .i64 pc) := hcl 7 _ rfl
      have q8 : wr.cell? ⟨b, o + k * 9 + 8, none⟩ = some (.int .i64 stack) := hcl 8 _ rfl
      clear hcl hcell
      have HE := Lib.hid he; clear he
      have hwf : t.wf := TS.steps_wf TS.wf_new HST.out
      have hsucc := TS.steps_take_succ (s := TS.new) hlt
      rw [HST.out, HE.out] at hsucc
      simp only [Option.bind_some] at hsucc
      have hadd := add_head wr HT1.out hwf (by unfold maxLen; omega) ⟨g, kind, obj, off, ek, en, fn, pc, stack⟩ (fun _ _ => trivial)
      clear hwf
      cases ha : t.add ⟨g, kind, obj, off, ek, en, fn, pc, stack⟩ with
      | none =>
        rw [ha] at hadd hsucc
        have hchk : chk l = k := TS.chk_of hk HST.out (fun e' he' => by
          rw [List.getElem?_eq_getElem hlt] at he'
          have h6 := HE.out
          rw [Option.some.inj he'] at h6
          rw [h6]; exact ha)
        have HCK := Lib.hid hchk; clear hchk hsucc ha
        have HADD := Lib.hid hadd; clear hadd
        go_wp2_with fail
        refine HADD.out.mono ?_
        rintro r w2 ⟨rfl, ⟨kv', hT2⟩, hb2⟩
        have hfin : FollowPost w l (.returned (.tuple #[.pointer (some ⟨sb, 0, none⟩), .int .i64 k, .int .i64 (TS.new.wholeTo l k)])) w2 := by
          refine ⟨sb, bc, bm, bd, _, kv', t, ?_, ?_, hT2, HB1.out.trans (hb2.belowOf HB1.out.size ?_)⟩
          · unfold wholeOf; rw [HCK.out]
          · rw [HCK.out]; exact HST.out
          · simp only [List.mem_cons, List.not_mem_nil, or_false, forall_eq_or_imp, forall_eq]; exact ⟨z0, z1, z2, z3⟩
        have HF := Lib.hid hfin; clear hfin hT2 hb2
        go_wp2_with fail
        go_ret3
        exact HF.out
      | some u =>
        rw [ha] at hadd hsucc
        have HSU := Lib.hid hsucc; clear hsucc ha
        have HADD := Lib.hid hadd; clear hadd
        go_wp2_with fail
        refine HADD.out.mono ?_
        rintro r w2 ⟨rfl, ⟨kv', hT2⟩, hb2⟩
        simp only [Option.getD_some] at hT2
        have hfin : Below w.heap.size w w2 := HB1.out.trans (hb2.belowOf HB1.out.size (by simp only [List.mem_cons, List.not_mem_nil, or_false, forall_eq_or_imp, forall_eq]; exact ⟨z0, z1, z2, z3⟩))
        have HF := Lib.hid hfin; clear hfin hb2
        have hop := open_any w2 hT2
        have HT2 := Lib.hid hT2; clear hT2
        have hwt : TS.new.wholeTo l (k + 1) = if u.isOpen = true then TS.new.wholeTo l k else k + 1 := by
          simp only [TS.wholeTo]; rw [HSU.out]
        cases ho : u.isOpen with
        | true =>
          rw [ho] at hop hwt
          have HO := Lib.hid hop; clear hop
          have HW := Lib.hid hwt; clear hwt ho
          go_wp2_with ((go_at_call 23; refine HO.out.mono ?_; rintro r w3 ⟨rfl, rfl⟩))
          go_roundw
          case rel => exact ⟨k + 1, u, kv', by omega, by go_num, by rw [HW.out]; rfl, HSU.out, HT2.out, HF.out⟩
          case measure => simp [intOf]; omega
        | false =>
          rw [ho] at hop hwt
          have HO := Lib.hid hop; clear hop
          have HW := Lib.hid hwt; clear hwt ho
          go_wp2_with ((go_at_call 23; refine HO.out.mono ?_; rintro r w3 ⟨rfl, rfl⟩))
          go_roundw
          case rel => exact ⟨k + 1, u, kv', by omega, by go_num, by rw [HW.out]; go_num, HSU.out, HT2.out, HF.out⟩
          case measure => simp [intOf]; omega
    · have hkl : k = l.length := by omega
      have hchk : chk l = k := TS.chk_of hk HST.out (fun e' he' => by rw [List.getElem?_eq_none (by omega)] at he'; cases he')
      have hfin : FollowPost w l (.returned (.tuple #[.pointer (some ⟨sb, 0, none⟩), .int .i64 k, .int .i64 (TS.new.wholeTo l k)])) wr := by
        refine ⟨sb, bc, bm, bd, _, kv, t, ?_, ?_, HT1.out, HB1.out⟩
        · unfold wholeOf; rw [hchk]
        · rw [hchk]; exact HST.out
      have HF := Lib.hid hfin; clear hfin hchk hkl
      go_wp2_with fail
      go_ret3
      exact HF.out

/-- what Check hands back -/
def CheckPost (w : World) (l : List Ev) (r : Ending) (w' : World) : Prop :=
  r = .returned (.tuple #[.int .i64 (chk l), .bool (decide (chk l = l.length))]) ∧ Below w.heap.size w w'

theorem check_any (w : World) (v : Value) (l : List Ev) (h : EvAt w v l) (hl : l.length ≤ 1000000) : Calls Try.prog 13 #[v] w (CheckPost w l) := by
  have hf := follow_any w v l h hl
  obtain ⟨A, c, rfl, hlc, hc63, hA⟩ := h
  have HF := Lib.hid hf; clear hf hA
  go_enter Try.func13, Try.ntmps13
  go_wp2_with ((go_at_call 33; refine HF.out.mono ?_; rintro r w1 ⟨sb, bc, bm, bd, N, kv, t, rfl, hst, hT, hb⟩))
  go_ret2
  refine ⟨?_, hb⟩
  have h1 : ((chk l : Int) == (l.length : Int)) = decide (chk l = l.length) := by
    rw [Bool.eq_iff_iff]; simp; omega
  simp [h1]

theorem valid_any (w : World) (v : Value) (l : List Ev) (h : EvAt w v l) (hl : l.length ≤ 1000000) : Calls Try.prog 15 #[v] w fun r w' => r = .returned (.bool (decide (chk l = l.length))) ∧ Below w.heap.size w w' := by
  have hf := check_any w v l h hl
  obtain ⟨A, c, rfl, hlc, hc63, hA⟩ := h
  have HF := Lib.hid hf; clear hf hA
  go_enter Try.func15, Try.ntmps15
  go_wp2_with ((go_at_call 13; refine HF.out.mono ?_; rintro r w1 ⟨rfl, hb⟩))
  go_ret
  exact ⟨rfl, hb⟩

theorem whole_any (w : World) (v : Value) (l : List Ev) (h : EvAt w v l) (hl : l.length ≤ 1000000) : Calls Try.prog 17 #[v] w fun r w' => r = .returned (.int .i64 (wholeOf l)) ∧ Below w.heap.size w w' := by
  have hf := follow_any w v l h hl
  obtain ⟨A, c, rfl, hlc, hc63, hA⟩ := h
  have HF := Lib.hid hf; clear hf hA
  go_enter Try.func17, Try.ntmps17
  go_wp2_with ((go_at_call 33; refine HF.out.mono ?_; rintro r w1 ⟨sb, bc, bm, bd, N, kv, t, rfl, hst, hT, hb⟩))
  go_ret
  exact ⟨rfl, hb⟩
end Go.Proofs.Ytkdagjlkejefnaa
end
section
set_option linter.unusedSimpArgs false
set_option linter.unusedVariables false
namespace Go.Proofs.Ytkdagjlkejefnaa
open Go.RowKit
set_option maxRecDepth 100000
set_option maxHeartbeats 4000000

section
variable [KB]
theorem sgor_any {sb bc bm bd N : Nat} {s : TS} {kv : Value} (w : World) (h : TRep w sb bc bm bd N s kv) : Calls Try.prog 22 #[.pointer (some ⟨sb, 0, none⟩)] w fun e w' => e = .returned (.int .i64 s.gor) ∧ w = w' := by
  have h1 : w.cell? ⟨sb, 1, none⟩ = some (.int .i64 s.gor) := by rw [h.cell 1]; rfl
  go_enter Try.func22, Try.ntmps22
  go_wp2
  go_ret
  exact ⟨rfl, rfl⟩
end
end Go.Proofs.Ytkdagjlkejefnaa
end
section
set_option linter.unusedSimpArgs false
set_option linter.unusedVariables false
namespace Go.Proofs.Ytkdagjlkejefnaa
open Go Go.RowKit

/-- plain data: a scalar, or a slice that nobody turns -/
inductive Dt where
  | sc (v : Value)
  | im (rows : List (List Dt))
instance : Inhabited Dt := ⟨.sc undef⟩

/-- what a cell holds -/
inductive Cl where
  | un
  | d (x : Dt)
  | own (o g : Nat) (rows : List (List Dt))
  | ptr (o g off : Nat)
  | el (row : List Dt) (off : Nat)
  | ab (o g : Nat)
  | sv (o g off len cap sz : Nat)
  | ti (rows : List (List Dt))
instance : Inhabited Cl := ⟨.un⟩

/-- what a variable holds -/
inductive Bv where
  | one (c : Cl)
  | agg (cs : List Cl)
inductive Av where
  | un
  | b (x : Bv)
  | tup (xs : List Bv)

/-- what an object of another maker is: a predicate of the world, its value and its blocks -/
structure HP where
  r : World → Value → (Nat → Prop) → Prop
  keep : ∀ w w' v fp, r w v fp → (∀ b, fp b → w'.heap[b]? = w.heap[b]?) → r w' v fp
  lt : ∀ w v fp b, r w v fp → fp b → b < w.heap.size

inductive Ob where
  | no
  | cells (cs : List Cl)
  | row (E sz n : Nat)
  | ab (H : HP)

structure St where
  sl : Nat → Av
  gen : Nat → Nat
  ob : Nat → Ob

def up {α : Type} (f : Nat → α) (x : Nat) (v : α) : Nat → α := fun y => if y = x then v else f y
theorem up_at {α : Type} (f : Nat → α) (x : Nat) (v : α) (y : Nat) : up f x v y = if y = x then v else f y := rfl

inductive PX where
  | t (n : Nat)
  | v (c : Value)

inductive PO where
  | mv (x : PX)
  | nilRow (E sz : Nat)
  | pick (c a b : PX)
  | box (x : PX)
  | new (zero : List Value)
  | build (zero : List Value) (parts : List (Nat × Nat × PX))
  | bslice (E sz : Nat) (zero : List Value) (len : Nat) (parts : List (Nat × Nat × PX))
  | load (n : Option Nat) (a : PX)
  | store (sz : Nat) (a x : PX)
  | fld (off : Nat) (x : PX)
  | fldv (off : Nat) (n : Option Nat) (x : PX)
  | ixa (len sz : Nat) (x i : PX)
  | ixs (sz : Nat) (x i : PX)
  | ixv (len sz : Nat) (n : Option Nat) (x i : PX)
  | ixstr (x i : PX)
  | bin (op : BinOp) (x y : PX)
  | eqb (neg : Bool) (x y : PX)
  | eqs (neg : Bool) (ks : List Bool) (x y : PX)
  | un (op : UnOp) (x : PX)
  | conv (k : IntKind) (x : PX)
  | slc (sz : Nat) (x : PX) (lo hi : Option PX)
  | substr (x : PX) (lo hi : Option PX)
  | len (x : PX)
  | strlen (x : PX)
  | alen (n : Nat)
  | append (E sz bytes : Nat) (x y : PX)
  | mm (big : Bool) (xs : List PX)
  | ext (x : PX) (i : Nat)
  | nilck (x : PX)
  | mk (sz bytes : Nat) (zero : List Value) (n c : PX)
  | slc3 (sz : Nat) (x : PX) (lo : Option PX) (hi mx : PX)
  | call (f : Nat) (args : List PX)

structure PI where
  dst : Option Nat
  op : PO
  guard : Option (Nat × Bool)
  after : List Nat

inductive PC where
  | skip
  | reg (draw : Bool) (ops : List PI)
  | seq (a b : PC)
  | cond (c : PX) (a b : PC)
  | block (id : Nat) (c : PC)
  | loop (c : PC)
  | exit (id : Nat)
  | ret

/-- data handed over between functions -/
inductive Pa where
  | one (x : Dt)
  | agg (xs : List Dt)

def Cl.dt : Cl → Option Dt
  | .d (.sc (.slice none 0 0)) => some (.im [])
  | .d x => some x
  | .own _ _ rows => some (.im rows)
  | .ti rows => some (.im rows)
  | _ => none
def allSome {α : Type} : List (Option α) → Option (List α)
  | [] => some []
  | none :: _ => none
  | some x :: l => (allSome l).map (x :: ·)
def Bv.pa : Bv → Option Pa
  | .one c => c.dt.map .one
  | .agg cs => (allSome (cs.map Cl.dt)).map .agg
def Av.pa : Av → Option Pa
  | .b x => x.pa
  | _ => none
def Pa.bv : Pa → Bv
  | .one x => .one (.d x)
  | .agg xs => .agg (xs.map .d)
/-- what a call hands back: nothing, one value, several -/
def resAv : List Pa → Av
  | [] => .un
  | [x] => .b x.bv
  | xs => .tup (xs.map Pa.bv)

def constAv : Value → Av
  | .agg a => .b (.agg (a.toList.map fun v => .d (.sc v)))
  | .tuple _ => .un
  | v => .b (.one (.d (.sc v)))
def St.ev (s : St) : PX → Av
  | .t n => s.sl n
  | .v c => constAv c
def St.cl (s : St) (x : PX) : Cl := match s.ev x with
  | .b (.one c) => c
  | _ => .un
/-- the scalar that an operand holds -/
def St.val (s : St) (x : PX) : Option Value := match s.ev x with
  | .b (.one (.d (.sc v))) => some v
  | _ => none
def St.int (s : St) (x : PX) : Option Int := match s.ev x with
  | .b (.one (.d (.sc (.int _ n)))) => some n
  | _ => none
def St.boo (s : St) (x : PX) : Option Bool := match s.ev x with
  | .b (.one (.d (.sc (.bool b)))) => some b
  | _ => none
/-- the cells of a value -/
def St.cs (s : St) (x : PX) : Option (List Cl) := match s.ev x with
  | .b (.one c) => some [c]
  | .b (.agg cs) => some cs
  | _ => none
/-- the rows of a slice that is only read -/
def Cl.rows : Cl → Option (List (List Dt))
  | .d (.im rows) => some rows
  | .d (.sc (.slice none 0 0)) => some []
  | .own _ _ rows => some rows
  | .ti rows => some rows
  | _ => none
def mkAv (n : Option Nat) (cs : List Cl) (off : Nat) : Option Av := match n with
  | none => (cs[off]?).map fun c => .b (.one c)
  | some k => if off + k ≤ cs.length then some (.b (.agg ((cs.drop off).take k))) else none
def splice (cs : List Cl) (off : Nat) (new : List Cl) : List Cl := cs.take off ++ new ++ cs.drop (off + new.length)
/-- the cells ds written over cs, from a place on -/
def wrAt : List Cl → Nat → List Cl → List Cl
  | [], _, _ => []
  | c :: cs, 0, [] => c :: cs
  | _ :: cs, 0, d :: ds => d :: wrAt cs 0 ds
  | c :: cs, k + 1, ds => c :: wrAt cs k ds
def chunks {α : Type} : Nat → Nat → List α → List (List α)
  | 0, _, _ => []
  | n + 1, sz, xs => xs.take sz :: chunks n sz (xs.drop sz)
theorem chunks_eq {α : Type} (sz : Nat) : ∀ (n : Nat) (xs : List α), chunks n sz xs = (List.range n).map fun i => (xs.drop (i * sz)).take sz
  | 0, _ => rfl
  | n + 1, xs => by
    rw [chunks, chunks_eq sz n, List.range_succ_eq_map, List.map_cons, List.map_map]
    congr 1
    · simp
    · apply List.map_congr_left
      intro i _
      simp only [Function.comp, List.drop_drop]
      congr 2
      rw [Nat.succ_mul]; omega
def fillAll (cs : List Cl) : List (Nat × List Cl) → Option (List Cl)
  | [] => some cs
  | (o, new) :: rest => if o + new.length ≤ cs.length then fillAll (splice cs o new) rest else none
/-- parts: offset, size, operand -/
def St.parts (s : St) : List (Nat × Nat × PX) → Option (List (Nat × List Cl))
  | [] => some []
  | (o, k, x) :: rest => match s.cs x with
    | some c => if c.length = k then (s.parts rest).map ((o, c) :: ·) else none
    | none => none

def scBin (op : BinOp) : Value → Value → Option Value
  | .int k a, .int k' b => match op with
    | .shl => if b < 0 then none else some (.int k (k.wrap (a * 2 ^ (min b.toNat k.bits))))
    | .shr => if b < 0 then none else some (.int k (a.fdiv (2 ^ (min b.toNat k.bits))))
    | .add => if k = k' then some (.int k (k.wrap (a + b))) else none
    | .sub => if k = k' then some (.int k (k.wrap (a - b))) else none
    | .mul => if k = k' then some (.int k (k.wrap (a * b))) else none
    | .quo => if k = k' ∧ b ≠ 0 then some (.int k (k.wrap (a.tdiv b))) else none
    | .rem => if k = k' ∧ b ≠ 0 then some (.int k (a.tmod b)) else none
    | .and => if k = k' then some (.int k (k.wrap (BitVec.ofInt k.bits a &&& BitVec.ofInt k.bits b).toNat)) else none
    | .or => if k = k' then some (.int k (k.wrap (BitVec.ofInt k.bits a ||| BitVec.ofInt k.bits b).toNat)) else none
    | .xor => if k = k' then some (.int k (k.wrap (BitVec.ofInt k.bits a ^^^ BitVec.ofInt k.bits b).toNat)) else none
    | .eql => if k = k' then some (.bool (a == b)) else none
    | .neq => if k = k' then some (.bool (a != b)) else none
    | .lss => if k = k' then some (.bool (a < b)) else none
    | .leq => if k = k' then some (.bool (a ≤ b)) else none
    | .gtr => if k = k' then some (.bool (a > b)) else none
    | .geq => if k = k' then some (.bool (a ≥ b)) else none
    | _ => none
  | .string a, .string b => match op with
    | .add => if ((a.size + b.size : Nat) : Int) ≤ 9223372036854775807 then some (.string (a ++ b)) else none
    | .eql => some (.bool (a.toList == b.toList))
    | .neq => some (.bool !(a.toList == b.toList))
    | _ => none
  | _, _ => none

/-- two cells of a comparable type; kb: whether it is bool, else int -/
def eqCl (kb : Bool) : Cl → Cl → Option Bool
  | .d (.sc (.int k a)), .d (.sc (.int k' b)) => if kb = false ∧ k = k' then some (a == b) else none
  | .d (.sc (.bool a)), .d (.sc (.bool b)) => if kb = true then some (a == b) else none
  | _, _ => none
def eqCls : List Bool → List Cl → List Cl → Option Bool
  | [], [], [] => some true
  | k :: ks, x :: xs, y :: ys => match eqCl k x y, eqCls ks xs ys with
    | some a, some b => some (a && b)
    | _, _ => none
  | _, _, _ => none

def scMM (big : Bool) : Value → Value → Option Value
  | .int k a, .int k' b => if k = k' then some (.int k (if big then (if b > a then b else a) else (if b < a then b else a))) else none
  | _, _ => none

/-- what an operation does to the objects -/
inductive Cg where
  | no
  | new (o : Nat) (x : Ob)
  | wr (o off : Nat) (cs : List Cl)
  | row (o n : Nat)
  | ab (o : Nat) (H : HP)

def St.ap (s : St) (dst : Option Nat) (v : Av) (ch : Cg) : St where
  sl := match dst with
    | some d => up s.sl d v
    | none => s.sl
  gen := match ch with
    | .new o _ => up s.gen o (s.gen o + 1)
    | _ => s.gen
  ob := match ch with
    | .no => s.ob
    | .new o x => up s.ob o x
    | .wr o off cs => up s.ob o (match s.ob o with | .cells old => .cells (wrAt old off cs) | x => x)
    | .row o n => up s.ob o (match s.ob o with | .row E sz _ => .row E sz n | x => x)
    | .ab o H => up s.ob o (.ab H)

def scAv (v : Value) : Av := .b (.one (.d (.sc v)))

/-- the operations but calls; d: the slot that is written, it names what is made -/
def PO.fn (s : St) (d : Nat) : PO → Option (Av × Cg)
  | .mv x => some (s.ev x, .no)
  | .nilRow E sz => some (.b (.one (.own d (s.gen d + 1) [])), .new d (.row E sz 0))
  | .pick c a b => (s.boo c).map fun t => (if t then s.ev a else s.ev b, .no)
  | .box x => (s.cs x).map fun cs => (.b (.one (.ptr d (s.gen d + 1) 0)), .new d (.cells cs))
  | .new z => some (.b (.one (.ptr d (s.gen d + 1) 0)), .new d (.cells (z.map fun v => .d (.sc v))))
  | .build z ps => (s.parts ps).bind fun ps => (fillAll (z.map fun v => .d (.sc v)) ps).map fun cs => (.b (.agg cs), .no)
  | .bslice E sz z ln ps => (s.parts ps).bind fun ps => (fillAll (z.map fun v => .d (.sc v)) ps).bind fun cs =>
      (allSome (cs.map Cl.dt)).map fun xs => (.b (.one (.own d (s.gen d + 1) (chunks ln sz xs))), .new d (.row E sz ln))
  | .load n a => match s.cl a with
    | .ptr o g off => if s.gen o = g then (match s.ob o with | .cells cs => (mkAv n cs off).map (·, .no) | _ => none) else none
    | .el row off => (mkAv n (row.map .d) off).map (·, .no)
    | _ => none
  | .store sz a x => match s.cl a, s.cs x with
    | .ptr o g off, some nw => if s.gen o = g ∧ nw.length = sz then (match s.ob o with | .cells cs => if off + sz ≤ cs.length then some (.un, .wr o off nw) else none | _ => none) else none
    | _, _ => none
  | .fld off x => match s.cl x with
    | .ptr o g k => if s.gen o = g then some (.b (.one (.ptr o g (k + off))), .no) else none
    | .el row k => some (.b (.one (.el row (k + off))), .no)
    | _ => none
  | .fldv off n x => match s.ev x with
    | .b (.agg cs) => (mkAv n cs off).map (·, .no)
    | _ => none
  | .ixa ln sz x i => match s.cl x, s.int i with
    | .ptr o g off, some k => if s.gen o = g ∧ 0 ≤ k ∧ k < ln then some (.b (.one (.ptr o g (off + k.toNat * sz))), .no) else none
    | .el row off, some k => if 0 ≤ k ∧ k < ln then some (.b (.one (.el row (off + k.toNat * sz))), .no) else none
    | _, _ => none
  | .ixs sz x i => match s.int i with
    | some k => match s.cl x with
      | .sv o g off ln _ _ => if s.gen o = g ∧ 0 ≤ k ∧ k < ln then some (.b (.one (.ptr o g (off + k.toNat * sz))), .no) else none
      | c => match c.rows with
        | some rows => if 0 ≤ k then (match rows[k.toNat]? with | some row => if row.length = sz then some (.b (.one (.el row 0)), .no) else none | none => none) else none
        | none => none
    | none => none
  | .ixv ln sz n x i => match s.ev x, s.int i with
    | .b (.agg cs), some k => if 0 ≤ k ∧ k < ln then (mkAv n cs (k.toNat * sz)).map (·, .no) else none
    | _, _ => none
  | .ixstr x i => match s.val x, s.int i with
    | some (.string b), some k => if 0 ≤ k then (b[k.toNat]?).map fun c => (scAv (.int .u8 c.toNat), .no) else none
    | _, _ => none
  | .bin op x y => match s.val x, s.val y with
    | some a, some b => (scBin op a b).map fun v => (scAv v, .no)
    | _, _ => none
  | .eqb neg x y => match s.boo x, s.boo y with
    | some a, some b => some (scAv (.bool (if neg then !(a == b) else a == b)), .no)
    | _, _ => none
  | .eqs neg ks x y => match s.ev x, s.ev y with
    | .b (.agg a), .b (.agg b) => (eqCls ks a b).map fun t => (scAv (.bool (if neg then !t else t)), .no)
    | _, _ => none
  | .un op x => match op, s.val x with
    | .not, some (.bool b) => some (scAv (.bool !b), .no)
    | .neg, some (.int k n) => some (scAv (.int k (k.wrap (0 - n))), .no)
    | .xor, some (.int k n) => some (scAv (.int k (k.wrap (BitVec.ofInt k.bits (if k.signed then -1 else k.max) ^^^ BitVec.ofInt k.bits n).toNat)), .no)
    | _, _ => none
  | .conv k x => (s.int x).map fun n => (scAv (.int k (k.wrap n)), .no)
  | .slc sz x lo hi => match (s.cl x).rows with
    | some rows =>
      let l := (lo.map s.int).getD (some 0)
      let h := (hi.map s.int).getD (some (rows.length : Int))
      match l, h with
      | some l, some h => if 0 ≤ l ∧ l ≤ h ∧ h ≤ rows.length ∧ (∀ r ∈ rows, r.length = sz) then some (.b (.one (.d (.im ((rows.take h.toNat).drop l.toNat)))), .no) else none
      | _, _ => none
    | none => none
  | .substr x lo hi => match s.val x with
    | some (.string b) =>
      let l := (lo.map s.int).getD (some 0)
      let h := (hi.map s.int).getD (some (b.size : Int))
      match l, h with
      | some l, some h => if 0 ≤ l ∧ l ≤ h ∧ h ≤ b.size then some (scAv (.string (b.extract l.toNat h.toNat)), .no) else none
      | _, _ => none
    | _ => none
  | .len x => match s.cl x with
    | .sv _ _ _ ln _ _ => some (scAv (.int .i64 ln), .no)
    | c => (c.rows).map fun rows => (scAv (.int .i64 rows.length), .no)
  | .strlen x => match s.val x with
    | some (.string b) => some (scAv (.int .i64 b.size), .no)
    | _ => none
  | .alen n => some (scAv (.int .i64 n), .no)
  | .append E sz bytes x y => match s.cl x, (s.cl y).rows with
    | .own o g rows, some news => if s.gen o = g then (match s.ob o with
      | .row E' sz' n => if E' = E ∧ sz' = sz ∧ n = rows.length ∧ (∀ r ∈ news, r.length = sz) ∧ rows.length + news.length ≤ 1000000 ∧ bytes ≤ 1000000 then
          some (.b (.one (.own o g (rows ++ news))), .row o (rows.length + news.length)) else none
      | _ => none) else none
    | .ti rows, some news => if (∀ r ∈ rows, r.length = sz) ∧ (∀ r ∈ news, r.length = sz) ∧ rows.length + news.length ≤ 1000000 ∧ bytes ≤ 1000000 then
        some (.b (.one (.d (.im (rows ++ news)))), .no) else none
    | _, _ => none
  | .mm big xs => match xs.map s.val with
    | some v :: rest => (rest.foldl (fun acc y => match acc, y with | some a, some b => scMM big a b | _, _ => none) (some v)).map fun v => (scAv v, .no)
    | _ => none
  | .ext x i => match s.ev x with
    | .tup xs => (xs[i]?).map fun v => (.b v, .no)
    | _ => none
  | .nilck x => match s.cl x with
    | .ptr o g off => if s.gen o = g then some (.b (.one (.ptr o g off)), .no) else none
    | _ => none
  | .mk sz bytes zero n c => match s.int n, s.int c with
    | some l, some m => if 0 ≤ l ∧ l = m ∧ l ≤ 1000000 ∧ bytes ≤ 1000000 then
        some (.b (.one (.sv d (s.gen d + 1) 0 l.toNat l.toNat sz)), .new d (.cells ((List.range (l.toNat * sz)).map fun i => .d (.sc (zero.getD (i % sz) undef))))) else none
    | _, _ => none
  | .slc3 sz x lo hi mx => match (s.cl x).rows with
    | some rows =>
      let l := (lo.map s.int).getD (some 0)
      match l, s.int hi, s.int mx with
      | some l, some h, some m => if 0 ≤ l ∧ l ≤ h ∧ h = m ∧ h ≤ rows.length ∧ (∀ r ∈ rows, r.length = sz) then some (.b (.one (.ti ((rows.take h.toNat).drop l.toNat))), .no) else none
      | _, _, _ => none
    | none => none
  | .call _ _ => none

/-- what the functions that are called do: f args results; with an object of another maker (or none, where one is made): f object args object results; what makes a second object out of one -/
structure Env where
  d : Nat → List Pa → List Pa → Prop
  a : Nat → Option HP → List Pa → HP → List Pa → Prop
  c : Nat → HP → HP → Prop

def withSome {α : Type} : Option α → (α → Prop) → Prop
  | some x, K => K x
  | none, _ => False
theorem withSome_iff {α : Type} {x : Option α} {K : α → Prop} : withSome x K ↔ ∃ y, x = some y ∧ K y := by
  cases x with
  | none => exact ⟨fun h => h.elim, fun ⟨_, h, _⟩ => by cases h⟩
  | some y => exact ⟨fun h => ⟨y, rfl, h⟩, fun ⟨z, h, k⟩ => by cases h; exact k⟩

def St.args (s : St) (xs : List PX) : Option (List Pa) := allSome (xs.map fun x => (s.ev x).pa)
/-- the object of another maker that a value is -/
def Cl.abOf : Cl → Option (Nat × Nat)
  | .un => none
  | .d _ => none
  | .own _ _ _ => none
  | .ptr _ _ _ => none
  | .el _ _ => none
  | .ab o g => some (o, g)
  | .sv _ _ _ _ _ _ => none
  | .ti _ => none
def Bv.abOf : Bv → Option (Nat × Nat)
  | .one c => c.abOf
  | .agg _ => none
def Av.abOf : Av → Option (Nat × Nat)
  | .un => none
  | .b x => x.abOf
  | .tup _ => none
def St.recv (s : St) : List PX → Option (Nat × Nat)
  | [] => none
  | x :: _ => (s.ev x).abOf
def St.abAt (s : St) (o g : Nat) : Option HP := if s.gen o = g then (match s.ob o with | .ab H => some H | _ => none) else none
/-- what a call hands back that makes an object: it alone, or it and data -/
def newAv (d g : Nat) : List Pa → Av
  | [] => .b (.one (.ab d g))
  | r :: rs => .tup (.one (.ab d g) :: (r :: rs).map Pa.bv)
def callG (env : Env) (s : St) (d : Nat) (K : Av → Cg → Prop) (f : Nat) (xs : List PX) : Option (Nat × Nat) → Prop
  | some (o, g) => withSome (s.args xs.tail) fun az => withSome (s.abAt o g) fun H =>
      (∃ H' rs, env.a f (some H) az H' rs ∧ K (resAv rs) (.ab o H')) ∨ (∃ H2, az = [] ∧ env.c f H H2 ∧ K (.b (.one (.ab d (s.gen d + 1)))) (.new d (.ab H2)))
  | none => withSome (s.args xs) fun az =>
      (∃ rs, env.d f az rs ∧ K (resAv rs) .no) ∨ (∃ H rs, env.a f none az H rs ∧ K (newAv d (s.gen d + 1) rs) (.new d (.ab H)))
def PO.go (env : Env) (s : St) (d : Nat) (K : Av → Cg → Prop) : PO → Prop
  | .call f xs => callG env s d K f xs (s.recv xs)
  | op => withSome (op.fn s d) fun p => K p.1 p.2
def PO.isCall : PO → Bool
  | .mv _ => false
  | .nilRow _ _ => false
  | .pick _ _ _ => false
  | .box _ => false
  | .new _ => false
  | .build _ _ => false
  | .bslice _ _ _ _ _ => false
  | .load _ _ => false
  | .store _ _ _ => false
  | .fld _ _ => false
  | .fldv _ _ _ => false
  | .ixa _ _ _ _ => false
  | .ixs _ _ _ => false
  | .ixv _ _ _ _ _ => false
  | .ixstr _ _ => false
  | .bin _ _ _ => false
  | .eqb _ _ _ => false
  | .eqs _ _ _ _ => false
  | .un _ _ => false
  | .conv _ _ => false
  | .slc _ _ _ _ => false
  | .substr _ _ _ => false
  | .len _ => false
  | .strlen _ => false
  | .alen _ => false
  | .append _ _ _ _ _ => false
  | .mm _ _ => false
  | .ext _ _ => false
  | .nilck _ => false
  | .mk _ _ _ _ _ => false
  | .slc3 _ _ _ _ _ => false
  | .call _ _ => true
theorem PO.go_fn {env : Env} {s : St} {d : Nat} {K : Av → Cg → Prop} {po : PO} (h : po.isCall = false) : po.go env s d K = withSome (po.fn s d) fun p => K p.1 p.2 := by
  cases po <;> first | rfl | cases h
/-- what an operation leaves that was passed by -/
def skp : Av := .tup []
def isSkp : Av → Bool
  | .un => false
  | .b _ => false
  | .tup [] => true
  | .tup (_ :: _) => false
/-- what is known of a guard: passed by itself, or true or false -/
def St.gd (s : St) (t : Nat) : Option (Option Bool) := if isSkp (s.sl t) = true then some none else (s.boo (.t t)).map some
def PI.go (env : Env) (s : St) (K : Av → Cg → Prop) (i : PI) : Prop := match i.guard with
  | none => i.op.go env s (i.dst.getD 0) K
  | some (t, want) => withSome (s.gd t) fun b => (b = some want → i.op.go env s (i.dst.getD 0) K) ∧ (b ≠ some want → K skp .no)
def evalOps (env : Env) : List PI → St → (St → Prop) → Prop
  | [], s, K => K s
  | i :: is, s, K => i.go env s fun v ch => evalOps env is (s.ap i.dst v ch) K

/-- a range of an object: object, place, length -/
abbrev Rg := Nat × Nat × Nat
def big : Nat := 4611686018427387904
def Cg.wrs : Cg → List Rg
  | .no => []
  | .new o _ => [(o, 0, big)]
  | .wr o off cs => [(o, off, cs.length)]
  | .row o _ => [(o, 0, big)]
  | .ab o _ => [(o, 0, big)]
/-- what an operation reads of the objects -/
def PO.rd (s : St) (d : Nat) : PO → List Rg
  | .load n a => match s.cl a with
    | .ptr o _ off => [(o, off, n.getD 1)]
    | _ => []
  | .store sz a _ => match s.cl a with
    | .ptr o _ off => [(o, off, sz)]
    | _ => []
  | .fld _ x => match s.cl x with
    | .ptr o _ _ => [(o, big - 1, 1)]
    | _ => []
  | .ixa _ _ x _ => match s.cl x with
    | .ptr o _ _ => [(o, big - 1, 1)]
    | _ => []
  | .nilck x => match s.cl x with
    | .ptr o _ _ => [(o, big - 1, 1)]
    | _ => []
  | .append _ _ _ x _ => match s.cl x with
    | .own o _ _ => [(o, 0, big)]
    | _ => []
  | .nilRow _ _ => [(d, big - 1, 1)]
  | .box _ => [(d, big - 1, 1)]
  | .new _ => [(d, big - 1, 1)]
  | .bslice _ _ _ _ _ => [(d, big - 1, 1)]
  | .mk _ _ _ _ _ => [(d, big - 1, 1)]
  | .ixs _ x _ => match s.cl x with
    | .sv o _ _ _ _ _ => [(o, big - 1, 1)]
    | _ => []
  | .call _ xs => match s.recv xs with
    | some p => [(p.1, 0, big), (d, big - 1, 1)]
    | none => [(d, big - 1, 1)]
  | _ => []
def PI.rd (s : St) (i : PI) : List Rg := i.op.rd s (i.dst.getD 0)
def evalD (env : Env) : List PI → St → List (List Rg × List Rg) → (St → List (List Rg × List Rg) → Prop) → Prop
  | [], s, acc, K => K s acc.reverse
  | i :: is, s, acc, K => i.go env s fun v ch => evalD env is (s.ap i.dst v ch) ((i.rd s, ch.wrs) :: acc) K

def PX.slots : PX → List Nat
  | .t n => [n]
  | .v _ => []
def oslots : Option PX → List Nat
  | some x => x.slots
  | none => []
def PO.slots : PO → List Nat
  | .mv x => x.slots
  | .nilRow _ _ => []
  | .pick c a b => c.slots ++ a.slots ++ b.slots
  | .box x => x.slots
  | .new _ => []
  | .build _ ps => ps.flatMap fun p => p.2.2.slots
  | .bslice _ _ _ _ ps => ps.flatMap fun p => p.2.2.slots
  | .load _ a => a.slots
  | .store _ a x => a.slots ++ x.slots
  | .fld _ x => x.slots
  | .fldv _ _ x => x.slots
  | .ixa _ _ x i => x.slots ++ i.slots
  | .ixs _ x i => x.slots ++ i.slots
  | .ixv _ _ _ x i => x.slots ++ i.slots
  | .ixstr x i => x.slots ++ i.slots
  | .bin _ x y => x.slots ++ y.slots
  | .eqb _ x y => x.slots ++ y.slots
  | .eqs _ _ x y => x.slots ++ y.slots
  | .un _ x => x.slots
  | .conv _ x => x.slots
  | .slc _ x lo hi => x.slots ++ oslots lo ++ oslots hi
  | .substr x lo hi => x.slots ++ oslots lo ++ oslots hi
  | .len x => x.slots
  | .strlen x => x.slots
  | .alen _ => []
  | .append _ _ _ x y => x.slots ++ y.slots
  | .mm _ xs => xs.flatMap PX.slots
  | .ext x _ => x.slots
  | .nilck x => x.slots
  | .mk _ _ _ n c => n.slots ++ c.slots
  | .slc3 _ x lo hi mx => x.slots ++ oslots lo ++ hi.slots ++ mx.slots
  | .call _ xs => xs.flatMap PX.slots
def PI.looks (i : PI) : List Nat := i.op.slots ++ (match i.guard with | some (t, _) => [t] | none => [])

def rgApart (a b : Rg) : Bool := a.1 != b.1 || (decide (a.2.2 < big) && decide (b.2.2 < big) && (decide (a.2.1 + a.2.2 ≤ b.2.1) || decide (b.2.1 + b.2.2 ≤ a.2.1)))
def rgsApart (xs ys : List Rg) : Bool := xs.all fun x => ys.all fun y => rgApart x y
def notIn (d : Option Nat) (l : List Nat) : Bool := match d with
  | some d => !l.contains d
  | none => true
/-- i does not touch what j looks at -/
def indep1 (i j : PI) (wi : List Rg) (rj wj : List Rg) : Bool := notIn i.dst j.looks && rgsApart wi rj && rgsApart wi wj && notIn i.dst (match j.dst with | some d => [d] | none => [])
def masks : List Nat → List PI → List Nat
  | acc, [] => acc
  | acc, i :: r => masks (acc ++ [i.after.foldl (fun m e => m ||| (1 <<< e) ||| acc.getD e 0) 0]) r
/-- all that is not ordered does not touch each other -/
def drawOk (is : List PI) (fts : List (List Rg × List Rg)) : Bool :=
  (List.range is.length).all fun j => (List.range j).all fun i => ((masks [] is).getD j 0).testBit i ||
    (match is[i]?, is[j]?, fts[i]?, fts[j]? with
      | some pi, some pj, some fi, some fj => indep1 pi pj fi.2 fj.1 fj.2 && indep1 pj pi fj.2 fi.1 fi.2
      | _, _, _, _ => false)

/-- the plain weakest precondition -/
def pwp (env : Env) : PC → (Exit → St → Prop) → St → Prop
  | .skip, Q, s => Q .normal s
  | .reg false ops, Q, s => evalOps env ops s (Q .normal)
  | .reg true ops, Q, s => evalD env ops s [] fun s' fts => drawOk ops fts = true ∧ Q .normal s'
  | .seq a b, Q, s => pwp env a (fun e s' => match e with | .normal => pwp env b Q s' | e => Q e s') s
  | .cond c a b, Q, s => withSome (s.boo c) fun t => (t = true → pwp env a Q s) ∧ (t = false → pwp env b Q s)
  | .block id c, Q, s => pwp env c (fun e s' => match e with | .exit i => if i = id then Q .normal s' else Q (.exit i) s' | e => Q e s') s
  | .loop c, Q, s => ∃ I : Nat → St → Prop, (∃ n, I n s) ∧ ∀ n s, I n s → pwp env c (fun e s' => match e with | .normal => ∃ m, m < n ∧ I m s' | e => Q e s') s
  | .exit id, Q, s => Q (.exit id) s
  | .ret, Q, s => Q .ret s
end Go.Proofs.Ytkdagjlkejefnaa
end
section
set_option linter.unusedSimpArgs false
set_option linter.unusedVariables false
namespace Go.Proofs.Ytkdagjlkejefnaa
open Go Go.RowKit

theorem heapOld (w : World) (o : Obj) (i : Nat) (h : i < w.heap.size) : (w.alloc o).heap[i]? = w.heap[i]? := by
  show (w.heap.push o)[i]? = w.heap[i]?
  rw [Array.getElem?_push, if_neg (Nat.ne_of_lt h)]
/-- the datum x is the value v; S b: so many cells of block b are settled -/
inductive RD (S : Nat → Nat) (w : World) : Dt → Value → Prop
  | sc (v : Value) (h : v.oneCell' = true) : RD S w (.sc v) v
  | emp (A : Option Addr) (c : Nat) (h : c ≤ maxLen) : RD S w (.im []) (.slice A 0 c)
  | im (rows : List (List Dt)) (sz b o cap : Nat) (f : Nat → Nat → Value) (hc : rows.length ≤ cap) (hm : cap ≤ maxLen) (hsz : ∀ r, r ∈ rows → r.length = sz)
      (hcell : ∀ i j, i < rows.length → j < sz → w.cell? ⟨b, o + (i * sz + j), none⟩ = some (f i j) ∧ o + (i * sz + j) < S b)
      (hd : ∀ i r j x, rows[i]? = some r → r[j]? = some x → RD S w x (f i j)) : RD S w (.im rows) (.slice (some ⟨b, o, none⟩) rows.length cap)

/-- what was settled stays -/
def Ext (S S' : Nat → Nat) (w w' : World) : Prop := ∀ b i, i < S b → (w.cell? ⟨b, i, none⟩).isSome = true → i < S' b ∧ w'.cell? ⟨b, i, none⟩ = w.cell? ⟨b, i, none⟩
theorem Ext.refl (S : Nat → Nat) (w : World) : Ext S S w w := fun _ _ h _ => ⟨h, rfl⟩
theorem Ext.trans {S S' S'' : Nat → Nat} {w w' w'' : World} (h : Ext S S' w w') (k : Ext S' S'' w' w'') : Ext S S'' w w'' := fun b i hi hc => by
  obtain ⟨h1, h2⟩ := h b i hi hc
  obtain ⟨k1, k2⟩ := k b i h1 (by rw [h2]; exact hc)
  exact ⟨k1, k2.trans h2⟩

theorem RD.ext {S S' : Nat → Nat} {w w' : World} (h : Ext S S' w w') {x : Dt} {v : Value} (hx : RD S w x v) : RD S' w' x v := by
  induction hx with
  | sc v h => exact .sc v h
  | emp A c h => exact .emp A c h
  | im rows sz b o cap f hc hm hsz hcell hd ih =>
    refine .im rows sz b o cap f hc hm hsz (fun i j hi hj => ?_) ih
    obtain ⟨h1, h2⟩ := hcell i j hi hj
    obtain ⟨h3, h4⟩ := h b _ h2 (by rw [h1]; rfl)
    exact ⟨h4.trans h1, h3⟩
theorem RD.one {S : Nat → Nat} {w : World} {x : Dt} {v : Value} (hx : RD S w x v) : v.oneCell' = true := by
  cases hx with
  | sc v h => exact h
  | emp => rfl
  | im => rfl

structure Wit where
  blk : Nat → Nat
  val : Nat → Value
  adr : Nat → Value
  fp : Nat → Nat → Prop
  S : Nat → Nat

def RC (W : Wit) (G : Nat → Nat) (O : Nat → Ob) (w : World) : Cl → Value → Prop
  | .un, v => v.oneCell' = true
  | .d x, v => RD W.S w x v
  | .own o g rows, v => RD W.S w (.im rows) v ∧ g ≤ G o ∧ (g = G o → ∀ E sz n, O o = .row E sz n → (∀ r, r ∈ rows → r.length = sz) ∧ rows.length ≤ n ∧ (n = rows.length → v = W.val o))
  | .ptr o g off, v => v.oneCell' = true ∧ g ≤ G o ∧ (g = G o → v = .pointer (some ⟨W.blk o, off, none⟩))
  | .el row off, v => ∃ b o, v = .pointer (some ⟨b, o + off, none⟩) ∧ ∀ j x, row[j]? = some x → ∃ u, w.cell? ⟨b, o + j, none⟩ = some u ∧ o + j < W.S b ∧ RD W.S w x u
  | .ab o g, v => v.oneCell' = true ∧ g ≤ G o ∧ (g = G o → v = W.adr o)
  | .sv o g off len cap _, v => ∃ b, v = .slice (some ⟨b, off, none⟩) len cap ∧ len ≤ cap ∧ cap ≤ maxLen ∧ g ≤ G o ∧ (g = G o → b = W.blk o)
  | .ti rows, v => RD W.S w (.im rows) v ∧ ∃ A, v = .slice A rows.length rows.length

theorem RC.one {W : Wit} {G : Nat → Nat} {O : Nat → Ob} {w : World} {c : Cl} {v : Value} (h : RC W G O w c v) : v.oneCell' = true := by
  cases c with
  | un => exact h
  | d x => exact RD.one h
  | own o g rows => exact RD.one h.1
  | ptr o g off => exact h.1
  | el row off => obtain ⟨b, o, rfl, _⟩ := h; rfl
  | ab o g => exact h.1
  | sv o g off len cap sz => obtain ⟨b, rfl, _⟩ := h; rfl
  | ti rows => exact RD.one h.1

def RCs (W : Wit) (G : Nat → Nat) (O : Nat → Ob) (w : World) (cs : List Cl) (vs : List Value) : Prop :=
  cs.length = vs.length ∧ ∀ (i : Nat) c u, cs[i]? = some c → vs[i]? = some u → RC W G O w c u
def RB (W : Wit) (G : Nat → Nat) (O : Nat → Ob) (w : World) : Bv → Value → Prop
  | .one c, v => RC W G O w c v
  | .agg cs, v => ∃ arr : Array Value, v = .agg arr ∧ RCs W G O w cs arr.toList
def RA (W : Wit) (G : Nat → Nat) (O : Nat → Ob) (w : World) : Av → Value → Prop
  | .un, _ => True
  | .b x, v => RB W G O w x v
  | .tup xs, v => ∃ vs : Array Value, v = .tuple vs ∧ xs.length = vs.size ∧ ∀ (i : Nat) x u, xs[i]? = some x → vs[i]? = some u → RB W G O w x u

def RO (B : Nat) (W : Wit) (G : Nat → Nat) (O : Nat → Ob) (w : World) (o : Nat) : Ob → Prop
  | .no => True
  | .cells cs => ∃ arr T, w.heap[W.blk o]? = some (.cells arr T (0, 0)) ∧ B ≤ W.blk o ∧ W.S (W.blk o) = 0 ∧ RCs W G O w cs arr.toList
  | .row E sz n => ∃ xs, w.ownsRow B E sz (W.val o) n xs ∧ ∀ g, (W.val o).ownBlock = some g → W.S g ≤ n * sz
  | .ab H => H.r w (W.adr o) (W.fp o) ∧ ∀ b, W.fp o b → B ≤ b ∧ W.S b = 0
def cl (W : Wit) (o : Nat) : Ob → Nat → Prop
  | .no, _ => False
  | .cells _, b => W.blk o = b
  | .row _ _ _, b => (W.val o).ownBlock = some b
  | .ab _, b => W.fp o b

/-- how what is known follows from one moment to a later one -/
structure Fol (W : Wit) (G : Nat → Nat) (O : Nat → Ob) (w : World) (W' : Wit) (G' : Nat → Nat) (O' : Nat → Ob) (w' : World) : Prop where
  ext : Ext W.S W'.S w w'
  gen : ∀ o, G o ≤ G' o
  blk : ∀ o, G' o = G o → W'.blk o = W.blk o
  own : ∀ o E sz n', G' o = G o → O' o = .row E sz n' → ∃ n, O o = .row E sz n ∧ n ≤ n' ∧ (n = n' → W'.val o = W.val o)
  adr : ∀ o, G' o = G o → W'.adr o = W.adr o

section
variable {W W' : Wit} {G G' : Nat → Nat} {O O' : Nat → Ob} {w w' : World}
theorem RC.fol (h : Fol W G O w W' G' O' w') {c : Cl} {v : Value} (hc : RC W G O w c v) : RC W' G' O' w' c v := by
  cases c with
  | un => exact hc
  | d x => exact RD.ext h.ext hc
  | own o g rows =>
    obtain ⟨h1, h2, h3⟩ := hc
    refine ⟨RD.ext h.ext h1, Nat.le_trans h2 (h.gen o), fun hg E sz n' hO => ?_⟩
    have hgg : G' o = G o := by have := h.gen o; omega
    obtain ⟨n, hn, hle, hval⟩ := h.own o E sz n' hgg hO
    obtain ⟨h6, h4, h5⟩ := h3 (by omega) E sz n hn
    refine ⟨h6, by omega, fun he => ?_⟩
    have : n = n' := by omega
    rw [hval this]
    exact h5 (by omega)
  | ptr o g off =>
    obtain ⟨h1, h2, h3⟩ := hc
    refine ⟨h1, Nat.le_trans h2 (h.gen o), fun hg => ?_⟩
    have hgg : G' o = G o := by have := h.gen o; omega
    rw [h.blk o hgg]
    exact h3 (by omega)
  | el row off =>
    obtain ⟨b, o, h1, h2⟩ := hc
    refine ⟨b, o, h1, fun j x hj => ?_⟩
    obtain ⟨u, h3, h4, h5⟩ := h2 j x hj
    obtain ⟨h6, h7⟩ := h.ext b _ h4 (by rw [h3]; rfl)
    exact ⟨u, h7.trans h3, h6, RD.ext h.ext h5⟩
  | ab o g =>
    obtain ⟨h1, h2, h3⟩ := hc
    refine ⟨h1, Nat.le_trans h2 (h.gen o), fun hg => ?_⟩
    have hgg : G' o = G o := by have := h.gen o; omega
    rw [h.adr o hgg]
    exact h3 (by omega)
  | sv o g off len cap sz =>
    obtain ⟨b, h1, h2, h3, h4, h5⟩ := hc
    refine ⟨b, h1, h2, h3, Nat.le_trans h4 (h.gen o), fun hg => ?_⟩
    have hgg : G' o = G o := by have := h.gen o; omega
    rw [h.blk o hgg]
    exact h5 (by omega)
  | ti rows => exact ⟨RD.ext h.ext hc.1, hc.2⟩
theorem RCs.fol (h : Fol W G O w W' G' O' w') {cs : List Cl} {vs : List Value} (hc : RCs W G O w cs vs) : RCs W' G' O' w' cs vs :=
  ⟨hc.1, fun i c u h1 h2 => RC.fol h (hc.2 i c u h1 h2)⟩
theorem RB.fol (h : Fol W G O w W' G' O' w') {x : Bv} {v : Value} (hc : RB W G O w x v) : RB W' G' O' w' x v := by
  cases x with
  | one c => exact RC.fol h hc
  | agg cs => obtain ⟨arr, h1, h2⟩ := hc; exact ⟨arr, h1, RCs.fol h h2⟩
theorem RA.fol (h : Fol W G O w W' G' O' w') {x : Av} {v : Value} (hc : RA W G O w x v) : RA W' G' O' w' x v := by
  cases x with
  | un => trivial
  | b x => exact RB.fol h hc
  | tup xs => obtain ⟨vs, h1, h2, h3⟩ := hc; exact ⟨vs, h1, h2, fun i x u h4 h5 => RB.fol h (h3 i x u h4 h5)⟩
/-- an object whose blocks are not touched -/
theorem RO.fol (h : Fol W G O w W' G' O' w') {B o : Nat} {x : Ob} (hc : RO B W G O w o x) (hg : G' o = G o) (hv : W'.val o = W.val o) (hf : W'.fp o = W.fp o)
    (hb : ∀ b, cl W o x b → w'.heap[b]? = w.heap[b]? ∧ W'.S b = W.S b) : RO B W' G' O' w' o x := by
  cases x with
  | no => trivial
  | cells cs =>
    obtain ⟨arr, T, h1, h2, h3, h4⟩ := hc
    obtain ⟨k1, k2⟩ := hb (W.blk o) rfl
    have := h.blk o hg
    exact ⟨arr, T, by rw [this, k1]; exact h1, by rw [this]; exact h2, by rw [this, k2]; exact h3, RCs.fol h h4⟩
  | row E sz n =>
    obtain ⟨xs, h1, h2⟩ := hc
    refine ⟨xs, ?_, fun g hg2 => ?_⟩
    · rw [hv]
      refine ⟨h1.1, h1.2.imp id fun ⟨g, cap, cur, e1, e2, e3, e4⟩ => ⟨g, cap, cur, e1, e2, ?_, e4⟩⟩
      rw [(hb g (by show (W.val o).ownBlock = some g; rw [e1]; rfl)).1]
      exact e3
    · rw [hv] at hg2
      rw [(hb g hg2).2]
      exact h2 g hg2
  | ab H =>
    obtain ⟨h1, h2⟩ := hc
    have hadr := h.adr o hg
    refine ⟨?_, fun b hb2 => ?_⟩
    · rw [hadr, hf]
      exact H.keep _ _ _ _ h1 (fun b hb2 => (hb b hb2).1)
    · rw [hf] at hb2
      rw [(hb b hb2).2]
      exact h2 b hb2
end

structure Sim (w0 : World) (S0 : Nat → Nat) (n : Nat) (W : Wit) (s : St) (a : Act) (w : World) : Prop where
  below : Below w0.heap.size w0 w
  s0 : ∀ b, b < w0.heap.size → W.S b = S0 b
  len : a.tmps.size = n
  dfs : a.defers = []
  sl : ∀ x, RA W s.gen s.ob w (s.sl x) (a.tmps.getD x undef)
  ob : ∀ o, RO w0.heap.size W s.gen s.ob w o (s.ob o)
  ex : ∀ o o' b, cl W o (s.ob o) b → cl W o' (s.ob o') b → o = o'

theorem Sim.ev {w0 : World} {S0 : Nat → Nat} {n : Nat} {W : Wit} {s : St} {a : Act} {w : World} (h : Sim w0 S0 n W s a w) (t : Nat) : RA W s.gen s.ob w (s.sl t) (a.eval (.tmp t)) := by
  have := h.sl t
  simpa [Act.eval] using this

theorem getD_put {a : Act} {d : Nat} {v : Value} (hd : d < a.tmps.size) (x : Nat) : (a.put (some d) v).tmps.getD x undef = if x = d then v else a.tmps.getD x undef := by
  simp only [Act.put, Array.getD_eq_getD_getElem?]
  by_cases hx : x = d
  · subst hx; simp [hd]
  · rw [Array.getElem?_setIfInBounds_ne (Ne.symm hx), if_neg hx]

/-- a step: the world, the objects, and one slot -/
theorem Sim.step {w0 : World} {S0 : Nat → Nat} {n : Nat} {W : Wit} {s : St} {a : Act} {w : World} (h : Sim w0 S0 n W s a w) {W' : Wit} {w' : World} {dst : Option Nat} {v : Av} {ch : Cg} {rv : Value}
    (hd : ∀ d, dst = some d → d < n)
    (hf : Fol W s.gen s.ob w W' (s.ap dst v ch).gen (s.ap dst v ch).ob w') (hb : Below w0.heap.size w w') (hS : ∀ b, b < w0.heap.size → W'.S b = W.S b)
    (hv : RA W' (s.ap dst v ch).gen (s.ap dst v ch).ob w' v rv)
    (ho : ∀ o, RO w0.heap.size W' (s.ap dst v ch).gen (s.ap dst v ch).ob w' o ((s.ap dst v ch).ob o))
    (hx : ∀ o o' b, cl W' o ((s.ap dst v ch).ob o) b → cl W' o' ((s.ap dst v ch).ob o') b → o = o') : Sim w0 S0 n W' (s.ap dst v ch) (a.put dst rv) w' := by
  refine ⟨h.below.trans hb, fun b hb2 => (hS b hb2).trans (h.s0 b hb2), ?_, ?_, fun x => ?_, ho, hx⟩
  · cases dst <;> simp [Act.put, h.len]
  · cases dst <;> simp [Act.put, h.dfs]
  · cases dst with
    | none => exact RA.fol hf (h.sl x)
    | some d =>
      rw [getD_put (by rw [h.len]; exact hd d rfl)]
      show RA _ _ _ _ (up s.sl d v x) _
      rw [up_at]
      split
      · exact hv
      · exact RA.fol hf (h.sl x)

theorem Fol.same {W : Wit} {G : Nat → Nat} {O : Nat → Ob} {w w' : World} (hw : w'.heap = w.heap) : Fol W G O w W G O w' :=
  ⟨fun b i h1 _ => ⟨h1, by simp [World.cell?, hw]⟩, fun _ => Nat.le_refl _, fun _ _ => rfl, fun o E sz n _ ho => ⟨n, ho, Nat.le_refl _, fun _ => rfl⟩, fun _ _ => rfl⟩

/-- an operation that turns nothing -/
theorem Sim.put {w0 : World} {S0 : Nat → Nat} {n : Nat} {W : Wit} {s : St} {a : Act} {w : World} (h : Sim w0 S0 n W s a w) {dst : Option Nat} (hd : ∀ d, dst = some d → d < n) {v : Av} {rv : Value}
    (hv : RA W s.gen s.ob w v rv) : Sim w0 S0 n W (s.ap dst v .no) (a.put dst rv) w :=
  h.step hd (Fol.same rfl) (Below.refl _ _) (fun _ _ => rfl) hv h.ob h.ex
theorem Sim.drew {w0 : World} {S0 : Nat → Nat} {n : Nat} {W : Wit} {s : St} {a : Act} {w : World} (h : Sim w0 S0 n W s a w) (k : Nat) : Sim w0 S0 n W s a { w with drawn := k } :=
  ⟨⟨h.below.os, h.below.tape, h.below.output, h.below.size, h.below.block⟩, h.s0, h.len, h.dfs, fun x => RA.fol (Fol.same (w := w) (w' := { w with drawn := k }) rfl) (h.sl x), fun o => RO.fol (Fol.same (w := w) (w' := { w with drawn := k }) rfl) (h.ob o) rfl rfl rfl (fun _ _ => ⟨rfl, rfl⟩), h.ex⟩
end Go.Proofs.Ytkdagjlkejefnaa
end
section
set_option linter.unusedSimpArgs false
set_option linter.unusedVariables false
namespace Go.Proofs.Ytkdagjlkejefnaa
open Go Go.RowKit

def aggT : TypeDesc → Bool
  | .struct _ => true
  | .array _ _ => true
  | _ => false

def cX : Operand → Option PX
  | .tmp t => some (.t t)
  | .const (.agg a) => if a.toList.all Value.oneCell' = true then some (.v (.agg a)) else none
  | .const (.tuple _) => none
  | .const v => some (.v v)
  | _ => none

section
variable {w0 : World} {S0 : Nat → Nat} {n : Nat} {W : Wit} {s : St} {a : Act} {w : World}

theorem constAv_one {v : Value} (h : v.oneCell' = true) : constAv v = .b (.one (.d (.sc v))) := by
  cases v <;> first | rfl | (simp [Value.oneCell'] at h)

theorem evX (h : Sim w0 S0 n W s a w) {xo : Operand} {x : PX} (hx : cX xo = some x) : RA W s.gen s.ob w (s.ev x) (a.eval xo) := by
  cases xo with
  | tmp t => simp [cX] at hx; subst hx; exact h.ev t
  | global g => simp [cX] at hx
  | func f => simp [cX] at hx
  | const v =>
    by_cases h1 : v.oneCell' = true
    · have : x = .v v := by
        cases v <;> first | (simp [Value.oneCell'] at h1; done) | (simp [cX] at hx; exact hx.symm)
      subst this
      simp only [St.ev, constAv_one h1]
      exact RD.sc _ h1
    · cases v with
      | agg arr =>
        simp only [cX] at hx
        split at hx
        · rename_i ha
          cases hx
          refine ⟨arr, rfl, by simp, fun i c u h2 h3 => ?_⟩
          simp only [List.getElem?_map, Array.getElem?_toList] at h2 h3
          rw [h3] at h2
          simp at h2
          subst h2
          exact RD.sc _ (List.all_eq_true.1 ha u (by
            have := Array.mem_of_getElem? h3
            simpa using this))
        · cases hx
      | tuple _ => simp [cX] at hx
      | _ => exact absurd rfl h1

theorem RD.sc_inv {S : Nat → Nat} {v u : Value} (h : RD S w (.sc v) u) : u = v ∧ v.oneCell' = true := by
  cases h with
  | sc _ h => exact ⟨rfl, h⟩

theorem val_ev (h : Sim w0 S0 n W s a w) {xo : Operand} {x : PX} (hx : cX xo = some x) {v : Value} (hv : s.val x = some v) : a.eval xo = v ∧ v.oneCell' = true := by
  have := evX h hx
  unfold St.val at hv
  split at hv
  · rename_i u heq
    rw [heq] at this
    cases hv
    exact RD.sc_inv this
  · cases hv
theorem int_ev (h : Sim w0 S0 n W s a w) {xo : Operand} {x : PX} (hx : cX xo = some x) {m : Int} (hv : s.int x = some m) : ∃ k, a.eval xo = .int k m := by
  have := evX h hx
  unfold St.int at hv
  split at hv
  · rename_i k u heq
    rw [heq] at this
    cases hv
    exact ⟨k, (RD.sc_inv this).1⟩
  · cases hv
theorem boo_ev (h : Sim w0 S0 n W s a w) {xo : Operand} {x : PX} (hx : cX xo = some x) {m : Bool} (hv : s.boo x = some m) : a.eval xo = .bool m := by
  have := evX h hx
  unfold St.boo at hv
  split at hv
  · rename_i u heq
    rw [heq] at this
    cases hv
    exact (RD.sc_inv this).1
  · cases hv
theorem cl_ev (h : Sim w0 S0 n W s a w) {xo : Operand} {x : PX} (hx : cX xo = some x) {c : Cl} (hc : s.cl x = c) (hu : c ≠ .un) : RC W s.gen s.ob w c (a.eval xo) := by
  have := evX h hx
  unfold St.cl at hc
  split at hc
  · rename_i u heq
    rw [heq] at this
    subst hc
    exact this
  · exact absurd hc.symm hu
theorem cells_one {v : Value} (h : v.oneCell' = true) : v.cells = #[v] := by
  cases v <;> first | rfl | (simp [Value.oneCell'] at h)
theorem cs_ev (h : Sim w0 S0 n W s a w) {xo : Operand} {x : PX} (hx : cX xo = some x) {cs : List Cl} (hc : s.cs x = some cs) : RCs W s.gen s.ob w cs (a.eval xo).cells.toList := by
  have := evX h hx
  unfold St.cs at hc
  split at hc
  · rename_i u heq
    rw [heq] at this
    cases hc
    have h1 : RC W s.gen s.ob w u (a.eval xo) := this
    rw [cells_one h1.one]
    refine ⟨rfl, fun i c v h2 h3 => ?_⟩
    cases i with
    | zero => simp at h2 h3; subst h2; subst h3; exact h1
    | succ i => simp at h2
  · rename_i u heq
    rw [heq] at this
    cases hc
    obtain ⟨arr, h1, h2⟩ := this
    rw [h1]
    exact h2
  · cases hc
theorem RCs.one {G : Nat → Nat} {O : Nat → Ob} {cs : List Cl} {vs : List Value} (h : RCs W G O w cs vs) : ∀ v ∈ vs, v.oneCell' = true := by
  intro v hv
  obtain ⟨i, hi, rfl⟩ := List.getElem_of_mem hv
  exact (h.2 i _ _ (List.getElem?_eq_getElem (by rw [h.1]; exact hi)) (List.getElem?_eq_getElem hi)).one

/-- o does what its reading po says -/
def Good (P : Program) (n : Nat) (o : Oper) (po : PO) : Prop :=
  ∀ (w0 : World) (S0 : Nat → Nat) (W : Wit) (s : St) (a : Act) (w : World) (v : Av) (ch : Cg), Sim w0 S0 n W s a w → po.fn s (o.dst.getD 0) = some (v, ch) →
    ∃ W' rv w', ((execOp a.eval o).run P w = .ok (.value rv) w' ∨ ((execOp a.eval o).run P w = .ok .skip w' ∧ rv = undef)) ∧ Sim w0 S0 n W' (s.ap o.dst v ch) (a.put o.dst rv) w'

/-- .. an operation that turns nothing -/
theorem Good.of_pure {P : Program} {o : Oper} {po : PO} (hd : ∀ d, o.dst = some d → d < n)
    (h : ∀ (w0 : World) (S0 : Nat → Nat) (W : Wit) (s : St) (a : Act) (w : World) (v : Av) (ch : Cg), Sim w0 S0 n W s a w → po.fn s (o.dst.getD 0) = some (v, ch) →
      ch = .no ∧ ∃ rv, (execOp a.eval o).run P w = .ok (.value rv) w ∧ RA W s.gen s.ob w v rv) : Good P n o po := by
  intro w0 S0 W s a w v ch hs hf
  obtain ⟨rfl, rv, h1, h2⟩ := h w0 S0 W s a w v ch hs hf
  exact ⟨W, rv, w, .inl h1, hs.put hd h2⟩

variable {P : Program} {o : Oper} (hd : ∀ d, o.dst = some d → d < n)
include hd

theorem good_mv {xo : Operand} {x : PX} (hop : o.op = .move xo ∨ o.op = .assign xo) (hx : cX xo = some x) : Good P n o (.mv x) :=
  .of_pure hd fun w0 S0 W s a w v ch hs hf => by
    simp only [PO.fn, Option.some.injEq, Prod.mk.injEq] at hf
    obtain ⟨rfl, rfl⟩ := hf
    refine ⟨rfl, a.eval xo, ?_, evX hs hx⟩
    rcases hop with h | h <;> simp [execOp, h]

theorem good_pick {co ao bo : Operand} {c x y : PX} (hop : o.op = .pick co ao bo) (hc : cX co = some c) (hx : cX ao = some x) (hy : cX bo = some y) : Good P n o (.pick c x y) :=
  .of_pure hd fun w0 S0 W s a w v ch hs hf => by
    simp only [PO.fn, Option.map_eq_some_iff, Prod.mk.injEq] at hf
    obtain ⟨t, ht, rfl, rfl⟩ := hf
    have h1 := boo_ev hs hc ht
    refine ⟨rfl, if t then a.eval ao else a.eval bo, ?_, ?_⟩
    · simp [execOp, hop, h1, asBool]
    · cases t
      · exact evX hs hy
      · exact evX hs hx



omit hd in
theorem addr_add {b off k : Nat} : (⟨b, off, none⟩ : Addr).add k = ⟨b, off + k, none⟩ := by
  unfold Addr.add; split
  · rename_i h; subst h; rfl
  · rfl

omit hd in
theorem run_isAgg {t : TypeId} {d : TypeDesc} (hu : P.underlying t = some d) (w : World) : (isAgg t).run P w = .ok (aggT d) w := by
  simp only [isAgg, Sem.run_bind, run_underlying hu, Result.andThen_ok]
  cases d <;> rfl

omit hd in
theorem mkAv_cells {k : Option Nat} {cs : List Cl} {vs : List Value} {off : Nat} {v : Av} (hr : RCs W s.gen s.ob w cs vs) (hv : mkAv k cs off = some v) :
    (k = none ∧ ∃ c u, cs[off]? = some c ∧ vs[off]? = some u ∧ v = .b (.one c) ∧ RC W s.gen s.ob w c u) ∨
    (∃ m, k = some m ∧ off + m ≤ vs.length ∧ v = .b (.agg ((cs.drop off).take m)) ∧ RCs W s.gen s.ob w ((cs.drop off).take m) ((vs.drop off).take m)) := by
  cases k with
  | none =>
    simp only [mkAv, Option.map_eq_some_iff] at hv
    obtain ⟨c, hc, rfl⟩ := hv
    have hlt := (List.getElem?_eq_some_iff.1 hc).1
    rw [hr.1] at hlt
    exact .inl ⟨rfl, c, vs[off], hc, List.getElem?_eq_getElem hlt, rfl, hr.2 off c _ hc (List.getElem?_eq_getElem hlt)⟩
  | some m =>
    simp only [mkAv] at hv
    split at hv
    · rename_i hle
      cases hv
      refine .inr ⟨m, rfl, by rw [← hr.1]; exact hle, rfl, by simp [hr.1], fun i c u h1 h2 => ?_⟩
      rw [List.getElem?_take] at h1 h2
      split at h1
      · rename_i hlt
        rw [if_pos hlt, List.getElem?_drop] at h2
        rw [List.getElem?_drop] at h1
        exact hr.2 _ _ _ h1 h2
      · cases h1
    · cases hv

omit hd in
theorem run_part {t : TypeId} {d : TypeDesc} {i : TypeInfo} (hu : P.underlying t = some d) (hi : P.info? t = some i) {k : Option Nat} (hk : k = if aggT d = true then some i.size else none)
    {cs : List Cl} {arr : Array Value} {off : Nat} {v : Av} (hr : RCs W s.gen s.ob w cs arr.toList) (hv : mkAv k cs off = some v) :
    ∃ rv, (part t arr off).run P w = .ok rv w ∧ RA W s.gen s.ob w v rv := by
  have hag := run_isAgg (P := P) hu w
  rcases mkAv_cells hr hv with ⟨rfl, c, u, h1, h2, rfl, h3⟩ | ⟨m, rfl, h1, rfl, h2⟩
  · have : aggT d = false := by cases h : aggT d <;> simp [h] at hk ⊢
    rw [this] at hag
    have h4 : arr[off]? = some u := by simpa using h2
    exact ⟨u, by simp [part, hag, h4], h3⟩
  · have : aggT d = true := by cases h : aggT d <;> simp [h] at hk ⊢
    rw [this] at hag hk
    simp at hk
    subst hk
    refine ⟨.agg (arr.extract off (off + i.size)), by simp [part, hag, sizeOf, typeInfo, hi], _, rfl, ?_⟩
    have : (arr.extract off (off + i.size)).toList = (arr.toList.drop off).take i.size := by
      simp [Array.toList_extract, List.extract_eq_take_drop]
    rw [this]
    exact h2

theorem good_fld {t : TypeId} {fs : Array Field} {i off : Nat} {f : Field} {fi : TypeInfo} {xo : Operand} {x : PX} (hop : o.op = .fieldAddr t xo i) (hu : P.underlying t = some (.struct fs)) (hfi : fs[i]? = some f) (hoff : f.offset = off)
    (hi : P.info? f.type = some fi) (hz : fi.size ≠ 0) (hx : cX xo = some x) : Good P n o (.fld off x) :=
  .of_pure hd fun w0 S0 W s a w v ch hs hf => by
    have key : ∀ b k, a.eval xo = .pointer (some ⟨b, k, none⟩) → (execOp a.eval o).run P w = .ok (.value (.pointer (some ⟨b, k + off, none⟩))) w := fun b k he => by
      simp [execOp, hop, Instr.fieldAt, run_underlying hu, hfi, he, Instr.sureAddr, fieldPlace, sizeOf, typeInfo, hi, hz, hoff, addr_add]
    simp only [PO.fn] at hf
    split at hf
    · rename_i o' g k heq
      split at hf
      · rename_i hg
        cases hf
        obtain ⟨h1, h2, h3⟩ := cl_ev hs hx heq (by simp)
        exact ⟨rfl, _, key _ _ (h3 hg.symm), rfl, h2, fun _ => rfl⟩
      · cases hf
    · rename_i row k heq
      cases hf
      obtain ⟨b, k', h1, h2⟩ := cl_ev hs hx heq (by simp)
      exact ⟨rfl, _, key _ _ h1, b, k', by rw [Nat.add_assoc], h2⟩
    · cases hf

theorem good_fldv {t : TypeId} {fs : Array Field} {i off : Nat} {f : Field} {fd : TypeDesc} {fi : TypeInfo} {xo : Operand} {x : PX} {k : Option Nat} (hop : o.op = .field t xo i) (hu : P.underlying t = some (.struct fs)) (hfi : fs[i]? = some f) (hoff : f.offset = off)
    (hfu : P.underlying f.type = some fd) (hi : P.info? f.type = some fi) (hk : k = if aggT fd = true then some fi.size else none) (hx : cX xo = some x) : Good P n o (.fldv off k x) :=
  .of_pure hd fun w0 S0 W s a w v ch hs hf => by
    simp only [PO.fn] at hf
    split at hf
    · rename_i cs heq
      simp only [Option.map_eq_some_iff, Prod.mk.injEq] at hf
      obtain ⟨v', hv, rfl, rfl⟩ := hf
      have := evX hs hx
      rw [heq] at this
      obtain ⟨arr, h1, h2⟩ := this
      obtain ⟨rv, h3, h4⟩ := run_part hfu hi hk h2 hv
      refine ⟨rfl, rv, ?_, h4⟩
      simp [execOp, hop, Instr.field, run_underlying hu, hfi, h1, asAgg, hoff, h3]
    · cases hf

theorem good_ixa {t e ln : Nat} {ei : TypeInfo} {xo io : Operand} {x i : PX} (hop : o.op = .indexAddr t xo io) (hu : P.underlying t = some (.array ln e)) (hi : P.info? e = some ei) (hx : cX xo = some x) (hix : cX io = some i) : Good P n o (.ixa ln ei.size x i) :=
  .of_pure hd fun w0 S0 W s a w v ch hs hf => by
    have key : ∀ b off kk k, a.eval xo = .pointer (some ⟨b, off, none⟩) → a.eval io = .int kk k → 0 ≤ k → k < (ln : Int) → (execOp a.eval o).run P w = .ok (.value (.pointer (some ⟨b, off + k.toNat * ei.size, none⟩))) w := fun b off kk k he hk h0 h1 => by
      simp [execOp, hop, Instr.indexAt, run_underlying hu, he, hk, asIntOf, Instr.sureAddr, h0, h1, sizeOf, typeInfo, hi, addr_add]
    simp only [PO.fn] at hf
    split at hf
    · rename_i o' g off k heq hk
      split at hf
      · rename_i hg
        cases hf
        obtain ⟨h1, h2, h3⟩ := cl_ev hs hx heq (by simp)
        obtain ⟨kk, hk⟩ := int_ev hs hix hk
        exact ⟨rfl, _, key _ _ _ _ (h3 hg.1.symm) hk hg.2.1 hg.2.2, rfl, h2, fun _ => rfl⟩
      · cases hf
    · rename_i row off k heq hk
      split at hf
      · rename_i hg
        cases hf
        obtain ⟨b, k', h1, h2⟩ := cl_ev hs hx heq (by simp)
        obtain ⟨kk, hk⟩ := int_ev hs hix hk
        exact ⟨rfl, _, key _ _ _ _ h1 hk hg.1 hg.2, b, k', by rw [Nat.add_assoc], h2⟩
      · cases hf
    · cases hf

omit hd in
theorem RD.len {S : Nat → Nat} {rows : List (List Dt)} {v : Value} (h : RD S w (.im rows) v) : ∃ A c, v = .slice A rows.length c ∧ rows.length ≤ c ∧ c ≤ maxLen := by
  cases h with
  | emp A c h => exact ⟨A, c, rfl, by simp, h⟩
  | im _ sz b o cap f hc hm => exact ⟨_, cap, rfl, hc, hm⟩
omit hd in
theorem RD.row {S : Nat → Nat} {rows : List (List Dt)} {v : Value} (h : RD S w (.im rows) v) {i : Nat} {r : List Dt} (hr : rows[i]? = some r) :
    ∃ b o c, v = .slice (some ⟨b, o, none⟩) rows.length c ∧ ∀ j x, r[j]? = some x → ∃ u, w.cell? ⟨b, o + (i * r.length + j), none⟩ = some u ∧ o + (i * r.length + j) < S b ∧ RD S w x u := by
  cases h with
  | emp A c h => simp at hr
  | im _ sz b o cap f hc hm hsz hcell hd =>
    refine ⟨b, o, cap, rfl, fun j x hj => ?_⟩
    have hil := (List.getElem?_eq_some_iff.1 hr).1
    have hjl := (List.getElem?_eq_some_iff.1 hj).1
    have hrl : r.length = sz := hsz r (List.mem_of_getElem? hr)
    rw [hrl] at hjl ⊢
    obtain ⟨h1, h2⟩ := hcell i j hil hjl
    exact ⟨_, h1, h2, hd i r j x hr hj⟩
omit hd in
theorem rows_ev (h : Sim w0 S0 n W s a w) {xo : Operand} {x : PX} (hx : cX xo = some x) {rows : List (List Dt)} (hr : (s.cl x).rows = some rows) : RD W.S w (.im rows) (a.eval xo) := by
  unfold Cl.rows at hr
  split at hr
  · rename_i r heq
    cases hr
    exact cl_ev h hx heq (by simp)
  · rename_i heq
    cases hr
    have h1 : RD W.S w (.sc (.slice none 0 0)) (a.eval xo) := cl_ev h hx heq (by simp)
    obtain ⟨h2, _⟩ := RD.sc_inv h1
    rw [h2]
    exact .emp none 0 (by unfold maxLen; omega)
  · rename_i o g r heq
    cases hr
    exact (cl_ev h hx heq (by simp)).1
  · rename_i r heq
    cases hr
    exact (cl_ev h hx heq (by simp)).1
  · cases hr

theorem good_ixs {t e : Nat} {ei : TypeInfo} {xo io : Operand} {x i : PX} (hop : o.op = .indexAddr t xo io) (hu : P.underlying t = some (.slice e)) (hi : P.info? e = some ei) (hx : cX xo = some x) (hix : cX io = some i) : Good P n o (.ixs ei.size x i) :=
  .of_pure hd fun w0 S0 W s a w v ch hs hf => by
    simp only [PO.fn] at hf
    split at hf
    · rename_i k hk
      split at hf
      · rename_i o' g off ln cap sz2 heq
        split at hf
        · rename_i hcond
          obtain ⟨hg, h0, hlt⟩ := hcond
          cases hf
          obtain ⟨kk, hk⟩ := int_ev hs hix hk
          obtain ⟨b, h1, h2, h3, h4, h5⟩ := cl_ev hs hx heq (by simp)
          have hb := h5 hg.symm
          subst hb
          refine ⟨rfl, .pointer (some ⟨W.blk o', off + k.toNat * ei.size, none⟩), ?_, rfl, by omega, fun _ => rfl⟩
          simp [execOp, hop, Instr.indexAt, run_underlying hu, h1, hk, asIntOf, h0, hlt, sizeOf, typeInfo, hi, addr_add]
        · cases hf
      · rename_i c hnsv
        split at hf
        · rename_i rows hr
          split at hf
          · rename_i h0
            split at hf
            · rename_i row hrow
              split at hf
              · rename_i hsz
                cases hf
                obtain ⟨kk, hk⟩ := int_ev hs hix hk
                obtain ⟨b, o', c', h1, h2⟩ := (rows_ev hs hx hr).row hrow
                have hlt : k < (rows.length : Int) := by have := (List.getElem?_eq_some_iff.1 hrow).1; omega
                refine ⟨rfl, .pointer (some ⟨b, o' + k.toNat * ei.size, none⟩), ?_, b, o' + k.toNat * ei.size, rfl, fun j y hj => ?_⟩
                · simp [execOp, hop, Instr.indexAt, run_underlying hu, h1, hk, asIntOf, h0, hlt, sizeOf, typeInfo, hi, addr_add]
                · obtain ⟨u, h3, h4, h5⟩ := h2 j y hj
                  rw [hsz] at h3 h4
                  exact ⟨u, by rw [Nat.add_assoc]; exact h3, by rw [Nat.add_assoc]; exact h4, h5⟩
              · cases hf
            · cases hf
          · cases hf
        · cases hf
    · cases hf

theorem good_ixv {t e ln : Nat} {ei : TypeInfo} {ed : TypeDesc} {xo io : Operand} {x i : PX} {k : Option Nat} (hop : o.op = .index t xo io) (hu : P.underlying t = some (.array ln e)) (heu : P.underlying e = some ed) (hi : P.info? e = some ei)
    (hk : k = if aggT ed = true then some ei.size else none) (hx : cX xo = some x) (hix : cX io = some i) : Good P n o (.ixv ln ei.size k x i) :=
  .of_pure hd fun w0 S0 W s a w v ch hs hf => by
    simp only [PO.fn] at hf
    split at hf
    · rename_i cs m heq hm
      split at hf
      · rename_i h0
        simp only [Option.map_eq_some_iff, Prod.mk.injEq] at hf
        obtain ⟨v', hv, rfl, rfl⟩ := hf
        have := evX hs hx
        rw [heq] at this
        obtain ⟨arr, h1, h2⟩ := this
        obtain ⟨kk, hm⟩ := int_ev hs hix hm
        obtain ⟨rv, h3, h4⟩ := run_part heu hi hk h2 hv
        refine ⟨rfl, rv, ?_, h4⟩
        simp [execOp, hop, Instr.index, run_underlying hu, h1, hm, asIntOf, h0.1, h0.2, sizeOf, typeInfo, hi, h3]
      · cases hf
    · cases hf

theorem good_ixstr {t : Nat} {xo io : Operand} {x i : PX} (hop : o.op = .index t xo io) (hu : P.underlying t = some .string) (hx : cX xo = some x) (hix : cX io = some i) : Good P n o (.ixstr x i) :=
  .of_pure hd fun w0 S0 W s a w v ch hs hf => by
    simp only [PO.fn] at hf
    split at hf
    · rename_i b m heq hm
      split at hf
      · rename_i h0
        simp only [Option.map_eq_some_iff, Prod.mk.injEq] at hf
        obtain ⟨c, hc, rfl, rfl⟩ := hf
        obtain ⟨h1, _⟩ := val_ev hs hx heq
        obtain ⟨kk, hm⟩ := int_ev hs hix hm
        refine ⟨rfl, .int .u8 c.toNat, ?_, RD.sc _ rfl⟩
        simp [execOp, hop, Instr.index, run_underlying hu, h1, hm, asIntOf, h0, hc]
      · cases hf
    · cases hf
end
end Go.Proofs.Ytkdagjlkejefnaa
end
