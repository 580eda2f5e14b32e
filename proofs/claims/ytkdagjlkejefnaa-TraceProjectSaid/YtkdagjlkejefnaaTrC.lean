/- The walk of (*trace.State).proceed. -/
import Derived.Test.YtkdagjlkejefnaaTrA
namespace Go.Proofs.Ytkdagjlkejefnaa
open Go.RowKit

/-- What the walks of proceed know of the world behind the first box. -/
structure PW (W : World) (sb bc eb b o c : Nat) (g kind obj off k en fn pc stack : Int) (k0 : Int) (ln : Nat) (gobj gk gn snd rcv : Int) : Prop where
  c2 : W.cell? ⟨sb, 2, none⟩ = some (.map (some bc))
  c5 : W.cell? ⟨sb, 5, none⟩ = some (.slice (some ⟨b, o, none⟩) ln c)
  c6 : W.cell? ⟨sb, 6, none⟩ = some (.int .i64 gobj)
  c7 : W.cell? ⟨sb, 7, none⟩ = some (.int .i64 gk)
  c8 : W.cell? ⟨sb, 8, none⟩ = some (.int .i64 gn)
  c9 : W.cell? ⟨sb, 9, none⟩ = some (.int .i64 snd)
  c10 : W.cell? ⟨sb, 10, none⟩ = some (.int .i64 rcv)
  f5 : W.frozen? ⟨sb, 5, none⟩ = false
  f9 : W.frozen? ⟨sb, 9, none⟩ = false
  f10 : W.frozen? ⟨sb, 10, none⟩ = false
  ck : W.cell? ⟨b, o, none⟩ = some (.int .i64 k0)
  e0 : W.cell? ⟨eb, 0, none⟩ = some (.int .i64 g)
  e1 : W.cell? ⟨eb, 1, none⟩ = some (.int .i64 kind)
  e2 : W.cell? ⟨eb, 2, none⟩ = some (.int .i64 obj)
  e3 : W.cell? ⟨eb, 3, none⟩ = some (.int .i64 off)
  e4 : W.cell? ⟨eb, 4, none⟩ = some (.int .i64 k)
  e5 : W.cell? ⟨eb, 5, none⟩ = some (.int .i64 en)
  e6 : W.cell? ⟨eb, 6, none⟩ = some (.int .i64 fn)
  e7 : W.cell? ⟨eb, 7, none⟩ = some (.int .i64 pc)
  e8 : W.cell? ⟨eb, 8, none⟩ = some (.int .i64 stack)

theorem PW.make {sb bc bm bd N : Nat} {s : TS} {kv : Value} {w : World} (h : TRep w sb bc bm bd N s kv) (g kind obj off k en fn pc stack : Int) (k0 : Int) (ks : List Int) (hk : s.grp.kinds = k0 :: ks) :
    ∃ b o c, kv = .slice (some ⟨b, o, none⟩) (ks.length + 1) c ∧ ks.length + 1 ≤ c ∧ b ≠ sb ∧ b < w.heap.size ∧ (∀ i x, s.grp.kinds[i]? = some x → w.cell? ⟨b, o + i, none⟩ = some (.int .i64 x)) ∧
      PW (w.alloc (.cells #[.int .i64 g, .int .i64 kind, .int .i64 obj, .int .i64 off, .int .i64 k, .int .i64 en, .int .i64 fn, .int .i64 pc, .int .i64 stack] 31)) sb bc w.heap.size b o c g kind obj off k en fn pc stack k0 (ks.length + 1) s.grp.obj s.grp.k s.grp.n s.grp.snd s.grp.rcv := by
  obtain ⟨A, c, hkv, hlc, hh⟩ := h.kinds
  obtain ⟨b, o, rfl, hb, hc⟩ := hh (by rw [hk]; simp)
  have hlen : s.grp.kinds.length = ks.length + 1 := by rw [hk]; rfl
  rw [hlen] at hkv hlc
  have hck := hc 0 k0 (by rw [hk]; rfl)
  rw [Nat.add_zero] at hck
  have hblt := block_lt_of_cell hck
  dsimp only at hblt
  have hslt := h.lt
  have old : ∀ (q j : Nat) (v : Value) (O : Obj), q < w.heap.size → w.cell? ⟨q, j, none⟩ = some v → (w.alloc O).cell? ⟨q, j, none⟩ = some v := fun q j v O hq hv => by
    rw [World.cell?_alloc_lt w O ⟨q, j, none⟩ hq]; exact hv
  have oldf : ∀ (j : Nat) (O : Obj), (w.alloc O).frozen? ⟨sb, j, none⟩ = false := fun j O => by
    rw [((Below.refl w.heap.size w).alloc (Nat.le_refl _) O).frozen (p := ⟨sb, j, none⟩) hslt]; exact h.frozen j
  refine ⟨b, o, c, hkv, hlc, hb, hblt, hc, ?_⟩
  have nw : ∀ (j : Nat) (cs : Array Value), (w.alloc (.cells cs 31)).cell? ⟨w.heap.size, j, none⟩ = cs[j]? := fun j cs => cell_of_row _ _ _ _ _ _ (heap_alloc_new w _)
  exact ⟨old _ _ _ _ hslt (h.cell 2), old _ _ _ _ hslt (by rw [h.cell 5, ← hkv]; rfl), old _ _ _ _ hslt (h.cell 6), old _ _ _ _ hslt (h.cell 7), old _ _ _ _ hslt (h.cell 8), old _ _ _ _ hslt (h.cell 9), old _ _ _ _ hslt (h.cell 10),
    oldf _ _, oldf _ _, oldf _ _, old _ _ _ _ hblt hck, nw _ _, nw _ _, nw _ _, nw _ _, nw _ _, nw _ _, nw _ _, nw _ _, nw _ _⟩

theorem proceed_fin {sb bc bm bd N : Nat} {s : TS} {kv : Value} {w W2 : World} (h : TRep w sb bc bm bd N s kv) (hN : N + 2 < maxLen) (e : Ev) (hio : I64 e.obj)
    (hcb : ∀ c, (s.chans e.obj).getD ch0 = c → (0 ≤ c.sent ∧ c.sent ≤ 5000) ∧ (0 ≤ c.recv ∧ c.recv ≤ 5000)) {kv2 : Value} {g' : Grp}
    (hrow2 : W2.heap[sb]? = some (.cells (TCells { s with grp := g' } bc bm bd kv2) 66 (0, 0))) (hb2 : But [sb] w W2) (hk2 : KindsAt W2 kv2 g'.kinds sb) :
    Calls Try.prog 67 #[.pointer (some ⟨sb, 0, none⟩), e.val] W2 fun r w3 => r = .returned (.tuple #[]) ∧ ((∃ kv', TRep w3 sb bc bm bd (N + 2) { s.count e with grp := g' } kv') ∧ But [sb, bc] w w3) := by
  have hne := h.chans.ne_cells h.row
  have hlt := h.lt
  have hsz := hb2.size
  refine (count_any sb bc N s.chans e W2 (cell_of_row W2 sb 2 _ _ _ hrow2) (h.chans.but hb2 (by simpa using hne)) (by omega) hio hcb).mono ?_
  rintro r w3 ⟨rfl, hm5, hb4⟩
  have hbt : But [sb, bc] w w3 := (hb2.mono (by simp)).trans (hb4.mono (by simp))
  refine ⟨rfl, ⟨kv2, ⟨(hb4.block sb (by omega) (by simpa using Ne.symm hne)).trans hrow2, hk2.keep hb4 (fun b cs t fr hc _ hm => ?_), hm5.mono (by omega), (h.mus.but hbt ?_).mono (by omega), (h.done.but hbt ?_).mono (by omega), h.ncm, h.ncd, h.nmd⟩⟩, hbt⟩
  · simp only [List.mem_singleton] at hm; subst hm
    exact absurd rfl ((h.chans.but hb2 (by simpa using hne)).ne_cells hc)
  · simp only [List.mem_cons, List.not_mem_nil, or_false, not_or]; exact ⟨h.mus.ne_cells h.row, Ne.symm h.ncm⟩
  · simp only [List.mem_cons, List.not_mem_nil, or_false, not_or]; exact ⟨h.done.ne_cells h.row, Ne.symm h.ncd⟩

theorem below_drewN {B : Nat} {a w : World} (h : Below B a w) (n : Nat) : Below B a (w.drewN n) := ⟨h.os, h.tape, h.output, h.size, h.block⟩

set_option maxRecDepth 100000 in
set_option maxHeartbeats 4000000 in
theorem proceed_mis {sb bc bm bd N : Nat} {s : TS} {kv : Value} (w : World) (h : TRep w sb bc bm bd N s kv) (e : Ev) (k0 : Int) (ks : List Int) (hk : s.grp.kinds = k0 :: ks)
    (hm : (e.kind != k0) = true ∨ ((e.kind != k0) = false ∧ (e.obj != s.grp.obj) = true) ∨ ((e.kind != k0) = false ∧ (e.obj != s.grp.obj) = false ∧ (e.k != s.grp.k) = true) ∨ ((e.kind != k0) = false ∧ (e.obj != s.grp.obj) = false ∧ (e.k != s.grp.k) = false ∧ (e.n != s.grp.n) = true)) :
    Calls Try.prog 43 #[.pointer (some ⟨sb, 0, none⟩), e.val] w fun r w' => r = .returned (.bool false) ∧ Below w.heap.size w w' := by
  obtain ⟨g, kind, obj, off, k, en, fn, pc, stack⟩ := e
  obtain ⟨b, o, c, hkv, hlc, hbsb, hblt, hcs, hp⟩ := PW.make h g kind obj off k en fn pc stack k0 ks hk
  have hsb := h.lt
  have HH := Lib.hid h; clear h
  have HK := Lib.hid hk; clear hk
  have HKV := Lib.hid hkv; clear hkv
  have HCS := Lib.hid hcs; clear hcs
  dsimp only at *
  unfold Ev.val
  go_enter Try.func43, Try.ntmps43
  go_upto_region 1 with fail
  generalize hW : World.alloc w _ = W at *
  have hB : Below w.heap.size w W := by rw [← hW]; exact (Below.refl _ _).alloc (Nat.le_refl _) _
  have hz : w.heap.size < W.heap.size := by rw [← hW]; simp
  clear hW
  have HB := Lib.hid hB; clear hB
  obtain ⟨c2, c5, c6, c7, c8, c9, c10, f5, f9, f10, ck, e0, e1, e2, e3, e4, e5, e6, e7, e8⟩ := hp
  rcases hm with h1 | ⟨h1, h2⟩ | ⟨h1, h2, h3⟩ | ⟨h1, h2, h3, h4⟩
  all_goals
    go_wp2
    go_quiet (fail)
    go_wp2
    go_ret
    exact ⟨rfl, by repeat (first | exact HB.out | refine below_drewN ?_ _)⟩

set_option maxRecDepth 100000 in
set_option maxHeartbeats 4000000 in
theorem proceed_noS {sb bc bm bd N : Nat} {s : TS} {kv : Value} (w : World) (h : TRep w sb bc bm bd N s kv) (e : Ev) (k0 : Int) (ks : List Int) (hk : s.grp.kinds = k0 :: ks)
    (h1 : (e.kind != k0) = false) (h2 : (e.obj != s.grp.obj) = false) (h3 : (e.k != s.grp.k) = false) (h4 : (e.n != s.grp.n) = false) (hs : sendsB e.kind = true) (hm : (decide (s.grp.snd < 0) = true ∧ (e.g == s.grp.rcv) = true) ∨ (decide (s.grp.snd < 0) = false ∧ decide (0 ≤ s.grp.snd) = true ∧ (e.g != s.grp.snd) = true)) :
    Calls Try.prog 43 #[.pointer (some ⟨sb, 0, none⟩), e.val] w fun r w' => r = .returned (.bool false) ∧ Below w.heap.size w w' := by
  obtain ⟨g, kind, obj, off, k, en, fn, pc, stack⟩ := e
  obtain ⟨b, o, c, hkv, hlc, hbsb, hblt, hcs, hp⟩ := PW.make h g kind obj off k en fn pc stack k0 ks hk
  have hsb := h.lt
  have HH := Lib.hid h; clear h
  have HK := Lib.hid hk; clear hk
  have HKV := Lib.hid hkv; clear hkv
  have HCS := Lib.hid hcs; clear hcs
  dsimp only at *
  unfold Ev.val
  go_enter Try.func43, Try.ntmps43
  go_upto_region 1 with fail
  generalize hW : World.alloc w _ = W at *
  have hB : Below w.heap.size w W := by rw [← hW]; exact (Below.refl _ _).alloc (Nat.le_refl _) _
  have hz : w.heap.size < W.heap.size := by rw [← hW]; simp
  clear hW
  have HB := Lib.hid hB; clear hB
  obtain ⟨c2, c5, c6, c7, c8, c9, c10, f5, f9, f10, ck, e0, e1, e2, e3, e4, e5, e6, e7, e8⟩ := hp
  rcases hm with ⟨h5, h6⟩ | ⟨h5, h6, h7⟩
  all_goals
    go_wp2
    go_quiet (fail)
    go_wp2
    go_quiet (fail)
    go_wp2_with (go_at_call 66; refine (sends_any _ _).mono ?_; rintro e w' ⟨rfl, rfl⟩)
    go_quiet (fail)
    go_wp2
    go_quiet (fail)
    go_wp2
    go_ret
    exact ⟨rfl, by repeat (first | exact HB.out | refine below_drewN ?_ _)⟩

set_option maxRecDepth 100000 in
set_option maxHeartbeats 4000000 in
theorem proceed_yesS {sb bc bm bd N : Nat} {s : TS} {kv : Value} (w : World) (h : TRep w sb bc bm bd N s kv) (hN : N + 2 < maxLen) (e : Ev) (hio : I64 e.obj) (k0 : Int) (ks : List Int) (hk : s.grp.kinds = k0 :: ks)
    (hcb : ∀ c, (s.chans e.obj).getD ch0 = c → (0 ≤ c.sent ∧ c.sent ≤ 5000) ∧ (0 ≤ c.recv ∧ c.recv ≤ 5000))
    (h1 : (e.kind != k0) = false) (h2 : (e.obj != s.grp.obj) = false) (h3 : (e.k != s.grp.k) = false) (h4 : (e.n != s.grp.n) = false) (hs : sendsB e.kind = true) (hm : (decide (s.grp.snd < 0) = true ∧ (e.g == s.grp.rcv) = false ∧ decide (0 ≤ s.grp.snd) = false) ∨ (decide (s.grp.snd < 0) = false ∧ decide (0 ≤ s.grp.snd) = true ∧ (e.g != s.grp.snd) = false)) :
    Calls Try.prog 43 #[.pointer (some ⟨sb, 0, none⟩), e.val] w fun r w' => r = .returned (.bool true) ∧ (∃ kv', TRep w' sb bc bm bd (N + 2) { s.count e with grp := s.grp.next e } kv') ∧ But [sb, bc] w w' := by
  obtain ⟨g, kind, obj, off, k, en, fn, pc, stack⟩ := e
  obtain ⟨b, o, c, hkv, hlc, hbsb, hblt, hcs, hp⟩ := PW.make h g kind obj off k en fn pc stack k0 ks hk
  have hsb := h.lt
  have HH := Lib.hid h; clear h
  have HK := Lib.hid hk; clear hk
  have HKV := Lib.hid hkv; clear hkv
  have HCS := Lib.hid hcs; clear hcs
  dsimp only at *
  unfold Ev.val
  go_enter Try.func43, Try.ntmps43
  go_upto_region 1 with fail
  generalize hW : World.alloc w _ = W at *
  have hB : Below w.heap.size w W := by rw [← hW]; exact (Below.refl _ _).alloc (Nat.le_refl _) _
  have hz : w.heap.size < W.heap.size := by rw [← hW]; simp
  clear hW
  have HB := Lib.hid hB; clear hB
  obtain ⟨c2, c5, c6, c7, c8, c9, c10, f5, f9, f10, ck, e0, e1, e2, e3, e4, e5, e6, e7, e8⟩ := hp
  have HCB := Lib.hid hcb; clear hcb
  rcases hm with ⟨h5, h6, h7⟩ | ⟨h5, h6, h7⟩
  all_goals
    go_wp2
    go_quiet (fail)
    go_wp2
    go_quiet (fail)
    go_wp2_with (go_at_call 66; refine (sends_any _ _).mono ?_; rintro e w' ⟨rfl, rfl⟩)
    go_quiet (fail)
    go_wp2
    go_quiet (fail)
    go_upto_region 10 with fail
    generalize hV : World.setCell _ _ _ = V
    have hrow : V.heap[sb]? = some (.cells ((TCells s bc bm bd kv).setIfInBounds 9 (.int .i64 g)) 66 (0, 0)) := by
      rw [← hV]; exact heap_setCell_same _ _ _ _ _ _ ((HB.out.block sb hsb).trans HH.out.row)
    have hbV : But [sb] W V := by rw [← hV]; exact ((But.refl _ _).drewN _).setCell (.inl (by simp)) _
    clear hV c2 c5 c6 c7 c8 c9 c10 f5 f9 f10 ck
    have ke : ∀ j v, W.cell? ⟨w.heap.size, j, none⟩ = some v → V.cell? ⟨w.heap.size, j, none⟩ = some v := fun j v hv => (hbV.cell (p := ⟨w.heap.size, j, none⟩) hz (by simp; omega)).trans hv
    have e0 := ke _ _ e0
    have e1 := ke _ _ e1
    have e2 := ke _ _ e2
    have e3 := ke _ _ e3
    have e4 := ke _ _ e4
    have e5 := ke _ _ e5
    have e6 := ke _ _ e6
    have e7 := ke _ _ e7
    have e8 := ke _ _ e8
    have c5 : V.cell? ⟨sb, 5, none⟩ = some (.slice (some ⟨b, o, none⟩) (ks.length + 1) c) := by rw [cell_of_row V sb 5 _ _ _ hrow, ← HKV.out]; rfl
    have f5 : V.frozen? ⟨sb, 5, none⟩ = false := frozen_of_row V sb 5 _ _ hrow
    have HR := Lib.hid hrow; clear hrow ke
    have HBV := Lib.hid hbV; clear hbV
    by_cases hc1 : c = 1
    · subst hc1
      go_wp2_with fail
      have hks : ks = [] := by cases ks with | nil => rfl | cons a l => simp at hlc
      generalize hW2 : World.setCell V _ _ = W2
      have hrow2 : W2.heap[sb]? = some (.cells (TCells { s with grp := s.grp.next ⟨g, kind, obj, off, k, en, fn, pc, stack⟩ } bc bm bd (.slice (some ⟨b, o, none⟩) 0 0)) 66 (0, 0)) := by
        rw [← hW2, heap_setCell_same _ _ _ _ _ _ HR.out]; simp [TCells, Grp.next, hs]
      have hb2 : But [sb] w W2 := by
        rw [← hW2]; exact (((But.refl _ _).below HB.out).trans HBV.out).setCell (.inl (by simp)) _
      clear hW2
      have hk2 : KindsAt W2 (.slice (some ⟨b, o, none⟩) 0 0) (s.grp.next ⟨g, kind, obj, off, k, en, fn, pc, stack⟩).kinds sb := by
        have hkk : (s.grp.next ⟨g, kind, obj, off, k, en, fn, pc, stack⟩).kinds = [] := by simp [Grp.next, hs, HK.out, hks]
        rw [hkk]; exact ⟨_, _, rfl, Nat.le_refl _, fun h0 => absurd h0 (by simp)⟩
      refine (proceed_fin HH.out hN ⟨g, kind, obj, off, k, en, fn, pc, stack⟩ hio HCB.out hrow2 hb2 hk2).mono ?_
      rintro r w3 ⟨rfl, hfin⟩
      have HF := Lib.hid hfin; clear hfin hrow2 hb2 hk2
      go_wp2
      go_ret
      exact ⟨rfl, HF.out⟩
    · have hc2 : 1 < c := by omega
      go_wp2_with fail
      generalize hW2 : World.setCell V _ _ = W2
      have hrow2 : W2.heap[sb]? = some (.cells (TCells { s with grp := s.grp.next ⟨g, kind, obj, off, k, en, fn, pc, stack⟩ } bc bm bd (.slice (some ⟨b, o + 1, none⟩) ks.length (c - 1))) 66 (0, 0)) := by
        rw [← hW2, heap_setCell_same _ _ _ _ _ _ HR.out]; simp [TCells, Grp.next, hs]
      have hb2 : But [sb] w W2 := by
        rw [← hW2]; exact (((But.refl _ _).below HB.out).trans HBV.out).setCell (.inl (by simp)) _
      clear hW2
      have hk2 : KindsAt W2 (.slice (some ⟨b, o + 1, none⟩) ks.length (c - 1)) (s.grp.next ⟨g, kind, obj, off, k, en, fn, pc, stack⟩).kinds sb := by
        have hkk : (s.grp.next ⟨g, kind, obj, off, k, en, fn, pc, stack⟩).kinds = ks := by simp [Grp.next, hs, HK.out]
        rw [hkk]
        refine ⟨_, _, rfl, by omega, fun h0 => ⟨b, o + 1, rfl, hbsb, fun i x hx => ?_⟩⟩
        have hx0 := HCS.out (i + 1) x (by rw [HK.out]; simpa using hx)
        rw [show o + 1 + i = o + (i + 1) by omega]
        exact (hb2.cell (p := ⟨b, o + (i + 1), none⟩) hblt (by simpa using hbsb)).trans hx0
      refine (proceed_fin HH.out hN ⟨g, kind, obj, off, k, en, fn, pc, stack⟩ hio HCB.out hrow2 hb2 hk2).mono ?_
      rintro r w3 ⟨rfl, hfin⟩
      have HF := Lib.hid hfin; clear hfin hrow2 hb2 hk2
      go_wp2
      go_ret
      exact ⟨rfl, HF.out⟩

set_option maxRecDepth 100000 in
set_option maxHeartbeats 4000000 in
theorem proceed_noR {sb bc bm bd N : Nat} {s : TS} {kv : Value} (w : World) (h : TRep w sb bc bm bd N s kv) (e : Ev) (k0 : Int) (ks : List Int) (hk : s.grp.kinds = k0 :: ks)
    (h1 : (e.kind != k0) = false) (h2 : (e.obj != s.grp.obj) = false) (h3 : (e.k != s.grp.k) = false) (h4 : (e.n != s.grp.n) = false) (hs : sendsB e.kind = false) (hm : (decide (s.grp.rcv < 0) = true ∧ (e.g == s.grp.snd) = true) ∨ (decide (s.grp.rcv < 0) = false ∧ decide (0 ≤ s.grp.rcv) = true ∧ (e.g != s.grp.rcv) = true)) :
    Calls Try.prog 43 #[.pointer (some ⟨sb, 0, none⟩), e.val] w fun r w' => r = .returned (.bool false) ∧ Below w.heap.size w w' := by
  obtain ⟨g, kind, obj, off, k, en, fn, pc, stack⟩ := e
  obtain ⟨b, o, c, hkv, hlc, hbsb, hblt, hcs, hp⟩ := PW.make h g kind obj off k en fn pc stack k0 ks hk
  have hsb := h.lt
  have HH := Lib.hid h; clear h
  have HK := Lib.hid hk; clear hk
  have HKV := Lib.hid hkv; clear hkv
  have HCS := Lib.hid hcs; clear hcs
  dsimp only at *
  unfold Ev.val
  go_enter Try.func43, Try.ntmps43
  go_upto_region 1 with fail
  generalize hW : World.alloc w _ = W at *
  have hB : Below w.heap.size w W := by rw [← hW]; exact (Below.refl _ _).alloc (Nat.le_refl _) _
  have hz : w.heap.size < W.heap.size := by rw [← hW]; simp
  clear hW
  have HB := Lib.hid hB; clear hB
  obtain ⟨c2, c5, c6, c7, c8, c9, c10, f5, f9, f10, ck, e0, e1, e2, e3, e4, e5, e6, e7, e8⟩ := hp
  rcases hm with ⟨h5, h6⟩ | ⟨h5, h6, h7⟩
  all_goals
    go_wp2
    go_quiet (fail)
    go_wp2
    go_quiet (fail)
    go_wp2_with (go_at_call 66; refine (sends_any _ _).mono ?_; rintro e w' ⟨rfl, rfl⟩)
    go_quiet (fail)
    go_wp2
    go_ret
    exact ⟨rfl, by repeat (first | exact HB.out | refine below_drewN ?_ _)⟩

set_option maxRecDepth 100000 in
set_option maxHeartbeats 4000000 in
theorem proceed_yesR {sb bc bm bd N : Nat} {s : TS} {kv : Value} (w : World) (h : TRep w sb bc bm bd N s kv) (hN : N + 2 < maxLen) (e : Ev) (hio : I64 e.obj) (k0 : Int) (ks : List Int) (hk : s.grp.kinds = k0 :: ks)
    (hcb : ∀ c, (s.chans e.obj).getD ch0 = c → (0 ≤ c.sent ∧ c.sent ≤ 5000) ∧ (0 ≤ c.recv ∧ c.recv ≤ 5000))
    (h1 : (e.kind != k0) = false) (h2 : (e.obj != s.grp.obj) = false) (h3 : (e.k != s.grp.k) = false) (h4 : (e.n != s.grp.n) = false) (hs : sendsB e.kind = false) (hm : (decide (s.grp.rcv < 0) = true ∧ (e.g == s.grp.snd) = false ∧ decide (0 ≤ s.grp.rcv) = false) ∨ (decide (s.grp.rcv < 0) = false ∧ decide (0 ≤ s.grp.rcv) = true ∧ (e.g != s.grp.rcv) = false)) :
    Calls Try.prog 43 #[.pointer (some ⟨sb, 0, none⟩), e.val] w fun r w' => r = .returned (.bool true) ∧ (∃ kv', TRep w' sb bc bm bd (N + 2) { s.count e with grp := s.grp.next e } kv') ∧ But [sb, bc] w w' := by
  obtain ⟨g, kind, obj, off, k, en, fn, pc, stack⟩ := e
  obtain ⟨b, o, c, hkv, hlc, hbsb, hblt, hcs, hp⟩ := PW.make h g kind obj off k en fn pc stack k0 ks hk
  have hsb := h.lt
  have HH := Lib.hid h; clear h
  have HK := Lib.hid hk; clear hk
  have HKV := Lib.hid hkv; clear hkv
  have HCS := Lib.hid hcs; clear hcs
  dsimp only at *
  unfold Ev.val
  go_enter Try.func43, Try.ntmps43
  go_upto_region 1 with fail
  generalize hW : World.alloc w _ = W at *
  have hB : Below w.heap.size w W := by rw [← hW]; exact (Below.refl _ _).alloc (Nat.le_refl _) _
  have hz : w.heap.size < W.heap.size := by rw [← hW]; simp
  clear hW
  have HB := Lib.hid hB; clear hB
  obtain ⟨c2, c5, c6, c7, c8, c9, c10, f5, f9, f10, ck, e0, e1, e2, e3, e4, e5, e6, e7, e8⟩ := hp
  have HCB := Lib.hid hcb; clear hcb
  rcases hm with ⟨h5, h6, h7⟩ | ⟨h5, h6, h7⟩
  all_goals
    go_wp2
    go_quiet (fail)
    go_wp2
    go_quiet (fail)
    go_wp2_with (go_at_call 66; refine (sends_any _ _).mono ?_; rintro e w' ⟨rfl, rfl⟩)
    go_quiet (fail)
    go_upto_region 10 with fail
    generalize hV : World.setCell _ _ _ = V
    have hrow : V.heap[sb]? = some (.cells ((TCells s bc bm bd kv).setIfInBounds 10 (.int .i64 g)) 66 (0, 0)) := by
      rw [← hV]; exact heap_setCell_same _ _ _ _ _ _ ((HB.out.block sb hsb).trans HH.out.row)
    have hbV : But [sb] W V := by rw [← hV]; exact ((But.refl _ _).drewN _).setCell (.inl (by simp)) _
    clear hV c2 c5 c6 c7 c8 c9 c10 f5 f9 f10 ck
    have ke : ∀ j v, W.cell? ⟨w.heap.size, j, none⟩ = some v → V.cell? ⟨w.heap.size, j, none⟩ = some v := fun j v hv => (hbV.cell (p := ⟨w.heap.size, j, none⟩) hz (by simp; omega)).trans hv
    have e0 := ke _ _ e0
    have e1 := ke _ _ e1
    have e2 := ke _ _ e2
    have e3 := ke _ _ e3
    have e4 := ke _ _ e4
    have e5 := ke _ _ e5
    have e6 := ke _ _ e6
    have e7 := ke _ _ e7
    have e8 := ke _ _ e8
    have c5 : V.cell? ⟨sb, 5, none⟩ = some (.slice (some ⟨b, o, none⟩) (ks.length + 1) c) := by rw [cell_of_row V sb 5 _ _ _ hrow, ← HKV.out]; rfl
    have f5 : V.frozen? ⟨sb, 5, none⟩ = false := frozen_of_row V sb 5 _ _ hrow
    have HR := Lib.hid hrow; clear hrow ke
    have HBV := Lib.hid hbV; clear hbV
    by_cases hc1 : c = 1
    · subst hc1
      go_wp2_with fail
      have hks : ks = [] := by cases ks with | nil => rfl | cons a l => simp at hlc
      generalize hW2 : World.setCell V _ _ = W2
      have hrow2 : W2.heap[sb]? = some (.cells (TCells { s with grp := s.grp.next ⟨g, kind, obj, off, k, en, fn, pc, stack⟩ } bc bm bd (.slice (some ⟨b, o, none⟩) 0 0)) 66 (0, 0)) := by
        rw [← hW2, heap_setCell_same _ _ _ _ _ _ HR.out]; simp [TCells, Grp.next, hs]
      have hb2 : But [sb] w W2 := by
        rw [← hW2]; exact (((But.refl _ _).below HB.out).trans HBV.out).setCell (.inl (by simp)) _
      clear hW2
      have hk2 : KindsAt W2 (.slice (some ⟨b, o, none⟩) 0 0) (s.grp.next ⟨g, kind, obj, off, k, en, fn, pc, stack⟩).kinds sb := by
        have hkk : (s.grp.next ⟨g, kind, obj, off, k, en, fn, pc, stack⟩).kinds = [] := by simp [Grp.next, hs, HK.out, hks]
        rw [hkk]; exact ⟨_, _, rfl, Nat.le_refl _, fun h0 => absurd h0 (by simp)⟩
      refine (proceed_fin HH.out hN ⟨g, kind, obj, off, k, en, fn, pc, stack⟩ hio HCB.out hrow2 hb2 hk2).mono ?_
      rintro r w3 ⟨rfl, hfin⟩
      have HF := Lib.hid hfin; clear hfin hrow2 hb2 hk2
      go_wp2
      go_ret
      exact ⟨rfl, HF.out⟩
    · have hc2 : 1 < c := by omega
      go_wp2_with fail
      generalize hW2 : World.setCell V _ _ = W2
      have hrow2 : W2.heap[sb]? = some (.cells (TCells { s with grp := s.grp.next ⟨g, kind, obj, off, k, en, fn, pc, stack⟩ } bc bm bd (.slice (some ⟨b, o + 1, none⟩) ks.length (c - 1))) 66 (0, 0)) := by
        rw [← hW2, heap_setCell_same _ _ _ _ _ _ HR.out]; simp [TCells, Grp.next, hs]
      have hb2 : But [sb] w W2 := by
        rw [← hW2]; exact (((But.refl _ _).below HB.out).trans HBV.out).setCell (.inl (by simp)) _
      clear hW2
      have hk2 : KindsAt W2 (.slice (some ⟨b, o + 1, none⟩) ks.length (c - 1)) (s.grp.next ⟨g, kind, obj, off, k, en, fn, pc, stack⟩).kinds sb := by
        have hkk : (s.grp.next ⟨g, kind, obj, off, k, en, fn, pc, stack⟩).kinds = ks := by simp [Grp.next, hs, HK.out]
        rw [hkk]
        refine ⟨_, _, rfl, by omega, fun h0 => ⟨b, o + 1, rfl, hbsb, fun i x hx => ?_⟩⟩
        have hx0 := HCS.out (i + 1) x (by rw [HK.out]; simpa using hx)
        rw [show o + 1 + i = o + (i + 1) by omega]
        exact (hb2.cell (p := ⟨b, o + (i + 1), none⟩) hblt (by simpa using hbsb)).trans hx0
      refine (proceed_fin HH.out hN ⟨g, kind, obj, off, k, en, fn, pc, stack⟩ hio HCB.out hrow2 hb2 hk2).mono ?_
      rintro r w3 ⟨rfl, hfin⟩
      have HF := Lib.hid hfin; clear hfin hrow2 hb2 hk2
      go_wp2
      go_ret
      exact ⟨rfl, HF.out⟩

theorem proceed_any {sb bc bm bd N : Nat} {s : TS} {kv : Value} (w : World) (h : TRep w sb bc bm bd N s kv) (hs : s.wf) (hN : N + 2 < maxLen) (e : Ev) (hv : e.valid = true) (ho : s.isOpen = true) :
    Calls Try.prog 43 #[.pointer (some ⟨sb, 0, none⟩), e.val] w fun r w' => r = .returned (.bool (s.proceed e).isSome) ∧ (∃ kv', TRep w' sb bc bm bd (N + 2) ((s.proceed e).getD s) kv') ∧ But [sb, bc] w w' := by
  obtain ⟨k0, ks, hk⟩ : ∃ k0 ks, s.grp.kinds = k0 :: ks := by
    unfold TS.isOpen at ho
    cases hkk : s.grp.kinds with
    | nil => rw [hkk] at ho; simp at ho
    | cons a l => exact ⟨a, l, rfl⟩
  have hio : I64 e.obj := by have := Ev.valid_obj hv; exact ⟨by omega, by omega⟩
  have hcb : ∀ c, (s.chans e.obj).getD ch0 = c → (0 ≤ c.sent ∧ c.sent ≤ 5000) ∧ (0 ≤ c.recv ∧ c.recv ≤ 5000) := by
    rintro c rfl
    have := hs.ev
    cases hc : s.chans e.obj with
    | none => simp [ch0]
    | some c => have := hs.ch _ _ hc; simp only [Option.getD_some]; omega
  have no : s.proceed e = none → ∀ {P : Prop}, (Calls Try.prog 43 #[.pointer (some ⟨sb, 0, none⟩), e.val] w fun r w' => r = .returned (.bool false) ∧ Below w.heap.size w w') →
      Calls Try.prog 43 #[.pointer (some ⟨sb, 0, none⟩), e.val] w fun r w' => r = .returned (.bool (s.proceed e).isSome) ∧ (∃ kv', TRep w' sb bc bm bd (N + 2) ((s.proceed e).getD s) kv') ∧ But [sb, bc] w w' := fun hn _ hc => by
    rw [hn]
    exact hc.mono fun r w' ⟨h1, h2⟩ => ⟨h1, ⟨kv, (h.below h2).mono (by omega)⟩, (But.refl _ _).below h2⟩
  have hfd : s.grp.fits e = (decide (e.kind = k0 ∧ e.obj = s.grp.obj ∧ e.k = s.grp.k ∧ e.n = s.grp.n) && !(decide (s.grp.own e.kind < 0 ∧ e.g = s.grp.other e.kind) || decide (0 ≤ s.grp.own e.kind ∧ e.g ≠ s.grp.own e.kind))) := by
    unfold Grp.fits; rw [hk]; rfl
  by_cases m1 : e.kind = k0 ∧ e.obj = s.grp.obj ∧ e.k = s.grp.k ∧ e.n = s.grp.n
  · obtain ⟨a1, a2, a3, a4⟩ := m1
    have b1 : (e.kind != k0) = false := by simp [a1]
    have b2 : (e.obj != s.grp.obj) = false := by simp [a2]
    have b3 : (e.k != s.grp.k) = false := by simp [a3]
    have b4 : (e.n != s.grp.n) = false := by simp [a4]
    rw [decide_eq_true (⟨a1, a2, a3, a4⟩ : _ ∧ _ ∧ _ ∧ _), Bool.true_and] at hfd
    cases hsd : sendsB e.kind with
    | true =>
      have own : s.grp.own e.kind = s.grp.snd := by unfold Grp.own; rw [if_pos hsd]
      have oth : s.grp.other e.kind = s.grp.rcv := by unfold Grp.other; rw [if_pos hsd]
      rw [own, oth] at hfd
      by_cases q1 : s.grp.snd < 0
      · by_cases q2 : e.g = s.grp.rcv
        · refine no ?_ (P := True) (proceed_noS w h e k0 ks hk b1 b2 b3 b4 hsd (.inl ⟨by simpa using q1, by simpa using q2⟩))
          unfold TS.proceed; rw [if_neg]; rw [hfd]; simp [q1, q2]
        · have hy : s.proceed e = some { s.count e with grp := s.grp.next e } := by
            unfold TS.proceed; rw [if_pos]; rw [hfd]; simp [q2]; omega
          rw [hy]
          exact proceed_yesS w h hN e hio k0 ks hk hcb b1 b2 b3 b4 hsd (.inl ⟨by simpa using q1, by simpa using q2, by simpa using q1⟩)
      · by_cases q2 : e.g = s.grp.snd
        · have hy : s.proceed e = some { s.count e with grp := s.grp.next e } := by
            unfold TS.proceed; rw [if_pos]; rw [hfd]; simp [q2]; omega
          rw [hy]
          exact proceed_yesS w h hN e hio k0 ks hk hcb b1 b2 b3 b4 hsd (.inr ⟨by simpa using q1, by simp; omega, by simpa using q2⟩)
        · refine no ?_ (P := True) (proceed_noS w h e k0 ks hk b1 b2 b3 b4 hsd (.inr ⟨by simpa using q1, by simp; omega, by simpa using q2⟩))
          unfold TS.proceed; rw [if_neg]; rw [hfd]; simp [q2]; omega
    | false =>
      have own : s.grp.own e.kind = s.grp.rcv := by unfold Grp.own; rw [if_neg (by rw [hsd]; decide)]
      have oth : s.grp.other e.kind = s.grp.snd := by unfold Grp.other; rw [if_neg (by rw [hsd]; decide)]
      rw [own, oth] at hfd
      by_cases q1 : s.grp.rcv < 0
      · by_cases q2 : e.g = s.grp.snd
        · refine no ?_ (P := True) (proceed_noR w h e k0 ks hk b1 b2 b3 b4 hsd (.inl ⟨by simpa using q1, by simpa using q2⟩))
          unfold TS.proceed; rw [if_neg]; rw [hfd]; simp [q1, q2]
        · have hy : s.proceed e = some { s.count e with grp := s.grp.next e } := by
            unfold TS.proceed; rw [if_pos]; rw [hfd]; simp [q2]; omega
          rw [hy]
          exact proceed_yesR w h hN e hio k0 ks hk hcb b1 b2 b3 b4 hsd (.inl ⟨by simpa using q1, by simpa using q2, by simpa using q1⟩)
      · by_cases q2 : e.g = s.grp.rcv
        · have hy : s.proceed e = some { s.count e with grp := s.grp.next e } := by
            unfold TS.proceed; rw [if_pos]; rw [hfd]; simp [q2]; omega
          rw [hy]
          exact proceed_yesR w h hN e hio k0 ks hk hcb b1 b2 b3 b4 hsd (.inr ⟨by simpa using q1, by simp; omega, by simpa using q2⟩)
        · refine no ?_ (P := True) (proceed_noR w h e k0 ks hk b1 b2 b3 b4 hsd (.inr ⟨by simpa using q1, by simp; omega, by simpa using q2⟩))
          unfold TS.proceed; rw [if_neg]; rw [hfd]; simp [q2]; omega
  · refine no ?_ (P := True) (proceed_mis w h e k0 ks hk ?_)
    · unfold TS.proceed; rw [if_neg]; rw [hfd, decide_eq_false m1]; simp
    · by_cases a1 : e.kind = k0
      · by_cases a2 : e.obj = s.grp.obj
        · by_cases a3 : e.k = s.grp.k
          · have a4 : e.n ≠ s.grp.n := fun a4 => m1 ⟨a1, a2, a3, a4⟩
            exact .inr (.inr (.inr ⟨by simp [a1], by simp [a2], by simp [a3], by simpa using a4⟩))
          · exact .inr (.inr (.inl ⟨by simp [a1], by simp [a2], by simpa using a3⟩))
        · exact .inr (.inl ⟨by simp [a1], by simpa using a2⟩)
      · exact .inl (by simpa using a1)

end Go.Proofs.Ytkdagjlkejefnaa
