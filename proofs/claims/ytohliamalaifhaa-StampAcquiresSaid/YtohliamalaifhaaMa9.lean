/- The walk of (*trace.State).simple. -/
import Derived.Test.YtohliamalaifhaaMa8
import Derived.Deep.QuietTactic
import Derived.BigQuiet
import Derived.LaidEqlPtr
import Derived.LoopTactic
import Derived.ProofKit
import Derived.Deep.Slices
import Derived.Deep.Fields
import Derived.ChangeSame
section
set_option linter.unusedSimpArgs false
set_option linter.unusedVariables false
namespace Go.Proofs.Ytohliamalaifhaa
open Go.RowKit

set_option maxRecDepth 100000 in
set_option maxHeartbeats 4000000 in
theorem simple_any {sb bc bm bd N : Nat} {s : TS} {kv : Value} (w : World) (h : TRep w sb bc bm bd N s kv) (hs : s.wf) (hN : N + 2 < maxLen) (e : Ev) (hv : e.valid = true) :
    Calls Try.prog 50 #[.pointer (some ⟨sb, 0, none⟩), e.val] w fun r w' => r = .returned (.bool (s.simple e).isSome) ∧ (∃ kv', TRep w' sb bc bm bd (N + 2) ((s.simple e).getD s) kv') ∧ But [sb, bm, bd] w w' := by
  have hbd := TS.mu_bd hs e
  have hvo := Ev.valid_obj hv
  have hvf := Ev.valid_off hv
  have hio : (Lit.int .i64 e.obj).wf = true ∧ (Lit.int .i64 e.off).wf = true := ⟨wf_i64 ⟨by omega, by omega⟩, wf_i64 ⟨by omega, by omega⟩⟩
  have hval : ((muMap s.mus (e.obj, e.off)).getD mu0.val) = (s.mu e).val := by unfold muMap TS.mu; cases s.mus (e.obj, e.off) <;> rfl
  obtain ⟨m, hm0⟩ : ∃ m, s.mu e = m := ⟨_, rfl⟩
  rw [hm0] at hval hbd
  have hev := hs.ev
  have hgr := hs.gr
  have c1 : w.cell? ⟨sb, 1, none⟩ = some (.int .i64 s.gor) := h.cell 1
  have c3 : w.cell? ⟨sb, 3, none⟩ = some (.map (some bm)) := h.cell 3
  have c4 : w.cell? ⟨sb, 4, none⟩ = some (.map (some bd)) := h.cell 4
  have hlt := h.lt
  have hmm := h.mus
  have HH := Lib.hid h; clear h
  have HS := Lib.hid hs; clear hs
  have HM0 := Lib.hid hm0; clear hm0
  obtain ⟨g, kind, obj, off, k, en, fn, pc, stack⟩ := e
  obtain ⟨locked, readers⟩ := m
  dsimp only at *
  have hl : ∀ o1 o2 : Obj, (Instr.lookup 78 (.map (some bm)) (.agg #[.int .i64 obj, .int .i64 off]) false).run Try.prog (((w.alloc o1).alloc o2).drew) = .ok (.agg #[.bool locked, .int .i64 readers]) (((w.alloc o1).alloc o2).drew) := fun o1 o2 => by
    have h1 : MapOf locV ((w.alloc o1).alloc o2).drew Try.prog 76 bm N (muMap s.mus) := (hmm.alloc o1).alloc o2
    have h2 := h1.look keyL Try.underlying78 zeroMu (obj, off) hio
    rw [hval] at h2; exact h2
  have hl2 : ∀ o1 o2 o3 : Obj, (Instr.lookup 78 (.map (some bm)) (.agg #[.int .i64 obj, .int .i64 off]) false).run Try.prog ((((w.alloc o1).alloc o2).alloc o3).drew) = .ok (.agg #[.bool locked, .int .i64 readers]) ((((w.alloc o1).alloc o2).alloc o3).drew) := fun o1 o2 o3 => by
    have h1 : MapOf locV (((w.alloc o1).alloc o2).alloc o3).drew Try.prog 76 bm N (muMap s.mus) := ((hmm.alloc o1).alloc o2).alloc o3
    have h2 := h1.look keyL Try.underlying78 zeroMu (obj, off) hio
    rw [hval] at h2; exact h2
  have HM := Lib.hid hmm; clear hmm
  have HV := Lib.hid hval; clear hval
  have HIO := Lib.hid hio; clear hio
  have hlt1 : sb < w.heap.size + 1 := by omega
  unfold Ev.val
  go_enter Try.func50, Try.ntmps50
  go_wp2
  go_region
  go_upto_block 0 with fail
  generalize hW : World.drew _ = W
  have hb0 : Below w.heap.size w W := by rw [← hW]; exact ((((Below.refl _ _).alloc (Nat.le_refl _) _).alloc (by simp) _).alloc (by simp; omega) _).drew
  have hz : w.heap.size + 2 < W.heap.size := by rw [← hW]; simp
  have e0 : W.cell? ⟨w.heap.size, 4, none⟩ = some (.int .i64 k) := by rw [← hW]; simp [go_sem]
  have l0 : W.cell? ⟨w.heap.size + 1, 0, none⟩ = some (.int .i64 obj) := by rw [← hW]; simp [go_sem]
  have l1 : W.cell? ⟨w.heap.size + 1, 1, none⟩ = some (.int .i64 off) := by rw [← hW]; simp [go_sem]
  have m0 : W.cell? ⟨w.heap.size + 2, 0, none⟩ = some (.bool locked) := by rw [← hW]; simp [go_sem]
  have m1 : W.cell? ⟨w.heap.size + 2, 1, none⟩ = some (.int .i64 readers) := by rw [← hW]; simp [go_sem]
  have mf : ∀ j, W.frozen? ⟨w.heap.size + 2, j, none⟩ = false := fun j => by rw [← hW]; simp [go_sem]
  clear hW
  have d1 : W.cell? ⟨sb, 1, none⟩ = some (.int .i64 s.gor) := (hb0.cell (p := ⟨sb, 1, none⟩) hlt).trans c1
  have d3 : W.cell? ⟨sb, 3, none⟩ = some (.map (some bm)) := (hb0.cell (p := ⟨sb, 3, none⟩) hlt).trans c3
  have d4 : W.cell? ⟨sb, 4, none⟩ = some (.map (some bd)) := (hb0.cell (p := ⟨sb, 4, none⟩) hlt).trans c4
  clear hl hl2 c1 c3 c4
  have HB0 := Lib.hid hb0; clear hb0
  have d1f : W.frozen? ⟨sb, 1, none⟩ = false := (HB0.out.frozen (p := ⟨sb, 1, none⟩) hlt).trans (HH.out.frozen 1)
  obtain ⟨dn, hdn⟩ : ∃ dn, (s.done (obj, off)).getD false = dn := ⟨_, rfl⟩
  have hdl : (Instr.lookup 79 (.map (some bd)) (.agg #[.int .i64 obj, .int .i64 off]) false).run Try.prog W.drew = .ok (.bool dn) W.drew := by
    have h1 : MapOf locV W.drew Try.prog 76 bd N (doneMap s.done) := HH.out.done.keep (HB0.out.block bd HH.out.done.lt)
    have h2 := h1.look keyL Try.underlying79 zeroB (obj, off) HIO.out
    have h3 : ((doneMap s.done (obj, off)).getD (.bool false)) = .bool dn := by rw [← hdn]; unfold doneMap; cases s.done (obj, off) <;> rfl
    rw [h3] at h2; exact h2
  have HDN := Lib.hid hdn; clear hdn
  have hno : ∀ w' : World, s.simple ⟨g, kind, obj, off, k, en, fn, pc, stack⟩ = none → Below w.heap.size w w' → Ending.returned (.bool false) = .returned (.bool (s.simple ⟨g, kind, obj, off, k, en, fn, pc, stack⟩).isSome) ∧ (∃ kv', TRep w' sb bc bm bd (N + 2) ((s.simple ⟨g, kind, obj, off, k, en, fn, pc, stack⟩).getD s) kv') ∧ But [sb, bm, bd] w w' := fun w' ho hb => by
    rw [ho]; exact ⟨rfl, ⟨kv, (HH.out.below hb).mono (by omega)⟩, (But.refl _ _).below hb⟩
  have HNO := Lib.hid hno; clear hno
  have hsame : ∀ w' : World, s.simple ⟨g, kind, obj, off, k, en, fn, pc, stack⟩ = some s → Below w.heap.size w w' → Ending.returned (.bool true) = .returned (.bool (s.simple ⟨g, kind, obj, off, k, en, fn, pc, stack⟩).isSome) ∧ (∃ kv', TRep w' sb bc bm bd (N + 2) ((s.simple ⟨g, kind, obj, off, k, en, fn, pc, stack⟩).getD s) kv') ∧ But [sb, bm, bd] w w' := fun w' ho hb => by
    rw [ho]; exact ⟨rfl, ⟨kv, (HH.out.below hb).mono (by omega)⟩, (But.refl _ _).below hb⟩
  have HSA := Lib.hid hsame; clear hsame
  go_cut [] (fun wx => ∃ (lk' : Bool) (rd' : Int), s.simple ⟨g, kind, obj, off, k, en, fn, pc, stack⟩ = some { s with mus := upd s.mus (obj, off) ⟨lk', rd'⟩ } ∧ Below w.heap.size w wx ∧ w.heap.size + 2 < wx.heap.size ∧
    wx.cell? ⟨w.heap.size + 1, 0, none⟩ = some (.int .i64 obj) ∧ wx.cell? ⟨w.heap.size + 1, 1, none⟩ = some (.int .i64 off) ∧ wx.cell? ⟨w.heap.size + 2, 0, none⟩ = some (.bool lk') ∧ wx.cell? ⟨w.heap.size + 2, 1, none⟩ = some (.int .i64 rd'))
  case first =>
    go_wp2_with fail
    all_goals (have hmm := HM0.out)
    all_goals first
      | (go_meet; first
        | refine ⟨true, readers, TS.si_6c hmm ‹_› ‹_› ‹_›, ?_⟩
        | refine ⟨false, readers, TS.si_7b hmm ‹_› ‹_›, ?_⟩
        | refine ⟨locked, readers + 1, TS.si_8b hmm ‹_› ‹_›, ?_⟩
        | refine ⟨locked, readers - 1, TS.si_9b hmm ‹_› ‹_›, ?_⟩)
      | (go_ret; refine HNO.out _ ?_ HB0.out; first | exact TS.si_6a hmm ‹_› ‹_› | exact TS.si_6b hmm ‹_› ‹_› | exact TS.si_7a hmm ‹_› ‹_› | exact TS.si_8a hmm ‹_› ‹_› | exact TS.si_9a hmm ‹_› ‹_›)
      | (go_ret; exact HSA.out _ (TS.si_no hmm ‹_› ‹_› ‹_› ‹_› ‹_› ‹_› ‹_›) HB0.out)
      | skip
    -- the four ways that write the mutex
    all_goals try (refine ⟨HB0.out.setCell (by simp; omega) _, by simpa [World.setCell] using hz, ?_, ?_, ?_, ?_⟩ <;> simp [go_sem, *]; done)
    · -- once-end
      go_region
      by_cases hd : dn = true
      · subst hd
        go_wp2
        go_ret
        refine HNO.out _ ?_ HB0.out.drew
        rw [TS.si_12 hmm ‹_›, if_pos HDN.out]
      · have hd0 : dn = false := by simpa using hd
        subst hd0
        have hop : s.simple ⟨g, kind, obj, off, k, en, fn, pc, stack⟩ = some { s with done := upd s.done (obj, off) true } := by
          rw [TS.si_12 hmm ‹_›, if_neg (by rw [HDN.out]; decide)]
        have HOP := Lib.hid hop; clear hop hmm
        have hmd : MapOf locV W.drew.drew Try.prog 76 bd N (doneMap s.done) := HH.out.done.keep (HB0.out.block bd HH.out.done.lt)
        obtain ⟨w1, hput, hm2, hg⟩ := hmd.put keyL Try.underlying79 (by omega) (obj, off) HIO.out (.bool true)
        unfold locV at hput
        have hfin : TRep w1 sb bc bm bd (N + 2) { s with done := upd s.done (obj, off) true } kv ∧ But [sb, bm, bd] w w1 := by
          have hbt : But [bd] w w1 := ((But.refl _ _).below HB0.out).drew.drew.grown hg (.inl (by simp))
          exact ⟨HH.out.new_done hbt (by rw [← doneMap_upd]; exact hm2) (by omega) (by omega), hbt.mono (by simp)⟩
        have HF := Lib.hid hfin; clear hfin hm2 hg hmd
        go_wp2
        go_region
        go_wp2
        go_ret
        rw [HOP.out]
        exact ⟨rfl, ⟨_, HF.out.1⟩, HF.out.2⟩
    · -- once-seen
      go_region
      have hop := TS.si_13 hmm ‹_›
      rw [HDN.out] at hop
      have HOP := Lib.hid hop; clear hop hmm
      go_wp2
      go_ret
      rw [HOP.out]
      refine ⟨ret_bool ?_, ⟨kv, ?_⟩, (But.refl _ _).below HB0.out.drew⟩
      · cases dn <;> rfl
      · have hgd : (if dn = true then some s else none).getD s = s := by split <;> rfl
        rw [hgd]
        exact (HH.out.below HB0.out.drew).mono (by omega)
    · -- go
      go_region
      go_wp2
      · go_ret
        exact HNO.out _ (TS.si_14a hmm ‹_› ‹_›) HB0.out.drew
      · have hop := TS.si_14b hmm ‹_› ‹_›
        go_ret
        rw [hop]
        generalize hX : World.drew _ = X
        have hb1 : But [sb] w X := by rw [← hX]; exact (((But.refl _ _).below HB0.out).setCell (.inl (by simp)) _).drew
        have hr1 : X.heap[sb]? = some (.cells (TCells { s with gor := s.gor + 1 } bc bm bd kv) 83 (0, 0)) := by
          rw [← hX]; exact heap_setCell_same W sb 1 _ _ _ ((HB0.out.block sb hlt).trans HH.out.row)
        clear hX
        exact ⟨rfl, ⟨kv, HH.out.new_row hb1 hr1 (by omega)⟩, hb1.mono (by simp)⟩
  case rest =>
    obtain ⟨lk', rd', hop, hb1, z1, l0', l1', m0', m1'⟩ := hcut
    clear l0 l1 m0 m1 mf hdl d3 d4 d1 d1f
    have hmd : MapOf locV wc.drew Try.prog 76 bm N (muMap s.mus) := HH.out.mus.keep (hb1.block bm HH.out.mus.lt)
    obtain ⟨w1, hput, hm2, hg⟩ := hmd.put keyL Try.underlying78 (by omega) (obj, off) HIO.out (.agg #[.bool lk', .int .i64 rd'])
    unfold locV at hput
    have c3 : wc.cell? ⟨sb, 3, none⟩ = some (.map (some bm)) := (hb1.cell (p := ⟨sb, 3, none⟩) hlt).trans (HH.out.cell 3)
    have hfin : TRep w1 sb bc bm bd (N + 2) { s with mus := upd s.mus (obj, off) ⟨lk', rd'⟩ } kv ∧ But [sb, bm, bd] w w1 := by
      have hbt : But [bm] w w1 := ((But.refl _ _).below hb1).drew.grown hg (.inl (by simp))
      exact ⟨HH.out.new_mus hbt (by rw [← muMap_upd]; exact hm2) (by omega) (by omega), hbt.mono (by simp)⟩
    have HF := Lib.hid hfin; clear hfin hm2 hg hmd hb1
    have HOP := Lib.hid hop; clear hop
    go_wp2
    go_region
    go_wp2
    go_ret
    rw [HOP.out]
    exact ⟨rfl, ⟨_, HF.out.1⟩, HF.out.2⟩
end Go.Proofs.Ytohliamalaifhaa
end
section
set_option linter.unusedSimpArgs false
set_option linter.unusedVariables false
namespace Go.Proofs.Ytohliamalaifhaa
open Go.RowKit

/-- A world that is W but for new blocks. -/
structure QW (W : World) where
  w : World
  h : Below W.heap.size W w

theorem QW.cell {W : World} (x : QW W) {p : Addr} {v : Value} (hp : p.block < W.heap.size) (h : W.cell? p = some v) : x.w.cell? p = some v := (x.h.cell hp).trans h
def QW.refl (W : World) : QW W := ⟨W, Below.refl _ _⟩
instance QW.nonempty (W : World) : Nonempty (QW W) := ⟨QW.refl W⟩

theorem wp_region_quietQ {P : Program} {id : Nat} {Q : Exit → Act → World → Prop} {a : Act} {W : World} {l : List Oper} (hm : P.follows .mixedOrders = true) (hB : Region.lexB .any l.toArray = true)
    (h : wpQuiet P l.toArray (fun w' => ∃ x : QW W, w' = x.w) (fun a' => ∀ x : QW W, Q .normal a' x.w) l a) : (Code.region id l.toArray true).wp P Q a W := by
  refine wp_region_quiet (C := fun w' => ∃ x : QW W, w' = x.w) hm hB ⟨⟨_, (Below.refl _ _).drew⟩, rfl⟩ ?_
  have mono : ∀ (l' : List Oper) (a : Act), wpQuiet P l.toArray (fun w' => ∃ x : QW W, w' = x.w) (fun a' => ∀ x : QW W, Q .normal a' x.w) l' a →
      wpQuiet P l.toArray (fun w' => ∃ x : QW W, w' = x.w) (fun a' => ∀ w', (∃ x : QW W, w' = x.w) → Q .normal a' w') l' a := by
    intro l'
    induction l' with
    | nil => intro a h w' hw; obtain ⟨x, rfl⟩ := hw; exact h x
    | cons o r ih =>
      intro a h
      unfold wpQuiet at h ⊢
      split
      · rename_i hw
        rw [if_pos hw] at h
        exact Oper.quiet_mono ih h
      · rename_i hw
        rw [if_neg hw] at h
        exact ih _ h
  exact mono _ _ (by simpa using h)

/-- A call whose contract says 'nothing old has turned'. -/
theorem QW.call {P : Program} {f : FuncId} {args : Array Value} {v : Value} {W : World} (x : QW W) (c : ∀ w, Calls P f args w fun e w' => e = .returned v ∧ Below w.heap.size w w') :
    Calls P f args x.w fun e w'' => e = .returned v ∧ ∃ y : QW W, w'' = y.w :=
  (c x.w).mono fun _ w' ⟨h1, h2⟩ => ⟨h1, ⟨w', x.h.trans (h2.mono x.h.size)⟩, rfl⟩
/-- .. or that it has not turned at all. -/
theorem QW.call_same {P : Program} {f : FuncId} {args : Array Value} {v : Value} {W : World} (x : QW W) (c : ∀ w, Calls P f args w fun e w' => e = .returned v ∧ w = w') :
    Calls P f args x.w fun e w'' => e = .returned v ∧ ∃ y : QW W, w'' = y.w :=
  (c x.w).mono fun _ w' ⟨h1, h2⟩ => ⟨h1, x, h2.symm⟩
/-- A contract that leans on facts of the world. -/
theorem QW.call_of {P : Program} {f : FuncId} {args : Array Value} {v : Value} {W : World} (x : QW W) (c : Calls P f args x.w fun e w' => e = .returned v ∧ Below x.w.heap.size x.w w') :
    Calls P f args x.w fun e w'' => e = .returned v ∧ ∃ y : QW W, w'' = y.w :=
  c.mono fun _ w' ⟨h1, h2⟩ => ⟨h1, ⟨w', x.h.trans (h2.mono x.h.size)⟩, rfl⟩
end Go.Proofs.Ytohliamalaifhaa
end
section
set_option linter.unusedSimpArgs false
set_option linter.unusedVariables false
namespace Go.Proofs.Ytohliamalaifhaa
open Go.RowKit

def StB (P : World → Prop) : Prop := ∀ w w', P w → Below w.heap.size w w' → P w'

set_option maxRecDepth 100000 in
set_option maxHeartbeats 8000000 in
theorem add_head {sb bc bm bd N : Nat} {s : TS} {kv : Value} (w : World) (h : TRep w sb bc bm bd N s kv) (hs : s.wf) (hN : N + 2 < maxLen) (e : Ev) :
    Calls Try.prog 36 #[.pointer (some ⟨sb, 0, none⟩), e.val] w fun r w' => r = .returned (.bool (s.add e).isSome) ∧ (∃ kv', TRep w' sb bc bm bd (N + 2) ((s.add e).getD s) kv') ∧ But [sb, bc, bm, bd] w w' := by
  have hlt := h.lt
  have c0 : w.cell? ⟨sb, 0, none⟩ = some (.int .i64 s.events) := h.cell 0
  have c1 : w.cell? ⟨sb, 1, none⟩ = some (.int .i64 s.gor) := h.cell 1
  have hev := hs.ev
  have hno : s.add e = none → ∀ w', Below w.heap.size w w' → Ending.returned (.bool false) = .returned (.bool (s.add e).isSome) ∧ (∃ kv', TRep w' sb bc bm bd (N + 2) ((s.add e).getD s) kv') ∧ But [sb, bc, bm, bd] w w' := fun ha w' hb => by
    rw [ha]; exact ⟨rfl, ⟨kv, (h.below hb).mono (by omega)⟩, (But.refl _ _).below hb⟩
  have HNO := Lib.hid hno; clear hno
  have HH := Lib.hid h; clear h
  have HS := Lib.hid hs; clear hs

  obtain ⟨g, kind, obj, off, k, en, fn, pc, stack⟩ := e
  unfold Ev.val
  go_enter Try.func36, Try.ntmps36
  go_upto_region 1 with fail
  generalize hW : World.alloc w _ = W
  have hB : Below w.heap.size w W := by rw [← hW]; exact (Below.refl _ _).alloc (Nat.le_refl _) _
  have hz : w.heap.size < W.heap.size := by rw [← hW]; simp
  have e0 : W.cell? ⟨w.heap.size, 0, none⟩ = some (.int .i64 g) := by rw [← hW]; exact cell_of_row _ _ _ _ _ _ (heap_alloc_new w _)
  have e1 : W.cell? ⟨w.heap.size, 1, none⟩ = some (.int .i64 kind) := by rw [← hW]; exact cell_of_row _ _ _ _ _ _ (heap_alloc_new w _)
  have e2 : W.cell? ⟨w.heap.size, 2, none⟩ = some (.int .i64 obj) := by rw [← hW]; exact cell_of_row _ _ _ _ _ _ (heap_alloc_new w _)
  have e3 : W.cell? ⟨w.heap.size, 3, none⟩ = some (.int .i64 off) := by rw [← hW]; exact cell_of_row _ _ _ _ _ _ (heap_alloc_new w _)
  have e4 : W.cell? ⟨w.heap.size, 4, none⟩ = some (.int .i64 k) := by rw [← hW]; exact cell_of_row _ _ _ _ _ _ (heap_alloc_new w _)
  have e5 : W.cell? ⟨w.heap.size, 5, none⟩ = some (.int .i64 en) := by rw [← hW]; exact cell_of_row _ _ _ _ _ _ (heap_alloc_new w _)
  have e6 : W.cell? ⟨w.heap.size, 6, none⟩ = some (.int .i64 fn) := by rw [← hW]; exact cell_of_row _ _ _ _ _ _ (heap_alloc_new w _)
  have e7 : W.cell? ⟨w.heap.size, 7, none⟩ = some (.int .i64 pc) := by rw [← hW]; exact cell_of_row _ _ _ _ _ _ (heap_alloc_new w _)
  have e8 : W.cell? ⟨w.heap.size, 8, none⟩ = some (.int .i64 stack) := by rw [← hW]; exact cell_of_row _ _ _ _ _ _ (heap_alloc_new w _)
  clear hW
  have d0 : W.cell? ⟨sb, 0, none⟩ = some (.int .i64 s.events) := (hB.cell (p := ⟨sb, 0, none⟩) hlt).trans c0
  have d1 : W.cell? ⟨sb, 1, none⟩ = some (.int .i64 s.gor) := (hB.cell (p := ⟨sb, 1, none⟩) hlt).trans c1
  have hltW : sb < W.heap.size := by omega
  clear c0 c1
  have HB := Lib.hid hB; clear hB
  have q0 : ∀ x : QW W, x.w.cell? ⟨w.heap.size, 0, none⟩ = some (.int .i64 g) := fun x => x.cell hz e0
  have q1 : ∀ x : QW W, x.w.cell? ⟨w.heap.size, 1, none⟩ = some (.int .i64 kind) := fun x => x.cell hz e1
  have q2 : ∀ x : QW W, x.w.cell? ⟨w.heap.size, 2, none⟩ = some (.int .i64 obj) := fun x => x.cell hz e2
  have q3 : ∀ x : QW W, x.w.cell? ⟨w.heap.size, 3, none⟩ = some (.int .i64 off) := fun x => x.cell hz e3
  have q4 : ∀ x : QW W, x.w.cell? ⟨w.heap.size, 4, none⟩ = some (.int .i64 k) := fun x => x.cell hz e4
  have q5 : ∀ x : QW W, x.w.cell? ⟨w.heap.size, 5, none⟩ = some (.int .i64 en) := fun x => x.cell hz e5
  have q6 : ∀ x : QW W, x.w.cell? ⟨w.heap.size, 6, none⟩ = some (.int .i64 fn) := fun x => x.cell hz e6
  have q7 : ∀ x : QW W, x.w.cell? ⟨w.heap.size, 7, none⟩ = some (.int .i64 pc) := fun x => x.cell hz e7
  have q8 : ∀ x : QW W, x.w.cell? ⟨w.heap.size, 8, none⟩ = some (.int .i64 stack) := fun x => x.cell hz e8
  have q9 : ∀ x : QW W, x.w.cell? ⟨sb, 0, none⟩ = some (.int .i64 s.events) := fun x => x.cell hltW d0
  have q10 : ∀ x : QW W, x.w.cell? ⟨sb, 1, none⟩ = some (.int .i64 s.gor) := fun x => x.cell hltW d1

  clear e0 e1 e2 e3 e4 e5 e6 e7 e8 d0 d1
  cases hv : Ev.valid ⟨g, kind, obj, off, k, en, fn, pc, stack⟩ with
  | false =>
    have hnone : s.add ⟨g, kind, obj, off, k, en, fn, pc, stack⟩ = none := by unfold TS.add TS.admits; rw [hv]; rfl
    have HNN := Lib.hid hnone; clear hnone
    have hV : ∀ w : World, Calls Try.prog 46 #[.agg #[.int .i64 g, .int .i64 kind, .int .i64 obj, .int .i64 off, .int .i64 k, .int .i64 en, .int .i64 fn, .int .i64 pc, .int .i64 stack]] w fun r w' => r = .returned (.bool false) ∧ Below w.heap.size w w' := fun w => by
      have := evalid_any ⟨g, kind, obj, off, k, en, fn, pc, stack⟩ w
      rw [hv] at this; exact this
    have HV := Lib.hid hV; clear hV hv
    refine wp_region_quietQ (by kernel_rfl) (by kernel_rfl) ?_
    repeat (go_big_quiet_step ((go_at_call 46; exact QW.call _ HV.out)))
    refine wpQuiet_nil ?_
    intro x
    obtain ⟨w1, hb1⟩ := x
    dsimp only
    go_wp2
    go_ret
    exact HNO.out HNN.out _ (HB.out.trans (hb1.mono HB.out.size))
  | true =>
    have hV : ∀ w : World, Calls Try.prog 46 #[.agg #[.int .i64 g, .int .i64 kind, .int .i64 obj, .int .i64 off, .int .i64 k, .int .i64 en, .int .i64 fn, .int .i64 pc, .int .i64 stack]] w fun r w' => r = .returned (.bool true) ∧ Below w.heap.size w w' := fun w => by
      have := evalid_any ⟨g, kind, obj, off, k, en, fn, pc, stack⟩ w
      rw [hv] at this; exact this
    have HV := Lib.hid hV; clear hV
    by_cases h5 : 5000 ≤ s.events
    · have hnone : s.add ⟨g, kind, obj, off, k, en, fn, pc, stack⟩ = none := by unfold TS.add TS.admits; rw [if_neg]; simp; omega
      have HNN := Lib.hid hnone; clear hnone hv
      have h5d : decide (5000 ≤ s.events) = true := by simpa using h5
      refine wp_region_quietQ (by kernel_rfl) (by kernel_rfl) ?_
      repeat (go_big_quiet_step ((go_at_call 46; exact QW.call _ HV.out)))
      refine wpQuiet_nil ?_
      intro x
      obtain ⟨w1, hb1⟩ := x
      dsimp only
      go_wp2
      go_ret
      exact HNO.out HNN.out _ (HB.out.trans (hb1.mono HB.out.size))
    have h5d : decide (5000 ≤ s.events) = false := by simpa using h5
    by_cases hg : s.gor ≤ g
    · have hnone : s.add ⟨g, kind, obj, off, k, en, fn, pc, stack⟩ = none := by unfold TS.add TS.admits; rw [if_neg]; simp; omega
      have HNN := Lib.hid hnone; clear hnone hv
      have hgd : decide (s.gor ≤ g) = true := by simpa using hg
      refine wp_region_quietQ (by kernel_rfl) (by kernel_rfl) ?_
      repeat (go_big_quiet_step ((go_at_call 46; exact QW.call _ HV.out)))
      refine wpQuiet_nil ?_
      intro x
      obtain ⟨w1, hb1⟩ := x
      dsimp only
      go_wp2
      go_ret
      exact HNO.out HNN.out _ (HB.out.trans (hb1.mono HB.out.size))
    have hgd : decide (s.gor ≤ g) = false := by simpa using hg
    have had : s.admits ⟨g, kind, obj, off, k, en, fn, pc, stack⟩ = true := by unfold TS.admits; rw [hv]; simp; omega
    have HAD := Lib.hid had; clear had
    refine wp_region_quietQ (by kernel_rfl) (by kernel_rfl) ?_
    repeat (go_big_quiet_step ((go_at_call 46; exact QW.call _ HV.out)))
    refine wpQuiet_nil ?_
    intro x
    have p0 := q0 x
    have p1 := q1 x
    have p2 := q2 x
    have p3 := q3 x
    have p4 := q4 x
    have p5 := q5 x
    have p6 := q6 x
    have p7 := q7 x
    have p8 := q8 x
    clear q0 q1 q2 q3 q4 q5 q6 q7 q8 q9 q10 HNO HV h5d hgd
    obtain ⟨w1, hb1⟩ := x
    dsimp only at p0 p1 p2 p3 p4 p5 p6 p7 p8 ⊢
    have hb2 : Below w.heap.size w w1 := HB.out.trans (hb1.mono HB.out.size)
    have hT := HH.out.below hb2
    have HT := Lib.hid hT; clear hT
    have HB2 := Lib.hid hb2; clear hb2 hb1
    have HVd := Lib.hid hv; clear hv
    go_upto_block 0 with fail
    go_cut [5] (fun s5 wx => s5 = .bool (s.part ⟨g, kind, obj, off, k, en, fn, pc, stack⟩).isSome ∧ (∃ kv', TRep wx sb bc bm bd (N + 2) ((s.part ⟨g, kind, obj, off, k, en, fn, pc, stack⟩).getD s) kv') ∧ But [sb, bc, bm, bd] w wx)
    case first =>
      cases ho : s.isOpen with
      | true =>
        have hpt : s.part ⟨g, kind, obj, off, k, en, fn, pc, stack⟩ = s.proceed ⟨g, kind, obj, off, k, en, fn, pc, stack⟩ := by unfold TS.part; rw [if_pos ho]
        have HPT := Lib.hid hpt; clear hpt
        have hO : Calls Try.prog 37 #[.pointer (some ⟨sb, 0, none⟩)] w1 fun e w' => e = .returned (.bool true) ∧ w1 = w' := by have := open_any w1 HT.out; rw [ho] at this; exact this
        have HO := Lib.hid hO; clear hO
        have HHO := Lib.hid ho; clear ho
        go_wp2_with ((go_at_call 37; refine HO.out.mono ?_; rintro e w' ⟨rfl, rfl⟩))
        refine (proceed_any w1 HT.out HS.out hN ⟨g, kind, obj, off, k, en, fn, pc, stack⟩ HVd.out HHO.out).mono ?_
        rintro r w2 ⟨rfl, hT2, hb3⟩
        have hfin : (∃ kv', TRep w2 sb bc bm bd (N + 2) ((s.part ⟨g, kind, obj, off, k, en, fn, pc, stack⟩).getD s) kv') ∧ But [sb, bc, bm, bd] w w2 := ⟨by rw [HPT.out]; exact hT2, ((But.refl _ _).below HB2.out).trans (hb3.mono (by simp))⟩
        have HF := Lib.hid hfin; clear hfin hT2 hb3
        go_wp2_with fail
        go_meet
        exact ⟨by rw [HPT.out], HF.out.1, HF.out.2⟩
      | false =>
        have hO : Calls Try.prog 37 #[.pointer (some ⟨sb, 0, none⟩)] w1 fun e w' => e = .returned (.bool false) ∧ w1 = w' := by have := open_any w1 HT.out; rw [ho] at this; exact this
        have HO := Lib.hid hO; clear hO
        cases hch : chanB kind with
        | true =>
          have hpt : s.part ⟨g, kind, obj, off, k, en, fn, pc, stack⟩ = s.operate ⟨g, kind, obj, off, k, en, fn, pc, stack⟩ := by unfold TS.part; rw [if_neg (by rw [ho]; decide), if_pos hch]
          have HPT := Lib.hid hpt; clear hpt
          have hC : ∀ w : World, Calls Try.prog 48 #[.int .i64 kind] w fun e w' => e = .returned (.bool true) ∧ w = w' := fun w => by have := channel_any kind w; rw [hch] at this; exact this
          have HC := Lib.hid hC; clear hC
          have HCH := Lib.hid hch; clear hch ho
          go_wp2_with (first | (go_at_call 37; refine HO.out.mono ?_; rintro e w' ⟨rfl, rfl⟩) | (go_at_call 48; refine (HC.out _).mono ?_; rintro e w' ⟨rfl, rfl⟩))
          refine (operate_any w1 HT.out HS.out hN ⟨g, kind, obj, off, k, en, fn, pc, stack⟩ HVd.out HCH.out).mono ?_
          rintro r w2 ⟨rfl, hT2, hb3⟩
          have hfin : (∃ kv', TRep w2 sb bc bm bd (N + 2) ((s.part ⟨g, kind, obj, off, k, en, fn, pc, stack⟩).getD s) kv') ∧ But [sb, bc, bm, bd] w w2 := ⟨by rw [HPT.out]; exact hT2, ((But.refl _ _).below HB2.out).trans (hb3.mono (by simp))⟩
          have HF := Lib.hid hfin; clear hfin hT2 hb3
          go_wp2_with fail
          go_meet
          exact ⟨by rw [HPT.out], HF.out.1, HF.out.2⟩
        | false =>
          have hpt : s.part ⟨g, kind, obj, off, k, en, fn, pc, stack⟩ = s.simple ⟨g, kind, obj, off, k, en, fn, pc, stack⟩ := by unfold TS.part; rw [if_neg (by rw [ho]; decide), if_neg (by dsimp only; rw [hch]; decide)]
          have HPT := Lib.hid hpt; clear hpt
          have hC : ∀ w : World, Calls Try.prog 48 #[.int .i64 kind] w fun e w' => e = .returned (.bool false) ∧ w = w' := fun w => by have := channel_any kind w; rw [hch] at this; exact this
          have HC := Lib.hid hC; clear hC hch ho
          go_wp2_with (first | (go_at_call 37; refine HO.out.mono ?_; rintro e w' ⟨rfl, rfl⟩) | (go_at_call 48; refine (HC.out _).mono ?_; rintro e w' ⟨rfl, rfl⟩))
          refine (simple_any w1 HT.out HS.out hN ⟨g, kind, obj, off, k, en, fn, pc, stack⟩ HVd.out).mono ?_
          rintro r w2 ⟨rfl, hT2, hb3⟩
          have hfin : (∃ kv', TRep w2 sb bc bm bd (N + 2) ((s.part ⟨g, kind, obj, off, k, en, fn, pc, stack⟩).getD s) kv') ∧ But [sb, bc, bm, bd] w w2 := ⟨by rw [HPT.out]; exact hT2, ((But.refl _ _).below HB2.out).trans (hb3.mono (by simp))⟩
          have HF := Lib.hid hfin; clear hfin hT2 hb3
          go_wp2_with fail
          go_meet
          exact ⟨by rw [HPT.out], HF.out.1, HF.out.2⟩
    case rest =>
      clear p0 p1 p2 p3 p4 p5 p6 p7 p8
      obtain ⟨rfl, ⟨kv', hT2⟩, hbt⟩ := hcut
      have hadd : s.add ⟨g, kind, obj, off, k, en, fn, pc, stack⟩ = (s.part ⟨g, kind, obj, off, k, en, fn, pc, stack⟩).map fun t => { t with events := t.events + 1 } := by unfold TS.add; rw [if_pos HAD.out]
      cases hp : s.part ⟨g, kind, obj, off, k, en, fn, pc, stack⟩ with
      | none =>
        rw [hp] at hadd hT2
        have HADD := Lib.hid hadd; clear hadd
        have HT2 := Lib.hid hT2; clear hT2
        have HBT := Lib.hid hbt; clear hbt hp
        go_wp2
        go_ret
        rw [HADD.out]
        exact ⟨rfl, ⟨kv', HT2.out⟩, HBT.out⟩
      | some t =>
        have hw := TS.part_wf HS.out HVd.out hp
        have he1 : t.events = s.events := hw.1
        rw [hp] at hadd hT2
        simp only [Option.getD_some] at hT2
        have c0 : wc.cell? ⟨sb, 0, none⟩ = some (.int .i64 t.events) := hT2.cell 0
        have f0 : wc.frozen? ⟨sb, 0, none⟩ = false := hT2.frozen 0
        have he2 : 0 ≤ t.events := by omega
        have he3 : t.events ≤ 5000 := by omega
        clear hw he1
        have HADD := Lib.hid hadd; clear hadd
        have HT2 := Lib.hid hT2; clear hT2
        have HBT := Lib.hid hbt; clear hbt hp
        go_wp2
        go_ret
        rw [HADD.out]
        generalize hX : World.setCell _ _ _ = X
        have hb1 : But [sb] wc X := by rw [← hX]; exact (But.refl _ _).setCell (.inl (by simp)) _
        have hr1 : X.heap[sb]? = some (.cells (TCells { t with events := t.events + 1 } bc bm bd kv') 83 (0, 0)) := by
          rw [← hX]; exact heap_setCell_same wc sb 0 _ _ _ HT2.out.row
        clear hX
        exact ⟨rfl, ⟨kv', HT2.out.new_row hb1 hr1 (Nat.le_refl _)⟩, HBT.out.trans (hb1.mono (by simp))⟩

end Go.Proofs.Ytohliamalaifhaa
end
section
set_option linter.unusedSimpArgs false
set_option linter.unusedVariables false
namespace Go.Proofs.Ytohliamalaifhaa
open Go.RowKit

/-- a new state in new blocks -/
def NewPost (w : World) (r : Ending) (w' : World) : Prop :=
  ∃ sb bc bm bd kv, r = .returned (.pointer (some ⟨sb, 0, none⟩)) ∧ TRep w' sb bc bm bd 0 TS.new kv ∧ (w.heap.size ≤ sb ∧ w.heap.size ≤ bc ∧ w.heap.size ≤ bm ∧ w.heap.size ≤ bd) ∧ Below w.heap.size w w'

theorem new_any (w : World) : Calls Try.prog 35 #[] w (NewPost w) := by
  have hmm := @run_makeMap Try.prog
  go_enter Try.func35, Try.ntmps35
  go_wp2
  go_ret
  refine ⟨w.heap.size + 1 + 1 + 1, w.heap.size, w.heap.size + 1, w.heap.size + 1 + 1, .slice none 0 0, rfl, ⟨?_, ⟨none, 0, rfl, Nat.le_refl _, fun h => absurd h (by decide)⟩, ?_, ?_, ?_, by omega, by omega, by omega⟩, ⟨by omega, by omega, by omega, by omega⟩, ?_⟩
  · have h1 := heap_alloc_new (((w.alloc (.map #[] 0)).alloc (.map #[] 0)).alloc (.map #[] 0)) (.cells (TCells TS.new w.heap.size (w.heap.size + 1) (w.heap.size + 1 + 1) (.slice none 0 0)) 83)
    simpa [TCells, TS.new, grp0] using h1
  · exact (((MapOf.made w Try.prog 3).alloc _).alloc _).alloc _
  · have h1 := ((MapOf.made (kv := locV) (w.alloc (.map #[] 0)) Try.prog 76).alloc (.map #[] 0)).alloc (.cells (TCells TS.new w.heap.size (w.heap.size + 1) (w.heap.size + 1 + 1) (.slice none 0 0)) 83)
    simp [TCells, TS.new, grp0] at h1; exact h1
  · have h1 := (MapOf.made (kv := locV) ((w.alloc (.map #[] 0)).alloc (.map #[] 0)) Try.prog 76).alloc (.cells (TCells TS.new w.heap.size (w.heap.size + 1) (w.heap.size + 1 + 1) (.slice none 0 0)) 83)
    simp [TCells, TS.new, grp0] at h1; exact h1
  · exact ((((Below.refl _ _).alloc (Nat.le_refl _) _).alloc (by simp) _).alloc (by simp; omega) _).alloc (by simp; omega) _

theorem But.belowOf {L : List Nat} {a b : World} (h : But L a b) {B : Nat} (hB : B ≤ a.heap.size) (hL : ∀ x ∈ L, B ≤ x) : Below B a b :=
  ⟨h.os, h.tape, h.output, h.size, fun k hk => h.block k (by omega) (fun hm => by have := hL k hm; omega)⟩

/-- the slice v reads as the events l -/
def EvAt (w : World) (v : Value) (l : List Ev) : Prop :=
  ∃ A c, v = .slice A l.length c ∧ l.length ≤ c ∧ c ≤ 9223372036854775807 ∧ (0 < l.length → ∃ b o, A = some ⟨b, o, none⟩ ∧ ∀ i e, l[i]? = some e → ∀ j x, e.cells[j]? = some x → w.cell? ⟨b, o + (i * 9 + j), none⟩ = some x)
theorem EvAt.keep {w w' : World} {v : Value} {l : List Ev} (h : EvAt w v l) (hb : Below w.heap.size w w') : EvAt w' v l := by
  obtain ⟨A, c, h1, h2, h3, h4⟩ := h
  refine ⟨A, c, h1, h2, h3, fun hn => ?_⟩
  obtain ⟨b, o, hA, hc⟩ := h4 hn
  refine ⟨b, o, hA, fun i e hi j x hx => ?_⟩
  have h5 := hc i e hi j x hx
  exact (hb.cell (block_lt_of_cell h5)).trans h5

/-- what follow hands back -/
def FollowPost (w : World) (l : List Ev) (r : Ending) (w' : World) : Prop :=
  ∃ sb bc bm bd N kv t, r = .returned (.tuple #[.pointer (some ⟨sb, 0, none⟩), .int .i64 (chk l), .int .i64 (wholeOf l)]) ∧ TS.new.steps (l.take (chk l)) = some t ∧ TRep w' sb bc bm bd N t kv ∧ Below w.heap.size w w'

set_option maxRecDepth 100000 in
set_option maxHeartbeats 4000000 in
theorem follow_any (w : World) (v : Value) (l : List Ev) (h : EvAt w v l) (hl : l.length ≤ 1000000) : Calls Try.prog 29 #[v] w (FollowPost w l) := by
  obtain ⟨A, c, rfl, hlc, hc63, hA⟩ := h
  have HA := Lib.hid hA; clear hA
  go_enter Try.func29, Try.ntmps29
  go_wp2_with ((go_at_call 35; refine (new_any _).mono ?_; rintro r w1 ⟨sb, bc, bm, bd, kv0, rfl, hT, ⟨z0, z1, z2, z3⟩, hb⟩))
  have HT := Lib.hid hT; clear hT
  have HB := Lib.hid hb; clear hb
  go_loopw [3, 4] (fun n wh wr => ∃ (k : Nat) (t : TS) (kv : Value), k ≤ l.length ∧ n = .int .i64 k ∧ wh = .int .i64 (TS.new.wholeTo l k) ∧ TS.new.steps (l.take k) = some t ∧ TRep wr sb bc bm bd (2 * k) t kv ∧ Below w.heap.size w wr)
    (fun n _ _ => l.length - (intOf n).toNat)
  case atStart => exact ⟨0, TS.new, kv0, Nat.zero_le _, rfl, rfl, rfl, HT.out, HB.out⟩
  case round =>
    obtain ⟨k, t, kv, hk, rfl, rfl, hst, hT, hb⟩ := hrel
    have hwl := TS.wholeTo_le TS.new l k
    have HST := Lib.hid hst; clear hst
    have HT1 := Lib.hid hT; clear hT
    have HB1 := Lib.hid hb; clear hb
    by_cases hlt : k < l.length
    · obtain ⟨b, o, rfl, hcell⟩ := HA.out (by omega)
      have hcl : ∀ j x, (l[k]).cells[j]? = some x → wr.cell? ⟨b, o + (k * 9 + j), none⟩ = some x := fun j x hx => by
        have h5 := hcell k l[k] (List.getElem?_eq_getElem hlt) j x hx
        exact (HB1.out.cell (block_lt_of_cell h5)).trans h5
      obtain ⟨e, he⟩ : ∃ e, l[k] = e := ⟨_, rfl⟩
      rw [he] at hcl
      obtain ⟨g, kind, obj, off, ek, en, fn, pc, stack⟩ := e
      have q0 : wr.cell? ⟨b, o + k * 9, none⟩ = some (.int .i64 g) := hcl 0 _ rfl
      have q1 : wr.cell? ⟨b, o + k * 9 + 1, none⟩ = some (.int .i64 kind) := hcl 1 _ rfl
      have q2 : wr.cell? ⟨b, o + k * 9 + 2, none⟩ = some (.int .i64 obj) := hcl 2 _ rfl
      have q3 : wr.cell? ⟨b, o + k * 9 + 3, none⟩ = some (.int .i64 off) := hcl 3 _ rfl
      have q4 : wr.cell? ⟨b, o + k * 9 + 4, none⟩ = some (.int .i64 ek) := hcl 4 _ rfl
      have q5 : wr.cell? ⟨b, o + k * 9 + 5, none⟩ = some (.int .i64 en) := hcl 5 _ rfl
      have q6 : wr.cell? ⟨b, o + k * 9 + 6, none⟩ = some (.int .i64 fn) := hcl 6 _ rfl
      have q7 : wr.cell? ⟨b, o + k * 9 + 7, none⟩ = some (.int .i64 pc) := hcl 7 _ rfl
      have q8 : wr.cell? ⟨b, o + k * 9 + 8, none⟩ = some (.int .i64 stack) := hcl 8 _ rfl
      clear hcl hcell
      have HE := Lib.hid he; clear he
      have hwf : t.wf := TS.steps_wf TS.wf_new HST.out
      have hsucc := TS.steps_take_succ (s := TS.new) hlt
      rw [HST.out, HE.out] at hsucc
      simp only [Option.bind_some] at hsucc
      have hadd := add_head wr HT1.out hwf (by unfold maxLen; omega) ⟨g, kind, obj, off, ek, en, fn, pc, stack⟩
      clear hwf
      cases ha : t.add ⟨g, kind, obj, off, ek, en, fn, pc, stack⟩ with
      | none =>
        rw [ha] at hadd hsucc
        have hchk : chk l = k := TS.chk_of hk HST.out (fun e' he' => by
          rw [List.getElem?_eq_getElem hlt] at he'
          have h6 := HE.out
          rw [Option.some.inj he'] at h6
          rw [h6]; exact ha)
        have HCK := Lib.hid hchk; clear hchk hsucc ha
        have HADD := Lib.hid hadd; clear hadd
        go_wp2_with fail
        refine HADD.out.mono ?_
        rintro r w2 ⟨rfl, ⟨kv', hT2⟩, hb2⟩
        have hfin : FollowPost w l (.returned (.tuple #[.pointer (some ⟨sb, 0, none⟩), .int .i64 k, .int .i64 (TS.new.wholeTo l k)])) w2 := by
          refine ⟨sb, bc, bm, bd, _, kv', t, ?_, ?_, hT2, HB1.out.trans (hb2.belowOf HB1.out.size ?_)⟩
          · unfold wholeOf; rw [HCK.out]
          · rw [HCK.out]; exact HST.out
          · simp only [List.mem_cons, List.not_mem_nil, or_false, forall_eq_or_imp, forall_eq]; exact ⟨z0, z1, z2, z3⟩
        have HF := Lib.hid hfin; clear hfin hT2 hb2
        go_wp2_with fail
        go_ret3
        exact HF.out
      | some u =>
        rw [ha] at hadd hsucc
        have HSU := Lib.hid hsucc; clear hsucc ha
        have HADD := Lib.hid hadd; clear hadd
        go_wp2_with fail
        refine HADD.out.mono ?_
        rintro r w2 ⟨rfl, ⟨kv', hT2⟩, hb2⟩
        simp only [Option.getD_some] at hT2
        have hfin : Below w.heap.size w w2 := HB1.out.trans (hb2.belowOf HB1.out.size (by simp only [List.mem_cons, List.not_mem_nil, or_false, forall_eq_or_imp, forall_eq]; exact ⟨z0, z1, z2, z3⟩))
        have HF := Lib.hid hfin; clear hfin hb2
        have hop := open_any w2 hT2
        have HT2 := Lib.hid hT2; clear hT2
        have hwt : TS.new.wholeTo l (k + 1) = if u.isOpen = true then TS.new.wholeTo l k else k + 1 := by
          simp only [TS.wholeTo]; rw [HSU.out]
        cases ho : u.isOpen with
        | true =>
          rw [ho] at hop hwt
          have HO := Lib.hid hop; clear hop
          have HW := Lib.hid hwt; clear hwt ho
          go_wp2_with ((go_at_call 37; refine HO.out.mono ?_; rintro r w3 ⟨rfl, rfl⟩))
          go_roundw
          case rel => exact ⟨k + 1, u, kv', by omega, by go_num, by rw [HW.out]; rfl, HSU.out, HT2.out, HF.out⟩
          case measure => simp [intOf]; omega
        | false =>
          rw [ho] at hop hwt
          have HO := Lib.hid hop; clear hop
          have HW := Lib.hid hwt; clear hwt ho
          go_wp2_with ((go_at_call 37; refine HO.out.mono ?_; rintro r w3 ⟨rfl, rfl⟩))
          go_roundw
          case rel => exact ⟨k + 1, u, kv', by omega, by go_num, by rw [HW.out]; go_num, HSU.out, HT2.out, HF.out⟩
          case measure => simp [intOf]; omega
    · have hkl : k = l.length := by omega
      have hchk : chk l = k := TS.chk_of hk HST.out (fun e' he' => by rw [List.getElem?_eq_none (by omega)] at he'; cases he')
      have hfin : FollowPost w l (.returned (.tuple #[.pointer (some ⟨sb, 0, none⟩), .int .i64 k, .int .i64 (TS.new.wholeTo l k)])) wr := by
        refine ⟨sb, bc, bm, bd, _, kv, t, ?_, ?_, HT1.out, HB1.out⟩
        · unfold wholeOf; rw [hchk]
        · rw [hchk]; exact HST.out
      have HF := Lib.hid hfin; clear hfin hchk hkl
      go_wp2_with fail
      go_ret3
      exact HF.out

/-- what Check hands back -/
def CheckPost (w : World) (l : List Ev) (r : Ending) (w' : World) : Prop :=
  r = .returned (.tuple #[.int .i64 (chk l), .bool (decide (chk l = l.length))]) ∧ Below w.heap.size w w'

theorem check_any (w : World) (v : Value) (l : List Ev) (h : EvAt w v l) (hl : l.length ≤ 1000000) : Calls Try.prog 21 #[v] w (CheckPost w l) := by
  have hf := follow_any w v l h hl
  obtain ⟨A, c, rfl, hlc, hc63, hA⟩ := h
  have HF := Lib.hid hf; clear hf hA
  go_enter Try.func21, Try.ntmps21
  go_wp2_with ((go_at_call 29; refine HF.out.mono ?_; rintro r w1 ⟨sb, bc, bm, bd, N, kv, t, rfl, hst, hT, hb⟩))
  go_ret2
  refine ⟨?_, hb⟩
  have h1 : ((chk l : Int) == (l.length : Int)) = decide (chk l = l.length) := by
    rw [Bool.eq_iff_iff]; simp; omega
  simp [h1]

theorem valid_any (w : World) (v : Value) (l : List Ev) (h : EvAt w v l) (hl : l.length ≤ 1000000) : Calls Try.prog 17 #[v] w fun r w' => r = .returned (.bool (decide (chk l = l.length))) ∧ Below w.heap.size w w' := by
  have hf := check_any w v l h hl
  obtain ⟨A, c, rfl, hlc, hc63, hA⟩ := h
  have HF := Lib.hid hf; clear hf hA
  go_enter Try.func17, Try.ntmps17
  go_wp2_with ((go_at_call 21; refine HF.out.mono ?_; rintro r w1 ⟨rfl, hb⟩))
  go_ret
  exact ⟨rfl, hb⟩

end Go.Proofs.Ytohliamalaifhaa
end
section
set_option linter.unusedSimpArgs false
set_option linter.unusedVariables false
namespace Go.Proofs.Ytohliamalaifhaa
open Go.RowKit Go.WideShapes Go.ChangeShapes Go.Deep

section
variable {H : Type} {enc : TypeId × Value → H} {P : Program} {w : World} {base : Nat} {spare : Nat → Bool} {held : Bool}
theorem open_slice_fields {t e : TypeId} {fs : Array Field} {fuel : Nat} {cs : List Value} {x : DataW H × List MemPlace} (ht : P.underlying t = some (.slice e)) (he : P.underlying e = some (.struct fs))
    (hone : oneCellFields P fs = true) (hC : P.cellsOf e = fs.size) (h : DataW.trod enc P w base spare held fuel t cs = some x) :
    (cs = [.slice none 0 0] ∧ x = (.nil, [])) ∨
    ∃ (a : Addr) (len cap m : Nat) (D : Nat → DataW H) (Pl : Nat → List MemPlace), cs = [.slice (some a) len cap] ∧ base ≤ a.block ∧ len ≤ cap ∧ cap ≤ maxLen ∧ m = (if spare a.block then cap else len) ∧
      x = (.slice ((List.range len).map D) ((List.range (m - len)).map fun j => D (len + j)), MemPlace.row a (m * fs.size) ++ (List.range m).flatMap Pl) ∧
      ∀ i, i < m → ∃ (ys : List (DataW H × List MemPlace)) (n : Nat), D i = .agg (ys.map (·.1)) ∧ Pl i = ys.flatMap (·.2) ∧ ys.length = fs.size ∧
        ∀ (j : Nat) (f : Field), fs[j]? = some f → ∃ (v : Value) (y : DataW H × List MemPlace), w.cell? (a.add (i * fs.size + j)) = some v ∧ ys[j]? = some y ∧ DataW.trod enc P w base spare held n f.type [v] = some y := by
  rcases open_slice ht h with h0 | ⟨a, len, cap, m, n, D, Pl, hcs, hb, hl, hm, hmm, hx, hi⟩
  · exact .inl h0
  · refine .inr ⟨a, len, cap, m, D, Pl, hcs, hb, hl, hm, hmm, by rw [hC] at hx; exact hx, fun i him => ?_⟩
    obtain ⟨cs', hc, ht'⟩ := hi i him
    rw [hC] at hc
    obtain ⟨ys, n', hn', hy, hlen, hyl, hf⟩ := DataW.trod_struct he ht'
    obtain ⟨_, hcl, hat⟩ := World.cells?_some hc
    simp only [Prod.mk.injEq] at hy
    refine ⟨ys, n', hy.1, hy.2, hyl, fun j f hj => ?_⟩
    obtain ⟨ho, hk⟩ := hone_of hone j f hj
    have hjl : j < fs.size := (Array.getElem?_eq_some_iff.1 hj).1
    have hcell := hat j hjl
    have hv : cs'[j]? = some (cs'[j]'(by omega)) := List.getElem?_eq_getElem (by omega)
    have h1 := hf j f hj
    rw [ho, hk] at h1
    have hone' : (cs'.drop j).take 1 = [cs'[j]'(by omega)] := by
      rw [List.drop_eq_getElem_cons (by omega)]
      rfl
    rw [hone'] at h1
    have hys : ys[j]? = some (ys[j]'(by omega)) := List.getElem?_eq_getElem (by omega)
    refine ⟨_, _, ?_, hys, h1.trans hys⟩
    rw [← Go.Deep.add_add, hcell, hv]
end

theorem Try.laidOut : laidOutB Try.prog = true := by kernel_rfl
theorem Try.own : ownKnob Try.prog.godebug = none := by kernel_rfl

theorem trod_int_field {H : Type} {enc : TypeId × Value → H} {P : Program} {w : World} {base n : Nat} {spare : Nat → Bool} {held : Bool} {t : TypeId} (ht : P.underlying t = some (.int .i64)) {v : Value} {y : DataW H × List MemPlace} (h : DataW.trod enc P w base spare held n t [v] = some y) : ∃ x, v = .int .i64 x ∧ (Lit.int .i64 x).wf = true := by
  obtain ⟨x, hx, _, hw⟩ := DataW.trod_int ht h
  simp at hx
  exact ⟨x, hx, hw⟩

theorem i64_of_wf {x : Int} (h : (Lit.int .i64 x).wf = true) : -9223372036854775808 ≤ x ∧ x ≤ 9223372036854775807 := by
  simp [Lit.wf, IntKind.min, IntKind.max, IntKind.signed, IntKind.bits] at h
  omega

set_option maxHeartbeats 1000000 in
theorem open_events {H : Type} {enc : TypeId × Value → H} {w : World} {r : Reach} {b0 : Nat} {v : Value} {d : DataW H} {ps : List MemPlace}
    (hv : Value.okWide Try.prog w r b0 22 v) (h : DataW.Trod enc Try.prog w 0 (fun _ => true) true 22 v d ps) : ∃ l : List Ev, EvAt w v l ∧ ∀ e ∈ l, ∀ x ∈ e.cells, ∃ n : Int, x = .int .i64 n ∧ (-9223372036854775808 ≤ n ∧ n ≤ 9223372036854775807) := by
  obtain ⟨a, len, cap, rfl⟩ := okWide_slice Try.underlying22 hv
  obtain ⟨fuel, hf⟩ := h
  rcases open_slice_fields Try.underlying22 Try.underlying33 (by kernel_rfl) (by kernel_rfl) hf with ⟨hcs, _⟩ | ⟨A, n, c, m, D, Pl, hcs, _, hnc, hcm, hm, _, hi⟩
  · simp [Value.cells] at hcs
    obtain ⟨rfl, rfl, rfl⟩ := hcs
    exact ⟨[], ⟨none, 0, rfl, Nat.le_refl _, by omega, fun hh => absurd hh (by decide)⟩, fun e he => by cases he⟩
  · simp [Value.cells] at hcs
    obtain ⟨rfl, rfl, rfl⟩ := hcs
    have hev : ∀ i, ∃ e : Ev, i < cap → (∀ j x, e.cells[j]? = some x → w.cell? (A.add (i * 9 + j)) = some x) ∧ ∀ x ∈ e.cells, ∃ n : Int, x = .int .i64 n ∧ (-9223372036854775808 ≤ n ∧ n ≤ 9223372036854775807) := by
      intro i
      by_cases him : i < cap
      case neg => exact ⟨⟨0, 0, 0, 0, 0, 0, 0, 0, 0⟩, fun hh => absurd hh him⟩
      obtain ⟨ys, n', _, _, _, hf'⟩ := hi i (by simpa [hm] using him)
      obtain ⟨c0, y0, r0, _, t0⟩ := hf' 0 _ rfl
      obtain ⟨x0, rfl, b0⟩ := trod_int_field Try.underlying3 t0
      obtain ⟨c1, y1, r1, _, t1⟩ := hf' 1 _ rfl
      obtain ⟨x1, rfl, b1⟩ := trod_int_field Try.underlying3 t1
      obtain ⟨c2, y2, r2, _, t2⟩ := hf' 2 _ rfl
      obtain ⟨x2, rfl, b2⟩ := trod_int_field Try.underlying3 t2
      obtain ⟨c3, y3, r3, _, t3⟩ := hf' 3 _ rfl
      obtain ⟨x3, rfl, b3⟩ := trod_int_field Try.underlying3 t3
      obtain ⟨c4, y4, r4, _, t4⟩ := hf' 4 _ rfl
      obtain ⟨x4, rfl, b4⟩ := trod_int_field Try.underlying3 t4
      obtain ⟨c5, y5, r5, _, t5⟩ := hf' 5 _ rfl
      obtain ⟨x5, rfl, b5⟩ := trod_int_field Try.underlying3 t5
      obtain ⟨c6, y6, r6, _, t6⟩ := hf' 6 _ rfl
      obtain ⟨x6, rfl, b6⟩ := trod_int_field Try.underlying3 t6
      obtain ⟨c7, y7, r7, _, t7⟩ := hf' 7 _ rfl
      obtain ⟨x7, rfl, b7⟩ := trod_int_field Try.underlying3 t7
      obtain ⟨c8, y8, r8, _, t8⟩ := hf' 8 _ rfl
      obtain ⟨x8, rfl, b8⟩ := trod_int_field Try.underlying3 t8
      refine ⟨⟨x0, x1, x2, x3, x4, x5, x6, x7, x8⟩, fun _ => ⟨fun j x hx => ?_, fun x hx => ?_⟩⟩
      · match j, hx with
        | 0, hx => cases hx; exact r0
        | 1, hx => cases hx; exact r1
        | 2, hx => cases hx; exact r2
        | 3, hx => cases hx; exact r3
        | 4, hx => cases hx; exact r4
        | 5, hx => cases hx; exact r5
        | 6, hx => cases hx; exact r6
        | 7, hx => cases hx; exact r7
        | 8, hx => cases hx; exact r8
        | j + 9, hx => simp [Ev.cells] at hx
      · simp only [Ev.cells, List.mem_cons, List.not_mem_nil, or_false] at hx
        rcases hx with rfl | rfl | rfl | rfl | rfl | rfl | rfl | rfl | rfl
        · exact ⟨x0, rfl, i64_of_wf b0⟩
        · exact ⟨x1, rfl, i64_of_wf b1⟩
        · exact ⟨x2, rfl, i64_of_wf b2⟩
        · exact ⟨x3, rfl, i64_of_wf b3⟩
        · exact ⟨x4, rfl, i64_of_wf b4⟩
        · exact ⟨x5, rfl, i64_of_wf b5⟩
        · exact ⟨x6, rfl, i64_of_wf b6⟩
        · exact ⟨x7, rfl, i64_of_wf b7⟩
        · exact ⟨x8, rfl, i64_of_wf b8⟩
    obtain ⟨f, hf2⟩ := Classical.skolem.1 hev
    refine ⟨(List.range len).map f, ⟨some A, cap, by simp, by simp; omega, by unfold maxLen at hcm; omega, fun hn => ?_⟩, fun e he x hx => ?_⟩
    · have hn' : 0 < len := by simpa using hn
      have h00 := (hf2 0 (by omega)).1 0 _ rfl
      have hsp := World.cell?_spot h00
      obtain ⟨b, o, sp⟩ := A
      simp [Addr.add] at hsp
      subst hsp
      refine ⟨b, o, rfl, fun i e hi' j x hx => ?_⟩
      simp only [List.getElem?_map] at hi'
      have hin : i < len := by
        rcases Nat.lt_or_ge i len with h1 | h1
        · exact h1
        · rw [List.getElem?_eq_none (by simpa using h1)] at hi'; cases hi'
      rw [List.getElem?_range hin] at hi'
      simp at hi'; subst hi'
      have := (hf2 i (by omega)).1 j x hx
      unfold Addr.add at this
      split at this
      · rename_i h0; rw [h0]; exact this
      · exact this
    · obtain ⟨i, hi1, rfl⟩ := List.mem_map.1 he
      exact (hf2 i (by have := List.mem_range.1 hi1; omega)).2 x hx
end Go.Proofs.Ytohliamalaifhaa
end
section
set_option linter.unusedSimpArgs false
set_option linter.unusedVariables false
namespace Go.Proofs.Ytohliamalaifhaa
open Go Go.RowKit

theorem Ev.row_cell {e : Ev} {j : Nat} {x : Value} (h : e.cells[j]? = some x) : e.row[j]? = some (.sc x) := by
  show (e.cells.map Dt.sc)[j]? = _
  rw [List.getElem?_map, h]; rfl
/-- events as data are events in the world -/
theorem RD.evs {S : Nat → Nat} {w : World} {l : List Ev} {v : Value} (h : RD S w (evsD l) v) : EvAt w v l := by
  unfold evsD at h
  generalize hr : l.map Ev.row = rows at h
  cases h with
  | emp A c hc =>
    cases l with
    | nil => exact ⟨A, c, rfl, Nat.zero_le _, by unfold maxLen at hc; omega, fun h => absurd h (by decide)⟩
    | cons e l => simp at hr
  | im rows sz b o cap f hc hm hsz hcell hd =>
    have hlen : l.length = rows.length := by rw [← hr]; simp
    refine ⟨_, cap, by rw [hlen], by omega, by unfold maxLen at hm; omega, fun hpos => ⟨b, o, rfl, fun i e hi j x hx => ?_⟩⟩
    have hil := (List.getElem?_eq_some_iff.1 hi).1
    have hrow : rows[i]? = some e.row := by rw [← hr, List.getElem?_map, hi]; rfl
    have h9 : 9 = sz := hsz _ (List.mem_of_getElem? hrow)
    have hj : j < 9 := (List.getElem?_eq_some_iff.1 hx).1
    have h1 := hd i _ j _ hrow (Ev.row_cell hx)
    have h2 := (hcell i j (by omega) (by omega)).1
    rw [(RD.sc_inv h1).1, ← h9] at h2
    exact h2
theorem flat_at' {α : Type} {cells : α → List Value} {sz : Nat} (hlen : ∀ e, (cells e).length = sz) (l : List α) (i : Nat) (e : α) (h : l[i]? = some e) (j : Nat) (x : Value) (hx : (cells e)[j]? = some x) : (l.flatMap cells)[i * sz + j]? = some x := by
  have hj : j < sz := by rw [← hlen e]; exact (List.getElem?_eq_some_iff.1 hx).1
  induction l generalizing i with
  | nil => cases h
  | cons a l ih =>
    rw [List.flatMap_cons]
    cases i with
    | zero =>
      simp at h; subst h
      rw [List.getElem?_append_left (by rw [hlen]; omega)]
      simpa using hx
    | succ i =>
      rw [List.getElem?_append_right (by rw [hlen, Nat.succ_mul]; omega), hlen, show (i + 1) * sz + j - sz = i * sz + j by rw [Nat.succ_mul]; omega]
      exact ih i (by simpa using h)
/-- a row of one's own reads as data -/
theorem rows_own {w : World} {B sz : Nat} {E : TypeId} {v : Value} {α : Type} (l : List α) (cells : α → List Value) (hsz : ∀ x, (cells x).length = sz) (hone : ∀ x u, u ∈ cells x → u.oneCell' = true) (h : w.ownsRow B E sz v l.length (l.flatMap cells)) (S : Nat → Nat) :
    ∃ S', RD S' w (.im (l.map fun x => (cells x).map Dt.sc)) v ∧ ∀ b, b < B → S' b = S b := by
  obtain ⟨h1, h2⟩ := h
  rcases h2 with ⟨rfl, h3⟩ | ⟨g, cap, cur, rfl, h3, h4, h5, h6, h7, h8⟩
  · have : l = [] := by cases l with
      | nil => rfl
      | cons a l => simp at h3
    subst this
    exact ⟨S, .emp _ _ (by unfold maxLen; omega), fun _ _ => rfl⟩
  · have key : ∀ i e, l[i]? = some e → ∀ j x, (cells e)[j]? = some x → w.cell? ⟨g, 0 + (i * sz + j), none⟩ = some x := fun i e hi j x hx => by
      rw [cell_of_row w g _ _ _ _ h4, Nat.zero_add]
      have hfl := flat_at' hsz l i e hi j x hx
      rw [← h8, List.getElem?_take] at hfl
      split at hfl
      · simpa using hfl
      · cases hfl
    refine ⟨fun b => if b = g then l.length * sz else S b, ?_, fun b hb => if_neg (by omega)⟩
    have hl : l.length = (l.map fun x => (cells x).map Dt.sc).length := by simp
    have hsl : Value.slice (some ⟨g, 0, none⟩) l.length cap = .slice (some ⟨g, 0, none⟩) (l.map fun x => (cells x).map Dt.sc).length cap := by rw [← hl]
    rw [hsl]
    refine RD.im _ sz g 0 cap (fun i j => (l.flatMap cells).getD (i * sz + j) undef) (by rw [← hl]; exact h5) h6 ?_ ?_ ?_
    · intro r hr
      obtain ⟨x, _, rfl⟩ := List.mem_map.1 hr
      simp [hsz]
    · intro i j hi hj
      rw [← hl] at hi
      have hil : l[i]? = some l[i] := List.getElem?_eq_getElem hi
      have hjl : (cells l[i])[j]? = some ((cells l[i])[j]'(by rw [hsz]; exact hj)) := List.getElem?_eq_getElem _
      have hfl := flat_at' hsz l i _ hil j _ hjl
      refine ⟨?_, ?_⟩
      · rw [key i _ hil j _ hjl]
        simp [List.getD, hfl]
      · simp only [if_true]
        have : (i + 1) * sz ≤ l.length * sz := Nat.mul_le_mul_right _ hi
        rw [Nat.succ_mul] at this
        omega
    · intro i r j x hr hx
      rw [List.getElem?_map, Option.map_eq_some_iff] at hr
      obtain ⟨e, he, rfl⟩ := hr
      rw [List.getElem?_map, Option.map_eq_some_iff] at hx
      obtain ⟨u, hu, rfl⟩ := hx
      have hfl := flat_at' hsz l i e he j u hu
      simp only [List.getD, hfl, Option.getD_some]
      exact .sc u (hone e u (List.mem_of_getElem? hu))

/-- events of an argument as data -/
theorem EvAt.rd {w : World} {v : Value} {l : List Ev} (h : EvAt w v l) {S : Nat → Nat} (hS : ∀ b i, (w.cell? ⟨b, i, none⟩).isSome = true → i < S b) : RD S w (evsD l) v := by
  obtain ⟨A, c, rfl, h2, h3, h4⟩ := h
  by_cases hl : 0 < l.length
  · obtain ⟨b, o, rfl, hc⟩ := h4 hl
    unfold evsD
    rw [show l.length = (l.map Ev.row).length by simp]
    have hcl : ∀ i j, i < l.length → j < 9 → ∃ e x, l[i]? = some e ∧ e.cells[j]? = some x ∧ (l.flatMap Ev.cells).getD (i * 9 + j) undef = x ∧ w.cell? ⟨b, o + (i * 9 + j), none⟩ = some x := fun i j hi hj => by
      have hil : l[i]? = some l[i] := List.getElem?_eq_getElem hi
      have hjl : l[i].cells[j]? = some (l[i].cells[j]'hj) := List.getElem?_eq_getElem _
      exact ⟨_, _, hil, hjl, by simp [List.getD, flat_at l i _ hil j _ hjl], hc i _ hil j _ hjl⟩
    refine RD.im _ 9 b o c (fun i j => (l.flatMap Ev.cells).getD (i * 9 + j) undef) (by simpa using h2) (by unfold maxLen; omega) ?_ ?_ ?_
    · intro r hr
      obtain ⟨x, _, rfl⟩ := List.mem_map.1 hr
      rfl
    · intro i j hi hj
      obtain ⟨e, x, _, _, h5, h6⟩ := hcl i j (by simpa using hi) hj
      rw [h5]
      exact ⟨h6, hS b _ (by rw [h6]; rfl)⟩
    · intro i r j x hr hx
      rw [List.getElem?_map, Option.map_eq_some_iff] at hr
      obtain ⟨e, he, rfl⟩ := hr
      have hj : j < 9 := (List.getElem?_eq_some_iff.1 hx).1
      obtain ⟨e', u, h7, h8, h5, h6⟩ := hcl i j (List.getElem?_eq_some_iff.1 he).1 hj
      rw [he] at h7; cases h7
      rw [h5]
      have := Ev.row_cell h8
      rw [hx] at this; cases this
      refine .sc u ?_
      have := List.mem_of_getElem? h8
      simp only [Ev.cells, List.mem_cons, List.not_mem_nil, or_false] at this
      rcases this with rfl | rfl | rfl | rfl | rfl | rfl | rfl | rfl | rfl <;> rfl
  · have : l = [] := by cases l with
      | nil => rfl
      | cons a l => simp at hl
    subst this
    exact .emp _ _ (by unfold maxLen; omega)

/-- as many cells of a block as there are -/
def World.cellsOf (w : World) (b : Nat) : Nat := match w.heap[b]? with
  | some (.cells arr _ _) => arr.size
  | _ => 0
theorem cellsOf_lt {w : World} (b i : Nat) (h : (w.cell? ⟨b, i, none⟩).isSome = true) : i < World.cellsOf w b := by
  unfold World.cellsOf
  unfold World.cell? at h
  cases hb : w.heap[b]? with
  | none => simp [hb] at h
  | some x =>
    cases x with
    | cells arr T fr => simp only [hb] at h; simpa using h
    | _ => simp [hb] at h

def intsD (l : List Int) : Dt := .im (l.map fun x => [dI x])
theorem RPs.nth {S : Nat → Nat} {w : World} {ps : List Pa} {vs : Array Value} (h : RPs S w ps vs) {i : Nat} {p : Pa} (hp : ps[i]? = some p) : ∃ u, vs[i]? = some u ∧ RP S w p u := by
  have hi : i < vs.size := by rw [← h.1]; exact (List.getElem?_eq_some_iff.1 hp).1
  exact ⟨vs[i], Array.getElem?_eq_getElem hi, h.2 i p _ hp (Array.getElem?_eq_getElem hi)⟩
theorem RPs.one {S : Nat → Nat} {w : World} {p : Pa} {vs : Array Value} (h : RPs S w [p] vs) : ∃ u, vs = #[u] ∧ RP S w p u := by
  obtain ⟨u, h1, h2⟩ := h.nth (i := 0) rfl
  refine ⟨u, ?_, h2⟩
  have h3 := h.1
  apply Array.ext_getElem?
  intro j
  match j with
  | 0 => simpa using h1
  | j + 1 => rw [Array.getElem?_eq_none (by simp at h3; omega), Array.getElem?_eq_none (by simp)]
theorem RPs.two {S : Nat → Nat} {w : World} {p q : Pa} {vs : Array Value} (h : RPs S w [p, q] vs) : ∃ u v, vs = #[u, v] ∧ RP S w p u ∧ RP S w q v := by
  obtain ⟨u, h1, h2⟩ := h.nth (i := 0) rfl
  obtain ⟨v, h3, h4⟩ := h.nth (i := 1) rfl
  refine ⟨u, v, ?_, h2, h4⟩
  have h5 := h.1
  apply Array.ext_getElem?
  intro j
  match j with
  | 0 => simpa using h1
  | 1 => simpa using h3
  | j + 2 => rw [Array.getElem?_eq_none (by simp at h5; omega), Array.getElem?_eq_none (by simp)]
theorem RPs.three {S : Nat → Nat} {w : World} {p q r : Pa} {vs : Array Value} (h : RPs S w [p, q, r] vs) : ∃ u v x, vs = #[u, v, x] ∧ RP S w p u ∧ RP S w q v ∧ RP S w r x := by
  obtain ⟨u, h1, h2⟩ := h.nth (i := 0) rfl
  obtain ⟨v, h3, h4⟩ := h.nth (i := 1) rfl
  obtain ⟨x, h6, h7⟩ := h.nth (i := 2) rfl
  refine ⟨u, v, x, ?_, h2, h4, h7⟩
  have h5 := h.1
  apply Array.ext_getElem?
  intro j
  match j with
  | 0 => simpa using h1
  | 1 => simpa using h3
  | 2 => simpa using h6
  | j + 3 => rw [Array.getElem?_eq_none (by simp at h5; omega), Array.getElem?_eq_none (by simp)]
theorem RPs.nil {S : Nat → Nat} {w : World} {vs : Array Value} (h : RPs S w [] vs) : vs = #[] := by
  have h3 := h.1
  apply Array.ext_getElem?
  intro j
  rw [Array.getElem?_eq_none (by simp at h3; omega), Array.getElem?_eq_none (by simp)]
theorem RPs.mk1 {S : Nat → Nat} {w : World} {p : Pa} {u : Value} (h : RP S w p u) : RPs S w [p] #[u] := ⟨rfl, fun i q v h1 h2 => by
  match i with
  | 0 => cases h1; simp at h2; subst h2; exact h
  | i + 1 => simp at h1⟩
theorem RPs.mk2 {S : Nat → Nat} {w : World} {p q : Pa} {u v : Value} (h : RP S w p u) (k : RP S w q v) : RPs S w [p, q] #[u, v] := ⟨rfl, fun i r x h1 h2 => by
  match i with
  | 0 => cases h1; simp at h2; subst h2; exact h
  | 1 => cases h1; simp at h2; subst h2; exact k
  | i + 2 => simp at h1⟩
theorem RPs.mk3 {S : Nat → Nat} {w : World} {p q r : Pa} {u v x : Value} (h : RP S w p u) (k : RP S w q v) (m : RP S w r x) : RPs S w [p, q, r] #[u, v, x] := ⟨rfl, fun i o y h1 h2 => by
  match i with
  | 0 => cases h1; simp at h2; subst h2; exact h
  | 1 => cases h1; simp at h2; subst h2; exact k
  | 2 => cases h1; simp at h2; subst h2; exact m
  | i + 3 => simp at h1⟩
theorem RP.int {S : Nat → Nat} {w : World} {n : Int} {u : Value} (h : RP S w (pI n) u) : u = .int .i64 n := (RD.sc_inv h).1
theorem RP.mkInt {S : Nat → Nat} {w : World} (n : Int) : RP S w (pI n) (.int .i64 n) := .sc _ rfl
theorem RP.mkBool {S : Nat → Nat} {w : World} (n : Bool) : RP S w (pB n) (.bool n) := .sc _ rfl
theorem RP.bool {S : Nat → Nat} {w : World} {n : Bool} {u : Value} (h : RP S w (pB n) u) : u = .bool n := (RD.sc_inv h).1
/-- a struct of numbers -/
theorem RP.flat {S : Nat → Nat} {w : World} {vs : List Value} {u : Value} (h : RP S w (.agg (vs.map Dt.sc)) u) : u = .agg vs.toArray := by
  obtain ⟨arr, rfl, h2, h3⟩ := h
  congr 1
  apply Array.ext_getElem?
  intro j
  simp only [List.getElem?_toArray]
  rw [List.length_map] at h2
  cases hj : vs[j]? with
  | none => rw [Array.getElem?_eq_none]; rw [List.getElem?_eq_none_iff] at hj; omega
  | some x =>
    have hlt : j < arr.size := by have := (List.getElem?_eq_some_iff.1 hj).1; omega
    rw [Array.getElem?_eq_getElem hlt, (RD.sc_inv (h3 j (.sc x) arr[j] (by rw [List.getElem?_map, hj]; rfl) (Array.getElem?_eq_getElem hlt))).1]
theorem RP.mkFlat {S : Nat → Nat} {w : World} {vs : List Value} (h : ∀ u, u ∈ vs → u.oneCell' = true) : RP S w (.agg (vs.map Dt.sc)) (.agg vs.toArray) := by
  refine ⟨_, rfl, by simp, fun i x u h1 h2 => ?_⟩
  rw [List.getElem?_map, Option.map_eq_some_iff] at h1
  obtain ⟨y, hy, rfl⟩ := h1
  simp [hy] at h2
  subst h2
  exact .sc _ (h y (List.mem_of_getElem? hy))
end Go.Proofs.Ytohliamalaifhaa
end
section
set_option linter.unusedSimpArgs false
set_option linter.unusedVariables false
namespace Go.Proofs.Ytohliamalaifhaa
open Go Go.RowKit
set_option maxRecDepth 100000
set_option maxHeartbeats 4000000

theorem s_tValid : Spec Try.prog 17 R_rvalid := by
  rintro ps rs ⟨l, rfl, hl, rfl⟩ S w vals _ hv
  obtain ⟨u, rfl, h1⟩ := hv.one
  refine (valid_any w u l (RD.evs h1) hl).mono ?_
  rintro r w' ⟨rfl, h4⟩
  exact ⟨_, S, rfl, RP.mkBool _, h4, fun _ _ => rfl⟩
theorem steps_valid {s t : TS} {l : List Ev} (h : s.steps l = some t) : ∀ e, e ∈ l → e.valid = true := by
  induction l generalizing s with
  | nil => intro e he; simp at he
  | cons a l ih =>
    intro e he
    simp only [TS.steps, Option.bind_eq_some_iff] at h
    obtain ⟨u, hu, hs⟩ := h
    rcases List.mem_cons.1 he with rfl | he
    · unfold TS.add at hu
      split at hu
      · rename_i ha
        unfold TS.admits at ha
        simp only [Bool.and_eq_true] at ha
        exact ha.1.1
      · cases hu
    · exact ih hs e he
theorem chk_valid {l : List Ev} (h : chk l = l.length) : ∀ e, e ∈ l → e.valid = true := by
  obtain ⟨t, ht⟩ := TS.chk_steps TS.new l (Nat.le_refl _)
  unfold chk at h
  rw [h, List.take_length] at ht
  exact steps_valid ht
def stOf (l : List Ev) : List Ck := if chk l = l.length then stampsL l else []
def errOf (l : List Ev) : Int := if chk l = l.length then 0 else 1
def R_Stamps (ps rs : List Pa) : Prop := ∃ l : List Ev, ps = [evsPa l] ∧ l.length ≤ 1000000 ∧ rs = [cksPa (stOf l), pI (errOf l)]
def env_Stamps : Env := e1 17 R_rvalid (e1 18 R_stamps e0)
theorem s_Stamps : Spec Try.prog 10 R_Stamps := by
  refine sp10 (show EnvOK Try.prog env_Stamps from EnvOK.e1 s_tValid (EnvOK.e1 s_stamps EnvOK.e0)) ?_
  rintro ps rs ⟨l, rfl, hlen, rfl⟩
  refine ⟨by simp, ?_⟩
  unfold pc10
  refine pwp_start ?_
  simp only [↓evP, evB, stB, reduceIte, reduceCtorEq, Nat.reduceEqDiff, Nat.reduceAdd, Nat.reduceMul, Nat.reduceLeDiff, Nat.reduceLT, Nat.reduceSub, Nat.reduceBEq, evsPa, evsD]
  refine callOps_intro [pB (decide (chk l = l.length))] ⟨l, rfl, hlen, rfl⟩ ?_
  unfold stOf errOf
  by_cases h : chk l = l.length
  · rw [if_pos h, if_pos h, decide_eq_true h]
    simp only [↓evP, evB, stB, reduceIte, reduceCtorEq, Nat.reduceEqDiff, Nat.reduceAdd, Nat.reduceMul, Nat.reduceLeDiff, Nat.reduceLT, Nat.reduceSub, Nat.reduceBEq]
    refine callOps_intro [cksPa (stampsL l)] ⟨l, rfl, ⟨hlen, chk_valid h⟩, rfl⟩ ?_
    simp only [↓evP, evB, stB, reduceIte, reduceCtorEq, Nat.reduceEqDiff, Nat.reduceAdd, Nat.reduceMul, Nat.reduceLeDiff, Nat.reduceLT, Nat.reduceSub, Nat.reduceBEq, cksPa, pr10]
  · rw [if_neg h, if_neg h, decide_eq_false h]
    simp only [↓evP, evB, stB, reduceIte, reduceCtorEq, Nat.reduceEqDiff, Nat.reduceAdd, Nat.reduceMul, Nat.reduceLeDiff, Nat.reduceLT, Nat.reduceSub, Nat.reduceBEq, cksPa, pr10]
end Go.Proofs.Ytohliamalaifhaa
end
section
set_option linter.unusedSimpArgs false
set_option linter.unusedVariables false
namespace Go.Proofs.Ytohliamalaifhaa
open Go

theorem getD_join {a b : Ck} (ha : a.length = 8) (hb : b.length = 8) {k : Nat} (hk : k < 8) : (joinC a b).getD k 0 = if b.getD k 0 > a.getD k 0 then b.getD k 0 else a.getD k 0 := by
  obtain ⟨x, hx⟩ : ∃ x, a[k]? = some x := ⟨_, List.getElem?_eq_getElem (by omega)⟩
  obtain ⟨y, hy⟩ : ∃ y, b[k]? = some y := ⟨_, List.getElem?_eq_getElem (by omega)⟩
  simp only [List.getD_eq_getElem?_getD, joinC, List.getElem?_zipWith, hx, hy, Option.getD_some]
def SSt.dg (s : SSt) (k : Nat) : Int := (s.cur.getD k ckZ).getD k 0
structure Cnt (s : SSt) : Prop where
  cc : ∀ c, c ∈ s.cur → ∀ k, k < 8 → c.getD k 0 ≤ s.dg k
  bc : ∀ c, c ∈ s.birth → ∀ k, k < 8 → c.getD k 0 ≤ s.dg k
  oc : ∀ c, c ∈ s.out → ∀ k, k < 8 → c.getD k 0 ≤ s.dg k
theorem ckZ_get (k : Nat) : (ckZ.getD k 0) = 0 := by
  unfold ckZ
  rw [List.getD_eq_getElem?_getD, List.getElem?_replicate]
  split <;> rfl
theorem COk.get {n : Int} {c : Ck} (h : COk n c) (k : Nat) : 0 ≤ c.getD k 0 := by
  rw [List.getD_eq_getElem?_getD]
  cases hk : c[k]? with
  | none => exact Int.le_refl _
  | some x => exact (h.2 x (List.mem_of_getElem? hk)).1
def preC (l : List Ev) (s : SSt) (e : Ev) (j : Nat) : Ck :=
  if atomE e (inTo l s.out e (startC s e, -1) j).2 = true then joinC (inTo l s.out e (startC s e, -1) j).1 (s.out.getD (inTo l s.out e (startC s e, -1) j).2.toNat ckZ) else (inTo l s.out e (startC s e, -1) j).1
theorem clockAt_eq (l : List Ev) (s : SSt) (e : Ev) (j : Nat) : clockAt l s e j = (preC l s e j).set e.g.toNat ((preC l s e j).getD e.g.toNat 0 + 1) := rfl
theorem mem_getD {l : List Ck} {i : Nat} (h : i < l.length) : l.getD i ckZ ∈ l := by
  rw [List.getD_eq_getElem?_getD, List.getElem?_eq_getElem h]; exact List.getElem_mem h
theorem getD_none {l : List Ck} {i : Nat} (h : l.length ≤ i) : l.getD i ckZ = ckZ := by rw [List.getD_eq_getElem?_getD, List.getElem?_eq_none h]; rfl
section
variable {l : List Ev} {s : SSt} {e : Ev} {j : Nat}
theorem Cnt.start (h : Cnt s) (hok : SOk s j) (hg : e.g.toNat < 8) {k : Nat} (hk : k < 8) : (s.cur.getD e.g.toNat ckZ).getD k 0 ≤ (startC s e).getD k 0 ∧ (startC s e).getD k 0 ≤ s.dg k := by
  have hm := mem_getD (l := s.cur) (i := e.g.toNat) (by rw [hok.cl]; exact hg)
  have hb := mem_getD (l := s.birth) (i := e.g.toNat) (by rw [hok.bl]; exact hg)
  unfold startC
  split
  · rename_i hz
    rw [hz, ckZ_get]
    exact ⟨(hok.bc _ hb).get k, h.bc _ hb k hk⟩
  · exact ⟨Int.le_refl _, h.cc _ hm k hk⟩
theorem out_le (h : Cnt s) (i : Nat) (hd : ∀ k, k < 8 → 0 ≤ s.dg k) {k : Nat} (hk : k < 8) : (s.out.getD i ckZ).getD k 0 ≤ s.dg k := by
  rcases Nat.lt_or_ge i s.out.length with hi | hi
  · exact h.oc _ (mem_getD hi) k hk
  · rw [getD_none hi, ckZ_get]; exact hd k hk
theorem out_len (hok : SOk s j) (i : Nat) : (s.out.getD i ckZ).length = 8 := by
  rcases Nat.lt_or_ge i s.out.length with hi | hi
  · exact (hok.oc _ (mem_getD hi)).1
  · rw [List.getD_eq_getElem?_getD, List.getElem?_eq_none hi]; rfl
theorem dg_nonneg (hok : SOk s j) (k : Nat) : 0 ≤ s.dg k := by
  unfold SSt.dg
  rcases Nat.lt_or_ge k s.cur.length with hi | hi
  · exact (hok.cc _ (mem_getD hi)).get k
  · rw [getD_none hi, ckZ_get]; exact Int.le_refl _
theorem Cnt.inTo (h : Cnt s) (hok : SOk s j) (hg : e.g.toNat < 8) (i : Nat) {k : Nat} (hk : k < 8) : (startC s e).getD k 0 ≤ (Go.Proofs.Ytohliamalaifhaa.inTo l s.out e (startC s e, -1) i).1.getD k 0 ∧ (Go.Proofs.Ytohliamalaifhaa.inTo l s.out e (startC s e, -1) i).1.getD k 0 ≤ s.dg k := by
  induction i with
  | zero => exact ⟨Int.le_refl _, (h.start hok hg hk).2⟩
  | succ i ih =>
    simp only [Go.Proofs.Ytohliamalaifhaa.inTo, inStep]
    split
    · rw [getD_join (hok.inTo l e i).1.1 (out_len hok i) hk]
      have := out_le h i (fun k _ => dg_nonneg hok k) hk
      split <;> omega
    · exact ih
theorem Cnt.pre (h : Cnt s) (hok : SOk s j) (hg : e.g.toNat < 8) {k : Nat} (hk : k < 8) : (startC s e).getD k 0 ≤ (preC l s e j).getD k 0 ∧ (preC l s e j).getD k 0 ≤ s.dg k := by
  have h1 := h.inTo (l := l) hok hg j hk
  unfold preC
  split
  · rw [getD_join (hok.inTo l e j).1.1 (out_len hok _) hk]
    have := out_le h (Go.Proofs.Ytohliamalaifhaa.inTo l s.out e (startC s e, -1) j).2.toNat (fun k _ => dg_nonneg hok k) hk
    split <;> omega
  · exact h1
theorem preC_len (hok : SOk s j) : (preC l s e j).length = 8 := (hok.pre l e).1
theorem Cnt.own (h : Cnt s) (hok : SOk s j) (hg : e.g.toNat < 8) : (preC l s e j).getD e.g.toNat 0 = s.dg e.g.toNat := by
  have h1 := h.pre (l := l) hok hg hg
  have h2 := h.start hok hg hg (e := e)
  have h3 : (s.cur.getD e.g.toNat ckZ).getD e.g.toNat 0 = s.dg e.g.toNat := rfl
  omega
theorem set_get {c : Ck} {i k : Nat} {x : Int} (hi : i < c.length) : (c.set i x).getD k 0 = if k = i then x else c.getD k 0 := by
  rw [List.getD_eq_getElem?_getD, List.getD_eq_getElem?_getD, List.getElem?_set]
  by_cases h : i = k
  · subst h; rw [if_pos rfl, if_pos rfl, if_pos hi]; rfl
  · rw [if_neg h, if_neg (Ne.symm h)]
/-- the law of own events -/
theorem Cnt.clock (h : Cnt s) (hok : SOk s j) (hg : e.g.toNat < 8) : (clockAt l s e j).getD e.g.toNat 0 = s.dg e.g.toNat + 1 ∧ ∀ k, k < 8 → (s.cur.getD e.g.toNat ckZ).getD k 0 ≤ (clockAt l s e j).getD k 0 ∧ (k ≠ e.g.toNat → (clockAt l s e j).getD k 0 ≤ s.dg k) := by
  have hl := preC_len (l := l) (e := e) hok
  rw [clockAt_eq]
  refine ⟨by rw [set_get (by omega), if_pos rfl, h.own hok hg], fun k hk => ?_⟩
  rw [set_get (by omega)]
  have h1 := h.pre (l := l) hok hg hk
  have h2 := h.start hok hg hk (e := e)
  by_cases hkg : k = e.g.toNat
  · rw [if_pos hkg]
    have := h.own (l := l) hok hg
    subst hkg
    exact ⟨by omega, fun hn => absurd rfl hn⟩
  · rw [if_neg hkg]
    exact ⟨by omega, fun _ => h1.2⟩
theorem Cnt.step (h : Cnt s) (hok : SOk s j) (hg : e.g.toNat < 8) : Cnt (s.step l e j) := by
  have hcl := hok.cl
  obtain ⟨hc1, hc2⟩ := h.clock (l := l) hok hg
  have hdg : ∀ k, k < 8 → (s.step l e j).dg k = if k = e.g.toNat then s.dg e.g.toNat + 1 else s.dg k := fun k hk => by
    show ((s.cur.set e.g.toNat (clockAt l s e j)).getD k ckZ).getD k 0 = _
    rw [List.getD_eq_getElem?_getD (l := s.cur.set _ _), List.getElem?_set]
    by_cases hkg : e.g.toNat = k
    · subst hkg
      rw [if_pos rfl, if_pos (by omega), if_pos rfl]; exact hc1
    · rw [if_neg hkg, if_neg (Ne.symm hkg)]
      show (s.cur[k]?.getD ckZ).getD k 0 = (s.cur.getD k ckZ).getD k 0
      rw [List.getD_eq_getElem?_getD (l := s.cur)]
  have up : ∀ k, k < 8 → s.dg k ≤ (s.step l e j).dg k := fun k hk => by
    rw [hdg k hk]; split
    · rename_i h; rw [h]; omega
    · exact Int.le_refl _
  have hnew : ∀ k, k < 8 → (clockAt l s e j).getD k 0 ≤ (s.step l e j).dg k := fun k hk => by
    rw [hdg k hk]; split
    · rename_i h; rw [h, hc1]; exact Int.le_refl _
    · rename_i h; exact (hc2 k hk).2 h
  refine ⟨fun c hm k hk => ?_, fun c hm k hk => ?_, fun c hm k hk => ?_⟩
  · rcases List.mem_or_eq_of_mem_set hm with hm | rfl
    · exact Int.le_trans (h.cc c hm k hk) (up k hk)
    · exact hnew k hk
  · simp only [SSt.step] at hm
    split at hm
    · rcases List.mem_or_eq_of_mem_set hm with hm | rfl
      · exact Int.le_trans (h.bc c hm k hk) (up k hk)
      · exact hnew k hk
    · exact Int.le_trans (h.bc c hm k hk) (up k hk)
  · simp only [SSt.step, List.mem_append, List.mem_singleton] at hm
    rcases hm with hm | rfl
    · exact Int.le_trans (h.oc c hm k hk) (up k hk)
    · exact hnew k hk
/-- the law of events that acquire -/
def acqB (k : Int) : Bool := k == 3 || k == 5 || k == 6 || k == 8 || k == 11 || k == 13 || k == 16 || k == 18 || k == 20
theorem sync_acq {a b : Ev} (h : acqB b.kind = false) : syncB a b = false := by
  unfold acqB at h
  simp only [Bool.or_eq_false_iff, beq_eq_false_iff_ne] at h
  unfold syncB
  split
  · rfl
  · split
    · rfl
    · rw [if_neg (by omega), if_neg (by omega), if_neg (by omega), if_neg (by omega), if_neg (by omega), if_neg (by omega), if_neg (by omega)]
theorem pre_acq (h : acqB e.kind = false) : preC l s e j = startC s e := by
  have h1 : ∀ i, (inTo l s.out e (startC s e, -1) i).1 = startC s e := fun i => by
    induction i with
    | zero => rfl
    | succ i ih => simp only [inTo, inStep]; rw [if_neg (by rw [sync_acq h]; decide), ih]
  unfold preC
  rw [if_neg, h1]
  unfold atomE
  unfold acqB at h
  simp only [Bool.or_eq_false_iff, beq_eq_false_iff_ne] at h
  simp only [Bool.and_eq_true, Bool.or_eq_true, beq_iff_eq]
  omega
theorem clock_acq (h : acqB e.kind = false) (hok : SOk s j) (hg : e.g.toNat < 8) (h0 : s.dg e.g.toNat ≠ 0) {k : Nat} (hk : k ≠ e.g.toNat) : (clockAt l s e j).getD k 0 = (s.cur.getD e.g.toNat ckZ).getD k 0 := by
  have hl := preC_len (l := l) (e := e) hok
  rw [clockAt_eq, set_get (by omega), if_neg hk, pre_acq h]
  unfold startC
  rw [if_neg]
  intro hz
  unfold SSt.dg at h0
  rw [hz, ckZ_get] at h0
  exact h0 rfl
end
theorem runTo_cnt {l : List Ev} (hv : ∀ e, e ∈ l → 0 ≤ e.g ∧ e.g < 8) {j : Nat} (hj : j ≤ l.length) : Cnt (runTo l j) := by
  induction j with
  | zero =>
    have hz : ∀ c, c ∈ List.replicate 8 ckZ → ∀ k, k < 8 → c.getD k 0 ≤ (runTo l 0).dg k := fun c hc k hk => by
      simp at hc; subst hc
      rw [ckZ_get]; exact dg_nonneg (runTo_ok l 0) k
    exact ⟨hz, hz, fun c hc => by simp [runTo] at hc⟩
  | succ j ih =>
    have he := List.getElem?_eq_getElem (show j < l.length by omega)
    have hg := hv (l.getD j default) (by rw [List.getD_eq_getElem?_getD, he]; exact List.getElem_mem _)
    exact (ih (by omega)).step (runTo_ok l j) (by omega)
theorem out_prefix (l : List Ev) {i j : Nat} (h : i ≤ j) : (runTo l j).out.take i = (runTo l i).out := by
  induction j with
  | zero =>
    have : i = 0 := by omega
    subst this; rfl
  | succ j ih =>
    rcases Nat.lt_or_eq_of_le h with h | h
    · show ((runTo l j).out ++ [_]).take i = _
      rw [List.take_append_of_le_length (by rw [(runTo_ok l j).ol]; omega)]
      exact ih (by omega)
    · subst h
      rw [List.take_of_length_le (by rw [(runTo_ok l (j + 1)).ol]; exact Nat.le_refl _)]
theorem stamps_at {l : List Ev} {i : Nat} {e : Ev} (he : l[i]? = some e) : (stampsL l)[i]? = some (clockAt l (runTo l i) e i) := by
  have hi := (List.getElem?_eq_some_iff.1 he).1
  have hed : l.getD i default = e := by rw [List.getD_eq_getElem?_getD, he]; rfl
  have h1 := out_prefix l (i := i + 1) (j := l.length) hi
  have h2 : (runTo l (i + 1)).out[i]? = some (clockAt l (runTo l i) e i) := by
    show ((runTo l i).out ++ [clockAt l (runTo l i) (l.getD i default) i])[i]? = _
    rw [hed, List.getElem?_append_right (by rw [(runTo_ok l i).ol]; exact Nat.le_refl _), (runTo_ok l i).ol, Nat.sub_self]; rfl
  rw [← h1, List.getElem?_take, if_pos (by omega)] at h2
  exact h2
theorem runTo_take (l : List Ev) {n j : Nat} (hj : j ≤ n) : runTo (l.take n) j = runTo l j := by
  induction j with
  | zero => rfl
  | succ j ih =>
    have hg : ∀ i, i < n → (l.take n).getD i default = l.getD i default := fun i hi => by
      rw [List.getD_eq_getElem?_getD, List.getD_eq_getElem?_getD, List.getElem?_take, if_pos hi]
    have hin : ∀ out e p i, i ≤ n → inTo (l.take n) out e p i = inTo l out e p i := fun out e p i => by
      induction i with
      | zero => intro _; rfl
      | succ i ihi => intro hi; simp only [inTo]; rw [hg i (by omega), ihi (by omega)]
    show (runTo (l.take n) j).step (l.take n) ((l.take n).getD j default) j = _
    rw [ih (by omega), hg j (by omega)]
    show SSt.step (l.take n) (runTo l j) (l.getD j default) j = SSt.step l (runTo l j) (l.getD j default) j
    have : clockAt (l.take n) (runTo l j) (l.getD j default) j = clockAt l (runTo l j) (l.getD j default) j := by
      unfold clockAt; rw [hin _ _ _ _ (by omega)]
    unfold SSt.step
    rw [this]
theorem stampsL_take (l : List Ev) {n : Nat} (hn : n ≤ l.length) : stampsL (l.take n) = (stampsL l).take n := by
  unfold stampsL
  rw [out_prefix l hn, List.length_take, Nat.min_eq_left hn, runTo_take l (Nat.le_refl n)]
end Go.Proofs.Ytohliamalaifhaa
end
section
set_option linter.unusedSimpArgs false
set_option linter.unusedVariables false
namespace Go.Proofs.Ytohliamalaifhaa
open Go Go.RowKit
set_option maxRecDepth 100000
set_option maxHeartbeats 4000000

def evA : List Ev := [⟨0, 14, 0, 0, 1, 0, 0, 0, 0⟩, ⟨0, 2, 0, 0, 0, 0, 0, 0, 0⟩, ⟨1, 2, 0, 0, 0, 0, 0, 0, 0⟩]
theorem chkA : chk evA = 3 := by decide
theorem stA : stampsL evA = [[1, 0, 0, 0, 0, 0, 0, 0], [2, 0, 0, 0, 0, 0, 0, 0], [1, 1, 0, 0, 0, 0, 0, 0]] := by decide
def R_awake (ps rs : List Pa) : Prop := ps = [] ∧ rs = [pB true]
def env_awake : Env := e1 10 R_Stamps e0
theorem s_awake : Spec Try.prog 9 R_awake := by
  refine sp9 (show EnvOK Try.prog env_awake from EnvOK.e1 s_Stamps EnvOK.e0) ?_
  rintro ps rs ⟨rfl, rfl⟩
  refine ⟨by simp, ?_⟩
  unfold pc9
  refine pwp_start ?_
  simp only [↓evP, evB, stB, reduceIte, reduceCtorEq, Nat.reduceEqDiff, Nat.reduceAdd, Nat.reduceMul, Nat.reduceLeDiff, Nat.reduceLT, Nat.reduceSub, Nat.reduceBEq]
  have h1 : stOf evA = [[1, 0, 0, 0, 0, 0, 0, 0], [2, 0, 0, 0, 0, 0, 0, 0], [1, 1, 0, 0, 0, 0, 0, 0]] := by unfold stOf; rw [chkA, if_pos (by decide), stA]
  have h2 : errOf evA = 0 := by unfold errOf; rw [chkA, if_pos (by decide)]
  refine callOps_intro [cksPa (stOf evA), pI (errOf evA)] ⟨evA, rfl, by decide, rfl⟩ ?_
  rw [h1, h2]
  simp only [↓evP, evB, stB, reduceIte, reduceCtorEq, Nat.reduceEqDiff, Nat.reduceAdd, Nat.reduceMul, Nat.reduceLeDiff, Nat.reduceLT, Nat.reduceSub, Nat.reduceBEq, cksPa, ckRow, beq_self_eq_true, Int.toNat_zero, Int.le_refl, Int.reduceLE, Int.reduceLT, Int.reduceToNat, (by decide : (((3 : Nat) : Int) == 3) = true), pr9]
theorem cks_rows (l : List Ck) (h : ∀ c, c ∈ l → c.length = 8) : (∀ r, r ∈ l.map ckRow → r.length = 8) = True := by
  apply propext
  refine ⟨fun _ => trivial, fun _ r hr => ?_⟩
  obtain ⟨c, hc, rfl⟩ := List.mem_map.1 hr
  unfold ckRow; rw [List.length_map]; exact h c hc
def R_same35 (ps rs : List Pa) : Prop := ∃ l : List Ck, ps = [cksPa l, cksPa l] ∧ (l.length ≤ 1000000 ∧ ∀ c, c ∈ l → c.length = 8) ∧ rs = [pB true]
theorem s_same35 : Spec Try.prog 12 R_same35 := by
  refine sp12 EnvOK.e0 ?_
  rintro ps rs ⟨l, rfl, ⟨hlen, h8⟩, rfl⟩
  refine ⟨by simp, ?_⟩
  unfold pc12
  refine pwp_start ?_
  simp only [↓evP, evB, stB, reduceIte, reduceCtorEq, Nat.reduceEqDiff, Nat.reduceAdd, Nat.reduceMul, Nat.reduceLeDiff, Nat.reduceLT, Nat.reduceSub, Nat.reduceBEq, cksPa, bne_self_eq_false, reduceCtorEq]
  refine pwp_loopW ms12_0 os12_0 (fun m st => ∃ k : Nat, m = l.length - k ∧ k ≤ l.length ∧ st.sl 5 = aI k) l.length ?_ ?_
  · exact ⟨0, rfl, Nat.zero_le _, by simp only [stB, reduceIte, reduceCtorEq, Nat.reduceEqDiff, Nat.reduceAdd, Nat.reduceMul, Nat.reduceLeDiff, Nat.reduceLT, Nat.reduceSub, Nat.reduceBEq]; rfl⟩
  · rintro m j ⟨k, rfl, hk, h5⟩
    simp only [stB, reduceIte, reduceCtorEq, Nat.reduceEqDiff, Nat.reduceAdd, Nat.reduceMul, Nat.reduceLeDiff, Nat.reduceLT, Nat.reduceSub, Nat.reduceBEq] at h5
    rcases Nat.lt_or_ge k l.length with hlt | hge
    · obtain ⟨c, hc⟩ : ∃ c, l[k]? = some c := ⟨_, List.getElem?_eq_getElem hlt⟩
      have hcl := h8 c (List.mem_of_getElem? hc)
      have e1 : (ckRow c).length = 8 := by unfold ckRow; rw [List.length_map, hcl]
      have e2 : (ckCells c).length = 8 := by rw [ckCells_length, hcl]
      have e3 : 8 ≤ (ckCells c).length := by omega
      have e4 : (ckCells c).take 8 = ckCells c := List.take_of_length_le (by omega)
      have e5 : eqCls [false, false, false, false, false, false, false, false] (ckCells c) (ckCells c) = some true := by
        have := eqCls_ck (a := c) (b := c) rfl
        rw [hcl, decide_eq_true rfl] at this
        exact this
      have hlt' : (k : Int) < (l.length : Int) := by omega
      simp only [↓evP, evB, stB, reduceIte, reduceCtorEq, Nat.reduceEqDiff, Nat.reduceAdd, Nat.reduceMul, Nat.reduceLeDiff, Nat.reduceLT, Nat.reduceSub, Nat.reduceBEq, h5, hc, hlt', e1, e2, e3, e4, e5, ckRow_cells]
      refine ⟨(by unfold Drw; kernel_rfl), ?_⟩
      exact ⟨_, by omega, (by repeat' (first | assumption | exact within_over.mpr trivial | exact Within.refl _ _ _ | (refine within_ap ?_ rfl rfl) | (refine within_ap0 ?_ rfl))), k + 1, rfl, by omega, by simp only [stB, reduceIte, reduceCtorEq, Nat.reduceEqDiff, Nat.reduceAdd, Nat.reduceMul, Nat.reduceLeDiff, Nat.reduceLT, Nat.reduceSub, Nat.reduceBEq, h5]; rw [wrN (by omega)]⟩
    · simp only [↓evP, evB, stB, reduceIte, reduceCtorEq, Nat.reduceEqDiff, Nat.reduceAdd, Nat.reduceMul, Nat.reduceLeDiff, Nat.reduceLT, Nat.reduceSub, Nat.reduceBEq, h5, pr12]
      exact fun h => absurd h (by omega)

theorem stOf_len {l : List Ev} (h : chk l = l.length) : (stOf l).length = l.length := by unfold stOf; rw [if_pos h]; exact stampsL_length l
theorem stOf_8 {l : List Ev} : ∀ c, c ∈ stOf l → c.length = 8 := by
  unfold stOf
  split
  · exact fun c hc => (stampsL_ok l c hc).1
  · exact fun c hc => by simp at hc
def R_prefix35 (ps rs : List Pa) : Prop := ∃ (l : List Ev) (n : Int), ps = [evsPa l, pI n] ∧ rs = [pB true]
def env_prefix35 : Env := e1 9 R_awake (e1 13 R_rvalid (e1 10 R_Stamps (e1 12 R_same35 e0)))
theorem s_prefix35 : Spec Try.prog 6 R_prefix35 := by
  refine sp6 (show EnvOK Try.prog env_prefix35 from EnvOK.e1 s_awake (EnvOK.e1 s_rvalid (EnvOK.e1 s_Stamps (EnvOK.e1 s_same35 EnvOK.e0)))) ?_
  rintro ps rs ⟨l, n, rfl, rfl⟩
  refine ⟨by simp, ?_⟩
  unfold pc6
  refine pwp_start ?_
  simp only [↓evP, evB, stB, reduceIte, reduceCtorEq, Nat.reduceEqDiff, Nat.reduceAdd, Nat.reduceMul, Nat.reduceLeDiff, Nat.reduceLT, Nat.reduceSub, Nat.reduceBEq, evsPa, evsD]
  refine callOps_intro [pB true] ⟨rfl, rfl⟩ ?_
  by_cases q1 : (l.length : Int) > 60
  · simp only [↓evP, evB, stB, reduceIte, reduceCtorEq, Nat.reduceEqDiff, Nat.reduceAdd, Nat.reduceMul, Nat.reduceLeDiff, Nat.reduceLT, Nat.reduceSub, Nat.reduceBEq, q1, decide_true, decide_false, pr6]
  by_cases q2 : n < 0
  · simp only [↓evP, evB, stB, reduceIte, reduceCtorEq, Nat.reduceEqDiff, Nat.reduceAdd, Nat.reduceMul, Nat.reduceLeDiff, Nat.reduceLT, Nat.reduceSub, Nat.reduceBEq, q1, q2, decide_true, decide_false, pr6]
  by_cases q3 : n > (l.length : Int)
  · simp only [↓evP, evB, stB, reduceIte, reduceCtorEq, Nat.reduceEqDiff, Nat.reduceAdd, Nat.reduceMul, Nat.reduceLeDiff, Nat.reduceLT, Nat.reduceSub, Nat.reduceBEq, q1, q2, q3, decide_true, decide_false, pr6]
  have hlen : l.length ≤ 1000000 := by omega
  simp only [↓evP, evB, stB, reduceIte, reduceCtorEq, Nat.reduceEqDiff, Nat.reduceAdd, Nat.reduceMul, Nat.reduceLeDiff, Nat.reduceLT, Nat.reduceSub, Nat.reduceBEq, q1, q2, q3, decide_true, decide_false, pr6]
  refine callOps_intro [pB (decide (chk l = l.length))] ⟨l, rfl, hlen, rfl⟩ ?_
  by_cases hc : chk l = l.length
  · obtain ⟨m, rfl⟩ := Int.eq_ofNat_of_zero_le (show 0 ≤ n by omega)
    have hm : m ≤ l.length := by omega
    have hn0 : (0 : Int) ≤ (m : Int) := by omega
    have hn1 : (m : Int) ≤ (l.length : Int) := by omega
    have hall := rows_len (f := Ev.row) (n := 9) (fun _ => rfl) l
    have htk : (l.map Ev.row).take m = (l.take m).map Ev.row := (List.map_take ..).symm
    have htl : (l.take m).length = m := by rw [List.length_take]; omega
    have hcm : chk (l.take m) = (l.take m).length := by rw [htl]; unfold chk at hc ⊢; rw [TS.chk_take, hc]; omega
    simp only [↓evP, evB, stB, reduceIte, reduceCtorEq, Nat.reduceEqDiff, Nat.reduceAdd, Nat.reduceMul, Nat.reduceLeDiff, Nat.reduceLT, Nat.reduceSub, Nat.reduceBEq, q1, q2, q3, hc, decide_true, decide_false, Int.le_refl, Int.toNat_zero, hn0, hn1, hall, htk]
    refine callOps_intro [pB (decide (chk (l.take m) = (l.take m).length))] ⟨l.take m, rfl, by omega, rfl⟩ ?_
    rw [hcm, decide_eq_true rfl]
    simp only [↓evP, evB, stB, reduceIte, reduceCtorEq, Nat.reduceEqDiff, Nat.reduceAdd, Nat.reduceMul, Nat.reduceLeDiff, Nat.reduceLT, Nat.reduceSub, Nat.reduceBEq]
    refine callOps_intro [cksPa (stOf l), pI (errOf l)] ⟨l, rfl, hlen, rfl⟩ ?_
    simp only [↓evP, evB, stB, reduceIte, reduceCtorEq, Nat.reduceEqDiff, Nat.reduceAdd, Nat.reduceMul, Nat.reduceLeDiff, Nat.reduceLT, Nat.reduceSub, Nat.reduceBEq, cksPa, Int.le_refl, Int.toNat_zero, hn0, hn1, hall, htk]
    refine callOps_intro [cksPa (stOf (l.take m)), pI (errOf (l.take m))] ⟨l.take m, rfl, by omega, rfl⟩ ?_
    have hs : stOf (l.take m) = (stOf l).take m := by unfold stOf; rw [if_pos hcm, if_pos hc]; exact stampsL_take l hm
    have he1 : errOf l = 0 := by unfold errOf; rw [if_pos hc]
    have he2 : errOf (l.take m) = 0 := by unfold errOf; rw [if_pos hcm]
    have hsl := stOf_len hc
    have hs8 := cks_rows (stOf l) stOf_8
    have hst : ((stOf l).map ckRow).take m = ((stOf l).take m).map ckRow := (List.map_take ..).symm
    rw [hs, he1, he2]
    simp only [↓evP, evB, stB, reduceIte, reduceCtorEq, Nat.reduceEqDiff, Nat.reduceAdd, Nat.reduceMul, Nat.reduceLeDiff, Nat.reduceLT, Nat.reduceSub, Nat.reduceBEq, cksPa, beq_self_eq_true, Int.le_refl, Int.toNat_zero, hn0, hn1, hsl, hs8, hst]
    refine callOps_intro [pB true] ⟨(stOf l).take m, rfl, ⟨by rw [List.length_take]; omega, fun c hc => stOf_8 c (List.mem_of_mem_take hc)⟩, rfl⟩ ?_
    simp only [↓evP, evB, stB, reduceIte, reduceCtorEq, Nat.reduceEqDiff, Nat.reduceAdd, Nat.reduceMul, Nat.reduceLeDiff, Nat.reduceLT, Nat.reduceSub, Nat.reduceBEq, pr6]
  · simp only [↓evP, evB, stB, reduceIte, reduceCtorEq, Nat.reduceEqDiff, Nat.reduceAdd, Nat.reduceMul, Nat.reduceLeDiff, Nat.reduceLT, Nat.reduceSub, Nat.reduceBEq, q1, q2, q3, hc, decide_true, decide_false, pr6]
end Go.Proofs.Ytohliamalaifhaa
end
section
set_option linter.unusedSimpArgs false
set_option linter.unusedVariables false
namespace Go.Proofs.Ytohliamalaifhaa
open Go Go.RowKit
set_option maxRecDepth 100000
set_option maxHeartbeats 4000000

theorem get_some {c : Ck} (h : c.length = 8) {k : Nat} (hk : k < 8) : c[k]? = some (c.getD k 0) := by
  rw [List.getD_eq_getElem?_getD, List.getElem?_eq_getElem (by omega)]; rfl
theorem getC_some {l : List Ck} {k : Nat} (hk : k < l.length) : l[k]? = some (l.getD k ckZ) := by
  rw [List.getD_eq_getElem?_getD, List.getElem?_eq_getElem hk]; rfl
theorem flatC_get1 {cs : List Ck} (h : All8 cs) {i k : Nat} {c : Ck} (hi : cs[i]? = some c) (hk : k < 8) : (flatC cs)[i * 8 + k]? = some (.d (dI (c.getD k 0))) := by
  have h1 := flatC_get h hi
  have h2 : (((flatC cs).drop (i * 8)).take 8)[k]? = some (.d (dI (c.getD k 0))) := by
    rw [h1]; exact ckCells_get _ _ _ (get_some (h c (List.mem_of_getElem? hi)) hk)
  rw [List.getElem?_take, if_pos hk, List.getElem?_drop] at h2
  exact h2
/-- what the laws use of an event of a valid list -/
structure At35 (l : List Ev) (i : Nat) (e : Ev) (s : SSt) (c : Ck) : Prop where
  he : l[i]? = some e
  hs : runTo l i = s
  hc : (stampsL l)[i]? = some c
  ck : c = clockAt l s e i
  ok : SOk s i
  cn : Cnt s
  g0 : 0 ≤ e.g
  g8 : e.g < 8
  c8 : c.length = 8
  b : COk ((i + 1 : Nat) : Int) c
  nx : (runTo l (i + 1)).cur = s.cur.set e.g.toNat c
theorem at35 {l : List Ev} (hv : ∀ e, e ∈ l → e.valid = true) {i : Nat} (hi : i < l.length) : ∃ e s c, At35 l i e s c := by
  obtain ⟨e, he⟩ : ∃ e, l[i]? = some e := ⟨_, List.getElem?_eq_getElem hi⟩
  have hg := (Ev.valid_rng (hv e (List.mem_of_getElem? he))).1
  have hok := runTo_ok l i
  have hed : l.getD i default = e := by rw [List.getD_eq_getElem?_getD, he]; rfl
  refine ⟨e, runTo l i, _, he, rfl, stamps_at he, rfl, hok, runTo_cnt (fun e he => (Ev.valid_rng (hv e he)).1) (by omega), hg.1, hg.2, (hok.clock l e).1, hok.clock l e, ?_⟩
  show ((runTo l i).step l (l.getD i default) i).cur = _
  rw [hed]; rfl

def R_law35 (ps rs : List Pa) : Prop := ∃ l : List Ev, ps = [evsPa l] ∧ rs = [pB true]
def env_law35 : Env := e1 9 R_awake (e1 13 R_rvalid (e1 10 R_Stamps e0))
theorem env_law35_ok : EnvOK Try.prog env_law35 := EnvOK.e1 s_awake (EnvOK.e1 s_rvalid (EnvOK.e1 s_Stamps EnvOK.e0))
theorem s_counts : Spec Try.prog 5 R_law35 := by
  refine sp5 env_law35_ok ?_
  rintro ps rs ⟨l, rfl, rfl⟩
  refine ⟨by simp, ?_⟩
  unfold pc5
  refine pwp_start ?_
  simp only [↓evP, evB, stB, reduceIte, reduceCtorEq, Nat.reduceEqDiff, Nat.reduceAdd, Nat.reduceMul, Nat.reduceLeDiff, Nat.reduceLT, Nat.reduceSub, Nat.reduceBEq, evsPa, evsD]
  refine callOps_intro [pB true] ⟨rfl, rfl⟩ ?_
  by_cases q1 : (l.length : Int) > 60
  · simp only [↓evP, evB, stB, reduceIte, reduceCtorEq, Nat.reduceEqDiff, Nat.reduceAdd, Nat.reduceMul, Nat.reduceLeDiff, Nat.reduceLT, Nat.reduceSub, Nat.reduceBEq, q1, decide_true, decide_false, pr5]
  have hlen : l.length ≤ 1000000 := by omega
  simp only [↓evP, evB, stB, reduceIte, reduceCtorEq, Nat.reduceEqDiff, Nat.reduceAdd, Nat.reduceMul, Nat.reduceLeDiff, Nat.reduceLT, Nat.reduceSub, Nat.reduceBEq, q1, decide_true, decide_false]
  refine callOps_intro [pB (decide (chk l = l.length))] ⟨l, rfl, hlen, rfl⟩ ?_
  by_cases hc : chk l = l.length
  · simp only [↓evP, evB, stB, reduceIte, reduceCtorEq, Nat.reduceEqDiff, Nat.reduceAdd, Nat.reduceMul, Nat.reduceLeDiff, Nat.reduceLT, Nat.reduceSub, Nat.reduceBEq, q1, hc, decide_true, decide_false]
    refine callOps_intro [cksPa (stOf l), pI (errOf l)] ⟨l, rfl, hlen, rfl⟩ ?_
    have hs : stOf l = stampsL l := by unfold stOf; rw [if_pos hc]
    have he1 : errOf l = 0 := by unfold errOf; rw [if_pos hc]
    have hsl := stampsL_length l
    have hv := chk_valid hc
    rw [hs, he1]
    simp only [↓evP, evB, stB, reduceIte, reduceCtorEq, Nat.reduceEqDiff, Nat.reduceAdd, Nat.reduceMul, Nat.reduceLeDiff, Nat.reduceLT, Nat.reduceSub, Nat.reduceBEq, cksPa, hsl, bne_self_eq_false]
    refine pwp_fresh [0, 2, 3, 5, 6] [5] (fun S hs ho => ?_)
    simp only [stB, reduceIte, reduceCtorEq, Nat.reduceEqDiff, Nat.reduceAdd, Nat.reduceMul, Nat.reduceLeDiff, Nat.reduceLT, Nat.reduceSub, Nat.reduceBEq] at hs ho
    obtain ⟨q0, q2, q3, q5, q6⟩ := hs
    obtain ⟨r5, t5⟩ := ho
    refine pwp_loopW ms5_0 os5_0 (fun m st => ∃ i : Nat, m = l.length - i ∧ i ≤ l.length ∧ st.sl 6 = aI i ∧ st.gen 5 = 1 ∧ st.ob 5 = .cells (flatC (runTo l i).cur)) l.length ?_ ?_
    · exact ⟨0, rfl, Nat.zero_le _, q6, r5, t5⟩
    · rintro m z ⟨i, rfl, hi, h6, g5, o5⟩
      simp only [stB, reduceIte, reduceCtorEq, Nat.reduceEqDiff, Nat.reduceAdd, Nat.reduceMul, Nat.reduceLeDiff, Nat.reduceLT, Nat.reduceSub, Nat.reduceBEq] at h6 g5 o5
      rcases Nat.lt_or_ge i l.length with hlt | hge
      · obtain ⟨e, s, c, A⟩ := at35 hv hlt
        rw [A.hs] at o5
        have hlt' : (i : Int) < (l.length : Int) := by omega
        have hi0 : (0 : Int) ≤ (i : Int) := by omega
        have hg0 := A.g0
        have hg8 := A.g8
        have hg8' : e.g < ((8 : Nat) : Int) := hg8
        have a3 := A.ok.a8.1
        have hcur := getC_some (l := s.cur) (k := e.g.toNat) (by rw [A.ok.cl]; omega)
        have hcg := a3 _ (List.mem_of_getElem? hcur)
        obtain ⟨k1, k2⟩ := A.cn.clock (l := l) (e := e) A.ok (by omega)
        rw [← A.ck] at k1 k2
        have e1 : (ckRow c).length = 8 := by unfold ckRow; rw [List.length_map, A.c8]
        have e2 := ckCells_get _ _ _ (get_some A.c8 (k := e.g.toNat) (by omega))
        have e3 := flatC_get1 a3 hcur (k := e.g.toNat) (by omega)
        have hdg : (s.cur.getD e.g.toNat ckZ).getD e.g.toNat 0 = s.dg e.g.toNat := rfl
        rw [hdg] at e3
        have hb0 := (A.b).get e.g.toNat
        have hb1 : c.getD e.g.toNat 0 ≤ ((i + 1 : Nat) : Int) := (A.b.2 _ (List.mem_of_getElem? (get_some A.c8 (k := e.g.toNat) (by omega)))).2
        have hd0 := dg_nonneg A.ok e.g.toNat
        have hw : IntKind.i64.wrap (s.dg e.g.toNat + 1) = c.getD e.g.toNat 0 := by rw [wr64 (by omega) (by omega), k1]
        have e4 : (ckCells c).length = 8 := by rw [ckCells_length, A.c8]
        have e5 : 8 ≤ (ckCells c).length := by omega
        have e6 : (ckCells c).take 8 = ckCells c := List.take_of_length_le (by omega)
        have f3 : e.g.toNat * 8 + 8 ≤ (flatC s.cur).length := by rw [flatC_len a3, A.ok.cl]; omega
        have f4 := (flatC_set a3 (i := e.g.toNat) (by rw [A.ok.cl]; omega) A.c8).trans (congrArg flatC A.nx.symm)
        have he := A.he
        have hci := A.hc
        simp only [↓evP, evB, stB, reduceIte, reduceCtorEq, Nat.reduceEqDiff, Nat.reduceAdd, Nat.reduceMul, Nat.reduceLeDiff, Nat.reduceLT, Nat.reduceSub, Nat.reduceBEq, q0, q2, q3, q5, h6, g5, o5, hlt', hi0, he, hci, Ev.row, hg0, hg8', e1, e2, e3, e4, e5, e6, f3, f4, ckRow_cells, hw, bne_self_eq_false, Nat.mul_one]
        refine ⟨(by unfold Drw; kernel_rfl), ?_⟩
        refine pwp_freshP (fun st => Within ms5_0 os5_0 S st) (by repeat' (first | assumption | exact within_over.mpr trivial | exact Within.refl _ _ _ | (refine within_ap ?_ rfl rfl) | (refine within_ap0 ?_ rfl))) [0, 2, 3, 5, 6, 7, 8] [5] (fun T hwT hs2 ho2 => ?_)
        simp only [stB, reduceIte, reduceCtorEq, Nat.reduceEqDiff, Nat.reduceAdd, Nat.reduceMul, Nat.reduceLeDiff, Nat.reduceLT, Nat.reduceSub, Nat.reduceBEq, q0, q2, q3, q5, h6, g5, o5, bne_self_eq_false] at hs2 ho2
        obtain ⟨p0, p2, p3, p5, p6, p7, p8⟩ := hs2
        obtain ⟨r5', t5'⟩ := ho2
        refine pwp_loopW ms5_1 os5_1 (fun m st => ∃ k : Nat, m = 8 - k ∧ k ≤ 8 ∧ st.sl 8 = aI k) 8 ?_ ?_
        · exact ⟨0, rfl, Nat.zero_le _, p8⟩
        · rintro m2 z2 ⟨k, rfl, hk, h8⟩
          simp only [stB, reduceIte, reduceCtorEq, Nat.reduceEqDiff, Nat.reduceAdd, Nat.reduceMul, Nat.reduceLeDiff, Nat.reduceLT, Nat.reduceSub, Nat.reduceBEq] at h8
          rcases Nat.lt_or_ge k 8 with hk8 | hk8
          · obtain ⟨k3, k4⟩ := k2 k hk8
            have hkc := getC_some (l := s.cur) (k := k) (by rw [A.ok.cl]; omega)
            have d1 := ckCells_get _ _ _ (get_some A.c8 hk8)
            have d2 := flatC_get1 a3 hcur hk8
            have d3 := flatC_get1 a3 hkc hk8
            have d4 : (s.cur.getD k ckZ).getD k 0 = s.dg k := rfl
            rw [d4] at d3
            have hk0 : (0 : Int) ≤ (k : Int) := by omega
            have hkl : (k : Int) < 8 := by omega
            have hkl8 : (k : Int) < ((8 : Nat) : Int) := by omega
            have b1 : ¬ c.getD k 0 < (s.cur.getD e.g.toNat ckZ).getD k 0 := by omega
            cases b2 : ((k : Int) != e.g) with
            | true =>
              have hne : k ≠ e.g.toNat := fun h => by
                have : (k : Int) = e.g := by omega
                rw [bne_iff_ne] at b2
                exact b2 this
              have b3 : ¬ c.getD k 0 > s.dg k := by have := k4 hne; omega
              simp only [↓evP, evB, stB, reduceIte, reduceCtorEq, Nat.reduceEqDiff, Nat.reduceAdd, Nat.reduceMul, Nat.reduceLeDiff, Nat.reduceLT, Nat.reduceSub, Nat.reduceBEq, p0, p2, p3, p5, p6, p7, h8, r5', t5', hi0, hci, hg0, hg8', e1, d1, d2, d3, hk0, hkl, hkl8, b1, b2, b3, decide_true, decide_false, ckRow_cells, Nat.mul_one]
              refine ⟨(by unfold Drw; kernel_rfl), ?_⟩
              exact ⟨_, by omega, (by repeat' (first | assumption | exact within_over.mpr trivial | exact Within.refl _ _ _ | (refine within_ap ?_ rfl rfl) | (refine within_ap0 ?_ rfl))), k + 1, rfl, by omega, by simp only [stB, reduceIte, reduceCtorEq, Nat.reduceEqDiff, Nat.reduceAdd, Nat.reduceMul, Nat.reduceLeDiff, Nat.reduceLT, Nat.reduceSub, Nat.reduceBEq, h8]; rw [wrN (by omega)]⟩
            | false =>
              simp only [↓evP, evB, stB, reduceIte, reduceCtorEq, Nat.reduceEqDiff, Nat.reduceAdd, Nat.reduceMul, Nat.reduceLeDiff, Nat.reduceLT, Nat.reduceSub, Nat.reduceBEq, p0, p2, p3, p5, p6, p7, h8, r5', t5', hi0, hci, hg0, hg8', e1, d1, d2, d3, hk0, hkl, hkl8, b1, b2, decide_true, decide_false, ckRow_cells, Nat.mul_one]
              refine ⟨(by unfold Drw; kernel_rfl), ?_⟩
              exact ⟨_, by omega, (by repeat' (first | assumption | exact within_over.mpr trivial | exact Within.refl _ _ _ | (refine within_ap ?_ rfl rfl) | (refine within_ap0 ?_ rfl))), k + 1, rfl, by omega, by simp only [stB, reduceIte, reduceCtorEq, Nat.reduceEqDiff, Nat.reduceAdd, Nat.reduceMul, Nat.reduceLeDiff, Nat.reduceLT, Nat.reduceSub, Nat.reduceBEq, h8]; rw [wrN (by omega)]⟩
          · have hk88 : k = 8 := by omega
            subst hk88
            have hkl : ¬ ((8 : Nat) : Int) < 8 := by omega
            simp only [↓evP, evB, stB, reduceIte, reduceCtorEq, Nat.reduceEqDiff, Nat.reduceAdd, Nat.reduceMul, Nat.reduceLeDiff, Nat.reduceLT, Nat.reduceSub, Nat.reduceBEq, p0, p2, p3, p5, p6, p7, h8, r5', t5', hi0, hci, hg0, hg8', hkl, e1, e4, e5, e6, f3, f4, ckRow_cells]
            exact ⟨_, by omega, (by repeat' (first | assumption | exact within_over.mpr trivial | (refine within_ap ?_ rfl rfl) | (refine within_ap0 ?_ rfl) | refine within_in ?_ (by decide) (by decide))), i + 1, rfl, hlt, by simp only [stB, reduceIte, reduceCtorEq, Nat.reduceEqDiff, Nat.reduceAdd, Nat.reduceMul, Nat.reduceLeDiff, Nat.reduceLT, Nat.reduceSub, Nat.reduceBEq, p6]; rw [wrN (by omega)], by simp only [stB, reduceIte, reduceCtorEq, Nat.reduceEqDiff, Nat.reduceAdd, Nat.reduceMul, Nat.reduceLeDiff, Nat.reduceLT, Nat.reduceSub, Nat.reduceBEq, r5'], by simp only [stB, reduceIte, reduceCtorEq, Nat.reduceEqDiff, Nat.reduceAdd, Nat.reduceMul, Nat.reduceLeDiff, Nat.reduceLT, Nat.reduceSub, Nat.reduceBEq, t5', f4]⟩
      · have hil : i = l.length := by omega
        subst hil
        have hlt' : ¬ (l.length : Int) < (l.length : Int) := by omega
        simp only [↓evP, evB, stB, reduceIte, reduceCtorEq, Nat.reduceEqDiff, Nat.reduceAdd, Nat.reduceMul, Nat.reduceLeDiff, Nat.reduceLT, Nat.reduceSub, Nat.reduceBEq, q0, q2, q3, q5, h6, g5, o5, hlt', pr5]
  · simp only [↓evP, evB, stB, reduceIte, reduceCtorEq, Nat.reduceEqDiff, Nat.reduceAdd, Nat.reduceMul, Nat.reduceLeDiff, Nat.reduceLT, Nat.reduceSub, Nat.reduceBEq, q1, hc, decide_true, decide_false, pr5]
end Go.Proofs.Ytohliamalaifhaa
end
