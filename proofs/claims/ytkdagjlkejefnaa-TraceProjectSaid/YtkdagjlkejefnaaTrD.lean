/- The walk of (*trace.State).simple. -/
import Derived.Test.YtkdagjlkejefnaaTrA
import Derived.Test.YtkdagjlkejefnaaModelB
namespace Go.Proofs.Ytkdagjlkejefnaa
open Go.RowKit

set_option maxRecDepth 100000 in
set_option maxHeartbeats 4000000 in
theorem simple_any {sb bc bm bd N : Nat} {s : TS} {kv : Value} (w : World) (h : TRep w sb bc bm bd N s kv) (hs : s.wf) (hN : N + 2 < maxLen) (e : Ev) (hv : e.valid = true) :
    Calls Try.prog 46 #[.pointer (some ⟨sb, 0, none⟩), e.val] w fun r w' => r = .returned (.bool (s.simple e).isSome) ∧ (∃ kv', TRep w' sb bc bm bd (N + 2) ((s.simple e).getD s) kv') ∧ But [sb, bm, bd] w w' := by
  have hbd := TS.mu_bd hs e
  have hvo := Ev.valid_obj hv
  have hvf := Ev.valid_off hv
  have hio : (Lit.int .i64 e.obj).wf = true ∧ (Lit.int .i64 e.off).wf = true := ⟨wf_i64 ⟨by omega, by omega⟩, wf_i64 ⟨by omega, by omega⟩⟩
  have hval : ((muMap s.mus (e.obj, e.off)).getD mu0.val) = (s.mu e).val := by unfold muMap TS.mu; cases s.mus (e.obj, e.off) <;> rfl
  obtain ⟨m, hm0⟩ : ∃ m, s.mu e = m := ⟨_, rfl⟩
  rw [hm0] at hval hbd
  have hev := hs.ev
  have hgr := hs.gr
  have c1 : w.cell? ⟨sb, 1, none⟩ = some (.int .i64 s.gor) := h.cell 1
  have c3 : w.cell? ⟨sb, 3, none⟩ = some (.map (some bm)) := h.cell 3
  have c4 : w.cell? ⟨sb, 4, none⟩ = some (.map (some bd)) := h.cell 4
  have hlt := h.lt
  have hmm := h.mus
  have HH := Lib.hid h; clear h
  have HS := Lib.hid hs; clear hs
  have HM0 := Lib.hid hm0; clear hm0
  obtain ⟨g, kind, obj, off, k, en, fn, pc, stack⟩ := e
  obtain ⟨locked, readers⟩ := m
  dsimp only at *
  have hl : ∀ o1 o2 : Obj, (Instr.lookup 61 (.map (some bm)) (.agg #[.int .i64 obj, .int .i64 off]) false).run Try.prog (((w.alloc o1).alloc o2).drew) = .ok (.agg #[.bool locked, .int .i64 readers]) (((w.alloc o1).alloc o2).drew) := fun o1 o2 => by
    have h1 : MapOf locV ((w.alloc o1).alloc o2).drew Try.prog 48 bm N (muMap s.mus) := (hmm.alloc o1).alloc o2
    have h2 := h1.look keyL Try.underlying61 zeroMu (obj, off) hio
    rw [hval] at h2; exact h2
  have hl2 : ∀ o1 o2 o3 : Obj, (Instr.lookup 61 (.map (some bm)) (.agg #[.int .i64 obj, .int .i64 off]) false).run Try.prog ((((w.alloc o1).alloc o2).alloc o3).drew) = .ok (.agg #[.bool locked, .int .i64 readers]) ((((w.alloc o1).alloc o2).alloc o3).drew) := fun o1 o2 o3 => by
    have h1 : MapOf locV (((w.alloc o1).alloc o2).alloc o3).drew Try.prog 48 bm N (muMap s.mus) := ((hmm.alloc o1).alloc o2).alloc o3
    have h2 := h1.look keyL Try.underlying61 zeroMu (obj, off) hio
    rw [hval] at h2; exact h2
  have HM := Lib.hid hmm; clear hmm
  have HV := Lib.hid hval; clear hval
  have HIO := Lib.hid hio; clear hio
  have hlt1 : sb < w.heap.size + 1 := by omega
  unfold Ev.val
  go_enter Try.func46, Try.ntmps46
  go_wp2
  go_region
  go_upto_block 0 with fail
  generalize hW : World.drew _ = W
  have hb0 : Below w.heap.size w W := by rw [← hW]; exact ((((Below.refl _ _).alloc (Nat.le_refl _) _).alloc (by simp) _).alloc (by simp; omega) _).drew
  have hz : w.heap.size + 2 < W.heap.size := by rw [← hW]; simp
  have e0 : W.cell? ⟨w.heap.size, 4, none⟩ = some (.int .i64 k) := by rw [← hW]; simp [go_sem]
  have l0 : W.cell? ⟨w.heap.size + 1, 0, none⟩ = some (.int .i64 obj) := by rw [← hW]; simp [go_sem]
  have l1 : W.cell? ⟨w.heap.size + 1, 1, none⟩ = some (.int .i64 off) := by rw [← hW]; simp [go_sem]
  have m0 : W.cell? ⟨w.heap.size + 2, 0, none⟩ = some (.bool locked) := by rw [← hW]; simp [go_sem]
  have m1 : W.cell? ⟨w.heap.size + 2, 1, none⟩ = some (.int .i64 readers) := by rw [← hW]; simp [go_sem]
  have mf : ∀ j, W.frozen? ⟨w.heap.size + 2, j, none⟩ = false := fun j => by rw [← hW]; simp [go_sem]
  clear hW
  have d1 : W.cell? ⟨sb, 1, none⟩ = some (.int .i64 s.gor) := (hb0.cell (p := ⟨sb, 1, none⟩) hlt).trans c1
  have d3 : W.cell? ⟨sb, 3, none⟩ = some (.map (some bm)) := (hb0.cell (p := ⟨sb, 3, none⟩) hlt).trans c3
  have d4 : W.cell? ⟨sb, 4, none⟩ = some (.map (some bd)) := (hb0.cell (p := ⟨sb, 4, none⟩) hlt).trans c4
  clear hl hl2 c1 c3 c4
  have HB0 := Lib.hid hb0; clear hb0
  have d1f : W.frozen? ⟨sb, 1, none⟩ = false := (HB0.out.frozen (p := ⟨sb, 1, none⟩) hlt).trans (HH.out.frozen 1)
  obtain ⟨dn, hdn⟩ : ∃ dn, (s.done (obj, off)).getD false = dn := ⟨_, rfl⟩
  have hdl : (Instr.lookup 62 (.map (some bd)) (.agg #[.int .i64 obj, .int .i64 off]) false).run Try.prog W.drew = .ok (.bool dn) W.drew := by
    have h1 : MapOf locV W.drew Try.prog 48 bd N (doneMap s.done) := HH.out.done.keep (HB0.out.block bd HH.out.done.lt)
    have h2 := h1.look keyL Try.underlying62 zeroB (obj, off) HIO.out
    have h3 : ((doneMap s.done (obj, off)).getD (.bool false)) = .bool dn := by rw [← hdn]; unfold doneMap; cases s.done (obj, off) <;> rfl
    rw [h3] at h2; exact h2
  have HDN := Lib.hid hdn; clear hdn
  have hno : ∀ w' : World, s.simple ⟨g, kind, obj, off, k, en, fn, pc, stack⟩ = none → Below w.heap.size w w' → Ending.returned (.bool false) = .returned (.bool (s.simple ⟨g, kind, obj, off, k, en, fn, pc, stack⟩).isSome) ∧ (∃ kv', TRep w' sb bc bm bd (N + 2) ((s.simple ⟨g, kind, obj, off, k, en, fn, pc, stack⟩).getD s) kv') ∧ But [sb, bm, bd] w w' := fun w' ho hb => by
    rw [ho]; exact ⟨rfl, ⟨kv, (HH.out.below hb).mono (by omega)⟩, (But.refl _ _).below hb⟩
  have HNO := Lib.hid hno; clear hno
  have hsame : ∀ w' : World, s.simple ⟨g, kind, obj, off, k, en, fn, pc, stack⟩ = some s → Below w.heap.size w w' → Ending.returned (.bool true) = .returned (.bool (s.simple ⟨g, kind, obj, off, k, en, fn, pc, stack⟩).isSome) ∧ (∃ kv', TRep w' sb bc bm bd (N + 2) ((s.simple ⟨g, kind, obj, off, k, en, fn, pc, stack⟩).getD s) kv') ∧ But [sb, bm, bd] w w' := fun w' ho hb => by
    rw [ho]; exact ⟨rfl, ⟨kv, (HH.out.below hb).mono (by omega)⟩, (But.refl _ _).below hb⟩
  have HSA := Lib.hid hsame; clear hsame
  go_cut [] (fun wx => ∃ (lk' : Bool) (rd' : Int), s.simple ⟨g, kind, obj, off, k, en, fn, pc, stack⟩ = some { s with mus := upd s.mus (obj, off) ⟨lk', rd'⟩ } ∧ Below w.heap.size w wx ∧ w.heap.size + 2 < wx.heap.size ∧
    wx.cell? ⟨w.heap.size + 1, 0, none⟩ = some (.int .i64 obj) ∧ wx.cell? ⟨w.heap.size + 1, 1, none⟩ = some (.int .i64 off) ∧ wx.cell? ⟨w.heap.size + 2, 0, none⟩ = some (.bool lk') ∧ wx.cell? ⟨w.heap.size + 2, 1, none⟩ = some (.int .i64 rd'))
  case first =>
    go_wp2_with fail
    all_goals (have hmm := HM0.out)
    all_goals first
      | (go_meet; first
        | refine ⟨true, readers, TS.si_6c hmm ‹_› ‹_› ‹_›, ?_⟩
        | refine ⟨false, readers, TS.si_7b hmm ‹_› ‹_›, ?_⟩
        | refine ⟨locked, readers + 1, TS.si_8b hmm ‹_› ‹_›, ?_⟩
        | refine ⟨locked, readers - 1, TS.si_9b hmm ‹_› ‹_›, ?_⟩)
      | (go_ret; refine HNO.out _ ?_ HB0.out; first | exact TS.si_6a hmm ‹_› ‹_› | exact TS.si_6b hmm ‹_› ‹_› | exact TS.si_7a hmm ‹_› ‹_› | exact TS.si_8a hmm ‹_› ‹_› | exact TS.si_9a hmm ‹_› ‹_›)
      | (go_ret; exact HSA.out _ (TS.si_no hmm ‹_› ‹_› ‹_› ‹_› ‹_› ‹_› ‹_›) HB0.out)
      | skip
    -- the four ways that write the mutex
    all_goals try (refine ⟨HB0.out.setCell (by simp; omega) _, by simpa [World.setCell] using hz, ?_, ?_, ?_, ?_⟩ <;> simp [go_sem, *]; done)
    · -- once-end
      go_region
      by_cases hd : dn = true
      · subst hd
        go_wp2
        go_ret
        refine HNO.out _ ?_ HB0.out.drew
        rw [TS.si_12 hmm ‹_›, if_pos HDN.out]
      · have hd0 : dn = false := by simpa using hd
        subst hd0
        have hop : s.simple ⟨g, kind, obj, off, k, en, fn, pc, stack⟩ = some { s with done := upd s.done (obj, off) true } := by
          rw [TS.si_12 hmm ‹_›, if_neg (by rw [HDN.out]; decide)]
        have HOP := Lib.hid hop; clear hop hmm
        have hmd : MapOf locV W.drew.drew Try.prog 48 bd N (doneMap s.done) := HH.out.done.keep (HB0.out.block bd HH.out.done.lt)
        obtain ⟨w1, hput, hm2, hg⟩ := hmd.put keyL Try.underlying62 (by omega) (obj, off) HIO.out (.bool true)
        unfold locV at hput
        have hfin : TRep w1 sb bc bm bd (N + 2) { s with done := upd s.done (obj, off) true } kv ∧ But [sb, bm, bd] w w1 := by
          have hbt : But [bd] w w1 := ((But.refl _ _).below HB0.out).drew.drew.grown hg (.inl (by simp))
          exact ⟨HH.out.new_done hbt (by rw [← doneMap_upd]; exact hm2) (by omega) (by omega), hbt.mono (by simp)⟩
        have HF := Lib.hid hfin; clear hfin hm2 hg hmd
        go_wp2
        go_region
        go_wp2
        go_ret
        rw [HOP.out]
        exact ⟨rfl, ⟨_, HF.out.1⟩, HF.out.2⟩
    · -- once-seen
      go_region
      have hop := TS.si_13 hmm ‹_›
      rw [HDN.out] at hop
      have HOP := Lib.hid hop; clear hop hmm
      go_wp2
      go_ret
      rw [HOP.out]
      refine ⟨ret_bool ?_, ⟨kv, ?_⟩, (But.refl _ _).below HB0.out.drew⟩
      · cases dn <;> rfl
      · have hgd : (if dn = true then some s else none).getD s = s := by split <;> rfl
        rw [hgd]
        exact (HH.out.below HB0.out.drew).mono (by omega)
    · -- go
      go_region
      go_wp2
      · go_ret
        exact HNO.out _ (TS.si_14a hmm ‹_› ‹_›) HB0.out.drew
      · have hop := TS.si_14b hmm ‹_› ‹_›
        go_ret
        rw [hop]
        generalize hX : World.drew _ = X
        have hb1 : But [sb] w X := by rw [← hX]; exact (((But.refl _ _).below HB0.out).setCell (.inl (by simp)) _).drew
        have hr1 : X.heap[sb]? = some (.cells (TCells { s with gor := s.gor + 1 } bc bm bd kv) 66 (0, 0)) := by
          rw [← hX]; exact heap_setCell_same W sb 1 _ _ _ ((HB0.out.block sb hlt).trans HH.out.row)
        clear hX
        exact ⟨rfl, ⟨kv, HH.out.new_row hb1 hr1 (by omega)⟩, hb1.mono (by simp)⟩
  case rest =>
    obtain ⟨lk', rd', hop, hb1, z1, l0', l1', m0', m1'⟩ := hcut
    clear l0 l1 m0 m1 mf hdl d3 d4 d1 d1f
    have hmd : MapOf locV wc.drew Try.prog 48 bm N (muMap s.mus) := HH.out.mus.keep (hb1.block bm HH.out.mus.lt)
    obtain ⟨w1, hput, hm2, hg⟩ := hmd.put keyL Try.underlying61 (by omega) (obj, off) HIO.out (.agg #[.bool lk', .int .i64 rd'])
    unfold locV at hput
    have c3 : wc.cell? ⟨sb, 3, none⟩ = some (.map (some bm)) := (hb1.cell (p := ⟨sb, 3, none⟩) hlt).trans (HH.out.cell 3)
    have hfin : TRep w1 sb bc bm bd (N + 2) { s with mus := upd s.mus (obj, off) ⟨lk', rd'⟩ } kv ∧ But [sb, bm, bd] w w1 := by
      have hbt : But [bm] w w1 := ((But.refl _ _).below hb1).drew.grown hg (.inl (by simp))
      exact ⟨HH.out.new_mus hbt (by rw [← muMap_upd]; exact hm2) (by omega) (by omega), hbt.mono (by simp)⟩
    have HF := Lib.hid hfin; clear hfin hm2 hg hmd hb1
    have HOP := Lib.hid hop; clear hop
    go_wp2
    go_region
    go_wp2
    go_ret
    rw [HOP.out]
    exact ⟨rfl, ⟨_, HF.out.1⟩, HF.out.2⟩
end Go.Proofs.Ytkdagjlkejefnaa
