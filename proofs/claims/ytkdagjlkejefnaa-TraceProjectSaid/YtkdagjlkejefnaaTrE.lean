/- The walk of (*trace.State).Add. -/
import Derived.Test.YtkdagjlkejefnaaTrB
import Derived.Test.YtkdagjlkejefnaaTrC
import Derived.Test.YtkdagjlkejefnaaTrD
import Derived.Test.YtkdagjlkejefnaaQuiet
import Derived.LaidEqlPtr
namespace Go.Proofs.Ytkdagjlkejefnaa
open Go.RowKit

def StB (P : World → Prop) : Prop := ∀ w w', P w → Below w.heap.size w w' → P w'

set_option maxRecDepth 100000 in
set_option maxHeartbeats 8000000 in
theorem add_head {sb bc bm bd N : Nat} {s : TS} {kv : Value} (w : World) (h : TRep w sb bc bm bd N s kv) (hs : s.wf) (hN : N + 2 < maxLen) (e : Ev) :
    Calls Try.prog 21 #[.pointer (some ⟨sb, 0, none⟩), e.val] w fun r w' => r = .returned (.bool (s.add e).isSome) ∧ (∃ kv', TRep w' sb bc bm bd (N + 2) ((s.add e).getD s) kv') ∧ But [sb, bc, bm, bd] w w' := by
  have hlt := h.lt
  have c0 : w.cell? ⟨sb, 0, none⟩ = some (.int .i64 s.events) := h.cell 0
  have c1 : w.cell? ⟨sb, 1, none⟩ = some (.int .i64 s.gor) := h.cell 1
  have hev := hs.ev
  have hno : s.add e = none → ∀ w', Below w.heap.size w w' → Ending.returned (.bool false) = .returned (.bool (s.add e).isSome) ∧ (∃ kv', TRep w' sb bc bm bd (N + 2) ((s.add e).getD s) kv') ∧ But [sb, bc, bm, bd] w w' := fun ha w' hb => by
    rw [ha]; exact ⟨rfl, ⟨kv, (h.below hb).mono (by omega)⟩, (But.refl _ _).below hb⟩
  have HNO := Lib.hid hno; clear hno
  have HH := Lib.hid h; clear h
  have HS := Lib.hid hs; clear hs

  obtain ⟨g, kind, obj, off, k, en, fn, pc, stack⟩ := e
  unfold Ev.val
  go_enter Try.func21, Try.ntmps21
  go_upto_region 1 with fail
  generalize hW : World.alloc w _ = W
  have hB : Below w.heap.size w W := by rw [← hW]; exact (Below.refl _ _).alloc (Nat.le_refl _) _
  have hz : w.heap.size < W.heap.size := by rw [← hW]; simp
  have e0 : W.cell? ⟨w.heap.size, 0, none⟩ = some (.int .i64 g) := by rw [← hW]; exact cell_of_row _ _ _ _ _ _ (heap_alloc_new w _)
  have e1 : W.cell? ⟨w.heap.size, 1, none⟩ = some (.int .i64 kind) := by rw [← hW]; exact cell_of_row _ _ _ _ _ _ (heap_alloc_new w _)
  have e2 : W.cell? ⟨w.heap.size, 2, none⟩ = some (.int .i64 obj) := by rw [← hW]; exact cell_of_row _ _ _ _ _ _ (heap_alloc_new w _)
  have e3 : W.cell? ⟨w.heap.size, 3, none⟩ = some (.int .i64 off) := by rw [← hW]; exact cell_of_row _ _ _ _ _ _ (heap_alloc_new w _)
  have e4 : W.cell? ⟨w.heap.size, 4, none⟩ = some (.int .i64 k) := by rw [← hW]; exact cell_of_row _ _ _ _ _ _ (heap_alloc_new w _)
  have e5 : W.cell? ⟨w.heap.size, 5, none⟩ = some (.int .i64 en) := by rw [← hW]; exact cell_of_row _ _ _ _ _ _ (heap_alloc_new w _)
  have e6 : W.cell? ⟨w.heap.size, 6, none⟩ = some (.int .i64 fn) := by rw [← hW]; exact cell_of_row _ _ _ _ _ _ (heap_alloc_new w _)
  have e7 : W.cell? ⟨w.heap.size, 7, none⟩ = some (.int .i64 pc) := by rw [← hW]; exact cell_of_row _ _ _ _ _ _ (heap_alloc_new w _)
  have e8 : W.cell? ⟨w.heap.size, 8, none⟩ = some (.int .i64 stack) := by rw [← hW]; exact cell_of_row _ _ _ _ _ _ (heap_alloc_new w _)
  clear hW
  have d0 : W.cell? ⟨sb, 0, none⟩ = some (.int .i64 s.events) := (hB.cell (p := ⟨sb, 0, none⟩) hlt).trans c0
  have d1 : W.cell? ⟨sb, 1, none⟩ = some (.int .i64 s.gor) := (hB.cell (p := ⟨sb, 1, none⟩) hlt).trans c1
  have hltW : sb < W.heap.size := by omega
  clear c0 c1
  have HB := Lib.hid hB; clear hB
  have q0 : ∀ x : QW W, x.w.cell? ⟨w.heap.size, 0, none⟩ = some (.int .i64 g) := fun x => x.cell hz e0
  have q1 : ∀ x : QW W, x.w.cell? ⟨w.heap.size, 1, none⟩ = some (.int .i64 kind) := fun x => x.cell hz e1
  have q2 : ∀ x : QW W, x.w.cell? ⟨w.heap.size, 2, none⟩ = some (.int .i64 obj) := fun x => x.cell hz e2
  have q3 : ∀ x : QW W, x.w.cell? ⟨w.heap.size, 3, none⟩ = some (.int .i64 off) := fun x => x.cell hz e3
  have q4 : ∀ x : QW W, x.w.cell? ⟨w.heap.size, 4, none⟩ = some (.int .i64 k) := fun x => x.cell hz e4
  have q5 : ∀ x : QW W, x.w.cell? ⟨w.heap.size, 5, none⟩ = some (.int .i64 en) := fun x => x.cell hz e5
  have q6 : ∀ x : QW W, x.w.cell? ⟨w.heap.size, 6, none⟩ = some (.int .i64 fn) := fun x => x.cell hz e6
  have q7 : ∀ x : QW W, x.w.cell? ⟨w.heap.size, 7, none⟩ = some (.int .i64 pc) := fun x => x.cell hz e7
  have q8 : ∀ x : QW W, x.w.cell? ⟨w.heap.size, 8, none⟩ = some (.int .i64 stack) := fun x => x.cell hz e8
  have q9 : ∀ x : QW W, x.w.cell? ⟨sb, 0, none⟩ = some (.int .i64 s.events) := fun x => x.cell hltW d0
  have q10 : ∀ x : QW W, x.w.cell? ⟨sb, 1, none⟩ = some (.int .i64 s.gor) := fun x => x.cell hltW d1

  clear e0 e1 e2 e3 e4 e5 e6 e7 e8 d0 d1
  cases hv : Ev.valid ⟨g, kind, obj, off, k, en, fn, pc, stack⟩ with
  | false =>
    have hnone : s.add ⟨g, kind, obj, off, k, en, fn, pc, stack⟩ = none := by unfold TS.add TS.admits; rw [hv]; rfl
    have HNN := Lib.hid hnone; clear hnone
    have hV : ∀ w : World, Calls Try.prog 42 #[.agg #[.int .i64 g, .int .i64 kind, .int .i64 obj, .int .i64 off, .int .i64 k, .int .i64 en, .int .i64 fn, .int .i64 pc, .int .i64 stack]] w fun r w' => r = .returned (.bool false) ∧ Below w.heap.size w w' := fun w => by
      have := evalid_any ⟨g, kind, obj, off, k, en, fn, pc, stack⟩ w
      rw [hv] at this; exact this
    have HV := Lib.hid hV; clear hV hv
    refine wp_region_quietQ (by kernel_rfl) (by kernel_rfl) ?_
    repeat (go_big_quiet_step ((go_at_call 42; exact QW.call _ HV.out)))
    refine wpQuiet_nil ?_
    intro x
    obtain ⟨w1, hb1⟩ := x
    dsimp only
    go_wp2
    go_ret
    exact HNO.out HNN.out _ (HB.out.trans (hb1.mono HB.out.size))
  | true =>
    have hV : ∀ w : World, Calls Try.prog 42 #[.agg #[.int .i64 g, .int .i64 kind, .int .i64 obj, .int .i64 off, .int .i64 k, .int .i64 en, .int .i64 fn, .int .i64 pc, .int .i64 stack]] w fun r w' => r = .returned (.bool true) ∧ Below w.heap.size w w' := fun w => by
      have := evalid_any ⟨g, kind, obj, off, k, en, fn, pc, stack⟩ w
      rw [hv] at this; exact this
    have HV := Lib.hid hV; clear hV
    by_cases h5 : 5000 ≤ s.events
    · have hnone : s.add ⟨g, kind, obj, off, k, en, fn, pc, stack⟩ = none := by unfold TS.add TS.admits; rw [if_neg]; simp; omega
      have HNN := Lib.hid hnone; clear hnone hv
      have h5d : decide (5000 ≤ s.events) = true := by simpa using h5
      refine wp_region_quietQ (by kernel_rfl) (by kernel_rfl) ?_
      repeat (go_big_quiet_step ((go_at_call 42; exact QW.call _ HV.out)))
      refine wpQuiet_nil ?_
      intro x
      obtain ⟨w1, hb1⟩ := x
      dsimp only
      go_wp2
      go_ret
      exact HNO.out HNN.out _ (HB.out.trans (hb1.mono HB.out.size))
    have h5d : decide (5000 ≤ s.events) = false := by simpa using h5
    by_cases hg : s.gor ≤ g
    · have hnone : s.add ⟨g, kind, obj, off, k, en, fn, pc, stack⟩ = none := by unfold TS.add TS.admits; rw [if_neg]; simp; omega
      have HNN := Lib.hid hnone; clear hnone hv
      have hgd : decide (s.gor ≤ g) = true := by simpa using hg
      refine wp_region_quietQ (by kernel_rfl) (by kernel_rfl) ?_
      repeat (go_big_quiet_step ((go_at_call 42; exact QW.call _ HV.out)))
      refine wpQuiet_nil ?_
      intro x
      obtain ⟨w1, hb1⟩ := x
      dsimp only
      go_wp2
      go_ret
      exact HNO.out HNN.out _ (HB.out.trans (hb1.mono HB.out.size))
    have hgd : decide (s.gor ≤ g) = false := by simpa using hg
    have had : s.admits ⟨g, kind, obj, off, k, en, fn, pc, stack⟩ = true := by unfold TS.admits; rw [hv]; simp; omega
    have HAD := Lib.hid had; clear had
    refine wp_region_quietQ (by kernel_rfl) (by kernel_rfl) ?_
    repeat (go_big_quiet_step ((go_at_call 42; exact QW.call _ HV.out)))
    refine wpQuiet_nil ?_
    intro x
    have p0 := q0 x
    have p1 := q1 x
    have p2 := q2 x
    have p3 := q3 x
    have p4 := q4 x
    have p5 := q5 x
    have p6 := q6 x
    have p7 := q7 x
    have p8 := q8 x
    clear q0 q1 q2 q3 q4 q5 q6 q7 q8 q9 q10 HNO HV h5d hgd
    obtain ⟨w1, hb1⟩ := x
    dsimp only at p0 p1 p2 p3 p4 p5 p6 p7 p8 ⊢
    have hb2 : Below w.heap.size w w1 := HB.out.trans (hb1.mono HB.out.size)
    have hT := HH.out.below hb2
    have HT := Lib.hid hT; clear hT
    have HB2 := Lib.hid hb2; clear hb2 hb1
    have HVd := Lib.hid hv; clear hv
    go_upto_block 0 with fail
    go_cut [5] (fun s5 wx => s5 = .bool (s.part ⟨g, kind, obj, off, k, en, fn, pc, stack⟩).isSome ∧ (∃ kv', TRep wx sb bc bm bd (N + 2) ((s.part ⟨g, kind, obj, off, k, en, fn, pc, stack⟩).getD s) kv') ∧ But [sb, bc, bm, bd] w wx)
    case first =>
      cases ho : s.isOpen with
      | true =>
        have hpt : s.part ⟨g, kind, obj, off, k, en, fn, pc, stack⟩ = s.proceed ⟨g, kind, obj, off, k, en, fn, pc, stack⟩ := by unfold TS.part; rw [if_pos ho]
        have HPT := Lib.hid hpt; clear hpt
        have hO : Calls Try.prog 23 #[.pointer (some ⟨sb, 0, none⟩)] w1 fun e w' => e = .returned (.bool true) ∧ w1 = w' := by have := open_any w1 HT.out; rw [ho] at this; exact this
        have HO := Lib.hid hO; clear hO
        have HHO := Lib.hid ho; clear ho
        go_wp2_with ((go_at_call 23; refine HO.out.mono ?_; rintro e w' ⟨rfl, rfl⟩))
        refine (proceed_any w1 HT.out HS.out hN ⟨g, kind, obj, off, k, en, fn, pc, stack⟩ HVd.out HHO.out).mono ?_
        rintro r w2 ⟨rfl, hT2, hb3⟩
        have hfin : (∃ kv', TRep w2 sb bc bm bd (N + 2) ((s.part ⟨g, kind, obj, off, k, en, fn, pc, stack⟩).getD s) kv') ∧ But [sb, bc, bm, bd] w w2 := ⟨by rw [HPT.out]; exact hT2, ((But.refl _ _).below HB2.out).trans (hb3.mono (by simp))⟩
        have HF := Lib.hid hfin; clear hfin hT2 hb3
        go_wp2_with fail
        go_meet
        exact ⟨by rw [HPT.out], HF.out.1, HF.out.2⟩
      | false =>
        have hO : Calls Try.prog 23 #[.pointer (some ⟨sb, 0, none⟩)] w1 fun e w' => e = .returned (.bool false) ∧ w1 = w' := by have := open_any w1 HT.out; rw [ho] at this; exact this
        have HO := Lib.hid hO; clear hO
        cases hch : chanB kind with
        | true =>
          have hpt : s.part ⟨g, kind, obj, off, k, en, fn, pc, stack⟩ = s.operate ⟨g, kind, obj, off, k, en, fn, pc, stack⟩ := by unfold TS.part; rw [if_neg (by rw [ho]; decide), if_pos hch]
          have HPT := Lib.hid hpt; clear hpt
          have hC : ∀ w : World, Calls Try.prog 44 #[.int .i64 kind] w fun e w' => e = .returned (.bool true) ∧ w = w' := fun w => by have := channel_any kind w; rw [hch] at this; exact this
          have HC := Lib.hid hC; clear hC
          have HCH := Lib.hid hch; clear hch ho
          go_wp2_with (first | (go_at_call 23; refine HO.out.mono ?_; rintro e w' ⟨rfl, rfl⟩) | (go_at_call 44; refine (HC.out _).mono ?_; rintro e w' ⟨rfl, rfl⟩))
          refine (operate_any w1 HT.out HS.out hN ⟨g, kind, obj, off, k, en, fn, pc, stack⟩ HVd.out HCH.out).mono ?_
          rintro r w2 ⟨rfl, hT2, hb3⟩
          have hfin : (∃ kv', TRep w2 sb bc bm bd (N + 2) ((s.part ⟨g, kind, obj, off, k, en, fn, pc, stack⟩).getD s) kv') ∧ But [sb, bc, bm, bd] w w2 := ⟨by rw [HPT.out]; exact hT2, ((But.refl _ _).below HB2.out).trans (hb3.mono (by simp))⟩
          have HF := Lib.hid hfin; clear hfin hT2 hb3
          go_wp2_with fail
          go_meet
          exact ⟨by rw [HPT.out], HF.out.1, HF.out.2⟩
        | false =>
          have hpt : s.part ⟨g, kind, obj, off, k, en, fn, pc, stack⟩ = s.simple ⟨g, kind, obj, off, k, en, fn, pc, stack⟩ := by unfold TS.part; rw [if_neg (by rw [ho]; decide), if_neg (by dsimp only; rw [hch]; decide)]
          have HPT := Lib.hid hpt; clear hpt
          have hC : ∀ w : World, Calls Try.prog 44 #[.int .i64 kind] w fun e w' => e = .returned (.bool false) ∧ w = w' := fun w => by have := channel_any kind w; rw [hch] at this; exact this
          have HC := Lib.hid hC; clear hC hch ho
          go_wp2_with (first | (go_at_call 23; refine HO.out.mono ?_; rintro e w' ⟨rfl, rfl⟩) | (go_at_call 44; refine (HC.out _).mono ?_; rintro e w' ⟨rfl, rfl⟩))
          refine (simple_any w1 HT.out HS.out hN ⟨g, kind, obj, off, k, en, fn, pc, stack⟩ HVd.out).mono ?_
          rintro r w2 ⟨rfl, hT2, hb3⟩
          have hfin : (∃ kv', TRep w2 sb bc bm bd (N + 2) ((s.part ⟨g, kind, obj, off, k, en, fn, pc, stack⟩).getD s) kv') ∧ But [sb, bc, bm, bd] w w2 := ⟨by rw [HPT.out]; exact hT2, ((But.refl _ _).below HB2.out).trans (hb3.mono (by simp))⟩
          have HF := Lib.hid hfin; clear hfin hT2 hb3
          go_wp2_with fail
          go_meet
          exact ⟨by rw [HPT.out], HF.out.1, HF.out.2⟩
    case rest =>
      clear p0 p1 p2 p3 p4 p5 p6 p7 p8
      obtain ⟨rfl, ⟨kv', hT2⟩, hbt⟩ := hcut
      have hadd : s.add ⟨g, kind, obj, off, k, en, fn, pc, stack⟩ = (s.part ⟨g, kind, obj, off, k, en, fn, pc, stack⟩).map fun t => { t with events := t.events + 1 } := by unfold TS.add; rw [if_pos HAD.out]
      cases hp : s.part ⟨g, kind, obj, off, k, en, fn, pc, stack⟩ with
      | none =>
        rw [hp] at hadd hT2
        have HADD := Lib.hid hadd; clear hadd
        have HT2 := Lib.hid hT2; clear hT2
        have HBT := Lib.hid hbt; clear hbt hp
        go_wp2
        go_ret
        rw [HADD.out]
        exact ⟨rfl, ⟨kv', HT2.out⟩, HBT.out⟩
      | some t =>
        have hw := TS.part_wf HS.out HVd.out hp
        have he1 : t.events = s.events := hw.1
        rw [hp] at hadd hT2
        simp only [Option.getD_some] at hT2
        have c0 : wc.cell? ⟨sb, 0, none⟩ = some (.int .i64 t.events) := hT2.cell 0
        have f0 : wc.frozen? ⟨sb, 0, none⟩ = false := hT2.frozen 0
        have he2 : 0 ≤ t.events := by omega
        have he3 : t.events ≤ 5000 := by omega
        clear hw he1
        have HADD := Lib.hid hadd; clear hadd
        have HT2 := Lib.hid hT2; clear hT2
        have HBT := Lib.hid hbt; clear hbt hp
        go_wp2
        go_ret
        rw [HADD.out]
        generalize hX : World.setCell _ _ _ = X
        have hb1 : But [sb] wc X := by rw [← hX]; exact (But.refl _ _).setCell (.inl (by simp)) _
        have hr1 : X.heap[sb]? = some (.cells (TCells { t with events := t.events + 1 } bc bm bd kv') 66 (0, 0)) := by
          rw [← hX]; exact heap_setCell_same wc sb 0 _ _ _ HT2.out.row
        clear hX
        exact ⟨rfl, ⟨kv', HT2.out.new_row hb1 hr1 (Nat.le_refl _)⟩, HBT.out.trans (hb1.mono (by simp))⟩

end Go.Proofs.Ytkdagjlkejefnaa
