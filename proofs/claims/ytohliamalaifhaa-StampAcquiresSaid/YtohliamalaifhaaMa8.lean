/- The walk of (*trace.State).operate. -/
import Derived.Test.YtohliamalaifhaaMa7
section
set_option linter.unusedSimpArgs false
set_option linter.unusedVariables false
namespace Go.Proofs.Ytohliamalaifhaa
open Go.RowKit

set_option maxRecDepth 100000 in
set_option maxHeartbeats 4000000 in
theorem operate_any {sb bc bm bd N : Nat} {s : TS} {kv : Value} (w : World) (h : TRep w sb bc bm bd N s kv) (hs : s.wf) (hN : N + 2 < maxLen) (e : Ev) (hv : e.valid = true) (hk : chanB e.kind = true) :
    Calls Try.prog 49 #[.pointer (some ⟨sb, 0, none⟩), e.val] w fun r w' => r = .returned (.bool (s.operate e).isSome) ∧ (∃ kv', TRep w' sb bc bm bd (N + 2) ((s.operate e).getD s) kv') ∧ But [sb, bc] w w' := by
  have hbd := TS.chan_bd hs hv hk
  have hvo := Ev.valid_obj hv
  have hiobj : I64 e.obj := ⟨by omega, by omega⟩
  have hval : ((chanMap s.chans e.obj).getD ch0.val) = ((s.chans e.obj).getD ch0).val := by unfold chanMap; cases s.chans e.obj <;> rfl
  have hsome : (chanMap s.chans e.obj).isSome = (s.chans e.obj).isSome := by unfold chanMap; cases s.chans e.obj <;> rfl
  obtain ⟨cr, hcr⟩ : ∃ c, (s.chans e.obj).getD ch0 = c := ⟨_, rfl⟩
  obtain ⟨kn, hkn⟩ : ∃ b, (s.chans e.obj).isSome = b := ⟨_, rfl⟩
  rw [hcr] at hval
  rw [hkn] at hsome
  obtain ⟨c, hc⟩ : ∃ c, s.chan e = c := ⟨_, rfl⟩
  have hck : c = if kn = true then cr else { cr with cap := e.n } := by
    rw [← hc, ← hkn, ← hcr]; unfold TS.chan; cases s.chans e.obj <;> rfl
  rw [hc] at hbd
  obtain ⟨⟨hs1, hs2⟩, ⟨hr1, hr2⟩, hc1, hc2⟩ := hbd
  have hev := hs.ev
  have hs3 : c.sent ≤ 5000 := by omega
  have hr3 : c.recv ≤ 5000 := by omega
  have c1 : w.cell? ⟨sb, 1, none⟩ = some (.int .i64 s.gor) := h.cell 1
  have c2 : w.cell? ⟨sb, 2, none⟩ = some (.map (some bc)) := h.cell 2
  have hlt := h.lt
  have hm := h.chans
  have HH := Lib.hid h; clear h
  have HS := Lib.hid hs; clear hs
  have HCc := Lib.hid hc; clear hc
  have HCR := Lib.hid hcr; clear hcr
  have HKN := Lib.hid hkn; clear hkn
  obtain ⟨g, kind, obj, off, k, en, fn, pc, stack⟩ := e
  obtain ⟨rcap, rsent, rrecv, rclosed⟩ := cr
  obtain ⟨cap, sent, recv, closed⟩ := c
  dsimp only at *
  have hl : ∀ o : Obj, (Instr.lookup 77 (.map (some bc)) (.int .i64 obj) true).run Try.prog ((w.alloc o).drew) = .ok (.tuple #[.agg #[.int .i64 rcap, .int .i64 rsent, .int .i64 rrecv, .bool rclosed], .bool kn]) ((w.alloc o).drew) := fun o => by
    have h1 : MapOf iK (w.alloc o).drew Try.prog 3 bc N (chanMap s.chans) := hm.alloc o
    have h2 := h1.look_ok keyI Try.underlying77 zeroCh obj (wf_i64 hiobj)
    rw [hval, hsome] at h2; exact h2
  have hl2 : ∀ o o2 : Obj, (Instr.lookup 77 (.map (some bc)) (.int .i64 obj) true).run Try.prog (((w.alloc o).alloc o2).drew) = .ok (.tuple #[.agg #[.int .i64 rcap, .int .i64 rsent, .int .i64 rrecv, .bool rclosed], .bool kn]) (((w.alloc o).alloc o2).drew) := fun o o2 => by
    have h1 : MapOf iK ((w.alloc o).alloc o2).drew Try.prog 3 bc N (chanMap s.chans) := (hm.alloc o).alloc o2
    have h2 := h1.look_ok keyI Try.underlying77 zeroCh obj (wf_i64 hiobj)
    rw [hval, hsome] at h2; exact h2
  have HM := Lib.hid hm; clear hm
  have HV := Lib.hid hval; clear hval
  have HSo := Lib.hid hsome; clear hsome
  have HCK := Lib.hid hck; clear hck
  unfold Ev.val
  go_enter Try.func49, Try.ntmps49
  go_wp2
  go_region
  go_upto_if 20 with fail
  go_cut [] (fun wx => Below w.heap.size w wx ∧ w.heap.size + 1 < wx.heap.size ∧
    wx.cell? ⟨w.heap.size, 0, none⟩ = some (.int .i64 g) ∧ wx.cell? ⟨w.heap.size, 1, none⟩ = some (.int .i64 kind) ∧ wx.cell? ⟨w.heap.size, 2, none⟩ = some (.int .i64 obj) ∧ wx.cell? ⟨w.heap.size, 3, none⟩ = some (.int .i64 off) ∧
    wx.cell? ⟨w.heap.size, 4, none⟩ = some (.int .i64 k) ∧ wx.cell? ⟨w.heap.size, 5, none⟩ = some (.int .i64 en) ∧ wx.cell? ⟨w.heap.size, 6, none⟩ = some (.int .i64 fn) ∧ wx.cell? ⟨w.heap.size, 7, none⟩ = some (.int .i64 pc) ∧ wx.cell? ⟨w.heap.size, 8, none⟩ = some (.int .i64 stack) ∧
    wx.heap[w.heap.size + 1]? = some (.cells #[.int .i64 cap, .int .i64 sent, .int .i64 recv, .bool closed] 90 (0, 0)))
  case first =>
    go_wp2
    all_goals go_meet
    all_goals (case' rel => refine ⟨(((Below.refl _ _).alloc (Nat.le_refl _) _).alloc (by simp) _).drew, by simp, ?_⟩)
    all_goals (have hck := HCK.out; simp_all only [Bool.not_eq_true', Bool.not_eq_false', if_true, if_false, Bool.false_eq_true, Ch.mk.injEq])
    all_goals (obtain ⟨rfl, rfl, rfl, rfl⟩ := hck)
    all_goals (refine ⟨?_, ?_, ?_, ?_, ?_, ?_, ?_, ?_, ?_, heap_alloc2_new w _ _⟩ <;> simp [go_sem])
  case rest =>
    obtain ⟨wa, rfl⟩ : ∃ wa : World, wa = wc := ⟨_, rfl⟩
    obtain ⟨hb0, hz, e0, e1, e2, e3, e4, e5, e6, e7, e8, hrow⟩ := hcut
    have k0 : wa.cell? ⟨w.heap.size + 1, 0, none⟩ = some (.int .i64 cap) := cell_of_row wa _ 0 _ _ _ hrow
    have k1 : wa.cell? ⟨w.heap.size + 1, 1, none⟩ = some (.int .i64 sent) := cell_of_row wa _ 1 _ _ _ hrow
    have k2 : wa.cell? ⟨w.heap.size + 1, 2, none⟩ = some (.int .i64 recv) := cell_of_row wa _ 2 _ _ _ hrow
    have k3 : wa.cell? ⟨w.heap.size + 1, 3, none⟩ = some (.bool closed) := cell_of_row wa _ 3 _ _ _ hrow
    have kf : wa.frozen? ⟨w.heap.size + 1, 3, none⟩ = false := frozen_of_row wa _ 3 _ _ hrow
    have d1 : wa.cell? ⟨sb, 1, none⟩ = some (.int .i64 s.gor) := (hb0.cell (p := ⟨sb, 1, none⟩) hlt).trans c1
    have d2 : wa.cell? ⟨sb, 2, none⟩ = some (.map (some bc)) := (hb0.cell (p := ⟨sb, 2, none⟩) hlt).trans c2
    have hlt2 : sb < wa.heap.size := by omega
    have hlt3 : w.heap.size < wa.heap.size := by omega
    clear hl hl2 c1 c2
    have HB0 := Lib.hid hb0; clear hb0
    have HROW := Lib.hid hrow; clear hrow
    have hno : ∀ w' : World, s.operate ⟨g, kind, obj, off, k, en, fn, pc, stack⟩ = none → Below w.heap.size w w' → Ending.returned (.bool false) = .returned (.bool (s.operate ⟨g, kind, obj, off, k, en, fn, pc, stack⟩).isSome) ∧ (∃ kv', TRep w' sb bc bm bd (N + 2) ((s.operate ⟨g, kind, obj, off, k, en, fn, pc, stack⟩).getD s) kv') ∧ But [sb, bc] w w' := fun w' ho hb => by
      rw [ho]; exact ⟨rfl, ⟨kv, (HH.out.below hb).mono (by omega)⟩, (But.refl _ _).below hb⟩
    have HNO := Lib.hid hno; clear hno
    go_upto_block 0 with fail
    · rename_i hne
      go_ret
      exact HNO.out _ (TS.op_nA HCc.out hne) HB0.out
    · go_cut [] (fun wx => ∃ (l : List Int) (snd rcv : Int) (gb : Nat), s.operate ⟨g, kind, obj, off, k, en, fn, pc, stack⟩ = some (s.start ⟨g, kind, obj, off, k, en, fn, pc, stack⟩ ⟨cap, sent, recv, closed⟩ l snd rcv) ∧ Below w.heap.size w wx ∧ w.heap.size + 1 < wx.heap.size ∧ wa.heap.size < wx.heap.size ∧ w.heap.size < gb ∧ gb ≠ sb ∧
        wx.cell? ⟨w.heap.size, 0, none⟩ = some (.int .i64 g) ∧ wx.cell? ⟨w.heap.size, 1, none⟩ = some (.int .i64 kind) ∧ wx.cell? ⟨w.heap.size, 2, none⟩ = some (.int .i64 obj) ∧ wx.cell? ⟨w.heap.size, 3, none⟩ = some (.int .i64 off) ∧
        wx.cell? ⟨w.heap.size, 4, none⟩ = some (.int .i64 k) ∧ wx.cell? ⟨w.heap.size, 5, none⟩ = some (.int .i64 en) ∧ wx.cell? ⟨w.heap.size, 6, none⟩ = some (.int .i64 fn) ∧ wx.cell? ⟨w.heap.size, 7, none⟩ = some (.int .i64 pc) ∧ wx.cell? ⟨w.heap.size, 8, none⟩ = some (.int .i64 stack) ∧
        wx.cell? ⟨w.heap.size + 1, 0, none⟩ = some (.int .i64 cap) ∧ wx.cell? ⟨w.heap.size + 1, 1, none⟩ = some (.int .i64 sent) ∧ wx.cell? ⟨w.heap.size + 1, 2, none⟩ = some (.int .i64 recv) ∧ wx.cell? ⟨w.heap.size + 1, 3, none⟩ = some (.bool closed) ∧
        wx.cell? ⟨wa.heap.size, 0, none⟩ = some (.slice (some ⟨gb, 0, none⟩) l.length l.length) ∧ wx.cell? ⟨wa.heap.size, 1, none⟩ = some (.int .i64 obj) ∧ wx.cell? ⟨wa.heap.size, 2, none⟩ = some (.int .i64 k) ∧ wx.cell? ⟨wa.heap.size, 3, none⟩ = some (.int .i64 en) ∧
        wx.cell? ⟨wa.heap.size, 4, none⟩ = some (.int .i64 snd) ∧ wx.cell? ⟨wa.heap.size, 5, none⟩ = some (.int .i64 rcv) ∧ (∀ i x, l[i]? = some x → wx.cell? ⟨gb, i, none⟩ = some (.int .i64 x)))
      case first =>
        go_wp2_with fail
        all_goals (have hcc := HCc.out)
        all_goals first
          | (go_meet; first
            | refine ⟨[16], g, -1, wa.heap.size + 1, TS.op_s15a hcc ‹_› ‹_› ‹_› ‹_› ‹_›, ?_⟩
            | refine ⟨[17, 18, 16], g, -1, wa.heap.size + 1, TS.op_s15b hcc ‹_› ‹_› ‹_› ‹_› ‹_› ‹_› ‹_›, ?_⟩
            | refine ⟨[18], -1, g, wa.heap.size + 1, TS.op_s17a hcc ‹_› ‹_› ‹_› ‹_›, ?_⟩
            | refine ⟨[15, 18, 16], -1, g, wa.heap.size + 1, TS.op_s17b hcc ‹_› ‹_› ‹_› ‹_› ‹_› ‹_›, ?_⟩)
          | (go_ret; refine HNO.out _ ?_ (HB0.out.alloc (by omega) _); first | exact TS.op_nB hcc ‹_› ‹_› | exact TS.op_n20 hcc ‹_› ‹_› | exact TS.op_nD hcc ‹_› ‹_› | exact TS.op_nE hcc ‹_› ‹_› | exact TS.op_nF hcc ‹_› ‹_› ‹_› | exact TS.op_nG hcc ‹_› ‹_› ‹_› | exact TS.op_nH hcc ‹_› ‹_› | exact TS.op_nI hcc ‹_› ‹_› ‹_› | exact TS.op_nJ hcc ‹_› ‹_› ‹_› | exact TS.op_nK hcc ‹_› ‹_› ‹_› ‹_›)
          | skip
        · -- close
          have hmw : MapOf iK wa Try.prog 3 bc N (chanMap s.chans) := HM.out.keep (HB0.out.block bc HM.out.lt)
          have hbl := HM.out.lt
          generalize hW : World.alloc (World.setCell _ _ _) _ = W
          have f1 : W.cell? ⟨sb, 2, none⟩ = some (.map (some bc)) := by rw [← hW]; clear hW; simp [go_sem, *]
          have f2 : W.cell? ⟨w.heap.size, 2, none⟩ = some (.int .i64 obj) := by rw [← hW]; clear hW; simp [go_sem, *]
          have f3 : W.cell? ⟨w.heap.size + 1, 0, none⟩ = some (.int .i64 cap) := by rw [← hW]; clear hW; simp [go_sem, *]
          have f4 : W.cell? ⟨w.heap.size + 1, 1, none⟩ = some (.int .i64 sent) := by rw [← hW]; clear hW; simp [go_sem, *]
          have f5 : W.cell? ⟨w.heap.size + 1, 2, none⟩ = some (.int .i64 recv) := by rw [← hW]; clear hW; simp [go_sem, *]
          have f6 : W.cell? ⟨w.heap.size + 1, 3, none⟩ = some (.bool true) := by rw [← hW]; clear hW; simp [go_sem, *]
          have hmW : MapOf iK W Try.prog 3 bc N (chanMap s.chans) := by rw [← hW]; exact (hmw.setCell (by simp; omega) _).alloc _
          have hBW : Below w.heap.size w W := by rw [← hW]; exact (HB0.out.setCell (by simp) _).alloc (by simp; omega) _
          obtain ⟨w1, hput, hm2, hg⟩ := (show MapOf iK W.drew Try.prog 3 bc N (chanMap s.chans) from hmW).put keyI Try.underlying77 (by omega) obj (wf_i64 hiobj) (.agg #[.int .i64 cap, .int .i64 sent, .int .i64 recv, .bool true])
          unfold iK at hput
          have hfin : TRep w1 sb bc bm bd (N + 2) { s with chans := upd s.chans obj ⟨cap, sent, recv, true⟩ } kv ∧ But [sb, bc] w w1 := by
            have hbt : But [bc] w w1 := ((But.refl _ _).below hBW).drew.grown hg (.inl (by simp))
            exact ⟨HH.out.new_chans hbt (by rw [← chanMap_upd]; exact hm2) (by omega) (by omega), hbt.mono (by simp)⟩
          have HF := Lib.hid hfin; clear hfin hm2 hg hBW hmW hmw hW HNO
          have hop := TS.op_s19 hcc ‹_› ‹_› ‹_›
          have HOP := Lib.hid hop; clear hop hcc
          go_region
          go_wp2
          go_ret
          rw [HOP.out]
          exact ⟨rfl, ⟨_, HF.out.1⟩, HF.out.2⟩
        · -- a receive of a closed channel
          have hop := TS.op_s20 hcc ‹_› ‹_› ‹_›
          go_ret
          rw [hop]
          refine ⟨ret_bool ?_, ⟨kv, ?_⟩, (But.refl _ _).below (HB0.out.alloc (by omega) _)⟩
          · by_cases hsr : sent = recv <;> simp [hsr]
          · have hgd : (if sent = recv then some s else none).getD s = s := by split <;> rfl
            rw [hgd]
            exact (HH.out.below (HB0.out.alloc (by omega) _)).mono (by omega)
        all_goals clear hcc HNO
        all_goals refine ⟨(HB0.out.alloc (by omega) _).alloc (by simp; omega) _, by simp; omega, by simp; omega, by omega, by omega, ?_⟩
        all_goals go_light
        all_goals refine ⟨?_, ?_, ?_, ?_, ?_, ?_, ?_, ?_, ?_, ?_, ?_, ?_, ?_, ?_, ?_, ?_, ?_, ?_, ?_, ?_⟩
        all_goals first | (simp [go_sem, *]; done) | (rintro (_ | _ | _ | i) x hx <;> simp at hx <;> subst hx <;> simp [go_sem])
      case rest =>
        obtain ⟨l, snd, rcv, gb, hop, hb1, z1, z2, z3, z4, e0, e1, e2, e3, e4, e5, e6, e7, e8, k0, k1, k2, k3, o0, o1, o2, o3, o4, o5, hl⟩ := hcut
        clear d1 d2 hlt2
        have hbl := HM.out.lt
        have hne : bc ≠ sb := HM.out.ne_cells HH.out.row
        have hmc : MapOf iK wc Try.prog 3 bc N (chanMap s.chans) := HM.out.keep (hb1.block bc hbl)
        obtain ⟨w1, hput, hm2, hg⟩ := (show MapOf iK wc.drew Try.prog 3 bc N (chanMap s.chans) from hmc).put keyI Try.underlying77 (by omega) obj (wf_i64 hiobj) (.agg #[.int .i64 cap, .int .i64 sent, .int .i64 recv, .bool closed])
        unfold iK at hput
        have hb2 : But [bc] wc w1 := (But.refl _ _).drew.grown hg (.inl (by simp))
        have hrow0 : wc.heap[sb]? = some (.cells (TCells s bc bm bd kv) 83 (0, 0)) := (hb1.block sb hlt).trans HH.out.row
        have hrow1 : w1.heap[sb]? = some (.cells (TCells s bc bm bd kv) 83 (0, 0)) := (hb2.block sb (by omega) (by simpa using Ne.symm hne)).trans hrow0
        have d2 : wc.cell? ⟨sb, 2, none⟩ = some (.map (some bc)) := cell_of_row wc sb 2 _ _ _ hrow0
        have s5 : w1.cell? ⟨sb, 5, none⟩ = some kv := cell_of_row w1 sb 5 _ _ _ hrow1
        have s6 : w1.cell? ⟨sb, 6, none⟩ = some (.int .i64 s.grp.obj) := cell_of_row w1 sb 6 _ _ _ hrow1
        have s7 : w1.cell? ⟨sb, 7, none⟩ = some (.int .i64 s.grp.k) := cell_of_row w1 sb 7 _ _ _ hrow1
        have s8 : w1.cell? ⟨sb, 8, none⟩ = some (.int .i64 s.grp.n) := cell_of_row w1 sb 8 _ _ _ hrow1
        have s9 : w1.cell? ⟨sb, 9, none⟩ = some (.int .i64 s.grp.snd) := cell_of_row w1 sb 9 _ _ _ hrow1
        have s10 : w1.cell? ⟨sb, 10, none⟩ = some (.int .i64 s.grp.rcv) := cell_of_row w1 sb 10 _ _ _ hrow1
        have sf : ∀ j, w1.frozen? ⟨sb, j, none⟩ = false := fun j => frozen_of_row w1 sb j _ _ hrow1
        have keepc : ∀ b j v, b < wc.heap.size → b ≠ bc → wc.cell? ⟨b, j, none⟩ = some v → w1.cell? ⟨b, j, none⟩ = some v := fun b j v h1 h2 h3 => (hb2.cell (p := ⟨b, j, none⟩) h1 (by simpa using h2)).trans h3
        have f0 := keepc _ _ _ (by omega) (by omega) e0
        have f1 := keepc _ _ _ (by omega) (by omega) e1
        have f2 := keepc _ _ _ (by omega) (by omega) e2
        have f3 := keepc _ _ _ (by omega) (by omega) e3
        have f4 := keepc _ _ _ (by omega) (by omega) e4
        have f5 := keepc _ _ _ (by omega) (by omega) e5
        have f6 := keepc _ _ _ (by omega) (by omega) e6
        have f7 := keepc _ _ _ (by omega) (by omega) e7
        have f8 := keepc _ _ _ (by omega) (by omega) e8
        have p0 := keepc _ _ _ (by omega) (by omega) o0
        have p1 := keepc _ _ _ (by omega) (by omega) o1
        have p2 := keepc _ _ _ (by omega) (by omega) o2
        have p3 := keepc _ _ _ (by omega) (by omega) o3
        have p4 := keepc _ _ _ (by omega) (by omega) o4
        have p5 := keepc _ _ _ (by omega) (by omega) o5
        have HL := Lib.hid hl; clear hl
        have HM2 := Lib.hid hm2; clear hm2 hmc hg
        have HB1 := Lib.hid hb1; clear hb1
        have HB2 := Lib.hid hb2; clear hb2
        have HOP := Lib.hid hop; clear hop
        have HR1 := Lib.hid hrow1; clear hrow1 hrow0 keepc HNO
        go_wp2
        go_region
        go_wp2_with fail
        generalize hW : World.setCell _ _ _ = W2
        have hrow2 : W2.heap[sb]? = some (.cells (TCells (s.start ⟨g, kind, obj, off, k, en, fn, pc, stack⟩ ⟨cap, sent, recv, closed⟩ l snd rcv) bc bm bd (.slice (some ⟨gb, 0, none⟩) l.length l.length)) 83 (0, 0)) := by
          rw [← hW]
          exact heap_setCell_same _ _ _ _ _ _ (heap_setCell_same _ _ _ _ _ _ (heap_setCell_same _ _ _ _ _ _ (heap_setCell_same _ _ _ _ _ _ (heap_setCell_same _ _ _ _ _ _ (heap_setCell_same _ _ _ _ _ _ HR1.out)))))
        have hb3 : But [sb] w1 W2 := by
          rw [← hW]
          exact ((((((But.refl _ _).setCell (.inl (by simp)) _).setCell (.inl (by simp)) _).setCell (.inl (by simp)) _).setCell (.inl (by simp)) _).setCell (.inl (by simp)) _).setCell (.inl (by simp)) _
        clear hW
        have hm4 : MapOf iK W2 Try.prog 3 bc (N + 1) (chanMap (upd s.chans obj ⟨cap, sent, recv, closed⟩)) := by
          rw [← chanMap_upd]; exact HM2.out.but hb3 (by simpa using hne)
        refine (count_any sb bc (N + 1) (upd s.chans obj ⟨cap, sent, recv, closed⟩) ⟨g, kind, obj, off, k, en, fn, pc, stack⟩ W2 (cell_of_row W2 sb 2 _ _ _ hrow2) hm4 (by omega) hiobj (fun c hc => by rw [upd_same] at hc; cases hc; exact ⟨⟨hs1, hs3⟩, hr1, hr3⟩)).mono ?_
        rintro r w3 ⟨rfl, hm5, hb4⟩
        have hfin : TRep w3 sb bc bm bd (N + 2) (s.start ⟨g, kind, obj, off, k, en, fn, pc, stack⟩ ⟨cap, sent, recv, closed⟩ l snd rcv) (.slice (some ⟨gb, 0, none⟩) l.length l.length) ∧ But [sb, bc] w w3 := by
          have hbt : But [sb, bc] w w3 := (((But.refl _ _).below HB1.out).trans (HB2.out.mono (by simp))).trans ((hb3.mono (by simp)).trans (hb4.mono (by simp)))
          have hsz1 := HB2.out.size
          have hsz2 := hb3.size
          refine ⟨⟨(hb4.block sb (by omega) (by simpa using Ne.symm hne)).trans hrow2, ⟨_, _, rfl, Nat.le_refl _, fun hl0 => ⟨gb, 0, rfl, z4, fun i x hx => ?_⟩⟩, ?_, (HH.out.mus.but hbt ?_).mono (by omega), (HH.out.done.but hbt ?_).mono (by omega), HH.out.ncm, HH.out.ncd, HH.out.nmd⟩, hbt⟩
          · have hx0 := HL.out i x hx
            have hlt0 := block_lt_of_cell hx0
            dsimp only at hlt0
            have hgbc : gb ≠ bc := by omega
            rw [Nat.zero_add]
            exact (hb4.cell (p := ⟨gb, i, none⟩) (by dsimp only; omega) (by simpa using hgbc)).trans ((hb3.cell (p := ⟨gb, i, none⟩) (by dsimp only; omega) (by simpa using z4)).trans ((HB2.out.cell (p := ⟨gb, i, none⟩) hlt0 (by simpa using hgbc)).trans hx0))
          · have h1 : upd (upd s.chans obj ⟨cap, sent, recv, closed⟩) obj (((upd s.chans obj ⟨cap, sent, recv, closed⟩ obj).getD ch0).count kind) = upd s.chans obj ((⟨cap, sent, recv, closed⟩ : Ch).count kind) := by
              rw [upd_upd, upd_same]; rfl
            rw [h1] at hm5
            exact hm5
          · simp only [List.mem_cons, List.not_mem_nil, or_false, not_or]; exact ⟨HH.out.mus.ne_cells HH.out.row, Ne.symm HH.out.ncm⟩
          · simp only [List.mem_cons, List.not_mem_nil, or_false, not_or]; exact ⟨HH.out.done.ne_cells HH.out.row, Ne.symm HH.out.ncd⟩
        have HF := Lib.hid hfin; clear hfin hm5 hb4 hm4 hb3 hrow2
        go_wp2
        go_ret
        rw [HOP.out]
        exact ⟨rfl, ⟨_, HF.out.1⟩, HF.out.2⟩
end Go.Proofs.Ytohliamalaifhaa
end
section
set_option linter.unusedSimpArgs false
set_option linter.unusedVariables false
namespace Go.Proofs.Ytohliamalaifhaa
open Go.RowKit

/-- What the walks of proceed know of the world behind the first box. -/
structure PW (W : World) (sb bc eb b o c : Nat) (g kind obj off k en fn pc stack : Int) (k0 : Int) (ln : Nat) (gobj gk gn snd rcv : Int) : Prop where
  c2 : W.cell? ⟨sb, 2, none⟩ = some (.map (some bc))
  c5 : W.cell? ⟨sb, 5, none⟩ = some (.slice (some ⟨b, o, none⟩) ln c)
  c6 : W.cell? ⟨sb, 6, none⟩ = some (.int .i64 gobj)
  c7 : W.cell? ⟨sb, 7, none⟩ = some (.int .i64 gk)
  c8 : W.cell? ⟨sb, 8, none⟩ = some (.int .i64 gn)
  c9 : W.cell? ⟨sb, 9, none⟩ = some (.int .i64 snd)
  c10 : W.cell? ⟨sb, 10, none⟩ = some (.int .i64 rcv)
  f5 : W.frozen? ⟨sb, 5, none⟩ = false
  f9 : W.frozen? ⟨sb, 9, none⟩ = false
  f10 : W.frozen? ⟨sb, 10, none⟩ = false
  ck : W.cell? ⟨b, o, none⟩ = some (.int .i64 k0)
  e0 : W.cell? ⟨eb, 0, none⟩ = some (.int .i64 g)
  e1 : W.cell? ⟨eb, 1, none⟩ = some (.int .i64 kind)
  e2 : W.cell? ⟨eb, 2, none⟩ = some (.int .i64 obj)
  e3 : W.cell? ⟨eb, 3, none⟩ = some (.int .i64 off)
  e4 : W.cell? ⟨eb, 4, none⟩ = some (.int .i64 k)
  e5 : W.cell? ⟨eb, 5, none⟩ = some (.int .i64 en)
  e6 : W.cell? ⟨eb, 6, none⟩ = some (.int .i64 fn)
  e7 : W.cell? ⟨eb, 7, none⟩ = some (.int .i64 pc)
  e8 : W.cell? ⟨eb, 8, none⟩ = some (.int .i64 stack)

theorem PW.make {sb bc bm bd N : Nat} {s : TS} {kv : Value} {w : World} (h : TRep w sb bc bm bd N s kv) (g kind obj off k en fn pc stack : Int) (k0 : Int) (ks : List Int) (hk : s.grp.kinds = k0 :: ks) :
    ∃ b o c, kv = .slice (some ⟨b, o, none⟩) (ks.length + 1) c ∧ ks.length + 1 ≤ c ∧ b ≠ sb ∧ b < w.heap.size ∧ (∀ i x, s.grp.kinds[i]? = some x → w.cell? ⟨b, o + i, none⟩ = some (.int .i64 x)) ∧
      PW (w.alloc (.cells #[.int .i64 g, .int .i64 kind, .int .i64 obj, .int .i64 off, .int .i64 k, .int .i64 en, .int .i64 fn, .int .i64 pc, .int .i64 stack] 33)) sb bc w.heap.size b o c g kind obj off k en fn pc stack k0 (ks.length + 1) s.grp.obj s.grp.k s.grp.n s.grp.snd s.grp.rcv := by
  obtain ⟨A, c, hkv, hlc, hh⟩ := h.kinds
  obtain ⟨b, o, rfl, hb, hc⟩ := hh (by rw [hk]; simp)
  have hlen : s.grp.kinds.length = ks.length + 1 := by rw [hk]; rfl
  rw [hlen] at hkv hlc
  have hck := hc 0 k0 (by rw [hk]; rfl)
  rw [Nat.add_zero] at hck
  have hblt := block_lt_of_cell hck
  dsimp only at hblt
  have hslt := h.lt
  have old : ∀ (q j : Nat) (v : Value) (O : Obj), q < w.heap.size → w.cell? ⟨q, j, none⟩ = some v → (w.alloc O).cell? ⟨q, j, none⟩ = some v := fun q j v O hq hv => by
    rw [World.cell?_alloc_lt w O ⟨q, j, none⟩ hq]; exact hv
  have oldf : ∀ (j : Nat) (O : Obj), (w.alloc O).frozen? ⟨sb, j, none⟩ = false := fun j O => by
    rw [((Below.refl w.heap.size w).alloc (Nat.le_refl _) O).frozen (p := ⟨sb, j, none⟩) hslt]; exact h.frozen j
  refine ⟨b, o, c, hkv, hlc, hb, hblt, hc, ?_⟩
  have nw : ∀ (j : Nat) (cs : Array Value), (w.alloc (.cells cs 33)).cell? ⟨w.heap.size, j, none⟩ = cs[j]? := fun j cs => cell_of_row _ _ _ _ _ _ (heap_alloc_new w _)
  exact ⟨old _ _ _ _ hslt (h.cell 2), old _ _ _ _ hslt (by rw [h.cell 5, ← hkv]; rfl), old _ _ _ _ hslt (h.cell 6), old _ _ _ _ hslt (h.cell 7), old _ _ _ _ hslt (h.cell 8), old _ _ _ _ hslt (h.cell 9), old _ _ _ _ hslt (h.cell 10),
    oldf _ _, oldf _ _, oldf _ _, old _ _ _ _ hblt hck, nw _ _, nw _ _, nw _ _, nw _ _, nw _ _, nw _ _, nw _ _, nw _ _, nw _ _⟩

theorem proceed_fin {sb bc bm bd N : Nat} {s : TS} {kv : Value} {w W2 : World} (h : TRep w sb bc bm bd N s kv) (hN : N + 2 < maxLen) (e : Ev) (hio : I64 e.obj)
    (hcb : ∀ c, (s.chans e.obj).getD ch0 = c → (0 ≤ c.sent ∧ c.sent ≤ 5000) ∧ (0 ≤ c.recv ∧ c.recv ≤ 5000)) {kv2 : Value} {g' : Grp}
    (hrow2 : W2.heap[sb]? = some (.cells (TCells { s with grp := g' } bc bm bd kv2) 83 (0, 0))) (hb2 : But [sb] w W2) (hk2 : KindsAt W2 kv2 g'.kinds sb) :
    Calls Try.prog 54 #[.pointer (some ⟨sb, 0, none⟩), e.val] W2 fun r w3 => r = .returned (.tuple #[]) ∧ ((∃ kv', TRep w3 sb bc bm bd (N + 2) { s.count e with grp := g' } kv') ∧ But [sb, bc] w w3) := by
  have hne := h.chans.ne_cells h.row
  have hlt := h.lt
  have hsz := hb2.size
  refine (count_any sb bc N s.chans e W2 (cell_of_row W2 sb 2 _ _ _ hrow2) (h.chans.but hb2 (by simpa using hne)) (by omega) hio hcb).mono ?_
  rintro r w3 ⟨rfl, hm5, hb4⟩
  have hbt : But [sb, bc] w w3 := (hb2.mono (by simp)).trans (hb4.mono (by simp))
  refine ⟨rfl, ⟨kv2, ⟨(hb4.block sb (by omega) (by simpa using Ne.symm hne)).trans hrow2, hk2.keep hb4 (fun b cs t fr hc _ hm => ?_), hm5.mono (by omega), (h.mus.but hbt ?_).mono (by omega), (h.done.but hbt ?_).mono (by omega), h.ncm, h.ncd, h.nmd⟩⟩, hbt⟩
  · simp only [List.mem_singleton] at hm; subst hm
    exact absurd rfl ((h.chans.but hb2 (by simpa using hne)).ne_cells hc)
  · simp only [List.mem_cons, List.not_mem_nil, or_false, not_or]; exact ⟨h.mus.ne_cells h.row, Ne.symm h.ncm⟩
  · simp only [List.mem_cons, List.not_mem_nil, or_false, not_or]; exact ⟨h.done.ne_cells h.row, Ne.symm h.ncd⟩

theorem below_drewN {B : Nat} {a w : World} (h : Below B a w) (n : Nat) : Below B a (w.drewN n) := ⟨h.os, h.tape, h.output, h.size, h.block⟩

set_option maxRecDepth 100000 in
set_option maxHeartbeats 4000000 in
theorem proceed_mis {sb bc bm bd N : Nat} {s : TS} {kv : Value} (w : World) (h : TRep w sb bc bm bd N s kv) (e : Ev) (k0 : Int) (ks : List Int) (hk : s.grp.kinds = k0 :: ks)
    (hm : (e.kind != k0) = true ∨ ((e.kind != k0) = false ∧ (e.obj != s.grp.obj) = true) ∨ ((e.kind != k0) = false ∧ (e.obj != s.grp.obj) = false ∧ (e.k != s.grp.k) = true) ∨ ((e.kind != k0) = false ∧ (e.obj != s.grp.obj) = false ∧ (e.k != s.grp.k) = false ∧ (e.n != s.grp.n) = true)) :
    Calls Try.prog 47 #[.pointer (some ⟨sb, 0, none⟩), e.val] w fun r w' => r = .returned (.bool false) ∧ Below w.heap.size w w' := by
  obtain ⟨g, kind, obj, off, k, en, fn, pc, stack⟩ := e
  obtain ⟨b, o, c, hkv, hlc, hbsb, hblt, hcs, hp⟩ := PW.make h g kind obj off k en fn pc stack k0 ks hk
  have hsb := h.lt
  have HH := Lib.hid h; clear h
  have HK := Lib.hid hk; clear hk
  have HKV := Lib.hid hkv; clear hkv
  have HCS := Lib.hid hcs; clear hcs
  dsimp only at *
  unfold Ev.val
  go_enter Try.func47, Try.ntmps47
  go_upto_region 1 with fail
  generalize hW : World.alloc w _ = W at *
  have hB : Below w.heap.size w W := by rw [← hW]; exact (Below.refl _ _).alloc (Nat.le_refl _) _
  have hz : w.heap.size < W.heap.size := by rw [← hW]; simp
  clear hW
  have HB := Lib.hid hB; clear hB
  obtain ⟨c2, c5, c6, c7, c8, c9, c10, f5, f9, f10, ck, e0, e1, e2, e3, e4, e5, e6, e7, e8⟩ := hp
  rcases hm with h1 | ⟨h1, h2⟩ | ⟨h1, h2, h3⟩ | ⟨h1, h2, h3, h4⟩
  all_goals
    go_wp2
    go_quiet (fail)
    go_wp2
    go_ret
    exact ⟨rfl, by repeat (first | exact HB.out | refine below_drewN ?_ _)⟩

set_option maxRecDepth 100000 in
set_option maxHeartbeats 4000000 in
theorem proceed_noS {sb bc bm bd N : Nat} {s : TS} {kv : Value} (w : World) (h : TRep w sb bc bm bd N s kv) (e : Ev) (k0 : Int) (ks : List Int) (hk : s.grp.kinds = k0 :: ks)
    (h1 : (e.kind != k0) = false) (h2 : (e.obj != s.grp.obj) = false) (h3 : (e.k != s.grp.k) = false) (h4 : (e.n != s.grp.n) = false) (hs : sendsB e.kind = true) (hm : (decide (s.grp.snd < 0) = true ∧ (e.g == s.grp.rcv) = true) ∨ (decide (s.grp.snd < 0) = false ∧ decide (0 ≤ s.grp.snd) = true ∧ (e.g != s.grp.snd) = true)) :
    Calls Try.prog 47 #[.pointer (some ⟨sb, 0, none⟩), e.val] w fun r w' => r = .returned (.bool false) ∧ Below w.heap.size w w' := by
  obtain ⟨g, kind, obj, off, k, en, fn, pc, stack⟩ := e
  obtain ⟨b, o, c, hkv, hlc, hbsb, hblt, hcs, hp⟩ := PW.make h g kind obj off k en fn pc stack k0 ks hk
  have hsb := h.lt
  have HH := Lib.hid h; clear h
  have HK := Lib.hid hk; clear hk
  have HKV := Lib.hid hkv; clear hkv
  have HCS := Lib.hid hcs; clear hcs
  dsimp only at *
  unfold Ev.val
  go_enter Try.func47, Try.ntmps47
  go_upto_region 1 with fail
  generalize hW : World.alloc w _ = W at *
  have hB : Below w.heap.size w W := by rw [← hW]; exact (Below.refl _ _).alloc (Nat.le_refl _) _
  have hz : w.heap.size < W.heap.size := by rw [← hW]; simp
  clear hW
  have HB := Lib.hid hB; clear hB
  obtain ⟨c2, c5, c6, c7, c8, c9, c10, f5, f9, f10, ck, e0, e1, e2, e3, e4, e5, e6, e7, e8⟩ := hp
  rcases hm with ⟨h5, h6⟩ | ⟨h5, h6, h7⟩
  all_goals
    go_wp2
    go_quiet (fail)
    go_wp2
    go_quiet (fail)
    go_wp2_with (go_at_call 53; refine (sends_any _ _).mono ?_; rintro e w' ⟨rfl, rfl⟩)
    go_quiet (fail)
    go_wp2
    go_quiet (fail)
    go_wp2
    go_ret
    exact ⟨rfl, by repeat (first | exact HB.out | refine below_drewN ?_ _)⟩

set_option maxRecDepth 100000 in
set_option maxHeartbeats 4000000 in
theorem proceed_yesS {sb bc bm bd N : Nat} {s : TS} {kv : Value} (w : World) (h : TRep w sb bc bm bd N s kv) (hN : N + 2 < maxLen) (e : Ev) (hio : I64 e.obj) (k0 : Int) (ks : List Int) (hk : s.grp.kinds = k0 :: ks)
    (hcb : ∀ c, (s.chans e.obj).getD ch0 = c → (0 ≤ c.sent ∧ c.sent ≤ 5000) ∧ (0 ≤ c.recv ∧ c.recv ≤ 5000))
    (h1 : (e.kind != k0) = false) (h2 : (e.obj != s.grp.obj) = false) (h3 : (e.k != s.grp.k) = false) (h4 : (e.n != s.grp.n) = false) (hs : sendsB e.kind = true) (hm : (decide (s.grp.snd < 0) = true ∧ (e.g == s.grp.rcv) = false ∧ decide (0 ≤ s.grp.snd) = false) ∨ (decide (s.grp.snd < 0) = false ∧ decide (0 ≤ s.grp.snd) = true ∧ (e.g != s.grp.snd) = false)) :
    Calls Try.prog 47 #[.pointer (some ⟨sb, 0, none⟩), e.val] w fun r w' => r = .returned (.bool true) ∧ (∃ kv', TRep w' sb bc bm bd (N + 2) { s.count e with grp := s.grp.next e } kv') ∧ But [sb, bc] w w' := by
  obtain ⟨g, kind, obj, off, k, en, fn, pc, stack⟩ := e
  obtain ⟨b, o, c, hkv, hlc, hbsb, hblt, hcs, hp⟩ := PW.make h g kind obj off k en fn pc stack k0 ks hk
  have hsb := h.lt
  have HH := Lib.hid h; clear h
  have HK := Lib.hid hk; clear hk
  have HKV := Lib.hid hkv; clear hkv
  have HCS := Lib.hid hcs; clear hcs
  dsimp only at *
  unfold Ev.val
  go_enter Try.func47, Try.ntmps47
  go_upto_region 1 with fail
  generalize hW : World.alloc w _ = W at *
  have hB : Below w.heap.size w W := by rw [← hW]; exact (Below.refl _ _).alloc (Nat.le_refl _) _
  have hz : w.heap.size < W.heap.size := by rw [← hW]; simp
  clear hW
  have HB := Lib.hid hB; clear hB
  obtain ⟨c2, c5, c6, c7, c8, c9, c10, f5, f9, f10, ck, e0, e1, e2, e3, e4, e5, e6, e7, e8⟩ := hp
  have HCB := Lib.hid hcb; clear hcb
  rcases hm with ⟨h5, h6, h7⟩ | ⟨h5, h6, h7⟩
  all_goals
    go_wp2
    go_quiet (fail)
    go_wp2
    go_quiet (fail)
    go_wp2_with (go_at_call 53; refine (sends_any _ _).mono ?_; rintro e w' ⟨rfl, rfl⟩)
    go_quiet (fail)
    go_wp2
    go_quiet (fail)
    go_upto_region 10 with fail
    generalize hV : World.setCell _ _ _ = V
    have hrow : V.heap[sb]? = some (.cells ((TCells s bc bm bd kv).setIfInBounds 9 (.int .i64 g)) 83 (0, 0)) := by
      rw [← hV]; exact heap_setCell_same _ _ _ _ _ _ ((HB.out.block sb hsb).trans HH.out.row)
    have hbV : But [sb] W V := by rw [← hV]; exact ((But.refl _ _).drewN _).setCell (.inl (by simp)) _
    clear hV c2 c5 c6 c7 c8 c9 c10 f5 f9 f10 ck
    have ke : ∀ j v, W.cell? ⟨w.heap.size, j, none⟩ = some v → V.cell? ⟨w.heap.size, j, none⟩ = some v := fun j v hv => (hbV.cell (p := ⟨w.heap.size, j, none⟩) hz (by simp; omega)).trans hv
    have e0 := ke _ _ e0
    have e1 := ke _ _ e1
    have e2 := ke _ _ e2
    have e3 := ke _ _ e3
    have e4 := ke _ _ e4
    have e5 := ke _ _ e5
    have e6 := ke _ _ e6
    have e7 := ke _ _ e7
    have e8 := ke _ _ e8
    have c5 : V.cell? ⟨sb, 5, none⟩ = some (.slice (some ⟨b, o, none⟩) (ks.length + 1) c) := by rw [cell_of_row V sb 5 _ _ _ hrow, ← HKV.out]; rfl
    have f5 : V.frozen? ⟨sb, 5, none⟩ = false := frozen_of_row V sb 5 _ _ hrow
    have HR := Lib.hid hrow; clear hrow ke
    have HBV := Lib.hid hbV; clear hbV
    by_cases hc1 : c = 1
    · subst hc1
      go_wp2_with fail
      have hks : ks = [] := by cases ks with | nil => rfl | cons a l => simp at hlc
      generalize hW2 : World.setCell V _ _ = W2
      have hrow2 : W2.heap[sb]? = some (.cells (TCells { s with grp := s.grp.next ⟨g, kind, obj, off, k, en, fn, pc, stack⟩ } bc bm bd (.slice (some ⟨b, o, none⟩) 0 0)) 83 (0, 0)) := by
        rw [← hW2, heap_setCell_same _ _ _ _ _ _ HR.out]; simp [TCells, Grp.next, hs]
      have hb2 : But [sb] w W2 := by
        rw [← hW2]; exact (((But.refl _ _).below HB.out).trans HBV.out).setCell (.inl (by simp)) _
      clear hW2
      have hk2 : KindsAt W2 (.slice (some ⟨b, o, none⟩) 0 0) (s.grp.next ⟨g, kind, obj, off, k, en, fn, pc, stack⟩).kinds sb := by
        have hkk : (s.grp.next ⟨g, kind, obj, off, k, en, fn, pc, stack⟩).kinds = [] := by simp [Grp.next, hs, HK.out, hks]
        rw [hkk]; exact ⟨_, _, rfl, Nat.le_refl _, fun h0 => absurd h0 (by simp)⟩
      refine (proceed_fin HH.out hN ⟨g, kind, obj, off, k, en, fn, pc, stack⟩ hio HCB.out hrow2 hb2 hk2).mono ?_
      rintro r w3 ⟨rfl, hfin⟩
      have HF := Lib.hid hfin; clear hfin hrow2 hb2 hk2
      go_wp2
      go_ret
      exact ⟨rfl, HF.out⟩
    · have hc2 : 1 < c := by omega
      go_wp2_with fail
      generalize hW2 : World.setCell V _ _ = W2
      have hrow2 : W2.heap[sb]? = some (.cells (TCells { s with grp := s.grp.next ⟨g, kind, obj, off, k, en, fn, pc, stack⟩ } bc bm bd (.slice (some ⟨b, o + 1, none⟩) ks.length (c - 1))) 83 (0, 0)) := by
        rw [← hW2, heap_setCell_same _ _ _ _ _ _ HR.out]; simp [TCells, Grp.next, hs]
      have hb2 : But [sb] w W2 := by
        rw [← hW2]; exact (((But.refl _ _).below HB.out).trans HBV.out).setCell (.inl (by simp)) _
      clear hW2
      have hk2 : KindsAt W2 (.slice (some ⟨b, o + 1, none⟩) ks.length (c - 1)) (s.grp.next ⟨g, kind, obj, off, k, en, fn, pc, stack⟩).kinds sb := by
        have hkk : (s.grp.next ⟨g, kind, obj, off, k, en, fn, pc, stack⟩).kinds = ks := by simp [Grp.next, hs, HK.out]
        rw [hkk]
        refine ⟨_, _, rfl, by omega, fun h0 => ⟨b, o + 1, rfl, hbsb, fun i x hx => ?_⟩⟩
        have hx0 := HCS.out (i + 1) x (by rw [HK.out]; simpa using hx)
        rw [show o + 1 + i = o + (i + 1) by omega]
        exact (hb2.cell (p := ⟨b, o + (i + 1), none⟩) hblt (by simpa using hbsb)).trans hx0
      refine (proceed_fin HH.out hN ⟨g, kind, obj, off, k, en, fn, pc, stack⟩ hio HCB.out hrow2 hb2 hk2).mono ?_
      rintro r w3 ⟨rfl, hfin⟩
      have HF := Lib.hid hfin; clear hfin hrow2 hb2 hk2
      go_wp2
      go_ret
      exact ⟨rfl, HF.out⟩

set_option maxRecDepth 100000 in
set_option maxHeartbeats 4000000 in
theorem proceed_noR {sb bc bm bd N : Nat} {s : TS} {kv : Value} (w : World) (h : TRep w sb bc bm bd N s kv) (e : Ev) (k0 : Int) (ks : List Int) (hk : s.grp.kinds = k0 :: ks)
    (h1 : (e.kind != k0) = false) (h2 : (e.obj != s.grp.obj) = false) (h3 : (e.k != s.grp.k) = false) (h4 : (e.n != s.grp.n) = false) (hs : sendsB e.kind = false) (hm : (decide (s.grp.rcv < 0) = true ∧ (e.g == s.grp.snd) = true) ∨ (decide (s.grp.rcv < 0) = false ∧ decide (0 ≤ s.grp.rcv) = true ∧ (e.g != s.grp.rcv) = true)) :
    Calls Try.prog 47 #[.pointer (some ⟨sb, 0, none⟩), e.val] w fun r w' => r = .returned (.bool false) ∧ Below w.heap.size w w' := by
  obtain ⟨g, kind, obj, off, k, en, fn, pc, stack⟩ := e
  obtain ⟨b, o, c, hkv, hlc, hbsb, hblt, hcs, hp⟩ := PW.make h g kind obj off k en fn pc stack k0 ks hk
  have hsb := h.lt
  have HH := Lib.hid h; clear h
  have HK := Lib.hid hk; clear hk
  have HKV := Lib.hid hkv; clear hkv
  have HCS := Lib.hid hcs; clear hcs
  dsimp only at *
  unfold Ev.val
  go_enter Try.func47, Try.ntmps47
  go_upto_region 1 with fail
  generalize hW : World.alloc w _ = W at *
  have hB : Below w.heap.size w W := by rw [← hW]; exact (Below.refl _ _).alloc (Nat.le_refl _) _
  have hz : w.heap.size < W.heap.size := by rw [← hW]; simp
  clear hW
  have HB := Lib.hid hB; clear hB
  obtain ⟨c2, c5, c6, c7, c8, c9, c10, f5, f9, f10, ck, e0, e1, e2, e3, e4, e5, e6, e7, e8⟩ := hp
  rcases hm with ⟨h5, h6⟩ | ⟨h5, h6, h7⟩
  all_goals
    go_wp2
    go_quiet (fail)
    go_wp2
    go_quiet (fail)
    go_wp2_with (go_at_call 53; refine (sends_any _ _).mono ?_; rintro e w' ⟨rfl, rfl⟩)
    go_quiet (fail)
    go_wp2
    go_ret
    exact ⟨rfl, by repeat (first | exact HB.out | refine below_drewN ?_ _)⟩

set_option maxRecDepth 100000 in
set_option maxHeartbeats 4000000 in
theorem proceed_yesR {sb bc bm bd N : Nat} {s : TS} {kv : Value} (w : World) (h : TRep w sb bc bm bd N s kv) (hN : N + 2 < maxLen) (e : Ev) (hio : I64 e.obj) (k0 : Int) (ks : List Int) (hk : s.grp.kinds = k0 :: ks)
    (hcb : ∀ c, (s.chans e.obj).getD ch0 = c → (0 ≤ c.sent ∧ c.sent ≤ 5000) ∧ (0 ≤ c.recv ∧ c.recv ≤ 5000))
    (h1 : (e.kind != k0) = false) (h2 : (e.obj != s.grp.obj) = false) (h3 : (e.k != s.grp.k) = false) (h4 : (e.n != s.grp.n) = false) (hs : sendsB e.kind = false) (hm : (decide (s.grp.rcv < 0) = true ∧ (e.g == s.grp.snd) = false ∧ decide (0 ≤ s.grp.rcv) = false) ∨ (decide (s.grp.rcv < 0) = false ∧ decide (0 ≤ s.grp.rcv) = true ∧ (e.g != s.grp.rcv) = false)) :
    Calls Try.prog 47 #[.pointer (some ⟨sb, 0, none⟩), e.val] w fun r w' => r = .returned (.bool true) ∧ (∃ kv', TRep w' sb bc bm bd (N + 2) { s.count e with grp := s.grp.next e } kv') ∧ But [sb, bc] w w' := by
  obtain ⟨g, kind, obj, off, k, en, fn, pc, stack⟩ := e
  obtain ⟨b, o, c, hkv, hlc, hbsb, hblt, hcs, hp⟩ := PW.make h g kind obj off k en fn pc stack k0 ks hk
  have hsb := h.lt
  have HH := Lib.hid h; clear h
  have HK := Lib.hid hk; clear hk
  have HKV := Lib.hid hkv; clear hkv
  have HCS := Lib.hid hcs; clear hcs
  dsimp only at *
  unfold Ev.val
  go_enter Try.func47, Try.ntmps47
  go_upto_region 1 with fail
  generalize hW : World.alloc w _ = W at *
  have hB : Below w.heap.size w W := by rw [← hW]; exact (Below.refl _ _).alloc (Nat.le_refl _) _
  have hz : w.heap.size < W.heap.size := by rw [← hW]; simp
  clear hW
  have HB := Lib.hid hB; clear hB
  obtain ⟨c2, c5, c6, c7, c8, c9, c10, f5, f9, f10, ck, e0, e1, e2, e3, e4, e5, e6, e7, e8⟩ := hp
  have HCB := Lib.hid hcb; clear hcb
  rcases hm with ⟨h5, h6, h7⟩ | ⟨h5, h6, h7⟩
  all_goals
    go_wp2
    go_quiet (fail)
    go_wp2
    go_quiet (fail)
    go_wp2_with (go_at_call 53; refine (sends_any _ _).mono ?_; rintro e w' ⟨rfl, rfl⟩)
    go_quiet (fail)
    go_upto_region 10 with fail
    generalize hV : World.setCell _ _ _ = V
    have hrow : V.heap[sb]? = some (.cells ((TCells s bc bm bd kv).setIfInBounds 10 (.int .i64 g)) 83 (0, 0)) := by
      rw [← hV]; exact heap_setCell_same _ _ _ _ _ _ ((HB.out.block sb hsb).trans HH.out.row)
    have hbV : But [sb] W V := by rw [← hV]; exact ((But.refl _ _).drewN _).setCell (.inl (by simp)) _
    clear hV c2 c5 c6 c7 c8 c9 c10 f5 f9 f10 ck
    have ke : ∀ j v, W.cell? ⟨w.heap.size, j, none⟩ = some v → V.cell? ⟨w.heap.size, j, none⟩ = some v := fun j v hv => (hbV.cell (p := ⟨w.heap.size, j, none⟩) hz (by simp; omega)).trans hv
    have e0 := ke _ _ e0
    have e1 := ke _ _ e1
    have e2 := ke _ _ e2
    have e3 := ke _ _ e3
    have e4 := ke _ _ e4
    have e5 := ke _ _ e5
    have e6 := ke _ _ e6
    have e7 := ke _ _ e7
    have e8 := ke _ _ e8
    have c5 : V.cell? ⟨sb, 5, none⟩ = some (.slice (some ⟨b, o, none⟩) (ks.length + 1) c) := by rw [cell_of_row V sb 5 _ _ _ hrow, ← HKV.out]; rfl
    have f5 : V.frozen? ⟨sb, 5, none⟩ = false := frozen_of_row V sb 5 _ _ hrow
    have HR := Lib.hid hrow; clear hrow ke
    have HBV := Lib.hid hbV; clear hbV
    by_cases hc1 : c = 1
    · subst hc1
      go_wp2_with fail
      have hks : ks = [] := by cases ks with | nil => rfl | cons a l => simp at hlc
      generalize hW2 : World.setCell V _ _ = W2
      have hrow2 : W2.heap[sb]? = some (.cells (TCells { s with grp := s.grp.next ⟨g, kind, obj, off, k, en, fn, pc, stack⟩ } bc bm bd (.slice (some ⟨b, o, none⟩) 0 0)) 83 (0, 0)) := by
        rw [← hW2, heap_setCell_same _ _ _ _ _ _ HR.out]; simp [TCells, Grp.next, hs]
      have hb2 : But [sb] w W2 := by
        rw [← hW2]; exact (((But.refl _ _).below HB.out).trans HBV.out).setCell (.inl (by simp)) _
      clear hW2
      have hk2 : KindsAt W2 (.slice (some ⟨b, o, none⟩) 0 0) (s.grp.next ⟨g, kind, obj, off, k, en, fn, pc, stack⟩).kinds sb := by
        have hkk : (s.grp.next ⟨g, kind, obj, off, k, en, fn, pc, stack⟩).kinds = [] := by simp [Grp.next, hs, HK.out, hks]
        rw [hkk]; exact ⟨_, _, rfl, Nat.le_refl _, fun h0 => absurd h0 (by simp)⟩
      refine (proceed_fin HH.out hN ⟨g, kind, obj, off, k, en, fn, pc, stack⟩ hio HCB.out hrow2 hb2 hk2).mono ?_
      rintro r w3 ⟨rfl, hfin⟩
      have HF := Lib.hid hfin; clear hfin hrow2 hb2 hk2
      go_wp2
      go_ret
      exact ⟨rfl, HF.out⟩
    · have hc2 : 1 < c := by omega
      go_wp2_with fail
      generalize hW2 : World.setCell V _ _ = W2
      have hrow2 : W2.heap[sb]? = some (.cells (TCells { s with grp := s.grp.next ⟨g, kind, obj, off, k, en, fn, pc, stack⟩ } bc bm bd (.slice (some ⟨b, o + 1, none⟩) ks.length (c - 1))) 83 (0, 0)) := by
        rw [← hW2, heap_setCell_same _ _ _ _ _ _ HR.out]; simp [TCells, Grp.next, hs]
      have hb2 : But [sb] w W2 := by
        rw [← hW2]; exact (((But.refl _ _).below HB.out).trans HBV.out).setCell (.inl (by simp)) _
      clear hW2
      have hk2 : KindsAt W2 (.slice (some ⟨b, o + 1, none⟩) ks.length (c - 1)) (s.grp.next ⟨g, kind, obj, off, k, en, fn, pc, stack⟩).kinds sb := by
        have hkk : (s.grp.next ⟨g, kind, obj, off, k, en, fn, pc, stack⟩).kinds = ks := by simp [Grp.next, hs, HK.out]
        rw [hkk]
        refine ⟨_, _, rfl, by omega, fun h0 => ⟨b, o + 1, rfl, hbsb, fun i x hx => ?_⟩⟩
        have hx0 := HCS.out (i + 1) x (by rw [HK.out]; simpa using hx)
        rw [show o + 1 + i = o + (i + 1) by omega]
        exact (hb2.cell (p := ⟨b, o + (i + 1), none⟩) hblt (by simpa using hbsb)).trans hx0
      refine (proceed_fin HH.out hN ⟨g, kind, obj, off, k, en, fn, pc, stack⟩ hio HCB.out hrow2 hb2 hk2).mono ?_
      rintro r w3 ⟨rfl, hfin⟩
      have HF := Lib.hid hfin; clear hfin hrow2 hb2 hk2
      go_wp2
      go_ret
      exact ⟨rfl, HF.out⟩

theorem proceed_any {sb bc bm bd N : Nat} {s : TS} {kv : Value} (w : World) (h : TRep w sb bc bm bd N s kv) (hs : s.wf) (hN : N + 2 < maxLen) (e : Ev) (hv : e.valid = true) (ho : s.isOpen = true) :
    Calls Try.prog 47 #[.pointer (some ⟨sb, 0, none⟩), e.val] w fun r w' => r = .returned (.bool (s.proceed e).isSome) ∧ (∃ kv', TRep w' sb bc bm bd (N + 2) ((s.proceed e).getD s) kv') ∧ But [sb, bc] w w' := by
  obtain ⟨k0, ks, hk⟩ : ∃ k0 ks, s.grp.kinds = k0 :: ks := by
    unfold TS.isOpen at ho
    cases hkk : s.grp.kinds with
    | nil => rw [hkk] at ho; simp at ho
    | cons a l => exact ⟨a, l, rfl⟩
  have hio : I64 e.obj := by have := Ev.valid_obj hv; exact ⟨by omega, by omega⟩
  have hcb : ∀ c, (s.chans e.obj).getD ch0 = c → (0 ≤ c.sent ∧ c.sent ≤ 5000) ∧ (0 ≤ c.recv ∧ c.recv ≤ 5000) := by
    rintro c rfl
    have := hs.ev
    cases hc : s.chans e.obj with
    | none => simp [ch0]
    | some c => have := hs.ch _ _ hc; simp only [Option.getD_some]; omega
  have no : s.proceed e = none → ∀ {P : Prop}, (Calls Try.prog 47 #[.pointer (some ⟨sb, 0, none⟩), e.val] w fun r w' => r = .returned (.bool false) ∧ Below w.heap.size w w') →
      Calls Try.prog 47 #[.pointer (some ⟨sb, 0, none⟩), e.val] w fun r w' => r = .returned (.bool (s.proceed e).isSome) ∧ (∃ kv', TRep w' sb bc bm bd (N + 2) ((s.proceed e).getD s) kv') ∧ But [sb, bc] w w' := fun hn _ hc => by
    rw [hn]
    exact hc.mono fun r w' ⟨h1, h2⟩ => ⟨h1, ⟨kv, (h.below h2).mono (by omega)⟩, (But.refl _ _).below h2⟩
  have hfd : s.grp.fits e = (decide (e.kind = k0 ∧ e.obj = s.grp.obj ∧ e.k = s.grp.k ∧ e.n = s.grp.n) && !(decide (s.grp.own e.kind < 0 ∧ e.g = s.grp.other e.kind) || decide (0 ≤ s.grp.own e.kind ∧ e.g ≠ s.grp.own e.kind))) := by
    unfold Grp.fits; rw [hk]; rfl
  by_cases m1 : e.kind = k0 ∧ e.obj = s.grp.obj ∧ e.k = s.grp.k ∧ e.n = s.grp.n
  · obtain ⟨a1, a2, a3, a4⟩ := m1
    have b1 : (e.kind != k0) = false := by simp [a1]
    have b2 : (e.obj != s.grp.obj) = false := by simp [a2]
    have b3 : (e.k != s.grp.k) = false := by simp [a3]
    have b4 : (e.n != s.grp.n) = false := by simp [a4]
    rw [decide_eq_true (⟨a1, a2, a3, a4⟩ : _ ∧ _ ∧ _ ∧ _), Bool.true_and] at hfd
    cases hsd : sendsB e.kind with
    | true =>
      have own : s.grp.own e.kind = s.grp.snd := by unfold Grp.own; rw [if_pos hsd]
      have oth : s.grp.other e.kind = s.grp.rcv := by unfold Grp.other; rw [if_pos hsd]
      rw [own, oth] at hfd
      by_cases q1 : s.grp.snd < 0
      · by_cases q2 : e.g = s.grp.rcv
        · refine no ?_ (P := True) (proceed_noS w h e k0 ks hk b1 b2 b3 b4 hsd (.inl ⟨by simpa using q1, by simpa using q2⟩))
          unfold TS.proceed; rw [if_neg]; rw [hfd]; simp [q1, q2]
        · have hy : s.proceed e = some { s.count e with grp := s.grp.next e } := by
            unfold TS.proceed; rw [if_pos]; rw [hfd]; simp [q2]; omega
          rw [hy]
          exact proceed_yesS w h hN e hio k0 ks hk hcb b1 b2 b3 b4 hsd (.inl ⟨by simpa using q1, by simpa using q2, by simpa using q1⟩)
      · by_cases q2 : e.g = s.grp.snd
        · have hy : s.proceed e = some { s.count e with grp := s.grp.next e } := by
            unfold TS.proceed; rw [if_pos]; rw [hfd]; simp [q2]; omega
          rw [hy]
          exact proceed_yesS w h hN e hio k0 ks hk hcb b1 b2 b3 b4 hsd (.inr ⟨by simpa using q1, by simp; omega, by simpa using q2⟩)
        · refine no ?_ (P := True) (proceed_noS w h e k0 ks hk b1 b2 b3 b4 hsd (.inr ⟨by simpa using q1, by simp; omega, by simpa using q2⟩))
          unfold TS.proceed; rw [if_neg]; rw [hfd]; simp [q2]; omega
    | false =>
      have own : s.grp.own e.kind = s.grp.rcv := by unfold Grp.own; rw [if_neg (by rw [hsd]; decide)]
      have oth : s.grp.other e.kind = s.grp.snd := by unfold Grp.other; rw [if_neg (by rw [hsd]; decide)]
      rw [own, oth] at hfd
      by_cases q1 : s.grp.rcv < 0
      · by_cases q2 : e.g = s.grp.snd
        · refine no ?_ (P := True) (proceed_noR w h e k0 ks hk b1 b2 b3 b4 hsd (.inl ⟨by simpa using q1, by simpa using q2⟩))
          unfold TS.proceed; rw [if_neg]; rw [hfd]; simp [q1, q2]
        · have hy : s.proceed e = some { s.count e with grp := s.grp.next e } := by
            unfold TS.proceed; rw [if_pos]; rw [hfd]; simp [q2]; omega
          rw [hy]
          exact proceed_yesR w h hN e hio k0 ks hk hcb b1 b2 b3 b4 hsd (.inl ⟨by simpa using q1, by simpa using q2, by simpa using q1⟩)
      · by_cases q2 : e.g = s.grp.rcv
        · have hy : s.proceed e = some { s.count e with grp := s.grp.next e } := by
            unfold TS.proceed; rw [if_pos]; rw [hfd]; simp [q2]; omega
          rw [hy]
          exact proceed_yesR w h hN e hio k0 ks hk hcb b1 b2 b3 b4 hsd (.inr ⟨by simpa using q1, by simp; omega, by simpa using q2⟩)
        · refine no ?_ (P := True) (proceed_noR w h e k0 ks hk b1 b2 b3 b4 hsd (.inr ⟨by simpa using q1, by simp; omega, by simpa using q2⟩))
          unfold TS.proceed; rw [if_neg]; rw [hfd]; simp [q2]; omega
  · refine no ?_ (P := True) (proceed_mis w h e k0 ks hk ?_)
    · unfold TS.proceed; rw [if_neg]; rw [hfd, decide_eq_false m1]; simp
    · by_cases a1 : e.kind = k0
      · by_cases a2 : e.obj = s.grp.obj
        · by_cases a3 : e.k = s.grp.k
          · have a4 : e.n ≠ s.grp.n := fun a4 => m1 ⟨a1, a2, a3, a4⟩
            exact .inr (.inr (.inr ⟨by simp [a1], by simp [a2], by simp [a3], by simpa using a4⟩))
          · exact .inr (.inr (.inl ⟨by simp [a1], by simp [a2], by simpa using a3⟩))
        · exact .inr (.inl ⟨by simp [a1], by simpa using a2⟩)
      · exact .inl (by simpa using a1)

end Go.Proofs.Ytohliamalaifhaa
end
section
set_option linter.unusedSimpArgs false
set_option linter.unusedVariables false
namespace Go.Proofs.Ytohliamalaifhaa
section
variable {s : TS} {g kind obj off k en fn pc stack readers : Int} {locked : Bool}
  (hm : s.mu ⟨g, kind, obj, off, k, en, fn, pc, stack⟩ = ⟨locked, readers⟩)
include hm
theorem TS.si_eq : s.simple ⟨g, kind, obj, off, k, en, fn, pc, stack⟩ =
    if kind = 6 then (if locked = true ∨ 0 < readers then none else some { s with mus := upd s.mus (obj, off) ⟨true, readers⟩ })
    else if kind = 7 then (if locked = false then none else some { s with mus := upd s.mus (obj, off) ⟨false, readers⟩ })
    else if kind = 8 then (if locked = true then none else some { s with mus := upd s.mus (obj, off) ⟨locked, readers + 1⟩ })
    else if kind = 9 then (if readers = 0 then none else some { s with mus := upd s.mus (obj, off) ⟨locked, readers - 1⟩ })
    else if kind = 12 then (if (s.done (obj, off)).getD false = true then none else some { s with done := upd s.done (obj, off) true })
    else if kind = 13 then (if (s.done (obj, off)).getD false = true then some s else none)
    else if kind = 14 then (if k ≠ s.gor then none else some { s with gor := s.gor + 1 })
    else some s := by
  unfold TS.simple; rw [hm]
theorem TS.si_6a (h1 : (kind == 6) = true) (h2 : locked = true) : s.simple ⟨g, kind, obj, off, k, en, fn, pc, stack⟩ = none := by rw [TS.si_eq hm]; simp_all
theorem TS.si_6b (h1 : (kind == 6) = true) (h2 : 0 < readers) : s.simple ⟨g, kind, obj, off, k, en, fn, pc, stack⟩ = none := by rw [TS.si_eq hm]; simp_all
theorem TS.si_6c (h1 : (kind == 6) = true) (h2 : ¬locked = true) (h3 : readers ≤ 0) : s.simple ⟨g, kind, obj, off, k, en, fn, pc, stack⟩ = some { s with mus := upd s.mus (obj, off) ⟨true, readers⟩ } := by
  rw [TS.si_eq hm, if_pos (by simpa using h1), if_neg (by rw [not_or]; exact ⟨h2, by omega⟩)]
theorem TS.si_7a (h1 : (kind == 7) = true) (h2 : (!locked) = true) : s.simple ⟨g, kind, obj, off, k, en, fn, pc, stack⟩ = none := by rw [TS.si_eq hm]; simp_all
theorem TS.si_7b (h1 : (kind == 7) = true) (h2 : (!locked) = false) : s.simple ⟨g, kind, obj, off, k, en, fn, pc, stack⟩ = some { s with mus := upd s.mus (obj, off) ⟨false, readers⟩ } := by rw [TS.si_eq hm]; simp_all
theorem TS.si_8a (h1 : (kind == 8) = true) (h2 : locked = true) : s.simple ⟨g, kind, obj, off, k, en, fn, pc, stack⟩ = none := by rw [TS.si_eq hm]; simp_all
theorem TS.si_8b (h1 : (kind == 8) = true) (h2 : locked = false) : s.simple ⟨g, kind, obj, off, k, en, fn, pc, stack⟩ = some { s with mus := upd s.mus (obj, off) ⟨locked, readers + 1⟩ } := by rw [TS.si_eq hm]; simp_all
theorem TS.si_9a (h1 : (kind == 9) = true) (h2 : (readers == 0) = true) : s.simple ⟨g, kind, obj, off, k, en, fn, pc, stack⟩ = none := by rw [TS.si_eq hm]; simp_all
theorem TS.si_9b (h1 : (kind == 9) = true) (h2 : (readers == 0) = false) : s.simple ⟨g, kind, obj, off, k, en, fn, pc, stack⟩ = some { s with mus := upd s.mus (obj, off) ⟨locked, readers - 1⟩ } := by rw [TS.si_eq hm]; simp_all
theorem TS.si_12 (h1 : (kind == 12) = true) : s.simple ⟨g, kind, obj, off, k, en, fn, pc, stack⟩ = if (s.done (obj, off)).getD false = true then none else some { s with done := upd s.done (obj, off) true } := by
  have hk : kind = 12 := by simpa using h1
  subst hk; rw [TS.si_eq hm]; simp
theorem TS.si_13 (h1 : (kind == 13) = true) : s.simple ⟨g, kind, obj, off, k, en, fn, pc, stack⟩ = if (s.done (obj, off)).getD false = true then some s else none := by
  have hk : kind = 13 := by simpa using h1
  subst hk; rw [TS.si_eq hm]; simp
theorem TS.si_14a (h1 : (kind == 14) = true) (h2 : (k != s.gor) = true) : s.simple ⟨g, kind, obj, off, k, en, fn, pc, stack⟩ = none := by rw [TS.si_eq hm]; simp_all
theorem TS.si_14b (h1 : (kind == 14) = true) (h2 : (k != s.gor) = false) : s.simple ⟨g, kind, obj, off, k, en, fn, pc, stack⟩ = some { s with gor := s.gor + 1 } := by rw [TS.si_eq hm]; simp_all
theorem TS.si_no (h6 : (kind == 6) = false) (h7 : (kind == 7) = false) (h8 : (kind == 8) = false) (h9 : (kind == 9) = false) (h12 : (kind == 12) = false) (h13 : (kind == 13) = false) (h14 : (kind == 14) = false) :
    s.simple ⟨g, kind, obj, off, k, en, fn, pc, stack⟩ = some s := by rw [TS.si_eq hm]; simp_all
end
end Go.Proofs.Ytohliamalaifhaa
end
