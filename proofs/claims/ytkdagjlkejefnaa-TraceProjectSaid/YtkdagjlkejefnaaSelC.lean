/- The reference's At. -/
import Derived.Test.YtkdagjlkejefnaaSelB
import Derived.Deep.QuietTactic
set_option linter.unusedSimpArgs false
set_option linter.unusedVariables false
namespace Go.Proofs.Ytkdagjlkejefnaa
open Go.RowKit

set_option maxRecDepth 100000 in
set_option maxHeartbeats 4000000 in
theorem rat_any (w : World) (v : Value) (l : List Ev) (h : EvAt w v l) (hl : l.length ≤ 1000000) (x y : Int) : Calls Try.prog 28 #[v, .agg #[.int .i64 x, .int .i64 y]] w fun r w' => ∃ v', r = .returned v' ∧ w'.ownsRow w.heap.size 3 1 v' (atL l x y l.length).length (intCells (atL l x y l.length)) ∧ Below w.heap.size w w' := by
  obtain ⟨i0, hi, hz0, hz1, hz2⟩ := info_parts Try.infoInt
  obtain ⟨A, c, rfl, hlc, hc63, hA⟩ := h
  have HA := Lib.hid hA; clear hA
  go_enter Try.func28, Try.ntmps28
  go_wp2
  generalize hX : World.alloc w _ = W
  have p0 : W.cell? ⟨w.heap.size, 0, none⟩ = some (.int .i64 x) := by rw [← hX]; exact cells_new w #[.int .i64 x, .int .i64 y] _ _ rfl _ 0 _ rfl
  have p1 : W.cell? ⟨w.heap.size, 1, none⟩ = some (.int .i64 y) := by rw [← hX]; exact cells_new w #[.int .i64 x, .int .i64 y] _ _ rfl _ 1 _ rfl
  have hbW : Below w.heap.size w W := by rw [← hX]; exact (Below.refl _ _).alloc (Nat.le_refl _) _
  have hWs : W.heap.size = w.heap.size + 1 := by rw [← hX]; simp
  clear hX
  go_loopw [5, 6] (fun v' n wr => ∃ k : Nat, k ≤ l.length ∧ n = .int .i64 k ∧ wr.ownsRow W.heap.size 3 1 v' (atL l x y k).length (intCells (atL l x y k)) ∧ Below W.heap.size W wr)
    (fun _ n _ => l.length - (intOf n).toNat)
  case atStart => exact ⟨0, Nat.zero_le _, rfl, World.ownsRow_nil _ _ _ _, Below.refl _ _⟩
  case round =>
    obtain ⟨k, hk, rfl, hown, hb⟩ := hrel
    have hsl := atL_le l x y k
    have s0 := (hb.cell (by rw [hWs]; simp)).trans p0
    have s1 := (hb.cell (by rw [hWs]; simp)).trans p1
    have hlt2 : w.heap.size < wr.heap.size := by have := hb.size; omega
    have HWs := Lib.hid hWs; clear hWs
    by_cases hlt : k < l.length
    · obtain ⟨b, o, rfl, hcell⟩ := HA.out (by omega)
      obtain ⟨e, he⟩ : ∃ e, l[k]? = some e := ⟨_, List.getElem?_eq_getElem hlt⟩
      have hcl : ∀ j x, e.cells[j]? = some x → wr.cell? ⟨b, o + (k * 9 + j), none⟩ = some x := fun j x hx => by
        have h5 := hcell k e he j x hx
        have h6 := (hbW.cell (block_lt_of_cell h5)).trans h5
        exact (hb.cell (block_lt_of_cell h6)).trans h6
      have hat : atB l x y k = (memB e.kind && (e.obj == x && e.off == y)) := by unfold atB; rw [he]
      have HAT := Lib.hid hat; clear hat he
      obtain ⟨g1, kind, obj, off, ek, en, fn, pc, stack⟩ := e
      have ik : (k : Int) < (l.length : Int) := by omega
      have q0 : wr.cell? ⟨b, o + k * 9, none⟩ = some (.int .i64 g1) := hcl 0 _ rfl
      have q1 : wr.cell? ⟨b, o + k * 9 + 1, none⟩ = some (.int .i64 kind) := hcl 1 _ rfl
      have q2 : wr.cell? ⟨b, o + k * 9 + 2, none⟩ = some (.int .i64 obj) := hcl 2 _ rfl
      have q3 : wr.cell? ⟨b, o + k * 9 + 3, none⟩ = some (.int .i64 off) := hcl 3 _ rfl
      have q4 : wr.cell? ⟨b, o + k * 9 + 4, none⟩ = some (.int .i64 ek) := hcl 4 _ rfl
      have q5 : wr.cell? ⟨b, o + k * 9 + 5, none⟩ = some (.int .i64 en) := hcl 5 _ rfl
      have q6 : wr.cell? ⟨b, o + k * 9 + 6, none⟩ = some (.int .i64 fn) := hcl 6 _ rfl
      have q7 : wr.cell? ⟨b, o + k * 9 + 7, none⟩ = some (.int .i64 pc) := hcl 7 _ rfl
      have q8 : wr.cell? ⟨b, o + k * 9 + 8, none⟩ = some (.int .i64 stack) := hcl 8 _ rfl
      clear hcl hcell
      cases hm : memB kind with
      | false =>
        have hM := rmemory_any kind
        rw [hm] at hM
        have HM := Lib.hid hM; clear hM
        have hst := atL_miss (k := k) (by rw [HAT.out]; simp only [hm, Bool.false_and])
        clear hm
        go_wp2_with fail
        go_quiet ((go_at_call 50; exact Calls.quiet_of_same ((HM.out _).mono (fun _ _ h => ⟨h.1, h.2.symm⟩))))
        go_wp2
        go_roundw
        case rel => exact ⟨k + 1, by omega, by go_num, by rw [hst]; exact hown, ⟨hb.os, hb.tape, hb.output, hb.size, hb.block⟩⟩
        case measure => simp [intOf]; omega
      | true =>
        have hM := rmemory_any kind
        rw [hm] at hM
        have HM := Lib.hid hM; clear hM
        by_cases hxy : obj = x ∧ off = y
        · obtain ⟨rfl, rfl⟩ := hxy
          have hst := atL_hit (k := k) (by rw [HAT.out]; simp [hm])
          clear hm
          go_wp2_with fail
          go_quiet ((go_at_call 50; exact Calls.quiet_of_same ((HM.out _).mono (fun _ _ h => ⟨h.1, h.2.symm⟩))))
          go_wp2_with (at_builtin; refine wpList_append_own _ rfl _ _ 49 rfl W.heap.size 3 i0 (.int .i64 0) 1 8 Try.underlying49 hi hz0 hz1 hz2 rfl (by decide) _ _ _ rfl ((show (wr.drewN _).ownsRow _ _ _ _ _ _ from hown).alloc _) ⟨wr.heap.size, 0, none⟩ 1 1 [.int .i64 k] rfl rfl ?c1 ?c2 ?c3 ?c4 ?c5 ?_)
          case c1 => exact fun j u hj => cells_new (wr.drewN _) #[_] _ _ rfl _ j u hj
          case c2 => intro u hu; simp at hu; subst hu; rfl
          case c3 => unfold maxLen; omega
          case c4 => omega
          case c5 => have := hb.size; simp; omega
          intro v' w1 hown' hgrow _
          have hb' : Below W.heap.size W w1 := ((show Below W.heap.size W (wr.drewN _) from ⟨hb.os, hb.tape, hb.output, hb.size, hb.block⟩).alloc hb.size _).grown hgrow (by have := hb.size; simp; omega) (fun j hj => (hown.lt j hj).1)
          rw [show (atL l obj off k).length + 1 = (atL l obj off (k + 1)).length by rw [hst]; simp, show intCells (atL l obj off k) ++ [.int .i64 k] = intCells (atL l obj off (k + 1)) by rw [hst]; simp [intCells]] at hown'
          clear hgrow hown hst q0 q1 q2 q3 q4 q5 q6 q7 q8 s0 s1
          go_wp2_with fail
          go_roundw
          case rel => exact ⟨k + 1, by omega, by go_num, hown', hb'⟩
          case measure => simp [intOf]; omega
        · by_cases hx : obj = x
          case pos =>
           subst hx
           have hy : ¬ off = y := fun h2 => hxy ⟨rfl, h2⟩
           have hd : (off == y) = false := by simpa using hy
           clear hxy
           have hst := atL_miss (k := k) (by rw [HAT.out]; simp [hm, hy])
           clear hm
           go_wp2_with fail
           go_quiet ((go_at_call 50; exact Calls.quiet_of_same ((HM.out _).mono (fun _ _ h => ⟨h.1, h.2.symm⟩))))
           go_wp2
           go_roundw
           case rel => exact ⟨k + 1, by omega, by go_num, by rw [hst]; exact hown, ⟨hb.os, hb.tape, hb.output, hb.size, hb.block⟩⟩
           case measure => simp [intOf]; omega
          case neg =>
           have hd : (obj == x) = false := by simpa using hx
           clear hxy
           have hst := atL_miss (k := k) (by rw [HAT.out]; simp [hm, hx])
           clear hm
           go_wp2_with fail
           go_quiet ((go_at_call 50; exact Calls.quiet_of_same ((HM.out _).mono (fun _ _ h => ⟨h.1, h.2.symm⟩))))
           go_wp2
           go_roundw
           case rel => exact ⟨k + 1, by omega, by go_num, by rw [hst]; exact hown, ⟨hb.os, hb.tape, hb.output, hb.size, hb.block⟩⟩
           case measure => simp [intOf]; omega
    · have hkl : k = l.length := by omega
      subst hkl
      go_wp2_with fail
      go_ret
      exact ⟨_, rfl, ⟨hown.1, hown.2.imp id fun ⟨g, cap, cur, h1, h2, h3⟩ => ⟨g, cap, cur, h1, Nat.le_trans hbW.size h2, h3⟩⟩, hbW.trans (hb.mono hbW.size)⟩
end Go.Proofs.Ytkdagjlkejefnaa
