/- Project, At, Same: the events of a goroutine, the accesses to an address. -/
import Derived.Test.YtkdagjlkejefnaaLwA
import Derived.OwnWalk
import Derived.LoopTactic
set_option linter.unusedSimpArgs false
set_option linter.unusedVariables false
namespace Go.Proofs.Ytkdagjlkejefnaa
open Go.RowKit

theorem cells_new (w : World) (cs : Array Value) (t : TypeId) (n : Nat) (hn : n = w.heap.size) (fr : Nat × Nat) : ∀ (j : Nat) (u : Value), cs.toList[j]? = some u → (w.alloc (.cells cs t fr)).cell? ((⟨n, 0, none⟩ : Addr).add j) = some u := by
  intro j u h
  subst hn
  have h2 : (w.alloc (.cells cs t fr)).cell? ⟨w.heap.size, j, none⟩ = some u := by
    rw [cell_of_row _ _ _ _ _ _ (heap_alloc_new w _)]
    simpa using h
  unfold Addr.add
  split
  · rename_i h0; subst h0; exact h2
  · simpa using h2

theorem Below.own {w w' : World} {b : Nat} {e : TypeId} {s : Nat} {v : Value} {n : Nat} {xs : List Value} (h : w.ownsRow b e s v n xs) (hb : Below w.heap.size w w') : w'.ownsRow b e s v n xs := by
  refine ⟨h.1, h.2.imp id fun ⟨g, cap, cur, h1, h2, h3, h4⟩ => ⟨g, cap, cur, h1, h2, ?_, h4⟩⟩
  rw [hb.block g (by have := (Array.getElem?_eq_some_iff.1 h3).1; exact this)]
  exact h3

/-- an owned row of events reads as events -/
theorem EvAt.own {w : World} {b : Nat} {t : TypeId} {v : Value} {l : List Ev} (h : w.ownsRow b t 9 v l.length (l.flatMap Ev.cells)) : EvAt w v l := by
  obtain ⟨h1, h2⟩ := h
  rcases h2 with ⟨rfl, h3⟩ | ⟨g, cap, cur, rfl, h3, h4, h5, h6, h7, h8⟩
  · exact ⟨none, 0, by rw [h3], by omega, by omega, fun hn => absurd hn (by omega)⟩
  · refine ⟨_, _, rfl, h5, by unfold maxLen at h6; omega, fun _ => ⟨g, 0, rfl, fun i e hi j x hx => ?_⟩⟩
    rw [cell_of_row w g _ _ _ _ h4, Nat.zero_add]
    have hfl : (l.flatMap Ev.cells)[i * 9 + j]? = some x := flat_at l i e hi j x hx
    rw [← h8] at hfl
    rw [List.getElem?_take] at hfl
    split at hfl
    · simpa using hfl
    · cases hfl

theorem Try.infoEv : (Try.prog.info? 31).map (fun i => (i.zero, i.size, i.bytes)) = some (some (.agg #[.int .i64 0, .int .i64 0, .int .i64 0, .int .i64 0, .int .i64 0, .int .i64 0, .int .i64 0, .int .i64 0, .int .i64 0]), 9, 72) := by kernel_rfl

def selG (g : Int) (l : List Ev) : List Ev := l.filter (fun e => e.g == g)
theorem selG_hit {g : Int} {l : List Ev} {k : Nat} {e : Ev} (h : l[k]? = some e) (hg : e.g = g) : selG g (l.take (k + 1)) = selG g (l.take k) ++ [e] := by
  obtain ⟨hk, rfl⟩ := List.getElem?_eq_some_iff.1 h
  unfold selG
  rw [List.take_succ_eq_append_getElem hk, List.filter_append, List.filter_cons]
  simp [hg]
theorem selG_miss {g : Int} {l : List Ev} {k : Nat} {e : Ev} (h : l[k]? = some e) (hg : ¬ e.g = g) : selG g (l.take (k + 1)) = selG g (l.take k) := by
  obtain ⟨hk, rfl⟩ := List.getElem?_eq_some_iff.1 h
  unfold selG
  rw [List.take_succ_eq_append_getElem hk, List.filter_append, List.filter_cons]
  simp [hg]
theorem selG_le (g : Int) (l : List Ev) (k : Nat) : (selG g (l.take k)).length ≤ k := by
  have h1 := List.length_filter_le (fun e : Ev => e.g == g) (l.take k)
  have h2 := List.length_take_le k l
  unfold selG; omega

/-- the nine cells of element k -/
theorem EvAt.at {w : World} {v : Value} {l : List Ev} (h : EvAt w v l) {k : Nat} {e : Ev} (hk : l[k]? = some e) : ∃ b o c, v = .slice (some ⟨b, o, none⟩) l.length c ∧ ∀ j x, e.cells[j]? = some x → w.cell? ⟨b, o + (k * 9 + j), none⟩ = some x := by
  obtain ⟨A, c, rfl, h2, h3, h4⟩ := h
  obtain ⟨b, o, rfl, hc⟩ := h4 (by have := (List.getElem?_eq_some_iff.1 hk).1; omega)
  exact ⟨b, o, c, rfl, fun j x hx => hc k e hk j x hx⟩

set_option maxRecDepth 100000 in
set_option maxHeartbeats 4000000 in
theorem project_any (w : World) (v : Value) (l : List Ev) (h : EvAt w v l) (hl : l.length ≤ 1000000) (g : Int) : Calls Try.prog 30 #[v, .int .i64 g] w fun r w' => ∃ v', r = .returned v' ∧ w'.ownsRow w.heap.size 31 9 v' (selG g l).length ((selG g l).flatMap Ev.cells) ∧ Below w.heap.size w w' := by
  obtain ⟨i0, hi, hz0, hz1, hz2⟩ := info_parts Try.infoEv
  obtain ⟨A, c, rfl, hlc, hc63, hA⟩ := h
  have HA := Lib.hid hA; clear hA
  go_enter Try.func30, Try.ntmps30
  go_wp2
  go_loopw [5, 10] (fun v' n wr => ∃ k : Nat, k ≤ l.length ∧ n = .int .i64 k ∧ wr.ownsRow w.heap.size 31 9 v' (selG g (l.take k)).length ((selG g (l.take k)).flatMap Ev.cells) ∧ Below w.heap.size w wr)
    (fun _ n _ => l.length - (intOf n).toNat)
  case atStart => exact ⟨0, Nat.zero_le _, rfl, World.ownsRow_nil _ _ _ _, Below.refl _ _⟩
  case round =>
    obtain ⟨k, hk, rfl, hown, hb⟩ := hrel
    have hsl := selG_le g l k
    by_cases hlt : k < l.length
    · obtain ⟨b, o, rfl, hcell⟩ := HA.out (by omega)
      obtain ⟨e, he⟩ : ∃ e, l[k]? = some e := ⟨_, List.getElem?_eq_getElem hlt⟩
      have hcl : ∀ j x, e.cells[j]? = some x → wr.cell? ⟨b, o + (k * 9 + j), none⟩ = some x := fun j x hx => by
        have h5 := hcell k e he j x hx
        exact (hb.cell (block_lt_of_cell h5)).trans h5
      have HE := Lib.hid he; clear he
      obtain ⟨g1, kind, obj, off, ek, en, fn, pc, stack⟩ := e
      have q0 : wr.cell? ⟨b, o + k * 9, none⟩ = some (.int .i64 g1) := hcl 0 _ rfl
      have q1 : wr.cell? ⟨b, o + k * 9 + 1, none⟩ = some (.int .i64 kind) := hcl 1 _ rfl
      have q2 : wr.cell? ⟨b, o + k * 9 + 2, none⟩ = some (.int .i64 obj) := hcl 2 _ rfl
      have q3 : wr.cell? ⟨b, o + k * 9 + 3, none⟩ = some (.int .i64 off) := hcl 3 _ rfl
      have q4 : wr.cell? ⟨b, o + k * 9 + 4, none⟩ = some (.int .i64 ek) := hcl 4 _ rfl
      have q5 : wr.cell? ⟨b, o + k * 9 + 5, none⟩ = some (.int .i64 en) := hcl 5 _ rfl
      have q6 : wr.cell? ⟨b, o + k * 9 + 6, none⟩ = some (.int .i64 fn) := hcl 6 _ rfl
      have q7 : wr.cell? ⟨b, o + k * 9 + 7, none⟩ = some (.int .i64 pc) := hcl 7 _ rfl
      have q8 : wr.cell? ⟨b, o + k * 9 + 8, none⟩ = some (.int .i64 stack) := hcl 8 _ rfl
      clear hcl hcell
      by_cases hg : g1 = g
      · subst hg
        go_wp2_with (at_builtin; refine wpList_append_own _ rfl _ _ 22 rfl w.heap.size 31 i0 (.agg #[.int .i64 0, .int .i64 0, .int .i64 0, .int .i64 0, .int .i64 0, .int .i64 0, .int .i64 0, .int .i64 0, .int .i64 0]) 9 72 Try.underlying22 hi hz0 hz1 hz2 rfl (by decide) _ _ _ rfl ((hown.alloc _).alloc _) ⟨wr.heap.size + 1, 0, none⟩ 1 1 (Ev.cells ⟨g1, kind, obj, off, ek, en, fn, pc, stack⟩) rfl rfl ?c1 ?c2 ?c3 ?c4 ?c5 ?_)
        case c1 => exact fun j u hj => cells_new (wr.alloc _) _ _ _ (by simp) _ j u hj
        case c2 =>
          intro u hu
          simp only [Ev.cells, List.mem_cons, List.not_mem_nil, or_false] at hu
          rcases hu with rfl | rfl | rfl | rfl | rfl | rfl | rfl | rfl | rfl <;> rfl
        case c3 => unfold maxLen; omega
        case c4 => omega
        case c5 => have := hb.size; simp; omega
        · intro v' w1 hown' hgrow _
          have hb' : Below w.heap.size w w1 := ((hb.alloc hb.size _).alloc (by have := hb.size; simp; omega) _).grown hgrow (by have := hb.size; simp; omega) (fun j hj => (hown.lt j hj).1)
          have hst := selG_hit HE.out rfl
          rw [show (selG g1 (l.take k)).length + 1 = (selG g1 (l.take (k + 1))).length by rw [hst]; simp, show (selG g1 (l.take k)).flatMap Ev.cells ++ Ev.cells ⟨g1, kind, obj, off, ek, en, fn, pc, stack⟩ = (selG g1 (l.take (k + 1))).flatMap Ev.cells by rw [hst]; simp] at hown'
          clear hgrow hown hst q0 q1 q2 q3 q4 q5 q6 q7 q8
          go_wp2_with fail
          go_roundw
          case rel => exact ⟨k + 1, by omega, by go_num, hown', hb'⟩
          case measure => simp [intOf]; omega
      · have hst := selG_miss HE.out hg
        go_wp2_with fail
        go_roundw
        case rel => exact ⟨k + 1, by omega, by go_num, by rw [hst]; exact hown.alloc _, hb.alloc hb.size _⟩
        case measure => simp [intOf]; omega
    · have hkl : k = l.length := by omega
      subst hkl
      rw [List.take_length] at hown
      go_wp2_with fail
      go_ret
      exact ⟨_, rfl, hown, hb⟩
set_option maxRecDepth 100000 in
set_option maxHeartbeats 4000000 in
theorem rproject_any (w : World) (v : Value) (l : List Ev) (h : EvAt w v l) (hl : l.length ≤ 1000000) (g : Int) : Calls Try.prog 31 #[v, .int .i64 g] w fun r w' => ∃ v', r = .returned v' ∧ w'.ownsRow w.heap.size 31 9 v' (selG g l).length ((selG g l).flatMap Ev.cells) ∧ Below w.heap.size w w' := by
  obtain ⟨i0, hi, hz0, hz1, hz2⟩ := info_parts Try.infoEv
  obtain ⟨A, c, rfl, hlc, hc63, hA⟩ := h
  have HA := Lib.hid hA; clear hA
  go_enter Try.func31, Try.ntmps31
  go_wp2
  go_loopw [5, 6] (fun v' n wr => ∃ k : Nat, k ≤ l.length ∧ n = .int .i64 k ∧ wr.ownsRow w.heap.size 31 9 v' (selG g (l.take k)).length ((selG g (l.take k)).flatMap Ev.cells) ∧ Below w.heap.size w wr)
    (fun _ n _ => l.length - (intOf n).toNat)
  case atStart => exact ⟨0, Nat.zero_le _, rfl, World.ownsRow_nil _ _ _ _, Below.refl _ _⟩
  case round =>
    obtain ⟨k, hk, rfl, hown, hb⟩ := hrel
    have hsl := selG_le g l k
    by_cases hlt : k < l.length
    · obtain ⟨b, o, rfl, hcell⟩ := HA.out (by omega)
      obtain ⟨e, he⟩ : ∃ e, l[k]? = some e := ⟨_, List.getElem?_eq_getElem hlt⟩
      have hcl : ∀ j x, e.cells[j]? = some x → wr.cell? ⟨b, o + (k * 9 + j), none⟩ = some x := fun j x hx => by
        have h5 := hcell k e he j x hx
        exact (hb.cell (block_lt_of_cell h5)).trans h5
      have HE := Lib.hid he; clear he
      obtain ⟨g1, kind, obj, off, ek, en, fn, pc, stack⟩ := e
      have q0 : wr.cell? ⟨b, o + k * 9, none⟩ = some (.int .i64 g1) := hcl 0 _ rfl
      have q1 : wr.cell? ⟨b, o + k * 9 + 1, none⟩ = some (.int .i64 kind) := hcl 1 _ rfl
      have q2 : wr.cell? ⟨b, o + k * 9 + 2, none⟩ = some (.int .i64 obj) := hcl 2 _ rfl
      have q3 : wr.cell? ⟨b, o + k * 9 + 3, none⟩ = some (.int .i64 off) := hcl 3 _ rfl
      have q4 : wr.cell? ⟨b, o + k * 9 + 4, none⟩ = some (.int .i64 ek) := hcl 4 _ rfl
      have q5 : wr.cell? ⟨b, o + k * 9 + 5, none⟩ = some (.int .i64 en) := hcl 5 _ rfl
      have q6 : wr.cell? ⟨b, o + k * 9 + 6, none⟩ = some (.int .i64 fn) := hcl 6 _ rfl
      have q7 : wr.cell? ⟨b, o + k * 9 + 7, none⟩ = some (.int .i64 pc) := hcl 7 _ rfl
      have q8 : wr.cell? ⟨b, o + k * 9 + 8, none⟩ = some (.int .i64 stack) := hcl 8 _ rfl
      clear hcl hcell
      by_cases hg : g1 = g
      · subst hg
        go_wp2_with (at_builtin; refine wpList_append_own _ rfl _ _ 22 rfl w.heap.size 31 i0 (.agg #[.int .i64 0, .int .i64 0, .int .i64 0, .int .i64 0, .int .i64 0, .int .i64 0, .int .i64 0, .int .i64 0, .int .i64 0]) 9 72 Try.underlying22 hi hz0 hz1 hz2 rfl (by decide) _ _ _ rfl (hown.alloc _) ⟨wr.heap.size, 0, none⟩ 1 1 (Ev.cells ⟨g1, kind, obj, off, ek, en, fn, pc, stack⟩) rfl rfl ?c1 ?c2 ?c3 ?c4 ?c5 ?_)
        case c1 => exact fun j u hj => cells_new wr _ _ _ rfl _ j u hj
        case c2 =>
          intro u hu
          simp only [Ev.cells, List.mem_cons, List.not_mem_nil, or_false] at hu
          rcases hu with rfl | rfl | rfl | rfl | rfl | rfl | rfl | rfl | rfl <;> rfl
        case c3 => unfold maxLen; omega
        case c4 => omega
        case c5 => have := hb.size; simp; omega
        · intro v' w1 hown' hgrow _
          have hb' : Below w.heap.size w w1 := (hb.alloc hb.size _).grown hgrow (by have := hb.size; simp; omega) (fun j hj => (hown.lt j hj).1)
          have hst := selG_hit HE.out rfl
          rw [show (selG g1 (l.take k)).length + 1 = (selG g1 (l.take (k + 1))).length by rw [hst]; simp, show (selG g1 (l.take k)).flatMap Ev.cells ++ Ev.cells ⟨g1, kind, obj, off, ek, en, fn, pc, stack⟩ = (selG g1 (l.take (k + 1))).flatMap Ev.cells by rw [hst]; simp] at hown'
          clear hgrow hown hst q0 q1 q2 q3 q4 q5 q6 q7 q8
          go_wp2_with fail
          go_roundw
          case rel => exact ⟨k + 1, by omega, by go_num, hown', hb'⟩
          case measure => simp [intOf]; omega
      · have hst := selG_miss HE.out hg
        go_wp2_with fail
        go_roundw
        case rel => exact ⟨k + 1, by omega, by go_num, by rw [hst]; exact hown, hb⟩
        case measure => simp [intOf]; omega
    · have hkl : k = l.length := by omega
      subst hkl
      rw [List.take_length] at hown
      go_wp2_with fail
      go_ret
      exact ⟨_, rfl, hown, hb⟩
end Go.Proofs.Ytkdagjlkejefnaa
