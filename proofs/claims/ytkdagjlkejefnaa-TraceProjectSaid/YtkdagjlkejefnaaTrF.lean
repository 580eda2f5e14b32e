/- The walks of New, follow, Check, Valid and Whole. -/
import Derived.Test.YtkdagjlkejefnaaTrE
import Derived.Test.YtkdagjlkejefnaaModelC
import Derived.LoopTactic
namespace Go.Proofs.Ytkdagjlkejefnaa
open Go.RowKit

/-- a new state in new blocks -/
def NewPost (w : World) (r : Ending) (w' : World) : Prop :=
  ∃ sb bc bm bd kv, r = .returned (.pointer (some ⟨sb, 0, none⟩)) ∧ TRep w' sb bc bm bd 0 TS.new kv ∧ (w.heap.size ≤ sb ∧ w.heap.size ≤ bc ∧ w.heap.size ≤ bm ∧ w.heap.size ≤ bd) ∧ Below w.heap.size w w'

theorem new_any (w : World) : Calls Try.prog 18 #[] w (NewPost w) := by
  have hmm := @run_makeMap Try.prog
  go_enter Try.func18, Try.ntmps18
  go_wp2
  go_ret
  refine ⟨w.heap.size + 1 + 1 + 1, w.heap.size, w.heap.size + 1, w.heap.size + 1 + 1, .slice none 0 0, rfl, ⟨?_, ⟨none, 0, rfl, Nat.le_refl _, fun h => absurd h (by decide)⟩, ?_, ?_, ?_, by omega, by omega, by omega⟩, ⟨by omega, by omega, by omega, by omega⟩, ?_⟩
  · have h1 := heap_alloc_new (((w.alloc (.map #[] 0)).alloc (.map #[] 0)).alloc (.map #[] 0)) (.cells (TCells TS.new w.heap.size (w.heap.size + 1) (w.heap.size + 1 + 1) (.slice none 0 0)) 66)
    simpa [TCells, TS.new, grp0] using h1
  · exact (((MapOf.made w Try.prog 3).alloc _).alloc _).alloc _
  · have h1 := ((MapOf.made (kv := locV) (w.alloc (.map #[] 0)) Try.prog 48).alloc (.map #[] 0)).alloc (.cells (TCells TS.new w.heap.size (w.heap.size + 1) (w.heap.size + 1 + 1) (.slice none 0 0)) 66)
    simp [TCells, TS.new, grp0] at h1; exact h1
  · have h1 := (MapOf.made (kv := locV) ((w.alloc (.map #[] 0)).alloc (.map #[] 0)) Try.prog 48).alloc (.cells (TCells TS.new w.heap.size (w.heap.size + 1) (w.heap.size + 1 + 1) (.slice none 0 0)) 66)
    simp [TCells, TS.new, grp0] at h1; exact h1
  · exact ((((Below.refl _ _).alloc (Nat.le_refl _) _).alloc (by simp) _).alloc (by simp; omega) _).alloc (by simp; omega) _

theorem But.belowOf {L : List Nat} {a b : World} (h : But L a b) {B : Nat} (hB : B ≤ a.heap.size) (hL : ∀ x ∈ L, B ≤ x) : Below B a b :=
  ⟨h.os, h.tape, h.output, h.size, fun k hk => h.block k (by omega) (fun hm => by have := hL k hm; omega)⟩

/-- the slice v reads as the events l -/
def EvAt (w : World) (v : Value) (l : List Ev) : Prop :=
  ∃ A c, v = .slice A l.length c ∧ l.length ≤ c ∧ c ≤ 9223372036854775807 ∧ (0 < l.length → ∃ b o, A = some ⟨b, o, none⟩ ∧ ∀ i e, l[i]? = some e → ∀ j x, e.cells[j]? = some x → w.cell? ⟨b, o + (i * 9 + j), none⟩ = some x)
theorem EvAt.keep {w w' : World} {v : Value} {l : List Ev} (h : EvAt w v l) (hb : Below w.heap.size w w') : EvAt w' v l := by
  obtain ⟨A, c, h1, h2, h3, h4⟩ := h
  refine ⟨A, c, h1, h2, h3, fun hn => ?_⟩
  obtain ⟨b, o, hA, hc⟩ := h4 hn
  refine ⟨b, o, hA, fun i e hi j x hx => ?_⟩
  have h5 := hc i e hi j x hx
  exact (hb.cell (block_lt_of_cell h5)).trans h5

/-- what follow hands back -/
def FollowPost (w : World) (l : List Ev) (r : Ending) (w' : World) : Prop :=
  ∃ sb bc bm bd N kv t, r = .returned (.tuple #[.pointer (some ⟨sb, 0, none⟩), .int .i64 (chk l), .int .i64 (wholeOf l)]) ∧ TS.new.steps (l.take (chk l)) = some t ∧ TRep w' sb bc bm bd N t kv ∧ Below w.heap.size w w'

set_option maxRecDepth 100000 in
set_option maxHeartbeats 4000000 in
theorem follow_any (w : World) (v : Value) (l : List Ev) (h : EvAt w v l) (hl : l.length ≤ 1000000) : Calls Try.prog 33 #[v] w (FollowPost w l) := by
  obtain ⟨A, c, rfl, hlc, hc63, hA⟩ := h
  have HA := Lib.hid hA; clear hA
  go_enter Try.func33, Try.ntmps33
  go_wp2_with ((go_at_call 18; refine (new_any _).mono ?_; rintro r w1 ⟨sb, bc, bm, bd, kv0, rfl, hT, ⟨z0, z1, z2, z3⟩, hb⟩))
  have HT := Lib.hid hT; clear hT
  have HB := Lib.hid hb; clear hb
  go_loopw [3, 4] (fun n wh wr => ∃ (k : Nat) (t : TS) (kv : Value), k ≤ l.length ∧ n = .int .i64 k ∧ wh = .int .i64 (TS.new.wholeTo l k) ∧ TS.new.steps (l.take k) = some t ∧ TRep wr sb bc bm bd (2 * k) t kv ∧ Below w.heap.size w wr)
    (fun n _ _ => l.length - (intOf n).toNat)
  case atStart => exact ⟨0, TS.new, kv0, Nat.zero_le _, rfl, rfl, rfl, HT.out, HB.out⟩
  case round =>
    obtain ⟨k, t, kv, hk, rfl, rfl, hst, hT, hb⟩ := hrel
    have hwl := TS.wholeTo_le TS.new l k
    have HST := Lib.hid hst; clear hst
    have HT1 := Lib.hid hT; clear hT
    have HB1 := Lib.hid hb; clear hb
    by_cases hlt : k < l.length
    · obtain ⟨b, o, rfl, hcell⟩ := HA.out (by omega)
      have hcl : ∀ j x, (l[k]).cells[j]? = some x → wr.cell? ⟨b, o + (k * 9 + j), none⟩ = some x := fun j x hx => by
        have h5 := hcell k l[k] (List.getElem?_eq_getElem hlt) j x hx
        exact (HB1.out.cell (block_lt_of_cell h5)).trans h5
      obtain ⟨e, he⟩ : ∃ e, l[k] = e := ⟨_, rfl⟩
      rw [he] at hcl
      obtain ⟨g, kind, obj, off, ek, en, fn, pc, stack⟩ := e
      have q0 : wr.cell? ⟨b, o + k * 9, none⟩ = some (.int .i64 g) := hcl 0 _ rfl
      have q1 : wr.cell? ⟨b, o + k * 9 + 1, none⟩ = some (.int .i64 kind) := hcl 1 _ rfl
      have q2 : wr.cell? ⟨b, o + k * 9 + 2, none⟩ = some (.int .i64 obj) := hcl 2 _ rfl
      have q3 : wr.cell? ⟨b, o + k * 9 + 3, none⟩ = some (.int .i64 off) := hcl 3 _ rfl
      have q4 : wr.cell? ⟨b, o + k * 9 + 4, none⟩ = some (.int .i64 ek) := hcl 4 _ rfl
      have q5 : wr.cell? ⟨b, o + k * 9 + 5, none⟩ = some (.int .i64 en) := hcl 5 _ rfl
      have q6 : wr.cell? ⟨b, o + k * 9 + 6, none⟩ = some (.int .i64 fn) := hcl 6 _ rfl
      have q7 : wr.cell? ⟨b, o + k * 9 + 7, none⟩ = some (.int .i64 pc) := hcl 7 _ rfl
      have q8 : wr.cell? ⟨b, o + k * 9 + 8, none⟩ = some (.int .i64 stack) := hcl 8 _ rfl
      clear hcl hcell
      have HE := Lib.hid he; clear he
      have hwf : t.wf := TS.steps_wf TS.wf_new HST.out
      have hsucc := TS.steps_take_succ (s := TS.new) hlt
      rw [HST.out, HE.out] at hsucc
      simp only [Option.bind_some] at hsucc
      have hadd := add_head wr HT1.out hwf (by unfold maxLen; omega) ⟨g, kind, obj, off, ek, en, fn, pc, stack⟩
      clear hwf
      cases ha : t.add ⟨g, kind, obj, off, ek, en, fn, pc, stack⟩ with
      | none =>
        rw [ha] at hadd hsucc
        have hchk : chk l = k := TS.chk_of hk HST.out (fun e' he' => by
          rw [List.getElem?_eq_getElem hlt] at he'
          have h6 := HE.out
          rw [Option.some.inj he'] at h6
          rw [h6]; exact ha)
        have HCK := Lib.hid hchk; clear hchk hsucc ha
        have HADD := Lib.hid hadd; clear hadd
        go_wp2_with fail
        refine HADD.out.mono ?_
        rintro r w2 ⟨rfl, ⟨kv', hT2⟩, hb2⟩
        have hfin : FollowPost w l (.returned (.tuple #[.pointer (some ⟨sb, 0, none⟩), .int .i64 k, .int .i64 (TS.new.wholeTo l k)])) w2 := by
          refine ⟨sb, bc, bm, bd, _, kv', t, ?_, ?_, hT2, HB1.out.trans (hb2.belowOf HB1.out.size ?_)⟩
          · unfold wholeOf; rw [HCK.out]
          · rw [HCK.out]; exact HST.out
          · simp only [List.mem_cons, List.not_mem_nil, or_false, forall_eq_or_imp, forall_eq]; exact ⟨z0, z1, z2, z3⟩
        have HF := Lib.hid hfin; clear hfin hT2 hb2
        go_wp2_with fail
        go_ret3
        exact HF.out
      | some u =>
        rw [ha] at hadd hsucc
        have HSU := Lib.hid hsucc; clear hsucc ha
        have HADD := Lib.hid hadd; clear hadd
        go_wp2_with fail
        refine HADD.out.mono ?_
        rintro r w2 ⟨rfl, ⟨kv', hT2⟩, hb2⟩
        simp only [Option.getD_some] at hT2
        have hfin : Below w.heap.size w w2 := HB1.out.trans (hb2.belowOf HB1.out.size (by simp only [List.mem_cons, List.not_mem_nil, or_false, forall_eq_or_imp, forall_eq]; exact ⟨z0, z1, z2, z3⟩))
        have HF := Lib.hid hfin; clear hfin hb2
        have hop := open_any w2 hT2
        have HT2 := Lib.hid hT2; clear hT2
        have hwt : TS.new.wholeTo l (k + 1) = if u.isOpen = true then TS.new.wholeTo l k else k + 1 := by
          simp only [TS.wholeTo]; rw [HSU.out]
        cases ho : u.isOpen with
        | true =>
          rw [ho] at hop hwt
          have HO := Lib.hid hop; clear hop
          have HW := Lib.hid hwt; clear hwt ho
          go_wp2_with ((go_at_call 23; refine HO.out.mono ?_; rintro r w3 ⟨rfl, rfl⟩))
          go_roundw
          case rel => exact ⟨k + 1, u, kv', by omega, by go_num, by rw [HW.out]; rfl, HSU.out, HT2.out, HF.out⟩
          case measure => simp [intOf]; omega
        | false =>
          rw [ho] at hop hwt
          have HO := Lib.hid hop; clear hop
          have HW := Lib.hid hwt; clear hwt ho
          go_wp2_with ((go_at_call 23; refine HO.out.mono ?_; rintro r w3 ⟨rfl, rfl⟩))
          go_roundw
          case rel => exact ⟨k + 1, u, kv', by omega, by go_num, by rw [HW.out]; go_num, HSU.out, HT2.out, HF.out⟩
          case measure => simp [intOf]; omega
    · have hkl : k = l.length := by omega
      have hchk : chk l = k := TS.chk_of hk HST.out (fun e' he' => by rw [List.getElem?_eq_none (by omega)] at he'; cases he')
      have hfin : FollowPost w l (.returned (.tuple #[.pointer (some ⟨sb, 0, none⟩), .int .i64 k, .int .i64 (TS.new.wholeTo l k)])) wr := by
        refine ⟨sb, bc, bm, bd, _, kv, t, ?_, ?_, HT1.out, HB1.out⟩
        · unfold wholeOf; rw [hchk]
        · rw [hchk]; exact HST.out
      have HF := Lib.hid hfin; clear hfin hchk hkl
      go_wp2_with fail
      go_ret3
      exact HF.out

/-- what Check hands back -/
def CheckPost (w : World) (l : List Ev) (r : Ending) (w' : World) : Prop :=
  r = .returned (.tuple #[.int .i64 (chk l), .bool (decide (chk l = l.length))]) ∧ Below w.heap.size w w'

theorem check_any (w : World) (v : Value) (l : List Ev) (h : EvAt w v l) (hl : l.length ≤ 1000000) : Calls Try.prog 13 #[v] w (CheckPost w l) := by
  have hf := follow_any w v l h hl
  obtain ⟨A, c, rfl, hlc, hc63, hA⟩ := h
  have HF := Lib.hid hf; clear hf hA
  go_enter Try.func13, Try.ntmps13
  go_wp2_with ((go_at_call 33; refine HF.out.mono ?_; rintro r w1 ⟨sb, bc, bm, bd, N, kv, t, rfl, hst, hT, hb⟩))
  go_ret2
  refine ⟨?_, hb⟩
  have h1 : ((chk l : Int) == (l.length : Int)) = decide (chk l = l.length) := by
    rw [Bool.eq_iff_iff]; simp; omega
  simp [h1]

theorem valid_any (w : World) (v : Value) (l : List Ev) (h : EvAt w v l) (hl : l.length ≤ 1000000) : Calls Try.prog 15 #[v] w fun r w' => r = .returned (.bool (decide (chk l = l.length))) ∧ Below w.heap.size w w' := by
  have hf := check_any w v l h hl
  obtain ⟨A, c, rfl, hlc, hc63, hA⟩ := h
  have HF := Lib.hid hf; clear hf hA
  go_enter Try.func15, Try.ntmps15
  go_wp2_with ((go_at_call 13; refine HF.out.mono ?_; rintro r w1 ⟨rfl, hb⟩))
  go_ret
  exact ⟨rfl, hb⟩

theorem whole_any (w : World) (v : Value) (l : List Ev) (h : EvAt w v l) (hl : l.length ≤ 1000000) : Calls Try.prog 17 #[v] w fun r w' => r = .returned (.int .i64 (wholeOf l)) ∧ Below w.heap.size w w' := by
  have hf := follow_any w v l h hl
  obtain ⟨A, c, rfl, hlc, hc63, hA⟩ := h
  have HF := Lib.hid hf; clear hf hA
  go_enter Try.func17, Try.ntmps17
  go_wp2_with ((go_at_call 33; refine HF.out.mono ?_; rintro r w1 ⟨sb, bc, bm, bd, N, kv, t, rfl, hst, hT, hb⟩))
  go_ret
  exact ⟨rfl, hb⟩
end Go.Proofs.Ytkdagjlkejefnaa
