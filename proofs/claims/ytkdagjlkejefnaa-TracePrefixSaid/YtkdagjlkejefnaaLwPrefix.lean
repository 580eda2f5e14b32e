/- TracePrefix: the walk and the row. -/
import Derived.Test.YtkdagjlkejefnaaLwA
namespace Go.Proofs.Ytkdagjlkejefnaa
open Go.RowKit

set_option maxRecDepth 100000 in
set_option maxHeartbeats 4000000 in
theorem prefix_any (w : World) (v : Value) (l : List Ev) (h : EvAt w v l) (n : Int) (hn : -9223372036854775808 ≤ n ∧ n ≤ 9223372036854775807) : Calls Try.prog 5 #[v, .int .i64 n] w fun r w' => r = .returned (.bool true) ∧ Below w.heap.size w w' := by
  have hck := fun (w1 : World) (hb : Below w.heap.size w w1) (hl : l.length ≤ 1000000) => check_any w1 v l (h.keep hb) hl
  have hcp := fun (w1 : World) (hb : Below w.heap.size w w1) (k : Nat) (hk : k ≤ l.length) (hl : k ≤ 1000000) (A : Option Addr) (m c : Nat) (hv : v = .slice A m c) => check_any w1 (.slice A k c) (l.take k) (((hv ▸ h.keep hb : EvAt w1 (.slice A m c) l)).take hk) (by simp; omega)
  obtain ⟨A, c, rfl, hlc, hc63, hA⟩ := h
  have HC := Lib.hid hck; clear hck hA
  have HP := Lib.hid hcp; clear hcp
  have hres := TS.chk_take TS.new l
  by_cases hin : ((l.length : Int) ≤ 100 ∧ 0 ≤ n) ∧ n ≤ (l.length : Int)
  case neg =>
    go_enter Try.func5, Try.ntmps5
    go_wp2_with ((go_at_call 12; refine (awake_any _).mono ?_; rintro r w1 ⟨rfl, hb⟩))
    all_goals first | (exfalso; omega) | (go_ret; exact ⟨rfl, hb⟩)
  case pos =>
    obtain ⟨⟨q1, q2⟩, q3⟩ := hin
    obtain ⟨k, rfl⟩ := Int.eq_ofNat_of_zero_le q2
    have hle := TS.chk_le TS.new l
    have hlk : (l.take k).length = k := by simp; omega
    obtain ⟨m, hm⟩ : ∃ m, chk l = m := ⟨_, rfl⟩
    have hm' : chk (l.take k) = min m k := by rw [← hm]; exact hres k
    have hc2 : ∀ (w1 : World), Below w.heap.size w w1 → Calls Try.prog 13 #[.slice A l.length c] w1 fun r w' => r = .returned (.tuple #[.int .i64 m, .bool (decide (m = l.length))]) ∧ Below w1.heap.size w1 w' := fun w1 hb => by
      have := HC.out w1 hb (by omega)
      unfold CheckPost at this; rw [hm] at this; exact this
    have hp2 : ∀ (w1 : World), Below w.heap.size w w1 → Calls Try.prog 13 #[.slice A k c] w1 fun r w' => r = .returned (.tuple #[.int .i64 (min m k : Nat), .bool (decide (k ≤ m))]) ∧ Below w1.heap.size w1 w' := fun w1 hb => by
      have := HP.out w1 hb k (by omega) (by omega) A l.length c rfl
      unfold CheckPost at this; rw [hm', hlk] at this
      rw [show decide (k ≤ m) = decide (min m k = k) by rw [Bool.eq_iff_iff]; simp; omega]; exact this
    have HC2 := Lib.hid hc2; clear hc2 HC
    have HP2 := Lib.hid hp2; clear hp2 HP hres hm'
    replace hle : m ≤ l.length := by rw [← hm]; exact hle
    clear hm hlk
    by_cases hkm : k ≤ m
    · rw [Nat.min_eq_right hkm, decide_eq_true hkm] at HP2
      go_enter Try.func5, Try.ntmps5
      go_wp2_with ((go_at_call 12; refine (awake_any _).mono ?_; rintro r w1 ⟨rfl, hb⟩))
      all_goals try (exfalso; omega)
      refine (HC2.out _ hb).mono ?_
      rintro r w2 ⟨rfl, hb2⟩
      replace hb2 := hb.trans (hb2.mono hb.size)
      clear hb
      go_wp2_with fail
      refine (HP2.out _ hb2).mono ?_
      rintro r w3 ⟨rfl, hb3⟩
      replace hb3 := hb2.trans (hb3.mono hb2.size)
      clear hb2
      go_wp2_with fail
      all_goals try (exfalso; omega)
      all_goals (go_ret; refine ⟨?_, hb3⟩; first | rfl | (simp; omega) | simp)
    · rw [Nat.min_eq_left (by omega), decide_eq_false hkm] at HP2
      go_enter Try.func5, Try.ntmps5
      go_wp2_with ((go_at_call 12; refine (awake_any _).mono ?_; rintro r w1 ⟨rfl, hb⟩))
      all_goals try (exfalso; omega)
      refine (HC2.out _ hb).mono ?_
      rintro r w2 ⟨rfl, hb2⟩
      replace hb2 := hb.trans (hb2.mono hb.size)
      clear hb
      go_wp2_with fail
      refine (HP2.out _ hb2).mono ?_
      rintro r w3 ⟨rfl, hb3⟩
      replace hb3 := hb2.trans (hb3.mono hb2.size)
      clear hb2
      go_wp2_with fail
      all_goals try (exfalso; omega)
      all_goals (go_ret; refine ⟨?_, hb3⟩; first | rfl | (simp; omega) | simp)
end Go.Proofs.Ytkdagjlkejefnaa
