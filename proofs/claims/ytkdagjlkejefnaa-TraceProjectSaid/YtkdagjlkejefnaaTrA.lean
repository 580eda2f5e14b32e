/- How the state of a trace lies in memory; the walks of sends, Open and count. -/
import Derived.Test.YtkdagjlkejefnaaEv
import Derived.RegionTactic
import Derived.BigRegion
import Derived.Deep.QuietTactic
import Derived.BigQuiet
import Derived.Deep.DeepCutAuto
import Derived.Deep.CutBlock
import Derived.DeepKeys5
namespace Go.Proofs.Ytkdagjlkejefnaa
open Go.RowKit

def Ch.val (c : Ch) : Value := .agg #[.int .i64 c.cap, .int .i64 c.sent, .int .i64 c.recv, .bool c.closed]
def Mu.val (m : Mu) : Value := .agg #[.bool m.locked, .int .i64 m.readers]
def iK (x : Int) : Value := .int .i64 x
def chanMap (f : Int → Option Ch) (x : Int) : Option Value := (f x).map Ch.val
def muMap (f : Int × Int → Option Mu) (x : Int × Int) : Option Value := (f x).map Mu.val
def doneMap (f : Int × Int → Option Bool) (x : Int × Int) : Option Value := (f x).map Value.bool

theorem chanMap_upd (f : Int → Option Ch) (x : Int) (c : Ch) : upd (chanMap f) x c.val = chanMap (upd f x c) := by
  funext y; unfold upd chanMap; by_cases h : y = x <;> simp [h]
theorem muMap_upd (f : Int × Int → Option Mu) (x : Int × Int) (c : Mu) : upd (muMap f) x c.val = muMap (upd f x c) := by
  funext y; unfold upd muMap; by_cases h : y = x <;> simp [h]
theorem doneMap_upd (f : Int × Int → Option Bool) (x : Int × Int) (c : Bool) : upd (doneMap f) x (.bool c) = doneMap (upd f x c) := by
  funext y; unfold upd doneMap; by_cases h : y = x <;> simp [h]

theorem zeroCh (w : World) : (zeroValue 71).run Try.prog w = .ok ch0.val w := by kernel_rfl
theorem zeroMu (w : World) : (zeroValue 74).run Try.prog w = .ok mu0.val w := by kernel_rfl
theorem zeroB (w : World) : (zeroValue 4).run Try.prog w = .ok (.bool false) w := by kernel_rfl
theorem keyI : KeyT Try.prog 3 iK (fun x => (Lit.int .i64 x).wf = true) := KeyT.int Try.underlying3
theorem laidOut : laidOutB Try.prog = true := by kernel_rfl
theorem keyedL : Maps.Keyed Try.prog 48 := Maps.Keyed.of_law (deep_law_gate laidOut (of_decide_eq_true (by kernel_rfl)) (of_decide_eq_true (by kernel_rfl)) (by kernel_rfl) (by kernel_rfl))
theorem keyL : KeyT Try.prog 48 locV (fun x => (Lit.int .i64 x.1).wf = true ∧ (Lit.int .i64 x.2).wf = true) :=
  KeyT.loc keyedL Try.underlying48 Try.underlying3 rfl rfl rfl rfl (by kernel_rfl) (by kernel_rfl) (by kernel_rfl) (by kernel_rfl) (of_decide_eq_true (by kernel_rfl))

/-- the slice v of ints reads as xs, outside of block sb -/
def KindsAt (w : World) (v : Value) (xs : List Int) (sb : Nat) : Prop :=
  ∃ A c, v = .slice A xs.length c ∧ xs.length ≤ c ∧ (0 < xs.length → ∃ b o, A = some ⟨b, o, none⟩ ∧ b ≠ sb ∧ ∀ i x, xs[i]? = some x → w.cell? ⟨b, o + i, none⟩ = some (.int .i64 x))

def TCells (s : TS) (bc bm bd : Nat) (kv : Value) : Array Value :=
  #[.int .i64 s.events, .int .i64 s.gor, .map (some bc), .map (some bm), .map (some bd), kv, .int .i64 s.grp.obj, .int .i64 s.grp.k, .int .i64 s.grp.n, .int .i64 s.grp.snd, .int .i64 s.grp.rcv]
/-- the state s lies in block sb, its maps in bc, bm, bd -/
structure TRep (w : World) (sb bc bm bd N : Nat) (s : TS) (kv : Value) : Prop where
  row : w.heap[sb]? = some (.cells (TCells s bc bm bd kv) 66 (0, 0))
  kinds : KindsAt w kv s.grp.kinds sb
  chans : MapOf iK w Try.prog 3 bc N (chanMap s.chans)
  mus : MapOf locV w Try.prog 48 bm N (muMap s.mus)
  done : MapOf locV w Try.prog 48 bd N (doneMap s.done)
  ncm : bc ≠ bm
  ncd : bc ≠ bd
  nmd : bm ≠ bd

theorem MapOf.ne_cells {κ : Type} {kv : κ → Value} {w : World} {P : Program} {k b n : Nat} {f : κ → Option Value} (h : MapOf kv w P k b n f) {g : Nat} {cs : Array Value} {t : TypeId} {fr : Nat × Nat} (hg : w.heap[g]? = some (.cells cs t fr)) : b ≠ g := by
  rintro rfl
  obtain ⟨_, ⟨es, cl, h1, _⟩, _⟩ := h
  rw [hg] at h1
  cases h1

theorem KindsAt.keep {w w' : World} {v : Value} {xs : List Int} {sb : Nat} (h : KindsAt w v xs sb) {L : List Nat} (hb : But L w w') (hL : ∀ b cs t fr, w.heap[b]? = some (.cells cs t fr) → b ≠ sb → b ∉ L) : KindsAt w' v xs sb := by
  obtain ⟨A, c, h1, h2, h3⟩ := h
  refine ⟨A, c, h1, h2, fun hn => ?_⟩
  obtain ⟨b, o, hA, hne, hc⟩ := h3 hn
  refine ⟨b, o, hA, hne, fun i x hx => ?_⟩
  have h4 := hc i x hx
  have hlt := block_lt_of_cell h4
  have hblk : ∃ cs t fr, w.heap[b]? = some (.cells cs t fr) := by
    unfold World.cell? at h4
    dsimp only at h4
    split at h4
    · rename_i cs t fr hh; exact ⟨cs, t, fr, hh⟩
    · cases h4
  obtain ⟨cs, t, fr, hh⟩ := hblk
  exact (World.cell?_of_block (w := w) (a := ⟨b, o + i, none⟩) (hb.block b hlt (hL b cs t fr hh hne))).trans h4

section
variable {w w' : World} {sb bc bm bd N : Nat} {s : TS} {kv : Value}
theorem TRep.cell (h : TRep w sb bc bm bd N s kv) (j : Nat) : w.cell? ⟨sb, j, none⟩ = (TCells s bc bm bd kv)[j]? := cell_of_row w sb j _ _ _ h.row
theorem TRep.frozen (h : TRep w sb bc bm bd N s kv) (j : Nat) : w.frozen? ⟨sb, j, none⟩ = false := frozen_of_row w sb j _ _ h.row
theorem TRep.lt (h : TRep w sb bc bm bd N s kv) : sb < w.heap.size := by
  rcases Nat.lt_or_ge sb w.heap.size with hlt | hge
  · exact hlt
  · have := h.row; rw [Array.getElem?_eq_none hge] at this; cases this
/-- nothing of the state is touched -/
theorem TRep.but (h : TRep w sb bc bm bd N s kv) {L : List Nat} (hb : But L w w') (h0 : sb ∉ L) (h1 : bc ∉ L) (h2 : bm ∉ L) (h3 : bd ∉ L) (hL : ∀ b cs t fr, w.heap[b]? = some (.cells cs t fr) → b ≠ sb → b ∉ L) : TRep w' sb bc bm bd N s kv :=
  ⟨(hb.block sb h.lt h0).trans h.row, h.kinds.keep hb hL, h.chans.but hb h1, h.mus.but hb h2, h.done.but hb h3, h.ncm, h.ncd, h.nmd⟩
theorem TRep.below (h : TRep w sb bc bm bd N s kv) (hb : Below w.heap.size w w') : TRep w' sb bc bm bd N s kv :=
  h.but (L := []) ⟨hb.os, hb.tape, hb.output, hb.size, fun k hk _ => hb.block k hk⟩ (by simp) (by simp) (by simp) (by simp) (fun _ _ _ _ _ _ => by simp)
theorem TRep.mono (h : TRep w sb bc bm bd N s kv) {N' : Nat} (hn : N ≤ N') : TRep w sb bc bm bd N' s kv :=
  ⟨h.row, h.kinds, h.chans.mono hn, h.mus.mono hn, h.done.mono hn, h.ncm, h.ncd, h.nmd⟩
/-- only the map of the channels is turned -/
theorem TRep.new_chans (h : TRep w sb bc bm bd N s kv) (hb : But [bc] w w') {N' : Nat} {f : Int → Option Ch} {M : Nat} (hm : MapOf iK w' Try.prog 3 bc M (chanMap f)) (hM : M ≤ N') (hN : N ≤ N') : TRep w' sb bc bm bd N' { s with chans := f } kv :=
  ⟨(hb.block sb h.lt (by simpa using Ne.symm (h.chans.ne_cells h.row))).trans h.row, h.kinds.keep hb (fun b cs t fr hc _ hm => by
      simp only [List.mem_singleton] at hm; subst hm; exact absurd rfl (h.chans.ne_cells hc)), hm.mono hM, (h.mus.but hb (by simpa using Ne.symm h.ncm)).mono hN, (h.done.but hb (by simpa using Ne.symm h.ncd)).mono hN, h.ncm, h.ncd, h.nmd⟩
/-- only the map of the mutexes is turned -/
theorem TRep.new_mus (h : TRep w sb bc bm bd N s kv) (hb : But [bm] w w') {N' : Nat} {f : Int × Int → Option Mu} {M : Nat} (hm : MapOf locV w' Try.prog 48 bm M (muMap f)) (hM : M ≤ N') (hN : N ≤ N') : TRep w' sb bc bm bd N' { s with mus := f } kv :=
  ⟨(hb.block sb h.lt (by simpa using Ne.symm (h.mus.ne_cells h.row))).trans h.row, h.kinds.keep hb (fun b cs t fr hc _ hm => by
      simp only [List.mem_singleton] at hm; subst hm; exact absurd rfl (h.mus.ne_cells hc)), (h.chans.but hb (by simpa using h.ncm)).mono hN, hm.mono hM, (h.done.but hb (by simpa using Ne.symm h.nmd)).mono hN, h.ncm, h.ncd, h.nmd⟩
/-- only the map of what is done is turned -/
theorem TRep.new_done (h : TRep w sb bc bm bd N s kv) (hb : But [bd] w w') {N' : Nat} {f : Int × Int → Option Bool} {M : Nat} (hm : MapOf locV w' Try.prog 48 bd M (doneMap f)) (hM : M ≤ N') (hN : N ≤ N') : TRep w' sb bc bm bd N' { s with done := f } kv :=
  ⟨(hb.block sb h.lt (by simpa using Ne.symm (h.done.ne_cells h.row))).trans h.row, h.kinds.keep hb (fun b cs t fr hc _ hm => by
      simp only [List.mem_singleton] at hm; subst hm; exact absurd rfl (h.done.ne_cells hc)), (h.chans.but hb (by simpa using h.ncd)).mono hN, (h.mus.but hb (by simpa using h.nmd)).mono hN, hm.mono hM, h.ncm, h.ncd, h.nmd⟩
/-- the two counters, in the first two cells -/
theorem TRep.new_row (h : TRep w sb bc bm bd N s kv) (hb : But [sb] w w') {ev gor : Int} (hr : w'.heap[sb]? = some (.cells (TCells { s with events := ev, gor := gor } bc bm bd kv) 66 (0, 0))) {N' : Nat} (hN : N ≤ N') : TRep w' sb bc bm bd N' { s with events := ev, gor := gor } kv :=
  ⟨hr, h.kinds.keep hb (fun b cs t fr hc hne hm => hne (by simpa using hm)), (h.chans.but hb (by simpa using h.chans.ne_cells h.row)).mono hN, (h.mus.but hb (by simpa using h.mus.ne_cells h.row)).mono hN, (h.done.but hb (by simpa using h.done.ne_cells h.row)).mono hN, h.ncm, h.ncd, h.nmd⟩
end

theorem sends_any (k : Int) (w : World) : Calls Try.prog 66 #[.int .i64 k] w fun e w' => e = .returned (.bool (sendsB k)) ∧ w = w' := by
  go_enter Try.func66, Try.ntmps66
  go_wp2
  all_goals (go_ret; refine ⟨ret_bool ?_, rfl⟩; unfold sendsB; rw [Bool.eq_iff_iff]; simp; try omega)

theorem open_any {sb bc bm bd N : Nat} {s : TS} {kv : Value} (w : World) (h : TRep w sb bc bm bd N s kv) : Calls Try.prog 23 #[.pointer (some ⟨sb, 0, none⟩)] w fun e w' => e = .returned (.bool s.isOpen) ∧ w = w' := by
  obtain ⟨A, c, hkv, hlc, _⟩ := h.kinds
  have c5 : w.cell? ⟨sb, 5, none⟩ = some (.slice A s.grp.kinds.length c) := by rw [h.cell 5, ← hkv]; rfl
  clear h hkv hlc
  go_enter Try.func23, Try.ntmps23
  go_wp2
  go_ret
  refine ⟨ret_bool ?_, rfl⟩
  unfold TS.isOpen
  simp

set_option maxRecDepth 100000 in
set_option maxHeartbeats 1000000 in
theorem count_any (sb bc n : Nat) (f : Int → Option Ch) (e : Ev) (w : World) (hc : w.cell? ⟨sb, 2, none⟩ = some (.map (some bc)))
    (hm : MapOf iK w Try.prog 3 bc n (chanMap f)) (hn : n < maxLen) (hobj : I64 e.obj) (hb : ∀ c, (f e.obj).getD ch0 = c → (0 ≤ c.sent ∧ c.sent ≤ 5000) ∧ (0 ≤ c.recv ∧ c.recv ≤ 5000)) :
    Calls Try.prog 67 #[.pointer (some ⟨sb, 0, none⟩), e.val] w fun r w' => r = .returned (.tuple #[]) ∧ MapOf iK w' Try.prog 3 bc (n + 1) (chanMap (upd f e.obj (((f e.obj).getD ch0).count e.kind))) ∧ But [bc] w w' := by
  have hb0 := hb _ rfl
  clear hb
  obtain ⟨c, hcc⟩ : ∃ c, (f e.obj).getD ch0 = c := ⟨_, rfl⟩
  rw [hcc] at hb0 ⊢
  obtain ⟨⟨hs, hs2⟩, hr, hr2⟩ := hb0
  have hval : (chanMap f e.obj).getD ch0.val = c.val := by
    rw [← hcc]; unfold chanMap; cases f e.obj <;> rfl
  obtain ⟨g, kind, obj, off, k, en, fn, pc, stack⟩ := e
  dsimp only at hcc hobj hval ⊢
  -- what is counted, under names of its own
  obtain ⟨c', hc'⟩ : ∃ c', c.count kind = c' := ⟨_, rfl⟩
  rw [hc']
  obtain ⟨cap, sent, recv, closed⟩ := c
  obtain ⟨cap', sent', recv', closed'⟩ := c'
  dsimp only at hs hs2 hr hr2
  unfold Ev.val
  have hl : ∀ o : Obj, (Instr.lookup 60 (.map (some bc)) (.int .i64 obj) false).run Try.prog ((w.alloc o).drew) = .ok (.agg #[.int .i64 cap, .int .i64 sent, .int .i64 recv, .bool closed]) ((w.alloc o).drew) := fun o => by
    have h1 : MapOf iK (w.alloc o).drew Try.prog 3 bc n (chanMap f) := hm.alloc o
    have h2 := h1.look keyI Try.underlying60 zeroCh obj (wf_i64 hobj)
    rw [hval] at h2; exact h2
  have hl2 : ∀ o o2 : Obj, (Instr.lookup 60 (.map (some bc)) (.int .i64 obj) false).run Try.prog (((w.alloc o).alloc o2).drew) = .ok (.agg #[.int .i64 cap, .int .i64 sent, .int .i64 recv, .bool closed]) (((w.alloc o).alloc o2).drew) := fun o o2 => by
    have h1 : MapOf iK ((w.alloc o).alloc o2).drew Try.prog 3 bc n (chanMap f) := (hm.alloc o).alloc o2
    have h2 := h1.look keyI Try.underlying60 zeroCh obj (wf_i64 hobj)
    rw [hval] at h2; exact h2
  have hlt := block_lt_of_cell hc
  dsimp only at hlt
  have HM := Lib.hid hm; clear hm
  have HCC := Lib.hid hcc; clear hcc
  have HV := Lib.hid hval; clear hval
  have HC := Lib.hid hc'; clear hc'
  go_enter Try.func67, Try.ntmps67
  go_wp2
  go_region
  go_upto_block 0 with fail
  go_cut [] (fun wx => MapOf iK wx Try.prog 3 bc n (chanMap f) ∧ But [bc] w wx ∧ wx.cell? ⟨sb, 2, none⟩ = some (.map (some bc)) ∧ wx.cell? ⟨w.heap.size, 2, none⟩ = some (.int .i64 obj) ∧
    wx.cell? ⟨w.heap.size + 1, 0, none⟩ = some (.int .i64 cap') ∧ wx.cell? ⟨w.heap.size + 1, 1, none⟩ = some (.int .i64 sent') ∧ wx.cell? ⟨w.heap.size + 1, 2, none⟩ = some (.int .i64 recv') ∧ wx.cell? ⟨w.heap.size + 1, 3, none⟩ = some (.bool closed'))
  case first =>
    go_wp2
    all_goals go_meet
    all_goals (case' rel => refine ⟨(HM.out.alloc _).alloc _, (((But.refl _ _).alloc _).alloc _).drew, ?_⟩)
    all_goals (have hc' := HC.out; unfold Ch.count at hc')
    all_goals go_light
    all_goals clear hl hl2
    all_goals simp_all [go_sem]
  case rest =>
    obtain ⟨hm1, hbut, hc2, hobj2, h0, h1, h2, h3⟩ := hcut
    obtain ⟨w1, hput, hm2, hg⟩ := (show MapOf iK wc.drew Try.prog 3 bc n (chanMap f) from hm1).put keyI Try.underlying60 hn obj (wf_i64 hobj) (.agg #[.int .i64 cap', .int .i64 sent', .int .i64 recv', .bool closed'])
    unfold iK at hput
    have hfin : MapOf iK w1 Try.prog 3 bc (n + 1) (chanMap (upd f obj ⟨cap', sent', recv', closed'⟩)) ∧ But [bc] w w1 := by
      refine ⟨?_, ?_⟩
      · rw [← chanMap_upd]; exact hm2
      · exact (hbut.drewN 0).drew.grown hg (.inl (by simp))
    have HF := Lib.hid hfin; clear hfin hm1 hm2 hg hbut
    go_wp2
    go_region
    go_end0
    exact ⟨rfl, HF.out⟩
end Go.Proofs.Ytkdagjlkejefnaa
