/- The law on what Read accepts. -/
import Derived.Test.YthnjbnfnljjepabDoorNr4
import Derived.Handed
import Derived.Clock
import Derived.Test.YthnjbnfnljjepabDoorRows
import Derived.Stop.LaidErr
import Derived.Deep.DeepLaidRun
import Derived.SizedLaws
import Derived.JoinedOf
import Derived.LaidLaws
import Derived.Lib.LaidU8
import Derived.ChangeSame
section
set_option linter.unusedSimpArgs false
set_option linter.unusedVariables false
namespace Go.Proofs.YthnjbnfnljjepabDoor
open Go Go.RowKit
set_option maxRecDepth 1000000
set_option maxHeartbeats 8000000

theorem s_rread' : Spec Tryd.prog 16 R_eread := by
  rintro ps rs ⟨s, rfl, hs, rfl⟩
  exact s_rread _ _ ⟨s, rfl, hs, by rw [refE_eq]⟩
def env20a : Env := e1 10 R_awake20 (e1 15 R_eread (e1 16 R_eread (e1 11 R_valid20 (e1 13 R_etext e0))))
theorem env20a_ok : EnvOK Tryd.prog env20a := EnvOK.e1 s_awake20 (EnvOK.e1 s_eread (EnvOK.e1 s_rread' (EnvOK.e1 s_valid (EnvOK.e1 s_etext EnvOK.e0))))
def R_laccepts (ps rs : List Pa) : Prop := ∃ s : ByteArray, ps = [pS s] ∧ rs = [pB true]
theorem s_laccepts : Spec Tryd.prog 6 R_laccepts := by
  refine sp6 env20a_ok ?_
  rintro ps rs ⟨s, rfl, rfl⟩
  refine ⟨by simp, ?_⟩
  have q00 : ((0 : Int) != 0) = false := rfl
  have q88 : ((8 : Int) != 8) = false := rfl
  have e00 : ((0 : Int) == 0) = true := rfl
  have e88 : ((8 : Int) == 8) = true := rfl
  have e80 : ((8 : Int) == 0) = false := rfl
  unfold pc6
  refine pwp_start ?_
  simp only [↓evP, evB, stB, reduceIte, reduceCtorEq, Nat.reduceEqDiff, Nat.reduceAdd, Nat.reduceMul, Nat.reduceLeDiff, Nat.reduceLT, Nat.reduceSub, Nat.reduceBEq]
  refine callOps_intro [pB true] ⟨rfl, rfl⟩ ?_
  by_cases hz : (s.size : Int) > 1000
  · simp only [↓evP, evB, stB, reduceIte, reduceCtorEq, Nat.reduceEqDiff, Nat.reduceAdd, Nat.reduceMul, Nat.reduceLeDiff, Nat.reduceLT, Nat.reduceSub, Nat.reduceBEq, hz, decide_true, pr6]
  have hrd := R_eread.mk (s := s) (by omega)
  simp only [↓evP, evB, stB, reduceIte, reduceCtorEq, Nat.reduceEqDiff, Nat.reduceAdd, Nat.reduceMul, Nat.reduceLeDiff, Nat.reduceLT, Nat.reduceSub, Nat.reduceBEq, hz, decide_false]
  cases hr : readE s with
  | none =>
    rw [hr] at hrd
    have hrd' : R_eread [pS s] [Ev.zero.pa, pI 8] := hrd
    have z9 := eq9 0 0 0 0 0 0 0 0 0
    refine callOps_intro [Ev.zero.pa, pI 8] (by exact hrd') ?_
    simp only [↓evP, evB, stB, reduceIte, reduceCtorEq, Nat.reduceEqDiff, Nat.reduceAdd, Nat.reduceMul, Nat.reduceLeDiff, Nat.reduceLT, Nat.reduceSub, Nat.reduceBEq, Ev.pa, Ev.row, Ev.zero, List.map_cons, List.map_nil]
    refine callOps_intro [Ev.zero.pa, pI 8] (by exact hrd') ?_
    simp only [↓evP, evB, stB, reduceIte, reduceCtorEq, Nat.reduceEqDiff, Nat.reduceAdd, Nat.reduceMul, Nat.reduceLeDiff, Nat.reduceLT, Nat.reduceSub, Nat.reduceBEq, Ev.pa, Ev.row, Ev.zero, List.map_cons, List.map_nil, q88, e88, e80, z9, pr6]
  | some e =>
    rw [hr] at hrd
    have hrd' : R_eread [pS s] [e.pa, pI 0] := hrd
    obtain ⟨hv, ht⟩ := readE_some hr
    have z9 := eq9 e.g e.kind e.obj e.off e.k e.n e.fn e.pc e.stack
    have hse : ((strB (etext e)).toList == s.toList) = true := by rw [strings_eq, ht]; simp
    refine callOps_intro [e.pa, pI 0] (by exact hrd') ?_
    simp only [↓evP, evB, stB, reduceIte, reduceCtorEq, Nat.reduceEqDiff, Nat.reduceAdd, Nat.reduceMul, Nat.reduceLeDiff, Nat.reduceLT, Nat.reduceSub, Nat.reduceBEq, Ev.pa, Ev.row, List.map_cons, List.map_nil]
    refine callOps_intro [e.pa, pI 0] (by exact hrd') ?_
    simp only [↓evP, evB, stB, reduceIte, reduceCtorEq, Nat.reduceEqDiff, Nat.reduceAdd, Nat.reduceMul, Nat.reduceLeDiff, Nat.reduceLT, Nat.reduceSub, Nat.reduceBEq, Ev.pa, Ev.row, List.map_cons, List.map_nil, q00, e00, z9]
    refine callOps_intro [pB e.valid] (by exact ⟨e, rfl, rfl⟩) ?_
    simp only [↓evP, evB, stB, reduceIte, reduceCtorEq, Nat.reduceEqDiff, Nat.reduceAdd, Nat.reduceMul, Nat.reduceLeDiff, Nat.reduceLT, Nat.reduceSub, Nat.reduceBEq, Ev.pa, Ev.row, List.map_cons, List.map_nil, hv]
    refine callOps_intro [pS (strB (etext e))] (by exact R_etext.mk e) ?_
    simp only [↓evP, evB, stB, reduceIte, reduceCtorEq, Nat.reduceEqDiff, Nat.reduceAdd, Nat.reduceMul, Nat.reduceLeDiff, Nat.reduceLT, Nat.reduceSub, Nat.reduceBEq, hse, pr6]
end Go.Proofs.YthnjbnfnljjepabDoor
end
section
set_option linter.unusedSimpArgs false
set_option linter.unusedVariables false
namespace Go.Proofs.YthnjbnfnljjepabDoor
open Go Go.RowKit

theorem int_of_shape {P : Program} {w : World} {g : Nat} {t : TypeId} {k : IntKind} {zero : Array Value} (h : w.ShapedOpen P) (hg : g < P.globals.size)
    (h0 : ((begin P (fun _ _ => 0) default).world.heap[g]?).bind Obj.row? = some (zero, t)) (hz : zero.size = 1)
    (hb : P.buildable t = true) (hc : P.cellTypes P.depth t = some [t]) (hu : P.underlying t = some (.int k)) : ∃ n, w.cell? ⟨g, 0, none⟩ = some (.int k n) := by
  obtain ⟨cs, hh, hs, hr⟩ := h.1 g zero t hg h0
  obtain ⟨ts, hts, _, hall⟩ := hr hb
  rw [hc] at hts
  cases hts
  have h1 : 0 < cs.size := by omega
  obtain ⟨u, hu', hok⟩ := hall 0 cs[0] (by simp [h1])
  have : u = t := by simpa using hu'.symm
  subst this
  have hcell : w.cell? ⟨g, 0, none⟩ = some cs[0] := by simp [World.cell?, hh, h1]
  rw [hcell]
  unfold Cell.ok at hok
  rw [hu] at hok
  cases hv : cs[0] <;> rw [hv] at hok <;> simp at hok
  obtain ⟨rfl, _⟩ := hok
  exact ⟨_, rfl⟩
theorem returnsInHanded_shaped {H : Type} {enc : TypeId × Value → H} {a : Assume} {C : Checked} {os : Os} {f : FuncId} {fn : Func} {s : ChangeSpec} {conds : List PathCond} {apart fresh handsOn again : Bool} {X : World → Array Value → Prop}
    (hX : ∀ (w w' : World) (args : Array Value), w.heap = w'.heap → X w args → X w' args)
    (own : ownKnob C.prog.godebug = none) (started : os.Started) (noInit : C.prog.inits.idxOf? f = none) (hfn : C.prog.funcs[f]? = some fn)
    (witness : ∃ (w : World) (tape : Tape) (i : Input), w.os = os ∧ (w.forCall tape i).Shaped C.prog ∧ i.vars = [] ∧ Input.okWide C.prog (w.forCall tape i) .any w.heap.size f i ∧
      ((s.pre enc C.prog fn conds apart (w.forCall tape i).memory i.args ∧ X (w.forCall tape i).memory i.args) ∧ sizedMet enc C.prog fn (OpenSpec.ofChange s) apart (w.forCall tape i).memory i.args) ∧ a.holds C.prog (lone (Frame.enter C.prog f i.args .normal) [] (w.forCall tape i)))
    (contract : ∀ (W : World) (base : Nat) (args : Array Value) (ds gs : List (DataW H)) (before : List MemPlace),
      (∀ (j : Nat) t v, fn.params[j]? = some t → args[j]? = some v → Value.okWide C.prog W .any base t v) →
      DataW.Whole enc C.prog fn.params.toList s.vars apart W args.toList ds gs before →
      conds.all (PathCond.test C.prog ⟨fn.params.toList, ds, s.plain.varTypes C.prog, gs⟩) = true →
      (DataW.weightsEach C.prog (fn.params.toList ++ s.plain.varTypes C.prog) (ds ++ gs)).all (· ≤ reachBytes) = true → X W args →
      W.ShapedOpen C.prog →
      Calls C.prog f args W fun e W' => ∃ v, e = .returned v ∧ s.post enc C.prog fn apart fresh handsOn again W args v W') :
    ReturnsInHanded a C os f .any (fun w args => (s.pre enc C.prog fn conds apart w args ∧ X w args) ∧ sizedMet enc C.prog fn (OpenSpec.ofChange s) apart w args) (s.post enc C.prog fn apart fresh handsOn again) := by
  refine returnsInHanded_of_calls own started noInit witness ?_
  intro w tape i _ hsh _ hok hpre _
  obtain ⟨_, _, _, fn', hfn', _, _, _, _, hval⟩ := hok
  have e : fn' = fn := Option.some.inj (hfn'.symm.trans hfn)
  subst e
  obtain ⟨⟨⟨ds, gs, before, hw, hc⟩, hx⟩, hz⟩ := hpre
  have hw' := DataW.Whole.of_heap (w' := w.forCall tape i) (by rfl) hw
  refine (contract (w.forCall tape i) w.heap.size i.args ds gs before hval hw' hc (hz.weights hw) (hX _ _ _ (by rfl) hx) hsh).mono fun e W' ⟨v, he, hp⟩ => ?_
  subst he
  exact ChangeSpec.post_blind hp
end Go.Proofs.YthnjbnfnljjepabDoor
end
section
set_option linter.unusedSimpArgs false
set_option linter.unusedVariables false
namespace Go.Proofs.YthnjbnfnljjepabDoor
open Go Go.RowKit Go.Lib

set_option maxRecDepth 100000

abbrev laidL : List (String × DataW Unit) := Rows.eventValidRow.laid
theorem pow_data : Rows.laid_internal_strconv_uint64pow10 (H := Unit) = tabData .u64 pow10Tab := by kernel_rfl
def strsData (xs : List ByteArray) : DataW Unit := .agg (xs.map fun x => .lit (.string x.data.toList))
theorem names_data : Rows.laid_interleave_event_names (H := Unit) = strsData kindNames := by kernel_rfl
theorem tab_reads {n : String} {k : IntKind} {zs : List Int} {g : Nat} {t e : TypeId} {m : Nat} {w : World}
    (hg : Tryd.prog.globalNamed n = some g) (hty : (Tryd.prog.globals[g]?).map (·.type) = some t) (ht : Tryd.prog.underlying t = some (.array m e)) (he : Tryd.prog.underlying e = some (.int k)) (hce : Tryd.prog.cellsOf e = 1) (hct : Tryd.prog.cellsOf t = m)
    (h : VarReads Tryd.prog w n (tabData k zs)) : TabIs Tryd.prog w n k zs := by
  obtain ⟨g', t', cs, fuel, p, hg', ht', hvar, hd⟩ := h
  obtain rfl := Option.some.inj (hg.symm.trans hg')
  obtain rfl := Option.some.inj (hty.symm.trans ht')
  unfold TabIs
  rw [hvar, ← cells_of_tab ht he hce hct hd]
theorem row_err (u : TypeId) (h : Tryd.prog.typeName? 3 u = some "*errors.errorString") : u = 108 :=
  typeName_ptr_named (nm := "errors.errorString") (by rw [show "*" ++ "errors.errorString" = "*errors.errorString" by decide]; kernel_rfl) (by kernel_rfl) (by decide) u (by rw [show "*" ++ "errors.errorString" = "*errors.errorString" by decide]; exact h)
theorem strs_read {n : String} {xs : List ByteArray} {g : Nat} {t e : TypeId} {m : Nat} {w : World}
    (hg : Tryd.prog.globalNamed n = some g) (hty : (Tryd.prog.globals[g]?).map (·.type) = some t) (ht : Tryd.prog.underlying t = some (.array m e)) (he : Tryd.prog.underlying e = some .string) (hce : Tryd.prog.cellsOf e = 1) (hm : xs.length = m)
    (h : VarReads Tryd.prog w n (strsData xs)) (k : Nat) (v : Value) (hk : (xs.map Value.string)[k]? = some v) : w.cell? ⟨g, k, none⟩ = some v := by
  obtain ⟨g', t', cs, fuel, p, hg', ht', hvar, hd⟩ := h
  obtain rfl := Option.some.inj (hg.symm.trans hg')
  obtain rfl := Option.some.inj (hty.symm.trans ht')
  rw [List.getElem?_map, Option.map_eq_some_iff] at hk
  obtain ⟨x, hx, rfl⟩ := hk
  have hlt : k < m := by rw [← hm]; exact (List.getElem?_eq_some_iff.1 hx).1
  obtain ⟨fuel', d, q, h1, h2⟩ := array_elem ht hd k hlt
  rw [hce, Nat.mul_one] at h2
  obtain ⟨s, hs, hds, _⟩ := DataW.trod_string he h2
  rw [List.getElem?_map, hx] at h1
  have hxs : x.data.toList = s.data.toList := by
    have e1 : d = .lit (.string x.data.toList) := (Option.some.inj h1).symm
    have e2 : d = .lit (.string s.data.toList) := congrArg Prod.fst hds
    rw [e1] at e2
    simp only [DataW.lit.injEq, Lit.string.injEq] at e2
    exact e2
  have hxe : x = s := strB_inj hxs
  subst hxe
  have h3 : cs.toList[k]? = some (.string x) := by
    have := congrArg (·[0]?) hs
    simpa [List.getElem?_take, List.getElem?_drop] using this
  rw [World.var?_cell hg hvar]
  simpa using h3
theorem door_of_laid {w : World} (h : laidMet Tryd.prog laidL w) (hsh : w.ShapedOpen Tryd.prog) : Door w := by
  refine ⟨?_, ?_, ?_, ?_, ?_⟩
  · exact tab_reads (g := 1) (by kernel_rfl) (by kernel_rfl) Tryd.underlying89 Tryd.underlying70 (by kernel_rfl) (by kernel_rfl) (pow_data ▸ laidMet.reads h (.tail _ (.tail _ (.head _))))
  · obtain ⟨a, s, hv, _⟩ := laid_sentinel (g := 3) (h.tail.tail.tail.tail.tail) (by kernel_rfl) (by kernel_rfl) Tryd.underlying57 row_err Tryd.underlying108 Tryd.underlying110 rfl rfl Tryd.underlying9 (by kernel_rfl) (by kernel_rfl)
    exact ⟨_, _, hv⟩
  · obtain ⟨a, s, hv, _⟩ := laid_sentinel (g := 4) (h.tail.tail.tail.tail) (by kernel_rfl) (by kernel_rfl) Tryd.underlying57 row_err Tryd.underlying108 Tryd.underlying110 rfl rfl Tryd.underlying9 (by kernel_rfl) (by kernel_rfl)
    exact ⟨_, _, hv⟩
  · exact strs_read (g := 0) (by kernel_rfl) (by kernel_rfl) Tryd.underlying37 Tryd.underlying9 (by kernel_rfl) rfl (names_data ▸ laidMet.reads h (.tail _ (.tail _ (.tail _ (.tail _ (.tail _ (.tail _ (.head _)))))))) 
  · exact int_of_shape (t := 3) (zero := #[.int .i64 0]) hsh (of_decide_eq_true (by kernel_rfl)) (by kernel_rfl) (by kernel_rfl) (by kernel_rfl) (by kernel_rfl) Tryd.underlying3

/-- A world that holds what the rows list. -/
def tabCells (d : DataW Unit) : Array Value := match d with
  | .agg ds => (ds.map fun | .lit (.int k z) => Value.int k z | _ => undef).toArray
  | _ => #[]
noncomputable def laidWorld (os : Os) : World :=
  let N := (World.settled Tryd.prog os).heap.size
  let w0 := World.holding Tryd.prog os ⟨#[.cells #[.string ⟨#[105, 110, 118, 97, 108, 105, 100, 32, 115, 121, 110, 116, 97, 120]⟩] 110, .cells #[.string ⟨#[118, 97, 108, 117, 101, 32, 111, 117, 116, 32, 111, 102, 32, 114, 97, 110, 103, 101]⟩] 110], #[], []⟩
  let put (h : Array Obj) (g : Nat) (cs : Array Value) : Array Obj := h.modify g fun
    | .cells _ t frozen => .cells cs t frozen
    | o => o
  { w0 with heap := put (put (put (put (put (put (put (put w0.heap 5 (Lib.firstTab.map fun z => Value.int .u8 z).toArray)
      6 ((List.range 16).flatMap fun i => [Value.int .u8 (Lib.accLo i), Value.int .u8 (Lib.accHi i)]).toArray) 0 namesV.toArray)
      3 #[.iface 108 (.pointer (some ⟨N, 0, none⟩))]) 4 #[.iface 108 (.pointer (some ⟨N + 1, 0, none⟩))])
      1 (tabCells Rows.laid_internal_strconv_uint64pow10)) 7 (tabCells Rows.laid_math_bits_deBruijn32tab)) 8 (tabCells Rows.laid_math_bits_deBruijn64tab) }
theorem laid_met (os : Os) (args : Array Value) : laidMet Tryd.prog laidL ((laidWorld os).forCall (fun _ _ => 0) ⟨#[], args, []⟩).memory :=
  laidMet_of_run3 10 (by kernel_rfl) (by kernel_rfl) (by kernel_rfl)
end Go.Proofs.YthnjbnfnljjepabDoor
end
section
set_option linter.unusedSimpArgs false
set_option linter.unusedVariables false
namespace Go.Proofs.YthnjbnfnljjepabDoor
open Go Go.RowKit

set_option maxRecDepth 100000
theorem laid_vars (os : Os) (args : Array Value) : ((laidWorld os).forCall (fun _ _ => 0) ⟨#[], args, []⟩).variablesRefB Tryd.checked.prog = true := by kernel_rfl
theorem laid_rest (os : Os) (args : Array Value) : (((laidWorld os).forCall (fun _ _ => 0) ⟨#[], args, []⟩).heap.toList.drop Tryd.checked.prog.globals.size).take ((begin Tryd.checked.prog (fun _ _ => 0) default).world.heap.size - Tryd.checked.prog.globals.size) =
      (begin Tryd.checked.prog (fun _ _ => 0) default).world.heap.toList.drop Tryd.checked.prog.globals.size := by kernel_rfl
theorem row_witness {H : Type} {enc : TypeId × Value → H} (os : Os) {f : FuncId} {fn : Func} {s : ChangeSpec} {conds : List PathCond} (args : Array Value) (fuel : Nat)
    (hok : Input.okWideB Tryd.checked.prog ((laidWorld os).forCall (fun _ _ => 0) ⟨#[], args, []⟩) f ⟨#[], args, []⟩ = true)
    (hpre : s.preB enc Tryd.checked.prog fn conds false ((laidWorld os).forCall (fun _ _ => 0) ⟨#[], args, []⟩).memory args fuel = true)
    (hsz : s.sizedB enc Tryd.checked.prog fn false ((laidWorld os).forCall (fun _ _ => 0) ⟨#[], args, []⟩).memory args fuel = true) :
    ∃ (w : World) (tape : Tape) (i : Input), w.os = os ∧ (w.forCall tape i).Shaped Tryd.checked.prog ∧ i.vars = [] ∧ Input.okWide Tryd.checked.prog (w.forCall tape i) .any w.heap.size f i ∧
      ((s.pre enc Tryd.checked.prog fn conds false (w.forCall tape i).memory i.args ∧ laidMet Tryd.prog laidL (w.forCall tape i).memory) ∧ sizedMet enc Tryd.checked.prog fn (OpenSpec.ofChange s) false (w.forCall tape i).memory i.args) ∧ ({ modest := false } : Assume).holds Tryd.checked.prog (lone (Frame.enter Tryd.checked.prog f i.args .normal) [] (w.forCall tape i)) :=
  ⟨laidWorld os, fun _ _ => 0, ⟨#[], args, []⟩, rfl, World.shaped_of_RefB (laid_vars os args) (laid_rest os args), (Input.okWide_of_okWideB (base := 0) hok).1, (Input.okWide_of_okWideB hok).2, ⟨⟨ChangeSpec.pre_of_preB hpre, laid_met os args⟩, sizedMet_of_sizedB hsz⟩, by
    simp only [Assume.holds]
    exact ⟨by simp, by simp, fun _ => Modest.zero, by simp, by simp⟩⟩
end Go.Proofs.YthnjbnfnljjepabDoor
end
section
set_option linter.unusedSimpArgs false
set_option linter.unusedVariables false
namespace Go.Proofs.YthnjbnfnljjepabDoor
open Go Go.ChangeShapes Go.WideShapes Go.ChangeAt Go.RowKit Go.Deep
set_option maxRecDepth 1000000

/-- a struct of numbers -/
theorem open_flat {H : Type} {enc : TypeId × Value → H} {P : Program} {w : World} {r : Reach} {b0 base : Nat} {spare : Nat → Bool} {held : Bool} {t : TypeId} {fs : Array Field} (ht : P.underlying t = some (.struct fs)) (hone : oneCellFields P fs = true) (hC : P.cellsOf t = fs.size)
    {tI : TypeId} (hI : P.underlying tI = some (.int .i64)) (hint0 : fs.toList.all (fun f => f.type == tI) = true) {n : Nat} (hn : fs.size = n) {v : Value} {d : DataW H} {ps : List MemPlace} (hv : Value.okWide P w r b0 t v) (h : DataW.Trod enc P w base spare held t v d ps) :
    ∃ l : List Int, l.length = n ∧ v = .agg (l.map (Value.int .i64)).toArray ∧ ∀ x, x ∈ l → -9223372036854775808 ≤ x ∧ x ≤ 9223372036854775807 := by
  have hint : ∀ (i : Nat) (f : Field), fs[i]? = some f → P.underlying f.type = some (.int .i64) := fun i f hf => by
    have h1 := List.all_eq_true.1 hint0 f (List.mem_of_getElem? (i := i) (by simpa using hf))
    rw [beq_iff_eq.1 h1]; exact hI
  subst hn
  obtain ⟨cs, rfl, hcs⟩ := okWide_struct ht hv
  obtain ⟨fuel, hf⟩ := h
  obtain ⟨xs, n, _, _, hl, hlen, hfs⟩ := DataW.trod_struct ht hf
  have key : ∀ i, ∃ x : Int, i < fs.size → cs[i]? = some (.int .i64 x) ∧ -9223372036854775808 ≤ x ∧ x ≤ 9223372036854775807 := by
    intro i
    by_cases hi : i < fs.size
    · have hfi : fs[i]? = some fs[i] := Array.getElem?_eq_getElem hi
      obtain ⟨ho, hk⟩ := hone_of hone i _ hfi
      have h1 := hfs i _ hfi
      rw [ho, hk] at h1
      have hic : i < cs.size := by omega
      have hone' : ((Value.agg cs).cells.toList.drop i).take 1 = [cs[i]'hic] := by
        show (cs.toList.drop i).take 1 = _
        rw [List.drop_eq_getElem_cons (by simpa using hic)]
        simp
      rw [hone'] at h1
      have hxs : xs[i]? = some (xs[i]'(by omega)) := List.getElem?_eq_getElem _
      rw [hxs] at h1
      obtain ⟨x, hx, hw⟩ := trod_int_field (hint i _ hfi) h1
      exact ⟨x, fun _ => ⟨by rw [Array.getElem?_eq_getElem hic, hx], i64_of_wf hw⟩⟩
    · exact ⟨0, fun h => absurd h hi⟩
  obtain ⟨g, hg⟩ := Classical.skolem.1 key
  refine ⟨(List.range fs.size).map g, by simp, ?_, fun x hx => ?_⟩
  · congr 1
    apply Array.ext_getElem?
    intro i
    simp only [List.getElem?_toArray, List.getElem?_map]
    rcases Nat.lt_or_ge i fs.size with hi | hi
    · rw [(hg i hi).1, List.getElem?_range hi]; rfl
    · rw [Array.getElem?_eq_none (by omega), List.getElem?_eq_none (by simpa using hi)]; rfl
  · simp only [List.mem_map, List.mem_range] at hx
    obtain ⟨i, hi, rfl⟩ := hx
    exact (hg i hi).2

theorem list_ev {l : List Int} (h : l.length = 9) : ∃ e : Ev, l.map (Value.int .i64) = e.cells := by
  match l, h with
  | [a, b, c, d, e, f, g, i, j], _ => exact ⟨⟨a, b, c, d, e, f, g, i, j⟩, rfl⟩
theorem ev_rp {S : Nat → Nat} {W : World} {e : Ev} : RP S W e.pa (.agg e.cells.toArray) := by
  have h : e.pa = .agg (e.cells.map Dt.sc) := rfl
  rw [h]
  exact RP.mkFlat (fun u hu => by
    unfold Ev.cells at hu
    simp only [List.mem_cons, List.not_mem_nil, or_false] at hu
    rcases hu with rfl | rfl | rfl | rfl | rfl | rfl | rfl | rfl | rfl <;> rfl)
theorem open_ev {H : Type} {enc : TypeId × Value → H} {w : World} {r : Reach} {b0 base : Nat} {spare : Nat → Bool} {held : Bool} {v : Value} {d : DataW H} {ps : List MemPlace} (hv : Value.okWide Tryd.prog w r b0 23 v) (h : DataW.Trod enc Tryd.prog w base spare held 23 v d ps) :
    ∃ e : Ev, v = .agg e.cells.toArray := by
  obtain ⟨l, hl, rfl, _⟩ := open_flat Tryd.underlying23 (by kernel_rfl) (by kernel_rfl) Tryd.underlying3 (by kernel_rfl) (n := 9) (by kernel_rfl) hv h
  obtain ⟨e, he⟩ := list_ev hl
  exact ⟨e, by rw [he]⟩
end Go.Proofs.YthnjbnfnljjepabDoor
end
