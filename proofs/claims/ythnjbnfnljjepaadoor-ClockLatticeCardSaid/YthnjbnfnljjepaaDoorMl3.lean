/- Plain data between calls and rows; what holds of the world at every call. -/
import Derived.Test.YthnjbnfnljjepaaDoorMl2
import Derived.OpenShut
import Derived.ProofKit
import Derived.Deep.Slices
import Derived.Deep.Fields
import Derived.ChangeSame
import Derived.Lib.LaidU8
import Derived.Lib.SmallJoins
import Derived.Lib.AppendIntMem
import Derived.Lib.ItoaLen
import Derived.Lib.JoinLaws
import Derived.Test.YthnjbnfnljjepaaDoorRows
import Derived.Stop.LaidErr
import Derived.Deep.DeepLaidRun
import Derived.SizedLaws
import Derived.JoinedOf
import Derived.LaidLaws
section
set_option linter.unusedSimpArgs false
set_option linter.unusedVariables false
namespace Go.Proofs.YthnjbnfnljjepaaDoor
open Go Go.RowKit Go.WideShapes Go.ChangeShapes Go.Deep

theorem Tryd.laidOut : laidOutB Tryd.prog = true := by kernel_rfl
theorem Tryd.own : ownKnob Tryd.prog.godebug = none := by kernel_rfl
theorem Tryd.mixed : Tryd.prog.follows .mixedOrders = true := by kernel_rfl

theorem var_stays {P : Program} {w w' : World} {n : String} {cs : Array Value} (h : w.var? P n = some cs) (hb : Below w.heap.size w w') : w'.var? P n = some cs := by
  unfold World.var? at h ⊢
  cases hg : P.globalNamed n with
  | none => simp [hg] at h
  | some g =>
    simp only [hg, Option.bind_some] at h ⊢
    have hlt : g < w.heap.size := by
      rcases Nat.lt_or_ge g w.heap.size with h' | h'
      · exact h'
      · simp [Array.getElem?_eq_none h'] at h
    rw [hb.block g hlt]
    exact h
/-- what the library's variables hold -/
structure Door (w : World) : Prop where
  p10 : Lib.TabIs Tryd.prog w "internal/strconv.uint64pow10" .u64 Lib.pow10Tab
  sp : Lib.TabIs Tryd.prog w "strings.asciiSpace" .u8 Lib.asciiSpaceTab
  wh : Lib.WhiteTab 1 w
  es : ∃ tp p, w.var? Tryd.prog "strconv.ErrSyntax" = some #[.iface tp p]
  er : ∃ tp p, w.var? Tryd.prog "strconv.ErrRange" = some #[.iface tp p]
theorem Door.keep {w w' : World} (hb : Below w.heap.size w w') (h : Door w) : Door w' := by
  obtain ⟨h1, h2, h3, ⟨t4, p4, h4⟩, t5, p5, h5⟩ := h
  exact ⟨var_stays h1 hb, var_stays h2 hb, WhiteTab_below h3 hb, ⟨t4, p4, var_stays h4 hb⟩, t5, p5, var_stays h5 hb⟩
instance : WInv := ⟨Door, fun _ _ hb h => h.keep hb⟩

abbrev dI (n : Int) : Dt := .sc (.int .i64 n)
abbrev dB (b : Bool) : Dt := .sc (.bool b)
abbrev aI (n : Int) : Av := .b (.one (.d (.sc (.int .i64 n))))
abbrev aB (b : Bool) : Av := .b (.one (.d (.sc (.bool b))))
abbrev pI (n : Int) : Pa := .one (.sc (.int .i64 n))
abbrev pB (b : Bool) : Pa := .one (.sc (.bool b))
abbrev pS (b : ByteArray) : Pa := .one (.sc (.string b))
/-- as many cells of a block as there are -/
def World.cellsOf (w : World) (b : Nat) : Nat := match w.heap[b]? with
  | some (.cells arr _ _) => arr.size
  | _ => 0
theorem cellsOf_lt {w : World} (b i : Nat) (h : (w.cell? ⟨b, i, none⟩).isSome = true) : i < World.cellsOf w b := by
  unfold World.cellsOf
  unfold World.cell? at h
  cases hb : w.heap[b]? with
  | none => simp [hb] at h
  | some x =>
    cases x with
    | cells arr T fr => simp only [hb] at h; simpa using h
    | _ => simp [hb] at h

def intsD (l : List Int) : Dt := .im (l.map fun x => [dI x])
theorem RPs.nth {S : Nat → Nat} {w : World} {ps : List Pa} {vs : Array Value} (h : RPs S w ps vs) {i : Nat} {p : Pa} (hp : ps[i]? = some p) : ∃ u, vs[i]? = some u ∧ RP S w p u := by
  have hi : i < vs.size := by rw [← h.1]; exact (List.getElem?_eq_some_iff.1 hp).1
  exact ⟨vs[i], Array.getElem?_eq_getElem hi, h.2 i p _ hp (Array.getElem?_eq_getElem hi)⟩
theorem RPs.one {S : Nat → Nat} {w : World} {p : Pa} {vs : Array Value} (h : RPs S w [p] vs) : ∃ u, vs = #[u] ∧ RP S w p u := by
  obtain ⟨u, h1, h2⟩ := h.nth (i := 0) rfl
  refine ⟨u, ?_, h2⟩
  have h3 := h.1
  apply Array.ext_getElem?
  intro j
  match j with
  | 0 => simpa using h1
  | j + 1 => rw [Array.getElem?_eq_none (by simp at h3; omega), Array.getElem?_eq_none (by simp)]
theorem RPs.two {S : Nat → Nat} {w : World} {p q : Pa} {vs : Array Value} (h : RPs S w [p, q] vs) : ∃ u v, vs = #[u, v] ∧ RP S w p u ∧ RP S w q v := by
  obtain ⟨u, h1, h2⟩ := h.nth (i := 0) rfl
  obtain ⟨v, h3, h4⟩ := h.nth (i := 1) rfl
  refine ⟨u, v, ?_, h2, h4⟩
  have h5 := h.1
  apply Array.ext_getElem?
  intro j
  match j with
  | 0 => simpa using h1
  | 1 => simpa using h3
  | j + 2 => rw [Array.getElem?_eq_none (by simp at h5; omega), Array.getElem?_eq_none (by simp)]
theorem RPs.three {S : Nat → Nat} {w : World} {p q r : Pa} {vs : Array Value} (h : RPs S w [p, q, r] vs) : ∃ u v x, vs = #[u, v, x] ∧ RP S w p u ∧ RP S w q v ∧ RP S w r x := by
  obtain ⟨u, h1, h2⟩ := h.nth (i := 0) rfl
  obtain ⟨v, h3, h4⟩ := h.nth (i := 1) rfl
  obtain ⟨x, h6, h7⟩ := h.nth (i := 2) rfl
  refine ⟨u, v, x, ?_, h2, h4, h7⟩
  have h5 := h.1
  apply Array.ext_getElem?
  intro j
  match j with
  | 0 => simpa using h1
  | 1 => simpa using h3
  | 2 => simpa using h6
  | j + 3 => rw [Array.getElem?_eq_none (by simp at h5; omega), Array.getElem?_eq_none (by simp)]
theorem RPs.nil {S : Nat → Nat} {w : World} {vs : Array Value} (h : RPs S w [] vs) : vs = #[] := by
  have h3 := h.1
  apply Array.ext_getElem?
  intro j
  rw [Array.getElem?_eq_none (by simp at h3; omega), Array.getElem?_eq_none (by simp)]
theorem RPs.mk1 {S : Nat → Nat} {w : World} {p : Pa} {u : Value} (h : RP S w p u) : RPs S w [p] #[u] := ⟨rfl, fun i q v h1 h2 => by
  match i with
  | 0 => cases h1; simp at h2; subst h2; exact h
  | i + 1 => simp at h1⟩
theorem RPs.mk2 {S : Nat → Nat} {w : World} {p q : Pa} {u v : Value} (h : RP S w p u) (k : RP S w q v) : RPs S w [p, q] #[u, v] := ⟨rfl, fun i r x h1 h2 => by
  match i with
  | 0 => cases h1; simp at h2; subst h2; exact h
  | 1 => cases h1; simp at h2; subst h2; exact k
  | i + 2 => simp at h1⟩
theorem RPs.mk3 {S : Nat → Nat} {w : World} {p q r : Pa} {u v x : Value} (h : RP S w p u) (k : RP S w q v) (m : RP S w r x) : RPs S w [p, q, r] #[u, v, x] := ⟨rfl, fun i o y h1 h2 => by
  match i with
  | 0 => cases h1; simp at h2; subst h2; exact h
  | 1 => cases h1; simp at h2; subst h2; exact k
  | 2 => cases h1; simp at h2; subst h2; exact m
  | i + 3 => simp at h1⟩
theorem RP.int {S : Nat → Nat} {w : World} {n : Int} {u : Value} (h : RP S w (pI n) u) : u = .int .i64 n := (RD.sc_inv h).1
theorem RP.mkInt {S : Nat → Nat} {w : World} (n : Int) : RP S w (pI n) (.int .i64 n) := .sc _ rfl
theorem RP.mkBool {S : Nat → Nat} {w : World} (n : Bool) : RP S w (pB n) (.bool n) := .sc _ rfl
theorem RP.bool {S : Nat → Nat} {w : World} {n : Bool} {u : Value} (h : RP S w (pB n) u) : u = .bool n := (RD.sc_inv h).1
/-- a struct of numbers -/
theorem RP.flat {S : Nat → Nat} {w : World} {vs : List Value} {u : Value} (h : RP S w (.agg (vs.map Dt.sc)) u) : u = .agg vs.toArray := by
  obtain ⟨arr, rfl, h2, h3⟩ := h
  congr 1
  apply Array.ext_getElem?
  intro j
  simp only [List.getElem?_toArray]
  rw [List.length_map] at h2
  cases hj : vs[j]? with
  | none => rw [Array.getElem?_eq_none]; rw [List.getElem?_eq_none_iff] at hj; omega
  | some x =>
    have hlt : j < arr.size := by have := (List.getElem?_eq_some_iff.1 hj).1; omega
    rw [Array.getElem?_eq_getElem hlt, (RD.sc_inv (h3 j (.sc x) arr[j] (by rw [List.getElem?_map, hj]; rfl) (Array.getElem?_eq_getElem hlt))).1]
theorem RP.mkFlat {S : Nat → Nat} {w : World} {vs : List Value} (h : ∀ u, u ∈ vs → u.oneCell' = true) : RP S w (.agg (vs.map Dt.sc)) (.agg vs.toArray) := by
  refine ⟨_, rfl, by simp, fun i x u h1 h2 => ?_⟩
  rw [List.getElem?_map, Option.map_eq_some_iff] at h1
  obtain ⟨y, hy, rfl⟩ := h1
  simp [hy] at h2
  subst h2
  exact .sc _ (h y (List.mem_of_getElem? hy))
theorem trod_int_field {H : Type} {enc : TypeId × Value → H} {P : Program} {w : World} {base n : Nat} {spare : Nat → Bool} {held : Bool} {t : TypeId} (ht : P.underlying t = some (.int .i64)) {v : Value} {y : DataW H × List MemPlace} (h : DataW.trod enc P w base spare held n t [v] = some y) : ∃ x, v = .int .i64 x ∧ (Lit.int .i64 x).wf = true := by
  obtain ⟨x, hx, _, hw⟩ := DataW.trod_int ht h
  simp at hx
  exact ⟨x, hx, hw⟩

theorem i64_of_wf {x : Int} (h : (Lit.int .i64 x).wf = true) : -9223372036854775808 ≤ x ∧ x ≤ 9223372036854775807 := by
  simp [Lit.wf, IntKind.min, IntKind.max, IntKind.signed, IntKind.bits] at h
  omega

theorem trodAll_below {H : Type} {enc : TypeId × Value → H} {P : Program} (hl : laidOutB P = true) {W W' : World} (hb : Below W.heap.size W W') :
    ∀ {ts : List TypeId} {vs : List Value} {ds : List (DataW H)} {ps : List MemPlace}, (ts.all fun t => P.readableRec t && decide (t < P.types.size)) = true → DataW.TrodAll enc P W 0 (fun _ => true) true ts vs ds ps → DataW.TrodAll enc P W' 0 (fun b => decide (b < W.heap.size)) true ts vs ds ps
  | [], vs, ds, ps, _, h => by obtain ⟨rfl, rfl, rfl⟩ := trodAll_nil h; exact trodAll_mk0
  | t :: ts, vs, ds, ps, ht, h => by
    obtain ⟨v, vs', d, ds', p, q, rfl, rfl, rfl, h1, h2⟩ := trodAll_cons h
    simp only [List.all_cons, Bool.and_eq_true, decide_eq_true_eq] at ht
    have lt : ∀ x ∈ p, x.block < W.heap.size := by obtain ⟨m, hm⟩ := h1; exact DataW.trod_lt m _ _ _ hm
    exact trodAll_cons_mk (Below.trod hl ht.1.1 ht.1.2 h1 hb lt) (trodAll_below hl hb (by rw [Bool.eq_iff_iff] at *; simpa using ht.2) h2)

/-- what a contract on data that answers 'true' says of a call -/
theorem Spec.true [I : WInv] {P : Program} {f : Nat} {R : List Pa → List Pa → Prop} (hs : Spec P f R) {ps : List Pa} (hR : R ps [pB true]) {S : Nat → Nat} {w : World} {vals : Array Value} (hw : I.p w) (hv : RPs S w ps vals) :
    Calls P f vals w fun e w' => e = .returned (.bool true) ∧ Below w.heap.size w w' := by
  refine (hs ps _ hR S w vals hw hv).mono ?_
  rintro e w' ⟨v, S', rfl, h1, h2, _⟩
  exact ⟨by rw [RP.bool h1], h2⟩

/-- an array of numbers -/
theorem open_nums {H : Type} {enc : TypeId × Value → H} {P : Program} {w : World} {r : Reach} {b0 base : Nat} {spare : Nat → Bool} {held : Bool} {t tI : TypeId} {n : Nat} (ht : P.underlying t = some (.array n tI)) (hI : P.underlying tI = some (.int .i64)) (hcI : P.cellsOf tI = 1) (hct : P.cellsOf t = n)
    {v : Value} {d : DataW H} {ps : List MemPlace} (hv : ∃ xs : Array Value, v = .agg xs ∧ xs.size = n) (h : DataW.Trod enc P w base spare held t v d ps) :
    ∃ l : List Int, l.length = n ∧ v = .agg (l.map (Value.int .i64)).toArray ∧ ∀ x, x ∈ l → -9223372036854775808 ≤ x ∧ x ≤ 9223372036854775807 := by
  obtain ⟨cs, rfl, hcs⟩ := hv
  obtain ⟨fuel, hf⟩ := h
  obtain ⟨xs, m, _, _, hl, hlen, hfs⟩ := DataW.trod_array ht hf
  have key : ∀ i, ∃ x : Int, i < n → cs[i]? = some (.int .i64 x) ∧ -9223372036854775808 ≤ x ∧ x ≤ 9223372036854775807 := by
    intro i
    by_cases hi : i < n
    · have h1 := hfs i hi
      rw [hcI, Nat.mul_one] at h1
      have hic : i < cs.size := by omega
      have hone' : ((Value.agg cs).cells.toList.drop i).take 1 = [cs[i]'hic] := by
        show (cs.toList.drop i).take 1 = _
        rw [List.drop_eq_getElem_cons (by simpa using hic)]
        simp
      rw [hone'] at h1
      have hxs : xs[i]? = some (xs[i]'(by omega)) := List.getElem?_eq_getElem _
      rw [hxs] at h1
      obtain ⟨x, hx, hw⟩ := trod_int_field hI h1
      exact ⟨x, fun _ => ⟨by rw [Array.getElem?_eq_getElem hic, hx], i64_of_wf hw⟩⟩
    · exact ⟨0, fun h => absurd h hi⟩
  obtain ⟨g, hg⟩ := Classical.skolem.1 key
  refine ⟨(List.range n).map g, by simp, ?_, fun x hx => ?_⟩
  · congr 1
    apply Array.ext_getElem?
    intro i
    simp only [List.getElem?_toArray, List.getElem?_map]
    rcases Nat.lt_or_ge i n with hi | hi
    · rw [(hg i hi).1, List.getElem?_range hi]; rfl
    · rw [Array.getElem?_eq_none (by omega), List.getElem?_eq_none (by simpa using hi)]; rfl
  · simp only [List.mem_map, List.mem_range] at hx
    obtain ⟨i, hi, rfl⟩ := hx
    exact (hg i hi).2
end Go.Proofs.YthnjbnfnljjepaaDoor
end
section
set_option linter.unusedSimpArgs false
set_option linter.unusedVariables false
namespace Go.Proofs.YthnjbnfnljjepaaDoor
open Go Go.RowKit Go.Sort

abbrev strB (l : List UInt8) : ByteArray := ⟨l.toArray⟩
theorem strB_inj {a b : ByteArray} (h : a.data.toList = b.data.toList) : a = b := by
  cases a; cases b; simp at h; subst h; rfl
abbrev rowsS (xs : List ByteArray) : List (List Dt) := xs.map fun x => [Dt.sc (.string x)]
abbrev pL (xs : List ByteArray) : Pa := .one (.im (rowsS xs))

theorem RP.str {S : Nat → Nat} {w : World} {s : ByteArray} {u : Value} (h : RP S w (pS s) u) : u = .string s := (RD.sc_inv h).1
theorem below_grow' (w : World) (k : Nat) (os : Array Obj) : Below w.heap.size w (grow (w.drewN k) os) := Lib.below_grow _ w (Nat.le_refl _) k os

def R_itoa (ps rs : List Pa) : Prop := ∃ n : Int, (-9223372036854775808 ≤ n ∧ n ≤ 9223372036854775807) ∧ ps = [pI n] ∧ rs = [pS (strB (Lib.itoa n))]
theorem s_itoa : Spec Tryd.prog 26 R_itoa := by
  rintro az rs ⟨n, hn, rfl, rfl⟩ S w vals hI hv
  obtain ⟨u, rfl, h1⟩ := hv.one
  rw [RP.int h1]
  refine (Tryd.strconv_Itoa n hn.1 hn.2 w hI.p10).mono ?_
  rintro e w' ⟨rfl, k, os, rfl⟩
  exact ⟨_, S, rfl, .sc _ rfl, below_grow' w k os, fun _ _ => rfl⟩

def cutB : ByteArray := ⟨#[91, 93]⟩
def R_trim (ps rs : List Pa) : Prop := ∃ s : ByteArray, s.size ≤ 1000000 ∧ ps = [pS s, pS cutB] ∧ rs = [pS (strB (Lib.trimS s.data.toList [91, 93]))]
theorem s_trim : Spec Tryd.prog 29 R_trim := by
  rintro az rs ⟨s, hs, rfl, rfl⟩ S w vals hI hv
  obtain ⟨u, u2, rfl, h1, h2⟩ := hv.two
  rw [RP.str h1, RP.str h2]
  refine (Tryd.strings_Trim_laid s cutB w (by omega) (by decide) (ascii_of_all (by decide))).mono ?_
  rintro e w' ⟨rfl, hb⟩
  exact ⟨_, S, rfl, .sc _ rfl, hb, fun _ _ => rfl⟩

def R_atoi (ps rs : List Pa) : Prop := ∃ s : ByteArray, s.size ≤ 1000000 ∧ ps = [pS s] ∧ rs = match Lib.atoiAll s.data.toList with
  | .ok v => [pI v, .one (.sc .nilIface)]
  | .range => [pI (Lib.atoiSat s.data.toList), .one .nn]
  | _ => [pI 0, .one .nn]
theorem below_bytes (w : World) (t : TypeId) (s : ByteArray) : Below w.heap.size w (Lib.bytesWorld w t s) := by
  exact ⟨rfl, rfl, rfl, by rw [Lib.bytesWorld_size]; omega, fun k hk => Lib.bytesWorld_at_old w t s k hk⟩
theorem s_atoi : Spec Tryd.prog 30 R_atoi := by
  rintro az rs ⟨s, hs, rfl, rfl⟩ S w vals hI hv
  obtain ⟨u, rfl, h1⟩ := hv.one
  rw [RP.str h1]
  cases ha : Lib.atoiAll s.data.toList with
  | ok v =>
    refine (Tryd.strconv_Atoi_ok s (by omega) v ha w).mono ?_
    rintro e w' ⟨rfl, hb⟩
    refine ⟨_, S, rfl, ⟨_, rfl, RPs.mk2 (RP.mkInt v) (.sc _ rfl)⟩, ?_, fun _ _ => rfl⟩
    rcases hb with rfl | ⟨t, rfl⟩
    · exact Below.refl _ _
    · exact below_bytes _ _ _
  | range =>
    obtain ⟨tp, p, hvar⟩ := hI.er
    refine (Tryd.strconv_Atoi_range_var s (by omega) ha tp p w hvar).mono ?_
    rintro e w' ⟨N, rfl, _, _, hb⟩
    exact ⟨_, S, rfl, ⟨_, rfl, RPs.mk2 (RP.mkInt _) (.nn _ _)⟩, hb, fun _ _ => rfl⟩
  | _ =>
    obtain ⟨tp, p, hvar⟩ := hI.es
    refine (Tryd.strconv_Atoi_syntax_var s (by omega) ha tp p w hvar).mono ?_
    rintro e w' ⟨N, rfl, _, _, hb⟩
    exact ⟨_, S, rfl, ⟨_, rfl, RPs.mk2 (RP.mkInt 0) (.nn _ _)⟩, hb, fun _ _ => rfl⟩

/-- a slice of strings that a call has made -/
theorem rd_strs {S : Nat → Nat} {w w' : World} {A : Nat} {t : TypeId} {xs : List ByteArray} (hA : w.heap.size ≤ A)
    (ho : w'.ownsRow w.heap.size t 1 (.slice (some ⟨A, 0, none⟩) xs.length xs.length) xs.length (xs.map Value.string)) :
    ∃ S', RD S' w' (.im (rowsS xs)) (.slice (some ⟨A, 0, none⟩) xs.length xs.length) ∧ ∀ b, b < w.heap.size → S' b = S b := by
  obtain ⟨_, ho⟩ := ho
  rcases ho with ⟨h, _⟩ | ⟨g, cap, cur, he, _, hg, hc, hm, hsz, htk⟩
  · cases h
  cases he
  refine ⟨fun b => if b = A then xs.length else S b, ?_, fun b hb => if_neg (by omega)⟩
  have hcell : ∀ i, i < xs.length → w'.cell? ⟨A, i, none⟩ = some (.string (xs.getD i default)) := fun i hi => by
    have h1 : cur.toList[i]? = some (.string (xs.getD i default)) := by
      have h2 := congrArg (·[i]?) htk
      simp only [List.getElem?_take, Nat.mul_one, if_pos hi, List.getElem?_map] at h2
      rw [h2, List.getElem?_eq_getElem hi]
      simp [List.getD, List.getElem?_eq_getElem hi]
    simp only [World.cell?, hg]
    simpa using h1
  have h := RD.im (S := fun b => if b = A then xs.length else S b) (w := w') (rowsS xs) 1 A 0 xs.length (fun i _ => .string (xs.getD i default)) (by simp [rowsS]) hm (fun r hr => by simp only [rowsS, List.mem_map] at hr; obtain ⟨_, _, rfl⟩ := hr; rfl)
    (fun i j hi hj => by
      have hi' : i < xs.length := by simpa [rowsS] using hi
      have hj0 : j = 0 := by omega
      subst hj0
      rw [show 0 + (i * 1 + 0) = i by omega]
      exact ⟨hcell i hi', by simp [hi']⟩)
    (fun i r j x hr hx => by
      simp only [rowsS, List.getElem?_map, Option.map_eq_some_iff] at hr
      obtain ⟨y, hy, rfl⟩ := hr
      match j, hx with
      | 0, hx =>
        simp at hx
        subst hx
        simp only [List.getD, hy, Option.getD_some]
        exact .sc _ rfl
      | j + 1, hx => simp at hx)
  simpa [rowsS] using h

def R_fields (ps rs : List Pa) : Prop := ∃ s : ByteArray, s.size ≤ 1000000 ∧ ps = [pS s] ∧ rs = [pL ((Lib.fieldsD s.data.toList).map strB)]
theorem s_fields : Spec Tryd.prog 28 R_fields := by
  rintro az rs ⟨s, hs, rfl, rfl⟩ S w vals hI hv
  obtain ⟨u, rfl, h1⟩ := hv.one
  rw [RP.str h1]
  refine (Tryd.strings_Fields_any s w (by omega) hI.sp hI.wh).mono ?_
  rintro e w' ⟨A, rfl, hA, ho, hb⟩
  obtain ⟨S', h2, h3⟩ := rd_strs (S := S) (xs := (Lib.fieldsD s.data.toList).map strB) hA (by
    have : ((Lib.fieldsD s.data.toList).map fun x => Value.string ⟨x.toArray⟩) = ((Lib.fieldsD s.data.toList).map strB).map Value.string := by rw [List.map_map]; rfl
    rw [this] at ho
    simpa using ho)
  simp only [List.length_map] at h2
  exact ⟨_, S', rfl, h2, hb, h3⟩

def R_join (ps rs : List Pa) : Prop := ∃ (xs : List ByteArray) (sep : ByteArray), xs.length ≤ 1000000 ∧ (Lib.join (xs.map (·.data.toList)) sep.data.toList).length ≤ 1000000 ∧ ps = [pL xs, pS sep] ∧ rs = [pS (strB (Lib.join (xs.map (·.data.toList)) sep.data.toList))]
theorem s_join : Spec Tryd.prog 27 R_join := by
  rintro az rs ⟨xs, sep, hx, hl, rfl, rfl⟩ S w vals hI hv
  obtain ⟨u, u2, rfl, h1, h2⟩ := hv.two
  rw [RP.str h2]
  have h1' : RD S w (.im (rowsS xs)) u := h1
  obtain ⟨A, cap, vs, e0, e1, e2, e3, e4, e5, e6⟩ := h1'.flat (sz := 1) (fun r hr => by simp only [rowsS, List.mem_map] at hr; obtain ⟨_, _, rfl⟩ := hr; rfl)
  have hlen : (rowsS xs).length = xs.length := by simp [rowsS]
  by_cases hz : xs = []
  · subst hz
    rw [e0]
    refine (Tryd.strings_Join_none A cap sep w).mono ?_
    rintro e w' ⟨rfl, rfl⟩
    exact ⟨_, S, rfl, .sc _ rfl, Below.refl _ _, fun _ _ => rfl⟩
  rcases e6 with h | ⟨b, o, rfl, h7⟩
  · simp [rowsS] at h; exact absurd h hz
  rw [e0, hlen]
  have hcells : ∀ (j : Nat) x, xs[j]? = some x → w.cell? ⟨b, o + j, none⟩ = some (.string x) := fun j x hj => by
    obtain ⟨u', h3, h4⟩ := e5 j [Dt.sc (.string x)] 0 (.sc (.string x)) (by simp [rowsS, hj]) rfl
    rw [(RD.sc_inv h4).1, show j * 1 + 0 = j by omega] at h3
    exact (h7 j _ h3).1
  have hbk : b < w.heap.size := by
    obtain ⟨x, hx0⟩ : ∃ x, xs[0]? = some x := by cases xs with
      | nil => exact absurd rfl hz
      | cons x _ => exact ⟨x, rfl⟩
    have h3 := hcells 0 x hx0
    rcases Nat.lt_or_ge b w.heap.size with h' | h'
    · exact h'
    · simp [World.cell?, Array.getElem?_eq_none h'] at h3
  refine (Tryd.strings_Join b o cap xs sep w hcells hbk (by omega) (by omega) (by omega)).mono ?_
  rintro e w' ⟨rfl, hb⟩
  exact ⟨_, S, rfl, .sc _ rfl, hb, fun _ _ => rfl⟩
end Go.Proofs.YthnjbnfnljjepaaDoor
end
section
set_option linter.unusedSimpArgs false
set_option linter.unusedVariables false
namespace Go.Proofs.YthnjbnfnljjepaaDoor
open Go Go.RowKit
set_option maxRecDepth 100000
set_option maxHeartbeats 4000000

abbrev Ck := List Int
def ckRow (c : Ck) : List Dt := c.map dI
def ckPa (c : Ck) : Pa := .agg (ckRow c)
def ckCells (c : Ck) : List Cl := c.map fun x => .d (dI x)
theorem ckCells_dt (c : Ck) : allSome ((ckCells c).map Cl.dt) = some (ckRow c) := by
  induction c with
  | nil => rfl
  | cons x c ih =>
    show (allSome ((ckCells c).map Cl.dt)).map (dI x :: ·) = _
    rw [ih]; rfl
theorem ckRow_cells (c : Ck) : (ckRow c).map Cl.d = ckCells c := by unfold ckRow ckCells; rw [List.map_map]; rfl
theorem ckCells_length (c : Ck) : (ckCells c).length = c.length := List.length_map ..
theorem ckCells_get (c : Ck) (i : Nat) (x : Int) (h : c[i]? = some x) : (ckCells c)[i]? = some (.d (dI x)) := by unfold ckCells; rw [List.getElem?_map, h]; rfl
theorem ckCells_set (c : Ck) (i : Nat) (x : Int) (h : i < c.length) : wrAt (ckCells c) i [.d (dI x)] = ckCells (c.set i x) := by
  induction c generalizing i with
  | nil => simp at h
  | cons y c ih =>
    cases i with
    | zero =>
      simp only [ckCells, List.map_cons, wrAt, List.set_cons_zero]
      congr 1
      cases c <;> rfl
    | succ i =>
      simp only [ckCells, List.map_cons, List.set_cons_succ, wrAt]
      congr 1
      exact ih i (by simpa using h)
theorem wrAt_full {cs ds : List Cl} (h : cs.length = ds.length) : wrAt cs 0 ds = ds := by
  induction cs generalizing ds with
  | nil => cases ds with
    | nil => rfl
    | cons d ds => simp at h
  | cons c cs ih => cases ds with
    | nil => simp at h
    | cons d ds =>
      simp only [wrAt]
      rw [ih (by simpa using h)]
theorem wr_new8 {c : Ck} (h : c.length = 8) : wrAt [.d (.sc (.int .i64 0)), .d (.sc (.int .i64 0)), .d (.sc (.int .i64 0)), .d (.sc (.int .i64 0)), .d (.sc (.int .i64 0)), .d (.sc (.int .i64 0)), .d (.sc (.int .i64 0)), .d (.sc (.int .i64 0))] 0 (ckCells c) = ckCells c :=
  wrAt_full (by rw [ckCells_length, h]; rfl)
theorem eqCls_ck {a b : Ck} (h : a.length = b.length) : eqCls (List.replicate a.length false) (ckCells a) (ckCells b) = some (decide (a = b)) := by
  induction a generalizing b with
  | nil =>
    cases b with
    | nil => rfl
    | cons y b => simp at h
  | cons x a ih =>
    cases b with
    | nil => simp at h
    | cons y b =>
      have h2 := ih (b := b) (by simpa using h)
      rw [List.length_cons, List.replicate_succ]
      show (match eqCl false (.d (dI x)) (.d (dI y)), eqCls (List.replicate a.length false) (ckCells a) (ckCells b) with | some p, some q => some (p && q) | _, _ => none) = _
      rw [h2]
      show some ((x == y) && decide (a = b)) = _
      congr 1
      rw [Bool.eq_iff_iff]; simp

section
variable (f : Int → Int → Int)
def zipC (a b : Ck) : Ck := List.zipWith f a b
def toC (a b : Ck) (k : Nat) : Ck := zipC f (a.take k) (b.take k) ++ a.drop k
variable {f}
theorem zipC_length {a b : Ck} (ha : a.length = 8) (hb : b.length = 8) : (zipC f a b).length = 8 := by unfold zipC; rw [List.length_zipWith]; omega
theorem toC_zero (a b : Ck) : toC f a b 0 = a := by simp [toC, zipC]
theorem toC_all {a b : Ck} (ha : a.length = 8) (hb : b.length = 8) : toC f a b 8 = zipC f a b := by
  unfold toC
  rw [List.take_of_length_le (by omega), List.take_of_length_le (by omega), List.drop_eq_nil_of_le (by omega), List.append_nil]
theorem toC_length {a b : Ck} (ha : a.length = 8) (hb : b.length = 8) {k : Nat} (hk : k ≤ 8) : (toC f a b k).length = 8 := by
  unfold toC zipC
  rw [List.length_append, List.length_zipWith, List.length_take, List.length_take, List.length_drop]; omega
theorem toC_get {a b : Ck} (ha : a.length = 8) (hb : b.length = 8) {k : Nat} (hk : k < 8) {x : Int} (hx : a[k]? = some x) : (toC f a b k)[k]? = some x := by
  have hl : (zipC f (a.take k) (b.take k)).length = k := by unfold zipC; rw [List.length_zipWith, List.length_take, List.length_take]; omega
  unfold toC
  rw [List.getElem?_append_right (by omega), hl, Nat.sub_self, List.getElem?_drop, Nat.add_zero]; exact hx
theorem toC_succ {a b : Ck} (ha : a.length = 8) (hb : b.length = 8) {k : Nat} (hk : k < 8) {x y : Int} (hx : a[k]? = some x) (hy : b[k]? = some y) : (toC f a b k).set k (f x y) = toC f a b (k + 1) := by
  have hl : (zipC f (a.take k) (b.take k)).length = k := by unfold zipC; rw [List.length_zipWith, List.length_take, List.length_take]; omega
  unfold toC
  rw [List.set_append_right _ _ (by omega), hl, Nat.sub_self, List.drop_eq_getElem_cons (by omega), List.set_cons_zero]
  have e1 : a.take (k + 1) = a.take k ++ [x] := by rw [List.take_add_one, hx]; rfl
  have e2 : b.take (k + 1) = b.take k ++ [y] := by rw [List.take_add_one, hy]; rfl
  rw [e1, e2]
  unfold zipC
  rw [List.zipWith_append (by rw [List.length_take, List.length_take]; omega)]
  simp
end
def fJ (x y : Int) : Int := if y > x then y else x
def fM (x y : Int) : Int := if y < x then y else x
/-- what a function of two clocks does -/
def R_zip (f : Int → Int → Int) (ps rs : List Pa) : Prop := ∃ a b : Ck, ps = [ckPa a, ckPa b] ∧ (a.length = 8 ∧ b.length = 8) ∧ rs = [ckPa (zipC f a b)]
theorem R_zip.mk {f : Int → Int → Int} {a b : Ck} (ha : a.length = 8) (hb : b.length = 8) : R_zip f [ckPa a, ckPa b] [ckPa (zipC f a b)] := ⟨a, b, rfl, ⟨ha, hb⟩, rfl⟩
theorem s_cJoin : Spec Tryd.prog 15 (R_zip fJ) := by
  refine sp15 EnvOK.e0 ?_
  rintro ps rs ⟨a, b, rfl, ⟨ha, hb⟩, rfl⟩
  refine ⟨by simp, ?_⟩
  unfold pc15
  refine pwp_start ?_
  simp only [↓evP, evB, stB, reduceIte, reduceCtorEq, Nat.reduceEqDiff, Nat.reduceAdd, Nat.reduceMul, Nat.reduceLeDiff, Nat.reduceLT, Nat.reduceSub, Nat.reduceBEq, ckPa, ckRow_cells]
  refine pwp_loopW ms15_0 os15_0 (fun m st => ∃ k : Nat, m = 8 - k ∧ k ≤ 8 ∧ st.sl 6 = aI k ∧ st.gen 2 = 1 ∧ st.ob 2 = .cells (ckCells (toC fJ a b k))) 8 ?_ ?_
  · exact ⟨0, rfl, Nat.zero_le _, by simp only [stB, reduceIte, reduceCtorEq, Nat.reduceEqDiff, Nat.reduceAdd, Nat.reduceMul, Nat.reduceLeDiff, Nat.reduceLT, Nat.reduceSub, Nat.reduceBEq]; rfl, by simp only [stB, reduceIte, reduceCtorEq, Nat.reduceEqDiff, Nat.reduceAdd, Nat.reduceMul, Nat.reduceLeDiff, Nat.reduceLT, Nat.reduceSub, Nat.reduceBEq], by simp only [stB, reduceIte, reduceCtorEq, Nat.reduceEqDiff, Nat.reduceAdd, Nat.reduceMul, Nat.reduceLeDiff, Nat.reduceLT, Nat.reduceSub, Nat.reduceBEq, toC_zero]⟩
  · rintro m j ⟨k, rfl, hk, h6, g2, o2⟩
    simp only [stB, reduceIte, reduceCtorEq, Nat.reduceEqDiff, Nat.reduceAdd, Nat.reduceMul, Nat.reduceLeDiff, Nat.reduceLT, Nat.reduceSub, Nat.reduceBEq] at h6 g2 o2
    rcases Nat.lt_or_ge k 8 with hlt | hge
    · obtain ⟨x, hx⟩ : ∃ x, a[k]? = some x := ⟨_, List.getElem?_eq_getElem (by omega)⟩
      obtain ⟨y, hy⟩ : ∃ y, b[k]? = some y := ⟨_, List.getElem?_eq_getElem (by omega)⟩
      have hlt' : (k : Int) < 8 := by omega
      have h0 : (0 : Int) ≤ (k : Int) := by omega
      have hlt8 : (k : Int) < ((8 : Nat) : Int) := by omega
      have e1 := ckCells_get _ _ _ (toC_get (f := fJ) ha hb hlt hx)
      have e2 := ckCells_get _ _ _ hy
      have e3 : k + 1 ≤ (ckCells (toC fJ a b k)).length := by rw [ckCells_length, toC_length ha hb hk]; omega
      have e4 := (ckCells_set (toC fJ a b k) k (if y > x then y else x) (by rw [toC_length ha hb hk]; omega)).trans (congrArg ckCells (toC_succ (f := fJ) ha hb hlt hx hy))
      simp only [↓evP, evB, stB, reduceIte, reduceCtorEq, Nat.reduceEqDiff, Nat.reduceAdd, Nat.reduceMul, Nat.reduceLeDiff, Nat.reduceLT, Nat.reduceSub, Nat.reduceBEq, h6, g2, o2, hlt', hlt8, h0, e1, e2, e3, e4, Nat.mul_one, List.foldl_cons, List.foldl_nil]
      refine ⟨(by unfold Drw; kernel_rfl), ?_⟩
      exact ⟨_, by omega, (by repeat' (first | assumption | exact within_over.mpr trivial | exact Within.refl _ _ _ | (refine within_ap ?_ rfl rfl) | (refine within_ap0 ?_ rfl))), k + 1, rfl, by omega, by simp only [stB, reduceIte, reduceCtorEq, Nat.reduceEqDiff, Nat.reduceAdd, Nat.reduceMul, Nat.reduceLeDiff, Nat.reduceLT, Nat.reduceSub, Nat.reduceBEq, h6]; rw [wrN (by omega)], by simp only [stB, reduceIte, reduceCtorEq, Nat.reduceEqDiff, Nat.reduceAdd, Nat.reduceMul, Nat.reduceLeDiff, Nat.reduceLT, Nat.reduceSub, Nat.reduceBEq, g2], by simp only [stB, reduceIte, reduceCtorEq, Nat.reduceEqDiff, Nat.reduceAdd, Nat.reduceMul, Nat.reduceLeDiff, Nat.reduceLT, Nat.reduceSub, Nat.reduceBEq, o2, wrF_cells]; rw [e4]⟩
    · have hk8 : k = 8 := by omega
      subst hk8
      have hlt' : ¬ ((8 : Nat) : Int) < 8 := by omega
      have e3 : 0 + 8 ≤ (ckCells (toC fJ a b 8)).length := by rw [ckCells_length, toC_length ha hb (by omega)]; omega
      have e4 : (ckCells (toC fJ a b 8)).take 8 = ckCells (toC fJ a b 8) := List.take_of_length_le (by rw [ckCells_length, toC_length ha hb (by omega)]; omega)
      have e5 : (ckCells (toC fJ a b 8)).length = 8 := by rw [ckCells_length, toC_length ha hb (by omega)]
      simp only [↓evP, evB, stB, reduceIte, reduceCtorEq, Nat.reduceEqDiff, Nat.reduceAdd, Nat.reduceMul, Nat.reduceLeDiff, Nat.reduceLT, Nat.reduceSub, Nat.reduceBEq, h6, g2, o2, hlt', e3, e4, e5, wr_new8 (toC_length ha hb (Nat.le_refl 8)), ckCells_dt, pr15]
      rw [toC_all ha hb]
theorem s_cMeet : Spec Tryd.prog 12 (R_zip fM) := by
  refine sp12 EnvOK.e0 ?_
  rintro ps rs ⟨a, b, rfl, ⟨ha, hb⟩, rfl⟩
  refine ⟨by simp, ?_⟩
  unfold pc12
  refine pwp_start ?_
  simp only [↓evP, evB, stB, reduceIte, reduceCtorEq, Nat.reduceEqDiff, Nat.reduceAdd, Nat.reduceMul, Nat.reduceLeDiff, Nat.reduceLT, Nat.reduceSub, Nat.reduceBEq, ckPa, ckRow_cells]
  refine pwp_loopW ms12_0 os12_0 (fun m st => ∃ k : Nat, m = 8 - k ∧ k ≤ 8 ∧ st.sl 6 = aI k ∧ st.gen 2 = 1 ∧ st.ob 2 = .cells (ckCells (toC fM a b k))) 8 ?_ ?_
  · exact ⟨0, rfl, Nat.zero_le _, by simp only [stB, reduceIte, reduceCtorEq, Nat.reduceEqDiff, Nat.reduceAdd, Nat.reduceMul, Nat.reduceLeDiff, Nat.reduceLT, Nat.reduceSub, Nat.reduceBEq]; rfl, by simp only [stB, reduceIte, reduceCtorEq, Nat.reduceEqDiff, Nat.reduceAdd, Nat.reduceMul, Nat.reduceLeDiff, Nat.reduceLT, Nat.reduceSub, Nat.reduceBEq], by simp only [stB, reduceIte, reduceCtorEq, Nat.reduceEqDiff, Nat.reduceAdd, Nat.reduceMul, Nat.reduceLeDiff, Nat.reduceLT, Nat.reduceSub, Nat.reduceBEq, toC_zero]⟩
  · rintro m j ⟨k, rfl, hk, h6, g2, o2⟩
    simp only [stB, reduceIte, reduceCtorEq, Nat.reduceEqDiff, Nat.reduceAdd, Nat.reduceMul, Nat.reduceLeDiff, Nat.reduceLT, Nat.reduceSub, Nat.reduceBEq] at h6 g2 o2
    rcases Nat.lt_or_ge k 8 with hlt | hge
    · obtain ⟨x, hx⟩ : ∃ x, a[k]? = some x := ⟨_, List.getElem?_eq_getElem (by omega)⟩
      obtain ⟨y, hy⟩ : ∃ y, b[k]? = some y := ⟨_, List.getElem?_eq_getElem (by omega)⟩
      have hlt' : (k : Int) < 8 := by omega
      have h0 : (0 : Int) ≤ (k : Int) := by omega
      have hlt8 : (k : Int) < ((8 : Nat) : Int) := by omega
      have e1 := ckCells_get _ _ _ (toC_get (f := fM) ha hb hlt hx)
      have e2 := ckCells_get _ _ _ hy
      have e3 : k + 1 ≤ (ckCells (toC fM a b k)).length := by rw [ckCells_length, toC_length ha hb hk]; omega
      have e4 := (ckCells_set (toC fM a b k) k (if y < x then y else x) (by rw [toC_length ha hb hk]; omega)).trans (congrArg ckCells (toC_succ (f := fM) ha hb hlt hx hy))
      simp only [↓evP, evB, stB, reduceIte, reduceCtorEq, Nat.reduceEqDiff, Nat.reduceAdd, Nat.reduceMul, Nat.reduceLeDiff, Nat.reduceLT, Nat.reduceSub, Nat.reduceBEq, h6, g2, o2, hlt', hlt8, h0, e1, e2, e3, e4, Nat.mul_one, List.foldl_cons, List.foldl_nil]
      refine ⟨(by unfold Drw; kernel_rfl), ?_⟩
      exact ⟨_, by omega, (by repeat' (first | assumption | exact within_over.mpr trivial | exact Within.refl _ _ _ | (refine within_ap ?_ rfl rfl) | (refine within_ap0 ?_ rfl))), k + 1, rfl, by omega, by simp only [stB, reduceIte, reduceCtorEq, Nat.reduceEqDiff, Nat.reduceAdd, Nat.reduceMul, Nat.reduceLeDiff, Nat.reduceLT, Nat.reduceSub, Nat.reduceBEq, h6]; rw [wrN (by omega)], by simp only [stB, reduceIte, reduceCtorEq, Nat.reduceEqDiff, Nat.reduceAdd, Nat.reduceMul, Nat.reduceLeDiff, Nat.reduceLT, Nat.reduceSub, Nat.reduceBEq, g2], by simp only [stB, reduceIte, reduceCtorEq, Nat.reduceEqDiff, Nat.reduceAdd, Nat.reduceMul, Nat.reduceLeDiff, Nat.reduceLT, Nat.reduceSub, Nat.reduceBEq, o2, wrF_cells]; rw [e4]⟩
    · have hk8 : k = 8 := by omega
      subst hk8
      have hlt' : ¬ ((8 : Nat) : Int) < 8 := by omega
      have e3 : 0 + 8 ≤ (ckCells (toC fM a b 8)).length := by rw [ckCells_length, toC_length ha hb (by omega)]; omega
      have e4 : (ckCells (toC fM a b 8)).take 8 = ckCells (toC fM a b 8) := List.take_of_length_le (by rw [ckCells_length, toC_length ha hb (by omega)]; omega)
      have e5 : (ckCells (toC fM a b 8)).length = 8 := by rw [ckCells_length, toC_length ha hb (by omega)]
      simp only [↓evP, evB, stB, reduceIte, reduceCtorEq, Nat.reduceEqDiff, Nat.reduceAdd, Nat.reduceMul, Nat.reduceLeDiff, Nat.reduceLT, Nat.reduceSub, Nat.reduceBEq, h6, g2, o2, hlt', e3, e4, e5, wr_new8 (toC_length ha hb (Nat.le_refl 8)), ckCells_dt, pr12]
      rw [toC_all ha hb]
theorem s_rJoin : Spec Tryd.prog 19 (R_zip fJ) := by
  refine sp19 EnvOK.e0 ?_
  rintro ps rs ⟨a, b, rfl, ⟨ha, hb⟩, rfl⟩
  refine ⟨by simp, ?_⟩
  unfold pc19
  refine pwp_start ?_
  simp only [↓evP, evB, stB, reduceIte, reduceCtorEq, Nat.reduceEqDiff, Nat.reduceAdd, Nat.reduceMul, Nat.reduceLeDiff, Nat.reduceLT, Nat.reduceSub, Nat.reduceBEq, ckPa, ckRow_cells]
  refine pwp_loopW ms19_0 os19_0 (fun m st => ∃ k : Nat, m = 8 - k ∧ k ≤ 8 ∧ st.sl 5 = aI k ∧ st.gen 2 = 1 ∧ st.ob 2 = .cells (ckCells (toC fJ a b k))) 8 ?_ ?_
  · exact ⟨0, rfl, Nat.zero_le _, by simp only [stB, reduceIte, reduceCtorEq, Nat.reduceEqDiff, Nat.reduceAdd, Nat.reduceMul, Nat.reduceLeDiff, Nat.reduceLT, Nat.reduceSub, Nat.reduceBEq]; rfl, by simp only [stB, reduceIte, reduceCtorEq, Nat.reduceEqDiff, Nat.reduceAdd, Nat.reduceMul, Nat.reduceLeDiff, Nat.reduceLT, Nat.reduceSub, Nat.reduceBEq], by simp only [stB, reduceIte, reduceCtorEq, Nat.reduceEqDiff, Nat.reduceAdd, Nat.reduceMul, Nat.reduceLeDiff, Nat.reduceLT, Nat.reduceSub, Nat.reduceBEq, toC_zero]⟩
  · rintro m j ⟨k, rfl, hk, h6, g2, o2⟩
    simp only [stB, reduceIte, reduceCtorEq, Nat.reduceEqDiff, Nat.reduceAdd, Nat.reduceMul, Nat.reduceLeDiff, Nat.reduceLT, Nat.reduceSub, Nat.reduceBEq] at h6 g2 o2
    rcases Nat.lt_or_ge k 8 with hlt | hge
    · obtain ⟨x, hx⟩ : ∃ x, a[k]? = some x := ⟨_, List.getElem?_eq_getElem (by omega)⟩
      obtain ⟨y, hy⟩ : ∃ y, b[k]? = some y := ⟨_, List.getElem?_eq_getElem (by omega)⟩
      have hlt' : (k : Int) < 8 := by omega
      have h0 : (0 : Int) ≤ (k : Int) := by omega
      have hlt8 : (k : Int) < ((8 : Nat) : Int) := by omega
      have e1 := ckCells_get _ _ _ (toC_get (f := fJ) ha hb hlt hx)
      have e2 := ckCells_get _ _ _ hy
      have e3 : k + 1 ≤ (ckCells (toC fJ a b k)).length := by rw [ckCells_length, toC_length ha hb hk]; omega
      by_cases hc : y > x
      · have e4 := (ckCells_set (toC fJ a b k) k y (by rw [toC_length ha hb hk]; omega)).trans (congrArg ckCells ((congrArg ((toC fJ a b k).set k) (show y = fJ x y by unfold fJ; rw [if_pos hc])).trans (toC_succ (f := fJ) ha hb hlt hx hy)))
        simp only [↓evP, evB, stB, reduceIte, reduceCtorEq, Nat.reduceEqDiff, Nat.reduceAdd, Nat.reduceMul, Nat.reduceLeDiff, Nat.reduceLT, Nat.reduceSub, Nat.reduceBEq, h6, g2, o2, hlt', hlt8, h0, e1, e2, e3, e4, hc, decide_true, decide_false, Nat.mul_one]
        refine ⟨(by unfold Drw; kernel_rfl), ?_⟩
        exact ⟨_, by omega, (by repeat' (first | assumption | exact within_over.mpr trivial | exact Within.refl _ _ _ | (refine within_ap ?_ rfl rfl) | (refine within_ap0 ?_ rfl))), k + 1, rfl, by omega, by simp only [stB, reduceIte, reduceCtorEq, Nat.reduceEqDiff, Nat.reduceAdd, Nat.reduceMul, Nat.reduceLeDiff, Nat.reduceLT, Nat.reduceSub, Nat.reduceBEq, h6]; rw [wrN (by omega)], by simp only [stB, reduceIte, reduceCtorEq, Nat.reduceEqDiff, Nat.reduceAdd, Nat.reduceMul, Nat.reduceLeDiff, Nat.reduceLT, Nat.reduceSub, Nat.reduceBEq, g2], by simp only [stB, reduceIte, reduceCtorEq, Nat.reduceEqDiff, Nat.reduceAdd, Nat.reduceMul, Nat.reduceLeDiff, Nat.reduceLT, Nat.reduceSub, Nat.reduceBEq, o2, wrF_cells]; rw [e4]⟩
      · have e4 : toC fJ a b k = toC fJ a b (k + 1) := by
          rw [← toC_succ (f := fJ) ha hb hlt hx hy, show fJ x y = x by unfold fJ; rw [if_neg hc]]
          have := toC_get (f := fJ) ha hb hlt hx
          exact (List.ext_getElem? fun i => by
            rw [List.getElem?_set]
            split
            · rename_i h; subst h; rw [this]; simp [toC_length ha hb hk, hlt]
            · rfl)
        simp only [↓evP, evB, stB, reduceIte, reduceCtorEq, Nat.reduceEqDiff, Nat.reduceAdd, Nat.reduceMul, Nat.reduceLeDiff, Nat.reduceLT, Nat.reduceSub, Nat.reduceBEq, h6, g2, o2, hlt', hlt8, h0, e1, e2, e3, hc, decide_true, decide_false, Nat.mul_one]
        refine ⟨(by unfold Drw; kernel_rfl), ?_⟩
        exact ⟨_, by omega, (by repeat' (first | assumption | exact within_over.mpr trivial | exact Within.refl _ _ _ | (refine within_ap ?_ rfl rfl) | (refine within_ap0 ?_ rfl))), k + 1, rfl, by omega, by simp only [stB, reduceIte, reduceCtorEq, Nat.reduceEqDiff, Nat.reduceAdd, Nat.reduceMul, Nat.reduceLeDiff, Nat.reduceLT, Nat.reduceSub, Nat.reduceBEq, h6]; rw [wrN (by omega)], by simp only [stB, reduceIte, reduceCtorEq, Nat.reduceEqDiff, Nat.reduceAdd, Nat.reduceMul, Nat.reduceLeDiff, Nat.reduceLT, Nat.reduceSub, Nat.reduceBEq, g2], by simp only [stB, reduceIte, reduceCtorEq, Nat.reduceEqDiff, Nat.reduceAdd, Nat.reduceMul, Nat.reduceLeDiff, Nat.reduceLT, Nat.reduceSub, Nat.reduceBEq, o2]; rw [← e4]⟩
    · have hk8 : k = 8 := by omega
      subst hk8
      have hlt' : ¬ ((8 : Nat) : Int) < 8 := by omega
      have e3 : 0 + 8 ≤ (ckCells (toC fJ a b 8)).length := by rw [ckCells_length, toC_length ha hb (by omega)]; omega
      have e4 : (ckCells (toC fJ a b 8)).take 8 = ckCells (toC fJ a b 8) := List.take_of_length_le (by rw [ckCells_length, toC_length ha hb (by omega)]; omega)
      have e5 : (ckCells (toC fJ a b 8)).length = 8 := by rw [ckCells_length, toC_length ha hb (by omega)]
      simp only [↓evP, evB, stB, reduceIte, reduceCtorEq, Nat.reduceEqDiff, Nat.reduceAdd, Nat.reduceMul, Nat.reduceLeDiff, Nat.reduceLT, Nat.reduceSub, Nat.reduceBEq, h6, g2, o2, hlt', e3, e4, e5, wr_new8 (toC_length ha hb (Nat.le_refl 8)), ckCells_dt, pr19]
      rw [toC_all ha hb]
theorem s_rMeet : Spec Tryd.prog 14 (R_zip fM) := by
  refine sp14 EnvOK.e0 ?_
  rintro ps rs ⟨a, b, rfl, ⟨ha, hb⟩, rfl⟩
  refine ⟨by simp, ?_⟩
  unfold pc14
  refine pwp_start ?_
  simp only [↓evP, evB, stB, reduceIte, reduceCtorEq, Nat.reduceEqDiff, Nat.reduceAdd, Nat.reduceMul, Nat.reduceLeDiff, Nat.reduceLT, Nat.reduceSub, Nat.reduceBEq, ckPa, ckRow_cells]
  refine pwp_loopW ms14_0 os14_0 (fun m st => ∃ k : Nat, m = 8 - k ∧ k ≤ 8 ∧ st.sl 5 = aI k ∧ st.gen 2 = 1 ∧ st.ob 2 = .cells (ckCells (toC fM a b k))) 8 ?_ ?_
  · exact ⟨0, rfl, Nat.zero_le _, by simp only [stB, reduceIte, reduceCtorEq, Nat.reduceEqDiff, Nat.reduceAdd, Nat.reduceMul, Nat.reduceLeDiff, Nat.reduceLT, Nat.reduceSub, Nat.reduceBEq]; rfl, by simp only [stB, reduceIte, reduceCtorEq, Nat.reduceEqDiff, Nat.reduceAdd, Nat.reduceMul, Nat.reduceLeDiff, Nat.reduceLT, Nat.reduceSub, Nat.reduceBEq], by simp only [stB, reduceIte, reduceCtorEq, Nat.reduceEqDiff, Nat.reduceAdd, Nat.reduceMul, Nat.reduceLeDiff, Nat.reduceLT, Nat.reduceSub, Nat.reduceBEq, toC_zero]⟩
  · rintro m j ⟨k, rfl, hk, h6, g2, o2⟩
    simp only [stB, reduceIte, reduceCtorEq, Nat.reduceEqDiff, Nat.reduceAdd, Nat.reduceMul, Nat.reduceLeDiff, Nat.reduceLT, Nat.reduceSub, Nat.reduceBEq] at h6 g2 o2
    rcases Nat.lt_or_ge k 8 with hlt | hge
    · obtain ⟨x, hx⟩ : ∃ x, a[k]? = some x := ⟨_, List.getElem?_eq_getElem (by omega)⟩
      obtain ⟨y, hy⟩ : ∃ y, b[k]? = some y := ⟨_, List.getElem?_eq_getElem (by omega)⟩
      have hlt' : (k : Int) < 8 := by omega
      have h0 : (0 : Int) ≤ (k : Int) := by omega
      have hlt8 : (k : Int) < ((8 : Nat) : Int) := by omega
      have e1 := ckCells_get _ _ _ (toC_get (f := fM) ha hb hlt hx)
      have e2 := ckCells_get _ _ _ hy
      have e3 : k + 1 ≤ (ckCells (toC fM a b k)).length := by rw [ckCells_length, toC_length ha hb hk]; omega
      by_cases hc : y < x
      · have e4 := (ckCells_set (toC fM a b k) k y (by rw [toC_length ha hb hk]; omega)).trans (congrArg ckCells ((congrArg ((toC fM a b k).set k) (show y = fM x y by unfold fM; rw [if_pos hc])).trans (toC_succ (f := fM) ha hb hlt hx hy)))
        simp only [↓evP, evB, stB, reduceIte, reduceCtorEq, Nat.reduceEqDiff, Nat.reduceAdd, Nat.reduceMul, Nat.reduceLeDiff, Nat.reduceLT, Nat.reduceSub, Nat.reduceBEq, h6, g2, o2, hlt', hlt8, h0, e1, e2, e3, e4, hc, decide_true, decide_false, Nat.mul_one]
        refine ⟨(by unfold Drw; kernel_rfl), ?_⟩
        exact ⟨_, by omega, (by repeat' (first | assumption | exact within_over.mpr trivial | exact Within.refl _ _ _ | (refine within_ap ?_ rfl rfl) | (refine within_ap0 ?_ rfl))), k + 1, rfl, by omega, by simp only [stB, reduceIte, reduceCtorEq, Nat.reduceEqDiff, Nat.reduceAdd, Nat.reduceMul, Nat.reduceLeDiff, Nat.reduceLT, Nat.reduceSub, Nat.reduceBEq, h6]; rw [wrN (by omega)], by simp only [stB, reduceIte, reduceCtorEq, Nat.reduceEqDiff, Nat.reduceAdd, Nat.reduceMul, Nat.reduceLeDiff, Nat.reduceLT, Nat.reduceSub, Nat.reduceBEq, g2], by simp only [stB, reduceIte, reduceCtorEq, Nat.reduceEqDiff, Nat.reduceAdd, Nat.reduceMul, Nat.reduceLeDiff, Nat.reduceLT, Nat.reduceSub, Nat.reduceBEq, o2, wrF_cells]; rw [e4]⟩
      · have e4 : toC fM a b k = toC fM a b (k + 1) := by
          rw [← toC_succ (f := fM) ha hb hlt hx hy, show fM x y = x by unfold fM; rw [if_neg hc]]
          have := toC_get (f := fM) ha hb hlt hx
          exact (List.ext_getElem? fun i => by
            rw [List.getElem?_set]
            split
            · rename_i h; subst h; rw [this]; simp [toC_length ha hb hk, hlt]
            · rfl)
        simp only [↓evP, evB, stB, reduceIte, reduceCtorEq, Nat.reduceEqDiff, Nat.reduceAdd, Nat.reduceMul, Nat.reduceLeDiff, Nat.reduceLT, Nat.reduceSub, Nat.reduceBEq, h6, g2, o2, hlt', hlt8, h0, e1, e2, e3, hc, decide_true, decide_false, Nat.mul_one]
        refine ⟨(by unfold Drw; kernel_rfl), ?_⟩
        exact ⟨_, by omega, (by repeat' (first | assumption | exact within_over.mpr trivial | exact Within.refl _ _ _ | (refine within_ap ?_ rfl rfl) | (refine within_ap0 ?_ rfl))), k + 1, rfl, by omega, by simp only [stB, reduceIte, reduceCtorEq, Nat.reduceEqDiff, Nat.reduceAdd, Nat.reduceMul, Nat.reduceLeDiff, Nat.reduceLT, Nat.reduceSub, Nat.reduceBEq, h6]; rw [wrN (by omega)], by simp only [stB, reduceIte, reduceCtorEq, Nat.reduceEqDiff, Nat.reduceAdd, Nat.reduceMul, Nat.reduceLeDiff, Nat.reduceLT, Nat.reduceSub, Nat.reduceBEq, g2], by simp only [stB, reduceIte, reduceCtorEq, Nat.reduceEqDiff, Nat.reduceAdd, Nat.reduceMul, Nat.reduceLeDiff, Nat.reduceLT, Nat.reduceSub, Nat.reduceBEq, o2]; rw [← e4]⟩
    · have hk8 : k = 8 := by omega
      subst hk8
      have hlt' : ¬ ((8 : Nat) : Int) < 8 := by omega
      have e3 : 0 + 8 ≤ (ckCells (toC fM a b 8)).length := by rw [ckCells_length, toC_length ha hb (by omega)]; omega
      have e4 : (ckCells (toC fM a b 8)).take 8 = ckCells (toC fM a b 8) := List.take_of_length_le (by rw [ckCells_length, toC_length ha hb (by omega)]; omega)
      have e5 : (ckCells (toC fM a b 8)).length = 8 := by rw [ckCells_length, toC_length ha hb (by omega)]
      simp only [↓evP, evB, stB, reduceIte, reduceCtorEq, Nat.reduceEqDiff, Nat.reduceAdd, Nat.reduceMul, Nat.reduceLeDiff, Nat.reduceLT, Nat.reduceSub, Nat.reduceBEq, h6, g2, o2, hlt', e3, e4, e5, wr_new8 (toC_length ha hb (Nat.le_refl 8)), ckCells_dt, pr14]
      rw [toC_all ha hb]

def leqC (a b : Ck) : Bool := (a.zip b).all fun p => decide (p.1 ≤ p.2)
theorem leqC_iff : ∀ {a b : Ck}, a.length = b.length → (zipC fJ a b = b ↔ leqC a b = true)
  | [], [], _ => by simp [zipC, leqC]
  | x :: a, y :: b, h => by
    have ih := leqC_iff (a := a) (b := b) (by simpa using h)
    simp only [zipC, leqC, List.zipWith_cons_cons, List.cons.injEq, List.zip_cons_cons, List.all_cons, Bool.and_eq_true, decide_eq_true_eq] at ih ⊢
    rw [ih]
    have : fJ x y = y ↔ x ≤ y := by unfold fJ; split <;> omega
    rw [this]
theorem leqC_take {a b : Ck} {k : Nat} {x y : Int} (hx : a[k]? = some x) (hy : b[k]? = some y) : leqC (a.take (k + 1)) (b.take (k + 1)) = (leqC (a.take k) (b.take k) && decide (x ≤ y)) := by
  have hk := (List.getElem?_eq_some_iff.1 hx).1
  have hk2 := (List.getElem?_eq_some_iff.1 hy).1
  rw [List.take_add_one, List.take_add_one, hx, hy]
  unfold leqC
  rw [show (some x : Option Int).toList = [x] from rfl, show (some y : Option Int).toList = [y] from rfl, List.zip_append (by rw [List.length_take, List.length_take]; omega)]
  simp
theorem leqC_false {a b : Ck} {k : Nat} {x y : Int} (hx : a[k]? = some x) (hy : b[k]? = some y) (h : ¬ x ≤ y) : leqC a b = false := by
  rw [Bool.eq_false_iff]
  intro h1
  have := List.all_eq_true.1 h1 (x, y) (List.mem_of_getElem? (i := k) (by rw [List.getElem?_zip_eq_some]; exact ⟨hx, hy⟩))
  simp at this
  exact h this
/-- eight numbers are loaded, compared -/
theorem ld8 {a : Ck} (ha : a.length = 8) : 0 + 8 ≤ (ckCells a).length ∧ (ckCells a).take 8 = ckCells a := by
  have h : (ckCells a).length = 8 := by rw [ckCells_length, ha]
  exact ⟨by omega, List.take_of_length_le (by omega)⟩
theorem eq8 {a b : Ck} (ha : a.length = 8) (hb : b.length = 8) : eqCls [false, false, false, false, false, false, false, false] (ckCells a) (ckCells b) = some (decide (a = b)) := by
  have := eqCls_ck (a := a) (b := b) (by omega)
  rw [ha] at this
  exact this
def R_leq (ps rs : List Pa) : Prop := ∃ a b : Ck, ps = [ckPa a, ckPa b] ∧ (a.length = 8 ∧ b.length = 8) ∧ rs = [pB (leqC a b)]
theorem R_leq.mk {a b : Ck} (ha : a.length = 8) (hb : b.length = 8) : R_leq [ckPa a, ckPa b] [pB (leqC a b)] := ⟨a, b, rfl, ⟨ha, hb⟩, rfl⟩
theorem s_cLeq : Spec Tryd.prog 13 R_leq := by
  refine sp13 (EnvOK.e1 s_cJoin EnvOK.e0) ?_
  rintro ps rs ⟨a, b, rfl, ⟨ha, hb⟩, rfl⟩
  refine ⟨by simp, ?_⟩
  obtain ⟨a1, a2⟩ := ld8 ha
  obtain ⟨b1, b2⟩ := ld8 hb
  unfold pc13
  refine pwp_start ?_
  simp only [↓evP, evB, stB, reduceIte, reduceCtorEq, Nat.reduceEqDiff, Nat.reduceAdd, Nat.reduceMul, Nat.reduceLeDiff, Nat.reduceLT, Nat.reduceSub, Nat.reduceBEq, ckPa, ckRow_cells, a1, a2, b1, b2, ckCells_dt]
  refine callD_intro [ckPa (zipC fJ a b)] (by exact R_zip.mk ha hb) ?_
  have e1 := eq8 (zipC_length (f := fJ) ha hb) hb
  have e2 : decide (zipC fJ a b = b) = leqC a b := by rw [Bool.eq_iff_iff, decide_eq_true_eq]; exact leqC_iff (by omega)
  simp only [↓evP, evB, stB, reduceIte, reduceCtorEq, Nat.reduceEqDiff, Nat.reduceAdd, Nat.reduceMul, Nat.reduceLeDiff, Nat.reduceLT, Nat.reduceSub, Nat.reduceBEq, ckPa, ckRow_cells, a1, a2, b1, b2, e1, e2, pr13]
  unfold Drw; refine Eq.trans (b := true) ?_ rfl; kernel_rfl
theorem s_rLeq : Spec Tryd.prog 18 R_leq := by
  refine sp18 EnvOK.e0 ?_
  rintro ps rs ⟨a, b, rfl, ⟨ha, hb⟩, rfl⟩
  refine ⟨by simp, ?_⟩
  unfold pc18
  refine pwp_start ?_
  simp only [↓evP, evB, stB, reduceIte, reduceCtorEq, Nat.reduceEqDiff, Nat.reduceAdd, Nat.reduceMul, Nat.reduceLeDiff, Nat.reduceLT, Nat.reduceSub, Nat.reduceBEq, ckPa, ckRow_cells]
  refine pwp_loopW ms18_0 os18_0 (fun m st => ∃ k : Nat, m = 8 - k ∧ k ≤ 8 ∧ st.sl 5 = aI k ∧ leqC (a.take k) (b.take k) = true) 8 ?_ ?_
  · exact ⟨0, rfl, Nat.zero_le _, by simp only [stB, reduceIte, reduceCtorEq, Nat.reduceEqDiff, Nat.reduceAdd, Nat.reduceMul, Nat.reduceLeDiff, Nat.reduceLT, Nat.reduceSub, Nat.reduceBEq]; rfl, rfl⟩
  · rintro m j ⟨k, rfl, hk, h6, hq⟩
    simp only [stB, reduceIte, reduceCtorEq, Nat.reduceEqDiff, Nat.reduceAdd, Nat.reduceMul, Nat.reduceLeDiff, Nat.reduceLT, Nat.reduceSub, Nat.reduceBEq] at h6
    rcases Nat.lt_or_ge k 8 with hlt | hge
    · obtain ⟨x, hx⟩ : ∃ x, a[k]? = some x := ⟨_, List.getElem?_eq_getElem (by omega)⟩
      obtain ⟨y, hy⟩ : ∃ y, b[k]? = some y := ⟨_, List.getElem?_eq_getElem (by omega)⟩
      have hlt' : (k : Int) < 8 := by omega
      have h0 : (0 : Int) ≤ (k : Int) := by omega
      have hlt8 : (k : Int) < ((8 : Nat) : Int) := by omega
      have e1 := ckCells_get _ _ _ hx
      have e2 := ckCells_get _ _ _ hy
      by_cases hc : x > y
      · have hf := leqC_false hx hy (by omega)
        simp only [↓evP, evB, stB, reduceIte, reduceCtorEq, Nat.reduceEqDiff, Nat.reduceAdd, Nat.reduceMul, Nat.reduceLeDiff, Nat.reduceLT, Nat.reduceSub, Nat.reduceBEq, h6, hlt', hlt8, h0, e1, e2, hc, decide_true, decide_false, Nat.mul_one, pr18]
        refine ⟨(by unfold Drw; kernel_rfl), ?_⟩
        simp only [↓evP, evB, stB, reduceIte, reduceCtorEq, Nat.reduceEqDiff, Nat.reduceAdd, Nat.reduceMul, Nat.reduceLeDiff, Nat.reduceLT, Nat.reduceSub, Nat.reduceBEq, h6, hf, pr18]
      · have e4 := leqC_take hx hy
        rw [hq, show decide (x ≤ y) = true from decide_eq_true (by omega)] at e4
        simp only [↓evP, evB, stB, reduceIte, reduceCtorEq, Nat.reduceEqDiff, Nat.reduceAdd, Nat.reduceMul, Nat.reduceLeDiff, Nat.reduceLT, Nat.reduceSub, Nat.reduceBEq, h6, hlt', hlt8, h0, e1, e2, hc, decide_true, decide_false, Nat.mul_one]
        refine ⟨(by unfold Drw; kernel_rfl), ?_⟩
        exact ⟨_, by omega, (by repeat' (first | assumption | exact within_over.mpr trivial | exact Within.refl _ _ _ | (refine within_ap ?_ rfl rfl) | (refine within_ap0 ?_ rfl))), k + 1, rfl, by omega, by simp only [stB, reduceIte, reduceCtorEq, Nat.reduceEqDiff, Nat.reduceAdd, Nat.reduceMul, Nat.reduceLeDiff, Nat.reduceLT, Nat.reduceSub, Nat.reduceBEq, h6]; rw [wrN (by omega)], e4⟩
    · have hk8 : k = 8 := by omega
      subst hk8
      have hlt' : ¬ ((8 : Nat) : Int) < 8 := by omega
      rw [List.take_of_length_le (by omega), List.take_of_length_le (by omega)] at hq
      simp only [↓evP, evB, stB, reduceIte, reduceCtorEq, Nat.reduceEqDiff, Nat.reduceAdd, Nat.reduceMul, Nat.reduceLeDiff, Nat.reduceLT, Nat.reduceSub, Nat.reduceBEq, h6, hlt', hq, pr18]

def cmpC (a b : Ck) : Int × Bool := if a = b then (0, true) else if leqC a b = true then (-1, true) else if leqC b a = true then (1, true) else (0, false)
def R_cmp (ps rs : List Pa) : Prop := ∃ a b : Ck, ps = [ckPa a, ckPa b] ∧ (a.length = 8 ∧ b.length = 8) ∧ rs = [pI (cmpC a b).1, pB (cmpC a b).2]
theorem R_cmp.mk {a b : Ck} (ha : a.length = 8) (hb : b.length = 8) : R_cmp [ckPa a, ckPa b] [pI (cmpC a b).1, pB (cmpC a b).2] := ⟨a, b, rfl, ⟨ha, hb⟩, rfl⟩

theorem s_cCompare : Spec Tryd.prog 16 R_cmp := by
  refine sp16 (EnvOK.e1 s_cLeq EnvOK.e0) ?_
  rintro ps rs ⟨a, b, rfl, ⟨ha, hb⟩, rfl⟩
  refine ⟨by simp, ?_⟩
  obtain ⟨a1, a2⟩ := ld8 ha
  obtain ⟨b1, b2⟩ := ld8 hb
  have e1 := eq8 ha hb
  unfold pc16
  refine pwp_start ?_
  simp only [↓evP, evB, stB, reduceIte, reduceCtorEq, Nat.reduceEqDiff, Nat.reduceAdd, Nat.reduceMul, Nat.reduceLeDiff, Nat.reduceLT, Nat.reduceSub, Nat.reduceBEq, ckPa, ckRow_cells, a1, a2, b1, b2, e1]
  by_cases hab : a = b
  · simp only [↓evP, evB, stB, reduceIte, reduceCtorEq, Nat.reduceEqDiff, Nat.reduceAdd, Nat.reduceMul, Nat.reduceLeDiff, Nat.reduceLT, Nat.reduceSub, Nat.reduceBEq, hab, decide_true, cmpC, pI, pB, pr16]
  · simp only [↓evP, evB, stB, reduceIte, reduceCtorEq, Nat.reduceEqDiff, Nat.reduceAdd, Nat.reduceMul, Nat.reduceLeDiff, Nat.reduceLT, Nat.reduceSub, Nat.reduceBEq, hab, decide_false, a1, a2, b1, b2, ckCells_dt, cmpC]
    refine callOps_intro [pB (leqC a b)] (by exact R_leq.mk ha hb) ?_
    cases h1 : leqC a b with
    | true => simp only [↓evP, evB, stB, reduceIte, reduceCtorEq, Nat.reduceEqDiff, Nat.reduceAdd, Nat.reduceMul, Nat.reduceLeDiff, Nat.reduceLT, Nat.reduceSub, Nat.reduceBEq, pI, pB, pr16]
    | false =>
      simp only [↓evP, evB, stB, reduceIte, reduceCtorEq, Nat.reduceEqDiff, Nat.reduceAdd, Nat.reduceMul, Nat.reduceLeDiff, Nat.reduceLT, Nat.reduceSub, Nat.reduceBEq, a1, a2, b1, b2, ckCells_dt]
      refine callOps_intro [pB (leqC b a)] (by exact R_leq.mk hb ha) ?_
      cases h2 : leqC b a with
      | true => simp only [↓evP, evB, stB, reduceIte, reduceCtorEq, Nat.reduceEqDiff, Nat.reduceAdd, Nat.reduceMul, Nat.reduceLeDiff, Nat.reduceLT, Nat.reduceSub, Nat.reduceBEq, pI, pB, pr16]
      | false => simp only [↓evP, evB, stB, reduceIte, reduceCtorEq, Nat.reduceEqDiff, Nat.reduceAdd, Nat.reduceMul, Nat.reduceLeDiff, Nat.reduceLT, Nat.reduceSub, Nat.reduceBEq, pI, pB, pr16]

theorem s_rCompare : Spec Tryd.prog 17 R_cmp := by
  refine sp17 (EnvOK.e1 s_rLeq EnvOK.e0) ?_
  rintro ps rs ⟨a, b, rfl, ⟨ha, hb⟩, rfl⟩
  refine ⟨by simp, ?_⟩
  obtain ⟨a1, a2⟩ := ld8 ha
  obtain ⟨b1, b2⟩ := ld8 hb
  have e1 := eq8 ha hb
  unfold pc17
  refine pwp_start ?_
  simp only [↓evP, evB, stB, reduceIte, reduceCtorEq, Nat.reduceEqDiff, Nat.reduceAdd, Nat.reduceMul, Nat.reduceLeDiff, Nat.reduceLT, Nat.reduceSub, Nat.reduceBEq, ckPa, ckRow_cells, a1, a2, b1, b2, e1]
  by_cases hab : a = b
  · simp only [↓evP, evB, stB, reduceIte, reduceCtorEq, Nat.reduceEqDiff, Nat.reduceAdd, Nat.reduceMul, Nat.reduceLeDiff, Nat.reduceLT, Nat.reduceSub, Nat.reduceBEq, hab, decide_true, cmpC, pI, pB, pr17]
  · simp only [↓evP, evB, stB, reduceIte, reduceCtorEq, Nat.reduceEqDiff, Nat.reduceAdd, Nat.reduceMul, Nat.reduceLeDiff, Nat.reduceLT, Nat.reduceSub, Nat.reduceBEq, hab, decide_false, a1, a2, b1, b2, ckCells_dt, cmpC]
    refine callOps_intro [pB (leqC a b)] (by exact R_leq.mk ha hb) ?_
    cases h1 : leqC a b with
    | true => simp only [↓evP, evB, stB, reduceIte, reduceCtorEq, Nat.reduceEqDiff, Nat.reduceAdd, Nat.reduceMul, Nat.reduceLeDiff, Nat.reduceLT, Nat.reduceSub, Nat.reduceBEq, pI, pB, pr17]
    | false =>
      simp only [↓evP, evB, stB, reduceIte, reduceCtorEq, Nat.reduceEqDiff, Nat.reduceAdd, Nat.reduceMul, Nat.reduceLeDiff, Nat.reduceLT, Nat.reduceSub, Nat.reduceBEq, a1, a2, b1, b2, ckCells_dt]
      refine callOps_intro [pB (leqC b a)] (by exact R_leq.mk hb ha) ?_
      cases h2 : leqC b a with
      | true => simp only [↓evP, evB, stB, reduceIte, reduceCtorEq, Nat.reduceEqDiff, Nat.reduceAdd, Nat.reduceMul, Nat.reduceLeDiff, Nat.reduceLT, Nat.reduceSub, Nat.reduceBEq, pI, pB, pr17]
      | false => simp only [↓evP, evB, stB, reduceIte, reduceCtorEq, Nat.reduceEqDiff, Nat.reduceAdd, Nat.reduceMul, Nat.reduceLeDiff, Nat.reduceLT, Nat.reduceSub, Nat.reduceBEq, pI, pB, pr17]
end Go.Proofs.YthnjbnfnljjepaaDoor
end
section
set_option linter.unusedSimpArgs false
set_option linter.unusedVariables false
namespace Go.Proofs.YthnjbnfnljjepaaDoor
open Go Go.RowKit
set_option maxRecDepth 100000
set_option maxHeartbeats 4000000

def tickC (c : Ck) (g : Int) : Ck := if 0 ≤ g ∧ g < 8 ∧ c.getD g.toNat 0 < 9223372036854775807 then c.set g.toNat (c.getD g.toNat 0 + 1) else c
theorem tickC_length {c : Ck} {g : Int} : (tickC c g).length = c.length := by unfold tickC; split <;> simp
theorem tick_get {c : Ck} (hc : c.length = 8) {g : Int} (h0 : 0 ≤ g) (h8 : g < 8) : c[g.toNat]? = some (c.getD g.toNat 0) := by
  rw [List.getD_eq_getElem?_getD, List.getElem?_eq_getElem (show g.toNat < c.length by omega)]; rfl
def OK64 (c : Ck) : Prop := ∀ x, x ∈ c → -9223372036854775808 ≤ x ∧ x ≤ 9223372036854775807
def R_tick (ps rs : List Pa) : Prop := ∃ (c : Ck) (g : Int), ps = [ckPa c, pI g] ∧ (c.length = 8 ∧ OK64 c) ∧ rs = [ckPa (tickC c g)]
theorem R_tick.mk {c : Ck} {g : Int} (h : c.length = 8) (ho : OK64 c) : R_tick [ckPa c, pI g] [ckPa (tickC c g)] := ⟨c, g, rfl, ⟨h, ho⟩, rfl⟩
theorem s_cTick : Spec Tryd.prog 20 R_tick := by
  refine sp20 EnvOK.e0 ?_
  rintro ps rs ⟨c, g, rfl, ⟨hc, ho⟩, rfl⟩
  refine ⟨by simp, ?_⟩
  obtain ⟨a1, a2⟩ := ld8 hc
  have a5 : (ckCells c).length = 8 := by rw [ckCells_length, hc]
  unfold pc20
  refine pwp_start ?_
  simp only [↓evP, evB, stB, reduceIte, reduceCtorEq, Nat.reduceEqDiff, Nat.reduceAdd, Nat.reduceMul, Nat.reduceLeDiff, Nat.reduceLT, Nat.reduceSub, Nat.reduceBEq, ckPa, ckRow_cells]
  have done : tickC c g = c → True := fun _ => trivial
  by_cases h0 : g ≥ 0
  case neg =>
    have ht : tickC c g = c := by unfold tickC; rw [if_neg (by omega)]
    simp only [↓evP, evB, stB, reduceIte, reduceCtorEq, Nat.reduceEqDiff, Nat.reduceAdd, Nat.reduceMul, Nat.reduceLeDiff, Nat.reduceLT, Nat.reduceSub, Nat.reduceBEq, h0, decide_false, a1, a2, a5, wr_new8 hc, ckCells_dt, ht, pr20]
  by_cases h8 : g < 8
  case neg =>
    have ht : tickC c g = c := by unfold tickC; rw [if_neg (by omega)]
    simp only [↓evP, evB, stB, reduceIte, reduceCtorEq, Nat.reduceEqDiff, Nat.reduceAdd, Nat.reduceMul, Nat.reduceLeDiff, Nat.reduceLT, Nat.reduceSub, Nat.reduceBEq, h0, h8, decide_true, decide_false, a1, a2, a5, wr_new8 hc, ckCells_dt, ht, pr20]
  have hg := tick_get hc h0 h8
  have e1 := ckCells_get _ _ _ hg
  have h8' : g < ((8 : Nat) : Int) := by omega
  have h0' : 0 ≤ g := h0
  by_cases hm : c.getD g.toNat 0 < 9223372036854775807
  · have ht : tickC c g = c.set g.toNat (c.getD g.toNat 0 + 1) := by unfold tickC; rw [if_pos ⟨h0, h8, hm⟩]
    have hw : IntKind.i64.wrap (c.getD g.toNat 0 + 1) = c.getD g.toNat 0 + 1 := wr64 (by have := (ho _ (List.mem_of_getElem? hg)).1; omega) (by omega)
    have e4 := ckCells_set c g.toNat (c.getD g.toNat 0 + 1) (by omega)
    have e3 : g.toNat + 1 ≤ (ckCells c).length := by omega
    have l2 : (c.set g.toNat (c.getD g.toNat 0 + 1)).length = 8 := by rw [List.length_set, hc]
    obtain ⟨b1, b2⟩ := ld8 l2
    have b5 : (ckCells (c.set g.toNat (c.getD g.toNat 0 + 1))).length = 8 := by rw [ckCells_length, l2]
    simp only [↓evP, evB, stB, reduceIte, reduceCtorEq, Nat.reduceEqDiff, Nat.reduceAdd, Nat.reduceMul, Nat.reduceLeDiff, Nat.reduceLT, Nat.reduceSub, Nat.reduceBEq, h0, h0', h8, h8', hm, e1, e3, hw, Nat.mul_one, decide_true, decide_false, wrF_cells, e4, b1, b2, b5, wr_new8 l2, ckCells_dt, ht, pr20]
  · have ht : tickC c g = c := by unfold tickC; rw [if_neg (by omega)]
    simp only [↓evP, evB, stB, reduceIte, reduceCtorEq, Nat.reduceEqDiff, Nat.reduceAdd, Nat.reduceMul, Nat.reduceLeDiff, Nat.reduceLT, Nat.reduceSub, Nat.reduceBEq, h0, h0', h8, h8', hm, e1, Nat.mul_one, decide_true, decide_false, a1, a2, a5, wr_new8 hc, ckCells_dt, ht, pr20]
theorem s_rTick : Spec Tryd.prog 21 R_tick := by
  refine sp21 EnvOK.e0 ?_
  rintro ps rs ⟨c, g, rfl, ⟨hc, ho⟩, rfl⟩
  refine ⟨by simp, ?_⟩
  obtain ⟨a1, a2⟩ := ld8 hc
  have a5 : (ckCells c).length = 8 := by rw [ckCells_length, hc]
  unfold pc21
  refine pwp_start ?_
  simp only [↓evP, evB, stB, reduceIte, reduceCtorEq, Nat.reduceEqDiff, Nat.reduceAdd, Nat.reduceMul, Nat.reduceLeDiff, Nat.reduceLT, Nat.reduceSub, Nat.reduceBEq, ckPa, ckRow_cells]
  by_cases h0 : g < 0
  · have ht : tickC c g = c := by unfold tickC; rw [if_neg (by omega)]
    simp only [↓evP, evB, stB, reduceIte, reduceCtorEq, Nat.reduceEqDiff, Nat.reduceAdd, Nat.reduceMul, Nat.reduceLeDiff, Nat.reduceLT, Nat.reduceSub, Nat.reduceBEq, h0, decide_true, a1, a2, a5, wr_new8 hc, ckCells_dt, ht, pr21]
  by_cases h8 : g ≥ 8
  · have ht : tickC c g = c := by unfold tickC; rw [if_neg (by omega)]
    simp only [↓evP, evB, stB, reduceIte, reduceCtorEq, Nat.reduceEqDiff, Nat.reduceAdd, Nat.reduceMul, Nat.reduceLeDiff, Nat.reduceLT, Nat.reduceSub, Nat.reduceBEq, h0, h8, decide_true, decide_false, a1, a2, a5, wr_new8 hc, ckCells_dt, ht, pr21]
  have h0' : 0 ≤ g := by omega
  have h8' : g < ((8 : Nat) : Int) := by omega
  have hg := tick_get hc h0' (by omega)
  have e1 := ckCells_get _ _ _ hg
  cases hm : (c.getD g.toNat 0 == 9223372036854775807) with
  | false =>
    have hb := ho _ (List.mem_of_getElem? hg)
    have hm' : c.getD g.toNat 0 < 9223372036854775807 := by simp only [beq_eq_false_iff_ne, ne_eq] at hm; omega
    have ht : tickC c g = c.set g.toNat (c.getD g.toNat 0 + 1) := by unfold tickC; rw [if_pos ⟨h0', by omega, hm'⟩]
    have hw : IntKind.i64.wrap (c.getD g.toNat 0 + 1) = c.getD g.toNat 0 + 1 := wr64 (by omega) (by omega)
    have e4 := ckCells_set c g.toNat (c.getD g.toNat 0 + 1) (by omega)
    have e3 : g.toNat + 1 ≤ (ckCells c).length := by omega
    have l2 : (c.set g.toNat (c.getD g.toNat 0 + 1)).length = 8 := by rw [List.length_set, hc]
    obtain ⟨b1, b2⟩ := ld8 l2
    have b5 : (ckCells (c.set g.toNat (c.getD g.toNat 0 + 1))).length = 8 := by rw [ckCells_length, l2]
    simp only [↓evP, evB, stB, reduceIte, reduceCtorEq, Nat.reduceEqDiff, Nat.reduceAdd, Nat.reduceMul, Nat.reduceLeDiff, Nat.reduceLT, Nat.reduceSub, Nat.reduceBEq, h0, h0', h8, h8', hm, e1, e3, hw, Nat.mul_one, decide_true, decide_false, wrF_cells, e4, b1, b2, b5, wr_new8 l2, ckCells_dt, ht, pr21]
  | true =>
    have hm' := beq_iff_eq.1 hm
    have ht : tickC c g = c := by unfold tickC; rw [if_neg (by omega)]
    simp only [↓evP, evB, stB, reduceIte, reduceCtorEq, Nat.reduceEqDiff, Nat.reduceAdd, Nat.reduceMul, Nat.reduceLeDiff, Nat.reduceLT, Nat.reduceSub, Nat.reduceBEq, h0, h0', h8, h8', hm, e1, Nat.mul_one, decide_true, decide_false, a1, a2, a5, wr_new8 hc, ckCells_dt, ht, pr21]
end Go.Proofs.YthnjbnfnljjepaaDoor
end
section
set_option linter.unusedSimpArgs false
set_option linter.unusedVariables false
namespace Go.Proofs.YthnjbnfnljjepaaDoor
open Go Go.RowKit
set_option maxRecDepth 100000
set_option maxHeartbeats 4000000

/-- the number of components that a text has -/
def trimN (c : Ck) : Nat → Nat
  | 0 => 0
  | n + 1 => if c.getD n 0 = 0 then trimN c n else n + 1
def tn (c : Ck) : Nat := trimN c 8
theorem trimN_le (c : Ck) (n : Nat) : trimN c n ≤ n := by
  induction n with
  | zero => exact Nat.le_refl _
  | succ n ih => unfold trimN; split <;> omega
def wordsL (c : Ck) : List (List UInt8) := (c.take (tn c)).map Lib.itoa
def ctext (c : Ck) : List UInt8 := 91 :: (Lib.join (wordsL c) [32] ++ [93])
theorem lens_words {c : Ck} (ho : OK64 c) : Lib.lens (c.map Lib.itoa) ≤ 21 * c.length := by
  induction c with
  | nil => simp [Lib.lens]
  | cons x c ih =>
    have h1 := ih (fun y hy => ho y (List.mem_cons_of_mem _ hy))
    have h2 := Lib.itoa_length_le x (ho x (by simp)).1 (ho x (by simp)).2
    simp only [List.map_cons, Lib.lens, List.length_cons] at *
    simp at *
    omega
theorem OK64.take {c : Ck} (h : OK64 c) (n : Nat) : OK64 (c.take n) := fun x hx => h x (List.mem_of_mem_take hx)
theorem join_le {c : Ck} (hc : c.length = 8) (ho : OK64 c) : (Lib.join (wordsL c) [32]).length ≤ 300 := by
  have h1 := lens_words (ho.take (tn c))
  have h2 := trimN_le c 8
  unfold wordsL
  have h3 : (c.take (tn c)).length ≤ 8 := by rw [List.length_take]; omega
  cases hq : (c.take (tn c)).map Lib.itoa with
  | nil => simp [Lib.join_nil]
  | cons x r =>
    rw [Lib.join_length, ← hq]
    have h4 : r.length + 1 = (c.take (tn c)).length := by rw [← List.length_cons (a := x), ← hq, List.length_map]
    simp only [List.length_cons, List.length_nil]
    omega
theorem strB_append (a b : List UInt8) : strB a ++ strB b = strB (a ++ b) := strB_inj (by simp [strB])
theorem strB_size (a : List UInt8) : (strB a).size = a.length := by
  show (a.toArray).size = _
  simp
def R_text (ps rs : List Pa) : Prop := ∃ c : Ck, ps = [ckPa c] ∧ (c.length = 8 ∧ OK64 c) ∧ rs = [pS (strB (ctext c))]
theorem R_text.mk {c : Ck} (h : c.length = 8) (ho : OK64 c) : R_text [ckPa c] [pS (strB (ctext c))] := ⟨c, rfl, ⟨h, ho⟩, rfl⟩
def env_ctext : Env := e1 26 R_itoa (e1 27 R_join e0)
theorem env_ctext_ok : EnvOK Tryd.prog env_ctext := EnvOK.e1 s_itoa (EnvOK.e1 s_join EnvOK.e0)
theorem s_cText : Spec Tryd.prog 22 R_text := by
  refine sp22 env_ctext_ok ?_
  rintro ps rs ⟨c, rfl, ⟨hc, ho⟩, rfl⟩
  refine ⟨by simp, ?_⟩
  have a5 : (ckCells c).length = 8 := by rw [ckCells_length, hc]
  unfold pc22
  refine pwp_start ?_
  simp only [↓evP, evB, stB, reduceIte, reduceCtorEq, Nat.reduceEqDiff, Nat.reduceAdd, Nat.reduceMul, Nat.reduceLeDiff, Nat.reduceLT, Nat.reduceSub, Nat.reduceBEq, ckPa, ckRow_cells]
  refine pwp_loopW ms22_0 os22_0 (fun m st => m ≤ 8 ∧ st.sl 3 = aI m ∧ trimN c m = tn c) 8 ?_ ?_
  · exact ⟨Nat.le_refl _, by simp only [stB, reduceIte, reduceCtorEq, Nat.reduceEqDiff, Nat.reduceAdd, Nat.reduceMul, Nat.reduceLeDiff, Nat.reduceLT, Nat.reduceSub, Nat.reduceBEq]; rfl, rfl⟩
  · rintro m j ⟨hm, h3, ht⟩
    simp only [stB, reduceIte, reduceCtorEq, Nat.reduceEqDiff, Nat.reduceAdd, Nat.reduceMul, Nat.reduceLeDiff, Nat.reduceLT, Nat.reduceSub, Nat.reduceBEq] at h3
    by_cases h00 : (m : Int) > 0
    case neg =>
      have hnn : (0 : Int) ≤ (m : Int) := by omega
      have hle : (m : Int) ≤ ((8 : Nat) : Int) := by omega
      have h1000 : 8 ≤ 1000000 := by omega
      have hq : m = tn c := by rw [← ht]; have : m = 0 := by omega
                               rw [this]; rfl
      simp only [↓evP, evB, stB, reduceIte, reduceCtorEq, Nat.reduceEqDiff, Nat.reduceAdd, Nat.reduceMul, Nat.reduceLeDiff, Nat.reduceLT, Nat.reduceSub, Nat.reduceBEq, h3, h00, decide_false, hnn, hle, h1000, pr22]
      refine pwp_loopW ms22_1 os22_1 (fun q st => ∃ k : Nat, q = m - k ∧ k ≤ m ∧ st.sl 21 = aI k ∧ st.gen 4 = 1 ∧ st.sl 4 = .b (.one (.own 4 1 (rowsS (((c.take m).take k).map fun v => strB (Lib.itoa v))))) ∧ st.ob 4 = .row 9 1 k) m ?_ ?_
      · exact ⟨0, rfl, Nat.zero_le _, by simp only [stB, reduceIte, reduceCtorEq, Nat.reduceEqDiff, Nat.reduceAdd, Nat.reduceMul, Nat.reduceLeDiff, Nat.reduceLT, Nat.reduceSub, Nat.reduceBEq]; rfl, by simp only [stB, reduceIte, reduceCtorEq, Nat.reduceEqDiff, Nat.reduceAdd, Nat.reduceMul, Nat.reduceLeDiff, Nat.reduceLT, Nat.reduceSub, Nat.reduceBEq], by simp only [stB, reduceIte, reduceCtorEq, Nat.reduceEqDiff, Nat.reduceAdd, Nat.reduceMul, Nat.reduceLeDiff, Nat.reduceLT, Nat.reduceSub, Nat.reduceBEq, List.take_zero, List.map_nil], by simp only [stB, reduceIte, reduceCtorEq, Nat.reduceEqDiff, Nat.reduceAdd, Nat.reduceMul, Nat.reduceLeDiff, Nat.reduceLT, Nat.reduceSub, Nat.reduceBEq]⟩
      · rintro q j2 ⟨k, rfl, hk, h21, g4, h4, o4⟩
        simp only [stB, reduceIte, reduceCtorEq, Nat.reduceEqDiff, Nat.reduceAdd, Nat.reduceMul, Nat.reduceLeDiff, Nat.reduceLT, Nat.reduceSub, Nat.reduceBEq] at h21 g4 h4 o4
        rcases Nat.lt_or_ge k (m) with hlt | hge
        · obtain ⟨x, hx⟩ : ∃ x, c[k]? = some x := ⟨_, List.getElem?_eq_getElem (by omega)⟩
          have hlt' : (k : Int) < ((m : Nat) : Int) := by omega
          have h0 : (0 : Int) ≤ (k : Int) := by omega
          have e1 := ckCells_get _ _ _ hx
          have hlen : (rowsS (((c.take m).take k).map fun v => strB (Lib.itoa v))).length = k := by simp [rowsS, hc]; omega
          have e6 : rowsS (((c.take m).take k).map fun v => strB (Lib.itoa v)) ++ [[Dt.sc (.string (strB (Lib.itoa x)))]] = rowsS (((c.take m).take (k + 1)).map fun v => strB (Lib.itoa v)) := by
            rw [List.take_add_one (i := k), List.getElem?_take, if_pos hlt, hx]
            simp [rowsS]
          have hb : k + 1 ≤ 1000000 := by omega
          simp only [↓evP, evB, stB, reduceIte, reduceCtorEq, Nat.reduceEqDiff, Nat.reduceAdd, Nat.reduceMul, Nat.reduceLeDiff, Nat.reduceLT, Nat.reduceSub, Nat.reduceBEq, h21, g4, h4, o4, hlt', h0, e1, Nat.mul_one, Nat.zero_add]
          refine callOps_intro [pS (strB (Lib.itoa x))] ⟨x, ho x (List.mem_of_getElem? hx), rfl, rfl⟩ ?_
          simp only [↓evP, evB, stB, reduceIte, reduceCtorEq, Nat.reduceEqDiff, Nat.reduceAdd, Nat.reduceMul, Nat.reduceLeDiff, Nat.reduceLT, Nat.reduceSub, Nat.reduceBEq, h21, g4, h4, o4, hlen, hb]
          exact ⟨_, by omega, (by repeat' (first | assumption | exact within_over.mpr trivial | exact Within.refl _ _ _ | (refine within_ap ?_ rfl rfl) | (refine within_ap0 ?_ rfl))), k + 1, rfl, by omega, by simp only [stB, reduceIte, reduceCtorEq, Nat.reduceEqDiff, Nat.reduceAdd, Nat.reduceMul, Nat.reduceLeDiff, Nat.reduceLT, Nat.reduceSub, Nat.reduceBEq, h21]; rw [wrN (by omega)], by simp only [stB, reduceIte, reduceCtorEq, Nat.reduceEqDiff, Nat.reduceAdd, Nat.reduceMul, Nat.reduceLeDiff, Nat.reduceLT, Nat.reduceSub, Nat.reduceBEq, g4], by simp only [stB, reduceIte, reduceCtorEq, Nat.reduceEqDiff, Nat.reduceAdd, Nat.reduceMul, Nat.reduceLeDiff, Nat.reduceLT, Nat.reduceSub, Nat.reduceBEq, h4]; rw [e6], by simp only [stB, reduceIte, reduceCtorEq, Nat.reduceEqDiff, Nat.reduceAdd, Nat.reduceMul, Nat.reduceLeDiff, Nat.reduceLT, Nat.reduceSub, Nat.reduceBEq, o4]⟩
        · have hkl : k = m := by omega
          rw [hkl] at h21 h4 o4
          have hlt' : ¬ ((m : Nat) : Int) < ((m : Nat) : Int) := by omega
          rw [List.take_take, Nat.min_self] at h4
          simp only [↓evP, evB, stB, reduceIte, reduceCtorEq, Nat.reduceEqDiff, Nat.reduceAdd, Nat.reduceMul, Nat.reduceLeDiff, Nat.reduceLT, Nat.reduceSub, Nat.reduceBEq, h21, g4, h4, o4, hlt']
          have hw : ((c.take (m)).map fun v => strB (Lib.itoa v)).map (·.data.toList) = wordsL c := by
            rw [List.map_map, wordsL, ← hq]
            exact List.map_congr_left fun _ _ => rfl
          refine callOps_intro [pS (strB (Lib.join (wordsL c) [32]))] ⟨(c.take (m)).map fun v => strB (Lib.itoa v), strB [32], by simp; omega, by rw [hw]; have := join_le hc ho; show (Lib.join (wordsL c) [32]).length ≤ _; omega, rfl, by rw [hw]⟩ ?_
          have b1 : (((⟨#[91]⟩ : ByteArray).size + (strB (Lib.join (wordsL c) [32])).size : Nat) : Int) ≤ 9223372036854775807 := by rw [show (⟨#[91]⟩ : ByteArray).size = 1 from rfl, strB_size (Lib.join (wordsL c) [32])]; have := join_le hc ho; omega
          have b2 : (((⟨#[91]⟩ ++ strB (Lib.join (wordsL c) [32]) : ByteArray).size + (⟨#[93]⟩ : ByteArray).size : Nat) : Int) ≤ 9223372036854775807 := by
            rw [show (⟨#[91]⟩ : ByteArray) = strB [91] from rfl, strB_append, strB_size]; have := join_le hc ho; show ((_ + (1 : Nat) : Nat) : Int) ≤ _; simp only [List.length_append, List.length_cons, List.length_nil]; omega
          have b3 : (⟨#[91]⟩ ++ strB (Lib.join (wordsL c) [32]) : ByteArray) ++ (⟨#[93]⟩ : ByteArray) = strB (ctext c) := by
            rw [show (⟨#[91]⟩ : ByteArray) = strB [91] from rfl, show (⟨#[93]⟩ : ByteArray) = strB [93] from rfl, strB_append, strB_append]
            simp [ctext]
          simp only [↓evP, evB, stB, reduceIte, reduceCtorEq, Nat.reduceEqDiff, Nat.reduceAdd, Nat.reduceMul, Nat.reduceLeDiff, Nat.reduceLT, Nat.reduceSub, Nat.reduceBEq, b1, b2, b3, pS, pr22]
    cases m with
    | zero => exact absurd h00 (by omega)
    | succ n =>
      have h00 : ((n + 1 : Nat) : Int) > 0 := by omega
      have hw1 : IntKind.i64.wrap (((n + 1 : Nat) : Int) - 1) = (n : Int) := by rw [wr64 (by omega) (by omega)]; omega
      have h0' : (0 : Int) ≤ (n : Int) := by omega
      have hl8 : (n : Int) < ((8 : Nat) : Int) := by omega
      obtain ⟨x, hx⟩ : ∃ x, c[n]? = some x := ⟨_, List.getElem?_eq_getElem (by omega)⟩
      have e1 := ckCells_get _ _ _ hx
      have hgd : c.getD n 0 = x := by rw [List.getD_eq_getElem?_getD, hx]; rfl
      unfold trimN at ht
      rw [hgd] at ht
      by_cases hz : x = 0
      · subst hz
        rw [if_pos rfl] at ht
        have e2 : ((0 : Int) == 0) = true := rfl
        simp only [↓evP, evB, stB, reduceIte, reduceCtorEq, Nat.reduceEqDiff, Nat.reduceAdd, Nat.reduceMul, Nat.reduceLeDiff, Nat.reduceLT, Nat.reduceSub, Nat.reduceBEq, h3, h00, hw1, h0', hl8, e1, e2, decide_true, Nat.mul_one, Nat.zero_add, Int.toNat_natCast]
        exact ⟨n, by omega, (by repeat' (first | assumption | exact within_over.mpr trivial | exact Within.refl _ _ _ | (refine within_ap ?_ rfl rfl) | (refine within_ap0 ?_ rfl))), by omega, by simp only [stB, reduceIte, reduceCtorEq, Nat.reduceEqDiff, Nat.reduceAdd, Nat.reduceMul, Nat.reduceLeDiff, Nat.reduceLT, Nat.reduceSub, Nat.reduceBEq, h3, hw1], ht⟩
      · rw [if_neg hz] at ht
        have e2 : (x == 0) = false := beq_eq_false_iff_ne.2 hz
        have hnn : (0 : Int) ≤ ((n + 1 : Nat) : Int) := by omega
        have hle : ((n + 1 : Nat) : Int) ≤ ((8 : Nat) : Int) := by omega
        have h1000 : 8 ≤ 1000000 := by omega
        have hq : n + 1 = tn c := ht
        simp only [↓evP, evB, stB, reduceIte, reduceCtorEq, Nat.reduceEqDiff, Nat.reduceAdd, Nat.reduceMul, Nat.reduceLeDiff, Nat.reduceLT, Nat.reduceSub, Nat.reduceBEq, h3, h00, hw1, h0', hl8, e1, e2, decide_true, decide_false, Nat.mul_one, Nat.zero_add, Int.toNat_natCast, hnn, hle, h1000, pr22]
        refine pwp_loopW ms22_1 os22_1 (fun q st => ∃ k : Nat, q = (n + 1) - k ∧ k ≤ (n + 1) ∧ st.sl 21 = aI k ∧ st.gen 4 = 1 ∧ st.sl 4 = .b (.one (.own 4 1 (rowsS (((c.take (n + 1)).take k).map fun v => strB (Lib.itoa v))))) ∧ st.ob 4 = .row 9 1 k) (n + 1) ?_ ?_
        · exact ⟨0, rfl, Nat.zero_le _, by simp only [stB, reduceIte, reduceCtorEq, Nat.reduceEqDiff, Nat.reduceAdd, Nat.reduceMul, Nat.reduceLeDiff, Nat.reduceLT, Nat.reduceSub, Nat.reduceBEq]; rfl, by simp only [stB, reduceIte, reduceCtorEq, Nat.reduceEqDiff, Nat.reduceAdd, Nat.reduceMul, Nat.reduceLeDiff, Nat.reduceLT, Nat.reduceSub, Nat.reduceBEq], by simp only [stB, reduceIte, reduceCtorEq, Nat.reduceEqDiff, Nat.reduceAdd, Nat.reduceMul, Nat.reduceLeDiff, Nat.reduceLT, Nat.reduceSub, Nat.reduceBEq, List.take_zero, List.map_nil], by simp only [stB, reduceIte, reduceCtorEq, Nat.reduceEqDiff, Nat.reduceAdd, Nat.reduceMul, Nat.reduceLeDiff, Nat.reduceLT, Nat.reduceSub, Nat.reduceBEq]⟩
        · rintro q j2 ⟨k, rfl, hk, h21, g4, h4, o4⟩
          simp only [stB, reduceIte, reduceCtorEq, Nat.reduceEqDiff, Nat.reduceAdd, Nat.reduceMul, Nat.reduceLeDiff, Nat.reduceLT, Nat.reduceSub, Nat.reduceBEq] at h21 g4 h4 o4
          rcases Nat.lt_or_ge k ((n + 1)) with hlt | hge
          · obtain ⟨x, hx⟩ : ∃ x, c[k]? = some x := ⟨_, List.getElem?_eq_getElem (by omega)⟩
            have hlt' : (k : Int) < (((n + 1) : Nat) : Int) := by omega
            have h0 : (0 : Int) ≤ (k : Int) := by omega
            have e1 := ckCells_get _ _ _ hx
            have hlen : (rowsS (((c.take (n + 1)).take k).map fun v => strB (Lib.itoa v))).length = k := by simp [rowsS, hc]; omega
            have e6 : rowsS (((c.take (n + 1)).take k).map fun v => strB (Lib.itoa v)) ++ [[Dt.sc (.string (strB (Lib.itoa x)))]] = rowsS (((c.take (n + 1)).take (k + 1)).map fun v => strB (Lib.itoa v)) := by
              rw [List.take_add_one (i := k), List.getElem?_take, if_pos hlt, hx]
              simp [rowsS]
            have hb : k + 1 ≤ 1000000 := by omega
            simp only [↓evP, evB, stB, reduceIte, reduceCtorEq, Nat.reduceEqDiff, Nat.reduceAdd, Nat.reduceMul, Nat.reduceLeDiff, Nat.reduceLT, Nat.reduceSub, Nat.reduceBEq, h21, g4, h4, o4, hlt', h0, e1, Nat.mul_one, Nat.zero_add]
            refine callOps_intro [pS (strB (Lib.itoa x))] ⟨x, ho x (List.mem_of_getElem? hx), rfl, rfl⟩ ?_
            simp only [↓evP, evB, stB, reduceIte, reduceCtorEq, Nat.reduceEqDiff, Nat.reduceAdd, Nat.reduceMul, Nat.reduceLeDiff, Nat.reduceLT, Nat.reduceSub, Nat.reduceBEq, h21, g4, h4, o4, hlen, hb]
            exact ⟨_, by omega, (by repeat' (first | assumption | exact within_over.mpr trivial | exact Within.refl _ _ _ | (refine within_ap ?_ rfl rfl) | (refine within_ap0 ?_ rfl))), k + 1, rfl, by omega, by simp only [stB, reduceIte, reduceCtorEq, Nat.reduceEqDiff, Nat.reduceAdd, Nat.reduceMul, Nat.reduceLeDiff, Nat.reduceLT, Nat.reduceSub, Nat.reduceBEq, h21]; rw [wrN (by omega)], by simp only [stB, reduceIte, reduceCtorEq, Nat.reduceEqDiff, Nat.reduceAdd, Nat.reduceMul, Nat.reduceLeDiff, Nat.reduceLT, Nat.reduceSub, Nat.reduceBEq, g4], by simp only [stB, reduceIte, reduceCtorEq, Nat.reduceEqDiff, Nat.reduceAdd, Nat.reduceMul, Nat.reduceLeDiff, Nat.reduceLT, Nat.reduceSub, Nat.reduceBEq, h4]; rw [e6], by simp only [stB, reduceIte, reduceCtorEq, Nat.reduceEqDiff, Nat.reduceAdd, Nat.reduceMul, Nat.reduceLeDiff, Nat.reduceLT, Nat.reduceSub, Nat.reduceBEq, o4]⟩
          · have hkl : k = (n + 1) := by omega
            rw [hkl] at h21 h4 o4
            have hlt' : ¬ (((n + 1) : Nat) : Int) < (((n + 1) : Nat) : Int) := by omega
            rw [List.take_take, Nat.min_self] at h4
            simp only [↓evP, evB, stB, reduceIte, reduceCtorEq, Nat.reduceEqDiff, Nat.reduceAdd, Nat.reduceMul, Nat.reduceLeDiff, Nat.reduceLT, Nat.reduceSub, Nat.reduceBEq, h21, g4, h4, o4, hlt']
            have hw : ((c.take ((n + 1))).map fun v => strB (Lib.itoa v)).map (·.data.toList) = wordsL c := by
              rw [List.map_map, wordsL, ← hq]
              exact List.map_congr_left fun _ _ => rfl
            refine callOps_intro [pS (strB (Lib.join (wordsL c) [32]))] ⟨(c.take ((n + 1))).map fun v => strB (Lib.itoa v), strB [32], by simp; omega, by rw [hw]; have := join_le hc ho; show (Lib.join (wordsL c) [32]).length ≤ _; omega, rfl, by rw [hw]⟩ ?_
            have b1 : (((⟨#[91]⟩ : ByteArray).size + (strB (Lib.join (wordsL c) [32])).size : Nat) : Int) ≤ 9223372036854775807 := by rw [show (⟨#[91]⟩ : ByteArray).size = 1 from rfl, strB_size (Lib.join (wordsL c) [32])]; have := join_le hc ho; omega
            have b2 : (((⟨#[91]⟩ ++ strB (Lib.join (wordsL c) [32]) : ByteArray).size + (⟨#[93]⟩ : ByteArray).size : Nat) : Int) ≤ 9223372036854775807 := by
              rw [show (⟨#[91]⟩ : ByteArray) = strB [91] from rfl, strB_append, strB_size]; have := join_le hc ho; show ((_ + (1 : Nat) : Nat) : Int) ≤ _; simp only [List.length_append, List.length_cons, List.length_nil]; omega
            have b3 : (⟨#[91]⟩ ++ strB (Lib.join (wordsL c) [32]) : ByteArray) ++ (⟨#[93]⟩ : ByteArray) = strB (ctext c) := by
              rw [show (⟨#[91]⟩ : ByteArray) = strB [91] from rfl, show (⟨#[93]⟩ : ByteArray) = strB [93] from rfl, strB_append, strB_append]
              simp [ctext]
            simp only [↓evP, evB, stB, reduceIte, reduceCtorEq, Nat.reduceEqDiff, Nat.reduceAdd, Nat.reduceMul, Nat.reduceLeDiff, Nat.reduceLT, Nat.reduceSub, Nat.reduceBEq, b1, b2, b3, pS, pr22]
end Go.Proofs.YthnjbnfnljjepaaDoor
end
section
set_option linter.unusedSimpArgs false
set_option linter.unusedVariables false
namespace Go.Proofs.YthnjbnfnljjepaaDoor
open Go Go.RowKit
set_option maxRecDepth 100000
set_option maxHeartbeats 4000000

theorem fieldsGoD_word : ∀ (f : Nat) (cur l : List UInt8) (w : List UInt8), w ∈ Lib.fieldsGoD f cur l → w.length ≤ cur.length + l.length
  | 0, cur, l, w, h => by
    unfold Lib.fieldsGoD at h
    split at h
    · cases h
    · simp at h; subst h; omega
  | f + 1, cur, l, w, h => by
    unfold Lib.fieldsGoD at h
    split at h
    · split at h
      · cases h
      · simp at h; subst h; omega
    · split at h
      · simp only [List.mem_append] at h
        rcases h with h | h
        · split at h
          · cases h
          · simp at h; subst h; omega
        · have := fieldsGoD_word f _ _ w h
          simp only [List.length_nil, List.length_drop] at this
          omega
      · have := fieldsGoD_word f _ _ w h
        simp only [List.length_append, List.length_take, List.length_drop] at this
        omega
theorem fieldsGoD_count : ∀ (f : Nat) (cur l : List UInt8), (Lib.fieldsGoD f cur l).length ≤ f + 1
  | 0, cur, l => by unfold Lib.fieldsGoD; split <;> simp
  | f + 1, cur, l => by
    unfold Lib.fieldsGoD
    split
    · split <;> simp
    · split
      · rw [List.length_append]
        have := fieldsGoD_count f [] (l.drop (Lib.decodeL l).2)
        split <;> simp <;> omega
      · have := fieldsGoD_count f (cur ++ l.take (Lib.decodeL l).2) (l.drop (Lib.decodeL l).2)
        omega
theorem trimS_le (l cs : List UInt8) : (Lib.trimS l cs).length ≤ l.length := by
  have h1 : ∀ (l cs : List UInt8), (Lib.trimLeftS l cs).length ≤ l.length := fun l cs => (List.dropWhile_sublist _).length_le
  have h2 : ∀ (l cs : List UInt8), (Lib.trimRightS l cs).length ≤ l.length := fun l cs => by
    unfold Lib.trimRightS
    rw [List.length_reverse]
    exact Nat.le_trans (List.dropWhile_sublist _).length_le (by simp)
  exact Nat.le_trans (h1 _ _) (h2 _ _)

def numC : List (List UInt8) → Option (List Int)
  | [] => some []
  | w :: ws => match Lib.atoiAll w with
    | .ok v => (numC ws).map (v :: ·)
    | _ => none
theorem numC_length : ∀ {ws : List (List UInt8)} {l : List Int}, numC ws = some l → l.length = ws.length
  | [], l, h => by cases h; rfl
  | w :: ws, l, h => by
    unfold numC at h
    split at h
    · simp only [Option.map_eq_some_iff] at h
      obtain ⟨l', h1, rfl⟩ := h
      simp [numC_length h1]
    · cases h
theorem numC_append : ∀ {ws : List (List UInt8)} {w : List UInt8}, numC (ws ++ [w]) = (numC ws).bind fun l => match Lib.atoiAll w with | .ok v => some (l ++ [v]) | _ => none
  | [], w => by
    simp only [List.nil_append, numC, Option.bind_some]
    cases Lib.atoiAll w <;> rfl
  | x :: ws, w => by
    have ih := numC_append (ws := ws) (w := w)
    simp only [List.cons_append, numC]
    cases Lib.atoiAll x with
    | ok v =>
      simp only [ih]
      cases numC ws with
      | none => rfl
      | some l =>
        simp only [Option.bind_some, Option.map_some]
        cases Lib.atoiAll w <;> rfl
    | _ => rfl
theorem numC_none {ws : List (List UInt8)} {k : Nat} {w : List UInt8} (hw : ws[k]? = some w) (h : ∀ v, Lib.atoiAll w ≠ .ok v) : numC ws = none := by
  induction ws generalizing k with
  | nil => simp at hw
  | cons x ws ih =>
    unfold numC
    cases k with
    | zero =>
      simp at hw; subst hw
      cases hq : Lib.atoiAll x with
      | ok v => exact absurd hq (h v)
      | _ => rfl
    | succ k =>
      simp at hw
      cases hq : Lib.atoiAll x with
      | ok v => simp only [ih hw]; rfl
      | _ => rfl
theorem numC_ok : ∀ {ws : List (List UInt8)} {l : List Int}, numC ws = some l → OK64 l
  | [], l, h => by cases h; exact fun x hx => by cases hx
  | w :: ws, l, h => by
    unfold numC at h
    split at h
    · rename_i v hv
      simp only [Option.map_eq_some_iff] at h
      obtain ⟨l', h1, rfl⟩ := h
      intro x hx
      rcases List.mem_cons.1 hx with rfl | hx
      · exact Lib.atoiAll_bounds hv
      · exact numC_ok h1 x hx
    · cases h
def padC (l : List Int) : Ck := l ++ List.replicate (8 - l.length) 0
theorem padC_length {l : List Int} (h : l.length ≤ 8) : (padC l).length = 8 := by unfold padC; rw [List.length_append, List.length_replicate]; omega
theorem padC_set {l : List Int} {v : Int} (h : l.length < 8) : (padC l).set l.length v = padC (l ++ [v]) := by
  unfold padC
  rw [List.set_append_right _ _ (Nat.le_refl _), Nat.sub_self, show 8 - l.length = (8 - (l ++ [v]).length) + 1 by simp; omega, List.replicate_succ, List.set_cons_zero]
  simp
theorem padC_ok {l : List Int} (h : OK64 l) : OK64 (padC l) := fun x hx => by
  unfold padC at hx
  rw [List.mem_append] at hx
  rcases hx with hx | hx
  · exact h x hx
  · rw [(List.mem_replicate.1 hx).2]; omega
def zC : Ck := [0, 0, 0, 0, 0, 0, 0, 0]
def wordsOf (s : List UInt8) : List (List UInt8) := Lib.fieldsD (Lib.trimS s [91, 93])
/-- the clock that is read -/
def readC (s : List UInt8) : Option Ck :=
  if 8 < (wordsOf s).length then none else match numC (wordsOf s) with
  | none => none
  | some l => if ctext (padC l) = s then some (padC l) else none
def readPa (r : Option Ck) : List Pa := match r with
  | some c => [ckPa c, pI 0]
  | none => [ckPa zC, pI 8]
theorem strings_eq (a b : ByteArray) : (a.toList == b.toList) = decide (a.data.toList = b.data.toList) := by
  rw [ByteArray.toList_eq, ByteArray.toList_eq, Bool.eq_iff_iff]; simp
def R_read (ps rs : List Pa) : Prop := ∃ s : ByteArray, ps = [pS s] ∧ s.size ≤ 100000 ∧ rs = readPa (readC s.data.toList)
def env_cread : Env := e1 29 R_trim (e1 28 R_fields (e1 30 R_atoi (e1 22 R_text e0)))
theorem env_cread_ok : EnvOK Tryd.prog env_cread := EnvOK.e1 s_trim (EnvOK.e1 s_fields (EnvOK.e1 s_atoi (EnvOK.e1 s_cText EnvOK.e0)))
theorem s_cRead : Spec Tryd.prog 23 R_read := by
  refine sp23 env_cread_ok ?_
  rintro ps rs ⟨s, rfl, hs, rfl⟩
  refine ⟨by simp, ?_⟩
  have hts := trimS_le s.data.toList [91, 93]
  have hss : s.data.toList.length = s.size := by simp
  have hcnt : (wordsOf s.data.toList).length ≤ 100002 := by
    have := fieldsGoD_count ((Lib.trimS s.data.toList [91, 93]).length + 1) [] (Lib.trimS s.data.toList [91, 93])
    unfold wordsOf Lib.fieldsD; omega
  have hword : ∀ w, w ∈ wordsOf s.data.toList → w.length ≤ 100000 := fun w hw => by
    have := fieldsGoD_word _ _ _ w hw
    simp only [List.length_nil] at this
    omega
  unfold pc23
  refine pwp_start ?_
  simp only [↓evP, evB, stB, reduceIte, reduceCtorEq, Nat.reduceEqDiff, Nat.reduceAdd, Nat.reduceMul, Nat.reduceLeDiff, Nat.reduceLT, Nat.reduceSub, Nat.reduceBEq]
  refine callOps_intro [pS (strB (Lib.trimS s.data.toList [91, 93]))] ⟨s, by omega, rfl, rfl⟩ ?_
  simp only [↓evP, evB, stB, reduceIte, reduceCtorEq, Nat.reduceEqDiff, Nat.reduceAdd, Nat.reduceMul, Nat.reduceLeDiff, Nat.reduceLT, Nat.reduceSub, Nat.reduceBEq]
  refine callOps_intro [pL ((wordsOf s.data.toList).map strB)] ⟨strB (Lib.trimS s.data.toList [91, 93]), by rw [strB_size]; omega, rfl, rfl⟩ ?_
  have hl : (rowsS ((wordsOf s.data.toList).map strB)).length = (wordsOf s.data.toList).length := by simp [rowsS]
  by_cases h8 : 8 < (wordsOf s.data.toList).length
  · have h8' : ((wordsOf s.data.toList).length : Int) > 8 := by omega
    have hr : readC s.data.toList = none := by unfold readC; rw [if_pos h8]
    simp only [↓evP, evB, stB, reduceIte, reduceCtorEq, Nat.reduceEqDiff, Nat.reduceAdd, Nat.reduceMul, Nat.reduceLeDiff, Nat.reduceLT, Nat.reduceSub, Nat.reduceBEq, hl, h8', decide_true, hr, readPa, pr23]
    rfl
  · have h8' : ¬ ((wordsOf s.data.toList).length : Int) > 8 := by omega
    simp only [↓evP, evB, stB, reduceIte, reduceCtorEq, Nat.reduceEqDiff, Nat.reduceAdd, Nat.reduceMul, Nat.reduceLeDiff, Nat.reduceLT, Nat.reduceSub, Nat.reduceBEq, hl, h8', decide_false]
    refine pwp_loopW ms23_0 os23_0 (fun m st => ∃ (k : Nat) (l : List Int), m = (wordsOf s.data.toList).length - k ∧ k ≤ (wordsOf s.data.toList).length ∧ st.sl 19 = aI k ∧ numC ((wordsOf s.data.toList).take k) = some l ∧ st.gen 2 = 1 ∧ st.gen 4 = 1 ∧ st.ob 2 = .cells (ckCells zC) ∧ st.ob 4 = .cells (ckCells (padC l))) (wordsOf s.data.toList).length ?_ ?_
    · exact ⟨0, [], rfl, Nat.zero_le _, by simp only [stB, reduceIte, reduceCtorEq, Nat.reduceEqDiff, Nat.reduceAdd, Nat.reduceMul, Nat.reduceLeDiff, Nat.reduceLT, Nat.reduceSub, Nat.reduceBEq]; rfl, rfl, by simp only [stB, reduceIte, reduceCtorEq, Nat.reduceEqDiff, Nat.reduceAdd, Nat.reduceMul, Nat.reduceLeDiff, Nat.reduceLT, Nat.reduceSub, Nat.reduceBEq], by simp only [stB, reduceIte, reduceCtorEq, Nat.reduceEqDiff, Nat.reduceAdd, Nat.reduceMul, Nat.reduceLeDiff, Nat.reduceLT, Nat.reduceSub, Nat.reduceBEq], by simp only [stB, reduceIte, reduceCtorEq, Nat.reduceEqDiff, Nat.reduceAdd, Nat.reduceMul, Nat.reduceLeDiff, Nat.reduceLT, Nat.reduceSub, Nat.reduceBEq]; rfl, by simp only [stB, reduceIte, reduceCtorEq, Nat.reduceEqDiff, Nat.reduceAdd, Nat.reduceMul, Nat.reduceLeDiff, Nat.reduceLT, Nat.reduceSub, Nat.reduceBEq]; rfl⟩
    · rintro q j ⟨k, l, rfl, hk, h19, hnum, g2, g4, o2, o4⟩
      simp only [stB, reduceIte, reduceCtorEq, Nat.reduceEqDiff, Nat.reduceAdd, Nat.reduceMul, Nat.reduceLeDiff, Nat.reduceLT, Nat.reduceSub, Nat.reduceBEq] at h19 g2 g4 o2 o4
      have hlk := numC_length hnum
      rw [List.length_take] at hlk
      rcases Nat.lt_or_ge k (wordsOf s.data.toList).length with hlt | hge
      · obtain ⟨w, hw⟩ : ∃ w, (wordsOf s.data.toList)[k]? = some w := ⟨_, List.getElem?_eq_getElem hlt⟩
        have hlt' : (k : Int) < ((wordsOf s.data.toList).length : Int) := by omega
        have h0 : (0 : Int) ≤ (k : Int) := by omega
        have hrow : (rowsS ((wordsOf s.data.toList).map strB))[k]? = some [Dt.sc (.string (strB w))] := by simp [rowsS, hw]
        have hwl := hword w (List.mem_of_getElem? hw)
        simp only [↓evP, evB, stB, reduceIte, reduceCtorEq, Nat.reduceEqDiff, Nat.reduceAdd, Nat.reduceMul, Nat.reduceLeDiff, Nat.reduceLT, Nat.reduceSub, Nat.reduceBEq, h19, hl, hlt', h0, hrow, decide_true, Int.toNat_natCast]
        cases ha : Lib.atoiAll w with
        | ok v =>
          refine callOps_intro [pI v, .one (.sc .nilIface)] ⟨strB w, by rw [strB_size]; omega, rfl, by rw [show (strB w).data.toList = w from rfl, ha]⟩ ?_
          have hk8 : (k : Int) < ((8 : Nat) : Int) := by omega
          have hll : l.length = k := by omega
          have hnum2 : numC ((wordsOf s.data.toList).take (k + 1)) = some (l ++ [v]) := by
            rw [List.take_add_one, hw]
            simp only [Option.toList_some]
            rw [numC_append, hnum]
            simp [ha]
          have e3 : k + 1 ≤ (ckCells (padC l)).length := by rw [ckCells_length, padC_length (by omega)]; omega
          have e4 := (ckCells_set (padC l) k v (by rw [padC_length (by omega)]; omega)).trans (congrArg ckCells ((congrArg (fun i => (padC l).set i v) hll.symm).trans (padC_set (by omega))))
          simp only [↓evP, evB, stB, reduceIte, reduceCtorEq, Nat.reduceEqDiff, Nat.reduceAdd, Nat.reduceMul, Nat.reduceLeDiff, Nat.reduceLT, Nat.reduceSub, Nat.reduceBEq, h19, hl, hlt', h0, hrow, hk8, g4, o4, e3, Nat.mul_one, Nat.zero_add, Int.toNat_natCast]
          exact ⟨_, by omega, (by repeat' (first | assumption | exact within_over.mpr trivial | exact Within.refl _ _ _ | (refine within_ap ?_ rfl rfl) | (refine within_ap0 ?_ rfl))), k + 1, l ++ [v], rfl, by omega, by simp only [stB, reduceIte, reduceCtorEq, Nat.reduceEqDiff, Nat.reduceAdd, Nat.reduceMul, Nat.reduceLeDiff, Nat.reduceLT, Nat.reduceSub, Nat.reduceBEq, h19]; rw [wrN (by omega)], hnum2, by simp only [stB, reduceIte, reduceCtorEq, Nat.reduceEqDiff, Nat.reduceAdd, Nat.reduceMul, Nat.reduceLeDiff, Nat.reduceLT, Nat.reduceSub, Nat.reduceBEq, g2], by simp only [stB, reduceIte, reduceCtorEq, Nat.reduceEqDiff, Nat.reduceAdd, Nat.reduceMul, Nat.reduceLeDiff, Nat.reduceLT, Nat.reduceSub, Nat.reduceBEq, g4], by simp only [stB, reduceIte, reduceCtorEq, Nat.reduceEqDiff, Nat.reduceAdd, Nat.reduceMul, Nat.reduceLeDiff, Nat.reduceLT, Nat.reduceSub, Nat.reduceBEq, o2], by simp only [stB, reduceIte, reduceCtorEq, Nat.reduceEqDiff, Nat.reduceAdd, Nat.reduceMul, Nat.reduceLeDiff, Nat.reduceLT, Nat.reduceSub, Nat.reduceBEq, o4, wrF_cells]; rw [e4]⟩
        | _ =>
          have hr : readC s.data.toList = none := by unfold readC; rw [if_neg h8, numC_none hw (fun v hv => by rw [ha] at hv; cases hv)]
          refine callOps_intro [pI _, .one .nn] ⟨strB w, by rw [strB_size]; omega, rfl, by rw [show (strB w).data.toList = w from rfl, ha]⟩ ?_
          have e5 : (ckCells zC).length = 8 := rfl
          simp only [↓evP, evB, stB, reduceIte, reduceCtorEq, Nat.reduceEqDiff, Nat.reduceAdd, Nat.reduceMul, Nat.reduceLeDiff, Nat.reduceLT, Nat.reduceSub, Nat.reduceBEq, h19, g2, o2, hr, readPa, pr23, e5]
          rfl
      · have hkl : k = (wordsOf s.data.toList).length := by omega
        rw [hkl] at h19
        rw [hkl, List.take_length] at hnum
        have hlt' : ¬ ((wordsOf s.data.toList).length : Int) < ((wordsOf s.data.toList).length : Int) := by omega
        have hl8 : l.length ≤ 8 := by omega
        obtain ⟨a1, a2⟩ := ld8 (padC_length hl8)
        have a5 : (ckCells (padC l)).length = 8 := by rw [ckCells_length, padC_length hl8]
        simp only [↓evP, evB, stB, reduceIte, reduceCtorEq, Nat.reduceEqDiff, Nat.reduceAdd, Nat.reduceMul, Nat.reduceLeDiff, Nat.reduceLT, Nat.reduceSub, Nat.reduceBEq, h19, hl, hlt', g2, g4, o2, o4, a1, a2, decide_false, ckCells_dt]
        refine callOps_intro [pS (strB (ctext (padC l)))] (R_text.mk (padC_length hl8) (padC_ok (numC_ok hnum))) ?_
        have hse := strings_eq (strB (ctext (padC l))) s
        rw [show (strB (ctext (padC l))).data.toList = ctext (padC l) from rfl] at hse
        by_cases hq : ctext (padC l) = s.data.toList
        · have hr : readC s.data.toList = some (padC l) := by unfold readC; rw [if_neg h8, hnum]; simp only; rw [if_pos hq]
          rw [decide_eq_true hq] at hse
          have e6 : (ckCells zC).length = 8 := rfl
          have e7 : wrAt (ckCells zC) 0 (ckCells (padC l)) = ckCells (padC l) := wrAt_full (by rw [a5]; rfl)
          simp only [↓evP, evB, stB, reduceIte, reduceCtorEq, Nat.reduceEqDiff, Nat.reduceAdd, Nat.reduceMul, Nat.reduceLeDiff, Nat.reduceLT, Nat.reduceSub, Nat.reduceBEq, hse, g2, g4, o2, o4, a1, a2, a5, e6, e7, wr_new8 (padC_length hl8), ckCells_dt, hr, readPa, ckPa, pI, pr23]
        · have hr : readC s.data.toList = none := by unfold readC; rw [if_neg h8, hnum]; simp only; rw [if_neg hq]
          rw [decide_eq_false hq] at hse
          have e6 : (ckCells zC).length = 8 := rfl
          simp only [↓evP, evB, stB, reduceIte, reduceCtorEq, Nat.reduceEqDiff, Nat.reduceAdd, Nat.reduceMul, Nat.reduceLeDiff, Nat.reduceLT, Nat.reduceSub, Nat.reduceBEq, hse, g2, g4, o2, o4, a1, a2, a5, e6, hr, readPa, pr23]
          rfl
end Go.Proofs.YthnjbnfnljjepaaDoor
end
section
set_option linter.unusedSimpArgs false
set_option linter.unusedVariables false
namespace Go.Proofs.YthnjbnfnljjepaaDoor
open Go Go.RowKit
set_option maxRecDepth 100000
set_option maxHeartbeats 4000000

def R_awake32 (ps rs : List Pa) : Prop := ps = [] ∧ rs = [pB true]
def env_awake32 : Env := e1 16 R_cmp (e1 23 R_read (e1 13 R_leq (e1 15 (R_zip fJ) (e1 20 R_tick (e1 22 R_text e0)))))
theorem env_awake32_ok : EnvOK Tryd.prog env_awake32 := EnvOK.e1 s_cCompare (EnvOK.e1 s_cRead (EnvOK.e1 s_cLeq (EnvOK.e1 s_cJoin (EnvOK.e1 s_cTick (EnvOK.e1 s_cText EnvOK.e0)))))
theorem ok_of (c : Ck) (h : (c.all fun x => decide (-9223372036854775808 ≤ x) && decide (x ≤ 9223372036854775807)) = true) : OK64 c := fun x hx => by
  have := List.all_eq_true.1 h x hx
  simp only [Bool.and_eq_true, decide_eq_true_eq] at this
  exact this
theorem read_bad : readC [91, 49, 32, 48, 93] = none := by kernel_rfl
theorem text_zero : ctext zC = [91, 93] := by kernel_rfl
theorem s_awake32 : Spec Tryd.prog 11 R_awake32 := by
  refine sp11 env_awake32_ok ?_
  rintro ps rs ⟨rfl, rfl⟩
  refine ⟨by simp, ?_⟩
  unfold pc11
  refine pwp_start ?_
  simp only [↓evP, evB, stB, reduceIte, reduceCtorEq, Nat.reduceEqDiff, Nat.reduceAdd, Nat.reduceMul, Nat.reduceLeDiff, Nat.reduceLT, Nat.reduceSub, Nat.reduceBEq]
  refine callOps_intro [pI 0, pB false] ⟨[1, 0, 0, 0, 0, 0, 0, 0], [0, 1, 0, 0, 0, 0, 0, 0], rfl, ⟨rfl, rfl⟩, by rfl⟩ ?_
  simp only [↓evP, evB, stB, reduceIte, reduceCtorEq, Nat.reduceEqDiff, Nat.reduceAdd, Nat.reduceMul, Nat.reduceLeDiff, Nat.reduceLT, Nat.reduceSub, Nat.reduceBEq]
  refine callOps_intro [ckPa zC, pI 8] ⟨⟨#[91, 49, 32, 48, 93]⟩, rfl, by decide, by show _ = readPa (readC [91, 49, 32, 48, 93]); rw [read_bad]; rfl⟩ ?_
  simp only [↓evP, evB, stB, reduceIte, reduceCtorEq, Nat.reduceEqDiff, Nat.reduceAdd, Nat.reduceMul, Nat.reduceLeDiff, Nat.reduceLT, Nat.reduceSub, Nat.reduceBEq, ckPa, ckRow, zC, List.map_cons, List.map_nil]
  refine callOps_intro [pB true] ⟨[1, 2, 0, 0, 0, 0, 0, 0], [1, 3, 0, 0, 0, 0, 0, 0], rfl, ⟨rfl, rfl⟩, by rfl⟩ ?_
  simp only [↓evP, evB, stB, reduceIte, reduceCtorEq, Nat.reduceEqDiff, Nat.reduceAdd, Nat.reduceMul, Nat.reduceLeDiff, Nat.reduceLT, Nat.reduceSub, Nat.reduceBEq, ckPa, ckRow, zC, List.map_cons, List.map_nil]
  refine callOps_intro [ckPa [1, 2, 4, 0, 0, 0, 0, 0]] ⟨[1, 0, 4, 0, 0, 0, 0, 0], [0, 2, 0, 0, 0, 0, 0, 0], rfl, ⟨rfl, rfl⟩, by rfl⟩ ?_
  have q1 : ((1 : Int) == 1) = true := rfl
  have q2 : ((2 : Int) == 2) = true := rfl
  have q4 : ((4 : Int) == 4) = true := rfl
  have q0 : ((0 : Int) == 0) = true := rfl
  have q8 : ((8 : Int) == 8) = true := rfl
  simp only [↓evP, evB, stB, reduceIte, reduceCtorEq, Nat.reduceEqDiff, Nat.reduceAdd, Nat.reduceMul, Nat.reduceLeDiff, Nat.reduceLT, Nat.reduceSub, Nat.reduceBEq, ckPa, ckRow, zC, List.map_cons, List.map_nil, q0, q1, q2, q4, Bool.and_true, Bool.and_self]
  refine callOps_intro [ckPa [1, 0, 1, 0, 0, 0, 0, 0]] ⟨[1, 0, 0, 0, 0, 0, 0, 0], 2, rfl, ⟨rfl, ok_of _ (by decide)⟩, by rfl⟩ ?_
  simp only [↓evP, evB, stB, reduceIte, reduceCtorEq, Nat.reduceEqDiff, Nat.reduceAdd, Nat.reduceMul, Nat.reduceLeDiff, Nat.reduceLT, Nat.reduceSub, Nat.reduceBEq, ckPa, ckRow, zC, List.map_cons, List.map_nil, q0, q1, q2, q4, Bool.and_true, Bool.and_self]
  refine callOps_intro [pS (strB [91, 93])] ⟨zC, rfl, ⟨rfl, ok_of _ (by decide)⟩, by rw [text_zero]⟩ ?_
  have hse : ((strB [91, 93]).toList == (⟨#[91, 93]⟩ : ByteArray).toList) = true := by rw [strings_eq]; decide
  simp only [↓evP, evB, stB, reduceIte, reduceCtorEq, Nat.reduceEqDiff, Nat.reduceAdd, Nat.reduceMul, Nat.reduceLeDiff, Nat.reduceLT, Nat.reduceSub, Nat.reduceBEq, hse, q8, pr11]
end Go.Proofs.YthnjbnfnljjepaaDoor
end
section
set_option linter.unusedSimpArgs false
set_option linter.unusedVariables false
namespace Go.Proofs.YthnjbnfnljjepaaDoor
open Go Go.RowKit

theorem leqC_cons (x y : Int) (a b : Ck) : leqC (x :: a) (y :: b) = (decide (x ≤ y) && leqC a b) := by simp [leqC]
theorem zipC_cons (f : Int → Int → Int) (x y : Int) (a b : Ck) : zipC f (x :: a) (y :: b) = f x y :: zipC f a b := rfl
theorem leqC_refl : ∀ a : Ck, leqC a a = true
  | [] => rfl
  | x :: a => by rw [leqC_cons, leqC_refl a]; simp
theorem leqC_antisymm : ∀ {a b : Ck}, a.length = b.length → leqC a b = true → leqC b a = true → a = b
  | [], [], _, _, _ => rfl
  | x :: a, y :: b, h, h1, h2 => by
    rw [leqC_cons] at h1 h2
    simp only [Bool.and_eq_true, decide_eq_true_eq] at h1 h2
    rw [leqC_antisymm (by simpa using h) h1.2 h2.2, show x = y by omega]
theorem leqC_trans : ∀ {a b c : Ck}, a.length = b.length → b.length = c.length → leqC a b = true → leqC b c = true → leqC a c = true
  | [], [], [], _, _, _, _ => rfl
  | x :: a, y :: b, z :: c, h, k, h1, h2 => by
    rw [leqC_cons] at h1 h2 ⊢
    simp only [Bool.and_eq_true, decide_eq_true_eq] at h1 h2 ⊢
    exact ⟨by omega, leqC_trans (by simpa using h) (by simpa using k) h1.2 h2.2⟩
theorem fJ_le (x y z : Int) : decide (fJ x y ≤ z) = (decide (x ≤ z) && decide (y ≤ z)) := by
  rw [Bool.eq_iff_iff]; simp only [Bool.and_eq_true, decide_eq_true_eq]; unfold fJ; split <;> omega
theorem fM_le (x y z : Int) : decide (z ≤ fM x y) = (decide (z ≤ x) && decide (z ≤ y)) := by
  rw [Bool.eq_iff_iff]; simp only [Bool.and_eq_true, decide_eq_true_eq]; unfold fM; split <;> omega
theorem join_ub1 : ∀ {a b : Ck}, a.length = b.length → leqC a (zipC fJ a b) = true
  | [], [], _ => rfl
  | x :: a, y :: b, h => by
    rw [zipC_cons, leqC_cons, join_ub1 (by simpa using h)]
    simp only [Bool.and_true, decide_eq_true_eq]; unfold fJ; split <;> omega
theorem join_ub2 : ∀ {a b : Ck}, a.length = b.length → leqC b (zipC fJ a b) = true
  | [], [], _ => rfl
  | x :: a, y :: b, h => by
    rw [zipC_cons, leqC_cons, join_ub2 (by simpa using h)]
    simp only [Bool.and_true, decide_eq_true_eq]; unfold fJ; split <;> omega
theorem join_lub : ∀ {a b c : Ck}, a.length = b.length → b.length = c.length → leqC (zipC fJ a b) c = (leqC a c && leqC b c)
  | [], [], [], _, _ => rfl
  | x :: a, y :: b, z :: c, h, k => by
    rw [zipC_cons, leqC_cons, leqC_cons, leqC_cons, join_lub (by simpa using h) (by simpa using k), fJ_le]
    cases decide (x ≤ z) <;> cases decide (y ≤ z) <;> cases leqC a c <;> rfl
theorem meet_lb1 : ∀ {a b : Ck}, a.length = b.length → leqC (zipC fM a b) a = true
  | [], [], _ => rfl
  | x :: a, y :: b, h => by
    rw [zipC_cons, leqC_cons, meet_lb1 (by simpa using h)]
    simp only [Bool.and_true, decide_eq_true_eq]; unfold fM; split <;> omega
theorem meet_lb2 : ∀ {a b : Ck}, a.length = b.length → leqC (zipC fM a b) b = true
  | [], [], _ => rfl
  | x :: a, y :: b, h => by
    rw [zipC_cons, leqC_cons, meet_lb2 (by simpa using h)]
    simp only [Bool.and_true, decide_eq_true_eq]; unfold fM; split <;> omega
theorem meet_glb : ∀ {a b c : Ck}, a.length = b.length → b.length = c.length → leqC c (zipC fM a b) = (leqC c a && leqC c b)
  | [], [], [], _, _ => rfl
  | x :: a, y :: b, z :: c, h, k => by
    rw [zipC_cons, leqC_cons, leqC_cons, leqC_cons, meet_glb (by simpa using h) (by simpa using k), fM_le]
    cases decide (z ≤ x) <;> cases decide (z ≤ y) <;> cases leqC c a <;> rfl
theorem zipC_comm {f : Int → Int → Int} (hf : ∀ x y, f x y = f y x) : ∀ (a b : Ck), zipC f a b = zipC f b a
  | [], [] => rfl
  | [], _ :: _ => rfl
  | _ :: _, [] => rfl
  | x :: a, y :: b => by rw [zipC_cons, zipC_cons, hf, zipC_comm hf a b]
theorem zipC_idem {f : Int → Int → Int} (hf : ∀ x, f x x = x) : ∀ (a : Ck), zipC f a a = a
  | [] => rfl
  | x :: a => by rw [zipC_cons, hf, zipC_idem hf a]
theorem zipC_assoc {f : Int → Int → Int} (hf : ∀ x y z, f (f x y) z = f x (f y z)) : ∀ (a b c : Ck), zipC f (zipC f a b) c = zipC f a (zipC f b c)
  | x :: a, y :: b, z :: c => by rw [zipC_cons, zipC_cons, zipC_cons, zipC_cons, hf, zipC_assoc hf a b c]
  | [], b, c => by simp [zipC]
  | _ :: _, [], c => by simp [zipC]
  | _ :: _, _ :: _, [] => by simp [zipC]
theorem zipC_absorb {f g : Int → Int → Int} (hf : ∀ x y, f x (g x y) = x) : ∀ {a b : Ck}, a.length = b.length → zipC f a (zipC g a b) = a
  | [], [], _ => rfl
  | x :: a, y :: b, h => by rw [zipC_cons, zipC_cons, hf, zipC_absorb hf (by simpa using h)]
theorem fJ_comm (x y : Int) : fJ x y = fJ y x := by unfold fJ; split <;> split <;> omega
theorem fM_comm (x y : Int) : fM x y = fM y x := by unfold fM; split <;> split <;> omega
theorem fJ_idem (x : Int) : fJ x x = x := by unfold fJ; split <;> omega
theorem fM_idem (x : Int) : fM x x = x := by unfold fM; split <;> omega
theorem fJ_assoc (x y z : Int) : fJ (fJ x y) z = fJ x (fJ y z) := by unfold fJ; repeat' split; all_goals omega
theorem fM_assoc (x y z : Int) : fM (fM x y) z = fM x (fM y z) := by unfold fM; repeat' split; all_goals omega
theorem fJ_fM (x y : Int) : fJ x (fM x y) = x := by unfold fJ fM; repeat' split; all_goals omega
theorem fM_fJ (x y : Int) : fM x (fJ x y) = x := by unfold fM fJ; repeat' split; all_goals omega
theorem leqC_set : ∀ {c : Ck} {i : Nat}, leqC c (c.set i (c.getD i 0 + 1)) = true
  | [], _ => rfl
  | x :: c, 0 => by rw [List.set_cons_zero, leqC_cons, leqC_refl]; simp; omega
  | x :: c, i + 1 => by
    rw [List.set_cons_succ, leqC_cons]
    have := leqC_set (c := c) (i := i)
    simp only [List.getD_cons_succ, this]
    simp
theorem leqC_tick (c : Ck) (g : Int) : leqC c (tickC c g) = true := by
  unfold tickC
  split
  · exact leqC_set
  · exact leqC_refl c
end Go.Proofs.YthnjbnfnljjepaaDoor
end
section
set_option linter.unusedSimpArgs false
set_option linter.unusedVariables false
namespace Go.Proofs.YthnjbnfnljjepaaDoor
open Go Go.RowKit
set_option maxRecDepth 100000
set_option maxHeartbeats 4000000

theorem R_leq.mk' {a b : Ck} (ha : a.length = 8) (hb : b.length = 8) {v : Bool} (h : leqC a b = v) : R_leq [ckPa a, ckPa b] [pB v] := ⟨a, b, rfl, ⟨ha, hb⟩, by rw [h]⟩
theorem eq8self {a : Ck} (ha : a.length = 8) : eqCls [false, false, false, false, false, false, false, false] (ckCells a) (ckCells a) = some true := by rw [eq8 ha ha]; simp
theorem ck_len {a : Ck} (h : a.length = 8) : (ckCells a).length = 8 := by rw [ckCells_length, h]
def env32 : Env := e1 11 R_awake32 (e1 13 R_leq (e1 18 R_leq (e1 15 (R_zip fJ) (e1 19 (R_zip fJ) (e1 12 (R_zip fM) (e1 14 (R_zip fM) (e1 16 R_cmp (e1 17 R_cmp (e1 20 R_tick (e1 21 R_tick e0))))))))))
theorem env32_ok : EnvOK Tryd.prog env32 := EnvOK.e1 s_awake32 (EnvOK.e1 s_cLeq (EnvOK.e1 s_rLeq (EnvOK.e1 s_cJoin (EnvOK.e1 s_rJoin (EnvOK.e1 s_cMeet (EnvOK.e1 s_rMeet (EnvOK.e1 s_cCompare (EnvOK.e1 s_rCompare (EnvOK.e1 s_cTick (EnvOK.e1 s_rTick EnvOK.e0))))))))))
def R_order (ps rs : List Pa) : Prop := ∃ (a : Ck) (b : Ck), ps = [ckPa a, ckPa b] ∧ (a.length = 8 ∧ b.length = 8) ∧ rs = [pB true]
theorem s_order : Spec Tryd.prog 5 R_order := by
  refine sp5 env32_ok ?_
  rintro ps rs ⟨a, b, rfl, ⟨ha, hb⟩, rfl⟩
  refine ⟨by simp, ?_⟩
  obtain ⟨a1, a2⟩ := ld8 ha
  have a5 := ck_len ha
  obtain ⟨b1, b2⟩ := ld8 hb
  have b5 := ck_len hb
  unfold pc5
  refine pwp_start ?_
  simp only [↓evP, evB, stB, reduceIte, reduceCtorEq, Nat.reduceEqDiff, Nat.reduceAdd, Nat.reduceMul, Nat.reduceLeDiff, Nat.reduceLT, Nat.reduceSub, Nat.reduceBEq, ckPa, ckRow_cells]
  refine callOps_intro [pB true] ⟨rfl, rfl⟩ ?_
  simp only [↓evP, evB, stB, reduceIte, reduceCtorEq, Nat.reduceEqDiff, Nat.reduceAdd, Nat.reduceMul, Nat.reduceLeDiff, Nat.reduceLT, Nat.reduceSub, Nat.reduceBEq, a1, a2, a5, b1, b2, b5, ckCells_dt, ckPa, ckRow_cells]
  refine callOps_intro [pI (cmpC a b).1, pB (cmpC a b).2] (by exact R_cmp.mk ha hb) ?_
  simp only [↓evP, evB, stB, reduceIte, reduceCtorEq, Nat.reduceEqDiff, Nat.reduceAdd, Nat.reduceMul, Nat.reduceLeDiff, Nat.reduceLT, Nat.reduceSub, Nat.reduceBEq, a1, a2, a5, b1, b2, b5, ckCells_dt, ckPa, ckRow_cells]
  refine callOps_intro [pI (cmpC a b).1, pB (cmpC a b).2] (by exact R_cmp.mk ha hb) ?_
  simp only [↓evP, evB, stB, reduceIte, reduceCtorEq, Nat.reduceEqDiff, Nat.reduceAdd, Nat.reduceMul, Nat.reduceLeDiff, Nat.reduceLT, Nat.reduceSub, Nat.reduceBEq, a1, a2, a5, b1, b2, b5, ckCells_dt, ckPa, ckRow_cells]
  refine callD_intro [pB (leqC a b)] (by exact R_leq.mk ha hb) ?_
  simp only [↓evP, evB, stB, reduceIte, reduceCtorEq, Nat.reduceEqDiff, Nat.reduceAdd, Nat.reduceMul, Nat.reduceLeDiff, Nat.reduceLT, Nat.reduceSub, Nat.reduceBEq, a1, a2, a5, b1, b2, b5, ckCells_dt, ckPa, ckRow_cells]
  refine callD_intro [pB (leqC a b)] (by exact R_leq.mk ha hb) ?_
  have q1 : (leqC a b == leqC a b) = true := by simp
  have q2 : ((cmpC a b).1 == (cmpC a b).1) = true := by simp
  have q3 : ((cmpC a b).2 == (cmpC a b).2) = true := by simp
  simp only [↓evP, evB, stB, reduceIte, reduceCtorEq, Nat.reduceEqDiff, Nat.reduceAdd, Nat.reduceMul, Nat.reduceLeDiff, Nat.reduceLT, Nat.reduceSub, Nat.reduceBEq, a1, a2, a5, b1, b2, b5, ckCells_dt, ckPa, ckRow_cells, q1, q2, q3, pr5]
  exact (by unfold Drw; refine Eq.trans (b := true) ?_ rfl; kernel_rfl)
def R_ltick (ps rs : List Pa) : Prop := ∃ (c : Ck) (g : Int), ps = [ckPa c, pI g] ∧ (c.length = 8 ∧ OK64 c) ∧ rs = [pB true]
theorem s_ltick : Spec Tryd.prog 8 R_ltick := by
  refine sp8 env32_ok ?_
  rintro ps rs ⟨c, g, rfl, ⟨hc, ho⟩, rfl⟩
  refine ⟨by simp, ?_⟩
  obtain ⟨c1, c2⟩ := ld8 hc
  have c5 := ck_len hc
  unfold pc8
  refine pwp_start ?_
  simp only [↓evP, evB, stB, reduceIte, reduceCtorEq, Nat.reduceEqDiff, Nat.reduceAdd, Nat.reduceMul, Nat.reduceLeDiff, Nat.reduceLT, Nat.reduceSub, Nat.reduceBEq, ckPa, ckRow_cells]
  refine callOps_intro [pB true] ⟨rfl, rfl⟩ ?_
  simp only [↓evP, evB, stB, reduceIte, reduceCtorEq, Nat.reduceEqDiff, Nat.reduceAdd, Nat.reduceMul, Nat.reduceLeDiff, Nat.reduceLT, Nat.reduceSub, Nat.reduceBEq, c1, c2, c5, ckCells_dt, ckPa, ckRow_cells]
  refine callOps_intro [ckPa (tickC c g)] (by exact R_tick.mk hc ho) ?_
  have ht : (tickC c g).length = 8 := by rw [tickC_length, hc]
  obtain ⟨t1, t2⟩ := ld8 ht
  have t5 := ck_len ht
  have te := eq8self ht
  simp only [↓evP, evB, stB, reduceIte, reduceCtorEq, Nat.reduceEqDiff, Nat.reduceAdd, Nat.reduceMul, Nat.reduceLeDiff, Nat.reduceLT, Nat.reduceSub, Nat.reduceBEq, c1, c2, c5, t1, t2, t5, wr_new8 ht, ckCells_dt, ckPa, ckRow_cells]
  refine callD_intro [ckPa (tickC c g)] (by exact R_tick.mk hc ho) ?_
  simp only [↓evP, evB, stB, reduceIte, reduceCtorEq, Nat.reduceEqDiff, Nat.reduceAdd, Nat.reduceMul, Nat.reduceLeDiff, Nat.reduceLT, Nat.reduceSub, Nat.reduceBEq, c1, c2, c5, t1, t2, t5, te, wr_new8 ht, ckCells_dt, ckPa, ckRow_cells]
  refine callD_intro [pB true] (by exact R_leq.mk' hc ht (leqC_tick c g)) ?_
  simp only [↓evP, evB, stB, reduceIte, reduceCtorEq, Nat.reduceEqDiff, Nat.reduceAdd, Nat.reduceMul, Nat.reduceLeDiff, Nat.reduceLT, Nat.reduceSub, Nat.reduceBEq, pr8]
  exact (by unfold Drw; refine Eq.trans (b := true) ?_ rfl; kernel_rfl)
def R_least (ps rs : List Pa) : Prop := ∃ (a : Ck) (b : Ck) (c : Ck), ps = [ckPa a, ckPa b, ckPa c] ∧ (a.length = 8 ∧ b.length = 8 ∧ c.length = 8) ∧ rs = [pB true]
theorem s_least : Spec Tryd.prog 7 R_least := by
  refine sp7 env32_ok ?_
  rintro ps rs ⟨a, b, c, rfl, ⟨ha, hb, hc⟩, rfl⟩
  refine ⟨by simp, ?_⟩
  obtain ⟨a1, a2⟩ := ld8 ha
  have a5 := ck_len ha
  obtain ⟨b1, b2⟩ := ld8 hb
  have b5 := ck_len hb
  obtain ⟨c1, c2⟩ := ld8 hc
  have c5 := ck_len hc
  unfold pc7
  refine pwp_start ?_
  simp only [↓evP, evB, stB, reduceIte, reduceCtorEq, Nat.reduceEqDiff, Nat.reduceAdd, Nat.reduceMul, Nat.reduceLeDiff, Nat.reduceLT, Nat.reduceSub, Nat.reduceBEq, ckPa, ckRow_cells]
  refine callOps_intro [pB true] ⟨rfl, rfl⟩ ?_
  simp only [↓evP, evB, stB, reduceIte, reduceCtorEq, Nat.reduceEqDiff, Nat.reduceAdd, Nat.reduceMul, Nat.reduceLeDiff, Nat.reduceLT, Nat.reduceSub, Nat.reduceBEq, a1, a2, a5, b1, b2, b5, ckCells_dt, ckPa, ckRow_cells, c1, c2, c5]
  refine callOps_intro [ckPa (zipC fJ a b)] (by exact R_zip.mk ha hb) ?_
  have hx : (zipC fJ a b).length = 8 := zipC_length ha hb
  obtain ⟨x1, x2⟩ := ld8 hx
  have x5 := ck_len hx
  have xe := eq8self hx
  simp only [↓evP, evB, stB, reduceIte, reduceCtorEq, Nat.reduceEqDiff, Nat.reduceAdd, Nat.reduceMul, Nat.reduceLeDiff, Nat.reduceLT, Nat.reduceSub, Nat.reduceBEq, a1, a2, a5, b1, b2, b5, ckCells_dt, ckPa, ckRow_cells, c1, c2, c5, x1, x2, x5, xe, wr_new8 hx]
  refine callD_intro [pB true] (by exact R_leq.mk' ha hx (join_ub1 (by omega))) ?_
  simp only [↓evP, evB, stB, reduceIte, reduceCtorEq, Nat.reduceEqDiff, Nat.reduceAdd, Nat.reduceMul, Nat.reduceLeDiff, Nat.reduceLT, Nat.reduceSub, Nat.reduceBEq, a1, a2, a5, b1, b2, b5, ckCells_dt, ckPa, ckRow_cells, c1, c2, c5, x1, x2, x5, xe, wr_new8 hx]
  refine callD_intro [pB true] (by exact R_leq.mk' hb hx (join_ub2 (by omega))) ?_
  simp only [↓evP, evB, stB, reduceIte, reduceCtorEq, Nat.reduceEqDiff, Nat.reduceAdd, Nat.reduceMul, Nat.reduceLeDiff, Nat.reduceLT, Nat.reduceSub, Nat.reduceBEq, a1, a2, a5, b1, b2, b5, ckCells_dt, ckPa, ckRow_cells, c1, c2, c5, x1, x2, x5, xe, wr_new8 hx]
  refine callD_intro [ckPa (zipC fJ a b)] (by exact R_zip.mk ha hb) ?_
  simp only [↓evP, evB, stB, reduceIte, reduceCtorEq, Nat.reduceEqDiff, Nat.reduceAdd, Nat.reduceMul, Nat.reduceLeDiff, Nat.reduceLT, Nat.reduceSub, Nat.reduceBEq, a1, a2, a5, b1, b2, b5, ckCells_dt, ckPa, ckRow_cells, c1, c2, c5, x1, x2, x5, xe, wr_new8 hx]
  refine ⟨(by unfold Drw; refine Eq.trans (b := true) ?_ rfl; kernel_rfl), ?_⟩
  try  simp only [↓evP, evB, stB, reduceIte, reduceCtorEq, Nat.reduceEqDiff, Nat.reduceAdd, Nat.reduceMul, Nat.reduceLeDiff, Nat.reduceLT, Nat.reduceSub, Nat.reduceBEq, a1, a2, a5, b1, b2, b5, ckCells_dt, ckPa, ckRow_cells, c1, c2, c5, x1, x2, x5, xe, wr_new8 hx]
  have hl : leqC (zipC fJ a b) c = (leqC a c && leqC b c) := join_lub (by omega) (by omega)
  refine callD_intro [pB (leqC (zipC fJ a b) c)] (by exact R_leq.mk' hx hc rfl) ?_
  simp only [↓evP, evB, stB, reduceIte, reduceCtorEq, Nat.reduceEqDiff, Nat.reduceAdd, Nat.reduceMul, Nat.reduceLeDiff, Nat.reduceLT, Nat.reduceSub, Nat.reduceBEq, a1, a2, a5, b1, b2, b5, ckCells_dt, ckPa, ckRow_cells, c1, c2, c5, x1, x2, x5, xe, wr_new8 hx]
  refine callD_intro [pB (leqC a c)] (by exact R_leq.mk' ha hc rfl) ?_
  cases q1 : leqC a c with
  | false =>
    rw [q1] at hl
    have q2 : (leqC (zipC fJ a b) c == false) = true := by rw [hl]; rfl
    simp only [↓evP, evB, stB, reduceIte, reduceCtorEq, Nat.reduceEqDiff, Nat.reduceAdd, Nat.reduceMul, Nat.reduceLeDiff, Nat.reduceLT, Nat.reduceSub, Nat.reduceBEq, a1, a2, a5, b1, b2, b5, ckCells_dt, ckPa, ckRow_cells, c1, c2, c5, x1, x2, x5, xe, wr_new8 hx, q2, pr7]
    exact (by unfold Drw; refine Eq.trans (b := true) ?_ rfl; kernel_rfl)
  | true =>
    rw [q1] at hl
    simp only [↓evP, evB, stB, reduceIte, reduceCtorEq, Nat.reduceEqDiff, Nat.reduceAdd, Nat.reduceMul, Nat.reduceLeDiff, Nat.reduceLT, Nat.reduceSub, Nat.reduceBEq, a1, a2, a5, b1, b2, b5, ckCells_dt, ckPa, ckRow_cells, c1, c2, c5, x1, x2, x5, xe, wr_new8 hx]
    refine callD_intro [pB (leqC b c)] (by exact R_leq.mk' hb hc rfl) ?_
    have q2 : (leqC (zipC fJ a b) c == leqC b c) = true := by rw [hl]; simp
    simp only [↓evP, evB, stB, reduceIte, reduceCtorEq, Nat.reduceEqDiff, Nat.reduceAdd, Nat.reduceMul, Nat.reduceLeDiff, Nat.reduceLT, Nat.reduceSub, Nat.reduceBEq, a1, a2, a5, b1, b2, b5, ckCells_dt, ckPa, ckRow_cells, c1, c2, c5, x1, x2, x5, xe, wr_new8 hx, q2, pr7]
    exact (by unfold Drw; refine Eq.trans (b := true) ?_ rfl; kernel_rfl)
def R_greatest (ps rs : List Pa) : Prop := ∃ (a : Ck) (b : Ck) (c : Ck), ps = [ckPa a, ckPa b, ckPa c] ∧ (a.length = 8 ∧ b.length = 8 ∧ c.length = 8) ∧ rs = [pB true]
theorem s_greatest : Spec Tryd.prog 3 R_greatest := by
  refine sp3 env32_ok ?_
  rintro ps rs ⟨a, b, c, rfl, ⟨ha, hb, hc⟩, rfl⟩
  refine ⟨by simp, ?_⟩
  obtain ⟨a1, a2⟩ := ld8 ha
  have a5 := ck_len ha
  obtain ⟨b1, b2⟩ := ld8 hb
  have b5 := ck_len hb
  obtain ⟨c1, c2⟩ := ld8 hc
  have c5 := ck_len hc
  unfold pc3
  refine pwp_start ?_
  simp only [↓evP, evB, stB, reduceIte, reduceCtorEq, Nat.reduceEqDiff, Nat.reduceAdd, Nat.reduceMul, Nat.reduceLeDiff, Nat.reduceLT, Nat.reduceSub, Nat.reduceBEq, ckPa, ckRow_cells]
  refine callOps_intro [pB true] ⟨rfl, rfl⟩ ?_
  simp only [↓evP, evB, stB, reduceIte, reduceCtorEq, Nat.reduceEqDiff, Nat.reduceAdd, Nat.reduceMul, Nat.reduceLeDiff, Nat.reduceLT, Nat.reduceSub, Nat.reduceBEq, a1, a2, a5, b1, b2, b5, ckCells_dt, ckPa, ckRow_cells, c1, c2, c5]
  refine callOps_intro [ckPa (zipC fM a b)] (by exact R_zip.mk ha hb) ?_
  have hx : (zipC fM a b).length = 8 := zipC_length ha hb
  obtain ⟨x1, x2⟩ := ld8 hx
  have x5 := ck_len hx
  have xe := eq8self hx
  simp only [↓evP, evB, stB, reduceIte, reduceCtorEq, Nat.reduceEqDiff, Nat.reduceAdd, Nat.reduceMul, Nat.reduceLeDiff, Nat.reduceLT, Nat.reduceSub, Nat.reduceBEq, a1, a2, a5, b1, b2, b5, ckCells_dt, ckPa, ckRow_cells, c1, c2, c5, x1, x2, x5, xe, wr_new8 hx]
  refine callD_intro [pB true] (by exact R_leq.mk' hx ha (meet_lb1 (by omega))) ?_
  simp only [↓evP, evB, stB, reduceIte, reduceCtorEq, Nat.reduceEqDiff, Nat.reduceAdd, Nat.reduceMul, Nat.reduceLeDiff, Nat.reduceLT, Nat.reduceSub, Nat.reduceBEq, a1, a2, a5, b1, b2, b5, ckCells_dt, ckPa, ckRow_cells, c1, c2, c5, x1, x2, x5, xe, wr_new8 hx]
  refine callD_intro [pB true] (by exact R_leq.mk' hx hb (meet_lb2 (by omega))) ?_
  simp only [↓evP, evB, stB, reduceIte, reduceCtorEq, Nat.reduceEqDiff, Nat.reduceAdd, Nat.reduceMul, Nat.reduceLeDiff, Nat.reduceLT, Nat.reduceSub, Nat.reduceBEq, a1, a2, a5, b1, b2, b5, ckCells_dt, ckPa, ckRow_cells, c1, c2, c5, x1, x2, x5, xe, wr_new8 hx]
  refine callD_intro [ckPa (zipC fM a b)] (by exact R_zip.mk ha hb) ?_
  simp only [↓evP, evB, stB, reduceIte, reduceCtorEq, Nat.reduceEqDiff, Nat.reduceAdd, Nat.reduceMul, Nat.reduceLeDiff, Nat.reduceLT, Nat.reduceSub, Nat.reduceBEq, a1, a2, a5, b1, b2, b5, ckCells_dt, ckPa, ckRow_cells, c1, c2, c5, x1, x2, x5, xe, wr_new8 hx]
  refine ⟨(by unfold Drw; refine Eq.trans (b := true) ?_ rfl; kernel_rfl), ?_⟩
  try  simp only [↓evP, evB, stB, reduceIte, reduceCtorEq, Nat.reduceEqDiff, Nat.reduceAdd, Nat.reduceMul, Nat.reduceLeDiff, Nat.reduceLT, Nat.reduceSub, Nat.reduceBEq, a1, a2, a5, b1, b2, b5, ckCells_dt, ckPa, ckRow_cells, c1, c2, c5, x1, x2, x5, xe, wr_new8 hx]
  have hl : leqC c (zipC fM a b) = (leqC c a && leqC c b) := meet_glb (by omega) (by omega)
  refine callD_intro [pB (leqC c (zipC fM a b))] (by exact R_leq.mk' hc hx rfl) ?_
  simp only [↓evP, evB, stB, reduceIte, reduceCtorEq, Nat.reduceEqDiff, Nat.reduceAdd, Nat.reduceMul, Nat.reduceLeDiff, Nat.reduceLT, Nat.reduceSub, Nat.reduceBEq, a1, a2, a5, b1, b2, b5, ckCells_dt, ckPa, ckRow_cells, c1, c2, c5, x1, x2, x5, xe, wr_new8 hx]
  refine callD_intro [pB (leqC c a)] (by exact R_leq.mk' hc ha rfl) ?_
  cases q1 : leqC c a with
  | false =>
    rw [q1] at hl
    have q2 : (leqC c (zipC fM a b) == false) = true := by rw [hl]; rfl
    simp only [↓evP, evB, stB, reduceIte, reduceCtorEq, Nat.reduceEqDiff, Nat.reduceAdd, Nat.reduceMul, Nat.reduceLeDiff, Nat.reduceLT, Nat.reduceSub, Nat.reduceBEq, a1, a2, a5, b1, b2, b5, ckCells_dt, ckPa, ckRow_cells, c1, c2, c5, x1, x2, x5, xe, wr_new8 hx, q2, pr3]
    exact (by unfold Drw; refine Eq.trans (b := true) ?_ rfl; kernel_rfl)
  | true =>
    rw [q1] at hl
    simp only [↓evP, evB, stB, reduceIte, reduceCtorEq, Nat.reduceEqDiff, Nat.reduceAdd, Nat.reduceMul, Nat.reduceLeDiff, Nat.reduceLT, Nat.reduceSub, Nat.reduceBEq, a1, a2, a5, b1, b2, b5, ckCells_dt, ckPa, ckRow_cells, c1, c2, c5, x1, x2, x5, xe, wr_new8 hx]
    refine callD_intro [pB (leqC c b)] (by exact R_leq.mk' hc hb rfl) ?_
    have q2 : (leqC c (zipC fM a b) == leqC c b) = true := by rw [hl]; simp
    simp only [↓evP, evB, stB, reduceIte, reduceCtorEq, Nat.reduceEqDiff, Nat.reduceAdd, Nat.reduceMul, Nat.reduceLeDiff, Nat.reduceLT, Nat.reduceSub, Nat.reduceBEq, a1, a2, a5, b1, b2, b5, ckCells_dt, ckPa, ckRow_cells, c1, c2, c5, x1, x2, x5, xe, wr_new8 hx, q2, pr3]
    exact (by unfold Drw; refine Eq.trans (b := true) ?_ rfl; kernel_rfl)
def R_porder (ps rs : List Pa) : Prop := ∃ (a : Ck) (b : Ck) (c : Ck), ps = [ckPa a, ckPa b, ckPa c] ∧ (a.length = 8 ∧ b.length = 8 ∧ c.length = 8) ∧ rs = [pB true]
theorem s_porder : Spec Tryd.prog 6 R_porder := by
  refine sp6 env32_ok ?_
  rintro ps rs ⟨a, b, c, rfl, ⟨ha, hb, hc⟩, rfl⟩
  refine ⟨by simp, ?_⟩
  obtain ⟨a1, a2⟩ := ld8 ha
  have a5 := ck_len ha
  obtain ⟨b1, b2⟩ := ld8 hb
  have b5 := ck_len hb
  obtain ⟨c1, c2⟩ := ld8 hc
  have c5 := ck_len hc
  unfold pc6
  refine pwp_start ?_
  simp only [↓evP, evB, stB, reduceIte, reduceCtorEq, Nat.reduceEqDiff, Nat.reduceAdd, Nat.reduceMul, Nat.reduceLeDiff, Nat.reduceLT, Nat.reduceSub, Nat.reduceBEq, ckPa, ckRow_cells]
  refine callOps_intro [pB true] ⟨rfl, rfl⟩ ?_
  simp only [↓evP, evB, stB, reduceIte, reduceCtorEq, Nat.reduceEqDiff, Nat.reduceAdd, Nat.reduceMul, Nat.reduceLeDiff, Nat.reduceLT, Nat.reduceSub, Nat.reduceBEq, a1, a2, a5, b1, b2, b5, ckCells_dt, ckPa, ckRow_cells, c1, c2, c5]
  refine callOps_intro [pB true] (by exact R_leq.mk' ha ha (leqC_refl a)) ?_
  simp only [↓evP, evB, stB, reduceIte, reduceCtorEq, Nat.reduceEqDiff, Nat.reduceAdd, Nat.reduceMul, Nat.reduceLeDiff, Nat.reduceLT, Nat.reduceSub, Nat.reduceBEq, a1, a2, a5, b1, b2, b5, ckCells_dt, ckPa, ckRow_cells, c1, c2, c5]
  refine callOps_intro [pB (leqC a b)] (by exact R_leq.mk' ha hb rfl) ?_
  cases q1 : leqC a b with
  | false =>
    simp only [↓evP, evB, stB, reduceIte, reduceCtorEq, Nat.reduceEqDiff, Nat.reduceAdd, Nat.reduceMul, Nat.reduceLeDiff, Nat.reduceLT, Nat.reduceSub, Nat.reduceBEq, a1, a2, a5, b1, b2, b5, ckCells_dt, ckPa, ckRow_cells, c1, c2, c5, q1]
    refine callOps_intro [pB (leqC a b)] (by exact R_leq.mk' ha hb rfl) ?_
    simp only [↓evP, evB, stB, reduceIte, reduceCtorEq, Nat.reduceEqDiff, Nat.reduceAdd, Nat.reduceMul, Nat.reduceLeDiff, Nat.reduceLT, Nat.reduceSub, Nat.reduceBEq, a1, a2, a5, b1, b2, b5, ckCells_dt, ckPa, ckRow_cells, c1, c2, c5, q1, pr6]
  | true =>
    simp only [↓evP, evB, stB, reduceIte, reduceCtorEq, Nat.reduceEqDiff, Nat.reduceAdd, Nat.reduceMul, Nat.reduceLeDiff, Nat.reduceLT, Nat.reduceSub, Nat.reduceBEq, a1, a2, a5, b1, b2, b5, ckCells_dt, ckPa, ckRow_cells, c1, c2, c5, q1]
    refine callOps_intro [pB (leqC b a)] (by exact R_leq.mk' hb ha rfl) ?_
    cases q3 : leqC b a with
    | false =>
      simp only [↓evP, evB, stB, reduceIte, reduceCtorEq, Nat.reduceEqDiff, Nat.reduceAdd, Nat.reduceMul, Nat.reduceLeDiff, Nat.reduceLT, Nat.reduceSub, Nat.reduceBEq, a1, a2, a5, b1, b2, b5, ckCells_dt, ckPa, ckRow_cells, c1, c2, c5, q3]
      refine callOps_intro [pB (leqC a b)] (by exact R_leq.mk' ha hb rfl) ?_
      simp only [↓evP, evB, stB, reduceIte, reduceCtorEq, Nat.reduceEqDiff, Nat.reduceAdd, Nat.reduceMul, Nat.reduceLeDiff, Nat.reduceLT, Nat.reduceSub, Nat.reduceBEq, a1, a2, a5, b1, b2, b5, ckCells_dt, ckPa, ckRow_cells, c1, c2, c5, q1]
      refine callOps_intro [pB (leqC b c)] (by exact R_leq.mk' hb hc rfl) ?_
      cases q2 : leqC b c with
      | false => simp only [↓evP, evB, stB, reduceIte, reduceCtorEq, Nat.reduceEqDiff, Nat.reduceAdd, Nat.reduceMul, Nat.reduceLeDiff, Nat.reduceLT, Nat.reduceSub, Nat.reduceBEq, a1, a2, a5, b1, b2, b5, ckCells_dt, ckPa, ckRow_cells, c1, c2, c5, q1, q2, pr6]
      | true =>
        simp only [↓evP, evB, stB, reduceIte, reduceCtorEq, Nat.reduceEqDiff, Nat.reduceAdd, Nat.reduceMul, Nat.reduceLeDiff, Nat.reduceLT, Nat.reduceSub, Nat.reduceBEq, a1, a2, a5, b1, b2, b5, ckCells_dt, ckPa, ckRow_cells, c1, c2, c5, q1, q2]
        refine callOps_intro [pB true] (by exact R_leq.mk' ha hc (leqC_trans (by omega) (by omega) q1 q2)) ?_
        simp only [↓evP, evB, stB, reduceIte, reduceCtorEq, Nat.reduceEqDiff, Nat.reduceAdd, Nat.reduceMul, Nat.reduceLeDiff, Nat.reduceLT, Nat.reduceSub, Nat.reduceBEq, a1, a2, a5, b1, b2, b5, ckCells_dt, ckPa, ckRow_cells, c1, c2, c5, pr6]
    | true =>
      have hab : a = b := leqC_antisymm (by omega) q1 q3
      have he : eqCls [false, false, false, false, false, false, false, false] (ckCells a) (ckCells b) = some true := by rw [eq8 ha hb, decide_eq_true hab]
      simp only [↓evP, evB, stB, reduceIte, reduceCtorEq, Nat.reduceEqDiff, Nat.reduceAdd, Nat.reduceMul, Nat.reduceLeDiff, Nat.reduceLT, Nat.reduceSub, Nat.reduceBEq, a1, a2, a5, b1, b2, b5, ckCells_dt, ckPa, ckRow_cells, c1, c2, c5, q3, he]
      refine callOps_intro [pB (leqC a b)] (by exact R_leq.mk' ha hb rfl) ?_
      simp only [↓evP, evB, stB, reduceIte, reduceCtorEq, Nat.reduceEqDiff, Nat.reduceAdd, Nat.reduceMul, Nat.reduceLeDiff, Nat.reduceLT, Nat.reduceSub, Nat.reduceBEq, a1, a2, a5, b1, b2, b5, ckCells_dt, ckPa, ckRow_cells, c1, c2, c5, q1]
      refine callOps_intro [pB (leqC b c)] (by exact R_leq.mk' hb hc rfl) ?_
      cases q2 : leqC b c with
      | false => simp only [↓evP, evB, stB, reduceIte, reduceCtorEq, Nat.reduceEqDiff, Nat.reduceAdd, Nat.reduceMul, Nat.reduceLeDiff, Nat.reduceLT, Nat.reduceSub, Nat.reduceBEq, a1, a2, a5, b1, b2, b5, ckCells_dt, ckPa, ckRow_cells, c1, c2, c5, q1, q2, pr6]
      | true =>
        simp only [↓evP, evB, stB, reduceIte, reduceCtorEq, Nat.reduceEqDiff, Nat.reduceAdd, Nat.reduceMul, Nat.reduceLeDiff, Nat.reduceLT, Nat.reduceSub, Nat.reduceBEq, a1, a2, a5, b1, b2, b5, ckCells_dt, ckPa, ckRow_cells, c1, c2, c5, q1, q2]
        refine callOps_intro [pB true] (by exact R_leq.mk' ha hc (leqC_trans (by omega) (by omega) q1 q2)) ?_
        simp only [↓evP, evB, stB, reduceIte, reduceCtorEq, Nat.reduceEqDiff, Nat.reduceAdd, Nat.reduceMul, Nat.reduceLeDiff, Nat.reduceLT, Nat.reduceSub, Nat.reduceBEq, a1, a2, a5, b1, b2, b5, ckCells_dt, ckPa, ckRow_cells, c1, c2, c5, pr6]
def R_lattice (ps rs : List Pa) : Prop := ∃ (a : Ck) (b : Ck) (c : Ck), ps = [ckPa a, ckPa b, ckPa c] ∧ (a.length = 8 ∧ b.length = 8 ∧ c.length = 8) ∧ rs = [pB true]
theorem s_lattice : Spec Tryd.prog 4 R_lattice := by
  refine sp4 env32_ok ?_
  rintro ps rs ⟨a, b, c, rfl, ⟨ha, hb, hc⟩, rfl⟩
  refine ⟨by simp, ?_⟩
  obtain ⟨a1, a2⟩ := ld8 ha
  have a5 := ck_len ha
  obtain ⟨b1, b2⟩ := ld8 hb
  have b5 := ck_len hb
  obtain ⟨c1, c2⟩ := ld8 hc
  have c5 := ck_len hc
  unfold pc4
  refine pwp_start ?_
  simp only [↓evP, evB, stB, reduceIte, reduceCtorEq, Nat.reduceEqDiff, Nat.reduceAdd, Nat.reduceMul, Nat.reduceLeDiff, Nat.reduceLT, Nat.reduceSub, Nat.reduceBEq, ckPa, ckRow_cells]
  refine callOps_intro [pB true] ⟨rfl, rfl⟩ ?_
  have hz0 : (zipC fJ a b).length = 8 := zipC_length ha hb
  have hz1 : (zipC fJ b a).length = 8 := zipC_length hb ha
  have hz2 : (zipC fM a b).length = 8 := zipC_length ha hb
  have hz3 : (zipC fM b a).length = 8 := zipC_length hb ha
  have hz4 : (zipC fJ a a).length = 8 := zipC_length ha ha
  have hz5 : (zipC fM a a).length = 8 := zipC_length ha ha
  have hz6 : (zipC fJ b c).length = 8 := zipC_length hb hc
  have hz7 : (zipC fM b c).length = 8 := zipC_length hb hc
  have hz8 : (zipC fJ (zipC fJ a b) c).length = 8 := zipC_length hz0 hc
  have hz9 : (zipC fJ a (zipC fJ b c)).length = 8 := zipC_length ha hz6
  have hz10 : (zipC fM (zipC fM a b) c).length = 8 := zipC_length hz2 hc
  have hz11 : (zipC fM a (zipC fM b c)).length = 8 := zipC_length ha hz7
  have hz12 : (zipC fJ a (zipC fM a b)).length = 8 := zipC_length ha hz2
  have hz13 : (zipC fM a (zipC fJ a b)).length = 8 := zipC_length ha hz0
  have e_0 : eqCls [false, false, false, false, false, false, false, false] (ckCells (zipC fJ a b)) (ckCells (zipC fJ b a)) = some true := by rw [eq8 hz0 hz1, decide_eq_true (zipC_comm fJ_comm a b)]
  have e_1 : eqCls [false, false, false, false, false, false, false, false] (ckCells (zipC fM a b)) (ckCells (zipC fM b a)) = some true := by rw [eq8 hz2 hz3, decide_eq_true (zipC_comm fM_comm a b)]
  have e_2 : eqCls [false, false, false, false, false, false, false, false] (ckCells (zipC fJ a a)) (ckCells a) = some true := by rw [eq8 hz4 ha, decide_eq_true (zipC_idem fJ_idem a)]
  have e_3 : eqCls [false, false, false, false, false, false, false, false] (ckCells (zipC fM a a)) (ckCells a) = some true := by rw [eq8 hz5 ha, decide_eq_true (zipC_idem fM_idem a)]
  have e_4 : eqCls [false, false, false, false, false, false, false, false] (ckCells (zipC fJ (zipC fJ a b) c)) (ckCells (zipC fJ a (zipC fJ b c))) = some true := by rw [eq8 hz8 hz9, decide_eq_true (zipC_assoc fJ_assoc a b c)]
  have e_5 : eqCls [false, false, false, false, false, false, false, false] (ckCells (zipC fM (zipC fM a b) c)) (ckCells (zipC fM a (zipC fM b c))) = some true := by rw [eq8 hz10 hz11, decide_eq_true (zipC_assoc fM_assoc a b c)]
  have e_6 : eqCls [false, false, false, false, false, false, false, false] (ckCells (zipC fJ a (zipC fM a b))) (ckCells a) = some true := by rw [eq8 hz12 ha, decide_eq_true (zipC_absorb fJ_fM (by omega))]
  have e_7 : eqCls [false, false, false, false, false, false, false, false] (ckCells (zipC fM a (zipC fJ a b))) (ckCells a) = some true := by rw [eq8 hz13 ha, decide_eq_true (zipC_absorb fM_fJ (by omega))]
  simp only [↓evP, evB, stB, reduceIte, reduceCtorEq, Nat.reduceEqDiff, Nat.reduceAdd, Nat.reduceMul, Nat.reduceLeDiff, Nat.reduceLT, Nat.reduceSub, Nat.reduceBEq, a1, a2, a5, b1, b2, b5, ckCells_dt, ckPa, ckRow_cells, c1, c2, c5, e_0, e_1, e_2, e_3, e_4, e_5, e_6, e_7]
  refine callD_intro [ckPa (zipC fJ a b)] (by exact R_zip.mk ha hb) ?_
  simp only [↓evP, evB, stB, reduceIte, reduceCtorEq, Nat.reduceEqDiff, Nat.reduceAdd, Nat.reduceMul, Nat.reduceLeDiff, Nat.reduceLT, Nat.reduceSub, Nat.reduceBEq, a1, a2, a5, b1, b2, b5, ckCells_dt, ckPa, ckRow_cells, c1, c2, c5, e_0, e_1, e_2, e_3, e_4, e_5, e_6, e_7]
  refine callD_intro [ckPa (zipC fJ b a)] (by exact R_zip.mk hb ha) ?_
  simp only [↓evP, evB, stB, reduceIte, reduceCtorEq, Nat.reduceEqDiff, Nat.reduceAdd, Nat.reduceMul, Nat.reduceLeDiff, Nat.reduceLT, Nat.reduceSub, Nat.reduceBEq, a1, a2, a5, b1, b2, b5, ckCells_dt, ckPa, ckRow_cells, c1, c2, c5, e_0, e_1, e_2, e_3, e_4, e_5, e_6, e_7]
  refine callD_intro [ckPa (zipC fM a b)] (by exact R_zip.mk ha hb) ?_
  simp only [↓evP, evB, stB, reduceIte, reduceCtorEq, Nat.reduceEqDiff, Nat.reduceAdd, Nat.reduceMul, Nat.reduceLeDiff, Nat.reduceLT, Nat.reduceSub, Nat.reduceBEq, a1, a2, a5, b1, b2, b5, ckCells_dt, ckPa, ckRow_cells, c1, c2, c5, e_0, e_1, e_2, e_3, e_4, e_5, e_6, e_7]
  refine callD_intro [ckPa (zipC fM b a)] (by exact R_zip.mk hb ha) ?_
  simp only [↓evP, evB, stB, reduceIte, reduceCtorEq, Nat.reduceEqDiff, Nat.reduceAdd, Nat.reduceMul, Nat.reduceLeDiff, Nat.reduceLT, Nat.reduceSub, Nat.reduceBEq, a1, a2, a5, b1, b2, b5, ckCells_dt, ckPa, ckRow_cells, c1, c2, c5, e_0, e_1, e_2, e_3, e_4, e_5, e_6, e_7]
  refine callD_intro [ckPa (zipC fJ a a)] (by exact R_zip.mk ha ha) ?_
  simp only [↓evP, evB, stB, reduceIte, reduceCtorEq, Nat.reduceEqDiff, Nat.reduceAdd, Nat.reduceMul, Nat.reduceLeDiff, Nat.reduceLT, Nat.reduceSub, Nat.reduceBEq, a1, a2, a5, b1, b2, b5, ckCells_dt, ckPa, ckRow_cells, c1, c2, c5, e_0, e_1, e_2, e_3, e_4, e_5, e_6, e_7]
  refine callD_intro [ckPa (zipC fM a a)] (by exact R_zip.mk ha ha) ?_
  simp only [↓evP, evB, stB, reduceIte, reduceCtorEq, Nat.reduceEqDiff, Nat.reduceAdd, Nat.reduceMul, Nat.reduceLeDiff, Nat.reduceLT, Nat.reduceSub, Nat.reduceBEq, a1, a2, a5, b1, b2, b5, ckCells_dt, ckPa, ckRow_cells, c1, c2, c5, e_0, e_1, e_2, e_3, e_4, e_5, e_6, e_7]
  refine ⟨(by unfold Drw; refine Eq.trans (b := true) ?_ rfl; kernel_rfl), ?_⟩
  try  simp only [↓evP, evB, stB, reduceIte, reduceCtorEq, Nat.reduceEqDiff, Nat.reduceAdd, Nat.reduceMul, Nat.reduceLeDiff, Nat.reduceLT, Nat.reduceSub, Nat.reduceBEq, a1, a2, a5, b1, b2, b5, ckCells_dt, ckPa, ckRow_cells, c1, c2, c5, e_0, e_1, e_2, e_3, e_4, e_5, e_6, e_7]
  refine callD_intro [ckPa (zipC fJ a b)] (by exact R_zip.mk ha hb) ?_
  simp only [↓evP, evB, stB, reduceIte, reduceCtorEq, Nat.reduceEqDiff, Nat.reduceAdd, Nat.reduceMul, Nat.reduceLeDiff, Nat.reduceLT, Nat.reduceSub, Nat.reduceBEq, a1, a2, a5, b1, b2, b5, ckCells_dt, ckPa, ckRow_cells, c1, c2, c5, e_0, e_1, e_2, e_3, e_4, e_5, e_6, e_7]
  refine callD_intro [ckPa (zipC fJ (zipC fJ a b) c)] (by exact R_zip.mk hz0 hc) ?_
  simp only [↓evP, evB, stB, reduceIte, reduceCtorEq, Nat.reduceEqDiff, Nat.reduceAdd, Nat.reduceMul, Nat.reduceLeDiff, Nat.reduceLT, Nat.reduceSub, Nat.reduceBEq, a1, a2, a5, b1, b2, b5, ckCells_dt, ckPa, ckRow_cells, c1, c2, c5, e_0, e_1, e_2, e_3, e_4, e_5, e_6, e_7]
  refine callD_intro [ckPa (zipC fJ b c)] (by exact R_zip.mk hb hc) ?_
  simp only [↓evP, evB, stB, reduceIte, reduceCtorEq, Nat.reduceEqDiff, Nat.reduceAdd, Nat.reduceMul, Nat.reduceLeDiff, Nat.reduceLT, Nat.reduceSub, Nat.reduceBEq, a1, a2, a5, b1, b2, b5, ckCells_dt, ckPa, ckRow_cells, c1, c2, c5, e_0, e_1, e_2, e_3, e_4, e_5, e_6, e_7]
  refine callD_intro [ckPa (zipC fJ a (zipC fJ b c))] (by exact R_zip.mk ha hz6) ?_
  simp only [↓evP, evB, stB, reduceIte, reduceCtorEq, Nat.reduceEqDiff, Nat.reduceAdd, Nat.reduceMul, Nat.reduceLeDiff, Nat.reduceLT, Nat.reduceSub, Nat.reduceBEq, a1, a2, a5, b1, b2, b5, ckCells_dt, ckPa, ckRow_cells, c1, c2, c5, e_0, e_1, e_2, e_3, e_4, e_5, e_6, e_7]
  refine callD_intro [ckPa (zipC fM a b)] (by exact R_zip.mk ha hb) ?_
  simp only [↓evP, evB, stB, reduceIte, reduceCtorEq, Nat.reduceEqDiff, Nat.reduceAdd, Nat.reduceMul, Nat.reduceLeDiff, Nat.reduceLT, Nat.reduceSub, Nat.reduceBEq, a1, a2, a5, b1, b2, b5, ckCells_dt, ckPa, ckRow_cells, c1, c2, c5, e_0, e_1, e_2, e_3, e_4, e_5, e_6, e_7]
  refine callD_intro [ckPa (zipC fM (zipC fM a b) c)] (by exact R_zip.mk hz2 hc) ?_
  simp only [↓evP, evB, stB, reduceIte, reduceCtorEq, Nat.reduceEqDiff, Nat.reduceAdd, Nat.reduceMul, Nat.reduceLeDiff, Nat.reduceLT, Nat.reduceSub, Nat.reduceBEq, a1, a2, a5, b1, b2, b5, ckCells_dt, ckPa, ckRow_cells, c1, c2, c5, e_0, e_1, e_2, e_3, e_4, e_5, e_6, e_7]
  refine callD_intro [ckPa (zipC fM b c)] (by exact R_zip.mk hb hc) ?_
  simp only [↓evP, evB, stB, reduceIte, reduceCtorEq, Nat.reduceEqDiff, Nat.reduceAdd, Nat.reduceMul, Nat.reduceLeDiff, Nat.reduceLT, Nat.reduceSub, Nat.reduceBEq, a1, a2, a5, b1, b2, b5, ckCells_dt, ckPa, ckRow_cells, c1, c2, c5, e_0, e_1, e_2, e_3, e_4, e_5, e_6, e_7]
  refine callD_intro [ckPa (zipC fM a (zipC fM b c))] (by exact R_zip.mk ha hz7) ?_
  simp only [↓evP, evB, stB, reduceIte, reduceCtorEq, Nat.reduceEqDiff, Nat.reduceAdd, Nat.reduceMul, Nat.reduceLeDiff, Nat.reduceLT, Nat.reduceSub, Nat.reduceBEq, a1, a2, a5, b1, b2, b5, ckCells_dt, ckPa, ckRow_cells, c1, c2, c5, e_0, e_1, e_2, e_3, e_4, e_5, e_6, e_7]
  refine ⟨(by unfold Drw; refine Eq.trans (b := true) ?_ rfl; kernel_rfl), ?_⟩
  try  simp only [↓evP, evB, stB, reduceIte, reduceCtorEq, Nat.reduceEqDiff, Nat.reduceAdd, Nat.reduceMul, Nat.reduceLeDiff, Nat.reduceLT, Nat.reduceSub, Nat.reduceBEq, a1, a2, a5, b1, b2, b5, ckCells_dt, ckPa, ckRow_cells, c1, c2, c5, e_0, e_1, e_2, e_3, e_4, e_5, e_6, e_7]
  refine callD_intro [ckPa (zipC fM a b)] (by exact R_zip.mk ha hb) ?_
  simp only [↓evP, evB, stB, reduceIte, reduceCtorEq, Nat.reduceEqDiff, Nat.reduceAdd, Nat.reduceMul, Nat.reduceLeDiff, Nat.reduceLT, Nat.reduceSub, Nat.reduceBEq, a1, a2, a5, b1, b2, b5, ckCells_dt, ckPa, ckRow_cells, c1, c2, c5, e_0, e_1, e_2, e_3, e_4, e_5, e_6, e_7]
  refine callD_intro [ckPa (zipC fJ a (zipC fM a b))] (by exact R_zip.mk ha hz2) ?_
  simp only [↓evP, evB, stB, reduceIte, reduceCtorEq, Nat.reduceEqDiff, Nat.reduceAdd, Nat.reduceMul, Nat.reduceLeDiff, Nat.reduceLT, Nat.reduceSub, Nat.reduceBEq, a1, a2, a5, b1, b2, b5, ckCells_dt, ckPa, ckRow_cells, c1, c2, c5, e_0, e_1, e_2, e_3, e_4, e_5, e_6, e_7]
  refine callD_intro [ckPa (zipC fJ a b)] (by exact R_zip.mk ha hb) ?_
  simp only [↓evP, evB, stB, reduceIte, reduceCtorEq, Nat.reduceEqDiff, Nat.reduceAdd, Nat.reduceMul, Nat.reduceLeDiff, Nat.reduceLT, Nat.reduceSub, Nat.reduceBEq, a1, a2, a5, b1, b2, b5, ckCells_dt, ckPa, ckRow_cells, c1, c2, c5, e_0, e_1, e_2, e_3, e_4, e_5, e_6, e_7]
  refine callD_intro [ckPa (zipC fM a (zipC fJ a b))] (by exact R_zip.mk ha hz0) ?_
  simp only [↓evP, evB, stB, reduceIte, reduceCtorEq, Nat.reduceEqDiff, Nat.reduceAdd, Nat.reduceMul, Nat.reduceLeDiff, Nat.reduceLT, Nat.reduceSub, Nat.reduceBEq, a1, a2, a5, b1, b2, b5, ckCells_dt, ckPa, ckRow_cells, c1, c2, c5, e_0, e_1, e_2, e_3, e_4, e_5, e_6, e_7, pr4]
  exact (by unfold Drw; refine Eq.trans (b := true) ?_ rfl; kernel_rfl)
end Go.Proofs.YthnjbnfnljjepaaDoor
end
section
set_option linter.unusedSimpArgs false
set_option linter.unusedVariables false
namespace Go.Proofs.YthnjbnfnljjepaaDoor
open Go Go.RowKit Go.Lib

set_option maxRecDepth 100000

abbrev laidL : List (String × DataW Unit) := Rows.clockOrderRow.laid
theorem space_data : Rows.laid_strings_asciiSpace (H := Unit) = tabData .u8 asciiSpaceTab := by kernel_rfl
theorem pow_data : Rows.laid_internal_strconv_uint64pow10 (H := Unit) = tabData .u64 pow10Tab := by kernel_rfl
theorem white_data : Rows.laid_unicode_White_Space (H := Unit) = whiteData := by kernel_rfl
theorem tab_reads {n : String} {k : IntKind} {zs : List Int} {g : Nat} {t e : TypeId} {m : Nat} {w : World}
    (hg : Tryd.prog.globalNamed n = some g) (hty : (Tryd.prog.globals[g]?).map (·.type) = some t) (ht : Tryd.prog.underlying t = some (.array m e)) (he : Tryd.prog.underlying e = some (.int k)) (hce : Tryd.prog.cellsOf e = 1) (hct : Tryd.prog.cellsOf t = m)
    (h : VarReads Tryd.prog w n (tabData k zs)) : TabIs Tryd.prog w n k zs := by
  obtain ⟨g', t', cs, fuel, p, hg', ht', hvar, hd⟩ := h
  obtain rfl := Option.some.inj (hg.symm.trans hg')
  obtain rfl := Option.some.inj (hty.symm.trans ht')
  unfold TabIs
  rw [hvar, ← cells_of_tab ht he hce hct hd]
theorem row_err (u : TypeId) (h : Tryd.prog.typeName? 3 u = some "*errors.errorString") : u = 126 :=
  typeName_ptr_named (nm := "errors.errorString") (by rw [show "*" ++ "errors.errorString" = "*errors.errorString" by decide]; kernel_rfl) (by kernel_rfl) (by decide) u (by rw [show "*" ++ "errors.errorString" = "*errors.errorString" by decide]; exact h)
theorem door_of_laid {w : World} (h : laidMet Tryd.prog laidL w) : Door w := by
  refine ⟨?_, ?_, ?_, ?_, ?_⟩
  · exact tab_reads (g := 4) (by kernel_rfl) (by kernel_rfl) Tryd.underlying114 Tryd.underlying66 (by kernel_rfl) (by kernel_rfl) (pow_data ▸ laidMet.reads h (.tail _ (.tail _ (.head _))))
  · exact tab_reads (g := 0) (by kernel_rfl) (by kernel_rfl) Tryd.underlying55 Tryd.underlying5 (by kernel_rfl) (by kernel_rfl) (space_data ▸ laidMet.reads h (.tail _ (.tail _ (.tail _ (.tail _ (.tail _ (.tail _ (.tail _ (.head _)))))))))
  · exact whiteTab_of_reads (ρ := Tryd.lays157_ren) { Tryd.lays157 with } ⟨by kernel_rfl, by kernel_rfl, by kernel_rfl, by kernel_rfl, by kernel_rfl, by kernel_rfl, by kernel_rfl, by kernel_rfl⟩ (white_data ▸ laidMet.reads h (.tail _ (.tail _ (.tail _ (.tail _ (.tail _ (.tail _ (.head _))))))))
  · obtain ⟨a, s, hv, _⟩ := laid_sentinel (g := 2) (h.tail.tail.tail.tail.tail) (by kernel_rfl) (by kernel_rfl) Tryd.underlying45 row_err Tryd.underlying126 Tryd.underlying128 rfl rfl Tryd.underlying9 (by kernel_rfl) (by kernel_rfl)
    exact ⟨_, _, hv⟩
  · obtain ⟨a, s, hv, _⟩ := laid_sentinel (g := 3) (h.tail.tail.tail.tail) (by kernel_rfl) (by kernel_rfl) Tryd.underlying45 row_err Tryd.underlying126 Tryd.underlying128 rfl rfl Tryd.underlying9 (by kernel_rfl) (by kernel_rfl)
    exact ⟨_, _, hv⟩

/-- A world that holds what the rows list. -/
def tabCells (d : DataW Unit) : Array Value := match d with
  | .agg ds => (ds.map fun | .lit (.int k z) => Value.int k z | _ => undef).toArray
  | _ => #[]
noncomputable def laidWorld (os : Os) : World :=
  let N := (World.settled Tryd.prog os).heap.size
  let w0 := World.holding Tryd.prog os ⟨#[.cells (Lib.whiteT.map fun (z : Nat) => Value.int .u16 (z : Int)).toArray 99, .cells #[.slice (some ⟨N, 0, none⟩) 7 7, .slice none 0 0, .int .i64 2] 96,
    .cells #[.string ⟨#[105, 110, 118, 97, 108, 105, 100, 32, 115, 121, 110, 116, 97, 120]⟩] 128, .cells #[.string ⟨#[118, 97, 108, 117, 101, 32, 111, 117, 116, 32, 111, 102, 32, 114, 97, 110, 103, 101]⟩] 128], #[], []⟩
  let put (h : Array Obj) (g : Nat) (cs : Array Value) : Array Obj := h.modify g fun
    | .cells _ t frozen => .cells cs t frozen
    | o => o
  { w0 with heap := put (put (put (put (put (put (put (put (put w0.heap 0 (Lib.asciiSpaceTab.map fun z => Value.int .u8 z).toArray) 6 (Lib.firstTab.map fun z => Value.int .u8 z).toArray)
      7 ((List.range 16).flatMap fun i => [Value.int .u8 (Lib.accLo i), Value.int .u8 (Lib.accHi i)]).toArray) 1 #[.pointer (some ⟨N + 1, 0, none⟩)])
      2 #[.iface 126 (.pointer (some ⟨N + 2, 0, none⟩))]) 3 #[.iface 126 (.pointer (some ⟨N + 3, 0, none⟩))])
      4 (tabCells Rows.laid_internal_strconv_uint64pow10)) 8 (tabCells Rows.laid_math_bits_deBruijn32tab)) 9 (tabCells Rows.laid_math_bits_deBruijn64tab) }
theorem laid_met (os : Os) (args : Array Value) : laidMet Tryd.prog laidL ((laidWorld os).forCall (fun _ _ => 0) ⟨#[], args, []⟩).memory :=
  laidMet_of_run3 10 (by kernel_rfl) (by kernel_rfl) (by kernel_rfl)
end Go.Proofs.YthnjbnfnljjepaaDoor
end
