/- The rules by which the plain reading is evaluated, bound together. No conditions. -/
import Derived.Test.YtffcpijeebagfaaMf3
import Derived.Below
import Derived.DeepKeys5
import Derived.Maps.OwnSet
import Derived.Deep.Draws
import Derived.Test.YtffcpijeebagfaaRows
import Derived.WalkKit
import Derived.WalkSpells
import Derived.Outline
import Derived.Handy
import Derived.Deep.Light
import Derived.Lib.Hide
import Derived.RegionTactic
import Derived.BigRegion
import Derived.Deep.QuietTactic
import Derived.BigQuiet
import Derived.Deep.DeepCutAuto
import Derived.Deep.CutBlock
set_option linter.unusedSimpArgs false
set_option linter.unusedVariables false
section
namespace Go.Proofs.Ytffcpijeebagfaa
open Go Go.RowKit
set_option maxRecDepth 100000
def unN:Option Value→Option (Av×Cg)
 | some (.bool b)=>some (scAv (.bool !b),.no)
 | _=>none
def unG:Option Value→Option (Av×Cg)
 | some (.int k n)=>some (scAv (.int k (k.wrap (0 - n))),.no)
 | _=>none
def unX:Option Value→Option (Av×Cg)
 | some (.int k n)=>some (scAv (.int k (k.wrap (BitVec.ofInt k.bits (if k.signed then -1 else k.max) ^^^ BitVec.ofInt k.bits n).toNat)),.no)
 | _=>none
theorem fn_not {s:St} {d:Nat} {x:PX}:PO.fn s d (.un .not x)=unN (s.val x):=by
 cases h:s.val x with
 | none=>simp only [PO.fn,h,unN]
 | some v=>cases v <;> simp only [PO.fn,h,unN]
theorem fn_neg {s:St} {d:Nat} {x:PX}:PO.fn s d (.un .neg x)=unG (s.val x):=by
 cases h:s.val x with
 | none=>simp only [PO.fn,h,unG]
 | some v=>cases v <;> simp only [PO.fn,h,unG]
theorem fn_xor {s:St} {d:Nat} {x:PX}:PO.fn s d (.un .xor x)=unX (s.val x):=by
 cases h:s.val x with
 | none=>simp only [PO.fn,h,unX]
 | some v=>cases v <;> simp only [PO.fn,h,unX]
theorem evP:type_of% (
 And.intro @evalOps_gT <|
 And.intro @evalOps_gF <|
 And.intro @evalOps_gS <|
 And.intro @evalD_gT <|
 And.intro @evalD_gF <|
 And.intro @evalD_gS <|
 And.intro @pwp_skip <|
 And.intro @pwp_reg <|
 And.intro @pwp_regD <|
 And.intro @pwp_seq <|
 And.intro @pwp_cond <|
 And.intro @pwp_block <|
 And.intro @pwp_exit <|
 @pwp_ret) :=
 And.intro @evalOps_gT <|
 And.intro @evalOps_gF <|
 And.intro @evalOps_gS <|
 And.intro @evalD_gT <|
 And.intro @evalD_gF <|
 And.intro @evalD_gS <|
 And.intro @pwp_skip <|
 And.intro @pwp_reg <|
 And.intro @pwp_regD <|
 And.intro @pwp_seq <|
 And.intro @pwp_cond <|
 And.intro @pwp_block <|
 And.intro @pwp_exit <|
 @pwp_ret
theorem evB:type_of% (
 And.intro @guardOps_skp <|
 And.intro @guardD_skp <|
 And.intro @St.gd.eq_1 <|
 And.intro @isSkp.eq_1 <|
 And.intro @isSkp.eq_2 <|
 And.intro @isSkp.eq_3 <|
 And.intro @isSkp.eq_4 <|
 And.intro @skp.eq_1 <|
 And.intro @condS_some <|
 And.intro @exS_nil <|
 And.intro @exS_c <|
 And.intro @exS_c_ret <|
 And.intro @exS_c_exit <|
 And.intro @exS_bl <|
 And.intro @exS_bl_ret <|
 And.intro @exS_bl_exit <|
 And.intro @exS_lp_ret <|
 And.intro @exS_lp_exit <|
 And.intro @evalOps_nil <|
 And.intro @evalOps_op <|
 And.intro @opS_false <|
 And.intro @opS_true <|
 And.intro @evalOps_guard <|
 And.intro @contOps_some <|
 And.intro @guardOps_some <|
 And.intro @evalD_nil <|
 And.intro @drawn_and <|
 And.intro @List.reverse_cons.{0} <|
 And.intro @List.reverse_nil.{0} <|
 And.intro @evalD_plain <|
 And.intro @evalD_guard <|
 And.intro @goD_op <|
 And.intro @opD_false <|
 And.intro @opD_true <|
 And.intro @contD_some <|
 And.intro @guardD_some <|
 And.intro @callR_none <|
 And.intro @callR_some <|
 And.intro @callR_ptr <|
 And.intro @callRD_ptr <|
 And.intro @callRD_none <|
 And.intro @callRD_some <|
 And.intro @opS_callv <|
 And.intro @opS_ldg <|
 And.intro @opD_callv <|
 And.intro @opD_ldg <|
 And.intro @callV_some <|
 And.intro @ldgV_some <|
 And.intro @callVD_some <|
 And.intro @ldgVD_some <|
 And.intro @fnIsSelf <|
 And.intro @gAtPtr <|
 And.intro @opS_hal <|
 And.intro @opS_next <|
 And.intro @opS_callh <|
 And.intro @opS_callc <|
 And.intro @opS_callp <|
 And.intro @opD_hal <|
 And.intro @opD_callh <|
 And.intro @opD_callc <|
 And.intro @callCS_some <|
 And.intro @callCD_some <|
 And.intro @fnOf_self <|
 And.intro @hpsW_nil <|
 @hpsW_cons) :=
 And.intro @guardOps_skp <|
 And.intro @guardD_skp <|
 And.intro @St.gd.eq_1 <|
 And.intro @isSkp.eq_1 <|
 And.intro @isSkp.eq_2 <|
 And.intro @isSkp.eq_3 <|
 And.intro @isSkp.eq_4 <|
 And.intro @skp.eq_1 <|
 And.intro @condS_some <|
 And.intro @exS_nil <|
 And.intro @exS_c <|
 And.intro @exS_c_ret <|
 And.intro @exS_c_exit <|
 And.intro @exS_bl <|
 And.intro @exS_bl_ret <|
 And.intro @exS_bl_exit <|
 And.intro @exS_lp_ret <|
 And.intro @exS_lp_exit <|
 And.intro @evalOps_nil <|
 And.intro @evalOps_op <|
 And.intro @opS_false <|
 And.intro @opS_true <|
 And.intro @evalOps_guard <|
 And.intro @contOps_some <|
 And.intro @guardOps_some <|
 And.intro @evalD_nil <|
 And.intro @drawn_and <|
 And.intro @List.reverse_cons.{0} <|
 And.intro @List.reverse_nil.{0} <|
 And.intro @evalD_plain <|
 And.intro @evalD_guard <|
 And.intro @goD_op <|
 And.intro @opD_false <|
 And.intro @opD_true <|
 And.intro @contD_some <|
 And.intro @guardD_some <|
 And.intro @callR_none <|
 And.intro @callR_some <|
 And.intro @callR_ptr <|
 And.intro @callRD_ptr <|
 And.intro @callRD_none <|
 And.intro @callRD_some <|
 And.intro @opS_callv <|
 And.intro @opS_ldg <|
 And.intro @opD_callv <|
 And.intro @opD_ldg <|
 And.intro @callV_some <|
 And.intro @ldgV_some <|
 And.intro @callVD_some <|
 And.intro @ldgVD_some <|
 And.intro @fnIsSelf <|
 And.intro @gAtPtr <|
 And.intro @opS_hal <|
 And.intro @opS_next <|
 And.intro @opS_callh <|
 And.intro @opS_callc <|
 And.intro @opS_callp <|
 And.intro @opD_hal <|
 And.intro @opD_callh <|
 And.intro @opD_callc <|
 And.intro @callCS_some <|
 And.intro @callCD_some <|
 And.intro @fnOf_self <|
 And.intro @hpsW_nil <|
 @hpsW_cons
theorem stB:type_of% (
 And.intro @PO.isCall.eq_1 <|
 And.intro @PO.isCall.eq_2 <|
 And.intro @PO.isCall.eq_3 <|
 And.intro @PO.isCall.eq_4 <|
 And.intro @PO.isCall.eq_5 <|
 And.intro @PO.isCall.eq_6 <|
 And.intro @PO.isCall.eq_7 <|
 And.intro @PO.isCall.eq_8 <|
 And.intro @PO.isCall.eq_9 <|
 And.intro @PO.isCall.eq_10 <|
 And.intro @PO.isCall.eq_11 <|
 And.intro @PO.isCall.eq_12 <|
 And.intro @PO.isCall.eq_13 <|
 And.intro @PO.isCall.eq_14 <|
 And.intro @PO.isCall.eq_15 <|
 And.intro @PO.isCall.eq_16 <|
 And.intro @PO.isCall.eq_17 <|
 And.intro @PO.isCall.eq_18 <|
 And.intro @PO.isCall.eq_19 <|
 And.intro @PO.isCall.eq_20 <|
 And.intro @PO.isCall.eq_21 <|
 And.intro @PO.isCall.eq_22 <|
 And.intro @PO.isCall.eq_23 <|
 And.intro @PO.isCall.eq_24 <|
 And.intro @PO.isCall.eq_25 <|
 And.intro @PO.isCall.eq_26 <|
 And.intro @PO.isCall.eq_27 <|
 And.intro @PO.isCall.eq_28 <|
 And.intro @PO.isCall.eq_29 <|
 And.intro @PO.isCall.eq_30 <|
 And.intro @PO.isCall.eq_31 <|
 And.intro @PO.isCall.eq_32 <|
 And.intro @PO.isCall.eq_33 <|
 And.intro @PO.isCall.eq_34 <|
 And.intro @PO.isCall.eq_35 <|
 And.intro @PO.isCall.eq_36 <|
 And.intro @PO.isCall.eq_37 <|
 And.intro @PO.isCall.eq_38 <|
 And.intro @PO.isCall.eq_39 <|
 And.intro @PO.isCall.eq_40 <|
 And.intro @PO.isCall.eq_41 <|
 And.intro @PO.isCall.eq_42 <|
 And.intro @PO.isCall.eq_43 <|
 And.intro @PO.isCall.eq_44 <|
 And.intro @PO.isCall.eq_45 <|
 And.intro @PO.isCall.eq_46 <|
 And.intro @PO.isCall.eq_47 <|
 And.intro @PO.isCall.eq_48 <|
 And.intro @PO.isCall.eq_49 <|
 And.intro @PO.isCall.eq_50 <|
 And.intro @PO.isCall.eq_51 <|
 And.intro @PO.isCall.eq_52 <|
 And.intro @PO.isCall.eq_53 <|
 And.intro @Option.getD_some.{0} <|
 And.intro @Option.getD_none.{0} <|
 And.intro @ap_sl <|
 And.intro @ap_sl0 <|
 And.intro @ap_gen <|
 And.intro @ap_genw <|
 And.intro @ap_genr <|
 And.intro @ap_genn <|
 And.intro @ap_ob <|
 And.intro @ap_obw <|
 And.intro @ap_obr <|
 And.intro @ap_obn <|
 And.intro @wrF_cells <|
 And.intro @rowF_row <|
 And.intro @init_sl <|
 And.intro @initSl.eq_1 <|
 And.intro @initSl.eq_2 <|
 And.intro @initSl.eq_3 <|
 And.intro @init_gen <|
 And.intro @init_ob <|
 And.intro @ev_t <|
 And.intro @ev_int <|
 And.intro @ev_bool <|
 And.intro @ev_string <|
 And.intro @ev_nil <|
 And.intro @ev_agg <|
 And.intro @ev_ptr <|
 And.intro @args_nil <|
 And.intro @args_cons <|
 And.intro @up_at <|
 And.intro @PO.fn.eq_1 <|
 And.intro @PO.fn.eq_2 <|
 And.intro @PO.fn.eq_3 <|
 And.intro @PO.fn.eq_4 <|
 And.intro @PO.fn.eq_5 <|
 And.intro @PO.fn.eq_6 <|
 And.intro @PO.fn.eq_7 <|
 And.intro @PO.fn.eq_8 <|
 And.intro @PO.fn.eq_9 <|
 And.intro @PO.fn.eq_10 <|
 And.intro @PO.fn.eq_11 <|
 And.intro @PO.fn.eq_12 <|
 And.intro @PO.fn.eq_13 <|
 And.intro @PO.fn.eq_14 <|
 And.intro @PO.fn.eq_15 <|
 And.intro @PO.fn.eq_16 <|
 And.intro @PO.fn.eq_17 <|
 And.intro @PO.fn.eq_18 <|
 And.intro @PO.fn.eq_23 <|
 And.intro @PO.fn.eq_24 <|
 And.intro @PO.fn.eq_25 <|
 And.intro @PO.fn.eq_26 <|
 And.intro @PO.fn.eq_27 <|
 And.intro @PO.fn.eq_28 <|
 And.intro @PO.fn.eq_29 <|
 And.intro @PO.fn.eq_30 <|
 And.intro @PO.fn.eq_31 <|
 And.intro @PO.fn.eq_32 <|
 And.intro @PO.fn.eq_33 <|
 And.intro @PO.fn.eq_34 <|
 And.intro @PO.fn.eq_35 <|
 And.intro @PO.fn.eq_36 <|
 And.intro @PO.fn.eq_37 <|
 And.intro @PO.fn.eq_38 <|
 And.intro @PO.fn.eq_39 <|
 And.intro @PO.fn.eq_40 <|
 And.intro @PO.fn.eq_41 <|
 And.intro @PO.fn.eq_42 <|
 And.intro @PO.fn.eq_43 <|
 And.intro @PO.fn.eq_44 <|
 And.intro @PO.fn.eq_45 <|
 And.intro @PO.fn.eq_46 <|
 And.intro @PO.fn.eq_47 <|
 And.intro @PO.fn.eq_48 <|
 And.intro @PO.fn.eq_49 <|
 And.intro @PO.fn.eq_50 <|
 And.intro @PO.fn.eq_51 <|
 And.intro @PO.fn.eq_52 <|
 And.intro @PO.fn.eq_53 <|
 And.intro @PO.fn.eq_54 <|
 And.intro @PO.fn.eq_55 <|
 And.intro @PO.fn.eq_56 <|
 And.intro @fn_not <|
 And.intro @fn_neg <|
 And.intro @fn_xor <|
 And.intro @unN.eq_1 <|
 And.intro @unG.eq_1 <|
 And.intro @unX.eq_1 <|
 And.intro @PO.rd.eq_1 <|
 And.intro @PO.rd.eq_2 <|
 And.intro @PO.rd.eq_3 <|
 And.intro @PO.rd.eq_4 <|
 And.intro @PO.rd.eq_5 <|
 And.intro @PO.rd.eq_6 <|
 And.intro @PO.rd.eq_7 <|
 And.intro @PO.rd.eq_8 <|
 And.intro @PO.rd.eq_9 <|
 And.intro @PO.rd.eq_10 <|
 And.intro @PO.rd.eq_11 <|
 And.intro @PO.rd.eq_12 <|
 And.intro @PO.rd.eq_13 <|
 And.intro @PO.rd.eq_14 <|
 And.intro @PO.rd.eq_15 <|
 And.intro @PO.rd.eq_16 <|
 And.intro @PO.rd.eq_17 <|
 And.intro @PO.rd.eq_18 <|
 And.intro @PO.rd.eq_19 <|
 And.intro @PO.rd.eq_20 <|
 And.intro @PO.rd.eq_21 <|
 And.intro @PO.rd.eq_22 <|
 And.intro @PO.rd.eq_23 <|
 And.intro @PO.rd.eq_24 <|
 And.intro @PO.rd.eq_25 <|
 And.intro @PO.rd.eq_26 <|
 And.intro @PO.rd.eq_27 <|
 And.intro @PO.rd.eq_28 <|
 And.intro @PO.rd.eq_29 <|
 And.intro @PO.rd.eq_30 <|
 And.intro @PO.rd.eq_31 <|
 And.intro @Cg.wrs.eq_1 <|
 And.intro @Cg.wrs.eq_2 <|
 And.intro @Cg.wrs.eq_3 <|
 And.intro @Cg.wrs.eq_4 <|
 And.intro @Cg.wrs.eq_5 <|
 And.intro @Cg.wrs.eq_6 <|
 And.intro @Cg.wrs.eq_7 <|
 And.intro @St.cl.eq_1 <|
 And.intro @St.val.eq_1 <|
 And.intro @St.int.eq_1 <|
 And.intro @St.boo.eq_1 <|
 And.intro @St.cs.eq_1 <|
 And.intro @St.parts.eq_1 <|
 And.intro @St.parts.eq_2 <|
 And.intro @scAv.eq_1 <|
 And.intro @Cl.rows.eq_1 <|
 And.intro @Cl.rows.eq_2 <|
 And.intro @Cl.rows.eq_3 <|
 And.intro @Cl.rows.eq_4 <|
 And.intro @Cl.rows.eq_5 <|
 And.intro @Cl.dt.eq_1 <|
 And.intro @Cl.dt.eq_2 <|
 And.intro @Cl.dt.eq_3 <|
 And.intro @Cl.dt.eq_4 <|
 And.intro @Cl.dt.eq_5 <|
 And.intro @Bv.pa.eq_1 <|
 And.intro @Bv.pa.eq_2 <|
 And.intro @Av.pa.eq_1 <|
 And.intro @Av.pa.eq_2 <|
 And.intro @Pa.bv.eq_1 <|
 And.intro @Pa.bv.eq_2 <|
 And.intro @resAv.eq_1 <|
 And.intro @resAv.eq_2 <|
 And.intro @resAv.eq_3 <|
 And.intro @allSome.eq_1 <|
 And.intro @allSome.eq_2 <|
 And.intro @allSome.eq_3 <|
 And.intro @mkAv.eq_1 <|
 And.intro @mkAv.eq_2 <|
 And.intro @wrAt.eq_1 <|
 And.intro @wrAt.eq_2 <|
 And.intro @wrAt.eq_3 <|
 And.intro @wrAt.eq_4 <|
 And.intro @splice.eq_1 <|
 And.intro @fillAll.eq_1 <|
 And.intro @fillAll.eq_2 <|
 And.intro @chunks.eq_1 <|
 And.intro @chunks.eq_2 <|
 And.intro @scBin.eq_1 <|
 And.intro @scBin.eq_2 <|
 And.intro @scBin.eq_3 <|
 And.intro @scBin.eq_4 <|
 And.intro @scBin.eq_5 <|
 And.intro @scBin.eq_6 <|
 And.intro @scBin.eq_7 <|
 And.intro @scBin.eq_8 <|
 And.intro @scBin.eq_9 <|
 And.intro @scBin.eq_10 <|
 And.intro @scBin.eq_11 <|
 And.intro @scBin.eq_12 <|
 And.intro @scBin.eq_13 <|
 And.intro @scBin.eq_14 <|
 And.intro @scBin.eq_15 <|
 And.intro @scBin.eq_16 <|
 And.intro @scBin.eq_17 <|
 And.intro @scBin.eq_18 <|
 And.intro @scBin.eq_19 <|
 And.intro @scBin.eq_20 <|
 And.intro @scBin.eq_21 <|
 And.intro @scBin.eq_22 <|
 And.intro @eqCl.eq_1 <|
 And.intro @eqCl.eq_2 <|
 And.intro @eqCl.eq_3 <|
 And.intro @eqCls.eq_1 <|
 And.intro @eqCls.eq_2 <|
 And.intro @eqCls.eq_3 <|
 And.intro @scMM.eq_1 <|
 And.intro @scMM.eq_2 <|
 And.intro @Option.map_some.{0,0} <|
 And.intro @Option.map_none.{0,0} <|
 And.intro @Option.bind_some.{0,0} <|
 And.intro @List.map_cons.{0,0} <|
 And.intro @List.map_nil.{0,0} <|
 And.intro @List.length_cons.{0} <|
 And.intro @List.length_nil.{0} <|
 And.intro @List.getElem?_cons_succ.{0} <|
 And.intro @List.getElem?_cons_zero.{0} <|
 And.intro @List.take_succ_cons.{0} <|
 And.intro @List.take_zero.{0} <|
 And.intro @List.drop_succ_cons.{0} <|
 And.intro @List.drop_zero.{0} <|
 And.intro @List.cons_append.{0} <|
 And.intro @List.nil_append.{0} <|
 And.intro @List.append_nil.{0} <|
 And.intro @if_true.{1} <|
 And.intro @if_false.{1} <|
 And.intro @ite_true.{1} <|
 And.intro @ite_false.{1} <|
 And.intro @ne_eq.{1} <|
 And.intro @not_true <|
 And.intro @not_false_eq_true <|
 And.intro @Nat.add_zero <|
 And.intro @Nat.zero_add <|
 And.intro @and_true <|
 And.intro @true_and <|
 And.intro @and_self <|
 And.intro @forall_const.{1} <|
 And.intro @forall_const.{0} <|
 And.intro @Bool.not_true <|
 And.intro @Bool.not_false <|
 And.intro @Nat.succ_eq_add_one <|
 And.intro @imp_false <|
 And.intro @false_imp_iff <|
 And.intro @forall_false <|
 And.intro @true_imp_iff <|
 And.intro @Bool.and_true <|
 And.intro @Bool.and_false <|
 And.intro @Bool.true_and <|
 And.intro @Bool.false_and <|
 And.intro @implies_true.{1} <|
 And.intro @implies_true.{0} <|
 And.intro @over_sl <|
 And.intro @over_gen <|
 And.intro @over_ob <|
 And.intro @List.contains_cons.{0} <|
 And.intro @List.contains_nil.{0} <|
 And.intro @Bool.or_false <|
 And.intro @Bool.or_true <|
 And.intro @Bool.false_or <|
 And.intro @Bool.true_or <|
 And.intro @cond_true.{1} <|
 And.intro @cond_false.{1} <|
 And.intro @Bool.cond_true.{0} <|
 And.intro @Bool.cond_false.{0} <|
 And.intro @Int.toNat_natCast <|
 And.intro @Int.natCast_nonneg <|
 And.intro @List.getElem?_map.{0,0} <|
 And.intro @List.length_map.{0,0} <|
 And.intro @List.mem_cons.{0} <|
 And.intro @List.not_mem_nil.{0} <|
 And.intro @forall_eq.{1} <|
 And.intro @forall_eq_or_imp.{1} <|
 And.intro @false_or <|
 And.intro @or_true <|
 And.intro @true_or <|
 And.intro @or_false <|
 And.intro @St.res.eq_1 <|
 And.intro @St.res1.eq_1 <|
 And.intro @St.res1.eq_2 <|
 And.intro @decide_eq_true_eq <|
 And.intro @decide_eq_false_iff_not <|
 And.intro @Cl.abOf.eq_1 <|
 And.intro @Cl.abOf.eq_2 <|
 And.intro @Cl.abOf.eq_3 <|
 And.intro @Cl.abOf.eq_4 <|
 And.intro @Cl.abOf.eq_5 <|
 And.intro @Cl.abOf.eq_6 <|
 And.intro @Cl.abOf.eq_7 <|
 And.intro @Cl.abOf.eq_8 <|
 And.intro @Cl.abOf.eq_9 <|
 And.intro @Bv.abOf.eq_1 <|
 And.intro @Bv.abOf.eq_2 <|
 And.intro @Av.abOf.eq_1 <|
 And.intro @Av.abOf.eq_2 <|
 And.intro @Av.abOf.eq_3 <|
 And.intro @recv_nil <|
 And.intro @recv_cons <|
 And.intro @abAt_ob <|
 And.intro @prcv_nil <|
 And.intro @prcv_cons <|
 And.intro @cellsAt_ob <|
 And.intro @Cl.ptrOf.eq_1 <|
 And.intro @Cl.ptrOf.eq_2 <|
 And.intro @Cl.ptrOf.eq_3 <|
 And.intro @Cl.ptrOf.eq_4 <|
 And.intro @Cl.ptrOf.eq_5 <|
 And.intro @Cl.ptrOf.eq_6 <|
 And.intro @Cl.ptrOf.eq_7 <|
 And.intro @Cl.ptrOf.eq_8 <|
 And.intro @Cl.ptrOf.eq_9 <|
 And.intro @Bv.ptrOf.eq_1 <|
 And.intro @Bv.ptrOf.eq_2 <|
 And.intro @Av.ptrOf.eq_1 <|
 And.intro @Av.ptrOf.eq_2 <|
 And.intro @Av.ptrOf.eq_3 <|
 And.intro @initM_sl0 <|
 And.intro @initM_slS <|
 And.intro @initM_gen <|
 And.intro @initM_ob0 <|
 And.intro @initM_obS <|
 And.intro @noSv.eq_1 <|
 And.intro @noSv.eq_2 <|
 And.intro @List.all_cons.{0} <|
 And.intro @List.all_nil.{0} <|
 And.intro @ap_genb <|
 And.intro @ap_obb <|
 And.intro @newAv.eq_1 <|
 And.intro @newAv.eq_2 <|
 And.intro @List.tail_cons.{0} <|
 And.intro @rowBytes.eq_1 <|
 And.intro @rowBytes.eq_2 <|
 And.intro @rowBytes.eq_3 <|
 And.intro @ap_nc <|
 And.intro @ap_genh <|
 And.intro @ap_gena <|
 And.intro @ap_obh <|
 And.intro @ap_oba <|
 And.intro @hb_no <|
 And.intro @hb_new <|
 And.intro @hb_wr <|
 And.intro @hb_row <|
 And.intro @hb_ab <|
 And.intro @hb_hw1 <|
 And.intro @hb_hw2 <|
 And.intro @hb_all <|
 And.intro @initH_sl <|
 And.intro @initSlH.eq_1 <|
 And.intro @initSlH.eq_2 <|
 And.intro @initSlH.eq_3 <|
 And.intro @initH_gen <|
 And.intro @initH_ob <|
 And.intro @initH_nc <|
 And.intro @initH_hb <|
 And.intro @overH_sl <|
 And.intro @overH_gen <|
 And.intro @overH_ob <|
 And.intro @overH_nc <|
 And.intro @overH_hb <|
 And.intro @St.key.eq_1 <|
 And.intro @scs.eq_1 <|
 And.intro @scs.eq_2 <|
 And.intro @scs.eq_3 <|
 And.intro @hw_evq <|
 And.intro @hws_nil <|
 And.intro @hws_cons <|
 And.intro @Bv.hw.eq_1 <|
 And.intro @Bv.hw.eq_2 <|
 And.intro @Av.hw.eq_1 <|
 And.intro @Av.hw.eq_2 <|
 And.intro @Cl.hc.eq_1 <|
 And.intro @Cl.hc.eq_2 <|
 And.intro @Cl.hc.eq_3 <|
 And.intro @Cl.hc.eq_4 <|
 And.intro @Cl.hc.eq_5 <|
 And.intro @Hc.cl.eq_1 <|
 And.intro @Hc.cl.eq_2 <|
 And.intro @Hw.bv.eq_1 <|
 And.intro @Hw.bv.eq_2 <|
 And.intro @hcs.eq_1 <|
 And.intro @valBv.eq_1 <|
 And.intro @valBv.eq_2 <|
 And.intro @resH.eq_1 <|
 And.intro @resH.eq_2 <|
 And.intro @resH.eq_3 <|
 And.intro @St.hps.eq_1 <|
 And.intro @St.hps.eq_2 <|
 And.intro @rdH.eq_1 <|
 And.intro @hwrAt.eq_1 <|
 And.intro @hwrAt.eq_2 <|
 And.intro @hwrAt.eq_3 <|
 And.intro @hwrAt.eq_4 <|
 And.intro @bvB.eq_1 <|
 And.intro @St.resHs.eq_1 <|
 And.intro @St.resH1.eq_1 <|
 @St.resH1.eq_2) :=
 And.intro @PO.isCall.eq_1 <|
 And.intro @PO.isCall.eq_2 <|
 And.intro @PO.isCall.eq_3 <|
 And.intro @PO.isCall.eq_4 <|
 And.intro @PO.isCall.eq_5 <|
 And.intro @PO.isCall.eq_6 <|
 And.intro @PO.isCall.eq_7 <|
 And.intro @PO.isCall.eq_8 <|
 And.intro @PO.isCall.eq_9 <|
 And.intro @PO.isCall.eq_10 <|
 And.intro @PO.isCall.eq_11 <|
 And.intro @PO.isCall.eq_12 <|
 And.intro @PO.isCall.eq_13 <|
 And.intro @PO.isCall.eq_14 <|
 And.intro @PO.isCall.eq_15 <|
 And.intro @PO.isCall.eq_16 <|
 And.intro @PO.isCall.eq_17 <|
 And.intro @PO.isCall.eq_18 <|
 And.intro @PO.isCall.eq_19 <|
 And.intro @PO.isCall.eq_20 <|
 And.intro @PO.isCall.eq_21 <|
 And.intro @PO.isCall.eq_22 <|
 And.intro @PO.isCall.eq_23 <|
 And.intro @PO.isCall.eq_24 <|
 And.intro @PO.isCall.eq_25 <|
 And.intro @PO.isCall.eq_26 <|
 And.intro @PO.isCall.eq_27 <|
 And.intro @PO.isCall.eq_28 <|
 And.intro @PO.isCall.eq_29 <|
 And.intro @PO.isCall.eq_30 <|
 And.intro @PO.isCall.eq_31 <|
 And.intro @PO.isCall.eq_32 <|
 And.intro @PO.isCall.eq_33 <|
 And.intro @PO.isCall.eq_34 <|
 And.intro @PO.isCall.eq_35 <|
 And.intro @PO.isCall.eq_36 <|
 And.intro @PO.isCall.eq_37 <|
 And.intro @PO.isCall.eq_38 <|
 And.intro @PO.isCall.eq_39 <|
 And.intro @PO.isCall.eq_40 <|
 And.intro @PO.isCall.eq_41 <|
 And.intro @PO.isCall.eq_42 <|
 And.intro @PO.isCall.eq_43 <|
 And.intro @PO.isCall.eq_44 <|
 And.intro @PO.isCall.eq_45 <|
 And.intro @PO.isCall.eq_46 <|
 And.intro @PO.isCall.eq_47 <|
 And.intro @PO.isCall.eq_48 <|
 And.intro @PO.isCall.eq_49 <|
 And.intro @PO.isCall.eq_50 <|
 And.intro @PO.isCall.eq_51 <|
 And.intro @PO.isCall.eq_52 <|
 And.intro @PO.isCall.eq_53 <|
 And.intro @Option.getD_some.{0} <|
 And.intro @Option.getD_none.{0} <|
 And.intro @ap_sl <|
 And.intro @ap_sl0 <|
 And.intro @ap_gen <|
 And.intro @ap_genw <|
 And.intro @ap_genr <|
 And.intro @ap_genn <|
 And.intro @ap_ob <|
 And.intro @ap_obw <|
 And.intro @ap_obr <|
 And.intro @ap_obn <|
 And.intro @wrF_cells <|
 And.intro @rowF_row <|
 And.intro @init_sl <|
 And.intro @initSl.eq_1 <|
 And.intro @initSl.eq_2 <|
 And.intro @initSl.eq_3 <|
 And.intro @init_gen <|
 And.intro @init_ob <|
 And.intro @ev_t <|
 And.intro @ev_int <|
 And.intro @ev_bool <|
 And.intro @ev_string <|
 And.intro @ev_nil <|
 And.intro @ev_agg <|
 And.intro @ev_ptr <|
 And.intro @args_nil <|
 And.intro @args_cons <|
 And.intro @up_at <|
 And.intro @PO.fn.eq_1 <|
 And.intro @PO.fn.eq_2 <|
 And.intro @PO.fn.eq_3 <|
 And.intro @PO.fn.eq_4 <|
 And.intro @PO.fn.eq_5 <|
 And.intro @PO.fn.eq_6 <|
 And.intro @PO.fn.eq_7 <|
 And.intro @PO.fn.eq_8 <|
 And.intro @PO.fn.eq_9 <|
 And.intro @PO.fn.eq_10 <|
 And.intro @PO.fn.eq_11 <|
 And.intro @PO.fn.eq_12 <|
 And.intro @PO.fn.eq_13 <|
 And.intro @PO.fn.eq_14 <|
 And.intro @PO.fn.eq_15 <|
 And.intro @PO.fn.eq_16 <|
 And.intro @PO.fn.eq_17 <|
 And.intro @PO.fn.eq_18 <|
 And.intro @PO.fn.eq_23 <|
 And.intro @PO.fn.eq_24 <|
 And.intro @PO.fn.eq_25 <|
 And.intro @PO.fn.eq_26 <|
 And.intro @PO.fn.eq_27 <|
 And.intro @PO.fn.eq_28 <|
 And.intro @PO.fn.eq_29 <|
 And.intro @PO.fn.eq_30 <|
 And.intro @PO.fn.eq_31 <|
 And.intro @PO.fn.eq_32 <|
 And.intro @PO.fn.eq_33 <|
 And.intro @PO.fn.eq_34 <|
 And.intro @PO.fn.eq_35 <|
 And.intro @PO.fn.eq_36 <|
 And.intro @PO.fn.eq_37 <|
 And.intro @PO.fn.eq_38 <|
 And.intro @PO.fn.eq_39 <|
 And.intro @PO.fn.eq_40 <|
 And.intro @PO.fn.eq_41 <|
 And.intro @PO.fn.eq_42 <|
 And.intro @PO.fn.eq_43 <|
 And.intro @PO.fn.eq_44 <|
 And.intro @PO.fn.eq_45 <|
 And.intro @PO.fn.eq_46 <|
 And.intro @PO.fn.eq_47 <|
 And.intro @PO.fn.eq_48 <|
 And.intro @PO.fn.eq_49 <|
 And.intro @PO.fn.eq_50 <|
 And.intro @PO.fn.eq_51 <|
 And.intro @PO.fn.eq_52 <|
 And.intro @PO.fn.eq_53 <|
 And.intro @PO.fn.eq_54 <|
 And.intro @PO.fn.eq_55 <|
 And.intro @PO.fn.eq_56 <|
 And.intro @fn_not <|
 And.intro @fn_neg <|
 And.intro @fn_xor <|
 And.intro @unN.eq_1 <|
 And.intro @unG.eq_1 <|
 And.intro @unX.eq_1 <|
 And.intro @PO.rd.eq_1 <|
 And.intro @PO.rd.eq_2 <|
 And.intro @PO.rd.eq_3 <|
 And.intro @PO.rd.eq_4 <|
 And.intro @PO.rd.eq_5 <|
 And.intro @PO.rd.eq_6 <|
 And.intro @PO.rd.eq_7 <|
 And.intro @PO.rd.eq_8 <|
 And.intro @PO.rd.eq_9 <|
 And.intro @PO.rd.eq_10 <|
 And.intro @PO.rd.eq_11 <|
 And.intro @PO.rd.eq_12 <|
 And.intro @PO.rd.eq_13 <|
 And.intro @PO.rd.eq_14 <|
 And.intro @PO.rd.eq_15 <|
 And.intro @PO.rd.eq_16 <|
 And.intro @PO.rd.eq_17 <|
 And.intro @PO.rd.eq_18 <|
 And.intro @PO.rd.eq_19 <|
 And.intro @PO.rd.eq_20 <|
 And.intro @PO.rd.eq_21 <|
 And.intro @PO.rd.eq_22 <|
 And.intro @PO.rd.eq_23 <|
 And.intro @PO.rd.eq_24 <|
 And.intro @PO.rd.eq_25 <|
 And.intro @PO.rd.eq_26 <|
 And.intro @PO.rd.eq_27 <|
 And.intro @PO.rd.eq_28 <|
 And.intro @PO.rd.eq_29 <|
 And.intro @PO.rd.eq_30 <|
 And.intro @PO.rd.eq_31 <|
 And.intro @Cg.wrs.eq_1 <|
 And.intro @Cg.wrs.eq_2 <|
 And.intro @Cg.wrs.eq_3 <|
 And.intro @Cg.wrs.eq_4 <|
 And.intro @Cg.wrs.eq_5 <|
 And.intro @Cg.wrs.eq_6 <|
 And.intro @Cg.wrs.eq_7 <|
 And.intro @St.cl.eq_1 <|
 And.intro @St.val.eq_1 <|
 And.intro @St.int.eq_1 <|
 And.intro @St.boo.eq_1 <|
 And.intro @St.cs.eq_1 <|
 And.intro @St.parts.eq_1 <|
 And.intro @St.parts.eq_2 <|
 And.intro @scAv.eq_1 <|
 And.intro @Cl.rows.eq_1 <|
 And.intro @Cl.rows.eq_2 <|
 And.intro @Cl.rows.eq_3 <|
 And.intro @Cl.rows.eq_4 <|
 And.intro @Cl.rows.eq_5 <|
 And.intro @Cl.dt.eq_1 <|
 And.intro @Cl.dt.eq_2 <|
 And.intro @Cl.dt.eq_3 <|
 And.intro @Cl.dt.eq_4 <|
 And.intro @Cl.dt.eq_5 <|
 And.intro @Bv.pa.eq_1 <|
 And.intro @Bv.pa.eq_2 <|
 And.intro @Av.pa.eq_1 <|
 And.intro @Av.pa.eq_2 <|
 And.intro @Pa.bv.eq_1 <|
 And.intro @Pa.bv.eq_2 <|
 And.intro @resAv.eq_1 <|
 And.intro @resAv.eq_2 <|
 And.intro @resAv.eq_3 <|
 And.intro @allSome.eq_1 <|
 And.intro @allSome.eq_2 <|
 And.intro @allSome.eq_3 <|
 And.intro @mkAv.eq_1 <|
 And.intro @mkAv.eq_2 <|
 And.intro @wrAt.eq_1 <|
 And.intro @wrAt.eq_2 <|
 And.intro @wrAt.eq_3 <|
 And.intro @wrAt.eq_4 <|
 And.intro @splice.eq_1 <|
 And.intro @fillAll.eq_1 <|
 And.intro @fillAll.eq_2 <|
 And.intro @chunks.eq_1 <|
 And.intro @chunks.eq_2 <|
 And.intro @scBin.eq_1 <|
 And.intro @scBin.eq_2 <|
 And.intro @scBin.eq_3 <|
 And.intro @scBin.eq_4 <|
 And.intro @scBin.eq_5 <|
 And.intro @scBin.eq_6 <|
 And.intro @scBin.eq_7 <|
 And.intro @scBin.eq_8 <|
 And.intro @scBin.eq_9 <|
 And.intro @scBin.eq_10 <|
 And.intro @scBin.eq_11 <|
 And.intro @scBin.eq_12 <|
 And.intro @scBin.eq_13 <|
 And.intro @scBin.eq_14 <|
 And.intro @scBin.eq_15 <|
 And.intro @scBin.eq_16 <|
 And.intro @scBin.eq_17 <|
 And.intro @scBin.eq_18 <|
 And.intro @scBin.eq_19 <|
 And.intro @scBin.eq_20 <|
 And.intro @scBin.eq_21 <|
 And.intro @scBin.eq_22 <|
 And.intro @eqCl.eq_1 <|
 And.intro @eqCl.eq_2 <|
 And.intro @eqCl.eq_3 <|
 And.intro @eqCls.eq_1 <|
 And.intro @eqCls.eq_2 <|
 And.intro @eqCls.eq_3 <|
 And.intro @scMM.eq_1 <|
 And.intro @scMM.eq_2 <|
 And.intro @Option.map_some.{0,0} <|
 And.intro @Option.map_none.{0,0} <|
 And.intro @Option.bind_some.{0,0} <|
 And.intro @List.map_cons.{0,0} <|
 And.intro @List.map_nil.{0,0} <|
 And.intro @List.length_cons.{0} <|
 And.intro @List.length_nil.{0} <|
 And.intro @List.getElem?_cons_succ.{0} <|
 And.intro @List.getElem?_cons_zero.{0} <|
 And.intro @List.take_succ_cons.{0} <|
 And.intro @List.take_zero.{0} <|
 And.intro @List.drop_succ_cons.{0} <|
 And.intro @List.drop_zero.{0} <|
 And.intro @List.cons_append.{0} <|
 And.intro @List.nil_append.{0} <|
 And.intro @List.append_nil.{0} <|
 And.intro @if_true.{1} <|
 And.intro @if_false.{1} <|
 And.intro @ite_true.{1} <|
 And.intro @ite_false.{1} <|
 And.intro @ne_eq.{1} <|
 And.intro @not_true <|
 And.intro @not_false_eq_true <|
 And.intro @Nat.add_zero <|
 And.intro @Nat.zero_add <|
 And.intro @and_true <|
 And.intro @true_and <|
 And.intro @and_self <|
 And.intro @forall_const.{1} <|
 And.intro @forall_const.{0} <|
 And.intro @Bool.not_true <|
 And.intro @Bool.not_false <|
 And.intro @Nat.succ_eq_add_one <|
 And.intro @imp_false <|
 And.intro @false_imp_iff <|
 And.intro @forall_false <|
 And.intro @true_imp_iff <|
 And.intro @Bool.and_true <|
 And.intro @Bool.and_false <|
 And.intro @Bool.true_and <|
 And.intro @Bool.false_and <|
 And.intro @implies_true.{1} <|
 And.intro @implies_true.{0} <|
 And.intro @over_sl <|
 And.intro @over_gen <|
 And.intro @over_ob <|
 And.intro @List.contains_cons.{0} <|
 And.intro @List.contains_nil.{0} <|
 And.intro @Bool.or_false <|
 And.intro @Bool.or_true <|
 And.intro @Bool.false_or <|
 And.intro @Bool.true_or <|
 And.intro @cond_true.{1} <|
 And.intro @cond_false.{1} <|
 And.intro @Bool.cond_true.{0} <|
 And.intro @Bool.cond_false.{0} <|
 And.intro @Int.toNat_natCast <|
 And.intro @Int.natCast_nonneg <|
 And.intro @List.getElem?_map.{0,0} <|
 And.intro @List.length_map.{0,0} <|
 And.intro @List.mem_cons.{0} <|
 And.intro @List.not_mem_nil.{0} <|
 And.intro @forall_eq.{1} <|
 And.intro @forall_eq_or_imp.{1} <|
 And.intro @false_or <|
 And.intro @or_true <|
 And.intro @true_or <|
 And.intro @or_false <|
 And.intro @St.res.eq_1 <|
 And.intro @St.res1.eq_1 <|
 And.intro @St.res1.eq_2 <|
 And.intro @decide_eq_true_eq <|
 And.intro @decide_eq_false_iff_not <|
 And.intro @Cl.abOf.eq_1 <|
 And.intro @Cl.abOf.eq_2 <|
 And.intro @Cl.abOf.eq_3 <|
 And.intro @Cl.abOf.eq_4 <|
 And.intro @Cl.abOf.eq_5 <|
 And.intro @Cl.abOf.eq_6 <|
 And.intro @Cl.abOf.eq_7 <|
 And.intro @Cl.abOf.eq_8 <|
 And.intro @Cl.abOf.eq_9 <|
 And.intro @Bv.abOf.eq_1 <|
 And.intro @Bv.abOf.eq_2 <|
 And.intro @Av.abOf.eq_1 <|
 And.intro @Av.abOf.eq_2 <|
 And.intro @Av.abOf.eq_3 <|
 And.intro @recv_nil <|
 And.intro @recv_cons <|
 And.intro @abAt_ob <|
 And.intro @prcv_nil <|
 And.intro @prcv_cons <|
 And.intro @cellsAt_ob <|
 And.intro @Cl.ptrOf.eq_1 <|
 And.intro @Cl.ptrOf.eq_2 <|
 And.intro @Cl.ptrOf.eq_3 <|
 And.intro @Cl.ptrOf.eq_4 <|
 And.intro @Cl.ptrOf.eq_5 <|
 And.intro @Cl.ptrOf.eq_6 <|
 And.intro @Cl.ptrOf.eq_7 <|
 And.intro @Cl.ptrOf.eq_8 <|
 And.intro @Cl.ptrOf.eq_9 <|
 And.intro @Bv.ptrOf.eq_1 <|
 And.intro @Bv.ptrOf.eq_2 <|
 And.intro @Av.ptrOf.eq_1 <|
 And.intro @Av.ptrOf.eq_2 <|
 And.intro @Av.ptrOf.eq_3 <|
 And.intro @initM_sl0 <|
 And.intro @initM_slS <|
 And.intro @initM_gen <|
 And.intro @initM_ob0 <|
 And.intro @initM_obS <|
 And.intro @noSv.eq_1 <|
 And.intro @noSv.eq_2 <|
 And.intro @List.all_cons.{0} <|
 And.intro @List.all_nil.{0} <|
 And.intro @ap_genb <|
 And.intro @ap_obb <|
 And.intro @newAv.eq_1 <|
 And.intro @newAv.eq_2 <|
 And.intro @List.tail_cons.{0} <|
 And.intro @rowBytes.eq_1 <|
 And.intro @rowBytes.eq_2 <|
 And.intro @rowBytes.eq_3 <|
 And.intro @ap_nc <|
 And.intro @ap_genh <|
 And.intro @ap_gena <|
 And.intro @ap_obh <|
 And.intro @ap_oba <|
 And.intro @hb_no <|
 And.intro @hb_new <|
 And.intro @hb_wr <|
 And.intro @hb_row <|
 And.intro @hb_ab <|
 And.intro @hb_hw1 <|
 And.intro @hb_hw2 <|
 And.intro @hb_all <|
 And.intro @initH_sl <|
 And.intro @initSlH.eq_1 <|
 And.intro @initSlH.eq_2 <|
 And.intro @initSlH.eq_3 <|
 And.intro @initH_gen <|
 And.intro @initH_ob <|
 And.intro @initH_nc <|
 And.intro @initH_hb <|
 And.intro @overH_sl <|
 And.intro @overH_gen <|
 And.intro @overH_ob <|
 And.intro @overH_nc <|
 And.intro @overH_hb <|
 And.intro @St.key.eq_1 <|
 And.intro @scs.eq_1 <|
 And.intro @scs.eq_2 <|
 And.intro @scs.eq_3 <|
 And.intro @hw_evq <|
 And.intro @hws_nil <|
 And.intro @hws_cons <|
 And.intro @Bv.hw.eq_1 <|
 And.intro @Bv.hw.eq_2 <|
 And.intro @Av.hw.eq_1 <|
 And.intro @Av.hw.eq_2 <|
 And.intro @Cl.hc.eq_1 <|
 And.intro @Cl.hc.eq_2 <|
 And.intro @Cl.hc.eq_3 <|
 And.intro @Cl.hc.eq_4 <|
 And.intro @Cl.hc.eq_5 <|
 And.intro @Hc.cl.eq_1 <|
 And.intro @Hc.cl.eq_2 <|
 And.intro @Hw.bv.eq_1 <|
 And.intro @Hw.bv.eq_2 <|
 And.intro @hcs.eq_1 <|
 And.intro @valBv.eq_1 <|
 And.intro @valBv.eq_2 <|
 And.intro @resH.eq_1 <|
 And.intro @resH.eq_2 <|
 And.intro @resH.eq_3 <|
 And.intro @St.hps.eq_1 <|
 And.intro @St.hps.eq_2 <|
 And.intro @rdH.eq_1 <|
 And.intro @hwrAt.eq_1 <|
 And.intro @hwrAt.eq_2 <|
 And.intro @hwrAt.eq_3 <|
 And.intro @hwrAt.eq_4 <|
 And.intro @bvB.eq_1 <|
 And.intro @St.resHs.eq_1 <|
 And.intro @St.resH1.eq_1 <|
 @St.resH1.eq_2
end Go.Proofs.Ytffcpijeebagfaa
end
section
namespace Go.Proofs.Ytffcpijeebagfaa
open Go.RowKit
structure Ev where
 g:Int
 kind:Int
 obj:Int
 off:Int
 k:Int
 n:Int
 fn:Int
 pc:Int
 stack:Int
deriving DecidableEq,Inhabited
def I64 (x:Int):Prop:=-9223372036854775808≤x∧x≤9223372036854775807
def Ev.wf (e:Ev):Prop:=I64 e.g∧I64 e.kind∧I64 e.obj∧I64 e.off∧I64 e.k∧I64 e.n∧I64 e.fn∧I64 e.pc∧I64 e.stack
def Ev.cells (e:Ev):List Value:=[.int .i64 e.g,.int .i64 e.kind,.int .i64 e.obj,.int .i64 e.off,.int .i64 e.k,.int .i64 e.n,.int .i64 e.fn,.int .i64 e.pc,.int .i64 e.stack]
def Ev.val (e:Ev):Value:=.agg #[.int .i64 e.g,.int .i64 e.kind,.int .i64 e.obj,.int .i64 e.off,.int .i64 e.k,.int .i64 e.n,.int .i64 e.fn,.int .i64 e.pc,.int .i64 e.stack]
def numberedB (k:Int):Bool:=decide (15≤k∧k≤18)
def isKindB (k:Int):Bool:=decide (1≤k∧k≤20)
def chanB (k:Int):Bool:=decide (15≤k∧k≤20)
def rangeB (x:Int):Bool:=decide (0≤x∧x≤2147483647)
def Ev.rest (e:Ev):Bool :=
 if e.kind=14 then decide (e.obj=0∧e.off=0∧e.n=0∧1≤e.k∧e.k < 8)
 else if 15≤e.kind∧e.kind≤18 then decide (e.off=0∧e.n≤64)
 else if 19≤e.kind then decide (e.off=0∧e.n≤64∧e.k=0)
 else decide (e.k=0∧e.n=0)
def Ev.valid (e:Ev):Bool:=isKindB e.kind && decide (0≤e.g∧e.g < 8) &&
 (rangeB e.obj && rangeB e.off && rangeB e.k && rangeB e.n && rangeB e.fn && rangeB e.pc && rangeB e.stack) && e.rest
structure Ch where
 cap:Int
 sent:Int
 recv:Int
 closed:Bool
deriving DecidableEq,Inhabited
def ch0:Ch:=⟨0,0,0,false⟩
structure Mu where
 locked:Bool
 readers:Int
deriving DecidableEq,Inhabited
def mu0:Mu:=⟨false,0⟩
structure Grp where
 kinds:List Int
 obj:Int
 k:Int
 n:Int
 snd:Int
 rcv:Int
def grp0:Grp:=⟨[],0,0,0,0,0⟩
structure TS where
 events:Int
 gor:Int
 chans:Int→Option Ch
 mus:Int×Int→Option Mu
 done:Int×Int→Option Bool
 grp:Grp
def TS.new:TS:=⟨0,1,fun _=>none,fun _=>none,fun _=>none,grp0⟩
def upd {κ:Type} [DecidableEq κ] {α:Type} (f:κ→Option α) (x:κ) (v:α):κ→Option α:=fun y=>if y=x then some v else f y
theorem upd_same {κ:Type} [DecidableEq κ] {α:Type} (f:κ→Option α) (x:κ) (v:α):upd f x v x=some v:=if_pos rfl
theorem upd_other {κ:Type} [DecidableEq κ] {α:Type} (f:κ→Option α) {x y:κ} (v:α) (h:y≠x):upd f x v y=f y:=if_neg h
theorem upd_upd {κ:Type} [DecidableEq κ] {α:Type} (f:κ→Option α) (x:κ) (v u:α):upd (upd f x v) x u=upd f x u:=by
 funext y;unfold upd;split <;> rfl
def Ch.count (c:Ch) (kind:Int):Ch:=if kind=15 then { c with sent:=c.sent+1 } else if kind=17 then { c with recv:=c.recv+1 } else c
def TS.count (s:TS) (e:Ev):TS:={ s with chans:=upd s.chans e.obj (((s.chans e.obj).getD ch0).count e.kind) }
def sendsB (k:Int):Bool:=decide (k=15∨k=16)
def Grp.own (o:Grp) (kind:Int):Int:=if sendsB kind=true then o.snd else o.rcv
def Grp.other (o:Grp) (kind:Int):Int:=if sendsB kind=true then o.rcv else o.snd
def Grp.next (o:Grp) (e:Ev):Grp :=
 if sendsB e.kind=true then { o with kinds:=o.kinds.tail,snd:=e.g } else { o with kinds:=o.kinds.tail,rcv:=e.g }
def Grp.fits (o:Grp) (e:Ev):Bool :=
 decide (e.kind=o.kinds.headD 0∧e.obj=o.obj∧e.k=o.k∧e.n=o.n) && !(decide (o.own e.kind < 0∧e.g=o.other e.kind) || decide (0≤o.own e.kind∧e.g≠o.own e.kind))
def TS.proceed (s:TS) (e:Ev):Option TS :=
 if s.grp.fits e=true then some { s.count e with grp:=s.grp.next e } else none
def TS.chan (s:TS) (e:Ev):Ch:=match s.chans e.obj with
 | some c=>c
 | none=>{ ch0 with cap:=e.n }
def TS.start (s:TS) (e:Ev) (c:Ch) (kinds:List Int) (snd rcv:Int):TS :=
 { s with chans:=upd s.chans e.obj (c.count e.kind),grp:=⟨kinds,e.obj,e.k,e.n,snd,rcv⟩ }
def Ch.missing (c:Ch) (kind:Int) (alone:Bool):Option (List Int) :=
 if kind=15 then (if c.sent - c.recv < c.cap then some [16] else if c.cap=0∧alone=false then some [17,18,16] else none)
 else (if c.recv < c.sent then some [18] else if c.closed=false∧alone=false then some [15,18,16] else none)
def TS.operate (s:TS) (e:Ev):Option TS :=
 let c:=s.chan e
 if c.cap≠e.n then none
 else if e.kind=19 then (if c.closed=true then none else some { s with chans:=upd s.chans e.obj { c with closed:=true } })
 else if e.kind=20 then (if c.closed=true∧c.sent=c.recv then some s else none)
 else if e.kind=15 then (if c.closed=true∨e.k≠c.sent then none else (c.missing 15 (decide (s.gor=1))).map fun l=>s.start e c l e.g (-1))
 else if e.kind=17 then (if e.k≠c.recv then none else (c.missing 17 (decide (s.gor=1))).map fun l=>s.start e c l (-1) e.g)
 else none
def TS.mu (s:TS) (e:Ev):Mu:=(s.mus (e.obj,e.off)).getD mu0
def TS.simple (s:TS) (e:Ev):Option TS :=
 let m:=s.mu e
 let put (m:Mu):Option TS:=some { s with mus:=upd s.mus (e.obj,e.off) m }
 if e.kind=6 then (if m.locked=true∨0 < m.readers then none else put { m with locked:=true })
 else if e.kind=7 then (if m.locked=false then none else put { m with locked:=false })
 else if e.kind=8 then (if m.locked=true then none else put { m with readers:=m.readers+1 })
 else if e.kind=9 then (if m.readers=0 then none else put { m with readers:=m.readers - 1 })
 else if e.kind=12 then (if (s.done (e.obj,e.off)).getD false=true then none else some { s with done:=upd s.done (e.obj,e.off) true })
 else if e.kind=13 then (if (s.done (e.obj,e.off)).getD false=true then some s else none)
 else if e.kind=14 then (if e.k≠s.gor then none else some { s with gor:=s.gor+1 })
 else some s
def TS.isOpen (s:TS):Bool:=decide (0 < s.grp.kinds.length)
def TS.part (s:TS) (e:Ev):Option TS :=
 if s.isOpen=true then s.proceed e else if chanB e.kind=true then s.operate e else s.simple e
def TS.admits (s:TS) (e:Ev):Bool:=e.valid && decide (s.events < 5000) && decide (e.g < s.gor)
def TS.add (s:TS) (e:Ev):Option TS :=
 if s.admits e=true then (s.part e).map fun t=>{ t with events:=t.events+1 } else none
structure TS.wf (s:TS):Prop where
 ev:0≤s.events∧s.events≤5000
 gr:1≤s.gor∧s.gor≤8
 ch:∀ x c,s.chans x=some c→(0≤c.sent∧c.sent≤s.events)∧(0≤c.recv∧c.recv≤s.events)∧(0≤c.cap∧c.cap≤64)
 mu:∀ x m,s.mus x=some m→0≤m.readers∧m.readers≤s.events
 kd:s.grp.kinds.length≤3
theorem TS.wf_new:TS.new.wf:=⟨by decide,by decide,(fun _ _ h=>by cases h),(fun _ _ h=>by cases h),by decide⟩
theorem Ev.valid_n {e:Ev} (h:e.valid=true):0≤e.n∧e.n≤2147483647:=by
 simp only [Ev.valid,rangeB,Bool.and_eq_true,decide_eq_true_eq] at h;omega
theorem Ev.valid_k {e:Ev} (h:e.valid=true):0≤e.k∧e.k≤2147483647:=by
 simp only [Ev.valid,rangeB,Bool.and_eq_true,decide_eq_true_eq] at h;omega
theorem Ev.valid_obj {e:Ev} (h:e.valid=true):0≤e.obj∧e.obj≤2147483647:=by
 simp only [Ev.valid,rangeB,Bool.and_eq_true,decide_eq_true_eq] at h;omega
theorem Ev.valid_off {e:Ev} (h:e.valid=true):0≤e.off∧e.off≤2147483647:=by
 simp only [Ev.valid,rangeB,Bool.and_eq_true,decide_eq_true_eq] at h;omega
theorem Ev.valid_g {e:Ev} (h:e.valid=true):0≤e.g∧e.g < 8:=by
 simp only [Ev.valid,rangeB,Bool.and_eq_true,decide_eq_true_eq] at h;omega
theorem Ev.valid_kind {e:Ev} (h:e.valid=true):1≤e.kind∧e.kind≤20:=by
 simp only [Ev.valid,isKindB,Bool.and_eq_true,decide_eq_true_eq] at h;omega
theorem Ev.valid_cap {e:Ev} (h:e.valid=true) (hk:chanB e.kind=true):e.n≤64:=by
 simp only [Ev.valid,Ev.rest,Bool.and_eq_true] at h;simp only [chanB,decide_eq_true_eq] at hk;have h2:=h.2;rw [if_neg (by omega)] at h2;split at h2
 ·simp at h2;omega
 ·rw [if_pos (by omega)] at h2;simp at h2;omega
theorem Ev.valid_go {e:Ev} (h:e.valid=true) (hk:e.kind=14):1≤e.k∧e.k < 8:=by
 simp only [Ev.valid,Ev.rest,Bool.and_eq_true] at h;have h2:=h.2;rw [if_pos hk] at h2;simp at h2;omega
theorem Ch.count_bd {c:Ch} {B kind:Int} (h:(0≤c.sent∧c.sent≤B)∧(0≤c.recv∧c.recv≤B)∧(0≤c.cap∧c.cap≤64)) :
 (0≤(c.count kind).sent∧(c.count kind).sent≤B+1)∧(0≤(c.count kind).recv∧(c.count kind).recv≤B+1)∧(0≤(c.count kind).cap∧(c.count kind).cap≤64):=by
 unfold Ch.count;split
 ·dsimp only;omega
 ·split
  ·dsimp only;omega
  ·omega
theorem TS.chan_bd {s:TS} (h:s.wf) {e:Ev} (hv:e.valid=true) (hk:chanB e.kind=true) :
 (0≤(s.chan e).sent∧(s.chan e).sent≤s.events)∧(0≤(s.chan e).recv∧(s.chan e).recv≤s.events)∧(0≤(s.chan e).cap∧(s.chan e).cap≤64):=by
 unfold TS.chan;have h1:=h.ev;have h2:=Ev.valid_cap hv hk;have h3:=Ev.valid_n hv
 cases hc:s.chans e.obj with
 | none=>dsimp [ch0];omega
 | some c=>exact h.ch _ _ hc
theorem TS.mu_bd {s:TS} (h:s.wf) (e:Ev):0≤(s.mu e).readers∧(s.mu e).readers≤s.events:=by
 unfold TS.mu;have h1:=h.ev
 cases hc:s.mus (e.obj,e.off) with
 | none=>dsimp [mu0];omega
 | some m=>exact h.mu _ _ hc
theorem upd_all {κ:Type} [DecidableEq κ] {α:Type} {f:κ→Option α} {x:κ} {v:α} {p:α→Prop} (hf:∀ y c,f y=some c→p c) (hv:p v):∀ y c,upd f x v y=some c→p c:=by
 intro y c h;unfold upd at h;split at h
 ·cases h;exact hv
 ·exact hf y c h
theorem TS.part_wf {s t:TS} (h:s.wf) {e:Ev} (hv:e.valid=true) (hp:s.part e=some t) :
 t.events=s.events∧(1≤t.gor∧t.gor≤8)∧(∀ x c,t.chans x=some c→(0≤c.sent∧c.sent≤s.events+1)∧(0≤c.recv∧c.recv≤s.events+1)∧(0≤c.cap∧c.cap≤64)) ∧
  (∀ x m,t.mus x=some m→0≤m.readers∧m.readers≤s.events+1)∧t.grp.kinds.length≤3:=by
 have hch:∀ x c,s.chans x=some c→(0≤c.sent∧c.sent≤s.events+1)∧(0≤c.recv∧c.recv≤s.events+1)∧(0≤c.cap∧c.cap≤64):=fun x c hc=>by
  have:=h.ch x c hc;omega
 have hmu:∀ x m,s.mus x=some m→0≤m.readers∧m.readers≤s.events+1:=fun x m hm=>by
  have:=h.mu x m hm;omega
 have hgr:=h.gr;have hkd:=h.kd;have hev:=h.ev;unfold TS.part at hp;split at hp
 ·-- proceed
  unfold TS.proceed at hp;split at hp
  ·cases hp;refine ⟨rfl,hgr,?_,hmu,?_⟩
   ·refine upd_all hch (Ch.count_bd ?_)
    cases hc:s.chans e.obj with
    | none=>dsimp [ch0];omega
    | some c=>exact h.ch _ _ hc
   ·unfold Grp.next;split <;> (simp;omega)
  ·cases hp
 ·split at hp
  ·-- operate
   rename_i hk;have hb:=TS.chan_bd h hv hk;unfold TS.operate at hp;dsimp only at hp;split at hp
   ·cases hp
   split at hp
   ·split at hp
    ·cases hp
    ·cases hp;exact ⟨rfl,hgr,upd_all hch (by dsimp only;omega),hmu,hkd⟩
   split at hp
   ·split at hp
    ·cases hp;exact ⟨rfl,hgr,hch,hmu,hkd⟩
    ·cases hp
   split at hp
   ·split at hp
    ·cases hp
    ·simp only [Option.map_eq_some_iff] at hp;obtain ⟨l,hl,rfl⟩:=hp;refine ⟨rfl,hgr,upd_all hch (Ch.count_bd hb),hmu,?_⟩;unfold Ch.missing at hl;simp only [if_pos] at hl;split at hl
     ·cases hl;simp [TS.start]
     ·split at hl
      ·cases hl;simp [TS.start]
      ·cases hl
   split at hp
   ·split at hp
    ·cases hp
    ·simp only [Option.map_eq_some_iff] at hp;obtain ⟨l,hl,rfl⟩:=hp;refine ⟨rfl,hgr,upd_all hch (Ch.count_bd hb),hmu,?_⟩;unfold Ch.missing at hl;rw [if_neg (by decide)] at hl;split at hl
     ·cases hl;simp [TS.start]
     ·split at hl
      ·cases hl;simp [TS.start]
      ·cases hl
   ·cases hp
  ·-- simple
   have hm:=TS.mu_bd h e;unfold TS.simple at hp;dsimp only at hp;split at hp
   ·split at hp
    ·cases hp
    ·cases hp;exact ⟨rfl,hgr,hch,upd_all hmu (by dsimp only;omega),hkd⟩
   split at hp
   ·split at hp
    ·cases hp
    ·cases hp;exact ⟨rfl,hgr,hch,upd_all hmu (by dsimp only;omega),hkd⟩
   split at hp
   ·split at hp
    ·cases hp
    ·cases hp;exact ⟨rfl,hgr,hch,upd_all hmu (by dsimp only;omega),hkd⟩
   split at hp
   ·split at hp
    ·cases hp
    ·cases hp;exact ⟨rfl,hgr,hch,upd_all hmu (by dsimp only;omega),hkd⟩
   split at hp
   ·split at hp
    ·cases hp
    ·cases hp;exact ⟨rfl,hgr,hch,hmu,hkd⟩
   split at hp
   ·split at hp
    ·cases hp;exact ⟨rfl,hgr,hch,hmu,hkd⟩
    ·cases hp
   split at hp
   ·rename_i hgo;have:=Ev.valid_go hv hgo;split at hp
    ·cases hp
    ·cases hp;exact ⟨rfl,by dsimp only;omega,hch,hmu,hkd⟩
   ·cases hp;exact ⟨rfl,hgr,hch,hmu,hkd⟩
theorem TS.add_wf {s t:TS} (h:s.wf) {e:Ev} (ha:s.add e=some t):t.wf:=by
 unfold TS.add at ha;split at ha
 ·rename_i had;simp only [TS.admits,Bool.and_eq_true,decide_eq_true_eq] at had;simp only [Option.map_eq_some_iff] at ha;obtain ⟨u,hu,rfl⟩:=ha;obtain ⟨h1,h2,h3,h4,h5⟩:=TS.part_wf h had.1.1 hu;have hev:=h.ev;exact ⟨by dsimp only;omega,h2,fun x c hc=>by have:=h3 x c hc;dsimp only;omega,fun x m hm=>by have:=h4 x m hm;dsimp only;omega,h5⟩
 ·cases ha
section
variable {s:TS} {g kind obj off k en fn pc stack cap sent recv:Int} {closed:Bool}
 (hc:s.chan ⟨g,kind,obj,off,k,en,fn,pc,stack⟩=⟨cap,sent,recv,closed⟩)
include hc
theorem TS.op_eq:s.operate ⟨g,kind,obj,off,k,en,fn,pc,stack⟩ =
 if cap≠en then none
 else if kind=19 then (if closed=true then none else some { s with chans:=upd s.chans obj ⟨cap,sent,recv,true⟩ })
 else if kind=20 then (if closed=true∧sent=recv then some s else none)
 else if kind=15 then (if closed=true∨k≠sent then none else ((⟨cap,sent,recv,closed⟩:Ch).missing 15 (decide (s.gor=1))).map fun l=>s.start ⟨g,kind,obj,off,k,en,fn,pc,stack⟩ ⟨cap,sent,recv,closed⟩ l g (-1))
 else if kind=17 then (if k≠recv then none else ((⟨cap,sent,recv,closed⟩:Ch).missing 17 (decide (s.gor=1))).map fun l=>s.start ⟨g,kind,obj,off,k,en,fn,pc,stack⟩ ⟨cap,sent,recv,closed⟩ l (-1) g)
 else none:=by
 unfold TS.operate;rw [hc]
theorem TS.op_nA (h1:(cap != en)=true):s.operate ⟨g,kind,obj,off,k,en,fn,pc,stack⟩=none:=by
 rw [TS.op_eq hc];simp_all
theorem TS.op_nB (h1:(kind == 19)=true) (h2:closed=true):s.operate ⟨g,kind,obj,off,k,en,fn,pc,stack⟩=none:=by
 rw [TS.op_eq hc];simp_all
theorem TS.op_n20 (h1:(kind == 20)=true) (h2:¬closed=true):s.operate ⟨g,kind,obj,off,k,en,fn,pc,stack⟩=none:=by
 rw [TS.op_eq hc];simp_all
theorem TS.op_nD (h1:(kind == 15)=true) (h2:closed=true):s.operate ⟨g,kind,obj,off,k,en,fn,pc,stack⟩=none:=by
 rw [TS.op_eq hc];simp_all
theorem TS.op_nE (h1:(kind == 15)=true) (h2:(k != sent)=true):s.operate ⟨g,kind,obj,off,k,en,fn,pc,stack⟩=none:=by
 rw [TS.op_eq hc];simp_all
theorem TS.op_nF (h1:(kind == 15)=true) (h2:cap≤sent - recv) (h3:(!s.gor == 1)=false):s.operate ⟨g,kind,obj,off,k,en,fn,pc,stack⟩=none:=by
 rw [TS.op_eq hc];simp_all [Ch.missing];intros;omega
theorem TS.op_nG (h1:(kind == 15)=true) (h2:cap≤sent - recv) (h3:¬cap=0):s.operate ⟨g,kind,obj,off,k,en,fn,pc,stack⟩=none:=by
 rw [TS.op_eq hc];simp_all [Ch.missing];intros;omega
theorem TS.op_nH (h1:(kind == 17)=true) (h2:(k != recv)=true):s.operate ⟨g,kind,obj,off,k,en,fn,pc,stack⟩=none:=by
 rw [TS.op_eq hc];simp_all
theorem TS.op_nI (h1:(kind == 17)=true) (h2:sent≤recv) (h3:closed=true):s.operate ⟨g,kind,obj,off,k,en,fn,pc,stack⟩=none:=by
 have h4:¬ recv < sent:=by omega
 rw [TS.op_eq hc];simp_all [Ch.missing]
theorem TS.op_nJ (h1:(kind == 17)=true) (h2:sent≤recv) (h3:(!s.gor == 1)=false):s.operate ⟨g,kind,obj,off,k,en,fn,pc,stack⟩=none:=by
 have h4:¬ recv < sent:=by omega
 rw [TS.op_eq hc];simp_all [Ch.missing]
theorem TS.op_nK (h1:(kind == 19)=false) (h2:(kind == 20)=false) (h3:(kind == 15)=false) (h4:(kind == 17)=false):s.operate ⟨g,kind,obj,off,k,en,fn,pc,stack⟩=none:=by
 rw [TS.op_eq hc];simp_all
theorem TS.op_s19 (h0:(cap != en)=false) (h1:(kind == 19)=true) (h2:closed=false):s.operate ⟨g,kind,obj,off,k,en,fn,pc,stack⟩=some { s with chans:=upd s.chans obj ⟨cap,sent,recv,true⟩ }:=by
 rw [TS.op_eq hc];simp_all
theorem TS.op_s20 (h0:(cap != en)=false) (h1:(kind == 20)=true) (h2:closed=true):s.operate ⟨g,kind,obj,off,k,en,fn,pc,stack⟩=if sent=recv then some s else none:=by
 rw [TS.op_eq hc];simp_all
theorem TS.op_s15a (h0:(cap != en)=false) (h1:(kind == 15)=true) (h2:¬closed=true) (h3:(k != sent)=false) (h4:sent - recv < cap):s.operate ⟨g,kind,obj,off,k,en,fn,pc,stack⟩=some (s.start ⟨g,kind,obj,off,k,en,fn,pc,stack⟩ ⟨cap,sent,recv,closed⟩ [16] g (-1)):=by
 rw [TS.op_eq hc];simp_all [Ch.missing]
theorem TS.op_s15b (h0:(cap != en)=false) (h1:(kind == 15)=true) (h2:¬closed=true) (h3:(k != sent)=false) (h4:cap≤sent - recv) (h5:cap=0) (h6:(!s.gor == 1)=true):s.operate ⟨g,kind,obj,off,k,en,fn,pc,stack⟩=some (s.start ⟨g,kind,obj,off,k,en,fn,pc,stack⟩ ⟨cap,sent,recv,closed⟩ [17,18,16] g (-1)):=by
 have hm:(⟨cap,sent,recv,closed⟩:Ch).missing 15 (decide (s.gor=1))=some [17,18,16]:=by
  unfold Ch.missing;rw [if_pos rfl];dsimp only;rw [if_neg (by omega),if_pos ⟨h5,by simpa using h6⟩]
 rw [TS.op_eq hc,hm];simp_all
theorem TS.op_s17a (h0:(cap != en)=false) (h1:(kind == 17)=true) (h3:(k != recv)=false) (h4:recv < sent):s.operate ⟨g,kind,obj,off,k,en,fn,pc,stack⟩=some (s.start ⟨g,kind,obj,off,k,en,fn,pc,stack⟩ ⟨cap,sent,recv,closed⟩ [18] (-1) g):=by
 rw [TS.op_eq hc];simp_all [Ch.missing]
theorem TS.op_s17b (h0:(cap != en)=false) (h1:(kind == 17)=true) (h2:¬closed=true) (h3:(k != recv)=false) (h4:sent≤recv) (h6:(!s.gor == 1)=true):s.operate ⟨g,kind,obj,off,k,en,fn,pc,stack⟩=some (s.start ⟨g,kind,obj,off,k,en,fn,pc,stack⟩ ⟨cap,sent,recv,closed⟩ [15,18,16] (-1) g):=by
 have hm:(⟨cap,sent,recv,closed⟩:Ch).missing 17 (decide (s.gor=1))=some [15,18,16]:=by
  unfold Ch.missing;rw [if_neg (by decide)];dsimp only;rw [if_neg (by omega),if_pos ⟨by simpa using h2,by simpa using h6⟩]
 rw [TS.op_eq hc,hm];simp_all
end
end Go.Proofs.Ytffcpijeebagfaa
end
section
namespace Go.Proofs.Ytffcpijeebagfaa
def TS.steps (s:TS):List Ev→Option TS
 | []=>some s
 | e :: l=>(s.add e).bind fun t=>t.steps l
def TS.chk (s:TS):List Ev→Nat
 | []=>0
 | e :: l=>match s.add e with
   | some t=>t.chk l+1
   | none=>0
theorem TS.steps_append (s:TS) (l m:List Ev):s.steps (l ++ m)=(s.steps l).bind fun t=>t.steps m:=by
 induction l generalizing s with
 | nil=>rfl
 | cons e l ih =>
   simp only [List.cons_append,TS.steps]
   cases s.add e with
   | none=>rfl
   | some t=>simpa using ih t
theorem TS.steps_snoc (s:TS) (l:List Ev) (e:Ev):s.steps (l ++ [e])=(s.steps l).bind fun t=>t.add e:=by
 rw [TS.steps_append]
 congr 1
 funext t
 simp [TS.steps]
theorem TS.steps_take_succ {s:TS} {l:List Ev} {k:Nat} (h:k < l.length):s.steps (l.take (k+1))=(s.steps (l.take k)).bind fun t=>t.add l[k]:=by
 rw [List.take_succ_eq_append_getElem h,TS.steps_snoc]
theorem TS.steps_wf {s t:TS} (h:s.wf) {l:List Ev} (hs:s.steps l=some t):t.wf:=by
 induction l generalizing s with
 | nil=>simp [TS.steps] at hs;subst hs;exact h
 | cons e l ih =>
   simp only [TS.steps,Option.bind_eq_some_iff] at hs;obtain ⟨u,hu,hs⟩:=hs;exact ih (TS.add_wf h hu) hs
theorem TS.chk_of {s:TS} {l:List Ev} {k:Nat} (hk:k≤l.length) {t:TS} (hs:s.steps (l.take k)=some t) (hn:∀ e,l[k]? = some e→t.add e=none):s.chk l=k:=by
 induction l generalizing s k with
 | nil=>simp at hk;subst hk;rfl
 | cons e l ih =>
   cases k with
   | zero =>
     simp [TS.steps] at hs;subst hs;have:=hn e rfl;simp [TS.chk,this]
   | succ k =>
     simp only [List.take_succ_cons,TS.steps,Option.bind_eq_some_iff] at hs;obtain ⟨u,hu,hs⟩:=hs;simp only [TS.chk,hu];rw [ih (by simpa using hk) hs (fun e' he'=>hn e' (by simpa using he'))]
theorem TS.chk_steps (s:TS) (l:List Ev) {k:Nat} (hk:k≤s.chk l):∃ t,s.steps (l.take k)=some t:=by
 induction l generalizing s k with
 | nil=>simp [TS.chk] at hk;subst hk;exact ⟨s,rfl⟩
 | cons e l ih =>
   cases k with
   | zero=>exact ⟨s,rfl⟩
   | succ k =>
     simp only [TS.chk] at hk
     cases ha:s.add e with
     | none=>rw [ha] at hk;simp at hk
     | some u =>
       rw [ha] at hk;obtain ⟨t,ht⟩:=ih u (k:=k) (by simpa using hk);exact ⟨t,by simp [TS.steps,ha,ht]⟩
theorem TS.chk_take (s:TS) (l:List Ev) (k:Nat):s.chk (l.take k)=min (s.chk l) k:=by
 induction l generalizing s k with
 | nil=>simp [TS.chk]
 | cons e l ih =>
   cases k with
   | zero=>simp [TS.chk]
   | succ k =>
     simp only [List.take_succ_cons,TS.chk]
     cases s.add e with
     | none=>simp
     | some t=>simp only [ih];omega
def TS.wholeTo (s:TS) (l:List Ev):Nat→Nat
 | 0=>0
 | k+1=>match s.steps (l.take (k+1)) with
   | some t=>if t.isOpen=true then s.wholeTo l k else k+1
   | none=>s.wholeTo l k
def chk (l:List Ev):Nat:=TS.new.chk l
theorem flat_at (l:List Ev) (i:Nat) (e:Ev) (h:l[i]? = some e) (j:Nat) (x:Value) (hx:e.cells[j]? = some x):(l.flatMap Ev.cells)[i * 9+j]? = some x:=by
 have hlen:∀ e:Ev,e.cells.length=9:=fun _=>rfl
 have hj:j < 9:=by rw [←hlen e];exact (List.getElem?_eq_some_iff.1 hx).1
 induction l generalizing i with
 | nil=>cases h
 | cons a l ih =>
   rw [List.flatMap_cons]
   cases i with
   | zero =>
     simp at h;subst h;rw [List.getElem?_append_left (by rw [hlen];omega)]
     simpa using hx
   | succ i =>
     rw [List.getElem?_append_right (by rw [hlen];omega),hlen,show (i+1) * 9+j - 9=i * 9+j by omega]
     exact ih i (by simpa using h)
end Go.Proofs.Ytffcpijeebagfaa
end
section
namespace Go.Proofs.Ytffcpijeebagfaa
open Go Go.RowKit
instance:WInv:=⟨fun _=>True,fun _ _ _ _=>trivial⟩
abbrev dI (n:Int):Dt:=.sc (.int .i64 n)
abbrev dB (b:Bool):Dt:=.sc (.bool b)
abbrev aI (n:Int):Av:=.b (.one (.d (.sc (.int .i64 n))))
abbrev pI (n:Int):Pa:=.one (.sc (.int .i64 n))
abbrev pB (b:Bool):Pa:=.one (.sc (.bool b))
def Ev.row (e:Ev):List Dt:=[dI e.g,dI e.kind,dI e.obj,dI e.off,dI e.k,dI e.n,dI e.fn,dI e.pc,dI e.stack]
def Ev.pa (e:Ev):Pa:=.agg e.row
def evsD (l:List Ev):Dt:=.im (l.map Ev.row)
def evsPa (l:List Ev):Pa:=.one (evsD l)
structure RCh where
 obj:Int
 n:Int
 sent:Int
 recv:Int
 closed:Bool
def RCh.row (c:RCh):List Dt:=[dI c.obj,dI c.n,dI c.sent,dI c.recv,dB c.closed]
structure RLk where
 obj:Int
 off:Int
 locked:Bool
 readers:Int
def RLk.row (c:RLk):List Dt:=[dI c.obj,dI c.off,dB c.locked,dI c.readers]
def locRow (p:Int×Int):List Dt:=[dI p.1,dI p.2]
structure RWt where
 kind:Int
 g:Int
 not:Int
def RWt.row (c:RWt):List Dt:=[dI c.kind,dI c.g,dI c.not]
structure RSt where
 count:Int
 gor:Int
 chans:List RCh
 locks:List RLk
 done:List (Int×Int)
 next:List RWt
 obj:Int
 k:Int
 n:Int
def RSt.row (s:RSt):List Dt:=[dI s.count,dI s.gor,.im (s.chans.map RCh.row),.im (s.locks.map RLk.row),.im (s.done.map locRow),.im (s.next.map RWt.row),dI s.obj,dI s.k,dI s.n]
def RSt.pa (s:RSt):Pa:=.agg s.row
structure RSt.ok (s:RSt):Prop where
 ct:0≤s.count∧s.count≤1000000
 gr:0≤s.gor∧s.gor≤1000000
 ch:s.chans.length≤900000∧∀ c,c ∈ s.chans→(0≤c.sent∧c.sent≤1000000)∧(0≤c.recv∧c.recv≤1000000)
 lk:s.locks.length≤900000∧∀ c,c ∈ s.locks→0≤c.readers∧c.readers≤1000000
 dn:s.done.length≤900000
 nx:s.next.length≤900000
def RSt.new:RSt:=⟨0,1,[],[],[],[],0,0,0⟩
def RSt.channel (s:RSt) (obj n:Int):RCh:=(s.chans.find? (fun c=>c.obj == obj)).getD ⟨obj,n,0,0,false⟩
def RSt.setChannel (s:RSt) (c:RCh):RSt:={ s with chans:=s.chans.filter (fun d=>d.obj != c.obj) ++ [c] }
def RSt.lock (s:RSt) (obj off:Int):RLk:=(s.locks.find? (fun c=>c.obj == obj && c.off == off)).getD ⟨obj,off,false,0⟩
def RSt.setLock (s:RSt) (c:RLk):RSt:={ s with locks:=s.locks.filter (fun d=>d.obj != c.obj || d.off != c.off) ++ [c] }
def RSt.isDone (s:RSt) (obj off:Int):Bool:=s.done.any (fun c=>c.1 == obj && c.2 == off)
def RCh.count (c:RCh) (kind:Int):RCh:=if kind=15 then { c with sent:=c.sent+1 } else if kind=17 then { c with recv:=c.recv+1 } else c
def RSt.counted (s:RSt) (e:Ev):RSt:=if e.kind=15∨e.kind=17 then s.setChannel ((s.channel e.obj e.n).count e.kind) else s
def RSt.begin (s:RSt) (e:Ev) (next:List RWt):RSt:=RSt.counted { s with next:=next,obj:=e.obj,k:=e.k,n:=e.n } e
def RSt.fits (s:RSt) (w:RWt) (e:Ev):Bool:=!((e.kind != w.kind || (e.obj != s.obj || (e.k != s.k || (e.n != s.n || (decide (0≤w.g) && e.g != w.g))))) || (decide (w.g < 0) && e.g == w.not))
def RWt.known (w:RWt) (g:Int) (x:RWt):RWt:=if w.g < 0∧x.g < 0 then { x with g:=g } else x
def RSt.groupR (s:RSt) (e:Ev):RSt×Bool:=match s.next with
 | []=>(s,false)
 | w :: rest=>if s.fits w e=true then (RSt.counted { s with next:=rest.map (w.known e.g) } e,true) else (s,false)
def RSt.transferR (s:RSt) (e:Ev):RSt×Bool :=
 if (s.channel e.obj e.n).n≠e.n then (s,false)
 else if e.kind=15 then
  if e.k≠(s.channel e.obj e.n).sent then (s,false)
  else if (s.channel e.obj e.n).closed=true then (s,false)
  else if 0 < (s.channel e.obj e.n).n∧(s.channel e.obj e.n).sent - (s.channel e.obj e.n).recv < (s.channel e.obj e.n).n then (s.begin e [⟨16,e.g,0⟩],true)
  else if (s.channel e.obj e.n).n=0∧1 < s.gor then (s.begin e [⟨17, -1,e.g⟩,⟨18, -1,0⟩,⟨16,e.g,0⟩],true)
  else (s,false)
 else if e.kind=17 then
  if e.k≠(s.channel e.obj e.n).recv then (s,false)
  else if (s.channel e.obj e.n).recv < (s.channel e.obj e.n).sent then (s.begin e [⟨18,e.g,0⟩],true)
  else if (s.channel e.obj e.n).closed=false∧1 < s.gor then (s.begin e [⟨15, -1,e.g⟩,⟨18,e.g,0⟩,⟨16, -1,0⟩],true)
  else (s,false)
 else if e.kind=19 then
  if (s.channel e.obj e.n).closed=true then (s,false) else (s.setChannel { s.channel e.obj e.n with closed:=true },true)
 else if e.kind=20 then (s,(s.channel e.obj e.n).closed && (s.channel e.obj e.n).sent == (s.channel e.obj e.n).recv)
 else (s,false)
def RSt.otherR (s:RSt) (e:Ev):RSt×Bool :=
 if e.kind=6 then (s.setLock { s.lock e.obj e.off with locked:=true },!(s.lock e.obj e.off).locked && (s.lock e.obj e.off).readers == 0)
 else if e.kind=7 then (s.setLock { s.lock e.obj e.off with locked:=false },(s.lock e.obj e.off).locked)
 else if e.kind=8 then (s.setLock { s.lock e.obj e.off with readers:=(s.lock e.obj e.off).readers+1 },!(s.lock e.obj e.off).locked)
 else if e.kind=9 then (s.setLock { s.lock e.obj e.off with readers:=(s.lock e.obj e.off).readers - 1 },decide (0≤(s.lock e.obj e.off).readers - 1))
 else if e.kind=12 then ({ s with done:=s.done ++ [(e.obj,e.off)] },!s.isDone e.obj e.off)
 else if e.kind=13 then (s,s.isDone e.obj e.off)
 else if e.kind=14 then ({ s with gor:=s.gor+1 },e.k == s.gor)
 else (s,true)
def RSt.partR (s:RSt) (e:Ev):RSt×Bool:=if 0 < s.next.length then s.groupR e else if chanB e.kind=true then s.transferR e else s.otherR e
def RSt.admits (s:RSt) (e:Ev):Bool:=e.valid && decide (s.count < 5000) && decide (e.g < s.gor)
def RSt.addR (s:RSt) (e:Ev):RSt×Bool :=
 if s.admits e=true∧(s.partR e).2=true then ({ (s.partR e).1 with count:=(s.partR e).1.count+1 },true) else (s,false)
theorem find_hit {α:Type} {l:List α} {p:α→Bool} {k:Nat} {c:α} (hno:∀ i c,i < k→l[i]? = some c→p c=false) (hc:l[k]? = some c) (he:p c=true):l.find? p=some c:=by
 rw [List.find?_eq_some_iff_getElem];refine ⟨he,k,(List.getElem?_eq_some_iff.1 hc).1,(List.getElem?_eq_some_iff.1 hc).2,fun j hj=>?_⟩;have h1:=List.getElem?_eq_getElem (show j < l.length by have:=(List.getElem?_eq_some_iff.1 hc).1;omega)
 rw [hno j _ hj h1];rfl
theorem find_miss {α:Type} {l:List α} {p:α→Bool} (hno:∀ i c,i < l.length→l[i]? = some c→p c=false):l.find? p=none:=by
 rw [List.find?_eq_none];intro c hc;obtain ⟨i,hi,rfl⟩:=List.getElem_of_mem hc;rw [hno i _ hi (List.getElem?_eq_getElem hi)];decide
theorem no_succ {α:Type} {l:List α} {p:α→Bool} {k:Nat} {c:α} (hno:∀ i c,i < k→l[i]? = some c→p c=false) (hc:l[k]? = some c) (he:p c=false):∀ i c,i < k+1→l[i]? = some c→p c=false:=by
 intro i c' hi hc'
 rcases Nat.lt_or_eq_of_le (Nat.le_of_lt_succ hi) with h | h
 ·exact hno i c' h hc'
 ·subst h;rw [hc] at hc';cases hc';exact he
theorem any_miss {α:Type} {l:List α} {p:α→Bool} (hno:∀ i c,i < l.length→l[i]? = some c→p c=false):l.any p=false:=by
 rw [List.any_eq_false];intro c hc;obtain ⟨i,hi,rfl⟩:=List.getElem_of_mem hc;rw [hno i _ hi (List.getElem?_eq_getElem hi)];decide
theorem filter_succ {α:Type} {l:List α} {p:α→Bool} {k:Nat} {c:α} (hc:l[k]? = some c):(l.take (k+1)).filter p=(l.take k).filter p ++ (if p c=true then [c] else []):=by
 obtain ⟨hk,rfl⟩:=List.getElem?_eq_some_iff.1 hc;rw [List.take_succ_eq_append_getElem hk,List.filter_append]
 congr 1
 cases h:p l[k] <;> simp [h]
theorem filter_take_le {α:Type} (l:List α) (p:α→Bool) (k:Nat):((l.take k).filter p).length≤k :=
 Nat.le_trans (List.length_filter_le _ _) (List.length_take_le _ _)
theorem rows_len {α:Type} {f:α→List Dt} {n:Nat} (h:∀ x,(f x).length=n) (l:List α):(∀ r,r ∈ l.map f→r.length=n)=True:=by
 apply propext
 refine ⟨fun _=>trivial,fun _ r hr=>?_⟩;obtain ⟨x,_,rfl⟩:=List.mem_map.1 hr;exact h x
end Go.Proofs.Ytffcpijeebagfaa
end
section
namespace Go.Proofs.Ytffcpijeebagfaa
open Go
abbrev Ck:=List Int
def ckZ:Ck:=List.replicate 8 0
def joinC (a b:Ck):Ck:=List.zipWith (fun x y=>if y > x then y else x) a b
def syncB (a b:Ev):Bool :=
 if a.obj≠b.obj then false
 else if a.off≠b.off then false
 else if b.kind=18 then a.kind == 15 && a.k == b.k
 else if b.kind=16 then a.kind == 17 && b.k == a.k+b.n
 else if b.kind=20 then a.kind == 19
 else if b.kind=6 then a.kind == 7 || a.kind == 9
 else if b.kind=8 then a.kind == 7
 else if b.kind=11 then a.kind == 10
 else if b.kind=13 then a.kind == 12
 else false
structure SSt where
 cur:List Ck
 birth:List Ck
 out:List Ck
def startC (s:SSt) (e:Ev):Ck:=if s.cur.getD e.g.toNat ckZ=ckZ then s.birth.getD e.g.toNat ckZ else s.cur.getD e.g.toNat ckZ
def atomB (f e:Ev):Bool:=f.obj == e.obj && (f.off == e.off && (f.kind == 4 || f.kind == 5))
def inStep (out:List Ck) (e f:Ev) (i:Nat) (p:Ck×Int):Ck×Int :=
 (if syncB f e=true then joinC p.1 (out.getD i ckZ) else p.1,if atomB f e=true then (i:Int) else p.2)
def inTo (l:List Ev) (out:List Ck) (e:Ev) (p:Ck×Int):Nat→Ck×Int
 | 0=>p
 | i+1=>inStep out e (l.getD i default) i (inTo l out e p i)
def atomE (e:Ev) (at_:Int):Bool:=decide (0≤at_) && (e.kind == 3 || e.kind == 5)
def finC (out:List Ck) (e:Ev) (p:Ck×Int):Ck :=
 let c:=if atomE e p.2=true then joinC p.1 (out.getD p.2.toNat ckZ) else p.1
 c.set e.g.toNat (c.getD e.g.toNat 0+1)
def clockAt (l:List Ev) (s:SSt) (e:Ev) (j:Nat):Ck:=finC s.out e (inTo l s.out e (startC s e, -1) j)
def SSt.step (l:List Ev) (s:SSt) (e:Ev) (j:Nat):SSt :=
 ⟨s.cur.set e.g.toNat (clockAt l s e j),if e.kind=14 then s.birth.set e.k.toNat (clockAt l s e j) else s.birth,s.out ++ [clockAt l s e j]⟩
def runTo (l:List Ev):Nat→SSt
 | 0=>⟨List.replicate 8 ckZ,List.replicate 8 ckZ,[]⟩
 | j+1=>(runTo l j).step l (l.getD j default) j
def stampsL (l:List Ev):List Ck:=(runTo l l.length).out
def COk (n:Int) (c:Ck):Prop:=c.length=8∧∀ x,x ∈ c→0≤x∧x≤n
theorem COk.z {n:Int} (h:0≤n):COk n ckZ:=⟨rfl,fun x hx=>by simp [ckZ] at hx;omega⟩
theorem COk.mono {n m:Int} (h:n≤m) {c:Ck} (hc:COk n c):COk m c:=⟨hc.1,fun x hx=>by have:=hc.2 x hx;omega⟩
theorem COk.join {n:Int} {a b:Ck} (ha:COk n a) (hb:COk n b):COk n (joinC a b):=by
 refine ⟨by unfold joinC;rw [List.length_zipWith,ha.1,hb.1];rfl,fun x hx=>?_⟩
 unfold joinC at hx;obtain ⟨i,hi⟩:=List.getElem?_of_mem hx;rw [List.getElem?_zipWith] at hi;split at hi
 ·rename_i u v hu hv;cases hi;have h1:=ha.2 u (List.mem_of_getElem? hu);have h2:=hb.2 v (List.mem_of_getElem? hv);split <;> omega
 ·cases hi
theorem COk.getD {n:Int} (h:0≤n) {l:List Ck} (hl:∀ c,c ∈ l→COk n c) (i:Nat):COk n (l.getD i ckZ):=by
 rw [List.getD_eq_getElem?_getD]
 cases hi:l[i]? with
 | none=>exact COk.z h
 | some c=>exact hl c (List.mem_of_getElem? hi)
theorem COk.tick {n:Int} {c:Ck} (hc:COk n c) (i:Nat):COk (n+1) (c.set i (c.getD i 0+1)):=by
 refine ⟨by rw [List.length_set];exact hc.1,fun x hx=>?_⟩
 rcases List.mem_or_eq_of_mem_set hx with h | h
 ·have:=hc.2 x h;omega
 ·subst h;rw [List.getD_eq_getElem?_getD]
  cases hi:c[i]? with
  | none =>
    have h8:=hc.1;have:=hc.2 (c[0]'(by omega)) (List.getElem_mem _);simp;omega
  | some y=>have:=hc.2 y (List.mem_of_getElem? hi);simp;omega
structure SOk (s:SSt) (j:Nat):Prop where
 cl:s.cur.length=8
 bl:s.birth.length=8
 ol:s.out.length=j
 cc:∀ c,c ∈ s.cur→COk j c
 bc:∀ c,c ∈ s.birth→COk j c
 oc:∀ c,c ∈ s.out→COk j c
theorem SOk.start {s:SSt} {j:Nat} (h:SOk s j) (e:Ev):COk j (startC s e):=by
 unfold startC;split
 ·exact COk.getD (by omega) h.bc _
 ·exact COk.getD (by omega) h.cc _
theorem SOk.inTo {s:SSt} {j:Nat} (h:SOk s j) (l:List Ev) (e:Ev) (i:Nat):COk j (inTo l s.out e (startC s e, -1) i).1∧-1≤(Go.Proofs.Ytffcpijeebagfaa.inTo l s.out e (startC s e, -1) i).2∧(Go.Proofs.Ytffcpijeebagfaa.inTo l s.out e (startC s e, -1) i).2 < i:=by
 induction i with
 | zero=>exact ⟨h.start e,by simp [Go.Proofs.Ytffcpijeebagfaa.inTo],by simp [Go.Proofs.Ytffcpijeebagfaa.inTo]⟩
 | succ i ih =>
   obtain ⟨h1,h2,h3⟩:=ih;simp only [Go.Proofs.Ytffcpijeebagfaa.inTo,inStep];refine ⟨?_,?_,?_⟩
   ·split
    ·exact h1.join (COk.getD (by omega) h.oc _)
    ·exact h1
   ·split <;> omega
   ·split <;> omega
theorem SOk.pre {s:SSt} {j:Nat} (h:SOk s j) (l:List Ev) (e:Ev):COk j (let p:=Go.Proofs.Ytffcpijeebagfaa.inTo l s.out e (startC s e, -1) j;if atomE e p.2=true then joinC p.1 (s.out.getD p.2.toNat ckZ) else p.1):=by
 dsimp only;split
 ·exact (h.inTo l e j).1.join (COk.getD (by omega) h.oc _)
 ·exact (h.inTo l e j).1
theorem SOk.clock {s:SSt} {j:Nat} (h:SOk s j) (l:List Ev) (e:Ev):COk ((j+1:Nat):Int) (clockAt l s e j):=by
 have:=(h.pre l e).tick e.g.toNat;unfold clockAt finC;exact this.mono (by omega)
theorem SOk.step {s:SSt} {j:Nat} (h:SOk s j) (l:List Ev) (e:Ev):SOk (s.step l e j) (j+1):=by
 have hc:=h.clock l e;have up:∀ c,COk (j:Int) c→COk ((j+1:Nat):Int) c:=fun c h=>h.mono (by omega)
 refine ⟨?_,?_,?_,fun c hm=>?_,fun c hm=>?_,fun c hm=>?_⟩
 ·simp [SSt.step,h.cl]
 ·simp only [SSt.step];split <;> simp [h.bl]
 ·simp [SSt.step,h.ol]
 ·rcases List.mem_or_eq_of_mem_set hm with hm | rfl
  ·exact up c (h.cc c hm)
  ·exact hc
 ·simp only [SSt.step] at hm;split at hm
  ·rcases List.mem_or_eq_of_mem_set hm with hm | rfl
   ·exact up c (h.bc c hm)
   ·exact hc
  ·exact up c (h.bc c hm)
 ·simp only [SSt.step,List.mem_append,List.mem_singleton] at hm
  rcases hm with hm | rfl
  ·exact up c (h.oc c hm)
  ·exact hc
theorem runTo_ok (l:List Ev) (j:Nat):SOk (runTo l j) j:=by
 induction j with
 | zero=>exact ⟨rfl,rfl,rfl,fun c hc=>by simp [runTo] at hc;subst hc;exact COk.z (by omega),fun c hc=>by simp [runTo] at hc;subst hc;exact COk.z (by omega),fun c hc=>by simp [runTo] at hc⟩
 | succ j ih=>exact ih.step l _
theorem stampsL_length (l:List Ev):(stampsL l).length=l.length:=(runTo_ok l l.length).ol
theorem stampsL_ok (l:List Ev):∀ c,c ∈ stampsL l→COk l.length c:=(runTo_ok l l.length).oc
end Go.Proofs.Ytffcpijeebagfaa
end
section
namespace Go.Proofs.Ytffcpijeebagfaa
open Go Go.RowKit
set_option maxRecDepth 100000
set_option maxHeartbeats 4000000
def ckRow (c:Ck):List Dt:=c.map dI
def ckPa (c:Ck):Pa:=.agg (ckRow c)
def ckCells (c:Ck):List Cl:=c.map fun x=>.d (dI x)
theorem ckCells_dt (c:Ck):allSome ((ckCells c).map Cl.dt)=some (ckRow c):=by
 induction c with
 | nil=>rfl
 | cons x c ih =>
   show (allSome ((ckCells c).map Cl.dt)).map (dI x :: ·)=_
   rw [ih];rfl
theorem ckRow_cells (c:Ck):(ckRow c).map Cl.d=ckCells c:=by unfold ckRow ckCells;rw [List.map_map];rfl
theorem ckCells_length (c:Ck):(ckCells c).length=c.length:=List.length_map ..
theorem ckCells_get (c:Ck) (i:Nat) (x:Int) (h:c[i]? = some x):(ckCells c)[i]? = some (.d (dI x)):=by unfold ckCells;rw [List.getElem?_map,h];rfl
theorem ckCells_set (c:Ck) (i:Nat) (x:Int) (h:i < c.length):wrAt (ckCells c) i [.d (dI x)]=ckCells (c.set i x):=by
 induction c generalizing i with
 | nil=>simp at h
 | cons y c ih =>
   cases i with
   | zero =>
     simp only [ckCells,List.map_cons,wrAt,List.set_cons_zero]
     congr 1
     cases c <;> rfl
   | succ i =>
     simp only [ckCells,List.map_cons,List.set_cons_succ,wrAt]
     congr 1
     exact ih i (by simpa using h)
theorem wrAt_full {cs ds:List Cl} (h:cs.length=ds.length):wrAt cs 0 ds=ds:=by
 induction cs generalizing ds with
 | nil=>cases ds with
   | nil=>rfl
   | cons d ds=>simp at h
 | cons c cs ih=>cases ds with
   | nil=>simp at h
   | cons d ds =>
     simp only [wrAt];rw [ih (by simpa using h)]
theorem wr_new8 {c:Ck} (h:c.length=8):wrAt [.d (.sc (.int .i64 0)),.d (.sc (.int .i64 0)),.d (.sc (.int .i64 0)),.d (.sc (.int .i64 0)),.d (.sc (.int .i64 0)),.d (.sc (.int .i64 0)),.d (.sc (.int .i64 0)),.d (.sc (.int .i64 0))] 0 (ckCells c)=ckCells c :=
 wrAt_full (by rw [ckCells_length,h];rfl)
def joinTo (a b:Ck) (k:Nat):Ck:=joinC (a.take k) (b.take k) ++ a.drop k
theorem joinTo_zero (a b:Ck):joinTo a b 0=a:=by simp [joinTo,joinC]
theorem joinTo_all {a b:Ck} (ha:a.length=8) (hb:b.length=8):joinTo a b 8=joinC a b:=by
 unfold joinTo;rw [List.take_of_length_le (by omega),List.take_of_length_le (by omega),List.drop_eq_nil_of_le (by omega),List.append_nil]
theorem joinTo_length {a b:Ck} (ha:a.length=8) (hb:b.length=8) {k:Nat} (hk:k≤8):(joinTo a b k).length=8:=by
 unfold joinTo joinC;rw [List.length_append,List.length_zipWith,List.length_take,List.length_take,List.length_drop];omega
theorem joinTo_get {a b:Ck} (ha:a.length=8) (hb:b.length=8) {k:Nat} (hk:k < 8) {x:Int} (hx:a[k]? = some x):(joinTo a b k)[k]? = some x:=by
 have hl:(joinC (a.take k) (b.take k)).length=k:=by unfold joinC;rw [List.length_zipWith,List.length_take,List.length_take];omega
 unfold joinTo;rw [List.getElem?_append_right (by omega),hl,Nat.sub_self,List.getElem?_drop,Nat.add_zero];exact hx
theorem joinTo_succ {a b:Ck} (ha:a.length=8) (hb:b.length=8) {k:Nat} (hk:k < 8) {x y:Int} (hx:a[k]? = some x) (hy:b[k]? = some y):(joinTo a b k).set k (if y > x then y else x)=joinTo a b (k+1):=by
 have hl:(joinC (a.take k) (b.take k)).length=k:=by unfold joinC;rw [List.length_zipWith,List.length_take,List.length_take];omega
 unfold joinTo;rw [List.set_append_right _ _ (by omega),hl,Nat.sub_self,List.drop_eq_getElem_cons (by omega),List.set_cons_zero];have e1:a.take (k+1)=a.take k ++ [x]:=by rw [List.take_add_one,hx];rfl
 have e2:b.take (k+1)=b.take k ++ [y]:=by rw [List.take_add_one,hy];rfl
 rw [e1,e2];unfold joinC;rw [List.zipWith_append (by rw [List.length_take,List.length_take];omega)]
 simp
def R_join (ps rs:List Pa):Prop:=∃ a b:Ck,ps=[ckPa a,ckPa b]∧(a.length=8∧b.length=8)∧rs=[ckPa (joinC a b)]
theorem s_join:Spec Try.prog 79 R_join:=by
 refine sp79 EnvOK.e0 ?_;rintro ps rs ⟨a,b,rfl,⟨ha,hb⟩,rfl⟩;refine ⟨by simp,?_⟩;unfold pc79;refine pwp_start ?_;simp only [↓evP,evB,stB,reduceIte,reduceCtorEq,Nat.reduceEqDiff,Nat.reduceAdd,Nat.reduceMul,Nat.reduceLeDiff,Nat.reduceLT,Nat.reduceSub,Nat.reduceBEq,ckPa,ckRow_cells];refine pwp_loopW ms79_0 os79_0 (fun m st=>∃ k:Nat,m=8 - k∧k≤8∧st.sl 6=aI k∧st.gen 2=1∧st.ob 2=.cells (ckCells (joinTo a b k))) 8 ?_ ?_
 ·exact ⟨0,rfl,Nat.zero_le _,by simp only [stB,reduceIte,reduceCtorEq,Nat.reduceEqDiff,Nat.reduceAdd,Nat.reduceMul,Nat.reduceLeDiff,Nat.reduceLT,Nat.reduceSub,Nat.reduceBEq];rfl,by simp only [stB,reduceIte,reduceCtorEq,Nat.reduceEqDiff,Nat.reduceAdd,Nat.reduceMul,Nat.reduceLeDiff,Nat.reduceLT,Nat.reduceSub,Nat.reduceBEq],by simp only [stB,reduceIte,reduceCtorEq,Nat.reduceEqDiff,Nat.reduceAdd,Nat.reduceMul,Nat.reduceLeDiff,Nat.reduceLT,Nat.reduceSub,Nat.reduceBEq,joinTo_zero]⟩
 ·rintro m j ⟨k,rfl,hk,h6,g2,o2⟩;simp only [stB,reduceIte,reduceCtorEq,seval] at h6 g2 o2
  rcases Nat.lt_or_ge k 8 with hlt | hge
  ·obtain ⟨x,hx⟩:∃ x,a[k]? = some x:=⟨_,List.getElem?_eq_getElem (by omega)⟩
   obtain ⟨y,hy⟩:∃ y,b[k]? = some y:=⟨_,List.getElem?_eq_getElem (by omega)⟩
   have hlt':(k:Int) < 8:=by omega
   have h0:(0:Int)≤(k:Int):=by omega
   have hlt8:(k:Int) < ((8:Nat):Int):=by omega
   have e1:=ckCells_get _ _ _ (joinTo_get ha hb hlt hx);have e2:=ckCells_get _ _ _ hy;have e3:k+1≤(ckCells (joinTo a b k)).length:=by rw [ckCells_length,joinTo_length ha hb hk];omega
   have e4:=(ckCells_set (joinTo a b k) k (if y > x then y else x) (by rw [joinTo_length ha hb hk];omega)).trans (congrArg ckCells (joinTo_succ ha hb hlt hx hy))
   simp only [↓evP,evB,stB,reduceIte,reduceCtorEq,seval,h6,g2,o2,hlt',hlt8,h0,e1,e2,e3,e4,Nat.mul_one,List.foldl_cons,List.foldl_nil];refine ⟨(by unfold Drw;kernel_rfl),?_⟩
   exact ⟨_,by omega,(by repeat' (first | assumption | exact within_over.mpr trivial | exact Within.refl _ _ _ | (refine within_ap ?_ rfl rfl) | (refine within_ap0 ?_ rfl))),k+1,rfl,by omega,by simp only [stB,reduceIte,reduceCtorEq,seval,h6];rw [wrN (by omega)],by simp only [stB,reduceIte,reduceCtorEq,seval,g2],by simp only [stB,reduceIte,reduceCtorEq,seval,o2,wrF_cells];rw [e4]⟩
  ·have hk8:k=8:=by omega
   subst hk8;have hlt':¬ ((8:Nat):Int) < 8:=by omega
   have e3:0+8≤(ckCells (joinTo a b 8)).length:=by rw [ckCells_length,joinTo_length ha hb (by omega)];omega
   have e4:(ckCells (joinTo a b 8)).take 8=ckCells (joinTo a b 8):=List.take_of_length_le (by rw [ckCells_length,joinTo_length ha hb (by omega)];omega)
   have e5:(ckCells (joinTo a b 8)).length=8:=by rw [ckCells_length,joinTo_length ha hb (by omega)]
   simp only [↓evP,evB,stB,reduceIte,reduceCtorEq,seval,h6,g2,o2,hlt',e3,e4,e5,wr_new8 (joinTo_length ha hb (Nat.le_refl 8)),ckCells_dt,pr79];rw [joinTo_all ha hb]
def cksPa (l:List Ck):Pa:=.one (.im (l.map ckRow))
theorem ld8 {a:Ck} (ha:a.length=8):0+8≤(ckCells a).length∧(ckCells a).take 8=ckCells a:=by
 have h:(ckCells a).length=8:=by rw [ckCells_length,ha]
 exact ⟨by omega,List.take_of_length_le (by omega)⟩
def tickC (c:Ck) (g:Int):Ck:=if 0≤g∧g < 8∧c.getD g.toNat 0 < 9223372036854775807 then c.set g.toNat (c.getD g.toNat 0+1) else c
theorem tickC_length {c:Ck} {g:Int}:(tickC c g).length=c.length:=by unfold tickC;split <;> simp
theorem tick_get {c:Ck} (hc:c.length=8) {g:Int} (h0:0≤g) (h8:g < 8):c[g.toNat]? = some (c.getD g.toNat 0):=by
 rw [List.getD_eq_getElem?_getD,List.getElem?_eq_getElem (show g.toNat < c.length by omega)];rfl
def OK64 (c:Ck):Prop:=∀ x,x ∈ c→-9223372036854775808≤x∧x≤9223372036854775807
def R_tick (ps rs:List Pa):Prop:=∃ (c:Ck) (g:Int),ps=[ckPa c,pI g]∧(c.length=8∧OK64 c)∧rs=[ckPa (tickC c g)]
theorem R_tick.mk {c:Ck} {g:Int} (h:c.length=8) (ho:OK64 c):R_tick [ckPa c,pI g] [ckPa (tickC c g)]:=⟨c,g,rfl,⟨h,ho⟩,rfl⟩
theorem s_cTick:Spec Try.prog 77 R_tick:=by
 refine sp77 EnvOK.e0 ?_;rintro ps rs ⟨c,g,rfl,⟨hc,ho⟩,rfl⟩;refine ⟨by simp,?_⟩;obtain ⟨a1,a2⟩:=ld8 hc;have a5:(ckCells c).length=8:=by rw [ckCells_length,hc]
 unfold pc77;refine pwp_start ?_;simp only [↓evP,evB,stB,reduceIte,reduceCtorEq,seval,ckPa,ckRow_cells];have done:tickC c g=c→True:=fun _=>trivial
 by_cases h0:g≥0
 case neg =>
  have ht:tickC c g=c:=by unfold tickC;rw [if_neg (by omega)]
  simp only [↓evP,evB,stB,reduceIte,reduceCtorEq,seval,h0,decide_false,a1,a2,a5,wr_new8 hc,ckCells_dt,ht,pr77]
 by_cases h8:g < 8
 case neg =>
  have ht:tickC c g=c:=by unfold tickC;rw [if_neg (by omega)]
  simp only [↓evP,evB,stB,reduceIte,reduceCtorEq,seval,h0,h8,decide_true,decide_false,a1,a2,a5,wr_new8 hc,ckCells_dt,ht,pr77]
 have hg:=tick_get hc h0 h8;have e1:=ckCells_get _ _ _ hg;have h8':g < ((8:Nat):Int):=by omega
 have h0':0≤g:=h0
 by_cases hm:c.getD g.toNat 0 < 9223372036854775807
 ·have ht:tickC c g=c.set g.toNat (c.getD g.toNat 0+1):=by unfold tickC;rw [if_pos ⟨h0,h8,hm⟩]
  have hw:IntKind.i64.wrap (c.getD g.toNat 0+1)=c.getD g.toNat 0+1:=wr64 (by have:=(ho _ (List.mem_of_getElem? hg)).1;omega) (by omega)
  have e4:=ckCells_set c g.toNat (c.getD g.toNat 0+1) (by omega);have e3:g.toNat+1≤(ckCells c).length:=by omega
  have l2:(c.set g.toNat (c.getD g.toNat 0+1)).length=8:=by rw [List.length_set,hc]
  obtain ⟨b1,b2⟩:=ld8 l2;have b5:(ckCells (c.set g.toNat (c.getD g.toNat 0+1))).length=8:=by rw [ckCells_length,l2]
  simp only [↓evP,evB,stB,reduceIte,reduceCtorEq,seval,h0,h0',h8,h8',hm,e1,e3,hw,Nat.mul_one,decide_true,decide_false,wrF_cells,e4,b1,b2,b5,wr_new8 l2,ckCells_dt,ht,pr77]
 ·have ht:tickC c g=c:=by unfold tickC;rw [if_neg (by omega)]
  simp only [↓evP,evB,stB,reduceIte,reduceCtorEq,seval,h0,h0',h8,h8',hm,e1,Nat.mul_one,decide_true,decide_false,a1,a2,a5,wr_new8 hc,ckCells_dt,ht,pr77]
end Go.Proofs.Ytffcpijeebagfaa
end
section
namespace Go.Proofs.Ytffcpijeebagfaa
open Go Go.RowKit
section
def paHw:Pa→Hw
 | .one x=>.one (.d x)
 | .agg xs=>.agg (xs.map .d)
theorem paHw_bv (p:Pa):(paHw p).bv=p.bv:=by
 cases p with
 | one x=>rfl
 | agg xs =>
   show Bv.agg ((xs.map Hc.d).map Hc.cl)=.agg (xs.map Cl.d)
   rw [List.map_map];rfl
theorem paHw_rp {W:Wit} {w:World} {p:Pa} {v:Value}:RHw W w (paHw p) v↔RP W.S w p v:=by
 unfold RHw;rw [paHw_bv]
 cases p with
 | one x=>exact Iff.rfl
 | agg xs =>
   constructor
   ·rintro ⟨arr,h1,h2,h3⟩;refine ⟨arr,h1,by simpa using h2,fun i x u e1 e2=>h3 i (.d x) u (by rw [List.getElem?_map,e1];rfl) (by rw [Array.getElem?_toList];exact e2)⟩
   ·rintro ⟨arr,h1,h2,h3⟩;refine ⟨arr,h1,by simpa using h2,fun i c u e1 e2=>?_⟩;rw [List.getElem?_map,Option.map_eq_some_iff] at e1;obtain ⟨x,hx,rfl⟩:=e1;exact h3 i x u hx (by rw [Array.getElem?_toList] at e2;exact e2)
theorem paHws {W:Wit} {w:World} {ps:List Pa} {vals:Array Value}:RHws W w (ps.map paHw) vals↔RPs W.S w ps vals:=by
 constructor
 ·rintro ⟨h1,h2⟩;exact ⟨by simpa using h1,fun i p u e1 e2=>paHw_rp.1 (h2 i _ u (by rw [List.getElem?_map,e1];rfl) e2)⟩
 ·rintro ⟨h1,h2⟩;refine ⟨by simpa using h1,fun i p u e1 e2=>?_⟩;rw [List.getElem?_map,Option.map_eq_some_iff] at e1;obtain ⟨x,hx,rfl⟩:=e1;exact paHw_rp.2 (h2 i x u hx e2)
theorem paRR {W:Wit} {w:World} {rs:List Pa} {u:Value}:RRH W w (rs.map paHw) u↔RR W.S w rs u:=by
 match rs with
 | []=>exact Iff.rfl
 | [p]=>exact paHw_rp
 | p :: q :: r =>
   constructor
   ·rintro ⟨vs,h1,h2⟩;exact ⟨vs,h1,paHws.1 h2⟩
   ·rintro ⟨vs,h1,h2⟩;exact ⟨vs,h1,paHws.2 h2⟩
theorem RHp.upd {W W':Wit} {w w':World} {hp:Nat→Hb} (h:RHp W w hp) (hf:Fol W G0 O0 w W' G0 O0 w') {b:Nat} {x:Hb} (hx:x≠.no) (hlv:∀ m,W'.lv m↔m=b∨W.lv m) (hhf:∀ m,m≠b→W'.hf m=W.hf m)
 (hS:∀ k,k < w.heap.size→W'.S k=W.S k) (hsz:w.heap.size≤w'.heap.size) (hbl:∀ m,m≠b→∀ k,hcl W m (hp m) k→w'.heap[k]? = w.heap[k]?) (hn:RH W' G0 O0 w' b x)
 (hm:∀ k,hcl W' b x k→W'.S k=0∧k < w'.heap.size∧∀ m,m≠b→¬ hcl W m (hp m) k):RHp W' w' (up hp b x):=by
 have hat:∀ m,m≠b→up hp b x m=hp m:=fun m hm2=>by rw [up_at,if_neg hm2]
 have hself:up hp b x b=x:=by rw [up_at,if_pos rfl]
 have hc:∀ m,m≠b→∀ k,hcl W' m (up hp b x m) k↔hcl W m (hp m) k:=fun m hm2 k=>by
  rw [hat m hm2];exact hcl.fol hf (fun hne=>(h.lv m).2 hne) (hhf m hm2) k
 refine ⟨fun m=>?_,fun m k hk=>?_,fun m=>?_,fun m m' k e1 e2=>?_⟩
 ·rw [hlv]
  by_cases hmb:m=b
  ·subst hmb;rw [hself];exact ⟨fun _=>hx,fun _=>.inl rfl⟩
  ·rw [hat m hmb,←h.lv m];exact ⟨fun q=>q.resolve_left hmb,.inr⟩
 ·by_cases hmb:m=b
  ·subst hmb;rw [hself] at hk;exact ⟨(hm k hk).1,(hm k hk).2.1⟩
  ·obtain ⟨q1,q2⟩:=h.mine m k ((hc m hmb k).1 hk);exact ⟨by rw [hS k q2];exact q1,by omega⟩
 ·by_cases hmb:m=b
  ·subst hmb;rw [hself];exact hn
  ·rw [hat m hmb];exact RH.fol hf (h.at_ m) (fun hne=>(h.lv m).2 hne) (hhf m hmb) (hbl m hmb)
 ·by_cases hmb:m=b
  ·by_cases hmb':m'=b
   ·rw [hmb,hmb']
   ·subst hmb;rw [hself] at e1;exact absurd ((hc m' hmb' k).1 e2) ((hm k e1).2.2 m' hmb')
  ·by_cases hmb':m'=b
   ·subst hmb';rw [hself] at e2;exact absurd ((hc m hmb k).1 e1) ((hm k e2).2.2 m hmb)
   ·exact h.ex m m' k ((hc m hmb k).1 e1) ((hc m' hmb' k).1 e2)
theorem hw_head {W:Wit} {w:World} {b:Nat} {az:List Hw} {vals:Array Value} (h:RHws W w (.one (.h (.v b)) :: az) vals):W.lv b∧∃ vals':Array Value,vals=#[W.nv b] ++ vals'∧RHws W w az vals':=by
 obtain ⟨h1,h2⟩:=h;have hpos:0 < vals.size:=by rw [←h1];simp
 have h0:=h2 0 _ vals[0] rfl (Array.getElem?_eq_getElem hpos);obtain ⟨e1,e2,e3⟩:vals[0]=rv W (.v b)∧_∧W.lv b:=h0;refine ⟨e3,vals.extract 1 vals.size,?_,?_,fun i x u q1 q2=>h2 (i+1) x u q1 ?_⟩
 ·apply Array.ext'
  have:vals.toList≠[]:=fun hn=>by
   have h3:=congrArg List.length hn;rw [Array.length_toList] at h3;have h4:vals.size=0:=h3;omega
  obtain ⟨y,ys,hy⟩:=List.exists_cons_of_ne_nil this;have hv:vals=(y :: ys).toArray:=by apply Array.ext';simpa using hy
  subst hv;have:y=W.nv b:=e1;subst this;simp
 ·simp;simp at h1;omega
 ·rw [Array.getElem?_extract] at q2;split at q2
  ·rw [←q2,Nat.add_comm]
  ·cases q2
theorem but_ext {W:Wit} {w w':World} {fp:Nat→Prop} {S':Nat→Nat} (h:ButF fp w w') (h0:∀ b,fp b→W.S b=0) (hS:∀ b,b < w.heap.size→S' b=W.S b):Ext W.S S' w w':=fun b i h1 h2=>by
 have hlt:=cell_lt h2;have hnf:¬ fp b:=fun q=>by rw [h0 b q] at h1;omega
 exact ⟨by rw [hS b hlt];exact h1,by simp [World.cell?,h.block b hlt hnf]⟩
variable {P:Program} {f:Nat}
theorem SpecA.toH [I:WInv] {R:Option HP→List Pa→HP→List Pa→Prop} (h:SpecA P f R):SpecH P f (fun hp az hp' rs=>∃ b H ps H' rs',az=.one (.h (.v b)) :: ps.map paHw∧hp b=.ab H∧R (some H) ps H' rs'∧hp'=up hp b (.ab H')∧rs=rs'.map paHw):=by
 rintro hp az hp' rs ⟨b,H,ps,H',rs',rfl,hb,hR,rfl,rfl⟩ W w vals hI hrp hvals;obtain ⟨hlb,vals',rfl,hv'⟩:=hw_head hvals;have hat:H.r w (W.nv b) (W.hf b):=by have:=hrp.at_ b;rw [hb] at this;exact this
 have hmine:∀ k,W.hf b k→W.S k=0∧k < w.heap.size:=fun k hk=>hrp.mine b k (by rw [hb];exact hk)
 refine (h _ _ _ _ hR W.S w vals' (hI w ⟨rfl,rfl,rfl,Nat.le_refl _,fun _ _ _=>rfl⟩) (paHws.1 hv') (W.nv b) (W.hf b) hat (fun k hk=>(hmine k hk).1)).mono ?_;rintro e w' ⟨u,S',fp',rfl,q1,q2,q3,q4,q5⟩
 obtain ⟨W',hW'⟩:∃ W':Wit,{ W with S:=S',hf:=up W.hf b fp' }=W':=⟨_,rfl⟩
 have e1:W'.S=S':=by rw [←hW']
 have e2:W'.nm=W.nm∧W'.nv=W.nv∧W'.lv=W.lv:=by rw [←hW'];exact ⟨rfl,rfl,rfl⟩
 have e3:W'.hf=up W.hf b fp':=by rw [←hW']
 have hfol:Fol W G0 O0 w W' G0 O0 w':=⟨by rw [e1];exact but_ext q3 (fun k hk=>(hmine k hk).1) q5,fun _=>Nat.le_refl _,fun _ _=>by rw [←hW'],fun o E sz n' _ ho=>(by cases ho),fun _ _=>by rw [←hW'],fun m hm=>⟨by rw [e2.2.2];exact hm,by rw [e2.1],by rw [e2.2.1]⟩,by rw [←hW']⟩
 have hsub:∀ k,W.hf b k→hpFp W hp k:=fun k hk=>⟨b,by rw [hb];exact hk⟩
 have hrp':RHp W' w' (up hp b (.ab H')):=by
  refine hrp.upd hfol (by simp) (fun m=>?_) (fun m hm=>by rw [e3,up_at,if_neg hm]) (fun k hk=>by rw [e1];exact q5 k hk) q3.size (fun m hm k hk=>?_) ?_ (fun k hk=>?_)
  ·rw [e2.2.2];exact ⟨.inr,fun q=>q.elim (fun q=>by rw [q];exact hlb) id⟩
  ·have:=(hrp.mine m k hk).2;refine q3.block k this (fun hf2=>hm (hrp.ex m b k hk (by rw [hb];exact hf2)))
  ·show H'.r w' (W'.nv b) (W'.hf b)
   rw [e2.2.1,e3,up_at,if_pos rfl];exact q2
  ·have hk':W'.hf b k:=hk;rw [e3,up_at,if_pos rfl] at hk';obtain ⟨r1,r2⟩:=q4 k hk';refine ⟨by rw [e1];exact r2,H'.lt _ _ _ _ q2 hk',fun m hm hk2=>?_⟩
   rcases r1 with r1 | r1
   ·exact hm (hrp.ex m b k hk2 (by rw [hb];exact r1))
   ·have:=(hrp.mine m k hk2).2;omega
 refine ⟨u,W',rfl,paRR.2 (by rw [e1];exact q1),hrp',fun m hm=>⟨by rw [e2.2.2];exact hm,by rw [e2.1],by rw [e2.2.1]⟩,⟨q3.os,q3.tape,q3.output,q3.size,fun k hk hn=>q3.block k hk (fun q=>hn (hsub k q))⟩,fun k hk=>?_,fun k hk=>by rw [e1];exact q5 k hk⟩
 obtain ⟨m,hm⟩:=hk
 by_cases hmb:m=b
 ·subst hmb;rw [up_at,if_pos rfl] at hm;have hk':W'.hf m k:=hm;rw [e3,up_at,if_pos rfl] at hk';exact (q4 k hk').1.imp (hsub k) id
 ·rw [up_at,if_neg hmb] at hm;refine .inl ⟨m,(hcl.fol hfol (fun hne=>(hrp.lv m).2 hne) (by rw [e3,up_at,if_neg hmb]) k).1 hm⟩
theorem new_rhp {W:Wit} {w w':World} {hp:Nat→Hb} {b:Nat} {H:HP} {S':Nat→Nat} {adr:Value} {fp':Nat→Prop} (hrp:RHp W w hp) (hb:hp b=.no) (hone:adr.oneCell'=true) (hr:H.r w' adr fp') (hbe:Below w.heap.size w w') (hfp:∀ k,fp' k→w.heap.size≤k∧S' k=0) (hS:∀ k,k < w.heap.size→S' k=W.S k)
 {W':Wit} (hW':W'={ W with S:=S',nv:=up W.nv b adr,hf:=up W.hf b fp',lv:=fun m=>m=b∨W.lv m }) :
 RHp W' w' (up hp b (.ab H))∧(∀ m,W.lv m→W'.lv m∧W'.nm m=W.nm m∧W'.nv m=W.nv m)∧ButF (hpFp W hp) w w'∧(∀ k,hpFp W' (up hp b (.ab H)) k→hpFp W hp k∨w.heap.size≤k)∧(∀ k,k < w.heap.size→W'.S k=W.S k)∧RHw W' w' (.one (.h (.v b))) adr:=by
 have hnl:¬ W.lv b:=fun q=>(hrp.lv b).1 q hb
 have hne:∀ m,W.lv m→m≠b:=fun m hm e=>hnl (e ▸ hm)
 have e1:W'.S=S':=by rw [hW']
 have hnm:∀ m,W.lv m→W'.lv m∧W'.nm m=W.nm m∧W'.nv m=W.nv m:=fun m hm=>by
  rw [hW'];exact ⟨.inr hm,rfl,by show up W.nv b adr m=_;rw [up_at,if_neg (hne m hm)]⟩
 have hfol:Fol W G0 O0 w W' G0 O0 w':=⟨by
  rw [e1];exact but_ext (fp:=fun _=>False) ⟨hbe.os,hbe.tape,hbe.output,hbe.size,fun k hk _=>hbe.block k hk⟩ (fun _ q=>q.elim) hS,fun _=>Nat.le_refl _,fun _ _=>by rw [hW'],fun o E sz n' _ ho=>(by cases ho),fun _ _=>by rw [hW'],hnm,by rw [hW']⟩
 have ehf:W'.hf=up W.hf b fp':=by rw [hW']
 have env':W'.nv b=adr:=by rw [hW'];show up W.nv b adr b=_;rw [up_at,if_pos rfl]
 have hself:W'.hf b=fp':=by rw [ehf,up_at,if_pos rfl]
 refine ⟨hrp.upd hfol (by simp) (fun m=>by rw [hW']) (fun m hm=>by rw [ehf,up_at,if_neg hm]) (fun k hk=>by rw [e1];exact hS k hk) hbe.size (fun m hm k hk=>hbe.block k (hrp.mine m k hk).2) ?_ (fun k hk=>?_),hnm,⟨hbe.os,hbe.tape,hbe.output,hbe.size,fun k hk _=>hbe.block k hk⟩,fun k ⟨m,hm⟩=>?_,fun k hk=>by rw [e1];exact hS k hk,?_⟩
 ·show H.r w' (W'.nv b) (W'.hf b)
  rw [env',hself];exact hr
 ·have hk':W'.hf b k:=hk;rw [hself] at hk';refine ⟨by rw [e1];exact (hfp k hk').2,H.lt _ _ _ _ hr hk',fun m hm hk2=>?_⟩
  have:=(hrp.mine m k hk2).2;have:=(hfp k hk').1;omega
 ·by_cases hmb:m=b
  ·subst hmb;rw [up_at,if_pos rfl] at hm;have hk':W'.hf m k:=hm;rw [hself] at hk';exact .inr (hfp k hk').1
  ·rw [up_at,if_neg hmb] at hm;exact .inl ⟨m,(hcl.fol hfol (fun hne=>(hrp.lv m).2 hne) (by rw [ehf,up_at,if_neg hmb]) k).1 hm⟩
 ·refine ⟨env'.symm,hone,?_⟩
  show W'.lv b
  rw [hW'];exact .inl rfl
theorem SpecA.toHn [I:WInv] {R:Option HP→List Pa→HP→List Pa→Prop} (h:SpecA P f R):SpecH P f (fun hp az hp' rs=>∃ b ps H',az=ps.map paHw∧hp b=.no∧R none ps H' []∧hp'=up hp b (.ab H')∧rs=[.one (.h (.v b))]):=by
 rintro hp az hp' rs ⟨b,ps,H',rfl,hb,hR,rfl,rfl⟩ W w vals hI hrp hvals;refine (h _ _ _ _ hR W.S w vals (hI w ⟨rfl,rfl,rfl,Nat.le_refl _,fun _ _ _=>rfl⟩) (paHws.1 hvals)).mono ?_;rintro e w' ⟨u,S',adr,fp',rfl,q1,q2,q3,q4,q5,q6⟩;obtain ⟨r1,r2,r3,r4,r5,r6⟩:=new_rhp hrp hb q2 q3 q4 q5 q6 rfl;have hu:u=adr:=q1;exact ⟨u,_,rfl,by rw [hu];exact r6,r1,r2,r3,r4,r5⟩
theorem SpecC.toH [I:WInv] {R:HP→HP→Prop} (h:SpecC P f R):SpecH P f (fun hp az hp' rs=>∃ b H b2 H2,az=[.one (.h (.v b))]∧hp b=.ab H∧hp b2=.no∧R H H2∧hp'=up hp b2 (.ab H2)∧rs=[.one (.h (.v b2))]):=by
 rintro hp az hp' rs ⟨b,H,b2,H2,rfl,hb,hb2,hR,rfl,rfl⟩ W w vals hI hrp hvals;obtain ⟨hlb,vals',rfl,hv'⟩:=hw_head hvals
 have hz:vals'=#[]:=by
  have:=hv'.1;simp at this;exact Array.size_eq_zero_iff.1 this.symm
 subst hz;have hat:H.r w (W.nv b) (W.hf b):=by have:=hrp.at_ b;rw [hb] at this;exact this
 refine (h _ _ hR w (W.nv b) (W.hf b) (hI w ⟨rfl,rfl,rfl,Nat.le_refl _,fun _ _ _=>rfl⟩) hat).mono ?_;rintro e w' ⟨adr,fp',rfl,q2,q3,q4,q5⟩;obtain ⟨r1,r2,r3,r4,r5,r6⟩:=new_rhp (S':=fun k=>if k < w.heap.size then W.S k else 0) hrp hb2 q2 q3 q4 (fun k hk=>⟨q5 k hk,if_neg (by have:=q5 k hk;omega)⟩) (fun k hk=>if_pos hk) rfl
 exact ⟨adr,_,rfl,r6,r1,r2,r3,r4,r5⟩
theorem SpecP.toS [I:WInv] {R:(Nat→Hb)→List Hw→((Nat→Hb)→List Hw→Prop)→Prop} (h:SpecP P f R):Spec P f (fun ps rs=>∃ Post,R (fun _=>.no) (ps.map paHw) Post∧∀ hp' rs',Post hp' rs'→rs'=rs.map paHw):=by
 rintro ps rs ⟨Post,hR,hP⟩ S w vals hI hvals;have hemp:∀ (W:Wit) k,¬ hpFp W (fun _=>.no) k:=fun W k ⟨b,q⟩=>q
 let W:Wit:=⟨fun _=>0,fun _=>undef,fun _=>undef,fun _ _=>False,S,fun _=>0,fun _=>undef,fun _ _=>False,fun _=>0,fun _=>False⟩
 have tob:∀ {w':World},ButF (hpFp W (fun _=>.no)) w w'→Below w.heap.size w w':=fun q=>⟨q.os,q.tape,q.output,q.size,fun k hk=>q.block k hk (hemp W k)⟩
 refine (h _ _ _ hR W w vals (fun w' q=>I.keep w w' (tob q) hI) ⟨fun b=>⟨fun q=>q.elim,fun q=>absurd rfl q⟩,fun b k q=>q.elim,fun b=>trivial,fun b b' k q=>q.elim⟩ (paHws.2 hvals)).mono ?_;rintro e w' ⟨hp',rs',hPo,u,W',rfl,q1,q2,q3,q4,q5,q6⟩;have:=hP hp' rs' hPo;subst this;exact ⟨u,W'.S,rfl,paRR.1 q1,tob q4,q6⟩
end
end Go.Proofs.Ytffcpijeebagfaa
end
section
namespace Go.Proofs.Ytffcpijeebagfaa
open Go Go.RowKit
set_option maxRecDepth 100000
set_option maxHeartbeats 4000000
abbrev hI (x:Int):Hc:=.d (.sc (.int .i64 x))
abbrev hP (b off:Nat):Hw:=.one (.h (.p b off))
def ckH (c:Ck):List Hc:=c.map hI
def ckHw (c:Ck):Hw:=.agg (ckH c)
theorem ckH_cl (c:Ck):(ckH c).map Hc.cl=ckCells c:=by unfold ckH ckCells;rw [List.map_map];rfl
theorem ckH_length (c:Ck):(ckH c).length=c.length:=List.length_map ..
theorem ckCells_hc (c:Ck):allSome ((ckCells c).map Cl.hc)=some (ckH c):=by
 induction c with
 | nil=>rfl
 | cons x c ih =>
   show (allSome ((ckCells c).map Cl.hc)).map (hI x :: ·)=_
   rw [ih];rfl
theorem hwrAt_full {cs ds:List Hc} (h:cs.length=ds.length):hwrAt cs 0 ds=ds:=by
 induction cs generalizing ds with
 | nil=>cases ds with
   | nil=>rfl
   | cons d ds=>simp at h
 | cons c cs ih=>cases ds with
   | nil=>simp at h
   | cons d ds =>
     simp only [hwrAt];rw [ih (by simpa using h)]
theorem ckWr {c d:Ck} (hc:c.length=8) (hd:d.length=8):hwrAt (ckH c) 0 (ckH d)=ckH d:=hwrAt_full (by rw [ckH_length,ckH_length,hc,hd])
theorem ckLd {c:Ck} (hc:c.length=8):0+8≤(ckCells c).length∧(ckCells c).take 8=ckCells c:=ld8 hc
theorem joinC_length {a b:Ck} (ha:a.length=8) (hb:b.length=8):(joinC a b).length=8:=by unfold joinC;rw [List.length_zipWith,ha,hb];rfl
def objK (k x y:Int):Value:=.agg #[.int .i64 k,.int .i64 x,.int .i64 y]
theorem keyedO:Maps.Keyed Try.prog 117:=Maps.Keyed.of_law (deep_law_gate (by kernel_rfl) (of_decide_eq_true (by kernel_rfl)) (of_decide_eq_true (by kernel_rfl)) (by kernel_rfl) (by kernel_rfl))
theorem keyedInt:Maps.Keyed Try.prog 3:=Maps.int_keyed Try.underlying3
def in64 (x:Int):Prop:=-9223372036854775808≤x∧x≤9223372036854775807
theorem in64.wf {x:Int} (h:in64 x):(Lit.int .i64 x).wf=true:=by
 simp [Lit.wf,IntKind.min,IntKind.max,IntKind.signed,IntKind.bits];exact ⟨h.1,by have:=h.2;omega⟩
theorem kl_int (d:Nat) {a:Int} (h:in64 a):Try.prog.keyLits (d+1) 3 [.int .i64 a]=some [.int .i64 a]:=by
 simp [Program.keyLits,Try.underlying3,h.wf]
theorem kl_loc (d:Nat) {a b:Int} (ha:in64 a) (hb:in64 b):Try.prog.keyLits (d+2) 98 [.int .i64 a,.int .i64 b]=some [.int .i64 a,.int .i64 b]:=by
 have hc:Try.prog.cellsOf 98=2:=by kernel_rfl
 have hi:Try.prog.cellsOf 3=1:=by kernel_rfl
 unfold Program.keyLits;rw [Try.underlying98];dsimp only;rw [if_pos ⟨by simp [hc],by kernel_rfl⟩];simp [hi,kl_int d ha,kl_int d hb]
theorem kl_obj (d:Nat) {k a b:Int} (hk:in64 k) (ha:in64 a) (hb:in64 b):Try.prog.keyLits (d+3) 117 [.int .i64 k,.int .i64 a,.int .i64 b]=some [.int .i64 k,.int .i64 a,.int .i64 b]:=by
 have hc:Try.prog.cellsOf 117=3:=by kernel_rfl
 have hl:Try.prog.cellsOf 98=2:=by kernel_rfl
 have hi:Try.prog.cellsOf 3=1:=by kernel_rfl
 unfold Program.keyLits;rw [Try.underlying117];dsimp only;rw [if_pos ⟨by simp [hc],by kernel_rfl⟩];simp [hi,hl,kl_int (d+1) hk,kl_loc d ha hb]
theorem keyOf_obj {k a b:Int} (hk:in64 k) (ha:in64 a) (hb:in64 b):(keyOf Try.prog 117 (.agg #[.int .i64 k,.int .i64 a,.int .i64 b])).isSome=true:=by
 obtain ⟨d,hd⟩:∃ d,Try.prog.types.size+1=d+3:=⟨Try.prog.types.size - 2,by have:2≤Try.prog.types.size:=of_decide_eq_true (by kernel_rfl);omega⟩
 have h1:Try.prog.keyType 117=true:=by kernel_rfl
 have hc:Try.prog.cellsOf 117=3:=by kernel_rfl
 unfold keyOf;rw [Try.underlying117];dsimp only;rw [if_pos (by simp [h1,Value.formed,Try.underlying117,hc]),hd];simp only [Value.cells];rw [kl_obj d hk ha hb];rfl
theorem keyOf_i {a:Int} (ha:in64 a):(keyOf Try.prog 3 (.int .i64 a)).isSome=true:=by
 rw [Maps.keyOf_int_mk Try.underlying3 ha.wf];rfl
theorem R_join.mk {a b:Ck} (ha:a.length=8) (hb:b.length=8):R_join [ckPa a,ckPa b] [ckPa (joinC a b)]:=⟨a,b,rfl,⟨ha,hb⟩,rfl⟩
def OAt (es:List (Value×Nat×Hw)) (k:Value) (d:Ck):Prop:=(∃ n,alook es k=some (n,ckHw d))∨(alook es k=none∧d=ckZ)
def R_acq (hp:Nat→Hb) (az:List Hw) (hp':Nat→Hb) (rs:List Hw):Prop :=
 ∃ (k x y:Int) (bc bt ba b0 bo:Nat) (T:List Hc) (es:List (Value×Nat×Hw)) (cl:Nat) (c d:Ck),
   az=[.one (hI k),hP bc 0,hP bt 0,hP ba 0]∧(hp bc=.cells (ckH c)∧c.length=8∧hp bt=.cells [.h (.p b0 0)]∧hp ba=.cells [hI x,hI y]∧hp b0=.cells T∧T[65]? = some (.h (.m bo))∧hp bo=.map 117 es cl) ∧
   (in64 k∧in64 x∧in64 y)∧(OAt es (objK k x y) d∧d.length=8)∧hp'=up hp bc (.cells (ckH (joinC c d)))∧rs=[]
def env_acq:Env:=e1 79 R_join e0
theorem envOK_acq:EnvOK Try.prog env_acq:=.e1 s_join .e0
theorem s_acq:SpecH Try.prog 78 R_acq:=by
 refine spt78 envOK_acq ?_;rintro hp az hp' rs ⟨k,x,y,bc,bt,ba,b0,bo,T,es,cl,c,d,rfl,⟨h1,h2,h3,h4,h5,h6,h7⟩,⟨hk,hx,hy⟩,⟨ho,hd⟩,rfl,rfl⟩;refine ⟨by simp,fun _=>1,?_⟩;have hkey:=keyOf_obj hk hx hy;obtain ⟨l1,l2⟩:=ckLd h2;have q1:0+8≤(ckH c).length:=by rw [ckH_length,h2];exact Nat.le_refl _
 have q2:=joinC_length h2 hd;have q3:(ckCells (joinC c d)).length=8:=by rw [ckCells_length,q2]
 have q4:=ckWr h2 q2;unfold pct78;refine pwp_start ?_
 rcases ho with ⟨n,ho⟩ | ⟨ho,rfl⟩
 ·unfold objK at ho;simp only [↓evP,evB,stB,reduceIte,reduceCtorEq,seval,h1,h3,h4,h5,h6,h7,ho,hkey,ckH_cl,l1,l2,ckHw,ckCells_dt,Nat.add_zero];refine callD_intro [ckPa (joinC c d)] (by exact R_join.mk h2 hd) ?_;simp only [↓evP,evB,stB,reduceIte,reduceCtorEq,seval,ckPa,ckRow_cells,h1,q1,q3,ckCells_hc,q4,prt78];exact (by unfold Drw;refine Eq.trans (b:=true) ?_ rfl;kernel_rfl)
 ·unfold objK at ho;simp only [↓evP,evB,stB,reduceIte,reduceCtorEq,seval,h1,h3,h4,h5,h6,h7,ho,hkey,ckH_cl,l1,l2,ckHw,ckCells_dt,Nat.add_zero];refine callD_intro [ckPa (joinC c ckZ)] (by exact R_join.mk h2 hd) ?_;simp only [↓evP,evB,stB,reduceIte,reduceCtorEq,seval,ckPa,ckRow_cells,h1,q1,q3,ckCells_hc,q4,prt78];exact (by unfold Drw;refine Eq.trans (b:=true) ?_ rfl;kernel_rfl)
noncomputable def ckl (es:List (Value×Nat×Hw)) (cl:Nat) (k:Value):Nat:=match alook es k with
 | some _=>cl
 | none=>cl+1
def R_rel1 (hp:Nat→Hb) (az:List Hw) (hp':Nat→Hb) (rs:List Hw):Prop :=
 ∃ (k x y:Int) (bc bt ba b0 bo:Nat) (T:List Hc) (es:List (Value×Nat×Hw)) (cl:Nat) (c d:Ck),
   az=[.one (hI k),hP bt 0,hP ba 0,hP bc 0]∧(hp bc=.cells (ckH c)∧c.length=8∧hp bt=.cells [.h (.p b0 0)]∧hp ba=.cells [hI x,hI y]∧hp b0=.cells T∧T[65]? = some (.h (.m bo))∧hp bo=.map 117 es cl) ∧
   (in64 k∧in64 x∧in64 y)∧(OAt es (objK k x y) d∧d.length=8)∧hp'=up hp bo (.map 117 (aput es cl (objK k x y) (ckHw (joinC d c))) (ckl es cl (objK k x y)))∧rs=[]
theorem s_rel1:SpecH Try.prog 107 R_rel1:=by
 refine spt107 envOK_acq ?_;rintro hp az hp' rs ⟨k,x,y,bc,bt,ba,b0,bo,T,es,cl,c,d,rfl,⟨h1,h2,h3,h4,h5,h6,h7⟩,⟨hk,hx,hy⟩,⟨ho,hd⟩,rfl,rfl⟩;refine ⟨by simp,fun _=>1,?_⟩;have hkey:=keyOf_obj hk hx hy;obtain ⟨l1,l2⟩:=ckLd h2;have q2:=joinC_length hd h2;have q3:(ckCells (joinC d c)).length=8:=by rw [ckCells_length,q2]
 unfold pct107;refine pwp_start ?_
 rcases ho with ⟨n,ho⟩ | ⟨ho,rfl⟩
 ·unfold objK at ho;simp only [↓evP,evB,stB,reduceIte,reduceCtorEq,seval,h1,h3,h4,h5,h6,h7,ho,hkey,ckH_cl,l1,l2,ckHw,ckCells_dt,Nat.add_zero];refine callD_intro [ckPa (joinC d c)] (by exact R_join.mk hd h2) ?_;simp only [↓evP,evB,stB,reduceIte,reduceCtorEq,seval,ckPa,ckRow_cells,h7,ho,hkey,q3,ckCells_hc,ckl,objK,prt107];exact (by unfold Drw;refine Eq.trans (b:=true) ?_ rfl;kernel_rfl)
 ·unfold objK at ho;simp only [↓evP,evB,stB,reduceIte,reduceCtorEq,seval,h1,h3,h4,h5,h6,h7,ho,hkey,ckH_cl,l1,l2,ckHw,ckCells_dt,Nat.add_zero];refine callD_intro [ckPa (joinC ckZ c)] (by exact R_join.mk hd h2) ?_;simp only [↓evP,evB,stB,reduceIte,reduceCtorEq,seval,ckPa,ckRow_cells,h7,ho,hkey,q3,ckCells_hc,ckl,objK,prt107];exact (by unfold Drw;refine Eq.trans (b:=true) ?_ rfl;kernel_rfl)
def ncN (N b:Nat):Nat:=if b < N then 1000 else b - N+1
theorem ncN_old {N b:Nat} (h:b < N):ncN N b=1000:=if_pos h
theorem ncN_new {N d:Nat}:ncN N (N+d)=d+1:=by unfold ncN;rw [if_neg (by omega)];omega
def Free (hp:Nat→Hb) (N:Nat):Prop:=∀ b,N≤b→hp b=.no
theorem Free.lt {hp:Nat→Hb} {N b:Nat} (h:Free hp N) (hb:hp b≠.no):b < N:=by
 rcases Nat.lt_or_ge b N with h1 | h1
 ·exact h1
 ·exact absurd (h b h1) hb
theorem Free.at_ {hp:Nat→Hb} {N:Nat} (h:Free hp N) (d:Nat):hp (N+d)=.no:=h _ (Nat.le_add_right _ _)
def ckFlat (l:List Ck):List Hc:=l.flatMap ckH
def ring0 (n:Nat):List Ck:=List.replicate n ckZ
def rgW (b1 b2 n:Nat):Hw:=.agg [.h (.s b1 0 n n),.h (.s b2 0 n n)]
theorem ring0_flat (n:Nat):(List.range (n * 8)).map (fun i=>(Hc.d (.sc (([.int .i64 0,.int .i64 0,.int .i64 0,.int .i64 0,.int .i64 0,.int .i64 0,.int .i64 0,.int .i64 0]:List Value).getD (i % 8) undef))))=ckFlat (ring0 n):=by
 have h:∀ m:Nat,(List.range m).map (fun i=>(Hc.d (.sc (([.int .i64 0,.int .i64 0,.int .i64 0,.int .i64 0,.int .i64 0,.int .i64 0,.int .i64 0,.int .i64 0]:List Value).getD (i % 8) undef))))=List.replicate m (hI 0):=fun m=>by
  apply List.ext_getElem
  ·simp
  ·intro i h1 h2;simp only [List.getElem_map,List.getElem_range,List.getElem_replicate];have:i % 8 < 8:=Nat.mod_lt _ (by omega);generalize i % 8=j at this
   match j,this with
   | 0,_=>rfl
   | 1,_=>rfl
   | 2,_=>rfl
   | 3,_=>rfl
   | 4,_=>rfl
   | 5,_=>rfl
   | 6,_=>rfl
   | 7,_=>rfl
 rw [h];unfold ckFlat ring0
 induction n with
 | zero=>rfl
 | succ n ih =>
   rw [List.replicate_succ,List.flatMap_cons,←ih,Nat.succ_mul,Nat.add_comm,←List.replicate_append_replicate];rfl
def R_ring (hp:Nat→Hb) (az:List Hw) (hp':Nat→Hb) (rs:List Hw):Prop :=
 ∃ (b0 br N:Nat) (T:List Hc) (es:List (Value×Nat×Hw)) (cl:Nat) (obj cap:Int),
   az=[hP b0 0,.one (hI obj),.one (hI cap)]∧(hp b0=.cells T∧T[66]? = some (.h (.m br))∧hp br=.map 3 es cl)∧(in64 obj∧0≤cap∧cap≤64)∧Free hp N ∧
   ((∃ n b1 b2 m,alook es (.int .i64 obj)=some (n,rgW b1 b2 m)∧hp'=hp∧rs=[rgW b1 b2 m]) ∨
    (alook es (.int .i64 obj)=none∧hp'=up (up (up hp (N+22) (.cells (ckFlat (ring0 (cap+1).toNat)))) (N+25) (.cells (ckFlat (ring0 (cap+1).toNat)))) br (.map 3 (aput es cl (.int .i64 obj) (rgW (N+22) (N+25) (cap+1).toNat)) (cl+1))∧rs=[rgW (N+22) (N+25) (cap+1).toNat]))
theorem s_ring:SpecH Try.prog 80 R_ring:=by
 refine spt80 EnvOK.e0 ?_;rintro hp az hp' rs ⟨b0,br,N,T,es,cl,obj,cap,rfl,⟨h5,h6,h7⟩,⟨hx,hc0,hc1⟩,hfree,hcase⟩;obtain ⟨nc,hnc⟩:∃ nc,nc=ncN N:=⟨_,rfl⟩
 refine ⟨by simp,nc,?_⟩;have hkey:=keyOf_i hx;have n0:nc b0=1000:=by rw [hnc];exact ncN_old (hfree.lt (by rw [h5];simp))
 have nr:nc br=1000:=by rw [hnc];exact ncN_old (hfree.lt (by rw [h7];simp))
 have n1:nc (N+22)=23:=by rw [hnc];exact ncN_new
 have n2:nc (N+25)=26:=by rw [hnc];exact ncN_new
 have hbr:br < N:=hfree.lt (by rw [h7];simp)
 have hb0:b0 < N:=hfree.lt (by rw [h5];simp)
 have d1:br≠N+22:=by omega
 have d2:br≠N+25:=by omega
 have d3:b0≠N+22:=by omega
 have d4:b0≠N+25:=by omega
 have hw:IntKind.i64.wrap (cap+1)=cap+1:=wr64 (by omega) (by omega);unfold pct80;refine pwp_start ?_
 rcases hcase with ⟨n,b1,b2,m,ho,rfl,rfl⟩ | ⟨ho,rfl,rfl⟩
 ·simp only [↓evP,evB,stB,reduceIte,reduceCtorEq,seval,h5,h6,h7,ho,hkey,rgW,Nat.add_zero,prt80]
 ·simp only [↓evP,evB,stB,reduceIte,reduceCtorEq,seval,h5,h6,h7,ho,hkey,Nat.add_zero,hw];have hz:0≤cap+1∧cap+1≤1000000∧64≤1000000:=⟨by omega,by omega,by decide⟩;refine halD_mk (cap+1) (N+22) (lay_of (by simp only [stB,reduceIte,reduceCtorEq,seval,n1]) (by (repeat' (first | exact AllHp.init | assumption | (refine AllHp.ap ?_ rfl)))) (by simp only [stB,reduceIte,reduceCtorEq,seval];exact hfree.at_ 22)) (by simp only [stB,reduceIte,reduceCtorEq,seval]) (by simp only [stB,reduceIte,reduceCtorEq,seval]) hz ?_
  simp only [↓evP,evB,stB,reduceIte,reduceCtorEq,seval,hw];refine halD_mk (cap+1) (N+25) (lay_of (by simp only [stB,reduceIte,reduceCtorEq,seval,n2]) (by (repeat' (first | exact AllHp.init | assumption | (refine AllHp.ap ?_ rfl)))) (by simp only [stB,reduceIte,reduceCtorEq,seval,n1,Nat.add_left_cancel_iff];exact hfree.at_ 25)) (by simp only [stB,reduceIte,reduceCtorEq,seval]) (by simp only [stB,reduceIte,reduceCtorEq,seval]) hz ?_
  simp only [↓evP,evB,stB,reduceIte,reduceCtorEq,seval,ring0_flat];refine ⟨(by unfold Drw;refine Eq.trans (b:=true) ?_ rfl;kernel_rfl),?_⟩
  simp only [↓evP,evB,stB,reduceIte,reduceCtorEq,seval,h5,h6,h7,ho,hkey,n1,n2,n0,nr,d1,d2,d3,d4,rgW,prt80];exact (by unfold Drw;refine Eq.trans (b:=true) ?_ rfl;kernel_rfl)
end Go.Proofs.Ytffcpijeebagfaa
end
section
namespace Go.Proofs.Ytffcpijeebagfaa
open Go.RowKit Go.Maps
structure But (L:List Nat) (w w':World):Prop where
 os:w'.os=w.os
 tape:w'.tape=w.tape
 output:w'.output=w.output
 size:w.heap.size≤w'.heap.size
 block:∀ k,k < w.heap.size→k ∉ L→w'.heap[k]? = w.heap[k]?
theorem But.refl (L:List Nat) (w:World):But L w w:=⟨rfl,rfl,rfl,Nat.le_refl _,fun _ _ _=>rfl⟩
theorem But.trans {L:List Nat} {a b c:World} (h:But L a b) (k:But L b c):But L a c :=
 ⟨k.os.trans h.os,k.tape.trans h.tape,k.output.trans h.output,Nat.le_trans h.size k.size,fun i hi hn=>(k.block i (Nat.lt_of_lt_of_le hi h.size) hn).trans (h.block i hi hn)⟩
theorem But.mono {L L':List Nat} {a b:World} (h:But L a b) (hs:∀ x ∈ L,x ∈ L'∨a.heap.size≤x):But L' a b :=
 ⟨h.os,h.tape,h.output,h.size,fun i hi hn=>h.block i hi (fun hm=>by rcases hs i hm with h1 | h1;exact hn h1;omega)⟩
theorem But.drewN {L:List Nat} {a b:World} (h:But L a b) (n:Nat):But L a (b.drewN n):=⟨h.os,h.tape,h.output,h.size,h.block⟩
theorem But.drew {L:List Nat} {a b:World} (h:But L a b):But L a b.drew:=⟨h.os,h.tape,h.output,h.size,h.block⟩
theorem But.alloc {L:List Nat} {a b:World} (h:But L a b) (o:Obj):But L a (b.alloc o) :=
 h.trans ⟨rfl,rfl,rfl,by simp,fun k hk _=>Below.heap_alloc _ _ _ hk⟩
theorem But.setCell {L:List Nat} {a b:World} (h:But L a b) {p:Addr} (hp:p.block ∈ L∨a.heap.size≤p.block) (u:Value):But L a (b.setCell p u) :=
 ⟨h.os,h.tape,h.output,by simpa [World.setCell] using h.size,fun k hk hn=>(Below.heap_setCell _ _ _ _ (by rintro rfl;rcases hp with h1 | h1;exact hn h1;omega)).trans (h.block k hk hn)⟩
theorem But.below {L:List Nat} {a b c:World} (h:But L a b) (hb:Below b.heap.size b c):But L a c :=
 h.trans ⟨hb.os,hb.tape,hb.output,hb.size,fun k hk _=>hb.block k hk⟩
theorem But.grown {L:List Nat} {a b c:World} (h:But L a b) {g:Nat} (hg:b.grownBy c (some g)) (hL:g ∈ L∨a.heap.size≤g):But L a c :=
 ⟨hg.os.trans h.os,hg.tape.trans h.tape,hg.output.trans h.output,Nat.le_trans h.size hg.size,fun k hk hn =>
  (hg.block k (Nat.lt_of_lt_of_le hk h.size) (by rintro he;cases he;rcases hL with h1 | h1;exact hn h1;omega)).trans (h.block k hk hn)⟩
theorem But.cell {L:List Nat} {w w':World} (h:But L w w') {p:Addr} (hp:p.block < w.heap.size) (hL:p.block ∉ L):w'.cell? p=w.cell? p:=World.cell?_of_block (w:=w) (h.block p.block hp hL)
theorem But.frozen {L:List Nat} {w w':World} (h:But L w w') {p:Addr} (hp:p.block < w.heap.size) (hL:p.block ∉ L):w'.frozen? p=w.frozen? p:=World.frozen?_of_block (w:=w) (h.block p.block hp hL)
def heldE (v:Value):Option (DataW Value×List MemPlace):=some (.held v,[])
structure KeyT (P:Program) (k:TypeId) {κ:Type} (kv:κ→Value) (ok:κ→Prop):Prop where
 keyed:Keyed P k
 reads:∀ x,ok x→∃ l,keyOf P k (kv x)=some l
 inj:∀ x y,kv x=kv y→x=y
def MapOf {κ:Type} (kv:κ→Value) (w:World) (P:Program) (k:TypeId) (b n:Nat) (f:κ→Option Value):Prop :=
 ∃ D,w.ownsMap P k heldE b n D∧∀ x l,keyOf P k (kv x)=some l→D.atKey l .nil=(match f x with | some v=>.held v | none=>.nil)
section
variable {κ:Type} [DecidableEq κ] {kv:κ→Value} {ok:κ→Prop}
variable {P:Program} {k e t:TypeId} {w w':World} {b n:Nat} {f:κ→Option Value}
omit [DecidableEq κ] in
theorem MapOf.made (w:World) (P:Program) (k:TypeId):MapOf kv (w.alloc (.map #[] 0)) P k w.heap.size 0 (fun _=>none) :=
 ⟨_,World.ownsMap_made w P k heldE,fun _ _ _=>rfl⟩
omit [DecidableEq κ] in
theorem MapOf.lt (h:MapOf kv w P k b n f):b < w.heap.size:=let ⟨_,h,_⟩:=h;h.lt
omit [DecidableEq κ] in
theorem MapOf.keep (h:MapOf kv w P k b n f) (hb:w'.heap[b]? = w.heap[b]?):MapOf kv w' P k b n f :=
 let ⟨D,⟨es,cl,h1,h2⟩,h3⟩:=h
 ⟨D,⟨es,cl,hb.trans h1,h2⟩,h3⟩
omit [DecidableEq κ] in
theorem MapOf.but {L:List Nat} (h:MapOf kv w P k b n f) (hb:But L w w') (hL:b ∉ L):MapOf kv w' P k b n f:=h.keep (hb.block b h.lt hL)
omit [DecidableEq κ] in
theorem MapOf.mono (h:MapOf kv w P k b n f) {n':Nat} (hn:n≤n'):MapOf kv w P k b n' f :=
 let ⟨D,h1,h3⟩:=h
 ⟨D,h1.mono hn,h3⟩
omit [DecidableEq κ] in
theorem MapOf.drewN (h:MapOf kv w P k b n f) (m:Nat):MapOf kv (w.drewN m) P k b n f:=h
omit [DecidableEq κ] in
theorem MapOf.alloc (h:MapOf kv w P k b n f) (o:Obj):MapOf kv (w.alloc o) P k b n f:=h.keep (Below.heap_alloc _ _ _ h.lt)
omit [DecidableEq κ] in
theorem MapOf.setCell (h:MapOf kv w P k b n f) {p:Addr} (hp:b≠p.block) (u:Value):MapOf kv (w.setCell p u) P k b n f:=h.keep (Below.heap_setCell _ _ _ _ hp)
omit [DecidableEq κ] in
theorem MapOf.congr (h:MapOf kv w P k b n f) {g:κ→Option Value} (hg:∀ x,f x=g x):MapOf kv w P k b n g:=by
 have:f=g:=funext hg
 rwa [this] at h
omit [DecidableEq κ] in
theorem MapOf.look (h:MapOf kv w P k b n f) (K:KeyT P k kv ok) (ht:P.underlying t=some (.map k e)) {z:Value} (hz:∀ w,(zeroValue e).run P w=.ok z w) (x:κ) (hx:ok x) :
 (Instr.lookup t (.map (some b)) (kv x) false).run P w=.ok ((f x).getD z) w:=by
 obtain ⟨D,⟨es,clock,hb,F,_,rfl⟩,hf⟩:=h;obtain ⟨kl,hkey⟩:=K.reads x hx;have h3:=hf x kl hkey
 rcases Maps.fit_look false K.keyed ht (hz w) hb F hkey with ⟨hrun,_,hat⟩ | ⟨e0,y,_,_,hrun,hRv,hat,_⟩
 ·rw [hat] at h3
  cases hfk:f x with
  | none=>simpa using hrun
  | some v=>rw [hfk] at h3;cases h3
 ·rw [hat] at h3;simp only [heldE,Option.some.injEq] at hRv;subst hRv
  cases hfk:f x with
  | none=>rw [hfk] at h3;cases h3
  | some v=>rw [hfk] at h3;simp only [DataW.held.injEq] at h3;subst h3;simpa using hrun
omit [DecidableEq κ] in
theorem MapOf.look_ok (h:MapOf kv w P k b n f) (K:KeyT P k kv ok) (ht:P.underlying t=some (.map k e)) {z:Value} (hz:∀ w,(zeroValue e).run P w=.ok z w) (x:κ) (hx:ok x) :
 (Instr.lookup t (.map (some b)) (kv x) true).run P w=.ok (.tuple #[(f x).getD z,.bool (f x).isSome]) w:=by
 obtain ⟨D,⟨es,clock,hb,F,_,rfl⟩,hf⟩:=h;obtain ⟨kl,hkey⟩:=K.reads x hx;have h3:=hf x kl hkey
 rcases Maps.fit_look true K.keyed ht (hz w) hb F hkey with ⟨hrun,_,hat⟩ | ⟨e0,y,_,_,hrun,hRv,hat,_⟩
 ·rw [hat] at h3
  cases hfk:f x with
  | none=>simpa using hrun
  | some v=>rw [hfk] at h3;cases h3
 ·rw [hat] at h3;simp only [heldE,Option.some.injEq] at hRv;subst hRv
  cases hfk:f x with
  | none=>rw [hfk] at h3;cases h3
  | some v=>rw [hfk] at h3;simp only [DataW.held.injEq] at h3;subst h3;simpa using hrun
theorem MapOf.put (h:MapOf kv w P k b n f) (K:KeyT P k kv ok) (ht:P.underlying t=some (.map k e)) (hn:n < maxLen) (x:κ) (hx:ok x) (v:Value) :
 ∃ w',(Instr.mapUpdate t (.map (some b)) (kv x) v).run P w=.ok () w'∧MapOf kv w' P k b (n+1) (upd f x v)∧w.grownBy w' (some b):=by
 obtain ⟨D,hown,hf⟩:=h;obtain ⟨kl,hkey⟩:=K.reads x hx;obtain ⟨w',hrun,h1,h2⟩:=hown.update K.keyed ht hn hkey (val:=v) (d:=.held v) (ps:=[]) rfl;refine ⟨w',hrun,⟨_,h1,fun y l hy=>?_⟩,h2⟩;unfold upd
 by_cases hyx:y=x
 ·subst hyx;rw [hkey] at hy;cases hy;rw [if_pos rfl,atKey_put_same hown.isMap (K.keyed.key hkey)]
 ·rw [if_neg hyx]
  have hne:l≠kl:=by
   rintro rfl;exact hyx (K.inj _ _ (K.keyed.inj hy hkey))
  rw [atKey_put_other hne];exact hf y l hy
theorem KeyT.int {P:Program} {k:TypeId} (hk:P.underlying k=some (.int .i64)):KeyT P k (fun x:Int=>Value.int .i64 x) (fun x=>(Lit.int .i64 x).wf=true) :=
 ⟨int_keyed hk,fun x hx=>⟨_,keyOf_int_mk hk hx⟩,fun x y h=>by injection h⟩
def locV (x:Int×Int):Value:=.agg #[.int .i64 x.1,.int .i64 x.2]
theorem keyLits_int {P:Program} {t:TypeId} (ht:P.underlying t=some (.int .i64)) (d:Nat) {a:Int} (h:(Lit.int .i64 a).wf=true):P.keyLits (d+1) t [.int .i64 a]=some [.int .i64 a]:=by
 simp [Program.keyLits,ht,h]
theorem keyOf_loc {P:Program} {k t:TypeId} {f0 f1:Field} (hk:P.underlying k=some (.struct #[f0,f1])) (ht:P.underlying t=some (.int .i64)) (h0:f0.type=t) (h1:f1.type=t) (o0:f0.offset=0) (o1:f1.offset=1)
 (hn : ((#[f0, f1] : Array Field).all (·.name != "_")) = true) (hc : P.cellsOf k = 2) (hct : P.cellsOf t = 1) (hkt : P.keyType k = true) (hz : 0 < P.types.size) {a b : Int} (ha : (Lit.int .i64 a).wf = true) (hb : (Lit.int .i64 b).wf = true) :
 keyOf P k (locV (a,b))=some (.string (keyBytes [.int .i64 a,.int .i64 b])):=by
 obtain ⟨d,hd⟩:∃ d,P.types.size=d+1:=⟨P.types.size - 1,by omega⟩
 have e1:P.keyLits (d+1+1) k [.int .i64 a,.int .i64 b]=some [.int .i64 a,.int .i64 b]:=by
  unfold Program.keyLits;rw [hk];dsimp only;rw [if_pos ⟨by simp [hc],hn⟩];simp [h0,h1,o0,o1,hct,keyLits_int ht d ha,keyLits_int ht d hb]
 unfold keyOf locV;rw [hk];dsimp only;rw [if_pos (by simp [hkt,Value.formed,hk,hc]),hd];simp only [Value.cells];rw [e1];rfl
theorem KeyT.loc {P:Program} {k t:TypeId} {f0 f1:Field} (K:Keyed P k) (hk:P.underlying k=some (.struct #[f0,f1])) (ht:P.underlying t=some (.int .i64)) (h0:f0.type=t) (h1:f1.type=t) (o0:f0.offset=0) (o1:f1.offset=1)
 (hn : ((#[f0, f1] : Array Field).all (·.name != "_")) = true) (hc : P.cellsOf k = 2) (hct : P.cellsOf t = 1) (hkt : P.keyType k = true) (hz : 0 < P.types.size) :
 KeyT P k locV (fun x=>(Lit.int .i64 x.1).wf=true∧(Lit.int .i64 x.2).wf=true) :=
 ⟨K,fun x hx=>⟨_,keyOf_loc hk ht h0 h1 o0 o1 hn hc hct hkt hz hx.1 hx.2⟩,fun x y h=>by
  obtain ⟨a,b⟩:=x;obtain ⟨c,d⟩:=y;simp [locV] at h;simp [h]⟩
theorem wf_i64 {x:Int} (h:I64 x):(Lit.int .i64 x).wf=true:=by
 simp [Lit.wf,IntKind.min,IntKind.max,IntKind.signed,IntKind.bits];exact ⟨h.1,by have:=h.2;omega⟩
end
end Go.Proofs.Ytffcpijeebagfaa
end
section
namespace Go.Proofs.Ytffcpijeebagfaa
open Go.RowKit
theorem ret_bool {a b:Bool} (h:a=b):Ending.returned (.bool a)=.returned (.bool b):=by rw [h]
theorem numbered_any (k:Int) (w:World):Calls Try.prog 92 #[.int .i64 k] w fun e w'=>e=.returned (.bool (numberedB k))∧w=w':=by
 go_enter Try.func92,Try.ntmps92
 go_wp2
 all_goals (go_ret;refine ⟨ret_bool ?_,rfl⟩;simp [numberedB];omega)
theorem isKind_any (k:Int) (w:World):Calls Try.prog 91 #[.int .i64 k] w fun e w'=>e=.returned (.bool (isKindB k))∧w=w':=by
 go_enter Try.func91,Try.ntmps91
 go_wp2
 all_goals (go_ret;refine ⟨ret_bool ?_,rfl⟩;simp [isKindB];omega)
theorem channel_any (k:Int) (w:World):Calls Try.prog 61 #[.int .i64 k] w fun e w'=>e=.returned (.bool (chanB k))∧w=w':=by
 go_enter Try.func61,Try.ntmps61
 go_wp2_with ((go_at_call 92;refine (numbered_any _ _).mono ?_;rintro e w' ⟨rfl,rfl⟩))
 all_goals (go_ret;refine ⟨ret_bool ?_,rfl⟩;unfold numberedB at *;unfold chanB;simp only [decide_eq_true_eq] at *;rw [Bool.eq_iff_iff];simp;omega)
theorem idx7 (x0 x1 x2 x3 x4 x5 x6:Value) :
 (∀ w,(Instr.index 136 (.agg #[x0,x1,x2,x3,x4,x5,x6]) (.int .i64 0)).run Try.prog w=.ok x0 w)∧(∀ w,(Instr.index 136 (.agg #[x0,x1,x2,x3,x4,x5,x6]) (.int .i64 1)).run Try.prog w=.ok x1 w) ∧
 (∀ w,(Instr.index 136 (.agg #[x0,x1,x2,x3,x4,x5,x6]) (.int .i64 2)).run Try.prog w=.ok x2 w)∧(∀ w,(Instr.index 136 (.agg #[x0,x1,x2,x3,x4,x5,x6]) (.int .i64 3)).run Try.prog w=.ok x3 w) ∧
 (∀ w,(Instr.index 136 (.agg #[x0,x1,x2,x3,x4,x5,x6]) (.int .i64 4)).run Try.prog w=.ok x4 w)∧(∀ w,(Instr.index 136 (.agg #[x0,x1,x2,x3,x4,x5,x6]) (.int .i64 5)).run Try.prog w=.ok x5 w) ∧
 (∀ w,(Instr.index 136 (.agg #[x0,x1,x2,x3,x4,x5,x6]) (.int .i64 6)).run Try.prog w=.ok x6 w) :=
 ⟨fun _=>by kernel_rfl,fun _=>by kernel_rfl,fun _=>by kernel_rfl,fun _=>by kernel_rfl,fun _=>by kernel_rfl,fun _=>by kernel_rfl,fun _=>by kernel_rfl⟩
set_option maxHeartbeats 4000000 in
set_option maxRecDepth 100000 in
theorem evalid_any (e:Ev) (w:World):Calls Try.prog 59 #[e.val] w fun r w'=>r=.returned (.bool e.valid)∧Below w.heap.size w w':=by
 obtain ⟨g,kind,obj,off,k,n,fn,pc,stack⟩:=e;unfold Ev.val;obtain ⟨i0,i1,i2,i3,i4,i5,i6⟩:=idx7 (.int .i64 obj) (.int .i64 off) (.int .i64 k) (.int .i64 n) (.int .i64 fn) (.int .i64 pc) (.int .i64 stack)
 go_enter Try.func59,Try.ntmps59
 go_wp2_with (first | (go_at_call 91;refine (isKind_any _ _).mono ?_;rintro e w' ⟨rfl,rfl⟩))
 all_goals try (refine wp_loop_rounds 8 ?_)
 all_goals try (repeat any_goals (rw [rounds_succ];go_wp2_with (first | (go_at_call 92;refine (numbered_any _ _).mono ?_;rintro e w' ⟨rfl,rfl⟩) | (go_at_call 61;refine (channel_any _ _).mono ?_;rintro e w' ⟨rfl,rfl⟩))))
 all_goals (go_ret;refine ⟨ret_bool ?_,(Below.refl _ _).alloc (Nat.le_refl _) _⟩)
 all_goals (simp only [isKindB,chanB,numberedB,decide_eq_true_eq,beq_iff_eq,beq_eq_false_iff_ne,ne_eq,decide_eq_false_iff_not] at *)
 all_goals (unfold Ev.valid Ev.rest;rw [Bool.eq_iff_iff];simp only [isKindB,rangeB,Bool.and_eq_true,decide_eq_true_eq,Bool.ite_eq_true_distrib,Bool.false_eq_true,false_iff,true_iff,beq_iff_eq,Bool.or_eq_true])
 all_goals clear i0 i1 i2 i3 i4 i5 i6
 all_goals go_light
 all_goals first | omega | (split <;> omega) | (split <;> first | omega | (split <;> omega)) | (split <;> first | omega | (split <;> first | omega | (split <;> omega)))
section
def Ch.val (c:Ch):Value:=.agg #[.int .i64 c.cap,.int .i64 c.sent,.int .i64 c.recv,.bool c.closed]
def Mu.val (m:Mu):Value:=.agg #[.bool m.locked,.int .i64 m.readers]
def iK (x:Int):Value:=.int .i64 x
def chanMap (f:Int→Option Ch) (x:Int):Option Value:=(f x).map Ch.val
def muMap (f:Int×Int→Option Mu) (x:Int×Int):Option Value:=(f x).map Mu.val
def doneMap (f:Int×Int→Option Bool) (x:Int×Int):Option Value:=(f x).map Value.bool
theorem chanMap_upd (f:Int→Option Ch) (x:Int) (c:Ch):upd (chanMap f) x c.val=chanMap (upd f x c):=by
 funext y;unfold upd chanMap;by_cases h:y=x <;> simp [h]
theorem muMap_upd (f:Int×Int→Option Mu) (x:Int×Int) (c:Mu):upd (muMap f) x c.val=muMap (upd f x c):=by
 funext y;unfold upd muMap;by_cases h:y=x <;> simp [h]
theorem doneMap_upd (f:Int×Int→Option Bool) (x:Int×Int) (c:Bool):upd (doneMap f) x (.bool c)=doneMap (upd f x c):=by
 funext y;unfold upd doneMap;by_cases h:y=x <;> simp [h]
theorem zeroCh (w:World):(zeroValue 95).run Try.prog w=.ok ch0.val w:=by kernel_rfl
theorem zeroMu (w:World):(zeroValue 100).run Try.prog w=.ok mu0.val w:=by kernel_rfl
theorem zeroB (w:World):(zeroValue 4).run Try.prog w=.ok (.bool false) w:=by kernel_rfl
theorem keyI:KeyT Try.prog 3 iK (fun x=>(Lit.int .i64 x).wf=true):=KeyT.int Try.underlying3
theorem laidOut:laidOutB Try.prog=true:=by kernel_rfl
theorem keyedL:Maps.Keyed Try.prog 98:=Maps.Keyed.of_law (deep_law_gate laidOut (of_decide_eq_true (by kernel_rfl)) (of_decide_eq_true (by kernel_rfl)) (by kernel_rfl) (by kernel_rfl))
theorem keyL:KeyT Try.prog 98 locV (fun x=>(Lit.int .i64 x.1).wf=true∧(Lit.int .i64 x.2).wf=true) :=
 KeyT.loc keyedL Try.underlying98 Try.underlying3 rfl rfl rfl rfl (by kernel_rfl) (by kernel_rfl) (by kernel_rfl) (by kernel_rfl) (of_decide_eq_true (by kernel_rfl))
class KB where
 p:Nat→Prop
variable [KB]
def KindsAt (w:World) (v:Value) (xs:List Int) (sb:Nat):Prop :=
 ∃ A c,v=.slice A xs.length c∧xs.length≤c∧(0 < xs.length→∃ b o,A=some ⟨b,o,none⟩∧(b≠sb∧KB.p b)∧∀ i x,xs[i]? = some x→w.cell? ⟨b,o+i,none⟩=some (.int .i64 x))
def TCells (s:TS) (bc bm bd:Nat) (kv:Value):Array Value :=
 #[.int .i64 s.events,.int .i64 s.gor,.map (some bc),.map (some bm),.map (some bd),kv,.int .i64 s.grp.obj,.int .i64 s.grp.k,.int .i64 s.grp.n,.int .i64 s.grp.snd,.int .i64 s.grp.rcv]
structure TRep (w:World) (sb bc bm bd N:Nat) (s:TS) (kv:Value):Prop where
 row:w.heap[sb]? = some (.cells (TCells s bc bm bd kv) 92 (0,0))
 kinds:KindsAt w kv s.grp.kinds sb
 chans:MapOf iK w Try.prog 3 bc N (chanMap s.chans)
 mus:MapOf locV w Try.prog 98 bm N (muMap s.mus)
 done:MapOf locV w Try.prog 98 bd N (doneMap s.done)
 ncm:bc≠bm
 ncd:bc≠bd
 nmd:bm≠bd
omit [KB] in
theorem MapOf.ne_cells {κ:Type} {kv:κ→Value} {w:World} {P:Program} {k b n:Nat} {f:κ→Option Value} (h:MapOf kv w P k b n f) {g:Nat} {cs:Array Value} {t:TypeId} {fr:Nat×Nat} (hg:w.heap[g]? = some (.cells cs t fr)):b≠g:=by
 rintro rfl;obtain ⟨_,⟨es,cl,h1,_⟩,_⟩:=h;rw [hg] at h1;cases h1
theorem KindsAt.keep {w w':World} {v:Value} {xs:List Int} {sb:Nat} (h:KindsAt w v xs sb) {L:List Nat} (hb:But L w w') (hL:∀ b cs t fr,w.heap[b]? = some (.cells cs t fr)→b≠sb→b ∉ L):KindsAt w' v xs sb:=by
 obtain ⟨A,c,h1,h2,h3⟩:=h;refine ⟨A,c,h1,h2,fun hn=>?_⟩;obtain ⟨b,o,hA,hne,hc⟩:=h3 hn;refine ⟨b,o,hA,hne,fun i x hx=>?_⟩;have h4:=hc i x hx;have hlt:=block_lt_of_cell h4
 have hblk:∃ cs t fr,w.heap[b]? = some (.cells cs t fr):=by
  unfold World.cell? at h4;dsimp only at h4;split at h4
  ·rename_i cs t fr hh;exact ⟨cs,t,fr,hh⟩
  ·cases h4
 obtain ⟨cs,t,fr,hh⟩:=hblk;exact (World.cell?_of_block (w:=w) (a:=⟨b,o+i,none⟩) (hb.block b hlt (hL b cs t fr hh hne.1))).trans h4
section
variable {w w':World} {sb bc bm bd N:Nat} {s:TS} {kv:Value}
theorem TRep.cell (h:TRep w sb bc bm bd N s kv) (j:Nat):w.cell? ⟨sb,j,none⟩=(TCells s bc bm bd kv)[j]?:=cell_of_row w sb j _ _ _ h.row
theorem TRep.frozen (h:TRep w sb bc bm bd N s kv) (j:Nat):w.frozen? ⟨sb,j,none⟩=false:=frozen_of_row w sb j _ _ h.row
theorem TRep.lt (h:TRep w sb bc bm bd N s kv):sb < w.heap.size:=by
 rcases Nat.lt_or_ge sb w.heap.size with hlt | hge
 ·exact hlt
 ·have:=h.row;rw [Array.getElem?_eq_none hge] at this;cases this
theorem TRep.but (h:TRep w sb bc bm bd N s kv) {L:List Nat} (hb:But L w w') (h0:sb ∉ L) (h1:bc ∉ L) (h2:bm ∉ L) (h3:bd ∉ L) (hL:∀ b cs t fr,w.heap[b]? = some (.cells cs t fr)→b≠sb→b ∉ L):TRep w' sb bc bm bd N s kv :=
 ⟨(hb.block sb h.lt h0).trans h.row,h.kinds.keep hb hL,h.chans.but hb h1,h.mus.but hb h2,h.done.but hb h3,h.ncm,h.ncd,h.nmd⟩
theorem TRep.below (h:TRep w sb bc bm bd N s kv) (hb:Below w.heap.size w w'):TRep w' sb bc bm bd N s kv :=
 h.but (L:=[]) ⟨hb.os,hb.tape,hb.output,hb.size,fun k hk _=>hb.block k hk⟩ (by simp) (by simp) (by simp) (by simp) (fun _ _ _ _ _ _=>by simp)
theorem TRep.mono (h:TRep w sb bc bm bd N s kv) {N':Nat} (hn:N≤N'):TRep w sb bc bm bd N' s kv :=
 ⟨h.row,h.kinds,h.chans.mono hn,h.mus.mono hn,h.done.mono hn,h.ncm,h.ncd,h.nmd⟩
omit [KB] in
theorem KindsAt.kb {K1 K2:KB} {w:World} {v:Value} {xs:List Int} {sb:Nat} (h:@KindsAt K1 w v xs sb) (hk:∀ b,K1.p b→K2.p b):@KindsAt K2 w v xs sb:=by
 obtain ⟨A,c,h1,h2,h3⟩:=h;refine ⟨A,c,h1,h2,fun hn=>?_⟩;obtain ⟨b,o,hA,hne,hc⟩:=h3 hn;exact ⟨b,o,hA,⟨hne.1,hk b hne.2⟩,hc⟩
theorem TRep.new_chans (h:TRep w sb bc bm bd N s kv) (hb:But [bc] w w') {N':Nat} {f:Int→Option Ch} {M:Nat} (hm:MapOf iK w' Try.prog 3 bc M (chanMap f)) (hM:M≤N') (hN:N≤N'):TRep w' sb bc bm bd N' { s with chans:=f } kv :=
 ⟨(hb.block sb h.lt (by simpa using Ne.symm (h.chans.ne_cells h.row))).trans h.row,h.kinds.keep hb (fun b cs t fr hc _ hm=>by
  simp only [List.mem_singleton] at hm;subst hm;exact absurd rfl (h.chans.ne_cells hc)),hm.mono hM,(h.mus.but hb (by simpa using Ne.symm h.ncm)).mono hN,(h.done.but hb (by simpa using Ne.symm h.ncd)).mono hN,h.ncm,h.ncd,h.nmd⟩
theorem TRep.new_mus (h:TRep w sb bc bm bd N s kv) (hb:But [bm] w w') {N':Nat} {f:Int×Int→Option Mu} {M:Nat} (hm:MapOf locV w' Try.prog 98 bm M (muMap f)) (hM:M≤N') (hN:N≤N'):TRep w' sb bc bm bd N' { s with mus:=f } kv :=
 ⟨(hb.block sb h.lt (by simpa using Ne.symm (h.mus.ne_cells h.row))).trans h.row,h.kinds.keep hb (fun b cs t fr hc _ hm=>by
  simp only [List.mem_singleton] at hm;subst hm;exact absurd rfl (h.mus.ne_cells hc)),(h.chans.but hb (by simpa using h.ncm)).mono hN,hm.mono hM,(h.done.but hb (by simpa using Ne.symm h.nmd)).mono hN,h.ncm,h.ncd,h.nmd⟩
theorem TRep.new_done (h:TRep w sb bc bm bd N s kv) (hb:But [bd] w w') {N':Nat} {f:Int×Int→Option Bool} {M:Nat} (hm:MapOf locV w' Try.prog 98 bd M (doneMap f)) (hM:M≤N') (hN:N≤N'):TRep w' sb bc bm bd N' { s with done:=f } kv :=
 ⟨(hb.block sb h.lt (by simpa using Ne.symm (h.done.ne_cells h.row))).trans h.row,h.kinds.keep hb (fun b cs t fr hc _ hm=>by
  simp only [List.mem_singleton] at hm;subst hm;exact absurd rfl (h.done.ne_cells hc)),(h.chans.but hb (by simpa using h.ncd)).mono hN,(h.mus.but hb (by simpa using h.nmd)).mono hN,hm.mono hM,h.ncm,h.ncd,h.nmd⟩
theorem TRep.new_row (h:TRep w sb bc bm bd N s kv) (hb:But [sb] w w') {ev gor:Int} (hr:w'.heap[sb]? = some (.cells (TCells { s with events:=ev,gor:=gor } bc bm bd kv) 92 (0,0))) {N':Nat} (hN:N≤N'):TRep w' sb bc bm bd N' { s with events:=ev,gor:=gor } kv :=
 ⟨hr,h.kinds.keep hb (fun b cs t fr hc hne hm=>hne (by simpa using hm)),(h.chans.but hb (by simpa using h.chans.ne_cells h.row)).mono hN,(h.mus.but hb (by simpa using h.mus.ne_cells h.row)).mono hN,(h.done.but hb (by simpa using h.done.ne_cells h.row)).mono hN,h.ncm,h.ncd,h.nmd⟩
end
omit [KB] in
theorem sends_any (k:Int) (w:World):Calls Try.prog 93 #[.int .i64 k] w fun e w'=>e=.returned (.bool (sendsB k))∧w=w':=by
 go_enter Try.func93,Try.ntmps93
 go_wp2
 all_goals (go_ret;refine ⟨ret_bool ?_,rfl⟩;unfold sendsB;rw [Bool.eq_iff_iff];simp;try omega)
theorem open_any {sb bc bm bd N:Nat} {s:TS} {kv:Value} (w:World) (h:TRep w sb bc bm bd N s kv):Calls Try.prog 25 #[.pointer (some ⟨sb,0,none⟩)] w fun e w'=>e=.returned (.bool s.isOpen)∧w=w':=by
 obtain ⟨A,c,hkv,hlc,_⟩:=h.kinds;have c5:w.cell? ⟨sb,5,none⟩=some (.slice A s.grp.kinds.length c):=by rw [h.cell 5,←hkv];rfl
 clear h hkv hlc
 go_enter Try.func25,Try.ntmps25
 go_wp2
 go_ret
 refine ⟨ret_bool ?_,rfl⟩;unfold TS.isOpen;simp
omit [KB] in
set_option maxRecDepth 100000 in
set_option maxHeartbeats 1000000 in
theorem count_any (sb bc n:Nat) (f:Int→Option Ch) (e:Ev) (w:World) (hc:w.cell? ⟨sb,2,none⟩=some (.map (some bc)))
 (hm:MapOf iK w Try.prog 3 bc n (chanMap f)) (hn:n < maxLen) (hobj:I64 e.obj) (hb:∀ c,(f e.obj).getD ch0=c→(0≤c.sent∧c.sent≤5000)∧(0≤c.recv∧c.recv≤5000)) :
 Calls Try.prog 94 #[.pointer (some ⟨sb,0,none⟩),e.val] w fun r w'=>r=.returned (.tuple #[])∧MapOf iK w' Try.prog 3 bc (n+1) (chanMap (upd f e.obj (((f e.obj).getD ch0).count e.kind)))∧But [bc] w w':=by
 have hb0:=hb _ rfl;clear hb;obtain ⟨c,hcc⟩:∃ c,(f e.obj).getD ch0=c:=⟨_,rfl⟩
 rw [hcc] at hb0 ⊢;obtain ⟨⟨hs,hs2⟩,hr,hr2⟩:=hb0
 have hval:(chanMap f e.obj).getD ch0.val=c.val:=by
  rw [←hcc];unfold chanMap;cases f e.obj <;> rfl
 obtain ⟨g,kind,obj,off,k,en,fn,pc,stack⟩:=e;dsimp only at hcc hobj hval ⊢
 -- what is counted,under names of its own
 obtain ⟨c',hc'⟩:∃ c',c.count kind=c':=⟨_,rfl⟩
 rw [hc'];obtain ⟨cap,sent,recv,closed⟩:=c;obtain ⟨cap',sent',recv',closed'⟩:=c';dsimp only at hs hs2 hr hr2;unfold Ev.val
 have hl:∀ o:Obj,(Instr.lookup 86 (.map (some bc)) (.int .i64 obj) false).run Try.prog ((w.alloc o).drew)=.ok (.agg #[.int .i64 cap,.int .i64 sent,.int .i64 recv,.bool closed]) ((w.alloc o).drew):=fun o=>by
  have h1:MapOf iK (w.alloc o).drew Try.prog 3 bc n (chanMap f):=hm.alloc o;have h2:=h1.look keyI Try.underlying86 zeroCh obj (wf_i64 hobj);rw [hval] at h2;exact h2
 have hl2:∀ o o2:Obj,(Instr.lookup 86 (.map (some bc)) (.int .i64 obj) false).run Try.prog (((w.alloc o).alloc o2).drew)=.ok (.agg #[.int .i64 cap,.int .i64 sent,.int .i64 recv,.bool closed]) (((w.alloc o).alloc o2).drew):=fun o o2=>by
  have h1:MapOf iK ((w.alloc o).alloc o2).drew Try.prog 3 bc n (chanMap f):=(hm.alloc o).alloc o2;have h2:=h1.look keyI Try.underlying86 zeroCh obj (wf_i64 hobj);rw [hval] at h2;exact h2
 have hlt:=block_lt_of_cell hc;dsimp only at hlt;have HM:=Lib.hid hm;clear hm;have HCC:=Lib.hid hcc;clear hcc;have HV:=Lib.hid hval;clear hval;have HC:=Lib.hid hc';clear hc'
 go_enter Try.func94,Try.ntmps94
 go_wp2
 go_region
 go_upto_block 0 with fail
 go_cut [] (fun wx=>MapOf iK wx Try.prog 3 bc n (chanMap f)∧But [bc] w wx∧wx.cell? ⟨sb,2,none⟩=some (.map (some bc))∧wx.cell? ⟨w.heap.size,2,none⟩=some (.int .i64 obj) ∧
  wx.cell? ⟨w.heap.size+1,0,none⟩=some (.int .i64 cap')∧wx.cell? ⟨w.heap.size+1,1,none⟩=some (.int .i64 sent')∧wx.cell? ⟨w.heap.size+1,2,none⟩=some (.int .i64 recv')∧wx.cell? ⟨w.heap.size+1,3,none⟩=some (.bool closed'))
 case first =>
  go_wp2
  all_goals go_meet
  all_goals (case' rel=>refine ⟨(HM.out.alloc _).alloc _,(((But.refl _ _).alloc _).alloc _).drew,?_⟩)
  all_goals (have hc':=HC.out;unfold Ch.count at hc')
  all_goals go_light
  all_goals clear hl hl2
  all_goals simp_all [go_sem]
 case rest =>
  obtain ⟨hm1,hbut,hc2,hobj2,h0,h1,h2,h3⟩:=hcut;obtain ⟨w1,hput,hm2,hg⟩:=(show MapOf iK wc.drew Try.prog 3 bc n (chanMap f) from hm1).put keyI Try.underlying86 hn obj (wf_i64 hobj) (.agg #[.int .i64 cap',.int .i64 sent',.int .i64 recv',.bool closed']);unfold iK at hput
  have hfin:MapOf iK w1 Try.prog 3 bc (n+1) (chanMap (upd f obj ⟨cap',sent',recv',closed'⟩))∧But [bc] w w1:=by
   refine ⟨?_,?_⟩
   ·rw [←chanMap_upd];exact hm2
   ·exact (hbut.drewN 0).drew.grown hg (.inl (by simp))
  have HF:=Lib.hid hfin;clear hfin hm1 hm2 hg hbut
  go_wp2
  go_region
  go_end0
  exact ⟨rfl,HF.out⟩
end
section
variable [KB]
set_option maxRecDepth 100000 in
set_option maxHeartbeats 4000000 in
theorem operate_any {sb bc bm bd N:Nat} {s:TS} {kv:Value} (w:World) (h:TRep w sb bc bm bd N s kv) (hs:s.wf) (hN:N+2 < maxLen) (e:Ev) (hv:e.valid=true) (hk:chanB e.kind=true) (hkb0:∀ b,w.heap.size≤b→KB.p b) :
 Calls Try.prog 62 #[.pointer (some ⟨sb,0,none⟩),e.val] w fun r w'=>r=.returned (.bool (s.operate e).isSome)∧(∃ kv',TRep w' sb bc bm bd (N+2) ((s.operate e).getD s) kv')∧But [sb,bc] w w':=by
 have HKB:=Lib.hid hkb0;clear hkb0;have hbd:=TS.chan_bd hs hv hk;have hvo:=Ev.valid_obj hv;have hiobj:I64 e.obj:=⟨by omega,by omega⟩;have hval:((chanMap s.chans e.obj).getD ch0.val)=((s.chans e.obj).getD ch0).val:=by unfold chanMap;cases s.chans e.obj <;> rfl
 have hsome:(chanMap s.chans e.obj).isSome=(s.chans e.obj).isSome:=by unfold chanMap;cases s.chans e.obj <;> rfl
 obtain ⟨cr,hcr⟩:∃ c,(s.chans e.obj).getD ch0=c:=⟨_,rfl⟩
 obtain ⟨kn,hkn⟩:∃ b,(s.chans e.obj).isSome=b:=⟨_,rfl⟩
 rw [hcr] at hval;rw [hkn] at hsome;obtain ⟨c,hc⟩:∃ c,s.chan e=c:=⟨_,rfl⟩
 have hck:c=if kn=true then cr else { cr with cap:=e.n }:=by
  rw [←hc,←hkn,←hcr];unfold TS.chan;cases s.chans e.obj <;> rfl
 rw [hc] at hbd;obtain ⟨⟨hs1,hs2⟩,⟨hr1,hr2⟩,hc1,hc2⟩:=hbd;have hev:=hs.ev;have hs3:c.sent≤5000:=by omega
 have hr3:c.recv≤5000:=by omega
 have c1:w.cell? ⟨sb,1,none⟩=some (.int .i64 s.gor):=h.cell 1;have c2:w.cell? ⟨sb,2,none⟩=some (.map (some bc)):=h.cell 2;have hlt:=h.lt;have hm:=h.chans;have HH:=Lib.hid h;clear h;have HS:=Lib.hid hs;clear hs;have HCc:=Lib.hid hc;clear hc;have HCR:=Lib.hid hcr;clear hcr;have HKN:=Lib.hid hkn;clear hkn;obtain ⟨g,kind,obj,off,k,en,fn,pc,stack⟩:=e;obtain ⟨rcap,rsent,rrecv,rclosed⟩:=cr;obtain ⟨cap,sent,recv,closed⟩:=c;dsimp only at *
 have hl:∀ o:Obj,(Instr.lookup 86 (.map (some bc)) (.int .i64 obj) true).run Try.prog ((w.alloc o).drew)=.ok (.tuple #[.agg #[.int .i64 rcap,.int .i64 rsent,.int .i64 rrecv,.bool rclosed],.bool kn]) ((w.alloc o).drew):=fun o=>by
  have h1:MapOf iK (w.alloc o).drew Try.prog 3 bc N (chanMap s.chans):=hm.alloc o;have h2:=h1.look_ok keyI Try.underlying86 zeroCh obj (wf_i64 hiobj);rw [hval,hsome] at h2;exact h2
 have hl2:∀ o o2:Obj,(Instr.lookup 86 (.map (some bc)) (.int .i64 obj) true).run Try.prog (((w.alloc o).alloc o2).drew)=.ok (.tuple #[.agg #[.int .i64 rcap,.int .i64 rsent,.int .i64 rrecv,.bool rclosed],.bool kn]) (((w.alloc o).alloc o2).drew):=fun o o2=>by
  have h1:MapOf iK ((w.alloc o).alloc o2).drew Try.prog 3 bc N (chanMap s.chans):=(hm.alloc o).alloc o2;have h2:=h1.look_ok keyI Try.underlying86 zeroCh obj (wf_i64 hiobj);rw [hval,hsome] at h2;exact h2
 have HM:=Lib.hid hm;clear hm;have HV:=Lib.hid hval;clear hval;have HSo:=Lib.hid hsome;clear hsome;have HCK:=Lib.hid hck;clear hck;unfold Ev.val
 go_enter Try.func62,Try.ntmps62
 go_wp2
 go_region
 go_upto_if 20 with fail
 go_cut [] (fun wx=>Below w.heap.size w wx∧w.heap.size+1 < wx.heap.size ∧
  wx.cell? ⟨w.heap.size,0,none⟩=some (.int .i64 g)∧wx.cell? ⟨w.heap.size,1,none⟩=some (.int .i64 kind)∧wx.cell? ⟨w.heap.size,2,none⟩=some (.int .i64 obj)∧wx.cell? ⟨w.heap.size,3,none⟩=some (.int .i64 off) ∧
  wx.cell? ⟨w.heap.size,4,none⟩=some (.int .i64 k)∧wx.cell? ⟨w.heap.size,5,none⟩=some (.int .i64 en)∧wx.cell? ⟨w.heap.size,6,none⟩=some (.int .i64 fn)∧wx.cell? ⟨w.heap.size,7,none⟩=some (.int .i64 pc)∧wx.cell? ⟨w.heap.size,8,none⟩=some (.int .i64 stack) ∧
  wx.heap[w.heap.size+1]? = some (.cells #[.int .i64 cap,.int .i64 sent,.int .i64 recv,.bool closed] 95 (0,0)))
 case first =>
  go_wp2
  all_goals go_meet
  all_goals (case' rel=>refine ⟨(((Below.refl _ _).alloc (Nat.le_refl _) _).alloc (by simp) _).drew,by simp,?_⟩)
  all_goals (have hck:=HCK.out;simp_all only [Bool.not_eq_true',Bool.not_eq_false',if_true,if_false,Bool.false_eq_true,Ch.mk.injEq])
  all_goals (obtain ⟨rfl,rfl,rfl,rfl⟩:=hck)
  all_goals (refine ⟨?_,?_,?_,?_,?_,?_,?_,?_,?_,heap_alloc2_new w _ _⟩ <;> simp [go_sem])
 case rest =>
  obtain ⟨wa,rfl⟩:∃ wa:World,wa=wc:=⟨_,rfl⟩
  obtain ⟨hb0,hz,e0,e1,e2,e3,e4,e5,e6,e7,e8,hrow⟩:=hcut;have k0:wa.cell? ⟨w.heap.size+1,0,none⟩=some (.int .i64 cap):=cell_of_row wa _ 0 _ _ _ hrow;have k1:wa.cell? ⟨w.heap.size+1,1,none⟩=some (.int .i64 sent):=cell_of_row wa _ 1 _ _ _ hrow;have k2:wa.cell? ⟨w.heap.size+1,2,none⟩=some (.int .i64 recv):=cell_of_row wa _ 2 _ _ _ hrow;have k3:wa.cell? ⟨w.heap.size+1,3,none⟩=some (.bool closed):=cell_of_row wa _ 3 _ _ _ hrow;have kf:wa.frozen? ⟨w.heap.size+1,3,none⟩=false:=frozen_of_row wa _ 3 _ _ hrow;have d1:wa.cell? ⟨sb,1,none⟩=some (.int .i64 s.gor):=(hb0.cell (p:=⟨sb,1,none⟩) hlt).trans c1;have d2:wa.cell? ⟨sb,2,none⟩=some (.map (some bc)):=(hb0.cell (p:=⟨sb,2,none⟩) hlt).trans c2;have hlt2:sb < wa.heap.size:=by omega
  have hlt3:w.heap.size < wa.heap.size:=by omega
  clear hl hl2 c1 c2;have HB0:=Lib.hid hb0;clear hb0;have HROW:=Lib.hid hrow;clear hrow
  have hno:∀ w':World,s.operate ⟨g,kind,obj,off,k,en,fn,pc,stack⟩=none→Below w.heap.size w w'→Ending.returned (.bool false)=.returned (.bool (s.operate ⟨g,kind,obj,off,k,en,fn,pc,stack⟩).isSome)∧(∃ kv',TRep w' sb bc bm bd (N+2) ((s.operate ⟨g,kind,obj,off,k,en,fn,pc,stack⟩).getD s) kv')∧But [sb,bc] w w':=fun w' ho hb=>by
   rw [ho];exact ⟨rfl,⟨kv,(HH.out.below hb).mono (by omega)⟩,(But.refl _ _).below hb⟩
  have HNO:=Lib.hid hno;clear hno
  go_upto_block 0 with fail
  ·rename_i hne
   go_ret
   exact HNO.out _ (TS.op_nA HCc.out hne) HB0.out
  ·go_cut [] (fun wx=>∃ (l:List Int) (snd rcv:Int) (gb:Nat),s.operate ⟨g,kind,obj,off,k,en,fn,pc,stack⟩=some (s.start ⟨g,kind,obj,off,k,en,fn,pc,stack⟩ ⟨cap,sent,recv,closed⟩ l snd rcv)∧Below w.heap.size w wx∧w.heap.size+1 < wx.heap.size∧wa.heap.size < wx.heap.size∧w.heap.size < gb∧gb≠sb ∧
    wx.cell? ⟨w.heap.size,0,none⟩=some (.int .i64 g)∧wx.cell? ⟨w.heap.size,1,none⟩=some (.int .i64 kind)∧wx.cell? ⟨w.heap.size,2,none⟩=some (.int .i64 obj)∧wx.cell? ⟨w.heap.size,3,none⟩=some (.int .i64 off) ∧
    wx.cell? ⟨w.heap.size,4,none⟩=some (.int .i64 k)∧wx.cell? ⟨w.heap.size,5,none⟩=some (.int .i64 en)∧wx.cell? ⟨w.heap.size,6,none⟩=some (.int .i64 fn)∧wx.cell? ⟨w.heap.size,7,none⟩=some (.int .i64 pc)∧wx.cell? ⟨w.heap.size,8,none⟩=some (.int .i64 stack) ∧
    wx.cell? ⟨w.heap.size+1,0,none⟩=some (.int .i64 cap)∧wx.cell? ⟨w.heap.size+1,1,none⟩=some (.int .i64 sent)∧wx.cell? ⟨w.heap.size+1,2,none⟩=some (.int .i64 recv)∧wx.cell? ⟨w.heap.size+1,3,none⟩=some (.bool closed) ∧
    wx.cell? ⟨wa.heap.size,0,none⟩=some (.slice (some ⟨gb,0,none⟩) l.length l.length)∧wx.cell? ⟨wa.heap.size,1,none⟩=some (.int .i64 obj)∧wx.cell? ⟨wa.heap.size,2,none⟩=some (.int .i64 k)∧wx.cell? ⟨wa.heap.size,3,none⟩=some (.int .i64 en) ∧
    wx.cell? ⟨wa.heap.size,4,none⟩=some (.int .i64 snd)∧wx.cell? ⟨wa.heap.size,5,none⟩=some (.int .i64 rcv)∧(∀ i x,l[i]? = some x→wx.cell? ⟨gb,i,none⟩=some (.int .i64 x)))
   case first =>
    go_wp2_with fail
    all_goals (have hcc:=HCc.out)
    all_goals first
     | (go_meet;first
       | refine ⟨[16],g, -1,wa.heap.size+1,TS.op_s15a hcc ‹_› ‹_› ‹_› ‹_› ‹_›,?_⟩
       | refine ⟨[17,18,16],g, -1,wa.heap.size+1,TS.op_s15b hcc ‹_› ‹_› ‹_› ‹_› ‹_› ‹_› ‹_›,?_⟩
       | refine ⟨[18], -1,g,wa.heap.size+1,TS.op_s17a hcc ‹_› ‹_› ‹_› ‹_›,?_⟩
       | refine ⟨[15,18,16], -1,g,wa.heap.size+1,TS.op_s17b hcc ‹_› ‹_› ‹_› ‹_› ‹_› ‹_›,?_⟩)
     | (go_ret;refine HNO.out _ ?_ (HB0.out.alloc (by omega) _);first | exact TS.op_nB hcc ‹_› ‹_› | exact TS.op_n20 hcc ‹_› ‹_› | exact TS.op_nD hcc ‹_› ‹_› | exact TS.op_nE hcc ‹_› ‹_› | exact TS.op_nF hcc ‹_› ‹_› ‹_› | exact TS.op_nG hcc ‹_› ‹_› ‹_› | exact TS.op_nH hcc ‹_› ‹_› | exact TS.op_nI hcc ‹_› ‹_› ‹_› | exact TS.op_nJ hcc ‹_› ‹_› ‹_› | exact TS.op_nK hcc ‹_› ‹_› ‹_› ‹_›)
     | skip
    ·-- close
     have hmw:MapOf iK wa Try.prog 3 bc N (chanMap s.chans):=HM.out.keep (HB0.out.block bc HM.out.lt);have hbl:=HM.out.lt;generalize hW:World.alloc (World.setCell _ _ _) _=W;have f1:W.cell? ⟨sb,2,none⟩=some (.map (some bc)):=by rw [←hW];clear hW;simp [go_sem, *]
     have f2:W.cell? ⟨w.heap.size,2,none⟩=some (.int .i64 obj):=by rw [←hW];clear hW;simp [go_sem, *]
     have f3:W.cell? ⟨w.heap.size+1,0,none⟩=some (.int .i64 cap):=by rw [←hW];clear hW;simp [go_sem, *]
     have f4:W.cell? ⟨w.heap.size+1,1,none⟩=some (.int .i64 sent):=by rw [←hW];clear hW;simp [go_sem, *]
     have f5:W.cell? ⟨w.heap.size+1,2,none⟩=some (.int .i64 recv):=by rw [←hW];clear hW;simp [go_sem, *]
     have f6:W.cell? ⟨w.heap.size+1,3,none⟩=some (.bool true):=by rw [←hW];clear hW;simp [go_sem, *]
     have hmW:MapOf iK W Try.prog 3 bc N (chanMap s.chans):=by rw [←hW];exact (hmw.setCell (by simp;omega) _).alloc _
     have hBW:Below w.heap.size w W:=by rw [←hW];exact (HB0.out.setCell (by simp) _).alloc (by simp;omega) _
     obtain ⟨w1,hput,hm2,hg⟩:=(show MapOf iK W.drew Try.prog 3 bc N (chanMap s.chans) from hmW).put keyI Try.underlying86 (by omega) obj (wf_i64 hiobj) (.agg #[.int .i64 cap,.int .i64 sent,.int .i64 recv,.bool true]);unfold iK at hput
     have hfin:TRep w1 sb bc bm bd (N+2) { s with chans:=upd s.chans obj ⟨cap,sent,recv,true⟩ } kv∧But [sb,bc] w w1:=by
      have hbt:But [bc] w w1:=((But.refl _ _).below hBW).drew.grown hg (.inl (by simp));exact ⟨HH.out.new_chans hbt (by rw [←chanMap_upd];exact hm2) (by omega) (by omega),hbt.mono (by simp)⟩
     have HF:=Lib.hid hfin;clear hfin hm2 hg hBW hmW hmw hW HNO;have hop:=TS.op_s19 hcc ‹_› ‹_› ‹_›;have HOP:=Lib.hid hop;clear hop hcc
     go_region
     go_wp2
     go_ret
     rw [HOP.out];exact ⟨rfl,⟨_,HF.out.1⟩,HF.out.2⟩
    ·-- a receive of a closed channel
     have hop:=TS.op_s20 hcc ‹_› ‹_› ‹_›
     go_ret
     rw [hop];refine ⟨ret_bool ?_,⟨kv,?_⟩,(But.refl _ _).below (HB0.out.alloc (by omega) _)⟩
     ·by_cases hsr:sent=recv <;> simp [hsr]
     ·have hgd:(if sent=recv then some s else none).getD s=s:=by split <;> rfl
      rw [hgd];exact (HH.out.below (HB0.out.alloc (by omega) _)).mono (by omega)
    all_goals clear hcc HNO
    all_goals refine ⟨(HB0.out.alloc (by omega) _).alloc (by simp;omega) _,by simp;omega,by simp;omega,by omega,by omega,?_⟩
    all_goals go_light
    all_goals refine ⟨?_,?_,?_,?_,?_,?_,?_,?_,?_,?_,?_,?_,?_,?_,?_,?_,?_,?_,?_,?_⟩
    all_goals first | (simp [go_sem, *];done) | (rintro (_ | _ | _ | i) x hx <;> simp at hx <;> subst hx <;> simp [go_sem])
   case rest =>
    obtain ⟨l,snd,rcv,gb,hop,hb1,z1,z2,z3,z4,e0,e1,e2,e3,e4,e5,e6,e7,e8,k0,k1,k2,k3,o0,o1,o2,o3,o4,o5,hl⟩:=hcut;clear d1 d2 hlt2;have hbl:=HM.out.lt;have hne:bc≠sb:=HM.out.ne_cells HH.out.row;have hmc:MapOf iK wc Try.prog 3 bc N (chanMap s.chans):=HM.out.keep (hb1.block bc hbl);obtain ⟨w1,hput,hm2,hg⟩:=(show MapOf iK wc.drew Try.prog 3 bc N (chanMap s.chans) from hmc).put keyI Try.underlying86 (by omega) obj (wf_i64 hiobj) (.agg #[.int .i64 cap,.int .i64 sent,.int .i64 recv,.bool closed]);unfold iK at hput;have hb2:But [bc] wc w1:=(But.refl _ _).drew.grown hg (.inl (by simp));have hrow0:wc.heap[sb]? = some (.cells (TCells s bc bm bd kv) 92 (0,0)):=(hb1.block sb hlt).trans HH.out.row;have hrow1:w1.heap[sb]? = some (.cells (TCells s bc bm bd kv) 92 (0,0)):=(hb2.block sb (by omega) (by simpa using Ne.symm hne)).trans hrow0
    have d2:wc.cell? ⟨sb,2,none⟩=some (.map (some bc)):=cell_of_row wc sb 2 _ _ _ hrow0;have s5:w1.cell? ⟨sb,5,none⟩=some kv:=cell_of_row w1 sb 5 _ _ _ hrow1;have s6:w1.cell? ⟨sb,6,none⟩=some (.int .i64 s.grp.obj):=cell_of_row w1 sb 6 _ _ _ hrow1;have s7:w1.cell? ⟨sb,7,none⟩=some (.int .i64 s.grp.k):=cell_of_row w1 sb 7 _ _ _ hrow1;have s8:w1.cell? ⟨sb,8,none⟩=some (.int .i64 s.grp.n):=cell_of_row w1 sb 8 _ _ _ hrow1;have s9:w1.cell? ⟨sb,9,none⟩=some (.int .i64 s.grp.snd):=cell_of_row w1 sb 9 _ _ _ hrow1;have s10:w1.cell? ⟨sb,10,none⟩=some (.int .i64 s.grp.rcv):=cell_of_row w1 sb 10 _ _ _ hrow1;have sf:∀ j,w1.frozen? ⟨sb,j,none⟩=false:=fun j=>frozen_of_row w1 sb j _ _ hrow1
    have keepc:∀ b j v,b < wc.heap.size→b≠bc→wc.cell? ⟨b,j,none⟩=some v→w1.cell? ⟨b,j,none⟩=some v:=fun b j v h1 h2 h3=>(hb2.cell (p:=⟨b,j,none⟩) h1 (by simpa using h2)).trans h3
    have f0:=keepc _ _ _ (by omega) (by omega) e0;have f1:=keepc _ _ _ (by omega) (by omega) e1;have f2:=keepc _ _ _ (by omega) (by omega) e2;have f3:=keepc _ _ _ (by omega) (by omega) e3;have f4:=keepc _ _ _ (by omega) (by omega) e4;have f5:=keepc _ _ _ (by omega) (by omega) e5;have f6:=keepc _ _ _ (by omega) (by omega) e6;have f7:=keepc _ _ _ (by omega) (by omega) e7;have f8:=keepc _ _ _ (by omega) (by omega) e8;have p0:=keepc _ _ _ (by omega) (by omega) o0;have p1:=keepc _ _ _ (by omega) (by omega) o1;have p2:=keepc _ _ _ (by omega) (by omega) o2;have p3:=keepc _ _ _ (by omega) (by omega) o3;have p4:=keepc _ _ _ (by omega) (by omega) o4;have p5:=keepc _ _ _ (by omega) (by omega) o5;have HL:=Lib.hid hl;clear hl;have HM2:=Lib.hid hm2;clear hm2 hmc hg;have HB1:=Lib.hid hb1;clear hb1;have HB2:=Lib.hid hb2;clear hb2;have HOP:=Lib.hid hop;clear hop
    have HR1:=Lib.hid hrow1;clear hrow1 hrow0 keepc HNO
    go_wp2
    go_region
    go_wp2_with fail
    generalize hW:World.setCell _ _ _=W2
    have hrow2:W2.heap[sb]? = some (.cells (TCells (s.start ⟨g,kind,obj,off,k,en,fn,pc,stack⟩ ⟨cap,sent,recv,closed⟩ l snd rcv) bc bm bd (.slice (some ⟨gb,0,none⟩) l.length l.length)) 92 (0,0)):=by
     rw [←hW];exact heap_setCell_same _ _ _ _ _ _ (heap_setCell_same _ _ _ _ _ _ (heap_setCell_same _ _ _ _ _ _ (heap_setCell_same _ _ _ _ _ _ (heap_setCell_same _ _ _ _ _ _ (heap_setCell_same _ _ _ _ _ _ HR1.out)))))
    have hb3:But [sb] w1 W2:=by
     rw [←hW];exact ((((((But.refl _ _).setCell (.inl (by simp)) _).setCell (.inl (by simp)) _).setCell (.inl (by simp)) _).setCell (.inl (by simp)) _).setCell (.inl (by simp)) _).setCell (.inl (by simp)) _
    clear hW
    have hm4:MapOf iK W2 Try.prog 3 bc (N+1) (chanMap (upd s.chans obj ⟨cap,sent,recv,closed⟩)):=by
     rw [←chanMap_upd];exact HM2.out.but hb3 (by simpa using hne)
    refine (count_any sb bc (N+1) (upd s.chans obj ⟨cap,sent,recv,closed⟩) ⟨g,kind,obj,off,k,en,fn,pc,stack⟩ W2 (cell_of_row W2 sb 2 _ _ _ hrow2) hm4 (by omega) hiobj (fun c hc=>by rw [upd_same] at hc;cases hc;exact ⟨⟨hs1,hs3⟩,hr1,hr3⟩)).mono ?_
    rintro r w3 ⟨rfl,hm5,hb4⟩
    have hfin:TRep w3 sb bc bm bd (N+2) (s.start ⟨g,kind,obj,off,k,en,fn,pc,stack⟩ ⟨cap,sent,recv,closed⟩ l snd rcv) (.slice (some ⟨gb,0,none⟩) l.length l.length)∧But [sb,bc] w w3:=by
     have hbt:But [sb,bc] w w3:=(((But.refl _ _).below HB1.out).trans (HB2.out.mono (by simp))).trans ((hb3.mono (by simp)).trans (hb4.mono (by simp)));have hsz1:=HB2.out.size;have hsz2:=hb3.size;refine ⟨⟨(hb4.block sb (by omega) (by simpa using Ne.symm hne)).trans hrow2,⟨_,_,rfl,Nat.le_refl _,fun hl0=>⟨gb,0,rfl,⟨z4,HKB.out gb (by omega)⟩,fun i x hx=>?_⟩⟩,?_,(HH.out.mus.but hbt ?_).mono (by omega),(HH.out.done.but hbt ?_).mono (by omega),HH.out.ncm,HH.out.ncd,HH.out.nmd⟩,hbt⟩
     ·have hx0:=HL.out i x hx;have hlt0:=block_lt_of_cell hx0;dsimp only at hlt0;have hgbc:gb≠bc:=by omega
      rw [Nat.zero_add];exact (hb4.cell (p:=⟨gb,i,none⟩) (by dsimp only;omega) (by simpa using hgbc)).trans ((hb3.cell (p:=⟨gb,i,none⟩) (by dsimp only;omega) (by simpa using z4)).trans ((HB2.out.cell (p:=⟨gb,i,none⟩) hlt0 (by simpa using hgbc)).trans hx0))
     ·have h1:upd (upd s.chans obj ⟨cap,sent,recv,closed⟩) obj (((upd s.chans obj ⟨cap,sent,recv,closed⟩ obj).getD ch0).count kind)=upd s.chans obj ((⟨cap,sent,recv,closed⟩:Ch).count kind):=by
       rw [upd_upd,upd_same];rfl
      rw [h1] at hm5;exact hm5
     ·simp only [List.mem_cons,List.not_mem_nil,or_false,not_or];exact ⟨HH.out.mus.ne_cells HH.out.row,Ne.symm HH.out.ncm⟩
     ·simp only [List.mem_cons,List.not_mem_nil,or_false,not_or];exact ⟨HH.out.done.ne_cells HH.out.row,Ne.symm HH.out.ncd⟩
    have HF:=Lib.hid hfin;clear hfin hm5 hb4 hm4 hb3 hrow2
    go_wp2
    go_ret
    rw [HOP.out];exact ⟨rfl,⟨_,HF.out.1⟩,HF.out.2⟩
end
end Go.Proofs.Ytffcpijeebagfaa
end
