/- Texts of a proof by an abstract machine over the model. -/
import Derived.Test.YtmhkendlllmodaaGreatDoorP12
set_option linter.unusedSimpArgs false
set_option linter.unusedVariables false
namespace Go.Gc
open Go Go.FM Go.Gv Go.Proofs
set_option maxRecDepth 100000
set_option maxHeartbeats 4000000
theorem c114 (p : Pg) (f : FnD) (x : Ins) (role v : Int) (hc : f.code.length ≤ 2000000) (hf : p.funcs.length ≤ 2000000) (hg : p.globals.length ≤ 2000000) (hl : p.layouts.length ≤ 2000000) : PC Tryz.prog Gl 114 [.agg [.list 4 (fns p.funcs), .list 2 (gbs p.globals), .list 1 (lays p.layouts), .int .i64 p.main], .agg [.str f.name, .int .i64 f.params, .int .i64 f.regs, .list 5 (inss f.code)], .agg [.int .i64 x.op, .int .i64 x.a, .int .i64 x.b, .int .i64 x.c, .int .i64 x.d], .int .u8 role, .int .i64 v] (.bool (opR p f x role v)) := by
  refine PC_go (res := [.tmp 10]) 11 177 [11] (fun d ix => d :: ix) (fn := Tryz.f114) (by kernel_rfl) (by rfl) (by rfl) (by rfl) (by simp) (by decide) ?_
  repeat' first
    | with_reducible refine aw_sq ?_
    | with_reducible refine aw_blk ?_
    | with_reducible refine aw_reg fun K hK => ?_
    | with_reducible refine aw_dr (id := 17) 28 t_mix (by kernel_rfl) fun K hK => ?_
    | with_reducible refine aw_skip ?_
    | with_reducible refine aw_ret ?_
    | with_reducible refine aw_exit ?_
    | with_reducible refine aw_cnd fun T E hT hE => ?_
    | with_reducible refine kseq ?_
    | with_reducible refine kseq_r ?_
    | with_reducible refine kseq_e ?_
    | with_reducible refine kblk ?_
    | with_reducible refine kblk_r ?_
    | with_reducible refine kblk_hit ?_
    | with_reducible refine kblk_miss rfl ?_
    | with_reducible refine kloop_r ?_
    | with_reducible refine kloop_e ?_
    | with_reducible refine pfin_r ?_
    | with_reducible refine pfin_n ?_
    | with_reducible refine nfin_r ?_
    | with_reducible refine nfin_n ?_
    | with_reducible refine gop_t ?_
    | with_reducible refine gop_f ?_
    | with_reducible refine cond_t ?_
    | with_reducible refine cond_f ?_
    | with_reducible refine gsplit_nd (fun h => ?_) (fun h => ?_)
    | with_reducible refine gsplit_d (fun h => ?_) (fun h => ?_)
    | with_reducible refine hgsplit_nd (fun h => ?_) (fun h => ?_)
    | with_reducible refine hgsplit_d (fun h => ?_) (fun h => ?_)
    | with_reducible refine cond_nd (fun h => ?_) (fun h => ?_)
    | with_reducible refine cond_d (fun h => ?_) (fun h => ?_)
    | with_reducible refine gsplit_n (fun h => ?_) (fun h => ?_)
    | with_reducible refine gsplit (fun h => ?_) (fun h => ?_)
    | with_reducible refine hgsplit_n (fun h => ?_) (fun h => ?_)
    | with_reducible refine hgsplit (fun h => ?_) (fun h => ?_)
    | with_reducible refine cond_n (fun h => ?_) (fun h => ?_)
    | with_reducible refine cond_b (fun h => ?_) (fun h => ?_)
    | with_reducible refine hnx_go rfl (by decide) fresh_noH ?_
    | with_reducible refine hnx_go rfl (by decide) (fresh_upd (by simp [upd, noH, ext, hpL_at, hpL_nil, *])) ?_
    | with_reducible refine awH_go (by decide) (by kernel_rfl) ?_
    | with_reducible refine awH_tail (by decide) ?_
    | (with_reducible refine Kont.go hK ?_; clear hK K)
    | (with_reducible refine KT.go hT ?_; clear hT hE T E)
    | (with_reducible refine KT.go hE ?_; clear hT hE T E)
    | simp [*, -List.all_flatten, -List.all_eq_true, ext_noH, FS.init, FS.get, FS.put, FS.clean, lk, upd, ext, noH, cv1, cv, rv, FV.isU, FV.cellV, FV.cellsL, FV.storable, fLoad, fField, fIndex, fLen, fBin, fUn, fConv, natOf, fSlice, setFrom, fillA, pv, pv1, pv2, wv, wAlloc, wBox, wStore, wBuildS, wMakeS, wMakeM, wMapU, wApp, srcA, chunks, upds, List.foldl_cons, List.foldl_nil, fLook, fNil, fUn2, fBits, fCmp, fCmpB, eqK, eqCells, eqV, FV.kd, eqNil, nilV, putD, fStep, callee?, guardV, keepT, lastDst, condV, resV, resL, tupOf, StK, wOps_nil, wOps_cons, GOp_t, GOp_f, DoOp_n, DoOp_c, hMake, HG_t, HG_f, HDo_n, HDo_c, nl, nls, nlss, frz, frzs, frzR, asR, asRs, Fend, PFin_s, frzRes_s, frzNRes_s, frzN, nf, nfs, hpL_at, hpL_nil, keyOk, fBuildA, f_Program_eqGuardType_Program_depth_3, f_Program_eqGuardType_Program_depth_5, f_arT_22, f_arT_47, f_boolT_3, f_boolT_5, f_byT_3, f_byT_33, f_byT_49, f_byT_51, f_byT_53, f_byT_73, f_byT_9, f_fldT_26_0, f_fldT_26_1, f_fldT_26_2, f_fldT_49_1, f_fldT_49_2, f_fldT_49_3, f_fldT_51_0, f_fldT_51_2, f_fldT_51_3, f_intT_3, f_intT_5, f_kdT_3, f_kdT_33, f_kdT_4, f_kdT_5, f_kdT_9, f_ldT_22, f_ldT_23, f_ldT_24, f_ldT_3, f_ldT_47, f_nilT_3, f_nilT_5, f_slT_22, f_slT_23, f_slT_24, f_slT_47, f_stT_3, f_stT_33, f_stT_4, f_stT_5, f_stT_9, f_strT_22, f_strT_23, f_strT_24, f_strT_47, f_szT_26, f_szT_49, f_szT_51, f_zeroC_147, f_zeroC_150, f_zeroC_174, f_zeroC_26, f_zeroC_3, f_zeroC_33, f_zeroC_49, f_zeroC_51, f_zeroC_53, f_zeroC_73, f_zeroC_78, f_zeroC_9, -Bool.decide_and, ints_length, inss_length, fns_length, gbs_length, lays_length, nlss_ints, nlss_inss, nlss_fns, nlss_gbs, nlss_lays, ints_at, inss_at, fns_at, gbs_at, lays_at, intRow, Ins.row, FnD.row, Gb.row, layRow, Int.le_sub_one_iff]
  all_goals first
    | (simp_all [opR, opAt, parAt]; done)
    | (rw [← Bool.not_eq_true]; intro hh; simp [opR, *] at hh <;> omega)
    | trace_state

end Go.Gc
