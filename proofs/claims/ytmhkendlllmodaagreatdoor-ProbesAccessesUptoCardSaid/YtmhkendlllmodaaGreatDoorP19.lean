/- Texts of a proof by an abstract machine over the model. -/
import Derived.Test.YtmhkendlllmodaaGreatDoorP15
import Derived.Test.YtmhkendlllmodaaGreatDoorP17
set_option linter.unusedSimpArgs false
set_option linter.unusedVariables false
namespace Go.Gc
open Go Go.FM Go.Gv Go.Proofs
set_option maxRecDepth 100000
set_option maxHeartbeats 4000000
theorem c35 (p : Pg) (f : FnD) (hc : f.code.length ≤ 2000000) (hf : p.funcs.length ≤ 2000000) (hg : p.globals.length ≤ 2000000) (hl : p.layouts.length ≤ 2000000) : PC Tryz.prog Gl 35 [.agg [.list 4 (fns p.funcs), .list 2 (gbs p.globals), .list 1 (lays p.layouts), .int .i64 p.main, .str f.name, .int .i64 f.params, .int .i64 f.regs, .list 5 (inss f.code)]] (.bool (fnI p f)) := by
  have w1 := wl f.code.length (by omega)
  rcases case_len f.code with hn | ⟨hn, n1, z, n2, n3, n4⟩
  all_goals
    refine PC_go (res := [.tmp 2]) 9 75 [49, 48, 47] (fun d ix => d :: ix) (fn := Tryz.f35) (by kernel_rfl) (by rfl) (by rfl) (by rfl) (by simp) (by decide) ?_
    repeat' first
      | ((with_reducible refine lp_here ?_); refine aw_lpg (fun y : {y : Nat × Int // y.1 ≤ f.code.length ∧ loopI p f f.code 0 = loopI p f (f.code.drop y.1) y.2} => (⟨[.agg [.list 4 (fns p.funcs), .list 2 (gbs p.globals), .list 1 (lays p.layouts), .int .i64 p.main, .str f.name, .int .i64 f.params, .int .i64 f.regs, .list 5 (inss f.code)], .ptr [1] 8 0 0, .bool false, .ptr [3] 4 0 0, .int .i64 (f.code.length : Int), .undef, .int .i64 y.1.2, .undef, .undef], [(47, .list 5 (inss f.code)), (48, .int .i64 (f.code.length : Int)), (49, .int .i64 (y.1.1 : Int))], hpL [([1], .cells 78 8 [[.list 4 (fns p.funcs), .list 2 (gbs p.globals), .list 1 (lays p.layouts), .int .i64 p.main, .str f.name, .int .i64 f.params, .int .i64 f.regs, .list 5 (inss f.code)]]), ([3], .cells 49 4 [[.str f.name, .int .i64 f.params, .int .i64 f.regs, .list 5 (inss f.code)]])], []⟩ : FS)) (fun y => f.code.length - y.1.1) ⟨(0, 0), by simp⟩ (gk_lst [] (fun _ h => h) (by rfl) ?_ ?_ ?_) ?_; (focus (simp [*, nle_append, nle_cons, nle_nil, nlss_append, nlss, nls, nl, simVs, simV, simT, simH, simO, renO, innO, ren, inn, rens, inns, renss, innss, rene, inne, bk, hpL, upd, noH, ext, lk, renss_nl, innss_nl, rens_nl, inns_nl, nlss_ints, ints_length, ints_append, ints_one, ints_nil, nlss_inss, inss_length, inss_append, inss_one, inss_nil, nlss_fns, fns_length, fns_append, fns_one, fns_nil, nlss_gbs, gbs_length, gbs_append, gbs_one, gbs_nil, nlss_lays, lays_length, lays_append, lays_one, lays_nil, List.take_of_length_le, List.filter_append, *]; done)); (focus (simp [*, nle_append, nle_cons, nle_nil, nlss_append, nlss, nls, nl, simVs, simV, simT, simH, simO, renO, innO, ren, inn, rens, inns, renss, innss, rene, inne, bk, hpL, upd, noH, ext, lk, renss_nl, innss_nl, rens_nl, inns_nl, nlss_ints, ints_length, ints_append, ints_one, ints_nil, nlss_inss, inss_length, inss_append, inss_one, inss_nil, nlss_fns, fns_length, fns_append, fns_one, fns_nil, nlss_gbs, gbs_length, gbs_append, gbs_one, gbs_nil, nlss_lays, lays_length, lays_append, lays_one, lays_nil, List.take_of_length_le, List.filter_append]; done)); (focus (simp [*, nle_append, nle_cons, nle_nil, nlss_append, nlss, nls, nl, simVs, simV, simT, simH, simO, renO, innO, ren, inn, rens, inns, renss, innss, rene, inne, bk, hpL, upd, noH, ext, lk, renss_nl, innss_nl, rens_nl, inns_nl, nlss_ints, ints_length, ints_append, ints_one, ints_nil, nlss_inss, inss_length, inss_append, inss_one, inss_nil, nlss_fns, fns_length, fns_append, fns_one, fns_nil, nlss_gbs, gbs_length, gbs_append, gbs_one, gbs_nil, nlss_lays, lays_length, lays_append, lays_one, lays_nil, List.take_of_length_le, List.filter_append, *]; done)); rintro ⟨⟨i, e⟩, hi, hk⟩; (try dsimp only at hi hk); have hk2 := hk; rcases case_lt' hi with hlt | ⟨hlt, rfl⟩; rw [loopI_at hlt] at hk2; have wi := wli hlt (by omega); rotate_left; rw [drop_all, loopI] at hk2; rotate_left)
      | ((with_reducible refine kl_here ?_); refine kloopg (⟨(i + 1, W (e - 1)), by dsimp only; omega, by dsimp only; rw [hk2]; simp [*]⟩) (gk_lst [] (fun _ h => h) (by rfl) ?_ ?_ ?_) (by dsimp only; omega); (focus (simp [*, nle_append, nle_cons, nle_nil, nlss_append, nlss, nls, nl, simVs, simV, simT, simH, simO, renO, innO, ren, inn, rens, inns, renss, innss, rene, inne, bk, hpL, upd, noH, ext, lk, renss_nl, innss_nl, rens_nl, inns_nl, nlss_ints, ints_length, ints_append, ints_one, ints_nil, nlss_inss, inss_length, inss_append, inss_one, inss_nil, nlss_fns, fns_length, fns_append, fns_one, fns_nil, nlss_gbs, gbs_length, gbs_append, gbs_one, gbs_nil, nlss_lays, lays_length, lays_append, lays_one, lays_nil, List.take_of_length_le, List.filter_append, *]; done)); (focus (simp [*, nle_append, nle_cons, nle_nil, nlss_append, nlss, nls, nl, simVs, simV, simT, simH, simO, renO, innO, ren, inn, rens, inns, renss, innss, rene, inne, bk, hpL, upd, noH, ext, lk, renss_nl, innss_nl, rens_nl, inns_nl, nlss_ints, ints_length, ints_append, ints_one, ints_nil, nlss_inss, inss_length, inss_append, inss_one, inss_nil, nlss_fns, fns_length, fns_append, fns_one, fns_nil, nlss_gbs, gbs_length, gbs_append, gbs_one, gbs_nil, nlss_lays, lays_length, lays_append, lays_one, lays_nil, List.take_of_length_le, List.filter_append, *]; done)); (focus (simp [*, nle_append, nle_cons, nle_nil, nlss_append, nlss, nls, nl, simVs, simV, simT, simH, simO, renO, innO, ren, inn, rens, inns, renss, innss, rene, inne, bk, hpL, upd, noH, ext, lk, renss_nl, innss_nl, rens_nl, inns_nl, nlss_ints, ints_length, ints_append, ints_one, ints_nil, nlss_inss, inss_length, inss_append, inss_one, inss_nil, nlss_fns, fns_length, fns_append, fns_one, fns_nil, nlss_gbs, gbs_length, gbs_append, gbs_one, gbs_nil, nlss_lays, lays_length, lays_append, lays_one, lays_nil, List.take_of_length_le, List.filter_append, *]; done)))
      | ((with_reducible refine kl_here ?_); refine kloopg (⟨(i + 1, f.code[i].b), by dsimp only; omega, by dsimp only; rw [hk2]; simp [*]⟩) (gk_lst [] (fun _ h => h) (by rfl) ?_ ?_ ?_) (by dsimp only; omega); (focus (simp [*, nle_append, nle_cons, nle_nil, nlss_append, nlss, nls, nl, simVs, simV, simT, simH, simO, renO, innO, ren, inn, rens, inns, renss, innss, rene, inne, bk, hpL, upd, noH, ext, lk, renss_nl, innss_nl, rens_nl, inns_nl, nlss_ints, ints_length, ints_append, ints_one, ints_nil, nlss_inss, inss_length, inss_append, inss_one, inss_nil, nlss_fns, fns_length, fns_append, fns_one, fns_nil, nlss_gbs, gbs_length, gbs_append, gbs_one, gbs_nil, nlss_lays, lays_length, lays_append, lays_one, lays_nil, List.take_of_length_le, List.filter_append, *]; done)); (focus (simp [*, nle_append, nle_cons, nle_nil, nlss_append, nlss, nls, nl, simVs, simV, simT, simH, simO, renO, innO, ren, inn, rens, inns, renss, innss, rene, inne, bk, hpL, upd, noH, ext, lk, renss_nl, innss_nl, rens_nl, inns_nl, nlss_ints, ints_length, ints_append, ints_one, ints_nil, nlss_inss, inss_length, inss_append, inss_one, inss_nil, nlss_fns, fns_length, fns_append, fns_one, fns_nil, nlss_gbs, gbs_length, gbs_append, gbs_one, gbs_nil, nlss_lays, lays_length, lays_append, lays_one, lays_nil, List.take_of_length_le, List.filter_append, *]; done)); (focus (simp [*, nle_append, nle_cons, nle_nil, nlss_append, nlss, nls, nl, simVs, simV, simT, simH, simO, renO, innO, ren, inn, rens, inns, renss, innss, rene, inne, bk, hpL, upd, noH, ext, lk, renss_nl, innss_nl, rens_nl, inns_nl, nlss_ints, ints_length, ints_append, ints_one, ints_nil, nlss_inss, inss_length, inss_append, inss_one, inss_nil, nlss_fns, fns_length, fns_append, fns_one, fns_nil, nlss_gbs, gbs_length, gbs_append, gbs_one, gbs_nil, nlss_lays, lays_length, lays_append, lays_one, lays_nil, List.take_of_length_le, List.filter_append, *]; done)))
      | ((with_reducible refine kl_here ?_); refine kloopg (⟨(i + 1, e), by dsimp only; omega, by dsimp only; rw [hk2]; simp [*]⟩) (gk_lst [] (fun _ h => h) (by rfl) ?_ ?_ ?_) (by dsimp only; omega); (focus (simp [*, nle_append, nle_cons, nle_nil, nlss_append, nlss, nls, nl, simVs, simV, simT, simH, simO, renO, innO, ren, inn, rens, inns, renss, innss, rene, inne, bk, hpL, upd, noH, ext, lk, renss_nl, innss_nl, rens_nl, inns_nl, nlss_ints, ints_length, ints_append, ints_one, ints_nil, nlss_inss, inss_length, inss_append, inss_one, inss_nil, nlss_fns, fns_length, fns_append, fns_one, fns_nil, nlss_gbs, gbs_length, gbs_append, gbs_one, gbs_nil, nlss_lays, lays_length, lays_append, lays_one, lays_nil, List.take_of_length_le, List.filter_append, *]; done)); (focus (simp [*, nle_append, nle_cons, nle_nil, nlss_append, nlss, nls, nl, simVs, simV, simT, simH, simO, renO, innO, ren, inn, rens, inns, renss, innss, rene, inne, bk, hpL, upd, noH, ext, lk, renss_nl, innss_nl, rens_nl, inns_nl, nlss_ints, ints_length, ints_append, ints_one, ints_nil, nlss_inss, inss_length, inss_append, inss_one, inss_nil, nlss_fns, fns_length, fns_append, fns_one, fns_nil, nlss_gbs, gbs_length, gbs_append, gbs_one, gbs_nil, nlss_lays, lays_length, lays_append, lays_one, lays_nil, List.take_of_length_le, List.filter_append, *]; done)); (focus (simp [*, nle_append, nle_cons, nle_nil, nlss_append, nlss, nls, nl, simVs, simV, simT, simH, simO, renO, innO, ren, inn, rens, inns, renss, innss, rene, inne, bk, hpL, upd, noH, ext, lk, renss_nl, innss_nl, rens_nl, inns_nl, nlss_ints, ints_length, ints_append, ints_one, ints_nil, nlss_inss, inss_length, inss_append, inss_one, inss_nil, nlss_fns, fns_length, fns_append, fns_one, fns_nil, nlss_gbs, gbs_length, gbs_append, gbs_one, gbs_nil, nlss_lays, lays_length, lays_append, lays_one, lays_nil, List.take_of_length_le, List.filter_append, *]; done)))
      | with_reducible refine aw_sq ?_
      | with_reducible refine aw_blk ?_
      | with_reducible refine aw_reg fun K hK => ?_
      | with_reducible refine aw_skip ?_
      | with_reducible refine aw_ret ?_
      | with_reducible refine aw_exit ?_
      | with_reducible refine aw_cnd fun T E hT hE => ?_
      | with_reducible refine kseq ?_
      | with_reducible refine kseq_r ?_
      | with_reducible refine kseq_e ?_
      | with_reducible refine kblk ?_
      | with_reducible refine kblk_r ?_
      | with_reducible refine kblk_hit ?_
      | with_reducible refine kblk_miss rfl ?_
      | with_reducible refine kloop_r ?_
      | with_reducible refine kloop_e ?_
      | with_reducible refine pfin_r ?_
      | with_reducible refine pfin_n ?_
      | with_reducible refine nfin_r ?_
      | with_reducible refine nfin_n ?_
      | with_reducible refine gop_t ?_
      | with_reducible refine gop_f ?_
      | with_reducible refine cond_t ?_
      | with_reducible refine cond_f ?_
      | with_reducible refine gsplit_nd (fun h => ?_) (fun h => ?_)
      | with_reducible refine gsplit_d (fun h => ?_) (fun h => ?_)
      | with_reducible refine hgsplit_nd (fun h => ?_) (fun h => ?_)
      | with_reducible refine hgsplit_d (fun h => ?_) (fun h => ?_)
      | with_reducible refine cond_nd (fun h => ?_) (fun h => ?_)
      | with_reducible refine cond_d (fun h => ?_) (fun h => ?_)
      | with_reducible refine gsplit_n (fun h => ?_) (fun h => ?_)
      | with_reducible refine gsplit (fun h => ?_) (fun h => ?_)
      | with_reducible refine hgsplit_n (fun h => ?_) (fun h => ?_)
      | with_reducible refine hgsplit (fun h => ?_) (fun h => ?_)
      | with_reducible refine cond_n (fun h => ?_) (fun h => ?_)
      | with_reducible refine cond_b (fun h => ?_) (fun h => ?_)
      | with_reducible refine call_pc (c31 _ _ _) (by simp [nls, nl, *, nlss_inss, nlss_fns, nlss_gbs, nlss_lays, nlss_ints]) ?_
      | with_reducible refine hpc (c31 _ _ _) (by simp [nls, nl, *, nlss_inss, nlss_fns, nlss_gbs, nlss_lays, nlss_ints]) ?_
      | with_reducible refine call_pc (c61 p f _ hc hf hg hl) (by simp [nls, nl, *, nlss_inss, nlss_fns, nlss_gbs, nlss_lays, nlss_ints]) ?_
      | with_reducible refine hpc (c61 p f _ hc hf hg hl) (by simp [nls, nl, *, nlss_inss, nlss_fns, nlss_gbs, nlss_lays, nlss_ints]) ?_
      | with_reducible refine hnx_go rfl (by decide) fresh_noH ?_
      | with_reducible refine hnx_go rfl (by decide) (fresh_upd (by simp [upd, noH, ext, hpL_at, hpL_nil, *])) ?_
      | with_reducible refine awH_go (by decide) (by kernel_rfl) ?_
      | with_reducible refine awH_tail (by decide) ?_
      | (with_reducible refine Kont.go hK ?_; clear hK K)
      | (with_reducible refine KT.go hT ?_; clear hT hE T E)
      | (with_reducible refine KT.go hE ?_; clear hT hE T E)
      | simp [*, -List.all_flatten, -List.all_eq_true, ext_noH, FS.init, FS.get, FS.put, FS.clean, lk, upd, ext, noH, cv1, cv, rv, FV.isU, FV.cellV, FV.cellsL, FV.storable, fLoad, fField, fIndex, fLen, fBin, fUn, fConv, natOf, fSlice, setFrom, fillA, pv, pv1, pv2, wv, wAlloc, wBox, wStore, wBuildS, wMakeS, wMakeM, wMapU, wApp, srcA, chunks, upds, List.foldl_cons, List.foldl_nil, fLook, fNil, fUn2, fBits, fCmp, fCmpB, eqK, eqCells, eqV, FV.kd, eqNil, nilV, putD, fStep, callee?, guardV, keepT, lastDst, condV, resV, resL, tupOf, StK, wOps_nil, wOps_cons, GOp_t, GOp_f, DoOp_n, DoOp_c, hMake, HG_t, HG_f, HDo_n, HDo_c, nl, nls, nlss, frz, frzs, frzR, asR, asRs, Fend, PFin_s, frzRes_s, frzNRes_s, frzN, nf, nfs, hpL_at, hpL_nil, keyOk, fBuildA, f_Program_eqGuardType_Program_depth_3, f_arT_47, f_boolT_3, f_byT_3, f_byT_33, f_byT_49, f_byT_51, f_byT_53, f_byT_73, f_byT_9, f_fldT_49_1, f_fldT_49_2, f_fldT_49_3, f_fldT_51_0, f_fldT_51_2, f_fldT_78_1, f_fnOk_31, f_fnOk_61, f_intT_3, f_kdT_3, f_kdT_33, f_kdT_4, f_kdT_5, f_kdT_9, f_ldT_147, f_ldT_174, f_ldT_22, f_ldT_23, f_ldT_24, f_ldT_26, f_ldT_3, f_ldT_33, f_ldT_47, f_ldT_49, f_ldT_51, f_ldT_53, f_ldT_73, f_ldT_78, f_ldT_9, f_nilT_3, f_slT_47, f_stT_3, f_stT_33, f_stT_4, f_stT_5, f_stT_9, f_strT_47, f_szT_147, f_szT_174, f_szT_22, f_szT_24, f_szT_26, f_szT_3, f_szT_47, f_szT_49, f_szT_51, f_szT_73, f_szT_78, f_zeroC_147, f_zeroC_150, f_zeroC_174, f_zeroC_26, f_zeroC_3, f_zeroC_33, f_zeroC_49, f_zeroC_51, f_zeroC_53, f_zeroC_73, f_zeroC_78, f_zeroC_9, -Bool.decide_and, eqV, ints_length, inss_length, fns_length, gbs_length, lays_length, nlss_ints, nlss_inss, nlss_fns, nlss_gbs, nlss_lays, ints_at, inss_at, fns_at, gbs_at, lays_at, intRow, Ins.row, FnD.row, Gb.row, layRow, Int.le_sub_one_iff, List.length_drop]
    all_goals first
      | (simp_all [fnI, headF, lastOk, btw, W]; done)
      | (clear hk; simp_all [fnI, headF, lastOk, btw, W]; done)
      | (clear hk; rw [← Bool.not_eq_true]; intro hh; simp [fnI, headF, lastOk, btw, *] at hh <;> omega)
      | (clear hk; have q1 : f.code.length ≤ 1000 := (by omega); have q2 : f.regs ≤ 64 := (by omega); simp [fnI, headF, lastOk, btw, W, *]; done)
      | (rw [← Bool.not_eq_true]; intro hh; simp [fnI, headF, lastOk, btw, *] at hh <;> omega)
      | trace_state
end Go.Gc
