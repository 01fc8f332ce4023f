/- Texts of a proof by an abstract machine over the model. -/
import Derived.Test.YtmhkendlllmodaaGreatDoorP10
set_option linter.unusedSimpArgs false
set_option linter.unusedVariables false
namespace Go.Gc
open Go Go.FM Go.Gv Go.Proofs
set_option maxRecDepth 100000
set_option maxHeartbeats 4000000
theorem wdI_out {n : Int} (h : ¬ (1 ≤ n ∧ n ≤ 52)) : wdI n = ⟨⟨[]⟩⟩ := by
  unfold wdI; split <;> first | (exfalso; omega) | rfl
theorem rlI_out {n : Int} (h : ¬ (1 ≤ n ∧ n ≤ 52)) : rlI n = ⟨⟨[]⟩⟩ := by
  unfold rlI; split <;> first | (exfalso; omega) | rfl
theorem rlR_out {n : Int} (h : ¬ (1 ≤ n ∧ n ≤ 52)) : rlR n = ⟨⟨[]⟩⟩ := by
  unfold rlR; split <;> first | (exfalso; omega) | rfl
theorem c92_in (n : Int) (h : 1 ≤ n ∧ n ≤ 52) : PC Tryz.prog Gl 92 [.int .i64 n] (.tup [.agg [.str (wdI n), .str (rlI n)], .bool true]) := by
  rcases Gv.op_cases h with rfl | rfl | rfl | rfl | rfl | rfl | rfl | rfl | rfl | rfl | rfl | rfl | rfl | rfl | rfl | rfl | rfl | rfl | rfl | rfl | rfl | rfl | rfl | rfl | rfl | rfl | rfl | rfl | rfl | rfl | rfl | rfl | rfl | rfl | rfl | rfl | rfl | rfl | rfl | rfl | rfl | rfl | rfl | rfl | rfl | rfl | rfl | rfl | rfl | rfl | rfl | rfl
  · exact xAns_pc orc0 x92_1 rfl
  · exact xAns_pc orc0 x92_2 rfl
  · exact xAns_pc orc0 x92_3 rfl
  · exact xAns_pc orc0 x92_4 rfl
  · exact xAns_pc orc0 x92_5 rfl
  · exact xAns_pc orc0 x92_6 rfl
  · exact xAns_pc orc0 x92_7 rfl
  · exact xAns_pc orc0 x92_8 rfl
  · exact xAns_pc orc0 x92_9 rfl
  · exact xAns_pc orc0 x92_10 rfl
  · exact xAns_pc orc0 x92_11 rfl
  · exact xAns_pc orc0 x92_12 rfl
  · exact xAns_pc orc0 x92_13 rfl
  · exact xAns_pc orc0 x92_14 rfl
  · exact xAns_pc orc0 x92_15 rfl
  · exact xAns_pc orc0 x92_16 rfl
  · exact xAns_pc orc0 x92_17 rfl
  · exact xAns_pc orc0 x92_18 rfl
  · exact xAns_pc orc0 x92_19 rfl
  · exact xAns_pc orc0 x92_20 rfl
  · exact xAns_pc orc0 x92_21 rfl
  · exact xAns_pc orc0 x92_22 rfl
  · exact xAns_pc orc0 x92_23 rfl
  · exact xAns_pc orc0 x92_24 rfl
  · exact xAns_pc orc0 x92_25 rfl
  · exact xAns_pc orc0 x92_26 rfl
  · exact xAns_pc orc0 x92_27 rfl
  · exact xAns_pc orc0 x92_28 rfl
  · exact xAns_pc orc0 x92_29 rfl
  · exact xAns_pc orc0 x92_30 rfl
  · exact xAns_pc orc0 x92_31 rfl
  · exact xAns_pc orc0 x92_32 rfl
  · exact xAns_pc orc0 x92_33 rfl
  · exact xAns_pc orc0 x92_34 rfl
  · exact xAns_pc orc0 x92_35 rfl
  · exact xAns_pc orc0 x92_36 rfl
  · exact xAns_pc orc0 x92_37 rfl
  · exact xAns_pc orc0 x92_38 rfl
  · exact xAns_pc orc0 x92_39 rfl
  · exact xAns_pc orc0 x92_40 rfl
  · exact xAns_pc orc0 x92_41 rfl
  · exact xAns_pc orc0 x92_42 rfl
  · exact xAns_pc orc0 x92_43 rfl
  · exact xAns_pc orc0 x92_44 rfl
  · exact xAns_pc orc0 x92_45 rfl
  · exact xAns_pc orc0 x92_46 rfl
  · exact xAns_pc orc0 x92_47 rfl
  · exact xAns_pc orc0 x92_48 rfl
  · exact xAns_pc orc0 x92_49 rfl
  · exact xAns_pc orc0 x92_50 rfl
  · exact xAns_pc orc0 x92_51 rfl
  · exact xAns_pc orc0 x92_52 rfl
theorem c113_in (n : Int) (h : 1 ≤ n ∧ n ≤ 52) : PC Tryz.prog Gl 113 [.int .i64 n] (.str (rlR n)) := by
  rcases Gv.op_cases h with rfl | rfl | rfl | rfl | rfl | rfl | rfl | rfl | rfl | rfl | rfl | rfl | rfl | rfl | rfl | rfl | rfl | rfl | rfl | rfl | rfl | rfl | rfl | rfl | rfl | rfl | rfl | rfl | rfl | rfl | rfl | rfl | rfl | rfl | rfl | rfl | rfl | rfl | rfl | rfl | rfl | rfl | rfl | rfl | rfl | rfl | rfl | rfl | rfl | rfl | rfl | rfl
  · exact xAns_pc orc0 x113_1 rfl
  · exact xAns_pc orc0 x113_2 rfl
  · exact xAns_pc orc0 x113_3 rfl
  · exact xAns_pc orc0 x113_4 rfl
  · exact xAns_pc orc0 x113_5 rfl
  · exact xAns_pc orc0 x113_6 rfl
  · exact xAns_pc orc0 x113_7 rfl
  · exact xAns_pc orc0 x113_8 rfl
  · exact xAns_pc orc0 x113_9 rfl
  · exact xAns_pc orc0 x113_10 rfl
  · exact xAns_pc orc0 x113_11 rfl
  · exact xAns_pc orc0 x113_12 rfl
  · exact xAns_pc orc0 x113_13 rfl
  · exact xAns_pc orc0 x113_14 rfl
  · exact xAns_pc orc0 x113_15 rfl
  · exact xAns_pc orc0 x113_16 rfl
  · exact xAns_pc orc0 x113_17 rfl
  · exact xAns_pc orc0 x113_18 rfl
  · exact xAns_pc orc0 x113_19 rfl
  · exact xAns_pc orc0 x113_20 rfl
  · exact xAns_pc orc0 x113_21 rfl
  · exact xAns_pc orc0 x113_22 rfl
  · exact xAns_pc orc0 x113_23 rfl
  · exact xAns_pc orc0 x113_24 rfl
  · exact xAns_pc orc0 x113_25 rfl
  · exact xAns_pc orc0 x113_26 rfl
  · exact xAns_pc orc0 x113_27 rfl
  · exact xAns_pc orc0 x113_28 rfl
  · exact xAns_pc orc0 x113_29 rfl
  · exact xAns_pc orc0 x113_30 rfl
  · exact xAns_pc orc0 x113_31 rfl
  · exact xAns_pc orc0 x113_32 rfl
  · exact xAns_pc orc0 x113_33 rfl
  · exact xAns_pc orc0 x113_34 rfl
  · exact xAns_pc orc0 x113_35 rfl
  · exact xAns_pc orc0 x113_36 rfl
  · exact xAns_pc orc0 x113_37 rfl
  · exact xAns_pc orc0 x113_38 rfl
  · exact xAns_pc orc0 x113_39 rfl
  · exact xAns_pc orc0 x113_40 rfl
  · exact xAns_pc orc0 x113_41 rfl
  · exact xAns_pc orc0 x113_42 rfl
  · exact xAns_pc orc0 x113_43 rfl
  · exact xAns_pc orc0 x113_44 rfl
  · exact xAns_pc orc0 x113_45 rfl
  · exact xAns_pc orc0 x113_46 rfl
  · exact xAns_pc orc0 x113_47 rfl
  · exact xAns_pc orc0 x113_48 rfl
  · exact xAns_pc orc0 x113_49 rfl
  · exact xAns_pc orc0 x113_50 rfl
  · exact xAns_pc orc0 x113_51 rfl
  · exact xAns_pc orc0 x113_52 rfl
theorem ne_in {n : Int} (h : ¬ (1 ≤ n ∧ n ≤ 52)) (k : Int) (h1 : 1 ≤ k) (h2 : k ≤ 52) : (n = k) = False := by simp only [eq_iff_iff, iff_false]; omega
theorem c130 : PC Tryz.prog Gl 130 [] (.agg [.str ⟨⟨[]⟩⟩, .str ⟨⟨[]⟩⟩, .str ⟨⟨[99, 111, 110, 115, 116]⟩⟩, .str ⟨⟨[100, 105, 45]⟩⟩, .str ⟨⟨[110, 105, 108]⟩⟩, .str ⟨⟨[100, 45, 45]⟩⟩, .str ⟨⟨[109, 111, 118, 101]⟩⟩, .str ⟨⟨[100, 115, 45]⟩⟩, .str ⟨⟨[97, 100, 100]⟩⟩, .str ⟨⟨[100, 115, 115]⟩⟩, .str ⟨⟨[115, 117, 98]⟩⟩, .str ⟨⟨[100, 115, 115]⟩⟩, .str ⟨⟨[109, 117, 108]⟩⟩, .str ⟨⟨[100, 115, 115]⟩⟩, .str ⟨⟨[100, 105, 118]⟩⟩, .str ⟨⟨[100, 115, 115]⟩⟩, .str ⟨⟨[114, 101, 109]⟩⟩, .str ⟨⟨[100, 115, 115]⟩⟩, .str ⟨⟨[110, 101, 103]⟩⟩, .str ⟨⟨[100, 115, 45]⟩⟩, .str ⟨⟨[110, 111, 116]⟩⟩, .str ⟨⟨[100, 115, 45]⟩⟩, .str ⟨⟨[101, 113]⟩⟩, .str ⟨⟨[100, 115, 115]⟩⟩, .str ⟨⟨[110, 101]⟩⟩, .str ⟨⟨[100, 115, 115]⟩⟩, .str ⟨⟨[108, 116]⟩⟩, .str ⟨⟨[100, 115, 115]⟩⟩, .str ⟨⟨[108, 101]⟩⟩, .str ⟨⟨[100, 115, 115]⟩⟩, .str ⟨⟨[108, 101, 110]⟩⟩, .str ⟨⟨[100, 115, 45]⟩⟩, .str ⟨⟨[106, 117, 109, 112]⟩⟩, .str ⟨⟨[45, 45, 116]⟩⟩, .str ⟨⟨[106, 117, 109, 112, 122]⟩⟩, .str ⟨⟨[115, 45, 116]⟩⟩, .str ⟨⟨[103, 108, 111, 98, 97, 108]⟩⟩, .str ⟨⟨[100, 103, 45]⟩⟩, .str ⟨⟨[102, 105, 101, 108, 100]⟩⟩, .str ⟨⟨[100, 115, 110]⟩⟩, .str ⟨⟨[105, 110, 100, 101, 120]⟩⟩, .str ⟨⟨[100, 115, 115]⟩⟩, .str ⟨⟨[110, 101, 119]⟩⟩, .str ⟨⟨[100, 108, 45]⟩⟩, .str ⟨⟨[115, 108, 105, 99, 101]⟩⟩, .str ⟨⟨[100, 115, 45]⟩⟩, .str ⟨⟨[99, 104, 97, 110]⟩⟩, .str ⟨⟨[100, 115, 45]⟩⟩, .str ⟨⟨[99, 108, 111, 115, 117, 114, 101]⟩⟩, .str ⟨⟨[100, 99, 107]⟩⟩, .str ⟨⟨[99, 97, 112]⟩⟩, .str ⟨⟨[100, 112, 45]⟩⟩, .str ⟨⟨[99, 97, 108, 108]⟩⟩, .str ⟨⟨[68, 102, 97]⟩⟩, .str ⟨⟨[99, 97, 108, 108, 99]⟩⟩, .str ⟨⟨[115, 45, 45]⟩⟩, .str ⟨⟨[100, 101, 102, 101, 114]⟩⟩, .str ⟨⟨[45, 102, 97]⟩⟩, .str ⟨⟨[100, 101, 102, 101, 114, 99]⟩⟩, .str ⟨⟨[115, 45, 45]⟩⟩, .str ⟨⟨[114, 101, 116, 117, 114, 110]⟩⟩, .str ⟨⟨[83, 45, 45]⟩⟩, .str ⟨⟨[103, 111]⟩⟩, .str ⟨⟨[45, 102, 97]⟩⟩, .str ⟨⟨[103, 111, 99]⟩⟩, .str ⟨⟨[115, 45, 45]⟩⟩, .str ⟨⟨[108, 111, 97, 100]⟩⟩, .str ⟨⟨[100, 115, 45]⟩⟩, .str ⟨⟨[115, 116, 111, 114, 101]⟩⟩, .str ⟨⟨[115, 115, 45]⟩⟩, .str ⟨⟨[97, 108, 111, 97, 100]⟩⟩, .str ⟨⟨[100, 115, 45]⟩⟩, .str ⟨⟨[97, 115, 116, 111, 114, 101]⟩⟩, .str ⟨⟨[115, 115, 45]⟩⟩, .str ⟨⟨[97, 97, 100, 100]⟩⟩, .str ⟨⟨[100, 115, 115]⟩⟩, .str ⟨⟨[97, 99, 97, 115]⟩⟩, .str ⟨⟨[100, 115, 115]⟩⟩, .str ⟨⟨[108, 111, 99, 107]⟩⟩, .str ⟨⟨[115, 45, 45]⟩⟩, .str ⟨⟨[117, 110, 108, 111, 99, 107]⟩⟩, .str ⟨⟨[115, 45, 45]⟩⟩, .str ⟨⟨[114, 108, 111, 99, 107]⟩⟩, .str ⟨⟨[115, 45, 45]⟩⟩, .str ⟨⟨[114, 117, 110, 108, 111, 99, 107]⟩⟩, .str ⟨⟨[115, 45, 45]⟩⟩, .str ⟨⟨[103, 114, 111, 117, 112]⟩⟩, .str ⟨⟨[115, 115, 45]⟩⟩, .str ⟨⟨[119, 97, 105, 116]⟩⟩, .str ⟨⟨[115, 45, 45]⟩⟩, .str ⟨⟨[111, 110, 99, 101]⟩⟩, .str ⟨⟨[115, 45, 116]⟩⟩, .str ⟨⟨[111, 110, 99, 101, 101, 110, 100]⟩⟩, .str ⟨⟨[115, 45, 45]⟩⟩, .str ⟨⟨[115, 101, 110, 100]⟩⟩, .str ⟨⟨[115, 115, 45]⟩⟩, .str ⟨⟨[114, 101, 99, 118]⟩⟩, .str ⟨⟨[68, 115, 68]⟩⟩, .str ⟨⟨[99, 108, 111, 115, 101]⟩⟩, .str ⟨⟨[115, 45, 45]⟩⟩, .str ⟨⟨[115, 101, 108, 101, 99, 116]⟩⟩, .str ⟨⟨[100, 120, 98]⟩⟩, .str ⟨⟨[99, 97, 115, 101]⟩⟩, .str ⟨⟨[115, 98, 118]⟩⟩, .str ⟨⟨[112, 114, 105, 110, 116]⟩⟩, .str ⟨⟨[115, 45, 45]⟩⟩]) := xAns_pc orc0 x130 rfl
theorem c92_out (n : Int) (h : ¬ (1 ≤ n ∧ n ≤ 52)) : PC Tryz.prog Gl 92 [.int .i64 n] (.tup [.agg [.str ⟨⟨[]⟩⟩, .str ⟨⟨[]⟩⟩], .bool false]) := by
  have h1 : n ≤ 0 ∨ 53 ≤ n := by omega
  have ne := ne_in h
  refine PC_go (res := [.cell 2 147, .tmp 3]) 5 16 [] (fun d ix => d :: ix) (fn := Tryz.f92) (by kernel_rfl) (by rfl) (by rfl) (by rfl) (by simp) (by decide) ?_
  repeat' first
    | with_reducible refine aw_sq ?_
    | with_reducible refine aw_blk ?_
    | with_reducible refine aw_reg fun K hK => ?_
    | with_reducible refine aw_skip ?_
    | with_reducible refine aw_ret ?_
    | with_reducible refine aw_exit ?_
    | with_reducible refine aw_cnd fun T E hT hE => ?_
    | with_reducible refine kseq ?_
    | with_reducible refine kseq_r ?_
    | with_reducible refine kseq_e ?_
    | with_reducible refine kblk ?_
    | with_reducible refine kblk_r ?_
    | with_reducible refine kblk_hit ?_
    | with_reducible refine kblk_miss rfl ?_
    | with_reducible refine kloop_r ?_
    | with_reducible refine kloop_e ?_
    | with_reducible refine pfin_r ?_
    | with_reducible refine pfin_n ?_
    | with_reducible refine nfin_r ?_
    | with_reducible refine nfin_n ?_
    | with_reducible refine gop_t ?_
    | with_reducible refine gop_f ?_
    | with_reducible refine cond_t ?_
    | with_reducible refine cond_f ?_
    | with_reducible refine gsplit_nd (fun h => ?_) (fun h => ?_)
    | with_reducible refine gsplit_d (fun h => ?_) (fun h => ?_)
    | with_reducible refine hgsplit_nd (fun h => ?_) (fun h => ?_)
    | with_reducible refine hgsplit_d (fun h => ?_) (fun h => ?_)
    | with_reducible refine cond_nd (fun h => ?_) (fun h => ?_)
    | with_reducible refine cond_d (fun h => ?_) (fun h => ?_)
    | with_reducible refine gsplit_n (fun h => ?_) (fun h => ?_)
    | with_reducible refine gsplit (fun h => ?_) (fun h => ?_)
    | with_reducible refine hgsplit_n (fun h => ?_) (fun h => ?_)
    | with_reducible refine hgsplit (fun h => ?_) (fun h => ?_)
    | with_reducible refine cond_n (fun h => ?_) (fun h => ?_)
    | with_reducible refine cond_b (fun h => ?_) (fun h => ?_)
    | with_reducible refine call_pc c130 (by simp [nls, nl, *, nlss_inss, nlss_fns, nlss_gbs, nlss_lays, nlss_ints]) ?_
    | with_reducible refine hpc c130 (by simp [nls, nl, *, nlss_inss, nlss_fns, nlss_gbs, nlss_lays, nlss_ints]) ?_
    | with_reducible refine hnx_go rfl (by decide) fresh_noH ?_
    | with_reducible refine hnx_go rfl (by decide) (fresh_upd (by simp [upd, noH, ext, hpL_at, hpL_nil, *])) ?_
    | with_reducible refine awH_go (by decide) (by kernel_rfl) ?_
    | with_reducible refine awH_tail (by decide) ?_
    | (with_reducible refine Kont.go hK ?_; clear hK K)
    | (with_reducible refine KT.go hT ?_; clear hT hE T E)
    | (with_reducible refine KT.go hE ?_; clear hT hE T E)
    | simp [*, -List.all_flatten, -List.all_eq_true, ext_noH, FS.init, FS.get, FS.put, FS.clean, lk, upd, ext, noH, cv1, cv, rv, FV.isU, FV.cellV, FV.cellsL, FV.storable, fLoad, fField, fIndex, fLen, fBin, fUn, fConv, natOf, fSlice, setFrom, fillA, pv, pv1, pv2, wv, wAlloc, wBox, wStore, wBuildS, wMakeS, wMakeM, wMapU, wApp, srcA, chunks, upds, List.foldl_cons, List.foldl_nil, fLook, fNil, fUn2, fBits, fCmp, fCmpB, eqK, eqCells, eqV, FV.kd, eqNil, nilV, putD, fStep, callee?, guardV, keepT, lastDst, condV, resV, resL, tupOf, StK, wOps_nil, wOps_cons, GOp_t, GOp_f, DoOp_n, DoOp_c, hMake, HG_t, HG_f, HDo_n, HDo_c, nl, nls, nlss, frz, frzs, frzR, asR, asRs, Fend, PFin_s, frzRes_s, frzNRes_s, frzN, nf, nfs, hpL_at, hpL_nil, keyOk, fBuildA, f_Program_eqGuardType_Program_depth_3, f_arE_147, f_arT_174, f_boolT_3, f_byT_3, f_byT_33, f_byT_49, f_byT_51, f_byT_53, f_byT_73, f_byT_9, f_fnOk_130, f_intT_3, f_kdT_3, f_kdT_33, f_kdT_4, f_kdT_5, f_kdT_9, f_ldT_147, f_ldT_174, f_nilT_3, f_placesT_147, f_slT_174, f_stT_3, f_stT_33, f_stT_4, f_stT_5, f_stT_9, f_szT_147, f_szT_174, f_zeroC_147, f_zeroC_150, f_zeroC_174, f_zeroC_26, f_zeroC_3, f_zeroC_33, f_zeroC_49, f_zeroC_51, f_zeroC_53, f_zeroC_73, f_zeroC_78, f_zeroC_9, FV.cellV]
  all_goals (first | (exfalso; omega) | trace_state)

theorem c113_out (n : Int) (h : ¬ (1 ≤ n ∧ n ≤ 52)) : PC Tryz.prog Gl 113 [.int .i64 n] (.str ⟨⟨[]⟩⟩) := by
  have ne := ne_in h
  refine PC_go (res := [.tmp 2]) 3 75 [3] (fun d ix => d :: ix) (fn := Tryz.f113) (by kernel_rfl) (by rfl) (by rfl) (by rfl) (by simp) (by decide) ?_
  repeat' first
    | with_reducible refine aw_sq ?_
    | with_reducible refine aw_blk ?_
    | with_reducible refine aw_reg fun K hK => ?_
    | with_reducible refine aw_skip ?_
    | with_reducible refine aw_ret ?_
    | with_reducible refine aw_exit ?_
    | with_reducible refine aw_cnd fun T E hT hE => ?_
    | with_reducible refine kseq ?_
    | with_reducible refine kseq_r ?_
    | with_reducible refine kseq_e ?_
    | with_reducible refine kblk ?_
    | with_reducible refine kblk_r ?_
    | with_reducible refine kblk_hit ?_
    | with_reducible refine kblk_miss rfl ?_
    | with_reducible refine kloop_r ?_
    | with_reducible refine kloop_e ?_
    | with_reducible refine pfin_r ?_
    | with_reducible refine pfin_n ?_
    | with_reducible refine nfin_r ?_
    | with_reducible refine nfin_n ?_
    | with_reducible refine gop_t ?_
    | with_reducible refine gop_f ?_
    | with_reducible refine cond_t ?_
    | with_reducible refine cond_f ?_
    | with_reducible refine gsplit_nd (fun h => ?_) (fun h => ?_)
    | with_reducible refine gsplit_d (fun h => ?_) (fun h => ?_)
    | with_reducible refine hgsplit_nd (fun h => ?_) (fun h => ?_)
    | with_reducible refine hgsplit_d (fun h => ?_) (fun h => ?_)
    | with_reducible refine cond_nd (fun h => ?_) (fun h => ?_)
    | with_reducible refine cond_d (fun h => ?_) (fun h => ?_)
    | with_reducible refine gsplit_n (fun h => ?_) (fun h => ?_)
    | with_reducible refine gsplit (fun h => ?_) (fun h => ?_)
    | with_reducible refine hgsplit_n (fun h => ?_) (fun h => ?_)
    | with_reducible refine hgsplit (fun h => ?_) (fun h => ?_)
    | with_reducible refine cond_n (fun h => ?_) (fun h => ?_)
    | with_reducible refine cond_b (fun h => ?_) (fun h => ?_)
    | with_reducible refine hnx_go rfl (by decide) fresh_noH ?_
    | with_reducible refine hnx_go rfl (by decide) (fresh_upd (by simp [upd, noH, ext, hpL_at, hpL_nil, *])) ?_
    | with_reducible refine awH_go (by decide) (by kernel_rfl) ?_
    | with_reducible refine awH_tail (by decide) ?_
    | (with_reducible refine Kont.go hK ?_; clear hK K)
    | (with_reducible refine KT.go hT ?_; clear hT hE T E)
    | (with_reducible refine KT.go hE ?_; clear hT hE T E)
    | simp [*, -List.all_flatten, -List.all_eq_true, ext_noH, FS.init, FS.get, FS.put, FS.clean, lk, upd, ext, noH, cv1, cv, rv, FV.isU, FV.cellV, FV.cellsL, FV.storable, fLoad, fField, fIndex, fLen, fBin, fUn, fConv, natOf, fSlice, setFrom, fillA, pv, pv1, pv2, wv, wAlloc, wBox, wStore, wBuildS, wMakeS, wMakeM, wMapU, wApp, srcA, chunks, upds, List.foldl_cons, List.foldl_nil, fLook, fNil, fUn2, fBits, fCmp, fCmpB, eqK, eqCells, eqV, FV.kd, eqNil, nilV, putD, fStep, callee?, guardV, keepT, lastDst, condV, resV, resL, tupOf, StK, wOps_nil, wOps_cons, GOp_t, GOp_f, DoOp_n, DoOp_c, hMake, HG_t, HG_f, HDo_n, HDo_c, nl, nls, nlss, frz, frzs, frzR, asR, asRs, Fend, PFin_s, frzRes_s, frzNRes_s, frzN, nf, nfs, hpL_at, hpL_nil, keyOk, fBuildA, f_Program_eqGuardType_Program_depth_3, f_boolT_3, f_byT_3, f_byT_33, f_byT_49, f_byT_51, f_byT_53, f_byT_73, f_byT_9, f_intT_3, f_kdT_3, f_kdT_33, f_kdT_4, f_kdT_5, f_kdT_9, f_nilT_3, f_stT_3, f_stT_33, f_stT_4, f_stT_5, f_stT_9, f_zeroC_147, f_zeroC_150, f_zeroC_174, f_zeroC_26, f_zeroC_3, f_zeroC_33, f_zeroC_49, f_zeroC_51, f_zeroC_53, f_zeroC_73, f_zeroC_78, f_zeroC_9]
  all_goals (first | (exfalso; omega) | trace_state)

end Go.Gc
