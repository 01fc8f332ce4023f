/- One of the texts of a proof by an abstract machine over the model. -/
import Derived.Test.YtmhkendlllmodaaGreatDoorGcC
set_option linter.unusedSimpArgs false
set_option linter.unusedVariables false
namespace Go.Gc
open Go Go.FM Go.Proofs
set_option maxRecDepth 100000
set_option maxHeartbeats 4000000
theorem c16 (L L' : List Ev) (hs : L.length ≤ 1000000000) : PC Tryz.prog Gl 16 [.list 9 (evs L), .list 9 (evs L')] (.bool (decide (L = L'))) := by
  by_cases hl : L.length = L'.length
  all_goals
    refine PC_go (res := [.tmp 4]) 6 26 [] (fun d ix => d :: ix) (fn := Tryz.f16) (by kernel_rfl) (by rfl) (by rfl) (by rfl) (by simp) (by decide) ?_
    repeat' first
      | ((with_reducible refine aw_lp (fun x : {i : Nat // i ≤ L.length ∧ L.take i = L'.take i} => (⟨[.list 9 (evs L), .list 9 (evs L'), .undef, .undef, .bool false, .int .i64 (x.1:Int)], [], noH, []⟩ : FS)) (fun x => L.length - x.1) ⟨0, by simp⟩ (le_of ?_ ?_ (HLe.refl _)) ?_); rfl; simp; rintro ⟨i, hi, ht⟩)
      | ((with_reducible refine kloop ⟨i + 1, by omega, take_step (by omega) (by omega) ht (by first | assumption | ((rw [← Ev.ext9]; simp_all; done)))⟩ ?_ (by simp only []; omega)); rw [wr_inc ‹_› (by omega)]; refine le_of rfl ?_ (HLe.refl _); simp; done)
      | with_reducible refine aw_sq ?_
      | with_reducible refine aw_blk ?_
      | with_reducible refine aw_reg fun K hK => ?_
      | with_reducible refine aw_dr 8 t_mix (by kernel_rfl) fun K hK => ?_
      | with_reducible refine aw_skip ?_
      | with_reducible refine aw_ret ?_
      | with_reducible refine aw_exit ?_
      | with_reducible refine aw_cnd fun T E hT hE => ?_
      | with_reducible refine kseq ?_
      | with_reducible refine kseq_r ?_
      | with_reducible refine kseq_e ?_
      | with_reducible refine kblk ?_
      | with_reducible refine kblk_r ?_
      | with_reducible refine kblk_hit ?_
      | with_reducible refine kblk_miss rfl ?_
      | with_reducible refine kloop_r ?_
      | with_reducible refine kloop_e ?_
      | with_reducible refine pfin_r ?_
      | with_reducible refine pfin_n ?_
      | with_reducible refine nfin_r ?_
      | with_reducible refine nfin_n ?_
      | with_reducible refine gop_t ?_
      | with_reducible refine gop_f ?_
      | with_reducible refine cond_t ?_
      | with_reducible refine cond_f ?_
      | with_reducible refine gsplit_nd (fun h => ?_) (fun h => ?_)
      | with_reducible refine gsplit_d (fun h => ?_) (fun h => ?_)
      | with_reducible refine hgsplit_nd (fun h => ?_) (fun h => ?_)
      | with_reducible refine hgsplit_d (fun h => ?_) (fun h => ?_)
      | with_reducible refine cond_nd (fun h => ?_) (fun h => ?_)
      | with_reducible refine cond_d (fun h => ?_) (fun h => ?_)
      | with_reducible refine gsplit_n (fun h => ?_) (fun h => ?_)
      | with_reducible refine gsplit (fun h => ?_) (fun h => ?_)
      | with_reducible refine hgsplit_n (fun h => ?_) (fun h => ?_)
      | with_reducible refine hgsplit (fun h => ?_) (fun h => ?_)
      | with_reducible refine cond_n (fun h => ?_) (fun h => ?_)
      | with_reducible refine cond_b (fun h => ?_) (fun h => ?_)
      | with_reducible refine hnx_go rfl (by decide) fresh_noH ?_
      | with_reducible refine hnx_go rfl (by decide) (fresh_upd (by simp [upd, noH, ext, hpL_at, hpL_nil, *])) ?_
      | with_reducible refine awH_go (by decide) (by kernel_rfl) ?_
      | with_reducible refine awH_tail (by decide) ?_
      | (with_reducible refine Kont.go hK ?_; clear hK K)
      | (with_reducible refine KT.go hT ?_; clear hT hE T E)
      | (with_reducible refine KT.go hE ?_; clear hT hE T E)
      | simp [*, -List.all_flatten, -List.all_eq_true, ext_noH, FS.init, FS.get, FS.put, FS.clean, lk, upd, ext, noH, cv1, cv, rv, FV.isU, FV.cellV, FV.cellsL, FV.storable, fLoad, fField, fIndex, fLen, fBin, fUn, fConv, natOf, fSlice, setFrom, fillA, pv, pv1, pv2, wv, wAlloc, wBox, wStore, wBuildS, wMakeS, wMakeM, wMapU, wApp, srcA, chunks, upds, List.foldl_cons, List.foldl_nil, fLook, fNil, fUn2, fBits, fCmp, fCmpB, eqK, eqCells, eqV, FV.kd, eqNil, nilV, putD, fStep, callee?, guardV, keepT, lastDst, condV, resV, resL, tupOf, StK, wOps_nil, wOps_cons, GOp_t, GOp_f, DoOp_n, DoOp_c, hMake, HG_t, HG_f, HDo_n, HDo_c, nl, nls, nlss, frz, frzs, frzR, asR, asRs, Fend, PFin_s, frzRes_s, frzNRes_s, frzN, nf, nfs, hpL_at, hpL_nil, keyOk, f_Program_eqGuardType_Program_depth_3, f_Program_eqGuardType_Program_depth_46, f_arT_37, f_boolT_3, f_boolT_46, f_byT_33, f_byT_42, f_byT_46, f_intT_3, f_intT_46, f_kdT_3, f_kdT_33, f_kdT_46, f_ldT_46, f_nilT_3, f_nilT_46, f_slT_37, f_stT_3, f_stT_33, f_stT_46, f_strT_37, f_zeroC_33, f_zeroC_42, f_zeroC_46, f_zeroV_4, nlss_evs, nlss_pbs, evs_length, pbs_length, evs_at, Ev.row, nat_inj]
    all_goals first
      | (intro e; subst e; simp at hl; done)
      | (rwa [List.take_of_length_le (by omega), List.take_of_length_le (by omega)] at ht)
      | (intro e; subst e; simp_all; done)
end Go.Gc
