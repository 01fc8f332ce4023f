/- One of the texts of a proof by an abstract machine over the model. -/
import Derived.Test.YtmhkendlllmodaaGreatDoorGcC
import Derived.Test.YtmhkendlllmodaaGreatDoorFmO
set_option linter.unusedSimpArgs false
set_option linter.unusedVariables false
namespace Go.Gc
open Go Go.FM Go.Proofs
set_option maxRecDepth 100000
set_option maxHeartbeats 4000000
def reasonL : List Pb → Int → Int → Int
  | [], _, _ => 0
  | x :: r, fn, pc => if x.fn = fn ∧ x.pc = pc ∧ x.reason ≠ 0 then x.reason else reasonL r fn pc
theorem reason_no {L : List Pb} {i : Nat} {fn pc : Int} (h : i < L.length) (hn : ¬ (L[i].fn = fn ∧ L[i].pc = pc ∧ L[i].reason ≠ 0)) : reasonL (L.drop i) fn pc = reasonL (L.drop (i + 1)) fn pc := by
  rw [List.drop_eq_getElem_cons h, reasonL, if_neg hn]
theorem reason_yes {L : List Pb} {i : Nat} {fn pc : Int} (h : i < L.length) (hn : L[i].fn = fn ∧ L[i].pc = pc ∧ L[i].reason ≠ 0) : reasonL (L.drop i) fn pc = L[i].reason := by
  rw [List.drop_eq_getElem_cons h, reasonL, if_pos hn]
theorem c30 (L : List Pb) (fn pc : Int) (hs : L.length ≤ 1000000000) : PC Tryz.prog Gl 30 [.list 4 (pbs L), .int .i64 fn, .int .i64 pc] (.int .i64 (reasonL L fn pc)) := by
  refine PC_go (res := [.tmp 6]) 8 43 [] (fun d ix => d :: ix) (fn := Tryz.f30) (by kernel_rfl) (by rfl) (by rfl) (by rfl) (by simp) (by decide) ?_
  repeat' first
    | ((with_reducible refine aw_lp (fun x : {i : Nat // i ≤ L.length ∧ reasonL L fn pc = reasonL (L.drop i) fn pc} => (⟨[.list 4 (pbs L), .int .i64 fn, .int .i64 pc, .undef, .undef, .undef, .int .i64 0, .int .i64 (x.1:Int)], [], noH, []⟩ : FS)) (fun x => L.length - x.1) ⟨0, by simp⟩ (le_of ?_ ?_ (HLe.refl _)) ?_); rfl; simp; rintro ⟨i, hi, ht⟩)
    | ((with_reducible refine kloop ⟨i + 1, by omega, by rw [ht, reason_no (by omega) (by simp_all)]⟩ ?_ (by simp only []; omega)); rw [wr_inc ‹_› (by omega)]; refine le_of rfl ?_ (HLe.refl _); simp; done)
    | with_reducible refine aw_sq ?_
    | with_reducible refine aw_blk ?_
    | with_reducible refine aw_reg fun K hK => ?_
    | with_reducible refine aw_skip ?_
    | with_reducible refine aw_ret ?_
    | with_reducible refine aw_exit ?_
    | with_reducible refine aw_cnd fun T E hT hE => ?_
    | with_reducible refine kseq ?_
    | with_reducible refine kseq_r ?_
    | with_reducible refine kseq_e ?_
    | with_reducible refine kblk ?_
    | with_reducible refine kblk_r ?_
    | with_reducible refine kblk_hit ?_
    | with_reducible refine kblk_miss rfl ?_
    | with_reducible refine kloop_r ?_
    | with_reducible refine kloop_e ?_
    | with_reducible refine pfin_r ?_
    | with_reducible refine pfin_n ?_
    | with_reducible refine nfin_r ?_
    | with_reducible refine nfin_n ?_
    | with_reducible refine gop_t ?_
    | with_reducible refine gop_f ?_
    | with_reducible refine cond_t ?_
    | with_reducible refine cond_f ?_
    | with_reducible refine gsplit_nd (fun h => ?_) (fun h => ?_)
    | with_reducible refine gsplit_d (fun h => ?_) (fun h => ?_)
    | with_reducible refine hgsplit_nd (fun h => ?_) (fun h => ?_)
    | with_reducible refine hgsplit_d (fun h => ?_) (fun h => ?_)
    | with_reducible refine cond_nd (fun h => ?_) (fun h => ?_)
    | with_reducible refine cond_d (fun h => ?_) (fun h => ?_)
    | with_reducible refine gsplit_n (fun h => ?_) (fun h => ?_)
    | with_reducible refine gsplit (fun h => ?_) (fun h => ?_)
    | with_reducible refine hgsplit_n (fun h => ?_) (fun h => ?_)
    | with_reducible refine hgsplit (fun h => ?_) (fun h => ?_)
    | with_reducible refine cond_n (fun h => ?_) (fun h => ?_)
    | with_reducible refine cond_b (fun h => ?_) (fun h => ?_)
    | with_reducible refine hnx_go rfl (by decide) fresh_noH ?_
    | with_reducible refine hnx_go rfl (by decide) (fresh_upd (by simp [upd, noH, ext, hpL_at, hpL_nil, *])) ?_
    | with_reducible refine awH_go (by decide) (by kernel_rfl) ?_
    | with_reducible refine awH_tail (by decide) ?_
    | (with_reducible refine Kont.go hK ?_; clear hK K)
    | (with_reducible refine KT.go hT ?_; clear hT hE T E)
    | (with_reducible refine KT.go hE ?_; clear hT hE T E)
    | simp [*, -List.all_flatten, -List.all_eq_true, ext_noH, FS.init, FS.get, FS.put, FS.clean, lk, upd, ext, noH, cv1, cv, rv, FV.isU, FV.cellV, FV.cellsL, FV.storable, fLoad, fField, fIndex, fLen, fBin, fUn, fConv, natOf, fSlice, setFrom, fillA, pv, pv1, pv2, wv, wAlloc, wBox, wStore, wBuildS, wMakeS, wMakeM, wMapU, wApp, srcA, chunks, upds, List.foldl_cons, List.foldl_nil, fLook, fNil, fUn2, fBits, fCmp, fCmpB, eqK, eqCells, eqV, FV.kd, eqNil, nilV, putD, fStep, callee?, guardV, keepT, lastDst, condV, resV, resL, tupOf, StK, wOps_nil, wOps_cons, GOp_t, GOp_f, DoOp_n, DoOp_c, hMake, HG_t, HG_f, HDo_n, HDo_c, nl, nls, nlss, frz, frzs, frzR, asR, asRs, Fend, PFin_s, frzRes_s, frzNRes_s, frzN, nf, nfs, hpL_at, hpL_nil, keyOk, f_Program_eqGuardType_Program_depth_3, f_arT_35, f_boolT_3, f_byT_33, f_byT_42, f_byT_46, f_fldT_42_0, f_fldT_42_1, f_fldT_42_2, f_intT_3, f_kdT_3, f_kdT_33, f_kdT_46, f_ldT_3, f_nilT_3, f_slT_35, f_stT_3, f_stT_33, f_stT_46, f_strT_35, f_zeroC_33, f_zeroC_42, f_zeroC_46, f_zeroV_4, nlss_evs, nlss_pbs, evs_length, pbs_length, pbs_at, Pb.row, nat_inj]
  all_goals first
    | (rw [reason_yes (by omega) (by simp_all)]; done)
    | (rw [List.drop_of_length_le (by omega)]; rfl)

end Go.Gc
