/- One of the texts of a proof by an abstract machine over the model. -/
import Derived.Test.YtmhkendlllmodaaGreatDoorGcG
import Derived.Test.YtmhkendlllmodaaGreatDoorGcD
import Derived.Test.YtmhkendlllmodaaGreatDoorGcB
set_option linter.unusedSimpArgs false
set_option linter.unusedVariables false
namespace Go.Gc
open Go Go.FM Go.Proofs
set_option maxRecDepth 100000
set_option maxHeartbeats 4000000
theorem cell_evs (L : List Ev) : (evs L).flatten.all FV.cellV = true := by
  induction L with
  | nil => rfl
  | cons r rs ih => simp [evs, FV.cellV, Ev.row]
theorem cell_pbs (L : List Pb) : (pbs L).flatten.all FV.cellV = true := by
  induction L with
  | nil => rfl
  | cons r rs ih => simp [pbs, FV.cellV, Pb.row]
theorem fl_len (L : List Ev) (p : Ev → Bool) (h : L.length ≤ 60) : (L.filter p).length ≤ 1000000 := Nat.le_trans (List.length_filter_le _ _) (by omega)
theorem szE {L : List Ev} (h : L.length ≤ 60) : (L.length + L.length / 4 + 192) * 72 ≤ 140737488355328 := by omega
theorem szP {L : List Pb} (h : L.length ≤ 60) : (L.length + L.length / 4 + 192) * 32 ≤ 140737488355328 := by omega
theorem sz62 {n : Nat} (h : n ≤ 60) : n ≤ 4611686018427387904 := by omega
theorem cases60 (n m : Nat) : (n ≤ 60 ∧ m ≤ 60 ∧ ¬ 60 < (n : Int) ∧ ¬ 60 < (m : Int)) ∨ 60 < (n : Int) ∨ (¬ 60 < (n : Int) ∧ 60 < (m : Int)) := by omega
theorem filter_idem (L : List Ev) (p : Ev → Bool) : (L.filter p).filter p = L.filter p := by simp [List.filter_filter]
theorem c5 (L : List Ev) (R : List Pb) : PC Tryz.prog Gl 5 [.list 9 (evs L), .list 4 (pbs R)] (.bool true) := by
  rcases cases60 L.length R.length with ⟨hL, hR, n1, n2⟩ | n1 | ⟨n1, n2⟩
  have g1 := szE hL; have g2 := szP hR; have g3 := sz62 hL; have g4 := sz62 hR
  all_goals
    refine PC_go (res := [.tmp 4]) 6 35 [] (fun d ix => d :: ix) (fn := Tryz.f5) (by kernel_rfl) (by rfl) (by rfl) (by rfl) (by simp) (by decide) ?_
    repeat' first
      | (with_reducible refine call_lendn (A1 := [.list 9 (evs L), .list 4 (pbs R)]) (A2 := [.list 9 (evs L), .list 4 (pbs R)]) 8 (c15 L R (by omega) (by omega)) ?_ (by simp [asRs, asR]) ?_; focus (simp [*, frzs, frz, frzR, nl, hpL_at, hpL_nil, upd, ext, noH, nlss_evs, nlss_pbs, evs_length, pbs_length, List.take_of_length_le]; done))
      | (with_reducible refine hlendn (A1 := [.list 9 (evs L), .list 4 (pbs R)]) (A2 := [.list 9 (evs L), .list 4 (pbs R)]) 8 (c15 L R (by omega) (by omega)) ?_ (by simp [asRs, asR]) ?_; focus (simp [*, frzs, frz, frzR, nl, hpL_at, hpL_nil, upd, ext, noH, nlss_evs, nlss_pbs, evs_length, pbs_length, List.take_of_length_le]; done))
      | with_reducible refine aw_sq ?_
      | with_reducible refine aw_blk ?_
      | with_reducible refine aw_reg fun K hK => ?_
      | with_reducible refine aw_skip ?_
      | with_reducible refine aw_ret ?_
      | with_reducible refine aw_exit ?_
      | with_reducible refine aw_cnd fun T E hT hE => ?_
      | with_reducible refine kseq ?_
      | with_reducible refine kseq_r ?_
      | with_reducible refine kseq_e ?_
      | with_reducible refine kblk ?_
      | with_reducible refine kblk_r ?_
      | with_reducible refine kblk_hit ?_
      | with_reducible refine kblk_miss rfl ?_
      | with_reducible refine kloop_r ?_
      | with_reducible refine kloop_e ?_
      | with_reducible refine pfin_r ?_
      | with_reducible refine pfin_n ?_
      | with_reducible refine nfin_r ?_
      | with_reducible refine nfin_n ?_
      | with_reducible refine gop_t ?_
      | with_reducible refine gop_f ?_
      | with_reducible refine cond_t ?_
      | with_reducible refine cond_f ?_
      | with_reducible refine gsplit_nd (fun h => ?_) (fun h => ?_)
      | with_reducible refine gsplit_d (fun h => ?_) (fun h => ?_)
      | with_reducible refine hgsplit_nd (fun h => ?_) (fun h => ?_)
      | with_reducible refine hgsplit_d (fun h => ?_) (fun h => ?_)
      | with_reducible refine cond_nd (fun h => ?_) (fun h => ?_)
      | with_reducible refine cond_d (fun h => ?_) (fun h => ?_)
      | with_reducible refine gsplit_n (fun h => ?_) (fun h => ?_)
      | with_reducible refine gsplit (fun h => ?_) (fun h => ?_)
      | with_reducible refine hgsplit_n (fun h => ?_) (fun h => ?_)
      | with_reducible refine hgsplit (fun h => ?_) (fun h => ?_)
      | with_reducible refine cond_n (fun h => ?_) (fun h => ?_)
      | with_reducible refine cond_b (fun h => ?_) (fun h => ?_)
      | with_reducible refine call_pc awake_pc (by simp [nls, nl, *, nlss_evs, nlss_pbs]) ?_
      | with_reducible refine hpc awake_pc (by simp [nls, nl, *, nlss_evs, nlss_pbs]) ?_
      | with_reducible refine call_pc (c15 _ R (fl_len _ _ (by omega)) (by omega)).pc (by simp [nls, nl, *, nlss_evs, nlss_pbs]) ?_
      | with_reducible refine hpc (c15 _ R (fl_len _ _ (by omega)) (by omega)).pc (by simp [nls, nl, *, nlss_evs, nlss_pbs]) ?_
      | with_reducible refine call_pc (c17 L R (by omega) (by omega)) (by simp [nls, nl, *, nlss_evs, nlss_pbs]) ?_
      | with_reducible refine hpc (c17 L R (by omega) (by omega)) (by simp [nls, nl, *, nlss_evs, nlss_pbs]) ?_
      | with_reducible refine call_pc (c16 _ _ (Nat.le_trans (fl_len _ _ (by omega)) (by omega))) (by simp [nls, nl, *, nlss_evs, nlss_pbs]) ?_
      | with_reducible refine hpc (c16 _ _ (Nat.le_trans (fl_len _ _ (by omega)) (by omega))) (by simp [nls, nl, *, nlss_evs, nlss_pbs]) ?_
      | with_reducible refine hnx_go rfl (by decide) fresh_noH ?_
      | with_reducible refine hnx_go rfl (by decide) (fresh_upd (by simp [upd, noH, ext, hpL_at, hpL_nil, *])) ?_
      | with_reducible refine awH_go (by decide) (by kernel_rfl) ?_
      | with_reducible refine awH_tail (by decide) ?_
      | (with_reducible refine Kont.go hK ?_; clear hK K)
      | (with_reducible refine KT.go hT ?_; clear hT hE T E)
      | (with_reducible refine KT.go hE ?_; clear hT hE T E)
      | simp [*, -List.all_flatten, -List.all_eq_true, ext_noH, FS.init, FS.get, FS.put, FS.clean, lk, upd, ext, noH, cv1, cv, rv, FV.isU, FV.cellV, FV.cellsL, FV.storable, fLoad, fField, fIndex, fLen, fBin, fUn, fConv, natOf, fSlice, setFrom, fillA, pv, pv1, pv2, wv, wAlloc, wBox, wStore, wBuildS, wMakeS, wMakeM, wMapU, wApp, srcA, chunks, upds, List.foldl_cons, List.foldl_nil, fLook, fNil, fUn2, fBits, fCmp, fCmpB, eqK, eqCells, eqV, FV.kd, eqNil, nilV, putD, fStep, callee?, guardV, keepT, lastDst, condV, resV, resL, tupOf, StK, wOps_nil, wOps_cons, GOp_t, GOp_f, DoOp_n, DoOp_c, hMake, HG_t, HG_f, HDo_n, HDo_c, nl, nls, nlss, frz, frzs, frzR, asR, asRs, Fend, PFin_s, frzRes_s, frzNRes_s, frzN, nf, nfs, hpL_at, hpL_nil, keyOk, f_Program_eqGuardType_Program_depth_3, f_boolT_3, f_byT_33, f_byT_42, f_byT_46, f_fnOk_15, f_fnOk_16, f_fnOk_17, f_fnOk_7, f_intT_3, f_kdT_3, f_kdT_33, f_kdT_46, f_nilT_3, f_slT_35, f_slT_37, f_stT_3, f_stT_33, f_stT_46, f_strT_35, f_strT_37, f_zeroC_33, f_zeroC_42, f_zeroC_46, f_zeroV_4, nlss_evs, nlss_pbs, evs_length, pbs_length, cell_evs, cell_pbs, evs_take, List.take_length, filter_idem]
    all_goals trace_state
end Go.Gc
