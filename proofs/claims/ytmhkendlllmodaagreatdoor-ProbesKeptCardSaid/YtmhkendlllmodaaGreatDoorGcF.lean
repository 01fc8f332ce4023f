/- One of the texts of a proof by an abstract machine over the model. -/
import Derived.Test.YtmhkendlllmodaaGreatDoorGcE
import Derived.Test.YtmhkendlllmodaaGreatDoorFmP
set_option linter.unusedSimpArgs false
set_option linter.unusedVariables false
namespace Go.Gc
open Go Go.FM Go.Proofs
set_option maxRecDepth 100000
set_option maxHeartbeats 4000000
def accE (e : Ev) : Bool := decide (e.kind = 1) || decide (e.kind = 2)
def keepE (Q : List Pb) (e : Ev) : Bool := !accE e || decide (reasonL Q e.fn e.pc = 0)
theorem filter_no {L : List Ev} {i : Nat} {p : Ev → Bool} (h : i < L.length) (hn : p L[i] = false) : (L.take (i + 1)).filter p = (L.take i).filter p := by
  rw [List.take_add_one, List.filter_append, List.getElem?_eq_getElem h]; simp [hn]
theorem filter_yes {L : List Ev} {i : Nat} {p : Ev → Bool} (h : i < L.length) (hn : p L[i] = true) : (L.take (i + 1)).filter p = (L.take i).filter p ++ [L[i]] := by
  rw [List.take_add_one, List.filter_append, List.getElem?_eq_getElem h]; simp [hn]
theorem evs_append (a b : List Ev) : evs (a ++ b) = evs a ++ evs b := by simp [evs]
theorem evs_one (a : Ev) : evs [a] = [a.row] := rfl
theorem evs_nil : evs [] = [] := rfl
theorem evs_take (n : Nat) (l : List Ev) : (evs l).take n = evs (l.take n) := by simp [evs, List.map_take]
theorem filter_len {L : List Ev} {i : Nat} {p : Ev → Bool} : ((L.take i).filter p).length ≤ L.length := Nat.le_trans (List.length_filter_le _ _) (by simp; omega)
theorem c17 (L : List Ev) (R : List Pb) (hs : L.length ≤ 1000000) (hr : R.length ≤ 1000000) : PC Tryz.prog Gl 17 [.list 9 (evs L), .list 4 (pbs R)] (.list 9 (evs (L.filter (keepE R)))) := by
  refine PC_go (res := [.tmp 4]) 8 53 [] (fun d ix => d :: ix) (fn := Tryz.f17) (by kernel_rfl) (by rfl) (by rfl) (by rfl) (by simp) (by decide) ?_
  repeat' first
    | ((with_reducible refine lp_here ?_); refine aw_lpg (fun x : {i : Nat // i ≤ L.length} => (⟨[.list 9 (evs L), .list 4 (pbs R), .undef, .undef, .nils, .sl [1005] 9 0 ((L.take x.1).filter (keepE R)).length, .int .i64 (x.1:Int), .undef], [], hpL [([1005], .cells 46 9 (evs ((L.take x.1).filter (keepE R))))], []⟩ : FS)) (fun x => L.length - x.1) ⟨0, by simp⟩ (gk_lst [([1005], none)] (fun _ h => h) (by rfl) ?_ ?_ ?_) ?_; (focus (simp [*, nle_append, nle_cons, nle_nil, nlss_append, nlss, nls, nl, simVs, simV, simT, simH, simO, renO, innO, ren, inn, rens, inns, renss, innss, rene, inne, bk, hpL, upd, noH, ext, lk, nlss_evs, nlss_pbs, renss_nl, innss_nl, rens_nl, inns_nl, evs_length, pbs_length, evs_append, evs_one, List.take_of_length_le, List.filter_append, evs_nil, ]; done)); (focus (simp [*, nle_append, nle_cons, nle_nil, nlss_append, nlss, nls, nl, simVs, simV, simT, simH, simO, renO, innO, ren, inn, rens, inns, renss, innss, rene, inne, bk, hpL, upd, noH, ext, lk, nlss_evs, nlss_pbs, renss_nl, innss_nl, rens_nl, inns_nl, evs_length, pbs_length, evs_append, evs_one, List.take_of_length_le, List.filter_append, evs_nil]; done)); (focus (simp [*, nle_append, nle_cons, nle_nil, nlss_append, nlss, nls, nl, simVs, simV, simT, simH, simO, renO, innO, ren, inn, rens, inns, renss, innss, rene, inne, bk, hpL, upd, noH, ext, lk, nlss_evs, nlss_pbs, renss_nl, innss_nl, rens_nl, inns_nl, evs_length, pbs_length, evs_append, evs_one, List.take_of_length_le, List.filter_append, evs_nil, ]; done)); rintro ⟨i, hi⟩; have hfl := filter_len (L := L) (i := i) (p := keepE R); have hz : (((L.take i).filter (keepE R)).length + 1 + (((L.take i).filter (keepE R)).length + 1) / 4 + 192) * 72 ≤ 140737488355328 := (by omega); have hz2 : ((L.take i).filter (keepE R)).length ≤ 4611686018427387903 := (by omega))
    | ((with_reducible refine kl_here ?_); refine kloopg (⟨i + 1, by omega⟩) (gk_lst [] (fun _ h => h) (by rfl) ?_ ?_ ?_) (by dsimp only; omega); (focus (have e := filter_no (p := keepE R) (L := L) (i := i) (by assumption) (by simp_all [keepE, accE]); have w := wr_inc (i := i) (m := L.length) (by assumption) (by omega); simp [*, nle_append, nle_cons, nle_nil, nlss_append, nlss, nls, nl, simVs, simV, simT, simH, simO, renO, innO, ren, inn, rens, inns, renss, innss, rene, inne, bk, hpL, upd, noH, ext, lk, nlss_evs, nlss_pbs, renss_nl, innss_nl, rens_nl, inns_nl, evs_length, pbs_length, evs_append, evs_one, List.take_of_length_le, List.filter_append, evs_nil, w, e]; done)); (focus (have e := filter_no (p := keepE R) (L := L) (i := i) (by assumption) (by simp_all [keepE, accE]); have w := wr_inc (i := i) (m := L.length) (by assumption) (by omega); simp [*, nle_append, nle_cons, nle_nil, nlss_append, nlss, nls, nl, simVs, simV, simT, simH, simO, renO, innO, ren, inn, rens, inns, renss, innss, rene, inne, bk, hpL, upd, noH, ext, lk, nlss_evs, nlss_pbs, renss_nl, innss_nl, rens_nl, inns_nl, evs_length, pbs_length, evs_append, evs_one, List.take_of_length_le, List.filter_append, evs_nil, w, e]; done)); (focus (have e := filter_no (p := keepE R) (L := L) (i := i) (by assumption) (by simp_all [keepE, accE]); have w := wr_inc (i := i) (m := L.length) (by assumption) (by omega); simp [*, nle_append, nle_cons, nle_nil, nlss_append, nlss, nls, nl, simVs, simV, simT, simH, simO, renO, innO, ren, inn, rens, inns, renss, innss, rene, inne, bk, hpL, upd, noH, ext, lk, nlss_evs, nlss_pbs, renss_nl, innss_nl, rens_nl, inns_nl, evs_length, pbs_length, evs_append, evs_one, List.take_of_length_le, List.filter_append, evs_nil, w, e]; done)))
    | ((with_reducible refine kl_here ?_); refine kloopg (⟨i + 1, by omega⟩) (gk_lst [([1005], some [51])] (fun _ h => h) (by rfl) ?_ ?_ ?_) (by dsimp only; omega); (focus (have e := filter_yes (p := keepE R) (L := L) (i := i) (by assumption) (by simp_all [keepE, accE]); have w := wr_inc (i := i) (m := L.length) (by assumption) (by omega); simp [*, nle_append, nle_cons, nle_nil, nlss_append, nlss, nls, nl, simVs, simV, simT, simH, simO, renO, innO, ren, inn, rens, inns, renss, innss, rene, inne, bk, hpL, upd, noH, ext, lk, nlss_evs, nlss_pbs, renss_nl, innss_nl, rens_nl, inns_nl, evs_length, pbs_length, evs_append, evs_one, List.take_of_length_le, List.filter_append, evs_nil, w, e, Ev.row]; done)); (focus (have e := filter_yes (p := keepE R) (L := L) (i := i) (by assumption) (by simp_all [keepE, accE]); have w := wr_inc (i := i) (m := L.length) (by assumption) (by omega); simp [*, nle_append, nle_cons, nle_nil, nlss_append, nlss, nls, nl, simVs, simV, simT, simH, simO, renO, innO, ren, inn, rens, inns, renss, innss, rene, inne, bk, hpL, upd, noH, ext, lk, nlss_evs, nlss_pbs, renss_nl, innss_nl, rens_nl, inns_nl, evs_length, pbs_length, evs_append, evs_one, List.take_of_length_le, List.filter_append, evs_nil, w, e, Ev.row]; done)); (focus (have e := filter_yes (p := keepE R) (L := L) (i := i) (by assumption) (by simp_all [keepE, accE]); have w := wr_inc (i := i) (m := L.length) (by assumption) (by omega); simp [*, nle_append, nle_cons, nle_nil, nlss_append, nlss, nls, nl, simVs, simV, simT, simH, simO, renO, innO, ren, inn, rens, inns, renss, innss, rene, inne, bk, hpL, upd, noH, ext, lk, nlss_evs, nlss_pbs, renss_nl, innss_nl, rens_nl, inns_nl, evs_length, pbs_length, evs_append, evs_one, List.take_of_length_le, List.filter_append, evs_nil, w, e, Ev.row]; done)))
    | with_reducible refine aw_sq ?_
    | with_reducible refine aw_blk ?_
    | with_reducible refine aw_reg fun K hK => ?_
    | with_reducible refine aw_dr 16 t_mix (by kernel_rfl) fun K hK => ?_
    | with_reducible refine aw_skip ?_
    | with_reducible refine aw_ret ?_
    | with_reducible refine aw_exit ?_
    | with_reducible refine aw_cnd fun T E hT hE => ?_
    | with_reducible refine kseq ?_
    | with_reducible refine kseq_r ?_
    | with_reducible refine kseq_e ?_
    | with_reducible refine kblk ?_
    | with_reducible refine kblk_r ?_
    | with_reducible refine kblk_hit ?_
    | with_reducible refine kblk_miss rfl ?_
    | with_reducible refine kloop_r ?_
    | with_reducible refine kloop_e ?_
    | with_reducible refine pfin_r ?_
    | with_reducible refine pfin_n ?_
    | with_reducible refine nfin_r ?_
    | with_reducible refine nfin_n ?_
    | with_reducible refine gop_t ?_
    | with_reducible refine gop_f ?_
    | with_reducible refine cond_t ?_
    | with_reducible refine cond_f ?_
    | with_reducible refine gsplit_nd (fun h => ?_) (fun h => ?_)
    | with_reducible refine gsplit_d (fun h => ?_) (fun h => ?_)
    | with_reducible refine hgsplit_nd (fun h => ?_) (fun h => ?_)
    | with_reducible refine hgsplit_d (fun h => ?_) (fun h => ?_)
    | with_reducible refine cond_nd (fun h => ?_) (fun h => ?_)
    | with_reducible refine cond_d (fun h => ?_) (fun h => ?_)
    | with_reducible refine gsplit_n (fun h => ?_) (fun h => ?_)
    | with_reducible refine gsplit (fun h => ?_) (fun h => ?_)
    | with_reducible refine hgsplit_n (fun h => ?_) (fun h => ?_)
    | with_reducible refine hgsplit (fun h => ?_) (fun h => ?_)
    | with_reducible refine cond_n (fun h => ?_) (fun h => ?_)
    | with_reducible refine cond_b (fun h => ?_) (fun h => ?_)
    | with_reducible refine call_pc (c30 R _ _ (by omega)) (by simp [nls, nl, *, nlss_evs, nlss_pbs]) ?_
    | with_reducible refine hpc (c30 R _ _ (by omega)) (by simp [nls, nl, *, nlss_evs, nlss_pbs]) ?_
    | with_reducible refine hnx_go rfl (by decide) fresh_noH ?_
    | with_reducible refine hnx_go rfl (by decide) (fresh_upd (by simp [upd, noH, ext, hpL_at, hpL_nil, *])) ?_
    | with_reducible refine awH_go (by decide) (by kernel_rfl) ?_
    | with_reducible refine awH_tail (by decide) ?_
    | (with_reducible refine Kont.go hK ?_; clear hK K)
    | (with_reducible refine KT.go hT ?_; clear hT hE T E)
    | (with_reducible refine KT.go hE ?_; clear hT hE T E)
    | simp [*, -List.all_flatten, -List.all_eq_true, ext_noH, FS.init, FS.get, FS.put, FS.clean, lk, upd, ext, noH, cv1, cv, rv, FV.isU, FV.cellV, FV.cellsL, FV.storable, fLoad, fField, fIndex, fLen, fBin, fUn, fConv, natOf, fSlice, setFrom, fillA, pv, pv1, pv2, wv, wAlloc, wBox, wStore, wBuildS, wMakeS, wMakeM, wMapU, wApp, srcA, chunks, upds, List.foldl_cons, List.foldl_nil, fLook, fNil, fUn2, fBits, fCmp, fCmpB, eqK, eqCells, eqV, FV.kd, eqNil, nilV, putD, fStep, callee?, guardV, keepT, lastDst, condV, resV, resL, tupOf, StK, wOps_nil, wOps_cons, GOp_t, GOp_f, DoOp_n, DoOp_c, hMake, HG_t, HG_f, HDo_n, HDo_c, nl, nls, nlss, frz, frzs, frzR, asR, asRs, Fend, PFin_s, frzRes_s, frzNRes_s, frzN, nf, nfs, hpL_at, hpL_nil, keyOk, f_Program_eqGuardType_Program_depth_3, f_arT_37, f_boolT_3, f_byT_33, f_byT_42, f_byT_46, f_fldT_46_1, f_fldT_46_6, f_fldT_46_7, f_fnOk_30, f_intT_3, f_kdT_3, f_kdT_33, f_kdT_46, f_ldT_3, f_ldT_46, f_nilT_3, f_slT_37, f_stT_3, f_stT_33, f_stT_46, f_strT_37, f_zeroC_33, f_zeroC_42, f_zeroC_46, f_zeroV_4, nlss_evs, nlss_pbs, evs_length, pbs_length, evs_at, Ev.row, nat_inj, hpL_at, hpL_nil]
  all_goals first
    | (have e1 : L.take i = L := List.take_of_length_le (by omega); simp [e1, List.take_of_length_le, nlss_evs, evs_length, PFin, asR, evs_take]; done)
    | trace_state

end Go.Gc
