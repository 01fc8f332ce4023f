/- One of the texts of a proof by an abstract machine over the model. -/
import Derived.Test.YtmhkendlllmodaaGreatDoorGcH
set_option linter.unusedSimpArgs false
set_option linter.unusedVariables false
namespace Go.Gc
open Go Go.FM Go.Proofs
set_option maxRecDepth 100000
set_option maxHeartbeats 4000000
theorem case_lt {i n : Nat} (h : i ≤ n) : i < n ∨ (¬ n < n ∧ i = n) := by omega
def sRow (s : Int × Int) : List FV := [.int .i64 s.1, .int .i64 s.2]
def sis (S : List (Int × Int)) : List (List FV) := S.map sRow
theorem sis_length (S : List (Int × Int)) : (sis S).length = S.length := by simp [sis]
theorem sis_at {L : List (Int × Int)} {i : Nat} (h : i < (sis L).length) : (sis L)[i] = sRow (L[i]'(by rwa [sis_length] at h)) := by simp [sis]
theorem nlss_sis (L : List (Int × Int)) : nlss (sis L) = true := by
  induction L with
  | nil => rfl
  | cons r rs ih => simpa [sis, nlss, nls, nl, sRow] using ih
def mkP (s : Int × Int) : Pb := ⟨s.1, s.2, 0, 0⟩
theorem mk_step {S : List (Int × Int)} {i : Nat} (h : i < S.length) : (S.take (i + 1)).map mkP = (S.take i).map mkP ++ [mkP S[i]] := by
  rw [List.take_add_one, List.map_append, List.getElem?_eq_getElem h]; rfl
theorem pbs_append (a b : List Pb) : pbs (a ++ b) = pbs a ++ pbs b := by simp [pbs]
theorem pbs_one (a : Pb) : pbs [a] = [a.row] := rfl
theorem pbs_nil : pbs [] = [] := rfl
theorem pbs_take (n : Nat) (l : List Pb) : (pbs l).take n = pbs (l.take n) := by simp [pbs, List.map_take]
theorem reason_mk (fn pc : Int) : ∀ S : List (Int × Int), reasonL (S.map mkP) fn pc = 0
  | [] => rfl
  | s :: S => by simp [reasonL, mkP, reason_mk fn pc S]
theorem filter_mk (S : List (Int × Int)) (L : List Ev) : L.filter (keepE (S.map mkP)) = L := by
  rw [List.filter_eq_self]
  intro e _
  simp [keepE, reason_mk]
theorem filter_evs (S : List (Int × Int)) (L : List Ev) : evs (L.filter (keepE (S.map mkP))) = evs L := by rw [filter_mk]
theorem c6 (L : List Ev) (S : List (Int × Int)) : PC Tryz.prog Gl 6 [.list 9 (evs L), .list 2 (sis S)] (.bool true) := by
  rcases cases60 L.length S.length with ⟨hL, hR, n1, n2⟩ | n1 | ⟨n1, n2⟩
  all_goals
    refine PC_go (res := [.tmp 4]) 7 42 [] (fun d ix => d :: ix) (fn := Tryz.f6) (by kernel_rfl) (by rfl) (by rfl) (by rfl) (by simp) (by decide) ?_
    repeat' first
      | ((with_reducible refine lp_here ?_); refine aw_lpg (fun x : {i : Nat // i ≤ S.length} => (⟨[.list 9 (evs L), .list 2 (sis S), .undef, .undef, .bool false, .sl [1005] 4 0 x.1, .int .i64 (x.1 : Int)], [], hpL [([1005], .cells 42 4 (pbs ((S.take x.1).map mkP)))], []⟩ : FS)) (fun x => S.length - x.1) ⟨0, by simp⟩ (gk_lst [([1005], none)] (fun _ h => h) (by rfl) ?_ ?_ ?_) ?_; (focus (simp [*, nle_append, nle_cons, nle_nil, nlss_append, nlss, nls, nl, simVs, simV, simT, simH, simO, renO, innO, ren, inn, rens, inns, renss, innss, rene, inne, bk, hpL, upd, noH, ext, lk, nlss_evs, nlss_pbs, renss_nl, innss_nl, rens_nl, inns_nl, evs_length, pbs_length, evs_append, evs_one, List.take_of_length_le, List.filter_append, evs_nil, nle_mes, rene_nl, inne_nl, List.take_length, nlss_sis, sis_length, pbs_append, pbs_one, pbs_nil, ]; done)); (focus (simp [*, nle_append, nle_cons, nle_nil, nlss_append, nlss, nls, nl, simVs, simV, simT, simH, simO, renO, innO, ren, inn, rens, inns, renss, innss, rene, inne, bk, hpL, upd, noH, ext, lk, nlss_evs, nlss_pbs, renss_nl, innss_nl, rens_nl, inns_nl, evs_length, pbs_length, evs_append, evs_one, List.take_of_length_le, List.filter_append, evs_nil, nle_mes, rene_nl, inne_nl, List.take_length, nlss_sis, sis_length, pbs_append, pbs_one, pbs_nil]; done)); (focus (simp [*, nle_append, nle_cons, nle_nil, nlss_append, nlss, nls, nl, simVs, simV, simT, simH, simO, renO, innO, ren, inn, rens, inns, renss, innss, rene, inne, bk, hpL, upd, noH, ext, lk, nlss_evs, nlss_pbs, renss_nl, innss_nl, rens_nl, inns_nl, evs_length, pbs_length, evs_append, evs_one, List.take_of_length_le, List.filter_append, evs_nil, nle_mes, rene_nl, inne_nl, List.take_length, nlss_sis, sis_length, pbs_append, pbs_one, pbs_nil, ]; done)); rintro ⟨i, hi⟩; have hz : (i + 1 + (i + 1) / 4 + 192) * 32 ≤ 140737488355328 := (by omega); have hz2 : i ≤ 4611686018427387903 := (by omega); rcases case_lt hi with hlt | ⟨hlt, rfl⟩)
      | ((with_reducible refine kl_here ?_); refine kloopg (⟨i + 1, by omega⟩) (gk_lst [([1005], some [36])] (fun _ h => h) (by rfl) ?_ ?_ ?_) (by dsimp only; omega); (focus (have e := mk_step (S := S) (i := i) (by assumption); have w := wr_inc (i := i) (m := S.length) (by assumption) (by omega); simp [*, nle_append, nle_cons, nle_nil, nlss_append, nlss, nls, nl, simVs, simV, simT, simH, simO, renO, innO, ren, inn, rens, inns, renss, innss, rene, inne, bk, hpL, upd, noH, ext, lk, nlss_evs, nlss_pbs, renss_nl, innss_nl, rens_nl, inns_nl, evs_length, pbs_length, evs_append, evs_one, List.take_of_length_le, List.filter_append, evs_nil, nle_mes, rene_nl, inne_nl, List.take_length, nlss_sis, sis_length, pbs_append, pbs_one, pbs_nil, w, e, Pb.row, mkP, List.length_take, Nat.min_eq_left, Nat.le_of_lt]; done)); (focus (have e := mk_step (S := S) (i := i) (by assumption); have w := wr_inc (i := i) (m := S.length) (by assumption) (by omega); simp [*, nle_append, nle_cons, nle_nil, nlss_append, nlss, nls, nl, simVs, simV, simT, simH, simO, renO, innO, ren, inn, rens, inns, renss, innss, rene, inne, bk, hpL, upd, noH, ext, lk, nlss_evs, nlss_pbs, renss_nl, innss_nl, rens_nl, inns_nl, evs_length, pbs_length, evs_append, evs_one, List.take_of_length_le, List.filter_append, evs_nil, nle_mes, rene_nl, inne_nl, List.take_length, nlss_sis, sis_length, pbs_append, pbs_one, pbs_nil, w, e, Pb.row, mkP, List.length_take, Nat.min_eq_left, Nat.le_of_lt]; done)); (focus (have e := mk_step (S := S) (i := i) (by assumption); have w := wr_inc (i := i) (m := S.length) (by assumption) (by omega); simp [*, nle_append, nle_cons, nle_nil, nlss_append, nlss, nls, nl, simVs, simV, simT, simH, simO, renO, innO, ren, inn, rens, inns, renss, innss, rene, inne, bk, hpL, upd, noH, ext, lk, nlss_evs, nlss_pbs, renss_nl, innss_nl, rens_nl, inns_nl, evs_length, pbs_length, evs_append, evs_one, List.take_of_length_le, List.filter_append, evs_nil, nle_mes, rene_nl, inne_nl, List.take_length, nlss_sis, sis_length, pbs_append, pbs_one, pbs_nil, w, e, Pb.row, mkP, List.length_take, Nat.min_eq_left, Nat.le_of_lt]; done)))
      | (with_reducible refine call_lendn (A1 := [.list 9 (evs L), .list 4 (pbs (S.map mkP))]) (A2 := [.list 9 (evs L), .list 4 (pbs (S.map mkP))]) 8 (c15 L (S.map mkP) (by omega) (by simp; omega)) ?_ (by simp [asRs, asR]) ?_; focus (simp [*, frzs, frz, frzR, nl, hpL_at, hpL_nil, upd, ext, noH, nlss_evs, nlss_pbs, evs_length, pbs_length, List.take_of_length_le]; done))
      | (with_reducible refine hlendn (A1 := [.list 9 (evs L), .list 4 (pbs (S.map mkP))]) (A2 := [.list 9 (evs L), .list 4 (pbs (S.map mkP))]) 8 (c15 L (S.map mkP) (by omega) (by simp; omega)) ?_ (by simp [asRs, asR]) ?_; focus (simp [*, frzs, frz, frzR, nl, hpL_at, hpL_nil, upd, ext, noH, nlss_evs, nlss_pbs, evs_length, pbs_length, List.take_of_length_le]; done))
      | with_reducible refine aw_sq ?_
      | with_reducible refine aw_blk ?_
      | with_reducible refine aw_reg fun K hK => ?_
      | with_reducible refine aw_dr 13 t_mix (by kernel_rfl) fun K hK => ?_
      | with_reducible refine aw_skip ?_
      | with_reducible refine aw_ret ?_
      | with_reducible refine aw_exit ?_
      | with_reducible refine aw_cnd fun T E hT hE => ?_
      | with_reducible refine kseq ?_
      | with_reducible refine kseq_r ?_
      | with_reducible refine kseq_e ?_
      | with_reducible refine kblk ?_
      | with_reducible refine kblk_r ?_
      | with_reducible refine kblk_hit ?_
      | with_reducible refine kblk_miss rfl ?_
      | with_reducible refine kloop_r ?_
      | with_reducible refine kloop_e ?_
      | with_reducible refine pfin_r ?_
      | with_reducible refine pfin_n ?_
      | with_reducible refine nfin_r ?_
      | with_reducible refine nfin_n ?_
      | with_reducible refine gop_t ?_
      | with_reducible refine gop_f ?_
      | with_reducible refine cond_t ?_
      | with_reducible refine cond_f ?_
      | with_reducible refine gsplit_nd (fun h => ?_) (fun h => ?_)
      | with_reducible refine gsplit_d (fun h => ?_) (fun h => ?_)
      | with_reducible refine hgsplit_nd (fun h => ?_) (fun h => ?_)
      | with_reducible refine hgsplit_d (fun h => ?_) (fun h => ?_)
      | with_reducible refine cond_nd (fun h => ?_) (fun h => ?_)
      | with_reducible refine cond_d (fun h => ?_) (fun h => ?_)
      | with_reducible refine gsplit_n (fun h => ?_) (fun h => ?_)
      | with_reducible refine gsplit (fun h => ?_) (fun h => ?_)
      | with_reducible refine hgsplit_n (fun h => ?_) (fun h => ?_)
      | with_reducible refine hgsplit (fun h => ?_) (fun h => ?_)
      | with_reducible refine cond_n (fun h => ?_) (fun h => ?_)
      | with_reducible refine cond_b (fun h => ?_) (fun h => ?_)
      | with_reducible refine call_pc awake_pc (by simp [nls, nl, *, nlss_evs, nlss_pbs, nlss_sis]) ?_
      | with_reducible refine hpc awake_pc (by simp [nls, nl, *, nlss_evs, nlss_pbs, nlss_sis]) ?_
      | with_reducible refine call_pc (c16 L L (by omega)) (by simp [nls, nl, *, nlss_evs, nlss_pbs, nlss_sis]) ?_
      | with_reducible refine hpc (c16 L L (by omega)) (by simp [nls, nl, *, nlss_evs, nlss_pbs, nlss_sis]) ?_
      | with_reducible refine hnx_go rfl (by decide) fresh_noH ?_
      | with_reducible refine hnx_go rfl (by decide) (fresh_upd (by simp [upd, noH, ext, hpL_at, hpL_nil, *])) ?_
      | with_reducible refine awH_go (by decide) (by kernel_rfl) ?_
      | with_reducible refine awH_tail (by decide) ?_
      | (with_reducible refine Kont.go hK ?_; clear hK K)
      | (with_reducible refine KT.go hT ?_; clear hT hE T E)
      | (with_reducible refine KT.go hE ?_; clear hT hE T E)
      | simp [*, -List.all_flatten, -List.all_eq_true, ext_noH, FS.init, FS.get, FS.put, FS.clean, lk, upd, ext, noH, cv1, cv, rv, FV.isU, FV.cellV, FV.cellsL, FV.storable, fLoad, fField, fIndex, fLen, fBin, fUn, fConv, natOf, fSlice, setFrom, fillA, pv, pv1, pv2, wv, wAlloc, wBox, wStore, wBuildS, wMakeS, wMakeM, wMapU, wApp, srcA, chunks, upds, List.foldl_cons, List.foldl_nil, fLook, fNil, fUn2, fBits, fCmp, fCmpB, eqK, eqCells, eqV, FV.kd, eqNil, nilV, putD, fStep, callee?, guardV, keepT, lastDst, condV, resV, resL, tupOf, StK, wOps_nil, wOps_cons, GOp_t, GOp_f, DoOp_n, DoOp_c, hMake, HG_t, HG_f, HDo_n, HDo_c, nl, nls, nlss, frz, frzs, frzR, asR, asRs, Fend, PFin_s, frzRes_s, frzNRes_s, frzN, nf, nfs, hpL_at, hpL_nil, keyOk, f_Program_eqGuardType_Program_depth_3, f_arT_29, f_boolT_3, f_byT_33, f_byT_42, f_byT_46, f_fldT_33_0, f_fldT_33_1, f_fnOk_15, f_fnOk_16, f_fnOk_7, f_intT_3, f_kdT_3, f_kdT_33, f_kdT_46, f_ldT_3, f_nilT_3, f_placesT_42, f_slT_29, f_slT_35, f_slT_37, f_stT_3, f_stT_33, f_stT_46, f_strT_29, f_strT_35, f_strT_37, f_zeroC_33, f_zeroC_42, f_zeroC_46, f_zeroV_4, nlss_evs, nlss_pbs, evs_length, pbs_length, sis_length, sis_at, sRow, nlss_sis, nat_inj, cell_evs, cell_pbs, evs_take, List.take_length, filter_evs]
    all_goals trace_state
end Go.Gc
