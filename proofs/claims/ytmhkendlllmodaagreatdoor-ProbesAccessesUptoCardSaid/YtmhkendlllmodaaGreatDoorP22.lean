/- Texts of a proof by an abstract machine over the model. -/
import Derived.Test.YtmhkendlllmodaaGreatDoorP21
import Derived.Test.YtmhkendlllmodaaGreatDoorP15
import Derived.Test.YtmhkendlllmodaaGreatDoorP6
import Derived.Test.YtmhkendlllmodaaGreatDoorP4
set_option linter.unusedSimpArgs false
set_option linter.unusedVariables false
namespace Go.Gc
open Go Go.FM Go.Gv Go.Proofs
set_option maxRecDepth 100000
set_option maxHeartbeats 4000000
def sitRow (s : Int × Int) : List FV := [.int .i64 s.1, .int .i64 s.2]
def sits (L : List (Int × Int)) : List (List FV) := L.map sitRow
theorem sits_length (L : List (Int × Int)) : (sits L).length = L.length := by simp [sits]
theorem sits_at {L : List (Int × Int)} {i : Nat} (h : i < (sits L).length) : (sits L)[i] = sitRow (L[i]'(by rwa [sits_length] at h)) := by simp [sits]
theorem sits_append (a b : List (Int × Int)) : sits (a ++ b) = sits a ++ sits b := by simp [sits]
theorem sits_one (a : Int × Int) : sits [a] = [sitRow a] := rfl
theorem sits_nil : sits [] = [] := rfl
theorem sits_take (n : Nat) (l : List (Int × Int)) : (sits l).take n = sits (l.take n) := by simp [sits, List.map_take]
theorem nlss_sits (L : List (Int × Int)) : nlss (sits L) = true := by
  induction L with
  | nil => rfl
  | cons r rs ih => simpa [sits, nlss, nls, nl, sitRow] using ih
theorem cell_sits (L : List (Int × Int)) : (sits L).flatten.all FV.cellV = true := by
  induction L with
  | nil => rfl
  | cons r rs ih => simp [sits, FV.cellV, sitRow]
theorem c20 (n : Int) : PC Tryz.prog Gl 20 [.int .i64 n] (.bool (accOp n)) := by
  rcases accOp_cases n with ⟨h1, h2⟩ | ⟨h1, h2, h3⟩ | ⟨h1, h2, h3⟩
  all_goals
    refine PC_go (res := [.tmp 2]) 3 9 [] (fun d ix => d :: ix) (fn := Tryz.f20) (by kernel_rfl) (by rfl) (by rfl) (by rfl) (by simp) (by decide) ?_
    repeat' first
      | with_reducible refine aw_sq ?_
      | with_reducible refine aw_blk ?_
      | with_reducible refine aw_reg fun K hK => ?_
      | with_reducible refine aw_skip ?_
      | with_reducible refine aw_ret ?_
      | with_reducible refine aw_exit ?_
      | with_reducible refine aw_cnd fun T E hT hE => ?_
      | with_reducible refine kseq ?_
      | with_reducible refine kseq_r ?_
      | with_reducible refine kseq_e ?_
      | with_reducible refine kblk ?_
      | with_reducible refine kblk_r ?_
      | with_reducible refine kblk_hit ?_
      | with_reducible refine kblk_miss rfl ?_
      | with_reducible refine kloop_r ?_
      | with_reducible refine kloop_e ?_
      | with_reducible refine pfin_r ?_
      | with_reducible refine pfin_n ?_
      | with_reducible refine nfin_r ?_
      | with_reducible refine nfin_n ?_
      | with_reducible refine gop_t ?_
      | with_reducible refine gop_f ?_
      | with_reducible refine cond_t ?_
      | with_reducible refine cond_f ?_
      | with_reducible refine gsplit_nd (fun h => ?_) (fun h => ?_)
      | with_reducible refine gsplit_d (fun h => ?_) (fun h => ?_)
      | with_reducible refine hgsplit_nd (fun h => ?_) (fun h => ?_)
      | with_reducible refine hgsplit_d (fun h => ?_) (fun h => ?_)
      | with_reducible refine cond_nd (fun h => ?_) (fun h => ?_)
      | with_reducible refine cond_d (fun h => ?_) (fun h => ?_)
      | with_reducible refine gsplit_n (fun h => ?_) (fun h => ?_)
      | with_reducible refine gsplit (fun h => ?_) (fun h => ?_)
      | with_reducible refine hgsplit_n (fun h => ?_) (fun h => ?_)
      | with_reducible refine hgsplit (fun h => ?_) (fun h => ?_)
      | with_reducible refine cond_n (fun h => ?_) (fun h => ?_)
      | with_reducible refine cond_b (fun h => ?_) (fun h => ?_)
      | with_reducible refine hnx_go rfl (by decide) fresh_noH ?_
      | with_reducible refine hnx_go rfl (by decide) (fresh_upd (by simp [upd, noH, ext, hpL_at, hpL_nil, *])) ?_
      | with_reducible refine awH_go (by decide) (by kernel_rfl) ?_
      | with_reducible refine awH_tail (by decide) ?_
      | (with_reducible refine Kont.go hK ?_; clear hK K)
      | (with_reducible refine KT.go hT ?_; clear hT hE T E)
      | (with_reducible refine KT.go hE ?_; clear hT hE T E)
      | simp [*, -List.all_flatten, -List.all_eq_true, ext_noH, FS.init, FS.get, FS.put, FS.clean, lk, upd, ext, noH, cv1, cv, rv, FV.isU, FV.cellV, FV.cellsL, FV.storable, fLoad, fField, fIndex, fLen, fBin, fUn, fConv, natOf, fSlice, setFrom, fillA, pv, pv1, pv2, wv, wAlloc, wBox, wStore, wBuildS, wMakeS, wMakeM, wMapU, wApp, srcA, chunks, upds, List.foldl_cons, List.foldl_nil, fLook, fNil, fUn2, fBits, fCmp, fCmpB, eqK, eqCells, eqV, FV.kd, eqNil, nilV, putD, fStep, callee?, guardV, keepT, lastDst, condV, resV, resL, tupOf, StK, wOps_nil, wOps_cons, GOp_t, GOp_f, DoOp_n, DoOp_c, hMake, HG_t, HG_f, HDo_n, HDo_c, nl, nls, nlss, frz, frzs, frzR, asR, asRs, Fend, PFin_s, frzRes_s, frzNRes_s, frzN, nf, nfs, hpL_at, hpL_nil, keyOk, fBuildA, f_Program_eqGuardType_Program_depth_3, f_boolT_3, f_byT_3, f_byT_33, f_byT_49, f_byT_51, f_byT_53, f_byT_73, f_byT_9, f_intT_3, f_kdT_3, f_kdT_33, f_kdT_4, f_kdT_5, f_kdT_9, f_ldT_147, f_ldT_174, f_ldT_22, f_ldT_23, f_ldT_24, f_ldT_26, f_ldT_3, f_ldT_33, f_ldT_47, f_ldT_49, f_ldT_51, f_ldT_53, f_ldT_73, f_ldT_78, f_ldT_9, f_nilT_3, f_stT_3, f_stT_33, f_stT_4, f_stT_5, f_stT_9, f_szT_147, f_szT_174, f_szT_22, f_szT_24, f_szT_26, f_szT_3, f_szT_47, f_szT_49, f_szT_51, f_szT_73, f_szT_78, f_zeroC_147, f_zeroC_150, f_zeroC_174, f_zeroC_26, f_zeroC_3, f_zeroC_33, f_zeroC_49, f_zeroC_51, f_zeroC_53, f_zeroC_73, f_zeroC_78, f_zeroC_9]
    all_goals first
      | (simp [accOp]; done)
      | trace_state
theorem c22 (n : Int) : PC Tryz.prog Gl 22 [.int .i64 n] (.bool (accOp n)) := by
  rcases accOp_cases n with ⟨h1, h2⟩ | ⟨h1, h2, h3⟩ | ⟨h1, h2, h3⟩
  all_goals
    refine PC_go (res := [.tmp 2]) 3 9 [] (fun d ix => d :: ix) (fn := Tryz.f22) (by kernel_rfl) (by rfl) (by rfl) (by rfl) (by simp) (by decide) ?_
    repeat' first
      | with_reducible refine aw_sq ?_
      | with_reducible refine aw_blk ?_
      | with_reducible refine aw_reg fun K hK => ?_
      | with_reducible refine aw_skip ?_
      | with_reducible refine aw_ret ?_
      | with_reducible refine aw_exit ?_
      | with_reducible refine aw_cnd fun T E hT hE => ?_
      | with_reducible refine kseq ?_
      | with_reducible refine kseq_r ?_
      | with_reducible refine kseq_e ?_
      | with_reducible refine kblk ?_
      | with_reducible refine kblk_r ?_
      | with_reducible refine kblk_hit ?_
      | with_reducible refine kblk_miss rfl ?_
      | with_reducible refine kloop_r ?_
      | with_reducible refine kloop_e ?_
      | with_reducible refine pfin_r ?_
      | with_reducible refine pfin_n ?_
      | with_reducible refine nfin_r ?_
      | with_reducible refine nfin_n ?_
      | with_reducible refine gop_t ?_
      | with_reducible refine gop_f ?_
      | with_reducible refine cond_t ?_
      | with_reducible refine cond_f ?_
      | with_reducible refine gsplit_nd (fun h => ?_) (fun h => ?_)
      | with_reducible refine gsplit_d (fun h => ?_) (fun h => ?_)
      | with_reducible refine hgsplit_nd (fun h => ?_) (fun h => ?_)
      | with_reducible refine hgsplit_d (fun h => ?_) (fun h => ?_)
      | with_reducible refine cond_nd (fun h => ?_) (fun h => ?_)
      | with_reducible refine cond_d (fun h => ?_) (fun h => ?_)
      | with_reducible refine gsplit_n (fun h => ?_) (fun h => ?_)
      | with_reducible refine gsplit (fun h => ?_) (fun h => ?_)
      | with_reducible refine hgsplit_n (fun h => ?_) (fun h => ?_)
      | with_reducible refine hgsplit (fun h => ?_) (fun h => ?_)
      | with_reducible refine cond_n (fun h => ?_) (fun h => ?_)
      | with_reducible refine cond_b (fun h => ?_) (fun h => ?_)
      | with_reducible refine hnx_go rfl (by decide) fresh_noH ?_
      | with_reducible refine hnx_go rfl (by decide) (fresh_upd (by simp [upd, noH, ext, hpL_at, hpL_nil, *])) ?_
      | with_reducible refine awH_go (by decide) (by kernel_rfl) ?_
      | with_reducible refine awH_tail (by decide) ?_
      | (with_reducible refine Kont.go hK ?_; clear hK K)
      | (with_reducible refine KT.go hT ?_; clear hT hE T E)
      | (with_reducible refine KT.go hE ?_; clear hT hE T E)
      | simp [*, -List.all_flatten, -List.all_eq_true, ext_noH, FS.init, FS.get, FS.put, FS.clean, lk, upd, ext, noH, cv1, cv, rv, FV.isU, FV.cellV, FV.cellsL, FV.storable, fLoad, fField, fIndex, fLen, fBin, fUn, fConv, natOf, fSlice, setFrom, fillA, pv, pv1, pv2, wv, wAlloc, wBox, wStore, wBuildS, wMakeS, wMakeM, wMapU, wApp, srcA, chunks, upds, List.foldl_cons, List.foldl_nil, fLook, fNil, fUn2, fBits, fCmp, fCmpB, eqK, eqCells, eqV, FV.kd, eqNil, nilV, putD, fStep, callee?, guardV, keepT, lastDst, condV, resV, resL, tupOf, StK, wOps_nil, wOps_cons, GOp_t, GOp_f, DoOp_n, DoOp_c, hMake, HG_t, HG_f, HDo_n, HDo_c, nl, nls, nlss, frz, frzs, frzR, asR, asRs, Fend, PFin_s, frzRes_s, frzNRes_s, frzN, nf, nfs, hpL_at, hpL_nil, keyOk, fBuildA, f_Program_eqGuardType_Program_depth_3, f_boolT_3, f_byT_3, f_byT_33, f_byT_49, f_byT_51, f_byT_53, f_byT_73, f_byT_9, f_intT_3, f_kdT_3, f_kdT_33, f_kdT_4, f_kdT_5, f_kdT_9, f_ldT_147, f_ldT_174, f_ldT_22, f_ldT_23, f_ldT_24, f_ldT_26, f_ldT_3, f_ldT_33, f_ldT_47, f_ldT_49, f_ldT_51, f_ldT_53, f_ldT_73, f_ldT_78, f_ldT_9, f_nilT_3, f_stT_3, f_stT_33, f_stT_4, f_stT_5, f_stT_9, f_szT_147, f_szT_174, f_szT_22, f_szT_24, f_szT_26, f_szT_3, f_szT_47, f_szT_49, f_szT_51, f_szT_73, f_szT_78, f_zeroC_147, f_zeroC_150, f_zeroC_174, f_zeroC_26, f_zeroC_3, f_zeroC_33, f_zeroC_49, f_zeroC_51, f_zeroC_53, f_zeroC_73, f_zeroC_78, f_zeroC_9]
    all_goals first
      | (simp [accOp]; done)
      | trace_state
theorem fmax0 (n : Int) : fMax (.int .i64 0) [.int .i64 n] = some (.int .i64 (mx0 n)) := by simp [fMax, mx0]
theorem wlen (n : Nat) (h : n ≤ 1000000000) : IntKind.wrap .i64 (1 + (n : Int)) = 1 + (n : Int) := by rw [IntKind.wrap_i64]; omega
theorem c8 (p : Pg) (hf : p.funcs.length ≤ 2000000) : PC Tryz.prog Gl 8 [.agg [.list 4 (fns p.funcs), .list 2 (gbs p.globals), .list 1 (lays p.layouts), .int .i64 p.main]] (.bool (great p)) := by
  have hg0 : IntKind.wrap .i64 ((p.globals.length : Int) + (p.layouts.length : Int)) = grN p 0 := rfl
  refine PC_go (res := [.tmp 2]) 5 40 [] (fun d ix => d :: ix) (fn := Tryz.f8) (by kernel_rfl) (by rfl) (by rfl) (by rfl) (by simp) (by decide) ?_
  repeat' first
    | ((with_reducible refine lp_here ?_); refine aw_lpg (fun y : {i : Nat // i ≤ p.funcs.length} => (⟨[.agg [.list 4 (fns p.funcs), .list 2 (gbs p.globals), .list 1 (lays p.layouts), .int .i64 p.main], .ptr [1] 4 0 0, .bool false, .int .i64 (grN p y.1), .int .i64 (y.1 : Int)], [], hpL [([1], .cells 26 4 [[.list 4 (fns p.funcs), .list 2 (gbs p.globals), .list 1 (lays p.layouts), .int .i64 p.main]])], []⟩ : FS)) (fun y => p.funcs.length - y.1) ⟨0, by simp⟩ (gk_lst [] (fun _ h => h) (by rfl) ?_ ?_ ?_) ?_; (focus (simp [*, nle_append, nle_cons, nle_nil, nlss_append, nlss, nls, nl, simVs, simV, simT, simH, simO, renO, innO, ren, inn, rens, inns, renss, innss, rene, inne, bk, hpL, upd, noH, ext, lk, renss_nl, innss_nl, rens_nl, inns_nl, nlss_ints, ints_length, ints_append, ints_one, ints_nil, nlss_inss, inss_length, inss_append, inss_one, inss_nil, nlss_fns, fns_length, fns_append, fns_one, fns_nil, nlss_gbs, gbs_length, gbs_append, gbs_one, gbs_nil, nlss_lays, lays_length, lays_append, lays_one, lays_nil, nlss_strs, strs_length, strs_append, strs_one, strs_nil, strs_take, List.take_take, Nat.min_self, nlss_sits, sits_length, sits_append, sits_one, sits_nil, sits_take, sitRow, List.take_of_length_le, List.filter_append, *]; done)); (focus (simp [*, nle_append, nle_cons, nle_nil, nlss_append, nlss, nls, nl, simVs, simV, simT, simH, simO, renO, innO, ren, inn, rens, inns, renss, innss, rene, inne, bk, hpL, upd, noH, ext, lk, renss_nl, innss_nl, rens_nl, inns_nl, nlss_ints, ints_length, ints_append, ints_one, ints_nil, nlss_inss, inss_length, inss_append, inss_one, inss_nil, nlss_fns, fns_length, fns_append, fns_one, fns_nil, nlss_gbs, gbs_length, gbs_append, gbs_one, gbs_nil, nlss_lays, lays_length, lays_append, lays_one, lays_nil, nlss_strs, strs_length, strs_append, strs_one, strs_nil, strs_take, List.take_take, Nat.min_self, nlss_sits, sits_length, sits_append, sits_one, sits_nil, sits_take, sitRow, List.take_of_length_le, List.filter_append]; done)); (focus (simp [*, nle_append, nle_cons, nle_nil, nlss_append, nlss, nls, nl, simVs, simV, simT, simH, simO, renO, innO, ren, inn, rens, inns, renss, innss, rene, inne, bk, hpL, upd, noH, ext, lk, renss_nl, innss_nl, rens_nl, inns_nl, nlss_ints, ints_length, ints_append, ints_one, ints_nil, nlss_inss, inss_length, inss_append, inss_one, inss_nil, nlss_fns, fns_length, fns_append, fns_one, fns_nil, nlss_gbs, gbs_length, gbs_append, gbs_one, gbs_nil, nlss_lays, lays_length, lays_append, lays_one, lays_nil, nlss_strs, strs_length, strs_append, strs_one, strs_nil, strs_take, List.take_take, Nat.min_self, nlss_sits, sits_length, sits_append, sits_one, sits_nil, sits_take, sitRow, List.take_of_length_le, List.filter_append, *]; done)); rintro ⟨i, hi⟩; (try dsimp only at hi); rcases case_lt' hi with hlt | ⟨hlt, rfl⟩; rotate_left; rotate_left; have wi := wli hlt (by omega); have hgr := grN_s hlt)
    | ((with_reducible refine kl_here ?_); refine kloopg (⟨i + 1, by omega⟩) (gk_lst [] (fun _ h => h) (by rfl) ?_ ?_ ?_) (by dsimp only; omega); (focus (simp [*, nle_append, nle_cons, nle_nil, nlss_append, nlss, nls, nl, simVs, simV, simT, simH, simO, renO, innO, ren, inn, rens, inns, renss, innss, rene, inne, bk, hpL, upd, noH, ext, lk, renss_nl, innss_nl, rens_nl, inns_nl, nlss_ints, ints_length, ints_append, ints_one, ints_nil, nlss_inss, inss_length, inss_append, inss_one, inss_nil, nlss_fns, fns_length, fns_append, fns_one, fns_nil, nlss_gbs, gbs_length, gbs_append, gbs_one, gbs_nil, nlss_lays, lays_length, lays_append, lays_one, lays_nil, nlss_strs, strs_length, strs_append, strs_one, strs_nil, strs_take, List.take_take, Nat.min_self, nlss_sits, sits_length, sits_append, sits_one, sits_nil, sits_take, sitRow, List.take_of_length_le, List.filter_append, *]; done)); (focus (simp [*, nle_append, nle_cons, nle_nil, nlss_append, nlss, nls, nl, simVs, simV, simT, simH, simO, renO, innO, ren, inn, rens, inns, renss, innss, rene, inne, bk, hpL, upd, noH, ext, lk, renss_nl, innss_nl, rens_nl, inns_nl, nlss_ints, ints_length, ints_append, ints_one, ints_nil, nlss_inss, inss_length, inss_append, inss_one, inss_nil, nlss_fns, fns_length, fns_append, fns_one, fns_nil, nlss_gbs, gbs_length, gbs_append, gbs_one, gbs_nil, nlss_lays, lays_length, lays_append, lays_one, lays_nil, nlss_strs, strs_length, strs_append, strs_one, strs_nil, strs_take, List.take_take, Nat.min_self, nlss_sits, sits_length, sits_append, sits_one, sits_nil, sits_take, sitRow, List.take_of_length_le, List.filter_append, *]; done)); (focus (simp [*, nle_append, nle_cons, nle_nil, nlss_append, nlss, nls, nl, simVs, simV, simT, simH, simO, renO, innO, ren, inn, rens, inns, renss, innss, rene, inne, bk, hpL, upd, noH, ext, lk, renss_nl, innss_nl, rens_nl, inns_nl, nlss_ints, ints_length, ints_append, ints_one, ints_nil, nlss_inss, inss_length, inss_append, inss_one, inss_nil, nlss_fns, fns_length, fns_append, fns_one, fns_nil, nlss_gbs, gbs_length, gbs_append, gbs_one, gbs_nil, nlss_lays, lays_length, lays_append, lays_one, lays_nil, nlss_strs, strs_length, strs_append, strs_one, strs_nil, strs_take, List.take_take, Nat.min_self, nlss_sits, sits_length, sits_append, sits_one, sits_nil, sits_take, sitRow, List.take_of_length_le, List.filter_append, *]; done)))
    | with_reducible refine aw_sq ?_
    | with_reducible refine aw_blk ?_
    | with_reducible refine aw_reg fun K hK => ?_
    | with_reducible refine aw_dr (id := 5) 19 t_mix (by kernel_rfl) fun K hK => ?_
    | with_reducible refine aw_skip ?_
    | with_reducible refine aw_ret ?_
    | with_reducible refine aw_exit ?_
    | with_reducible refine aw_cnd fun T E hT hE => ?_
    | with_reducible refine kseq ?_
    | with_reducible refine kseq_r ?_
    | with_reducible refine kseq_e ?_
    | with_reducible refine kblk ?_
    | with_reducible refine kblk_r ?_
    | with_reducible refine kblk_hit ?_
    | with_reducible refine kblk_miss rfl ?_
    | with_reducible refine kloop_r ?_
    | with_reducible refine kloop_e ?_
    | with_reducible refine pfin_r ?_
    | with_reducible refine pfin_n ?_
    | with_reducible refine nfin_r ?_
    | with_reducible refine nfin_n ?_
    | with_reducible refine gop_t ?_
    | with_reducible refine gop_f ?_
    | with_reducible refine cond_t ?_
    | with_reducible refine cond_f ?_
    | with_reducible refine gsplit_nd (fun h => ?_) (fun h => ?_)
    | with_reducible refine gsplit_d (fun h => ?_) (fun h => ?_)
    | with_reducible refine hgsplit_nd (fun h => ?_) (fun h => ?_)
    | with_reducible refine hgsplit_d (fun h => ?_) (fun h => ?_)
    | with_reducible refine cond_nd (fun h => ?_) (fun h => ?_)
    | with_reducible refine cond_d (fun h => ?_) (fun h => ?_)
    | with_reducible refine gsplit_n (fun h => ?_) (fun h => ?_)
    | with_reducible refine gsplit (fun h => ?_) (fun h => ?_)
    | with_reducible refine hgsplit_n (fun h => ?_) (fun h => ?_)
    | with_reducible refine hgsplit (fun h => ?_) (fun h => ?_)
    | with_reducible refine cond_n (fun h => ?_) (fun h => ?_)
    | with_reducible refine cond_b (fun h => ?_) (fun h => ?_)
    | with_reducible refine hnx_go rfl (by decide) fresh_noH ?_
    | with_reducible refine hnx_go rfl (by decide) (fresh_upd (by simp [upd, noH, ext, hpL_at, hpL_nil, *])) ?_
    | with_reducible refine awH_go (by decide) (by kernel_rfl) ?_
    | with_reducible refine awH_tail (by decide) ?_
    | (with_reducible refine Kont.go hK ?_; clear hK K)
    | (with_reducible refine KT.go hT ?_; clear hT hE T E)
    | (with_reducible refine KT.go hE ?_; clear hT hE T E)
    | simp [*, -List.all_flatten, -List.all_eq_true, ext_noH, FS.init, FS.get, FS.put, FS.clean, lk, upd, ext, noH, cv1, cv, rv, FV.isU, FV.cellV, FV.cellsL, FV.storable, fLoad, fField, fIndex, fLen, fBin, fUn, fConv, natOf, fSlice, setFrom, fillA, pv, pv1, pv2, wv, wAlloc, wBox, wStore, wBuildS, wMakeS, wMakeM, wMapU, wApp, srcA, chunks, upds, List.foldl_cons, List.foldl_nil, fLook, fNil, fUn2, fBits, fCmp, fCmpB, eqK, eqCells, eqV, FV.kd, eqNil, nilV, putD, fStep, callee?, guardV, keepT, lastDst, condV, resV, resL, tupOf, StK, wOps_nil, wOps_cons, GOp_t, GOp_f, DoOp_n, DoOp_c, hMake, HG_t, HG_f, HDo_n, HDo_c, nl, nls, nlss, frz, frzs, frzR, asR, asRs, Fend, PFin_s, frzRes_s, frzNRes_s, frzN, nf, nfs, hpL_at, hpL_nil, keyOk, fBuildA, f_Program_eqGuardType_Program_depth_3, f_arT_22, f_boolT_3, f_byT_3, f_byT_33, f_byT_49, f_byT_51, f_byT_53, f_byT_73, f_byT_9, f_fldT_26_0, f_fldT_26_1, f_fldT_26_2, f_fldT_49_2, f_fldT_49_3, f_intT_3, f_kdT_3, f_kdT_33, f_kdT_4, f_kdT_5, f_kdT_9, f_ldT_147, f_ldT_174, f_ldT_22, f_ldT_23, f_ldT_24, f_ldT_26, f_ldT_3, f_ldT_33, f_ldT_47, f_ldT_49, f_ldT_51, f_ldT_53, f_ldT_73, f_ldT_78, f_ldT_9, f_nilT_3, f_slT_22, f_slT_23, f_slT_24, f_slT_3, f_slT_47, f_stT_3, f_stT_33, f_stT_4, f_stT_5, f_stT_9, f_strT_22, f_strT_23, f_strT_24, f_strT_3, f_strT_47, f_szT_147, f_szT_174, f_szT_22, f_szT_24, f_szT_26, f_szT_3, f_szT_47, f_szT_49, f_szT_51, f_szT_73, f_szT_78, f_zeroC_147, f_zeroC_150, f_zeroC_174, f_zeroC_26, f_zeroC_3, f_zeroC_33, f_zeroC_49, f_zeroC_51, f_zeroC_53, f_zeroC_73, f_zeroC_78, f_zeroC_9, ints_length, inss_length, fns_length, gbs_length, lays_length, nlss_ints, nlss_inss, nlss_fns, nlss_gbs, nlss_lays, ints_at, inss_at, fns_at, gbs_at, lays_at, intRow, Ins.row, FnD.row, Gb.row, layRow, Int.le_sub_one_iff, great, fmax0]
  all_goals trace_state

end Go.Gc
namespace Go.Gc
open Go Go.FM Go.Gv Go.Proofs
set_option maxRecDepth 100000
set_option maxHeartbeats 4000000
theorem c11 (p : Pg) (hf : p.funcs.length ≤ 2000000) (hg : p.globals.length ≤ 2000000) (hl : p.layouts.length ≤ 2000000) (hb : ∀ x ∈ p.layouts, x.length ≤ 2000000) (hfc : ∀ x ∈ p.funcs, x.code.length ≤ 2000000) : PC Tryz.prog Gl 11 [.agg [.list 4 (fns p.funcs), .list 2 (gbs p.globals), .list 1 (lays p.layouts), .int .i64 p.main]] (.list 2 (sits (sites (validR p) p))) := by
  cases hv : validR p
  all_goals
    refine PC_go (res := [.tmp 2]) 6 45 [] (fun d ix => d :: ix) (fn := Tryz.f11) (by kernel_rfl) (by rfl) (by rfl) (by rfl) (by simp) (by decide) ?_
    repeat' first
      | ((with_reducible refine lp_here ?_); refine aw_lpg (fun y : {i : Nat // i ≤ p.funcs.length} => (⟨[.agg [.list 4 (fns p.funcs), .list 2 (gbs p.globals), .list 1 (lays p.layouts), .int .i64 p.main], .ptr [1] 4 0 0, .nils, .sl [1003] 2 0 (accP p.funcs y.1).length, .int .i64 (y.1 : Int), .undef], [], hpL [([1], .cells 26 4 [[.list 4 (fns p.funcs), .list 2 (gbs p.globals), .list 1 (lays p.layouts), .int .i64 p.main]]), ([1003], .cells 33 2 (sits (accP p.funcs y.1)))], []⟩ : FS)) (fun y => p.funcs.length - y.1) ⟨0, by simp⟩ (gk_lst [([1003], none)] (fun _ h => h) (by rfl) ?_ ?_ ?_) ?_; (focus (simp [*, nle_append, nle_cons, nle_nil, nlss_append, nlss, nls, nl, simVs, simV, simT, simH, simO, renO, innO, ren, inn, rens, inns, renss, innss, rene, inne, bk, hpL, upd, noH, ext, lk, renss_nl, innss_nl, rens_nl, inns_nl, nlss_ints, ints_length, ints_append, ints_one, ints_nil, nlss_inss, inss_length, inss_append, inss_one, inss_nil, nlss_fns, fns_length, fns_append, fns_one, fns_nil, nlss_gbs, gbs_length, gbs_append, gbs_one, gbs_nil, nlss_lays, lays_length, lays_append, lays_one, lays_nil, nlss_strs, strs_length, strs_append, strs_one, strs_nil, strs_take, List.take_take, Nat.min_self, nlss_sits, sits_length, sits_append, sits_one, sits_nil, sits_take, sitRow, acc2_0, accP_0, List.length_append, List.take_of_length_le, List.filter_append, *]; done)); (focus (simp [*, nle_append, nle_cons, nle_nil, nlss_append, nlss, nls, nl, simVs, simV, simT, simH, simO, renO, innO, ren, inn, rens, inns, renss, innss, rene, inne, bk, hpL, upd, noH, ext, lk, renss_nl, innss_nl, rens_nl, inns_nl, nlss_ints, ints_length, ints_append, ints_one, ints_nil, nlss_inss, inss_length, inss_append, inss_one, inss_nil, nlss_fns, fns_length, fns_append, fns_one, fns_nil, nlss_gbs, gbs_length, gbs_append, gbs_one, gbs_nil, nlss_lays, lays_length, lays_append, lays_one, lays_nil, nlss_strs, strs_length, strs_append, strs_one, strs_nil, strs_take, List.take_take, Nat.min_self, nlss_sits, sits_length, sits_append, sits_one, sits_nil, sits_take, sitRow, acc2_0, accP_0, List.length_append, List.take_of_length_le, List.filter_append]; done)); (focus (simp [*, nle_append, nle_cons, nle_nil, nlss_append, nlss, nls, nl, simVs, simV, simT, simH, simO, renO, innO, ren, inn, rens, inns, renss, innss, rene, inne, bk, hpL, upd, noH, ext, lk, renss_nl, innss_nl, rens_nl, inns_nl, nlss_ints, ints_length, ints_append, ints_one, ints_nil, nlss_inss, inss_length, inss_append, inss_one, inss_nil, nlss_fns, fns_length, fns_append, fns_one, fns_nil, nlss_gbs, gbs_length, gbs_append, gbs_one, gbs_nil, nlss_lays, lays_length, lays_append, lays_one, lays_nil, nlss_strs, strs_length, strs_append, strs_one, strs_nil, strs_take, List.take_take, Nat.min_self, nlss_sits, sits_length, sits_append, sits_one, sits_nil, sits_take, sitRow, acc2_0, accP_0, List.length_append, List.take_of_length_le, List.filter_append, *]; done)); rintro ⟨i, hi⟩; (try dsimp only at hi); rcases case_lt' hi with hlt | ⟨hlt, rfl⟩; rotate_left; rotate_left; have wi := wli hlt (by omega); have hcc := hfc _ (List.getElem_mem hlt))
      | ((with_reducible refine lp_here ?_); refine aw_lpg (fun y : {j : Nat // j ≤ (p.funcs[i]'hlt).code.length} => (⟨[.agg [.list 4 (fns p.funcs), .list 2 (gbs p.globals), .list 1 (lays p.layouts), .int .i64 p.main], .ptr [1] 4 0 0, .nils, .sl [1003] 2 0 (acc2 p.funcs i y.1).length, .int .i64 (i : Int), .int .i64 (y.1 : Int)], [], hpL [([1], .cells 26 4 [[.list 4 (fns p.funcs), .list 2 (gbs p.globals), .list 1 (lays p.layouts), .int .i64 p.main]]), ([1003], .cells 33 2 (sits (acc2 p.funcs i y.1)))], []⟩ : FS)) (fun y => (p.funcs[i]'hlt).code.length - y.1) ⟨0, by simp⟩ (gk_lst [] (fun _ h => h) (by rfl) ?_ ?_ ?_) ?_; (focus (simp [*, nle_append, nle_cons, nle_nil, nlss_append, nlss, nls, nl, simVs, simV, simT, simH, simO, renO, innO, ren, inn, rens, inns, renss, innss, rene, inne, bk, hpL, upd, noH, ext, lk, renss_nl, innss_nl, rens_nl, inns_nl, nlss_ints, ints_length, ints_append, ints_one, ints_nil, nlss_inss, inss_length, inss_append, inss_one, inss_nil, nlss_fns, fns_length, fns_append, fns_one, fns_nil, nlss_gbs, gbs_length, gbs_append, gbs_one, gbs_nil, nlss_lays, lays_length, lays_append, lays_one, lays_nil, nlss_strs, strs_length, strs_append, strs_one, strs_nil, strs_take, List.take_take, Nat.min_self, nlss_sits, sits_length, sits_append, sits_one, sits_nil, sits_take, sitRow, acc2_0, accP_0, List.length_append, List.take_of_length_le, List.filter_append, *]; done)); (focus (simp [*, nle_append, nle_cons, nle_nil, nlss_append, nlss, nls, nl, simVs, simV, simT, simH, simO, renO, innO, ren, inn, rens, inns, renss, innss, rene, inne, bk, hpL, upd, noH, ext, lk, renss_nl, innss_nl, rens_nl, inns_nl, nlss_ints, ints_length, ints_append, ints_one, ints_nil, nlss_inss, inss_length, inss_append, inss_one, inss_nil, nlss_fns, fns_length, fns_append, fns_one, fns_nil, nlss_gbs, gbs_length, gbs_append, gbs_one, gbs_nil, nlss_lays, lays_length, lays_append, lays_one, lays_nil, nlss_strs, strs_length, strs_append, strs_one, strs_nil, strs_take, List.take_take, Nat.min_self, nlss_sits, sits_length, sits_append, sits_one, sits_nil, sits_take, sitRow, acc2_0, accP_0, List.length_append, List.take_of_length_le, List.filter_append]; done)); (focus (simp [*, nle_append, nle_cons, nle_nil, nlss_append, nlss, nls, nl, simVs, simV, simT, simH, simO, renO, innO, ren, inn, rens, inns, renss, innss, rene, inne, bk, hpL, upd, noH, ext, lk, renss_nl, innss_nl, rens_nl, inns_nl, nlss_ints, ints_length, ints_append, ints_one, ints_nil, nlss_inss, inss_length, inss_append, inss_one, inss_nil, nlss_fns, fns_length, fns_append, fns_one, fns_nil, nlss_gbs, gbs_length, gbs_append, gbs_one, gbs_nil, nlss_lays, lays_length, lays_append, lays_one, lays_nil, nlss_strs, strs_length, strs_append, strs_one, strs_nil, strs_take, List.take_take, Nat.min_self, nlss_sits, sits_length, sits_append, sits_one, sits_nil, sits_take, sitRow, acc2_0, accP_0, List.length_append, List.take_of_length_le, List.filter_append, *]; done)); rintro ⟨j, hj⟩; (try dsimp only at hj); rcases case_lt' hj with hlk | ⟨hlk, rfl⟩; rotate_left; have hen := acc2_end hlt; rotate_left; have wk := wli hlk (by omega); have hal := acc2_len hfc hlt hj; have hz : ((acc2 p.funcs i j).length + 1 + ((acc2 p.funcs i j).length + 1) / 4 + 192) * 16 ≤ 140737488355328 := (by omega); have hz2 : (acc2 p.funcs i j).length ≤ 4611686018427387903 := (by omega); cases hac : accOp ((p.funcs[i]'hlt).code[j]'hlk).op)
      | ((with_reducible refine kl_here ?_); refine kloopg (⟨j + 1, by omega⟩) (gk_lst [] (fun _ h => h) (by rfl) ?_ ?_ ?_) (by dsimp only; omega); (focus (have e := acc2_no hlt hlk hac; simp [*, nle_append, nle_cons, nle_nil, nlss_append, nlss, nls, nl, simVs, simV, simT, simH, simO, renO, innO, ren, inn, rens, inns, renss, innss, rene, inne, bk, hpL, upd, noH, ext, lk, renss_nl, innss_nl, rens_nl, inns_nl, nlss_ints, ints_length, ints_append, ints_one, ints_nil, nlss_inss, inss_length, inss_append, inss_one, inss_nil, nlss_fns, fns_length, fns_append, fns_one, fns_nil, nlss_gbs, gbs_length, gbs_append, gbs_one, gbs_nil, nlss_lays, lays_length, lays_append, lays_one, lays_nil, nlss_strs, strs_length, strs_append, strs_one, strs_nil, strs_take, List.take_take, Nat.min_self, nlss_sits, sits_length, sits_append, sits_one, sits_nil, sits_take, sitRow, acc2_0, accP_0, List.length_append, List.take_of_length_le, List.filter_append, *]; done)); (focus (have e := acc2_no hlt hlk hac; simp [*, nle_append, nle_cons, nle_nil, nlss_append, nlss, nls, nl, simVs, simV, simT, simH, simO, renO, innO, ren, inn, rens, inns, renss, innss, rene, inne, bk, hpL, upd, noH, ext, lk, renss_nl, innss_nl, rens_nl, inns_nl, nlss_ints, ints_length, ints_append, ints_one, ints_nil, nlss_inss, inss_length, inss_append, inss_one, inss_nil, nlss_fns, fns_length, fns_append, fns_one, fns_nil, nlss_gbs, gbs_length, gbs_append, gbs_one, gbs_nil, nlss_lays, lays_length, lays_append, lays_one, lays_nil, nlss_strs, strs_length, strs_append, strs_one, strs_nil, strs_take, List.take_take, Nat.min_self, nlss_sits, sits_length, sits_append, sits_one, sits_nil, sits_take, sitRow, acc2_0, accP_0, List.length_append, List.take_of_length_le, List.filter_append, *]; done)); (focus (have e := acc2_no hlt hlk hac; simp [*, nle_append, nle_cons, nle_nil, nlss_append, nlss, nls, nl, simVs, simV, simT, simH, simO, renO, innO, ren, inn, rens, inns, renss, innss, rene, inne, bk, hpL, upd, noH, ext, lk, renss_nl, innss_nl, rens_nl, inns_nl, nlss_ints, ints_length, ints_append, ints_one, ints_nil, nlss_inss, inss_length, inss_append, inss_one, inss_nil, nlss_fns, fns_length, fns_append, fns_one, fns_nil, nlss_gbs, gbs_length, gbs_append, gbs_one, gbs_nil, nlss_lays, lays_length, lays_append, lays_one, lays_nil, nlss_strs, strs_length, strs_append, strs_one, strs_nil, strs_take, List.take_take, Nat.min_self, nlss_sits, sits_length, sits_append, sits_one, sits_nil, sits_take, sitRow, acc2_0, accP_0, List.length_append, List.take_of_length_le, List.filter_append, *]; done)))
      | ((with_reducible refine kl_here ?_); refine kloopg (⟨j + 1, by omega⟩) (gk_lst [([1003], some [43])] (fun _ h => h) (by rfl) ?_ ?_ ?_) (by dsimp only; omega); (focus (have e := acc2_yes hlt hlk hac; simp [*, nle_append, nle_cons, nle_nil, nlss_append, nlss, nls, nl, simVs, simV, simT, simH, simO, renO, innO, ren, inn, rens, inns, renss, innss, rene, inne, bk, hpL, upd, noH, ext, lk, renss_nl, innss_nl, rens_nl, inns_nl, nlss_ints, ints_length, ints_append, ints_one, ints_nil, nlss_inss, inss_length, inss_append, inss_one, inss_nil, nlss_fns, fns_length, fns_append, fns_one, fns_nil, nlss_gbs, gbs_length, gbs_append, gbs_one, gbs_nil, nlss_lays, lays_length, lays_append, lays_one, lays_nil, nlss_strs, strs_length, strs_append, strs_one, strs_nil, strs_take, List.take_take, Nat.min_self, nlss_sits, sits_length, sits_append, sits_one, sits_nil, sits_take, sitRow, acc2_0, accP_0, List.length_append, List.take_of_length_le, List.filter_append, *]; done)); (focus (have e := acc2_yes hlt hlk hac; simp [*, nle_append, nle_cons, nle_nil, nlss_append, nlss, nls, nl, simVs, simV, simT, simH, simO, renO, innO, ren, inn, rens, inns, renss, innss, rene, inne, bk, hpL, upd, noH, ext, lk, renss_nl, innss_nl, rens_nl, inns_nl, nlss_ints, ints_length, ints_append, ints_one, ints_nil, nlss_inss, inss_length, inss_append, inss_one, inss_nil, nlss_fns, fns_length, fns_append, fns_one, fns_nil, nlss_gbs, gbs_length, gbs_append, gbs_one, gbs_nil, nlss_lays, lays_length, lays_append, lays_one, lays_nil, nlss_strs, strs_length, strs_append, strs_one, strs_nil, strs_take, List.take_take, Nat.min_self, nlss_sits, sits_length, sits_append, sits_one, sits_nil, sits_take, sitRow, acc2_0, accP_0, List.length_append, List.take_of_length_le, List.filter_append, *]; done)); (focus (have e := acc2_yes hlt hlk hac; simp [*, nle_append, nle_cons, nle_nil, nlss_append, nlss, nls, nl, simVs, simV, simT, simH, simO, renO, innO, ren, inn, rens, inns, renss, innss, rene, inne, bk, hpL, upd, noH, ext, lk, renss_nl, innss_nl, rens_nl, inns_nl, nlss_ints, ints_length, ints_append, ints_one, ints_nil, nlss_inss, inss_length, inss_append, inss_one, inss_nil, nlss_fns, fns_length, fns_append, fns_one, fns_nil, nlss_gbs, gbs_length, gbs_append, gbs_one, gbs_nil, nlss_lays, lays_length, lays_append, lays_one, lays_nil, nlss_strs, strs_length, strs_append, strs_one, strs_nil, strs_take, List.take_take, Nat.min_self, nlss_sits, sits_length, sits_append, sits_one, sits_nil, sits_take, sitRow, acc2_0, accP_0, List.length_append, List.take_of_length_le, List.filter_append, *]; done)))
      | ((with_reducible refine kl_here ?_); refine kloopg (⟨i + 1, by omega⟩) (gk_lst [] (fun _ h => h) (by rfl) ?_ ?_ ?_) (by dsimp only; omega); (focus (simp [*, nle_append, nle_cons, nle_nil, nlss_append, nlss, nls, nl, simVs, simV, simT, simH, simO, renO, innO, ren, inn, rens, inns, renss, innss, rene, inne, bk, hpL, upd, noH, ext, lk, renss_nl, innss_nl, rens_nl, inns_nl, nlss_ints, ints_length, ints_append, ints_one, ints_nil, nlss_inss, inss_length, inss_append, inss_one, inss_nil, nlss_fns, fns_length, fns_append, fns_one, fns_nil, nlss_gbs, gbs_length, gbs_append, gbs_one, gbs_nil, nlss_lays, lays_length, lays_append, lays_one, lays_nil, nlss_strs, strs_length, strs_append, strs_one, strs_nil, strs_take, List.take_take, Nat.min_self, nlss_sits, sits_length, sits_append, sits_one, sits_nil, sits_take, sitRow, acc2_0, accP_0, List.length_append, List.take_of_length_le, List.filter_append, *]; done)); (focus (simp [*, nle_append, nle_cons, nle_nil, nlss_append, nlss, nls, nl, simVs, simV, simT, simH, simO, renO, innO, ren, inn, rens, inns, renss, innss, rene, inne, bk, hpL, upd, noH, ext, lk, renss_nl, innss_nl, rens_nl, inns_nl, nlss_ints, ints_length, ints_append, ints_one, ints_nil, nlss_inss, inss_length, inss_append, inss_one, inss_nil, nlss_fns, fns_length, fns_append, fns_one, fns_nil, nlss_gbs, gbs_length, gbs_append, gbs_one, gbs_nil, nlss_lays, lays_length, lays_append, lays_one, lays_nil, nlss_strs, strs_length, strs_append, strs_one, strs_nil, strs_take, List.take_take, Nat.min_self, nlss_sits, sits_length, sits_append, sits_one, sits_nil, sits_take, sitRow, acc2_0, accP_0, List.length_append, List.take_of_length_le, List.filter_append, *]; done)); (focus (simp [*, nle_append, nle_cons, nle_nil, nlss_append, nlss, nls, nl, simVs, simV, simT, simH, simO, renO, innO, ren, inn, rens, inns, renss, innss, rene, inne, bk, hpL, upd, noH, ext, lk, renss_nl, innss_nl, rens_nl, inns_nl, nlss_ints, ints_length, ints_append, ints_one, ints_nil, nlss_inss, inss_length, inss_append, inss_one, inss_nil, nlss_fns, fns_length, fns_append, fns_one, fns_nil, nlss_gbs, gbs_length, gbs_append, gbs_one, gbs_nil, nlss_lays, lays_length, lays_append, lays_one, lays_nil, nlss_strs, strs_length, strs_append, strs_one, strs_nil, strs_take, List.take_take, Nat.min_self, nlss_sits, sits_length, sits_append, sits_one, sits_nil, sits_take, sitRow, acc2_0, accP_0, List.length_append, List.take_of_length_le, List.filter_append, *]; done)))
      | with_reducible refine aw_sq ?_
      | with_reducible refine aw_blk ?_
      | with_reducible refine aw_reg fun K hK => ?_
      | with_reducible refine aw_skip ?_
      | with_reducible refine aw_ret ?_
      | with_reducible refine aw_exit ?_
      | with_reducible refine aw_cnd fun T E hT hE => ?_
      | with_reducible refine kseq ?_
      | with_reducible refine kseq_r ?_
      | with_reducible refine kseq_e ?_
      | with_reducible refine kblk ?_
      | with_reducible refine kblk_r ?_
      | with_reducible refine kblk_hit ?_
      | with_reducible refine kblk_miss rfl ?_
      | with_reducible refine kloop_r ?_
      | with_reducible refine kloop_e ?_
      | with_reducible refine pfin_r ?_
      | with_reducible refine pfin_n ?_
      | with_reducible refine nfin_r ?_
      | with_reducible refine nfin_n ?_
      | with_reducible refine gop_t ?_
      | with_reducible refine gop_f ?_
      | with_reducible refine cond_t ?_
      | with_reducible refine cond_f ?_
      | with_reducible refine gsplit_nd (fun h => ?_) (fun h => ?_)
      | with_reducible refine gsplit_d (fun h => ?_) (fun h => ?_)
      | with_reducible refine hgsplit_nd (fun h => ?_) (fun h => ?_)
      | with_reducible refine hgsplit_d (fun h => ?_) (fun h => ?_)
      | with_reducible refine cond_nd (fun h => ?_) (fun h => ?_)
      | with_reducible refine cond_d (fun h => ?_) (fun h => ?_)
      | with_reducible refine gsplit_n (fun h => ?_) (fun h => ?_)
      | with_reducible refine gsplit (fun h => ?_) (fun h => ?_)
      | with_reducible refine hgsplit_n (fun h => ?_) (fun h => ?_)
      | with_reducible refine hgsplit (fun h => ?_) (fun h => ?_)
      | with_reducible refine cond_n (fun h => ?_) (fun h => ?_)
      | with_reducible refine cond_b (fun h => ?_) (fun h => ?_)
      | with_reducible refine call_pc (c21 p hf hg hl hb hfc) (by simp [nls, nl, *, nlss_inss, nlss_fns, nlss_gbs, nlss_lays, nlss_ints]) ?_
      | with_reducible refine hpc (c21 p hf hg hl hb hfc) (by simp [nls, nl, *, nlss_inss, nlss_fns, nlss_gbs, nlss_lays, nlss_ints]) ?_
      | with_reducible refine call_pc (c22 _) (by simp [nls, nl, *, nlss_inss, nlss_fns, nlss_gbs, nlss_lays, nlss_ints]) ?_
      | with_reducible refine hpc (c22 _) (by simp [nls, nl, *, nlss_inss, nlss_fns, nlss_gbs, nlss_lays, nlss_ints]) ?_
      | with_reducible refine hnx_go rfl (by decide) fresh_noH ?_
      | with_reducible refine hnx_go rfl (by decide) (fresh_upd (by simp [upd, noH, ext, hpL_at, hpL_nil, *])) ?_
      | with_reducible refine awH_go (by decide) (by kernel_rfl) ?_
      | with_reducible refine awH_tail (by decide) ?_
      | (with_reducible refine Kont.go hK ?_; clear hK K)
      | (with_reducible refine KT.go hT ?_; clear hT hE T E)
      | (with_reducible refine KT.go hE ?_; clear hT hE T E)
      | simp [*, -List.all_flatten, -List.all_eq_true, ext_noH, FS.init, FS.get, FS.put, FS.clean, lk, upd, ext, noH, cv1, cv, rv, FV.isU, FV.cellV, FV.cellsL, FV.storable, fLoad, fField, fIndex, fLen, fBin, fUn, fConv, natOf, fSlice, setFrom, fillA, pv, pv1, pv2, wv, wAlloc, wBox, wStore, wBuildS, wMakeS, wMakeM, wMapU, wApp, srcA, chunks, upds, List.foldl_cons, List.foldl_nil, fLook, fNil, fUn2, fBits, fCmp, fCmpB, eqK, eqCells, eqV, FV.kd, eqNil, nilV, putD, fStep, callee?, guardV, keepT, lastDst, condV, resV, resL, tupOf, StK, wOps_nil, wOps_cons, GOp_t, GOp_f, DoOp_n, DoOp_c, hMake, HG_t, HG_f, HDo_n, HDo_c, nl, nls, nlss, frz, frzs, frzR, asR, asRs, Fend, PFin_s, frzRes_s, frzNRes_s, frzN, nf, nfs, hpL_at, hpL_nil, keyOk, fBuildA, f_Program_eqGuardType_Program_depth_3, f_arE_33, f_arT_22, f_arT_47, f_boolT_3, f_byT_3, f_byT_33, f_byT_49, f_byT_51, f_byT_53, f_byT_73, f_byT_9, f_fldT_26_0, f_fldT_49_3, f_fldT_51_0, f_fnOk_21, f_fnOk_22, f_intT_3, f_kdT_3, f_kdT_33, f_kdT_4, f_kdT_5, f_kdT_9, f_ldT_147, f_ldT_174, f_ldT_22, f_ldT_23, f_ldT_24, f_ldT_26, f_ldT_3, f_ldT_33, f_ldT_47, f_ldT_49, f_ldT_51, f_ldT_53, f_ldT_73, f_ldT_78, f_ldT_9, f_nilT_3, f_placesT_33, f_slT_22, f_slT_29, f_slT_47, f_stT_3, f_stT_33, f_stT_4, f_stT_5, f_stT_9, f_strT_22, f_strT_29, f_strT_47, f_szT_147, f_szT_174, f_szT_22, f_szT_24, f_szT_26, f_szT_3, f_szT_47, f_szT_49, f_szT_51, f_szT_73, f_szT_78, f_zeroC_147, f_zeroC_150, f_zeroC_174, f_zeroC_26, f_zeroC_3, f_zeroC_33, f_zeroC_49, f_zeroC_51, f_zeroC_53, f_zeroC_73, f_zeroC_78, f_zeroC_9, ints_length, inss_length, fns_length, gbs_length, lays_length, nlss_ints, nlss_inss, nlss_fns, nlss_gbs, nlss_lays, ints_at, inss_at, fns_at, gbs_at, lays_at, intRow, Ins.row, FnD.row, Gb.row, layRow, Int.le_sub_one_iff, sites, sits_length, sits_nil, List.take_length, nlss_sits, asR, frz, frzR, sits_take]
    all_goals trace_state
end Go.Gc
