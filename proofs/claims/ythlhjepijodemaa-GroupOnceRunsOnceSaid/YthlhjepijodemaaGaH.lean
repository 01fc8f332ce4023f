/- One of the texts of a proof by an abstract machine over the model. -/
import Derived.Test.YthlhjepijodemaaGaG
set_option linter.unusedSimpArgs false
set_option linter.unusedVariables false
namespace Go.Ga
open Go Go.AM Go.Proofs
set_option maxRecDepth 100000
set_option maxHeartbeats 4000000
theorem same_self (a b k o : Int) (rs : List Int) (n : Int) : same a b k o rs n a b k o rs n = true := by simp [same]
theorem add_rs (a b k o : Int) (rs : List Int) (n d : Int) : (add a b k o rs n d).1.rs = [] := by unfold add; (repeat' split) <;> rfl
theorem begin_rs (a b k o : Int) (rs : List Int) (n d : Int) : (begin_ a b k o rs n d).1.rs = [] := by unfold begin_; (repeat' split) <;> rfl
theorem end_rs (a b k o : Int) (rs : List Int) (n : Int) : (end_ a b k o rs n).1.rs = [] := by unfold end_; (repeat' split) <;> rfl
theorem c3 (a b k o : Int) (rs : List Int) (n : Int) (x y : Int) : OC Try.prog 3 [sync a b k o rs n, .int .i64 x, .int .i64 y] (.bool true) (gone [sync a b k o rs n, .int .i64 x, .int .i64 y]) := by
  refine OC_pure (res := [.tmp 6]) 7 36 [] (fn := Try.f3) (by kernel_rfl) (by rfl) (by rfl) (by rfl) (by simp) (by decide) (by decide) ?_
  repeat' first
    | with_reducible refine aw_sq ?_
    | with_reducible refine aw_blk ?_
    | with_reducible refine aw_reg fun K hK => ?_
    | with_reducible refine aw_dr 23 t_mix (by kernel_rfl) fun K hK => ?_
    | with_reducible refine aw_skip ?_
    | with_reducible refine aw_ret ?_
    | with_reducible refine aw_exit ?_
    | with_reducible refine aw_cnd fun T E hT hE => ?_
    | with_reducible refine kseq ?_
    | with_reducible refine kseq_r ?_
    | with_reducible refine kseq_e ?_
    | with_reducible refine kblk ?_
    | with_reducible refine kblk_r ?_
    | with_reducible refine kblk_hit ?_
    | with_reducible refine kblk_miss rfl ?_
    | with_reducible refine kloop_r ?_
    | with_reducible refine kloop_e ?_
    | with_reducible refine kend_r ?_
    | with_reducible refine kend_n ?_
    | with_reducible refine gop_t ?_
    | with_reducible refine gop_f ?_
    | with_reducible refine hb_t ?_
    | with_reducible refine hb_f ?_
    | with_reducible refine cond_t ?_
    | with_reducible refine cond_f ?_
    | with_reducible refine gsplit_nd (fun h => ?_) (fun h => ?_)
    | with_reducible refine gsplit_d (fun h => ?_) (fun h => ?_)
    | with_reducible refine hbsplit_nd (fun h => ?_) (fun h => ?_)
    | with_reducible refine hbsplit_d (fun h => ?_) (fun h => ?_)
    | with_reducible refine cond_nd (fun h => ?_) (fun h => ?_)
    | with_reducible refine cond_d (fun h => ?_) (fun h => ?_)
    | with_reducible refine gsplit_n (fun h => ?_) (fun h => ?_)
    | with_reducible refine gsplit (fun h => ?_) (fun h => ?_)
    | with_reducible refine hbsplit_n (fun h => ?_) (fun h => ?_)
    | with_reducible refine hbsplit (fun h => ?_) (fun h => ?_)
    | with_reducible refine cond_n (fun h => ?_) (fun h => ?_)
    | with_reducible refine cond_b (fun h => ?_) (fun h => ?_)
    | with_reducible refine call_go (c9) (by simp [scalar]) ?_
    | with_reducible refine hcallB_go (c9) (by simp [scalar]) ?_
    | with_reducible refine call_go (c11 _ _) (by simp [scalar]) ?_
    | with_reducible refine hcallB_go (c11 _ _) (by simp [scalar]) ?_
    | with_reducible refine call_go (c12 _ _) (by simp [scalar]) ?_
    | with_reducible refine hcallB_go (c12 _ _) (by simp [scalar]) ?_
    | with_reducible refine call_go (c13 _ _) (by simp [scalar]) ?_
    | with_reducible refine hcallB_go (c13 _ _) (by simp [scalar]) ?_
    | with_reducible refine call_go (c14 _ _) (by simp [scalar]) ?_
    | with_reducible refine hcallB_go (c14 _ _) (by simp [scalar]) ?_
    | with_reducible refine call_go (c15 _ _ _ _ _ _) (by simp [scalar]) ?_
    | with_reducible refine hcallB_go (c15 _ _ _ _ _ _) (by simp [scalar]) ?_
    | with_reducible refine call_go (c16 _ _ _ _ _ _) (by simp [scalar]) ?_
    | with_reducible refine hcallB_go (c16 _ _ _ _ _ _) (by simp [scalar]) ?_
    | with_reducible refine call_go (c10 _ _ _ _ _ _ _ _ _ _ _ _ (by first | (simp; done) | omega)) (by simp [scalar]) ?_
    | with_reducible refine hcallB_go (c10 _ _ _ _ _ _ _ _ _ _ _ _ (by first | (simp; done) | omega)) (by simp [scalar]) ?_
    | with_reducible refine awH_goB (by decide) (by kernel_rfl) ?_
    | with_reducible refine awH_tail (by decide) ?_
    | with_reducible refine awH_nil ?_
    | (with_reducible change LateK _ _ _ _ _ _ _; refine late_go _ _ _ rfl rfl rfl ?_ ?_)
    | (with_reducible refine Kont.go hK ?_; clear hK K)
    | (with_reducible refine KT.go hT ?_; clear hT hE T E)
    | (with_reducible refine KT.go hE ?_; clear hT hE T E)
    | simp [*, Fend, St.init, St.get, St.put, St.apply, St.clean, putAll, lk, liveB, AV.pureC, AV.pureA, AV.pure, AV.isH, AV.isOwn, cv, ro, AV.seen, RO.cont, RO.take, AV.cellsL, AV.isU, bump, cellAt, nodeAt, setCell1, setAt, fz, fzs, fzss, gone, scalar, putD, putA, aMove, AV.ownify, aAssign, aPick, aBin, aBinOp, AV.cellV, storeL, aUn, aUnOp, aConv, aConvert, aExtract, aAlloc, AV.storable, aBox, collect, aField, aLoad, storeB, aStore, aIndex, aLen, aMins, conts, aMin, setFrom, fillA, takeL, aBuild, aStepF, plainL, zipT, guardV, callee?, contsR, plainR, purL, qv, dOk, hStepB, lastDst, keepT, noHL, condV, resV, resL, tupOf, StK, HSt, hStep, awOps_nil, awOps_cons, GOp_t, GOp_f, DoOp_n, DoOp_call, HGB_t, HGB_f, HKB_n, HKB_c, HSt_s, StK_s, int_beq, int_bne, min_if, f_boolT_3, f_boolT_4, f_fldT_24_4, f_fnOk_10, f_fnOk_11, f_fnOk_12, f_fnOk_13, f_fnOk_14, f_fnOk_15, f_fnOk_16, f_fnOk_9, f_intT_3, f_intT_4, f_ldT_22, f_ldT_24, f_slT_22, f_strT_22, f_szT_24, int_beq, int_bne, min_if, ints_length, ints_nil, S.av, leL, same_self, add_rs, begin_rs, end_rs, newG, newO]

theorem c4 (a b k o : Int) (rs : List Int) (n : Int) (d : Int) : OC Try.prog 4 [sync a b k o rs n, .int .i64 d] (.bool true) (gone [sync a b k o rs n, .int .i64 d]) := by
  refine OC_pure (res := [.tmp 4]) 9 42 [] (fn := Try.f4) (by kernel_rfl) (by rfl) (by rfl) (by rfl) (by simp) (by decide) (by decide) ?_
  repeat' first
    | with_reducible refine aw_sq ?_
    | with_reducible refine aw_blk ?_
    | with_reducible refine aw_reg fun K hK => ?_
    | with_reducible refine aw_dr 15 t_mix (by kernel_rfl) fun K hK => ?_
    | with_reducible refine aw_skip ?_
    | with_reducible refine aw_ret ?_
    | with_reducible refine aw_exit ?_
    | with_reducible refine aw_cnd fun T E hT hE => ?_
    | with_reducible refine kseq ?_
    | with_reducible refine kseq_r ?_
    | with_reducible refine kseq_e ?_
    | with_reducible refine kblk ?_
    | with_reducible refine kblk_r ?_
    | with_reducible refine kblk_hit ?_
    | with_reducible refine kblk_miss rfl ?_
    | with_reducible refine kloop_r ?_
    | with_reducible refine kloop_e ?_
    | with_reducible refine kend_r ?_
    | with_reducible refine kend_n ?_
    | with_reducible refine gop_t ?_
    | with_reducible refine gop_f ?_
    | with_reducible refine hb_t ?_
    | with_reducible refine hb_f ?_
    | with_reducible refine cond_t ?_
    | with_reducible refine cond_f ?_
    | with_reducible refine gsplit_nd (fun h => ?_) (fun h => ?_)
    | with_reducible refine gsplit_d (fun h => ?_) (fun h => ?_)
    | with_reducible refine hbsplit_nd (fun h => ?_) (fun h => ?_)
    | with_reducible refine hbsplit_d (fun h => ?_) (fun h => ?_)
    | with_reducible refine cond_nd (fun h => ?_) (fun h => ?_)
    | with_reducible refine cond_d (fun h => ?_) (fun h => ?_)
    | with_reducible refine gsplit_n (fun h => ?_) (fun h => ?_)
    | with_reducible refine gsplit (fun h => ?_) (fun h => ?_)
    | with_reducible refine hbsplit_n (fun h => ?_) (fun h => ?_)
    | with_reducible refine hbsplit (fun h => ?_) (fun h => ?_)
    | with_reducible refine cond_n (fun h => ?_) (fun h => ?_)
    | with_reducible refine cond_b (fun h => ?_) (fun h => ?_)
    | with_reducible refine call_go (c9) (by simp [scalar]) ?_
    | with_reducible refine hcallB_go (c9) (by simp [scalar]) ?_
    | with_reducible refine call_go (c17 _ _ _ _ _ _ _) (by simp [scalar]) ?_
    | with_reducible refine hcallB_go (c17 _ _ _ _ _ _ _) (by simp [scalar]) ?_
    | with_reducible refine call_go (c18 _ _ _ _ _ _ _) (by simp [scalar]) ?_
    | with_reducible refine hcallB_go (c18 _ _ _ _ _ _ _) (by simp [scalar]) ?_
    | with_reducible refine call_go (c19 _ _ _ _ _ _) (by simp [scalar]) ?_
    | with_reducible refine hcallB_go (c19 _ _ _ _ _ _) (by simp [scalar]) ?_
    | with_reducible refine call_go (c20 _ _ _ _ _ _) (by simp [scalar]) ?_
    | with_reducible refine hcallB_go (c20 _ _ _ _ _ _) (by simp [scalar]) ?_
    | with_reducible refine call_go (c10 _ _ _ _ _ _ _ _ _ _ _ _ (by first | (simp; done) | omega)) (by simp [scalar]) ?_
    | with_reducible refine hcallB_go (c10 _ _ _ _ _ _ _ _ _ _ _ _ (by first | (simp; done) | omega)) (by simp [scalar]) ?_
    | with_reducible refine awH_goB (by decide) (by kernel_rfl) ?_
    | with_reducible refine awH_tail (by decide) ?_
    | with_reducible refine awH_nil ?_
    | (with_reducible change LateK _ _ _ _ _ _ _; refine late_go _ _ _ rfl rfl rfl ?_ ?_)
    | (with_reducible refine Kont.go hK ?_; clear hK K)
    | (with_reducible refine KT.go hT ?_; clear hT hE T E)
    | (with_reducible refine KT.go hE ?_; clear hT hE T E)
    | simp [*, Fend, St.init, St.get, St.put, St.apply, St.clean, putAll, lk, liveB, AV.pureC, AV.pureA, AV.pure, AV.isH, AV.isOwn, cv, ro, AV.seen, RO.cont, RO.take, AV.cellsL, AV.isU, bump, cellAt, nodeAt, setCell1, setAt, fz, fzs, fzss, gone, scalar, putD, putA, aMove, AV.ownify, aAssign, aPick, aBin, aBinOp, AV.cellV, storeL, aUn, aUnOp, aConv, aConvert, aExtract, aAlloc, AV.storable, aBox, collect, aField, aLoad, storeB, aStore, aIndex, aLen, aMins, conts, aMin, setFrom, fillA, takeL, aBuild, aStepF, plainL, zipT, guardV, callee?, contsR, plainR, purL, qv, dOk, hStepB, lastDst, keepT, noHL, condV, resV, resL, tupOf, StK, HSt, hStep, awOps_nil, awOps_cons, GOp_t, GOp_f, DoOp_n, DoOp_call, HGB_t, HGB_f, HKB_n, HKB_c, HSt_s, StK_s, int_beq, int_bne, min_if, f_boolT_3, f_boolT_30, f_boolT_4, f_fldT_24_4, f_fnOk_10, f_fnOk_17, f_fnOk_18, f_fnOk_19, f_fnOk_20, f_fnOk_9, f_intT_3, f_intT_30, f_intT_4, f_ldT_22, f_ldT_24, f_slT_22, f_strT_22, f_szT_24, f_zeroC_24, int_beq, int_bne, min_if, ints_length, ints_nil, S.av, leL, same_self, add_rs, begin_rs, end_rs]

end Go.Ga
