/- One of the texts of a proof by an abstract machine over the model. -/
import Derived.Test.YthlhjepijodemaaGaFacts
set_option linter.unusedSimpArgs false
set_option linter.unusedVariables false
namespace Go.Ga
open Go Go.AM Go.Proofs
set_option maxRecDepth 100000
set_option maxHeartbeats 4000000
theorem c11 (a b : Int) : OC Try.prog 11 [.int .i64 a, .int .i64 b] (S.av (newG a b)) (gone [.int .i64 a, .int .i64 b]) := by
  refine OC_pure (res := [.cell 4 24]) 5 8 [] (fn := Try.f11) (by kernel_rfl) (by rfl) (by rfl) (by rfl) (by simp) (by decide) (by decide) ?_
  repeat' first
    | with_reducible refine aw_sq ?_
    | with_reducible refine aw_blk ?_
    | with_reducible refine aw_reg fun K hK => ?_
    | with_reducible refine aw_skip ?_
    | with_reducible refine aw_ret ?_
    | with_reducible refine aw_exit ?_
    | with_reducible refine aw_cnd fun T E hT hE => ?_
    | with_reducible refine kseq ?_
    | with_reducible refine kseq_r ?_
    | with_reducible refine kseq_e ?_
    | with_reducible refine kblk ?_
    | with_reducible refine kblk_r ?_
    | with_reducible refine kblk_hit ?_
    | with_reducible refine kblk_miss rfl ?_
    | with_reducible refine kloop_r ?_
    | with_reducible refine kloop_e ?_
    | with_reducible refine kend_r ?_
    | with_reducible refine kend_n ?_
    | with_reducible refine gop_t ?_
    | with_reducible refine gop_f ?_
    | with_reducible refine hb_t ?_
    | with_reducible refine hb_f ?_
    | with_reducible refine cond_t ?_
    | with_reducible refine cond_f ?_
    | with_reducible refine gsplit_nd (fun h => ?_) (fun h => ?_)
    | with_reducible refine gsplit_d (fun h => ?_) (fun h => ?_)
    | with_reducible refine hbsplit_nd (fun h => ?_) (fun h => ?_)
    | with_reducible refine hbsplit_d (fun h => ?_) (fun h => ?_)
    | with_reducible refine cond_nd (fun h => ?_) (fun h => ?_)
    | with_reducible refine cond_d (fun h => ?_) (fun h => ?_)
    | with_reducible refine gsplit_n (fun h => ?_) (fun h => ?_)
    | with_reducible refine gsplit (fun h => ?_) (fun h => ?_)
    | with_reducible refine hbsplit_n (fun h => ?_) (fun h => ?_)
    | with_reducible refine hbsplit (fun h => ?_) (fun h => ?_)
    | with_reducible refine cond_n (fun h => ?_) (fun h => ?_)
    | with_reducible refine cond_b (fun h => ?_) (fun h => ?_)
    | with_reducible refine awH_goB (by decide) (by kernel_rfl) ?_
    | with_reducible refine awH_tail (by decide) ?_
    | with_reducible refine awH_nil ?_
    | (with_reducible change LateK _ _ _ _ _ _ _; refine late_go _ _ _ rfl rfl rfl ?_ ?_)
    | (with_reducible refine Kont.go hK ?_; clear hK K)
    | (with_reducible refine KT.go hT ?_; clear hT hE T E)
    | (with_reducible refine KT.go hE ?_; clear hT hE T E)
    | simp [*, Fend, St.init, St.get, St.put, St.apply, St.clean, putAll, lk, liveB, AV.pureC, AV.pureA, AV.pure, AV.isH, AV.isOwn, cv, ro, AV.seen, RO.cont, RO.take, AV.cellsL, AV.isU, bump, cellAt, nodeAt, setCell1, setAt, fz, fzs, fzss, gone, scalar, putD, putA, aMove, AV.ownify, aAssign, aPick, aBin, aBinOp, AV.cellV, storeL, aUn, aUnOp, aConv, aConvert, aExtract, aAlloc, AV.storable, aBox, collect, aField, aLoad, storeB, aStore, aIndex, aLen, aMins, conts, aMin, setFrom, fillA, takeL, aBuild, aStepF, plainL, zipT, guardV, callee?, contsR, plainR, purL, qv, dOk, hStepB, lastDst, keepT, noHL, condV, resV, resL, tupOf, StK, HSt, hStep, awOps_nil, awOps_cons, GOp_t, GOp_f, DoOp_n, DoOp_call, HGB_t, HGB_f, HKB_n, HKB_c, HSt_s, StK_s, int_beq, int_bne, min_if, f_ldT_24, f_placesT_24, f_szT_24, f_zeroC_24, int_beq, int_bne, min_if, ints_length, ints_nil, S.av, newG]

theorem c12 (a b : Int) : OC Try.prog 12 [.int .i64 a, .int .i64 b] (S.av (newG a b)) (gone [.int .i64 a, .int .i64 b]) := by
  refine OC_pure (res := [.cell 4 24]) 5 8 [] (fn := Try.f12) (by kernel_rfl) (by rfl) (by rfl) (by rfl) (by simp) (by decide) (by decide) ?_
  repeat' first
    | with_reducible refine aw_sq ?_
    | with_reducible refine aw_blk ?_
    | with_reducible refine aw_reg fun K hK => ?_
    | with_reducible refine aw_skip ?_
    | with_reducible refine aw_ret ?_
    | with_reducible refine aw_exit ?_
    | with_reducible refine aw_cnd fun T E hT hE => ?_
    | with_reducible refine kseq ?_
    | with_reducible refine kseq_r ?_
    | with_reducible refine kseq_e ?_
    | with_reducible refine kblk ?_
    | with_reducible refine kblk_r ?_
    | with_reducible refine kblk_hit ?_
    | with_reducible refine kblk_miss rfl ?_
    | with_reducible refine kloop_r ?_
    | with_reducible refine kloop_e ?_
    | with_reducible refine kend_r ?_
    | with_reducible refine kend_n ?_
    | with_reducible refine gop_t ?_
    | with_reducible refine gop_f ?_
    | with_reducible refine hb_t ?_
    | with_reducible refine hb_f ?_
    | with_reducible refine cond_t ?_
    | with_reducible refine cond_f ?_
    | with_reducible refine gsplit_nd (fun h => ?_) (fun h => ?_)
    | with_reducible refine gsplit_d (fun h => ?_) (fun h => ?_)
    | with_reducible refine hbsplit_nd (fun h => ?_) (fun h => ?_)
    | with_reducible refine hbsplit_d (fun h => ?_) (fun h => ?_)
    | with_reducible refine cond_nd (fun h => ?_) (fun h => ?_)
    | with_reducible refine cond_d (fun h => ?_) (fun h => ?_)
    | with_reducible refine gsplit_n (fun h => ?_) (fun h => ?_)
    | with_reducible refine gsplit (fun h => ?_) (fun h => ?_)
    | with_reducible refine hbsplit_n (fun h => ?_) (fun h => ?_)
    | with_reducible refine hbsplit (fun h => ?_) (fun h => ?_)
    | with_reducible refine cond_n (fun h => ?_) (fun h => ?_)
    | with_reducible refine cond_b (fun h => ?_) (fun h => ?_)
    | with_reducible refine awH_goB (by decide) (by kernel_rfl) ?_
    | with_reducible refine awH_tail (by decide) ?_
    | with_reducible refine awH_nil ?_
    | (with_reducible change LateK _ _ _ _ _ _ _; refine late_go _ _ _ rfl rfl rfl ?_ ?_)
    | (with_reducible refine Kont.go hK ?_; clear hK K)
    | (with_reducible refine KT.go hT ?_; clear hT hE T E)
    | (with_reducible refine KT.go hE ?_; clear hT hE T E)
    | simp [*, Fend, St.init, St.get, St.put, St.apply, St.clean, putAll, lk, liveB, AV.pureC, AV.pureA, AV.pure, AV.isH, AV.isOwn, cv, ro, AV.seen, RO.cont, RO.take, AV.cellsL, AV.isU, bump, cellAt, nodeAt, setCell1, setAt, fz, fzs, fzss, gone, scalar, putD, putA, aMove, AV.ownify, aAssign, aPick, aBin, aBinOp, AV.cellV, storeL, aUn, aUnOp, aConv, aConvert, aExtract, aAlloc, AV.storable, aBox, collect, aField, aLoad, storeB, aStore, aIndex, aLen, aMins, conts, aMin, setFrom, fillA, takeL, aBuild, aStepF, plainL, zipT, guardV, callee?, contsR, plainR, purL, qv, dOk, hStepB, lastDst, keepT, noHL, condV, resV, resL, tupOf, StK, HSt, hStep, awOps_nil, awOps_cons, GOp_t, GOp_f, DoOp_n, DoOp_call, HGB_t, HGB_f, HKB_n, HKB_c, HSt_s, StK_s, int_beq, int_bne, min_if, f_ldT_24, f_placesT_24, f_szT_24, f_zeroC_24, int_beq, int_bne, min_if, ints_length, ints_nil, S.av, newG]

theorem c13 (a b : Int) : OC Try.prog 13 [.int .i64 a, .int .i64 b] (S.av (newO a b)) (gone [.int .i64 a, .int .i64 b]) := by
  refine OC_pure (res := [.cell 4 24]) 5 8 [] (fn := Try.f13) (by kernel_rfl) (by rfl) (by rfl) (by rfl) (by simp) (by decide) (by decide) ?_
  repeat' first
    | with_reducible refine aw_sq ?_
    | with_reducible refine aw_blk ?_
    | with_reducible refine aw_reg fun K hK => ?_
    | with_reducible refine aw_skip ?_
    | with_reducible refine aw_ret ?_
    | with_reducible refine aw_exit ?_
    | with_reducible refine aw_cnd fun T E hT hE => ?_
    | with_reducible refine kseq ?_
    | with_reducible refine kseq_r ?_
    | with_reducible refine kseq_e ?_
    | with_reducible refine kblk ?_
    | with_reducible refine kblk_r ?_
    | with_reducible refine kblk_hit ?_
    | with_reducible refine kblk_miss rfl ?_
    | with_reducible refine kloop_r ?_
    | with_reducible refine kloop_e ?_
    | with_reducible refine kend_r ?_
    | with_reducible refine kend_n ?_
    | with_reducible refine gop_t ?_
    | with_reducible refine gop_f ?_
    | with_reducible refine hb_t ?_
    | with_reducible refine hb_f ?_
    | with_reducible refine cond_t ?_
    | with_reducible refine cond_f ?_
    | with_reducible refine gsplit_nd (fun h => ?_) (fun h => ?_)
    | with_reducible refine gsplit_d (fun h => ?_) (fun h => ?_)
    | with_reducible refine hbsplit_nd (fun h => ?_) (fun h => ?_)
    | with_reducible refine hbsplit_d (fun h => ?_) (fun h => ?_)
    | with_reducible refine cond_nd (fun h => ?_) (fun h => ?_)
    | with_reducible refine cond_d (fun h => ?_) (fun h => ?_)
    | with_reducible refine gsplit_n (fun h => ?_) (fun h => ?_)
    | with_reducible refine gsplit (fun h => ?_) (fun h => ?_)
    | with_reducible refine hbsplit_n (fun h => ?_) (fun h => ?_)
    | with_reducible refine hbsplit (fun h => ?_) (fun h => ?_)
    | with_reducible refine cond_n (fun h => ?_) (fun h => ?_)
    | with_reducible refine cond_b (fun h => ?_) (fun h => ?_)
    | with_reducible refine awH_goB (by decide) (by kernel_rfl) ?_
    | with_reducible refine awH_tail (by decide) ?_
    | with_reducible refine awH_nil ?_
    | (with_reducible change LateK _ _ _ _ _ _ _; refine late_go _ _ _ rfl rfl rfl ?_ ?_)
    | (with_reducible refine Kont.go hK ?_; clear hK K)
    | (with_reducible refine KT.go hT ?_; clear hT hE T E)
    | (with_reducible refine KT.go hE ?_; clear hT hE T E)
    | simp [*, Fend, St.init, St.get, St.put, St.apply, St.clean, putAll, lk, liveB, AV.pureC, AV.pureA, AV.pure, AV.isH, AV.isOwn, cv, ro, AV.seen, RO.cont, RO.take, AV.cellsL, AV.isU, bump, cellAt, nodeAt, setCell1, setAt, fz, fzs, fzss, gone, scalar, putD, putA, aMove, AV.ownify, aAssign, aPick, aBin, aBinOp, AV.cellV, storeL, aUn, aUnOp, aConv, aConvert, aExtract, aAlloc, AV.storable, aBox, collect, aField, aLoad, storeB, aStore, aIndex, aLen, aMins, conts, aMin, setFrom, fillA, takeL, aBuild, aStepF, plainL, zipT, guardV, callee?, contsR, plainR, purL, qv, dOk, hStepB, lastDst, keepT, noHL, condV, resV, resL, tupOf, StK, HSt, hStep, awOps_nil, awOps_cons, GOp_t, GOp_f, DoOp_n, DoOp_call, HGB_t, HGB_f, HKB_n, HKB_c, HSt_s, StK_s, int_beq, int_bne, min_if, f_ldT_24, f_placesT_24, f_szT_24, f_zeroC_24, int_beq, int_bne, min_if, ints_length, ints_nil, S.av, newO]

theorem c14 (a b : Int) : OC Try.prog 14 [.int .i64 a, .int .i64 b] (S.av (newO a b)) (gone [.int .i64 a, .int .i64 b]) := by
  refine OC_pure (res := [.cell 4 24]) 5 8 [] (fn := Try.f14) (by kernel_rfl) (by rfl) (by rfl) (by rfl) (by simp) (by decide) (by decide) ?_
  repeat' first
    | with_reducible refine aw_sq ?_
    | with_reducible refine aw_blk ?_
    | with_reducible refine aw_reg fun K hK => ?_
    | with_reducible refine aw_skip ?_
    | with_reducible refine aw_ret ?_
    | with_reducible refine aw_exit ?_
    | with_reducible refine aw_cnd fun T E hT hE => ?_
    | with_reducible refine kseq ?_
    | with_reducible refine kseq_r ?_
    | with_reducible refine kseq_e ?_
    | with_reducible refine kblk ?_
    | with_reducible refine kblk_r ?_
    | with_reducible refine kblk_hit ?_
    | with_reducible refine kblk_miss rfl ?_
    | with_reducible refine kloop_r ?_
    | with_reducible refine kloop_e ?_
    | with_reducible refine kend_r ?_
    | with_reducible refine kend_n ?_
    | with_reducible refine gop_t ?_
    | with_reducible refine gop_f ?_
    | with_reducible refine hb_t ?_
    | with_reducible refine hb_f ?_
    | with_reducible refine cond_t ?_
    | with_reducible refine cond_f ?_
    | with_reducible refine gsplit_nd (fun h => ?_) (fun h => ?_)
    | with_reducible refine gsplit_d (fun h => ?_) (fun h => ?_)
    | with_reducible refine hbsplit_nd (fun h => ?_) (fun h => ?_)
    | with_reducible refine hbsplit_d (fun h => ?_) (fun h => ?_)
    | with_reducible refine cond_nd (fun h => ?_) (fun h => ?_)
    | with_reducible refine cond_d (fun h => ?_) (fun h => ?_)
    | with_reducible refine gsplit_n (fun h => ?_) (fun h => ?_)
    | with_reducible refine gsplit (fun h => ?_) (fun h => ?_)
    | with_reducible refine hbsplit_n (fun h => ?_) (fun h => ?_)
    | with_reducible refine hbsplit (fun h => ?_) (fun h => ?_)
    | with_reducible refine cond_n (fun h => ?_) (fun h => ?_)
    | with_reducible refine cond_b (fun h => ?_) (fun h => ?_)
    | with_reducible refine awH_goB (by decide) (by kernel_rfl) ?_
    | with_reducible refine awH_tail (by decide) ?_
    | with_reducible refine awH_nil ?_
    | (with_reducible change LateK _ _ _ _ _ _ _; refine late_go _ _ _ rfl rfl rfl ?_ ?_)
    | (with_reducible refine Kont.go hK ?_; clear hK K)
    | (with_reducible refine KT.go hT ?_; clear hT hE T E)
    | (with_reducible refine KT.go hE ?_; clear hT hE T E)
    | simp [*, Fend, St.init, St.get, St.put, St.apply, St.clean, putAll, lk, liveB, AV.pureC, AV.pureA, AV.pure, AV.isH, AV.isOwn, cv, ro, AV.seen, RO.cont, RO.take, AV.cellsL, AV.isU, bump, cellAt, nodeAt, setCell1, setAt, fz, fzs, fzss, gone, scalar, putD, putA, aMove, AV.ownify, aAssign, aPick, aBin, aBinOp, AV.cellV, storeL, aUn, aUnOp, aConv, aConvert, aExtract, aAlloc, AV.storable, aBox, collect, aField, aLoad, storeB, aStore, aIndex, aLen, aMins, conts, aMin, setFrom, fillA, takeL, aBuild, aStepF, plainL, zipT, guardV, callee?, contsR, plainR, purL, qv, dOk, hStepB, lastDst, keepT, noHL, condV, resV, resL, tupOf, StK, HSt, hStep, awOps_nil, awOps_cons, GOp_t, GOp_f, DoOp_n, DoOp_call, HGB_t, HGB_f, HKB_n, HKB_c, HSt_s, StK_s, int_beq, int_bne, min_if, f_ldT_24, f_placesT_24, f_szT_24, f_zeroC_24, int_beq, int_bne, min_if, ints_length, ints_nil, S.av, newO]

theorem c19 (a b k o : Int) (rs : List Int) (n : Int) : OC Try.prog 19 [sync a b k o rs n] (.bool (canWait k n)) (gone [sync a b k o rs n]) := by
  refine OC_pure (res := [.tmp 2]) 3 11 [] (fn := Try.f19) (by kernel_rfl) (by rfl) (by rfl) (by rfl) (by simp) (by decide) (by decide) ?_
  repeat' first
    | with_reducible refine aw_sq ?_
    | with_reducible refine aw_blk ?_
    | with_reducible refine aw_reg fun K hK => ?_
    | with_reducible refine aw_skip ?_
    | with_reducible refine aw_ret ?_
    | with_reducible refine aw_exit ?_
    | with_reducible refine aw_cnd fun T E hT hE => ?_
    | with_reducible refine kseq ?_
    | with_reducible refine kseq_r ?_
    | with_reducible refine kseq_e ?_
    | with_reducible refine kblk ?_
    | with_reducible refine kblk_r ?_
    | with_reducible refine kblk_hit ?_
    | with_reducible refine kblk_miss rfl ?_
    | with_reducible refine kloop_r ?_
    | with_reducible refine kloop_e ?_
    | with_reducible refine kend_r ?_
    | with_reducible refine kend_n ?_
    | with_reducible refine gop_t ?_
    | with_reducible refine gop_f ?_
    | with_reducible refine hb_t ?_
    | with_reducible refine hb_f ?_
    | with_reducible refine cond_t ?_
    | with_reducible refine cond_f ?_
    | with_reducible refine gsplit_nd (fun h => ?_) (fun h => ?_)
    | with_reducible refine gsplit_d (fun h => ?_) (fun h => ?_)
    | with_reducible refine hbsplit_nd (fun h => ?_) (fun h => ?_)
    | with_reducible refine hbsplit_d (fun h => ?_) (fun h => ?_)
    | with_reducible refine cond_nd (fun h => ?_) (fun h => ?_)
    | with_reducible refine cond_d (fun h => ?_) (fun h => ?_)
    | with_reducible refine gsplit_n (fun h => ?_) (fun h => ?_)
    | with_reducible refine gsplit (fun h => ?_) (fun h => ?_)
    | with_reducible refine hbsplit_n (fun h => ?_) (fun h => ?_)
    | with_reducible refine hbsplit (fun h => ?_) (fun h => ?_)
    | with_reducible refine cond_n (fun h => ?_) (fun h => ?_)
    | with_reducible refine cond_b (fun h => ?_) (fun h => ?_)
    | with_reducible refine awH_goB (by decide) (by kernel_rfl) ?_
    | with_reducible refine awH_tail (by decide) ?_
    | with_reducible refine awH_nil ?_
    | (with_reducible change LateK _ _ _ _ _ _ _; refine late_go _ _ _ rfl rfl rfl ?_ ?_)
    | (with_reducible refine Kont.go hK ?_; clear hK K)
    | (with_reducible refine KT.go hT ?_; clear hT hE T E)
    | (with_reducible refine KT.go hE ?_; clear hT hE T E)
    | simp [*, Fend, St.init, St.get, St.put, St.apply, St.clean, putAll, lk, liveB, AV.pureC, AV.pureA, AV.pure, AV.isH, AV.isOwn, cv, ro, AV.seen, RO.cont, RO.take, AV.cellsL, AV.isU, bump, cellAt, nodeAt, setCell1, setAt, fz, fzs, fzss, gone, scalar, putD, putA, aMove, AV.ownify, aAssign, aPick, aBin, aBinOp, AV.cellV, storeL, aUn, aUnOp, aConv, aConvert, aExtract, aAlloc, AV.storable, aBox, collect, aField, aLoad, storeB, aStore, aIndex, aLen, aMins, conts, aMin, setFrom, fillA, takeL, aBuild, aStepF, plainL, zipT, guardV, callee?, contsR, plainR, purL, qv, dOk, hStepB, lastDst, keepT, noHL, condV, resV, resL, tupOf, StK, HSt, hStep, awOps_nil, awOps_cons, GOp_t, GOp_f, DoOp_n, DoOp_call, HGB_t, HGB_f, HKB_n, HKB_c, HSt_s, StK_s, int_beq, int_bne, min_if, f_boolT_3, f_fldT_24_2, f_fldT_24_5, f_intT_3, f_ldT_3, f_szT_24, int_beq, int_bne, min_if, ints_length, ints_nil, S.av]
  all_goals (simp_all [canWait])

theorem c20 (a b k o : Int) (rs : List Int) (n : Int) : OC Try.prog 20 [sync a b k o rs n] (.bool (canWait k n)) (gone [sync a b k o rs n]) := by
  refine OC_pure (res := [.tmp 2]) 3 11 [] (fn := Try.f20) (by kernel_rfl) (by rfl) (by rfl) (by rfl) (by simp) (by decide) (by decide) ?_
  repeat' first
    | with_reducible refine aw_sq ?_
    | with_reducible refine aw_blk ?_
    | with_reducible refine aw_reg fun K hK => ?_
    | with_reducible refine aw_skip ?_
    | with_reducible refine aw_ret ?_
    | with_reducible refine aw_exit ?_
    | with_reducible refine aw_cnd fun T E hT hE => ?_
    | with_reducible refine kseq ?_
    | with_reducible refine kseq_r ?_
    | with_reducible refine kseq_e ?_
    | with_reducible refine kblk ?_
    | with_reducible refine kblk_r ?_
    | with_reducible refine kblk_hit ?_
    | with_reducible refine kblk_miss rfl ?_
    | with_reducible refine kloop_r ?_
    | with_reducible refine kloop_e ?_
    | with_reducible refine kend_r ?_
    | with_reducible refine kend_n ?_
    | with_reducible refine gop_t ?_
    | with_reducible refine gop_f ?_
    | with_reducible refine hb_t ?_
    | with_reducible refine hb_f ?_
    | with_reducible refine cond_t ?_
    | with_reducible refine cond_f ?_
    | with_reducible refine gsplit_nd (fun h => ?_) (fun h => ?_)
    | with_reducible refine gsplit_d (fun h => ?_) (fun h => ?_)
    | with_reducible refine hbsplit_nd (fun h => ?_) (fun h => ?_)
    | with_reducible refine hbsplit_d (fun h => ?_) (fun h => ?_)
    | with_reducible refine cond_nd (fun h => ?_) (fun h => ?_)
    | with_reducible refine cond_d (fun h => ?_) (fun h => ?_)
    | with_reducible refine gsplit_n (fun h => ?_) (fun h => ?_)
    | with_reducible refine gsplit (fun h => ?_) (fun h => ?_)
    | with_reducible refine hbsplit_n (fun h => ?_) (fun h => ?_)
    | with_reducible refine hbsplit (fun h => ?_) (fun h => ?_)
    | with_reducible refine cond_n (fun h => ?_) (fun h => ?_)
    | with_reducible refine cond_b (fun h => ?_) (fun h => ?_)
    | with_reducible refine awH_goB (by decide) (by kernel_rfl) ?_
    | with_reducible refine awH_tail (by decide) ?_
    | with_reducible refine awH_nil ?_
    | (with_reducible change LateK _ _ _ _ _ _ _; refine late_go _ _ _ rfl rfl rfl ?_ ?_)
    | (with_reducible refine Kont.go hK ?_; clear hK K)
    | (with_reducible refine KT.go hT ?_; clear hT hE T E)
    | (with_reducible refine KT.go hE ?_; clear hT hE T E)
    | simp [*, Fend, St.init, St.get, St.put, St.apply, St.clean, putAll, lk, liveB, AV.pureC, AV.pureA, AV.pure, AV.isH, AV.isOwn, cv, ro, AV.seen, RO.cont, RO.take, AV.cellsL, AV.isU, bump, cellAt, nodeAt, setCell1, setAt, fz, fzs, fzss, gone, scalar, putD, putA, aMove, AV.ownify, aAssign, aPick, aBin, aBinOp, AV.cellV, storeL, aUn, aUnOp, aConv, aConvert, aExtract, aAlloc, AV.storable, aBox, collect, aField, aLoad, storeB, aStore, aIndex, aLen, aMins, conts, aMin, setFrom, fillA, takeL, aBuild, aStepF, plainL, zipT, guardV, callee?, contsR, plainR, purL, qv, dOk, hStepB, lastDst, keepT, noHL, condV, resV, resL, tupOf, StK, HSt, hStep, awOps_nil, awOps_cons, GOp_t, GOp_f, DoOp_n, DoOp_call, HGB_t, HGB_f, HKB_n, HKB_c, HSt_s, StK_s, int_beq, int_bne, min_if, f_boolT_3, f_fldT_24_2, f_fldT_24_5, f_intT_3, f_ldT_3, f_szT_24, int_beq, int_bne, min_if, ints_length, ints_nil, S.av]
  all_goals (simp_all [canWait])

theorem c26 (a b k o : Int) (rs : List Int) (n : Int) : OC Try.prog 26 [sync a b k o rs n] (.int .i64 (onceOf k o n)) (gone [sync a b k o rs n]) := by
  refine OC_pure (res := [.tmp 2]) 3 12 [] (fn := Try.f26) (by kernel_rfl) (by rfl) (by rfl) (by rfl) (by simp) (by decide) (by decide) ?_
  repeat' first
    | with_reducible refine aw_sq ?_
    | with_reducible refine aw_blk ?_
    | with_reducible refine aw_reg fun K hK => ?_
    | with_reducible refine aw_skip ?_
    | with_reducible refine aw_ret ?_
    | with_reducible refine aw_exit ?_
    | with_reducible refine aw_cnd fun T E hT hE => ?_
    | with_reducible refine kseq ?_
    | with_reducible refine kseq_r ?_
    | with_reducible refine kseq_e ?_
    | with_reducible refine kblk ?_
    | with_reducible refine kblk_r ?_
    | with_reducible refine kblk_hit ?_
    | with_reducible refine kblk_miss rfl ?_
    | with_reducible refine kloop_r ?_
    | with_reducible refine kloop_e ?_
    | with_reducible refine kend_r ?_
    | with_reducible refine kend_n ?_
    | with_reducible refine gop_t ?_
    | with_reducible refine gop_f ?_
    | with_reducible refine hb_t ?_
    | with_reducible refine hb_f ?_
    | with_reducible refine cond_t ?_
    | with_reducible refine cond_f ?_
    | with_reducible refine gsplit_nd (fun h => ?_) (fun h => ?_)
    | with_reducible refine gsplit_d (fun h => ?_) (fun h => ?_)
    | with_reducible refine hbsplit_nd (fun h => ?_) (fun h => ?_)
    | with_reducible refine hbsplit_d (fun h => ?_) (fun h => ?_)
    | with_reducible refine cond_nd (fun h => ?_) (fun h => ?_)
    | with_reducible refine cond_d (fun h => ?_) (fun h => ?_)
    | with_reducible refine gsplit_n (fun h => ?_) (fun h => ?_)
    | with_reducible refine gsplit (fun h => ?_) (fun h => ?_)
    | with_reducible refine hbsplit_n (fun h => ?_) (fun h => ?_)
    | with_reducible refine hbsplit (fun h => ?_) (fun h => ?_)
    | with_reducible refine cond_n (fun h => ?_) (fun h => ?_)
    | with_reducible refine cond_b (fun h => ?_) (fun h => ?_)
    | with_reducible refine awH_goB (by decide) (by kernel_rfl) ?_
    | with_reducible refine awH_tail (by decide) ?_
    | with_reducible refine awH_nil ?_
    | (with_reducible change LateK _ _ _ _ _ _ _; refine late_go _ _ _ rfl rfl rfl ?_ ?_)
    | (with_reducible refine Kont.go hK ?_; clear hK K)
    | (with_reducible refine KT.go hT ?_; clear hT hE T E)
    | (with_reducible refine KT.go hE ?_; clear hT hE T E)
    | simp [*, Fend, St.init, St.get, St.put, St.apply, St.clean, putAll, lk, liveB, AV.pureC, AV.pureA, AV.pure, AV.isH, AV.isOwn, cv, ro, AV.seen, RO.cont, RO.take, AV.cellsL, AV.isU, bump, cellAt, nodeAt, setCell1, setAt, fz, fzs, fzss, gone, scalar, putD, putA, aMove, AV.ownify, aAssign, aPick, aBin, aBinOp, AV.cellV, storeL, aUn, aUnOp, aConv, aConvert, aExtract, aAlloc, AV.storable, aBox, collect, aField, aLoad, storeB, aStore, aIndex, aLen, aMins, conts, aMin, setFrom, fillA, takeL, aBuild, aStepF, plainL, zipT, guardV, callee?, contsR, plainR, purL, qv, dOk, hStepB, lastDst, keepT, noHL, condV, resV, resL, tupOf, StK, HSt, hStep, awOps_nil, awOps_cons, GOp_t, GOp_f, DoOp_n, DoOp_call, HGB_t, HGB_f, HKB_n, HKB_c, HSt_s, StK_s, int_beq, int_bne, min_if, f_boolT_3, f_fldT_24_2, f_fldT_24_3, f_fldT_24_5, f_intT_3, f_ldT_3, f_szT_24, int_beq, int_bne, min_if, ints_length, ints_nil, S.av]
  all_goals (simp_all [onceOf] <;> omega)

theorem c28 (a b k o : Int) (rs : List Int) (n : Int) : OC Try.prog 28 [sync a b k o rs n] (.int .i64 (onceOf k o n)) (gone [sync a b k o rs n]) := by
  refine OC_pure (res := [.tmp 2]) 4 15 [] (fn := Try.f28) (by kernel_rfl) (by rfl) (by rfl) (by rfl) (by simp) (by decide) (by decide) ?_
  repeat' first
    | with_reducible refine aw_sq ?_
    | with_reducible refine aw_blk ?_
    | with_reducible refine aw_reg fun K hK => ?_
    | with_reducible refine aw_skip ?_
    | with_reducible refine aw_ret ?_
    | with_reducible refine aw_exit ?_
    | with_reducible refine aw_cnd fun T E hT hE => ?_
    | with_reducible refine kseq ?_
    | with_reducible refine kseq_r ?_
    | with_reducible refine kseq_e ?_
    | with_reducible refine kblk ?_
    | with_reducible refine kblk_r ?_
    | with_reducible refine kblk_hit ?_
    | with_reducible refine kblk_miss rfl ?_
    | with_reducible refine kloop_r ?_
    | with_reducible refine kloop_e ?_
    | with_reducible refine kend_r ?_
    | with_reducible refine kend_n ?_
    | with_reducible refine gop_t ?_
    | with_reducible refine gop_f ?_
    | with_reducible refine hb_t ?_
    | with_reducible refine hb_f ?_
    | with_reducible refine cond_t ?_
    | with_reducible refine cond_f ?_
    | with_reducible refine gsplit_nd (fun h => ?_) (fun h => ?_)
    | with_reducible refine gsplit_d (fun h => ?_) (fun h => ?_)
    | with_reducible refine hbsplit_nd (fun h => ?_) (fun h => ?_)
    | with_reducible refine hbsplit_d (fun h => ?_) (fun h => ?_)
    | with_reducible refine cond_nd (fun h => ?_) (fun h => ?_)
    | with_reducible refine cond_d (fun h => ?_) (fun h => ?_)
    | with_reducible refine gsplit_n (fun h => ?_) (fun h => ?_)
    | with_reducible refine gsplit (fun h => ?_) (fun h => ?_)
    | with_reducible refine hbsplit_n (fun h => ?_) (fun h => ?_)
    | with_reducible refine hbsplit (fun h => ?_) (fun h => ?_)
    | with_reducible refine cond_n (fun h => ?_) (fun h => ?_)
    | with_reducible refine cond_b (fun h => ?_) (fun h => ?_)
    | with_reducible refine awH_goB (by decide) (by kernel_rfl) ?_
    | with_reducible refine awH_tail (by decide) ?_
    | with_reducible refine awH_nil ?_
    | (with_reducible change LateK _ _ _ _ _ _ _; refine late_go _ _ _ rfl rfl rfl ?_ ?_)
    | (with_reducible refine Kont.go hK ?_; clear hK K)
    | (with_reducible refine KT.go hT ?_; clear hT hE T E)
    | (with_reducible refine KT.go hE ?_; clear hT hE T E)
    | simp [*, Fend, St.init, St.get, St.put, St.apply, St.clean, putAll, lk, liveB, AV.pureC, AV.pureA, AV.pure, AV.isH, AV.isOwn, cv, ro, AV.seen, RO.cont, RO.take, AV.cellsL, AV.isU, bump, cellAt, nodeAt, setCell1, setAt, fz, fzs, fzss, gone, scalar, putD, putA, aMove, AV.ownify, aAssign, aPick, aBin, aBinOp, AV.cellV, storeL, aUn, aUnOp, aConv, aConvert, aExtract, aAlloc, AV.storable, aBox, collect, aField, aLoad, storeB, aStore, aIndex, aLen, aMins, conts, aMin, setFrom, fillA, takeL, aBuild, aStepF, plainL, zipT, guardV, callee?, contsR, plainR, purL, qv, dOk, hStepB, lastDst, keepT, noHL, condV, resV, resL, tupOf, StK, HSt, hStep, awOps_nil, awOps_cons, GOp_t, GOp_f, DoOp_n, DoOp_call, HGB_t, HGB_f, HKB_n, HKB_c, HSt_s, StK_s, int_beq, int_bne, min_if, f_boolT_3, f_fldT_24_2, f_fldT_24_3, f_fldT_24_5, f_intT_3, f_ldT_3, f_szT_24, int_beq, int_bne, min_if, ints_length, ints_nil, S.av]
  all_goals (simp_all [onceOf] <;> omega)

end Go.Ga
