/- One of the texts of a proof by an abstract machine over the model. -/
import Derived.Test.YthlhjepijodemaaGaB
import Derived.Test.YthlhjepijodemaaGaB2
import Derived.Test.YthlhjepijodemaaGaA
set_option linter.unusedSimpArgs false
set_option linter.unusedVariables false
namespace Go.Ga
open Go Go.AM Go.Proofs
set_option maxRecDepth 100000
set_option maxHeartbeats 4000000
theorem c21 (a b k o : Int) (rs : List Int) (n : Int) (d : Int) : OC Try.prog 21 [sync a b k o rs n, .int .i64 d] (.tup [(begin_ a b k o rs n d).1.av, .int .i64 (begin_ a b k o rs n d).2]) (gone [sync a b k o rs n, .int .i64 d]) := by
  by_cases hv : valid a b k o rs n = true
  have hn := valid_n hv
  have hr := valid_rs hv
  subst hr
  all_goals try rw [Bool.not_eq_true] at hv
  all_goals
    refine OC_pure (res := [.cell 4 24, .tmp 5]) 7 33 [] (fn := Try.f21) (by kernel_rfl) (by rfl) (by rfl) (by rfl) (by simp) (by decide) (by decide) ?_
    repeat' first
      | with_reducible refine aw_sq ?_
      | with_reducible refine aw_blk ?_
      | with_reducible refine aw_reg fun K hK => ?_
      | with_reducible refine aw_skip ?_
      | with_reducible refine aw_ret ?_
      | with_reducible refine aw_exit ?_
      | with_reducible refine aw_cnd fun T E hT hE => ?_
      | with_reducible refine kseq ?_
      | with_reducible refine kseq_r ?_
      | with_reducible refine kseq_e ?_
      | with_reducible refine kblk ?_
      | with_reducible refine kblk_r ?_
      | with_reducible refine kblk_hit ?_
      | with_reducible refine kblk_miss rfl ?_
      | with_reducible refine kloop_r ?_
      | with_reducible refine kloop_e ?_
      | with_reducible refine kend_r ?_
      | with_reducible refine kend_n ?_
      | with_reducible refine gop_t ?_
      | with_reducible refine gop_f ?_
      | with_reducible refine hb_t ?_
      | with_reducible refine hb_f ?_
      | with_reducible refine cond_t ?_
      | with_reducible refine cond_f ?_
      | with_reducible refine gsplit_nd (fun h => ?_) (fun h => ?_)
      | with_reducible refine gsplit_d (fun h => ?_) (fun h => ?_)
      | with_reducible refine hbsplit_nd (fun h => ?_) (fun h => ?_)
      | with_reducible refine hbsplit_d (fun h => ?_) (fun h => ?_)
      | with_reducible refine cond_nd (fun h => ?_) (fun h => ?_)
      | with_reducible refine cond_d (fun h => ?_) (fun h => ?_)
      | with_reducible refine gsplit_n (fun h => ?_) (fun h => ?_)
      | with_reducible refine gsplit (fun h => ?_) (fun h => ?_)
      | with_reducible refine hbsplit_n (fun h => ?_) (fun h => ?_)
      | with_reducible refine hbsplit (fun h => ?_) (fun h => ?_)
      | with_reducible refine cond_n (fun h => ?_) (fun h => ?_)
      | with_reducible refine cond_b (fun h => ?_) (fun h => ?_)
      | with_reducible refine call_go (c15 _ _ _ _ _ _) (by simp [scalar]) ?_
      | with_reducible refine hcallB_go (c15 _ _ _ _ _ _) (by simp [scalar]) ?_
      | with_reducible refine call_go (c28 _ _ _ _ _ _) (by simp [scalar]) ?_
      | with_reducible refine hcallB_go (c28 _ _ _ _ _ _) (by simp [scalar]) ?_
      | with_reducible refine awH_goB (by decide) (by kernel_rfl) ?_
      | with_reducible refine awH_tail (by decide) ?_
      | with_reducible refine awH_nil ?_
      | (with_reducible change LateK _ _ _ _ _ _ _; refine late_go _ _ _ rfl rfl rfl ?_ ?_)
      | (with_reducible refine Kont.go hK ?_; clear hK K)
      | (with_reducible refine KT.go hT ?_; clear hT hE T E)
      | (with_reducible refine KT.go hE ?_; clear hT hE T E)
      | simp [*, Fend, St.init, St.get, St.put, St.apply, St.clean, putAll, lk, liveB, AV.pureC, AV.pureA, AV.pure, AV.isH, AV.isOwn, cv, ro, AV.seen, RO.cont, RO.take, AV.cellsL, AV.isU, bump, cellAt, nodeAt, setCell1, setAt, fz, fzs, fzss, gone, scalar, putD, putA, aMove, AV.ownify, aAssign, aPick, aBin, aBinOp, AV.cellV, storeL, aUn, aUnOp, aConv, aConvert, aExtract, aAlloc, AV.storable, aBox, collect, aField, aLoad, storeB, aStore, aIndex, aLen, aMins, conts, aMin, setFrom, fillA, takeL, aBuild, aStepF, plainL, zipT, guardV, callee?, contsR, plainR, purL, qv, dOk, hStepB, lastDst, keepT, noHL, condV, resV, resL, tupOf, StK, HSt, hStep, awOps_nil, awOps_cons, GOp_t, GOp_f, DoOp_n, DoOp_call, HGB_t, HGB_f, HKB_n, HKB_c, HSt_s, StK_s, int_beq, int_bne, min_if, f_boolT_3, f_boolT_42, f_fldT_24_2, f_fldT_24_3, f_fldT_24_4, f_fnOk_15, f_fnOk_28, f_intT_3, f_intT_42, f_ldT_22, f_ldT_24, f_ldT_3, f_placesT_24, f_slSz_22, f_szT_22, f_szT_24, f_szT_3, f_zeroC_24, int_beq, int_bne, min_if, ints_length, ints_nil, S.av, begin_, zS]
    all_goals (try simp only [begin_])
    all_goals (repeat' split)
    all_goals first
      | (exfalso; simp only [not_and, not_true, not_false_eq_true, Bool.not_eq_true, Int.not_lt, Int.not_le] at *; omega)
      | (simp_all; done)
      | (rw [wr _ (by omega) (by omega)]; simp_all; done)
      | (simp_all; omega)
theorem c22 (a b k o : Int) (rs : List Int) (n : Int) (d : Int) : OC Try.prog 22 [sync a b k o rs n, .int .i64 d] (.tup [(begin_ a b k o rs n d).1.av, .int .i64 (begin_ a b k o rs n d).2]) (gone [sync a b k o rs n, .int .i64 d]) := by
  by_cases hv : valid a b k o rs n = true
  have hn := valid_n hv
  have hr := valid_rs hv
  subst hr
  all_goals try rw [Bool.not_eq_true] at hv
  all_goals
    refine OC_pure (res := [.cell 4 24, .tmp 5]) 6 30 [] (fn := Try.f22) (by kernel_rfl) (by rfl) (by rfl) (by rfl) (by simp) (by decide) (by decide) ?_
    repeat' first
      | with_reducible refine aw_sq ?_
      | with_reducible refine aw_blk ?_
      | with_reducible refine aw_reg fun K hK => ?_
      | with_reducible refine aw_skip ?_
      | with_reducible refine aw_ret ?_
      | with_reducible refine aw_exit ?_
      | with_reducible refine aw_cnd fun T E hT hE => ?_
      | with_reducible refine kseq ?_
      | with_reducible refine kseq_r ?_
      | with_reducible refine kseq_e ?_
      | with_reducible refine kblk ?_
      | with_reducible refine kblk_r ?_
      | with_reducible refine kblk_hit ?_
      | with_reducible refine kblk_miss rfl ?_
      | with_reducible refine kloop_r ?_
      | with_reducible refine kloop_e ?_
      | with_reducible refine kend_r ?_
      | with_reducible refine kend_n ?_
      | with_reducible refine gop_t ?_
      | with_reducible refine gop_f ?_
      | with_reducible refine hb_t ?_
      | with_reducible refine hb_f ?_
      | with_reducible refine cond_t ?_
      | with_reducible refine cond_f ?_
      | with_reducible refine gsplit_nd (fun h => ?_) (fun h => ?_)
      | with_reducible refine gsplit_d (fun h => ?_) (fun h => ?_)
      | with_reducible refine hbsplit_nd (fun h => ?_) (fun h => ?_)
      | with_reducible refine hbsplit_d (fun h => ?_) (fun h => ?_)
      | with_reducible refine cond_nd (fun h => ?_) (fun h => ?_)
      | with_reducible refine cond_d (fun h => ?_) (fun h => ?_)
      | with_reducible refine gsplit_n (fun h => ?_) (fun h => ?_)
      | with_reducible refine gsplit (fun h => ?_) (fun h => ?_)
      | with_reducible refine hbsplit_n (fun h => ?_) (fun h => ?_)
      | with_reducible refine hbsplit (fun h => ?_) (fun h => ?_)
      | with_reducible refine cond_n (fun h => ?_) (fun h => ?_)
      | with_reducible refine cond_b (fun h => ?_) (fun h => ?_)
      | with_reducible refine call_go (c16 _ _ _ _ _ _) (by simp [scalar]) ?_
      | with_reducible refine hcallB_go (c16 _ _ _ _ _ _) (by simp [scalar]) ?_
      | with_reducible refine call_go (c26 _ _ _ _ _ _) (by simp [scalar]) ?_
      | with_reducible refine hcallB_go (c26 _ _ _ _ _ _) (by simp [scalar]) ?_
      | with_reducible refine awH_goB (by decide) (by kernel_rfl) ?_
      | with_reducible refine awH_tail (by decide) ?_
      | with_reducible refine awH_nil ?_
      | (with_reducible change LateK _ _ _ _ _ _ _; refine late_go _ _ _ rfl rfl rfl ?_ ?_)
      | (with_reducible refine Kont.go hK ?_; clear hK K)
      | (with_reducible refine KT.go hT ?_; clear hT hE T E)
      | (with_reducible refine KT.go hE ?_; clear hT hE T E)
      | simp [*, Fend, St.init, St.get, St.put, St.apply, St.clean, putAll, lk, liveB, AV.pureC, AV.pureA, AV.pure, AV.isH, AV.isOwn, cv, ro, AV.seen, RO.cont, RO.take, AV.cellsL, AV.isU, bump, cellAt, nodeAt, setCell1, setAt, fz, fzs, fzss, gone, scalar, putD, putA, aMove, AV.ownify, aAssign, aPick, aBin, aBinOp, AV.cellV, storeL, aUn, aUnOp, aConv, aConvert, aExtract, aAlloc, AV.storable, aBox, collect, aField, aLoad, storeB, aStore, aIndex, aLen, aMins, conts, aMin, setFrom, fillA, takeL, aBuild, aStepF, plainL, zipT, guardV, callee?, contsR, plainR, purL, qv, dOk, hStepB, lastDst, keepT, noHL, condV, resV, resL, tupOf, StK, HSt, hStep, awOps_nil, awOps_cons, GOp_t, GOp_f, DoOp_n, DoOp_call, HGB_t, HGB_f, HKB_n, HKB_c, HSt_s, StK_s, int_beq, int_bne, min_if, f_boolT_3, f_fldT_24_2, f_fldT_24_3, f_fnOk_16, f_fnOk_26, f_intT_3, f_ldT_24, f_ldT_3, f_placesT_24, f_szT_24, f_szT_3, f_zeroC_24, int_beq, int_bne, min_if, ints_length, ints_nil, S.av, begin_, zS]
    all_goals (try simp only [begin_])
    all_goals (repeat' split)
    all_goals first
      | (exfalso; simp only [not_and, not_true, not_false_eq_true, Bool.not_eq_true, Int.not_lt, Int.not_le] at *; omega)
      | (simp_all; done)
      | (rw [wr _ (by omega) (by omega)]; simp_all; done)
      | (simp_all; omega)
theorem c23 (a b k o : Int) (rs : List Int) (n : Int) : OC Try.prog 23 [sync a b k o rs n] (.tup [(end_ a b k o rs n).1.av, .int .i64 (end_ a b k o rs n).2]) (gone [sync a b k o rs n]) := by
  by_cases hv : valid a b k o rs n = true
  have hn := valid_n hv
  have hr := valid_rs hv
  subst hr
  all_goals try rw [Bool.not_eq_true] at hv
  all_goals
    refine OC_pure (res := [.cell 2 24, .tmp 3]) 5 23 [] (fn := Try.f23) (by kernel_rfl) (by rfl) (by rfl) (by rfl) (by simp) (by decide) (by decide) ?_
    repeat' first
      | with_reducible refine aw_sq ?_
      | with_reducible refine aw_blk ?_
      | with_reducible refine aw_reg fun K hK => ?_
      | with_reducible refine aw_skip ?_
      | with_reducible refine aw_ret ?_
      | with_reducible refine aw_exit ?_
      | with_reducible refine aw_cnd fun T E hT hE => ?_
      | with_reducible refine kseq ?_
      | with_reducible refine kseq_r ?_
      | with_reducible refine kseq_e ?_
      | with_reducible refine kblk ?_
      | with_reducible refine kblk_r ?_
      | with_reducible refine kblk_hit ?_
      | with_reducible refine kblk_miss rfl ?_
      | with_reducible refine kloop_r ?_
      | with_reducible refine kloop_e ?_
      | with_reducible refine kend_r ?_
      | with_reducible refine kend_n ?_
      | with_reducible refine gop_t ?_
      | with_reducible refine gop_f ?_
      | with_reducible refine hb_t ?_
      | with_reducible refine hb_f ?_
      | with_reducible refine cond_t ?_
      | with_reducible refine cond_f ?_
      | with_reducible refine gsplit_nd (fun h => ?_) (fun h => ?_)
      | with_reducible refine gsplit_d (fun h => ?_) (fun h => ?_)
      | with_reducible refine hbsplit_nd (fun h => ?_) (fun h => ?_)
      | with_reducible refine hbsplit_d (fun h => ?_) (fun h => ?_)
      | with_reducible refine cond_nd (fun h => ?_) (fun h => ?_)
      | with_reducible refine cond_d (fun h => ?_) (fun h => ?_)
      | with_reducible refine gsplit_n (fun h => ?_) (fun h => ?_)
      | with_reducible refine gsplit (fun h => ?_) (fun h => ?_)
      | with_reducible refine hbsplit_n (fun h => ?_) (fun h => ?_)
      | with_reducible refine hbsplit (fun h => ?_) (fun h => ?_)
      | with_reducible refine cond_n (fun h => ?_) (fun h => ?_)
      | with_reducible refine cond_b (fun h => ?_) (fun h => ?_)
      | with_reducible refine call_go (c15 _ _ _ _ _ _) (by simp [scalar]) ?_
      | with_reducible refine hcallB_go (c15 _ _ _ _ _ _) (by simp [scalar]) ?_
      | with_reducible refine call_go (c28 _ _ _ _ _ _) (by simp [scalar]) ?_
      | with_reducible refine hcallB_go (c28 _ _ _ _ _ _) (by simp [scalar]) ?_
      | with_reducible refine awH_goB (by decide) (by kernel_rfl) ?_
      | with_reducible refine awH_tail (by decide) ?_
      | with_reducible refine awH_nil ?_
      | (with_reducible change LateK _ _ _ _ _ _ _; refine late_go _ _ _ rfl rfl rfl ?_ ?_)
      | (with_reducible refine Kont.go hK ?_; clear hK K)
      | (with_reducible refine KT.go hT ?_; clear hT hE T E)
      | (with_reducible refine KT.go hE ?_; clear hT hE T E)
      | simp [*, Fend, St.init, St.get, St.put, St.apply, St.clean, putAll, lk, liveB, AV.pureC, AV.pureA, AV.pure, AV.isH, AV.isOwn, cv, ro, AV.seen, RO.cont, RO.take, AV.cellsL, AV.isU, bump, cellAt, nodeAt, setCell1, setAt, fz, fzs, fzss, gone, scalar, putD, putA, aMove, AV.ownify, aAssign, aPick, aBin, aBinOp, AV.cellV, storeL, aUn, aUnOp, aConv, aConvert, aExtract, aAlloc, AV.storable, aBox, collect, aField, aLoad, storeB, aStore, aIndex, aLen, aMins, conts, aMin, setFrom, fillA, takeL, aBuild, aStepF, plainL, zipT, guardV, callee?, contsR, plainR, purL, qv, dOk, hStepB, lastDst, keepT, noHL, condV, resV, resL, tupOf, StK, HSt, hStep, awOps_nil, awOps_cons, GOp_t, GOp_f, DoOp_n, DoOp_call, HGB_t, HGB_f, HKB_n, HKB_c, HSt_s, StK_s, int_beq, int_bne, min_if, f_boolT_3, f_boolT_42, f_fldT_24_2, f_fldT_24_3, f_fldT_24_4, f_fldT_24_5, f_fnOk_15, f_fnOk_28, f_intT_3, f_intT_42, f_ldT_22, f_ldT_24, f_ldT_3, f_placesT_24, f_slSz_22, f_szT_22, f_szT_24, f_szT_3, f_zeroC_24, int_beq, int_bne, min_if, ints_length, ints_nil, S.av, end_, zS]
    all_goals (try simp only [end_])
    all_goals (repeat' split)
    all_goals first
      | (exfalso; simp only [not_and, not_true, not_false_eq_true, Bool.not_eq_true, Int.not_lt, Int.not_le] at *; omega)
      | (simp_all; done)
      | (rw [wr _ (by omega) (by omega)]; simp_all; done)
      | (simp_all; omega)
theorem c24 (a b k o : Int) (rs : List Int) (n : Int) : OC Try.prog 24 [sync a b k o rs n] (.tup [(end_ a b k o rs n).1.av, .int .i64 (end_ a b k o rs n).2]) (gone [sync a b k o rs n]) := by
  by_cases hv : valid a b k o rs n = true
  have hn := valid_n hv
  have hr := valid_rs hv
  subst hr
  all_goals try rw [Bool.not_eq_true] at hv
  all_goals
    refine OC_pure (res := [.cell 2 24, .tmp 3]) 4 20 [] (fn := Try.f24) (by kernel_rfl) (by rfl) (by rfl) (by rfl) (by simp) (by decide) (by decide) ?_
    repeat' first
      | with_reducible refine aw_sq ?_
      | with_reducible refine aw_blk ?_
      | with_reducible refine aw_reg fun K hK => ?_
      | with_reducible refine aw_skip ?_
      | with_reducible refine aw_ret ?_
      | with_reducible refine aw_exit ?_
      | with_reducible refine aw_cnd fun T E hT hE => ?_
      | with_reducible refine kseq ?_
      | with_reducible refine kseq_r ?_
      | with_reducible refine kseq_e ?_
      | with_reducible refine kblk ?_
      | with_reducible refine kblk_r ?_
      | with_reducible refine kblk_hit ?_
      | with_reducible refine kblk_miss rfl ?_
      | with_reducible refine kloop_r ?_
      | with_reducible refine kloop_e ?_
      | with_reducible refine kend_r ?_
      | with_reducible refine kend_n ?_
      | with_reducible refine gop_t ?_
      | with_reducible refine gop_f ?_
      | with_reducible refine hb_t ?_
      | with_reducible refine hb_f ?_
      | with_reducible refine cond_t ?_
      | with_reducible refine cond_f ?_
      | with_reducible refine gsplit_nd (fun h => ?_) (fun h => ?_)
      | with_reducible refine gsplit_d (fun h => ?_) (fun h => ?_)
      | with_reducible refine hbsplit_nd (fun h => ?_) (fun h => ?_)
      | with_reducible refine hbsplit_d (fun h => ?_) (fun h => ?_)
      | with_reducible refine cond_nd (fun h => ?_) (fun h => ?_)
      | with_reducible refine cond_d (fun h => ?_) (fun h => ?_)
      | with_reducible refine gsplit_n (fun h => ?_) (fun h => ?_)
      | with_reducible refine gsplit (fun h => ?_) (fun h => ?_)
      | with_reducible refine hbsplit_n (fun h => ?_) (fun h => ?_)
      | with_reducible refine hbsplit (fun h => ?_) (fun h => ?_)
      | with_reducible refine cond_n (fun h => ?_) (fun h => ?_)
      | with_reducible refine cond_b (fun h => ?_) (fun h => ?_)
      | with_reducible refine call_go (c16 _ _ _ _ _ _) (by simp [scalar]) ?_
      | with_reducible refine hcallB_go (c16 _ _ _ _ _ _) (by simp [scalar]) ?_
      | with_reducible refine call_go (c26 _ _ _ _ _ _) (by simp [scalar]) ?_
      | with_reducible refine hcallB_go (c26 _ _ _ _ _ _) (by simp [scalar]) ?_
      | with_reducible refine awH_goB (by decide) (by kernel_rfl) ?_
      | with_reducible refine awH_tail (by decide) ?_
      | with_reducible refine awH_nil ?_
      | (with_reducible change LateK _ _ _ _ _ _ _; refine late_go _ _ _ rfl rfl rfl ?_ ?_)
      | (with_reducible refine Kont.go hK ?_; clear hK K)
      | (with_reducible refine KT.go hT ?_; clear hT hE T E)
      | (with_reducible refine KT.go hE ?_; clear hT hE T E)
      | simp [*, Fend, St.init, St.get, St.put, St.apply, St.clean, putAll, lk, liveB, AV.pureC, AV.pureA, AV.pure, AV.isH, AV.isOwn, cv, ro, AV.seen, RO.cont, RO.take, AV.cellsL, AV.isU, bump, cellAt, nodeAt, setCell1, setAt, fz, fzs, fzss, gone, scalar, putD, putA, aMove, AV.ownify, aAssign, aPick, aBin, aBinOp, AV.cellV, storeL, aUn, aUnOp, aConv, aConvert, aExtract, aAlloc, AV.storable, aBox, collect, aField, aLoad, storeB, aStore, aIndex, aLen, aMins, conts, aMin, setFrom, fillA, takeL, aBuild, aStepF, plainL, zipT, guardV, callee?, contsR, plainR, purL, qv, dOk, hStepB, lastDst, keepT, noHL, condV, resV, resL, tupOf, StK, HSt, hStep, awOps_nil, awOps_cons, GOp_t, GOp_f, DoOp_n, DoOp_call, HGB_t, HGB_f, HKB_n, HKB_c, HSt_s, StK_s, int_beq, int_bne, min_if, f_boolT_3, f_fldT_24_2, f_fldT_24_3, f_fldT_24_5, f_fnOk_16, f_fnOk_26, f_intT_3, f_ldT_24, f_ldT_3, f_placesT_24, f_szT_24, f_szT_3, f_zeroC_24, int_beq, int_bne, min_if, ints_length, ints_nil, S.av, end_, zS]
    all_goals (try simp only [end_])
    all_goals (repeat' split)
    all_goals first
      | (exfalso; simp only [not_and, not_true, not_false_eq_true, Bool.not_eq_true, Int.not_lt, Int.not_le] at *; omega)
      | (simp_all; done)
      | (rw [wr _ (by omega) (by omega)]; simp_all; done)
      | (simp_all; omega)
theorem c25 (a b k o : Int) (rs : List Int) (n : Int) : OC Try.prog 25 [sync a b k o rs n] (.int .i64 (onceOf k o n)) (gone [sync a b k o rs n]) := by
  refine OC_pure (res := [.tmp 2]) 3 5 [] (fn := Try.f25) (by kernel_rfl) (by rfl) (by rfl) (by rfl) (by simp) (by decide) (by decide) ?_
  repeat' first
    | with_reducible refine aw_sq ?_
    | with_reducible refine aw_blk ?_
    | with_reducible refine aw_reg fun K hK => ?_
    | with_reducible refine aw_skip ?_
    | with_reducible refine aw_ret ?_
    | with_reducible refine aw_exit ?_
    | with_reducible refine aw_cnd fun T E hT hE => ?_
    | with_reducible refine kseq ?_
    | with_reducible refine kseq_r ?_
    | with_reducible refine kseq_e ?_
    | with_reducible refine kblk ?_
    | with_reducible refine kblk_r ?_
    | with_reducible refine kblk_hit ?_
    | with_reducible refine kblk_miss rfl ?_
    | with_reducible refine kloop_r ?_
    | with_reducible refine kloop_e ?_
    | with_reducible refine kend_r ?_
    | with_reducible refine kend_n ?_
    | with_reducible refine gop_t ?_
    | with_reducible refine gop_f ?_
    | with_reducible refine hb_t ?_
    | with_reducible refine hb_f ?_
    | with_reducible refine cond_t ?_
    | with_reducible refine cond_f ?_
    | with_reducible refine gsplit_nd (fun h => ?_) (fun h => ?_)
    | with_reducible refine gsplit_d (fun h => ?_) (fun h => ?_)
    | with_reducible refine hbsplit_nd (fun h => ?_) (fun h => ?_)
    | with_reducible refine hbsplit_d (fun h => ?_) (fun h => ?_)
    | with_reducible refine cond_nd (fun h => ?_) (fun h => ?_)
    | with_reducible refine cond_d (fun h => ?_) (fun h => ?_)
    | with_reducible refine gsplit_n (fun h => ?_) (fun h => ?_)
    | with_reducible refine gsplit (fun h => ?_) (fun h => ?_)
    | with_reducible refine hbsplit_n (fun h => ?_) (fun h => ?_)
    | with_reducible refine hbsplit (fun h => ?_) (fun h => ?_)
    | with_reducible refine cond_n (fun h => ?_) (fun h => ?_)
    | with_reducible refine cond_b (fun h => ?_) (fun h => ?_)
    | with_reducible refine call_go (c28 _ _ _ _ _ _) (by simp [scalar]) ?_
    | with_reducible refine hcallB_go (c28 _ _ _ _ _ _) (by simp [scalar]) ?_
    | with_reducible refine awH_goB (by decide) (by kernel_rfl) ?_
    | with_reducible refine awH_tail (by decide) ?_
    | with_reducible refine awH_nil ?_
    | (with_reducible change LateK _ _ _ _ _ _ _; refine late_go _ _ _ rfl rfl rfl ?_ ?_)
    | (with_reducible refine Kont.go hK ?_; clear hK K)
    | (with_reducible refine KT.go hT ?_; clear hT hE T E)
    | (with_reducible refine KT.go hE ?_; clear hT hE T E)
    | simp [*, Fend, St.init, St.get, St.put, St.apply, St.clean, putAll, lk, liveB, AV.pureC, AV.pureA, AV.pure, AV.isH, AV.isOwn, cv, ro, AV.seen, RO.cont, RO.take, AV.cellsL, AV.isU, bump, cellAt, nodeAt, setCell1, setAt, fz, fzs, fzss, gone, scalar, putD, putA, aMove, AV.ownify, aAssign, aPick, aBin, aBinOp, AV.cellV, storeL, aUn, aUnOp, aConv, aConvert, aExtract, aAlloc, AV.storable, aBox, collect, aField, aLoad, storeB, aStore, aIndex, aLen, aMins, conts, aMin, setFrom, fillA, takeL, aBuild, aStepF, plainL, zipT, guardV, callee?, contsR, plainR, purL, qv, dOk, hStepB, lastDst, keepT, noHL, condV, resV, resL, tupOf, StK, HSt, hStep, awOps_nil, awOps_cons, GOp_t, GOp_f, DoOp_n, DoOp_call, HGB_t, HGB_f, HKB_n, HKB_c, HSt_s, StK_s, int_beq, int_bne, min_if, f_fnOk_28, f_ldT_24, f_szT_24, int_beq, int_bne, min_if, ints_length, ints_nil, S.av]

end Go.Ga
