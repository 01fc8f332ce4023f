/- One of the texts of a proof by an abstract machine over the model. -/
import Derived.Test.YthlhjepijodemaaGaG
set_option linter.unusedSimpArgs false
set_option linter.unusedVariables false
namespace Go.Ga
open Go Go.AM Go.Proofs
set_option maxRecDepth 100000
set_option maxHeartbeats 4000000
theorem add_cases (n v : Int) (h0 : 0 ≤ n) (h1 : n ≤ 1000000000) (h2 : -1000000 ≤ v) (h3 : v ≤ 1000000) :
    valid 3 3 3 (-1) [] n = true ∧ IntKind.wrap .i64 (n + v) = n + v ∧ ((0 ≤ n + v ∧ add 3 3 3 (-1) [] n v = (⟨3, 3, 3, -1, [], n + v⟩, 0) ∧ valid 3 3 3 (-1) [] (n + v) = true) ∨ (n + v < 0 ∧ add 3 3 3 (-1) [] n v = (zS, 11))) := by
  have hv : ∀ m : Int, 0 ≤ m → m ≤ 2000000000 → valid 3 3 3 (-1) [] m = true := fun m h h' => by
    unfold valid; rw [decide_eq_true_iff]; exact ⟨by decide, by decide, rfl, h, .inl ⟨rfl, rfl, by omega⟩⟩
  refine ⟨hv n h0 (by omega), wr _ (by omega) (by omega), ?_⟩
  rcases Int.lt_or_le (n + v) 0 with h | h
  · refine .inr ⟨h, ?_⟩
    unfold add
    rw [if_pos ⟨rfl, hv n h0 (by omega)⟩, if_neg (by omega)]
  · refine .inl ⟨h, ?_, hv _ h (by omega)⟩
    unfold add
    rw [if_pos ⟨rfl, hv n h0 (by omega)⟩, if_pos (by omega)]
theorem c6 (rs : List Int) : OC Try.prog 6 [.list 1 (ints rs)] (.bool true) (gone [.list 1 (ints rs)]) := by
  refine OC_pure (res := [.tmp 2]) 8 84 [] (fn := Try.f6) (by kernel_rfl) (by rfl) (by rfl) (by rfl) (by simp) (by decide) (by decide) ?_
  repeat' first
    | (with_reducible refine aw_lp (fun x : {x : Nat × Int // x.1 ≤ rs.length ∧ 0 ≤ x.2 ∧ x.2 ≤ 1000000 * (x.1 : Int)} => ⟨[.list 1 (ints rs), .undef, .bool false, .box [.int .i64 3, .int .i64 3, .int .i64 3, .int .i64 (-1), .list 1 (ints []), .int .i64 x.1.2], .int .i64 x.1.2, .int .i64 (x.1.1 : Int), .undef, .undef], [], []⟩) (fun x => rs.length - x.1.1) ⟨(0, 0), by simp⟩ (le_of ?_) ?_; simp [leL, AV.isH, ints_nil]; rintro ⟨⟨i, n⟩, hi, hn, hm⟩; simp only [] at hi hn hm)
    | (with_reducible refine aw_late 10 8 t_mix (by kernel_rfl) fun K hK => ?_; obtain ⟨hv, hw, ⟨hp, ha, hv2⟩ | ⟨hp, ha⟩⟩ := add_cases n rs[i] hn (by omega) (by omega) (by omega))
    | with_reducible refine kloop ⟨(i + 1, n + rs[i]), by omega, by omega, by simp only []; omega⟩ (by rw [wr_inc ‹_› (by omega)]; refine le_of ?_; simp [leL, AV.isH, ints_nil]; done) (by simp only []; omega)
    | with_reducible refine kloop ⟨(i + 1, n), by omega, by omega, by simp only []; omega⟩ (by rw [wr_inc ‹_› (by omega)]; refine le_of ?_; simp [leL, AV.isH, ints_nil]; done) (by simp only []; omega)
    | with_reducible refine aw_sq ?_
    | with_reducible refine aw_blk ?_
    | with_reducible refine aw_reg fun K hK => ?_
    | with_reducible refine aw_dr 10 t_mix (by kernel_rfl) fun K hK => ?_
    | with_reducible refine aw_skip ?_
    | with_reducible refine aw_ret ?_
    | with_reducible refine aw_exit ?_
    | with_reducible refine aw_cnd fun T E hT hE => ?_
    | with_reducible refine kseq ?_
    | with_reducible refine kseq_r ?_
    | with_reducible refine kseq_e ?_
    | with_reducible refine kblk ?_
    | with_reducible refine kblk_r ?_
    | with_reducible refine kblk_hit ?_
    | with_reducible refine kblk_miss rfl ?_
    | with_reducible refine kloop_r ?_
    | with_reducible refine kloop_e ?_
    | with_reducible refine kend_r ?_
    | with_reducible refine kend_n ?_
    | with_reducible refine gop_t ?_
    | with_reducible refine gop_f ?_
    | with_reducible refine hb_t ?_
    | with_reducible refine hb_f ?_
    | with_reducible refine cond_t ?_
    | with_reducible refine cond_f ?_
    | with_reducible refine gsplit_nd (fun h => ?_) (fun h => ?_)
    | with_reducible refine gsplit_d (fun h => ?_) (fun h => ?_)
    | with_reducible refine hbsplit_nd (fun h => ?_) (fun h => ?_)
    | with_reducible refine hbsplit_d (fun h => ?_) (fun h => ?_)
    | with_reducible refine cond_nd (fun h => ?_) (fun h => ?_)
    | with_reducible refine cond_d (fun h => ?_) (fun h => ?_)
    | with_reducible refine gsplit_n (fun h => ?_) (fun h => ?_)
    | with_reducible refine gsplit (fun h => ?_) (fun h => ?_)
    | with_reducible refine hbsplit_n (fun h => ?_) (fun h => ?_)
    | with_reducible refine hbsplit (fun h => ?_) (fun h => ?_)
    | with_reducible refine cond_n (fun h => ?_) (fun h => ?_)
    | with_reducible refine cond_b (fun h => ?_) (fun h => ?_)
    | with_reducible refine call_go (c9) (by simp [scalar]) ?_
    | with_reducible refine hcallB_go (c9) (by simp [scalar]) ?_
    | with_reducible refine call_go (c11 _ _) (by simp [scalar]) ?_
    | with_reducible refine hcallB_go (c11 _ _) (by simp [scalar]) ?_
    | with_reducible refine call_go (c17 _ _ _ _ _ _ _) (by simp [scalar]) ?_
    | with_reducible refine hcallB_go (c17 _ _ _ _ _ _ _) (by simp [scalar]) ?_
    | with_reducible refine call_go (c19 _ _ _ _ _ _) (by simp [scalar]) ?_
    | with_reducible refine hcallB_go (c19 _ _ _ _ _ _) (by simp [scalar]) ?_
    | with_reducible refine call_go (c15 _ _ _ _ _ _) (by simp [scalar]) ?_
    | with_reducible refine hcallB_go (c15 _ _ _ _ _ _) (by simp [scalar]) ?_
    | with_reducible refine awH_goB (by decide) (by kernel_rfl) ?_
    | with_reducible refine awH_tail (by decide) ?_
    | with_reducible refine awH_nil ?_
    | (with_reducible change LateK _ _ _ _ _ _ _; refine late_go _ _ _ rfl rfl rfl ?_ ?_)
    | (with_reducible refine Kont.go hK ?_; clear hK K)
    | (with_reducible refine KT.go hT ?_; clear hT hE T E)
    | (with_reducible refine KT.go hE ?_; clear hT hE T E)
    | simp [*, Fend, St.init, St.get, St.put, St.apply, St.clean, putAll, lk, liveB, AV.pureC, AV.pureA, AV.pure, AV.isH, AV.isOwn, cv, ro, AV.seen, RO.cont, RO.take, AV.cellsL, AV.isU, bump, cellAt, nodeAt, setCell1, setAt, fz, fzs, fzss, gone, scalar, putD, putA, aMove, AV.ownify, aAssign, aPick, aBin, aBinOp, AV.cellV, storeL, aUn, aUnOp, aConv, aConvert, aExtract, aAlloc, AV.storable, aBox, collect, aField, aLoad, storeB, aStore, aIndex, aLen, aMins, conts, aMin, setFrom, fillA, takeL, aBuild, aStepF, plainL, zipT, guardV, callee?, contsR, plainR, purL, qv, dOk, hStepB, lastDst, keepT, noHL, condV, resV, resL, tupOf, StK, HSt, hStep, awOps_nil, awOps_cons, GOp_t, GOp_f, DoOp_n, DoOp_call, HGB_t, HGB_f, HKB_n, HKB_c, HSt_s, StK_s, int_beq, int_bne, min_if, f_boolT_3, f_boolT_30, f_boolT_4, f_fldT_24_5, f_fnOk_11, f_fnOk_15, f_fnOk_17, f_fnOk_19, f_fnOk_9, f_intT_3, f_intT_30, f_intT_4, f_ldT_24, f_ldT_3, f_slT_22, f_strT_22, f_szT_24, f_zeroC_24, int_beq, int_bne, min_if, ints_length, ints_nil, S.av, leL, newG, ints_at, nat_inj, canWait, zS]
  all_goals omega

end Go.Ga
