/- One of the texts of a proof by an abstract machine over the model. -/
import Derived.Test.YthlhjepijodemaaGaH
set_option linter.unusedSimpArgs false
set_option linter.unusedVariables false
namespace Go.Ga
open Go Go.AM Go.Proofs
set_option maxRecDepth 100000
set_option maxHeartbeats 4000000
theorem order_facts (a b o n x y : Int) (rs : List Int) (hv : valid a b 3 o rs n = true) (hn : ¬ 1152921504606846976 < n) (hx : 0 ≤ x ∧ x ≤ 4294967295) (hy : 0 ≤ y ∧ y ≤ 4294967295) :
    rs = [] ∧ o = -1 ∧ IntKind.wrap .i64 x = x ∧ IntKind.wrap .i64 y = y ∧ IntKind.wrap .i64 (-x) = -x ∧ add a b 3 (-1) [] n x = (⟨a, b, 3, -1, [], n + x⟩, 0) ∧ add a b 3 (-1) [] (n + x) y = (⟨a, b, 3, -1, [], n + x + y⟩, 0) ∧
    add a b 3 (-1) [] n y = (⟨a, b, 3, -1, [], n + y⟩, 0) ∧ add a b 3 (-1) [] (n + y) x = (⟨a, b, 3, -1, [], n + x + y⟩, 0) ∧ add a b 3 (-1) [] (n + x) (-x) = (⟨a, b, 3, -1, [], n⟩, 0) := by
  have hr := valid_rs hv
  have h0 := hv
  simp only [valid, decide_eq_true_eq] at h0
  have ho : o = -1 := by omega
  have key : ∀ m : Int, 0 ≤ m → m ≤ 4611686018427387904 → valid a b 3 (-1) [] m = true := fun m h h' => by
    unfold valid; rw [decide_eq_true_iff]; exact ⟨h0.1, h0.2.1, rfl, h, .inl ⟨rfl, rfl, h'⟩⟩
  have step : ∀ m d r : Int, 0 ≤ m → m ≤ 4611686018427387904 → 0 ≤ m + d → m + d ≤ 4611686018427387904 → m + d = r → add a b 3 (-1) [] m d = (⟨a, b, 3, -1, [], r⟩, 0) := fun m d r h1 h2 h3 h4 h5 => by
    unfold add
    rw [if_pos ⟨rfl, key m h1 h2⟩, if_pos ⟨h3, h4⟩, h5]
  exact ⟨hr, ho, wr _ (by omega) (by omega), wr _ (by omega) (by omega), wr _ (by omega) (by omega), step _ _ _ (by omega) (by omega) (by omega) (by omega) rfl, step _ _ _ (by omega) (by omega) (by omega) (by omega) rfl,
    step _ _ _ (by omega) (by omega) (by omega) (by omega) rfl, step _ _ _ (by omega) (by omega) (by omega) (by omega) (by omega), step _ _ _ (by omega) (by omega) (by omega) (by omega) (by omega)⟩
theorem c7 (a b k o : Int) (rs : List Int) (n : Int) (x y : Int) (hx : 0 ≤ x ∧ x ≤ 4294967295) (hy : 0 ≤ y ∧ y ≤ 4294967295) : OC Try.prog 7 [sync a b k o rs n, .int .u32 x, .int .u32 y] (.bool true) (gone [sync a b k o rs n, .int .u32 x, .int .u32 y]) := by
  by_cases hv : valid a b k o rs n = true
  by_cases hk : k = 3
  by_cases hn : 1152921504606846976 < n
  rotate_left
  subst hk
  obtain ⟨hr, ho, w1, w2, w3, a1, a2, a3, a4, a5⟩ := order_facts a b o n x y rs hv hn hx hy
  subst hr ho
  all_goals try rw [Bool.not_eq_true] at hv
  all_goals
    refine OC_pure (res := [.tmp 6]) 17 96 [] (fn := Try.f7) (by kernel_rfl) (by rfl) (by rfl) (by rfl) (by simp) (by decide) (by decide) ?_
    repeat' first
      | with_reducible refine aw_sq ?_
      | with_reducible refine aw_blk ?_
      | with_reducible refine aw_reg fun K hK => ?_
      | with_reducible refine aw_skip ?_
      | with_reducible refine aw_ret ?_
      | with_reducible refine aw_exit ?_
      | with_reducible refine aw_cnd fun T E hT hE => ?_
      | with_reducible refine kseq ?_
      | with_reducible refine kseq_r ?_
      | with_reducible refine kseq_e ?_
      | with_reducible refine kblk ?_
      | with_reducible refine kblk_r ?_
      | with_reducible refine kblk_hit ?_
      | with_reducible refine kblk_miss rfl ?_
      | with_reducible refine kloop_r ?_
      | with_reducible refine kloop_e ?_
      | with_reducible refine kend_r ?_
      | with_reducible refine kend_n ?_
      | with_reducible refine gop_t ?_
      | with_reducible refine gop_f ?_
      | with_reducible refine hb_t ?_
      | with_reducible refine hb_f ?_
      | with_reducible refine cond_t ?_
      | with_reducible refine cond_f ?_
      | with_reducible refine gsplit_nd (fun h => ?_) (fun h => ?_)
      | with_reducible refine gsplit_d (fun h => ?_) (fun h => ?_)
      | with_reducible refine hbsplit_nd (fun h => ?_) (fun h => ?_)
      | with_reducible refine hbsplit_d (fun h => ?_) (fun h => ?_)
      | with_reducible refine cond_nd (fun h => ?_) (fun h => ?_)
      | with_reducible refine cond_d (fun h => ?_) (fun h => ?_)
      | with_reducible refine gsplit_n (fun h => ?_) (fun h => ?_)
      | with_reducible refine gsplit (fun h => ?_) (fun h => ?_)
      | with_reducible refine hbsplit_n (fun h => ?_) (fun h => ?_)
      | with_reducible refine hbsplit (fun h => ?_) (fun h => ?_)
      | with_reducible refine cond_n (fun h => ?_) (fun h => ?_)
      | with_reducible refine cond_b (fun h => ?_) (fun h => ?_)
      | with_reducible refine call_go (c9) (by simp [scalar]) ?_
      | with_reducible refine hcallB_go (c9) (by simp [scalar]) ?_
      | with_reducible refine call_go (c16 _ _ _ _ _ _) (by simp [scalar]) ?_
      | with_reducible refine hcallB_go (c16 _ _ _ _ _ _) (by simp [scalar]) ?_
      | with_reducible refine call_go (c17 _ _ _ _ _ _ _) (by simp [scalar]) ?_
      | with_reducible refine hcallB_go (c17 _ _ _ _ _ _ _) (by simp [scalar]) ?_
      | with_reducible refine call_go (c10 _ _ _ _ _ _ _ _ _ _ _ _ (by first | (simp; done) | omega)) (by simp [scalar]) ?_
      | with_reducible refine hcallB_go (c10 _ _ _ _ _ _ _ _ _ _ _ _ (by first | (simp; done) | omega)) (by simp [scalar]) ?_
      | with_reducible refine awH_goB (by decide) (by kernel_rfl) ?_
      | with_reducible refine awH_tail (by decide) ?_
      | with_reducible refine awH_nil ?_
      | (with_reducible change LateK _ _ _ _ _ _ _; refine late_go _ _ _ rfl rfl rfl ?_ ?_)
      | (with_reducible refine Kont.go hK ?_; clear hK K)
      | (with_reducible refine KT.go hT ?_; clear hT hE T E)
      | (with_reducible refine KT.go hE ?_; clear hT hE T E)
      | simp [*, Fend, St.init, St.get, St.put, St.apply, St.clean, putAll, lk, liveB, AV.pureC, AV.pureA, AV.pure, AV.isH, AV.isOwn, cv, ro, AV.seen, RO.cont, RO.take, AV.cellsL, AV.isU, bump, cellAt, nodeAt, setCell1, setAt, fz, fzs, fzss, gone, scalar, putD, putA, aMove, AV.ownify, aAssign, aPick, aBin, aBinOp, AV.cellV, storeL, aUn, aUnOp, aConv, aConvert, aExtract, aAlloc, AV.storable, aBox, collect, aField, aLoad, storeB, aStore, aIndex, aLen, aMins, conts, aMin, setFrom, fillA, takeL, aBuild, aStepF, plainL, zipT, guardV, callee?, contsR, plainR, purL, qv, dOk, hStepB, lastDst, keepT, noHL, condV, resV, resL, tupOf, StK, HSt, hStep, awOps_nil, awOps_cons, GOp_t, GOp_f, DoOp_n, DoOp_call, HGB_t, HGB_f, HKB_n, HKB_c, HSt_s, StK_s, int_beq, int_bne, min_if, f_boolT_3, f_boolT_30, f_fldT_24_2, f_fldT_24_5, f_fnOk_10, f_fnOk_16, f_fnOk_17, f_fnOk_9, f_hasT_37, f_intT_3, f_intT_30, f_ldT_24, f_ldT_3, f_strT_3, f_strT_37, f_szT_24, f_zeroC_24, int_beq, int_bne, min_if, ints_length, ints_nil, S.av, leL, same_self]
end Go.Ga
