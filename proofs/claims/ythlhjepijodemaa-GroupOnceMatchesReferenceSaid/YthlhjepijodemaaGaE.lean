/- One of the texts of a proof by an abstract machine over the model. -/
import Derived.Test.YthlhjepijodemaaGaFacts
set_option linter.unusedSimpArgs false
set_option linter.unusedVariables false
namespace Go.Ga
open Go Go.AM Go.Proofs
set_option maxRecDepth 100000
set_option maxHeartbeats 4000000
theorem ints_at {rs : List Int} {i : Nat} (h : i < (ints rs).length) : (ints rs)[i] = [.int .i64 (rs[i]'(by rwa [ints_length] at h))] := by
  simp [ints]
theorem nat_inj (m n : Nat) : ((m : Int) = (n : Int)) = (m = n) := by rw [Int.ofNat_inj]
theorem wr_inc {i : Nat} {m : Nat} (h : i < m) (hm : m ≤ 1000000000) : IntKind.wrap .i64 ((i : Int) + 1) = ((i + 1 : Nat) : Int) := by rw [wr _ (by omega) (by omega)]; omega
theorem take_step {rs rs' : List Int} {i : Nat} (h1 : i < rs.length) (h2 : i < rs'.length) (ht : rs.take i = rs'.take i) (he : rs[i] = rs'[i]) : rs.take (i + 1) = rs'.take (i + 1) := by
  rw [List.take_add_one, List.take_add_one, ht]
  simp only [List.getElem?_eq_getElem h1, List.getElem?_eq_getElem h2, he]
theorem c27 (rs rs' : List Int) (hs : rs.length ≤ 1000000000) : OC Try.prog 27 [.list 1 (ints rs), .list 1 (ints rs')] (.bool (decide (rs = rs'))) (gone [.list 1 (ints rs), .list 1 (ints rs')]) := by
  by_cases hl : rs.length = rs'.length
  all_goals
    refine OC_pure (res := [.tmp 4]) 6 26 [] (fn := Try.f27) (by kernel_rfl) (by rfl) (by rfl) (by rfl) (by simp) (by decide) (by decide) ?_
    repeat' first
      | (with_reducible refine aw_lp (fun x : {i : Nat // i ≤ rs.length ∧ rs.take i = rs'.take i} => ⟨[.list 1 (ints rs), .list 1 (ints rs'), .undef, .undef, .bool false, .int .i64 (x.1:Int)], [], []⟩) (fun x => rs.length - x.1) ⟨0, by simp⟩ (le_of ?_) ?_; simp [leL, AV.isH]; rintro ⟨i, hi, ht⟩)
      | with_reducible refine kloop ⟨i + 1, by omega, take_step (by omega) (by omega) ht (by first | assumption | omega)⟩ (by rw [wr_inc ‹_› (by omega)]; refine le_of ?_; simp [leL, AV.isH]) (by simp only []; omega)
      | with_reducible refine aw_sq ?_
      | with_reducible refine aw_blk ?_
      | with_reducible refine aw_reg fun K hK => ?_
      | with_reducible refine aw_dr 8 t_mix (by kernel_rfl) fun K hK => ?_
      | with_reducible refine aw_skip ?_
      | with_reducible refine aw_ret ?_
      | with_reducible refine aw_exit ?_
      | with_reducible refine aw_cnd fun T E hT hE => ?_
      | with_reducible refine kseq ?_
      | with_reducible refine kseq_r ?_
      | with_reducible refine kseq_e ?_
      | with_reducible refine kblk ?_
      | with_reducible refine kblk_r ?_
      | with_reducible refine kblk_hit ?_
      | with_reducible refine kblk_miss rfl ?_
      | with_reducible refine kloop_r ?_
      | with_reducible refine kloop_e ?_
      | with_reducible refine kend_r ?_
      | with_reducible refine kend_n ?_
      | with_reducible refine gop_t ?_
      | with_reducible refine gop_f ?_
      | with_reducible refine hb_t ?_
      | with_reducible refine hb_f ?_
      | with_reducible refine cond_t ?_
      | with_reducible refine cond_f ?_
      | with_reducible refine gsplit_nd (fun h => ?_) (fun h => ?_)
      | with_reducible refine gsplit_d (fun h => ?_) (fun h => ?_)
      | with_reducible refine hbsplit_nd (fun h => ?_) (fun h => ?_)
      | with_reducible refine hbsplit_d (fun h => ?_) (fun h => ?_)
      | with_reducible refine cond_nd (fun h => ?_) (fun h => ?_)
      | with_reducible refine cond_d (fun h => ?_) (fun h => ?_)
      | with_reducible refine gsplit_n (fun h => ?_) (fun h => ?_)
      | with_reducible refine gsplit (fun h => ?_) (fun h => ?_)
      | with_reducible refine hbsplit_n (fun h => ?_) (fun h => ?_)
      | with_reducible refine hbsplit (fun h => ?_) (fun h => ?_)
      | with_reducible refine cond_n (fun h => ?_) (fun h => ?_)
      | with_reducible refine cond_b (fun h => ?_) (fun h => ?_)
      | with_reducible refine awH_goB (by decide) (by kernel_rfl) ?_
      | with_reducible refine awH_tail (by decide) ?_
      | with_reducible refine awH_nil ?_
      | (with_reducible change LateK _ _ _ _ _ _ _; refine late_go _ _ _ rfl rfl rfl ?_ ?_)
      | (with_reducible refine Kont.go hK ?_; clear hK K)
      | (with_reducible refine KT.go hT ?_; clear hT hE T E)
      | (with_reducible refine KT.go hE ?_; clear hT hE T E)
      | simp [*, Fend, St.init, St.get, St.put, St.apply, St.clean, putAll, lk, liveB, AV.pureC, AV.pureA, AV.pure, AV.isH, AV.isOwn, cv, ro, AV.seen, RO.cont, RO.take, AV.cellsL, AV.isU, bump, cellAt, nodeAt, setCell1, setAt, fz, fzs, fzss, gone, scalar, putD, putA, aMove, AV.ownify, aAssign, aPick, aBin, aBinOp, AV.cellV, storeL, aUn, aUnOp, aConv, aConvert, aExtract, aAlloc, AV.storable, aBox, collect, aField, aLoad, storeB, aStore, aIndex, aLen, aMins, conts, aMin, setFrom, fillA, takeL, aBuild, aStepF, plainL, zipT, guardV, callee?, contsR, plainR, purL, qv, dOk, hStepB, lastDst, keepT, noHL, condV, resV, resL, tupOf, StK, HSt, hStep, awOps_nil, awOps_cons, GOp_t, GOp_f, DoOp_n, DoOp_call, HGB_t, HGB_f, HKB_n, HKB_c, HSt_s, StK_s, int_beq, int_bne, min_if, f_boolT_3, f_intT_3, f_ldT_3, f_slT_22, f_strT_22, int_beq, int_bne, min_if, ints_length, ints_nil, S.av, leL, ints_at, nat_inj]
    all_goals first
      | (intro e; subst e; simp at hl; done)
      | (rwa [List.take_of_length_le (by omega), List.take_of_length_le (by omega)] at ht)
      | (intro e; subst e; simp_all; done)
end Go.Ga
