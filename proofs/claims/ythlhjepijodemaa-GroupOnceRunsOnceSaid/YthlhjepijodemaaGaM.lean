/- One of the texts of a proof by an abstract machine over the model. -/
import Derived.Test.YthlhjepijodemaaGaH
set_option linter.unusedSimpArgs false
set_option linter.unusedVariables false
namespace Go.Ga
open Go Go.AM Go.Proofs
set_option maxRecDepth 100000
set_option maxHeartbeats 4000000
def bools (rs : List Bool) : List (List AV) := rs.map fun r => [.bool r]
theorem bools_length (rs : List Bool) : (bools rs).length = rs.length := by simp [bools]
theorem bools_at {rs : List Bool} {i : Nat} (h : i < (bools rs).length) : (bools rs)[i] = [.bool (rs[i]'(by rwa [bools_length] at h))] := by
  simp [bools]
theorem rem8 (d : Int) (hd : 0 ≤ d ∧ d ≤ 255) : 0 ≤ d.tmod 8 ∧ d.tmod 8 < 8 ∧ IntKind.wrap .i64 (d.tmod 8) = d.tmod 8 := by
  have h : d.tmod 8 = d % 8 := Int.tmod_eq_emod_of_nonneg hd.1
  rw [h]
  exact ⟨by omega, by omega, wr _ (by omega) (by omega)⟩
theorem wl1 : IntKind.wrap .i64 1 = 1 := wr _ (by decide) (by decide)
theorem wl2 : IntKind.wrap .i64 2 = 2 := wr _ (by decide) (by decide)
abbrev onceQ (o c s : Int) : Prop := (s = 0 ∧ o = -1 ∧ c = 0) ∨ (s = 1 ∧ 0 ≤ o ∧ o < 8 ∧ c = 0) ∨ (s = 2 ∧ o = -1 ∧ c = 1)
theorem once_facts (o c s e : Int) (hq : onceQ o c s) (h0 : 0 ≤ e) (h1 : e < 8) :
    onceOf 4 o c = s ∧ valid 1 1 4 o [] c = true ∧ begin_ 1 1 4 o [] c e = (if s = 0 then (⟨1, 1, 4, e, [], 0⟩, 0) else (zS, 11)) ∧ end_ 1 1 4 o [] c = (if s = 1 then (⟨1, 1, 4, -1, [], 1⟩, 0) else (zS, 11)) ∧
    onceOf 4 e 0 = 1 ∧ valid 1 1 4 e [] 0 = true ∧ onceOf 4 (-1) 1 = 2 ∧ valid 1 1 4 (-1) [] 1 = true := by
  have hs : onceOf 4 o c = s := by
    unfold onceOf
    rcases hq with ⟨rfl, rfl, rfl⟩ | ⟨rfl, h2, h3, rfl⟩ | ⟨rfl, rfl, rfl⟩
    · simp
    · simp [h2]
    · simp
  have hv : valid 1 1 4 o [] c = true := by
    unfold valid; rw [decide_eq_true_iff]
    rcases hq with ⟨rfl, rfl, rfl⟩ | ⟨rfl, h2, h3, rfl⟩ | ⟨rfl, rfl, rfl⟩
    · decide
    · exact ⟨by decide, by decide, rfl, by decide, .inr ⟨rfl, by omega, h3, by decide, .inr rfl⟩⟩
    · decide
  refine ⟨hs, hv, ?_, ?_, ?_, ?_, by decide, by decide⟩
  · unfold begin_
    rw [if_pos ⟨rfl, hv, h0, h1⟩, hs]
    rcases hq with ⟨rfl, rfl, rfl⟩ | ⟨rfl, h2, h3, rfl⟩ | ⟨rfl, rfl, rfl⟩ <;> simp
  · unfold end_
    rw [if_pos ⟨rfl, hv⟩, hs]
  · unfold onceOf; simp [h0]
  · unfold valid; rw [decide_eq_true_iff]; exact ⟨by decide, by decide, rfl, by decide, .inr ⟨rfl, by omega, h1, by decide, .inr rfl⟩⟩
theorem c8 (rs : List Bool) (d : Int) (hd : 0 ≤ d ∧ d ≤ 255) : OC Try.prog 8 [.list 1 (bools rs), .int .u8 d] (.bool true) (gone [.list 1 (bools rs), .int .u8 d]) := by
  obtain ⟨e0, e1, ew⟩ := rem8 d hd
  refine OC_pure (res := [.tmp 4]) 10 63 [] (fn := Try.f8) (by kernel_rfl) (by rfl) (by rfl) (by rfl) (by simp) (by decide) (by decide) ?_
  repeat' first
    | (with_reducible refine aw_lp (fun x : {x : Nat × Int × Int × Int // x.1 ≤ rs.length ∧ onceQ x.2.1 x.2.2.1 x.2.2.2} => ⟨[.list 1 (bools rs), .int .u8 d, .undef, .undef, .bool false, .box [.int .i64 1, .int .i64 1, .int .i64 4, .int .i64 x.1.2.1, .list 1 (ints []), .int .i64 x.1.2.2.1], .int .i64 x.1.2.2.2, .int .i64 (x.1.1 : Int), .undef, .undef], [], []⟩) (fun x => rs.length - x.1.1) ⟨(0, -1, 0, 0), Nat.zero_le _, Or.inl ⟨rfl, rfl, rfl⟩⟩ (le_of ?_) ?_; simp [leL, AV.isH, ints_nil]; rintro ⟨⟨i, o, c, s⟩, hi, hq⟩; simp only [] at hi hq; obtain ⟨f1, f2, f3, f4, f5, f6, f7, f8⟩ := once_facts o c s (d.tmod 8) hq e0 e1; rcases hq with ⟨rfl, rfl, rfl⟩ | ⟨rfl, h2, h3, rfl⟩ | ⟨rfl, rfl, rfl⟩)
    | (with_reducible refine kloop ⟨(i + 1, -1, 0, 0), by simp only []; omega, Or.inl ⟨rfl, rfl, rfl⟩⟩ ?_ (by simp only []; omega); rw [wr_inc ‹_› (by omega)]; refine le_of ?_; simp [leL, AV.isH, ints_nil]; done)
    | (with_reducible refine kloop ⟨(i + 1, d.tmod 8, 0, 1), by simp only []; omega, Or.inr (Or.inl ⟨rfl, e0, e1, rfl⟩)⟩ ?_ (by simp only []; omega); rw [wr_inc ‹_› (by omega)]; refine le_of ?_; simp [leL, AV.isH, ints_nil]; done)
    | (with_reducible refine kloop ⟨(i + 1, o, 0, 1), by simp only []; omega, Or.inr (Or.inl ⟨rfl, h2, h3, rfl⟩)⟩ ?_ (by simp only []; omega); rw [wr_inc ‹_› (by omega)]; refine le_of ?_; simp [leL, AV.isH, ints_nil]; done)
    | (with_reducible refine kloop ⟨(i + 1, -1, 1, 2), by simp only []; omega, Or.inr (Or.inr ⟨rfl, rfl, rfl⟩)⟩ ?_ (by simp only []; omega); rw [wr_inc ‹_› (by omega)]; refine le_of ?_; simp [leL, AV.isH, ints_nil]; done)
    | with_reducible refine aw_sq ?_
    | with_reducible refine aw_blk ?_
    | with_reducible refine aw_reg fun K hK => ?_
    | with_reducible refine aw_skip ?_
    | with_reducible refine aw_ret ?_
    | with_reducible refine aw_exit ?_
    | with_reducible refine aw_cnd fun T E hT hE => ?_
    | with_reducible refine kseq ?_
    | with_reducible refine kseq_r ?_
    | with_reducible refine kseq_e ?_
    | with_reducible refine kblk ?_
    | with_reducible refine kblk_r ?_
    | with_reducible refine kblk_hit ?_
    | with_reducible refine kblk_miss rfl ?_
    | with_reducible refine kloop_r ?_
    | with_reducible refine kloop_e ?_
    | with_reducible refine kend_r ?_
    | with_reducible refine kend_n ?_
    | with_reducible refine gop_t ?_
    | with_reducible refine gop_f ?_
    | with_reducible refine hb_t ?_
    | with_reducible refine hb_f ?_
    | with_reducible refine cond_t ?_
    | with_reducible refine cond_f ?_
    | with_reducible refine gsplit_nd (fun h => ?_) (fun h => ?_)
    | with_reducible refine gsplit_d (fun h => ?_) (fun h => ?_)
    | with_reducible refine hbsplit_nd (fun h => ?_) (fun h => ?_)
    | with_reducible refine hbsplit_d (fun h => ?_) (fun h => ?_)
    | with_reducible refine cond_nd (fun h => ?_) (fun h => ?_)
    | with_reducible refine cond_d (fun h => ?_) (fun h => ?_)
    | with_reducible refine gsplit_n (fun h => ?_) (fun h => ?_)
    | with_reducible refine gsplit (fun h => ?_) (fun h => ?_)
    | with_reducible refine hbsplit_n (fun h => ?_) (fun h => ?_)
    | with_reducible refine hbsplit (fun h => ?_) (fun h => ?_)
    | with_reducible refine cond_n (fun h => ?_) (fun h => ?_)
    | with_reducible refine cond_b (fun h => ?_) (fun h => ?_)
    | with_reducible refine call_go (c9) (by simp [scalar]) ?_
    | with_reducible refine hcallB_go (c9) (by simp [scalar]) ?_
    | with_reducible refine call_go (c13 _ _) (by simp [scalar]) ?_
    | with_reducible refine hcallB_go (c13 _ _) (by simp [scalar]) ?_
    | with_reducible refine call_go (c15 _ _ _ _ _ _) (by simp [scalar]) ?_
    | with_reducible refine hcallB_go (c15 _ _ _ _ _ _) (by simp [scalar]) ?_
    | with_reducible refine call_go (c21 _ _ _ _ _ _ _) (by simp [scalar]) ?_
    | with_reducible refine hcallB_go (c21 _ _ _ _ _ _ _) (by simp [scalar]) ?_
    | with_reducible refine call_go (c23 _ _ _ _ _ _) (by simp [scalar]) ?_
    | with_reducible refine hcallB_go (c23 _ _ _ _ _ _) (by simp [scalar]) ?_
    | with_reducible refine call_go (c25 _ _ _ _ _ _) (by simp [scalar]) ?_
    | with_reducible refine hcallB_go (c25 _ _ _ _ _ _) (by simp [scalar]) ?_
    | with_reducible refine awH_goB (by decide) (by kernel_rfl) ?_
    | with_reducible refine awH_tail (by decide) ?_
    | with_reducible refine awH_nil ?_
    | (with_reducible change LateK _ _ _ _ _ _ _; refine late_go _ _ _ rfl rfl rfl ?_ ?_)
    | (with_reducible refine Kont.go hK ?_; clear hK K)
    | (with_reducible refine KT.go hT ?_; clear hT hE T E)
    | (with_reducible refine KT.go hE ?_; clear hT hE T E)
    | simp [*, Fend, St.init, St.get, St.put, St.apply, St.clean, putAll, lk, liveB, AV.pureC, AV.pureA, AV.pure, AV.isH, AV.isOwn, cv, ro, AV.seen, RO.cont, RO.take, AV.cellsL, AV.isU, bump, cellAt, nodeAt, setCell1, setAt, fz, fzs, fzss, gone, scalar, putD, putA, aMove, AV.ownify, aAssign, aPick, aBin, aBinOp, AV.cellV, storeL, aUn, aUnOp, aConv, aConvert, aExtract, aAlloc, AV.storable, aBox, collect, aField, aLoad, storeB, aStore, aIndex, aLen, aMins, conts, aMin, setFrom, fillA, takeL, aBuild, aStepF, plainL, zipT, guardV, callee?, contsR, plainR, purL, qv, dOk, hStepB, lastDst, keepT, noHL, condV, resV, resL, tupOf, StK, HSt, hStep, awOps_nil, awOps_cons, GOp_t, GOp_f, DoOp_n, DoOp_call, HGB_t, HGB_f, HKB_n, HKB_c, HSt_s, StK_s, int_beq, int_bne, min_if, f_boolT_3, f_boolT_30, f_boolT_4, f_boolT_5, f_fnOk_13, f_fnOk_15, f_fnOk_21, f_fnOk_23, f_fnOk_25, f_fnOk_9, f_hasT_5, f_intT_3, f_intT_30, f_intT_4, f_intT_5, f_ldT_24, f_ldT_4, f_slT_39, f_strT_3, f_strT_39, f_strT_5, f_szT_24, f_zeroC_24, int_beq, int_bne, min_if, ints_length, ints_nil, S.av, leL, newO, bools_length, bools_at, nat_inj, zS, wl1, wl2]

end Go.Ga
