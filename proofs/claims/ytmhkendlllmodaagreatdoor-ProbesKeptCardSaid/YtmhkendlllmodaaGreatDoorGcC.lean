/- One of the texts of a proof by an abstract machine over the model. -/
import Derived.Test.YtmhkendlllmodaaGreatDoorGcFacts
set_option linter.unusedSimpArgs false
set_option linter.unusedVariables false
namespace Go.Gc
open Go Go.FM Go.Proofs
set_option maxRecDepth 100000
set_option maxHeartbeats 4000000
/-- an event -/
structure Ev where
  g : Int
  kind : Int
  obj : Int
  off : Int
  k : Int
  n : Int
  fn : Int
  pc : Int
  st : Int
  deriving DecidableEq
def Ev.row (e : Ev) : List FV := [.int .i64 e.g, .int .i64 e.kind, .int .i64 e.obj, .int .i64 e.off, .int .i64 e.k, .int .i64 e.n, .int .i64 e.fn, .int .i64 e.pc, .int .i64 e.st]
def evs (L : List Ev) : List (List FV) := L.map Ev.row
/-- a probe -/
structure Pb where
  fn : Int
  pc : Int
  reason : Int
  by_ : Int
  deriving DecidableEq
def Pb.row (e : Pb) : List FV := [.int .i64 e.fn, .int .i64 e.pc, .int .i64 e.reason, .int .i64 e.by_]
def pbs (L : List Pb) : List (List FV) := L.map Pb.row
theorem evs_length (L : List Ev) : (evs L).length = L.length := by simp [evs]
theorem pbs_length (L : List Pb) : (pbs L).length = L.length := by simp [pbs]
theorem evs_at {L : List Ev} {i : Nat} (h : i < (evs L).length) : (evs L)[i] = (L[i]'(by rwa [evs_length] at h)).row := by simp [evs]
theorem pbs_at {L : List Pb} {i : Nat} (h : i < (pbs L).length) : (pbs L)[i] = (L[i]'(by rwa [pbs_length] at h)).row := by simp [pbs]
theorem nlss_evs (L : List Ev) : nlss (evs L) = true := by
  induction L with
  | nil => rfl
  | cons r rs ih => simpa [evs, nlss, nls, nl, Ev.row] using ih
theorem nlss_pbs (L : List Pb) : nlss (pbs L) = true := by
  induction L with
  | nil => rfl
  | cons r rs ih => simpa [pbs, nlss, nls, nl, Pb.row] using ih
theorem nat_inj (m n : Nat) : ((m : Int) = (n : Int)) = (m = n) := by rw [Int.ofNat_inj]
theorem take_step {α : Type} {rs rs' : List α} {i : Nat} (h1 : i < rs.length) (h2 : i < rs'.length) (ht : rs.take i = rs'.take i) (he : rs[i] = rs'[i]) : rs.take (i + 1) = rs'.take (i + 1) := by
  rw [List.take_add_one, List.take_add_one, ht]
  simp only [List.getElem?_eq_getElem h1, List.getElem?_eq_getElem h2, he]
theorem Ev.ext9 (a b : Ev) : (a.g = b.g ∧ a.kind = b.kind ∧ a.obj = b.obj ∧ a.off = b.off ∧ a.k = b.k ∧ a.n = b.n ∧ a.fn = b.fn ∧ a.pc = b.pc ∧ a.st = b.st) ↔ a = b := by
  cases a; cases b; simp
theorem c31 (a b c : Int) : PC Tryz.prog Gl 31 [.int .i64 a, .int .i64 b, .int .i64 c] (.bool (decide (b ≤ a ∧ a ≤ c))) := by
  refine PC_go (res := [.tmp 6]) 7 15 [] (fun d ix => d :: ix) (fn := Tryz.f31) (by kernel_rfl) (by rfl) (by rfl) (by rfl) (by simp) (by decide) ?_
  repeat' first
    | with_reducible refine aw_sq ?_
    | with_reducible refine aw_blk ?_
    | with_reducible refine aw_reg fun K hK => ?_
    | with_reducible refine aw_skip ?_
    | with_reducible refine aw_ret ?_
    | with_reducible refine aw_exit ?_
    | with_reducible refine aw_cnd fun T E hT hE => ?_
    | with_reducible refine kseq ?_
    | with_reducible refine kseq_r ?_
    | with_reducible refine kseq_e ?_
    | with_reducible refine kblk ?_
    | with_reducible refine kblk_r ?_
    | with_reducible refine kblk_hit ?_
    | with_reducible refine kblk_miss rfl ?_
    | with_reducible refine kloop_r ?_
    | with_reducible refine kloop_e ?_
    | with_reducible refine pfin_r ?_
    | with_reducible refine pfin_n ?_
    | with_reducible refine nfin_r ?_
    | with_reducible refine nfin_n ?_
    | with_reducible refine gop_t ?_
    | with_reducible refine gop_f ?_
    | with_reducible refine cond_t ?_
    | with_reducible refine cond_f ?_
    | with_reducible refine gsplit_nd (fun h => ?_) (fun h => ?_)
    | with_reducible refine gsplit_d (fun h => ?_) (fun h => ?_)
    | with_reducible refine hgsplit_nd (fun h => ?_) (fun h => ?_)
    | with_reducible refine hgsplit_d (fun h => ?_) (fun h => ?_)
    | with_reducible refine cond_nd (fun h => ?_) (fun h => ?_)
    | with_reducible refine cond_d (fun h => ?_) (fun h => ?_)
    | with_reducible refine gsplit_n (fun h => ?_) (fun h => ?_)
    | with_reducible refine gsplit (fun h => ?_) (fun h => ?_)
    | with_reducible refine hgsplit_n (fun h => ?_) (fun h => ?_)
    | with_reducible refine hgsplit (fun h => ?_) (fun h => ?_)
    | with_reducible refine cond_n (fun h => ?_) (fun h => ?_)
    | with_reducible refine cond_b (fun h => ?_) (fun h => ?_)
    | with_reducible refine hnx_go rfl (by decide) fresh_noH ?_
    | with_reducible refine hnx_go rfl (by decide) (fresh_upd (by simp [upd, noH, ext, hpL_at, hpL_nil, *])) ?_
    | with_reducible refine awH_go (by decide) (by kernel_rfl) ?_
    | with_reducible refine awH_tail (by decide) ?_
    | (with_reducible refine Kont.go hK ?_; clear hK K)
    | (with_reducible refine KT.go hT ?_; clear hT hE T E)
    | (with_reducible refine KT.go hE ?_; clear hT hE T E)
    | simp [*, -List.all_flatten, -List.all_eq_true, ext_noH, FS.init, FS.get, FS.put, FS.clean, lk, upd, ext, noH, cv1, cv, rv, FV.isU, FV.cellV, FV.cellsL, FV.storable, fLoad, fField, fIndex, fLen, fBin, fUn, fConv, natOf, fSlice, setFrom, fillA, pv, pv1, pv2, wv, wAlloc, wBox, wStore, wBuildS, wMakeS, wMakeM, wMapU, wApp, srcA, chunks, upds, List.foldl_cons, List.foldl_nil, fLook, fNil, fUn2, fBits, fCmp, fCmpB, eqK, eqCells, eqV, FV.kd, eqNil, nilV, putD, fStep, callee?, guardV, keepT, lastDst, condV, resV, resL, tupOf, StK, wOps_nil, wOps_cons, GOp_t, GOp_f, DoOp_n, DoOp_c, hMake, HG_t, HG_f, HDo_n, HDo_c, nl, nls, nlss, frz, frzs, frzR, asR, asRs, Fend, PFin_s, frzRes_s, frzNRes_s, frzN, nf, nfs, hpL_at, hpL_nil, keyOk, f_Program_eqGuardType_Program_depth_3, f_boolT_3, f_byT_33, f_byT_42, f_byT_46, f_intT_3, f_kdT_3, f_kdT_33, f_kdT_46, f_nilT_3, f_stT_3, f_stT_33, f_stT_46, f_zeroC_33, f_zeroC_42, f_zeroC_46, f_zeroV_4]
  all_goals (simp_all)

end Go.Gc
