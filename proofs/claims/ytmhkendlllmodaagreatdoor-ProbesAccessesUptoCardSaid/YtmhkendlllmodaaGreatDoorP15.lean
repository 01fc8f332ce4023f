/- Texts of a proof by an abstract machine over the model. -/
import Derived.Test.YtmhkendlllmodaaGreatDoorP14
import Derived.Test.YtmhkendlllmodaaGreatDoorP6
import Derived.Test.YtmhkendlllmodaaGreatDoorP11
import Derived.Test.YtmhkendlllmodaaGreatDoorP9
import Derived.Test.YtmhkendlllmodaaGreatDoorP8
set_option linter.unusedSimpArgs false
set_option linter.unusedVariables false
namespace Go.Gc
open Go Go.FM Go.Gv Go.Proofs
set_option maxRecDepth 100000
set_option maxHeartbeats 4000000
theorem case_len (l : List Ins) : l.length = 0 ∨ (¬ l.length = 0 ∧ (1 : Int) ≤ (l.length : Int) ∧ ∃ z : Ins, l[l.length - 1]? = some z ∧ (inss l)[l.length - 1]? = some [.int .i64 z.op, .int .i64 z.a, .int .i64 z.b, .int .i64 z.c, .int .i64 z.d] ∧ opAt l ((l.length : Int) - 1) = z.op) := by
  by_cases h : l.length = 0
  · exact .inl h
  · refine .inr ⟨h, by omega, l[l.length - 1]'(by omega), List.getElem?_eq_getElem _, ?_, ?_⟩
    · rw [List.getElem?_eq_getElem (by rw [inss_length]; omega), inss_at]; rfl
    · rw [opAt_def _ _ (by omega)]
      congr 2
      omega
theorem case_nm (s : ByteArray) : ((s.data.toList == []) = true ∧ s.data.toList = []) ∨ ((s.data.toList == []) = false ∧ ¬ s.data.toList = []) := by
  cases h : s.data.toList with
  | nil => left; simp
  | cons a b => right; simp
theorem case_lt' {i n : Nat} (h : i ≤ n) : i < n ∨ (¬ i < n ∧ i = n) := by omega
theorem loopI_at {p : Pg} {f : FnD} {i : Nat} {e : Int} (h : i < f.code.length) : loopI p f (f.code.drop i) e = (instrI p f f.code[i] && (if f.code[i].op = 51 then !decide (W (e - 1) < 0) && loopI p f (f.code.drop (i + 1)) (W (e - 1)) else if 0 < e then false else if f.code[i].op = 50 then !decide (f.code[i].b < 0) && loopI p f (f.code.drop (i + 1)) f.code[i].b else !decide (e < 0) && loopI p f (f.code.drop (i + 1)) e)) := by
  rw [List.drop_eq_getElem_cons h, loopI]
theorem loopR_at {p : Pg} {f : FnD} {i : Nat} {e : Int} (h : i < f.code.length) : loopR p f (f.code.drop i) e = (if decide (0 < e) = decide (f.code[i].op = 51) then instrR p f f.code[i] && loopR p f (f.code.drop (i + 1)) (if f.code[i].op = 50 then f.code[i].b else if 0 < e then W (e - 1) else e) else false) := by
  rw [List.drop_eq_getElem_cons h, loopR]
theorem drop_all {α : Type} (l : List α) : l.drop l.length = [] := by simp
end Go.Gc
namespace Go.Gc
open Go Go.FM Go.Gv Go.Proofs
set_option maxRecDepth 100000
set_option maxHeartbeats 4000000
theorem all_at {α : Type} (l : List α) (q : α → Bool) {i : Nat} (h : i < l.length) : (l.drop i).all q = (q l[i] && (l.drop (i + 1)).all q) := by
  rw [List.drop_eq_getElem_cons h, List.all_cons]
theorem all_end {α : Type} (l : List α) (q : α → Bool) : (l.drop l.length).all q = true := by simp
theorem all0 {α : Type} (l : List α) (q : α → Bool) : l.all q = (l.drop 0).all q := rfl
theorem c37 (l : List (List Int)) (hl : l.length ≤ 2000000) (hb : ∀ x ∈ l, x.length ≤ 2000000) : PC Tryz.prog Gl 37 [.list 1 (lays l)] (.bool (layR l)) := by
  refine PC_go (res := [.tmp 2]) 5 47 [] (fun d ix => d :: ix) (fn := Tryz.f37) (by kernel_rfl) (by rfl) (by rfl) (by rfl) (by simp) (by decide) ?_
  repeat' first
    | ((with_reducible refine lp_here ?_); refine aw_lpg (fun y : {i : Nat // i ≤ l.length ∧ l.all layB = (l.drop i).all layB} => (⟨[.list 1 (lays l), .undef, .bool false, .int .i64 (y.1 : Int), .undef], [], hpL [], []⟩ : FS)) (fun y => l.length - y.1) ⟨0, by simp⟩ (gk_lst [] (fun _ h => h) (by rfl) ?_ ?_ ?_) ?_; (focus (simp [*, nle_append, nle_cons, nle_nil, nlss_append, nlss, nls, nl, simVs, simV, simT, simH, simO, renO, innO, ren, inn, rens, inns, renss, innss, rene, inne, bk, hpL, upd, noH, ext, lk, renss_nl, innss_nl, rens_nl, inns_nl, nlss_ints, ints_length, ints_append, ints_one, ints_nil, nlss_inss, inss_length, inss_append, inss_one, inss_nil, nlss_fns, fns_length, fns_append, fns_one, fns_nil, nlss_gbs, gbs_length, gbs_append, gbs_one, gbs_nil, nlss_lays, lays_length, lays_append, lays_one, lays_nil, List.take_of_length_le, List.filter_append, *]; done)); (focus (simp [*, nle_append, nle_cons, nle_nil, nlss_append, nlss, nls, nl, simVs, simV, simT, simH, simO, renO, innO, ren, inn, rens, inns, renss, innss, rene, inne, bk, hpL, upd, noH, ext, lk, renss_nl, innss_nl, rens_nl, inns_nl, nlss_ints, ints_length, ints_append, ints_one, ints_nil, nlss_inss, inss_length, inss_append, inss_one, inss_nil, nlss_fns, fns_length, fns_append, fns_one, fns_nil, nlss_gbs, gbs_length, gbs_append, gbs_one, gbs_nil, nlss_lays, lays_length, lays_append, lays_one, lays_nil, List.take_of_length_le, List.filter_append]; done)); (focus (simp [*, nle_append, nle_cons, nle_nil, nlss_append, nlss, nls, nl, simVs, simV, simT, simH, simO, renO, innO, ren, inn, rens, inns, renss, innss, rene, inne, bk, hpL, upd, noH, ext, lk, renss_nl, innss_nl, rens_nl, inns_nl, nlss_ints, ints_length, ints_append, ints_one, ints_nil, nlss_inss, inss_length, inss_append, inss_one, inss_nil, nlss_fns, fns_length, fns_append, fns_one, fns_nil, nlss_gbs, gbs_length, gbs_append, gbs_one, gbs_nil, nlss_lays, lays_length, lays_append, lays_one, lays_nil, List.take_of_length_le, List.filter_append, *]; done)); rintro ⟨i, hi, hk⟩; (try dsimp only at hi hk); have hk2 := hk; rcases case_lt' hi with hlt | ⟨hlt, rfl⟩; rotate_left; rw [all_end] at hk2; rotate_left; rw [all_at _ _ hlt] at hk2; have wi := wli hlt (by omega); have hle := hb _ (List.getElem_mem hlt))
    | ((with_reducible refine lp_here ?_); refine aw_lpg (fun y : {k : Nat // k ≤ (l[i]'hlt).length ∧ (l[i]'hlt).all kindB = ((l[i]'hlt).drop k).all kindB} => (⟨[.list 1 (lays l), .undef, .bool false, .int .i64 (i : Int), .int .i64 (y.1 : Int)], [], hpL [], []⟩ : FS)) (fun y => (l[i]'hlt).length - y.1) ⟨0, by simp⟩ (gk_lst [] (fun _ h => h) (by rfl) ?_ ?_ ?_) ?_; (focus (simp [*, nle_append, nle_cons, nle_nil, nlss_append, nlss, nls, nl, simVs, simV, simT, simH, simO, renO, innO, ren, inn, rens, inns, renss, innss, rene, inne, bk, hpL, upd, noH, ext, lk, renss_nl, innss_nl, rens_nl, inns_nl, nlss_ints, ints_length, ints_append, ints_one, ints_nil, nlss_inss, inss_length, inss_append, inss_one, inss_nil, nlss_fns, fns_length, fns_append, fns_one, fns_nil, nlss_gbs, gbs_length, gbs_append, gbs_one, gbs_nil, nlss_lays, lays_length, lays_append, lays_one, lays_nil, List.take_of_length_le, List.filter_append, *]; done)); (focus (simp [*, nle_append, nle_cons, nle_nil, nlss_append, nlss, nls, nl, simVs, simV, simT, simH, simO, renO, innO, ren, inn, rens, inns, renss, innss, rene, inne, bk, hpL, upd, noH, ext, lk, renss_nl, innss_nl, rens_nl, inns_nl, nlss_ints, ints_length, ints_append, ints_one, ints_nil, nlss_inss, inss_length, inss_append, inss_one, inss_nil, nlss_fns, fns_length, fns_append, fns_one, fns_nil, nlss_gbs, gbs_length, gbs_append, gbs_one, gbs_nil, nlss_lays, lays_length, lays_append, lays_one, lays_nil, List.take_of_length_le, List.filter_append]; done)); (focus (simp [*, nle_append, nle_cons, nle_nil, nlss_append, nlss, nls, nl, simVs, simV, simT, simH, simO, renO, innO, ren, inn, rens, inns, renss, innss, rene, inne, bk, hpL, upd, noH, ext, lk, renss_nl, innss_nl, rens_nl, inns_nl, nlss_ints, ints_length, ints_append, ints_one, ints_nil, nlss_inss, inss_length, inss_append, inss_one, inss_nil, nlss_fns, fns_length, fns_append, fns_one, fns_nil, nlss_gbs, gbs_length, gbs_append, gbs_one, gbs_nil, nlss_lays, lays_length, lays_append, lays_one, lays_nil, List.take_of_length_le, List.filter_append, *]; done)); rintro ⟨k, hj, hm⟩; (try dsimp only at hj hm); have hm2 := hm; rcases case_lt' hj with hlk | ⟨hlk, rfl⟩; rotate_left; rw [all_end] at hm2; rotate_left; rw [all_at _ _ hlk] at hm2; have wk := wli hlk (by omega))
    | ((with_reducible refine kl_here ?_); refine kloopg (⟨i + 1, by omega, by rw [hk2, show layB l[i] = true from by rw [layB, hm2]; simp; omega, Bool.true_and]⟩) (gk_lst [] (fun _ h => h) (by rfl) ?_ ?_ ?_) (by dsimp only; omega); (focus (simp [*, nle_append, nle_cons, nle_nil, nlss_append, nlss, nls, nl, simVs, simV, simT, simH, simO, renO, innO, ren, inn, rens, inns, renss, innss, rene, inne, bk, hpL, upd, noH, ext, lk, renss_nl, innss_nl, rens_nl, inns_nl, nlss_ints, ints_length, ints_append, ints_one, ints_nil, nlss_inss, inss_length, inss_append, inss_one, inss_nil, nlss_fns, fns_length, fns_append, fns_one, fns_nil, nlss_gbs, gbs_length, gbs_append, gbs_one, gbs_nil, nlss_lays, lays_length, lays_append, lays_one, lays_nil, List.take_of_length_le, List.filter_append, *]; done)); (focus (simp [*, nle_append, nle_cons, nle_nil, nlss_append, nlss, nls, nl, simVs, simV, simT, simH, simO, renO, innO, ren, inn, rens, inns, renss, innss, rene, inne, bk, hpL, upd, noH, ext, lk, renss_nl, innss_nl, rens_nl, inns_nl, nlss_ints, ints_length, ints_append, ints_one, ints_nil, nlss_inss, inss_length, inss_append, inss_one, inss_nil, nlss_fns, fns_length, fns_append, fns_one, fns_nil, nlss_gbs, gbs_length, gbs_append, gbs_one, gbs_nil, nlss_lays, lays_length, lays_append, lays_one, lays_nil, List.take_of_length_le, List.filter_append, *]; done)); (focus (simp [*, nle_append, nle_cons, nle_nil, nlss_append, nlss, nls, nl, simVs, simV, simT, simH, simO, renO, innO, ren, inn, rens, inns, renss, innss, rene, inne, bk, hpL, upd, noH, ext, lk, renss_nl, innss_nl, rens_nl, inns_nl, nlss_ints, ints_length, ints_append, ints_one, ints_nil, nlss_inss, inss_length, inss_append, inss_one, inss_nil, nlss_fns, fns_length, fns_append, fns_one, fns_nil, nlss_gbs, gbs_length, gbs_append, gbs_one, gbs_nil, nlss_lays, lays_length, lays_append, lays_one, lays_nil, List.take_of_length_le, List.filter_append, *]; done)))
    | ((with_reducible refine kl_here ?_); refine kloopg (⟨k + 1, by omega, by rw [hm2]; simp [kindB, *]⟩) (gk_lst [] (fun _ h => h) (by rfl) ?_ ?_ ?_) (by dsimp only; omega); (focus (simp [*, nle_append, nle_cons, nle_nil, nlss_append, nlss, nls, nl, simVs, simV, simT, simH, simO, renO, innO, ren, inn, rens, inns, renss, innss, rene, inne, bk, hpL, upd, noH, ext, lk, renss_nl, innss_nl, rens_nl, inns_nl, nlss_ints, ints_length, ints_append, ints_one, ints_nil, nlss_inss, inss_length, inss_append, inss_one, inss_nil, nlss_fns, fns_length, fns_append, fns_one, fns_nil, nlss_gbs, gbs_length, gbs_append, gbs_one, gbs_nil, nlss_lays, lays_length, lays_append, lays_one, lays_nil, List.take_of_length_le, List.filter_append, *]; done)); (focus (simp [*, nle_append, nle_cons, nle_nil, nlss_append, nlss, nls, nl, simVs, simV, simT, simH, simO, renO, innO, ren, inn, rens, inns, renss, innss, rene, inne, bk, hpL, upd, noH, ext, lk, renss_nl, innss_nl, rens_nl, inns_nl, nlss_ints, ints_length, ints_append, ints_one, ints_nil, nlss_inss, inss_length, inss_append, inss_one, inss_nil, nlss_fns, fns_length, fns_append, fns_one, fns_nil, nlss_gbs, gbs_length, gbs_append, gbs_one, gbs_nil, nlss_lays, lays_length, lays_append, lays_one, lays_nil, List.take_of_length_le, List.filter_append, *]; done)); (focus (simp [*, nle_append, nle_cons, nle_nil, nlss_append, nlss, nls, nl, simVs, simV, simT, simH, simO, renO, innO, ren, inn, rens, inns, renss, innss, rene, inne, bk, hpL, upd, noH, ext, lk, renss_nl, innss_nl, rens_nl, inns_nl, nlss_ints, ints_length, ints_append, ints_one, ints_nil, nlss_inss, inss_length, inss_append, inss_one, inss_nil, nlss_fns, fns_length, fns_append, fns_one, fns_nil, nlss_gbs, gbs_length, gbs_append, gbs_one, gbs_nil, nlss_lays, lays_length, lays_append, lays_one, lays_nil, List.take_of_length_le, List.filter_append, *]; done)))
    | with_reducible refine aw_sq ?_
    | with_reducible refine aw_blk ?_
    | with_reducible refine aw_reg fun K hK => ?_
    | with_reducible refine aw_skip ?_
    | with_reducible refine aw_ret ?_
    | with_reducible refine aw_exit ?_
    | with_reducible refine aw_cnd fun T E hT hE => ?_
    | with_reducible refine kseq ?_
    | with_reducible refine kseq_r ?_
    | with_reducible refine kseq_e ?_
    | with_reducible refine kblk ?_
    | with_reducible refine kblk_r ?_
    | with_reducible refine kblk_hit ?_
    | with_reducible refine kblk_miss rfl ?_
    | with_reducible refine kloop_r ?_
    | with_reducible refine kloop_e ?_
    | with_reducible refine pfin_r ?_
    | with_reducible refine pfin_n ?_
    | with_reducible refine nfin_r ?_
    | with_reducible refine nfin_n ?_
    | with_reducible refine gop_t ?_
    | with_reducible refine gop_f ?_
    | with_reducible refine cond_t ?_
    | with_reducible refine cond_f ?_
    | with_reducible refine gsplit_nd (fun h => ?_) (fun h => ?_)
    | with_reducible refine gsplit_d (fun h => ?_) (fun h => ?_)
    | with_reducible refine hgsplit_nd (fun h => ?_) (fun h => ?_)
    | with_reducible refine hgsplit_d (fun h => ?_) (fun h => ?_)
    | with_reducible refine cond_nd (fun h => ?_) (fun h => ?_)
    | with_reducible refine cond_d (fun h => ?_) (fun h => ?_)
    | with_reducible refine gsplit_n (fun h => ?_) (fun h => ?_)
    | with_reducible refine gsplit (fun h => ?_) (fun h => ?_)
    | with_reducible refine hgsplit_n (fun h => ?_) (fun h => ?_)
    | with_reducible refine hgsplit (fun h => ?_) (fun h => ?_)
    | with_reducible refine cond_n (fun h => ?_) (fun h => ?_)
    | with_reducible refine cond_b (fun h => ?_) (fun h => ?_)
    | with_reducible refine hnx_go rfl (by decide) fresh_noH ?_
    | with_reducible refine hnx_go rfl (by decide) (fresh_upd (by simp [upd, noH, ext, hpL_at, hpL_nil, *])) ?_
    | with_reducible refine awH_go (by decide) (by kernel_rfl) ?_
    | with_reducible refine awH_tail (by decide) ?_
    | (with_reducible refine Kont.go hK ?_; clear hK K)
    | (with_reducible refine KT.go hT ?_; clear hT hE T E)
    | (with_reducible refine KT.go hE ?_; clear hT hE T E)
    | simp [*, -List.all_flatten, -List.all_eq_true, ext_noH, FS.init, FS.get, FS.put, FS.clean, lk, upd, ext, noH, cv1, cv, rv, FV.isU, FV.cellV, FV.cellsL, FV.storable, fLoad, fField, fIndex, fLen, fBin, fUn, fConv, natOf, fSlice, setFrom, fillA, pv, pv1, pv2, wv, wAlloc, wBox, wStore, wBuildS, wMakeS, wMakeM, wMapU, wApp, srcA, chunks, upds, List.foldl_cons, List.foldl_nil, fLook, fNil, fUn2, fBits, fCmp, fCmpB, eqK, eqCells, eqV, FV.kd, eqNil, nilV, putD, fStep, callee?, guardV, keepT, lastDst, condV, resV, resL, tupOf, StK, wOps_nil, wOps_cons, GOp_t, GOp_f, DoOp_n, DoOp_c, hMake, HG_t, HG_f, HDo_n, HDo_c, nl, nls, nlss, frz, frzs, frzR, asR, asRs, Fend, PFin_s, frzRes_s, frzNRes_s, frzN, nf, nfs, hpL_at, hpL_nil, keyOk, fBuildA, f_Program_eqGuardType_Program_depth_3, f_arT_24, f_arT_53, f_boolT_3, f_byT_3, f_byT_33, f_byT_49, f_byT_51, f_byT_53, f_byT_73, f_byT_9, f_intT_3, f_kdT_3, f_kdT_33, f_kdT_4, f_kdT_5, f_kdT_9, f_ldT_147, f_ldT_174, f_ldT_22, f_ldT_23, f_ldT_24, f_ldT_26, f_ldT_3, f_ldT_33, f_ldT_47, f_ldT_49, f_ldT_51, f_ldT_53, f_ldT_73, f_ldT_78, f_ldT_9, f_nilT_3, f_slT_24, f_slT_53, f_stT_3, f_stT_33, f_stT_4, f_stT_5, f_stT_9, f_strT_24, f_strT_53, f_szT_147, f_szT_174, f_szT_22, f_szT_24, f_szT_26, f_szT_3, f_szT_47, f_szT_49, f_szT_51, f_szT_73, f_szT_78, f_zeroC_147, f_zeroC_150, f_zeroC_174, f_zeroC_26, f_zeroC_3, f_zeroC_33, f_zeroC_49, f_zeroC_51, f_zeroC_53, f_zeroC_73, f_zeroC_78, f_zeroC_9, ints_length, inss_length, fns_length, gbs_length, lays_length, nlss_ints, nlss_inss, nlss_fns, nlss_gbs, nlss_lays, ints_at, inss_at, fns_at, gbs_at, lays_at, intRow, Ins.row, FnD.row, Gb.row, layRow, Int.le_sub_one_iff]
  all_goals first
    | (simp_all [layR, layB, kindB]; done)
    | (clear hk; simp_all [layR, layB, kindB]; done)
    | (clear hk; simp_all [layR, layB, kindB]; omega)
    | (rw [layR, hk2]; simp [layR, layB, kindB, *]; done)
    | (rw [layR, hk2]; simp [layR, layB, kindB, *] <;> omega)
    | (rw [layR, hk2, layB, hm2]; simp [kindB, *]; done)
    | (rw [layR, hk2, layB, show decide (l[i].length ≤ 64) = false from by simp; omega]; simp; done)
    | trace_state

end Go.Gc
namespace Go.Gc
open Go Go.FM Go.Gv Go.Proofs
set_option maxRecDepth 100000
set_option maxHeartbeats 4000000
def strRow (s : ByteArray) : List FV := [.str s]
def strs (L : List (ByteArray)) : List (List FV) := L.map strRow
theorem strs_length (L : List (ByteArray)) : (strs L).length = L.length := by simp [strs]
theorem strs_at {L : List (ByteArray)} {i : Nat} (h : i < (strs L).length) : (strs L)[i] = strRow (L[i]'(by rwa [strs_length] at h)) := by simp [strs]
theorem strs_append (a b : List (ByteArray)) : strs (a ++ b) = strs a ++ strs b := by simp [strs]
theorem strs_one (a : ByteArray) : strs [a] = [strRow a] := rfl
theorem strs_nil : strs [] = [] := rfl
theorem strs_take (n : Nat) (l : List (ByteArray)) : (strs l).take n = strs (l.take n) := by simp [strs, List.map_take]
theorem nlss_strs (L : List (ByteArray)) : nlss (strs L) = true := by
  induction L with
  | nil => rfl
  | cons r rs ih => simpa [strs, nlss, nls, nl, strRow] using ih
theorem cell_strs (L : List (ByteArray)) : (strs L).flatten.all FV.cellV = true := by
  induction L with
  | nil => rfl
  | cons r rs ih => simp [strs, FV.cellV, strRow]
def fidx (l : List Int) : Int := if l.all kindB then -1 else (l.findIdx (fun k => !kindB k) : Int)
theorem fidx_all {l : List Int} (h : ∀ j (hj : j < l.length), kindB l[j] = true) : fidx l = -1 := by
  rw [fidx, if_pos]
  rw [List.all_eq_true]
  intro x hx
  obtain ⟨j, hj, rfl⟩ := List.getElem_of_mem hx
  exact h j hj
theorem fidx_at {l : List Int} {i : Nat} (hi : i < l.length) (h : kindB l[i] = false) (hb : ∀ j (hj : j < l.length), j < i → kindB l[j] = true) : fidx l = (i : Int) := by
  rw [fidx, if_neg]
  · congr 1
    rw [List.findIdx_eq hi]
    refine ⟨by simp [h], fun j hj => ?_⟩
    have := hb j (by omega) hj
    simp [this]
  · intro ha
    have := List.all_eq_true.mp ha _ (List.getElem_mem hi)
    rw [h] at this; cases this
theorem fidx_ge (l : List Int) : decide (0 ≤ fidx l) = !(l.all kindB) := by
  unfold fidx
  cases h : l.all kindB <;> simp
def kOk (l : List Int) (i : Nat) : Prop := ∀ j (hj : j < l.length), j < i → kindB l[j] = true
theorem kOk_0 (l : List Int) : kOk l 0 := fun _ _ h => absurd h (by omega)
theorem kOk_s {l : List Int} {i : Nat} (h : kOk l i) (hi : i < l.length) (e : kindB l[i] = true) : kOk l (i + 1) := by
  intro j hj hji
  by_cases e' : j = i
  · subst e'; exact e
  · exact h j hj (by omega)
theorem c33 (k : Int) : PC Tryz.prog Gl 33 [.int .i64 k] (.bool (!kindB k)) := by
  refine PC_go (res := [.tmp 2]) 3 6 [] (fun d ix => d :: ix) (fn := Tryz.f33) (by kernel_rfl) (by rfl) (by rfl) (by rfl) (by simp) (by decide) ?_
  repeat' first
    | with_reducible refine aw_sq ?_
    | with_reducible refine aw_blk ?_
    | with_reducible refine aw_reg fun K hK => ?_
    | with_reducible refine aw_skip ?_
    | with_reducible refine aw_ret ?_
    | with_reducible refine aw_exit ?_
    | with_reducible refine aw_cnd fun T E hT hE => ?_
    | with_reducible refine kseq ?_
    | with_reducible refine kseq_r ?_
    | with_reducible refine kseq_e ?_
    | with_reducible refine kblk ?_
    | with_reducible refine kblk_r ?_
    | with_reducible refine kblk_hit ?_
    | with_reducible refine kblk_miss rfl ?_
    | with_reducible refine kloop_r ?_
    | with_reducible refine kloop_e ?_
    | with_reducible refine pfin_r ?_
    | with_reducible refine pfin_n ?_
    | with_reducible refine nfin_r ?_
    | with_reducible refine nfin_n ?_
    | with_reducible refine gop_t ?_
    | with_reducible refine gop_f ?_
    | with_reducible refine cond_t ?_
    | with_reducible refine cond_f ?_
    | with_reducible refine gsplit_nd (fun h => ?_) (fun h => ?_)
    | with_reducible refine gsplit_d (fun h => ?_) (fun h => ?_)
    | with_reducible refine hgsplit_nd (fun h => ?_) (fun h => ?_)
    | with_reducible refine hgsplit_d (fun h => ?_) (fun h => ?_)
    | with_reducible refine cond_nd (fun h => ?_) (fun h => ?_)
    | with_reducible refine cond_d (fun h => ?_) (fun h => ?_)
    | with_reducible refine gsplit_n (fun h => ?_) (fun h => ?_)
    | with_reducible refine gsplit (fun h => ?_) (fun h => ?_)
    | with_reducible refine hgsplit_n (fun h => ?_) (fun h => ?_)
    | with_reducible refine hgsplit (fun h => ?_) (fun h => ?_)
    | with_reducible refine cond_n (fun h => ?_) (fun h => ?_)
    | with_reducible refine cond_b (fun h => ?_) (fun h => ?_)
    | with_reducible refine call_pc (c34 _) (by simp [nls, nl, *, nlss_inss, nlss_fns, nlss_gbs, nlss_lays, nlss_ints]) ?_
    | with_reducible refine hpc (c34 _) (by simp [nls, nl, *, nlss_inss, nlss_fns, nlss_gbs, nlss_lays, nlss_ints]) ?_
    | with_reducible refine hnx_go rfl (by decide) fresh_noH ?_
    | with_reducible refine hnx_go rfl (by decide) (fresh_upd (by simp [upd, noH, ext, hpL_at, hpL_nil, *])) ?_
    | with_reducible refine awH_go (by decide) (by kernel_rfl) ?_
    | with_reducible refine awH_tail (by decide) ?_
    | (with_reducible refine Kont.go hK ?_; clear hK K)
    | (with_reducible refine KT.go hT ?_; clear hT hE T E)
    | (with_reducible refine KT.go hE ?_; clear hT hE T E)
    | simp [*, -List.all_flatten, -List.all_eq_true, ext_noH, FS.init, FS.get, FS.put, FS.clean, lk, upd, ext, noH, cv1, cv, rv, FV.isU, FV.cellV, FV.cellsL, FV.storable, fLoad, fField, fIndex, fLen, fBin, fUn, fConv, natOf, fSlice, setFrom, fillA, pv, pv1, pv2, wv, wAlloc, wBox, wStore, wBuildS, wMakeS, wMakeM, wMapU, wApp, srcA, chunks, upds, List.foldl_cons, List.foldl_nil, fLook, fNil, fUn2, fBits, fCmp, fCmpB, eqK, eqCells, eqV, FV.kd, eqNil, nilV, putD, fStep, callee?, guardV, keepT, lastDst, condV, resV, resL, tupOf, StK, wOps_nil, wOps_cons, GOp_t, GOp_f, DoOp_n, DoOp_c, hMake, HG_t, HG_f, HDo_n, HDo_c, nl, nls, nlss, frz, frzs, frzR, asR, asRs, Fend, PFin_s, frzRes_s, frzNRes_s, frzN, nf, nfs, hpL_at, hpL_nil, keyOk, fBuildA, f_byT_3, f_byT_33, f_byT_49, f_byT_51, f_byT_53, f_byT_73, f_byT_9, f_fnOk_34, f_kdT_3, f_kdT_33, f_kdT_4, f_kdT_5, f_kdT_9, f_ldT_147, f_ldT_174, f_ldT_22, f_ldT_23, f_ldT_24, f_ldT_26, f_ldT_3, f_ldT_33, f_ldT_47, f_ldT_49, f_ldT_51, f_ldT_53, f_ldT_73, f_ldT_78, f_ldT_9, f_stT_3, f_stT_33, f_stT_4, f_stT_5, f_stT_9, f_szT_147, f_szT_174, f_szT_22, f_szT_24, f_szT_26, f_szT_3, f_szT_47, f_szT_49, f_szT_51, f_szT_73, f_szT_78, f_zeroC_147, f_zeroC_150, f_zeroC_174, f_zeroC_26, f_zeroC_3, f_zeroC_33, f_zeroC_49, f_zeroC_51, f_zeroC_53, f_zeroC_73, f_zeroC_78, f_zeroC_9]

theorem c60 (l : List Int) (hl : l.length ≤ 2000000) : PC Tryz.prog Gl 60 [.list 1 (ints l), .clo 33 [] []] (.int .i64 (fidx l)) := by
  refine PC_go (res := [.tmp 4]) 6 19 [8, 7] (fun d ix => d :: ix) (fn := Tryz.f60) (by kernel_rfl) (by rfl) (by rfl) (by rfl) (by simp) (by decide) ?_
  repeat' first
    | ((with_reducible refine lp_here ?_); refine aw_lpg (fun y : {i : Nat // i ≤ l.length ∧ kOk l i} => (⟨[.list 1 (ints l), .clo 33 [] [], .undef, .undef, .int .i64 0, .undef], [(7, .int .i64 (l.length : Int)), (8, .int .i64 (y.1 : Int))], hpL [], []⟩ : FS)) (fun y => l.length - y.1) ⟨0, by simp, kOk_0 l⟩ (gk_lst [] (fun _ h => h) (by rfl) ?_ ?_ ?_) ?_; (focus (simp [*, nle_append, nle_cons, nle_nil, nlss_append, nlss, nls, nl, simVs, simV, simT, simH, simO, renO, innO, ren, inn, rens, inns, renss, innss, rene, inne, bk, hpL, upd, noH, ext, lk, renss_nl, innss_nl, rens_nl, inns_nl, nlss_ints, ints_length, ints_append, ints_one, ints_nil, nlss_inss, inss_length, inss_append, inss_one, inss_nil, nlss_fns, fns_length, fns_append, fns_one, fns_nil, nlss_gbs, gbs_length, gbs_append, gbs_one, gbs_nil, nlss_lays, lays_length, lays_append, lays_one, lays_nil, List.take_of_length_le, List.filter_append, *]; done)); (focus (simp [*, nle_append, nle_cons, nle_nil, nlss_append, nlss, nls, nl, simVs, simV, simT, simH, simO, renO, innO, ren, inn, rens, inns, renss, innss, rene, inne, bk, hpL, upd, noH, ext, lk, renss_nl, innss_nl, rens_nl, inns_nl, nlss_ints, ints_length, ints_append, ints_one, ints_nil, nlss_inss, inss_length, inss_append, inss_one, inss_nil, nlss_fns, fns_length, fns_append, fns_one, fns_nil, nlss_gbs, gbs_length, gbs_append, gbs_one, gbs_nil, nlss_lays, lays_length, lays_append, lays_one, lays_nil, List.take_of_length_le, List.filter_append]; done)); (focus (simp [*, nle_append, nle_cons, nle_nil, nlss_append, nlss, nls, nl, simVs, simV, simT, simH, simO, renO, innO, ren, inn, rens, inns, renss, innss, rene, inne, bk, hpL, upd, noH, ext, lk, renss_nl, innss_nl, rens_nl, inns_nl, nlss_ints, ints_length, ints_append, ints_one, ints_nil, nlss_inss, inss_length, inss_append, inss_one, inss_nil, nlss_fns, fns_length, fns_append, fns_one, fns_nil, nlss_gbs, gbs_length, gbs_append, gbs_one, gbs_nil, nlss_lays, lays_length, lays_append, lays_one, lays_nil, List.take_of_length_le, List.filter_append, *]; done)); rintro ⟨i, hi, hk⟩; (try dsimp only at hi hk); rcases case_lt' hi with hlt | ⟨hlt, rfl⟩; have wi := wli hlt (by omega); cases hkb : kindB (l[i]'hlt))
    | ((with_reducible refine kl_here ?_); refine kloopg (⟨i + 1, by omega, kOk_s hk hlt hkb⟩) (gk_lst [] (fun _ h => h) (by rfl) ?_ ?_ ?_) (by dsimp only; omega); (focus (simp [*, nle_append, nle_cons, nle_nil, nlss_append, nlss, nls, nl, simVs, simV, simT, simH, simO, renO, innO, ren, inn, rens, inns, renss, innss, rene, inne, bk, hpL, upd, noH, ext, lk, renss_nl, innss_nl, rens_nl, inns_nl, nlss_ints, ints_length, ints_append, ints_one, ints_nil, nlss_inss, inss_length, inss_append, inss_one, inss_nil, nlss_fns, fns_length, fns_append, fns_one, fns_nil, nlss_gbs, gbs_length, gbs_append, gbs_one, gbs_nil, nlss_lays, lays_length, lays_append, lays_one, lays_nil, List.take_of_length_le, List.filter_append, *]; done)); (focus (simp [*, nle_append, nle_cons, nle_nil, nlss_append, nlss, nls, nl, simVs, simV, simT, simH, simO, renO, innO, ren, inn, rens, inns, renss, innss, rene, inne, bk, hpL, upd, noH, ext, lk, renss_nl, innss_nl, rens_nl, inns_nl, nlss_ints, ints_length, ints_append, ints_one, ints_nil, nlss_inss, inss_length, inss_append, inss_one, inss_nil, nlss_fns, fns_length, fns_append, fns_one, fns_nil, nlss_gbs, gbs_length, gbs_append, gbs_one, gbs_nil, nlss_lays, lays_length, lays_append, lays_one, lays_nil, List.take_of_length_le, List.filter_append, *]; done)); (focus (simp [*, nle_append, nle_cons, nle_nil, nlss_append, nlss, nls, nl, simVs, simV, simT, simH, simO, renO, innO, ren, inn, rens, inns, renss, innss, rene, inne, bk, hpL, upd, noH, ext, lk, renss_nl, innss_nl, rens_nl, inns_nl, nlss_ints, ints_length, ints_append, ints_one, ints_nil, nlss_inss, inss_length, inss_append, inss_one, inss_nil, nlss_fns, fns_length, fns_append, fns_one, fns_nil, nlss_gbs, gbs_length, gbs_append, gbs_one, gbs_nil, nlss_lays, lays_length, lays_append, lays_one, lays_nil, List.take_of_length_le, List.filter_append, *]; done)))
    | with_reducible refine aw_sq ?_
    | with_reducible refine aw_blk ?_
    | with_reducible refine aw_reg fun K hK => ?_
    | with_reducible refine aw_skip ?_
    | with_reducible refine aw_ret ?_
    | with_reducible refine aw_exit ?_
    | with_reducible refine aw_cnd fun T E hT hE => ?_
    | with_reducible refine kseq ?_
    | with_reducible refine kseq_r ?_
    | with_reducible refine kseq_e ?_
    | with_reducible refine kblk ?_
    | with_reducible refine kblk_r ?_
    | with_reducible refine kblk_hit ?_
    | with_reducible refine kblk_miss rfl ?_
    | with_reducible refine kloop_r ?_
    | with_reducible refine kloop_e ?_
    | with_reducible refine pfin_r ?_
    | with_reducible refine pfin_n ?_
    | with_reducible refine nfin_r ?_
    | with_reducible refine nfin_n ?_
    | with_reducible refine gop_t ?_
    | with_reducible refine gop_f ?_
    | with_reducible refine cond_t ?_
    | with_reducible refine cond_f ?_
    | with_reducible refine gsplit_nd (fun h => ?_) (fun h => ?_)
    | with_reducible refine gsplit_d (fun h => ?_) (fun h => ?_)
    | with_reducible refine hgsplit_nd (fun h => ?_) (fun h => ?_)
    | with_reducible refine hgsplit_d (fun h => ?_) (fun h => ?_)
    | with_reducible refine cond_nd (fun h => ?_) (fun h => ?_)
    | with_reducible refine cond_d (fun h => ?_) (fun h => ?_)
    | with_reducible refine gsplit_n (fun h => ?_) (fun h => ?_)
    | with_reducible refine gsplit (fun h => ?_) (fun h => ?_)
    | with_reducible refine hgsplit_n (fun h => ?_) (fun h => ?_)
    | with_reducible refine hgsplit (fun h => ?_) (fun h => ?_)
    | with_reducible refine cond_n (fun h => ?_) (fun h => ?_)
    | with_reducible refine cond_b (fun h => ?_) (fun h => ?_)
    | with_reducible refine call_pc (c33 _) (by simp [nls, nl, *, nlss_inss, nlss_fns, nlss_gbs, nlss_lays, nlss_ints]) ?_
    | with_reducible refine hpc (c33 _) (by simp [nls, nl, *, nlss_inss, nlss_fns, nlss_gbs, nlss_lays, nlss_ints]) ?_
    | with_reducible refine hnx_go rfl (by decide) fresh_noH ?_
    | with_reducible refine hnx_go rfl (by decide) (fresh_upd (by simp [upd, noH, ext, hpL_at, hpL_nil, *])) ?_
    | with_reducible refine awH_go (by decide) (by kernel_rfl) ?_
    | with_reducible refine awH_tail (by decide) ?_
    | (with_reducible refine Kont.go hK ?_; clear hK K)
    | (with_reducible refine KT.go hT ?_; clear hT hE T E)
    | (with_reducible refine KT.go hE ?_; clear hT hE T E)
    | simp [*, -List.all_flatten, -List.all_eq_true, ext_noH, FS.init, FS.get, FS.put, FS.clean, lk, upd, ext, noH, cv1, cv, rv, FV.isU, FV.cellV, FV.cellsL, FV.storable, fLoad, fField, fIndex, fLen, fBin, fUn, fConv, natOf, fSlice, setFrom, fillA, pv, pv1, pv2, wv, wAlloc, wBox, wStore, wBuildS, wMakeS, wMakeM, wMapU, wApp, srcA, chunks, upds, List.foldl_cons, List.foldl_nil, fLook, fNil, fUn2, fBits, fCmp, fCmpB, eqK, eqCells, eqV, FV.kd, eqNil, nilV, putD, fStep, callee?, guardV, keepT, lastDst, condV, resV, resL, tupOf, StK, wOps_nil, wOps_cons, GOp_t, GOp_f, DoOp_n, DoOp_c, hMake, HG_t, HG_f, HDo_n, HDo_c, nl, nls, nlss, frz, frzs, frzR, asR, asRs, Fend, PFin_s, frzRes_s, frzNRes_s, frzN, nf, nfs, hpL_at, hpL_nil, keyOk, fBuildA, f_Program_eqGuardType_Program_depth_3, f_arT_53, f_boolT_3, f_byT_3, f_byT_33, f_byT_49, f_byT_51, f_byT_53, f_byT_73, f_byT_9, f_fnOk_33, f_intT_3, f_kdT_3, f_kdT_33, f_kdT_4, f_kdT_5, f_kdT_9, f_ldT_147, f_ldT_174, f_ldT_22, f_ldT_23, f_ldT_24, f_ldT_26, f_ldT_3, f_ldT_33, f_ldT_47, f_ldT_49, f_ldT_51, f_ldT_53, f_ldT_73, f_ldT_78, f_ldT_9, f_nilT_3, f_slT_3, f_slT_53, f_stT_3, f_stT_33, f_stT_4, f_stT_5, f_stT_9, f_strT_3, f_strT_53, f_szT_147, f_szT_174, f_szT_22, f_szT_24, f_szT_26, f_szT_3, f_szT_47, f_szT_49, f_szT_51, f_szT_73, f_szT_78, f_zeroC_147, f_zeroC_150, f_zeroC_174, f_zeroC_26, f_zeroC_3, f_zeroC_33, f_zeroC_49, f_zeroC_51, f_zeroC_53, f_zeroC_73, f_zeroC_78, f_zeroC_9, ints_length, inss_length, fns_length, gbs_length, lays_length, nlss_ints, nlss_inss, nlss_fns, nlss_gbs, nlss_lays, ints_at, inss_at, fns_at, gbs_at, lays_at, intRow, Ins.row, FnD.row, Gb.row, layRow, Int.le_sub_one_iff]
  all_goals first
    | (rw [fidx_at hlt hkb hk]; done)
    | (simp [fidx_at hlt hkb hk]; done)
    | (simp [fidx_all (fun j hj => hk j hj hj)]; done)
    | trace_state

theorem c32 (l : List Int) (hl : l.length ≤ 2000000) : PC Tryz.prog Gl 32 [.list 1 (ints l), .clo 33 [] []] (.bool (!(l.all kindB))) := by
  refine PC_go (res := [.tmp 4]) 5 9 [] (fun d ix => d :: ix) (fn := Tryz.f32) (by kernel_rfl) (by rfl) (by rfl) (by rfl) (by simp) (by decide) ?_
  repeat' first
    | with_reducible refine aw_sq ?_
    | with_reducible refine aw_blk ?_
    | with_reducible refine aw_reg fun K hK => ?_
    | with_reducible refine aw_skip ?_
    | with_reducible refine aw_ret ?_
    | with_reducible refine aw_exit ?_
    | with_reducible refine aw_cnd fun T E hT hE => ?_
    | with_reducible refine kseq ?_
    | with_reducible refine kseq_r ?_
    | with_reducible refine kseq_e ?_
    | with_reducible refine kblk ?_
    | with_reducible refine kblk_r ?_
    | with_reducible refine kblk_hit ?_
    | with_reducible refine kblk_miss rfl ?_
    | with_reducible refine kloop_r ?_
    | with_reducible refine kloop_e ?_
    | with_reducible refine pfin_r ?_
    | with_reducible refine pfin_n ?_
    | with_reducible refine nfin_r ?_
    | with_reducible refine nfin_n ?_
    | with_reducible refine gop_t ?_
    | with_reducible refine gop_f ?_
    | with_reducible refine cond_t ?_
    | with_reducible refine cond_f ?_
    | with_reducible refine gsplit_nd (fun h => ?_) (fun h => ?_)
    | with_reducible refine gsplit_d (fun h => ?_) (fun h => ?_)
    | with_reducible refine hgsplit_nd (fun h => ?_) (fun h => ?_)
    | with_reducible refine hgsplit_d (fun h => ?_) (fun h => ?_)
    | with_reducible refine cond_nd (fun h => ?_) (fun h => ?_)
    | with_reducible refine cond_d (fun h => ?_) (fun h => ?_)
    | with_reducible refine gsplit_n (fun h => ?_) (fun h => ?_)
    | with_reducible refine gsplit (fun h => ?_) (fun h => ?_)
    | with_reducible refine hgsplit_n (fun h => ?_) (fun h => ?_)
    | with_reducible refine hgsplit (fun h => ?_) (fun h => ?_)
    | with_reducible refine cond_n (fun h => ?_) (fun h => ?_)
    | with_reducible refine cond_b (fun h => ?_) (fun h => ?_)
    | with_reducible refine call_pc (c60 l hl) (by simp [nls, nl, *, nlss_inss, nlss_fns, nlss_gbs, nlss_lays, nlss_ints]) ?_
    | with_reducible refine hpc (c60 l hl) (by simp [nls, nl, *, nlss_inss, nlss_fns, nlss_gbs, nlss_lays, nlss_ints]) ?_
    | with_reducible refine hnx_go rfl (by decide) fresh_noH ?_
    | with_reducible refine hnx_go rfl (by decide) (fresh_upd (by simp [upd, noH, ext, hpL_at, hpL_nil, *])) ?_
    | with_reducible refine awH_go (by decide) (by kernel_rfl) ?_
    | with_reducible refine awH_tail (by decide) ?_
    | (with_reducible refine Kont.go hK ?_; clear hK K)
    | (with_reducible refine KT.go hT ?_; clear hT hE T E)
    | (with_reducible refine KT.go hE ?_; clear hT hE T E)
    | simp [*, -List.all_flatten, -List.all_eq_true, ext_noH, FS.init, FS.get, FS.put, FS.clean, lk, upd, ext, noH, cv1, cv, rv, FV.isU, FV.cellV, FV.cellsL, FV.storable, fLoad, fField, fIndex, fLen, fBin, fUn, fConv, natOf, fSlice, setFrom, fillA, pv, pv1, pv2, wv, wAlloc, wBox, wStore, wBuildS, wMakeS, wMakeM, wMapU, wApp, srcA, chunks, upds, List.foldl_cons, List.foldl_nil, fLook, fNil, fUn2, fBits, fCmp, fCmpB, eqK, eqCells, eqV, FV.kd, eqNil, nilV, putD, fStep, callee?, guardV, keepT, lastDst, condV, resV, resL, tupOf, StK, wOps_nil, wOps_cons, GOp_t, GOp_f, DoOp_n, DoOp_c, hMake, HG_t, HG_f, HDo_n, HDo_c, nl, nls, nlss, frz, frzs, frzR, asR, asRs, Fend, PFin_s, frzRes_s, frzNRes_s, frzN, nf, nfs, hpL_at, hpL_nil, keyOk, fBuildA, f_Program_eqGuardType_Program_depth_3, f_boolT_3, f_byT_3, f_byT_33, f_byT_49, f_byT_51, f_byT_53, f_byT_73, f_byT_9, f_fnOk_60, f_intT_3, f_kdT_3, f_kdT_33, f_kdT_4, f_kdT_5, f_kdT_9, f_ldT_147, f_ldT_174, f_ldT_22, f_ldT_23, f_ldT_24, f_ldT_26, f_ldT_3, f_ldT_33, f_ldT_47, f_ldT_49, f_ldT_51, f_ldT_53, f_ldT_73, f_ldT_78, f_ldT_9, f_nilT_3, f_stT_3, f_stT_33, f_stT_4, f_stT_5, f_stT_9, f_szT_147, f_szT_174, f_szT_22, f_szT_24, f_szT_26, f_szT_3, f_szT_47, f_szT_49, f_szT_51, f_szT_73, f_szT_78, f_zeroC_147, f_zeroC_150, f_zeroC_174, f_zeroC_26, f_zeroC_3, f_zeroC_33, f_zeroC_49, f_zeroC_51, f_zeroC_53, f_zeroC_73, f_zeroC_78, f_zeroC_9, ints_length, inss_length, fns_length, gbs_length, lays_length, nlss_ints, nlss_inss, nlss_fns, nlss_gbs, nlss_lays, ints_at, inss_at, fns_at, gbs_at, lays_at, intRow, Ins.row, FnD.row, Gb.row, layRow, Int.le_sub_one_iff, fidx_ge]
  all_goals first
    | (simp [← fidx_ge]; done)
    | trace_state

end Go.Gc
namespace Go.Gc
open Go Go.RowKit Go.Proofs Go.Shelf Go.Sort Go.FM
set_option maxHeartbeats 4000000
set_option maxRecDepth 100000
/-! ### code.unique as a contract -/
theorem strs_flat (l : List ByteArray) : (strs l).flatten = l.map FV.str := by
  induction l with
  | nil => rfl
  | cons x l ih => simp only [strs, List.map_cons, List.flatten_cons, strRow] at ih ⊢; rw [ih]; rfl
theorem rfs_strs {w : World} {F : Nat → Prop} {U : FM.Loc → Prop} {m : FM.Loc → Nat × Nat} : ∀ (l : List ByteArray) (vs : List Value), RFs w F U m (l.map FV.str) vs → vs = l.map Value.string
  | [], _, h => by cases h; rfl
  | x :: l, _, h => by
    cases h with
    | cons _ v _ vs h1 h2 =>
    cases h1
    rw [rfs_strs l vs h2]; rfl
theorem c36 (l : List ByteArray) (hl : l.length ≤ 2000000) : PC Tryz.prog Gl 36 [.list 1 (strs l)] (.bool (Gv.uniq (l.map (·.data.toList)))) := by
  refine FC_below fun w F m vs hF hG hv hH => ?_
  cases hv with
  | cons _ v _ vs h1 h2 =>
  cases h2
  cases h1 with
  | list sz xs A cap vs hl' hc hm h =>
  rw [strs_flat] at h
  have hvs := rfs_strs l vs h
  subst hvs
  rw [strs_length]
  have fin : ∀ (e : Ending) (w' : World), (e = .returned (.bool (Gv.uniq (l.map (·.data.toList)))) ∧ RowKit.Below w.heap.size w w') → ∃ v, e = .returned v ∧ RowKit.Below w.heap.size w w' ∧ RF w' F (fun l => noH l ≠ none) m (.bool (Gv.uniq (l.map (·.data.toList)))) v := by
    rintro e w' ⟨rfl, hb⟩
    exact ⟨_, rfl, hb, .bool _⟩
  cases hA : A with
  | none =>
    cases l with
    | cons x l => obtain ⟨a, ha, _⟩ := hm (by simp [strs]); rw [hA] at ha; cases ha
    | nil =>
      refine (unique_nil cap w).mono ?_
      rintro e w' ⟨rfl, rfl⟩
      exact fin _ _ ⟨rfl, Below.refl _ _⟩
  | some a =>
    by_cases hn : l = []
    · subst hn
      refine (unique_tail (some a) 0 cap [] w (by omega) ((Any.slices_Clone_string_zero uL1 a cap w).mono ?_)).mono ?_
      · rintro e w' ⟨v', rfl, h1, h2, h3⟩; exact ⟨v', rfl, h1, h2, h3⟩
      · exact fin
    · obtain ⟨a', ha, hF', hcell⟩ := hm (by cases l with | nil => exact absurd rfl hn | cons x l => simp [strs])
      rw [hA] at ha
      cases ha
      have hs : a.spot = none := by
        obtain ⟨v, hv⟩ : ∃ v, (l.map Value.string)[0]? = some v := ⟨_, List.getElem?_eq_getElem (by cases l with | nil => exact absurd rfl hn | cons x l => simp)⟩
        have := hcell 0 v hv
        simp only [Addr.add, if_true] at this
        unfold World.cell? at this
        split at this
        · split at this
          · cases this
          · rename_i h; simpa using h
        · cases this
      obtain ⟨b, off, sp⟩ := a
      simp only at hs
      subst hs
      have hcl := Any.slices_Clone_string uL1 b off l.length cap l w (Nat.le_refl _) (by omega) (fun j hj => by
        have := hcell j (.string l[j]) (by rw [List.getElem?_map, List.getElem?_eq_getElem hj]; rfl)
        rw [add0] at this
        rw [this, List.getD_eq_getElem?_getD, List.getElem?_eq_getElem hj]; rfl)
      refine (unique_tail (some ⟨b, off, none⟩) l.length cap (l.map (·.data.toList)) w (by omega) (hcl.mono ?_)).mono fin
      rintro e w' ⟨v', rfl, h1, h2, h3⟩
      exact ⟨v', rfl, by rw [Lib.map_encStr]; rw [List.take_length] at h1; exact h1, h2, h3⟩
end Go.Gc
