/- One of the texts of a proof by an abstract machine over the model. -/
import Derived.Test.YtmhkendlllmodaaGreatDoorGcF
set_option linter.unusedSimpArgs false
set_option linter.unusedVariables false
namespace Go.Gc
open Go Go.FM Go.Proofs
set_option maxRecDepth 100000
set_option maxHeartbeats 4000000
def mesF : List (Int × Int) → Nat → List (FV × FV × Nat)
  | [], _ => []
  | (a, b) :: r, n => (.agg [.int .i64 a, .int .i64 b], .bool true, n) :: mesF r (n + 1)
theorem mesF_append (x : Int × Int) : ∀ (S : List (Int × Int)) (n : Nat), mesF (S ++ [x]) n = mesF S n ++ [(.agg [.int .i64 x.1, .int .i64 x.2], .bool true, n + S.length)]
  | [], n => rfl
  | (a, b) :: r, n => by
    simp only [List.cons_append, mesF, mesF_append x r (n + 1), List.length_cons]
    rw [show n + 1 + r.length = n + (r.length + 1) by omega]
theorem nle_mes : ∀ (S : List (Int × Int)) (n : Nat), nle (mesF S n) = true
  | [], _ => rfl
  | (a, b) :: r, n => by
    have := nle_mes r (n + 1)
    simp only [nle] at this
    simp [mesF, nle, nl, nls, this]
theorem eq33 (a b c d : Int) : eqK Tryz.prog 33 (.agg [.int .i64 a, .int .i64 b]) (.agg [.int .i64 c, .int .i64 d]) = some (decide (a = c ∧ b = d)) := by
  simp [eqK, f_kdT_33, f_stT_33, eqCells, FV.kd, eqV]
theorem findA_yes {a b : Int} : ∀ (S : List (Int × Int)) (i n : Nat), (a, b) ∈ S → ∃ j, findA Tryz.prog 33 (.agg [.int .i64 a, .int .i64 b]) (mesF S n) i = some (some (i + j, .bool true)) ∧ S[j]? = some (a, b)
  | [], i, n, h => by cases h
  | (c, d) :: r, i, n, h => by
    simp only [mesF, findA, eq33]
    by_cases e : a = c ∧ b = d
    · obtain ⟨rfl, rfl⟩ := e
      exact ⟨0, by simp, by simp⟩
    · obtain ⟨j, h1, h2⟩ := findA_yes r (i + 1) (n + 1) (by
        rcases List.mem_cons.1 h with h | h
        · exact absurd (by simpa using h) e
        · exact h)
      refine ⟨j + 1, ?_, by simpa using h2⟩
      simp only [e, decide_false, h1]
      rw [show i + 1 + j = i + (j + 1) by omega]
theorem findA_no {a b : Int} : ∀ (S : List (Int × Int)) (i n : Nat), (a, b) ∉ S → findA Tryz.prog 33 (.agg [.int .i64 a, .int .i64 b]) (mesF S n) i = some none
  | [], i, n, h => rfl
  | (c, d) :: r, i, n, h => by
    simp only [List.mem_cons, Prod.mk.injEq, not_or] at h
    simp only [mesF, findA, eq33, h.1, decide_false]
    exact findA_no r (i + 1) (n + 1) h.2
theorem mes_mod {a b : Int} : ∀ (S : List (Int × Int)) (j n : Nat), S[j]? = some (a, b) → (mesF S n).modify j (fun e => (.agg [.int .i64 a, .int .i64 b], .bool true, e.2.2)) = mesF S n
  | [], j, n, h => by simp at h
  | (c, d) :: r, 0, n, h => by
    simp only [List.getElem?_cons_zero, Option.some.injEq, Prod.mk.injEq] at h
    simp [mesF, h.1, h.2]
  | (c, d) :: r, j + 1, n, h => by
    simp only [List.getElem?_cons_succ] at h
    simp only [mesF, List.modify_succ_cons, mes_mod r j (n + 1) h]
/-- the sites that a plan removes -/
def addS (S : List (Int × Int)) (p : Pb) : List (Int × Int) := if p.reason = 0 ∨ (p.fn, p.pc) ∈ S then S else S ++ [(p.fn, p.pc)]
def sites (R : List Pb) : List (Int × Int) := R.foldl addS []
theorem sites_step {R : List Pb} {i : Nat} (h : i < R.length) : sites (R.take (i + 1)) = addS (sites (R.take i)) R[i] := by
  rw [sites, List.take_add_one, List.foldl_append, List.getElem?_eq_getElem h]; rfl
theorem reasonL_app (fn pc : Int) (p : Pb) : ∀ L : List Pb, reasonL (L ++ [p]) fn pc = if reasonL L fn pc = 0 then (if p.fn = fn ∧ p.pc = pc then p.reason else 0) else reasonL L fn pc
  | [] => by
    by_cases h1 : p.fn = fn ∧ p.pc = pc <;> by_cases h2 : p.reason = 0 <;> simp [reasonL, h1, h2]
  | x :: L => by
    simp only [List.cons_append, reasonL, reasonL_app fn pc p L]
    by_cases h : x.fn = fn ∧ x.pc = pc ∧ x.reason ≠ 0
    · simp [h]
    · simp only [h, if_false]
theorem mem_sites (fn pc : Int) (R : List Pb) : ∀ i, i ≤ R.length → ((fn, pc) ∈ sites (R.take i) ↔ reasonL (R.take i) fn pc ≠ 0)
  | 0, _ => by simp [sites, reasonL]
  | i + 1, h => by
    have ih := mem_sites fn pc R i (by omega)
    rw [sites_step (by omega), addS, List.take_add_one, List.getElem?_eq_getElem (by omega), Option.toList_some, reasonL_app]
    by_cases h1 : R[i].reason = 0
    · simp only [h1, true_or, if_true, ite_self, ih]
      by_cases h2 : reasonL (R.take i) fn pc = 0 <;> simp [h2]
    · by_cases h3 : (R[i].fn, R[i].pc) ∈ sites (R.take i)
      · simp only [h3, or_true, if_true, ih]
        by_cases h2 : reasonL (R.take i) fn pc = 0
        · by_cases h4 : R[i].fn = fn ∧ R[i].pc = pc
          · exfalso
            rw [h4.1, h4.2] at h3
            exact ih.1 h3 h2
          · simp [h2, h4]
        · simp [h2]
      · simp only [h1, h3, or_self, if_false, List.mem_append, ih, List.mem_singleton, Prod.mk.injEq]
        by_cases h2 : reasonL (R.take i) fn pc = 0
        · by_cases h4 : R[i].fn = fn ∧ R[i].pc = pc
          · simp [h2, h4.1, h4.2, h1]
          · have h5 : ¬ (fn = R[i].fn ∧ pc = R[i].pc) := fun h => h4 ⟨h.1.symm, h.2.symm⟩
            simp [h2, h4, h5]
        · simp [h2]
theorem mem_all (fn pc : Int) (R : List Pb) : (fn, pc) ∈ sites R ↔ reasonL R fn pc ≠ 0 := by
  have := mem_sites fn pc R R.length (Nat.le_refl _)
  rwa [List.take_length] at this
theorem nfs_evs (L : List Ev) : nfs (evs L).flatten = true := by
  induction L with
  | nil => rfl
  | cons r rs ih => simpa [evs, nfs, nf, Ev.row] using ih

theorem cases15 (R : List Pb) (i : Nat) : (¬ i < R.length ∧ (i ≤ R.length → R.take i = R)) ∨ (∃ h : i < R.length, R[i].reason = 0 ∧ sites (R.take (i + 1)) = sites (R.take i)) ∨
    (∃ h : i < R.length, ¬ R[i].reason = 0 ∧ ∃ j, findA Tryz.prog 33 (.agg [.int .i64 R[i].fn, .int .i64 R[i].pc]) (mesF (sites (R.take i)) 0) 0 = some (some (j, .bool true)) ∧
      (mesF (sites (R.take i)) 0).modify j (fun e => (.agg [.int .i64 R[i].fn, .int .i64 R[i].pc], .bool true, e.2.2)) = mesF (sites (R.take i)) 0 ∧ sites (R.take (i + 1)) = sites (R.take i)) ∨
    (∃ h : i < R.length, ¬ R[i].reason = 0 ∧ findA Tryz.prog 33 (.agg [.int .i64 R[i].fn, .int .i64 R[i].pc]) (mesF (sites (R.take i)) 0) 0 = some none ∧ sites (R.take (i + 1)) = sites (R.take i) ++ [(R[i].fn, R[i].pc)]) := by
  by_cases h : i < R.length
  · right
    have hs := sites_step h
    by_cases h0 : R[i].reason = 0
    · left; exact ⟨h, h0, by rw [hs, addS, if_pos (.inl h0)]⟩
    · right
      by_cases hm : (R[i].fn, R[i].pc) ∈ sites (R.take i)
      · left
        obtain ⟨j, hj1, hj2⟩ := findA_yes _ 0 0 hm
        exact ⟨h, h0, j, by rw [hj1, Nat.zero_add], mes_mod _ _ 0 hj2, by rw [hs, addS, if_pos (.inr hm)]⟩
      · right
        exact ⟨h, h0, findA_no _ 0 0 hm, by rw [hs, addS, if_neg (by simp [h0, hm])]⟩
  · left; exact ⟨h, fun hi => List.take_of_length_le (by omega)⟩
theorem cases15b (R : List Pb) (fn pc : Int) : (¬ reasonL R fn pc = 0 ∧ ∃ j, findA Tryz.prog 33 (.agg [.int .i64 fn, .int .i64 pc]) (mesF (sites R) 0) 0 = some (some (j, .bool true))) ∨
    (reasonL R fn pc = 0 ∧ findA Tryz.prog 33 (.agg [.int .i64 fn, .int .i64 pc]) (mesF (sites R) 0) 0 = some none) := by
  by_cases hm : (fn, pc) ∈ sites R
  · left
    obtain ⟨j, hj1, hj2⟩ := findA_yes _ 0 0 hm
    exact ⟨(mem_all fn pc R).1 hm, _, hj1⟩
  · right
    exact ⟨Classical.byContradiction fun h => hm ((mem_all fn pc R).2 h), findA_no _ 0 0 hm⟩
theorem cases15c (R : List Pb) (L : List Ev) (i : Nat) : (¬ i < L.length ∧ (i ≤ L.length → L.take i = L)) ∨ (∃ h : i < L.length, (¬ reasonL R L[i].fn L[i].pc = 0 ∧ ∃ j, findA Tryz.prog 33 (.agg [.int .i64 L[i].fn, .int .i64 L[i].pc]) (mesF (sites R) 0) 0 = some (some (j, .bool true)))) ∨
    (∃ h : i < L.length, reasonL R L[i].fn L[i].pc = 0 ∧ findA Tryz.prog 33 (.agg [.int .i64 L[i].fn, .int .i64 L[i].pc]) (mesF (sites R) 0) 0 = some none) := by
  by_cases h : i < L.length
  · rcases cases15b R L[i].fn L[i].pc with h1 | h1
    · exact .inr (.inl ⟨h, h1⟩)
    · exact .inr (.inr ⟨h, h1⟩)
  · left; exact ⟨h, fun hi => List.take_of_length_le (by omega)⟩
theorem c15 (L : List Ev) (R : List Pb) (hs : L.length ≤ 1000000) (hr : R.length ≤ 1000000) : PCn Tryz.prog Gl 15 [.list 9 (evs L), .list 4 (pbs R)] (.list 9 (evs (L.filter (keepE R)))) := by
  refine PCn_go (res := [.tmp 4]) 11 58 [14, 13, 12, 30, 29, 28] (fun d ix => d :: ix) (fn := Tryz.f15) (by kernel_rfl) (by rfl) (by rfl) (by rfl) (by simp) (by decide) ?_
  repeat' first
    | ((with_reducible refine lp_here ?_); refine aw_lpg (fun x : {i : Nat // i ≤ R.length} => (⟨[.list 9 (evs L), .list 4 (pbs R), .undef, .undef, .nils, .mp [11], .undef, .undef, .undef, .undef, .undef], [(12, .list 4 (pbs R)), (13, .int .i64 (R.length : Int)), (14, .int .i64 (x.1 : Int))], hpL [([11], .map (mesF (sites (R.take x.1)) 0) (sites (R.take x.1)).length)], []⟩ : FS)) (fun x => R.length - x.1) ⟨0, by simp⟩ (gk_lst [] (fun _ h => h) (by rfl) ?_ ?_ ?_) ?_; (focus (simp [*, nle_append, nle_cons, nle_nil, nlss_append, nlss, nls, nl, simVs, simV, simT, simH, simO, renO, innO, ren, inn, rens, inns, renss, innss, rene, inne, bk, hpL, upd, noH, ext, lk, nlss_evs, nlss_pbs, renss_nl, innss_nl, rens_nl, inns_nl, evs_length, pbs_length, evs_append, evs_one, List.take_of_length_le, List.filter_append, evs_nil, nle_mes, rene_nl, inne_nl, List.take_length, sites, mesF]; done)); (focus (simp [*, nle_append, nle_cons, nle_nil, nlss_append, nlss, nls, nl, simVs, simV, simT, simH, simO, renO, innO, ren, inn, rens, inns, renss, innss, rene, inne, bk, hpL, upd, noH, ext, lk, nlss_evs, nlss_pbs, renss_nl, innss_nl, rens_nl, inns_nl, evs_length, pbs_length, evs_append, evs_one, List.take_of_length_le, List.filter_append, evs_nil, nle_mes, rene_nl, inne_nl, List.take_length]; done)); (focus (simp [*, nle_append, nle_cons, nle_nil, nlss_append, nlss, nls, nl, simVs, simV, simT, simH, simO, renO, innO, ren, inn, rens, inns, renss, innss, rene, inne, bk, hpL, upd, noH, ext, lk, nlss_evs, nlss_pbs, renss_nl, innss_nl, rens_nl, inns_nl, evs_length, pbs_length, evs_append, evs_one, List.take_of_length_le, List.filter_append, evs_nil, nle_mes, rene_nl, inne_nl, List.take_length, sites, mesF]; done)); rintro ⟨i, hi⟩; rcases cases15 R i with ⟨hlt, ht⟩ | ⟨hlt, hr0, hst⟩ | ⟨hlt, hr0, j, hj, hmd, hst⟩ | ⟨hlt, hr0, hj, hst⟩)
    | ((with_reducible refine lp_here ?_); refine aw_lpg (fun x : {i : Nat // i ≤ L.length} => (⟨[.list 9 (evs L), .list 4 (pbs R), .undef, .undef, .nils, .mp [11], .undef, .undef, .sl [1008] 9 0 ((L.take x.1).filter (keepE R)).length, .undef, .undef], [(28, .list 9 (evs L)), (29, .int .i64 (L.length : Int)), (30, .int .i64 (x.1 : Int))], hpL [([11], .map (mesF (sites R) 0) (sites R).length), ([1008], .cells 46 9 (evs ((L.take x.1).filter (keepE R))))], []⟩ : FS)) (fun x => L.length - x.1) ⟨0, by simp⟩ (gk_lst [([1008], none)] (fun _ h => h) (by rfl) ?_ ?_ ?_) ?_; (focus (simp [*, nle_append, nle_cons, nle_nil, nlss_append, nlss, nls, nl, simVs, simV, simT, simH, simO, renO, innO, ren, inn, rens, inns, renss, innss, rene, inne, bk, hpL, upd, noH, ext, lk, nlss_evs, nlss_pbs, renss_nl, innss_nl, rens_nl, inns_nl, evs_length, pbs_length, evs_append, evs_one, List.take_of_length_le, List.filter_append, evs_nil, nle_mes, rene_nl, inne_nl, List.take_length, ht]; done)); (focus (simp [*, nle_append, nle_cons, nle_nil, nlss_append, nlss, nls, nl, simVs, simV, simT, simH, simO, renO, innO, ren, inn, rens, inns, renss, innss, rene, inne, bk, hpL, upd, noH, ext, lk, nlss_evs, nlss_pbs, renss_nl, innss_nl, rens_nl, inns_nl, evs_length, pbs_length, evs_append, evs_one, List.take_of_length_le, List.filter_append, evs_nil, nle_mes, rene_nl, inne_nl, List.take_length]; done)); (focus (simp [*, nle_append, nle_cons, nle_nil, nlss_append, nlss, nls, nl, simVs, simV, simT, simH, simO, renO, innO, ren, inn, rens, inns, renss, innss, rene, inne, bk, hpL, upd, noH, ext, lk, nlss_evs, nlss_pbs, renss_nl, innss_nl, rens_nl, inns_nl, evs_length, pbs_length, evs_append, evs_one, List.take_of_length_le, List.filter_append, evs_nil, nle_mes, rene_nl, inne_nl, List.take_length, ht]; done)); rintro ⟨i, hi⟩; have hfl := filter_len (L := L) (i := i) (p := keepE R); have hz : (((L.take i).filter (keepE R)).length + 1 + (((L.take i).filter (keepE R)).length + 1) / 4 + 192) * 72 ≤ 140737488355328 := (by omega); have hz2 : ((L.take i).filter (keepE R)).length ≤ 4611686018427387903 := (by omega); rcases cases15c R L i with ⟨hlt, ht⟩ | ⟨hlt, hr0, j, hj⟩ | ⟨hlt, hr0, hj⟩)
    | ((with_reducible refine kl_here ?_); refine kloopg (⟨i + 1, by omega⟩) (gk_lst [] (fun _ h => h) (by rfl) ?_ ?_ ?_) (by dsimp only; omega); (focus (have w := wr_inc (i := i) (m := R.length) (by assumption) (by omega); simp [*, nle_append, nle_cons, nle_nil, nlss_append, nlss, nls, nl, simVs, simV, simT, simH, simO, renO, innO, ren, inn, rens, inns, renss, innss, rene, inne, bk, hpL, upd, noH, ext, lk, nlss_evs, nlss_pbs, renss_nl, innss_nl, rens_nl, inns_nl, evs_length, pbs_length, evs_append, evs_one, List.take_of_length_le, List.filter_append, evs_nil, nle_mes, rene_nl, inne_nl, List.take_length, w, mesF_append]; done)); (focus (have w := wr_inc (i := i) (m := R.length) (by assumption) (by omega); simp [*, nle_append, nle_cons, nle_nil, nlss_append, nlss, nls, nl, simVs, simV, simT, simH, simO, renO, innO, ren, inn, rens, inns, renss, innss, rene, inne, bk, hpL, upd, noH, ext, lk, nlss_evs, nlss_pbs, renss_nl, innss_nl, rens_nl, inns_nl, evs_length, pbs_length, evs_append, evs_one, List.take_of_length_le, List.filter_append, evs_nil, nle_mes, rene_nl, inne_nl, List.take_length, w, mesF_append]; done)); (focus (have w := wr_inc (i := i) (m := R.length) (by assumption) (by omega); simp [*, nle_append, nle_cons, nle_nil, nlss_append, nlss, nls, nl, simVs, simV, simT, simH, simO, renO, innO, ren, inn, rens, inns, renss, innss, rene, inne, bk, hpL, upd, noH, ext, lk, nlss_evs, nlss_pbs, renss_nl, innss_nl, rens_nl, inns_nl, evs_length, pbs_length, evs_append, evs_one, List.take_of_length_le, List.filter_append, evs_nil, nle_mes, rene_nl, inne_nl, List.take_length, w, mesF_append]; done)))
    | ((with_reducible refine kl_here ?_); refine kloopg (⟨i + 1, by omega⟩) (gk_lst [] (fun _ h => h) (by rfl) ?_ ?_ ?_) (by dsimp only; omega); (focus (have e := filter_no (p := keepE R) (L := L) (i := i) (by assumption) (by simp_all [keepE, accE]); have w := wr_inc (i := i) (m := L.length) (by assumption) (by omega); simp [*, nle_append, nle_cons, nle_nil, nlss_append, nlss, nls, nl, simVs, simV, simT, simH, simO, renO, innO, ren, inn, rens, inns, renss, innss, rene, inne, bk, hpL, upd, noH, ext, lk, nlss_evs, nlss_pbs, renss_nl, innss_nl, rens_nl, inns_nl, evs_length, pbs_length, evs_append, evs_one, List.take_of_length_le, List.filter_append, evs_nil, nle_mes, rene_nl, inne_nl, List.take_length, w, e]; done)); (focus (have e := filter_no (p := keepE R) (L := L) (i := i) (by assumption) (by simp_all [keepE, accE]); have w := wr_inc (i := i) (m := L.length) (by assumption) (by omega); simp [*, nle_append, nle_cons, nle_nil, nlss_append, nlss, nls, nl, simVs, simV, simT, simH, simO, renO, innO, ren, inn, rens, inns, renss, innss, rene, inne, bk, hpL, upd, noH, ext, lk, nlss_evs, nlss_pbs, renss_nl, innss_nl, rens_nl, inns_nl, evs_length, pbs_length, evs_append, evs_one, List.take_of_length_le, List.filter_append, evs_nil, nle_mes, rene_nl, inne_nl, List.take_length, w, e]; done)); (focus (have e := filter_no (p := keepE R) (L := L) (i := i) (by assumption) (by simp_all [keepE, accE]); have w := wr_inc (i := i) (m := L.length) (by assumption) (by omega); simp [*, nle_append, nle_cons, nle_nil, nlss_append, nlss, nls, nl, simVs, simV, simT, simH, simO, renO, innO, ren, inn, rens, inns, renss, innss, rene, inne, bk, hpL, upd, noH, ext, lk, nlss_evs, nlss_pbs, renss_nl, innss_nl, rens_nl, inns_nl, evs_length, pbs_length, evs_append, evs_one, List.take_of_length_le, List.filter_append, evs_nil, nle_mes, rene_nl, inne_nl, List.take_length, w, e]; done)))
    | ((with_reducible refine kl_here ?_); refine kloopg (⟨i + 1, by omega⟩) (gk_lst [([1008], some [55])] (fun _ h => h) (by rfl) ?_ ?_ ?_) (by dsimp only; omega); (focus (have e := filter_yes (p := keepE R) (L := L) (i := i) (by assumption) (by simp_all [keepE, accE]); have w := wr_inc (i := i) (m := L.length) (by assumption) (by omega); simp [*, nle_append, nle_cons, nle_nil, nlss_append, nlss, nls, nl, simVs, simV, simT, simH, simO, renO, innO, ren, inn, rens, inns, renss, innss, rene, inne, bk, hpL, upd, noH, ext, lk, nlss_evs, nlss_pbs, renss_nl, innss_nl, rens_nl, inns_nl, evs_length, pbs_length, evs_append, evs_one, List.take_of_length_le, List.filter_append, evs_nil, nle_mes, rene_nl, inne_nl, List.take_length, w, e, Ev.row]; done)); (focus (have e := filter_yes (p := keepE R) (L := L) (i := i) (by assumption) (by simp_all [keepE, accE]); have w := wr_inc (i := i) (m := L.length) (by assumption) (by omega); simp [*, nle_append, nle_cons, nle_nil, nlss_append, nlss, nls, nl, simVs, simV, simT, simH, simO, renO, innO, ren, inn, rens, inns, renss, innss, rene, inne, bk, hpL, upd, noH, ext, lk, nlss_evs, nlss_pbs, renss_nl, innss_nl, rens_nl, inns_nl, evs_length, pbs_length, evs_append, evs_one, List.take_of_length_le, List.filter_append, evs_nil, nle_mes, rene_nl, inne_nl, List.take_length, w, e, Ev.row]; done)); (focus (have e := filter_yes (p := keepE R) (L := L) (i := i) (by assumption) (by simp_all [keepE, accE]); have w := wr_inc (i := i) (m := L.length) (by assumption) (by omega); simp [*, nle_append, nle_cons, nle_nil, nlss_append, nlss, nls, nl, simVs, simV, simT, simH, simO, renO, innO, ren, inn, rens, inns, renss, innss, rene, inne, bk, hpL, upd, noH, ext, lk, nlss_evs, nlss_pbs, renss_nl, innss_nl, rens_nl, inns_nl, evs_length, pbs_length, evs_append, evs_one, List.take_of_length_le, List.filter_append, evs_nil, nle_mes, rene_nl, inne_nl, List.take_length, w, e, Ev.row]; done)))
    | with_reducible refine aw_sq ?_
    | with_reducible refine aw_blk ?_
    | with_reducible refine aw_reg fun K hK => ?_
    | with_reducible refine aw_skip ?_
    | with_reducible refine aw_ret ?_
    | with_reducible refine aw_exit ?_
    | with_reducible refine aw_cnd fun T E hT hE => ?_
    | with_reducible refine kseq ?_
    | with_reducible refine kseq_r ?_
    | with_reducible refine kseq_e ?_
    | with_reducible refine kblk ?_
    | with_reducible refine kblk_r ?_
    | with_reducible refine kblk_hit ?_
    | with_reducible refine kblk_miss rfl ?_
    | with_reducible refine kloop_r ?_
    | with_reducible refine kloop_e ?_
    | with_reducible refine pfin_r ?_
    | with_reducible refine pfin_n ?_
    | with_reducible refine nfin_r ?_
    | with_reducible refine nfin_n ?_
    | with_reducible refine gop_t ?_
    | with_reducible refine gop_f ?_
    | with_reducible refine cond_t ?_
    | with_reducible refine cond_f ?_
    | with_reducible refine gsplit_nd (fun h => ?_) (fun h => ?_)
    | with_reducible refine gsplit_d (fun h => ?_) (fun h => ?_)
    | with_reducible refine hgsplit_nd (fun h => ?_) (fun h => ?_)
    | with_reducible refine hgsplit_d (fun h => ?_) (fun h => ?_)
    | with_reducible refine cond_nd (fun h => ?_) (fun h => ?_)
    | with_reducible refine cond_d (fun h => ?_) (fun h => ?_)
    | with_reducible refine gsplit_n (fun h => ?_) (fun h => ?_)
    | with_reducible refine gsplit (fun h => ?_) (fun h => ?_)
    | with_reducible refine hgsplit_n (fun h => ?_) (fun h => ?_)
    | with_reducible refine hgsplit (fun h => ?_) (fun h => ?_)
    | with_reducible refine cond_n (fun h => ?_) (fun h => ?_)
    | with_reducible refine cond_b (fun h => ?_) (fun h => ?_)
    | with_reducible refine hnx_go rfl (by decide) fresh_noH ?_
    | with_reducible refine hnx_go rfl (by decide) (fresh_upd (by simp [upd, noH, ext, hpL_at, hpL_nil, *])) ?_
    | with_reducible refine awH_go (by decide) (by kernel_rfl) ?_
    | with_reducible refine awH_tail (by decide) ?_
    | (with_reducible refine Kont.go hK ?_; clear hK K)
    | (with_reducible refine KT.go hT ?_; clear hT hE T E)
    | (with_reducible refine KT.go hE ?_; clear hT hE T E)
    | simp [*, -List.all_flatten, -List.all_eq_true, ext_noH, FS.init, FS.get, FS.put, FS.clean, lk, upd, ext, noH, cv1, cv, rv, FV.isU, FV.cellV, FV.cellsL, FV.storable, fLoad, fField, fIndex, fLen, fBin, fUn, fConv, natOf, fSlice, setFrom, fillA, pv, pv1, pv2, wv, wAlloc, wBox, wStore, wBuildS, wMakeS, wMakeM, wMapU, wApp, srcA, chunks, upds, List.foldl_cons, List.foldl_nil, fLook, fNil, fUn2, fBits, fCmp, fCmpB, eqK, eqCells, eqV, FV.kd, eqNil, nilV, putD, fStep, callee?, guardV, keepT, lastDst, condV, resV, resL, tupOf, StK, wOps_nil, wOps_cons, GOp_t, GOp_f, DoOp_n, DoOp_c, hMake, HG_t, HG_f, HDo_n, HDo_c, nl, nls, nlss, frz, frzs, frzR, asR, asRs, Fend, PFin_s, frzRes_s, frzNRes_s, frzN, nf, nfs, hpL_at, hpL_nil, keyOk, f_Program_eqGuardType_Program_depth_3, f_arT_35, f_arT_37, f_boolT_3, f_byT_33, f_byT_42, f_byT_46, f_fldT_42_0, f_fldT_42_1, f_fldT_42_2, f_fldT_46_1, f_fldT_46_6, f_fldT_46_7, f_intT_3, f_kdT_3, f_kdT_33, f_kdT_46, f_ldT_3, f_ldT_42, f_ldT_46, f_mpT_70, f_nilT_3, f_placesT_33, f_slT_35, f_slT_37, f_stT_3, f_stT_33, f_stT_46, f_strT_35, f_strT_37, f_szT_42, f_szT_46, f_zeroC_33, f_zeroC_42, f_zeroC_46, f_zeroV_4, nlss_evs, nlss_pbs, evs_length, pbs_length, evs_at, Ev.row, pbs_at, Pb.row, nat_inj]
  all_goals first
    | (have e1 : L.take i = L := List.take_of_length_le (by omega); simp [e1, List.take_of_length_le, nfs_evs, nlss_evs, evs_length, PFin, asR, evs_take]; done)
    | skip
  all_goals trace_state

end Go.Gc
