/- Parts of the proof. -/
import Derived.Test.YtfhhgjbcenhdeaaGreatQ25
set_option linter.unusedSimpArgs false
set_option linter.unusedVariables false
namespace Go.Ge
open Go Go.FM Go.Gv Go.Proofs
set_option maxRecDepth 100000
set_option maxHeartbeats 40000000
theorem c9h {p : Pg} (hp : VOk p) {B : Heap} {Y : Pts} {g : Bool} (hy : Shp p Y) (hB : BsM p 1 B) (o : Int) : FC Tryz.prog Gl 86 [.ptr [81] 8 0 0, .int .i64 o] (HP [] B (MF p Y g)) (.bool (wrR p Y o)) (HP [] B (MF p Y g)) := by
 have hsv := a2f hp
 have fB : ∀ r, B (1 :: r) = none := fun r => (hB Y g Y g hy hy).fb 1 r (by decide)
 have y3 := hy.rn
 have hi2 : ∀ (L : List (FM.Loc × FO)), inH (HP L B (MF p Y g)) [81] := fun L => a3o a3w
 refine a4a (res := [.tmp 4]) 9 63 [15, 14, 13, 23, 22, 21, 28] (fun d ix => 1 :: d :: ix) (fn := Tryz.f86) (by kernel_rfl) (by rfl) (by rfl) (by rfl) (by simp) (by decide) ?_
 repeat' first
  | (with_reducible refine a0u (id := 10) 12 a0m (by kernel_rfl) fun K hK => ?_)
  | (with_reducible refine a0u (id := 14) 12 a0m (by kernel_rfl) fun K hK => ?_)
  | ((with_reducible refine a1u ?_); refine a2n (σ := {i : Nat // i <= p.funcs.length /\ noW p Y o i 0}) (fun y => [(5, .undef), (6, .undef), (7, .undef), (8, .undef)]) [14, 13] (fun y => [(15, .int .i64 (y.1 : Int))]) [[1, 6], [1, 8]] (fun y => []) (fun y => MF p Y g) (fun y => p.funcs.length - y.1) ⟨0, by simp, f0t p Y o⟩ (gk3i (j := 1) [] (hB _ _ _ _ hy hy) ?_ ?_ ?_ ?_ ?_ ?_ ?_) ?_; (iterate 7 (focus (first | rfl | (simp [LPXB, *, SIMB, hdN, injB, fB, a2d, a1q, a2b, hdN, a1c, a0v]; done)))); rintro ⟨i, hi, hk⟩; simp only [lpS, LPXB]; (try dsimp only at hi hk); rcases a1t hi with hlt | ⟨hlt, rfl⟩; rotate_left; have e := e4b hk; rotate_left; have wi := wli hlt (by have := hp.nf; omega); have hcv := b9c hp hlt; obtain ⟨y1, y2⟩ := hy.at hlt; have hrr := hp.regs (List.getElem_mem hlt); obtain ⟨nr, hnr⟩ : ∃ nr : Nat, (p.funcs[i]'hlt).regs = (nr : Int) := ⟨(p.funcs[i]'hlt).regs.toNat, by have := hrr.p0; have := hrr.p1; omega⟩; rw [hnr, Int.toNat_natCast] at y2)
  | ((with_reducible refine a1u ?_); refine a2n (σ := {j : Nat // j <= (p.funcs[i]'hlt).code.length /\ noW p Y o i j}) (fun y => [(7, .undef), (8, .undef)]) [22, 21, 15, 14, 13] (fun y => [(23, .int .i64 (y.1 : Int))]) [[1, 8]] (fun y => []) (fun y => MF p Y g) (fun y => (p.funcs[i]'hlt).code.length - y.1) ⟨0, by simp, hk⟩ (gk3i (j := 1) [] (hB _ _ _ _ hy hy) ?_ ?_ ?_ ?_ ?_ ?_ ?_) ?_; (iterate 7 (focus (first | rfl | (simp [LPXB, *, SIMB, hdN, injB, fB, a2d, a1q, a2b, hdN, a1c, a0v]; done)))); rintro ⟨j, hj, hkj⟩; simp only [lpS, LPXB]; (try dsimp only at hj hkj); rcases a1t hj with hlk | ⟨hlk, rfl⟩; have wk := wli hlk (by omega); rcases wr5 ((p.funcs[i]'hlt).code[j]'hlk).op with q1 | ⟨q1, q2⟩ | ⟨q1, q2, q3⟩ | ⟨q1, q2, q3, q4⟩ | ⟨q1, q2, q3, q4⟩; (have hra := a6c hp hlt hlk (by rw [q1]; decide); obtain ⟨r3, r4⟩ := id hra; have r2 : ((p.funcs[i]'hlt).code[j]'hlk).a.toNat < nr := (by omega); have r5 : ((p.funcs[i]'hlt).code[j]'hlk).a < (nr : Int) := (by omega); have hok := hy.rok hlt hra; by_cases hm : o ∈ getS Y (.r i ((p.funcs[i]'hlt).code[j]'hlk).a.toNat); have e := b8o (x := Y) (o := o) hlt hlk (by simp only [wrI]; rw [a7w] at hm; first | exact .inl ⟨by omega, hm⟩ | exact .inr ⟨by omega, hm⟩)); rotate_left; rotate_left; (have hra := a6c hp hlt hlk (by rw [q2]; decide); obtain ⟨r3, r4⟩ := id hra; have r2 : ((p.funcs[i]'hlt).code[j]'hlk).a.toNat < nr := (by omega); have r5 : ((p.funcs[i]'hlt).code[j]'hlk).a < (nr : Int) := (by omega); have hok := hy.rok hlt hra; by_cases hm : o ∈ getS Y (.r i ((p.funcs[i]'hlt).code[j]'hlk).a.toNat); have e := b8o (x := Y) (o := o) hlt hlk (by simp only [wrI]; rw [a7w] at hm; first | exact .inl ⟨by omega, hm⟩ | exact .inr ⟨by omega, hm⟩)); rotate_left; rotate_left; (have hra := a8h hp hlt hlk (by rw [q3]; decide); obtain ⟨r3, r4⟩ := id hra; have r2 : ((p.funcs[i]'hlt).code[j]'hlk).b.toNat < nr := (by omega); have r5 : ((p.funcs[i]'hlt).code[j]'hlk).b < (nr : Int) := (by omega); have hok := hy.rok hlt hra; by_cases hm : o ∈ getS Y (.r i ((p.funcs[i]'hlt).code[j]'hlk).b.toNat); have e := b8o (x := Y) (o := o) hlt hlk (by simp only [wrI]; rw [a7w] at hm; first | exact .inl ⟨by omega, hm⟩ | exact .inr ⟨by omega, hm⟩)); rotate_left; rotate_left; (have hra := a8h hp hlt hlk (by rw [q4]; decide); obtain ⟨r3, r4⟩ := id hra; have r2 : ((p.funcs[i]'hlt).code[j]'hlk).b.toNat < nr := (by omega); have r5 : ((p.funcs[i]'hlt).code[j]'hlk).b < (nr : Int) := (by omega); have hok := hy.rok hlt hra; by_cases hm : o ∈ getS Y (.r i ((p.funcs[i]'hlt).code[j]'hlk).b.toNat); have e := b8o (x := Y) (o := o) hlt hlk (by simp only [wrI]; rw [a7w] at hm; first | exact .inl ⟨by omega, hm⟩ | exact .inr ⟨by omega, hm⟩)); rotate_left; rotate_left)
  | ((with_reducible refine a1p ?_); refine a2a (⟨j + 1, by omega, f0r hkj hlt hlk (by simp only [wrI]; first | (rw [a7w] at hm; rintro (⟨h', hm'⟩ | ⟨h', hm'⟩) <;> first | omega | exact hm hm') | omega)⟩) (gk3i (j := 1) [] (hB _ _ _ _ hy hy) ?_ ?_ ?_ ?_ ?_ ?_ ?_) ?_; (iterate 7 (focus (first | rfl | (simp [LPXB, *, SIMB, hdN, injB, fB, a2d, a1q, a2b, hdN, a1c, a0v]; done)))); (focus (dsimp only; omega)))
  | ((with_reducible refine a1p ?_); refine a2a (⟨i + 1, by omega, f0s hlt hkj⟩) (gk3i (j := 1) [] (hB _ _ _ _ hy hy) ?_ ?_ ?_ ?_ ?_ ?_ ?_) ?_; (iterate 7 (focus (first | rfl | (simp [LPXB, *, SIMB, hdN, injB, fB, a2d, a1q, a2b, hdN, a1c, a0v]; done)))); (focus (dsimp only; omega)))
  | ((with_reducible refine cgH ?_); refine a4t rfl (c5y (t := SL.r i ((p.funcs[i]'hlt).code[j]'hlk).a.toNat) _ hB (by decide) hy hok ?_ ?_) ?_; (focus rfl); (focus (first | rfl | (simp [ninL, ninO, a3p, nins, nin, a0f, a0h, a0a, a1g, a0b, a0c, a1z, mapO, a2h, a1c, a0v, hdN, *]; done))))
  | ((with_reducible refine cgH ?_); refine a4t rfl (c5y (t := SL.r i ((p.funcs[i]'hlt).code[j]'hlk).b.toNat) _ hB (by decide) hy hok ?_ ?_) ?_; (focus rfl); (focus (first | rfl | (simp [ninL, ninO, a3p, nins, nin, a0f, a0h, a0a, a1g, a0b, a0c, a1z, mapO, a2h, a1c, a0v, hdN, *]; done))))
  | ((with_reducible refine d3m (j := 1) (hB _ _ _ _ hy hy) ?_ ?_ ?_ ?_); (focus rfl); (focus rfl); (focus (first | rfl | (simp [*]; done))); focus (first | trivial | (simp [nin, nins, a3b, inH, HPXB]; done)))
  | with_reducible refine stp ?_
  | (with_reducible refine stpK ?_; intro K hK)
  | (with_reducible refine stpC ?_; intro T E hT hE)
  | (with_reducible refine stp2 ?_ ?_ <;> intro h)
  | with_reducible first | refine a0p rfl ?_ | refine a1r rfl (Nat.le_of_ble_eq_true rfl) a0r ?_ | refine a1r rfl (Nat.le_of_ble_eq_true rfl) (a0q (by simp [HPXB, a2b, fB, ext, upd, *])) ?_ | refine a1s (by decide) (by kernel_rfl) ?_ | refine a0x (by decide) ?_
  | (with_reducible refine Kont.go hK ?_; clear hK K)
  | ((with_reducible first | refine KT.go hT ?_ | refine KT.go hE ?_); clear hT hE T E)
  | simp [*, -List.all_flatten, -List.all_eq_true, DEFM, fB, a2d, a1q, a2b, hdN, a1c, a0v, a1j, a0y, a0z, a2k, a2l, a2m, anR, a6q, a6p, a3w, a4k, a3i, MG_t, MG_f, rmvs, a0j, a3m, a0g, a2x, a0c, a0f, FnD.row, Ins.row]
 all_goals first
  | (simp [e4b hk]; done)
  | (have e := b8o (x := Y) (o := o) hlt hlk (by simp only [wrI]; rw [a7w] at hm; first | exact .inl ⟨by omega, hm⟩ | exact .inr ⟨by omega, hm⟩); simp [e]; done)
  | trace_state
theorem e8p {p : Pg} (hp : VOk p) {Y : Pts} (hy : Gv.Form p Y) {B : Heap} (hB : BsP p 2 B) {i j : Nat} (hi : i < p.funcs.length) (hj : j < (p.funcs[i]).code.length) (q18 : ¬ p.funcs[i].code[j].op = 18) (q21 : ¬ p.funcs[i].code[j].op = 21) (q22 : ¬ p.funcs[i].code[j].op = 22) (q23 : ¬ p.funcs[i].code[j].op = 23) (q24 : ¬ p.funcs[i].code[j].op = 24) (q3 : ¬ p.funcs[i].code[j].op = 3) (q19 : ¬ p.funcs[i].code[j].op = 19) (q20 : ¬ p.funcs[i].code[j].op = 20) (q25 : ¬ p.funcs[i].code[j].op = 25) (q33 : ¬ p.funcs[i].code[j].op = 33) (q35 : ¬ p.funcs[i].code[j].op = 35) (q34 : ¬ p.funcs[i].code[j].op = 34) (q36 : ¬ p.funcs[i].code[j].op = 36) (q47 : ¬ p.funcs[i].code[j].op = 47) (q38 : ¬ p.funcs[i].code[j].op = 38) (q48 : ¬ p.funcs[i].code[j].op = 48) (q51 : ¬ p.funcs[i].code[j].op = 51) (q26 : ¬ p.funcs[i].code[j].op = 26) (q28 : ¬ p.funcs[i].code[j].op = 28) (q31 : ¬ p.funcs[i].code[j].op = 31) (q27 : ¬ p.funcs[i].code[j].op = 27) (q29 : ¬ p.funcs[i].code[j].op = 29) (q32 : ¬ p.funcs[i].code[j].op = 32) : FC Tryz.prog Gl 56 [.agg [.list 4 (fns p.funcs), .list 2 (gbs p.globals), .list 1 (lays p.layouts), .int .i64 p.main], .agg [.list 2 (sits (a0i p)), .sl [91] 1 0 p.funcs.length, .sl [93] 1 0 (a0i p).length], .int .i64 (i : Int), .int .i64 (j : Int)] (HP [] B (PF Y)) (.tup []) (HP [] B (PF (a3s p i j p.funcs[i].code[j] Y))) := by
 have hsv := a2f hp
 have nB : ∀ r, B (2 :: r) = none := fun r => (hB _ _ hy hy).fb 2 r (by decide)
 have nB1 : ∀ r, B (1 :: r) = none := fun r => (hB _ _ hy hy).fb 1 r (by decide)
 have hyn := hy.rn
 have hyc := hy.cn
 have hir : i < Y.regs.length := by omega
 have hst : a3s p i j p.funcs[i].code[j] Y = Y := by simp [a3s, q18, q21, q22, q23, q24, q3, q19, q20, q25, q33, q35, q34, q36, q47, q38, q48, q51, q26, q28, q31, q27, q29, q32, alO]
 have hF := a4f hp hy hi hj
 rw [hst] at hF
 refine a4a (res := []) 19 389 [34] (fun d ix => 2 :: d :: ix) (fn := Tryz.f56) (by kernel_rfl) (by rfl) (by rfl) (by rfl) (by simp) (by decide) ?_
 repeat' first
  | ((with_reducible refine b1a (j := 2) (hB _ _ hy hF) ?_ ?_ ?_ ?_); (focus rfl); (focus rfl); (focus rfl); focus trivial)
  | with_reducible first | refine a0u (id := 63) 25 a0m (by kernel_rfl) fun K hK => ?_ | refine a0u (id := 59) 7 a0m (by kernel_rfl) fun K hK => ?_ | refine a0u (id := 51) 24 a0m (by kernel_rfl) fun K hK => ?_ | refine a0u (id := 46) 25 a0m (by kernel_rfl) fun K hK => ?_ | refine a0u (id := 38) 17 a0m (by kernel_rfl) fun K hK => ?_ | refine a0u (id := 36) 12 a0m (by kernel_rfl) fun K hK => ?_ | refine a0u (id := 33) 17 a0m (by kernel_rfl) fun K hK => ?_ | refine a0u (id := 30) 13 a0m (by kernel_rfl) fun K hK => ?_ | refine a0u (id := 28) 12 a0m (by kernel_rfl) fun K hK => ?_ | refine a0u (id := 24) 17 a0m (by kernel_rfl) fun K hK => ?_ | refine a0u (id := 21) 15 a0m (by kernel_rfl) fun K hK => ?_ | refine a0u (id := 19) 15 a0m (by kernel_rfl) fun K hK => ?_ | refine a0u (id := 15) 12 a0m (by kernel_rfl) fun K hK => ?_ | refine a0u (id := 14) 11 a0m (by kernel_rfl) fun K hK => ?_ | refine a0u (id := 5) 11 a0m (by kernel_rfl) fun K hK => ?_ | refine stp ?_
  | (with_reducible refine stpK ?_; intro K hK)
  | (with_reducible refine stpC ?_; intro T E hT hE)
  | (with_reducible refine stp2 ?_ ?_ <;> intro h)
  | with_reducible first | refine a0p rfl ?_ | refine a1r rfl (Nat.le_of_ble_eq_true rfl) a0r ?_ | refine a1r rfl (Nat.le_of_ble_eq_true rfl) (a0q (by simp [HPXB, a3h, nB, nB1, ext, upd, *])) ?_ | refine a1s (by decide) (by kernel_rfl) ?_ | refine a0x (by decide) ?_
  | (with_reducible refine Kont.go hK ?_; clear hK K)
  | ((with_reducible first | refine KT.go hT ?_ | refine KT.go hE ?_); clear hT hE T E)
  | simp [*, -List.all_flatten, -List.all_eq_true, DEFB, LENB, a3h, a4i, a3u, a1i, a4c, a4e, a3n, a3b, a7l, a7n, a6t, List.length_set, a3b, a2p, a0d, a3a, a2j]
end Go.Ge
