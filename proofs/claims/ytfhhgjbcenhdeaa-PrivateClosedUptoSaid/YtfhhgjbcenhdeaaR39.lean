/- Parts of the proof. -/
import Derived.Test.YtfhhgjbcenhdeaaR22
set_option linter.unusedSimpArgs false
set_option linter.unusedVariables false
namespace Go.He
open Go Go.FM Go.Gv Go.Proofs
set_option maxRecDepth 100000
set_option maxHeartbeats 40000000
theorem a_24 {p : Pg} (hp : VOk p) {Y : Pts} (hy : Gv.Form p Y) {B : Heap} (hB : BsP p 2 B) {i j : Nat} (hi : i < p.funcs.length) (hj : j < (p.funcs[i]).code.length) (q : p.funcs[i].code[j].op = 24) : FC Try.prog Gl 34 [.agg [.list 4 (fns p.funcs), .list 2 (gbs p.globals), .list 1 (lays p.layouts), .int .i64 p.main], .agg [.list 2 (sits (a0d p)), .sl [91] 1 0 p.funcs.length, .sl [93] 1 0 (a0d p).length], .int .i64 (i : Int), .int .i64 (j : Int)] (HP [] B (PF Y)) (.tup []) (HP [] B (PF (a3l p i j p.funcs[i].code[j] Y))) := by
 have hsv := a2b hp
 have nB : ∀ r, B (2 :: r) = none := fun r => (hB _ _ hy hy).fb 2 r (by decide)
 have nB1 : ∀ r, B (1 :: r) = none := fun r => (hB _ _ hy hy).fb 1 r (by decide)
 have hyn := hy.rn
 have hyc := hy.cn
 have hir : i < Y.regs.length := by omega
 have hI := hp.ins _ (List.getElem_mem hi) _ (List.getElem_mem hj)
 have hra : isR p.funcs[i] p.funcs[i].code[j].a := a5t hp hi hj (by rw [q]; decide)
 obtain ⟨hra0, hra1⟩ := id hra
 have hr64 := (hp.regs (List.getElem_mem hi)).r64
 have hfy := hy.fn i hir hi
 have hx := hI.x24 q
 have hc0 : 0 <= p.funcs[i].code[j].c := by have := hI.c; rw [q] at this; simp [rR, opR] at this; exact this.1
 have hx1 : p.funcs[i].code[j].a + p.funcs[i].code[j].c < p.funcs[i].regs := by have := hx.1; unfold W at this; rw [IntKind.wrap_i64] at this; omega
 have hx2 := hx.2
 have hoL := b1x p ((i : Int), (j : Int))
 have ho : 0 <= ((objR (a0d p) ((i : Int), (j : Int)) : Nat) : Int) /\ ((objR (a0d p) ((i : Int), (j : Int)) : Nat) : Int) < ((a0d p).length : Int) := by omega
 generalize hO : objR (a0d p) ((i : Int), (j : Int)) = O at ho hoL
 have hobj : PC Try.prog Gl 46 [.agg [.list 4 (fns p.funcs), .list 2 (gbs p.globals), .list 1 (lays p.layouts), .int .i64 p.main], .agg [.int .i64 (i : Int), .int .i64 (j : Int)]] (.int .i64 (O : Int)) := by have := c5p hp ((i : Int), (j : Int)); rw [hO] at this; exact this
 have hst : a3l p i j p.funcs[i].code[j] Y = addR (b5o Y i p.funcs[i].code[j] (O : Int) p.funcs[i].code[j].c.toNat) i p.funcs[i].code[j].a [(O : Int)] := by simp [a3l, q, alO, hO]
 refine a3s (res := []) 19 389 [34] (fun d ix => 2 :: d :: ix) (fn := Try.f34) (by kernel_rfl) (by rfl) (by rfl) (by rfl) (by simp) (by decide) ?_
 repeat' first
  | ((with_reducible refine a1o ?_); refine a2h (σ := {k : Nat // k <= p.funcs[i].code[j].c.toNat}) (fun y => [(11, .int .i64 ((y.1 : Int) + 1))]) [] (fun y => []) [] (fun y => []) (fun y => PF (b5o Y i p.funcs[i].code[j] (O : Int) y.1)) (fun y => p.funcs[i].code[j].c.toNat - y.1) ⟨0, by simp⟩ (gk3 (j := 2) [] (hB _ _ hy (b8b hy ho _)) ?_ ?_ ?_ ?_ ?_ ?_ ?_) ?_; (iterate 7 (focus (first | rfl | (simp [LPXB, *, SIMB, hdN, injB, a3a, a7n, a7m, a4b, a3o, a6g, b5o, List.range_zero, List.foldl_nil]; done)))); rintro ⟨k, hk⟩; simp only [lpS, LPXB]; (try dsimp only at hk); have hZ := b8b (i := i) (n := p.funcs[i].code[j]) hy ho k; have hZr := hZ.rn; have hZi : i < (b5o Y i p.funcs[i].code[j] (O : Int) k).regs.length := (by omega); rcases a1l hk with hlt | ⟨hlt, rfl⟩; have wk : IntKind.wrap .i64 ((k : Int) + 1 + 1) = (k : Int) + 1 + 1 := (by rw [IntKind.wrap_i64]; omega); have hkc : (k : Int) + 1 <= p.funcs[i].code[j].c := (by omega); have hwa : IntKind.wrap .i64 (p.funcs[i].code[j].a + ((k : Int) + 1)) = p.funcs[i].code[j].a + ((k : Int) + 1) := (by rw [IntKind.wrap_i64]; omega); obtain ⟨z1, z2, z3, z4, z5, z6⟩ := a4i hZ hi (show isR p.funcs[i] (p.funcs[i].code[j].a + ((k : Int) + 1)) from ⟨by omega, by omega⟩); have hfz := hZ.fn i z1 hi; have hz4' : p.funcs[i].code[j].a + ((k : Int) + 1) < (Y.regs[i].length : Int) := (by omega); have hz4x : p.funcs[i].code[j].a + ((k : Int) + 1) < p.funcs[i].regs := (by omega); have hw := c9s (Y := Y) (i := i) (n := p.funcs[i].code[j]) (o := (O : Int)) k; rw [z5] at hw; rotate_left; have hcn : (p.funcs[i].code[j].c.toNat : Int) = p.funcs[i].code[j].c := (by omega); have hcn2 : ¬ p.funcs[i].code[j].c + 1 <= p.funcs[i].code[j].c := (by omega); obtain ⟨b1, b2, b3, b4, b5, b6⟩ := a4i hZ hi hra; rw [a6c hZi b2] at hst; have hF := a4a hp hy hi hj; rw [hst] at hF; rotate_left)
  | ((with_reducible refine a1j ?_); refine a1w ⟨k + 1, by omega⟩ (gk3 (j := 2) [] (hB _ _ hy (b8b hy ho _)) ?_ ?_ ?_ ?_ ?_ ?_ ?_) ?_; (iterate 7 (focus (first | rfl | (simp [LPXB, *, SIMB, hdN, injB, a3a, a7n, a7m, a4b, a3o, a6g, d5f]; done)))); (focus (dsimp only; omega)))
  | (refine a4z rfl (d6c (T := 3) hp hZ (BsP.call hB (by decide) hZ (by rfl) (by first | rfl | (simp [ninL, ninO, a3m, nins, nin, a0e, a0i, a0a, a1d, a0c, a5u, a4b, a3o, a7f, a3a, HPXB, nB, *]; done))) (by simp [a2m, a2s]) ho z6) ?_)
  | (refine c1i 90 9 [2, 89] (.cells 3 1 [[.int .i64 (O : Int)]]) rfl rfl (by decide) (by kernel_rfl) rfl (by kernel_rfl) ?_)
  | (with_reducible refine hfc0 (c5j hp b6 ho) ?_)
  | ((with_reducible refine b0u (j := 2) (hB _ _ hy hF) ?_ ?_ ?_ ?_); (focus rfl); (focus rfl); (focus rfl); focus trivial)
  | with_reducible first | refine a0p (id := 63) 25 a0k (by kernel_rfl) fun K hK => ?_ | refine a0p (id := 59) 7 a0k (by kernel_rfl) fun K hK => ?_ | refine a0p (id := 51) 24 a0k (by kernel_rfl) fun K hK => ?_ | refine a0p (id := 46) 25 a0k (by kernel_rfl) fun K hK => ?_ | refine a0p (id := 38) 17 a0k (by kernel_rfl) fun K hK => ?_ | refine a0p (id := 36) 11 a0k (by kernel_rfl) fun K hK => ?_ | refine a0p (id := 33) 17 a0k (by kernel_rfl) fun K hK => ?_ | refine a0p (id := 30) 12 a0k (by kernel_rfl) fun K hK => ?_ | refine a0p (id := 28) 11 a0k (by kernel_rfl) fun K hK => ?_ | refine a0p (id := 24) 17 a0k (by kernel_rfl) fun K hK => ?_ | refine a0p (id := 21) 15 a0k (by kernel_rfl) fun K hK => ?_ | refine a0p (id := 19) 15 a0k (by kernel_rfl) fun K hK => ?_ | refine a0p (id := 15) 12 a0k (by kernel_rfl) fun K hK => ?_ | refine a0p (id := 14) 10 a0k (by kernel_rfl) fun K hK => ?_ | refine a0p (id := 5) 11 a0k (by kernel_rfl) fun K hK => ?_ | refine stp ?_
  | (with_reducible refine stpK ?_; intro K hK)
  | (with_reducible refine stpC ?_; intro T E hT hE)
  | (with_reducible refine stp2 ?_ ?_ <;> intro h)
  | with_reducible first | refine a0q rfl ?_ | refine a1n hobj (by simp [nls, nl, *, NLXB]) ?_ | refine hpc hobj (by simp [nls, nl, *, NLXB]) ?_ | refine a0t rfl (Nat.le_of_ble_eq_true rfl) a0s ?_ | refine a0t rfl (Nat.le_of_ble_eq_true rfl) (a0r (by simp [HPXB, a3a, nB, nB1, ext, upd, *])) ?_ | refine a1v (by decide) (by kernel_rfl) ?_ | refine a0x (by decide) ?_
  | (with_reducible refine Kont.go hK ?_; clear hK K)
  | ((with_reducible first | refine KT.go hT ?_ | refine KT.go hE ?_); clear hT hE T E)
  | simp [*, -List.all_flatten, -List.all_eq_true, DEFB, LENB, a3a, a4b, a3o, a1a, a3y, a3z, a3f, a2u, a7f, a7g, a6p, List.length_set, a2u, a2j, a0g, a2x, a2i]
end Go.He
