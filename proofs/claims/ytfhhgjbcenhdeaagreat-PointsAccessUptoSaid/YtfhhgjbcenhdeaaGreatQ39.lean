/- Parts of the proof. -/
import Derived.Test.YtfhhgjbcenhdeaaGreatQ23
set_option linter.unusedSimpArgs false
set_option linter.unusedVariables false
namespace Go.Ge
open Go Go.FM Go.Gv Go.Proofs
set_option maxRecDepth 100000
set_option maxHeartbeats 40000000
theorem a_24 {p : Pg} (hp : VOk p) {Y : Pts} (hy : Gv.Form p Y) {B : Heap} (hB : BsP p 2 B) {i j : Nat} (hi : i < p.funcs.length) (hj : j < (p.funcs[i]).code.length) (q : p.funcs[i].code[j].op = 24) : FC Tryz.prog Gl 56 [.agg [.list 4 (fns p.funcs), .list 2 (gbs p.globals), .list 1 (lays p.layouts), .int .i64 p.main], .agg [.list 2 (sits (a0i p)), .sl [91] 1 0 p.funcs.length, .sl [93] 1 0 (a0i p).length], .int .i64 (i : Int), .int .i64 (j : Int)] (HP [] B (PF Y)) (.tup []) (HP [] B (PF (a3s p i j p.funcs[i].code[j] Y))) := by
 have hsv := a2f hp
 have nB : ∀ r, B (2 :: r) = none := fun r => (hB _ _ hy hy).fb 2 r (by decide)
 have nB1 : ∀ r, B (1 :: r) = none := fun r => (hB _ _ hy hy).fb 1 r (by decide)
 have hyn := hy.rn
 have hyc := hy.cn
 have hir : i < Y.regs.length := by omega
 have hI := hp.ins _ (List.getElem_mem hi) _ (List.getElem_mem hj)
 have hra : isR p.funcs[i] p.funcs[i].code[j].a := a6c hp hi hj (by rw [q]; decide)
 obtain ⟨hra0, hra1⟩ := id hra
 have hr64 := (hp.regs (List.getElem_mem hi)).r64
 have hfy := hy.fn i hir hi
 have hx := hI.x24 q
 have hc0 : 0 <= p.funcs[i].code[j].c := by have := hI.c; rw [q] at this; simp [rR, opR] at this; exact this.1
 have hx1 : p.funcs[i].code[j].a + p.funcs[i].code[j].c < p.funcs[i].regs := by have := hx.1; unfold W at this; rw [IntKind.wrap_i64] at this; omega
 have hx2 := hx.2
 have hoL := b2g p ((i : Int), (j : Int))
 have ho : 0 <= ((objR (a0i p) ((i : Int), (j : Int)) : Nat) : Int) /\ ((objR (a0i p) ((i : Int), (j : Int)) : Nat) : Int) < ((a0i p).length : Int) := by omega
 generalize hO : objR (a0i p) ((i : Int), (j : Int)) = O at ho hoL
 have hobj : PC Tryz.prog Gl 75 [.agg [.list 4 (fns p.funcs), .list 2 (gbs p.globals), .list 1 (lays p.layouts), .int .i64 p.main], .agg [.int .i64 (i : Int), .int .i64 (j : Int)]] (.int .i64 (O : Int)) := by have := c6a hp ((i : Int), (j : Int)); rw [hO] at this; exact this
 have hst : a3s p i j p.funcs[i].code[j] Y = addR (b5s Y i p.funcs[i].code[j] (O : Int) p.funcs[i].code[j].c.toNat) i p.funcs[i].code[j].a [(O : Int)] := by simp [a3s, q, alO, hO]
 refine a4a (res := []) 19 389 [34] (fun d ix => 2 :: d :: ix) (fn := Tryz.f56) (by kernel_rfl) (by rfl) (by rfl) (by rfl) (by simp) (by decide) ?_
 repeat' first
  | ((with_reducible refine a1u ?_); refine a2n (σ := {k : Nat // k <= p.funcs[i].code[j].c.toNat}) (fun y => [(11, .int .i64 ((y.1 : Int) + 1))]) [] (fun y => []) [] (fun y => []) (fun y => PF (b5s Y i p.funcs[i].code[j] (O : Int) y.1)) (fun y => p.funcs[i].code[j].c.toNat - y.1) ⟨0, by simp⟩ (gk3 (j := 2) [] (hB _ _ hy (b8c hy ho _)) ?_ ?_ ?_ ?_ ?_ ?_ ?_) ?_; (iterate 7 (focus (first | rfl | (simp [LPXB, *, SIMB, hdN, injB, a3h, a7r, a7q, a4i, a3u, a6n, b5s, List.range_zero, List.foldl_nil]; done)))); rintro ⟨k, hk⟩; simp only [lpS, LPXB]; (try dsimp only at hk); have hZ := b8c (i := i) (n := p.funcs[i].code[j]) hy ho k; have hZr := hZ.rn; have hZi : i < (b5s Y i p.funcs[i].code[j] (O : Int) k).regs.length := (by omega); rcases a1t hk with hlt | ⟨hlt, rfl⟩; have wk : IntKind.wrap .i64 ((k : Int) + 1 + 1) = (k : Int) + 1 + 1 := (by rw [IntKind.wrap_i64]; omega); have hkc : (k : Int) + 1 <= p.funcs[i].code[j].c := (by omega); have hwa : IntKind.wrap .i64 (p.funcs[i].code[j].a + ((k : Int) + 1)) = p.funcs[i].code[j].a + ((k : Int) + 1) := (by rw [IntKind.wrap_i64]; omega); obtain ⟨z1, z2, z3, z4, z5, z6⟩ := a4m hZ hi (show isR p.funcs[i] (p.funcs[i].code[j].a + ((k : Int) + 1)) from ⟨by omega, by omega⟩); have hfz := hZ.fn i z1 hi; have hz4' : p.funcs[i].code[j].a + ((k : Int) + 1) < (Y.regs[i].length : Int) := (by omega); have hz4x : p.funcs[i].code[j].a + ((k : Int) + 1) < p.funcs[i].regs := (by omega); have hw := d0g (Y := Y) (i := i) (n := p.funcs[i].code[j]) (o := (O : Int)) k; rw [z5] at hw; rotate_left; have hcn : (p.funcs[i].code[j].c.toNat : Int) = p.funcs[i].code[j].c := (by omega); have hcn2 : ¬ p.funcs[i].code[j].c + 1 <= p.funcs[i].code[j].c := (by omega); obtain ⟨b1, b2, b3, b4, b5, b6⟩ := a4m hZ hi hra; rw [a6l hZi b2] at hst; have hF := a4f hp hy hi hj; rw [hst] at hF; rotate_left)
  | ((with_reducible refine a1p ?_); refine a2a ⟨k + 1, by omega⟩ (gk3 (j := 2) [] (hB _ _ hy (b8c hy ho _)) ?_ ?_ ?_ ?_ ?_ ?_ ?_) ?_; (iterate 7 (focus (first | rfl | (simp [LPXB, *, SIMB, hdN, injB, a3h, a7r, a7q, a4i, a3u, a6n, d6h]; done)))); (focus (dsimp only; omega)))
  | (refine a4t rfl (d7j (T := 3) hp hZ (BsP.call hB (by decide) hZ (by rfl) (by first | rfl | (simp [ninL, ninO, a3p, nins, nin, a0f, a0h, a0a, a1g, a0b, a6d, a4i, a3u, a7l, a3h, HPXB, nB, *]; done))) (by simp [a2o, a2r]) ho z6) ?_)
  | (refine c1s 90 9 [2, 89] (.cells 3 1 [[.int .i64 (O : Int)]]) rfl rfl (by decide) (by kernel_rfl) rfl (by kernel_rfl) ?_)
  | (with_reducible refine hfc0 (c5w hp b6 ho) ?_)
  | ((with_reducible refine b1a (j := 2) (hB _ _ hy hF) ?_ ?_ ?_ ?_); (focus rfl); (focus rfl); (focus rfl); focus trivial)
  | with_reducible first | refine a0u (id := 63) 25 a0m (by kernel_rfl) fun K hK => ?_ | refine a0u (id := 59) 7 a0m (by kernel_rfl) fun K hK => ?_ | refine a0u (id := 51) 24 a0m (by kernel_rfl) fun K hK => ?_ | refine a0u (id := 46) 25 a0m (by kernel_rfl) fun K hK => ?_ | refine a0u (id := 38) 17 a0m (by kernel_rfl) fun K hK => ?_ | refine a0u (id := 36) 11 a0m (by kernel_rfl) fun K hK => ?_ | refine a0u (id := 33) 17 a0m (by kernel_rfl) fun K hK => ?_ | refine a0u (id := 30) 12 a0m (by kernel_rfl) fun K hK => ?_ | refine a0u (id := 28) 11 a0m (by kernel_rfl) fun K hK => ?_ | refine a0u (id := 24) 17 a0m (by kernel_rfl) fun K hK => ?_ | refine a0u (id := 21) 15 a0m (by kernel_rfl) fun K hK => ?_ | refine a0u (id := 19) 15 a0m (by kernel_rfl) fun K hK => ?_ | refine a0u (id := 15) 12 a0m (by kernel_rfl) fun K hK => ?_ | refine a0u (id := 14) 10 a0m (by kernel_rfl) fun K hK => ?_ | refine a0u (id := 5) 11 a0m (by kernel_rfl) fun K hK => ?_ | refine stp ?_
  | (with_reducible refine stpK ?_; intro K hK)
  | (with_reducible refine stpC ?_; intro T E hT hE)
  | (with_reducible refine stp2 ?_ ?_ <;> intro h)
  | with_reducible first | refine a0p rfl ?_ | refine a1h hobj (by simp [nls, nl, *, NLXB]) ?_ | refine hpc hobj (by simp [nls, nl, *, NLXB]) ?_ | refine a1r rfl (Nat.le_of_ble_eq_true rfl) a0r ?_ | refine a1r rfl (Nat.le_of_ble_eq_true rfl) (a0q (by simp [HPXB, a3h, nB, nB1, ext, upd, *])) ?_ | refine a1s (by decide) (by kernel_rfl) ?_ | refine a0x (by decide) ?_
  | (with_reducible refine Kont.go hK ?_; clear hK K)
  | ((with_reducible first | refine KT.go hT ?_ | refine KT.go hE ?_); clear hT hE T E)
  | simp [*, -List.all_flatten, -List.all_eq_true, DEFB, LENB, a3h, a4i, a3u, a1i, a4c, a4e, a3n, a3b, a7l, a7n, a6t, List.length_set, a3b, a2p, a0d, a3a, a2j]
end Go.Ge
