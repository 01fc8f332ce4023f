/- Parts of the proof. -/
import Derived.Test.YtfhhgjbcenhdeaaR22
set_option linter.unusedSimpArgs false
set_option linter.unusedVariables false
namespace Go.He
open Go Go.FM Go.Gv Go.Proofs
set_option maxRecDepth 100000
set_option maxHeartbeats 40000000
theorem e7p {p : Pg} (hp : VOk p) {Y : Pts} (hy : Gv.Form p Y) {B : Heap} (hB : BsP p 2 B) {i j : Nat} (hi : i < p.funcs.length) (hj : j < (p.funcs[i]).code.length) (q : p.funcs[i].code[j].op = 27 \/ p.funcs[i].code[j].op = 29 \/ p.funcs[i].code[j].op = 32) : FC Try.prog Gl 34 [.agg [.list 4 (fns p.funcs), .list 2 (gbs p.globals), .list 1 (lays p.layouts), .int .i64 p.main], .agg [.list 2 (sits (a0d p)), .sl [91] 1 0 p.funcs.length, .sl [93] 1 0 (a0d p).length], .int .i64 (i : Int), .int .i64 (j : Int)] (HP [] B (PF Y)) (.tup []) (HP [] B (PF (a3l p i j p.funcs[i].code[j] Y))) := by
 rcases q with q | q | q
 all_goals
  have hsv := a2b hp
  have nB : ∀ r, B (2 :: r) = none := fun r => (hB _ _ hy hy).fb 2 r (by decide)
  have nB1 : ∀ r, B (1 :: r) = none := fun r => (hB _ _ hy hy).fb 1 r (by decide)
  have hyn := hy.rn
  have hyc := hy.cn
  have hir : i < Y.regs.length := by omega
  obtain ⟨a1, a2, a3, a4, a5, a6⟩ := a4i hy hi (a5t hp hi hj (by rw [q]; decide))
  have hOF : ∀ k, Gv.Form p (a7v p Y (((Y.regs[i]'a1)[p.funcs[i].code[j].a.toNat]).take k)) := fun k => d4v hp hy a6.2 k
  have hol := Nat.le_trans (a6w a6) hsv
  have hst : a3l p i j p.funcs[i].code[j] Y = a7v p Y ((Y.regs[i]'a1)[p.funcs[i].code[j].a.toNat]) := by simp [a3l, q, alO, a5]
  have hF := a4a hp hy hi hj
  rw [hst] at hF
  refine a3s (res := []) 19 389 [34] (fun d ix => 2 :: d :: ix) (fn := Try.f34) (by kernel_rfl) (by rfl) (by rfl) (by rfl) (by simp) (by decide) ?_
  repeat' first
   | ((with_reducible refine a1o ?_); refine a2h (σ := {k : Nat // k <= ((Y.regs[i]'a1)[p.funcs[i].code[j].a.toNat]).length}) (fun y => [(16, .int .i64 (y.1 : Int)), (17, .undef), (18, .undef)]) [] (fun y => []) [] (fun y => []) (fun y => PF (a7v p Y (((Y.regs[i]'a1)[p.funcs[i].code[j].a.toNat]).take y.1))) (fun y => ((Y.regs[i]'a1)[p.funcs[i].code[j].a.toNat]).length - y.1) ⟨0, by simp⟩ (gk3 (j := 2) [] (hB _ _ hy (hOF 0)) ?_ ?_ ?_ ?_ ?_ ?_ ?_) ?_; (iterate 7 (focus (first | rfl | (simp [LPXB, *, SIMB, hdN, injB, a3a, a7n, a7m, a4b, a3o, a6g, a7v, List.take_zero, List.foldl_nil]; done)))); rintro ⟨k, hk⟩; simp only [lpS, LPXB]; (try dsimp only at hk); have hZ := hOF k; have hZr := hZ.rn; have hZi : i < (a7v p Y (((Y.regs[i]'a1)[p.funcs[i].code[j].a.toNat]).take k)).regs.length := (by omega); rcases a1l hk with hlt | ⟨hlt, he⟩; rotate_left; subst k; have htk := List.take_length (l := (Y.regs[i]'a1)[p.funcs[i].code[j].a.toNat]); rotate_left; have wk := wli (i := k) (m := 200000) (by omega) (by decide); have ho := a6.2 _ (List.getElem_mem hlt); have hfu := fun q (hq : q ∈ a4x p (a7v p Y (((Y.regs[i]'a1)[p.funcs[i].code[j].a.toNat]).take k)) ((Y.regs[i]'a1)[p.funcs[i].code[j].a.toNat][k]'hlt)) => c0s hp hq; have hfl := c7c (p := p) (a7v p Y (((Y.regs[i]'a1)[p.funcs[i].code[j].a.toNat]).take k)) ((Y.regs[i]'a1)[p.funcs[i].code[j].a.toNat][k]'hlt); have hnf := hp.nf; have hcal := d4u (p := p) (Y := Y) hlt; rotate_left)
   | ((with_reducible refine a1o ?_); refine a2h (σ := {m : Nat // m <= (a4x p (a7v p Y (((Y.regs[i]'a1)[p.funcs[i].code[j].a.toNat]).take k)) ((Y.regs[i]'a1)[p.funcs[i].code[j].a.toNat][k]'hlt)).length}) (fun y => [(18, .int .i64 (y.1 : Int))]) [] (fun y => []) [] (fun y => []) (fun y => PF (oneF (a7v p Y (((Y.regs[i]'a1)[p.funcs[i].code[j].a.toNat]).take k)) ((Y.regs[i]'a1)[p.funcs[i].code[j].a.toNat][k]'hlt) ((a4x p (a7v p Y (((Y.regs[i]'a1)[p.funcs[i].code[j].a.toNat]).take k)) ((Y.regs[i]'a1)[p.funcs[i].code[j].a.toNat][k]'hlt)).take y.1))) (fun y => (a4x p (a7v p Y (((Y.regs[i]'a1)[p.funcs[i].code[j].a.toNat]).take k)) ((Y.regs[i]'a1)[p.funcs[i].code[j].a.toNat][k]'hlt)).length - y.1) ⟨0, by simp⟩ (gk3 (j := 2) [] (hB _ _ hy (b7f hp hZ ho hfu 0)) ?_ ?_ ?_ ?_ ?_ ?_ ?_) ?_; (iterate 7 (focus (first | rfl | (simp [LPXB, *, SIMB, hdN, injB, a3a, a7n, a7m, a4b, a3o, a6g, c6i, List.take_zero]; done)))); rintro ⟨m, hm⟩; simp only [lpS, LPXB]; (try dsimp only at hm); have hW := b7f hp hZ ho hfu m; have hWr := hW.rn; have hWi : i < (oneF (a7v p Y (((Y.regs[i]'a1)[p.funcs[i].code[j].a.toNat]).take k)) ((Y.regs[i]'a1)[p.funcs[i].code[j].a.toNat][k]'hlt) ((a4x p (a7v p Y (((Y.regs[i]'a1)[p.funcs[i].code[j].a.toNat]).take k)) ((Y.regs[i]'a1)[p.funcs[i].code[j].a.toNat][k]'hlt)).take m)).regs.length := (by omega); rcases a1l hm with hlm | ⟨hlm, he⟩; rotate_left; subst m; have htm := List.take_length (l := a4x p (a7v p Y (((Y.regs[i]'a1)[p.funcs[i].code[j].a.toNat]).take k)) ((Y.regs[i]'a1)[p.funcs[i].code[j].a.toNat][k]'hlt)); rw [htm] at hWi; rotate_left; have wm := wli (i := m) (m := 200000) (by omega) (by decide); obtain ⟨f0, f1, f2⟩ := hfu _ (List.getElem_mem hlm); obtain ⟨g1, g2⟩ := reg0 hp f0 f1 f2; obtain ⟨z1, z2, z3, z4, z5, z6⟩ := a4i hW g1 g2; have z2' := z2; simp only [Int.toNat_zero] at z2' z6; have hw := d2d (Z := a7v p Y (((Y.regs[i]'a1)[p.funcs[i].code[j].a.toNat]).take k)) (o := ((Y.regs[i]'a1)[p.funcs[i].code[j].a.toNat][k]'hlt)) hlm; rw [a6c z1 z2] at hw; simp only [Int.toNat_zero] at hw; rotate_left)
   | ((with_reducible refine a1j ?_); refine a1w ⟨m + 1, by omega⟩ (gk3 (j := 2) [] (hB _ _ hy (b7f hp hZ ho hfu (m + 1))) ?_ ?_ ?_ ?_ ?_ ?_ ?_) ?_; (iterate 7 (focus (first | rfl | (simp [LPXB, *, SIMB, hdN, injB, a3a, a7n, a7m, a4b, a3o, a6g, c6i, List.take_zero]; done)))); (focus (dsimp only; omega)))
   | ((with_reducible refine a1j ?_); refine a1w ⟨k + 1, by omega⟩ (gk3 (j := 2) [] (hB _ _ hy (hOF (k + 1))) ?_ ?_ ?_ ?_ ?_ ?_ ?_) ?_; (iterate 7 (focus (first | rfl | (simp [LPXB, *, SIMB, hdN, injB, a3a, a7n, a7m, a4b, a3o, a6g]; done)))); (focus (dsimp only; omega)))
   | (with_reducible refine f0v (p.funcs.length + 30) (c3o hp hZ ho.2) (d8r hZ _) (by simp [asRs, asR]) ?_)
   | (refine c1i 387 22 [2, 386] (.cells 3 1 [[.int .i64 ((Y.regs[i]'a1)[p.funcs[i].code[j].a.toNat][k]'hlt)]]) rfl rfl (by decide) (by kernel_rfl) rfl (by kernel_rfl) ?_)
   | (with_reducible refine hfc0 (c5j hp z6 ho) ?_)
   | ((with_reducible refine b0u (j := 2) (hB _ _ hy hF) ?_ ?_ ?_ ?_); (focus rfl); (focus rfl); (focus rfl); focus trivial)
   | with_reducible first | refine a0p (id := 63) 25 a0k (by kernel_rfl) fun K hK => ?_ | refine a0p (id := 59) 7 a0k (by kernel_rfl) fun K hK => ?_ | refine a0p (id := 51) 24 a0k (by kernel_rfl) fun K hK => ?_ | refine a0p (id := 46) 25 a0k (by kernel_rfl) fun K hK => ?_ | refine a0p (id := 38) 17 a0k (by kernel_rfl) fun K hK => ?_ | refine a0p (id := 36) 12 a0k (by kernel_rfl) fun K hK => ?_ | refine a0p (id := 33) 17 a0k (by kernel_rfl) fun K hK => ?_ | refine a0p (id := 30) 13 a0k (by kernel_rfl) fun K hK => ?_ | refine a0p (id := 28) 12 a0k (by kernel_rfl) fun K hK => ?_ | refine a0p (id := 24) 17 a0k (by kernel_rfl) fun K hK => ?_ | refine a0p (id := 21) 15 a0k (by kernel_rfl) fun K hK => ?_ | refine a0p (id := 19) 15 a0k (by kernel_rfl) fun K hK => ?_ | refine a0p (id := 15) 12 a0k (by kernel_rfl) fun K hK => ?_ | refine a0p (id := 14) 11 a0k (by kernel_rfl) fun K hK => ?_ | refine a0p (id := 5) 11 a0k (by kernel_rfl) fun K hK => ?_ | refine stp ?_
   | (with_reducible refine stpK ?_; intro K hK)
   | (with_reducible refine stpC ?_; intro T E hT hE)
   | (with_reducible refine stp2 ?_ ?_ <;> intro h)
   | with_reducible first | refine a0q rfl ?_ | refine a0t rfl (Nat.le_of_ble_eq_true rfl) a0s ?_ | refine a0t rfl (Nat.le_of_ble_eq_true rfl) (a0r (by simp [HPXB, a3a, nB, nB1, ext, upd, *])) ?_ | refine a1v (by decide) (by kernel_rfl) ?_ | refine a0x (by decide) ?_
   | (with_reducible refine Kont.go hK ?_; clear hK K)
   | ((with_reducible first | refine KT.go hT ?_ | refine KT.go hE ?_); clear hT hE T E)
   | simp [*, -List.all_flatten, -List.all_eq_true, DEFB, LENB, a3a, a4b, a3o, a1a, a3y, a3z, a3f, a2u, a7f, a7g, a6p, List.length_set, a2u, a2j, a0g, a2x, a2i, FnD.row, a0h, a2r, Ins.row, Int.toNat_natCast, a3c, a7f, List.length_set, Int.toNat_natCast]
end Go.He
