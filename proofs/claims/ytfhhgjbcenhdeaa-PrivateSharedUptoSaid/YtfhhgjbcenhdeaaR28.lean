/- Parts of the proof. -/
import Derived.Test.YtfhhgjbcenhdeaaR22
set_option linter.unusedSimpArgs false
set_option linter.unusedVariables false
namespace Go.He
open Go Go.FM Go.Gv Go.Proofs
set_option maxRecDepth 100000
set_option maxHeartbeats 40000000
theorem a_18 {p : Pg} (hp : VOk p) {Y : Pts} (hy : Gv.Form p Y) {B : Heap} (hB : BsP p 2 B) {i j : Nat} (hi : i < p.funcs.length) (hj : j < (p.funcs[i]).code.length) (q : p.funcs[i].code[j].op = 18) : FC Try.prog Gl 34 [.agg [.list 4 (fns p.funcs), .list 2 (gbs p.globals), .list 1 (lays p.layouts), .int .i64 p.main], .agg [.list 2 (sits (a0d p)), .sl [91] 1 0 p.funcs.length, .sl [93] 1 0 (a0d p).length], .int .i64 (i : Int), .int .i64 (j : Int)] (HP [] B (PF Y)) (.tup []) (HP [] B (PF (a3l p i j p.funcs[i].code[j] Y))) := by
 have hsv := a2b hp
 have nB : ∀ r, B (2 :: r) = none := fun r => (hB _ _ hy hy).fb 2 r (by decide)
 have nB1 : ∀ r, B (1 :: r) = none := fun r => (hB _ _ hy hy).fb 1 r (by decide)
 have hyn := hy.rn
 have hyc := hy.cn
 have hir : i < Y.regs.length := by omega
 obtain ⟨a1, a2, a3, a4, a5, a6⟩ := a4i hy hi (a5t hp hi hj (by rw [q]; decide))
 have ho : 0 <= (0 : Int) /\ (0 : Int) < ((a0d p).length : Int) := ⟨by decide, by have := a6r p; omega⟩
 have hst : a3l p i j p.funcs[i].code[j] Y = addR Y i p.funcs[i].code[j].a [0] := by simp [a3l, q]
 rw [a6c hir a2] at hst
 have hF := a4a hp hy hi hj
 rw [hst] at hF
 refine a3s (res := []) 19 389 [34] (fun d ix => 2 :: d :: ix) (fn := Try.f34) (by kernel_rfl) (by rfl) (by rfl) (by rfl) (by simp) (by decide) ?_
 repeat' first
  | (refine c1i 46 8 [2, 45] (.cells 3 1 [[.int .i64 0]]) rfl rfl (by decide) (by kernel_rfl) rfl (by kernel_rfl) ?_)
  | (with_reducible refine hfc0 (c5j hp a6 ho) ?_)
  | ((with_reducible refine b0u (j := 2) (hB _ _ hy hF) ?_ ?_ ?_ ?_); (focus rfl); (focus rfl); (focus rfl); focus trivial)
  | with_reducible first | refine a0p (id := 63) 25 a0k (by kernel_rfl) fun K hK => ?_ | refine a0p (id := 59) 7 a0k (by kernel_rfl) fun K hK => ?_ | refine a0p (id := 51) 24 a0k (by kernel_rfl) fun K hK => ?_ | refine a0p (id := 46) 25 a0k (by kernel_rfl) fun K hK => ?_ | refine a0p (id := 38) 17 a0k (by kernel_rfl) fun K hK => ?_ | refine a0p (id := 36) 12 a0k (by kernel_rfl) fun K hK => ?_ | refine a0p (id := 33) 17 a0k (by kernel_rfl) fun K hK => ?_ | refine a0p (id := 30) 13 a0k (by kernel_rfl) fun K hK => ?_ | refine a0p (id := 28) 12 a0k (by kernel_rfl) fun K hK => ?_ | refine a0p (id := 24) 17 a0k (by kernel_rfl) fun K hK => ?_ | refine a0p (id := 21) 15 a0k (by kernel_rfl) fun K hK => ?_ | refine a0p (id := 19) 15 a0k (by kernel_rfl) fun K hK => ?_ | refine a0p (id := 15) 12 a0k (by kernel_rfl) fun K hK => ?_ | refine a0p (id := 14) 11 a0k (by kernel_rfl) fun K hK => ?_ | refine a0p (id := 5) 11 a0k (by kernel_rfl) fun K hK => ?_ | refine stp ?_
  | (with_reducible refine stpK ?_; intro K hK)
  | (with_reducible refine stpC ?_; intro T E hT hE)
  | (with_reducible refine stp2 ?_ ?_ <;> intro h)
  | with_reducible first | refine a0q rfl ?_ | refine a0t rfl (Nat.le_of_ble_eq_true rfl) a0s ?_ | refine a0t rfl (Nat.le_of_ble_eq_true rfl) (a0r (by simp [HPXB, a3a, nB, nB1, ext, upd, *])) ?_ | refine a1v (by decide) (by kernel_rfl) ?_ | refine a0x (by decide) ?_
  | (with_reducible refine Kont.go hK ?_; clear hK K)
  | ((with_reducible first | refine KT.go hT ?_ | refine KT.go hE ?_); clear hT hE T E)
  | simp [*, -List.all_flatten, -List.all_eq_true, DEFB, LENB, a3a, a4b, a3o, a1a, a3y, a3z, a3f, a2u, a7f, a7g, a6p, List.length_set, a2u, a2j, a0g, a2x, a2i]
theorem a_f3 {p : Pg} (hp : VOk p) {Y : Pts} (hy : Gv.Form p Y) {B : Heap} (hB : BsP p 2 B) {i j : Nat} (hi : i < p.funcs.length) (hj : j < (p.funcs[i]).code.length) (q : p.funcs[i].code[j].op = 3 \/ p.funcs[i].code[j].op = 19 \/ p.funcs[i].code[j].op = 20) : FC Try.prog Gl 34 [.agg [.list 4 (fns p.funcs), .list 2 (gbs p.globals), .list 1 (lays p.layouts), .int .i64 p.main], .agg [.list 2 (sits (a0d p)), .sl [91] 1 0 p.funcs.length, .sl [93] 1 0 (a0d p).length], .int .i64 (i : Int), .int .i64 (j : Int)] (HP [] B (PF Y)) (.tup []) (HP [] B (PF (a3l p i j p.funcs[i].code[j] Y))) := by
 rcases q with q | q | q
 all_goals
  have hsv := a2b hp
  have nB : ∀ r, B (2 :: r) = none := fun r => (hB _ _ hy hy).fb 2 r (by decide)
  have nB1 : ∀ r, B (1 :: r) = none := fun r => (hB _ _ hy hy).fb 1 r (by decide)
  have hyn := hy.rn
  have hyc := hy.cn
  have hir : i < Y.regs.length := by omega
  obtain ⟨a1, a2, a3, a4, a5, a6⟩ := a4i hy hi (a5t hp hi hj (by rw [q]; decide))
  obtain ⟨b1, b2, b3, b4, b5, b6⟩ := a4i hy hi (a8c hp hi hj (by rw [q]; decide))
  have hst : a3l p i j p.funcs[i].code[j] Y = addR Y i p.funcs[i].code[j].a (rg Y i p.funcs[i].code[j].b) := by simp [a3l, q, alO]
  rw [b5] at hst
  rw [a6c hir a2] at hst
  have hF := a4a hp hy hi hj
  rw [hst] at hF
  refine a3s (res := []) 19 389 [34] (fun d ix => 2 :: d :: ix) (fn := Try.f34) (by kernel_rfl) (by rfl) (by rfl) (by rfl) (by simp) (by decide) ?_
  repeat' first
   | ((with_reducible refine b0u (j := 2) (hB _ _ hy hF) ?_ ?_ ?_ ?_); (focus rfl); (focus rfl); (focus rfl); focus trivial)
   | with_reducible first | refine a0p (id := 63) 25 a0k (by kernel_rfl) fun K hK => ?_ | refine a0p (id := 59) 7 a0k (by kernel_rfl) fun K hK => ?_ | refine a0p (id := 51) 24 a0k (by kernel_rfl) fun K hK => ?_ | refine a0p (id := 46) 25 a0k (by kernel_rfl) fun K hK => ?_ | refine a0p (id := 38) 17 a0k (by kernel_rfl) fun K hK => ?_ | refine a0p (id := 36) 12 a0k (by kernel_rfl) fun K hK => ?_ | refine a0p (id := 33) 17 a0k (by kernel_rfl) fun K hK => ?_ | refine a0p (id := 30) 13 a0k (by kernel_rfl) fun K hK => ?_ | refine a0p (id := 28) 12 a0k (by kernel_rfl) fun K hK => ?_ | refine a0p (id := 24) 17 a0k (by kernel_rfl) fun K hK => ?_ | refine a0p (id := 21) 15 a0k (by kernel_rfl) fun K hK => ?_ | refine a0p (id := 19) 15 a0k (by kernel_rfl) fun K hK => ?_ | refine a0p (id := 15) 12 a0k (by kernel_rfl) fun K hK => ?_ | refine a0p (id := 14) 11 a0k (by kernel_rfl) fun K hK => ?_ | refine a0p (id := 5) 11 a0k (by kernel_rfl) fun K hK => ?_ | refine stp ?_
   | (with_reducible refine stpK ?_; intro K hK)
   | (with_reducible refine stpC ?_; intro T E hT hE)
   | (with_reducible refine stp2 ?_ ?_ <;> intro h)
   | with_reducible first | refine a0q rfl ?_ | refine a1n (a9z hp a6 b6) (by simp [nls, nl, *, NLXB]) ?_ | refine hpc (a9z hp a6 b6) (by simp [nls, nl, *, NLXB]) ?_ | refine a0t rfl (Nat.le_of_ble_eq_true rfl) a0s ?_ | refine a0t rfl (Nat.le_of_ble_eq_true rfl) (a0r (by simp [HPXB, a3a, nB, nB1, ext, upd, *])) ?_ | refine a1v (by decide) (by kernel_rfl) ?_ | refine a0x (by decide) ?_
   | (with_reducible refine Kont.go hK ?_; clear hK K)
   | ((with_reducible first | refine KT.go hT ?_ | refine KT.go hE ?_); clear hT hE T E)
   | simp [*, -List.all_flatten, -List.all_eq_true, DEFB, LENB, a3a, a4b, a3o, a1a, a3y, a3z, a3f, a2u, a7f, a7g, a6p, List.length_set, a2u, a2j, a0g, a2x, a2i]
theorem f5r {p : Pg} (hp : VOk p) {Y : Pts} (hy : Gv.Form p Y) {B : Heap} (hB : BsP p 2 B) {i j : Nat} (hi : i < p.funcs.length) (hj : j < (p.funcs[i]).code.length) (q : p.funcs[i].code[j].op = 33 \/ p.funcs[i].code[j].op = 35) : FC Try.prog Gl 34 [.agg [.list 4 (fns p.funcs), .list 2 (gbs p.globals), .list 1 (lays p.layouts), .int .i64 p.main], .agg [.list 2 (sits (a0d p)), .sl [91] 1 0 p.funcs.length, .sl [93] 1 0 (a0d p).length], .int .i64 (i : Int), .int .i64 (j : Int)] (HP [] B (PF Y)) (.tup []) (HP [] B (PF (a3l p i j p.funcs[i].code[j] Y))) := by
 rcases q with q | q
 all_goals
  have hsv := a2b hp
  have nB : ∀ r, B (2 :: r) = none := fun r => (hB _ _ hy hy).fb 2 r (by decide)
  have nB1 : ∀ r, B (1 :: r) = none := fun r => (hB _ _ hy hy).fb 1 r (by decide)
  have hyn := hy.rn
  have hyc := hy.cn
  have hir : i < Y.regs.length := by omega
  obtain ⟨a1, a2, a3, a4, a5, a6⟩ := a4i hy hi (a5t hp hi hj (by rw [q]; decide))
  obtain ⟨b1, b2, b3, b4, b5, b6⟩ := a4i hy hi (a8c hp hi hj (by rw [q]; decide))
  have hst : a3l p i j p.funcs[i].code[j] Y = addR Y i p.funcs[i].code[j].a (a8j Y (rg Y i p.funcs[i].code[j].b)) := by simp [a3l, q, alO]
  rw [b5] at hst
  rw [a6c hir a2] at hst
  have hF := a4a hp hy hi hj
  rw [hst] at hF
  refine a3s (res := []) 19 389 [34] (fun d ix => 2 :: d :: ix) (fn := Try.f34) (by kernel_rfl) (by rfl) (by rfl) (by rfl) (by simp) (by decide) ?_
  repeat' first
   | (with_reducible refine hfc1 [1, 2] (.cells 30 3 [[.list 2 (sits (a0d p)), .sl [91] 1 0 p.funcs.length, .sl [93] 1 0 (a0d p).length]]) (b9i hp hy b6 a3o) ?_)
   | ((with_reducible refine b0u (j := 2) (hB _ _ hy hF) ?_ ?_ ?_ ?_); (focus rfl); (focus rfl); (focus rfl); focus trivial)
   | with_reducible first | refine a0p (id := 63) 25 a0k (by kernel_rfl) fun K hK => ?_ | refine a0p (id := 59) 7 a0k (by kernel_rfl) fun K hK => ?_ | refine a0p (id := 51) 24 a0k (by kernel_rfl) fun K hK => ?_ | refine a0p (id := 46) 25 a0k (by kernel_rfl) fun K hK => ?_ | refine a0p (id := 38) 17 a0k (by kernel_rfl) fun K hK => ?_ | refine a0p (id := 36) 12 a0k (by kernel_rfl) fun K hK => ?_ | refine a0p (id := 33) 17 a0k (by kernel_rfl) fun K hK => ?_ | refine a0p (id := 30) 13 a0k (by kernel_rfl) fun K hK => ?_ | refine a0p (id := 28) 12 a0k (by kernel_rfl) fun K hK => ?_ | refine a0p (id := 24) 17 a0k (by kernel_rfl) fun K hK => ?_ | refine a0p (id := 21) 15 a0k (by kernel_rfl) fun K hK => ?_ | refine a0p (id := 19) 15 a0k (by kernel_rfl) fun K hK => ?_ | refine a0p (id := 15) 12 a0k (by kernel_rfl) fun K hK => ?_ | refine a0p (id := 14) 11 a0k (by kernel_rfl) fun K hK => ?_ | refine a0p (id := 5) 11 a0k (by kernel_rfl) fun K hK => ?_ | refine stp ?_
   | (with_reducible refine stpK ?_; intro K hK)
   | (with_reducible refine stpC ?_; intro T E hT hE)
   | (with_reducible refine stp2 ?_ ?_ <;> intro h)
   | with_reducible first | refine a0q rfl ?_ | refine a1n (a9z hp a6 (b0f hy _)) (by simp [nls, nl, *, NLXB]) ?_ | refine hpc (a9z hp a6 (b0f hy _)) (by simp [nls, nl, *, NLXB]) ?_ | refine a0t rfl (Nat.le_of_ble_eq_true rfl) a0s ?_ | refine a0t rfl (Nat.le_of_ble_eq_true rfl) (a0r (by simp [HPXB, a3a, nB, nB1, ext, upd, *])) ?_ | refine a1v (by decide) (by kernel_rfl) ?_ | refine a0x (by decide) ?_
   | (with_reducible refine Kont.go hK ?_; clear hK K)
   | ((with_reducible first | refine KT.go hT ?_ | refine KT.go hE ?_); clear hT hE T E)
   | simp [*, -List.all_flatten, -List.all_eq_true, DEFB, LENB, a3a, a4b, a3o, a1a, a3y, a3z, a3f, a2u, a7f, a7g, a6p, List.length_set, a2u, a2j, a0g, a2x, a2i]
end Go.He
