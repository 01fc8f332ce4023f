/- Part. -/
import Derived.Test.YtfhhgjbcenhdeaaGreatDoorS17
set_option linter.all false
set_option maxRecDepth 100000
set_option maxHeartbeats 0
namespace Go.Je
open Go Go.FM Go.Gv Go.Proofs
variable {B : Heap} {Y : Pts} {i j : Nat} {p : Pg}
theorem f8b (hp : VOk p) (hy : Gv.Form p Y) (hB : BsP p 2 B) (hi : i < p.fu.length) (hj : j < (p.fu[i]).code.length) (q : p.fu[i].code[j].op = 34 \/ p.fu[i].code[j].op = 36 \/ p.fu[i].code[j].op = 47) : FC Tp Gl 111 [PA p, .agg [.list 2 (sits (a0a p)), .sl [91] 1 0 p.fu.length, .sl [93] 1 0 (a0a p).length], .int .i64 (i : Int), .int .i64 (j : Int)] (HP [] B (PF Y)) (.tup []) (HP [] B (PF (a1e p i j p.fu[i].code[j] Y))) := by
 rcases q with q | q | q
 all_goals
  have hsv := a0h hp
  have nB : ∀ r, B (2 :: r) = none := fun r => (hB _ _ hy hy).fb 2 r yb
  have nB1 : ∀ r, B (1 :: r) = none := fun r => (hB _ _ hy hy).fb 1 r yb
  have hyn := hy.rn
  have hyc := hy.cn
  have hir : i < Y.regs.length := by omega
  obtain ⟨a1, a2, a3, a4, a5, a6⟩ := a1y hy hi (a3l hp hi hj y7)
  obtain ⟨b1, b2, b3, b4, b5, b6⟩ := a1y hy hi (a5l hp hi hj y7)
  have hst : a1e p i j p.fu[i].code[j] Y = a3f Y (rg Y i p.fu[i].code[j].a) (rg Y i p.fu[i].code[j].b) := by simp [a1e, q, alO]
  rw [a5] at hst
  rw [b5] at hst
  have hF := a1o hp hy hi hj
  rw [hst] at hF
  refine yv Tryz.f111 [] 19 389 [34] 2 ?_
  repeat' first
   | (refine a3d rfl (c5e hp hy (BsP.call hB yb hy yn z30) a6.2 b6.2 (A0a (a7q a6) hsv) (A0a (a7q b6) hsv)) ?_)
   | ((with_reducible refine a8x (j := 2) (hB _ _ hy hF) ?_ ?_ ?_ ?_); (iterate 3 (focus rfl)); focus trivial)
   | with_reducible first | refine dk5 ?_; intro K hK | refine a0n (id := 36) 11 a0d yc fun K hK => ?_ | refine a0n (id := 30) 12 a0d yc fun K hK => ?_ | refine a0n (id := 28) 11 a0d yc fun K hK => ?_ | refine zu ?_ | refine stpC ?_; intro T E hT hE | refine stp2 ?_ ?_ <;> intro h | refine yg ?_; clear hK K | refine yh ?_; clear hT hE T E
   | simp [*, -List.all_flatten, -List.all_eq_true, zo, a0p, zy, A0h, a0p, a0j, zx, a0v]
theorem a_38 (hp : VOk p) (hy : Gv.Form p Y) (hB : BsP p 2 B) (hi : i < p.fu.length) (hj : j < (p.fu[i]).code.length) (q : p.fu[i].code[j].op = 38) : FC Tp Gl 111 [PA p, .agg [.list 2 (sits (a0a p)), .sl [91] 1 0 p.fu.length, .sl [93] 1 0 (a0a p).length], .int .i64 (i : Int), .int .i64 (j : Int)] (HP [] B (PF Y)) (.tup []) (HP [] B (PF (a1e p i j p.fu[i].code[j] Y))) := by
 have hsv := a0h hp
 have nB : ∀ r, B (2 :: r) = none := fun r => (hB _ _ hy hy).fb 2 r yb
 have nB1 : ∀ r, B (1 :: r) = none := fun r => (hB _ _ hy hy).fb 1 r yb
 have hyn := hy.rn
 have hyc := hy.cn
 have hir : i < Y.regs.length := by omega
 have hI := hp.ins _ (A5p hi) _ (A5p hj)
 obtain ⟨b1, b2, b3, b4, b5, b6⟩ := a1y hy hi (a5l hp hi hj y7)
 have hx := hI.x38 q
 have hc0 : btw p.fu[i].code[j].c 0 8 = true \/ 0 <= p.fu[i].code[j].c := by have := hI.c; rw [q] at this; simp [rR, opR] at this; exact .inr this.1
 have hc1 : 0 <= p.fu[i].code[j].c := by rcases hc0 with h | h; simp [btw] at h; exact h.1; exact h
 have hcr : p.fu[i].code[j].c < p.fu[i].regs := by have := hI.c; rw [q] at this; simp [rR, opR] at this; exact this.2
 have hr64 := (hp.regs (A5p hi)).r64
 have hwc : IntKind.wrap .i64 (p.fu[i].code[j].c + 1) = p.fu[i].code[j].c + 1 := W_id ya ya
 obtain ⟨c1, c2, c3, c4, c5, c6⟩ := a1y hy hi (show isR p.fu[i] (p.fu[i].code[j].c + 1) from ⟨by omega, by unfold W at hx; rw [hwc] at hx; exact hx⟩)
 have hst : a1e p i j p.fu[i].code[j] Y = a3f Y (rg Y i p.fu[i].code[j].b) (rg Y i (p.fu[i].code[j].c + 1)) := by simp [a1e, q, alO]
 rw [b5] at hst
 rw [c5] at hst
 have hF := a1o hp hy hi hj
 rw [hst] at hF
 refine yv Tryz.f111 [] 19 389 [34] 2 ?_
 repeat' first
  | (refine a3d rfl (c5e hp hy (BsP.call hB yb hy yn z30) b6.2 c6.2 (A0a (a7q b6) hsv) (A0a (a7q c6) hsv)) ?_)
  | ((with_reducible refine a8x (j := 2) (hB _ _ hy hF) ?_ ?_ ?_ ?_); (iterate 3 (focus rfl)); focus trivial)
  | with_reducible first | refine dk5 ?_; intro K hK | refine a0n (id := 36) 11 a0d yc fun K hK => ?_ | refine a0n (id := 30) 12 a0d yc fun K hK => ?_ | refine a0n (id := 28) 11 a0d yc fun K hK => ?_ | refine zu ?_ | refine stpC ?_; intro T E hT hE | refine stp2 ?_ ?_ <;> intro h | refine yg ?_; clear hK K | refine yh ?_; clear hT hE T E
  | simp [*, -List.all_flatten, -List.all_eq_true, zo, a0p, zy, A0h, a0p, a0j, zx, a0v]
theorem a_24 (hp : VOk p) (hy : Gv.Form p Y) (hB : BsP p 2 B) (hi : i < p.fu.length) (hj : j < (p.fu[i]).code.length) (q : p.fu[i].code[j].op = 24) : FC Tp Gl 111 [PA p, .agg [.list 2 (sits (a0a p)), .sl [91] 1 0 p.fu.length, .sl [93] 1 0 (a0a p).length], .int .i64 (i : Int), .int .i64 (j : Int)] (HP [] B (PF Y)) (.tup []) (HP [] B (PF (a1e p i j p.fu[i].code[j] Y))) := by
 have hsv := a0h hp
 have nB : ∀ r, B (2 :: r) = none := fun r => (hB _ _ hy hy).fb 2 r yb
 have nB1 : ∀ r, B (1 :: r) = none := fun r => (hB _ _ hy hy).fb 1 r yb
 have hyn := hy.rn
 have hyc := hy.cn
 have hir : i < Y.regs.length := by omega
 have hI := hp.ins _ (A5p hi) _ (A5p hj)
 have hra : isR p.fu[i] p.fu[i].code[j].a := a3l hp hi hj y7
 obtain ⟨hra0, hra1⟩ := id hra
 have hr64 := (hp.regs (A5p hi)).r64
 have hfy := hy.fn i hir hi
 have hx := hI.x24 q
 have hc0 : 0 <= p.fu[i].code[j].c := by have := hI.c; rw [q] at this; simp [rR, opR] at this; exact this.1
 have hx1 : p.fu[i].code[j].a + p.fu[i].code[j].c < p.fu[i].regs := by have := hx.1; unfold W at this; rw [IntKind.wrap_i64] at this; omega
 have hx2 := hx.2
 have hoL := b0g p ((i : Int), (j : Int))
 have ho : 0 <= ((objR (a0a p) ((i : Int), (j : Int)) : Nat) : Int) /\ ((objR (a0a p) ((i : Int), (j : Int)) : Nat) : Int) < ((a0a p).length : Int) := by omega
 generalize hO : objR (a0a p) ((i : Int), (j : Int)) = O at ho hoL
 have hobj : Pq 153 [PA p, .agg [.int .i64 (i : Int), .int .i64 (j : Int)]] (.int .i64 (O : Int)) := by have := c8b hp ((i : Int), (j : Int)); rw [hO] at this; exact this
 have hst : a1e p i j p.fu[i].code[j] Y = addR (b4t Y i p.fu[i].code[j] (O : Int) p.fu[i].code[j].c.toNat) i p.fu[i].code[j].a [(O : Int)] := by simp [a1e, q, alO, hO]
 refine yv Tryz.f111 [] 19 389 [34] 2 ?_
 repeat' first
  | (refine yi ?_; refine a0e (σ := {k : Nat // k <= p.fu[i].code[j].c.toNat}) (fun y => [(11, .int .i64 ((y.1 : Int) + 1))]) [] (fun y => []) [] (fun y => []) (fun y => PF (b4t Y i p.fu[i].code[j] (O : Int) y.1)) (fun y => p.fu[i].code[j].c.toNat - y.1) ⟨0, by simp⟩ (gk3 (j := 2) [] (hB _ _ hy (b7z hy ho _)) z1y z1y z1y z1y z1y z1y z1y) ?_; rintro ⟨k, hk⟩; simp only [lpS, LPXB]; (try dsimp only at hk); have hZ := b7z (i := i) (n := p.fu[i].code[j]) hy ho k; have hZr := hZ.rn; have hZi : i < (b4t Y i p.fu[i].code[j] (O : Int) k).regs.length := ya; rcases a0c hk with hlt | ⟨hlt, rfl⟩; have wk : IntKind.wrap .i64 ((k : Int) + 1 + 1) = (k : Int) + 1 + 1 := zh; have hkc : (k : Int) + 1 <= p.fu[i].code[j].c := ya; have hwa : IntKind.wrap .i64 (p.fu[i].code[j].a + ((k : Int) + 1)) = p.fu[i].code[j].a + ((k : Int) + 1) := zh; obtain ⟨z1, z2, z3, z4, z5, z6⟩ := a1y hZ hi (show isR p.fu[i] (p.fu[i].code[j].a + ((k : Int) + 1)) from ⟨by omega, by omega⟩); have hfz := hZ.fn i z1 hi; have hz4' : p.fu[i].code[j].a + ((k : Int) + 1) < (Y.regs[i].length : Int) := ya; have hz4x : p.fu[i].code[j].a + ((k : Int) + 1) < p.fu[i].regs := ya; have hw := d3o (Y := Y) (i := i) (n := p.fu[i].code[j]) (o := (O : Int)) k; rw [z5] at hw; rotate_left; have hcn : (p.fu[i].code[j].c.toNat : Int) = p.fu[i].code[j].c := ya; have hcn2 : ¬ p.fu[i].code[j].c + 1 <= p.fu[i].code[j].c := ya; obtain ⟨b1, b2, b3, b4, b5, b6⟩ := a1y hZ hi hra; rw [a3u hZi b2] at hst; have hF := a1o hp hy hi hj; rw [hst] at hF; rotate_left)
  | (refine ye ?_; refine a0b ⟨k + 1, by omega⟩ (gk3 (j := 2) [] (hB _ _ hy (b7z hy ho _)) zq zq zq zq zq zq zq) yf)
  | (refine a3d rfl (e3g (T := 3) hp hZ (BsP.call hB yb hZ yn z30) (by simp [yw]) ho z6) ?_)
  | (refine c2i 90 9 [2, 89] (.cells 3 1 [[.int .i64 (O : Int)]]) rfl rfl yb yc rfl yc ?_)
  | (with_reducible refine hfc0 (c7z hp b6 ho) ?_)
  | ((with_reducible refine a8x (j := 2) (hB _ _ hy hF) ?_ ?_ ?_ ?_); (iterate 3 (focus rfl)); focus trivial)
  | with_reducible first | refine dk5 ?_; intro K hK | refine a0n (id := 36) 11 a0d yc fun K hK => ?_ | refine a0n (id := 30) 12 a0d yc fun K hK => ?_ | refine a0n (id := 28) 11 a0d yc fun K hK => ?_ | refine zu ?_ | refine stpC ?_; intro T E hT hE | refine stp2 ?_ ?_ <;> intro h | refine cpG hobj ?_ | refine yg ?_; clear hK K | refine yh ?_; clear hT hE T E
  | simp [*, -List.all_flatten, -List.all_eq_true, zo, a0p, zy, A0h, a0p, a0j, zx, a0v]
theorem f8a (hp : VOk p) (hy : Gv.Form p Y) (hB : BsP p 2 B) (hi : i < p.fu.length) (hj : j < (p.fu[i]).code.length) (q18 : ¬ p.fu[i].code[j].op = 18) (q21 : ¬ p.fu[i].code[j].op = 21) (q22 : ¬ p.fu[i].code[j].op = 22) (q23 : ¬ p.fu[i].code[j].op = 23) (q24 : ¬ p.fu[i].code[j].op = 24) (q3 : ¬ p.fu[i].code[j].op = 3) (q19 : ¬ p.fu[i].code[j].op = 19) (q20 : ¬ p.fu[i].code[j].op = 20) (q25 : ¬ p.fu[i].code[j].op = 25) (q33 : ¬ p.fu[i].code[j].op = 33) (q35 : ¬ p.fu[i].code[j].op = 35) (q34 : ¬ p.fu[i].code[j].op = 34) (q36 : ¬ p.fu[i].code[j].op = 36) (q47 : ¬ p.fu[i].code[j].op = 47) (q38 : ¬ p.fu[i].code[j].op = 38) (q48 : ¬ p.fu[i].code[j].op = 48) (q51 : ¬ p.fu[i].code[j].op = 51) (q26 : ¬ p.fu[i].code[j].op = 26) (q28 : ¬ p.fu[i].code[j].op = 28) (q31 : ¬ p.fu[i].code[j].op = 31) (q27 : ¬ p.fu[i].code[j].op = 27) (q29 : ¬ p.fu[i].code[j].op = 29) (q32 : ¬ p.fu[i].code[j].op = 32) : FC Tp Gl 111 [PA p, .agg [.list 2 (sits (a0a p)), .sl [91] 1 0 p.fu.length, .sl [93] 1 0 (a0a p).length], .int .i64 (i : Int), .int .i64 (j : Int)] (HP [] B (PF Y)) (.tup []) (HP [] B (PF (a1e p i j p.fu[i].code[j] Y))) := by
 have hsv := a0h hp
 have nB : ∀ r, B (2 :: r) = none := fun r => (hB _ _ hy hy).fb 2 r yb
 have nB1 : ∀ r, B (1 :: r) = none := fun r => (hB _ _ hy hy).fb 1 r yb
 have hyn := hy.rn
 have hyc := hy.cn
 have hir : i < Y.regs.length := by omega
 have hst : a1e p i j p.fu[i].code[j] Y = Y := by simp [a1e, q18, q21, q22, q23, q24, q3, q19, q20, q25, q33, q35, q34, q36, q47, q38, q48, q51, q26, q28, q31, q27, q29, q32, alO]
 have hF := a1o hp hy hi hj
 rw [hst] at hF
 refine yv Tryz.f111 [] 19 389 [34] 2 ?_
 repeat' first
  | ((with_reducible refine a8x (j := 2) (hB _ _ hy hF) ?_ ?_ ?_ ?_); (iterate 3 (focus rfl)); focus trivial)
  | (refine dk4 ?_; intro K hK)
  | refine zu ?_
  | (refine stpC ?_; intro T E hT hE)
  | (refine stp2 ?_ ?_ <;> intro h)
  | (refine yg ?_; clear hK K)
  | (refine yh ?_; clear hT hE T E)
  | simp [*, -List.all_flatten, -List.all_eq_true, zo, a0p, zy, A0h, a0p, a0j, zx, a0v]
end Go.Je
