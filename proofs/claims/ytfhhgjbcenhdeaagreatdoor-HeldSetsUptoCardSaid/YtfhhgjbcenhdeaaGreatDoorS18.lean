/- Part. -/
import Derived.Test.YtfhhgjbcenhdeaaGreatDoorS17
set_option linter.all false
set_option maxRecDepth 100000
set_option maxHeartbeats 0
namespace Go.Je
open Go Go.FM Go.Gv Go.Proofs
def QE (C : Int -> Prop) : Prop := ∀ {p : Pg} (hp : VOk p) {Y : Pts} (hy : Gv.Form p Y) {B : Heap} (hB : BsP p 2 B) {i j : Nat} (hi : i < p.fu.length) (hj : j < (p.fu[i]).code.length) (_ : C p.fu[i].code[j].op), FC Tp Gl 111 [PA p, .agg [.list 2 (sits (a0a p)), .sl [91] 1 0 p.fu.length, .sl [93] 1 0 (a0a p).length], .int .i64 (i : Int), .int .i64 (j : Int)] (HP [] B (PF Y)) (.tup []) (HP [] B (PF (a1e p i j p.fu[i].code[j] Y)))
theorem yE {P : Prop} (h : P := by
 rename_i p; intro hp Y hy B hB i j hi hj q
 have hsv := a0h hp
 have nB : ∀ r, B (2 :: r) = none := fun r => (hB _ _ hy hy).fb 2 r yb
 have nB1 : ∀ r, B (1 :: r) = none := fun r => (hB _ _ hy hy).fb 1 r yb
 have hyn := hy.rn
 have hyc := hy.cn
 have hir : i < Y.regs.length := by omega
 obtain ⟨a1, a2, a3, a4, a5, a6⟩ := a1y hy hi (a3l hp hi hj y7)
 have hOF : ∀ k, Gv.Form p (a5d p Y (((Y.regs[i]'a1)[p.fu[i].code[j].a.toNat]).take k)) := fun k => e1i hp hy a6.2 k
 have hol := A0a (a7q a6) hsv
 have hst : a1e p i j p.fu[i].code[j] Y = a5d p Y ((Y.regs[i]'a1)[p.fu[i].code[j].a.toNat]) := by simp [a1e, q, alO, a5]
 have hF := a1o hp hy hi hj
 rw [hst] at hF
 refine yv Tryz.f111 [] 19 389 [34] 2 ?_
 repeat' first
  | (refine yi ?_; refine a0e (σ := {k : Nat // k <= ((Y.regs[i]'a1)[p.fu[i].code[j].a.toNat]).length}) (fun y => [(16, .int .i64 (y.1 : Int)), (17, .undef), (18, .undef)]) [] (fun y => []) [] (fun y => []) (fun y => PF (a5d p Y (((Y.regs[i]'a1)[p.fu[i].code[j].a.toNat]).take y.1))) (fun y => ((Y.regs[i]'a1)[p.fu[i].code[j].a.toNat]).length - y.1) ⟨0, by simp⟩ (gk3 (j := 2) [] (hB _ _ hy (hOF 0)) z20 z20 z20 z20 z20 z20 z20) ?_; rintro ⟨k, hk⟩; simp only [lpS, LPXB]; (try dsimp only at hk); have hZ := hOF k; have hZr := hZ.rn; have hZi : i < (a5d p Y (((Y.regs[i]'a1)[p.fu[i].code[j].a.toNat]).take k)).regs.length := ya; rcases a0c hk with hlt | ⟨hlt, he⟩; rotate_left; subst k; have htk := A0c (l := (Y.regs[i]'a1)[p.fu[i].code[j].a.toNat]); rotate_left; have wk := wli (i := k) (m := 200000) ya yb; have ho := a6.2 _ (A5p hlt); have hfu := fun q (hq : q ∈ a2q p (a5d p Y (((Y.regs[i]'a1)[p.fu[i].code[j].a.toNat]).take k)) ((Y.regs[i]'a1)[p.fu[i].code[j].a.toNat][k]'hlt)) => c1o hp hq; have hfl := d0m (p := p) (a5d p Y (((Y.regs[i]'a1)[p.fu[i].code[j].a.toNat]).take k)) ((Y.regs[i]'a1)[p.fu[i].code[j].a.toNat][k]'hlt); have hnf := hp.nf; have hcal := e1h (p := p) (Y := Y) hlt; rotate_left)
  | (refine yi ?_; refine a0e (σ := {m : Nat // m <= (a2q p (a5d p Y (((Y.regs[i]'a1)[p.fu[i].code[j].a.toNat]).take k)) ((Y.regs[i]'a1)[p.fu[i].code[j].a.toNat][k]'hlt)).length}) (fun y => [(18, .int .i64 (y.1 : Int))]) [] (fun y => []) [] (fun y => []) (fun y => PF (oneF (a5d p Y (((Y.regs[i]'a1)[p.fu[i].code[j].a.toNat]).take k)) ((Y.regs[i]'a1)[p.fu[i].code[j].a.toNat][k]'hlt) ((a2q p (a5d p Y (((Y.regs[i]'a1)[p.fu[i].code[j].a.toNat]).take k)) ((Y.regs[i]'a1)[p.fu[i].code[j].a.toNat][k]'hlt)).take y.1))) (fun y => (a2q p (a5d p Y (((Y.regs[i]'a1)[p.fu[i].code[j].a.toNat]).take k)) ((Y.regs[i]'a1)[p.fu[i].code[j].a.toNat][k]'hlt)).length - y.1) ⟨0, by simp⟩ (gk3 (j := 2) [] (hB _ _ hy (b6q hp hZ ho hfu 0)) z16 z16 z16 z16 z16 z16 z16) ?_; rintro ⟨m, hm⟩; simp only [lpS, LPXB]; (try dsimp only at hm); have hW := b6q hp hZ ho hfu m; have hWr := hW.rn; have hWi : i < (oneF (a5d p Y (((Y.regs[i]'a1)[p.fu[i].code[j].a.toNat]).take k)) ((Y.regs[i]'a1)[p.fu[i].code[j].a.toNat][k]'hlt) ((a2q p (a5d p Y (((Y.regs[i]'a1)[p.fu[i].code[j].a.toNat]).take k)) ((Y.regs[i]'a1)[p.fu[i].code[j].a.toNat][k]'hlt)).take m)).regs.length := ya; rcases a0c hm with hlm | ⟨hlm, he⟩; rotate_left; subst m; have htm := A0c (l := a2q p (a5d p Y (((Y.regs[i]'a1)[p.fu[i].code[j].a.toNat]).take k)) ((Y.regs[i]'a1)[p.fu[i].code[j].a.toNat][k]'hlt)); rw [htm] at hWi; rotate_left; have wm := wli (i := m) (m := 200000) ya yb; obtain ⟨f0, f1, f2⟩ := hfu _ (A5p hlm); obtain ⟨g1, g2⟩ := reg0 hp f0 f1 f2; obtain ⟨z1, z2, z3, z4, z5, z6⟩ := a1y hW g1 g2; have z2' := z2; simp only [Int.toNat_zero] at z2' z6; have hw := d7j (Z := a5d p Y (((Y.regs[i]'a1)[p.fu[i].code[j].a.toNat]).take k)) (o := ((Y.regs[i]'a1)[p.fu[i].code[j].a.toNat][k]'hlt)) hlm; rw [a3u z1 z2] at hw; simp only [Int.toNat_zero] at hw; rotate_left)
  | (refine ye ?_; refine a0b ⟨m + 1, by omega⟩ (gk3 (j := 2) [] (hB _ _ hy (b6q hp hZ ho hfu (m + 1))) z16 z16 z16 z16 z16 z16 z16) yf)
  | (refine ye ?_; refine a0b ⟨k + 1, by omega⟩ (gk3 (j := 2) [] (hB _ _ hy (hOF (k + 1))) zq zq zq zq zq zq zq) yf)
  | (with_reducible refine f0c (p.fu.length + 30) (c5k hp hZ ho.2) (e6o hZ _) z2f ?_)
  | (refine c2i 387 22 [2, 386] (.cells 3 1 [[.int .i64 ((Y.regs[i]'a1)[p.fu[i].code[j].a.toNat][k]'hlt)]]) rfl rfl yb yc rfl yc ?_)
  | (with_reducible refine hfc0 (c7z hp z6 ho) ?_)
  | ((with_reducible refine a8x (j := 2) (hB _ _ hy hF) ?_ ?_ ?_ ?_); (iterate 3 (focus rfl)); focus trivial)
  | (refine dk4 ?_; intro K hK)
  | refine zu ?_
  | (refine stpC ?_; intro T E hT hE)
  | (refine stp2 ?_ ?_ <;> intro h)
  | (refine yg ?_; clear hK K)
  | (refine yh ?_; clear hT hE T E)
  | simp [*, -List.all_flatten, -List.all_eq_true, zo, a0p, zy, A0h, a0p, a0j, zx, a0v, FnD.row, a2i, a9r, Ins.row, A5r, b4h, c7j, A0h, A5r]
 ) : P := h
end Go.Je
