/- Part. -/
import Derived.Test.YtfhhgjbcenhdeaaGreatDoorS17
set_option linter.all false
set_option maxRecDepth 100000
set_option maxHeartbeats 0
namespace Go.Je
open Go Go.FM Go.Gv Go.Proofs
variable {B : Heap} {Y : Pts} {i j : Nat} {p : Pg}
theorem h0j (hp : VOk p) (hy : Gv.Form p Y) (hB : BsP p 2 B) (hi : i < p.fu.length) (hj : j < (p.fu[i]).code.length) (q : p.fu[i].code[j].op = 26) (h0 : 0 <= p.fu[i].code[j].a) : FC Tp Gl 111 [PA p, .agg [.list 2 (sits (a0a p)), .sl [91] 1 0 p.fu.length, .sl [93] 1 0 (a0a p).length], .int .i64 (i : Int), .int .i64 (j : Int)] (HP [] B (PF Y)) (.tup []) (HP [] B (PF (a1e p i j p.fu[i].code[j] Y))) := by
 have hsv := a0h hp
 have nB : ∀ r, B (2 :: r) = none := fun r => (hB _ _ hy hy).fb 2 r yb
 have nB1 : ∀ r, B (1 :: r) = none := fun r => (hB _ _ hy hy).fb 1 r yb
 have hyn := hy.rn
 have hyc := hy.cn
 have hir : i < Y.regs.length := by omega
 have hI := hp.ins _ (A5p hi) _ (A5p hj)
 obtain ⟨cb0, cb1, cc0, cc1⟩ := a5e hp (A5p hi) (n := p.fu[i].code[j]) z3n
 have hbl : p.fu[i].code[j].b.toNat < p.fu.length := by omega
 have hfn := c1q hbl
 rw [hfn] at cc1
 have hpr := hp.regs (A5p hbl)
 have hp0 := hpr.p0
 have hp1 := hpr.p1
 have hp64 := hpr.r64
 have hpcl := hpr.c1000
 have hr64 := (hp.regs (A5p hi)).r64
 have hfy := hy.fn i hir hi
 obtain ⟨pn, hpn⟩ := Int.eq_ofNat_of_zero_le hp0
 have hPF : ∀ k, k <= pn -> Gv.Form p (a3m Y i p.fu[i].code[j] k) := fun k hk => b6o hy cb0 hbl hpr k ya
 have had : -1 <= p.fu[i].code[j].a /\ p.fu[i].code[j].a < p.fu[i].regs := by have := hI.a; rw [q] at this; exact a7d this (.inl rfl)
 have hra : isR p.fu[i] p.fu[i].code[j].a := ⟨h0, had.2⟩
 have hRF : ∀ k, Gv.Form p (a7z (a3m Y i p.fu[i].code[j] pn) i p.fu[i].code[j] (((p.fu[p.fu[i].code[j].b.toNat]'hbl).code).take k)) := fun k => d6h (hPF pn (A5s _)) hi hra _
 have hst : a1e p i j p.fu[i].code[j] Y = a7z (a3m Y i p.fu[i].code[j] pn) i p.fu[i].code[j] ((p.fu[p.fu[i].code[j].b.toNat]'hbl).code) := by simp [a1e, q, alO, hfn, hpn, h0]
 have hF := a1o hp hy hi hj
 rw [hst] at hF
 refine yv Tryz.f111 [] 19 389 [34] 2 ?_
 repeat' first
  | (refine yi ?_; refine a0e (σ := {k : Nat // k <= pn}) (fun y => [(13, .int .i64 (y.1 : Int))]) [] (fun y => []) [] (fun y => []) (fun y => PF (a3m Y i p.fu[i].code[j] y.1)) (fun y => pn - y.1) ⟨0, by simp⟩ z3o ?_; rintro ⟨k, hk⟩; simp only [lpS, LPXB]; (try dsimp only at hk); have hZ := hPF k hk; have hZr := hZ.rn; have hZi : i < (a3m Y i p.fu[i].code[j] k).regs.length := ya; have hZb : p.fu[i].code[j].b.toNat < (a3m Y i p.fu[i].code[j] k).regs.length := ya; rcases a0c hk with hlt | ⟨hlt, he⟩; rotate_left; subst k; rotate_left; have wk := wli (i := k) (m := 200) ya yb; obtain ⟨z1, z2, z3, z4, z5, z6⟩ := a1y hZ hbl (show isR p.fu[p.fu[i].code[j].b.toNat] (k : Int) from ⟨by omega, by omega⟩); simp only [A5r] at z2 z5 z6; have hz2x : (k : Int) < (((a3m Y i p.fu[i].code[j] k).regs[p.fu[i].code[j].b.toNat]'hZb).length : Int) := ya; have hwa : IntKind.wrap .i64 (p.fu[i].code[j].c + (k : Int)) = p.fu[i].code[j].c + (k : Int) := zh; obtain ⟨c1, c2, c3, c4, c5, c6⟩ := a1y hZ hi (show isR p.fu[i] (p.fu[i].code[j].c + (k : Int)) from ⟨by omega, by omega⟩); have hcx : p.fu[i].code[j].c + (k : Int) < p.fu[i].regs := ya; have hw := b3g (Y := Y) (f := i) (n := p.fu[i].code[j]) k; rw [c5, a3u hZb (by simpa using z2)] at hw; simp only [A5r] at hw; rotate_left; rotate_left)
  | (refine yi ?_; refine a0e (σ := {k : Nat // k <= ((p.fu[p.fu[i].code[j].b.toNat]'hbl).code).length}) (fun y => [(14, .int .i64 (y.1 : Int))]) [] (fun y => []) [] (fun y => []) (fun y => PF (a7z (a3m Y i p.fu[i].code[j] pn) i p.fu[i].code[j] (((p.fu[p.fu[i].code[j].b.toNat]'hbl).code).take y.1))) (fun y => ((p.fu[p.fu[i].code[j].b.toNat]'hbl).code).length - y.1) ⟨0, by simp⟩ (gk3 (j := 2) [] (hB _ _ hy (hRF 0)) z1z z1z z1z z1z z1z z1z z1z) ?_; rintro ⟨k, hk⟩; simp only [lpS, LPXB]; (try dsimp only at hk); have hZ := hRF k; have hZr := hZ.rn; have hZi : i < (a7z (a3m Y i p.fu[i].code[j] pn) i p.fu[i].code[j] (((p.fu[p.fu[i].code[j].b.toNat]'hbl).code).take k)).regs.length := ya; have hZb : p.fu[i].code[j].b.toNat < (a7z (a3m Y i p.fu[i].code[j] pn) i p.fu[i].code[j] (((p.fu[p.fu[i].code[j].b.toNat]'hbl).code).take k)).regs.length := ya; rcases a0c hk with hlt | ⟨hlt, he⟩; rotate_left; subst k; have htk := A0c (l := (p.fu[p.fu[i].code[j].b.toNat]'hbl).code); rotate_left; have wk := wli (i := k) (m := 2000) ya yb; obtain ⟨a1, a2, a3, a4, a5, a6⟩ := a1y hZ hi hra; by_cases h30 : ((p.fu[p.fu[i].code[j].b.toNat]'hbl).code)[k].op = 30; by_cases hA : 0 <= ((p.fu[p.fu[i].code[j].b.toNat]'hbl).code)[k].a; have hm := hp.ins _ (A5p hbl) _ (A5p hlt); have hma : isR p.fu[p.fu[i].code[j].b.toNat] ((p.fu[p.fu[i].code[j].b.toNat]'hbl).code)[k].a := (by have := hm.a; rw [h30] at this; exact ⟨hA, (a7d this (.inr rfl)).2⟩); have hmx := hma.2; obtain ⟨m1, m2, m3, m4, m5, m6⟩ := a1y hZ hbl hma; have hw := d6i (Y := a3m Y i p.fu[i].code[j] pn) (f := i) (n := p.fu[i].code[j]) hlt h30 hA; rw [m5, a3u hZi a2] at hw; rotate_left; have hA' : ¬ ((p.fu[p.fu[i].code[j].b.toNat]'hbl).code)[k].a ≥ 0 := hA; have hw := c8u (Y := a3m Y i p.fu[i].code[j] pn) (f := i) (n := p.fu[i].code[j]) hlt (fun e => hA e.2); rotate_left; have hw := c8u (Y := a3m Y i p.fu[i].code[j] pn) (f := i) (n := p.fu[i].code[j]) hlt (fun e => h30 e.1); rotate_left; rotate_left)
  | (refine ye ?_; refine a0b ⟨k + 1, by omega⟩ z3p yf)
  | (refine ye ?_; refine a0b ⟨k + 1, by omega⟩ (gk3 (j := 2) [] (hB _ _ hy (hRF (k + 1))) z0j z0j z0j z0j z0j z0j z0j) yf)
  | ((with_reducible refine a8x (j := 2) (hB _ _ hy hF) ?_ ?_ ?_ ?_); (iterate 3 (focus rfl)); focus trivial)
  | (refine dk4 ?_; intro K hK)
  | refine zu ?_
  | (refine stpC ?_; intro T E hT hE)
  | (refine stp2 ?_ ?_ <;> intro h)
  | refine cpG (b8m hp z6 c6) ?_
  | refine cpG (b8m hp a6 m6) ?_
  | (refine yg ?_; clear hK K)
  | (refine yh ?_; clear hT hE T E)
  | simp [*, -List.all_flatten, -List.all_eq_true, zo, a0p, zy, A0h, a0p, a0j, zx, a0v, FnD.row, a2i, a9r, Ins.row, A5r, b4h, c7j, A0h]
theorem f8d (hp : VOk p) (hy : Gv.Form p Y) (hB : BsP p 2 B) (hi : i < p.fu.length) (hj : j < (p.fu[i]).code.length) (q : p.fu[i].code[j].op = 21 \/ p.fu[i].code[j].op = 22 \/ p.fu[i].code[j].op = 23) : FC Tp Gl 111 [PA p, .agg [.list 2 (sits (a0a p)), .sl [91] 1 0 p.fu.length, .sl [93] 1 0 (a0a p).length], .int .i64 (i : Int), .int .i64 (j : Int)] (HP [] B (PF Y)) (.tup []) (HP [] B (PF (a1e p i j p.fu[i].code[j] Y))) := by
 rcases q with q | q | q
 all_goals
  have hsv := a0h hp
  have nB : ∀ r, B (2 :: r) = none := fun r => (hB _ _ hy hy).fb 2 r yb
  have nB1 : ∀ r, B (1 :: r) = none := fun r => (hB _ _ hy hy).fb 1 r yb
  have hyn := hy.rn
  have hyc := hy.cn
  have hir : i < Y.regs.length := by omega
  obtain ⟨a1, a2, a3, a4, a5, a6⟩ := a1y hy hi (a3l hp hi hj y7)
  have hoL := b0g p ((i : Int), (j : Int))
  have ho : 0 <= ((objR (a0a p) ((i : Int), (j : Int)) : Nat) : Int) /\ ((objR (a0a p) ((i : Int), (j : Int)) : Nat) : Int) < ((a0a p).length : Int) := by omega
  generalize hO : objR (a0a p) ((i : Int), (j : Int)) = O at ho hoL
  have hobj : Pq 153 [PA p, .agg [.int .i64 (i : Int), .int .i64 (j : Int)]] (.int .i64 (O : Int)) := by have := c8b hp ((i : Int), (j : Int)); rw [hO] at this; exact this
  have hst : a1e p i j p.fu[i].code[j] Y = addR Y i p.fu[i].code[j].a [(O : Int)] := by simp [a1e, q, alO, hO]
  rw [a3u hir a2] at hst
  have hF := a1o hp hy hi hj
  rw [hst] at hF
  refine yv Tryz.f111 [] 19 389 [34] 2 ?_
  repeat' first
   | (refine yi ?_; refine a0e (σ := Unit) (fun y => []) [] (fun y => []) [] (fun y => []) (fun y => PF Y) (fun y => 0) () (gk3 (j := 2) [] (hB _ _ hy hy) zq zq zq zq zq zq zq) ?_; rintro ⟨⟩; simp only [lpS, LPXB])
   | (refine c2i 90 9 [2, 89] (.cells 3 1 [[.int .i64 (O : Int)]]) rfl rfl yb yc rfl yc ?_)
   | (with_reducible refine hfc0 (c7z hp a6 ho) ?_)
   | ((with_reducible refine a8x (j := 2) (hB _ _ hy hF) ?_ ?_ ?_ ?_); (iterate 3 (focus rfl)); focus trivial)
   | with_reducible first | refine dk5 ?_; intro K hK | refine a0n (id := 36) 11 a0d yc fun K hK => ?_ | refine a0n (id := 30) 12 a0d yc fun K hK => ?_ | refine a0n (id := 28) 11 a0d yc fun K hK => ?_ | refine zu ?_ | refine stpC ?_; intro T E hT hE | refine stp2 ?_ ?_ <;> intro h | refine cpG hobj ?_ | refine yg ?_; clear hK K | refine yh ?_; clear hT hE T E
   | simp [*, -List.all_flatten, -List.all_eq_true, zo, a0p, zy, A0h, a0p, a0j, zx, a0v]
theorem a_25 (hp : VOk p) (hy : Gv.Form p Y) (hB : BsP p 2 B) (hi : i < p.fu.length) (hj : j < (p.fu[i]).code.length) (q : p.fu[i].code[j].op = 25) : FC Tp Gl 111 [PA p, .agg [.list 2 (sits (a0a p)), .sl [91] 1 0 p.fu.length, .sl [93] 1 0 (a0a p).length], .int .i64 (i : Int), .int .i64 (j : Int)] (HP [] B (PF Y)) (.tup []) (HP [] B (PF (a1e p i j p.fu[i].code[j] Y))) := by
 have hsv := a0h hp
 have nB : ∀ r, B (2 :: r) = none := fun r => (hB _ _ hy hy).fb 2 r yb
 have nB1 : ∀ r, B (1 :: r) = none := fun r => (hB _ _ hy hy).fb 1 r yb
 have hyn := hy.rn
 have hyc := hy.cn
 have hir : i < Y.regs.length := by omega
 have hI := hp.ins _ (A5p hi) _ (A5p hj)
 obtain ⟨a1, a2, a3, a4, a5, a6⟩ := a1y hy hi (a3l hp hi hj y7)
 obtain ⟨z1, z2, z3, z4, z5, z6⟩ := a1y hy hi (show isR p.fu[i] 0 from ⟨by decide, (hI.x25 q).2⟩)
 have z2' : 0 < Y.regs[i].length := by simpa using z2
 have hst : a1e p i j p.fu[i].code[j] Y = addR Y i p.fu[i].code[j].a (a6b Y (rg Y i 0)) := by simp [a1e, q, alO]
 rw [z5] at hst
 rw [a3u hir a2] at hst
 have hF := a1o hp hy hi hj
 rw [hst] at hF
 simp only [Int.toNat_zero] at hF
 refine yv Tryz.f111 [] 19 389 [34] 2 ?_
 repeat' first
  | (with_reducible refine hfc1 [1, 2] (.cells 49 3 [[.list 2 (sits (a0a p)), .sl [91] 1 0 p.fu.length, .sl [93] 1 0 (a0a p).length]]) (c0a hp hy z6 b1u) ?_)
  | ((with_reducible refine a8x (j := 2) (hB _ _ hy hF) ?_ ?_ ?_ ?_); (iterate 3 (focus rfl)); focus trivial)
  | (refine dk4 ?_; intro K hK)
  | refine zu ?_
  | (refine stpC ?_; intro T E hT hE)
  | (refine stp2 ?_ ?_ <;> intro h)
  | refine cpG (b8m hp a6 (b6r hy _)) ?_
  | (refine yg ?_; clear hK K)
  | (refine yh ?_; clear hT hE T E)
  | simp [*, -List.all_flatten, -List.all_eq_true, zo, a0p, zy, A0h, a0p, a0j, zx, a0v]
end Go.Je
