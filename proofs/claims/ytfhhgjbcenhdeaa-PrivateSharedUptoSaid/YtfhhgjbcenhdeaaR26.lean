/- Parts of the proof. -/
import Derived.Test.YtfhhgjbcenhdeaaR22
set_option linter.unusedSimpArgs false
set_option linter.unusedVariables false
namespace Go.He
open Go Go.FM Go.Gv Go.Proofs
set_option maxRecDepth 100000
set_option maxHeartbeats 40000000
theorem f5s {p : Pg} (hp : VOk p) {Y : Pts} (hy : Gv.Form p Y) {B : Heap} (hB : BsP p 2 B) {i j : Nat} (hi : i < p.funcs.length) (hj : j < (p.funcs[i]).code.length) (q : p.funcs[i].code[j].op = 28 \/ p.funcs[i].code[j].op = 31) : FC Try.prog Gl 34 [.agg [.list 4 (fns p.funcs), .list 2 (gbs p.globals), .list 1 (lays p.layouts), .int .i64 p.main], .agg [.list 2 (sits (a0d p)), .sl [91] 1 0 p.funcs.length, .sl [93] 1 0 (a0d p).length], .int .i64 (i : Int), .int .i64 (j : Int)] (HP [] B (PF Y)) (.tup []) (HP [] B (PF (a3l p i j p.funcs[i].code[j] Y))) := by
 rcases q with q | q
 all_goals
  have hsv := a2b hp
  have nB : ∀ r, B (2 :: r) = none := fun r => (hB _ _ hy hy).fb 2 r (by decide)
  have nB1 : ∀ r, B (1 :: r) = none := fun r => (hB _ _ hy hy).fb 1 r (by decide)
  have hyn := hy.rn
  have hyc := hy.cn
  have hir : i < Y.regs.length := by omega
  have hI := hp.ins _ (List.getElem_mem hi) _ (List.getElem_mem hj)
  obtain ⟨cb0, cb1, cc0, cc1⟩ := a7a hp (List.getElem_mem hi) (n := p.funcs[i].code[j]) (by have := hI.b; rw [q] at this; exact this)
  have hbl : p.funcs[i].code[j].b.toNat < p.funcs.length := by omega
  have hfn := c0v hbl
  rw [hfn] at cc1
  have hpr := hp.regs (List.getElem_mem hbl)
  have hp0 := hpr.p0
  have hp1 := hpr.p1
  have hp64 := hpr.r64
  have hpcl := hpr.c1000
  have hr64 := (hp.regs (List.getElem_mem hi)).r64
  have hfy := hy.fn i hir hi
  obtain ⟨pn, hpn⟩ := Int.eq_ofNat_of_zero_le hp0
  have hPF : ∀ k, k <= pn -> Gv.Form p (a5w Y i p.funcs[i].code[j] k) := fun k hk => b7d hy cb0 hbl hpr k (by omega)
  have hst : a3l p i j p.funcs[i].code[j] Y = a5w Y i p.funcs[i].code[j] pn := by simp [a3l, q, alO, hfn, hpn]
  have hF := a4a hp hy hi hj
  rw [hst] at hF
  refine a3s (res := []) 19 389 [34] (fun d ix => 2 :: d :: ix) (fn := Try.f34) (by kernel_rfl) (by rfl) (by rfl) (by rfl) (by simp) (by decide) ?_
  repeat' first
   | ((with_reducible refine a1o ?_); refine a2h (σ := {k : Nat // k <= pn}) (fun y => [(13, .int .i64 (y.1 : Int))]) [] (fun y => []) [] (fun y => []) (fun y => PF (a5w Y i p.funcs[i].code[j] y.1)) (fun y => pn - y.1) ⟨0, by simp⟩ (gk3 (j := 2) [] (hB _ _ hy (hPF 0 (by omega))) ?_ ?_ ?_ ?_ ?_ ?_ ?_) ?_; (iterate 7 (focus (first | rfl | (simp [LPXB, *, SIMB, hdN, injB, a3a, a7n, a7m, a4b, a3o, a6g, a9j, a9i, a0b]; done)))); rintro ⟨k, hk⟩; simp only [lpS, LPXB]; (try dsimp only at hk); have hZ := hPF k hk; have hZr := hZ.rn; have hZi : i < (a5w Y i p.funcs[i].code[j] k).regs.length := (by omega); have hZb : p.funcs[i].code[j].b.toNat < (a5w Y i p.funcs[i].code[j] k).regs.length := (by omega); rcases a1l hk with hlt | ⟨hlt, he⟩; rotate_left; subst k; rotate_left; have wk := wli (i := k) (m := 200) (by omega) (by decide); obtain ⟨z1, z2, z3, z4, z5, z6⟩ := a4i hZ hbl (show isR p.funcs[p.funcs[i].code[j].b.toNat] (k : Int) from ⟨by omega, by omega⟩); simp only [Int.toNat_natCast] at z2 z5 z6; have hz2x : (k : Int) < (((a5w Y i p.funcs[i].code[j] k).regs[p.funcs[i].code[j].b.toNat]'hZb).length : Int) := (by omega); have hwa : IntKind.wrap .i64 (p.funcs[i].code[j].c + (k : Int)) = p.funcs[i].code[j].c + (k : Int) := (by rw [IntKind.wrap_i64]; omega); obtain ⟨c1, c2, c3, c4, c5, c6⟩ := a4i hZ hi (show isR p.funcs[i] (p.funcs[i].code[j].c + (k : Int)) from ⟨by omega, by omega⟩); have hcx : p.funcs[i].code[j].c + (k : Int) < p.funcs[i].regs := (by omega); have hw := b4m (Y := Y) (f := i) (n := p.funcs[i].code[j]) k; rw [c5, a6c hZb (by simpa using z2)] at hw; simp only [Int.toNat_natCast] at hw; rotate_left; rotate_left)
   | ((with_reducible refine a1j ?_); refine a1w ⟨k + 1, by omega⟩ (gk3 (j := 2) [] (hB _ _ hy (hPF (k + 1) (by omega))) ?_ ?_ ?_ ?_ ?_ ?_ ?_) ?_; (iterate 7 (focus (first | rfl | (simp [LPXB, *, SIMB, hdN, injB, a3a, a7n, a7m, a4b, a3o, a6g, a9j, a9i, a0b]; done)))); (focus (dsimp only; omega)))
   | ((with_reducible refine a1o ?_); refine a2h (σ := Unit) (fun y => []) [] (fun y => []) [] (fun y => []) (fun y => PF (a5w Y i p.funcs[i].code[j] pn)) (fun y => 0) () (gk3 (j := 2) [] (hB _ _ hy (hPF pn (Nat.le_refl _))) ?_ ?_ ?_ ?_ ?_ ?_ ?_) ?_; (iterate 7 (focus (first | rfl | (simp [LPXB, *, SIMB, hdN, injB, a3a, a7n, a7m, a4b, a3o, a6g, a9j, a9i, a0b]; done)))); rintro ⟨⟩; simp only [lpS, LPXB])
   | ((with_reducible refine b0u (j := 2) (hB _ _ hy hF) ?_ ?_ ?_ ?_); (focus rfl); (focus rfl); (focus rfl); focus trivial)
   | with_reducible first | refine a0p (id := 63) 25 a0k (by kernel_rfl) fun K hK => ?_ | refine a0p (id := 59) 7 a0k (by kernel_rfl) fun K hK => ?_ | refine a0p (id := 51) 24 a0k (by kernel_rfl) fun K hK => ?_ | refine a0p (id := 46) 25 a0k (by kernel_rfl) fun K hK => ?_ | refine a0p (id := 38) 17 a0k (by kernel_rfl) fun K hK => ?_ | refine a0p (id := 36) 12 a0k (by kernel_rfl) fun K hK => ?_ | refine a0p (id := 33) 17 a0k (by kernel_rfl) fun K hK => ?_ | refine a0p (id := 30) 13 a0k (by kernel_rfl) fun K hK => ?_ | refine a0p (id := 28) 12 a0k (by kernel_rfl) fun K hK => ?_ | refine a0p (id := 24) 17 a0k (by kernel_rfl) fun K hK => ?_ | refine a0p (id := 21) 15 a0k (by kernel_rfl) fun K hK => ?_ | refine a0p (id := 19) 15 a0k (by kernel_rfl) fun K hK => ?_ | refine a0p (id := 15) 12 a0k (by kernel_rfl) fun K hK => ?_ | refine a0p (id := 14) 11 a0k (by kernel_rfl) fun K hK => ?_ | refine a0p (id := 5) 11 a0k (by kernel_rfl) fun K hK => ?_ | refine stp ?_
   | (with_reducible refine stpK ?_; intro K hK)
   | (with_reducible refine stpC ?_; intro T E hT hE)
   | (with_reducible refine stp2 ?_ ?_ <;> intro h)
   | with_reducible first | refine a0q rfl ?_ | refine a1n (a9z hp z6 c6) (by simp [nls, nl, *, NLXB]) ?_ | refine hpc (a9z hp z6 c6) (by simp [nls, nl, *, NLXB]) ?_ | refine a0t rfl (Nat.le_of_ble_eq_true rfl) a0s ?_ | refine a0t rfl (Nat.le_of_ble_eq_true rfl) (a0r (by simp [HPXB, a3a, nB, nB1, ext, upd, *])) ?_ | refine a1v (by decide) (by kernel_rfl) ?_ | refine a0x (by decide) ?_
   | (with_reducible refine Kont.go hK ?_; clear hK K)
   | ((with_reducible first | refine KT.go hT ?_ | refine KT.go hE ?_); clear hT hE T E)
   | simp [*, -List.all_flatten, -List.all_eq_true, DEFB, LENB, a3a, a4b, a3o, a1a, a3y, a3z, a3f, a2u, a7f, a7g, a6p, List.length_set, a2u, a2j, a0g, a2x, a2i, FnD.row, a0h, a2r, Ins.row, Int.toNat_natCast, a3c]
theorem g3v {p : Pg} (hp : VOk p) {Y : Pts} (hy : Gv.Form p Y) {B : Heap} (hB : BsP p 2 B) {i j : Nat} (hi : i < p.funcs.length) (hj : j < (p.funcs[i]).code.length) (q : p.funcs[i].code[j].op = 26) (h0 : ¬ 0 <= p.funcs[i].code[j].a) : FC Try.prog Gl 34 [.agg [.list 4 (fns p.funcs), .list 2 (gbs p.globals), .list 1 (lays p.layouts), .int .i64 p.main], .agg [.list 2 (sits (a0d p)), .sl [91] 1 0 p.funcs.length, .sl [93] 1 0 (a0d p).length], .int .i64 (i : Int), .int .i64 (j : Int)] (HP [] B (PF Y)) (.tup []) (HP [] B (PF (a3l p i j p.funcs[i].code[j] Y))) := by
 have hsv := a2b hp
 have nB : ∀ r, B (2 :: r) = none := fun r => (hB _ _ hy hy).fb 2 r (by decide)
 have nB1 : ∀ r, B (1 :: r) = none := fun r => (hB _ _ hy hy).fb 1 r (by decide)
 have hyn := hy.rn
 have hyc := hy.cn
 have hir : i < Y.regs.length := by omega
 have hI := hp.ins _ (List.getElem_mem hi) _ (List.getElem_mem hj)
 obtain ⟨cb0, cb1, cc0, cc1⟩ := a7a hp (List.getElem_mem hi) (n := p.funcs[i].code[j]) (by have := hI.b; rw [q] at this; exact this)
 have hbl : p.funcs[i].code[j].b.toNat < p.funcs.length := by omega
 have hfn := c0v hbl
 rw [hfn] at cc1
 have hpr := hp.regs (List.getElem_mem hbl)
 have hp0 := hpr.p0
 have hp1 := hpr.p1
 have hp64 := hpr.r64
 have hpcl := hpr.c1000
 have hr64 := (hp.regs (List.getElem_mem hi)).r64
 have hfy := hy.fn i hir hi
 obtain ⟨pn, hpn⟩ := Int.eq_ofNat_of_zero_le hp0
 have hPF : ∀ k, k <= pn -> Gv.Form p (a5w Y i p.funcs[i].code[j] k) := fun k hk => b7d hy cb0 hbl hpr k (by omega)
 have h0' : ¬ p.funcs[i].code[j].a ≥ 0 := h0
 have hst : a3l p i j p.funcs[i].code[j] Y = a5w Y i p.funcs[i].code[j] pn := by simp [a3l, q, alO, hfn, hpn, h0]
 have hF := a4a hp hy hi hj
 rw [hst] at hF
 refine a3s (res := []) 19 389 [34] (fun d ix => 2 :: d :: ix) (fn := Try.f34) (by kernel_rfl) (by rfl) (by rfl) (by rfl) (by simp) (by decide) ?_
 repeat' first
  | ((with_reducible refine a1o ?_); refine a2h (σ := {k : Nat // k <= pn}) (fun y => [(13, .int .i64 (y.1 : Int))]) [] (fun y => []) [] (fun y => []) (fun y => PF (a5w Y i p.funcs[i].code[j] y.1)) (fun y => pn - y.1) ⟨0, by simp⟩ (gk3 (j := 2) [] (hB _ _ hy (hPF 0 (by omega))) ?_ ?_ ?_ ?_ ?_ ?_ ?_) ?_; (iterate 7 (focus (first | rfl | (simp [LPXB, *, SIMB, hdN, injB, a3a, a7n, a7m, a4b, a3o, a6g, a9j, a9i, a0b]; done)))); rintro ⟨k, hk⟩; simp only [lpS, LPXB]; (try dsimp only at hk); have hZ := hPF k hk; have hZr := hZ.rn; have hZi : i < (a5w Y i p.funcs[i].code[j] k).regs.length := (by omega); have hZb : p.funcs[i].code[j].b.toNat < (a5w Y i p.funcs[i].code[j] k).regs.length := (by omega); rcases a1l hk with hlt | ⟨hlt, he⟩; rotate_left; subst k; rotate_left; have wk := wli (i := k) (m := 200) (by omega) (by decide); obtain ⟨z1, z2, z3, z4, z5, z6⟩ := a4i hZ hbl (show isR p.funcs[p.funcs[i].code[j].b.toNat] (k : Int) from ⟨by omega, by omega⟩); simp only [Int.toNat_natCast] at z2 z5 z6; have hz2x : (k : Int) < (((a5w Y i p.funcs[i].code[j] k).regs[p.funcs[i].code[j].b.toNat]'hZb).length : Int) := (by omega); have hwa : IntKind.wrap .i64 (p.funcs[i].code[j].c + (k : Int)) = p.funcs[i].code[j].c + (k : Int) := (by rw [IntKind.wrap_i64]; omega); obtain ⟨c1, c2, c3, c4, c5, c6⟩ := a4i hZ hi (show isR p.funcs[i] (p.funcs[i].code[j].c + (k : Int)) from ⟨by omega, by omega⟩); have hcx : p.funcs[i].code[j].c + (k : Int) < p.funcs[i].regs := (by omega); have hw := b4m (Y := Y) (f := i) (n := p.funcs[i].code[j]) k; rw [c5, a6c hZb (by simpa using z2)] at hw; simp only [Int.toNat_natCast] at hw; rotate_left; rotate_left)
  | ((with_reducible refine a1j ?_); refine a1w ⟨k + 1, by omega⟩ (gk3 (j := 2) [] (hB _ _ hy (hPF (k + 1) (by omega))) ?_ ?_ ?_ ?_ ?_ ?_ ?_) ?_; (iterate 7 (focus (first | rfl | (simp [LPXB, *, SIMB, hdN, injB, a3a, a7n, a7m, a4b, a3o, a6g, a9j, a9i, a0b]; done)))); (focus (dsimp only; omega)))
  | ((with_reducible refine a1o ?_); refine a2h (σ := Unit) (fun y => []) [] (fun y => []) [] (fun y => []) (fun y => PF (a5w Y i p.funcs[i].code[j] pn)) (fun y => 0) () (gk3 (j := 2) [] (hB _ _ hy (hPF pn (Nat.le_refl _))) ?_ ?_ ?_ ?_ ?_ ?_ ?_) ?_; (iterate 7 (focus (first | rfl | (simp [LPXB, *, SIMB, hdN, injB, a3a, a7n, a7m, a4b, a3o, a6g, a9j, a9i, a0b]; done)))); rintro ⟨⟩; simp only [lpS, LPXB])
  | ((with_reducible refine b0u (j := 2) (hB _ _ hy hF) ?_ ?_ ?_ ?_); (focus rfl); (focus rfl); (focus rfl); focus trivial)
  | with_reducible first | refine a0p (id := 63) 25 a0k (by kernel_rfl) fun K hK => ?_ | refine a0p (id := 59) 7 a0k (by kernel_rfl) fun K hK => ?_ | refine a0p (id := 51) 24 a0k (by kernel_rfl) fun K hK => ?_ | refine a0p (id := 46) 25 a0k (by kernel_rfl) fun K hK => ?_ | refine a0p (id := 38) 17 a0k (by kernel_rfl) fun K hK => ?_ | refine a0p (id := 36) 12 a0k (by kernel_rfl) fun K hK => ?_ | refine a0p (id := 33) 17 a0k (by kernel_rfl) fun K hK => ?_ | refine a0p (id := 30) 13 a0k (by kernel_rfl) fun K hK => ?_ | refine a0p (id := 28) 12 a0k (by kernel_rfl) fun K hK => ?_ | refine a0p (id := 24) 17 a0k (by kernel_rfl) fun K hK => ?_ | refine a0p (id := 21) 15 a0k (by kernel_rfl) fun K hK => ?_ | refine a0p (id := 19) 15 a0k (by kernel_rfl) fun K hK => ?_ | refine a0p (id := 15) 12 a0k (by kernel_rfl) fun K hK => ?_ | refine a0p (id := 14) 11 a0k (by kernel_rfl) fun K hK => ?_ | refine a0p (id := 5) 11 a0k (by kernel_rfl) fun K hK => ?_ | refine stp ?_
  | (with_reducible refine stpK ?_; intro K hK)
  | (with_reducible refine stpC ?_; intro T E hT hE)
  | (with_reducible refine stp2 ?_ ?_ <;> intro h)
  | with_reducible first | refine a0q rfl ?_ | refine a1n (a9z hp z6 c6) (by simp [nls, nl, *, NLXB]) ?_ | refine hpc (a9z hp z6 c6) (by simp [nls, nl, *, NLXB]) ?_ | refine a0t rfl (Nat.le_of_ble_eq_true rfl) a0s ?_ | refine a0t rfl (Nat.le_of_ble_eq_true rfl) (a0r (by simp [HPXB, a3a, nB, nB1, ext, upd, *])) ?_ | refine a1v (by decide) (by kernel_rfl) ?_ | refine a0x (by decide) ?_
  | (with_reducible refine Kont.go hK ?_; clear hK K)
  | ((with_reducible first | refine KT.go hT ?_ | refine KT.go hE ?_); clear hT hE T E)
  | simp [*, -List.all_flatten, -List.all_eq_true, DEFB, LENB, a3a, a4b, a3o, a1a, a3y, a3z, a3f, a2u, a7f, a7g, a6p, List.length_set, a2u, a2j, a0g, a2x, a2i, FnD.row, a0h, a2r, Ins.row, Int.toNat_natCast, a3c]
end Go.He
