/- Parts of the proof. -/
import Derived.Test.YtfhhgjbcenhdeaaGreatDoorF38
set_option linter.unusedSimpArgs false
set_option linter.unusedVariables false
namespace Go.Je
open Go Go.FM Go.Gv Go.Proofs
set_option maxRecDepth 100000
set_option maxHeartbeats 40000000
theorem c3o {p : Pg} (hv : a2c p = true) {f : Nat} {nm : ByteArray} {pa rg : Int} {c : List Ins} (hF : FOk p f nm pa rg c) {i : Nat} (hi : i < c.length) (ho : c[i].op = 39) : PC Tryz.prog Gl 20 [.agg [.list 4 (fns p.funcs), .list 2 (gbs p.globals), .list 1 (lays p.layouts), .int .i64 p.main], .int .i64 f, .int .i64 i] (.int .i64 (usC c i)) := by
 have hc := hF.hc
 have h1000 := hc.n1000
 have hbl := b3m c hc
 have he := hF.e
 have hf := hF.hf
 have hu := c5m hi
 rw [if_pos (by rw [ho]; decide)] at hu
 obtain ⟨u, huu⟩ : ∃ u, usC c i = u := ⟨_, rfl⟩
 rw [huu] at hu ⊢
 replace hu := hu.symm
 clear huu
 have hsl := b3u c i
 have hil : (i : Int) < (c.length : Int) := by omega
 have wi2 : IntKind.wrap .i64 ((i : Int) - 1) = (i : Int) - 1 := by rw [IntKind.wrap_i64]; omega
 have hfl : f < (fns p.funcs).length := by rw [a1c]; exact hf
 refine a3s (res := [.tmp 6]) 13 104 [] (fun d ix => 0 :: d :: ix) (fn := Tryz.f20) (by kernel_rfl) (by rfl) (by rfl) (by rfl) (by simp) (by decide) ?_
 repeat' first
  | ((with_reducible refine a1a ?_); refine a1q (σ := {j : Nat // j <= (blks c).length}) (fun y => [(10, .int .i64 (frB c i y.1 : Int)), (11, .int .i64 (y.1 : Int))]) [] (fun y => []) [] (fun y => []) (fun y => noH) (fun y => (blks c).length - y.1) ⟨0, by simp⟩ (gk3 (j := 0) [] (Bs.pc _) ?_ ?_ ?_ ?_ ?_ ?_ ?_) ?_; (iterate 7 (focus (first | rfl | (simp [LPXB, *, SIMB, hdN, injB, a4p, a4u, f3q]; done)))); rintro ⟨j, hj⟩; simp only [lpS, LPXB]; (try dsimp only at hj); rcases a0z hj with hlt | ⟨hlt, e⟩; rotate_left; subst e; have hfe := d5o hc hi; rotate_left; have wj := wli hlt (by omega); by_cases hfr : (blks c)[j].1 <= i; have hfy := f3o hc hi hlt hfr; have hfri : ((blks c)[j].1 : Int) <= (i : Int) := (by omega); rotate_left; have hfn := f3p hc hi hlt hfr; have hfri : ¬ ((blks c)[j].1 : Int) <= (i : Int) := (by omega); rotate_left)
  | ((with_reducible refine a0q ?_); refine a1b (⟨j + 1, by omega⟩) (gk3 (j := 0) [] (Bs.pc _) ?_ ?_ ?_ ?_ ?_ ?_ ?_) ?_; (iterate 7 (focus (first | rfl | (simp [LPXB, *, SIMB, hdN, injB, a4p, a4u]; done)))); (focus (dsimp only; omega)))
  | ((with_reducible refine a1a ?_); refine a1q (σ := {q : Nat // stF c i <= q /\ q <= i /\ usB c c[i].a (stF c i) q = u}) (fun y => [(12, .int .i64 ((y.1 : Int) - 1))]) [] (fun y => []) [] (fun y => []) (fun y => noH) (fun y => y.1 - stF c i) ⟨i, hsl, nr_ _, hu⟩ (gk3 (j := 0) [] (Bs.pc _) ?_ ?_ ?_ ?_ ?_ ?_ ?_) ?_; (iterate 7 (focus (first | rfl | (simp [LPXB, *, SIMB, hdN, injB, a4p, a4u]; done)))); rintro ⟨q, hq1, hq2, hqe⟩; simp only [lpS, LPXB]; (try dsimp only at hq1 hq2 hqe); rcases Nat.lt_or_ge (stF c i) q with hlt | hge; rotate_left; have hqs : ¬ (stF c i : Int) <= (q : Int) - 1 := (by omega); rw [d1e hge] at hqe; replace hqe := hqe.symm; clear hu; rotate_left; obtain ⟨m, rfl⟩ : ∃ m, q = m + 1 := ⟨q - 1, by omega⟩; have hml : m < c.length := (by omega); have hqs : (stF c i : Int) <= (m : Int) := (by omega); have wm : IntKind.wrap .i64 ((m : Int) - 1) = (m : Int) - 1 := (by rw [IntKind.wrap_i64]; omega); have tDf := d1u hv hF hml; have hdl := c0w c[m]; have tHs := e5n (dfL c[m]) c[i].a (by omega); have hm0 : (0 : Int) <= (m : Int) := (by omega); have hmli : (m : Int) < (c.length : Int) := (by omega); have hcs := c5l hml (by omega) hqe; clear hu; rcases hcs with ⟨a1, a2, a3, hqe'⟩ | ⟨hno, hrest⟩; rotate_left; have hno' : c[m].op = 51 -> c[m].b = 0 -> ¬ c[m].c = c[i].a := (fun h1 h2 h3 => hno ⟨h1, h2, h3⟩); clear hno; have hsp : (c[m].op = 51 /\ c[m].b = 0) \/ (c[m].op = 51 /\ ¬ c[m].b = 0) \/ ¬ c[m].op = 51 := (by omega); (rcases hrest with ⟨b1, b2, hqe'⟩ | ⟨b1, b2, hqe'⟩ | ⟨b1, hqe'⟩ <;> rw [b1] at tHs <;> rcases hsp with ⟨a1, a2⟩ | ⟨a1, a2⟩ | a1))
  | ((with_reducible refine a0q ?_); refine a1b (⟨m, by omega, by omega, hqe'⟩) (gk3 (j := 0) [] (Bs.pc _) ?_ ?_ ?_ ?_ ?_ ?_ ?_) ?_; (iterate 7 (focus (first | rfl | (simp [LPXB, *, SIMB, hdN, injB, a4p, a4u]; done)))); (focus (dsimp only; omega)))
  | with_reducible first | refine a2j (id := 17) 7 a0y (by kernel_rfl) fun K hK => ?_ | refine a2j (id := 15) 24 a0y (by kernel_rfl) fun K hK => ?_ | refine stp ?_ | refine stpK ?_; intro K hK | refine stpC ?_; intro T E hT hE | refine stp2 ?_ ?_ <;> intro h | refine a0g rfl ?_ | refine a1e (b1x hc) (by simp [nls, nl, *, NLXB]) ?_ | refine hpc (b1x hc) (by simp [nls, nl, *, NLXB]) ?_ | refine a1e tDf (by simp [nls, nl, *, NLXB]) ?_ | refine hpc tDf (by simp [nls, nl, *, NLXB]) ?_ | refine a1e tHs (by simp [nls, nl, *, NLXB]) ?_ | refine hpc tHs (by simp [nls, nl, *, NLXB]) ?_ | refine a0j rfl (lbR rfl) a0i ?_ | refine a0j rfl (lbR rfl) (a0h (by simp [HPXB, ext, upd, *])) ?_ | refine a1g (by decide) (by kernel_rfl) ?_ | refine a0o (by decide) ?_ | refine Kont.go hK ?_; clear hK K | refine KT.go hT ?_; clear hT hE T E | refine KT.go hE ?_; clear hT hE T E
  | simp [*, -List.all_flatten, -List.all_eq_true, DEFB, LENB, asR, a1w, Ins.row, FnD.row, a4u, e4b, a4p, bRow, d3r]
end Go.Je
