/- Parts of the proof. -/
import Derived.Test.YtfhhgjbcenhdeaaR46
set_option linter.unusedSimpArgs false
set_option linter.unusedVariables false
namespace Go.He
open Go Go.FM Go.Gv Go.Proofs
set_option maxRecDepth 100000
set_option maxHeartbeats 40000000
theorem b6r {p : Pg} (hb : PgB p) : PC Try.prog Gl 5 [.agg [.list 4 (fns p.funcs), .list 2 (gbs p.globals), .list 1 (lays p.layouts), .int .i64 p.main]] (.bool true) := by
 have hg := b9j p hb.f hb.c
 have hv : PC Try.prog Gl 16 [.agg [.list 4 (fns p.funcs), .list 2 (gbs p.globals), .list 1 (lays p.layouts), .int .i64 p.main]] (.bool (a2q p)) := c21 p hb.f hb.g hb.l hb.ll hb.c
 have ha := b4e hb
 have hs := b3k hb (c6p p)
 have hl1 := b2x p (lfpP p)
 have hxs := (c6p p).s
 have hks0 := (c6p p).cs
 have hks : ∀ o (h : o < (lfpP p).cells.length), ((lfpP p).cells[o]).length <= 2000000 := fun o h => hks0 _ (List.getElem_mem h)
 have hc0 : a2q p = true -> _ := d1d (p := p)
 have hz0 : a2q p = true -> _ := e3w (p := p)
 have hn0 : a2q p = true -> (lfpP p).cells.length = (lfpP p).sites.length := fun h => by rw [(a7q h).form.cn, (a7q h).form.sites]
 clear hks0
 generalize shP p (lfpP p) = l at *
 generalize lfpP p = z at *
 cases g3 : a2q p
 all_goals rw [g3] at hv
 all_goals first | (have hco := hc0 g3; obtain ⟨hz1, hz2⟩ := hz0 g3; have hzn := hn0 g3; have hgz := a5r hz1; rw [hz2] at hgz; clear hc0 hz0 hn0) | clear hc0 hz0 hn0
 all_goals cases g1 : c2l p
 all_goals rw [g1] at hg
 all_goals
  refine a3w (res := [.tmp 2]) 7 67 [] (fun d ix => 0 :: d :: ix) (fn := Try.f5) (by kernel_rfl) (by rfl) (by rfl) (by rfl) (by simp) (by decide) ?_
  repeat' first
   | ((with_reducible refine a1o ?_); refine a2h (σ := {o : Nat // o <= l.length}) (fun y => [(5, .int .i64 (y.1 : Int)), (6, .undef)]) [] (fun y => []) [] (fun y => []) (fun y => noH) (fun y => l.length - y.1) ⟨0, by simp⟩ (gk3 (j := 0) [] (Bs.pc _) ?_ ?_ ?_ ?_ ?_ ?_ ?_) ?_; (iterate 7 (focus (first | rfl | (simp [LPXB, *, SIMB, hdN, injB, a1t, a1x]; done)))); rintro ⟨o, ho⟩; simp only [lpS, LPXB]; (try dsimp only at ho); rcases a1l ho with hlt | ⟨hlt, he⟩; rotate_left; subst o; rotate_left; have wo := wli hlt (by omega); have hoc : o < z.cells.length := (by omega); have hga := a5r hlt; have hcl := hco o hoc hlt; have hgc : (lays z.cells)[o]? = some [.list 1 (ints (z.cells[o]'hoc))] := (by simp [lays, a2i, hoc]); have hkl := hks o hoc; cases e1 : (l[o]'hlt); rw [e1] at hga; clear hcl; obtain ⟨nk, hnk, hkk⟩ : ∃ nk : Nat, nk = 0 /\ ∀ k, k < nk -> False := ⟨0, rfl, fun _ h => by omega⟩; rotate_left; rw [e1] at hga; have hcl := hcl e1; obtain ⟨nk, hnk⟩ : ∃ nk : Nat, nk = (z.cells[o]'hoc).length := ⟨_, rfl⟩; rotate_left)
   | ((with_reducible refine a1o ?_); refine a2h (σ := {k : Nat // k <= nk}) (fun y => [(6, .int .i64 (y.1 : Int))]) [] (fun y => []) [] (fun y => []) (fun y => noH) (fun y => nk - y.1) ⟨0, by simp⟩ (gk3 (j := 0) [] (Bs.pc _) ?_ ?_ ?_ ?_ ?_ ?_ ?_) ?_; (iterate 7 (focus (first | rfl | (simp [LPXB, *, SIMB, hdN, injB, a1t, a1x]; done)))); rintro ⟨k, hk⟩; simp only [lpS, LPXB]; (try dsimp only at hk); rcases a1l hk with hlk | ⟨hlk, he⟩; rotate_left; subst k; rotate_left; first | (exfalso; exact hkk k hlk) | skip; have hlc : k < (z.cells[o]'hoc).length := (by omega); have wk := wli hlc (by omega); obtain ⟨v, hv1, hv2, hv3⟩ := hcl k hlc; have hgv := a5r hv2; rw [hv3] at hgv; have hgi : (ints (z.cells[o]'hoc))[k]? = some [.int .i64 (v : Int)] := (by simp [ints, a2j, hlc, hv1]))
   | ((with_reducible refine a1j ?_); refine a1w (⟨k + 1, by omega⟩) (gk3 (j := 0) [] (Bs.pc _) ?_ ?_ ?_ ?_ ?_ ?_ ?_) ?_; (iterate 7 (focus (first | rfl | (simp [LPXB, *, SIMB, hdN, injB, a1t, a1x]; done)))); (focus (dsimp only; omega)))
   | ((with_reducible refine a1j ?_); refine a1w (⟨o + 1, by omega⟩) (gk3 (j := 0) [] (Bs.pc _) ?_ ?_ ?_ ?_ ?_ ?_ ?_) ?_; (iterate 7 (focus (first | rfl | (simp [LPXB, *, SIMB, hdN, injB, a1t, a1x]; done)))); (focus (dsimp only; omega)))
   | with_reducible refine stp ?_
   | (with_reducible refine stpK ?_; intro K hK)
   | (with_reducible refine stpC ?_; intro T E hT hE)
   | (with_reducible refine stp2 ?_ ?_ <;> intro h)
   | with_reducible first | refine a0q rfl ?_ | refine a1n b4d (by simp [nls, nl, *, NLXB]) ?_ | refine hpc b4d (by simp [nls, nl, *, NLXB]) ?_ | refine a1n hg (by simp [nls, nl, *, NLXB]) ?_ | refine hpc hg (by simp [nls, nl, *, NLXB]) ?_ | refine a1n hv (by simp [nls, nl, *, NLXB]) ?_ | refine hpc hv (by simp [nls, nl, *, NLXB]) ?_ | refine a1n ha (by simp [nls, nl, *, NLXB]) ?_ | refine hpc ha (by simp [nls, nl, *, NLXB]) ?_ | refine a1n hs (by simp [nls, nl, *, NLXB]) ?_ | refine hpc hs (by simp [nls, nl, *, NLXB]) ?_ | refine a0t rfl (Nat.le_of_ble_eq_true rfl) a0s ?_ | refine a0t rfl (Nat.le_of_ble_eq_true rfl) (a0r (by simp [HPXB, ext, upd, *])) ?_ | refine a1v (by decide) (by kernel_rfl) ?_ | refine a0x (by decide) ?_
   | (with_reducible refine Kont.go hK ?_; clear hK K)
   | ((with_reducible first | refine KT.go hT ?_ | refine KT.go hE ?_); clear hT hE T E)
   | simp [*, -List.all_flatten, -List.all_eq_true, DEFB, LENB, asR, a1t, a9f, a6k, a1x]
end Go.He
