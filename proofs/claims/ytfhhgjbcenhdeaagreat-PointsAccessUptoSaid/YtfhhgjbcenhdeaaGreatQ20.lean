/- Parts of the proof. -/
import Derived.Test.YtfhhgjbcenhdeaaGreatQ19
set_option linter.unusedSimpArgs false
set_option linter.unusedVariables false
namespace Go.Ge
open Go Go.FM Go.Gv Go.Proofs
set_option maxRecDepth 100000
set_option maxHeartbeats 40000000
structure PtB (N : Nat) (x : Pts) : Prop where
 s : x.sites.length <= N
 r : x.regs.length <= N
 c : x.cells.length <= N
 rr : ∀ a ∈ x.regs, a.length <= N
 rs : ∀ a ∈ x.regs, ∀ s ∈ a, s.length <= N
 cs : ∀ s ∈ x.cells, s.length <= N
open Classical in
noncomputable def a8x (p : Pg) (x : Pts) : Bool := decide (Gv.Form p x)
theorem a7i {p : Pg} {x : Pts} (h : ¬ Gv.Form p x) : a8x p x = false := by simpa [a8x] using h
theorem b7r {p : Pg} {x : Pts} (h : Gv.Form p x) : a8x p x = true := by simpa [a8x] using h
theorem b2c {l : List Int} {n : Nat} : setB l (n : Int) = true ↔ okS n l := by simp [setB, okS]
def fm1 (p : Pg) (x : Pts) (i : Nat) : Prop := ∀ j (h1 : j < x.sites.length) (h2 : j < (a0i p).length) (h3 : j < x.cells.length), j < i -> x.sites[j] = (a0i p)[j] /\ setB x.cells[j] ((a0i p).length : Int) = true
def fm3 (p : Pg) (r : List (List Int)) (i : Nat) : Prop := ∀ j (h1 : j < r.length), j < i -> setB r[j] ((a0i p).length : Int) = true
def fm2 (p : Pg) (x : Pts) (i : Nat) : Prop := ∀ f (h1 : f < x.regs.length) (h2 : f < p.funcs.length), f < i -> (x.regs[f].length : Int) = p.funcs[f].regs /\ fm3 p x.regs[f] x.regs[f].length
theorem f1z (p : Pg) (x : Pts) : fm1 p x 0 := fun _ _ _ _ h => absurd h (by omega)
theorem f1x (p : Pg) (x : Pts) : fm2 p x 0 := fun _ _ _ h => absurd h (by omega)
theorem f1v (p : Pg) (r : List (List Int)) : fm3 p r 0 := fun _ _ h => absurd h (by omega)
theorem f1y {p : Pg} {x : Pts} {i : Nat} (h : fm1 p x i) (h1 : i < x.sites.length) (h2 : i < (a0i p).length) (h3 : i < x.cells.length) (e1 : x.sites[i] = (a0i p)[i]) (e2 : setB x.cells[i] ((a0i p).length : Int) = true) : fm1 p x (i + 1) := fun j g1 g2 g3 hj => by
 by_cases e : j = i
 . subst e; exact ⟨e1, e2⟩
 . exact h j g1 g2 g3 (by omega)
theorem f1u {p : Pg} {r : List (List Int)} {i : Nat} (h : fm3 p r i) (h1 : i < r.length) (e2 : setB r[i] ((a0i p).length : Int) = true) : fm3 p r (i + 1) := fun j g1 hj => by
 by_cases e : j = i
 . subst e; exact e2
 . exact h j g1 (by omega)
theorem f1w {p : Pg} {x : Pts} {i : Nat} (h : fm2 p x i) (h1 : i < x.regs.length) (h2 : i < p.funcs.length) (e1 : (x.regs[i].length : Int) = p.funcs[i].regs) (e2 : fm3 p x.regs[i] x.regs[i].length) : fm2 p x (i + 1) := fun j g1 g2 hj => by
 by_cases e : j = i
 . subst e; exact ⟨e1, e2⟩
 . exact h j g1 g2 (by omega)
theorem c7u {p : Pg} {x : Pts} (q1 : x.sites.length = (a0i p).length) (q2 : x.cells.length = (a0i p).length) (q3 : x.regs.length = p.funcs.length) (h1 : fm1 p x (a0i p).length) (h2 : fm2 p x x.regs.length) : a8x p x = true := by
 refine b7r ⟨List.ext_getElem q1 fun i g1 g2 => (h1 i g1 g2 (by omega) g2).1, q2, q3, fun f g1 g2 => (h2 f g1 g2 g1).1, fun f g1 s hs => ?_, fun s hs => ?_⟩
 . obtain ⟨j, hj, rfl⟩ := List.getElem_of_mem hs
   exact b2c.1 ((h2 f g1 (by omega) g1).2 j hj hj)
 . obtain ⟨j, hj, rfl⟩ := List.getElem_of_mem hs
   exact b2c.1 (h1 j (by omega) (by omega) hj (by omega)).2
theorem d4w {p : Pg} {x : Pts} {i : Nat} (h1 : i < x.sites.length) (h2 : i < (a0i p).length) (e : ¬ x.sites[i] = (a0i p)[i]) : a8x p x = false := a7i fun h => e (by simp only [h.sites])
theorem c3d {p : Pg} {x : Pts} {i : Nat} (h1 : i < x.cells.length) (e : setB x.cells[i] ((a0i p).length : Int) = false) : a8x p x = false := a7i fun h => by
 rw [b2c.2 (h.cs _ (List.getElem_mem h1))] at e; cases e
theorem c7s {p : Pg} {x : Pts} {i j : Nat} (h1 : i < x.regs.length) (h2 : j < x.regs[i].length) (e : setB x.regs[i][j] ((a0i p).length : Int) = false) : a8x p x = false := a7i fun h => by
 rw [b2c.2 (h.rs i h1 _ (List.getElem_mem h2))] at e; cases e
theorem c7t {p : Pg} {x : Pts} {i : Nat} (h1 : i < x.regs.length) (h2 : i < p.funcs.length) (e : ¬ x.regs[i].length = p.funcs[i].regs.toNat) : a8x p x = false := a7i fun h => by
 have := h.fn i h1 h2
 omega
theorem e0v (p : Pg) : (a4h p).sites = a0i p := rfl
theorem c3g (p : Pg) : (a4h p).regs.length = p.funcs.length := by simp [a4h]
theorem e0w {p : Pg} {i : Nat} (h : i < (a4h p).regs.length) : (a4h p).regs[i] = List.replicate (p.funcs[i]'(by rwa [c3g] at h)).regs.toNat [] := by simp [a4h]
theorem c5z {p : Pg} (hp : VOk p) {x : Pts} (hx : PtB 2000000 x) : PC Tryz.prog Gl 38 [.agg [.list 4 (fns p.funcs), .list 2 (gbs p.globals), .list 1 (lays p.layouts), .int .i64 p.main], .agg [.list 2 (sits x.sites), .list 1 (lls x.regs), .list 1 (lays x.cells)]] (.bool (a8x p x)) := by
 have hsv := a2f hp
 by_cases q1 : x.sites.length = (a0i p).length <;> by_cases q2 : x.cells.length = (a0i p).length <;> by_cases q3 : x.regs.length = p.funcs.length
 all_goals
  refine a3d (res := [.tmp 4]) 10 103 [] (fun d ix => 0 :: d :: ix) (fn := Tryz.f38) (by kernel_rfl) (by rfl) (by rfl) (by rfl) (by simp) (by decide) ?_
  repeat' first
   | ((with_reducible refine a1u ?_); refine a2n (σ := {i : Nat // i <= (a0i p).length /\ fm1 p x i}) (fun y => [(7, .int .i64 (y.1 : Int))]) [] (fun y => []) [] (fun y => []) (fun y => noH) (fun y => (a0i p).length - y.1) ⟨0, by simp, f1z p x⟩ (gk3 (j := 0) [] (Bs.pc _) ?_ ?_ ?_ ?_ ?_ ?_ ?_) ?_; (iterate 7 (focus (first | rfl | (simp [LPXB, *, SIMB, hdN, injB]; done)))); rintro ⟨i, hi, hk⟩; simp only [lpS, LPXB]; (try dsimp only at hi hk); rcases a1t hi with hlt | ⟨hlt, rfl⟩; have wi := wli hlt (by omega); have g1 : i < x.sites.length := (by omega); have g2 : i < x.cells.length := (by omega); have hts := e9v (x.cells[i]'g2) ((a0i p).length : Int) (Nat.le_trans (hx.cs _ (List.getElem_mem g2)) (by decide)); by_cases c1 : (x.sites[i]'g1) = ((a0i p)[i]'hlt); cases c2 : setB (x.cells[i]'g2) ((a0i p).length : Int); rotate_left; rotate_left; have c1' := c0q c1; have c1'' := b6b c1; rotate_left)
   | ((with_reducible refine a1u ?_); refine a2n (σ := {i : Nat // i <= x.regs.length /\ fm2 p x i}) (fun y => [(8, .int .i64 (y.1 : Int)), (9, .undef)]) [] (fun y => []) [] (fun y => []) (fun y => noH) (fun y => x.regs.length - y.1) ⟨0, by simp, f1x p x⟩ (gk3 (j := 0) [] (Bs.pc _) ?_ ?_ ?_ ?_ ?_ ?_ ?_) ?_; (iterate 7 (focus (first | rfl | (simp [LPXB, *, SIMB, hdN, injB]; done)))); rintro ⟨f, hf, hkf⟩; simp only [lpS, LPXB]; (try dsimp only at hf hkf); rcases a1t hf with hlf | ⟨hlf, rfl⟩; have wf := wli hlf (by have := hp.nf; omega); have g4 : f < p.funcs.length := (by omega); obtain ⟨rn, hrn⟩ := Int.eq_ofNat_of_zero_le (f0h hp g4).1; by_cases c3 : rn = (x.regs[f]'hlf).length; rotate_left; have c3' := (fun e => c3 (Eq.symm e) : ¬ (x.regs[f]'hlf).length = rn); rotate_left)
   | ((with_reducible refine a1u ?_); refine a2n (σ := {j : Nat // j <= (x.regs[f]'hlf).length /\ fm3 p (x.regs[f]'hlf) j}) (fun y => [(9, .int .i64 (y.1 : Int))]) [] (fun y => []) [] (fun y => []) (fun y => noH) (fun y => (x.regs[f]'hlf).length - y.1) ⟨0, by simp, f1v p _⟩ (gk3 (j := 0) [] (Bs.pc _) ?_ ?_ ?_ ?_ ?_ ?_ ?_) ?_; (iterate 7 (focus (first | rfl | (simp [LPXB, *, SIMB, hdN, injB]; done)))); rintro ⟨j, hj, hkj⟩; simp only [lpS, LPXB]; (try dsimp only at hj hkj); rcases a1t hj with hlj | ⟨hlj, rfl⟩; have wj := wli hlj (Nat.le_trans (hx.rr _ (List.getElem_mem hlf)) (by decide)); have htj := e9v ((x.regs[f]'hlf)[j]'hlj) ((a0i p).length : Int) (Nat.le_trans (hx.rs _ (List.getElem_mem hlf) _ (List.getElem_mem hlj)) (by decide)); cases c4 : setB ((x.regs[f]'hlf)[j]'hlj) ((a0i p).length : Int); rotate_left)
   | ((with_reducible refine a1p ?_); refine a2a (⟨i + 1, by omega, f1y hk g1 hlt g2 c1 c2⟩) (gk3 (j := 0) [] (Bs.pc _) ?_ ?_ ?_ ?_ ?_ ?_ ?_) ?_; (iterate 7 (focus (first | rfl | (simp [LPXB, *, SIMB, hdN, injB]; done)))); (focus (dsimp only; omega)))
   | ((with_reducible refine a1p ?_); refine a2a (⟨j + 1, by omega, f1u hkj hlj c4⟩) (gk3 (j := 0) [] (Bs.pc _) ?_ ?_ ?_ ?_ ?_ ?_ ?_) ?_; (iterate 7 (focus (first | rfl | (simp [LPXB, *, SIMB, hdN, injB]; done)))); (focus (dsimp only; omega)))
   | ((with_reducible refine a1p ?_); refine a2a (⟨f + 1, by omega, f1w hkf hlf g4 (by omega) hkj⟩) (gk3 (j := 0) [] (Bs.pc _) ?_ ?_ ?_ ?_ ?_ ?_ ?_) ?_; (iterate 7 (focus (first | rfl | (simp [LPXB, *, SIMB, hdN, injB]; done)))); (focus (dsimp only; omega)))
   | with_reducible first | refine a0u (id := 13) 13 a0m (by kernel_rfl) fun K hK => ?_ | refine a0u (id := 8) 21 a0m (by kernel_rfl) fun K hK => ?_ | refine stp ?_
   | (with_reducible refine stpK ?_; intro K hK)
   | (with_reducible refine stpC ?_; intro T E hT hE)
   | (with_reducible refine stp2 ?_ ?_ <;> intro h)
   | with_reducible first | refine a0p rfl ?_ | refine a1h (b9v hp) (by simp [nls, nl, *, NLXB]) ?_ | refine hpc (b9v hp) (by simp [nls, nl, *, NLXB]) ?_ | refine a1h hts (by simp [nls, nl, *, NLXB]) ?_ | refine hpc hts (by simp [nls, nl, *, NLXB]) ?_ | refine a1h htj (by simp [nls, nl, *, NLXB]) ?_ | refine hpc htj (by simp [nls, nl, *, NLXB]) ?_ | refine a1r rfl (Nat.le_of_ble_eq_true rfl) a0r ?_ | refine a1r rfl (Nat.le_of_ble_eq_true rfl) (a0q (by simp [HPXB, ext, upd, *])) ?_ | refine a1s (by decide) (by kernel_rfl) ?_ | refine a0x (by decide) ?_
   | (with_reducible refine Kont.go hK ?_; clear hK K)
   | ((with_reducible first | refine KT.go hT ?_ | refine KT.go hE ?_); clear hT hE T E)
   | simp [*, -List.all_flatten, -List.all_eq_true, DEFB, LENB, a6b, e0v, c3g, e0w, List.length_replicate, eqV, a5l, a8e]
  all_goals first
   | (simp [d4w g1 hlt c1]; done)
   | (simp [c3d g2 c2]; done)
   | (have e := c7t hlf g4 (by omega); simp [e]; done)
   | (simp [c7s hlf hlj c4]; done)
   | (have e := a7i (p := p) (x := x) (fun h => q3 h.rn); simp [e]; done)
   | (have e := a7i (p := p) (x := x) (fun h => q2 h.cn); simp [e]; done)
   | (have e := a7i (p := p) (x := x) (fun h => q1 (by rw [h.sites])); simp [e]; done)
   | (simp [c7u q1 q2 q3 (by assumption) (by assumption)]; done)
   | trace_state
end Go.Ge
