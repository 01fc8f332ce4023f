/- Parts of the proof. -/
import Derived.Test.YtfhhgjbcenhdeaaR18
import Derived.Test.YtfhhgjbcenhdeaaR14
set_option linter.unusedSimpArgs false
set_option linter.unusedVariables false
namespace Go.He
open Go Go.FM Go.Gv Go.Proofs
set_option maxRecDepth 100000
set_option maxHeartbeats 40000000
structure PtB (N : Nat) (x : Pts) : Prop where
 s : x.sites.length <= N
 r : x.regs.length <= N
 c : x.cells.length <= N
 rr : ∀ a ∈ x.regs, a.length <= N
 rs : ∀ a ∈ x.regs, ∀ s ∈ a, s.length <= N
 cs : ∀ s ∈ x.cells, s.length <= N
open Classical in
noncomputable def a8q (p : Pg) (x : Pts) : Bool := decide (Gv.Form p x)
theorem a7o {p : Pg} {x : Pts} (h : ¬ Gv.Form p x) : a8q p x = false := by simpa [a8q] using h
theorem b7q {p : Pg} {x : Pts} (h : Gv.Form p x) : a8q p x = true := by simpa [a8q] using h
theorem b1t {l : List Int} {n : Nat} : setB l (n : Int) = true ↔ okS n l := by simp [setB, okS]
def fm1 (p : Pg) (x : Pts) (i : Nat) : Prop := ∀ j (h1 : j < x.sites.length) (h2 : j < (a0d p).length) (h3 : j < x.cells.length), j < i -> x.sites[j] = (a0d p)[j] /\ setB x.cells[j] ((a0d p).length : Int) = true
def fm3 (p : Pg) (r : List (List Int)) (i : Nat) : Prop := ∀ j (h1 : j < r.length), j < i -> setB r[j] ((a0d p).length : Int) = true
def fm2 (p : Pg) (x : Pts) (i : Nat) : Prop := ∀ f (h1 : f < x.regs.length) (h2 : f < p.funcs.length), f < i -> (x.regs[f].length : Int) = p.funcs[f].regs /\ fm3 p x.regs[f] x.regs[f].length
theorem f1j (p : Pg) (x : Pts) : fm1 p x 0 := fun _ _ _ _ h => absurd h (by omega)
theorem f1h (p : Pg) (x : Pts) : fm2 p x 0 := fun _ _ _ h => absurd h (by omega)
theorem f1f (p : Pg) (r : List (List Int)) : fm3 p r 0 := fun _ _ h => absurd h (by omega)
theorem f1i {p : Pg} {x : Pts} {i : Nat} (h : fm1 p x i) (h1 : i < x.sites.length) (h2 : i < (a0d p).length) (h3 : i < x.cells.length) (e1 : x.sites[i] = (a0d p)[i]) (e2 : setB x.cells[i] ((a0d p).length : Int) = true) : fm1 p x (i + 1) := fun j g1 g2 g3 hj => by
 by_cases e : j = i
 . subst e; exact ⟨e1, e2⟩
 . exact h j g1 g2 g3 (by omega)
theorem f1e {p : Pg} {r : List (List Int)} {i : Nat} (h : fm3 p r i) (h1 : i < r.length) (e2 : setB r[i] ((a0d p).length : Int) = true) : fm3 p r (i + 1) := fun j g1 hj => by
 by_cases e : j = i
 . subst e; exact e2
 . exact h j g1 (by omega)
theorem f1g {p : Pg} {x : Pts} {i : Nat} (h : fm2 p x i) (h1 : i < x.regs.length) (h2 : i < p.funcs.length) (e1 : (x.regs[i].length : Int) = p.funcs[i].regs) (e2 : fm3 p x.regs[i] x.regs[i].length) : fm2 p x (i + 1) := fun j g1 g2 hj => by
 by_cases e : j = i
 . subst e; exact ⟨e1, e2⟩
 . exact h j g1 g2 (by omega)
theorem c7g {p : Pg} {x : Pts} (q1 : x.sites.length = (a0d p).length) (q2 : x.cells.length = (a0d p).length) (q3 : x.regs.length = p.funcs.length) (h1 : fm1 p x (a0d p).length) (h2 : fm2 p x x.regs.length) : a8q p x = true := by
 refine b7q ⟨List.ext_getElem q1 fun i g1 g2 => (h1 i g1 g2 (by omega) g2).1, q2, q3, fun f g1 g2 => (h2 f g1 g2 g1).1, fun f g1 s hs => ?_, fun s hs => ?_⟩
 . obtain ⟨j, hj, rfl⟩ := List.getElem_of_mem hs
   exact b1t.1 ((h2 f g1 (by omega) g1).2 j hj hj)
 . obtain ⟨j, hj, rfl⟩ := List.getElem_of_mem hs
   exact b1t.1 (h1 j (by omega) (by omega) hj (by omega)).2
theorem d3r {p : Pg} {x : Pts} {i : Nat} (h1 : i < x.sites.length) (h2 : i < (a0d p).length) (e : ¬ x.sites[i] = (a0d p)[i]) : a8q p x = false := a7o fun h => e (by simp only [h.sites])
theorem c2n {p : Pg} {x : Pts} {i : Nat} (h1 : i < x.cells.length) (e : setB x.cells[i] ((a0d p).length : Int) = false) : a8q p x = false := a7o fun h => by
 rw [b1t.2 (h.cs _ (List.getElem_mem h1))] at e; cases e
theorem c7e {p : Pg} {x : Pts} {i j : Nat} (h1 : i < x.regs.length) (h2 : j < x.regs[i].length) (e : setB x.regs[i][j] ((a0d p).length : Int) = false) : a8q p x = false := a7o fun h => by
 rw [b1t.2 (h.rs i h1 _ (List.getElem_mem h2))] at e; cases e
theorem c7f {p : Pg} {x : Pts} {i : Nat} (h1 : i < x.regs.length) (h2 : i < p.funcs.length) (e : ¬ x.regs[i].length = p.funcs[i].regs.toNat) : a8q p x = false := a7o fun h => by
 have := h.fn i h1 h2
 omega
theorem d9n (p : Pg) : (a4k p).sites = a0d p := rfl
theorem c2q (p : Pg) : (a4k p).regs.length = p.funcs.length := by simp [a4k]
theorem d9o {p : Pg} {i : Nat} (h : i < (a4k p).regs.length) : (a4k p).regs[i] = List.replicate (p.funcs[i]'(by rwa [c2q] at h)).regs.toNat [] := by simp [a4k]
theorem c5m {p : Pg} (hp : VOk p) {x : Pts} (hx : PtB 2000000 x) : PC Try.prog Gl 21 [.agg [.list 4 (fns p.funcs), .list 2 (gbs p.globals), .list 1 (lays p.layouts), .int .i64 p.main], .agg [.list 2 (sits x.sites), .list 1 (lls x.regs), .list 1 (lays x.cells)]] (.bool (a8q p x)) := by
 have hsv := a2b hp
 by_cases q1 : x.sites.length = (a0d p).length <;> by_cases q2 : x.cells.length = (a0d p).length <;> by_cases q3 : x.regs.length = p.funcs.length
 all_goals
  refine a3w (res := [.tmp 4]) 10 103 [] (fun d ix => 0 :: d :: ix) (fn := Try.f21) (by kernel_rfl) (by rfl) (by rfl) (by rfl) (by simp) (by decide) ?_
  repeat' first
   | ((with_reducible refine a1o ?_); refine a2h (σ := {i : Nat // i <= (a0d p).length /\ fm1 p x i}) (fun y => [(7, .int .i64 (y.1 : Int))]) [] (fun y => []) [] (fun y => []) (fun y => noH) (fun y => (a0d p).length - y.1) ⟨0, by simp, f1j p x⟩ (gk3 (j := 0) [] (Bs.pc _) ?_ ?_ ?_ ?_ ?_ ?_ ?_) ?_; (iterate 7 (focus (first | rfl | (simp [LPXB, *, SIMB, hdN, injB]; done)))); rintro ⟨i, hi, hk⟩; simp only [lpS, LPXB]; (try dsimp only at hi hk); rcases a1l hi with hlt | ⟨hlt, rfl⟩; have wi := wli hlt (by omega); have g1 : i < x.sites.length := (by omega); have g2 : i < x.cells.length := (by omega); have hts := e8t (x.cells[i]'g2) ((a0d p).length : Int) (Nat.le_trans (hx.cs _ (List.getElem_mem g2)) (by decide)); by_cases c1 : (x.sites[i]'g1) = ((a0d p)[i]'hlt); cases c2 : setB (x.cells[i]'g2) ((a0d p).length : Int); rotate_left; rotate_left; have c1' := c0d c1; have c1'' := b5z c1; rotate_left)
   | ((with_reducible refine a1o ?_); refine a2h (σ := {i : Nat // i <= x.regs.length /\ fm2 p x i}) (fun y => [(8, .int .i64 (y.1 : Int)), (9, .undef)]) [] (fun y => []) [] (fun y => []) (fun y => noH) (fun y => x.regs.length - y.1) ⟨0, by simp, f1h p x⟩ (gk3 (j := 0) [] (Bs.pc _) ?_ ?_ ?_ ?_ ?_ ?_ ?_) ?_; (iterate 7 (focus (first | rfl | (simp [LPXB, *, SIMB, hdN, injB]; done)))); rintro ⟨f, hf, hkf⟩; simp only [lpS, LPXB]; (try dsimp only at hf hkf); rcases a1l hf with hlf | ⟨hlf, rfl⟩; have wf := wli hlf (by have := hp.nf; omega); have g4 : f < p.funcs.length := (by omega); obtain ⟨rn, hrn⟩ := Int.eq_ofNat_of_zero_le (e9l hp g4).1; by_cases c3 : rn = (x.regs[f]'hlf).length; rotate_left; have c3' := (fun e => c3 (Eq.symm e) : ¬ (x.regs[f]'hlf).length = rn); rotate_left)
   | ((with_reducible refine a1o ?_); refine a2h (σ := {j : Nat // j <= (x.regs[f]'hlf).length /\ fm3 p (x.regs[f]'hlf) j}) (fun y => [(9, .int .i64 (y.1 : Int))]) [] (fun y => []) [] (fun y => []) (fun y => noH) (fun y => (x.regs[f]'hlf).length - y.1) ⟨0, by simp, f1f p _⟩ (gk3 (j := 0) [] (Bs.pc _) ?_ ?_ ?_ ?_ ?_ ?_ ?_) ?_; (iterate 7 (focus (first | rfl | (simp [LPXB, *, SIMB, hdN, injB]; done)))); rintro ⟨j, hj, hkj⟩; simp only [lpS, LPXB]; (try dsimp only at hj hkj); rcases a1l hj with hlj | ⟨hlj, rfl⟩; have wj := wli hlj (Nat.le_trans (hx.rr _ (List.getElem_mem hlf)) (by decide)); have htj := e8t ((x.regs[f]'hlf)[j]'hlj) ((a0d p).length : Int) (Nat.le_trans (hx.rs _ (List.getElem_mem hlf) _ (List.getElem_mem hlj)) (by decide)); cases c4 : setB ((x.regs[f]'hlf)[j]'hlj) ((a0d p).length : Int); rotate_left)
   | ((with_reducible refine a1j ?_); refine a1w (⟨i + 1, by omega, f1i hk g1 hlt g2 c1 c2⟩) (gk3 (j := 0) [] (Bs.pc _) ?_ ?_ ?_ ?_ ?_ ?_ ?_) ?_; (iterate 7 (focus (first | rfl | (simp [LPXB, *, SIMB, hdN, injB]; done)))); (focus (dsimp only; omega)))
   | ((with_reducible refine a1j ?_); refine a1w (⟨j + 1, by omega, f1e hkj hlj c4⟩) (gk3 (j := 0) [] (Bs.pc _) ?_ ?_ ?_ ?_ ?_ ?_ ?_) ?_; (iterate 7 (focus (first | rfl | (simp [LPXB, *, SIMB, hdN, injB]; done)))); (focus (dsimp only; omega)))
   | ((with_reducible refine a1j ?_); refine a1w (⟨f + 1, by omega, f1g hkf hlf g4 (by omega) hkj⟩) (gk3 (j := 0) [] (Bs.pc _) ?_ ?_ ?_ ?_ ?_ ?_ ?_) ?_; (iterate 7 (focus (first | rfl | (simp [LPXB, *, SIMB, hdN, injB]; done)))); (focus (dsimp only; omega)))
   | with_reducible first | refine a0p (id := 13) 13 a0k (by kernel_rfl) fun K hK => ?_ | refine a0p (id := 8) 21 a0k (by kernel_rfl) fun K hK => ?_ | refine stp ?_
   | (with_reducible refine stpK ?_; intro K hK)
   | (with_reducible refine stpC ?_; intro T E hT hE)
   | (with_reducible refine stp2 ?_ ?_ <;> intro h)
   | with_reducible first | refine a0q rfl ?_ | refine a1n (b9l hp) (by simp [nls, nl, *, NLXB]) ?_ | refine hpc (b9l hp) (by simp [nls, nl, *, NLXB]) ?_ | refine a1n hts (by simp [nls, nl, *, NLXB]) ?_ | refine hpc hts (by simp [nls, nl, *, NLXB]) ?_ | refine a1n htj (by simp [nls, nl, *, NLXB]) ?_ | refine hpc htj (by simp [nls, nl, *, NLXB]) ?_ | refine a0t rfl (Nat.le_of_ble_eq_true rfl) a0s ?_ | refine a0t rfl (Nat.le_of_ble_eq_true rfl) (a0r (by simp [HPXB, ext, upd, *])) ?_ | refine a1v (by decide) (by kernel_rfl) ?_ | refine a0x (by decide) ?_
   | (with_reducible refine Kont.go hK ?_; clear hK K)
   | ((with_reducible first | refine KT.go hT ?_ | refine KT.go hE ?_); clear hT hE T E)
   | simp [*, -List.all_flatten, -List.all_eq_true, DEFB, LENB, a5s, d9n, c2q, d9o, List.length_replicate, eqV, a5e, a8a]
  all_goals first
   | (simp [d3r g1 hlt c1]; done)
   | (simp [c2n g2 c2]; done)
   | (have e := c7f hlf g4 (by omega); simp [e]; done)
   | (simp [c7e hlf hlj c4]; done)
   | (have e := a7o (p := p) (x := x) (fun h => q3 h.rn); simp [e]; done)
   | (have e := a7o (p := p) (x := x) (fun h => q2 h.cn); simp [e]; done)
   | (have e := a7o (p := p) (x := x) (fun h => q1 (by rw [h.sites])); simp [e]; done)
   | (simp [c7g q1 q2 q3 (by assumption) (by assumption)]; done)
   | trace_state
theorem cgB {P : Program} {c : Cfg} {ops : Array Oper} {o : Oper} {rest : List Oper} {K : Fs -> Prop} {s : Fs} {f : FuncId} {b : Bool} {A : List FV} (h : b4z P c ops o rest K s f b A) : b4z P c ops o rest K s f b A := h
theorem c3l {n : Nat} {L : List Bool} (hn : L.length = n) {s : List Int} (hs : ∀ o ∈ s, 0 <= o /\ o < (n : Int)) (hl : s.length <= 1000000000) {H : Heap} {lb : FM.Loc} (h : H lb = some (.cells 4 1 (a3t L))) : FC Try.prog Gl 19 [.sl lb 1 0 n, .list 1 (ints s)] H (.tup []) (upd H lb (.cells 4 1 (a3t (mkL L s)))) := by
 subst hn
 exact e8v h hs hl
def repB (n i : Nat) : List Bool := List.replicate i true ++ List.replicate (n - i) false
theorem e1b (n : Nat) : repB n 0 = List.replicate n false := by simp [repB]
theorem c6b {n i : Nat} (h : i <= n) : (repB n i).length = n := by simp [repB]; omega
theorem e1a {n i : Nat} (h : i < n) : (repB n i).set i true = repB n (i + 1) := by
 unfold repB
 rw [List.set_append_right _ _ (by simp)]
 have e : n - i = (n - (i + 1)) + 1 := by omega
 simp only [List.length_replicate, Nat.sub_self]
 rw [e, List.replicate_succ, List.set_cons_zero, List.replicate_succ', List.append_assoc]
 rfl
theorem c6c (n : Nat) : repB n n = List.replicate n true := by simp [repB]
def mA (p : Pg) (x : Pts) (f : Nat) : List Bool := mkL (List.replicate (a0d p).length false) (rtP p x f)
def mB (p : Pg) (x : Pts) (f : Nat) (code : List Ins) (j : Nat) : List Bool := mkL (mA p x f) (rtQ p x f code j)
def mD (p : Pg) (x : Pts) (f : Nat) (code : List Ins) (j : Nat) (n : Ins) (k : Nat) : List Bool := if n.op = 31 then mkL (mB p x f code j) (rtK x f n k) else mB p x f code (j + 1)
theorem c6o (p : Pg) (x : Pts) (f : Nat) : (mA p x f).length = (a0d p).length := by rw [mA, b1f, List.length_replicate]
theorem b7i (p : Pg) (x : Pts) (f : Nat) (code : List Ins) (j : Nat) : (mB p x f code j).length = (a0d p).length := by rw [mB, b1f, c6o]
theorem d2h (p : Pg) (x : Pts) (f : Nat) (code : List Ins) (j : Nat) (n : Ins) (k : Nat) : (mD p x f code j n k).length = (a0d p).length := by
 unfold mD
 split
 . rw [b1f, b7i]
 . exact b7i ..
theorem mA_0 (p : Pg) (x : Pts) : (List.replicate (a0d p).length false).set 0 true = mA p x 0 := rfl
theorem mA_s {p : Pg} {x : Pts} {f : Nat} (h : f < p.funcs.length) : mA p x (f + 1) = mB p x f p.funcs[f].code p.funcs[f].code.length := by rw [mA, e4a h, b1z]; rfl
theorem mB_0 (p : Pg) (x : Pts) (f : Nat) (code : List Ins) : mB p x f code 0 = mA p x f := by simp [mB, rtQ, mkL]
theorem mB_s {p : Pg} {x : Pts} {f : Nat} {code : List Ins} {j : Nat} (h : j < code.length) : mB p x f code (j + 1) = mkL (mB p x f code j) (rtI p x f code[j]) := by rw [mB, e9e h, b1z]; rfl
theorem g1h {p : Pg} {x : Pts} {f : Nat} {code : List Ins} {j : Nat} {n : Ins} (h : n.op = 31) : mD p x f code j n 0 = mB p x f code j := by simp [mD, h, rtK, mkL]
theorem f0i {p : Pg} {x : Pts} {f : Nat} {code : List Ins} {j : Nat} {n : Ins} (h : n.op = 31) (k : Nat) : mD p x f code j n (k + 1) = mkL (mD p x f code j n k) (rg x f (n.c + k)) := by
 simp only [mD, h, if_true, e9f, b1z]
theorem f0j {p : Pg} {x : Pts} {f : Nat} {code : List Ins} {j : Nat} (hj : j < code.length) (h : code[j].op = 31) {k : Nat} (hk : k = (a5f p.funcs code[j].b).toNat) : mD p x f code j code[j] k = mB p x f code (j + 1) := by
 rw [mB_s hj]
 simp only [mD, h, if_true, rtI, hk]
theorem f0h {p : Pg} {x : Pts} {f : Nat} {code : List Ins} {j : Nat} {n : Ins} (h : ¬ n.op = 31) (k : Nat) : mD p x f code j n k = mB p x f code (j + 1) := by simp [mD, h]
theorem g1j {p : Pg} {x : Pts} {f : Nat} {code : List Ins} {j : Nat} (hj : j < code.length) (h : code[j].op = 32) : mkL (mB p x f code j) (rg x f code[j].a) = mB p x f code (j + 1) := by
 have h1 : ¬ code[j].op = 31 := by omega
 rw [mB_s hj]
 simp [rtI, h]
theorem g1i {p : Pg} {x : Pts} {f : Nat} {code : List Ins} {j : Nat} (hj : j < code.length) (h1 : ¬ code[j].op = 31) (h2 : ¬ code[j].op = 32) : mB p x f code j = mB p x f code (j + 1) := by
 rw [mB_s hj]
 simp [rtI, h1, h2, mkL]
theorem mod0 (n : Nat) : (a3t (List.replicate n false)).modify 0 (fun r => FV.bool true :: r.tail) = a3t ((List.replicate n false).set 0 true) := by
 cases n with
 | zero => rfl
 | succ n => exact b1q _ 0 true (by simp)
theorem b2i (n : Nat) (l : List Bool) : (a3t l).take n = a3t (l.take n) := by simp [a3t, List.map_take]
theorem c7d {H : Heap} (l : List Bool) (k : Nat) : frzR H (k + 1) (a3t l) = some (a3t l) := by unfold frzR; rw [if_pos (a1x l)]
theorem c8t {p : Pg} {x : Pts} (hx : PtB 2000000 x) (hS : PC Try.prog Gl 14 [.agg [.list 4 (fns p.funcs), .list 2 (gbs p.globals), .list 1 (lays p.layouts), .int .i64 p.main], .agg [.list 2 (sits x.sites), .list 1 (lls x.regs), .list 1 (lays x.cells)]] (.bool false)) : PC Try.prog Gl 12 [.agg [.list 4 (fns p.funcs), .list 2 (gbs p.globals), .list 1 (lays p.layouts), .int .i64 p.main], .agg [.list 2 (sits x.sites), .list 1 (lls x.regs), .list 1 (lays x.cells)]] (.list 1 (a3t (List.replicate x.sites.length true))) := by
 have hxs := hx.s
 have hs1 : (x.sites.length : Int) <= 4611686018427387904 := by omega
 have hs2 : (x.sites.length : Int) <= 281474976710656 := by omega
 refine a3w (res := [.tmp 4]) 13 127 [] (fun d ix => 0 :: d :: ix) (fn := Try.f12) (by kernel_rfl) (by rfl) (by rfl) (by rfl) (by simp) (by decide) ?_
 repeat' first
  | ((with_reducible refine a1o ?_); refine a2h (σ := {i : Nat // i <= x.sites.length}) (fun y => [(6, .int .i64 (y.1 : Int))]) [] (fun y => []) [] (fun y => [([0, 16], .cells 4 1 (a3t (repB x.sites.length y.1)))]) (fun y => noH) (fun y => x.sites.length - y.1) ⟨0, by simp⟩ (gk3 (j := 0) [] (Bs.pc _) ?_ ?_ ?_ ?_ ?_ ?_ ?_) ?_; (iterate 7 (focus (first | rfl | (simp [LPXB, *, SIMB, hdN, injB, a1t, a1x, a2w, e1b]; done)))); rintro ⟨i, hi⟩; simp only [lpS, LPXB]; (try dsimp only at hi); rcases a1l hi with hlt | ⟨hlt, rfl⟩; have wi := wli hlt (Nat.le_trans hx.s (by decide)); have hrl := c6b hi; have hga : (a3t (repB x.sites.length i))[i]? = some [.bool ((repB x.sites.length i)[i]'(by omega))] := a5r (by omega); have hbm := b1q (repB x.sites.length i) i true (by omega); rw [e1a hlt] at hbm; rotate_left; have hre := c6c x.sites.length; rotate_left)
  | ((with_reducible refine a1j ?_); refine a1w (⟨i + 1, by omega⟩) (gk3 (j := 0) [] (Bs.pc _) ?_ ?_ ?_ ?_ ?_ ?_ ?_) ?_; (iterate 7 (focus (first | rfl | (simp [LPXB, *, SIMB, hdN, injB, a1t, a1x, a2w]; done)))); (focus (dsimp only; omega)))
  | with_reducible first | refine a0p (id := 21) 12 a0k (by kernel_rfl) fun K hK => ?_ | refine a0p (id := 17) 10 a0k (by kernel_rfl) fun K hK => ?_ | refine stp ?_
  | (with_reducible refine stpK ?_; intro K hK)
  | (with_reducible refine stpC ?_; intro T E hT hE)
  | (with_reducible refine stp2 ?_ ?_ <;> intro h)
  | with_reducible first | refine a0q rfl ?_ | refine a1n hS (by simp [nls, nl, *, NLXB]) ?_ | refine hpc hS (by simp [nls, nl, *, NLXB]) ?_ | refine a0t rfl (Nat.le_of_ble_eq_true rfl) a0s ?_ | refine a0t rfl (Nat.le_of_ble_eq_true rfl) (a0r (by simp [HPXB, a4y, ext, upd, *])) ?_ | refine a1v (by decide) (by kernel_rfl) ?_ | refine a0x (by decide) ?_
  | (with_reducible refine Kont.go hK ?_; clear hK K)
  | ((with_reducible first | refine KT.go hT ?_ | refine KT.go hE ?_); clear hT hE T E)
  | simp [*, -List.all_flatten, -List.all_eq_true, DEFB, LENB, b2i, c7d, asR, a1t, a9f, a6k, a1x, a2w, b2g, b6l, a1u, a2e, a4y, List.take_length]
end Go.He
