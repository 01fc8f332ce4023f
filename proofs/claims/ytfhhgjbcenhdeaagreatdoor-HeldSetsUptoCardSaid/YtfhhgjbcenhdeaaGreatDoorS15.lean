/- Part. -/
import Derived.Test.YtfhhgjbcenhdeaaGreatDoorS12
set_option linter.all false
set_option maxRecDepth 100000
set_option maxHeartbeats 0
namespace Go.Je
open Go Go.FM Go.Gv Go.Proofs
variable {i : Nat} {p : Pg} {x y : Pts} {α : Type} {a b : List α}
theorem c5f (a b : List Int) (hb : b.length <= 1000000000) (hlen : ∀ i, i <= b.length -> (a1s a (b.take i)).length <= 999999990) : Pq 152 [.list 1 (ints a), .list 1 (ints b)] (.list 1 (ints (a1s a b))) := by
 refine yq Tryz.f152 [.tmp 4] 6 19 [] 0 ?_
 repeat' first
  | (refine yi ?_; refine a0e (σ := {i : Nat // i <= b.length}) (fun y => [(5, .int .i64 (y.1 : Int)), (0, .list 1 (ints (a1s a (b.take y.1))))]) [] (fun y => []) [] (fun y => []) (fun y => noH) (fun y => b.length - y.1) ⟨0, by simp⟩ (gk3 (j := 0) [] (Bs.pc _) yx yx yx yx yx yx yx) ?_; rintro ⟨i, hi⟩; simp only [lpS, LPXB]; (try dsimp only at hi); rcases a0c hi with hlt | ⟨hlt, rfl⟩; have wi := wli hlt ya; have hw := c2w (a1s a (b.take i)) (b[i]'hlt) (hlen i hi); have hu := b6a (a := a) hlt; rotate_left; have ht := A0c (l := b); rotate_left)
  | (refine ye ?_; refine a0b (⟨i + 1, by omega⟩) yt yf)
  | refine dz2 ?_
  | (refine stpK ?_; intro K hK)
  | (refine stpC ?_; intro T E hT hE)
  | (refine stp2 ?_ ?_ <;> intro h)
  | refine cpG hw ?_
  | (refine yg ?_; clear hK K)
  | (refine yh ?_; clear hT hE T E)
  | simp [*, -List.all_flatten, -List.all_eq_true, yl, asR]
theorem e9d (hp : VOk p) : ∀ i, i <= p.fu.length -> (sitP p.fu i).length <= 1 + i * 1000 := c0f fun x hx => (hp.regs hx).c1000
theorem a0h (hp : VOk p) : (a0a p).length <= 64001 := by
 have := e9d hp p.fu.length (A5s _)
 have := hp.nf
 unfold a0a; omega
theorem e9g (hp : VOk p) {j : Nat} (hi : i < p.fu.length) (hj : j <= p.fu[i].code.length) : (sit2 p.fu i j).length <= 70000 := by
 have h1 := e4d (B := 1000) (fun x hx => (hp.regs hx).c1000) hi hj
 have h2 := (hp.regs (A5p hi)).c1000
 have := hp.nf
 omega
theorem d5n (hp : VOk p) (hi : i <= p.fu.length) : (sitP p.fu i).length <= 70000 := by
 have := e9d hp i hi
 have := hp.nf
 omega
theorem b9n (hp : VOk p) (hi : i < p.fu.length) : p.fu[i].code.length <= 1000 := (hp.regs (A5p hi)).c1000
theorem d4u (hp : VOk p) : Pq 112 [PA p] (.list 2 (sits (a0a p))) := by
 refine yq Tryz.f112 [.tmp 2] 6 44 [] 0 ?_
 repeat' first
  | (refine yi ?_; refine a0e (σ := {i : Nat // i <= p.fu.length}) (fun y => [(4, .int .i64 (y.1 : Int)), (5, .undef), (3, .sl [0, 1000] 2 0 (sitP p.fu y.1).length)]) [] (fun y => []) [[0, 6], [0, 7]] (fun y => [([0, 1000], .cells 98 2 (sits (sitP p.fu y.1)))]) (fun y => noH) (fun y => p.fu.length - y.1) ⟨0, by simp⟩ (gk3 (j := 0) [] (Bs.pc _) wu wu wu wu wu wu wu) ?_; rintro ⟨i, hi⟩; simp only [lpS, LPXB]; (try dsimp only at hi); rcases a0c hi with hlt | ⟨hlt, rfl⟩; have wi := wli hlt z1t; have hc := b9n hp hlt; have hz := c8m p.fu i; rotate_left; have e : a0a p = sitP p.fu p.fu.length := rfl; have hl := d5n hp (A5s _); rotate_left)
  | (refine yi ?_; refine a0e (σ := {j : Nat // j <= (p.fu[i]'hlt).code.length}) (fun y => [(5, .int .i64 (y.1 : Int)), (3, .sl [0, 1000] 2 0 (sit2 p.fu i y.1).length)]) [] (fun y => []) [] (fun y => [([0, 1000], .cells 98 2 (sits (sit2 p.fu i y.1)))]) (fun y => noH) (fun y => (p.fu[i]'hlt).code.length - y.1) ⟨0, by simp⟩ (gk3 (j := 0) [] (Bs.pc _) yx yx yx yx yx yx yx) ?_; rintro ⟨j, hj⟩; simp only [lpS, LPXB]; (try dsimp only at hj); rcases a0c hj with hlk | ⟨hlk, rfl⟩; have wk := wli hlk ya; have hl := e9g hp hlt hj; have hs := szn (n := (sit2 p.fu i j).length + 1) (k := 16) ya yb; have hs2 : (sit2 p.fu i j).length + 1 <= 4611686018427387904 := ya; cases hac : alO ((p.fu[i]'hlt).code[j]'hlk).op; rotate_left; rotate_left; have hen := c8l hlt; rotate_left)
  | (refine ye ?_; refine a0b (⟨j + 1, by omega⟩) (gk3 (j := 0) [] (Bs.pc _) ww ww ww ww ww ww ww) yf)
  | (refine ye ?_; refine a0b (⟨j + 1, by omega⟩) (gk3 (j := 0) [] (Bs.pc _) wx wx wx wx wx wx wx) yf)
  | (refine ye ?_; refine a0b (⟨i + 1, by omega⟩) yt yf)
  | refine dz2 ?_
  | (refine stpK ?_; intro K hK)
  | (refine stpC ?_; intro T E hT hE)
  | (refine stp2 ?_ ?_ <;> intro h)
  | refine cpG (c5g _) ?_
  | (refine yg ?_; clear hK K)
  | (refine yh ?_; clear hT hE T E)
  | simp [*, -List.all_flatten, -List.all_eq_true, yl, A0c, a7l, asR]
theorem f4p {l : List (Int × Int)} {s : Int × Int} (h : noO l s i) (hi : ¬ i < l.length) : objR l s = 0 := f4m fun k hk h1 _ => h k hk h1 ya
theorem d7f {a b : Int × Int} (h : ¬ a = b) : (decide (a.1 = b.1) && decide (a.2 = b.2)) = false := by
 rw [Bool.and_eq_false_iff, decide_eq_false_iff_not, decide_eq_false_iff_not]
 by_cases h1 : a.1 = b.1
 . exact .inr fun h2 => h (Prod.ext h1 h2)
 . exact .inl h1
theorem c9c {a b : Int × Int} (h : ¬ a = b) : a.1 = b.1 -> ¬ a.2 = b.2 := fun h1 h2 => h (Prod.ext h1 h2)
theorem c8b (hp : VOk p) (s : Int × Int) : Pq 153 [PA p, .agg [.int .i64 s.1, .int .i64 s.2]] (.int .i64 (objR (a0a p) s)) := by
 have hpos : 1 <= (a0a p).length := a5z p
 have hsv := a0h hp
 refine yq Tryz.f153 [.tmp 4] 7 22 [] 0 ?_
 repeat' first
  | (refine yi ?_; refine a0e (σ := {i : Nat // 1 <= i /\ i <= (a0a p).length /\ noO (a0a p) s i}) (fun y => [(6, .int .i64 (y.1 : Int))]) [] (fun y => []) [] (fun y => []) (fun y => noH) (fun y => (a0a p).length - y.1) ⟨1, by simp, hpos, g7p _ _⟩ yt ?_; rintro ⟨i, h1, hi, hk⟩; simp only [lpS, LPXB]; (try dsimp only at h1 hi hk); rcases a0c hi with hlt | ⟨hlt, he⟩; have wi := wli hlt ya; by_cases he : (a0a p)[i]'hlt = s; rotate_left; have hne := d7f he; have hne' := c9c he; rotate_left; rotate_left)
  | (refine ye ?_; refine a0b (⟨i + 1, by omega, by omega, g7o hk hlt he⟩) yt yf)
  | with_reducible first | refine a0n (id := 5) 6 a0d yc fun K hK => ?_ | refine dz2 ?_ | refine stpK ?_; intro K hK | refine stpC ?_; intro T E hT hE | refine stp2 ?_ ?_ <;> intro h | refine cpG (d4u hp) ?_ | refine yg ?_; clear hK K | refine yh ?_; clear hT hE T E
  | simp [*, -List.all_flatten, -List.all_eq_true, yl, c0e, a9h, eqV, A0c, a7l, asR]
 all_goals first
  | (rw [c9g h1 hlt hk he]; done)
  | (simp [c9g h1 hlt hk he]; done)
  | (simp [f4p hk hlt]; done)
open Classical in
noncomputable def a2p (p : Pg) : Pts := ⟨a0a p, p.fu.map (fun f => List.replicate f.regs.toNat []), List.replicate (a0a p).length []⟩
def empR (fs : List FnD) : List (List FV) := fs.map fun f => [.list 1 (List.replicate f.regs.toNat [.nils])]
theorem a6i (fs : List FnD) : (empR fs).length = fs.length := by simp [empR]
theorem c1y : empR [] = [] := rfl
theorem e0n {fs : List FnD} (h : i < fs.length) : empR (fs.take (i + 1)) = empR (fs.take i) ++ [[.list 1 (List.replicate fs[i].regs.toNat [.nils])]] := by
 rw [A0y, A5n h]; simp only [empR, A1s, A1m, List.map_nil, Option.toList]
theorem b7w (n : Nat) (fs : List FnD) : (empR fs).take n = empR (fs.take n) := by simp [empR, A2y]
theorem b0h (n : Nat) : nlss (List.replicate n [FV.nils]) = true := by
 induction n with
 | zero => rfl
 | succ n ih => simp [List.replicate_succ, nlss, nls, nl, ih]
theorem a9n (fs : List FnD) : nlss (empR fs) = true := by
 induction fs with
 | nil => rfl
 | cons f fs ih => simp only [empR, A1m, nlss, nls, nl, b0h, A3j, A4a] at ih ⊢; exact ih
theorem e1z (n : Nat) : asDss (List.replicate n [FV.nils]) (lays (List.replicate n [])) := by
 induction n with
 | zero => rfl
 | succ n ih => exact ⟨_, _, rfl, ⟨_, _, rfl, .inr ⟨1, rfl⟩, rfl⟩, ih⟩
theorem e8d (fs : List FnD) : asDss (empR fs) (lls (fs.map (fun f => List.replicate f.regs.toNat []))) := by
 induction fs with
 | nil => rfl
 | cons f fs ih => exact ⟨_, _, rfl, ⟨_, _, rfl, ⟨_, rfl, e1z _⟩, rfl⟩, ih⟩
theorem g7f (hp : VOk p) (hi : i < p.fu.length) : 0 <= p.fu[i].regs /\ p.fu[i].regs <= 64 := by
 have := hp.regs (A5p hi)
 have h1 := this.p0
 have h2 := this.p1
 have h3 := this.r64
 omega
theorem e3q (hp : VOk p) : Pq 64 [PA p] (.agg [.list 2 (sits (a0a p)), .list 1 (empR p.fu), .list 1 (List.replicate (a0a p).length [.nils])]) := by
 refine yq Tryz.f64 [.cell 2 49] 5 33 [] 0 ?_
 repeat' first
  | (refine yi ?_; refine a0e (σ := {i : Nat // i <= p.fu.length}) (fun y => [(4, .int .i64 (y.1 : Int))]) [] (fun y => []) [[0, 7]] (fun y => [([0, 3], .cells 49 3 [[.list 2 (sits (a0a p)), .sl [0, 1000] 1 0 y.1, .nils]]), ([0, 1000], .cells 24 1 (empR (p.fu.take y.1)))]) (fun y => noH) (fun y => p.fu.length - y.1) ⟨0, by simp⟩ (gk3 (j := 0) [([0, 1000], none)] (Bs.pc _) y10 y10 y10 y10 y10 y10 y10) ?_; rintro ⟨i, hi⟩; simp only [lpS, LPXB]; (try dsimp only at hi); rcases a0c hi with hlt | ⟨hlt, rfl⟩; have wi := wli hlt z1t; obtain ⟨hr0, hr1⟩ := g7f hp hlt; have hq : 24 * (p.fu[i]'hlt).regs <= 281474976710656 := ya; have hq2 : (p.fu[i]'hlt).regs <= 4611686018427387904 := ya; have hnf := hp.nf; have hs := szn (n := i + 1) (k := 24) ya yb; have hs2 : i <= 4611686018427387903 := ya; have hil := A2e hlt; rotate_left; have hsv := a0h hp; have hq3 : (24 : Int) * ((a0a p).length : Int) <= 281474976710656 := ya; have hq4 : ((a0a p).length : Int) <= 4611686018427387904 := ya; rotate_left)
  | (with_reducible refine b9t (id := 5) [[0, 1000]] 12 a0d yc fun K hK => ?_)
  | (refine b8i (j := 9) (e := 24) (x := .tmp 16) (y := .tmp 24) (t := 47) (tx := 47) (Aj := upd noH [0, 24] (.cells 24 1 [[.sl [0, 23] 1 0 (p.fu[i]'hlt).regs.toNat]])) [0, 1000] [0, 24] (.cells 24 1 (empR (p.fu.take i))) (.cells 24 1 [[.sl [0, 23] 1 0 (p.fu[i]'hlt).regs.toNat]]) 1 (empR (p.fu.take i) ++ [[.sl [0, 23] 1 0 (p.fu[i]'hlt).regs.toNat]]) (.sl [0, 25] 1 0 (i + 1)) yb yc ?_ z1f rfl (A5l rfl) ?_ yc ?_ ?_ ?_ yb ?_ ?_ ?_ ?_; (focus (exact rfl)); (focus (first | rfl | simp)); (iterate 5 (focus (first | rfl | simp [*, SIMB, rmvs, rmv, a2r]))); (focus (simp [*, -List.all_flatten, -List.all_eq_true, yl, asR, rmvs, rmv, a2r, FV.cellV, a9n, a6i, b7w, A1c, A2d, a1j, A0c, b0h, A0u, A0j, A0w, A2e])))
  | (refine ye ?_; refine a0b (⟨i + 1, by omega⟩) (Gk.trans (gk3 (j := 0) [([0, 1000], some [0, 25])] (Bs.pc _) y11 y11 y11 y11 y11 y11 y11) (f0k [0, 23] 36 1 (List.replicate (p.fu[i]'hlt).regs.toNat [.nils]) (fun _ h => h) z42 z42)) yf)
  | refine dz2 ?_
  | (refine stpK ?_; intro K hK)
  | (refine stpC ?_; intro T E hT hE)
  | (refine stp2 ?_ ?_ <;> intro h)
  | refine cpG (d4u hp) ?_
  | (refine yg ?_; clear hK K)
  | (refine yh ?_; clear hT hE T E)
  | simp [*, -List.all_flatten, -List.all_eq_true, yl, asR, rmvs, rmv, a2r, FV.cellV, a9n, a6i, b7w, A1c, A2d, a1j, A0c, b0h, A0u, A0j, A0w, A2e]
theorem f2v (hp : VOk p) : Pq 64 [PA p] (.agg [.list 2 (sits (a2p p).sites), .list 1 (lls (a2p p).regs), .list 1 (lays (a2p p).cells)]) :=
 (e3q hp).deep ⟨_, rfl, _, _, rfl, a5p _, _, _, rfl, ⟨_, rfl, e8d _⟩, _, _, rfl, ⟨_, rfl, e1z _⟩, rfl⟩
structure PtB (N : Nat) (x : Pts) : Prop where
 s : x.sites.length <= N
 r : x.regs.length <= N
 c : x.cells.length <= N
 rr : ∀ a ∈ x.regs, a.length <= N
 rs : ∀ a ∈ x.regs, ∀ s ∈ a, s.length <= N
 cs : ∀ s ∈ x.cells, s.length <= N
open Classical in
noncomputable def d5q (x y : Pts) : Bool := decide (x = y)
theorem a6w (h : ¬ x = y) : d5q x y = false := by simpa [d5q] using h
theorem c3d (h : x = y) : d5q x y = true := by simpa [d5q] using h
def eqL {α : Type} (a b : List α) (i : Nat) : Prop := ∀ j (h1 : j < a.length) (h2 : j < b.length), j < i -> a[j] = b[j]
theorem e7j (a b : List α) : eqL a b 0 := fun _ _ _ h => absurd h ya
theorem e7i (h : eqL a b i) (h1 : i < a.length) (h2 : i < b.length) (e : a[i] = b[i]) : eqL a b (i + 1) := fun j g1 g2 hj => by
 by_cases e' : j = i
 . subst e'; exact e
 . exact h j g1 g2 ya
theorem c1x (hl : a.length = b.length) (h : eqL a b a.length) : a = b := A0e hl fun i h1 h2 => h i h1 h2 h1
theorem g2w (h1 : i < a.length) (h2 : i < b.length) (e : ¬ a[i] = b[i]) : ¬ a = b := fun h => by subst h; exact e rfl
theorem g2v {a b : List (List α)} {j : Nat} (h1 : i < a.length) (h2 : i < b.length) (h3 : j < a[i].length) (h4 : j < b[i].length) (e : ¬ a[i][j] = b[i][j]) : ¬ a = b := fun h => by subst h; exact e rfl
theorem g2u {a b : List (List α)} (h1 : i < a.length) (h2 : i < b.length) (e : ¬ a[i].length = b[i].length) : ¬ a = b := fun h => by subst h; exact e rfl
theorem f9p (hx : PtB 2000000 x) : Pq 62 [.agg [.list 2 (sits x.sites), .list 1 (lls x.regs), .list 1 (lays x.cells)], .agg [.list 2 (sits y.sites), .list 1 (lls y.regs), .list 1 (lays y.cells)]] (.bool (d5q x y)) := by
 by_cases q1 : x.sites.length = y.sites.length <;> by_cases q2 : x.cells.length = y.cells.length <;> by_cases q3 : x.regs.length = y.regs.length
 all_goals
  refine yq Tryz.f62 [.tmp 4] 9 119 [] 0 ?_
  repeat' first
   | (refine yi ?_; refine a0e (σ := {i : Nat // i <= x.sites.length /\ eqL x.sites y.sites i}) (fun y => [(5, .int .i64 (y.1 : Int))]) [] (fun y => []) [] (fun y => []) (fun y => noH) (fun y => x.sites.length - y.1) ⟨0, by simp, e7j _ _⟩ yt ?_; rintro ⟨i, hi, hk⟩; simp only [lpS, LPXB]; (try dsimp only at hi hk); rcases a0c hi with hlt | ⟨hlt, rfl⟩; have wi := wli hlt (A0a hx.s yb); have g1 : i < y.sites.length := ya; by_cases c1 : (x.sites[i]'hlt) = (y.sites[i]'g1); rotate_left; have c1' := d7f c1; have c1'' := c9c c1; rotate_left)
   | (refine yi ?_; refine a0e (σ := {i : Nat // i <= x.cells.length /\ eqL x.cells y.cells i}) (fun y => [(6, .int .i64 (y.1 : Int))]) [] (fun y => []) [] (fun y => []) (fun y => noH) (fun y => x.cells.length - y.1) ⟨0, by simp, e7j _ _⟩ yt ?_; rintro ⟨k, hc, hkc⟩; simp only [lpS, LPXB]; (try dsimp only at hc hkc); rcases a0c hc with hlc | ⟨hlc, rfl⟩; have wc := wli hlc (A0a hx.c yb); have g2 : k < y.cells.length := ya; have hts := d4z (x.cells[k]'hlc) (y.cells[k]'g2) (A0a (hx.cs _ (A5p hlc)) yb); by_cases c2 : (x.cells[k]'hlc) = (y.cells[k]'g2); rw [c2] at hts)
   | (refine yi ?_; refine a0e (σ := {f : Nat // f <= x.regs.length /\ eqL x.regs y.regs f}) (fun y => [(7, .int .i64 (y.1 : Int)), (8, .undef)]) [] (fun y => []) [] (fun y => []) (fun y => noH) (fun y => x.regs.length - y.1) ⟨0, by simp, e7j _ _⟩ yt ?_; rintro ⟨f, hf, hkf⟩; simp only [lpS, LPXB]; (try dsimp only at hf hkf); rcases a0c hf with hlf | ⟨hlf, rfl⟩; have wf := wli hlf (A0a hx.r yb); have g4 : f < y.regs.length := ya; by_cases c3 : (y.regs[f]'g4).length = (x.regs[f]'hlf).length; rotate_left; have c3' := (fun e => c3 (Eq.symm e) : ¬ (x.regs[f]'hlf).length = (y.regs[f]'g4).length); rotate_left)
   | (refine yi ?_; refine a0e (σ := {j : Nat // j <= (x.regs[f]'hlf).length /\ eqL (x.regs[f]'hlf) (y.regs[f]'g4) j}) (fun y => [(8, .int .i64 (y.1 : Int))]) [] (fun y => []) [] (fun y => []) (fun y => noH) (fun y => (x.regs[f]'hlf).length - y.1) ⟨0, by simp, e7j _ _⟩ yt ?_; rintro ⟨j, hj, hkj⟩; simp only [lpS, LPXB]; (try dsimp only at hj hkj); rcases a0c hj with hlj | ⟨hlj, rfl⟩; have wj := wli hlj (A0a (hx.rr _ (A5p hlf)) yb); have g5 : j < (y.regs[f]'g4).length := ya; have htj := d4z ((x.regs[f]'hlf)[j]'hlj) ((y.regs[f]'g4)[j]'g5) (A0a (hx.rs _ (A5p hlf) _ (A5p hlj)) yb); by_cases c4 : ((x.regs[f]'hlf)[j]'hlj) = ((y.regs[f]'g4)[j]'g5); rw [c4] at htj)
   | (refine ye ?_; refine a0b (⟨i + 1, by omega, e7i hk hlt g1 c1⟩) yt yf)
   | (refine ye ?_; refine a0b (⟨k + 1, by omega, e7i hkc hlc g2 c2⟩) yt yf)
   | (refine ye ?_; refine a0b (⟨j + 1, by omega, e7i hkj hlj g5 c4⟩) yt yf)
   | (refine ye ?_; refine a0b (⟨f + 1, by omega, e7i hkf hlf g4 (c1x (Eq.symm c3) hkj)⟩) yt yf)
   | with_reducible first | refine a0n (id := 21) 18 a0d yc fun K hK => ?_ | refine a0n (id := 16) 13 a0d yc fun K hK => ?_ | refine a0n (id := 11) 12 a0d yc fun K hK => ?_ | refine a0n (id := 6) 11 a0d yc fun K hK => ?_ | refine dz2 ?_ | refine stpK ?_; intro K hK | refine stpC ?_; intro T E hT hE | refine stp2 ?_ ?_ <;> intro h | refine cpG hts ?_ | refine cpG htj ?_ | refine yg ?_; clear hK K | refine yh ?_; clear hT hE T E
   | simp [*, -List.all_flatten, -List.all_eq_true, yl, d7s, eqV, c0e, a9h]
  all_goals first
   | (have e := a6w (x := x) (y := y) (fun h => g2w hlt g1 c1 z1b); simp [e]; done)
   | (have e := a6w (x := x) (y := y) (fun h => g2w hlc g2 c2 z1b); simp [e]; done)
   | (have e := a6w (x := x) (y := y) (fun h => g2v hlf g4 hlj g5 c4 z1b); simp [e]; done)
   | (have e := a6w (x := x) (y := y) (fun h => g2u hlf g4 c3' z1b); simp [e]; done)
   | (have e := a6w (x := x) (y := y) (fun h => q1 z1b); simp [e]; done)
   | (have e := a6w (x := x) (y := y) (fun h => q2 z1b); simp [e]; done)
   | (have e := a6w (x := x) (y := y) (fun h => q3 z1b); simp [e]; done)
   | (have e := c3d (Pts.ext' (c1x q1 z2d) (c1x q3 z2d) (c1x q2 z2d)); simp [e]; done)
def rowN (L : List (List (List Int))) : List (List FV) := L.mapIdx fun f r => [.sl [92, f] 1 0 r.length]
def PF (x : Pts) : Heap := fun l => match l with
 | [91] => some (.cells 24 1 (rowN x.regs))
 | [92, f] => (x.regs[f]?).map fun r => .cells 36 1 (lays r)
 | [93] => some (.cells 36 1 (lays x.cells))
 | _ => none
theorem a0y (L : List (List (List Int))) : (rowN L).length = L.length := by simp [rowN]
theorem b6k {L : List (List (List Int))} {f : Nat} (h : f < (rowN L).length) : (rowN L)[f] = [.sl [92, f] 1 0 (L[f]'(by rwa [a0y] at h)).length] := by simp [rowN]
theorem d6c (L : List (List (List Int))) (r : List (List Int)) : rowN (L ++ [r]) = rowN L ++ [[.sl [92, L.length] 1 0 r.length]] := by simp [rowN, A3s]
theorem e4f : rowN [] = [] := rfl
theorem d2m {L L' : List (List (List Int))} (h : L.length = L'.length) (h' : ∀ f (h1 : f < L.length) (h2 : f < L'.length), L[f].length = L'[f].length) : rowN L = rowN L' := by
 refine A0e (by simp [a0y, h]) fun f h1 h2 => ?_
 rw [b6k h1, b6k h2, h' f (by rwa [a0y] at h1) (by rwa [a0y] at h2)]
theorem c7i (x : Pts) : PF x [91] = some (.cells 24 1 (rowN x.regs)) := id (Eq.refl _)
theorem c7h (x : Pts) : PF x [93] = some (.cells 36 1 (lays x.cells)) := id (Eq.refl _)
theorem e8e (x : Pts) (f : Nat) : PF x [92, f] = (x.regs[f]?).map fun r => .cells 36 1 (lays r) := id (Eq.refl _)
theorem a9a (x : Pts) (k : Nat) (r : List Nat) (hk : k <= 20) : PF x (k :: r) = none := by
 unfold PF
 split
 . rename_i h; simp at h; omega
 . rename_i h; simp at h; omega
 . rename_i h; simp at h; omega
 . rfl
section
variable {L : LF} {B : Heap} {x : Pts}
theorem b8s : HP L B (PF x) [91] = some (.cells 24 1 (rowN x.regs)) := a5q (c7i x)
theorem b1u : HP L B (PF x) [93] = some (.cells 36 1 (lays x.cells)) := a5q (c7h x)
theorem c7j {f : Nat} (h : f < x.regs.length) : HP L B (PF x) [92, f] = some (.cells 36 1 (lays x.regs[f])) := a5q (by rw [e8e, A5n h]; rfl)
theorem e2l (C : List (List Int)) : upd (HP L B (PF x)) [93] (.cells 36 1 (lays C)) = HP L B (PF ⟨x.sites, x.regs, C⟩) := by
 funext k
 by_cases e : k = [93]
 . subst e; simp only [upd, if_true]; exact (b1u (x := ⟨x.sites, x.regs, C⟩)).symm
 . simp only [upd, e, if_false]
   unfold HP
   rw [a1m, a1m]
   have : PF ⟨x.sites, x.regs, C⟩ k = PF x k := by
    unfold PF
    split <;> first | rfl | (exact absurd rfl e)
   rw [this]
theorem g5h {f : Nat} (h : f < x.regs.length) (R : List (List Int)) (hR : R.length = x.regs[f].length) : upd (HP L B (PF x)) [92, f] (.cells 36 1 (lays R)) = HP L B (PF ⟨x.sites, x.regs.set f R, x.cells⟩) := by
 have h0 : rowN (x.regs.set f R) = rowN x.regs := d2m yd fun g h1 h2 => by
  rw [A1e]
  split
  . rename_i e; subst e; exact hR
  . rfl
 funext k
 by_cases e : k = [92, f]
 . subst e; simp only [upd, if_true]; exact (a5q (by rw [e8e, List.getElem?_set_self h]; rfl)).symm
 . simp only [upd, e, if_false]
   unfold HP
   rw [a1m, a1m]
   have : PF ⟨x.sites, x.regs.set f R, x.cells⟩ k = PF x k := by
    unfold PF
    split
    . simp only [h0]
    . rename_i g
      have : g ≠ f := fun e' => e (by rw [e'])
      simp only [A4d (A4f this)]
    . rfl
    . rfl
   rw [this]
end
theorem e5q (L : List (List Int)) (k : Nat) (a : List Int) (g : List FV -> List FV) (hg : ∀ v, g [v] = [.list 1 (ints a)]) : (lays L).modify k g = lays (L.set k a) := by
 refine A0e (by simp [a0t]) fun i h1 h2 => ?_
 rw [A2w]
 simp only [lays, A2s, A1e]
 split
 . exact hg _
 . rfl
theorem d8e (L : List (List Int)) (k : Nat) (a : List Int) : (lays L).modify k (fun r => .list 1 (ints a) :: r.tail) = lays (L.set k a) := e5q L k a _ fun _ => rfl
abbrev BsP (p : Pg) (j : Nat) (B : Heap) : Prop := ∀ y y', Gv.Form p y -> Gv.Form p y' -> Bs (inH (HP [] B (PF y))) j B (PF y')
theorem c7u {n : Nat} {a b : List Int} (ha : okS n a) (hb : ∀ o ∈ b, 0 <= o /\ o < (n : Int)) (k : Nat) : (a1s a (b.take k)).length <= n :=
 b3n (b2m ha.1) fun x hx => by
  rcases a3x.1 hx with h | h
  . exact ha.2 x h
  . exact hb x (A0t h)
theorem c4z {l s : List Int} (h : i < l.length) : a3f y (l.take (i + 1)) s = addC (a3f y (l.take i) s) l[i] s := by
 unfold a3f
 rw [A0y, A5n h, A0z]; rfl
theorem a4u (hy : Gv.Form p y) {l s : List Int} (hl : ∀ o ∈ l, 0 <= o /\ o < ((a0a p).length : Int)) (hs : ∀ o ∈ s, 0 <= o /\ o < ((a0a p).length : Int)) (i : Nat) : Gv.Form p (a3f y (l.take i) s) :=
 ((b2p (p := p) (l := fun _ => l.take i) (S := fun _ => s) (fun _ _ c hc => hl c (A0t hc)) (fun _ _ => hs)).1 y hy).1
theorem d1p (y : Pts) (o : Int) (s : List Int) {k : Nat} (hk : o.toNat = k) (h : k < y.cells.length) : addC y o s = ⟨y.sites, y.regs, y.cells.set k (a1s y.cells[k] s)⟩ := by
 subst hk
 simp [addC, setC, cl, A5m, h]
def zo := cj @DEFB (cj @LENB (cj @a9a (cj @b8s (cj @b1u (cj @a0y (cj @b6k @d8e))))))
def zy := cj @c7j (cj @g5h @e2l)
def z1g := cj @a9a (cj @c7i (cj @c7h (cj @b8s @b1u)))
end Go.Je
