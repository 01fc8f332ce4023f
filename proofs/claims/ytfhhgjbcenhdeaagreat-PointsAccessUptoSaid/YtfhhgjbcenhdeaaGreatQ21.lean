/- Parts of the proof. -/
import Derived.Test.YtfhhgjbcenhdeaaGreatQ20
import Derived.Shelf.SlIterI.Sorted
import Derived.Shelf.Sort.Plain
import Derived.Shelf.Slices.In.SortNone
set_option linter.unusedSimpArgs false
set_option linter.unusedVariables false
namespace Go.Ge
open Go Go.FM Go.Gv Go.Proofs
set_option maxRecDepth 100000
set_option maxHeartbeats 40000000
open Classical in
noncomputable def c4e (x y : Pts) : Bool := decide (x = y)
theorem a9h {x y : Pts} (h : ¬ x = y) : c4e x y = false := by simpa [c4e] using h
theorem b3p {x y : Pts} (h : x = y) : c4e x y = true := by simpa [c4e] using h
def eqL {α : Type} (a b : List α) (i : Nat) : Prop := ∀ j (h1 : j < a.length) (h2 : j < b.length), j < i -> a[j] = b[j]
theorem d5n {α : Type} (a b : List α) : eqL a b 0 := fun _ _ _ h => absurd h (by omega)
theorem d5m {α : Type} {a b : List α} {i : Nat} (h : eqL a b i) (h1 : i < a.length) (h2 : i < b.length) (e : a[i] = b[i]) : eqL a b (i + 1) := fun j g1 g2 hj => by
 by_cases e' : j = i
 . subst e'; exact e
 . exact h j g1 g2 (by omega)
theorem b7z {α : Type} {a b : List α} (hl : a.length = b.length) (h : eqL a b a.length) : a = b := List.ext_getElem hl fun i h1 h2 => h i h1 h2 h1
theorem e6o {α : Type} {a b : List α} {i : Nat} (h1 : i < a.length) (h2 : i < b.length) (e : ¬ a[i] = b[i]) : ¬ a = b := fun h => by subst h; exact e rfl
theorem f1r {α : Type} {a b : List (List α)} {i j : Nat} (h1 : i < a.length) (h2 : i < b.length) (h3 : j < a[i].length) (h4 : j < b[i].length) (e : ¬ a[i][j] = b[i][j]) : ¬ a = b := fun h => by subst h; exact e rfl
theorem f1q {α : Type} {a b : List (List α)} {i : Nat} (h1 : i < a.length) (h2 : i < b.length) (e : ¬ a[i].length = b[i].length) : ¬ a = b := fun h => by subst h; exact e rfl
theorem c2h {x y : Pts} (hx : PtB 2000000 x) : PC Tryz.prog Gl 9 [.agg [.list 2 (sits x.sites), .list 1 (lls x.regs), .list 1 (lays x.cells)], .agg [.list 2 (sits y.sites), .list 1 (lls y.regs), .list 1 (lays y.cells)]] (.bool (c4e x y)) := by
 by_cases q1 : x.sites.length = y.sites.length <;> by_cases q2 : x.cells.length = y.cells.length <;> by_cases q3 : x.regs.length = y.regs.length
 all_goals
  refine a3d (res := [.tmp 4]) 9 119 [] (fun d ix => 0 :: d :: ix) (fn := Tryz.f9) (by kernel_rfl) (by rfl) (by rfl) (by rfl) (by simp) (by decide) ?_
  repeat' first
   | ((with_reducible refine a1u ?_); refine a2n (σ := {i : Nat // i <= x.sites.length /\ eqL x.sites y.sites i}) (fun y => [(5, .int .i64 (y.1 : Int))]) [] (fun y => []) [] (fun y => []) (fun y => noH) (fun y => x.sites.length - y.1) ⟨0, by simp, d5n _ _⟩ (gk3 (j := 0) [] (Bs.pc _) ?_ ?_ ?_ ?_ ?_ ?_ ?_) ?_; (iterate 7 (focus (first | rfl | (simp [LPXB, *, SIMB, hdN, injB]; done)))); rintro ⟨i, hi, hk⟩; simp only [lpS, LPXB]; (try dsimp only at hi hk); rcases a1t hi with hlt | ⟨hlt, rfl⟩; have wi := wli hlt (Nat.le_trans hx.s (by decide)); have g1 : i < y.sites.length := (by omega); by_cases c1 : (x.sites[i]'hlt) = (y.sites[i]'g1); rotate_left; have c1' := c0q c1; have c1'' := b6b c1; rotate_left)
   | ((with_reducible refine a1u ?_); refine a2n (σ := {i : Nat // i <= x.cells.length /\ eqL x.cells y.cells i}) (fun y => [(6, .int .i64 (y.1 : Int))]) [] (fun y => []) [] (fun y => []) (fun y => noH) (fun y => x.cells.length - y.1) ⟨0, by simp, d5n _ _⟩ (gk3 (j := 0) [] (Bs.pc _) ?_ ?_ ?_ ?_ ?_ ?_ ?_) ?_; (iterate 7 (focus (first | rfl | (simp [LPXB, *, SIMB, hdN, injB]; done)))); rintro ⟨k, hc, hkc⟩; simp only [lpS, LPXB]; (try dsimp only at hc hkc); rcases a1t hc with hlc | ⟨hlc, rfl⟩; have wc := wli hlc (Nat.le_trans hx.c (by decide)); have g2 : k < y.cells.length := (by omega); have hts := c2i (x.cells[k]'hlc) (y.cells[k]'g2) (Nat.le_trans (hx.cs _ (List.getElem_mem hlc)) (by decide)); by_cases c2 : (x.cells[k]'hlc) = (y.cells[k]'g2); rw [c2] at hts)
   | ((with_reducible refine a1u ?_); refine a2n (σ := {f : Nat // f <= x.regs.length /\ eqL x.regs y.regs f}) (fun y => [(7, .int .i64 (y.1 : Int)), (8, .undef)]) [] (fun y => []) [] (fun y => []) (fun y => noH) (fun y => x.regs.length - y.1) ⟨0, by simp, d5n _ _⟩ (gk3 (j := 0) [] (Bs.pc _) ?_ ?_ ?_ ?_ ?_ ?_ ?_) ?_; (iterate 7 (focus (first | rfl | (simp [LPXB, *, SIMB, hdN, injB]; done)))); rintro ⟨f, hf, hkf⟩; simp only [lpS, LPXB]; (try dsimp only at hf hkf); rcases a1t hf with hlf | ⟨hlf, rfl⟩; have wf := wli hlf (Nat.le_trans hx.r (by decide)); have g4 : f < y.regs.length := (by omega); by_cases c3 : (y.regs[f]'g4).length = (x.regs[f]'hlf).length; rotate_left; have c3' := (fun e => c3 (Eq.symm e) : ¬ (x.regs[f]'hlf).length = (y.regs[f]'g4).length); rotate_left)
   | ((with_reducible refine a1u ?_); refine a2n (σ := {j : Nat // j <= (x.regs[f]'hlf).length /\ eqL (x.regs[f]'hlf) (y.regs[f]'g4) j}) (fun y => [(8, .int .i64 (y.1 : Int))]) [] (fun y => []) [] (fun y => []) (fun y => noH) (fun y => (x.regs[f]'hlf).length - y.1) ⟨0, by simp, d5n _ _⟩ (gk3 (j := 0) [] (Bs.pc _) ?_ ?_ ?_ ?_ ?_ ?_ ?_) ?_; (iterate 7 (focus (first | rfl | (simp [LPXB, *, SIMB, hdN, injB]; done)))); rintro ⟨j, hj, hkj⟩; simp only [lpS, LPXB]; (try dsimp only at hj hkj); rcases a1t hj with hlj | ⟨hlj, rfl⟩; have wj := wli hlj (Nat.le_trans (hx.rr _ (List.getElem_mem hlf)) (by decide)); have g5 : j < (y.regs[f]'g4).length := (by omega); have htj := c2i ((x.regs[f]'hlf)[j]'hlj) ((y.regs[f]'g4)[j]'g5) (Nat.le_trans (hx.rs _ (List.getElem_mem hlf) _ (List.getElem_mem hlj)) (by decide)); by_cases c4 : ((x.regs[f]'hlf)[j]'hlj) = ((y.regs[f]'g4)[j]'g5); rw [c4] at htj)
   | ((with_reducible refine a1p ?_); refine a2a (⟨i + 1, by omega, d5m hk hlt g1 c1⟩) (gk3 (j := 0) [] (Bs.pc _) ?_ ?_ ?_ ?_ ?_ ?_ ?_) ?_; (iterate 7 (focus (first | rfl | (simp [LPXB, *, SIMB, hdN, injB]; done)))); (focus (dsimp only; omega)))
   | ((with_reducible refine a1p ?_); refine a2a (⟨k + 1, by omega, d5m hkc hlc g2 c2⟩) (gk3 (j := 0) [] (Bs.pc _) ?_ ?_ ?_ ?_ ?_ ?_ ?_) ?_; (iterate 7 (focus (first | rfl | (simp [LPXB, *, SIMB, hdN, injB]; done)))); (focus (dsimp only; omega)))
   | ((with_reducible refine a1p ?_); refine a2a (⟨j + 1, by omega, d5m hkj hlj g5 c4⟩) (gk3 (j := 0) [] (Bs.pc _) ?_ ?_ ?_ ?_ ?_ ?_ ?_) ?_; (iterate 7 (focus (first | rfl | (simp [LPXB, *, SIMB, hdN, injB]; done)))); (focus (dsimp only; omega)))
   | ((with_reducible refine a1p ?_); refine a2a (⟨f + 1, by omega, d5m hkf hlf g4 (b7z (Eq.symm c3) hkj)⟩) (gk3 (j := 0) [] (Bs.pc _) ?_ ?_ ?_ ?_ ?_ ?_ ?_) ?_; (iterate 7 (focus (first | rfl | (simp [LPXB, *, SIMB, hdN, injB]; done)))); (focus (dsimp only; omega)))
   | with_reducible first | refine a0u (id := 21) 18 a0m (by kernel_rfl) fun K hK => ?_ | refine a0u (id := 16) 13 a0m (by kernel_rfl) fun K hK => ?_ | refine a0u (id := 11) 12 a0m (by kernel_rfl) fun K hK => ?_ | refine a0u (id := 6) 11 a0m (by kernel_rfl) fun K hK => ?_ | refine stp ?_
   | (with_reducible refine stpK ?_; intro K hK)
   | (with_reducible refine stpC ?_; intro T E hT hE)
   | (with_reducible refine stp2 ?_ ?_ <;> intro h)
   | with_reducible first | refine a0p rfl ?_ | refine a1h hts (by simp [nls, nl, *, NLXB]) ?_ | refine hpc hts (by simp [nls, nl, *, NLXB]) ?_ | refine a1h htj (by simp [nls, nl, *, NLXB]) ?_ | refine hpc htj (by simp [nls, nl, *, NLXB]) ?_ | refine a1r rfl (Nat.le_of_ble_eq_true rfl) a0r ?_ | refine a1r rfl (Nat.le_of_ble_eq_true rfl) (a0q (by simp [HPXB, ext, upd, *])) ?_ | refine a1s (by decide) (by kernel_rfl) ?_ | refine a0x (by decide) ?_
   | (with_reducible refine Kont.go hK ?_; clear hK K)
   | ((with_reducible first | refine KT.go hT ?_ | refine KT.go hE ?_); clear hT hE T E)
   | simp [*, -List.all_flatten, -List.all_eq_true, DEFB, LENB, a6b, eqV, a5l, a8e]
  all_goals first
   | (have e := a9h (x := x) (y := y) (fun h => e6o hlt g1 c1 (by rw [h])); simp [e]; done)
   | (have e := a9h (x := x) (y := y) (fun h => e6o hlc g2 c2 (by rw [h])); simp [e]; done)
   | (have e := a9h (x := x) (y := y) (fun h => f1r hlf g4 hlj g5 c4 (by rw [h])); simp [e]; done)
   | (have e := a9h (x := x) (y := y) (fun h => f1q hlf g4 c3' (by rw [h])); simp [e]; done)
   | (have e := a9h (x := x) (y := y) (fun h => q1 (by rw [h])); simp [e]; done)
   | (have e := a9h (x := x) (y := y) (fun h => q2 (by rw [h])); simp [e]; done)
   | (have e := a9h (x := x) (y := y) (fun h => q3 (by rw [h])); simp [e]; done)
   | (have e := b3p (Pts.ext' (b7z q1 (by assumption)) (b7z q3 (by assumption)) (b7z q2 (by assumption))); simp [e]; done)
   | trace_state
end Go.Ge
namespace Go.Ge
open Go Go.FM Go.Gv Go.Proofs
set_option maxRecDepth 100000
set_option maxHeartbeats 40000000
def rowN (L : List (List (List Int))) : List (List FV) := L.mapIdx fun f r => [.sl [92, f] 1 0 r.length]
def PF (x : Pts) : Heap := fun l => match l with
 | [91] => some (.cells 24 1 (rowN x.regs))
 | [92, f] => (x.regs[f]?).map fun r => .cells 42 1 (lays r)
 | [93] => some (.cells 42 1 (lays x.cells))
 | _ => none
theorem a1i (L : List (List (List Int))) : (rowN L).length = L.length := by simp [rowN]
theorem a4c {L : List (List (List Int))} {f : Nat} (h : f < (rowN L).length) : (rowN L)[f] = [.sl [92, f] 1 0 (L[f]'(by rwa [a1i] at h)).length] := by simp [rowN]
theorem d2f (L : List (List (List Int))) (r : List (List Int)) : rowN (L ++ [r]) = rowN L ++ [[.sl [92, L.length] 1 0 r.length]] := by simp [rowN, List.mapIdx_append]
theorem d8j : rowN [] = [] := rfl
theorem c9p {L L' : List (List (List Int))} (h : L.length = L'.length) (h' : ∀ f (h1 : f < L.length) (h2 : f < L'.length), L[f].length = L'[f].length) : rowN L = rowN L' := by
 refine List.ext_getElem (by simp [a1i, h]) fun f h1 h2 => ?_
 rw [a4c h1, a4c h2, h' f (by rwa [a1i] at h1) (by rwa [a1i] at h2)]
theorem c3i (L : List (List (List Int))) : (rowN L).flatten.all FV.cellV = true := by
 rw [List.all_eq_true]
 intro v hv
 obtain ⟨r, hr, hv⟩ := List.mem_flatten.1 hv
 obtain ⟨i, hi, rfl⟩ := List.getElem_of_mem hr
 rw [a4c hi] at hv
 simp at hv
 subst hv; rfl
theorem a7r (x : Pts) : PF x [91] = some (.cells 24 1 (rowN x.regs)) := id (Eq.refl _)
theorem a7q (x : Pts) : PF x [93] = some (.cells 42 1 (lays x.cells)) := id (Eq.refl _)
theorem e1g (x : Pts) (f : Nat) : PF x [92, f] = (x.regs[f]?).map fun r => .cells 42 1 (lays r) := id (Eq.refl _)
theorem a3h (x : Pts) (k : Nat) (r : List Nat) (hk : k <= 20) : PF x (k :: r) = none := by
 unfold PF
 split
 . rename_i h; simp at h; omega
 . rename_i h; simp at h; omega
 . rename_i h; simp at h; omega
 . rfl
section
variable {L : List (FM.Loc × FO)} {B : Heap} {x : Pts}
theorem a4i : HP L B (PF x) [91] = some (.cells 24 1 (rowN x.regs)) := a9f (a7r x)
theorem a3u : HP L B (PF x) [93] = some (.cells 42 1 (lays x.cells)) := a9f (a7q x)
theorem a7l {f : Nat} (h : f < x.regs.length) : HP L B (PF x) [92, f] = some (.cells 42 1 (lays x.regs[f])) := a9f (by rw [e1g, List.getElem?_eq_getElem h]; rfl)
theorem a6t (C : List (List Int)) : upd (HP L B (PF x)) [93] (.cells 42 1 (lays C)) = HP L B (PF ⟨x.sites, x.regs, C⟩) := by
 funext k
 by_cases e : k = [93]
 . subst e; simp only [upd, if_true]; exact (a3u (x := ⟨x.sites, x.regs, C⟩)).symm
 . simp only [upd, e, if_false]
   unfold HP
   rw [a3y, a3y]
   have : PF ⟨x.sites, x.regs, C⟩ k = PF x k := by
    unfold PF
    split <;> first | rfl | (exact absurd rfl e)
   rw [this]
theorem a7n {f : Nat} (h : f < x.regs.length) (R : List (List Int)) (hR : R.length = x.regs[f].length) : upd (HP L B (PF x)) [92, f] (.cells 42 1 (lays R)) = HP L B (PF ⟨x.sites, x.regs.set f R, x.cells⟩) := by
 have h0 : rowN (x.regs.set f R) = rowN x.regs := c9p (by simp) fun g h1 h2 => by
  rw [List.getElem_set]
  split
  . rename_i e; subst e; exact hR
  . rfl
 funext k
 by_cases e : k = [92, f]
 . subst e; simp only [upd, if_true]; exact (a9f (by rw [e1g, List.getElem?_set_self h]; rfl)).symm
 . simp only [upd, e, if_false]
   unfold HP
   rw [a3y, a3y]
   have : PF ⟨x.sites, x.regs.set f R, x.cells⟩ k = PF x k := by
    unfold PF
    split
    . simp only [h0]
    . rename_i g
      have : g ≠ f := fun e' => e (by rw [e'])
      simp only [List.getElem?_set_ne (Ne.symm this)]
    . rfl
    . rfl
   rw [this]
end
theorem a4e (L : List (List Int)) (k : Nat) (a : List Int) : (lays L).set k [.list 1 (ints a)] = lays (L.set k a) := by
 simp only [lays, List.map_set]; rfl
theorem d9g (L : List (List Int)) (k : Nat) (a : List Int) (g : List FV -> List FV) (hg : ∀ v, g [v] = [.list 1 (ints a)]) : (lays L).modify k g = lays (L.set k a) := by
 refine List.ext_getElem (by simp [a0d]) fun i h1 h2 => ?_
 rw [List.getElem_modify]
 simp only [lays, List.getElem_map, List.getElem_set]
 split
 . exact hg _
 . rfl
theorem a3n (L : List (List Int)) (k : Nat) (a : List Int) : (lays L).modify k (fun r => .list 1 (ints a) :: r.tail) = lays (L.set k a) := d9g L k a _ fun _ => rfl
abbrev BsP (p : Pg) (j : Nat) (B : Heap) : Prop := ∀ y y', Gv.Form p y -> Gv.Form p y' -> Bs (inH (HP [] B (PF y))) j B (PF y')
theorem c5t {n : Nat} {a b : List Int} (ha : okS n a) (hb : ∀ o ∈ b, 0 <= o /\ o < (n : Int)) (k : Nat) : (a3v a (b.take k)).length <= n :=
 b3e (b1u ha.1) fun x hx => by
  rcases a5y.1 hx with h | h
  . exact ha.2 x h
  . exact hb x (List.mem_of_mem_take h)
theorem c3v {y : Pts} {l s : List Int} {i : Nat} (h : i < l.length) : a5q y (l.take (i + 1)) s = addC (a5q y (l.take i) s) l[i] s := by
 unfold a5q
 rw [List.take_add_one, List.getElem?_eq_getElem h, List.foldl_append]; rfl
theorem a7o {p : Pg} {y : Pts} (hy : Gv.Form p y) {l s : List Int} (hl : ∀ o ∈ l, 0 <= o /\ o < ((a0i p).length : Int)) (hs : ∀ o ∈ s, 0 <= o /\ o < ((a0i p).length : Int)) (i : Nat) : Gv.Form p (a5q y (l.take i) s) :=
 ((b3x (p := p) (l := fun _ => l.take i) (S := fun _ => s) (fun _ _ c hc => hl c (List.mem_of_mem_take hc)) (fun _ _ => hs)).1 y hy).1
theorem c8u (y : Pts) (o : Int) (s : List Int) {k : Nat} (hk : o.toNat = k) (h : k < y.cells.length) : addC y o s = ⟨y.sites, y.regs, y.cells.set k (a3v y.cells[k] s)⟩ := by
 subst hk
 simp [addC, setC, cl, List.getD_eq_getElem?_getD, h]
theorem d7k (a b : List Int) {H : Heap} {lb : FM.Loc} {T : TypeId} (hH : H lb = some (.cells T 1 (ints b))) (hb : b.length <= 1000000000) (hlen : ∀ i, i <= b.length -> (a3v a (b.take i)).length <= 999999990) : FC Tryz.prog Gl 40 [.list 1 (ints a), .sl lb 1 0 b.length] (H) (.list 1 (ints (a3v a b))) (H) := by
 refine c8y (res := [.tmp 4]) 6 19 [] (fun d ix => 0 :: d :: ix) (fn := Tryz.f40) (by kernel_rfl) (by rfl) (by rfl) (by rfl) (by simp) (by decide) ?_
 repeat' first
  | ((with_reducible refine a1u ?_); refine a7m (fun y : {i : Nat // i <= b.length} => (⟨[.list 1 (ints (a3v a (b.take y.1))), .sl lb 1 0 b.length, .undef, .undef, .nils, .int .i64 (y.1 : Int)], [], H, []⟩ : Fs)) (fun y => b.length - y.1) ⟨0, by simp⟩ (Wk.gk (d9f rfl (by simp [*, b8p]) (HLe.refl _))) ?_; rintro ⟨i, hi⟩; (try dsimp only at hi); rcases a1t hi with hlt | ⟨hlt, rfl⟩; have wi := wli hlt (by omega); have hw := e1w (a3v a (b.take i)) (b[i]'hlt) (hlen i hi); have hu := b6o (a := a) hlt; rotate_left; have ht := List.take_length (l := b); rotate_left)
  | ((with_reducible refine a1p ?_); refine a2a (⟨i + 1, by omega⟩) (Wk.gk (d9f rfl (by simp [*]) (HLe.refl _))) (by dsimp only; omega))
  | with_reducible refine stp ?_
  | (with_reducible refine stpK ?_; intro K hK)
  | (with_reducible refine stpC ?_; intro T E hT hE)
  | (with_reducible refine stp2 ?_ ?_ <;> intro h)
  | with_reducible first | refine a0p rfl ?_ | refine a1h hw (by simp [nls, nl, *, NLXB]) ?_ | refine hpc hw (by simp [nls, nl, *, NLXB]) ?_ | refine a1r rfl (Nat.le_of_ble_eq_true rfl) a0r ?_ | refine a1r rfl (Nat.le_of_ble_eq_true rfl) (a0q (by simp [HPXB, ext, upd, *])) ?_ | refine a1s (by decide) (by kernel_rfl) ?_ | refine a0x (by decide) ?_
  | (with_reducible refine Kont.go hK ?_; clear hK K)
  | ((with_reducible first | refine KT.go hT ?_ | refine KT.go hE ?_); clear hT hE T E)
  | simp [*, -List.all_flatten, -List.all_eq_true, DEFB, LENB, e3v, a3b]
theorem d9s {x : Pts} (l : List Int) : inc (a8t x l) := by
 have key : ∀ (l a : List Int), inc a -> inc (l.foldl (fun out o => a3v out (cl x o)) a) := by
  intro l
  induction l with
  | nil => exact fun a h => h
  | cons o l ih => exact fun a h => ih _ (b1u h)
 exact key l [] List.Pairwise.nil
theorem c9s {x : Pts} {l : List Int} {i : Nat} (h : i < l.length) : a8t x (l.take (i + 1)) = a3v (a8t x (l.take i)) (cl x l[i]) := by
 unfold a8t
 rw [List.take_add_one, List.getElem?_eq_getElem h, List.foldl_append]; rfl
theorem f6h (x : Pts) (o : Int) (h : o.toNat < x.cells.length) : cl x o = x.cells[o.toNat] := by simp [cl, List.getD_eq_getElem?_getD, h]
theorem b0p {p : Pg} {x : Pts} (hx : Gv.Form p x) (l : List Int) : okS (a0i p).length (a8t x l) := ⟨d9s l, e2i hx l⟩
theorem e9w {p : Pg} (hp : VOk p) {Y : Pts} (hy : Gv.Form p Y) {H : Heap} (h93 : H [93] = some (.cells 42 1 (lays Y.cells))) (h12 : H [1, 2] = none) {l : List Int} (hl : ∀ o ∈ l, 0 <= o /\ o < ((a0i p).length : Int)) (hll : l.length <= 64001) : FC Tryz.prog Gl 77 [.agg [.list 2 (sits (a0i p)), .sl [91] 1 0 p.funcs.length, .sl [93] 1 0 (a0i p).length], .list 1 (ints l)] (H) (.list 1 (ints (a8t Y l))) (upd H [1, 2] (.cells 33 3 [[.list 2 (sits (a0i p)), .sl [91] 1 0 p.funcs.length, .sl [93] 1 0 (a0i p).length]])) := by
 have hsv := a2f hp
 have hcn := hy.cn
 refine c8y (res := [.tmp 4]) 7 24 [] (fun d ix => 1 :: d :: ix) (fn := Tryz.f77) (by kernel_rfl) (by rfl) (by rfl) (by rfl) (by simp) (by decide) ?_
 repeat' first
  | ((with_reducible refine a1u ?_); refine a7m (fun y : {i : Nat // i <= l.length} => (⟨[.agg [.list 2 (sits (a0i p)), .sl [91] 1 0 p.funcs.length, .sl [93] 1 0 (a0i p).length], .list 1 (ints l), .ptr [1, 2] 3 0 0, .undef, .nils, .list 1 (ints (a8t Y (l.take y.1))), .int .i64 (y.1 : Int)], [], upd H [1, 2] (.cells 33 3 [[.list 2 (sits (a0i p)), .sl [91] 1 0 p.funcs.length, .sl [93] 1 0 (a0i p).length]]), []⟩ : Fs)) (fun y => l.length - y.1) ⟨0, by simp⟩ (Gk.trans (g2n (vs := [.agg [.list 2 (sits (a0i p)), .sl [91] 1 0 p.funcs.length, .sl [93] 1 0 (a0i p).length], .list 1 (ints l), .ptr [1, 2] 3 0 0, .undef, .nils, .nils, .int .i64 0]) ⟨_, _, rfl, a8k _, _, _, rfl, a8k _, _, _, rfl, a8k _, _, _, rfl, a8k _, _, _, rfl, a8k _, _, _, rfl, .inr ⟨1, rfl⟩, _, _, rfl, a8k _, rfl⟩) (Wk.gk (d9f rfl (by simp [*]) (HLe.refl _)))) ?_; rintro ⟨i, hi⟩; (try dsimp only at hi); rcases a1t hi with hlt | ⟨hlt, rfl⟩; have wi := wli hlt (by omega); have hlo := hl _ (List.getElem_mem hlt); have hco : ((l[i]'hlt)).toNat < Y.cells.length := (by omega); have hu := c3x (a8t Y (l.take i)) (Y.cells[((l[i]'hlt)).toNat]'hco) (Nat.le_trans (b3e (hy.cs _ (List.getElem_mem hco)).1 (hy.cs _ (List.getElem_mem hco)).2) (by omega)) (fun k hk => Nat.le_trans (c5t (b0p hy (l.take i)) (hy.cs _ (List.getElem_mem hco)).2 k) (by omega)); have hw := c9s (x := Y) hlt; rw [f6h Y _ hco] at hw; rotate_left; have htl := List.take_length (l := l); rotate_left)
  | ((with_reducible refine a1p ?_); refine a2a (⟨i + 1, by omega⟩) (Wk.gk (d9f rfl (by simp [*]) (HLe.refl _))) (by dsimp only; omega))
  | with_reducible first | refine a0u (id := 5) 10 a0m (by kernel_rfl) fun K hK => ?_ | refine stp ?_
  | (with_reducible refine stpK ?_; intro K hK)
  | (with_reducible refine stpC ?_; intro T E hT hE)
  | (with_reducible refine stp2 ?_ ?_ <;> intro h)
  | with_reducible first | refine a0p rfl ?_ | refine a1h hu (by simp [nls, nl, *, NLXB]) ?_ | refine hpc hu (by simp [nls, nl, *, NLXB]) ?_ | refine a1r rfl (Nat.le_of_ble_eq_true rfl) a0r ?_ | refine a1r rfl (Nat.le_of_ble_eq_true rfl) (a0q (by simp [HPXB, ext, upd, *])) ?_ | refine a1s (by decide) (by kernel_rfl) ?_ | refine a0x (by decide) ?_
  | (with_reducible refine Kont.go hK ?_; clear hK K)
  | ((with_reducible first | refine KT.go hT ?_ | refine KT.go hE ?_); clear hT hE T E)
  | simp [*, -List.all_flatten, -List.all_eq_true, DEFB, LENB, a3h, a4i, a3u, a1i, a4c, a4e, a3n, a3b, e3v, a3b]
theorem c3w {p : Pg} (hp : VOk p) {Y : Pts} (hy : Gv.Form p Y) {B : Heap} (hB : BsP p 1 B) {l s : List Int} (hl : ∀ o ∈ l, 0 <= o /\ o < ((a0i p).length : Int)) (hs : ∀ o ∈ s, 0 <= o /\ o < ((a0i p).length : Int)) (hll : l.length <= 64001) (hsl : s.length <= 64001) : FC Tryz.prog Gl 76 [.agg [.list 2 (sits (a0i p)), .sl [91] 1 0 p.funcs.length, .sl [93] 1 0 (a0i p).length], .list 1 (ints l), .list 1 (ints s)] (HP [] B (PF Y)) (.tup []) (HP [] B (PF (a5q Y l s))) := by
 have hsv := a2f hp
 have fB := (hB _ _ hy hy).fb
 have nB : ∀ r, B (1 :: r) = none := fun r => fB 1 r (by decide)
 refine a4a (res := []) 7 30 [] (fun d ix => 1 :: d :: ix) (fn := Tryz.f76) (by kernel_rfl) (by rfl) (by rfl) (by rfl) (by simp) (by decide) ?_
 repeat' first
  | ((with_reducible refine a1u ?_); refine a2n (σ := {i : Nat // i <= l.length}) (fun y => [(6, .int .i64 (y.1 : Int))]) [] (fun y => []) [] (fun y => []) (fun y => PF (a5q Y (l.take y.1) s)) (fun y => l.length - y.1) ⟨0, by simp⟩ (gk3 (j := 1) [] (hB _ _ hy (a7o hy hl hs _)) ?_ ?_ ?_ ?_ ?_ ?_ ?_) ?_; (iterate 7 (focus (first | rfl | (simp [LPXB, *, SIMB, hdN, injB, a5q, a3h, a7r, a7q, a4i, a3u]; done)))); rintro ⟨i, hi⟩; simp only [lpS, LPXB]; (try dsimp only at hi); rcases a1t hi with hlt | ⟨hlt, rfl⟩; have wi := wli hlt (by omega); have hZ := a7o hy hl hs i; have hlo := hl _ (List.getElem_mem hlt); have hcl := hZ.cn; have hco : ((l[i]'hlt)).toNat < (a5q Y (l.take i) s).cells.length := (by omega); have hu := c3x ((a5q Y (l.take i) s).cells[((l[i]'hlt)).toNat]'hco) s (by omega) (fun k hk => Nat.le_trans (c5t (hZ.cs _ (List.getElem_mem hco)) hs k) (by omega)); have ha := c8u (a5q Y (l.take i) s) (l[i]'hlt) s rfl hco; have hw := c3v (y := Y) (s := s) hlt; rotate_left; have htl := List.take_length (l := l); rotate_left)
  | ((with_reducible refine a1p ?_); refine a2a (⟨i + 1, by omega⟩) (gk3 (j := 1) [] (hB _ _ hy (a7o hy hl hs _)) ?_ ?_ ?_ ?_ ?_ ?_ ?_) ?_; (iterate 7 (focus (first | rfl | (simp [LPXB, *, SIMB, hdN, injB, a3h, a7r, a7q, a4i, a3u]; done)))); (focus (dsimp only; omega)))
  | ((with_reducible refine d3m (j := 1) (hB _ _ hy (by have := a7o hy hl hs l.length; rwa [htl] at this)) ?_ ?_ ?_ ?_); (focus rfl); (focus rfl); (focus (first | rfl | (simp [*]; done))); focus (first | trivial | (simp [nin, nins, a3b, inH, HPXB]; done)))
  | with_reducible first | refine a0u (id := 4) 17 a0m (by kernel_rfl) fun K hK => ?_ | refine stp ?_
  | (with_reducible refine stpK ?_; intro K hK)
  | (with_reducible refine stpC ?_; intro T E hT hE)
  | (with_reducible refine stp2 ?_ ?_ <;> intro h)
  | with_reducible first | refine a0p rfl ?_ | refine a1h hu (by simp [nls, nl, *, NLXB]) ?_ | refine hpc hu (by simp [nls, nl, *, NLXB]) ?_ | refine a1r rfl (Nat.le_of_ble_eq_true rfl) a0r ?_ | refine a1r rfl (Nat.le_of_ble_eq_true rfl) (a0q (by simp [HPXB, ext, upd, *])) ?_ | refine a1s (by decide) (by kernel_rfl) ?_ | refine a0x (by decide) ?_
  | (with_reducible refine Kont.go hK ?_; clear hK K)
  | ((with_reducible first | refine KT.go hT ?_ | refine KT.go hE ?_); clear hT hE T E)
  | simp [*, -List.all_flatten, -List.all_eq_true, DEFB, LENB, a3h, a4i, a3u, a1i, a4c, a4e, a3n, a3b, a6t]
def ents (ks : List Int) : List (FV × FV × Nat) := ks.mapIdx fun i k => (.int .i64 k, .agg [], i)
def mapO (ks : List Int) : FO := .map (ents ks) ks.length
theorem a6f : ents [] = [] := rfl
theorem e0t (ks : List Int) : (ents ks).length = ks.length := by simp [ents]
theorem d5o (ks : List Int) (k : Int) : ents (ks ++ [k]) = ents ks ++ [(.int .i64 k, .agg [], ks.length)] := by simp [ents, List.mapIdx_append]
theorem e0u {ks : List Int} {i : Nat} (h : i < ks.length) : (ents ks)[i]? = some (.int .i64 ks[i], .agg [], i) := by simp [ents, h]
theorem a8g {ks : List Int} {e : FV × FV × Nat} : e ∈ ents ks ↔ ∃ i, ∃ h : i < ks.length, e = (.int .i64 ks[i], .agg [], i) := by
 rw [ents, List.mem_mapIdx]
 constructor
 . rintro ⟨i, h, rfl⟩; exact ⟨i, h, rfl⟩
 . rintro ⟨i, h, rfl⟩; exact ⟨i, h, rfl⟩
theorem b3u (ks : List Int) : nle (ents ks) = true := by
 unfold nle
 rw [List.all_eq_true]
 intro e he
 obtain ⟨i, h, rfl⟩ := a8g.1 he
 rfl
theorem a2h (U : FM.Loc -> Prop) (ks : List Int) : nine U (ents ks) := by
 have key : ∀ (es : List (FV × FV × Nat)), (∀ e ∈ es, ∃ k n, e = (.int .i64 k, .agg [], n)) -> nine U es := by
  intro es
  induction es with
  | nil => intro _; trivial
  | cons e es ih =>
    intro h
    obtain ⟨k, n, rfl⟩ := h e (by simp)
    exact ⟨⟨trivial, trivial⟩, ih fun e he => h e (by simp [he])⟩
 refine key _ fun e he => ?_
 obtain ⟨i, h, rfl⟩ := a8g.1 he
 exact ⟨_, _, rfl⟩
theorem c9z {ks : List Int} {i : Nat} (h : i < ks.length) : (ents ks).find? (fun e => e.2.2 == i) = some (.int .i64 ks[i], .agg [], i) := by
 rw [List.find?_eq_some_iff_getElem]
 refine ⟨by simp, i, by rw [e0t]; exact h, by simp [ents], fun j hj => ?_⟩
 simp only [ents, List.getElem_mapIdx]
 simp; omega
theorem eqK3 (a b : Int) : eqK Tryz.prog 3 (.int .i64 a) (.int .i64 b) = some (decide (a = b)) := by
 simp [eqK, b7u, FV.kd, eqV]
theorem c1i (o : Int) : ∀ (ks : List Int) (g : Nat -> Nat) (i : Nat), ∃ r, a8i Tryz.prog 3 (.int .i64 o) (ks.mapIdx fun j k => (FV.int .i64 k, FV.agg [], g j)) i = some r /\ (if o ∈ ks then ∃ n, r = some (n, .agg []) else r = none)
 | [], _, _ => ⟨none, rfl, by simp⟩
 | k :: ks, g, i => by
   obtain ⟨r, h1, h2⟩ := c1i o ks (fun j => g (j + 1)) (i + 1)
   rw [List.mapIdx_cons]
   simp only [a8i, eqK3]
   by_cases e : o = k
   . subst e
     exact ⟨_, by simp only [decide_true]; rfl, by simp⟩
   . refine ⟨r, by simp only [e, decide_false]; exact h1, ?_⟩
     simp only [List.mem_cons, e, false_or]
     exact h2
theorem e0g {ks : List Int} {o : Int} (h : o ∈ ks) : ∃ n, a8i Tryz.prog 3 (.int .i64 o) (ents ks) 0 = some (some (n, .agg [])) := by
 obtain ⟨r, h1, h2⟩ := c1i o ks (fun j => j) 0
 rw [if_pos h] at h2
 obtain ⟨n, rfl⟩ := h2
 exact ⟨n, h1⟩
theorem d5a {ks : List Int} {o : Int} (h : o ∉ ks) : a8i Tryz.prog 3 (.int .i64 o) (ents ks) 0 = some none := by
 obtain ⟨r, h1, h2⟩ := c1i o ks (fun j => j) 0
 rw [if_neg h] at h2
 subst h2
 exact h1
theorem d9d {H : Heap} {l : FM.Loc} {ks : List Int} (h : H l = some (mapO ks)) (o : Int) : b4c Tryz.prog H 54 (.mp l) (.int .i64 o) true = some (.tup [.agg [], .bool (decide (o ∈ ks))]) := by
 have hk : a9p Tryz.prog 3 (.int .i64 o) = true := by simp [a9p, b7u]
 simp only [b4c, b6i, hk, if_true, h, mapO]
 by_cases e : o ∈ ks
 . obtain ⟨n, hn⟩ := e0g e
   simp only [hn, e, if_true, decide_true]
 . simp only [d5a e, d0a, Option.map_some, e, if_true, decide_false]
theorem c4l {H : Heap} {l : FM.Loc} {ks : List Int} (h : H l = some (mapO ks)) {o : Int} (ho : o ∉ ks) : b0g Tryz.prog H 54 (.mp l) (.int .i64 o) (.agg []) = some ([(l, mapO (ks ++ [o]))], .undef) := by
 have hk : a9p Tryz.prog 3 (.int .i64 o) = true := by simp [a9p, b7u]
 simp only [b0g, b6i, h, mapO, hk, if_true, d5a ho, d5o, List.length_append, List.length_singleton]
def sitE (l : List (Int × Int)) : List (FV × FV × Nat) := (l.drop 1).mapIdx fun i s => (.agg [.int .i64 s.1, .int .i64 s.2], .int .i64 ((i : Int) + 1), i)
theorem c2k (U : FM.Loc -> Prop) (l : List (Int × Int)) : nine U (sitE l) := by
 have key : ∀ (es : List (FV × FV × Nat)), (∀ e ∈ es, ∃ a b k n, e = (.agg [.int .i64 a, .int .i64 b], .int .i64 k, n)) -> nine U es := by
  intro es
  induction es with
  | nil => intro _; trivial
  | cons e es ih =>
    intro h
    obtain ⟨a, b, k, n, rfl⟩ := h e (by simp)
    exact ⟨⟨⟨trivial, trivial, trivial⟩, trivial⟩, ih fun e he => h e (by simp [he])⟩
 refine key _ fun e he => ?_
 rw [sitE, List.mem_mapIdx] at he
 obtain ⟨i, h, rfl⟩ := he
 exact ⟨_, _, _, _, rfl⟩
def rowR (L : List (List (List Int))) : List (List FV) := L.mapIdx fun f r => [.sl [83, f] 1 0 r.length]
def rowM (f : Nat) (r : List (List Int)) : List (List FV) := r.mapIdx fun i _ => [.mp [85, f, i]]
def rowC (r : List (List Int)) : List (List FV) := r.mapIdx fun i _ => [.mp [86, i]]
def anR (p : Pg) : List FV := [.list 4 (fns p.funcs), .list 2 (gbs p.globals), .list 1 (lays p.layouts), .int .i64 p.main, .list 2 (sits (a0i p)), .mp [87], .sl [82] 1 0 p.funcs.length, .sl [84] 1 0 (a0i p).length]
def MF (p : Pg) (y : Pts) (b : Bool) : Heap := fun l => match l with
 | [81] => some (.cells 67 8 [anR p])
 | [82] => some (.cells 65 1 (rowR y.regs))
 | [83, f] => (y.regs[f]?).map fun r => .cells 54 1 (rowM f r)
 | [84] => some (.cells 54 1 (rowC y.cells))
 | [85, f, i] => ((y.regs[f]?).bind (·[i]?)).map mapO
 | [86, o] => (y.cells[o]?).map mapO
 | [87] => some (.map (sitE (a0i p)) ((a0i p).length - 1))
 | [88] => some (.cells 4 1 [[.bool b]])
 | _ => none
theorem a1j (L : List (List (List Int))) : (rowR L).length = L.length := by simp [rowR]
theorem a0y (f : Nat) (r : List (List Int)) : (rowM f r).length = r.length := by simp [rowM]
theorem a0z (r : List (List Int)) : (rowC r).length = r.length := by simp [rowC]
theorem a2k {L : List (List (List Int))} {f : Nat} (h : f < (rowR L).length) : (rowR L)[f] = [.sl [83, f] 1 0 (L[f]'(by rwa [a1j] at h)).length] := by simp [rowR]
theorem a2l {g : Nat} {r : List (List Int)} {f : Nat} (h : f < (rowM g r).length) : (rowM g r)[f] = [.mp [85, g, f]] := by simp [rowM]
theorem a2m {r : List (List Int)} {f : Nat} (h : f < (rowC r).length) : (rowC r)[f] = [.mp [86, f]] := by simp [rowC]
theorem c9q (f : Nat) {r s : List (List Int)} (h : r.length = s.length) : rowM f r = rowM f s := by
 refine List.ext_getElem (by simp [a0y, h]) fun i h1 h2 => by rw [a2l h1, a2l h2]
theorem c9r {r s : List (List Int)} (h : r.length = s.length) : rowC r = rowC s := by
 refine List.ext_getElem (by simp [a0z, h]) fun i h1 h2 => by rw [a2m h1, a2m h2]
theorem c9o {L L' : List (List (List Int))} (h : L.length = L'.length) (h' : ∀ f (h1 : f < L.length) (h2 : f < L'.length), L[f].length = L'[f].length) : rowR L = rowR L' := by
 refine List.ext_getElem (by simp [a1j, h]) fun f h1 h2 => ?_
 rw [a2k h1, a2k h2, h' f (by rwa [a1j] at h1) (by rwa [a1j] at h2)]
theorem a2b (p : Pg) (y : Pts) (b : Bool) (k : Nat) (r : List Nat) (hk : k <= 20) : MF p y b (k :: r) = none := by
 unfold MF
 split <;> first | rfl | (rename_i h; simp at h; omega)
theorem e8t (p : Pg) (y : Pts) (b : Bool) : MF p y b [81] = some (.cells 67 8 [anR p]) := id (Eq.refl _)
theorem d6u (p : Pg) (y : Pts) (b : Bool) : MF p y b [82] = some (.cells 65 1 (rowR y.regs)) := id (Eq.refl _)
theorem e1l (p : Pg) (y : Pts) (b : Bool) (f : Nat) : MF p y b [83, f] = (y.regs[f]?).map fun r => .cells 54 1 (rowM f r) := id (Eq.refl _)
theorem d6t (p : Pg) (y : Pts) (b : Bool) : MF p y b [84] = some (.cells 54 1 (rowC y.cells)) := id (Eq.refl _)
theorem e1k (p : Pg) (y : Pts) (b : Bool) (f i : Nat) : MF p y b [85, f, i] = ((y.regs[f]?).bind (·[i]?)).map mapO := id (Eq.refl _)
theorem e1j (p : Pg) (y : Pts) (b : Bool) (o : Nat) : MF p y b [86, o] = (y.cells[o]?).map mapO := id (Eq.refl _)
theorem e1i (p : Pg) (y : Pts) (b : Bool) : MF p y b [87] = some (.map (sitE (a0i p)) ((a0i p).length - 1)) := id (Eq.refl _)
theorem f6y (p : Pg) (y : Pts) (b : Bool) : MF p y b [88] = some (.cells 4 1 [[.bool b]]) := id (Eq.refl _)
def _root_.Go.Gv.SL.loc : SL -> FM.Loc
 | .r f a => [85, f, a]
 | .c o => [86, o]
section
variable {L : List (FM.Loc × FO)} {B : Heap} {p : Pg} {y : Pts} {b : Bool}
theorem a3w : HP L B (MF p y b) [81] = some (.cells 67 8 [anR p]) := a9f (e8t p y b)
theorem a6q : HP L B (MF p y b) [82] = some (.cells 65 1 (rowR y.regs)) := a9f (d6u p y b)
theorem a4k {f : Nat} (h : f < y.regs.length) : HP L B (MF p y b) [83, f] = some (.cells 54 1 (rowM f y.regs[f])) := a9f (by rw [e1l, List.getElem?_eq_getElem h]; rfl)
theorem a6p : HP L B (MF p y b) [84] = some (.cells 54 1 (rowC y.cells)) := a9f (d6t p y b)
theorem b0x : HP L B (MF p y b) [87] = some (.map (sitE (a0i p)) ((a0i p).length - 1)) := a9f (e1i p y b)
theorem d0l : HP L B (MF p y b) [88] = some (.cells 4 1 [[.bool b]]) := a9f (f6y p y b)
theorem d6s {t : SL} (ht : t.ok y) : MF p y b t.loc = some (mapO (getS y t)) := by
 cases t with
 | r f a =>
   obtain ⟨h1, h2⟩ := ht
   rw [List.getD_eq_getElem?_getD, List.getElem?_eq_getElem h1, Option.getD_some] at h2
   show MF p y b [85, f, a] = some (mapO (rg y f (a : Int)))
   rw [e1k, List.getElem?_eq_getElem h1, Option.bind_some, List.getElem?_eq_getElem h2, Option.map_some]
   simp [rg, List.getD_eq_getElem?_getD, h1, h2]
 | c o =>
   have ht : o < y.cells.length := ht
   show MF p y b [86, o] = some (mapO (cl y (o : Int)))
   rw [e1j, List.getElem?_eq_getElem ht, Option.map_some]
   simp [cl, List.getD_eq_getElem?_getD, ht]
theorem a6u {t : SL} (ht : t.ok y) : HP L B (MF p y b) t.loc = some (mapO (getS y t)) := a9f (d6s ht)
theorem b1c {f i : Nat} (h : f < y.regs.length) (h' : i < y.regs[f].length) : HP L B (MF p y b) [85, f, i] = some (mapO y.regs[f][i]) := a9f (by rw [e1k, List.getElem?_eq_getElem h, Option.bind_some, List.getElem?_eq_getElem h']; rfl)
theorem b1b {o : Nat} (h : o < y.cells.length) : HP L B (MF p y b) [86, o] = some (mapO y.cells[o]) := a9f (by rw [e1j, List.getElem?_eq_getElem h]; rfl)
theorem c5l {A A' : Heap} {l : FM.Loc} {ob : FO} (h : A' l = some ob) (he : ∀ k, k ≠ l -> A' k = A k) : upd (HP L B A) l ob = HP L B A' := by
 funext k
 unfold HP
 by_cases e : k = l
 . subst e; rw [b2x h]; simp [upd]
 . simp only [upd, e, if_false]
   rw [a3y, a3y, he k e]
theorem e3w (b' : Bool) : upd (HP L B (MF p y b)) [88] (.cells 4 1 [[.bool b']]) = HP L B (MF p y b') :=
 c5l (f6y p y b') fun k hk => by
  unfold MF
  split <;> first | rfl | exact absurd rfl hk
theorem d6x {t : SL} (ht : t.ok y) (ks : List Int) : upd (HP L B (MF p y b)) t.loc (mapO ks) = HP L B (MF p (setS y t ks) b) := by
 have ht' : t.ok (setS y t ks) := by
  cases t with
  | r f a =>
    obtain ⟨h1, h2⟩ := ht
    refine ⟨by simpa [setS, setR] using h1, ?_⟩
    simp only [setS, setR, a6k]
    simp only [true_and, h1, if_true, List.length_set]; exact h2
  | c o => show o < _; simpa [setS, setC] using (show o < y.cells.length from ht)
 refine c5l (by rw [d6s ht', b2l ht, if_pos rfl]) fun k hk => ?_
 cases t with
 | r f a =>
   obtain ⟨h1, h2⟩ := ht
   rw [List.getD_eq_getElem?_getD, List.getElem?_eq_getElem h1, Option.getD_some] at h2
   have hk : k ≠ [85, f, a] := hk
   have hlen : (y.regs.set f ((y.regs.getD f []).set a ks)).length = y.regs.length := by simp
   have hrow : rowR (y.regs.set f ((y.regs.getD f []).set a ks)) = rowR y.regs := c9o (by simp) fun g h3 h4 => by
    rw [List.getElem_set]
    split
    . rename_i e; subst e; simp [List.getD_eq_getElem?_getD, h1]
    . rfl
   unfold MF
   simp only [setS, setR, Int.toNat_natCast]
   split
   . rfl
   . rw [hrow]
   . rename_i g
     rw [List.getElem?_set]
     split
     . rename_i e; subst e
       simp only [h1, if_true, List.getElem?_eq_getElem h1, Option.map_some]
       rw [c9q f (s := y.regs[f]) (by simp [List.getD_eq_getElem?_getD, h1])]
     . rfl
   . rfl
   . rename_i g i _
     rw [List.getElem?_set]
     split
     . rename_i e; subst e
       have : i ≠ a := fun e' => hk (by rw [e'])
       simp only [h1, if_true, List.getElem?_eq_getElem h1, Option.bind_some, List.getD_eq_getElem?_getD, Option.getD_some, List.getElem?_set_ne (Ne.symm this)]
     . rfl
   . rfl
   . rfl
   . rfl
   . rfl
 | c o =>
   have hk : k ≠ [86, o] := hk
   have hrow : rowC (y.cells.set o ks) = rowC y.cells := c9r (by simp)
   unfold MF
   simp only [setS, setC, Int.toNat_natCast]
   split
   . rfl
   . rfl
   . rfl
   . rw [hrow]
   . rfl
   . rename_i q _
     have : q ≠ o := fun e' => hk (by rw [e'])
     rw [List.getElem?_set_ne (Ne.symm this)]
   . rfl
   . rfl
   . rfl
end
theorem f6g {p : Pg} {y : Pts} (hy : Shp p y) (b : Bool) {B : Heap} (hB : ∀ l o, B l = some o -> ninO (fun l => ext B (MF p y b) l ≠ none) o) : Clo (ext B (MF p y b)) := fun l o hl => by
 rw [a3y] at hl
 have up : ∀ k, MF p y b k ≠ none -> ext B (MF p y b) k ≠ none := fun k hk => by
  obtain ⟨o', ho'⟩ := Option.ne_none_iff_exists'.1 hk
  rw [b2x ho']; simp
 cases e : MF p y b l with
 | none => rw [e] at hl; exact hB l o hl
 | some o' =>
   rw [e] at hl
   obtain rfl := Option.some.inj hl
   have key : ∀ (U : FM.Loc -> Prop) (xs : List (List FV)), (∀ r ∈ xs, nins U r) -> a3p U xs := by
    intro U xs
    induction xs with
    | nil => intro _; trivial
    | cons r xs ih => intro h; exact ⟨h r (by simp), ih fun r hr => h r (by simp [hr])⟩
   unfold MF at e
   split at e
   . obtain rfl := Option.some.inj e
     refine ⟨⟨a0f _, a0h _, a0a _, trivial, a1g _, up _ (by rw [e1i]; simp), up _ (by rw [d6u]; simp), up _ (by rw [d6t]; simp), trivial⟩, trivial⟩
   . obtain rfl := Option.some.inj e
     refine key _ _ fun r hr => ?_
     obtain ⟨i, hi, rfl⟩ := List.getElem_of_mem hr
     rw [a2k hi]
     rw [a1j] at hi
     exact ⟨up _ (by rw [e1l, List.getElem?_eq_getElem hi]; simp), trivial⟩
   . rename_i f
     rw [Option.map_eq_some_iff] at e
     obtain ⟨r, hr, rfl⟩ := e
     refine key _ _ fun q hq => ?_
     obtain ⟨i, hi, rfl⟩ := List.getElem_of_mem hq
     rw [a2l hi]
     rw [a0y] at hi
     exact ⟨up _ (by rw [e1k, hr, Option.bind_some, List.getElem?_eq_getElem hi]; simp), trivial⟩
   . obtain rfl := Option.some.inj e
     refine key _ _ fun q hq => ?_
     obtain ⟨i, hi, rfl⟩ := List.getElem_of_mem hq
     rw [a2m hi]
     rw [a0z] at hi
     exact ⟨up _ (by rw [e1j, List.getElem?_eq_getElem hi]; simp), trivial⟩
   . rw [Option.map_eq_some_iff] at e
     obtain ⟨r, hr, rfl⟩ := e
     exact a2h _ _
   . rw [Option.map_eq_some_iff] at e
     obtain ⟨r, hr, rfl⟩ := e
     exact a2h _ _
   . obtain rfl := Option.some.inj e
     exact c2k _ _
   . obtain rfl := Option.some.inj e
     exact ⟨⟨trivial, trivial⟩, trivial⟩
   . cases e
theorem c8w {p : Pg} {y y' : Pts} (hy : Shp p y) (hy' : Shp p y') (b b' : Bool) (l : FM.Loc) (h : MF p y b l ≠ none) : MF p y' b' l ≠ none := by
 have hr : y'.regs.length = y.regs.length := hy'.rn.trans hy.rn.symm
 have hc : y'.cells.length = y.cells.length := hy'.cn.trans hy.cn.symm
 have hf : ∀ f (h1 : f < y.regs.length) (h2 : f < y'.regs.length), y'.regs[f].length = y.regs[f].length := fun f h1 h2 => by
  have e1 := hy.fn f h1 (by rw [<- hy.rn]; exact h1)
  have e2 := hy'.fn f h2 (by rw [<- hy.rn]; exact h1)
  omega
 unfold MF at h ⊢
 split <;> first | simp | skip
 . rename_i f
   by_cases h1 : f < y.regs.length
   . rw [hr]; exact h1
   . exfalso; apply h; simp only [List.getElem?_eq_none (Nat.le_of_not_lt h1), Option.map_none]
 . rename_i f i
   by_cases h1 : f < y.regs.length
   . have h2 : f < y'.regs.length := by omega
     by_cases h3 : i < y.regs[f].length
     . have h4 : i < y'.regs[f].length := by rw [hf f h1 h2]; exact h3
       simp [List.getElem?_eq_getElem h2, h4]
     . exfalso; apply h; simp only [List.getElem?_eq_getElem h1, Option.bind_some, List.getElem?_eq_none (Nat.le_of_not_lt h3), Option.map_none]
   . exfalso; apply h; simp only [List.getElem?_eq_none (Nat.le_of_not_lt h1), Option.bind_none, Option.map_none]
 . rename_i o
   by_cases h1 : o < y.cells.length
   . rw [hc]; exact h1
   . exfalso; apply h; simp only [List.getElem?_eq_none (Nat.le_of_not_lt h1), Option.map_none]
 . rename_i h1 h2 h3 h4 h5 h6 h7 h8
   split at h
   . exact absurd rfl h1
   . exact absurd rfl h2
   . exact absurd rfl (h3 _)
   . exact absurd rfl h4
   . exact absurd rfl (h5 _ _)
   . exact absurd rfl (h6 _)
   . exact absurd rfl h7
   . exact absurd rfl h8
   . exact h rfl
abbrev BsM (p : Pg) (j : Nat) (B : Heap) : Prop := ∀ y b y' b', Shp p y -> Shp p y' -> Bs (inH (HP [] B (MF p y b))) j B (MF p y' b')
theorem bsM0 (p : Pg) (j : Nat) (hj : j <= 20) : BsM p j noH := fun y b y' b' hy hy' =>
 ⟨fun _ _ _ => rfl, fun k r hk => a2b p y' b' k r (by omega), f6g hy' b' fun _ _ h => (by cases h), fun l hl hn => by
  have hl : HP [] noH (MF p y b) l ≠ none := hl
  rw [a3k] at hn
  refine hl (a5c.2 ⟨?_, rfl⟩)
  cases e : MF p y b l with
  | none => rfl
  | some o => exact absurd hn.1 (c8w hy hy' b b' l (by simp [e]))⟩
theorem BsM.call {p : Pg} {j : Nat} {B : Heap} {L : List (FM.Loc × FO)} (i : Nat) (hB : BsM p j B) (hi : i < j) {y : Pts} {b : Bool} (hy : Shp p y) (hl : hdN j (L.map Prod.fst) = true) (ho : ninL (inH (HP L B (MF p y b))) L) : BsM p i (updL L B) := fun y1 b1 y2 b2 h1 h2 => by
 have hup : ∀ y' b', Shp p y' -> ∀ q, HP L B (MF p y b) q ≠ none -> HP L B (MF p y' b') q ≠ none := fun y' b' hy' q hq hn => by
  rw [a5c] at hn
  refine hq (a5c.2 ⟨?_, hn.2⟩)
  cases e : MF p y b q with
  | none => rfl
  | some o => exact absurd hn.1 (c8w hy hy' b b' q (by simp [e]))
 have key := Bs.call (A := MF p y1 b1) (L := L) i (hB y1 b1 y2 b2 h1 h2) hi hl (by
  have : ∀ {L' : List (FM.Loc × FO)}, ninL (inH (HP L B (MF p y b))) L' -> ninL (fun l => HP L B (MF p y2 b2) l ≠ none) L' := by
   intro L'
   induction L' with
   | nil => intro _; trivial
   | cons q r ih => intro h; exact ⟨a5x (fun l hl => hup y2 b2 h2 l hl) h.1, ih h.2⟩
  exact this ho) fun l hl => c8w h1 h2 b1 b2 l hl
 exact key
end Go.Ge
namespace Go.Ge
open Go Go.FM Go.RowKit Go.Proofs Go.Shelf Go.Maps
set_option maxRecDepth 100000
set_option maxHeartbeats 40000000
def sR : Ren := ⟨fun n => match n with | 189 => 54 | 125 => 73 | 128 => 96 | 129 => 97 | 215 => 114 | 216 => 93 | 257 => 72 | 294 => 87 | 295 => 88 | 296 => 89 | 297 => 90 | 298 => 91 | 299 => 92 | 300 => 94 | 301 => 95 | 328 => 109 | 329 => 110 | 330 => 111 | 331 => 112 | 332 => 113 | 343 => 119 | _ => 0, fun n => match n with | 9 => 9 | 3 => 3 | 46 => 106 | 0 => 0 | 51 => 131 | 53 => 133 | 4 => 4 | 183 => 123 | 182 => 122 | 131 => 128 | 5 => 5 | 218 => 143 | 222 => 147 | 228 => 152 | 229 => 153 | 28 => 42 | _ => 0, fun _ => 0⟩
theorem sL : Lays.n189 Tryz.prog sR where
 mixed := by kernel_rfl
 f125 := by kernel_rfl
 f128 := by kernel_rfl
 f129 := by kernel_rfl
 f189 := by kernel_rfl
 f215 := by kernel_rfl
 f216 := by kernel_rfl
 f257 := by kernel_rfl
 f294 := by kernel_rfl
 f295 := by kernel_rfl
 f296 := by kernel_rfl
 f297 := by kernel_rfl
 f298 := by kernel_rfl
 f299 := by kernel_rfl
 f300 := by kernel_rfl
 f301 := by kernel_rfl
 f328 := by kernel_rfl
 f329 := by kernel_rfl
 f330 := by kernel_rfl
 f331 := by kernel_rfl
 f332 := by kernel_rfl
 f343 := by kernel_rfl
 t0 := by kernel_rfl
 a0 := fun w => by kernel_rfl
 z0 := fun w => by kernel_rfl
 v0 := fun w => by kernel_rfl
 t3 := by kernel_rfl
 a3 := fun w => by kernel_rfl
 z3 := fun w => by kernel_rfl
 v3 := fun w => by kernel_rfl
 t4 := by kernel_rfl
 a4 := fun w => by kernel_rfl
 z4 := fun w => by kernel_rfl
 v4 := fun w => by kernel_rfl
 t5 := by kernel_rfl
 a5 := fun w => by kernel_rfl
 z5 := fun w => by kernel_rfl
 v5 := fun w => by kernel_rfl
 t9 := by kernel_rfl
 a9 := fun w => by kernel_rfl
 z9 := fun w => by kernel_rfl
 v9 := fun w => by kernel_rfl
 t28 := by kernel_rfl
 a28 := fun w => by kernel_rfl
 z28 := fun w => by kernel_rfl
 v28 := fun w => by kernel_rfl
 t46 := by kernel_rfl
 a46 := fun w => by kernel_rfl
 z46 := fun w => by kernel_rfl
 v46 := fun w => by kernel_rfl
 t51 := by kernel_rfl
 a51 := fun w => by kernel_rfl
 z51 := fun w => by kernel_rfl
 v51 := fun w => by kernel_rfl
 t53 := by kernel_rfl
 a53 := fun w => by kernel_rfl
 z53 := fun w => by kernel_rfl
 v53 := fun w => by kernel_rfl
 t131 := by kernel_rfl
 a131 := fun w => by kernel_rfl
 z131 := fun w => by kernel_rfl
 v131 := fun w => by kernel_rfl
 t182 := by kernel_rfl
 a182 := fun w => by kernel_rfl
 z182 := fun w => by kernel_rfl
 v182 := fun w => by kernel_rfl
 t183 := by kernel_rfl
 a183 := fun w => by kernel_rfl
 z183 := fun w => by kernel_rfl
 v183 := fun w => by kernel_rfl
 t218 := by kernel_rfl
 a218 := fun w => by kernel_rfl
 z218 := fun w => by kernel_rfl
 v218 := fun w => by kernel_rfl
 t222 := by kernel_rfl
 a222 := fun w => by kernel_rfl
 z222 := fun w => by kernel_rfl
 v222 := fun w => by kernel_rfl
 t228 := by kernel_rfl
 a228 := fun w => by kernel_rfl
 z228 := fun w => by kernel_rfl
 v228 := fun w => by kernel_rfl
 t229 := by kernel_rfl
 a229 := fun w => by kernel_rfl
 z229 := fun w => by kernel_rfl
 v229 := fun w => by kernel_rfl
def kR6 : Ren := ⟨fun n => match n with | 10 => 53 | 11 => 52 | 8 => 29 | 6 => 32 | 9 => 54 | _ => 0, kR.t, fun _ => 0⟩
theorem kL8 : SlLaysZI.n8 Tryz.prog kR6 where
 mixed := by kernel_rfl
 f8 :=⟨ "slices.Collect[int]", by decide, by kernel_rfl⟩
 f11 :=⟨ "slices.AppendSeq[[]int,int]", by decide, by kernel_rfl⟩
 t0 := by kernel_rfl
 a0 := fun w => by kernel_rfl
 z0 := fun w => by kernel_rfl
 v0 := fun w => by kernel_rfl
 t24 := by kernel_rfl
 a24 := fun w => by kernel_rfl
 z24 := fun w => by kernel_rfl
 v24 := fun w => by kernel_rfl
 t26 := by kernel_rfl
 a26 := fun w => by kernel_rfl
 z26 := fun w => by kernel_rfl
 v26 := fun w => by kernel_rfl
 t28 := by kernel_rfl
 a28 := fun w => by kernel_rfl
 z28 := fun w => by kernel_rfl
 v28 := fun w => by kernel_rfl
 i26 := by kernel_rfl
theorem kL6 : SlLaysZI.n6 Tryz.prog kR6 where
 mixed := by kernel_rfl
 f6 :=⟨ "slices.Sorted[int]", by decide, by kernel_rfl⟩
 f8 :=⟨ "slices.Collect[int]", by decide, by kernel_rfl⟩
 f11 :=⟨ "slices.AppendSeq[[]int,int]", by decide, by kernel_rfl⟩
 t0 := by kernel_rfl
 a0 := fun w => by kernel_rfl
 z0 := fun w => by kernel_rfl
 v0 := fun w => by kernel_rfl
 t24 := by kernel_rfl
 a24 := fun w => by kernel_rfl
 z24 := fun w => by kernel_rfl
 v24 := fun w => by kernel_rfl
 t26 := by kernel_rfl
 a26 := fun w => by kernel_rfl
 z26 := fun w => by kernel_rfl
 v26 := fun w => by kernel_rfl
 t28 := by kernel_rfl
 a28 := fun w => by kernel_rfl
 z28 := fun w => by kernel_rfl
 v28 := fun w => by kernel_rfl
 i26 := by kernel_rfl
theorem g2f : SlLaysZI.n10 Tryz.prog kR6 where
 mixed := by kernel_rfl
 f10 := ⟨Tryz.f53.name, by kernel_rfl, by kernel_rfl⟩
 t0 := by kernel_rfl
 a0 := fun w => by kernel_rfl
 z0 := fun w => by kernel_rfl
 v0 := fun w => by kernel_rfl
 t4 := by kernel_rfl
 a4 := fun w => by kernel_rfl
 z4 := fun w => by kernel_rfl
 v4 := fun w => by kernel_rfl
 t23 := by kernel_rfl
 a23 := fun w => by kernel_rfl
 z23 := fun w => by kernel_rfl
 v23 := fun w => by kernel_rfl
 t26 := by kernel_rfl
 a26 := fun w => by kernel_rfl
 z26 := fun w => by kernel_rfl
 v26 := fun w => by kernel_rfl
 t33 := by kernel_rfl
 a33 := fun w => by kernel_rfl
 z33 := fun w => by kernel_rfl
 v33 := fun w => by kernel_rfl
end Go.Ge
namespace Go.Ge
open Go Go.FM Go.RowKit Go.Proofs Go.Shelf Go.Maps Go.Sort
set_option maxRecDepth 100000
set_option maxHeartbeats 40000000
theorem b7k {H : Type} (x : Lit × DataW H) : ∀ l : List (Lit × DataW H), (DataW.insert x l).Perm (x :: l)
 | [] => List.Perm.refl _
 | y :: r => by
   unfold DataW.insert
   split
   . exact List.Perm.refl _
   . exact ((b7k x r).cons y).trans (List.Perm.swap x y r)
theorem b4w {H : Type} : ∀ l : List (Lit × DataW H), (l.foldr DataW.insert []).Perm l
 | [] => List.Perm.refl _
 | x :: r => (b7k x _).trans ((b4w r).cons x)
theorem d2m {w : World} {F : Nat -> Prop} {U : FM.Loc -> Prop} {m : FM.Loc -> Nat × Nat} : ∀ {es : List (FV × FV × Nat)} {xs : List MapEntry}, REs w F U m es xs -> ∀ (g : Nat -> Nat) (ks : List Int), es = ks.mapIdx (fun i k => (FV.int .i64 k, FV.agg [], g i)) -> xs.map (·.key) = ks.map encZ /\ xs.map (·.born) = ks.mapIdx fun i _ => g i
 | _, _, .nil, g, ks, h => by
   cases ks with
   | nil => exact ⟨rfl, rfl⟩
   | cons k ks => simp [List.mapIdx_cons] at h
 | _, _, .cons e x es xs h1 hs, g, ks, h => by
   cases ks with
   | nil => simp at h
   | cons k ks =>
     rw [List.mapIdx_cons, List.cons.injEq] at h
     obtain ⟨rfl, h⟩ := h
     have ih := d2m hs (fun i => g (i + 1)) ks h
     have hk : x.key = .int .i64 k := by have := h1.key; generalize x.key = y at this; cases this; rfl
     have hb : x.born = g 0 := h1.born
     rw [List.mapIdx_cons, List.map_cons, List.map_cons, List.map_cons, ih.1, ih.2, hk, hb]
     exact ⟨rfl, rfl⟩
theorem c2u (ks : List Int) : (ks.mapIdx fun i _ => i) = List.range ks.length := by
 refine List.ext_getElem (by simp) fun i h1 h2 => by simp
theorem e5p {w : World} {F : Nat -> Prop} {m : FM.Loc -> Nat × Nat} {H : Heap} {k : FM.Loc} {ks : List Int} (hO : OR w F H m k (mapO ks)) (hnd : ks.Nodup) (hb : ∀ x ∈ ks, 0 <= x /\ x < 1000000000) (hl : ks.length <= 1000000000) :
 ∃ D0, w.ownsMap Tryz.prog 3 noR (m k).1 ks.length D0 /\ (intKeys D0).Perm ks /\ Maps.size D0 = ks.length := by
 obtain ⟨_, ar, h1, h2⟩ := hO
 obtain ⟨e1, e2⟩ := d2m h2 (fun i => i) ks rfl
 rw [c2u] at e2
 have hsz : ar.toList.length = ks.length := by have := congrArg List.length e1; simpa using this
 have hrd : ∀ x ∈ ar.toList, ∃ a, a ∈ ks /\ x.key = .int .i64 a /\ Go.WideElems.rd Tryz.prog 3 noR x = some (.int .i64 a, .nil) := fun x hx => by
  have : x.key ∈ ks.map encZ := by rw [<- e1]; exact List.mem_map_of_mem hx
  obtain ⟨a, ha, hk⟩ := List.mem_map.1 this
  have hw : (Lit.int .i64 a).wf = true := by
   have := hb a ha
   have h1 : IntKind.i64.min = -9223372036854775808 := by decide
   have h2 : IntKind.i64.max = 9223372036854775807 := by decide
   simp [Lit.wf, h1, h2]
   omega
  have hk' : x.key = .int .i64 a := hk.symm
  refine ⟨a, ha, hk', ?_⟩
  have : keyOf Tryz.prog 3 x.key = some (.int .i64 a) := by rw [hk']; exact keyOf_int_mk kL10.t26 hw
  simp [Go.WideElems.rd, this, noR]
 refine ⟨_, ⟨ar, _, h1, ⟨by rw [<- Array.length_toList, hsz]; exact Nat.le_trans hl (by decide), ⟨fun x hx => ?_, ?_, ?_⟩, fun x hx => ?_⟩, by rw [<- Array.length_toList, hsz]; exact Nat.le_refl _, rfl⟩, ?_, ?_⟩
 . have : x.born ∈ List.range ks.length := by rw [<- e2]; exact List.mem_map_of_mem hx
   exact List.mem_range.1 this
 . rw [e2]; exact List.nodup_range
 . rw [e1]; exact List.pairwise_map.2 (hnd.imp fun h e => h (encZ_inj e))
 . obtain ⟨a, _, _, h⟩ := hrd x hx; exact ⟨_, h⟩
 . show ((List.foldr DataW.insert [] _).map fun p => intOf p.1).Perm ks
   refine ((b4w _).map _).trans ?_
   rw [List.map_map]
   have : ar.toList.map ((fun p : Lit × DataW Unit => intOf p.1) ∘ Go.WideElems.rg Tryz.prog 3 noR) = ks := by
    have h3 : (ar.toList.map ((fun p : Lit × DataW Unit => intOf p.1) ∘ Go.WideElems.rg Tryz.prog 3 noR)).map encZ = ar.toList.map (·.key) := by
     rw [List.map_map]
     refine List.map_congr_left fun x hx => ?_
     obtain ⟨a, _, hk, h⟩ := hrd x hx
     simp [Go.WideElems.rg, h, intOf, hk]
    rw [e1] at h3
    exact (List.map_inj_right (fun _ _ => encZ_inj)).1 h3
   rw [this]
 . show (List.foldr DataW.insert [] _).length = ks.length
   rw [(b4w _).length_eq, List.length_map, hsz]
theorem c8x {P : Program} {G : List (Nat × List Value)} {f : FuncId} {A : List FV} {H : Heap} {S : List Int -> Prop} (h : ∀ (w : World) (F : Nat -> Prop) (m : FM.Loc -> Nat × Nat) (vs : List Value), (∀ b, F b -> b < w.heap.size) -> a9d G F w -> RFs w F (fun l => H l ≠ none) m A vs -> HeapR w F m H ->
 Calls P f vs.toArray w fun e w' => ∃ (v : Value) (ss : List Int), e = .returned v /\ S ss /\ w'.ownsRow w.heap.size 3 1 v ss.length (ss.map encZ) /\ (v = .slice none 0 0 ↔ ss = []) /\ Below w.heap.size w w') :
 FCr P G f A H (fun r H' => H' = H /\ ∃ ss, S ss /\ r = .list 1 (ints ss)) := by
 intro w F m vs hF hG hv hH
 refine (h w F m vs hF hG hv hH).mono ?_
 rintro e w' ⟨v, ss, rfl, hS, hrow, hnil, hb⟩
 rcases hrow.2 with ⟨rfl, hz⟩ | ⟨g, cap, cur, rfl, hg, hgc, hn, hmx, hcs, htk⟩
 . have hss : ss = [] := List.eq_nil_of_length_eq_zero hz
   subst hss
   exact ⟨.list 1 (ints []), H, _, F, m, ⟨rfl, [], hS, rfl⟩, rfl, fun _ h => h, fun y hy => ⟨.inl hy, Nat.lt_of_lt_of_le (hF y hy) hb.size⟩, fun l hl => ⟨rfl, hl⟩,
    .list 1 [] none 0 [] (by simp) (by simp) (by simp) .nil, hH.below hF hb, fun l hl => .inl ⟨l, hl, rfl⟩, hb.size, fun y hy _ => hb.block y hy, hb.os, hb.tape, hb.output⟩
 . have hgl : g < w'.heap.size := (Array.getElem?_eq_some_iff.1 hgc).1
   have hH2 := hH.below hF hb
   refine ⟨.list 1 (ints ss), H, _, fun b => F b \/ b = g, m, ⟨rfl, ss, hS, rfl⟩, rfl, fun _ h => .inl h, fun y hy => ?_, fun l hl => ⟨rfl, hl⟩, ?_, ⟨fun l o ho => (hH2.obj l o ho).keep (fun _ h => .inl h) (fun _ _ => rfl) (fun _ h => h) (fun _ _ => rfl) rfl (fun _ _ => rfl), hH2.inj, fun l hl => ⟨(hH2.old l hl).1, ?_⟩⟩, fun l hl => .inl ⟨l, hl, rfl⟩, hb.size, fun y hy _ => hb.block y hy, hb.os, hb.tape, hb.output⟩
   . rcases hy with hy | rfl
     . exact ⟨.inl hy, Nat.lt_of_lt_of_le (hF y hy) hb.size⟩
     . exact ⟨.inr hg, hgl⟩
   . have hl : (ints ss).length = ss.length := by simp [ints]
     have key : ∀ l : List Int, RFs w' (fun b => F b \/ b = g) (fun l => H l ≠ none) m (ints l).flatten (l.map encZ) := by
      intro l
      induction l with
      | nil => exact .nil
      | cons a l ih => exact .cons _ _ _ _ (.int _ _) ih
     have hcell : ∀ (j : Nat) (v : Value), (ss.map encZ)[j]? = some v -> w'.cell? ((⟨g, 0, none⟩ : Addr).add j) = some v := fun j v hv => by
      rw [add0, Nat.zero_add, a8j hgc]
      have hj : j < ss.length := by have := (List.getElem?_eq_some_iff.1 hv).1; simpa using this
      have h2 := congrArg (·[j]?) htk
      simp only [Nat.mul_one] at h2
      rw [List.getElem?_take, if_pos hj, hv] at h2
      simpa using h2
     have := RF.list (w := w') (F := fun b => F b \/ b = g) (U := fun l => H l ≠ none) (m := m) 1 (ints ss) (some ⟨g, 0, none⟩) cap (ss.map encZ) (fun x hx => by
      obtain ⟨a, _, rfl⟩ := List.mem_map.1 hx; rfl) (by rw [hl]; exact hn) (fun _ => ⟨_, rfl, .inr rfl, hcell⟩) (key ss)
     rwa [hl] at this
   . rintro (hf | e)
     . exact (hH2.old l hl).2 hf
     . have := (hH.old l (by
        obtain ⟨o, a1, a2, a3⟩ := hl; exact ⟨o, a1, a2, a3⟩)).1
       omega
section
variable {H : Heap} {l k : FM.Loc} {T : TypeId} {ks : List Int}
theorem c7i {w : World} {F : Nat -> Prop} {m : FM.Loc -> Nat × Nat} (hH : HeapR w F m H) (hl : H l = some (.cells T 1 [[.mp k]])) (hk : H k = some (mapO ks)) (hnd : ks.Nodup) (hb : ∀ x ∈ ks, 0 <= x /\ x < 1000000000) (hn : ks.length <= 1000000000) (d : Nat) (hd : 1 <= d) :
 SeqGives Fence.wide d Tryz.prog 53 #[.pointer (some ⟨(m l).1, 0, none⟩)] encZ (fun ss => ss.Perm ks) ks.length w := by
 obtain ⟨_, h0, c, ws, q1, q2, q3, q4, q5⟩ := d2d (i := 0) (x := [.mp k]) hH hl rfl
 obtain ⟨u, rfl, r⟩ := q4.single
 cases r
 have hcell : w.cell? ⟨(m l).1, 0, none⟩ = some (.map (some (m k).1)) := by
  rw [a8j q1]
  have := q5 0 (by omega)
  simpa using this.symm
 obtain ⟨D0, ho, hp, hs⟩ := e5p (hH.obj _ _ hk) hnd hb hn
 have h := AnyZI.keys_gives (ρ := kR6) g2f Fence.wide d trivial rfl hd (m l).1 (m k).1 _ D0 w (hH.old l ⟨_, hl, by simp, h0⟩).1 hcell ho
 rw [hs] at h
 exact fun l1 J W a1 a2 a3 a4 => (h l1 J W a1 a2 a3 a4).mono fun e w' ⟨h1, xs, h2, h3⟩ => ⟨h1, xs, h2.trans hp, h3⟩
theorem d1k (hl : H l = some (.cells T 1 [[.mp k]])) (hk : H k = some (mapO ks)) (hnd : ks.Nodup) (hb : ∀ x ∈ ks, 0 <= x /\ x < 1000000000) (hn : ks.length <= 1000000000) :
 FCr Tryz.prog Gl 29 [.clo 53 [] [.ptr l 1 0 0]] H (fun r H' => H' = H /\ ∃ ss, ss.Perm ks /\ r = .list 1 (ints ss)) := by
 refine c8x fun w F m vs hF hG hv hH => ?_
 obtain ⟨v, rfl, g⟩ := hv.single
 cases g with
 | clo _ _ _ us vs g1 g2 =>
 cases g1
 obtain ⟨v, rfl, g⟩ := g2.single
 cases g
 refine (callsIn_wide (n := 6)).1 ?_
 exact AnyZI.collect_in (ρ := kR6) kL8 Fence.wide 6 trivial trivial rfl (by omega) 53 _ trivial (enters_of (c := _) (show Tryz.prog.funcs[53]? = some Tryz.f53 by kernel_rfl) (by kernel_rfl) rfl) (fun ss => ss.Perm ks) ks.length (Nat.le_trans hn (by decide)) (by omega) w (c7i hH hl hk hnd hb hn _ (by omega))
theorem c9n (n : Nat) : AnyZI.SortsIn Tryz.prog kR6 Fence.wide n :=
 ⟨fun blk off cap ss W hH hblk hsz => callsIn_wide.2 (Any.slices_Sort_int sL blk off cap ss W hH hblk hsz),
  fun p cap W => callsIn_wide.2 (Any.slices_Sort_int_none sL p cap W)⟩
theorem b9r (hl : H l = some (.cells T 1 [[.mp k]])) (hk : H k = some (mapO ks)) (hnd : ks.Nodup) (hb : ∀ x ∈ ks, 0 <= x /\ x < 1000000000) (hn : ks.length <= 1000000000) :
 FC Tryz.prog Gl 32 [.clo 53 [] [.ptr l 1 0 0]] H (.list 1 (ints (Gv.srt ks))) H := by
 refine FCr.fc (FCr.mono (c8x (S := fun ss => ss = Gv.srt ks) fun w F m vs hF hG hv hH => ?_) fun r H' ⟨e, ss, e2, e3⟩ => ⟨by rw [e3, e2], e⟩)
 obtain ⟨v, rfl, g⟩ := hv.single
 cases g with
 | clo _ _ _ us vs g1 g2 =>
 cases g1
 obtain ⟨v, rfl, g⟩ := g2.single
 cases g
 refine (callsIn_wide (n := 6)).1 ?_
 refine (AnyZI.sorted_in (ρ := kR6) kL6 Fence.wide 6 trivial trivial trivial trivial rfl (by omega) (c9n _) (enters_of (c := _) (show Tryz.prog.funcs[54]? = some Tryz.f54 by kernel_rfl) (by kernel_rfl) rfl) 53 _ trivial (enters_of (c := _) (show Tryz.prog.funcs[53]? = some Tryz.f53 by kernel_rfl) (by kernel_rfl) rfl) (fun ss => ss.Perm ks) ks.length (Nat.le_trans hn (by decide)) (by omega) w (c7i hH hl hk hnd hb hn _ (by omega))).mono ?_
 rintro e w' ⟨v, ss, rfl, hp, hrow, hnil, hbl⟩
 have he : ss.mergeSort (fun x y => decide (x <= y)) = Gv.srt ks := mergeSort_of_perm_i hp
 have hlen : ss.length = (Gv.srt ks).length := by rw [hp.length_eq, Gv.b4i]
 refine ⟨v, Gv.srt ks, rfl, rfl, by rw [he, hlen] at hrow; exact hrow, ?_, hbl⟩
 rw [hnil]
 constructor
 . rintro rfl; exact List.eq_nil_of_length_eq_zero hlen.symm
 . intro e; exact List.eq_nil_of_length_eq_zero (by rw [hlen, e]; rfl)
end
end Go.Ge
