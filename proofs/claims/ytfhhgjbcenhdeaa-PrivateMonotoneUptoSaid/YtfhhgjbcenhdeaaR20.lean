/- Parts of the proof. -/
import Derived.Test.YtfhhgjbcenhdeaaR19
set_option linter.unusedSimpArgs false
set_option linter.unusedVariables false
namespace Go.He
open Go Go.FM Go.Gv Go.Proofs
set_option maxRecDepth 100000
set_option maxHeartbeats 40000000
open Classical in
noncomputable def c3s (x y : Pts) : Bool := decide (x = y)
theorem a9c {x y : Pts} (h : ¬ x = y) : c3s x y = false := by simpa [c3s] using h
theorem b6x {x y : Pts} (h : x = y) : c3s x y = true := by simpa [c3s] using h
def eqL {α : Type} (a b : List α) (i : Nat) : Prop := ∀ j (h1 : j < a.length) (h2 : j < b.length), j < i -> a[j] = b[j]
theorem d4i {α : Type} (a b : List α) : eqL a b 0 := fun _ _ _ h => absurd h (by omega)
theorem d4h {α : Type} {a b : List α} {i : Nat} (h : eqL a b i) (h1 : i < a.length) (h2 : i < b.length) (e : a[i] = b[i]) : eqL a b (i + 1) := fun j g1 g2 hj => by
 by_cases e' : j = i
 . subst e'; exact e
 . exact h j g1 g2 (by omega)
theorem b7x {α : Type} {a b : List α} (hl : a.length = b.length) (h : eqL a b a.length) : a = b := List.ext_getElem hl fun i h1 h2 => h i h1 h2 h1
theorem e5m {α : Type} {a b : List α} {i : Nat} (h1 : i < a.length) (h2 : i < b.length) (e : ¬ a[i] = b[i]) : ¬ a = b := fun h => by subst h; exact e rfl
theorem f1c {α : Type} {a b : List (List α)} {i j : Nat} (h1 : i < a.length) (h2 : i < b.length) (h3 : j < a[i].length) (h4 : j < b[i].length) (e : ¬ a[i][j] = b[i][j]) : ¬ a = b := fun h => by subst h; exact e rfl
theorem f1b {α : Type} {a b : List (List α)} {i : Nat} (h1 : i < a.length) (h2 : i < b.length) (e : ¬ a[i].length = b[i].length) : ¬ a = b := fun h => by subst h; exact e rfl
theorem c5n {x y : Pts} (hx : PtB 2000000 x) : PC Try.prog Gl 13 [.agg [.list 2 (sits x.sites), .list 1 (lls x.regs), .list 1 (lays x.cells)], .agg [.list 2 (sits y.sites), .list 1 (lls y.regs), .list 1 (lays y.cells)]] (.bool (c3s x y)) := by
 by_cases q1 : x.sites.length = y.sites.length <;> by_cases q2 : x.cells.length = y.cells.length <;> by_cases q3 : x.regs.length = y.regs.length
 all_goals
  refine a3w (res := [.tmp 4]) 9 119 [] (fun d ix => 0 :: d :: ix) (fn := Try.f13) (by kernel_rfl) (by rfl) (by rfl) (by rfl) (by simp) (by decide) ?_
  repeat' first
   | ((with_reducible refine a1o ?_); refine a2h (σ := {i : Nat // i <= x.sites.length /\ eqL x.sites y.sites i}) (fun y => [(5, .int .i64 (y.1 : Int))]) [] (fun y => []) [] (fun y => []) (fun y => noH) (fun y => x.sites.length - y.1) ⟨0, by simp, d4i _ _⟩ (gk3 (j := 0) [] (Bs.pc _) ?_ ?_ ?_ ?_ ?_ ?_ ?_) ?_; (iterate 7 (focus (first | rfl | (simp [LPXB, *, SIMB, hdN, injB]; done)))); rintro ⟨i, hi, hk⟩; simp only [lpS, LPXB]; (try dsimp only at hi hk); rcases a1l hi with hlt | ⟨hlt, rfl⟩; have wi := wli hlt (Nat.le_trans hx.s (by decide)); have g1 : i < y.sites.length := (by omega); by_cases c1 : (x.sites[i]'hlt) = (y.sites[i]'g1); rotate_left; have c1' := c0d c1; have c1'' := b5z c1; rotate_left)
   | ((with_reducible refine a1o ?_); refine a2h (σ := {i : Nat // i <= x.cells.length /\ eqL x.cells y.cells i}) (fun y => [(6, .int .i64 (y.1 : Int))]) [] (fun y => []) [] (fun y => []) (fun y => noH) (fun y => x.cells.length - y.1) ⟨0, by simp, d4i _ _⟩ (gk3 (j := 0) [] (Bs.pc _) ?_ ?_ ?_ ?_ ?_ ?_ ?_) ?_; (iterate 7 (focus (first | rfl | (simp [LPXB, *, SIMB, hdN, injB]; done)))); rintro ⟨k, hc, hkc⟩; simp only [lpS, LPXB]; (try dsimp only at hc hkc); rcases a1l hc with hlc | ⟨hlc, rfl⟩; have wc := wli hlc (Nat.le_trans hx.c (by decide)); have g2 : k < y.cells.length := (by omega); have hts := e0o (x.cells[k]'hlc) (y.cells[k]'g2) (Nat.le_trans (hx.cs _ (List.getElem_mem hlc)) (by decide)); by_cases c2 : (x.cells[k]'hlc) = (y.cells[k]'g2); rw [c2] at hts)
   | ((with_reducible refine a1o ?_); refine a2h (σ := {f : Nat // f <= x.regs.length /\ eqL x.regs y.regs f}) (fun y => [(7, .int .i64 (y.1 : Int)), (8, .undef)]) [] (fun y => []) [] (fun y => []) (fun y => noH) (fun y => x.regs.length - y.1) ⟨0, by simp, d4i _ _⟩ (gk3 (j := 0) [] (Bs.pc _) ?_ ?_ ?_ ?_ ?_ ?_ ?_) ?_; (iterate 7 (focus (first | rfl | (simp [LPXB, *, SIMB, hdN, injB]; done)))); rintro ⟨f, hf, hkf⟩; simp only [lpS, LPXB]; (try dsimp only at hf hkf); rcases a1l hf with hlf | ⟨hlf, rfl⟩; have wf := wli hlf (Nat.le_trans hx.r (by decide)); have g4 : f < y.regs.length := (by omega); by_cases c3 : (y.regs[f]'g4).length = (x.regs[f]'hlf).length; rotate_left; have c3' := (fun e => c3 (Eq.symm e) : ¬ (x.regs[f]'hlf).length = (y.regs[f]'g4).length); rotate_left)
   | ((with_reducible refine a1o ?_); refine a2h (σ := {j : Nat // j <= (x.regs[f]'hlf).length /\ eqL (x.regs[f]'hlf) (y.regs[f]'g4) j}) (fun y => [(8, .int .i64 (y.1 : Int))]) [] (fun y => []) [] (fun y => []) (fun y => noH) (fun y => (x.regs[f]'hlf).length - y.1) ⟨0, by simp, d4i _ _⟩ (gk3 (j := 0) [] (Bs.pc _) ?_ ?_ ?_ ?_ ?_ ?_ ?_) ?_; (iterate 7 (focus (first | rfl | (simp [LPXB, *, SIMB, hdN, injB]; done)))); rintro ⟨j, hj, hkj⟩; simp only [lpS, LPXB]; (try dsimp only at hj hkj); rcases a1l hj with hlj | ⟨hlj, rfl⟩; have wj := wli hlj (Nat.le_trans (hx.rr _ (List.getElem_mem hlf)) (by decide)); have g5 : j < (y.regs[f]'g4).length := (by omega); have htj := e0o ((x.regs[f]'hlf)[j]'hlj) ((y.regs[f]'g4)[j]'g5) (Nat.le_trans (hx.rs _ (List.getElem_mem hlf) _ (List.getElem_mem hlj)) (by decide)); by_cases c4 : ((x.regs[f]'hlf)[j]'hlj) = ((y.regs[f]'g4)[j]'g5); rw [c4] at htj)
   | ((with_reducible refine a1j ?_); refine a1w (⟨i + 1, by omega, d4h hk hlt g1 c1⟩) (gk3 (j := 0) [] (Bs.pc _) ?_ ?_ ?_ ?_ ?_ ?_ ?_) ?_; (iterate 7 (focus (first | rfl | (simp [LPXB, *, SIMB, hdN, injB]; done)))); (focus (dsimp only; omega)))
   | ((with_reducible refine a1j ?_); refine a1w (⟨k + 1, by omega, d4h hkc hlc g2 c2⟩) (gk3 (j := 0) [] (Bs.pc _) ?_ ?_ ?_ ?_ ?_ ?_ ?_) ?_; (iterate 7 (focus (first | rfl | (simp [LPXB, *, SIMB, hdN, injB]; done)))); (focus (dsimp only; omega)))
   | ((with_reducible refine a1j ?_); refine a1w (⟨j + 1, by omega, d4h hkj hlj g5 c4⟩) (gk3 (j := 0) [] (Bs.pc _) ?_ ?_ ?_ ?_ ?_ ?_ ?_) ?_; (iterate 7 (focus (first | rfl | (simp [LPXB, *, SIMB, hdN, injB]; done)))); (focus (dsimp only; omega)))
   | ((with_reducible refine a1j ?_); refine a1w (⟨f + 1, by omega, d4h hkf hlf g4 (b7x (Eq.symm c3) hkj)⟩) (gk3 (j := 0) [] (Bs.pc _) ?_ ?_ ?_ ?_ ?_ ?_ ?_) ?_; (iterate 7 (focus (first | rfl | (simp [LPXB, *, SIMB, hdN, injB]; done)))); (focus (dsimp only; omega)))
   | with_reducible first | refine a0p (id := 21) 18 a0k (by kernel_rfl) fun K hK => ?_ | refine a0p (id := 16) 13 a0k (by kernel_rfl) fun K hK => ?_ | refine a0p (id := 11) 12 a0k (by kernel_rfl) fun K hK => ?_ | refine a0p (id := 6) 11 a0k (by kernel_rfl) fun K hK => ?_ | refine stp ?_
   | (with_reducible refine stpK ?_; intro K hK)
   | (with_reducible refine stpC ?_; intro T E hT hE)
   | (with_reducible refine stp2 ?_ ?_ <;> intro h)
   | with_reducible first | refine a0q rfl ?_ | refine a1n hts (by simp [nls, nl, *, NLXB]) ?_ | refine hpc hts (by simp [nls, nl, *, NLXB]) ?_ | refine a1n htj (by simp [nls, nl, *, NLXB]) ?_ | refine hpc htj (by simp [nls, nl, *, NLXB]) ?_ | refine a0t rfl (Nat.le_of_ble_eq_true rfl) a0s ?_ | refine a0t rfl (Nat.le_of_ble_eq_true rfl) (a0r (by simp [HPXB, ext, upd, *])) ?_ | refine a1v (by decide) (by kernel_rfl) ?_ | refine a0x (by decide) ?_
   | (with_reducible refine Kont.go hK ?_; clear hK K)
   | ((with_reducible first | refine KT.go hT ?_ | refine KT.go hE ?_); clear hT hE T E)
   | simp [*, -List.all_flatten, -List.all_eq_true, DEFB, LENB, a5s, eqV, a5e, a8a]
  all_goals first
   | (have e := a9c (x := x) (y := y) (fun h => e5m hlt g1 c1 (by rw [h])); simp [e]; done)
   | (have e := a9c (x := x) (y := y) (fun h => e5m hlc g2 c2 (by rw [h])); simp [e]; done)
   | (have e := a9c (x := x) (y := y) (fun h => f1c hlf g4 hlj g5 c4 (by rw [h])); simp [e]; done)
   | (have e := a9c (x := x) (y := y) (fun h => f1b hlf g4 c3' (by rw [h])); simp [e]; done)
   | (have e := a9c (x := x) (y := y) (fun h => q1 (by rw [h])); simp [e]; done)
   | (have e := a9c (x := x) (y := y) (fun h => q2 (by rw [h])); simp [e]; done)
   | (have e := a9c (x := x) (y := y) (fun h => q3 (by rw [h])); simp [e]; done)
   | (have e := b6x (Pts.ext' (b7x q1 (by assumption)) (b7x q3 (by assumption)) (b7x q2 (by assumption))); simp [e]; done)
   | trace_state
end Go.He
namespace Go.He
open Go Go.FM Go.Gv Go.Proofs
set_option maxRecDepth 100000
set_option maxHeartbeats 40000000
def rowN (L : List (List (List Int))) : List (List FV) := L.mapIdx fun f r => [.sl [92, f] 1 0 r.length]
def PF (x : Pts) : Heap := fun l => match l with
 | [91] => some (.cells 24 1 (rowN x.regs))
 | [92, f] => (x.regs[f]?).map fun r => .cells 41 1 (lays r)
 | [93] => some (.cells 41 1 (lays x.cells))
 | _ => none
theorem a1a (L : List (List (List Int))) : (rowN L).length = L.length := by simp [rowN]
theorem a3y {L : List (List (List Int))} {f : Nat} (h : f < (rowN L).length) : (rowN L)[f] = [.sl [92, f] 1 0 (L[f]'(by rwa [a1a] at h)).length] := by simp [rowN]
theorem d1n (L : List (List (List Int))) (r : List (List Int)) : rowN (L ++ [r]) = rowN L ++ [[.sl [92, L.length] 1 0 r.length]] := by simp [rowN, List.mapIdx_append]
theorem d7b : rowN [] = [] := rfl
theorem c8w {L L' : List (List (List Int))} (h : L.length = L'.length) (h' : ∀ f (h1 : f < L.length) (h2 : f < L'.length), L[f].length = L'[f].length) : rowN L = rowN L' := by
 refine List.ext_getElem (by simp [a1a, h]) fun f h1 h2 => ?_
 rw [a3y h1, a3y h2, h' f (by rwa [a1a] at h1) (by rwa [a1a] at h2)]
theorem c2t (L : List (List (List Int))) : (rowN L).flatten.all FV.cellV = true := by
 rw [List.all_eq_true]
 intro v hv
 obtain ⟨r, hr, hv⟩ := List.mem_flatten.1 hv
 obtain ⟨i, hi, rfl⟩ := List.getElem_of_mem hr
 rw [a3y hi] at hv
 simp at hv
 subst hv; rfl
theorem a7n (x : Pts) : PF x [91] = some (.cells 24 1 (rowN x.regs)) := id (Eq.refl _)
theorem a7m (x : Pts) : PF x [93] = some (.cells 41 1 (lays x.cells)) := id (Eq.refl _)
theorem d9v (x : Pts) (f : Nat) : PF x [92, f] = (x.regs[f]?).map fun r => .cells 41 1 (lays r) := id (Eq.refl _)
theorem a3a (x : Pts) (k : Nat) (r : List Nat) (hk : k <= 20) : PF x (k :: r) = none := by
 unfold PF
 split
 . rename_i h; simp at h; omega
 . rename_i h; simp at h; omega
 . rename_i h; simp at h; omega
 . rfl
section
variable {L : List (FM.Loc × FO)} {B : Heap} {x : Pts}
theorem a4b : HP L B (PF x) [91] = some (.cells 24 1 (rowN x.regs)) := a8x (a7n x)
theorem a3o : HP L B (PF x) [93] = some (.cells 41 1 (lays x.cells)) := a8x (a7m x)
theorem a7f {f : Nat} (h : f < x.regs.length) : HP L B (PF x) [92, f] = some (.cells 41 1 (lays x.regs[f])) := a8x (by rw [d9v, List.getElem?_eq_getElem h]; rfl)
theorem a6p (C : List (List Int)) : upd (HP L B (PF x)) [93] (.cells 41 1 (lays C)) = HP L B (PF ⟨x.sites, x.regs, C⟩) := by
 funext k
 by_cases e : k = [93]
 . subst e; simp only [upd, if_true]; exact (a3o (x := ⟨x.sites, x.regs, C⟩)).symm
 . simp only [upd, e, if_false]
   unfold HP
   rw [a3v, a3v]
   have : PF ⟨x.sites, x.regs, C⟩ k = PF x k := by
    unfold PF
    split <;> first | rfl | (exact absurd rfl e)
   rw [this]
theorem a7g {f : Nat} (h : f < x.regs.length) (R : List (List Int)) (hR : R.length = x.regs[f].length) : upd (HP L B (PF x)) [92, f] (.cells 41 1 (lays R)) = HP L B (PF ⟨x.sites, x.regs.set f R, x.cells⟩) := by
 have h0 : rowN (x.regs.set f R) = rowN x.regs := c8w (by simp) fun g h1 h2 => by
  rw [List.getElem_set]
  split
  . rename_i e; subst e; exact hR
  . rfl
 funext k
 by_cases e : k = [92, f]
 . subst e; simp only [upd, if_true]; exact (a8x (by rw [d9v, List.getElem?_set_self h]; rfl)).symm
 . simp only [upd, e, if_false]
   unfold HP
   rw [a3v, a3v]
   have : PF ⟨x.sites, x.regs.set f R, x.cells⟩ k = PF x k := by
    unfold PF
    split
    . simp only [h0]
    . rename_i g
      have : g ≠ f := fun e' => e (by rw [e'])
      simp only [List.getElem?_set_ne (Ne.symm this)]
    . rfl
    . rfl
   rw [this]
end
theorem a3z (L : List (List Int)) (k : Nat) (a : List Int) : (lays L).set k [.list 1 (ints a)] = lays (L.set k a) := by
 simp only [lays, List.map_set]; rfl
theorem d7x (L : List (List Int)) (k : Nat) (a : List Int) (g : List FV -> List FV) (hg : ∀ v, g [v] = [.list 1 (ints a)]) : (lays L).modify k g = lays (L.set k a) := by
 refine List.ext_getElem (by simp [a0g]) fun i h1 h2 => ?_
 rw [List.getElem_modify]
 simp only [lays, List.getElem_map, List.getElem_set]
 split
 . exact hg _
 . rfl
theorem a3f (L : List (List Int)) (k : Nat) (a : List Int) : (lays L).modify k (fun r => .list 1 (ints a) :: r.tail) = lays (L.set k a) := d7x L k a _ fun _ => rfl
abbrev BsP (p : Pg) (j : Nat) (B : Heap) : Prop := ∀ y y', Gv.Form p y -> Gv.Form p y' -> Bs (inH (HP [] B (PF y))) j B (PF y')
theorem c5g {n : Nat} {a b : List Int} (ha : okS n a) (hb : ∀ o ∈ b, 0 <= o /\ o < (n : Int)) (k : Nat) : (a4d a (b.take k)).length <= n :=
 b1l (b3t ha.1) fun x hx => by
  rcases a6f.1 hx with h | h
  . exact ha.2 x h
  . exact hb x (List.mem_of_mem_take h)
theorem c3i {y : Pts} {l s : List Int} {i : Nat} (h : i < l.length) : a5g y (l.take (i + 1)) s = addC (a5g y (l.take i) s) l[i] s := by
 unfold a5g
 rw [List.take_add_one, List.getElem?_eq_getElem h, List.foldl_append]; rfl
theorem a7h {p : Pg} {y : Pts} (hy : Gv.Form p y) {l s : List Int} (hl : ∀ o ∈ l, 0 <= o /\ o < ((a0d p).length : Int)) (hs : ∀ o ∈ s, 0 <= o /\ o < ((a0d p).length : Int)) (i : Nat) : Gv.Form p (a5g y (l.take i) s) :=
 ((b3u (p := p) (l := fun _ => l.take i) (S := fun _ => s) (fun _ _ c hc => hl c (List.mem_of_mem_take hc)) (fun _ _ => hs)).1 y hy).1
theorem c8e (y : Pts) (o : Int) (s : List Int) {k : Nat} (hk : o.toNat = k) (h : k < y.cells.length) : addC y o s = ⟨y.sites, y.regs, y.cells.set k (a4d y.cells[k] s)⟩ := by
 subst hk
 simp [addC, setC, cl, List.getD_eq_getElem?_getD, h]
theorem d6d (a b : List Int) {H : Heap} {lb : FM.Loc} {T : TypeId} (hH : H lb = some (.cells T 1 (ints b))) (hb : b.length <= 1000000000) (hlen : ∀ i, i <= b.length -> (a4d a (b.take i)).length <= 999999990) : FC Try.prog Gl 45 [.list 1 (ints a), .sl lb 1 0 b.length] (H) (.list 1 (ints (a4d a b))) (H) := by
 refine c8h (res := [.tmp 4]) 6 19 [] (fun d ix => 0 :: d :: ix) (fn := Try.f45) (by kernel_rfl) (by rfl) (by rfl) (by rfl) (by simp) (by decide) ?_
 repeat' first
  | ((with_reducible refine a1o ?_); refine a7w (fun y : {i : Nat // i <= b.length} => (⟨[.list 1 (ints (a4d a (b.take y.1))), .sl lb 1 0 b.length, .undef, .undef, .nils, .int .i64 (y.1 : Int)], [], H, []⟩ : Fs)) (fun y => b.length - y.1) ⟨0, by simp⟩ (Wk.gk (c9g rfl (by simp [*, b8k]) (HLe.refl _))) ?_; rintro ⟨i, hi⟩; (try dsimp only at hi); rcases a1l hi with hlt | ⟨hlt, rfl⟩; have wi := wli hlt (by omega); have hw := e0n (a4d a (b.take i)) (b[i]'hlt) (hlen i hi); have hu := b6n (a := a) hlt; rotate_left; have ht := List.take_length (l := b); rotate_left)
  | ((with_reducible refine a1j ?_); refine a1w (⟨i + 1, by omega⟩) (Wk.gk (c9g rfl (by simp [*]) (HLe.refl _))) (by dsimp only; omega))
  | with_reducible refine stp ?_
  | (with_reducible refine stpK ?_; intro K hK)
  | (with_reducible refine stpC ?_; intro T E hT hE)
  | (with_reducible refine stp2 ?_ ?_ <;> intro h)
  | with_reducible first | refine a0q rfl ?_ | refine a1n hw (by simp [nls, nl, *, NLXB]) ?_ | refine hpc hw (by simp [nls, nl, *, NLXB]) ?_ | refine a0t rfl (Nat.le_of_ble_eq_true rfl) a0s ?_ | refine a0t rfl (Nat.le_of_ble_eq_true rfl) (a0r (by simp [HPXB, ext, upd, *])) ?_ | refine a1v (by decide) (by kernel_rfl) ?_ | refine a0x (by decide) ?_
  | (with_reducible refine Kont.go hK ?_; clear hK K)
  | ((with_reducible first | refine KT.go hT ?_ | refine KT.go hE ?_); clear hT hE T E)
  | simp [*, -List.all_flatten, -List.all_eq_true, DEFB, LENB, d5p, a2u]
theorem d8i {x : Pts} (l : List Int) : inc (a8j x l) := by
 have key : ∀ (l a : List Int), inc a -> inc (l.foldl (fun out o => a4d out (cl x o)) a) := by
  intro l
  induction l with
  | nil => exact fun a h => h
  | cons o l ih => exact fun a h => ih _ (b3t h)
 exact key l [] List.Pairwise.nil
theorem c9a {x : Pts} {l : List Int} {i : Nat} (h : i < l.length) : a8j x (l.take (i + 1)) = a4d (a8j x (l.take i)) (cl x l[i]) := by
 unfold a8j
 rw [List.take_add_one, List.getElem?_eq_getElem h, List.foldl_append]; rfl
theorem f5h (x : Pts) (o : Int) (h : o.toNat < x.cells.length) : cl x o = x.cells[o.toNat] := by simp [cl, List.getD_eq_getElem?_getD, h]
theorem b0f {p : Pg} {x : Pts} (hx : Gv.Form p x) (l : List Int) : okS (a0d p).length (a8j x l) := ⟨d8i l, e1d hx l⟩
theorem e8u {p : Pg} (hp : VOk p) {Y : Pts} (hy : Gv.Form p Y) {H : Heap} (h93 : H [93] = some (.cells 41 1 (lays Y.cells))) (h12 : H [1, 2] = none) {l : List Int} (hl : ∀ o ∈ l, 0 <= o /\ o < ((a0d p).length : Int)) (hll : l.length <= 64001) : FC Try.prog Gl 48 [.agg [.list 2 (sits (a0d p)), .sl [91] 1 0 p.funcs.length, .sl [93] 1 0 (a0d p).length], .list 1 (ints l)] (H) (.list 1 (ints (a8j Y l))) (upd H [1, 2] (.cells 30 3 [[.list 2 (sits (a0d p)), .sl [91] 1 0 p.funcs.length, .sl [93] 1 0 (a0d p).length]])) := by
 have hsv := a2b hp
 have hcn := hy.cn
 refine c8h (res := [.tmp 4]) 7 24 [] (fun d ix => 1 :: d :: ix) (fn := Try.f48) (by kernel_rfl) (by rfl) (by rfl) (by rfl) (by simp) (by decide) ?_
 repeat' first
  | ((with_reducible refine a1o ?_); refine a7w (fun y : {i : Nat // i <= l.length} => (⟨[.agg [.list 2 (sits (a0d p)), .sl [91] 1 0 p.funcs.length, .sl [93] 1 0 (a0d p).length], .list 1 (ints l), .ptr [1, 2] 3 0 0, .undef, .nils, .list 1 (ints (a8j Y (l.take y.1))), .int .i64 (y.1 : Int)], [], upd H [1, 2] (.cells 30 3 [[.list 2 (sits (a0d p)), .sl [91] 1 0 p.funcs.length, .sl [93] 1 0 (a0d p).length]]), []⟩ : Fs)) (fun y => l.length - y.1) ⟨0, by simp⟩ (Gk.trans (g1v (vs := [.agg [.list 2 (sits (a0d p)), .sl [91] 1 0 p.funcs.length, .sl [93] 1 0 (a0d p).length], .list 1 (ints l), .ptr [1, 2] 3 0 0, .undef, .nils, .nils, .int .i64 0]) ⟨_, _, rfl, a8d _, _, _, rfl, a8d _, _, _, rfl, a8d _, _, _, rfl, a8d _, _, _, rfl, a8d _, _, _, rfl, .inr ⟨1, rfl⟩, _, _, rfl, a8d _, rfl⟩) (Wk.gk (c9g rfl (by simp [*]) (HLe.refl _)))) ?_; rintro ⟨i, hi⟩; (try dsimp only at hi); rcases a1l hi with hlt | ⟨hlt, rfl⟩; have wi := wli hlt (by omega); have hlo := hl _ (List.getElem_mem hlt); have hco : ((l[i]'hlt)).toNat < Y.cells.length := (by omega); have hu := c3k (a8j Y (l.take i)) (Y.cells[((l[i]'hlt)).toNat]'hco) (Nat.le_trans (b1l (hy.cs _ (List.getElem_mem hco)).1 (hy.cs _ (List.getElem_mem hco)).2) (by omega)) (fun k hk => Nat.le_trans (c5g (b0f hy (l.take i)) (hy.cs _ (List.getElem_mem hco)).2 k) (by omega)); have hw := c9a (x := Y) hlt; rw [f5h Y _ hco] at hw; rotate_left; have htl := List.take_length (l := l); rotate_left)
  | ((with_reducible refine a1j ?_); refine a1w (⟨i + 1, by omega⟩) (Wk.gk (c9g rfl (by simp [*]) (HLe.refl _))) (by dsimp only; omega))
  | with_reducible first | refine a0p (id := 5) 10 a0k (by kernel_rfl) fun K hK => ?_ | refine stp ?_
  | (with_reducible refine stpK ?_; intro K hK)
  | (with_reducible refine stpC ?_; intro T E hT hE)
  | (with_reducible refine stp2 ?_ ?_ <;> intro h)
  | with_reducible first | refine a0q rfl ?_ | refine a1n hu (by simp [nls, nl, *, NLXB]) ?_ | refine hpc hu (by simp [nls, nl, *, NLXB]) ?_ | refine a0t rfl (Nat.le_of_ble_eq_true rfl) a0s ?_ | refine a0t rfl (Nat.le_of_ble_eq_true rfl) (a0r (by simp [HPXB, ext, upd, *])) ?_ | refine a1v (by decide) (by kernel_rfl) ?_ | refine a0x (by decide) ?_
  | (with_reducible refine Kont.go hK ?_; clear hK K)
  | ((with_reducible first | refine KT.go hT ?_ | refine KT.go hE ?_); clear hT hE T E)
  | simp [*, -List.all_flatten, -List.all_eq_true, DEFB, LENB, a3a, a4b, a3o, a1a, a3y, a3z, a3f, a2u, d5p, a2u]
theorem c3j {p : Pg} (hp : VOk p) {Y : Pts} (hy : Gv.Form p Y) {B : Heap} (hB : BsP p 1 B) {l s : List Int} (hl : ∀ o ∈ l, 0 <= o /\ o < ((a0d p).length : Int)) (hs : ∀ o ∈ s, 0 <= o /\ o < ((a0d p).length : Int)) (hll : l.length <= 64001) (hsl : s.length <= 64001) : FC Try.prog Gl 47 [.agg [.list 2 (sits (a0d p)), .sl [91] 1 0 p.funcs.length, .sl [93] 1 0 (a0d p).length], .list 1 (ints l), .list 1 (ints s)] (HP [] B (PF Y)) (.tup []) (HP [] B (PF (a5g Y l s))) := by
 have hsv := a2b hp
 have fB := (hB _ _ hy hy).fb
 have nB : ∀ r, B (1 :: r) = none := fun r => fB 1 r (by decide)
 refine a3s (res := []) 7 30 [] (fun d ix => 1 :: d :: ix) (fn := Try.f47) (by kernel_rfl) (by rfl) (by rfl) (by rfl) (by simp) (by decide) ?_
 repeat' first
  | ((with_reducible refine a1o ?_); refine a2h (σ := {i : Nat // i <= l.length}) (fun y => [(6, .int .i64 (y.1 : Int))]) [] (fun y => []) [] (fun y => []) (fun y => PF (a5g Y (l.take y.1) s)) (fun y => l.length - y.1) ⟨0, by simp⟩ (gk3 (j := 1) [] (hB _ _ hy (a7h hy hl hs _)) ?_ ?_ ?_ ?_ ?_ ?_ ?_) ?_; (iterate 7 (focus (first | rfl | (simp [LPXB, *, SIMB, hdN, injB, a5g, a3a, a7n, a7m, a4b, a3o]; done)))); rintro ⟨i, hi⟩; simp only [lpS, LPXB]; (try dsimp only at hi); rcases a1l hi with hlt | ⟨hlt, rfl⟩; have wi := wli hlt (by omega); have hZ := a7h hy hl hs i; have hlo := hl _ (List.getElem_mem hlt); have hcl := hZ.cn; have hco : ((l[i]'hlt)).toNat < (a5g Y (l.take i) s).cells.length := (by omega); have hu := c3k ((a5g Y (l.take i) s).cells[((l[i]'hlt)).toNat]'hco) s (by omega) (fun k hk => Nat.le_trans (c5g (hZ.cs _ (List.getElem_mem hco)) hs k) (by omega)); have ha := c8e (a5g Y (l.take i) s) (l[i]'hlt) s rfl hco; have hw := c3i (y := Y) (s := s) hlt; rotate_left; have htl := List.take_length (l := l); rotate_left)
  | ((with_reducible refine a1j ?_); refine a1w (⟨i + 1, by omega⟩) (gk3 (j := 1) [] (hB _ _ hy (a7h hy hl hs _)) ?_ ?_ ?_ ?_ ?_ ?_ ?_) ?_; (iterate 7 (focus (first | rfl | (simp [LPXB, *, SIMB, hdN, injB, a3a, a7n, a7m, a4b, a3o]; done)))); (focus (dsimp only; omega)))
  | ((with_reducible refine d2n (j := 1) (hB _ _ hy (by have := a7h hy hl hs l.length; rwa [htl] at this)) ?_ ?_ ?_ ?_); (focus rfl); (focus rfl); (focus (first | rfl | (simp [*]; done))); focus (first | trivial | (simp [nin, nins, a2u, inH, HPXB]; done)))
  | with_reducible first | refine a0p (id := 4) 17 a0k (by kernel_rfl) fun K hK => ?_ | refine stp ?_
  | (with_reducible refine stpK ?_; intro K hK)
  | (with_reducible refine stpC ?_; intro T E hT hE)
  | (with_reducible refine stp2 ?_ ?_ <;> intro h)
  | with_reducible first | refine a0q rfl ?_ | refine a1n hu (by simp [nls, nl, *, NLXB]) ?_ | refine hpc hu (by simp [nls, nl, *, NLXB]) ?_ | refine a0t rfl (Nat.le_of_ble_eq_true rfl) a0s ?_ | refine a0t rfl (Nat.le_of_ble_eq_true rfl) (a0r (by simp [HPXB, ext, upd, *])) ?_ | refine a1v (by decide) (by kernel_rfl) ?_ | refine a0x (by decide) ?_
  | (with_reducible refine Kont.go hK ?_; clear hK K)
  | ((with_reducible first | refine KT.go hT ?_ | refine KT.go hE ?_); clear hT hE T E)
  | simp [*, -List.all_flatten, -List.all_eq_true, DEFB, LENB, a3a, a4b, a3o, a1a, a3y, a3z, a3f, a2u, a6p]
def ents (ks : List Int) : List (FV × FV × Nat) := ks.mapIdx fun i k => (.int .i64 k, .agg [], i)
def mapO (ks : List Int) : FO := .map (ents ks) ks.length
theorem a6i : ents [] = [] := rfl
theorem d9l (ks : List Int) : (ents ks).length = ks.length := by simp [ents]
theorem d4j (ks : List Int) (k : Int) : ents (ks ++ [k]) = ents ks ++ [(.int .i64 k, .agg [], ks.length)] := by simp [ents, List.mapIdx_append]
theorem d9m {ks : List Int} {i : Nat} (h : i < ks.length) : (ents ks)[i]? = some (.int .i64 ks[i], .agg [], i) := by simp [ents, h]
theorem a9d {ks : List Int} {e : FV × FV × Nat} : e ∈ ents ks ↔ ∃ i, ∃ h : i < ks.length, e = (.int .i64 ks[i], .agg [], i) := by
 rw [ents, List.mem_mapIdx]
 constructor
 . rintro ⟨i, h, rfl⟩; exact ⟨i, h, rfl⟩
 . rintro ⟨i, h, rfl⟩; exact ⟨i, h, rfl⟩
theorem a2f (U : FM.Loc -> Prop) (ks : List Int) : nine U (ents ks) := by
 have key : ∀ (es : List (FV × FV × Nat)), (∀ e ∈ es, ∃ k n, e = (.int .i64 k, .agg [], n)) -> nine U es := by
  intro es
  induction es with
  | nil => intro _; trivial
  | cons e es ih =>
    intro h
    obtain ⟨k, n, rfl⟩ := h e (by simp)
    exact ⟨⟨trivial, trivial⟩, ih fun e he => h e (by simp [he])⟩
 refine key _ fun e he => ?_
 obtain ⟨i, h, rfl⟩ := a9d.1 he
 exact ⟨_, _, rfl⟩
theorem c9l {ks : List Int} {i : Nat} (h : i < ks.length) : (ents ks).find? (fun e => e.2.2 == i) = some (.int .i64 ks[i], .agg [], i) := by
 rw [List.find?_eq_some_iff_getElem]
 refine ⟨by simp, i, by rw [d9l]; exact h, by simp [ents], fun j hj => ?_⟩
 simp only [ents, List.getElem_mapIdx]
 simp; omega
theorem eqK3 (a b : Int) : eqK Try.prog 3 (.int .i64 a) (.int .i64 b) = some (decide (a = b)) := by
 simp [eqK, c1c, FV.kd, eqV]
theorem c0x (o : Int) : ∀ (ks : List Int) (g : Nat -> Nat) (i : Nat), ∃ r, a9m Try.prog 3 (.int .i64 o) (ks.mapIdx fun j k => (FV.int .i64 k, FV.agg [], g j)) i = some r /\ (if o ∈ ks then ∃ n, r = some (n, .agg []) else r = none)
 | [], _, _ => ⟨none, rfl, by simp⟩
 | k :: ks, g, i => by
   obtain ⟨r, h1, h2⟩ := c0x o ks (fun j => g (j + 1)) (i + 1)
   rw [List.mapIdx_cons]
   simp only [a9m, eqK3]
   by_cases e : o = k
   . subst e
     exact ⟨_, by simp only [decide_true]; rfl, by simp⟩
   . refine ⟨r, by simp only [e, decide_false]; exact h1, ?_⟩
     simp only [List.mem_cons, e, false_or]
     exact h2
theorem d8y {ks : List Int} {o : Int} (h : o ∈ ks) : ∃ n, a9m Try.prog 3 (.int .i64 o) (ents ks) 0 = some (some (n, .agg [])) := by
 obtain ⟨r, h1, h2⟩ := c0x o ks (fun j => j) 0
 rw [if_pos h] at h2
 obtain ⟨n, rfl⟩ := h2
 exact ⟨n, h1⟩
theorem d3v {ks : List Int} {o : Int} (h : o ∉ ks) : a9m Try.prog 3 (.int .i64 o) (ents ks) 0 = some none := by
 obtain ⟨r, h1, h2⟩ := c0x o ks (fun j => j) 0
 rw [if_neg h] at h2
 subst h2
 exact h1
theorem d7u {H : Heap} {l : FM.Loc} {ks : List Int} (h : H l = some (mapO ks)) (o : Int) : b3z Try.prog H 67 (.mp l) (.int .i64 o) true = some (.tup [.agg [], .bool (decide (o ∈ ks))]) := by
 have hk : b0i Try.prog 3 (.int .i64 o) = true := by simp [b0i, c1c]
 simp only [b3z, c1a, hk, if_true, h, mapO]
 by_cases e : o ∈ ks
 . obtain ⟨n, hn⟩ := d8y e
   simp only [hn, e, if_true, decide_true]
 . simp only [d3v e, c9m, Option.map_some, e, if_true, decide_false]
theorem e4h {H : Heap} {l : FM.Loc} {ks : List Int} (h : H l = some (mapO ks)) {o : Int} (ho : o ∉ ks) : b2v Try.prog H 67 (.mp l) (.int .i64 o) (.agg []) = some ([(l, mapO (ks ++ [o]))], .undef) := by
 have hk : b0i Try.prog 3 (.int .i64 o) = true := by simp [b0i, c1c]
 simp only [b2v, c1a, h, mapO, hk, if_true, d3v ho, d4j, List.length_append, List.length_singleton]
def sitE (l : List (Int × Int)) : List (FV × FV × Nat) := (l.drop 1).mapIdx fun i s => (.agg [.int .i64 s.1, .int .i64 s.2], .int .i64 ((i : Int) + 1), i)
theorem c1w (U : FM.Loc -> Prop) (l : List (Int × Int)) : nine U (sitE l) := by
 have key : ∀ (es : List (FV × FV × Nat)), (∀ e ∈ es, ∃ a b k n, e = (.agg [.int .i64 a, .int .i64 b], .int .i64 k, n)) -> nine U es := by
  intro es
  induction es with
  | nil => intro _; trivial
  | cons e es ih =>
    intro h
    obtain ⟨a, b, k, n, rfl⟩ := h e (by simp)
    exact ⟨⟨⟨trivial, trivial, trivial⟩, trivial⟩, ih fun e he => h e (by simp [he])⟩
 refine key _ fun e he => ?_
 rw [sitE, List.mem_mapIdx] at he
 obtain ⟨i, h, rfl⟩ := he
 exact ⟨_, _, _, _, rfl⟩
def rowR (L : List (List (List Int))) : List (List FV) := L.mapIdx fun f r => [.sl [83, f] 1 0 r.length]
def rowM (f : Nat) (r : List (List Int)) : List (List FV) := r.mapIdx fun i _ => [.mp [85, f, i]]
def rowC (r : List (List Int)) : List (List FV) := r.mapIdx fun i _ => [.mp [86, i]]
def anR (p : Pg) : List FV := [.list 4 (fns p.funcs), .list 2 (gbs p.globals), .list 1 (lays p.layouts), .int .i64 p.main, .list 2 (sits (a0d p)), .mp [87], .sl [82] 1 0 p.funcs.length, .sl [84] 1 0 (a0d p).length]
def MF (p : Pg) (y : Pts) (b : Bool) : Heap := fun l => match l with
 | [81] => some (.cells 64 8 [anR p])
 | [82] => some (.cells 62 1 (rowR y.regs))
 | [83, f] => (y.regs[f]?).map fun r => .cells 67 1 (rowM f r)
 | [84] => some (.cells 67 1 (rowC y.cells))
 | [85, f, i] => ((y.regs[f]?).bind (·[i]?)).map mapO
 | [86, o] => (y.cells[o]?).map mapO
 | [87] => some (.map (sitE (a0d p)) ((a0d p).length - 1))
 | [88] => some (.cells 4 1 [[.bool b]])
 | _ => none
theorem a1m (L : List (List (List Int))) : (rowR L).length = L.length := by simp [rowR]
theorem a0y (f : Nat) (r : List (List Int)) : (rowM f r).length = r.length := by simp [rowM]
theorem a0z (r : List (List Int)) : (rowC r).length = r.length := by simp [rowC]
theorem a2n {L : List (List (List Int))} {f : Nat} (h : f < (rowR L).length) : (rowR L)[f] = [.sl [83, f] 1 0 (L[f]'(by rwa [a1m] at h)).length] := by simp [rowR]
theorem a2o {g : Nat} {r : List (List Int)} {f : Nat} (h : f < (rowM g r).length) : (rowM g r)[f] = [.mp [85, g, f]] := by simp [rowM]
theorem a2p {r : List (List Int)} {f : Nat} (h : f < (rowC r).length) : (rowC r)[f] = [.mp [86, f]] := by simp [rowC]
theorem c8x (f : Nat) {r s : List (List Int)} (h : r.length = s.length) : rowM f r = rowM f s := by
 refine List.ext_getElem (by simp [a0y, h]) fun i h1 h2 => by rw [a2o h1, a2o h2]
theorem c8y {r s : List (List Int)} (h : r.length = s.length) : rowC r = rowC s := by
 refine List.ext_getElem (by simp [a0z, h]) fun i h1 h2 => by rw [a2p h1, a2p h2]
theorem c8v {L L' : List (List (List Int))} (h : L.length = L'.length) (h' : ∀ f (h1 : f < L.length) (h2 : f < L'.length), L[f].length = L'[f].length) : rowR L = rowR L' := by
 refine List.ext_getElem (by simp [a1m, h]) fun f h1 h2 => ?_
 rw [a2n h1, a2n h2, h' f (by rwa [a1m] at h1) (by rwa [a1m] at h2)]
theorem a2d (p : Pg) (y : Pts) (b : Bool) (k : Nat) (r : List Nat) (hk : k <= 20) : MF p y b (k :: r) = none := by
 unfold MF
 split <;> first | rfl | (rename_i h; simp at h; omega)
theorem e7r (p : Pg) (y : Pts) (b : Bool) : MF p y b [81] = some (.cells 64 8 [anR p]) := id (Eq.refl _)
theorem d5o (p : Pg) (y : Pts) (b : Bool) : MF p y b [82] = some (.cells 62 1 (rowR y.regs)) := id (Eq.refl _)
theorem e0a (p : Pg) (y : Pts) (b : Bool) (f : Nat) : MF p y b [83, f] = (y.regs[f]?).map fun r => .cells 67 1 (rowM f r) := id (Eq.refl _)
theorem d5n (p : Pg) (y : Pts) (b : Bool) : MF p y b [84] = some (.cells 67 1 (rowC y.cells)) := id (Eq.refl _)
theorem d9z (p : Pg) (y : Pts) (b : Bool) (f i : Nat) : MF p y b [85, f, i] = ((y.regs[f]?).bind (·[i]?)).map mapO := id (Eq.refl _)
theorem d9y (p : Pg) (y : Pts) (b : Bool) (o : Nat) : MF p y b [86, o] = (y.cells[o]?).map mapO := id (Eq.refl _)
theorem d9x (p : Pg) (y : Pts) (b : Bool) : MF p y b [87] = some (.map (sitE (a0d p)) ((a0d p).length - 1)) := id (Eq.refl _)
theorem f5x (p : Pg) (y : Pts) (b : Bool) : MF p y b [88] = some (.cells 4 1 [[.bool b]]) := id (Eq.refl _)
def _root_.Go.Gv.SL.loc : SL -> FM.Loc
 | .r f a => [85, f, a]
 | .c o => [86, o]
section
variable {L : List (FM.Loc × FO)} {B : Heap} {p : Pg} {y : Pts} {b : Bool}
theorem a3r : HP L B (MF p y b) [81] = some (.cells 64 8 [anR p]) := a8x (e7r p y b)
theorem a6m : HP L B (MF p y b) [82] = some (.cells 62 1 (rowR y.regs)) := a8x (d5o p y b)
theorem a4g {f : Nat} (h : f < y.regs.length) : HP L B (MF p y b) [83, f] = some (.cells 67 1 (rowM f y.regs[f])) := a8x (by rw [e0a, List.getElem?_eq_getElem h]; rfl)
theorem a6l : HP L B (MF p y b) [84] = some (.cells 67 1 (rowC y.cells)) := a8x (d5n p y b)
theorem b0p : HP L B (MF p y b) [87] = some (.map (sitE (a0d p)) ((a0d p).length - 1)) := a8x (d9x p y b)
theorem e0d : HP L B (MF p y b) [88] = some (.cells 4 1 [[.bool b]]) := a8x (f5x p y b)
theorem d5m {t : SL} (ht : t.ok y) : MF p y b t.loc = some (mapO (getS y t)) := by
 cases t with
 | r f a =>
   obtain ⟨h1, h2⟩ := ht
   rw [List.getD_eq_getElem?_getD, List.getElem?_eq_getElem h1, Option.getD_some] at h2
   show MF p y b [85, f, a] = some (mapO (rg y f (a : Int)))
   rw [d9z, List.getElem?_eq_getElem h1, Option.bind_some, List.getElem?_eq_getElem h2, Option.map_some]
   simp [rg, List.getD_eq_getElem?_getD, h1, h2]
 | c o =>
   have ht : o < y.cells.length := ht
   show MF p y b [86, o] = some (mapO (cl y (o : Int)))
   rw [d9y, List.getElem?_eq_getElem ht, Option.map_some]
   simp [cl, List.getD_eq_getElem?_getD, ht]
theorem a7c {t : SL} (ht : t.ok y) : HP L B (MF p y b) t.loc = some (mapO (getS y t)) := a8x (d5m ht)
theorem b0w {f i : Nat} (h : f < y.regs.length) (h' : i < y.regs[f].length) : HP L B (MF p y b) [85, f, i] = some (mapO y.regs[f][i]) := a8x (by rw [d9z, List.getElem?_eq_getElem h, Option.bind_some, List.getElem?_eq_getElem h']; rfl)
theorem b0v {o : Nat} (h : o < y.cells.length) : HP L B (MF p y b) [86, o] = some (mapO y.cells[o]) := a8x (by rw [d9y, List.getElem?_eq_getElem h]; rfl)
theorem c4x {A A' : Heap} {l : FM.Loc} {ob : FO} (h : A' l = some ob) (he : ∀ k, k ≠ l -> A' k = A k) : upd (HP L B A) l ob = HP L B A' := by
 funext k
 unfold HP
 by_cases e : k = l
 . subst e; rw [b2r h]; simp [upd]
 . simp only [upd, e, if_false]
   rw [a3v, a3v, he k e]
theorem f6a (b' : Bool) : upd (HP L B (MF p y b)) [88] (.cells 4 1 [[.bool b']]) = HP L B (MF p y b') :=
 c4x (f5x p y b') fun k hk => by
  unfold MF
  split <;> first | rfl | exact absurd rfl hk
theorem e7u {t : SL} (ht : t.ok y) (ks : List Int) : upd (HP L B (MF p y b)) t.loc (mapO ks) = HP L B (MF p (setS y t ks) b) := by
 have ht' : t.ok (setS y t ks) := by
  cases t with
  | r f a =>
    obtain ⟨h1, h2⟩ := ht
    refine ⟨by simpa [setS, setR] using h1, ?_⟩
    simp only [setS, setR, a6h]
    simp only [true_and, h1, if_true, List.length_set]; exact h2
  | c o => show o < _; simpa [setS, setC] using (show o < y.cells.length from ht)
 refine c4x (by rw [d5m ht', b6f ht, if_pos rfl]) fun k hk => ?_
 cases t with
 | r f a =>
   obtain ⟨h1, h2⟩ := ht
   rw [List.getD_eq_getElem?_getD, List.getElem?_eq_getElem h1, Option.getD_some] at h2
   have hk : k ≠ [85, f, a] := hk
   have hlen : (y.regs.set f ((y.regs.getD f []).set a ks)).length = y.regs.length := by simp
   have hrow : rowR (y.regs.set f ((y.regs.getD f []).set a ks)) = rowR y.regs := c8v (by simp) fun g h3 h4 => by
    rw [List.getElem_set]
    split
    . rename_i e; subst e; simp [List.getD_eq_getElem?_getD, h1]
    . rfl
   unfold MF
   simp only [setS, setR, Int.toNat_natCast]
   split
   . rfl
   . rw [hrow]
   . rename_i g
     rw [List.getElem?_set]
     split
     . rename_i e; subst e
       simp only [h1, if_true, List.getElem?_eq_getElem h1, Option.map_some]
       rw [c8x f (s := y.regs[f]) (by simp [List.getD_eq_getElem?_getD, h1])]
     . rfl
   . rfl
   . rename_i g i _
     rw [List.getElem?_set]
     split
     . rename_i e; subst e
       have : i ≠ a := fun e' => hk (by rw [e'])
       simp only [h1, if_true, List.getElem?_eq_getElem h1, Option.bind_some, List.getD_eq_getElem?_getD, Option.getD_some, List.getElem?_set_ne (Ne.symm this)]
     . rfl
   . rfl
   . rfl
   . rfl
   . rfl
 | c o =>
   have hk : k ≠ [86, o] := hk
   have hrow : rowC (y.cells.set o ks) = rowC y.cells := c8y (by simp)
   unfold MF
   simp only [setS, setC, Int.toNat_natCast]
   split
   . rfl
   . rfl
   . rfl
   . rw [hrow]
   . rfl
   . rename_i q _
     have : q ≠ o := fun e' => hk (by rw [e'])
     rw [List.getElem?_set_ne (Ne.symm this)]
   . rfl
   . rfl
   . rfl
end
theorem f5g {p : Pg} {y : Pts} (hy : Shp p y) (b : Bool) {B : Heap} (hB : ∀ l o, B l = some o -> ninO (fun l => ext B (MF p y b) l ≠ none) o) : Clo (ext B (MF p y b)) := fun l o hl => by
 rw [a3v] at hl
 have up : ∀ k, MF p y b k ≠ none -> ext B (MF p y b) k ≠ none := fun k hk => by
  obtain ⟨o', ho'⟩ := Option.ne_none_iff_exists'.1 hk
  rw [b2r ho']; simp
 cases e : MF p y b l with
 | none => rw [e] at hl; exact hB l o hl
 | some o' =>
   rw [e] at hl
   obtain rfl := Option.some.inj hl
   have key : ∀ (U : FM.Loc -> Prop) (xs : List (List FV)), (∀ r ∈ xs, nins U r) -> a3m U xs := by
    intro U xs
    induction xs with
    | nil => intro _; trivial
    | cons r xs ih => intro h; exact ⟨h r (by simp), ih fun r hr => h r (by simp [hr])⟩
   unfold MF at e
   split at e
   . obtain rfl := Option.some.inj e
     refine ⟨⟨a0e _, a0i _, a0a _, trivial, a1d _, up _ (by rw [d9x]; simp), up _ (by rw [d5o]; simp), up _ (by rw [d5n]; simp), trivial⟩, trivial⟩
   . obtain rfl := Option.some.inj e
     refine key _ _ fun r hr => ?_
     obtain ⟨i, hi, rfl⟩ := List.getElem_of_mem hr
     rw [a2n hi]
     rw [a1m] at hi
     exact ⟨up _ (by rw [e0a, List.getElem?_eq_getElem hi]; simp), trivial⟩
   . rename_i f
     rw [Option.map_eq_some_iff] at e
     obtain ⟨r, hr, rfl⟩ := e
     refine key _ _ fun q hq => ?_
     obtain ⟨i, hi, rfl⟩ := List.getElem_of_mem hq
     rw [a2o hi]
     rw [a0y] at hi
     exact ⟨up _ (by rw [d9z, hr, Option.bind_some, List.getElem?_eq_getElem hi]; simp), trivial⟩
   . obtain rfl := Option.some.inj e
     refine key _ _ fun q hq => ?_
     obtain ⟨i, hi, rfl⟩ := List.getElem_of_mem hq
     rw [a2p hi]
     rw [a0z] at hi
     exact ⟨up _ (by rw [d9y, List.getElem?_eq_getElem hi]; simp), trivial⟩
   . rw [Option.map_eq_some_iff] at e
     obtain ⟨r, hr, rfl⟩ := e
     exact a2f _ _
   . rw [Option.map_eq_some_iff] at e
     obtain ⟨r, hr, rfl⟩ := e
     exact a2f _ _
   . obtain rfl := Option.some.inj e
     exact c1w _ _
   . obtain rfl := Option.some.inj e
     exact ⟨⟨trivial, trivial⟩, trivial⟩
   . cases e
theorem c8g {p : Pg} {y y' : Pts} (hy : Shp p y) (hy' : Shp p y') (b b' : Bool) (l : FM.Loc) (h : MF p y b l ≠ none) : MF p y' b' l ≠ none := by
 have hr : y'.regs.length = y.regs.length := hy'.rn.trans hy.rn.symm
 have hc : y'.cells.length = y.cells.length := hy'.cn.trans hy.cn.symm
 have hf : ∀ f (h1 : f < y.regs.length) (h2 : f < y'.regs.length), y'.regs[f].length = y.regs[f].length := fun f h1 h2 => by
  have e1 := hy.fn f h1 (by rw [<- hy.rn]; exact h1)
  have e2 := hy'.fn f h2 (by rw [<- hy.rn]; exact h1)
  omega
 unfold MF at h ⊢
 split <;> first | simp | skip
 . rename_i f
   by_cases h1 : f < y.regs.length
   . rw [hr]; exact h1
   . exfalso; apply h; simp only [List.getElem?_eq_none (Nat.le_of_not_lt h1), Option.map_none]
 . rename_i f i
   by_cases h1 : f < y.regs.length
   . have h2 : f < y'.regs.length := by omega
     by_cases h3 : i < y.regs[f].length
     . have h4 : i < y'.regs[f].length := by rw [hf f h1 h2]; exact h3
       simp [List.getElem?_eq_getElem h2, h4]
     . exfalso; apply h; simp only [List.getElem?_eq_getElem h1, Option.bind_some, List.getElem?_eq_none (Nat.le_of_not_lt h3), Option.map_none]
   . exfalso; apply h; simp only [List.getElem?_eq_none (Nat.le_of_not_lt h1), Option.bind_none, Option.map_none]
 . rename_i o
   by_cases h1 : o < y.cells.length
   . rw [hc]; exact h1
   . exfalso; apply h; simp only [List.getElem?_eq_none (Nat.le_of_not_lt h1), Option.map_none]
 . rename_i h1 h2 h3 h4 h5 h6 h7 h8
   split at h
   . exact absurd rfl h1
   . exact absurd rfl h2
   . exact absurd rfl (h3 _)
   . exact absurd rfl h4
   . exact absurd rfl (h5 _ _)
   . exact absurd rfl (h6 _)
   . exact absurd rfl h7
   . exact absurd rfl h8
   . exact h rfl
abbrev BsM (p : Pg) (j : Nat) (B : Heap) : Prop := ∀ y b y' b', Shp p y -> Shp p y' -> Bs (inH (HP [] B (MF p y b))) j B (MF p y' b')
theorem bsM0 (p : Pg) (j : Nat) (hj : j <= 20) : BsM p j noH := fun y b y' b' hy hy' =>
 ⟨fun _ _ _ => rfl, fun k r hk => a2d p y' b' k r (by omega), f5g hy' b' fun _ _ h => (by cases h), fun l hl hn => by
  have hl : HP [] noH (MF p y b) l ≠ none := hl
  rw [a3d] at hn
  refine hl (a4w.2 ⟨?_, rfl⟩)
  cases e : MF p y b l with
  | none => rfl
  | some o => exact absurd hn.1 (c8g hy hy' b b' l (by simp [e]))⟩
theorem BsM.call {p : Pg} {j : Nat} {B : Heap} {L : List (FM.Loc × FO)} (i : Nat) (hB : BsM p j B) (hi : i < j) {y : Pts} {b : Bool} (hy : Shp p y) (hl : hdN j (L.map Prod.fst) = true) (ho : ninL (inH (HP L B (MF p y b))) L) : BsM p i (updL L B) := fun y1 b1 y2 b2 h1 h2 => by
 have hup : ∀ y' b', Shp p y' -> ∀ q, HP L B (MF p y b) q ≠ none -> HP L B (MF p y' b') q ≠ none := fun y' b' hy' q hq hn => by
  rw [a4w] at hn
  refine hq (a4w.2 ⟨?_, hn.2⟩)
  cases e : MF p y b q with
  | none => rfl
  | some o => exact absurd hn.1 (c8g hy hy' b b' q (by simp [e]))
 have key := Bs.call (A := MF p y1 b1) (L := L) i (hB y1 b1 y2 b2 h1 h2) hi hl (by
  have : ∀ {L' : List (FM.Loc × FO)}, ninL (inH (HP L B (MF p y b))) L' -> ninL (fun l => HP L B (MF p y2 b2) l ≠ none) L' := by
   intro L'
   induction L' with
   | nil => intro _; trivial
   | cons q r ih => intro h; exact ⟨a5p (fun l hl => hup y2 b2 h2 l hl) h.1, ih h.2⟩
  exact this ho) fun l hl => c8g h1 h2 b1 b2 l hl
 exact key
end Go.He
