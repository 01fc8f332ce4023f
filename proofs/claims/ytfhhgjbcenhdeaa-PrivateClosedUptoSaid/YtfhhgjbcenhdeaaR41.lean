/- Parts of the proof. -/
import Derived.Test.YtfhhgjbcenhdeaaR37
set_option linter.unusedSimpArgs false
set_option linter.unusedVariables false
namespace Go.He
open Go Go.FM Go.Gv Go.Proofs
set_option maxRecDepth 100000
set_option maxHeartbeats 40000000
def MN (p : Pg) (y : Pts) : Heap := fun l => if l = [88] then none else MF p y false l
theorem b5q {p : Pg} {y : Pts} {l : FM.Loc} (h : l ≠ [88]) : MN p y l = MF p y false l := by simp [MN, h]
theorem a7x (p : Pg) (y : Pts) (k : Nat) (r : List Nat) (hk : k <= 20) : MN p y (k :: r) = none := by
 unfold MN
 split
 . rfl
 . exact a2d p y false k r hk
section
variable {L : List (FM.Loc × FO)} {B : Heap} {p : Pg} {y : Pts}
theorem b1r : HP L B (MN p y) [81] = some (.cells 64 8 [anR p]) := a8x (by rw [b5q (by decide)]; exact e7r p y false)
theorem b4y : HP L B (MN p y) [82] = some (.cells 62 1 (rowR y.regs)) := a8x (by rw [b5q (by decide)]; exact d5o p y false)
theorem b4x {f : Nat} (h : f < y.regs.length) : HP L B (MN p y) [83, f] = some (.cells 67 1 (rowM f y.regs[f])) := a8x (by rw [b5q (by simp), e0a, List.getElem?_eq_getElem h]; rfl)
theorem b4w : HP L B (MN p y) [84] = some (.cells 67 1 (rowC y.cells)) := a8x (by rw [b5q (by decide)]; exact d5n p y false)
theorem e1f (t : SL) : t.loc ≠ [88] := by cases t <;> simp [SL.loc]
theorem d5s {t : SL} (ht : t.ok y) : HP L B (MN p y) t.loc = some (mapO (getS y t)) := a8x (by rw [b5q (e1f t)]; exact d5m ht)
theorem e7t {t : SL} (ht : t.ok y) (ks : List Int) : upd (HP L B (MN p y)) t.loc (mapO ks) = HP L B (MN p (setS y t ks)) := by
 have h1 := e7u (L := []) (B := noH) (p := p) (b := false) ht ks
 have e : ∀ A : Heap, HP [] noH A = A := fun A => by
  funext k
  show ext noH A k = A k
  rw [a3v]
  cases A k <;> rfl
 rw [e, e] at h1
 refine c4x ?_ fun k hk => ?_
 . rw [b5q (e1f t), <- h1]; simp [upd]
 . by_cases e88 : k = [88]
   . subst e88; rfl
   . rw [b5q e88, b5q e88, <- h1]; simp [upd, hk]
end
theorem d5k {p : Pg} {y : Pts} {l : FM.Loc} {o : FO} (h : MN p y l = some o) : l ≠ [88] /\ MF p y false l = some o := by
 unfold MN at h
 split at h
 . cases h
 . rename_i e; exact ⟨e, h⟩
theorem d5l {p : Pg} {y y' : Pts} (hy : Shp p y) (hy' : Shp p y') (l : FM.Loc) (h : MN p y l ≠ none) : MN p y' l ≠ none := by
 by_cases e : l = [88]
 . subst e; exact absurd rfl h
 . rw [b5q e] at h ⊢
   exact c8g hy hy' false false l h
theorem f0c {p : Pg} {y : Pts} (hy : Shp p y) : ∀ l o, MN p y l = some o -> ninO (fun l => MN p y l ≠ none) o := fun l o h => by
 have h1 := (d5k h).2
 have hne := (d5k h).1
 have up : ∀ q, q ≠ [88] -> MF p y false q ≠ none -> MN p y q ≠ none := fun q e hq => by rw [b5q e]; exact hq
 have key : ∀ (U : FM.Loc -> Prop) (xs : List (List FV)), (∀ r ∈ xs, nins U r) -> a3m U xs := by
  intro U xs
  induction xs with
  | nil => intro _; trivial
  | cons r xs ih => intro h; exact ⟨h r (by simp), ih fun r hr => h r (by simp [hr])⟩
 unfold MF at h1
 split at h1
 . obtain rfl := Option.some.inj h1
   refine ⟨⟨a0e _, a0i _, a0a _, trivial, a1d _, up _ (by decide) (by rw [d9x]; simp), up _ (by decide) (by rw [d5o]; simp), up _ (by decide) (by rw [d5n]; simp), trivial⟩, trivial⟩
 . obtain rfl := Option.some.inj h1
   refine key _ _ fun r hr => ?_
   obtain ⟨i, hi, rfl⟩ := List.getElem_of_mem hr
   rw [a2n hi]
   rw [a1m] at hi
   exact ⟨up _ (by simp) (by rw [e0a, List.getElem?_eq_getElem hi]; simp), trivial⟩
 . rw [Option.map_eq_some_iff] at h1
   obtain ⟨r, hr, rfl⟩ := h1
   refine key _ _ fun q hq => ?_
   obtain ⟨i, hi, rfl⟩ := List.getElem_of_mem hq
   rw [a2o hi]
   rw [a0y] at hi
   exact ⟨up _ (by simp) (by rw [d9z, hr, Option.bind_some, List.getElem?_eq_getElem hi]; simp), trivial⟩
 . obtain rfl := Option.some.inj h1
   refine key _ _ fun q hq => ?_
   obtain ⟨i, hi, rfl⟩ := List.getElem_of_mem hq
   rw [a2p hi]
   rw [a0z] at hi
   exact ⟨up _ (by simp) (by rw [d9y, List.getElem?_eq_getElem hi]; simp), trivial⟩
 . rw [Option.map_eq_some_iff] at h1
   obtain ⟨r, hr, rfl⟩ := h1
   exact a2f _ _
 . rw [Option.map_eq_some_iff] at h1
   obtain ⟨r, hr, rfl⟩ := h1
   exact a2f _ _
 . obtain rfl := Option.some.inj h1
   exact c1w _ _
 . exact absurd rfl hne
 . cases h1
theorem d4q {p : Pg} {y : Pts} (hy : Shp p y) {B : Heap} (hB : ∀ l o, B l = some o -> ninO (fun l => ext B (MN p y) l ≠ none) o) : Clo (ext B (MN p y)) := fun l o hl => by
 rw [a3v] at hl
 cases e : MN p y l with
 | none => rw [e] at hl; exact hB l o hl
 | some o' =>
   rw [e] at hl
   obtain rfl := Option.some.inj hl
   refine a5p (fun q hq => ?_) (f0c hy l o' e)
   obtain ⟨o2, h2⟩ := Option.ne_none_iff_exists'.1 hq
   rw [b2r h2]; simp
abbrev BsN (p : Pg) (j : Nat) (B : Heap) : Prop := ∀ y y', Shp p y -> Shp p y' -> Bs (inH (HP [] B (MN p y))) j B (MN p y')
theorem bsMN {p : Pg} {y : Pts} (hy : Shp p y) (j : Nat) (hj : j <= 20) : Bs (fun _ => False) j noH (MN p y) :=
 ⟨fun _ _ _ => rfl, fun k r hk => a7x p y k r (by omega), d4q hy fun _ _ h => (by cases h), fun _ h => h.elim⟩
theorem bsN0 (p : Pg) (j : Nat) (hj : j <= 20) : BsN p j noH := fun y y' hy hy' =>
 ⟨fun _ _ _ => rfl, fun k r hk => a7x p y' k r (by omega), d4q hy' fun _ _ h => (by cases h), fun l hl hn => by
  have hl : HP [] noH (MN p y) l ≠ none := hl
  rw [a3d] at hn
  refine hl (a4w.2 ⟨?_, rfl⟩)
  cases e : MN p y l with
  | none => rfl
  | some o => exact absurd hn.1 (d5l hy hy' l (by simp [e]))⟩
theorem BsN.call {p : Pg} {j : Nat} {B : Heap} {L : List (FM.Loc × FO)} (i : Nat) (hB : BsN p j B) (hi : i < j) {y : Pts} (hy : Shp p y) (hl : hdN j (L.map Prod.fst) = true) (ho : ninL (inH (HP L B (MN p y))) L) : BsN p i (updL L B) := fun y1 y2 h1 h2 => by
 have hup : ∀ y', Shp p y' -> ∀ q, HP L B (MN p y) q ≠ none -> HP L B (MN p y') q ≠ none := fun y' hy' q hq hn => by
  rw [a4w] at hn
  refine hq (a4w.2 ⟨?_, hn.2⟩)
  cases e : MN p y q with
  | none => rfl
  | some o => exact absurd hn.1 (d5l hy hy' q (by simp [e]))
 exact Bs.call (A := MN p y1) (L := L) i (hB y1 y2 h1 h2) hi hl (by
  have : ∀ {L' : List (FM.Loc × FO)}, ninL (inH (HP L B (MN p y))) L' -> ninL (fun l => HP L B (MN p y2) l ≠ none) L' := by
   intro L'
   induction L' with
   | nil => intro _; trivial
   | cons q r ih => intro h; exact ⟨a5p (fun l hl => hup y2 h2 l hl) h.1, ih h.2⟩
  exact this ho) fun l hl => d5l h1 h2 l hl
theorem e3y {y : Pts} {t : SL} (a b : List Int) : setS (setS y t a) t b = setS y t b := by
 cases t with
 | r f i =>
   simp only [setS, setR]
   congr 1
   by_cases hf : f < y.regs.length
   . simp [a6h, hf]
   . rw [List.set_eq_of_length_le (by simpa using hf), List.set_eq_of_length_le (by omega), List.set_eq_of_length_le (by omega)]
 | c o => simp [setS, setC]
theorem d1e {y : Pts} {t s : SL} (a : List Int) (h : s.ok y) : s.ok (setS y t a) := by
 cases s with
 | r f i =>
   obtain ⟨h1, h2⟩ := h
   cases t with
   | r g k =>
     refine ⟨by simpa [setS, setR] using h1, ?_⟩
     simp only [setS, setR, a6h]
     split
     . rename_i e; rw [List.length_set, e.1]; exact h2
     . exact h2
   | c o => exact ⟨h1, h2⟩
 | c o =>
   have h : o < y.cells.length := h
   cases t with
   | r g k => exact h
   | c q => show o < _; simpa [setS, setC] using h
theorem d6y {y : Pts} {t : SL} (h : t.ok y) {a : List Int} (e : getS y t = a) : setS y t a = y := by
 subst e
 cases t with
 | r f i =>
   obtain ⟨h1, h2⟩ := h
   rw [List.getD_eq_getElem?_getD, List.getElem?_eq_getElem h1, Option.getD_some] at h2
   cases y
   simp only [setS, setR, getS, rg, Int.toNat_natCast] at h1 h2 ⊢
   simp [List.getD_eq_getElem?_getD, h1, h2]
 | c o =>
   have h : o < y.cells.length := h
   cases y
   simp only [setS, setC, getS, cl, Int.toNat_natCast] at h ⊢
   simp [List.getD_eq_getElem?_getD, h]
theorem c1y {l : List Int} {n : Nat} {i : Nat} (h : seTo l n i) (hi : i <= l.length) : okA n (l.take i) /\ ∀ (hlt : i < l.length), (∀ h : 0 < i, ¬ l[i] <= l[i - 1]) -> l[i] ∉ l.take i := by
 have hs : setB (l.take i) n = true := b9t fun j hj hji => by
  rw [List.length_take] at hj
  have := h j (by omega) (by omega)
  refine ⟨by rw [List.getElem_take]; exact this.1, by rw [List.getElem_take]; exact this.2.1, fun h0 => ?_⟩
  rw [List.getElem_take, List.getElem_take]
  exact this.2.2 h0
 have hok := b1t.1 hs
 refine ⟨hok.a, fun hlt hd hm => ?_⟩
 obtain ⟨j, hj, e⟩ := List.getElem_of_mem hm
 rw [List.length_take] at hj
 rw [List.getElem_take] at e
 have h0 : 0 < i := by omega
 have h1 := hd h0
 have h2 : l[j] <= l[i - 1] := by
  by_cases e' : j = i - 1
  . subst e'; omega
  . have := List.pairwise_iff_getElem.1 hok.1 j (i - 1) (by simp; omega) (by simp; omega) (by omega)
    rw [List.getElem_take, List.getElem_take] at this
    omega
 omega
def OutL (p : Pg) (B : Heap) (Y : Pts) (t : SL) (l : List Int) (r : FV) (H' : Heap) : Prop := r = .bool (setB l ((a0d p).length : Int)) /\ ∃ Y', H' = HP [] B (MN p Y') /\ Shp p Y' /\ (setB l ((a0d p).length : Int) = true -> Y' = setS Y t l)
theorem e8w {p : Pg} (hp : VOk p) {B : Heap} {Y : Pts} (hy : Shp p Y) (hB : BsN p 2 B) {t : SL} (ht : t.ok Y) (h0 : getS Y t = []) {l : List Int} (hl : l.length <= 1000000000) : FCr Try.prog Gl 29 [.ptr [81] 8 0 0, .mp t.loc, .list 1 (ints l)] (HP [] B (MN p Y)) (OutL p B Y t l) := by
 have hsv := a2b hp
 have fB : ∀ r, B (2 :: r) = none := fun r => (hB Y Y hy hy).fb 2 r (by decide)
 have hs0 : setS Y t [] = Y := d6y ht h0
 have hput : ∀ (i : Nat) (hi : i < l.length), l[i] ∉ l.take i -> b2v Try.prog (HP [] B (MN p (setS Y t (l.take i)))) 67 (.mp t.loc) (.int .i64 l[i]) (.agg []) = some ([(t.loc, mapO (l.take i ++ [l[i]]))], .undef) := fun i hi hn => e4h (by rw [d5s (d1e _ ht), b6f ht, if_pos rfl]) hn
 have hi1 : ∀ (L : List (FM.Loc × FO)), inH (HP L B (MN p Y)) t.loc := fun L => a3p (d5s ht)
 have hi2 : ∀ (L : List (FM.Loc × FO)) (Z : Pts), inH (HP L B (MN p Z)) [81] := fun L Z => a3p b1r
 have hi3 : ∀ (L : List (FM.Loc × FO)) (a : List Int), inH (HP L B (MN p (setS Y t a))) t.loc := fun L a => a3p (d5s (d1e _ ht))
 refine a4f (res := [.tmp 6]) 9 44 [11, 10, 9] (fun d ix => 2 :: d :: ix) (fn := Try.f29) (by kernel_rfl) (by rfl) (by rfl) (by rfl) (by simp) (by decide) ?_
 repeat' first
  | ((with_reducible refine a1o ?_); refine a2h (σ := {i : Nat // i <= l.length /\ seTo l ((a0d p).length : Int) i}) (fun y => [(7, .undef), (8, .undef)]) [10, 9] (fun y => [(11, .int .i64 (y.1 : Int))]) [] (fun y => []) (fun y => MN p (setS Y t (l.take y.1))) (fun y => l.length - y.1) ⟨0, by simp, e0w l _⟩ (gk3i (j := 2) [] (hB _ _ hy (by have e : l.take 0 = [] := rfl; rw [e, hs0]; exact hy)) ?_ ?_ ?_ ?_ ?_ ?_ ?_) ?_; (iterate 7 (focus (first | rfl | (simp [LPXB, *, SIMB, hdN, injB, fB, a2e, a1u, a7x, hdN, a1i, a0w, a2g, hs0]; done)))); rintro ⟨i, hi, hk⟩; simp only [lpS, LPXB]; (try dsimp only at hi hk); obtain ⟨hok, hnm⟩ := c1y hk hi; have hYi := hy.set ht hok; have hti := d1e (t := t) (l.take i) ht; rcases a1l hi with hlt | ⟨hlt, rfl⟩; have wi := wli hlt (by omega); by_cases c1 : (l[i]'hlt) < 0; rotate_left; by_cases c2 : ((a0d p).length : Int) <= (l[i]'hlt); rotate_left; by_cases c3 : 0 < i; have wm := wm1 c3 (by omega); have hm1 : i - 1 < l.length := (by omega); by_cases c4 : (l[i]'hlt) <= (l[i - 1]'(by omega)); rotate_left; rotate_left)
  | ((with_reducible refine a1j ?_); have hdd : (∀ h : 0 < i, ¬ l[i] <= l[i - 1]) := (by intro h; first | exact c4 | exact absurd h c3); have hk2 := e0v hk hlt c1 c2 hdd; have hY2 := hy.set ht (c1y hk2 (by omega)).1; ((with_reducible refine a1j ?_); refine a1w (⟨i + 1, by omega, hk2⟩) (gk3i (j := 2) [] (hB _ _ hy hY2) ?_ ?_ ?_ ?_ ?_ ?_ ?_) ?_; (iterate 7 (focus (first | rfl | (simp [LPXB, *, SIMB, hdN, injB, fB, a2e, a1u, a7x, hdN, a1i, a0w, a2g]; done)))); (focus (dsimp only; omega))))
  | ((with_reducible refine lfH ?_); refine a7d (j := 2) (hB _ _ hy hYi) rfl ⟨?_, setS Y t (l.take i), rfl, hYi, ?_⟩ trivial; (focus (first | (simp [a2u, b9s hlt c1]; done) | (simp [a2u, b9v hlt c2]; done) | (simp [a2u, b9u hlt c3 c4]; done))); (focus (first | (rw [b9s hlt c1]; simp; done) | (rw [b9v hlt c2]; simp; done) | (rw [b9u hlt c3 c4]; simp; done))))
  | ((with_reducible refine lfH ?_); have hYe : Shp p (setS Y t l) := (by have h := hYi; rw [List.take_length] at h; exact h); refine a7d (j := 2) (hB _ _ hy hYe) rfl ⟨?_, setS Y t l, rfl, hYe, fun _ => rfl⟩ trivial; (focus (simp [a2u, b9t hk]; done)))
  | with_reducible refine stp ?_
  | (with_reducible refine stpK ?_; intro K hK)
  | (with_reducible refine stpC ?_; intro T E hT hE)
  | (with_reducible refine stp2 ?_ ?_ <;> intro h)
  | with_reducible first | refine a0q rfl ?_ | refine a0t rfl (Nat.le_of_ble_eq_true rfl) a0s ?_ | refine a0t rfl (Nat.le_of_ble_eq_true rfl) (a0r (by simp [HPXB, a7x, fB, ext, upd, *])) ?_ | refine a1v (by decide) (by kernel_rfl) ?_ | refine a0x (by decide) ?_
  | (with_reducible refine Kont.go hK ?_; clear hK K)
  | ((with_reducible first | refine KT.go hT ?_ | refine KT.go hE ?_); clear hT hE T E)
  | simp [*, -List.all_flatten, -List.all_eq_true, DEFM, fB, a2e, a1u, a7x, hdN, a1i, a0w, a2g, a1m, a0y, a0z, a2n, a2o, a2p, anR, a6m, a6l, a3r, a4g, a3k, MG_t, MG_f, rmvs, a0j, a3c, a0h, a2r, a0b, a0e, FnD.row, Ins.row, b1r, a2a, a0f, a6x, a2j, hput, e7t, e3y]
def mt (n : Nat) : List (List Int) := List.replicate n []
def MA (c : Nat) (R : List Nat) (r : Nat) : Heap := fun l => match l with
 | [83, f] => (R[f]?).map fun n => .cells 67 1 (rowM f (mt n))
 | [85, f, i] => if i < R.getD f 0 \/ (f = R.length /\ i < r) then some (mapO []) else none
 | [86, o] => if o < c then some (mapO []) else none
 | _ => none
theorem a7y (c : Nat) (R : List Nat) (r : Nat) (k : Nat) (s : List Nat) (hk : k <= 82) : MA c R r (k :: s) = none := by
 unfold MA
 split <;> first | rfl | (rename_i h; simp at h; omega)
theorem a9o (c : Nat) (R : List Nat) (r : Nat) (s : List Nat) : MA c R r (84 :: s) = none := by
 unfold MA
 split <;> first | rfl | (rename_i h; simp at h)
theorem a9n (c : Nat) (R : List Nat) (r : Nat) (s : List Nat) : MA c R r (87 :: s) = none := by
 unfold MA
 split <;> first | rfl | (rename_i h; simp at h)
theorem MA_0 : MA 0 [] 0 = noH := by
 funext l
 unfold MA
 split <;> simp [noH]
theorem e0b (c : Nat) (R : List Nat) (r o : Nat) : MA c R r [86, o] = if o < c then some (mapO []) else none := id (Eq.refl _)
theorem e7s (c : Nat) (R : List Nat) (r f : Nat) : MA c R r [83, f] = (R[f]?).map fun n => .cells 67 1 (rowM f (mt n)) := id (Eq.refl _)
theorem e0c (c : Nat) (R : List Nat) (r f i : Nat) : MA c R r [85, f, i] = if i < R.getD f 0 \/ (f = R.length /\ i < r) then some (mapO []) else none := id (Eq.refl _)
theorem MA_c (c : Nat) (R : List Nat) (r : Nat) : upd (MA c R r) [86, c] (mapO []) = MA (c + 1) R r := by
 funext l
 unfold upd
 by_cases e : l = [86, c]
 . subst e; rw [if_pos rfl, e0b, if_pos (by omega)]
 . rw [if_neg e]
   unfold MA
   split
   . rfl
   . rfl
   . rename_i o
     have : o ≠ c := fun h => e (by rw [h])
     by_cases h1 : o < c
     . rw [if_pos h1, if_pos (by omega)]
     . rw [if_neg h1, if_neg (by omega)]
   . rfl
theorem MA_r (c : Nat) (R : List Nat) (r : Nat) : upd (MA c R r) [85, R.length, r] (mapO []) = MA c R (r + 1) := by
 funext l
 unfold upd
 by_cases e : l = [85, R.length, r]
 . subst e; rw [if_pos rfl, e0c, if_pos (.inr ⟨rfl, by omega⟩)]
 . rw [if_neg e]
   unfold MA
   split
   . rfl
   . rename_i f i
     have : ¬ (f = R.length /\ i = r) := fun ⟨h1, h2⟩ => e (by rw [h1, h2])
     by_cases h1 : i < R.getD f 0 \/ (f = R.length /\ i < r)
     . rw [if_pos h1, if_pos (by omega)]
     . rw [if_neg h1, if_neg (by omega)]
   . rfl
   . rfl
theorem MA_R (c : Nat) (R : List Nat) (r : Nat) : upd (MA c R r) [83, R.length] (.cells 67 1 (rowM R.length (mt r))) = MA c (R ++ [r]) 0 := by
 funext l
 unfold upd
 by_cases e : l = [83, R.length]
 . subst e; rw [if_pos rfl, e7s]; simp
 . rw [if_neg e]
   unfold MA
   split
   . rename_i f
     have hf : f ≠ R.length := fun h => e (by rw [h])
     by_cases h1 : f < R.length
     . rw [List.getElem?_append_left h1]
     . rw [List.getElem?_eq_none (by omega), List.getElem?_eq_none (by simp; omega)]
   . rename_i f i
     by_cases h1 : f < R.length
     . have : (R ++ [r]).getD f 0 = R.getD f 0 := by simp [List.getD_eq_getElem?_getD, List.getElem?_append_left h1]
       rw [this]
       simp only [List.length_append, List.length_singleton]
       by_cases h2 : i < R.getD f 0
       . rw [if_pos (.inl h2), if_pos (.inl h2)]
       . rw [if_neg (by omega), if_neg (by omega)]
     . by_cases h2 : f = R.length
       . subst h2
         simp
       . have e1 : R.getD f 0 = 0 := by simp [List.getD_eq_getElem?_getD, List.getElem?_eq_none (Nat.le_of_not_lt h1)]
         have e2 : (R ++ [r]).getD f 0 = 0 := by rw [List.getD_eq_getElem?_getD, List.getElem?_eq_none (by simp; omega)]; rfl
         rw [e1, e2]
         simp [h2]
   . rfl
   . rfl
theorem b4k (n : Nat) : rowC (mt (n + 1)) = rowC (mt n) ++ [[.mp [86, n]]] := by
 have : mt (n + 1) = mt n ++ [[]] := by simp [mt, List.replicate_succ']
 rw [this]
 simp [rowC, List.mapIdx_append, mt]
theorem c3v (f n : Nat) : rowM f (mt (n + 1)) = rowM f (mt n) ++ [[.mp [85, f, n]]] := by
 have : mt (n + 1) = mt n ++ [[]] := by simp [mt, List.replicate_succ']
 rw [this]
 simp [rowM, List.mapIdx_append, mt]
def b0b (R : List Nat) : List (List FV) := R.mapIdx fun f n => [.sl [83, f] 1 0 n]
theorem b4j (R : List Nat) (n : Nat) : b0b (R ++ [n]) = b0b R ++ [[.sl [83, R.length] 1 0 n]] := by simp [b0b, List.mapIdx_append]
theorem a2v (R : List Nat) : (b0b R).length = R.length := by simp [b0b]
theorem a3i (n : Nat) : (mt n).length = n := by simp [mt]
theorem b9x (R : List Nat) : b0b R = rowR (R.map mt) := by
 refine List.ext_getElem (by simp [b0b, rowR]) fun i h1 h2 => ?_
 simp [b0b, rowR, mt]
theorem c2v (r : List (List Int)) : (rowC r).flatten.all FV.cellV = true := by
 rw [List.all_eq_true]
 intro v hv
 obtain ⟨q, hq, hv⟩ := List.mem_flatten.1 hv
 obtain ⟨i, hi, rfl⟩ := List.getElem_of_mem hq
 rw [a2p hi] at hv
 simp at hv; subst hv; rfl
theorem c2u (f : Nat) (r : List (List Int)) : (rowM f r).flatten.all FV.cellV = true := by
 rw [List.all_eq_true]
 intro v hv
 obtain ⟨q, hq, hv⟩ := List.mem_flatten.1 hv
 obtain ⟨i, hi, rfl⟩ := List.getElem_of_mem hq
 rw [a2o hi] at hv
 simp at hv; subst hv; rfl
theorem b8y (R : List Nat) : (b0b R).flatten.all FV.cellV = true := by
 rw [b9x, List.all_eq_true]
 intro v hv
 obtain ⟨q, hq, hv⟩ := List.mem_flatten.1 hv
 obtain ⟨i, hi, rfl⟩ := List.getElem_of_mem hq
 rw [a2n hi] at hv
 simp at hv; subst hv; rfl
theorem b3q {U : FM.Loc -> Prop} : ∀ {xs : List (List FV)}, (∀ r ∈ xs, nins U r) -> a3m U xs
 | [], _ => trivial
 | r :: xs, h => ⟨h r (by simp), b3q fun r hr => h r (by simp [hr])⟩
theorem e0z {U : FM.Loc -> Prop} (n : Nat) (h : ∀ g, g < n -> U [86, g]) : a3m U (rowC (mt n)) := b3q fun r hr => by
 obtain ⟨i, hi, rfl⟩ := List.getElem_of_mem hr
 rw [a2p hi]
 rw [a0z, a3i] at hi
 exact ⟨h i hi, trivial⟩
theorem d1o {U : FM.Loc -> Prop} (f n : Nat) (h : ∀ g, g < n -> U [85, f, g]) : a3m U (rowM f (mt n)) := b3q fun r hr => by
 obtain ⟨i, hi, rfl⟩ := List.getElem_of_mem hr
 rw [a2o hi]
 rw [a0y, a3i] at hi
 exact ⟨h i hi, trivial⟩
theorem d1m {U : FM.Loc -> Prop} (R : List Nat) (h : ∀ g, g < R.length -> U [83, g]) : a3m U (b0b R) := b3q fun r hr => by
 rw [b9x] at hr
 obtain ⟨i, hi, rfl⟩ := List.getElem_of_mem hr
 rw [a2n hi]
 rw [a1m, List.length_map] at hi
 exact ⟨h i hi, trivial⟩
section
variable {β : FM.Loc -> Option FM.Loc} {U : FM.Loc -> Prop}
theorem a5k {n : Nat} (h : ∀ g, g < n -> β [86, g] = some [86, g]) : renss β (rowC (mt n)) = rowC (mt n) := b1c (U := fun l => ∃ g, g < n /\ l = [86, g]) (e0z n fun g hg => ⟨g, hg, rfl⟩) fun l ⟨g, hg, e⟩ => by rw [e]; exact h g hg
theorem d8e {n : Nat} (h : ∀ g, g < n -> β [86, g] = some [86, g]) (hU : ∀ g, g < n -> U [86, g]) : a8m β U (rowC (mt n)) := b1j (U := fun l => ∃ g, g < n /\ l = [86, g]) (e0z n fun g hg => ⟨g, hg, rfl⟩) (fun l ⟨g, hg, e⟩ => by rw [e]; exact h g hg) fun l ⟨g, hg, e⟩ => by rw [e]; exact hU g hg
theorem b1v {f n : Nat} (h : ∀ g, g < n -> β [85, f, g] = some [85, f, g]) : renss β (rowM f (mt n)) = rowM f (mt n) := b1c (U := fun l => ∃ g, g < n /\ l = [85, f, g]) (d1o f n fun g hg => ⟨g, hg, rfl⟩) fun l ⟨g, hg, e⟩ => by rw [e]; exact h g hg
theorem d8d {f n : Nat} (h : ∀ g, g < n -> β [85, f, g] = some [85, f, g]) (hU : ∀ g, g < n -> U [85, f, g]) : a8m β U (rowM f (mt n)) := b1j (U := fun l => ∃ g, g < n /\ l = [85, f, g]) (d1o f n fun g hg => ⟨g, hg, rfl⟩) (fun l ⟨g, hg, e⟩ => by rw [e]; exact h g hg) fun l ⟨g, hg, e⟩ => by rw [e]; exact hU g hg
theorem a7p {R : List Nat} (h : ∀ g, g < R.length -> β [83, g] = some [83, g]) : renss β (b0b R) = b0b R := b1c (U := fun l => ∃ g, g < R.length /\ l = [83, g]) (d1m R fun g hg => ⟨g, hg, rfl⟩) fun l ⟨g, hg, e⟩ => by rw [e]; exact h g hg
theorem d2v {R : List Nat} (h : ∀ g, g < R.length -> β [83, g] = some [83, g]) (hU : ∀ g, g < R.length -> U [83, g]) : a8m β U (b0b R) := b1j (U := fun l => ∃ g, g < R.length /\ l = [83, g]) (d1m R fun g hg => ⟨g, hg, rfl⟩) (fun l ⟨g, hg, e⟩ => by rw [e]; exact h g hg) fun l ⟨g, hg, e⟩ => by rw [e]; exact hU g hg
end
theorem a4n (l : List (Int × Int)) : nle (sitE l) = true := by
 unfold nle
 rw [List.all_eq_true]
 intro e he
 rw [sitE, List.mem_mapIdx] at he
 obtain ⟨i, h, rfl⟩ := he
 rfl
structure BsS (B : Heap) : Prop where
 fr : ∀ k r, k <= 6 -> B (k :: r) = none
 f8 : ∀ k r, 81 <= k -> k <= 88 -> B (k :: r) = none
 clo : Clo B
theorem b8w {B : Heap} (hB : BsS B) (c : Nat) (R : List Nat) (r : Nat) : Clo (ext B (MA c R r)) := fun l o hl => by
 rw [a3v] at hl
 have up : ∀ k, MA c R r k ≠ none -> ext B (MA c R r) k ≠ none := fun k hk => by
  obtain ⟨o', ho'⟩ := Option.ne_none_iff_exists'.1 hk
  rw [b2r ho']; simp
 cases e : MA c R r l with
 | none =>
   rw [e] at hl
   refine a5p (fun q hq => ?_) (hB.clo l o hl)
   rw [a3v]
   cases MA c R r q <;> simp [hq]
 | some o' =>
   rw [e] at hl
   obtain rfl := Option.some.inj hl
   unfold MA at e
   split at e
   . rename_i f
     rw [Option.map_eq_some_iff] at e
     obtain ⟨n, hn, rfl⟩ := e
     exact d1o f n fun g hg => up _ (by rw [e0c, if_pos (.inl (by simp [List.getD_eq_getElem?_getD, hn, hg]))]; simp)
   . split at e
     . obtain rfl := Option.some.inj e; exact a2f _ _
     . cases e
   . split at e
     . obtain rfl := Option.some.inj e; exact a2f _ _
     . cases e
   . cases e
theorem c3f {B : Heap} (hB : BsS B) (c : Nat) (R : List Nat) (r : Nat) : Bs (inH (HP [] B noH)) 6 B (MA c R r) :=
 ⟨hB.fr, fun k s hk => a7y c R r k s (by omega), b8w hB c R r, fun l hl => by
  have hl : HP [] B noH l ≠ none := hl
  have e : HP [] B noH l = B l := rfl
  rw [e] at hl
  rw [a3v]
  cases MA c R r l <;> simp [hl]⟩
theorem c1m {B : Heap} (hB : BsS B) (c : Nat) (R : List Nat) (r : Nat) (s : List Nat) : ext B (MA c R r) (6 :: s) = none := a3d.2 ⟨a7y c R r 6 s (by decide), hB.fr 6 s (by decide)⟩
theorem d5r {L : List (FM.Loc × FO)} {B A : Heap} {nm : FM.Loc} {ob : FO} (h : A nm = none) : HP ((nm, ob) :: L) B A = HP L B (upd A nm ob) := by
 funext k
 unfold HP
 rw [a3v, a3v]
 by_cases e : k = nm
 . subst e; simp [h, updL, upd]
 . simp [updL, upd, e]
theorem c0o {c : Cfg} {σ : Type} {j : Nat} {vs0 vs : List FV} {tm0 tm : Asg} {L0 L : List (FM.Loc × FO)} {B A : Heap} {ix : List Nat} {sv : σ -> List (Nat × FV)} {kt : List Nat} {st : σ -> Asg} {dl : List FM.Loc} {sh : σ -> List (FM.Loc × FO)} {fA : σ -> Heap} {x : σ} (nm k0 : FM.Loc) (ob : FO) (b : List (FM.Loc × Option FM.Loc)) (hfr : ∀ s, ext B A (j :: s) = none) (hnm : ext B A nm = none) (hcl : Clo (ext B A)) (hc : ∀ l, c.L l -> ext B A l ≠ none)
 (hfA : fA x = upd A nm ob) (hn : hdN j ((a5o (sh x) (delL dl L0)).map Prod.fst ++ k0 :: b.map Prod.fst ++ b.filterMap Prod.snd) = true) (hl : hdN j (L.map Prod.fst) = true)
 (hinj : injB (bk ((nm, some k0) :: b)) (nm :: (a5o (sh x) (delL dl L0)).map Prod.fst) = true)
 (hv : b0a (bk ((nm, some k0) :: b)) (inH (HP ((nm, ob) :: a5o (sh x) (delL dl L0)) B A)) (setV (sv x) vs0) vs)
 (ht : simT (bk ((nm, some k0) :: b)) (inH (HP ((nm, ob) :: a5o (sh x) (delL dl L0)) B A)) vs.length tm (st x ++ a9l kt tm0))
 (hH : simH (bk ((nm, some k0) :: b)) (inH (HP ((nm, ob) :: a5o (sh x) (delL dl L0)) B A)) (HP L B A) ((nm, ob) :: a5o (sh x) (delL dl L0))) : Gk c (lpS vs0 tm0 L0 B sv kt st dl sh fA x) ⟨vs, tm, HP L B A, ix⟩ := by
 have hd := a8p hn
 refine gk5 (L1 := (nm, ob) :: a5o (sh x) (delL dl L0)) ((nm, some k0) :: b) ?_ hinj (fun n hn' => ?_) (fun p hp => ?_) hcl hc hv ht hH
 . rw [hfA]; exact d5r (a3d.1 hnm).1
 . simp only [List.map_cons, List.filterMap_cons, List.mem_append, List.mem_cons] at hn'
   rcases hn' with (((rfl | h) | (rfl | h)) | (e0 | h))
   . exact hnm
   . obtain ⟨r, rfl⟩ := hd n (List.mem_append_left _ (List.mem_append_left _ h)); exact hfr r
   . exact hnm
   . obtain ⟨r, rfl⟩ := hd n (List.mem_append_left _ (List.mem_append_right _ (List.mem_cons_of_mem _ h))); exact hfr r
   . obtain ⟨r, rfl⟩ := hd n (by rw [e0]; exact List.mem_append_left _ (List.mem_append_right _ List.mem_cons_self)); exact hfr r
   . obtain ⟨r, rfl⟩ := hd n (List.mem_append_right _ h); exact hfr r
 . obtain ⟨r, hr⟩ := a8p hl p.1 (List.mem_map.2 ⟨p, hp, rfl⟩)
   rw [hr]; exact hfr r
theorem e0q (fs : List FnD) : ∀ i, i <= fs.length -> ((sitP fs i).drop 1).Nodup /\ ∀ s ∈ (sitP fs i).drop 1, s.1 < (i : Int)
 | 0, _ => by simp [sitP]
 | i + 1, h => by
   obtain ⟨h1, h2⟩ := e0q fs i (by omega)
   have hpos := c5t fs i
   rw [c5s (show i < fs.length by omega), List.drop_append_of_le_length (by omega)]
   have hc : ∀ s ∈ sitC i fs[i].code fs[i].code.length, s.1 = (i : Int) := fun s hs => by
    simp only [sitC, List.mem_map] at hs
    obtain ⟨k, _, rfl⟩ := hs
    rfl
   refine ⟨?_, fun s hs => ?_⟩
   . rw [List.nodup_append]
     refine ⟨h1, ?_, fun a ha b hb e => ?_⟩
     . unfold sitC
       rw [List.nodup_iff_pairwise_ne, List.pairwise_map]
       refine ((List.nodup_iff_pairwise_ne.1 List.nodup_range).filter _).imp ?_
       intro a b hab e
       simp only [Prod.mk.injEq] at e
       exact hab (by omega)
     . have := h2 a ha
       have := hc b hb
       rw [e] at *
       omega
   . rcases List.mem_append.1 hs with hs | hs
     . have := h2 s hs; omega
     . have := hc s hs; omega
theorem d6t {p : Pg} {i : Nat} (hi : i < (a0d p).length) (h0 : 0 < i) : (a0d p)[i] ∉ ((a0d p).take i).drop 1 := fun hm => by
 have hnd := (e0q p.funcs p.funcs.length (Nat.le_refl _)).1
 have hnd : ((a0d p).drop 1).Nodup := hnd
 obtain ⟨j, hj, e⟩ := List.getElem_of_mem hm
 rw [List.length_drop, List.length_take] at hj
 rw [List.getElem_drop, List.getElem_take] at e
 have := (List.pairwise_iff_getElem.1 (List.nodup_iff_pairwise_ne.1 hnd)) j (i - 1) (by simp; omega) (by simp; omega) (by omega)
 rw [List.getElem_drop, List.getElem_drop] at this
 apply this
 rw [e]
 congr 1
 omega
theorem d7k {H : Heap} {nm : FM.Loc} {l : List (Int × Int)} {c : Nat} (h : H nm = some (.map (sitE l) c)) (hc : c = l.length - 1) (hl : 0 < l.length) {s : Int × Int} (hn : s ∉ l.drop 1) {k : Int} (hk : k = (l.length : Int)) : b2v Try.prog H 60 (.mp nm) (.agg [.int .i64 s.1, .int .i64 s.2]) (.int .i64 k) = some ([(nm, .map (sitE (l ++ [s])) l.length)], .undef) := by
 have hko : b0i Try.prog 50 (.agg [.int .i64 s.1, .int .i64 s.2]) = true := by simp [b0i, c1b, c0z]
 have hf := e5q s.1 s.2 1 (l.drop 1) (fun i => i) 0
 have hx : (l.drop 1).findIdx? (fun y => decide (y = (s.1, s.2))) = none := by
  rw [List.findIdx?_eq_none_iff]
  intro y hy
  simp only [decide_eq_false_iff_not]
  rintro rfl
  exact hn hy
 rw [hx] at hf
 have e1 : ((1 : Nat) : Int) = 1 := rfl
 rw [e1] at hf
 have hf' : a9m Try.prog 50 (.agg [.int .i64 s.1, .int .i64 s.2]) (sitE l) 0 = some none := hf
 have hsn : sitE (l ++ [s]) = sitE l ++ [(.agg [.int .i64 s.1, .int .i64 s.2], .int .i64 k, c)] := by
  unfold sitE
  rw [List.drop_append_of_le_length (by omega), List.mapIdx_append]
  simp only [List.mapIdx_cons, List.mapIdx_nil, List.length_drop]
  congr 3
  subst hk hc
  have : ((0 + (l.length - 1) : Nat) : Int) + 1 = (l.length : Int) := by omega
  rw [this]
  simp
 simp only [b2v, c7j, h, hko, if_true, hf', hsn]
 have : c + 1 = l.length := by omega
 rw [this]
section
variable {β : FM.Loc -> Option FM.Loc} {L : List (FM.Loc × FO)} {B : Heap} {c : Nat} {R : List Nat} {r : Nat}
theorem a4t {n : Nat} (hn : n <= c) (h : ∀ g, g < n -> β [86, g] = some [86, g]) : a8m β (inH (HP L B (MA c R r))) (rowC (mt n)) := d8e h fun g hg => a3p (a8x (ob := mapO []) (by rw [e0b, if_pos (by omega)]))
theorem a9v {f n : Nat} (hn : (f = R.length /\ n <= r) \/ n <= R.getD f 0) (h : ∀ g, g < n -> β [85, f, g] = some [85, f, g]) : a8m β (inH (HP L B (MA c R r))) (rowM f (mt n)) := d8d h fun g hg => a3p (a8x (ob := mapO []) (by rw [e0c, if_pos (by omega)]))
theorem a6o (h : ∀ g, g < R.length -> β [83, g] = some [83, g]) : a8m β (inH (HP L B (MA c R r))) (b0b R) := d2v h fun g hg => a3p (a8x (ob := .cells 67 1 (rowM g (mt R[g]))) (by rw [e7s, List.getElem?_eq_getElem hg]; rfl))
end
theorem f5y {c : Nat} {R : List Nat} {r : Nat} (k : Nat) (hk : k = 88) {s : List Nat} : MA c R r (k :: s) = none := by
 unfold MA
 split <;> first | rfl | (rename_i h; simp at h; omega)
def Rf (p : Pg) (f : Nat) : List Nat := (p.funcs.take f).map fun d => d.regs.toNat
theorem Rf_0 (p : Pg) : Rf p 0 = [] := rfl
theorem e2n {p : Pg} {f : Nat} (h : f <= p.funcs.length) : (Rf p f).length = f := by simp [Rf]; omega
theorem Rf_s {p : Pg} {f nr : Nat} (h : f < p.funcs.length) (hnr : p.funcs[f].regs = (nr : Int)) : Rf p (f + 1) = Rf p f ++ [nr] := by
 unfold Rf
 rw [List.take_add_one, List.getElem?_eq_getElem h, List.map_append]
 congr 1
 simp [hnr]
theorem Rf_g {p : Pg} {f : Nat} (h : f <= p.funcs.length) : (Rf p f).getD f 0 = 0 := by
 rw [List.getD_eq_getElem?_getD, List.getElem?_eq_none (by rw [e2n h]; omega)]; rfl
theorem g3y {p : Pg} {B : Heap} (hp : VOk p) (hB : BsS B) : HP [([81], .cells 64 8 [anR p]), ([82], .cells 62 1 (b0b (Rf p p.funcs.length))), ([84], .cells 67 1 (rowC (mt (a0d p).length))), ([87], .map (sitE (a0d p)) ((a0d p).length - 1))] B (MA (a0d p).length (Rf p p.funcs.length) 0) = HP [] B (MN p (a4k p)) := by
 have hR : Rf p p.funcs.length = p.funcs.map fun d => d.regs.toNat := by simp [Rf]
 have hRm : (a4k p).regs = (Rf p p.funcs.length).map mt := by
  rw [hR, List.map_map]; rfl
 have hC : (a4k p).cells = mt (a0d p).length := rfl
 funext k
 unfold HP
 rw [a3v, a3v]
 by_cases e88 : k = [88]
 . subst e88
   have e1 : MN p (a4k p) [88] = none := rfl
   rw [e1, f5y 88 (by decide)]
   rfl
 rw [b5q e88]
 by_cases e81 : k = [81]
 . subst e81; rw [a7y _ _ _ 81 _ (by decide), e7r]; simp [updL, upd]
 by_cases e82 : k = [82]
 . subst e82; rw [a7y _ _ _ 82 _ (by decide), d5o, hRm, <- b9x]; simp [updL, upd]
 by_cases e84 : k = [84]
 . subst e84; rw [a9o, d5n, hC]; simp [updL, upd]
 by_cases e87 : k = [87]
 . subst e87; rw [a9n, d9x]; simp [updL, upd]
 have hlow : updL [([81], FO.cells 64 8 [anR p]), ([82], .cells 62 1 (b0b (Rf p p.funcs.length))), ([84], .cells 67 1 (rowC (mt (a0d p).length))), ([87], .map (sitE (a0d p)) ((a0d p).length - 1))] B k = updL [] B k := by simp [updL, upd, e81, e82, e84, e87]
 rw [hlow]
 have key : MA (a0d p).length (Rf p p.funcs.length) 0 k = MF p (a4k p) false k := by
  unfold MA MF
  split
  . rename_i f
    simp only [hRm, List.getElem?_map, Option.map_map]; rfl
  . rename_i f i
    simp only [hRm, List.getElem?_map]
    by_cases h1 : f < (Rf p p.funcs.length).length
    . simp only [List.getElem?_eq_getElem h1, Option.map_some, Option.bind_some, List.getD_eq_getElem?_getD, Option.getD_some]
      by_cases h2 : i < (Rf p p.funcs.length)[f]
      . rw [if_pos (.inl h2)]
        simp [mt, h2]
      . rw [if_neg (by omega)]
        simp [mt, h2]
    . simp only [List.getElem?_eq_none (Nat.le_of_not_lt h1), List.getD_eq_getElem?_getD]
      simp
  . rename_i o
    rw [hC]
    by_cases h1 : o < (a0d p).length
    . simp [mt, h1]
    . simp [mt, h1]
  . split <;> first | rfl | (rename_i h; simp_all)
 rw [key]
theorem gk5i {c : Cfg} {vs1 vs : List FV} {tm1 tm : Asg} {L1 L : List (FM.Loc × FO)} {B A : Heap} {H1 : Heap} {ix1 ix : List Nat} (b : List (FM.Loc × Option FM.Loc)) (hH1 : HP L1 B A = H1) (hinj : injB (bk b) (L1.map Prod.fst) = true) (hN : ∀ n ∈ L1.map Prod.fst ++ b.map Prod.fst ++ b.filterMap Prod.snd, ext B A n = none) (hl : ∀ p ∈ L, ext B A p.1 = none)
 (hcl : Clo (ext B A)) (hc : ∀ l, c.L l -> ext B A l ≠ none) (hv : b0a (bk b) (inH (HP L1 B A)) vs1 vs) (ht : simT (bk b) (inH (HP L1 B A)) vs.length tm tm1) (hH : simH (bk b) (inH (HP L1 B A)) (HP L B A) L1) : Gk c (Fs.mk vs1 tm1 H1 ix1) ⟨vs, tm, HP L B A, ix⟩ := gk5 b hH1 hinj hN hl hcl hc hv ht hH
theorem d6p {p : Pg} {B : Heap} (l : FM.Loc) (h : HP [] B noH l ≠ none) : HP [] B (MN p (a4k p)) l ≠ none := fun e => by
 obtain ⟨_, h2⟩ := a4w.1 e
 exact h (a4w.2 ⟨rfl, h2⟩)
theorem a6a {p : Pg} (hp : VOk p) : Gv.Form p (a4k p) := by
 refine ⟨rfl, by simp [a4k], by simp [a4k], fun f h h' => ?_, fun f h s hs => ?_, fun s hs => ?_⟩
 . have := (hp.regs (List.getElem_mem h')).p0
   have := (hp.regs (List.getElem_mem h')).p1
   simp [a4k]; omega
 . simp [a4k] at hs
   rw [hs.2]
   exact ⟨List.Pairwise.nil, by simp⟩
 . simp [a4k] at hs
   rw [hs.2]
   exact ⟨List.Pairwise.nil, by simp⟩
theorem d4o {p : Pg} (hp : VOk p) {B : Heap} (hB : BsS B) : Clo (HP [] B (MN p (a4k p))) := by
 show Clo (ext B (MN p (a4k p)))
 exact d4q (a6a hp).shp fun l o h => a5p (fun q hq => by rw [a3v]; cases MN p (a4k p) q <;> simp [hq]) (hB.clo l o h)
theorem a6t : sitE [] = [] := rfl
theorem a6v : rowC (mt 0) = [] := rfl
theorem a6u (f : Nat) : rowM f (mt 0) = [] := rfl
theorem a5i : b0b [] = [] := rfl
theorem a6s {l : List (Int × Int)} : sitE (l.take 1) = [] := by cases l <;> rfl
theorem b9h {p : Pg} (hp : VOk p) {B : Heap} (hB : BsS B) : FC Try.prog Gl 27 [.agg [.list 4 (fns p.funcs), .list 2 (gbs p.globals), .list 1 (lays p.layouts), .int .i64 p.main]] (HP [] B noH) (.ptr [81] 8 0 0) (HP [] B (MN p (a4k p))) := by
 have hsv := a2b hp
 have hpos := a6r p
 have fB : ∀ r, B (6 :: r) = none := fun r => hB.fr 6 r (by decide)
 have hnf := hp.nf
 have hpt : ∀ (i : Nat) (hi : i < (a0d p).length) (h0 : 0 < i) (H : Heap), H [6, 12] = some (.map (sitE ((a0d p).take i)) (i - 1)) -> b2v Try.prog H 60 (.mp [6, 12]) (.agg [.int .i64 ((a0d p)[i]).1, .int .i64 ((a0d p)[i]).2]) (.int .i64 (i : Int)) = some ([([6, 12], .map (sitE ((a0d p).take i ++ [(a0d p)[i]])) ((a0d p).take i).length)], .undef) := fun i hi h0 H h => d7k h (by rw [List.length_take]; omega) (by rw [List.length_take]; omega) (d6t hi h0) (by rw [List.length_take]; omega)
 refine a3s (res := [.tmp 2]) 9 72 [20, 19, 18, 47, 46, 45, 53, 52] (fun d ix => 6 :: d :: ix) (fn := Try.f27) (by kernel_rfl) (by rfl) (by rfl) (by rfl) (by simp) (by decide) ?_
 repeat' first
  | (rw [hpt i hlt h _ (by simp [HPXB, bk_n, bk_c, fB, a2e, a1u, a7y, a9o, a9n, hdN, a2g, a4n, a1d, a0e, a0i, a0a, a2a, a0z, a0y, a2v, a3i, a6v, a6u, a5i, a6t, a6s, MA_0, a5j, a5m, List.take_zero])])
  | ((with_reducible refine a1o ?_); refine a2h (σ := {i : Nat // i <= (a0d p).length}) (fun y => [(4, .undef), (5, .undef)]) [19, 18] (fun y => [(20, .int .i64 (y.1 : Int))]) [] (fun y => [([6, 12], .map (sitE ((a0d p).take y.1)) (y.1 - 1)), ([6, 14], .cells 64 8 [[.list 4 (fns p.funcs), .list 2 (gbs p.globals), .list 1 (lays p.layouts), .int .i64 p.main, .list 2 (sits (a0d p)), .mp [6, 12], .nils, .sl [6, 1000] 1 0 y.1]]), ([6, 1000], .cells 67 1 (rowC (mt y.1)))]) (fun y => MA y.1 [] 0) (fun y => (a0d p).length - y.1) ⟨0, by simp⟩ (gk3i (j := 6) [([6, 1000], none)] (c3f hB _ _ _) ?_ ?_ ?_ ?_ ?_ ?_ ?_) ?_; (iterate 7 (focus (first | rfl | (simp [LPXB, *, SIMB, hdN, injB, bk_n, bk_c, fB, a2e, a1u, a7y, a9o, a9n, hdN, a2g, a4n, a1d, a0e, a0i, a0a, a2a, a0z, a0y, a2v, a3i, a6v, a6u, a5i, a6t, a6s, MA_0, a5j, a5m, List.take_zero]; done)))); rintro ⟨i, hi⟩; simp only [lpS, LPXB]; (try dsimp only at hi); rcases a1l hi with hlt | ⟨hlt, he⟩; rotate_left; subst i; rotate_left; have wi := wli hlt (by omega); have hs := szn (n := i + 1) (k := 8) (by omega) (by decide); have hs2 : i + 1 <= 4611686018427387904 := (by omega); have hcC := c2v (mt i))
  | ((with_reducible refine a1j ?_); refine a1w (⟨i + 1, by omega⟩) (c0o (j := 6) [86, i] [6, 38] (mapO []) [([6, 1000], some [6, 40])] (c1m hB _ _ _) (a3d.2 ⟨by simp [e0b], hB.f8 86 _ (by decide) (by decide)⟩) (b8w hB _ _ _) (fun l hl => (c3f hB _ _ _).lent l hl) (MA_c i [] 0).symm (by rfl) (by rfl) ?_ ?_ ?_ ?_) ?_; (focus (simp [injB, bk, LPXB]; done)); (focus (have r1 := a5k (β := bk (([86, i], some [6, 38]) :: [([6, 1000], some [6, 40])])) (n := i) (fun g hg => by simp [bk]; try omega); simp only [bk] at r1; have n1 := fun (L : List (FM.Loc × FO)) => a4t (β := bk (([86, i], some [6, 38]) :: [([6, 1000], some [6, 40])])) (L := L) (B := B) (c := i) (R := []) (r := 0) (n := i) (by omega) (fun g hg => by simp [bk]; try omega); simp only [bk] at n1; have e1 := b4k i; simp [LPXB, *, SIMB, bk_n, bk_c, fB, a2e, a1u, a7y, a9o, a9n, hdN, a2g, a4n, a1d, a0e, a0i, a0a, a2a, a0z, a0y, a2v, a3i, a6v, a6u, a5i, a6t, a6s, MA_0, a5j, a5m, List.take_zero, a4q, a4s, mapO, a6i]; done)); (focus (have r1 := a5k (β := bk (([86, i], some [6, 38]) :: [([6, 1000], some [6, 40])])) (n := i) (fun g hg => by simp [bk]; try omega); simp only [bk] at r1; have n1 := fun (L : List (FM.Loc × FO)) => a4t (β := bk (([86, i], some [6, 38]) :: [([6, 1000], some [6, 40])])) (L := L) (B := B) (c := i) (R := []) (r := 0) (n := i) (by omega) (fun g hg => by simp [bk]; try omega); simp only [bk] at n1; have e1 := b4k i; simp [LPXB, *, SIMB, bk_n, bk_c, fB, a2e, a1u, a7y, a9o, a9n, hdN, a2g, a4n, a1d, a0e, a0i, a0a, a2a, a0z, a0y, a2v, a3i, a6v, a6u, a5i, a6t, a6s, MA_0, a5j, a5m, List.take_zero, a4q, a4s, mapO, a6i]; done)); (focus (have r1 := a5k (β := bk (([86, i], some [6, 38]) :: [([6, 1000], some [6, 40])])) (n := i) (fun g hg => by simp [bk]; try omega); simp only [bk] at r1; have n1 := fun (L : List (FM.Loc × FO)) => a4t (β := bk (([86, i], some [6, 38]) :: [([6, 1000], some [6, 40])])) (L := L) (B := B) (c := i) (R := []) (r := 0) (n := i) (by omega) (fun g hg => by simp [bk]; try omega); simp only [bk] at n1; have e1 := b4k i; simp [LPXB, *, SIMB, bk_n, bk_c, fB, a2e, a1u, a7y, a9o, a9n, hdN, a2g, a4n, a1d, a0e, a0i, a0a, a2a, a0z, a0y, a2v, a3i, a6v, a6u, a5i, a6t, a6s, MA_0, a5j, a5m, List.take_zero, a4q, a4s, mapO, a6i]; done)); (focus (dsimp only; omega)))
  | ((with_reducible refine a1j ?_); have h00 : i = 0 := (by omega); subst h00; refine a1w (⟨0 + 1, by omega⟩) (c0o (j := 6) [86, 0] [6, 38] (mapO []) [([6, 1000], some [6, 40])] (c1m hB _ _ _) (a3d.2 ⟨by simp [e0b], hB.f8 86 _ (by decide) (by decide)⟩) (b8w hB _ _ _) (fun l hl => (c3f hB _ _ _).lent l hl) (MA_c 0 [] 0).symm (by rfl) (by rfl) ?_ ?_ ?_ ?_) ?_; (focus (simp [injB, bk, LPXB]; done)); (focus (have r1 := a5k (β := bk (([86, 0], some [6, 38]) :: [([6, 1000], some [6, 40])])) (n := 0) (fun g hg => by simp [bk]; try omega); simp only [bk] at r1; have n1 := fun (L : List (FM.Loc × FO)) => a4t (β := bk (([86, 0], some [6, 38]) :: [([6, 1000], some [6, 40])])) (L := L) (B := B) (c := 0) (R := []) (r := 0) (n := 0) (by omega) (fun g hg => by simp [bk]; try omega); simp only [bk] at n1; have e1 := b4k 0; simp [LPXB, *, SIMB, bk_n, bk_c, fB, a2e, a1u, a7y, a9o, a9n, hdN, a2g, a4n, a1d, a0e, a0i, a0a, a2a, a0z, a0y, a2v, a3i, a6v, a6u, a5i, a6t, a6s, MA_0, a5j, a5m, List.take_zero, a4q, a4s, mapO, a6i]; done)); (focus (have r1 := a5k (β := bk (([86, 0], some [6, 38]) :: [([6, 1000], some [6, 40])])) (n := 0) (fun g hg => by simp [bk]; try omega); simp only [bk] at r1; have n1 := fun (L : List (FM.Loc × FO)) => a4t (β := bk (([86, 0], some [6, 38]) :: [([6, 1000], some [6, 40])])) (L := L) (B := B) (c := 0) (R := []) (r := 0) (n := 0) (by omega) (fun g hg => by simp [bk]; try omega); simp only [bk] at n1; have e1 := b4k 0; simp [LPXB, *, SIMB, bk_n, bk_c, fB, a2e, a1u, a7y, a9o, a9n, hdN, a2g, a4n, a1d, a0e, a0i, a0a, a2a, a0z, a0y, a2v, a3i, a6v, a6u, a5i, a6t, a6s, MA_0, a5j, a5m, List.take_zero, a4q, a4s, mapO, a6i]; done)); (focus (have r1 := a5k (β := bk (([86, 0], some [6, 38]) :: [([6, 1000], some [6, 40])])) (n := 0) (fun g hg => by simp [bk]; try omega); simp only [bk] at r1; have n1 := fun (L : List (FM.Loc × FO)) => a4t (β := bk (([86, 0], some [6, 38]) :: [([6, 1000], some [6, 40])])) (L := L) (B := B) (c := 0) (R := []) (r := 0) (n := 0) (by omega) (fun g hg => by simp [bk]; try omega); simp only [bk] at n1; have e1 := b4k 0; simp [LPXB, *, SIMB, bk_n, bk_c, fB, a2e, a1u, a7y, a9o, a9n, hdN, a2g, a4n, a1d, a0e, a0i, a0a, a2a, a0z, a0y, a2v, a3i, a6v, a6u, a5i, a6t, a6s, MA_0, a5j, a5m, List.take_zero, a4q, a4s, mapO, a6i]; done)); (focus (dsimp only; omega)))
  | ((with_reducible refine a1o ?_); refine a2h (σ := {f : Nat // f <= p.funcs.length}) (fun y => [(7, .undef), (8, .undef)]) [46, 45] (fun y => [(47, .int .i64 (y.1 : Int))]) [] (fun y => [([6, 14], .cells 64 8 [[.list 4 (fns p.funcs), .list 2 (gbs p.globals), .list 1 (lays p.layouts), .int .i64 p.main, .list 2 (sits (a0d p)), .mp [6, 12], .sl [6, 1002] 1 0 y.1, .sl [6, 1000] 1 0 (a0d p).length]]), ([6, 1002], .cells 62 1 (b0b (Rf p y.1)))]) (fun y => MA (a0d p).length (Rf p y.1) 0) (fun y => p.funcs.length - y.1) ⟨0, by simp⟩ (gk3i (j := 6) [([6, 1002], none)] (c3f hB _ _ _) ?_ ?_ ?_ ?_ ?_ ?_ ?_) ?_; (iterate 7 (focus (have r1 := a5k (β := bk [([6, 1002], none)]) (n := (a0d p).length) (fun g hg => by simp [bk]; try omega); simp only [bk] at r1; have n1 := fun (L : List (FM.Loc × FO)) => a4t (β := bk [([6, 1002], none)]) (L := L) (B := B) (c := (a0d p).length) (R := []) (r := 0) (n := (a0d p).length) (by omega) (fun g hg => by simp [bk]; try omega); simp only [bk] at n1; first | rfl | (simp [LPXB, *, SIMB, hdN, injB, bk_n, bk_c, fB, a2e, a1u, a7y, a9o, a9n, hdN, a2g, a4n, a1d, a0e, a0i, a0a, a2a, a0z, a0y, a2v, a3i, a6v, a6u, a5i, a6t, a6s, MA_0, a5j, a5m, List.take_zero, Rf_0]; done)))); rintro ⟨f, hf⟩; simp only [lpS, LPXB]; (try dsimp only at hf); have hRl := e2n hf; have hRg := Rf_g hf; have hcR := b8y (Rf p f); rcases a1l hf with hlt | ⟨hlt, he⟩; rotate_left; subst f; rotate_left; have wf := wli hlt (by omega); have hrr := hp.regs (List.getElem_mem hlt); obtain ⟨nr, hnr⟩ : ∃ nr : Nat, (p.funcs[f]'hlt).regs = (nr : Int) := ⟨(p.funcs[f]'hlt).regs.toNat, by have := hrr.p0; have := hrr.p1; omega⟩; have hnr64 : nr <= 64 := (by have := hrr.r64; omega); have hRs := Rf_s hlt hnr; have hz := szn (n := f + 1) (k := 24) (by omega) (by decide); have hz2 : f + 1 <= 4611686018427387904 := (by omega))
  | ((with_reducible refine a1o ?_); refine a2h (σ := {r : Nat // r <= nr}) (fun y => [(8, .sl [6, 1001] 1 0 y.1)]) [52, 47, 46, 45] (fun y => [(53, .int .i64 (y.1 : Int))]) [] (fun y => [([6, 1001], .cells 67 1 (rowM f (mt y.1)))]) (fun y => MA (a0d p).length (Rf p f) y.1) (fun y => nr - y.1) ⟨0, by simp⟩ (gk3i (j := 6) [] (c3f hB _ _ _) ?_ ?_ ?_ ?_ ?_ ?_ ?_) ?_; (iterate 7 (focus (have r1 := a5k (β := bk [([6, 1001], none)]) (n := (a0d p).length) (fun g hg => by simp [bk]; try omega); simp only [bk] at r1; have n1 := fun (L : List (FM.Loc × FO)) => a4t (β := bk [([6, 1001], none)]) (L := L) (B := B) (c := (a0d p).length) (R := (Rf p f)) (r := 0) (n := (a0d p).length) (by omega) (fun g hg => by simp [bk]; try omega); simp only [bk] at n1; have r2 := a7p (β := bk [([6, 1001], none)]) (R := (Rf p f)) (fun g hg => by simp [bk]; try omega); simp only [bk] at r2; have n2 := fun (L : List (FM.Loc × FO)) => a6o (β := bk [([6, 1001], none)]) (L := L) (B := B) (c := (a0d p).length) (R := (Rf p f)) (r := 0) (fun g hg => by simp [bk]; try omega); simp only [bk] at n2; first | rfl | (simp [LPXB, *, SIMB, hdN, injB, bk_n, bk_c, fB, a2e, a1u, a7y, a9o, a9n, hdN, a2g, a4n, a1d, a0e, a0i, a0a, a2a, a0z, a0y, a2v, a3i, a6v, a6u, a5i, a6t, a6s, MA_0, a5j, a5m, List.take_zero, Rf_0]; done)))); rintro ⟨r, hr⟩; simp only [lpS, LPXB]; (try dsimp only at hr); rcases a1l hr with hlr | ⟨hlr, he⟩; rotate_left; subst r; rotate_left; have wr := wli hlr (by omega); have hy := szn (n := r + 1) (k := 8) (by omega) (by decide); have hy2 : r + 1 <= 4611686018427387904 := (by omega); have hcM := c2u f (mt r))
  | ((with_reducible refine a1j ?_); refine a1w (⟨r + 1, by omega⟩) (c0o (j := 6) [85, f, r] [6, 56] (mapO []) [([6, 1001], some [6, 58])] (c1m hB _ _ _) (a3d.2 ⟨by rw [e0c, if_neg (by rw [hRg]; omega)], hB.f8 85 _ (by decide) (by decide)⟩) (b8w hB _ _ _) (fun l hl => (c3f hB _ _ _).lent l hl) (by have h := MA_r (a0d p).length (Rf p f) r; rw [hRl] at h; exact h.symm) (by rfl) (by rfl) ?_ ?_ ?_ ?_) ?_; (focus (simp [injB, bk, LPXB]; done)); (focus (have r1 := a5k (β := bk (([85, f, r], some [6, 56]) :: [([6, 1001], some [6, 58])])) (n := (a0d p).length) (fun g hg => by simp [bk]; try omega); simp only [bk] at r1; have n1 := fun (L : List (FM.Loc × FO)) => a4t (β := bk (([85, f, r], some [6, 56]) :: [([6, 1001], some [6, 58])])) (L := L) (B := B) (c := (a0d p).length) (R := (Rf p f)) (r := r) (n := (a0d p).length) (by omega) (fun g hg => by simp [bk]; try omega); simp only [bk] at n1; have r2 := a7p (β := bk (([85, f, r], some [6, 56]) :: [([6, 1001], some [6, 58])])) (R := (Rf p f)) (fun g hg => by simp [bk]; try omega); simp only [bk] at r2; have n2 := fun (L : List (FM.Loc × FO)) => a6o (β := bk (([85, f, r], some [6, 56]) :: [([6, 1001], some [6, 58])])) (L := L) (B := B) (c := (a0d p).length) (R := (Rf p f)) (r := r) (fun g hg => by simp [bk]; try omega); simp only [bk] at n2; have r3 := b1v (β := bk (([85, f, r], some [6, 56]) :: [([6, 1001], some [6, 58])])) (f := f) (n := r) (fun g hg => by simp [bk]; try omega); simp only [bk] at r3; have n3 := fun (L : List (FM.Loc × FO)) => a9v (β := bk (([85, f, r], some [6, 56]) :: [([6, 1001], some [6, 58])])) (L := L) (B := B) (c := (a0d p).length) (R := (Rf p f)) (r := r) (f := f) (n := r) (.inl ⟨by first | rfl | omega, by omega⟩) (fun g hg => by simp [bk]; try omega); simp only [bk] at n3; have e1 := c3v f r; simp [LPXB, *, SIMB, bk_n, bk_c, fB, a2e, a1u, a7y, a9o, a9n, hdN, a2g, a4n, a1d, a0e, a0i, a0a, a2a, a0z, a0y, a2v, a3i, a6v, a6u, a5i, a6t, a6s, MA_0, a5j, a5m, List.take_zero, a4q, a4s, mapO, a6i]; done)); (focus (have r1 := a5k (β := bk (([85, f, r], some [6, 56]) :: [([6, 1001], some [6, 58])])) (n := (a0d p).length) (fun g hg => by simp [bk]; try omega); simp only [bk] at r1; have n1 := fun (L : List (FM.Loc × FO)) => a4t (β := bk (([85, f, r], some [6, 56]) :: [([6, 1001], some [6, 58])])) (L := L) (B := B) (c := (a0d p).length) (R := (Rf p f)) (r := r) (n := (a0d p).length) (by omega) (fun g hg => by simp [bk]; try omega); simp only [bk] at n1; have r2 := a7p (β := bk (([85, f, r], some [6, 56]) :: [([6, 1001], some [6, 58])])) (R := (Rf p f)) (fun g hg => by simp [bk]; try omega); simp only [bk] at r2; have n2 := fun (L : List (FM.Loc × FO)) => a6o (β := bk (([85, f, r], some [6, 56]) :: [([6, 1001], some [6, 58])])) (L := L) (B := B) (c := (a0d p).length) (R := (Rf p f)) (r := r) (fun g hg => by simp [bk]; try omega); simp only [bk] at n2; have r3 := b1v (β := bk (([85, f, r], some [6, 56]) :: [([6, 1001], some [6, 58])])) (f := f) (n := r) (fun g hg => by simp [bk]; try omega); simp only [bk] at r3; have n3 := fun (L : List (FM.Loc × FO)) => a9v (β := bk (([85, f, r], some [6, 56]) :: [([6, 1001], some [6, 58])])) (L := L) (B := B) (c := (a0d p).length) (R := (Rf p f)) (r := r) (f := f) (n := r) (.inl ⟨by first | rfl | omega, by omega⟩) (fun g hg => by simp [bk]; try omega); simp only [bk] at n3; have e1 := c3v f r; simp [LPXB, *, SIMB, bk_n, bk_c, fB, a2e, a1u, a7y, a9o, a9n, hdN, a2g, a4n, a1d, a0e, a0i, a0a, a2a, a0z, a0y, a2v, a3i, a6v, a6u, a5i, a6t, a6s, MA_0, a5j, a5m, List.take_zero, a4q, a4s, mapO, a6i]; done)); (focus (have r1 := a5k (β := bk (([85, f, r], some [6, 56]) :: [([6, 1001], some [6, 58])])) (n := (a0d p).length) (fun g hg => by simp [bk]; try omega); simp only [bk] at r1; have n1 := fun (L : List (FM.Loc × FO)) => a4t (β := bk (([85, f, r], some [6, 56]) :: [([6, 1001], some [6, 58])])) (L := L) (B := B) (c := (a0d p).length) (R := (Rf p f)) (r := r) (n := (a0d p).length) (by omega) (fun g hg => by simp [bk]; try omega); simp only [bk] at n1; have r2 := a7p (β := bk (([85, f, r], some [6, 56]) :: [([6, 1001], some [6, 58])])) (R := (Rf p f)) (fun g hg => by simp [bk]; try omega); simp only [bk] at r2; have n2 := fun (L : List (FM.Loc × FO)) => a6o (β := bk (([85, f, r], some [6, 56]) :: [([6, 1001], some [6, 58])])) (L := L) (B := B) (c := (a0d p).length) (R := (Rf p f)) (r := r) (fun g hg => by simp [bk]; try omega); simp only [bk] at n2; have r3 := b1v (β := bk (([85, f, r], some [6, 56]) :: [([6, 1001], some [6, 58])])) (f := f) (n := r) (fun g hg => by simp [bk]; try omega); simp only [bk] at r3; have n3 := fun (L : List (FM.Loc × FO)) => a9v (β := bk (([85, f, r], some [6, 56]) :: [([6, 1001], some [6, 58])])) (L := L) (B := B) (c := (a0d p).length) (R := (Rf p f)) (r := r) (f := f) (n := r) (.inl ⟨by first | rfl | omega, by omega⟩) (fun g hg => by simp [bk]; try omega); simp only [bk] at n3; have e1 := c3v f r; simp [LPXB, *, SIMB, bk_n, bk_c, fB, a2e, a1u, a7y, a9o, a9n, hdN, a2g, a4n, a1d, a0e, a0i, a0a, a2a, a0z, a0y, a2v, a3i, a6v, a6u, a5i, a6t, a6s, MA_0, a5j, a5m, List.take_zero, a4q, a4s, mapO, a6i]; done)); (focus (dsimp only; omega)))
  | ((with_reducible refine a1j ?_); refine a1w (⟨f + 1, by omega⟩) (c0o (j := 6) [83, f] [6, 1001] (.cells 67 1 (rowM f (mt nr))) [([6, 1002], some [6, 67])] (c1m hB _ _ _) (a3d.2 ⟨by rw [e7s, List.getElem?_eq_none (by rw [hRl]; omega)]; rfl, hB.f8 83 _ (by decide) (by decide)⟩) (b8w hB _ _ _) (fun l hl => (c3f hB _ _ _).lent l hl) (by have h := MA_R (a0d p).length (Rf p f) nr; rw [hRl] at h; rw [hRs]; exact h.symm) (by rfl) (by rfl) ?_ ?_ ?_ ?_) ?_; (focus (simp [injB, bk, LPXB]; done)); (focus (have r1 := a5k (β := bk (([83, f], some [6, 1001]) :: [([6, 1002], some [6, 67])])) (n := (a0d p).length) (fun g hg => by simp [bk]; try omega); simp only [bk] at r1; have n1 := fun (L : List (FM.Loc × FO)) => a4t (β := bk (([83, f], some [6, 1001]) :: [([6, 1002], some [6, 67])])) (L := L) (B := B) (c := (a0d p).length) (R := (Rf p f)) (r := nr) (n := (a0d p).length) (by omega) (fun g hg => by simp [bk]; try omega); simp only [bk] at n1; have r2 := a7p (β := bk (([83, f], some [6, 1001]) :: [([6, 1002], some [6, 67])])) (R := (Rf p f)) (fun g hg => by simp [bk]; try omega); simp only [bk] at r2; have n2 := fun (L : List (FM.Loc × FO)) => a6o (β := bk (([83, f], some [6, 1001]) :: [([6, 1002], some [6, 67])])) (L := L) (B := B) (c := (a0d p).length) (R := (Rf p f)) (r := nr) (fun g hg => by simp [bk]; try omega); simp only [bk] at n2; have r3 := b1v (β := bk (([83, f], some [6, 1001]) :: [([6, 1002], some [6, 67])])) (f := f) (n := nr) (fun g hg => by simp [bk]; try omega); simp only [bk] at r3; have n3 := fun (L : List (FM.Loc × FO)) => a9v (β := bk (([83, f], some [6, 1001]) :: [([6, 1002], some [6, 67])])) (L := L) (B := B) (c := (a0d p).length) (R := (Rf p f)) (r := nr) (f := f) (n := nr) (.inl ⟨by first | rfl | omega, by omega⟩) (fun g hg => by simp [bk]; try omega); simp only [bk] at n3; have e1 := b4j (Rf p f) nr; rw [hRl] at e1; simp [LPXB, *, SIMB, bk_n, bk_c, fB, a2e, a1u, a7y, a9o, a9n, hdN, a2g, a4n, a1d, a0e, a0i, a0a, a2a, a0z, a0y, a2v, a3i, a6v, a6u, a5i, a6t, a6s, MA_0, a5j, a5m, List.take_zero, a4q, a4s, mapO, a6i]; done)); (focus (have r1 := a5k (β := bk (([83, f], some [6, 1001]) :: [([6, 1002], some [6, 67])])) (n := (a0d p).length) (fun g hg => by simp [bk]; try omega); simp only [bk] at r1; have n1 := fun (L : List (FM.Loc × FO)) => a4t (β := bk (([83, f], some [6, 1001]) :: [([6, 1002], some [6, 67])])) (L := L) (B := B) (c := (a0d p).length) (R := (Rf p f)) (r := nr) (n := (a0d p).length) (by omega) (fun g hg => by simp [bk]; try omega); simp only [bk] at n1; have r2 := a7p (β := bk (([83, f], some [6, 1001]) :: [([6, 1002], some [6, 67])])) (R := (Rf p f)) (fun g hg => by simp [bk]; try omega); simp only [bk] at r2; have n2 := fun (L : List (FM.Loc × FO)) => a6o (β := bk (([83, f], some [6, 1001]) :: [([6, 1002], some [6, 67])])) (L := L) (B := B) (c := (a0d p).length) (R := (Rf p f)) (r := nr) (fun g hg => by simp [bk]; try omega); simp only [bk] at n2; have r3 := b1v (β := bk (([83, f], some [6, 1001]) :: [([6, 1002], some [6, 67])])) (f := f) (n := nr) (fun g hg => by simp [bk]; try omega); simp only [bk] at r3; have n3 := fun (L : List (FM.Loc × FO)) => a9v (β := bk (([83, f], some [6, 1001]) :: [([6, 1002], some [6, 67])])) (L := L) (B := B) (c := (a0d p).length) (R := (Rf p f)) (r := nr) (f := f) (n := nr) (.inl ⟨by first | rfl | omega, by omega⟩) (fun g hg => by simp [bk]; try omega); simp only [bk] at n3; have e1 := b4j (Rf p f) nr; rw [hRl] at e1; simp [LPXB, *, SIMB, bk_n, bk_c, fB, a2e, a1u, a7y, a9o, a9n, hdN, a2g, a4n, a1d, a0e, a0i, a0a, a2a, a0z, a0y, a2v, a3i, a6v, a6u, a5i, a6t, a6s, MA_0, a5j, a5m, List.take_zero, a4q, a4s, mapO, a6i]; done)); (focus (have r1 := a5k (β := bk (([83, f], some [6, 1001]) :: [([6, 1002], some [6, 67])])) (n := (a0d p).length) (fun g hg => by simp [bk]; try omega); simp only [bk] at r1; have n1 := fun (L : List (FM.Loc × FO)) => a4t (β := bk (([83, f], some [6, 1001]) :: [([6, 1002], some [6, 67])])) (L := L) (B := B) (c := (a0d p).length) (R := (Rf p f)) (r := nr) (n := (a0d p).length) (by omega) (fun g hg => by simp [bk]; try omega); simp only [bk] at n1; have r2 := a7p (β := bk (([83, f], some [6, 1001]) :: [([6, 1002], some [6, 67])])) (R := (Rf p f)) (fun g hg => by simp [bk]; try omega); simp only [bk] at r2; have n2 := fun (L : List (FM.Loc × FO)) => a6o (β := bk (([83, f], some [6, 1001]) :: [([6, 1002], some [6, 67])])) (L := L) (B := B) (c := (a0d p).length) (R := (Rf p f)) (r := nr) (fun g hg => by simp [bk]; try omega); simp only [bk] at n2; have r3 := b1v (β := bk (([83, f], some [6, 1001]) :: [([6, 1002], some [6, 67])])) (f := f) (n := nr) (fun g hg => by simp [bk]; try omega); simp only [bk] at r3; have n3 := fun (L : List (FM.Loc × FO)) => a9v (β := bk (([83, f], some [6, 1001]) :: [([6, 1002], some [6, 67])])) (L := L) (B := B) (c := (a0d p).length) (R := (Rf p f)) (r := nr) (f := f) (n := nr) (.inl ⟨by first | rfl | omega, by omega⟩) (fun g hg => by simp [bk]; try omega); simp only [bk] at n3; have e1 := b4j (Rf p f) nr; rw [hRl] at e1; simp [LPXB, *, SIMB, bk_n, bk_c, fB, a2e, a1u, a7y, a9o, a9n, hdN, a2g, a4n, a1d, a0e, a0i, a0a, a2a, a0z, a0y, a2v, a3i, a6v, a6u, a5i, a6t, a6s, MA_0, a5j, a5m, List.take_zero, a4q, a4s, mapO, a6i]; done)); (focus (dsimp only; omega)))
  | (with_reducible refine a1y (id := 19) fun K hK => ?_)
  | ((with_reducible refine wlH ?_); refine e8n (gk5i (vs1 := [.undef, .undef, .nilp, .ptr [81] 8 0 0, .undef, .undef, .undef, .undef, .undef]) (tm1 := []) (ix1 := []) (L1 := [([81], .cells 64 8 [anR p]), ([82], .cells 62 1 (b0b (Rf p p.funcs.length))), ([84], .cells 67 1 (rowC (mt (a0d p).length))), ([87], .map (sitE (a0d p)) ((a0d p).length - 1))]) [([81], some [6, 14]), ([82], some [6, 1002]), ([84], some [6, 1000]), ([87], some [6, 12])] (g3y hp hB) (by rfl) ?_ ?_ (b8w hB _ _ _) (fun l hl => (c3f hB _ _ _).lent l hl) ?_ ?_ ?_) ?_; (focus (intro n hn; simp at hn; (try dsimp only); rcases hn with rfl | rfl | rfl | rfl | rfl | rfl | rfl | rfl | rfl | rfl | rfl | rfl <;> simp [a3d, a7y, a9o, a9n, fB, hB.f8])); (focus (intro q hq; simp at hq; rcases hq with rfl | rfl | rfl | rfl | rfl <;> simp [a3d, a7y, fB])); (focus (simp [*, SIMB, bk_n, bk_c, fB, a2e, a1u, a7y, a9o, a9n, hdN, a2g, a4n, a1d, a0e, a0i, a0a, a2a, a0z, a0y, a2v, a3i, a6v, a6u, a5i, a6t, a6s, MA_0, a5j, a5m, List.take_zero, Rf_0]; done)); (focus (first | trivial | (simp [simT]; done))); (focus (have r1 := a5k (β := bk [([81], some [6, 14]), ([82], some [6, 1002]), ([84], some [6, 1000]), ([87], some [6, 12])]) (n := (a0d p).length) (fun g hg => by simp [bk]; try omega); simp only [bk] at r1; have n1 := fun (L : List (FM.Loc × FO)) => a4t (β := bk [([81], some [6, 14]), ([82], some [6, 1002]), ([84], some [6, 1000]), ([87], some [6, 12])]) (L := L) (B := B) (c := (a0d p).length) (R := (Rf p p.funcs.length)) (r := 0) (n := (a0d p).length) (by omega) (fun g hg => by simp [bk]; try omega); simp only [bk] at n1; have r2 := a7p (β := bk [([81], some [6, 14]), ([82], some [6, 1002]), ([84], some [6, 1000]), ([87], some [6, 12])]) (R := (Rf p p.funcs.length)) (fun g hg => by simp [bk]; try omega); simp only [bk] at r2; have n2 := fun (L : List (FM.Loc × FO)) => a6o (β := bk [([81], some [6, 14]), ([82], some [6, 1002]), ([84], some [6, 1000]), ([87], some [6, 12])]) (L := L) (B := B) (c := (a0d p).length) (R := (Rf p p.funcs.length)) (r := 0) (fun g hg => by simp [bk]; try omega); simp only [bk] at n2;  simp [*, SIMB, bk_n, bk_c, fB, a2e, a1u, a7y, a9o, a9n, hdN, a2g, a4n, a1d, a0e, a0i, a0a, a2a, a0z, a0y, a2v, a3i, a6v, a6u, a5i, a6t, a6s, MA_0, a5j, a5m, List.take_zero, Rf_0, anR, hRl]; done)); refine b3d ?_)
  | ((with_reducible refine lfH ?_); refine ⟨HP [] B (MN p (a4k p)), ⟨rfl, rfl⟩, fun _ _ h => h, d6p, a3p b1r, d4o hp hB⟩)
  | with_reducible first | refine a0p (id := 1) 6 a0k (by kernel_rfl) fun K hK => ?_ | refine a0p (id := 6) 6 a0k (by kernel_rfl) fun K hK => ?_ | refine stp ?_
  | (with_reducible refine stpK ?_; intro K hK)
  | (with_reducible refine stpC ?_; intro T E hT hE)
  | (with_reducible refine stp2 ?_ ?_ <;> intro h)
  | with_reducible first | refine a0q rfl ?_ | refine a1n (c5k hp) (by simp [nls, nl, *, NLXB]) ?_ | refine hpc (c5k hp) (by simp [nls, nl, *, NLXB]) ?_ | refine a0t rfl (Nat.le_of_ble_eq_true rfl) a0s ?_ | refine a0t rfl (Nat.le_of_ble_eq_true rfl) (a0r (by simp [HPXB, a7y, fB, ext, upd, *])) ?_ | refine a1v (by decide) (by kernel_rfl) ?_ | refine a0x (by decide) ?_
  | (with_reducible refine Kont.go hK ?_; clear hK K)
  | ((with_reducible first | refine KT.go hT ?_ | refine KT.go hE ?_); clear hT hE T E)
  | simp [*, -List.all_flatten, -List.all_eq_true, DEFM, bk_n, bk_c, fB, a2e, a1u, a7y, a9o, a9n, hdN, a2g, a4n, a1d, a0e, a0i, a0a, a2a, a0z, a0y, a2v, a3i, a6v, a6u, a5i, a6t, a6s, MA_0, a5j, a5m, List.take_zero, Rf_0, a0j, a3c, FnD.row, a5e, a8a, c2v, c2u, b8y]
end Go.He
