/- Parts of the proof. -/
import Derived.Test.YtfhhgjbcenhdeaaGreatDoorF16
import Derived.Shelf.SlIterI.Sorted
import Derived.Shelf.Sort.Plain
import Derived.Shelf.Slices.In.SortNone
import Derived.Sort.Row
import Derived.Sort.Grow
import Derived.Shelf.Slices.CompactI
import Derived.Test.YtfhhgjbcenhdeaaGreatDoorF13
import Derived.Shelf.Slices.Reverse
set_option linter.unusedSimpArgs false
set_option linter.unusedVariables false
namespace Go.Je
open Go Go.FM Go.Gv Go.Proofs
set_option maxRecDepth 100000
set_option maxHeartbeats 40000000
def rowN (L : List (List (List Int))) : List (List FV) := L.mapIdx fun f r => [.sl [92, f] 1 0 r.length]
def PF (x : Pts) : Heap := fun l => match l with
 | [91] => some (.cells 24 1 (rowN x.regs))
 | [92, f] => (x.regs[f]?).map fun r => .cells 36 1 (lays r)
 | [93] => some (.cells 36 1 (lays x.cells))
 | _ => none
section
variable {L : List (FM.Loc × FO)} {B : Heap} {x : Pts}
end
abbrev BsP (p : Pg) (j : Nat) (B : Heap) : Prop := ∀ y y', Gv.Form p y -> Gv.Form p y' -> Bs (inH (HP [] B (PF y))) j B (PF y')
def wrI (x : Pts) (o : Int) (i : Nat) (n : Ins) : Prop := ((n.op = 34 \/ n.op = 36) /\ o ∈ rg x i n.a) \/ ((n.op = 37 \/ n.op = 38) /\ o ∈ rg x i n.b)
def noW (p : Pg) (x : Pts) (o : Int) (i j : Nat) : Prop := ∀ i' (h : i' < p.funcs.length) j' (h' : j' < p.funcs[i'].code.length), i' < i \/ (i' = i /\ j' < j) -> ¬ wrI x o i' p.funcs[i'].code[j']
theorem f7i (p : Pg) (x : Pts) (o : Int) : noW p x o 0 0 := fun _ _ _ _ h => by omega
theorem f7g {p : Pg} {x : Pts} {o : Int} {i j : Nat} (h : noW p x o i j) (hi : i < p.funcs.length) (hj : j < p.funcs[i].code.length) (hn : ¬ wrI x o i p.funcs[i].code[j]) : noW p x o i (j + 1) := fun i' h1 j' h2 h3 => by
 by_cases e : i' = i /\ j' = j
 . obtain ⟨rfl, rfl⟩ := e; exact hn
 . exact h i' h1 j' h2 (by omega)
theorem f7h {p : Pg} {x : Pts} {o : Int} {i : Nat} (hi : i < p.funcs.length) (h : noW p x o i p.funcs[i].code.length) : noW p x o (i + 1) 0 := fun i' h1 j' h2 h3 => by
 by_cases e : i' = i
 . subst e; exact h i' h1 j' h2 (.inr ⟨rfl, h2⟩)
 . exact h i' h1 j' h2 (by omega)
theorem c1i {p : Pg} {x : Pts} {o : Int} {i j : Nat} (hi : i < p.funcs.length) (hj : j < p.funcs[i].code.length) (h : wrI x o i p.funcs[i].code[j]) : wrR p x o = true := by
 simp only [wrR, dE_]
 exact ⟨i, hi, _, gm_ hj, h⟩
theorem f0b {p : Pg} {x : Pts} {o : Int} (h : noW p x o p.funcs.length 0) : wrR p x o = false := by
 simp only [wrR, decide_eq_false_iff_not]
 rintro ⟨i, hi, n, hn, hw⟩
 obtain ⟨j, hj, rfl⟩ := List.getElem_of_mem hn
 exact h i hi j hj (.inl hi) hw
theorem wr5 (n : Int) : n = 34 \/ (¬ n = 34 /\ n = 36) \/ (¬ n = 34 /\ ¬ n = 36 /\ n = 37) \/ (¬ n = 34 /\ ¬ n = 36 /\ ¬ n = 37 /\ n = 38) \/ (¬ n = 34 /\ ¬ n = 36 /\ ¬ n = 37 /\ ¬ n = 38) := by omega
theorem c7m {p : Pg} (hp : VOk p) {i j : Nat} (hi : i < p.funcs.length) (hj : j < p.funcs[i].code.length) (h : (rR p.funcs[i].code[j].op).1 = 100 \/ (rR p.funcs[i].code[j].op).1 = 114) : isR p.funcs[i] p.funcs[i].code[j].a :=
 a3o (hp.ins _ (gm_ hi) _ (gm_ hj)).a h
theorem c7l {p : Pg} (hp : VOk p) {i j : Nat} (hi : i < p.funcs.length) (hj : j < p.funcs[i].code.length) (h : (rR p.funcs[i].code[j].op).2.1 = 100 \/ (rR p.funcs[i].code[j].op).2.1 = 114) : isR p.funcs[i] p.funcs[i].code[j].b :=
 a3o (hp.ins _ (gm_ hi) _ (gm_ hj)).b h
def ents (ks : List Int) : List (FV × FV × Nat) := ks.mapIdx fun i k => (.int .i64 k, .agg [], i)
def mapO (ks : List Int) : FO := .map (ents ks) ks.length
theorem b5b : ents [] = [] := rfl
theorem e1s (ks : List Int) : (ents ks).length = ks.length := by simp [ents]
theorem d6i (ks : List Int) (k : Int) : ents (ks ++ [k]) = ents ks ++ [(.int .i64 k, .agg [], ks.length)] := by simp [ents, List.mapIdx_append]
theorem b0l {ks : List Int} {e : FV × FV × Nat} : e ∈ ents ks ↔ ∃ i, ∃ h : i < ks.length, e = (.int .i64 ks[i], .agg [], i) := by
 rw [ents, List.mem_mapIdx]
 constructor
 . rintro ⟨i, h, rfl⟩; exact ⟨i, h, rfl⟩
 . rintro ⟨i, h, rfl⟩; exact ⟨i, h, rfl⟩
theorem a1o (U : FM.Loc -> Prop) (ks : List Int) : nine U (ents ks) := by
 have key : ∀ (es : List (FV × FV × Nat)), (∀ e ∈ es, ∃ k n, e = (.int .i64 k, .agg [], n)) -> nine U es := by
  intro es
  induction es with
  | nil => intro _; trivial
  | cons e es ih =>
    intro h
    obtain ⟨k, n, rfl⟩ := h e (by simp)
    exact ⟨⟨trivial, trivial⟩, ih fun e he => h e (by simp [he])⟩
 refine key _ fun e he => ?_
 obtain ⟨i, h, rfl⟩ := b0l.1 he
 exact ⟨_, _, rfl⟩
theorem d0f {ks : List Int} {i : Nat} (h : i < ks.length) : (ents ks).find? (fun e => e.2.2 == i) = some (.int .i64 ks[i], .agg [], i) := by
 rw [List.find?_eq_some_iff_getElem]
 refine ⟨by simp, i, by rw [e1s]; exact h, by simp [ents], fun j hj => ?_⟩
 simp only [ents, List.getElem_mapIdx]
 simp; omega
theorem eqK3 (a b : Int) : eqK Tryz.prog 3 (.int .i64 a) (.int .i64 b) = some (decide (a = b)) := by
 simp [eqK, c0u, FV.kd, eqV]
theorem c0q (o : Int) : ∀ (ks : List Int) (g : Nat -> Nat) (i : Nat), ∃ r, a8a Tryz.prog 3 (.int .i64 o) (ks.mapIdx fun j k => (FV.int .i64 k, FV.agg [], g j)) i = some r /\ (if o ∈ ks then ∃ n, r = some (n, .agg []) else r = none)
 | [], _, _ => ⟨none, rfl, by simp⟩
 | k :: ks, g, i => by
   obtain ⟨r, h1, h2⟩ := c0q o ks (fun j => g (j + 1)) (i + 1)
   rw [List.mapIdx_cons]
   simp only [a8a, eqK3]
   by_cases e : o = k
   . subst e
     exact ⟨_, by simp only [decide_true]; rfl, by simp⟩
   . refine ⟨r, by simp only [e, decide_false]; exact h1, ?_⟩
     simp only [List.mem_cons, e, false_or]
     exact h2
theorem e1h {ks : List Int} {o : Int} (h : o ∈ ks) : ∃ n, a8a Tryz.prog 3 (.int .i64 o) (ents ks) 0 = some (some (n, .agg [])) := by
 obtain ⟨r, h1, h2⟩ := c0q o ks (fun j => j) 0
 rw [if_pos h] at h2
 obtain ⟨n, rfl⟩ := h2
 exact ⟨n, h1⟩
theorem d5v {ks : List Int} {o : Int} (h : o ∉ ks) : a8a Tryz.prog 3 (.int .i64 o) (ents ks) 0 = some none := by
 obtain ⟨r, h1, h2⟩ := c0q o ks (fun j => j) 0
 rw [if_neg h] at h2
 subst h2
 exact h1
theorem e0e {H : Heap} {l : FM.Loc} {ks : List Int} (h : H l = some (mapO ks)) (o : Int) : b2s Tryz.prog H 141 (.mp l) (.int .i64 o) true = some (.tup [.agg [], .bool (decide (o ∈ ks))]) := by
 have hk : a8q Tryz.prog 3 (.int .i64 o) = true := by simp [a8q, c0u]
 simp only [b2s, b6q, hk, if_true, h, mapO]
 by_cases e : o ∈ ks
 . obtain ⟨n, hn⟩ := e1h e
   simp only [hn, e, if_true, decide_true]
 . simp only [d5v e, c4j, Option.map_some, e, if_true, decide_false]
theorem e6j {H : Heap} {l : FM.Loc} {ks : List Int} (h : H l = some (mapO ks)) {o : Int} (ho : o ∉ ks) : b1f Tryz.prog H 141 (.mp l) (.int .i64 o) (.agg []) = some ([(l, mapO (ks ++ [o]))], .undef) := by
 have hk : a8q Tryz.prog 3 (.int .i64 o) = true := by simp [a8q, c0u]
 simp only [b1f, b6q, h, mapO, hk, if_true, d5v ho, d6i, List.length_append, List.length_singleton]
def sitE (l : List (Int × Int)) : List (FV × FV × Nat) := (l.drop 1).mapIdx fun i s => (.agg [.int .i64 s.1, .int .i64 s.2], .int .i64 ((i : Int) + 1), i)
theorem c1t (U : FM.Loc -> Prop) (l : List (Int × Int)) : nine U (sitE l) := by
 have key : ∀ (es : List (FV × FV × Nat)), (∀ e ∈ es, ∃ a b k n, e = (.agg [.int .i64 a, .int .i64 b], .int .i64 k, n)) -> nine U es := by
  intro es
  induction es with
  | nil => intro _; trivial
  | cons e es ih =>
    intro h
    obtain ⟨a, b, k, n, rfl⟩ := h e (by simp)
    exact ⟨⟨⟨trivial, trivial, trivial⟩, trivial⟩, ih fun e he => h e (by simp [he])⟩
 refine key _ fun e he => ?_
 rw [sitE, List.mem_mapIdx] at he
 obtain ⟨i, h, rfl⟩ := he
 exact ⟨_, _, _, _, rfl⟩
def rowR (L : List (List (List Int))) : List (List FV) := L.mapIdx fun f r => [.sl [83, f] 1 0 r.length]
def rowM (f : Nat) (r : List (List Int)) : List (List FV) := r.mapIdx fun i _ => [.mp [85, f, i]]
def rowC (r : List (List Int)) : List (List FV) := r.mapIdx fun i _ => [.mp [86, i]]
def anR (p : Pg) : List FV := [.list 4 (fns p.funcs), .list 2 (gbs p.globals), .list 1 (lays p.layouts), .int .i64 p.main, .list 2 (sits (a0l p)), .mp [87], .sl [82] 1 0 p.funcs.length, .sl [84] 1 0 (a0l p).length]
def MF (p : Pg) (y : Pts) (b : Bool) : Heap := fun l => match l with
 | [81] => some (.cells 138 8 [anR p])
 | [82] => some (.cells 136 1 (rowR y.regs))
 | [83, f] => (y.regs[f]?).map fun r => .cells 141 1 (rowM f r)
 | [84] => some (.cells 141 1 (rowC y.cells))
 | [85, f, i] => ((y.regs[f]?).bind (·[i]?)).map mapO
 | [86, o] => (y.cells[o]?).map mapO
 | [87] => some (.map (sitE (a0l p)) ((a0l p).length - 1))
 | [88] => some (.cells 4 1 [[.bool b]])
 | _ => none
theorem a0u (L : List (List (List Int))) : (rowR L).length = L.length := by simp [rowR]
theorem a0r (f : Nat) (r : List (List Int)) : (rowM f r).length = r.length := by simp [rowM]
theorem a0s (r : List (List Int)) : (rowC r).length = r.length := by simp [rowC]
theorem a1y {L : List (List (List Int))} {f : Nat} (h : f < (rowR L).length) : (rowR L)[f] = [.sl [83, f] 1 0 (L[f]'(by rwa [a0u] at h)).length] := by simp [rowR]
theorem a1z {g : Nat} {r : List (List Int)} {f : Nat} (h : f < (rowM g r).length) : (rowM g r)[f] = [.mp [85, g, f]] := by simp [rowM]
theorem a2a {r : List (List Int)} {f : Nat} (h : f < (rowC r).length) : (rowC r)[f] = [.mp [86, f]] := by simp [rowC]
theorem c9v (f : Nat) {r s : List (List Int)} (h : r.length = s.length) : rowM f r = rowM f s := by
 refine List.ext_getElem (by simp [a0r, h]) fun i h1 h2 => by rw [a1z h1, a1z h2]
theorem c9w {r s : List (List Int)} (h : r.length = s.length) : rowC r = rowC s := by
 refine List.ext_getElem (by simp [a0s, h]) fun i h1 h2 => by rw [a2a h1, a2a h2]
theorem c9u {L L' : List (List (List Int))} (h : L.length = L'.length) (h' : ∀ f (h1 : f < L.length) (h2 : f < L'.length), L[f].length = L'[f].length) : rowR L = rowR L' := by
 refine List.ext_getElem (by simp [a0u, h]) fun f h1 h2 => ?_
 rw [a1y h1, a1y h2, h' f (by rwa [a0u] at h1) (by rwa [a0u] at h2)]
theorem a1i (p : Pg) (y : Pts) (b : Bool) (k : Nat) (r : List Nat) (hk : k <= 20) : MF p y b (k :: r) = none := by
 unfold MF
 split <;> first | rfl | (rename_i h; simp at h; omega)
theorem e9v (p : Pg) (y : Pts) (b : Bool) : MF p y b [81] = some (.cells 138 8 [anR p]) := id (Eq.refl _)
theorem d7u (p : Pg) (y : Pts) (b : Bool) : MF p y b [82] = some (.cells 136 1 (rowR y.regs)) := id (Eq.refl _)
theorem e2i (p : Pg) (y : Pts) (b : Bool) (f : Nat) : MF p y b [83, f] = (y.regs[f]?).map fun r => .cells 141 1 (rowM f r) := id (Eq.refl _)
theorem d7t (p : Pg) (y : Pts) (b : Bool) : MF p y b [84] = some (.cells 141 1 (rowC y.cells)) := id (Eq.refl _)
theorem e2h (p : Pg) (y : Pts) (b : Bool) (f i : Nat) : MF p y b [85, f, i] = ((y.regs[f]?).bind (·[i]?)).map mapO := id (Eq.refl _)
theorem e2g (p : Pg) (y : Pts) (b : Bool) (o : Nat) : MF p y b [86, o] = (y.cells[o]?).map mapO := id (Eq.refl _)
theorem e2f (p : Pg) (y : Pts) (b : Bool) : MF p y b [87] = some (.map (sitE (a0l p)) ((a0l p).length - 1)) := id (Eq.refl _)
theorem f5h (p : Pg) (y : Pts) (b : Bool) : MF p y b [88] = some (.cells 4 1 [[.bool b]]) := id (Eq.refl _)
def _root_.Go.Gv.SL.loc : SL -> FM.Loc
 | .r f a => [85, f, a]
 | .c o => [86, o]
section
variable {L : List (FM.Loc × FO)} {B : Heap} {p : Pg} {y : Pts} {b : Bool}
theorem a2z : HP L B (MF p y b) [81] = some (.cells 138 8 [anR p]) := a8k (e9v p y b)
theorem a5y : HP L B (MF p y b) [82] = some (.cells 136 1 (rowR y.regs)) := a8k (d7u p y b)
theorem a3j {f : Nat} (h : f < y.regs.length) : HP L B (MF p y b) [83, f] = some (.cells 141 1 (rowM f y.regs[f])) := a8k (by rw [e2i, gE_ h]; rfl)
theorem a5x : HP L B (MF p y b) [84] = some (.cells 141 1 (rowC y.cells)) := a8k (d7t p y b)
theorem a8w : HP L B (MF p y b) [87] = some (.map (sitE (a0l p)) ((a0l p).length - 1)) := a8k (e2f p y b)
theorem e2l : HP L B (MF p y b) [88] = some (.cells 4 1 [[.bool b]]) := a8k (f5h p y b)
theorem d7s {t : SL} (ht : t.ok y) : MF p y b t.loc = some (mapO (getS y t)) := by
 cases t with
 | r f a =>
   obtain ⟨h1, h2⟩ := ht
   rw [gD_, gE_ h1, gS_] at h2
   show MF p y b [85, f, a] = some (mapO (rg y f (a : Int)))
   rw [e2h, gE_ h1, Option.bind_some, gE_ h2, Option.map_some]
   simp [rg, gD_, h1, h2]
 | c o =>
   have ht : o < y.cells.length := ht
   show MF p y b [86, o] = some (mapO (cl y (o : Int)))
   rw [e2g, gE_ ht, Option.map_some]
   simp [cl, gD_, ht]
theorem a5u {t : SL} (ht : t.ok y) : HP L B (MF p y b) t.loc = some (mapO (getS y t)) := a8k (d7s ht)
theorem a9i {f i : Nat} (h : f < y.regs.length) (h' : i < y.regs[f].length) : HP L B (MF p y b) [85, f, i] = some (mapO y.regs[f][i]) := a8k (by rw [e2h, gE_ h, Option.bind_some, gE_ h']; rfl)
theorem a9h {o : Nat} (h : o < y.cells.length) : HP L B (MF p y b) [86, o] = some (mapO y.cells[o]) := a8k (by rw [e2g, gE_ h]; rfl)
theorem d7v {A A' : Heap} {l : FM.Loc} {ob : FO} (h : A' l = some ob) (he : ∀ k, k ≠ l -> A' k = A k) : upd (HP L B A) l ob = HP L B A' := by
 funext k
 unfold HP
 by_cases e : k = l
 . subst e; rw [a7w h]; simp [upd]
 . simp only [upd, e, if_false]
   rw [a3y, a3y, he k e]
theorem f5l (b' : Bool) : upd (HP L B (MF p y b)) [88] (.cells 4 1 [[.bool b']]) = HP L B (MF p y b') :=
 d7v (f5h p y b') fun k hk => by
  unfold MF
  split <;> first | rfl | exact absurd rfl hk
theorem e9x {t : SL} (ht : t.ok y) (ks : List Int) : upd (HP L B (MF p y b)) t.loc (mapO ks) = HP L B (MF p (setS y t ks) b) := by
 have ht' : t.ok (setS y t ks) := by
  cases t with
  | r f a =>
    obtain ⟨h1, h2⟩ := ht
    refine ⟨by simpa [setS, setR] using h1, ?_⟩
    simp only [setS, setR, a5j]
    simp only [true_and, h1, if_true, List.length_set]; exact h2
  | c o => show o < _; simpa [setS, setC] using (show o < y.cells.length from ht)
 refine d7v (by rw [d7s ht', b2m ht, if_pos rfl]) fun k hk => ?_
 cases t with
 | r f a =>
   obtain ⟨h1, h2⟩ := ht
   rw [gD_, gE_ h1, gS_] at h2
   have hk : k ≠ [85, f, a] := hk
   have hlen : (y.regs.set f ((y.regs.getD f []).set a ks)).length = y.regs.length := by simp
   have hrow : rowR (y.regs.set f ((y.regs.getD f []).set a ks)) = rowR y.regs := c9u (by simp) fun g h3 h4 => by
    rw [List.getElem_set]
    split
    . rename_i e; subst e; simp [gD_, h1]
    . rfl
   unfold MF
   simp only [setS, setR, tN_]
   split
   . rfl
   . rw [hrow]
   . rename_i g
     rw [List.getElem?_set]
     split
     . rename_i e; subst e
       simp only [h1, if_true, gE_ h1, Option.map_some]
       rw [c9v f (s := y.regs[f]) (by simp [gD_, h1])]
     . rfl
   . rfl
   . rename_i g i _
     rw [List.getElem?_set]
     split
     . rename_i e; subst e
       have : i ≠ a := fun e' => hk (by rw [e'])
       simp only [h1, if_true, gE_ h1, Option.bind_some, gD_, gS_, List.getElem?_set_ne (Ne.symm this)]
     . rfl
   . rfl
   . rfl
   . rfl
   . rfl
 | c o =>
   have hk : k ≠ [86, o] := hk
   have hrow : rowC (y.cells.set o ks) = rowC y.cells := c9w (by simp)
   unfold MF
   simp only [setS, setC, tN_]
   split
   . rfl
   . rfl
   . rfl
   . rw [hrow]
   . rfl
   . rename_i q _
     have : q ≠ o := fun e' => hk (by rw [e'])
     rw [List.getElem?_set_ne (Ne.symm this)]
   . rfl
   . rfl
   . rfl
end
theorem f4m {p : Pg} {y : Pts} (hy : Shp p y) (b : Bool) {B : Heap} (hB : ∀ l o, B l = some o -> ninO (fun l => ext B (MF p y b) l ≠ none) o) : Clo (ext B (MF p y b)) := fun l o hl => by
 rw [a3y] at hl
 have up : ∀ k, MF p y b k ≠ none -> ext B (MF p y b) k ≠ none := fun k hk => by
  obtain ⟨o', ho'⟩ := Option.ne_none_iff_exists'.1 hk
  rw [a7w ho']; simp
 cases e : MF p y b l with
 | none => rw [e] at hl; exact hB l o hl
 | some o' =>
   rw [e] at hl
   obtain rfl := sI_ hl
   have key : ∀ (U : FM.Loc -> Prop) (xs : List (List FV)), (∀ r ∈ xs, nins U r) -> a2u U xs := by
    intro U xs
    induction xs with
    | nil => intro _; trivial
    | cons r xs ih => intro h; exact ⟨h r (by simp), ih fun r hr => h r (by simp [hr])⟩
   unfold MF at e
   split at e
   . obtain rfl := sI_ e
     refine ⟨⟨a0e _, a0m _, a0c _, trivial, a0v _, up _ (by rw [e2f]; simp), up _ (by rw [d7u]; simp), up _ (by rw [d7t]; simp), trivial⟩, trivial⟩
   . obtain rfl := sI_ e
     refine key _ _ fun r hr => ?_
     obtain ⟨i, hi, rfl⟩ := List.getElem_of_mem hr
     rw [a1y hi]
     rw [a0u] at hi
     exact ⟨up _ (by rw [e2i, gE_ hi]; simp), trivial⟩
   . rename_i f
     rw [oM_] at e
     obtain ⟨r, hr, rfl⟩ := e
     refine key _ _ fun q hq => ?_
     obtain ⟨i, hi, rfl⟩ := List.getElem_of_mem hq
     rw [a1z hi]
     rw [a0r] at hi
     exact ⟨up _ (by rw [e2h, hr, Option.bind_some, gE_ hi]; simp), trivial⟩
   . obtain rfl := sI_ e
     refine key _ _ fun q hq => ?_
     obtain ⟨i, hi, rfl⟩ := List.getElem_of_mem hq
     rw [a2a hi]
     rw [a0s] at hi
     exact ⟨up _ (by rw [e2g, gE_ hi]; simp), trivial⟩
   . rw [oM_] at e
     obtain ⟨r, hr, rfl⟩ := e
     exact a1o _ _
   . rw [oM_] at e
     obtain ⟨r, hr, rfl⟩ := e
     exact a1o _ _
   . obtain rfl := sI_ e
     exact c1t _ _
   . obtain rfl := sI_ e
     exact ⟨⟨trivial, trivial⟩, trivial⟩
   . cases e
theorem c9b {p : Pg} {y y' : Pts} (hy : Shp p y) (hy' : Shp p y') (b b' : Bool) (l : FM.Loc) (h : MF p y b l ≠ none) : MF p y' b' l ≠ none := by
 have hr : y'.regs.length = y.regs.length := hy'.rn.trans hy.rn.symm
 have hc : y'.cells.length = y.cells.length := hy'.cn.trans hy.cn.symm
 have hf : ∀ f (h1 : f < y.regs.length) (h2 : f < y'.regs.length), y'.regs[f].length = y.regs[f].length := fun f h1 h2 => by
  have e1 := hy.fn f h1 (by rw [<- hy.rn]; exact h1)
  have e2 := hy'.fn f h2 (by rw [<- hy.rn]; exact h1)
  omega
 unfold MF at h ⊢
 split <;> first | simp | skip
 . rename_i f
   by_cases h1 : f < y.regs.length
   . rw [hr]; exact h1
   . exfalso; apply h; simp only [gn_ (Nat.le_of_not_lt h1), Option.map_none]
 . rename_i f i
   by_cases h1 : f < y.regs.length
   . have h2 : f < y'.regs.length := by omega
     by_cases h3 : i < y.regs[f].length
     . have h4 : i < y'.regs[f].length := by rw [hf f h1 h2]; exact h3
       simp [gE_ h2, h4]
     . exfalso; apply h; simp only [gE_ h1, Option.bind_some, gn_ (Nat.le_of_not_lt h3), Option.map_none]
   . exfalso; apply h; simp only [gn_ (Nat.le_of_not_lt h1), Option.bind_none, Option.map_none]
 . rename_i o
   by_cases h1 : o < y.cells.length
   . rw [hc]; exact h1
   . exfalso; apply h; simp only [gn_ (Nat.le_of_not_lt h1), Option.map_none]
 . rename_i h1 h2 h3 h4 h5 h6 h7 h8
   split at h
   . exact absurd rfl h1
   . exact absurd rfl h2
   . exact absurd rfl (h3 _)
   . exact absurd rfl h4
   . exact absurd rfl (h5 _ _)
   . exact absurd rfl (h6 _)
   . exact absurd rfl h7
   . exact absurd rfl h8
   . exact h rfl
abbrev BsM (p : Pg) (j : Nat) (B : Heap) : Prop := ∀ y b y' b', Shp p y -> Shp p y' -> Bs (inH (HP [] B (MF p y b))) j B (MF p y' b')
theorem bsM0 (p : Pg) (j : Nat) (hj : j <= 20) : BsM p j noH := fun y b y' b' hy hy' =>
 ⟨fun _ _ _ => rfl, fun k r hk => a1i p y' b' k r (by omega), f4m hy' b' fun _ _ h => (by cases h), fun l hl hn => by
  have hl : HP [] noH (MF p y b) l ≠ none := hl
  rw [a0w] at hn
  refine hl (a3t.2 ⟨?_, rfl⟩)
  cases e : MF p y b l with
  | none => rfl
  | some o => exact absurd hn.1 (c9b hy hy' b b' l (by simp [e]))⟩
theorem BsM.call {p : Pg} {j : Nat} {B : Heap} {L : List (FM.Loc × FO)} (i : Nat) (hB : BsM p j B) (hi : i < j) {y : Pts} {b : Bool} (hy : Shp p y) (hl : hdN j (L.map Prod.fst) = true) (ho : ninL (inH (HP L B (MF p y b))) L) : BsM p i (updL L B) := fun y1 b1 y2 b2 h1 h2 => by
 have hup : ∀ y' b', Shp p y' -> ∀ q, HP L B (MF p y b) q ≠ none -> HP L B (MF p y' b') q ≠ none := fun y' b' hy' q hq hn => by
  rw [a3t] at hn
  refine hq (a3t.2 ⟨?_, hn.2⟩)
  cases e : MF p y b q with
  | none => rfl
  | some o => exact absurd hn.1 (c9b hy hy' b b' q (by simp [e]))
 have key := Bs.call (A := MF p y1 b1) (L := L) i (hB y1 b1 y2 b2 h1 h2) hi hl (by
  have : ∀ {L' : List (FM.Loc × FO)}, ninL (inH (HP L B (MF p y b))) L' -> ninL (fun l => HP L B (MF p y2 b2) l ≠ none) L' := by
   intro L'
   induction L' with
   | nil => intro _; trivial
   | cons q r ih => intro h; exact ⟨a3k (fun l hl => hup y2 b2 h2 l hl) h.1, ih h.2⟩
  exact this ho) fun l hl => c9b h1 h2 b1 b2 l hl
 exact key
end Go.Je
namespace Go.Je
open Go Go.FM Go.RowKit Go.Proofs Go.Shelf Go.Maps
set_option maxRecDepth 100000
set_option maxHeartbeats 40000000
def sR : Ren := ⟨fun n => match n with | 189 => 132 | 125 => 168 | 128 => 191 | 129 => 192 | 215 => 212 | 216 => 199 | 257 => 171 | 294 => 193 | 295 => 194 | 296 => 195 | 297 => 196 | 298 => 197 | 299 => 198 | 300 => 200 | 301 => 201 | 328 => 209 | 329 => 204 | 330 => 205 | 331 => 210 | 332 => 211 | 343 => 214 | _ => 0, fun n => match n with | 9 => 9 | 3 => 3 | 46 => 126 | 0 => 0 | 51 => 221 | 53 => 67 | 4 => 4 | 183 => 214 | 182 => 213 | 131 => 113 | 5 => 5 | 218 => 227 | 222 => 231 | 228 => 236 | 229 => 237 | 28 => 36 | _ => 0, fun _ => 0⟩
theorem sL : Lays.n189 Tryz.prog sR where
 mixed := by kernel_rfl
 f125 := by kernel_rfl
 f128 := by kernel_rfl
 f129 := by kernel_rfl
 f189 := by kernel_rfl
 f215 := by kernel_rfl
 f216 := by kernel_rfl
 f257 := by kernel_rfl
 f294 := by kernel_rfl
 f295 := by kernel_rfl
 f296 := by kernel_rfl
 f297 := by kernel_rfl
 f298 := by kernel_rfl
 f299 := by kernel_rfl
 f300 := by kernel_rfl
 f301 := by kernel_rfl
 f328 := by kernel_rfl
 f329 := by kernel_rfl
 f330 := by kernel_rfl
 f331 := by kernel_rfl
 f332 := by kernel_rfl
 f343 := by kernel_rfl
 t0 := by kernel_rfl
 a0 := fun w => by kernel_rfl
 z0 := fun w => by kernel_rfl
 v0 := fun w => by kernel_rfl
 t3 := by kernel_rfl
 a3 := fun w => by kernel_rfl
 z3 := fun w => by kernel_rfl
 v3 := fun w => by kernel_rfl
 t4 := by kernel_rfl
 a4 := fun w => by kernel_rfl
 z4 := fun w => by kernel_rfl
 v4 := fun w => by kernel_rfl
 t5 := by kernel_rfl
 a5 := fun w => by kernel_rfl
 z5 := fun w => by kernel_rfl
 v5 := fun w => by kernel_rfl
 t9 := by kernel_rfl
 a9 := fun w => by kernel_rfl
 z9 := fun w => by kernel_rfl
 v9 := fun w => by kernel_rfl
 t28 := by kernel_rfl
 a28 := fun w => by kernel_rfl
 z28 := fun w => by kernel_rfl
 v28 := fun w => by kernel_rfl
 t46 := by kernel_rfl
 a46 := fun w => by kernel_rfl
 z46 := fun w => by kernel_rfl
 v46 := fun w => by kernel_rfl
 t51 := by kernel_rfl
 a51 := fun w => by kernel_rfl
 z51 := fun w => by kernel_rfl
 v51 := fun w => by kernel_rfl
 t53 := by kernel_rfl
 a53 := fun w => by kernel_rfl
 z53 := fun w => by kernel_rfl
 v53 := fun w => by kernel_rfl
 t131 := by kernel_rfl
 a131 := fun w => by kernel_rfl
 z131 := fun w => by kernel_rfl
 v131 := fun w => by kernel_rfl
 t182 := by kernel_rfl
 a182 := fun w => by kernel_rfl
 z182 := fun w => by kernel_rfl
 v182 := fun w => by kernel_rfl
 t183 := by kernel_rfl
 a183 := fun w => by kernel_rfl
 z183 := fun w => by kernel_rfl
 v183 := fun w => by kernel_rfl
 t218 := by kernel_rfl
 a218 := fun w => by kernel_rfl
 z218 := fun w => by kernel_rfl
 v218 := fun w => by kernel_rfl
 t222 := by kernel_rfl
 a222 := fun w => by kernel_rfl
 z222 := fun w => by kernel_rfl
 v222 := fun w => by kernel_rfl
 t228 := by kernel_rfl
 a228 := fun w => by kernel_rfl
 z228 := fun w => by kernel_rfl
 v228 := fun w => by kernel_rfl
 t229 := by kernel_rfl
 a229 := fun w => by kernel_rfl
 z229 := fun w => by kernel_rfl
 v229 := fun w => by kernel_rfl
def kR6 : Ren := ⟨fun n => match n with | 10 => 151 | 11 => 150 | 8 => 107 | 6 => 109 | 9 => 132 | _ => 0, fun n => match n with | 0 => 0 | 4 => 4 | 23 => 141 | 26 => 3 | 3 => 158 | 33 => 116 | 24 => 36 | 28 => 156 | _ => 0, fun _ => 0⟩
theorem kL8 : SlLaysZI.n8 Tryz.prog kR6 where
 mixed := by kernel_rfl
 f8 := ⟨ "slices.Collect[int]", by decide, by kernel_rfl⟩
 f11 := ⟨ "slices.AppendSeq[[]int,int]", by decide, by kernel_rfl⟩
 t0 := by kernel_rfl
 a0 := fun w => by kernel_rfl
 z0 := fun w => by kernel_rfl
 v0 := fun w => by kernel_rfl
 t24 := by kernel_rfl
 a24 := fun w => by kernel_rfl
 z24 := fun w => by kernel_rfl
 v24 := fun w => by kernel_rfl
 t26 := by kernel_rfl
 a26 := fun w => by kernel_rfl
 z26 := fun w => by kernel_rfl
 v26 := fun w => by kernel_rfl
 t28 := by kernel_rfl
 a28 := fun w => by kernel_rfl
 z28 := fun w => by kernel_rfl
 v28 := fun w => by kernel_rfl
 i26 := by kernel_rfl
theorem kL6 : SlLaysZI.n6 Tryz.prog kR6 where
 mixed := by kernel_rfl
 f6 := ⟨ "slices.Sorted[int]", by decide, by kernel_rfl⟩
 f8 := ⟨ "slices.Collect[int]", by decide, by kernel_rfl⟩
 f11 := ⟨ "slices.AppendSeq[[]int,int]", by decide, by kernel_rfl⟩
 t0 := by kernel_rfl
 a0 := fun w => by kernel_rfl
 z0 := fun w => by kernel_rfl
 v0 := fun w => by kernel_rfl
 t24 := by kernel_rfl
 a24 := fun w => by kernel_rfl
 z24 := fun w => by kernel_rfl
 v24 := fun w => by kernel_rfl
 t26 := by kernel_rfl
 a26 := fun w => by kernel_rfl
 z26 := fun w => by kernel_rfl
 v26 := fun w => by kernel_rfl
 t28 := by kernel_rfl
 a28 := fun w => by kernel_rfl
 z28 := fun w => by kernel_rfl
 v28 := fun w => by kernel_rfl
 i26 := by kernel_rfl
theorem f2x : SlLaysZI.n10 Tryz.prog kR6 where
 mixed := by kernel_rfl
 f10 := ⟨Tryz.f151.name, by kernel_rfl, by kernel_rfl⟩
 t0 := by kernel_rfl
 a0 := fun w => by kernel_rfl
 z0 := fun w => by kernel_rfl
 v0 := fun w => by kernel_rfl
 t4 := by kernel_rfl
 a4 := fun w => by kernel_rfl
 z4 := fun w => by kernel_rfl
 v4 := fun w => by kernel_rfl
 t23 := by kernel_rfl
 a23 := fun w => by kernel_rfl
 z23 := fun w => by kernel_rfl
 v23 := fun w => by kernel_rfl
 t26 := by kernel_rfl
 a26 := fun w => by kernel_rfl
 z26 := fun w => by kernel_rfl
 v26 := fun w => by kernel_rfl
 t33 := by kernel_rfl
 a33 := fun w => by kernel_rfl
 z33 := fun w => by kernel_rfl
 v33 := fun w => by kernel_rfl
end Go.Je
namespace Go.Je
open Go Go.FM Go.Gv Go.RowKit Go.Proofs Go.Shelf Go.Sort
set_option maxRecDepth 100000
set_option maxHeartbeats 40000000
theorem c6l {w : World} {F : Nat -> Prop} {U : FM.Loc -> Prop} {m : FM.Loc -> Nat × Nat} : ∀ (s : List Int) (vs : List Value), RFs w F U m (ints s).flatten vs -> vs = s.map (Value.int .i64)
 | [], vs, h => by
   cases h; rfl
 | a :: s, vs, h => by
   have e : (ints (a :: s)).flatten = .int .i64 a :: (ints s).flatten := rfl
   rw [e] at h
   cases h with
   | cons _ v _ vs h1 h2 =>
   cases h1
   rw [c6l s vs h2]; rfl
theorem c7i {w : World} {F : Nat -> Prop} {U : FM.Loc -> Prop} {m : FM.Loc -> Nat × Nat} : ∀ (s : List Int), RFs w F U m (ints s).flatten (s.map (Value.int .i64))
 | [] => .nil
 | a :: s => .cons _ _ _ _ (.int _ _) (c7i s)
theorem c5h {P : Program} {G : List (Nat × List Value)} {f : FuncId} {H : Heap} {l : FM.Loc} {T : TypeId} {s s' : List Int} {r : FV} {R : Nat -> Nat -> Value} (hl : H l = some (.cells T 1 (ints s))) (hs : s ≠ []) (hlen : s'.length = s.length)
 (h : ∀ (w : World) (blk cap : Nat), Holds (Value.int .i64) w blk 0 s.toArray -> blk < w.heap.size -> s.length <= cap -> Calls P f #[.slice (some ⟨blk, 0, none⟩) s.length cap] w fun e w' => e = .returned (R blk cap) /\ ∃ n os, w' = grow (putRow (Value.int .i64) (Sort.ahead w n) blk 0 s'.toArray) os)
 (hr : ∀ (w' : World) (F : Nat -> Prop) (m : FM.Loc -> Nat × Nat) (cap : Nat), s.length <= cap -> cap <= (m l).2 -> RF w' F (fun k => upd H l (.cells T 1 (ints s')) k ≠ none) m r (R (m l).1 cap)) :
 FC P G f [.sl l 1 0 s.length] H r (upd H l (.cells T 1 (ints s'))) := by
 intro w F m vs hF hG hv hH
 have hpos : 0 < s.length := List.length_pos_iff.2 hs
 have hil : ∀ s : List Int, (ints s).length = s.length := fun s => by simp [ints]
 rcases hH.obj l _ hl with ⟨e, _⟩ | ⟨h0, c, g1, g2, g3, g4, g5⟩
 . have := hil s
   rw [e] at this
   simp at this; omega
 obtain ⟨v, rfl, g⟩ := hv.single
 have hlive : Live H m l := ⟨_, hl, by simp, h0⟩
 have hb := (hH.old l hlive)
 obtain ⟨cap, rfl, hc, hcap⟩ : ∃ cap, v = .slice (some ⟨(m l).1, 0, none⟩) s.length cap /\ s.length <= cap /\ cap <= (m l).2 := by
  generalize hn : s.length = n at g hpos
  cases g with
  | sl _ _ _ _ cap o hu hc ho hs => exact ⟨cap, by congr; omega, hc, by omega⟩
  | sl0 => omega
 have hg5 := c6l s _ g5
 have hcell : ∀ j, j < s.length -> c[j]? = some (Value.int .i64 s[j]!) := fun j hj => by
  have := congrArg (·[j]?) hg5
  simp only [List.getElem?_map, Nat.mul_one, hil] at this
  rw [List.getElem?_take, if_pos hj, Array.getElem?_toList, gE_ hj] at this
  rw [this, Option.map_some, getElem!_pos s j hj]
 have hH0 : Holds (Value.int .i64) w (m l).1 0 s.toArray := fun j hj => by
  have hj' : j < s.length := by simpa using hj
  refine ⟨?_, ?_⟩
  . rw [a6z g1, Nat.zero_add, hcell j hj']
    simp [hj']
  . simp [World.frozen?, g1]
 refine (h w (m l).1 cap hH0 hb.1 hc).mono ?_
 rintro e w' ⟨rfl, n, os, rfl⟩
 have hsz : (w.heap.modify (m l).1 (onCells (putCells (Value.int .i64) 0 s'.toArray))).size = w.heap.size := by simp
 have hblk : ∀ y, y < w.heap.size -> y ≠ (m l).1 -> (grow (putRow (Value.int .i64) (Sort.ahead w n) (m l).1 0 s'.toArray) os).heap[y]? = w.heap[y]? := fun y hy hne => by
  simp only [grow, putRow, mapBlock, Sort.ahead]
  rw [Array.getElem?_append_left (by rw [hsz]; exact hy), Array.getElem?_modify]
  rw [if_neg (Ne.symm hne)]
 have hme : (grow (putRow (Value.int .i64) (Sort.ahead w n) (m l).1 0 s'.toArray) os).heap[(m l).1]? = some (.cells (putCells (Value.int .i64) 0 s'.toArray c) T (0, 0)) := by
  simp only [grow, putRow, mapBlock, Sort.ahead]
  rw [Array.getElem?_append_left (by rw [hsz]; exact hb.1), Array.getElem?_modify, if_pos rfl, g1]
  rfl
 have hsize : (grow (putRow (Value.int .i64) (Sort.ahead w n) (m l).1 0 s'.toArray) os).heap.size = w.heap.size + os.size := by
  simp [grow, putRow, mapBlock, Sort.ahead]
 have hU : ∀ k, H k ≠ none -> upd H l (.cells T 1 (ints s')) k ≠ none := fun k hk => by
  unfold upd; split
  . simp
  . exact hk
 have hL : ∀ k, Live (upd H l (.cells T 1 (ints s'))) m k -> Live H m k := fun k hk => by
  by_cases e : k = l
  . subst e; exact hlive
  . obtain ⟨o, a1, a2, a3⟩ := hk
    exact ⟨o, by simpa [upd, e] using a1, a2, a3⟩
 refine ⟨_, F, m, rfl, fun _ h => h, fun y hy => ⟨.inl hy, by rw [hsize]; have := hF y hy; omega⟩, fun k hk => ⟨rfl, hU k hk⟩, hr _ _ _ _ hc hcap, ⟨fun k o hk => ?_, fun a b ha hb' e => hH.inj a b (hL a ha) (hL b hb') e, fun k hk => ?_⟩, fun k hk => .inl ⟨k, hL k hk, rfl⟩, by rw [hsize]; omega, fun y hy hn => ?_, rfl, rfl, rfl⟩
 . by_cases e : k = l
   . subst e
     have : o = .cells T 1 (ints s') := by simpa [upd] using hk.symm
     subst this
     refine .inr ⟨h0, _, hme, by simp [putCells, g2], fun x hx => ?_, ?_, ?_⟩
     . simp only [ints, List.mem_map] at hx
       obtain ⟨a, _, rfl⟩ := hx; rfl
     . rw [hil] at g4 ⊢
       simp [putCells, hlen]; omega
     . have e2 : (putCells (Value.int .i64) 0 s'.toArray c).toList.take ((ints s').length * 1) = s'.map (Value.int .i64) := by
        rw [hil, Nat.mul_one]
        refine List.ext_getElem? fun j => ?_
        rw [List.getElem?_take, List.getElem?_map]
        split
        . rename_i hj
          rw [Array.getElem?_toList, putCells, Array.getElem?_mapIdx]
          have hj2 := hcell j (by omega)
          rw [hj2, gE_ hj]
          simp [hj]
        . rename_i hj
          rw [gn_ (by omega)]; rfl
       rw [e2]
       exact c7i s'
   . have hk' : H k = some o := by simpa [upd, e] using hk
     refine (hH.obj k o hk').keep (fun _ h => h) (fun b hbF => hblk b (hF b hbF) fun e2 => hb.2 (e2 ▸ hbF)) hU (fun _ _ => rfl) rfl fun ho h1 => ?_
     have hlk : Live H m k := ⟨o, hk', ho, h1⟩
     exact hblk _ (hH.old k hlk).1 fun e2 => e (hH.inj k l hlk hlive e2)
 . have := hH.old k (hL k hk)
   exact ⟨by rw [hsize]; omega, this.2⟩
 . exact hblk y hy fun e => hn l hlive e.symm
end Go.Je
namespace Go.Je
open Go Go.FM Go.Gv Go.RowKit Go.Proofs Go.Shelf Go.Sort
set_option maxRecDepth 100000
set_option maxHeartbeats 400000
def cpR : Ren := ⟨fun n => match n with | 20 => 133 | _ => 0, fun n => match n with | 0 => 0 | 3 => 3 | 4 => 4 | 22 => 36 | _ => 0, fun _ => 0⟩
theorem cpL : Lays2.n20 Tryz.prog cpR where
 mixed := by kernel_rfl
 f20 := by kernel_rfl
 t0 := by kernel_rfl
 a0 := fun w => by kernel_rfl
 z0 := fun w => by kernel_rfl
 v0 := fun w => by kernel_rfl
 t3 := by kernel_rfl
 a3 := fun w => by kernel_rfl
 z3 := fun w => by kernel_rfl
 v3 := fun w => by kernel_rfl
 t4 := by kernel_rfl
 a4 := fun w => by kernel_rfl
 z4 := fun w => by kernel_rfl
 v4 := fun w => by kernel_rfl
 t22 := by kernel_rfl
 a22 := fun w => by kernel_rfl
 z22 := fun w => by kernel_rfl
 v22 := fun w => by kernel_rfl
 i3 := by kernel_rfl
theorem d1n {H : Heap} {l : FM.Loc} {T : TypeId} {s : List Int} {n : Nat} (hn : s.length = n) (hl : H l = some (.cells T 1 (ints s))) (hs : s ≠ []) (hz : n < 4611686018427387904) : FC Tryz.prog Gl 132 [.sl l 1 0 n] H (.tup []) (upd H l (.cells T 1 (ints (srt s)))) := by
 subst hn
 exact c5h (R := fun _ _ => .tuple #[]) hl hs (a7h s) (fun w blk cap h1 h2 h3 => by
  have h : Calls Tryz.prog 132 #[.slice (some ⟨blk, 0, none⟩) s.length cap] w _ := Any.slices_Sort_int sL blk 0 cap s w h1 h2 hz
  exact h) fun _ _ _ _ _ _ => .tup [] [] .nil
theorem b7y {H : Heap} {l : FM.Loc} {T : TypeId} {s : List Int} {n : Nat} (hn : s.length = n) (hl : H l = some (.cells T 1 (ints s))) (hs : s ≠ []) (hz : n < 4611686018427387904) : FC Tryz.prog Gl 133 [.sl l 1 0 n] H (.sl l 1 0 (Lib.compact s).length) (upd H l (.cells T 1 (ints (Lib.compact s ++ List.replicate (s.length - (Lib.compact s).length) 0)))) := by
 subst hn
 have hc : (Lib.compact s).length <= s.length := by
  unfold Lib.compact Lib.compactUpTo
  rw [List.length_map]
  exact Nat.le_trans (List.length_filter_le _ _) (by simp)
 refine c5h (R := fun blk cap => .slice (some ⟨blk, 0, none⟩) (Lib.compact s).length cap) hl hs (by simp; omega) (fun w blk cap h1 h2 h3 => ?_) fun w' F m cap h1 h2 => ?_
 . have h : Calls Tryz.prog 133 #[.slice (some ⟨blk, 0, none⟩) s.length cap] w _ := Any.slices_Compact_int cpL blk 0 cap s w h1 (Nat.le_trans (Nat.le_of_lt hz) (by decide)) h3
   refine h.mono ?_
   rintro e w' ⟨h4, q, h5⟩
   exact ⟨h4, q, #[], by rw [h5, grow_empty]⟩
 . exact .sl l 1 0 _ cap 0 (by simp [upd]) (by omega) (.inr rfl) (by omega)
end Go.Je
namespace Go.Je
open Go Go.FM Go.Gv Go.Proofs
set_option maxRecDepth 100000
set_option maxHeartbeats 40000000
theorem cgB {P : Program} {c : Cfg} {ops : Array Oper} {o : Oper} {rest : List Oper} {K : Fs -> Prop} {s : Fs} {f : FuncId} {b : Bool} {A : List FV} (h : b0z P c ops o rest K s f b A) : b0z P c ops o rest K s f b A := h
theorem b6c (a b : List Int) : (ints (a ++ b)).take a.length = ints a := by simp [ints]
theorem d8b (n : Int) : a1x [] n = [n] := rfl
theorem f0x {s : List Int} (h : s ≠ []) : srt s ≠ [] := fun e => h (eN_ (by rw [<- a7h s, e]; rfl))
theorem b5h {H : Heap} {l : FM.Loc} {o o' : FO} : upd (upd H l o) l o' = upd H l o' := by
 funext k
 by_cases e : k = l <;> simp [upd, e]
theorem d1i {s : List Int} {H : Heap} {l : FM.Loc} (hs : s ≠ []) (hz : s.length < 4611686018427387904) : FC Tryz.prog Gl 165 [.sl l 1 0 s.length] (upd H l (.cells 3 1 (ints s))) (.sl l 1 0 (s.foldl a1x []).length) (upd H l (.cells 3 1 (ints (s.foldl a1x [] ++ List.replicate (s.length - (s.foldl a1x []).length) 0)))) := by
 refine b4d (res := [.tmp 2]) 3 7 [] (fun d ix => 0 :: d :: ix) (fn := Tryz.f165) (by kernel_rfl) (by rfl) (by rfl) (by rfl) (by simp) (by decide) ?_
 repeat' first
  | with_reducible first | refine stp ?_ | refine stpK ?_; intro K hK | refine stpC ?_; intro T E hT hE | refine stp2 ?_ ?_ <;> intro h | refine a0g rfl ?_ | refine a4t (d1n (s := s) (T := 3) rfl (by simp [upd]) hs hz) ?_ | refine a4t (b7y (s := srt s) (T := 3) (a7h s) (by simp [upd]) (f0x hs) hz) ?_ | refine a0j rfl (lbR rfl) a0i ?_ | refine a0j rfl (lbR rfl) (a0h (by simp [HPXB, ext, upd, *])) ?_ | refine a1g (by decide) (by kernel_rfl) ?_ | refine a0o (by decide) ?_ | refine Kont.go hK ?_; clear hK K | refine KT.go hT ?_; clear hT hE T E | refine KT.go hE ?_; clear hT hE T E
  | simp [*, -List.all_flatten, -List.all_eq_true, DEFB, b5h, b5m, a7h, b9a, a3n]
theorem d8l {s : List Int} {n : Nat} (hn : s.length = n) {H : Heap} {l : FM.Loc} (h : H l = some (.cells 3 1 (ints s))) (hs : s ≠ []) (hz : n < 4611686018427387904) : FC Tryz.prog Gl 165 [.sl l 1 0 n] H (.sl l 1 0 (s.foldl a1x []).length) (upd H l (.cells 3 1 (ints (s.foldl a1x [] ++ List.replicate (s.length - (s.foldl a1x []).length) 0)))) := by
 subst hn
 have := d1i (H := H) (l := l) hs hz
 rwa [b0e h] at this
theorem b7x {nm : ByteArray} {pa rg : Int} {c : List Ins} (hc : CodeOk c) {i : Nat} (hi : i < c.length) : PC Tryz.prog Gl 131 [.agg [.str nm, .int .i64 pa, .int .i64 rg, .list 5 (inss c)], .int .i64 i] (.list 1 (ints (nx c i))) := by
 have hn := c3y hi
 have h1000 := hc.n1000
 have wi : IntKind.wrap .i64 ((i : Int) + 1) = (i : Int) + 1 := by rw [IntKind.wrap_i64]; omega
 have hb := fun e => (hc.sel i hi e).1
 have wb : c[i].op = 50 -> IntKind.wrap .i64 ((i : Int) + 1 + c[i].b) = (i : Int) + 1 + c[i].b := fun e => by
  have := hb e
  rw [IntKind.wrap_i64]; omega
 have wl : IntKind.wrap .i64 ((c.length : Int) - 1) = (c.length : Int) - 1 := by rw [IntKind.wrap_i64]; omega
 have hd1 : ((0 : Int) <= (i : Int) /\ (i : Int) <= (c.length : Int) - 1) := by omega
 refine a3s (res := [.tmp 4]) 6 48 [19] (fun d ix => 0 :: d :: ix) (fn := Tryz.f131) (by kernel_rfl) (by rfl) (by rfl) (by rfl) (by simp) (by decide) ?_
 repeat' first
  | with_reducible first | refine stp ?_ | refine stpK ?_; intro K hK | refine stpC ?_; intro T E hT hE | refine stp2 ?_ ?_ <;> intro h | refine a0g rfl ?_ | refine a1e (c31 _ _ _) (by simp [nls, nl, *, NLXB]) ?_ | refine hpc (c31 _ _ _) (by simp [nls, nl, *, NLXB]) ?_
  | ((with_reducible refine cgB ?_); refine a4t (d8l (n := 2) (s := [(i : Int) + 1, c[i].c]) (l := [0, 35]) rfl ?_ (by simp) (by simp)) ?_; (focus (simp [HPXB, a4y, a2r, a2f]; done)))
  | with_reducible first | refine a0j rfl (lbR rfl) a0i ?_ | refine a0j rfl (lbR rfl) (a0h (by simp [HPXB, ext, upd, *])) ?_ | refine a1g (by decide) (by kernel_rfl) ?_ | refine a0o (by decide) ?_ | refine Kont.go hK ?_; clear hK K | refine KT.go hT ?_; clear hT hE T E | refine KT.go hE ?_; clear hT hE T E
  | simp [*, -List.all_flatten, -List.all_eq_true, DEFB, LENB, asR, a1w, Ins.row, b6c, d8b, a2r, a4y, a2f, List.foldl_cons, List.foldl_nil]
end Go.Je
namespace Go.Je
open Go Go.FM Go.Gv Go.RowKit Go.Proofs Go.Shelf Go.Sort
set_option maxRecDepth 100000
set_option maxHeartbeats 40000000
def rvR : Ren := ⟨fun n => match n with | 112 => 136 | _ => 0, fun n => match n with | 0 => 0 | 3 => 3 | 4 => 4 | 28 => 36 | _ => 0, fun _ => 0⟩
theorem rvL : Lays.n112 Tryz.prog rvR where
 mixed := by kernel_rfl
 f112 := by kernel_rfl
 t0 := by kernel_rfl
 a0 := fun w => by kernel_rfl
 z0 := fun w => by kernel_rfl
 v0 := fun w => by kernel_rfl
 t3 := by kernel_rfl
 a3 := fun w => by kernel_rfl
 z3 := fun w => by kernel_rfl
 v3 := fun w => by kernel_rfl
 t4 := by kernel_rfl
 a4 := fun w => by kernel_rfl
 z4 := fun w => by kernel_rfl
 v4 := fun w => by kernel_rfl
 t28 := by kernel_rfl
 a28 := fun w => by kernel_rfl
 z28 := fun w => by kernel_rfl
 v28 := fun w => by kernel_rfl
theorem d1p {H : Heap} {l : FM.Loc} {T : TypeId} {s : List Int} {n : Nat} (hn : s.length = n) (hl : H l = some (.cells T 1 (ints s))) (hs : s ≠ []) (hz : n < 4611686018427387904) : FC Tryz.prog Gl 136 [.sl l 1 0 n] H (.tup []) (upd H l (.cells T 1 (ints s.reverse))) := by
 subst hn
 refine c5h (R := fun _ _ => .tuple #[]) hl hs (by simp) (fun w blk cap h1 h2 h3 => ?_) fun _ _ _ _ _ _ => .tup [] [] .nil
 have h : Calls Tryz.prog 136 #[.slice (some ⟨blk, 0, none⟩) s.length cap] w _ := Any.slices_Reverse_int rvL blk 0 cap s w h1 (Nat.le_trans (Nat.le_of_lt hz) (by decide))
 refine h.mono ?_
 rintro e w' ⟨h4, q, h5⟩
 exact ⟨h4, q, #[], by rw [h5, grow_empty]⟩
end Go.Je
namespace Go.Je
open Go Go.FM Go.RowKit Go.Proofs Go.Shelf Go.Maps Go.Sort
set_option maxRecDepth 100000
set_option maxHeartbeats 40000000
theorem b6e {H : Type} (x : Lit × DataW H) : ∀ l : List (Lit × DataW H), (DataW.insert x l).Perm (x :: l)
 | [] => List.Perm.refl _
 | y :: r => by
   unfold DataW.insert
   split
   . exact List.Perm.refl _
   . exact ((b6e x r).cons y).trans (List.Perm.swap x y r)
theorem b3h {H : Type} : ∀ l : List (Lit × DataW H), (l.foldr DataW.insert []).Perm l
 | [] => List.Perm.refl _
 | x :: r => (b6e x _).trans ((b3h r).cons x)
theorem d2r {w : World} {F : Nat -> Prop} {U : FM.Loc -> Prop} {m : FM.Loc -> Nat × Nat} : ∀ {es : List (FV × FV × Nat)} {xs : List MapEntry}, REs w F U m es xs -> ∀ (g : Nat -> Nat) (ks : List Int), es = ks.mapIdx (fun i k => (FV.int .i64 k, FV.agg [], g i)) -> xs.map (·.key) = ks.map encZ /\ xs.map (·.born) = ks.mapIdx fun i _ => g i
 | _, _, .nil, g, ks, h => by
   cases ks with
   | nil => exact ⟨rfl, rfl⟩
   | cons k ks => simp [List.mapIdx_cons] at h
 | _, _, .cons e x es xs h1 hs, g, ks, h => by
   cases ks with
   | nil => simp at h
   | cons k ks =>
     rw [List.mapIdx_cons, List.cons.injEq] at h
     obtain ⟨rfl, h⟩ := h
     have ih := d2r hs (fun i => g (i + 1)) ks h
     have hk : x.key = .int .i64 k := by have := h1.key; generalize x.key = y at this; cases this; rfl
     have hb : x.born = g 0 := h1.born
     rw [List.mapIdx_cons, List.map_cons, List.map_cons, List.map_cons, ih.1, ih.2, hk, hb]
     exact ⟨rfl, rfl⟩
theorem c2h (ks : List Int) : (ks.mapIdx fun i _ => i) = List.range ks.length := by
 refine List.ext_getElem (by simp) fun i h1 h2 => by simp
def noR : Value -> Option (DataW Unit × List MemPlace) := fun _ => some (.nil, [])
theorem e6p {w : World} {F : Nat -> Prop} {m : FM.Loc -> Nat × Nat} {H : Heap} {k : FM.Loc} {ks : List Int} (hO : OR w F H m k (mapO ks)) (hnd : ks.Nodup) (hb : ∀ x ∈ ks, 0 <= x /\ x < 1000000000) (hl : ks.length <= 1000000000) :
 ∃ D0, w.ownsMap Tryz.prog 3 noR (m k).1 ks.length D0 /\ (intKeys D0).Perm ks /\ Maps.size D0 = ks.length := by
 obtain ⟨_, ar, h1, h2⟩ := hO
 obtain ⟨e1, e2⟩ := d2r h2 (fun i => i) ks rfl
 rw [c2h] at e2
 have hsz : ar.toList.length = ks.length := by have := congrArg List.length e1; simpa using this
 have hrd : ∀ x ∈ ar.toList, ∃ a, a ∈ ks /\ x.key = .int .i64 a /\ Go.WideElems.rd Tryz.prog 3 noR x = some (.int .i64 a, .nil) := fun x hx => by
  have : x.key ∈ ks.map encZ := by rw [<- e1]; exact List.mem_map_of_mem hx
  obtain ⟨a, ha, hk⟩ := List.mem_map.1 this
  have hw : (Lit.int .i64 a).wf = true := by
   have := hb a ha
   have h1 : IntKind.i64.min = -9223372036854775808 := by decide
   have h2 : IntKind.i64.max = 9223372036854775807 := by decide
   simp [Lit.wf, h1, h2]
   omega
  have hk' : x.key = .int .i64 a := hk.symm
  refine ⟨a, ha, hk', ?_⟩
  have : keyOf Tryz.prog 3 x.key = some (.int .i64 a) := by rw [hk']; exact keyOf_int_mk f2x.t26 hw
  simp [Go.WideElems.rd, this, noR]
 refine ⟨_, ⟨ar, _, h1, ⟨by rw [<- Array.length_toList, hsz]; exact Nat.le_trans hl (by decide), ⟨fun x hx => ?_, ?_, ?_⟩, fun x hx => ?_⟩, by rw [<- Array.length_toList, hsz]; exact nr_ _, rfl⟩, ?_, ?_⟩
 . have : x.born ∈ List.range ks.length := by rw [<- e2]; exact List.mem_map_of_mem hx
   exact List.mem_range.1 this
 . rw [e2]; exact List.nodup_range
 . rw [e1]; exact List.pairwise_map.2 (hnd.imp fun h e => h (encZ_inj e))
 . obtain ⟨a, _, _, h⟩ := hrd x hx; exact ⟨_, h⟩
 . show ((List.foldr DataW.insert [] _).map fun p => intOf p.1).Perm ks
   refine ((b3h _).map _).trans ?_
   rw [List.map_map]
   have : ar.toList.map ((fun p : Lit × DataW Unit => intOf p.1) ∘ Go.WideElems.rg Tryz.prog 3 noR) = ks := by
    have h3 : (ar.toList.map ((fun p : Lit × DataW Unit => intOf p.1) ∘ Go.WideElems.rg Tryz.prog 3 noR)).map encZ = ar.toList.map (·.key) := by
     rw [List.map_map]
     refine List.map_congr_left fun x hx => ?_
     obtain ⟨a, _, hk, h⟩ := hrd x hx
     simp [Go.WideElems.rg, h, intOf, hk]
    rw [e1] at h3
    exact (List.map_inj_right (fun _ _ => encZ_inj)).1 h3
   rw [this]
 . show (List.foldr DataW.insert [] _).length = ks.length
   rw [(b3h _).length_eq, List.length_map, hsz]
theorem c9d {P : Program} {G : List (Nat × List Value)} {f : FuncId} {A : List FV} {H : Heap} {S : List Int -> Prop} (h : ∀ (w : World) (F : Nat -> Prop) (m : FM.Loc -> Nat × Nat) (vs : List Value), (∀ b, F b -> b < w.heap.size) -> a6s G F w -> RFs w F (fun l => H l ≠ none) m A vs -> HeapR w F m H ->
 Calls P f vs.toArray w fun e w' => ∃ (v : Value) (ss : List Int), e = .returned v /\ S ss /\ w'.ownsRow w.heap.size 3 1 v ss.length (ss.map encZ) /\ (v = .slice none 0 0 ↔ ss = []) /\ Below w.heap.size w w') :
 FCr P G f A H (fun r H' => H' = H /\ ∃ ss, S ss /\ r = .list 1 (ints ss)) := by
 intro w F m vs hF hG hv hH
 refine (h w F m vs hF hG hv hH).mono ?_
 rintro e w' ⟨v, ss, rfl, hS, hrow, hnil, hb⟩
 rcases hrow.2 with ⟨rfl, hz⟩ | ⟨g, cap, cur, rfl, hg, hgc, hn, hmx, hcs, htk⟩
 . have hss : ss = [] := eN_ hz
   subst hss
   exact ⟨.list 1 (ints []), H, _, F, m, ⟨rfl, [], hS, rfl⟩, rfl, fun _ h => h, fun y hy => ⟨.inl hy, Nat.lt_of_lt_of_le (hF y hy) hb.size⟩, fun l hl => ⟨rfl, hl⟩,
    .list 1 [] none 0 [] (by simp) (by simp) (by simp) .nil, hH.below hF hb, fun l hl => .inl ⟨l, hl, rfl⟩, hb.size, fun y hy _ => hb.block y hy, hb.os, hb.tape, hb.output⟩
 . have hgl : g < w'.heap.size := (Array.getElem?_eq_some_iff.1 hgc).1
   have hH2 := hH.below hF hb
   refine ⟨.list 1 (ints ss), H, _, fun b => F b \/ b = g, m, ⟨rfl, ss, hS, rfl⟩, rfl, fun _ h => .inl h, fun y hy => ?_, fun l hl => ⟨rfl, hl⟩, ?_, ⟨fun l o ho => (hH2.obj l o ho).keep (fun _ h => .inl h) (fun _ _ => rfl) (fun _ h => h) (fun _ _ => rfl) rfl (fun _ _ => rfl), hH2.inj, fun l hl => ⟨(hH2.old l hl).1, ?_⟩⟩, fun l hl => .inl ⟨l, hl, rfl⟩, hb.size, fun y hy _ => hb.block y hy, hb.os, hb.tape, hb.output⟩
   . rcases hy with hy | rfl
     . exact ⟨.inl hy, Nat.lt_of_lt_of_le (hF y hy) hb.size⟩
     . exact ⟨.inr hg, hgl⟩
   . have hl : (ints ss).length = ss.length := by simp [ints]
     have key : ∀ l : List Int, RFs w' (fun b => F b \/ b = g) (fun l => H l ≠ none) m (ints l).flatten (l.map encZ) := by
      intro l
      induction l with
      | nil => exact .nil
      | cons a l ih => exact .cons _ _ _ _ (.int _ _) ih
     have hcell : ∀ (j : Nat) (v : Value), (ss.map encZ)[j]? = some v -> w'.cell? ((⟨g, 0, none⟩ : Addr).add j) = some v := fun j v hv => by
      rw [add0, Nat.zero_add, a6z hgc]
      have hj : j < ss.length := by have := (List.getElem?_eq_some_iff.1 hv).1; simpa using this
      have h2 := congrArg (·[j]?) htk
      simp only [Nat.mul_one] at h2
      rw [List.getElem?_take, if_pos hj, hv] at h2
      simpa using h2
     have := RF.list (w := w') (F := fun b => F b \/ b = g) (U := fun l => H l ≠ none) (m := m) 1 (ints ss) (some ⟨g, 0, none⟩) cap (ss.map encZ) (fun x hx => by
      obtain ⟨a, _, rfl⟩ := List.mem_map.1 hx; rfl) (by rw [hl]; exact hn) (fun _ => ⟨_, rfl, .inr rfl, hcell⟩) (key ss)
     rwa [hl] at this
   . rintro (hf | e)
     . exact (hH2.old l hl).2 hf
     . have := (hH.old l (by
        obtain ⟨o, a1, a2, a3⟩ := hl; exact ⟨o, a1, a2, a3⟩)).1
       omega
section
variable {H : Heap} {l k : FM.Loc} {T : TypeId} {ks : List Int}
theorem c7f {w : World} {F : Nat -> Prop} {m : FM.Loc -> Nat × Nat} (hH : HeapR w F m H) (hl : H l = some (.cells T 1 [[.mp k]])) (hk : H k = some (mapO ks)) (hnd : ks.Nodup) (hb : ∀ x ∈ ks, 0 <= x /\ x < 1000000000) (hn : ks.length <= 1000000000) (d : Nat) (hd : 1 <= d) :
 SeqGives Fence.wide d Tryz.prog 151 #[.pointer (some ⟨(m l).1, 0, none⟩)] encZ (fun ss => ss.Perm ks) ks.length w := by
 obtain ⟨_, h0, c, ws, q1, q2, q3, q4, q5⟩ := d2l (i := 0) (x := [.mp k]) hH hl rfl
 obtain ⟨u, rfl, r⟩ := q4.single
 cases r
 have hcell : w.cell? ⟨(m l).1, 0, none⟩ = some (.map (some (m k).1)) := by
  rw [a6z q1]
  have := q5 0 (by omega)
  simpa using this.symm
 obtain ⟨D0, ho, hp, hs⟩ := e6p (hH.obj _ _ hk) hnd hb hn
 have h := AnyZI.keys_gives (ρ := kR6) f2x Fence.wide d trivial rfl hd (m l).1 (m k).1 _ D0 w (hH.old l ⟨_, hl, by simp, h0⟩).1 hcell ho
 rw [hs] at h
 exact fun l1 J W a1 a2 a3 a4 => (h l1 J W a1 a2 a3 a4).mono fun e w' ⟨h1, xs, h2, h3⟩ => ⟨h1, xs, h2.trans hp, h3⟩
theorem d1v (hl : H l = some (.cells T 1 [[.mp k]])) (hk : H k = some (mapO ks)) (hnd : ks.Nodup) (hb : ∀ x ∈ ks, 0 <= x /\ x < 1000000000) (hn : ks.length <= 1000000000) :
 FCr Tryz.prog Gl 107 [.clo 151 [] [.ptr l 1 0 0]] H (fun r H' => H' = H /\ ∃ ss, ss.Perm ks /\ r = .list 1 (ints ss)) := by
 refine c9d fun w F m vs hF hG hv hH => ?_
 obtain ⟨v, rfl, g⟩ := hv.single
 cases g with
 | clo _ _ _ us vs g1 g2 =>
 cases g1
 obtain ⟨v, rfl, g⟩ := g2.single
 cases g
 refine (callsIn_wide (n := 6)).1 ?_
 exact AnyZI.collect_in (ρ := kR6) kL8 Fence.wide 6 trivial trivial rfl (by omega) 151 _ trivial (enters_of (c := _) (show Tryz.prog.funcs[151]? = some Tryz.f151 by kernel_rfl) (by kernel_rfl) rfl) (fun ss => ss.Perm ks) ks.length (Nat.le_trans hn (by decide)) (by omega) w (c7f hH hl hk hnd hb hn _ (by omega))
theorem c9s (n : Nat) : AnyZI.SortsIn Tryz.prog kR6 Fence.wide n :=
 ⟨fun blk off cap ss W hH hblk hsz => callsIn_wide.2 (Any.slices_Sort_int sL blk off cap ss W hH hblk hsz),
  fun p cap W => callsIn_wide.2 (Any.slices_Sort_int_none sL p cap W)⟩
theorem c5z (hl : H l = some (.cells T 1 [[.mp k]])) (hk : H k = some (mapO ks)) (hnd : ks.Nodup) (hb : ∀ x ∈ ks, 0 <= x /\ x < 1000000000) (hn : ks.length <= 1000000000) :
 FC Tryz.prog Gl 109 [.clo 151 [] [.ptr l 1 0 0]] H (.list 1 (ints (Gv.srt ks))) H := by
 refine FCr.fc (FCr.mono (c9d (S := fun ss => ss = Gv.srt ks) fun w F m vs hF hG hv hH => ?_) fun r H' ⟨e, ss, e2, e3⟩ => ⟨by rw [e3, e2], e⟩)
 obtain ⟨v, rfl, g⟩ := hv.single
 cases g with
 | clo _ _ _ us vs g1 g2 =>
 cases g1
 obtain ⟨v, rfl, g⟩ := g2.single
 cases g
 refine (callsIn_wide (n := 6)).1 ?_
 refine (AnyZI.sorted_in (ρ := kR6) kL6 Fence.wide 6 trivial trivial trivial trivial rfl (by omega) (c9s _) (enters_of (c := _) (show Tryz.prog.funcs[132]? = some Tryz.f132 by kernel_rfl) (by kernel_rfl) rfl) 151 _ trivial (enters_of (c := _) (show Tryz.prog.funcs[151]? = some Tryz.f151 by kernel_rfl) (by kernel_rfl) rfl) (fun ss => ss.Perm ks) ks.length (Nat.le_trans hn (by decide)) (by omega) w (c7f hH hl hk hnd hb hn _ (by omega))).mono ?_
 rintro e w' ⟨v, ss, rfl, hp, hrow, hnil, hbl⟩
 have he : ss.mergeSort (fun x y => decide (x <= y)) = Gv.srt ks := mergeSort_of_perm_i hp
 have hlen : ss.length = (Gv.srt ks).length := by rw [hp.length_eq, Gv.a7h]
 refine ⟨v, Gv.srt ks, rfl, rfl, by rw [he, hlen] at hrow; exact hrow, ?_, hbl⟩
 rw [hnil]
 constructor
 . rintro rfl; exact eN_ hlen.symm
 . intro e; exact eN_ (by rw [hlen, e]; rfl)
end
end Go.Je
