/- Part. -/
import Derived.Test.YtfhhgjbcenhdeaaGreatDoorS32
set_option linter.all false
set_option maxRecDepth 100000
set_option maxHeartbeats 0
namespace Go.Je
open Go Go.FM Go.Gv Go.Proofs
variable {N i n v : Nat} {g : List (BitVec N)}
def famB {N : Nat} (g : List (BitVec N)) : Heap := fun l => match l with
 | [63, i] => (match g[i]? with
   | some s => some (.cells 4 1 (a0k (bvL s)))
   | none => none)
 | _ => none
theorem b7n (h : i < g.length) : famB g [63, i] = some (.cells 4 1 (a0k (bvL g[i]))) := by
 simp [famB, A5n h]
theorem b1o (g : List (BitVec N)) {q : Nat} {r : List Nat} (h : q ≠ 63) : famB g (q :: r) = none := by
 unfold famB
 split
 . rename_i e; simp only [A1q] at e; exact absurd e.1 h
 . rfl
theorem c1t (g : List (BitVec N)) (h : g.length <= i) : famB g [63, i] = none := by
 simp [famB, A5y h]
theorem b5q : famB ([] : List (BitVec N)) = noH := by
 funext l
 unfold famB
 split <;> simp [noH]
theorem e6x (h : i < g.length) (s : BitVec N) : upd (famB g) [63, i] (.cells 4 1 (a0k (bvL s))) = famB (g.set i s) := by
 funext l
 unfold upd
 split
 . rename_i e; subst e
   rw [b7n zl]; simp
 . rename_i hn
   unfold famB
   split
   . rename_i j
     have : ¬ i = j := fun e => hn (by rw [e])
     rw [A4d this]
   . rfl
theorem b1t {L : LF} {B : Heap} (h : i < g.length) : HP L B (famB g) [63, i] = some (.cells 4 1 (a0k (bvL g[i]))) := a5q (b7n h)
theorem e8n {L : LF} {B : Heap} (h : i < g.length) (s : BitVec N) : upd (HP L B (famB g)) [63, i] (.cells 4 1 (a0k (bvL s))) = HP L B (famB (g.set i s)) := by
 unfold HP; rw [<- a8m, e6x h]
theorem e6y (L : LF) (B : Heap) (g : List (BitVec N)) (s : BitVec N) : HP (([63, g.length], .cells 4 1 (a0k (bvL s))) :: L) B (famB g) = HP L B (famB (g ++ [s])) := by
 funext l
 unfold HP ext
 by_cases e : ∃ i, l = [63, i]
 . obtain ⟨i, rfl⟩ := e
   rcases A3e i g.length with h | h | h
   . rw [b7n h, b7n yz]
     simp [List.getElem_append_left h]
   . subst h
     rw [c1t g (A5s _), b7n (g := g ++ [s]) yd]
     simp [a3g]
   . rw [c1t g ya, c1t (g ++ [s]) yz]
     have : ¬ [63, i] = [63, g.length] := by simp; omega
     simp only [a3g, if_neg this]
 . have n1 : ∀ g : List (BitVec N), famB g l = none := fun g => by
    unfold famB
    split
    . rename_i i; exact absurd ⟨i, rfl⟩ e
    . rfl
   rw [n1, n1]
   have : ¬ l = [63, g.length] := fun h => e ⟨_, h⟩
   simp only [a3g, if_neg this]
theorem b0s (g : List (BitVec N)) : Clo (ext noH (famB g)) := fun l o h => by
 have e : ext noH (famB g) = famB g := by
  funext l
  unfold ext
  cases famB g l <;> rfl
 rw [e] at h
 unfold famB at h
 split at h
 . split at h
   . obtain rfl := A5o h
     exact b1k _ _
   . cases h
 . cases h
def rowB (n k N : Nat) : List (List FV) := (List.range n).map fun i => if i < k then [.sl [63, i] 1 0 N] else [.nils]
def rowX (n k N : Nat) (l : FM.Loc) : List (List FV) := (rowB n k N).set k [.sl l 1 0 N]
theorem a6x (n k N : Nat) : (rowB n k N).length = n := by simp [rowB]
theorem b2c (n k N : Nat) (l : FM.Loc) : (rowX n k N l).length = n := by simp [rowX, a6x]
theorem c8p (n N : Nat) : rowB n 0 N = List.replicate n [FV.nils] := by
 refine A0e (by simp [rowB]) fun i h1 h2 => ?_
 simp [rowB]
theorem f3p (h : i < (rowB n n N).length) : (rowB n n N)[i] = [.sl [63, i] 1 0 N] := by
 have : i < n := by simpa [rowB] using h
 simp [rowB, this]
theorem d5y {k : Nat} {l : FM.Loc} (h : k < n) : (rowX n k N l)[k]? = some [.sl l 1 0 N] := by
 unfold rowX
 rw [List.getElem?_set_self (by rw [a6x]; exact h)]
theorem e4g {k : Nat} (h : k < n) : (rowB n k N)[k]? = some [.nils] := by
 rw [A5n (by rw [a6x]; exact h)]
 simp [rowB]
def xV {N : Nat} (x o : BitVec N) : Nat -> BitVec N
 | 0 => x
 | v + 1 => if o.getLsbD v = true then xV x o v else xV x o v &&& ~~~BitVec.twoPow N v
def fV {N : Nat} (x o : BitVec N) : Nat -> Bool
 | 0 => false
 | v + 1 => fV x o v || (x.getLsbD v && !o.getLsbD v)
theorem b5x {N : Nat} (x o : BitVec N) {j : Nat} (hj : j < N) : ∀ v, (xV x o v).getLsbD j = if j < v then (x.getLsbD j && o.getLsbD j) else x.getLsbD j
 | 0 => rfl
 | v + 1 => by
   rw [xV]
   have ih := b5x x o hj v
   by_cases ho : o.getLsbD v = true
   . rw [if_pos ho, ih]
     by_cases e : j = v
     . subst e; simp [ho]
     . by_cases h : j < v
       . rw [if_pos h, if_pos ya]
       . rw [if_neg h, if_neg ya]
   . rw [if_neg ho, A1k, A5h, A2l, ih]
     by_cases e : j = v
     . subst e
       have : o.getLsbD j = false := by simpa using ho
       rw [if_pos (by omega : j < j + 1), this, A3c]
       simp [hj]
     . have e2 : ¬ v = j := fun h => e h.symm
       by_cases h : j < v
       . rw [if_pos h, if_pos ya]; simp [e2, hj]
       . rw [if_neg h, if_neg ya]; simp [e2, hj]
theorem f8s (x o : BitVec N) : xV x o N = x &&& o := c4r fun v hv => by rw [b5x x o hv, if_pos hv, A1k]
theorem xV_n {x o : BitVec N} (hv : v < N) (h : ¬ (x.getLsbD v = true /\ o.getLsbD v = false)) : xV x o (v + 1) = xV x o v /\ fV x o (v + 1) = fV x o v := by
 have hb : (x.getLsbD v && !o.getLsbD v) = false := by
  cases hx : x.getLsbD v <;> cases ho : o.getLsbD v <;> simp_all
 refine ⟨c4r fun j hj => ?_, by rw [fV, hb, Bool.or_false]⟩
 rw [b5x x o hj, b5x x o hj]
 by_cases e : j = v
 . subst e
   rw [if_pos ya, if_neg ya]
   cases hx : x.getLsbD j <;> cases ho : o.getLsbD j <;> simp_all
 . by_cases h3 : j < v
   . rw [if_pos h3, if_pos ya]
   . rw [if_neg h3, if_neg ya]
theorem xV_y {x o : BitVec N} (hv : v < N) (hx : x.getLsbD v = true) (ho : o.getLsbD v = false) : (bvL (xV x o v)).set v false = bvL (xV x o (v + 1)) /\ fV x o (v + 1) = true := by
 refine ⟨A0e (by simp [bvL]) fun j h1 h2 => ?_, by rw [fV, hx, ho]; simp⟩
 have hj : j < N := by simpa [bvL] using h2
 rw [A1e, b2y _ h2, b5x x o hj]
 split
 . rename_i e; subst e; rw [if_pos ya, ho, A3c]
 . rename_i e
   rw [b2y _ (by rw [a8o]; exact hj), b5x x o hj]
   by_cases h3 : j < v
   . rw [if_pos h3, if_pos ya]
   . rw [if_neg h3, if_neg ya]
theorem g3m (x o : BitVec N) : fV x o N = decide (¬ x &&& o = x) := by
 have key : ∀ v, fV x o v = true ↔ ∃ j, j < v /\ x.getLsbD j = true /\ o.getLsbD j = false := by
  intro v
  induction v with
  | zero => simp [fV]
  | succ v ih =>
    rw [fV, A2v, ih]
    constructor
    . rintro (⟨j, h1, h2⟩ | h)
      . exact ⟨j, by omega, h2⟩
      . simp at h; exact ⟨v, by omega, h⟩
    . rintro ⟨j, h1, h2, h3⟩
      by_cases e : j = v
      . subst e; exact .inr (by simp [h2, h3])
      . exact .inl ⟨j, by omega, h2, h3⟩
 rw [A2n, key, decide_eq_true_iff]
 constructor
 . rintro ⟨j, h1, h2, h3⟩ e
   have := congrArg (fun b => b.getLsbD j) e
   simp [h2, h3] at this
 . intro h
   refine Classical.byContradiction fun hn => h (c4r fun v hv => ?_)
   rw [A1k]
   cases hx : x.getLsbD v
   . rfl
   . cases ho : o.getLsbD v
     . exact absurd ⟨v, hv, hx, ho⟩ hn
     . rfl
theorem e7z (N : Nat) : bvL (BitVec.allOnes N) = List.replicate N true := by
 refine A0e (by simp [bvL]) fun v h1 h2 => ?_
 have hv : v < N := by simpa using h2
 rw [b2y _ h1]; simp [hv]
theorem e7y (N : Nat) : bvL (0 : BitVec N) = List.replicate N false := by
 refine A0e (by simp [bvL]) fun v h1 h2 => ?_
 rw [b2y _ h1]; simp
def rpB (N v : Nat) (b : Bool) : List Bool := List.replicate v b ++ List.replicate (N - v) false
theorem d5t (h : v <= N) (b : Bool) : (rpB N v b).length = N := by simp [rpB]; omega
theorem d5v (N : Nat) (b : Bool) : rpB N 0 b = List.replicate N false := by simp [rpB]
theorem d5u (N : Nat) (b : Bool) : rpB N N b = List.replicate N b := by simp [rpB]
theorem g0b (h : v < N) (b : Bool) : (rpB N v b).set v b = rpB N (v + 1) b := by
 refine A4c fun j => ?_
 rw [A3f]
 unfold rpB
 rcases A3e v j with e | e | e
 . rw [if_neg ya, A0k yz, A0k yz]
   simp only [A0u, A2o]
   by_cases h3 : j < N
   . rw [if_pos ya, if_pos ya]
   . rw [if_neg ya, if_neg ya]
 . subst e
   rw [if_pos rfl, if_pos yz, A0f yd]
   simp
 . rw [if_neg ya, A0f z1p, A0f yz]
   simp only [A2o]
   rw [if_pos ya, if_pos ya]
end Go.Je
