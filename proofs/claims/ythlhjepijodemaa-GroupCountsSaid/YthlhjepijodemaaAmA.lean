/- One of the texts of a proof by an abstract machine over the model. -/
import Derived.WalkKit
set_option linter.unusedSimpArgs false
set_option linter.unusedVariables false
namespace Go.AM
open Go

/-- a step on a path into a tree: element 'i' of a row of elements of 'sz' cells, cell 'off' of that element -/
structure Stp where
  i : Nat
  sz : Nat
  off : Nat

inductive AV where
  | undef
  | int (k : IntKind) (n : Int)
  | bool (b : Bool)
  | str (s : ByteArray)
  | fn (f : FuncId)
  | nils (sz : Nat)
  | list (sz : Nat) (xs : List (List AV))
  | own (sz : Nat) (xs : List (List AV))
  | agg (cs : List AV)
  | tup (vs : List AV)
  | ref (cs : List AV)
  | box (cs : List AV)
  | loc (t : Nat) (p : List Stp)
  | bor (t : Nat) (p : List Stp)
  deriving Inhabited

mutual
inductive RV (w : World) (F : Nat → Prop) : AV → Value → List Nat → Prop
  | undef (v : Value) : RV w F .undef v []
  | int (k : IntKind) (n : Int) : RV w F (.int k n) (.int k n) []
  | bool (b : Bool) : RV w F (.bool b) (.bool b) []
  | str (s : ByteArray) : RV w F (.str s) (.string s) []
  | fn (f : FuncId) : RV w F (.fn f) (.func (.func f) #[] #[]) []
  | nils (sz : Nat) : RV w F (.nils sz) (.slice none 0 0) []
  | list (sz : Nat) (xs : List (List AV)) (A : Option Addr) (cap : Nat) (vs : List Value) (hl : ∀ x ∈ xs, x.length = sz) (hc : xs.length ≤ cap)
      (hm : xs ≠ [] → ∃ a, A = some a ∧ F a.block ∧ ∀ (j : Nat) (v : Value), vs[j]? = some v → w.cell? (a.add j) = some v)
      (h : RVs w F xs.flatten vs []) : RV w F (.list sz xs) (.slice A xs.length cap) []
  | own0 (sz : Nat) (A : Option Addr) : RV w F (.own sz []) (.slice A 0 0) []
  | own (sz : Nat) (xs : List (List AV)) (g cap : Nat) (c : Array Value) (T : TypeId) (bs : List Nat) (hg : w.heap[g]? = some (.cells c T (0, 0)))
      (hl : ∀ x ∈ xs, x.length = sz) (hn : xs.length ≤ cap) (hc : cap * sz ≤ c.size) (h : RVs w F xs.flatten (c.toList.take (xs.length * sz)) bs) :
      RV w F (.own sz xs) (.slice (some ⟨g, 0, none⟩) xs.length cap) (g :: bs)
  | agg (cs : List AV) (vs : List Value) (bs : List Nat) (h : RVs w F cs vs bs) : RV w F (.agg cs) (.agg vs.toArray) bs
  | tup (cs : List AV) (vs : List Value) (bs : List Nat) (h : RVs w F cs vs bs) : RV w F (.tup cs) (.tuple vs.toArray) bs
  | ref (cs : List AV) (a : Addr) (vs : List Value) (hF : F a.block) (hm : ∀ (j : Nat) (v : Value), vs[j]? = some v → w.cell? (a.add j) = some v)
      (h : RVs w F cs vs []) : RV w F (.ref cs) (.pointer (some a)) []
  | box (cs : List AV) (g : Nat) (c : Array Value) (T : TypeId) (bs : List Nat) (hg : w.heap[g]? = some (.cells c T (0, 0)))
      (h : RVs w F cs c.toList bs) : RV w F (.box cs) (.pointer (some ⟨g, 0, none⟩)) (g :: bs)
inductive RVs (w : World) (F : Nat → Prop) : List AV → List Value → List Nat → Prop
  | nil : RVs w F [] [] []
  | cons (a : AV) (v : Value) (b : List Nat) (as : List AV) (vs : List Value) (bs : List Nat) (h : RV w F a v b) (hs : RVs w F as vs bs) :
      RVs w F (a :: as) (v :: vs) (b ++ bs)
end

section
variable {w w' : World} {F F' : Nat → Prop}

theorem block_add (a : Addr) (n : Nat) : (a.add n).block = a.block := by unfold Addr.add; split <;> rfl
theorem add_add (a : Addr) (i j : Nat) : (a.add i).add j = a.add (i + j) := by
  unfold Addr.add
  by_cases hi : i = 0 <;> by_cases hj : j = 0 <;> simp [hi, hj, Nat.add_assoc]

mutual
theorem RV.keep {a : AV} {v : Value} {bs : List Nat} (h : RV w F a v bs) (hF : ∀ b, F b → F' b) (hb : ∀ b, F b ∨ b ∈ bs → w'.heap[b]? = w.heap[b]?) : RV w' F' a v bs :=
  match h with
  | .undef v => .undef v
  | .int k n => .int k n
  | .bool b => .bool b
  | .str s => .str s
  | .fn f => .fn f
  | .nils sz => .nils sz
  | .list sz xs A cap vs hl hc hm h =>
    .list sz xs A cap vs hl hc (fun hne => by
      obtain ⟨a, hA, hFa, hcell⟩ := hm hne
      exact ⟨a, hA, hF _ hFa, fun j v hv => (World.cell?_of_block (by rw [block_add]; exact hb _ (.inl hFa))).trans (hcell j v hv)⟩)
      (RVs.keep h hF fun b hb' => hb b hb')
  | .own0 sz A => .own0 sz A
  | .own sz xs g cap c T bs hg hl hn hc h =>
    .own sz xs g cap c T bs ((hb g (.inr (List.mem_cons_self ..))).trans hg) hl hn hc (RVs.keep h hF fun b hb' => hb b (hb'.imp id (List.mem_cons_of_mem _)))
  | .agg cs vs bs h => .agg cs vs bs (RVs.keep h hF hb)
  | .tup cs vs bs h => .tup cs vs bs (RVs.keep h hF hb)
  | .ref cs a vs hFa hm h =>
    .ref cs a vs (hF _ hFa) (fun j v hv => (World.cell?_of_block (by rw [block_add]; exact hb _ (.inl hFa))).trans (hm j v hv)) (RVs.keep h hF fun b hb' => hb b hb')
  | .box cs g c T bs hg h =>
    .box cs g c T bs ((hb g (.inr (List.mem_cons_self ..))).trans hg) (RVs.keep h hF fun b hb' => hb b (hb'.imp id (List.mem_cons_of_mem _)))
theorem RVs.keep {as : List AV} {vs : List Value} {bs : List Nat} (h : RVs w F as vs bs) (hF : ∀ b, F b → F' b) (hb : ∀ b, F b ∨ b ∈ bs → w'.heap[b]? = w.heap[b]?) : RVs w' F' as vs bs :=
  match h with
  | .nil => .nil
  | .cons a v b as vs bs h hs =>
    .cons a v b as vs bs (RV.keep h hF fun x hx => hb x (hx.imp id (List.mem_append_left _))) (RVs.keep hs hF fun x hx => hb x (hx.imp id (List.mem_append_right _)))
end

theorem RVs.length {as : List AV} {vs : List Value} {bs : List Nat} (h : RVs w F as vs bs) : as.length = vs.length := by
  match h with
  | .nil => rfl
  | .cons a v b as vs bs h hs => simp [RVs.length hs]

theorem RVs.append {as as' : List AV} {vs vs' : List Value} {bs bs' : List Nat} (h : RVs w F as vs bs) (h' : RVs w F as' vs' bs') : RVs w F (as ++ as') (vs ++ vs') (bs ++ bs') := by
  match h with
  | .nil => exact h'
  | .cons a v b as vs bs h hs => rw [List.append_assoc]; exact .cons a v b _ _ _ h (RVs.append hs h')

/-- a list of cells, parted at a place -/
theorem RVs.split {as : List AV} {vs : List Value} {bs : List Nat} (h : RVs w F as vs bs) (k : Nat) {c : AV} (hk : as[k]? = some c) :
    ∃ vc l1 bc l2, vs[k]? = some vc ∧ RV w F c vc bc ∧ bs = l1 ++ (bc ++ l2) ∧
      ∀ (w' : World) (F' : Nat → Prop) (c' : AV) (vc' : Value) (bc' : List Nat), (∀ b, F b → F' b) → (∀ b, F b ∨ b ∈ l1 ∨ b ∈ l2 → w'.heap[b]? = w.heap[b]?) → RV w' F' c' vc' bc' →
        RVs w' F' (as.set k c') (vs.set k vc') (l1 ++ (bc' ++ l2)) := by
  match h with
  | .nil => simp at hk
  | .cons a v b as vs bs h hs =>
    match k with
    | 0 =>
      simp at hk
      subst hk
      exact ⟨v, [], b, bs, by simp, h, rfl, fun w' F' c' vc' bc' hF hb hc => by
        simpa using RVs.cons c' vc' bc' as vs bs hc (hs.keep hF fun x hx => hb x (by simpa using hx))⟩
    | k + 1 =>
      obtain ⟨vc, l1, bc, l2, h1, h2, h3, h4⟩ := RVs.split hs k (c := c) (by simpa using hk)
      refine ⟨vc, b ++ l1, bc, l2, by simpa using h1, h2, by rw [h3]; simp, fun w' F' c' vc' bc' hF hb hc => ?_⟩
      have := RVs.cons a v b _ _ _ (h.keep hF (w' := w') fun x hx => hb x (by rcases hx with hx | hx <;> simp [hx])) (h4 w' F' c' vc' bc' hF (fun x hx => hb x (by rcases hx with hx | hx | hx <;> simp [hx])) hc)
      simpa [List.append_assoc] using this

theorem RVs.get {as : List AV} {vs : List Value} {bs : List Nat} (h : RVs w F as vs bs) (k : Nat) {c : AV} (hk : as[k]? = some c) :
    ∃ vc bc, vs[k]? = some vc ∧ RV w F c vc bc ∧ bc ⊆ bs := by
  obtain ⟨vc, l1, bc, l2, h1, h2, h3, _⟩ := h.split k hk
  exact ⟨vc, bc, h1, h2, by rw [h3]; intro x hx; simp [hx]⟩

theorem RVs.part (as as' : List AV) {vs : List Value} {bs : List Nat} (h : RVs w F (as ++ as') vs bs) : ∃ v1 v2 b1 b2, vs = v1 ++ v2 ∧ bs = b1 ++ b2 ∧ RVs w F as v1 b1 ∧ RVs w F as' v2 b2 := by
  match as with
  | [] => exact ⟨[], vs, [], bs, rfl, rfl, .nil, h⟩
  | a :: as =>
    match h with
    | .cons _ v b _ vs bs h hs =>
      obtain ⟨v1, v2, b1, b2, rfl, rfl, h1, h2⟩ := RVs.part as as' hs
      exact ⟨v :: v1, v2, b ++ b1, b2, rfl, by simp, .cons a v b _ _ _ h h1, h2⟩

theorem RVs.parts {as : List AV} {vs : List Value} {bs : List Nat} (h : RVs w F as vs bs) (n : Nat) :
    ∃ b1 b2, bs = b1 ++ b2 ∧ RVs w F (as.take n) (vs.take n) b1 ∧ RVs w F (as.drop n) (vs.drop n) b2 := by
  obtain ⟨v1, v2, b1, b2, rfl, rfl, h1, h2⟩ := RVs.part (as.take n) (as.drop n) (by rw [List.take_append_drop]; exact h)
  refine ⟨b1, b2, rfl, ?_⟩
  have hl := h1.length
  have hl2 := h2.length
  by_cases hn : n ≤ as.length
  · have : v1.length = n := by rw [← hl]; simp; omega
    subst this
    simpa using ⟨h1, h2⟩
  · have e1 : as.take n = as := List.take_of_length_le (by omega)
    have e2 : as.drop n = [] := List.drop_eq_nil_of_le (by omega)
    have : v2 = [] := List.eq_nil_of_length_eq_zero (by rw [← hl2, e2]; rfl)
    subst this
    have h3 : (v1 ++ []).length ≤ n := by simp; rw [← hl, e1]; omega
    rw [List.take_of_length_le h3, List.drop_eq_nil_of_le h3]
    simpa using ⟨h1, h2⟩
theorem RVs.drop {as : List AV} {vs : List Value} (h : RVs w F as vs []) (n : Nat) : RVs w F (as.drop n) (vs.drop n) [] := by
  obtain ⟨b1, b2, hb, h1, h2⟩ := h.parts n
  obtain ⟨rfl, rfl⟩ : b1 = [] ∧ b2 = [] := by simpa using hb.symm
  exact h2
theorem RVs.take {as : List AV} {vs : List Value} (h : RVs w F as vs []) (n : Nat) : RVs w F (as.take n) (vs.take n) [] := by
  obtain ⟨b1, b2, hb, h1, h2⟩ := h.parts n
  obtain ⟨rfl, rfl⟩ : b1 = [] ∧ b2 = [] := by simpa using hb.symm
  exact h1
end
end Go.AM
