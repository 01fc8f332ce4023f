/- One of the texts of a proof by an abstract machine over the model. -/
import Derived.WalkKit
set_option linter.unusedSimpArgs false
set_option linter.unusedVariables false
namespace Go.FM
open Go

/-- the name of a block that the walked text has made, or that it was lent -/
abbrev Loc := List Nat

inductive FV where
  | undef
  | int (k : IntKind) (n : Int)
  | bool (b : Bool)
  | str (s : ByteArray)
  | list (sz : Nat) (xs : List (List FV))
  | ref (cs : List FV)
  | agg (cs : List FV)
  | tup (vs : List FV)
  | ptr (l : Loc) (sz i off : Nat)
  | nilp
  | sl (l : Loc) (sz off len : Nat)
  | nils
  | mp (l : Loc)
  | nilm
  | clo (f : FuncId) (first caps : List FV)
  | nilf
  | emp
  deriving Inhabited

/-- what a named block holds: rows of cells; a map's entries with their stamps, and its clock; an iterator over a map; nothing that is known -/
inductive FO where
  | cells (T : TypeId) (sz : Nat) (xs : List (List FV))
  | map (es : List (FV × FV × Nat)) (clk : Nat)
  | iter (x : FV) (since : Nat) (seen : List Nat) (last : Nat)
  | dead
  deriving Inhabited

abbrev Heap := Loc → Option FO

mutual
inductive RF (w : World) (F : Nat → Prop) (U : Loc → Prop) (m : Loc → Nat × Nat) : FV → Value → Prop
  | undef (v : Value) : RF w F U m .undef v
  | int (k : IntKind) (n : Int) : RF w F U m (.int k n) (.int k n)
  | bool (b : Bool) : RF w F U m (.bool b) (.bool b)
  | str (s : ByteArray) : RF w F U m (.str s) (.string s)
  | list (sz : Nat) (xs : List (List FV)) (A : Option Addr) (cap : Nat) (vs : List Value) (hl : ∀ x ∈ xs, x.length = sz) (hc : xs.length ≤ cap)
      (hm : xs ≠ [] → ∃ a, A = some a ∧ F a.block ∧ ∀ (j : Nat) (v : Value), vs[j]? = some v → w.cell? (a.add j) = some v)
      (h : RFs w F U m xs.flatten vs) : RF w F U m (.list sz xs) (.slice A xs.length cap)
  | ref (cs : List FV) (a : Addr) (vs : List Value) (hF : F a.block) (hm : ∀ (j : Nat) (v : Value), vs[j]? = some v → w.cell? (a.add j) = some v)
      (h : RFs w F U m cs vs) : RF w F U m (.ref cs) (.pointer (some a))
  | agg (cs : List FV) (vs : List Value) (h : RFs w F U m cs vs) : RF w F U m (.agg cs) (.agg vs.toArray)
  | tup (cs : List FV) (vs : List Value) (h : RFs w F U m cs vs) : RF w F U m (.tup cs) (.tuple vs.toArray)
  | ptr (l : Loc) (sz i off : Nat) (hu : U l) : RF w F U m (.ptr l sz i off) (.pointer (some ⟨(m l).1, i * sz + off, none⟩))
  | nilp : RF w F U m .nilp (.pointer none)
  | sl (l : Loc) (sz off len cap o : Nat) (hu : U l) (hc : len ≤ cap) (ho : cap = 0 ∨ o = off * sz) (hs : (off + cap) * sz ≤ (m l).2) : RF w F U m (.sl l sz off len) (.slice (some ⟨(m l).1, o, none⟩) len cap)
  | sl0 (l : Loc) (sz off : Nat) (hu : U l) (h0 : (m l).2 = 0) : RF w F U m (.sl l sz off 0) (.slice none 0 0)
  | nils : RF w F U m .nils (.slice none 0 0)
  | mp (l : Loc) (hu : U l) : RF w F U m (.mp l) (.map (some (m l).1))
  | nilm : RF w F U m .nilm (.map none)
  | clo (f : FuncId) (first caps : List FV) (us vs : List Value) (h1 : RFs w F U m first us) (h2 : RFs w F U m caps vs) : RF w F U m (.clo f first caps) (.func (.func f) us.toArray vs.toArray)
  | nilf : RF w F U m .nilf .nilFunc
  | emp (A : Option Addr) : RF w F U m .emp (.slice A 0 0)
inductive RFs (w : World) (F : Nat → Prop) (U : Loc → Prop) (m : Loc → Nat × Nat) : List FV → List Value → Prop
  | nil : RFs w F U m [] []
  | cons (a : FV) (v : Value) (as : List FV) (vs : List Value) (h : RF w F U m a v) (hs : RFs w F U m as vs) : RFs w F U m (a :: as) (v :: vs)
end

theorem block_add (a : Addr) (n : Nat) : (a.add n).block = a.block := by unfold Addr.add; split <;> rfl
theorem add_add (a : Addr) (i j : Nat) : (a.add i).add j = a.add (i + j) := by
  unfold Addr.add
  by_cases hi : i = 0 <;> by_cases hj : j = 0 <;> simp [hi, hj, Nat.add_assoc]
theorem add0 (g o k : Nat) : (⟨g, o, none⟩ : Addr).add k = ⟨g, o + k, none⟩ := by
  unfold Addr.add; split <;> simp_all

section
variable {w w' : World} {F F' : Nat → Prop} {U U' : Loc → Prop} {m m' : Loc → Nat × Nat}

mutual
theorem RF.keep {a : FV} {v : Value} (h : RF w F U m a v) (hF : ∀ b, F b → F' b) (hb : ∀ b, F b → w'.heap[b]? = w.heap[b]?) (hU : ∀ l, U l → U' l) (hm : ∀ l, U l → m' l = m l) : RF w' F' U' m' a v :=
  match h with
  | .undef v => .undef v
  | .int k n => .int k n
  | .bool b => .bool b
  | .str s => .str s
  | .list sz xs A cap vs hl hc hm' h =>
    .list sz xs A cap vs hl hc (fun hne => by
      obtain ⟨a, hA, hFa, hcell⟩ := hm' hne
      exact ⟨a, hA, hF _ hFa, fun j v hv => (World.cell?_of_block (by rw [block_add]; exact hb _ hFa)).trans (hcell j v hv)⟩)
      (RFs.keep h hF hb hU hm)
  | .ref cs a vs hFa hc h => .ref cs a vs (hF _ hFa) (fun j v hv => (World.cell?_of_block (by rw [block_add]; exact hb _ hFa)).trans (hc j v hv)) (RFs.keep h hF hb hU hm)
  | .agg cs vs h => .agg cs vs (RFs.keep h hF hb hU hm)
  | .tup cs vs h => .tup cs vs (RFs.keep h hF hb hU hm)
  | .ptr l sz i off hu => by rw [← hm l hu]; exact .ptr l sz i off (hU l hu)
  | .nilp => .nilp
  | .sl l sz off len cap o hu hc ho hs => by rw [← hm l hu]; exact .sl l sz off len cap o (hU l hu) hc ho (by rw [hm l hu]; exact hs)
  | .sl0 l sz off hu h0 => .sl0 l sz off (hU l hu) (by rw [hm l hu]; exact h0)
  | .nils => .nils
  | .mp l hu => by rw [← hm l hu]; exact .mp l (hU l hu)
  | .nilm => .nilm
  | .clo f first caps us vs h1 h2 => .clo f first caps us vs (RFs.keep h1 hF hb hU hm) (RFs.keep h2 hF hb hU hm)
  | .nilf => .nilf
  | .emp A => .emp A
theorem RFs.keep {as : List FV} {vs : List Value} (h : RFs w F U m as vs) (hF : ∀ b, F b → F' b) (hb : ∀ b, F b → w'.heap[b]? = w.heap[b]?) (hU : ∀ l, U l → U' l) (hm : ∀ l, U l → m' l = m l) : RFs w' F' U' m' as vs :=
  match h with
  | .nil => .nil
  | .cons a v as vs h hs => .cons a v as vs (RF.keep h hF hb hU hm) (RFs.keep hs hF hb hU hm)
end

theorem RFs.length {as : List FV} {vs : List Value} (h : RFs w F U m as vs) : as.length = vs.length := by
  match h with
  | .nil => rfl
  | .cons a v as vs h hs => simp [RFs.length hs]
theorem RFs.append {as as' : List FV} {vs vs' : List Value} (h : RFs w F U m as vs) (h' : RFs w F U m as' vs') : RFs w F U m (as ++ as') (vs ++ vs') := by
  match h with
  | .nil => exact h'
  | .cons a v as vs h hs => exact .cons a v _ _ h (RFs.append hs h')
theorem RFs.get {as : List FV} {vs : List Value} (h : RFs w F U m as vs) (k : Nat) {c : FV} (hk : as[k]? = some c) : ∃ v, vs[k]? = some v ∧ RF w F U m c v := by
  match h with
  | .nil => simp at hk
  | .cons a v as vs h hs =>
    match k with
    | 0 => simp at hk; subst hk; exact ⟨v, by simp, h⟩
    | k + 1 =>
      obtain ⟨u, h1, h2⟩ := RFs.get hs k (c := c) (by simpa using hk)
      exact ⟨u, by simpa using h1, h2⟩
theorem RFs.set {as : List FV} {vs : List Value} (h : RFs w F U m as vs) (k : Nat) {c : FV} {v : Value} (hc : RF w F U m c v) : RFs w F U m (as.set k c) (vs.set k v) := by
  match h with
  | .nil => simpa using RFs.nil
  | .cons a u as vs h hs =>
    match k with
    | 0 => simpa using RFs.cons c v as vs hc hs
    | k + 1 => simpa using RFs.cons a u _ _ h (RFs.set hs k hc)
theorem RFs.take {as : List FV} {vs : List Value} (h : RFs w F U m as vs) (n : Nat) : RFs w F U m (as.take n) (vs.take n) := by
  match h with
  | .nil => simpa using RFs.nil
  | .cons a v as vs h hs =>
    match n with
    | 0 => simpa using RFs.nil
    | n + 1 => simpa using RFs.cons a v _ _ h (RFs.take hs n)
theorem RFs.drop {as : List FV} {vs : List Value} (h : RFs w F U m as vs) (n : Nat) : RFs w F U m (as.drop n) (vs.drop n) := by
  match h with
  | .nil => simpa using RFs.nil
  | .cons a v as vs h hs =>
    match n with
    | 0 => simpa using RFs.cons a v as vs h hs
    | n + 1 => simpa using RFs.drop hs n
theorem RFs.part (as as' : List FV) {vs : List Value} (h : RFs w F U m (as ++ as') vs) : ∃ v1 v2, vs = v1 ++ v2 ∧ RFs w F U m as v1 ∧ RFs w F U m as' v2 := by
  match as with
  | [] => exact ⟨[], vs, rfl, .nil, h⟩
  | a :: as =>
    match h with
    | .cons _ v _ vs h hs =>
      obtain ⟨v1, v2, rfl, h1, h2⟩ := RFs.part as as' hs
      exact ⟨v :: v1, v2, rfl, .cons a v _ _ h h1, h2⟩
theorem RFs.single {x : FV} {vs : List Value} (h : RFs w F U m [x] vs) : ∃ v, vs = [v] ∧ RF w F U m x v := by
  cases h with
  | cons _ v _ vs h1 h2 =>
  cases h2
  exact ⟨v, rfl, h1⟩

/-! ### entries of a map -/
structure RE (w : World) (F : Nat → Prop) (U : Loc → Prop) (m : Loc → Nat × Nat) (e : FV × FV × Nat) (x : MapEntry) : Prop where
  key : RF w F U m e.1 x.key
  val : RF w F U m e.2.1 x.val
  born : x.born = e.2.2
inductive REs (w : World) (F : Nat → Prop) (U : Loc → Prop) (m : Loc → Nat × Nat) : List (FV × FV × Nat) → List MapEntry → Prop
  | nil : REs w F U m [] []
  | cons (e : FV × FV × Nat) (x : MapEntry) (es : List (FV × FV × Nat)) (xs : List MapEntry) (h : RE w F U m e x) (hs : REs w F U m es xs) : REs w F U m (e :: es) (x :: xs)
theorem RE.keep {e : FV × FV × Nat} {x : MapEntry} (h : RE w F U m e x) (hF : ∀ b, F b → F' b) (hb : ∀ b, F b → w'.heap[b]? = w.heap[b]?) (hU : ∀ l, U l → U' l) (hm : ∀ l, U l → m' l = m l) : RE w' F' U' m' e x :=
  ⟨h.key.keep hF hb hU hm, h.val.keep hF hb hU hm, h.born⟩
theorem REs.keep {es : List (FV × FV × Nat)} {xs : List MapEntry} (h : REs w F U m es xs) (hF : ∀ b, F b → F' b) (hb : ∀ b, F b → w'.heap[b]? = w.heap[b]?) (hU : ∀ l, U l → U' l) (hm : ∀ l, U l → m' l = m l) : REs w' F' U' m' es xs := by
  match h with
  | .nil => exact .nil
  | .cons e x es xs h hs => exact .cons e x es xs (h.keep hF hb hU hm) (REs.keep hs hF hb hU hm)
theorem REs.length {es : List (FV × FV × Nat)} {xs : List MapEntry} (h : REs w F U m es xs) : es.length = xs.length := by
  match h with
  | .nil => rfl
  | .cons e x es xs h hs => simp [REs.length hs]
theorem REs.append {es es' : List (FV × FV × Nat)} {xs xs' : List MapEntry} (h : REs w F U m es xs) (h' : REs w F U m es' xs') : REs w F U m (es ++ es') (xs ++ xs') := by
  match h with
  | .nil => exact h'
  | .cons e x es xs h hs => exact .cons e x _ _ h (REs.append hs h')

/-- what a block holds -/
def OR (w : World) (F : Nat → Prop) (H : Heap) (m : Loc → Nat × Nat) (l : Loc) : FO → Prop
  | .cells T sz xs => (xs = [] ∧ (m l).2 = 0) ∨ ((m l).2 ≠ 0 ∧ ∃ (c : Array Value), w.heap[(m l).1]? = some (.cells c T (0, 0)) ∧ c.size = (m l).2 ∧ (∀ x ∈ xs, x.length = sz) ∧ xs.length * sz ≤ c.size ∧
      RFs w F (fun l => H l ≠ none) m xs.flatten (c.toList.take (xs.length * sz)))
  | .map es clk => (m l).2 ≠ 0 ∧ ∃ (a : Array MapEntry), w.heap[(m l).1]? = some (.map a clk) ∧ REs w F (fun l => H l ≠ none) m es a.toList
  | .iter x since seen last => (m l).2 ≠ 0 ∧ ∃ q, RF w F (fun l => H l ≠ none) m x (.map q) ∧ w.heap[(m l).1]? = some (.mapIter q since seen.toArray last)
  | .dead => True
/-- the names that own a block -/
def Live (H : Heap) (m : Loc → Nat × Nat) (l : Loc) : Prop := ∃ o, H l = some o ∧ o ≠ .dead ∧ (m l).2 ≠ 0

theorem OR.keep {H H' : Heap} {l l' : Loc} {o : FO} (h : OR w F H m l o) (hF : ∀ b, F b → F' b) (hb : ∀ b, F b → w'.heap[b]? = w.heap[b]?) (hU : ∀ k, H k ≠ none → H' k ≠ none) (hm : ∀ k, H k ≠ none → m' k = m k) (hl : m' l' = m l)
    (hw : o ≠ .dead → (m l).2 ≠ 0 → w'.heap[(m l).1]? = w.heap[(m l).1]?) : OR w' F' H' m' l' o := by
  cases o with
  | cells T sz xs =>
    simp only [OR, hl] at h ⊢
    rcases h with h1 | ⟨h0, c, h1, h2, h3, h4, h5⟩
    · exact .inl h1
    · exact .inr ⟨h0, c, (hw (by simp) h0).trans h1, h2, h3, h4, h5.keep hF hb hU hm⟩
  | map es clk =>
    simp only [OR, hl] at h ⊢
    obtain ⟨h0, b, h1, h2⟩ := h
    exact ⟨h0, b, (hw (by simp) h0).trans h1, h2.keep hF hb hU hm⟩
  | iter x since seen last =>
    simp only [OR, hl] at h ⊢
    obtain ⟨h0, q, h1, h2⟩ := h
    exact ⟨h0, q, h1.keep hF hb hU hm, (hw (by simp) h0).trans h2⟩
  | dead => trivial

structure HeapR (w : World) (F : Nat → Prop) (m : Loc → Nat × Nat) (H : Heap) : Prop where
  obj : ∀ l o, H l = some o → OR w F H m l o
  inj : ∀ l l', Live H m l → Live H m l' → (m l).1 = (m l').1 → l = l'
  old : ∀ l, Live H m l → (m l).1 < w.heap.size ∧ ¬ F (m l).1
end
end Go.FM
