/- Parts of the proof. -/
import Derived.WalkKit
set_option linter.unusedSimpArgs false
set_option linter.unusedVariables false
namespace Go.FM
open Go
theorem lbR {a b : Nat} (h : Nat.ble a b = true) : a <= b := Nat.le_of_ble_eq_true h
theorem gE_ {α : Type} {l : List α} {i : Nat} (h : i < l.length) : l[i]? = some l[i] := List.getElem?_eq_getElem h
theorem tL_ {α : Type} {l : List α} {i : Nat} (h : l.length <= i) : l.take i = l := List.take_of_length_le h
theorem gD_ {α : Type} {l : List α} {i : Nat} {a : α} : l.getD i a = l[i]?.getD a := List.getD_eq_getElem?_getD
theorem gm_ {α : Type} {l : List α} {n : Nat} (h : n < l.length) : l[n] ∈ l := List.getElem_mem h
theorem sI_ {α : Type} {a b : α} (h : some a = some b) : a = b := Option.some.inj h
theorem oM_ {α β : Type} {b : β} {x : Option α} {f : α -> β} : Option.map f x = some b ↔ ∃ a, x = some a /\ f a = b := Option.map_eq_some_iff
theorem bA_ (a b : Bool) : ((a && b) = true) = (a = true /\ b = true) := Bool.and_eq_true a b
theorem tN_ (n : Nat) : (n : Int).toNat = n := Int.toNat_natCast n
theorem sE_ {α : Type} (a b : α) : (some a = some b) = (a = b) := Option.some.injEq a b
theorem dE_ {p : Prop} [Decidable p] : (decide p = true) = p := decide_eq_true_eq
theorem fA_ {α : Type} {p : α -> Bool} (a b : List α) : (a ++ b).filter p = a.filter p ++ b.filter p := List.filter_append a b
theorem gn_ {α : Type} {l : List α} {i : Nat} (h : l.length <= i) : l[i]? = none := List.getElem?_eq_none h
theorem gS_ {α : Type} {a b : α} : (some a).getD b = a := Option.getD_some
theorem nr_ (n : Nat) : n <= n := Nat.le_refl n
theorem eN_ {α : Type} {l : List α} (h : l.length = 0) : l = [] := List.eq_nil_of_length_eq_zero h
abbrev Loc := List Nat
inductive FV where
 | undef
 | int (k : IntKind) (n : Int)
 | bool (b : Bool)
 | str (s : ByteArray)
 | list (sz : Nat) (xs : List (List FV))
 | ref (cs : List FV)
 | agg (cs : List FV)
 | tup (vs : List FV)
 | ptr (l : Loc) (sz i off : Nat)
 | nilp
 | sl (l : Loc) (sz off len : Nat)
 | nils
 | mp (l : Loc)
 | nilm
 | clo (f : FuncId) (first caps : List FV)
 | nilf
 | emp
 deriving Inhabited
inductive FO where
 | cells (T : TypeId) (sz : Nat) (xs : List (List FV))
 | map (es : List (FV × FV × Nat)) (clk : Nat)
 | iter (x : FV) (since : Nat) (seen : List Nat) (last : Nat)
 | dead
 deriving Inhabited
abbrev Heap := Loc -> Option FO
mutual
inductive RF (w : World) (F : Nat -> Prop) (U : Loc -> Prop) (m : Loc -> Nat × Nat) : FV -> Value -> Prop
 | undef (v : Value) : RF w F U m .undef v
 | int (k : IntKind) (n : Int) : RF w F U m (.int k n) (.int k n)
 | bool (b : Bool) : RF w F U m (.bool b) (.bool b)
 | str (s : ByteArray) : RF w F U m (.str s) (.string s)
 | list (sz : Nat) (xs : List (List FV)) (A : Option Addr) (cap : Nat) (vs : List Value) (hl : ∀ x ∈ xs, x.length = sz) (hc : xs.length <= cap)
  (hm : xs ≠ [] -> ∃ a, A = some a /\ F a.block /\ ∀ (j : Nat) (v : Value), vs[j]? = some v -> w.cell? (a.add j) = some v)
  (h : RFs w F U m xs.flatten vs) : RF w F U m (.list sz xs) (.slice A xs.length cap)
 | ref (cs : List FV) (a : Addr) (vs : List Value) (hF : F a.block) (hm : ∀ (j : Nat) (v : Value), vs[j]? = some v -> w.cell? (a.add j) = some v)
  (h : RFs w F U m cs vs) : RF w F U m (.ref cs) (.pointer (some a))
 | agg (cs : List FV) (vs : List Value) (h : RFs w F U m cs vs) : RF w F U m (.agg cs) (.agg vs.toArray)
 | tup (cs : List FV) (vs : List Value) (h : RFs w F U m cs vs) : RF w F U m (.tup cs) (.tuple vs.toArray)
 | ptr (l : Loc) (sz i off : Nat) (hu : U l) : RF w F U m (.ptr l sz i off) (.pointer (some ⟨(m l).1, i * sz + off, none⟩))
 | nilp : RF w F U m .nilp (.pointer none)
 | sl (l : Loc) (sz off len cap o : Nat) (hu : U l) (hc : len <= cap) (ho : cap = 0 \/ o = off * sz) (hs : (off + cap) * sz <= (m l).2) : RF w F U m (.sl l sz off len) (.slice (some ⟨(m l).1, o, none⟩) len cap)
 | sl0 (l : Loc) (sz off : Nat) (A : Option Addr) (hu : U l) (h0 : (m l).2 = 0) : RF w F U m (.sl l sz off 0) (.slice A 0 0)
 | nils : RF w F U m .nils (.slice none 0 0)
 | mp (l : Loc) (hu : U l) : RF w F U m (.mp l) (.map (some (m l).1))
 | nilm : RF w F U m .nilm (.map none)
 | clo (f : FuncId) (first caps : List FV) (us vs : List Value) (h1 : RFs w F U m first us) (h2 : RFs w F U m caps vs) : RF w F U m (.clo f first caps) (.func (.func f) us.toArray vs.toArray)
 | nilf : RF w F U m .nilf .nilFunc
 | emp (A : Option Addr) : RF w F U m .emp (.slice A 0 0)
inductive RFs (w : World) (F : Nat -> Prop) (U : Loc -> Prop) (m : Loc -> Nat × Nat) : List FV -> List Value -> Prop
 | nil : RFs w F U m [] []
 | cons (a : FV) (v : Value) (as : List FV) (vs : List Value) (h : RF w F U m a v) (hs : RFs w F U m as vs) : RFs w F U m (a :: as) (v :: vs)
end
theorem a7s (a : Addr) (n : Nat) : (a.add n).block = a.block := by unfold Addr.add; split <;> rfl
theorem b7g (a : Addr) (i j : Nat) : (a.add i).add j = a.add (i + j) := by
 unfold Addr.add
 by_cases hi : i = 0 <;> by_cases hj : j = 0 <;> simp [hi, hj, Nat.add_assoc]
theorem add0 (g o k : Nat) : (⟨g, o, none⟩ : Addr).add k = ⟨g, o + k, none⟩ := by
 unfold Addr.add; split <;> simp_all
section
variable {w w' : World} {F F' : Nat -> Prop} {U U' : Loc -> Prop} {m m' : Loc -> Nat × Nat}
mutual
theorem RF.keep {a : FV} {v : Value} (h : RF w F U m a v) (hF : ∀ b, F b -> F' b) (hb : ∀ b, F b -> w'.heap[b]? = w.heap[b]?) (hU : ∀ l, U l -> U' l) (hm : ∀ l, U l -> m' l = m l) : RF w' F' U' m' a v :=
 match h with
 | .undef v => .undef v
 | .int k n => .int k n
 | .bool b => .bool b
 | .str s => .str s
 | .list sz xs A cap vs hl hc hm' h =>
   .list sz xs A cap vs hl hc (fun hne => by
    obtain ⟨a, hA, hFa, hcell⟩ := hm' hne
    exact ⟨a, hA, hF _ hFa, fun j v hv => (World.cell?_of_block (by rw [a7s]; exact hb _ hFa)).trans (hcell j v hv)⟩)
    (RFs.keep h hF hb hU hm)
 | .ref cs a vs hFa hc h => .ref cs a vs (hF _ hFa) (fun j v hv => (World.cell?_of_block (by rw [a7s]; exact hb _ hFa)).trans (hc j v hv)) (RFs.keep h hF hb hU hm)
 | .agg cs vs h => .agg cs vs (RFs.keep h hF hb hU hm)
 | .tup cs vs h => .tup cs vs (RFs.keep h hF hb hU hm)
 | .ptr l sz i off hu => by rw [<- hm l hu]; exact .ptr l sz i off (hU l hu)
 | .nilp => .nilp
 | .sl l sz off len cap o hu hc ho hs => by rw [<- hm l hu]; exact .sl l sz off len cap o (hU l hu) hc ho (by rw [hm l hu]; exact hs)
 | .sl0 l sz off A hu h0 => .sl0 l sz off A (hU l hu) (by rw [hm l hu]; exact h0)
 | .nils => .nils
 | .mp l hu => by rw [<- hm l hu]; exact .mp l (hU l hu)
 | .nilm => .nilm
 | .clo f first caps us vs h1 h2 => .clo f first caps us vs (RFs.keep h1 hF hb hU hm) (RFs.keep h2 hF hb hU hm)
 | .nilf => .nilf
 | .emp A => .emp A
theorem RFs.keep {as : List FV} {vs : List Value} (h : RFs w F U m as vs) (hF : ∀ b, F b -> F' b) (hb : ∀ b, F b -> w'.heap[b]? = w.heap[b]?) (hU : ∀ l, U l -> U' l) (hm : ∀ l, U l -> m' l = m l) : RFs w' F' U' m' as vs :=
 match h with
 | .nil => .nil
 | .cons a v as vs h hs => .cons a v as vs (RF.keep h hF hb hU hm) (RFs.keep hs hF hb hU hm)
end
theorem RFs.length {as : List FV} {vs : List Value} (h : RFs w F U m as vs) : as.length = vs.length := by
 match h with
 | .nil => rfl
 | .cons a v as vs h hs => simp [RFs.length hs]
theorem RFs.append {as as' : List FV} {vs vs' : List Value} (h : RFs w F U m as vs) (h' : RFs w F U m as' vs') : RFs w F U m (as ++ as') (vs ++ vs') := by
 match h with
 | .nil => exact h'
 | .cons a v as vs h hs => exact .cons a v _ _ h (RFs.append hs h')
theorem RFs.get {as : List FV} {vs : List Value} (h : RFs w F U m as vs) (k : Nat) {c : FV} (hk : as[k]? = some c) : ∃ v, vs[k]? = some v /\ RF w F U m c v := by
 match h with
 | .nil => simp at hk
 | .cons a v as vs h hs =>
   match k with
   | 0 => simp at hk; subst hk; exact ⟨v, by simp, h⟩
   | k + 1 =>
     obtain ⟨u, h1, h2⟩ := RFs.get hs k (c := c) (by simpa using hk)
     exact ⟨u, by simpa using h1, h2⟩
theorem RFs.set {as : List FV} {vs : List Value} (h : RFs w F U m as vs) (k : Nat) {c : FV} {v : Value} (hc : RF w F U m c v) : RFs w F U m (as.set k c) (vs.set k v) := by
 match h with
 | .nil => simpa using RFs.nil
 | .cons a u as vs h hs =>
   match k with
   | 0 => simpa using RFs.cons c v as vs hc hs
   | k + 1 => simpa using RFs.cons a u _ _ h (RFs.set hs k hc)
theorem RFs.take {as : List FV} {vs : List Value} (h : RFs w F U m as vs) (n : Nat) : RFs w F U m (as.take n) (vs.take n) := by
 match h with
 | .nil => simpa using RFs.nil
 | .cons a v as vs h hs =>
   match n with
   | 0 => simpa using RFs.nil
   | n + 1 => simpa using RFs.cons a v _ _ h (RFs.take hs n)
theorem RFs.drop {as : List FV} {vs : List Value} (h : RFs w F U m as vs) (n : Nat) : RFs w F U m (as.drop n) (vs.drop n) := by
 match h with
 | .nil => simpa using RFs.nil
 | .cons a v as vs h hs =>
   match n with
   | 0 => simpa using RFs.cons a v as vs h hs
   | n + 1 => simpa using RFs.drop hs n
theorem RFs.part (as as' : List FV) {vs : List Value} (h : RFs w F U m (as ++ as') vs) : ∃ v1 v2, vs = v1 ++ v2 /\ RFs w F U m as v1 /\ RFs w F U m as' v2 := by
 match as with
 | [] => exact ⟨[], vs, rfl, .nil, h⟩
 | a :: as =>
   match h with
   | .cons _ v _ vs h hs =>
     obtain ⟨v1, v2, rfl, h1, h2⟩ := RFs.part as as' hs
     exact ⟨v :: v1, v2, rfl, .cons a v _ _ h h1, h2⟩
theorem RFs.single {x : FV} {vs : List Value} (h : RFs w F U m [x] vs) : ∃ v, vs = [v] /\ RF w F U m x v := by
 cases h with
 | cons _ v _ vs h1 h2 =>
 cases h2
 exact ⟨v, rfl, h1⟩
structure RE (w : World) (F : Nat -> Prop) (U : Loc -> Prop) (m : Loc -> Nat × Nat) (e : FV × FV × Nat) (x : MapEntry) : Prop where
 key : RF w F U m e.1 x.key
 val : RF w F U m e.2.1 x.val
 born : x.born = e.2.2
inductive REs (w : World) (F : Nat -> Prop) (U : Loc -> Prop) (m : Loc -> Nat × Nat) : List (FV × FV × Nat) -> List MapEntry -> Prop
 | nil : REs w F U m [] []
 | cons (e : FV × FV × Nat) (x : MapEntry) (es : List (FV × FV × Nat)) (xs : List MapEntry) (h : RE w F U m e x) (hs : REs w F U m es xs) : REs w F U m (e :: es) (x :: xs)
theorem RE.keep {e : FV × FV × Nat} {x : MapEntry} (h : RE w F U m e x) (hF : ∀ b, F b -> F' b) (hb : ∀ b, F b -> w'.heap[b]? = w.heap[b]?) (hU : ∀ l, U l -> U' l) (hm : ∀ l, U l -> m' l = m l) : RE w' F' U' m' e x :=
 ⟨h.key.keep hF hb hU hm, h.val.keep hF hb hU hm, h.born⟩
theorem REs.keep {es : List (FV × FV × Nat)} {xs : List MapEntry} (h : REs w F U m es xs) (hF : ∀ b, F b -> F' b) (hb : ∀ b, F b -> w'.heap[b]? = w.heap[b]?) (hU : ∀ l, U l -> U' l) (hm : ∀ l, U l -> m' l = m l) : REs w' F' U' m' es xs := by
 match h with
 | .nil => exact .nil
 | .cons e x es xs h hs => exact .cons e x es xs (h.keep hF hb hU hm) (REs.keep hs hF hb hU hm)
theorem REs.length {es : List (FV × FV × Nat)} {xs : List MapEntry} (h : REs w F U m es xs) : es.length = xs.length := by
 match h with
 | .nil => rfl
 | .cons e x es xs h hs => simp [REs.length hs]
theorem REs.append {es es' : List (FV × FV × Nat)} {xs xs' : List MapEntry} (h : REs w F U m es xs) (h' : REs w F U m es' xs') : REs w F U m (es ++ es') (xs ++ xs') := by
 match h with
 | .nil => exact h'
 | .cons e x es xs h hs => exact .cons e x _ _ h (REs.append hs h')
def OR (w : World) (F : Nat -> Prop) (H : Heap) (m : Loc -> Nat × Nat) (l : Loc) : FO -> Prop
 | .cells T sz xs => (xs = [] /\ (m l).2 = 0) \/ ((m l).2 ≠ 0 /\ ∃ (c : Array Value), w.heap[(m l).1]? = some (.cells c T (0, 0)) /\ c.size = (m l).2 /\ (∀ x ∈ xs, x.length = sz) /\ xs.length * sz <= c.size /\
  RFs w F (fun l => H l ≠ none) m xs.flatten (c.toList.take (xs.length * sz)))
 | .map es clk => (m l).2 ≠ 0 /\ ∃ (a : Array MapEntry), w.heap[(m l).1]? = some (.map a clk) /\ REs w F (fun l => H l ≠ none) m es a.toList
 | .iter x since seen last => (m l).2 ≠ 0 /\ ∃ q, RF w F (fun l => H l ≠ none) m x (.map q) /\ w.heap[(m l).1]? = some (.mapIter q since seen.toArray last)
 | .dead => True
def Live (H : Heap) (m : Loc -> Nat × Nat) (l : Loc) : Prop := ∃ o, H l = some o /\ o ≠ .dead /\ (m l).2 ≠ 0
theorem OR.keep {H H' : Heap} {l l' : Loc} {o : FO} (h : OR w F H m l o) (hF : ∀ b, F b -> F' b) (hb : ∀ b, F b -> w'.heap[b]? = w.heap[b]?) (hU : ∀ k, H k ≠ none -> H' k ≠ none) (hm : ∀ k, H k ≠ none -> m' k = m k) (hl : m' l' = m l)
 (hw : o ≠ .dead -> (m l).2 ≠ 0 -> w'.heap[(m l).1]? = w.heap[(m l).1]?) : OR w' F' H' m' l' o := by
 cases o with
 | cells T sz xs =>
   simp only [OR, hl] at h ⊢
   rcases h with h1 | ⟨h0, c, h1, h2, h3, h4, h5⟩
   . exact .inl h1
   . exact .inr ⟨h0, c, (hw (by simp) h0).trans h1, h2, h3, h4, h5.keep hF hb hU hm⟩
 | map es clk =>
   simp only [OR, hl] at h ⊢
   obtain ⟨h0, b, h1, h2⟩ := h
   exact ⟨h0, b, (hw (by simp) h0).trans h1, h2.keep hF hb hU hm⟩
 | iter x since seen last =>
   simp only [OR, hl] at h ⊢
   obtain ⟨h0, q, h1, h2⟩ := h
   exact ⟨h0, q, h1.keep hF hb hU hm, (hw (by simp) h0).trans h2⟩
 | dead => trivial
structure HeapR (w : World) (F : Nat -> Prop) (m : Loc -> Nat × Nat) (H : Heap) : Prop where
 obj : ∀ l o, H l = some o -> OR w F H m l o
 inj : ∀ l l', Live H m l -> Live H m l' -> (m l).1 = (m l').1 -> l = l'
 old : ∀ l, Live H m l -> (m l).1 < w.heap.size /\ ¬ F (m l).1
end
abbrev Asg := List (Nat × FV)
def lk : Asg -> Nat -> FV
 | [], _ => .undef
 | (k, v) :: r, t => if k = t then v else lk r t
structure Fs where
 vars : List FV
 tm : Asg
 H : Heap
 ix : List Nat
def Fs.get (s : Fs) (t : Nat) : FV := if t < s.vars.length then s.vars.getD t .undef else lk s.tm t
def Fs.put (s : Fs) (t : Nat) (v : FV) : Fs := if t < s.vars.length then { s with vars := s.vars.set t v } else { s with tm := (t, v) :: s.tm }
def upd (H : Heap) (l : Loc) (o : FO) : Heap := fun k => if k = l then some o else H k
def FV.isU : FV -> Bool
 | .undef => true
 | _ => false
theorem d4b (l : Asg) (d t : Nat) (x : FV) : lk ((d, x) :: l) t = if d = t then x else lk l t := rfl
theorem a7z (s : Fs) (d t : Nat) (x : FV) : (s.put d x).get t = if t = d then x else s.get t := by
 unfold Fs.put
 split
 . rename_i h
   simp only [Fs.get, List.length_set]
   by_cases e : t = d
   . subst e; simp [h]
   . simp only [e, if_false]
     split
     . rw [gD_, gD_, List.getElem?_set_ne (Ne.symm e)]
     . rfl
 . rename_i h
   simp only [Fs.get]
   by_cases e : t = d
   . subst e; simp [h, d4b]
   . simp only [e, if_false, d4b, Ne.symm e]
theorem b0d (s : Fs) (d : Nat) (x : FV) : (s.put d x).vars.length = s.vars.length := by
 unfold Fs.put; split <;> simp
theorem b3p (s : Fs) (d : Nat) (x : FV) : (s.put d x).H = s.H := by
 unfold Fs.put; split <;> rfl
theorem c7g (s : Fs) (d : Nat) (x : FV) : (s.put d x).ix = s.ix := by
 unfold Fs.put; split <;> rfl
theorem e0v (a : Act) (d t : Nat) (v : Value) (hd : d < a.tmps.size) : (a.put (some d) v).tmps.getD t undef = if t = d then v else a.tmps.getD t undef := by
 simp only [Act.put, Array.getD_eq_getD_getElem?]
 by_cases e : t = d
 . subst e; simp [hd]
 . rw [Array.getElem?_setIfInBounds_ne (Ne.symm e)]; simp [e]
theorem b0f (a : Act) (d : Option Tmp) (v : Value) : (a.put d v).tmps.size = a.tmps.size := by cases d <;> simp [Act.put]
structure Cfg where
 N : Nat
 keep : List Nat
 nm : Nat -> List Nat -> Loc
 G : List (Nat × List Value) := []
 L : Loc -> Prop := fun _ => True
structure Ctx where
 w0 : World
 F0 : Nat -> Prop
 H0 : Heap
 m0 : Loc -> Nat × Nat
def Ctx.lent (X : Ctx) (b : Nat) : Prop := ∃ l, Live X.H0 X.m0 l /\ (X.m0 l).1 = b
structure RelX (X : Ctx) (F : Nat -> Prop) (m : Loc -> Nat × Nat) (s : Fs) (a : Act) (w : World) : Prop where
 df : a.defers = []
 vsz : s.vars.length <= a.tmps.size
 val : ∀ t, RF w F (fun l => s.H l ≠ none) m (s.get t) (a.tmps.getD t undef)
 heap : HeapR w F m s.H
 own : ∀ l, Live s.H m l -> X.lent (m l).1 \/ X.w0.heap.size <= (m l).1
 ext : ∀ l, X.H0 l ≠ none -> s.H l ≠ none
 mfix : ∀ l, X.H0 l ≠ none -> m l = X.m0 l
 frz : ∀ b, F b -> b < w.heap.size
 keep : ∀ b, b < X.w0.heap.size -> ¬ X.lent b -> w.heap[b]? = X.w0.heap[b]?
 size : X.w0.heap.size <= w.heap.size
 os : w.os = X.w0.os
 tape : w.tape = X.w0.tape
 output : w.output = X.w0.output
def a6s (G : List (Nat × List Value)) (F : Nat -> Prop) (w : World) : Prop := ∀ p ∈ G, F p.1 /\ p.1 < w.heap.size /\ ∀ j v, p.2[j]? = some v -> w.cell? ⟨p.1, j, none⟩ = some v
structure FX (c : Cfg) (X : Ctx) (F : Nat -> Prop) : Prop where
 up : ∀ y, X.F0 y -> F y
 gl : a6s c.G X.F0 X.w0
 nl : ∀ p ∈ c.G, ¬ X.lent p.1
 hd : ∀ l, X.H0 l ≠ none -> c.L l
def Rel (X : Ctx) (c : Cfg) (s : Fs) (a : Act) (w : World) : Prop :=
 a.tmps.size = c.N /\ ∃ F m, FX c X F /\ (∀ y, F y -> X.F0 y \/ X.w0.heap.size <= y) /\ RelX X F m s a w
section
variable {X : Ctx} {c : Cfg} {w w' : World} {F F' : Nat -> Prop} {m m' : Loc -> Nat × Nat} {s s' : Fs} {a a' : Act}
theorem a6s.mono {G : List (Nat × List Value)} (h : a6s G F w) (hF : ∀ p ∈ G, F p.1 -> F' p.1) : a6s G F' w := fun p hp => ⟨hF p hp (h p hp).1, (h p hp).2⟩
theorem a6s.nil : a6s [] F w := fun _ h => by cases h
theorem FX.here (hx : FX c X F) (h : RelX X F m s a w) : a6s c.G F w := fun p hp => by
 obtain ⟨h1, h2, h3⟩ := hx.gl p hp
 exact ⟨hx.up _ h1, Nat.lt_of_lt_of_le h2 h.size, fun j v hv => (World.cell?_of_block (h.keep p.1 h2 (hx.nl p hp))).trans (h3 j v hv)⟩
theorem FX.more (hx : FX c X F) (hF : ∀ y, F y -> F' y) : FX c X F' := ⟨fun y hy => hF y (hx.up y hy), hx.gl, hx.nl, hx.hd⟩
theorem RelX.put (h : RelX X F m s a w) {d : Nat} {x : FV} {v : Value} (hd : d < a.tmps.size) (hx : RF w F (fun l => s.H l ≠ none) m x v) : RelX X F m (s.put d x) (a.put (some d) v) w :=
 { h with
   vsz := by rw [b0d, b0f]; exact h.vsz
   val := fun t => by
    rw [a7z, e0v _ _ _ _ hd, b3p]
    split
    . exact hx
    . exact h.val t
   heap := by rw [b3p]; exact h.heap
   own := by rw [b3p]; exact h.own
   ext := by rw [b3p]; exact h.ext }
theorem RelX.world (h : RelX X F m s a w) (hsz : w.heap.size <= w'.heap.size) (hw : ∀ b, b < w.heap.size -> w'.heap[b]? = w.heap[b]?) (hos : w'.os = w.os) (htape : w'.tape = w.tape) (hout : w'.output = w.output) :
 RelX X F m s a w' := by
 have hF : ∀ b, F b -> w'.heap[b]? = w.heap[b]? := fun b hb => hw b (h.frz b hb)
 refine { df := h.df, vsz := h.vsz, val := fun t => (h.val t).keep (fun _ h => h) hF (fun _ h => h) (fun _ _ => rfl), heap := ⟨fun l o ho => ?_, h.heap.inj, fun l hl => ?_⟩, own := h.own, ext := h.ext, mfix := h.mfix, frz := fun b hb => ?_, keep := fun b hb hn => ?_, size := Nat.le_trans h.size hsz, os := hos.trans h.os, tape := htape.trans h.tape, output := hout.trans h.output }
 . exact (h.heap.obj l o ho).keep (fun _ h => h) hF (fun _ h => h) (fun _ _ => rfl) rfl (fun hd h0 => hw _ (h.heap.old l ⟨o, ho, hd, h0⟩).1)
 . have := h.heap.old l hl; exact ⟨by omega, this.2⟩
 . have := h.frz b hb; omega
 . rw [hw b (by have := h.size; omega)]; exact h.keep b hb hn
theorem RelX.write (h : RelX X F m s a w) {l : Loc} {o0 o : FO} (hl : s.H l = some o0) (hlive : Live s.H m l) (hne : o ≠ .dead)
 (hsz : w.heap.size <= w'.heap.size) (hw : ∀ b, b < w.heap.size -> b ≠ (m l).1 -> w'.heap[b]? = w.heap[b]?) (hos : w'.os = w.os) (htape : w'.tape = w.tape) (hout : w'.output = w.output)
 (ho : OR w' F (upd s.H l o) m l o) : RelX X F m { s with H := upd s.H l o } a w' := by
 have hU : ∀ k, s.H k ≠ none -> upd s.H l o k ≠ none := fun k hk => by unfold upd; split <;> simp [hk]
 have hlF : ¬ F (m l).1 := (h.heap.old l hlive).2
 have hF : ∀ b, F b -> w'.heap[b]? = w.heap[b]? := fun b hb => hw b (h.frz b hb) (fun e => hlF (e ▸ hb))
 have hupd : ∀ k, k ≠ l -> upd s.H l o k = s.H k := fun k hk => by simp [upd, hk]
 have hself : upd s.H l o l = some o := by simp [upd]
 have hLive : ∀ k, Live (upd s.H l o) m k -> Live s.H m k := fun k ⟨o', h1, h2, h3⟩ => by
  by_cases e : k = l
  . subst e; exact hlive
  . rw [hupd k e] at h1; exact ⟨o', h1, h2, h3⟩
 refine { df := h.df, vsz := h.vsz, val := fun t => (h.val t).keep (fun _ h => h) hF hU (fun _ _ => rfl), heap := ⟨fun k ok hk => ?_, fun k k' hk hk' e => h.heap.inj k k' (hLive k hk) (hLive k' hk') e, fun k hk => ?_⟩, own := fun k hk => h.own k (hLive k hk), ext := fun k hk => hU k (h.ext k hk), mfix := h.mfix, frz := fun b hb => ?_, keep := fun b hb hn => ?_, size := Nat.le_trans h.size hsz, os := hos.trans h.os, tape := htape.trans h.tape, output := hout.trans h.output }
 . have hk : upd s.H l o k = some ok := hk
   show OR w' F (upd s.H l o) m k ok
   by_cases e : k = l
   . subst e
     rw [hself] at hk
     obtain rfl := sI_ hk
     exact ho
   . rw [hupd k e] at hk
     exact (h.heap.obj k ok hk).keep (fun _ h => h) hF hU (fun _ _ => rfl) rfl (fun hd h0 => hw _ (h.heap.old k ⟨ok, hk, hd, h0⟩).1 fun e' => e (h.heap.inj k l ⟨ok, hk, hd, h0⟩ hlive e'))
 . have := h.heap.old k (hLive k hk); exact ⟨by omega, this.2⟩
 . have := h.frz b hb; omega
 . have hb' : b ≠ (m l).1 := fun e => by
    rcases h.own l hlive with h1 | h1
    . exact hn (e ▸ h1)
    . omega
   rw [hw b (by have := h.size; omega) hb']; exact h.keep b hb hn
theorem RelX.fresh (h : RelX X F m s a w) {l : Loc} {o : FO} {n : Nat} (hl : s.H l = none)
 (hsz : w.heap.size < w'.heap.size) (hw : ∀ b, b < w.heap.size -> w'.heap[b]? = w.heap[b]?) (hos : w'.os = w.os) (htape : w'.tape = w.tape) (hout : w'.output = w.output)
 (ho : OR w' F (upd s.H l o) (fun k => if k = l then (w.heap.size, n) else m k) l o) :
 RelX X F (fun k => if k = l then (w.heap.size, n) else m k) { s with H := upd s.H l o } a w' := by
 have h1 := h.world (Nat.le_of_lt hsz) hw hos htape hout
 have hU : ∀ k, s.H k ≠ none -> upd s.H l o k ≠ none := fun k hk => by unfold upd; split <;> simp [hk]
 have hm : ∀ k, s.H k ≠ none -> (if k = l then (w.heap.size, n) else m k) = m k := fun k hk => by
  have : k ≠ l := fun e => hk (e ▸ hl)
  rw [if_neg this]
 have hupd : ∀ k, k ≠ l -> upd s.H l o k = s.H k := fun k hk => by simp [upd, hk]
 have hself : upd s.H l o l = some o := by simp [upd]
 have hLive : ∀ k, k ≠ l -> Live (upd s.H l o) (fun k => if k = l then (w.heap.size, n) else m k) k -> Live s.H m k := fun k e ⟨o', g1, g2, g3⟩ => by
  rw [hupd k e] at g1
  have g3 : (if k = l then (w.heap.size, n) else m k).2 ≠ 0 := g3
  rw [if_neg e] at g3; exact ⟨o', g1, g2, g3⟩
 refine { df := h.df, vsz := h.vsz, val := fun t => (h1.val t).keep (fun _ h => h) (fun _ _ => rfl) hU hm, heap := ⟨fun k ok hk => ?_, fun k k' hk hk' e => ?_, fun k hk => ?_⟩, own := fun k hk => ?_, ext := fun k hk => hU k (h.ext k hk), mfix := fun k hk => (hm k (h.ext k hk)).trans (h.mfix k hk), frz := h1.frz, keep := h1.keep, size := h1.size, os := h1.os, tape := h1.tape, output := h1.output }
 . have hk : upd s.H l o k = some ok := hk
   show OR w' F (upd s.H l o) (fun k => if k = l then (w.heap.size, n) else m k) k ok
   by_cases e : k = l
   . subst e
     rw [hself] at hk
     obtain rfl := sI_ hk
     exact ho
   . rw [hupd k e] at hk
     exact (h1.heap.obj k ok hk).keep (fun _ h => h) (fun _ _ => rfl) hU hm (if_neg e) (fun _ _ => rfl)
 . by_cases e1 : k = l <;> by_cases e2 : k' = l
   . rw [e1, e2]
   . exfalso
     have := (h.heap.old k' (hLive k' e2 hk')).1
     simp only [e1, e2, if_true, if_false] at e
     omega
   . exfalso
     have := (h.heap.old k (hLive k e1 hk)).1
     simp only [e1, e2, if_true, if_false] at e
     omega
   . simp only [e1, e2, if_false] at e
     exact h.heap.inj k k' (hLive k e1 hk) (hLive k' e2 hk') e
 . by_cases e : k = l
   . subst e
     simp only [if_true]
     exact ⟨hsz, fun hF => by have := h.frz _ hF; omega⟩
   . simp only [e, if_false]
     exact h1.heap.old k (hLive k e hk)
 . by_cases e : k = l
   . simp only [e, if_true]; exact .inr h.size
   . simp only [e, if_false]; exact h.own k (hLive k e hk)
theorem RelX.ghost0 (h : RelX X F m s a w) {l : Loc} {T : TypeId} {sz : Nat} (hl : s.H l = none) : RelX X F (fun k => if k = l then (0, 0) else m k) { s with H := upd s.H l (.cells T sz []) } a w := by
 have hU : ∀ k, s.H k ≠ none -> upd s.H l (.cells T sz []) k ≠ none := fun k hk => by unfold upd; split <;> simp [hk]
 have hm : ∀ k, s.H k ≠ none -> (if k = l then (0, 0) else m k) = m k := fun k hk => by
  have : k ≠ l := fun e => hk (e ▸ hl)
  rw [if_neg this]
 have hupd : ∀ k, k ≠ l -> upd s.H l (.cells T sz []) k = s.H k := fun k hk => by simp [upd, hk]
 have hself : upd s.H l (.cells T sz []) l = some (.cells T sz []) := by simp [upd]
 have hLive : ∀ k, Live (upd s.H l (.cells T sz [])) (fun k => if k = l then (0, 0) else m k) k -> k ≠ l /\ Live s.H m k := fun k ⟨o', g1, g2, g3⟩ => by
  have g3 : (if k = l then ((0, 0) : Nat × Nat) else m k).2 ≠ 0 := g3
  by_cases e : k = l
  . rw [if_pos e] at g3; exact absurd rfl g3
  . rw [if_neg e] at g3; rw [hupd k e] at g1; exact ⟨e, o', g1, g2, g3⟩
 refine { df := h.df, vsz := h.vsz, val := fun t => (h.val t).keep (fun _ h => h) (fun _ _ => rfl) hU hm, heap := ⟨fun k ok hk => ?_, fun k k' hk hk' e => ?_, fun k hk => ?_⟩, own := fun k hk => ?_, ext := fun k hk => hU k (h.ext k hk), mfix := fun k hk => (hm k (h.ext k hk)).trans (h.mfix k hk), frz := h.frz, keep := h.keep, size := h.size, os := h.os, tape := h.tape, output := h.output }
 . have hk : upd s.H l (.cells T sz []) k = some ok := hk
   show OR w F (upd s.H l (.cells T sz [])) (fun k => if k = l then (0, 0) else m k) k ok
   by_cases e : k = l
   . subst e
     rw [hself] at hk
     obtain rfl := sI_ hk
     exact .inl ⟨rfl, by simp⟩
   . rw [hupd k e] at hk
     exact (h.heap.obj k ok hk).keep (fun _ h => h) (fun _ _ => rfl) hU hm (if_neg e) (fun _ _ => rfl)
 . obtain ⟨e1, k1⟩ := hLive k hk
   obtain ⟨e2, k2⟩ := hLive k' hk'
   simp only [e1, e2, if_false] at e
   exact h.heap.inj k k' k1 k2 e
 . obtain ⟨e1, k1⟩ := hLive k hk
   simp only [e1, if_false]
   exact h.heap.old k k1
 . obtain ⟨e1, k1⟩ := hLive k hk
   simp only [e1, if_false]
   exact h.own k k1
theorem RelX.rename (h : RelX X F m s a w) {l l' : Loc} {T : TypeId} {sz : Nat} {xs : List (List FV)} (hl : s.H l = some (.cells T sz xs)) (hl' : s.H l' = none) :
 RelX X F (fun k => if k = l' then m l else m k) { s with H := upd (upd s.H l .dead) l' (.cells T sz xs) } a w := by
 have hll : l ≠ l' := fun e => by rw [e, hl'] at hl; cases hl
 have hval : ∀ k, upd (upd s.H l .dead) l' (.cells T sz xs) k = if k = l' then some (.cells T sz xs) else if k = l then some .dead else s.H k := fun k => rfl
 have hU : ∀ k, s.H k ≠ none -> upd (upd s.H l .dead) l' (.cells T sz xs) k ≠ none := fun k hk => by rw [hval]; split <;> (try split) <;> simp [hk]
 have hm : ∀ k, s.H k ≠ none -> (if k = l' then m l else m k) = m k := fun k hk => by
  have : k ≠ l' := fun e => hk (e ▸ hl')
  rw [if_neg this]
 -- the live names: the new one for the old one
 have hLive : ∀ k, Live (upd (upd s.H l .dead) l' (.cells T sz xs)) (fun k => if k = l' then m l else m k) k -> (k = l' /\ Live s.H m l) \/ (k ≠ l' /\ k ≠ l /\ Live s.H m k) := fun k ⟨o', g1, g2, g3⟩ => by
  have g3 : (if k = l' then m l else m k).2 ≠ 0 := g3
  rw [hval] at g1
  by_cases e : k = l'
  . rw [if_pos e] at g1 g3
    exact .inl ⟨e, _, hl, by simp, g3⟩
  . rw [if_neg e] at g1 g3
    by_cases e' : k = l
    . rw [if_pos e'] at g1
      exact absurd (sI_ g1).symm g2
    . rw [if_neg e'] at g1
      exact .inr ⟨e, e', o', g1, g2, g3⟩
 refine { df := h.df, vsz := h.vsz, val := fun t => (h.val t).keep (fun _ h => h) (fun _ _ => rfl) hU hm, heap := ⟨fun k ok hk => ?_, fun k k' hk hk' e => ?_, fun k hk => ?_⟩, own := fun k hk => ?_, ext := fun k hk => hU k (h.ext k hk), mfix := fun k hk => (hm k (h.ext k hk)).trans (h.mfix k hk), frz := h.frz, keep := h.keep, size := h.size, os := h.os, tape := h.tape, output := h.output }
 . have hk : upd (upd s.H l .dead) l' (.cells T sz xs) k = some ok := hk
   show OR w F (upd (upd s.H l .dead) l' (.cells T sz xs)) (fun k => if k = l' then m l else m k) k ok
   rw [hval] at hk
   by_cases e : k = l'
   . rw [if_pos e] at hk
     obtain rfl := sI_ hk
     exact (h.heap.obj l _ hl).keep (fun _ h => h) (fun _ _ => rfl) hU hm (if_pos e) (fun _ _ => rfl)
   . rw [if_neg e] at hk
     by_cases e' : k = l
     . rw [if_pos e'] at hk
       obtain rfl := sI_ hk
       trivial
     . rw [if_neg e'] at hk
       exact (h.heap.obj k ok hk).keep (fun _ h => h) (fun _ _ => rfl) hU hm (if_neg e) (fun _ _ => rfl)
 . rcases hLive k hk with ⟨e1, k1⟩ | ⟨e1, e1', k1⟩ <;> rcases hLive k' hk' with ⟨e2, k2⟩ | ⟨e2, e2', k2⟩
   . rw [e1, e2]
   . simp only [e1, e2, if_true, if_false] at e
     exact absurd (h.heap.inj l k' k1 k2 e).symm e2'
   . simp only [e1, e2, if_true, if_false] at e
     exact absurd (h.heap.inj k l k1 k2 e) e1'
   . simp only [e1, e2, if_false] at e
     exact h.heap.inj k k' k1 k2 e
 . rcases hLive k hk with ⟨e1, k1⟩ | ⟨e1, e1', k1⟩
   . simp only [e1, if_true]; exact h.heap.old l k1
   . simp only [e1, if_false]; exact h.heap.old k k1
 . rcases hLive k hk with ⟨e1, k1⟩ | ⟨e1, e1', k1⟩
   . simp only [e1, if_true]; exact h.own l k1
   . simp only [e1, if_false]; exact h.own k k1
def HLe (H1 H : Heap) : Prop := ∀ l, H1 l = H l \/ H1 l = some .dead
def Fs.le (s1 s : Fs) : Prop := s1.vars.length = s.vars.length /\ (∀ t, s1.get t = .undef \/ s1.get t = s.get t) /\ HLe s1.H s.H
theorem RelX.weaken {s1 : Fs} (h : RelX X F m s a w) (hl : s1.le s) : RelX X F m s1 a w := by
 obtain ⟨hv, hg, hH⟩ := hl
 have hU : ∀ k, s.H k ≠ none -> s1.H k ≠ none := fun k hk => by rcases hH k with e | e <;> rw [e] <;> simp [hk]
 have hLive : ∀ k, Live s1.H m k -> Live s.H m k := fun k ⟨o, g1, g2, g3⟩ => by
  rcases hH k with e | e
  . exact ⟨o, e ▸ g1, g2, g3⟩
  . rw [e] at g1; exact absurd (sI_ g1).symm g2
 refine { h with
  vsz := by rw [hv]; exact h.vsz
  val := fun t => ?_
  heap := ⟨fun l o ho => ?_, fun k k' hk hk' e => h.heap.inj k k' (hLive k hk) (hLive k' hk') e, fun k hk => h.heap.old k (hLive k hk)⟩
  own := fun k hk => h.own k (hLive k hk)
  ext := fun k hk => hU k (h.ext k hk) }
 . rcases hg t with e | e
   . rw [e]; exact .undef _
   . rw [e]; exact (h.val t).keep (fun _ h => h) (fun _ _ => rfl) hU (fun _ _ => rfl)
 . rcases hH l with e | e
   . exact (h.heap.obj l o (e ▸ ho)).keep (fun _ h => h) (fun _ _ => rfl) hU (fun _ _ => rfl) rfl (fun _ _ => rfl)
   . rw [e] at ho
     obtain rfl := sI_ ho
     trivial
theorem Rel.weaken {s1 : Fs} (h : Rel X c s a w) (hl : s1.le s) : Rel X c s1 a w := by
 obtain ⟨hN, F, m, h1, h2, h3⟩ := h
 exact ⟨hN, F, m, h1, h2, h3.weaken hl⟩
end
def szT (P : Program) (t : TypeId) : Option Nat := (P.info? t).map (·.size)
def byT (P : Program) (t : TypeId) : Option Nat := (P.info? t).map (·.bytes)
def ldT (P : Program) (t : TypeId) : Option (Option Nat) := match P.underlying t with
 | some (.struct _) => (szT P t).map some
 | some (.array _ _) => (szT P t).map some
 | some _ => some none
 | none => none
def fldT (P : Program) (t : TypeId) (f : Nat) : Option Nat := match P.underlying t with
 | some (.struct fs) => match fs[f]? with
   | some x => match szT P x.type with
     | some 0 => none
     | some _ => some x.offset
     | none => none
   | none => none
 | _ => none
def intT (P : Program) (t : TypeId) : Option IntKind := match P.underlying t with | some (.int k) => some k | _ => none
def hasT (P : Program) (t : TypeId) : Bool := (P.underlying t).isSome
def slT (P : Program) (t : TypeId) : Option (TypeId × Nat) := match P.underlying t with
 | some (.slice e) => (szT P e).map fun n => (e, n)
 | _ => none
def arT (P : Program) (t : TypeId) : Option (Nat × Nat) := match P.underlying t with
 | some (.array n e) => (szT P e).map fun k => (n, k)
 | _ => none
def strT (P : Program) (t : TypeId) : Bool := match P.underlying t with | some .string => true | _ => false
def b7t (P : Program) (t : TypeId) : Bool := match P.underlying t with | some .bool => true | _ => false
section
variable {P : Program} {w : World}
theorem a4a {t : TypeId} {n : Nat} (h : szT P t = some n) (w : World) : (sizeOf t).run P w = .ok n w := by
 unfold szT at h
 rw [oM_] at h
 obtain ⟨i, hi, rfl⟩ := h
 simp [sizeOf, typeInfo, hi]
theorem c8r {t : TypeId} {b : Nat} (h : byT P t = some b) : ∃ i, P.info? t = some i /\ i.bytes = b := by
 unfold byT at h
 rw [oM_] at h
 exact h
theorem d8t {t : TypeId} {n : Nat} {i : TypeInfo} (h : szT P t = some n) (hi : P.info? t = some i) : i.size = n := by
 unfold szT at h
 rw [hi] at h
 simpa using h
theorem b5q {t : TypeId} {x : Option Nat} (h : ldT P t = some x) (w : World) : (isAgg t).run P w = .ok x.isSome w /\ ∀ n, x = some n -> szT P t = some n := by
 unfold ldT at h
 split at h
 . rename_i h1
   rw [oM_] at h
   obtain ⟨n, hn, rfl⟩ := h
   exact ⟨by simp [isAgg, run_underlying h1], by simpa using hn⟩
 . rename_i h1
   rw [oM_] at h
   obtain ⟨n, hn, rfl⟩ := h
   exact ⟨by simp [isAgg, run_underlying h1], by simpa using hn⟩
 . rename_i d n1 n2 h1
   obtain rfl := by simpa using h
   refine ⟨?_, by simp⟩
   simp only [isAgg, Sem.run_bind, run_underlying h1, Result.andThen_ok]
   cases d <;> first | rfl | (exfalso; exact n1 _ rfl) | (exfalso; exact n2 _ _ rfl)
 . cases h
theorem a4n {t e : TypeId} {n : Nat} (h : slT P t = some (e, n)) : P.underlying t = some (.slice e) /\ szT P e = some n := by
 unfold slT at h; split at h
 . rename_i h1
   rw [oM_] at h
   obtain ⟨m, hm, e⟩ := h
   simp only [Prod.mk.injEq] at e
   obtain ⟨rfl, rfl⟩ := e
   exact ⟨h1, hm⟩
 . cases h
theorem c1d {t : TypeId} {n k : Nat} (h : arT P t = some (n, k)) : ∃ e, P.underlying t = some (.array n e) /\ szT P e = some k := by
 unfold arT at h; split at h
 . rename_i n' e h1
   rw [oM_] at h
   obtain ⟨m, hm, e'⟩ := h
   simp only [Prod.mk.injEq] at e'
   obtain ⟨rfl, rfl⟩ := e'
   exact ⟨e, h1, hm⟩
 . cases h
theorem d4n {t : TypeId} {k : IntKind} (h : intT P t = some k) : P.underlying t = some (.int k) := by
 unfold intT at h; split at h
 . rename_i h1; rw [h1]; simpa using h
 . cases h
theorem b1y {t : TypeId} (h : strT P t = true) : P.underlying t = some .string := by
 unfold strT at h; split at h
 . assumption
 . cases h
theorem d0n {t : TypeId} (h : b7t P t = true) : P.underlying t = some .bool := by
 unfold b7t at h; split at h
 . assumption
 . cases h
theorem c1u {st : TypeId} {f off : Nat} (h : fldT P st f = some off) (a : Addr) (w : World) : (Instr.fieldAt st (.pointer (some a)) f).run P w = .ok (.pointer (some (a.add off))) w := by
 unfold fldT at h
 split at h
 . rename_i fs h1
   split at h
   . rename_i x hx
     split at h
     . cases h
     . rename_i n hn0 hn
       obtain rfl := by simpa using h
       have hsz := a4a hn w
       have hne : n ≠ 0 := fun e => hn0 (by rw [e])
       simp [Instr.fieldAt, run_underlying h1, hx, Instr.sureAddr, fieldPlace, hsz, hne]
     . cases h
   . cases h
 . cases h
end
theorem c8a {α : Type} (sz : Nat) : ∀ (xs : List (List α)) (i off : Nat) (x : List α), (∀ x ∈ xs, x.length = sz) -> xs[i]? = some x -> off < sz -> xs.flatten[i * sz + off]? = x[off]?
 | [], _, _, _, _, h, _ => by simp at h
 | y :: ys, 0, off, x, hl, h, ho => by
   simp at h; subst h
   have := hl y (by simp)
   rw [List.flatten_cons, Nat.zero_mul, Nat.zero_add, List.getElem?_append_left (by omega)]
 | y :: ys, i + 1, off, x, hl, h, ho => by
   have hy := hl y (by simp)
   rw [List.flatten_cons, List.getElem?_append_right (by rw [hy, Nat.add_mul]; omega)]
   have := c8a sz ys i off x (fun x hx => hl x (by simp [hx])) (by simpa using h) ho
   rw [<- this, hy, Nat.add_mul]
   congr 1
   omega
theorem a5b {α : Type} (sz : Nat) : ∀ (xs : List (List α)), (∀ x ∈ xs, x.length = sz) -> xs.flatten.length = xs.length * sz
 | [], _ => by simp
 | y :: ys, hl => by
   have := a5b sz ys (fun x hx => hl x (by simp [hx]))
   rw [List.flatten_cons, List.length_append, this, hl y (by simp), List.length_cons, Nat.add_mul]
   omega
theorem b6o {α : Type} (sz : Nat) : ∀ (xs : List (List α)) (i : Nat) (x : List α), (∀ x ∈ xs, x.length = sz) -> xs[i]? = some x -> (xs.flatten.drop (i * sz)).take sz = x
 | [], _, _, _, h => by simp at h
 | y :: ys, 0, x, hl, h => by
   simp at h; subst h
   have := hl y (by simp)
   rw [List.flatten_cons, Nat.zero_mul, List.drop_zero, <- this]
   simp
 | y :: ys, i + 1, x, hl, h => by
   have hy := hl y (by simp)
   have := b6o sz ys i x (fun x hx => hl x (by simp [hx])) (by simpa using h)
   rw [List.flatten_cons, Nat.add_mul, Nat.one_mul, Nat.add_comm, <- List.drop_drop]
   rw [show (y ++ ys.flatten).drop sz = ys.flatten by rw [<- hy]; simp]
   exact this
section
variable {P : Program} {w : World} {F : Nat -> Prop} {m : Loc -> Nat × Nat} {H : Heap}
theorem a6z {w : World} {g : Nat} {c : Array Value} {T : TypeId} {fr : Nat × Nat} (hg : w.heap[g]? = some (.cells c T fr)) (k : Nat) : w.cell? ⟨g, k, none⟩ = c[k]? := by
 simp [World.cell?, hg]
theorem d2l (h : HeapR w F m H) {l : Loc} {T : TypeId} {sz i : Nat} {xs : List (List FV)} {x : List FV} (hl : H l = some (.cells T sz xs)) (hx : xs[i]? = some x) :
 x.length = sz /\ (m l).2 ≠ 0 /\ ∃ (c : Array Value) (vs : List Value), w.heap[(m l).1]? = some (.cells c T (0, 0)) /\ c.size = (m l).2 /\ (i + 1) * sz <= c.size /\ RFs w F (fun l => H l ≠ none) m x vs /\ ∀ j, j < sz -> vs[j]? = c[i * sz + j]? := by
 rcases h.obj l _ hl with ⟨rfl, _⟩ | ⟨h0, c, g1, g2, g3, g4, g5⟩
 . simp at hx
 . have hlen := g3 x (List.mem_of_getElem? hx)
   have hi : i < xs.length := by rw [List.getElem?_eq_some_iff] at hx; exact hx.1
   have hmul : (i + 1) * sz <= xs.length * sz := Nat.mul_le_mul_right _ hi
   refine ⟨hlen, h0, c, ((c.toList.take (xs.length * sz)).drop (i * sz)).take sz, g1, g2, by omega, ?_, ?_⟩
   . have := (g5.drop (i * sz)).take sz
     rw [b6o sz xs i x g3 hx] at this
     exact this
   . intro j hj
     rw [List.getElem?_take, if_pos hj, List.getElem?_drop, List.getElem?_take, if_pos (by rw [Nat.add_mul] at hmul; omega), Array.getElem?_toList]
def b4f (P : Program) (H : Heap) (t : TypeId) (x : FV) : Option FV := match ldT P t with
 | none => none
 | some none => match x with
   | .ptr l sz i off => match H l with
     | some (.cells _ sz' xs) => if sz' = sz then (xs[i]?).bind (·[off]?) else none
     | _ => none
   | .ref (v :: _) => some v
   | _ => none
 | some (some 0) => match x with
   | .ptr .. => some (.agg [])
   | .ref _ => some (.agg [])
   | _ => none
 | some (some n) => match x with
   | .ptr l sz i off => match H l with
     | some (.cells _ sz' xs) => if sz' = sz then (xs[i]?).bind fun r => if off + n <= r.length then some (.agg ((r.drop off).take n)) else none else none
     | _ => none
   | .ref cs => if n <= cs.length then some (.agg (cs.take n)) else none
   | _ => none
theorem c8d (h : HeapR w F m H) {t : TypeId} {x y : FV} {v : Value} (hs : b4f P H t x = some y) (hx : RF w F (fun l => H l ≠ none) m x v) :
 ∃ u, (Instr.loadAt t v).run P w = .ok u w /\ RF w F (fun l => H l ≠ none) m y u := by
 unfold b4f at hs
 split at hs
 . cases hs
 . rename_i ht
   obtain ⟨hagg, _⟩ := b5q ht w
   split at hs
   . rename_i l sz i off
     split at hs
     . rename_i T sz' xs hl
       split at hs
       . rename_i e; subst e
         rw [Option.bind_eq_some_iff] at hs
         obtain ⟨r, hr, hy⟩ := hs
         obtain ⟨hlen, h0, c, vs, g1, g2, g3, g4, g5⟩ := d2l h hl hr
         obtain ⟨u, hu, hru⟩ := g4.get off hy
         have hoff : off < sz' := by rw [<- hlen]; rw [List.getElem?_eq_some_iff] at hy; exact hy.1
         rw [g5 off hoff] at hu
         cases hx
         refine ⟨u, ?_, hru⟩
         have hcell : w.cell? ⟨(m l).1, i * sz' + off, none⟩ = some u := by rw [a6z g1]; exact hu
         simp [Instr.loadAt, Instr.sureAddr, loadVar, hagg, hcell]
       . cases hs
     . cases hs
   . rename_i y' cs
     obtain rfl := by simpa using hs
     cases hx with
     | ref _ ad vs hF hm hvs =>
     obtain ⟨u, g1, g2⟩ := hvs.get 0 (c := y') rfl
     have hcell := hm 0 u g1
     have e0 : ad.add 0 = ad := by simp [Addr.add]
     rw [e0] at hcell
     exact ⟨u, by simp [Instr.loadAt, Instr.sureAddr, loadVar, hagg, hcell], g2⟩
   . cases hs
 . rename_i ht
   obtain ⟨hagg, hsz⟩ := b5q ht w
   have hsz := hsz 0 rfl
   have key : ∀ ad : Addr, (Instr.loadAt t (.pointer (some ad))).run P w = .ok (.agg #[]) w := fun ad => by
    have hld := run_loadCells_list (P := P) (w := w) ad [] (fun j v hj => by simp at hj)
    simp only [List.length_nil] at hld
    simp [Instr.loadAt, Instr.sureAddr, loadVar, hagg, a4a hsz, hld]
   split at hs
   . obtain rfl := by simpa using hs
     cases hx
     exact ⟨_, key _, .agg [] [] .nil⟩
   . obtain rfl := by simpa using hs
     cases hx
     exact ⟨_, key _, .agg [] [] .nil⟩
   . cases hs
 . rename_i n _ ht
   obtain ⟨hagg, hsz⟩ := b5q ht w
   have hsz := hsz n rfl
   split at hs
   . rename_i l sz i off
     split at hs
     . rename_i T sz' xs hl
       split at hs
       . rename_i e; subst e
         rw [Option.bind_eq_some_iff] at hs
         obtain ⟨r, hr, hy⟩ := hs
         split at hy
         . rename_i hle
           obtain rfl := by simpa using hy
           obtain ⟨hlen, h0, c, vs, g1, g2, g3, g4, g5⟩ := d2l h hl hr
           have hvl : vs.length = sz' := by rw [<- g4.length]; exact hlen
           cases hx
           have hld := run_loadCells_list (P := P) (w := w) ⟨(m l).1, i * sz' + off, none⟩ ((vs.drop off).take n) (fun j v hj => by
            rw [add0, a6z g1, Nat.add_assoc, <- g5 (off + j) (by
             rw [List.getElem?_take] at hj
             split at hj
             . omega
             . cases hj)]
            rw [List.getElem?_take] at hj
            split at hj
            . rw [List.getElem?_drop] at hj; exact hj
            . cases hj)
           have hcl : ((vs.drop off).take n).length = n := by simp; omega
           rw [hcl] at hld
           refine ⟨.agg ((vs.drop off).take n).toArray, ?_, .agg _ _ ((g4.drop off).take n)⟩
           simp [Instr.loadAt, Instr.sureAddr, loadVar, hagg, a4a hsz, hld]
         . cases hy
       . cases hs
     . cases hs
   . rename_i cs
     split at hs
     . rename_i hle
       obtain rfl := by simpa using hs
       cases hx with
       | ref _ ad vs hF hm hvs =>
       have hvl := hvs.length
       have hld := run_loadCells_list (P := P) (w := w) ad (vs.take n) (fun j v hj => by
        rw [List.getElem?_take] at hj
        split at hj
        . exact hm j v hj
        . cases hj)
       have hcl : (vs.take n).length = n := by simp; omega
       rw [hcl] at hld
       refine ⟨.agg (vs.take n).toArray, ?_, .agg _ _ (hvs.take n)⟩
       simp [Instr.loadAt, Instr.sureAddr, loadVar, hagg, a4a hsz, hld]
     . cases hs
   . cases hs
def b6u (P : Program) (st : TypeId) (x : FV) (f : Nat) : Option FV := match fldT P st f, x with
 | some off, .ptr l sz i o => some (.ptr l sz i (o + off))
 | some off, .ref cs => some (.ref (cs.drop off))
 | _, _ => none
theorem d6f {st : TypeId} {x y : FV} {f : Nat} {v : Value} (hs : b6u P st x f = some y) (hx : RF w F (fun l => H l ≠ none) m x v) :
 ∃ u, (Instr.fieldAt st v f).run P w = .ok u w /\ RF w F (fun l => H l ≠ none) m y u := by
 unfold b6u at hs
 split at hs
 . rename_i off l sz i o ht
   obtain rfl := by simpa using hs
   cases hx with
   | ptr _ _ _ _ hu =>
   refine ⟨_, c1u ht _ w, ?_⟩
   rw [add0, Nat.add_assoc]
   exact .ptr l sz i (o + off) hu
 . rename_i off cs ht
   obtain rfl := by simpa using hs
   cases hx with
   | ref _ ad vs hF hm hvs =>
   exact ⟨_, c1u ht _ w, .ref _ _ (vs.drop off) (by rw [a7s]; exact hF) (fun j v hj => by rw [List.getElem?_drop] at hj; rw [b7g]; exact hm _ _ hj) (hvs.drop off)⟩
 . cases hs
def b6t (P : Program) (t : TypeId) (x i : FV) : Option FV := match i with
 | .int _ n => match slT P t, x with
   | some (_, sz), .list sz' xs => if decide (sz' = sz) && decide (0 <= n) then (xs[n.toNat]?).map .ref else none
   | some (_, sz), .sl l sz' off len => if decide (sz' = sz) && (decide (0 <= n) && decide (n < (len : Int))) then some (.ptr l sz (off + n.toNat) 0) else none
   | _, _ => match arT P t, x with
     | some (k, sz), .ptr l rs j o => if decide (0 <= n) && decide (n < (k : Int)) then some (.ptr l rs j (o + n.toNat * sz)) else none
     | some (k, sz), .ref cs => if decide (0 <= n) && decide (n < (k : Int)) then some (.ref (cs.drop (n.toNat * sz))) else none
     | _, _ => none
 | _ => none
theorem d6e {t : TypeId} {x i y : FV} {v vi : Value} (hs : b6t P t x i = some y) (hx : RF w F (fun l => H l ≠ none) m x v) (hi : RF w F (fun l => H l ≠ none) m i vi) :
 ∃ u, (Instr.indexAt t v vi).run P w = .ok u w /\ RF w F (fun l => H l ≠ none) m y u := by
 unfold b6t at hs
 split at hs
 case h_2 => cases hs
 rename_i k n
 cases hi
 split at hs
 . rename_i e sz sz' xs ht
   obtain ⟨hu, hz⟩ := a4n ht
   split at hs
   . rename_i hc
     rw [bA_] at hc
     obtain ⟨hsz, h0⟩ := hc
     have hsz := of_decide_eq_true hsz
     have h0 := of_decide_eq_true h0
     subst hsz
     rw [oM_] at hs
     obtain ⟨r, hr, rfl⟩ := hs
     cases hx with
     | list _ _ A cap vs hl hc hm hvs =>
     have hlt : n.toNat < xs.length := by rw [List.getElem?_eq_some_iff] at hr; exact hr.1
     obtain ⟨ad, rfl, hF, hcell⟩ := hm (fun e => by rw [e] at hlt; simp at hlt)
     have hlt' : n < (xs.length : Int) := by omega
     refine ⟨.pointer (some (ad.add (n.toNat * sz'))), by simp [Instr.indexAt, asIntOf, run_underlying hu, a4a hz, h0, hlt'], ?_⟩
     have hpart := (hvs.drop (n.toNat * sz')).take sz'
     rw [b6o sz' xs n.toNat r hl hr] at hpart
     refine .ref _ _ _ (by rw [a7s]; exact hF) (fun j v hj => ?_) hpart
     rw [List.getElem?_take] at hj
     split at hj
     . rw [List.getElem?_drop] at hj; rw [b7g]; exact hcell _ _ hj
     . cases hj
   . cases hs
 . rename_i e sz l sz' off len ht
   obtain ⟨hu, hz⟩ := a4n ht
   split at hs
   . rename_i hc
     rw [bA_, bA_] at hc
     obtain ⟨hsz, h0, hlt⟩ := hc
     have hsz := of_decide_eq_true hsz
     have h0 := of_decide_eq_true h0
     have hlt := of_decide_eq_true hlt
     subst hsz
     obtain rfl := by simpa using hs
     cases hx with
     | sl _ _ _ _ cap o hu' hc ho hs' =>
       have ho' : o = off * sz' := ho.resolve_left (by omega)
       subst ho'
       refine ⟨.pointer (some ((⟨(m l).1, off * sz', none⟩ : Addr).add (n.toNat * sz'))), by simp [Instr.indexAt, asIntOf, run_underlying hu, a4a hz, h0, hlt], ?_⟩
       rw [add0, <- Nat.add_mul]
       exact .ptr l sz' (off + n.toNat) 0 hu'
     | sl0 => simp at hlt; omega
   . cases hs
 . split at hs
   . rename_i k' sz l rs j o ht _ _
     obtain ⟨e, hu, hz⟩ := c1d ht
     split at hs
     . rename_i hc
       rw [bA_] at hc
       obtain ⟨h0, hlt⟩ := hc
       have h0 := of_decide_eq_true h0
       have hlt := of_decide_eq_true hlt
       obtain rfl := by simpa using hs
       cases hx with
       | ptr _ _ _ _ hu' =>
       refine ⟨.pointer (some ((⟨(m l).1, j * rs + o, none⟩ : Addr).add (n.toNat * sz))), by simp [Instr.indexAt, asIntOf, run_underlying hu, a4a hz, h0, hlt, Instr.sureAddr], ?_⟩
       rw [add0, Nat.add_assoc]
       exact .ptr l rs j (o + n.toNat * sz) hu'
     . cases hs
   . rename_i k' sz cs ht _ _
     obtain ⟨e, hu, hz⟩ := c1d ht
     split at hs
     . rename_i hc
       rw [bA_] at hc
       obtain ⟨h0, hlt⟩ := hc
       have h0 := of_decide_eq_true h0
       have hlt := of_decide_eq_true hlt
       obtain rfl := by simpa using hs
       cases hx with
       | ref _ ad vs hF hm hvs =>
       exact ⟨.pointer (some (ad.add (n.toNat * sz))), by simp [Instr.indexAt, asIntOf, run_underlying hu, a4a hz, h0, hlt, Instr.sureAddr], .ref _ _ (vs.drop (n.toNat * sz)) (by rw [a7s]; exact hF) (fun j v hj => by rw [List.getElem?_drop] at hj; rw [b7g]; exact hm _ _ hj) (hvs.drop _)⟩
     . cases hs
   . cases hs
def fLen (P : Program) (H : Heap) (t : TypeId) (x : FV) : Option FV := match x with
 | .list _ xs => if (slT P t).isSome then some (.int .i64 xs.length) else none
 | .sl _ _ _ len => if (slT P t).isSome then some (.int .i64 len) else none
 | .nils => if (slT P t).isSome then some (.int .i64 0) else none
 | .emp => if (slT P t).isSome then some (.int .i64 0) else none
 | .str s => if strT P t then some (.int .i64 s.size) else none
 | .mp l => match P.underlying t, H l with
   | some (.map _ _), some (.map es _) => some (.int .i64 es.length)
   | _, _ => none
 | .nilm => match P.underlying t with
   | some (.map _ _) => some (.int .i64 0)
   | _ => none
 | _ => match arT P t with
   | some (n, _) => some (.int .i64 n)
   | none => none
theorem e8g (h : HeapR w F m H) {t ty : TypeId} {x y : FV} {v : Value} (hs : fLen P H t x = some y) (hx : RF w F (fun l => H l ≠ none) m x v) :
 ∃ u, (Builtin.len_ #[t] ty #[v]).run P w = .ok u w /\ RF w F (fun l => H l ≠ none) m y u := by
 unfold fLen at hs
 split at hs
 case h_1 =>
  split at hs
  . rename_i ht
    obtain ⟨⟨e, n⟩, he⟩ := Option.isSome_iff_exists.1 ht
    obtain ⟨hu, _⟩ := a4n he
    obtain rfl := by simpa using hs
    cases hx
    exact ⟨_, by simp [Builtin.len_, run_underlying hu, goInt], .int _ _⟩
  . cases hs
 case h_2 =>
  split at hs
  . rename_i ht
    obtain ⟨⟨e, n⟩, he⟩ := Option.isSome_iff_exists.1 ht
    obtain ⟨hu, _⟩ := a4n he
    obtain rfl := by simpa using hs
    cases hx
    . exact ⟨_, by simp [Builtin.len_, run_underlying hu, goInt], .int _ _⟩
    . exact ⟨_, by simp [Builtin.len_, run_underlying hu, goInt], .int _ _⟩
  . cases hs
 case h_3 =>
  split at hs
  . rename_i ht
    obtain ⟨⟨e, n⟩, he⟩ := Option.isSome_iff_exists.1 ht
    obtain ⟨hu, _⟩ := a4n he
    obtain rfl := by simpa using hs
    cases hx
    exact ⟨_, by simp [Builtin.len_, run_underlying hu, goInt], .int _ _⟩
  . cases hs
 case h_4 =>
  split at hs
  . rename_i ht
    obtain ⟨⟨e, n⟩, he⟩ := Option.isSome_iff_exists.1 ht
    obtain ⟨hu, _⟩ := a4n he
    obtain rfl := by simpa using hs
    cases hx
    exact ⟨_, by simp [Builtin.len_, run_underlying hu, goInt], .int _ _⟩
  . cases hs
 case h_5 =>
  split at hs
  . rename_i ht
    obtain rfl := by simpa using hs
    cases hx
    exact ⟨_, by simp [Builtin.len_, run_underlying (b1y ht), goInt], .int _ _⟩
  . cases hs
 case h_6 =>
  split at hs
  . rename_i l _ _ _ _ es clk hu hl
    obtain rfl := by simpa using hs
    cases hx
    obtain ⟨h0, a, g1, g2⟩ := h.obj _ _ hl
    have e : a.size = es.length := by rw [g2.length]; simp
    exact ⟨_, by simp [Builtin.len_, run_underlying hu, goInt, getObj, Sem.run, g1, e], .int _ _⟩
  . cases hs
 case h_7 =>
  split at hs
  . rename_i hu
    obtain rfl := by simpa using hs
    cases hx
    exact ⟨_, by simp [Builtin.len_, run_underlying hu, goInt], .int _ _⟩
  . cases hs
 case h_8 =>
  split at hs
  . rename_i n k ht
    obtain ⟨e, hu, _⟩ := c1d ht
    obtain rfl := by simpa using hs
    exact ⟨_, by simp [Builtin.len_, run_underlying hu, goInt], .int _ _⟩
  . cases hs
end
def FV.cellV : FV -> Bool
 | .agg _ | .tup _ | .undef => false
 | _ => true
def FV.cellsL : FV -> List FV
 | .agg cs => cs
 | v => [v]
def FV.storable : FV -> Bool
 | .agg cs => cs.all FV.cellV
 | x => x.cellV
section
variable {P : Program} {X : Ctx} {c : Cfg} {w w' : World} {F F' : Nat -> Prop} {U : Loc -> Prop} {m m' : Loc -> Nat × Nat} {s s' : Fs} {a a' : Act}
theorem RF.one {x : FV} {v : Value} (h : RF w F U m x v) (hx : x.cellV = true) : v.oneCell' = true := by
 cases h <;> first | rfl | (simp [FV.cellV] at hx)
theorem RFs.one : ∀ {xs : List FV} {vs : List Value}, RFs w F U m xs vs -> xs.all FV.cellV = true -> ∀ v ∈ vs, v.oneCell' = true
 | _, _, .nil, _ => by simp
 | _, _, .cons a v as vs h hs, hx => by
   simp only [List.all_cons, bA_] at hx
   intro u hu
   rcases List.mem_cons.1 hu with rfl | hu
   . exact h.one hx.1
   . exact RFs.one hs hx.2 u hu
theorem RF.cells {x : FV} {v : Value} (h : RF w F U m x v) (hx : x.storable = true) : RFs w F U m x.cellsL v.cells.toList /\ x.cellsL.all FV.cellV = true := by
 cases h with
 | agg cs vs hc => exact ⟨by simpa [FV.cellsL, Value.cells] using hc, hx⟩
 | tup => simp [FV.storable, FV.cellV] at hx
 | undef => simp [FV.storable, FV.cellV] at hx
 | int => exact ⟨.cons _ _ _ _ (.int _ _) .nil, rfl⟩
 | bool => exact ⟨.cons _ _ _ _ (.bool _) .nil, rfl⟩
 | str => exact ⟨.cons _ _ _ _ (.str _) .nil, rfl⟩
 | list _ _ _ _ _ h1 h2 h3 h4 => exact ⟨.cons _ _ _ _ (.list _ _ _ _ _ h1 h2 h3 h4) .nil, rfl⟩
 | ref _ _ _ h1 h2 h3 => exact ⟨.cons _ _ _ _ (.ref _ _ _ h1 h2 h3) .nil, rfl⟩
 | ptr _ _ _ _ hu => exact ⟨.cons _ _ _ _ (.ptr _ _ _ _ hu) .nil, rfl⟩
 | nilp => exact ⟨.cons _ _ _ _ .nilp .nil, rfl⟩
 | sl _ _ _ _ _ _ h1 h2 h3 h4 => exact ⟨.cons _ _ _ _ (.sl _ _ _ _ _ _ h1 h2 h3 h4) .nil, rfl⟩
 | sl0 _ _ _ A h1 h2 => exact ⟨.cons _ _ _ _ (.sl0 _ _ _ A h1 h2) .nil, rfl⟩
 | nils => exact ⟨.cons _ _ _ _ .nils .nil, rfl⟩
 | mp _ hu => exact ⟨.cons _ _ _ _ (.mp _ hu) .nil, rfl⟩
 | nilm => exact ⟨.cons _ _ _ _ .nilm .nil, rfl⟩
 | clo _ _ _ _ _ h1 h2 => exact ⟨.cons _ _ _ _ (.clo _ _ _ _ _ h1 h2) .nil, rfl⟩
 | nilf => exact ⟨.cons _ _ _ _ .nilf .nil, rfl⟩
 | emp A => exact ⟨.cons _ _ _ _ (.emp A) .nil, rfl⟩
theorem RelX.alloc (h : RelX X F m s a w) {l : Loc} {cells : Array Value} {T : TypeId} {rows : List (List FV)} {sz : Nat} (hl : s.H l = none) (hr : RFs w F (fun k => s.H k ≠ none) m rows.flatten (cells.toList.take (rows.length * sz)))
 (hlen : ∀ x ∈ rows, x.length = sz) (hsz : rows.length * sz <= cells.size) (h0 : cells.size ≠ 0) :
 RelX X F (fun k => if k = l then (w.heap.size, cells.size) else m k) { s with H := upd s.H l (.cells T sz rows) } a (w.alloc (.cells cells T (0, 0))) := by
 have hold : ∀ b, b < w.heap.size -> (w.alloc (.cells cells T (0, 0))).heap[b]? = w.heap[b]? := fun b hb => by
  show (w.heap.push _)[b]? = _
  rw [Array.getElem?_push, if_neg (by omega)]
 have hnew : (w.alloc (.cells cells T (0, 0))).heap[w.heap.size]? = some (.cells cells T (0, 0)) := by
  show (w.heap.push _)[w.heap.size]? = _
  simp
 refine h.fresh hl (by show w.heap.size < (w.heap.push _).size; simp) hold rfl rfl rfl (.inr ⟨by simpa using h0, cells, by simpa using hnew, by simp, hlen, hsz, ?_⟩)
 refine hr.keep (fun _ h => h) (fun b hb => hold b (h.frz b hb)) (fun k hk => ?_) (fun k hk => ?_)
 . unfold upd; split <;> simp [hk]
 . have : k ≠ l := fun e => hk (e ▸ hl)
   simp [this]
theorem RelX.store (h : RelX X F m s a w) {l : Loc} {T : TypeId} {sz i off : Nat} {xs : List (List FV)} {r cs : List FV} {vs : List Value} (hl : s.H l = some (.cells T sz xs)) (hr : xs[i]? = some r) (hle : off + cs.length <= r.length)
 (hv : RFs w F (fun k => s.H k ≠ none) m cs vs) (h1 : ∀ v ∈ vs, v.oneCell' = true) :
 ∃ w', (storeCells ⟨(m l).1, i * sz + off, none⟩ vs).run P w = .ok () w' /\ RelX X F m { s with H := upd s.H l (.cells T sz (xs.modify i fun r => r.take off ++ cs ++ r.drop (off + cs.length))) } a w' := by
 have hlen := hv.length
 rcases h.heap.obj l _ hl with ⟨rfl, _⟩ | ⟨h0, cur, g1, g2, g3, g4, g5⟩
 . simp at hr
 have hrl := g3 r (List.mem_of_getElem? hr)
 have hi : i < xs.length := by rw [List.getElem?_eq_some_iff] at hr; exact hr.1
 have hmul : (i + 1) * sz <= xs.length * sz := Nat.mul_le_mul_right _ hi
 have hmul' : i * sz + sz <= xs.length * sz := by rw [Nat.add_mul] at hmul; omega
 have hst := run_storeCells_at P (m l).1 (i * sz + off) T vs 0 cur w g1 (by omega) h1
 simp only [Nat.add_zero] at hst
 refine ⟨_, hst, ?_⟩
 have hlive : Live s.H m l := ⟨_, hl, by simp, h0⟩
 have hU : ∀ k, s.H k ≠ none -> upd s.H l (.cells T sz (xs.modify i fun r => r.take off ++ cs ++ r.drop (off + cs.length))) k ≠ none := fun k hk => by unfold upd; split <;> simp [hk]
 have hFne : ∀ b, F b -> (w.setRow (m l).1 (cur.toList.take (i * sz + off) ++ vs ++ cur.toList.drop (i * sz + off + vs.length)).toArray).heap[b]? = w.heap[b]? := fun b hb =>
  setRow_other w _ b _ (fun e => (h.heap.old l hlive).2 (e ▸ hb))
 refine h.write hl hlive (by simp) (by simp [World.setRow]) (fun b _ hb => setRow_other w _ b _ hb) rfl rfl rfl ?_
 . refine .inr ⟨h0, _, setRow_heap w _ cur _ T _ g1, ?_, ?_, ?_, ?_⟩
   . simp; omega
   . intro x hx
     obtain ⟨j, hj⟩ := List.getElem?_of_mem hx
     rw [List.getElem?_modify] at hj
     cases hxj : xs[j]? with
     | none => simp [hxj] at hj
     | some y =>
       have hy := g3 y (List.mem_of_getElem? hxj)
       simp [hxj] at hj
       subst hj
       split
       . simp [hy]; omega
       . exact hy
   . simp; omega
   . rw [List.length_modify]
     have e1 : (xs.modify i fun r => r.take off ++ cs ++ r.drop (off + cs.length)).flatten = (xs.flatten.take (i * sz + off)) ++ cs ++ (xs.flatten.drop (i * sz + off + cs.length)) := by
      have key : ∀ (xs : List (List FV)) (i : Nat) (r : List FV), (∀ x ∈ xs, x.length = sz) -> xs[i]? = some r ->
       (xs.modify i fun r => r.take off ++ cs ++ r.drop (off + cs.length)).flatten = (xs.flatten.take (i * sz + off)) ++ cs ++ (xs.flatten.drop (i * sz + off + cs.length)) := by
       intro xs
       induction xs with
       | nil => intro i r _ h; simp at h
       | cons y ys ih =>
         intro i r hl h
         have hy := hl y (by simp)
         cases i with
         | zero =>
           simp at h
           subst h
           simp only [List.modify_zero_cons, List.flatten_cons, Nat.zero_mul, Nat.zero_add]
           rw [List.take_append_of_le_length (by omega), List.drop_append_of_le_length (by omega)]
           simp [List.append_assoc]
         | succ i =>
           rw [List.modify_succ_cons, List.flatten_cons, ih i r (fun x hx => hl x (by simp [hx])) (by simpa using h), List.flatten_cons, Nat.add_mul, Nat.one_mul]
           have e2 : i * sz + sz + off = y.length + (i * sz + off) := by omega
           rw [e2, List.take_length_add_append, show y.length + (i * sz + off) + cs.length = y.length + (i * sz + off + cs.length) by omega, List.drop_length_add_append]
           simp [List.append_assoc]
      exact key xs i r g3 hr
     rw [e1]
     have hfl := a5b sz xs g3
     have hg5l := g5.length
     have e3 : ((cur.toList.take (i * sz + off) ++ vs ++ cur.toList.drop (i * sz + off + vs.length)).toArray.toList.take (xs.length * sz)) =
      ((cur.toList.take (xs.length * sz)).take (i * sz + off)) ++ vs ++ ((cur.toList.take (xs.length * sz)).drop (i * sz + off + cs.length)) := by
      have hcl : cur.toList.length = cur.size := by simp
      rw [List.toList_toArray, <- hlen, List.take_take, Nat.min_eq_left (by omega)]
      rw [List.take_append, tL_ (by simp; omega)]
      congr 1
      simp only [List.length_append, List.length_take]
      rw [Nat.min_eq_left (by omega), List.drop_take]
      congr 1
      omega
     rw [e3]
     have hk := g5.keep (F' := F) (fun _ h => h) hFne hU (fun _ _ => rfl) (m' := m)
     exact ((hk.take _).append (hv.keep (fun _ h => h) hFne hU (fun _ _ => rfl))).append (hk.drop _)
end
def cv1 : Value -> FV
 | .int k n => .int k n
 | .bool b => .bool b
 | .string s => .str s
 | .slice none 0 0 => .nils
 | .pointer none => .nilp
 | .map none => .nilm
 | .nilFunc => .nilf
 | _ => .undef
def cv : Value -> FV
 | .agg cs => .agg (cs.toList.map cv1)
 | .tuple ⟨[]⟩ => .tup []
 | v => cv1 v
def rv (s : Fs) : Operand -> FV
 | .tmp t => s.get t
 | .const c => cv c
 | .func f => .clo f [] []
 | .global _ => .undef
section
variable {P : Program} {X : Ctx} {c : Cfg} {w w' : World} {F F' : Nat -> Prop} {U : Loc -> Prop} {m m' : Loc -> Nat × Nat} {s s' : Fs} {a a' : Act} {H : Heap}
theorem RF.cv1 (v : Value) : RF w F U m (cv1 v) v := by
 unfold FM.cv1
 split
 . exact .int _ _
 . exact .bool _
 . exact .str _
 . exact .nils
 . exact .nilp
 . exact .nilm
 . exact .nilf
 . exact .undef _
theorem RF.cv (v : Value) : RF w F U m (cv v) v := by
 unfold FM.cv
 split
 . rename_i cs
   have : RFs w F U m (cs.toList.map FM.cv1) cs.toList := by
    generalize cs.toList = l
    induction l with
    | nil => exact .nil
    | cons x l ih => exact .cons _ _ _ _ (RF.cv1 x) ih
   exact .agg _ _ this
 . exact .tup [] [] .nil
 . exact RF.cv1 _
theorem a3a (h : RelX X F m s a w) (x : Operand) : RF w F (fun l => s.H l ≠ none) m (rv s x) (a.eval x) := by
 cases x with
 | tmp t => exact h.val t
 | const v => exact RF.cv v
 | func f => exact .clo f [] [] [] [] .nil .nil
 | global g => exact .undef _
def fBin (P : Program) (op : BinOp) (t : TypeId) (x y : FV) : Option FV := match x, y with
 | .int k m, .int k' n => if k = k' then (match op with
   | .add => some (.int k (k.wrap (m + n)))
   | .sub => some (.int k (k.wrap (m - n)))
   | .mul => some (.int k (k.wrap (m * n)))
   | .quo => if n = 0 then none else some (.int k (k.wrap (m.tdiv n)))
   | .rem => if n = 0 then none else some (.int k (m.tmod n))
   | .eql => some (.bool (decide (m = n)))
   | .neq => some (.bool (!decide (m = n)))
   | .lss => some (.bool (decide (m < n)))
   | .leq => some (.bool (decide (m <= n)))
   | .gtr => some (.bool (decide (m > n)))
   | .geq => some (.bool (decide (m ≥ n)))
   | _ => none) else none
 | .bool m, .bool n => if b7t P t then (match op with
   | .eql => some (.bool (m == n))
   | .neq => some (.bool (!(m == n)))
   | _ => none) else none
 | .str m, .str n => match op with
   | .eql => some (.bool (m.data.toList == n.data.toList))
   | .neq => some (.bool (!(m.data.toList == n.data.toList)))
   | .lss => some (.bool (Op.bytesLess m.data.toList n.data.toList))
   | .add => if ((m.size + n.size : Nat) : Int) <= 9223372036854775807 then some (.str (m ++ n)) else none
   | _ => none
 | _, _ => none
theorem b5r {t : TypeId} (ht : P.underlying t = some .bool) (m n : Bool) (w : World) : (Op.equal t (.bool m) (.bool n)).run P w = .ok (m == n) w := by
 have h : ∀ d : Nat, (Op.equalIn (d + 1) t (.bool m) (.bool n)).run P w = .ok (m == n) w := fun d => by simp [Op.equalIn, run_underlying ht]
 exact h 9999
theorem d4m (m n : Int) : (m == n) = decide (m = n) := by by_cases h : m = n <;> simp [h]
theorem e7o (m n : Int) : (m != n) = !decide (m = n) := by by_cases h : m = n <;> simp [h]
theorem e8j {op : BinOp} {t : TypeId} {x y : Operand} {u v r : FV} {vx vy : Value} (h : fBin P op t u v = some r) (hu : RF w F U m u vx) (hv : RF w F U m v vy) :
 ∃ vr, ((do eqGuard op t x y vx vy; binOp op t vx vy : Sem Value).run P w = .ok vr w) /\ RF w F U m r vr := by
 unfold fBin at h
 split at h
 . cases hu; cases hv
   split at h
   . rename_i hk; subst hk
     split at h
     case h_4 | h_5 =>
      split at h
      . cases h
      . rename_i h0
        obtain rfl := by simpa using h
        exact ⟨_, by simp [eqGuard, binOp, Op.intDiv, h0], .int _ _⟩
     all_goals first
      | (cases h; done)
      | (obtain rfl := by simpa using h
         first
          | exact ⟨_, by simp [eqGuard, binOp, Op.intArith], .int _ _⟩
          | exact ⟨_, by simp [eqGuard, binOp, Op.intCmp, d4m, e7o], .bool _⟩)
   . cases h
 . cases hu; cases hv
   split at h
   . rename_i hb
     have hbt := d0n hb
     split at h
     . obtain rfl := by simpa using h
       exact ⟨_, by simp only [eqGuard, binOp]; simp [b5r hbt], .bool _⟩
     . obtain rfl := by simpa using h
       exact ⟨_, by simp only [eqGuard, binOp]; simp [b5r hbt], .bool _⟩
     . cases h
   . cases h
 . cases hu; cases hv
   split at h
   . obtain rfl := by simpa using h
     exact ⟨_, by simp [eqGuard, binOp, Op.stringOp, ByteArray.toList_eq], .bool _⟩
   . obtain rfl := by simpa using h
     exact ⟨_, by simp [eqGuard, binOp, Op.stringOp, ByteArray.toList_eq], .bool _⟩
   . obtain rfl := by simpa using h
     exact ⟨_, by simp [eqGuard, binOp, Op.stringOp, ByteArray.toList_eq], .bool _⟩
   . split at h
     . rename_i hle
       obtain rfl := by simpa using h
       refine ⟨_, ?_, .str _⟩
       simp [eqGuard, binOp, Op.stringOp]
       omega
     . cases h
   . cases h
 . cases h
def fUn (op : UnOp) (x : FV) : Option FV := match op, x with
 | .not, .bool b => some (.bool (!b))
 | .neg, .int k n => some (.int k (k.wrap (0 - n)))
 | _, _ => none
theorem f4c {op : UnOp} {x y : FV} {v : Value} (h : fUn op x = some y) (hx : RF w F U m x v) : ∃ u, (Op.unary op v).run P w = .ok u w /\ RF w F U m y u := by
 unfold fUn at h
 split at h
 . obtain rfl := by simpa using h
   cases hx
   exact ⟨_, by simp [Op.unary], .bool _⟩
 . obtain rfl := by simpa using h
   cases hx
   exact ⟨_, by simp [Op.unary, Op.intArith], .int _ _⟩
 . cases h
def c4q (P : Program) (src dst : TypeId) (x : FV) : Option FV := match x with
 | .int _ n => if hasT P src then (intT P dst).map fun k => .int k (k.wrap n) else none
 | .str s => if strT P src && strT P dst then some (.str s) else none
 | _ => none
theorem e1n {src dst : TypeId} {x y : FV} {v : Value} (h : c4q P src dst x = some y) (hx : RF w F U m x v) : ∃ u, (convert src dst v).run P w = .ok u w /\ RF w F U m y u := by
 unfold c4q at h
 split at h
 . split at h
   . rename_i hsrc
     rw [oM_] at h
     obtain ⟨k, hk, rfl⟩ := h
     have hk := d4n hk
     obtain ⟨d, hd⟩ := Option.isSome_iff_exists.1 hsrc
     cases hx
     exact ⟨_, by simp [convert, run_underlying hd, run_underlying hk, Conv.intToInt], .int _ _⟩
   . cases h
 . split at h
   . rename_i hc
     rw [bA_] at hc
     obtain rfl := by simpa using h
     cases hx
     exact ⟨_, by simp [convert, run_underlying (b1y hc.1), run_underlying (b1y hc.2)], .str _⟩
   . cases h
 . cases h
def b7n (n : Nat) : Option FV -> Option Nat
 | none => some n
 | some (.int _ k) => if 0 <= k then some k.toNat else none
 | _ => none
def b6s (P : Program) (t : TypeId) (x : FV) (lo hi : Option FV) : Option FV := match x with
 | .sl l sz off len => match slT P t, b7n 0 lo, b7n len hi with
   | some (_, sz'), some i, some j => if decide (sz' = sz) && (decide (i <= j) && decide (j <= len)) then some (.sl l sz (off + i) (j - i)) else none
   | _, _, _ => none
 | .list sz xs => match slT P t, b7n 0 lo, b7n xs.length hi with
   | some (_, sz'), some i, some j => if decide (sz' = sz) && (decide (i <= j) && decide (j <= xs.length)) then some (.list sz ((xs.drop i).take (j - i))) else none
   | _, _, _ => none
 | _ => none
theorem b0k {d : Nat} {x : Option FV} {v : Option Value} {n y : Nat} {code : BoundsCode} (h : b7n d x = some n) (hx : ∀ f, x = some f -> ∃ u, v = some u /\ RF w F U m f u) (hn : x = none -> v = none) (hle : n <= y) :
 (v = none /\ n = d) \/ ∃ k i, v = some (.int k i) /\ 0 <= i /\ n = i.toNat /\ (Instr.sliceBound (.int k i) y code).run P w = .ok n w := by
 unfold b7n at h
 split at h
 . exact .inl ⟨hn rfl, by simpa using h.symm⟩
 . rename_i k i
   split at h
   . rename_i h0
     obtain rfl := by simpa using h
     obtain ⟨u, rfl, hu⟩ := hx _ rfl
     cases hu
     refine .inr ⟨k, i, rfl, h0, rfl, ?_⟩
     have hi : i <= (y : Int) := by omega
     simp [Instr.sliceBound, asIntOf, h0, hi]
   . cases h
 . cases h
theorem d6a {t : TypeId} {x y : FV} {lo hi : Option FV} {v : Value} {vlo vhi : Option Value} (h : b6s P t x lo hi = some y) (hx : RF w F U m x v)
 (hlo : ∀ f, lo = some f -> ∃ u, vlo = some u /\ RF w F U m f u) (hlon : lo = none -> vlo = none) (hhi : ∀ f, hi = some f -> ∃ u, vhi = some u /\ RF w F U m f u) (hhin : hi = none -> vhi = none) :
 ∃ u, (Instr.sliceAt t v vlo vhi none).run P w = .ok u w /\ RF w F U m y u := by
 unfold b6s at h
 split at h
 . rename_i l sz off len
   split at h
   . rename_i e sz' i j ht hi' hj'
     obtain ⟨hu, hz⟩ := a4n ht
     split at h
     . rename_i hc
       simp only [bA_, dE_] at hc
       obtain ⟨rfl, hij, hjl⟩ := hc
       obtain rfl := by simpa using h
       cases hx with
       | sl _ _ _ _ cap o hu' hcap ho hs =>
         have hrun : (Instr.sliceBounds true len cap vlo vhi none).run P w = .ok (i, j, cap) w := by
          have h1 := b0k (P := P) (w := w) (code := .sliceAcap) (y := cap) hj' hhi hhin (by omega)
          have h2 := b0k (P := P) (w := w) (code := .sliceB) (y := j) hi' hlo hlon hij
          unfold Instr.sliceBounds
          rcases h1 with ⟨rfl, rfl⟩ | ⟨k1, i1, rfl, _, _, h1⟩ <;> rcases h2 with ⟨rfl, rfl⟩ | ⟨k2, i2, rfl, _, _, h2⟩ <;> simp_all
         have hrun2 : (Instr.sliceAt t (.slice (some ⟨(m l).1, o, none⟩) len cap) vlo vhi none).run P w = .ok (.slice (if cap = i then some ⟨(m l).1, o, none⟩ else (some (⟨(m l).1, o, none⟩ : Addr)).map (·.add (i * sz'))) (j - i) (cap - i)) w := by
          simp [Instr.sliceAt, Instr.slice, run_underlying hu, hrun, a4a hz]
         refine ⟨_, hrun2, ?_⟩
         by_cases hci : cap = i
         . rw [if_pos hci]
           exact .sl l sz' (off + i) (j - i) (cap - i) o hu' (by omega) (.inl (by omega)) (by rw [show off + i + (cap - i) = off + cap by omega]; exact hs)
         . rw [if_neg hci]
           simp only [Option.map_some, add0]
           have ho' : o = off * sz' := ho.resolve_left (by omega)
           exact .sl l sz' (off + i) (j - i) (cap - i) (o + i * sz') hu' (by omega) (.inr (by rw [ho', Nat.add_mul])) (by rw [show off + i + (cap - i) = off + cap by omega]; exact hs)
       | sl0 _ _ _ A hu' h0 =>
         have hj0 : j = 0 := by omega
         have hi0 : i = 0 := by omega
         subst hj0 hi0
         have hrun : (Instr.sliceBounds true 0 0 vlo vhi none).run P w = .ok (0, 0, 0) w := by
          have h1 := b0k (P := P) (w := w) (code := .sliceAcap) (y := 0) hj' hhi hhin (by omega)
          have h2 := b0k (P := P) (w := w) (code := .sliceB) (y := 0) hi' hlo hlon hij
          unfold Instr.sliceBounds
          rcases h1 with ⟨rfl, _⟩ | ⟨k1, i1, rfl, _, _, h1⟩ <;> rcases h2 with ⟨rfl, _⟩ | ⟨k2, i2, rfl, _, _, h2⟩ <;> simp_all
         have hrun2 : (Instr.sliceAt t (.slice A 0 0) vlo vhi none).run P w = .ok (.slice A 0 0) w := by
          simp [Instr.sliceAt, Instr.slice, run_underlying hu, hrun, a4a hz]
         exact ⟨_, hrun2, .sl0 l sz' _ A hu' h0⟩
     . cases h
   . cases h
 . rename_i sz xs
   split at h
   . rename_i e sz' i j ht hi' hj'
     obtain ⟨hu, hz⟩ := a4n ht
     split at h
     . rename_i hc
       simp only [bA_, dE_] at hc
       obtain ⟨rfl, hij, hjl⟩ := hc
       obtain rfl := by simpa using h
       cases hx with
       | list _ _ A cap vs hl hcap hm hvs =>
       have hrun : (Instr.sliceBounds true xs.length cap vlo vhi none).run P w = .ok (i, j, cap) w := by
        have h1 := b0k (P := P) (w := w) (code := .sliceAcap) (y := cap) hj' hhi hhin (by omega)
        have h2 := b0k (P := P) (w := w) (code := .sliceB) (y := j) hi' hlo hlon hij
        unfold Instr.sliceBounds
        rcases h1 with ⟨rfl, rfl⟩ | ⟨k1, i1, rfl, _, _, h1⟩ <;> rcases h2 with ⟨rfl, rfl⟩ | ⟨k2, i2, rfl, _, _, h2⟩ <;> simp_all
       have hrun2 : (Instr.sliceAt t (.slice A xs.length cap) vlo vhi none).run P w = .ok (.slice (if cap = i then A else A.map (·.add (i * sz'))) (j - i) (cap - i)) w := by
        simp [Instr.sliceAt, Instr.slice, run_underlying hu, hrun, a4a hz]
       refine ⟨_, hrun2, ?_⟩
       have hlen : ((xs.drop i).take (j - i)).length = j - i := by simp; omega
       have hflat : ((xs.drop i).take (j - i)).flatten = (xs.flatten.drop (i * sz')).take ((j - i) * sz') := by
        have d : ∀ (n : Nat) (xs : List (List FV)), (∀ x ∈ xs, x.length = sz') -> (xs.drop n).flatten = xs.flatten.drop (n * sz') := by
         intro n
         induction n with
         | zero => intro xs _; simp
         | succ n ih =>
           intro xs hl
           cases xs with
           | nil => simp
           | cons y ys =>
             have hy := hl y (by simp)
             rw [List.drop_succ_cons, ih ys (fun x hx => hl x (by simp [hx])), List.flatten_cons, Nat.add_mul, Nat.one_mul, Nat.add_comm, <- List.drop_drop]
             rw [show (y ++ ys.flatten).drop sz' = ys.flatten by rw [<- hy]; simp]
        have tk : ∀ (n : Nat) (xs : List (List FV)), (∀ x ∈ xs, x.length = sz') -> (xs.take n).flatten = xs.flatten.take (n * sz') := by
         intro n
         induction n with
         | zero => intro xs _; simp
         | succ n ih =>
           intro xs hl
           cases xs with
           | nil => simp
           | cons y ys =>
             have hy := hl y (by simp)
             rw [List.take_succ_cons, List.flatten_cons, ih ys (fun x hx => hl x (by simp [hx])), List.flatten_cons, Nat.add_mul, Nat.one_mul, Nat.add_comm, <- hy, List.take_length_add_append]
        rw [tk _ _ (fun x hx => hl x (List.mem_of_mem_drop hx)), d _ _ hl]
       have hsub := (hvs.drop (i * sz')).take ((j - i) * sz')
       rw [<- hflat] at hsub
       have := RF.list (w := w) (F := F) (U := U) (m := m) sz' ((xs.drop i).take (j - i)) (if cap = i then A else A.map (·.add (i * sz'))) (cap - i) _ (fun x hx => hl x (List.mem_of_mem_drop (List.mem_of_mem_take hx))) (by rw [hlen]; omega) (fun hne => ?_) hsub
       . rw [hlen] at this; exact this
       . have hpos : 0 < j - i := by
          rcases Nat.eq_zero_or_pos (j - i) with h0 | h0
          . rw [h0] at hne; simp at hne
          . exact h0
         obtain ⟨ad, rfl, hF, hcell⟩ := hm (fun e => by subst e; simp at hjl; omega)
         rw [if_neg (by omega)]
         refine ⟨ad.add (i * sz'), rfl, by rw [a7s]; exact hF, fun k v hv => ?_⟩
         rw [List.getElem?_take] at hv
         split at hv
         . rw [List.getElem?_drop] at hv; rw [b7g]; exact hcell _ _ hv
         . cases hv
     . cases h
   . cases h
 . cases h
end
inductive Kd where
 | int (k : IntKind)
 | bool
 | str
 deriving DecidableEq
def kdT (P : Program) (t : TypeId) : Option Kd := match P.underlying t with
 | some (.int k) => some (.int k)
 | some .bool => some .bool
 | some .string => some .str
 | _ => none
def FV.kd : FV -> Option Kd
 | .int k _ => some (.int k)
 | .bool _ => some .bool
 | .str _ => some .str
 | _ => none
def eqV : FV -> FV -> Bool
 | .int _ m, .int _ n => decide (m = n)
 | .bool m, .bool n => m == n
 | .str m, .str n => m.data.toList == n.data.toList
 | _, _ => false
def c2t (P : Program) : List Field -> Nat -> Option (List Kd)
 | [], _ => some []
 | f :: fs, i => if f.offset = i then (if f.name = "_" then none else match kdT P f.type with
   | some k => (c2t P fs (i + 1)).map (k :: ·)
   | none => none) else none
def stT (P : Program) (t : TypeId) : Option (List Kd) := match P.underlying t with
 | some (.struct fs) => if P.stoodInHeld t then none else c2t P fs.toList 0
 | _ => none
def a3q : List Kd -> List FV -> List FV -> Option Bool
 | [], _, _ => some true
 | k :: ks, x :: xs, y :: ys => if x.kd = some k then (if y.kd = some k then (a3q ks xs ys).map (eqV x y && ·) else none) else none
 | _, _, _ => none
def eqK (P : Program) (t : TypeId) (x y : FV) : Option Bool := match kdT P t with
 | some k => if x.kd = some k then (if y.kd = some k then some (eqV x y) else none) else none
 | none => match stT P t, x, y with
   | some ks, .agg xs, .agg ys => if xs.length = ks.length then (if ys.length = ks.length then a3q ks xs ys else none) else none
   | _, _, _ => none
section
variable {P : Program} {w : World} {F : Nat -> Prop} {U : Loc -> Prop} {m : Loc -> Nat × Nat}
theorem e0i {t : TypeId} {k : Kd} (h : kdT P t = some k) (w : World) : (isAgg t).run P w = .ok false w := by
 unfold kdT at h
 split at h <;> first | (cases h; done) | (rename_i hu; simp [isAgg, run_underlying hu])
theorem d6h {t : TypeId} {k : Kd} (h : kdT P t = some k) {x y : FV} {vx vy : Value} (hx : RF w F U m x vx) (hy : RF w F U m y vy) (h1 : x.kd = some k) (h2 : y.kd = some k) (d : Nat) (w' : World) : (Op.equalIn (d + 1) t vx vy).run P w' = .ok (eqV x y) w' := by
 unfold kdT at h
 cases hx <;> simp only [FV.kd, sE_, reduceCtorEq] at h1 <;> subst h1 <;> cases hy <;> simp only [FV.kd, sE_, reduceCtorEq, Kd.int.injEq] at h2
 . subst h2
   split at h <;> simp only [sE_, reduceCtorEq, Kd.int.injEq] at h
   rename_i hu; subst h
   simp only [eqV]; rw [run_equalIn_int w' d t _ _ _ _ hu, d4m]
 . split at h <;> simp only [sE_, reduceCtorEq] at h
   rename_i hu
   simp only [eqV]; exact run_equalIn_bool' w' d t _ _ hu
 . split at h <;> simp only [sE_, reduceCtorEq] at h
   rename_i hu
   simp only [eqV]; rw [<- ByteArray.toList_eq, <- ByteArray.toList_eq]; exact run_equalIn_string w' d t _ _ hu
theorem b9u {t : TypeId} {k : Kd} (h : kdT P t = some k) {cs : Array Value} {off : Nat} {v : Value} (hv : cs[off]? = some v) (w : World) : (part t cs off).run P w = .ok v w := by
 simp [part, e0i h, hv]
theorem b3y (xs ys : Array Value) (d : Nat) : ∀ (fs : List Field) (ks : List Kd) (i : Nat) (as bs : List FV) (us vs : List Value) (b : Bool), c2t P fs i = some ks -> a3q ks as bs = some b -> RFs w F U m as us -> RFs w F U m bs vs ->
 (∀ j, us[j]? = xs[i + j]?) -> (∀ j, vs[j]? = ys[i + j]?) -> ∀ w', (Op.eqFields (d + 1) xs ys fs).run P w' = .ok b w'
 | [], ks, i, as, bs, us, vs, b, h, he, _, _, _, _, w' => by
   obtain rfl : [] = ks := by simpa [c2t] using h
   obtain rfl : true = b := by simpa [a3q] using he
   simp [Op.eqFields]
 | f :: fs, ks, i, as, bs, us, vs, b, h, he, ha, hb, hx, hy, w' => by
   unfold c2t at h
   split at h
   case isFalse => cases h
   rename_i ho
   split at h
   case isTrue => cases h
   rename_i hn
   split at h
   case h_2 => cases h
   rename_i k hk
   rw [oM_] at h
   obtain ⟨ks', hks, rfl⟩ := h
   cases ha with
   | nil => simp [a3q] at he
   | cons a u as us ha has =>
   cases hb with
   | nil => simp [a3q] at he
   | cons b' v bs vs hb hbs =>
   simp only [a3q] at he
   split at he
   case isFalse => cases he
   rename_i k1
   split at he
   case isFalse => cases he
   rename_i k2
   rw [oM_] at he
   obtain ⟨b2, he, rfl⟩ := he
   have hux : xs[f.offset]? = some u := by rw [ho]; have := hx 0; simpa using this.symm
   have huy : ys[f.offset]? = some v := by rw [ho]; have := hy 0; simpa using this.symm
   have ih := b3y xs ys d fs ks' (i + 1) as bs us vs b2 hks he has hbs (fun j => by have := hx (j + 1); rw [Nat.add_assoc, Nat.add_comm 1 j]; simpa using this) (fun j => by have := hy (j + 1); rw [Nat.add_assoc, Nat.add_comm 1 j]; simpa using this)
   unfold Op.eqFields
   rw [if_pos hn]
   simp only [Sem.run_bind, b9u hk hux, b9u hk huy, Result.andThen_ok, d6h hk ha hb k1 k2]
   cases hq : eqV a b'
   . simp
   . simpa using ih w'
theorem e3u {t : TypeId} {x y : FV} {vx vy : Value} {b : Bool} (h : eqK P t x y = some b) (hx : RF w F U m x vx) (hy : RF w F U m y vy) (d : Nat) (w' : World) : (Op.equalIn (d + 1 + 1) t vx vy).run P w' = .ok b w' := by
 unfold eqK at h
 split at h
 . rename_i k hk
   split at h
   case isFalse => cases h
   split at h
   case isFalse => cases h
   obtain rfl := by simpa using h
   exact d6h hk hx hy ‹_› ‹_› _ _
 . split at h
   case h_2 => cases h
   rename_i ks xs ys hst
   split at h
   case isFalse => cases h
   split at h
   case isFalse => cases h
   cases hx with
   | agg _ us hus =>
   cases hy with
   | agg _ vs hvs =>
   unfold stT at hst
   split at hst
   case h_2 => cases hst
   rename_i fs hu
   split at hst
   case isTrue => cases hst
   rename_i hso
   have hf : P.fieldsOf t = fs := by simp [Program.fieldsOf, hu]
   rw [run_equalIn_struct w' (d + 1) t _ _ (by rw [hf]; exact hu) (by simpa using hso), hf]
   exact b3y _ _ d fs.toList ks 0 _ _ us vs b hst h hus hvs (by simp) (by simp) w'
theorem b6x {t : TypeId} {x y : FV} {vx vy : Value} {b : Bool} (h : eqK P t x y = some b) (hx : RF w F U m x vx) (hy : RF w F U m y vy) (w' : World) : (Op.equal t vx vy).run P w' = .ok b w' := e3u h hx hy 9998 w'
theorem c8h {k : Kd} {x y : FV} {vx vy : Value} (hx : RF w F U m x vx) (hy : RF w F U m y vy) (h1 : x.kd = some k) (h2 : y.kd = some k) (h : eqV x y = true) (n : Nat) : Instr.sameBits n vx vy = true := by
 cases hx <;> simp only [FV.kd, sE_, reduceCtorEq] at h1 <;> subst h1 <;> cases hy <;> simp only [FV.kd, sE_, reduceCtorEq, Kd.int.injEq] at h2
 . subst h2; simp only [eqV, dE_] at h; subst h; simp [Instr.sameBits]
 . simp only [eqV, beq_iff_eq] at h; subst h; simp [Instr.sameBits]
 . simp only [eqV, <- ByteArray.toList_eq, <- beq_toListBytes] at h; simpa [Instr.sameBits] using h
theorem b4a (n : Nat) : ∀ (ks : List Kd) (as bs : List FV) (us vs : List Value), as.length = ks.length -> bs.length = ks.length -> a3q ks as bs = some true -> RFs w F U m as us -> RFs w F U m bs vs -> ((us.zip vs).all fun (x, y) => Instr.sameBits n x y) = true
 | [], as, bs, us, vs, ha0, hb0, _, ha, hb => by
   obtain rfl : as = [] := eN_ ha0
   cases ha; simp
 | k :: ks, as, bs, us, vs, ha0, hb0, h, ha, hb => by
   cases ha with
   | nil => simp at ha0
   | cons a u as us ha has =>
   cases hb with
   | nil => simp at hb0
   | cons b v bs vs hb hbs =>
   simp only [a3q] at h
   split at h
   case isFalse => cases h
   rename_i k1
   split at h
   case isFalse => cases h
   rename_i k2
   rw [oM_] at h
   obtain ⟨b2, h, hb2⟩ := h
   rw [bA_] at hb2
   obtain ⟨h3, rfl⟩ := hb2
   have ih := b4a n ks as bs us vs (by simpa using ha0) (by simpa using hb0) h has hbs
   simp only [List.zip_cons_cons, List.all_cons, c8h ha hb k1 k2 h3 n, Bool.true_and]
   exact ih
theorem e1r {t : TypeId} {x y : FV} {vx vy : Value} (h : eqK P t x y = some true) (hx : RF w F U m x vx) (hy : RF w F U m y vy) (n : Nat) : Instr.sameBits (n + 1) vx vy = true := by
 unfold eqK at h
 split at h
 . split at h
   case isFalse => cases h
   split at h
   case isFalse => cases h
   exact c8h hx hy ‹_› ‹_› (by simpa using h) _
 . split at h
   case h_2 => cases h
   rename_i ks xs ys hst
   split at h
   case isFalse => cases h
   rename_i h1
   split at h
   case isFalse => cases h
   rename_i h2
   cases hx with
   | agg _ us hus =>
   cases hy with
   | agg _ vs hvs =>
   have e1 := hus.length
   have e2 := hvs.length
   simp only [Instr.sameBits, bA_]
   exact ⟨by simp; omega, b4a n ks _ _ us vs h1 h2 h hus hvs⟩
inductive NK where
 | ptr
 | sl
 | mp
 | fn
 deriving DecidableEq
def nilT (P : Program) (t : TypeId) : Option NK := match P.underlying t with
 | some (.pointer _) => some .ptr
 | some (.slice _) => some .sl
 | some (.map _ _) => some .mp
 | some (.func _ _ _) => some .fn
 | _ => none
def nilV : NK -> FV -> Option Bool
 | .ptr, .nilp => some true
 | .ptr, .ptr .. => some false
 | .ptr, .ref _ => some false
 | .sl, .nils => some true
 | .sl, .sl _ _ _ (_ + 1) => some false
 | .mp, .nilm => some true
 | .mp, .mp _ => some false
 | .fn, .nilf => some true
 | .fn, .clo .. => some false
 | _, _ => none
def c4s (k : NK) (x y : FV) : Option Bool := match nilV k x, nilV k y with
 | some true, some b => some b
 | some b, some true => some b
 | _, _ => none
def NVal : NK -> Bool -> Value -> Prop
 | .ptr, b, v => ∃ A : Option Addr, v = .pointer A /\ A.isNone = b
 | .sl, b, v => ∃ (A : Option Addr) (n c : Nat), v = .slice A n c /\ A.isNone = b
 | .mp, b, v => ∃ A : Option Nat, v = .map A /\ A.isNone = b
 | .fn, true, v => v = .nilFunc
 | .fn, false, v => ∃ f a c, v = .func f a c
theorem b4v {k : NK} {x : FV} {v : Value} {b : Bool} (h : nilV k x = some b) (hx : RF w F U m x v) : NVal k b v := by
 unfold nilV at h
 split at h <;> first | (cases h; done) | skip
 all_goals
  obtain rfl := sI_ h
  cases hx
 . exact ⟨none, rfl, rfl⟩
 . exact ⟨_, rfl, rfl⟩
 . exact ⟨_, rfl, rfl⟩
 . exact ⟨none, _, _, rfl, rfl⟩
 . exact ⟨_, _, _, rfl, rfl⟩
 . exact ⟨none, rfl, rfl⟩
 . exact ⟨_, rfl, rfl⟩
 . rfl
 . exact ⟨_, _, _, rfl⟩
theorem d0k {k : NK} {x y : FV} {vx vy : Value} {b : Bool} (h : c4s k x y = some b) (hx : RF w F U m x vx) (hy : RF w F U m y vy) : (NVal k true vx /\ NVal k b vy) \/ (NVal k b vx /\ NVal k true vy) := by
 unfold c4s at h
 split at h
 . rename_i b' h1 h2
   obtain rfl := sI_ h
   exact .inl ⟨b4v h1 hx, b4v h2 hy⟩
 . rename_i b' _ h1 h2
   obtain rfl := sI_ h
   exact .inr ⟨b4v h1 hx, b4v h2 hy⟩
 . cases h
theorem e6w {t : TypeId} {k : NK} (ht : nilT P t = some k) {vx vy : Value} {b : Bool} (h : (NVal k true vx /\ NVal k b vy) \/ (NVal k b vx /\ NVal k true vy)) (op : BinOp) (x y : Operand) (w' : World) :
 (eqGuard op t x y vx vy).run P w' = .ok () w' /\ (binOp .eql t vx vy).run P w' = .ok (.bool b) w' /\ (binOp .neq t vx vy).run P w' = .ok (.bool !b) w' := by
 have fin : ∀ vx vy, (Op.equal t vx vy).run P w' = .ok b w' -> binOp .eql t vx vy = (do pure (.bool (<- Op.equal t vx vy))) -> binOp .neq t vx vy = (do pure (.bool (!(<- Op.equal t vx vy)))) ->
  (binOp .eql t vx vy).run P w' = .ok (.bool b) w' /\ (binOp .neq t vx vy).run P w' = .ok (.bool !b) w' := fun vx vy h e1 e2 => ⟨by rw [e1, Sem.run_bind, h]; rfl, by rw [e2, Sem.run_bind, h]; rfl⟩
 have eqs : ∀ vx vy, (∀ d, (Op.equalIn (d + 1) t vx vy).run P w' = .ok b w') -> (Op.equal t vx vy).run P w' = .ok b w' := fun _ _ h => h 9999
 unfold nilT at ht
 split at ht <;> first | (cases ht; done) | skip
 all_goals
  rename_i hu
  obtain rfl := sI_ ht
 . rcases h with ⟨⟨A, rfl, hA⟩, ⟨B, rfl, hB⟩⟩ | ⟨⟨A, rfl, hA⟩, ⟨B, rfl, hB⟩⟩
   . obtain rfl : A = none := by simpa using hA
     have := eqs (.pointer none) (.pointer B) fun d => by subst hB; rw [Op.equalIn, Sem.run_bind, run_underlying hu]; cases B <;> rfl
     exact ⟨by cases op <;> rfl, fin _ _ this rfl rfl⟩
   . obtain rfl : B = none := by simpa using hB
     have := eqs (.pointer A) (.pointer none) fun d => by subst hA; rw [Op.equalIn, Sem.run_bind, run_underlying hu]; cases A <;> rfl
     exact ⟨by cases op <;> rfl, fin _ _ this rfl rfl⟩
 . rcases h with ⟨⟨A, n, c, rfl, hA⟩, ⟨B, n', c', rfl, hB⟩⟩ | ⟨⟨A, n, c, rfl, hA⟩, ⟨B, n', c', rfl, hB⟩⟩
   . obtain rfl : A = none := by simpa using hA
     have := eqs (.slice none n c) (.slice B n' c') fun d => by subst hB; rw [Op.equalIn, Sem.run_bind, run_underlying hu]; cases B <;> rfl
     exact ⟨by cases op <;> rfl, fin _ _ this rfl rfl⟩
   . obtain rfl : B = none := by simpa using hB
     have := eqs (.slice A n c) (.slice none n' c') fun d => by subst hA; rw [Op.equalIn, Sem.run_bind, run_underlying hu]; cases A <;> rfl
     exact ⟨by cases op <;> rfl, fin _ _ this rfl rfl⟩
 . rcases h with ⟨⟨A, rfl, hA⟩, ⟨B, rfl, hB⟩⟩ | ⟨⟨A, rfl, hA⟩, ⟨B, rfl, hB⟩⟩
   . obtain rfl : A = none := by simpa using hA
     have := eqs (.map none) (.map B) fun d => by subst hB; rw [Op.equalIn, Sem.run_bind, run_underlying hu]; cases B <;> rfl
     exact ⟨by cases op <;> rfl, fin _ _ this rfl rfl⟩
   . obtain rfl : B = none := by simpa using hB
     have := eqs (.map A) (.map none) fun d => by subst hA; rw [Op.equalIn, Sem.run_bind, run_underlying hu]; cases A <;> rfl
     exact ⟨by cases op <;> rfl, fin _ _ this rfl rfl⟩
 . cases b
   . rcases h with ⟨rfl, ⟨f, a, c, rfl⟩⟩ | ⟨⟨f, a, c, rfl⟩, rfl⟩
     . have := eqs .nilFunc (.func f a c) fun d => by rw [Op.equalIn, Sem.run_bind, run_underlying hu]; rfl
       exact ⟨by cases op <;> rfl, fin _ _ this rfl rfl⟩
     . have := eqs (.func f a c) .nilFunc fun d => by rw [Op.equalIn, Sem.run_bind, run_underlying hu]; rfl
       exact ⟨by cases op <;> rfl, fin _ _ this rfl rfl⟩
   . rcases h with ⟨rfl, rfl⟩ | ⟨rfl, rfl⟩
     all_goals
      have := eqs .nilFunc .nilFunc fun d => by rw [Op.equalIn, Sem.run_bind, run_underlying hu]; rfl
      exact ⟨by cases op <;> rfl, fin _ _ this rfl rfl⟩
def c2v (P : Program) (t : TypeId) (x y : FV) : Option Bool := match x, y with
 | .agg _, .agg _ => if P.eqGuardType P.depth t then none else eqK P t x y
 | _, _ => match nilT P t with
   | some k => c4s k x y
   | none => none
def fCmp (P : Program) (op : BinOp) (t : TypeId) (x y : FV) : Option FV := match op with
 | .eql => (c2v P t x y).map .bool
 | .neq => (c2v P t x y).map fun b => .bool !b
 | _ => none
theorem c8e {op : BinOp} {t : TypeId} {x y : Operand} {u v : FV} {vx vy : Value} {b : Bool} (h : c2v P t u v = some b) (hu : RF w F U m u vx) (hv : RF w F U m v vy) (w' : World) :
 (eqGuard op t x y vx vy).run P w' = .ok () w' /\ (binOp .eql t vx vy).run P w' = .ok (.bool b) w' /\ (binOp .neq t vx vy).run P w' = .ok (.bool !b) w' := by
 unfold c2v at h
 split at h
 . split at h
   case isTrue => cases h
   rename_i hg
   have he := e3u h hu hv 9998 w'
   cases hu; cases hv
   exact ⟨run_eqGuard_agg w' op t x y _ _ (by simpa using hg), by rw [run_eql_struct, he]; rfl, by rw [run_neq_struct, he]; rfl⟩
 . split at h
   . rename_i k hk
     exact e6w hk (d0k h hu hv) op x y w'
   . cases h
theorem e8i {op : BinOp} {t : TypeId} {x y : Operand} {u v r : FV} {vx vy : Value} (h : fCmp P op t u v = some r) (hu : RF w F U m u vx) (hv : RF w F U m v vy) :
 ∃ vr, ((do eqGuard op t x y vx vy; binOp op t vx vy : Sem Value).run P w = .ok vr w) /\ RF w F U m r vr := by
 unfold fCmp at h
 split at h
 . rw [oM_] at h
   obtain ⟨b, hb, rfl⟩ := h
   obtain ⟨h1, h2, h3⟩ := c8e (op := .eql) (x := x) (y := y) hb hu hv w
   exact ⟨_, by rw [Sem.run_bind, h1]; exact h2, .bool b⟩
 . rw [oM_] at h
   obtain ⟨b, hb, rfl⟩ := h
   obtain ⟨h1, h2, h3⟩ := c8e (op := .neq) (x := x) (y := y) hb hu hv w
   exact ⟨_, by rw [Sem.run_bind, h1]; exact h3, .bool !b⟩
 . cases h
end
def a4l (P : Program) (t : TypeId) : Option (List FV) := match P.info? t with
 | some i => match i.zero with
   | some z => some (z.cells.toList.map cv1)
   | none => none
 | none => none
def a5d (P : Program) (t : TypeId) : Option (List (Nat × Nat)) := match P.info? t, P.underlying t with
 | some _, some (.struct fs) => fs.toList.mapM fun f => (P.info? f.type).map fun i => (f.offset, i.size)
 | _, _ => none
def a7x : List FV -> Nat -> List FV -> List FV
 | l, _, [] => l
 | l, off, x :: xs => a7x (l.set off x) (off + 1) xs
def b4m : List Value -> Nat -> List Value -> List Value
 | l, _, [] => l
 | l, off, x :: xs => b4m (l.set off x) (off + 1) xs
def b2q (pl : Nat -> Option (Nat × Nat)) : List FV -> List (Nat × FV) -> Option (List FV)
 | z, [] => some z
 | z, (i, v) :: r => match pl i with
   | some (off, n) => if decide (v.cellsL.length = n) && (v.storable && decide (off + n <= z.length)) then b2q pl (a7x z off v.cellsL) r else none
   | none => none
section
variable {P : Program} {X : Ctx} {c : Cfg} {w w' : World} {F F' : Nat -> Prop} {U : Loc -> Prop} {m m' : Loc -> Nat × Nat} {s s' : Fs} {a a' : Act} {H : Heap}
theorem RFs.cv1s : ∀ l : List Value, RFs w F U m (l.map cv1) l
 | [] => .nil
 | x :: l => .cons _ _ _ _ (RF.cv1 x) (RFs.cv1s l)
theorem b4h {t : TypeId} {cs : List FV} (h : a4l P t = some cs) (w : World) : ∃ z, (zeroValue t).run P w = .ok z w /\ RFs w F U m cs z.cells.toList /\ cs.length = z.cells.size := by
 unfold a4l at h
 split at h
 . rename_i i hi
   split at h
   . rename_i z hz
     obtain rfl := by simpa using h
     exact ⟨z, by simp [zeroValue, typeInfo, hi, hz], RFs.cv1s _, by simp⟩
   . cases h
 . cases h
theorem b2p (off : Nat) : ∀ (xs : List Value) (k : Nat) (cells : Array Value), ((xs.zipIdx k).foldl (fun (cs : Array Value) (x : Value × Nat) => cs.setIfInBounds (off + x.2) x.1) cells).toList = b4m cells.toList (off + k) xs
 | [], _, _ => rfl
 | x :: xs, k, cells => by
   simp only [List.zipIdx_cons, List.foldl_cons, b4m]
   rw [b2p off xs (k + 1)]
   simp [Nat.add_assoc]
theorem b8b : ∀ (xs : List FV) (us : List Value) (cs : List FV) (vs : List Value) (off : Nat), RFs w F U m xs us -> RFs w F U m cs vs -> RFs w F U m (a7x cs off xs) (b4m vs off us)
 | _, _, cs, vs, off, .nil, hc => hc
 | _, _, cs, vs, off, .cons x u xs us h hs, hc => b8b xs us _ _ (off + 1) hs (hc.set off h)
theorem c0r (pl : Nat -> Option (Nat × Nat)) : ∀ (is : List Nat) (xs : List FV) (us : List Value) (cs r : List FV) (cells : Array Value), is.length = xs.length -> RFs w F U m xs us -> RFs w F U m cs cells.toList ->
 b2q pl cs (is.zip xs) = some r -> ∃ cells', Instr.fill pl cells (is.zip us) = some cells' /\ RFs w F U m r cells'.toList
 | [], [], us, cs, r, cells, _, h, hc, hr => by
   cases h
   simp [b2q] at hr
   subst hr
   exact ⟨cells, by simp [Instr.fill], hc⟩
 | i :: is, x :: xs, us, cs, r, cells, hl, h, hc, hr => by
   cases h with
   | cons _ u _ us h hs =>
   simp only [List.zip_cons_cons, b2q] at hr
   split at hr
   . rename_i off n hp
     split at hr
     . rename_i hcond
       simp only [bA_, dE_] at hcond
       obtain ⟨h1, h2, h3⟩ := hcond
       obtain ⟨g1, g2⟩ := h.cells h2
       have hlen := g1.length
       have hcl := hc.length
       have hnew := b8b x.cellsL u.cells.toList cs cells.toList off g1 hc
       have e := b2p off u.cells.toList 0 cells
       simp only [Nat.add_zero] at e
       rw [<- e] at hnew
       obtain ⟨cells', k1, k2⟩ := c0r pl is xs us _ r _ (by simpa using hl) hs hnew hr
       refine ⟨cells', ?_, k2⟩
       simp only [List.zip_cons_cons, Instr.fill, hp]
       have hsz : u.cells.size = n := by rw [<- h1, hlen]; simp
       have hcs : cells.size = cs.length := by rw [hcl]; simp
       rw [if_neg (by simp [hsz]; omega)]
       rw [<- k1]
       congr 1
       rw [<- Array.foldl_toList, Array.toList_zipIdx]
     . cases hr
   . cases hr
def pv1 (P : Program) (H : Heap) (ρ : Operand -> FV) (o : Oper) : Option FV := match o.op with
 | .move x => some (ρ x)
 | .assign x => some (ρ x)
 | .pick x y z => match ρ x with
   | .bool true => some (ρ y)
   | .bool false => some (ρ z)
   | _ => none
 | .binOp op t x y _ => fBin P op t (ρ x) (ρ y)
 | .unOp op _ x => fUn op (ρ x)
 | .convert a b x => c4q P a b (ρ x)
 | .extract x i => match ρ x with
   | .tup cs => cs[i]?
   | _ => none
 | .build t parts => match a4l P t, a5d P t with
   | some z, some pl => (b2q (pl[·]?) z ((parts.toList.map (·.1)).zip ((parts.toList.map (·.2)).map ρ))).map .agg
   | _, _ => none
 | .fieldAddr st x f => b6u P st (ρ x) f
 | .load t x => b4f P H t (ρ x)
 | .indexAddr t x i => b6t P t (ρ x) (ρ i)
 | .slice t x lo hi none => b6s P t (ρ x) (lo.map ρ) (hi.map ρ)
 | .makeFunc (.func f) first caps => some (.clo f (first.toList.map ρ) (caps.toList.map ρ))
 | .call { callee := .builtin .len, args := ⟨[x]⟩, argTypes := ⟨[t]⟩ } => fLen P H t (ρ x)
 | _ => none
theorem f1w (h : RelX X F m s a w) {o : Oper} {y : FV} (hs : pv1 P s.H (rv s) o = some y) : ∃ v, (execOp a.eval o).run P w = .ok (.value v) w /\ RF w F (fun l => s.H l ≠ none) m y v := by
 unfold pv1 at hs
 split at hs
 . rename_i x ho
   obtain rfl := by simpa using hs
   exact ⟨_, by simp [execOp, ho], a3a h x⟩
 . rename_i x ho
   obtain rfl := by simpa using hs
   exact ⟨_, by simp [execOp, ho], a3a h x⟩
 . rename_i x y z ho
   have hx := a3a h x
   split at hs
   all_goals try (cases hs; done)
   all_goals
    rename_i hb
    rw [hb] at hx
    generalize hv : a.eval x = vx at hx
    cases hx
    obtain rfl := by simpa using hs
    exact ⟨_, by simp [execOp, ho, hv, asBool], a3a h _⟩
 . rename_i op t x y ty ho
   obtain ⟨v, h1, h2⟩ := e8j (x := x) (y := y) hs (a3a h x) (a3a h y)
   refine ⟨v, ?_, h2⟩
   simp only [execOp, ho, Sem.run_bind] at h1 ⊢
   simp [h1]
 . rename_i op t x ho
   obtain ⟨v, h1, h2⟩ := f4c (P := P) hs (a3a h x)
   exact ⟨v, by simp [execOp, ho, h1], h2⟩
 . rename_i t1 t2 x ho
   obtain ⟨v, h1, h2⟩ := e1n hs (a3a h x)
   exact ⟨v, by simp [execOp, ho, h1], h2⟩
 . rename_i x i ho
   have hx := a3a h x
   split at hs
   . rename_i cs hc
     rw [hc] at hx
     generalize hv : a.eval x = vx at hx
     cases hx with
     | tup _ vs hvs =>
     obtain ⟨u, g1, g2⟩ := hvs.get i hs
     exact ⟨u, by simp [execOp, ho, hv, Instr.extract, g1], g2⟩
   . cases hs
 . rename_i t parts ho
   split at hs
   . rename_i z pl hz hpl
     rw [oM_] at hs
     obtain ⟨r, hr, rfl⟩ := hs
     unfold a4l at hz
     unfold a5d at hpl
     split at hpl
     case h_2 => cases hpl
     rename_i it fs hit hu
     rw [hit] at hz
     simp only at hz
     split at hz
     case h_2 => cases hz
     rename_i zv hzv
     obtain rfl := by simpa using hz
     have hparts : (parts.map fun (i, x) => (i, a.eval x)).toList = (parts.toList.map (·.1)).zip ((parts.toList.map (·.2)).map a.eval) := by
      rw [Array.toList_map]
      generalize parts.toList = l
      induction l with
      | nil => rfl
      | cons x l ih => obtain ⟨i, x⟩ := x; simp only [List.map_cons, List.zip_cons_cons, ih]
     have hvals : RFs w F (fun l => s.H l ≠ none) m ((parts.toList.map (·.2)).map (rv s)) ((parts.toList.map (·.2)).map a.eval) := by
      generalize parts.toList.map (·.2) = l
      induction l with
      | nil => exact .nil
      | cons x l ih => exact .cons _ _ _ _ (a3a h x) ih
     obtain ⟨cells', k1, k2⟩ := c0r (w := w) (F := F) (U := fun l => s.H l ≠ none) (m := m) (pl[·]?) (parts.toList.map (·.1)) _ _ _ r zv.cells (by simp) hvals (RFs.cv1s _) hr
     have hb : P.built t (parts.map fun (i, x) => (i, a.eval x)).toList = some cells' := by
      unfold Program.built
      simp only [hit, hu, hzv, hpl]
      rw [hparts]
      simpa using k1
     refine ⟨.agg cells', by simp only [execOp, ho, Sem.run_bind]; rw [run_build w t _ cells' hb]; rfl, ?_⟩
     simpa using RF.agg r cells'.toList k2
   . cases hs
 . rename_i st x f ho
   obtain ⟨v, h1, h2⟩ := d6f hs (a3a h x)
   exact ⟨v, by simp [execOp, ho, h1], h2⟩
 . rename_i t x ho
   obtain ⟨v, h1, h2⟩ := c8d h.heap hs (a3a h x)
   exact ⟨v, by simp [execOp, ho, h1], h2⟩
 . rename_i t x i ho
   obtain ⟨v, h1, h2⟩ := d6e hs (a3a h x) (a3a h i)
   exact ⟨v, by simp [execOp, ho, h1], h2⟩
 . rename_i t x lo hi ho
   obtain ⟨v, h1, h2⟩ := d6a (P := P) (vlo := lo.map a.eval) (vhi := hi.map a.eval) hs (a3a h x) (fun f hf => by
    rw [oM_] at hf
    obtain ⟨z, rfl, rfl⟩ := hf
    exact ⟨_, rfl, a3a h z⟩) (fun e => by simpa using e) (fun f hf => by
    rw [oM_] at hf
    obtain ⟨z, rfl, rfl⟩ := hf
    exact ⟨_, rfl, a3a h z⟩) (fun e => by simpa using e)
   exact ⟨v, by simp [execOp, ho, h1], h2⟩
 . rename_i f first caps ho
   obtain rfl := by simpa using hs
   have hall : ∀ l : List Operand, RFs w F (fun l => s.H l ≠ none) m (l.map (rv s)) (l.map a.eval) := fun l => by
    induction l with
    | nil => exact .nil
    | cons x l ih => exact .cons _ _ _ _ (a3a h x) ih
   refine ⟨.func (.func f) (first.map a.eval) (caps.map a.eval), by simp [execOp, ho, Instr.makeFunc], ?_⟩
   have := RF.clo (w := w) (F := F) (U := fun l => s.H l ≠ none) (m := m) f _ _ _ _ (hall first.toList) (hall caps.toList)
   have e : ∀ l : Array Operand, (l.toList.map a.eval).toArray = l.map a.eval := fun l => by rw [<- Array.toList_map]
   rw [e, e] at this
   exact this
 . rename_i x t ho
   obtain ⟨v, h1, h2⟩ := e8g (ty := o.type) h.heap hs (a3a h x)
   refine ⟨v, ?_, h2⟩
   simp [execOp, ho, resolve, invoke, builtin, h1]
 . cases hs
end
end Go.FM
