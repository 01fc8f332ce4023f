/- One of the texts of a proof by an abstract machine over the model. -/
import Derived.Test.YtmhkendlllmodaaGreatDoorFmK
set_option linter.unusedSimpArgs false
set_option linter.unusedVariables false
namespace Go.FM
open Go

/-! ### values without names -/
mutual
def nl : FV → Bool
  | .undef | .int .. | .bool _ | .str _ | .nilp | .nils | .nilm | .nilf | .emp => true
  | .list _ xs => nlss xs
  | .ref cs => nls cs
  | .agg cs => nls cs
  | .tup cs => nls cs
  | .clo _ a b => nls a && nls b
  | .ptr .. | .sl .. | .mp _ => false
def nls : List FV → Bool
  | [] => true
  | x :: xs => nl x && nls xs
def nlss : List (List FV) → Bool
  | [] => true
  | x :: xs => nls x && nlss xs
end
theorem nls_all (l : List FV) : nls l = l.all nl := by
  induction l with
  | nil => rfl
  | cons x l ih => simp [nls, ih]
theorem nlss_flatten (l : List (List FV)) : nlss l = nls l.flatten := by
  induction l with
  | nil => rfl
  | cons x l ih => simp only [nlss, ih, List.flatten_cons, nls_all, List.all_append]

section
variable {w w' : World} {F F' : Nat → Prop} {U U' : Loc → Prop} {m m' : Loc → Nat × Nat}
mutual
theorem RF.nameless {a : FV} {v : Value} (h : RF w F U m a v) (ha : nl a = true) (U' : Loc → Prop) (m' : Loc → Nat × Nat) : RF w F U' m' a v :=
  match h with
  | .undef v => .undef v
  | .int k n => .int k n
  | .bool b => .bool b
  | .str s => .str s
  | .list sz xs A cap vs hl hc hm h => .list sz xs A cap vs hl hc hm (RFs.nameless h (by rw [nl, nlss_flatten] at ha; exact ha) U' m')
  | .ref cs a vs hF hm h => .ref cs a vs hF hm (RFs.nameless h ha U' m')
  | .agg cs vs h => .agg cs vs (RFs.nameless h ha U' m')
  | .tup cs vs h => .tup cs vs (RFs.nameless h ha U' m')
  | .ptr .. => by simp [nl] at ha
  | .nilp => .nilp
  | .sl .. => by simp [nl] at ha
  | .sl0 .. => by simp [nl] at ha
  | .nils => .nils
  | .mp .. => by simp [nl] at ha
  | .nilm => .nilm
  | .clo f first caps us vs h1 h2 => by
    simp only [nl, Bool.and_eq_true] at ha
    exact .clo f first caps us vs (RFs.nameless h1 ha.1 U' m') (RFs.nameless h2 ha.2 U' m')
  | .nilf => .nilf
  | .emp A => .emp A
theorem RFs.nameless {as : List FV} {vs : List Value} (h : RFs w F U m as vs) (ha : nls as = true) (U' : Loc → Prop) (m' : Loc → Nat × Nat) : RFs w F U' m' as vs :=
  match h with
  | .nil => .nil
  | .cons a v as vs h hs => by
    simp only [nls, Bool.and_eq_true] at ha
    exact .cons a v as vs (RF.nameless h ha.1 U' m') (RFs.nameless hs ha.2 U' m')
end
end

/-! ### a value seen as read-only: what its named blocks hold stands in it -/
mutual
def frz (H : Heap) : Nat → FV → Option FV
  | 0, _ => none
  | n + 1, .sl l sz off len => match H l with
    | some (.cells _ sz' xs) => if decide (sz' = sz) && decide (off + len ≤ xs.length) then (frzR H n ((xs.drop off).take len)).map (.list sz) else none
    | _ => none
  | n + 1, .agg cs => if nls cs then some (.agg cs) else (frzs H n cs).map .agg
  | n + 1, .tup cs => if nls cs then some (.tup cs) else (frzs H n cs).map .tup
  | _ + 1, v => if nl v then some v else none
def frzs (H : Heap) : Nat → List FV → Option (List FV)
  | 0, _ => none
  | _ + 1, [] => some []
  | n + 1, x :: xs => (frz H n x).bind fun y => (frzs H n xs).map (y :: ·)
def frzR (H : Heap) : Nat → List (List FV) → Option (List (List FV))
  | 0, _ => none
  | n + 1, xs => if nlss xs then some xs else match xs with
    | [] => some []
    | x :: xs => (frzs H n x).bind fun y => (frzR H n xs).map (y :: ·)
end

/-- the blocks of live names, and what is read-only anyway -/
def frzF (F : Nat → Prop) (H : Heap) (m : Loc → Nat × Nat) : Nat → Prop := fun b => F b ∨ ∃ l, Live H m l ∧ (m l).1 = b

section
variable {w w' : World} {F F' : Nat → Prop} {U U' : Loc → Prop} {m m' : Loc → Nat × Nat} {H : Heap}

theorem RF.up {a : FV} {v : Value} (h : RF w F U m a v) (ha : nl a = true) : RF w (frzF F H m) (fun _ => False) m' a v :=
  (h.keep (w' := w) (F' := frzF F H m) (U' := U) (m' := m) (fun _ h => .inl h) (fun _ _ => rfl) (fun _ h => h) (fun _ _ => rfl)).nameless ha _ _
theorem RFs.up {a : List FV} {v : List Value} (h : RFs w F U m a v) (ha : nls a = true) : RFs w (frzF F H m) (fun _ => False) m' a v :=
  (h.keep (w' := w) (F' := frzF F H m) (U' := U) (m' := m) (fun _ h => .inl h) (fun _ _ => rfl) (fun _ h => h) (fun _ _ => rfl)).nameless ha _ _

theorem drop_flatten {α : Type} {sz : Nat} : ∀ (n : Nat) (xs : List (List α)), (∀ x ∈ xs, x.length = sz) → (xs.drop n).flatten = xs.flatten.drop (n * sz)
  | 0, xs, _ => by simp
  | n + 1, [], _ => by simp
  | n + 1, y :: ys, hl => by
    have hy := hl y (by simp)
    rw [List.drop_succ_cons, drop_flatten n ys (fun x hx => hl x (by simp [hx])), List.flatten_cons, Nat.add_mul, Nat.one_mul, Nat.add_comm, ← List.drop_drop]
    rw [show (y ++ ys.flatten).drop sz = ys.flatten by rw [← hy]; simp]
theorem take_flatten {α : Type} {sz : Nat} : ∀ (n : Nat) (xs : List (List α)), (∀ x ∈ xs, x.length = sz) → (xs.take n).flatten = xs.flatten.take (n * sz)
  | 0, xs, _ => by simp
  | n + 1, [], _ => by simp
  | n + 1, y :: ys, hl => by
    have hy := hl y (by simp)
    rw [List.take_succ_cons, List.flatten_cons, take_flatten n ys (fun x hx => hl x (by simp [hx])), List.flatten_cons, Nat.add_mul, Nat.one_mul, Nat.add_comm, ← hy, List.take_length_add_append]

theorem frz_ok (hH : HeapR w F m H) : ∀ (n : Nat),
    (∀ (x y : FV) (v : Value), frz H n x = some y → RF w F (fun l => H l ≠ none) m x v → RF w (frzF F H m) (fun _ => False) m' y v ∧ nl y = true) ∧
    (∀ (xs ys : List FV) (vs : List Value), frzs H n xs = some ys → RFs w F (fun l => H l ≠ none) m xs vs → RFs w (frzF F H m) (fun _ => False) m' ys vs ∧ nls ys = true) ∧
    (∀ (xs ys : List (List FV)) (vs : List Value), frzR H n xs = some ys → RFs w F (fun l => H l ≠ none) m xs.flatten vs → RFs w (frzF F H m) (fun _ => False) m' ys.flatten vs ∧ nlss ys = true ∧ ys.length = xs.length ∧ ∀ sz, (∀ x ∈ xs, x.length = sz) → ∀ y ∈ ys, y.length = sz)
  | 0 => ⟨fun _ _ _ h => by simp [frz] at h, fun _ _ _ h => by simp [frzs] at h, fun _ _ _ h => by simp [frzR] at h⟩
  | n + 1 => by
    obtain ⟨i1, i2, i3⟩ := frz_ok hH n
    refine ⟨fun x y v h hx => ?_, fun xs ys vs h hx => ?_, fun xs ys vs h hx => ?_⟩
    · have plain : ∀ z, nl z = true → z = y → RF w F (fun l => H l ≠ none) m z v → RF w (frzF F H m) (fun _ => False) m' y v ∧ nl y = true := fun z hz e hr => by subst e; exact ⟨hr.up hz, hz⟩
      cases x with
      | sl l sz off len =>
        simp only [frz] at h
        split at h
        · rename_i T sz' xs hl
          split at h
          · rename_i hc
            simp only [Bool.and_eq_true, decide_eq_true_eq] at hc
            obtain ⟨rfl, hlen⟩ := hc
            rw [Option.map_eq_some_iff] at h
            obtain ⟨ys, hys, rfl⟩ := h
            have hcl : ((xs.drop off).take len).length = len := by simp; omega
            rcases hH.obj l _ hl with ⟨rfl, h0⟩ | ⟨h0, c, g1, g2, g3, g4, g5⟩
            · have hl0 : len = 0 := by simp at hlen; omega
              subst hl0
              have := i3 _ _ [] hys (by simpa using RFs.nil)
              have hy0 : ys = [] := List.eq_nil_of_length_eq_zero (by simpa using this.2.2.1)
              subst hy0
              refine ⟨?_, rfl⟩
              cases hx with
              | sl _ _ _ _ cap o hu hcap ho hs => exact .list sz' [] _ cap [] (by simp) (by simp) (by simp) .nil
              | sl0 => exact .list sz' [] _ 0 [] (by simp) (by simp) (by simp) .nil
            · have hpart := (g5.drop (off * sz')).take (len * sz')
              rw [← drop_flatten off xs g3, ← take_flatten len _ (fun x hx => g3 x (List.mem_of_mem_drop hx))] at hpart
              obtain ⟨k1, k2, k3, k4⟩ := i3 _ _ _ hys hpart
              have k4 := k4 sz' (fun x hx => g3 x (List.mem_of_mem_drop (List.mem_of_mem_take hx)))
              rw [hcl] at k3
              refine ⟨?_, by simpa [nl] using k2⟩
              have hlive : Live H m l := ⟨_, hl, by simp, h0⟩
              cases hx with
              | sl _ _ _ _ cap o hu hcap ho hs =>
                have := RF.list (w := w) (F := frzF F H m) (U := fun _ => False) (m := m') sz' ys (some ⟨(m l).1, o, none⟩) cap _ k4 (by omega) (fun hne => ?_) k1
                · rw [k3] at this; exact this
                · have hpos : 0 < len := by
                    rcases Nat.eq_zero_or_pos len with e | e
                    · exact absurd (List.eq_nil_of_length_eq_zero (by omega)) hne
                    · exact e
                  have ho' : o = off * sz' := ho.resolve_left (by omega)
                  refine ⟨_, rfl, .inr ⟨l, hlive, rfl⟩, fun j u hj => ?_⟩
                  rw [List.getElem?_take] at hj
                  split at hj
                  · rename_i hjl
                    rw [List.getElem?_drop, List.getElem?_take] at hj
                    split at hj
                    · rw [add0, cell_blk g1, ho']; simpa using hj
                    · cases hj
                  · cases hj
              | sl0 _ _ _ hu h00 => exact absurd h00 h0
          · cases h
        · cases h
      | agg cs =>
        simp only [frz] at h
        split at h
        · rename_i hc
          exact plain (.agg cs) hc (by simpa using h) hx
        · rw [Option.map_eq_some_iff] at h
          obtain ⟨ys, hys, rfl⟩ := h
          cases hx with
          | agg _ vs hvs =>
          obtain ⟨k1, k2⟩ := i2 _ _ _ hys hvs
          exact ⟨.agg ys vs k1, k2⟩
      | tup cs =>
        simp only [frz] at h
        split at h
        · rename_i hc
          exact plain (.tup cs) hc (by simpa using h) hx
        · rw [Option.map_eq_some_iff] at h
          obtain ⟨ys, hys, rfl⟩ := h
          cases hx with
          | tup _ vs hvs =>
          obtain ⟨k1, k2⟩ := i2 _ _ _ hys hvs
          exact ⟨.tup ys vs k1, k2⟩
      | _ =>
        simp only [frz] at h
        split at h
        · rename_i hc
          exact plain _ hc (by simpa using h) hx
        · cases h
    · cases xs with
      | nil =>
        simp only [frzs, Option.some.injEq] at h
        subst h
        cases hx
        exact ⟨.nil, rfl⟩
      | cons x xs' =>
        simp only [frzs] at h
        rw [Option.bind_eq_some_iff] at h
        obtain ⟨y, hy, h⟩ := h
        rw [Option.map_eq_some_iff] at h
        obtain ⟨ys', hys, rfl⟩ := h
        cases hx with
        | cons _ v _ vs hv hvs =>
        obtain ⟨k1, k2⟩ := i1 _ _ _ hy hv
        obtain ⟨k3, k4⟩ := i2 _ _ _ hys hvs
        exact ⟨.cons _ _ _ _ k1 k3, by simp [nls, k2, k4]⟩
    · simp only [frzR] at h
      split at h
      · rename_i hc
        obtain rfl := by simpa using h
        exact ⟨hx.up (by rw [← nlss_flatten]; exact hc), hc, rfl, fun sz hl => hl⟩
      · rename_i hc
        cases xs with
        | nil => exact absurd rfl hc
        | cons x xs2 =>
          simp only at h
          rw [Option.bind_eq_some_iff] at h
          obtain ⟨y, hy, h⟩ := h
          rw [Option.map_eq_some_iff] at h
          obtain ⟨ys', hys, rfl⟩ := h
          rw [List.flatten_cons] at hx
          obtain ⟨v1, v2, rfl, g1, g2⟩ := RFs.part x xs2.flatten hx
          obtain ⟨k1, k2⟩ := i2 _ _ _ hy g1
          obtain ⟨k3, k4, k5, k6⟩ := i3 _ _ _ hys g2
          refine ⟨by rw [List.flatten_cons]; exact k1.append k3, by simp [nlss, k2, k4], by simp [k5], fun sz hl z hz => ?_⟩
          rcases List.mem_cons.1 hz with rfl | hz
          · rw [k1.length, ← g1.length]; exact hl x (by simp)
          · exact k6 sz (fun q hq => hl q (by simp [hq])) z hz
end
end Go.FM
