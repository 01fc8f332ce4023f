/- One of the texts of a proof by an abstract machine over the model. -/
import Derived.Test.YthlhjepijodemaaAmM
set_option linter.unusedSimpArgs false
set_option linter.unusedVariables false
namespace Go.AM
open Go

section
variable {P : Program} {c : Cfg} {w0 w w' : World} {A0 : List Nat} {ps : List (Nat × Value)} {F F' : Nat → Prop} {bs bs' : Nat → List Nat} {fr fr' : List Nat} {s s' : St} {a a' : Act} {o : Oper}

/-! ### a composite literal -/
def setFrom : List AV → Nat → List AV → List AV
  | l, _, [] => l
  | l, off, x :: xs => setFrom (l.set off x) (off + 1) xs
def setFromV : List Value → Nat → List Value → List Value
  | l, _, [] => l
  | l, off, x :: xs => setFromV (l.set off x) (off + 1) xs
theorem setFromV_length : ∀ (xs : List Value) (l : List Value) (off : Nat), (setFromV l off xs).length = l.length
  | [], _, _ => rfl
  | x :: xs, l, off => by rw [setFromV, setFromV_length xs]; simp
theorem foldl_setFrom (off : Nat) : ∀ (xs : List Value) (k : Nat) (cells : Array Value), ((xs.zipIdx k).foldl (fun (cs : Array Value) (x : Value × Nat) => cs.setIfInBounds (off + x.2) x.1) cells).toList = setFromV cells.toList (off + k) xs
  | [], _, _ => rfl
  | x :: xs, k, cells => by
    simp only [List.zipIdx_cons, List.foldl_cons, setFromV]
    rw [foldl_setFrom off xs (k + 1)]
    simp [Nat.add_assoc]
def fillA (pl : List (Nat × Nat)) : List AV → List (Nat × AV) → Option (List AV)
  | z, [] => some z
  | z, (i, v) :: r => match pl[i]? with
    | some (off, n) => if decide (v.cellsL.length = n) && (v.storable && decide (off + n ≤ z.length)) then fillA pl (setFrom z off v.cellsL) r else none
    | none => none

theorem setFrom_ok : ∀ (xs : List AV) (us : List Value) (b : List Nat) (cs : List AV) (vs : List Value) (bz : List Nat) (off : Nat), RVs w F xs us b → RVs w F cs vs bz → (b ++ bz).Nodup → off + xs.length ≤ cs.length →
    ∃ b', RVs w F (setFrom cs off xs) (setFromV vs off us) b' ∧ b'.Nodup ∧ ∀ y ∈ b', y ∈ b ∨ y ∈ bz
  | [], us, b, cs, vs, bz, off, h, hc, hn, _ => by
    cases h
    exact ⟨bz, hc, by simpa using hn, fun y hy => .inr hy⟩
  | x :: xs, us, b, cs, vs, bz, off, h, hc, hn, hl => by
    cases h with
    | cons _ u b1 _ us b2 h1 h2 =>
    have hoff : off < cs.length := by simp at hl; omega
    obtain ⟨vc, l1, bc, l2, g1, g2, rfl, g4⟩ := hc.split off (List.getElem?_eq_getElem hoff)
    have hset := g4 w F x u b1 (fun _ h => h) (fun _ _ => rfl) h1
    have hn1 : (b2 ++ (l1 ++ (b1 ++ l2))).Nodup := by
      have e : (b1 ++ b2 ++ (l1 ++ (bc ++ l2))).Nodup := hn
      simp only [List.nodup_append, List.mem_append] at e ⊢
      obtain ⟨⟨e1, e2, e3⟩, ⟨e4, ⟨e5, e6, e7⟩, e8⟩, e9⟩ := e
      refine ⟨e2, ⟨e4, ⟨e1, e6, fun p hp q hq => e9 p (.inl hp) q (.inr (.inr hq))⟩, fun p hp q hq => ?_⟩, fun p hp q hq => ?_⟩
      · rcases hq with hq | hq
        · exact fun e => e9 q (.inl hq) p (.inl hp) e.symm
        · exact e8 p hp q (.inr hq)
      · rcases hq with hq | hq | hq
        · exact e9 p (.inr hp) q (.inl hq)
        · exact fun e => e3 q hq p hp e.symm
        · exact e9 p (.inr hp) q (.inr (.inr hq))
    obtain ⟨b', k1, k2, k3⟩ := setFrom_ok xs us b2 _ _ _ (off + 1) h2 hset hn1 (by simp at hl ⊢; omega)
    refine ⟨b', k1, k2, fun y hy => ?_⟩
    rcases k3 y hy with h | h
    · exact .inl (by simp [h])
    · simp only [List.mem_append] at h ⊢
      rcases h with h | h | h
      · exact .inr (.inl h)
      · exact .inl (.inl h)
      · exact .inr (.inr (.inr h))

theorem setFrom_length : ∀ (xs : List AV) (l : List AV) (off : Nat), (setFrom l off xs).length = l.length
  | [], _, _ => rfl
  | x :: xs, l, off => by rw [setFrom, setFrom_length xs]; simp

theorem fill_ok (pl : List (Nat × Nat)) : ∀ (is : List Nat) (xs : List AV) (us : List Value) (b : List Nat) (cs r : List AV) (cells : Array Value) (bz : List Nat), is.length = xs.length → RVs w F xs us b → RVs w F cs cells.toList bz → (b ++ bz).Nodup →
    fillA pl cs (is.zip xs) = some r → ∃ cells' b', Instr.fill (pl.toArray[·]?) cells (is.zip us) = some cells' ∧ RVs w F r cells'.toList b' ∧ b'.Nodup ∧ ∀ y ∈ b', y ∈ b ∨ y ∈ bz
  | is, [], us, b, cs, r, cells, bz, hi, h, hc, hn, hr => by
    cases h
    have : is = [] := List.eq_nil_of_length_eq_zero (by simpa using hi)
    subst this
    simp only [List.zip_nil_left, fillA, Option.some.injEq] at hr
    subst hr
    exact ⟨cells, bz, rfl, hc, by simpa using hn, fun y hy => .inr hy⟩
  | [], x :: xs, us, b, cs, r, cells, bz, hi, h, hc, hn, hr => by simp at hi
  | i :: is, x :: xs, us, b, cs, r, cells, bz, hi, h, hc, hn, hr => by
    cases h with
    | cons _ u b1 _ us b2 h1 h2 =>
    simp only [List.zip_cons_cons, fillA] at hr
    split at hr
    · rename_i off n hpl
      split at hr
      · rename_i hcd
        rw [Bool.and_eq_true, Bool.and_eq_true] at hcd
        obtain ⟨hlen, hst, hoff⟩ := hcd
        have hlen := of_decide_eq_true hlen
        have hoff := of_decide_eq_true hoff
        have hcl := cells_of h1 (storable_cells hst).1
        have hn' := List.nodup_append.1 hn
        have hn1 : (b1 ++ bz).Nodup := by
          have e := hn
          simp only [List.nodup_append, List.mem_append] at e ⊢
          exact ⟨e.1.1, e.2.1, fun p hp q hq => e.2.2 p (.inl hp) q hq⟩
        obtain ⟨bz', k1, k2, k3⟩ := setFrom_ok x.cellsL u.cells.toList b1 cs cells.toList bz off hcl hc hn1 (by rw [hlen]; exact hoff)
        have hsz : u.cells.size = n := by rw [← hlen, hcl.length]; simp
        have hcs : cells.size = cs.length := by rw [hc.length]; simp
        obtain ⟨cells1, hc1⟩ : ∃ cells1 : Array Value, u.cells.zipIdx.foldl (fun cs (c, j) => cs.setIfInBounds (off + j) c) cells = cells1 := ⟨_, rfl⟩
        have hc1l : cells1.toList = setFromV cells.toList off u.cells.toList := by
          rw [← hc1, ← Array.foldl_toList, Array.toList_zipIdx]
          exact foldl_setFrom off u.cells.toList 0 cells
        rw [← hc1l] at k1
        have hn2 : (b2 ++ bz').Nodup := by
          have e := hn
          simp only [List.nodup_append, List.mem_append] at e ⊢
          refine ⟨e.1.2.1, k2, fun p hp q hq => ?_⟩
          rcases k3 q hq with h | h
          · exact fun e' => e.1.2.2 q h p hp e'.symm
          · exact e.2.2 p (.inr hp) q h
        obtain ⟨cells', b', g1, g2, g3, g4⟩ := fill_ok pl is xs us b2 _ r cells1 bz' (by simpa using hi) h2 k1 hn2 hr
        refine ⟨cells', b', ?_, g2, g3, fun y hy => ?_⟩
        · have : ¬ (u.cells.size ≠ n || off + u.cells.size > cells.size) = true := by
            simp only [Bool.or_eq_true, decide_eq_true_eq, not_or]
            rw [hsz, hcs]
            exact ⟨by simp, by omega⟩
          have hpl' : pl.toArray[i]? = some (off, n) := by simpa using hpl
          simp only [List.zip_cons_cons, Instr.fill, hpl']
          rw [if_neg this, hc1]
          exact g1
        · rcases g4 y hy with h | h
          · exact .inl (by simp [h])
          · rcases k3 y h with h | h
            · exact .inl (by simp [h])
            · exact .inr h
      · cases hr
    · cases hr

def takeL (P : Program) (s : St) : List Operand → Option (List AV × St)
  | [] => some ([], s)
  | x :: r => match (ro P s 0 x).take with
    | some (v, wr) => match takeL P (s.apply wr) r with
      | some (vs, s') => some (v :: vs, s')
      | none => none
    | none => none
theorem takeL_ok : ∀ (l : List Operand) (vs : List AV) (s s' : St) (bs : Nat → List Nat) (fr : List Nat), takeL P s l = some (vs, s') → RelX w0 A0 ps F bs fr s a w →
    ∃ b bs', RVs w F vs (l.map a.eval) b ∧ RelX w0 A0 ps F bs' (b ++ fr) s' a w
  | [], vs, s, s', bs, fr, h, hR => by
    simp only [takeL, Option.some.injEq, Prod.mk.injEq] at h
    obtain ⟨rfl, rfl⟩ := h
    exact ⟨[], bs, .nil, hR⟩
  | x :: r, vs, s, s', bs, fr, h, hR => by
    simp only [takeL] at h
    split at h
    · rename_i v wr hv
      split at h
      · rename_i vs' s1 hvs
        simp only [Option.some.injEq, Prod.mk.injEq] at h
        obtain ⟨rfl, rfl⟩ := h
        obtain ⟨b, bs1, g1, g2⟩ := ro_take hR 0 x hv
        obtain ⟨b2, bs2, g3, g4⟩ := takeL_ok r vs' _ _ bs1 (b ++ fr) hvs g2
        refine ⟨b ++ b2, bs2, .cons _ _ _ _ _ _ g1 g3, g4.drop ?_ fun y hy => ?_⟩
        · have e := g4.fnd
          simp only [List.nodup_append, List.mem_append] at e ⊢
          refine ⟨⟨e.2.1.1, e.1, fun p hp q hq e' => e.2.2 q hq p (.inl hp) e'.symm⟩, e.2.1.2.1, fun p hp q hq => ?_⟩
          rcases hp with hp | hp
          · exact e.2.1.2.2 p hp q hq
          · exact e.2.2 p hp q (.inr hq)
        · simp only [List.mem_append] at hy ⊢
          rcases hy with (h | h) | h
          · exact .inr (.inl h)
          · exact .inl h
          · exact .inr (.inr h)
      · cases h
    · cases h

def placesT (P : Program) (t : TypeId) : Option (List (Nat × Nat)) := match P.info? t, P.underlying t with
  | some _, some (.struct fs) => fs.toList.mapM fun f => (P.info? f.type).map fun i => (f.offset, i.size)
  | _, _ => none
def aBuild (P : Program) (c : Cfg) (o : Oper) (t : TypeId) (parts : Array (Nat × Operand)) (s : St) : Option St :=
  match zeroC P t, placesT P t, takeL P s (parts.toList.map (·.2)) with
  | some z, some pl, some (vs, s') => (fillA pl z ((parts.toList.map (·.1)).zip vs)).bind fun r => putD c o (.agg r) s'
  | _, _, _ => none
theorem aBuild_ok {t : TypeId} {parts : Array (Nat × Operand)} (hs : aBuild P c o t parts s = some s') (ho : o.op = .build t parts) : Snd P c o s s' := by
  intro w0 A0 ps F bs fr a w hN hp h
  unfold aBuild at hs
  split at hs
  · rename_i z pl vs s1 hz hpl htk
    rw [Option.bind_eq_some_iff] at hs
    obtain ⟨r, hr, hs⟩ := hs
    obtain ⟨b, bs1, g1, g2⟩ := takeL_ok _ _ _ _ _ _ htk h
    unfold zeroC at hz
    unfold placesT at hpl
    split at hpl
    case h_2 => cases hpl
    rename_i it fs hit hu
    rw [hit] at hz
    simp only at hz
    split at hz
    case h_2 => cases hz
    rename_i zv hzv
    have hzz : ∃ z', (zeroValue t).run P w = .ok z' w ∧ RVs w F z z'.cells.toList [] := zeroC_ok (P := P) (t := t) (by unfold zeroC; rw [hit]; simp only [hzv]; exact hz) w F
    obtain ⟨z', hz1, hz2⟩ := hzz
    have : z' = zv := by simpa [zeroValue, typeInfo, hit, hzv] using hz1.symm
    subst this
    have hlen : (parts.toList.map (·.1)).length = vs.length := by rw [g1.length]; simp
    have hfn := List.nodup_append.1 g2.fnd
    obtain ⟨cells', b', k1, k2, k3, k4⟩ := fill_ok pl _ vs _ b z r z'.cells [] hlen g1 hz2 (by simpa using hfn.1) hr
    have hparts : (parts.map fun (i, x) => (i, a.eval x)).toList = (parts.toList.map (·.1)).zip ((parts.toList.map (·.2)).map a.eval) := by
      rw [Array.toList_map]
      generalize parts.toList = l
      induction l with
      | nil => rfl
      | cons x l ih => obtain ⟨i, x⟩ := x; simp only [List.map_cons, List.zip_cons_cons, ih]
    have hb : P.built t (parts.map fun (i, x) => (i, a.eval x)).toList = some cells' := by
      unfold Program.built
      simp only [hit, hu, hzv, hpl]
      rw [hparts]
      exact k1
    have g3 : RelX w0 A0 ps F bs1 (b' ++ fr) s1 a w := g2.drop (by
      rw [List.nodup_append]
      refine ⟨k3, hfn.2.1, fun p hp q hq => ?_⟩
      rcases k4 p hp with h | h
      · exact hfn.2.2 p h q hq
      · cases h) (fun y hy => by
      rcases List.mem_append.1 hy with hy | hy
      · rcases k4 y hy with h | h
        · simp [h]
        · cases h
      · simp [hy])
    have hrv : RV w F (.agg r) (.agg cells') b' := by simpa using RV.agg r cells'.toList b' k2
    obtain ⟨bs', fr', h'⟩ := put_ok g3 hN hp hrv hs
    exact ⟨bs', fr', _, w, .inl (by simp only [execOp, ho, Sem.run_bind]; rw [run_build w t _ cells' hb]; rfl), h'⟩
  · cases hs
end
end Go.AM
