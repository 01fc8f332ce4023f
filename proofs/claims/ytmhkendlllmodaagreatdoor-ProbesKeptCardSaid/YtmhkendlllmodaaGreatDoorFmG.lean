/- One of the texts of a proof by an abstract machine over the model. -/
import Derived.Test.YtmhkendlllmodaaGreatDoorFmF2
set_option linter.unusedSimpArgs false
set_option linter.unusedVariables false
namespace Go.FM
open Go

def Ran (P : Program) (o : Oper) (a : Act) (w : World) (v : Value) (w' : World) : Prop :=
  (execOp a.eval o).run P w = .ok (.value v) w' ∨ ((execOp a.eval o).run P w = .ok .skip w' ∧ v = undef)
def putD (c : Cfg) (o : Oper) (x : FV) (s : FS) : Option FS := match o.dst with
  | none => some s
  | some d => if d < c.N then some (s.put d x) else none
/-- what an abstract step says of the operation -/
def Snd (P : Program) (c : Cfg) (o : Oper) (s s' : FS) : Prop :=
  ∀ (X : Ctx) (F : Nat → Prop) (m : Loc → Nat × Nat) (a : Act) (w : World), a.tmps.size = c.N → RelX X F m s a w →
    ∃ (m' : Loc → Nat × Nat) (v : Value) (w' : World), Ran P o a w v w' ∧ RelX X F m' s' (a.put o.dst v) w'

section
variable {P : Program} {X : Ctx} {c : Cfg} {w w' : World} {F F' : Nat → Prop} {m m' : Loc → Nat × Nat} {s s' : FS} {a a' : Act} {o : Oper}

theorem putD_ok {x : FV} {v : Value} (h : RelX X F m s a w) (hN : a.tmps.size = c.N) (hx : RF w F (fun l => s.H l ≠ none) m x v) (hs : putD c o x s = some s') : RelX X F m s' (a.put o.dst v) w := by
  unfold putD at hs
  split at hs
  · rename_i hd
    obtain rfl : s = s' := by simpa using hs
    rw [hd]; exact h
  · rename_i d hd
    split at hs
    · rename_i hlt
      obtain rfl : s.put d x = s' := by simpa using hs
      rw [hd]
      exact h.put (hN ▸ hlt) hx
    · cases hs

def sPure (P : Program) (c : Cfg) (o : Oper) (s : FS) : Option FS := (pv P s.H (rv s) o).bind fun y => putD c o y s
theorem sPure_ok (hs : sPure P c o s = some s') : Snd P c o s s' := by
  intro X F m a w hN h
  unfold sPure at hs
  rw [Option.bind_eq_some_iff] at hs
  obtain ⟨y, hy, hs⟩ := hs
  obtain ⟨v, h1, h2⟩ := pv_ok h hy
  exact ⟨m, v, w, .inl h1, putD_ok h hN h2 hs⟩

/-- a name for what this operation makes -/
def nmOf (c : Cfg) (o : Oper) (s : FS) : Option Loc := match o.dst with
  | some d => if (s.H (c.nm d s.ix)).isNone then some (c.nm d s.ix) else none
  | none => none
theorem nmOf_some {l : Loc} (h : nmOf c o s = some l) : s.H l = none := by
  unfold nmOf at h
  split at h
  · split at h
    · rename_i hn
      obtain rfl := by simpa using h
      simpa using hn
    · cases h
  · cases h

theorem newVar_run (t : TypeId) (v : Value) (w : World) : (newVar t v).run P w = .ok ⟨w.heap.size, 0, none⟩ (w.alloc (.cells v.cells t (0, 0))) := by
  simp [newVar, newRow]

/-- a new variable -/
theorem new_ok (h : RelX X F m s a w) (hN : a.tmps.size = c.N) {l : Loc} {cs : List FV} {v : Value} {t : TypeId} (hl : s.H l = none) (hcs : RFs w F (fun k => s.H k ≠ none) m cs v.cells.toList) (h0 : cs ≠ [])
    (hs : putD c o (.ptr l cs.length 0 0) { s with H := upd s.H l (.cells t cs.length [cs]) } = some s') :
    ∃ m', RelX X F m' s' (a.put o.dst (.pointer (some ⟨w.heap.size, 0, none⟩))) (w.alloc (.cells v.cells t (0, 0))) := by
  have hlen := hcs.length
  have hsz : v.cells.size = cs.length := by rw [hlen]; simp
  have hpos : 0 < cs.length := List.length_pos_iff.2 h0
  have h1 := h.alloc (T := t) (cells := v.cells) (rows := [cs]) (sz := cs.length) hl (by
    simp only [List.flatten_cons, List.flatten_nil, List.append_nil, List.length_cons, List.length_nil, Nat.zero_add, Nat.one_mul]
    rw [List.take_of_length_le (by simp [hsz])]
    exact hcs) (by simp) (by simp [hsz]) (by omega)
  refine ⟨_, putD_ok h1 hN ?_ hs⟩
  have := RF.ptr (w := w.alloc (.cells v.cells t (0, 0))) (F := F) (U := fun k => upd s.H l (.cells t cs.length [cs]) k ≠ none) (m := fun k => if k = l then (w.heap.size, v.cells.size) else m k) l cs.length 0 0 (by simp [upd])
  simpa using this

def sAlloc (P : Program) (c : Cfg) (o : Oper) (t : TypeId) (s : FS) : Option FS := match zeroC P t, nmOf c o s with
  | some cs, some l => if cs.isEmpty then none else putD c o (.ptr l cs.length 0 0) { s with H := upd s.H l (.cells t cs.length [cs]) }
  | _, _ => none
theorem sAlloc_ok {t : TypeId} (hs : sAlloc P c o t s = some s') (ho : o.op = .alloc t) : Snd P c o s s' := by
  intro X F m a w hN h
  unfold sAlloc at hs
  split at hs
  · rename_i cs l hz hl
    split at hs
    · cases hs
    · rename_i hne
      obtain ⟨z, hz1, hz2, _⟩ := zeroC_ok (w := w) (F := F) (U := fun k => s.H k ≠ none) (m := m) hz
      obtain ⟨m', h'⟩ := new_ok (t := t) h hN (nmOf_some hl) hz2 (by simpa using hne) hs
      exact ⟨m', _, _, .inl (by simp [execOp, ho, Instr.alloc, hz1, newVar_run]), h'⟩
  · cases hs
def sBox (c : Cfg) (o : Oper) (t : TypeId) (x : FV) (s : FS) : Option FS := match nmOf c o s with
  | some l => if x.storable && !x.cellsL.isEmpty then putD c o (.ptr l x.cellsL.length 0 0) { s with H := upd s.H l (.cells t x.cellsL.length [x.cellsL]) } else none
  | none => none
theorem sBox_ok {t : TypeId} {x : Operand} (hs : sBox c o t (rv s x) s = some s') (ho : o.op = .box t x) : Snd P c o s s' := by
  intro X F m a w hN h
  unfold sBox at hs
  split at hs
  · rename_i l hl
    split at hs
    · rename_i hc
      rw [Bool.and_eq_true] at hc
      obtain ⟨g1, g2⟩ := (rv_ok h x).cells hc.1
      obtain ⟨m', h'⟩ := new_ok (t := t) h hN (nmOf_some hl) g1 (by simpa using hc.2) hs
      exact ⟨m', _, _, .inl (by simp [execOp, ho, Instr.box, newVar_run]), h'⟩
    · cases hs
  · cases hs

def sStore (P : Program) (o : Oper) (t : TypeId) (ad x : FV) (s : FS) : Option FS := match szT P t, o.dst, ad with
  | some n, none, .ptr l sz i off => match s.H l with
    | some (.cells T sz' xs) => match xs[i]? with
      | some r => if decide (sz' = sz) && (decide (x.cellsL.length = n) && (x.storable && decide (off + n ≤ r.length))) then
          some { s with H := upd s.H l (.cells T sz (xs.modify i fun r => r.take off ++ x.cellsL ++ r.drop (off + x.cellsL.length))) } else none
      | none => none
    | _ => none
  | _, _, _ => none
theorem sStore_ok {t : TypeId} {ad x : Operand} (hs : sStore P o t (rv s ad) (rv s x) s = some s') (ho : o.op = .store t ad x) : Snd P c o s s' := by
  intro X F m a w hN h
  unfold sStore at hs
  split at hs
  · rename_i n l sz i off hz hd hp
    split at hs
    · rename_i T sz' xs hl
      split at hs
      · rename_i r hr
        split at hs
        · rename_i hc
          simp only [Bool.and_eq_true, decide_eq_true_eq] at hc
          obtain ⟨rfl, hn, hst, hle⟩ := hc
          obtain rfl := Option.some.inj hs
          obtain ⟨g1, g2⟩ := (rv_ok h x).cells hst
          have had := rv_ok h ad
          rw [hp] at had
          generalize hva : a.eval ad = va at had
          cases had
          have hlen := g1.length
          obtain ⟨w', k1, k2⟩ := h.store (P := P) (off := off) hl hr (by omega) g1 (g1.one g2)
          have hsz : (a.eval x).cells.size = n := by rw [← hn, hlen]; simp
          refine ⟨m, undef, w', .inr ⟨?_, rfl⟩, ?_⟩
          · simp [execOp, ho, hva, Instr.storeAt, Instr.sureAddr, storeVar, run_szT hz, hsz, k1]
          · rw [hd]; exact k2
        · cases hs
      · cases hs
    · cases hs
  · cases hs
end
end Go.FM
