/- One of the texts of a proof by an abstract machine over the model. -/
import Derived.Test.YtmhkendlllmodaaGreatDoorFmE
set_option linter.unusedSimpArgs false
set_option linter.unusedVariables false
namespace Go.FM
open Go

/-! ### a zero value -/
def zeroC (P : Program) (t : TypeId) : Option (List FV) := match P.info? t with
  | some i => match i.zero with
    | some z => some (z.cells.toList.map cv1)
    | none => none
  | none => none
def placesT (P : Program) (t : TypeId) : Option (List (Nat × Nat)) := match P.info? t, P.underlying t with
  | some _, some (.struct fs) => fs.toList.mapM fun f => (P.info? f.type).map fun i => (f.offset, i.size)
  | _, _ => none
def setFrom : List FV → Nat → List FV → List FV
  | l, _, [] => l
  | l, off, x :: xs => setFrom (l.set off x) (off + 1) xs
def setFromV : List Value → Nat → List Value → List Value
  | l, _, [] => l
  | l, off, x :: xs => setFromV (l.set off x) (off + 1) xs
def fillA (pl : Nat → Option (Nat × Nat)) : List FV → List (Nat × FV) → Option (List FV)
  | z, [] => some z
  | z, (i, v) :: r => match pl i with
    | some (off, n) => if decide (v.cellsL.length = n) && (v.storable && decide (off + n ≤ z.length)) then fillA pl (setFrom z off v.cellsL) r else none
    | none => none

section
variable {P : Program} {X : Ctx} {c : Cfg} {w w' : World} {F F' : Nat → Prop} {U : Loc → Prop} {m m' : Loc → Nat × Nat} {s s' : FS} {a a' : Act} {H : Heap}

theorem RFs.cv1s : ∀ l : List Value, RFs w F U m (l.map cv1) l
  | [] => .nil
  | x :: l => .cons _ _ _ _ (RF.cv1 x) (RFs.cv1s l)
theorem zeroC_ok {t : TypeId} {cs : List FV} (h : zeroC P t = some cs) (w : World) : ∃ z, (zeroValue t).run P w = .ok z w ∧ RFs w F U m cs z.cells.toList ∧ cs.length = z.cells.size := by
  unfold zeroC at h
  split at h
  · rename_i i hi
    split at h
    · rename_i z hz
      obtain rfl := by simpa using h
      exact ⟨z, by simp [zeroValue, typeInfo, hi, hz], RFs.cv1s _, by simp⟩
    · cases h
  · cases h
theorem setFromV_length : ∀ (xs : List Value) (l : List Value) (off : Nat), (setFromV l off xs).length = l.length
  | [], _, _ => rfl
  | x :: xs, l, off => by rw [setFromV, setFromV_length xs]; simp
theorem foldl_setFrom (off : Nat) : ∀ (xs : List Value) (k : Nat) (cells : Array Value), ((xs.zipIdx k).foldl (fun (cs : Array Value) (x : Value × Nat) => cs.setIfInBounds (off + x.2) x.1) cells).toList = setFromV cells.toList (off + k) xs
  | [], _, _ => rfl
  | x :: xs, k, cells => by
    simp only [List.zipIdx_cons, List.foldl_cons, setFromV]
    rw [foldl_setFrom off xs (k + 1)]
    simp [Nat.add_assoc]
theorem setFrom_ok : ∀ (xs : List FV) (us : List Value) (cs : List FV) (vs : List Value) (off : Nat), RFs w F U m xs us → RFs w F U m cs vs → RFs w F U m (setFrom cs off xs) (setFromV vs off us)
  | _, _, cs, vs, off, .nil, hc => hc
  | _, _, cs, vs, off, .cons x u xs us h hs, hc => setFrom_ok xs us _ _ (off + 1) hs (hc.set off h)
theorem setFrom_length : ∀ (xs : List FV) (l : List FV) (off : Nat), (setFrom l off xs).length = l.length
  | [], _, _ => rfl
  | x :: xs, l, off => by rw [setFrom, setFrom_length xs]; simp
theorem fill_ok (pl : Nat → Option (Nat × Nat)) : ∀ (is : List Nat) (xs : List FV) (us : List Value) (cs r : List FV) (cells : Array Value), is.length = xs.length → RFs w F U m xs us → RFs w F U m cs cells.toList →
    fillA pl cs (is.zip xs) = some r → ∃ cells', Instr.fill pl cells (is.zip us) = some cells' ∧ RFs w F U m r cells'.toList
  | [], [], us, cs, r, cells, _, h, hc, hr => by
    cases h
    simp [fillA] at hr
    subst hr
    exact ⟨cells, by simp [Instr.fill], hc⟩
  | i :: is, x :: xs, us, cs, r, cells, hl, h, hc, hr => by
    cases h with
    | cons _ u _ us h hs =>
    simp only [List.zip_cons_cons, fillA] at hr
    split at hr
    · rename_i off n hp
      split at hr
      · rename_i hcond
        simp only [Bool.and_eq_true, decide_eq_true_eq] at hcond
        obtain ⟨h1, h2, h3⟩ := hcond
        obtain ⟨g1, g2⟩ := h.cells h2
        have hlen := g1.length
        have hcl := hc.length
        have hnew := setFrom_ok x.cellsL u.cells.toList cs cells.toList off g1 hc
        have e := foldl_setFrom off u.cells.toList 0 cells
        simp only [Nat.add_zero] at e
        rw [← e] at hnew
        obtain ⟨cells', k1, k2⟩ := fill_ok pl is xs us _ r _ (by simpa using hl) hs hnew hr
        refine ⟨cells', ?_, k2⟩
        simp only [List.zip_cons_cons, Instr.fill, hp]
        have hsz : u.cells.size = n := by rw [← h1, hlen]; simp
        have hcs : cells.size = cs.length := by rw [hcl]; simp
        rw [if_neg (by simp [hsz]; omega)]
        rw [← k1]
        congr 1
        rw [← Array.foldl_toList, Array.toList_zipIdx]
      · cases hr
    · cases hr

/-! ### the values of operations that write nothing -/
def rvs (ρ : Operand → FV) (l : List Operand) : List FV := l.map ρ
def fMins : FV → List FV → Option FV
  | .int k n, [] => some (.int k n)
  | .int k n, .int k' m :: r => if k = k' then fMins (.int k (min n m)) r else none
  | _, _ => none
def fMaxs : FV → List FV → Option FV
  | .int k n, [] => some (.int k n)
  | .int k n, .int k' m :: r => if k = k' then fMaxs (.int k (max n m)) r else none
  | _, _ => none
def fStrAt (x i : FV) : Option FV := match x, i with
  | .str s, .int _ n => if 0 ≤ n then (s[n.toNat]?).map fun b => .int .u8 b.toNat else none
  | _, _ => none
def pv1 (P : Program) (H : Heap) (ρ : Operand → FV) (o : Oper) : Option FV := match o.op with
  | .move x => some (ρ x)
  | .assign x => some (ρ x)
  | .pick x y z => match ρ x with
    | .bool true => some (ρ y)
    | .bool false => some (ρ z)
    | _ => none
  | .binOp op t x y _ => fBin P op t (ρ x) (ρ y)
  | .unOp op _ x => fUn op (ρ x)
  | .convert a b x => fConv P a b (ρ x)
  | .extract x i => match ρ x with
    | .tup cs => cs[i]?
    | _ => none
  | .build t parts => match zeroC P t, placesT P t with
    | some z, some pl => (fillA (pl[·]?) z ((parts.toList.map (·.1)).zip ((parts.toList.map (·.2)).map ρ))).map .agg
    | _, _ => none
  | .fieldAddr st x f => fField P st (ρ x) f
  | .load t x => fLoad P H t (ρ x)
  | .indexAddr t x i => fIndex P t (ρ x) (ρ i)
  | .slice t x lo hi none => fSlice P t (ρ x) (lo.map ρ) (hi.map ρ)
  | .makeFunc (.func f) first caps => some (.clo f (first.toList.map ρ) (caps.toList.map ρ))
  | .call { callee := .builtin .len, args := ⟨[x]⟩, argTypes := ⟨[t]⟩ } => fLen P H t (ρ x)
  | _ => none

theorem pv1_ok (h : RelX X F m s a w) {o : Oper} {y : FV} (hs : pv1 P s.H (rv s) o = some y) : ∃ v, (execOp a.eval o).run P w = .ok (.value v) w ∧ RF w F (fun l => s.H l ≠ none) m y v := by
  unfold pv1 at hs
  split at hs
  · rename_i x ho
    obtain rfl := by simpa using hs
    exact ⟨_, by simp [execOp, ho], rv_ok h x⟩
  · rename_i x ho
    obtain rfl := by simpa using hs
    exact ⟨_, by simp [execOp, ho], rv_ok h x⟩
  · rename_i x y z ho
    have hx := rv_ok h x
    split at hs
    all_goals try (cases hs; done)
    all_goals
      rename_i hb
      rw [hb] at hx
      generalize hv : a.eval x = vx at hx
      cases hx
      obtain rfl := by simpa using hs
      exact ⟨_, by simp [execOp, ho, hv, asBool], rv_ok h _⟩
  · rename_i op t x y ty ho
    obtain ⟨v, h1, h2⟩ := fBin_ok (x := x) (y := y) hs (rv_ok h x) (rv_ok h y)
    refine ⟨v, ?_, h2⟩
    simp only [execOp, ho, Sem.run_bind] at h1 ⊢
    simp [h1]
  · rename_i op t x ho
    obtain ⟨v, h1, h2⟩ := fUn_ok (P := P) hs (rv_ok h x)
    exact ⟨v, by simp [execOp, ho, h1], h2⟩
  · rename_i t1 t2 x ho
    obtain ⟨v, h1, h2⟩ := fConv_ok hs (rv_ok h x)
    exact ⟨v, by simp [execOp, ho, h1], h2⟩
  · rename_i x i ho
    have hx := rv_ok h x
    split at hs
    · rename_i cs hc
      rw [hc] at hx
      generalize hv : a.eval x = vx at hx
      cases hx with
      | tup _ vs hvs =>
      obtain ⟨u, g1, g2⟩ := hvs.get i hs
      exact ⟨u, by simp [execOp, ho, hv, Instr.extract, g1], g2⟩
    · cases hs
  · rename_i t parts ho
    split at hs
    · rename_i z pl hz hpl
      rw [Option.map_eq_some_iff] at hs
      obtain ⟨r, hr, rfl⟩ := hs
      unfold zeroC at hz
      unfold placesT at hpl
      split at hpl
      case h_2 => cases hpl
      rename_i it fs hit hu
      rw [hit] at hz
      simp only at hz
      split at hz
      case h_2 => cases hz
      rename_i zv hzv
      obtain rfl := by simpa using hz
      have hparts : (parts.map fun (i, x) => (i, a.eval x)).toList = (parts.toList.map (·.1)).zip ((parts.toList.map (·.2)).map a.eval) := by
        rw [Array.toList_map]
        generalize parts.toList = l
        induction l with
        | nil => rfl
        | cons x l ih => obtain ⟨i, x⟩ := x; simp only [List.map_cons, List.zip_cons_cons, ih]
      have hvals : RFs w F (fun l => s.H l ≠ none) m ((parts.toList.map (·.2)).map (rv s)) ((parts.toList.map (·.2)).map a.eval) := by
        generalize parts.toList.map (·.2) = l
        induction l with
        | nil => exact .nil
        | cons x l ih => exact .cons _ _ _ _ (rv_ok h x) ih
      obtain ⟨cells', k1, k2⟩ := fill_ok (w := w) (F := F) (U := fun l => s.H l ≠ none) (m := m) (pl[·]?) (parts.toList.map (·.1)) _ _ _ r zv.cells (by simp) hvals (RFs.cv1s _) hr
      have hb : P.built t (parts.map fun (i, x) => (i, a.eval x)).toList = some cells' := by
        unfold Program.built
        simp only [hit, hu, hzv, hpl]
        rw [hparts]
        simpa using k1
      refine ⟨.agg cells', by simp only [execOp, ho, Sem.run_bind]; rw [run_build w t _ cells' hb]; rfl, ?_⟩
      simpa using RF.agg r cells'.toList k2
    · cases hs
  · rename_i st x f ho
    obtain ⟨v, h1, h2⟩ := fField_ok hs (rv_ok h x)
    exact ⟨v, by simp [execOp, ho, h1], h2⟩
  · rename_i t x ho
    obtain ⟨v, h1, h2⟩ := fLoad_ok h.heap hs (rv_ok h x)
    exact ⟨v, by simp [execOp, ho, h1], h2⟩
  · rename_i t x i ho
    obtain ⟨v, h1, h2⟩ := fIndex_ok hs (rv_ok h x) (rv_ok h i)
    exact ⟨v, by simp [execOp, ho, h1], h2⟩
  · rename_i t x lo hi ho
    obtain ⟨v, h1, h2⟩ := fSlice_ok (P := P) (vlo := lo.map a.eval) (vhi := hi.map a.eval) hs (rv_ok h x) (fun f hf => by
      rw [Option.map_eq_some_iff] at hf
      obtain ⟨z, rfl, rfl⟩ := hf
      exact ⟨_, rfl, rv_ok h z⟩) (fun e => by simpa using e) (fun f hf => by
      rw [Option.map_eq_some_iff] at hf
      obtain ⟨z, rfl, rfl⟩ := hf
      exact ⟨_, rfl, rv_ok h z⟩) (fun e => by simpa using e)
    exact ⟨v, by simp [execOp, ho, h1], h2⟩
  · rename_i f first caps ho
    obtain rfl := by simpa using hs
    have hall : ∀ l : List Operand, RFs w F (fun l => s.H l ≠ none) m (l.map (rv s)) (l.map a.eval) := fun l => by
      induction l with
      | nil => exact .nil
      | cons x l ih => exact .cons _ _ _ _ (rv_ok h x) ih
    refine ⟨.func (.func f) (first.map a.eval) (caps.map a.eval), by simp [execOp, ho, Instr.makeFunc], ?_⟩
    have := RF.clo (w := w) (F := F) (U := fun l => s.H l ≠ none) (m := m) f _ _ _ _ (hall first.toList) (hall caps.toList)
    have e : ∀ l : Array Operand, (l.toList.map a.eval).toArray = l.map a.eval := fun l => by rw [← Array.toList_map]
    rw [e, e] at this
    exact this
  · rename_i x t ho
    obtain ⟨v, h1, h2⟩ := fLen_ok (ty := o.type) h.heap hs (rv_ok h x)
    refine ⟨v, ?_, h2⟩
    simp [execOp, ho, resolve, invoke, builtin, h1]
  · cases hs
end
end Go.FM
