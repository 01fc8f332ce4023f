/- One of the texts of a proof by an abstract machine over the model. -/
import Derived.Test.YthlhjepijodemaaAmJ
set_option linter.unusedSimpArgs false
set_option linter.unusedVariables false
namespace Go.AM
open Go

/-! ### types -/
def szT (P : Program) (t : TypeId) : Option Nat := (P.info? t).map (·.size)
def ldT (P : Program) (t : TypeId) : Option (Option Nat) := match P.underlying t with
  | some (.struct _) => (szT P t).map some
  | some (.array _ _) => (szT P t).map some
  | some _ => some none
  | none => none
def fldT (P : Program) (t : TypeId) (f : Nat) : Option Nat := match P.underlying t with
  | some (.struct fs) => match fs[f]? with
    | some x => match szT P x.type with
      | some 0 => none
      | some _ => some x.offset
      | none => none
    | none => none
  | _ => none
def intT (P : Program) (t : TypeId) : Option IntKind := match P.underlying t with | some (.int k) => some k | _ => none
def hasT (P : Program) (t : TypeId) : Bool := (P.underlying t).isSome
def slT (P : Program) (t : TypeId) : Option (TypeId × Nat) := match P.underlying t with
  | some (.slice e) => (szT P e).map fun n => (e, n)
  | _ => none
def strT (P : Program) (t : TypeId) : Bool := match P.underlying t with | some .string => true | _ => false

section
variable {P : Program} {c : Cfg} {w0 w w' : World} {A0 : List Nat} {ps : List (Nat × Value)} {F F' : Nat → Prop} {bs bs' : Nat → List Nat} {fr fr' : List Nat} {s s' : St} {a a' : Act} {o : Oper}

theorem run_szT {t : TypeId} {n : Nat} (h : szT P t = some n) (w : World) : (sizeOf t).run P w = .ok n w := by
  unfold szT at h
  rw [Option.map_eq_some_iff] at h
  obtain ⟨i, hi, rfl⟩ := h
  simp [sizeOf, typeInfo, hi]
theorem run_ldT {t : TypeId} {x : Option Nat} (h : ldT P t = some x) (w : World) : (isAgg t).run P w = .ok x.isSome w ∧ ∀ n, x = some n → szT P t = some n := by
  unfold ldT at h
  split at h
  · rename_i h1
    rw [Option.map_eq_some_iff] at h
    obtain ⟨n, hn, rfl⟩ := h
    exact ⟨by simp [isAgg, run_underlying h1], by simpa using hn⟩
  · rename_i h1
    rw [Option.map_eq_some_iff] at h
    obtain ⟨n, hn, rfl⟩ := h
    exact ⟨by simp [isAgg, run_underlying h1], by simpa using hn⟩
  · rename_i d n1 n2 h1
    obtain rfl := by simpa using h
    refine ⟨?_, by simp⟩
    simp only [isAgg, Sem.run_bind, run_underlying h1, Result.andThen_ok]
    cases d <;> first | rfl | (exfalso; exact n1 _ rfl) | (exfalso; exact n2 _ _ rfl)
  · cases h

/-! ### unary, convert, extract -/
def aUn (op : UnOp) (x : AV) : Option AV := match op, x with
  | .not, .bool b => some (.bool (!b))
  | .neg, .int k n => some (.int k (k.wrap (0 - n)))
  | _, _ => none
def aUnOp (P : Program) (c : Cfg) (o : Oper) (op : UnOp) (t : TypeId) (x : Operand) (s : St) : Option St :=
  (((ro P s t x).cont).bind fun u => aUn op u).bind fun r => putD c o r s
theorem aUnOp_ok {op : UnOp} {t : TypeId} {x : Operand} (hs : aUnOp P c o op t x s = some s') (ho : o.op = .unOp op t x) : Snd P c o s s' := by
  intro w0 A0 ps F bs fr a w hN hp h
  simp only [aUnOp, Option.bind_eq_some_iff] at hs
  obtain ⟨r, ⟨u, hu, hr⟩, hs⟩ := hs
  obtain ⟨b1, h1⟩ := ro_cont h _ x hu
  unfold aUn at hr
  split at hr
  · obtain rfl := by simpa using hr
    generalize hx : a.eval x = vx at h1
    cases h1
    obtain ⟨bs', fr', h'⟩ := put_ok (b := []) h hN hp (.bool _) hs
    exact ⟨bs', fr', _, w, .inl (by simp [execOp, ho, hx, Op.unary]), h'⟩
  · obtain rfl := by simpa using hr
    generalize hx : a.eval x = vx at h1
    cases h1
    obtain ⟨bs', fr', h'⟩ := put_ok (b := []) h hN hp (.int _ _) hs
    exact ⟨bs', fr', _, w, .inl (by simp [execOp, ho, hx, Op.unary, Op.intArith]), h'⟩
  · cases hr

def aConv (P : Program) (src dst : TypeId) (x : AV) : Option AV := match x with
  | .int _ n => if hasT P src then (intT P dst).map fun k => .int k (k.wrap n) else none
  | .str s => if strT P src && strT P dst then some (.str s) else none
  | _ => none
def aConvert (P : Program) (c : Cfg) (o : Oper) (src dst : TypeId) (x : Operand) (s : St) : Option St :=
  (((ro P s src x).cont).bind fun u => aConv P src dst u).bind fun r => putD c o r s
theorem intT_some {t : TypeId} {k : IntKind} (h : intT P t = some k) : P.underlying t = some (.int k) := by
  unfold intT at h; split at h
  · rename_i h1; rw [h1]; simpa using h
  · cases h
theorem strT_some {t : TypeId} (h : strT P t = true) : P.underlying t = some .string := by
  unfold strT at h; split at h
  · assumption
  · cases h
theorem aConvert_ok {src dst : TypeId} {x : Operand} (hs : aConvert P c o src dst x s = some s') (ho : o.op = .convert src dst x) : Snd P c o s s' := by
  intro w0 A0 ps F bs fr a w hN hp h
  simp only [aConvert, Option.bind_eq_some_iff] at hs
  obtain ⟨r, ⟨u, hu, hr⟩, hs⟩ := hs
  obtain ⟨b1, h1⟩ := ro_cont h _ x hu
  unfold aConv at hr
  split at hr
  · split at hr
    · rename_i hsrc
      rw [Option.map_eq_some_iff] at hr
      obtain ⟨k, hk, rfl⟩ := hr
      have hk := intT_some hk
      obtain ⟨d, hd⟩ := Option.isSome_iff_exists.1 hsrc
      generalize hx : a.eval x = vx at h1
      cases h1
      obtain ⟨bs', fr', h'⟩ := put_ok (b := []) h hN hp (.int _ _) hs
      exact ⟨bs', fr', _, w, .inl (by simp [execOp, ho, hx, convert, run_underlying hd, run_underlying hk, Conv.intToInt]), h'⟩
    · cases hr
  · split at hr
    · rename_i hc
      rw [Bool.and_eq_true] at hc
      obtain rfl := by simpa using hr
      generalize hx : a.eval x = vx at h1
      cases h1
      obtain ⟨bs', fr', h'⟩ := put_ok (b := []) h hN hp (.str _) hs
      exact ⟨bs', fr', _, w, .inl (by simp [execOp, ho, hx, convert, run_underlying (strT_some hc.1), run_underlying (strT_some hc.2)]), h'⟩
    · cases hr
  · cases hr

def aExtract (P : Program) (c : Cfg) (o : Oper) (x : Operand) (i : Nat) (s : St) : Option St :=
  match (ro P s o.type x).v with
  | .tup cs => match cs[i]? with
    | some u => if u.pure then putD c o u s else none
    | none => none
  | _ => none
theorem aExtract_ok {x : Operand} {i : Nat} (hs : aExtract P c o x i s = some s') (ho : o.op = .extract x i) : Snd P c o s s' := by
  intro w0 A0 ps F bs fr a w hN hp h
  unfold aExtract at hs
  split at hs
  · rename_i cs hv
    split at hs
    · rename_i u hu
      split at hs
      · rename_i hpu
        obtain ⟨b, hb, _⟩ := ro_plain h o.type x (P := P) (by rw [hv]; rfl)
        rw [hv] at hb
        generalize hx : a.eval x = vx at hb
        cases hb with
        | tup _ vs _ hvs =>
        obtain ⟨vc, bc, h1, h2, _⟩ := hvs.get i hu
        have := h2.pure_nil hpu
        subst this
        obtain ⟨bs', fr', h'⟩ := put_ok (b := []) h hN hp h2 hs
        exact ⟨bs', fr', _, w, .inl (by simp [execOp, ho, hx, Instr.extract, h1]), h'⟩
      · cases hs
    · cases hs
  · cases hs

/-! ### new variables -/
def cellTys (P : Program) : Nat → TypeId → List TypeId
  | 0, t => [t]
  | n + 1, t => match P.underlying t with
    | some (.struct fs) => fs.toList.flatMap fun f => cellTys P n f.type
    | some (.array k e) => (List.replicate k (cellTys P n e)).flatten
    | _ => [t]
def zeroC (P : Program) (t : TypeId) : Option (List AV) := match P.info? t with
  | some i => match i.zero with
    | some z => some (z.cells.toList.zipIdx.map fun (v, j) => cv P ((cellTys P 8 t).getD j 0) v)
    | none => none
  | none => none
theorem zeroC_ok {t : TypeId} {cs : List AV} (h : zeroC P t = some cs) (w : World) (F : Nat → Prop) : ∃ z, (zeroValue t).run P w = .ok z w ∧ RVs w F cs z.cells.toList [] := by
  unfold zeroC at h
  split at h
  · rename_i i hi
    split at h
    · rename_i z hz
      obtain rfl := by simpa using h
      refine ⟨z, by simp [zeroValue, typeInfo, hi, hz], ?_⟩
      have key : ∀ (l : List Value) (k : Nat), RVs w F ((l.zipIdx k).map fun (v, j) => cv P ((cellTys P 8 t).getD j 0) v) l [] := by
        intro l
        induction l with
        | nil => intro k; exact .nil
        | cons v l ih => intro k; exact RVs.cons _ v [] _ l [] RV.cv (ih (k + 1))
      exact key _ 0
    · cases h
  · cases h

theorem alloc_new {cells : Array Value} {T : TypeId} {cs : List AV} {b : List Nat} (h : RelX w0 A0 ps F bs (b ++ fr) s a w) (hc : RVs w F cs cells.toList b) :
    RV (w.alloc (.cells cells T)) F (.box cs) (.pointer (some ⟨w.heap.size, 0, none⟩)) (w.heap.size :: b) ∧ RelX w0 A0 ps F bs ((w.heap.size :: b) ++ fr) s a (w.alloc (.cells cells T)) := by
  have hold : ∀ y, y < w.heap.size → (w.alloc (.cells cells T)).heap[y]? = w.heap[y]? := fun y hy => by
    show (w.heap.push _)[y]? = _
    rw [Array.getElem?_push_lt hy]; simp [hy]
  refine ⟨.box cs _ cells T b (by show (w.heap.push _)[w.heap.size]? = _; simp) (hc.keep (fun _ h => h) fun y hy => hold y ?_), ?_⟩
  · rcases hy with hy | hy
    · exact h.frz y hy
    · exact (h.fown y (by simp [hy])).1
  · refine h.world (by simp) (fun y hy _ => hold y hy) ?_ (fun y hy => ?_) rfl rfl rfl
    · rw [List.cons_append, List.nodup_cons]
      exact ⟨fun hm => by have := (h.fown _ hm).1; omega, h.fnd⟩
    · rw [List.cons_append, List.mem_cons] at hy
      rcases hy with rfl | hy
      · simp
      · have := (h.fown y hy).1
        exact ⟨.inl hy, by simp; omega⟩

theorem RVs.ownify {cs : List AV} {vs : List Value} {b : List Nat} (h : RVs w F cs vs b) : RVs w F (cs.map AV.ownify) vs b := by
  match h with
  | .nil => exact .nil
  | .cons a v b as vs bs h hs => exact .cons _ v b _ vs bs h.ownify (RVs.ownify hs)
def aAlloc (P : Program) (c : Cfg) (o : Oper) (t : TypeId) (s : St) : Option St := (zeroC P t).bind fun cs => putD c o (.box (cs.map AV.ownify)) s
theorem aAlloc_ok {t : TypeId} (hs : aAlloc P c o t s = some s') (ho : o.op = .alloc t) : Snd P c o s s' := by
  intro w0 A0 ps F bs fr a w hN hp h
  simp only [aAlloc, Option.bind_eq_some_iff] at hs
  obtain ⟨cs, hcs, hs⟩ := hs
  obtain ⟨z, hz, hzs⟩ := zeroC_ok hcs w F
  obtain ⟨h1, h2⟩ := alloc_new (T := t) (b := []) h (RVs.ownify hzs)
  obtain ⟨bs', fr', h'⟩ := put_ok h2 hN hp h1 hs
  exact ⟨bs', fr', _, _, .inl (by simp [execOp, ho, Instr.alloc, hz, newVar, newRow]), h'⟩

theorem cells_of {x : AV} {v : Value} {b : List Nat} (h : RV w F x v b) (hx : x.cellV = true ∨ ∃ cs, x = .agg cs) : RVs w F x.cellsL v.cells.toList b := by
  rcases hx with hx | ⟨cs, rfl⟩
  · have h1 : x.cellsL = [x] := by cases x <;> first | rfl | (simp [AV.cellV] at hx)
    have h2 := h.one hx
    have h3 : v.cells = #[v] := by cases v <;> first | rfl | (simp [Value.oneCell'] at h2)
    rw [h1, h3]
    simpa using RVs.cons x v b [] [] [] h .nil
  · cases h with
    | agg _ vs _ h => simpa [AV.cellsL, Value.cells] using h
def AV.storable : AV → Bool
  | .agg cs => cs.all AV.cellV
  | x => x.cellV
theorem storable_cells {x : AV} (h : x.storable = true) : (x.cellV = true ∨ ∃ cs, x = .agg cs) ∧ x.cellsL.all AV.cellV = true := by
  cases x <;> first
    | exact ⟨.inr ⟨_, rfl⟩, h⟩
    | exact ⟨.inl h, by simpa [AV.cellsL, AV.storable] using h⟩

def aBox (P : Program) (c : Cfg) (o : Oper) (t : TypeId) (x : Operand) (s : St) : Option St :=
  match (ro P s t x).take with
  | some (v, wr) => if v.storable then putD c o (.box v.cellsL) (s.apply wr) else none
  | none => none
theorem aBox_ok {t : TypeId} {x : Operand} (hs : aBox P c o t x s = some s') (ho : o.op = .box t x) : Snd P c o s s' := by
  intro w0 A0 ps F bs fr a w hN hp h
  unfold aBox at hs
  split at hs
  · rename_i v wr ht
    split at hs
    · rename_i hst
      obtain ⟨b, bs1, hb, h1⟩ := ro_take h _ x ht
      obtain ⟨g1, g2⟩ := alloc_new (T := t) h1 (cells_of hb (storable_cells hst).1)
      obtain ⟨bs', fr', h'⟩ := put_ok g2 hN hp g1 hs
      exact ⟨bs', fr', _, _, .inl (by simp [execOp, ho, Instr.box, newVar, newRow]), h'⟩
    · cases hs
  · cases hs
end
end Go.AM
