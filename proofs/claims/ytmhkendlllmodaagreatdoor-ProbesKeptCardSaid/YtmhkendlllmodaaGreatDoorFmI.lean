/- One of the texts of a proof by an abstract machine over the model. -/
import Derived.Test.YtmhkendlllmodaaGreatDoorFmH
set_option linter.unusedSimpArgs false
set_option linter.unusedVariables false
namespace Go.FM
open Go

section
variable {P : Program} {X : Ctx} {c : Cfg} {w w' : World} {F F' : Nat → Prop} {m m' : Loc → Nat × Nat} {s s' : FS} {a a' : Act} {o : Oper}

/-! ### heads: operations that may come in any order -/
def depT : Operand → List Nat
  | .tmp t => [t]
  | _ => []
def guardD (ops : Array Oper) (o : Oper) : List Nat := match o.guard with
  | some (j, _) => ((ops[j]?).bind (·.dst)).toList
  | none => []
def deps (ops : Array Oper) (o : Oper) : List Nat := guardD ops o ++ o.op.operands.toList.flatMap depT

theorem rv_congr {s2 : FS} {x : Operand} (h : ∀ t ∈ depT x, s2.get t = s.get t) : rv s2 x = rv s x := by
  cases x with
  | tmp t => exact h t (by simp [depT])
  | _ => rfl
theorem rv_deps {ops : Array Oper} {s2 : FS} (h : ∀ t ∈ deps ops o, s2.get t = s.get t) : ∀ x ∈ o.op.operands.toList, rv s2 x = rv s x := fun x hx =>
  rv_congr fun t ht => h t (by simp only [deps, List.mem_append]; right; rw [List.mem_flatMap]; exact ⟨x, hx, ht⟩)
theorem guardV_congr {ops : Array Oper} {s2 : FS} (h : ∀ t ∈ deps ops o, s2.get t = s.get t) : guardV ops o s2 = guardV ops o s := by
  unfold guardV
  cases hg : o.guard with
  | none => rfl
  | some jw =>
    obtain ⟨j, want⟩ := jw
    simp only
    cases hdst : (ops[j]?).bind (·.dst) with
    | none => rfl
    | some d => simp only; rw [h d (by simp [deps, guardD, hg, hdst])]
theorem callee_congr {ops : Array Oper} {s2 : FS} (h : ∀ t ∈ deps ops o, s2.get t = s.get t) : callee? s2 o = callee? s o := by
  have hd := rv_deps h
  unfold callee?
  split
  · rename_i x args ts ho
    rw [ho] at hd
    simp only [Op.operands, Call.operands] at hd
    rw [hd x (by simp)]
    have e : args.toList.map (rv s2) = args.toList.map (rv s) := List.map_congr_left fun y hy => hd y (by simp at hy ⊢; simp [hy])
    rw [e]
  · rfl

/-- an operation that reads what it depends on, puts a value into its slot and makes new blocks -/
def Calm (P : Program) (c : Cfg) (ops : Array Oper) (o : Oper) (s : FS) (d : Nat) (v : FV) (A : Heap) : Prop :=
  o.dst = some d ∧ d < c.N ∧
  ∀ (X : Ctx) (s2 : FS) (a : Act) (w : World) (K : Act → World → Prop) (Q : Exit → Act → World → Prop), (∀ t ∈ deps ops o, s2.get t = s.get t) → s2.ix = s.ix → HSub s.H s2.H → (∀ l, A l ≠ none → s2.H l = none) → Rel X c s2 a w →
    (∀ u w', Rel X c ({ s2 with H := ext s2.H A }.put d v) (a.put o.dst u) w' → K (a.put o.dst u) w') →
    if Region.wanted o (yielded ops a.tmps) then o.wp P a w K Q ∨ (o.asks P a w ∧ LetsOut Q) else K (a.put o.dst undef) w

theorem calm_nop {ops : Array Oper} {d : Nat} (hg : guardV ops o s = some false) (hd : o.dst = some d) (hN : d < c.N) : Calm P c ops o s d (.tup []) noH := by
  refine ⟨hd, hN, fun X s2 a w K Q h1 _ _ _ hR hK => ?_⟩
  rw [if_neg (by rw [guard_ok hR ((guardV_congr h1).trans hg)]; simp)]
  refine hK undef w (skip_ok hR ?_)
  unfold putD
  simp only [hd]
  rw [if_pos hN]; rfl
theorem calm_step {ops : Array Oper} {d : Nat} {v : FV} {A : Heap} (hg : guardV ops o s = some true) (hc : callee? s o = none) (hd : o.dst = some d) (hN : d < c.N)
    (hs : ∀ s2 : FS, (∀ t ∈ deps ops o, s2.get t = s.get t) → s2.ix = s.ix → HSub s.H s2.H → (∀ l, A l ≠ none → s2.H l = none) → fStep P c o s2 = some ({ s2 with H := ext s2.H A }.put d v)) : Calm P c ops o s d v A := by
  refine ⟨hd, hN, fun X s2 a w K Q h1 h2 h3 h4 hR hK => ?_⟩
  rw [if_pos (guard_ok hR ((guardV_congr h1).trans hg))]
  exact .inl (step_wp (fStep_ok (hs s2 h1 h2 h3 h4)) hR hK)
theorem upds_ext (us : List (Loc × FO)) : ∀ (H A : Heap), upds (ext H A) us = ext H (upds A us) := by
  induction us with
  | nil => exact fun _ _ => rfl
  | cons u us ih =>
    intro H A
    have e : upd (ext H A) u.1 u.2 = ext H (upd A u.1 u.2) := by
      funext k
      unfold upd ext
      by_cases e : k = u.1
      · simp [e]
      · simp [e]
    show upds (upd (ext H A) u.1 u.2) us = _
    rw [e, ih]
    rfl
theorem upds_noH (H : Heap) (us : List (Loc × FO)) : upds H us = ext H (upds noH us) := by
  have := upds_ext us H noH
  rwa [ext_noH] at this
theorem upds_mem : ∀ (us : List (Loc × FO)) (H : Heap), ∀ u ∈ us, upds H us u.1 ≠ none
  | [], _, _, h => by cases h
  | x :: us, H, u, h => by
    rcases List.mem_cons.1 h with rfl | h
    · exact upds_ne us (H := upd H u.1 u.2) (by simp [upd])
    · exact upds_mem us _ u h
theorem wv_deps {ops : Array Oper} {s2 : FS} {nm : Loc} {us : List (Loc × FO)} {v : FV} (hv : wv P s.H nm (rv s) o = some (us, v)) (h1 : ∀ t ∈ deps ops o, s2.get t = s.get t) (h3 : HSub s.H s2.H) (h4 : ∀ l, upds noH us l ≠ none → s2.H l = none) : wv P s2.H nm (rv s2) o = some (us, v) := by
  rw [wv_congr (rv_deps h1)]
  exact wv_mono h3 hv fun u hu => h4 _ (upds_mem us _ u hu)
theorem calm_wv {ops : Array Oper} {d : Nat} {us : List (Loc × FO)} {v : FV} (hg : guardV ops o s = some true) (hc : callee? s o = none) (hd : o.dst = some d) (hN : d < c.N) (hv : wv P s.H (c.nm d s.ix) (rv s) o = some (us, v)) : Calm P c ops o s d v (upds noH us) := by
  refine calm_step hg hc hd hN fun s2 h1 h2 h3 h4 => ?_
  have := wv_deps hv h1 h3 h4
  simp only [fStep, hd, Option.getD_some, h2, this, upds_noH s2.H us, putD]
  rw [if_pos hN]
theorem calm_call {ops : Array Oper} {d : Nat} {f : FuncId} {args : List FV} {v : FV} {A : Heap} (hg : guardV ops o s = some true) (hc : callee? s o = some (f, args)) (hf : fnOk P f = true) (hd : o.dst = some d) (hN : d < c.N)
    (hfc : ∀ H2, HSub s.H H2 → (∀ l, A l ≠ none → H2 l = none) → FC P c.G f args H2 v (ext H2 A)) : Calm P c ops o s d v A := by
  refine ⟨hd, hN, fun X s2 a w K Q h1 h2 h3 h4 hR hK => ?_⟩
  rw [if_pos (guard_ok hR ((guardV_congr h1).trans hg))]
  refine .inl (call_wp ((callee_congr h1).trans hc) hf (hfc s2.H h3 h4) ?_ hR hK)
  unfold putD
  simp only [hd]
  rw [if_pos hN]
end
end Go.FM
