/- One of the texts of a proof by an abstract machine over the model. -/
import Derived.Test.YthlhjepijodemaaAmO2
set_option linter.unusedSimpArgs false
set_option linter.unusedVariables false
namespace Go.AM
open Go

def depT : Operand → List Nat
  | .tmp t => [t]
  | _ => []
def hroot (s : St) (t : Nat) : List Nat := match s.get t with
  | .loc r _ => [r]
  | .bor r _ => [r]
  | _ => []
def guardD (ops : Array Oper) (o : Oper) : List Nat := match o.guard with
  | some (j, _) => ((ops[j]?).bind (·.dst)).toList
  | none => []
def deps (ops : Array Oper) (o : Oper) (s : St) : List Nat := guardD ops o ++ (o.op.operands.toList.flatMap fun x => (depT x).flatMap fun t => t :: hroot s t)

theorem ro_congr {P : Program} {s s' : St} (hD : s'.D = s.D) {x : Operand} (h : ∀ t ∈ (depT x).flatMap (fun t => t :: hroot s t), s'.get t = s.get t) (ty : TypeId) : ro P s' ty x = ro P s ty x := by
  cases x with
  | tmp t =>
    have h1 := h t (by simp [depT])
    simp only [ro, h1]
    cases hg : s.get t <;> simp only []
    case loc r p => rw [h r (by simp [depT, hroot, hg]), hD]
    case bor r p => rw [h r (by simp [depT, hroot, hg]), hD]
  | const c => rfl
  | func f => rfl
  | global g => rfl

theorem contsR_congr {ρ ρ' : Rho} : ∀ (l : List (Operand × TypeId)), (∀ x ∈ l, ∀ ty, ρ' ty x.1 = ρ ty x.1) → contsR ρ' l = contsR ρ l
  | [], _ => rfl
  | (x, t) :: r, h => by
    simp only [contsR]
    rw [h (x, t) (by simp) t, contsR_congr r fun y hy => h y (by simp [hy])]
theorem plainR_congr {ρ ρ' : Rho} : ∀ (l : List (Operand × TypeId)), (∀ x ∈ l, ∀ ty, ρ' ty x.1 = ρ ty x.1) → plainR ρ' l = plainR ρ l
  | [], _ => rfl
  | (x, t) :: r, h => by
    have := plainR_congr r fun y hy => h y (by simp [hy])
    simp only [plainR, List.all_cons] at this ⊢
    rw [h (x, t) (by simp) t, this]
theorem purL_congr {ρ ρ' : Rho} : ∀ (l : List Operand), (∀ x ∈ l, ∀ ty, ρ' ty x = ρ ty x) → purL ρ' l = purL ρ l
  | [], _ => rfl
  | x :: r, h => by
    simp only [purL]
    rw [h x (by simp) 0, purL_congr r fun y hy => h y (by simp [hy])]

theorem qv_congr {P : Program} {ρ ρ' : Rho} {o : Oper} (h : ∀ x ∈ o.op.operands.toList, ∀ ty, ρ' ty x = ρ ty x) : qv P ρ' o = qv P ρ o := by
  unfold qv
  split
  case h_9 =>
    rename_i t parts ho
    rw [ho] at h
    rw [purL_congr (parts.toList.map (·.2)) (fun x hx => h x (by simpa [Op.operands] using hx))]
  case h_14 =>
    rename_i args ts ho
    rw [ho] at h
    rw [contsR_congr (args.toList.map fun x => (x, ts.getD 0 0)) (fun x hx => by
      rw [List.mem_map] at hx
      obtain ⟨y, hy, rfl⟩ := hx
      exact h y (by simpa [Op.operands, Call.operands] using hy))]
  all_goals first
    | rfl
    | (rename_i ho
       rw [ho] at h
       simp only [Op.operands, Call.operands] at h
       simp only [List.mem_cons, List.not_mem_nil, or_false, forall_eq_or_imp, forall_eq, List.nil_append, Array.toList_append, List.mem_append, false_or] at h
       first
        | rw [h]
        | rw [h.1, h.2]
        | rw [h.1, h.2.1, h.2.2]
        | (simp only [h])
        | (simp only [h.1, h.2]))

inductive Quiet (P : Program) (c : Cfg) (ops : Array Oper) (o : Oper) (s : St) (d : Nat) (v : AV) : Prop
  | val (hg : guardV ops o s = some true) (hc : callee? o = none) (hv : qv P (ro P s) o = some v) (hd : dOk c s o d v = true)
  | nop (hg : guardV ops o s = some false) (hv : v = .tup []) (hd : dOk c s o d (.tup []) = true)
  | call (hg : guardV ops o s = some true) (f : FuncId) (args : Array Operand) (ts : Array TypeId) (A args' : List AV) (hc : callee? o = some (f, args, ts)) (hf : fnOk P f = true) (hl : args.size = ts.size)
      (hA : conts P s (zipT args ts) = some A) (hoc : OC P f (fzs A) v args') (hs : (scalar v || plainL P s (zipT args ts)) = true) (hd : dOk c s o d v = true)

theorem Quiet.dok {P : Program} {c : Cfg} {ops : Array Oper} {o : Oper} {s : St} {d : Nat} {v : AV} (h : Quiet P c ops o s d v) : dOk c s o d v = true := by
  cases h with
  | val _ _ _ hd => exact hd
  | nop _ hv hd => rw [hv]; exact hd
  | call _ _ _ _ _ _ _ _ _ _ _ _ hd => exact hd

theorem callee_op {o : Oper} {f : FuncId} {args : Array Operand} {ts : Array TypeId} (hc : callee? o = some (f, args, ts)) : o.op = .call { callee := .value (.func f), args := args, argTypes := ts } := by
  unfold callee? at hc
  split at hc
  · rename_i h; rw [h]; simp only [Option.some.injEq, Prod.mk.injEq] at hc; obtain ⟨rfl, rfl, rfl⟩ := hc; rfl
  · cases hc

theorem Quiet.wp {P : Program} {X : Ctx} {c : Cfg} {ops : Array Oper} {o : Oper} {s : St} {d : Nat} {v : AV} {a : Act} {w : World} {K : Act → World → Prop} {Q : Exit → Act → World → Prop}
    (hq : Quiet P c ops o s d v) (h : Rel X c s a w) (hK : ∀ u w', Rel X c (s.put d v) (a.put o.dst u) w' → K (a.put o.dst u) w') :
    if Region.wanted o (yielded ops a.tmps) then o.wp P a w K Q ∨ (o.asks P a w ∧ LetsOut Q) else K (a.put o.dst undef) w := by
  cases hq with
  | val hg hc hv hd =>
    rw [if_pos (guard_ok h hg)]
    exact .inl (step_wp (aStepF_ok (qv_step hv hd)) h hK)
  | nop hg hv hd =>
    subst hv
    rw [if_neg (by rw [guard_ok h hg]; simp)]
    obtain ⟨hN, hp, F, bs, fr, h1, h2, hR⟩ := h
    obtain ⟨bs', fr', h'⟩ := put_ok (b := []) (v := undef) hR hN hp (RV.tup [] [] [] .nil) (dOk_put hd).2
    exact hK _ _ ⟨by rw [size_put]; exact hN, hp, F, bs', fr', h1, h2, h'⟩
  | call hg f args ts A args' hc hf hl hA hoc hs hd =>
    rw [if_pos (guard_ok h hg)]
    exact .inl (call_wp ⟨hf, hl, A, v, args', hA, hoc, hs, (dOk_put hd).2⟩ (callee_op hc) h hK)

theorem Quiet.congr {P : Program} {c : Cfg} {ops : Array Oper} {o : Oper} {s s' : St} {d : Nat} {v : AV} (hq : Quiet P c ops o s d v) (hD : s'.D = s.D) (hvl : s'.vars.length = s.vars.length)
    (hdep : ∀ t ∈ deps ops o s, s'.get t = s.get t) (hd0 : s'.get d = .undef) : Quiet P c ops o s' d v := by
  have hro : ∀ x ∈ o.op.operands.toList, ∀ ty, ro P s' ty x = ro P s ty x := fun x hx ty => ro_congr hD (fun t ht => hdep t (by
    simp only [deps, List.mem_append]; right; rw [List.mem_flatMap]; exact ⟨x, hx, ht⟩)) ty
  have hgd : guardV ops o s' = guardV ops o s := by
    unfold guardV
    cases hg : o.guard with
    | none => rfl
    | some jw =>
      obtain ⟨j, want⟩ := jw
      simp only
      cases hdst : (ops[j]?).bind (·.dst) with
      | none => rfl
      | some d => simp only; rw [hdep d (by simp [deps, guardD, hg, hdst])]
  have hdk : ∀ u, dOk c s o d u = true → dOk c s' o d u = true := by
    intro u hu
    unfold dOk at hu ⊢
    rw [hvl, hd0]
    simp only [Bool.and_eq_true] at hu ⊢
    exact ⟨hu.1, hu.2.1, hu.2.2.1, rfl, hu.2.2.2.2⟩
  cases hq with
  | val hg hc hv hd => exact .val (hgd.trans hg) hc (by rw [qv_congr hro]; exact hv) (hdk _ hd)
  | nop hg hv hd => exact .nop (hgd.trans hg) hv (hdk _ hd)
  | call hg f args ts A args' hc hf hl hA hoc hs hd =>
    have hmem : ∀ x ∈ zipT args ts, ∀ ty, ro P s' ty x.1 = ro P s ty x.1 := fun x hx ty => hro x.1 (by
      rw [callee_op hc]
      have := (List.of_mem_zip hx).1
      simp only [Op.operands, Call.operands, Array.toList_append, List.mem_append]
      exact .inr this) ty
    have e1 : conts P s' (zipT args ts) = conts P s (zipT args ts) := by rw [← contsR_ro, ← contsR_ro]; exact contsR_congr _ hmem
    have e2 : plainL P s' (zipT args ts) = plainL P s (zipT args ts) := plainR_congr (ρ := ro P s) (ρ' := ro P s') _ hmem
    exact .call (hgd.trans hg) f args ts A args' hc hf hl (e1.trans hA) hoc (by rw [e2]; exact hs) (hdk _ hd)

theorem Rel.same {X : Ctx} {c : Cfg} {s s' : St} {a : Act} {w : World} (h : Rel X c s a w) (hg : ∀ t, s'.get t = s.get t) (hD : s'.D = s.D) (hvl : s'.vars.length = s.vars.length) : Rel X c s' a w := by
  obtain ⟨hN, hp, F, bs, fr, h1, h2, hR⟩ := h
  refine ⟨hN, hp, F, bs, fr, h1, h2, { hR with vsz := by rw [hvl]; exact hR.vsz, val := fun t => ?_ }⟩
  have := hR.val t
  rw [hg t]
  unfold SV at this ⊢
  split <;> rename_i hx <;> simp only [hx] at this <;> first | (simp only [hg, hD]; exact this) | exact this
end Go.AM
