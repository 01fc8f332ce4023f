/- One of the texts of a proof by an abstract machine over the model. -/
import Derived.Test.YthlhjepijodemaaAmQ
set_option linter.unusedSimpArgs false
set_option linter.unusedVariables false
namespace Go.AM
open Go

section
variable {P : Program} {c : Cfg}
variable {Q : Exit → St → Prop} {s : St}

theorem aw_seq {x y : Code} (h : awCode P c x (fun e s' => match e with | .normal => awCode P c y Q s' | e => Q e s') s) : awCode P c (.seq x y) Q s := h
theorem aw_region {id : Nat} {ops : Array Oper} (h : ∀ K : St → Prop, (∀ s', Q .normal s' → K s') → awOps P c ops ops.toList (fun s' => noHL s'.vars = true ∧ K (s'.clean (lastDst ops) c.keep)) s) :
    awCode P c (.region id ops false) Q s := h _ fun _ h => h
theorem aw_skip (h : Q .normal s) : awCode P c .skip Q s := h
theorem aw_ret (h : Q .ret s) : awCode P c .ret Q s := h
theorem aw_exit {id : Nat} (h : Q (.exit id) s) : awCode P c (.exit id) Q s := h
theorem aw_cond {x : Operand} {t e : Code} {b : Bool} (hb : condV s x = some b) (ht : b = true → awCode P c t Q s) (he : b = false → awCode P c e Q s) : awCode P c (.cond x t e) Q s := by
  simp only [awCode, hb]
  cases b
  · exact he rfl
  · exact ht rfl
theorem aw_block {id : Nat} {b : Code} (h : awCode P c b (fun e s' => match e with | .exit i => if i = id then Q .normal s' else Q (.exit i) s' | e => Q e s') s) : awCode P c (.block id b) Q s := h
theorem awCode_mono : ∀ (code : Code) (Q Q' : Exit → St → Prop) (s : St), (∀ e s, Q e s → Q' e s) → awCode P c code Q s → awCode P c code Q' s
  | .skip, _, _, s, hQ, h => hQ _ s h
  | .label _, _, _, s, hQ, h => hQ _ s h
  | .region _ ops false, _, _, s, hQ, h => awOps_mono (fun s h => ⟨h.1, hQ _ _ h.2⟩) _ s h
  | .region _ ops true, _, _, s, hQ, h => awDraw_mono (fun s h => ⟨h.1, hQ _ _ h.2⟩) h
  | .seq x y, Q, Q', s, hQ, h => awCode_mono x _ _ s (fun e s' h => by
      cases e with
      | normal => exact awCode_mono y Q Q' s' hQ h
      | _ => exact hQ _ _ h) h
  | .cond x t e, Q, Q', s, hQ, h => by
    simp only [awCode] at h ⊢
    split at h
    · exact awCode_mono t Q Q' s hQ h
    · exact awCode_mono e Q Q' s hQ h
    · exact h
  | .block id b, Q, Q', s, hQ, h => awCode_mono b _ _ s (fun e s' h => by
      cases e with
      | exit i =>
        simp only at h ⊢
        split
        · rename_i e; rw [if_pos e] at h; exact hQ _ _ h
        · rename_i e; rw [if_neg e] at h; exact hQ _ _ h
      | _ => exact hQ _ _ h) h
  | .loop b, Q, Q', s, hQ, h => by
    obtain ⟨I, h0, hr⟩ := h
    exact ⟨I, h0, fun n s hI => awCode_mono b _ _ s (fun e s' h => by
      cases e with
      | normal => exact h
      | _ => exact hQ _ _ h) (hr n s hI)⟩
  | .exit id, _, _, s, hQ, h => hQ _ s h
  | .ret, _, _, s, hQ, h => hQ _ s h
  | .rangeFunc .., _, _, s, hQ, h => (h : False).elim
  | .scope _, _, _, s, hQ, h => (h : False).elim
  | .goto _, _, _, s, hQ, h => (h : False).elim
  | .refuse _, _, _, s, hQ, h => (h : False).elim
/-- a loop: a family of states at its head; each round leads to a smaller one, or out -/
theorem aw_loop {σ : Type} {b : Code} (st : σ → St) (μ : σ → Nat) (x0 : σ) (h0 : (st x0).le s)
    (round : ∀ x, awCode P c b (fun e s' => match e with | .normal => ∃ y, (st y).le s' ∧ μ y < μ x | e => Q e s') (st x)) : awCode P c (.loop b) Q s := by
  refine ⟨fun n s => ∃ x, s = st x ∧ μ x = n, ⟨μ x0, st x0, h0, x0, rfl, rfl⟩, ?_⟩
  rintro n s ⟨x, rfl, rfl⟩
  exact awCode_mono _ _ _ _ (fun e s' h => by
    cases e with
    | normal => obtain ⟨y, hy, hm⟩ := h; exact ⟨μ y, st y, hm, hy, y, rfl, rfl⟩
    | _ => exact h) (round x)
/-! ### how a region is run by simp: it stops at a guard that is not decided, and at a call -/
def StK (P : Program) (c : Cfg) (ops : Array Oper) (rest : List Oper) (K : St → Prop) (s' : Option St) : Prop := match s' with
  | some s' => awOps P c ops rest K s'
  | none => False
def CallK (P : Program) (c : Cfg) (ops : Array Oper) (o : Oper) (rest : List Oper) (K : St → Prop) (s : St) (f : FuncId) (args : Array Operand) (ts : Array TypeId) : Prop := ∃ s', CallR P c o f args ts s s' ∧ awOps P c ops rest K s'
def DoOp (P : Program) (c : Cfg) (ops : Array Oper) (o : Oper) (rest : List Oper) (K : St → Prop) (s : St) (x : Option (FuncId × Array Operand × Array TypeId)) : Prop := match x with
  | some (f, args, ts) => CallK P c ops o rest K s f args ts
  | none => StK P c ops rest K (aStepF P c o s)
def GOp (P : Program) (c : Cfg) (ops : Array Oper) (o : Oper) (rest : List Oper) (K : St → Prop) (s : St) (b : Option Bool) : Prop := match b with
  | some true => DoOp P c ops o rest K s (callee? o)
  | some false => StK P c ops rest K (putD c o (.tup []) s)
  | none => False
theorem awOps_nil {ops : Array Oper} {K : St → Prop} : awOps P c ops [] K s = K s := rfl
theorem awOps_cons {ops : Array Oper} {o : Oper} {rest : List Oper} {K : St → Prop} : awOps P c ops (o :: rest) K s = GOp P c ops o rest K s (guardV ops o s) := by
  unfold GOp DoOp StK CallK
  simp only [awOps]
  cases guardV ops o s with
  | none => rfl
  | some b =>
    cases b
    · rfl
    · simp only
      cases callee? o with
      | none => rfl
      | some x => rfl
theorem GOp_t {ops : Array Oper} {o : Oper} {rest : List Oper} {K : St → Prop} : GOp P c ops o rest K s (some true) = DoOp P c ops o rest K s (callee? o) := rfl
theorem GOp_f {ops : Array Oper} {o : Oper} {rest : List Oper} {K : St → Prop} : GOp P c ops o rest K s (some false) = StK P c ops rest K (putD c o (.tup []) s) := rfl
theorem DoOp_n {ops : Array Oper} {o : Oper} {rest : List Oper} {K : St → Prop} : DoOp P c ops o rest K s none = StK P c ops rest K (aStepF P c o s) := rfl
theorem DoOp_c {ops : Array Oper} {o : Oper} {rest : List Oper} {K : St → Prop} {f : FuncId} {args : Array Operand} {ts : Array TypeId} : DoOp P c ops o rest K s (some (f, args, ts)) = CallK P c ops o rest K s f args ts := rfl
theorem StK_s {ops : Array Oper} {rest : List Oper} {K : St → Prop} {s' : St} : StK P c ops rest K (some s') = awOps P c ops rest K s' := rfl
theorem guard_split {ops : Array Oper} {o : Oper} {rest : List Oper} {K : St → Prop} {b : Bool} (ht : b = true → GOp P c ops o rest K s (some true)) (hf : b = false → GOp P c ops o rest K s (some false)) : GOp P c ops o rest K s (some b) := by
  cases b
  · exact hf rfl
  · exact ht rfl
theorem aw_call {ops : Array Oper} {o : Oper} {rest : List Oper} {K : St → Prop} {f : FuncId} {args : Array Operand} {ts : Array TypeId} {A A' : List AV} {r : AV} {args' : List AV} {s' : St}
    (hoc : OC P f A' r args') (hf : fnOk P f = true) (hA : conts P s (zipT args ts) = some A) (hA' : fzs A = A') (hl : args.size = ts.size)
    (hs : (scalar r || plainL P s (zipT args ts)) = true) (hp : putD c o r s = some s') (h : awOps P c ops rest K s') : CallK P c ops o rest K s f args ts := by
  subst hA'
  exact ⟨s', ⟨hf, hl, A, r, args', hA, hoc, hs, hp⟩, h⟩

/-! ### the same for a region that draws its order -/
def HSt (P : Program) (c : Cfg) (ops : Array Oper) (n k : Nat) (rest : List Oper) (K : St → Prop) (s' : Option St) : Prop := match s' with
  | some s' => awH P c ops n K (k + 1) rest s'
  | none => False
def HCall (P : Program) (c : Cfg) (ops : Array Oper) (n k : Nat) (o : Oper) (rest : List Oper) (K : St → Prop) (s : St) (f : FuncId) (args : Array Operand) (ts : Array TypeId) : Prop :=
  callee? o = some (f, args, ts) → guardV ops o s = some true → ∃ d v, Quiet P c ops o s d v ∧ depsB ops n k o s = true ∧ awH P c ops n K (k + 1) rest (s.put d v)
def hStep (P : Program) (c : Cfg) (ops : Array Oper) (n k : Nat) (o : Oper) (s : St) (v : Option AV) : Option St := match o.dst, v with
  | some d, some v => if dOk c s o d v && depsB ops n k o s then some (s.put d v) else none
  | _, _ => none
def HDo (P : Program) (c : Cfg) (ops : Array Oper) (n k : Nat) (o : Oper) (rest : List Oper) (K : St → Prop) (s : St) (x : Option (FuncId × Array Operand × Array TypeId)) : Prop := match x with
  | some (f, args, ts) => HCall P c ops n k o rest K s f args ts
  | none => HSt P c ops n k rest K (hStep P c ops n k o s (qv P (ro P s) o))
def HOp (P : Program) (c : Cfg) (ops : Array Oper) (n k : Nat) (o : Oper) (rest : List Oper) (K : St → Prop) (s : St) (b : Option Bool) : Prop := match b with
  | some true => HDo P c ops n k o rest K s (callee? o)
  | some false => HSt P c ops n k rest K (hStep P c ops n k o s (some (.tup [])))
  | none => False
theorem hStep_ok {ops : Array Oper} {n k : Nat} {o : Oper} {v : Option AV} {s' : St} (h : hStep P c ops n k o s v = some s') : ∃ d u, v = some u ∧ dOk c s o d u = true ∧ depsB ops n k o s = true ∧ s' = s.put d u := by
  unfold hStep at h
  split at h
  · rename_i d u hd
    split at h
    · rename_i hc
      rw [Bool.and_eq_true] at hc
      exact ⟨d, u, rfl, hc.1, hc.2, by simpa using h.symm⟩
    · cases h
  · cases h
theorem awH_op {ops : Array Oper} {n k : Nat} {o : Oper} {rest : List Oper} {K : St → Prop} (hk : k < n) (h : HOp P c ops n k o rest K s (guardV ops o s)) : awH P c ops n K k (o :: rest) s := by
  simp only [awH, hk, if_true]
  unfold HOp HDo HSt at h
  cases hg : guardV ops o s with
  | none => rw [hg] at h; exact h.elim
  | some b =>
    rw [hg] at h
    cases b
    · simp only at h
      split at h
      · rename_i s' hs
        obtain ⟨d, u, hu, h1, h2, rfl⟩ := hStep_ok hs
        have : u = .tup [] := by simpa using hu.symm
        subst this
        exact ⟨d, _, .nop hg rfl h1, h2, h⟩
      · exact h.elim
    · simp only at h
      cases hc : callee? o with
      | none =>
        rw [hc] at h
        simp only at h
        split at h
        · rename_i s' hs
          obtain ⟨d, u, hu, h1, h2, rfl⟩ := hStep_ok hs
          exact ⟨d, u, .val hg hc hu h1, h2, h⟩
        · exact h.elim
      | some x =>
        rw [hc] at h
        exact h hc hg
theorem awH_tail {ops : Array Oper} {n k : Nat} {l : List Oper} {K : St → Prop} (hk : ¬ k < n) (h : awOps P c ops l K s) : awH P c ops n K k l s := by
  cases l with
  | nil => exact h
  | cons o rest => simp only [awH, hk, if_false]; exact h
theorem HOp_t {ops : Array Oper} {n k : Nat} {o : Oper} {rest : List Oper} {K : St → Prop} : HOp P c ops n k o rest K s (some true) = HDo P c ops n k o rest K s (callee? o) := rfl
theorem HOp_f {ops : Array Oper} {n k : Nat} {o : Oper} {rest : List Oper} {K : St → Prop} : HOp P c ops n k o rest K s (some false) = HSt P c ops n k rest K (hStep P c ops n k o s (some (.tup []))) := rfl
theorem HDo_n {ops : Array Oper} {n k : Nat} {o : Oper} {rest : List Oper} {K : St → Prop} : HDo P c ops n k o rest K s none = HSt P c ops n k rest K (hStep P c ops n k o s (qv P (ro P s) o)) := rfl
theorem HDo_c {ops : Array Oper} {n k : Nat} {o : Oper} {rest : List Oper} {K : St → Prop} {f : FuncId} {args : Array Operand} {ts : Array TypeId} : HDo P c ops n k o rest K s (some (f, args, ts)) = HCall P c ops n k o rest K s f args ts := rfl
theorem hguard_split {ops : Array Oper} {n k : Nat} {o : Oper} {rest : List Oper} {K : St → Prop} {b : Bool} (ht : b = true → HOp P c ops n k o rest K s (some true)) (hf : b = false → HOp P c ops n k o rest K s (some false)) : HOp P c ops n k o rest K s (some b) := by
  cases b
  · exact hf rfl
  · exact ht rfl
theorem aw_draw {id : Nat} {ops : Array Oper} (n : Nat) (hm : P.follows .mixedOrders = true) (hB : drawB ops n = true)
    (h : ∀ K : St → Prop, (∀ s', Q .normal s' → K s') → awH P c ops n (fun s' => noHL s'.vars = true ∧ K (s'.clean (lastDst ops) c.keep)) 0 ops.toList s) : awCode P c (.region id ops true) Q s :=
  ⟨hm, .inl ⟨n, hB, h _ fun _ h => h⟩⟩
theorem hcall {ops : Array Oper} {n k : Nat} {o : Oper} {rest : List Oper} {K : St → Prop} {f : FuncId} {args : Array Operand} {ts : Array TypeId} {A A' : List AV} {r : AV} {args' : List AV} {d : Nat}
    (hoc : OC P f A' r args') (hf : fnOk P f = true) (hA : conts P s (zipT args ts) = some A) (hA' : fzs A = A') (hl : args.size = ts.size)
    (hs : (scalar r || plainL P s (zipT args ts)) = true) (hd : dOk c s o d r = true) (hdep : depsB ops n k o s = true) (h : awH P c ops n K (k + 1) rest (s.put d r)) : HCall P c ops n k o rest K s f args ts := by
  subst hA'
  exact fun hc hg => ⟨d, r, .call hg f args ts A args' hc hf hl hA hoc hs hd, hdep, h⟩
end
end Go.AM
