/- One of the texts of a proof by an abstract machine over the model. -/
import Derived.Test.YthlhjepijodemaaAmS
set_option linter.unusedSimpArgs false
set_option linter.unusedVariables false
namespace Go.AM
open Go

section
variable {P : Program} {c : Cfg}
variable {Q : Exit → St → Prop} {s : St} {K : St → Prop}

/-! ### a guard that is decided, and one that isn't -/
theorem gop_t {ops : Array Oper} {o : Oper} {rest : List Oper} (h : DoOp P c ops o rest K s (callee? o)) : GOp P c ops o rest K s (some true) := h
theorem gop_f {ops : Array Oper} {o : Oper} {rest : List Oper} (h : StK P c ops rest K (putD c o (.tup []) s)) : GOp P c ops o rest K s (some false) := h
theorem gsplit {ops : Array Oper} {o : Oper} {rest : List Oper} {b : Bool} (ht : b = true → DoOp P c ops o rest K s (callee? o)) (hf : b = false → StK P c ops rest K (putD c o (.tup []) s)) : GOp P c ops o rest K s (some b) := by
  cases b
  · exact hf rfl
  · exact ht rfl
theorem gsplit_n {ops : Array Oper} {o : Oper} {rest : List Oper} {b : Bool} (ht : b = false → DoOp P c ops o rest K s (callee? o)) (hf : b = true → StK P c ops rest K (putD c o (.tup []) s)) : GOp P c ops o rest K s (some !b) := by
  cases b
  · exact ht rfl
  · exact hf rfl
/-! ### a branch, its arms out of sight -/
def KT (P : Program) (c : Cfg) (x : Code) (Q : Exit → St → Prop) (T : St → Prop) : Prop := ∀ s, awCode P c x Q s → T s
theorem KT.go {x : Code} {T : St → Prop} (h : KT P c x Q T) (hq : awCode P c x Q s) : T s := h _ hq
def CondG (T E : St → Prop) (s : St) (b : Option Bool) : Prop := match b with
  | some true => T s
  | some false => E s
  | none => False
theorem aw_cnd {x : Operand} {t e : Code} (h : ∀ T E : St → Prop, KT P c t Q T → KT P c e Q E → CondG T E s (condV s x)) : awCode P c (.cond x t e) Q s := by
  have := h _ _ (fun _ h => h) (fun _ h => h)
  simp only [awCode]
  unfold CondG at this
  cases hc : condV s x with
  | none => rw [hc] at this; exact this
  | some b => rw [hc] at this; cases b <;> exact this
theorem cond_t {T E : St → Prop} (h : T s) : CondG T E s (some true) := h
theorem cond_f {T E : St → Prop} (h : E s) : CondG T E s (some false) := h
theorem cond_b {T E : St → Prop} {b : Bool} (ht : b = true → T s) (hf : b = false → E s) : CondG T E s (some b) := by
  cases b
  · exact hf rfl
  · exact ht rfl
theorem cond_n {T E : St → Prop} {b : Bool} (ht : b = false → T s) (hf : b = true → E s) : CondG T E s (some !b) := by
  cases b
  · exact ht rfl
  · exact hf rfl

/-! ### the same where the truth value is a decided proposition -/
theorem gsplit_d {ops : Array Oper} {o : Oper} {rest : List Oper} {p : Prop} [Decidable p] (ht : p → DoOp P c ops o rest K s (callee? o)) (hf : ¬ p → StK P c ops rest K (putD c o (.tup []) s)) : GOp P c ops o rest K s (some (decide p)) :=
  gsplit (fun h => ht (of_decide_eq_true h)) (fun h => hf (of_decide_eq_false h))
theorem gsplit_nd {ops : Array Oper} {o : Oper} {rest : List Oper} {p : Prop} [Decidable p] (ht : ¬ p → DoOp P c ops o rest K s (callee? o)) (hf : p → StK P c ops rest K (putD c o (.tup []) s)) : GOp P c ops o rest K s (some !decide p) :=
  gsplit_n (fun h => ht (of_decide_eq_false h)) (fun h => hf (of_decide_eq_true h))
theorem cond_d {T E : St → Prop} {p : Prop} [Decidable p] (ht : p → T s) (hf : ¬ p → E s) : CondG T E s (some (decide p)) := cond_b (fun h => ht (of_decide_eq_true h)) (fun h => hf (of_decide_eq_false h))
theorem cond_nd {T E : St → Prop} {p : Prop} [Decidable p] (ht : ¬ p → T s) (hf : p → E s) : CondG T E s (some !decide p) := cond_n (fun h => ht (of_decide_eq_false h)) (fun h => hf (of_decide_eq_true h))
theorem min_if (a b : Int) : (if b < a then b else a) = min a b := by omega

/-! ### a head of a region that draws: what it depends on is looked at apart -/
def hStepB (c : Cfg) (B : Bool) (o : Oper) (s : St) (v : Option AV) : Option St := match o.dst, v with
  | some d, some v => if dOk c s o d v && B then some (s.put d v) else none
  | _, _ => none
theorem hStepB_eq {ops : Array Oper} {n k : Nat} {o : Oper} {v : Option AV} (h : depsB ops n k o s = true) : hStepB c true o s v = hStep P c ops n k o s v := by
  unfold hStepB hStep
  rw [h]
  split
  · split <;> simp_all
  · split <;> simp_all
def HCallB (P : Program) (c : Cfg) (ops : Array Oper) (n k : Nat) (B : Bool) (o : Oper) (rest : List Oper) (K : St → Prop) (s : St) (f : FuncId) (b pl : Bool) (A : Option (List AV)) : Prop :=
  b = true ∧ ∃ A0, A = some A0 ∧ ∃ r args', OC P f A0 r args' ∧ (scalar r || pl) = true ∧ HSt P c ops n k rest K (hStepB c B o s (some r))
def HKB (P : Program) (c : Cfg) (ops : Array Oper) (n k : Nat) (B : Bool) (o : Oper) (rest : List Oper) (K : St → Prop) (s : St) (x : Option (FuncId × Array Operand × Array TypeId)) : Prop := match x with
  | some (f, args, ts) => HCallB P c ops n k B o rest K s f (fnOk P f && decide (args.size = ts.size)) (plainL P s (zipT args ts)) ((conts P s (zipT args ts)).map fzs)
  | none => HSt P c ops n k rest K (hStepB c B o s (qv P (ro P s) o))
def HGB (P : Program) (c : Cfg) (ops : Array Oper) (n k : Nat) (B : Bool) (o : Oper) (rest : List Oper) (K : St → Prop) (s : St) (b : Option Bool) : Prop := match b with
  | some true => HKB P c ops n k B o rest K s (callee? o)
  | some false => HSt P c ops n k rest K (hStepB c B o s (some (.tup [])))
  | none => False
theorem awH_goB {ops : Array Oper} {n k : Nat} {o : Oper} {rest : List Oper} (hk : k < n) (hd : depsB ops n k o s = true) (h : HGB P c ops n k true o rest K s (guardV ops o s)) : awH P c ops n K k (o :: rest) s := by
  refine awH_go hk ?_
  unfold HGB HKB HCallB at h
  unfold HG HKall HCallG
  simp only [hStepB_eq (P := P) (c := c) hd] at h
  exact h
theorem HGB_t {ops : Array Oper} {n k : Nat} {B : Bool} {o : Oper} {rest : List Oper} : HGB P c ops n k B o rest K s (some true) = HKB P c ops n k B o rest K s (callee? o) := rfl
theorem HGB_f {ops : Array Oper} {n k : Nat} {B : Bool} {o : Oper} {rest : List Oper} : HGB P c ops n k B o rest K s (some false) = HSt P c ops n k rest K (hStepB c B o s (some (.tup []))) := rfl
theorem HKB_n {ops : Array Oper} {n k : Nat} {B : Bool} {o : Oper} {rest : List Oper} : HKB P c ops n k B o rest K s none = HSt P c ops n k rest K (hStepB c B o s (qv P (ro P s) o)) := rfl
theorem HKB_c {ops : Array Oper} {n k : Nat} {B : Bool} {o : Oper} {rest : List Oper} {f : FuncId} {args : Array Operand} {ts : Array TypeId} : HKB P c ops n k B o rest K s (some (f, args, ts)) =
  HCallB P c ops n k B o rest K s f (fnOk P f && decide (args.size = ts.size)) (plainL P s (zipT args ts)) ((conts P s (zipT args ts)).map fzs) := rfl
theorem hcallB_go {ops : Array Oper} {n k : Nat} {B : Bool} {o : Oper} {rest : List Oper} {f : FuncId} {pl : Bool} {A : List AV} {r : AV} {args' : List AV} (hoc : OC P f A r args') (hs : (scalar r || pl) = true)
    (h : HSt P c ops n k rest K (hStepB c B o s (some r))) : HCallB P c ops n k B o rest K s f true pl (some A) := ⟨rfl, A, rfl, r, args', hoc, hs, h⟩
theorem hb_t {ops : Array Oper} {n k : Nat} {B : Bool} {o : Oper} {rest : List Oper} (h : HKB P c ops n k B o rest K s (callee? o)) : HGB P c ops n k B o rest K s (some true) := h
theorem hb_f {ops : Array Oper} {n k : Nat} {B : Bool} {o : Oper} {rest : List Oper} (h : HSt P c ops n k rest K (hStepB c B o s (some (.tup [])))) : HGB P c ops n k B o rest K s (some false) := h
theorem hbsplit {ops : Array Oper} {n k : Nat} {B : Bool} {o : Oper} {rest : List Oper} {b : Bool} (ht : b = true → HKB P c ops n k B o rest K s (callee? o)) (hf : b = false → HSt P c ops n k rest K (hStepB c B o s (some (.tup [])))) :
    HGB P c ops n k B o rest K s (some b) := by
  cases b
  · exact hf rfl
  · exact ht rfl
theorem hbsplit_n {ops : Array Oper} {n k : Nat} {B : Bool} {o : Oper} {rest : List Oper} {b : Bool} (ht : b = false → HKB P c ops n k B o rest K s (callee? o)) (hf : b = true → HSt P c ops n k rest K (hStepB c B o s (some (.tup [])))) :
    HGB P c ops n k B o rest K s (some !b) := by
  cases b
  · exact ht rfl
  · exact hf rfl
theorem hbsplit_d {ops : Array Oper} {n k : Nat} {B : Bool} {o : Oper} {rest : List Oper} {p : Prop} [Decidable p] (ht : p → HKB P c ops n k B o rest K s (callee? o)) (hf : ¬ p → HSt P c ops n k rest K (hStepB c B o s (some (.tup [])))) :
    HGB P c ops n k B o rest K s (some (decide p)) := hbsplit (fun h => ht (of_decide_eq_true h)) (fun h => hf (of_decide_eq_false h))
theorem hbsplit_nd {ops : Array Oper} {n k : Nat} {B : Bool} {o : Oper} {rest : List Oper} {p : Prop} [Decidable p] (ht : ¬ p → HKB P c ops n k B o rest K s (callee? o)) (hf : p → HSt P c ops n k rest K (hStepB c B o s (some (.tup [])))) :
    HGB P c ops n k B o rest K s (some !decide p) := hbsplit_n (fun h => ht (of_decide_eq_false h)) (fun h => hf (of_decide_eq_true h))
/-- a region that draws, where head 'j' may come behind the tail's first operation: both ways are walked -/
theorem aw_late {id : Nat} {ops : Array Oper} (n j : Nat) (hm : P.follows .mixedOrders = true) (hB : lateB ops n j = true)
    (h : ∀ K : St → Prop, Kont Q K → awH P c ops n (LateK P c ops n j (Fend c.keep ops K)) 0 (ops.toList.take n) s) : awCode P c (.region id ops true) Q s := ⟨hm, .inr ⟨n, j, hB, h _ fun _ h => h⟩⟩
theorem late_go {ops : Array Oper} {n j : Nat} (on oj : Oper) (dj : Nat) (h1 : ops[n]? = some on) (h2 : ops[j]? = some oj) (h3 : oj.dst = some dj) (hA : awOps P c ops (ops.toList.drop n) K s)
    (hB : awOps P c ops (on :: oj :: ops.toList.drop (n + 1)) K (s.put dj .undef)) : LateK P c ops n j K s := ⟨hA, on, oj, dj, h1, h2, h3, hB⟩
theorem awH_nil {ops : Array Oper} {n k : Nat} (h : K s) : awH P c ops n K k [] s := h
end
end Go.AM
