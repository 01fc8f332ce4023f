/- One of the texts of a proof by an abstract machine over the model. -/
import Derived.Test.YthlhjepijodemaaAmR
set_option linter.unusedSimpArgs false
set_option linter.unusedVariables false
namespace Go.AM
open Go

section
variable {P : Program} {c : Cfg}
variable {Q : Exit → St → Prop} {s : St} {K : St → Prop}

/-! ### the driver's forms: every goal has a constant at its head, and the rest of the code is out of sight -/
def Kont (Q : Exit → St → Prop) (K : St → Prop) : Prop := ∀ s', Q .normal s' → K s'
theorem Kont.go (h : Kont Q K) (hq : Q .normal s) : K s := h _ hq
def Fend (keep : List Nat) (ops : Array Oper) (K : St → Prop) (s : St) : Prop := noHL s.vars = true ∧ K (s.clean (lastDst ops) keep)
theorem aw_reg {id : Nat} {ops : Array Oper} (h : ∀ K : St → Prop, Kont Q K → awOps P c ops ops.toList (Fend c.keep ops K) s) : awCode P c (.region id ops false) Q s := h _ fun _ h => h
theorem aw_dr {id : Nat} {ops : Array Oper} (n : Nat) (hm : P.follows .mixedOrders = true) (hB : drawB ops n = true)
    (h : ∀ K : St → Prop, Kont Q K → awH P c ops n (Fend c.keep ops K) 0 ops.toList s) : awCode P c (.region id ops true) Q s := ⟨hm, .inl ⟨n, hB, h _ fun _ h => h⟩⟩
def KSeq (P : Program) (c : Cfg) (y : Code) (Q : Exit → St → Prop) (e : Exit) (s' : St) : Prop := match e with
  | .normal => awCode P c y Q s'
  | e => Q e s'
theorem aw_sq {x y : Code} (h : awCode P c x (KSeq P c y Q) s) : awCode P c (.seq x y) Q s := h
theorem kseq {y : Code} (h : awCode P c y Q s) : KSeq P c y Q .normal s := h
theorem kseq_r {y : Code} (h : Q .ret s) : KSeq P c y Q .ret s := h
theorem kseq_e {y : Code} {i : Nat} (h : Q (.exit i) s) : KSeq P c y Q (.exit i) s := h
def KBlk (id : Nat) (Q : Exit → St → Prop) (e : Exit) (s' : St) : Prop := match e with
  | .exit i => if i = id then Q .normal s' else Q (.exit i) s'
  | e => Q e s'
theorem aw_blk {id : Nat} {b : Code} (h : awCode P c b (KBlk id Q) s) : awCode P c (.block id b) Q s := h
theorem kblk {id : Nat} (h : Q .normal s) : KBlk id Q .normal s := h
theorem kblk_r {id : Nat} (h : Q .ret s) : KBlk id Q .ret s := h
theorem kblk_hit {id : Nat} (h : Q .normal s) : KBlk id Q (.exit id) s := by simp only [KBlk, if_true]; exact h
theorem kblk_miss {id i : Nat} (hne : (i == id) = false) (h : Q (.exit i) s) : KBlk id Q (.exit i) s := by
  have : i ≠ id := by simpa using hne
  simp only [KBlk, this, if_false]; exact h
theorem aw_ct {x : Operand} {t e : Code} (hb : condV s x = some true) (h : awCode P c t Q s) : awCode P c (.cond x t e) Q s := by simp only [awCode, hb]; exact h
theorem aw_cf {x : Operand} {t e : Code} (hb : condV s x = some false) (h : awCode P c e Q s) : awCode P c (.cond x t e) Q s := by simp only [awCode, hb]; exact h
def KLoop {σ : Type} (st : σ → St) (μ : σ → Nat) (x : σ) (Q : Exit → St → Prop) (e : Exit) (s' : St) : Prop := match e with
  | .normal => ∃ y, (st y).le s' ∧ μ y < μ x
  | e => Q e s'
theorem aw_lp {σ : Type} {b : Code} (st : σ → St) (μ : σ → Nat) (x0 : σ) (h0 : (st x0).le s) (round : ∀ x, awCode P c b (KLoop st μ x Q) (st x)) : awCode P c (.loop b) Q s :=
  aw_loop st μ x0 h0 fun x => awCode_mono _ _ _ _ (fun e s' h => by cases e <;> exact h) (round x)
theorem kloop {σ : Type} {st : σ → St} {μ : σ → Nat} {x : σ} (y : σ) (h : (st y).le s) (hm : μ y < μ x) : KLoop st μ x Q .normal s := ⟨y, h, hm⟩
theorem kloop_r {σ : Type} {st : σ → St} {μ : σ → Nat} {x : σ} (h : Q .ret s) : KLoop st μ x Q .ret s := h
theorem kloop_e {σ : Type} {st : σ → St} {μ : σ → Nat} {x : σ} {i : Nat} (h : Q (.exit i) s) : KLoop st μ x Q (.exit i) s := h
/-- a state that is a weaker one than another -/
def leL : List AV → List AV → Prop
  | [], [] => True
  | a :: as, b :: bs => (a.isH = false ∧ (a = .undef ∨ a = b)) ∧ leL as bs
  | _, _ => False
theorem leL_len : ∀ {as bs : List AV}, leL as bs → as.length = bs.length
  | [], [], _ => rfl
  | _ :: _, _ :: _, h => by simp [leL_len h.2]
  | [], _ :: _, h => h.elim
  | _ :: _, [], h => h.elim
theorem leL_get : ∀ {as bs : List AV}, leL as bs → ∀ t, (as.getD t .undef).isH = false ∧ (as.getD t .undef = .undef ∨ as.getD t .undef = bs.getD t .undef)
  | [], [], _, t => by simp [AV.isH]
  | a :: as, b :: bs, h, 0 => by simpa using h.1
  | a :: as, b :: bs, h, t + 1 => by simpa using leL_get h.2 t
  | [], _ :: _, h, _ => h.elim
  | _ :: _, [], h, _ => h.elim
theorem le_of {vs1 vs : List AV} {tm : Asg} {D : List (Nat × Nat)} (h : leL vs1 vs) : (St.mk vs1 [] []).le ⟨vs, tm, D⟩ := by
  refine ⟨leL_len h, fun t => ?_, rfl⟩
  have hl := leL_len h
  unfold St.get
  simp only
  rw [← hl]
  split
  · exact leL_get h t
  · simp [lk, AV.isH]
theorem leL_refl {vs : List AV} (h : noHL vs = true) : leL vs vs := by
  induction vs with
  | nil => trivial
  | cons a as ih =>
    simp only [noHL, List.all_cons, Bool.and_eq_true, Bool.not_eq_true'] at h
    exact ⟨⟨h.1, .inr rfl⟩, ih (by simpa [noHL] using h.2)⟩
/-- the end of a function that keeps nothing of its arguments -/
def KEnd (P : Program) (res : List ResultVar) (r : AV) (e : Exit) (s : St) : Prop := (e = .normal ∨ e = .ret) ∧ ∃ l, resL P s res = some l ∧ fz (tupOf l) = r
theorem kend_r {res : List ResultVar} {r : AV} (h : (resL P s res).map (fun l => fz (tupOf l)) = some r) : KEnd P res r .ret s := by
  obtain ⟨l, hl, hr⟩ := Option.map_eq_some_iff.1 h
  exact ⟨.inr rfl, l, hl, hr⟩
theorem kend_n {res : List ResultVar} {r : AV} (h : (resL P s res).map (fun l => fz (tupOf l)) = some r) : KEnd P res r .normal s := by
  obtain ⟨l, hl, hr⟩ := Option.map_eq_some_iff.1 h
  exact ⟨.inl rfl, l, hl, hr⟩
theorem gone_ret (args : List AV) (s : St) : gone args = retArgs [] s args.length := by
  unfold gone retArgs
  refine List.ext_getElem (by simp) fun i h1 h2 => by simp
theorem OC_pure {f : FuncId} {fn : Func} {code : Code} {res : List ResultVar} (nv n : Nat) (keep : List Nat) {args : List AV} {r : AV} (hf : P.funcs[f]? = some fn) (hb : fn.body = some code)
    (hn : fn.ntmps = n) (hres : fn.results.toList = res)
    (hargs : args.length ≤ nv) (hnv : nv ≤ n) (hd : (resSlots res).Nodup)
    (h : awCode P ⟨n, [], keep⟩ code (KEnd P res r) (St.init nv args)) : OC P f args r (gone args) := by
  subst hn hres
  refine OCP.frz (OCP_of (c := ⟨fn.ntmps, [], keep⟩) hf hb rfl hargs hnv (by simpa using hd) (awCode_mono code _ _ _ (fun e s h => ?_) h))
  obtain ⟨he, l, hl, hr⟩ := h
  exact ⟨he, l, hl, hr, gone_ret args s, rfl⟩

/-! ### calls, as simp leaves them -/
def CallG (P : Program) (c : Cfg) (ops : Array Oper) (o : Oper) (rest : List Oper) (K : St → Prop) (s : St) (f : FuncId) (b pl : Bool) (A : Option (List AV)) : Prop :=
  b = true ∧ ∃ A0, A = some A0 ∧ ∃ r args', OC P f A0 r args' ∧ (scalar r || pl) = true ∧ StK P c ops rest K (putD c o r s)
theorem DoOp_call {ops : Array Oper} {o : Oper} {rest : List Oper} {f : FuncId} {args : Array Operand} {ts : Array TypeId} :
    DoOp P c ops o rest K s (some (f, args, ts)) = CallG P c ops o rest K s f (fnOk P f && decide (args.size = ts.size)) (plainL P s (zipT args ts)) ((conts P s (zipT args ts)).map fzs) := by
  refine propext ⟨?_, ?_⟩
  · rintro ⟨s', ⟨h1, h2, A, r, args', h3, h4, h5, h6⟩, h⟩
    refine ⟨by simp [h1, h2], fzs A, by rw [h3]; rfl, r, args', h4, h5, ?_⟩
    rw [h6]; exact h
  · rintro ⟨hb, A0, hA, r, args', h4, h5, h6⟩
    simp only [Bool.and_eq_true, decide_eq_true_eq] at hb
    cases hc : conts P s (zipT args ts) with
    | none => rw [hc] at hA; cases hA
    | some A =>
      rw [hc] at hA
      simp only [Option.map_some, Option.some.injEq] at hA
      subst hA
      cases hp : putD c o r s with
      | none => rw [hp] at h6; exact h6.elim
      | some s' =>
        rw [hp] at h6
        exact ⟨s', ⟨hb.1, hb.2, A, r, args', hc, h4, h5, hp⟩, h6⟩
theorem call_go {ops : Array Oper} {o : Oper} {rest : List Oper} {f : FuncId} {pl : Bool} {A : List AV} {r : AV} {args' : List AV} (hoc : OC P f A r args') (hs : (scalar r || pl) = true)
    (h : StK P c ops rest K (putD c o r s)) : CallG P c ops o rest K s f true pl (some A) := ⟨rfl, A, rfl, r, args', hoc, hs, h⟩
def HCallG (P : Program) (c : Cfg) (ops : Array Oper) (n k : Nat) (o : Oper) (rest : List Oper) (K : St → Prop) (s : St) (f : FuncId) (b pl : Bool) (A : Option (List AV)) : Prop :=
  b = true ∧ ∃ A0, A = some A0 ∧ ∃ r args', OC P f A0 r args' ∧ (scalar r || pl) = true ∧ HSt P c ops n k rest K (hStep P c ops n k o s (some r))
def HKall (P : Program) (c : Cfg) (ops : Array Oper) (n k : Nat) (o : Oper) (rest : List Oper) (K : St → Prop) (s : St) (x : Option (FuncId × Array Operand × Array TypeId)) : Prop := match x with
  | some (f, args, ts) => HCallG P c ops n k o rest K s f (fnOk P f && decide (args.size = ts.size)) (plainL P s (zipT args ts)) ((conts P s (zipT args ts)).map fzs)
  | none => HSt P c ops n k rest K (hStep P c ops n k o s (qv P (ro P s) o))
/-- a head's step, for simp -/
def HG (P : Program) (c : Cfg) (ops : Array Oper) (n k : Nat) (o : Oper) (rest : List Oper) (K : St → Prop) (s : St) (b : Option Bool) : Prop := match b with
  | some true => HKall P c ops n k o rest K s (callee? o)
  | some false => HSt P c ops n k rest K (hStep P c ops n k o s (some (.tup [])))
  | none => False
theorem awH_go {ops : Array Oper} {n k : Nat} {o : Oper} {rest : List Oper} (hk : k < n) (h : HG P c ops n k o rest K s (guardV ops o s)) : awH P c ops n K k (o :: rest) s := by
  refine awH_op hk ?_
  unfold HOp HDo
  unfold HG HKall at h
  cases hg : guardV ops o s with
  | none => rw [hg] at h; exact h
  | some b =>
    rw [hg] at h
    cases b
    · exact h
    · simp only at h ⊢
      cases hc : callee? o with
      | none => rw [hc] at h; exact h
      | some x =>
        rw [hc] at h
        obtain ⟨f, args, ts⟩ := x
        simp only at h ⊢
        obtain ⟨hb, A0, hA, r, args', h4, h5, h6⟩ := h
        simp only [Bool.and_eq_true, decide_eq_true_eq] at hb
        cases hcc : conts P s (zipT args ts) with
        | none => rw [hcc] at hA; cases hA
        | some A =>
          rw [hcc] at hA
          simp only [Option.map_some, Option.some.injEq] at hA
          subst hA
          unfold HSt at h6
          split at h6
          · rename_i s' hs
            obtain ⟨d, u, hu, h1, h2, rfl⟩ := hStep_ok hs
            simp only [Option.some.injEq] at hu
            subst hu
            exact hcall h4 hb.1 hcc rfl hb.2 h5 h1 h2 h6
          · exact h6.elim
theorem HG_t {ops : Array Oper} {n k : Nat} {o : Oper} {rest : List Oper} : HG P c ops n k o rest K s (some true) = HKall P c ops n k o rest K s (callee? o) := rfl
theorem HG_f {ops : Array Oper} {n k : Nat} {o : Oper} {rest : List Oper} : HG P c ops n k o rest K s (some false) = HSt P c ops n k rest K (hStep P c ops n k o s (some (.tup []))) := rfl
theorem HKall_n {ops : Array Oper} {n k : Nat} {o : Oper} {rest : List Oper} : HKall P c ops n k o rest K s none = HSt P c ops n k rest K (hStep P c ops n k o s (qv P (ro P s) o)) := rfl
theorem HKall_c {ops : Array Oper} {n k : Nat} {o : Oper} {rest : List Oper} {f : FuncId} {args : Array Operand} {ts : Array TypeId} : HKall P c ops n k o rest K s (some (f, args, ts)) =
  HCallG P c ops n k o rest K s f (fnOk P f && decide (args.size = ts.size)) (plainL P s (zipT args ts)) ((conts P s (zipT args ts)).map fzs) := rfl
theorem HSt_s {ops : Array Oper} {n k : Nat} {rest : List Oper} {s' : St} : HSt P c ops n k rest K (some s') = awH P c ops n K (k + 1) rest s' := rfl
theorem hcall_go {ops : Array Oper} {n k : Nat} {o : Oper} {rest : List Oper} {f : FuncId} {pl : Bool} {A : List AV} {r : AV} {args' : List AV} (hoc : OC P f A r args') (hs : (scalar r || pl) = true)
    (h : HSt P c ops n k rest K (hStep P c ops n k o s (some r))) : HCallG P c ops n k o rest K s f true pl (some A) := ⟨rfl, A, rfl, r, args', hoc, hs, h⟩
theorem hg_split {ops : Array Oper} {n k : Nat} {o : Oper} {rest : List Oper} {b : Bool} (ht : b = true → HG P c ops n k o rest K s (some true)) (hf : b = false → HG P c ops n k o rest K s (some false)) : HG P c ops n k o rest K s (some b) := by
  cases b
  · exact hf rfl
  · exact ht rfl
theorem int_beq (m n : Int) : (m == n) = decide (m = n) := by by_cases h : m = n <;> simp [h]
theorem int_bne (m n : Int) : (m != n) = !decide (m = n) := by by_cases h : m = n <;> simp [h]
end
end Go.AM
