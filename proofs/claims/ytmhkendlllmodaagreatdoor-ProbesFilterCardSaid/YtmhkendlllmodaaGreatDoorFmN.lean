/- One of the texts of a proof by an abstract machine over the model. -/
import Derived.Test.YtmhkendlllmodaaGreatDoorFmM
set_option linter.unusedSimpArgs false
set_option linter.unusedVariables false
namespace Go.FM
open Go

section
variable {P : Program} {c : Cfg} {Q : Exit → FS → Prop} {s : FS} {K : FS → Prop} {ops : Array Oper} {o : Oper} {rest : List Oper}

/-! ### the driver's forms: every goal has a constant at its head, and the rest of the code is out of sight -/
def Kont (Q : Exit → FS → Prop) (K : FS → Prop) : Prop := ∀ s', Q .normal s' → K s'
theorem Kont.go (h : Kont Q K) (hq : Q .normal s) : K s := h _ hq
def Fend (keep : List Nat) (ops : Array Oper) (K : FS → Prop) (s : FS) : Prop := K (s.clean (lastDst ops) keep)
theorem aw_reg {id : Nat} (h : ∀ K : FS → Prop, Kont Q K → wOps P c ops ops.toList (Fend c.keep ops K) s) : wCode P c (.region id ops false) Q s := h _ fun _ h => h
theorem aw_dr {id : Nat} (n : Nat) (hm : P.follows .mixedOrders = true) (hB : drawB ops n = true)
    (h : ∀ K : FS → Prop, Kont Q K → awH P c ops n (Fend c.keep ops K) s.H 0 ops.toList s []) : wCode P c (.region id ops true) Q s := ⟨hm, n, hB, h _ fun _ h => h⟩
theorem aw_skip (h : Q .normal s) : wCode P c .skip Q s := h
theorem aw_ret (h : Q .ret s) : wCode P c .ret Q s := h
theorem aw_exit {id : Nat} (h : Q (.exit id) s) : wCode P c (.exit id) Q s := h
def KSeq (P : Program) (c : Cfg) (y : Code) (Q : Exit → FS → Prop) (e : Exit) (s' : FS) : Prop := match e with
  | .normal => wCode P c y Q s'
  | e => Q e s'
theorem aw_sq {x y : Code} (h : wCode P c x (KSeq P c y Q) s) : wCode P c (.seq x y) Q s := h
theorem kseq {y : Code} (h : wCode P c y Q s) : KSeq P c y Q .normal s := h
theorem kseq_r {y : Code} (h : Q .ret s) : KSeq P c y Q .ret s := h
theorem kseq_e {y : Code} {i : Nat} (h : Q (.exit i) s) : KSeq P c y Q (.exit i) s := h
def KBlk (id : Nat) (Q : Exit → FS → Prop) (e : Exit) (s' : FS) : Prop := match e with
  | .exit i => if i = id then Q .normal s' else Q (.exit i) s'
  | e => Q e s'
theorem aw_blk {id : Nat} {b : Code} (h : wCode P c b (KBlk id Q) s) : wCode P c (.block id b) Q s := h
theorem kblk {id : Nat} (h : Q .normal s) : KBlk id Q .normal s := h
theorem kblk_r {id : Nat} (h : Q .ret s) : KBlk id Q .ret s := h
theorem kblk_hit {id : Nat} (h : Q .normal s) : KBlk id Q (.exit id) s := by simp only [KBlk, if_true]; exact h
theorem kblk_miss {id i : Nat} (hne : (i == id) = false) (h : Q (.exit i) s) : KBlk id Q (.exit i) s := by
  have : i ≠ id := by simpa using hne
  simp only [KBlk, this, if_false]; exact h
theorem wCode_mono : ∀ (code : Code) (Q Q' : Exit → FS → Prop) (s : FS), (∀ e s, Q e s → Q' e s) → wCode P c code Q s → wCode P c code Q' s
  | .skip, _, _, s, hQ, h => hQ _ s h
  | .label _, _, _, s, hQ, h => hQ _ s h
  | .region _ ops false, Q, Q', s, hQ, h => by
    have mono : ∀ (l : List Oper) (s : FS), wOps P c ops l (fun s' => Q .normal (s'.clean (lastDst ops) c.keep)) s → wOps P c ops l (fun s' => Q' .normal (s'.clean (lastDst ops) c.keep)) s := by
      intro l
      induction l with
      | nil => exact fun s h => hQ _ _ h
      | cons o rest ih =>
        intro s h
        simp only [wOps] at h ⊢
        split at h
        · unfold wStep at h ⊢
          split at h
          · obtain ⟨h1, r, H', h2, s1, h3, h4⟩ := h; exact ⟨h1, r, H', h2, s1, h3, ih _ h4⟩
          · obtain ⟨s1, h1, h2⟩ := h; exact ⟨s1, h1, ih _ h2⟩
        · obtain ⟨s1, h1, h2⟩ := h; exact ⟨s1, h1, ih _ h2⟩
        · exact h
    exact mono _ _ h
  | .region _ ops true, Q, Q', s, hQ, h => by
    have mono : ∀ (l : List Oper) (s : FS), wOps P c ops l (fun s' => Q .normal (s'.clean (lastDst ops) c.keep)) s → wOps P c ops l (fun s' => Q' .normal (s'.clean (lastDst ops) c.keep)) s := by
      intro l
      induction l with
      | nil => exact fun s h => hQ _ _ h
      | cons o rest ih =>
        intro s h
        simp only [wOps] at h ⊢
        split at h
        · unfold wStep at h ⊢
          split at h
          · obtain ⟨h1, r, H', h2, s1, h3, h4⟩ := h; exact ⟨h1, r, H', h2, s1, h3, ih _ h4⟩
          · obtain ⟨s1, h1, h2⟩ := h; exact ⟨s1, h1, ih _ h2⟩
        · obtain ⟨s1, h1, h2⟩ := h; exact ⟨s1, h1, ih _ h2⟩
        · exact h
    obtain ⟨hm, n, hB, hH⟩ := h
    refine ⟨hm, n, hB, ?_⟩
    have mono2 : ∀ (H0 : Heap) (l : List Oper) (k : Nat) (s : FS) (As : List Heap), awH P c ops n (fun s' => Q .normal (s'.clean (lastDst ops) c.keep)) H0 k l s As → awH P c ops n (fun s' => Q' .normal (s'.clean (lastDst ops) c.keep)) H0 k l s As := by
      intro H0 l
      induction l with
      | nil => exact fun k s As h => hQ _ _ h
      | cons o rest ih =>
        intro k s As h
        simp only [awH] at h ⊢
        split at h
        · rename_i hk
          rw [if_pos hk]
          obtain ⟨d, v, A, Hn, h1, h2, h3, h4, h5⟩ := h
          exact ⟨d, v, A, Hn, h1, h2, h3, h4, ih _ _ _ h5⟩
        · rename_i hk
          rw [if_neg hk]
          exact mono _ _ h
    exact mono2 _ _ _ _ _ hH
  | .seq x y, Q, Q', s, hQ, h => wCode_mono x _ _ s (fun e s' h => by
      cases e with
      | normal => exact wCode_mono y Q Q' s' hQ h
      | _ => exact hQ _ _ h) h
  | .cond x t e, Q, Q', s, hQ, h => by
    simp only [wCode] at h ⊢
    split at h
    · exact wCode_mono t Q Q' s hQ h
    · exact wCode_mono e Q Q' s hQ h
    · exact h
  | .block id b, Q, Q', s, hQ, h => wCode_mono b _ _ s (fun e s' h => by
      cases e with
      | exit i =>
        simp only at h ⊢
        split
        · rename_i e; rw [if_pos e] at h; exact hQ _ _ h
        · rename_i e; rw [if_neg e] at h; exact hQ _ _ h
      | _ => exact hQ _ _ h) h
  | .loop b, Q, Q', s, hQ, h => by
    obtain ⟨I, h0, hr⟩ := h
    exact ⟨I, h0, fun n s hI => wCode_mono b _ _ s (fun e s' h => by
      cases e with
      | normal => exact h
      | _ => exact hQ _ _ h) (hr n s hI)⟩
  | .exit id, _, _, s, hQ, h => hQ _ s h
  | .ret, _, _, s, hQ, h => hQ _ s h
  | .rangeFunc .., _, _, s, hQ, h => (h : False).elim
  | .scope _, _, _, s, hQ, h => (h : False).elim
  | .goto _, _, _, s, hQ, h => (h : False).elim
  | .refuse _, _, _, s, hQ, h => (h : False).elim
def KLoop (c : Cfg) {σ : Type} (st : σ → FS) (μ : σ → Nat) (x : σ) (Q : Exit → FS → Prop) (e : Exit) (s' : FS) : Prop := match e with
  | .normal => ∃ y, Gk c (st y) s' ∧ μ y < μ x
  | e => Q e s'
theorem aw_lpg {σ : Type} {b : Code} (st : σ → FS) (μ : σ → Nat) (x0 : σ) (h0 : Gk c (st x0) s) (round : ∀ x, wCode P c b (KLoop c st μ x Q) (st x)) : wCode P c (.loop b) Q s := by
  refine ⟨fun n s => ∃ x, s = st x ∧ μ x = n, ⟨μ x0, st x0, h0, x0, rfl, rfl⟩, ?_⟩
  rintro n s ⟨x, rfl, rfl⟩
  exact wCode_mono _ _ _ _ (fun e s' h => by
    cases e with
    | normal => obtain ⟨y, hy, hm⟩ := h; exact ⟨μ y, st y, hm, hy, y, rfl, rfl⟩
    | _ => exact h) (round x)
theorem aw_lp {σ : Type} {b : Code} (st : σ → FS) (μ : σ → Nat) (x0 : σ) (h0 : Wk (st x0) s) (round : ∀ x, wCode P c b (KLoop c st μ x Q) (st x)) : wCode P c (.loop b) Q s := aw_lpg st μ x0 h0.gk round
theorem kloopg {σ : Type} {st : σ → FS} {μ : σ → Nat} {x : σ} (y : σ) (h : Gk c (st y) s) (hm : μ y < μ x) : KLoop c st μ x Q .normal s := ⟨y, h, hm⟩
theorem kloop {σ : Type} {st : σ → FS} {μ : σ → Nat} {x : σ} (y : σ) (h : Wk (st y) s) (hm : μ y < μ x) : KLoop c st μ x Q .normal s := ⟨y, h.gk, hm⟩
theorem kloop_r {σ : Type} {st : σ → FS} {μ : σ → Nat} {x : σ} (h : Q .ret s) : KLoop c st μ x Q .ret s := h
theorem kloop_e {σ : Type} {st : σ → FS} {μ : σ → Nat} {x : σ} {i : Nat} (h : Q (.exit i) s) : KLoop c st μ x Q (.exit i) s := h

/-! ### a region, a step at a time -/
def StK (P : Program) (c : Cfg) (ops : Array Oper) (rest : List Oper) (K : FS → Prop) (s' : Option FS) : Prop := match s' with
  | some s' => wOps P c ops rest K s'
  | none => False
def CallG (P : Program) (c : Cfg) (ops : Array Oper) (o : Oper) (rest : List Oper) (K : FS → Prop) (s : FS) (f : FuncId) (b : Bool) (A : List FV) : Prop :=
  b = true ∧ ∃ r H', FC P c.G f A s.H r H' ∧ StK P c ops rest K (putD c o r { s with H := H' })
def DoOp (P : Program) (c : Cfg) (ops : Array Oper) (o : Oper) (rest : List Oper) (K : FS → Prop) (s : FS) (x : Option (FuncId × List FV)) : Prop := match x with
  | some (f, A) => CallG P c ops o rest K s f (fnOk P f) A
  | none => StK P c ops rest K (fStep P c o s)
def GOp (P : Program) (c : Cfg) (ops : Array Oper) (o : Oper) (rest : List Oper) (K : FS → Prop) (s : FS) (b : Option Bool) : Prop := match b with
  | some true => DoOp P c ops o rest K s (callee? s o)
  | some false => StK P c ops rest K (putD c o (.tup []) s)
  | none => False
theorem wOps_nil : wOps P c ops [] K s = K s := rfl
theorem wOps_cons : wOps P c ops (o :: rest) K s = GOp P c ops o rest K s (guardV ops o s) := by
  unfold GOp DoOp StK CallG
  simp only [wOps, wStep]
  refine propext ?_
  cases guardV ops o s with
  | none => exact Iff.rfl
  | some b =>
    cases b
    · simp only
      cases putD c o (.tup []) s <;> simp
    · simp only
      cases hc : callee? s o with
      | none => simp only; cases fStep P c o s <;> simp
      | some x =>
        obtain ⟨f, A⟩ := x
        simp only
        refine ⟨fun ⟨h1, r, H', h2, s1, h3, h4⟩ => ⟨h1, r, H', h2, by rw [h3]; exact h4⟩, fun ⟨h1, r, H', h2, h3⟩ => ⟨h1, r, H', h2, ?_⟩⟩
        cases hp : putD c o r { s with H := H' } with
        | none => rw [hp] at h3; exact h3.elim
        | some s1 => rw [hp] at h3; exact ⟨s1, rfl, h3⟩
theorem GOp_t : GOp P c ops o rest K s (some true) = DoOp P c ops o rest K s (callee? s o) := rfl
theorem GOp_f : GOp P c ops o rest K s (some false) = StK P c ops rest K (putD c o (.tup []) s) := rfl
theorem DoOp_n : DoOp P c ops o rest K s none = StK P c ops rest K (fStep P c o s) := rfl
theorem DoOp_c {f : FuncId} {A : List FV} : DoOp P c ops o rest K s (some (f, A)) = CallG P c ops o rest K s f (fnOk P f) A := rfl
theorem StK_s {s' : FS} : StK P c ops rest K (some s') = wOps P c ops rest K s' := rfl
theorem call_fc {f : FuncId} {A : List FV} {r : FV} {H' : Heap} (hfc : FC P c.G f A s.H r H') (h : StK P c ops rest K (putD c o r { s with H := H' })) : CallG P c ops o rest K s f true A := ⟨rfl, r, H', hfc, h⟩
theorem call_pc {f : FuncId} {A : List FV} {r : FV} (hpc : PC P c.G f A r) (ha : nls A = true) (h : StK P c ops rest K (putD c o r s)) : CallG P c ops o rest K s f true A := ⟨rfl, r, s.H, hpc.lift ha _, h⟩
theorem call_lend {f : FuncId} {A A1 A2 : List FV} {r : FV} (n : Nat) (hpc : PC P c.G f A2 r) (hz : frzs s.H n A = some A1) (ha : asRs A1 A2) (hs : sca r = true) (h : StK P c ops rest K (putD c o r s)) : CallG P c ops o rest K s f true A := ⟨rfl, r, s.H, hpc.lend hz ha hs, h⟩
theorem gop_t (h : DoOp P c ops o rest K s (callee? s o)) : GOp P c ops o rest K s (some true) := h
theorem gop_f (h : StK P c ops rest K (putD c o (.tup []) s)) : GOp P c ops o rest K s (some false) := h
theorem gsplit {b : Bool} (ht : b = true → DoOp P c ops o rest K s (callee? s o)) (hf : b = false → StK P c ops rest K (putD c o (.tup []) s)) : GOp P c ops o rest K s (some b) := by
  cases b
  · exact hf rfl
  · exact ht rfl
theorem gsplit_n {b : Bool} (ht : b = false → DoOp P c ops o rest K s (callee? s o)) (hf : b = true → StK P c ops rest K (putD c o (.tup []) s)) : GOp P c ops o rest K s (some !b) := by
  cases b
  · exact ht rfl
  · exact hf rfl
theorem gsplit_d {p : Prop} [Decidable p] (ht : p → DoOp P c ops o rest K s (callee? s o)) (hf : ¬ p → StK P c ops rest K (putD c o (.tup []) s)) : GOp P c ops o rest K s (some (decide p)) :=
  gsplit (fun h => ht (of_decide_eq_true h)) (fun h => hf (of_decide_eq_false h))
theorem gsplit_nd {p : Prop} [Decidable p] (ht : ¬ p → DoOp P c ops o rest K s (callee? s o)) (hf : p → StK P c ops rest K (putD c o (.tup []) s)) : GOp P c ops o rest K s (some !decide p) :=
  gsplit_n (fun h => ht (of_decide_eq_false h)) (fun h => hf (of_decide_eq_true h))

/-! ### a branch, its arms out of sight -/
def KT (P : Program) (c : Cfg) (x : Code) (Q : Exit → FS → Prop) (T : FS → Prop) : Prop := ∀ s, wCode P c x Q s → T s
theorem KT.go {x : Code} {T : FS → Prop} (h : KT P c x Q T) (hq : wCode P c x Q s) : T s := h _ hq
def CondG (T E : FS → Prop) (s : FS) (b : Option Bool) : Prop := match b with
  | some true => T s
  | some false => E s
  | none => False
theorem aw_cnd {x : Operand} {t e : Code} (h : ∀ T E : FS → Prop, KT P c t Q T → KT P c e Q E → CondG T E s (condV s x)) : wCode P c (.cond x t e) Q s := by
  have := h _ _ (fun _ h => h) (fun _ h => h)
  simp only [wCode]
  unfold CondG at this
  cases hc : condV s x with
  | none => rw [hc] at this; exact this
  | some b => rw [hc] at this; cases b <;> exact this
theorem cond_t {T E : FS → Prop} (h : T s) : CondG T E s (some true) := h
theorem cond_f {T E : FS → Prop} (h : E s) : CondG T E s (some false) := h
theorem cond_b {T E : FS → Prop} {b : Bool} (ht : b = true → T s) (hf : b = false → E s) : CondG T E s (some b) := by
  cases b
  · exact hf rfl
  · exact ht rfl
theorem cond_n {T E : FS → Prop} {b : Bool} (ht : b = false → T s) (hf : b = true → E s) : CondG T E s (some !b) := by
  cases b
  · exact ht rfl
  · exact hf rfl
theorem cond_d {T E : FS → Prop} {p : Prop} [Decidable p] (ht : p → T s) (hf : ¬ p → E s) : CondG T E s (some (decide p)) := cond_b (fun h => ht (of_decide_eq_true h)) (fun h => hf (of_decide_eq_false h))
theorem cond_nd {T E : FS → Prop} {p : Prop} [Decidable p] (ht : ¬ p → T s) (hf : p → E s) : CondG T E s (some !decide p) := cond_n (fun h => ht (of_decide_eq_false h)) (fun h => hf (of_decide_eq_true h))

/-! ### a head -/
/-- what a head that is no call makes: its value, and its new block -/
def hMake (P : Program) (c : Cfg) (o : Oper) (s : FS) : Option (FV × Heap) := (wv P s.H (c.nm (o.dst.getD 0) s.ix) (rv s) o).map fun x => (x.2, upds noH x.1)
def HNx (P : Program) (c : Cfg) (ops : Array Oper) (n : Nat) (K : FS → Prop) (H0 : Heap) (k : Nat) (o : Oper) (rest : List Oper) (s : FS) (As : List Heap) (x : Option (FV × Heap)) : Prop := match x, o.dst with
  | some (v, A), some d => d < c.N ∧ (∀ l, A l ≠ none → s.H l = none) ∧ awH P c ops n K H0 (k + 1) rest ({ s with H := ext s.H A }.put d v) (As ++ [A])
  | _, _ => False
def HCl (P : Program) (c : Cfg) (ops : Array Oper) (n : Nat) (K : FS → Prop) (H0 : Heap) (k : Nat) (o : Oper) (rest : List Oper) (s : FS) (As : List Heap) (Hn : Heap) (f : FuncId) (b : Bool) (A : List FV) : Prop :=
  b = true ∧ ∃ v B, (∀ H2, HSub Hn H2 → (∀ l, B l ≠ none → H2 l = none) → FC P c.G f A H2 v (ext H2 B)) ∧ HNx P c ops n K H0 k o rest s As (some (v, B))
def HDo (P : Program) (c : Cfg) (ops : Array Oper) (n : Nat) (K : FS → Prop) (H0 : Heap) (k : Nat) (o : Oper) (rest : List Oper) (s : FS) (As : List Heap) (Hn : Heap) (x : Option (FuncId × List FV)) : Prop := match x with
  | some (f, A) => HCl P c ops n K H0 k o rest s As Hn f (fnOk P f) A
  | none => HNx P c ops n K H0 k o rest s As (hMake P c o { s with H := Hn })
def HG (P : Program) (c : Cfg) (ops : Array Oper) (n : Nat) (K : FS → Prop) (H0 : Heap) (k : Nat) (o : Oper) (rest : List Oper) (s : FS) (As : List Heap) (Hn : Heap) (b : Option Bool) : Prop := match b with
  | some true => HDo P c ops n K H0 k o rest s As Hn (callee? s o)
  | some false => HNx P c ops n K H0 k o rest s As (some (.tup [], noH))
  | none => False
theorem hMake_calm {sn : FS} {d : Nat} {v : FV} {A : Heap} (hg : guardV ops o sn = some true) (hc : callee? sn o = none) (hd : o.dst = some d) (hN : d < c.N) (h : hMake P c o sn = some (v, A)) : Calm P c ops o sn d v A := by
  unfold hMake at h
  rw [Option.map_eq_some_iff] at h
  obtain ⟨⟨us, v'⟩, hv, h⟩ := h
  simp only [Prod.mk.injEq] at h
  obtain ⟨rfl, rfl⟩ := h
  exact calm_wv hg hc hd hN (by rw [hd, Option.getD_some] at hv; exact hv)
/-- a head, over the part 'Hn' of the heap that it needs -/
theorem awH_goN {n k : Nat} {H0 : Heap} {As : List Heap} (Hn : Heap) (hk : k < n) (hd : depsB ops n k o = true) (hneed : ∀ l ob, Hn l = some ob → H0 l = some ob ∨ ∃ j Aj, As[j]? = some Aj ∧ waitsB o j = true ∧ Aj l = some ob)
    (h : HG P c ops n K H0 k o rest s As Hn (guardV ops o s)) : awH P c ops n K H0 k (o :: rest) s As := by
  simp only [awH, hk, if_true]
  unfold HG HDo HCl at h
  have hgs : guardV ops o { s with H := Hn } = guardV ops o s := rfl
  have hcs : callee? { s with H := Hn } o = callee? s o := rfl
  cases hg : guardV ops o s with
  | none => rw [hg] at h; exact h.elim
  | some b =>
    rw [hg] at h
    cases b
    · simp only [HNx] at h
      cases hdst : o.dst with
      | none => rw [hdst] at h; exact h.elim
      | some d =>
        rw [hdst] at h
        obtain ⟨h1, h2, h3⟩ := h
        exact ⟨d, _, noH, Hn, calm_nop (hgs.trans hg) hdst h1, hd, h2, hneed, h3⟩
    · simp only at h
      cases hc : callee? s o with
      | none =>
        rw [hc] at h
        simp only [HNx] at h
        split at h
        · rename_i v A d hm hdst
          obtain ⟨h1, h2, h3⟩ := h
          exact ⟨d, v, A, Hn, hMake_calm (hgs.trans hg) (hcs.trans hc) hdst h1 hm, hd, h2, hneed, h3⟩
        · exact h.elim
      | some x =>
        obtain ⟨f, A⟩ := x
        rw [hc] at h
        simp only at h
        obtain ⟨hf, v, B, hfc, h⟩ := h
        simp only [HNx] at h
        cases hdst : o.dst with
        | none => rw [hdst] at h; exact h.elim
        | some d =>
          rw [hdst] at h
          obtain ⟨h1, h2, h3⟩ := h
          exact ⟨d, v, B, Hn, calm_call (hgs.trans hg) (hcs.trans hc) hf hdst h1 hfc, hd, h2, hneed, h3⟩
theorem awH_go {n k : Nat} {H0 : Heap} {As : List Heap} (hk : k < n) (hd : depsB ops n k o = true) (h : HG P c ops n K H0 k o rest s As H0 (guardV ops o s)) : awH P c ops n K H0 k (o :: rest) s As :=
  awH_goN H0 hk hd (fun _ _ h => .inl h) h
theorem awH_tail {n k : Nat} {H0 : Heap} {l : List Oper} {As : List Heap} (hk : ¬ k < n) (h : wOps P c ops l K s) : awH P c ops n K H0 k l s As := by
  cases l with
  | nil => exact h
  | cons o rest => simp only [awH, hk, if_false]; exact h
theorem HG_t {n k : Nat} {H0 Hn : Heap} {As : List Heap} : HG P c ops n K H0 k o rest s As Hn (some true) = HDo P c ops n K H0 k o rest s As Hn (callee? s o) := rfl
theorem HG_f {n k : Nat} {H0 Hn : Heap} {As : List Heap} : HG P c ops n K H0 k o rest s As Hn (some false) = HNx P c ops n K H0 k o rest s As (some (.tup [], noH)) := rfl
theorem HDo_n {n k : Nat} {H0 Hn : Heap} {As : List Heap} : HDo P c ops n K H0 k o rest s As Hn none = HNx P c ops n K H0 k o rest s As (hMake P c o { s with H := Hn }) := rfl
theorem HDo_c {n k : Nat} {H0 Hn : Heap} {As : List Heap} {f : FuncId} {A : List FV} : HDo P c ops n K H0 k o rest s As Hn (some (f, A)) = HCl P c ops n K H0 k o rest s As Hn f (fnOk P f) A := rfl
theorem hpc {n k : Nat} {H0 Hn : Heap} {As : List Heap} {f : FuncId} {A : List FV} {r : FV} (hp : PC P c.G f A r) (ha : nls A = true) (h : HNx P c ops n K H0 k o rest s As (some (r, noH))) : HCl P c ops n K H0 k o rest s As Hn f true A :=
  ⟨rfl, r, noH, fun H2 _ _ => hp.lift ha H2, h⟩
theorem frz_mono {H H2 : Heap} (hs : HSub H H2) : ∀ n, (∀ x y, frz H n x = some y → frz H2 n x = some y) ∧ (∀ x y, frzs H n x = some y → frzs H2 n x = some y) ∧ (∀ x y, frzR H n x = some y → frzR H2 n x = some y)
  | 0 => ⟨fun _ _ h => by simp [frz] at h, fun _ _ h => by simp [frzs] at h, fun _ _ h => by simp [frzR] at h⟩
  | n + 1 => by
    obtain ⟨i1, i2, i3⟩ := frz_mono hs n
    refine ⟨fun x y h => ?_, fun x y h => ?_, fun x y h => ?_⟩
    · cases x with
      | sl l sz off len =>
        simp only [frz] at h ⊢
        split at h
        · rename_i T sz' xs hl
          simp only [hs _ _ hl]
          split at h
          · rename_i hc
            rw [if_pos hc]
            rw [Option.map_eq_some_iff] at h ⊢
            obtain ⟨ys, hys, rfl⟩ := h
            exact ⟨ys, i3 _ _ hys, rfl⟩
          · cases h
        · cases h
      | agg cs =>
        simp only [frz] at h ⊢
        split at h
        · rename_i hc; rw [if_pos hc]; exact h
        · rename_i hc
          rw [if_neg hc]
          rw [Option.map_eq_some_iff] at h ⊢
          obtain ⟨ys, hys, rfl⟩ := h
          exact ⟨ys, i2 _ _ hys, rfl⟩
      | tup cs =>
        simp only [frz] at h ⊢
        split at h
        · rename_i hc; rw [if_pos hc]; exact h
        · rename_i hc
          rw [if_neg hc]
          rw [Option.map_eq_some_iff] at h ⊢
          obtain ⟨ys, hys, rfl⟩ := h
          exact ⟨ys, i2 _ _ hys, rfl⟩
      | _ => exact h
    · cases x with
      | nil => exact h
      | cons x xs =>
        simp only [frzs] at h ⊢
        rw [Option.bind_eq_some_iff] at h ⊢
        obtain ⟨z, hz, h⟩ := h
        rw [Option.map_eq_some_iff] at h
        obtain ⟨ys, hys, rfl⟩ := h
        exact ⟨z, i1 _ _ hz, by rw [Option.map_eq_some_iff]; exact ⟨ys, i2 _ _ hys, rfl⟩⟩
    · simp only [frzR] at h ⊢
      split at h
      · rename_i hc; rw [if_pos hc]; exact h
      · rename_i hc
        rw [if_neg hc]
        cases x with
        | nil => exact h
        | cons x xs =>
          simp only at h ⊢
          rw [Option.bind_eq_some_iff] at h ⊢
          obtain ⟨z, hz, h⟩ := h
          rw [Option.map_eq_some_iff] at h
          obtain ⟨ys, hys, rfl⟩ := h
          exact ⟨z, i2 _ _ hz, by rw [Option.map_eq_some_iff]; exact ⟨ys, i3 _ _ hys, rfl⟩⟩
theorem hlend {n k : Nat} {H0 Hn : Heap} {As : List Heap} {f : FuncId} {A A1 A2 : List FV} {r : FV} (q : Nat) (hp : PC P c.G f A2 r) (hz : frzs Hn q A = some A1) (ha : asRs A1 A2) (hs : sca r = true) (h : HNx P c ops n K H0 k o rest s As (some (r, noH))) :
    HCl P c ops n K H0 k o rest s As Hn f true A := ⟨rfl, r, noH, fun H2 h1 _ => hp.lend ((frz_mono h1 q).2.1 _ _ hz) ha hs, h⟩
theorem hnx_go {n k : Nat} {H0 : Heap} {As : List Heap} {v : FV} {A : Heap} {d : Nat} (hd : o.dst = some d) (hN : d < c.N) (hf : ∀ l, A l ≠ none → s.H l = none) (h : awH P c ops n K H0 (k + 1) rest ({ s with H := ext s.H A }.put d v) (As ++ [A])) :
    HNx P c ops n K H0 k o rest s As (some (v, A)) := by
  simp only [HNx, hd]; exact ⟨hN, hf, h⟩
theorem fresh_noH : ∀ l, noH l ≠ none → s.H l = none := fun _ h => absurd rfl h
theorem fresh_upd {l0 : Loc} {ob : FO} (h : s.H l0 = none) : ∀ l, upd noH l0 ob l ≠ none → s.H l = none := fun l hl => by
  unfold upd at hl
  split at hl
  · rename_i e; subst e; exact h
  · exact absurd rfl hl
theorem hgsplit {n k : Nat} {H0 Hn : Heap} {As : List Heap} {b : Bool} (ht : b = true → HDo P c ops n K H0 k o rest s As Hn (callee? s o)) (hf : b = false → HNx P c ops n K H0 k o rest s As (some (.tup [], noH))) : HG P c ops n K H0 k o rest s As Hn (some b) := by
  cases b
  · exact hf rfl
  · exact ht rfl
theorem hgsplit_n {n k : Nat} {H0 Hn : Heap} {As : List Heap} {b : Bool} (ht : b = false → HDo P c ops n K H0 k o rest s As Hn (callee? s o)) (hf : b = true → HNx P c ops n K H0 k o rest s As (some (.tup [], noH))) : HG P c ops n K H0 k o rest s As Hn (some !b) := by
  cases b
  · exact ht rfl
  · exact hf rfl
theorem hgsplit_d {n k : Nat} {H0 Hn : Heap} {As : List Heap} {p : Prop} [Decidable p] (ht : p → HDo P c ops n K H0 k o rest s As Hn (callee? s o)) (hf : ¬ p → HNx P c ops n K H0 k o rest s As (some (.tup [], noH))) : HG P c ops n K H0 k o rest s As Hn (some (decide p)) :=
  hgsplit (fun h => ht (of_decide_eq_true h)) (fun h => hf (of_decide_eq_false h))
theorem hgsplit_nd {n k : Nat} {H0 Hn : Heap} {As : List Heap} {p : Prop} [Decidable p] (ht : ¬ p → HDo P c ops n K H0 k o rest s As Hn (callee? s o)) (hf : p → HNx P c ops n K H0 k o rest s As (some (.tup [], noH))) : HG P c ops n K H0 k o rest s As Hn (some !decide p) :=
  hgsplit_n (fun h => ht (of_decide_eq_false h)) (fun h => hf (of_decide_eq_true h))

/-! ### the end of a pure function -/
theorem pend_r {res : List ResultVar} {r : FV} {l : List FV} {y : FV} (n : Nat) (h1 : resL P s res = some l) (h2 : frz s.H n (tupOf l) = some y) (h3 : asR y r) : PEnd P res r .ret s := ⟨.inr rfl, s, Wk.refl s, l, h1, n, y, h2, h3⟩
theorem pend_n {res : List ResultVar} {r : FV} {l : List FV} {y : FV} (n : Nat) (h1 : resL P s res = some l) (h2 : frz s.H n (tupOf l) = some y) (h3 : asR y r) : PEnd P res r .normal s := ⟨.inl rfl, s, Wk.refl s, l, h1, n, y, h2, h3⟩
def frzRes (H : Heap) : Option (List FV) → Option FV
  | some l => frz H 8 (tupOf l)
  | none => none
theorem frzRes_s (H : Heap) (l : List FV) : frzRes H (some l) = frz H 8 (tupOf l) := rfl
def PFin (x : Option FV) (r : FV) : Prop := match x with
  | some y => asR y r
  | none => False
theorem PFin_s {y r : FV} : PFin (some y) r = asR y r := rfl
theorem pfin_ok {res : List ResultVar} {r : FV} {e : Exit} (he : e = .normal ∨ e = .ret) (h : PFin (frzRes s.H (resL P s res)) r) : PEnd P res r e s := by
  unfold PFin at h
  split at h
  · rename_i y hy
    unfold frzRes at hy
    split at hy
    · rename_i l hl
      exact ⟨he, s, Wk.refl s, l, hl, 8, y, hy, h⟩
    · cases hy
  · exact h.elim
theorem pfin_r {res : List ResultVar} {r : FV} (h : PFin (frzRes s.H (resL P s res)) r) : PEnd P res r .ret s := pfin_ok (.inr rfl) h
theorem pfin_n {res : List ResultVar} {r : FV} (h : PFin (frzRes s.H (resL P s res)) r) : PEnd P res r .normal s := pfin_ok (.inl rfl) h
theorem PC_go {G : List (Nat × List Value)} {f : FuncId} {fn : Func} {code : Code} {res : List ResultVar} (nv n : Nat) (keep : List Nat) (nm : Nat → List Nat → Loc) {args : List FV} {r : FV} (hf : P.funcs[f]? = some fn) (hb : fn.body = some code) (hn : fn.ntmps = n) (hres : fn.results.toList = res)
    (hargs : args.length ≤ nv) (hnv : nv ≤ n) (h : wCode P ⟨n, keep, nm, G, fun _ => False⟩ code (PEnd P res r) (FS.init nv args noH)) : PC P G f args r := by
  subst hn hres
  exact PC_of hf hb rfl hargs hnv h
theorem le_of {vs1 vs : List FV} {tm : Asg} {H1 H : Heap} {ix1 ix : List Nat} (hv : vs1.length = vs.length) (hg : ∀ p ∈ vs1.zip vs, p.1 = .undef ∨ p.1 = p.2) (hH : HLe H1 H) : Wk (FS.mk vs1 [] H1 ix1) ⟨vs, tm, H, ix⟩ := by
  have h1 : (FS.mk vs1 [] H1 ix).le ⟨vs, tm, H, ix⟩ := by
    refine ⟨hv, fun t => ?_, hH⟩
    unfold FS.get
    simp only
    rw [← hv]
    split
    · rename_i ht
      have h2 : t < vs.length := by omega
      rw [List.getD_eq_getElem?_getD, List.getD_eq_getElem?_getD, List.getElem?_eq_getElem ht, List.getElem?_eq_getElem h2]
      have hz : (vs1.zip vs)[t]? = some (vs1[t], vs[t]) := by
        rw [List.getElem?_zip_eq_some]
        exact ⟨List.getElem?_eq_getElem ht, List.getElem?_eq_getElem h2⟩
      simpa using hg _ (List.mem_of_getElem? hz)
    · exact .inl rfl
  exact (ix_wk _ ix1).trans h1.wk
theorem HLe.refl (H : Heap) : HLe H H := fun _ => .inl rfl
theorem min_if (a b : Int) : (if b < a then b else a) = min a b := by omega
end
end Go.FM
