/- Texts of a proof by an abstract machine over the model. -/
import Derived.Test.YtmhkendlllmodaaGreatDoorP3
import Derived.ProofKit
import Derived.OpenShut
import Derived.ShutString
import Derived.ChangeOld
import Derived.Below
import Derived.LaidMore
import Derived.Stop.Joined
import Derived.Lib.LaidTab
set_option linter.unusedSimpArgs false
set_option linter.unusedVariables false
namespace Go.FM
open Go

section
variable {P : Program} {c : Cfg} {Q : Exit → FS → Prop} {s : FS} {K : FS → Prop} {ops : Array Oper} {o : Oper} {rest : List Oper}

/-! ### the driver's forms: every goal has a constant at its head, and the rest of the code is out of sight -/
def Kont (Q : Exit → FS → Prop) (K : FS → Prop) : Prop := ∀ s', Q .normal s' → K s'
theorem Kont.go (h : Kont Q K) (hq : Q .normal s) : K s := h _ hq
def Fend (keep : List Nat) (ops : Array Oper) (K : FS → Prop) (s : FS) : Prop := K (s.clean (lastDst ops) keep)
theorem aw_reg {id : Nat} (h : ∀ K : FS → Prop, Kont Q K → wOps P c ops ops.toList (Fend c.keep ops K) s) : wCode P c (.region id ops false) Q s := h _ fun _ h => h
theorem aw_dr {id : Nat} (n : Nat) (hm : P.follows .mixedOrders = true) (hB : drawB ops n = true)
    (h : ∀ K : FS → Prop, Kont Q K → awH P c ops n (Fend c.keep ops K) s.H 0 ops.toList s []) : wCode P c (.region id ops true) Q s := ⟨hm, n, s.H, hB, fun _ _ h => h, h _ fun _ h => h⟩
def rmv (l0 : Loc) (H : Heap) : Heap := fun l => if l = l0 then none else H l
theorem rmv_at (l0 : Loc) (H : Heap) (l : Loc) : rmv l0 H l = if l = l0 then none else H l := rfl
theorem rmv_sub (l0 : Loc) (H : Heap) : HSub (rmv l0 H) H := fun l ob hl => by
  unfold rmv at hl
  split at hl
  · cases hl
  · exact hl
/-- one name is kept from the heads, for the one of them that ends it -/
theorem aw_drk {id : Nat} (l0 : Loc) (n : Nat) (hm : P.follows .mixedOrders = true) (hB : drawB ops n = true)
    (h : ∀ K : FS → Prop, Kont Q K → awH P c ops n (Fend c.keep ops K) (rmv l0 s.H) 0 ops.toList s []) : wCode P c (.region id ops true) Q s :=
  ⟨hm, n, rmv l0 s.H, hB, rmv_sub l0 s.H, h _ fun _ h => h⟩
theorem aw_skip (h : Q .normal s) : wCode P c .skip Q s := h
theorem aw_ret (h : Q .ret s) : wCode P c .ret Q s := h
theorem aw_exit {id : Nat} (h : Q (.exit id) s) : wCode P c (.exit id) Q s := h
def KSeq (P : Program) (c : Cfg) (y : Code) (Q : Exit → FS → Prop) (e : Exit) (s' : FS) : Prop := match e with
  | .normal => wCode P c y Q s'
  | e => Q e s'
theorem aw_sq {x y : Code} (h : wCode P c x (KSeq P c y Q) s) : wCode P c (.seq x y) Q s := h
theorem kseq {y : Code} (h : wCode P c y Q s) : KSeq P c y Q .normal s := h
theorem kseq_r {y : Code} (h : Q .ret s) : KSeq P c y Q .ret s := h
theorem kseq_e {y : Code} {i : Nat} (h : Q (.exit i) s) : KSeq P c y Q (.exit i) s := h
def KBlk (id : Nat) (Q : Exit → FS → Prop) (e : Exit) (s' : FS) : Prop := match e with
  | .exit i => if i = id then Q .normal s' else Q (.exit i) s'
  | e => Q e s'
theorem aw_blk {id : Nat} {b : Code} (h : wCode P c b (KBlk id Q) s) : wCode P c (.block id b) Q s := h
theorem kblk {id : Nat} (h : Q .normal s) : KBlk id Q .normal s := h
theorem kblk_r {id : Nat} (h : Q .ret s) : KBlk id Q .ret s := h
theorem kblk_hit {id : Nat} (h : Q .normal s) : KBlk id Q (.exit id) s := by simp only [KBlk, if_true]; exact h
theorem kblk_miss {id i : Nat} (hne : (i == id) = false) (h : Q (.exit i) s) : KBlk id Q (.exit i) s := by
  have : i ≠ id := by simpa using hne
  simp only [KBlk, this, if_false]; exact h
theorem wCode_mono : ∀ (code : Code) (Q Q' : Exit → FS → Prop) (s : FS), (∀ e s, Q e s → Q' e s) → wCode P c code Q s → wCode P c code Q' s
  | .skip, _, _, s, hQ, h => hQ _ s h
  | .label _, _, _, s, hQ, h => hQ _ s h
  | .region _ ops false, Q, Q', s, hQ, h => by
    have mono : ∀ (l : List Oper) (s : FS), wOps P c ops l (fun s' => Q .normal (s'.clean (lastDst ops) c.keep)) s → wOps P c ops l (fun s' => Q' .normal (s'.clean (lastDst ops) c.keep)) s := by
      intro l
      induction l with
      | nil => exact fun s h => hQ _ _ h
      | cons o rest ih =>
        intro s h
        simp only [wOps] at h ⊢
        split at h
        · unfold wStep at h ⊢
          split at h
          · obtain ⟨h1, r, H', h2, s1, h3, h4⟩ := h; exact ⟨h1, r, H', h2, s1, h3, ih _ h4⟩
          · obtain ⟨s1, h1, h2⟩ := h; exact ⟨s1, h1, ih _ h2⟩
        · obtain ⟨s1, h1, h2⟩ := h; exact ⟨s1, h1, ih _ h2⟩
        · exact h
    exact mono _ _ h
  | .region _ ops true, Q, Q', s, hQ, h => by
    have mono : ∀ (l : List Oper) (s : FS), wOps P c ops l (fun s' => Q .normal (s'.clean (lastDst ops) c.keep)) s → wOps P c ops l (fun s' => Q' .normal (s'.clean (lastDst ops) c.keep)) s := by
      intro l
      induction l with
      | nil => exact fun s h => hQ _ _ h
      | cons o rest ih =>
        intro s h
        simp only [wOps] at h ⊢
        split at h
        · unfold wStep at h ⊢
          split at h
          · obtain ⟨h1, r, H', h2, s1, h3, h4⟩ := h; exact ⟨h1, r, H', h2, s1, h3, ih _ h4⟩
          · obtain ⟨s1, h1, h2⟩ := h; exact ⟨s1, h1, ih _ h2⟩
        · obtain ⟨s1, h1, h2⟩ := h; exact ⟨s1, h1, ih _ h2⟩
        · exact h
    obtain ⟨hm, n, H0, hB, hsub, hH⟩ := h
    refine ⟨hm, n, H0, hB, hsub, ?_⟩
    have mono2 : ∀ (H0 : Heap) (l : List Oper) (k : Nat) (s : FS) (As : List Heap), awH P c ops n (fun s' => Q .normal (s'.clean (lastDst ops) c.keep)) H0 k l s As → awH P c ops n (fun s' => Q' .normal (s'.clean (lastDst ops) c.keep)) H0 k l s As := by
      intro H0 l
      induction l with
      | nil => exact fun k s As h => hQ _ _ h
      | cons o rest ih =>
        intro k s As h
        simp only [awH] at h ⊢
        split at h
        · rename_i hk
          rw [if_pos hk]
          obtain ⟨d, v, A, Hn, kl, h1, h2, h3, h4, h5, h6⟩ := h
          exact ⟨d, v, A, Hn, kl, h1, h2, h3, h4, h5, ih _ _ _ h6⟩
        · rename_i hk
          rw [if_neg hk]
          exact mono _ _ h
    exact mono2 _ _ _ _ _ hH
  | .seq x y, Q, Q', s, hQ, h => wCode_mono x _ _ s (fun e s' h => by
      cases e with
      | normal => exact wCode_mono y Q Q' s' hQ h
      | _ => exact hQ _ _ h) h
  | .cond x t e, Q, Q', s, hQ, h => by
    simp only [wCode] at h ⊢
    split at h
    · exact wCode_mono t Q Q' s hQ h
    · exact wCode_mono e Q Q' s hQ h
    · exact h
  | .block id b, Q, Q', s, hQ, h => wCode_mono b _ _ s (fun e s' h => by
      cases e with
      | exit i =>
        simp only at h ⊢
        split
        · rename_i e; rw [if_pos e] at h; exact hQ _ _ h
        · rename_i e; rw [if_neg e] at h; exact hQ _ _ h
      | _ => exact hQ _ _ h) h
  | .loop b, Q, Q', s, hQ, h => by
    obtain ⟨I, h0, hr⟩ := h
    exact ⟨I, h0, fun n s hI => wCode_mono b _ _ s (fun e s' h => by
      cases e with
      | normal => exact h
      | _ => exact hQ _ _ h) (hr n s hI)⟩
  | .exit id, _, _, s, hQ, h => hQ _ s h
  | .ret, _, _, s, hQ, h => hQ _ s h
  | .rangeFunc .., _, _, s, hQ, h => (h : False).elim
  | .scope _, _, _, s, hQ, h => (h : False).elim
  | .goto _, _, _, s, hQ, h => (h : False).elim
  | .refuse _, _, _, s, hQ, h => (h : False).elim
def KLoop (c : Cfg) {σ : Type} (st : σ → FS) (μ : σ → Nat) (x : σ) (Q : Exit → FS → Prop) (e : Exit) (s' : FS) : Prop := match e with
  | .normal => ∃ y, Gk c (st y) s' ∧ μ y < μ x
  | e => Q e s'
theorem aw_lpg {σ : Type} {b : Code} (st : σ → FS) (μ : σ → Nat) (x0 : σ) (h0 : Gk c (st x0) s) (round : ∀ x, wCode P c b (KLoop c st μ x Q) (st x)) : wCode P c (.loop b) Q s := by
  refine ⟨fun n s => ∃ x, s = st x ∧ μ x = n, ⟨μ x0, st x0, h0, x0, rfl, rfl⟩, ?_⟩
  rintro n s ⟨x, rfl, rfl⟩
  exact wCode_mono _ _ _ _ (fun e s' h => by
    cases e with
    | normal => obtain ⟨y, hy, hm⟩ := h; exact ⟨μ y, st y, hm, hy, y, rfl, rfl⟩
    | _ => exact h) (round x)
theorem aw_lp {σ : Type} {b : Code} (st : σ → FS) (μ : σ → Nat) (x0 : σ) (h0 : Wk (st x0) s) (round : ∀ x, wCode P c b (KLoop c st μ x Q) (st x)) : wCode P c (.loop b) Q s := aw_lpg st μ x0 h0.gk round
theorem kloopg {σ : Type} {st : σ → FS} {μ : σ → Nat} {x : σ} (y : σ) (h : Gk c (st y) s) (hm : μ y < μ x) : KLoop c st μ x Q .normal s := ⟨y, h, hm⟩
theorem kloop {σ : Type} {st : σ → FS} {μ : σ → Nat} {x : σ} (y : σ) (h : Wk (st y) s) (hm : μ y < μ x) : KLoop c st μ x Q .normal s := ⟨y, h.gk, hm⟩
theorem kloop_r {σ : Type} {st : σ → FS} {μ : σ → Nat} {x : σ} (h : Q .ret s) : KLoop c st μ x Q .ret s := h
theorem kloop_e {σ : Type} {st : σ → FS} {μ : σ → Nat} {x : σ} {i : Nat} (h : Q (.exit i) s) : KLoop c st μ x Q (.exit i) s := h

/-! ### a region, a step at a time -/
def StK (P : Program) (c : Cfg) (ops : Array Oper) (rest : List Oper) (K : FS → Prop) (s' : Option FS) : Prop := match s' with
  | some s' => wOps P c ops rest K s'
  | none => False
def CallG (P : Program) (c : Cfg) (ops : Array Oper) (o : Oper) (rest : List Oper) (K : FS → Prop) (s : FS) (f : FuncId) (b : Bool) (A : List FV) : Prop :=
  b = true ∧ ∃ r H', FC P c.G f A s.H r H' ∧ StK P c ops rest K (putD c o r { s with H := H' })
def DoOp (P : Program) (c : Cfg) (ops : Array Oper) (o : Oper) (rest : List Oper) (K : FS → Prop) (s : FS) (x : Option (FuncId × List FV)) : Prop := match x with
  | some (f, A) => CallG P c ops o rest K s f (fnOk P f) A
  | none => StK P c ops rest K (fStep P c o s)
def GOp (P : Program) (c : Cfg) (ops : Array Oper) (o : Oper) (rest : List Oper) (K : FS → Prop) (s : FS) (b : Option Bool) : Prop := match b with
  | some true => DoOp P c ops o rest K s (callee? s o)
  | some false => StK P c ops rest K (putD c o (.tup []) s)
  | none => False
theorem wOps_nil : wOps P c ops [] K s = K s := rfl
theorem wOps_cons : wOps P c ops (o :: rest) K s = GOp P c ops o rest K s (guardV ops o s) := by
  unfold GOp DoOp StK CallG
  simp only [wOps, wStep]
  refine propext ?_
  cases guardV ops o s with
  | none => exact Iff.rfl
  | some b =>
    cases b
    · simp only
      cases putD c o (.tup []) s <;> simp
    · simp only
      cases hc : callee? s o with
      | none => simp only; cases fStep P c o s <;> simp
      | some x =>
        obtain ⟨f, A⟩ := x
        simp only
        refine ⟨fun ⟨h1, r, H', h2, s1, h3, h4⟩ => ⟨h1, r, H', h2, by rw [h3]; exact h4⟩, fun ⟨h1, r, H', h2, h3⟩ => ⟨h1, r, H', h2, ?_⟩⟩
        cases hp : putD c o r { s with H := H' } with
        | none => rw [hp] at h3; exact h3.elim
        | some s1 => rw [hp] at h3; exact ⟨s1, rfl, h3⟩
theorem GOp_t : GOp P c ops o rest K s (some true) = DoOp P c ops o rest K s (callee? s o) := rfl
theorem GOp_f : GOp P c ops o rest K s (some false) = StK P c ops rest K (putD c o (.tup []) s) := rfl
theorem DoOp_n : DoOp P c ops o rest K s none = StK P c ops rest K (fStep P c o s) := rfl
theorem DoOp_c {f : FuncId} {A : List FV} : DoOp P c ops o rest K s (some (f, A)) = CallG P c ops o rest K s f (fnOk P f) A := rfl
theorem StK_s {s' : FS} : StK P c ops rest K (some s') = wOps P c ops rest K s' := rfl
theorem call_fc {f : FuncId} {A : List FV} {r : FV} {H' : Heap} (hfc : FC P c.G f A s.H r H') (h : StK P c ops rest K (putD c o r { s with H := H' })) : CallG P c ops o rest K s f true A := ⟨rfl, r, H', hfc, h⟩
theorem call_pc {f : FuncId} {A : List FV} {r : FV} (hpc : PC P c.G f A r) (ha : nls A = true) (h : StK P c ops rest K (putD c o r s)) : CallG P c ops o rest K s f true A := ⟨rfl, r, s.H, hpc.lift ha _, h⟩
theorem call_lend {f : FuncId} {A A1 A2 : List FV} {r : FV} (n : Nat) (hpc : PC P c.G f A2 r) (hz : frzs s.H n A = some A1) (ha : asRs A1 A2) (hs : sca r = true) (h : StK P c ops rest K (putD c o r s)) : CallG P c ops o rest K s f true A := ⟨rfl, r, s.H, hpc.lend hz ha hs, h⟩
theorem gop_t (h : DoOp P c ops o rest K s (callee? s o)) : GOp P c ops o rest K s (some true) := h
theorem gop_f (h : StK P c ops rest K (putD c o (.tup []) s)) : GOp P c ops o rest K s (some false) := h
theorem gsplit {b : Bool} (ht : b = true → DoOp P c ops o rest K s (callee? s o)) (hf : b = false → StK P c ops rest K (putD c o (.tup []) s)) : GOp P c ops o rest K s (some b) := by
  cases b
  · exact hf rfl
  · exact ht rfl
theorem gsplit_n {b : Bool} (ht : b = false → DoOp P c ops o rest K s (callee? s o)) (hf : b = true → StK P c ops rest K (putD c o (.tup []) s)) : GOp P c ops o rest K s (some !b) := by
  cases b
  · exact ht rfl
  · exact hf rfl
theorem gsplit_d {p : Prop} [Decidable p] (ht : p → DoOp P c ops o rest K s (callee? s o)) (hf : ¬ p → StK P c ops rest K (putD c o (.tup []) s)) : GOp P c ops o rest K s (some (decide p)) :=
  gsplit (fun h => ht (of_decide_eq_true h)) (fun h => hf (of_decide_eq_false h))
theorem gsplit_nd {p : Prop} [Decidable p] (ht : ¬ p → DoOp P c ops o rest K s (callee? s o)) (hf : p → StK P c ops rest K (putD c o (.tup []) s)) : GOp P c ops o rest K s (some !decide p) :=
  gsplit_n (fun h => ht (of_decide_eq_false h)) (fun h => hf (of_decide_eq_true h))

/-! ### a branch, its arms out of sight -/
def KT (P : Program) (c : Cfg) (x : Code) (Q : Exit → FS → Prop) (T : FS → Prop) : Prop := ∀ s, wCode P c x Q s → T s
theorem KT.go {x : Code} {T : FS → Prop} (h : KT P c x Q T) (hq : wCode P c x Q s) : T s := h _ hq
def CondG (T E : FS → Prop) (s : FS) (b : Option Bool) : Prop := match b with
  | some true => T s
  | some false => E s
  | none => False
theorem aw_cnd {x : Operand} {t e : Code} (h : ∀ T E : FS → Prop, KT P c t Q T → KT P c e Q E → CondG T E s (condV s x)) : wCode P c (.cond x t e) Q s := by
  have := h _ _ (fun _ h => h) (fun _ h => h)
  simp only [wCode]
  unfold CondG at this
  cases hc : condV s x with
  | none => rw [hc] at this; exact this
  | some b => rw [hc] at this; cases b <;> exact this
theorem cond_t {T E : FS → Prop} (h : T s) : CondG T E s (some true) := h
theorem cond_f {T E : FS → Prop} (h : E s) : CondG T E s (some false) := h
theorem cond_b {T E : FS → Prop} {b : Bool} (ht : b = true → T s) (hf : b = false → E s) : CondG T E s (some b) := by
  cases b
  · exact hf rfl
  · exact ht rfl
theorem cond_n {T E : FS → Prop} {b : Bool} (ht : b = false → T s) (hf : b = true → E s) : CondG T E s (some !b) := by
  cases b
  · exact ht rfl
  · exact hf rfl
theorem cond_d {T E : FS → Prop} {p : Prop} [Decidable p] (ht : p → T s) (hf : ¬ p → E s) : CondG T E s (some (decide p)) := cond_b (fun h => ht (of_decide_eq_true h)) (fun h => hf (of_decide_eq_false h))
theorem cond_nd {T E : FS → Prop} {p : Prop} [Decidable p] (ht : ¬ p → T s) (hf : p → E s) : CondG T E s (some !decide p) := cond_n (fun h => ht (of_decide_eq_false h)) (fun h => hf (of_decide_eq_true h))

/-! ### a head -/
/-- what a head that is no call makes: its value, and its new block -/
def hMake (P : Program) (c : Cfg) (o : Oper) (s : FS) : Option (FV × Heap) := (wv P s.H (c.nm (o.dst.getD 0) s.ix) (rv s) o).map fun x => (x.2, upds noH x.1)
def HNx (P : Program) (c : Cfg) (ops : Array Oper) (n : Nat) (K : FS → Prop) (H0 : Heap) (k : Nat) (o : Oper) (rest : List Oper) (s : FS) (As : List Heap) (x : Option (FV × Heap)) : Prop := match x, o.dst with
  | some (v, A), some d => d < c.N ∧ (∀ l, A l ≠ none → s.H l = none) ∧ awH P c ops n K H0 (k + 1) rest ({ s with H := ext s.H A }.put d v) (As ++ [A])
  | _, _ => False
def HCl (P : Program) (c : Cfg) (ops : Array Oper) (n : Nat) (K : FS → Prop) (H0 : Heap) (k : Nat) (o : Oper) (rest : List Oper) (s : FS) (As : List Heap) (Hn : Heap) (f : FuncId) (b : Bool) (A : List FV) : Prop :=
  b = true ∧ ∃ v B, (∀ H2, HSub Hn H2 → (∀ l, B l ≠ none → H2 l = none) → FC P c.G f A H2 v (ext H2 B)) ∧ HNx P c ops n K H0 k o rest s As (some (v, B))
def HDo (P : Program) (c : Cfg) (ops : Array Oper) (n : Nat) (K : FS → Prop) (H0 : Heap) (k : Nat) (o : Oper) (rest : List Oper) (s : FS) (As : List Heap) (Hn : Heap) (x : Option (FuncId × List FV)) : Prop := match x with
  | some (f, A) => HCl P c ops n K H0 k o rest s As Hn f (fnOk P f) A
  | none => HNx P c ops n K H0 k o rest s As (hMake P c o { s with H := Hn })
def HG (P : Program) (c : Cfg) (ops : Array Oper) (n : Nat) (K : FS → Prop) (H0 : Heap) (k : Nat) (o : Oper) (rest : List Oper) (s : FS) (As : List Heap) (Hn : Heap) (b : Option Bool) : Prop := match b with
  | some true => HDo P c ops n K H0 k o rest s As Hn (callee? s o)
  | some false => HNx P c ops n K H0 k o rest s As (some (.tup [], noH))
  | none => False
theorem hMake_calm {sn : FS} {d : Nat} {v : FV} {A : Heap} (hg : guardV ops o sn = some true) (hc : callee? sn o = none) (hd : o.dst = some d) (hN : d < c.N) (h : hMake P c o sn = some (v, A)) : Calm P c ops o sn d v A := by
  unfold hMake at h
  rw [Option.map_eq_some_iff] at h
  obtain ⟨⟨us, v'⟩, hv, h⟩ := h
  simp only [Prod.mk.injEq] at h
  obtain ⟨rfl, rfl⟩ := h
  exact calm_wv hg hc hd hN (by rw [hd, Option.getD_some] at hv; exact hv)
/-- a head, over the part 'Hn' of the heap that it needs -/
theorem awH_goN {n k : Nat} {H0 : Heap} {As : List Heap} (Hn : Heap) (hk : k < n) (hd : depsB ops n k o = true) (hneed : ∀ l ob, Hn l = some ob → H0 l = some ob ∨ ∃ j Aj, As[j]? = some Aj ∧ waitsB o j = true ∧ Aj l = some ob)
    (h : HG P c ops n K H0 k o rest s As Hn (guardV ops o s)) : awH P c ops n K H0 k (o :: rest) s As := by
  simp only [awH, hk, if_true]
  unfold HG HDo HCl at h
  have hgs : guardV ops o { s with H := Hn } = guardV ops o s := rfl
  have hcs : callee? { s with H := Hn } o = callee? s o := rfl
  cases hg : guardV ops o s with
  | none => rw [hg] at h; exact h.elim
  | some b =>
    rw [hg] at h
    cases b
    · simp only [HNx] at h
      cases hdst : o.dst with
      | none => rw [hdst] at h; exact h.elim
      | some d =>
        rw [hdst] at h
        obtain ⟨h1, h2, h3⟩ := h
        exact ⟨d, _, noH, Hn, _, (calm_nop (hgs.trans hg) hdst h1).two, hd, fun l hl => .inr (h2 l hl), fun _ h => h.elim, fun l ob hl => (hneed l ob hl).imp_right .inr, h3⟩
    · simp only at h
      cases hc : callee? s o with
      | none =>
        rw [hc] at h
        simp only [HNx] at h
        split at h
        · rename_i v A d hm hdst
          obtain ⟨h1, h2, h3⟩ := h
          exact ⟨d, v, A, Hn, _, (hMake_calm (hgs.trans hg) (hcs.trans hc) hdst h1 hm).two, hd, fun l hl => .inr (h2 l hl), fun _ h => h.elim, fun l ob hl => (hneed l ob hl).imp_right .inr, h3⟩
        · exact h.elim
      | some x =>
        obtain ⟨f, A⟩ := x
        rw [hc] at h
        simp only at h
        obtain ⟨hf, v, B, hfc, h⟩ := h
        simp only [HNx] at h
        cases hdst : o.dst with
        | none => rw [hdst] at h; exact h.elim
        | some d =>
          rw [hdst] at h
          obtain ⟨h1, h2, h3⟩ := h
          exact ⟨d, v, B, Hn, _, (calm_call (hgs.trans hg) (hcs.trans hc) hf hdst h1 hfc).two, hd, fun l hl => .inr (h2 l hl), fun _ h => h.elim, fun l ob hl => (hneed l ob hl).imp_right .inr, h3⟩
theorem awH_go {n k : Nat} {H0 : Heap} {As : List Heap} (hk : k < n) (hd : depsB ops n k o = true) (h : HG P c ops n K H0 k o rest s As H0 (guardV ops o s)) : awH P c ops n K H0 k (o :: rest) s As :=
  awH_goN H0 hk hd (fun _ _ h => .inl h) h
theorem awH_tail {n k : Nat} {H0 : Heap} {l : List Oper} {As : List Heap} (hk : ¬ k < n) (h : wOps P c ops l K s) : awH P c ops n K H0 k l s As := by
  cases l with
  | nil => exact h
  | cons o rest => simp only [awH, hk, if_false]; exact h
theorem HG_t {n k : Nat} {H0 Hn : Heap} {As : List Heap} : HG P c ops n K H0 k o rest s As Hn (some true) = HDo P c ops n K H0 k o rest s As Hn (callee? s o) := rfl
theorem HG_f {n k : Nat} {H0 Hn : Heap} {As : List Heap} : HG P c ops n K H0 k o rest s As Hn (some false) = HNx P c ops n K H0 k o rest s As (some (.tup [], noH)) := rfl
theorem HDo_n {n k : Nat} {H0 Hn : Heap} {As : List Heap} : HDo P c ops n K H0 k o rest s As Hn none = HNx P c ops n K H0 k o rest s As (hMake P c o { s with H := Hn }) := rfl
theorem HDo_c {n k : Nat} {H0 Hn : Heap} {As : List Heap} {f : FuncId} {A : List FV} : HDo P c ops n K H0 k o rest s As Hn (some (f, A)) = HCl P c ops n K H0 k o rest s As Hn f (fnOk P f) A := rfl
theorem hpc {n k : Nat} {H0 Hn : Heap} {As : List Heap} {f : FuncId} {A : List FV} {r : FV} (hp : PC P c.G f A r) (ha : nls A = true) (h : HNx P c ops n K H0 k o rest s As (some (r, noH))) : HCl P c ops n K H0 k o rest s As Hn f true A :=
  ⟨rfl, r, noH, fun H2 _ _ => hp.lift ha H2, h⟩
theorem frz_mono {H H2 : Heap} (hs : HSub H H2) : ∀ n, (∀ x y, frz H n x = some y → frz H2 n x = some y) ∧ (∀ x y, frzs H n x = some y → frzs H2 n x = some y) ∧ (∀ x y, frzR H n x = some y → frzR H2 n x = some y)
  | 0 => ⟨fun _ _ h => by simp [frz] at h, fun _ _ h => by simp [frzs] at h, fun _ _ h => by simp [frzR] at h⟩
  | n + 1 => by
    obtain ⟨i1, i2, i3⟩ := frz_mono hs n
    refine ⟨fun x y h => ?_, fun x y h => ?_, fun x y h => ?_⟩
    · cases x with
      | sl l sz off len =>
        simp only [frz] at h ⊢
        split at h
        · rename_i T sz' xs hl
          simp only [hs _ _ hl]
          split at h
          · rename_i hc
            rw [if_pos hc]
            rw [Option.map_eq_some_iff] at h ⊢
            obtain ⟨ys, hys, rfl⟩ := h
            exact ⟨ys, i3 _ _ hys, rfl⟩
          · cases h
        · cases h
      | agg cs =>
        simp only [frz] at h ⊢
        split at h
        · rename_i hc; rw [if_pos hc]; exact h
        · rename_i hc
          rw [if_neg hc]
          rw [Option.map_eq_some_iff] at h ⊢
          obtain ⟨ys, hys, rfl⟩ := h
          exact ⟨ys, i2 _ _ hys, rfl⟩
      | tup cs =>
        simp only [frz] at h ⊢
        split at h
        · rename_i hc; rw [if_pos hc]; exact h
        · rename_i hc
          rw [if_neg hc]
          rw [Option.map_eq_some_iff] at h ⊢
          obtain ⟨ys, hys, rfl⟩ := h
          exact ⟨ys, i2 _ _ hys, rfl⟩
      | _ => exact h
    · cases x with
      | nil => exact h
      | cons x xs =>
        simp only [frzs] at h ⊢
        rw [Option.bind_eq_some_iff] at h ⊢
        obtain ⟨z, hz, h⟩ := h
        rw [Option.map_eq_some_iff] at h
        obtain ⟨ys, hys, rfl⟩ := h
        exact ⟨z, i1 _ _ hz, by rw [Option.map_eq_some_iff]; exact ⟨ys, i2 _ _ hys, rfl⟩⟩
    · simp only [frzR] at h ⊢
      split at h
      · rename_i hc; rw [if_pos hc]; exact h
      · rename_i hc
        rw [if_neg hc]
        cases x with
        | nil => exact h
        | cons x xs =>
          simp only at h ⊢
          rw [Option.bind_eq_some_iff] at h ⊢
          obtain ⟨z, hz, h⟩ := h
          rw [Option.map_eq_some_iff] at h
          obtain ⟨ys, hys, rfl⟩ := h
          exact ⟨z, i2 _ _ hz, by rw [Option.map_eq_some_iff]; exact ⟨ys, i3 _ _ hys, rfl⟩⟩
theorem hlend {n k : Nat} {H0 Hn : Heap} {As : List Heap} {f : FuncId} {A A1 A2 : List FV} {r : FV} (q : Nat) (hp : PC P c.G f A2 r) (hz : frzs Hn q A = some A1) (ha : asRs A1 A2) (hs : sca r = true) (h : HNx P c ops n K H0 k o rest s As (some (r, noH))) :
    HCl P c ops n K H0 k o rest s As Hn f true A := ⟨rfl, r, noH, fun H2 h1 _ => hp.lend ((frz_mono h1 q).2.1 _ _ hz) ha hs, h⟩
theorem hnx_go {n k : Nat} {H0 : Heap} {As : List Heap} {v : FV} {A : Heap} {d : Nat} (hd : o.dst = some d) (hN : d < c.N) (hf : ∀ l, A l ≠ none → s.H l = none) (h : awH P c ops n K H0 (k + 1) rest ({ s with H := ext s.H A }.put d v) (As ++ [A])) :
    HNx P c ops n K H0 k o rest s As (some (v, A)) := by
  simp only [HNx, hd]; exact ⟨hN, hf, h⟩
theorem fresh_noH : ∀ l, noH l ≠ none → s.H l = none := fun _ h => absurd rfl h
theorem fresh_upd {l0 : Loc} {ob : FO} (h : s.H l0 = none) : ∀ l, upd noH l0 ob l ≠ none → s.H l = none := fun l hl => by
  unfold upd at hl
  split at hl
  · rename_i e; subst e; exact h
  · exact absurd rfl hl
theorem hgsplit {n k : Nat} {H0 Hn : Heap} {As : List Heap} {b : Bool} (ht : b = true → HDo P c ops n K H0 k o rest s As Hn (callee? s o)) (hf : b = false → HNx P c ops n K H0 k o rest s As (some (.tup [], noH))) : HG P c ops n K H0 k o rest s As Hn (some b) := by
  cases b
  · exact hf rfl
  · exact ht rfl
theorem hgsplit_n {n k : Nat} {H0 Hn : Heap} {As : List Heap} {b : Bool} (ht : b = false → HDo P c ops n K H0 k o rest s As Hn (callee? s o)) (hf : b = true → HNx P c ops n K H0 k o rest s As (some (.tup [], noH))) : HG P c ops n K H0 k o rest s As Hn (some !b) := by
  cases b
  · exact ht rfl
  · exact hf rfl
theorem hgsplit_d {n k : Nat} {H0 Hn : Heap} {As : List Heap} {p : Prop} [Decidable p] (ht : p → HDo P c ops n K H0 k o rest s As Hn (callee? s o)) (hf : ¬ p → HNx P c ops n K H0 k o rest s As (some (.tup [], noH))) : HG P c ops n K H0 k o rest s As Hn (some (decide p)) :=
  hgsplit (fun h => ht (of_decide_eq_true h)) (fun h => hf (of_decide_eq_false h))
theorem hgsplit_nd {n k : Nat} {H0 Hn : Heap} {As : List Heap} {p : Prop} [Decidable p] (ht : ¬ p → HDo P c ops n K H0 k o rest s As Hn (callee? s o)) (hf : p → HNx P c ops n K H0 k o rest s As (some (.tup [], noH))) : HG P c ops n K H0 k o rest s As Hn (some !decide p) :=
  hgsplit_n (fun h => ht (of_decide_eq_false h)) (fun h => hf (of_decide_eq_true h))

/-! ### the end of a pure function -/
theorem pend_r {res : List ResultVar} {r : FV} {l : List FV} {y : FV} (n : Nat) (h1 : resL P s res = some l) (h2 : frz s.H n (tupOf l) = some y) (h3 : asR y r) : PEnd P res r .ret s := ⟨.inr rfl, s, Wk.refl s, l, h1, n, y, h2, h3⟩
theorem pend_n {res : List ResultVar} {r : FV} {l : List FV} {y : FV} (n : Nat) (h1 : resL P s res = some l) (h2 : frz s.H n (tupOf l) = some y) (h3 : asR y r) : PEnd P res r .normal s := ⟨.inl rfl, s, Wk.refl s, l, h1, n, y, h2, h3⟩
def frzRes (H : Heap) : Option (List FV) → Option FV
  | some l => frz H 8 (tupOf l)
  | none => none
theorem frzRes_s (H : Heap) (l : List FV) : frzRes H (some l) = frz H 8 (tupOf l) := rfl
def PFin (x : Option FV) (r : FV) : Prop := match x with
  | some y => asR y r
  | none => False
theorem PFin_s {y r : FV} : PFin (some y) r = asR y r := rfl
theorem pfin_ok {res : List ResultVar} {r : FV} {e : Exit} (he : e = .normal ∨ e = .ret) (h : PFin (frzRes s.H (resL P s res)) r) : PEnd P res r e s := by
  unfold PFin at h
  split at h
  · rename_i y hy
    unfold frzRes at hy
    split at hy
    · rename_i l hl
      exact ⟨he, s, Wk.refl s, l, hl, 8, y, hy, h⟩
    · cases hy
  · exact h.elim
theorem pfin_r {res : List ResultVar} {r : FV} (h : PFin (frzRes s.H (resL P s res)) r) : PEnd P res r .ret s := pfin_ok (.inr rfl) h
theorem pfin_n {res : List ResultVar} {r : FV} (h : PFin (frzRes s.H (resL P s res)) r) : PEnd P res r .normal s := pfin_ok (.inl rfl) h
theorem PC_go {G : List (Nat × List Value)} {f : FuncId} {fn : Func} {code : Code} {res : List ResultVar} (nv n : Nat) (keep : List Nat) (nm : Nat → List Nat → Loc) {args : List FV} {r : FV} (hf : P.funcs[f]? = some fn) (hb : fn.body = some code) (hn : fn.ntmps = n) (hres : fn.results.toList = res)
    (hargs : args.length ≤ nv) (hnv : nv ≤ n) (h : wCode P ⟨n, keep, nm, G, fun _ => False⟩ code (PEnd P res r) (FS.init nv args noH)) : PC P G f args r := by
  subst hn hres
  exact PC_of hf hb rfl hargs hnv h
theorem le_of {vs1 vs : List FV} {tm : Asg} {H1 H : Heap} {ix1 ix : List Nat} (hv : vs1.length = vs.length) (hg : ∀ p ∈ vs1.zip vs, p.1 = .undef ∨ p.1 = p.2) (hH : HLe H1 H) : Wk (FS.mk vs1 [] H1 ix1) ⟨vs, tm, H, ix⟩ := by
  have h1 : (FS.mk vs1 [] H1 ix).le ⟨vs, tm, H, ix⟩ := by
    refine ⟨hv, fun t => ?_, hH⟩
    unfold FS.get
    simp only
    rw [← hv]
    split
    · rename_i ht
      have h2 : t < vs.length := by omega
      rw [List.getD_eq_getElem?_getD, List.getD_eq_getElem?_getD, List.getElem?_eq_getElem ht, List.getElem?_eq_getElem h2]
      have hz : (vs1.zip vs)[t]? = some (vs1[t], vs[t]) := by
        rw [List.getElem?_zip_eq_some]
        exact ⟨List.getElem?_eq_getElem ht, List.getElem?_eq_getElem h2⟩
      simpa using hg _ (List.mem_of_getElem? hz)
    · exact .inl rfl
  exact (ix_wk _ ix1).trans h1.wk
theorem HLe.refl (H : Heap) : HLe H H := fun _ => .inl rfl
theorem min_if (a b : Int) : (if b < a then b else a) = min a b := by omega
end
end Go.FM
namespace Go.FM
open Go Go.RowKit

/-! ### functions whose result is new memory -/
mutual
/-- a value that leads to no memory -/
def nf : FV → Bool
  | .undef | .int .. | .bool _ | .str _ | .nilp | .nils | .nilm | .nilf | .emp => true
  | .agg cs => nfs cs
  | .tup cs => nfs cs
  | .list .. | .ref _ | .ptr .. | .sl .. | .mp _ | .clo .. => false
def nfs : List FV → Bool
  | [] => true
  | x :: xs => nf x && nfs xs
end
theorem nfs_all (l : List FV) : nfs l = l.all nf := by
  induction l with
  | nil => rfl
  | cons x l ih => simp [nfs, ih]
section
variable {P : Program} {G : List (Nat × List Value)} {f : FuncId} {w w' : World} {F F' : Nat → Prop} {U U' : Loc → Prop} {m m' : Loc → Nat × Nat} {H : Heap}
mutual
theorem RF.free {a : FV} {v : Value} (h : RF w F U m a v) (ha : nf a = true) (w' : World) (F' : Nat → Prop) (U' : Loc → Prop) (m' : Loc → Nat × Nat) : RF w' F' U' m' a v :=
  match h with
  | .undef v => .undef v
  | .int k n => .int k n
  | .bool b => .bool b
  | .str s => .str s
  | .list .. => by simp [nf] at ha
  | .ref .. => by simp [nf] at ha
  | .agg cs vs h => .agg cs vs (RFs.free h ha w' F' U' m')
  | .tup cs vs h => .tup cs vs (RFs.free h ha w' F' U' m')
  | .ptr .. => by simp [nf] at ha
  | .nilp => .nilp
  | .sl .. => by simp [nf] at ha
  | .sl0 .. => by simp [nf] at ha
  | .nils => .nils
  | .mp .. => by simp [nf] at ha
  | .nilm => .nilm
  | .clo .. => by simp [nf] at ha
  | .nilf => .nilf
  | .emp A => .emp A
theorem RFs.free {as : List FV} {vs : List Value} (h : RFs w F U m as vs) (ha : nfs as = true) (w' : World) (F' : Nat → Prop) (U' : Loc → Prop) (m' : Loc → Nat × Nat) : RFs w' F' U' m' as vs :=
  match h with
  | .nil => .nil
  | .cons a v as vs h hs => by
    simp only [nfs, Bool.and_eq_true] at ha
    exact .cons a v as vs (RF.free h ha.1 w' F' U' m') (RFs.free hs ha.2 w' F' U' m')
end
/-- a result seen as new and read-only -/
def frzN (H : Heap) : FV → Option FV
  | .sl l sz off len => match H l with
    | some (.cells _ sz' xs) => if decide (sz' = sz) && (decide (off + len ≤ xs.length) && nfs ((xs.drop off).take len).flatten) then some (.list sz ((xs.drop off).take len)) else none
    | _ => none
  | v => if nf v then some v else none
theorem frzN_ok (hH : HeapR w F m H) {x y : FV} {v : Value} (h : frzN H x = some y) (hx : RF w F (fun l => H l ≠ none) m x v) : RF w (fun b => ∃ l, Live H m l ∧ (m l).1 = b) (fun _ => False) m' y v := by
  have plain : (if nf x then some x else none) = some y → RF w (fun b => ∃ l, Live H m l ∧ (m l).1 = b) (fun _ => False) m' y v := fun h => by
    split at h
    · rename_i hn
      obtain rfl := Option.some.inj h
      exact hx.free hn _ _ _ _
    · cases h
  cases x with
  | sl l sz off len =>
    simp only [frzN] at h
    split at h
    case h_2 => cases h
    rename_i T sz' xs hl
    split at h
    case isFalse => cases h
    rename_i hc
    simp only [Bool.and_eq_true, decide_eq_true_eq] at hc
    obtain ⟨hsz, hlen, hnf⟩ := hc
    rw [hsz] at hl
    obtain rfl := Option.some.inj h
    have hcl : ((xs.drop off).take len).length = len := by simp; omega
    rcases hH.obj l _ hl with ⟨rfl, h0⟩ | ⟨h0, c, g1, g2, g3, g4, g5⟩
    · have hl0 : len = 0 := by simp at hlen; omega
      subst hl0
      cases hx with
      | sl _ _ _ _ cap o hu hcap ho hs => simpa using RF.list sz [] _ cap [] (by simp) (by simp) (by simp) .nil
      | sl0 => simpa using RF.list sz [] _ 0 [] (by simp) (by simp) (by simp) .nil
    · have hpart := (g5.drop (off * sz)).take (len * sz)
      rw [← drop_flatten off xs g3, ← take_flatten len _ (fun x hx => g3 x (List.mem_of_mem_drop hx))] at hpart
      have hlive : Live H m l := ⟨_, hl, by simp, h0⟩
      cases hx with
      | sl _ _ _ _ cap o hu hcap ho hs =>
        have := RF.list (w := w) (F := fun b => ∃ l, Live H m l ∧ (m l).1 = b) (U := fun _ => False) (m := m') sz ((xs.drop off).take len) (some ⟨(m l).1, o, none⟩) cap _ (fun x hx => g3 x (List.mem_of_mem_drop (List.mem_of_mem_take hx))) (by omega) (fun hne => ?_) (hpart.free hnf _ _ _ _)
        · rw [hcl] at this; exact this
        · have hpos : 0 < len := by
            rcases Nat.eq_zero_or_pos len with e | e
            · exact absurd (List.eq_nil_of_length_eq_zero (by omega)) hne
            · exact e
          have ho' : o = off * sz := ho.resolve_left (by omega)
          refine ⟨_, rfl, ⟨l, hlive, rfl⟩, fun j u hj => ?_⟩
          rw [List.getElem?_take] at hj
          split at hj
          · rw [List.getElem?_drop, List.getElem?_take] at hj
            split at hj
            · rw [add0, cell_blk g1, ho']; simpa using hj
            · cases hj
          · cases hj
      | sl0 _ _ _ _ hu h00 => exact absurd h00 h0
  | _ => exact plain h
/-- a pure function whose result is new memory -/
def PCn (P : Program) (G : List (Nat × List Value)) (f : FuncId) (args : List FV) (r : FV) : Prop :=
  ∀ (w : World) (F : Nat → Prop) (m : Loc → Nat × Nat) (vs : List Value), (∀ y, F y → y < w.heap.size) → GlobOk G F w → RFs w F (fun _ => False) m args vs →
    Calls P f vs.toArray w fun e w' => ∃ (v : Value) (F' : Nat → Prop), e = .returned v ∧ (∀ y, F' y → w.heap.size ≤ y ∧ y < w'.heap.size) ∧ RF w' F' (fun _ => False) m r v ∧ Below w.heap.size w w'
def NEnd (P : Program) (res : List ResultVar) (r : FV) (e : Exit) (s : FS) : Prop :=
  (e = .normal ∨ e = .ret) ∧ ∃ s1, Wk s1 s ∧ ∃ l, resL P s1 res = some l ∧ ∃ y, frzN s1.H (tupOf l) = some y ∧ asR y r
theorem PCn_of {fn : Func} {code : Code} {c : Cfg} {nv : Nat} {args : List FV} {r : FV} (hf : P.funcs[f]? = some fn) (hb : fn.body = some code) (hN : c.N = fn.ntmps)
    (hargs : args.length ≤ nv) (hnv : nv ≤ fn.ntmps) (h : wCode P c code (NEnd P fn.results.toList r) (FS.init nv args noH)) : PCn P c.G f args r := by
  intro w F m vs hF hG hv
  have hv' : RFs w F (fun l => noH l ≠ none) m args vs := hv.keep (fun _ h => h) (fun _ _ => rfl) (fun _ h => h.elim) (fun _ h => h.elim)
  refine (fn_run hf hb hN hargs hnv h (fun _ h => absurd rfl h) w F m vs hF hG hv' (heapR_noH _ _ _)).mono ?_
  rintro e w' ⟨v, s1, l, F', m', a, rfl, ⟨y, hy, hr⟩, k1, k2, hR, hv2⟩
  have hnol : ∀ b, ¬ Ctx.lent ⟨w, F, noH, m⟩ b := fun b ⟨l, ⟨_, h, _⟩, _⟩ => by cases h
  refine ⟨v, _, rfl, fun b ⟨l, hl, e⟩ => ?_, (frzN_ok (m' := m) hR.heap hy hv2).asR hr, ⟨hR.os, hR.tape, hR.output, hR.size, fun b hb' => hR.keep b hb' (hnol b)⟩⟩
  rw [← e]
  exact ⟨(hR.own l hl).resolve_left (hnol _), (hR.heap.old l hl).1⟩
theorem PCn.pc {args : List FV} {r : FV} (h : PCn P G f args r) : PC P G f args r := by
  intro w F m vs hF hG hv hH
  refine (h w F m vs hF hG (hv.keep (fun _ h => h) (fun _ _ => rfl) (fun _ h => absurd rfl h) (fun _ h => absurd rfl h))).mono ?_
  rintro e w' ⟨v, F', rfl, h1, h2, hb⟩
  exact ⟨v, fun b => F b ∨ F' b, m, rfl, fun _ h => .inl h, fun y hy => by
    rcases hy with hy | hy
    · exact ⟨.inl hy, Nat.lt_of_lt_of_le (hF y hy) hb.size⟩
    · exact ⟨.inr (h1 y hy).1, (h1 y hy).2⟩, fun l hl => absurd rfl hl, h2.keep (fun _ h => .inr h) (fun _ _ => rfl) (fun _ h => h.elim) (fun _ h => h.elim), heapR_noH _ _ _, fun l ⟨_, h, _⟩ => (by cases h), hb.size, fun y hy _ => hb.block y hy, hb.os, hb.tape, hb.output⟩
/-- what is made here may be lent to it -/
theorem PCn.lend {args args1 args2 : List FV} {r : FV} {n : Nat} (hz : frzs H n args = some args1) (ha : asRs args1 args2) (h : PCn P G f args2 r) : FC P G f args H r H := by
  intro w F m vs hF hG hv hH
  obtain ⟨g1, _⟩ := (frz_ok (m' := m) hH n).2.1 _ _ _ hz hv
  refine (h w (frzF F H m) m vs (fun y hy => ?_) (hG.mono fun _ _ h => .inl h) (g1.asR ha)).mono ?_
  · rcases hy with hy | ⟨l, hl, rfl⟩
    · exact hF y hy
    · exact (hH.old l hl).1
  · rintro e w' ⟨v, F', rfl, h1, h2, hb⟩
    have hR := hH.below hF hb
    refine ⟨v, fun b => F b ∨ F' b, m, rfl, fun _ h => .inl h, fun y hy => ?_, fun l hl => ⟨rfl, hl⟩, h2.keep (fun _ h => .inr h) (fun _ _ => rfl) (fun _ h => h.elim) (fun _ h => h.elim), ?_, fun l hl => .inl ⟨l, hl, rfl⟩, hb.size, fun y hy _ => hb.block y hy, hb.os, hb.tape, hb.output⟩
    · rcases hy with hy | hy
      · exact ⟨.inl hy, Nat.lt_of_lt_of_le (hF y hy) hb.size⟩
      · exact ⟨.inr (h1 y hy).1, (h1 y hy).2⟩
    · refine ⟨fun l o ho => (hR.obj l o ho).keep (fun _ h => .inl h) (fun _ _ => rfl) (fun _ h => h) (fun _ _ => rfl) rfl (fun _ _ => rfl), hR.inj, fun l hl => ⟨(hR.old l hl).1, fun hF' => ?_⟩⟩
      rcases hF' with hF' | hF'
      · exact (hR.old l hl).2 hF'
      · have := (h1 _ hF').1
        have := (hH.old l hl).1
        omega
end

/-! ### the driver's forms -/
section
variable {P : Program} {c : Cfg} {Q : Exit → FS → Prop} {s : FS} {K : FS → Prop} {ops : Array Oper} {o : Oper} {rest : List Oper}
theorem lp_here {b : Code} (h : wCode P c (.loop b) Q s) : wCode P c (.loop b) Q s := h
theorem kl_here {σ : Type} {st : σ → FS} {μ : σ → Nat} {x : σ} (h : KLoop c st μ x Q .normal s) : KLoop c st μ x Q .normal s := h
theorem call_lendn {f : FuncId} {A A1 A2 : List FV} {r : FV} (n : Nat) (hpc : PCn P c.G f A2 r) (hz : frzs s.H n A = some A1) (ha : asRs A1 A2) (h : StK P c ops rest K (putD c o r s)) : CallG P c ops o rest K s f true A := ⟨rfl, r, s.H, hpc.lend hz ha, h⟩
theorem hlendn {n k : Nat} {H0 Hn : Heap} {As : List Heap} {f : FuncId} {A A1 A2 : List FV} {r : FV} (q : Nat) (hp : PCn P c.G f A2 r) (hz : frzs Hn q A = some A1) (ha : asRs A1 A2) (h : HNx P c ops n K H0 k o rest s As (some (r, noH))) :
    HCl P c ops n K H0 k o rest s As Hn f true A := ⟨rfl, r, noH, fun H2 h1 _ => hp.lend ((frz_mono h1 q).2.1 _ _ hz) ha, h⟩
def frzNRes (H : Heap) : Option (List FV) → Option FV
  | some l => frzN H (tupOf l)
  | none => none
theorem frzNRes_s (H : Heap) (l : List FV) : frzNRes H (some l) = frzN H (tupOf l) := rfl
theorem nfin_ok {res : List ResultVar} {r : FV} {e : Exit} (he : e = .normal ∨ e = .ret) (h : PFin (frzNRes s.H (resL P s res)) r) : NEnd P res r e s := by
  unfold PFin at h
  split at h
  · rename_i y hy
    unfold frzNRes at hy
    split at hy
    · rename_i l hl
      exact ⟨he, s, Wk.refl s, l, hl, y, hy, h⟩
    · cases hy
  · exact h.elim
theorem nfin_r {res : List ResultVar} {r : FV} (h : PFin (frzNRes s.H (resL P s res)) r) : NEnd P res r .ret s := nfin_ok (.inr rfl) h
theorem nfin_n {res : List ResultVar} {r : FV} (h : PFin (frzNRes s.H (resL P s res)) r) : NEnd P res r .normal s := nfin_ok (.inl rfl) h
theorem PCn_go {G : List (Nat × List Value)} {f : FuncId} {fn : Func} {code : Code} {res : List ResultVar} (nv n : Nat) (keep : List Nat) (nm : Nat → List Nat → Loc) {args : List FV} {r : FV} (hf : P.funcs[f]? = some fn) (hb : fn.body = some code) (hn : fn.ntmps = n) (hres : fn.results.toList = res)
    (hargs : args.length ≤ nv) (hnv : nv ≤ n) (h : wCode P ⟨n, keep, nm, G, fun _ => False⟩ code (NEnd P res r) (FS.init nv args noH)) : PCn P G f args r := by
  subst hn hres
  exact PCn_of (c := ⟨fn.ntmps, keep, nm, G, fun _ => False⟩) hf hb rfl hargs hnv h
end
end Go.FM
namespace Go.FM
open Go

/-! ### new names for old ones: what no slot leads to is forgotten -/
mutual
def ren (β : Loc → Option Loc) : FV → FV
  | .ptr l sz i off => match β l with
    | some k => .ptr k sz i off
    | none => .undef
  | .sl l sz off len => match β l with
    | some k => .sl k sz off len
    | none => .nils
  | .mp l => match β l with
    | some k => .mp k
    | none => .undef
  | .agg cs => .agg (rens β cs)
  | .tup cs => .tup (rens β cs)
  | .clo f a b => .clo f (rens β a) (rens β b)
  | v => v
def rens (β : Loc → Option Loc) : List FV → List FV
  | [] => []
  | v :: vs => ren β v :: rens β vs
end
mutual
def inn (β : Loc → Option Loc) (U : Loc → Prop) : FV → Prop
  | .ptr l _ _ _ => U l ∧ (β l).isSome = true
  | .sl l _ _ len => U l ∧ ((β l).isSome = true ∨ len = 0)
  | .mp l => U l ∧ (β l).isSome = true
  | .agg cs => inns β U cs
  | .tup cs => inns β U cs
  | .clo _ a b => inns β U a ∧ inns β U b
  | .list _ xs => nlss xs = true
  | .ref cs => nls cs = true
  | _ => True
def inns (β : Loc → Option Loc) (U : Loc → Prop) : List FV → Prop
  | [] => True
  | v :: vs => inn β U v ∧ inns β U vs
end
section
variable {w : World} {F : Nat → Prop} {U U' : Loc → Prop} {m m' : Loc → Nat × Nat} {β : Loc → Option Loc}
mutual
theorem RF.ren {a : FV} {v : Value} (h : RF w F U m (ren β a) v) (ha : inn β U' a) (hm : ∀ l, U' l → m' l = match β l with | some k => m k | none => (0, 0)) : RF w F U' m' a v := by
  match a with
  | .ptr l sz i off =>
    simp only [inn, Option.isSome_iff_exists] at ha
    obtain ⟨hu, k, hk⟩ := ha
    have h1 := hm l hu
    simp only [hk] at h1
    simp only [FM.ren, hk] at h
    cases h with
    | ptr _ _ _ _ hu' => rw [← h1]; exact .ptr l sz i off hu
  | .sl l sz off len =>
    simp only [inn, Option.isSome_iff_exists] at ha
    obtain ⟨hu, ha⟩ := ha
    have h1 := hm l hu
    cases hk : β l with
    | none =>
      rw [hk] at ha
      have h0 : len = 0 := by
        rcases ha with ⟨k, h⟩ | h
        · cases h
        · exact h
      subst h0
      simp only [hk] at h1
      simp only [FM.ren, hk] at h
      cases h with
      | nils => exact .sl0 l sz off none hu (by rw [h1])
    | some k =>
      simp only [hk] at h1
      simp only [FM.ren, hk] at h
      cases h with
      | sl _ _ _ _ cap o hu' hc ho hs => rw [← h1] at hs ⊢; exact .sl l sz off len cap o hu hc ho hs
      | sl0 _ _ _ A hu' h0 => exact .sl0 l sz off A hu (by rw [h1]; exact h0)
  | .mp l =>
    simp only [inn, Option.isSome_iff_exists] at ha
    obtain ⟨hu, k, hk⟩ := ha
    have h1 := hm l hu
    simp only [hk] at h1
    simp only [FM.ren, hk] at h
    cases h with
    | mp _ hu' => rw [← h1]; exact .mp l hu
  | .agg cs =>
    simp only [FM.ren] at h
    cases h with
    | agg _ vs h => exact .agg cs vs (RFs.ren h ha hm)
  | .tup cs =>
    simp only [FM.ren] at h
    cases h with
    | tup _ vs h => exact .tup cs vs (RFs.ren h ha hm)
  | .clo f x y =>
    simp only [FM.ren] at h
    cases h with
    | clo _ _ _ us vs h1 h2 => exact .clo f x y us vs (RFs.ren h1 ha.1 hm) (RFs.ren h2 ha.2 hm)
  | .list sz xs => simp only [FM.ren] at h; exact h.nameless (by simpa [nl, inn] using ha) _ _
  | .ref cs => simp only [FM.ren] at h; exact h.nameless (by simpa [nl, inn] using ha) _ _
  | .undef => exact h.nameless rfl _ _
  | .int .. => exact h.nameless rfl _ _
  | .bool _ => exact h.nameless rfl _ _
  | .str _ => exact h.nameless rfl _ _
  | .nilp => exact h.nameless rfl _ _
  | .nils => exact h.nameless rfl _ _
  | .nilm => exact h.nameless rfl _ _
  | .nilf => exact h.nameless rfl _ _
  | .emp => exact h.nameless rfl _ _
theorem RFs.ren {as : List FV} {vs : List Value} (h : RFs w F U m (rens β as) vs) (ha : inns β U' as) (hm : ∀ l, U' l → m' l = match β l with | some k => m k | none => (0, 0)) : RFs w F U' m' as vs := by
  match as with
  | [] => simp only [rens] at h; cases h; exact .nil
  | a :: as =>
    simp only [rens] at h
    cases h with
    | cons _ v _ vs h hs => exact .cons a v as vs (RF.ren h ha.1 hm) (RFs.ren hs ha.2 hm)
end
/-- rows -/
def renss (β : Loc → Option Loc) : List (List FV) → List (List FV)
  | [] => []
  | v :: vs => rens β v :: renss β vs
def innss (β : Loc → Option Loc) (U : Loc → Prop) : List (List FV) → Prop
  | [] => True
  | v :: vs => inns β U v ∧ innss β U vs
def rene (β : Loc → Option Loc) : List (FV × FV × Nat) → List (FV × FV × Nat)
  | [] => []
  | (k, v, n) :: es => (ren β k, ren β v, n) :: rene β es
def inne (β : Loc → Option Loc) (U : Loc → Prop) : List (FV × FV × Nat) → Prop
  | [] => True
  | (k, v, _) :: es => (inn β U k ∧ inn β U v) ∧ inne β U es
def renO (β : Loc → Option Loc) : FO → FO
  | .cells T sz xs => .cells T sz (renss β xs)
  | .map es clk => .map (rene β es) clk
  | .iter x a b c => .iter (ren β x) a b c
  | .dead => .dead
def innO (β : Loc → Option Loc) (U : Loc → Prop) : FO → Prop
  | .cells _ _ xs => innss β U xs
  | .map es _ => inne β U es
  | .iter x _ _ _ => inn β U x
  | .dead => True
theorem rens_length (as : List FV) : (rens β as).length = as.length := by
  induction as with
  | nil => rfl
  | cons a as ih => simp [rens, ih]
theorem renss_length (xs : List (List FV)) : (renss β xs).length = xs.length := by
  induction xs with
  | nil => rfl
  | cons a as ih => simp [renss, ih]
theorem renss_mem {sz : Nat} {xs : List (List FV)} (h : ∀ x ∈ renss β xs, x.length = sz) : ∀ x ∈ xs, x.length = sz := by
  induction xs with
  | nil => intro x hx; cases hx
  | cons a as ih =>
    simp only [renss, List.mem_cons, forall_eq_or_imp, rens_length] at h ⊢
    exact ⟨h.1, ih h.2⟩
theorem RFs.renss {xs : List (List FV)} {vs : List Value} (h : RFs w F U m (renss β xs).flatten vs) (ha : innss β U' xs) (hm : ∀ l, U' l → m' l = match β l with | some k => m k | none => (0, 0)) : RFs w F U' m' xs.flatten vs := by
  induction xs generalizing vs with
  | nil => simp only [FM.renss, List.flatten_nil] at h ⊢; cases h; exact .nil
  | cons a as ih =>
    simp only [FM.renss, List.flatten_cons] at h ⊢
    obtain ⟨v1, v2, rfl, h1, h2⟩ := RFs.part _ _ h
    exact (h1.ren ha.1 hm).append (ih h2 ha.2)
theorem REs.rene {es : List (FV × FV × Nat)} {xs : List MapEntry} (h : REs w F U m (rene β es) xs) (ha : inne β U' es) (hm : ∀ l, U' l → m' l = match β l with | some k => m k | none => (0, 0)) : REs w F U' m' es xs := by
  induction es generalizing xs with
  | nil => simp only [FM.rene] at h; cases h; exact .nil
  | cons e es ih =>
    obtain ⟨k, v, n⟩ := e
    simp only [FM.rene] at h
    cases h with
    | cons _ x _ xs h hs => exact .cons _ x es xs ⟨h.key.ren ha.1.1 hm, h.val.ren ha.1.2 hm, h.born⟩ (ih hs ha.2)
mutual
theorem ren_nl {a : FV} (h : nl a = true) : ren β a = a := by
  match a with
  | .ptr .. => simp [nl] at h
  | .sl .. => simp [nl] at h
  | .mp .. => simp [nl] at h
  | .agg cs => simp only [nl] at h; simp only [ren, rens_nl h]
  | .tup cs => simp only [nl] at h; simp only [ren, rens_nl h]
  | .clo f x y => simp only [nl, Bool.and_eq_true] at h; simp only [ren, rens_nl h.1, rens_nl h.2]
  | .list .. => rfl
  | .ref .. => rfl
  | .undef => rfl
  | .int .. => rfl
  | .bool _ => rfl
  | .str _ => rfl
  | .nilp => rfl
  | .nils => rfl
  | .nilm => rfl
  | .nilf => rfl
  | .emp => rfl
theorem rens_nl {as : List FV} (h : nls as = true) : rens β as = as := by
  match as with
  | [] => rfl
  | a :: as => simp only [nls, Bool.and_eq_true] at h; simp only [rens, ren_nl h.1, rens_nl h.2]
end
mutual
theorem inn_nl {a : FV} (h : nl a = true) : inn β U a := by
  match a with
  | .ptr .. => simp [nl] at h
  | .sl .. => simp [nl] at h
  | .mp .. => simp [nl] at h
  | .agg cs => simp only [nl] at h; exact inns_nl h
  | .tup cs => simp only [nl] at h; exact inns_nl h
  | .clo f x y => simp only [nl, Bool.and_eq_true] at h; exact ⟨inns_nl h.1, inns_nl h.2⟩
  | .list .. => simpa [nl, inn] using h
  | .ref .. => simpa [nl, inn] using h
  | .undef => trivial
  | .int .. => trivial
  | .bool _ => trivial
  | .str _ => trivial
  | .nilp => trivial
  | .nils => trivial
  | .nilm => trivial
  | .nilf => trivial
  | .emp => trivial
theorem inns_nl {as : List FV} (h : nls as = true) : inns β U as := by
  match as with
  | [] => trivial
  | a :: as => simp only [nls, Bool.and_eq_true] at h; exact ⟨inn_nl h.1, inns_nl h.2⟩
end
theorem renss_nl {xs : List (List FV)} (h : nlss xs = true) : renss β xs = xs := by
  induction xs with
  | nil => rfl
  | cons a as ih => simp only [nlss, Bool.and_eq_true] at h; simp only [renss, rens_nl h.1, ih h.2]
theorem innss_nl {xs : List (List FV)} (h : nlss xs = true) : innss β U xs := by
  induction xs with
  | nil => trivial
  | cons a as ih => simp only [nlss, Bool.and_eq_true] at h; exact ⟨inns_nl h.1, ih h.2⟩
theorem nlss_append (xs ys : List (List FV)) : nlss (xs ++ ys) = (nlss xs && nlss ys) := by
  induction xs with
  | nil => rfl
  | cons a as ih => simp [nlss, ih, Bool.and_assoc]
def nle (es : List (FV × FV × Nat)) : Bool := es.all fun e => nl e.1 && nl e.2.1
theorem nle_nil : nle [] = true := rfl
theorem nle_cons (e : FV × FV × Nat) (es : List (FV × FV × Nat)) : nle (e :: es) = ((nl e.1 && nl e.2.1) && nle es) := rfl
theorem nle_append (xs ys : List (FV × FV × Nat)) : nle (xs ++ ys) = (nle xs && nle ys) := by simp [nle]
theorem rene_nl {es : List (FV × FV × Nat)} (h : nle es = true) : rene β es = es := by
  induction es with
  | nil => rfl
  | cons e es ih =>
    obtain ⟨k, v, n⟩ := e
    simp only [nle, List.all_cons, Bool.and_eq_true] at h
    simp only [rene, ren_nl h.1.1, ren_nl h.1.2, ih h.2]
theorem inne_nl {es : List (FV × FV × Nat)} (h : nle es = true) : inne β U es := by
  induction es with
  | nil => trivial
  | cons e es ih =>
    obtain ⟨k, v, n⟩ := e
    simp only [nle, List.all_cons, Bool.and_eq_true] at h
    exact ⟨⟨inn_nl h.1.1, inn_nl h.1.2⟩, ih h.2⟩
end

section
variable {X : Ctx} {c : Cfg} {w : World} {F : Nat → Prop} {m : Loc → Nat × Nat} {s s1 : FS} {a : Act}
theorem gk_sim (β : Loc → Option Loc) (hv : s1.vars.length = s.vars.length) (ht : ∀ t, s1.get t = .undef ∨ (ren β (s1.get t) = s.get t ∧ inn β (fun l => s1.H l ≠ none) (s1.get t)))
    (hH : ∀ l o, s1.H l = some o → o = .dead ∨ (∃ k, β l = some k ∧ s.H k = some (renO β o) ∧ innO β (fun l => s1.H l ≠ none) o) ∨ (β l = none ∧ ∃ T sz, o = .cells T sz []))
    (hinj : ∀ l l' k, s1.H l ≠ none → s1.H l' ≠ none → β l = some k → β l' = some k → l = l')
    (hL : ∀ l, c.L l → s.H l ≠ none → s1.H l ≠ none ∧ β l = some l) : Gk c s1 s := by
  rintro X a w ⟨hN, F, m, h1, h2, h⟩
  let m' : Loc → Nat × Nat := fun l => match β l with | some k => m k | none => (0, 0)
  have hm : ∀ l, s1.H l ≠ none → m' l = match β l with | some k => m k | none => (0, 0) := fun _ _ => rfl
  have hlive : ∀ l, Live s1.H m' l → ∃ k, β l = some k ∧ m' l = m k ∧ Live s.H m k := fun l ⟨o, g1, g2, g3⟩ => by
    rcases hH l o g1 with rfl | ⟨k, k1, k2, k3⟩ | ⟨k1, _⟩
    · exact absurd rfl g2
    · have e : m' l = m k := by simp only [m', k1]
      refine ⟨k, k1, e, _, k2, ?_, e ▸ g3⟩
      cases o <;> simp [renO] at g2 ⊢
    · exact absurd (by simp only [m', k1]) g3
  refine ⟨hN, F, m', h1, h2, ?_⟩
  refine { df := h.df, vsz := by rw [hv]; exact h.vsz, val := fun t => ?_, heap := ⟨fun l o ho => ?_, fun k k' hk hk' e => ?_, fun k hk => ?_⟩, own := fun l hl => ?_,
           ext := fun l hl => (hL l (h1.hd l hl) (h.ext l hl)).1, mfix := fun l hl => ?_, frz := h.frz, keep := h.keep, size := h.size, os := h.os, tape := h.tape, output := h.output }
  · rcases ht t with e | ⟨e1, e2⟩
    · rw [e]; exact .undef _
    · exact RF.ren (by rw [e1]; exact h.val t) e2 hm
  · rcases hH l o ho with rfl | ⟨k, k1, k2, k3⟩ | ⟨k1, T, sz, rfl⟩
    · trivial
    · have hob := h.heap.obj k _ k2
      have e : m' l = m k := by simp only [m', k1]
      cases o with
      | cells T sz xs =>
        simp only [renO, OR] at hob ⊢
        rw [e]
        rcases hob with ⟨b1, b2⟩ | ⟨b0, cc, b1, b2, b3, b4, b5⟩
        · left
          refine ⟨?_, b2⟩
          have := renss_length (β := β) xs
          rw [b1] at this
          exact List.eq_nil_of_length_eq_zero this.symm
        · right
          rw [renss_length] at b4 b5
          exact ⟨b0, cc, b1, b2, renss_mem b3, b4, b5.renss k3 hm⟩
      | map es clk =>
        simp only [renO, OR] at hob ⊢
        rw [e]
        obtain ⟨b0, aa, b1, b2⟩ := hob
        exact ⟨b0, aa, b1, b2.rene k3 hm⟩
      | iter x q r t =>
        simp only [renO, OR] at hob ⊢
        rw [e]
        obtain ⟨b0, aa, b1, b2⟩ := hob
        exact ⟨b0, aa, b1.ren k3 hm, b2⟩
      | dead => trivial
    · left; exact ⟨rfl, by simp only [m', k1]⟩
  · obtain ⟨q, q1, q2, q3⟩ := hlive k hk
    obtain ⟨q', q1', q2', q3'⟩ := hlive k' hk'
    have e2 : q = q' := h.heap.inj q q' q3 q3' (by rw [← q2, ← q2']; exact e)
    subst e2
    obtain ⟨o, g1, _⟩ := hk
    obtain ⟨o', g1', _⟩ := hk'
    exact hinj k k' q (by simp [g1]) (by simp [g1']) q1 q1'
  · obtain ⟨q, q1, q2, q3⟩ := hlive k hk
    rw [q2]; exact h.heap.old q q3
  · obtain ⟨q, q1, q2, q3⟩ := hlive l hl
    rw [q2]; exact h.own q q3
  · obtain ⟨_, e⟩ := hL l (h1.hd l hl) (h.ext l hl)
    show (match β l with | some k => m k | none => (0, 0)) = _
    rw [e]; exact h.mfix l hl
end

/-! ### the same, as lists -/
def hpL : List (Loc × FO) → Heap
  | [] => noH
  | (l, o) :: r => upd (hpL r) l o
theorem hpL_at (l : Loc) (o : FO) (r : List (Loc × FO)) (k : Loc) : hpL ((l, o) :: r) k = if k = l then some o else hpL r k := rfl
theorem hpL_nil (k : Loc) : hpL [] k = none := rfl
def bk : List (Loc × Option Loc) → Loc → Option Loc
  | [], l => some l
  | (k, o) :: r, l => if l = k then o else bk r l
def simV (β : Loc → Option Loc) (U : Loc → Prop) (v1 v : FV) : Prop := v1 = .undef ∨ (ren β v1 = v ∧ inn β U v1)
def simVs (β : Loc → Option Loc) (U : Loc → Prop) : List FV → List FV → Prop
  | v1 :: r1, v :: r => simV β U v1 v ∧ simVs β U r1 r
  | [], [] => True
  | _, _ => False
def simT (β : Loc → Option Loc) (U : Loc → Prop) (n : Nat) (tm : Asg) : Asg → Prop
  | [] => True
  | (t, v) :: r => (n ≤ t ∧ simV β U v (lk tm t)) ∧ simT β U n tm r
def simO (β : Loc → Option Loc) (U : Loc → Prop) (H : Heap) (l : Loc) (o : FO) : Prop := match β l with
  | some k => H k = some (renO β o) ∧ innO β U o
  | none => match o with
    | .cells _ _ [] => True
    | _ => False
def simH (β : Loc → Option Loc) (U : Loc → Prop) (H : Heap) : List (Loc × FO) → Prop
  | [] => True
  | (l, o) :: r => simO β U H l o ∧ simH β U H r
def injB (β : Loc → Option Loc) : List Loc → Bool
  | [] => true
  | l :: r => (match β l with | some k => r.all fun l' => l' == l || !(β l' == some k) | none => true) && injB β r
theorem hpL_mem : ∀ (L : List (Loc × FO)) (l : Loc) (o : FO), hpL L l = some o → (l, o) ∈ L
  | [], l, o, h => by cases h
  | (k, x) :: r, l, o, h => by
    simp only [hpL, upd] at h
    split at h
    · rename_i e; subst e; obtain rfl := Option.some.inj h; exact List.mem_cons_self
    · exact List.mem_cons_of_mem _ (hpL_mem r l o h)
theorem simH_mem {β : Loc → Option Loc} {U : Loc → Prop} {H : Heap} : ∀ {L : List (Loc × FO)}, simH β U H L → ∀ p ∈ L, simO β U H p.1 p.2
  | [], _, p, hp => by cases hp
  | (k, x) :: r, h, p, hp => by
    rcases List.mem_cons.1 hp with rfl | hp
    · exact h.1
    · exact simH_mem h.2 p hp
theorem injB_mem {β : Loc → Option Loc} : ∀ {L : List Loc}, injB β L = true → ∀ l ∈ L, ∀ l' ∈ L, ∀ k, β l = some k → β l' = some k → l = l'
  | [], _, l, hl, _, _, _, _, _ => by cases hl
  | a :: r, h, l, hl, l', hl', k, e, e' => by
    simp only [injB, Bool.and_eq_true] at h
    obtain ⟨h1, h2⟩ := h
    have key : ∀ x ∈ r, β a = some k → β x = some k → x = a := fun x hx ea ex => by
      rw [ea] at h1
      have := List.all_eq_true.1 h1 x hx
      simp only [Bool.or_eq_true, beq_iff_eq, Bool.not_eq_true', ex] at this
      rcases this with h | h
      · exact h
      · simp at h
    rcases List.mem_cons.1 hl with rfl | hl1
    · rcases List.mem_cons.1 hl' with rfl | hl2
      · rfl
      · exact (key l' hl2 e e').symm
    · rcases List.mem_cons.1 hl' with rfl | hl2
      · exact key l hl1 e' e
      · exact injB_mem h2 l hl1 l' hl2 k e e'
theorem simVs_get {β : Loc → Option Loc} {U : Loc → Prop} : ∀ {l1 l : List FV}, simVs β U l1 l → l1.length = l.length ∧ ∀ t, t < l.length → simV β U (l1.getD t .undef) (l.getD t .undef)
  | [], [], _ => ⟨rfl, fun t h => by cases h⟩
  | [], _ :: _, h => h.elim
  | _ :: _, [], h => h.elim
  | v1 :: r1, v :: r, h => by
    obtain ⟨g1, g2⟩ := simVs_get h.2
    refine ⟨by simp [g1], fun t ht => ?_⟩
    cases t with
    | zero => simpa using h.1
    | succ t => simpa using g2 t (by simpa using ht)
theorem simT_get {β : Loc → Option Loc} {U : Loc → Prop} {n : Nat} {tm : Asg} : ∀ {l : Asg}, simT β U n tm l → ∀ t, lk l t = .undef ∨ (n ≤ t ∧ simV β U (lk l t) (lk tm t))
  | [], _, t => .inl rfl
  | (k, v) :: r, h, t => by
    simp only [lk]
    split
    · rename_i e; subst e; exact .inr h.1
    · exact simT_get h.2 t
theorem gk_lst {c : Cfg} {vs1 vs : List FV} {tm1 tm : Asg} {L : List (Loc × FO)} {H : Heap} {ix1 ix : List Nat} (b : List (Loc × Option Loc)) (hc : ∀ l, ¬ c.L l) (hinj : injB (bk b) (L.map Prod.fst) = true) (hv : simVs (bk b) (fun l => hpL L l ≠ none) vs1 vs)
    (ht : simT (bk b) (fun l => hpL L l ≠ none) vs.length tm tm1) (hH : simH (bk b) (fun l => hpL L l ≠ none) H L) : Gk c (FS.mk vs1 tm1 (hpL L) ix1) ⟨vs, tm, H, ix⟩ := by
  obtain ⟨g1, g2⟩ := simVs_get hv
  have hdom : ∀ l, hpL L l ≠ none → l ∈ L.map Prod.fst := fun l hl => by
    cases h : hpL L l with
    | none => exact absurd h hl
    | some o => exact List.mem_map.2 ⟨_, hpL_mem L l o h, rfl⟩
  refine gk_sim (bk b) g1 (fun t => ?_) (fun l o ho => ?_) (fun l l' k h1 h2 => injB_mem hinj l (hdom l h1) l' (hdom l' h2) k) (fun l hl => absurd hl (hc l))
  · simp only [FS.get]
    rw [g1]
    split
    · rename_i hlt
      exact g2 t hlt
    · rcases simT_get ht t with h | h
      · exact .inl h
      · exact h.2
  · have h1 := simH_mem hH _ (hpL_mem L l o ho)
    unfold simO at h1
    split at h1
    · rename_i k hk; exact .inr (.inl ⟨k, hk, h1.1, h1.2⟩)
    · rename_i hk
      split at h1
      · rename_i T sz e; exact .inr (.inr ⟨hk, T, sz, e⟩)
      · exact h1.elim
end Go.FM
namespace Go.FM
open Go Go.ChangeShapes Go.WideShapes Go.RowKit Go.ChangeAt

/-- a law's call: it answers true, and nothing that was there turns -/
theorem PC.law {P : Program} {G : List (Nat × List Value)} {f : FuncId} {args : List FV} (h : PC P G f args (.bool true)) {w : World} {vs : List Value} (hG : GlobOk G (fun b => b < w.heap.size) w)
    (hv : RFs w (fun b => b < w.heap.size) (fun _ => False) (fun _ => (0, 0)) args vs) : Calls P f vs.toArray w fun e w' => e = .returned (.bool true) ∧ Below w.heap.size w w' := by
  refine (h w _ (fun _ => (0, 0)) vs (fun _ h => h) hG (hv.keep (fun _ h => h) (fun _ _ => rfl) (fun _ h => h.elim) (fun _ _ => rfl)) (heapR_noH _ _ _)).mono ?_
  rintro e w' ⟨v, F', m', rfl, h1, h2, h3, h4, h5, h6, h7, h8, h9, h10, h11⟩
  refine ⟨?_, h9, h10, h11, h7, fun y hy => h8 y hy fun l ⟨_, h, _⟩ => by cases h⟩
  generalize hb : FV.bool true = b at h4
  cases h4 <;> cases hb
  rfl
/-- a table that the row lists -/
theorem glob_tab {P : Program} {W : World} {name : String} {k : IntKind} {zs : List Int} {g : Nat} (h : Lib.TabIs P W name k zs) (hg : P.globalNamed name = some g) (hz : 0 < zs.length) : GlobOk [(g, zs.map fun z => Value.int k z)] (fun b => b < W.heap.size) W := by
  have hc : ∀ j v, (zs.map fun z => Value.int k z)[j]? = some v → W.cell? ⟨g, j, none⟩ = some v := fun j v hv => by
    have := World.var?_cell hg h j
    rw [this]
    simpa using hv
  have hlt : g < W.heap.size := by
    have h0 := hc 0 (.int k zs[0]) (by simp [List.getElem?_eq_getElem hz])
    rcases Nat.lt_or_ge g W.heap.size with h' | h'
    · exact h'
    · exfalso
      have : W.heap[g]? = none := by simp [h']
      simp [World.cell?, this] at h0
  intro p hp
  simp only [List.mem_singleton] at hp
  subst hp
  exact ⟨hlt, hlt, hc⟩

/-! ### what a reading says -/
mutual
/-- how many values and letters a reading holds -/
def bulk {H : Type} : DataW H → Nat
  | .lit (.string bytes) => bytes.length + 1
  | .lit _ => 1
  | .nil => 1
  | .ptr d => bulk d + 1
  | .slice elems spare => bulkAll elems + bulkAll spare + 1
  | .agg parts => bulkAll parts + 1
  | .iface _ d => bulk d + 1
  | .map entries => bulkEntries entries + 1
  | .held _ => 1
def bulkAll {H : Type} : List (DataW H) → Nat
  | [] => 0
  | d :: r => bulk d + bulkAll r
def bulkEntries {H : Type} : List (Lit × DataW H) → Nat
  | [] => 0
  | x :: r => bulkEntry x + bulkEntries r
def bulkEntry {H : Type} : Lit × DataW H → Nat
  | (.string bytes, d) => bytes.length + bulk d + 1
  | (_, d) => bulk d + 1
end
theorem bulk_mem {H : Type} : ∀ {l : List (DataW H)} {d : DataW H}, d ∈ l → bulk d ≤ bulkAll l
  | [], d, h => by cases h
  | x :: r, d, h => by
    simp only [bulkAll]
    rcases List.mem_cons.1 h with rfl | h
    · omega
    · have := bulk_mem h; omega
theorem bulk_pos {H : Type} (d : DataW H) : 0 < bulk d := by
  cases d with
  | lit l => cases l <;> simp [bulk]
  | _ => simp [bulk]
theorem bulk_len {H : Type} : ∀ l : List (DataW H), l.length ≤ bulkAll l
  | [] => Nat.le_refl _
  | x :: r => by
    have := bulk_len r
    have := bulk_pos x
    simp only [bulkAll, List.length_cons]; omega
/-- whatever is read at this type is one of the values 'f x', with 'p x' -/
def Rd (P : Program) (t : TypeId) {α : Type} (sz : Nat) (f : α → List FV) (p : Nat → α → Prop) : Prop :=
  P.cellsOf t = sz ∧ (∀ x, (f x).length = sz) ∧ ∀ (H : Type) (enc : TypeId × Value → H) (w : World) (spare : Nat → Bool) (held : Bool) (fuel : Nat) (cs : List Value) (y : DataW H × List MemPlace),
    DataW.trod enc P w 0 spare held fuel t cs = some y → ∀ N, bulk y.1 ≤ N → ∃ x, p N x ∧ RFs w (fun b => b < w.heap.size) (fun _ => False) (fun _ => (0, 0)) (f x) cs
def RdF (P : Program) (fs : List Field) (off : Nat) {α : Type} (sz : Nat) (f : α → List FV) (p : Nat → α → Prop) : Prop :=
  (∀ x, (f x).length = sz) ∧ ∀ (H : Type) (enc : TypeId × Value → H) (w : World) (spare : Nat → Bool) (held : Bool) (fuel : Nat) (cs : List Value) (N : Nat),
    (∀ (i : Nat) (f : Field), fs[i]? = some f → ∃ y, DataW.trod enc P w 0 spare held fuel f.type ((cs.drop f.offset).take (P.cellsOf f.type)) = some y ∧ bulk y.1 ≤ N) → cs.length = off + sz → ∃ x, p N x ∧ RFs w (fun b => b < w.heap.size) (fun _ => False) (fun _ => (0, 0)) (f x) (cs.drop off)
section
variable {P : Program} {t e : TypeId}
theorem rd_int {k : IntKind} (ht : P.underlying t = some (.int k)) (hc : P.cellsOf t = 1) : Rd P t 1 (fun n : Int => [.int k n]) (fun _ n => k.min ≤ n ∧ n ≤ k.max) := by
  refine ⟨hc, fun _ => rfl, fun H enc w spare held fuel cs y h N _ => ?_⟩
  obtain ⟨n, rfl, _, hw⟩ := DataW.trod_int ht h
  exact ⟨n, by simpa [Lit.wf] using hw, .cons _ _ _ _ (.int k n) .nil⟩
theorem rd_bool (ht : P.underlying t = some .bool) (hc : P.cellsOf t = 1) : Rd P t 1 (fun b : Bool => [.bool b]) (fun _ _ => True) := by
  refine ⟨hc, fun _ => rfl, fun H enc w spare held fuel cs y h N _ => ?_⟩
  obtain ⟨b, rfl, _⟩ := DataW.trod_bool ht h
  exact ⟨b, trivial, .cons _ _ _ _ (.bool b) .nil⟩
theorem rd_str (ht : P.underlying t = some .string) (hc : P.cellsOf t = 1) : Rd P t 1 (fun s : ByteArray => [.str s]) (fun N s => s.size ≤ maxLen ∧ s.size ≤ N) := by
  refine ⟨hc, fun _ => rfl, fun H enc w spare held fuel cs y h N hN => ?_⟩
  obtain ⟨s, rfl, rfl, hs⟩ := DataW.trod_string ht h
  simp only [bulk, Array.length_toList] at hN
  exact ⟨s, ⟨hs, by have e : s.data.size = s.size := rfl; omega⟩, .cons _ _ _ _ (.str s) .nil⟩
theorem rdf_nil {off : Nat} : RdF P [] off 0 (fun _ : Unit => []) (fun _ _ => True) := by
  refine ⟨fun _ => rfl, fun H enc w spare held fuel cs N h hl => ⟨(), trivial, ?_⟩⟩
  rw [List.drop_eq_nil_of_le (by omega)]
  exact .nil
theorem rdf_cons {fl : Field} {fs : List Field} {off sz1 sz2 : Nat} {α β : Type} {f : α → List FV} {p : Nat → α → Prop} {g : β → List FV} {q : Nat → β → Prop} (ho : fl.offset = off) (h1 : Rd P fl.type sz1 f p) (h2 : RdF P fs (off + sz1) sz2 g q) :
    RdF P (fl :: fs) off (sz1 + sz2) (fun x : α × β => f x.1 ++ g x.2) (fun N x => p N x.1 ∧ q N x.2) := by
  refine ⟨fun x => by simp [h1.2.1, h2.1], fun H enc w spare held fuel cs N h hl => ?_⟩
  obtain ⟨y, hy, hN⟩ := h 0 fl rfl
  obtain ⟨a, ha, hra⟩ := h1.2.2 H enc w spare held fuel _ y hy N hN
  obtain ⟨b, hb, hrb⟩ := h2.2 H enc w spare held fuel cs N (fun i f' hf => h (i + 1) f' (by simpa using hf)) (by omega)
  refine ⟨(a, b), ⟨ha, hb⟩, ?_⟩
  rw [ho, h1.1] at hra
  have : cs.drop off = (cs.drop off).take sz1 ++ cs.drop (off + sz1) := by
    rw [← List.drop_drop]; exact (List.take_append_drop sz1 _).symm
  rw [this]
  exact hra.append hrb
theorem rd_struct {fs : Array Field} {α β : Type} {sz : Nat} {f : α → List FV} {p : Nat → α → Prop} (ht : P.underlying t = some (.struct fs)) (hc : P.cellsOf t = sz) (h : RdF P fs.toList 0 sz f p) (g : α → β) {f' : β → List FV} {p' : Nat → β → Prop} (hf : ∀ x, f' (g x) = f x) (hp : ∀ N x, p N x → p' N (g x)) (hl : ∀ y, (f' y).length = sz) : Rd P t sz f' p' := by
  refine ⟨hc, hl, fun H enc w spare held fuel cs y hy N hN => ?_⟩
  obtain ⟨xs, n, rfl, rfl, h1, h2, h3⟩ := DataW.trod_struct ht hy
  simp only [bulk] at hN
  obtain ⟨x, hx, hr⟩ := h.2 H enc w spare held n cs N (fun i fl hfl => by
    have hi : i < xs.length := by
      rw [h2]
      have := (List.getElem?_eq_some_iff.1 hfl).1
      simpa using this
    refine ⟨xs[i], by rw [h3 i fl (by simpa using hfl), List.getElem?_eq_getElem hi], ?_⟩
    have := bulk_mem (l := xs.map (·.1)) (d := xs[i].1) (List.mem_map.2 ⟨_, List.getElem_mem hi, rfl⟩)
    omega) (by omega)
  exact ⟨g x, hp N x hx, by rw [hf]; simpa using hr⟩
theorem rd_all {w : World} {α : Type} {f : α → List FV} {p : α → Prop} {g : Nat → List Value} : ∀ n, (∀ i, i < n → ∃ x, p x ∧ RFs w (fun b => b < w.heap.size) (fun _ => False) (fun _ => (0, 0)) (f x) (g i)) →
    ∃ xs : List α, xs.length = n ∧ (∀ x ∈ xs, p x) ∧ RFs w (fun b => b < w.heap.size) (fun _ => False) (fun _ => (0, 0)) (xs.map f).flatten ((List.range n).map g).flatten
  | 0, _ => ⟨[], rfl, fun _ h => (by cases h), .nil⟩
  | n + 1, h => by
    obtain ⟨xs, h1, h2, h3⟩ := rd_all n fun i hi => h i (by omega)
    obtain ⟨x, hx, hr⟩ := h n (by omega)
    refine ⟨xs ++ [x], by simp [h1], fun y hy => ?_, ?_⟩
    · rcases List.mem_append.1 hy with hy | hy
      · exact h2 y hy
      · rw [List.mem_singleton.1 hy]; exact hx
    · rw [List.range_succ]
      simpa using h3.append hr
theorem flat_at {sz : Nat} (h0 : 0 < sz) {g : Nat → List Value} (hg : ∀ i, (g i).length = sz) : ∀ n j v, (((List.range n).map g).flatten)[j]? = some v → j / sz < n ∧ (g (j / sz))[j % sz]? = some v
  | 0, j, v, h => by simp at h
  | n + 1, j, v, h => by
    rw [List.range_succ, List.map_append, List.flatten_append] at h
    have hl : (((List.range n).map g).flatten).length = n * sz := by
      clear h
      induction n with
      | zero => simp
      | succ n ih => rw [List.range_succ, List.map_append, List.flatten_append, List.length_append, ih]; simp [hg, Nat.succ_mul]
    rcases Nat.lt_or_ge j (n * sz) with hj | hj
    · rw [List.getElem?_append_left (by omega)] at h
      obtain ⟨a, b⟩ := flat_at h0 hg n j v h
      exact ⟨by omega, b⟩
    · rw [List.getElem?_append_right (by omega), hl] at h
      have h' : (g n)[j - n * sz]? = some v := by simpa using h
      have hlt := (List.getElem?_eq_some_iff.1 h').1
      rw [hg] at hlt
      have e : j = (j - n * sz) + n * sz := by omega
      have e1 : j / sz = n := by rw [e, Nat.add_mul_div_right _ _ h0, Nat.div_eq_of_lt hlt]; omega
      have e2 : j % sz = j - n * sz := by
        rw [show j % sz = ((j - n * sz) + n * sz) % sz by rw [← e], Nat.add_mul_mod_self_right, Nat.mod_eq_of_lt hlt]
      exact ⟨by omega, by rw [e1, e2]; exact h'⟩
theorem cells?_get {w : World} {a : Addr} {n : Nat} {cs : List Value} (h : w.cells? 0 a n = some cs) : cs.length = n ∧ ∀ j v, cs[j]? = some v → w.cell? (a.add j) = some v := by
  unfold World.cells? at h
  split at h
  · have hl := Lib.mapM_length h
    refine ⟨by simpa using hl, fun j v hv => ?_⟩
    have hj : j < n := by
      have := (List.getElem?_eq_some_iff.1 hv).1
      rw [hl] at this; simpa using this
    obtain ⟨b, hb, hf⟩ := Lib.mapM_at h j j (by simp [hj])
    rw [hv] at hb
    obtain rfl := Option.some.inj hb
    exact hf
  · cases h
theorem rd_slice {α : Type} {sz : Nat} {f : α → List FV} {p : Nat → α → Prop} (ht : P.underlying t = some (.slice e)) (hc : P.cellsOf t = 1) (h0 : 0 < sz) (h : Rd P e sz f p) : Rd P t 1 (fun xs : List α => [.list sz (xs.map f)]) (fun N xs => xs.length ≤ N ∧ ∀ x ∈ xs, p N x) := by
  obtain ⟨hce, hlen, hrd⟩ := h
  refine ⟨hc, fun _ => rfl, fun H enc w spare held fuel cs y hy N hN => ?_⟩
  rcases DataW.trod_slice ht hy with ⟨rfl, _⟩ | ⟨a, len, cap, elems, rest, n, rfl, rfl, rfl, hb, hl, hm, hel, hat, _, _⟩
  · exact ⟨[], ⟨Nat.zero_le _, fun _ h => (by cases h)⟩, .cons _ _ _ _ (.list sz [] none 0 [] (by simp) (by simp) (by simp) .nil) .nil⟩
  · simp only [bulk] at hN
    have hmem : ∀ i (hi : i < len), bulk (elems[i]'(by omega)).1 ≤ N := fun i hi => by
      have := bulk_mem (l := elems.map (·.1)) (d := (elems[i]'(by omega)).1) (List.mem_map.2 ⟨_, List.getElem_mem _, rfl⟩)
      omega
    have hlN : len ≤ N := by
      have := bulk_len (elems.map (·.1))
      simp only [List.length_map] at this
      omega
    have each : ∀ i, i < len → ∃ c, w.cells? 0 (a.add (i * sz)) sz = some c ∧ ∃ x, p N x ∧ RFs w (fun b => b < w.heap.size) (fun _ => False) (fun _ => (0, 0)) (f x) c := fun i hi => by
      have := hat i hi
      rw [List.getElem?_eq_getElem (by omega), Option.bind_eq_some_iff, hce] at this
      obtain ⟨c, h1, h2⟩ := this
      obtain ⟨x, hx, hr⟩ := hrd H enc w spare held n c _ h2 N (hmem i hi)
      exact ⟨c, h1, x, hx, hr⟩
    let g : Nat → List Value := fun i => if hi : i < len then (each i hi).choose else List.replicate sz default
    have hg : ∀ i (hi : i < len), g i = (each i hi).choose := fun i hi => by simp [g, hi]
    have hgl : ∀ i, (g i).length = sz := fun i => by
      by_cases hi : i < len
      · rw [hg i hi]; exact (cells?_get (each i hi).choose_spec.1).1
      · simp [g, hi]
    obtain ⟨xs, k1, k2, k3⟩ := rd_all (p := p N) (f := f) (w := w) (g := g) len fun i hi => by
      rw [hg i hi]; exact (each i hi).choose_spec.2
    have hcell : ∀ (j : Nat) (v : Value), (((List.range len).map g).flatten)[j]? = some v → w.cell? (a.add j) = some v := fun j v hv => by
      obtain ⟨d1, d2⟩ := flat_at h0 hgl len j v hv
      rw [hg _ d1] at d2
      have := (cells?_get (each _ d1).choose_spec.1).2 _ _ d2
      rw [add_add] at this
      rwa [show j / sz * sz + j % sz = j by rw [Nat.mul_comm]; exact Nat.div_add_mod j sz] at this
    refine ⟨xs, ⟨by omega, k2⟩, .cons _ _ _ _ ?_ .nil⟩
    have := RF.list (w := w) (F := fun b => b < w.heap.size) (U := fun _ => False) (m := fun _ => (0, 0)) sz (xs.map f) (some a) cap ((List.range len).map g).flatten (fun x hx => by
      obtain ⟨z, _, rfl⟩ := List.mem_map.1 hx; exact hlen z) (by simp; omega) (fun hne => ⟨a, rfl, ?_, hcell⟩) k3
    · rw [List.length_map, k1] at this; exact this
    · have hl0 : 0 < len := by
        rcases Nat.eq_zero_or_pos len with h | h
        · rw [h] at k1
          rw [List.eq_nil_of_length_eq_zero k1] at hne
          exact absurd rfl hne
        · exact h
      obtain ⟨v0, hv0⟩ : ∃ v, (g 0)[0]? = some v := ⟨(g 0)[0]'(by rw [hgl]; exact h0), List.getElem?_eq_getElem _⟩
      rw [hg 0 hl0] at hv0
      have := (cells?_get (each 0 hl0).choose_spec.1).2 0 _ hv0
      rcases Nat.lt_or_ge a.block w.heap.size with h' | h'
      · exact h'
      · exfalso
        have e : w.heap[a.block]? = none := by simp [h']
        simp [World.cell?, block_add, e] at this
/-- an argument of a slice's type -/
theorem Rd.slice {α : Type} {f : α → List FV} {p : Nat → α → Prop} (h : Rd P t 1 f p) {H : Type} {enc : TypeId × Value → H} {w : World} {spare : Nat → Bool} {held : Bool} {a : Option Addr} {l c : Nat} {d : DataW H} {ps : List MemPlace} (ht : DataW.Trod enc P w 0 spare held t (.slice a l c) d ps) :
    ∃ x, p (bulk d) x ∧ RFs w (fun b => b < w.heap.size) (fun _ => False) (fun _ => (0, 0)) (f x) [.slice a l c] := by
  obtain ⟨n, hn⟩ := ht
  exact h.2.2 H enc w spare held n _ _ (by simpa [Value.cells] using hn) _ (Nat.le_refl _)
/-- an argument of a struct's type -/
theorem Rd.struct {α : Type} {sz : Nat} {f : α → List FV} {p : Nat → α → Prop} (h : Rd P t sz f p) {H : Type} {enc : TypeId × Value → H} {w : World} {spare : Nat → Bool} {held : Bool} {cs : Array Value} {d : DataW H} {ps : List MemPlace} (ht : DataW.Trod enc P w 0 spare held t (.agg cs) d ps) :
    ∃ x, p (bulk d) x ∧ RFs w (fun b => b < w.heap.size) (fun _ => False) (fun _ => (0, 0)) [.agg (f x)] [.agg cs] := by
  obtain ⟨n, hn⟩ := ht
  obtain ⟨x, hx, hr⟩ := h.2.2 H enc w spare held n _ _ (by simpa [Value.cells] using hn) _ (Nat.le_refl _)
  exact ⟨x, hx, .cons _ _ _ _ (by simpa using RF.agg (f x) cs.toList hr) .nil⟩
end
end Go.FM
namespace Go.FM
open Go

/-! ### closed calls, run by the kernel -/
theorem toH_nil : toH .nil = noH := by
  funext l
  rcases loc_cases l with ⟨k, rfl⟩ | hl
  · rw [toH_eq, T.get_nil]; simp [noH]
  · exact toH_other _ l hl
noncomputable def xAns (P : Program) (orc : Orc) (f : FuncId) (A : List FV) : Option FV := (xCall P orc 200 60 0 f A .nil 0).map (·.1)
theorem xAns_pc {P : Program} {G : List (Nat × List Value)} {orc : Orc} (ho : OrcOk P G orc) {f : FuncId} {A : List FV} {r : FV} (h : xAns P orc f A = some r) (hr : nl r = true) : PC P G f A r := by
  unfold xAns at h
  rw [Option.map_eq_some_iff] at h
  obtain ⟨⟨r', hp, n⟩, hc, rfl⟩ := h
  have h1 := (xCall_ok ho 200 60 0 f A .nil 0 r' hp n hc).1
  rw [toH_nil] at h1
  exact PC_of_FC h1 hr
end Go.FM
namespace Go.FM
open Go

/-! ### a named block that is not written any more: its rows stand in the values that lead to it -/
section
variable (l0 : Loc) (sz0 : Nat) (xs0 : List (List FV))
mutual
def fz : FV → FV
  | .ptr l sz i off => if l = l0 then .undef else .ptr l sz i off
  | .sl l sz off len => if l = l0 then (if sz = sz0 ∧ off + len ≤ xs0.length then .list sz0 ((xs0.drop off).take len) else .undef) else .sl l sz off len
  | .mp l => if l = l0 then .undef else .mp l
  | .agg cs => .agg (fzs cs)
  | .tup cs => .tup (fzs cs)
  | .clo f a b => .clo f (fzs a) (fzs b)
  | .list sz ys => if nlss ys = true then .list sz ys else .undef
  | .ref cs => if nls cs = true then .ref cs else .undef
  | .undef => .undef
  | .int k n => .int k n
  | .bool b => .bool b
  | .str s => .str s
  | .nilp => .nilp
  | .nils => .nils
  | .nilm => .nilm
  | .nilf => .nilf
  | .emp => .emp
def fzs : List FV → List FV
  | [] => []
  | v :: vs => fz v :: fzs vs
end
def fzss : List (List FV) → List (List FV)
  | [] => []
  | v :: vs => fzs l0 sz0 xs0 v :: fzss vs
def fze : List (FV × FV × Nat) → List (FV × FV × Nat)
  | [] => []
  | (k, v, n) :: es => (fz l0 sz0 xs0 k, fz l0 sz0 xs0 v, n) :: fze es
def fzT : Asg → Asg
  | [] => []
  | (k, v) :: r => (k, fz l0 sz0 xs0 v) :: fzT r
def fzO : FO → FO
  | .cells T sz xs => .cells T sz (fzss l0 sz0 xs0 xs)
  | .map es clk => .map (fze l0 sz0 xs0 es) clk
  | .iter x a b c => .iter (fz l0 sz0 xs0 x) a b c
  | .dead => .dead
def fzH (H : Heap) : Heap := fun k => if k = l0 then none else (H k).map (fzO l0 sz0 xs0)
end
section
variable {l0 : Loc} {sz0 : Nat} {xs0 : List (List FV)} {w : World} {F F' : Nat → Prop} {U U' : Loc → Prop} {m : Loc → Nat × Nat}
theorem fzs_length (vs : List FV) : (fzs l0 sz0 xs0 vs).length = vs.length := by
  induction vs with
  | nil => rfl
  | cons v vs ih => simp [fzs, ih]
theorem fzss_length (vs : List (List FV)) : (fzss l0 sz0 xs0 vs).length = vs.length := by
  induction vs with
  | nil => rfl
  | cons v vs ih => simp [fzss, ih]
theorem fzs_append (a b : List FV) : fzs l0 sz0 xs0 (a ++ b) = fzs l0 sz0 xs0 a ++ fzs l0 sz0 xs0 b := by
  induction a with
  | nil => rfl
  | cons v vs ih => simp [fzs, ih]
theorem fzss_append (a b : List (List FV)) : fzss l0 sz0 xs0 (a ++ b) = fzss l0 sz0 xs0 a ++ fzss l0 sz0 xs0 b := by
  induction a with
  | nil => rfl
  | cons v vs ih => simp [fzss, ih]
theorem fzss_flatten (a : List (List FV)) : (fzss l0 sz0 xs0 a).flatten = fzs l0 sz0 xs0 a.flatten := by
  induction a with
  | nil => rfl
  | cons v vs ih => simp [fzss, fzs_append, ih]
theorem fzss_mem {sz : Nat} {a : List (List FV)} (h : ∀ x ∈ a, x.length = sz) : ∀ x ∈ fzss l0 sz0 xs0 a, x.length = sz := by
  induction a with
  | nil => intro x hx; cases hx
  | cons v vs ih =>
    intro x hx
    rcases List.mem_cons.1 hx with rfl | hx
    · rw [fzs_length]; exact h v (by simp)
    · exact ih (fun y hy => h y (by simp [hy])) x hx
mutual
theorem fz_nl {a : FV} (h : nl a = true) : fz l0 sz0 xs0 a = a := by
  match a with
  | .ptr .. => simp [nl] at h
  | .sl .. => simp [nl] at h
  | .mp .. => simp [nl] at h
  | .agg cs => simp only [nl] at h; simp only [fz, fzs_nl h]
  | .tup cs => simp only [nl] at h; simp only [fz, fzs_nl h]
  | .clo f x y => simp only [nl, Bool.and_eq_true] at h; simp only [fz, fzs_nl h.1, fzs_nl h.2]
  | .list .. => simp only [nl] at h; simp [fz, h]
  | .ref .. => simp only [nl] at h; simp [fz, h]
  | .undef => rfl
  | .int .. => rfl
  | .bool _ => rfl
  | .str _ => rfl
  | .nilp => rfl
  | .nils => rfl
  | .nilm => rfl
  | .nilf => rfl
  | .emp => rfl
theorem fzs_nl {as : List FV} (h : nls as = true) : fzs l0 sz0 xs0 as = as := by
  match as with
  | [] => rfl
  | a :: as => simp only [nls, Bool.and_eq_true] at h; simp only [fzs, fz_nl h.1, fzs_nl h.2]
end
theorem fzss_nl {xs : List (List FV)} (h : nlss xs = true) : fzss l0 sz0 xs0 xs = xs := by
  induction xs with
  | nil => rfl
  | cons a as ih => simp only [nlss, Bool.and_eq_true] at h; simp only [fzss, fzs_nl h.1, ih h.2]
/-- what is known of the block -/
structure FzB (w : World) (F' : Nat → Prop) (m : Loc → Nat × Nat) (l0 : Loc) (sz0 : Nat) (xs0 : List (List FV)) : Prop where
  nms : nlss xs0 = true
  obj : (xs0 = [] ∧ (m l0).2 = 0) ∨ ((m l0).2 ≠ 0 ∧ F' (m l0).1 ∧ ∃ (T : TypeId) (c : Array Value), w.heap[(m l0).1]? = some (.cells c T (0, 0)) ∧ (∀ x ∈ xs0, x.length = sz0) ∧
      RFs w F' (fun _ => False) m xs0.flatten (c.toList.take (xs0.length * sz0)))
mutual
theorem RF.fz {a : FV} {v : Value} (h : RF w F U m a v) (hB : FzB w F' m l0 sz0 xs0) (hF : ∀ b, F b → F' b) (hU : ∀ l, U l → l ≠ l0 → U' l) : RF w F' U' m (fz l0 sz0 xs0 a) v := by
  match a with
  | .ptr l sz i off =>
    simp only [FM.fz]
    split
    · exact .undef _
    · rename_i hne
      cases h with
      | ptr _ _ _ _ hu => exact .ptr l sz i off (hU l hu hne)
  | .mp l =>
    simp only [FM.fz]
    split
    · exact .undef _
    · rename_i hne
      cases h with
      | mp _ hu => exact .mp l (hU l hu hne)
  | .sl l sz off len =>
    simp only [FM.fz]
    split
    · rename_i he
      subst he
      split
      · rename_i hc
        obtain ⟨rfl, hlen⟩ := hc
        have hcl : ((xs0.drop off).take len).length = len := by simp; omega
        rcases hB.obj with ⟨hx0, h0⟩ | ⟨h0, hF0, T, c, g1, g3, g5⟩
        · have hl0 : len = 0 := by rw [hx0] at hlen; simp at hlen; omega
          subst hl0
          rw [List.take_zero]
          cases h with
          | sl _ _ _ _ cap o hu hcap ho hs => exact .list sz [] _ cap [] (by simp) (by simp) (by simp) .nil
          | sl0 => exact .list sz [] _ 0 [] (by simp) (by simp) (by simp) .nil
        · have hpart := (g5.drop (off * sz)).take (len * sz)
          rw [← drop_flatten off xs0 g3, ← take_flatten len _ (fun x hx => g3 x (List.mem_of_mem_drop hx))] at hpart
          have k4 : ∀ x ∈ (xs0.drop off).take len, x.length = sz := fun x hx => g3 x (List.mem_of_mem_drop (List.mem_of_mem_take hx))
          have hnl : nls ((xs0.drop off).take len).flatten = true := by
            rw [← nlss_flatten]
            have : ∀ (ys : List (List FV)), nlss ys = ys.all nls := fun ys => by
              induction ys with
              | nil => rfl
              | cons y ys ih => simp [nlss, ih]
            have hb := hB.nms
            rw [this, List.all_eq_true] at hb ⊢
            exact fun x hx => hb x (List.mem_of_mem_drop (List.mem_of_mem_take hx))
          have hp2 := hpart.nameless hnl U' m
          cases h with
          | sl _ _ _ _ cap o hu hcap ho hs =>
            have := RF.list (w := w) (F := F') (U := U') (m := m) sz _ (some ⟨(m l).1, o, none⟩) cap _ k4 (by omega) (fun hne => ?_) hp2
            · rw [hcl] at this; exact this
            · have hpos : 0 < len := by
                rcases Nat.eq_zero_or_pos len with e | e
                · exact absurd (List.eq_nil_of_length_eq_zero (by omega)) hne
                · exact e
              have ho' : o = off * sz := ho.resolve_left (by omega)
              refine ⟨_, rfl, hF0, fun j u hj => ?_⟩
              rw [List.getElem?_take] at hj
              split at hj
              · rename_i hjl
                rw [List.getElem?_drop, List.getElem?_take] at hj
                split at hj
                · rw [add0, cell_blk g1, ho']; simpa using hj
                · cases hj
              · cases hj
          | sl0 _ _ _ _ hu h00 => exact absurd h00 h0
      · exact .undef _
    · rename_i hne
      cases h with
      | sl _ _ _ _ cap o hu hc ho hs => exact .sl l sz off len cap o (hU l hu hne) hc ho hs
      | sl0 _ _ _ A hu h0 => exact .sl0 l sz off A (hU l hu hne) h0
  | .agg cs =>
    cases h with
    | agg _ vs h => simp only [FM.fz]; exact .agg _ vs (RFs.fz h hB hF hU)
  | .tup cs =>
    cases h with
    | tup _ vs h => simp only [FM.fz]; exact .tup _ vs (RFs.fz h hB hF hU)
  | .clo f x y =>
    cases h with
    | clo _ _ _ us vs h1 h2 => simp only [FM.fz]; exact .clo f _ _ us vs (RFs.fz h1 hB hF hU) (RFs.fz h2 hB hF hU)
  | .list sz ys =>
    simp only [FM.fz]
    split
    · rename_i hn
      exact (h.keep (w' := w) (F' := F') (U' := U) (m' := m) hF (fun _ _ => rfl) (fun _ h => h) (fun _ _ => rfl)).nameless (by simpa [nl] using hn) _ _
    · exact .undef _
  | .ref cs =>
    simp only [FM.fz]
    split
    · rename_i hn
      exact (h.keep (w' := w) (F' := F') (U' := U) (m' := m) hF (fun _ _ => rfl) (fun _ h => h) (fun _ _ => rfl)).nameless (by simpa [nl] using hn) _ _
    · exact .undef _
  | .undef => exact .undef _
  | .int .. => exact (h.keep (w' := w) (F' := F') (U' := U) (m' := m) hF (fun _ _ => rfl) (fun _ h => h) (fun _ _ => rfl)).nameless rfl _ _
  | .bool _ => exact (h.keep (w' := w) (F' := F') (U' := U) (m' := m) hF (fun _ _ => rfl) (fun _ h => h) (fun _ _ => rfl)).nameless rfl _ _
  | .str _ => exact (h.keep (w' := w) (F' := F') (U' := U) (m' := m) hF (fun _ _ => rfl) (fun _ h => h) (fun _ _ => rfl)).nameless rfl _ _
  | .nilp => exact (h.keep (w' := w) (F' := F') (U' := U) (m' := m) hF (fun _ _ => rfl) (fun _ h => h) (fun _ _ => rfl)).nameless rfl _ _
  | .nils => exact (h.keep (w' := w) (F' := F') (U' := U) (m' := m) hF (fun _ _ => rfl) (fun _ h => h) (fun _ _ => rfl)).nameless rfl _ _
  | .nilm => exact (h.keep (w' := w) (F' := F') (U' := U) (m' := m) hF (fun _ _ => rfl) (fun _ h => h) (fun _ _ => rfl)).nameless rfl _ _
  | .nilf => exact (h.keep (w' := w) (F' := F') (U' := U) (m' := m) hF (fun _ _ => rfl) (fun _ h => h) (fun _ _ => rfl)).nameless rfl _ _
  | .emp => exact (h.keep (w' := w) (F' := F') (U' := U) (m' := m) hF (fun _ _ => rfl) (fun _ h => h) (fun _ _ => rfl)).nameless rfl _ _
theorem RFs.fz {as : List FV} {vs : List Value} (h : RFs w F U m as vs) (hB : FzB w F' m l0 sz0 xs0) (hF : ∀ b, F b → F' b) (hU : ∀ l, U l → l ≠ l0 → U' l) : RFs w F' U' m (fzs l0 sz0 xs0 as) vs := by
  match as with
  | [] => cases h; exact .nil
  | a :: as =>
    cases h with
    | cons _ v _ vs h hs => exact .cons _ v _ vs (RF.fz h hB hF hU) (RFs.fz hs hB hF hU)
end
theorem REs.fz {es : List (FV × FV × Nat)} {as : List MapEntry} (h : REs w F U m es as) (hB : FzB w F' m l0 sz0 xs0) (hF : ∀ b, F b → F' b) (hU : ∀ l, U l → l ≠ l0 → U' l) : REs w F' U' m (fze l0 sz0 xs0 es) as := by
  induction es generalizing as with
  | nil => cases h; exact .nil
  | cons e es ih =>
    cases h with
    | cons _ x _ xs h hs =>
      obtain ⟨k, v, n⟩ := e
      exact .cons _ x _ xs ⟨h.key.fz hB hF hU, h.val.fz hB hF hU, h.born⟩ (ih hs)
end
theorem lk_fzT (l0 : Loc) (sz0 : Nat) (xs0 : List (List FV)) (tm : Asg) (t : Nat) : lk (fzT l0 sz0 xs0 tm) t = fz l0 sz0 xs0 (lk tm t) := by
  induction tm with
  | nil => rfl
  | cons e r ih =>
    obtain ⟨k, v⟩ := e
    simp only [fzT, lk]
    split
    · rfl
    · exact ih
theorem getD_fzs (l0 : Loc) (sz0 : Nat) (xs0 : List (List FV)) (vs : List FV) (t : Nat) : (fzs l0 sz0 xs0 vs).getD t .undef = fz l0 sz0 xs0 (vs.getD t .undef) := by
  induction vs generalizing t with
  | nil => rfl
  | cons v vs ih =>
    cases t with
    | zero => rfl
    | succ t => simpa [fzs] using ih t
theorem gk_fz {c : Cfg} {vs : List FV} {tm : Asg} {H : Heap} {ix : List Nat} (l0 : Loc) (T0 : TypeId) (sz0 : Nat) (xs0 : List (List FV)) (hc : ∀ l, ¬ c.L l) (hl : H l0 = some (.cells T0 sz0 xs0)) (hn : nlss xs0 = true) :
    Gk c (FS.mk (fzs l0 sz0 xs0 vs) (fzT l0 sz0 xs0 tm) (fzH l0 sz0 xs0 H) ix) ⟨vs, tm, H, ix⟩ := by
  rintro X a w ⟨hN, F, m, h1, h2, h⟩
  have hH0 : ∀ l, X.H0 l = none := fun l => by
    cases e : X.H0 l with
    | none => rfl
    | some o => exact absurd (h1.hd l (by simp [e])) (hc l)
  have hlent : ∀ b, ¬ X.lent b := fun b ⟨l, ⟨o, ho, _⟩, _⟩ => by rw [hH0] at ho; cases ho
  let F' : Nat → Prop := fun b => F b ∨ (Live H m l0 ∧ (m l0).1 = b)
  have hF : ∀ b, F b → F' b := fun _ h => .inl h
  have hU : ∀ l, H l ≠ none → l ≠ l0 → fzH l0 sz0 xs0 H l ≠ none := fun l hl' hne => by
    cases e : H l with
    | none => exact absurd e hl'
    | some o => simp [fzH, hne, e]
  have hB : FzB w F' m l0 sz0 xs0 := by
    refine ⟨hn, ?_⟩
    rcases h.heap.obj l0 _ hl with ⟨g1, g2⟩ | ⟨g0, cc, g1, g2, g3, g4, g5⟩
    · exact .inl ⟨g1, g2⟩
    · refine .inr ⟨g0, .inr ⟨⟨_, hl, by simp, g0⟩, rfl⟩, T0, cc, g1, g3, ?_⟩
      exact (g5.keep (w' := w) (F' := F') (U' := fun l => H l ≠ none) (m' := m) hF (fun _ _ => rfl) (fun _ h => h) (fun _ _ => rfl)).nameless (by rw [← nlss_flatten]; exact hn) _ _
  have hlive : ∀ l, Live (fzH l0 sz0 xs0 H) m l → l ≠ l0 ∧ Live H m l := fun l ⟨o, g1, g2, g3⟩ => by
    unfold fzH at g1
    split at g1
    · cases g1
    · rename_i hne
      rw [Option.map_eq_some_iff] at g1
      obtain ⟨o', g1, rfl⟩ := g1
      refine ⟨hne, o', g1, ?_, g3⟩
      rintro rfl
      exact g2 rfl
  refine ⟨hN, F', m, h1.more hF, fun y hy => ?_, ?_⟩
  · rcases hy with hy | ⟨hy, rfl⟩
    · exact h2 y hy
    · exact .inr ((h.own l0 hy).resolve_left (hlent _))
  refine { df := h.df, vsz := by rw [fzs_length]; exact h.vsz, val := fun t => ?_, heap := ⟨fun l o ho => ?_, fun k k' hk hk' e => h.heap.inj k k' (hlive k hk).2 (hlive k' hk').2 e, fun k hk => ?_⟩, own := fun l hl => h.own l (hlive l hl).2,
           ext := fun l hl => absurd (hH0 l) hl, mfix := fun l hl => absurd (hH0 l) hl, frz := fun b hb => ?_, keep := h.keep, size := h.size, os := h.os, tape := h.tape, output := h.output }
  · have hv := h.val t
    have e : (FS.mk (fzs l0 sz0 xs0 vs) (fzT l0 sz0 xs0 tm) (fzH l0 sz0 xs0 H) ix).get t = fz l0 sz0 xs0 ((FS.mk vs tm H ix).get t) := by
      simp only [FS.get, fzs_length]
      split
      · exact getD_fzs ..
      · exact lk_fzT ..
    rw [e]
    exact hv.fz hB hF hU
  · simp only [fzH] at ho
    split at ho
    · cases ho
    · rename_i hne
      rw [Option.map_eq_some_iff] at ho
      obtain ⟨o', ho', rfl⟩ := ho
      have hob := h.heap.obj l o' ho'
      cases o' with
      | cells T sz xs =>
        simp only [fzO, OR] at hob ⊢
        rcases hob with ⟨b1, b2⟩ | ⟨b0, cc, b1, b2, b3, b4, b5⟩
        · left; subst b1; exact ⟨rfl, b2⟩
        · right
          refine ⟨b0, cc, b1, b2, fzss_mem b3, by rw [fzss_length]; exact b4, ?_⟩
          rw [fzss_length, fzss_flatten]
          exact b5.fz hB hF hU
      | map es clk =>
        simp only [fzO, OR] at hob ⊢
        obtain ⟨b0, aa, b1, b2⟩ := hob
        exact ⟨b0, aa, b1, b2.fz hB hF hU⟩
      | iter x q r t =>
        simp only [fzO, OR] at hob ⊢
        obtain ⟨b0, aa, b1, b2⟩ := hob
        exact ⟨b0, aa, b1.fz hB hF hU, b2⟩
      | dead => trivial
  · obtain ⟨hne, hk'⟩ := hlive k hk
    obtain ⟨g1, g2⟩ := h.heap.old k hk'
    refine ⟨g1, ?_⟩
    rintro (hy | ⟨hy, e⟩)
    · exact g2 hy
    · exact hne (h.heap.inj k l0 hk' hy e.symm)
  · rcases hb with hb | ⟨hb, rfl⟩
    · exact h.frz b hb
    · exact (h.heap.old l0 hb).1

/-! ### a head that builds a slice of no elements -/
section
variable {P : Program} {c : Cfg} {ops : Array Oper} {o : Oper} {rest : List Oper} {s : FS} {K : FS → Prop}
theorem wBuild0_ok {t : TypeId} (ht : (slT P t).isSome = true) (ho : o.op = .buildSlice t 0 #[]) : WOk P s o [] .emp := by
  intro X F m a w h
  obtain ⟨⟨e, sz⟩, ht⟩ := Option.isSome_iff_exists.1 ht
  obtain ⟨hu, hz⟩ := slT_some ht
  have hrun : (Instr.buildSlice t 0 #[]).run P w = .ok (.slice (some ⟨w.heap.size, 0, none⟩) 0 0) (w.alloc (.cells #[] e (0, 0))) := by
    simp only [Instr.buildSlice, Sem.run_bind, run_underlying hu, Result.andThen_ok, run_szT hz, newRow]
    have e2 : ∀ f : Nat → Value, (Array.range 0).map f = #[] := fun f => by simp
    simp [Instr.fill, newRow, Sem.run]
    rw [e2]
  refine ⟨m, .slice (some ⟨w.heap.size, 0, none⟩) 0 0, w.alloc (.cells #[] e (0, 0)), .inl (by simp only [execOp, ho, Sem.run_bind]; simp [hrun]), ?_, .emp _⟩
  exact h.world (by show w.heap.size ≤ (w.heap.push _).size; simp) (fun b hb => by show (w.heap.push _)[b]? = _; rw [Array.getElem?_push, if_neg (by omega)]) rfl rfl rfl
theorem awH_emp {n k d : Nat} {H0 : Heap} {As : List Heap} (t : TypeId) (hk : k < n) (hd : depsB ops n k o = true) (ho : o.op = .buildSlice t 0 #[]) (ht : (slT P t).isSome = true) (hg : guardV ops o s = some true) (hdst : o.dst = some d) (hN : d < c.N)
    (h : awH P c ops n K H0 (k + 1) rest ({ s with H := ext s.H noH }.put d .emp) (As ++ [noH])) : awH P c ops n K H0 k (o :: rest) s As := by
  simp only [awH, hk, if_true]
  refine ⟨d, .emp, noH, H0, fun _ => False, ⟨hdst, hN, fun X s2 a w K Q h1 _ _ _ hR hK => ?_⟩, hd, fun _ h => absurd rfl h, fun _ h => h.elim, fun _ _ h => .inl h, h⟩
  have hg' : guardV ops o { s with H := H0 } = some true := hg
  rw [if_pos (guard_ok hR ((guardV_congr h1).trans hg'))]
  refine .inl (step_wp ((wBuild0_ok (s := s2) (o := o) ht ho).snd (c := c) (s' := s2.put d .emp) ?_) hR ?_)
  · simp only [putD, hdst, upds]
    rw [if_pos hN]
    try rfl
  · intro v w' hr
    exact hK v w' (by rw [ext_noH]; exact hr)
/-! ### a head that appends to a slice that it owns -/
theorem wApp_mono2 {H1 H : Heap} (hs : HSub H1 H) {nm : Loc} (hn : H nm = none) {t tx : TypeId} {x y : FV} {r : List (Loc × FO) × FV} (h : wApp P H1 nm t tx x y = some r) : wApp P H nm t tx x y = some r := by
  unfold wApp at h ⊢
  split at h
  case h_2 => cases h
  split at h
  case h_2 => cases h
  split at h
  case isFalse => cases h
  rename_i hc0
  split at h
  case h_2 => cases h
  rename_i hsrc
  split at h
  case isFalse => cases h
  rename_i hcell
  simp only [srcA_mono hs hsrc, hcell, hc0, if_true]
  split at h
  · split at h
    · rename_i hr; simp only [hr, if_true]; exact h
    · rename_i hr
      split at h
      case isFalse => cases h
      rename_i hc
      rw [Bool.and_eq_true, Bool.and_eq_true] at hc
      simp only [hr, hc.1, hc.2.1, hn, Option.isNone_none, Bool.and_self, if_true]
      exact h
  · split at h
    case isFalse => cases h
    rename_i hc
    rw [Bool.and_eq_true, Bool.and_eq_true] at hc
    simp only [hc.1, hc.2.1, hn, Option.isNone_none, Bool.and_self, if_true]
    exact h
  · split at h
    · rename_i hl
      simp only [hs _ _ hl]
      split at h
      case isFalse => cases h
      rename_i hc
      simp only [Bool.and_eq_true] at hc
      obtain ⟨⟨c1, c2⟩, c3, c4, c5, c6, c7⟩ := hc
      simp only [c1, c2, c3, c4, c5, c6, hn, Option.isNone_none, Bool.and_self, if_true]
      exact h
    · cases h
  · cases h
theorem awH_app {n k d j : Nat} {H0 Aj : Heap} {As : List Heap} {t tx e : TypeId} {x y : Operand} (l0 l1 : Loc) (ob0 ob1 : FO) (sz : Nat) (ys : List (List FV)) (v : FV) (hk : k < n) (hd : depsB ops n k o = true)
    (ho : o.op = .call { callee := .builtin .append, args := ⟨[x, y]⟩, argTypes := ⟨[t, tx]⟩ }) (hg : guardV ops o s = some true) (hdst : o.dst = some d) (hN : d < c.N)
    (hj : As[j]? = some Aj) (hw : waitsB o j = true) (h1 : Aj l1 = some ob1) (hs : s.H l0 = some ob0) (h0 : H0 l0 = none) (hAs : As.all (fun A => (A l0).isNone) = true) (hnm : s.H (c.nm d s.ix) = none)
    (hv : wApp P (upd (upd noH l1 ob1) l0 ob0) (c.nm d s.ix) t tx (rv s x) (rv s y) = some ([(l0, .dead), (c.nm d s.ix, .cells e sz ys)], v))
    (h : awH P c ops n K H0 (k + 1) rest ({ s with H := ext s.H (upds noH [(l0, .dead), (c.nm d s.ix, .cells e sz ys)]) }.put d v) (As ++ [upds noH [(l0, .dead), (c.nm d s.ix, .cells e sz ys)]])) : awH P c ops n K H0 k (o :: rest) s As := by
  simp only [awH, hk, if_true]
  have hne : c.nm d s.ix ≠ l0 := fun e => by rw [e, hs] at hnm; cases hnm
  refine ⟨d, v, _, upd (upd noH l1 ob1) l0 ob0, fun l => l = l0, calm2_wv hg (by simp [callee?, ho]) hdst hN (fun s2 g1 g2 g3 g4 => ?_), hd, fun l hl => ?_, fun l hl => ?_, fun l ob hl => ?_, h⟩
  · have e1 : rv s2 x = rv s x := g1 x (by rw [ho]; simp [Op.operands, Call.operands])
    have e2 : rv s2 y = rv s y := g1 y (by rw [ho]; simp [Op.operands, Call.operands])
    have hnm2 : s2.H (c.nm d s.ix) = none := g4 _ (by simp [upds, upd]) hne
    have := wApp_mono2 (P := P) g3 hnm2 hv
    simp only [wv, ho, g2, e1, e2]
    exact this
  · by_cases e : l = l0
    · exact .inl e
    · refine .inr ?_
      by_cases e' : l = c.nm d s.ix
      · rw [e']; exact hnm
      · exact absurd (by simp [upds, upd, e, e', noH]) hl
  · subst hl
    refine ⟨by simp [upds, upd, Ne.symm hne], h0, fun j' A' hj' => ?_⟩
    have := List.all_eq_true.1 hAs A' (List.mem_of_getElem? hj')
    simpa using this
  · simp only [upd] at hl
    split at hl
    · rename_i e; subst e
      obtain rfl := Option.some.inj hl
      exact .inr (.inl ⟨rfl, hs⟩)
    · split at hl
      · rename_i e; subst e
        obtain rfl := Option.some.inj hl
        exact .inr (.inr ⟨j, Aj, hj, hw, h1⟩)
      · cases hl
end
end Go.FM
